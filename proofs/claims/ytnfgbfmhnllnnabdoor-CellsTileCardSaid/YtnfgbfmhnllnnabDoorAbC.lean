/- Contracts, paths of code, cases.
Loops by themselves: what a loop comes to is what its rounds come to.
Contracts of functions by what they come to. -/
import Derived.Test.YtnfgbfmhnllnnabDoorAbB
import Derived.KernelRfl
namespace Go.Ab
open Go

theorem SoundC.of {P : Program} {f : FuncId} {g g' : Callee} (h : SoundC P f g) (ht : ∀ args conts (β : Type) (K : CV → List (List CV) → Option β) r, g'.run args conts β K = some r → g.run args conts β K = some r) : SoundC P f g' :=
  ⟨h.enter, fun args conts β K r hK => h.calls args conts β K r (ht args conts β K r hK)⟩

theorem fnC_run {cx : Cx} {fn : Func} {args : List CV} {conts : List (List CV)} {β : Type} {K : CV → List (List CV) → Option β} : (fnC cx fn).run args conts β K = fnK cx fn args conts K := rfl

theorem cond_some1 {b : Bool} {g g' : Callee} (h : (bif b then some g else none) = some g') : b = true ∧ g = g' := by
  cases b with
  | true => exact ⟨rfl, Option.some.inj h⟩
  | false => cases h

theorem eqOK_none {cx : Cx} (h : ∀ t, cx.eqT t = false) : EqOK cx := fun t ht => by rw [h t] at ht; cases ht

def bodyOf (f : Func) : Code := f.body.getD .skip

theorem pathN_pos : ∀ p, 1 ≤ pathN p
  | [] => Nat.le_refl 1
  | b :: p => by
    have := pathN_pos p
    simp only [pathN]
    omega

theorem pathN_inj : ∀ (p q : List Bool), pathN p = pathN q → p = q
  | [], [], _ => rfl
  | [], b :: q, h => by
    have := pathN_pos q
    simp only [pathN] at h
    omega
  | b :: p, [], h => by
    have := pathN_pos p
    simp only [pathN] at h
    omega
  | b :: p, c :: q, h => by
    simp only [pathN] at h
    have h1 : pathN p = pathN q := by cases b <;> cases c <;> simp at h <;> omega
    have h2 : b = c := by cases b <;> cases c <;> simp at h <;> first | rfl | omega
    rw [h2, pathN_inj p q h1]

/-- The loops of a function. -/
theorem LoopsS.of {cx : Cx} (h : ∀ k L, cx.Λ k = some L → ∃ p0, k = pathN p0 ∧ ∀ (vs : List CV) (cs : List (List CV)) (β : Type) (K : Exit → List CV → List (List CV) → Option β) (r : β), L.run vs cs β K = some r →
    ∃ n, loopB cx L.ins L.outs p0 ((codeAt cx.root (false :: p0)).getD .skip) n vs cs K = some r) : LoopsS cx := fun p L b hl hp vs cs β K r hr => by
  obtain ⟨p0, hk, hs⟩ := h _ L hl
  have := pathN_inj p p0 hk
  subst this
  obtain ⟨n, hn⟩ := hs vs cs β K r hr
  refine ⟨n, ?_⟩
  have e : codeAt cx.root (false :: p) = some b := by simp [codeAt, hp, childOf]
  rw [e] at hn
  exact hn

theorem cond_some2 {b : Bool} {g g' : LoopSem} (h : (bif b then some g else none) = some g') : b = true ∧ g = g' := by
  cases b with
  | true => exact ⟨rfl, Option.some.inj h⟩
  | false => cases h

/-- By what there is, or not. -/
def optE {α γ : Type} (o : Option α) (n : γ) (s : α → γ) : γ := match o with
  | some a => s a
  | none => n

theorem Nat3.optE {α A B C : Type} {o : Option α} {F : (β : Type) → (A → B → C → Option β) → Option β} {G : α → (β : Type) → (A → B → C → Option β) → Option β} (hF : Nat3 F) (hG : ∀ a, Nat3 (G a)) : Nat3 (fun β K => Ab.optE o (F β K) fun a => G a β K) := by
  cases o with
  | none => exact hF
  | some a => exact hG a

theorem Nat2.optE {α A B : Type} {o : Option α} {F : (β : Type) → (A → B → Option β) → Option β} {G : α → (β : Type) → (A → B → Option β) → Option β} (hF : Nat2 F) (hG : ∀ a, Nat2 (G a)) : Nat2 (fun β K => Ab.optE o (F β K) fun a => G a β K) := by
  cases o with
  | none => exact hF
  | some a => exact hG a

def gIn : Callee := ⟨fun args conts _ K => match args, conts with
  | [.int .i64 a, .int .i64 b, .int .i64 c], [] => K (.bool (cond (decide (a ≥ b)) (decide (a ≤ c)) false)) []
  | _, _ => none⟩

end Go.Ab

namespace Go.Ab
open Go

def Le3 {A B C : Type} (F G : (β : Type) → (A → B → C → Option β) → Option β) : Prop := (∃ a b c, (∀ β K, F β K = K a b c) ∧ ∀ β K, G β K = K a b c) ∨ ∀ β K, F β K = none
def Le2 {A B : Type} (F G : (β : Type) → (A → B → Option β) → Option β) : Prop := (∃ a b, (∀ β K, F β K = K a b) ∧ ∀ β K, G β K = K a b) ∨ ∀ β K, F β K = none

theorem Le3.of {A B C : Type} {F : (β : Type) → (A → B → C → Option β) → Option β} (h : Nat3 F) : Le3 F F := by
  rcases h with ⟨a, b, c, h⟩ | h
  · exact .inl ⟨a, b, c, h, h⟩
  · exact .inr h
theorem Le2.of {A B : Type} {F : (β : Type) → (A → B → Option β) → Option β} (h : Nat2 F) : Le2 F F := by
  rcases h with ⟨a, b, h⟩ | h
  · exact .inl ⟨a, b, h, h⟩
  · exact .inr h
theorem Le3.ret {A B C : Type} (a : A) (b : B) (c : C) : Le3 (fun _ K => K a b c) (fun _ K => K a b c) := .inl ⟨a, b, c, fun _ _ => rfl, fun _ _ => rfl⟩
theorem Le2.ret {A B : Type} (a : A) (b : B) : Le2 (fun _ K => K a b) (fun _ K => K a b) := .inl ⟨a, b, fun _ _ => rfl, fun _ _ => rfl⟩
theorem Le3.none {A B C : Type} {G : (β : Type) → (A → B → C → Option β) → Option β} : Le3 (fun β (_ : A → B → C → Option β) => (none : Option β)) G := .inr fun _ _ => rfl
theorem Le2.none {A B : Type} {G : (β : Type) → (A → B → Option β) → Option β} : Le2 (fun β (_ : A → B → Option β) => (none : Option β)) G := .inr fun _ _ => rfl
theorem Le3.bind {A B C γ : Type} (o : Option γ) {F G : γ → (β : Type) → (A → B → C → Option β) → Option β} (h : ∀ x, Le3 (F x) (G x)) : Le3 (fun β K => o.bind fun x => F x β K) (fun β K => o.bind fun x => G x β K) := by
  cases o with
  | none => exact .none
  | some x => exact h x
theorem Le2.bind {A B γ : Type} (o : Option γ) {F G : γ → (β : Type) → (A → B → Option β) → Option β} (h : ∀ x, Le2 (F x) (G x)) : Le2 (fun β K => o.bind fun x => F x β K) (fun β K => o.bind fun x => G x β K) := by
  cases o with
  | none => exact .none
  | some x => exact h x
theorem Le3.cond {A B C : Type} (b : Bool) {F G F' G' : (β : Type) → (A → B → C → Option β) → Option β} (hF : Le3 F F') (hG : Le3 G G') : Le3 (fun β K => bif b then F β K else G β K) (fun β K => bif b then F' β K else G' β K) := by cases b <;> assumption
theorem Le2.cond {A B : Type} (b : Bool) {F G F' G' : (β : Type) → (A → B → Option β) → Option β} (hF : Le2 F F') (hG : Le2 G G') : Le2 (fun β K => bif b then F β K else G β K) (fun β K => bif b then F' β K else G' β K) := by cases b <;> assumption
theorem Le3.seq3 {A B C D E G' : Type} {F F' : (β : Type) → (A → B → C → Option β) → Option β} (hF : Le3 F F') {G H : A → B → C → (β : Type) → (D → E → G' → Option β) → Option β} (hG : ∀ a b c, Le3 (G a b c) (H a b c)) : Le3 (fun β K => F β fun a b c => G a b c β K) (fun β K => F' β fun a b c => H a b c β K) := by
  rcases hF with ⟨a, b, c, h, h'⟩ | h
  · have := hG a b c
    simp only [h, h']
    exact this
  · exact .inr fun β K => h β _
theorem Le2.seq3 {A B C D E : Type} {F F' : (β : Type) → (A → B → C → Option β) → Option β} (hF : Le3 F F') {G H : A → B → C → (β : Type) → (D → E → Option β) → Option β} (hG : ∀ a b c, Le2 (G a b c) (H a b c)) : Le2 (fun β K => F β fun a b c => G a b c β K) (fun β K => F' β fun a b c => H a b c β K) := by
  rcases hF with ⟨a, b, c, h, h'⟩ | h
  · have := hG a b c
    simp only [h, h']
    exact this
  · exact .inr fun β K => h β _
theorem Le3.seq2 {A B D E G' : Type} {F F' : (β : Type) → (A → B → Option β) → Option β} (hF : Le2 F F') {G H : A → B → (β : Type) → (D → E → G' → Option β) → Option β} (hG : ∀ a b, Le3 (G a b) (H a b)) : Le3 (fun β K => F β fun a b => G a b β K) (fun β K => F' β fun a b => H a b β K) := by
  rcases hF with ⟨a, b, h, h'⟩ | h
  · have := hG a b
    simp only [h, h']
    exact this
  · exact .inr fun β K => h β _
theorem Le3.use {A B C : Type} {F G : (β : Type) → (A → B → C → Option β) → Option β} (h : Le3 F G) {β : Type} {K : A → B → C → Option β} {r : β} (hr : F β K = some r) : G β K = some r := by
  rcases h with ⟨a, b, c, h, h'⟩ | h
  · rw [h'] ; rw [h] at hr; exact hr
  · rw [h] at hr; cases hr
theorem Le2.use {A B : Type} {F G : (β : Type) → (A → B → Option β) → Option β} (h : Le2 F G) {β : Type} {K : A → B → Option β} {r : β} (hr : F β K = some r) : G β K = some r := by
  rcases h with ⟨a, b, h, h'⟩ | h
  · rw [h'] ; rw [h] at hr; exact hr
  · rw [h] at hr; cases hr

/-- The same, with other loops. -/
abbrev Cx.lam (cx : Cx) (Λ : Nat → Option LoopSem) : Cx := { cx with Λ := Λ }

section
variable {β : Type} {cx : Cx} {Λ' : Nat → Option LoopSem}

theorem opK_lam (o : Oper) (st : St) (h : H) (K : SV → H → Option β) : opK (cx.lam Λ') o st h K = opK cx o st h K := rfl

theorem opsK_lam {ops : Array Oper} : ∀ (is : List Nat) (st : St) (h : H) (K : St → H → Option β), opsK (cx.lam Λ') ops is st h K = opsK cx ops is st h K
  | [], _, _, _ => rfl
  | i :: is, st, h, K => by
    have ih := fun st h => opsK_lam (ops := ops) is st h K
    simp only [opsK, opK_lam, ih]
    rfl

theorem drawOne_lam (o : Oper) (st : St) (h : H) (K : FP → SV → H → Option β) : drawOne (cx.lam Λ') o st h K = drawOne cx o st h K := rfl

theorem drawK_lam {ops : Array Oper} : ∀ (js : List Nat) (tr : List Tr) (st : St) (h : H) (K : St → H → Option β), drawK (cx.lam Λ') ops js tr st h K = drawK cx ops js tr st h K
  | [], _, _, _, _ => rfl
  | j :: js, tr, st, h, K => by
    have ih := fun tr st h => drawK_lam (ops := ops) js tr st h K
    simp only [drawK, drawOne_lam, ih]
    rfl

theorem codeK_le (hΓ : NatX cx) (hΛ : ∀ q L, cx.Λ q = some L → NatL L) (hle : ∀ q L, cx.Λ q = some L → Λ' q = some L) : ∀ (n : Nat) (p : List Bool) (c : Code) (st : St) (h : H),
    Le3 (fun β K => codeK (β := β) cx n p c K st h) (fun β K => codeK (β := β) (cx.lam Λ') n p c K st h)
  | 0, p, c, st, h => .none
  | n + 1, p, c, st, h => by
    have ih := codeK_le hΓ hΛ hle n
    have norm : ∀ (p q : List Bool) (c : Code) (d : Code) (st : St) (h : H), Le3 (fun β (K : Exit → St → H → Option β) => codeK cx n p c (fun e st h => match e with | .normal => codeK cx n q d K st h | e => K e st h) st h)
        (fun β (K : Exit → St → H → Option β) => codeK (cx.lam Λ') n p c (fun e st h => match e with | .normal => codeK (cx.lam Λ') n q d K st h | e => K e st h) st h) := fun p q c d st h =>
      .seq3 (ih p c st h) fun e st h => by
        cases e with
        | normal => exact ih q d st h
        | _ => exact .ret _ _ _
    cases c with
    | skip => exact .ret _ _ _
    | label l => exact .ret _ _ _
    | exit id => exact .ret _ _ _
    | ret => exact .ret _ _ _
    | region id ops draw =>
      simp only [codeK, opsK_lam, drawK_lam]
      exact .cond _ (.cond _ (.seq2 (.of (drawK_nat hΓ _ _ _ _)) fun _ _ => .ret _ _ _) .none) (.seq2 (.of (opsK_nat hΓ _ _ _)) fun _ _ => .ret _ _ _)
    | seq a b => simp only [codeK]; exact norm _ _ _ _ _ _
    | cond o a b =>
      simp only [codeK]
      split
      · exact .cond _ (ih _ _ _ _) (ih _ _ _ _)
      · exact .none
    | block id b =>
      simp only [codeK]
      refine .seq3 (ih _ _ _ _) fun e st h => ?_
      cases e with
      | exit i => exact .cond _ (.ret _ _ _) (.ret _ _ _)
      | _ => exact .ret _ _ _
    | loop b =>
      simp only [codeK]
      refine .cond _ (norm _ _ _ _ _ _) ?_
      cases hL : cx.Λ (pathN p) with
      | some L =>
        simp only [hle _ _ hL]
        exact .of (loopK_nat (hΛ _ _ hL))
      | none => exact .none
    | scope b =>
      simp only [codeK]
      refine .seq3 (ih _ _ _ _) fun e st h => ?_
      cases e with
      | goto l => exact .none
      | _ => exact .ret _ _ _
    | rangeFunc g ps a b => simp only [codeK]; exact .of (rangeK_nat hΓ)
    | _ => exact .none

theorem loopB_le (hΓ : NatX cx) (hΛ : ∀ q L, cx.Λ q = some L → NatL L) (hle : ∀ q L, cx.Λ q = some L → Λ' q = some L) {ins : List Nat} {outs : Exit → List Nat} {p : List Bool} {b : Code} : ∀ (n : Nat) (vs : List CV) (cs : List (List CV)),
    Le3 (fun β K => loopB (β := β) cx ins outs p b n vs cs K) (fun β K => loopB (β := β) (cx.lam Λ') ins outs p b n vs cs K)
  | 0, vs, cs => .none
  | n + 1, vs, cs => by
    simp only [loopB]
    refine .bind _ fun s => .seq3 (codeK_le hΓ hΛ hle _ _ _ _ _) fun e st h => ?_
    cases e with
    | normal => exact .bind _ fun x => loopB_le hΓ hΛ hle n _ _
    | _ => exact .bind _ fun x => .ret _ _ _

theorem roundB_le (hΓ : NatX cx) (hΛ : ∀ q L, cx.Λ q = some L → NatL L) (hle : ∀ q L, cx.Λ q = some L → Λ' q = some L) {ins : List Nat} {p : List Bool} {ps : List Nat} {as bd : Code} {env args : List CV} {conts : List (List CV)} :
    Le2 (fun β K => roundB (β := β) cx ins p ps as bd env args conts K) (fun β K => roundB (β := β) (cx.lam Λ') ins p ps as bd env args conts K) := by
  unfold roundB
  refine .cond _ (.seq3 (codeK_le hΓ hΛ hle _ _ _ _ _) fun e st h => ?_) .none
  cases e with
  | normal =>
    refine .seq3 (codeK_le hΓ hΛ hle _ _ _ _ _) fun e st h => ?_
    cases e with
    | normal => exact .bind _ fun c => .ret _ _
    | ret => exact .bind _ fun c => .ret _ _
    | exit i => exact .bind _ fun c => .ret _ _
    | _ => exact .none
  | _ => exact .none
end

abbrev bodyL (root : Code) (p : List Bool) : Code := (codeAt root (false :: p)).getD .skip

abbrev Cx.loop (cx : Cx) (p : List Bool) (L : LoopSem) : Cx := cx.lam fun q => bif Nat.beq q (pathN p) then some L else cx.Λ q

/-- What is to be known of a context's loops. -/
structure LoopsOK (cx : Cx) : Prop where
  s : LoopsS cx
  n : ∀ q L, cx.Λ q = some L → NatL L

theorem LoopsOK.none {cx : Cx} (h : ∀ q, cx.Λ q = none) : LoopsOK cx := ⟨fun p L b hl => (by rw [h] at hl; cases hl), fun q L hl => (by rw [h] at hl; cases hl)⟩

theorem LoopsOK.loop {cx : Cx} (hN : NatX cx) (h : LoopsOK cx) {p : List Bool} {L0 : LoopSem} (hp : cx.Λ (pathN p) = .none) (hn0 : NatL L0)
    (hs : ∀ (vs : List CV) (cs : List (List CV)) (β : Type) (K : Exit → List CV → List (List CV) → Option β) (r : β), L0.run vs cs β K = some r → ∃ n, loopB cx L0.ins L0.outs p (bodyL cx.root p) n vs cs K = some r) : LoopsOK (cx.loop p L0) := by
  have hle : ∀ q L, cx.Λ q = some L → (cx.loop p L0).Λ q = some L := fun q L hq => by
    show (bif Nat.beq q (pathN p) then _ else _) = _
    cases hb : Nat.beq q (pathN p) with
    | true => rw [beq_true hb, hp] at hq; cases hq
    | false => exact hq
  have hcase : ∀ q L, (cx.loop p L0).Λ q = some L → (q = pathN p ∧ L = L0) ∨ cx.Λ q = some L := fun q L hq => by
    replace hq : (bif Nat.beq q (pathN p) then some L0 else cx.Λ q) = some L := hq
    cases hb : Nat.beq q (pathN p) with
    | true => rw [hb] at hq; cases hq; exact .inl ⟨beq_true hb, rfl⟩
    | false => rw [hb] at hq; exact .inr hq
  refine ⟨fun q L b hl hc vs cs β K r hr => ?_, fun q L hl => ?_⟩
  · rcases hcase _ L hl with ⟨hq, rfl⟩ | hl
    · have := pathN_inj q p hq
      subst this
      have e : bodyL cx.root q = b := by
        have hc' : codeAt cx.root q = some (.loop b) := hc
        simp [bodyL, codeAt, hc', childOf]
      obtain ⟨n, hn⟩ := hs vs cs β K r hr
      rw [e] at hn
      exact ⟨n, (loopB_le (Λ' := (cx.loop q L).Λ) hN h.n hle n vs cs).use hn⟩
    · obtain ⟨n, hn⟩ := h.s q L b hl hc vs cs β K r hr
      exact ⟨n, (loopB_le (Λ' := (cx.loop p L0).Λ) hN h.n hle n vs cs).use hn⟩
  · rcases hcase q L hl with ⟨_, rfl⟩ | hl
    · exact hn0
    · exact h.n q L hl

/-- How a loop is left. -/
inductive Out where
  | one (e : Exit) (vs : List CV) (cs : List (List CV))
  | alt (b : Bool) (x y : Out)

def Out.run {β : Type} : Out → (Exit → List CV → List (List CV) → Option β) → Option β
  | .one e vs cs, K => K e vs cs
  | .alt b x y, K => bif b then x.run K else y.run K

theorem Out.nat : ∀ (o : Out), Nat3 (fun β K => o.run (β := β) K)
  | .one _ _ _ => .ret _ _ _
  | .alt _ x y => .cond _ x.nat y.nat
end Go.Ab

namespace Go.Ab
open Go

/-- A contract that holds, and is natural. -/
structure GoodC (P : Program) (f : FuncId) (g : Callee) : Prop where
  s : SoundC P f g
  n : NatC g

theorem GoodC.of {P : Program} {f : FuncId} {g g' : Callee} (h : SoundC P f g) (hn : NatC g') (ht : ∀ args conts (β : Type) (K : CV → List (List CV) → Option β) r, g'.run args conts β K = some r → g.run args conts β K = some r) : GoodC P f g' := ⟨SoundC.of h ht, hn⟩

def lookL : List (Nat × Callee) → FuncId → Option Callee
  | [], _ => none
  | p :: r, f => bif Nat.beq f p.1 then some p.2 else lookL r f

def Good (P : Program) (l : List (Nat × Callee)) : Prop := ∀ f g, lookL l f = some g → GoodC P f g

theorem Good.nil {P : Program} : Good P [] := fun f g h => by cases h
theorem Good.cons {P : Program} {f : Nat} {g : Callee} {l : List (Nat × Callee)} (h : GoodC P f g) (t : Good P l) : Good P ((f, g) :: l) := fun f' g' h' => by
  simp only [lookL] at h'
  cases e : Nat.beq f' f with
  | true => rw [e] at h'; cases h'; rw [beq_true e]; exact h
  | false => rw [e] at h'; exact t f' g' h'

theorem lookL_app : ∀ (l m : List (Nat × Callee)) (f : Nat), lookL (l ++ m) f = (match lookL l f with | some g => some g | none => lookL m f)
  | [], m, f => rfl
  | p :: l, m, f => by
    simp only [List.cons_append, lookL]
    cases Nat.beq f p.1 with
    | true => rfl
    | false => exact lookL_app l m f

theorem Good.app {P : Program} {l m : List (Nat × Callee)} (hl : Good P l) (hm : Good P m) : Good P (l ++ m) := fun f g h => by
  rw [lookL_app] at h
  cases e : lookL l f with
  | some g' => rw [e] at h; cases h; exact hl f g e
  | none => rw [e] at h; exact hm f g h

/-- A function's context. -/
noncomputable abbrev cxF (P : Program) (fn : Func) (l : List (Nat × Callee)) (wr : Nat → Bool := fun _ => false) (un : Nat → Bool := fun _ => false) (eqT : Nat → Bool := fun _ => false) : Cx :=
  { P := P, nt := fn.ntmps, Γ := lookL l, Λ := fun _ => none, un := un, root := bodyOf fn, wr := wr, eqT := eqT }

/-- All that is to be known of a context. -/
structure CxOK (cx : Cx) (l : List (Nat × Callee)) : Prop where
  Γ : cx.Γ = lookL l
  good : Good cx.P l
  eq : EqOK cx
  loops : LoopsOK cx
  Y : cx.Y = none
  It : cx.It = fun _ => none
  rf : cx.rf = fun _ => none

theorem CxOK.nx {cx : Cx} {l : List (Nat × Callee)} (h : CxOK cx l) : NatX cx :=
  ⟨fun f g hg => (h.good f g (by rw [← h.Γ]; exact hg)).n, fun y hy => by rw [h.Y] at hy; (cases hy), fun f G hG => by rw [h.It] at hG; (cases hG), fun q S hS => by rw [h.rf] at hS; (cases hS)⟩

theorem CxOK.base {P : Program} {fn : Func} {l : List (Nat × Callee)} {wr un eqT : Nat → Bool} (h : Good P l) (he : EqOK (cxF P fn l wr un eqT)) : CxOK (cxF P fn l wr un eqT) l :=
  ⟨rfl, h, he, LoopsOK.none fun _ => rfl, rfl, rfl, rfl⟩

theorem CxOK.loop {cx : Cx} {l : List (Nat × Callee)} (h : CxOK cx l) {p : List Bool} {L : LoopSem} (hp : cx.Λ (pathN p) = none) (hn0 : NatL L)
    (hs : ∀ (vs : List CV) (cs : List (List CV)) (β : Type) (K : Exit → List CV → List (List CV) → Option β) (r : β), L.run vs cs β K = some r → ∃ n, loopB cx L.ins L.outs p (bodyL cx.root p) n vs cs K = some r) : CxOK (cx.loop p L) l :=
  ⟨h.Γ, h.good, fun t ht => h.eq t ht, LoopsOK.loop h.nx h.loops hp hn0 hs, h.Y, h.It, h.rf⟩

theorem CxOK.sound {cx : Cx} {l : List (Nat × Callee)} (h : CxOK cx l) {f : FuncId} {fn : Func} (hf : cx.P.funcs[f]? = some fn)
    (hn : (fn.name == "runtime.NumGoroutine") = false) (hb : fn.body = some cx.root) (hnt : cx.nt = fn.ntmps) (hpn : Nat.ble (fn.params.size + fn.nfree) fn.ntmps = true) : SoundC cx.P f (fnC cx fn) :=
  fnSound (fun f g hg => (h.good f g (by rw [← h.Γ]; exact hg)).s) (fun f g hg => (h.good f g (by rw [← h.Γ]; exact hg)).n) h.eq h.loops.s h.loops.n hf hn hb hnt (Nat.le_of_ble_eq_true hpn) h.Y h.It h.rf

/-- Values of a type, closed. -/
structure Cod (α : Type) where
  enc : α → CV
  dec : CV → Option α
  ok : ∀ c a, dec c = some a → c = enc a
  de : ∀ a, dec (enc a) = some a

def g0 (pre : Bool) (out : CV) : Callee := ⟨fun args conts _ K => match args, conts with
  | [], [] => bif pre then K (out) [] else none
  | _, _ => none⟩
theorem g0_nat {pre : Bool} {out : CV} : NatC (g0 pre out) := fun args conts => by
  unfold g0
  dsimp only
  split
  · exact .cond _ (.ret _ _) .none
  · exact .none
theorem good0 {pre : Bool} {out : CV} {P : Program} {f : FuncId} {cx : Cx} {fn : Func} (hs : SoundC P f (fnC cx fn))
    (h : ∀ (_ : Unit), pre = true → ∀ (β : Type) (K : CV → List (List CV) → Option β), fnK cx fn [] [] K = K (out) []) : GoodC P f (g0 pre out) := by
  refine ⟨SoundC.of hs fun args conts β K r hr => ?_, g0_nat⟩
  unfold g0 at hr
  dsimp only at hr
  split at hr
  · replace hr := cond_some hr
    obtain ⟨hp, hr⟩ := hr
    rw [fnC_run, h () hp]; exact hr
  · cases hr

def g1 {α : Type} (A : Cod α) (pre : α → Bool) (out : α → CV) : Callee := ⟨fun args conts _ K => match args, conts with
  | [a], [] => (A.dec a).bind fun a => bif pre a then K (out a) [] else none
  | _, _ => none⟩
theorem g1_nat {α : Type} (A : Cod α) {pre : α → Bool} {out : α → CV} : NatC (g1 A pre out) := fun args conts => by
  unfold g1
  dsimp only
  split
  · exact .bind _ fun _ => .cond _ (.ret _ _) .none
  · exact .none
theorem good1 {α : Type} {A : Cod α} {pre : α → Bool} {out : α → CV} {P : Program} {f : FuncId} {cx : Cx} {fn : Func} (hs : SoundC P f (fnC cx fn))
    (h : ∀ a, pre a = true → ∀ (β : Type) (K : CV → List (List CV) → Option β), fnK cx fn [A.enc a] [] K = K (out a) []) : GoodC P f (g1 A pre out) := by
  refine ⟨SoundC.of hs fun args conts β K r hr => ?_, g1_nat _⟩
  unfold g1 at hr
  dsimp only at hr
  split at hr
  · replace hr := bind_some' hr
    obtain ⟨a', ha, hr⟩ := hr
    replace hr := cond_some hr
    obtain ⟨hp, hr⟩ := hr
    have ea := A.ok _ _ ha
    subst ea
    rw [fnC_run, h a' hp]; exact hr
  · cases hr

def g2 {α : Type} {β : Type} (A : Cod α) (B : Cod β) (pre : α → β → Bool) (out : α → β → CV) : Callee := ⟨fun args conts _ K => match args, conts with
  | [a, b], [] => (A.dec a).bind fun a => (B.dec b).bind fun b => bif pre a b then K (out a b) [] else none
  | _, _ => none⟩
theorem g2_nat {α : Type} {β : Type} (A : Cod α) (B : Cod β) {pre : α → β → Bool} {out : α → β → CV} : NatC (g2 A B pre out) := fun args conts => by
  unfold g2
  dsimp only
  split
  · exact .bind _ fun _ => .bind _ fun _ => .cond _ (.ret _ _) .none
  · exact .none
theorem good2 {α : Type} {β : Type} {A : Cod α} {B : Cod β} {pre : α → β → Bool} {out : α → β → CV} {P : Program} {f : FuncId} {cx : Cx} {fn : Func} (hs : SoundC P f (fnC cx fn))
    (h : ∀ a b, pre a b = true → ∀ (β : Type) (K : CV → List (List CV) → Option β), fnK cx fn [A.enc a, B.enc b] [] K = K (out a b) []) : GoodC P f (g2 A B pre out) := by
  refine ⟨SoundC.of hs fun args conts β K r hr => ?_, g2_nat _ _⟩
  unfold g2 at hr
  dsimp only at hr
  split at hr
  · replace hr := bind_some' hr
    obtain ⟨a', ha, hr⟩ := hr
    replace hr := bind_some' hr
    obtain ⟨b', hb, hr⟩ := hr
    replace hr := cond_some hr
    obtain ⟨hp, hr⟩ := hr
    have ea := A.ok _ _ ha
    subst ea
    have eb := B.ok _ _ hb
    subst eb
    rw [fnC_run, h a' b' hp]; exact hr
  · cases hr

def g3 {α : Type} {β : Type} {γ : Type} (A : Cod α) (B : Cod β) (C : Cod γ) (pre : α → β → γ → Bool) (out : α → β → γ → CV) : Callee := ⟨fun args conts _ K => match args, conts with
  | [a, b, c], [] => (A.dec a).bind fun a => (B.dec b).bind fun b => (C.dec c).bind fun c => bif pre a b c then K (out a b c) [] else none
  | _, _ => none⟩
theorem g3_nat {α : Type} {β : Type} {γ : Type} (A : Cod α) (B : Cod β) (C : Cod γ) {pre : α → β → γ → Bool} {out : α → β → γ → CV} : NatC (g3 A B C pre out) := fun args conts => by
  unfold g3
  dsimp only
  split
  · exact .bind _ fun _ => .bind _ fun _ => .bind _ fun _ => .cond _ (.ret _ _) .none
  · exact .none
theorem good3 {α : Type} {β : Type} {γ : Type} {A : Cod α} {B : Cod β} {C : Cod γ} {pre : α → β → γ → Bool} {out : α → β → γ → CV} {P : Program} {f : FuncId} {cx : Cx} {fn : Func} (hs : SoundC P f (fnC cx fn))
    (h : ∀ a b c, pre a b c = true → ∀ (β : Type) (K : CV → List (List CV) → Option β), fnK cx fn [A.enc a, B.enc b, C.enc c] [] K = K (out a b c) []) : GoodC P f (g3 A B C pre out) := by
  refine ⟨SoundC.of hs fun args conts β K r hr => ?_, g3_nat _ _ _⟩
  unfold g3 at hr
  dsimp only at hr
  split at hr
  · replace hr := bind_some' hr
    obtain ⟨a', ha, hr⟩ := hr
    replace hr := bind_some' hr
    obtain ⟨b', hb, hr⟩ := hr
    replace hr := bind_some' hr
    obtain ⟨c', hc, hr⟩ := hr
    replace hr := cond_some hr
    obtain ⟨hp, hr⟩ := hr
    have ea := A.ok _ _ ha
    subst ea
    have eb := B.ok _ _ hb
    subst eb
    have ec := C.ok _ _ hc
    subst ec
    rw [fnC_run, h a' b' c' hp]; exact hr
  · cases hr

def g4 {α : Type} {β : Type} {γ : Type} {δ : Type} (A : Cod α) (B : Cod β) (C : Cod γ) (D : Cod δ) (pre : α → β → γ → δ → Bool) (out : α → β → γ → δ → CV) : Callee := ⟨fun args conts _ K => match args, conts with
  | [a, b, c, d], [] => (A.dec a).bind fun a => (B.dec b).bind fun b => (C.dec c).bind fun c => (D.dec d).bind fun d => bif pre a b c d then K (out a b c d) [] else none
  | _, _ => none⟩
theorem g4_nat {α : Type} {β : Type} {γ : Type} {δ : Type} (A : Cod α) (B : Cod β) (C : Cod γ) (D : Cod δ) {pre : α → β → γ → δ → Bool} {out : α → β → γ → δ → CV} : NatC (g4 A B C D pre out) := fun args conts => by
  unfold g4
  dsimp only
  split
  · exact .bind _ fun _ => .bind _ fun _ => .bind _ fun _ => .bind _ fun _ => .cond _ (.ret _ _) .none
  · exact .none
theorem good4 {α : Type} {β : Type} {γ : Type} {δ : Type} {A : Cod α} {B : Cod β} {C : Cod γ} {D : Cod δ} {pre : α → β → γ → δ → Bool} {out : α → β → γ → δ → CV} {P : Program} {f : FuncId} {cx : Cx} {fn : Func} (hs : SoundC P f (fnC cx fn))
    (h : ∀ a b c d, pre a b c d = true → ∀ (β : Type) (K : CV → List (List CV) → Option β), fnK cx fn [A.enc a, B.enc b, C.enc c, D.enc d] [] K = K (out a b c d) []) : GoodC P f (g4 A B C D pre out) := by
  refine ⟨SoundC.of hs fun args conts β K r hr => ?_, g4_nat _ _ _ _⟩
  unfold g4 at hr
  dsimp only at hr
  split at hr
  · replace hr := bind_some' hr
    obtain ⟨a', ha, hr⟩ := hr
    replace hr := bind_some' hr
    obtain ⟨b', hb, hr⟩ := hr
    replace hr := bind_some' hr
    obtain ⟨c', hc, hr⟩ := hr
    replace hr := bind_some' hr
    obtain ⟨d', hd, hr⟩ := hr
    replace hr := cond_some hr
    obtain ⟨hp, hr⟩ := hr
    have ea := A.ok _ _ ha
    subst ea
    have eb := B.ok _ _ hb
    subst eb
    have ec := C.ok _ _ hc
    subst ec
    have ed := D.ok _ _ hd
    subst ed
    rw [fnC_run, h a' b' c' d' hp]; exact hr
  · cases hr

def g5 {α : Type} {β : Type} {γ : Type} {δ : Type} {ε : Type} (A : Cod α) (B : Cod β) (C : Cod γ) (D : Cod δ) (E : Cod ε) (pre : α → β → γ → δ → ε → Bool) (out : α → β → γ → δ → ε → CV) : Callee := ⟨fun args conts _ K => match args, conts with
  | [a, b, c, d, e], [] => (A.dec a).bind fun a => (B.dec b).bind fun b => (C.dec c).bind fun c => (D.dec d).bind fun d => (E.dec e).bind fun e => bif pre a b c d e then K (out a b c d e) [] else none
  | _, _ => none⟩
theorem g5_nat {α : Type} {β : Type} {γ : Type} {δ : Type} {ε : Type} (A : Cod α) (B : Cod β) (C : Cod γ) (D : Cod δ) (E : Cod ε) {pre : α → β → γ → δ → ε → Bool} {out : α → β → γ → δ → ε → CV} : NatC (g5 A B C D E pre out) := fun args conts => by
  unfold g5
  dsimp only
  split
  · exact .bind _ fun _ => .bind _ fun _ => .bind _ fun _ => .bind _ fun _ => .bind _ fun _ => .cond _ (.ret _ _) .none
  · exact .none
theorem good5 {α : Type} {β : Type} {γ : Type} {δ : Type} {ε : Type} {A : Cod α} {B : Cod β} {C : Cod γ} {D : Cod δ} {E : Cod ε} {pre : α → β → γ → δ → ε → Bool} {out : α → β → γ → δ → ε → CV} {P : Program} {f : FuncId} {cx : Cx} {fn : Func} (hs : SoundC P f (fnC cx fn))
    (h : ∀ a b c d e, pre a b c d e = true → ∀ (β : Type) (K : CV → List (List CV) → Option β), fnK cx fn [A.enc a, B.enc b, C.enc c, D.enc d, E.enc e] [] K = K (out a b c d e) []) : GoodC P f (g5 A B C D E pre out) := by
  refine ⟨SoundC.of hs fun args conts β K r hr => ?_, g5_nat _ _ _ _ _⟩
  unfold g5 at hr
  dsimp only at hr
  split at hr
  · replace hr := bind_some' hr
    obtain ⟨a', ha, hr⟩ := hr
    replace hr := bind_some' hr
    obtain ⟨b', hb, hr⟩ := hr
    replace hr := bind_some' hr
    obtain ⟨c', hc, hr⟩ := hr
    replace hr := bind_some' hr
    obtain ⟨d', hd, hr⟩ := hr
    replace hr := bind_some' hr
    obtain ⟨e', he, hr⟩ := hr
    replace hr := cond_some hr
    obtain ⟨hp, hr⟩ := hr
    have ea := A.ok _ _ ha
    subst ea
    have eb := B.ok _ _ hb
    subst eb
    have ec := C.ok _ _ hc
    subst ec
    have ed := D.ok _ _ hd
    subst ed
    have ee := E.ok _ _ he
    subst ee
    rw [fnC_run, h a' b' c' d' e' hp]; exact hr
  · cases hr

def g6 {α : Type} {β : Type} {γ : Type} {δ : Type} {ε : Type} {ζ : Type} (A : Cod α) (B : Cod β) (C : Cod γ) (D : Cod δ) (E : Cod ε) (F : Cod ζ) (pre : α → β → γ → δ → ε → ζ → Bool) (out : α → β → γ → δ → ε → ζ → CV) : Callee := ⟨fun args conts _ K => match args, conts with
  | [a, b, c, d, e, f], [] => (A.dec a).bind fun a => (B.dec b).bind fun b => (C.dec c).bind fun c => (D.dec d).bind fun d => (E.dec e).bind fun e => (F.dec f).bind fun f => bif pre a b c d e f then K (out a b c d e f) [] else none
  | _, _ => none⟩
theorem g6_nat {α : Type} {β : Type} {γ : Type} {δ : Type} {ε : Type} {ζ : Type} (A : Cod α) (B : Cod β) (C : Cod γ) (D : Cod δ) (E : Cod ε) (F : Cod ζ) {pre : α → β → γ → δ → ε → ζ → Bool} {out : α → β → γ → δ → ε → ζ → CV} : NatC (g6 A B C D E F pre out) := fun args conts => by
  unfold g6
  dsimp only
  split
  · exact .bind _ fun _ => .bind _ fun _ => .bind _ fun _ => .bind _ fun _ => .bind _ fun _ => .bind _ fun _ => .cond _ (.ret _ _) .none
  · exact .none
theorem good6 {α : Type} {β : Type} {γ : Type} {δ : Type} {ε : Type} {ζ : Type} {A : Cod α} {B : Cod β} {C : Cod γ} {D : Cod δ} {E : Cod ε} {F : Cod ζ} {pre : α → β → γ → δ → ε → ζ → Bool} {out : α → β → γ → δ → ε → ζ → CV} {P : Program} {f : FuncId} {cx : Cx} {fn : Func} (hs : SoundC P f (fnC cx fn))
    (h : ∀ a b c d e f, pre a b c d e f = true → ∀ (β : Type) (K : CV → List (List CV) → Option β), fnK cx fn [A.enc a, B.enc b, C.enc c, D.enc d, E.enc e, F.enc f] [] K = K (out a b c d e f) []) : GoodC P f (g6 A B C D E F pre out) := by
  refine ⟨SoundC.of hs fun args conts β K r hr => ?_, g6_nat _ _ _ _ _ _⟩
  unfold g6 at hr
  dsimp only at hr
  split at hr
  · replace hr := bind_some' hr
    obtain ⟨a', ha, hr⟩ := hr
    replace hr := bind_some' hr
    obtain ⟨b', hb, hr⟩ := hr
    replace hr := bind_some' hr
    obtain ⟨c', hc, hr⟩ := hr
    replace hr := bind_some' hr
    obtain ⟨d', hd, hr⟩ := hr
    replace hr := bind_some' hr
    obtain ⟨e', he, hr⟩ := hr
    replace hr := bind_some' hr
    obtain ⟨f', hf, hr⟩ := hr
    replace hr := cond_some hr
    obtain ⟨hp, hr⟩ := hr
    have ea := A.ok _ _ ha
    subst ea
    have eb := B.ok _ _ hb
    subst eb
    have ec := C.ok _ _ hc
    subst ec
    have ed := D.ok _ _ hd
    subst ed
    have ee := E.ok _ _ he
    subst ee
    have ef := F.ok _ _ hf
    subst ef
    rw [fnC_run, h a' b' c' d' e' f' hp]; exact hr
  · cases hr

/-- Boxes of a type. -/
structure CodB (α : Type) where
  enc : α → List (List CV)
  dec : List (List CV) → Option α
  ok : ∀ c a, dec c = some a → c = enc a
  de : ∀ a, dec (enc a) = some a

/-- No box. -/
def c0 : CodB Unit where
  enc := fun _ => []
  dec := fun c => match c with | [] => some () | _ => none
  ok := fun c a h => by
    split at h
    · rfl
    · cases h
  de := fun _ => rfl

def l1 {T0 : Type} {U : Type} (ins : List Nat) (outs : Exit → List Nat) (A0 : Cod T0) (C : CodB U) (pre : T0 → U → Bool) (out : T0 → U → Out) : LoopSem := ⟨ins, outs, fun vs cs _ K => match vs with
  | [a] => (A0.dec a).bind fun a => (C.dec cs).bind fun u => bif pre a u then (out a u).run K else none
  | _ => none⟩
theorem CxOK.loop1 {T0 : Type} {U : Type} {ins : List Nat} {outs : Exit → List Nat} {A0 : Cod T0} {C : CodB U} {pre : T0 → U → Bool} {out : T0 → U → Out} {cx : Cx} {l : List (Nat × Callee)} (h : CxOK cx l) {p : List Bool} (hp : cx.Λ (pathN p) = none)
    (hs : ∀ a u, pre a u = true → ∃ n, ∀ (β : Type) (K : Exit → List CV → List (List CV) → Option β), loopB cx ins outs p (bodyL cx.root p) n [A0.enc a] (C.enc u) K = (out a u).run K) : CxOK (cx.loop p (l1 ins outs A0 C pre out)) l := by
  refine h.loop hp (fun vs cs => ?_) (fun vs cs β K r hr => ?_)
  · unfold l1
    dsimp only
    split
    · exact .bind _ fun _ => .bind _ fun _ => .cond _ (Out.nat _) .none
    · exact .none
  · unfold l1 at hr
    dsimp only at hr
    split at hr
    · replace hr := bind_some' hr
      obtain ⟨aa', haa, hr⟩ := hr
      replace hr := bind_some' hr
      obtain ⟨u', hu, hr⟩ := hr
      replace hr := cond_some hr
      obtain ⟨hpre, hr⟩ := hr
      have eaa := A0.ok _ _ haa
      subst eaa
      have eu := C.ok _ _ hu
      subst eu
      obtain ⟨n, hn⟩ := hs aa' u' hpre
      exact ⟨n, (hn β K).trans hr⟩
    · cases hr

def l2 {T0 : Type} {T1 : Type} {U : Type} (ins : List Nat) (outs : Exit → List Nat) (A0 : Cod T0) (A1 : Cod T1) (C : CodB U) (pre : T0 → T1 → U → Bool) (out : T0 → T1 → U → Out) : LoopSem := ⟨ins, outs, fun vs cs _ K => match vs with
  | [a, b] => (A0.dec a).bind fun a => (A1.dec b).bind fun b => (C.dec cs).bind fun u => bif pre a b u then (out a b u).run K else none
  | _ => none⟩
theorem CxOK.loop2 {T0 : Type} {T1 : Type} {U : Type} {ins : List Nat} {outs : Exit → List Nat} {A0 : Cod T0} {A1 : Cod T1} {C : CodB U} {pre : T0 → T1 → U → Bool} {out : T0 → T1 → U → Out} {cx : Cx} {l : List (Nat × Callee)} (h : CxOK cx l) {p : List Bool} (hp : cx.Λ (pathN p) = none)
    (hs : ∀ a b u, pre a b u = true → ∃ n, ∀ (β : Type) (K : Exit → List CV → List (List CV) → Option β), loopB cx ins outs p (bodyL cx.root p) n [A0.enc a, A1.enc b] (C.enc u) K = (out a b u).run K) : CxOK (cx.loop p (l2 ins outs A0 A1 C pre out)) l := by
  refine h.loop hp (fun vs cs => ?_) (fun vs cs β K r hr => ?_)
  · unfold l2
    dsimp only
    split
    · exact .bind _ fun _ => .bind _ fun _ => .bind _ fun _ => .cond _ (Out.nat _) .none
    · exact .none
  · unfold l2 at hr
    dsimp only at hr
    split at hr
    · replace hr := bind_some' hr
      obtain ⟨aa', haa, hr⟩ := hr
      replace hr := bind_some' hr
      obtain ⟨bb', hbb, hr⟩ := hr
      replace hr := bind_some' hr
      obtain ⟨u', hu, hr⟩ := hr
      replace hr := cond_some hr
      obtain ⟨hpre, hr⟩ := hr
      have eaa := A0.ok _ _ haa
      subst eaa
      have ebb := A1.ok _ _ hbb
      subst ebb
      have eu := C.ok _ _ hu
      subst eu
      obtain ⟨n, hn⟩ := hs aa' bb' u' hpre
      exact ⟨n, (hn β K).trans hr⟩
    · cases hr

def l3 {T0 : Type} {T1 : Type} {T2 : Type} {U : Type} (ins : List Nat) (outs : Exit → List Nat) (A0 : Cod T0) (A1 : Cod T1) (A2 : Cod T2) (C : CodB U) (pre : T0 → T1 → T2 → U → Bool) (out : T0 → T1 → T2 → U → Out) : LoopSem := ⟨ins, outs, fun vs cs _ K => match vs with
  | [a, b, c] => (A0.dec a).bind fun a => (A1.dec b).bind fun b => (A2.dec c).bind fun c => (C.dec cs).bind fun u => bif pre a b c u then (out a b c u).run K else none
  | _ => none⟩
theorem CxOK.loop3 {T0 : Type} {T1 : Type} {T2 : Type} {U : Type} {ins : List Nat} {outs : Exit → List Nat} {A0 : Cod T0} {A1 : Cod T1} {A2 : Cod T2} {C : CodB U} {pre : T0 → T1 → T2 → U → Bool} {out : T0 → T1 → T2 → U → Out} {cx : Cx} {l : List (Nat × Callee)} (h : CxOK cx l) {p : List Bool} (hp : cx.Λ (pathN p) = none)
    (hs : ∀ a b c u, pre a b c u = true → ∃ n, ∀ (β : Type) (K : Exit → List CV → List (List CV) → Option β), loopB cx ins outs p (bodyL cx.root p) n [A0.enc a, A1.enc b, A2.enc c] (C.enc u) K = (out a b c u).run K) : CxOK (cx.loop p (l3 ins outs A0 A1 A2 C pre out)) l := by
  refine h.loop hp (fun vs cs => ?_) (fun vs cs β K r hr => ?_)
  · unfold l3
    dsimp only
    split
    · exact .bind _ fun _ => .bind _ fun _ => .bind _ fun _ => .bind _ fun _ => .cond _ (Out.nat _) .none
    · exact .none
  · unfold l3 at hr
    dsimp only at hr
    split at hr
    · replace hr := bind_some' hr
      obtain ⟨aa', haa, hr⟩ := hr
      replace hr := bind_some' hr
      obtain ⟨bb', hbb, hr⟩ := hr
      replace hr := bind_some' hr
      obtain ⟨cc', hcc, hr⟩ := hr
      replace hr := bind_some' hr
      obtain ⟨u', hu, hr⟩ := hr
      replace hr := cond_some hr
      obtain ⟨hpre, hr⟩ := hr
      have eaa := A0.ok _ _ haa
      subst eaa
      have ebb := A1.ok _ _ hbb
      subst ebb
      have ecc := A2.ok _ _ hcc
      subst ecc
      have eu := C.ok _ _ hu
      subst eu
      obtain ⟨n, hn⟩ := hs aa' bb' cc' u' hpre
      exact ⟨n, (hn β K).trans hr⟩
    · cases hr

def l4 {T0 : Type} {T1 : Type} {T2 : Type} {T3 : Type} {U : Type} (ins : List Nat) (outs : Exit → List Nat) (A0 : Cod T0) (A1 : Cod T1) (A2 : Cod T2) (A3 : Cod T3) (C : CodB U) (pre : T0 → T1 → T2 → T3 → U → Bool) (out : T0 → T1 → T2 → T3 → U → Out) : LoopSem := ⟨ins, outs, fun vs cs _ K => match vs with
  | [a, b, c, d] => (A0.dec a).bind fun a => (A1.dec b).bind fun b => (A2.dec c).bind fun c => (A3.dec d).bind fun d => (C.dec cs).bind fun u => bif pre a b c d u then (out a b c d u).run K else none
  | _ => none⟩
theorem CxOK.loop4 {T0 : Type} {T1 : Type} {T2 : Type} {T3 : Type} {U : Type} {ins : List Nat} {outs : Exit → List Nat} {A0 : Cod T0} {A1 : Cod T1} {A2 : Cod T2} {A3 : Cod T3} {C : CodB U} {pre : T0 → T1 → T2 → T3 → U → Bool} {out : T0 → T1 → T2 → T3 → U → Out} {cx : Cx} {l : List (Nat × Callee)} (h : CxOK cx l) {p : List Bool} (hp : cx.Λ (pathN p) = none)
    (hs : ∀ a b c d u, pre a b c d u = true → ∃ n, ∀ (β : Type) (K : Exit → List CV → List (List CV) → Option β), loopB cx ins outs p (bodyL cx.root p) n [A0.enc a, A1.enc b, A2.enc c, A3.enc d] (C.enc u) K = (out a b c d u).run K) : CxOK (cx.loop p (l4 ins outs A0 A1 A2 A3 C pre out)) l := by
  refine h.loop hp (fun vs cs => ?_) (fun vs cs β K r hr => ?_)
  · unfold l4
    dsimp only
    split
    · exact .bind _ fun _ => .bind _ fun _ => .bind _ fun _ => .bind _ fun _ => .bind _ fun _ => .cond _ (Out.nat _) .none
    · exact .none
  · unfold l4 at hr
    dsimp only at hr
    split at hr
    · replace hr := bind_some' hr
      obtain ⟨aa', haa, hr⟩ := hr
      replace hr := bind_some' hr
      obtain ⟨bb', hbb, hr⟩ := hr
      replace hr := bind_some' hr
      obtain ⟨cc', hcc, hr⟩ := hr
      replace hr := bind_some' hr
      obtain ⟨dd', hdd, hr⟩ := hr
      replace hr := bind_some' hr
      obtain ⟨u', hu, hr⟩ := hr
      replace hr := cond_some hr
      obtain ⟨hpre, hr⟩ := hr
      have eaa := A0.ok _ _ haa
      subst eaa
      have ebb := A1.ok _ _ hbb
      subst ebb
      have ecc := A2.ok _ _ hcc
      subst ecc
      have edd := A3.ok _ _ hdd
      subst edd
      have eu := C.ok _ _ hu
      subst eu
      obtain ⟨n, hn⟩ := hs aa' bb' cc' dd' u' hpre
      exact ⟨n, (hn β K).trans hr⟩
    · cases hr

def l5 {T0 : Type} {T1 : Type} {T2 : Type} {T3 : Type} {T4 : Type} {U : Type} (ins : List Nat) (outs : Exit → List Nat) (A0 : Cod T0) (A1 : Cod T1) (A2 : Cod T2) (A3 : Cod T3) (A4 : Cod T4) (C : CodB U) (pre : T0 → T1 → T2 → T3 → T4 → U → Bool) (out : T0 → T1 → T2 → T3 → T4 → U → Out) : LoopSem := ⟨ins, outs, fun vs cs _ K => match vs with
  | [a, b, c, d, e] => (A0.dec a).bind fun a => (A1.dec b).bind fun b => (A2.dec c).bind fun c => (A3.dec d).bind fun d => (A4.dec e).bind fun e => (C.dec cs).bind fun u => bif pre a b c d e u then (out a b c d e u).run K else none
  | _ => none⟩
theorem CxOK.loop5 {T0 : Type} {T1 : Type} {T2 : Type} {T3 : Type} {T4 : Type} {U : Type} {ins : List Nat} {outs : Exit → List Nat} {A0 : Cod T0} {A1 : Cod T1} {A2 : Cod T2} {A3 : Cod T3} {A4 : Cod T4} {C : CodB U} {pre : T0 → T1 → T2 → T3 → T4 → U → Bool} {out : T0 → T1 → T2 → T3 → T4 → U → Out} {cx : Cx} {l : List (Nat × Callee)} (h : CxOK cx l) {p : List Bool} (hp : cx.Λ (pathN p) = none)
    (hs : ∀ a b c d e u, pre a b c d e u = true → ∃ n, ∀ (β : Type) (K : Exit → List CV → List (List CV) → Option β), loopB cx ins outs p (bodyL cx.root p) n [A0.enc a, A1.enc b, A2.enc c, A3.enc d, A4.enc e] (C.enc u) K = (out a b c d e u).run K) : CxOK (cx.loop p (l5 ins outs A0 A1 A2 A3 A4 C pre out)) l := by
  refine h.loop hp (fun vs cs => ?_) (fun vs cs β K r hr => ?_)
  · unfold l5
    dsimp only
    split
    · exact .bind _ fun _ => .bind _ fun _ => .bind _ fun _ => .bind _ fun _ => .bind _ fun _ => .bind _ fun _ => .cond _ (Out.nat _) .none
    · exact .none
  · unfold l5 at hr
    dsimp only at hr
    split at hr
    · replace hr := bind_some' hr
      obtain ⟨aa', haa, hr⟩ := hr
      replace hr := bind_some' hr
      obtain ⟨bb', hbb, hr⟩ := hr
      replace hr := bind_some' hr
      obtain ⟨cc', hcc, hr⟩ := hr
      replace hr := bind_some' hr
      obtain ⟨dd', hdd, hr⟩ := hr
      replace hr := bind_some' hr
      obtain ⟨ee', hee, hr⟩ := hr
      replace hr := bind_some' hr
      obtain ⟨u', hu, hr⟩ := hr
      replace hr := cond_some hr
      obtain ⟨hpre, hr⟩ := hr
      have eaa := A0.ok _ _ haa
      subst eaa
      have ebb := A1.ok _ _ hbb
      subst ebb
      have ecc := A2.ok _ _ hcc
      subst ecc
      have edd := A3.ok _ _ hdd
      subst edd
      have eee := A4.ok _ _ hee
      subst eee
      have eu := C.ok _ _ hu
      subst eu
      obtain ⟨n, hn⟩ := hs aa' bb' cc' dd' ee' u' hpre
      exact ⟨n, (hn β K).trans hr⟩
    · cases hr

def l6 {T0 : Type} {T1 : Type} {T2 : Type} {T3 : Type} {T4 : Type} {T5 : Type} {U : Type} (ins : List Nat) (outs : Exit → List Nat) (A0 : Cod T0) (A1 : Cod T1) (A2 : Cod T2) (A3 : Cod T3) (A4 : Cod T4) (A5 : Cod T5) (C : CodB U) (pre : T0 → T1 → T2 → T3 → T4 → T5 → U → Bool) (out : T0 → T1 → T2 → T3 → T4 → T5 → U → Out) : LoopSem := ⟨ins, outs, fun vs cs _ K => match vs with
  | [a, b, c, d, e, f] => (A0.dec a).bind fun a => (A1.dec b).bind fun b => (A2.dec c).bind fun c => (A3.dec d).bind fun d => (A4.dec e).bind fun e => (A5.dec f).bind fun f => (C.dec cs).bind fun u => bif pre a b c d e f u then (out a b c d e f u).run K else none
  | _ => none⟩
theorem CxOK.loop6 {T0 : Type} {T1 : Type} {T2 : Type} {T3 : Type} {T4 : Type} {T5 : Type} {U : Type} {ins : List Nat} {outs : Exit → List Nat} {A0 : Cod T0} {A1 : Cod T1} {A2 : Cod T2} {A3 : Cod T3} {A4 : Cod T4} {A5 : Cod T5} {C : CodB U} {pre : T0 → T1 → T2 → T3 → T4 → T5 → U → Bool} {out : T0 → T1 → T2 → T3 → T4 → T5 → U → Out} {cx : Cx} {l : List (Nat × Callee)} (h : CxOK cx l) {p : List Bool} (hp : cx.Λ (pathN p) = none)
    (hs : ∀ a b c d e f u, pre a b c d e f u = true → ∃ n, ∀ (β : Type) (K : Exit → List CV → List (List CV) → Option β), loopB cx ins outs p (bodyL cx.root p) n [A0.enc a, A1.enc b, A2.enc c, A3.enc d, A4.enc e, A5.enc f] (C.enc u) K = (out a b c d e f u).run K) : CxOK (cx.loop p (l6 ins outs A0 A1 A2 A3 A4 A5 C pre out)) l := by
  refine h.loop hp (fun vs cs => ?_) (fun vs cs β K r hr => ?_)
  · unfold l6
    dsimp only
    split
    · exact .bind _ fun _ => .bind _ fun _ => .bind _ fun _ => .bind _ fun _ => .bind _ fun _ => .bind _ fun _ => .bind _ fun _ => .cond _ (Out.nat _) .none
    · exact .none
  · unfold l6 at hr
    dsimp only at hr
    split at hr
    · replace hr := bind_some' hr
      obtain ⟨aa', haa, hr⟩ := hr
      replace hr := bind_some' hr
      obtain ⟨bb', hbb, hr⟩ := hr
      replace hr := bind_some' hr
      obtain ⟨cc', hcc, hr⟩ := hr
      replace hr := bind_some' hr
      obtain ⟨dd', hdd, hr⟩ := hr
      replace hr := bind_some' hr
      obtain ⟨ee', hee, hr⟩ := hr
      replace hr := bind_some' hr
      obtain ⟨ff', hff, hr⟩ := hr
      replace hr := bind_some' hr
      obtain ⟨u', hu, hr⟩ := hr
      replace hr := cond_some hr
      obtain ⟨hpre, hr⟩ := hr
      have eaa := A0.ok _ _ haa
      subst eaa
      have ebb := A1.ok _ _ hbb
      subst ebb
      have ecc := A2.ok _ _ hcc
      subst ecc
      have edd := A3.ok _ _ hdd
      subst edd
      have eee := A4.ok _ _ hee
      subst eee
      have eff := A5.ok _ _ hff
      subst eff
      have eu := C.ok _ _ hu
      subst eu
      obtain ⟨n, hn⟩ := hs aa' bb' cc' dd' ee' ff' u' hpre
      exact ⟨n, (hn β K).trans hr⟩
    · cases hr

def l7 {T0 : Type} {T1 : Type} {T2 : Type} {T3 : Type} {T4 : Type} {T5 : Type} {T6 : Type} {U : Type} (ins : List Nat) (outs : Exit → List Nat) (A0 : Cod T0) (A1 : Cod T1) (A2 : Cod T2) (A3 : Cod T3) (A4 : Cod T4) (A5 : Cod T5) (A6 : Cod T6) (C : CodB U) (pre : T0 → T1 → T2 → T3 → T4 → T5 → T6 → U → Bool) (out : T0 → T1 → T2 → T3 → T4 → T5 → T6 → U → Out) : LoopSem := ⟨ins, outs, fun vs cs _ K => match vs with
  | [a, b, c, d, e, f, g] => (A0.dec a).bind fun a => (A1.dec b).bind fun b => (A2.dec c).bind fun c => (A3.dec d).bind fun d => (A4.dec e).bind fun e => (A5.dec f).bind fun f => (A6.dec g).bind fun g => (C.dec cs).bind fun u => bif pre a b c d e f g u then (out a b c d e f g u).run K else none
  | _ => none⟩
theorem CxOK.loop7 {T0 : Type} {T1 : Type} {T2 : Type} {T3 : Type} {T4 : Type} {T5 : Type} {T6 : Type} {U : Type} {ins : List Nat} {outs : Exit → List Nat} {A0 : Cod T0} {A1 : Cod T1} {A2 : Cod T2} {A3 : Cod T3} {A4 : Cod T4} {A5 : Cod T5} {A6 : Cod T6} {C : CodB U} {pre : T0 → T1 → T2 → T3 → T4 → T5 → T6 → U → Bool} {out : T0 → T1 → T2 → T3 → T4 → T5 → T6 → U → Out} {cx : Cx} {l : List (Nat × Callee)} (h : CxOK cx l) {p : List Bool} (hp : cx.Λ (pathN p) = none)
    (hs : ∀ a b c d e f g u, pre a b c d e f g u = true → ∃ n, ∀ (β : Type) (K : Exit → List CV → List (List CV) → Option β), loopB cx ins outs p (bodyL cx.root p) n [A0.enc a, A1.enc b, A2.enc c, A3.enc d, A4.enc e, A5.enc f, A6.enc g] (C.enc u) K = (out a b c d e f g u).run K) : CxOK (cx.loop p (l7 ins outs A0 A1 A2 A3 A4 A5 A6 C pre out)) l := by
  refine h.loop hp (fun vs cs => ?_) (fun vs cs β K r hr => ?_)
  · unfold l7
    dsimp only
    split
    · exact .bind _ fun _ => .bind _ fun _ => .bind _ fun _ => .bind _ fun _ => .bind _ fun _ => .bind _ fun _ => .bind _ fun _ => .bind _ fun _ => .cond _ (Out.nat _) .none
    · exact .none
  · unfold l7 at hr
    dsimp only at hr
    split at hr
    · replace hr := bind_some' hr
      obtain ⟨aa', haa, hr⟩ := hr
      replace hr := bind_some' hr
      obtain ⟨bb', hbb, hr⟩ := hr
      replace hr := bind_some' hr
      obtain ⟨cc', hcc, hr⟩ := hr
      replace hr := bind_some' hr
      obtain ⟨dd', hdd, hr⟩ := hr
      replace hr := bind_some' hr
      obtain ⟨ee', hee, hr⟩ := hr
      replace hr := bind_some' hr
      obtain ⟨ff', hff, hr⟩ := hr
      replace hr := bind_some' hr
      obtain ⟨gg', hgg, hr⟩ := hr
      replace hr := bind_some' hr
      obtain ⟨u', hu, hr⟩ := hr
      replace hr := cond_some hr
      obtain ⟨hpre, hr⟩ := hr
      have eaa := A0.ok _ _ haa
      subst eaa
      have ebb := A1.ok _ _ hbb
      subst ebb
      have ecc := A2.ok _ _ hcc
      subst ecc
      have edd := A3.ok _ _ hdd
      subst edd
      have eee := A4.ok _ _ hee
      subst eee
      have eff := A5.ok _ _ hff
      subst eff
      have egg := A6.ok _ _ hgg
      subst egg
      have eu := C.ok _ _ hu
      subst eu
      obtain ⟨n, hn⟩ := hs aa' bb' cc' dd' ee' ff' gg' u' hpre
      exact ⟨n, (hn β K).trans hr⟩
    · cases hr

def l8 {T0 : Type} {T1 : Type} {T2 : Type} {T3 : Type} {T4 : Type} {T5 : Type} {T6 : Type} {T7 : Type} {U : Type} (ins : List Nat) (outs : Exit → List Nat) (A0 : Cod T0) (A1 : Cod T1) (A2 : Cod T2) (A3 : Cod T3) (A4 : Cod T4) (A5 : Cod T5) (A6 : Cod T6) (A7 : Cod T7) (C : CodB U) (pre : T0 → T1 → T2 → T3 → T4 → T5 → T6 → T7 → U → Bool) (out : T0 → T1 → T2 → T3 → T4 → T5 → T6 → T7 → U → Out) : LoopSem := ⟨ins, outs, fun vs cs _ K => match vs with
  | [a, b, c, d, e, f, g, h] => (A0.dec a).bind fun a => (A1.dec b).bind fun b => (A2.dec c).bind fun c => (A3.dec d).bind fun d => (A4.dec e).bind fun e => (A5.dec f).bind fun f => (A6.dec g).bind fun g => (A7.dec h).bind fun h => (C.dec cs).bind fun u => bif pre a b c d e f g h u then (out a b c d e f g h u).run K else none
  | _ => none⟩
theorem CxOK.loop8 {T0 : Type} {T1 : Type} {T2 : Type} {T3 : Type} {T4 : Type} {T5 : Type} {T6 : Type} {T7 : Type} {U : Type} {ins : List Nat} {outs : Exit → List Nat} {A0 : Cod T0} {A1 : Cod T1} {A2 : Cod T2} {A3 : Cod T3} {A4 : Cod T4} {A5 : Cod T5} {A6 : Cod T6} {A7 : Cod T7} {C : CodB U} {pre : T0 → T1 → T2 → T3 → T4 → T5 → T6 → T7 → U → Bool} {out : T0 → T1 → T2 → T3 → T4 → T5 → T6 → T7 → U → Out} {cx : Cx} {l : List (Nat × Callee)} (h : CxOK cx l) {p : List Bool} (hp : cx.Λ (pathN p) = none)
    (hs : ∀ a b c d e f g h u, pre a b c d e f g h u = true → ∃ n, ∀ (β : Type) (K : Exit → List CV → List (List CV) → Option β), loopB cx ins outs p (bodyL cx.root p) n [A0.enc a, A1.enc b, A2.enc c, A3.enc d, A4.enc e, A5.enc f, A6.enc g, A7.enc h] (C.enc u) K = (out a b c d e f g h u).run K) : CxOK (cx.loop p (l8 ins outs A0 A1 A2 A3 A4 A5 A6 A7 C pre out)) l := by
  refine h.loop hp (fun vs cs => ?_) (fun vs cs β K r hr => ?_)
  · unfold l8
    dsimp only
    split
    · exact .bind _ fun _ => .bind _ fun _ => .bind _ fun _ => .bind _ fun _ => .bind _ fun _ => .bind _ fun _ => .bind _ fun _ => .bind _ fun _ => .bind _ fun _ => .cond _ (Out.nat _) .none
    · exact .none
  · unfold l8 at hr
    dsimp only at hr
    split at hr
    · replace hr := bind_some' hr
      obtain ⟨aa', haa, hr⟩ := hr
      replace hr := bind_some' hr
      obtain ⟨bb', hbb, hr⟩ := hr
      replace hr := bind_some' hr
      obtain ⟨cc', hcc, hr⟩ := hr
      replace hr := bind_some' hr
      obtain ⟨dd', hdd, hr⟩ := hr
      replace hr := bind_some' hr
      obtain ⟨ee', hee, hr⟩ := hr
      replace hr := bind_some' hr
      obtain ⟨ff', hff, hr⟩ := hr
      replace hr := bind_some' hr
      obtain ⟨gg', hgg, hr⟩ := hr
      replace hr := bind_some' hr
      obtain ⟨hh', hhh, hr⟩ := hr
      replace hr := bind_some' hr
      obtain ⟨u', hu, hr⟩ := hr
      replace hr := cond_some hr
      obtain ⟨hpre, hr⟩ := hr
      have eaa := A0.ok _ _ haa
      subst eaa
      have ebb := A1.ok _ _ hbb
      subst ebb
      have ecc := A2.ok _ _ hcc
      subst ecc
      have edd := A3.ok _ _ hdd
      subst edd
      have eee := A4.ok _ _ hee
      subst eee
      have eff := A5.ok _ _ hff
      subst eff
      have egg := A6.ok _ _ hgg
      subst egg
      have ehh := A7.ok _ _ hhh
      subst ehh
      have eu := C.ok _ _ hu
      subst eu
      obtain ⟨n, hn⟩ := hs aa' bb' cc' dd' ee' ff' gg' hh' u' hpre
      exact ⟨n, (hn β K).trans hr⟩
    · cases hr

def l9 {T0 : Type} {T1 : Type} {T2 : Type} {T3 : Type} {T4 : Type} {T5 : Type} {T6 : Type} {T7 : Type} {T8 : Type} {U : Type} (ins : List Nat) (outs : Exit → List Nat) (A0 : Cod T0) (A1 : Cod T1) (A2 : Cod T2) (A3 : Cod T3) (A4 : Cod T4) (A5 : Cod T5) (A6 : Cod T6) (A7 : Cod T7) (A8 : Cod T8) (C : CodB U) (pre : T0 → T1 → T2 → T3 → T4 → T5 → T6 → T7 → T8 → U → Bool) (out : T0 → T1 → T2 → T3 → T4 → T5 → T6 → T7 → T8 → U → Out) : LoopSem := ⟨ins, outs, fun vs cs _ K => match vs with
  | [a, b, c, d, e, f, g, h, i] => (A0.dec a).bind fun a => (A1.dec b).bind fun b => (A2.dec c).bind fun c => (A3.dec d).bind fun d => (A4.dec e).bind fun e => (A5.dec f).bind fun f => (A6.dec g).bind fun g => (A7.dec h).bind fun h => (A8.dec i).bind fun i => (C.dec cs).bind fun u => bif pre a b c d e f g h i u then (out a b c d e f g h i u).run K else none
  | _ => none⟩
theorem CxOK.loop9 {T0 : Type} {T1 : Type} {T2 : Type} {T3 : Type} {T4 : Type} {T5 : Type} {T6 : Type} {T7 : Type} {T8 : Type} {U : Type} {ins : List Nat} {outs : Exit → List Nat} {A0 : Cod T0} {A1 : Cod T1} {A2 : Cod T2} {A3 : Cod T3} {A4 : Cod T4} {A5 : Cod T5} {A6 : Cod T6} {A7 : Cod T7} {A8 : Cod T8} {C : CodB U} {pre : T0 → T1 → T2 → T3 → T4 → T5 → T6 → T7 → T8 → U → Bool} {out : T0 → T1 → T2 → T3 → T4 → T5 → T6 → T7 → T8 → U → Out} {cx : Cx} {l : List (Nat × Callee)} (h : CxOK cx l) {p : List Bool} (hp : cx.Λ (pathN p) = none)
    (hs : ∀ a b c d e f g h i u, pre a b c d e f g h i u = true → ∃ n, ∀ (β : Type) (K : Exit → List CV → List (List CV) → Option β), loopB cx ins outs p (bodyL cx.root p) n [A0.enc a, A1.enc b, A2.enc c, A3.enc d, A4.enc e, A5.enc f, A6.enc g, A7.enc h, A8.enc i] (C.enc u) K = (out a b c d e f g h i u).run K) : CxOK (cx.loop p (l9 ins outs A0 A1 A2 A3 A4 A5 A6 A7 A8 C pre out)) l := by
  refine h.loop hp (fun vs cs => ?_) (fun vs cs β K r hr => ?_)
  · unfold l9
    dsimp only
    split
    · exact .bind _ fun _ => .bind _ fun _ => .bind _ fun _ => .bind _ fun _ => .bind _ fun _ => .bind _ fun _ => .bind _ fun _ => .bind _ fun _ => .bind _ fun _ => .bind _ fun _ => .cond _ (Out.nat _) .none
    · exact .none
  · unfold l9 at hr
    dsimp only at hr
    split at hr
    · replace hr := bind_some' hr
      obtain ⟨aa', haa, hr⟩ := hr
      replace hr := bind_some' hr
      obtain ⟨bb', hbb, hr⟩ := hr
      replace hr := bind_some' hr
      obtain ⟨cc', hcc, hr⟩ := hr
      replace hr := bind_some' hr
      obtain ⟨dd', hdd, hr⟩ := hr
      replace hr := bind_some' hr
      obtain ⟨ee', hee, hr⟩ := hr
      replace hr := bind_some' hr
      obtain ⟨ff', hff, hr⟩ := hr
      replace hr := bind_some' hr
      obtain ⟨gg', hgg, hr⟩ := hr
      replace hr := bind_some' hr
      obtain ⟨hh', hhh, hr⟩ := hr
      replace hr := bind_some' hr
      obtain ⟨ii', hii, hr⟩ := hr
      replace hr := bind_some' hr
      obtain ⟨u', hu, hr⟩ := hr
      replace hr := cond_some hr
      obtain ⟨hpre, hr⟩ := hr
      have eaa := A0.ok _ _ haa
      subst eaa
      have ebb := A1.ok _ _ hbb
      subst ebb
      have ecc := A2.ok _ _ hcc
      subst ecc
      have edd := A3.ok _ _ hdd
      subst edd
      have eee := A4.ok _ _ hee
      subst eee
      have eff := A5.ok _ _ hff
      subst eff
      have egg := A6.ok _ _ hgg
      subst egg
      have ehh := A7.ok _ _ hhh
      subst ehh
      have eii := A8.ok _ _ hii
      subst eii
      have eu := C.ok _ _ hu
      subst eu
      obtain ⟨n, hn⟩ := hs aa' bb' cc' dd' ee' ff' gg' hh' ii' u' hpre
      exact ⟨n, (hn β K).trans hr⟩
    · cases hr

def l10 {T0 : Type} {T1 : Type} {T2 : Type} {T3 : Type} {T4 : Type} {T5 : Type} {T6 : Type} {T7 : Type} {T8 : Type} {T9 : Type} {U : Type} (ins : List Nat) (outs : Exit → List Nat) (A0 : Cod T0) (A1 : Cod T1) (A2 : Cod T2) (A3 : Cod T3) (A4 : Cod T4) (A5 : Cod T5) (A6 : Cod T6) (A7 : Cod T7) (A8 : Cod T8) (A9 : Cod T9) (C : CodB U) (pre : T0 → T1 → T2 → T3 → T4 → T5 → T6 → T7 → T8 → T9 → U → Bool) (out : T0 → T1 → T2 → T3 → T4 → T5 → T6 → T7 → T8 → T9 → U → Out) : LoopSem := ⟨ins, outs, fun vs cs _ K => match vs with
  | [a, b, c, d, e, f, g, h, i, j] => (A0.dec a).bind fun a => (A1.dec b).bind fun b => (A2.dec c).bind fun c => (A3.dec d).bind fun d => (A4.dec e).bind fun e => (A5.dec f).bind fun f => (A6.dec g).bind fun g => (A7.dec h).bind fun h => (A8.dec i).bind fun i => (A9.dec j).bind fun j => (C.dec cs).bind fun u => bif pre a b c d e f g h i j u then (out a b c d e f g h i j u).run K else none
  | _ => none⟩
theorem CxOK.loop10 {T0 : Type} {T1 : Type} {T2 : Type} {T3 : Type} {T4 : Type} {T5 : Type} {T6 : Type} {T7 : Type} {T8 : Type} {T9 : Type} {U : Type} {ins : List Nat} {outs : Exit → List Nat} {A0 : Cod T0} {A1 : Cod T1} {A2 : Cod T2} {A3 : Cod T3} {A4 : Cod T4} {A5 : Cod T5} {A6 : Cod T6} {A7 : Cod T7} {A8 : Cod T8} {A9 : Cod T9} {C : CodB U} {pre : T0 → T1 → T2 → T3 → T4 → T5 → T6 → T7 → T8 → T9 → U → Bool} {out : T0 → T1 → T2 → T3 → T4 → T5 → T6 → T7 → T8 → T9 → U → Out} {cx : Cx} {l : List (Nat × Callee)} (h : CxOK cx l) {p : List Bool} (hp : cx.Λ (pathN p) = none)
    (hs : ∀ a b c d e f g h i j u, pre a b c d e f g h i j u = true → ∃ n, ∀ (β : Type) (K : Exit → List CV → List (List CV) → Option β), loopB cx ins outs p (bodyL cx.root p) n [A0.enc a, A1.enc b, A2.enc c, A3.enc d, A4.enc e, A5.enc f, A6.enc g, A7.enc h, A8.enc i, A9.enc j] (C.enc u) K = (out a b c d e f g h i j u).run K) : CxOK (cx.loop p (l10 ins outs A0 A1 A2 A3 A4 A5 A6 A7 A8 A9 C pre out)) l := by
  refine h.loop hp (fun vs cs => ?_) (fun vs cs β K r hr => ?_)
  · unfold l10
    dsimp only
    split
    · exact .bind _ fun _ => .bind _ fun _ => .bind _ fun _ => .bind _ fun _ => .bind _ fun _ => .bind _ fun _ => .bind _ fun _ => .bind _ fun _ => .bind _ fun _ => .bind _ fun _ => .bind _ fun _ => .cond _ (Out.nat _) .none
    · exact .none
  · unfold l10 at hr
    dsimp only at hr
    split at hr
    · replace hr := bind_some' hr
      obtain ⟨aa', haa, hr⟩ := hr
      replace hr := bind_some' hr
      obtain ⟨bb', hbb, hr⟩ := hr
      replace hr := bind_some' hr
      obtain ⟨cc', hcc, hr⟩ := hr
      replace hr := bind_some' hr
      obtain ⟨dd', hdd, hr⟩ := hr
      replace hr := bind_some' hr
      obtain ⟨ee', hee, hr⟩ := hr
      replace hr := bind_some' hr
      obtain ⟨ff', hff, hr⟩ := hr
      replace hr := bind_some' hr
      obtain ⟨gg', hgg, hr⟩ := hr
      replace hr := bind_some' hr
      obtain ⟨hh', hhh, hr⟩ := hr
      replace hr := bind_some' hr
      obtain ⟨ii', hii, hr⟩ := hr
      replace hr := bind_some' hr
      obtain ⟨jj', hjj, hr⟩ := hr
      replace hr := bind_some' hr
      obtain ⟨u', hu, hr⟩ := hr
      replace hr := cond_some hr
      obtain ⟨hpre, hr⟩ := hr
      have eaa := A0.ok _ _ haa
      subst eaa
      have ebb := A1.ok _ _ hbb
      subst ebb
      have ecc := A2.ok _ _ hcc
      subst ecc
      have edd := A3.ok _ _ hdd
      subst edd
      have eee := A4.ok _ _ hee
      subst eee
      have eff := A5.ok _ _ hff
      subst eff
      have egg := A6.ok _ _ hgg
      subst egg
      have ehh := A7.ok _ _ hhh
      subst ehh
      have eii := A8.ok _ _ hii
      subst eii
      have ejj := A9.ok _ _ hjj
      subst ejj
      have eu := C.ok _ _ hu
      subst eu
      obtain ⟨n, hn⟩ := hs aa' bb' cc' dd' ee' ff' gg' hh' ii' jj' u' hpre
      exact ⟨n, (hn β K).trans hr⟩
    · cases hr

end Go.Ab
