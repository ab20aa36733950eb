/- Contracts, paths of code, cases.
Loops by themselves: what a loop comes to is what its rounds come to.
Contracts of functions by what they come to.
What is handed back as a callee's own may as well be known as closed.
Iterators: rounds whose contents keep a shape. -/
import Derived.Test.YtkahninpodhcmaaDoorAbC
import Derived.KernelRfl
namespace Go.Ab
open Go

theorem SoundC.of {P : Program} {f : FuncId} {g g' : Callee} (h : SoundC P f g) (ht : ∀ args conts (β : Type) (K : CV → List (List CV) → Option β) r, g'.run args conts β K = some r → g.run args conts β K = some r) : SoundC P f g' :=
  ⟨h.enter, fun args conts β K r hK => h.calls args conts β K r (ht args conts β K r hK)⟩

theorem fnC_run {cx : Cx} {fn : Func} {args : List CV} {conts : List (List CV)} {β : Type} {K : CV → List (List CV) → Option β} : (fnC cx fn).run args conts β K = fnK cx fn args conts K := rfl

theorem cond_some1 {b : Bool} {g g' : Callee} (h : (bif b then some g else none) = some g') : b = true ∧ g = g' := by
  cases b with
  | true => exact ⟨rfl, Option.some.inj h⟩
  | false => cases h

theorem eqOK_none {cx : Cx} (h : ∀ t, cx.eqT t = false) : EqOK cx := fun t ht => by rw [h t] at ht; cases ht

def bodyOf (f : Func) : Code := f.body.getD .skip

theorem pathN_pos : ∀ p, 1 ≤ pathN p
  | [] => Nat.le_refl 1
  | b :: p => by
    have := pathN_pos p
    simp only [pathN]
    omega

theorem pathN_inj : ∀ (p q : List Bool), pathN p = pathN q → p = q
  | [], [], _ => rfl
  | [], b :: q, h => by
    have := pathN_pos q
    simp only [pathN] at h
    omega
  | b :: p, [], h => by
    have := pathN_pos p
    simp only [pathN] at h
    omega
  | b :: p, c :: q, h => by
    simp only [pathN] at h
    have h1 : pathN p = pathN q := by cases b <;> cases c <;> simp at h <;> omega
    have h2 : b = c := by cases b <;> cases c <;> simp at h <;> first | rfl | omega
    rw [h2, pathN_inj p q h1]

/-- The loops of a function. -/
theorem LoopsS.of {cx : Cx} (h : ∀ k L, cx.Λ k = some L → ∃ p0, k = pathN p0 ∧ ∀ (vs : List CV) (cs : List (List CV)) (β : Type) (K : Exit → List CV → List (List CV) → Option β) (r : β), L.run vs cs β K = some r →
    ∃ n, loopB cx L.ins L.outs p0 ((codeAt cx.root (false :: p0)).getD .skip) n vs cs K = some r) : LoopsS cx := fun p L b hl hp vs cs β K r hr => by
  obtain ⟨p0, hk, hs⟩ := h _ L hl
  have := pathN_inj p p0 hk
  subst this
  obtain ⟨n, hn⟩ := hs vs cs β K r hr
  refine ⟨n, ?_⟩
  have e : codeAt cx.root (false :: p) = some b := by simp [codeAt, hp, childOf]
  rw [e] at hn
  exact hn

theorem cond_some2 {b : Bool} {g g' : LoopSem} (h : (bif b then some g else none) = some g') : b = true ∧ g = g' := by
  cases b with
  | true => exact ⟨rfl, Option.some.inj h⟩
  | false => cases h

/-- By what there is, or not. -/
def optE {α γ : Type} (o : Option α) (n : γ) (s : α → γ) : γ := match o with
  | some a => s a
  | none => n

theorem Nat3.optE {α A B C : Type} {o : Option α} {F : (β : Type) → (A → B → C → Option β) → Option β} {G : α → (β : Type) → (A → B → C → Option β) → Option β} (hF : Nat3 F) (hG : ∀ a, Nat3 (G a)) : Nat3 (fun β K => Ab.optE o (F β K) fun a => G a β K) := by
  cases o with
  | none => exact hF
  | some a => exact hG a

theorem Nat2.optE {α A B : Type} {o : Option α} {F : (β : Type) → (A → B → Option β) → Option β} {G : α → (β : Type) → (A → B → Option β) → Option β} (hF : Nat2 F) (hG : ∀ a, Nat2 (G a)) : Nat2 (fun β K => Ab.optE o (F β K) fun a => G a β K) := by
  cases o with
  | none => exact hF
  | some a => exact hG a

def gIn : Callee := ⟨fun args conts _ K => match args, conts with
  | [.int .i64 a, .int .i64 b, .int .i64 c], [] => K (.bool (cond (decide (a ≥ b)) (decide (a ≤ c)) false)) []
  | _, _ => none⟩

end Go.Ab

namespace Go.Ab
open Go

def Le3 {A B C : Type} (F G : (β : Type) → (A → B → C → Option β) → Option β) : Prop := (∃ a b c, (∀ β K, F β K = K a b c) ∧ ∀ β K, G β K = K a b c) ∨ ∀ β K, F β K = none
def Le2 {A B : Type} (F G : (β : Type) → (A → B → Option β) → Option β) : Prop := (∃ a b, (∀ β K, F β K = K a b) ∧ ∀ β K, G β K = K a b) ∨ ∀ β K, F β K = none

theorem Le3.of {A B C : Type} {F : (β : Type) → (A → B → C → Option β) → Option β} (h : Nat3 F) : Le3 F F := by
  rcases h with ⟨a, b, c, h⟩ | h
  · exact .inl ⟨a, b, c, h, h⟩
  · exact .inr h
theorem Le2.of {A B : Type} {F : (β : Type) → (A → B → Option β) → Option β} (h : Nat2 F) : Le2 F F := by
  rcases h with ⟨a, b, h⟩ | h
  · exact .inl ⟨a, b, h, h⟩
  · exact .inr h
theorem Le3.ret {A B C : Type} (a : A) (b : B) (c : C) : Le3 (fun _ K => K a b c) (fun _ K => K a b c) := .inl ⟨a, b, c, fun _ _ => rfl, fun _ _ => rfl⟩
theorem Le2.ret {A B : Type} (a : A) (b : B) : Le2 (fun _ K => K a b) (fun _ K => K a b) := .inl ⟨a, b, fun _ _ => rfl, fun _ _ => rfl⟩
theorem Le3.none {A B C : Type} {G : (β : Type) → (A → B → C → Option β) → Option β} : Le3 (fun β (_ : A → B → C → Option β) => (none : Option β)) G := .inr fun _ _ => rfl
theorem Le2.none {A B : Type} {G : (β : Type) → (A → B → Option β) → Option β} : Le2 (fun β (_ : A → B → Option β) => (none : Option β)) G := .inr fun _ _ => rfl
theorem Le3.bind {A B C γ : Type} (o : Option γ) {F G : γ → (β : Type) → (A → B → C → Option β) → Option β} (h : ∀ x, Le3 (F x) (G x)) : Le3 (fun β K => o.bind fun x => F x β K) (fun β K => o.bind fun x => G x β K) := by
  cases o with
  | none => exact .none
  | some x => exact h x
theorem Le2.bind {A B γ : Type} (o : Option γ) {F G : γ → (β : Type) → (A → B → Option β) → Option β} (h : ∀ x, Le2 (F x) (G x)) : Le2 (fun β K => o.bind fun x => F x β K) (fun β K => o.bind fun x => G x β K) := by
  cases o with
  | none => exact .none
  | some x => exact h x
theorem Le3.cond {A B C : Type} (b : Bool) {F G F' G' : (β : Type) → (A → B → C → Option β) → Option β} (hF : Le3 F F') (hG : Le3 G G') : Le3 (fun β K => bif b then F β K else G β K) (fun β K => bif b then F' β K else G' β K) := by cases b <;> assumption
theorem Le2.cond {A B : Type} (b : Bool) {F G F' G' : (β : Type) → (A → B → Option β) → Option β} (hF : Le2 F F') (hG : Le2 G G') : Le2 (fun β K => bif b then F β K else G β K) (fun β K => bif b then F' β K else G' β K) := by cases b <;> assumption
theorem Le3.seq3 {A B C D E G' : Type} {F F' : (β : Type) → (A → B → C → Option β) → Option β} (hF : Le3 F F') {G H : A → B → C → (β : Type) → (D → E → G' → Option β) → Option β} (hG : ∀ a b c, Le3 (G a b c) (H a b c)) : Le3 (fun β K => F β fun a b c => G a b c β K) (fun β K => F' β fun a b c => H a b c β K) := by
  rcases hF with ⟨a, b, c, h, h'⟩ | h
  · have := hG a b c
    simp only [h, h']
    exact this
  · exact .inr fun β K => h β _
theorem Le2.seq3 {A B C D E : Type} {F F' : (β : Type) → (A → B → C → Option β) → Option β} (hF : Le3 F F') {G H : A → B → C → (β : Type) → (D → E → Option β) → Option β} (hG : ∀ a b c, Le2 (G a b c) (H a b c)) : Le2 (fun β K => F β fun a b c => G a b c β K) (fun β K => F' β fun a b c => H a b c β K) := by
  rcases hF with ⟨a, b, c, h, h'⟩ | h
  · have := hG a b c
    simp only [h, h']
    exact this
  · exact .inr fun β K => h β _
theorem Le3.seq2 {A B D E G' : Type} {F F' : (β : Type) → (A → B → Option β) → Option β} (hF : Le2 F F') {G H : A → B → (β : Type) → (D → E → G' → Option β) → Option β} (hG : ∀ a b, Le3 (G a b) (H a b)) : Le3 (fun β K => F β fun a b => G a b β K) (fun β K => F' β fun a b => H a b β K) := by
  rcases hF with ⟨a, b, h, h'⟩ | h
  · have := hG a b
    simp only [h, h']
    exact this
  · exact .inr fun β K => h β _
theorem Le3.use {A B C : Type} {F G : (β : Type) → (A → B → C → Option β) → Option β} (h : Le3 F G) {β : Type} {K : A → B → C → Option β} {r : β} (hr : F β K = some r) : G β K = some r := by
  rcases h with ⟨a, b, c, h, h'⟩ | h
  · rw [h'] ; rw [h] at hr; exact hr
  · rw [h] at hr; cases hr
theorem Le2.use {A B : Type} {F G : (β : Type) → (A → B → Option β) → Option β} (h : Le2 F G) {β : Type} {K : A → B → Option β} {r : β} (hr : F β K = some r) : G β K = some r := by
  rcases h with ⟨a, b, h, h'⟩ | h
  · rw [h'] ; rw [h] at hr; exact hr
  · rw [h] at hr; cases hr

/-- The same, with other loops. -/
abbrev Cx.lam (cx : Cx) (Λ : Nat → Option LoopSem) : Cx := { cx with Λ := Λ }

section
variable {β : Type} {cx : Cx} {Λ' : Nat → Option LoopSem}

theorem opK_lam (o : Oper) (st : St) (h : H) (K : SV → H → Option β) : opK (cx.lam Λ') o st h K = opK cx o st h K := rfl

theorem opsK_lam {ops : Array Oper} : ∀ (is : List Nat) (st : St) (h : H) (K : St → H → Option β), opsK (cx.lam Λ') ops is st h K = opsK cx ops is st h K
  | [], _, _, _ => rfl
  | i :: is, st, h, K => by
    have ih := fun st h => opsK_lam (ops := ops) is st h K
    simp only [opsK, opK_lam, ih]
    rfl

theorem drawOne_lam (o : Oper) (st : St) (h : H) (K : FP → SV → H → Option β) : drawOne (cx.lam Λ') o st h K = drawOne cx o st h K := rfl

theorem drawK_lam {ops : Array Oper} : ∀ (js : List Nat) (tr : List Tr) (st : St) (h : H) (K : St → H → Option β), drawK (cx.lam Λ') ops js tr st h K = drawK cx ops js tr st h K
  | [], _, _, _, _ => rfl
  | j :: js, tr, st, h, K => by
    have ih := fun tr st h => drawK_lam (ops := ops) js tr st h K
    simp only [drawK, drawOne_lam, ih]
    rfl

theorem codeK_le (hΓ : NatX cx) (hΛ : ∀ q L, cx.Λ q = some L → NatL L) (hle : ∀ q L, cx.Λ q = some L → Λ' q = some L) : ∀ (n : Nat) (p : List Bool) (c : Code) (st : St) (h : H),
    Le3 (fun β K => codeK (β := β) cx n p c K st h) (fun β K => codeK (β := β) (cx.lam Λ') n p c K st h)
  | 0, p, c, st, h => .none
  | n + 1, p, c, st, h => by
    have ih := codeK_le hΓ hΛ hle n
    have norm : ∀ (p q : List Bool) (c : Code) (d : Code) (st : St) (h : H), Le3 (fun β (K : Exit → St → H → Option β) => codeK cx n p c (fun e st h => match e with | .normal => codeK cx n q d K st h | e => K e st h) st h)
        (fun β (K : Exit → St → H → Option β) => codeK (cx.lam Λ') n p c (fun e st h => match e with | .normal => codeK (cx.lam Λ') n q d K st h | e => K e st h) st h) := fun p q c d st h =>
      .seq3 (ih p c st h) fun e st h => by
        cases e with
        | normal => exact ih q d st h
        | _ => exact .ret _ _ _
    cases c with
    | skip => exact .ret _ _ _
    | label l => exact .ret _ _ _
    | exit id => exact .ret _ _ _
    | ret => exact .ret _ _ _
    | region id ops draw =>
      simp only [codeK, opsK_lam, drawK_lam]
      exact .cond _ (.cond _ (.seq2 (.of (drawK_nat hΓ _ _ _ _)) fun _ _ => .ret _ _ _) .none) (.seq2 (.of (opsK_nat hΓ _ _ _)) fun _ _ => .ret _ _ _)
    | seq a b => simp only [codeK]; exact norm _ _ _ _ _ _
    | cond o a b =>
      simp only [codeK]
      split
      · exact .cond _ (ih _ _ _ _) (ih _ _ _ _)
      · exact .none
    | block id b =>
      simp only [codeK]
      refine .seq3 (ih _ _ _ _) fun e st h => ?_
      cases e with
      | exit i => exact .cond _ (.ret _ _ _) (.ret _ _ _)
      | _ => exact .ret _ _ _
    | loop b =>
      simp only [codeK]
      refine .cond _ (norm _ _ _ _ _ _) ?_
      cases hL : cx.Λ (pathN p) with
      | some L =>
        simp only [hle _ _ hL]
        exact .of (loopK_nat (hΛ _ _ hL))
      | none => exact .none
    | scope b =>
      simp only [codeK]
      refine .seq3 (ih _ _ _ _) fun e st h => ?_
      cases e with
      | goto l => exact .none
      | _ => exact .ret _ _ _
    | rangeFunc g ps a b => simp only [codeK]; exact .of (rangeK_nat hΓ)
    | _ => exact .none

theorem loopB_le (hΓ : NatX cx) (hΛ : ∀ q L, cx.Λ q = some L → NatL L) (hle : ∀ q L, cx.Λ q = some L → Λ' q = some L) {ins : List Nat} {outs : Exit → List Nat} {p : List Bool} {b : Code} : ∀ (n : Nat) (vs : List CV) (cs : List (List CV)),
    Le3 (fun β K => loopB (β := β) cx ins outs p b n vs cs K) (fun β K => loopB (β := β) (cx.lam Λ') ins outs p b n vs cs K)
  | 0, vs, cs => .none
  | n + 1, vs, cs => by
    simp only [loopB]
    refine .bind _ fun s => .seq3 (codeK_le hΓ hΛ hle _ _ _ _ _) fun e st h => ?_
    cases e with
    | normal => exact .bind _ fun x => loopB_le hΓ hΛ hle n _ _
    | _ => exact .bind _ fun x => .ret _ _ _

theorem roundB_le (hΓ : NatX cx) (hΛ : ∀ q L, cx.Λ q = some L → NatL L) (hle : ∀ q L, cx.Λ q = some L → Λ' q = some L) {ins : List Nat} {p : List Bool} {ps : List Nat} {as bd : Code} {env args : List CV} {conts : List (List CV)} :
    Le2 (fun β K => roundB (β := β) cx ins p ps as bd env args conts K) (fun β K => roundB (β := β) (cx.lam Λ') ins p ps as bd env args conts K) := by
  unfold roundB
  refine .cond _ (.seq3 (codeK_le hΓ hΛ hle _ _ _ _ _) fun e st h => ?_) .none
  cases e with
  | normal =>
    refine .seq3 (codeK_le hΓ hΛ hle _ _ _ _ _) fun e st h => ?_
    cases e with
    | normal => exact .bind _ fun c => .ret _ _
    | ret => exact .bind _ fun c => .ret _ _
    | exit i => exact .bind _ fun c => .ret _ _
    | _ => exact .none
  | _ => exact .none
end

abbrev bodyL (root : Code) (p : List Bool) : Code := (codeAt root (false :: p)).getD .skip

abbrev Cx.loop (cx : Cx) (p : List Bool) (L : LoopSem) : Cx := cx.lam fun q => bif Nat.beq q (pathN p) then some L else cx.Λ q

/-- What is to be known of a context's loops. -/
structure LoopsOK (cx : Cx) : Prop where
  s : LoopsS cx
  n : ∀ q L, cx.Λ q = some L → NatL L

theorem LoopsOK.none {cx : Cx} (h : ∀ q, cx.Λ q = none) : LoopsOK cx := ⟨fun p L b hl => (by rw [h] at hl; cases hl), fun q L hl => (by rw [h] at hl; cases hl)⟩

theorem LoopsOK.loop {cx : Cx} (hN : NatX cx) (h : LoopsOK cx) {p : List Bool} {L0 : LoopSem} (hp : cx.Λ (pathN p) = .none) (hn0 : NatL L0)
    (hs : ∀ (vs : List CV) (cs : List (List CV)) (β : Type) (K : Exit → List CV → List (List CV) → Option β) (r : β), L0.run vs cs β K = some r → ∃ n, loopB cx L0.ins L0.outs p (bodyL cx.root p) n vs cs K = some r) : LoopsOK (cx.loop p L0) := by
  have hle : ∀ q L, cx.Λ q = some L → (cx.loop p L0).Λ q = some L := fun q L hq => by
    show (bif Nat.beq q (pathN p) then _ else _) = _
    cases hb : Nat.beq q (pathN p) with
    | true => rw [beq_true hb, hp] at hq; cases hq
    | false => exact hq
  have hcase : ∀ q L, (cx.loop p L0).Λ q = some L → (q = pathN p ∧ L = L0) ∨ cx.Λ q = some L := fun q L hq => by
    replace hq : (bif Nat.beq q (pathN p) then some L0 else cx.Λ q) = some L := hq
    cases hb : Nat.beq q (pathN p) with
    | true => rw [hb] at hq; cases hq; exact .inl ⟨beq_true hb, rfl⟩
    | false => rw [hb] at hq; exact .inr hq
  refine ⟨fun q L b hl hc vs cs β K r hr => ?_, fun q L hl => ?_⟩
  · rcases hcase _ L hl with ⟨hq, rfl⟩ | hl
    · have := pathN_inj q p hq
      subst this
      have e : bodyL cx.root q = b := by
        have hc' : codeAt cx.root q = some (.loop b) := hc
        simp [bodyL, codeAt, hc', childOf]
      obtain ⟨n, hn⟩ := hs vs cs β K r hr
      rw [e] at hn
      exact ⟨n, (loopB_le (Λ' := (cx.loop q L).Λ) hN h.n hle n vs cs).use hn⟩
    · obtain ⟨n, hn⟩ := h.s q L b hl hc vs cs β K r hr
      exact ⟨n, (loopB_le (Λ' := (cx.loop p L0).Λ) hN h.n hle n vs cs).use hn⟩
  · rcases hcase q L hl with ⟨_, rfl⟩ | hl
    · exact hn0
    · exact h.n q L hl

/-- How a loop is left. -/
inductive Out where
  | one (e : Exit) (vs : List CV) (cs : List (List CV))
  | alt (b : Bool) (x y : Out)

def Out.run {β : Type} : Out → (Exit → List CV → List (List CV) → Option β) → Option β
  | .one e vs cs, K => K e vs cs
  | .alt b x y, K => bif b then x.run K else y.run K

theorem Out.nat : ∀ (o : Out), Nat3 (fun β K => o.run (β := β) K)
  | .one _ _ _ => .ret _ _ _
  | .alt _ x y => .cond _ x.nat y.nat
end Go.Ab

namespace Go.Ab
open Go

/-- A contract that holds, and is natural. -/
structure GoodC (P : Program) (f : FuncId) (g : Callee) : Prop where
  s : SoundC P f g
  n : NatC g

theorem GoodC.of {P : Program} {f : FuncId} {g g' : Callee} (h : SoundC P f g) (hn : NatC g') (ht : ∀ args conts (β : Type) (K : CV → List (List CV) → Option β) r, g'.run args conts β K = some r → g.run args conts β K = some r) : GoodC P f g' := ⟨SoundC.of h ht, hn⟩

def lookL : List (Nat × Callee) → FuncId → Option Callee
  | [], _ => none
  | p :: r, f => bif Nat.beq f p.1 then some p.2 else lookL r f

def Good (P : Program) (l : List (Nat × Callee)) : Prop := ∀ f g, lookL l f = some g → GoodC P f g

theorem Good.nil {P : Program} : Good P [] := fun f g h => by cases h
theorem Good.cons {P : Program} {f : Nat} {g : Callee} {l : List (Nat × Callee)} (h : GoodC P f g) (t : Good P l) : Good P ((f, g) :: l) := fun f' g' h' => by
  simp only [lookL] at h'
  cases e : Nat.beq f' f with
  | true => rw [e] at h'; cases h'; rw [beq_true e]; exact h
  | false => rw [e] at h'; exact t f' g' h'

theorem lookL_app : ∀ (l m : List (Nat × Callee)) (f : Nat), lookL (l ++ m) f = (match lookL l f with | some g => some g | none => lookL m f)
  | [], m, f => rfl
  | p :: l, m, f => by
    simp only [List.cons_append, lookL]
    cases Nat.beq f p.1 with
    | true => rfl
    | false => exact lookL_app l m f

theorem Good.app {P : Program} {l m : List (Nat × Callee)} (hl : Good P l) (hm : Good P m) : Good P (l ++ m) := fun f g h => by
  rw [lookL_app] at h
  cases e : lookL l f with
  | some g' => rw [e] at h; cases h; exact hl f g e
  | none => rw [e] at h; exact hm f g h

/-- What is gone into, and holds. -/
structure GoodN (P : Program) (f : FuncId) (n : Inl) : Prop where
  s : SoundN P f n
  n : NatN n

def lookI : List (Nat × Inl) → FuncId → Option Inl
  | [], _ => none
  | p :: r, f => bif Nat.beq f p.1 then some p.2 else lookI r f

def GoodI (P : Program) (l : List (Nat × Inl)) : Prop := ∀ f g, lookI l f = some g → GoodN P f g

theorem GoodI.nil {P : Program} : GoodI P [] := fun f g h => by cases h
theorem GoodI.cons {P : Program} {f : Nat} {g : Inl} {l : List (Nat × Inl)} (h : GoodN P f g) (t : GoodI P l) : GoodI P ((f, g) :: l) := fun f' g' h' => by
  simp only [lookI] at h'
  cases e : Nat.beq f' f with
  | true => rw [e] at h'; cases h'; rw [beq_true e]; exact h
  | false => rw [e] at h'; exact t f' g' h'

/-- A function's context. -/
noncomputable abbrev cxF (P : Program) (fn : Func) (l : List (Nat × Callee)) (wr : Nat → Bool := fun _ => false) (un : Nat → Bool := fun _ => false) (eqT : Nat → Bool := fun _ => false) : Cx :=
  { P := P, nt := fn.ntmps, Γ := lookL l, Λ := fun _ => none, un := un, root := bodyOf fn, wr := wr, eqT := eqT }

/-- The same, with functions that are gone into; numbers handed back leave what was given free; arrays by their cells. -/
noncomputable abbrev cxG (P : Program) (fn : Func) (l : List (Nat × Callee)) (il : List (Nat × Inl) := []) (wr : Nat → Bool := fun _ => false) (un : Nat → Bool := fun _ => false) (eqT : Nat → Bool := fun _ => false) : Cx :=
  { P := P, nt := fn.ntmps, Γ := lookL l, Λ := fun _ => none, un := un, root := bodyOf fn, wr := wr, eqT := eqT, I := lookI il, bor := true, dir := true }

/-- The same, and new boxes of regions that draw come with their first store. -/
noncomputable abbrev cxN (P : Program) (fn : Func) (l : List (Nat × Callee)) (il : List (Nat × Inl) := []) (wr : Nat → Bool := fun _ => false) (un : Nat → Bool := fun _ => false) (eqT : Nat → Bool := fun _ => false) : Cx :=
  { P := P, nt := fn.ntmps, Γ := lookL l, Λ := fun _ => none, un := un, root := bodyOf fn, wr := wr, eqT := eqT, I := lookI il, bor := true, dir := true, nw := true }

/-- All that is to be known of a context. -/
structure CxOK (cx : Cx) (l : List (Nat × Callee)) : Prop where
  Γ : cx.Γ = lookL l
  good : Good cx.P l
  eq : EqOK cx
  loops : LoopsOK cx
  Y : cx.Y = none
  It : cx.It = fun _ => none
  rf : cx.rf = fun _ => none
  inl : ∀ f n, cx.I f = some n → GoodN cx.P f n

theorem CxOK.nx {cx : Cx} {l : List (Nat × Callee)} (h : CxOK cx l) : NatX cx :=
  ⟨fun f g hg => (h.good f g (by rw [← h.Γ]; exact hg)).n, fun y hy => by rw [h.Y] at hy; (cases hy), fun f G hG => by rw [h.It] at hG; (cases hG), fun q S hS => by rw [h.rf] at hS; (cases hS), fun f n hn => (h.inl f n hn).n⟩

theorem CxOK.base {P : Program} {fn : Func} {l : List (Nat × Callee)} {wr un eqT : Nat → Bool} (h : Good P l) (he : EqOK (cxF P fn l wr un eqT)) : CxOK (cxF P fn l wr un eqT) l :=
  ⟨rfl, h, he, LoopsOK.none fun _ => rfl, rfl, rfl, rfl, fun f n hn => by cases hn⟩

theorem CxOK.baseG {P : Program} {fn : Func} {l : List (Nat × Callee)} {il : List (Nat × Inl)} {wr un eqT : Nat → Bool} (h : Good P l) (hi : GoodI P il) (he : EqOK (cxG P fn l il wr un eqT)) : CxOK (cxG P fn l il wr un eqT) l :=
  ⟨rfl, h, he, LoopsOK.none fun _ => rfl, rfl, rfl, rfl, fun f n hn => hi f n hn⟩

theorem CxOK.baseN {P : Program} {fn : Func} {l : List (Nat × Callee)} {il : List (Nat × Inl)} {wr un eqT : Nat → Bool} (h : Good P l) (hi : GoodI P il) (he : EqOK (cxN P fn l il wr un eqT)) : CxOK (cxN P fn l il wr un eqT) l :=
  ⟨rfl, h, he, LoopsOK.none fun _ => rfl, rfl, rfl, rfl, fun f n hn => hi f n hn⟩

theorem CxOK.loop {cx : Cx} {l : List (Nat × Callee)} (h : CxOK cx l) {p : List Bool} {L : LoopSem} (hp : cx.Λ (pathN p) = none) (hn0 : NatL L)
    (hs : ∀ (vs : List CV) (cs : List (List CV)) (β : Type) (K : Exit → List CV → List (List CV) → Option β) (r : β), L.run vs cs β K = some r → ∃ n, loopB cx L.ins L.outs p (bodyL cx.root p) n vs cs K = some r) : CxOK (cx.loop p L) l :=
  ⟨h.Γ, h.good, fun t ht => h.eq t ht, LoopsOK.loop h.nx h.loops hp hn0 hs, h.Y, h.It, h.rf, h.inl⟩

theorem CxOK.eqY {cx : Cx} {l : List (Nat × Callee)} (h : CxOK cx l) : EqY cx :=
  ⟨h.eq, fun y hy => by rw [h.Y] at hy; (cases hy), fun f G hG => by rw [h.It] at hG; (cases hG), fun p S g ps as bd hS => by rw [h.rf] at hS; (cases hS), fun f n hn => (h.inl f n hn).s⟩

theorem CxOK.sound {cx : Cx} {l : List (Nat × Callee)} (h : CxOK cx l) {f : FuncId} {fn : Func} (hf : cx.P.funcs[f]? = some fn)
    (hn : (fn.name == "runtime.NumGoroutine") = false) (hb : fn.body = some cx.root) (hnt : cx.nt = fn.ntmps) (hpn : Nat.ble (fn.params.size + fn.nfree) fn.ntmps = true) : SoundC cx.P f (fnC cx fn) :=
  fnSoundY (fun f g hg => (h.good f g (by rw [← h.Γ]; exact hg)).s) h.nx h.eqY h.loops.s h.loops.n hf hn hb hnt (Nat.le_of_ble_eq_true hpn)

/-- A function that is gone into. -/
theorem CxOK.inlG {cx : Cx} {l : List (Nat × Callee)} (h : CxOK cx l) {f : FuncId} {fn : Func} (hf : cx.P.funcs[f]? = some fn)
    (hn : (fn.name == "runtime.NumGoroutine") = false) (hb : fn.body = some cx.root) (hnt : cx.nt = fn.ntmps) (hpn : Nat.ble (fn.params.size + fn.nfree) fn.ntmps = true) : GoodN cx.P f (inlC cx fn) :=
  ⟨inlSound (fun f g hg => (h.good f g (by rw [← h.Γ]; exact hg)).s) h.nx h.eqY h.loops.s h.loops.n hf hn hb hnt (Nat.le_of_ble_eq_true hpn), inlC_nat h.nx h.loops.n⟩

/-- Values of a type, closed. -/
structure Cod (α : Type) where
  enc : α → CV
  dec : CV → Option α
  ok : ∀ c a, dec c = some a → c = enc a
  de : ∀ a, dec (enc a) = some a

def g0 (pre : Bool) (out : CV) : Callee := ⟨fun args conts _ K => match args, conts with
  | [], [] => bif pre then K (out) [] else none
  | _, _ => none⟩
theorem g0_nat {pre : Bool} {out : CV} : NatC (g0 pre out) := fun args conts => by
  unfold g0
  dsimp only
  split
  · exact .cond _ (.ret _ _) .none
  · exact .none
theorem good0 {pre : Bool} {out : CV} {P : Program} {f : FuncId} {cx : Cx} {fn : Func} (hs : SoundC P f (fnC cx fn))
    (h : ∀ (_ : Unit), pre = true → ∀ (β : Type) (K : CV → List (List CV) → Option β), fnK cx fn [] [] K = K (out) []) : GoodC P f (g0 pre out) := by
  refine ⟨SoundC.of hs fun args conts β K r hr => ?_, g0_nat⟩
  unfold g0 at hr
  dsimp only at hr
  split at hr
  · replace hr := cond_some hr
    obtain ⟨hp, hr⟩ := hr
    rw [fnC_run, h () hp]; exact hr
  · cases hr

def g1 {α : Type} (A : Cod α) (pre : α → Bool) (out : α → CV) : Callee := ⟨fun args conts _ K => match args, conts with
  | [a], [] => (A.dec a).bind fun a => bif pre a then K (out a) [] else none
  | _, _ => none⟩
theorem g1_nat {α : Type} (A : Cod α) {pre : α → Bool} {out : α → CV} : NatC (g1 A pre out) := fun args conts => by
  unfold g1
  dsimp only
  split
  · exact .bind _ fun _ => .cond _ (.ret _ _) .none
  · exact .none
theorem good1 {α : Type} {A : Cod α} {pre : α → Bool} {out : α → CV} {P : Program} {f : FuncId} {cx : Cx} {fn : Func} (hs : SoundC P f (fnC cx fn))
    (h : ∀ a, pre a = true → ∀ (β : Type) (K : CV → List (List CV) → Option β), fnK cx fn [A.enc a] [] K = K (out a) []) : GoodC P f (g1 A pre out) := by
  refine ⟨SoundC.of hs fun args conts β K r hr => ?_, g1_nat _⟩
  unfold g1 at hr
  dsimp only at hr
  split at hr
  · replace hr := bind_some' hr
    obtain ⟨a', ha, hr⟩ := hr
    replace hr := cond_some hr
    obtain ⟨hp, hr⟩ := hr
    have ea := A.ok _ _ ha
    subst ea
    rw [fnC_run, h a' hp]; exact hr
  · cases hr

def g2 {α : Type} {β : Type} (A : Cod α) (B : Cod β) (pre : α → β → Bool) (out : α → β → CV) : Callee := ⟨fun args conts _ K => match args, conts with
  | [a, b], [] => (A.dec a).bind fun a => (B.dec b).bind fun b => bif pre a b then K (out a b) [] else none
  | _, _ => none⟩
theorem g2_nat {α : Type} {β : Type} (A : Cod α) (B : Cod β) {pre : α → β → Bool} {out : α → β → CV} : NatC (g2 A B pre out) := fun args conts => by
  unfold g2
  dsimp only
  split
  · exact .bind _ fun _ => .bind _ fun _ => .cond _ (.ret _ _) .none
  · exact .none
theorem good2 {α : Type} {β : Type} {A : Cod α} {B : Cod β} {pre : α → β → Bool} {out : α → β → CV} {P : Program} {f : FuncId} {cx : Cx} {fn : Func} (hs : SoundC P f (fnC cx fn))
    (h : ∀ a b, pre a b = true → ∀ (β : Type) (K : CV → List (List CV) → Option β), fnK cx fn [A.enc a, B.enc b] [] K = K (out a b) []) : GoodC P f (g2 A B pre out) := by
  refine ⟨SoundC.of hs fun args conts β K r hr => ?_, g2_nat _ _⟩
  unfold g2 at hr
  dsimp only at hr
  split at hr
  · replace hr := bind_some' hr
    obtain ⟨a', ha, hr⟩ := hr
    replace hr := bind_some' hr
    obtain ⟨b', hb, hr⟩ := hr
    replace hr := cond_some hr
    obtain ⟨hp, hr⟩ := hr
    have ea := A.ok _ _ ha
    subst ea
    have eb := B.ok _ _ hb
    subst eb
    rw [fnC_run, h a' b' hp]; exact hr
  · cases hr

def g3 {α : Type} {β : Type} {γ : Type} (A : Cod α) (B : Cod β) (C : Cod γ) (pre : α → β → γ → Bool) (out : α → β → γ → CV) : Callee := ⟨fun args conts _ K => match args, conts with
  | [a, b, c], [] => (A.dec a).bind fun a => (B.dec b).bind fun b => (C.dec c).bind fun c => bif pre a b c then K (out a b c) [] else none
  | _, _ => none⟩
theorem g3_nat {α : Type} {β : Type} {γ : Type} (A : Cod α) (B : Cod β) (C : Cod γ) {pre : α → β → γ → Bool} {out : α → β → γ → CV} : NatC (g3 A B C pre out) := fun args conts => by
  unfold g3
  dsimp only
  split
  · exact .bind _ fun _ => .bind _ fun _ => .bind _ fun _ => .cond _ (.ret _ _) .none
  · exact .none
theorem good3 {α : Type} {β : Type} {γ : Type} {A : Cod α} {B : Cod β} {C : Cod γ} {pre : α → β → γ → Bool} {out : α → β → γ → CV} {P : Program} {f : FuncId} {cx : Cx} {fn : Func} (hs : SoundC P f (fnC cx fn))
    (h : ∀ a b c, pre a b c = true → ∀ (β : Type) (K : CV → List (List CV) → Option β), fnK cx fn [A.enc a, B.enc b, C.enc c] [] K = K (out a b c) []) : GoodC P f (g3 A B C pre out) := by
  refine ⟨SoundC.of hs fun args conts β K r hr => ?_, g3_nat _ _ _⟩
  unfold g3 at hr
  dsimp only at hr
  split at hr
  · replace hr := bind_some' hr
    obtain ⟨a', ha, hr⟩ := hr
    replace hr := bind_some' hr
    obtain ⟨b', hb, hr⟩ := hr
    replace hr := bind_some' hr
    obtain ⟨c', hc, hr⟩ := hr
    replace hr := cond_some hr
    obtain ⟨hp, hr⟩ := hr
    have ea := A.ok _ _ ha
    subst ea
    have eb := B.ok _ _ hb
    subst eb
    have ec := C.ok _ _ hc
    subst ec
    rw [fnC_run, h a' b' c' hp]; exact hr
  · cases hr

def g4 {α : Type} {β : Type} {γ : Type} {δ : Type} (A : Cod α) (B : Cod β) (C : Cod γ) (D : Cod δ) (pre : α → β → γ → δ → Bool) (out : α → β → γ → δ → CV) : Callee := ⟨fun args conts _ K => match args, conts with
  | [a, b, c, d], [] => (A.dec a).bind fun a => (B.dec b).bind fun b => (C.dec c).bind fun c => (D.dec d).bind fun d => bif pre a b c d then K (out a b c d) [] else none
  | _, _ => none⟩
theorem g4_nat {α : Type} {β : Type} {γ : Type} {δ : Type} (A : Cod α) (B : Cod β) (C : Cod γ) (D : Cod δ) {pre : α → β → γ → δ → Bool} {out : α → β → γ → δ → CV} : NatC (g4 A B C D pre out) := fun args conts => by
  unfold g4
  dsimp only
  split
  · exact .bind _ fun _ => .bind _ fun _ => .bind _ fun _ => .bind _ fun _ => .cond _ (.ret _ _) .none
  · exact .none
theorem good4 {α : Type} {β : Type} {γ : Type} {δ : Type} {A : Cod α} {B : Cod β} {C : Cod γ} {D : Cod δ} {pre : α → β → γ → δ → Bool} {out : α → β → γ → δ → CV} {P : Program} {f : FuncId} {cx : Cx} {fn : Func} (hs : SoundC P f (fnC cx fn))
    (h : ∀ a b c d, pre a b c d = true → ∀ (β : Type) (K : CV → List (List CV) → Option β), fnK cx fn [A.enc a, B.enc b, C.enc c, D.enc d] [] K = K (out a b c d) []) : GoodC P f (g4 A B C D pre out) := by
  refine ⟨SoundC.of hs fun args conts β K r hr => ?_, g4_nat _ _ _ _⟩
  unfold g4 at hr
  dsimp only at hr
  split at hr
  · replace hr := bind_some' hr
    obtain ⟨a', ha, hr⟩ := hr
    replace hr := bind_some' hr
    obtain ⟨b', hb, hr⟩ := hr
    replace hr := bind_some' hr
    obtain ⟨c', hc, hr⟩ := hr
    replace hr := bind_some' hr
    obtain ⟨d', hd, hr⟩ := hr
    replace hr := cond_some hr
    obtain ⟨hp, hr⟩ := hr
    have ea := A.ok _ _ ha
    subst ea
    have eb := B.ok _ _ hb
    subst eb
    have ec := C.ok _ _ hc
    subst ec
    have ed := D.ok _ _ hd
    subst ed
    rw [fnC_run, h a' b' c' d' hp]; exact hr
  · cases hr

def g5 {α : Type} {β : Type} {γ : Type} {δ : Type} {ε : Type} (A : Cod α) (B : Cod β) (C : Cod γ) (D : Cod δ) (E : Cod ε) (pre : α → β → γ → δ → ε → Bool) (out : α → β → γ → δ → ε → CV) : Callee := ⟨fun args conts _ K => match args, conts with
  | [a, b, c, d, e], [] => (A.dec a).bind fun a => (B.dec b).bind fun b => (C.dec c).bind fun c => (D.dec d).bind fun d => (E.dec e).bind fun e => bif pre a b c d e then K (out a b c d e) [] else none
  | _, _ => none⟩
theorem g5_nat {α : Type} {β : Type} {γ : Type} {δ : Type} {ε : Type} (A : Cod α) (B : Cod β) (C : Cod γ) (D : Cod δ) (E : Cod ε) {pre : α → β → γ → δ → ε → Bool} {out : α → β → γ → δ → ε → CV} : NatC (g5 A B C D E pre out) := fun args conts => by
  unfold g5
  dsimp only
  split
  · exact .bind _ fun _ => .bind _ fun _ => .bind _ fun _ => .bind _ fun _ => .bind _ fun _ => .cond _ (.ret _ _) .none
  · exact .none
theorem good5 {α : Type} {β : Type} {γ : Type} {δ : Type} {ε : Type} {A : Cod α} {B : Cod β} {C : Cod γ} {D : Cod δ} {E : Cod ε} {pre : α → β → γ → δ → ε → Bool} {out : α → β → γ → δ → ε → CV} {P : Program} {f : FuncId} {cx : Cx} {fn : Func} (hs : SoundC P f (fnC cx fn))
    (h : ∀ a b c d e, pre a b c d e = true → ∀ (β : Type) (K : CV → List (List CV) → Option β), fnK cx fn [A.enc a, B.enc b, C.enc c, D.enc d, E.enc e] [] K = K (out a b c d e) []) : GoodC P f (g5 A B C D E pre out) := by
  refine ⟨SoundC.of hs fun args conts β K r hr => ?_, g5_nat _ _ _ _ _⟩
  unfold g5 at hr
  dsimp only at hr
  split at hr
  · replace hr := bind_some' hr
    obtain ⟨a', ha, hr⟩ := hr
    replace hr := bind_some' hr
    obtain ⟨b', hb, hr⟩ := hr
    replace hr := bind_some' hr
    obtain ⟨c', hc, hr⟩ := hr
    replace hr := bind_some' hr
    obtain ⟨d', hd, hr⟩ := hr
    replace hr := bind_some' hr
    obtain ⟨e', he, hr⟩ := hr
    replace hr := cond_some hr
    obtain ⟨hp, hr⟩ := hr
    have ea := A.ok _ _ ha
    subst ea
    have eb := B.ok _ _ hb
    subst eb
    have ec := C.ok _ _ hc
    subst ec
    have ed := D.ok _ _ hd
    subst ed
    have ee := E.ok _ _ he
    subst ee
    rw [fnC_run, h a' b' c' d' e' hp]; exact hr
  · cases hr

def g6 {α : Type} {β : Type} {γ : Type} {δ : Type} {ε : Type} {ζ : Type} (A : Cod α) (B : Cod β) (C : Cod γ) (D : Cod δ) (E : Cod ε) (F : Cod ζ) (pre : α → β → γ → δ → ε → ζ → Bool) (out : α → β → γ → δ → ε → ζ → CV) : Callee := ⟨fun args conts _ K => match args, conts with
  | [a, b, c, d, e, f], [] => (A.dec a).bind fun a => (B.dec b).bind fun b => (C.dec c).bind fun c => (D.dec d).bind fun d => (E.dec e).bind fun e => (F.dec f).bind fun f => bif pre a b c d e f then K (out a b c d e f) [] else none
  | _, _ => none⟩
theorem g6_nat {α : Type} {β : Type} {γ : Type} {δ : Type} {ε : Type} {ζ : Type} (A : Cod α) (B : Cod β) (C : Cod γ) (D : Cod δ) (E : Cod ε) (F : Cod ζ) {pre : α → β → γ → δ → ε → ζ → Bool} {out : α → β → γ → δ → ε → ζ → CV} : NatC (g6 A B C D E F pre out) := fun args conts => by
  unfold g6
  dsimp only
  split
  · exact .bind _ fun _ => .bind _ fun _ => .bind _ fun _ => .bind _ fun _ => .bind _ fun _ => .bind _ fun _ => .cond _ (.ret _ _) .none
  · exact .none
theorem good6 {α : Type} {β : Type} {γ : Type} {δ : Type} {ε : Type} {ζ : Type} {A : Cod α} {B : Cod β} {C : Cod γ} {D : Cod δ} {E : Cod ε} {F : Cod ζ} {pre : α → β → γ → δ → ε → ζ → Bool} {out : α → β → γ → δ → ε → ζ → CV} {P : Program} {f : FuncId} {cx : Cx} {fn : Func} (hs : SoundC P f (fnC cx fn))
    (h : ∀ a b c d e f, pre a b c d e f = true → ∀ (β : Type) (K : CV → List (List CV) → Option β), fnK cx fn [A.enc a, B.enc b, C.enc c, D.enc d, E.enc e, F.enc f] [] K = K (out a b c d e f) []) : GoodC P f (g6 A B C D E F pre out) := by
  refine ⟨SoundC.of hs fun args conts β K r hr => ?_, g6_nat _ _ _ _ _ _⟩
  unfold g6 at hr
  dsimp only at hr
  split at hr
  · replace hr := bind_some' hr
    obtain ⟨a', ha, hr⟩ := hr
    replace hr := bind_some' hr
    obtain ⟨b', hb, hr⟩ := hr
    replace hr := bind_some' hr
    obtain ⟨c', hc, hr⟩ := hr
    replace hr := bind_some' hr
    obtain ⟨d', hd, hr⟩ := hr
    replace hr := bind_some' hr
    obtain ⟨e', he, hr⟩ := hr
    replace hr := bind_some' hr
    obtain ⟨f', hf, hr⟩ := hr
    replace hr := cond_some hr
    obtain ⟨hp, hr⟩ := hr
    have ea := A.ok _ _ ha
    subst ea
    have eb := B.ok _ _ hb
    subst eb
    have ec := C.ok _ _ hc
    subst ec
    have ed := D.ok _ _ hd
    subst ed
    have ee := E.ok _ _ he
    subst ee
    have ef := F.ok _ _ hf
    subst ef
    rw [fnC_run, h a' b' c' d' e' f' hp]; exact hr
  · cases hr

/-- Boxes of a type. -/
structure CodB (α : Type) where
  enc : α → List (List CV)
  dec : List (List CV) → Option α
  ok : ∀ c a, dec c = some a → c = enc a
  de : ∀ a, dec (enc a) = some a

/-- No box. -/
def c0 : CodB Unit where
  enc := fun _ => []
  dec := fun c => match c with | [] => some () | _ => none
  ok := fun c a h => by
    split at h
    · rfl
    · cases h
  de := fun _ => rfl

def l1 {T0 : Type} {U : Type} (ins : List Nat) (outs : Exit → List Nat) (A0 : Cod T0) (C : CodB U) (pre : T0 → U → Bool) (out : T0 → U → Out) : LoopSem := ⟨ins, outs, fun vs cs _ K => match vs with
  | [a] => (A0.dec a).bind fun a => (C.dec cs).bind fun u => bif pre a u then (out a u).run K else none
  | _ => none⟩
theorem CxOK.loop1 {T0 : Type} {U : Type} {ins : List Nat} {outs : Exit → List Nat} {A0 : Cod T0} {C : CodB U} {pre : T0 → U → Bool} {out : T0 → U → Out} {cx : Cx} {l : List (Nat × Callee)} (h : CxOK cx l) {p : List Bool} (hp : cx.Λ (pathN p) = none)
    (hs : ∀ a u, pre a u = true → ∃ n, ∀ (β : Type) (K : Exit → List CV → List (List CV) → Option β), loopB cx ins outs p (bodyL cx.root p) n [A0.enc a] (C.enc u) K = (out a u).run K) : CxOK (cx.loop p (l1 ins outs A0 C pre out)) l := by
  refine h.loop hp (fun vs cs => ?_) (fun vs cs β K r hr => ?_)
  · unfold l1
    dsimp only
    split
    · exact .bind _ fun _ => .bind _ fun _ => .cond _ (Out.nat _) .none
    · exact .none
  · unfold l1 at hr
    dsimp only at hr
    split at hr
    · replace hr := bind_some' hr
      obtain ⟨aa', haa, hr⟩ := hr
      replace hr := bind_some' hr
      obtain ⟨u', hu, hr⟩ := hr
      replace hr := cond_some hr
      obtain ⟨hpre, hr⟩ := hr
      have eaa := A0.ok _ _ haa
      subst eaa
      have eu := C.ok _ _ hu
      subst eu
      obtain ⟨n, hn⟩ := hs aa' u' hpre
      exact ⟨n, (hn β K).trans hr⟩
    · cases hr

def l2 {T0 : Type} {T1 : Type} {U : Type} (ins : List Nat) (outs : Exit → List Nat) (A0 : Cod T0) (A1 : Cod T1) (C : CodB U) (pre : T0 → T1 → U → Bool) (out : T0 → T1 → U → Out) : LoopSem := ⟨ins, outs, fun vs cs _ K => match vs with
  | [a, b] => (A0.dec a).bind fun a => (A1.dec b).bind fun b => (C.dec cs).bind fun u => bif pre a b u then (out a b u).run K else none
  | _ => none⟩
theorem CxOK.loop2 {T0 : Type} {T1 : Type} {U : Type} {ins : List Nat} {outs : Exit → List Nat} {A0 : Cod T0} {A1 : Cod T1} {C : CodB U} {pre : T0 → T1 → U → Bool} {out : T0 → T1 → U → Out} {cx : Cx} {l : List (Nat × Callee)} (h : CxOK cx l) {p : List Bool} (hp : cx.Λ (pathN p) = none)
    (hs : ∀ a b u, pre a b u = true → ∃ n, ∀ (β : Type) (K : Exit → List CV → List (List CV) → Option β), loopB cx ins outs p (bodyL cx.root p) n [A0.enc a, A1.enc b] (C.enc u) K = (out a b u).run K) : CxOK (cx.loop p (l2 ins outs A0 A1 C pre out)) l := by
  refine h.loop hp (fun vs cs => ?_) (fun vs cs β K r hr => ?_)
  · unfold l2
    dsimp only
    split
    · exact .bind _ fun _ => .bind _ fun _ => .bind _ fun _ => .cond _ (Out.nat _) .none
    · exact .none
  · unfold l2 at hr
    dsimp only at hr
    split at hr
    · replace hr := bind_some' hr
      obtain ⟨aa', haa, hr⟩ := hr
      replace hr := bind_some' hr
      obtain ⟨bb', hbb, hr⟩ := hr
      replace hr := bind_some' hr
      obtain ⟨u', hu, hr⟩ := hr
      replace hr := cond_some hr
      obtain ⟨hpre, hr⟩ := hr
      have eaa := A0.ok _ _ haa
      subst eaa
      have ebb := A1.ok _ _ hbb
      subst ebb
      have eu := C.ok _ _ hu
      subst eu
      obtain ⟨n, hn⟩ := hs aa' bb' u' hpre
      exact ⟨n, (hn β K).trans hr⟩
    · cases hr

def l3 {T0 : Type} {T1 : Type} {T2 : Type} {U : Type} (ins : List Nat) (outs : Exit → List Nat) (A0 : Cod T0) (A1 : Cod T1) (A2 : Cod T2) (C : CodB U) (pre : T0 → T1 → T2 → U → Bool) (out : T0 → T1 → T2 → U → Out) : LoopSem := ⟨ins, outs, fun vs cs _ K => match vs with
  | [a, b, c] => (A0.dec a).bind fun a => (A1.dec b).bind fun b => (A2.dec c).bind fun c => (C.dec cs).bind fun u => bif pre a b c u then (out a b c u).run K else none
  | _ => none⟩
theorem CxOK.loop3 {T0 : Type} {T1 : Type} {T2 : Type} {U : Type} {ins : List Nat} {outs : Exit → List Nat} {A0 : Cod T0} {A1 : Cod T1} {A2 : Cod T2} {C : CodB U} {pre : T0 → T1 → T2 → U → Bool} {out : T0 → T1 → T2 → U → Out} {cx : Cx} {l : List (Nat × Callee)} (h : CxOK cx l) {p : List Bool} (hp : cx.Λ (pathN p) = none)
    (hs : ∀ a b c u, pre a b c u = true → ∃ n, ∀ (β : Type) (K : Exit → List CV → List (List CV) → Option β), loopB cx ins outs p (bodyL cx.root p) n [A0.enc a, A1.enc b, A2.enc c] (C.enc u) K = (out a b c u).run K) : CxOK (cx.loop p (l3 ins outs A0 A1 A2 C pre out)) l := by
  refine h.loop hp (fun vs cs => ?_) (fun vs cs β K r hr => ?_)
  · unfold l3
    dsimp only
    split
    · exact .bind _ fun _ => .bind _ fun _ => .bind _ fun _ => .bind _ fun _ => .cond _ (Out.nat _) .none
    · exact .none
  · unfold l3 at hr
    dsimp only at hr
    split at hr
    · replace hr := bind_some' hr
      obtain ⟨aa', haa, hr⟩ := hr
      replace hr := bind_some' hr
      obtain ⟨bb', hbb, hr⟩ := hr
      replace hr := bind_some' hr
      obtain ⟨cc', hcc, hr⟩ := hr
      replace hr := bind_some' hr
      obtain ⟨u', hu, hr⟩ := hr
      replace hr := cond_some hr
      obtain ⟨hpre, hr⟩ := hr
      have eaa := A0.ok _ _ haa
      subst eaa
      have ebb := A1.ok _ _ hbb
      subst ebb
      have ecc := A2.ok _ _ hcc
      subst ecc
      have eu := C.ok _ _ hu
      subst eu
      obtain ⟨n, hn⟩ := hs aa' bb' cc' u' hpre
      exact ⟨n, (hn β K).trans hr⟩
    · cases hr

def l4 {T0 : Type} {T1 : Type} {T2 : Type} {T3 : Type} {U : Type} (ins : List Nat) (outs : Exit → List Nat) (A0 : Cod T0) (A1 : Cod T1) (A2 : Cod T2) (A3 : Cod T3) (C : CodB U) (pre : T0 → T1 → T2 → T3 → U → Bool) (out : T0 → T1 → T2 → T3 → U → Out) : LoopSem := ⟨ins, outs, fun vs cs _ K => match vs with
  | [a, b, c, d] => (A0.dec a).bind fun a => (A1.dec b).bind fun b => (A2.dec c).bind fun c => (A3.dec d).bind fun d => (C.dec cs).bind fun u => bif pre a b c d u then (out a b c d u).run K else none
  | _ => none⟩
theorem CxOK.loop4 {T0 : Type} {T1 : Type} {T2 : Type} {T3 : Type} {U : Type} {ins : List Nat} {outs : Exit → List Nat} {A0 : Cod T0} {A1 : Cod T1} {A2 : Cod T2} {A3 : Cod T3} {C : CodB U} {pre : T0 → T1 → T2 → T3 → U → Bool} {out : T0 → T1 → T2 → T3 → U → Out} {cx : Cx} {l : List (Nat × Callee)} (h : CxOK cx l) {p : List Bool} (hp : cx.Λ (pathN p) = none)
    (hs : ∀ a b c d u, pre a b c d u = true → ∃ n, ∀ (β : Type) (K : Exit → List CV → List (List CV) → Option β), loopB cx ins outs p (bodyL cx.root p) n [A0.enc a, A1.enc b, A2.enc c, A3.enc d] (C.enc u) K = (out a b c d u).run K) : CxOK (cx.loop p (l4 ins outs A0 A1 A2 A3 C pre out)) l := by
  refine h.loop hp (fun vs cs => ?_) (fun vs cs β K r hr => ?_)
  · unfold l4
    dsimp only
    split
    · exact .bind _ fun _ => .bind _ fun _ => .bind _ fun _ => .bind _ fun _ => .bind _ fun _ => .cond _ (Out.nat _) .none
    · exact .none
  · unfold l4 at hr
    dsimp only at hr
    split at hr
    · replace hr := bind_some' hr
      obtain ⟨aa', haa, hr⟩ := hr
      replace hr := bind_some' hr
      obtain ⟨bb', hbb, hr⟩ := hr
      replace hr := bind_some' hr
      obtain ⟨cc', hcc, hr⟩ := hr
      replace hr := bind_some' hr
      obtain ⟨dd', hdd, hr⟩ := hr
      replace hr := bind_some' hr
      obtain ⟨u', hu, hr⟩ := hr
      replace hr := cond_some hr
      obtain ⟨hpre, hr⟩ := hr
      have eaa := A0.ok _ _ haa
      subst eaa
      have ebb := A1.ok _ _ hbb
      subst ebb
      have ecc := A2.ok _ _ hcc
      subst ecc
      have edd := A3.ok _ _ hdd
      subst edd
      have eu := C.ok _ _ hu
      subst eu
      obtain ⟨n, hn⟩ := hs aa' bb' cc' dd' u' hpre
      exact ⟨n, (hn β K).trans hr⟩
    · cases hr

def l5 {T0 : Type} {T1 : Type} {T2 : Type} {T3 : Type} {T4 : Type} {U : Type} (ins : List Nat) (outs : Exit → List Nat) (A0 : Cod T0) (A1 : Cod T1) (A2 : Cod T2) (A3 : Cod T3) (A4 : Cod T4) (C : CodB U) (pre : T0 → T1 → T2 → T3 → T4 → U → Bool) (out : T0 → T1 → T2 → T3 → T4 → U → Out) : LoopSem := ⟨ins, outs, fun vs cs _ K => match vs with
  | [a, b, c, d, e] => (A0.dec a).bind fun a => (A1.dec b).bind fun b => (A2.dec c).bind fun c => (A3.dec d).bind fun d => (A4.dec e).bind fun e => (C.dec cs).bind fun u => bif pre a b c d e u then (out a b c d e u).run K else none
  | _ => none⟩
theorem CxOK.loop5 {T0 : Type} {T1 : Type} {T2 : Type} {T3 : Type} {T4 : Type} {U : Type} {ins : List Nat} {outs : Exit → List Nat} {A0 : Cod T0} {A1 : Cod T1} {A2 : Cod T2} {A3 : Cod T3} {A4 : Cod T4} {C : CodB U} {pre : T0 → T1 → T2 → T3 → T4 → U → Bool} {out : T0 → T1 → T2 → T3 → T4 → U → Out} {cx : Cx} {l : List (Nat × Callee)} (h : CxOK cx l) {p : List Bool} (hp : cx.Λ (pathN p) = none)
    (hs : ∀ a b c d e u, pre a b c d e u = true → ∃ n, ∀ (β : Type) (K : Exit → List CV → List (List CV) → Option β), loopB cx ins outs p (bodyL cx.root p) n [A0.enc a, A1.enc b, A2.enc c, A3.enc d, A4.enc e] (C.enc u) K = (out a b c d e u).run K) : CxOK (cx.loop p (l5 ins outs A0 A1 A2 A3 A4 C pre out)) l := by
  refine h.loop hp (fun vs cs => ?_) (fun vs cs β K r hr => ?_)
  · unfold l5
    dsimp only
    split
    · exact .bind _ fun _ => .bind _ fun _ => .bind _ fun _ => .bind _ fun _ => .bind _ fun _ => .bind _ fun _ => .cond _ (Out.nat _) .none
    · exact .none
  · unfold l5 at hr
    dsimp only at hr
    split at hr
    · replace hr := bind_some' hr
      obtain ⟨aa', haa, hr⟩ := hr
      replace hr := bind_some' hr
      obtain ⟨bb', hbb, hr⟩ := hr
      replace hr := bind_some' hr
      obtain ⟨cc', hcc, hr⟩ := hr
      replace hr := bind_some' hr
      obtain ⟨dd', hdd, hr⟩ := hr
      replace hr := bind_some' hr
      obtain ⟨ee', hee, hr⟩ := hr
      replace hr := bind_some' hr
      obtain ⟨u', hu, hr⟩ := hr
      replace hr := cond_some hr
      obtain ⟨hpre, hr⟩ := hr
      have eaa := A0.ok _ _ haa
      subst eaa
      have ebb := A1.ok _ _ hbb
      subst ebb
      have ecc := A2.ok _ _ hcc
      subst ecc
      have edd := A3.ok _ _ hdd
      subst edd
      have eee := A4.ok _ _ hee
      subst eee
      have eu := C.ok _ _ hu
      subst eu
      obtain ⟨n, hn⟩ := hs aa' bb' cc' dd' ee' u' hpre
      exact ⟨n, (hn β K).trans hr⟩
    · cases hr

def l6 {T0 : Type} {T1 : Type} {T2 : Type} {T3 : Type} {T4 : Type} {T5 : Type} {U : Type} (ins : List Nat) (outs : Exit → List Nat) (A0 : Cod T0) (A1 : Cod T1) (A2 : Cod T2) (A3 : Cod T3) (A4 : Cod T4) (A5 : Cod T5) (C : CodB U) (pre : T0 → T1 → T2 → T3 → T4 → T5 → U → Bool) (out : T0 → T1 → T2 → T3 → T4 → T5 → U → Out) : LoopSem := ⟨ins, outs, fun vs cs _ K => match vs with
  | [a, b, c, d, e, f] => (A0.dec a).bind fun a => (A1.dec b).bind fun b => (A2.dec c).bind fun c => (A3.dec d).bind fun d => (A4.dec e).bind fun e => (A5.dec f).bind fun f => (C.dec cs).bind fun u => bif pre a b c d e f u then (out a b c d e f u).run K else none
  | _ => none⟩
theorem CxOK.loop6 {T0 : Type} {T1 : Type} {T2 : Type} {T3 : Type} {T4 : Type} {T5 : Type} {U : Type} {ins : List Nat} {outs : Exit → List Nat} {A0 : Cod T0} {A1 : Cod T1} {A2 : Cod T2} {A3 : Cod T3} {A4 : Cod T4} {A5 : Cod T5} {C : CodB U} {pre : T0 → T1 → T2 → T3 → T4 → T5 → U → Bool} {out : T0 → T1 → T2 → T3 → T4 → T5 → U → Out} {cx : Cx} {l : List (Nat × Callee)} (h : CxOK cx l) {p : List Bool} (hp : cx.Λ (pathN p) = none)
    (hs : ∀ a b c d e f u, pre a b c d e f u = true → ∃ n, ∀ (β : Type) (K : Exit → List CV → List (List CV) → Option β), loopB cx ins outs p (bodyL cx.root p) n [A0.enc a, A1.enc b, A2.enc c, A3.enc d, A4.enc e, A5.enc f] (C.enc u) K = (out a b c d e f u).run K) : CxOK (cx.loop p (l6 ins outs A0 A1 A2 A3 A4 A5 C pre out)) l := by
  refine h.loop hp (fun vs cs => ?_) (fun vs cs β K r hr => ?_)
  · unfold l6
    dsimp only
    split
    · exact .bind _ fun _ => .bind _ fun _ => .bind _ fun _ => .bind _ fun _ => .bind _ fun _ => .bind _ fun _ => .bind _ fun _ => .cond _ (Out.nat _) .none
    · exact .none
  · unfold l6 at hr
    dsimp only at hr
    split at hr
    · replace hr := bind_some' hr
      obtain ⟨aa', haa, hr⟩ := hr
      replace hr := bind_some' hr
      obtain ⟨bb', hbb, hr⟩ := hr
      replace hr := bind_some' hr
      obtain ⟨cc', hcc, hr⟩ := hr
      replace hr := bind_some' hr
      obtain ⟨dd', hdd, hr⟩ := hr
      replace hr := bind_some' hr
      obtain ⟨ee', hee, hr⟩ := hr
      replace hr := bind_some' hr
      obtain ⟨ff', hff, hr⟩ := hr
      replace hr := bind_some' hr
      obtain ⟨u', hu, hr⟩ := hr
      replace hr := cond_some hr
      obtain ⟨hpre, hr⟩ := hr
      have eaa := A0.ok _ _ haa
      subst eaa
      have ebb := A1.ok _ _ hbb
      subst ebb
      have ecc := A2.ok _ _ hcc
      subst ecc
      have edd := A3.ok _ _ hdd
      subst edd
      have eee := A4.ok _ _ hee
      subst eee
      have eff := A5.ok _ _ hff
      subst eff
      have eu := C.ok _ _ hu
      subst eu
      obtain ⟨n, hn⟩ := hs aa' bb' cc' dd' ee' ff' u' hpre
      exact ⟨n, (hn β K).trans hr⟩
    · cases hr

def l7 {T0 : Type} {T1 : Type} {T2 : Type} {T3 : Type} {T4 : Type} {T5 : Type} {T6 : Type} {U : Type} (ins : List Nat) (outs : Exit → List Nat) (A0 : Cod T0) (A1 : Cod T1) (A2 : Cod T2) (A3 : Cod T3) (A4 : Cod T4) (A5 : Cod T5) (A6 : Cod T6) (C : CodB U) (pre : T0 → T1 → T2 → T3 → T4 → T5 → T6 → U → Bool) (out : T0 → T1 → T2 → T3 → T4 → T5 → T6 → U → Out) : LoopSem := ⟨ins, outs, fun vs cs _ K => match vs with
  | [a, b, c, d, e, f, g] => (A0.dec a).bind fun a => (A1.dec b).bind fun b => (A2.dec c).bind fun c => (A3.dec d).bind fun d => (A4.dec e).bind fun e => (A5.dec f).bind fun f => (A6.dec g).bind fun g => (C.dec cs).bind fun u => bif pre a b c d e f g u then (out a b c d e f g u).run K else none
  | _ => none⟩
theorem CxOK.loop7 {T0 : Type} {T1 : Type} {T2 : Type} {T3 : Type} {T4 : Type} {T5 : Type} {T6 : Type} {U : Type} {ins : List Nat} {outs : Exit → List Nat} {A0 : Cod T0} {A1 : Cod T1} {A2 : Cod T2} {A3 : Cod T3} {A4 : Cod T4} {A5 : Cod T5} {A6 : Cod T6} {C : CodB U} {pre : T0 → T1 → T2 → T3 → T4 → T5 → T6 → U → Bool} {out : T0 → T1 → T2 → T3 → T4 → T5 → T6 → U → Out} {cx : Cx} {l : List (Nat × Callee)} (h : CxOK cx l) {p : List Bool} (hp : cx.Λ (pathN p) = none)
    (hs : ∀ a b c d e f g u, pre a b c d e f g u = true → ∃ n, ∀ (β : Type) (K : Exit → List CV → List (List CV) → Option β), loopB cx ins outs p (bodyL cx.root p) n [A0.enc a, A1.enc b, A2.enc c, A3.enc d, A4.enc e, A5.enc f, A6.enc g] (C.enc u) K = (out a b c d e f g u).run K) : CxOK (cx.loop p (l7 ins outs A0 A1 A2 A3 A4 A5 A6 C pre out)) l := by
  refine h.loop hp (fun vs cs => ?_) (fun vs cs β K r hr => ?_)
  · unfold l7
    dsimp only
    split
    · exact .bind _ fun _ => .bind _ fun _ => .bind _ fun _ => .bind _ fun _ => .bind _ fun _ => .bind _ fun _ => .bind _ fun _ => .bind _ fun _ => .cond _ (Out.nat _) .none
    · exact .none
  · unfold l7 at hr
    dsimp only at hr
    split at hr
    · replace hr := bind_some' hr
      obtain ⟨aa', haa, hr⟩ := hr
      replace hr := bind_some' hr
      obtain ⟨bb', hbb, hr⟩ := hr
      replace hr := bind_some' hr
      obtain ⟨cc', hcc, hr⟩ := hr
      replace hr := bind_some' hr
      obtain ⟨dd', hdd, hr⟩ := hr
      replace hr := bind_some' hr
      obtain ⟨ee', hee, hr⟩ := hr
      replace hr := bind_some' hr
      obtain ⟨ff', hff, hr⟩ := hr
      replace hr := bind_some' hr
      obtain ⟨gg', hgg, hr⟩ := hr
      replace hr := bind_some' hr
      obtain ⟨u', hu, hr⟩ := hr
      replace hr := cond_some hr
      obtain ⟨hpre, hr⟩ := hr
      have eaa := A0.ok _ _ haa
      subst eaa
      have ebb := A1.ok _ _ hbb
      subst ebb
      have ecc := A2.ok _ _ hcc
      subst ecc
      have edd := A3.ok _ _ hdd
      subst edd
      have eee := A4.ok _ _ hee
      subst eee
      have eff := A5.ok _ _ hff
      subst eff
      have egg := A6.ok _ _ hgg
      subst egg
      have eu := C.ok _ _ hu
      subst eu
      obtain ⟨n, hn⟩ := hs aa' bb' cc' dd' ee' ff' gg' u' hpre
      exact ⟨n, (hn β K).trans hr⟩
    · cases hr

def l8 {T0 : Type} {T1 : Type} {T2 : Type} {T3 : Type} {T4 : Type} {T5 : Type} {T6 : Type} {T7 : Type} {U : Type} (ins : List Nat) (outs : Exit → List Nat) (A0 : Cod T0) (A1 : Cod T1) (A2 : Cod T2) (A3 : Cod T3) (A4 : Cod T4) (A5 : Cod T5) (A6 : Cod T6) (A7 : Cod T7) (C : CodB U) (pre : T0 → T1 → T2 → T3 → T4 → T5 → T6 → T7 → U → Bool) (out : T0 → T1 → T2 → T3 → T4 → T5 → T6 → T7 → U → Out) : LoopSem := ⟨ins, outs, fun vs cs _ K => match vs with
  | [a, b, c, d, e, f, g, h] => (A0.dec a).bind fun a => (A1.dec b).bind fun b => (A2.dec c).bind fun c => (A3.dec d).bind fun d => (A4.dec e).bind fun e => (A5.dec f).bind fun f => (A6.dec g).bind fun g => (A7.dec h).bind fun h => (C.dec cs).bind fun u => bif pre a b c d e f g h u then (out a b c d e f g h u).run K else none
  | _ => none⟩
theorem CxOK.loop8 {T0 : Type} {T1 : Type} {T2 : Type} {T3 : Type} {T4 : Type} {T5 : Type} {T6 : Type} {T7 : Type} {U : Type} {ins : List Nat} {outs : Exit → List Nat} {A0 : Cod T0} {A1 : Cod T1} {A2 : Cod T2} {A3 : Cod T3} {A4 : Cod T4} {A5 : Cod T5} {A6 : Cod T6} {A7 : Cod T7} {C : CodB U} {pre : T0 → T1 → T2 → T3 → T4 → T5 → T6 → T7 → U → Bool} {out : T0 → T1 → T2 → T3 → T4 → T5 → T6 → T7 → U → Out} {cx : Cx} {l : List (Nat × Callee)} (h : CxOK cx l) {p : List Bool} (hp : cx.Λ (pathN p) = none)
    (hs : ∀ a b c d e f g h u, pre a b c d e f g h u = true → ∃ n, ∀ (β : Type) (K : Exit → List CV → List (List CV) → Option β), loopB cx ins outs p (bodyL cx.root p) n [A0.enc a, A1.enc b, A2.enc c, A3.enc d, A4.enc e, A5.enc f, A6.enc g, A7.enc h] (C.enc u) K = (out a b c d e f g h u).run K) : CxOK (cx.loop p (l8 ins outs A0 A1 A2 A3 A4 A5 A6 A7 C pre out)) l := by
  refine h.loop hp (fun vs cs => ?_) (fun vs cs β K r hr => ?_)
  · unfold l8
    dsimp only
    split
    · exact .bind _ fun _ => .bind _ fun _ => .bind _ fun _ => .bind _ fun _ => .bind _ fun _ => .bind _ fun _ => .bind _ fun _ => .bind _ fun _ => .bind _ fun _ => .cond _ (Out.nat _) .none
    · exact .none
  · unfold l8 at hr
    dsimp only at hr
    split at hr
    · replace hr := bind_some' hr
      obtain ⟨aa', haa, hr⟩ := hr
      replace hr := bind_some' hr
      obtain ⟨bb', hbb, hr⟩ := hr
      replace hr := bind_some' hr
      obtain ⟨cc', hcc, hr⟩ := hr
      replace hr := bind_some' hr
      obtain ⟨dd', hdd, hr⟩ := hr
      replace hr := bind_some' hr
      obtain ⟨ee', hee, hr⟩ := hr
      replace hr := bind_some' hr
      obtain ⟨ff', hff, hr⟩ := hr
      replace hr := bind_some' hr
      obtain ⟨gg', hgg, hr⟩ := hr
      replace hr := bind_some' hr
      obtain ⟨hh', hhh, hr⟩ := hr
      replace hr := bind_some' hr
      obtain ⟨u', hu, hr⟩ := hr
      replace hr := cond_some hr
      obtain ⟨hpre, hr⟩ := hr
      have eaa := A0.ok _ _ haa
      subst eaa
      have ebb := A1.ok _ _ hbb
      subst ebb
      have ecc := A2.ok _ _ hcc
      subst ecc
      have edd := A3.ok _ _ hdd
      subst edd
      have eee := A4.ok _ _ hee
      subst eee
      have eff := A5.ok _ _ hff
      subst eff
      have egg := A6.ok _ _ hgg
      subst egg
      have ehh := A7.ok _ _ hhh
      subst ehh
      have eu := C.ok _ _ hu
      subst eu
      obtain ⟨n, hn⟩ := hs aa' bb' cc' dd' ee' ff' gg' hh' u' hpre
      exact ⟨n, (hn β K).trans hr⟩
    · cases hr

def l9 {T0 : Type} {T1 : Type} {T2 : Type} {T3 : Type} {T4 : Type} {T5 : Type} {T6 : Type} {T7 : Type} {T8 : Type} {U : Type} (ins : List Nat) (outs : Exit → List Nat) (A0 : Cod T0) (A1 : Cod T1) (A2 : Cod T2) (A3 : Cod T3) (A4 : Cod T4) (A5 : Cod T5) (A6 : Cod T6) (A7 : Cod T7) (A8 : Cod T8) (C : CodB U) (pre : T0 → T1 → T2 → T3 → T4 → T5 → T6 → T7 → T8 → U → Bool) (out : T0 → T1 → T2 → T3 → T4 → T5 → T6 → T7 → T8 → U → Out) : LoopSem := ⟨ins, outs, fun vs cs _ K => match vs with
  | [a, b, c, d, e, f, g, h, i] => (A0.dec a).bind fun a => (A1.dec b).bind fun b => (A2.dec c).bind fun c => (A3.dec d).bind fun d => (A4.dec e).bind fun e => (A5.dec f).bind fun f => (A6.dec g).bind fun g => (A7.dec h).bind fun h => (A8.dec i).bind fun i => (C.dec cs).bind fun u => bif pre a b c d e f g h i u then (out a b c d e f g h i u).run K else none
  | _ => none⟩
theorem CxOK.loop9 {T0 : Type} {T1 : Type} {T2 : Type} {T3 : Type} {T4 : Type} {T5 : Type} {T6 : Type} {T7 : Type} {T8 : Type} {U : Type} {ins : List Nat} {outs : Exit → List Nat} {A0 : Cod T0} {A1 : Cod T1} {A2 : Cod T2} {A3 : Cod T3} {A4 : Cod T4} {A5 : Cod T5} {A6 : Cod T6} {A7 : Cod T7} {A8 : Cod T8} {C : CodB U} {pre : T0 → T1 → T2 → T3 → T4 → T5 → T6 → T7 → T8 → U → Bool} {out : T0 → T1 → T2 → T3 → T4 → T5 → T6 → T7 → T8 → U → Out} {cx : Cx} {l : List (Nat × Callee)} (h : CxOK cx l) {p : List Bool} (hp : cx.Λ (pathN p) = none)
    (hs : ∀ a b c d e f g h i u, pre a b c d e f g h i u = true → ∃ n, ∀ (β : Type) (K : Exit → List CV → List (List CV) → Option β), loopB cx ins outs p (bodyL cx.root p) n [A0.enc a, A1.enc b, A2.enc c, A3.enc d, A4.enc e, A5.enc f, A6.enc g, A7.enc h, A8.enc i] (C.enc u) K = (out a b c d e f g h i u).run K) : CxOK (cx.loop p (l9 ins outs A0 A1 A2 A3 A4 A5 A6 A7 A8 C pre out)) l := by
  refine h.loop hp (fun vs cs => ?_) (fun vs cs β K r hr => ?_)
  · unfold l9
    dsimp only
    split
    · exact .bind _ fun _ => .bind _ fun _ => .bind _ fun _ => .bind _ fun _ => .bind _ fun _ => .bind _ fun _ => .bind _ fun _ => .bind _ fun _ => .bind _ fun _ => .bind _ fun _ => .cond _ (Out.nat _) .none
    · exact .none
  · unfold l9 at hr
    dsimp only at hr
    split at hr
    · replace hr := bind_some' hr
      obtain ⟨aa', haa, hr⟩ := hr
      replace hr := bind_some' hr
      obtain ⟨bb', hbb, hr⟩ := hr
      replace hr := bind_some' hr
      obtain ⟨cc', hcc, hr⟩ := hr
      replace hr := bind_some' hr
      obtain ⟨dd', hdd, hr⟩ := hr
      replace hr := bind_some' hr
      obtain ⟨ee', hee, hr⟩ := hr
      replace hr := bind_some' hr
      obtain ⟨ff', hff, hr⟩ := hr
      replace hr := bind_some' hr
      obtain ⟨gg', hgg, hr⟩ := hr
      replace hr := bind_some' hr
      obtain ⟨hh', hhh, hr⟩ := hr
      replace hr := bind_some' hr
      obtain ⟨ii', hii, hr⟩ := hr
      replace hr := bind_some' hr
      obtain ⟨u', hu, hr⟩ := hr
      replace hr := cond_some hr
      obtain ⟨hpre, hr⟩ := hr
      have eaa := A0.ok _ _ haa
      subst eaa
      have ebb := A1.ok _ _ hbb
      subst ebb
      have ecc := A2.ok _ _ hcc
      subst ecc
      have edd := A3.ok _ _ hdd
      subst edd
      have eee := A4.ok _ _ hee
      subst eee
      have eff := A5.ok _ _ hff
      subst eff
      have egg := A6.ok _ _ hgg
      subst egg
      have ehh := A7.ok _ _ hhh
      subst ehh
      have eii := A8.ok _ _ hii
      subst eii
      have eu := C.ok _ _ hu
      subst eu
      obtain ⟨n, hn⟩ := hs aa' bb' cc' dd' ee' ff' gg' hh' ii' u' hpre
      exact ⟨n, (hn β K).trans hr⟩
    · cases hr

def l10 {T0 : Type} {T1 : Type} {T2 : Type} {T3 : Type} {T4 : Type} {T5 : Type} {T6 : Type} {T7 : Type} {T8 : Type} {T9 : Type} {U : Type} (ins : List Nat) (outs : Exit → List Nat) (A0 : Cod T0) (A1 : Cod T1) (A2 : Cod T2) (A3 : Cod T3) (A4 : Cod T4) (A5 : Cod T5) (A6 : Cod T6) (A7 : Cod T7) (A8 : Cod T8) (A9 : Cod T9) (C : CodB U) (pre : T0 → T1 → T2 → T3 → T4 → T5 → T6 → T7 → T8 → T9 → U → Bool) (out : T0 → T1 → T2 → T3 → T4 → T5 → T6 → T7 → T8 → T9 → U → Out) : LoopSem := ⟨ins, outs, fun vs cs _ K => match vs with
  | [a, b, c, d, e, f, g, h, i, j] => (A0.dec a).bind fun a => (A1.dec b).bind fun b => (A2.dec c).bind fun c => (A3.dec d).bind fun d => (A4.dec e).bind fun e => (A5.dec f).bind fun f => (A6.dec g).bind fun g => (A7.dec h).bind fun h => (A8.dec i).bind fun i => (A9.dec j).bind fun j => (C.dec cs).bind fun u => bif pre a b c d e f g h i j u then (out a b c d e f g h i j u).run K else none
  | _ => none⟩
theorem CxOK.loop10 {T0 : Type} {T1 : Type} {T2 : Type} {T3 : Type} {T4 : Type} {T5 : Type} {T6 : Type} {T7 : Type} {T8 : Type} {T9 : Type} {U : Type} {ins : List Nat} {outs : Exit → List Nat} {A0 : Cod T0} {A1 : Cod T1} {A2 : Cod T2} {A3 : Cod T3} {A4 : Cod T4} {A5 : Cod T5} {A6 : Cod T6} {A7 : Cod T7} {A8 : Cod T8} {A9 : Cod T9} {C : CodB U} {pre : T0 → T1 → T2 → T3 → T4 → T5 → T6 → T7 → T8 → T9 → U → Bool} {out : T0 → T1 → T2 → T3 → T4 → T5 → T6 → T7 → T8 → T9 → U → Out} {cx : Cx} {l : List (Nat × Callee)} (h : CxOK cx l) {p : List Bool} (hp : cx.Λ (pathN p) = none)
    (hs : ∀ a b c d e f g h i j u, pre a b c d e f g h i j u = true → ∃ n, ∀ (β : Type) (K : Exit → List CV → List (List CV) → Option β), loopB cx ins outs p (bodyL cx.root p) n [A0.enc a, A1.enc b, A2.enc c, A3.enc d, A4.enc e, A5.enc f, A6.enc g, A7.enc h, A8.enc i, A9.enc j] (C.enc u) K = (out a b c d e f g h i j u).run K) : CxOK (cx.loop p (l10 ins outs A0 A1 A2 A3 A4 A5 A6 A7 A8 A9 C pre out)) l := by
  refine h.loop hp (fun vs cs => ?_) (fun vs cs β K r hr => ?_)
  · unfold l10
    dsimp only
    split
    · exact .bind _ fun _ => .bind _ fun _ => .bind _ fun _ => .bind _ fun _ => .bind _ fun _ => .bind _ fun _ => .bind _ fun _ => .bind _ fun _ => .bind _ fun _ => .bind _ fun _ => .bind _ fun _ => .cond _ (Out.nat _) .none
    · exact .none
  · unfold l10 at hr
    dsimp only at hr
    split at hr
    · replace hr := bind_some' hr
      obtain ⟨aa', haa, hr⟩ := hr
      replace hr := bind_some' hr
      obtain ⟨bb', hbb, hr⟩ := hr
      replace hr := bind_some' hr
      obtain ⟨cc', hcc, hr⟩ := hr
      replace hr := bind_some' hr
      obtain ⟨dd', hdd, hr⟩ := hr
      replace hr := bind_some' hr
      obtain ⟨ee', hee, hr⟩ := hr
      replace hr := bind_some' hr
      obtain ⟨ff', hff, hr⟩ := hr
      replace hr := bind_some' hr
      obtain ⟨gg', hgg, hr⟩ := hr
      replace hr := bind_some' hr
      obtain ⟨hh', hhh, hr⟩ := hr
      replace hr := bind_some' hr
      obtain ⟨ii', hii, hr⟩ := hr
      replace hr := bind_some' hr
      obtain ⟨jj', hjj, hr⟩ := hr
      replace hr := bind_some' hr
      obtain ⟨u', hu, hr⟩ := hr
      replace hr := cond_some hr
      obtain ⟨hpre, hr⟩ := hr
      have eaa := A0.ok _ _ haa
      subst eaa
      have ebb := A1.ok _ _ hbb
      subst ebb
      have ecc := A2.ok _ _ hcc
      subst ecc
      have edd := A3.ok _ _ hdd
      subst edd
      have eee := A4.ok _ _ hee
      subst eee
      have eff := A5.ok _ _ hff
      subst eff
      have egg := A6.ok _ _ hgg
      subst egg
      have ehh := A7.ok _ _ hhh
      subst ehh
      have eii := A8.ok _ _ hii
      subst eii
      have ejj := A9.ok _ _ hjj
      subst ejj
      have eu := C.ok _ _ hu
      subst eu
      obtain ⟨n, hn⟩ := hs aa' bb' cc' dd' ee' ff' gg' hh' ii' jj' u' hpre
      exact ⟨n, (hn β K).trans hr⟩
    · cases hr

end Go.Ab

namespace Go.Ab
open Go

def softL (f : CV → Option CV) : List CV → Option (List CV)
  | [] => some []
  | c :: r => (f c).bind fun c => (softL f r).bind fun r => some (c :: r)

/-- Owned slices, closed. -/
def soft : Nat → CV → Option CV
  | 0, _ => none
  | n + 1, c => match c with
    | .own sz l => some (.sl sz l)
    | .agg cs => (softL (soft n) cs).bind fun cs => some (.agg cs)
    | .tup cs => (softL (soft n) cs).bind fun cs => some (.tup cs)
    | .box _ => none
    | .fn _ _ _ => none
    | .mpo ks => some (.mp ks)
    | c => some c

theorem softL_len {f : CV → Option CV} : ∀ {cs ys : List CV}, softL f cs = some ys → ys.length = cs.length
  | [], ys, h => by cases h; rfl
  | c :: r, ys, h => by
    simp only [softL] at h
    replace h := bind_some' h
    obtain ⟨y, _, h⟩ := h
    replace h := bind_some' h
    obtain ⟨zs, hz, h⟩ := h
    cases h
    simp [softL_len hz]

theorem softL_get {f : CV → Option CV} : ∀ {cs ys : List CV}, softL f cs = some ys → ∀ (j : Nat) (y : CV), ys[j]? = some y → ∃ x, cs[j]? = some x ∧ f x = some y
  | [], ys, h, j, y, hy => by cases h; simp at hy
  | c :: r, ys, h, j, y, hy => by
    simp only [softL] at h
    replace h := bind_some' h
    obtain ⟨y0, h0, h⟩ := h
    replace h := bind_some' h
    obtain ⟨zs, hz, h⟩ := h
    cases h
    cases j with
    | zero => simp at hy; subst hy; exact ⟨c, rfl, h0⟩
    | succ j =>
      obtain ⟨x, hx, hf⟩ := softL_get hz j y (by simpa using hy)
      exact ⟨x, by simpa using hx, hf⟩

theorem CR.soft {w : World} {M : Nat → Prop} {x : CV} {v : Value} (h : CR w M x v) : ∀ (n : Nat) (y : CV), Ab.soft n x = some y → CR w M y v := by
  induction h with
  | int k n => intro m y hy; cases m <;> cases hy; exact .int k n
  | bool b => intro m y hy; cases m <;> cases hy; exact .bool b
  | sl0 sz a cap => intro m y hy; cases m <;> cases hy; exact .sl0 sz a cap
  | sl sz l b o cap u h0 hl hc hM hb hcell hp hr ih => intro m y hy; cases m <;> cases hy; exact .sl sz l b o cap u h0 hl hc hM hb hcell hp hr
  | pc cs off b o u hM hb hcell hp hr ih => intro m y hy; cases m <;> cases hy; exact .pc cs off b o u hM hb hcell hp hr
  | agg cs a hs hp hr ih =>
    intro m y hy
    cases m with
    | zero => cases hy
    | succ m =>
      simp only [Ab.soft] at hy
      replace hy := bind_some' hy
      obtain ⟨ys, h1, hy⟩ := hy
      cases hy
      refine .agg ys a (by rw [softL_len h1]; exact hs) (fun j y hy => ?_) fun j y hy => ?_
      · obtain ⟨x, hx, _⟩ := softL_get h1 j y hy
        exact hp j x hx
      · obtain ⟨x, hx, hf⟩ := softL_get h1 j y hy
        exact ih j x hx m y hf
  | tup cs a hs hr ih =>
    intro m y hy
    cases m with
    | zero => cases hy
    | succ m =>
      simp only [Ab.soft] at hy
      replace hy := bind_some' hy
      obtain ⟨ys, h1, hy⟩ := hy
      cases hy
      refine .tup ys a (by rw [softL_len h1]; exact hs) fun j y hy => ?_
      obtain ⟨x, hx, hf⟩ := softL_get h1 j y hy
      exact ih j x hx m y hf
  | fn f c1 c2 a1 a2 hs1 hs2 hr1 hr2 ih1 ih2 => intro m y hy; cases m <;> cases hy
  | yld l => intro m y hy; cases m <;> cases hy; exact .yld l
  | top v hp => intro m y hy; cases m <;> cases hy; exact .top v hp
  | mp ks b es clk hM hb hh hk => intro m y hy; cases m <;> cases hy; exact .mp ks b es clk hM hb hh hk

theorem OR.soft {w : World} {M M' : Nat → Prop} (hM : ∀ b, M' b → M b) {x : CV} {v : Value} {B : List Nat} (h : OR w M x v B) : (∀ b ∈ B, ¬ M' b) → ∀ (n : Nat) (y : CV), Ab.soft n x = some y → CR w M' y v := by
  have hcr : ∀ x v, CR w M x v → CR w M' x v := fun x v hx => hx.mono (Nat.le_refl _) (fun _ _ _ => rfl) (fun b _ => hM b)
  induction h with
  | c x v hx => exact fun _ n y hy => (hcr _ _ hx).soft n y hy
  | ownN sz h0 => intro _ n y hy; cases n <;> cases hy; exact .sl0 sz none 0
  | own sz l b cap cur ty h0 h1 h2 h4 h5 h6 h7 =>
    intro hB n y hy
    cases n <;> cases hy
    have key : ∀ i j x, at2 l i j = some x → ∃ u, cur[i * sz + j]? = some u ∧ plain u ∧ CR w M x u := h7
    refine .sl sz l b 0 cap (fun i j => cur.getD (i * sz + j) undef) h0 h1 h5 (hB b (by simp)) (block_lt h4) (fun i j x hx => ?_) (fun i j x hx => ?_) fun i j x hx => ?_
    · obtain ⟨u, hu, _, _⟩ := key i j x hx
      rw [cell_of_heap h4, Nat.zero_add, hu, Array.getD_eq_getD_getElem?, hu]; rfl
    · obtain ⟨u, hu, hp, _⟩ := key i j x hx
      rw [Array.getD_eq_getD_getElem?, hu]; exact hp
    · obtain ⟨u, hu, _, hc⟩ := key i j x hx
      rw [Array.getD_eq_getD_getElem?, hu]; exact hcr _ _ hc
  | box cs b cur ty Bs h1 h2 hp hr ih => intro _ n y hy; cases n <;> cases hy
  | mpo ks b es clk hh hk => intro hB n y hy; cases n <;> cases hy; exact .mp ks b es clk (hB b (by simp)) (block_lt hh) hh hk
  | agg cs a Bs hs hp hr ih =>
    intro hB n y hy
    cases n with
    | zero => cases hy
    | succ n =>
      simp only [Ab.soft] at hy
      replace hy := bind_some' hy
      obtain ⟨ys, h1, hy⟩ := hy
      cases hy
      refine .agg ys a (by rw [softL_len h1]; exact hs) (fun j y hy => ?_) fun j y hy => ?_
      · obtain ⟨x, hx, _⟩ := softL_get h1 j y hy
        exact hp j x hx
      · obtain ⟨x, hx, hf⟩ := softL_get h1 j y hy
        exact ih j x hx (fun b hb => hB b (mem_cat.2 ⟨j, (List.getElem?_eq_some_iff.1 hx).1, hb⟩)) n y hf
  | tup cs a Bs hs hr ih =>
    intro hB n y hy
    cases n with
    | zero => cases hy
    | succ n =>
      simp only [Ab.soft] at hy
      replace hy := bind_some' hy
      obtain ⟨ys, h1, hy⟩ := hy
      cases hy
      refine .tup ys a (by rw [softL_len h1]; exact hs) fun j y hy => ?_
      obtain ⟨x, hx, hf⟩ := softL_get h1 j y hy
      exact ih j x hx (fun b hb => hB b (mem_cat.2 ⟨j, (List.getElem?_eq_some_iff.1 hx).1, hb⟩)) n y hf

/-- A callee whose result is known as closed. -/
def softC (n : Nat) (g : Callee) : Callee := ⟨fun args conts β K => g.run args conts β fun rv co => (soft n rv).bind fun rv' => K rv' co⟩

theorem SoundC.soft {P : Program} {f : FuncId} {g : Callee} (h : SoundC P f g) (n : Nat) : SoundC P f (softC n g) := by
  refine ⟨h.enter, fun args conts β K r hK => ?_⟩
  obtain ⟨rv, co, hK, hc⟩ := h.calls args conts β _ r hK
  replace hK := bind_some' hK
  obtain ⟨rv', hs, hK⟩ := hK
  refine ⟨rv', co, hK, fun w M vs bs B m => (hc w M vs bs B m).mono fun e w' he => ?_⟩
  obtain ⟨v, Br, B2, rfl, o⟩ := he
  have hM : ∀ b, MM M B ([] ++ B2) b → MM M B (Br ++ B2) b := fun b hb => hb.imp id fun hb => List.mem_append_right _ hb
  refine ⟨v, [], B2, rfl, ⟨o.io, o.size, o.keep, fun b hb => o.new b (List.mem_append_right _ hb), (List.nodup_append.1 o.nd).2.1, .c _ _ (OR.soft hM o.ret (fun b hb hm => ?_) n rv' hs), o.cont.mono hM⟩⟩
  rcases hm with ⟨h1, h2⟩ | h1
  · rcases o.new b (List.mem_append_left _ hb) with h3 | h3
    · exact h2 h3
    · have := m.lt b h1; omega
  · exact (List.nodup_append.1 o.nd).2.2 b hb b h1 rfl

theorem soft_run {n : Nat} {cx : Cx} {fn : Func} {args : List CV} {conts : List (List CV)} {rv out : CV} (hs : soft n rv = some out) (h : ∀ (β : Type) (K : CV → List (List CV) → Option β), fnK cx fn args conts K = K rv []) (β : Type) (K : CV → List (List CV) → Option β) :
    (softC n (fnC cx fn)).run args conts β K = K out [] := by
  show fnK cx fn args conts _ = _
  rw [h, hs]; rfl

theorem good1S {α : Type} {A : Cod α} {pre : α → Bool} {out : α → CV} {P : Program} {f : FuncId} {cx : Cx} {fn : Func} (hs : SoundC P f (fnC cx fn))
    (h : ∀ a, pre a = true → ∃ rv, soft 4 rv = some (out a) ∧ ∀ (β : Type) (K : CV → List (List CV) → Option β), fnK cx fn [A.enc a] [] K = K rv []) : GoodC P f (g1 A pre out) := by
  refine ⟨SoundC.of (hs.soft 4) fun args conts β K r hr => ?_, g1_nat _⟩
  unfold g1 at hr
  dsimp only at hr
  split at hr
  · replace hr := bind_some' hr
    obtain ⟨a', ha, hr⟩ := hr
    replace hr := cond_some hr
    obtain ⟨hp, hr⟩ := hr
    have ea := A.ok _ _ ha
    subst ea
    obtain ⟨rv, h1, h2⟩ := h a' hp
    rw [soft_run h1 h2]; exact hr
  · cases hr

theorem good2S {α : Type} {β : Type} {A : Cod α} {B : Cod β} {pre : α → β → Bool} {out : α → β → CV} {P : Program} {f : FuncId} {cx : Cx} {fn : Func} (hs : SoundC P f (fnC cx fn))
    (h : ∀ a b, pre a b = true → ∃ rv, soft 4 rv = some (out a b) ∧ ∀ (β : Type) (K : CV → List (List CV) → Option β), fnK cx fn [A.enc a, B.enc b] [] K = K rv []) : GoodC P f (g2 A B pre out) := by
  refine ⟨SoundC.of (hs.soft 4) fun args conts β K r hr => ?_, g2_nat _ _⟩
  unfold g2 at hr
  dsimp only at hr
  split at hr
  · replace hr := bind_some' hr
    obtain ⟨a', ha, hr⟩ := hr
    replace hr := bind_some' hr
    obtain ⟨b', hb, hr⟩ := hr
    replace hr := cond_some hr
    obtain ⟨hp, hr⟩ := hr
    have ea := A.ok _ _ ha
    subst ea
    have eb := B.ok _ _ hb
    subst eb
    obtain ⟨rv, h1, h2⟩ := h a' b' hp
    rw [soft_run h1 h2]; exact hr
  · cases hr
end Go.Ab

namespace Go.Ab
open Go

/-- The shape of contents that go with rounds. -/
structure Sh where
  T : Type
  n : Nat
  un : T → List (List CV)
  dec : List (List CV) → Option T
  ok : ∀ co x, dec co = some x → co = un x
  dec_un : ∀ x, dec (un x) = some x
  len : ∀ x, (un x).length = n

/-- Rounds that keep a shape. -/
def guardY (S : Sh) (Y : YSem) : YSem := fun args conts _ K => Y args conts _ fun s co => (S.dec co).bind fun x => K s (S.un x)

theorem guard_nat {S : Sh} {Y : YSem} (h : NatYS Y) : NatYS (guardY S Y) := fun args conts => .seq2 (h args conts) fun _ _ => .bind _ fun _ => .ret _ _

theorem guard_soundY {P : Program} {S : Sh} {c0 : CV} {Y : YSem} (hn : NatYS Y) (h : SoundY P (gY c0 Y)) : SoundY P (gY c0 (guardY S Y)) := by
  intro args conts β K r hr
  unfold gY at hr
  dsimp only at hr
  split at hr
  · rename_i c cs
    replace hr := cond_some hr
    obtain ⟨hc, hr⟩ := hr
    unfold guardY at hr
    rcases hn args cs with ⟨s0, co0, hs⟩ | hs
    · replace hs : ∀ (β : Type) (K : Option Nat → List (List CV) → Option β), Y args cs β K = K s0 co0 := hs
      rw [hs] at hr
      replace hr := bind_some' hr
      obtain ⟨x0, hx, hr⟩ := hr
      have hco := S.ok _ _ hx
      obtain ⟨rv, co, hq, hy⟩ := h args ([c] :: cs) (CV × List (List CV)) (fun rv co => some (rv, co)) (.bool s0.isNone, [setS c0 s0] :: co0) (by
        show (bif okC c c0 then Y args cs _ _ else none) = _
        rw [hc, cond_true, hs])
      obtain ⟨rfl, rfl⟩ := Prod.mk.inj (Option.some.inj hq)
      exact ⟨_, _, hr, by rw [← hco]; exact hy⟩
    · replace hs : ∀ (β : Type) (K : Option Nat → List (List CV) → Option β), Y args cs β K = none := hs
      rw [hs] at hr
      cases hr
  · cases hr

theorem gY_nat {c0 : CV} {Y : YSem} (h : NatYS Y) : NatC (gY c0 Y) := fun args conts => by
  unfold gY
  dsimp only
  split
  · exact .cond _ (.seq2 (h _ _) fun _ _ => .ret _ _) .none
  · exact .none

/-- By how a round was left, or not. -/
def selS {γ : Type} (o : Option Nat) (n : γ) (s : Nat → γ) : γ := match o with
  | some a => s a
  | none => n

theorem Nat2.selS {A B : Type} {o : Option Nat} {F : (β : Type) → (A → B → Option β) → Option β} {G : Nat → (β : Type) → (A → B → Option β) → Option β} (hF : Nat2 F) (hG : ∀ a, Nat2 (G a)) : Nat2 (fun β K => Ab.selS o (F β K) fun a => G a β K) := by
  cases o with
  | none => exact hF
  | some a => exact hG a

/-- A cell: where it begins, and how many words it has. -/
abbrev Cell := Int × Int

def cellV (c : Cell) : CV := .agg [.int .i64 c.1, .int .i64 c.2]

/-- Rounds for cells, one by one. -/
def runC (S : Sh) (Y : YSem) : List Cell → S.T → (β : Type) → (Option Nat → S.T → Option β) → Option β
  | [], x, _, K => K none x
  | c :: cs, x, β, K => Y [cellV c] (S.un x) β fun s co => (S.dec co).bind fun x' => selS s (runC S Y cs x' β K) fun k => K (some k) x'

theorem runC_nat {S : Sh} {Y : YSem} (h : NatYS Y) : ∀ (cs : List Cell) (x : S.T), Nat2 (fun β K => runC S Y cs x β K)
  | [], x => .ret _ _
  | c :: cs, x => by
    simp only [runC]
    exact .seq2 (h _ _) fun s co => .bind _ fun x' => .selS (runC_nat h cs x') fun k => .ret _ _

theorem runC_append {S : Sh} {Y : YSem} : ∀ (cs ds : List Cell) (x : S.T) (β : Type) (K : Option Nat → S.T → Option β), runC S Y (cs ++ ds) x β K = runC S Y cs x β fun s x' => selS s (runC S Y ds x' β K) fun k => K (some k) x'
  | [], ds, x, β, K => rfl
  | c :: cs, ds, x, β, K => by
    simp only [List.cons_append, runC]
    congr 1
    funext s co
    congr 1
    funext x'
    cases s with
    | none => exact runC_append cs ds x' β K
    | some k => rfl

/-- Left by a return, or not at all. -/
def restr0 (G : ItSem) : ItSem := fun Y caps conts _ K => G Y caps conts _ fun s co => selS s (K none co) fun k => bif Nat.beq k 0 then K (some 0) co else none

theorem restr0_nat {G : ItSem} (h : NatI G) : NatI (restr0 G) := fun Y hY caps conts =>
  .seq2 (h Y hY caps conts) fun _ _ => .selS (.ret _ _) fun _ => .cond _ (.ret _ _) .none

theorem restr0_sound {P : Program} {f : FuncId} {G : ItSem} (hN : NatI G) (h : SoundI P f G) : SoundI P f (restr0 G) := fun l fx ts env bs n Y hY hSY =>
  ⟨(h l fx ts env bs n Y hY hSY).enter, fun args conts β K r hr => (h l fx ts env bs n Y hY hSY).calls args conts β K r (by
    unfold hI at hr ⊢
    dsimp only at hr ⊢
    split at hr
    · rename_i l' caps c cs
      replace hr := cond_some hr
      obtain ⟨hb, hr⟩ := hr
      rw [hb, cond_true]
      unfold restr0 at hr
      rcases hN Y hY caps cs with ⟨s0, co0, hs⟩ | hs
      · replace hs : ∀ (β : Type) (K : Option Nat → List (List CV) → Option β), G Y caps cs β K = K s0 co0 := hs
        rw [hs] at hr ⊢
        cases s0 with
        | none => exact hr
        | some k =>
          simp only [selS] at hr
          replace hr := cond_some hr
          obtain ⟨hk, hr⟩ := hr
          have := beq_true hk
          subst this
          exact hr
      · replace hs : ∀ (β : Type) (K : Option Nat → List (List CV) → Option β), G Y caps cs β K = none := hs
        rw [hs] at hr
        cases hr
    · cases hr)⟩
end Go.Ab
