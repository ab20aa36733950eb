/- '==' of heads: three truths, three numbers.
Heads: head.in, bit, May, pack, Unpack; arena.pages, May.
arena.pages, May, part, Zero.
class.Words, Cells; lists.is, own, Push, Part.
class.Of, Run; heap.shaped, word, page, fits.
What heap hands to slices' functions: closures; what these come to.
slices.ContainsFunc, heap.every, listed.
Trial: reap.
lists.All.
slices.Sort in place: what its contract says, of a box.
The numbers of the shelf's functions at this program: slices.Sort, slices.Compact, slices.Clone (written by lay-plain).
slices.Sort, gone into: by the shelf's contract, laid at home.
slices.Compact, gone into: by the shelf's contract, laid at home.
lists.Apart.
heap.May.
slices.Clone of any list: the empty ones by the shelf's contracts, laid at home.
heap.Head. -/
import Derived.Test.YtkahninpodhcmaaDoorCgB
import Derived.Sort.Grow
import Derived.Sort.Row
import Derived.Test.YtkahninpodhcmaaDoorProg
import Derived.Shelf.Sort.Plain
import Derived.Shelf.Slices.In.SortNone
import Derived.Shelf.Slices.CompactI
import Derived.Shelf.Slices.Clone
import Derived.Test.YtkahninpodhcmaaDoorCgA
namespace Go.Ab
open Go
open Go.Proofs

theorem run_partb {P : Program} {t : TypeId} (h : P.underlying t = some .bool) (a : Array Value) (i : Nat) (v : Value) (hv : a[i]? = some v) (w : World) : (part t a i).run P w = .ok v w := by
  have : (isAgg t).run P w = .ok false w := by simp [isAgg, run_underlying h]
  simp [part, this, aggD, hv]

set_option maxHeartbeats 1000000 in
theorem eqIn_six {P : Program} {t : TypeId} {f0 f1 f2 f3 f4 f5 : Field} {k3 k4 k5 : IntKind} (hs : P.underlying t = some (.struct #[f0, f1, f2, f3, f4, f5])) (hst : P.stoodInHeld t = false)
    (n0 : f0.name ≠ "_") (n1 : f1.name ≠ "_") (n2 : f2.name ≠ "_") (n3 : f3.name ≠ "_") (n4 : f4.name ≠ "_") (n5 : f5.name ≠ "_")
    (o0 : f0.offset = 0) (o1 : f1.offset = 1) (o2 : f2.offset = 2) (o3 : f3.offset = 3) (o4 : f4.offset = 4) (o5 : f5.offset = 5)
    (h0 : P.underlying f0.type = some .bool) (h1 : P.underlying f1.type = some .bool) (h2 : P.underlying f2.type = some .bool)
    (h3 : P.underlying f3.type = some (.int k3)) (h4 : P.underlying f4.type = some (.int k4)) (h5 : P.underlying f5.type = some (.int k5)) (d : Nat) (a b c : IntKind)
    (x0 y0 x1 y1 x2 y2 : Bool) (x3 y3 x4 y4 x5 y5 : Int) (w : World) :
    (Op.equalIn (d + 2) t (.agg #[.bool x0, .bool x1, .bool x2, .int a x3, .int b x4, .int c x5]) (.agg #[.bool y0, .bool y1, .bool y2, .int a y3, .int b y4, .int c y5])).run P w
      = .ok (x0 == y0 && (x1 == y1 && (x2 == y2 && (x3 == y3 && (x4 == y4 && x5 == y5))))) w := by
  have p0 := fun x0 x1 x2 x3 x4 x5 => run_partb h0 #[.bool x0, .bool x1, .bool x2, .int a x3, .int b x4, .int c x5] 0 (.bool x0) rfl w
  have p1 := fun x0 x1 x2 x3 x4 x5 => run_partb h1 #[.bool x0, .bool x1, .bool x2, .int a x3, .int b x4, .int c x5] 1 (.bool x1) rfl w
  have p2 := fun x0 x1 x2 x3 x4 x5 => run_partb h2 #[.bool x0, .bool x1, .bool x2, .int a x3, .int b x4, .int c x5] 2 (.bool x2) rfl w
  have p3 := fun x0 x1 x2 x3 x4 x5 => run_part0 h3 #[.bool x0, .bool x1, .bool x2, .int a x3, .int b x4, .int c x5] 3 (.int a x3) rfl w
  have p4 := fun x0 x1 x2 x3 x4 x5 => run_part0 h4 #[.bool x0, .bool x1, .bool x2, .int a x3, .int b x4, .int c x5] 4 (.int b x4) rfl w
  have p5 := fun x0 x1 x2 x3 x4 x5 => run_part0 h5 #[.bool x0, .bool x1, .bool x2, .int a x3, .int b x4, .int c x5] 5 (.int c x5) rfl w
  have q0 := run_equalIn_bool h0 d x0 y0 w
  have q1 := run_equalIn_bool h1 d x1 y1 w
  have q2 := run_equalIn_bool h2 d x2 y2 w
  have q3 := run_equalIn_int h3 d a x3 y3 w
  have q4 := run_equalIn_int h4 d b x4 y4 w
  have q5 := run_equalIn_int h5 d c x5 y5 w
  rw [show d + 2 = (d + 1) + 1 from rfl]
  unfold Op.equalIn
  cases e0 : x0 == y0
  · rw [e0] at q0; simp [run_underlying hs, hst, n0, o0, p0, q0]
  rw [e0] at q0
  cases e1 : x1 == y1
  · rw [e1] at q1; simp [run_underlying hs, hst, n0, o0, p0, q0, n1, o1, p1, q1]
  rw [e1] at q1
  cases e2 : x2 == y2
  · rw [e2] at q2; simp [run_underlying hs, hst, n0, o0, p0, q0, n1, o1, p1, q1, n2, o2, p2, q2]
  rw [e2] at q2
  cases e3 : x3 == y3
  · rw [e3] at q3; simp [run_underlying hs, hst, n0, o0, p0, q0, n1, o1, p1, q1, n2, o2, p2, q2, n3, o3, p3, q3]
  rw [e3] at q3
  cases e4 : x4 == y4
  · rw [e4] at q4; simp [run_underlying hs, hst, n0, o0, p0, q0, n1, o1, p1, q1, n2, o2, p2, q2, n3, o3, p3, q3, n4, o4, p4, q4]
  rw [e4] at q4
  cases e5 : x5 == y5 <;> rw [e5] at q5 <;> simp [run_underlying hs, hst, n0, o0, p0, q0, n1, o1, p1, q1, n2, o2, p2, q2, n3, o3, p3, q3, n4, o4, p4, q4, n5, o5, p5, q5]

theorem kindV_six {P : Program} {t0 t1 t2 t3 t4 t5 : TypeId} {k3 k4 k5 : IntKind} (h0 : P.underlying t0 = some .bool) (h1 : P.underlying t1 = some .bool) (h2 : P.underlying t2 = some .bool)
    (h3 : P.underlying t3 = some (.int k3)) (h4 : P.underlying t4 = some (.int k4)) (h5 : P.underlying t5 = some (.int k5)) {vs : List Value} (h : kindV P [t0, t1, t2, t3, t4, t5] vs = true) :
    ∃ x0 x1 x2 a x3 b x4 c x5, vs = [.bool x0, .bool x1, .bool x2, .int a x3, .int b x4, .int c x5] := by
  match vs, h with
  | [], h => simp [kindV] at h
  | [_], h => simp [kindV] at h
  | [_, _], h => simp [kindV] at h
  | [_, _, _], h => simp [kindV] at h
  | [_, _, _, _], h => simp [kindV] at h
  | [_, _, _, _, _], h => simp [kindV] at h
  | _ :: _ :: _ :: _ :: _ :: _ :: _ :: _, h => simp [kindV] at h
  | [v0, v1, v2, v3, v4, v5], h =>
    simp only [kindV, h0, h1, h2, h3, h4, h5, Bool.and_true, Bool.and_eq_true] at h
    obtain ⟨g0, g1, g2, g3, g4, g5⟩ := h
    cases v0 <;> simp at g0
    cases v1 <;> simp at g1
    cases v2 <;> simp at g2
    cases v3 <;> simp at g3
    cases v4 <;> simp at g4
    cases v5 <;> simp at g5
    exact ⟨_, _, _, _, _, _, _, _, _, rfl⟩

theorem eq_six {P : Program} {t : TypeId} {f0 f1 f2 f3 f4 f5 : Field} {k3 k4 k5 : IntKind} (hs : P.underlying t = some (.struct #[f0, f1, f2, f3, f4, f5])) (hst : P.stoodInHeld t = false)
    (n0 : f0.name ≠ "_") (n1 : f1.name ≠ "_") (n2 : f2.name ≠ "_") (n3 : f3.name ≠ "_") (n4 : f4.name ≠ "_") (n5 : f5.name ≠ "_")
    (o0 : f0.offset = 0) (o1 : f1.offset = 1) (o2 : f2.offset = 2) (o3 : f3.offset = 3) (o4 : f4.offset = 4) (o5 : f5.offset = 5)
    (h0 : P.underlying f0.type = some .bool) (h1 : P.underlying f1.type = some .bool) (h2 : P.underlying f2.type = some .bool)
    (h3 : P.underlying f3.type = some (.int k3)) (h4 : P.underlying f4.type = some (.int k4)) (h5 : P.underlying f5.type = some (.int k5))
    (hf : flatT P 8 t = [f0.type, f1.type, f2.type, f3.type, f4.type, f5.type]) (vs us : Array Value) (r : Bool) (w : World)
    (hv : kindV P (flatT P 8 t) vs.toList = true) (hu : kindV P (flatT P 8 t) us.toList = true) (he : eqVals vs.toList us.toList = some r) : (Op.equal t (.agg vs) (.agg us)).run P w = .ok r w := by
  rw [hf] at hv hu
  obtain ⟨vl⟩ := vs
  obtain ⟨ul⟩ := us
  obtain ⟨x0, x1, x2, a, x3, b, x4, c, x5, e⟩ := kindV_six h0 h1 h2 h3 h4 h5 hv
  obtain ⟨y0, y1, y2, a', y3, b', y4, c', y5, e'⟩ := kindV_six h0 h1 h2 h3 h4 h5 hu
  dsimp only at e e' he
  subst e e'
  simp only [eqVals] at he
  replace he := bind_some' he
  obtain ⟨t1, he1, he⟩ := he
  replace he1 := bind_some' he1
  obtain ⟨t2, he2, he1⟩ := he1
  replace he2 := bind_some' he2
  obtain ⟨t3, he3, he2⟩ := he2
  obtain ⟨ea, he3⟩ := ite_some he3
  replace he3 := bind_some' he3
  obtain ⟨t4, he4, he3⟩ := he3
  obtain ⟨eb, he4⟩ := ite_some he4
  replace he4 := bind_some' he4
  obtain ⟨t5, he5, he4⟩ := he4
  obtain ⟨ec, he5⟩ := ite_some he5
  simp only [Option.bind_some, Option.some.injEq, Bool.and_true] at he he1 he2 he3 he4 he5
  subst he he1 he2 he3 he4 he5 ea eb ec
  exact eqIn_six hs hst n0 n1 n2 n3 n4 n5 o0 o1 o2 o3 o4 o5 h0 h1 h2 h3 h4 h5 9998 a b c x0 y0 x1 y1 x2 y2 x3 y3 x4 y4 x5 y5 w

theorem eqOK_head {cx : Cx} (hP : cx.P = Go.Proofs.Tryd.prog) (h : cx.eqT = fun t => Nat.beq t 40) : EqOK cx := fun t ht => by
  rw [h] at ht
  have := beq_true ht
  subst this
  rw [hP]
  refine ⟨by kernel_rfl, fun vs us r w hv hu he => ?_⟩
  obtain ⟨f0, f1, f2, f3, f4, f5, h1, n0, n1, n2, n3, n4, n5, o0, o1, o2, o3, o4, o5, u0, u1, u2, u3, u4, u5, hf⟩ : ∃ f0 f1 f2 f3 f4 f5 : Field, Go.Proofs.Tryd.prog.underlying 40 = some (.struct #[f0, f1, f2, f3, f4, f5]) ∧
      f0.name ≠ "_" ∧ f1.name ≠ "_" ∧ f2.name ≠ "_" ∧ f3.name ≠ "_" ∧ f4.name ≠ "_" ∧ f5.name ≠ "_" ∧ f0.offset = 0 ∧ f1.offset = 1 ∧ f2.offset = 2 ∧ f3.offset = 3 ∧ f4.offset = 4 ∧ f5.offset = 5 ∧
      Go.Proofs.Tryd.prog.underlying f0.type = some .bool ∧ Go.Proofs.Tryd.prog.underlying f1.type = some .bool ∧ Go.Proofs.Tryd.prog.underlying f2.type = some .bool ∧
      Go.Proofs.Tryd.prog.underlying f3.type = some (.int .i64) ∧ Go.Proofs.Tryd.prog.underlying f4.type = some (.int .i64) ∧ Go.Proofs.Tryd.prog.underlying f5.type = some (.int .i64) ∧
      flatT Go.Proofs.Tryd.prog 8 40 = [f0.type, f1.type, f2.type, f3.type, f4.type, f5.type] :=
    ⟨_, _, _, _, _, _, Go.Proofs.Tryd.underlying40, by decide, by decide, by decide, by decide, by decide, by decide, rfl, rfl, rfl, rfl, rfl, rfl, by kernel_rfl, by kernel_rfl, by kernel_rfl, by kernel_rfl, by kernel_rfl, by kernel_rfl, by kernel_rfl⟩
  exact eq_six h1 (by kernel_rfl) n0 n1 n2 n3 n4 n5 o0 o1 o2 o3 o4 o5 u0 u1 u2 u3 u4 u5 hf vs us r w hv hu he
end Go.Ab

namespace Go.Ab
open Go
open Go.Proofs

structure Hd where
  a : Bool
  b : Bool
  c : Bool
  x : Int
  y : Int
  z : Int
deriving DecidableEq

def encH (h : Hd) : List CV := [.bool h.a, .bool h.b, .bool h.c, .int .i64 h.x, .int .i64 h.y, .int .i64 h.z]
def cHd : Cod Hd where
  enc := fun h => .agg (encH h)
  dec := fun c => match c with | .agg [.bool a, .bool b, .bool c, .int .i64 x, .int .i64 y, .int .i64 z] => some ⟨a, b, c, x, y, z⟩ | _ => none
  ok := fun c a h => by
    split at h
    · cases h; rfl
    · cases h
  de := fun _ => rfl

noncomputable abbrev k77 : Cx := cxG Pr Tryd.f77 []
noncomputable abbrev k78 : Cx := cxG Pr Tryd.f78 []
set_option maxRecDepth 100000 in
theorem r77 (n h : Int) (β : Type) (K : CV → List (List CV) → Option β) : fnK k77 Tryd.f77 [cI.enc n, cI.enc h] [] K =
 bif decide (n ≥ 0) then K (CV.bool (decide (n ≤ h))) [] else K (CV.bool false) [] := by kernel_rfl

set_option maxRecDepth 100000 in
theorem r78 (n : Bool) (h : Int) (β : Type) (K : CV → List (List CV) → Option β) : fnK k78 Tryd.f78 [cB.enc n, cI.enc h] [] K =
 bif n then K (CV.int IntKind.i64 h) [] else K (CV.int IntKind.i64 0) [] := by kernel_rfl

def inS (n h : Int) : Bool := decide (n ≥ 0) && decide (n ≤ h)
def gIn77 : Callee := g2 cI cI (fun _ _ => true) fun n h => cB.enc (inS n h)
def gBit : Callee := g2 cB cI (fun _ _ => true) fun n h => cI.enc (bif n then h else 0)
noncomputable abbrev k51 : Cx := cxG Pr Tryd.f51 [(77, gIn77)] [] (fun _ => false) (fun _ => false) (fun t => Nat.beq t 40)
noncomputable abbrev k52 : Cx := cxG Pr Tryd.f52 [(78, gBit)]
set_option maxRecDepth 100000 in
theorem r51 (h : Hd) (β : Type) (K : CV → List (List CV) → Option β) : fnK k51 Tryd.f51 [cHd.enc h] [] K =
 bif !Hd.a h then
 K (CV.bool (Hd.a h == false && (Hd.b h == false && (Hd.c h == false && (Hd.x h == 0 && (Hd.y h == 0 && (Hd.z h == 0 && true))))))) []
 else
 bif inS (Hd.x h) 63 then
 bif inS (Hd.y h) 1048576 then K (CV.bool (inS (Hd.z h) 1048576)) [] else K (CV.bool false) []
 else K (CV.bool false) [] := by kernel_rfl

set_option maxRecDepth 100000 in
theorem r52 (h : Hd) (β : Type) (K : CV → List (List CV) → Option β) : fnK k52 Tryd.f52 [cHd.enc h] [] K =
 K (CV.int IntKind.i64 (IntKind.wrap IntKind.i64 (↑(BitVec.toNat (BitVec.ofInt (IntKind.bits IntKind.i64) (IntKind.wrap IntKind.i64 (↑(BitVec.toNat (BitVec.ofInt (IntKind.bits IntKind.i64) (IntKind.wrap IntKind.i64 (↑(BitVec.toNat (BitVec.ofInt (IntKind.bits IntKind.i64) (IntKind.wrap IntKind.i64 (↑(BitVec.toNat (BitVec.ofInt (IntKind.bits IntKind.i64) (IntKind.wrap IntKind.i64 (↑(BitVec.toNat (BitVec.ofInt (IntKind.bits IntKind.i64) (bif Hd.a h then 1 else 0) ||| BitVec.ofInt (IntKind.bits IntKind.i64) (bif Hd.b h then 2 else 0))) : Int)) ||| BitVec.ofInt (IntKind.bits IntKind.i64) (bif Hd.c h then 4 else 0))) : Int)) ||| BitVec.ofInt (IntKind.bits IntKind.i64) (IntKind.wrap IntKind.i64 (Hd.x h * Int.ofNat 8)))) : Int)) ||| BitVec.ofInt (IntKind.bits IntKind.i64) (IntKind.wrap IntKind.i64 (Hd.y h * Int.ofNat 1024)))) : Int)) ||| BitVec.ofInt (IntKind.bits IntKind.i64) (IntKind.wrap IntKind.i64 (Hd.z h * Int.ofNat 4294967296)))) : Int))) [] := by kernel_rfl


theorem in77_good : GoodC Pr 77 gIn77 :=
  good2 ((CxOK.baseG Good.nil GoodI.nil (eqOK_none fun _ => rfl)).sound (cx := k77) Tryd.func77 (by kernel_rfl) (by kernel_rfl) rfl (by kernel_rfl)) fun n h _ β K => by
    rw [r77]
    unfold inS
    cases decide (n ≥ 0) <;> rfl
theorem bit_good : GoodC Pr 78 gBit :=
  good2 ((CxOK.baseG Good.nil GoodI.nil (eqOK_none fun _ => rfl)).sound (cx := k78) Tryd.func78 (by kernel_rfl) (by kernel_rfl) rfl (by kernel_rfl)) fun n h _ β K => by
    rw [r78]
    cases n <;> rfl

def mayH (h : Hd) : Bool := bif !h.a then !h.b && !h.c && h.x == 0 && h.y == 0 && h.z == 0 else inS h.x 63 && (inS h.y 1048576 && inS h.z 1048576)
def orI (a b : Int) : Int := IntKind.wrap IntKind.i64 (((BitVec.ofInt 64 a ||| BitVec.ofInt 64 b).toNat : Nat) : Int)
def andI (a b : Int) : Int := IntKind.wrap IntKind.i64 (((BitVec.ofInt 64 a &&& BitVec.ofInt 64 b).toNat : Nat) : Int)
def packH (h : Hd) : Int := orI (orI (orI (orI (orI (bif h.a then 1 else 0) (bif h.b then 2 else 0)) (bif h.c then 4 else 0)) (IntKind.i64.wrap (h.x * 8))) (IntKind.i64.wrap (h.y * 1024))) (IntKind.i64.wrap (h.z * 4294967296))
def gMayH : Callee := g1 cHd (fun _ => true) fun h => cB.enc (mayH h)
def gPackH : Callee := g1 cHd (fun _ => true) fun h => cI.enc (packH h)
theorem mayH_good : GoodC Pr 51 gMayH :=
  good1 ((CxOK.baseG (Good.cons in77_good Good.nil) GoodI.nil (eqOK_head rfl rfl)).sound (cx := k51) Tryd.func51 (by kernel_rfl) (by kernel_rfl) rfl (by kernel_rfl)) fun h _ β K => by
    rw [r51]
    unfold mayH
    obtain ⟨a, b, c, x, y, z⟩ := h
    cases a with
    | false =>
      show K (.bool _) [] = K (.bool _) []
      congr 2
      cases b <;> cases c <;> simp [Bool.and_assoc]
    | true =>
      simp only [Bool.not_true, cond_false]
      cases inS x 63 with
      | false => rfl
      | true => cases inS y 1048576 <;> rfl
theorem pack_good : GoodC Pr 52 gPackH :=
  good1 ((CxOK.baseG (Good.cons bit_good Good.nil) GoodI.nil (eqOK_none fun _ => rfl)).sound (cx := k52) Tryd.func52 (by kernel_rfl) (by kernel_rfl) rfl (by kernel_rfl)) fun h _ β K => by
    rw [r52]; rfl
noncomputable abbrev k25 : Cx := cxG Pr Tryd.f25 [(51, gMayH), (52, gPackH)]
set_option maxRecDepth 100000 in
theorem r25 (w : Int) (β : Type) (K : CV → List (List CV) → Option β) : fnK k25 Tryd.f25 [cI.enc w] [] K =
 bif !mayH { a := IntKind.wrap IntKind.i64 (↑(BitVec.toNat (BitVec.ofInt (IntKind.bits IntKind.i64) w &&& BitVec.ofInt (IntKind.bits IntKind.i64) 1)) : Int) != 0, b := IntKind.wrap IntKind.i64 (↑(BitVec.toNat (BitVec.ofInt (IntKind.bits IntKind.i64) w &&& BitVec.ofInt (IntKind.bits IntKind.i64) 2)) : Int) != 0, c := IntKind.wrap IntKind.i64 (↑(BitVec.toNat (BitVec.ofInt (IntKind.bits IntKind.i64) w &&& BitVec.ofInt (IntKind.bits IntKind.i64) 4)) : Int) != 0, x := IntKind.wrap IntKind.i64 (↑(BitVec.toNat (BitVec.ofInt (IntKind.bits IntKind.i64) (Int.fdiv w (Int.ofNat 8)) &&& BitVec.ofInt (IntKind.bits IntKind.i64) 127)) : Int), y := IntKind.wrap IntKind.i64 (↑(BitVec.toNat (BitVec.ofInt (IntKind.bits IntKind.i64) (Int.fdiv w (Int.ofNat 1024)) &&& BitVec.ofInt (IntKind.bits IntKind.i64) 4194303)) : Int), z := Int.fdiv w (Int.ofNat 4294967296) } then
 K (CV.tup [CV.agg [CV.bool false, CV.bool false, CV.bool false, CV.int IntKind.i64 0, CV.int IntKind.i64 0, CV.int IntKind.i64 0], CV.bool false]) []
 else
 bif packH { a := IntKind.wrap IntKind.i64 (↑(BitVec.toNat (BitVec.ofInt (IntKind.bits IntKind.i64) w &&& BitVec.ofInt (IntKind.bits IntKind.i64) 1)) : Int) != 0, b := IntKind.wrap IntKind.i64 (↑(BitVec.toNat (BitVec.ofInt (IntKind.bits IntKind.i64) w &&& BitVec.ofInt (IntKind.bits IntKind.i64) 2)) : Int) != 0, c := IntKind.wrap IntKind.i64 (↑(BitVec.toNat (BitVec.ofInt (IntKind.bits IntKind.i64) w &&& BitVec.ofInt (IntKind.bits IntKind.i64) 4)) : Int) != 0, x := IntKind.wrap IntKind.i64 (↑(BitVec.toNat (BitVec.ofInt (IntKind.bits IntKind.i64) (Int.fdiv w (Int.ofNat 8)) &&& BitVec.ofInt (IntKind.bits IntKind.i64) 127)) : Int), y := IntKind.wrap IntKind.i64 (↑(BitVec.toNat (BitVec.ofInt (IntKind.bits IntKind.i64) (Int.fdiv w (Int.ofNat 1024)) &&& BitVec.ofInt (IntKind.bits IntKind.i64) 4194303)) : Int), z := Int.fdiv w (Int.ofNat 4294967296) } != w then
 K (CV.tup [CV.agg [CV.bool false, CV.bool false, CV.bool false, CV.int IntKind.i64 0, CV.int IntKind.i64 0, CV.int IntKind.i64 0], CV.bool false]) []
 else
 K (CV.tup [CV.agg [CV.bool (IntKind.wrap IntKind.i64 (↑(BitVec.toNat (BitVec.ofInt (IntKind.bits IntKind.i64) w &&& BitVec.ofInt (IntKind.bits IntKind.i64) 1)) : Int) != 0), CV.bool (IntKind.wrap IntKind.i64 (↑(BitVec.toNat (BitVec.ofInt (IntKind.bits IntKind.i64) w &&& BitVec.ofInt (IntKind.bits IntKind.i64) 2)) : Int) != 0), CV.bool (IntKind.wrap IntKind.i64 (↑(BitVec.toNat (BitVec.ofInt (IntKind.bits IntKind.i64) w &&& BitVec.ofInt (IntKind.bits IntKind.i64) 4)) : Int) != 0), CV.int IntKind.i64 (IntKind.wrap IntKind.i64 (↑(BitVec.toNat (BitVec.ofInt (IntKind.bits IntKind.i64) (Int.fdiv w (Int.ofNat 8)) &&& BitVec.ofInt (IntKind.bits IntKind.i64) 127)) : Int)), CV.int IntKind.i64 (IntKind.wrap IntKind.i64 (↑(BitVec.toNat (BitVec.ofInt (IntKind.bits IntKind.i64) (Int.fdiv w (Int.ofNat 1024)) &&& BitVec.ofInt (IntKind.bits IntKind.i64) 4194303)) : Int)), CV.int IntKind.i64 (Int.fdiv w (Int.ofNat 4294967296))], CV.bool true]) [] := by kernel_rfl


def unp (w : Int) : Hd := ⟨andI w 1 != 0, andI w 2 != 0, andI w 4 != 0, andI (Int.fdiv w 8) 127, andI (Int.fdiv w 1024) 4194303, Int.fdiv w 4294967296⟩
def unpOK (w : Int) : Bool := mayH (unp w) && packH (unp w) == w
def Hd.z0 : Hd := ⟨false, false, false, 0, 0, 0⟩
def unpE (w : Int) : CV := .tup [cHd.enc (bif unpOK w then unp w else Hd.z0), .bool (unpOK w)]
def gUnp : Callee := g1 cI (fun _ => true) unpE
theorem unp_good : GoodC Pr 25 gUnp :=
  good1 ((CxOK.baseG (Good.cons mayH_good (Good.cons pack_good Good.nil)) GoodI.nil (eqOK_none fun _ => rfl)).sound (cx := k25) Tryd.func25 (by kernel_rfl) (by kernel_rfl) rfl (by kernel_rfl)) fun w _ β K => by
    refine (r25 w β K).trans ?_
    show (bif !mayH (unp w) then _ else bif packH (unp w) != w then _ else K (.tup [.agg (encH (unp w)), .bool true]) []) = _
    unfold unpE unpOK
    cases mayH (unp w) with
    | false => rfl
    | true =>
      simp only [Bool.not_true, cond_false, Bool.true_and, bne]
      cases packH (unp w) == w <;> rfl
end Go.Ab

namespace Go.Ab
open Go
open Go.Proofs

noncomputable abbrev k75 : Cx := cxG Pr Tryd.f75 []
set_option maxRecDepth 100000 in
theorem r75 (n : Int) (β : Type) (K : CV → List (List CV) → Option β) : fnK k75 Tryd.f75 [cI.enc n] [] K =
 bif decide (n ≥ 1) then K (CV.bool (decide (n ≤ 64))) [] else K (CV.bool false) [] := by kernel_rfl

def gApages : Callee := g1 cI (fun _ => true) fun n => cB.enc (decide (n ≥ 1) && decide (n ≤ 64))
theorem apages_good : GoodC Pr 75 gApages :=
  good1 ((CxOK.baseG Good.nil GoodI.nil (eqOK_none fun _ => rfl)).sound (cx := k75) Tryd.func75 (by kernel_rfl) (by kernel_rfl) rfl (by kernel_rfl)) fun n _ β K => by
    rw [r75]
    cases decide (n ≥ 1) <;> rfl
noncomputable abbrev k49 : Cx := cxG Pr Tryd.f49 [(75, gApages)]
set_option maxRecDepth 100000 in
theorem r49 (w : List Int) (β : Type) (K : CV → List (List CV) → Option β) : fnK k49 Tryd.f49 [cIs.enc w] [] K =
 bif Int.tmod (↑(List.length (encI w)) : Int) 16 == 0 then
 K (CV.bool (decide (IntKind.wrap IntKind.i64 (Int.tdiv (↑(List.length (encI w)) : Int) 16) ≥ 1) && decide (IntKind.wrap IntKind.i64 (Int.tdiv (↑(List.length (encI w)) : Int) 16) ≤ 64))) []
 else K (CV.bool false) [] := by kernel_rfl

noncomputable abbrev k61 : Cx := cxG Pr Tryd.f61 [] [] (fun q => Nat.beq q 5)
set_option maxRecDepth 100000 in
theorem r61 (w : List Int) (β : Type) (K : CV → List (List CV) → Option β) : fnK k61 Tryd.f61 [cIs.enc w] [] K =
 bif List.isEmpty (encI w) then none
 else if List.length ([] ++ encI w) ≤ LIM then K (CV.own 1 ([] ++ encI w)) [] else none := by kernel_rfl

def mayA (n : Nat) : Bool := Nat.beq (n % 16) 0 && (Nat.ble 1 (n / 16) && Nat.ble (n / 16) 64)
def gMayA : Callee := g1 cIs (fun w => Nat.ble w.length 4000000000) fun w => cB.enc (mayA w.length)
theorem wrap_nat {n : Nat} (h : n ≤ 4000000000) : IntKind.i64.wrap (n : Int) = n := wrap_in ⟨by omega, by omega⟩
theorem mayA_good : GoodC Pr 49 gMayA :=
  good1 ((CxOK.baseG (Good.cons apages_good Good.nil) GoodI.nil (eqOK_none fun _ => rfl)).sound (cx := k49) Tryd.func49 (by kernel_rfl) (by kernel_rfl) rfl (by kernel_rfl)) fun w hw β K => by
    have hw := Nat.le_of_ble_eq_true hw
    rw [r49]
    unfold mayA
    have e1 : (encI w).length = w.length := by simp [encI]
    have e2 : Int.tmod (w.length : Int) 16 = ((w.length % 16 : Nat) : Int) := rfl
    have e3 : Int.tdiv (w.length : Int) 16 = ((w.length / 16 : Nat) : Int) := rfl
    have e4 : IntKind.i64.wrap ((w.length / 16 : Nat) : Int) = ((w.length / 16 : Nat) : Int) := wrap_nat (by omega)
    rw [e1, e2, e3, e4]
    have e5 : ((((w.length % 16 : Nat) : Int)) == 0) = Nat.beq (w.length % 16) 0 := by
      rw [Bool.eq_iff_iff]; simp; omega
    rw [e5]
    cases Nat.beq (w.length % 16) 0 with
    | false => rfl
    | true =>
      rw [cond_true, Bool.true_and]
      congr 2
      rw [Bool.eq_iff_iff]; simp; omega
def gCloneI : Callee := g1 cIs (fun w => !w.isEmpty && Nat.ble w.length 4000000000) fun w => cOI.enc w
theorem cloneI_good : GoodC Pr 61 gCloneI :=
  good1 ((CxOK.baseG Good.nil GoodI.nil (eqOK_none fun _ => rfl)).sound (cx := k61) Tryd.func61 (by kernel_rfl) (by kernel_rfl) rfl (by kernel_rfl)) fun w hp β K => by
    simp only [Bool.and_eq_true, Bool.not_eq_true', List.isEmpty_eq_false_iff] at hp
    have hl := Nat.le_of_ble_eq_true hp.2
    have e1 : (encI w).isEmpty = false := by simpa [encI] using hp.1
    rw [r61, e1, cond_false, List.nil_append, if_pos (lim_of (by simp [encI]; omega))]
    rfl
noncomputable abbrev k69 : Cx := cxG Pr Tryd.f69 [(49, gMayA)]
theorem part_inl : GoodN Pr 69 (inlC k69 Tryd.f69) := (CxOK.baseG (Good.cons mayA_good Good.nil) GoodI.nil (eqOK_none fun _ => rfl)).inlG (cx := k69) Tryd.func69 (by kernel_rfl) (by kernel_rfl) rfl (by kernel_rfl)
noncomputable abbrev k38 : Cx := cxG Pr Tryd.f38 [(61, gCloneI)] [(69, inlC k69 Tryd.f69)]
set_option maxRecDepth 100000 in
theorem r38 (w : List Int) (a n : Int) (β : Type) (K : CV → List (List CV) → Option β) : fnK k38 Tryd.f38 [cIs.enc w, cI.enc a, cI.enc n] [] K =
 Option.bind (decI (encI w)) fun a_1 =>
 bif !List.isEmpty a_1 && Nat.ble (List.length a_1) 4000000000 then
 Option.bind (decI (encI a_1)) fun a_2 =>
 bif Nat.ble (List.length a_2) 4000000000 then
 bif !mayA (List.length a_2) then
 bif !mayA (List.length a_2) then K (CV.tup [CV.own 1 [], CV.int IntKind.i64 1]) []
 else
 bif decide (n > 0) then
 bif decide (a < 16) then K (CV.tup [CV.own 1 [], CV.int IntKind.i64 3]) []
 else
 bif decide (IntKind.wrap IntKind.i64 (a - 16) ≥ (↑(List.length (encI a_1)) : Int)) then
 K (CV.tup [CV.own 1 [], CV.int IntKind.i64 3]) []
 else
 bif decide (n > IntKind.wrap IntKind.i64 ((↑(List.length (encI a_1)) : Int) - IntKind.wrap IntKind.i64 (a - 16))) then
 K (CV.tup [CV.own 1 [], CV.int IntKind.i64 3]) []
 else
 bif n == 0 then none
 else
 bif okBounds (List.length (encI a_1)) (some (IntKind.wrap IntKind.i64 (a - 16))) none none then
 bif okBounds (Int.toNat (Option.getD none (↑(List.length (encI a_1)) : Int) - Option.getD (some (IntKind.wrap IntKind.i64 (a - 16))) 0)) none (some n) (some n) then
 K (CV.tup [CV.own 1 (splice (encI a_1) (Int.toNat (Option.getD (some (IntKind.wrap IntKind.i64 (a - 16))) 0) + 0) (List.replicate (Int.toNat (Option.getD (some n) (↑(Int.toNat (Option.getD none (↑(List.length (encI a_1)) : Int) - Option.getD (some (IntKind.wrap IntKind.i64 (a - 16))) 0)) : Int) - 0)) [CV.int IntKind.i64 0])), CV.int IntKind.i64 0]) []
 else none
 else none
 else
 bif n == 0 then none
 else
 bif okBounds (List.length (encI a_1)) (some (IntKind.wrap IntKind.i64 (a - 16))) none none then
 bif okBounds (Int.toNat (Option.getD none (↑(List.length (encI a_1)) : Int) - Option.getD (some (IntKind.wrap IntKind.i64 (a - 16))) 0)) none (some n) (some n) then
 K (CV.tup [CV.own 1 (splice (encI a_1) (Int.toNat (Option.getD (some (IntKind.wrap IntKind.i64 (a - 16))) 0) + 0) (List.replicate (Int.toNat (Option.getD (some n) (↑(Int.toNat (Option.getD none (↑(List.length (encI a_1)) : Int) - Option.getD (some (IntKind.wrap IntKind.i64 (a - 16))) 0)) : Int) - 0)) [CV.int IntKind.i64 0])), CV.int IntKind.i64 0]) []
 else none
 else none
 else
 bif decide (n < 0) then K (CV.tup [CV.own 1 [], CV.int IntKind.i64 1]) []
 else
 bif decide (n > 0) then
 bif decide (a < 16) then K (CV.tup [CV.own 1 [], CV.int IntKind.i64 3]) []
 else
 bif decide (IntKind.wrap IntKind.i64 (a - 16) ≥ (↑(List.length (encI a_1)) : Int)) then
 K (CV.tup [CV.own 1 [], CV.int IntKind.i64 3]) []
 else
 bif decide (n > IntKind.wrap IntKind.i64 ((↑(List.length (encI a_1)) : Int) - IntKind.wrap IntKind.i64 (a - 16))) then
 K (CV.tup [CV.own 1 [], CV.int IntKind.i64 3]) []
 else
 bif n == 0 then none
 else
 bif okBounds (List.length (encI a_1)) (some (IntKind.wrap IntKind.i64 (a - 16))) none none then
 bif okBounds (Int.toNat (Option.getD none (↑(List.length (encI a_1)) : Int) - Option.getD (some (IntKind.wrap IntKind.i64 (a - 16))) 0)) none (some n) (some n) then
 K (CV.tup [CV.own 1 (splice (encI a_1) (Int.toNat (Option.getD (some (IntKind.wrap IntKind.i64 (a - 16))) 0) + 0) (List.replicate (Int.toNat (Option.getD (some n) (↑(Int.toNat (Option.getD none (↑(List.length (encI a_1)) : Int) - Option.getD (some (IntKind.wrap IntKind.i64 (a - 16))) 0)) : Int) - 0)) [CV.int IntKind.i64 0])), CV.int IntKind.i64 0]) []
 else none
 else none
 else
 bif n == 0 then none
 else
 bif okBounds (List.length (encI a_1)) (some (IntKind.wrap IntKind.i64 (a - 16))) none none then
 bif okBounds (Int.toNat (Option.getD none (↑(List.length (encI a_1)) : Int) - Option.getD (some (IntKind.wrap IntKind.i64 (a - 16))) 0)) none (some n) (some n) then
 K (CV.tup [CV.own 1 (splice (encI a_1) (Int.toNat (Option.getD (some (IntKind.wrap IntKind.i64 (a - 16))) 0) + 0) (List.replicate (Int.toNat (Option.getD (some n) (↑(Int.toNat (Option.getD none (↑(List.length (encI a_1)) : Int) - Option.getD (some (IntKind.wrap IntKind.i64 (a - 16))) 0)) : Int) - 0)) [CV.int IntKind.i64 0])), CV.int IntKind.i64 0]) []
 else none
 else none
 else none
 else none := by kernel_rfl

def zeroW (w : List Int) (a n : Int) : List Int := splice w (a - 16).toNat (List.replicate n.toNat 0)
def gZero : Callee := g3 cIs cI cI (fun w a n => mayA w.length && (decide (16 ≤ a) && (decide (1 ≤ n) && decide (a - 16 + n ≤ (w.length : Int))))) fun w a n => .tup [cOI.enc (zeroW w a n), .int .i64 0]
theorem mayA_le {n : Nat} (h : mayA n = true) : n ≤ 1024 ∧ 1 ≤ n := by
  simp only [mayA, Bool.and_eq_true] at h
  have h1 := Nat.le_of_ble_eq_true h.2.1
  have h2 := Nat.le_of_ble_eq_true h.2.2
  have h3 := Nat.eq_of_beq_eq_true h.1
  omega
theorem splice_encI (w : List Int) (a : Nat) (x : List Int) : splice (encI w) a (encI x) = encI (splice w a x) := by simp [splice, encI]
theorem encI_rep (n : Nat) : List.replicate n [CV.int IntKind.i64 0] = encI (List.replicate n 0) := by simp [encI]
theorem zero_good : GoodC Pr 38 gZero :=
  good3 ((CxOK.baseG (Good.cons cloneI_good Good.nil) (GoodI.cons part_inl GoodI.nil) (eqOK_none fun _ => rfl)).sound (cx := k38) Tryd.func38 (by kernel_rfl) (by kernel_rfl) rfl (by kernel_rfl)) fun w a n hp β K => by
    simp only [Bool.and_eq_true, decide_eq_true_eq] at hp
    obtain ⟨hm, ha, hn, hl⟩ := hp
    have hml := mayA_le hm
    have e0 : w.isEmpty = false := by cases w with | nil => simp at hml | cons _ _ => rfl
    have e1 : Nat.ble w.length 4000000000 = true := Nat.ble_eq_true_of_le (by omega)
    have e2 : IntKind.i64.wrap (a - 16) = a - 16 := wrap_in ⟨by omega, by omega⟩
    have e3 : IntKind.i64.wrap ((w.length : Int) - (a - 16)) = (w.length : Int) - (a - 16) := wrap_in ⟨by omega, by omega⟩
    have d1 : decide (n < 0) = false := decide_eq_false (by omega)
    have d2 : decide (n > 0) = true := decide_eq_true (by omega)
    have d3 : decide (a < 16) = false := decide_eq_false (by omega)
    have d4 : decide (a - 16 ≥ (w.length : Int)) = false := decide_eq_false (by omega)
    have d5 : decide (n > (w.length : Int) - (a - 16)) = false := decide_eq_false (by omega)
    have d6 : (n == 0) = false := beq_ne (by omega)
    have o1 : okBounds w.length (some (a - 16)) none none = true := by simp [okBounds]; omega
    have o2 : okBounds ((w.length : Int) - (a - 16)).toNat none (some n) (some n) = true := by simp [okBounds]; omega
    rw [r38]
    simp only [decI_map, Option.bind_some, e0, e1, hm, Bool.not_false, Bool.not_true, Bool.and_self, cond_true, cond_false, e2, encI_len, d1, d2, d3, d4, e3, d5, d6, Option.getD_none, Option.getD_some, o1, o2, Nat.add_zero, Int.sub_zero, encI_rep, splice_encI]
    rfl
end Go.Ab

namespace Go.Ab
open Go
open Go.Proofs

structure Ls where
  a : List Int
  b : List Int
  c : List Int
def cLs : Cod Ls where
  enc := fun l => .agg [.sl 1 (encI l.a), .sl 1 (encI l.b), .sl 1 (encI l.c)]
  dec := fun c => match c with | .agg [.sl 1 a, .sl 1 b, .sl 1 c] => (decI a).bind fun a => (decI b).bind fun b => (decI c).bind fun c => some ⟨a, b, c⟩ | _ => none
  ok := fun c a h => by
    split at h
    · replace h := bind_some' h
      obtain ⟨x, hx, h⟩ := h
      replace h := bind_some' h
      obtain ⟨y, hy, h⟩ := h
      replace h := bind_some' h
      obtain ⟨z, hz, h⟩ := h
      cases h
      rw [decI_enc hx, decI_enc hy, decI_enc hz]
    · cases h
  de := fun l => by simp
def cOLs : Cod Ls where
  enc := fun l => .agg [.own 1 (encI l.a), .own 1 (encI l.b), .own 1 (encI l.c)]
  dec := fun c => match c with | .agg [.own 1 a, .own 1 b, .own 1 c] => (decI a).bind fun a => (decI b).bind fun b => (decI c).bind fun c => some ⟨a, b, c⟩ | _ => none
  ok := fun c a h => by
    split at h
    · replace h := bind_some' h
      obtain ⟨x, hx, h⟩ := h
      replace h := bind_some' h
      obtain ⟨y, hy, h⟩ := h
      replace h := bind_some' h
      obtain ⟨z, hz, h⟩ := h
      cases h
      rw [decI_enc hx, decI_enc hy, decI_enc hz]
    · cases h
  de := fun l => by simp
noncomputable abbrev k65 : Cx := cxG Pr Tryd.f65 [] [] (fun q => Nat.beq q 13) (fun q => Nat.beq q 58)
set_option maxRecDepth 100000 in
theorem r65 (l : Ls) (β : Type) (K : CV → List (List CV) → Option β) : fnK k65 Tryd.f65 [cLs.enc l] [] K =
 if 0 ≤ (↑(List.length (encI (Ls.a l))) : Int) ∧ (↑(List.length (encI (Ls.a l))) : Int) ≤ (↑(List.length (encI (Ls.a l))) : Int) ∧ (↑(List.length (encI (Ls.a l))) : Int) ≤ (↑LIM : Int) then
 if 0 ≤ (↑(List.length (encI (Ls.b l))) : Int) ∧ (↑(List.length (encI (Ls.b l))) : Int) ≤ (↑(List.length (encI (Ls.b l))) : Int) ∧ (↑(List.length (encI (Ls.b l))) : Int) ≤ (↑LIM : Int) then
 if 0 ≤ (↑(List.length (encI (Ls.c l))) : Int) ∧ (↑(List.length (encI (Ls.c l))) : Int) ≤ (↑(List.length (encI (Ls.c l))) : Int) ∧ (↑(List.length (encI (Ls.c l))) : Int) ≤ (↑LIM : Int) then
 K (CV.agg [CV.own 1 (splice (List.replicate (Int.toNat (↑(List.length (encI (Ls.a l))) : Int)) [CV.int IntKind.i64 0]) 0 (List.take (min (List.length (encI (Ls.a l))) (List.length (List.replicate (Int.toNat (↑(List.length (encI (Ls.a l))) : Int)) [CV.int IntKind.i64 0]))) (encI (Ls.a l)))), CV.own 1 (splice (List.replicate (Int.toNat (↑(List.length (encI (Ls.b l))) : Int)) [CV.int IntKind.i64 0]) 0 (List.take (min (List.length (encI (Ls.b l))) (List.length (List.replicate (Int.toNat (↑(List.length (encI (Ls.b l))) : Int)) [CV.int IntKind.i64 0]))) (encI (Ls.b l)))), CV.own 1 (splice (List.replicate (Int.toNat (↑(List.length (encI (Ls.c l))) : Int)) [CV.int IntKind.i64 0]) 0 (List.take (min (List.length (encI (Ls.c l))) (List.length (List.replicate (Int.toNat (↑(List.length (encI (Ls.c l))) : Int)) [CV.int IntKind.i64 0]))) (encI (Ls.c l))))]) []
 else none
 else none
 else none := by kernel_rfl

noncomputable abbrev k64 : Cx := cxG Pr Tryd.f64 []
set_option maxRecDepth 100000 in
theorem r64 (c : Int) (β : Type) (K : CV → List (List CV) → Option β) : fnK k64 Tryd.f64 [cI.enc c] [] K =
 bif decide (c ≥ 0) then K (CV.bool (decide (c < 3))) [] else K (CV.bool false) [] := by kernel_rfl

def isC (c : Int) : Bool := decide (c ≥ 0) && decide (c < 3)
def gIs : Callee := g1 cI (fun _ => true) fun c => cB.enc (isC c)
def smL (l : Ls) : Bool := Nat.ble l.a.length 100000 && (Nat.ble l.b.length 100000 && Nat.ble l.c.length 100000)
def gOwn : Callee := g1 cLs smL fun l => cOLs.enc l
theorem is_good : GoodC Pr 64 gIs :=
  good1 ((CxOK.baseG Good.nil GoodI.nil (eqOK_none fun _ => rfl)).sound (cx := k64) Tryd.func64 (by kernel_rfl) (by kernel_rfl) rfl (by kernel_rfl)) fun c _ β K => by
    rw [r64]
    unfold isC
    cases decide (c ≥ 0) <;> rfl
theorem own_cell (xs : List Int) : splice (List.replicate (Int.toNat (↑(encI xs).length : Int)) [CV.int IntKind.i64 0]) 0 (List.take (min (encI xs).length (List.replicate (Int.toNat (↑(encI xs).length : Int)) [CV.int IntKind.i64 0]).length) (encI xs)) = encI xs := by
  have : List.take xs.length (encI xs) = encI xs := List.take_of_length_le (by simp)
  simp [splice, this]
theorem smL_le {l : Ls} (h : smL l = true) : l.a.length ≤ 100000 ∧ l.b.length ≤ 100000 ∧ l.c.length ≤ 100000 := by
  simp only [smL, Bool.and_eq_true] at h
  exact ⟨Nat.le_of_ble_eq_true h.1, Nat.le_of_ble_eq_true h.2.1, Nat.le_of_ble_eq_true h.2.2⟩
theorem own_good : GoodC Pr 65 gOwn :=
  good1 ((CxOK.baseG Good.nil GoodI.nil (eqOK_none fun _ => rfl)).sound (cx := k65) Tryd.func65 (by kernel_rfl) (by kernel_rfl) rfl (by kernel_rfl)) fun l hp β K => by
    obtain ⟨h1, h2, h3⟩ := smL_le hp
    have hL := lim_val
    have e (xs : List Int) (h : xs.length ≤ 100000) : 0 ≤ (((encI xs).length : Nat) : Int) ∧ (((encI xs).length : Nat) : Int) ≤ (((encI xs).length : Nat) : Int) ∧ (((encI xs).length : Nat) : Int) ≤ ((LIM : Nat) : Int) := by
      rw [encI_len, hL]; omega
    rw [r65, if_pos (e _ h1), if_pos (e _ h2), if_pos (e _ h3), own_cell, own_cell, own_cell]
    rfl

/-- One list among the three. -/
def Ls.get (l : Ls) : Nat → List Int
  | 0 => l.a
  | 1 => l.b
  | _ => l.c
def Ls.set (l : Ls) (x : List Int) : Nat → Ls
  | 0 => ⟨x, l.b, l.c⟩
  | 1 => ⟨l.a, x, l.c⟩
  | _ => ⟨l.a, l.b, x⟩
theorem isC_cases {c : Int} (h : isC c = true) : c = 0 ∨ c = 1 ∨ c = 2 := by
  simp only [isC, Bool.and_eq_true, decide_eq_true_eq] at h
  omega
noncomputable abbrev k34 : Cx := cxG Pr Tryd.f34 [(64, gIs), (65, gOwn)]
set_option maxRecDepth 100000 in
theorem r34a (l : Ls) (x : List Int) (β : Type) (K : CV → List (List CV) → Option β) : fnK k34 Tryd.f34 [cLs.enc l, .int .i64 0, cIs.enc x] [] K =
 Option.bind (Option.bind (decI (encI (Ls.a l))) fun a =>
 Option.bind (decI (encI (Ls.b l))) fun b =>
 Option.bind (decI (encI (Ls.c l))) fun c => some { a := a, b := b, c := c }) fun a =>
 bif smL a then
 if List.length (encI (Ls.a a) ++ encI x) ≤ LIM then
 K (CV.tup [CV.agg [CV.own 1 (encI (Ls.a a) ++ encI x), CV.own 1 (encI (Ls.b a)), CV.own 1 (encI (Ls.c a))], CV.int IntKind.i64 0]) []
 else none
 else none := by kernel_rfl

set_option maxRecDepth 100000 in
theorem r34b (l : Ls) (x : List Int) (β : Type) (K : CV → List (List CV) → Option β) : fnK k34 Tryd.f34 [cLs.enc l, .int .i64 1, cIs.enc x] [] K =
 Option.bind (Option.bind (decI (encI (Ls.a l))) fun a =>
 Option.bind (decI (encI (Ls.b l))) fun b =>
 Option.bind (decI (encI (Ls.c l))) fun c => some { a := a, b := b, c := c }) fun a =>
 bif smL a then
 if List.length (encI (Ls.b a) ++ encI x) ≤ LIM then
 K (CV.tup [CV.agg [CV.own 1 (encI (Ls.a a)), CV.own 1 (encI (Ls.b a) ++ encI x), CV.own 1 (encI (Ls.c a))], CV.int IntKind.i64 0]) []
 else none
 else none := by kernel_rfl

set_option maxRecDepth 100000 in
theorem r34c (l : Ls) (x : List Int) (β : Type) (K : CV → List (List CV) → Option β) : fnK k34 Tryd.f34 [cLs.enc l, .int .i64 2, cIs.enc x] [] K =
 Option.bind (Option.bind (decI (encI (Ls.a l))) fun a =>
 Option.bind (decI (encI (Ls.b l))) fun b =>
 Option.bind (decI (encI (Ls.c l))) fun c => some { a := a, b := b, c := c }) fun a =>
 bif smL a then
 if List.length (encI (Ls.c a) ++ encI x) ≤ LIM then
 K (CV.tup [CV.agg [CV.own 1 (encI (Ls.a a)), CV.own 1 (encI (Ls.b a)), CV.own 1 (encI (Ls.c a) ++ encI x)], CV.int IntKind.i64 0]) []
 else none
 else none := by kernel_rfl

def cRef (k : Nat) : Cod Unit where
  enc := fun _ => .ref k
  dec := fun c => match c with | .ref j => bif Nat.beq j k then some () else none | _ => none
  ok := fun c a h => by
    split at h
    · rename_i j
      cases e : Nat.beq j k with
      | true => rw [Nat.eq_of_beq_eq_true e]
      | false => rw [e] at h; cases h
    · cases h
  de := fun _ => by simp
/-- Which of the three lists is gone through. -/
inductive K3 where
  | x | y | z
structure L3 where
  a : List (List CV)
  b : List (List CV)
  c : List (List CV)
def encB (l : L3) : List CV := [.own 1 l.a, .own 1 l.b, .own 1 l.c]
def encK : K3 → L3 → List CV
  | .x, l => [.sl 1 l.a, .own 1 l.b, .own 1 l.c]
  | .y, l => [.own 1 l.a, .sl 1 l.b, .own 1 l.c]
  | .z, l => [.own 1 l.a, .own 1 l.b, .sl 1 l.c]
/-- Two boxes of lists; one list is no more written. -/
def cBB : CodB (K3 × L3 × L3) where
  enc := fun p => [encK p.1 p.2.1, encB p.2.2]
  dec := fun c => match c with
    | [[.sl 1 a, .own 1 b, .own 1 c], [.own 1 d, .own 1 e, .own 1 f]] => some (.x, ⟨a, b, c⟩, ⟨d, e, f⟩)
    | [[.own 1 a, .sl 1 b, .own 1 c], [.own 1 d, .own 1 e, .own 1 f]] => some (.y, ⟨a, b, c⟩, ⟨d, e, f⟩)
    | [[.own 1 a, .own 1 b, .sl 1 c], [.own 1 d, .own 1 e, .own 1 f]] => some (.z, ⟨a, b, c⟩, ⟨d, e, f⟩)
    | _ => none
  ok := fun c p h => by
    split at h
    · cases h; rfl
    · cases h; rfl
    · cases h; rfl
    · cases h
  de := fun p => by
    obtain ⟨k, l, m⟩ := p
    cases k <;> rfl
noncomputable abbrev k66a : Cx := cxG Pr Tryd.f66 [(64, gIs), (65, gOwn)]
abbrev o66 : Exit → List Nat := fun _ => [1, 4, 8, 11, 12]
abbrev p66 := [false, true, false, true, true, true, true]
def inR (lo hi : Int) (x : Int) : Bool := bif decide (x ≥ lo) then decide (x < hi) else false
def L66 : LoopSem := l10 [1, 2, 3, 4, 8, 11, 12, 23, 24, 25] o66 cI cI cI (cRef 0) (cRef 1) cOI cOI cIs cI cI cBB (fun _ _ _ _ _ O S xs n i _ => O.isEmpty && S.isEmpty && i == 0 && n == (xs.length : Int) && Nat.ble xs.length 100000)
  fun c lo hi _ _ _ _ xs _ _ b => .one (.exit 0) [cI.enc c, .ref 0, .ref 1, cOI.enc (xs.filter (inR lo hi)), cOI.enc (xs.filter fun x => !inR lo hi x)] (cBB.enc b)
noncomputable abbrev k66 : Cx := k66a.loop p66 L66
set_option maxRecDepth 100000 in
theorem t66x (c lo hi : Int) (O S xs : List Int) (n i : Int) (b d : L3) (m : Nat) (β : Type) (K : Exit → List CV → List (List CV) → Option β) : loopB k66a [1, 2, 3, 4, 8, 11, 12, 23, 24, 25] o66 p66 (bodyL (bodyOf Tryd.f66) p66) (m + 1) [cI.enc c, cI.enc lo, cI.enc hi, .ref 0, .ref 1, cOI.enc O, cOI.enc S, cIs.enc xs, cI.enc n, cI.enc i] [encK .x b, encB d] K =
 bif decide (i < n) then
 Option.bind (rdE (encI xs) i) fun c_1 =>
 Option.bind c_1[0]? fun x =>
 Option.bind (asI IntKind.i64 x) fun n_1 =>
 bif decide (n_1 ≥ lo) then
 bif decide (n_1 < hi) then
 if List.length (encI O ++ [[CV.int IntKind.i64 n_1]]) ≤ LIM then loopB k66a [1, 2, 3, 4, 8, 11, 12, 23, 24, 25] o66 [false, true, false, true, true, true, true] (bodyL (bodyOf Tryd.f66) p66) m [CV.int IntKind.i64 c, CV.int IntKind.i64 lo, CV.int IntKind.i64 hi, CV.ref 0, CV.ref 1, CV.own 1 (encI O ++ [[CV.int IntKind.i64 n_1]]), CV.own 1 (encI S), CV.sl 1 (encI xs), CV.int IntKind.i64 n, CV.int IntKind.i64 (IntKind.wrap IntKind.i64 (i + 1))] [[CV.sl 1 (L3.a b), CV.own 1 (L3.b b), CV.own 1 (L3.c b)], [CV.own 1 (L3.a d), CV.own 1 (L3.b d), CV.own 1 (L3.c d)]] fun a a_1 a_2 => K a a_1 a_2
 else none
 else
 if List.length (encI S ++ [[CV.int IntKind.i64 n_1]]) ≤ LIM then loopB k66a [1, 2, 3, 4, 8, 11, 12, 23, 24, 25] o66 [false, true, false, true, true, true, true] (bodyL (bodyOf Tryd.f66) p66) m [CV.int IntKind.i64 c, CV.int IntKind.i64 lo, CV.int IntKind.i64 hi, CV.ref 0, CV.ref 1, CV.own 1 (encI O), CV.own 1 (encI S ++ [[CV.int IntKind.i64 n_1]]), CV.sl 1 (encI xs), CV.int IntKind.i64 n, CV.int IntKind.i64 (IntKind.wrap IntKind.i64 (i + 1))] [[CV.sl 1 (L3.a b), CV.own 1 (L3.b b), CV.own 1 (L3.c b)], [CV.own 1 (L3.a d), CV.own 1 (L3.b d), CV.own 1 (L3.c d)]] fun a a_1 a_2 => K a a_1 a_2
 else none
 else
 if List.length (encI S ++ [[CV.int IntKind.i64 n_1]]) ≤ LIM then loopB k66a [1, 2, 3, 4, 8, 11, 12, 23, 24, 25] o66 [false, true, false, true, true, true, true] (bodyL (bodyOf Tryd.f66) p66) m [CV.int IntKind.i64 c, CV.int IntKind.i64 lo, CV.int IntKind.i64 hi, CV.ref 0, CV.ref 1, CV.own 1 (encI O), CV.own 1 (encI S ++ [[CV.int IntKind.i64 n_1]]), CV.sl 1 (encI xs), CV.int IntKind.i64 n, CV.int IntKind.i64 (IntKind.wrap IntKind.i64 (i + 1))] [[CV.sl 1 (L3.a b), CV.own 1 (L3.b b), CV.own 1 (L3.c b)], [CV.own 1 (L3.a d), CV.own 1 (L3.b d), CV.own 1 (L3.c d)]] fun a a_1 a_2 => K a a_1 a_2
 else none
 else
 K (Exit.exit 0) [CV.int IntKind.i64 c, CV.ref 0, CV.ref 1, CV.own 1 (encI O), CV.own 1 (encI S)] [[CV.sl 1 (L3.a b), CV.own 1 (L3.b b), CV.own 1 (L3.c b)], [CV.own 1 (L3.a d), CV.own 1 (L3.b d), CV.own 1 (L3.c d)]] := by kernel_rfl

set_option maxRecDepth 100000 in
theorem t66y (c lo hi : Int) (O S xs : List Int) (n i : Int) (b d : L3) (m : Nat) (β : Type) (K : Exit → List CV → List (List CV) → Option β) : loopB k66a [1, 2, 3, 4, 8, 11, 12, 23, 24, 25] o66 p66 (bodyL (bodyOf Tryd.f66) p66) (m + 1) [cI.enc c, cI.enc lo, cI.enc hi, .ref 0, .ref 1, cOI.enc O, cOI.enc S, cIs.enc xs, cI.enc n, cI.enc i] [encK .y b, encB d] K =
 bif decide (i < n) then
 Option.bind (rdE (encI xs) i) fun c_1 =>
 Option.bind c_1[0]? fun x =>
 Option.bind (asI IntKind.i64 x) fun n_1 =>
 bif decide (n_1 ≥ lo) then
 bif decide (n_1 < hi) then
 if List.length (encI O ++ [[CV.int IntKind.i64 n_1]]) ≤ LIM then loopB k66a [1, 2, 3, 4, 8, 11, 12, 23, 24, 25] o66 [false, true, false, true, true, true, true] (bodyL (bodyOf Tryd.f66) p66) m [CV.int IntKind.i64 c, CV.int IntKind.i64 lo, CV.int IntKind.i64 hi, CV.ref 0, CV.ref 1, CV.own 1 (encI O ++ [[CV.int IntKind.i64 n_1]]), CV.own 1 (encI S), CV.sl 1 (encI xs), CV.int IntKind.i64 n, CV.int IntKind.i64 (IntKind.wrap IntKind.i64 (i + 1))] [[CV.own 1 (L3.a b), CV.sl 1 (L3.b b), CV.own 1 (L3.c b)], [CV.own 1 (L3.a d), CV.own 1 (L3.b d), CV.own 1 (L3.c d)]] fun a a_1 a_2 => K a a_1 a_2
 else none
 else
 if List.length (encI S ++ [[CV.int IntKind.i64 n_1]]) ≤ LIM then loopB k66a [1, 2, 3, 4, 8, 11, 12, 23, 24, 25] o66 [false, true, false, true, true, true, true] (bodyL (bodyOf Tryd.f66) p66) m [CV.int IntKind.i64 c, CV.int IntKind.i64 lo, CV.int IntKind.i64 hi, CV.ref 0, CV.ref 1, CV.own 1 (encI O), CV.own 1 (encI S ++ [[CV.int IntKind.i64 n_1]]), CV.sl 1 (encI xs), CV.int IntKind.i64 n, CV.int IntKind.i64 (IntKind.wrap IntKind.i64 (i + 1))] [[CV.own 1 (L3.a b), CV.sl 1 (L3.b b), CV.own 1 (L3.c b)], [CV.own 1 (L3.a d), CV.own 1 (L3.b d), CV.own 1 (L3.c d)]] fun a a_1 a_2 => K a a_1 a_2
 else none
 else
 if List.length (encI S ++ [[CV.int IntKind.i64 n_1]]) ≤ LIM then loopB k66a [1, 2, 3, 4, 8, 11, 12, 23, 24, 25] o66 [false, true, false, true, true, true, true] (bodyL (bodyOf Tryd.f66) p66) m [CV.int IntKind.i64 c, CV.int IntKind.i64 lo, CV.int IntKind.i64 hi, CV.ref 0, CV.ref 1, CV.own 1 (encI O), CV.own 1 (encI S ++ [[CV.int IntKind.i64 n_1]]), CV.sl 1 (encI xs), CV.int IntKind.i64 n, CV.int IntKind.i64 (IntKind.wrap IntKind.i64 (i + 1))] [[CV.own 1 (L3.a b), CV.sl 1 (L3.b b), CV.own 1 (L3.c b)], [CV.own 1 (L3.a d), CV.own 1 (L3.b d), CV.own 1 (L3.c d)]] fun a a_1 a_2 => K a a_1 a_2
 else none
 else
 K (Exit.exit 0) [CV.int IntKind.i64 c, CV.ref 0, CV.ref 1, CV.own 1 (encI O), CV.own 1 (encI S)] [[CV.own 1 (L3.a b), CV.sl 1 (L3.b b), CV.own 1 (L3.c b)], [CV.own 1 (L3.a d), CV.own 1 (L3.b d), CV.own 1 (L3.c d)]] := by kernel_rfl

set_option maxRecDepth 100000 in
theorem t66z (c lo hi : Int) (O S xs : List Int) (n i : Int) (b d : L3) (m : Nat) (β : Type) (K : Exit → List CV → List (List CV) → Option β) : loopB k66a [1, 2, 3, 4, 8, 11, 12, 23, 24, 25] o66 p66 (bodyL (bodyOf Tryd.f66) p66) (m + 1) [cI.enc c, cI.enc lo, cI.enc hi, .ref 0, .ref 1, cOI.enc O, cOI.enc S, cIs.enc xs, cI.enc n, cI.enc i] [encK .z b, encB d] K =
 bif decide (i < n) then
 Option.bind (rdE (encI xs) i) fun c_1 =>
 Option.bind c_1[0]? fun x =>
 Option.bind (asI IntKind.i64 x) fun n_1 =>
 bif decide (n_1 ≥ lo) then
 bif decide (n_1 < hi) then
 if List.length (encI O ++ [[CV.int IntKind.i64 n_1]]) ≤ LIM then loopB k66a [1, 2, 3, 4, 8, 11, 12, 23, 24, 25] o66 [false, true, false, true, true, true, true] (bodyL (bodyOf Tryd.f66) p66) m [CV.int IntKind.i64 c, CV.int IntKind.i64 lo, CV.int IntKind.i64 hi, CV.ref 0, CV.ref 1, CV.own 1 (encI O ++ [[CV.int IntKind.i64 n_1]]), CV.own 1 (encI S), CV.sl 1 (encI xs), CV.int IntKind.i64 n, CV.int IntKind.i64 (IntKind.wrap IntKind.i64 (i + 1))] [[CV.own 1 (L3.a b), CV.own 1 (L3.b b), CV.sl 1 (L3.c b)], [CV.own 1 (L3.a d), CV.own 1 (L3.b d), CV.own 1 (L3.c d)]] fun a a_1 a_2 => K a a_1 a_2
 else none
 else
 if List.length (encI S ++ [[CV.int IntKind.i64 n_1]]) ≤ LIM then loopB k66a [1, 2, 3, 4, 8, 11, 12, 23, 24, 25] o66 [false, true, false, true, true, true, true] (bodyL (bodyOf Tryd.f66) p66) m [CV.int IntKind.i64 c, CV.int IntKind.i64 lo, CV.int IntKind.i64 hi, CV.ref 0, CV.ref 1, CV.own 1 (encI O), CV.own 1 (encI S ++ [[CV.int IntKind.i64 n_1]]), CV.sl 1 (encI xs), CV.int IntKind.i64 n, CV.int IntKind.i64 (IntKind.wrap IntKind.i64 (i + 1))] [[CV.own 1 (L3.a b), CV.own 1 (L3.b b), CV.sl 1 (L3.c b)], [CV.own 1 (L3.a d), CV.own 1 (L3.b d), CV.own 1 (L3.c d)]] fun a a_1 a_2 => K a a_1 a_2
 else none
 else
 if List.length (encI S ++ [[CV.int IntKind.i64 n_1]]) ≤ LIM then loopB k66a [1, 2, 3, 4, 8, 11, 12, 23, 24, 25] o66 [false, true, false, true, true, true, true] (bodyL (bodyOf Tryd.f66) p66) m [CV.int IntKind.i64 c, CV.int IntKind.i64 lo, CV.int IntKind.i64 hi, CV.ref 0, CV.ref 1, CV.own 1 (encI O), CV.own 1 (encI S ++ [[CV.int IntKind.i64 n_1]]), CV.sl 1 (encI xs), CV.int IntKind.i64 n, CV.int IntKind.i64 (IntKind.wrap IntKind.i64 (i + 1))] [[CV.own 1 (L3.a b), CV.own 1 (L3.b b), CV.sl 1 (L3.c b)], [CV.own 1 (L3.a d), CV.own 1 (L3.b d), CV.own 1 (L3.c d)]] fun a a_1 a_2 => K a a_1 a_2
 else none
 else
 K (Exit.exit 0) [CV.int IntKind.i64 c, CV.ref 0, CV.ref 1, CV.own 1 (encI O), CV.own 1 (encI S)] [[CV.own 1 (L3.a b), CV.own 1 (L3.b b), CV.sl 1 (L3.c b)], [CV.own 1 (L3.a d), CV.own 1 (L3.b d), CV.own 1 (L3.c d)]] := by kernel_rfl

set_option maxRecDepth 100000 in
theorem r66a (l : Ls) (lo hi : Int) (β : Type) (K : CV → List (List CV) → Option β) : fnK k66 Tryd.f66 [cLs.enc l, .int .i64 0, cI.enc lo, cI.enc hi] [] K =
 Option.bind (Option.bind (decI (encI (Ls.a l))) fun a =>
 Option.bind (decI (encI (Ls.b l))) fun b =>
 Option.bind (decI (encI (Ls.c l))) fun c => some { a := a, b := b, c := c }) fun a =>
 bif smL a then
 Option.bind (decI (encI (Ls.a a))) fun h =>
 bif (↑(List.length (encI (Ls.a a))) : Int) == (↑(List.length h) : Int) && Nat.ble (List.length h) 100000 then
 K (CV.tup [CV.agg [CV.own 1 (encI (List.filter (fun x => !inR lo hi x) h)), CV.own 1 (encI (Ls.b a)), CV.own 1 (encI (Ls.c a))], CV.own 1 (encI (List.filter (inR lo hi) h)), CV.int IntKind.i64 0]) []
 else none
 else none := by kernel_rfl

set_option maxRecDepth 100000 in
theorem r66b (l : Ls) (lo hi : Int) (β : Type) (K : CV → List (List CV) → Option β) : fnK k66 Tryd.f66 [cLs.enc l, .int .i64 1, cI.enc lo, cI.enc hi] [] K =
 Option.bind (Option.bind (decI (encI (Ls.a l))) fun a =>
 Option.bind (decI (encI (Ls.b l))) fun b =>
 Option.bind (decI (encI (Ls.c l))) fun c => some { a := a, b := b, c := c }) fun a =>
 bif smL a then
 Option.bind (decI (encI (Ls.b a))) fun h =>
 bif (↑(List.length (encI (Ls.b a))) : Int) == (↑(List.length h) : Int) && Nat.ble (List.length h) 100000 then
 K (CV.tup [CV.agg [CV.own 1 (encI (Ls.a a)), CV.own 1 (encI (List.filter (fun x => !inR lo hi x) h)), CV.own 1 (encI (Ls.c a))], CV.own 1 (encI (List.filter (inR lo hi) h)), CV.int IntKind.i64 0]) []
 else none
 else none := by kernel_rfl

set_option maxRecDepth 100000 in
theorem r66c (l : Ls) (lo hi : Int) (β : Type) (K : CV → List (List CV) → Option β) : fnK k66 Tryd.f66 [cLs.enc l, .int .i64 2, cI.enc lo, cI.enc hi] [] K =
 Option.bind (Option.bind (decI (encI (Ls.a l))) fun a =>
 Option.bind (decI (encI (Ls.b l))) fun b =>
 Option.bind (decI (encI (Ls.c l))) fun c => some { a := a, b := b, c := c }) fun a =>
 bif smL a then
 Option.bind (decI (encI (Ls.c a))) fun h =>
 bif (↑(List.length (encI (Ls.c a))) : Int) == (↑(List.length h) : Int) && Nat.ble (List.length h) 100000 then
 K (CV.tup [CV.agg [CV.own 1 (encI (Ls.a a)), CV.own 1 (encI (Ls.b a)), CV.own 1 (encI (List.filter (fun x => !inR lo hi x) h))], CV.own 1 (encI (List.filter (inR lo hi) h)), CV.int IntKind.i64 0]) []
 else none
 else none := by kernel_rfl

def K3.c : K3 → Int
  | .x => 0
  | .y => 1
  | .z => 2
def K3.n : K3 → Nat
  | .x => 0
  | .y => 1
  | .z => 2
/-- A round of Part's loop. -/
theorem t66 (k : K3) (c lo hi : Int) (O S xs : List Int) (n i : Int) (b d : L3) (m : Nat) (β : Type) (K : Exit → List CV → List (List CV) → Option β) : loopB k66a [1, 2, 3, 4, 8, 11, 12, 23, 24, 25] o66 p66 (bodyL (bodyOf Tryd.f66) p66) (m + 1) [cI.enc c, cI.enc lo, cI.enc hi, .ref 0, .ref 1, cOI.enc O, cOI.enc S, cIs.enc xs, cI.enc n, cI.enc i] [encK k b, encB d] K =
    bif decide (i < n) then
      Option.bind (rdE (encI xs) i) fun c_1 => Option.bind c_1[0]? fun x => Option.bind (asI IntKind.i64 x) fun a =>
        bif inR lo hi a then
          if (encI O ++ [[CV.int IntKind.i64 a]]).length ≤ LIM then loopB k66a [1, 2, 3, 4, 8, 11, 12, 23, 24, 25] o66 p66 (bodyL (bodyOf Tryd.f66) p66) m [cI.enc c, cI.enc lo, cI.enc hi, .ref 0, .ref 1, .own 1 (encI O ++ [[CV.int IntKind.i64 a]]), cOI.enc S, cIs.enc xs, cI.enc n, cI.enc (IntKind.i64.wrap (i + 1))] [encK k b, encB d] K else none
        else
          if (encI S ++ [[CV.int IntKind.i64 a]]).length ≤ LIM then loopB k66a [1, 2, 3, 4, 8, 11, 12, 23, 24, 25] o66 p66 (bodyL (bodyOf Tryd.f66) p66) m [cI.enc c, cI.enc lo, cI.enc hi, .ref 0, .ref 1, cOI.enc O, .own 1 (encI S ++ [[CV.int IntKind.i64 a]]), cIs.enc xs, cI.enc n, cI.enc (IntKind.i64.wrap (i + 1))] [encK k b, encB d] K else none
    else K (.exit 0) [cI.enc c, .ref 0, .ref 1, cOI.enc O, cOI.enc S] [encK k b, encB d] := by
  have e : ∀ (a : Int) (x y z : Option β), (bif decide (a ≥ lo) then (bif decide (a < hi) then x else y) else y) = bif inR lo hi a then x else y := fun a x y z => by
    unfold inR
    cases decide (a ≥ lo) <;> rfl
  cases k
  · rw [t66x]; simp only [e _ _ _ none]; rfl
  · rw [t66y]; simp only [e _ _ _ none]; rfl
  · rw [t66z]; simp only [e _ _ _ none]; rfl

theorem part_loop (k : K3) (c lo hi : Int) (xs : List Int) (b d : L3) (hx : xs.length ≤ 100000) (β : Type) (K : Exit → List CV → List (List CV) → Option β) : ∀ (m i : Nat) (O S : List Int), i + m = xs.length → O.length ≤ i → S.length ≤ i →
    loopB k66a [1, 2, 3, 4, 8, 11, 12, 23, 24, 25] o66 p66 (bodyL (bodyOf Tryd.f66) p66) (m + 1) [cI.enc c, cI.enc lo, cI.enc hi, .ref 0, .ref 1, cOI.enc O, cOI.enc S, cIs.enc xs, cI.enc (xs.length : Int), cI.enc (i : Int)] [encK k b, encB d] K =
      K (.exit 0) [cI.enc c, .ref 0, .ref 1, cOI.enc (O ++ (xs.drop i).filter (inR lo hi)), cOI.enc (S ++ (xs.drop i).filter fun x => !inR lo hi x)] [encK k b, encB d] := by
  intro m
  induction m with
  | zero =>
    intro i O S h1 _ _
    rw [t66, decide_eq_false (by omega), cond_false, List.drop_eq_nil_of_le (by omega)]
    simp
  | succ m ih =>
    intro i O S h1 hO hS
    have hii : i < xs.length := by omega
    have hL := lim_val
    rw [t66, decide_eq_true (by omega), cond_true, List.drop_eq_getElem_cons hii, rdE_nat (by omega)]
    have e1 : (encI xs)[(i : Int).toNat]? = some [CV.int .i64 xs[i]] := by simp [encI, hii]
    simp only [e1, Option.bind_some, zero_get, asI_i, show (i : Int) + 1 = ((i + 1 : Nat) : Int) by omega, wrap_in (a := ((i + 1 : Nat) : Int)) (by omega), List.filter_cons]
    cases hq : inR lo hi xs[i] with
    | true =>
      rw [cond_true, if_pos (by simp; omega), encI_snoc]
      have ih := ih (i + 1) (O ++ [xs[i]]) S (by omega) (by simp; omega) (by omega)
      rw [cOI_enc] at ih
      rw [ih]
      simp
    | false =>
      rw [cond_false, if_pos (by simp; omega), encI_snoc]
      have ih := ih (i + 1) O (S ++ [xs[i]]) (by omega) (by omega) (by simp; omega)
      rw [cOI_enc (S ++ _)] at ih
      rw [ih]
      simp

def pushL (l : Ls) (c : Int) (x : List Int) : Ls := l.set (l.get c.toNat ++ x) c.toNat
def gPush : Callee := g3 cLs cI cIs (fun l c x => smL l && (isC c && Nat.ble x.length 100000)) fun l c x => .tup [cOLs.enc (pushL l c x), .int .i64 0]
def partOut (l : Ls) (c lo hi : Int) : List Int := (l.get c.toNat).filter (inR lo hi)
def partL (l : Ls) (c lo hi : Int) : Ls := l.set ((l.get c.toNat).filter fun x => !inR lo hi x) c.toNat
def gPart : Callee := g4 cLs cI cI cI (fun l c _ _ => smL l && isC c) fun l c lo hi => .tup [cOLs.enc (partL l c lo hi), cOI.enc (partOut l c lo hi), .int .i64 0]
@[simp] theorem encI_app (x y : List Int) : encI x ++ encI y = encI (x ++ y) := by simp [encI]
theorem push_good : GoodC Pr 34 gPush :=
  good3 ((CxOK.baseG (Good.cons is_good (Good.cons own_good Good.nil)) GoodI.nil (eqOK_none fun _ => rfl)).sound (cx := k34) Tryd.func34 (by kernel_rfl) (by kernel_rfl) rfl (by kernel_rfl)) fun l c x hp β K => by
    simp only [Bool.and_eq_true] at hp
    obtain ⟨hl, hc, hx⟩ := hp
    have hx := Nat.le_of_ble_eq_true hx
    obtain ⟨l1, l2, l3⟩ := smL_le hl
    have hL := lim_val
    have hl' : smL ⟨l.a, l.b, l.c⟩ = true := hl
    rcases isC_cases hc with rfl | rfl | rfl
    · refine (r34a l x β K).trans ?_
      simp only [decI_map, Option.bind_some, hl', cond_true, encI_app]
      rw [if_pos (by simp; omega)]
      rfl
    · refine (r34b l x β K).trans ?_
      simp only [decI_map, Option.bind_some, hl', cond_true, encI_app]
      rw [if_pos (by simp; omega)]
      rfl
    · refine (r34c l x β K).trans ?_
      simp only [decI_map, Option.bind_some, hl', cond_true, encI_app]
      rw [if_pos (by simp; omega)]
      rfl
theorem k66_ok : CxOK k66 [(64, gIs), (65, gOwn)] := by
  refine CxOK.loop10 (CxOK.baseG (Good.cons is_good (Good.cons own_good Good.nil)) GoodI.nil (eqOK_none fun _ => rfl)) rfl fun c lo hi _ _ O S xs n i b hp => ?_
  simp only [Bool.and_eq_true, List.isEmpty_iff, beq_iff_eq] at hp
  obtain ⟨⟨⟨⟨hO, hS⟩, hi⟩, hn⟩, hx⟩ := hp
  have hx := Nat.le_of_ble_eq_true hx
  subst hO hS hi hn
  obtain ⟨k, b, d⟩ := b
  refine ⟨xs.length + 1, fun β K => ?_⟩
  have := part_loop k c lo hi xs b d hx β K xs.length 0 [] [] (by omega) (by simp) (by simp)
  rw [List.drop_zero, List.nil_append, List.nil_append] at this
  exact this
theorem part_good : GoodC Pr 66 gPart :=
  good4 (k66_ok.sound (cx := k66) Tryd.func66 (by kernel_rfl) (by kernel_rfl) rfl (by kernel_rfl)) fun l c lo hi hp β K => by
    simp only [Bool.and_eq_true] at hp
    obtain ⟨hl, hc⟩ := hp
    obtain ⟨l1, l2, l3⟩ := smL_le hl
    have hl' : smL ⟨l.a, l.b, l.c⟩ = true := hl
    rcases isC_cases hc with rfl | rfl | rfl
    · refine (r66a l lo hi β K).trans ?_
      simp only [decI_map, Option.bind_some, hl', cond_true, encI_len, beq_self_eq_true, Nat.ble_eq_true_of_le l1, Bool.and_self]
      rfl
    · refine (r66b l lo hi β K).trans ?_
      simp only [decI_map, Option.bind_some, hl', cond_true, encI_len, beq_self_eq_true, Nat.ble_eq_true_of_le l2, Bool.and_self]
      rfl
    · refine (r66c l lo hi β K).trans ?_
      simp only [decI_map, Option.bind_some, hl', cond_true, encI_len, beq_self_eq_true, Nat.ble_eq_true_of_le l3, Bool.and_self]
      rfl
end Go.Ab

namespace Go.Ab
open Go
open Go.Proofs

noncomputable abbrev k101 : Cx := cxG Pr Tryd.f101 []
noncomputable abbrev k88 : Cx := cxG Pr Tryd.f88 []
set_option maxRecDepth 100000 in
theorem r101 (x : Int) (β : Type) (K : CV → List (List CV) → Option β) : fnK k101 Tryd.f101 [cI.enc x] [] K =
 K (CV.bool (x != x)) [] := by kernel_rfl

set_option maxRecDepth 100000 in
theorem r88 (x : Int) (β : Type) (K : CV → List (List CV) → Option β) : fnK k88 Tryd.f88 [cI.enc x] [] K =
 K (CV.bool (x != x)) [] := by kernel_rfl

def gNaN : Callee := g1 cI (fun _ => true) fun _ => cB.enc false
theorem nan101 : GoodC Pr 101 gNaN :=
  good1 ((CxOK.baseG Good.nil GoodI.nil (eqOK_none fun _ => rfl)).sound (cx := k101) Tryd.func101 (by kernel_rfl) (by kernel_rfl) rfl (by kernel_rfl)) fun x _ β K => by
    rw [r101]; simp
theorem nan88 : GoodC Pr 88 gNaN :=
  good1 ((CxOK.baseG Good.nil GoodI.nil (eqOK_none fun _ => rfl)).sound (cx := k88) Tryd.func88 (by kernel_rfl) (by kernel_rfl) rfl (by kernel_rfl)) fun x _ β K => by
    rw [r88]; simp
noncomputable abbrev k87 : Cx := cxG Pr Tryd.f87 [(101, gNaN)]
set_option maxRecDepth 100000 in
theorem r87 (x y : Int) (β : Type) (K : CV → List (List CV) → Option β) : fnK k87 Tryd.f87 [cI.enc x, cI.enc y] [] K =
 K (CV.bool (decide (x < y))) [] := by kernel_rfl

def gLess : Callee := g2 cI cI (fun _ _ => true) fun x y => cB.enc (decide (x < y))
theorem less_good : GoodC Pr 87 gLess :=
  good2 ((CxOK.baseG (Good.cons nan101 Good.nil) GoodI.nil (eqOK_none fun _ => rfl)).sound (cx := k87) Tryd.func87 (by kernel_rfl) (by kernel_rfl) rfl (by kernel_rfl)) fun x y _ β K => by
    rw [r87]; rfl
noncomputable abbrev k79 : Cx := cxG Pr Tryd.f79 [(87, gLess), (88, gNaN)] [] (fun _ => false) (fun q => Nat.beq q 60)
theorem bs_inl : GoodN Pr 79 (inlC k79 Tryd.f79) := (CxOK.baseG (Good.cons less_good (Good.cons nan88 Good.nil)) GoodI.nil (eqOK_none fun _ => rfl)).inlG (cx := k79) Tryd.func79 (by kernel_rfl) (by kernel_rfl) rfl (by kernel_rfl)
noncomputable abbrev k54 : Cx := cxG Pr Tryd.f54 [] [(79, inlC k79 Tryd.f79)]
set_option maxRecDepth 100000 in
theorem r54 (n : Int) (β : Type) (K : CV → List (List CV) → Option β) : fnK k54 Tryd.f54 [cI.enc n] [] K =
 bif decide (n < 1) then K (CV.tup [CV.int IntKind.i64 0, CV.int IntKind.i64 1]) []
 else
 bif decide (n > 63) then K (CV.tup [CV.int IntKind.i64 0, CV.int IntKind.i64 2]) []
 else
 bif decide (4 < IntKind.wrap IntKind.i64 (n + 1)) then
 bif decide (8 < IntKind.wrap IntKind.i64 (n + 1)) then
 K (CV.tup [CV.int IntKind.i64 3, CV.int IntKind.i64 0]) []
 else
 bif 8 == IntKind.wrap IntKind.i64 (n + 1) then K (CV.tup [CV.int IntKind.i64 2, CV.int IntKind.i64 0]) []
 else K (CV.tup [CV.int IntKind.i64 2, CV.int IntKind.i64 0]) []
 else
 bif decide (2 < IntKind.wrap IntKind.i64 (n + 1)) then
 bif 4 == IntKind.wrap IntKind.i64 (n + 1) then K (CV.tup [CV.int IntKind.i64 1, CV.int IntKind.i64 0]) []
 else K (CV.tup [CV.int IntKind.i64 1, CV.int IntKind.i64 0]) []
 else
 bif 2 == IntKind.wrap IntKind.i64 (n + 1) then K (CV.tup [CV.int IntKind.i64 0, CV.int IntKind.i64 0]) []
 else K (CV.tup [CV.int IntKind.i64 0, CV.int IntKind.i64 0]) [] := by kernel_rfl

def ofE (n : Int) : Int × Int := bif decide (n < 1) then (0, 1) else bif decide (n > 63) then (0, 2) else (bif decide (n > 7) then 3 else bif decide (n > 3) then 2 else bif decide (n > 1) then 1 else 0, 0)
def gOf : Callee := g1 cI (fun _ => true) fun n => .tup [cI.enc (ofE n).1, cI.enc (ofE n).2]
theorem of_good : GoodC Pr 54 gOf :=
  good1 ((CxOK.baseG Good.nil (GoodI.cons bs_inl GoodI.nil) (eqOK_none fun _ => rfl)).sound (cx := k54) Tryd.func54 (by kernel_rfl) (by kernel_rfl) rfl (by kernel_rfl)) fun n _ β K => by
    rw [r54]
    unfold ofE
    by_cases h1 : n < 1
    · simp only [decide_eq_true h1, cond_true]; rfl
    · by_cases h2 : n > 63
      · simp only [decide_eq_false h1, decide_eq_true h2, cond_true, cond_false]; rfl
      · rw [wrap_in (a := n + 1) (by omega)]
        simp only [decide_eq_false h1, decide_eq_false h2, cond_false]
        by_cases h3 : n > 7
        · rw [decide_eq_true h3, decide_eq_true (show 4 < n + 1 by omega), decide_eq_true (show 8 < n + 1 by omega)]; rfl
        · rw [decide_eq_false h3, decide_eq_false (show ¬ 8 < n + 1 by omega)]
          by_cases h4 : n > 3
          · rw [decide_eq_true h4, decide_eq_true (show 4 < n + 1 by omega)]; cases (8 : Int) == n + 1 <;> rfl
          · rw [decide_eq_false h4, decide_eq_false (show ¬ 4 < n + 1 by omega)]
            by_cases h5 : n > 1
            · rw [decide_eq_true h5, decide_eq_true (show 2 < n + 1 by omega)]; cases (4 : Int) == n + 1 <;> rfl
            · rw [decide_eq_false h5, decide_eq_false (show ¬ 2 < n + 1 by omega)]; cases (2 : Int) == n + 1 <;> rfl
noncomputable abbrev k53 : Cx := cxG Pr Tryd.f53 [(54, gOf)]
set_option maxRecDepth 100000 in
theorem r53 (n : Int) (β : Type) (K : CV → List (List CV) → Option β) : fnK k53 Tryd.f53 [cI.enc n] [] K =
 bif Prod.snd (ofE n) != 0 then K (CV.tup [CV.int IntKind.i64 0, CV.int IntKind.i64 (Prod.snd (ofE n))]) []
 else
 bif decide (Prod.fst (ofE n) < 3) then K (CV.tup [CV.int IntKind.i64 0, CV.int IntKind.i64 3]) []
 else
 K (CV.tup [CV.int IntKind.i64 (IntKind.wrap IntKind.i64 (IntKind.wrap IntKind.i64 (Int.tdiv n 16) + 1)), CV.int IntKind.i64 0]) [] := by kernel_rfl

def runE (n : Int) : Int × Int := bif (ofE n).2 != 0 then (0, (ofE n).2) else bif decide ((ofE n).1 < 3) then (0, 3) else (IntKind.i64.wrap (IntKind.i64.wrap (Int.tdiv n 16) + 1), 0)
def gRun : Callee := g1 cI (fun _ => true) fun n => .tup [cI.enc (runE n).1, cI.enc (runE n).2]

structure Hp where
  w : List Int
  p : List Pg
  f : Ls
  c : List Bool
def encBs (l : List Bool) : List (List CV) := l.map fun b => [.bool b]
def decBs : List (List CV) → Option (List Bool)
  | [] => some []
  | c :: r => match c with
    | [.bool b] => (decBs r).bind fun s => some (b :: s)
    | _ => none
@[simp] theorem decBs_enc : ∀ l, decBs (encBs l) = some l
  | [] => rfl
  | b :: l => by
    show (decBs (encBs l)).bind _ = _
    rw [decBs_enc l]; rfl
theorem decBs_ok : ∀ {L l}, decBs L = some l → L = encBs l
  | [], l, h => by cases h; rfl
  | c :: r, l, h => by
    simp only [decBs] at h
    split at h
    · replace h := bind_some' h
      obtain ⟨s, hs, h⟩ := h
      cases h
      rw [decBs_ok hs]; rfl
    · cases h
def encHp (h : Hp) : List CV := [.sl 1 (encI h.w), .sl 2 (h.p.map encP), .sl 1 (encI h.f.a), .sl 1 (encI h.f.b), .sl 1 (encI h.f.c), .sl 1 (encBs h.c)]
def cHp : Cod Hp where
  enc := fun h => .agg (encHp h)
  dec := fun c => match c with
    | .agg [.sl 1 w, .sl 2 p, .sl 1 a, .sl 1 b, .sl 1 c, .sl 1 d] => (decI w).bind fun w => (decP p).bind fun p => (decI a).bind fun a => (decI b).bind fun b => (decI c).bind fun c => (decBs d).bind fun d => some ⟨w, p, ⟨a, b, c⟩, d⟩
    | _ => none
  ok := fun c p h => by
    split at h
    · replace h := bind_some' h
      obtain ⟨x, hx, h⟩ := h
      replace h := bind_some' h
      obtain ⟨y, hy, h⟩ := h
      replace h := bind_some' h
      obtain ⟨z, hz, h⟩ := h
      replace h := bind_some' h
      obtain ⟨x', hx', h⟩ := h
      replace h := bind_some' h
      obtain ⟨y', hy', h⟩ := h
      replace h := bind_some' h
      obtain ⟨z', hz', h⟩ := h
      cases h
      rw [decI_enc hx, decP_enc hy, decI_enc hz, decI_enc hx', decI_enc hy', decBs_ok hz']
      rfl
    · cases h
  de := fun l => by simp [encHp, decP_map]
def cPg : Cod Pg where
  enc := fun p => .agg (encP p)
  dec := fun c => match c with | .agg [.int .i64 a, .int .i64 b] => some (a, b) | _ => none
  ok := fun c a h => by
    split at h
    · cases h; rfl
    · cases h
  de := fun _ => rfl
noncomputable abbrev k26 : Cx := cxG Pr Tryd.f26 []
set_option maxRecDepth 100000 in
theorem r26 (h : Hp) (a : Int) (β : Type) (K : CV → List (List CV) → Option β) : fnK k26 Tryd.f26 [cHp.enc h, cI.enc a] [] K =
 Option.bind (rdE (encI (Hp.w h)) (IntKind.wrap IntKind.i64 (a - 16))) fun c =>
 Option.bind c[0]? fun x => Option.bind (asI IntKind.i64 x) fun n => K (CV.int IntKind.i64 n) [] := by kernel_rfl

noncomputable abbrev k27 : Cx := cxG Pr Tryd.f27 []
set_option maxRecDepth 100000 in
theorem r27 (h : Hp) (a : Int) (β : Type) (K : CV → List (List CV) → Option β) : fnK k27 Tryd.f27 [cHp.enc h, cI.enc a] [] K =
 Option.bind (rdE (List.map encP (Hp.p h)) (IntKind.wrap IntKind.i64 (IntKind.wrap IntKind.i64 (Int.tdiv a 16) - 1))) fun c =>
 Option.bind c[0]? fun x =>
 Option.bind (asI IntKind.i64 x) fun n =>
 Option.bind c[1]? fun x =>
 Option.bind (asI IntKind.i64 x) fun n_1 => K (CV.agg [CV.int IntKind.i64 n, CV.int IntKind.i64 n_1]) [] := by kernel_rfl

noncomputable abbrev k28 : Cx := cxG Pr Tryd.f28 [(53, gRun), (54, gOf)]
set_option maxRecDepth 100000 in
theorem r28 (p : Pg) (n : Int) (β : Type) (K : CV → List (List CV) → Option β) : fnK k28 Tryd.f28 [cPg.enc p, cI.enc n] [] K =
 bif Prod.fst p == 2 then
 bif Prod.snd (runE n) == 0 then K (CV.bool (Prod.fst (runE n) == Prod.snd p)) [] else K (CV.bool false) []
 else bif Prod.snd (ofE n) == 0 then K (CV.bool (Prod.fst (ofE n) == Prod.snd p)) [] else K (CV.bool false) [] := by kernel_rfl

noncomputable abbrev k23 : Cx := cxG Pr Tryd.f23 [(49, gMayA), (50, gMayP)]
set_option maxRecDepth 100000 in
theorem r23 (h : Hp) (β : Type) (K : CV → List (List CV) → Option β) : fnK k23 Tryd.f23 [cHp.enc h] [] K =
 Option.bind (decI (encI (Hp.w h))) fun a =>
 bif Nat.ble (List.length a) 4000000000 then
 bif mayA (List.length a) then
 Option.bind (decP (List.map encP (Hp.p h))) fun a =>
 bif sm a then
 bif may a then
 bif (↑(List.length (encI (Hp.w h))) : Int) == IntKind.wrap IntKind.i64 (16 * (↑(List.length (List.map encP (Hp.p h))) : Int)) then
 K (CV.bool ((↑(List.length (encBs (Hp.c h))) : Int) == IntKind.wrap IntKind.i64 (Int.tdiv (↑(List.length (encI (Hp.w h))) : Int) 8))) []
 else K (CV.bool false) []
 else K (CV.bool false) []
 else none
 else K (CV.bool false) []
 else none := by kernel_rfl

theorem run_good : GoodC Pr 53 gRun :=
  good1 ((CxOK.baseG (Good.cons of_good Good.nil) GoodI.nil (eqOK_none fun _ => rfl)).sound (cx := k53) Tryd.func53 (by kernel_rfl) (by kernel_rfl) rfl (by kernel_rfl)) fun n _ β K => by
    rw [r53]
    unfold runE
    cases (ofE n).2 != 0 with
    | true => rfl
    | false => cases decide ((ofE n).1 < 3) <;> rfl
def wordE (h : Hp) (a : Int) : Int := h.w.getD (a - 16).toNat 0
def pageE (h : Hp) (a : Int) : Pg := h.p.getD (a / 16 - 1).toNat (0, 0)
def fitsE (p : Pg) (n : Int) : Bool := bif p.1 == 2 then (runE n).2 == 0 && (runE n).1 == p.2 else (ofE n).2 == 0 && (ofE n).1 == p.2
def shapedE (h : Hp) : Bool := mayA h.w.length && (may h.p && (Nat.beq h.w.length (16 * h.p.length) && Nat.beq h.c.length (h.w.length / 8)))
def smH (h : Hp) : Bool := Nat.ble h.w.length 100000 && (sm h.p && (Nat.ble h.c.length 100000 && smL h.f))
/-- An address of a word. -/
def inW (h : Hp) (a : Int) : Bool := smH h && (decide (16 ≤ a) && decide (a < 16 + (h.w.length : Int)))
def inP (h : Hp) (a : Int) : Bool := smH h && (decide (16 ≤ a) && decide (a < 16 + 16 * (h.p.length : Int)))
def gWord : Callee := g2 cHp cI inW fun h a => cI.enc (wordE h a)
def gPage : Callee := g2 cHp cI inP fun h a => cPg.enc (pageE h a)
def gFits : Callee := g2 cPg cI (fun _ _ => true) fun p n => cB.enc (fitsE p n)
def gShaped : Callee := g1 cHp smH fun h => cB.enc (shapedE h)
theorem smH_le {h : Hp} (hh : smH h = true) : h.w.length ≤ 100000 ∧ h.p.length ≤ 200 ∧ h.c.length ≤ 100000 ∧ smL h.f = true := by
  simp only [smH, Bool.and_eq_true] at hh
  exact ⟨Nat.le_of_ble_eq_true hh.1, sm_le hh.2.1, Nat.le_of_ble_eq_true hh.2.2.1, hh.2.2.2⟩
theorem word_good : GoodC Pr 26 gWord :=
  good2 ((CxOK.baseG Good.nil GoodI.nil (eqOK_none fun _ => rfl)).sound (cx := k26) Tryd.func26 (by kernel_rfl) (by kernel_rfl) rfl (by kernel_rfl)) fun h a hp β K => by
    simp only [inW, Bool.and_eq_true, decide_eq_true_eq] at hp
    obtain ⟨hs, h1, h2⟩ := hp
    have hl := (smH_le hs).1
    rw [r26, wrap_in (a := a - 16) (by omega), rdE_nat (by omega)]
    have e1 : (encI h.w)[(a - 16).toNat]? = some [CV.int .i64 (wordE h a)] := by
      have : (a - 16).toNat < h.w.length := by omega
      simp [encI, wordE, this]
    simp only [e1, Option.bind_some, zero_get, asI_i]
    rfl
theorem page_good : GoodC Pr 27 gPage :=
  good2 ((CxOK.baseG Good.nil GoodI.nil (eqOK_none fun _ => rfl)).sound (cx := k27) Tryd.func27 (by kernel_rfl) (by kernel_rfl) rfl (by kernel_rfl)) fun h a hp β K => by
    simp only [inP, Bool.and_eq_true, decide_eq_true_eq] at hp
    obtain ⟨hs, h1, h2⟩ := hp
    have hl := (smH_le hs).2.1
    rw [r27, tdiv_pos (by omega), wrap_in (a := a / 16) (by omega), wrap_in (a := a / 16 - 1) (by omega), rdE_nat (by omega)]
    have e1 : (List.map encP h.p)[(a / 16 - 1).toNat]? = some (encP (pageE h a)) := by
      have : (a / 16 - 1).toNat < h.p.length := by omega
      rw [List.getElem?_map, pageE, List.getD_eq_getElem?_getD, List.getElem?_eq_getElem this]
      rfl
    simp only [e1, Option.bind_some, encP, zero_get, one_get, asI_i]
    rfl
theorem fits_good : GoodC Pr 28 gFits :=
  good2 ((CxOK.baseG (Good.cons run_good (Good.cons of_good Good.nil)) GoodI.nil (eqOK_none fun _ => rfl)).sound (cx := k28) Tryd.func28 (by kernel_rfl) (by kernel_rfl) rfl (by kernel_rfl)) fun p n _ β K => by
    rw [r28]
    unfold fitsE
    cases p.1 == 2 with
    | true => cases (runE n).2 == 0 <;> rfl
    | false => cases (ofE n).2 == 0 <;> rfl
theorem encBs_len (l : List Bool) : (encBs l).length = l.length := by simp [encBs]
theorem beq_nat (a b : Nat) : (((a : Nat) : Int) == ((b : Nat) : Int)) = Nat.beq a b := by
  rw [Bool.eq_iff_iff]; simp; omega
theorem shaped_good : GoodC Pr 23 gShaped :=
  good1 ((CxOK.baseG (Good.cons mayA_good (Good.cons mayP_good Good.nil)) GoodI.nil (eqOK_none fun _ => rfl)).sound (cx := k23) Tryd.func23 (by kernel_rfl) (by kernel_rfl) rfl (by kernel_rfl)) fun h hs β K => by
    obtain ⟨h1, h2, h3, _⟩ := smH_le hs
    rw [r23]
    unfold shapedE
    have e1 : IntKind.i64.wrap (16 * (h.p.length : Int)) = ((16 * h.p.length : Nat) : Int) := by
      rw [wrap_in (by omega)]; omega
    have e2 : IntKind.i64.wrap (Int.tdiv (h.w.length : Int) 8) = ((h.w.length / 8 : Nat) : Int) := wrap_nat (show h.w.length / 8 ≤ 4000000000 by omega)
    simp only [decI_map, Option.bind_some, Nat.ble_eq_true_of_le (show h.w.length ≤ 4000000000 by omega), cond_true, decP_map, sm_of h2, encI_len, List.length_map, e1, e2, encBs_len, beq_nat]
    cases mayA h.w.length with
    | false => rfl
    | true =>
      cases may h.p with
      | false => rfl
      | true => cases Nat.beq h.w.length (16 * h.p.length) <;> rfl
end Go.Ab

namespace Go.Ab
open Go
open Go.Proofs

def cPH : Cod Hp where
  enc := fun h => .pc (encHp h) 0
  dec := fun c => match c with
    | .pc cs o => bif Nat.beq o 0 then cHp.dec (.agg cs) else none
    | _ => none
  ok := fun c p h => by
    split at h
    · rename_i cs o
      cases e : Nat.beq o 0 with
      | false => rw [e] at h; cases h
      | true =>
        rw [e] at h
        have := cHp.ok _ _ h
        rw [Nat.eq_of_beq_eq_true e]
        cases this
        rfl
    · cases h
  de := fun h => cHp.de h
def cPI : Cod Int where
  enc := fun k => .pc [.int .i64 k] 0
  dec := fun c => match c with
    | .pc [.int .i64 k] 0 => some k
    | _ => none
  ok := fun c p h => by
    split at h
    · cases h; rfl
    · cases h
  de := fun _ => rfl
theorem roomH_good : GoodC Pr 39 gRoom := ⟨room_sound, room_nat⟩
noncomputable abbrev k24 : Cx := cxG Pr Tryd.f24 [(26, gWord), (25, gUnp), (27, gPage), (28, gFits)]
noncomputable abbrev k55 : Cx := cxG Pr Tryd.f55 [(39, gRoom), (27, gPage), (26, gWord)] [] (fun _ => false) (fun _ => false) (fun t => Nat.beq t 50)
noncomputable abbrev k45 : Cx := cxG Pr Tryd.f45 [(26, gWord)]
set_option maxRecDepth 100000 in
theorem r24 (a : Int) (h : Hp) (β : Type) (K : CV → List (List CV) → Option β) : fnK k24 Tryd.f24 [cI.enc a, cPH.enc h] [] K =
 Option.bind (Option.bind (decI (encI (Hp.w h))) fun w =>
 Option.bind (decP (List.map encP (Hp.p h))) fun p =>
 Option.bind (decI (encI (Ls.a (Hp.f h)))) fun a =>
 Option.bind (decI (encI (Ls.b (Hp.f h)))) fun b =>
 Option.bind (decI (encI (Ls.c (Hp.f h)))) fun c =>
 Option.bind (decBs (encBs (Hp.c h))) fun d => some { w := w, p := p, f := { a := a, b := b, c := c }, c := d }) fun a_1 =>
 bif inW a_1 a then
 Option.bind (Option.bind (decI (encI (Hp.w h))) fun w =>
 Option.bind (decP (List.map encP (Hp.p h))) fun p =>
 Option.bind (decI (encI (Ls.a (Hp.f h)))) fun a =>
 Option.bind (decI (encI (Ls.b (Hp.f h)))) fun b =>
 Option.bind (decI (encI (Ls.c (Hp.f h)))) fun c =>
 Option.bind (decBs (encBs (Hp.c h))) fun d => some { w := w, p := p, f := { a := a, b := b, c := c }, c := d }) fun a_2 =>
 bif inP a_2 a then
 bif unpOK (wordE a_1 a) then
 bif !Hd.a (bif unpOK (wordE a_1 a) then unp (wordE a_1 a) else Hd.z0) then
 bif Prod.fst (pageE a_2 a) == 1 then K (CV.bool true) []
 else
 bif Hd.a (bif unpOK (wordE a_1 a) then unp (wordE a_1 a) else Hd.z0) then
 K (CV.bool (fitsE (Prod.fst (pageE a_2 a), Prod.snd (pageE a_2 a)) (Hd.x (bif unpOK (wordE a_1 a) then unp (wordE a_1 a) else Hd.z0)))) []
 else K (CV.bool false) []
 else
 bif Hd.a (bif unpOK (wordE a_1 a) then unp (wordE a_1 a) else Hd.z0) then
 K (CV.bool (fitsE (Prod.fst (pageE a_2 a), Prod.snd (pageE a_2 a)) (Hd.x (bif unpOK (wordE a_1 a) then unp (wordE a_1 a) else Hd.z0)))) []
 else K (CV.bool false) []
 else K (CV.bool false) []
 else none
 else none := by kernel_rfl

set_option maxRecDepth 100000 in
theorem r55 (a : Int) (h : Hp) (k : Int) (β : Type) (K : CV → List (List CV) → Option β) : fnK k55 Tryd.f55 [cI.enc a, cPH.enc h, cPI.enc k] [] K =
 Option.bind (decP (List.map encP (Hp.p h))) fun ps =>
 bif Nat.ble (List.length ps) 200 then
 bif decide (roomA ps a > 0) then
 Option.bind (Option.bind (decI (encI (Hp.w h))) fun w =>
 Option.bind (decP (List.map encP (Hp.p h))) fun p =>
 Option.bind (decI (encI (Ls.a (Hp.f h)))) fun a =>
 Option.bind (decI (encI (Ls.b (Hp.f h)))) fun b =>
 Option.bind (decI (encI (Ls.c (Hp.f h)))) fun c =>
 Option.bind (decBs (encBs (Hp.c h))) fun d => some { w := w, p := p, f := { a := a, b := b, c := c }, c := d }) fun a_1 =>
 bif inP a_1 a then
 bif Prod.fst (pageE a_1 a) == 1 && (Prod.snd (pageE a_1 a) == k && true) then
 Option.bind (Option.bind (decI (encI (Hp.w h))) fun w =>
 Option.bind (decP (List.map encP (Hp.p h))) fun p =>
 Option.bind (decI (encI (Ls.a (Hp.f h)))) fun a =>
 Option.bind (decI (encI (Ls.b (Hp.f h)))) fun b =>
 Option.bind (decI (encI (Ls.c (Hp.f h)))) fun c =>
 Option.bind (decBs (encBs (Hp.c h))) fun d => some { w := w, p := p, f := { a := a, b := b, c := c }, c := d }) fun a_2 => bif inW a_2 a then K (CV.bool (wordE a_2 a == 0)) [] else none
 else K (CV.bool false) []
 else none
 else K (CV.bool false) []
 else none := by kernel_rfl

set_option maxRecDepth 100000 in
theorem r45 (a : Int) (h : Hp) (β : Type) (K : CV → List (List CV) → Option β) : fnK k45 Tryd.f45 [cI.enc a, cPH.enc h] [] K =
 Option.bind (Option.bind (decI (encI (Hp.w h))) fun w =>
 Option.bind (decP (List.map encP (Hp.p h))) fun p =>
 Option.bind (decI (encI (Ls.a (Hp.f h)))) fun a =>
 Option.bind (decI (encI (Ls.b (Hp.f h)))) fun b =>
 Option.bind (decI (encI (Ls.c (Hp.f h)))) fun c =>
 Option.bind (decBs (encBs (Hp.c h))) fun d => some { w := w, p := p, f := { a := a, b := b, c := c }, c := d }) fun a_1 => bif inW a_1 a then K (CV.bool (wordE a_1 a == 0)) [] else none := by kernel_rfl

def mayV (h : Hp) (a : Int) : Bool := unpOK (wordE h a) && bif (unp (wordE h a)).a then fitsE (pageE h a) (unp (wordE h a)).x else (pageE h a).1 == 1
def listV (h : Hp) (k a : Int) : Bool := decide (roomA h.p a > 0) && (((pageE h a).1 == 1 && (pageE h a).2 == k) && wordE h a == 0)
def usedV (h : Hp) (a : Int) : Bool := wordE h a == 0
def gMay1 : Callee := g2 cI cPH (fun a h => inW h a && inP h a) fun a h => cB.enc (mayV h a)
def gListed1 : Callee := g3 cI cPH cPI (fun _ h _ => smH h && shapedE h) fun a h k => cB.enc (listV h k a)
def gUsed1 : Callee := g2 cI cPH (fun a h => inW h a) fun a h => cB.enc (usedV h a)
theorem may1_good : GoodC Pr 24 gMay1 :=
  good2 ((CxOK.baseG (Good.cons word_good (Good.cons unp_good (Good.cons page_good (Good.cons fits_good Good.nil)))) GoodI.nil (eqOK_none fun _ => rfl)).sound (cx := k24) Tryd.func24 (by kernel_rfl) (by kernel_rfl) rfl (by kernel_rfl)) fun a h hp β K => by
    simp only [Bool.and_eq_true] at hp
    refine (r24 a h β K).trans ?_
    have e : (⟨h.w, h.p, ⟨h.f.a, h.f.b, h.f.c⟩, h.c⟩ : Hp) = h := rfl
    simp only [decI_map, decP_map, decBs_enc, Option.bind_some, e, hp.1, hp.2, cond_true]
    unfold mayV
    cases hu : unpOK (wordE h a) with
    | false => rfl
    | true =>
      simp only [cond_true, Bool.true_and]
      cases (unp (wordE h a)).a with
      | true => rfl
      | false => cases (pageE h a).1 == 1 <;> rfl
theorem used1_good : GoodC Pr 45 gUsed1 :=
  good2 ((CxOK.baseG (Good.cons word_good Good.nil) GoodI.nil (eqOK_none fun _ => rfl)).sound (cx := k45) Tryd.func45 (by kernel_rfl) (by kernel_rfl) rfl (by kernel_rfl)) fun a h hp β K => by
    refine (r45 a h β K).trans ?_
    have e : (⟨h.w, h.p, ⟨h.f.a, h.f.b, h.f.c⟩, h.c⟩ : Hp) = h := rfl
    simp only [decI_map, decP_map, decBs_enc, Option.bind_some, e, hp, cond_true]
    rfl
theorem room_in {ps : List Pg} {a : Int} (h : roomA ps a > 0) : 16 ≤ a ∧ a < 16 + 16 * (ps.length : Int) := by
  have h1 := room_pos ps a
  rw [decide_eq_true h] at h1
  have h2 := of_decide_eq_true h1.symm
  have h3 := allCs_rises ps
  have h4 : ∀ (l : List Int) (lo hi : Int), rises lo hi l → a ∈ l → lo ≤ a ∧ a < hi := by
    intro l
    induction l with
    | nil => intro lo hi _ h; cases h
    | cons x l ih =>
      rintro lo hi ⟨g1, g2, g3⟩ h
      rcases List.mem_cons.1 h with rfl | h
      · exact ⟨g1, g2⟩
      · have := ih _ _ g3 h
        omega
  have := h4 _ _ _ h3 h2
  omega
theorem shaped_in {h : Hp} (hs : smH h = true) (hh : shapedE h = true) {a : Int} (h1 : 16 ≤ a) (h2 : a < 16 + 16 * (h.p.length : Int)) : inW h a = true ∧ inP h a = true := by
  simp only [shapedE, Bool.and_eq_true] at hh
  have := Nat.eq_of_beq_eq_true hh.2.2.1
  simp only [inW, inP, hs, Bool.true_and, Bool.and_eq_true, decide_eq_true_eq]
  omega
theorem listed1_good : GoodC Pr 55 gListed1 :=
  good3 ((CxOK.baseG (Good.cons roomH_good (Good.cons page_good (Good.cons word_good Good.nil))) GoodI.nil (eqOK_page rfl rfl)).sound (cx := k55) Tryd.func55 (by kernel_rfl) (by kernel_rfl) rfl (by kernel_rfl)) fun a h k hp β K => by
    simp only [Bool.and_eq_true] at hp
    refine (r55 a h k β K).trans ?_
    have e : (⟨h.w, h.p, ⟨h.f.a, h.f.b, h.f.c⟩, h.c⟩ : Hp) = h := rfl
    simp only [decI_map, decP_map, decBs_enc, Option.bind_some, e, Nat.ble_eq_true_of_le (smH_le hp.1).2.1, cond_true]
    unfold listV
    by_cases hr : roomA h.p a > 0
    · obtain ⟨g1, g2⟩ := room_in hr
      obtain ⟨q1, q2⟩ := shaped_in hp.1 hp.2 g1 g2
      simp only [decide_eq_true hr, cond_true, q1, q2, Bool.and_true, Bool.true_and]
      cases (pageE h a).1 == 1 && (pageE h a).2 == k <;> rfl
    · rw [decide_eq_false hr]; rfl

def cPM : Cod (List Int) where
  enc := fun ks => .pc [.mp ks] 0
  dec := fun c => match c with | .pc [.mp ks] 0 => some ks | _ => none
  ok := fun c a h => by
    split at h
    · cases h; rfl
    · cases h
  de := fun _ => rfl
noncomputable abbrev k37 : Cx := cxG Pr Tryd.f37 [(26, gWord)]
set_option maxRecDepth 100000 in
theorem r37 (a : Int) (h : Hp) (ks : List Int) (β : Type) (K : CV → List (List CV) → Option β) : fnK k37 Tryd.f37 [cI.enc a, cPH.enc h, cPM.enc ks] [] K =
 Option.bind (Option.bind (decI (encI (Hp.w h))) fun w =>
 Option.bind (decP (List.map encP (Hp.p h))) fun p =>
 Option.bind (decI (encI (Ls.a (Hp.f h)))) fun a =>
 Option.bind (decI (encI (Ls.b (Hp.f h)))) fun b =>
 Option.bind (decI (encI (Ls.c (Hp.f h)))) fun c =>
 Option.bind (decBs (encBs (Hp.c h))) fun d => some { w := w, p := p, f := { a := a, b := b, c := c }, c := d }) fun a_1 =>
 bif inW a_1 a then bif wordE a_1 a != 0 then K (CV.bool true) [] else K (CV.bool (List.contains ks a)) [] else none := by kernel_rfl

def wholeV (h : Hp) (ks : List Int) (a : Int) : Bool := bif wordE h a != 0 then true else ks.contains a
def gWhole1 : Callee := g3 cI cPH cPM (fun a h _ => inW h a) fun a h ks => cB.enc (wholeV h ks a)
theorem whole1_good : GoodC Pr 37 gWhole1 :=
  good3 ((CxOK.baseG (Good.cons word_good Good.nil) GoodI.nil (eqOK_none fun _ => rfl)).sound (cx := k37) Tryd.func37 (by kernel_rfl) (by kernel_rfl) rfl (by kernel_rfl)) fun a h ks hp β K => by
    have e : (⟨h.w, h.p, ⟨h.f.a, h.f.b, h.f.c⟩, h.c⟩ : Hp) = h := rfl
    rw [r37]
    simp only [decI_map, decP_map, decBs_enc, Option.bind_some, e, hp, cond_true]
    unfold wholeV
    cases wordE h a != 0 <;> rfl
/-- What is handed on. -/
inductive Clo where
  | may (h : Hp)
  | list (h : Hp) (k : Int)
  | whole (h : Hp) (ks : List Int)
def Clo.val : Clo → Int → Bool
  | .may h, a => mayV h a
  | .list h k, a => listV h k a
  | .whole h ks, a => wholeV h ks a
def Clo.pre : Clo → Int → Bool
  | .may h, a => inW h a && inP h a
  | .list h _, _ => smH h && shapedE h
  | .whole h _, a => inW h a
def Clo.enc : Clo → CV
  | .may h => .fn 24 [] [cPH.enc h]
  | .list h k => .fn 55 [] [cPH.enc h, cPI.enc k]
  | .whole h ks => .fn 37 [] [cPH.enc h, cPM.enc ks]
def Clo.dec : CV → Option Clo
  | .fn f [] caps => bif Nat.beq f 24 then (match caps with | [x] => (cPH.dec x).map .may | _ => none)
      else bif Nat.beq f 55 then (match caps with | [x, y] => (cPH.dec x).bind fun h => (cPI.dec y).map fun k => .list h k | _ => none)
      else bif Nat.beq f 37 then (match caps with | [x, y] => (cPH.dec x).bind fun h => (cPM.dec y).map fun k => .whole h k | _ => none) else none
  | _ => none
theorem Clo.ok : ∀ c a, Clo.dec c = some a → c = a.enc := fun c a h => by
  unfold Clo.dec at h
  split at h
  · rename_i f caps
    cases e1 : Nat.beq f 24 with
    | true =>
      rw [e1] at h
      simp only [cond_true] at h
      split at h
      · rename_i x
        cases hx : cPH.dec x with
        | none => rw [hx] at h; cases h
        | some y => rw [hx] at h; cases h; rw [Nat.eq_of_beq_eq_true e1, cPH.ok _ _ hx]; rfl
      · cases h
    | false =>
      rw [e1] at h
      cases e2 : Nat.beq f 55 with
      | true =>
        rw [e2] at h
        simp only [cond_true, cond_false] at h
        split at h
        · rename_i x y
          replace h := bind_some' h
          obtain ⟨p, hx, h⟩ := h
          cases hy : cPI.dec y with
          | none => rw [hy] at h; cases h
          | some z => rw [hy] at h; cases h; rw [Nat.eq_of_beq_eq_true e2, cPH.ok _ _ hx, cPI.ok _ _ hy]; rfl
        · cases h
      | false =>
        rw [e2] at h
        cases e3 : Nat.beq f 37 with
        | true =>
          rw [e3] at h
          simp only [cond_true, cond_false] at h
          split at h
          · rename_i x y
            replace h := bind_some' h
            obtain ⟨p, hx, h⟩ := h
            cases hy : cPM.dec y with
            | none => rw [hy] at h; cases h
            | some z => rw [hy] at h; cases h; rw [Nat.eq_of_beq_eq_true e3, cPH.ok _ _ hx, cPM.ok _ _ hy]; rfl
          · cases h
        | false => rw [e3] at h; cases h
  · cases h
theorem Clo.de : ∀ a : Clo, Clo.dec a.enc = some a
  | .may h => by
    show (cPH.dec (cPH.enc h)).map Clo.may = _
    rw [cPH.de]; rfl
  | .list h k => by
    show ((cPH.dec (cPH.enc h)).bind fun h => (cPI.dec (cPI.enc k)).map fun k => Clo.list h k) = _
    rw [cPH.de, cPI.de]; rfl
  | .whole h ks => by
    show ((cPH.dec (cPH.enc h)).bind fun h => (cPM.dec (cPM.enc ks)).map fun k => Clo.whole h k) = _
    rw [cPH.de, cPM.de]; rfl
/-- A function in a box. -/
def cPC : Cod Clo where
  enc := fun c => .pc [c.enc] 0
  dec := fun c => match c with | .pc [x] 0 => Clo.dec x | _ => none
  ok := fun c a h => by
    split at h
    · rw [Clo.ok _ _ h]
    · cases h
  de := fun a => Clo.de a
/-- heap.every's function. -/
def cEv : Cod Clo where
  enc := fun c => .fn 57 [] [.pc [c.enc] 0]
  dec := fun c => match c with | .fn f [] [.pc [x] 0] => bif Nat.beq f 57 then Clo.dec x else none | _ => none
  ok := fun c a h => by
    split at h
    · rename_i f x
      cases e : Nat.beq f 57 with
      | true => rw [e] at h; rw [Nat.eq_of_beq_eq_true e, Clo.ok _ _ h]
      | false => rw [e] at h; cases h
    · cases h
  de := fun a => Clo.de a
def cClo : Cod Clo := ⟨Clo.enc, Clo.dec, Clo.ok, Clo.de⟩
def gEvery1 : Callee := g2 cI cPC (fun a c => c.pre a) fun a c => cB.enc (!c.val a)
noncomputable abbrev k57 : Cx := cxG Pr Tryd.f57 [(24, gMay1), (55, gListed1), (37, gWhole1)]
set_option maxRecDepth 100000 in
theorem r57a (a : Int) (h : Hp) (β : Type) (K : CV → List (List CV) → Option β) : fnK k57 Tryd.f57 [cI.enc a, cPC.enc (.may h)] [] K =
 Option.bind (Option.bind (decI (encI (Hp.w h))) fun w =>
 Option.bind (decP (List.map encP (Hp.p h))) fun p =>
 Option.bind (decI (encI (Ls.a (Hp.f h)))) fun a =>
 Option.bind (decI (encI (Ls.b (Hp.f h)))) fun b =>
 Option.bind (decI (encI (Ls.c (Hp.f h)))) fun c =>
 Option.bind (decBs (encBs (Hp.c h))) fun d => some { w := w, p := p, f := { a := a, b := b, c := c }, c := d }) fun b => bif inW b a && inP b a then K (CV.bool !mayV b a) [] else none := by kernel_rfl

set_option maxRecDepth 100000 in
theorem r57b (a : Int) (h : Hp) (k : Int) (β : Type) (K : CV → List (List CV) → Option β) : fnK k57 Tryd.f57 [cI.enc a, cPC.enc (.list h k)] [] K =
 Option.bind (Option.bind (decI (encI (Hp.w h))) fun w =>
 Option.bind (decP (List.map encP (Hp.p h))) fun p =>
 Option.bind (decI (encI (Ls.a (Hp.f h)))) fun a =>
 Option.bind (decI (encI (Ls.b (Hp.f h)))) fun b =>
 Option.bind (decI (encI (Ls.c (Hp.f h)))) fun c =>
 Option.bind (decBs (encBs (Hp.c h))) fun d => some { w := w, p := p, f := { a := a, b := b, c := c }, c := d }) fun b => bif smH b && shapedE b then K (CV.bool !listV b k a) [] else none := by kernel_rfl

set_option maxRecDepth 100000 in
theorem r57c (a : Int) (h : Hp) (ks : List Int) (β : Type) (K : CV → List (List CV) → Option β) : fnK k57 Tryd.f57 [cI.enc a, cPC.enc (.whole h ks)] [] K =
 Option.bind (Option.bind (decI (encI (Hp.w h))) fun w =>
 Option.bind (decP (List.map encP (Hp.p h))) fun p =>
 Option.bind (decI (encI (Ls.a (Hp.f h)))) fun a =>
 Option.bind (decI (encI (Ls.b (Hp.f h)))) fun b =>
 Option.bind (decI (encI (Ls.c (Hp.f h)))) fun c =>
 Option.bind (decBs (encBs (Hp.c h))) fun d => some { w := w, p := p, f := { a := a, b := b, c := c }, c := d }) fun b => bif inW b a then K (CV.bool !wholeV b ks a) [] else none := by kernel_rfl

theorem every1_good : GoodC Pr 57 gEvery1 :=
  good2 ((CxOK.baseG (Good.cons may1_good (Good.cons listed1_good (Good.cons whole1_good Good.nil))) GoodI.nil (eqOK_none fun _ => rfl)).sound (cx := k57) Tryd.func57 (by kernel_rfl) (by kernel_rfl) rfl (by kernel_rfl)) fun a c hp β K => by
    cases c with
    | may h =>
      refine (r57a a h β K).trans ?_
      have e : (⟨h.w, h.p, ⟨h.f.a, h.f.b, h.f.c⟩, h.c⟩ : Hp) = h := rfl
      have hp : (inW h a && inP h a) = true := hp
      simp only [decI_map, decP_map, decBs_enc, Option.bind_some, e, hp, cond_true]
      rfl
    | list h k =>
      refine (r57b a h k β K).trans ?_
      have e : (⟨h.w, h.p, ⟨h.f.a, h.f.b, h.f.c⟩, h.c⟩ : Hp) = h := rfl
      have hp : (smH h && shapedE h) = true := hp
      simp only [decI_map, decP_map, decBs_enc, Option.bind_some, e, hp, cond_true]
      rfl
    | whole h ks =>
      refine (r57c a h ks β K).trans ?_
      have e : (⟨h.w, h.p, ⟨h.f.a, h.f.b, h.f.c⟩, h.c⟩ : Hp) = h := rfl
      have hp : inW h a = true := hp
      simp only [decI_map, decP_map, decBs_enc, Option.bind_some, e, hp, cond_true]
      rfl
abbrev o73 : Exit → List Nat := fun | .ret => [4] | _ => []
abbrev p73 := [false, true, false, true]
def badI (c : Clo) (xs : List Int) : Option Nat := xs.findIdx? fun x => !c.val x
def L73 : LoopSem := l4 [0, 1, 7, 8] o73 cIs cEv cI cI c0 (fun xs c n i _ => xs.all c.pre && (Nat.ble xs.length 100000 && (i == 0 && n == (xs.length : Int))))
  fun xs c _ _ _ => .alt (badI c xs).isSome (.one .ret [cI.enc (((badI c xs).getD 0 : Nat) : Int)] []) (.one (.exit 0) [] [])
noncomputable abbrev k73a : Cx := cxG Pr Tryd.f73 [(57, gEvery1)]
noncomputable abbrev k73 : Cx := k73a.loop p73 L73
set_option maxRecDepth 100000 in
theorem t73x (xs : List Int) (h : Hp) (n i : Int) (m : Nat) (β : Type) (K : Exit → List CV → List (List CV) → Option β) : loopB k73a [0, 1, 7, 8] o73 p73 (bodyL (bodyOf Tryd.f73) p73) (m + 1) [cIs.enc xs, cEv.enc (.may h), cI.enc n, cI.enc i] [] K =
 bif decide (i < n) then
 Option.bind (rdE (encI xs) i) fun c =>
 Option.bind c[0]? fun x =>
 Option.bind (asI IntKind.i64 x) fun n_1 =>
 Option.bind (Clo.dec (CV.fn 24 [] [CV.pc [CV.sl 1 (encI (Hp.w h)), CV.sl 2 (List.map encP (Hp.p h)), CV.sl 1 (encI (Ls.a (Hp.f h))), CV.sl 1 (encI (Ls.b (Hp.f h))), CV.sl 1 (encI (Ls.c (Hp.f h))), CV.sl 1 (encBs (Hp.c h))] 0])) fun b =>
 bif Clo.pre b n_1 then
 bif !Clo.val b n_1 then K Exit.ret [CV.int IntKind.i64 i] []
 else loopB k73a [0, 1, 7, 8] o73 [false, true, false, true] (bodyL (bodyOf Tryd.f73) p73) m [CV.sl 1 (encI xs), CV.fn 57 [] [CV.pc [CV.fn 24 [] [CV.pc [CV.sl 1 (encI (Hp.w h)), CV.sl 2 (List.map encP (Hp.p h)), CV.sl 1 (encI (Ls.a (Hp.f h))), CV.sl 1 (encI (Ls.b (Hp.f h))), CV.sl 1 (encI (Ls.c (Hp.f h))), CV.sl 1 (encBs (Hp.c h))] 0]] 0], CV.int IntKind.i64 n, CV.int IntKind.i64 (IntKind.wrap IntKind.i64 (i + 1))] [] fun a a_1 a_2 => K a a_1 a_2
 else none
 else K (Exit.exit 0) [] [] := by kernel_rfl

set_option maxRecDepth 100000 in
theorem t73y (xs : List Int) (h : Hp) (k n i : Int) (m : Nat) (β : Type) (K : Exit → List CV → List (List CV) → Option β) : loopB k73a [0, 1, 7, 8] o73 p73 (bodyL (bodyOf Tryd.f73) p73) (m + 1) [cIs.enc xs, cEv.enc (.list h k), cI.enc n, cI.enc i] [] K =
 bif decide (i < n) then
 Option.bind (rdE (encI xs) i) fun c =>
 Option.bind c[0]? fun x =>
 Option.bind (asI IntKind.i64 x) fun n_1 =>
 Option.bind (Clo.dec (CV.fn 55 [] [CV.pc [CV.sl 1 (encI (Hp.w h)), CV.sl 2 (List.map encP (Hp.p h)), CV.sl 1 (encI (Ls.a (Hp.f h))), CV.sl 1 (encI (Ls.b (Hp.f h))), CV.sl 1 (encI (Ls.c (Hp.f h))), CV.sl 1 (encBs (Hp.c h))] 0, CV.pc [CV.int IntKind.i64 k] 0])) fun b =>
 bif Clo.pre b n_1 then
 bif !Clo.val b n_1 then K Exit.ret [CV.int IntKind.i64 i] []
 else loopB k73a [0, 1, 7, 8] o73 [false, true, false, true] (bodyL (bodyOf Tryd.f73) p73) m [CV.sl 1 (encI xs), CV.fn 57 [] [CV.pc [CV.fn 55 [] [CV.pc [CV.sl 1 (encI (Hp.w h)), CV.sl 2 (List.map encP (Hp.p h)), CV.sl 1 (encI (Ls.a (Hp.f h))), CV.sl 1 (encI (Ls.b (Hp.f h))), CV.sl 1 (encI (Ls.c (Hp.f h))), CV.sl 1 (encBs (Hp.c h))] 0, CV.pc [CV.int IntKind.i64 k] 0]] 0], CV.int IntKind.i64 n, CV.int IntKind.i64 (IntKind.wrap IntKind.i64 (i + 1))] [] fun a a_1 a_2 => K a a_1 a_2
 else none
 else K (Exit.exit 0) [] [] := by kernel_rfl

set_option maxRecDepth 100000 in
theorem t73z (xs : List Int) (h : Hp) (ks : List Int) (n i : Int) (m : Nat) (β : Type) (K : Exit → List CV → List (List CV) → Option β) : loopB k73a [0, 1, 7, 8] o73 p73 (bodyL (bodyOf Tryd.f73) p73) (m + 1) [cIs.enc xs, cEv.enc (.whole h ks), cI.enc n, cI.enc i] [] K =
 bif decide (i < n) then
 Option.bind (rdE (encI xs) i) fun c =>
 Option.bind c[0]? fun x =>
 Option.bind (asI IntKind.i64 x) fun n_1 =>
 Option.bind (Clo.dec (CV.fn 37 [] [CV.pc [CV.sl 1 (encI (Hp.w h)), CV.sl 2 (List.map encP (Hp.p h)), CV.sl 1 (encI (Ls.a (Hp.f h))), CV.sl 1 (encI (Ls.b (Hp.f h))), CV.sl 1 (encI (Ls.c (Hp.f h))), CV.sl 1 (encBs (Hp.c h))] 0, CV.pc [CV.mp ks] 0])) fun b =>
 bif Clo.pre b n_1 then
 bif !Clo.val b n_1 then K Exit.ret [CV.int IntKind.i64 i] []
 else loopB k73a [0, 1, 7, 8] o73 [false, true, false, true] (bodyL (bodyOf Tryd.f73) p73) m [CV.sl 1 (encI xs), CV.fn 57 [] [CV.pc [CV.fn 37 [] [CV.pc [CV.sl 1 (encI (Hp.w h)), CV.sl 2 (List.map encP (Hp.p h)), CV.sl 1 (encI (Ls.a (Hp.f h))), CV.sl 1 (encI (Ls.b (Hp.f h))), CV.sl 1 (encI (Ls.c (Hp.f h))), CV.sl 1 (encBs (Hp.c h))] 0, CV.pc [CV.mp ks] 0]] 0], CV.int IntKind.i64 n, CV.int IntKind.i64 (IntKind.wrap IntKind.i64 (i + 1))] [] fun a a_1 a_2 => K a a_1 a_2
 else none
 else K (Exit.exit 0) [] [] := by kernel_rfl

set_option maxRecDepth 100000 in
theorem r73x (xs : List Int) (h : Hp) (β : Type) (K : CV → List (List CV) → Option β) : fnK k73 Tryd.f73 [cIs.enc xs, cEv.enc (.may h)] [] K =
 Option.bind (decI (encI xs)) fun a =>
 Option.bind (Clo.dec (CV.fn 24 [] [CV.pc [CV.sl 1 (encI (Hp.w h)), CV.sl 2 (List.map encP (Hp.p h)), CV.sl 1 (encI (Ls.a (Hp.f h))), CV.sl 1 (encI (Ls.b (Hp.f h))), CV.sl 1 (encI (Ls.c (Hp.f h))), CV.sl 1 (encBs (Hp.c h))] 0])) fun b =>
 bif List.all a (Clo.pre b) && (Nat.ble (List.length a) 100000 && (↑(List.length (encI xs)) : Int) == (↑(List.length a) : Int)) then
 bif Option.isSome (badI b a) then K (CV.int IntKind.i64 (↑(Option.getD (badI b a) 0) : Int)) []
 else K (CV.int IntKind.i64 (Int.negSucc 0)) []
 else none := by kernel_rfl

set_option maxRecDepth 100000 in
theorem r73y (xs : List Int) (h : Hp) (k : Int) (β : Type) (K : CV → List (List CV) → Option β) : fnK k73 Tryd.f73 [cIs.enc xs, cEv.enc (.list h k)] [] K =
 Option.bind (decI (encI xs)) fun a =>
 Option.bind (Clo.dec (CV.fn 55 [] [CV.pc [CV.sl 1 (encI (Hp.w h)), CV.sl 2 (List.map encP (Hp.p h)), CV.sl 1 (encI (Ls.a (Hp.f h))), CV.sl 1 (encI (Ls.b (Hp.f h))), CV.sl 1 (encI (Ls.c (Hp.f h))), CV.sl 1 (encBs (Hp.c h))] 0, CV.pc [CV.int IntKind.i64 k] 0])) fun b =>
 bif List.all a (Clo.pre b) && (Nat.ble (List.length a) 100000 && (↑(List.length (encI xs)) : Int) == (↑(List.length a) : Int)) then
 bif Option.isSome (badI b a) then K (CV.int IntKind.i64 (↑(Option.getD (badI b a) 0) : Int)) []
 else K (CV.int IntKind.i64 (Int.negSucc 0)) []
 else none := by kernel_rfl

set_option maxRecDepth 100000 in
theorem r73z (xs : List Int) (h : Hp) (ks : List Int) (β : Type) (K : CV → List (List CV) → Option β) : fnK k73 Tryd.f73 [cIs.enc xs, cEv.enc (.whole h ks)] [] K =
 Option.bind (decI (encI xs)) fun a =>
 Option.bind (Clo.dec (CV.fn 37 [] [CV.pc [CV.sl 1 (encI (Hp.w h)), CV.sl 2 (List.map encP (Hp.p h)), CV.sl 1 (encI (Ls.a (Hp.f h))), CV.sl 1 (encI (Ls.b (Hp.f h))), CV.sl 1 (encI (Ls.c (Hp.f h))), CV.sl 1 (encBs (Hp.c h))] 0, CV.pc [CV.mp ks] 0])) fun b =>
 bif List.all a (Clo.pre b) && (Nat.ble (List.length a) 100000 && (↑(List.length (encI xs)) : Int) == (↑(List.length a) : Int)) then
 bif Option.isSome (badI b a) then K (CV.int IntKind.i64 (↑(Option.getD (badI b a) 0) : Int)) []
 else K (CV.int IntKind.i64 (Int.negSucc 0)) []
 else none := by kernel_rfl

theorem de_may (h : Hp) : Clo.dec (CV.fn 24 [] [CV.pc [CV.sl 1 (encI (Hp.w h)), CV.sl 2 (List.map encP (Hp.p h)), CV.sl 1 (encI (Ls.a (Hp.f h))), CV.sl 1 (encI (Ls.b (Hp.f h))), CV.sl 1 (encI (Ls.c (Hp.f h))), CV.sl 1 (encBs (Hp.c h))] 0]) = some (.may h) := Clo.de (.may h)
theorem de_list (h : Hp) (k : Int) : Clo.dec (CV.fn 55 [] [CV.pc [CV.sl 1 (encI (Hp.w h)), CV.sl 2 (List.map encP (Hp.p h)), CV.sl 1 (encI (Ls.a (Hp.f h))), CV.sl 1 (encI (Ls.b (Hp.f h))), CV.sl 1 (encI (Ls.c (Hp.f h))), CV.sl 1 (encBs (Hp.c h))] 0, CV.pc [CV.int IntKind.i64 k] 0]) = some (.list h k) := Clo.de (.list h k)
theorem de_whole (h : Hp) (ks : List Int) : Clo.dec (CV.fn 37 [] [CV.pc [CV.sl 1 (encI (Hp.w h)), CV.sl 2 (List.map encP (Hp.p h)), CV.sl 1 (encI (Ls.a (Hp.f h))), CV.sl 1 (encI (Ls.b (Hp.f h))), CV.sl 1 (encI (Ls.c (Hp.f h))), CV.sl 1 (encBs (Hp.c h))] 0, CV.pc [CV.mp ks] 0]) = some (.whole h ks) := Clo.de (.whole h ks)
theorem t73 (xs : List Int) (c : Clo) (n i : Int) (m : Nat) (β : Type) (K : Exit → List CV → List (List CV) → Option β) : loopB k73a [0, 1, 7, 8] o73 p73 (bodyL (bodyOf Tryd.f73) p73) (m + 1) [cIs.enc xs, cEv.enc c, cI.enc n, cI.enc i] [] K =
    bif decide (i < n) then
      Option.bind (rdE (encI xs) i) fun e => Option.bind e[0]? fun x => Option.bind (asI IntKind.i64 x) fun a =>
        bif c.pre a then bif !c.val a then K .ret [cI.enc i] [] else loopB k73a [0, 1, 7, 8] o73 p73 (bodyL (bodyOf Tryd.f73) p73) m [cIs.enc xs, cEv.enc c, cI.enc n, cI.enc (IntKind.i64.wrap (i + 1))] [] K else none
    else K (.exit 0) [] [] := by
  cases c with
  | may h => refine (t73x xs h n i m β K).trans ?_; simp only [de_may, Option.bind_some]; rfl
  | list h k => refine (t73y xs h k n i m β K).trans ?_; simp only [de_list, Option.bind_some]; rfl
  | whole h ks => refine (t73z xs h ks n i m β K).trans ?_; simp only [de_whole, Option.bind_some]; rfl
theorem index_loop (c : Clo) (xs : List Int) (hx : xs.length ≤ 100000) (hc : xs.all c.pre = true) (β : Type) (K : Exit → List CV → List (List CV) → Option β) : ∀ (m i : Nat), i + m = xs.length →
    loopB k73a [0, 1, 7, 8] o73 p73 (bodyL (bodyOf Tryd.f73) p73) (m + 1) [cIs.enc xs, cEv.enc c, cI.enc (xs.length : Int), cI.enc (i : Int)] [] K =
      bif (badI c (xs.drop i)).isSome then K .ret [cI.enc (((i + (badI c (xs.drop i)).getD 0 : Nat)) : Int)] [] else K (.exit 0) [] [] := by
  intro m
  induction m with
  | zero =>
    intro i h1
    rw [t73, decide_eq_false (by omega), cond_false, List.drop_eq_nil_of_le (by omega)]
    rfl
  | succ m ih =>
    intro i h1
    have hii : i < xs.length := by omega
    rw [t73, decide_eq_true (by omega), cond_true, List.drop_eq_getElem_cons hii, rdE_nat (by omega)]
    have e1 : (encI xs)[(i : Int).toNat]? = some [CV.int .i64 xs[i]] := by simp [encI, hii]
    have e2 : c.pre xs[i] = true := List.all_eq_true.1 hc _ (List.getElem_mem hii)
    simp only [e1, Option.bind_some, zero_get, asI_i, show (i : Int) + 1 = ((i + 1 : Nat) : Int) by omega, wrap_in (a := ((i + 1 : Nat) : Int)) (by omega), e2, cond_true]
    have e3 : badI c (xs[i] :: xs.drop (i + 1)) = bif !c.val xs[i] then some 0 else (badI c (xs.drop (i + 1))).map (· + 1) := by
      unfold badI
      rw [List.findIdx?_cons]
      cases !c.val xs[i] <;> rfl
    rw [e3]
    cases !c.val xs[i] with
    | true => rfl
    | false =>
      rw [cond_false, cond_false, ih (i + 1) (by omega)]
      cases badI c (xs.drop (i + 1)) with
      | none => rfl
      | some j =>
        simp only [Option.map_some, Option.isSome_some, Option.getD_some, cond_true]
        rw [show i + 1 + j = i + (j + 1) by omega]
theorem k73_ok : CxOK k73 [(57, gEvery1)] := by
  refine CxOK.loop4 (CxOK.baseG (Good.cons every1_good Good.nil) GoodI.nil (eqOK_none fun _ => rfl)) rfl fun xs c n i u hp => ?_
  simp only [Bool.and_eq_true, beq_iff_eq] at hp
  obtain ⟨hc, hx, hi, hn⟩ := hp
  have hx := Nat.le_of_ble_eq_true hx
  subst hi hn
  refine ⟨xs.length + 1, fun β K => ?_⟩
  have := index_loop c xs hx hc β K xs.length 0 (by omega)
  rw [List.drop_zero, Nat.zero_add] at this
  exact this
def gIndex : Callee := g2 cIs cEv (fun xs c => xs.all c.pre && Nat.ble xs.length 100000) fun xs c => cI.enc (bif (badI c xs).isSome then (((badI c xs).getD 0 : Nat) : Int) else -1)
theorem index_good : GoodC Pr 73 gIndex :=
  good2 (k73_ok.sound (cx := k73) Tryd.func73 (by kernel_rfl) (by kernel_rfl) rfl (by kernel_rfl)) fun xs c hp β K => by
    cases c with
    | may h =>
      refine (r73x xs h β K).trans ?_
      simp only [de_may, decI_map, Option.bind_some, encI_len, beq_self_eq_true, Bool.and_true, hp, cond_true]
      cases (badI (.may h) xs).isSome <;> rfl
    | list h k =>
      refine (r73y xs h k β K).trans ?_
      simp only [de_list, decI_map, Option.bind_some, encI_len, beq_self_eq_true, Bool.and_true, hp, cond_true]
      cases (badI (.list h k) xs).isSome <;> rfl
    | whole h ks =>
      refine (r73z xs h ks β K).trans ?_
      simp only [de_whole, decI_map, Option.bind_some, encI_len, beq_self_eq_true, Bool.and_true, hp, cond_true]
      cases (badI (.whole h ks) xs).isSome <;> rfl
noncomputable abbrev k56 : Cx := cxG Pr Tryd.f56 [(73, gIndex)]
set_option maxRecDepth 100000 in
theorem r56x (xs : List Int) (h : Hp) (β : Type) (K : CV → List (List CV) → Option β) : fnK k56 Tryd.f56 [cIs.enc xs, cEv.enc (.may h)] [] K =
 Option.bind (decI (encI xs)) fun a =>
 Option.bind (Clo.dec (CV.fn 24 [] [CV.pc [CV.sl 1 (encI (Hp.w h)), CV.sl 2 (List.map encP (Hp.p h)), CV.sl 1 (encI (Ls.a (Hp.f h))), CV.sl 1 (encI (Ls.b (Hp.f h))), CV.sl 1 (encI (Ls.c (Hp.f h))), CV.sl 1 (encBs (Hp.c h))] 0])) fun b =>
 bif List.all a (Clo.pre b) && Nat.ble (List.length a) 100000 then
 K (CV.bool (decide ((bif Option.isSome (badI b a) then (↑(Option.getD (badI b a) 0) : Int) else -1) ≥ 0))) []
 else none := by kernel_rfl

set_option maxRecDepth 100000 in
theorem r56y (xs : List Int) (h : Hp) (k : Int) (β : Type) (K : CV → List (List CV) → Option β) : fnK k56 Tryd.f56 [cIs.enc xs, cEv.enc (.list h k)] [] K =
 Option.bind (decI (encI xs)) fun a =>
 Option.bind (Clo.dec (CV.fn 55 [] [CV.pc [CV.sl 1 (encI (Hp.w h)), CV.sl 2 (List.map encP (Hp.p h)), CV.sl 1 (encI (Ls.a (Hp.f h))), CV.sl 1 (encI (Ls.b (Hp.f h))), CV.sl 1 (encI (Ls.c (Hp.f h))), CV.sl 1 (encBs (Hp.c h))] 0, CV.pc [CV.int IntKind.i64 k] 0])) fun b =>
 bif List.all a (Clo.pre b) && Nat.ble (List.length a) 100000 then
 K (CV.bool (decide ((bif Option.isSome (badI b a) then (↑(Option.getD (badI b a) 0) : Int) else -1) ≥ 0))) []
 else none := by kernel_rfl

set_option maxRecDepth 100000 in
theorem r56z (xs : List Int) (h : Hp) (ks : List Int) (β : Type) (K : CV → List (List CV) → Option β) : fnK k56 Tryd.f56 [cIs.enc xs, cEv.enc (.whole h ks)] [] K =
 Option.bind (decI (encI xs)) fun a =>
 Option.bind (Clo.dec (CV.fn 37 [] [CV.pc [CV.sl 1 (encI (Hp.w h)), CV.sl 2 (List.map encP (Hp.p h)), CV.sl 1 (encI (Ls.a (Hp.f h))), CV.sl 1 (encI (Ls.b (Hp.f h))), CV.sl 1 (encI (Ls.c (Hp.f h))), CV.sl 1 (encBs (Hp.c h))] 0, CV.pc [CV.mp ks] 0])) fun b =>
 bif List.all a (Clo.pre b) && Nat.ble (List.length a) 100000 then
 K (CV.bool (decide ((bif Option.isSome (badI b a) then (↑(Option.getD (badI b a) 0) : Int) else -1) ≥ 0))) []
 else none := by kernel_rfl

end Go.Ab

namespace Go.Ab
open Go
open Go.Proofs

theorem badI_all (c : Clo) (xs : List Int) : (badI c xs).isSome = !xs.all c.val := by
  unfold badI
  rw [List.findIdx?_isSome, Bool.eq_iff_iff]
  simp
def gContains : Callee := g2 cIs cEv (fun xs c => xs.all c.pre && Nat.ble xs.length 100000) fun xs c => cB.enc (!xs.all c.val)
theorem dec_ge (b : Bool) (n : Nat) : decide ((bif b then ((n : Nat) : Int) else -1) ≥ 0) = b := by
  cases b <;> simp
theorem contains_good : GoodC Pr 56 gContains :=
  good2 ((CxOK.baseG (Good.cons index_good Good.nil) GoodI.nil (eqOK_none fun _ => rfl)).sound (cx := k56) Tryd.func56 (by kernel_rfl) (by kernel_rfl) rfl (by kernel_rfl)) fun xs c hp β K => by
    cases c with
    | may h =>
      refine (r56x xs h β K).trans ?_
      simp only [de_may, decI_map, Option.bind_some, hp, cond_true, dec_ge, badI_all]
      rfl
    | list h k =>
      refine (r56y xs h k β K).trans ?_
      simp only [de_list, decI_map, Option.bind_some, hp, cond_true, dec_ge, badI_all]
      rfl
    | whole h ks =>
      refine (r56z xs h ks β K).trans ?_
      simp only [de_whole, decI_map, Option.bind_some, hp, cond_true, dec_ge, badI_all]
      rfl
noncomputable abbrev k30 : Cx := cxG Pr Tryd.f30 [(56, gContains)]
set_option maxRecDepth 100000 in
theorem r30x (xs : List Int) (h : Hp) (β : Type) (K : CV → List (List CV) → Option β) : fnK k30 Tryd.f30 [cIs.enc xs, cClo.enc (.may h)] [] K =
 Option.bind (decI (encI xs)) fun a =>
 Option.bind (Clo.dec (CV.fn 24 [] [CV.pc [CV.sl 1 (encI (Hp.w h)), CV.sl 2 (List.map encP (Hp.p h)), CV.sl 1 (encI (Ls.a (Hp.f h))), CV.sl 1 (encI (Ls.b (Hp.f h))), CV.sl 1 (encI (Ls.c (Hp.f h))), CV.sl 1 (encBs (Hp.c h))] 0])) fun b =>
 bif List.all a (Clo.pre b) && Nat.ble (List.length a) 100000 then K (CV.bool !!List.all a (Clo.val b)) []
 else none := by kernel_rfl

set_option maxRecDepth 100000 in
theorem r30y (xs : List Int) (h : Hp) (k : Int) (β : Type) (K : CV → List (List CV) → Option β) : fnK k30 Tryd.f30 [cIs.enc xs, cClo.enc (.list h k)] [] K =
 Option.bind (decI (encI xs)) fun a =>
 Option.bind (Clo.dec (CV.fn 55 [] [CV.pc [CV.sl 1 (encI (Hp.w h)), CV.sl 2 (List.map encP (Hp.p h)), CV.sl 1 (encI (Ls.a (Hp.f h))), CV.sl 1 (encI (Ls.b (Hp.f h))), CV.sl 1 (encI (Ls.c (Hp.f h))), CV.sl 1 (encBs (Hp.c h))] 0, CV.pc [CV.int IntKind.i64 k] 0])) fun b =>
 bif List.all a (Clo.pre b) && Nat.ble (List.length a) 100000 then K (CV.bool !!List.all a (Clo.val b)) []
 else none := by kernel_rfl

set_option maxRecDepth 100000 in
theorem r30z (xs : List Int) (h : Hp) (ks : List Int) (β : Type) (K : CV → List (List CV) → Option β) : fnK k30 Tryd.f30 [cIs.enc xs, cClo.enc (.whole h ks)] [] K =
 Option.bind (decI (encI xs)) fun a =>
 Option.bind (Clo.dec (CV.fn 37 [] [CV.pc [CV.sl 1 (encI (Hp.w h)), CV.sl 2 (List.map encP (Hp.p h)), CV.sl 1 (encI (Ls.a (Hp.f h))), CV.sl 1 (encI (Ls.b (Hp.f h))), CV.sl 1 (encI (Ls.c (Hp.f h))), CV.sl 1 (encBs (Hp.c h))] 0, CV.pc [CV.mp ks] 0])) fun b =>
 bif List.all a (Clo.pre b) && Nat.ble (List.length a) 100000 then K (CV.bool !!List.all a (Clo.val b)) []
 else none := by kernel_rfl

def gEvery : Callee := g2 cIs cClo (fun xs c => xs.all c.pre && Nat.ble xs.length 100000) fun xs c => cB.enc (xs.all c.val)
noncomputable abbrev k29 : Cx := cxG Pr Tryd.f29 [(30, gEvery)] [] (fun _ => false) (fun q => Nat.beq q 26)
set_option maxRecDepth 100000 in
theorem r29 (h : Hp) (l : Ls) (β : Type) (K : CV → List (List CV) → Option β) : fnK k29 Tryd.f29 [cHp.enc h, cLs.enc l] [] K =
 Option.bind (decI (encI (Ls.a l))) fun a =>
 Option.bind (Clo.dec (CV.fn 55 [] [CV.pc [CV.sl 1 (encI (Hp.w h)), CV.sl 2 (List.map encP (Hp.p h)), CV.sl 1 (encI (Ls.a (Hp.f h))), CV.sl 1 (encI (Ls.b (Hp.f h))), CV.sl 1 (encI (Ls.c (Hp.f h))), CV.sl 1 (encBs (Hp.c h))] 0, CV.pc [CV.int IntKind.i64 0] 0])) fun b =>
 bif List.all a (Clo.pre b) && Nat.ble (List.length a) 100000 then
 bif !List.all a (Clo.val b) then K (CV.bool false) []
 else
 Option.bind (decI (encI (Ls.b l))) fun a =>
 Option.bind (Clo.dec (CV.fn 55 [] [CV.pc [CV.sl 1 (encI (Hp.w h)), CV.sl 2 (List.map encP (Hp.p h)), CV.sl 1 (encI (Ls.a (Hp.f h))), CV.sl 1 (encI (Ls.b (Hp.f h))), CV.sl 1 (encI (Ls.c (Hp.f h))), CV.sl 1 (encBs (Hp.c h))] 0, CV.pc [CV.int IntKind.i64 1] 0])) fun b =>
 bif List.all a (Clo.pre b) && Nat.ble (List.length a) 100000 then
 bif !List.all a (Clo.val b) then K (CV.bool false) []
 else
 Option.bind (decI (encI (Ls.c l))) fun a =>
 Option.bind (Clo.dec (CV.fn 55 [] [CV.pc [CV.sl 1 (encI (Hp.w h)), CV.sl 2 (List.map encP (Hp.p h)), CV.sl 1 (encI (Ls.a (Hp.f h))), CV.sl 1 (encI (Ls.b (Hp.f h))), CV.sl 1 (encI (Ls.c (Hp.f h))), CV.sl 1 (encBs (Hp.c h))] 0, CV.pc [CV.int IntKind.i64 2] 0])) fun b =>
 bif List.all a (Clo.pre b) && Nat.ble (List.length a) 100000 then
 bif !List.all a (Clo.val b) then K (CV.bool false) [] else K (CV.bool true) []
 else none
 else none
 else none := by kernel_rfl

theorem every_good : GoodC Pr 30 gEvery :=
  good2 ((CxOK.baseG (Good.cons contains_good Good.nil) GoodI.nil (eqOK_none fun _ => rfl)).sound (cx := k30) Tryd.func30 (by kernel_rfl) (by kernel_rfl) rfl (by kernel_rfl)) fun xs c hp β K => by
    cases c with
    | may h =>
      refine (r30x xs h β K).trans ?_
      simp only [de_may, decI_map, Option.bind_some, hp, cond_true, Bool.not_not]
      rfl
    | list h k =>
      refine (r30y xs h k β K).trans ?_
      simp only [de_list, decI_map, Option.bind_some, hp, cond_true, Bool.not_not]
      rfl
    | whole h ks =>
      refine (r30z xs h ks β K).trans ?_
      simp only [de_whole, decI_map, Option.bind_some, hp, cond_true, Bool.not_not]
      rfl
def listedV (h : Hp) (l : Ls) : Bool := l.a.all (listV h 0) && (l.b.all (listV h 1) && l.c.all (listV h 2))
def gListed : Callee := g2 cHp cLs (fun h l => (smH h && shapedE h) && smL l) fun h l => cB.enc (listedV h l)
theorem listed_good : GoodC Pr 29 gListed :=
  good2 ((CxOK.baseG (Good.cons every_good Good.nil) GoodI.nil (eqOK_none fun _ => rfl)).sound (cx := k29) Tryd.func29 (by kernel_rfl) (by kernel_rfl) rfl (by kernel_rfl)) fun h l hp β K => by
    rw [Bool.and_eq_true] at hp
    obtain ⟨l1, l2, l3⟩ := smL_le hp.2
    have e (k : Int) (xs : List Int) : xs.all (Clo.list h k).pre = true := List.all_eq_true.2 fun x _ => hp.1
    refine (r29 h l β K).trans ?_
    simp only [decI_map, Option.bind_some, de_list, e, Nat.ble_eq_true_of_le l1, Nat.ble_eq_true_of_le l2, Nat.ble_eq_true_of_le l3, Bool.and_self, cond_true]
    unfold listedV
    have f (k : Int) (xs : List Int) : xs.all (Clo.list h k).val = xs.all (listV h k) := rfl
    simp only [f]
    cases l.a.all (listV h 0) with
    | false => rfl
    | true =>
      cases l.b.all (listV h 1) with
      | false => rfl
      | true => cases l.c.all (listV h 2) <;> rfl
end Go.Ab

namespace Go.Ab
open Go
open Go.Proofs

def cBs : Cod (List Bool) where
  enc := fun xs => .sl 1 (encBs xs)
  dec := fun c => match c with | .sl 1 L => decBs L | _ => none
  ok := fun c a h => by
    split at h
    · rw [decBs_ok h]
    · cases h
  de := fun _ => decBs_enc _
def cOBs : Cod (List Bool) where
  enc := fun xs => .own 1 (encBs xs)
  dec := fun c => match c with | .own 1 L => decBs L | _ => none
  ok := fun c a h => by
    split at h
    · rw [decBs_ok h]
    · cases h
  de := fun _ => decBs_enc _
def gCloneI' : Callee := g1 cIs (fun w => Nat.ble w.length 100000) fun w => cOI.enc w
def gCloneB : Callee := g1 cBs (fun w => !w.isEmpty && Nat.ble w.length 100000) fun w => cOBs.enc w
noncomputable abbrev k33 : Cx := cxG Pr Tryd.f33 [(61, gCloneI'), (62, gCloneP), (63, gCloneB)] [] (fun _ => false) (fun q => Nat.beq q 58)
set_option maxRecDepth 100000 in
theorem r33 (h : Hp) (β : Type) (K : CV → List (List CV) → Option β) : fnK k33 Tryd.f33 [cHp.enc h] [] K =
 Option.bind (decI (encI (Hp.w h))) fun a =>
 bif Nat.ble (List.length a) 100000 then
 Option.bind (decP (List.map encP (Hp.p h))) fun a_1 =>
 bif !List.isEmpty a_1 && sm a_1 then
 Option.bind (decBs (encBs (Hp.c h))) fun a_2 =>
 bif !List.isEmpty a_2 && Nat.ble (List.length a_2) 100000 then
 Option.bind (decI (encI (Ls.a (Hp.f h)))) fun a_3 =>
 bif Nat.ble (List.length a_3) 100000 then
 Option.bind (decI (encI (Ls.b (Hp.f h)))) fun a_4 =>
 bif Nat.ble (List.length a_4) 100000 then
 Option.bind (decI (encI (Ls.c (Hp.f h)))) fun a_5 =>
 bif Nat.ble (List.length a_5) 100000 then
 K (CV.box [CV.sl 1 (encI a), CV.sl 2 (List.map encP a_1), CV.own 1 (encI a_3), CV.own 1 (encI a_4), CV.own 1 (encI a_5), CV.sl 1 (encBs a_2)]) []
 else none
 else none
 else none
 else none
 else none
 else none := by kernel_rfl

noncomputable abbrev k63 : Cx := cxG Pr Tryd.f63 [] [] (fun q => Nat.beq q 5)
set_option maxRecDepth 100000 in
theorem r63 (w : List Bool) (β : Type) (K : CV → List (List CV) → Option β) : fnK k63 Tryd.f63 [cBs.enc w] [] K =
 bif List.isEmpty (encBs w) then none
 else if List.length ([] ++ encBs w) ≤ LIM then K (CV.own 1 ([] ++ encBs w)) [] else none := by kernel_rfl

/-- Some lists, each of three. -/
def encLs (l : Ls) : List CV := [.sl 1 (encI l.a), .sl 1 (encI l.b), .sl 1 (encI l.c)]
def decLs : List (List CV) → Option (List Ls)
  | [] => some []
  | c :: r => (cLs.dec (.agg c)).bind fun l => (decLs r).bind fun s => some (l :: s)
@[simp] theorem decLs_map : ∀ ls, decLs (ls.map encLs) = some ls
  | [] => rfl
  | l :: ls => by
    show (cLs.dec (cLs.enc l)).bind _ = _
    rw [cLs.de]
    show (decLs (ls.map encLs)).bind _ = _
    rw [decLs_map ls]; rfl
theorem decLs_ok : ∀ {L ls}, decLs L = some ls → L = ls.map encLs
  | [], ls, h => by cases h; rfl
  | c :: r, ls, h => by
    simp only [decLs] at h
    replace h := bind_some' h
    obtain ⟨l, hl, h⟩ := h
    replace h := bind_some' h
    obtain ⟨s, hs, h⟩ := h
    cases h
    have := cLs.ok _ _ hl
    cases this
    rw [decLs_ok hs]; rfl
def cLss : Cod (List Ls) where
  enc := fun ls => .sl 3 (ls.map encLs)
  dec := fun c => match c with | .sl 3 L => decLs L | _ => none
  ok := fun c a h => by
    split at h
    · rw [decLs_ok h]
    · cases h
  de := fun _ => decLs_map _
def smLs (ls : List Ls) : Bool := Nat.ble ls.length 1000 && ls.all smL
def gMayT : Callee := g2 cHp cLss (fun h ls => smH h && smLs ls) fun h ls => cB.enc (shapedE h && ls.all (listedV h))
def gBegun : Callee := g1 cHp (fun h => smH h && (!h.p.isEmpty && !h.c.isEmpty)) fun h => .box [.sl 1 (encI h.w), .sl 2 (h.p.map encP), .own 1 (encI h.f.a), .own 1 (encI h.f.b), .own 1 (encI h.f.c), .sl 1 (encBs h.c)]
theorem cellsG_good : GoodC Pr 67 gCells := ⟨cells_sound, cells_nat⟩
noncomputable abbrev k43 : Cx := cxG Pr Tryd.f43 [(72, gDropP)]
noncomputable abbrev k35 : Cx := cxG Pr Tryd.f35 [(66, gPart), (67, gCells)] [(43, inlC k43 Tryd.f43)]
noncomputable abbrev k10a : Cx := cxG Pr Tryd.f10 [(9, gMayT), (33, gBegun), (34, gPush)] [(35, inlC k35 Tryd.f35)] (fun _ => false) (fun q => Nat.beq q 122)
abbrev p10 := [false, true, false, true, true, true, true]
abbrev o10 : Exit → List Nat := fun _ => [4, 6]
set_option maxRecDepth 100000 in
theorem t10a (h k : Hp) (n i : Int) (m : Nat) (β : Type) (K : Exit → List CV → List (List CV) → Option β) : loopB k10a [4, 6, 44, 45] o10 p10 (bodyL (bodyOf Tryd.f10) p10) (m + 1) [.ref 0, .ref 1, cI.enc n, cI.enc i] [[.own 1 (encI k.w), .own 2 (k.p.map encP), .own 1 (encI k.f.a), .own 1 (encI k.f.b), .own 1 (encI k.f.c), .own 1 (encBs k.c)], [.sl 1 (encI h.w), .sl 2 (h.p.map encP), .own 1 (encI h.f.a), .own 1 (encI h.f.b), .own 1 (encI h.f.c), .sl 1 (encBs h.c)]] K =
 bif decide (i < n) then
 Option.bind (rdE (List.map encP (Hp.p h)) i) fun c =>
 Option.bind c[0]? fun x =>
 Option.bind (asI IntKind.i64 x) fun n_1 =>
 Option.bind c[1]? fun x =>
 Option.bind (asI IntKind.i64 x) fun n_2 =>
 bif n_1 != 1 then loopB k10a [4, 6, 44, 45] o10 [false, true, false, true, true, true, true] (bodyL (bodyOf Tryd.f10) p10) m [CV.ref 0, CV.ref 1, CV.int IntKind.i64 n, CV.int IntKind.i64 (IntKind.wrap IntKind.i64 (i + 1))] [[CV.own 1 (encI (Hp.w k)), CV.own 2 (List.map encP (Hp.p k)), CV.own 1 (encI (Ls.a (Hp.f k))), CV.own 1 (encI (Ls.b (Hp.f k))), CV.own 1 (encI (Ls.c (Hp.f k))), CV.own 1 (encBs (Hp.c k))], [CV.sl 1 (encI (Hp.w h)), CV.sl 2 (List.map encP (Hp.p h)), CV.own 1 (encI (Ls.a (Hp.f h))), CV.own 1 (encI (Ls.b (Hp.f h))), CV.own 1 (encI (Ls.c (Hp.f h))), CV.sl 1 (encBs (Hp.c h))]] fun a a_1 a_2 => K a a_1 a_2
 else
 Option.bind (Option.bind (decI (encI (Ls.a (Hp.f h)))) fun a =>
 Option.bind (decI (encI (Ls.b (Hp.f h)))) fun b =>
 Option.bind (decI (encI (Ls.c (Hp.f h)))) fun c => some { a := a, b := b, c := c }) fun a => bif smL a && isC n_2 then none else none
 else
 K (Exit.exit 2) [CV.ref 0, CV.ref 1] [[CV.own 1 (encI (Hp.w k)), CV.own 2 (List.map encP (Hp.p k)), CV.own 1 (encI (Ls.a (Hp.f k))), CV.own 1 (encI (Ls.b (Hp.f k))), CV.own 1 (encI (Ls.c (Hp.f k))), CV.own 1 (encBs (Hp.c k))], [CV.sl 1 (encI (Hp.w h)), CV.sl 2 (List.map encP (Hp.p h)), CV.own 1 (encI (Ls.a (Hp.f h))), CV.own 1 (encI (Ls.b (Hp.f h))), CV.own 1 (encI (Ls.c (Hp.f h))), CV.sl 1 (encBs (Hp.c h))]] := by kernel_rfl

end Go.Ab

namespace Go.Ab
open Go
open Go.Proofs
noncomputable abbrev k85 : Cx := cxG Pr Tryd.f85 []
noncomputable abbrev k68 : Cx := cxG Pr Tryd.f68 [] [(85, inlC k85 Tryd.f85)] (fun _ => false) (fun q => Nat.beq q 58 || Nat.beq q 250)
noncomputable abbrev k36a : Cx := cxG Pr Tryd.f36 [] [(68, inlC k68 Tryd.f68)]
abbrev o36 : Exit → List Nat := fun _ => [3]
abbrev p36 := [false, true, false, true, true]
set_option maxRecDepth 100000 in
theorem t36 (O : List Int) (ls : List Ls) (n i : Int) (m : Nat) (β : Type) (K : Exit → List CV → List (List CV) → Option β) : loopB k36a [3, 6, 7, 8] o36 p36 (bodyL (bodyOf Tryd.f36) p36) (m + 1) [cOI.enc O, cLss.enc ls, cI.enc n, cI.enc i] [] K =
 bif decide (i < n) then
 Option.bind (rdE (List.map encLs ls) i) fun c =>
 Option.bind c[0]? fun x =>
 Option.bind (asL 1 x) fun l =>
 Option.bind c[1]? fun x =>
 Option.bind (asL 1 x) fun l_1 =>
 Option.bind c[2]? fun x =>
 Option.bind (asL 1 x) fun l_2 =>
 bif decide (IntKind.wrap IntKind.i64 (0 + (↑(List.length l) : Int)) < 0) then none
 else
 bif decide (IntKind.wrap IntKind.i64 (IntKind.wrap IntKind.i64 (0 + (↑(List.length l) : Int)) + (↑(List.length l_1) : Int)) < 0) then none
 else
 bif decide (IntKind.wrap IntKind.i64 (IntKind.wrap IntKind.i64 (IntKind.wrap IntKind.i64 (0 + (↑(List.length l) : Int)) + (↑(List.length l_1) : Int)) + (↑(List.length l_2) : Int)) < 0) then none
 else
 bif decide (IntKind.wrap IntKind.i64 (IntKind.wrap IntKind.i64 (IntKind.wrap IntKind.i64 (0 + (↑(List.length l) : Int)) + (↑(List.length l_1) : Int)) + (↑(List.length l_2) : Int)) < 0) then none
 else
 bif decide (IntKind.wrap IntKind.i64 (IntKind.wrap IntKind.i64 (IntKind.wrap IntKind.i64 (IntKind.wrap IntKind.i64 (0 + (↑(List.length l) : Int)) + (↑(List.length l_1) : Int)) + (↑(List.length l_2) : Int)) - 0) > 0) then
 if 0 < IntKind.wrap IntKind.i64 (IntKind.wrap IntKind.i64 (IntKind.wrap IntKind.i64 (IntKind.wrap IntKind.i64 (0 + (↑(List.length l) : Int)) + (↑(List.length l_1) : Int)) + (↑(List.length l_2) : Int)) - 0) ∧ IntKind.wrap IntKind.i64 (IntKind.wrap IntKind.i64 (IntKind.wrap IntKind.i64 (IntKind.wrap IntKind.i64 (0 + (↑(List.length l) : Int)) + (↑(List.length l_1) : Int)) + (↑(List.length l_2) : Int)) - 0) ≤ (↑LIM : Int) then
 bif okBounds (List.length (List.replicate (Int.toNat (IntKind.wrap IntKind.i64 (IntKind.wrap IntKind.i64 (IntKind.wrap IntKind.i64 (IntKind.wrap IntKind.i64 (0 + (↑(List.length l) : Int)) + (↑(List.length l_1) : Int)) + (↑(List.length l_2) : Int)) - 0))) [CV.int IntKind.i64 0])) none (some 0) none then
 if List.length (List.take 0 (List.replicate (Int.toNat (IntKind.wrap IntKind.i64 (IntKind.wrap IntKind.i64 (IntKind.wrap IntKind.i64 (IntKind.wrap IntKind.i64 (0 + (↑(List.length l) : Int)) + (↑(List.length l_1) : Int)) + (↑(List.length l_2) : Int)) - 0))) [CV.int IntKind.i64 0]) ++ l) ≤ LIM then
 if List.length (l ++ l_1) ≤ LIM then
 if List.length (l ++ l_1 ++ l_2) ≤ LIM then
 if List.length (encI O ++ (l ++ l_1 ++ l_2)) ≤ LIM then loopB k36a [3, 6, 7, 8] o36 [false, true, false, true, true] (bodyL (bodyOf Tryd.f36) p36) m [CV.own 1 (encI O ++ (l ++ l_1 ++ l_2)), CV.sl 3 (List.map encLs ls), CV.int IntKind.i64 n, CV.int IntKind.i64 (IntKind.wrap IntKind.i64 (i + 1))] [] fun a a_1 a_2 => K a a_1 a_2
 else none
 else none
 else none
 else none
 else none
 else none
 else
 if List.length l ≤ LIM then
 if List.length (l ++ l_1) ≤ LIM then
 if List.length (l ++ l_1 ++ l_2) ≤ LIM then
 if List.length (encI O ++ (l ++ l_1 ++ l_2)) ≤ LIM then loopB k36a [3, 6, 7, 8] o36 [false, true, false, true, true] (bodyL (bodyOf Tryd.f36) p36) m [CV.own 1 (encI O ++ (l ++ l_1 ++ l_2)), CV.sl 3 (List.map encLs ls), CV.int IntKind.i64 n, CV.int IntKind.i64 (IntKind.wrap IntKind.i64 (i + 1))] [] fun a a_1 a_2 => K a a_1 a_2
 else none
 else none
 else none
 else none
 else K (Exit.exit 0) [CV.own 1 (encI O)] [] := by kernel_rfl

def one3 (l : Ls) : List Int := l.a ++ l.b ++ l.c
def catI (ls : List Ls) : List Int := ls.flatMap one3
theorem asL_1 (L : List (List CV)) : asL 1 (.sl 1 L) = some L := by simp [asL]
theorem step36 (O : List Int) (ls : List Ls) (i m : Nat) (hi : i < ls.length) (hs : ls.all smL = true) (hl : ls.length ≤ 1000) (hO : O.length ≤ 300000 * i) (β : Type) (K : Exit → List CV → List (List CV) → Option β) :
    loopB k36a [3, 6, 7, 8] o36 p36 (bodyL (bodyOf Tryd.f36) p36) (m + 1) [cOI.enc O, cLss.enc ls, cI.enc (ls.length : Int), cI.enc (i : Int)] [] K =
      loopB k36a [3, 6, 7, 8] o36 p36 (bodyL (bodyOf Tryd.f36) p36) m [cOI.enc (O ++ one3 ls[i]), cLss.enc ls, cI.enc (ls.length : Int), cI.enc ((i + 1 : Nat) : Int)] [] K := by
  have hL := lim_val
  obtain ⟨l1, l2, l3⟩ := smL_le (List.all_eq_true.1 hs _ (List.getElem_mem hi))
  have e0 : (List.map encLs ls)[(i : Int).toNat]? = some (encLs ls[i]) := by simp [hi]
  rw [t36, decide_eq_true (show (i : Int) < (ls.length : Int) by omega), cond_true, rdE_nat (by omega), e0]
  generalize ls[i] = l at l1 l2 l3
  have g1 : (encLs l)[0]? = some (.sl 1 (encI l.a)) := rfl
  have g2 : (encLs l)[1]? = some (.sl 1 (encI l.b)) := rfl
  have g3 : (encLs l)[2]? = some (.sl 1 (encI l.c)) := rfl
  have w1 : IntKind.i64.wrap (0 + (l.a.length : Int)) = (l.a.length : Int) := by rw [wrap_in (by omega)]; omega
  have w2 : IntKind.i64.wrap ((l.a.length : Int) + (l.b.length : Int)) = (l.a.length : Int) + (l.b.length : Int) := wrap_in (by omega)
  have w3 : IntKind.i64.wrap ((l.a.length : Int) + (l.b.length : Int) + (l.c.length : Int)) = (l.a.length : Int) + (l.b.length : Int) + (l.c.length : Int) := wrap_in (by omega)
  have w4 : IntKind.i64.wrap ((l.a.length : Int) + (l.b.length : Int) + (l.c.length : Int) - 0) = (l.a.length : Int) + (l.b.length : Int) + (l.c.length : Int) := by rw [wrap_in (by omega)]; omega
  have w5 : IntKind.i64.wrap ((i : Int) + 1) = ((i + 1 : Nat) : Int) := by rw [wrap_in (by omega)]; omega
  simp only [Option.bind_some, g1, g2, g3, asL_1, encI_len, w1, w2, w3, w4, w5, encI_app]
  rw [decide_eq_false (by omega), cond_false, decide_eq_false (by omega), cond_false, decide_eq_false (by omega), cond_false]
  have q1 : (l.a ++ l.b).length ≤ LIM := by simp; omega
  have q2 : (l.a ++ l.b ++ l.c).length ≤ LIM := by simp; omega
  have q3 : (O ++ (l.a ++ l.b ++ l.c)).length ≤ LIM := by simp; omega
  have q0 : l.a.length ≤ LIM := by omega
  by_cases hz : (l.a.length : Int) + (l.b.length : Int) + (l.c.length : Int) > 0
  · have ob : okBounds (List.length (List.replicate (Int.toNat ((l.a.length : Int) + (l.b.length : Int) + (l.c.length : Int))) [CV.int IntKind.i64 0])) none (some 0) none = true := by simp [okBounds]; omega
    rw [decide_eq_true hz, cond_true, if_pos ⟨by omega, by omega⟩, ob, cond_true, if_pos (by simp; omega), if_pos q1, if_pos q2, if_pos q3]
    rfl
  · rw [decide_eq_false hz, cond_false, if_pos q0, if_pos q1, if_pos q2, if_pos q3]
    rfl
theorem all_loop (ls : List Ls) (hs : ls.all smL = true) (hl : ls.length ≤ 1000) (β : Type) (K : Exit → List CV → List (List CV) → Option β) : ∀ (m i : Nat) (O : List Int), i + m = ls.length → O.length ≤ 300000 * i →
    loopB k36a [3, 6, 7, 8] o36 p36 (bodyL (bodyOf Tryd.f36) p36) (m + 1) [cOI.enc O, cLss.enc ls, cI.enc (ls.length : Int), cI.enc (i : Int)] [] K =
      K (.exit 0) [cOI.enc (O ++ catI (ls.drop i))] [] := by
  intro m
  induction m with
  | zero =>
    intro i O h1 _
    rw [t36, decide_eq_false (by omega), cond_false, List.drop_eq_nil_of_le (by omega)]
    simp [catI]
  | succ m ih =>
    intro i O h1 hO
    have hi : i < ls.length := by omega
    obtain ⟨l1, l2, l3⟩ := smL_le (List.all_eq_true.1 hs _ (List.getElem_mem hi))
    rw [step36 O ls i (m + 1) hi hs hl hO, ih (i + 1) _ (by omega) (by simp [one3]; omega), List.drop_eq_getElem_cons hi]
    rw [show catI (ls[i] :: ls.drop (i + 1)) = one3 ls[i] ++ catI (ls.drop (i + 1)) from rfl, List.append_assoc]
def L36 : LoopSem := l4 [3, 6, 7, 8] o36 cOI cLss cI cI c0 (fun O ls n i _ => O.isEmpty && (smLs ls && (i == 0 && n == (ls.length : Int)))) fun _ ls _ _ _ => .one (.exit 0) [cOI.enc (catI ls)] []
noncomputable abbrev k36 : Cx := k36a.loop p36 L36
theorem grow_inl : GoodN Pr 85 (inlC k85 Tryd.f85) := (CxOK.baseG Good.nil GoodI.nil (eqOK_none fun _ => rfl)).inlG (cx := k85) Tryd.func85 (by kernel_rfl) (by kernel_rfl) rfl (by kernel_rfl)
theorem concat_inl : GoodN Pr 68 (inlC k68 Tryd.f68) := (CxOK.baseG Good.nil (GoodI.cons grow_inl GoodI.nil) (eqOK_none fun _ => rfl)).inlG (cx := k68) Tryd.func68 (by kernel_rfl) (by kernel_rfl) rfl (by kernel_rfl)
theorem smLs_le {ls : List Ls} (h : smLs ls = true) : ls.length ≤ 1000 ∧ ls.all smL = true := by
  simp only [smLs, Bool.and_eq_true] at h
  exact ⟨Nat.le_of_ble_eq_true h.1, h.2⟩
theorem k36_ok : CxOK k36 [] := by
  refine CxOK.loop4 (CxOK.baseG Good.nil (GoodI.cons concat_inl GoodI.nil) (eqOK_none fun _ => rfl)) rfl fun O ls n i u hp => ?_
  simp only [Bool.and_eq_true, beq_iff_eq, List.isEmpty_iff] at hp
  obtain ⟨hO, hs, hi, hn⟩ := hp
  subst hO hi hn
  obtain ⟨h1, h2⟩ := smLs_le hs
  refine ⟨ls.length + 1, fun β K => ?_⟩
  have := all_loop ls h2 h1 β K ls.length 0 [] (by omega) (by simp)
  rw [List.drop_zero, List.nil_append] at this
  exact this
def gAllI : Callee := g1 cLss smLs fun ls => cOI.enc (catI ls)
set_option maxRecDepth 100000 in
theorem r36 (ls : List Ls) (β : Type) (K : CV → List (List CV) → Option β) : fnK k36 Tryd.f36 [cLss.enc ls] [] K =
 Option.bind (decLs (List.map encLs ls)) fun b =>
 bif smLs b && (↑(List.length (List.map encLs ls)) : Int) == (↑(List.length b) : Int) then
 K (CV.own 1 (encI (catI b))) []
 else none := by kernel_rfl

theorem catI_good : GoodC Pr 36 gAllI :=
  good1 (k36_ok.sound (cx := k36) Tryd.func36 (by kernel_rfl) (by kernel_rfl) rfl (by kernel_rfl)) fun ls hp β K => by
    refine (r36 ls β K).trans ?_
    simp only [decLs_map, Option.bind_some, hp, List.length_map, beq_self_eq_true, Bool.and_self, Bool.and_true, cond_true]
    rfl
end Go.Ab

namespace Go.Ab
open Go
open Go.Proofs

theorem sort_heap {w : World} {b n : Nat} {ys : List Int} {os : Array Obj} {cur : Array Value} {ty : TypeId} (hb : w.heap[b]? = some (.cells cur ty (0, 0))) :
    (Sort.grow (Sort.putRow (Value.int .i64) (Sort.ahead w n) b 0 ys.toArray) os).heap[b]? = some (.cells (Sort.putCells (Value.int .i64) 0 ys.toArray cur) ty (0, 0)) := by
  have hlt := (Array.getElem?_eq_some_iff.1 hb).1
  show ((w.heap.modify b (Sort.onCells (Sort.putCells (Value.int .i64) 0 ys.toArray))) ++ os)[b]? = _
  rw [Array.getElem?_append_left (by simpa using hlt), Array.getElem?_modify, if_pos rfl, hb]
  rfl

theorem sort_other {w : World} {b n : Nat} {ys : List Int} {os : Array Obj} {c : Nat} (hc : c < w.heap.size) (hne : b ≠ c) :
    (Sort.grow (Sort.putRow (Value.int .i64) (Sort.ahead w n) b 0 ys.toArray) os).heap[c]? = w.heap[c]? := by
  show ((w.heap.modify b (Sort.onCells (Sort.putCells (Value.int .i64) 0 ys.toArray))) ++ os)[c]? = _
  rw [Array.getElem?_append_left (by simpa using hc), Array.getElem?_modify, if_neg hne]

theorem put_at {ys : List Int} {cur : Array Value} (h : ys.length ≤ cur.size) {k : Nat} (hk : k < ys.length) : (Sort.putCells (Value.int .i64) 0 ys.toArray cur)[k]? = some (.int .i64 ys[k]) := by
  have : k < cur.size := by omega
  simp [Sort.putCells, this, hk]

theorem rowUpd {ρ : Env} {X : Nat → Prop} {h : H} {w : World} (hr : HR ρ X h w) {i ver : Nat} {xs ys : List Int} (hg : getH h i = .acc ver false 1 (encI xs)) (hl : ys.length = xs.length) {b cap : Nat}
    (hc : ρ.cur i = .slice (some ⟨b, 0, none⟩) xs.length cap) (n : Nat) (os : Array Obj) :
    HR (ρ.setCur i (ρ.cur i)) X (setH h i (.acc ver false 1 (encI ys))) (Sort.grow (Sort.putRow (Value.int .i64) (Sort.ahead w n) b 0 ys.toArray) os) ∧ Ext ρ h w (ρ.setCur i (ρ.cur i)) (setH h i (.acc ver false 1 (encI ys))) (Sort.grow (Sort.putRow (Value.int .i64) (Sort.ahead w n) b 0 ys.toArray) os) := by
  have hbx := hr.box i
  rw [hg] at hbx
  obtain ⟨h0, h1, h2, h3⟩ := hbx
  have hlen : (encI ys).length = (encI xs).length := by simp [hl]
  rcases h3 with ⟨h3, _⟩ | ⟨b', cap', cur, ty, h3, h4, h5, h6, h7⟩
  · rw [hc] at h3; cases h3
  rw [hc] at h3
  injection h3 with ha _ hcap
  injection ha with ha
  injection ha with ha
  subst ha hcap
  exact hr.upd (by rw [hg]; rfl) (.acc ver false 1 (encI ys)) (ρ.cur i) (w' := Sort.grow (Sort.putRow (Value.int .i64) (Sort.ahead w n) b 0 ys.toArray) os) (by simp [Sort.grow, Sort.putRow, Sort.mapBlock, Sort.ahead])
    (fun c hcl hne => sort_other hcl fun e => hne (by rw [hg, ← e]; simp [bOf, hc]))
    (fun c hcb => .inl (by rw [hg]; simpa [bOf] using hcb))
    (HExt.updAcc hg _ (.inr ⟨rfl, rfl, hlen.symm, rfl⟩)) (fun e => by
      refine ⟨h0, fun e he => ?_, by rw [hlen]; exact h2, .inr ⟨b, cap, _, ty, by rw [hlen, encI_len]; simpa using hc, sort_heap h4, by rw [hlen]; exact h5, by simpa [Sort.putCells] using h6, fun k j x hx => ?_⟩⟩
      · obtain ⟨y, _, rfl⟩ := List.mem_map.1 (show e ∈ ys.map (fun n => [CV.int .i64 n]) from he)
        rfl
      · have hks : ∃ hk : k < ys.length, j = 0 ∧ x = .int .i64 ys[k] := by
          unfold at2 at hx
          by_cases hk : k < ys.length
          · refine ⟨hk, ?_⟩
            have : (encI ys)[k]? = some [CV.int .i64 ys[k]] := by simp [encI, hk]
            rw [this] at hx
            cases j with
            | zero => simp at hx; exact ⟨rfl, hx.symm⟩
            | succ j => simp at hx
          · have : (encI ys)[k]? = none := by simp [encI]; omega
            rw [this] at hx
            cases hx
        obtain ⟨hk, rfl, rfl⟩ := hks
        rw [encI_len] at h5
        refine ⟨.int .i64 ys[k], ?_, rfl, .int _ _⟩
        rw [Nat.mul_one, Nat.add_zero]
        exact put_at (by omega) hk)
theorem sortPost {ρ : Env} {X : Nat → Prop} {h : H} {w : World} (hr : HR ρ X h w) {i ver : Nat} {xs ys : List Int} (hg : getH h i = .acc ver false 1 (encI xs)) (hl : ys.length = xs.length) {b cap : Nat}
    (hc : ρ.cur i = .slice (some ⟨b, 0, none⟩) xs.length cap) (n : Nat) (os : Array Obj) :
    Post ρ X h w (.c (.tup [])) (setH h i (.acc ver false 1 (encI ys))) (.tuple #[]) (Sort.grow (Sort.putRow (Value.int .i64) (Sort.ahead w n) b 0 ys.toArray) os) :=
  ⟨_, (rowUpd hr hg hl hc n os).1, .c _ _ (.tup [] #[] rfl fun j x hx => by simp at hx), (rowUpd hr hg hl hc n os).2⟩
end Go.Ab

namespace Go.Proofs
open Go.Shelf
def Tryd.lays189_ren : Go.Shelf.Ren := ⟨fun | 189 => 59 | 125 => 83 | 257 => 82 | 128 => 99 | 129 => 100 | 294 => 91 | 295 => 92 | 296 => 93 | 297 => 94 | 298 => 95 | 299 => 96 | 216 => 87 | 300 => 97 | 301 => 98 | 328 => 102 | 329 => 103 | 330 => 104 | 331 => 105 | 332 => 106 | 215 => 101 | 343 => 107 | n => n, fun | 28 => 22 | 3 => 3 | 46 => 83 | 0 => 0 | 51 => 125 | 53 => 127 | 4 => 4 | 183 => 119 | 182 => 118 | 131 => 109 | 5 => 5 | 9 => 9 | 218 => 128 | 222 => 132 | 228 => 134 | 229 => 135 | n => n, fun | n => n⟩
theorem Tryd.lays189 : Go.Proofs.Lays.n189 Tryd.prog Tryd.lays189_ren := {
  mixed := by kernel_rfl
  f125 := Tryd.func83.trans (congrArg some (by kernel_rfl))
  f128 := Tryd.func99.trans (congrArg some (by kernel_rfl))
  f129 := Tryd.func100.trans (congrArg some (by kernel_rfl))
  f189 := Tryd.func59.trans (congrArg some (by kernel_rfl))
  f215 := Tryd.func101.trans (congrArg some (by kernel_rfl))
  f216 := Tryd.func87.trans (congrArg some (by kernel_rfl))
  f257 := Tryd.func82.trans (congrArg some (by kernel_rfl))
  f294 := Tryd.func91.trans (congrArg some (by kernel_rfl))
  f295 := Tryd.func92.trans (congrArg some (by kernel_rfl))
  f296 := Tryd.func93.trans (congrArg some (by kernel_rfl))
  f297 := Tryd.func94.trans (congrArg some (by kernel_rfl))
  f298 := Tryd.func95.trans (congrArg some (by kernel_rfl))
  f299 := Tryd.func96.trans (congrArg some (by kernel_rfl))
  f300 := Tryd.func97.trans (congrArg some (by kernel_rfl))
  f301 := Tryd.func98.trans (congrArg some (by kernel_rfl))
  f328 := Tryd.func102.trans (congrArg some (by kernel_rfl))
  f329 := Tryd.func103.trans (congrArg some (by kernel_rfl))
  f330 := Tryd.func104.trans (congrArg some (by kernel_rfl))
  f331 := Tryd.func105.trans (congrArg some (by kernel_rfl))
  f332 := Tryd.func106.trans (congrArg some (by kernel_rfl))
  f343 := Tryd.func107.trans (congrArg some (by kernel_rfl))
  t0 := Tryd.underlying0
  a0 := Tryd.isAgg0
  z0 := Tryd.sizeOf0
  v0 := Tryd.zeroValue0
  t3 := Tryd.underlying3
  a3 := Tryd.isAgg3
  z3 := Tryd.sizeOf3
  v3 := Tryd.zeroValue3
  t4 := Tryd.underlying4
  a4 := Tryd.isAgg4
  z4 := Tryd.sizeOf4
  v4 := Tryd.zeroValue4
  t5 := Tryd.underlying5
  a5 := Tryd.isAgg5
  z5 := Tryd.sizeOf5
  v5 := Tryd.zeroValue5
  t9 := Tryd.underlying9
  a9 := Tryd.isAgg9
  z9 := Tryd.sizeOf9
  v9 := Tryd.zeroValue9
  t28 := Tryd.underlying22
  a28 := Tryd.isAgg22
  z28 := Tryd.sizeOf22
  v28 := Tryd.zeroValue22
  t46 := Tryd.underlying83
  a46 := Tryd.isAgg83
  z46 := Tryd.sizeOf83
  v46 := Tryd.zeroValue83
  t51 := Tryd.underlying125
  a51 := Tryd.isAgg125
  z51 := Tryd.sizeOf125
  v51 := Tryd.zeroValue125
  t53 := Tryd.underlying127
  a53 := Tryd.isAgg127
  z53 := Tryd.sizeOf127
  v53 := Tryd.zeroValue127
  t131 := Tryd.underlying109
  a131 := Tryd.isAgg109
  z131 := Tryd.sizeOf109
  v131 := Tryd.zeroValue109
  t182 := Tryd.underlying118
  a182 := Tryd.isAgg118
  z182 := Tryd.sizeOf118
  v182 := Tryd.zeroValue118
  t183 := Tryd.underlying119
  a183 := Tryd.isAgg119
  z183 := Tryd.sizeOf119
  v183 := Tryd.zeroValue119
  t218 := Tryd.underlying128
  a218 := Tryd.isAgg128
  z218 := Tryd.sizeOf128
  v218 := Tryd.zeroValue128
  t222 := Tryd.underlying132
  a222 := Tryd.isAgg132
  z222 := Tryd.sizeOf132
  v222 := Tryd.zeroValue132
  t228 := Tryd.underlying134
  a228 := Tryd.isAgg134
  z228 := Tryd.sizeOf134
  v228 := Tryd.zeroValue134
  t229 := Tryd.underlying135
  a229 := Tryd.isAgg135
  z229 := Tryd.sizeOf135
  v229 := Tryd.zeroValue135 }
def Tryd.lays20_ren : Go.Shelf.Ren := ⟨fun | 20 => 60 | n => n, fun | 22 => 22 | 3 => 3 | 4 => 4 | 0 => 0 | n => n, fun | n => n⟩
theorem Tryd.lays20 : Go.Proofs.Lays2.n20 Tryd.prog Tryd.lays20_ren := {
  mixed := by kernel_rfl
  f20 := Tryd.func60.trans (congrArg some (by kernel_rfl))
  t0 := Tryd.underlying0
  a0 := Tryd.isAgg0
  z0 := Tryd.sizeOf0
  v0 := Tryd.zeroValue0
  t3 := Tryd.underlying3
  a3 := Tryd.isAgg3
  z3 := Tryd.sizeOf3
  v3 := Tryd.zeroValue3
  t4 := Tryd.underlying4
  a4 := Tryd.isAgg4
  z4 := Tryd.sizeOf4
  v4 := Tryd.zeroValue4
  t22 := Tryd.underlying22
  a22 := Tryd.isAgg22
  z22 := Tryd.sizeOf22
  v22 := Tryd.zeroValue22
  i3 := by kernel_rfl }
def Tryd.lays15_ren : Go.Shelf.Ren := ⟨fun | 15 => 61 | n => n, fun | 22 => 22 | 3 => 3 | 4 => 4 | n => n, fun | n => n⟩
theorem Tryd.lays15 : Go.Proofs.Lays2.n15 Tryd.prog Tryd.lays15_ren := {
  mixed := by kernel_rfl
  f15 := Tryd.func61.trans (congrArg some (by kernel_rfl))
  t3 := Tryd.underlying3
  a3 := Tryd.isAgg3
  z3 := Tryd.sizeOf3
  v3 := Tryd.zeroValue3
  t4 := Tryd.underlying4
  a4 := Tryd.isAgg4
  z4 := Tryd.sizeOf4
  v4 := Tryd.zeroValue4
  t22 := Tryd.underlying22
  a22 := Tryd.isAgg22
  z22 := Tryd.sizeOf22
  v22 := Tryd.zeroValue22
  i3 := by kernel_rfl }
end Go.Proofs

namespace Go.Ab
open Go
open Go.Proofs

def sortI (xs : List Int) : List Int := xs.mergeSort fun x y => decide (x ≤ y)
def sortN : Inl := ⟨fun ss h _ K => match ss with
  | [.acc i ver] => match getH h i with
    | .acc ver' false 1 L => bif Nat.beq ver ver' then (decI L).bind fun xs => bif Nat.ble xs.length 4000000000 then K (.c (.tup [])) (setH h i (.acc ver false 1 (encI (sortI xs)))) else none else none
    | _ => none
  | _ => none⟩

theorem sort_nat : NatN sortN := fun ss h => by
  unfold sortN
  dsimp only
  split
  · split
    · exact .cond _ (.bind _ fun _ => .cond _ (.ret _ _) .none) .none
    · exact .none
  · exact .none

theorem sort_calls (blk cap : Nat) (zs : List Int) (w : World) (hH : Sort.Holds (Value.int .i64) w blk 0 zs.toArray) (hblk : blk < w.heap.size) (hsz : zs.length < 4611686018427387904) :
    Calls Pr 59 #[.slice (some ⟨blk, 0, none⟩) zs.length cap] w fun e w' => e = .returned (.tuple #[]) ∧ ∃ n os, w' = Sort.grow (Sort.putRow (Value.int .i64) (Sort.ahead w n) blk 0 (sortI zs).toArray) os :=
  Any.slices_Sort_int Tryd.lays189 blk 0 cap zs w hH hblk hsz

theorem sort_calls0 (a : Option Addr) (cap : Nat) (w : World) : Calls Pr 59 #[.slice a 0 cap] w fun e w' => e = .returned (.tuple #[]) ∧ w' = w :=
  Any.slices_Sort_int_none Tryd.lays189 a cap w
theorem setH_self : ∀ {h : H} {i : Nat} {b : Box}, getH h i = b → setH h i b = h
  | [], _, _, _ => rfl
  | c :: h, 0, b, e => by
    have : c = b := e
    subst this; rfl
  | c :: h, i + 1, b, e => by
    have : setH (c :: h) (i + 1) b = c :: setH h i b := rfl
    rw [this, setH_self (h := h) (i := i) e]

theorem sort_good : GoodN Pr 59 sortN := by
  refine ⟨⟨⟨_, Tryd.func59, by kernel_rfl, by kernel_rfl⟩, fun ss h β K r hK => ?_⟩, sort_nat⟩
  unfold sortN at hK
  dsimp only at hK
  split at hK
  · rename_i i ver
    split at hK
    · rename_i ver' L hg
      replace hK := cond_some hK
      obtain ⟨hb, hK⟩ := hK
      have hb := beq_true hb
      subst hb
      replace hK := bind_some' hK
      obtain ⟨xs, hx, hK⟩ := hK
      replace hK := cond_some hK
      obtain ⟨hp, hK⟩ := hK
      have hL := decI_enc hx
      subst hL
      have hsm := Nat.le_of_ble_eq_true hp
      refine ⟨_, _, hK, fun ρ X w vs hr hsz hvs => ?_⟩
      have hv0 := hvs 0 (.acc i ver) rfl
      have hvs1 : vs = #[vs.getD 0 undef] := by
        apply Array.ext
        · simpa using hsz
        · intro j h1 h2
          have : j = 0 := by simp at h2; exact h2
          subst this
          simp [h1]
      rw [hvs1]
      generalize vs.getD 0 undef = v at hv0
      cases hv0 with
      | acc _ _ _ hpl hi hv =>
        have hval := (hv ver false 1 (encI xs) hg).2 rfl
        have hbx := hr.box i
        rw [hg] at hbx
        obtain ⟨h0, h1, h2, h3⟩ := hbx
        cases hxe : xs with
        | nil =>
          subst hxe
          have hs : ∃ a cap, ρ.cur i = .slice a 0 cap := by
            rcases h3 with ⟨h3, _⟩ | ⟨b, cap, cur, ty, h3, _⟩
            · exact ⟨_, _, h3⟩
            · exact ⟨_, _, h3⟩
          obtain ⟨a, cap, hs⟩ := hs
          rw [hval, hs]
          refine (sort_calls0 a cap w).mono ?_
          rintro e w' ⟨rfl, rfl⟩
          have hh : setH h i (.acc ver false 1 (encI (sortI []))) = h := setH_self (by rw [hg]; simp [sortI])
          rw [hh]
          exact ⟨_, rfl, ρ, hr, .c _ _ (.tup [] #[] rfl fun j x hx => by simp at hx), Ext.refl _ _ _⟩
        | cons x0 xr =>
        rw [← hxe]
        rcases h3 with ⟨_, he⟩ | ⟨b, cap, cur, ty, h3, h4, h5, h6, h7⟩
        · rw [hxe] at he; cases he
        rw [encI_len] at h3
        rw [hval, h3]
        have hH : Sort.Holds (Value.int .i64) w b 0 xs.toArray := fun j hj => by
          have hj' : j < xs.length := by simpa using hj
          obtain ⟨u, hu, _, hc⟩ := h7 j 0 (.int .i64 xs[j]) (by simp [at2, encI, hj'])
          cases hc
          have hu : cur[j]? = some (.int .i64 xs[j]) := by simpa using hu
          refine ⟨?_, ?_⟩
          · simp [World.cell?, h4, hu, hj']
          · simp [World.frozen?, h4]
        refine (sort_calls b cap xs w hH (Array.getElem?_eq_some_iff.1 h4).1 (by omega)).mono ?_
        rintro e w' ⟨rfl, n, os, rfl⟩
        exact ⟨_, rfl, sortPost hr hg (by simp [sortI]) h3 n os⟩
    · cases hK
  · cases hK
end Go.Ab

namespace Go.Ab
open Go
open Go.Proofs

def zerosTo (xs : List Int) : List Int := Lib.compact xs ++ List.replicate (xs.length - (Lib.compact xs).length) 0
theorem compact_calls (blk cap : Nat) (zs : List Int) (w : World) (hH : Sort.Holds (Value.int .i64) w blk 0 zs.toArray) (hsz : zs.length ≤ 9223372036854775807) (hcap : zs.length ≤ cap) :
    Calls Pr 60 #[.slice (some ⟨blk, 0, none⟩) zs.length cap] w fun e w' => e = .returned (.slice (some ⟨blk, 0, none⟩) (Lib.compact zs).length cap) ∧ ∃ q, w' = Sort.putRow (Value.int .i64) (Sort.ahead w q) blk 0 (zerosTo zs).toArray :=
  Any.slices_Compact_int Tryd.lays20 blk 0 cap zs w hH hsz hcap
theorem compact_calls0 (a : Option Addr) (cap : Nat) (w : World) : Calls Pr 60 #[.slice a 0 cap] w fun e w' => e = .returned (.slice a 0 cap) ∧ w' = w :=
  Any.slices_Compact_int_empty Tryd.lays20 a cap w
def compactN : Inl := ⟨fun ss h _ K => match ss with
  | [.acc i ver] => match getH h i with
    | .acc ver' false 1 L => bif Nat.beq ver ver' then (decI L).bind fun xs => bif Nat.ble xs.length 4000000000 && Nat.ble (Lib.compact xs).length xs.length then
        (bif xs.isEmpty then K (.acc i ver) h else K (.sub i ver 0 (Lib.compact xs).length) (setH h i (.acc ver false 1 (encI (zerosTo xs))))) else none else none
    | _ => none
  | _ => none⟩

theorem compact_nat : NatN compactN := fun ss h => by
  unfold compactN
  dsimp only
  split
  · split
    · exact .cond _ (.bind _ fun _ => .cond _ (.cond _ (.ret _ _) (.ret _ _)) .none) .none
    · exact .none
  · exact .none

theorem compact_good : GoodN Pr 60 compactN := by
  refine ⟨⟨⟨_, Tryd.func60, by kernel_rfl, by kernel_rfl⟩, fun ss h β K r hK => ?_⟩, compact_nat⟩
  unfold compactN at hK
  dsimp only at hK
  split at hK
  · rename_i i ver
    split at hK
    · rename_i ver' L hg
      replace hK := cond_some hK
      obtain ⟨hb, hK⟩ := hK
      have hb := beq_true hb
      subst hb
      replace hK := bind_some' hK
      obtain ⟨xs, hx, hK⟩ := hK
      replace hK := cond_some hK
      obtain ⟨hp, hK⟩ := hK
      have hL := decI_enc hx
      subst hL
      simp only [Bool.and_eq_true] at hp
      have hsm := Nat.le_of_ble_eq_true hp.1
      have hcl := Nat.le_of_ble_eq_true hp.2
      have one : ∀ (vs : Array Value) (h1 : vs.size = 1), vs = #[vs.getD 0 undef] := fun vs hsz => by
        apply Array.ext
        · simpa using hsz
        · intro j h1 h2
          have : j = 0 := by simp at h2; exact h2
          subst this
          simp [h1]
      cases he : xs.isEmpty with
      | true =>
        rw [he, cond_true] at hK
        have he := List.isEmpty_iff.1 he
        subst he
        refine ⟨_, _, hK, fun ρ X w vs hr hsz hvs => ?_⟩
        have hv0 := hvs 0 (.acc i ver) rfl
        rw [one vs (by simpa using hsz)]
        generalize vs.getD 0 undef = v at hv0
        cases hv0 with
        | acc _ _ _ hpl hi hv =>
          have hval := (hv ver false 1 (encI []) hg).2 rfl
          have hbx := hr.box i
          rw [hg] at hbx
          obtain ⟨h0, h1, h2, h3⟩ := hbx
          have hs : ∃ a cap, ρ.cur i = .slice a 0 cap := by
            rcases h3 with ⟨h3, _⟩ | ⟨b, cap, cur, ty, h3, _⟩
            · exact ⟨_, _, h3⟩
            · exact ⟨_, _, h3⟩
          obtain ⟨a, cap, hs⟩ := hs
          have hvv : VR ρ h w (Mut ρ X h) (.acc i ver) v := .acc i ver v hpl hi hv
          rw [hval, hs] at hvv ⊢
          refine (compact_calls0 a cap w).mono ?_
          rintro e w' ⟨rfl, rfl⟩
          exact ⟨_, rfl, ρ, hr, hvv, Ext.refl _ _ _⟩
      | false =>
        rw [he, cond_false] at hK
        refine ⟨_, _, hK, fun ρ X w vs hr hsz hvs => ?_⟩
        have hv0 := hvs 0 (.acc i ver) rfl
        rw [one vs (by simpa using hsz)]
        generalize vs.getD 0 undef = v at hv0
        cases hv0 with
        | acc _ _ _ hpl hi hv =>
          have hval := (hv ver false 1 (encI xs) hg).2 rfl
          have hbx := hr.box i
          rw [hg] at hbx
          obtain ⟨h0, h1, h2, h3⟩ := hbx
          rcases h3 with ⟨_, hn⟩ | ⟨b, cap, cur, ty, h3, h4, h5, h6, h7⟩
          · rw [List.map_eq_nil_iff.1 hn] at he; cases he
          rw [encI_len] at h3 h5
          rw [hval, h3]
          have hH : Sort.Holds (Value.int .i64) w b 0 xs.toArray := fun j hj => by
            have hj' : j < xs.length := by simpa using hj
            obtain ⟨u, hu, _, hc⟩ := h7 j 0 (.int .i64 xs[j]) (by simp [at2, encI, hj'])
            cases hc
            have hu : cur[j]? = some (.int .i64 xs[j]) := by simpa using hu
            refine ⟨?_, ?_⟩
            · simp [World.cell?, h4, hu, hj']
            · simp [World.frozen?, h4]
          have hzl : (zerosTo xs).length = xs.length := by simp [zerosTo]; omega
          refine (compact_calls b cap xs w hH (by omega) h5).mono ?_
          rintro e w' ⟨rfl, q, rfl⟩
          have hu := rowUpd hr hg hzl h3 q #[]
          rw [Sort.grow_empty] at hu
          refine ⟨_, rfl, _, hu.1, .sub i ver 0 _ _ rfl (by simpa using hi) fun ver' fr sz l hl => ?_, hu.2⟩
          rw [getH_setH_same _ hi] at hl
          cases hl
          refine ⟨Nat.le_refl _, fun _ => ⟨by rw [encI_len, hzl]; omega, some ⟨b, 0, none⟩, cap, cap, 0, ?_, by omega, by omega, by omega, fun _ => by omega, ?_⟩⟩
          · rw [encI_len, hzl]; simpa using h3
          · simp [Addr.add]
    · cases hK
  · cases hK
end Go.Ab

namespace Go.Ab
open Go
open Go.Proofs
noncomputable abbrev k32 : Cx := cxG Pr Tryd.f32 [(36, gAllI)] [(59, sortN), (60, compactN)]
set_option maxRecDepth 100000 in
theorem r32 (ls : List Ls) (β : Type) (K : CV → List (List CV) → Option β) : fnK k32 Tryd.f32 [cLss.enc ls] [] K =
 Option.bind (decLs (List.map encLs ls)) fun a =>
 bif smLs a then
 Option.bind (decI (encI (catI a))) fun xs =>
 bif Nat.ble (List.length xs) 4000000000 then
 Option.bind (decI (encI (sortI xs))) fun xs_1 =>
 bif Nat.ble (List.length xs_1) 4000000000 && Nat.ble (List.length (Lib.compact xs_1)) (List.length xs_1) then
 bif List.isEmpty xs_1 then
 K (CV.bool ((↑(List.length (encI (sortI xs))) : Int) == (↑(List.length (encI (catI a))) : Int))) []
 else K (CV.bool ((↑(List.length (Lib.compact xs_1)) : Int) == (↑(List.length (encI (catI a))) : Int))) []
 else none
 else none
 else none := by kernel_rfl

theorem compact_le (zs : List Int) : (Lib.compact zs).length ≤ zs.length := by
  unfold Lib.compact Lib.compactUpTo
  rw [List.length_map]
  exact Nat.le_trans (List.length_filter_le _ _) (by simp)
theorem sortI_len (xs : List Int) : (sortI xs).length = xs.length := by simp [sortI]
theorem catI_len : ∀ {ls : List Ls}, ls.all smL = true → (catI ls).length ≤ 300000 * ls.length
  | [], _ => by simp [catI]
  | l :: ls, h => by
    simp only [List.all_cons, Bool.and_eq_true] at h
    obtain ⟨l1, l2, l3⟩ := smL_le h.1
    have ih := catI_len h.2
    rw [show catI (l :: ls) = one3 l ++ catI ls from rfl]
    simp only [one3, List.length_append, List.length_cons]
    omega
/-- No number stands in two places (Nodup, by sorting). -/
def apartV (ls : List Ls) : Bool := Nat.beq (Lib.compact (sortI (catI ls))).length (catI ls).length
def gApart : Callee := g1 cLss smLs fun ls => cB.enc (apartV ls)
theorem apart_good : GoodC Pr 32 gApart :=
  good1 ((CxOK.baseG (Good.cons catI_good Good.nil) (GoodI.cons sort_good (GoodI.cons compact_good GoodI.nil)) (eqOK_none fun _ => rfl)).sound (cx := k32) Tryd.func32 (by kernel_rfl) (by kernel_rfl) rfl (by kernel_rfl)) fun ls hp β K => by
    obtain ⟨h1, h2⟩ := smLs_le hp
    have hc := catI_len h2
    rw [r32]
    simp only [decLs_map, Option.bind_some, hp, cond_true, decI_map, sortI_len, Nat.ble_eq_true_of_le (show (catI ls).length ≤ 4000000000 by omega), Bool.and_self, Nat.ble_eq_true_of_le (show (Lib.compact (sortI (catI ls))).length ≤ (catI ls).length from sortI_len (catI ls) ▸ compact_le _), encI_len, beq_nat]
    cases e1 : (sortI (catI ls)).isEmpty with
    | false => rw [cond_false]; rfl
    | true =>
      have e2 := List.isEmpty_iff.1 e1
      have e3 : catI ls = [] := by
        have := sortI_len (catI ls)
        rw [e2] at this
        exact List.eq_nil_of_length_eq_zero this.symm
      unfold apartV
      rw [cond_true, e2, e3]
      rfl
end Go.Ab

namespace Go.Ab
open Go
open Go.Proofs
theorem allCG_good : GoodC Pr 31 gAllC := ⟨allC_sound, allC_nat⟩
noncomputable abbrev k9a : Cx := cxG Pr Tryd.f9 [(23, gShaped), (29, gListed), (31, gAllC), (30, gEvery), (32, gApart)] [] (fun q => Nat.beq q 15)
abbrev p9 := [false, true, false, true, true, true, true]
abbrev o9 : Exit → List Nat := fun | .ret => [4] | _ => [2, 5, 6]
set_option maxRecDepth 100000 in
theorem t9x (h g : Hp) (xs ys : List Ls) (n i : Int) (m : Nat) (β : Type) (K : Exit → List CV → List (List CV) → Option β) : loopB k9a [2, 5, 6, 18, 19, 20] o9 p9 (bodyL (bodyOf Tryd.f9) p9) (m + 1) [cPH.enc h, cClo.enc (.may g), cLss.enc xs, cLss.enc ys, cI.enc n, cI.enc i] [] K =
 bif decide (i < n) then
 Option.bind (rdE (List.map encLs ys) i) fun c =>
 Option.bind c[0]? fun x =>
 Option.bind (asL 1 x) fun l =>
 Option.bind c[1]? fun x =>
 Option.bind (asL 1 x) fun l_1 =>
 Option.bind c[2]? fun x =>
 Option.bind (asL 1 x) fun l_2 =>
 Option.bind (Option.bind (decI (encI (Hp.w h))) fun w =>
 Option.bind (decP (List.map encP (Hp.p h))) fun p =>
 Option.bind (decI (encI (Ls.a (Hp.f h)))) fun a =>
 Option.bind (decI (encI (Ls.b (Hp.f h)))) fun b =>
 Option.bind (decI (encI (Ls.c (Hp.f h)))) fun c =>
 Option.bind (decBs (encBs (Hp.c h))) fun d => some { w := w, p := p, f := { a := a, b := b, c := c }, c := d }) fun a =>
 Option.bind (Option.bind (decI l) fun a =>
 Option.bind (decI l_1) fun b => Option.bind (decI l_2) fun c => some { a := a, b := b, c := c }) fun b =>
 bif smH a && shapedE a && smL b then
 bif !listedV a b then K Exit.ret [CV.bool false] []
 else loopB k9a [2, 5, 6, 18, 19, 20] o9 [false, true, false, true, true, true, true] (bodyL (bodyOf Tryd.f9) p9) m [CV.pc [CV.sl 1 (encI (Hp.w h)), CV.sl 2 (List.map encP (Hp.p h)), CV.sl 1 (encI (Ls.a (Hp.f h))), CV.sl 1 (encI (Ls.b (Hp.f h))), CV.sl 1 (encI (Ls.c (Hp.f h))), CV.sl 1 (encBs (Hp.c h))] 0, CV.fn 24 [] [CV.pc [CV.sl 1 (encI (Hp.w g)), CV.sl 2 (List.map encP (Hp.p g)), CV.sl 1 (encI (Ls.a (Hp.f g))), CV.sl 1 (encI (Ls.b (Hp.f g))), CV.sl 1 (encI (Ls.c (Hp.f g))), CV.sl 1 (encBs (Hp.c g))] 0], CV.sl 3 (List.map encLs xs), CV.sl 3 (List.map encLs ys), CV.int IntKind.i64 n, CV.int IntKind.i64 (IntKind.wrap IntKind.i64 (i + 1))] [] fun a a_1 a_2 => K a a_1 a_2
 else none
 else
 K (Exit.exit 0) [CV.pc [CV.sl 1 (encI (Hp.w h)), CV.sl 2 (List.map encP (Hp.p h)), CV.sl 1 (encI (Ls.a (Hp.f h))), CV.sl 1 (encI (Ls.b (Hp.f h))), CV.sl 1 (encI (Ls.c (Hp.f h))), CV.sl 1 (encBs (Hp.c h))] 0, CV.fn 24 [] [CV.pc [CV.sl 1 (encI (Hp.w g)), CV.sl 2 (List.map encP (Hp.p g)), CV.sl 1 (encI (Ls.a (Hp.f g))), CV.sl 1 (encI (Ls.b (Hp.f g))), CV.sl 1 (encI (Ls.c (Hp.f g))), CV.sl 1 (encBs (Hp.c g))] 0], CV.sl 3 (List.map encLs xs)] [] := by kernel_rfl

theorem may_loop (h g : Hp) (xs ys : List Ls) (hh : (smH h && shapedE h) = true) (hl : ys.length ≤ 100000) (hs : ys.all smL = true) (β : Type) (K : Exit → List CV → List (List CV) → Option β) : ∀ (m i : Nat), i + m = ys.length →
    loopB k9a [2, 5, 6, 18, 19, 20] o9 p9 (bodyL (bodyOf Tryd.f9) p9) (m + 1) [cPH.enc h, cClo.enc (.may g), cLss.enc xs, cLss.enc ys, cI.enc (ys.length : Int), cI.enc (i : Int)] [] K =
      bif (ys.drop i).all (listedV h) then K (.exit 0) [cPH.enc h, cClo.enc (.may g), cLss.enc xs] [] else K .ret [cB.enc false] [] := by
  intro m
  induction m with
  | zero =>
    intro i h1
    rw [t9x, decide_eq_false (by omega), cond_false, List.drop_eq_nil_of_le (by omega)]
    rfl
  | succ m ih =>
    intro i h1
    have hi : i < ys.length := by omega
    have e0 : (List.map encLs ys)[(i : Int).toNat]? = some (encLs ys[i]) := by simp [hi]
    have hsm := List.all_eq_true.1 hs _ (List.getElem_mem hi)
    rw [t9x, decide_eq_true (by omega), cond_true, rdE_nat (by omega), e0, List.drop_eq_getElem_cons hi]
    generalize ys[i] = l at hsm
    have g1 : (encLs l)[0]? = some (.sl 1 (encI l.a)) := rfl
    have g2 : (encLs l)[1]? = some (.sl 1 (encI l.b)) := rfl
    have g3 : (encLs l)[2]? = some (.sl 1 (encI l.c)) := rfl
    have e : (⟨h.w, h.p, ⟨h.f.a, h.f.b, h.f.c⟩, h.c⟩ : Hp) = h := rfl
    have e' : (⟨l.a, l.b, l.c⟩ : Ls) = l := rfl
    simp only [Option.bind_some, g1, g2, g3, asL_1, decI_map, decP_map, decBs_enc, e, e', hh, hsm, Bool.and_self, cond_true, List.all_cons, show (i : Int) + 1 = ((i + 1 : Nat) : Int) by omega, wrap_in (a := ((i + 1 : Nat) : Int)) (by omega)]
    cases listedV h l with
    | false => rfl
    | true =>
      simp only [Bool.not_true, cond_false, Bool.true_and]
      exact ih (i + 1) (by omega)
def cMay : Cod Hp where
  enc := fun h => .fn 24 [] [cPH.enc h]
  dec := fun c => match c with | .fn f [] [x] => bif Nat.beq f 24 then cPH.dec x else none | _ => none
  ok := fun c a h => by
    split at h
    · rename_i f x
      cases e : Nat.beq f 24 with
      | true => rw [e] at h; rw [Nat.eq_of_beq_eq_true e, cPH.ok _ _ h]
      | false => rw [e] at h; cases h
    · cases h
  de := fun h => cPH.de h
def L9 : LoopSem := l6 [2, 5, 6, 18, 19, 20] o9 cPH cMay cLss cLss cI cI c0 (fun h _ _ ys n i _ => ((smH h && shapedE h) && (Nat.ble ys.length 100000 && (ys.all smL && (i == 0 && n == (ys.length : Int))))))
  fun h g xs ys _ _ _ => .alt (ys.all (listedV h)) (.one (.exit 0) [cPH.enc h, cMay.enc g, cLss.enc xs] []) (.one .ret [cB.enc false] [])
noncomputable abbrev k9 : Cx := k9a.loop p9 L9
theorem k9_ok : CxOK k9 [(23, gShaped), (29, gListed), (31, gAllC), (30, gEvery), (32, gApart)] := by
  refine CxOK.loop6 (CxOK.baseG (Good.cons shaped_good (Good.cons listed_good (Good.cons allCG_good (Good.cons every_good (Good.cons apart_good Good.nil))))) GoodI.nil (eqOK_none fun _ => rfl)) rfl fun h g xs ys n i u hp => ?_
  simp only [Bool.and_eq_true, beq_iff_eq] at hp
  obtain ⟨⟨hh1, hh2⟩, hl, hs, hi, hn⟩ := hp
  have hh : (smH h && shapedE h) = true := by rw [hh1, hh2]; rfl
  subst hi hn
  refine ⟨ys.length + 1, fun β K => ?_⟩
  have := may_loop h g xs ys hh (Nat.le_of_ble_eq_true hl) hs β K ys.length 0 (by omega)
  rw [List.drop_zero] at this
  exact this
set_option maxRecDepth 100000 in
theorem r9 (h : Hp) (ls : List Ls) (β : Type) (K : CV → List (List CV) → Option β) : fnK k9 Tryd.f9 [cHp.enc h, cLss.enc ls] [] K =
 Option.bind (Option.bind (decI (encI (Hp.w h))) fun w =>
 Option.bind (decP (List.map encP (Hp.p h))) fun p =>
 Option.bind (decI (encI (Ls.a (Hp.f h)))) fun a =>
 Option.bind (decI (encI (Ls.b (Hp.f h)))) fun b =>
 Option.bind (decI (encI (Ls.c (Hp.f h)))) fun c =>
 Option.bind (decBs (encBs (Hp.c h))) fun d => some { w := w, p := p, f := { a := a, b := b, c := c }, c := d }) fun a =>
 bif smH a then
 bif !shapedE a then K (CV.bool false) []
 else
 if List.length ([[CV.sl 1 (encI (Ls.a (Hp.f h))), CV.sl 1 (encI (Ls.b (Hp.f h))), CV.sl 1 (encI (Ls.c (Hp.f h)))]] ++ List.map encLs ls) ≤ LIM then
 Option.bind (Option.bind (decI (encI (Hp.w h))) fun w =>
 Option.bind (decP (List.map encP (Hp.p h))) fun p =>
 Option.bind (decI (encI (Ls.a (Hp.f h)))) fun a =>
 Option.bind (decI (encI (Ls.b (Hp.f h)))) fun b =>
 Option.bind (decI (encI (Ls.c (Hp.f h)))) fun c =>
 Option.bind (decBs (encBs (Hp.c h))) fun d => some { w := w, p := p, f := { a := a, b := b, c := c }, c := d }) fun a =>
 Option.bind (Option.bind (decI (encI (Hp.w h))) fun w =>
 Option.bind (decP (List.map encP (Hp.p h))) fun p =>
 Option.bind (decI (encI (Ls.a (Hp.f h)))) fun a =>
 Option.bind (decI (encI (Ls.b (Hp.f h)))) fun b =>
 Option.bind (decI (encI (Ls.c (Hp.f h)))) fun c =>
 Option.bind (decBs (encBs (Hp.c h))) fun d => some { w := w, p := p, f := { a := a, b := b, c := c }, c := d }) fun b =>
 Option.bind (decLs ([CV.sl 1 (encI (Ls.a (Hp.f h))), CV.sl 1 (encI (Ls.b (Hp.f h))), CV.sl 1 (encI (Ls.c (Hp.f h)))] :: List.append [] (List.map encLs ls))) fun c =>
 Option.bind (decLs ([CV.sl 1 (encI (Ls.a (Hp.f h))), CV.sl 1 (encI (Ls.b (Hp.f h))), CV.sl 1 (encI (Ls.c (Hp.f h)))] :: List.append [] (List.map encLs ls))) fun d =>
 bif smH a && shapedE a && (Nat.ble (List.length d) 100000 && (List.all d smL && (↑(Nat.succ (Nat.add (List.length (List.append [] (List.map encLs ls))) 0)) : Int) == (↑(List.length d) : Int))) then
 bif List.all d (listedV a) then
 Option.bind (decP (List.map encP (Hp.p a))) fun ps =>
 bif Nat.ble (List.length ps) 200 then
 Option.bind (decI (atV (allCs ps))) fun a =>
 Option.bind (Clo.dec (CV.fn 24 [] [CV.pc [CV.sl 1 (encI (Hp.w b)), CV.sl 2 (List.map encP (Hp.p b)), CV.sl 1 (encI (Ls.a (Hp.f b))), CV.sl 1 (encI (Ls.b (Hp.f b))), CV.sl 1 (encI (Ls.c (Hp.f b))), CV.sl 1 (encBs (Hp.c b))] 0])) fun b =>
 bif List.all a (Clo.pre b) && Nat.ble (List.length a) 100000 then
 bif List.all a (Clo.val b) then
 Option.bind (decLs (List.map encLs c)) fun a =>
 bif smLs a then K (CV.bool (apartV a)) [] else none
 else K (CV.bool false) []
 else none
 else none
 else K (CV.bool false) []
 else none
 else none
 else none := by kernel_rfl

theorem de_ls (h : Hp) (ls : List Ls) : decLs ([CV.sl 1 (encI (Ls.a (Hp.f h))), CV.sl 1 (encI (Ls.b (Hp.f h))), CV.sl 1 (encI (Ls.c (Hp.f h)))] :: List.append [] (List.map encLs ls)) = some (h.f :: ls) := decLs_map (h.f :: ls)
def cellAs (ps : List Pg) : List Int := (allCs ps).map (·.1)
theorem cellAs_dec (ps : List Pg) : decI (encI (List.map (fun x => x.fst) (allCs ps))) = some (cellAs ps) := decI_map _
def mayHpV (h : Hp) (ls : List Ls) : Bool := shapedE h && ((h.f :: ls).all (listedV h) && ((cellAs h.p).all (mayV h) && apartV (h.f :: ls)))
def gMayHp : Callee := g2 cHp cLss (fun h ls => smH h && smLs (h.f :: ls)) fun h ls => cB.enc (mayHpV h ls)
theorem cells_pre {h : Hp} (hs : smH h = true) (hh : shapedE h = true) : (cellAs h.p).all (Clo.may h).pre = true := List.all_eq_true.2 fun a ha => by
  have h1 := room_pos h.p a
  rw [decide_eq_true (show a ∈ (allCs h.p).map (·.1) from ha)] at h1
  obtain ⟨g1, g2⟩ := room_in (of_decide_eq_true h1)
  obtain ⟨q1, q2⟩ := shaped_in hs hh g1 g2
  show (inW h a && inP h a) = true
  rw [q1, q2]; rfl
theorem mayHp_good : GoodC Pr 9 gMayHp :=
  good2 (k9_ok.sound (cx := k9) Tryd.func9 (by kernel_rfl) (by kernel_rfl) rfl (by kernel_rfl)) fun h ls hp β K => by
    simp only [Bool.and_eq_true] at hp
    obtain ⟨hs, hls⟩ := hp
    obtain ⟨h1, h2⟩ := smLs_le hls
    have hL := lim_val
    have e : (⟨h.w, h.p, ⟨h.f.a, h.f.b, h.f.c⟩, h.c⟩ : Hp) = h := rfl
    refine (r9 h ls β K).trans ?_
    simp only [decI_map, decP_map, decBs_enc, Option.bind_some, e, hs, cond_true]
    unfold mayHpV
    cases hsh : shapedE h with
    | false => rfl
    | true =>
      have hn : ((Nat.succ (Nat.add (List.length (List.append [] (List.map encLs ls))) 0) : Nat) : Int) = ((h.f :: ls).length : Int) := by
        show ((Nat.succ (List.length ([] ++ List.map encLs ls) + 0) : Nat) : Int) = _
        simp
      have hc8 : (cellAs h.p).length ≤ 100000 := by
        have := Nat.le_of_ble_eq_true (all_len8 (ps := h.p) (Nat.ble_eq_true_of_le (smH_le hs).2.1))
        have e2 : (cellAs h.p).length = ((allCs h.p).map (·.1)).length := rfl
        omega
      rw [Bool.not_true, cond_false, if_pos (by simp at h1 ⊢; omega)]
      simp only [de_may, de_ls, Option.bind_some, hn, hs, hsh, h2, beq_self_eq_true, Nat.ble_eq_true_of_le (show (h.f :: ls).length ≤ 100000 by omega), Bool.and_self, cond_true, Bool.true_and]
      cases (h.f :: ls).all (listedV h) with
      | false => rfl
      | true =>
        simp only [cond_true, Nat.ble_eq_true_of_le (smH_le hs).2.1, atV_enc, cellAs_dec, Option.bind_some, cells_pre hs hsh, Nat.ble_eq_true_of_le hc8, Bool.and_self, decLs_map, hls, Bool.true_and]
        show (bif (cellAs h.p).all (mayV h) then _ else _) = _
        cases (cellAs h.p).all (mayV h) <;> rfl
end Go.Ab

namespace Go.Ab
open Go Go.ChangeShapes Go.WideShapes Go.RowKit
open Go.Proofs

theorem clone_nil (n c : Nat) (w : World) : Calls Pr 61 #[.slice none n c] w fun e w' => e = .returned (.slice none 0 0) ∧ w' = w :=
  Any.slices_Clone_int_nil Tryd.lays15 n c w
theorem clone_zero (a : Addr) (c : Nat) (w : World) : Calls Pr 61 #[.slice (some a) 0 c] w fun e w' => ∃ v' t, e = .returned v' ∧ w'.ownsRow w.heap.size t 1 v' 0 [] ∧ Below w.heap.size w w' :=
  (Any.slices_Clone_int_zero Tryd.lays15 a c w).mono fun e w' h => by
    obtain ⟨v', h1, h2, _, h3⟩ := h
    exact ⟨v', _, h1, h2, h3⟩
def gCloneA : Callee := g1 cIs (fun w => Nat.ble w.length 4000000000) fun w => cOI.enc w
theorem below_io {w w' : World} (h : Below w.heap.size w w') : SameIO w w' ∧ w.heap.size ≤ w'.heap.size ∧ ∀ b, b < w.heap.size → w'.heap[b]? = w.heap[b]? := by
  refine ⟨⟨h.os, ?_⟩, h.size, h.block⟩
  rw [h.output, h.tape]
theorem cloneA_good : GoodC Pr 61 gCloneA := by
  refine ⟨⟨cloneI_good.s.enter, fun args conts β K r hr => ?_⟩, g1_nat _⟩
  unfold gCloneA g1 at hr
  dsimp only at hr
  split at hr
  · rename_i a
    replace hr := bind_some' hr
    obtain ⟨xs, hx, hr⟩ := hr
    replace hr := cond_some hr
    obtain ⟨hp, hr⟩ := hr
    cases hxs : xs.isEmpty with
    | false =>
      refine cloneI_good.s.calls [a] [] β K r ?_
      unfold gCloneI g1
      dsimp only
      rw [hx, Option.bind_some, hxs, hp]
      exact hr
    | true =>
      have hxs := List.isEmpty_iff.1 hxs
      subst hxs
      have ea := cIs.ok _ _ hx
      subst ea
      refine ⟨_, _, hr, fun w M vs bs B m => ?_⟩
      have hv : vs = #[vs.getD 0 undef] := by
        apply Array.ext
        · simpa using m.size
        · intro j h1 h2
          have : j = 0 := by simp at h2; exact h2
          subst this
          simp [h1]
      have ha := m.arg 0 (cIs.enc []) rfl
      rw [hv]
      generalize vs.getD 0 undef = v at ha
      obtain ⟨rfl, rfl⟩ : bs = [] ∧ B = [] := by
        have hc := m.cont
        cases bs with
        | nil => exact ⟨rfl, hc⟩
        | cons b bs => exact hc.elim
      have hcr : CR w M (.sl 1 []) v := by
        rcases ha with ⟨k, b, h1, _⟩ | ha
        · cases h1
        · exact ha
      obtain ⟨a, cap, rfl⟩ : ∃ a cap, v = .slice a 0 cap := by
        cases hcr with
        | sl0 _ a cap => exact ⟨a, cap, rfl⟩
        | sl => exact ⟨_, _, rfl⟩
      · cases a with
        | none =>
          refine (clone_nil 0 cap w).mono ?_
          rintro e w' ⟨rfl, rfl⟩
          exact ⟨_, [], [], rfl, ⟨⟨rfl, rfl⟩, Nat.le_refl _, fun _ _ _ => rfl, fun b hb => (by cases hb), List.nodup_nil, .ownN 1 (by omega), rfl⟩⟩
        | some a =>
          refine (clone_zero a cap w).mono ?_
          rintro e w' ⟨v', t, rfl, ho, hb⟩
          obtain ⟨q1, q2, q3⟩ := below_io hb
          rcases ho.2 with ⟨rfl, _⟩ | ⟨g, cap', cur, rfl, g1, g2, g3, g4, g5, g6⟩
          · exact ⟨_, [], [], rfl, ⟨q1, q2, fun b hb _ => q3 b hb, fun b hb => (by cases hb), List.nodup_nil, .ownN 1 (by omega), rfl⟩⟩
          · refine ⟨_, [g], [], rfl, ⟨q1, q2, fun b hb _ => q3 b hb, fun b hb => ?_, by simp, ?_, rfl⟩⟩
            · simp at hb; subst hb; exact .inr g1
            · exact .own 1 [] g cap' cur t (by omega) (fun e he => by cases he) (Nat.zero_le _) g2 (Nat.zero_le _) (by omega) fun k j x hx => by simp [at2] at hx
  · cases hr
end Go.Ab

namespace Go.Ab
open Go
open Go.Proofs
theorem roomN (ps : List Pg) (a : Int) : (roomA ps a == 0) = !decide (roomA ps a > 0) := by
  have := (roomA_le ps a).1
  by_cases h : roomA ps a > 0
  · rw [decide_eq_true h]; exact beq_eq_false_iff_ne.2 (by omega)
  · rw [decide_eq_false h]; exact beq_iff_eq.2 (by omega)
noncomputable abbrev k14 : Cx := cxG Pr Tryd.f14 [(9, gMayHp), (39, gRoom), (26, gWord), (25, gUnp)]
set_option maxRecDepth 100000 in
theorem r14 (h : Hp) (a : Int) (β : Type) (K : CV → List (List CV) → Option β) : fnK k14 Tryd.f14 [cHp.enc h, cI.enc a] [] K =
 Option.bind (Option.bind (decI (encI (Hp.w h))) fun w =>
 Option.bind (decP (List.map encP (Hp.p h))) fun p =>
 Option.bind (decI (encI (Ls.a (Hp.f h)))) fun a =>
 Option.bind (decI (encI (Ls.b (Hp.f h)))) fun b =>
 Option.bind (decI (encI (Ls.c (Hp.f h)))) fun c =>
 Option.bind (decBs (encBs (Hp.c h))) fun d => some { w := w, p := p, f := { a := a, b := b, c := c }, c := d }) fun a_1 =>
 bif smH a_1 && smLs [Hp.f a_1] then
 bif !mayHpV a_1 [] then
 K (CV.tup [CV.agg [CV.bool false, CV.bool false, CV.bool false, CV.int IntKind.i64 0, CV.int IntKind.i64 0, CV.int IntKind.i64 0], CV.int IntKind.i64 1]) []
 else
 Option.bind (decP (List.map encP (Hp.p h))) fun ps =>
 bif Nat.ble (List.length ps) 200 then
 bif roomA ps a == 0 then
 K (CV.tup [CV.agg [CV.bool false, CV.bool false, CV.bool false, CV.int IntKind.i64 0, CV.int IntKind.i64 0, CV.int IntKind.i64 0], CV.int IntKind.i64 3]) []
 else
 Option.bind (Option.bind (decI (encI (Hp.w h))) fun w =>
 Option.bind (decP (List.map encP (Hp.p h))) fun p =>
 Option.bind (decI (encI (Ls.a (Hp.f h)))) fun a =>
 Option.bind (decI (encI (Ls.b (Hp.f h)))) fun b =>
 Option.bind (decI (encI (Ls.c (Hp.f h)))) fun c =>
 Option.bind (decBs (encBs (Hp.c h))) fun d => some { w := w, p := p, f := { a := a, b := b, c := c }, c := d }) fun a_2 =>
 bif inW a_2 a then
 bif !Hd.a (bif unpOK (wordE a_2 a) then unp (wordE a_2 a) else Hd.z0) then
 K (CV.tup [CV.agg [CV.bool false, CV.bool false, CV.bool false, CV.int IntKind.i64 0, CV.int IntKind.i64 0, CV.int IntKind.i64 0], CV.int IntKind.i64 3]) []
 else
 K (CV.tup [CV.agg [CV.bool (Hd.a (bif unpOK (wordE a_2 a) then unp (wordE a_2 a) else Hd.z0)), CV.bool (Hd.b (bif unpOK (wordE a_2 a) then unp (wordE a_2 a) else Hd.z0)), CV.bool (Hd.c (bif unpOK (wordE a_2 a) then unp (wordE a_2 a) else Hd.z0)), CV.int IntKind.i64 (Hd.x (bif unpOK (wordE a_2 a) then unp (wordE a_2 a) else Hd.z0)), CV.int IntKind.i64 (Hd.y (bif unpOK (wordE a_2 a) then unp (wordE a_2 a) else Hd.z0)), CV.int IntKind.i64 (Hd.z (bif unpOK (wordE a_2 a) then unp (wordE a_2 a) else Hd.z0))], CV.int IntKind.i64 0]) []
 else none
 else none
 else none := by kernel_rfl

def unpX (h : Hp) (a : Int) : Hd := bif unpOK (wordE h a) then unp (wordE h a) else Hd.z0
def headE (h : Hp) (a : Int) : Hd × Int := bif !mayHpV h [] then (Hd.z0, 1) else bif roomA h.p a == 0 then (Hd.z0, 3) else bif !(unpX h a).a then (Hd.z0, 3) else (unpX h a, 0)
def gHead : Callee := g2 cHp cI (fun h _ => smH h && smLs [h.f]) fun h a => .tup [cHd.enc (headE h a).1, cI.enc (headE h a).2]
theorem shaped_of {h : Hp} {ls : List Ls} (hm : mayHpV h ls = true) : shapedE h = true := by
  unfold mayHpV at hm
  cases hs : shapedE h with
  | true => rfl
  | false => rw [hs] at hm; cases hm
theorem head_good : GoodC Pr 14 gHead :=
  good2 ((CxOK.baseG (Good.cons mayHp_good (Good.cons roomH_good (Good.cons word_good (Good.cons unp_good Good.nil)))) GoodI.nil (eqOK_none fun _ => rfl)).sound (cx := k14) Tryd.func14 (by kernel_rfl) (by kernel_rfl) rfl (by kernel_rfl)) fun h a hp β K => by
    have hp0 := hp
    simp only [Bool.and_eq_true] at hp
    obtain ⟨hs, hls⟩ := hp
    have e : (⟨h.w, h.p, ⟨h.f.a, h.f.b, h.f.c⟩, h.c⟩ : Hp) = h := rfl
    refine (r14 h a β K).trans ?_
    simp only [decI_map, decP_map, decBs_enc, Option.bind_some, e, hp0, cond_true]
    unfold headE
    cases hm : mayHpV h [] with
    | false => rfl
    | true =>
      simp only [Bool.not_true, cond_false, Nat.ble_eq_true_of_le (smH_le hs).2.1, cond_true]
      rw [roomN]
      cases hr : decide (roomA h.p a > 0) with
      | false => rfl
      | true =>
        obtain ⟨g1, g2⟩ := room_in (of_decide_eq_true hr)
        obtain ⟨q1, _⟩ := shaped_in hs (shaped_of hm) g1 g2
        simp only [Bool.not_true, cond_false, q1, cond_true]
        show (bif !(unpX h a).a then _ else _) = _
        cases (unpX h a).a <;> rfl
end Go.Ab
