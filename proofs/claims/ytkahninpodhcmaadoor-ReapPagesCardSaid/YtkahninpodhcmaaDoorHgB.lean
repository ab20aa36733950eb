/- reap: begun, back, push; trial of Flush.
reap.Flush: its loop over pages.
reap.Flush.
reap.Flush's contract.
reap.Free.
few, Light, Few; Same of pages.
heap.Whole.
awake.
heap.Used. -/
import Derived.Test.YtkahninpodhcmaaDoorHgA
import Derived.Test.YtkahninpodhcmaaDoorAbD
namespace Go.Ab
open Go
open Go.Proofs
theorem cloneB_good : GoodC Pr 63 gCloneB :=
  good1 ((CxOK.baseG Good.nil GoodI.nil (eqOK_none fun _ => rfl)).sound (cx := k63) Tryd.func63 (by kernel_rfl) (by kernel_rfl) rfl (by kernel_rfl)) fun w hp β K => by
    simp only [Bool.and_eq_true, Bool.not_eq_true', List.isEmpty_eq_false_iff] at hp
    have hl := Nat.le_of_ble_eq_true hp.2
    have e1 : (encBs w).isEmpty = false := by simpa [encBs] using hp.1
    rw [r63, e1, cond_false, List.nil_append, if_pos (lim_of (by simp [encBs]; omega))]
    rfl
noncomputable abbrev k33b : Cx := cxG Pr Tryd.f33 [(61, gCloneA), (62, gCloneP), (63, gCloneB)] [] (fun _ => false) (fun q => Nat.beq q 58)
set_option maxRecDepth 100000 in
theorem r33b (h : Hp) (β : Type) (K : CV → List (List CV) → Option β) : fnK k33b Tryd.f33 [cHp.enc h] [] K =
 Option.bind (decI (encI (Hp.w h))) fun a =>
 bif Nat.ble (List.length a) 4000000000 then
 Option.bind (decP (List.map encP (Hp.p h))) fun a_1 =>
 bif !List.isEmpty a_1 && sm a_1 then
 Option.bind (decBs (encBs (Hp.c h))) fun a_2 =>
 bif !List.isEmpty a_2 && Nat.ble (List.length a_2) 100000 then
 Option.bind (decI (encI (Ls.a (Hp.f h)))) fun a_3 =>
 bif Nat.ble (List.length a_3) 4000000000 then
 Option.bind (decI (encI (Ls.b (Hp.f h)))) fun a_4 =>
 bif Nat.ble (List.length a_4) 4000000000 then
 Option.bind (decI (encI (Ls.c (Hp.f h)))) fun a_5 =>
 bif Nat.ble (List.length a_5) 4000000000 then
 K (CV.box [CV.sl 1 (encI a), CV.sl 2 (List.map encP a_1), CV.own 1 (encI a_3), CV.own 1 (encI a_4), CV.own 1 (encI a_5), CV.sl 1 (encBs a_2)]) []
 else none
 else none
 else none
 else none
 else none
 else none := by kernel_rfl

theorem begun_good : GoodC Pr 33 gBegun :=
  good1 ((CxOK.baseG (Good.cons cloneA_good (Good.cons clone_good (Good.cons cloneB_good Good.nil))) GoodI.nil (eqOK_none fun _ => rfl)).sound (cx := k33b) Tryd.func33 (by kernel_rfl) (by kernel_rfl) rfl (by kernel_rfl)) fun h hp β K => by
    simp only [Bool.and_eq_true, Bool.not_eq_true'] at hp
    obtain ⟨hs, hp1, hp2⟩ := hp
    have hss := hs
    simp only [smH, Bool.and_eq_true] at hss
    obtain ⟨hw, hps, hc, hf⟩ := hss
    obtain ⟨f1, f2, f3⟩ := smL_le hf
    have hw := Nat.le_of_ble_eq_true hw
    have hc' := Nat.le_of_ble_eq_true hc
    rw [r33b]
    simp only [decI_map, decP_map, decBs_enc, Option.bind_some, Nat.ble_eq_true_of_le (show h.w.length ≤ 4000000000 by omega), cond_true, hp1, hp2, hps, hc, Bool.not_false, Bool.and_self,
      Nat.ble_eq_true_of_le (show h.f.a.length ≤ 4000000000 by omega), Nat.ble_eq_true_of_le (show h.f.b.length ≤ 4000000000 by omega), Nat.ble_eq_true_of_le (show h.f.c.length ≤ 4000000000 by omega)]
noncomputable abbrev k43n : Cx := cxN Pr Tryd.f43 [(72, gDropP)]
noncomputable abbrev k35n : Cx := cxN Pr Tryd.f35 [(66, gPart), (67, gCells)] [(43, inlC k43n Tryd.f43)]
noncomputable abbrev k41n : Cx := cxN Pr Tryd.f41 [(34, gPush)] [(35, inlC k35n Tryd.f35)]
theorem drop_inl : GoodN Pr 43 (inlC k43n Tryd.f43) := (CxOK.baseN (Good.cons drop_good Good.nil) GoodI.nil (eqOK_none fun _ => rfl)).inlG (cx := k43n) Tryd.func43 (by kernel_rfl) (by kernel_rfl) rfl (by kernel_rfl)
theorem back_inl : GoodN Pr 35 (inlC k35n Tryd.f35) := (CxOK.baseN (Good.cons part_good (Good.cons cellsG_good Good.nil)) (GoodI.cons drop_inl GoodI.nil) (eqOK_none fun _ => rfl)).inlG (cx := k35n) Tryd.func35 (by kernel_rfl) (by kernel_rfl) rfl (by kernel_rfl)
theorem push_inl : GoodN Pr 41 (inlC k41n Tryd.f41) := (CxOK.baseN (Good.cons push_good Good.nil) (GoodI.cons back_inl GoodI.nil) (eqOK_none fun _ => rfl)).inlG (cx := k41n) Tryd.func41 (by kernel_rfl) (by kernel_rfl) rfl (by kernel_rfl)
noncomputable abbrev k10b : Cx := cxN Pr Tryd.f10 [(9, gMayHp), (33, gBegun), (34, gPush)] [(35, inlC k35n Tryd.f35)] (fun _ => false) (fun q => Nat.beq q 122)
noncomputable abbrev k10c (R : List CV → List (List CV) → Bool) : Cx := k10b.loop p10 ⟨[4, 6, 44, 45], o10, fun vs cs _ K => bif R vs cs then K (.exit 2) (vs.take 2) cs else none⟩
set_option maxRecDepth 100000 in
theorem r10c (h : Hp) (l : Ls) (R : List CV → List (List CV) → Bool) (β : Type) (K : CV → List (List CV) → Option β) : fnK (k10c R) Tryd.f10 [cHp.enc h, cLs.enc l] [] K =
 Option.bind (Option.bind (decI (encI (Hp.w h))) fun w =>
 Option.bind (decP (List.map encP (Hp.p h))) fun p =>
 Option.bind (decI (encI (Ls.a (Hp.f h)))) fun a =>
 Option.bind (decI (encI (Ls.b (Hp.f h)))) fun b =>
 Option.bind (decI (encI (Ls.c (Hp.f h)))) fun c =>
 Option.bind (decBs (encBs (Hp.c h))) fun d => some { w := w, p := p, f := { a := a, b := b, c := c }, c := d }) fun a =>
 Option.bind (decLs [[CV.sl 1 (encI (Ls.a l)), CV.sl 1 (encI (Ls.b l)), CV.sl 1 (encI (Ls.c l))]]) fun b =>
 bif smH a && smLs (Hp.f a :: b) then
 bif !mayHpV a b then
 K (CV.tup [CV.agg [CV.own 1 [], CV.own 2 [], CV.own 1 [], CV.own 1 [], CV.own 1 [], CV.own 1 []], CV.int IntKind.i64 1]) []
 else
 Option.bind (Option.bind (decI (encI (Hp.w h))) fun w =>
 Option.bind (decP (List.map encP (Hp.p h))) fun p =>
 Option.bind (decI (encI (Ls.a (Hp.f h)))) fun a =>
 Option.bind (decI (encI (Ls.b (Hp.f h)))) fun b =>
 Option.bind (decI (encI (Ls.c (Hp.f h)))) fun c =>
 Option.bind (decBs (encBs (Hp.c h))) fun d => some { w := w, p := p, f := { a := a, b := b, c := c }, c := d }) fun a =>
 bif smH a && (!List.isEmpty (Hp.p a) && !List.isEmpty (Hp.c a)) then
 Option.bind (Option.bind (decI (encI (Ls.a (Hp.f a)))) fun a_1 =>
 Option.bind (decI (encI (Ls.b (Hp.f a)))) fun b =>
 Option.bind (decI (encI (Ls.c (Hp.f a)))) fun c => some { a := a_1, b := b, c := c }) fun a_1 =>
 Option.bind (decI (encI (Ls.a l))) fun c =>
 bif smL a_1 && Nat.ble (List.length c) 100000 then
 Option.bind (Option.bind (decI (encI (Ls.get a_1 0 ++ c))) fun a =>
 Option.bind (decI (encI (Ls.b a_1))) fun b =>
 Option.bind (decI (encI (Ls.c a_1))) fun c => some { a := a, b := b, c := c }) fun a_2 =>
 Option.bind (decI (encI (Ls.b l))) fun c =>
 bif smL a_2 && Nat.ble (List.length c) 100000 then
 Option.bind (Option.bind (decI (encI (Ls.a a_2))) fun a =>
 Option.bind (decI (encI (Ls.get a_2 1 ++ c))) fun b =>
 Option.bind (decI (encI (Ls.c a_2))) fun c => some { a := a, b := b, c := c }) fun a_3 =>
 Option.bind (decI (encI (Ls.c l))) fun c =>
 bif smL a_3 && Nat.ble (List.length c) 100000 then
 bif R [CV.ref 0, CV.ref 1, CV.int IntKind.i64 (↑(List.length (List.map encP (Hp.p a))) : Int), CV.int IntKind.i64 0] [[CV.own 1 [], CV.own 2 [], CV.own 1 [], CV.own 1 [], CV.own 1 [], CV.own 1 []], [CV.sl 1 (encI (Hp.w a)), CV.sl 2 (List.map encP (Hp.p a)), CV.own 1 (encI (Ls.a a_3)), CV.own 1 (encI (Ls.b a_3)), CV.own 1 (encI (Ls.get a_3 2 ++ c)), CV.sl 1 (encBs (Hp.c a))]] then
 K (CV.tup [CV.agg [CV.sl 1 (encI (Hp.w a)), CV.sl 2 (List.map encP (Hp.p a)), CV.own 1 (encI (Ls.a a_3)), CV.own 1 (encI (Ls.b a_3)), CV.own 1 (encI (Ls.get a_3 2 ++ c)), CV.sl 1 (encBs (Hp.c a))], CV.int IntKind.i64 0]) []
 else none
 else none
 else none
 else none
 else none
 else none := by kernel_rfl

end Go.Ab

namespace Go.Ab
open Go
open Go.Proofs
abbrev z28 : List CV := [.own 1 [], .own 2 [], .own 1 [], .own 1 [], .own 1 [], .own 1 []]
def slo (o : Bool) (sz : Nat) (l : List (List CV)) : CV := match o with
  | true => .own sz l
  | false => .sl sz l
/-- A heap that is changed: its lists, and its pages, may be its own. -/
def encW (fo po : Bool) (h : Hp) : List CV := [.sl 1 (encI h.w), slo po 2 (h.p.map encP), slo fo 1 (encI h.f.a), slo fo 1 (encI h.f.b), slo fo 1 (encI h.f.c), .sl 1 (encBs h.c)]
set_option maxRecDepth 100000 in
theorem t10ff (h : Hp) (n i : Int) (m : Nat) (β : Type) (K : Exit → List CV → List (List CV) → Option β) : loopB k10b [4, 6, 44, 45] o10 p10 (bodyL (bodyOf Tryd.f10) p10) (m + 1) [.ref 0, .ref 1, cI.enc n, cI.enc i] [z28, encW false false h] K =
 bif decide (i < n) then
 Option.bind (rdE (List.map encP (Hp.p h)) i) fun c =>
 Option.bind c[0]? fun x =>
 Option.bind (asI IntKind.i64 x) fun n_1 =>
 Option.bind c[1]? fun x =>
 Option.bind (asI IntKind.i64 x) fun n_2 =>
 bif n_1 != 1 then loopB k10b [4, 6, 44, 45] o10 [false, true, false, true, true, true, true] (bodyL (bodyOf Tryd.f10) p10) m [CV.ref 0, CV.ref 1, CV.int IntKind.i64 n, CV.int IntKind.i64 (IntKind.wrap IntKind.i64 (i + 1))] [[CV.own 1 [], CV.own 2 [], CV.own 1 [], CV.own 1 [], CV.own 1 [], CV.own 1 []], [CV.sl 1 (encI (Hp.w h)), CV.sl 2 (List.map encP (Hp.p h)), CV.sl 1 (encI (Ls.a (Hp.f h))), CV.sl 1 (encI (Ls.b (Hp.f h))), CV.sl 1 (encI (Ls.c (Hp.f h))), CV.sl 1 (encBs (Hp.c h))]] fun a a_1 a_2 => K a a_1 a_2
 else
 Option.bind (Option.bind (decI (encI (Ls.a (Hp.f h)))) fun a =>
 Option.bind (decI (encI (Ls.b (Hp.f h)))) fun b =>
 Option.bind (decI (encI (Ls.c (Hp.f h)))) fun c => some { a := a, b := b, c := c }) fun a =>
 bif smL a && isC n_2 then
 bif (↑(List.length (encI (partOut a n_2 (IntKind.wrap IntKind.i64 (IntKind.wrap IntKind.i64 (i + 1) * 16)) (IntKind.wrap IntKind.i64 (IntKind.wrap IntKind.i64 (IntKind.wrap IntKind.i64 (i + 1) * 16) + 16))))) : Int) == cellsN n_2 then
 Option.bind (decP (List.map encP (Hp.p h))) fun a_1 =>
 bif sm a_1 then loopB k10b [4, 6, 44, 45] o10 [false, true, false, true, true, true, true] (bodyL (bodyOf Tryd.f10) p10) m [CV.ref 0, CV.ref 1, CV.int IntKind.i64 n, CV.int IntKind.i64 (IntKind.wrap IntKind.i64 (i + 1))] [[CV.own 1 [], CV.own 2 [], CV.own 1 [], CV.own 1 [], CV.own 1 [], CV.own 1 []], [CV.sl 1 (encI (Hp.w h)), CV.own 2 (List.map encP (Prod.snd (dropE a_1 i))), CV.sl 1 (encI (Ls.a (partL a n_2 (IntKind.wrap IntKind.i64 (IntKind.wrap IntKind.i64 (i + 1) * 16)) (IntKind.wrap IntKind.i64 (IntKind.wrap IntKind.i64 (IntKind.wrap IntKind.i64 (i + 1) * 16) + 16))))), CV.sl 1 (encI (Ls.b (partL a n_2 (IntKind.wrap IntKind.i64 (IntKind.wrap IntKind.i64 (i + 1) * 16)) (IntKind.wrap IntKind.i64 (IntKind.wrap IntKind.i64 (IntKind.wrap IntKind.i64 (i + 1) * 16) + 16))))), CV.sl 1 (encI (Ls.c (partL a n_2 (IntKind.wrap IntKind.i64 (IntKind.wrap IntKind.i64 (i + 1) * 16)) (IntKind.wrap IntKind.i64 (IntKind.wrap IntKind.i64 (IntKind.wrap IntKind.i64 (i + 1) * 16) + 16))))), CV.sl 1 (encBs (Hp.c h))]] fun a a_2 a_3 => K a a_2 a_3
 else none
 else loopB k10b [4, 6, 44, 45] o10 [false, true, false, true, true, true, true] (bodyL (bodyOf Tryd.f10) p10) m [CV.ref 0, CV.ref 1, CV.int IntKind.i64 n, CV.int IntKind.i64 (IntKind.wrap IntKind.i64 (i + 1))] [[CV.own 1 [], CV.own 2 [], CV.own 1 [], CV.own 1 [], CV.own 1 [], CV.own 1 []], [CV.sl 1 (encI (Hp.w h)), CV.sl 2 (List.map encP (Hp.p h)), CV.sl 1 (encI (Ls.a (Hp.f h))), CV.sl 1 (encI (Ls.b (Hp.f h))), CV.sl 1 (encI (Ls.c (Hp.f h))), CV.sl 1 (encBs (Hp.c h))]] fun a a_1 a_2 => K a a_1 a_2
 else none
 else
 K (Exit.exit 2) [CV.ref 0, CV.ref 1] [[CV.own 1 [], CV.own 2 [], CV.own 1 [], CV.own 1 [], CV.own 1 [], CV.own 1 []], [CV.sl 1 (encI (Hp.w h)), CV.sl 2 (List.map encP (Hp.p h)), CV.sl 1 (encI (Ls.a (Hp.f h))), CV.sl 1 (encI (Ls.b (Hp.f h))), CV.sl 1 (encI (Ls.c (Hp.f h))), CV.sl 1 (encBs (Hp.c h))]] := by kernel_rfl

set_option maxRecDepth 100000 in
theorem t10tf (h : Hp) (n i : Int) (m : Nat) (β : Type) (K : Exit → List CV → List (List CV) → Option β) : loopB k10b [4, 6, 44, 45] o10 p10 (bodyL (bodyOf Tryd.f10) p10) (m + 1) [.ref 0, .ref 1, cI.enc n, cI.enc i] [z28, encW true false h] K =
 bif decide (i < n) then
 Option.bind (rdE (List.map encP (Hp.p h)) i) fun c =>
 Option.bind c[0]? fun x =>
 Option.bind (asI IntKind.i64 x) fun n_1 =>
 Option.bind c[1]? fun x =>
 Option.bind (asI IntKind.i64 x) fun n_2 =>
 bif n_1 != 1 then loopB k10b [4, 6, 44, 45] o10 [false, true, false, true, true, true, true] (bodyL (bodyOf Tryd.f10) p10) m [CV.ref 0, CV.ref 1, CV.int IntKind.i64 n, CV.int IntKind.i64 (IntKind.wrap IntKind.i64 (i + 1))] [[CV.own 1 [], CV.own 2 [], CV.own 1 [], CV.own 1 [], CV.own 1 [], CV.own 1 []], [CV.sl 1 (encI (Hp.w h)), CV.sl 2 (List.map encP (Hp.p h)), CV.own 1 (encI (Ls.a (Hp.f h))), CV.own 1 (encI (Ls.b (Hp.f h))), CV.own 1 (encI (Ls.c (Hp.f h))), CV.sl 1 (encBs (Hp.c h))]] fun a a_1 a_2 => K a a_1 a_2
 else
 Option.bind (Option.bind (decI (encI (Ls.a (Hp.f h)))) fun a =>
 Option.bind (decI (encI (Ls.b (Hp.f h)))) fun b =>
 Option.bind (decI (encI (Ls.c (Hp.f h)))) fun c => some { a := a, b := b, c := c }) fun a =>
 bif smL a && isC n_2 then
 bif (↑(List.length (encI (partOut a n_2 (IntKind.wrap IntKind.i64 (IntKind.wrap IntKind.i64 (i + 1) * 16)) (IntKind.wrap IntKind.i64 (IntKind.wrap IntKind.i64 (IntKind.wrap IntKind.i64 (i + 1) * 16) + 16))))) : Int) == cellsN n_2 then
 Option.bind (decP (List.map encP (Hp.p h))) fun a_1 =>
 bif sm a_1 then loopB k10b [4, 6, 44, 45] o10 [false, true, false, true, true, true, true] (bodyL (bodyOf Tryd.f10) p10) m [CV.ref 0, CV.ref 1, CV.int IntKind.i64 n, CV.int IntKind.i64 (IntKind.wrap IntKind.i64 (i + 1))] [[CV.own 1 [], CV.own 2 [], CV.own 1 [], CV.own 1 [], CV.own 1 [], CV.own 1 []], [CV.sl 1 (encI (Hp.w h)), CV.own 2 (List.map encP (Prod.snd (dropE a_1 i))), CV.own 1 (encI (Ls.a (partL a n_2 (IntKind.wrap IntKind.i64 (IntKind.wrap IntKind.i64 (i + 1) * 16)) (IntKind.wrap IntKind.i64 (IntKind.wrap IntKind.i64 (IntKind.wrap IntKind.i64 (i + 1) * 16) + 16))))), CV.own 1 (encI (Ls.b (partL a n_2 (IntKind.wrap IntKind.i64 (IntKind.wrap IntKind.i64 (i + 1) * 16)) (IntKind.wrap IntKind.i64 (IntKind.wrap IntKind.i64 (IntKind.wrap IntKind.i64 (i + 1) * 16) + 16))))), CV.own 1 (encI (Ls.c (partL a n_2 (IntKind.wrap IntKind.i64 (IntKind.wrap IntKind.i64 (i + 1) * 16)) (IntKind.wrap IntKind.i64 (IntKind.wrap IntKind.i64 (IntKind.wrap IntKind.i64 (i + 1) * 16) + 16))))), CV.sl 1 (encBs (Hp.c h))]] fun a a_2 a_3 => K a a_2 a_3
 else none
 else loopB k10b [4, 6, 44, 45] o10 [false, true, false, true, true, true, true] (bodyL (bodyOf Tryd.f10) p10) m [CV.ref 0, CV.ref 1, CV.int IntKind.i64 n, CV.int IntKind.i64 (IntKind.wrap IntKind.i64 (i + 1))] [[CV.own 1 [], CV.own 2 [], CV.own 1 [], CV.own 1 [], CV.own 1 [], CV.own 1 []], [CV.sl 1 (encI (Hp.w h)), CV.sl 2 (List.map encP (Hp.p h)), CV.sl 1 (encI (Ls.a (Hp.f h))), CV.sl 1 (encI (Ls.b (Hp.f h))), CV.sl 1 (encI (Ls.c (Hp.f h))), CV.sl 1 (encBs (Hp.c h))]] fun a a_1 a_2 => K a a_1 a_2
 else none
 else
 K (Exit.exit 2) [CV.ref 0, CV.ref 1] [[CV.own 1 [], CV.own 2 [], CV.own 1 [], CV.own 1 [], CV.own 1 [], CV.own 1 []], [CV.sl 1 (encI (Hp.w h)), CV.sl 2 (List.map encP (Hp.p h)), CV.own 1 (encI (Ls.a (Hp.f h))), CV.own 1 (encI (Ls.b (Hp.f h))), CV.own 1 (encI (Ls.c (Hp.f h))), CV.sl 1 (encBs (Hp.c h))]] := by kernel_rfl

set_option maxRecDepth 100000 in
theorem t10ft (h : Hp) (n i : Int) (m : Nat) (β : Type) (K : Exit → List CV → List (List CV) → Option β) : loopB k10b [4, 6, 44, 45] o10 p10 (bodyL (bodyOf Tryd.f10) p10) (m + 1) [.ref 0, .ref 1, cI.enc n, cI.enc i] [z28, encW false true h] K =
 bif decide (i < n) then
 if 0 ≤ i ∧ i < (↑(List.length (List.map encP (Hp.p h))) : Int) then
 Option.bind (List.map encP (Hp.p h))[Int.toNat i]? fun e =>
 Option.bind e[0]? fun x =>
 Option.bind (asI IntKind.i64 x) fun n_1 =>
 Option.bind e[1]? fun x =>
 Option.bind (asI IntKind.i64 x) fun n_2 =>
 bif n_1 != 1 then loopB k10b [4, 6, 44, 45] o10 [false, true, false, true, true, true, true] (bodyL (bodyOf Tryd.f10) p10) m [CV.ref 0, CV.ref 1, CV.int IntKind.i64 n, CV.int IntKind.i64 (IntKind.wrap IntKind.i64 (i + 1))] [[CV.own 1 [], CV.own 2 [], CV.own 1 [], CV.own 1 [], CV.own 1 [], CV.own 1 []], [CV.sl 1 (encI (Hp.w h)), CV.own 2 (List.map encP (Hp.p h)), CV.sl 1 (encI (Ls.a (Hp.f h))), CV.sl 1 (encI (Ls.b (Hp.f h))), CV.sl 1 (encI (Ls.c (Hp.f h))), CV.sl 1 (encBs (Hp.c h))]] fun a a_1 a_2 => K a a_1 a_2
 else
 Option.bind (Option.bind (decI (encI (Ls.a (Hp.f h)))) fun a =>
 Option.bind (decI (encI (Ls.b (Hp.f h)))) fun b =>
 Option.bind (decI (encI (Ls.c (Hp.f h)))) fun c => some { a := a, b := b, c := c }) fun a =>
 bif smL a && isC n_2 then
 bif (↑(List.length (encI (partOut a n_2 (IntKind.wrap IntKind.i64 (IntKind.wrap IntKind.i64 (i + 1) * 16)) (IntKind.wrap IntKind.i64 (IntKind.wrap IntKind.i64 (IntKind.wrap IntKind.i64 (i + 1) * 16) + 16))))) : Int) == cellsN n_2 then
 Option.bind (decP (List.map encP (Hp.p h))) fun a_1 =>
 bif sm a_1 then loopB k10b [4, 6, 44, 45] o10 [false, true, false, true, true, true, true] (bodyL (bodyOf Tryd.f10) p10) m [CV.ref 0, CV.ref 1, CV.int IntKind.i64 n, CV.int IntKind.i64 (IntKind.wrap IntKind.i64 (i + 1))] [[CV.own 1 [], CV.own 2 [], CV.own 1 [], CV.own 1 [], CV.own 1 [], CV.own 1 []], [CV.sl 1 (encI (Hp.w h)), CV.own 2 (List.map encP (Prod.snd (dropE a_1 i))), CV.sl 1 (encI (Ls.a (partL a n_2 (IntKind.wrap IntKind.i64 (IntKind.wrap IntKind.i64 (i + 1) * 16)) (IntKind.wrap IntKind.i64 (IntKind.wrap IntKind.i64 (IntKind.wrap IntKind.i64 (i + 1) * 16) + 16))))), CV.sl 1 (encI (Ls.b (partL a n_2 (IntKind.wrap IntKind.i64 (IntKind.wrap IntKind.i64 (i + 1) * 16)) (IntKind.wrap IntKind.i64 (IntKind.wrap IntKind.i64 (IntKind.wrap IntKind.i64 (i + 1) * 16) + 16))))), CV.sl 1 (encI (Ls.c (partL a n_2 (IntKind.wrap IntKind.i64 (IntKind.wrap IntKind.i64 (i + 1) * 16)) (IntKind.wrap IntKind.i64 (IntKind.wrap IntKind.i64 (IntKind.wrap IntKind.i64 (i + 1) * 16) + 16))))), CV.sl 1 (encBs (Hp.c h))]] fun a a_2 a_3 => K a a_2 a_3
 else none
 else loopB k10b [4, 6, 44, 45] o10 [false, true, false, true, true, true, true] (bodyL (bodyOf Tryd.f10) p10) m [CV.ref 0, CV.ref 1, CV.int IntKind.i64 n, CV.int IntKind.i64 (IntKind.wrap IntKind.i64 (i + 1))] [[CV.own 1 [], CV.own 2 [], CV.own 1 [], CV.own 1 [], CV.own 1 [], CV.own 1 []], [CV.sl 1 (encI (Hp.w h)), CV.own 2 (List.map encP (Hp.p h)), CV.sl 1 (encI (Ls.a (Hp.f h))), CV.sl 1 (encI (Ls.b (Hp.f h))), CV.sl 1 (encI (Ls.c (Hp.f h))), CV.sl 1 (encBs (Hp.c h))]] fun a a_1 a_2 => K a a_1 a_2
 else none
 else none
 else
 K (Exit.exit 2) [CV.ref 0, CV.ref 1] [[CV.own 1 [], CV.own 2 [], CV.own 1 [], CV.own 1 [], CV.own 1 [], CV.own 1 []], [CV.sl 1 (encI (Hp.w h)), CV.own 2 (List.map encP (Hp.p h)), CV.sl 1 (encI (Ls.a (Hp.f h))), CV.sl 1 (encI (Ls.b (Hp.f h))), CV.sl 1 (encI (Ls.c (Hp.f h))), CV.sl 1 (encBs (Hp.c h))]] := by kernel_rfl

set_option maxRecDepth 100000 in
theorem t10tt (h : Hp) (n i : Int) (m : Nat) (β : Type) (K : Exit → List CV → List (List CV) → Option β) : loopB k10b [4, 6, 44, 45] o10 p10 (bodyL (bodyOf Tryd.f10) p10) (m + 1) [.ref 0, .ref 1, cI.enc n, cI.enc i] [z28, encW true true h] K =
 bif decide (i < n) then
 if 0 ≤ i ∧ i < (↑(List.length (List.map encP (Hp.p h))) : Int) then
 Option.bind (List.map encP (Hp.p h))[Int.toNat i]? fun e =>
 Option.bind e[0]? fun x =>
 Option.bind (asI IntKind.i64 x) fun n_1 =>
 Option.bind e[1]? fun x =>
 Option.bind (asI IntKind.i64 x) fun n_2 =>
 bif n_1 != 1 then loopB k10b [4, 6, 44, 45] o10 [false, true, false, true, true, true, true] (bodyL (bodyOf Tryd.f10) p10) m [CV.ref 0, CV.ref 1, CV.int IntKind.i64 n, CV.int IntKind.i64 (IntKind.wrap IntKind.i64 (i + 1))] [[CV.own 1 [], CV.own 2 [], CV.own 1 [], CV.own 1 [], CV.own 1 [], CV.own 1 []], [CV.sl 1 (encI (Hp.w h)), CV.own 2 (List.map encP (Hp.p h)), CV.own 1 (encI (Ls.a (Hp.f h))), CV.own 1 (encI (Ls.b (Hp.f h))), CV.own 1 (encI (Ls.c (Hp.f h))), CV.sl 1 (encBs (Hp.c h))]] fun a a_1 a_2 => K a a_1 a_2
 else
 Option.bind (Option.bind (decI (encI (Ls.a (Hp.f h)))) fun a =>
 Option.bind (decI (encI (Ls.b (Hp.f h)))) fun b =>
 Option.bind (decI (encI (Ls.c (Hp.f h)))) fun c => some { a := a, b := b, c := c }) fun a =>
 bif smL a && isC n_2 then
 bif (↑(List.length (encI (partOut a n_2 (IntKind.wrap IntKind.i64 (IntKind.wrap IntKind.i64 (i + 1) * 16)) (IntKind.wrap IntKind.i64 (IntKind.wrap IntKind.i64 (IntKind.wrap IntKind.i64 (i + 1) * 16) + 16))))) : Int) == cellsN n_2 then
 Option.bind (decP (List.map encP (Hp.p h))) fun a_1 =>
 bif sm a_1 then loopB k10b [4, 6, 44, 45] o10 [false, true, false, true, true, true, true] (bodyL (bodyOf Tryd.f10) p10) m [CV.ref 0, CV.ref 1, CV.int IntKind.i64 n, CV.int IntKind.i64 (IntKind.wrap IntKind.i64 (i + 1))] [[CV.own 1 [], CV.own 2 [], CV.own 1 [], CV.own 1 [], CV.own 1 [], CV.own 1 []], [CV.sl 1 (encI (Hp.w h)), CV.own 2 (List.map encP (Prod.snd (dropE a_1 i))), CV.own 1 (encI (Ls.a (partL a n_2 (IntKind.wrap IntKind.i64 (IntKind.wrap IntKind.i64 (i + 1) * 16)) (IntKind.wrap IntKind.i64 (IntKind.wrap IntKind.i64 (IntKind.wrap IntKind.i64 (i + 1) * 16) + 16))))), CV.own 1 (encI (Ls.b (partL a n_2 (IntKind.wrap IntKind.i64 (IntKind.wrap IntKind.i64 (i + 1) * 16)) (IntKind.wrap IntKind.i64 (IntKind.wrap IntKind.i64 (IntKind.wrap IntKind.i64 (i + 1) * 16) + 16))))), CV.own 1 (encI (Ls.c (partL a n_2 (IntKind.wrap IntKind.i64 (IntKind.wrap IntKind.i64 (i + 1) * 16)) (IntKind.wrap IntKind.i64 (IntKind.wrap IntKind.i64 (IntKind.wrap IntKind.i64 (i + 1) * 16) + 16))))), CV.sl 1 (encBs (Hp.c h))]] fun a a_2 a_3 => K a a_2 a_3
 else none
 else loopB k10b [4, 6, 44, 45] o10 [false, true, false, true, true, true, true] (bodyL (bodyOf Tryd.f10) p10) m [CV.ref 0, CV.ref 1, CV.int IntKind.i64 n, CV.int IntKind.i64 (IntKind.wrap IntKind.i64 (i + 1))] [[CV.own 1 [], CV.own 2 [], CV.own 1 [], CV.own 1 [], CV.own 1 [], CV.own 1 []], [CV.sl 1 (encI (Hp.w h)), CV.own 2 (List.map encP (Hp.p h)), CV.sl 1 (encI (Ls.a (Hp.f h))), CV.sl 1 (encI (Ls.b (Hp.f h))), CV.sl 1 (encI (Ls.c (Hp.f h))), CV.sl 1 (encBs (Hp.c h))]] fun a a_1 a_2 => K a a_1 a_2
 else none
 else none
 else
 K (Exit.exit 2) [CV.ref 0, CV.ref 1] [[CV.own 1 [], CV.own 2 [], CV.own 1 [], CV.own 1 [], CV.own 1 [], CV.own 1 []], [CV.sl 1 (encI (Hp.w h)), CV.own 2 (List.map encP (Hp.p h)), CV.own 1 (encI (Ls.a (Hp.f h))), CV.own 1 (encI (Ls.b (Hp.f h))), CV.own 1 (encI (Ls.c (Hp.f h))), CV.sl 1 (encBs (Hp.c h))]] := by kernel_rfl


/-- A page's first address. -/
def loE (i : Nat) : Int := ((i + 1 : Nat) : Int) * 16
/-- Are all cells of a small page on the free lists? -/
def hitE (h : Hp) (i : Nat) : Bool := match h.p[i]? with
  | some p => p.1 == 1 && (((partOut h.f p.2 (loE i) (loE i + 16)).length : Int) == cellsN p.2)
  | none => false
def backH (h : Hp) (i : Nat) : Hp := bif hitE h i then { h with p := h.p.set i (0, 0), f := partL h.f (h.p.getD i (0, 0)).2 (loE i) (loE i + 16) } else h
def isSm (h : Hp) (i : Nat) : Bool := match h.p[i]? with
  | some p => p.1 == 1
  | none => false
def backFo (h : Hp) (i : Nat) (fo : Bool) : Bool := bif isSm h i then (bif hitE h i then fo else false) else fo
def backPo (h : Hp) (i : Nat) (po : Bool) : Bool := bif hitE h i then true else po
theorem small_drop {ps : List Pg} {i : Nat} {c : Int} (hm : may ps = true) (hi : ps[i]? = some (1, c)) : dropE ps (i : Int) = (0, ps.set i (0, 0)) ∧ may (ps.set i (0, 0)) = true ∧ isC c = true := by
  obtain ⟨hlt, hg⟩ := List.getElem?_eq_some_iff.1 hi
  have e1 : ps = ps.take i ++ [(1, c)] ++ ps.drop (i + 1) := by
    rw [List.append_assoc, ← hg]
    simp
  have e2 : ps.set i (0, 0) = ps.take i ++ [(0, 0)] ++ ps.drop (i + 1) := by
    rw [List.set_eq_take_append_cons_drop, if_pos hlt]
    simp
  have hl : (ps.take i).length = i := by simp; omega
  have h1 := drop_parts (X := ps.take i) (Y := [(1, c)]) (Z := ps.drop (i + 1)) (p := (1, c)) rfl (.inl rfl) rfl (by rw [← e1]; exact hm)
  rw [← e1, hl] at h1
  have h0 := may_go0 hm
  rw [e1, mayGo_append, mayGo_append] at h0
  replace h0 := bind_some' h0
  obtain ⟨r1, h0, h2⟩ := h0
  replace h0 := bind_some' h0
  obtain ⟨r2, h0, h3⟩ := h0
  have h4 : (cond (!(cond (decide (c ≥ 0)) (decide (c ≤ 2)) false)) none (cond (decide (r2 > 0)) none (some r2))) = some r1 := h3
  have h5 : decide (c ≥ 0) = true ∧ decide (c ≤ 2) = true ∧ decide (r2 > 0) = false ∧ r2 = r1 := by
    cases q1 : decide (c ≥ 0) with
    | false => rw [q1] at h4; cases h4
    | true =>
      cases q2 : decide (c ≤ 2) with
      | false => rw [q1, q2] at h4; cases h4
      | true =>
        cases q3 : decide (r2 > 0) with
        | true => rw [q1, q2, q3] at h4; cases h4
        | false => rw [q1, q2, q3] at h4; injection h4 with h4; exact ⟨rfl, rfl, rfl, h4⟩
  obtain ⟨q1, q2, q3, rfl⟩ := h5
  have hc : c ≥ 0 ∧ c ≤ 2 := ⟨of_decide_eq_true q1, of_decide_eq_true q2⟩
  obtain ⟨hl1, hl2⟩ := may_len hm
  refine ⟨?_, go_may (by simp; omega) (by simp; omega) ?_, ?_⟩
  · rw [h1, e2]; rfl
  · rw [e2, mayGo_append, mayGo_append, h0]
    have h6 : mayGo r2 [(0, 0)] = (cond (decide (r2 > 0)) none (some r2)) := rfl
    rw [Option.bind_some, h6, q3]
    exact h2
  · unfold isC
    rw [q1, decide_eq_true (by omega)]; rfl
theorem smL_part {l : Ls} {c lo hi : Int} (h : smL l = true) : smL (partL l c lo hi) = true := by
  obtain ⟨h1, h2, h3⟩ := smL_le h
  have hf : ∀ (xs : List Int) (q : Int → Bool), xs.length ≤ 100000 → (xs.filter q).length ≤ 100000 := fun xs q hx => Nat.le_trans (List.length_filter_le _ _) hx
  have key : ∀ a b c : List Int, a.length ≤ 100000 → b.length ≤ 100000 → c.length ≤ 100000 → smL ⟨a, b, c⟩ = true := fun a b c ha hb hc => by
    simp only [smL, Nat.ble_eq_true_of_le ha, Nat.ble_eq_true_of_le hb, Nat.ble_eq_true_of_le hc, Bool.and_self]
  unfold partL
  match c.toNat with
  | 0 => exact key _ _ _ (hf _ _ h1) h2 h3
  | 1 => exact key _ _ _ h1 (hf _ _ h2) h3
  | k + 2 => exact key _ _ _ h1 h2 (hf _ _ h3)
/-- What stays so. -/
def okW (h : Hp) : Bool := may h.p && smL h.f
theorem back_ok {h : Hp} (hh : okW h = true) (i : Nat) : okW (backH h i) = true ∧ (backH h i).p.length = h.p.length := by
  unfold backH
  cases hb : hitE h i with
  | false => exact ⟨hh, rfl⟩
  | true =>
    simp only [okW, Bool.and_eq_true] at hh
    unfold hitE at hb
    cases hp : h.p[i]? with
    | none => rw [hp] at hb; cases hb
    | some p =>
      obtain ⟨k, c⟩ := p
      rw [hp] at hb
      simp only [Bool.and_eq_true, beq_iff_eq] at hb
      obtain ⟨rfl, _⟩ := hb
      obtain ⟨_, q2, _⟩ := small_drop hh.1 hp
      refine ⟨?_, by simp [cond_true]⟩
      rw [cond_true]
      show (may (h.p.set i (0, 0)) && smL (partL h.f _ _ _)) = true
      rw [q2, smL_part hh.2]; rfl
theorem asI_1 (n : Int) : asI .i64 (.int .i64 n) = some n := by simp [asI]
theorem round10 (h : Hp) (fo po : Bool) (i m : Nat) (hh : okW h = true) (hi : i < h.p.length) (β : Type) (K : Exit → List CV → List (List CV) → Option β) :
    loopB k10b [4, 6, 44, 45] o10 p10 (bodyL (bodyOf Tryd.f10) p10) (m + 1) [.ref 0, .ref 1, cI.enc (h.p.length : Int), cI.enc (i : Int)] [z28, encW fo po h] K =
      loopB k10b [4, 6, 44, 45] o10 p10 (bodyL (bodyOf Tryd.f10) p10) m [.ref 0, .ref 1, cI.enc (h.p.length : Int), cI.enc ((i + 1 : Nat) : Int)] [z28, encW (backFo h i fo) (backPo h i po) (backH h i)] K := by
  simp only [okW, Bool.and_eq_true] at hh
  obtain ⟨hm, hsl⟩ := hh
  obtain ⟨hl1, hl2⟩ := may_len hm
  have hsm : sm h.p = true := Nat.ble_eq_true_of_le (by omega)
  have e : (⟨h.f.a, h.f.b, h.f.c⟩ : Ls) = h.f := rfl
  obtain ⟨p, hp⟩ : ∃ p, h.p[i]? = some p := ⟨h.p[i], by simp [hi]⟩
  have hin : (0 : Int) ≤ (i : Int) ∧ (i : Int) < ((List.length (List.map encP (Hp.p h)) : Nat) : Int) := by rw [List.length_map]; omega
  have e0 : (List.map encP (Hp.p h))[Int.toNat (i : Int)]? = some (encP p) := by simp [hp]
  have g0 : (encP p)[0]? = some (.int .i64 p.1) := rfl
  have g1 : (encP p)[1]? = some (.int .i64 p.2) := rfl
  have w1 : IntKind.i64.wrap ((i : Int) + 1) = ((i + 1 : Nat) : Int) := by rw [wrap_in (by omega)]; omega
  have w2 : IntKind.i64.wrap (((i + 1 : Nat) : Int) * 16) = loE i := wrap_in (by omega)
  have w3 : IntKind.i64.wrap (loE i + 16) = loE i + 16 := wrap_in (by unfold loE; omega)
  cases fo <;> cases po
  · rw [t10ff, decide_eq_true (by omega), cond_true]
    simp only [rdE_nat (show (0 : Int) ≤ (i : Int) by omega), e0, Option.bind_some, g0, g1, asI_1, w1, w2, w3, decI_map, decP_map, e]
    cases hk : (p.1 != 1) with
    | true =>
      have hk1 : (p.1 == 1) = false := by simpa [bne] using hk
      have hh1 : hitE h i = false := by unfold hitE; rw [hp]; simp only [hk1, Bool.false_and]
      have hh2 : isSm h i = false := by unfold isSm; rw [hp]; exact hk1
      rw [cond_true]
      unfold backFo backPo backH
      rw [hh1, hh2]
      rfl
    | false =>
      have hk1 : (p.1 == 1) = true := by simpa [bne] using hk
      have hk2 : p.1 = 1 := by simpa using hk1
      have hp' : h.p[i]? = some (1, p.2) := by rw [hp, ← hk2]
      obtain ⟨q1, _, q3⟩ := small_drop hm hp'
      have hh2 : isSm h i = true := by unfold isSm; rw [hp]; exact hk1
      simp only [cond_false, hsl, q3, Bool.and_self, cond_true, encI_len]
      have hh3 : hitE h i = (((partOut h.f p.2 (loE i) (loE i + 16)).length : Int) == cellsN p.2) := by unfold hitE; rw [hp]; simp only [hk1, Bool.true_and]
      have hgd : h.p.getD i (0, 0) = p := by rw [List.getD_eq_getElem?_getD, hp]; rfl
      cases hb : (((partOut h.f p.2 (loE i) (loE i + 16)).length : Int) == cellsN p.2) with
      | true =>
        unfold backFo backPo backH
        rw [hh2, hh3, hb, hgd]
        simp only [cond_true, hsm, q1]
        rfl
      | false =>
        unfold backFo backPo backH
        rw [hh2, hh3, hb]
        rfl
  · rw [t10ft, decide_eq_true (by omega), cond_true]
    simp only [if_pos hin, e0, Option.bind_some, g0, g1, asI_1, w1, w2, w3, decI_map, decP_map, e]
    cases hk : (p.1 != 1) with
    | true =>
      have hk1 : (p.1 == 1) = false := by simpa [bne] using hk
      have hh1 : hitE h i = false := by unfold hitE; rw [hp]; simp only [hk1, Bool.false_and]
      have hh2 : isSm h i = false := by unfold isSm; rw [hp]; exact hk1
      rw [cond_true]
      unfold backFo backPo backH
      rw [hh1, hh2]
      rfl
    | false =>
      have hk1 : (p.1 == 1) = true := by simpa [bne] using hk
      have hk2 : p.1 = 1 := by simpa using hk1
      have hp' : h.p[i]? = some (1, p.2) := by rw [hp, ← hk2]
      obtain ⟨q1, _, q3⟩ := small_drop hm hp'
      have hh2 : isSm h i = true := by unfold isSm; rw [hp]; exact hk1
      simp only [cond_false, hsl, q3, Bool.and_self, cond_true, encI_len]
      have hh3 : hitE h i = (((partOut h.f p.2 (loE i) (loE i + 16)).length : Int) == cellsN p.2) := by unfold hitE; rw [hp]; simp only [hk1, Bool.true_and]
      have hgd : h.p.getD i (0, 0) = p := by rw [List.getD_eq_getElem?_getD, hp]; rfl
      cases hb : (((partOut h.f p.2 (loE i) (loE i + 16)).length : Int) == cellsN p.2) with
      | true =>
        unfold backFo backPo backH
        rw [hh2, hh3, hb, hgd]
        simp only [cond_true, hsm, q1]
        rfl
      | false =>
        unfold backFo backPo backH
        rw [hh2, hh3, hb]
        rfl
  · rw [t10tf, decide_eq_true (by omega), cond_true]
    simp only [rdE_nat (show (0 : Int) ≤ (i : Int) by omega), e0, Option.bind_some, g0, g1, asI_1, w1, w2, w3, decI_map, decP_map, e]
    cases hk : (p.1 != 1) with
    | true =>
      have hk1 : (p.1 == 1) = false := by simpa [bne] using hk
      have hh1 : hitE h i = false := by unfold hitE; rw [hp]; simp only [hk1, Bool.false_and]
      have hh2 : isSm h i = false := by unfold isSm; rw [hp]; exact hk1
      rw [cond_true]
      unfold backFo backPo backH
      rw [hh1, hh2]
      rfl
    | false =>
      have hk1 : (p.1 == 1) = true := by simpa [bne] using hk
      have hk2 : p.1 = 1 := by simpa using hk1
      have hp' : h.p[i]? = some (1, p.2) := by rw [hp, ← hk2]
      obtain ⟨q1, _, q3⟩ := small_drop hm hp'
      have hh2 : isSm h i = true := by unfold isSm; rw [hp]; exact hk1
      simp only [cond_false, hsl, q3, Bool.and_self, cond_true, encI_len]
      have hh3 : hitE h i = (((partOut h.f p.2 (loE i) (loE i + 16)).length : Int) == cellsN p.2) := by unfold hitE; rw [hp]; simp only [hk1, Bool.true_and]
      have hgd : h.p.getD i (0, 0) = p := by rw [List.getD_eq_getElem?_getD, hp]; rfl
      cases hb : (((partOut h.f p.2 (loE i) (loE i + 16)).length : Int) == cellsN p.2) with
      | true =>
        unfold backFo backPo backH
        rw [hh2, hh3, hb, hgd]
        simp only [cond_true, hsm, q1]
        rfl
      | false =>
        unfold backFo backPo backH
        rw [hh2, hh3, hb]
        rfl
  · rw [t10tt, decide_eq_true (by omega), cond_true]
    simp only [if_pos hin, e0, Option.bind_some, g0, g1, asI_1, w1, w2, w3, decI_map, decP_map, e]
    cases hk : (p.1 != 1) with
    | true =>
      have hk1 : (p.1 == 1) = false := by simpa [bne] using hk
      have hh1 : hitE h i = false := by unfold hitE; rw [hp]; simp only [hk1, Bool.false_and]
      have hh2 : isSm h i = false := by unfold isSm; rw [hp]; exact hk1
      rw [cond_true]
      unfold backFo backPo backH
      rw [hh1, hh2]
      rfl
    | false =>
      have hk1 : (p.1 == 1) = true := by simpa [bne] using hk
      have hk2 : p.1 = 1 := by simpa using hk1
      have hp' : h.p[i]? = some (1, p.2) := by rw [hp, ← hk2]
      obtain ⟨q1, _, q3⟩ := small_drop hm hp'
      have hh2 : isSm h i = true := by unfold isSm; rw [hp]; exact hk1
      simp only [cond_false, hsl, q3, Bool.and_self, cond_true, encI_len]
      have hh3 : hitE h i = (((partOut h.f p.2 (loE i) (loE i + 16)).length : Int) == cellsN p.2) := by unfold hitE; rw [hp]; simp only [hk1, Bool.true_and]
      have hgd : h.p.getD i (0, 0) = p := by rw [List.getD_eq_getElem?_getD, hp]; rfl
      cases hb : (((partOut h.f p.2 (loE i) (loE i + 16)).length : Int) == cellsN p.2) with
      | true =>
        unfold backFo backPo backH
        rw [hh2, hh3, hb, hgd]
        simp only [cond_true, hsm, q1]
        rfl
      | false =>
        unfold backFo backPo backH
        rw [hh2, hh3, hb]
        rfl
end Go.Ab

namespace Go.Ab
open Go
open Go.Proofs
def backs : Nat → Nat → Hp → Hp
  | 0, _, h => h
  | m + 1, i, h => backs m (i + 1) (backH h i)
def backsS : Nat → Nat → Bool × Bool × Hp → Bool × Bool × Hp
  | 0, _, s => s
  | m + 1, i, s => backsS m (i + 1) (backFo s.2.2 i s.1, backPo s.2.2 i s.2.1, backH s.2.2 i)
theorem backsS_h : ∀ (m i : Nat) (s : Bool × Bool × Hp), (backsS m i s).2.2 = backs m i s.2.2
  | 0, _, _ => rfl
  | m + 1, i, s => backsS_h m (i + 1) _
def decW (w p a b c d : List (List CV)) : Option Hp := (decI w).bind fun w => (decP p).bind fun p => (decI a).bind fun a => (decI b).bind fun b => (decI c).bind fun c => (decBs d).bind fun d => some ⟨w, p, ⟨a, b, c⟩, d⟩
theorem decW_enc (h : Hp) : decW (encI h.w) (h.p.map encP) (encI h.f.a) (encI h.f.b) (encI h.f.c) (encBs h.c) = some h := by
  simp [decW]
theorem decW_ok {w p a b c d : List (List CV)} {h : Hp} (e : decW w p a b c d = some h) : w = encI h.w ∧ p = h.p.map encP ∧ a = encI h.f.a ∧ b = encI h.f.b ∧ c = encI h.f.c ∧ d = encBs h.c := by
  unfold decW at e
  replace e := bind_some' e
  obtain ⟨w', h1, e⟩ := e
  replace e := bind_some' e
  obtain ⟨p', h2, e⟩ := e
  replace e := bind_some' e
  obtain ⟨a', h3, e⟩ := e
  replace e := bind_some' e
  obtain ⟨b', h4, e⟩ := e
  replace e := bind_some' e
  obtain ⟨c', h5, e⟩ := e
  replace e := bind_some' e
  obtain ⟨d', h6, e⟩ := e
  cases e
  exact ⟨decI_enc h1, decP_enc h2, decI_enc h3, decI_enc h4, decI_enc h5, decBs_ok h6⟩
def cWB : CodB (Bool × Bool × Hp) where
  enc := fun s => [z28, encW s.1 s.2.1 s.2.2]
  dec := fun c => match c with
    | [[.own 1 [], .own 2 [], .own 1 [], .own 1 [], .own 1 [], .own 1 []], [.sl 1 w, .sl 2 p, .sl 1 a, .sl 1 b, .sl 1 c, .sl 1 d]] => (decW w p a b c d).bind fun h => some (false, false, h)
    | [[.own 1 [], .own 2 [], .own 1 [], .own 1 [], .own 1 [], .own 1 []], [.sl 1 w, .sl 2 p, .own 1 a, .own 1 b, .own 1 c, .sl 1 d]] => (decW w p a b c d).bind fun h => some (true, false, h)
    | [[.own 1 [], .own 2 [], .own 1 [], .own 1 [], .own 1 [], .own 1 []], [.sl 1 w, .own 2 p, .sl 1 a, .sl 1 b, .sl 1 c, .sl 1 d]] => (decW w p a b c d).bind fun h => some (false, true, h)
    | [[.own 1 [], .own 2 [], .own 1 [], .own 1 [], .own 1 [], .own 1 []], [.sl 1 w, .own 2 p, .own 1 a, .own 1 b, .own 1 c, .sl 1 d]] => (decW w p a b c d).bind fun h => some (true, true, h)
    | _ => none
  ok := fun c s e => by
    split at e
    all_goals first | (cases e; done) | skip
    all_goals
      replace e := bind_some' e
      obtain ⟨h, h1, e⟩ := e
      cases e
      obtain ⟨rfl, rfl, rfl, rfl, rfl, rfl⟩ := decW_ok h1
      rfl
  de := fun s => by
    obtain ⟨fo, po, h⟩ := s
    cases fo <;> cases po <;> (show (decW _ _ _ _ _ _).bind _ = _) <;> rw [decW_enc] <;> rfl
theorem flush_loop (β : Type) (K : Exit → List CV → List (List CV) → Option β) : ∀ (m i : Nat) (s : Bool × Bool × Hp), okW s.2.2 = true → i + m = s.2.2.p.length →
    loopB k10b [4, 6, 44, 45] o10 p10 (bodyL (bodyOf Tryd.f10) p10) (m + 1) [.ref 0, .ref 1, cI.enc (s.2.2.p.length : Int), cI.enc (i : Int)] (cWB.enc s) K = K (.exit 2) [.ref 0, .ref 1] (cWB.enc (backsS m i s)) := by
  intro m
  induction m with
  | zero =>
    intro i s _ h1
    obtain ⟨fo, po, h⟩ := s
    have hi : decide ((i : Int) < (h.p.length : Int)) = false := decide_eq_false (by simp at h1; omega)
    show loopB k10b _ _ _ _ _ [.ref 0, .ref 1, cI.enc (h.p.length : Int), cI.enc (i : Int)] [z28, encW fo po h] K = _
    cases fo <;> cases po
    · rw [t10ff, hi]; rfl
    · rw [t10ft, hi]; rfl
    · rw [t10tf, hi]; rfl
    · rw [t10tt, hi]; rfl
  | succ m ih =>
    intro i s hk h1
    obtain ⟨fo, po, h⟩ := s
    obtain ⟨b1, b2⟩ := back_ok hk i
    have := round10 h fo po i (m + 1) hk (by have h1 : i + (m + 1) = h.p.length := h1; omega) β K
    refine this.trans ?_
    have h2 := ih (i + 1) (backFo h i fo, backPo h i po, backH h i) b1 (by show i + 1 + m = (backH h i).p.length; have h1 : i + (m + 1) = h.p.length := h1; rw [b2]; omega)
    rw [show ((backFo h i fo, backPo h i po, backH h i).2.2.p.length : Int) = (h.p.length : Int) by simp only; rw [b2]] at h2
    exact h2
def outW (s : Bool × Bool × Hp) : Out := .alt s.1 (.alt s.2.1 (.one (.exit 2) [.ref 0, .ref 1] [z28, encW true true s.2.2]) (.one (.exit 2) [.ref 0, .ref 1] [z28, encW true false s.2.2]))
  (.alt s.2.1 (.one (.exit 2) [.ref 0, .ref 1] [z28, encW false true s.2.2]) (.one (.exit 2) [.ref 0, .ref 1] [z28, encW false false s.2.2]))
theorem outW_run (s : Bool × Bool × Hp) (β : Type) (K : Exit → List CV → List (List CV) → Option β) : (outW s).run K = K (.exit 2) [.ref 0, .ref 1] (cWB.enc s) := by
  obtain ⟨fo, po, h⟩ := s
  cases fo <;> cases po <;> rfl
def L10 : LoopSem := l4 [4, 6, 44, 45] o10 (cRef 0) (cRef 1) cI cI cWB (fun _ _ n i s => okW s.2.2 && (i == 0 && n == (s.2.2.p.length : Int)))
  fun _ _ _ _ s => outW (backsS s.2.2.p.length 0 s)
noncomputable abbrev k10 : Cx := k10b.loop p10 L10
theorem k10_ok : CxOK k10 [(9, gMayHp), (33, gBegun), (34, gPush)] := by
  refine CxOK.loop4 (CxOK.baseN (Good.cons mayHp_good (Good.cons begun_good (Good.cons push_good Good.nil))) (GoodI.cons back_inl GoodI.nil) (eqOK_none fun _ => rfl)) rfl fun a b n i s hp => ?_
  simp only [Bool.and_eq_true, beq_iff_eq] at hp
  obtain ⟨hk, hi, hn⟩ := hp
  subst hi hn
  exact ⟨s.2.2.p.length + 1, fun β K => (flush_loop β K s.2.2.p.length 0 s hk (by omega)).trans (outW_run _ β K).symm⟩
set_option maxRecDepth 100000 in
theorem r10 (h : Hp) (l : Ls) (β : Type) (K : CV → List (List CV) → Option β) : fnK k10 Tryd.f10 [cHp.enc h, cLs.enc l] [] K =
 Option.bind (Option.bind (decI (encI (Hp.w h))) fun w =>
 Option.bind (decP (List.map encP (Hp.p h))) fun p =>
 Option.bind (decI (encI (Ls.a (Hp.f h)))) fun a =>
 Option.bind (decI (encI (Ls.b (Hp.f h)))) fun b =>
 Option.bind (decI (encI (Ls.c (Hp.f h)))) fun c =>
 Option.bind (decBs (encBs (Hp.c h))) fun d => some { w := w, p := p, f := { a := a, b := b, c := c }, c := d }) fun a =>
 Option.bind (decLs [[CV.sl 1 (encI (Ls.a l)), CV.sl 1 (encI (Ls.b l)), CV.sl 1 (encI (Ls.c l))]]) fun b =>
 bif smH a && smLs (Hp.f a :: b) then
 bif !mayHpV a b then
 K (CV.tup [CV.agg [CV.own 1 [], CV.own 2 [], CV.own 1 [], CV.own 1 [], CV.own 1 [], CV.own 1 []], CV.int IntKind.i64 1]) []
 else
 Option.bind (Option.bind (decI (encI (Hp.w h))) fun w =>
 Option.bind (decP (List.map encP (Hp.p h))) fun p =>
 Option.bind (decI (encI (Ls.a (Hp.f h)))) fun a =>
 Option.bind (decI (encI (Ls.b (Hp.f h)))) fun b =>
 Option.bind (decI (encI (Ls.c (Hp.f h)))) fun c =>
 Option.bind (decBs (encBs (Hp.c h))) fun d => some { w := w, p := p, f := { a := a, b := b, c := c }, c := d }) fun a =>
 bif smH a && (!List.isEmpty (Hp.p a) && !List.isEmpty (Hp.c a)) then
 Option.bind (Option.bind (decI (encI (Ls.a (Hp.f a)))) fun a_1 =>
 Option.bind (decI (encI (Ls.b (Hp.f a)))) fun b =>
 Option.bind (decI (encI (Ls.c (Hp.f a)))) fun c => some { a := a_1, b := b, c := c }) fun a_1 =>
 Option.bind (decI (encI (Ls.a l))) fun c =>
 bif smL a_1 && Nat.ble (List.length c) 100000 then
 Option.bind (Option.bind (decI (encI (Ls.get a_1 0 ++ c))) fun a =>
 Option.bind (decI (encI (Ls.b a_1))) fun b =>
 Option.bind (decI (encI (Ls.c a_1))) fun c => some { a := a, b := b, c := c }) fun a_2 =>
 Option.bind (decI (encI (Ls.b l))) fun c =>
 bif smL a_2 && Nat.ble (List.length c) 100000 then
 Option.bind (Option.bind (decI (encI (Ls.a a_2))) fun a =>
 Option.bind (decI (encI (Ls.get a_2 1 ++ c))) fun b =>
 Option.bind (decI (encI (Ls.c a_2))) fun c => some { a := a, b := b, c := c }) fun a_3 =>
 Option.bind (decI (encI (Ls.c l))) fun c =>
 bif smL a_3 && Nat.ble (List.length c) 100000 then
 Option.bind (Option.bind (decW (encI (Hp.w a)) (List.map encP (Hp.p a)) (encI (Ls.a a_3)) (encI (Ls.b a_3)) (encI (Ls.get a_3 2 ++ c)) (encBs (Hp.c a))) fun h => some (true, false, h)) fun u =>
 bif okW (Prod.snd (Prod.snd u)) && (↑(List.length (List.map encP (Hp.p a))) : Int) == (↑(List.length (Hp.p (Prod.snd (Prod.snd u)))) : Int) then
 bif Prod.fst (backsS (List.length (Hp.p (Prod.snd (Prod.snd u)))) 0 u) then
 bif Prod.fst (Prod.snd (backsS (List.length (Hp.p (Prod.snd (Prod.snd u)))) 0 u)) then
 K (CV.tup [CV.agg [CV.sl 1 (encI (Hp.w (Prod.snd (Prod.snd (backsS (List.length (Hp.p (Prod.snd (Prod.snd u)))) 0 u))))), CV.own 2 (List.map encP (Hp.p (Prod.snd (Prod.snd (backsS (List.length (Hp.p (Prod.snd (Prod.snd u)))) 0 u))))), CV.own 1 (encI (Ls.a (Hp.f (Prod.snd (Prod.snd (backsS (List.length (Hp.p (Prod.snd (Prod.snd u)))) 0 u)))))), CV.own 1 (encI (Ls.b (Hp.f (Prod.snd (Prod.snd (backsS (List.length (Hp.p (Prod.snd (Prod.snd u)))) 0 u)))))), CV.own 1 (encI (Ls.c (Hp.f (Prod.snd (Prod.snd (backsS (List.length (Hp.p (Prod.snd (Prod.snd u)))) 0 u)))))), CV.sl 1 (encBs (Hp.c (Prod.snd (Prod.snd (backsS (List.length (Hp.p (Prod.snd (Prod.snd u)))) 0 u)))))], CV.int IntKind.i64 0]) []
 else
 K (CV.tup [CV.agg [CV.sl 1 (encI (Hp.w (Prod.snd (Prod.snd (backsS (List.length (Hp.p (Prod.snd (Prod.snd u)))) 0 u))))), CV.sl 2 (List.map encP (Hp.p (Prod.snd (Prod.snd (backsS (List.length (Hp.p (Prod.snd (Prod.snd u)))) 0 u))))), CV.own 1 (encI (Ls.a (Hp.f (Prod.snd (Prod.snd (backsS (List.length (Hp.p (Prod.snd (Prod.snd u)))) 0 u)))))), CV.own 1 (encI (Ls.b (Hp.f (Prod.snd (Prod.snd (backsS (List.length (Hp.p (Prod.snd (Prod.snd u)))) 0 u)))))), CV.own 1 (encI (Ls.c (Hp.f (Prod.snd (Prod.snd (backsS (List.length (Hp.p (Prod.snd (Prod.snd u)))) 0 u)))))), CV.sl 1 (encBs (Hp.c (Prod.snd (Prod.snd (backsS (List.length (Hp.p (Prod.snd (Prod.snd u)))) 0 u)))))], CV.int IntKind.i64 0]) []
 else
 bif Prod.fst (Prod.snd (backsS (List.length (Hp.p (Prod.snd (Prod.snd u)))) 0 u)) then
 K (CV.tup [CV.agg [CV.sl 1 (encI (Hp.w (Prod.snd (Prod.snd (backsS (List.length (Hp.p (Prod.snd (Prod.snd u)))) 0 u))))), CV.own 2 (List.map encP (Hp.p (Prod.snd (Prod.snd (backsS (List.length (Hp.p (Prod.snd (Prod.snd u)))) 0 u))))), CV.sl 1 (encI (Ls.a (Hp.f (Prod.snd (Prod.snd (backsS (List.length (Hp.p (Prod.snd (Prod.snd u)))) 0 u)))))), CV.sl 1 (encI (Ls.b (Hp.f (Prod.snd (Prod.snd (backsS (List.length (Hp.p (Prod.snd (Prod.snd u)))) 0 u)))))), CV.sl 1 (encI (Ls.c (Hp.f (Prod.snd (Prod.snd (backsS (List.length (Hp.p (Prod.snd (Prod.snd u)))) 0 u)))))), CV.sl 1 (encBs (Hp.c (Prod.snd (Prod.snd (backsS (List.length (Hp.p (Prod.snd (Prod.snd u)))) 0 u)))))], CV.int IntKind.i64 0]) []
 else
 K (CV.tup [CV.agg [CV.sl 1 (encI (Hp.w (Prod.snd (Prod.snd (backsS (List.length (Hp.p (Prod.snd (Prod.snd u)))) 0 u))))), CV.sl 2 (List.map encP (Hp.p (Prod.snd (Prod.snd (backsS (List.length (Hp.p (Prod.snd (Prod.snd u)))) 0 u))))), CV.sl 1 (encI (Ls.a (Hp.f (Prod.snd (Prod.snd (backsS (List.length (Hp.p (Prod.snd (Prod.snd u)))) 0 u)))))), CV.sl 1 (encI (Ls.b (Hp.f (Prod.snd (Prod.snd (backsS (List.length (Hp.p (Prod.snd (Prod.snd u)))) 0 u)))))), CV.sl 1 (encI (Ls.c (Hp.f (Prod.snd (Prod.snd (backsS (List.length (Hp.p (Prod.snd (Prod.snd u)))) 0 u)))))), CV.sl 1 (encBs (Hp.c (Prod.snd (Prod.snd (backsS (List.length (Hp.p (Prod.snd (Prod.snd u)))) 0 u)))))], CV.int IntKind.i64 0]) []
 else none
 else none
 else none
 else none
 else none
 else none := by kernel_rfl

end Go.Ab

namespace Go.Ab
open Go
open Go.Proofs
def app3 (f l : Ls) : Ls := ⟨f.a ++ l.a, f.b ++ l.b, f.c ++ l.c⟩
def flushH (h : Hp) (l : Ls) : Hp := backs h.p.length 0 { h with f := app3 h.f l }
def Hp.z : Hp := ⟨[], [], ⟨[], [], []⟩, []⟩
def flushE (h : Hp) (l : Ls) : Hp × Int := bif mayHpV h [l] then (flushH h l, 0) else (Hp.z, 1)
def gFlush : Callee := g2 cHp cLs (fun h l => smH h && (smL l && smL (app3 h.f l))) fun h l => .tup [cHp.enc (flushE h l).1, cI.enc (flushE h l).2]
theorem soft_W (fo po : Bool) (h : Hp) : soft 4 (.tup [.agg (encW fo po h), .int .i64 0]) = some (.tup [cHp.enc h, cI.enc 0]) := by
  cases fo <;> cases po <;> rfl
theorem shaped_ne {h : Hp} (hs : shapedE h = true) : may h.p = true ∧ h.p.isEmpty = false ∧ h.c.isEmpty = false := by
  simp only [shapedE, Bool.and_eq_true] at hs
  obtain ⟨_, h2, h3, h4⟩ := hs
  obtain ⟨h5, _⟩ := may_len h2
  have h3 := Nat.eq_of_beq_eq_true h3
  have h4 := Nat.eq_of_beq_eq_true h4
  refine ⟨h2, ?_, ?_⟩
  · cases hp : h.p with
    | nil => rw [hp] at h5; simp at h5
    | cons _ _ => rfl
  · cases hc : h.c with
    | nil => rw [hc] at h4; simp at h4; omega
    | cons _ _ => rfl
theorem smL_len {l : Ls} (h1 : l.a.length ≤ 100000) (h2 : l.b.length ≤ 100000) (h3 : l.c.length ≤ 100000) : smL l = true := by
  simp only [smL, Nat.ble_eq_true_of_le h1, Nat.ble_eq_true_of_le h2, Nat.ble_eq_true_of_le h3, Bool.and_self]
theorem smLs_two {f l : Ls} (h1 : smL f = true) (h2 : smL l = true) : smLs [f, l] = true := by
  simp [smLs, h1, h2]
theorem flush_good : GoodC Pr 10 gFlush :=
  good2S (k10_ok.sound (cx := k10) Tryd.func10 (by kernel_rfl) (by kernel_rfl) rfl (by kernel_rfl)) fun h l hp => by
    simp only [Bool.and_eq_true] at hp
    obtain ⟨hs, hl, ha⟩ := hp
    obtain ⟨l1, l2, l3⟩ := smL_le hl
    obtain ⟨a1, a2, a3⟩ := smL_le ha
    have hss := smH_le hs
    obtain ⟨f1, f2, f3⟩ := smL_le hss.2.2.2
    have hls : smLs [h.f, l] = true := smLs_two hss.2.2.2 hl
    have e : (⟨h.w, h.p, ⟨h.f.a, h.f.b, h.f.c⟩, h.c⟩ : Hp) = h := rfl
    have e' : (⟨h.f.a, h.f.b, h.f.c⟩ : Ls) = h.f := rfl
    have el : decLs [[CV.sl 1 (encI (Ls.a l)), CV.sl 1 (encI (Ls.b l)), CV.sl 1 (encI (Ls.c l))]] = some [l] := decLs_map [l]
    unfold flushE
    cases hm : mayHpV h [l] with
    | false =>
      refine ⟨.tup [.agg [CV.own 1 [], CV.own 2 [], CV.own 1 [], CV.own 1 [], CV.own 1 [], CV.own 1 []], .int .i64 1], rfl, fun β K => ?_⟩
      rw [r10]
      simp only [decI_map, decP_map, decBs_enc, Option.bind_some, e, el, hs, hls, Bool.and_self, cond_true, hm, Bool.not_false]
    | true =>
      obtain ⟨q1, q2, q3⟩ := shaped_ne (shaped_of hm)
      let h1 : Hp := { h with f := app3 h.f l }
      refine ⟨.tup [.agg (encW (backsS h.p.length 0 (true, false, h1)).1 (backsS h.p.length 0 (true, false, h1)).2.1 (backsS h.p.length 0 (true, false, h1)).2.2), .int .i64 0], ?_, fun β K => ?_⟩
      · rw [soft_W, backsS_h]; rfl
      · rw [r10]
        have s1 : smL h.f = true := hss.2.2.2
        have s2 : smL ⟨h.f.a ++ l.a, h.f.b, h.f.c⟩ = true := smL_len a1 f2 f3
        have s3 : smL ⟨h.f.a ++ l.a, h.f.b ++ l.b, h.f.c⟩ = true := smL_len a1 a2 f3
        have g0 : ∀ l : Ls, l.get 0 = l.a := fun _ => rfl
        have g1 : ∀ l : Ls, l.get 1 = l.b := fun _ => rfl
        have g2 : ∀ l : Ls, l.get 2 = l.c := fun _ => rfl
        have dw : decW (encI h.w) (h.p.map encP) (encI (h.f.a ++ l.a)) (encI (h.f.b ++ l.b)) (encI (h.f.c ++ l.c)) (encBs h.c) = some h1 := decW_enc h1
        have ok : okW h1 = true := by
          show (may h.p && smL (app3 h.f l)) = true
          rw [q1, ha]; rfl
        simp only [decI_map, decP_map, decBs_enc, Option.bind_some, e, e', el, hs, hls, Bool.and_self, cond_true, hm, Bool.not_true, cond_false, q2, q3, Bool.not_false, s1, s2, s3, Nat.ble_eq_true_of_le l1, Nat.ble_eq_true_of_le l2, Nat.ble_eq_true_of_le l3,
          g0, g1, g2, dw, ok, List.length_map, show h1.p.length = h.p.length from rfl, beq_self_eq_true]
        generalize backsS h.p.length 0 (true, false, h1) = s
        obtain ⟨fo, po, hh⟩ := s
        cases fo <;> cases po <;> rfl
end Go.Ab

namespace Go.Ab
open Go
open Go.Proofs
noncomputable abbrev k40 : Cx := cxG Pr Tryd.f40 []
set_option maxRecDepth 100000 in
theorem r40 (a : Int) (β : Type) (K : CV → List (List CV) → Option β) : fnK k40 Tryd.f40 [cI.enc a] [] K =
 K (CV.int IntKind.i64 (IntKind.wrap IntKind.i64 (IntKind.wrap IntKind.i64 (Int.tdiv a 16) - 1))) [] := by kernel_rfl

def numE (a : Int) : Int := IntKind.i64.wrap (IntKind.i64.wrap (Int.tdiv a 16) - 1)
def gNum : Callee := g1 cI (fun _ => true) fun a => cI.enc (numE a)
theorem num_good : GoodC Pr 40 gNum :=
  good1 ((CxOK.baseG Good.nil GoodI.nil (eqOK_none fun _ => rfl)).sound (cx := k40) Tryd.func40 (by kernel_rfl) (by kernel_rfl) rfl (by kernel_rfl)) fun a _ β K => by
    rw [r40]; rfl
noncomputable abbrev k42n : Cx := cxN Pr Tryd.f42 [] [(43, inlC k43n Tryd.f43)]
theorem free1_inl : GoodN Pr 42 (inlC k42n Tryd.f42) := (CxOK.baseN Good.nil (GoodI.cons drop_inl GoodI.nil) (eqOK_none fun _ => rfl)).inlG (cx := k42n) Tryd.func42 (by kernel_rfl) (by kernel_rfl) rfl (by kernel_rfl)
noncomputable abbrev k13 : Cx := cxN Pr Tryd.f13 [(14, gHead), (33, gBegun), (39, gRoom), (38, gZero), (40, gNum)] [(41, inlC k41n Tryd.f41), (42, inlC k42n Tryd.f42)]
set_option maxRecDepth 100000 in
theorem r13 (h : Hp) (a : Int) (β : Type) (K : CV → List (List CV) → Option β) : fnK k13 Tryd.f13 [cHp.enc h, cI.enc a] [] K =
 Option.bind (Option.bind (decI (encI (Hp.w h))) fun w =>
 Option.bind (decP (List.map encP (Hp.p h))) fun p =>
 Option.bind (decI (encI (Ls.a (Hp.f h)))) fun a =>
 Option.bind (decI (encI (Ls.b (Hp.f h)))) fun b =>
 Option.bind (decI (encI (Ls.c (Hp.f h)))) fun c =>
 Option.bind (decBs (encBs (Hp.c h))) fun d => some { w := w, p := p, f := { a := a, b := b, c := c }, c := d }) fun a_1 =>
 bif smH a_1 && smLs [Hp.f a_1] then
 bif Prod.snd (headE a_1 a) != 0 then
 K (CV.tup [CV.agg [CV.own 1 [], CV.own 2 [], CV.own 1 [], CV.own 1 [], CV.own 1 [], CV.own 1 []], CV.int IntKind.i64 (Prod.snd (headE a_1 a))]) []
 else
 Option.bind (Option.bind (decI (encI (Hp.w h))) fun w =>
 Option.bind (decP (List.map encP (Hp.p h))) fun p =>
 Option.bind (decI (encI (Ls.a (Hp.f h)))) fun a =>
 Option.bind (decI (encI (Ls.b (Hp.f h)))) fun b =>
 Option.bind (decI (encI (Ls.c (Hp.f h)))) fun c =>
 Option.bind (decBs (encBs (Hp.c h))) fun d => some { w := w, p := p, f := { a := a, b := b, c := c }, c := d }) fun a_2 =>
 bif smH a_2 && (!List.isEmpty (Hp.p a_2) && !List.isEmpty (Hp.c a_2)) then
 Option.bind (decP (List.map encP (Hp.p h))) fun ps =>
 bif Nat.ble (List.length ps) 200 then
 Option.bind (decI (encI (Hp.w a_2))) fun a_3 =>
 bif mayA (List.length a_3) && (decide (16 ≤ a) && (decide (1 ≤ roomA ps a) && decide (a - 16 + roomA ps a ≤ (↑(List.length a_3) : Int)))) then
 Option.bind (rdE (List.map encP (Hp.p a_2)) (numE a)) fun c =>
 Option.bind c[0]? fun x =>
 Option.bind (asI IntKind.i64 x) fun n =>
 bif n == 2 then
 Option.bind (decP (List.map encP (Hp.p a_2))) fun a_4 =>
 bif sm a_4 then
 K (CV.tup [CV.agg [CV.sl 1 (encI (zeroW a_3 a (roomA ps a))), CV.own 2 (List.map encP (Prod.snd (dropE a_4 (numE a)))), CV.own 1 (encI (Ls.a (Hp.f a_2))), CV.own 1 (encI (Ls.b (Hp.f a_2))), CV.own 1 (encI (Ls.c (Hp.f a_2))), CV.sl 1 (encBs (Hp.c a_2))], CV.int IntKind.i64 0]) []
 else none
 else
 Option.bind (rdE (List.map encP (Hp.p a_2)) (numE a)) fun c =>
 Option.bind c[1]? fun x =>
 Option.bind (asI IntKind.i64 x) fun n =>
 Option.bind (Option.bind (decI (encI (Ls.a (Hp.f a_2)))) fun a =>
 Option.bind (decI (encI (Ls.b (Hp.f a_2)))) fun b =>
 Option.bind (decI (encI (Ls.c (Hp.f a_2)))) fun c => some { a := a, b := b, c := c }) fun a_4 =>
 bif smL a_4 && (isC n && true) then
 Option.bind (rdE (List.map encP (Hp.p a_2)) (numE a)) fun c =>
 Option.bind c[0]? fun x =>
 Option.bind (asI IntKind.i64 x) fun n_1 =>
 Option.bind c[1]? fun x =>
 Option.bind (asI IntKind.i64 x) fun n_2 =>
 bif n_1 != 1 then
 K (CV.tup [CV.agg [CV.sl 1 (encI (zeroW a_3 a (roomA ps a))), CV.sl 2 (List.map encP (Hp.p a_2)), CV.own 1 (encI (Ls.a (pushL a_4 n [a]))), CV.own 1 (encI (Ls.b (pushL a_4 n [a]))), CV.own 1 (encI (Ls.c (pushL a_4 n [a]))), CV.sl 1 (encBs (Hp.c a_2))], CV.int IntKind.i64 0]) []
 else
 Option.bind (Option.bind (decI (encI (Ls.a (pushL a_4 n [a])))) fun a_5 =>
 Option.bind (decI (encI (Ls.b (pushL a_4 n [a])))) fun b =>
 Option.bind (decI (encI (Ls.c (pushL a_4 n [a])))) fun c => some { a := a_5, b := b, c := c }) fun a_5 =>
 bif smL a_5 && isC n_2 then
 bif (↑(List.length (encI (partOut a_5 n_2 (IntKind.wrap IntKind.i64 (IntKind.wrap IntKind.i64 (numE a + 1) * 16)) (IntKind.wrap IntKind.i64 (IntKind.wrap IntKind.i64 (IntKind.wrap IntKind.i64 (numE a + 1) * 16) + 16))))) : Int) == cellsN n_2 then
 Option.bind (decP (List.map encP (Hp.p a_2))) fun a_6 =>
 bif sm a_6 then
 K (CV.tup [CV.agg [CV.sl 1 (encI (zeroW a_3 a (roomA ps a))), CV.own 2 (List.map encP (Prod.snd (dropE a_6 (numE a)))), CV.own 1 (encI (Ls.a (partL a_5 n_2 (IntKind.wrap IntKind.i64 (IntKind.wrap IntKind.i64 (numE a + 1) * 16)) (IntKind.wrap IntKind.i64 (IntKind.wrap IntKind.i64 (IntKind.wrap IntKind.i64 (numE a + 1) * 16) + 16))))), CV.own 1 (encI (Ls.b (partL a_5 n_2 (IntKind.wrap IntKind.i64 (IntKind.wrap IntKind.i64 (numE a + 1) * 16)) (IntKind.wrap IntKind.i64 (IntKind.wrap IntKind.i64 (IntKind.wrap IntKind.i64 (numE a + 1) * 16) + 16))))), CV.own 1 (encI (Ls.c (partL a_5 n_2 (IntKind.wrap IntKind.i64 (IntKind.wrap IntKind.i64 (numE a + 1) * 16)) (IntKind.wrap IntKind.i64 (IntKind.wrap IntKind.i64 (IntKind.wrap IntKind.i64 (numE a + 1) * 16) + 16))))), CV.sl 1 (encBs (Hp.c a_2))], CV.int IntKind.i64 0]) []
 else none
 else
 K (CV.tup [CV.agg [CV.sl 1 (encI (zeroW a_3 a (roomA ps a))), CV.sl 2 (List.map encP (Hp.p a_2)), CV.sl 1 (encI (Ls.a (pushL a_4 n [a]))), CV.sl 1 (encI (Ls.b (pushL a_4 n [a]))), CV.sl 1 (encI (Ls.c (pushL a_4 n [a]))), CV.sl 1 (encBs (Hp.c a_2))], CV.int IntKind.i64 0]) []
 else none
 else none
 else none
 else none
 else none
 else none := by kernel_rfl

/-- What a cell's address tells of its page. -/
theorem cell_facts {ps : List Pg} {a : Int} (h : roomA ps a > 0) : may ps = true ∧ 16 ≤ a ∧ (a / 16 - 1).toNat < ps.length ∧ (((a / 16 - 1).toNat : Nat) : Int) = a / 16 - 1 ∧ ∃ p, ps[(a / 16 - 1).toNat]? = some p ∧ ps.getD (a / 16 - 1).toNat (0, 0) = p ∧
    ((p.1 = 2 ∧ a % 16 = 0 ∧ roomA ps a = 16 * p.2 ∧ 1 ≤ p.2 ∧ p.2 ≤ 4 ∧ (a / 16 - 1).toNat + p.2.toNat ≤ ps.length) ∨ (p.1 = 1 ∧ 0 ≤ p.2 ∧ p.2 ≤ 2 ∧ (a % 16) % wordsOf p.2 = 0 ∧ roomA ps a = wordsOf p.2)) := by
  have hd := roomA_doc ps a
  cases hm : may ps with
  | false => rw [hm] at hd; simp at hd; omega
  | true =>
    by_cases h1 : 16 ≤ a
    · by_cases h2 : a < 16 + 16 * (ps.length : Int)
      · rw [hm, decide_eq_true h1, decide_eq_true h2, Bool.and_self, Bool.and_self, cond_true] at hd
        have hi : (a / 16 - 1).toNat < ps.length := by omega
        have hp : ps[(a / 16 - 1).toNat]? = some (ps[(a / 16 - 1).toNat]) := by simp [hi]
        have hg : ps.getD (a / 16 - 1).toNat (0, 0) = ps[(a / 16 - 1).toNat] := by rw [List.getD_eq_getElem?_getD, hp]; rfl
        refine ⟨rfl, h1, hi, by omega, _, hp, hg, ?_⟩
        rw [hg] at hd
        obtain ⟨g1, g2, g3⟩ := may_go hm
        have hok := okPg_of g1 _ (List.getElem_mem hi)
        have hr : (((a % 16).toNat : Nat) : Int) = a % 16 := by omega
        have hrun := fun b => may_run hm (i := (a / 16 - 1).toNat) (b := b)
        rw [hp] at hrun
        generalize ps[(a / 16 - 1).toNat] = p at *
        obtain ⟨k, c⟩ := p
        rw [hd] at h ⊢
        unfold cellAt at h ⊢
        simp only at h hok ⊢
        by_cases k2 : k = 2
        · subst k2
          by_cases hr0 : (a % 16).toNat = 0
          · refine .inl ⟨rfl, by omega, by simp [hr0], ?_⟩
            obtain ⟨q1, q2, q3⟩ := hrun c rfl
            exact ⟨q1, q2, q3⟩
          · rw [beq_eq_false_iff_ne.2 hr0] at h
            exact absurd h (by simp)
        · by_cases k1 : k = 1
          · subst k1
            have hc : 0 ≤ c ∧ c ≤ 2 := by
              rcases hok with h | h | h | h
              · simp at h
              · simp at h
              · exact ⟨h.2.1, h.2.2⟩
              · simp at h
            by_cases hz : a % 16 % wordsOf c = 0
            · exact .inr ⟨rfl, hc.1, hc.2, hz, by simp [hr, hz]⟩
            · rw [hr, beq_eq_false_iff_ne.2 hz] at h
              exact absurd h (by simp)
          · rw [beq_eq_false_iff_ne.2 k1, beq_eq_false_iff_ne.2 k2] at h
            exact absurd h (by simp)
      · rw [decide_eq_false h2] at hd; simp at hd; omega
    · rw [decide_eq_false h1] at hd; simp at hd; omega
theorem words_val {c : Int} (h0 : 0 ≤ c) (h2 : c ≤ 2) : (c = 0 ∧ wordsOf c = 2) ∨ (c = 1 ∧ wordsOf c = 4) ∨ (c = 2 ∧ wordsOf c = 8) := by
  have : c = 0 ∨ c = 1 ∨ c = 2 := by omega
  rcases this with rfl | rfl | rfl
  · exact .inl ⟨rfl, rfl⟩
  · exact .inr (.inl ⟨rfl, rfl⟩)
  · exact .inr (.inr ⟨rfl, rfl⟩)
theorem cell_end {ps : List Pg} {a : Int} (h : roomA ps a > 0) : a - 16 + roomA ps a ≤ 16 * (ps.length : Int) := by
  obtain ⟨_, h1, h2, h3, p, _, _, h4⟩ := cell_facts h
  rcases h4 with ⟨_, g1, g2, g3, g4, g5⟩ | ⟨_, g1, g2, g3, g4⟩
  · rw [g2]; omega
  · rw [g4]
    rcases words_val g1 g2 with ⟨_, e⟩ | ⟨_, e⟩ | ⟨_, e⟩ <;> rw [e] at g3 ⊢ <;> omega
def freeH (h : Hp) (a : Int) : Hp := bif (pageE h a).1 == 2 then { h with w := zeroW h.w a (roomA h.p a), p := (dropE h.p (((a / 16 - 1).toNat : Nat) : Int)).2 }
  else backH { h with w := zeroW h.w a (roomA h.p a), f := pushL h.f (pageE h a).2 [a] } (a / 16 - 1).toNat
def freeHE (h : Hp) (a : Int) : Hp × Int := bif (headE h a).2 != 0 then (Hp.z, (headE h a).2) else (freeH h a, 0)
/-- Room for one more. -/
def smL1 (l : Ls) : Bool := Nat.ble l.a.length 90000 && (Nat.ble l.b.length 90000 && Nat.ble l.c.length 90000)
theorem smL1_le {l : Ls} (h : smL1 l = true) : l.a.length ≤ 90000 ∧ l.b.length ≤ 90000 ∧ l.c.length ≤ 90000 := by
  simp only [smL1, Bool.and_eq_true] at h
  exact ⟨Nat.le_of_ble_eq_true h.1, Nat.le_of_ble_eq_true h.2.1, Nat.le_of_ble_eq_true h.2.2⟩
theorem smL_push {l : Ls} {c : Int} {x : List Int} (h : smL1 l = true) (hx : x.length ≤ 10000) : smL (pushL l c x) = true := by
  obtain ⟨h1, h2, h3⟩ := smL1_le h
  unfold pushL
  match c.toNat with
  | 0 =>
    show smL ⟨l.a ++ x, l.b, l.c⟩ = true
    exact smL_len (by show (l.a ++ x).length ≤ _; rw [List.length_append]; omega) (by show l.b.length ≤ _; omega) (by show l.c.length ≤ _; omega)
  | 1 =>
    show smL ⟨l.a, l.b ++ x, l.c⟩ = true
    exact smL_len (by show l.a.length ≤ _; omega) (by show (l.b ++ x).length ≤ _; rw [List.length_append]; omega) (by show l.c.length ≤ _; omega)
  | k + 2 =>
    show smL ⟨l.a, l.b, l.c ++ x⟩ = true
    exact smL_len (by show l.a.length ≤ _; omega) (by show l.b.length ≤ _; omega) (by show (l.c ++ x).length ≤ _; rw [List.length_append]; omega)
theorem head_ok {h : Hp} {a : Int} (he : ((headE h a).2 != 0) = false) : mayHpV h [] = true ∧ roomA h.p a > 0 ∧ (unpX h a).a = true ∧ headE h a = (unpX h a, 0) := by
  unfold headE at he ⊢
  cases hm : mayHpV h [] with
  | false => rw [hm] at he; cases he
  | true =>
    cases hr : roomA h.p a == 0 with
    | true => rw [hm, hr] at he; cases he
    | false =>
      cases hu : (unpX h a).a with
      | false => rw [hm, hr, hu] at he; cases he
      | true =>
        have := roomN h.p a
        rw [hr] at this
        refine ⟨rfl, ?_, rfl, rfl⟩
        cases hd : decide (roomA h.p a > 0) with
        | true => exact of_decide_eq_true hd
        | false => rw [hd] at this; cases this
def gFree : Callee := g2 cHp cI (fun h _ => smH h && smL1 h.f) fun h a => .tup [cHp.enc (freeHE h a).1, cI.enc (freeHE h a).2]
theorem free_good : GoodC Pr 13 gFree :=
  good2S ((CxOK.baseN (Good.cons head_good (Good.cons begun_good (Good.cons roomH_good (Good.cons zero_good (Good.cons num_good Good.nil))))) (GoodI.cons push_inl (GoodI.cons free1_inl GoodI.nil)) (eqOK_none fun _ => rfl)).sound (cx := k13) Tryd.func13 (by kernel_rfl) (by kernel_rfl) rfl (by kernel_rfl)) fun h a hp => by
    simp only [Bool.and_eq_true] at hp
    obtain ⟨hs, hl1⟩ := hp
    have hss := smH_le hs
    have hls : smLs [h.f] = true := by simp [smLs, hss.2.2.2]
    have e : (⟨h.w, h.p, ⟨h.f.a, h.f.b, h.f.c⟩, h.c⟩ : Hp) = h := rfl
    have e' : (⟨h.f.a, h.f.b, h.f.c⟩ : Ls) = h.f := rfl
    unfold freeHE
    cases he : (headE h a).2 != 0 with
    | true =>
      refine ⟨.tup [.agg z28, cI.enc (headE h a).2], rfl, fun β K => ?_⟩
      rw [r13]
      simp only [decI_map, decP_map, decBs_enc, Option.bind_some, e, hs, hls, Bool.and_self, cond_true, he]
      rfl
    | false =>
      obtain ⟨hm, hr, _, _⟩ := head_ok he
      have hsh := shaped_of hm
      obtain ⟨q1, q2, q3⟩ := shaped_ne hsh
      obtain ⟨_, f1, f2, f3, p, f4, f5, f6⟩ := cell_facts hr
      have hend := cell_end hr
      simp only [shapedE, Bool.and_eq_true] at hsh
      obtain ⟨w1, _, w3, _⟩ := hsh
      have w3 := Nat.eq_of_beq_eq_true w3
      have hpage : pageE h a = p := f5
      have hps : sm h.p = true := by have := hs; simp only [smH, Bool.and_eq_true] at this; exact this.2.1
      have hlp := (may_len q1).2
      have hn : numE a = (((a / 16 - 1).toNat : Nat) : Int) := by
        have h16 : Int.tdiv a 16 = a / 16 := Int.tdiv_eq_ediv_of_nonneg (by omega)
        unfold numE
        rw [h16, wrap_in (a := a / 16) (by omega), wrap_in (by omega)]; omega
      have g0 : (encP p)[0]? = some (.int .i64 p.1) := rfl
      have g1 : (encP p)[1]? = some (.int .i64 p.2) := rfl
      have e0 : (List.map encP (Hp.p h))[((((a / 16 - 1).toNat : Nat) : Int)).toNat]? = some (encP p) := by rw [Int.toNat_natCast, List.getElem?_map, f4]; rfl
      have rd := rdE_nat (l := List.map encP (Hp.p h)) (show (0 : Int) ≤ (((a / 16 - 1).toNat : Nat) : Int) by omega)
      have c1 : (mayA h.w.length && (decide (16 ≤ a) && (decide (1 ≤ roomA h.p a) && decide (a - 16 + roomA h.p a ≤ (h.w.length : Int))))) = true := by
        rw [w1, decide_eq_true f1, decide_eq_true (by omega), decide_eq_true (by omega)]; rfl
      unfold freeH
      rw [hpage]
      rcases f6 with ⟨k2, _⟩ | ⟨k1, c0, c2, _⟩
      · have kb : (p.1 == 2) = true := by rw [k2]; rfl
        rw [kb, cond_true]
        refine ⟨.tup [.agg (encW true true { h with w := zeroW h.w a (roomA h.p a), p := (dropE h.p (((a / 16 - 1).toNat : Nat) : Int)).2 }), .int .i64 0], soft_W _ _ _, fun β K => ?_⟩
        rw [r13]
        simp only [decI_map, decP_map, decBs_enc, Option.bind_some, e, hs, hls, Bool.and_self, cond_true, he, cond_false, q2, q3, Bool.not_false, Nat.ble_eq_true_of_le hss.2.1, c1, hn, rd, e0, g0, asI_1, kb, hps]
        rfl
      · have kb : (p.1 == 2) = false := by rw [k1]; rfl
        have kc : (p.1 != 1) = false := by rw [k1]; rfl
        have hic : isC p.2 = true := by unfold isC; rw [decide_eq_true (by omega), decide_eq_true (by omega)]; rfl
        rw [kb, cond_false]
        generalize hi : (a / 16 - 1).toNat = i at *
        let h1 : Hp := { h with w := zeroW h.w a (roomA h.p a), f := pushL h.f p.2 [a] }
        have s1 : smL (pushL h.f p.2 [a]) = true := smL_push hl1 (by simp)
        have wa : IntKind.i64.wrap ((i : Int) + 1) = ((i + 1 : Nat) : Int) := by rw [wrap_in (by omega)]; omega
        have wb : IntKind.i64.wrap (((i + 1 : Nat) : Int) * 16) = loE i := wrap_in (by omega)
        have wc : IntKind.i64.wrap (loE i + 16) = loE i + 16 := wrap_in (by unfold loE; omega)
        have ep : (⟨(pushL h.f p.2 [a]).a, (pushL h.f p.2 [a]).b, (pushL h.f p.2 [a]).c⟩ : Ls) = pushL h.f p.2 [a] := rfl
        have hh3 : hitE h1 i = (((partOut (pushL h.f p.2 [a]) p.2 (loE i) (loE i + 16)).length : Int) == cellsN p.2) := by
          unfold hitE
          rw [show h1.p[i]? = some p from f4]
          simp only [k1, beq_self_eq_true, Bool.true_and]
          rfl
        have hp' : h.p[i]? = some (1, p.2) := by rw [f4, ← k1]
        obtain ⟨z1, _, _⟩ := small_drop q1 hp'
        have hgd : h1.p.getD i (0, 0) = p := f5
        cases hb : (((partOut (pushL h.f p.2 [a]) p.2 (loE i) (loE i + 16)).length : Int) == cellsN p.2) with
        | true =>
          refine ⟨.tup [.agg (encW true true (backH h1 i)), .int .i64 0], soft_W _ _ _, fun β K => ?_⟩
          rw [r13]
          simp only [decI_map, decP_map, decBs_enc, Option.bind_some, e, e', hs, hls, Bool.and_self, Bool.and_true, cond_true, he, cond_false, q2, q3, Bool.not_false, Nat.ble_eq_true_of_le hss.2.1, c1, hn, rd, e0, g0, g1, asI_1, kb, kc, hps, hss.2.2.2, hic, s1, ep, wa, wb, wc, encI_len, hb, z1]
          unfold backH
          rw [hh3, hb, hgd]
          rfl
        | false =>
          refine ⟨.tup [.agg (encW false false (backH h1 i)), .int .i64 0], soft_W _ _ _, fun β K => ?_⟩
          rw [r13]
          simp only [decI_map, decP_map, decBs_enc, Option.bind_some, e, e', hs, hls, Bool.and_self, Bool.and_true, cond_true, he, cond_false, q2, q3, Bool.not_false, Nat.ble_eq_true_of_le hss.2.1, c1, hn, rd, e0, g0, g1, asI_1, kb, kc, hps, hss.2.2.2, hic, s1, ep, wa, wb, wc, encI_len, hb]
          unfold backH
          rw [hh3, hb]
          rfl
end Go.Ab

namespace Go.Ab
open Go
open Go.Proofs
noncomputable abbrev k22 : Cx := cxG Pr Tryd.f22 []
set_option maxRecDepth 100000 in
theorem r22 (l : Ls) (β : Type) (K : CV → List (List CV) → Option β) : fnK k22 Tryd.f22 [cLs.enc l] [] K =
 bif decide ((↑(List.length (encI (Ls.a l))) : Int) ≤ 70) then
 bif decide ((↑(List.length (encI (Ls.b l))) : Int) ≤ 70) then
 K (CV.bool (decide ((↑(List.length (encI (Ls.c l))) : Int) ≤ 70))) []
 else K (CV.bool false) []
 else K (CV.bool false) [] := by kernel_rfl

def lightV (l : Ls) : Bool := decide ((l.a.length : Int) ≤ 70) && (decide ((l.b.length : Int) ≤ 70) && decide ((l.c.length : Int) ≤ 70))
def gLight : Callee := g1 cLs (fun _ => true) fun l => cB.enc (lightV l)
noncomputable abbrev k21 : Cx := cxG Pr Tryd.f21 [(22, gLight)]
set_option maxRecDepth 100000 in
theorem r21 (h : Hp) (β : Type) (K : CV → List (List CV) → Option β) : fnK k21 Tryd.f21 [cHp.enc h] [] K =
 bif decide ((↑(List.length (encI (Hp.w h))) : Int) ≤ 130) then
 bif decide ((↑(List.length (List.map encP (Hp.p h))) : Int) ≤ 9) then
 bif decide ((↑(List.length (encBs (Hp.c h))) : Int) ≤ 20) then
 Option.bind (Option.bind (decI (encI (Ls.a (Hp.f h)))) fun a =>
 Option.bind (decI (encI (Ls.b (Hp.f h)))) fun b =>
 Option.bind (decI (encI (Ls.c (Hp.f h)))) fun c => some { a := a, b := b, c := c }) fun a => K (CV.bool (lightV a)) []
 else K (CV.bool false) []
 else K (CV.bool false) []
 else K (CV.bool false) [] := by kernel_rfl

def fewH (h : Hp) : Bool := decide ((h.w.length : Int) ≤ 130) && (decide ((h.p.length : Int) ≤ 9) && (decide ((h.c.length : Int) ≤ 20) && lightV h.f))
def gFewH : Callee := g1 cHp (fun _ => true) fun h => cB.enc (fewH h)
noncomputable abbrev k8a : Cx := cxG Pr Tryd.f8 [(21, gFewH), (22, gLight)]
abbrev p8 := [false, true, false, true, true]
abbrev o8 : Exit → List Nat := fun _ => [1, 5]
set_option maxRecDepth 100000 in
theorem t8x (ls : List Ls) (ok : Bool) (i : Int) (m : Nat) (β : Type) (K : Exit → List CV → List (List CV) → Option β) : loopB k8a [1, 5, 6] o8 p8 (bodyL (bodyOf Tryd.f8) p8) (m + 1) [cLss.enc ls, cB.enc ok, cI.enc i] [] K =
 bif decide (i < (↑(List.length (List.map encLs ls)) : Int)) then
 bif ok then
 Option.bind (rdE (List.map encLs ls) i) fun c =>
 Option.bind c[0]? fun x =>
 Option.bind (asL 1 x) fun l =>
 Option.bind c[1]? fun x =>
 Option.bind (asL 1 x) fun l_1 =>
 Option.bind c[2]? fun x =>
 Option.bind (asL 1 x) fun l_2 =>
 Option.bind (Option.bind (decI l) fun a =>
 Option.bind (decI l_1) fun b => Option.bind (decI l_2) fun c => some { a := a, b := b, c := c }) fun a => loopB k8a [1, 5, 6] o8 [false, true, false, true, true] (bodyL (bodyOf Tryd.f8) p8) m [CV.sl 3 (List.map encLs ls), CV.bool (lightV a), CV.int IntKind.i64 (IntKind.wrap IntKind.i64 (i + 1))] [] fun a a_1 a_2 => K a a_1 a_2
 else loopB k8a [1, 5, 6] o8 [false, true, false, true, true] (bodyL (bodyOf Tryd.f8) p8) m [CV.sl 3 (List.map encLs ls), CV.bool false, CV.int IntKind.i64 (IntKind.wrap IntKind.i64 (i + 1))] [] fun a a_1 a_2 => K a a_1 a_2
 else K (Exit.exit 0) [CV.sl 3 (List.map encLs ls), CV.bool ok] [] := by kernel_rfl

noncomputable abbrev k11a : Cx := cxG Pr Tryd.f11 [] [] (fun _ => false) (fun _ => false) (fun t => Nat.beq t 50)
abbrev o11 : Exit → List Nat := fun | .ret => [4] | _ => []
set_option maxRecDepth 100000 in
theorem t11x (p q : List Pg) (i : Int) (m : Nat) (β : Type) (K : Exit → List CV → List (List CV) → Option β) : loopB k11a [0, 1, 5] o11 p8 (bodyL (bodyOf Tryd.f11) p8) (m + 1) [cPs.enc p, cPs.enc q, cI.enc i] [] K =
 bif decide (i < (↑(List.length (List.map encP p)) : Int)) then
 Option.bind (rdE (List.map encP p) i) fun c =>
 Option.bind c[0]? fun x =>
 Option.bind (asI IntKind.i64 x) fun n =>
 Option.bind c[1]? fun x =>
 Option.bind (asI IntKind.i64 x) fun n_1 =>
 Option.bind (rdE (List.map encP q) i) fun c =>
 Option.bind c[0]? fun x =>
 Option.bind (asI IntKind.i64 x) fun n_2 =>
 Option.bind c[1]? fun x =>
 Option.bind (asI IntKind.i64 x) fun n_3 =>
 bif !(n == n_2 && (n_1 == n_3 && true)) then K Exit.ret [CV.bool false] []
 else loopB k11a [0, 1, 5] o11 [false, true, false, true, true] (bodyL (bodyOf Tryd.f11) p8) m [CV.sl 2 (List.map encP p), CV.sl 2 (List.map encP q), CV.int IntKind.i64 (IntKind.wrap IntKind.i64 (i + 1))] [] fun a a_1 a_2 => K a a_1 a_2
 else K (Exit.exit 0) [] [] := by kernel_rfl

theorem light_good : GoodC Pr 22 gLight :=
  good1 ((CxOK.baseG Good.nil GoodI.nil (eqOK_none fun _ => rfl)).sound (cx := k22) Tryd.func22 (by kernel_rfl) (by kernel_rfl) rfl (by kernel_rfl)) fun l _ β K => by
    rw [r22]
    simp only [encI_len]
    unfold lightV
    cases decide ((l.a.length : Int) ≤ 70) <;> cases decide ((l.b.length : Int) ≤ 70) <;> rfl
theorem fewH_good : GoodC Pr 21 gFewH :=
  good1 ((CxOK.baseG (Good.cons light_good Good.nil) GoodI.nil (eqOK_none fun _ => rfl)).sound (cx := k21) Tryd.func21 (by kernel_rfl) (by kernel_rfl) rfl (by kernel_rfl)) fun h _ β K => by
    rw [r21]
    simp only [encI_len, List.length_map, encBs_len, decI_map, Option.bind_some]
    unfold fewH
    cases decide ((h.w.length : Int) ≤ 130) <;> cases decide ((h.p.length : Int) ≤ 9) <;> cases decide ((h.c.length : Int) ≤ 20) <;> rfl
theorem few_loop (ls : List Ls) (hl : ls.length ≤ 9223372036854775807) (β : Type) (K : Exit → List CV → List (List CV) → Option β) : ∀ (m i : Nat) (ok : Bool), i + m = ls.length →
    loopB k8a [1, 5, 6] o8 p8 (bodyL (bodyOf Tryd.f8) p8) (m + 1) [cLss.enc ls, cB.enc ok, cI.enc (i : Int)] [] K = K (.exit 0) [cLss.enc ls, cB.enc (ok && (ls.drop i).all lightV)] [] := by
  intro m
  induction m with
  | zero =>
    intro i ok h1
    rw [t8x, decide_eq_false (by rw [List.length_map]; omega), cond_false, List.drop_eq_nil_of_le (by omega)]
    simp only [List.all_nil, Bool.and_true]
    rfl
  | succ m ih =>
    intro i ok h1
    have hi : i < ls.length := by omega
    have e0 : (List.map encLs ls)[(i : Int).toNat]? = some (encLs ls[i]) := by simp [hi]
    have w1 : IntKind.i64.wrap ((i : Int) + 1) = ((i + 1 : Nat) : Int) := by rw [wrap_in (by omega)]; omega
    have h2 := fun ok => ih (i + 1) ok (by omega)
    rw [t8x, decide_eq_true (by rw [List.length_map]; omega), cond_true, List.drop_eq_getElem_cons hi, List.all_cons, rdE_nat (by omega), e0]
    generalize ls[i] = l
    have g1 : (encLs l)[0]? = some (.sl 1 (encI l.a)) := rfl
    have g2 : (encLs l)[1]? = some (.sl 1 (encI l.b)) := rfl
    have g3 : (encLs l)[2]? = some (.sl 1 (encI l.c)) := rfl
    have e' : (⟨l.a, l.b, l.c⟩ : Ls) = l := rfl
    simp only [Option.bind_some, g1, g2, g3, asL_1, decI_map, e', w1]
    cases ok with
    | true =>
      rw [Bool.true_and, cond_true]
      exact h2 (lightV l)
    | false =>
      have h3 := h2 false
      rw [Bool.false_and] at h3 ⊢
      rw [cond_false]
      exact h3
def L8 : LoopSem := l3 [1, 5, 6] o8 cLss cB cI c0 (fun ls _ i _ => i == 0 && Nat.ble ls.length 9223372036854775807) fun ls ok _ _ => .one (.exit 0) [cLss.enc ls, cB.enc (ok && ls.all lightV)] []
noncomputable abbrev k8 : Cx := k8a.loop p8 L8
theorem k8_ok : CxOK k8 [(21, gFewH), (22, gLight)] := by
  refine CxOK.loop3 (CxOK.baseG (Good.cons fewH_good (Good.cons light_good Good.nil)) GoodI.nil (eqOK_none fun _ => rfl)) rfl fun ls ok i u hp => ?_
  simp only [Bool.and_eq_true, beq_iff_eq] at hp
  obtain ⟨hi, hl⟩ := hp
  subst hi
  exact ⟨ls.length + 1, fun β K => (few_loop ls (Nat.le_of_ble_eq_true hl) β K ls.length 0 ok (by omega)).trans (by rw [List.drop_zero]; rfl)⟩
set_option maxRecDepth 100000 in
theorem r8 (h : Hp) (ls : List Ls) (β : Type) (K : CV → List (List CV) → Option β) : fnK k8 Tryd.f8 [cHp.enc h, cLss.enc ls] [] K =
 Option.bind (Option.bind (decI (encI (Hp.w h))) fun w =>
 Option.bind (decP (List.map encP (Hp.p h))) fun p =>
 Option.bind (decI (encI (Ls.a (Hp.f h)))) fun a =>
 Option.bind (decI (encI (Ls.b (Hp.f h)))) fun b =>
 Option.bind (decI (encI (Ls.c (Hp.f h)))) fun c =>
 Option.bind (decBs (encBs (Hp.c h))) fun d => some { w := w, p := p, f := { a := a, b := b, c := c }, c := d }) fun a =>
 Option.bind (decLs (List.map encLs ls)) fun a_1 =>
 bif Nat.ble (List.length a_1) 9223372036854775807 then
 bif fewH a && List.all a_1 lightV then K (CV.bool (decide ((↑(List.length (List.map encLs a_1)) : Int) ≤ 4))) []
 else K (CV.bool false) []
 else none := by kernel_rfl

def fewV (h : Hp) (ls : List Ls) : Bool := (fewH h && ls.all lightV) && decide ((ls.length : Int) ≤ 4)
def gFew : Callee := g2 cHp cLss (fun _ ls => Nat.ble ls.length 9223372036854775807) fun h ls => cB.enc (fewV h ls)
theorem few_good : GoodC Pr 8 gFew :=
  good2 (k8_ok.sound (cx := k8) Tryd.func8 (by kernel_rfl) (by kernel_rfl) rfl (by kernel_rfl)) fun h ls hp β K => by
    have e : (⟨h.w, h.p, ⟨h.f.a, h.f.b, h.f.c⟩, h.c⟩ : Hp) = h := rfl
    rw [r8]
    simp only [decI_map, decP_map, decBs_enc, decLs_map, Option.bind_some, e, hp, beq_self_eq_true, Bool.and_self, cond_true, List.length_map]
    unfold fewV
    cases (fewH h && ls.all lightV) <;> rfl
theorem same_loop (p q : List Pg) (hq : q.length = p.length) (hl : p.length ≤ 100000) (β : Type) (K : Exit → List CV → List (List CV) → Option β) : ∀ (m i : Nat), i + m = p.length →
    loopB k11a [0, 1, 5] o11 p8 (bodyL (bodyOf Tryd.f11) p8) (m + 1) [cPs.enc p, cPs.enc q, cI.enc (i : Int)] [] K = bif decide (p.drop i = q.drop i) then K (.exit 0) [] [] else K .ret [cB.enc false] [] := by
  intro m
  induction m with
  | zero =>
    intro i h1
    rw [t11x, decide_eq_false (by rw [List.length_map]; omega), cond_false, List.drop_eq_nil_of_le (by omega), List.drop_eq_nil_of_le (by omega)]
    rfl
  | succ m ih =>
    intro i h1
    have hi : i < p.length := by omega
    have hi2 : i < q.length := by omega
    have e0 : (List.map encP p)[(i : Int).toNat]? = some (encP p[i]) := by simp [hi]
    have e1 : (List.map encP q)[(i : Int).toNat]? = some (encP q[i]) := by simp [hi2]
    have w1 : IntKind.i64.wrap ((i : Int) + 1) = ((i + 1 : Nat) : Int) := by rw [wrap_in (by omega)]; omega
    have h2 := ih (i + 1) (by omega)
    rw [t11x, decide_eq_true (by rw [List.length_map]; omega), cond_true, List.drop_eq_getElem_cons hi, List.drop_eq_getElem_cons hi2, rdE_nat (by omega), e0, rdE_nat (by omega), e1]
    generalize p[i] = a
    generalize q[i] = b
    have g1 : (encP a)[0]? = some (.int .i64 a.1) := rfl
    have g2 : (encP a)[1]? = some (.int .i64 a.2) := rfl
    have g3 : (encP b)[0]? = some (.int .i64 b.1) := rfl
    have g4 : (encP b)[1]? = some (.int .i64 b.2) := rfl
    simp only [Option.bind_some, g1, g2, g3, g4, asI_1, w1, Bool.and_true]
    by_cases hab : a = b
    · subst hab
      simp only [beq_self_eq_true, Bool.and_self, Bool.not_true, cond_false]
      refine h2.trans ?_
      by_cases hd : p.drop (i + 1) = q.drop (i + 1)
      · rw [decide_eq_true hd, decide_eq_true (by rw [hd])]
      · rw [decide_eq_false hd, decide_eq_false (by simpa using hd)]
    · have hne : (a.1 == b.1 && a.2 == b.2) = false := by
        cases h : (a.1 == b.1 && a.2 == b.2) with
        | false => rfl
        | true =>
          simp only [Bool.and_eq_true, beq_iff_eq] at h
          exact absurd (Prod.ext h.1 h.2) hab
      rw [hne, decide_eq_false (by simp [hab])]
      rfl
def L11 : LoopSem := l3 [0, 1, 5] o11 cPs cPs cI c0 (fun p q i _ => i == 0 && (Nat.beq q.length p.length && Nat.ble p.length 100000)) fun p q _ _ => .alt (decide (p = q)) (.one (.exit 0) [] []) (.one .ret [cB.enc false] [])
noncomputable abbrev k11 : Cx := k11a.loop p8 L11
theorem k11_ok : CxOK k11 [] := by
  refine CxOK.loop3 (CxOK.baseG Good.nil GoodI.nil (eqOK_page rfl rfl)) rfl fun p q i u hp => ?_
  simp only [Bool.and_eq_true, beq_iff_eq] at hp
  obtain ⟨hi, hq, hl⟩ := hp
  subst hi
  exact ⟨p.length + 1, fun β K => (same_loop p q (Nat.eq_of_beq_eq_true hq) (Nat.le_of_ble_eq_true hl) β K p.length 0 (by omega)).trans (by rw [List.drop_zero, List.drop_zero]; rfl)⟩
set_option maxRecDepth 100000 in
theorem r11 (p q : List Pg) (β : Type) (K : CV → List (List CV) → Option β) : fnK k11 Tryd.f11 [cPs.enc p, cPs.enc q] [] K =
 bif (↑(List.length (List.map encP p)) : Int) != (↑(List.length (List.map encP q)) : Int) then K (CV.bool false) []
 else
 Option.bind (decP (List.map encP p)) fun a =>
 Option.bind (decP (List.map encP q)) fun b =>
 bif Nat.beq (List.length b) (List.length a) && Nat.ble (List.length a) 100000 then
 bif decide (a = b) then K (CV.bool true) [] else K (CV.bool false) []
 else none := by kernel_rfl

def gSameP : Callee := g2 cPs cPs (fun p _ => Nat.ble p.length 100000) fun p q => cB.enc (decide (p = q))
theorem sameP_good : GoodC Pr 11 gSameP :=
  good2 (k11_ok.sound (cx := k11) Tryd.func11 (by kernel_rfl) (by kernel_rfl) rfl (by kernel_rfl)) fun p q hp β K => by
    rw [r11]
    simp only [decP_map, Option.bind_some, List.length_map, hp, beq_self_eq_true, Bool.true_and, Bool.and_true]
    have hb : (((p.length : Nat) : Int) != ((q.length : Nat) : Int)) = !(Nat.beq q.length p.length) := by
      show (!(((p.length : Nat) : Int) == ((q.length : Nat) : Int))) = _
      rw [beq_nat, show Nat.beq p.length q.length = Nat.beq q.length p.length from by rw [Bool.eq_iff_iff]; simp only [Nat.beq_eq]; exact eq_comm]
    rw [hb]
    cases hq : Nat.beq q.length p.length with
    | false =>
      rw [decide_eq_false fun h => by rw [h] at hq; simp at hq]
      rfl
    | true =>
      simp only [Bool.not_true, cond_false, cond_true]
      cases decide (p = q) <;> rfl
end Go.Ab

namespace Go.Ab
open Go
open Go.Proofs
/-- A heap's box, and a map of its own. -/
structure WM where
  h : Hp
  ks : List Int
def cWm : CodB WM where
  enc := fun s => [encHp s.h, [.mpo s.ks]]
  dec := fun c => match c with
    | [[.sl 1 w, .sl 2 p, .sl 1 a, .sl 1 b, .sl 1 c, .sl 1 d], [.mpo ks]] => (decW w p a b c d).bind fun h => some ⟨h, ks⟩
    | _ => none
  ok := fun c s e => by
    split at e
    · replace e := bind_some' e
      obtain ⟨h, h1, e⟩ := e
      cases e
      obtain ⟨rfl, rfl, rfl, rfl, rfl, rfl⟩ := decW_ok h1
      rfl
    · cases e
  de := fun s => by
    show (decW _ _ _ _ _ _).bind _ = _
    rw [decW_enc]; rfl
noncomputable abbrev k12a : Cx := cxG Pr Tryd.f12 [(9, gMayHp), (36, gAllI), (31, gAllC), (30, gEvery)] [] (fun q => Nat.beq q 15)
abbrev p12 := [false, true, false, true, true, true]
abbrev o12 : Exit → List Nat := fun _ => [2, 5]
set_option maxRecDepth 100000 in
theorem t12 (h : Hp) (ks xs : List Int) (n i : Int) (m : Nat) (β : Type) (K : Exit → List CV → List (List CV) → Option β) : loopB k12a [2, 5, 18, 19, 20] o12 p12 (bodyL (bodyOf Tryd.f12) p12) (m + 1) [.ref 0, .ref 1, cOI.enc xs, cI.enc n, cI.enc i] (cWm.enc ⟨h, ks⟩) K =
 bif decide (i < n) then
 if 0 ≤ i ∧ i < (↑(List.length (encI xs)) : Int) then
 Option.bind (encI xs)[Int.toNat i]? fun e =>
 Option.bind e[0]? fun x =>
 Option.bind (asI IntKind.i64 x) fun n_1 => loopB k12a [2, 5, 18, 19, 20] o12 [false, true, false, true, true, true] (bodyL (bodyOf Tryd.f12) p12) m [CV.ref 0, CV.ref 1, CV.own 1 (encI xs), CV.int IntKind.i64 n, CV.int IntKind.i64 (IntKind.wrap IntKind.i64 (i + 1))] [[CV.sl 1 (encI (Hp.w h)), CV.sl 2 (List.map encP (Hp.p h)), CV.sl 1 (encI (Ls.a (Hp.f h))), CV.sl 1 (encI (Ls.b (Hp.f h))), CV.sl 1 (encI (Ls.c (Hp.f h))), CV.sl 1 (encBs (Hp.c h))], [CV.mpo (insK ks n_1)]] fun a a_1 a_2 => K a a_1 a_2
 else none
 else
 K (Exit.exit 0) [CV.ref 0, CV.ref 1] [[CV.sl 1 (encI (Hp.w h)), CV.sl 2 (List.map encP (Hp.p h)), CV.sl 1 (encI (Ls.a (Hp.f h))), CV.sl 1 (encI (Ls.b (Hp.f h))), CV.sl 1 (encI (Ls.c (Hp.f h))), CV.sl 1 (encBs (Hp.c h))], [CV.mpo ks]] := by kernel_rfl

theorem insK_contains (ks : List Int) (n a : Int) : (insK ks n).contains a = (ks.contains a || a == n) := by
  unfold insK
  cases h : ks.contains n with
  | false => rw [cond_false, Bool.eq_iff_iff]; simp
  | true =>
    rw [cond_true]
    by_cases e : a = n
    · subst e; rw [h]; rfl
    · rw [beq_eq_false_iff_ne.2 e, Bool.or_false]
theorem fold_contains (a : Int) : ∀ (xs ks : List Int), (xs.foldl insK ks).contains a = (ks.contains a || xs.contains a)
  | [], ks => by simp
  | x :: xs, ks => by
    rw [List.foldl_cons, fold_contains a xs, insK_contains, List.contains_cons, Bool.or_assoc]
theorem whole_loop (h : Hp) (xs : List Int) (hx : xs.length ≤ 4000000000) (β : Type) (K : Exit → List CV → List (List CV) → Option β) : ∀ (m i : Nat) (ks : List Int), i + m = xs.length →
    loopB k12a [2, 5, 18, 19, 20] o12 p12 (bodyL (bodyOf Tryd.f12) p12) (m + 1) [.ref 0, .ref 1, cOI.enc xs, cI.enc (xs.length : Int), cI.enc (i : Int)] (cWm.enc ⟨h, ks⟩) K = K (.exit 0) [.ref 0, .ref 1] (cWm.enc ⟨h, (xs.drop i).foldl insK ks⟩) := by
  intro m
  induction m with
  | zero =>
    intro i ks h1
    rw [t12, decide_eq_false (by omega), cond_false, List.drop_eq_nil_of_le (by omega)]
    rfl
  | succ m ih =>
    intro i ks h1
    have hii : i < xs.length := by omega
    have hin : (0 : Int) ≤ (i : Int) ∧ (i : Int) < ((List.length (encI xs) : Nat) : Int) := by rw [encI_len]; omega
    have e1 : (encI xs)[(i : Int).toNat]? = some [CV.int .i64 xs[i]] := by simp [encI, hii]
    have w1 : IntKind.i64.wrap ((i : Int) + 1) = ((i + 1 : Nat) : Int) := by rw [wrap_in (by omega)]; omega
    rw [t12, decide_eq_true (by omega), cond_true, List.drop_eq_getElem_cons hii, List.foldl_cons]
    simp only [if_pos hin, e1, Option.bind_some, zero_get, asI_i, w1]
    exact ih (i + 1) (insK ks xs[i]) (by omega)
def L12 : LoopSem := l5 [2, 5, 18, 19, 20] o12 (cRef 0) (cRef 1) cOI cI cI cWm (fun _ _ xs n i s => Nat.ble xs.length 4000000000 && (i == 0 && (n == (xs.length : Int) && s.ks.isEmpty))) fun _ _ xs _ _ s => .one (.exit 0) [.ref 0, .ref 1] (cWm.enc ⟨s.h, xs.foldl insK []⟩)
noncomputable abbrev k12 : Cx := k12a.loop p12 L12
theorem k12_ok : CxOK k12 [(9, gMayHp), (36, gAllI), (31, gAllC), (30, gEvery)] := by
  refine CxOK.loop5 (CxOK.baseG (Good.cons mayHp_good (Good.cons catI_good (Good.cons allCG_good (Good.cons every_good Good.nil)))) GoodI.nil (eqOK_none fun _ => rfl)) rfl fun a b xs n i s hp => ?_
  obtain ⟨h, ks⟩ := s
  simp only [Bool.and_eq_true, beq_iff_eq, List.isEmpty_iff] at hp
  obtain ⟨hx, rfl, rfl, hks⟩ := hp
  have hks : ks = [] := hks
  subst hks
  refine ⟨xs.length + 1, fun β K => ?_⟩
  have := whole_loop h xs (Nat.le_of_ble_eq_true hx) β K xs.length 0 [] (by omega)
  rw [List.drop_zero] at this
  exact this
set_option maxRecDepth 100000 in
theorem r12 (h : Hp) (ls : List Ls) (β : Type) (K : CV → List (List CV) → Option β) : fnK k12 Tryd.f12 [cHp.enc h, cLss.enc ls] [] K =
 Option.bind (Option.bind (decI (encI (Hp.w h))) fun w =>
 Option.bind (decP (List.map encP (Hp.p h))) fun p =>
 Option.bind (decI (encI (Ls.a (Hp.f h)))) fun a =>
 Option.bind (decI (encI (Ls.b (Hp.f h)))) fun b =>
 Option.bind (decI (encI (Ls.c (Hp.f h)))) fun c =>
 Option.bind (decBs (encBs (Hp.c h))) fun d => some { w := w, p := p, f := { a := a, b := b, c := c }, c := d }) fun a =>
 Option.bind (decLs (List.map encLs ls)) fun b =>
 bif smH a && smLs (Hp.f a :: b) then
 bif !mayHpV a b then K (CV.bool false) []
 else
 if List.length ([[CV.sl 1 (encI (Ls.a (Hp.f h))), CV.sl 1 (encI (Ls.b (Hp.f h))), CV.sl 1 (encI (Ls.c (Hp.f h)))]] ++ List.map encLs ls) ≤ LIM then
 Option.bind (decLs ([CV.sl 1 (encI (Ls.a (Hp.f h))), CV.sl 1 (encI (Ls.b (Hp.f h))), CV.sl 1 (encI (Ls.c (Hp.f h)))] :: List.append [] (List.map encLs ls))) fun a =>
 bif smLs a then
 Option.bind (decI (encI (catI a))) fun c =>
 Option.bind (Option.bind (decW (encI (Hp.w h)) (List.map encP (Hp.p h)) (encI (Ls.a (Hp.f h))) (encI (Ls.b (Hp.f h))) (encI (Ls.c (Hp.f h))) (encBs (Hp.c h))) fun h => some { h := h, ks := [] }) fun u =>
 bif Nat.ble (List.length c) 4000000000 && ((↑(List.length (encI (catI a))) : Int) == (↑(List.length c) : Int) && List.isEmpty (WM.ks u)) then
 Option.bind (decP (List.map encP (Hp.p (WM.h u)))) fun ps =>
 bif Nat.ble (List.length ps) 200 then
 Option.bind (decI (atV (allCs ps))) fun a =>
 Option.bind (Clo.dec (CV.fn 37 [] [CV.pc [CV.sl 1 (encI (Hp.w (WM.h u))), CV.sl 2 (List.map encP (Hp.p (WM.h u))), CV.sl 1 (encI (Ls.a (Hp.f (WM.h u)))), CV.sl 1 (encI (Ls.b (Hp.f (WM.h u)))), CV.sl 1 (encI (Ls.c (Hp.f (WM.h u)))), CV.sl 1 (encBs (Hp.c (WM.h u)))] 0, CV.pc [CV.mp (List.foldl insK [] c)] 0])) fun b =>
 bif List.all a (Clo.pre b) && Nat.ble (List.length a) 100000 then
 K (CV.bool (List.all a (Clo.val b))) []
 else none
 else none
 else none
 else none
 else none
 else none := by kernel_rfl

/-- Nothing is lost: what stands nowhere on the lists is an object. -/
def wholeHV (h : Hp) (ls : List Ls) : Bool := mayHpV h ls && (cellAs h.p).all fun a => bif wordE h a != 0 then true else (catI (h.f :: ls)).contains a
def gWhole : Callee := g2 cHp cLss (fun h ls => smH h && smLs (h.f :: ls)) fun h ls => cB.enc (wholeHV h ls)
theorem wholeV_all (h : Hp) (xs : List Int) : ∀ l : List Int, l.all (Clo.whole h (xs.foldl insK [])).val = l.all fun a => bif wordE h a != 0 then true else xs.contains a := fun l => by
  congr 1
  funext a
  show wholeV h (xs.foldl insK []) a = _
  unfold wholeV
  rw [fold_contains]
  simp
theorem whole_good : GoodC Pr 12 gWhole :=
  good2 (k12_ok.sound (cx := k12) Tryd.func12 (by kernel_rfl) (by kernel_rfl) rfl (by kernel_rfl)) fun h ls hp β K => by
    simp only [Bool.and_eq_true] at hp
    obtain ⟨hs, hls⟩ := hp
    obtain ⟨h1, h2⟩ := smLs_le hls
    have hL := lim_val
    have e : (⟨h.w, h.p, ⟨h.f.a, h.f.b, h.f.c⟩, h.c⟩ : Hp) = h := rfl
    have hss := smH_le hs
    have hcl := catI_len h2
    have dw : decW (encI h.w) (h.p.map encP) (encI h.f.a) (encI h.f.b) (encI h.f.c) (encBs h.c) = some h := decW_enc h
    rw [r12]
    simp only [decI_map, decP_map, decBs_enc, decLs_map, Option.bind_some, e, hs, hls, Bool.and_self, cond_true]
    unfold wholeHV
    cases hm : mayHpV h ls with
    | false => rfl
    | true =>
      have hsh := shaped_of hm
      have hc8 : (cellAs h.p).length ≤ 100000 := by
        have := Nat.le_of_ble_eq_true (all_len8 (ps := h.p) (Nat.ble_eq_true_of_le (smH_le hs).2.1))
        have e2 : (cellAs h.p).length = ((allCs h.p).map (·.1)).length := rfl
        omega
      have hpre : (cellAs h.p).all (Clo.whole h ((catI (h.f :: ls)).foldl insK [])).pre = true := by
        have := cells_pre hs hsh
        rw [List.all_eq_true] at this ⊢
        intro a ha
        have h3 : (inW h a && inP h a) = true := this a ha
        simp only [Bool.and_eq_true] at h3
        exact h3.1
      rw [Bool.not_true, cond_false, if_pos (by simp at h1 ⊢; omega)]
      simp only [de_ls, Option.bind_some, hls, cond_true, dw, encI_len, Nat.ble_eq_true_of_le (show (catI (h.f :: ls)).length ≤ 4000000000 by omega), beq_self_eq_true, List.isEmpty_nil, Bool.and_self,
        Nat.ble_eq_true_of_le (smH_le hs).2.1, atV_enc, cellAs_dec, de_whole, hpre, Nat.ble_eq_true_of_le hc8, wholeV_all, Bool.true_and]
      rfl
end Go.Ab

namespace Go.Ab
open Go
open Go.Proofs
noncomputable abbrev k7 : Cx := cxN Pr Tryd.f7 [(13, gFree), (12, gWhole)] [] (fun q => Nat.beq q 4)
set_option maxRecDepth 100000 in
theorem r7 (_u : Unit) (β : Type) (K : CV → List (List CV) → Option β) : fnK k7 Tryd.f7 [] [] K =
 bif smH { w := [0, 0, 0, 0, 0, 0, 0, 0, 41, 0, 0, 0, 0, 0, 0, 0], p := [(1, 2)], f := { a := [], b := [], c := [16] }, c := [false, false] } && smL1 { a := [], b := [], c := [16] } then
 bif Prod.snd (freeHE { w := [0, 0, 0, 0, 0, 0, 0, 0, 41, 0, 0, 0, 0, 0, 0, 0], p := [(1, 2)], f := { a := [], b := [], c := [16] }, c := [false, false] } 24) == 0 then
 bif (↑(List.length (List.map encP (Hp.p (Prod.fst (freeHE { w := [0, 0, 0, 0, 0, 0, 0, 0, 41, 0, 0, 0, 0, 0, 0, 0], p := [(1, 2)], f := { a := [], b := [], c := [16] }, c := [false, false] } 24))))) : Int) == 1 then
 Option.bind (rdE (List.map encP (Hp.p (Prod.fst (freeHE { w := [0, 0, 0, 0, 0, 0, 0, 0, 41, 0, 0, 0, 0, 0, 0, 0], p := [(1, 2)], f := { a := [], b := [], c := [16] }, c := [false, false] } 24)))) 0) fun c =>
 Option.bind c[0]? fun x =>
 Option.bind (asI IntKind.i64 x) fun n =>
 bif n == 0 then
 bif (↑(List.length (encI (Ls.c (Hp.f (Prod.fst (freeHE { w := [0, 0, 0, 0, 0, 0, 0, 0, 41, 0, 0, 0, 0, 0, 0, 0], p := [(1, 2)], f := { a := [], b := [], c := [16] }, c := [false, false] } 24)))))) : Int) == 0 then
 Option.bind (Option.bind (decI (encI (Hp.w (Prod.fst (freeHE { w := [0, 0, 0, 0, 0, 0, 0, 0, 41, 0, 0, 0, 0, 0, 0, 0], p := [(1, 2)], f := { a := [], b := [], c := [16] }, c := [false, false] } 24))))) fun w =>
 Option.bind (decP (List.map encP (Hp.p (Prod.fst (freeHE { w := [0, 0, 0, 0, 0, 0, 0, 0, 41, 0, 0, 0, 0, 0, 0, 0], p := [(1, 2)], f := { a := [], b := [], c := [16] }, c := [false, false] } 24))))) fun p =>
 Option.bind (decI (encI (Ls.a (Hp.f (Prod.fst (freeHE { w := [0, 0, 0, 0, 0, 0, 0, 0, 41, 0, 0, 0, 0, 0, 0, 0], p := [(1, 2)], f := { a := [], b := [], c := [16] }, c := [false, false] } 24)))))) fun a =>
 Option.bind (decI (encI (Ls.b (Hp.f (Prod.fst (freeHE { w := [0, 0, 0, 0, 0, 0, 0, 0, 41, 0, 0, 0, 0, 0, 0, 0], p := [(1, 2)], f := { a := [], b := [], c := [16] }, c := [false, false] } 24)))))) fun b =>
 Option.bind (decI (encI (Ls.c (Hp.f (Prod.fst (freeHE { w := [0, 0, 0, 0, 0, 0, 0, 0, 41, 0, 0, 0, 0, 0, 0, 0], p := [(1, 2)], f := { a := [], b := [], c := [16] }, c := [false, false] } 24)))))) fun c =>
 Option.bind (decBs (encBs (Hp.c (Prod.fst (freeHE { w := [0, 0, 0, 0, 0, 0, 0, 0, 41, 0, 0, 0, 0, 0, 0, 0], p := [(1, 2)], f := { a := [], b := [], c := [16] }, c := [false, false] } 24))))) fun d => some { w := w, p := p, f := { a := a, b := b, c := c }, c := d }) fun a => bif smH a && smLs [Hp.f a] then K (CV.bool (wholeHV a [])) [] else none
 else K (CV.bool false) []
 else K (CV.bool false) []
 else K (CV.bool false) []
 else K (CV.bool false) []
 else none := by kernel_rfl

def hA : Hp := ⟨[0, 0, 0, 0, 0, 0, 0, 0, 41, 0, 0, 0, 0, 0, 0, 0], [(1, 2)], ⟨[], [], [16]⟩, [false, false]⟩
def hB : Hp := ⟨[0, 0, 0, 0, 0, 0, 0, 0, 0, 0, 0, 0, 0, 0, 0, 0], [(0, 0)], ⟨[], [], []⟩, [false, false]⟩
theorem hA_shaped : shapedE hA = true := by kernel_rfl
theorem hA_listed : listedV hA hA.f = true := by kernel_rfl
theorem hA_cells : (cellAs hA.p).all (mayV hA) = true := by kernel_rfl
theorem hA_apart : apartV [hA.f] = true := by
  have h1 : catI [hA.f] = [16] := rfl
  have h2 : sortI [16] = [16] := by simp [sortI]
  unfold apartV
  rw [h1, h2]
  rfl
theorem hA_may : mayHpV hA [] = true := by
  unfold mayHpV
  rw [hA_shaped, hA_cells, hA_apart]
  simp only [List.all_cons, List.all_nil, hA_listed, Bool.and_self]
theorem hA_head : headE hA 24 = (unpX hA 24, 0) := by
  unfold headE
  rw [hA_may, show (roomA hA.p 24 == 0) = false by kernel_rfl, show (unpX hA 24).a = true by kernel_rfl]
  rfl
theorem hA_free : freeHE hA 24 = (hB, 0) := by
  unfold freeHE
  rw [hA_head]
  show (freeH hA 24, 0) = _
  rw [show freeH hA 24 = hB by kernel_rfl]
theorem hB_shaped : shapedE hB = true := by kernel_rfl
theorem hB_listed : listedV hB hB.f = true := by kernel_rfl
theorem hB_cells : (cellAs hB.p).all (mayV hB) = true := by kernel_rfl
theorem hB_apart : apartV [hB.f] = true := by
  have h1 : catI [hB.f] = [] := rfl
  have h2 : sortI [] = [] := by simp [sortI]
  unfold apartV
  rw [h1, h2]
  rfl
theorem hB_may : mayHpV hB [] = true := by
  unfold mayHpV
  rw [hB_shaped, hB_cells, hB_apart]
  simp only [List.all_cons, List.all_nil, hB_listed, Bool.and_self]
theorem hB_whole : wholeHV hB [] = true := by
  unfold wholeHV
  rw [hB_may, show cellAs hB.p = [] by kernel_rfl]
  rfl
def gAwake : Callee := g0 true (.bool true)
theorem awake_good : GoodC Pr 7 gAwake :=
  good0 ((CxOK.baseN (Good.cons free_good (Good.cons whole_good Good.nil)) GoodI.nil (eqOK_none fun _ => rfl)).sound (cx := k7) Tryd.func7 (by kernel_rfl) (by kernel_rfl) rfl (by kernel_rfl)) fun _ _ β K => by
    rw [r7 ()]
    have eA : (⟨[0, 0, 0, 0, 0, 0, 0, 0, 41, 0, 0, 0, 0, 0, 0, 0], [(1, 2)], ⟨[], [], [16]⟩, [false, false]⟩ : Hp) = hA := rfl
    rw [eA, hA_free, show (smH hA && smL1 ⟨[], [], [16]⟩) = true by kernel_rfl]
    have e : (⟨hB.w, hB.p, ⟨hB.f.a, hB.f.b, hB.f.c⟩, hB.c⟩ : Hp) = hB := rfl
    have g1 : ((List.length (List.map encP hB.p) : Nat) : Int) = 1 := rfl
    have g2 : (rdE (List.map encP hB.p) 0) = some (encP (0, 0)) := rfl
    have g3 : (encP (0, 0))[0]? = some (.int .i64 0) := rfl
    have g4 : ((List.length (encI hB.f.c) : Nat) : Int) = 0 := rfl
    simp only [decI_map, decP_map, decBs_enc, Option.bind_some, e, g1, g2, g3, g4, asI_1, beq_self_eq_true, cond_true, decLs, show (smH hB && smLs [hB.f]) = true by kernel_rfl, hB_whole]
end Go.Ab

namespace Go.Ab
open Go
open Go.Proofs
/-- heap.Used's function. -/
def cUs : Cod Hp where
  enc := fun h => .fn 45 [] [cPH.enc h]
  dec := fun c => match c with | .fn f [] [x] => bif Nat.beq f 45 then cPH.dec x else none | _ => none
  ok := fun c a h => by
    split at h
    · rename_i f x
      cases e : Nat.beq f 45 with
      | true => rw [e] at h; rw [Nat.eq_of_beq_eq_true e, cPH.ok _ _ h]
      | false => rw [e] at h; cases h
    · cases h
  de := fun h => cPH.de h
noncomputable abbrev k73u : Cx := cxG Pr Tryd.f73 [(45, gUsed1)]
set_option maxRecDepth 100000 in
theorem t73u (xs : List Int) (h : Hp) (n i : Int) (m : Nat) (β : Type) (K : Exit → List CV → List (List CV) → Option β) : loopB k73u [0, 1, 7, 8] o73 p73 (bodyL (bodyOf Tryd.f73) p73) (m + 1) [cIs.enc xs, cUs.enc h, cI.enc n, cI.enc i] [] K =
 bif decide (i < n) then
 Option.bind (rdE (encI xs) i) fun c =>
 Option.bind c[0]? fun x =>
 Option.bind (asI IntKind.i64 x) fun n_1 =>
 Option.bind (Option.bind (decI (encI (Hp.w h))) fun w =>
 Option.bind (decP (List.map encP (Hp.p h))) fun p =>
 Option.bind (decI (encI (Ls.a (Hp.f h)))) fun a =>
 Option.bind (decI (encI (Ls.b (Hp.f h)))) fun b =>
 Option.bind (decI (encI (Ls.c (Hp.f h)))) fun c =>
 Option.bind (decBs (encBs (Hp.c h))) fun d => some { w := w, p := p, f := { a := a, b := b, c := c }, c := d }) fun b =>
 bif inW b n_1 then
 bif usedV b n_1 then K Exit.ret [CV.int IntKind.i64 i] []
 else loopB k73u [0, 1, 7, 8] o73 [false, true, false, true] (bodyL (bodyOf Tryd.f73) p73) m [CV.sl 1 (encI xs), CV.fn 45 [] [CV.pc [CV.sl 1 (encI (Hp.w h)), CV.sl 2 (List.map encP (Hp.p h)), CV.sl 1 (encI (Ls.a (Hp.f h))), CV.sl 1 (encI (Ls.b (Hp.f h))), CV.sl 1 (encI (Ls.c (Hp.f h))), CV.sl 1 (encBs (Hp.c h))] 0], CV.int IntKind.i64 n, CV.int IntKind.i64 (IntKind.wrap IntKind.i64 (i + 1))] [] fun a a_1 a_2 => K a a_1 a_2
 else none
 else K (Exit.exit 0) [] [] := by kernel_rfl

def firstU (h : Hp) (xs : List Int) : Option Nat := xs.findIdx? (usedV h)
theorem indexU_loop (h : Hp) (xs : List Int) (hx : xs.length ≤ 100000) (hc : xs.all (inW h) = true) (β : Type) (K : Exit → List CV → List (List CV) → Option β) : ∀ (m i : Nat), i + m = xs.length →
    loopB k73u [0, 1, 7, 8] o73 p73 (bodyL (bodyOf Tryd.f73) p73) (m + 1) [cIs.enc xs, cUs.enc h, cI.enc (xs.length : Int), cI.enc (i : Int)] [] K =
      bif (firstU h (xs.drop i)).isSome then K .ret [cI.enc (((i + (firstU h (xs.drop i)).getD 0 : Nat)) : Int)] [] else K (.exit 0) [] [] := by
  intro m
  induction m with
  | zero =>
    intro i h1
    rw [t73u, decide_eq_false (by omega), cond_false, List.drop_eq_nil_of_le (by omega)]
    rfl
  | succ m ih =>
    intro i h1
    have hii : i < xs.length := by omega
    have e : (⟨h.w, h.p, ⟨h.f.a, h.f.b, h.f.c⟩, h.c⟩ : Hp) = h := rfl
    rw [t73u, decide_eq_true (by omega), cond_true, List.drop_eq_getElem_cons hii, rdE_nat (by omega)]
    have e1 : (encI xs)[(i : Int).toNat]? = some [CV.int .i64 xs[i]] := by simp [encI, hii]
    have e2 : inW h xs[i] = true := List.all_eq_true.1 hc _ (List.getElem_mem hii)
    simp only [e1, Option.bind_some, zero_get, asI_i, show (i : Int) + 1 = ((i + 1 : Nat) : Int) by omega, wrap_in (a := ((i + 1 : Nat) : Int)) (by omega), decI_map, decP_map, decBs_enc, e, e2, cond_true]
    have e3 : firstU h (xs[i] :: xs.drop (i + 1)) = bif usedV h xs[i] then some 0 else (firstU h (xs.drop (i + 1))).map (· + 1) := by
      unfold firstU
      rw [List.findIdx?_cons]
      cases usedV h xs[i] <;> rfl
    rw [e3]
    cases usedV h xs[i] with
    | true => rfl
    | false =>
      rw [cond_false, cond_false]
      refine (ih (i + 1) (by omega)).trans ?_
      cases firstU h (xs.drop (i + 1)) with
      | none => rfl
      | some j =>
        simp only [Option.map_some, Option.isSome_some, Option.getD_some, cond_true]
        rw [show i + 1 + j = i + (j + 1) by omega]
def L73u : LoopSem := l4 [0, 1, 7, 8] o73 cIs cUs cI cI c0 (fun xs h n i _ => xs.all (inW h) && (Nat.ble xs.length 100000 && (i == 0 && n == (xs.length : Int))))
  fun xs h _ _ _ => .alt (firstU h xs).isSome (.one .ret [cI.enc (((firstU h xs).getD 0 : Nat) : Int)] []) (.one (.exit 0) [] [])
noncomputable abbrev k73v : Cx := k73u.loop p73 L73u
theorem k73v_ok : CxOK k73v [(45, gUsed1)] := by
  refine CxOK.loop4 (CxOK.baseG (Good.cons used1_good Good.nil) GoodI.nil (eqOK_none fun _ => rfl)) rfl fun xs h n i u hp => ?_
  simp only [Bool.and_eq_true, beq_iff_eq] at hp
  obtain ⟨hc, hx, hi, hn⟩ := hp
  have hx := Nat.le_of_ble_eq_true hx
  subst hi hn
  refine ⟨xs.length + 1, fun β K => ?_⟩
  have := indexU_loop h xs hx hc β K xs.length 0 (by omega)
  rw [List.drop_zero, Nat.zero_add] at this
  exact this
set_option maxRecDepth 100000 in
theorem r73v (xs : List Int) (h : Hp) (β : Type) (K : CV → List (List CV) → Option β) : fnK k73v Tryd.f73 [cIs.enc xs, cUs.enc h] [] K =
 Option.bind (decI (encI xs)) fun a =>
 Option.bind (Option.bind (decI (encI (Hp.w h))) fun w =>
 Option.bind (decP (List.map encP (Hp.p h))) fun p =>
 Option.bind (decI (encI (Ls.a (Hp.f h)))) fun a =>
 Option.bind (decI (encI (Ls.b (Hp.f h)))) fun b =>
 Option.bind (decI (encI (Ls.c (Hp.f h)))) fun c =>
 Option.bind (decBs (encBs (Hp.c h))) fun d => some { w := w, p := p, f := { a := a, b := b, c := c }, c := d }) fun b =>
 bif List.all a (inW b) && (Nat.ble (List.length a) 100000 && (↑(List.length (encI xs)) : Int) == (↑(List.length a) : Int)) then
 bif Option.isSome (firstU b a) then K (CV.int IntKind.i64 (↑(Option.getD (firstU b a) 0) : Int)) []
 else K (CV.int IntKind.i64 (Int.negSucc 0)) []
 else none := by kernel_rfl

def gIndexU : Callee := g2 cIs cUs (fun xs h => xs.all (inW h) && Nat.ble xs.length 100000) fun xs h => cI.enc (bif (firstU h xs).isSome then (((firstU h xs).getD 0 : Nat) : Int) else -1)
theorem indexU_good : GoodC Pr 73 gIndexU :=
  good2 (k73v_ok.sound (cx := k73v) Tryd.func73 (by kernel_rfl) (by kernel_rfl) rfl (by kernel_rfl)) fun xs h hp β K => by
    have e : (⟨h.w, h.p, ⟨h.f.a, h.f.b, h.f.c⟩, h.c⟩ : Hp) = h := rfl
    refine (r73v xs h β K).trans ?_
    simp only [decI_map, decP_map, decBs_enc, Option.bind_some, e, encI_len, beq_self_eq_true, Bool.and_true, hp, cond_true]
    cases (firstU h xs).isSome <;> rfl
noncomputable abbrev k44a : Cx := cxG Pr Tryd.f44 [(73, gIndexU), (45, gUsed1)]
abbrev p44 := [false, true, false, true, true, true]
abbrev o44 : Exit → List Nat := fun _ => [0, 5]
set_option maxRecDepth 100000 in
theorem t44 (xs : List Int) (h : Hp) (i j : Int) (m : Nat) (β : Type) (K : Exit → List CV → List (List CV) → Option β) : loopB k44a [0, 1, 5, 6] o44 p44 (bodyL (bodyOf Tryd.f44) p44) (m + 1) [cOI.enc xs, cUs.enc h, cI.enc i, cI.enc j] [] K =
 bif decide (j < (↑(List.length (encI xs)) : Int)) then
 if 0 ≤ j ∧ j < (↑(List.length (encI xs)) : Int) then
 Option.bind (encI xs)[Int.toNat j]? fun e =>
 Option.bind e[0]? fun x =>
 Option.bind (asI IntKind.i64 x) fun n =>
 Option.bind (Option.bind (decI (encI (Hp.w h))) fun w =>
 Option.bind (decP (List.map encP (Hp.p h))) fun p =>
 Option.bind (decI (encI (Ls.a (Hp.f h)))) fun a =>
 Option.bind (decI (encI (Ls.b (Hp.f h)))) fun b =>
 Option.bind (decI (encI (Ls.c (Hp.f h)))) fun c =>
 Option.bind (decBs (encBs (Hp.c h))) fun d => some { w := w, p := p, f := { a := a, b := b, c := c }, c := d }) fun b =>
 bif inW b n then
 bif !usedV b n then
 if 0 ≤ i ∧ i < (↑(List.length (encI xs)) : Int) then
 Option.bind (encI xs)[Int.toNat i]? fun e =>
 if 0 + List.length [SV.c (CV.int IntKind.i64 n)] ≤ List.length e then loopB k44a [0, 1, 5, 6] o44 [false, true, false, true, true, true] (bodyL (bodyOf Tryd.f44) p44) m [CV.own 1 (List.set (encI xs) (Int.toNat i) (CV.int IntKind.i64 n :: List.append [] (List.drop 1 e))), CV.fn 45 [] [CV.pc [CV.sl 1 (encI (Hp.w h)), CV.sl 2 (List.map encP (Hp.p h)), CV.sl 1 (encI (Ls.a (Hp.f h))), CV.sl 1 (encI (Ls.b (Hp.f h))), CV.sl 1 (encI (Ls.c (Hp.f h))), CV.sl 1 (encBs (Hp.c h))] 0], CV.int IntKind.i64 (IntKind.wrap IntKind.i64 (i + 1)), CV.int IntKind.i64 (IntKind.wrap IntKind.i64 (j + 1))] [] fun a a_1 a_2 => K a a_1 a_2
 else none
 else none
 else loopB k44a [0, 1, 5, 6] o44 [false, true, false, true, true, true] (bodyL (bodyOf Tryd.f44) p44) m [CV.own 1 (encI xs), CV.fn 45 [] [CV.pc [CV.sl 1 (encI (Hp.w h)), CV.sl 2 (List.map encP (Hp.p h)), CV.sl 1 (encI (Ls.a (Hp.f h))), CV.sl 1 (encI (Ls.b (Hp.f h))), CV.sl 1 (encI (Ls.c (Hp.f h))), CV.sl 1 (encBs (Hp.c h))] 0], CV.int IntKind.i64 i, CV.int IntKind.i64 (IntKind.wrap IntKind.i64 (j + 1))] [] fun a a_1 a_2 => K a a_1 a_2
 else none
 else none
 else K (Exit.exit 0) [CV.own 1 (encI xs), CV.int IntKind.i64 i] [] := by kernel_rfl

/-- What is left of a list, in place. -/
def delL (h : Hp) : Nat → List Int → Nat → Nat → List Int × Nat
  | 0, xs, i, _ => (xs, i)
  | m + 1, xs, i, j => bif !usedV h (xs.getD j 0) then delL h m (xs.set i (xs.getD j 0)) (i + 1) (j + 1) else delL h m xs i (j + 1)
theorem round44 (h : Hp) (xs : List Int) (i j m : Nat) (hx : xs.length ≤ 100000) (hc : xs.all (inW h) = true) (hij : i ≤ j) (hjj : j < xs.length) (β : Type) (K : Exit → List CV → List (List CV) → Option β) :
    loopB k44a [0, 1, 5, 6] o44 p44 (bodyL (bodyOf Tryd.f44) p44) (m + 1) [cOI.enc xs, cUs.enc h, cI.enc (i : Int), cI.enc (j : Int)] [] K =
      bif usedV h xs[j] then loopB k44a [0, 1, 5, 6] o44 p44 (bodyL (bodyOf Tryd.f44) p44) m [cOI.enc xs, cUs.enc h, cI.enc (i : Int), cI.enc ((j + 1 : Nat) : Int)] [] K
      else loopB k44a [0, 1, 5, 6] o44 p44 (bodyL (bodyOf Tryd.f44) p44) m [cOI.enc (xs.set i xs[j]), cUs.enc h, cI.enc ((i + 1 : Nat) : Int), cI.enc ((j + 1 : Nat) : Int)] [] K := by
  have hii : i < xs.length := by omega
  have e : (⟨h.w, h.p, ⟨h.f.a, h.f.b, h.f.c⟩, h.c⟩ : Hp) = h := rfl
  have hjn : (0 : Int) ≤ (j : Int) ∧ (j : Int) < ((List.length (encI xs) : Nat) : Int) := by rw [encI_len]; omega
  have hin : (0 : Int) ≤ (i : Int) ∧ (i : Int) < ((List.length (encI xs) : Nat) : Int) := by rw [encI_len]; omega
  have e1 : (encI xs)[(j : Int).toNat]? = some [CV.int .i64 xs[j]] := by simp [encI, hjj]
  have e1' : (encI xs)[(i : Int).toNat]? = some [CV.int .i64 xs[i]] := by simp [encI, hii]
  have e2 : inW h xs[j] = true := List.all_eq_true.1 hc _ (List.getElem_mem hjj)
  have wi : IntKind.i64.wrap ((i : Int) + 1) = ((i + 1 : Nat) : Int) := by rw [wrap_in (by omega)]; omega
  have wj : IntKind.i64.wrap ((j : Int) + 1) = ((j + 1 : Nat) : Int) := by rw [wrap_in (by omega)]; omega
  have es : List.set (encI xs) (i : Int).toNat (CV.int IntKind.i64 xs[j] :: List.append [] (List.drop 1 [CV.int .i64 xs[i]])) = encI (xs.set i xs[j]) := by
    simp [encI, List.map_set]
  rw [t44, decide_eq_true (by rw [encI_len]; omega), cond_true, if_pos hjn, e1, Option.bind_some, zero_get, Option.bind_some, asI_i, Option.bind_some, decI_map, Option.bind_some, decP_map, Option.bind_some, decI_map, Option.bind_some, decI_map, Option.bind_some, decI_map, Option.bind_some, decBs_enc, Option.bind_some, Option.bind_some, e, e2, cond_true]
  generalize usedV h xs[j] = u
  cases u with
  | true =>
    rw [Bool.not_true, cond_false, cond_true, wj]
    rfl
  | false =>
    rw [Bool.not_false, cond_true, cond_false, if_pos hin, e1', Option.bind_some, if_pos (by simp), es, wi, wj]
    rfl
theorem del_loop (h : Hp) (β : Type) (K : Exit → List CV → List (List CV) → Option β) : ∀ (m : Nat) (xs : List Int) (i j : Nat), xs.length ≤ 100000 → xs.all (inW h) = true → i ≤ j → j + m = xs.length →
    loopB k44a [0, 1, 5, 6] o44 p44 (bodyL (bodyOf Tryd.f44) p44) (m + 1) [cOI.enc xs, cUs.enc h, cI.enc (i : Int), cI.enc (j : Int)] [] K = K (.exit 0) [cOI.enc (delL h m xs i j).1, cI.enc ((delL h m xs i j).2 : Int)] [] := by
  intro m
  induction m with
  | zero =>
    intro xs i j _ _ _ h1
    rw [t44, decide_eq_false (by rw [encI_len]; omega), cond_false]
    rfl
  | succ m ih =>
    intro xs i j hx hc hij h1
    have hjj : j < xs.length := by omega
    have eg : xs.getD j 0 = xs[j] := by simp [hjj]
    rw [round44 h xs i j (m + 1) hx hc hij hjj]
    cases hu : usedV h xs[j] with
    | true =>
      rw [cond_true, ih xs i (j + 1) hx hc (by omega) (by omega)]
      conv => rhs; unfold delL
      rw [eg, hu, Bool.not_true, cond_false]
    | false =>
      rw [cond_false, ih (xs.set i xs[j]) (i + 1) (j + 1) (by simpa using hx) (by
        rw [List.all_eq_true] at hc ⊢
        intro a ha
        rcases List.mem_or_eq_of_mem_set ha with ha | rfl
        · exact hc a ha
        · exact hc _ (List.getElem_mem hjj)) (by omega) (by simp; omega)]
      conv => rhs; unfold delL
      rw [eg, hu, Bool.not_false, cond_true]
/-- What the loop leaves. -/
structure DL where
  l : List Int
  n : Nat
@[irreducible] def delZ (h : Hp) (xs : List Int) (i j : Int) : DL := ⟨(delL h (xs.length - j.toNat) xs i.toNat j.toNat).1, (delL h (xs.length - j.toNat) xs i.toNat j.toNat).2⟩
def L44 : LoopSem := l4 [0, 1, 5, 6] o44 cOI cUs cI cI c0 (fun xs h i j _ => xs.all (inW h) && (Nat.ble xs.length 100000 && (decide (0 ≤ i) && (decide (i ≤ j) && decide (j ≤ (xs.length : Int))))))
  fun xs h i j _ => .one (.exit 0) [cOI.enc (delZ h xs i j).l, cI.enc ((delZ h xs i j).n : Int)] []
noncomputable abbrev k44 : Cx := k44a.loop p44 L44
theorem k44_ok : CxOK k44 [(73, gIndexU), (45, gUsed1)] := by
  refine CxOK.loop4 (CxOK.baseG (Good.cons indexU_good (Good.cons used1_good Good.nil)) GoodI.nil (eqOK_none fun _ => rfl)) rfl fun xs h i j u hp => ?_
  simp only [Bool.and_eq_true, decide_eq_true_eq] at hp
  obtain ⟨hc, hx, h0, hij, hj⟩ := hp
  refine ⟨(xs.length - j.toNat) + 1, fun β K => ?_⟩
  have := del_loop h β K (xs.length - j.toNat) xs i.toNat j.toNat (Nat.le_of_ble_eq_true hx) hc (by omega) (by omega)
  rw [show ((i.toNat : Nat) : Int) = i by omega, show ((j.toNat : Nat) : Int) = j by omega] at this
  refine this.trans ?_
  show _ = K (.exit 0) [cOI.enc (delZ h xs i j).l, cI.enc ((delZ h xs i j).n : Int)] []
  unfold delZ
  rfl
theorem del_inl : GoodN Pr 44 (inlC k44 Tryd.f44) := k44_ok.inlG (cx := k44) Tryd.func44 (by kernel_rfl) (by kernel_rfl) rfl (by kernel_rfl)
noncomputable abbrev k16 : Cx := cxG Pr Tryd.f16 [(9, gMayHp), (31, gAllC)] [(44, inlC k44 Tryd.f44)]
set_option maxRecDepth 100000 in
theorem r16 (h : Hp) (β : Type) (K : CV → List (List CV) → Option β) : fnK k16 Tryd.f16 [cHp.enc h] [] K =
 Option.bind (Option.bind (decI (encI (Hp.w h))) fun w =>
 Option.bind (decP (List.map encP (Hp.p h))) fun p =>
 Option.bind (decI (encI (Ls.a (Hp.f h)))) fun a =>
 Option.bind (decI (encI (Ls.b (Hp.f h)))) fun b =>
 Option.bind (decI (encI (Ls.c (Hp.f h)))) fun c =>
 Option.bind (decBs (encBs (Hp.c h))) fun d => some { w := w, p := p, f := { a := a, b := b, c := c }, c := d }) fun a =>
 bif smH a && smLs [Hp.f a] then
 bif !mayHpV a [] then K (CV.own 1 []) []
 else
 Option.bind (decP (List.map encP (Hp.p h))) fun ps =>
 bif Nat.ble (List.length ps) 200 then
 Option.bind (decI (atV (allCs ps))) fun a =>
 Option.bind (Option.bind (decI (encI (Hp.w h))) fun w =>
 Option.bind (decP (List.map encP (Hp.p h))) fun p =>
 Option.bind (decI (encI (Ls.a (Hp.f h)))) fun a =>
 Option.bind (decI (encI (Ls.b (Hp.f h)))) fun b =>
 Option.bind (decI (encI (Ls.c (Hp.f h)))) fun c =>
 Option.bind (decBs (encBs (Hp.c h))) fun d => some { w := w, p := p, f := { a := a, b := b, c := c }, c := d }) fun b =>
 bif List.all a (inW b) && Nat.ble (List.length a) 100000 then
 bif (bif Option.isSome (firstU b a) then (↑(Option.getD (firstU b a) 0) : Int) else -1) == Int.negSucc 0 then
 K (CV.own 1 (atV (allCs ps))) []
 else
 Option.bind (decI (atV (allCs ps))) fun a_1 =>
 Option.bind (Option.bind (decI (encI (Hp.w h))) fun w =>
 Option.bind (decP (List.map encP (Hp.p h))) fun p =>
 Option.bind (decI (encI (Ls.a (Hp.f h)))) fun a =>
 Option.bind (decI (encI (Ls.b (Hp.f h)))) fun b =>
 Option.bind (decI (encI (Ls.c (Hp.f h)))) fun c =>
 Option.bind (decBs (encBs (Hp.c h))) fun d => some { w := w, p := p, f := { a := a, b := b, c := c }, c := d }) fun b_1 =>
 bif List.all a_1 (inW b_1) && (Nat.ble (List.length a_1) 100000 && (decide (0 ≤
 bif Option.isSome (firstU b a) then (↑(Option.getD (firstU b a) 0) : Int)
 else -1) && (decide ((bif Option.isSome (firstU b a) then (↑(Option.getD (firstU b a) 0) : Int)
 else -1) ≤ IntKind.wrap IntKind.i64 ((bif Option.isSome (firstU b a) then (↑(Option.getD (firstU b a) 0) : Int)
 else -1) + 1)) && decide (IntKind.wrap IntKind.i64 ((bif Option.isSome (firstU b a) then (↑(Option.getD (firstU b a) 0) : Int)
 else -1) + 1) ≤ (↑(List.length a_1) : Int))))) then
 bif okBounds (List.length (encI (DL.l (delZ b_1 a_1 (bif Option.isSome (firstU b a) then (↑(Option.getD (firstU b a) 0) : Int)
 else -1) (IntKind.wrap IntKind.i64 ((bif Option.isSome (firstU b a) then (↑(Option.getD (firstU b a) 0) : Int)
 else -1) + 1)))))) (some (↑(DL.n (delZ b_1 a_1 (bif Option.isSome (firstU b a) then (↑(Option.getD (firstU b a) 0) : Int)
 else -1) (IntKind.wrap IntKind.i64 ((bif Option.isSome (firstU b a) then (↑(Option.getD (firstU b a) 0) : Int)
 else -1) + 1)))) : Int)) none none then
 bif okBounds (List.length (splice (encI (DL.l (delZ b_1 a_1 (bif Option.isSome (firstU b a) then (↑(Option.getD (firstU b a) 0) : Int)
 else -1) (IntKind.wrap IntKind.i64 ((bif Option.isSome (firstU b a) then (↑(Option.getD (firstU b a) 0) : Int)
 else -1) + 1))))) (Int.toNat (Option.getD (some (↑(DL.n (delZ b_1 a_1 (bif Option.isSome (firstU b a) then (↑(Option.getD (firstU b a) 0) : Int)
 else -1) (IntKind.wrap IntKind.i64 ((bif Option.isSome (firstU b a) then (↑(Option.getD (firstU b a) 0) : Int)
 else -1) + 1)))) : Int)) 0)) (List.replicate (Int.toNat (Option.getD none (↑(List.length (encI (DL.l (delZ b_1 a_1 (bif Option.isSome (firstU b a) then (↑(Option.getD (firstU b a) 0) : Int)
 else -1) (IntKind.wrap IntKind.i64 ((bif Option.isSome (firstU b a) then (↑(Option.getD (firstU b a) 0) : Int)
 else -1) + 1)))))) : Int) - Option.getD (some (↑(DL.n (delZ b_1 a_1 (bif Option.isSome (firstU b a) then (↑(Option.getD (firstU b a) 0) : Int)
 else -1) (IntKind.wrap IntKind.i64 ((bif Option.isSome (firstU b a) then (↑(Option.getD (firstU b a) 0) : Int)
 else -1) + 1)))) : Int)) 0)) [CV.int IntKind.i64 0]))) none (some (↑(DL.n (delZ b_1 a_1 (bif Option.isSome (firstU b a) then (↑(Option.getD (firstU b a) 0) : Int)
 else -1) (IntKind.wrap IntKind.i64 ((bif Option.isSome (firstU b a) then (↑(Option.getD (firstU b a) 0) : Int)
 else -1) + 1)))) : Int)) none then
 K (CV.sl 1 (subl (splice (encI (DL.l (delZ b_1 a_1 (bif Option.isSome (firstU b a) then (↑(Option.getD (firstU b a) 0) : Int)
 else -1) (IntKind.wrap IntKind.i64 ((bif Option.isSome (firstU b a) then (↑(Option.getD (firstU b a) 0) : Int)
 else -1) + 1))))) (Int.toNat (Option.getD (some (↑(DL.n (delZ b_1 a_1 (bif Option.isSome (firstU b a) then (↑(Option.getD (firstU b a) 0) : Int)
 else -1) (IntKind.wrap IntKind.i64 ((bif Option.isSome (firstU b a) then (↑(Option.getD (firstU b a) 0) : Int)
 else -1) + 1)))) : Int)) 0)) (List.replicate (Int.toNat (Option.getD none (↑(List.length (encI (DL.l (delZ b_1 a_1 (bif Option.isSome (firstU b a) then (↑(Option.getD (firstU b a) 0) : Int)
 else -1) (IntKind.wrap IntKind.i64 ((bif Option.isSome (firstU b a) then (↑(Option.getD (firstU b a) 0) : Int)
 else -1) + 1)))))) : Int) - Option.getD (some (↑(DL.n (delZ b_1 a_1 (bif Option.isSome (firstU b a) then (↑(Option.getD (firstU b a) 0) : Int)
 else -1) (IntKind.wrap IntKind.i64 ((bif Option.isSome (firstU b a) then (↑(Option.getD (firstU b a) 0) : Int)
 else -1) + 1)))) : Int)) 0)) [CV.int IntKind.i64 0])) 0 (Int.toNat (Option.getD (some (↑(DL.n (delZ b_1 a_1 (bif Option.isSome (firstU b a) then (↑(Option.getD (firstU b a) 0) : Int)
 else -1) (IntKind.wrap IntKind.i64 ((bif Option.isSome (firstU b a) then (↑(Option.getD (firstU b a) 0) : Int)
 else -1) + 1)))) : Int)) (↑(List.length (splice (encI (DL.l (delZ b_1 a_1 (bif Option.isSome (firstU b a) then (↑(Option.getD (firstU b a) 0) : Int)
 else -1) (IntKind.wrap IntKind.i64 ((bif Option.isSome (firstU b a) then (↑(Option.getD (firstU b a) 0) : Int)
 else -1) + 1))))) (Int.toNat (Option.getD (some (↑(DL.n (delZ b_1 a_1 (bif Option.isSome (firstU b a) then (↑(Option.getD (firstU b a) 0) : Int)
 else -1) (IntKind.wrap IntKind.i64 ((bif Option.isSome (firstU b a) then (↑(Option.getD (firstU b a) 0) : Int)
 else -1) + 1)))) : Int)) 0)) (List.replicate (Int.toNat (Option.getD none (↑(List.length (encI (DL.l (delZ b_1 a_1 (bif Option.isSome (firstU b a) then (↑(Option.getD (firstU b a) 0) : Int)
 else -1) (IntKind.wrap IntKind.i64 ((bif Option.isSome (firstU b a) then (↑(Option.getD (firstU b a) 0) : Int)
 else -1) + 1)))))) : Int) - Option.getD (some (↑(DL.n (delZ b_1 a_1 (bif Option.isSome (firstU b a) then (↑(Option.getD (firstU b a) 0) : Int)
 else -1) (IntKind.wrap IntKind.i64 ((bif Option.isSome (firstU b a) then (↑(Option.getD (firstU b a) 0) : Int)
 else -1) + 1)))) : Int)) 0)) [CV.int IntKind.i64 0]))) : Int) - 0)))) []
 else none
 else none
 else none
 else none
 else none
 else none := by kernel_rfl

end Go.Ab
