/- lists.All.
slices.Sort in place: what its contract says, of a box.
The numbers of the shelf's functions at this program: slices.Sort, slices.Compact, slices.Clone (written by lay-plain).
slices.Sort, gone into: by the shelf's contract, laid at home.
slices.Compact, gone into: by the shelf's contract, laid at home.
lists.Apart.
heap.May.
slices.Clone of any list: the empty ones by the shelf's contracts, laid at home.
CellsStart comes to true.
CellsRooms, CellsOn: their loops.
heap.Head.
reap: begun, back, push; trial of Flush.
reap.Flush: its loop over pages.
reap.Flush.
reap.Flush's contract.
reap.Free.
few, Light, Few; Same of pages.
heap.Whole.
awake.
ReapFlushes.
Flush, in plain words: which pages go, and which cells.
Two caches that are flushed, one behind the other, or both at once.
Flush keeps what may be; two caches that are flushed, one behind the other, or both at once.
Two caches that are flushed, one behind the other, leave what both at once do.
The law ReapFlushes.
Heaps and lists, as they are read; the frame of a row that lists a variable.
The numbers of the shelf's slices.Reverse at this program (written by lay-plain).
slices.Reverse, gone into: by the shelf's contract.
heap.Used.
heap.Used's contract.
kept.
kept's contract.
ref06.Own, Part; ref03.Words, Cells.
head.Pack; slices.Repeat of one page; pages.Large.
pages.Find.
arena.Put, At, New; heap.New; alloc.own.
heap.New(1); lists.Pop, Move.
Contracts with closed results; alloc's box; page, small, large.
alloc's page, small, large; Take's residual.
alloc.Take's residual.
A head that is packed is told again.
ReapTwice.
What an object's room that is given back leaves: pages and words.
What may be may be behind an object that is given back.
heap.Free's result: what goes, what stays.
Of two objects that are given back the order does not matter.
The law ReapTwice.
What was whole is whole without an object, or a cache; other objects are as they were.
What was whole is whole behind Flush; all objects are as they were.
pages.Find, and what is taken there.
A page that is taken for cells; cells that are moved, and taken; an object's word.
Cells that are moved, and taken; pages that are made a large one's; an object's words.
A cell that is made ready, and taken: what it leaves.
alloc.small and large: where there is room, and what they leave.
alloc.Take: its contract, and what it leaves.
What is taken fits; how many are used; where there is room.
The reference's Of, Run, Same.
Behind an object that is given back there is room; what is taken and given back is as it was. -/
import Derived.Test.YtkahninpodhcmaaGreatDoorTd
import Derived.Sort.Grow
import Derived.Sort.Row
import Derived.Test.YtkahninpodhcmaaGreatDoorProg
import Derived.Shelf.Sort.Plain
import Derived.Shelf.Slices.In.SortNone
import Derived.Shelf.Slices.CompactI
import Derived.Shelf.Slices.Clone
import Derived.Test.YtkahninpodhcmaaGreatDoorTc
import Derived.Test.YtkahninpodhcmaaGreatDoorCards
import Derived.Test.YtkahninpodhcmaaGreatDoorTie
import Derived.WalkKit
import Derived.ProofKit
import Derived.OpenShut
import Derived.Deep.DeepHandedRow
import Derived.Lib.LaidTab
import Derived.Shelf.Slices.Reverse
namespace Go.Ab
open Go
open Go.Proofs
noncomputable abbrev k85 : Cx := cxG Pr Tryz.f144 []
noncomputable abbrev k68 : Cx := cxG Pr Tryz.f125 [] [(144, inlC k85 Tryz.f144)] (fun _ => false) (fun q => Nat.beq q 58 || Nat.beq q 250)
noncomputable abbrev k36a : Cx := cxG Pr Tryz.f85 [] [(125, inlC k68 Tryz.f125)]
abbrev o36 : Exit -> List Nat := fun _ => [3]
abbrev p36 := [false, true, false, true, true]
set_option maxRecDepth 100000 in
theorem t36 (O : List Int) (ls : List Ls) (n i : Int) (m : Nat) (β : Type) (K : Exit -> List CV -> List (List CV) -> Option β) : loopB k36a [3, 6, 7, 8] o36 p36 (bodyL (bodyOf Tryz.f85) p36) (m + 1) [cOI.enc O, cLss.enc ls, cI.enc n, cI.enc i] [] K =
 bif decide (i < n) then
 Option.bind (rdE (List.map encLs ls) i) fun c =>
 Option.bind c[0]? fun x =>
 Option.bind (asL 1 x) fun l =>
 Option.bind c[1]? fun x =>
 Option.bind (asL 1 x) fun l_1 =>
 Option.bind c[2]? fun x =>
 Option.bind (asL 1 x) fun l_2 =>
 bif decide (IntKind.wrap IntKind.i64 (0 + (↑(List.length l) : Int)) < 0) then none
 else
 bif decide (IntKind.wrap IntKind.i64 (IntKind.wrap IntKind.i64 (0 + (↑(List.length l) : Int)) + (↑(List.length l_1) : Int)) < 0) then none
 else
 bif decide (IntKind.wrap IntKind.i64 (IntKind.wrap IntKind.i64 (IntKind.wrap IntKind.i64 (0 + (↑(List.length l) : Int)) + (↑(List.length l_1) : Int)) + (↑(List.length l_2) : Int)) < 0) then none
 else
 bif decide (IntKind.wrap IntKind.i64 (IntKind.wrap IntKind.i64 (IntKind.wrap IntKind.i64 (0 + (↑(List.length l) : Int)) + (↑(List.length l_1) : Int)) + (↑(List.length l_2) : Int)) < 0) then none
 else
 bif decide (IntKind.wrap IntKind.i64 (IntKind.wrap IntKind.i64 (IntKind.wrap IntKind.i64 (IntKind.wrap IntKind.i64 (0 + (↑(List.length l) : Int)) + (↑(List.length l_1) : Int)) + (↑(List.length l_2) : Int)) - 0) > 0) then
 if 0 < IntKind.wrap IntKind.i64 (IntKind.wrap IntKind.i64 (IntKind.wrap IntKind.i64 (IntKind.wrap IntKind.i64 (0 + (↑(List.length l) : Int)) + (↑(List.length l_1) : Int)) + (↑(List.length l_2) : Int)) - 0) /\ IntKind.wrap IntKind.i64 (IntKind.wrap IntKind.i64 (IntKind.wrap IntKind.i64 (IntKind.wrap IntKind.i64 (0 + (↑(List.length l) : Int)) + (↑(List.length l_1) : Int)) + (↑(List.length l_2) : Int)) - 0) <= (↑LIM : Int) then
 bif okBounds (List.length (List.replicate (Int.toNat (IntKind.wrap IntKind.i64 (IntKind.wrap IntKind.i64 (IntKind.wrap IntKind.i64 (IntKind.wrap IntKind.i64 (0 + (↑(List.length l) : Int)) + (↑(List.length l_1) : Int)) + (↑(List.length l_2) : Int)) - 0))) [CV.int IntKind.i64 0])) none (some 0) none then
 if List.length (List.take 0 (List.replicate (Int.toNat (IntKind.wrap IntKind.i64 (IntKind.wrap IntKind.i64 (IntKind.wrap IntKind.i64 (IntKind.wrap IntKind.i64 (0 + (↑(List.length l) : Int)) + (↑(List.length l_1) : Int)) + (↑(List.length l_2) : Int)) - 0))) [CV.int IntKind.i64 0]) ++ l) <= LIM then
 if List.length (l ++ l_1) <= LIM then
 if List.length (l ++ l_1 ++ l_2) <= LIM then
 if List.length (encI O ++ (l ++ l_1 ++ l_2)) <= LIM then loopB k36a [3, 6, 7, 8] o36 [false, true, false, true, true] (bodyL (bodyOf Tryz.f85) p36) m [CV.own 1 (encI O ++ (l ++ l_1 ++ l_2)), CV.sl 3 (List.map encLs ls), CV.int IntKind.i64 n, CV.int IntKind.i64 (IntKind.wrap IntKind.i64 (i + 1))] [] fun a a_1 a_2 => K a a_1 a_2
 else none
 else none
 else none
 else none
 else none
 else none
 else
 if List.length l <= LIM then
 if List.length (l ++ l_1) <= LIM then
 if List.length (l ++ l_1 ++ l_2) <= LIM then
 if List.length (encI O ++ (l ++ l_1 ++ l_2)) <= LIM then loopB k36a [3, 6, 7, 8] o36 [false, true, false, true, true] (bodyL (bodyOf Tryz.f85) p36) m [CV.own 1 (encI O ++ (l ++ l_1 ++ l_2)), CV.sl 3 (List.map encLs ls), CV.int IntKind.i64 n, CV.int IntKind.i64 (IntKind.wrap IntKind.i64 (i + 1))] [] fun a a_1 a_2 => K a a_1 a_2
 else none
 else none
 else none
 else none
 else K (Exit.exit 0) [CV.own 1 (encI O)] [] := by kernel_rfl
def one3 (l : Ls) : List Int := l.a ++ l.b ++ l.c
def catI (ls : List Ls) : List Int := ls.flatMap one3
theorem asL_1 (L : List (List CV)) : asL 1 (.sl 1 L) = some L := by simp [asL]
theorem step36 (O : List Int) (ls : List Ls) (i m : Nat) (hi : i < ls.length) (hs : ls.all smL = true) (hl : ls.length <= 1000) (hO : O.length <= 300000 * i) (β : Type) (K : Exit -> List CV -> List (List CV) -> Option β) :
    loopB k36a [3, 6, 7, 8] o36 p36 (bodyL (bodyOf Tryz.f85) p36) (m + 1) [cOI.enc O, cLss.enc ls, cI.enc (ls.length : Int), cI.enc (i : Int)] [] K =
      loopB k36a [3, 6, 7, 8] o36 p36 (bodyL (bodyOf Tryz.f85) p36) m [cOI.enc (O ++ one3 ls[i]), cLss.enc ls, cI.enc (ls.length : Int), cI.enc ((i + 1 : Nat) : Int)] [] K := by
  have hL := lim_val
  obtain ⟨l1, l2, l3⟩ := smL_le (List.all_eq_true.1 hs _ (List.getElem_mem hi))
  have e0 : (List.map encLs ls)[(i : Int).toNat]? = some (encLs ls[i]) := by simp [hi]
  rw [t36, decide_eq_true (show (i : Int) < (ls.length : Int) by omega), cond_true, rdE_nat (by omega), e0]
  generalize ls[i] = l at l1 l2 l3
  have g1 : (encLs l)[0]? = some (.sl 1 (encI l.a)) := rfl
  have g2 : (encLs l)[1]? = some (.sl 1 (encI l.b)) := rfl
  have g3 : (encLs l)[2]? = some (.sl 1 (encI l.c)) := rfl
  have w1 : IntKind.i64.wrap (0 + (l.a.length : Int)) = (l.a.length : Int) := by rw [wrap_in (by omega)]; omega
  have w2 : IntKind.i64.wrap ((l.a.length : Int) + (l.b.length : Int)) = (l.a.length : Int) + (l.b.length : Int) := wrap_in (by omega)
  have w3 : IntKind.i64.wrap ((l.a.length : Int) + (l.b.length : Int) + (l.c.length : Int)) = (l.a.length : Int) + (l.b.length : Int) + (l.c.length : Int) := wrap_in (by omega)
  have w4 : IntKind.i64.wrap ((l.a.length : Int) + (l.b.length : Int) + (l.c.length : Int) - 0) = (l.a.length : Int) + (l.b.length : Int) + (l.c.length : Int) := by rw [wrap_in (by omega)]; omega
  have w5 : IntKind.i64.wrap ((i : Int) + 1) = ((i + 1 : Nat) : Int) := by rw [wrap_in (by omega)]; omega
  simp only [Option.bind_some, g1, g2, g3, asL_1, encI_len, w1, w2, w3, w4, w5, encI_app]
  rw [decide_eq_false (by omega), cond_false, decide_eq_false (by omega), cond_false, decide_eq_false (by omega), cond_false]
  have q1 : (l.a ++ l.b).length <= LIM := by simp; omega
  have q2 : (l.a ++ l.b ++ l.c).length <= LIM := by simp; omega
  have q3 : (O ++ (l.a ++ l.b ++ l.c)).length <= LIM := by simp; omega
  have q0 : l.a.length <= LIM := by omega
  by_cases hz : (l.a.length : Int) + (l.b.length : Int) + (l.c.length : Int) > 0
  . have ob : okBounds (List.length (List.replicate (Int.toNat ((l.a.length : Int) + (l.b.length : Int) + (l.c.length : Int))) [CV.int IntKind.i64 0])) none (some 0) none = true := by simp [okBounds]; omega
    rw [decide_eq_true hz, cond_true, if_pos ⟨by omega, by omega⟩, ob, cond_true, if_pos (by simp; omega), if_pos q1, if_pos q2, if_pos q3]
    rfl
  . rw [decide_eq_false hz, cond_false, if_pos q0, if_pos q1, if_pos q2, if_pos q3]
    rfl
theorem all_loop (ls : List Ls) (hs : ls.all smL = true) (hl : ls.length <= 1000) (β : Type) (K : Exit -> List CV -> List (List CV) -> Option β) : ∀ (m i : Nat) (O : List Int), i + m = ls.length -> O.length <= 300000 * i ->
    loopB k36a [3, 6, 7, 8] o36 p36 (bodyL (bodyOf Tryz.f85) p36) (m + 1) [cOI.enc O, cLss.enc ls, cI.enc (ls.length : Int), cI.enc (i : Int)] [] K =
      K (.exit 0) [cOI.enc (O ++ catI (ls.drop i))] [] := by
  intro m
  induction m with
  | zero =>
    intro i O h1 _
    rw [t36, decide_eq_false (by omega), cond_false, List.drop_eq_nil_of_le (by omega)]
    simp [catI]
  | succ m ih =>
    intro i O h1 hO
    have hi : i < ls.length := by omega
    obtain ⟨l1, l2, l3⟩ := smL_le (List.all_eq_true.1 hs _ (List.getElem_mem hi))
    rw [step36 O ls i (m + 1) hi hs hl hO, ih (i + 1) _ (by omega) (by simp [one3]; omega), List.drop_eq_getElem_cons hi]
    rw [show catI (ls[i] :: ls.drop (i + 1)) = one3 ls[i] ++ catI (ls.drop (i + 1)) from rfl, List.append_assoc]
def L36 : LoopSem := l4 [3, 6, 7, 8] o36 cOI cLss cI cI c0 (fun O ls n i _ => O.isEmpty && (smLs ls && (i == 0 && n == (ls.length : Int)))) fun _ ls _ _ _ => .one (.exit 0) [cOI.enc (catI ls)] []
noncomputable abbrev k36 : Cx := k36a.loop p36 L36
theorem grow_inl : GoodN Pr 144 (inlC k85 Tryz.f144) := (CxOK.baseG Good.nil GoodI.nil (eqOK_none fun _ => rfl)).inlG (cx := k85) Tryz.func144 (by kernel_rfl) (by kernel_rfl) rfl (by kernel_rfl)
theorem concat_inl : GoodN Pr 125 (inlC k68 Tryz.f125) := (CxOK.baseG Good.nil (GoodI.cons grow_inl GoodI.nil) (eqOK_none fun _ => rfl)).inlG (cx := k68) Tryz.func125 (by kernel_rfl) (by kernel_rfl) rfl (by kernel_rfl)
theorem smLs_le {ls : List Ls} (h : smLs ls = true) : ls.length <= 1000 /\ ls.all smL = true := by
  simp only [smLs, Bool.and_eq_true] at h
  exact ⟨Nat.le_of_ble_eq_true h.1, h.2⟩
theorem k36_ok : CxOK k36 [] := by
  refine CxOK.loop4 (CxOK.baseG Good.nil (GoodI.cons concat_inl GoodI.nil) (eqOK_none fun _ => rfl)) rfl fun O ls n i u hp => ?_
  simp only [Bool.and_eq_true, beq_iff_eq, List.isEmpty_iff] at hp
  obtain ⟨hO, hs, hi, hn⟩ := hp
  subst hO hi hn
  obtain ⟨h1, h2⟩ := smLs_le hs
  refine ⟨ls.length + 1, fun β K => ?_⟩
  have := all_loop ls h2 h1 β K ls.length 0 [] (by omega) (by simp)
  rw [List.drop_zero, List.nil_append] at this
  exact this
def gAllI : Callee := g1 cLss smLs fun ls => cOI.enc (catI ls)
set_option maxRecDepth 100000 in
theorem r36 (ls : List Ls) (β : Type) (K : CV -> List (List CV) -> Option β) : fnK k36 Tryz.f85 [cLss.enc ls] [] K =
 Option.bind (decLs (List.map encLs ls)) fun b =>
 bif smLs b && (↑(List.length (List.map encLs ls)) : Int) == (↑(List.length b) : Int) then
 K (CV.own 1 (encI (catI b))) []
 else none := by kernel_rfl
theorem catI_good : GoodC Pr 85 gAllI :=
  good1 (k36_ok.sound (cx := k36) Tryz.func85 (by kernel_rfl) (by kernel_rfl) rfl (by kernel_rfl)) fun ls hp β K => by
    refine (r36 ls β K).trans ?_
    simp only [decLs_map, Option.bind_some, hp, List.length_map, beq_self_eq_true, Bool.and_self, Bool.and_true, cond_true]
    rfl
end Go.Ab

namespace Go.Ab
open Go
open Go.Proofs
theorem sort_heap {w : World} {b n : Nat} {ys : List Int} {os : Array Obj} {cur : Array Value} {ty : TypeId} (hb : w.heap[b]? = some (.cells cur ty (0, 0))) :
    (Sort.grow (Sort.putRow (Value.int .i64) (Sort.ahead w n) b 0 ys.toArray) os).heap[b]? = some (.cells (Sort.putCells (Value.int .i64) 0 ys.toArray cur) ty (0, 0)) := by
  have hlt := (Array.getElem?_eq_some_iff.1 hb).1
  show ((w.heap.modify b (Sort.onCells (Sort.putCells (Value.int .i64) 0 ys.toArray))) ++ os)[b]? = _
  rw [Array.getElem?_append_left (by simpa using hlt), Array.getElem?_modify, if_pos rfl, hb]
  rfl
theorem sort_other {w : World} {b n : Nat} {ys : List Int} {os : Array Obj} {c : Nat} (hc : c < w.heap.size) (hne : b ≠ c) :
    (Sort.grow (Sort.putRow (Value.int .i64) (Sort.ahead w n) b 0 ys.toArray) os).heap[c]? = w.heap[c]? := by
  show ((w.heap.modify b (Sort.onCells (Sort.putCells (Value.int .i64) 0 ys.toArray))) ++ os)[c]? = _
  rw [Array.getElem?_append_left (by simpa using hc), Array.getElem?_modify, if_neg hne]
theorem put_at {ys : List Int} {cur : Array Value} (h : ys.length <= cur.size) {k : Nat} (hk : k < ys.length) : (Sort.putCells (Value.int .i64) 0 ys.toArray cur)[k]? = some (.int .i64 ys[k]) := by
  have : k < cur.size := by omega
  simp [Sort.putCells, this, hk]
theorem rowUpd {ρ : Env} {X : Nat -> Prop} {h : H} {w : World} (hr : HR ρ X h w) {i ver : Nat} {xs ys : List Int} (hg : getH h i = .acc ver false 1 (encI xs)) (hl : ys.length = xs.length) {b cap : Nat}
    (hc : ρ.cur i = .slice (some ⟨b, 0, none⟩) xs.length cap) (n : Nat) (os : Array Obj) :
    HR (ρ.setCur i (ρ.cur i)) X (setH h i (.acc ver false 1 (encI ys))) (Sort.grow (Sort.putRow (Value.int .i64) (Sort.ahead w n) b 0 ys.toArray) os) /\ Ext ρ h w (ρ.setCur i (ρ.cur i)) (setH h i (.acc ver false 1 (encI ys))) (Sort.grow (Sort.putRow (Value.int .i64) (Sort.ahead w n) b 0 ys.toArray) os) := by
  have hbx := hr.box i
  rw [hg] at hbx
  obtain ⟨h0, h1, h2, h3⟩ := hbx
  have hlen : (encI ys).length = (encI xs).length := by simp [hl]
  rcases h3 with ⟨h3, _⟩ | ⟨b', cap', cur, ty, h3, h4, h5, h6, h7⟩
  . rw [hc] at h3; cases h3
  rw [hc] at h3
  injection h3 with ha _ hcap
  injection ha with ha
  injection ha with ha
  subst ha hcap
  exact hr.upd (by rw [hg]; rfl) (.acc ver false 1 (encI ys)) (ρ.cur i) (w' := Sort.grow (Sort.putRow (Value.int .i64) (Sort.ahead w n) b 0 ys.toArray) os) (by simp [Sort.grow, Sort.putRow, Sort.mapBlock, Sort.ahead])
    (fun c hcl hne => sort_other hcl fun e => hne (by rw [hg, <- e]; simp [bOf, hc]))
    (fun c hcb => .inl (by rw [hg]; simpa [bOf] using hcb))
    (HExt.updAcc hg _ (.inr ⟨rfl, rfl, hlen.symm, rfl⟩)) (fun e => by
      refine ⟨h0, fun e he => ?_, by rw [hlen]; exact h2, .inr ⟨b, cap, _, ty, by rw [hlen, encI_len]; simpa using hc, sort_heap h4, by rw [hlen]; exact h5, by simpa [Sort.putCells] using h6, fun k j x hx => ?_⟩⟩
      . obtain ⟨y, _, rfl⟩ := List.mem_map.1 (show e ∈ ys.map (fun n => [CV.int .i64 n]) from he)
        rfl
      . have hks : ∃ hk : k < ys.length, j = 0 /\ x = .int .i64 ys[k] := by
          unfold at2 at hx
          by_cases hk : k < ys.length
          . refine ⟨hk, ?_⟩
            have : (encI ys)[k]? = some [CV.int .i64 ys[k]] := by simp [encI, hk]
            rw [this] at hx
            cases j with
            | zero => simp at hx; exact ⟨rfl, hx.symm⟩
            | succ j => simp at hx
          . have : (encI ys)[k]? = none := by simp [encI]; omega
            rw [this] at hx
            cases hx
        obtain ⟨hk, rfl, rfl⟩ := hks
        rw [encI_len] at h5
        refine ⟨.int .i64 ys[k], ?_, rfl, .int _ _⟩
        rw [Nat.mul_one, Nat.add_zero]
        exact put_at (by omega) hk)
theorem sortPost {ρ : Env} {X : Nat -> Prop} {h : H} {w : World} (hr : HR ρ X h w) {i ver : Nat} {xs ys : List Int} (hg : getH h i = .acc ver false 1 (encI xs)) (hl : ys.length = xs.length) {b cap : Nat}
    (hc : ρ.cur i = .slice (some ⟨b, 0, none⟩) xs.length cap) (n : Nat) (os : Array Obj) :
    Post ρ X h w (.c (.tup [])) (setH h i (.acc ver false 1 (encI ys))) (.tuple #[]) (Sort.grow (Sort.putRow (Value.int .i64) (Sort.ahead w n) b 0 ys.toArray) os) :=
  ⟨_, (rowUpd hr hg hl hc n os).1, .c _ _ (.tup [] #[] rfl fun j x hx => by simp at hx), (rowUpd hr hg hl hc n os).2⟩
end Go.Ab

namespace Go.Proofs
open Go.Shelf
def Tryz.lays189_ren : Go.Shelf.Ren := ⟨fun | 189 => 123 | 125 => 143 | 257 => 142 | 128 => 158 | 129 => 159 | 294 => 150 | 295 => 151 | 296 => 152 | 297 => 153 | 298 => 154 | 299 => 155 | 216 => 133 | 300 => 156 | 301 => 157 | 328 => 162 | 329 => 163 | 330 => 164 | 331 => 165 | 332 => 166 | 215 => 145 | 343 => 167 | n => n, fun | 28 => 22 | 3 => 3 | 46 => 131 | 0 => 0 | 51 => 159 | 53 => 161 | 4 => 4 | 183 => 153 | 182 => 152 | 131 => 49 | 5 => 5 | 9 => 9 | 218 => 166 | 222 => 170 | 228 => 172 | 229 => 173 | n => n, fun | n => n⟩
theorem Tryz.lays189 : Go.Proofs.Lays.n189 Tryz.prog Tryz.lays189_ren := {
  mixed := by kernel_rfl
  f125 := Tryz.func143.trans (congrArg some (by kernel_rfl))
  f128 := Tryz.func158.trans (congrArg some (by kernel_rfl))
  f129 := Tryz.func159.trans (congrArg some (by kernel_rfl))
  f189 := Tryz.func123.trans (congrArg some (by kernel_rfl))
  f215 := Tryz.func145.trans (congrArg some (by kernel_rfl))
  f216 := Tryz.func133.trans (congrArg some (by kernel_rfl))
  f257 := Tryz.func142.trans (congrArg some (by kernel_rfl))
  f294 := Tryz.func150.trans (congrArg some (by kernel_rfl))
  f295 := Tryz.func151.trans (congrArg some (by kernel_rfl))
  f296 := Tryz.func152.trans (congrArg some (by kernel_rfl))
  f297 := Tryz.func153.trans (congrArg some (by kernel_rfl))
  f298 := Tryz.func154.trans (congrArg some (by kernel_rfl))
  f299 := Tryz.func155.trans (congrArg some (by kernel_rfl))
  f300 := Tryz.func156.trans (congrArg some (by kernel_rfl))
  f301 := Tryz.func157.trans (congrArg some (by kernel_rfl))
  f328 := Tryz.func162.trans (congrArg some (by kernel_rfl))
  f329 := Tryz.func163.trans (congrArg some (by kernel_rfl))
  f330 := Tryz.func164.trans (congrArg some (by kernel_rfl))
  f331 := Tryz.func165.trans (congrArg some (by kernel_rfl))
  f332 := Tryz.func166.trans (congrArg some (by kernel_rfl))
  f343 := Tryz.func167.trans (congrArg some (by kernel_rfl))
  t0 := Tryz.underlying0
  a0 := Tryz.isAgg0
  z0 := Tryz.sizeOf0
  v0 := Tryz.zeroValue0
  t3 := Tryz.underlying3
  a3 := Tryz.isAgg3
  z3 := Tryz.sizeOf3
  v3 := Tryz.zeroValue3
  t4 := Tryz.underlying4
  a4 := Tryz.isAgg4
  z4 := Tryz.sizeOf4
  v4 := Tryz.zeroValue4
  t5 := Tryz.underlying5
  a5 := Tryz.isAgg5
  z5 := Tryz.sizeOf5
  v5 := Tryz.zeroValue5
  t9 := Tryz.underlying9
  a9 := Tryz.isAgg9
  z9 := Tryz.sizeOf9
  v9 := Tryz.zeroValue9
  t28 := Tryz.underlying22
  a28 := Tryz.isAgg22
  z28 := Tryz.sizeOf22
  v28 := Tryz.zeroValue22
  t46 := Tryz.underlying131
  a46 := Tryz.isAgg131
  z46 := Tryz.sizeOf131
  v46 := Tryz.zeroValue131
  t51 := Tryz.underlying159
  a51 := Tryz.isAgg159
  z51 := Tryz.sizeOf159
  v51 := Tryz.zeroValue159
  t53 := Tryz.underlying161
  a53 := Tryz.isAgg161
  z53 := Tryz.sizeOf161
  v53 := Tryz.zeroValue161
  t131 := Tryz.underlying49
  a131 := Tryz.isAgg49
  z131 := Tryz.sizeOf49
  v131 := Tryz.zeroValue49
  t182 := Tryz.underlying152
  a182 := Tryz.isAgg152
  z182 := Tryz.sizeOf152
  v182 := Tryz.zeroValue152
  t183 := Tryz.underlying153
  a183 := Tryz.isAgg153
  z183 := Tryz.sizeOf153
  v183 := Tryz.zeroValue153
  t218 := Tryz.underlying166
  a218 := Tryz.isAgg166
  z218 := Tryz.sizeOf166
  v218 := Tryz.zeroValue166
  t222 := Tryz.underlying170
  a222 := Tryz.isAgg170
  z222 := Tryz.sizeOf170
  v222 := Tryz.zeroValue170
  t228 := Tryz.underlying172
  a228 := Tryz.isAgg172
  z228 := Tryz.sizeOf172
  v228 := Tryz.zeroValue172
  t229 := Tryz.underlying173
  a229 := Tryz.isAgg173
  z229 := Tryz.sizeOf173
  v229 := Tryz.zeroValue173 }
def Tryz.lays20_ren : Go.Shelf.Ren := ⟨fun | 20 => 124 | n => n, fun | 22 => 22 | 3 => 3 | 4 => 4 | 0 => 0 | n => n, fun | n => n⟩
theorem Tryz.lays20 : Go.Proofs.Lays2.n20 Tryz.prog Tryz.lays20_ren := {
  mixed := by kernel_rfl
  f20 := Tryz.func124.trans (congrArg some (by kernel_rfl))
  t0 := Tryz.underlying0
  a0 := Tryz.isAgg0
  z0 := Tryz.sizeOf0
  v0 := Tryz.zeroValue0
  t3 := Tryz.underlying3
  a3 := Tryz.isAgg3
  z3 := Tryz.sizeOf3
  v3 := Tryz.zeroValue3
  t4 := Tryz.underlying4
  a4 := Tryz.isAgg4
  z4 := Tryz.sizeOf4
  v4 := Tryz.zeroValue4
  t22 := Tryz.underlying22
  a22 := Tryz.isAgg22
  z22 := Tryz.sizeOf22
  v22 := Tryz.zeroValue22
  i3 := by kernel_rfl }
def Tryz.lays15_ren : Go.Shelf.Ren := ⟨fun | 15 => 60 | n => n, fun | 22 => 22 | 3 => 3 | 4 => 4 | n => n, fun | n => n⟩
theorem Tryz.lays15 : Go.Proofs.Lays2.n15 Tryz.prog Tryz.lays15_ren := {
  mixed := by kernel_rfl
  f15 := Tryz.func60.trans (congrArg some (by kernel_rfl))
  t3 := Tryz.underlying3
  a3 := Tryz.isAgg3
  z3 := Tryz.sizeOf3
  v3 := Tryz.zeroValue3
  t4 := Tryz.underlying4
  a4 := Tryz.isAgg4
  z4 := Tryz.sizeOf4
  v4 := Tryz.zeroValue4
  t22 := Tryz.underlying22
  a22 := Tryz.isAgg22
  z22 := Tryz.sizeOf22
  v22 := Tryz.zeroValue22
  i3 := by kernel_rfl }
end Go.Proofs

namespace Go.Ab
open Go
open Go.Proofs
def sortI (xs : List Int) : List Int := xs.mergeSort fun x y => decide (x <= y)
def sortN : Inl := ⟨fun ss h _ K => match ss with
  | [.acc i ver] => match getH h i with
    | .acc ver' false 1 L => bif Nat.beq ver ver' then (decI L).bind fun xs => bif Nat.ble xs.length 4000000000 then K (.c (.tup [])) (setH h i (.acc ver false 1 (encI (sortI xs)))) else none else none
    | _ => none
  | _ => none⟩
theorem sort_nat : NatN sortN := fun ss h => by
  unfold sortN
  dsimp only
  split
  . split
    . exact .cond _ (.bind _ fun _ => .cond _ (.ret _ _) .none) .none
    . exact .none
  . exact .none
theorem sort_calls (blk cap : Nat) (zs : List Int) (w : World) (hH : Sort.Holds (Value.int .i64) w blk 0 zs.toArray) (hblk : blk < w.heap.size) (hsz : zs.length < 4611686018427387904) :
    Calls Pr 123 #[.slice (some ⟨blk, 0, none⟩) zs.length cap] w fun e w' => e = .returned (.tuple #[]) /\ ∃ n os, w' = Sort.grow (Sort.putRow (Value.int .i64) (Sort.ahead w n) blk 0 (sortI zs).toArray) os :=
  Any.slices_Sort_int Tryz.lays189 blk 0 cap zs w hH hblk hsz
theorem sort_calls0 (a : Option Addr) (cap : Nat) (w : World) : Calls Pr 123 #[.slice a 0 cap] w fun e w' => e = .returned (.tuple #[]) /\ w' = w :=
  Any.slices_Sort_int_none Tryz.lays189 a cap w
theorem setH_self : ∀ {h : H} {i : Nat} {b : Box}, getH h i = b -> setH h i b = h
  | [], _, _, _ => rfl
  | c :: h, 0, b, e => by
    have : c = b := e
    subst this; rfl
  | c :: h, i + 1, b, e => by
    have : setH (c :: h) (i + 1) b = c :: setH h i b := rfl
    rw [this, setH_self (h := h) (i := i) e]
theorem sort_good : GoodN Pr 123 sortN := by
  refine ⟨⟨⟨_, Tryz.func123, by kernel_rfl, by kernel_rfl⟩, fun ss h β K r hK => ?_⟩, sort_nat⟩
  unfold sortN at hK
  dsimp only at hK
  split at hK
  . rename_i i ver
    split at hK
    . rename_i ver' L hg
      replace hK := cond_some hK
      obtain ⟨hb, hK⟩ := hK
      have hb := beq_true hb
      subst hb
      replace hK := bind_some' hK
      obtain ⟨xs, hx, hK⟩ := hK
      replace hK := cond_some hK
      obtain ⟨hp, hK⟩ := hK
      have hL := decI_enc hx
      subst hL
      have hsm := Nat.le_of_ble_eq_true hp
      refine ⟨_, _, hK, fun ρ X w vs hr hsz hvs => ?_⟩
      have hv0 := hvs 0 (.acc i ver) rfl
      have hvs1 : vs = #[vs.getD 0 undef] := by
        apply Array.ext
        . simpa using hsz
        . intro j h1 h2
          have : j = 0 := by simp at h2; exact h2
          subst this
          simp [h1]
      rw [hvs1]
      generalize vs.getD 0 undef = v at hv0
      cases hv0 with
      | acc _ _ _ hpl hi hv =>
        have hval := (hv ver false 1 (encI xs) hg).2 rfl
        have hbx := hr.box i
        rw [hg] at hbx
        obtain ⟨h0, h1, h2, h3⟩ := hbx
        cases hxe : xs with
        | nil =>
          subst hxe
          have hs : ∃ a cap, ρ.cur i = .slice a 0 cap := by
            rcases h3 with ⟨h3, _⟩ | ⟨b, cap, cur, ty, h3, _⟩
            . exact ⟨_, _, h3⟩
            . exact ⟨_, _, h3⟩
          obtain ⟨a, cap, hs⟩ := hs
          rw [hval, hs]
          refine (sort_calls0 a cap w).mono ?_
          rintro e w' ⟨rfl, rfl⟩
          have hh : setH h i (.acc ver false 1 (encI (sortI []))) = h := setH_self (by rw [hg]; simp [sortI])
          rw [hh]
          exact ⟨_, rfl, ρ, hr, .c _ _ (.tup [] #[] rfl fun j x hx => by simp at hx), Ext.refl _ _ _⟩
        | cons x0 xr =>
        rw [<- hxe]
        rcases h3 with ⟨_, he⟩ | ⟨b, cap, cur, ty, h3, h4, h5, h6, h7⟩
        . rw [hxe] at he; cases he
        rw [encI_len] at h3
        rw [hval, h3]
        have hH : Sort.Holds (Value.int .i64) w b 0 xs.toArray := fun j hj => by
          have hj' : j < xs.length := by simpa using hj
          obtain ⟨u, hu, _, hc⟩ := h7 j 0 (.int .i64 xs[j]) (by simp [at2, encI, hj'])
          cases hc
          have hu : cur[j]? = some (.int .i64 xs[j]) := by simpa using hu
          refine ⟨?_, ?_⟩
          . simp [World.cell?, h4, hu, hj']
          . simp [World.frozen?, h4]
        refine (sort_calls b cap xs w hH (Array.getElem?_eq_some_iff.1 h4).1 (by omega)).mono ?_
        rintro e w' ⟨rfl, n, os, rfl⟩
        exact ⟨_, rfl, sortPost hr hg (by simp [sortI]) h3 n os⟩
    . cases hK
  . cases hK
end Go.Ab

namespace Go.Ab
open Go
open Go.Proofs
def zerosTo (xs : List Int) : List Int := Lib.compact xs ++ List.replicate (xs.length - (Lib.compact xs).length) 0
theorem compact_calls (blk cap : Nat) (zs : List Int) (w : World) (hH : Sort.Holds (Value.int .i64) w blk 0 zs.toArray) (hsz : zs.length <= 9223372036854775807) (hcap : zs.length <= cap) :
    Calls Pr 124 #[.slice (some ⟨blk, 0, none⟩) zs.length cap] w fun e w' => e = .returned (.slice (some ⟨blk, 0, none⟩) (Lib.compact zs).length cap) /\ ∃ q, w' = Sort.putRow (Value.int .i64) (Sort.ahead w q) blk 0 (zerosTo zs).toArray :=
  Any.slices_Compact_int Tryz.lays20 blk 0 cap zs w hH hsz hcap
theorem compact_calls0 (a : Option Addr) (cap : Nat) (w : World) : Calls Pr 124 #[.slice a 0 cap] w fun e w' => e = .returned (.slice a 0 cap) /\ w' = w :=
  Any.slices_Compact_int_empty Tryz.lays20 a cap w
def compactN : Inl := ⟨fun ss h _ K => match ss with
  | [.acc i ver] => match getH h i with
    | .acc ver' false 1 L => bif Nat.beq ver ver' then (decI L).bind fun xs => bif Nat.ble xs.length 4000000000 && Nat.ble (Lib.compact xs).length xs.length then
        (bif xs.isEmpty then K (.acc i ver) h else K (.sub i ver 0 (Lib.compact xs).length) (setH h i (.acc ver false 1 (encI (zerosTo xs))))) else none else none
    | _ => none
  | _ => none⟩
theorem compact_nat : NatN compactN := fun ss h => by
  unfold compactN
  dsimp only
  split
  . split
    . exact .cond _ (.bind _ fun _ => .cond _ (.cond _ (.ret _ _) (.ret _ _)) .none) .none
    . exact .none
  . exact .none
theorem compact_good : GoodN Pr 124 compactN := by
  refine ⟨⟨⟨_, Tryz.func124, by kernel_rfl, by kernel_rfl⟩, fun ss h β K r hK => ?_⟩, compact_nat⟩
  unfold compactN at hK
  dsimp only at hK
  split at hK
  . rename_i i ver
    split at hK
    . rename_i ver' L hg
      replace hK := cond_some hK
      obtain ⟨hb, hK⟩ := hK
      have hb := beq_true hb
      subst hb
      replace hK := bind_some' hK
      obtain ⟨xs, hx, hK⟩ := hK
      replace hK := cond_some hK
      obtain ⟨hp, hK⟩ := hK
      have hL := decI_enc hx
      subst hL
      simp only [Bool.and_eq_true] at hp
      have hsm := Nat.le_of_ble_eq_true hp.1
      have hcl := Nat.le_of_ble_eq_true hp.2
      have one : ∀ (vs : Array Value) (h1 : vs.size = 1), vs = #[vs.getD 0 undef] := fun vs hsz => by
        apply Array.ext
        . simpa using hsz
        . intro j h1 h2
          have : j = 0 := by simp at h2; exact h2
          subst this
          simp [h1]
      cases he : xs.isEmpty with
      | true =>
        rw [he, cond_true] at hK
        have he := List.isEmpty_iff.1 he
        subst he
        refine ⟨_, _, hK, fun ρ X w vs hr hsz hvs => ?_⟩
        have hv0 := hvs 0 (.acc i ver) rfl
        rw [one vs (by simpa using hsz)]
        generalize vs.getD 0 undef = v at hv0
        cases hv0 with
        | acc _ _ _ hpl hi hv =>
          have hval := (hv ver false 1 (encI []) hg).2 rfl
          have hbx := hr.box i
          rw [hg] at hbx
          obtain ⟨h0, h1, h2, h3⟩ := hbx
          have hs : ∃ a cap, ρ.cur i = .slice a 0 cap := by
            rcases h3 with ⟨h3, _⟩ | ⟨b, cap, cur, ty, h3, _⟩
            . exact ⟨_, _, h3⟩
            . exact ⟨_, _, h3⟩
          obtain ⟨a, cap, hs⟩ := hs
          have hvv : VR ρ h w (Mut ρ X h) (.acc i ver) v := .acc i ver v hpl hi hv
          rw [hval, hs] at hvv ⊢
          refine (compact_calls0 a cap w).mono ?_
          rintro e w' ⟨rfl, rfl⟩
          exact ⟨_, rfl, ρ, hr, hvv, Ext.refl _ _ _⟩
      | false =>
        rw [he, cond_false] at hK
        refine ⟨_, _, hK, fun ρ X w vs hr hsz hvs => ?_⟩
        have hv0 := hvs 0 (.acc i ver) rfl
        rw [one vs (by simpa using hsz)]
        generalize vs.getD 0 undef = v at hv0
        cases hv0 with
        | acc _ _ _ hpl hi hv =>
          have hval := (hv ver false 1 (encI xs) hg).2 rfl
          have hbx := hr.box i
          rw [hg] at hbx
          obtain ⟨h0, h1, h2, h3⟩ := hbx
          rcases h3 with ⟨_, hn⟩ | ⟨b, cap, cur, ty, h3, h4, h5, h6, h7⟩
          . rw [List.map_eq_nil_iff.1 hn] at he; cases he
          rw [encI_len] at h3 h5
          rw [hval, h3]
          have hH : Sort.Holds (Value.int .i64) w b 0 xs.toArray := fun j hj => by
            have hj' : j < xs.length := by simpa using hj
            obtain ⟨u, hu, _, hc⟩ := h7 j 0 (.int .i64 xs[j]) (by simp [at2, encI, hj'])
            cases hc
            have hu : cur[j]? = some (.int .i64 xs[j]) := by simpa using hu
            refine ⟨?_, ?_⟩
            . simp [World.cell?, h4, hu, hj']
            . simp [World.frozen?, h4]
          have hzl : (zerosTo xs).length = xs.length := by simp [zerosTo]; omega
          refine (compact_calls b cap xs w hH (by omega) h5).mono ?_
          rintro e w' ⟨rfl, q, rfl⟩
          have hu := rowUpd hr hg hzl h3 q #[]
          rw [Sort.grow_empty] at hu
          refine ⟨_, rfl, _, hu.1, .sub i ver 0 _ _ rfl (by simpa using hi) fun ver' fr sz l hl => ?_, hu.2⟩
          rw [getH_setH_same _ hi] at hl
          cases hl
          refine ⟨Nat.le_refl _, fun _ => ⟨by rw [encI_len, hzl]; omega, some ⟨b, 0, none⟩, cap, cap, 0, ?_, by omega, by omega, by omega, fun _ => by omega, ?_⟩⟩
          . rw [encI_len, hzl]; simpa using h3
          . simp [Addr.add]
    . cases hK
  . cases hK
end Go.Ab

namespace Go.Ab
open Go
open Go.Proofs
noncomputable abbrev k32 : Cx := cxG Pr Tryz.f81 [(85, gAllI)] [(123, sortN), (124, compactN)]
set_option maxRecDepth 100000 in
theorem r32 (ls : List Ls) (β : Type) (K : CV -> List (List CV) -> Option β) : fnK k32 Tryz.f81 [cLss.enc ls] [] K =
 Option.bind (decLs (List.map encLs ls)) fun a =>
 bif smLs a then
 Option.bind (decI (encI (catI a))) fun xs =>
 bif Nat.ble (List.length xs) 4000000000 then
 Option.bind (decI (encI (sortI xs))) fun xs_1 =>
 bif Nat.ble (List.length xs_1) 4000000000 && Nat.ble (List.length (Lib.compact xs_1)) (List.length xs_1) then
 bif List.isEmpty xs_1 then
 K (CV.bool ((↑(List.length (encI (sortI xs))) : Int) == (↑(List.length (encI (catI a))) : Int))) []
 else K (CV.bool ((↑(List.length (Lib.compact xs_1)) : Int) == (↑(List.length (encI (catI a))) : Int))) []
 else none
 else none
 else none := by kernel_rfl
theorem compact_le (zs : List Int) : (Lib.compact zs).length <= zs.length := by
  unfold Lib.compact Lib.compactUpTo
  rw [List.length_map]
  exact Nat.le_trans (List.length_filter_le _ _) (by simp)
theorem sortI_len (xs : List Int) : (sortI xs).length = xs.length := by simp [sortI]
theorem catI_len : ∀ {ls : List Ls}, ls.all smL = true -> (catI ls).length <= 300000 * ls.length
  | [], _ => by simp [catI]
  | l :: ls, h => by
    simp only [List.all_cons, Bool.and_eq_true] at h
    obtain ⟨l1, l2, l3⟩ := smL_le h.1
    have ih := catI_len h.2
    rw [show catI (l :: ls) = one3 l ++ catI ls from rfl]
    simp only [one3, List.length_append, List.length_cons]
    omega
def apartV (ls : List Ls) : Bool := Nat.beq (Lib.compact (sortI (catI ls))).length (catI ls).length
def gApart : Callee := g1 cLss smLs fun ls => cB.enc (apartV ls)
theorem apart_good : GoodC Pr 81 gApart :=
  good1 ((CxOK.baseG (Good.cons catI_good Good.nil) (GoodI.cons sort_good (GoodI.cons compact_good GoodI.nil)) (eqOK_none fun _ => rfl)).sound (cx := k32) Tryz.func81 (by kernel_rfl) (by kernel_rfl) rfl (by kernel_rfl)) fun ls hp β K => by
    obtain ⟨h1, h2⟩ := smLs_le hp
    have hc := catI_len h2
    rw [r32]
    simp only [decLs_map, Option.bind_some, hp, cond_true, decI_map, sortI_len, Nat.ble_eq_true_of_le (show (catI ls).length <= 4000000000 by omega), Bool.and_self, Nat.ble_eq_true_of_le (show (Lib.compact (sortI (catI ls))).length <= (catI ls).length from sortI_len (catI ls) ▸ compact_le _), encI_len, beq_nat]
    cases e1 : (sortI (catI ls)).isEmpty with
    | false => rw [cond_false]; rfl
    | true =>
      have e2 := List.isEmpty_iff.1 e1
      have e3 : catI ls = [] := by
        have := sortI_len (catI ls)
        rw [e2] at this
        exact List.eq_nil_of_length_eq_zero this.symm
      unfold apartV
      rw [cond_true, e2, e3]
      rfl
end Go.Ab

namespace Go.Ab
open Go
open Go.Proofs
theorem allCG_good : GoodC Pr 80 gAllC := ⟨allC_sound, allC_nat⟩
noncomputable abbrev k9a : Cx := cxG Pr Tryz.f27 [(72, gShaped), (78, gListed), (80, gAllC), (79, gEvery), (81, gApart)] [] (fun q => Nat.beq q 15)
abbrev p9 := [false, true, false, true, true, true, true]
abbrev o9 : Exit -> List Nat := fun | .ret => [4] | _ => [2, 5, 6]
set_option maxRecDepth 100000 in
theorem t9x (h g : Hp) (xs ys : List Ls) (n i : Int) (m : Nat) (β : Type) (K : Exit -> List CV -> List (List CV) -> Option β) : loopB k9a [2, 5, 6, 18, 19, 20] o9 p9 (bodyL (bodyOf Tryz.f27) p9) (m + 1) [cPH.enc h, cClo.enc (.may g), cLss.enc xs, cLss.enc ys, cI.enc n, cI.enc i] [] K =
 bif decide (i < n) then
 Option.bind (rdE (List.map encLs ys) i) fun c =>
 Option.bind c[0]? fun x =>
 Option.bind (asL 1 x) fun l =>
 Option.bind c[1]? fun x =>
 Option.bind (asL 1 x) fun l_1 =>
 Option.bind c[2]? fun x =>
 Option.bind (asL 1 x) fun l_2 =>
 Option.bind (Option.bind (decI (encI (Hp.w h))) fun w =>
 Option.bind (decP (List.map encP (Hp.p h))) fun p =>
 Option.bind (decI (encI (Ls.a (Hp.f h)))) fun a =>
 Option.bind (decI (encI (Ls.b (Hp.f h)))) fun b =>
 Option.bind (decI (encI (Ls.c (Hp.f h)))) fun c =>
 Option.bind (decBs (encBs (Hp.c h))) fun d => some { w := w, p := p, f := { a := a, b := b, c := c }, c := d }) fun a =>
 Option.bind (Option.bind (decI l) fun a =>
 Option.bind (decI l_1) fun b => Option.bind (decI l_2) fun c => some { a := a, b := b, c := c }) fun b =>
 bif smH a && shapedE a && smL b then
 bif !listedV a b then K Exit.ret [CV.bool false] []
 else loopB k9a [2, 5, 6, 18, 19, 20] o9 [false, true, false, true, true, true, true] (bodyL (bodyOf Tryz.f27) p9) m [CV.pc [CV.sl 1 (encI (Hp.w h)), CV.sl 2 (List.map encP (Hp.p h)), CV.sl 1 (encI (Ls.a (Hp.f h))), CV.sl 1 (encI (Ls.b (Hp.f h))), CV.sl 1 (encI (Ls.c (Hp.f h))), CV.sl 1 (encBs (Hp.c h))] 0, CV.fn 73 [] [CV.pc [CV.sl 1 (encI (Hp.w g)), CV.sl 2 (List.map encP (Hp.p g)), CV.sl 1 (encI (Ls.a (Hp.f g))), CV.sl 1 (encI (Ls.b (Hp.f g))), CV.sl 1 (encI (Ls.c (Hp.f g))), CV.sl 1 (encBs (Hp.c g))] 0], CV.sl 3 (List.map encLs xs), CV.sl 3 (List.map encLs ys), CV.int IntKind.i64 n, CV.int IntKind.i64 (IntKind.wrap IntKind.i64 (i + 1))] [] fun a a_1 a_2 => K a a_1 a_2
 else none
 else
 K (Exit.exit 0) [CV.pc [CV.sl 1 (encI (Hp.w h)), CV.sl 2 (List.map encP (Hp.p h)), CV.sl 1 (encI (Ls.a (Hp.f h))), CV.sl 1 (encI (Ls.b (Hp.f h))), CV.sl 1 (encI (Ls.c (Hp.f h))), CV.sl 1 (encBs (Hp.c h))] 0, CV.fn 73 [] [CV.pc [CV.sl 1 (encI (Hp.w g)), CV.sl 2 (List.map encP (Hp.p g)), CV.sl 1 (encI (Ls.a (Hp.f g))), CV.sl 1 (encI (Ls.b (Hp.f g))), CV.sl 1 (encI (Ls.c (Hp.f g))), CV.sl 1 (encBs (Hp.c g))] 0], CV.sl 3 (List.map encLs xs)] [] := by kernel_rfl
theorem may_loop (h g : Hp) (xs ys : List Ls) (hh : (smH h && shapedE h) = true) (hl : ys.length <= 100000) (hs : ys.all smL = true) (β : Type) (K : Exit -> List CV -> List (List CV) -> Option β) : ∀ (m i : Nat), i + m = ys.length ->
    loopB k9a [2, 5, 6, 18, 19, 20] o9 p9 (bodyL (bodyOf Tryz.f27) p9) (m + 1) [cPH.enc h, cClo.enc (.may g), cLss.enc xs, cLss.enc ys, cI.enc (ys.length : Int), cI.enc (i : Int)] [] K =
      bif (ys.drop i).all (listedV h) then K (.exit 0) [cPH.enc h, cClo.enc (.may g), cLss.enc xs] [] else K .ret [cB.enc false] [] := by
  intro m
  induction m with
  | zero =>
    intro i h1
    rw [t9x, decide_eq_false (by omega), cond_false, List.drop_eq_nil_of_le (by omega)]
    rfl
  | succ m ih =>
    intro i h1
    have hi : i < ys.length := by omega
    have e0 : (List.map encLs ys)[(i : Int).toNat]? = some (encLs ys[i]) := by simp [hi]
    have hsm := List.all_eq_true.1 hs _ (List.getElem_mem hi)
    rw [t9x, decide_eq_true (by omega), cond_true, rdE_nat (by omega), e0, List.drop_eq_getElem_cons hi]
    generalize ys[i] = l at hsm
    have g1 : (encLs l)[0]? = some (.sl 1 (encI l.a)) := rfl
    have g2 : (encLs l)[1]? = some (.sl 1 (encI l.b)) := rfl
    have g3 : (encLs l)[2]? = some (.sl 1 (encI l.c)) := rfl
    have e : (⟨h.w, h.p, ⟨h.f.a, h.f.b, h.f.c⟩, h.c⟩ : Hp) = h := rfl
    have e' : (⟨l.a, l.b, l.c⟩ : Ls) = l := rfl
    simp only [Option.bind_some, g1, g2, g3, asL_1, decI_map, decP_map, decBs_enc, e, e', hh, hsm, Bool.and_self, cond_true, List.all_cons, show (i : Int) + 1 = ((i + 1 : Nat) : Int) by omega, wrap_in (a := ((i + 1 : Nat) : Int)) (by omega)]
    cases listedV h l with
    | false => rfl
    | true =>
      simp only [Bool.not_true, cond_false, Bool.true_and]
      exact ih (i + 1) (by omega)
def cMay : Cod Hp where
  enc := fun h => .fn 73 [] [cPH.enc h]
  dec := fun c => match c with | .fn f [] [x] => bif Nat.beq f 73 then cPH.dec x else none | _ => none
  ok := fun c a h => by
    split at h
    . rename_i f x
      cases e : Nat.beq f 73 with
      | true => rw [e] at h; rw [Nat.eq_of_beq_eq_true e, cPH.ok _ _ h]
      | false => rw [e] at h; cases h
    . cases h
  de := fun h => cPH.de h
def L9 : LoopSem := l6 [2, 5, 6, 18, 19, 20] o9 cPH cMay cLss cLss cI cI c0 (fun h _ _ ys n i _ => ((smH h && shapedE h) && (Nat.ble ys.length 100000 && (ys.all smL && (i == 0 && n == (ys.length : Int))))))
  fun h g xs ys _ _ _ => .alt (ys.all (listedV h)) (.one (.exit 0) [cPH.enc h, cMay.enc g, cLss.enc xs] []) (.one .ret [cB.enc false] [])
noncomputable abbrev k9 : Cx := k9a.loop p9 L9
theorem k9_ok : CxOK k9 [(72, gShaped), (78, gListed), (80, gAllC), (79, gEvery), (81, gApart)] := by
  refine CxOK.loop6 (CxOK.baseG (Good.cons shaped_good (Good.cons listed_good (Good.cons allCG_good (Good.cons every_good (Good.cons apart_good Good.nil))))) GoodI.nil (eqOK_none fun _ => rfl)) rfl fun h g xs ys n i u hp => ?_
  simp only [Bool.and_eq_true, beq_iff_eq] at hp
  obtain ⟨⟨hh1, hh2⟩, hl, hs, hi, hn⟩ := hp
  have hh : (smH h && shapedE h) = true := by rw [hh1, hh2]; rfl
  subst hi hn
  refine ⟨ys.length + 1, fun β K => ?_⟩
  have := may_loop h g xs ys hh (Nat.le_of_ble_eq_true hl) hs β K ys.length 0 (by omega)
  rw [List.drop_zero] at this
  exact this
set_option maxRecDepth 100000 in
theorem r9 (h : Hp) (ls : List Ls) (β : Type) (K : CV -> List (List CV) -> Option β) : fnK k9 Tryz.f27 [cHp.enc h, cLss.enc ls] [] K =
 Option.bind (Option.bind (decI (encI (Hp.w h))) fun w =>
 Option.bind (decP (List.map encP (Hp.p h))) fun p =>
 Option.bind (decI (encI (Ls.a (Hp.f h)))) fun a =>
 Option.bind (decI (encI (Ls.b (Hp.f h)))) fun b =>
 Option.bind (decI (encI (Ls.c (Hp.f h)))) fun c =>
 Option.bind (decBs (encBs (Hp.c h))) fun d => some { w := w, p := p, f := { a := a, b := b, c := c }, c := d }) fun a =>
 bif smH a then
 bif !shapedE a then K (CV.bool false) []
 else
 if List.length ([[CV.sl 1 (encI (Ls.a (Hp.f h))), CV.sl 1 (encI (Ls.b (Hp.f h))), CV.sl 1 (encI (Ls.c (Hp.f h)))]] ++ List.map encLs ls) <= LIM then
 Option.bind (Option.bind (decI (encI (Hp.w h))) fun w =>
 Option.bind (decP (List.map encP (Hp.p h))) fun p =>
 Option.bind (decI (encI (Ls.a (Hp.f h)))) fun a =>
 Option.bind (decI (encI (Ls.b (Hp.f h)))) fun b =>
 Option.bind (decI (encI (Ls.c (Hp.f h)))) fun c =>
 Option.bind (decBs (encBs (Hp.c h))) fun d => some { w := w, p := p, f := { a := a, b := b, c := c }, c := d }) fun a =>
 Option.bind (Option.bind (decI (encI (Hp.w h))) fun w =>
 Option.bind (decP (List.map encP (Hp.p h))) fun p =>
 Option.bind (decI (encI (Ls.a (Hp.f h)))) fun a =>
 Option.bind (decI (encI (Ls.b (Hp.f h)))) fun b =>
 Option.bind (decI (encI (Ls.c (Hp.f h)))) fun c =>
 Option.bind (decBs (encBs (Hp.c h))) fun d => some { w := w, p := p, f := { a := a, b := b, c := c }, c := d }) fun b =>
 Option.bind (decLs ([CV.sl 1 (encI (Ls.a (Hp.f h))), CV.sl 1 (encI (Ls.b (Hp.f h))), CV.sl 1 (encI (Ls.c (Hp.f h)))] :: List.append [] (List.map encLs ls))) fun c =>
 Option.bind (decLs ([CV.sl 1 (encI (Ls.a (Hp.f h))), CV.sl 1 (encI (Ls.b (Hp.f h))), CV.sl 1 (encI (Ls.c (Hp.f h)))] :: List.append [] (List.map encLs ls))) fun d =>
 bif smH a && shapedE a && (Nat.ble (List.length d) 100000 && (List.all d smL && (↑(Nat.succ (Nat.add (List.length (List.append [] (List.map encLs ls))) 0)) : Int) == (↑(List.length d) : Int))) then
 bif List.all d (listedV a) then
 Option.bind (decP (List.map encP (Hp.p a))) fun ps =>
 bif Nat.ble (List.length ps) 200 then
 Option.bind (decI (atV (allCs ps))) fun a =>
 Option.bind (Clo.dec (CV.fn 73 [] [CV.pc [CV.sl 1 (encI (Hp.w b)), CV.sl 2 (List.map encP (Hp.p b)), CV.sl 1 (encI (Ls.a (Hp.f b))), CV.sl 1 (encI (Ls.b (Hp.f b))), CV.sl 1 (encI (Ls.c (Hp.f b))), CV.sl 1 (encBs (Hp.c b))] 0])) fun b =>
 bif List.all a (Clo.pre b) && Nat.ble (List.length a) 100000 then
 bif List.all a (Clo.val b) then
 Option.bind (decLs (List.map encLs c)) fun a =>
 bif smLs a then K (CV.bool (apartV a)) [] else none
 else K (CV.bool false) []
 else none
 else none
 else K (CV.bool false) []
 else none
 else none
 else none := by kernel_rfl
theorem de_ls (h : Hp) (ls : List Ls) : decLs ([CV.sl 1 (encI (Ls.a (Hp.f h))), CV.sl 1 (encI (Ls.b (Hp.f h))), CV.sl 1 (encI (Ls.c (Hp.f h)))] :: List.append [] (List.map encLs ls)) = some (h.f :: ls) := decLs_map (h.f :: ls)
def cellAs (ps : List Pg) : List Int := (allCs ps).map (·.1)
theorem cellAs_dec (ps : List Pg) : decI (encI (List.map (fun x => x.fst) (allCs ps))) = some (cellAs ps) := decI_map _
def mayHpV (h : Hp) (ls : List Ls) : Bool := shapedE h && ((h.f :: ls).all (listedV h) && ((cellAs h.p).all (mayV h) && apartV (h.f :: ls)))
def gMayHp : Callee := g2 cHp cLss (fun h ls => smH h && smLs (h.f :: ls)) fun h ls => cB.enc (mayHpV h ls)
theorem cells_pre {h : Hp} (hs : smH h = true) (hh : shapedE h = true) : (cellAs h.p).all (Clo.may h).pre = true := List.all_eq_true.2 fun a ha => by
  have h1 := room_pos h.p a
  rw [decide_eq_true (show a ∈ (allCs h.p).map (·.1) from ha)] at h1
  obtain ⟨g1, g2⟩ := room_in (of_decide_eq_true h1)
  obtain ⟨q1, q2⟩ := shaped_in hs hh g1 g2
  show (inW h a && inP h a) = true
  rw [q1, q2]; rfl
theorem mayHp_good : GoodC Pr 27 gMayHp :=
  good2 (k9_ok.sound (cx := k9) Tryz.func27 (by kernel_rfl) (by kernel_rfl) rfl (by kernel_rfl)) fun h ls hp β K => by
    simp only [Bool.and_eq_true] at hp
    obtain ⟨hs, hls⟩ := hp
    obtain ⟨h1, h2⟩ := smLs_le hls
    have hL := lim_val
    have e : (⟨h.w, h.p, ⟨h.f.a, h.f.b, h.f.c⟩, h.c⟩ : Hp) = h := rfl
    refine (r9 h ls β K).trans ?_
    simp only [decI_map, decP_map, decBs_enc, Option.bind_some, e, hs, cond_true]
    unfold mayHpV
    cases hsh : shapedE h with
    | false => rfl
    | true =>
      have hn : ((Nat.succ (Nat.add (List.length (List.append [] (List.map encLs ls))) 0) : Nat) : Int) = ((h.f :: ls).length : Int) := by
        show ((Nat.succ (List.length ([] ++ List.map encLs ls) + 0) : Nat) : Int) = _
        simp
      have hc8 : (cellAs h.p).length <= 100000 := by
        have := Nat.le_of_ble_eq_true (all_len8 (ps := h.p) (Nat.ble_eq_true_of_le (smH_le hs).2.1))
        have e2 : (cellAs h.p).length = ((allCs h.p).map (·.1)).length := rfl
        omega
      rw [Bool.not_true, cond_false, if_pos (by simp at h1 ⊢; omega)]
      simp only [de_may, de_ls, Option.bind_some, hn, hs, hsh, h2, beq_self_eq_true, Nat.ble_eq_true_of_le (show (h.f :: ls).length <= 100000 by omega), Bool.and_self, cond_true, Bool.true_and]
      cases (h.f :: ls).all (listedV h) with
      | false => rfl
      | true =>
        simp only [cond_true, Nat.ble_eq_true_of_le (smH_le hs).2.1, atV_enc, cellAs_dec, Option.bind_some, cells_pre hs hsh, Nat.ble_eq_true_of_le hc8, Bool.and_self, decLs_map, hls, Bool.true_and]
        show (bif (cellAs h.p).all (mayV h) then _ else _) = _
        cases (cellAs h.p).all (mayV h) <;> rfl
end Go.Ab

namespace Go.Ab
open Go Go.ChangeShapes Go.WideShapes Go.RowKit
open Go.Proofs
theorem clone_nil (n c : Nat) (w : World) : Calls Pr 60 #[.slice none n c] w fun e w' => e = .returned (.slice none 0 0) /\ w' = w :=
  Any.slices_Clone_int_nil Tryz.lays15 n c w
theorem clone_zero (a : Addr) (c : Nat) (w : World) : Calls Pr 60 #[.slice (some a) 0 c] w fun e w' => ∃ v' t, e = .returned v' /\ w'.ownsRow w.heap.size t 1 v' 0 [] /\ Below w.heap.size w w' :=
  (Any.slices_Clone_int_zero Tryz.lays15 a c w).mono fun e w' h => by
    obtain ⟨v', h1, h2, _, h3⟩ := h
    exact ⟨v', _, h1, h2, h3⟩
def gCloneA : Callee := g1 cIs (fun w => Nat.ble w.length 4000000000) fun w => cOI.enc w
theorem below_io {w w' : World} (h : Below w.heap.size w w') : SameIO w w' /\ w.heap.size <= w'.heap.size /\ ∀ b, b < w.heap.size -> w'.heap[b]? = w.heap[b]? := by
  refine ⟨⟨h.os, ?_⟩, h.size, h.block⟩
  rw [h.output, h.tape]
theorem cloneA_good : GoodC Pr 60 gCloneA := by
  refine ⟨⟨cloneI_good.s.enter, fun args conts β K r hr => ?_⟩, g1_nat _⟩
  unfold gCloneA g1 at hr
  dsimp only at hr
  split at hr
  . rename_i a
    replace hr := bind_some' hr
    obtain ⟨xs, hx, hr⟩ := hr
    replace hr := cond_some hr
    obtain ⟨hp, hr⟩ := hr
    cases hxs : xs.isEmpty with
    | false =>
      refine cloneI_good.s.calls [a] [] β K r ?_
      unfold gCloneI g1
      dsimp only
      rw [hx, Option.bind_some, hxs, hp]
      exact hr
    | true =>
      have hxs := List.isEmpty_iff.1 hxs
      subst hxs
      have ea := cIs.ok _ _ hx
      subst ea
      refine ⟨_, _, hr, fun w M vs bs B m => ?_⟩
      have hv : vs = #[vs.getD 0 undef] := by
        apply Array.ext
        . simpa using m.size
        . intro j h1 h2
          have : j = 0 := by simp at h2; exact h2
          subst this
          simp [h1]
      have ha := m.arg 0 (cIs.enc []) rfl
      rw [hv]
      generalize vs.getD 0 undef = v at ha
      obtain ⟨rfl, rfl⟩ : bs = [] /\ B = [] := by
        have hc := m.cont
        cases bs with
        | nil => exact ⟨rfl, hc⟩
        | cons b bs => exact hc.elim
      have hcr : CR w M (.sl 1 []) v := by
        rcases ha with ⟨k, b, h1, _⟩ | ha
        . cases h1
        . exact ha
      obtain ⟨a, cap, rfl⟩ : ∃ a cap, v = .slice a 0 cap := by
        cases hcr with
        | sl0 _ a cap => exact ⟨a, cap, rfl⟩
        | sl => exact ⟨_, _, rfl⟩
      . cases a with
        | none =>
          refine (clone_nil 0 cap w).mono ?_
          rintro e w' ⟨rfl, rfl⟩
          exact ⟨_, [], [], rfl, ⟨⟨rfl, rfl⟩, Nat.le_refl _, fun _ _ _ => rfl, fun b hb => (by cases hb), List.nodup_nil, .ownN 1 (by omega), rfl⟩⟩
        | some a =>
          refine (clone_zero a cap w).mono ?_
          rintro e w' ⟨v', t, rfl, ho, hb⟩
          obtain ⟨q1, q2, q3⟩ := below_io hb
          rcases ho.2 with ⟨rfl, _⟩ | ⟨g, cap', cur, rfl, g1, g2, g3, g4, g5, g6⟩
          . exact ⟨_, [], [], rfl, ⟨q1, q2, fun b hb _ => q3 b hb, fun b hb => (by cases hb), List.nodup_nil, .ownN 1 (by omega), rfl⟩⟩
          . refine ⟨_, [g], [], rfl, ⟨q1, q2, fun b hb _ => q3 b hb, fun b hb => ?_, by simp, ?_, rfl⟩⟩
            . simp at hb; subst hb; exact .inr g1
            . exact .own 1 [] g cap' cur t (by omega) (fun e he => by cases he) (Nat.zero_le _) g2 (Nat.zero_le _) (by omega) fun k j x hx => by simp [at2] at hx
  . cases hr
end Go.Ab

namespace Go.Ab
open Go
theorem roomA_some {ps : List Pg} {a : Int} {c : Cell} (h : firstC 93 a (allCs ps) = some c) : roomA ps a = c.2 := by simp [roomA, h, optE]
theorem roomA_none {ps : List Pg} {a : Int} (h : firstC 93 a (allCs ps) = none) : roomA ps a = 0 := by simp [roomA, h, optE]
theorem all_mem {ps : List Pg} {c : Cell} (hc : c ∈ allCs ps) : 16 <= c.1 /\ 2 <= c.2 /\ c.1 <= 65536 /\ c.2 <= 64 := chain_mem (all_chain ps) c hc
end Go.Ab

namespace Go.Ab
open Go
theorem roomA_le (ps : List Pg) (a : Int) : 0 <= roomA ps a /\ roomA ps a <= 64 := by
  cases h : firstC 93 a (allCs ps) with
  | none => rw [roomA_none h]; omega
  | some c =>
    have := all_mem (of29 h).1
    rw [roomA_some h]
    omega
def rsum (ps : List Pg) : List Int -> Int
  | [] => 0
  | x :: xs => roomA ps x + rsum ps xs
def outs5 : Exit -> List Nat := fun _ => [5, 0]
def loop5 : LoopSem := ⟨[4, 5, 6, 0], outs5, fun vs cs _ K => match vs, cs with
  | [.own 1 A, .int .i64 n, .int .i64 i, .sl 2 L], [] => (decI A).bind fun xs => (decP L).bind fun ps => bif decide (i = 0) && decide (0 <= n) && decide (n <= 1000000) && Nat.ble xs.length 8192 && Nat.ble ps.length 200 then
      K (.exit 0) [.int .i64 (n + rsum ps xs), .sl 2 L] [] else none
  | _, _ => none⟩
/-! ### CellsOn -/
def outs6 : Exit -> List Nat := fun e => match e with | .ret => [4] | _ => [0, 1, 6, 7]
def walkOn (ps : List Pg) : List Int -> Int -> Option Int
  | [], t => some t
  | x :: xs, t => cond (x != t) none (walkOn ps xs (t + roomA ps t))
def loop6 : LoopSem := ⟨[6, 7, 8, 0, 1], outs6, fun vs cs _ K => match vs, cs with
  | [.own 1 A, .int .i64 t, .int .i64 i, .sl 2 L, .int .i64 p], [] => (decI A).bind fun xs => (decP L).bind fun ps => bif decide (i = 0) && decide (0 <= t) && decide (t <= 1000000) && Nat.ble xs.length 8192 && Nat.ble ps.length 200 then
      optE (walkOn ps xs t) (K .ret [.bool false] []) fun t' => K (.exit 0) [.sl 2 L, .int .i64 p, .own 1 A, .int .i64 t'] [] else none
  | _, _ => none⟩
end Go.Ab

namespace Go.Ab
open Go
open Go.Proofs
theorem roomN (ps : List Pg) (a : Int) : (roomA ps a == 0) = !decide (roomA ps a > 0) := by
  have := (roomA_le ps a).1
  by_cases h : roomA ps a > 0
  . rw [decide_eq_true h]; exact beq_eq_false_iff_ne.2 (by omega)
  . rw [decide_eq_false h]; exact beq_iff_eq.2 (by omega)
noncomputable abbrev k14 : Cx := cxG Pr Tryz.f33 [(27, gMayHp), (42, gRoom), (75, gWord), (74, gUnp)]
set_option maxRecDepth 100000 in
theorem r14 (h : Hp) (a : Int) (β : Type) (K : CV -> List (List CV) -> Option β) : fnK k14 Tryz.f33 [cHp.enc h, cI.enc a] [] K =
 Option.bind (Option.bind (decI (encI (Hp.w h))) fun w =>
 Option.bind (decP (List.map encP (Hp.p h))) fun p =>
 Option.bind (decI (encI (Ls.a (Hp.f h)))) fun a =>
 Option.bind (decI (encI (Ls.b (Hp.f h)))) fun b =>
 Option.bind (decI (encI (Ls.c (Hp.f h)))) fun c =>
 Option.bind (decBs (encBs (Hp.c h))) fun d => some { w := w, p := p, f := { a := a, b := b, c := c }, c := d }) fun a_1 =>
 bif smH a_1 && smLs [Hp.f a_1] then
 bif !mayHpV a_1 [] then
 K (CV.tup [CV.agg [CV.bool false, CV.bool false, CV.bool false, CV.int IntKind.i64 0, CV.int IntKind.i64 0, CV.int IntKind.i64 0], CV.int IntKind.i64 1]) []
 else
 Option.bind (decP (List.map encP (Hp.p h))) fun ps =>
 bif Nat.ble (List.length ps) 200 then
 bif roomA ps a == 0 then
 K (CV.tup [CV.agg [CV.bool false, CV.bool false, CV.bool false, CV.int IntKind.i64 0, CV.int IntKind.i64 0, CV.int IntKind.i64 0], CV.int IntKind.i64 3]) []
 else
 Option.bind (Option.bind (decI (encI (Hp.w h))) fun w =>
 Option.bind (decP (List.map encP (Hp.p h))) fun p =>
 Option.bind (decI (encI (Ls.a (Hp.f h)))) fun a =>
 Option.bind (decI (encI (Ls.b (Hp.f h)))) fun b =>
 Option.bind (decI (encI (Ls.c (Hp.f h)))) fun c =>
 Option.bind (decBs (encBs (Hp.c h))) fun d => some { w := w, p := p, f := { a := a, b := b, c := c }, c := d }) fun a_2 =>
 bif inW a_2 a then
 bif !Hd.a (bif unpOK (wordE a_2 a) then unp (wordE a_2 a) else Hd.z0) then
 K (CV.tup [CV.agg [CV.bool false, CV.bool false, CV.bool false, CV.int IntKind.i64 0, CV.int IntKind.i64 0, CV.int IntKind.i64 0], CV.int IntKind.i64 3]) []
 else
 K (CV.tup [CV.agg [CV.bool (Hd.a (bif unpOK (wordE a_2 a) then unp (wordE a_2 a) else Hd.z0)), CV.bool (Hd.b (bif unpOK (wordE a_2 a) then unp (wordE a_2 a) else Hd.z0)), CV.bool (Hd.c (bif unpOK (wordE a_2 a) then unp (wordE a_2 a) else Hd.z0)), CV.int IntKind.i64 (Hd.x (bif unpOK (wordE a_2 a) then unp (wordE a_2 a) else Hd.z0)), CV.int IntKind.i64 (Hd.y (bif unpOK (wordE a_2 a) then unp (wordE a_2 a) else Hd.z0)), CV.int IntKind.i64 (Hd.z (bif unpOK (wordE a_2 a) then unp (wordE a_2 a) else Hd.z0))], CV.int IntKind.i64 0]) []
 else none
 else none
 else none := by kernel_rfl
def unpX (h : Hp) (a : Int) : Hd := bif unpOK (wordE h a) then unp (wordE h a) else Hd.z0
def headE (h : Hp) (a : Int) : Hd × Int := bif !mayHpV h [] then (Hd.z0, 1) else bif roomA h.p a == 0 then (Hd.z0, 3) else bif !(unpX h a).a then (Hd.z0, 3) else (unpX h a, 0)
def gHead : Callee := g2 cHp cI (fun h _ => smH h && smLs [h.f]) fun h a => .tup [cHd.enc (headE h a).1, cI.enc (headE h a).2]
theorem shaped_of {h : Hp} {ls : List Ls} (hm : mayHpV h ls = true) : shapedE h = true := by
  unfold mayHpV at hm
  cases hs : shapedE h with
  | true => rfl
  | false => rw [hs] at hm; cases hm
theorem head_good : GoodC Pr 33 gHead :=
  good2 ((CxOK.baseG (Good.cons mayHp_good (Good.cons roomH_good (Good.cons word_good (Good.cons unp_good Good.nil)))) GoodI.nil (eqOK_none fun _ => rfl)).sound (cx := k14) Tryz.func33 (by kernel_rfl) (by kernel_rfl) rfl (by kernel_rfl)) fun h a hp β K => by
    have hp0 := hp
    simp only [Bool.and_eq_true] at hp
    obtain ⟨hs, hls⟩ := hp
    have e : (⟨h.w, h.p, ⟨h.f.a, h.f.b, h.f.c⟩, h.c⟩ : Hp) = h := rfl
    refine (r14 h a β K).trans ?_
    simp only [decI_map, decP_map, decBs_enc, Option.bind_some, e, hp0, cond_true]
    unfold headE
    cases hm : mayHpV h [] with
    | false => rfl
    | true =>
      simp only [Bool.not_true, cond_false, Nat.ble_eq_true_of_le (smH_le hs).2.1, cond_true]
      rw [roomN]
      cases hr : decide (roomA h.p a > 0) with
      | false => rfl
      | true =>
        obtain ⟨g1, g2⟩ := room_in (of_decide_eq_true hr)
        obtain ⟨q1, _⟩ := shaped_in hs (shaped_of hm) g1 g2
        simp only [Bool.not_true, cond_false, q1, cond_true]
        show (bif !(unpX h a).a then _ else _) = _
        cases (unpX h a).a <;> rfl
end Go.Ab

namespace Go.Ab
open Go
open Go.Proofs
theorem cloneB_good : GoodC Pr 90 gCloneB :=
  good1 ((CxOK.baseG Good.nil GoodI.nil (eqOK_none fun _ => rfl)).sound (cx := k63) Tryz.func90 (by kernel_rfl) (by kernel_rfl) rfl (by kernel_rfl)) fun w hp β K => by
    simp only [Bool.and_eq_true, Bool.not_eq_true', List.isEmpty_eq_false_iff] at hp
    have hl := Nat.le_of_ble_eq_true hp.2
    have e1 : (encBs w).isEmpty = false := by simpa [encBs] using hp.1
    rw [r63, e1, cond_false, List.nil_append, if_pos (lim_of (by simp [encBs]; omega))]
    rfl
noncomputable abbrev k33b : Cx := cxG Pr Tryz.f40 [(60, gCloneA), (89, gCloneP), (90, gCloneB)] [] (fun _ => false) (fun q => Nat.beq q 58)
set_option maxRecDepth 100000 in
theorem r33b (h : Hp) (β : Type) (K : CV -> List (List CV) -> Option β) : fnK k33b Tryz.f40 [cHp.enc h] [] K =
 Option.bind (decI (encI (Hp.w h))) fun a =>
 bif Nat.ble (List.length a) 4000000000 then
 Option.bind (decP (List.map encP (Hp.p h))) fun a_1 =>
 bif !List.isEmpty a_1 && sm a_1 then
 Option.bind (decBs (encBs (Hp.c h))) fun a_2 =>
 bif !List.isEmpty a_2 && Nat.ble (List.length a_2) 100000 then
 Option.bind (decI (encI (Ls.a (Hp.f h)))) fun a_3 =>
 bif Nat.ble (List.length a_3) 4000000000 then
 Option.bind (decI (encI (Ls.b (Hp.f h)))) fun a_4 =>
 bif Nat.ble (List.length a_4) 4000000000 then
 Option.bind (decI (encI (Ls.c (Hp.f h)))) fun a_5 =>
 bif Nat.ble (List.length a_5) 4000000000 then
 K (CV.box [CV.sl 1 (encI a), CV.sl 2 (List.map encP a_1), CV.own 1 (encI a_3), CV.own 1 (encI a_4), CV.own 1 (encI a_5), CV.sl 1 (encBs a_2)]) []
 else none
 else none
 else none
 else none
 else none
 else none := by kernel_rfl
theorem begun_good : GoodC Pr 40 gBegun :=
  good1 ((CxOK.baseG (Good.cons cloneA_good (Good.cons clone_good (Good.cons cloneB_good Good.nil))) GoodI.nil (eqOK_none fun _ => rfl)).sound (cx := k33b) Tryz.func40 (by kernel_rfl) (by kernel_rfl) rfl (by kernel_rfl)) fun h hp β K => by
    simp only [Bool.and_eq_true, Bool.not_eq_true'] at hp
    obtain ⟨hs, hp1, hp2⟩ := hp
    have hss := hs
    simp only [smH, Bool.and_eq_true] at hss
    obtain ⟨hw, hps, hc, hf⟩ := hss
    obtain ⟨f1, f2, f3⟩ := smL_le hf
    have hw := Nat.le_of_ble_eq_true hw
    have hc' := Nat.le_of_ble_eq_true hc
    rw [r33b]
    simp only [decI_map, decP_map, decBs_enc, Option.bind_some, Nat.ble_eq_true_of_le (show h.w.length <= 4000000000 by omega), cond_true, hp1, hp2, hps, hc, Bool.not_false, Bool.and_self,
      Nat.ble_eq_true_of_le (show h.f.a.length <= 4000000000 by omega), Nat.ble_eq_true_of_le (show h.f.b.length <= 4000000000 by omega), Nat.ble_eq_true_of_le (show h.f.c.length <= 4000000000 by omega)]
noncomputable abbrev k43n : Cx := cxN Pr Tryz.f46 [(94, gDropP)]
noncomputable abbrev k35n : Cx := cxN Pr Tryz.f53 [(100, gPart), (101, gCells)] [(46, inlC k43n Tryz.f46)]
noncomputable abbrev k41n : Cx := cxN Pr Tryz.f44 [(52, gPush)] [(53, inlC k35n Tryz.f53)]
theorem drop_inl : GoodN Pr 46 (inlC k43n Tryz.f46) := (CxOK.baseN (Good.cons drop_good Good.nil) GoodI.nil (eqOK_none fun _ => rfl)).inlG (cx := k43n) Tryz.func46 (by kernel_rfl) (by kernel_rfl) rfl (by kernel_rfl)
theorem back_inl : GoodN Pr 53 (inlC k35n Tryz.f53) := (CxOK.baseN (Good.cons part_good (Good.cons cellsG_good Good.nil)) (GoodI.cons drop_inl GoodI.nil) (eqOK_none fun _ => rfl)).inlG (cx := k35n) Tryz.func53 (by kernel_rfl) (by kernel_rfl) rfl (by kernel_rfl)
theorem push_inl : GoodN Pr 44 (inlC k41n Tryz.f44) := (CxOK.baseN (Good.cons push_good Good.nil) (GoodI.cons back_inl GoodI.nil) (eqOK_none fun _ => rfl)).inlG (cx := k41n) Tryz.func44 (by kernel_rfl) (by kernel_rfl) rfl (by kernel_rfl)
noncomputable abbrev k10b : Cx := cxN Pr Tryz.f18 [(27, gMayHp), (40, gBegun), (52, gPush)] [(53, inlC k35n Tryz.f53)] (fun _ => false) (fun q => Nat.beq q 122)
end Go.Ab

namespace Go.Ab
open Go
open Go.Proofs
abbrev z28 : List CV := [.own 1 [], .own 2 [], .own 1 [], .own 1 [], .own 1 [], .own 1 []]
def slo (o : Bool) (sz : Nat) (l : List (List CV)) : CV := match o with
  | true => .own sz l
  | false => .sl sz l
def encW (fo po : Bool) (h : Hp) : List CV := [.sl 1 (encI h.w), slo po 2 (h.p.map encP), slo fo 1 (encI h.f.a), slo fo 1 (encI h.f.b), slo fo 1 (encI h.f.c), .sl 1 (encBs h.c)]
set_option maxRecDepth 100000 in
theorem t10ff (h : Hp) (n i : Int) (m : Nat) (β : Type) (K : Exit -> List CV -> List (List CV) -> Option β) : loopB k10b [4, 6, 44, 45] o10 p10 (bodyL (bodyOf Tryz.f18) p10) (m + 1) [.ref 0, .ref 1, cI.enc n, cI.enc i] [z28, encW false false h] K =
 bif decide (i < n) then
 Option.bind (rdE (List.map encP (Hp.p h)) i) fun c =>
 Option.bind c[0]? fun x =>
 Option.bind (asI IntKind.i64 x) fun n_1 =>
 Option.bind c[1]? fun x =>
 Option.bind (asI IntKind.i64 x) fun n_2 =>
 bif n_1 != 1 then loopB k10b [4, 6, 44, 45] o10 [false, true, false, true, true, true, true] (bodyL (bodyOf Tryz.f18) p10) m [CV.ref 0, CV.ref 1, CV.int IntKind.i64 n, CV.int IntKind.i64 (IntKind.wrap IntKind.i64 (i + 1))] [[CV.own 1 [], CV.own 2 [], CV.own 1 [], CV.own 1 [], CV.own 1 [], CV.own 1 []], [CV.sl 1 (encI (Hp.w h)), CV.sl 2 (List.map encP (Hp.p h)), CV.sl 1 (encI (Ls.a (Hp.f h))), CV.sl 1 (encI (Ls.b (Hp.f h))), CV.sl 1 (encI (Ls.c (Hp.f h))), CV.sl 1 (encBs (Hp.c h))]] fun a a_1 a_2 => K a a_1 a_2
 else
 Option.bind (Option.bind (decI (encI (Ls.a (Hp.f h)))) fun a =>
 Option.bind (decI (encI (Ls.b (Hp.f h)))) fun b =>
 Option.bind (decI (encI (Ls.c (Hp.f h)))) fun c => some { a := a, b := b, c := c }) fun a =>
 bif smL a && isC n_2 then
 bif (↑(List.length (encI (partOut a n_2 (IntKind.wrap IntKind.i64 (IntKind.wrap IntKind.i64 (i + 1) * 16)) (IntKind.wrap IntKind.i64 (IntKind.wrap IntKind.i64 (IntKind.wrap IntKind.i64 (i + 1) * 16) + 16))))) : Int) == cellsN n_2 then
 Option.bind (decP (List.map encP (Hp.p h))) fun a_1 =>
 bif sm a_1 then loopB k10b [4, 6, 44, 45] o10 [false, true, false, true, true, true, true] (bodyL (bodyOf Tryz.f18) p10) m [CV.ref 0, CV.ref 1, CV.int IntKind.i64 n, CV.int IntKind.i64 (IntKind.wrap IntKind.i64 (i + 1))] [[CV.own 1 [], CV.own 2 [], CV.own 1 [], CV.own 1 [], CV.own 1 [], CV.own 1 []], [CV.sl 1 (encI (Hp.w h)), CV.own 2 (List.map encP (Prod.snd (dropE a_1 i))), CV.sl 1 (encI (Ls.a (partL a n_2 (IntKind.wrap IntKind.i64 (IntKind.wrap IntKind.i64 (i + 1) * 16)) (IntKind.wrap IntKind.i64 (IntKind.wrap IntKind.i64 (IntKind.wrap IntKind.i64 (i + 1) * 16) + 16))))), CV.sl 1 (encI (Ls.b (partL a n_2 (IntKind.wrap IntKind.i64 (IntKind.wrap IntKind.i64 (i + 1) * 16)) (IntKind.wrap IntKind.i64 (IntKind.wrap IntKind.i64 (IntKind.wrap IntKind.i64 (i + 1) * 16) + 16))))), CV.sl 1 (encI (Ls.c (partL a n_2 (IntKind.wrap IntKind.i64 (IntKind.wrap IntKind.i64 (i + 1) * 16)) (IntKind.wrap IntKind.i64 (IntKind.wrap IntKind.i64 (IntKind.wrap IntKind.i64 (i + 1) * 16) + 16))))), CV.sl 1 (encBs (Hp.c h))]] fun a a_2 a_3 => K a a_2 a_3
 else none
 else loopB k10b [4, 6, 44, 45] o10 [false, true, false, true, true, true, true] (bodyL (bodyOf Tryz.f18) p10) m [CV.ref 0, CV.ref 1, CV.int IntKind.i64 n, CV.int IntKind.i64 (IntKind.wrap IntKind.i64 (i + 1))] [[CV.own 1 [], CV.own 2 [], CV.own 1 [], CV.own 1 [], CV.own 1 [], CV.own 1 []], [CV.sl 1 (encI (Hp.w h)), CV.sl 2 (List.map encP (Hp.p h)), CV.sl 1 (encI (Ls.a (Hp.f h))), CV.sl 1 (encI (Ls.b (Hp.f h))), CV.sl 1 (encI (Ls.c (Hp.f h))), CV.sl 1 (encBs (Hp.c h))]] fun a a_1 a_2 => K a a_1 a_2
 else none
 else
 K (Exit.exit 2) [CV.ref 0, CV.ref 1] [[CV.own 1 [], CV.own 2 [], CV.own 1 [], CV.own 1 [], CV.own 1 [], CV.own 1 []], [CV.sl 1 (encI (Hp.w h)), CV.sl 2 (List.map encP (Hp.p h)), CV.sl 1 (encI (Ls.a (Hp.f h))), CV.sl 1 (encI (Ls.b (Hp.f h))), CV.sl 1 (encI (Ls.c (Hp.f h))), CV.sl 1 (encBs (Hp.c h))]] := by kernel_rfl
set_option maxRecDepth 100000 in
theorem t10tf (h : Hp) (n i : Int) (m : Nat) (β : Type) (K : Exit -> List CV -> List (List CV) -> Option β) : loopB k10b [4, 6, 44, 45] o10 p10 (bodyL (bodyOf Tryz.f18) p10) (m + 1) [.ref 0, .ref 1, cI.enc n, cI.enc i] [z28, encW true false h] K =
 bif decide (i < n) then
 Option.bind (rdE (List.map encP (Hp.p h)) i) fun c =>
 Option.bind c[0]? fun x =>
 Option.bind (asI IntKind.i64 x) fun n_1 =>
 Option.bind c[1]? fun x =>
 Option.bind (asI IntKind.i64 x) fun n_2 =>
 bif n_1 != 1 then loopB k10b [4, 6, 44, 45] o10 [false, true, false, true, true, true, true] (bodyL (bodyOf Tryz.f18) p10) m [CV.ref 0, CV.ref 1, CV.int IntKind.i64 n, CV.int IntKind.i64 (IntKind.wrap IntKind.i64 (i + 1))] [[CV.own 1 [], CV.own 2 [], CV.own 1 [], CV.own 1 [], CV.own 1 [], CV.own 1 []], [CV.sl 1 (encI (Hp.w h)), CV.sl 2 (List.map encP (Hp.p h)), CV.own 1 (encI (Ls.a (Hp.f h))), CV.own 1 (encI (Ls.b (Hp.f h))), CV.own 1 (encI (Ls.c (Hp.f h))), CV.sl 1 (encBs (Hp.c h))]] fun a a_1 a_2 => K a a_1 a_2
 else
 Option.bind (Option.bind (decI (encI (Ls.a (Hp.f h)))) fun a =>
 Option.bind (decI (encI (Ls.b (Hp.f h)))) fun b =>
 Option.bind (decI (encI (Ls.c (Hp.f h)))) fun c => some { a := a, b := b, c := c }) fun a =>
 bif smL a && isC n_2 then
 bif (↑(List.length (encI (partOut a n_2 (IntKind.wrap IntKind.i64 (IntKind.wrap IntKind.i64 (i + 1) * 16)) (IntKind.wrap IntKind.i64 (IntKind.wrap IntKind.i64 (IntKind.wrap IntKind.i64 (i + 1) * 16) + 16))))) : Int) == cellsN n_2 then
 Option.bind (decP (List.map encP (Hp.p h))) fun a_1 =>
 bif sm a_1 then loopB k10b [4, 6, 44, 45] o10 [false, true, false, true, true, true, true] (bodyL (bodyOf Tryz.f18) p10) m [CV.ref 0, CV.ref 1, CV.int IntKind.i64 n, CV.int IntKind.i64 (IntKind.wrap IntKind.i64 (i + 1))] [[CV.own 1 [], CV.own 2 [], CV.own 1 [], CV.own 1 [], CV.own 1 [], CV.own 1 []], [CV.sl 1 (encI (Hp.w h)), CV.own 2 (List.map encP (Prod.snd (dropE a_1 i))), CV.own 1 (encI (Ls.a (partL a n_2 (IntKind.wrap IntKind.i64 (IntKind.wrap IntKind.i64 (i + 1) * 16)) (IntKind.wrap IntKind.i64 (IntKind.wrap IntKind.i64 (IntKind.wrap IntKind.i64 (i + 1) * 16) + 16))))), CV.own 1 (encI (Ls.b (partL a n_2 (IntKind.wrap IntKind.i64 (IntKind.wrap IntKind.i64 (i + 1) * 16)) (IntKind.wrap IntKind.i64 (IntKind.wrap IntKind.i64 (IntKind.wrap IntKind.i64 (i + 1) * 16) + 16))))), CV.own 1 (encI (Ls.c (partL a n_2 (IntKind.wrap IntKind.i64 (IntKind.wrap IntKind.i64 (i + 1) * 16)) (IntKind.wrap IntKind.i64 (IntKind.wrap IntKind.i64 (IntKind.wrap IntKind.i64 (i + 1) * 16) + 16))))), CV.sl 1 (encBs (Hp.c h))]] fun a a_2 a_3 => K a a_2 a_3
 else none
 else loopB k10b [4, 6, 44, 45] o10 [false, true, false, true, true, true, true] (bodyL (bodyOf Tryz.f18) p10) m [CV.ref 0, CV.ref 1, CV.int IntKind.i64 n, CV.int IntKind.i64 (IntKind.wrap IntKind.i64 (i + 1))] [[CV.own 1 [], CV.own 2 [], CV.own 1 [], CV.own 1 [], CV.own 1 [], CV.own 1 []], [CV.sl 1 (encI (Hp.w h)), CV.sl 2 (List.map encP (Hp.p h)), CV.sl 1 (encI (Ls.a (Hp.f h))), CV.sl 1 (encI (Ls.b (Hp.f h))), CV.sl 1 (encI (Ls.c (Hp.f h))), CV.sl 1 (encBs (Hp.c h))]] fun a a_1 a_2 => K a a_1 a_2
 else none
 else
 K (Exit.exit 2) [CV.ref 0, CV.ref 1] [[CV.own 1 [], CV.own 2 [], CV.own 1 [], CV.own 1 [], CV.own 1 [], CV.own 1 []], [CV.sl 1 (encI (Hp.w h)), CV.sl 2 (List.map encP (Hp.p h)), CV.own 1 (encI (Ls.a (Hp.f h))), CV.own 1 (encI (Ls.b (Hp.f h))), CV.own 1 (encI (Ls.c (Hp.f h))), CV.sl 1 (encBs (Hp.c h))]] := by kernel_rfl
set_option maxRecDepth 100000 in
theorem t10ft (h : Hp) (n i : Int) (m : Nat) (β : Type) (K : Exit -> List CV -> List (List CV) -> Option β) : loopB k10b [4, 6, 44, 45] o10 p10 (bodyL (bodyOf Tryz.f18) p10) (m + 1) [.ref 0, .ref 1, cI.enc n, cI.enc i] [z28, encW false true h] K =
 bif decide (i < n) then
 if 0 <= i /\ i < (↑(List.length (List.map encP (Hp.p h))) : Int) then
 Option.bind (List.map encP (Hp.p h))[Int.toNat i]? fun e =>
 Option.bind e[0]? fun x =>
 Option.bind (asI IntKind.i64 x) fun n_1 =>
 Option.bind e[1]? fun x =>
 Option.bind (asI IntKind.i64 x) fun n_2 =>
 bif n_1 != 1 then loopB k10b [4, 6, 44, 45] o10 [false, true, false, true, true, true, true] (bodyL (bodyOf Tryz.f18) p10) m [CV.ref 0, CV.ref 1, CV.int IntKind.i64 n, CV.int IntKind.i64 (IntKind.wrap IntKind.i64 (i + 1))] [[CV.own 1 [], CV.own 2 [], CV.own 1 [], CV.own 1 [], CV.own 1 [], CV.own 1 []], [CV.sl 1 (encI (Hp.w h)), CV.own 2 (List.map encP (Hp.p h)), CV.sl 1 (encI (Ls.a (Hp.f h))), CV.sl 1 (encI (Ls.b (Hp.f h))), CV.sl 1 (encI (Ls.c (Hp.f h))), CV.sl 1 (encBs (Hp.c h))]] fun a a_1 a_2 => K a a_1 a_2
 else
 Option.bind (Option.bind (decI (encI (Ls.a (Hp.f h)))) fun a =>
 Option.bind (decI (encI (Ls.b (Hp.f h)))) fun b =>
 Option.bind (decI (encI (Ls.c (Hp.f h)))) fun c => some { a := a, b := b, c := c }) fun a =>
 bif smL a && isC n_2 then
 bif (↑(List.length (encI (partOut a n_2 (IntKind.wrap IntKind.i64 (IntKind.wrap IntKind.i64 (i + 1) * 16)) (IntKind.wrap IntKind.i64 (IntKind.wrap IntKind.i64 (IntKind.wrap IntKind.i64 (i + 1) * 16) + 16))))) : Int) == cellsN n_2 then
 Option.bind (decP (List.map encP (Hp.p h))) fun a_1 =>
 bif sm a_1 then loopB k10b [4, 6, 44, 45] o10 [false, true, false, true, true, true, true] (bodyL (bodyOf Tryz.f18) p10) m [CV.ref 0, CV.ref 1, CV.int IntKind.i64 n, CV.int IntKind.i64 (IntKind.wrap IntKind.i64 (i + 1))] [[CV.own 1 [], CV.own 2 [], CV.own 1 [], CV.own 1 [], CV.own 1 [], CV.own 1 []], [CV.sl 1 (encI (Hp.w h)), CV.own 2 (List.map encP (Prod.snd (dropE a_1 i))), CV.sl 1 (encI (Ls.a (partL a n_2 (IntKind.wrap IntKind.i64 (IntKind.wrap IntKind.i64 (i + 1) * 16)) (IntKind.wrap IntKind.i64 (IntKind.wrap IntKind.i64 (IntKind.wrap IntKind.i64 (i + 1) * 16) + 16))))), CV.sl 1 (encI (Ls.b (partL a n_2 (IntKind.wrap IntKind.i64 (IntKind.wrap IntKind.i64 (i + 1) * 16)) (IntKind.wrap IntKind.i64 (IntKind.wrap IntKind.i64 (IntKind.wrap IntKind.i64 (i + 1) * 16) + 16))))), CV.sl 1 (encI (Ls.c (partL a n_2 (IntKind.wrap IntKind.i64 (IntKind.wrap IntKind.i64 (i + 1) * 16)) (IntKind.wrap IntKind.i64 (IntKind.wrap IntKind.i64 (IntKind.wrap IntKind.i64 (i + 1) * 16) + 16))))), CV.sl 1 (encBs (Hp.c h))]] fun a a_2 a_3 => K a a_2 a_3
 else none
 else loopB k10b [4, 6, 44, 45] o10 [false, true, false, true, true, true, true] (bodyL (bodyOf Tryz.f18) p10) m [CV.ref 0, CV.ref 1, CV.int IntKind.i64 n, CV.int IntKind.i64 (IntKind.wrap IntKind.i64 (i + 1))] [[CV.own 1 [], CV.own 2 [], CV.own 1 [], CV.own 1 [], CV.own 1 [], CV.own 1 []], [CV.sl 1 (encI (Hp.w h)), CV.own 2 (List.map encP (Hp.p h)), CV.sl 1 (encI (Ls.a (Hp.f h))), CV.sl 1 (encI (Ls.b (Hp.f h))), CV.sl 1 (encI (Ls.c (Hp.f h))), CV.sl 1 (encBs (Hp.c h))]] fun a a_1 a_2 => K a a_1 a_2
 else none
 else none
 else
 K (Exit.exit 2) [CV.ref 0, CV.ref 1] [[CV.own 1 [], CV.own 2 [], CV.own 1 [], CV.own 1 [], CV.own 1 [], CV.own 1 []], [CV.sl 1 (encI (Hp.w h)), CV.own 2 (List.map encP (Hp.p h)), CV.sl 1 (encI (Ls.a (Hp.f h))), CV.sl 1 (encI (Ls.b (Hp.f h))), CV.sl 1 (encI (Ls.c (Hp.f h))), CV.sl 1 (encBs (Hp.c h))]] := by kernel_rfl
set_option maxRecDepth 100000 in
theorem t10tt (h : Hp) (n i : Int) (m : Nat) (β : Type) (K : Exit -> List CV -> List (List CV) -> Option β) : loopB k10b [4, 6, 44, 45] o10 p10 (bodyL (bodyOf Tryz.f18) p10) (m + 1) [.ref 0, .ref 1, cI.enc n, cI.enc i] [z28, encW true true h] K =
 bif decide (i < n) then
 if 0 <= i /\ i < (↑(List.length (List.map encP (Hp.p h))) : Int) then
 Option.bind (List.map encP (Hp.p h))[Int.toNat i]? fun e =>
 Option.bind e[0]? fun x =>
 Option.bind (asI IntKind.i64 x) fun n_1 =>
 Option.bind e[1]? fun x =>
 Option.bind (asI IntKind.i64 x) fun n_2 =>
 bif n_1 != 1 then loopB k10b [4, 6, 44, 45] o10 [false, true, false, true, true, true, true] (bodyL (bodyOf Tryz.f18) p10) m [CV.ref 0, CV.ref 1, CV.int IntKind.i64 n, CV.int IntKind.i64 (IntKind.wrap IntKind.i64 (i + 1))] [[CV.own 1 [], CV.own 2 [], CV.own 1 [], CV.own 1 [], CV.own 1 [], CV.own 1 []], [CV.sl 1 (encI (Hp.w h)), CV.own 2 (List.map encP (Hp.p h)), CV.own 1 (encI (Ls.a (Hp.f h))), CV.own 1 (encI (Ls.b (Hp.f h))), CV.own 1 (encI (Ls.c (Hp.f h))), CV.sl 1 (encBs (Hp.c h))]] fun a a_1 a_2 => K a a_1 a_2
 else
 Option.bind (Option.bind (decI (encI (Ls.a (Hp.f h)))) fun a =>
 Option.bind (decI (encI (Ls.b (Hp.f h)))) fun b =>
 Option.bind (decI (encI (Ls.c (Hp.f h)))) fun c => some { a := a, b := b, c := c }) fun a =>
 bif smL a && isC n_2 then
 bif (↑(List.length (encI (partOut a n_2 (IntKind.wrap IntKind.i64 (IntKind.wrap IntKind.i64 (i + 1) * 16)) (IntKind.wrap IntKind.i64 (IntKind.wrap IntKind.i64 (IntKind.wrap IntKind.i64 (i + 1) * 16) + 16))))) : Int) == cellsN n_2 then
 Option.bind (decP (List.map encP (Hp.p h))) fun a_1 =>
 bif sm a_1 then loopB k10b [4, 6, 44, 45] o10 [false, true, false, true, true, true, true] (bodyL (bodyOf Tryz.f18) p10) m [CV.ref 0, CV.ref 1, CV.int IntKind.i64 n, CV.int IntKind.i64 (IntKind.wrap IntKind.i64 (i + 1))] [[CV.own 1 [], CV.own 2 [], CV.own 1 [], CV.own 1 [], CV.own 1 [], CV.own 1 []], [CV.sl 1 (encI (Hp.w h)), CV.own 2 (List.map encP (Prod.snd (dropE a_1 i))), CV.own 1 (encI (Ls.a (partL a n_2 (IntKind.wrap IntKind.i64 (IntKind.wrap IntKind.i64 (i + 1) * 16)) (IntKind.wrap IntKind.i64 (IntKind.wrap IntKind.i64 (IntKind.wrap IntKind.i64 (i + 1) * 16) + 16))))), CV.own 1 (encI (Ls.b (partL a n_2 (IntKind.wrap IntKind.i64 (IntKind.wrap IntKind.i64 (i + 1) * 16)) (IntKind.wrap IntKind.i64 (IntKind.wrap IntKind.i64 (IntKind.wrap IntKind.i64 (i + 1) * 16) + 16))))), CV.own 1 (encI (Ls.c (partL a n_2 (IntKind.wrap IntKind.i64 (IntKind.wrap IntKind.i64 (i + 1) * 16)) (IntKind.wrap IntKind.i64 (IntKind.wrap IntKind.i64 (IntKind.wrap IntKind.i64 (i + 1) * 16) + 16))))), CV.sl 1 (encBs (Hp.c h))]] fun a a_2 a_3 => K a a_2 a_3
 else none
 else loopB k10b [4, 6, 44, 45] o10 [false, true, false, true, true, true, true] (bodyL (bodyOf Tryz.f18) p10) m [CV.ref 0, CV.ref 1, CV.int IntKind.i64 n, CV.int IntKind.i64 (IntKind.wrap IntKind.i64 (i + 1))] [[CV.own 1 [], CV.own 2 [], CV.own 1 [], CV.own 1 [], CV.own 1 [], CV.own 1 []], [CV.sl 1 (encI (Hp.w h)), CV.own 2 (List.map encP (Hp.p h)), CV.sl 1 (encI (Ls.a (Hp.f h))), CV.sl 1 (encI (Ls.b (Hp.f h))), CV.sl 1 (encI (Ls.c (Hp.f h))), CV.sl 1 (encBs (Hp.c h))]] fun a a_1 a_2 => K a a_1 a_2
 else none
 else none
 else
 K (Exit.exit 2) [CV.ref 0, CV.ref 1] [[CV.own 1 [], CV.own 2 [], CV.own 1 [], CV.own 1 [], CV.own 1 [], CV.own 1 []], [CV.sl 1 (encI (Hp.w h)), CV.own 2 (List.map encP (Hp.p h)), CV.own 1 (encI (Ls.a (Hp.f h))), CV.own 1 (encI (Ls.b (Hp.f h))), CV.own 1 (encI (Ls.c (Hp.f h))), CV.sl 1 (encBs (Hp.c h))]] := by kernel_rfl
def loE (i : Nat) : Int := ((i + 1 : Nat) : Int) * 16
def hitE (h : Hp) (i : Nat) : Bool := match h.p[i]? with
  | some p => p.1 == 1 && (((partOut h.f p.2 (loE i) (loE i + 16)).length : Int) == cellsN p.2)
  | none => false
def backH (h : Hp) (i : Nat) : Hp := bif hitE h i then { h with p := h.p.set i (0, 0), f := partL h.f (h.p.getD i (0, 0)).2 (loE i) (loE i + 16) } else h
def isSm (h : Hp) (i : Nat) : Bool := match h.p[i]? with
  | some p => p.1 == 1
  | none => false
def backFo (h : Hp) (i : Nat) (fo : Bool) : Bool := bif isSm h i then (bif hitE h i then fo else false) else fo
def backPo (h : Hp) (i : Nat) (po : Bool) : Bool := bif hitE h i then true else po
theorem small_drop {ps : List Pg} {i : Nat} {c : Int} (hm : may ps = true) (hi : ps[i]? = some (1, c)) : dropE ps (i : Int) = (0, ps.set i (0, 0)) /\ may (ps.set i (0, 0)) = true /\ isC c = true := by
  obtain ⟨hlt, hg⟩ := List.getElem?_eq_some_iff.1 hi
  have e1 : ps = ps.take i ++ [(1, c)] ++ ps.drop (i + 1) := by
    rw [List.append_assoc, <- hg]
    simp
  have e2 : ps.set i (0, 0) = ps.take i ++ [(0, 0)] ++ ps.drop (i + 1) := by
    rw [List.set_eq_take_append_cons_drop, if_pos hlt]
    simp
  have hl : (ps.take i).length = i := by simp; omega
  have h1 := drop_parts (X := ps.take i) (Y := [(1, c)]) (Z := ps.drop (i + 1)) (p := (1, c)) rfl (.inl rfl) rfl (by rw [<- e1]; exact hm)
  rw [<- e1, hl] at h1
  have h0 := may_go0 hm
  rw [e1, mayGo_append, mayGo_append] at h0
  replace h0 := bind_some' h0
  obtain ⟨r1, h0, h2⟩ := h0
  replace h0 := bind_some' h0
  obtain ⟨r2, h0, h3⟩ := h0
  have h4 : (cond (!(cond (decide (c >= 0)) (decide (c <= 2)) false)) none (cond (decide (r2 > 0)) none (some r2))) = some r1 := h3
  have h5 : decide (c >= 0) = true /\ decide (c <= 2) = true /\ decide (r2 > 0) = false /\ r2 = r1 := by
    cases q1 : decide (c >= 0) with
    | false => rw [q1] at h4; cases h4
    | true =>
      cases q2 : decide (c <= 2) with
      | false => rw [q1, q2] at h4; cases h4
      | true =>
        cases q3 : decide (r2 > 0) with
        | true => rw [q1, q2, q3] at h4; cases h4
        | false => rw [q1, q2, q3] at h4; injection h4 with h4; exact ⟨rfl, rfl, rfl, h4⟩
  obtain ⟨q1, q2, q3, rfl⟩ := h5
  have hc : c >= 0 /\ c <= 2 := ⟨of_decide_eq_true q1, of_decide_eq_true q2⟩
  obtain ⟨hl1, hl2⟩ := may_len hm
  refine ⟨?_, go_may (by simp; omega) (by simp; omega) ?_, ?_⟩
  . rw [h1, e2]; rfl
  . rw [e2, mayGo_append, mayGo_append, h0]
    have h6 : mayGo r2 [(0, 0)] = (cond (decide (r2 > 0)) none (some r2)) := rfl
    rw [Option.bind_some, h6, q3]
    exact h2
  . unfold isC
    rw [q1, decide_eq_true (by omega)]; rfl
theorem smL_part {l : Ls} {c lo hi : Int} (h : smL l = true) : smL (partL l c lo hi) = true := by
  obtain ⟨h1, h2, h3⟩ := smL_le h
  have hf : ∀ (xs : List Int) (q : Int -> Bool), xs.length <= 100000 -> (xs.filter q).length <= 100000 := fun xs q hx => Nat.le_trans (List.length_filter_le _ _) hx
  have key : ∀ a b c : List Int, a.length <= 100000 -> b.length <= 100000 -> c.length <= 100000 -> smL ⟨a, b, c⟩ = true := fun a b c ha hb hc => by
    simp only [smL, Nat.ble_eq_true_of_le ha, Nat.ble_eq_true_of_le hb, Nat.ble_eq_true_of_le hc, Bool.and_self]
  unfold partL
  match c.toNat with
  | 0 => exact key _ _ _ (hf _ _ h1) h2 h3
  | 1 => exact key _ _ _ h1 (hf _ _ h2) h3
  | k + 2 => exact key _ _ _ h1 h2 (hf _ _ h3)
def okW (h : Hp) : Bool := may h.p && smL h.f
theorem back_ok {h : Hp} (hh : okW h = true) (i : Nat) : okW (backH h i) = true /\ (backH h i).p.length = h.p.length := by
  unfold backH
  cases hb : hitE h i with
  | false => exact ⟨hh, rfl⟩
  | true =>
    simp only [okW, Bool.and_eq_true] at hh
    unfold hitE at hb
    cases hp : h.p[i]? with
    | none => rw [hp] at hb; cases hb
    | some p =>
      obtain ⟨k, c⟩ := p
      rw [hp] at hb
      simp only [Bool.and_eq_true, beq_iff_eq] at hb
      obtain ⟨rfl, _⟩ := hb
      obtain ⟨_, q2, _⟩ := small_drop hh.1 hp
      refine ⟨?_, by simp [cond_true]⟩
      rw [cond_true]
      show (may (h.p.set i (0, 0)) && smL (partL h.f _ _ _)) = true
      rw [q2, smL_part hh.2]; rfl
theorem asI_1 (n : Int) : asI .i64 (.int .i64 n) = some n := by simp [asI]
theorem round10 (h : Hp) (fo po : Bool) (i m : Nat) (hh : okW h = true) (hi : i < h.p.length) (β : Type) (K : Exit -> List CV -> List (List CV) -> Option β) :
    loopB k10b [4, 6, 44, 45] o10 p10 (bodyL (bodyOf Tryz.f18) p10) (m + 1) [.ref 0, .ref 1, cI.enc (h.p.length : Int), cI.enc (i : Int)] [z28, encW fo po h] K =
      loopB k10b [4, 6, 44, 45] o10 p10 (bodyL (bodyOf Tryz.f18) p10) m [.ref 0, .ref 1, cI.enc (h.p.length : Int), cI.enc ((i + 1 : Nat) : Int)] [z28, encW (backFo h i fo) (backPo h i po) (backH h i)] K := by
  simp only [okW, Bool.and_eq_true] at hh
  obtain ⟨hm, hsl⟩ := hh
  obtain ⟨hl1, hl2⟩ := may_len hm
  have hsm : sm h.p = true := Nat.ble_eq_true_of_le (by omega)
  have e : (⟨h.f.a, h.f.b, h.f.c⟩ : Ls) = h.f := rfl
  obtain ⟨p, hp⟩ : ∃ p, h.p[i]? = some p := ⟨h.p[i], by simp [hi]⟩
  have hin : (0 : Int) <= (i : Int) /\ (i : Int) < ((List.length (List.map encP (Hp.p h)) : Nat) : Int) := by rw [List.length_map]; omega
  have e0 : (List.map encP (Hp.p h))[Int.toNat (i : Int)]? = some (encP p) := by simp [hp]
  have g0 : (encP p)[0]? = some (.int .i64 p.1) := rfl
  have g1 : (encP p)[1]? = some (.int .i64 p.2) := rfl
  have w1 : IntKind.i64.wrap ((i : Int) + 1) = ((i + 1 : Nat) : Int) := by rw [wrap_in (by omega)]; omega
  have w2 : IntKind.i64.wrap (((i + 1 : Nat) : Int) * 16) = loE i := wrap_in (by omega)
  have w3 : IntKind.i64.wrap (loE i + 16) = loE i + 16 := wrap_in (by unfold loE; omega)
  cases fo <;> cases po
  . rw [t10ff, decide_eq_true (by omega), cond_true]
    simp only [rdE_nat (show (0 : Int) <= (i : Int) by omega), e0, Option.bind_some, g0, g1, asI_1, w1, w2, w3, decI_map, decP_map, e]
    cases hk : (p.1 != 1) with
    | true =>
      have hk1 : (p.1 == 1) = false := by simpa [bne] using hk
      have hh1 : hitE h i = false := by unfold hitE; rw [hp]; simp only [hk1, Bool.false_and]
      have hh2 : isSm h i = false := by unfold isSm; rw [hp]; exact hk1
      rw [cond_true]
      unfold backFo backPo backH
      rw [hh1, hh2]
      rfl
    | false =>
      have hk1 : (p.1 == 1) = true := by simpa [bne] using hk
      have hk2 : p.1 = 1 := by simpa using hk1
      have hp' : h.p[i]? = some (1, p.2) := by rw [hp, <- hk2]
      obtain ⟨q1, _, q3⟩ := small_drop hm hp'
      have hh2 : isSm h i = true := by unfold isSm; rw [hp]; exact hk1
      simp only [cond_false, hsl, q3, Bool.and_self, cond_true, encI_len]
      have hh3 : hitE h i = (((partOut h.f p.2 (loE i) (loE i + 16)).length : Int) == cellsN p.2) := by unfold hitE; rw [hp]; simp only [hk1, Bool.true_and]
      have hgd : h.p.getD i (0, 0) = p := by rw [List.getD_eq_getElem?_getD, hp]; rfl
      cases hb : (((partOut h.f p.2 (loE i) (loE i + 16)).length : Int) == cellsN p.2) with
      | true =>
        unfold backFo backPo backH
        rw [hh2, hh3, hb, hgd]
        simp only [cond_true, hsm, q1]
        rfl
      | false =>
        unfold backFo backPo backH
        rw [hh2, hh3, hb]
        rfl
  . rw [t10ft, decide_eq_true (by omega), cond_true]
    simp only [if_pos hin, e0, Option.bind_some, g0, g1, asI_1, w1, w2, w3, decI_map, decP_map, e]
    cases hk : (p.1 != 1) with
    | true =>
      have hk1 : (p.1 == 1) = false := by simpa [bne] using hk
      have hh1 : hitE h i = false := by unfold hitE; rw [hp]; simp only [hk1, Bool.false_and]
      have hh2 : isSm h i = false := by unfold isSm; rw [hp]; exact hk1
      rw [cond_true]
      unfold backFo backPo backH
      rw [hh1, hh2]
      rfl
    | false =>
      have hk1 : (p.1 == 1) = true := by simpa [bne] using hk
      have hk2 : p.1 = 1 := by simpa using hk1
      have hp' : h.p[i]? = some (1, p.2) := by rw [hp, <- hk2]
      obtain ⟨q1, _, q3⟩ := small_drop hm hp'
      have hh2 : isSm h i = true := by unfold isSm; rw [hp]; exact hk1
      simp only [cond_false, hsl, q3, Bool.and_self, cond_true, encI_len]
      have hh3 : hitE h i = (((partOut h.f p.2 (loE i) (loE i + 16)).length : Int) == cellsN p.2) := by unfold hitE; rw [hp]; simp only [hk1, Bool.true_and]
      have hgd : h.p.getD i (0, 0) = p := by rw [List.getD_eq_getElem?_getD, hp]; rfl
      cases hb : (((partOut h.f p.2 (loE i) (loE i + 16)).length : Int) == cellsN p.2) with
      | true =>
        unfold backFo backPo backH
        rw [hh2, hh3, hb, hgd]
        simp only [cond_true, hsm, q1]
        rfl
      | false =>
        unfold backFo backPo backH
        rw [hh2, hh3, hb]
        rfl
  . rw [t10tf, decide_eq_true (by omega), cond_true]
    simp only [rdE_nat (show (0 : Int) <= (i : Int) by omega), e0, Option.bind_some, g0, g1, asI_1, w1, w2, w3, decI_map, decP_map, e]
    cases hk : (p.1 != 1) with
    | true =>
      have hk1 : (p.1 == 1) = false := by simpa [bne] using hk
      have hh1 : hitE h i = false := by unfold hitE; rw [hp]; simp only [hk1, Bool.false_and]
      have hh2 : isSm h i = false := by unfold isSm; rw [hp]; exact hk1
      rw [cond_true]
      unfold backFo backPo backH
      rw [hh1, hh2]
      rfl
    | false =>
      have hk1 : (p.1 == 1) = true := by simpa [bne] using hk
      have hk2 : p.1 = 1 := by simpa using hk1
      have hp' : h.p[i]? = some (1, p.2) := by rw [hp, <- hk2]
      obtain ⟨q1, _, q3⟩ := small_drop hm hp'
      have hh2 : isSm h i = true := by unfold isSm; rw [hp]; exact hk1
      simp only [cond_false, hsl, q3, Bool.and_self, cond_true, encI_len]
      have hh3 : hitE h i = (((partOut h.f p.2 (loE i) (loE i + 16)).length : Int) == cellsN p.2) := by unfold hitE; rw [hp]; simp only [hk1, Bool.true_and]
      have hgd : h.p.getD i (0, 0) = p := by rw [List.getD_eq_getElem?_getD, hp]; rfl
      cases hb : (((partOut h.f p.2 (loE i) (loE i + 16)).length : Int) == cellsN p.2) with
      | true =>
        unfold backFo backPo backH
        rw [hh2, hh3, hb, hgd]
        simp only [cond_true, hsm, q1]
        rfl
      | false =>
        unfold backFo backPo backH
        rw [hh2, hh3, hb]
        rfl
  . rw [t10tt, decide_eq_true (by omega), cond_true]
    simp only [if_pos hin, e0, Option.bind_some, g0, g1, asI_1, w1, w2, w3, decI_map, decP_map, e]
    cases hk : (p.1 != 1) with
    | true =>
      have hk1 : (p.1 == 1) = false := by simpa [bne] using hk
      have hh1 : hitE h i = false := by unfold hitE; rw [hp]; simp only [hk1, Bool.false_and]
      have hh2 : isSm h i = false := by unfold isSm; rw [hp]; exact hk1
      rw [cond_true]
      unfold backFo backPo backH
      rw [hh1, hh2]
      rfl
    | false =>
      have hk1 : (p.1 == 1) = true := by simpa [bne] using hk
      have hk2 : p.1 = 1 := by simpa using hk1
      have hp' : h.p[i]? = some (1, p.2) := by rw [hp, <- hk2]
      obtain ⟨q1, _, q3⟩ := small_drop hm hp'
      have hh2 : isSm h i = true := by unfold isSm; rw [hp]; exact hk1
      simp only [cond_false, hsl, q3, Bool.and_self, cond_true, encI_len]
      have hh3 : hitE h i = (((partOut h.f p.2 (loE i) (loE i + 16)).length : Int) == cellsN p.2) := by unfold hitE; rw [hp]; simp only [hk1, Bool.true_and]
      have hgd : h.p.getD i (0, 0) = p := by rw [List.getD_eq_getElem?_getD, hp]; rfl
      cases hb : (((partOut h.f p.2 (loE i) (loE i + 16)).length : Int) == cellsN p.2) with
      | true =>
        unfold backFo backPo backH
        rw [hh2, hh3, hb, hgd]
        simp only [cond_true, hsm, q1]
        rfl
      | false =>
        unfold backFo backPo backH
        rw [hh2, hh3, hb]
        rfl
end Go.Ab

namespace Go.Ab
open Go
open Go.Proofs
def backs : Nat -> Nat -> Hp -> Hp
  | 0, _, h => h
  | m + 1, i, h => backs m (i + 1) (backH h i)
def backsS : Nat -> Nat -> Bool × Bool × Hp -> Bool × Bool × Hp
  | 0, _, s => s
  | m + 1, i, s => backsS m (i + 1) (backFo s.2.2 i s.1, backPo s.2.2 i s.2.1, backH s.2.2 i)
theorem backsS_h : ∀ (m i : Nat) (s : Bool × Bool × Hp), (backsS m i s).2.2 = backs m i s.2.2
  | 0, _, _ => rfl
  | m + 1, i, s => backsS_h m (i + 1) _
def decW (w p a b c d : List (List CV)) : Option Hp := (decI w).bind fun w => (decP p).bind fun p => (decI a).bind fun a => (decI b).bind fun b => (decI c).bind fun c => (decBs d).bind fun d => some ⟨w, p, ⟨a, b, c⟩, d⟩
theorem decW_enc (h : Hp) : decW (encI h.w) (h.p.map encP) (encI h.f.a) (encI h.f.b) (encI h.f.c) (encBs h.c) = some h := by
  simp [decW]
theorem decW_ok {w p a b c d : List (List CV)} {h : Hp} (e : decW w p a b c d = some h) : w = encI h.w /\ p = h.p.map encP /\ a = encI h.f.a /\ b = encI h.f.b /\ c = encI h.f.c /\ d = encBs h.c := by
  unfold decW at e
  replace e := bind_some' e
  obtain ⟨w', h1, e⟩ := e
  replace e := bind_some' e
  obtain ⟨p', h2, e⟩ := e
  replace e := bind_some' e
  obtain ⟨a', h3, e⟩ := e
  replace e := bind_some' e
  obtain ⟨b', h4, e⟩ := e
  replace e := bind_some' e
  obtain ⟨c', h5, e⟩ := e
  replace e := bind_some' e
  obtain ⟨d', h6, e⟩ := e
  cases e
  exact ⟨decI_enc h1, decP_enc h2, decI_enc h3, decI_enc h4, decI_enc h5, decBs_ok h6⟩
def cWB : CodB (Bool × Bool × Hp) where
  enc := fun s => [z28, encW s.1 s.2.1 s.2.2]
  dec := fun c => match c with
    | [[.own 1 [], .own 2 [], .own 1 [], .own 1 [], .own 1 [], .own 1 []], [.sl 1 w, .sl 2 p, .sl 1 a, .sl 1 b, .sl 1 c, .sl 1 d]] => (decW w p a b c d).bind fun h => some (false, false, h)
    | [[.own 1 [], .own 2 [], .own 1 [], .own 1 [], .own 1 [], .own 1 []], [.sl 1 w, .sl 2 p, .own 1 a, .own 1 b, .own 1 c, .sl 1 d]] => (decW w p a b c d).bind fun h => some (true, false, h)
    | [[.own 1 [], .own 2 [], .own 1 [], .own 1 [], .own 1 [], .own 1 []], [.sl 1 w, .own 2 p, .sl 1 a, .sl 1 b, .sl 1 c, .sl 1 d]] => (decW w p a b c d).bind fun h => some (false, true, h)
    | [[.own 1 [], .own 2 [], .own 1 [], .own 1 [], .own 1 [], .own 1 []], [.sl 1 w, .own 2 p, .own 1 a, .own 1 b, .own 1 c, .sl 1 d]] => (decW w p a b c d).bind fun h => some (true, true, h)
    | _ => none
  ok := fun c s e => by
    split at e
    all_goals first | (cases e; done) | skip
    all_goals
      replace e := bind_some' e
      obtain ⟨h, h1, e⟩ := e
      cases e
      obtain ⟨rfl, rfl, rfl, rfl, rfl, rfl⟩ := decW_ok h1
      rfl
  de := fun s => by
    obtain ⟨fo, po, h⟩ := s
    cases fo <;> cases po <;> (show (decW _ _ _ _ _ _).bind _ = _) <;> rw [decW_enc] <;> rfl
theorem flush_loop (β : Type) (K : Exit -> List CV -> List (List CV) -> Option β) : ∀ (m i : Nat) (s : Bool × Bool × Hp), okW s.2.2 = true -> i + m = s.2.2.p.length ->
    loopB k10b [4, 6, 44, 45] o10 p10 (bodyL (bodyOf Tryz.f18) p10) (m + 1) [.ref 0, .ref 1, cI.enc (s.2.2.p.length : Int), cI.enc (i : Int)] (cWB.enc s) K = K (.exit 2) [.ref 0, .ref 1] (cWB.enc (backsS m i s)) := by
  intro m
  induction m with
  | zero =>
    intro i s _ h1
    obtain ⟨fo, po, h⟩ := s
    have hi : decide ((i : Int) < (h.p.length : Int)) = false := decide_eq_false (by simp at h1; omega)
    show loopB k10b _ _ _ _ _ [.ref 0, .ref 1, cI.enc (h.p.length : Int), cI.enc (i : Int)] [z28, encW fo po h] K = _
    cases fo <;> cases po
    . rw [t10ff, hi]; rfl
    . rw [t10ft, hi]; rfl
    . rw [t10tf, hi]; rfl
    . rw [t10tt, hi]; rfl
  | succ m ih =>
    intro i s hk h1
    obtain ⟨fo, po, h⟩ := s
    obtain ⟨b1, b2⟩ := back_ok hk i
    have := round10 h fo po i (m + 1) hk (by have h1 : i + (m + 1) = h.p.length := h1; omega) β K
    refine this.trans ?_
    have h2 := ih (i + 1) (backFo h i fo, backPo h i po, backH h i) b1 (by show i + 1 + m = (backH h i).p.length; have h1 : i + (m + 1) = h.p.length := h1; rw [b2]; omega)
    rw [show ((backFo h i fo, backPo h i po, backH h i).2.2.p.length : Int) = (h.p.length : Int) by simp only; rw [b2]] at h2
    exact h2
def outW (s : Bool × Bool × Hp) : Out := .alt s.1 (.alt s.2.1 (.one (.exit 2) [.ref 0, .ref 1] [z28, encW true true s.2.2]) (.one (.exit 2) [.ref 0, .ref 1] [z28, encW true false s.2.2]))
  (.alt s.2.1 (.one (.exit 2) [.ref 0, .ref 1] [z28, encW false true s.2.2]) (.one (.exit 2) [.ref 0, .ref 1] [z28, encW false false s.2.2]))
theorem outW_run (s : Bool × Bool × Hp) (β : Type) (K : Exit -> List CV -> List (List CV) -> Option β) : (outW s).run K = K (.exit 2) [.ref 0, .ref 1] (cWB.enc s) := by
  obtain ⟨fo, po, h⟩ := s
  cases fo <;> cases po <;> rfl
def L10 : LoopSem := l4 [4, 6, 44, 45] o10 (cRef 0) (cRef 1) cI cI cWB (fun _ _ n i s => okW s.2.2 && (i == 0 && n == (s.2.2.p.length : Int)))
  fun _ _ _ _ s => outW (backsS s.2.2.p.length 0 s)
noncomputable abbrev k10 : Cx := k10b.loop p10 L10
theorem k10_ok : CxOK k10 [(27, gMayHp), (40, gBegun), (52, gPush)] := by
  refine CxOK.loop4 (CxOK.baseN (Good.cons mayHp_good (Good.cons begun_good (Good.cons push_good Good.nil))) (GoodI.cons back_inl GoodI.nil) (eqOK_none fun _ => rfl)) rfl fun a b n i s hp => ?_
  simp only [Bool.and_eq_true, beq_iff_eq] at hp
  obtain ⟨hk, hi, hn⟩ := hp
  subst hi hn
  exact ⟨s.2.2.p.length + 1, fun β K => (flush_loop β K s.2.2.p.length 0 s hk (by omega)).trans (outW_run _ β K).symm⟩
set_option maxRecDepth 100000 in
theorem r10 (h : Hp) (l : Ls) (β : Type) (K : CV -> List (List CV) -> Option β) : fnK k10 Tryz.f18 [cHp.enc h, cLs.enc l] [] K =
 Option.bind (Option.bind (decI (encI (Hp.w h))) fun w =>
 Option.bind (decP (List.map encP (Hp.p h))) fun p =>
 Option.bind (decI (encI (Ls.a (Hp.f h)))) fun a =>
 Option.bind (decI (encI (Ls.b (Hp.f h)))) fun b =>
 Option.bind (decI (encI (Ls.c (Hp.f h)))) fun c =>
 Option.bind (decBs (encBs (Hp.c h))) fun d => some { w := w, p := p, f := { a := a, b := b, c := c }, c := d }) fun a =>
 Option.bind (decLs [[CV.sl 1 (encI (Ls.a l)), CV.sl 1 (encI (Ls.b l)), CV.sl 1 (encI (Ls.c l))]]) fun b =>
 bif smH a && smLs (Hp.f a :: b) then
 bif !mayHpV a b then
 K (CV.tup [CV.agg [CV.own 1 [], CV.own 2 [], CV.own 1 [], CV.own 1 [], CV.own 1 [], CV.own 1 []], CV.int IntKind.i64 1]) []
 else
 Option.bind (Option.bind (decI (encI (Hp.w h))) fun w =>
 Option.bind (decP (List.map encP (Hp.p h))) fun p =>
 Option.bind (decI (encI (Ls.a (Hp.f h)))) fun a =>
 Option.bind (decI (encI (Ls.b (Hp.f h)))) fun b =>
 Option.bind (decI (encI (Ls.c (Hp.f h)))) fun c =>
 Option.bind (decBs (encBs (Hp.c h))) fun d => some { w := w, p := p, f := { a := a, b := b, c := c }, c := d }) fun a =>
 bif smH a && (!List.isEmpty (Hp.p a) && !List.isEmpty (Hp.c a)) then
 Option.bind (Option.bind (decI (encI (Ls.a (Hp.f a)))) fun a_1 =>
 Option.bind (decI (encI (Ls.b (Hp.f a)))) fun b =>
 Option.bind (decI (encI (Ls.c (Hp.f a)))) fun c => some { a := a_1, b := b, c := c }) fun a_1 =>
 Option.bind (decI (encI (Ls.a l))) fun c =>
 bif smL a_1 && Nat.ble (List.length c) 100000 then
 Option.bind (Option.bind (decI (encI (Ls.get a_1 0 ++ c))) fun a =>
 Option.bind (decI (encI (Ls.b a_1))) fun b =>
 Option.bind (decI (encI (Ls.c a_1))) fun c => some { a := a, b := b, c := c }) fun a_2 =>
 Option.bind (decI (encI (Ls.b l))) fun c =>
 bif smL a_2 && Nat.ble (List.length c) 100000 then
 Option.bind (Option.bind (decI (encI (Ls.a a_2))) fun a =>
 Option.bind (decI (encI (Ls.get a_2 1 ++ c))) fun b =>
 Option.bind (decI (encI (Ls.c a_2))) fun c => some { a := a, b := b, c := c }) fun a_3 =>
 Option.bind (decI (encI (Ls.c l))) fun c =>
 bif smL a_3 && Nat.ble (List.length c) 100000 then
 Option.bind (Option.bind (decW (encI (Hp.w a)) (List.map encP (Hp.p a)) (encI (Ls.a a_3)) (encI (Ls.b a_3)) (encI (Ls.get a_3 2 ++ c)) (encBs (Hp.c a))) fun h => some (true, false, h)) fun u =>
 bif okW (Prod.snd (Prod.snd u)) && (↑(List.length (List.map encP (Hp.p a))) : Int) == (↑(List.length (Hp.p (Prod.snd (Prod.snd u)))) : Int) then
 bif Prod.fst (backsS (List.length (Hp.p (Prod.snd (Prod.snd u)))) 0 u) then
 bif Prod.fst (Prod.snd (backsS (List.length (Hp.p (Prod.snd (Prod.snd u)))) 0 u)) then
 K (CV.tup [CV.agg [CV.sl 1 (encI (Hp.w (Prod.snd (Prod.snd (backsS (List.length (Hp.p (Prod.snd (Prod.snd u)))) 0 u))))), CV.own 2 (List.map encP (Hp.p (Prod.snd (Prod.snd (backsS (List.length (Hp.p (Prod.snd (Prod.snd u)))) 0 u))))), CV.own 1 (encI (Ls.a (Hp.f (Prod.snd (Prod.snd (backsS (List.length (Hp.p (Prod.snd (Prod.snd u)))) 0 u)))))), CV.own 1 (encI (Ls.b (Hp.f (Prod.snd (Prod.snd (backsS (List.length (Hp.p (Prod.snd (Prod.snd u)))) 0 u)))))), CV.own 1 (encI (Ls.c (Hp.f (Prod.snd (Prod.snd (backsS (List.length (Hp.p (Prod.snd (Prod.snd u)))) 0 u)))))), CV.sl 1 (encBs (Hp.c (Prod.snd (Prod.snd (backsS (List.length (Hp.p (Prod.snd (Prod.snd u)))) 0 u)))))], CV.int IntKind.i64 0]) []
 else
 K (CV.tup [CV.agg [CV.sl 1 (encI (Hp.w (Prod.snd (Prod.snd (backsS (List.length (Hp.p (Prod.snd (Prod.snd u)))) 0 u))))), CV.sl 2 (List.map encP (Hp.p (Prod.snd (Prod.snd (backsS (List.length (Hp.p (Prod.snd (Prod.snd u)))) 0 u))))), CV.own 1 (encI (Ls.a (Hp.f (Prod.snd (Prod.snd (backsS (List.length (Hp.p (Prod.snd (Prod.snd u)))) 0 u)))))), CV.own 1 (encI (Ls.b (Hp.f (Prod.snd (Prod.snd (backsS (List.length (Hp.p (Prod.snd (Prod.snd u)))) 0 u)))))), CV.own 1 (encI (Ls.c (Hp.f (Prod.snd (Prod.snd (backsS (List.length (Hp.p (Prod.snd (Prod.snd u)))) 0 u)))))), CV.sl 1 (encBs (Hp.c (Prod.snd (Prod.snd (backsS (List.length (Hp.p (Prod.snd (Prod.snd u)))) 0 u)))))], CV.int IntKind.i64 0]) []
 else
 bif Prod.fst (Prod.snd (backsS (List.length (Hp.p (Prod.snd (Prod.snd u)))) 0 u)) then
 K (CV.tup [CV.agg [CV.sl 1 (encI (Hp.w (Prod.snd (Prod.snd (backsS (List.length (Hp.p (Prod.snd (Prod.snd u)))) 0 u))))), CV.own 2 (List.map encP (Hp.p (Prod.snd (Prod.snd (backsS (List.length (Hp.p (Prod.snd (Prod.snd u)))) 0 u))))), CV.sl 1 (encI (Ls.a (Hp.f (Prod.snd (Prod.snd (backsS (List.length (Hp.p (Prod.snd (Prod.snd u)))) 0 u)))))), CV.sl 1 (encI (Ls.b (Hp.f (Prod.snd (Prod.snd (backsS (List.length (Hp.p (Prod.snd (Prod.snd u)))) 0 u)))))), CV.sl 1 (encI (Ls.c (Hp.f (Prod.snd (Prod.snd (backsS (List.length (Hp.p (Prod.snd (Prod.snd u)))) 0 u)))))), CV.sl 1 (encBs (Hp.c (Prod.snd (Prod.snd (backsS (List.length (Hp.p (Prod.snd (Prod.snd u)))) 0 u)))))], CV.int IntKind.i64 0]) []
 else
 K (CV.tup [CV.agg [CV.sl 1 (encI (Hp.w (Prod.snd (Prod.snd (backsS (List.length (Hp.p (Prod.snd (Prod.snd u)))) 0 u))))), CV.sl 2 (List.map encP (Hp.p (Prod.snd (Prod.snd (backsS (List.length (Hp.p (Prod.snd (Prod.snd u)))) 0 u))))), CV.sl 1 (encI (Ls.a (Hp.f (Prod.snd (Prod.snd (backsS (List.length (Hp.p (Prod.snd (Prod.snd u)))) 0 u)))))), CV.sl 1 (encI (Ls.b (Hp.f (Prod.snd (Prod.snd (backsS (List.length (Hp.p (Prod.snd (Prod.snd u)))) 0 u)))))), CV.sl 1 (encI (Ls.c (Hp.f (Prod.snd (Prod.snd (backsS (List.length (Hp.p (Prod.snd (Prod.snd u)))) 0 u)))))), CV.sl 1 (encBs (Hp.c (Prod.snd (Prod.snd (backsS (List.length (Hp.p (Prod.snd (Prod.snd u)))) 0 u)))))], CV.int IntKind.i64 0]) []
 else none
 else none
 else none
 else none
 else none
 else none := by kernel_rfl
end Go.Ab

namespace Go.Ab
open Go
open Go.Proofs
def app3 (f l : Ls) : Ls := ⟨f.a ++ l.a, f.b ++ l.b, f.c ++ l.c⟩
def flushH (h : Hp) (l : Ls) : Hp := backs h.p.length 0 { h with f := app3 h.f l }
def Hp.z : Hp := ⟨[], [], ⟨[], [], []⟩, []⟩
def flushE (h : Hp) (l : Ls) : Hp × Int := bif mayHpV h [l] then (flushH h l, 0) else (Hp.z, 1)
def gFlush : Callee := g2 cHp cLs (fun h l => smH h && (smL l && smL (app3 h.f l))) fun h l => .tup [cHp.enc (flushE h l).1, cI.enc (flushE h l).2]
theorem soft_W (fo po : Bool) (h : Hp) : soft 4 (.tup [.agg (encW fo po h), .int .i64 0]) = some (.tup [cHp.enc h, cI.enc 0]) := by
  cases fo <;> cases po <;> rfl
theorem shaped_ne {h : Hp} (hs : shapedE h = true) : may h.p = true /\ h.p.isEmpty = false /\ h.c.isEmpty = false := by
  simp only [shapedE, Bool.and_eq_true] at hs
  obtain ⟨_, h2, h3, h4⟩ := hs
  obtain ⟨h5, _⟩ := may_len h2
  have h3 := Nat.eq_of_beq_eq_true h3
  have h4 := Nat.eq_of_beq_eq_true h4
  refine ⟨h2, ?_, ?_⟩
  . cases hp : h.p with
    | nil => rw [hp] at h5; simp at h5
    | cons _ _ => rfl
  . cases hc : h.c with
    | nil => rw [hc] at h4; simp at h4; omega
    | cons _ _ => rfl
theorem smL_len {l : Ls} (h1 : l.a.length <= 100000) (h2 : l.b.length <= 100000) (h3 : l.c.length <= 100000) : smL l = true := by
  simp only [smL, Nat.ble_eq_true_of_le h1, Nat.ble_eq_true_of_le h2, Nat.ble_eq_true_of_le h3, Bool.and_self]
theorem smLs_two {f l : Ls} (h1 : smL f = true) (h2 : smL l = true) : smLs [f, l] = true := by
  simp [smLs, h1, h2]
theorem flush_good : GoodC Pr 18 gFlush :=
  good2S (k10_ok.sound (cx := k10) Tryz.func18 (by kernel_rfl) (by kernel_rfl) rfl (by kernel_rfl)) fun h l hp => by
    simp only [Bool.and_eq_true] at hp
    obtain ⟨hs, hl, ha⟩ := hp
    obtain ⟨l1, l2, l3⟩ := smL_le hl
    obtain ⟨a1, a2, a3⟩ := smL_le ha
    have hss := smH_le hs
    obtain ⟨f1, f2, f3⟩ := smL_le hss.2.2.2
    have hls : smLs [h.f, l] = true := smLs_two hss.2.2.2 hl
    have e : (⟨h.w, h.p, ⟨h.f.a, h.f.b, h.f.c⟩, h.c⟩ : Hp) = h := rfl
    have e' : (⟨h.f.a, h.f.b, h.f.c⟩ : Ls) = h.f := rfl
    have el : decLs [[CV.sl 1 (encI (Ls.a l)), CV.sl 1 (encI (Ls.b l)), CV.sl 1 (encI (Ls.c l))]] = some [l] := decLs_map [l]
    unfold flushE
    cases hm : mayHpV h [l] with
    | false =>
      refine ⟨.tup [.agg [CV.own 1 [], CV.own 2 [], CV.own 1 [], CV.own 1 [], CV.own 1 [], CV.own 1 []], .int .i64 1], rfl, fun β K => ?_⟩
      rw [r10]
      simp only [decI_map, decP_map, decBs_enc, Option.bind_some, e, el, hs, hls, Bool.and_self, cond_true, hm, Bool.not_false]
    | true =>
      obtain ⟨q1, q2, q3⟩ := shaped_ne (shaped_of hm)
      let h1 : Hp := { h with f := app3 h.f l }
      refine ⟨.tup [.agg (encW (backsS h.p.length 0 (true, false, h1)).1 (backsS h.p.length 0 (true, false, h1)).2.1 (backsS h.p.length 0 (true, false, h1)).2.2), .int .i64 0], ?_, fun β K => ?_⟩
      . rw [soft_W, backsS_h]; rfl
      . rw [r10]
        have s1 : smL h.f = true := hss.2.2.2
        have s2 : smL ⟨h.f.a ++ l.a, h.f.b, h.f.c⟩ = true := smL_len a1 f2 f3
        have s3 : smL ⟨h.f.a ++ l.a, h.f.b ++ l.b, h.f.c⟩ = true := smL_len a1 a2 f3
        have g0 : ∀ l : Ls, l.get 0 = l.a := fun _ => rfl
        have g1 : ∀ l : Ls, l.get 1 = l.b := fun _ => rfl
        have g2 : ∀ l : Ls, l.get 2 = l.c := fun _ => rfl
        have dw : decW (encI h.w) (h.p.map encP) (encI (h.f.a ++ l.a)) (encI (h.f.b ++ l.b)) (encI (h.f.c ++ l.c)) (encBs h.c) = some h1 := decW_enc h1
        have ok : okW h1 = true := by
          show (may h.p && smL (app3 h.f l)) = true
          rw [q1, ha]; rfl
        simp only [decI_map, decP_map, decBs_enc, Option.bind_some, e, e', el, hs, hls, Bool.and_self, cond_true, hm, Bool.not_true, cond_false, q2, q3, Bool.not_false, s1, s2, s3, Nat.ble_eq_true_of_le l1, Nat.ble_eq_true_of_le l2, Nat.ble_eq_true_of_le l3,
          g0, g1, g2, dw, ok, List.length_map, show h1.p.length = h.p.length from rfl, beq_self_eq_true]
        generalize backsS h.p.length 0 (true, false, h1) = s
        obtain ⟨fo, po, hh⟩ := s
        cases fo <;> cases po <;> rfl
end Go.Ab

namespace Go.Ab
open Go
open Go.Proofs
noncomputable abbrev k40 : Cx := cxG Pr Tryz.f43 []
set_option maxRecDepth 100000 in
theorem r40 (a : Int) (β : Type) (K : CV -> List (List CV) -> Option β) : fnK k40 Tryz.f43 [cI.enc a] [] K =
 K (CV.int IntKind.i64 (IntKind.wrap IntKind.i64 (IntKind.wrap IntKind.i64 (Int.tdiv a 16) - 1))) [] := by kernel_rfl
def numE (a : Int) : Int := IntKind.i64.wrap (IntKind.i64.wrap (Int.tdiv a 16) - 1)
def gNum : Callee := g1 cI (fun _ => true) fun a => cI.enc (numE a)
theorem num_good : GoodC Pr 43 gNum :=
  good1 ((CxOK.baseG Good.nil GoodI.nil (eqOK_none fun _ => rfl)).sound (cx := k40) Tryz.func43 (by kernel_rfl) (by kernel_rfl) rfl (by kernel_rfl)) fun a _ β K => by
    rw [r40]; rfl
noncomputable abbrev k42n : Cx := cxN Pr Tryz.f45 [] [(46, inlC k43n Tryz.f46)]
theorem free1_inl : GoodN Pr 45 (inlC k42n Tryz.f45) := (CxOK.baseN Good.nil (GoodI.cons drop_inl GoodI.nil) (eqOK_none fun _ => rfl)).inlG (cx := k42n) Tryz.func45 (by kernel_rfl) (by kernel_rfl) rfl (by kernel_rfl)
noncomputable abbrev k13 : Cx := cxN Pr Tryz.f15 [(33, gHead), (40, gBegun), (42, gRoom), (41, gZero), (43, gNum)] [(44, inlC k41n Tryz.f44), (45, inlC k42n Tryz.f45)]
set_option maxRecDepth 100000 in
theorem r13 (h : Hp) (a : Int) (β : Type) (K : CV -> List (List CV) -> Option β) : fnK k13 Tryz.f15 [cHp.enc h, cI.enc a] [] K =
 Option.bind (Option.bind (decI (encI (Hp.w h))) fun w =>
 Option.bind (decP (List.map encP (Hp.p h))) fun p =>
 Option.bind (decI (encI (Ls.a (Hp.f h)))) fun a =>
 Option.bind (decI (encI (Ls.b (Hp.f h)))) fun b =>
 Option.bind (decI (encI (Ls.c (Hp.f h)))) fun c =>
 Option.bind (decBs (encBs (Hp.c h))) fun d => some { w := w, p := p, f := { a := a, b := b, c := c }, c := d }) fun a_1 =>
 bif smH a_1 && smLs [Hp.f a_1] then
 bif Prod.snd (headE a_1 a) != 0 then
 K (CV.tup [CV.agg [CV.own 1 [], CV.own 2 [], CV.own 1 [], CV.own 1 [], CV.own 1 [], CV.own 1 []], CV.int IntKind.i64 (Prod.snd (headE a_1 a))]) []
 else
 Option.bind (Option.bind (decI (encI (Hp.w h))) fun w =>
 Option.bind (decP (List.map encP (Hp.p h))) fun p =>
 Option.bind (decI (encI (Ls.a (Hp.f h)))) fun a =>
 Option.bind (decI (encI (Ls.b (Hp.f h)))) fun b =>
 Option.bind (decI (encI (Ls.c (Hp.f h)))) fun c =>
 Option.bind (decBs (encBs (Hp.c h))) fun d => some { w := w, p := p, f := { a := a, b := b, c := c }, c := d }) fun a_2 =>
 bif smH a_2 && (!List.isEmpty (Hp.p a_2) && !List.isEmpty (Hp.c a_2)) then
 Option.bind (decP (List.map encP (Hp.p h))) fun ps =>
 bif Nat.ble (List.length ps) 200 then
 Option.bind (decI (encI (Hp.w a_2))) fun a_3 =>
 bif mayA (List.length a_3) && (decide (16 <= a) && (decide (1 <= roomA ps a) && decide (a - 16 + roomA ps a <= (↑(List.length a_3) : Int)))) then
 Option.bind (rdE (List.map encP (Hp.p a_2)) (numE a)) fun c =>
 Option.bind c[0]? fun x =>
 Option.bind (asI IntKind.i64 x) fun n =>
 bif n == 2 then
 Option.bind (decP (List.map encP (Hp.p a_2))) fun a_4 =>
 bif sm a_4 then
 K (CV.tup [CV.agg [CV.sl 1 (encI (zeroW a_3 a (roomA ps a))), CV.own 2 (List.map encP (Prod.snd (dropE a_4 (numE a)))), CV.own 1 (encI (Ls.a (Hp.f a_2))), CV.own 1 (encI (Ls.b (Hp.f a_2))), CV.own 1 (encI (Ls.c (Hp.f a_2))), CV.sl 1 (encBs (Hp.c a_2))], CV.int IntKind.i64 0]) []
 else none
 else
 Option.bind (rdE (List.map encP (Hp.p a_2)) (numE a)) fun c =>
 Option.bind c[1]? fun x =>
 Option.bind (asI IntKind.i64 x) fun n =>
 Option.bind (Option.bind (decI (encI (Ls.a (Hp.f a_2)))) fun a =>
 Option.bind (decI (encI (Ls.b (Hp.f a_2)))) fun b =>
 Option.bind (decI (encI (Ls.c (Hp.f a_2)))) fun c => some { a := a, b := b, c := c }) fun a_4 =>
 bif smL a_4 && (isC n && true) then
 Option.bind (rdE (List.map encP (Hp.p a_2)) (numE a)) fun c =>
 Option.bind c[0]? fun x =>
 Option.bind (asI IntKind.i64 x) fun n_1 =>
 Option.bind c[1]? fun x =>
 Option.bind (asI IntKind.i64 x) fun n_2 =>
 bif n_1 != 1 then
 K (CV.tup [CV.agg [CV.sl 1 (encI (zeroW a_3 a (roomA ps a))), CV.sl 2 (List.map encP (Hp.p a_2)), CV.own 1 (encI (Ls.a (pushL a_4 n [a]))), CV.own 1 (encI (Ls.b (pushL a_4 n [a]))), CV.own 1 (encI (Ls.c (pushL a_4 n [a]))), CV.sl 1 (encBs (Hp.c a_2))], CV.int IntKind.i64 0]) []
 else
 Option.bind (Option.bind (decI (encI (Ls.a (pushL a_4 n [a])))) fun a_5 =>
 Option.bind (decI (encI (Ls.b (pushL a_4 n [a])))) fun b =>
 Option.bind (decI (encI (Ls.c (pushL a_4 n [a])))) fun c => some { a := a_5, b := b, c := c }) fun a_5 =>
 bif smL a_5 && isC n_2 then
 bif (↑(List.length (encI (partOut a_5 n_2 (IntKind.wrap IntKind.i64 (IntKind.wrap IntKind.i64 (numE a + 1) * 16)) (IntKind.wrap IntKind.i64 (IntKind.wrap IntKind.i64 (IntKind.wrap IntKind.i64 (numE a + 1) * 16) + 16))))) : Int) == cellsN n_2 then
 Option.bind (decP (List.map encP (Hp.p a_2))) fun a_6 =>
 bif sm a_6 then
 K (CV.tup [CV.agg [CV.sl 1 (encI (zeroW a_3 a (roomA ps a))), CV.own 2 (List.map encP (Prod.snd (dropE a_6 (numE a)))), CV.own 1 (encI (Ls.a (partL a_5 n_2 (IntKind.wrap IntKind.i64 (IntKind.wrap IntKind.i64 (numE a + 1) * 16)) (IntKind.wrap IntKind.i64 (IntKind.wrap IntKind.i64 (IntKind.wrap IntKind.i64 (numE a + 1) * 16) + 16))))), CV.own 1 (encI (Ls.b (partL a_5 n_2 (IntKind.wrap IntKind.i64 (IntKind.wrap IntKind.i64 (numE a + 1) * 16)) (IntKind.wrap IntKind.i64 (IntKind.wrap IntKind.i64 (IntKind.wrap IntKind.i64 (numE a + 1) * 16) + 16))))), CV.own 1 (encI (Ls.c (partL a_5 n_2 (IntKind.wrap IntKind.i64 (IntKind.wrap IntKind.i64 (numE a + 1) * 16)) (IntKind.wrap IntKind.i64 (IntKind.wrap IntKind.i64 (IntKind.wrap IntKind.i64 (numE a + 1) * 16) + 16))))), CV.sl 1 (encBs (Hp.c a_2))], CV.int IntKind.i64 0]) []
 else none
 else
 K (CV.tup [CV.agg [CV.sl 1 (encI (zeroW a_3 a (roomA ps a))), CV.sl 2 (List.map encP (Hp.p a_2)), CV.sl 1 (encI (Ls.a (pushL a_4 n [a]))), CV.sl 1 (encI (Ls.b (pushL a_4 n [a]))), CV.sl 1 (encI (Ls.c (pushL a_4 n [a]))), CV.sl 1 (encBs (Hp.c a_2))], CV.int IntKind.i64 0]) []
 else none
 else none
 else none
 else none
 else none
 else none := by kernel_rfl
theorem cell_facts {ps : List Pg} {a : Int} (h : roomA ps a > 0) : may ps = true /\ 16 <= a /\ (a / 16 - 1).toNat < ps.length /\ (((a / 16 - 1).toNat : Nat) : Int) = a / 16 - 1 /\ ∃ p, ps[(a / 16 - 1).toNat]? = some p /\ ps.getD (a / 16 - 1).toNat (0, 0) = p /\
    ((p.1 = 2 /\ a % 16 = 0 /\ roomA ps a = 16 * p.2 /\ 1 <= p.2 /\ p.2 <= 4 /\ (a / 16 - 1).toNat + p.2.toNat <= ps.length) \/ (p.1 = 1 /\ 0 <= p.2 /\ p.2 <= 2 /\ (a % 16) % wordsOf p.2 = 0 /\ roomA ps a = wordsOf p.2)) := by
  have hd := roomA_doc ps a
  cases hm : may ps with
  | false => rw [hm] at hd; simp at hd; omega
  | true =>
    by_cases h1 : 16 <= a
    . by_cases h2 : a < 16 + 16 * (ps.length : Int)
      . rw [hm, decide_eq_true h1, decide_eq_true h2, Bool.and_self, Bool.and_self, cond_true] at hd
        have hi : (a / 16 - 1).toNat < ps.length := by omega
        have hp : ps[(a / 16 - 1).toNat]? = some (ps[(a / 16 - 1).toNat]) := by simp [hi]
        have hg : ps.getD (a / 16 - 1).toNat (0, 0) = ps[(a / 16 - 1).toNat] := by rw [List.getD_eq_getElem?_getD, hp]; rfl
        refine ⟨rfl, h1, hi, by omega, _, hp, hg, ?_⟩
        rw [hg] at hd
        obtain ⟨g1, g2, g3⟩ := may_go hm
        have hok := okPg_of g1 _ (List.getElem_mem hi)
        have hr : (((a % 16).toNat : Nat) : Int) = a % 16 := by omega
        have hrun := fun b => may_run hm (i := (a / 16 - 1).toNat) (b := b)
        rw [hp] at hrun
        generalize ps[(a / 16 - 1).toNat] = p at *
        obtain ⟨k, c⟩ := p
        rw [hd] at h ⊢
        unfold cellAt at h ⊢
        simp only at h hok ⊢
        by_cases k2 : k = 2
        . subst k2
          by_cases hr0 : (a % 16).toNat = 0
          . refine .inl ⟨rfl, by omega, by simp [hr0], ?_⟩
            obtain ⟨q1, q2, q3⟩ := hrun c rfl
            exact ⟨q1, q2, q3⟩
          . rw [beq_eq_false_iff_ne.2 hr0] at h
            exact absurd h (by simp)
        . by_cases k1 : k = 1
          . subst k1
            have hc : 0 <= c /\ c <= 2 := by
              rcases hok with h | h | h | h
              . simp at h
              . simp at h
              . exact ⟨h.2.1, h.2.2⟩
              . simp at h
            by_cases hz : a % 16 % wordsOf c = 0
            . exact .inr ⟨rfl, hc.1, hc.2, hz, by simp [hr, hz]⟩
            . rw [hr, beq_eq_false_iff_ne.2 hz] at h
              exact absurd h (by simp)
          . rw [beq_eq_false_iff_ne.2 k1, beq_eq_false_iff_ne.2 k2] at h
            exact absurd h (by simp)
      . rw [decide_eq_false h2] at hd; simp at hd; omega
    . rw [decide_eq_false h1] at hd; simp at hd; omega
theorem words_val {c : Int} (h0 : 0 <= c) (h2 : c <= 2) : (c = 0 /\ wordsOf c = 2) \/ (c = 1 /\ wordsOf c = 4) \/ (c = 2 /\ wordsOf c = 8) := by
  have : c = 0 \/ c = 1 \/ c = 2 := by omega
  rcases this with rfl | rfl | rfl
  . exact .inl ⟨rfl, rfl⟩
  . exact .inr (.inl ⟨rfl, rfl⟩)
  . exact .inr (.inr ⟨rfl, rfl⟩)
theorem cell_end {ps : List Pg} {a : Int} (h : roomA ps a > 0) : a - 16 + roomA ps a <= 16 * (ps.length : Int) := by
  obtain ⟨_, h1, h2, h3, p, _, _, h4⟩ := cell_facts h
  rcases h4 with ⟨_, g1, g2, g3, g4, g5⟩ | ⟨_, g1, g2, g3, g4⟩
  . rw [g2]; omega
  . rw [g4]
    rcases words_val g1 g2 with ⟨_, e⟩ | ⟨_, e⟩ | ⟨_, e⟩ <;> rw [e] at g3 ⊢ <;> omega
def freeH (h : Hp) (a : Int) : Hp := bif (pageE h a).1 == 2 then { h with w := zeroW h.w a (roomA h.p a), p := (dropE h.p (((a / 16 - 1).toNat : Nat) : Int)).2 }
  else backH { h with w := zeroW h.w a (roomA h.p a), f := pushL h.f (pageE h a).2 [a] } (a / 16 - 1).toNat
def freeHE (h : Hp) (a : Int) : Hp × Int := bif (headE h a).2 != 0 then (Hp.z, (headE h a).2) else (freeH h a, 0)
def smL1 (l : Ls) : Bool := Nat.ble l.a.length 90000 && (Nat.ble l.b.length 90000 && Nat.ble l.c.length 90000)
theorem smL1_le {l : Ls} (h : smL1 l = true) : l.a.length <= 90000 /\ l.b.length <= 90000 /\ l.c.length <= 90000 := by
  simp only [smL1, Bool.and_eq_true] at h
  exact ⟨Nat.le_of_ble_eq_true h.1, Nat.le_of_ble_eq_true h.2.1, Nat.le_of_ble_eq_true h.2.2⟩
theorem smL_push {l : Ls} {c : Int} {x : List Int} (h : smL1 l = true) (hx : x.length <= 10000) : smL (pushL l c x) = true := by
  obtain ⟨h1, h2, h3⟩ := smL1_le h
  unfold pushL
  match c.toNat with
  | 0 =>
    show smL ⟨l.a ++ x, l.b, l.c⟩ = true
    exact smL_len (by show (l.a ++ x).length <= _; rw [List.length_append]; omega) (by show l.b.length <= _; omega) (by show l.c.length <= _; omega)
  | 1 =>
    show smL ⟨l.a, l.b ++ x, l.c⟩ = true
    exact smL_len (by show l.a.length <= _; omega) (by show (l.b ++ x).length <= _; rw [List.length_append]; omega) (by show l.c.length <= _; omega)
  | k + 2 =>
    show smL ⟨l.a, l.b, l.c ++ x⟩ = true
    exact smL_len (by show l.a.length <= _; omega) (by show l.b.length <= _; omega) (by show (l.c ++ x).length <= _; rw [List.length_append]; omega)
theorem head_ok {h : Hp} {a : Int} (he : ((headE h a).2 != 0) = false) : mayHpV h [] = true /\ roomA h.p a > 0 /\ (unpX h a).a = true /\ headE h a = (unpX h a, 0) := by
  unfold headE at he ⊢
  cases hm : mayHpV h [] with
  | false => rw [hm] at he; cases he
  | true =>
    cases hr : roomA h.p a == 0 with
    | true => rw [hm, hr] at he; cases he
    | false =>
      cases hu : (unpX h a).a with
      | false => rw [hm, hr, hu] at he; cases he
      | true =>
        have := roomN h.p a
        rw [hr] at this
        refine ⟨rfl, ?_, rfl, rfl⟩
        cases hd : decide (roomA h.p a > 0) with
        | true => exact of_decide_eq_true hd
        | false => rw [hd] at this; cases this
def gFree : Callee := g2 cHp cI (fun h _ => smH h && smL1 h.f) fun h a => .tup [cHp.enc (freeHE h a).1, cI.enc (freeHE h a).2]
theorem freeR_good : GoodC Pr 15 gFree :=
  good2S ((CxOK.baseN (Good.cons head_good (Good.cons begun_good (Good.cons roomH_good (Good.cons zero_good (Good.cons num_good Good.nil))))) (GoodI.cons push_inl (GoodI.cons free1_inl GoodI.nil)) (eqOK_none fun _ => rfl)).sound (cx := k13) Tryz.func15 (by kernel_rfl) (by kernel_rfl) rfl (by kernel_rfl)) fun h a hp => by
    simp only [Bool.and_eq_true] at hp
    obtain ⟨hs, hl1⟩ := hp
    have hss := smH_le hs
    have hls : smLs [h.f] = true := by simp [smLs, hss.2.2.2]
    have e : (⟨h.w, h.p, ⟨h.f.a, h.f.b, h.f.c⟩, h.c⟩ : Hp) = h := rfl
    have e' : (⟨h.f.a, h.f.b, h.f.c⟩ : Ls) = h.f := rfl
    unfold freeHE
    cases he : (headE h a).2 != 0 with
    | true =>
      refine ⟨.tup [.agg z28, cI.enc (headE h a).2], rfl, fun β K => ?_⟩
      rw [r13]
      simp only [decI_map, decP_map, decBs_enc, Option.bind_some, e, hs, hls, Bool.and_self, cond_true, he]
      rfl
    | false =>
      obtain ⟨hm, hr, _, _⟩ := head_ok he
      have hsh := shaped_of hm
      obtain ⟨q1, q2, q3⟩ := shaped_ne hsh
      obtain ⟨_, f1, f2, f3, p, f4, f5, f6⟩ := cell_facts hr
      have hend := cell_end hr
      simp only [shapedE, Bool.and_eq_true] at hsh
      obtain ⟨w1, _, w3, _⟩ := hsh
      have w3 := Nat.eq_of_beq_eq_true w3
      have hpage : pageE h a = p := f5
      have hps : sm h.p = true := by have := hs; simp only [smH, Bool.and_eq_true] at this; exact this.2.1
      have hlp := (may_len q1).2
      have hn : numE a = (((a / 16 - 1).toNat : Nat) : Int) := by
        have h16 : Int.tdiv a 16 = a / 16 := Int.tdiv_eq_ediv_of_nonneg (by omega)
        unfold numE
        rw [h16, wrap_in (a := a / 16) (by omega), wrap_in (by omega)]; omega
      have g0 : (encP p)[0]? = some (.int .i64 p.1) := rfl
      have g1 : (encP p)[1]? = some (.int .i64 p.2) := rfl
      have e0 : (List.map encP (Hp.p h))[((((a / 16 - 1).toNat : Nat) : Int)).toNat]? = some (encP p) := by rw [Int.toNat_natCast, List.getElem?_map, f4]; rfl
      have rd := rdE_nat (l := List.map encP (Hp.p h)) (show (0 : Int) <= (((a / 16 - 1).toNat : Nat) : Int) by omega)
      have c1 : (mayA h.w.length && (decide (16 <= a) && (decide (1 <= roomA h.p a) && decide (a - 16 + roomA h.p a <= (h.w.length : Int))))) = true := by
        rw [w1, decide_eq_true f1, decide_eq_true (by omega), decide_eq_true (by omega)]; rfl
      unfold freeH
      rw [hpage]
      rcases f6 with ⟨k2, _⟩ | ⟨k1, c0, c2, _⟩
      . have kb : (p.1 == 2) = true := by rw [k2]; rfl
        rw [kb, cond_true]
        refine ⟨.tup [.agg (encW true true { h with w := zeroW h.w a (roomA h.p a), p := (dropE h.p (((a / 16 - 1).toNat : Nat) : Int)).2 }), .int .i64 0], soft_W _ _ _, fun β K => ?_⟩
        rw [r13]
        simp only [decI_map, decP_map, decBs_enc, Option.bind_some, e, hs, hls, Bool.and_self, cond_true, he, cond_false, q2, q3, Bool.not_false, Nat.ble_eq_true_of_le hss.2.1, c1, hn, rd, e0, g0, asI_1, kb, hps]
        rfl
      . have kb : (p.1 == 2) = false := by rw [k1]; rfl
        have kc : (p.1 != 1) = false := by rw [k1]; rfl
        have hic : isC p.2 = true := by unfold isC; rw [decide_eq_true (by omega), decide_eq_true (by omega)]; rfl
        rw [kb, cond_false]
        generalize hi : (a / 16 - 1).toNat = i at *
        let h1 : Hp := { h with w := zeroW h.w a (roomA h.p a), f := pushL h.f p.2 [a] }
        have s1 : smL (pushL h.f p.2 [a]) = true := smL_push hl1 (by simp)
        have wa : IntKind.i64.wrap ((i : Int) + 1) = ((i + 1 : Nat) : Int) := by rw [wrap_in (by omega)]; omega
        have wb : IntKind.i64.wrap (((i + 1 : Nat) : Int) * 16) = loE i := wrap_in (by omega)
        have wc : IntKind.i64.wrap (loE i + 16) = loE i + 16 := wrap_in (by unfold loE; omega)
        have ep : (⟨(pushL h.f p.2 [a]).a, (pushL h.f p.2 [a]).b, (pushL h.f p.2 [a]).c⟩ : Ls) = pushL h.f p.2 [a] := rfl
        have hh3 : hitE h1 i = (((partOut (pushL h.f p.2 [a]) p.2 (loE i) (loE i + 16)).length : Int) == cellsN p.2) := by
          unfold hitE
          rw [show h1.p[i]? = some p from f4]
          simp only [k1, beq_self_eq_true, Bool.true_and]
          rfl
        have hp' : h.p[i]? = some (1, p.2) := by rw [f4, <- k1]
        obtain ⟨z1, _, _⟩ := small_drop q1 hp'
        have hgd : h1.p.getD i (0, 0) = p := f5
        cases hb : (((partOut (pushL h.f p.2 [a]) p.2 (loE i) (loE i + 16)).length : Int) == cellsN p.2) with
        | true =>
          refine ⟨.tup [.agg (encW true true (backH h1 i)), .int .i64 0], soft_W _ _ _, fun β K => ?_⟩
          rw [r13]
          simp only [decI_map, decP_map, decBs_enc, Option.bind_some, e, e', hs, hls, Bool.and_self, Bool.and_true, cond_true, he, cond_false, q2, q3, Bool.not_false, Nat.ble_eq_true_of_le hss.2.1, c1, hn, rd, e0, g0, g1, asI_1, kb, kc, hps, hss.2.2.2, hic, s1, ep, wa, wb, wc, encI_len, hb, z1]
          unfold backH
          rw [hh3, hb, hgd]
          rfl
        | false =>
          refine ⟨.tup [.agg (encW false false (backH h1 i)), .int .i64 0], soft_W _ _ _, fun β K => ?_⟩
          rw [r13]
          simp only [decI_map, decP_map, decBs_enc, Option.bind_some, e, e', hs, hls, Bool.and_self, Bool.and_true, cond_true, he, cond_false, q2, q3, Bool.not_false, Nat.ble_eq_true_of_le hss.2.1, c1, hn, rd, e0, g0, g1, asI_1, kb, kc, hps, hss.2.2.2, hic, s1, ep, wa, wb, wc, encI_len, hb]
          unfold backH
          rw [hh3, hb]
          rfl
end Go.Ab

namespace Go.Ab
open Go
open Go.Proofs
noncomputable abbrev k22 : Cx := cxG Pr Tryz.f38 []
set_option maxRecDepth 100000 in
theorem r22 (l : Ls) (β : Type) (K : CV -> List (List CV) -> Option β) : fnK k22 Tryz.f38 [cLs.enc l] [] K =
 bif decide ((↑(List.length (encI (Ls.a l))) : Int) <= 70) then
 bif decide ((↑(List.length (encI (Ls.b l))) : Int) <= 70) then
 K (CV.bool (decide ((↑(List.length (encI (Ls.c l))) : Int) <= 70))) []
 else K (CV.bool false) []
 else K (CV.bool false) [] := by kernel_rfl
def lightV (l : Ls) : Bool := decide ((l.a.length : Int) <= 70) && (decide ((l.b.length : Int) <= 70) && decide ((l.c.length : Int) <= 70))
def gLight : Callee := g1 cLs (fun _ => true) fun l => cB.enc (lightV l)
noncomputable abbrev k21 : Cx := cxG Pr Tryz.f37 [(38, gLight)]
set_option maxRecDepth 100000 in
theorem r21 (h : Hp) (β : Type) (K : CV -> List (List CV) -> Option β) : fnK k21 Tryz.f37 [cHp.enc h] [] K =
 bif decide ((↑(List.length (encI (Hp.w h))) : Int) <= 130) then
 bif decide ((↑(List.length (List.map encP (Hp.p h))) : Int) <= 9) then
 bif decide ((↑(List.length (encBs (Hp.c h))) : Int) <= 20) then
 Option.bind (Option.bind (decI (encI (Ls.a (Hp.f h)))) fun a =>
 Option.bind (decI (encI (Ls.b (Hp.f h)))) fun b =>
 Option.bind (decI (encI (Ls.c (Hp.f h)))) fun c => some { a := a, b := b, c := c }) fun a => K (CV.bool (lightV a)) []
 else K (CV.bool false) []
 else K (CV.bool false) []
 else K (CV.bool false) [] := by kernel_rfl
def fewH (h : Hp) : Bool := decide ((h.w.length : Int) <= 130) && (decide ((h.p.length : Int) <= 9) && (decide ((h.c.length : Int) <= 20) && lightV h.f))
def gFewH : Callee := g1 cHp (fun _ => true) fun h => cB.enc (fewH h)
noncomputable abbrev k8a : Cx := cxG Pr Tryz.f13 [(37, gFewH), (38, gLight)]
abbrev p8 := [false, true, false, true, true]
abbrev o8 : Exit -> List Nat := fun _ => [1, 5]
set_option maxRecDepth 100000 in
theorem t8x (ls : List Ls) (ok : Bool) (i : Int) (m : Nat) (β : Type) (K : Exit -> List CV -> List (List CV) -> Option β) : loopB k8a [1, 5, 6] o8 p8 (bodyL (bodyOf Tryz.f13) p8) (m + 1) [cLss.enc ls, cB.enc ok, cI.enc i] [] K =
 bif decide (i < (↑(List.length (List.map encLs ls)) : Int)) then
 bif ok then
 Option.bind (rdE (List.map encLs ls) i) fun c =>
 Option.bind c[0]? fun x =>
 Option.bind (asL 1 x) fun l =>
 Option.bind c[1]? fun x =>
 Option.bind (asL 1 x) fun l_1 =>
 Option.bind c[2]? fun x =>
 Option.bind (asL 1 x) fun l_2 =>
 Option.bind (Option.bind (decI l) fun a =>
 Option.bind (decI l_1) fun b => Option.bind (decI l_2) fun c => some { a := a, b := b, c := c }) fun a => loopB k8a [1, 5, 6] o8 [false, true, false, true, true] (bodyL (bodyOf Tryz.f13) p8) m [CV.sl 3 (List.map encLs ls), CV.bool (lightV a), CV.int IntKind.i64 (IntKind.wrap IntKind.i64 (i + 1))] [] fun a a_1 a_2 => K a a_1 a_2
 else loopB k8a [1, 5, 6] o8 [false, true, false, true, true] (bodyL (bodyOf Tryz.f13) p8) m [CV.sl 3 (List.map encLs ls), CV.bool false, CV.int IntKind.i64 (IntKind.wrap IntKind.i64 (i + 1))] [] fun a a_1 a_2 => K a a_1 a_2
 else K (Exit.exit 0) [CV.sl 3 (List.map encLs ls), CV.bool ok] [] := by kernel_rfl
noncomputable abbrev k11a : Cx := cxG Pr Tryz.f51 [] [] (fun _ => false) (fun _ => false) (fun t => Nat.beq t 61)
abbrev o11 : Exit -> List Nat := fun | .ret => [4] | _ => []
set_option maxRecDepth 100000 in
theorem t11x (p q : List Pg) (i : Int) (m : Nat) (β : Type) (K : Exit -> List CV -> List (List CV) -> Option β) : loopB k11a [0, 1, 5] o11 p8 (bodyL (bodyOf Tryz.f51) p8) (m + 1) [cPs.enc p, cPs.enc q, cI.enc i] [] K =
 bif decide (i < (↑(List.length (List.map encP p)) : Int)) then
 Option.bind (rdE (List.map encP p) i) fun c =>
 Option.bind c[0]? fun x =>
 Option.bind (asI IntKind.i64 x) fun n =>
 Option.bind c[1]? fun x =>
 Option.bind (asI IntKind.i64 x) fun n_1 =>
 Option.bind (rdE (List.map encP q) i) fun c =>
 Option.bind c[0]? fun x =>
 Option.bind (asI IntKind.i64 x) fun n_2 =>
 Option.bind c[1]? fun x =>
 Option.bind (asI IntKind.i64 x) fun n_3 =>
 bif !(n == n_2 && (n_1 == n_3 && true)) then K Exit.ret [CV.bool false] []
 else loopB k11a [0, 1, 5] o11 [false, true, false, true, true] (bodyL (bodyOf Tryz.f51) p8) m [CV.sl 2 (List.map encP p), CV.sl 2 (List.map encP q), CV.int IntKind.i64 (IntKind.wrap IntKind.i64 (i + 1))] [] fun a a_1 a_2 => K a a_1 a_2
 else K (Exit.exit 0) [] [] := by kernel_rfl
theorem light_good : GoodC Pr 38 gLight :=
  good1 ((CxOK.baseG Good.nil GoodI.nil (eqOK_none fun _ => rfl)).sound (cx := k22) Tryz.func38 (by kernel_rfl) (by kernel_rfl) rfl (by kernel_rfl)) fun l _ β K => by
    rw [r22]
    simp only [encI_len]
    unfold lightV
    cases decide ((l.a.length : Int) <= 70) <;> cases decide ((l.b.length : Int) <= 70) <;> rfl
theorem fewH_good : GoodC Pr 37 gFewH :=
  good1 ((CxOK.baseG (Good.cons light_good Good.nil) GoodI.nil (eqOK_none fun _ => rfl)).sound (cx := k21) Tryz.func37 (by kernel_rfl) (by kernel_rfl) rfl (by kernel_rfl)) fun h _ β K => by
    rw [r21]
    simp only [encI_len, List.length_map, encBs_len, decI_map, Option.bind_some]
    unfold fewH
    cases decide ((h.w.length : Int) <= 130) <;> cases decide ((h.p.length : Int) <= 9) <;> cases decide ((h.c.length : Int) <= 20) <;> rfl
theorem few_loop (ls : List Ls) (hl : ls.length <= 9223372036854775807) (β : Type) (K : Exit -> List CV -> List (List CV) -> Option β) : ∀ (m i : Nat) (ok : Bool), i + m = ls.length ->
    loopB k8a [1, 5, 6] o8 p8 (bodyL (bodyOf Tryz.f13) p8) (m + 1) [cLss.enc ls, cB.enc ok, cI.enc (i : Int)] [] K = K (.exit 0) [cLss.enc ls, cB.enc (ok && (ls.drop i).all lightV)] [] := by
  intro m
  induction m with
  | zero =>
    intro i ok h1
    rw [t8x, decide_eq_false (by rw [List.length_map]; omega), cond_false, List.drop_eq_nil_of_le (by omega)]
    simp only [List.all_nil, Bool.and_true]
    rfl
  | succ m ih =>
    intro i ok h1
    have hi : i < ls.length := by omega
    have e0 : (List.map encLs ls)[(i : Int).toNat]? = some (encLs ls[i]) := by simp [hi]
    have w1 : IntKind.i64.wrap ((i : Int) + 1) = ((i + 1 : Nat) : Int) := by rw [wrap_in (by omega)]; omega
    have h2 := fun ok => ih (i + 1) ok (by omega)
    rw [t8x, decide_eq_true (by rw [List.length_map]; omega), cond_true, List.drop_eq_getElem_cons hi, List.all_cons, rdE_nat (by omega), e0]
    generalize ls[i] = l
    have g1 : (encLs l)[0]? = some (.sl 1 (encI l.a)) := rfl
    have g2 : (encLs l)[1]? = some (.sl 1 (encI l.b)) := rfl
    have g3 : (encLs l)[2]? = some (.sl 1 (encI l.c)) := rfl
    have e' : (⟨l.a, l.b, l.c⟩ : Ls) = l := rfl
    simp only [Option.bind_some, g1, g2, g3, asL_1, decI_map, e', w1]
    cases ok with
    | true =>
      rw [Bool.true_and, cond_true]
      exact h2 (lightV l)
    | false =>
      have h3 := h2 false
      rw [Bool.false_and] at h3 ⊢
      rw [cond_false]
      exact h3
def L8 : LoopSem := l3 [1, 5, 6] o8 cLss cB cI c0 (fun ls _ i _ => i == 0 && Nat.ble ls.length 9223372036854775807) fun ls ok _ _ => .one (.exit 0) [cLss.enc ls, cB.enc (ok && ls.all lightV)] []
noncomputable abbrev k8 : Cx := k8a.loop p8 L8
theorem k8_ok : CxOK k8 [(37, gFewH), (38, gLight)] := by
  refine CxOK.loop3 (CxOK.baseG (Good.cons fewH_good (Good.cons light_good Good.nil)) GoodI.nil (eqOK_none fun _ => rfl)) rfl fun ls ok i u hp => ?_
  simp only [Bool.and_eq_true, beq_iff_eq] at hp
  obtain ⟨hi, hl⟩ := hp
  subst hi
  exact ⟨ls.length + 1, fun β K => (few_loop ls (Nat.le_of_ble_eq_true hl) β K ls.length 0 ok (by omega)).trans (by rw [List.drop_zero]; rfl)⟩
set_option maxRecDepth 100000 in
theorem r8 (h : Hp) (ls : List Ls) (β : Type) (K : CV -> List (List CV) -> Option β) : fnK k8 Tryz.f13 [cHp.enc h, cLss.enc ls] [] K =
 Option.bind (Option.bind (decI (encI (Hp.w h))) fun w =>
 Option.bind (decP (List.map encP (Hp.p h))) fun p =>
 Option.bind (decI (encI (Ls.a (Hp.f h)))) fun a =>
 Option.bind (decI (encI (Ls.b (Hp.f h)))) fun b =>
 Option.bind (decI (encI (Ls.c (Hp.f h)))) fun c =>
 Option.bind (decBs (encBs (Hp.c h))) fun d => some { w := w, p := p, f := { a := a, b := b, c := c }, c := d }) fun a =>
 Option.bind (decLs (List.map encLs ls)) fun a_1 =>
 bif Nat.ble (List.length a_1) 9223372036854775807 then
 bif fewH a && List.all a_1 lightV then K (CV.bool (decide ((↑(List.length (List.map encLs a_1)) : Int) <= 4))) []
 else K (CV.bool false) []
 else none := by kernel_rfl
def fewV (h : Hp) (ls : List Ls) : Bool := (fewH h && ls.all lightV) && decide ((ls.length : Int) <= 4)
def gFew : Callee := g2 cHp cLss (fun _ ls => Nat.ble ls.length 9223372036854775807) fun h ls => cB.enc (fewV h ls)
theorem few_good : GoodC Pr 13 gFew :=
  good2 (k8_ok.sound (cx := k8) Tryz.func13 (by kernel_rfl) (by kernel_rfl) rfl (by kernel_rfl)) fun h ls hp β K => by
    have e : (⟨h.w, h.p, ⟨h.f.a, h.f.b, h.f.c⟩, h.c⟩ : Hp) = h := rfl
    rw [r8]
    simp only [decI_map, decP_map, decBs_enc, decLs_map, Option.bind_some, e, hp, beq_self_eq_true, Bool.and_self, cond_true, List.length_map]
    unfold fewV
    cases (fewH h && ls.all lightV) <;> rfl
theorem same_loop (p q : List Pg) (hq : q.length = p.length) (hl : p.length <= 100000) (β : Type) (K : Exit -> List CV -> List (List CV) -> Option β) : ∀ (m i : Nat), i + m = p.length ->
    loopB k11a [0, 1, 5] o11 p8 (bodyL (bodyOf Tryz.f51) p8) (m + 1) [cPs.enc p, cPs.enc q, cI.enc (i : Int)] [] K = bif decide (p.drop i = q.drop i) then K (.exit 0) [] [] else K .ret [cB.enc false] [] := by
  intro m
  induction m with
  | zero =>
    intro i h1
    rw [t11x, decide_eq_false (by rw [List.length_map]; omega), cond_false, List.drop_eq_nil_of_le (by omega), List.drop_eq_nil_of_le (by omega)]
    rfl
  | succ m ih =>
    intro i h1
    have hi : i < p.length := by omega
    have hi2 : i < q.length := by omega
    have e0 : (List.map encP p)[(i : Int).toNat]? = some (encP p[i]) := by simp [hi]
    have e1 : (List.map encP q)[(i : Int).toNat]? = some (encP q[i]) := by simp [hi2]
    have w1 : IntKind.i64.wrap ((i : Int) + 1) = ((i + 1 : Nat) : Int) := by rw [wrap_in (by omega)]; omega
    have h2 := ih (i + 1) (by omega)
    rw [t11x, decide_eq_true (by rw [List.length_map]; omega), cond_true, List.drop_eq_getElem_cons hi, List.drop_eq_getElem_cons hi2, rdE_nat (by omega), e0, rdE_nat (by omega), e1]
    generalize p[i] = a
    generalize q[i] = b
    have g1 : (encP a)[0]? = some (.int .i64 a.1) := rfl
    have g2 : (encP a)[1]? = some (.int .i64 a.2) := rfl
    have g3 : (encP b)[0]? = some (.int .i64 b.1) := rfl
    have g4 : (encP b)[1]? = some (.int .i64 b.2) := rfl
    simp only [Option.bind_some, g1, g2, g3, g4, asI_1, w1, Bool.and_true]
    by_cases hab : a = b
    . subst hab
      simp only [beq_self_eq_true, Bool.and_self, Bool.not_true, cond_false]
      refine h2.trans ?_
      by_cases hd : p.drop (i + 1) = q.drop (i + 1)
      . rw [decide_eq_true hd, decide_eq_true (by rw [hd])]
      . rw [decide_eq_false hd, decide_eq_false (by simpa using hd)]
    . have hne : (a.1 == b.1 && a.2 == b.2) = false := by
        cases h : (a.1 == b.1 && a.2 == b.2) with
        | false => rfl
        | true =>
          simp only [Bool.and_eq_true, beq_iff_eq] at h
          exact absurd (Prod.ext h.1 h.2) hab
      rw [hne, decide_eq_false (by simp [hab])]
      rfl
def L11 : LoopSem := l3 [0, 1, 5] o11 cPs cPs cI c0 (fun p q i _ => i == 0 && (Nat.beq q.length p.length && Nat.ble p.length 100000)) fun p q _ _ => .alt (decide (p = q)) (.one (.exit 0) [] []) (.one .ret [cB.enc false] [])
noncomputable abbrev k11 : Cx := k11a.loop p8 L11
theorem k11_ok : CxOK k11 [] := by
  refine CxOK.loop3 (CxOK.baseG Good.nil GoodI.nil (eqOK_page rfl rfl)) rfl fun p q i u hp => ?_
  simp only [Bool.and_eq_true, beq_iff_eq] at hp
  obtain ⟨hi, hq, hl⟩ := hp
  subst hi
  exact ⟨p.length + 1, fun β K => (same_loop p q (Nat.eq_of_beq_eq_true hq) (Nat.le_of_ble_eq_true hl) β K p.length 0 (by omega)).trans (by rw [List.drop_zero, List.drop_zero]; rfl)⟩
set_option maxRecDepth 100000 in
theorem r11 (p q : List Pg) (β : Type) (K : CV -> List (List CV) -> Option β) : fnK k11 Tryz.f51 [cPs.enc p, cPs.enc q] [] K =
 bif (↑(List.length (List.map encP p)) : Int) != (↑(List.length (List.map encP q)) : Int) then K (CV.bool false) []
 else
 Option.bind (decP (List.map encP p)) fun a =>
 Option.bind (decP (List.map encP q)) fun b =>
 bif Nat.beq (List.length b) (List.length a) && Nat.ble (List.length a) 100000 then
 bif decide (a = b) then K (CV.bool true) [] else K (CV.bool false) []
 else none := by kernel_rfl
def gSameP : Callee := g2 cPs cPs (fun p _ => Nat.ble p.length 100000) fun p q => cB.enc (decide (p = q))
theorem sameP_good : GoodC Pr 51 gSameP :=
  good2 (k11_ok.sound (cx := k11) Tryz.func51 (by kernel_rfl) (by kernel_rfl) rfl (by kernel_rfl)) fun p q hp β K => by
    rw [r11]
    simp only [decP_map, Option.bind_some, List.length_map, hp, beq_self_eq_true, Bool.true_and, Bool.and_true]
    have hb : (((p.length : Nat) : Int) != ((q.length : Nat) : Int)) = !(Nat.beq q.length p.length) := by
      show (!(((p.length : Nat) : Int) == ((q.length : Nat) : Int))) = _
      rw [beq_nat, show Nat.beq p.length q.length = Nat.beq q.length p.length from by rw [Bool.eq_iff_iff]; simp only [Nat.beq_eq]; exact eq_comm]
    rw [hb]
    cases hq : Nat.beq q.length p.length with
    | false =>
      rw [decide_eq_false fun h => by rw [h] at hq; simp at hq]
      rfl
    | true =>
      simp only [Bool.not_true, cond_false, cond_true]
      cases decide (p = q) <;> rfl
end Go.Ab

namespace Go.Ab
open Go
open Go.Proofs
structure WM where
  h : Hp
  ks : List Int
def cWm : CodB WM where
  enc := fun s => [encHp s.h, [.mpo s.ks]]
  dec := fun c => match c with
    | [[.sl 1 w, .sl 2 p, .sl 1 a, .sl 1 b, .sl 1 c, .sl 1 d], [.mpo ks]] => (decW w p a b c d).bind fun h => some ⟨h, ks⟩
    | _ => none
  ok := fun c s e => by
    split at e
    . replace e := bind_some' e
      obtain ⟨h, h1, e⟩ := e
      cases e
      obtain ⟨rfl, rfl, rfl, rfl, rfl, rfl⟩ := decW_ok h1
      rfl
    . cases e
  de := fun s => by
    show (decW _ _ _ _ _ _).bind _ = _
    rw [decW_enc]; rfl
noncomputable abbrev k12a : Cx := cxG Pr Tryz.f34 [(27, gMayHp), (85, gAllI), (80, gAllC), (79, gEvery)] [] (fun q => Nat.beq q 15)
abbrev p12 := [false, true, false, true, true, true]
abbrev o12 : Exit -> List Nat := fun _ => [2, 5]
set_option maxRecDepth 100000 in
theorem t12 (h : Hp) (ks xs : List Int) (n i : Int) (m : Nat) (β : Type) (K : Exit -> List CV -> List (List CV) -> Option β) : loopB k12a [2, 5, 18, 19, 20] o12 p12 (bodyL (bodyOf Tryz.f34) p12) (m + 1) [.ref 0, .ref 1, cOI.enc xs, cI.enc n, cI.enc i] (cWm.enc ⟨h, ks⟩) K =
 bif decide (i < n) then
 if 0 <= i /\ i < (↑(List.length (encI xs)) : Int) then
 Option.bind (encI xs)[Int.toNat i]? fun e =>
 Option.bind e[0]? fun x =>
 Option.bind (asI IntKind.i64 x) fun n_1 => loopB k12a [2, 5, 18, 19, 20] o12 [false, true, false, true, true, true] (bodyL (bodyOf Tryz.f34) p12) m [CV.ref 0, CV.ref 1, CV.own 1 (encI xs), CV.int IntKind.i64 n, CV.int IntKind.i64 (IntKind.wrap IntKind.i64 (i + 1))] [[CV.sl 1 (encI (Hp.w h)), CV.sl 2 (List.map encP (Hp.p h)), CV.sl 1 (encI (Ls.a (Hp.f h))), CV.sl 1 (encI (Ls.b (Hp.f h))), CV.sl 1 (encI (Ls.c (Hp.f h))), CV.sl 1 (encBs (Hp.c h))], [CV.mpo (insK ks n_1)]] fun a a_1 a_2 => K a a_1 a_2
 else none
 else
 K (Exit.exit 0) [CV.ref 0, CV.ref 1] [[CV.sl 1 (encI (Hp.w h)), CV.sl 2 (List.map encP (Hp.p h)), CV.sl 1 (encI (Ls.a (Hp.f h))), CV.sl 1 (encI (Ls.b (Hp.f h))), CV.sl 1 (encI (Ls.c (Hp.f h))), CV.sl 1 (encBs (Hp.c h))], [CV.mpo ks]] := by kernel_rfl
theorem insK_contains (ks : List Int) (n a : Int) : (insK ks n).contains a = (ks.contains a || a == n) := by
  unfold insK
  cases h : ks.contains n with
  | false => rw [cond_false, Bool.eq_iff_iff]; simp
  | true =>
    rw [cond_true]
    by_cases e : a = n
    . subst e; rw [h]; rfl
    . rw [beq_eq_false_iff_ne.2 e, Bool.or_false]
theorem fold_contains (a : Int) : ∀ (xs ks : List Int), (xs.foldl insK ks).contains a = (ks.contains a || xs.contains a)
  | [], ks => by simp
  | x :: xs, ks => by
    rw [List.foldl_cons, fold_contains a xs, insK_contains, List.contains_cons, Bool.or_assoc]
theorem whole_loop (h : Hp) (xs : List Int) (hx : xs.length <= 4000000000) (β : Type) (K : Exit -> List CV -> List (List CV) -> Option β) : ∀ (m i : Nat) (ks : List Int), i + m = xs.length ->
    loopB k12a [2, 5, 18, 19, 20] o12 p12 (bodyL (bodyOf Tryz.f34) p12) (m + 1) [.ref 0, .ref 1, cOI.enc xs, cI.enc (xs.length : Int), cI.enc (i : Int)] (cWm.enc ⟨h, ks⟩) K = K (.exit 0) [.ref 0, .ref 1] (cWm.enc ⟨h, (xs.drop i).foldl insK ks⟩) := by
  intro m
  induction m with
  | zero =>
    intro i ks h1
    rw [t12, decide_eq_false (by omega), cond_false, List.drop_eq_nil_of_le (by omega)]
    rfl
  | succ m ih =>
    intro i ks h1
    have hii : i < xs.length := by omega
    have hin : (0 : Int) <= (i : Int) /\ (i : Int) < ((List.length (encI xs) : Nat) : Int) := by rw [encI_len]; omega
    have e1 : (encI xs)[(i : Int).toNat]? = some [CV.int .i64 xs[i]] := by simp [encI, hii]
    have w1 : IntKind.i64.wrap ((i : Int) + 1) = ((i + 1 : Nat) : Int) := by rw [wrap_in (by omega)]; omega
    rw [t12, decide_eq_true (by omega), cond_true, List.drop_eq_getElem_cons hii, List.foldl_cons]
    simp only [if_pos hin, e1, Option.bind_some, zero_get, asI_i, w1]
    exact ih (i + 1) (insK ks xs[i]) (by omega)
def L12 : LoopSem := l5 [2, 5, 18, 19, 20] o12 (cRef 0) (cRef 1) cOI cI cI cWm (fun _ _ xs n i s => Nat.ble xs.length 4000000000 && (i == 0 && (n == (xs.length : Int) && s.ks.isEmpty))) fun _ _ xs _ _ s => .one (.exit 0) [.ref 0, .ref 1] (cWm.enc ⟨s.h, xs.foldl insK []⟩)
noncomputable abbrev k12 : Cx := k12a.loop p12 L12
theorem k12_ok : CxOK k12 [(27, gMayHp), (85, gAllI), (80, gAllC), (79, gEvery)] := by
  refine CxOK.loop5 (CxOK.baseG (Good.cons mayHp_good (Good.cons catI_good (Good.cons allCG_good (Good.cons every_good Good.nil)))) GoodI.nil (eqOK_none fun _ => rfl)) rfl fun a b xs n i s hp => ?_
  obtain ⟨h, ks⟩ := s
  simp only [Bool.and_eq_true, beq_iff_eq, List.isEmpty_iff] at hp
  obtain ⟨hx, rfl, rfl, hks⟩ := hp
  have hks : ks = [] := hks
  subst hks
  refine ⟨xs.length + 1, fun β K => ?_⟩
  have := whole_loop h xs (Nat.le_of_ble_eq_true hx) β K xs.length 0 [] (by omega)
  rw [List.drop_zero] at this
  exact this
set_option maxRecDepth 100000 in
theorem r12 (h : Hp) (ls : List Ls) (β : Type) (K : CV -> List (List CV) -> Option β) : fnK k12 Tryz.f34 [cHp.enc h, cLss.enc ls] [] K =
 Option.bind (Option.bind (decI (encI (Hp.w h))) fun w =>
 Option.bind (decP (List.map encP (Hp.p h))) fun p =>
 Option.bind (decI (encI (Ls.a (Hp.f h)))) fun a =>
 Option.bind (decI (encI (Ls.b (Hp.f h)))) fun b =>
 Option.bind (decI (encI (Ls.c (Hp.f h)))) fun c =>
 Option.bind (decBs (encBs (Hp.c h))) fun d => some { w := w, p := p, f := { a := a, b := b, c := c }, c := d }) fun a =>
 Option.bind (decLs (List.map encLs ls)) fun b =>
 bif smH a && smLs (Hp.f a :: b) then
 bif !mayHpV a b then K (CV.bool false) []
 else
 if List.length ([[CV.sl 1 (encI (Ls.a (Hp.f h))), CV.sl 1 (encI (Ls.b (Hp.f h))), CV.sl 1 (encI (Ls.c (Hp.f h)))]] ++ List.map encLs ls) <= LIM then
 Option.bind (decLs ([CV.sl 1 (encI (Ls.a (Hp.f h))), CV.sl 1 (encI (Ls.b (Hp.f h))), CV.sl 1 (encI (Ls.c (Hp.f h)))] :: List.append [] (List.map encLs ls))) fun a =>
 bif smLs a then
 Option.bind (decI (encI (catI a))) fun c =>
 Option.bind (Option.bind (decW (encI (Hp.w h)) (List.map encP (Hp.p h)) (encI (Ls.a (Hp.f h))) (encI (Ls.b (Hp.f h))) (encI (Ls.c (Hp.f h))) (encBs (Hp.c h))) fun h => some { h := h, ks := [] }) fun u =>
 bif Nat.ble (List.length c) 4000000000 && ((↑(List.length (encI (catI a))) : Int) == (↑(List.length c) : Int) && List.isEmpty (WM.ks u)) then
 Option.bind (decP (List.map encP (Hp.p (WM.h u)))) fun ps =>
 bif Nat.ble (List.length ps) 200 then
 Option.bind (decI (atV (allCs ps))) fun a =>
 Option.bind (Clo.dec (CV.fn 86 [] [CV.pc [CV.sl 1 (encI (Hp.w (WM.h u))), CV.sl 2 (List.map encP (Hp.p (WM.h u))), CV.sl 1 (encI (Ls.a (Hp.f (WM.h u)))), CV.sl 1 (encI (Ls.b (Hp.f (WM.h u)))), CV.sl 1 (encI (Ls.c (Hp.f (WM.h u)))), CV.sl 1 (encBs (Hp.c (WM.h u)))] 0, CV.pc [CV.mp (List.foldl insK [] c)] 0])) fun b =>
 bif List.all a (Clo.pre b) && Nat.ble (List.length a) 100000 then
 K (CV.bool (List.all a (Clo.val b))) []
 else none
 else none
 else none
 else none
 else none
 else none := by kernel_rfl
def wholeHV (h : Hp) (ls : List Ls) : Bool := mayHpV h ls && (cellAs h.p).all fun a => bif wordE h a != 0 then true else (catI (h.f :: ls)).contains a
def gWhole : Callee := g2 cHp cLss (fun h ls => smH h && smLs (h.f :: ls)) fun h ls => cB.enc (wholeHV h ls)
theorem wholeV_all (h : Hp) (xs : List Int) : ∀ l : List Int, l.all (Clo.whole h (xs.foldl insK [])).val = l.all fun a => bif wordE h a != 0 then true else xs.contains a := fun l => by
  congr 1
  funext a
  show wholeV h (xs.foldl insK []) a = _
  unfold wholeV
  rw [fold_contains]
  simp
theorem whole_good : GoodC Pr 34 gWhole :=
  good2 (k12_ok.sound (cx := k12) Tryz.func34 (by kernel_rfl) (by kernel_rfl) rfl (by kernel_rfl)) fun h ls hp β K => by
    simp only [Bool.and_eq_true] at hp
    obtain ⟨hs, hls⟩ := hp
    obtain ⟨h1, h2⟩ := smLs_le hls
    have hL := lim_val
    have e : (⟨h.w, h.p, ⟨h.f.a, h.f.b, h.f.c⟩, h.c⟩ : Hp) = h := rfl
    have hss := smH_le hs
    have hcl := catI_len h2
    have dw : decW (encI h.w) (h.p.map encP) (encI h.f.a) (encI h.f.b) (encI h.f.c) (encBs h.c) = some h := decW_enc h
    rw [r12]
    simp only [decI_map, decP_map, decBs_enc, decLs_map, Option.bind_some, e, hs, hls, Bool.and_self, cond_true]
    unfold wholeHV
    cases hm : mayHpV h ls with
    | false => rfl
    | true =>
      have hsh := shaped_of hm
      have hc8 : (cellAs h.p).length <= 100000 := by
        have := Nat.le_of_ble_eq_true (all_len8 (ps := h.p) (Nat.ble_eq_true_of_le (smH_le hs).2.1))
        have e2 : (cellAs h.p).length = ((allCs h.p).map (·.1)).length := rfl
        omega
      have hpre : (cellAs h.p).all (Clo.whole h ((catI (h.f :: ls)).foldl insK [])).pre = true := by
        have := cells_pre hs hsh
        rw [List.all_eq_true] at this ⊢
        intro a ha
        have h3 : (inW h a && inP h a) = true := this a ha
        simp only [Bool.and_eq_true] at h3
        exact h3.1
      rw [Bool.not_true, cond_false, if_pos (by simp at h1 ⊢; omega)]
      simp only [de_ls, Option.bind_some, hls, cond_true, dw, encI_len, Nat.ble_eq_true_of_le (show (catI (h.f :: ls)).length <= 4000000000 by omega), beq_self_eq_true, List.isEmpty_nil, Bool.and_self,
        Nat.ble_eq_true_of_le (smH_le hs).2.1, atV_enc, cellAs_dec, de_whole, hpre, Nat.ble_eq_true_of_le hc8, wholeV_all, Bool.true_and]
      rfl
end Go.Ab

namespace Go.Ab
open Go
open Go.Proofs
noncomputable abbrev k7 : Cx := cxN Pr Tryz.f12 [(15, gFree), (34, gWhole)] [] (fun q => Nat.beq q 4)
set_option maxRecDepth 100000 in
theorem r7 (_u : Unit) (β : Type) (K : CV -> List (List CV) -> Option β) : fnK k7 Tryz.f12 [] [] K =
 bif smH { w := [0, 0, 0, 0, 0, 0, 0, 0, 41, 0, 0, 0, 0, 0, 0, 0], p := [(1, 2)], f := { a := [], b := [], c := [16] }, c := [false, false] } && smL1 { a := [], b := [], c := [16] } then
 bif Prod.snd (freeHE { w := [0, 0, 0, 0, 0, 0, 0, 0, 41, 0, 0, 0, 0, 0, 0, 0], p := [(1, 2)], f := { a := [], b := [], c := [16] }, c := [false, false] } 24) == 0 then
 bif (↑(List.length (List.map encP (Hp.p (Prod.fst (freeHE { w := [0, 0, 0, 0, 0, 0, 0, 0, 41, 0, 0, 0, 0, 0, 0, 0], p := [(1, 2)], f := { a := [], b := [], c := [16] }, c := [false, false] } 24))))) : Int) == 1 then
 Option.bind (rdE (List.map encP (Hp.p (Prod.fst (freeHE { w := [0, 0, 0, 0, 0, 0, 0, 0, 41, 0, 0, 0, 0, 0, 0, 0], p := [(1, 2)], f := { a := [], b := [], c := [16] }, c := [false, false] } 24)))) 0) fun c =>
 Option.bind c[0]? fun x =>
 Option.bind (asI IntKind.i64 x) fun n =>
 bif n == 0 then
 bif (↑(List.length (encI (Ls.c (Hp.f (Prod.fst (freeHE { w := [0, 0, 0, 0, 0, 0, 0, 0, 41, 0, 0, 0, 0, 0, 0, 0], p := [(1, 2)], f := { a := [], b := [], c := [16] }, c := [false, false] } 24)))))) : Int) == 0 then
 Option.bind (Option.bind (decI (encI (Hp.w (Prod.fst (freeHE { w := [0, 0, 0, 0, 0, 0, 0, 0, 41, 0, 0, 0, 0, 0, 0, 0], p := [(1, 2)], f := { a := [], b := [], c := [16] }, c := [false, false] } 24))))) fun w =>
 Option.bind (decP (List.map encP (Hp.p (Prod.fst (freeHE { w := [0, 0, 0, 0, 0, 0, 0, 0, 41, 0, 0, 0, 0, 0, 0, 0], p := [(1, 2)], f := { a := [], b := [], c := [16] }, c := [false, false] } 24))))) fun p =>
 Option.bind (decI (encI (Ls.a (Hp.f (Prod.fst (freeHE { w := [0, 0, 0, 0, 0, 0, 0, 0, 41, 0, 0, 0, 0, 0, 0, 0], p := [(1, 2)], f := { a := [], b := [], c := [16] }, c := [false, false] } 24)))))) fun a =>
 Option.bind (decI (encI (Ls.b (Hp.f (Prod.fst (freeHE { w := [0, 0, 0, 0, 0, 0, 0, 0, 41, 0, 0, 0, 0, 0, 0, 0], p := [(1, 2)], f := { a := [], b := [], c := [16] }, c := [false, false] } 24)))))) fun b =>
 Option.bind (decI (encI (Ls.c (Hp.f (Prod.fst (freeHE { w := [0, 0, 0, 0, 0, 0, 0, 0, 41, 0, 0, 0, 0, 0, 0, 0], p := [(1, 2)], f := { a := [], b := [], c := [16] }, c := [false, false] } 24)))))) fun c =>
 Option.bind (decBs (encBs (Hp.c (Prod.fst (freeHE { w := [0, 0, 0, 0, 0, 0, 0, 0, 41, 0, 0, 0, 0, 0, 0, 0], p := [(1, 2)], f := { a := [], b := [], c := [16] }, c := [false, false] } 24))))) fun d => some { w := w, p := p, f := { a := a, b := b, c := c }, c := d }) fun a => bif smH a && smLs [Hp.f a] then K (CV.bool (wholeHV a [])) [] else none
 else K (CV.bool false) []
 else K (CV.bool false) []
 else K (CV.bool false) []
 else K (CV.bool false) []
 else none := by kernel_rfl
def hA : Hp := ⟨[0, 0, 0, 0, 0, 0, 0, 0, 41, 0, 0, 0, 0, 0, 0, 0], [(1, 2)], ⟨[], [], [16]⟩, [false, false]⟩
def hB : Hp := ⟨[0, 0, 0, 0, 0, 0, 0, 0, 0, 0, 0, 0, 0, 0, 0, 0], [(0, 0)], ⟨[], [], []⟩, [false, false]⟩
theorem hA_shaped : shapedE hA = true := by kernel_rfl
theorem hA_listed : listedV hA hA.f = true := by kernel_rfl
theorem hA_cells : (cellAs hA.p).all (mayV hA) = true := by kernel_rfl
theorem hA_apart : apartV [hA.f] = true := by
  have h1 : catI [hA.f] = [16] := rfl
  have h2 : sortI [16] = [16] := by simp [sortI]
  unfold apartV
  rw [h1, h2]
  rfl
theorem hA_may : mayHpV hA [] = true := by
  unfold mayHpV
  rw [hA_shaped, hA_cells, hA_apart]
  simp only [List.all_cons, List.all_nil, hA_listed, Bool.and_self]
theorem hA_head : headE hA 24 = (unpX hA 24, 0) := by
  unfold headE
  rw [hA_may, show (roomA hA.p 24 == 0) = false by kernel_rfl, show (unpX hA 24).a = true by kernel_rfl]
  rfl
theorem hA_free : freeHE hA 24 = (hB, 0) := by
  unfold freeHE
  rw [hA_head]
  show (freeH hA 24, 0) = _
  rw [show freeH hA 24 = hB by kernel_rfl]
theorem hB_shaped : shapedE hB = true := by kernel_rfl
theorem hB_listed : listedV hB hB.f = true := by kernel_rfl
theorem hB_cells : (cellAs hB.p).all (mayV hB) = true := by kernel_rfl
theorem hB_apart : apartV [hB.f] = true := by
  have h1 : catI [hB.f] = [] := rfl
  have h2 : sortI [] = [] := by simp [sortI]
  unfold apartV
  rw [h1, h2]
  rfl
theorem hB_may : mayHpV hB [] = true := by
  unfold mayHpV
  rw [hB_shaped, hB_cells, hB_apart]
  simp only [List.all_cons, List.all_nil, hB_listed, Bool.and_self]
theorem hB_whole : wholeHV hB [] = true := by
  unfold wholeHV
  rw [hB_may, show cellAs hB.p = [] by kernel_rfl]
  rfl
def gAwake : Callee := g0 true (.bool true)
theorem awake_good : GoodC Pr 12 gAwake :=
  good0 ((CxOK.baseN (Good.cons freeR_good (Good.cons whole_good Good.nil)) GoodI.nil (eqOK_none fun _ => rfl)).sound (cx := k7) Tryz.func12 (by kernel_rfl) (by kernel_rfl) rfl (by kernel_rfl)) fun _ _ β K => by
    rw [r7 ()]
    have eA : (⟨[0, 0, 0, 0, 0, 0, 0, 0, 41, 0, 0, 0, 0, 0, 0, 0], [(1, 2)], ⟨[], [], [16]⟩, [false, false]⟩ : Hp) = hA := rfl
    rw [eA, hA_free, show (smH hA && smL1 ⟨[], [], [16]⟩) = true by kernel_rfl]
    have e : (⟨hB.w, hB.p, ⟨hB.f.a, hB.f.b, hB.f.c⟩, hB.c⟩ : Hp) = hB := rfl
    have g1 : ((List.length (List.map encP hB.p) : Nat) : Int) = 1 := rfl
    have g2 : (rdE (List.map encP hB.p) 0) = some (encP (0, 0)) := rfl
    have g3 : (encP (0, 0))[0]? = some (.int .i64 0) := rfl
    have g4 : ((List.length (encI hB.f.c) : Nat) : Int) = 0 := rfl
    simp only [decI_map, decP_map, decBs_enc, Option.bind_some, e, g1, g2, g3, g4, asI_1, beq_self_eq_true, cond_true, decLs, show (smH hB && smLs [hB.f]) = true by kernel_rfl, hB_whole]
end Go.Ab

namespace Go.Ab
open Go
open Go.Proofs
end Go.Ab

namespace Go.Ab
open Go
open Go.Proofs
theorem pig : ∀ (n : Nat) (L : List Nat), L.Nodup -> (∀ x ∈ L, x < n) -> L.length <= n
  | 0, L, _, h => by
    cases L with
    | nil => exact Nat.le_refl _
    | cons x _ => exact absurd (h x (by simp)) (by omega)
  | n + 1, L, hn, h => by
    by_cases hm : n ∈ L
    . have h1 := pig n (L.erase n) (hn.erase n) fun x hx => by
        obtain ⟨h2, h3⟩ := hn.mem_erase_iff.1 hx
        have := h x h3
        omega
      rw [List.length_erase_of_mem hm] at h1
      omega
    . have := pig n L hn fun x hx => by
        have h2 := h x hx
        have : x ≠ n := fun e => hm (e ▸ hx)
        omega
      omega
theorem apartV_iff (ls : List Ls) : apartV ls = true ↔ (catI ls).Nodup := by
  have hp := List.mergeSort_perm (catI ls) fun x y => decide (x <= y)
  have hs := List.pairwise_mergeSort (le := fun x y : Int => decide (x <= y)) (fun a b c h1 h2 => decide_eq_true (Int.le_trans (of_decide_eq_true h1) (of_decide_eq_true h2))) (fun a b => by
    simp only [Bool.or_eq_true, decide_eq_true_eq]; omega) (catI ls)
  rw [<- hp.nodup_iff]
  unfold apartV
  rw [Nat.beq_eq, <- sortI_len (catI ls)]
  change _ at hs
  have hs : List.Pairwise (fun a b : Int => decide (a <= b) = true) (sortI (catI ls)) := hs
  show _ ↔ (sortI (catI ls)).Nodup
  generalize sortI (catI ls) = zs at hs
  unfold Lib.compact Lib.compactUpTo
  rw [List.length_map]
  have h1 : ((List.range zs.length).filter (Lib.keeps zs.toArray)).length = zs.length ↔ ∀ a ∈ List.range zs.length, Lib.keeps zs.toArray a = true := by
    rw [<- List.length_filter_eq_length_iff, List.length_range]
  rw [h1, List.nodup_iff_pairwise_ne, List.pairwise_iff_getElem]
  rw [List.pairwise_iff_getElem] at hs
  have gz : ∀ j (hj : j < zs.length), zs.toArray[j]! = zs[j] := fun j hj => by simp [hj]
  constructor
  . intro h
    have adj : ∀ j (hj : j + 1 < zs.length), zs[j] < zs[j + 1] := fun j hj => by
      have h2 := h (j + 1) (by simp; omega)
      simp only [Lib.keeps, decide_eq_true_eq] at h2
      rcases h2 with h2 | h2
      . omega
      . rw [gz (j + 1) hj, show j + 1 - 1 = j from rfl, gz j (by omega)] at h2
        have h3 := of_decide_eq_true (hs j (j + 1) (by omega) hj (by omega))
        omega
    have lt : ∀ (d i : Nat) (hj : i + d + 1 < zs.length), zs[i] < zs[i + d + 1] := fun d => by
      induction d with
      | zero => intro i hj; exact adj i hj
      | succ d ih =>
        intro i hj
        have h2 := ih i (by omega)
        have h3 := adj (i + d + 1) (by omega)
        have : zs[i + (d + 1) + 1] = zs[i + d + 1 + 1] := rfl
        omega
    intro i j hi hj hij
    have := lt (j - i - 1) i (by omega)
    have e : i + (j - i - 1) + 1 = j := by omega
    simp only [e] at this
    omega
  . intro h a ha
    have ha : a < zs.length := by simpa using ha
    simp only [Lib.keeps, decide_eq_true_eq]
    cases a with
    | zero => exact .inl rfl
    | succ a =>
      refine .inr ?_
      rw [gz (a + 1) ha, show a + 1 - 1 = a from rfl, gz a (by omega)]
      exact (h a (a + 1) (by omega) ha (by omega)).symm
theorem get_set {l : Ls} {x : List Int} {k k' : Nat} (hk : k < 3) (hk' : k' < 3) : (l.set x k').get k = if k = k' then x else l.get k := by
  have h1 : k = 0 \/ k = 1 \/ k = 2 := by omega
  have h2 : k' = 0 \/ k' = 1 \/ k' = 2 := by omega
  rcases h1 with rfl | rfl | rfl <;> rcases h2 with rfl | rfl | rfl <;> rfl
theorem backs_snoc : ∀ (m i : Nat) (h : Hp), backs (m + 1) i h = backH (backs m i h) (i + m)
  | 0, _, _ => rfl
  | m + 1, i, h => by
    show backs (m + 1) (i + 1) (backH h i) = _
    rw [backs_snoc m (i + 1) (backH h i)]
    show backH (backs m (i + 1) (backH h i)) (i + 1 + m) = backH (backs (m + 1) i h) (i + (m + 1))
    rw [show i + 1 + m = i + (m + 1) by omega]
    rfl
def clsE (h : Hp) (j : Nat) : Nat := ((h.p.getD j (0, 0)).2).toNat
def rem (h : Hp) (m k : Nat) (x : Int) : Bool := (List.range m).any fun j => hitE h j && (Nat.beq (clsE h j) k && inR (loE j) (loE j + 16) x)
theorem inR_iff {j : Nat} {x : Int} : inR (loE j) (loE j + 16) x = true ↔ x / 16 - 1 = (j : Int) := by
  unfold inR loE
  by_cases h1 : x >= ((j + 1 : Nat) : Int) * 16
  . rw [decide_eq_true h1, cond_true, decide_eq_true_eq]; omega
  . rw [decide_eq_false h1, cond_false]
    constructor
    . intro h; cases h
    . intro h; omega
theorem rem_succ (h : Hp) (m k : Nat) (x : Int) : rem h (m + 1) k x = (rem h m k x || (hitE h m && (Nat.beq (clsE h m) k && inR (loE m) (loE m + 16) x))) := by
  unfold rem
  rw [List.range_succ, List.any_append]
  simp
theorem rem_iff {h : Hp} {m k : Nat} {x : Int} : rem h m k x = true ↔ ∃ j, j < m /\ hitE h j = true /\ clsE h j = k /\ x / 16 - 1 = (j : Int) := by
  unfold rem
  rw [List.any_eq_true]
  constructor
  . rintro ⟨j, h1, h2⟩
    simp only [Bool.and_eq_true, Nat.beq_eq, inR_iff] at h2
    exact ⟨j, by simpa using h1, h2.1, h2.2.1, h2.2.2⟩
  . rintro ⟨j, h1, h2, h3, h4⟩
    refine ⟨j, by simpa using h1, ?_⟩
    simp only [Bool.and_eq_true, Nat.beq_eq, inR_iff]
    exact ⟨h2, h3, h4⟩
theorem hit_small {h : Hp} {j : Nat} (hh : hitE h j = true) : ∃ c, h.p[j]? = some (1, c) /\ (((partOut h.f c (loE j) (loE j + 16)).length : Nat) : Int) = cellsN c := by
  unfold hitE at hh
  cases hp : h.p[j]? with
  | none => rw [hp] at hh; cases hh
  | some p =>
    obtain ⟨k, c⟩ := p
    rw [hp] at hh
    simp only [Bool.and_eq_true, beq_iff_eq] at hh
    obtain ⟨rfl, h2⟩ := hh
    exact ⟨c, rfl, h2⟩
theorem backs_fin (h : Hp) (hk : okW h = true) : ∀ m, m <= h.p.length -> (backs m 0 h).w = h.w /\ (backs m 0 h).c = h.c /\ okW (backs m 0 h) = true /\
    (∀ j, (backs m 0 h).p[j]? = if j < m /\ hitE h j = true then some (0, 0) else h.p[j]?) /\ ∀ k, k < 3 -> (backs m 0 h).f.get k = (h.f.get k).filter fun x => !rem h m k x := by
  intro m
  induction m with
  | zero =>
    intro _
    refine ⟨rfl, rfl, hk, fun j => by simp [backs], fun k _ => ?_⟩
    show h.f.get k = _
    rw [List.filter_eq_self.2]
    intro x _
    simp [rem]
  | succ m ih =>
    intro hm
    obtain ⟨h1, h2, h3, h4, h5⟩ := ih (by omega)
    rw [backs_snoc, Nat.zero_add]
    generalize backs m 0 h = r at h1 h2 h3 h4 h5
    have hpm : r.p[m]? = h.p[m]? := by rw [h4 m]; simp
    have hgd : r.p.getD m (0, 0) = h.p.getD m (0, 0) := by rw [List.getD_eq_getElem?_getD, List.getD_eq_getElem?_getD, hpm]
    have hpart : ∀ c, h.p[m]? = some (1, c) -> partOut r.f c (loE m) (loE m + 16) = partOut h.f c (loE m) (loE m + 16) /\ c.toNat < 3 := fun c hc => by
      simp only [okW, Bool.and_eq_true] at hk
      obtain ⟨_, _, q3⟩ := small_drop hk.1 hc
      have hc3 : c.toNat < 3 := by rcases isC_cases q3 with rfl | rfl | rfl <;> decide
      refine ⟨?_, hc3⟩
      unfold partOut
      rw [h5 _ hc3, List.filter_filter]
      refine List.filter_congr fun x _ => ?_
      cases hx : inR (loE m) (loE m + 16) x with
      | false => rfl
      | true =>
        have hr : rem h m c.toNat x = false := by
          cases hr : rem h m c.toNat x with
          | false => rfl
          | true =>
            obtain ⟨j, g1, _, _, g4⟩ := rem_iff.1 hr
            have := inR_iff.1 hx
            omega
        rw [hr]; rfl
    have hhit : hitE r m = hitE h m := by
      unfold hitE
      rw [hpm]
      cases hp : h.p[m]? with
      | none => rfl
      | some p =>
        obtain ⟨k, c⟩ := p
        dsimp only
        by_cases hk1 : k = 1
        . subst hk1
          rw [(hpart c hp).1]
        . have : (k == 1) = false := beq_eq_false_iff_ne.2 hk1
          rw [this, Bool.false_and, Bool.false_and]
    obtain ⟨b1, b2⟩ := back_ok h3 m
    unfold backH at b1 b2 ⊢
    rw [hhit] at b1 b2 ⊢
    cases hb : hitE h m with
    | false =>
      rw [cond_false]
      refine ⟨h1, h2, h3, fun j => ?_, fun k hk3 => ?_⟩
      . rw [h4 j]
        by_cases hj : j = m
        . subst hj; simp [hb]
        . by_cases h6 : j < m
          . simp [h6, show j < m + 1 by omega]
          . simp [h6, show ¬ j < m + 1 by omega]
      . rw [h5 k hk3]
        refine List.filter_congr fun x _ => ?_
        rw [rem_succ, hb]; simp
    | true =>
      rw [hb] at b1
      rw [cond_true] at b1 ⊢
      obtain ⟨c, hc, _⟩ := hit_small hb
      obtain ⟨_, hc3⟩ := hpart c hc
      have hcd : h.p.getD m (0, 0) = (1, c) := by rw [List.getD_eq_getElem?_getD, hc]; rfl
      refine ⟨h1, h2, b1, fun j => ?_, fun k hk3 => ?_⟩
      . show (r.p.set m (0, 0))[j]? = _
        rw [List.getElem?_set]
        by_cases hj : m = j
        . subst hj
          have : m < r.p.length := by
            rcases Nat.lt_or_ge m r.p.length with hlt | hge
            . exact hlt
            . rw [List.getElem?_eq_none hge] at hpm; rw [hc] at hpm; cases hpm
          rw [if_pos rfl, if_pos this, if_pos ⟨by omega, hb⟩]
        . rw [if_neg hj, h4 j]
          by_cases h6 : j < m
          . simp [h6, show j < m + 1 by omega]
          . simp [h6, show ¬ j < m + 1 by omega]
      . show (partL r.f (r.p.getD m (0, 0)).2 _ _).get k = _
        rw [hgd, hcd]
        unfold partL
        rw [get_set hk3 hc3]
        have hcl : clsE h m = c.toNat := by unfold clsE; rw [hcd]
        by_cases hkc : k = c.toNat
        . rw [if_pos hkc, hkc, h5 _ hc3, List.filter_filter]
          refine List.filter_congr fun x _ => ?_
          rw [rem_succ, hb, hcl, Nat.beq_refl]
          cases rem h m c.toNat x <;> cases inR (loE m) (loE m + 16) x <;> rfl
        . rw [if_neg hkc, h5 k hk3]
          refine List.filter_congr fun x _ => ?_
          have : Nat.beq c.toNat k = false := by
            cases hq : Nat.beq c.toNat k with
            | false => rfl
            | true => exact absurd (Nat.eq_of_beq_eq_true hq).symm hkc
          rw [rem_succ, hb, hcl, this]
          simp
end Go.Ab

namespace Go.Ab
open Go
open Go.Proofs
theorem listed_iff {h : Hp} {l : Ls} : listedV h l = true ↔ ∀ k, k < 3 -> ∀ e ∈ l.get k, listV h k e = true := by
  unfold listedV
  simp only [Bool.and_eq_true, List.all_eq_true]
  constructor
  . rintro ⟨h1, h2, h3⟩ k hk e he
    have : k = 0 \/ k = 1 \/ k = 2 := by omega
    rcases this with rfl | rfl | rfl
    . exact h1 e he
    . exact h2 e he
    . exact h3 e he
  . intro hh
    exact ⟨fun e he => hh 0 (by omega) e he, fun e he => hh 1 (by omega) e he, fun e he => hh 2 (by omega) e he⟩
theorem listV_facts {h : Hp} {k e : Int} (hl : listV h k e = true) : roomA h.p e > 0 /\ pageE h e = (1, k) /\ wordE h e = 0 := by
  unfold listV at hl
  simp only [Bool.and_eq_true, decide_eq_true_eq, beq_iff_eq] at hl
  obtain ⟨h1, ⟨h2, h3⟩, h4⟩ := hl
  exact ⟨h1, Prod.ext h2 h3, h4⟩
theorem listV_at {h : Hp} {k e : Int} (hl : listV h k e = true) : ∃ j : Nat, e / 16 - 1 = (j : Int) /\ h.p[j]? = some (1, k) /\ 0 <= k /\ k <= 2 /\ (e % 16) % wordsOf k = 0 := by
  obtain ⟨h1, h2, _⟩ := listV_facts hl
  obtain ⟨_, f1, f2, f3, p, f4, f5, f6⟩ := cell_facts h1
  have hp : p = (1, k) := f5.symm.trans h2
  subst hp
  refine ⟨(e / 16 - 1).toNat, f3.symm, f4, ?_⟩
  rcases f6 with ⟨g, _⟩ | ⟨_, g1, g2, g3, _⟩
  . cases g
  . exact ⟨g1, g2, g3⟩
theorem cellsN_nonneg (k : Int) : 0 <= cellsN k := by
  unfold cellsN
  split
  . exact Int.le_refl _
  . refine Int.ediv_nonneg (by omega) ?_
    unfold wordsOf
    repeat' split
    all_goals omega
theorem count_le {h : Hp} {k : Int} {j : Nat} {L : List Int} (hn : L.Nodup) (hl : ∀ e ∈ L, listV h k e = true /\ e / 16 - 1 = (j : Int)) : (L.length : Int) <= cellsN k := by
  cases hL : L with
  | nil => exact cellsN_nonneg k
  | cons e0 r =>
    rw [<- hL]
    obtain ⟨_, _, _, k0, k2, _⟩ := listV_at (hl e0 (by rw [hL]; simp)).1
    obtain ⟨w, hw, hc, hw2⟩ : ∃ w : Int, wordsOf k = w /\ cellsN k = 16 / w /\ (w = 2 \/ w = 4 \/ w = 8) := by
      rcases words_val k0 k2 with ⟨rfl, e⟩ | ⟨rfl, e⟩ | ⟨rfl, e⟩
      . exact ⟨2, e, rfl, .inl rfl⟩
      . exact ⟨4, e, rfl, .inr (.inl rfl)⟩
      . exact ⟨8, e, rfl, .inr (.inr rfl)⟩
    have hf : ∀ e ∈ L, e % 16 % w = 0 /\ e / 16 - 1 = (j : Int) := fun e he => by
      obtain ⟨g1, g2⟩ := hl e he
      obtain ⟨_, _, _, _, _, g3⟩ := listV_at g1
      rw [hw] at g3
      exact ⟨g3, g2⟩
    have h1 := pig (16 / w).toNat (L.map fun e => (e % 16 / w).toNat) (by
      rw [List.nodup_iff_pairwise_ne] at hn ⊢
      rw [List.pairwise_map]
      refine List.Pairwise.imp_of_mem (fun {x y} hx hy hxy => ?_) hn
      obtain ⟨a1, a2⟩ := hf x hx
      obtain ⟨b1, b2⟩ := hf y hy
      intro hq
      apply hxy
      rcases hw2 with rfl | rfl | rfl <;> omega) (fun x hx => by
      obtain ⟨e, he, rfl⟩ := List.mem_map.1 hx
      obtain ⟨a1, a2⟩ := hf e he
      rcases hw2 with rfl | rfl | rfl <;> omega)
    rw [List.length_map] at h1
    rw [hc]
    rcases hw2 with rfl | rfl | rfl <;> omega
theorem app3_get (f l : Ls) : ∀ k, (app3 f l).get k = f.get k ++ l.get k
  | 0 => rfl
  | 1 => rfl
  | _ + 2 => rfl
theorem get_sub (l : Ls) : ∀ k, (l.get k).Sublist (one3 l)
  | 0 => by
    show l.a.Sublist (l.a ++ l.b ++ l.c)
    rw [List.append_assoc]; exact List.sublist_append_left _ _
  | 1 => by
    show l.b.Sublist (l.a ++ l.b ++ l.c)
    exact (List.sublist_append_right _ _).trans (List.sublist_append_left _ _)
  | _ + 2 => List.sublist_append_right _ _
theorem swp (x y z : List Int) : (x ++ (y ++ z)).Perm (y ++ (x ++ z)) := by
  rw [<- List.append_assoc, <- List.append_assoc]
  exact List.Perm.append_right z List.perm_append_comm
theorem one3_app (f l : Ls) : (one3 (app3 f l)).Perm (one3 f ++ one3 l) := by
  show (f.a ++ l.a ++ (f.b ++ l.b) ++ (f.c ++ l.c)).Perm (f.a ++ f.b ++ f.c ++ (l.a ++ l.b ++ l.c))
  simp only [List.append_assoc]
  refine List.Perm.append_left _ ?_
  exact (swp _ _ _).trans (List.Perm.append_left _ ((List.Perm.append_left _ (swp _ _ _)).trans (swp _ _ _)))
structure MayF (h : Hp) (ls : List Ls) : Prop where
  sh : shapedE h = true
  li : ∀ l ∈ h.f :: ls, listedV h l = true
  ce : ∀ c ∈ cellAs h.p, mayV h c = true
  nd : (catI (h.f :: ls)).Nodup
theorem mayF_iff {h : Hp} {ls : List Ls} : mayHpV h ls = true ↔ MayF h ls := by
  unfold mayHpV
  simp only [Bool.and_eq_true, List.all_eq_true, apartV_iff]
  exact ⟨fun ⟨a, b, c, d⟩ => ⟨a, b, c, d⟩, fun ⟨a, b, c, d⟩ => ⟨a, b, c, d⟩⟩
theorem backH_len (h : Hp) (i : Nat) : (backH h i).p.length = h.p.length := by
  unfold backH
  cases hitE h i <;> simp
theorem backs_len : ∀ (m i : Nat) (h : Hp), (backs m i h).p.length = h.p.length
  | 0, _, _ => rfl
  | m + 1, i, h => (backs_len m (i + 1) (backH h i)).trans (backH_len h i)
theorem partOut_eq (f : Ls) (c : Int) (j : Nat) : partOut f c (loE j) (loE j + 16) = (f.get c.toNat).filter (inR (loE j) (loE j + 16)) := rfl
end Go.Ab

namespace Go.Ab
open Go
open Go.Proofs
theorem one3_mem {l : Ls} {e : Int} : e ∈ one3 l ↔ ∃ k, k < 3 /\ e ∈ l.get k := by
  show e ∈ l.a ++ l.b ++ l.c ↔ _
  simp only [List.mem_append]
  constructor
  . rintro ((h | h) | h)
    . exact ⟨0, by omega, h⟩
    . exact ⟨1, by omega, h⟩
    . exact ⟨2, by omega, h⟩
  . rintro ⟨k, hk, h⟩
    have : k = 0 \/ k = 1 \/ k = 2 := by omega
    rcases this with rfl | rfl | rfl
    . exact .inl (.inl h)
    . exact .inl (.inr h)
    . exact .inr h
theorem catI_cons (l : Ls) (ls : List Ls) : catI (l :: ls) = one3 l ++ catI ls := rfl
abbrev addF (h : Hp) (a : Ls) : Hp := { h with f := app3 h.f a }
theorem same_at {h x : Hp} {e : Int} (hw : x.w = h.w) (hl : x.p.length = h.p.length) (hm : may x.p = may h.p) (hp : x.p[(e / 16 - 1).toNat]? = h.p[(e / 16 - 1).toNat]?) : roomA x.p e = roomA h.p e /\ pageE x e = pageE h e /\ wordE x e = wordE h e := by
  have hg : x.p.getD (e / 16 - 1).toNat (0, 0) = h.p.getD (e / 16 - 1).toNat (0, 0) := by rw [List.getD_eq_getElem?_getD, List.getD_eq_getElem?_getD, hp]
  refine ⟨?_, hg, ?_⟩
  . rw [roomA_doc, roomA_doc, hm, hl, hg]
  . unfold wordE; rw [hw]
section
variable {h : Hp} {a : Ls} {ls : List Ls}
theorem MayF.okW_add (hm : MayF h (a :: ls)) (hs : smL (app3 h.f a) = true) : okW (addF h a) = true := by
  obtain ⟨q1, _, _⟩ := shaped_ne hm.sh
  show (may h.p && smL (app3 h.f a)) = true
  rw [q1, hs]; rfl
theorem MayF.alone (hm : MayF h (a :: ls)) {l : Ls} (hl : l ∈ ls) {k : Nat} (hk : k < 3) {e : Int} (he : e ∈ l.get k) {j : Nat} (hj : e / 16 - 1 = (j : Int)) : hitE (addF h a) j = false := by
  cases hh : hitE (addF h a) j with
  | false => rfl
  | true =>
    exfalso
    obtain ⟨c, hc, hlen⟩ := hit_small hh
    have hle := listed_iff.1 (hm.li l (by simp [hl])) k hk e he
    obtain ⟨j', hj', hp', _⟩ := listV_at hle
    have : j' = j := by omega
    subst this
    have hck : c = (k : Int) := by
      have hc' : h.p[j']? = some (1, c) := hc
      rw [hc'] at hp'
      injection hp' with hp'
      exact (Prod.mk.inj hp').2
    subst hck
    have hpo : partOut (addF h a).f (k : Int) (loE j') (loE j' + 16) = (h.f.get k ++ a.get k).filter (inR (loE j') (loE j' + 16)) := by
      rw [partOut_eq, Int.toNat_natCast]
      show ((app3 h.f a).get k).filter _ = _
      rw [app3_get]
    rw [hpo] at hlen
    have hnd := hm.nd
    rw [catI_cons, catI_cons] at hnd
    have hsub : (h.f.get k ++ a.get k).Sublist (one3 h.f ++ one3 a) := (get_sub _ _).append (get_sub _ _)
    rw [<- List.append_assoc] at hnd
    obtain ⟨n1, _, n3⟩ := List.nodup_append.1 hnd
    have hmem : e ∈ catI ls := List.mem_flatMap.2 ⟨l, hl, one3_mem.2 ⟨k, hk, he⟩⟩
    have hLn : (e :: (h.f.get k ++ a.get k).filter (inR (loE j') (loE j' + 16))).Nodup := by
      rw [List.nodup_cons]
      refine ⟨fun hin => ?_, (n1.sublist hsub).sublist List.filter_sublist⟩
      exact n3 e (hsub.subset ((List.mem_filter.1 hin).1)) e hmem rfl
    have := count_le (h := h) (k := (k : Int)) (j := j') hLn fun x hx => by
      rcases List.mem_cons.1 hx with rfl | hx
      . exact ⟨hle, hj⟩
      . obtain ⟨h1, h2⟩ := List.mem_filter.1 hx
        refine ⟨?_, inR_iff.1 h2⟩
        rcases List.mem_append.1 h1 with h1 | h1
        . exact listed_iff.1 (hm.li h.f (by simp)) k hk x h1
        . exact listed_iff.1 (hm.li a (by simp)) k hk x h1
    simp only [List.length_cons] at this
    omega
theorem flush_fin (hm : MayF h (a :: ls)) (hs : smL (app3 h.f a) = true) : (flushH h a).w = h.w /\ (flushH h a).c = h.c /\ okW (flushH h a) = true /\ (flushH h a).p.length = h.p.length /\
    (∀ j, (flushH h a).p[j]? = if hitE (addF h a) j = true then some (0, 0) else h.p[j]?) /\ ∀ k, k < 3 -> (flushH h a).f.get k = (h.f.get k ++ a.get k).filter fun x => !rem (addF h a) h.p.length k x := by
  obtain ⟨h1, h2, h3, h4, h5⟩ := backs_fin (addF h a) (hm.okW_add hs) h.p.length (Nat.le_refl _)
  refine ⟨h1, h2, h3, backs_len _ _ _, fun j => ?_, fun k hk => ?_⟩
  . refine (h4 j).trans ?_
    by_cases hh : hitE (addF h a) j = true
    . obtain ⟨c, hc, _⟩ := hit_small hh
      have : j < h.p.length := (List.getElem?_eq_some_iff.1 hc).1
      rw [if_pos ⟨this, hh⟩, if_pos hh]
    . rw [if_neg fun q => hh q.2, if_neg hh]
  . refine (h5 k hk).trans ?_
    show ((app3 h.f a).get k).filter _ = _
    rw [app3_get]
end
theorem MayF.one {h : Hp} {a : Ls} {ls : List Ls} (hm : MayF h (a :: ls)) : MayF h [a] := by
  refine ⟨hm.sh, fun l hl => hm.li l (by simp only [List.mem_cons, List.not_mem_nil, or_false] at hl ⊢; rcases hl with h | h <;> simp [h]), hm.ce, ?_⟩
  have hnd := hm.nd
  rw [catI_cons, catI_cons] at hnd ⊢
  refine hnd.sublist (List.Sublist.append (List.Sublist.refl _) (List.Sublist.append (List.Sublist.refl _) ?_))
  exact List.nil_sublist _
end Go.Ab

namespace Go.Ab
open Go
open Go.Proofs
section
variable {h : Hp} {a b : Ls}
end
end Go.Ab

namespace Go.Ab
open Go
open Go.Proofs
theorem light_le {l : Ls} (h : lightV l = true) : l.a.length <= 70 /\ l.b.length <= 70 /\ l.c.length <= 70 := by
  simp only [lightV, Bool.and_eq_true, decide_eq_true_eq] at h
  omega
theorem few_le {h : Hp} {ls : List Ls} (hf : fewV h ls = true) : h.w.length <= 130 /\ h.p.length <= 9 /\ h.c.length <= 20 /\ lightV h.f = true /\ (∀ l ∈ ls, lightV l = true) /\ ls.length <= 4 := by
  simp only [fewV, fewH, Bool.and_eq_true, decide_eq_true_eq, List.all_eq_true] at hf
  obtain ⟨⟨⟨h1, h2, h3, h4⟩, h5⟩, h6⟩ := hf
  exact ⟨by omega, by omega, by omega, h4, h5, by omega⟩
theorem smH_of {h : Hp} (h1 : h.w.length <= 100000) (h2 : h.p.length <= 200) (h3 : h.c.length <= 100000) (h4 : smL h.f = true) : smH h = true := by
  simp only [smH, sm, Nat.ble_eq_true_of_le h1, Nat.ble_eq_true_of_le h2, Nat.ble_eq_true_of_le h3, h4, Bool.and_self]
theorem light_sm {l : Ls} (h : lightV l = true) : smL l = true := by
  obtain ⟨h1, h2, h3⟩ := light_le h
  exact smL_len (by omega) (by omega) (by omega)
theorem smL_app3 {f l : Ls} {n m : Nat} (hf : ∀ k, k < 3 -> (f.get k).length <= n) (hl : ∀ k, k < 3 -> (l.get k).length <= m) (h : n + m <= 100000) : smL (app3 f l) = true /\ ∀ k, k < 3 -> ((app3 f l).get k).length <= n + m := by
  have g : ∀ k, k < 3 -> ((app3 f l).get k).length <= n + m := fun k hk => by
    rw [app3_get, List.length_append]
    have h1 := hf k hk
    have h2 := hl k hk
    omega
  refine ⟨smL_len ?_ ?_ ?_, g⟩
  . exact Nat.le_trans (g 0 (by omega)) h
  . exact Nat.le_trans (g 1 (by omega)) h
  . exact Nat.le_trans (g 2 (by omega)) h
theorem light_get {l : Ls} (h : lightV l = true) : ∀ k, k < 3 -> (l.get k).length <= 70 := fun k hk => by
  obtain ⟨h1, h2, h3⟩ := light_le h
  have : k = 0 \/ k = 1 \/ k = 2 := by omega
  rcases this with rfl | rfl | rfl
  . exact h1
  . exact h2
  . exact h3
end Go.Ab

namespace Go.Proofs.YtkahninpodhcmaaGreatDoor
set_option maxRecDepth 100000
open Go Go.Ab Go.ChangeShapes Go.WideShapes Go.ChangeAt Go.RowKit
theorem own0 : ownKnob Tryz.prog.godebug = none := by kernel_rfl
theorem laidOut0 : laidOutB Tryz.prog = true := by kernel_rfl
section
variable {H : Type} {enc : TypeId × Value -> H} {w w' : World} {r : Reach} {b0 base : Nat} {spare : Nat -> Bool} {held : Bool}
def All2 (w : World) (M : Nat -> Prop) : List CV -> List Value -> Prop
  | [], [] => True
  | x :: xs, v :: vs => (plain v /\ CR w M x v) /\ All2 w M xs vs
  | _, _ => False
theorem All2.len {M : Nat -> Prop} : ∀ {xs : List CV} {vs : List Value}, All2 w M xs vs -> vs.length = xs.length
  | [], [], _ => rfl
  | [], _ :: _, h => h.elim
  | _ :: _, [], h => h.elim
  | _ :: _, _ :: _, h => by simp [All2.len h.2]
theorem All2.at {M : Nat -> Prop} : ∀ {xs : List CV} {vs : List Value}, All2 w M xs vs -> ∀ (j : Nat) (x : CV), xs[j]? = some x -> ∃ v, vs[j]? = some v /\ plain v /\ CR w M x v
  | [], _, _, j, x, hx => by simp at hx
  | _ :: _, [], h, _, _, _ => h.elim
  | y :: xs, v :: vs, h, 0, x, hx => by
    simp at hx
    subst hx
    exact ⟨v, rfl, h.1⟩
  | y :: xs, v :: vs, h, j + 1, x, hx => by
    obtain ⟨u, hu, hq⟩ := All2.at h.2 j x (by simpa using hx)
    exact ⟨u, by simpa using hu, hq⟩
theorem agg_of {M : Nat -> Prop} {xs : List CV} {vs : List Value} (h : All2 w M xs vs) : CR w M (.agg xs) (.agg vs.toArray) := by
  refine .agg xs _ (by simpa using h.len) (fun j x hx => ?_) fun j x hx => ?_
  . obtain ⟨v, hv, hp, _⟩ := h.at j x hx
    simpa [hv] using hp
  . obtain ⟨v, hv, _, hq⟩ := h.at j x hx
    simpa [hv] using hq
theorem sl_plain {M : Nat -> Prop} {sz : Nat} {L : List (List CV)} {v : Value} (h : CR w M (.sl sz L) v) : plain v := by
  cases h <;> rfl
theorem read_ints {fuel : Nat} {cs : List Value} {x : DataW H × List MemPlace} (h : DataW.trod enc Tryz.prog w base spare held fuel 22 cs = some x) : ∃ v xs, cs = [v] /\ CR w (fun _ => False) (.sl 1 (Ab.encI xs)) v /\ xs.length <= maxLen := by
  obtain ⟨v, L, hv, hc, he, hl⟩ := open_sl (M := fun _ => False) Tryz.underlying22 (by kernel_rfl : Tryz.prog.cellsOf 3 = 1) (by omega) (elt_int Tryz.underlying3) (fun _ h => h) h
  obtain ⟨xs, rfl⟩ := map_of (enc := fun n => [CV.int .i64 n]) fun l hl => by
    obtain ⟨n, rfl, _⟩ := he l hl
    exact ⟨n, rfl⟩
  exact ⟨v, xs, hv, hc, by simpa using hl⟩
theorem read_pages {fuel : Nat} {cs : List Value} {x : DataW H × List MemPlace} (h : DataW.trod enc Tryz.prog w base spare held fuel 23 cs = some x) : ∃ v ps, cs = [v] /\ CR w (fun _ => False) (.sl 2 (List.map encP ps)) v := by
  obtain ⟨f0, f1, h1, o0, o1, c0, c1, h6, h7⟩ : ∃ f0 f1 : Field, Tryz.prog.underlying 61 = some (.struct #[f0, f1]) /\ f0.offset = 0 /\ f1.offset = 1 /\ Tryz.prog.cellsOf f0.type = 1 /\ Tryz.prog.cellsOf f1.type = 1 /\ Tryz.prog.underlying f0.type = some (.int .i64) /\
      Tryz.prog.underlying f1.type = some (.int .i64) := ⟨_, _, Tryz.underlying61, rfl, rfl, by kernel_rfl, by kernel_rfl, by kernel_rfl, by kernel_rfl⟩
  obtain ⟨v, L, hv, hc, he, _⟩ := open_sl (M := fun _ => False) Tryz.underlying23 (by kernel_rfl : Tryz.prog.cellsOf 61 = 2) (by omega) (elt_two h1 o0 o1 (by kernel_rfl) c0 c1 h6 h7) (fun _ h => h) h
  obtain ⟨l, rfl⟩ := map_of (enc := encP) fun l hl => by
    obtain ⟨n, m, rfl, _, _⟩ := he l hl
    exact ⟨(n, m), rfl⟩
  exact ⟨v, l, hv, hc⟩
theorem read_bools {fuel : Nat} {cs : List Value} {x : DataW H × List MemPlace} (h : DataW.trod enc Tryz.prog w base spare held fuel 26 cs = some x) : ∃ v xs, cs = [v] /\ CR w (fun _ => False) (.sl 1 (encBs xs)) v := by
  obtain ⟨v, L, hv, hc, he, hl⟩ := open_sl (M := fun _ => False) Tryz.underlying26 (by kernel_rfl : Tryz.prog.cellsOf 4 = 1) (by omega) (elt_bool Tryz.underlying4) (fun _ h => h) h
  obtain ⟨xs, rfl⟩ := map_of (enc := fun n => [CV.bool n]) fun l hl => by
    obtain ⟨n, rfl⟩ := he l hl
    exact ⟨n, rfl⟩
  exact ⟨v, xs, hv, hc⟩
theorem read_lists {fuel : Nat} {cs : List Value} {x : DataW H × List MemPlace} (h : DataW.trod enc Tryz.prog w base spare held fuel 25 cs = some x) : ∃ (v0 v1 v2 : Value) (l : Ls), cs = [v0, v1, v2] /\ CR w (fun _ => False) (.sl 1 (Ab.encI l.a)) v0 /\ CR w (fun _ => False) (.sl 1 (Ab.encI l.b)) v1 /\ CR w (fun _ => False) (.sl 1 (Ab.encI l.c)) v2 := by
  obtain ⟨xs, m, _, _, hcl, hxl, hf⟩ := DataW.trod_array Tryz.underlying25 h
  rw [show Tryz.prog.cellsOf 25 = 3 by kernel_rfl] at hcl
  have c1 : Tryz.prog.cellsOf 22 = 1 := by kernel_rfl
  match cs, hcl with
  | [u0, u1, u2], _ =>
    have g0 := hf 0 (by omega)
    have g1 := hf 1 (by omega)
    have g2 := hf 2 (by omega)
    rw [c1] at g0 g1 g2
    obtain ⟨y0, hy0⟩ : ∃ y0, xs[0]? = some y0 := ⟨xs[0]'(by omega), by simp⟩
    obtain ⟨y1, hy1⟩ : ∃ y1, xs[1]? = some y1 := ⟨xs[1]'(by omega), by simp⟩
    obtain ⟨y2, hy2⟩ : ∃ y2, xs[2]? = some y2 := ⟨xs[2]'(by omega), by simp⟩
    rw [hy0] at g0
    rw [hy1] at g1
    rw [hy2] at g2
    obtain ⟨v0, l0, e0, q0, _⟩ := read_ints g0
    obtain ⟨v1, l1, e1, q1, _⟩ := read_ints g1
    obtain ⟨v2, l2, e2, q2, _⟩ := read_ints g2
    simp at e0 e1 e2
    subst e0 e1 e2
    exact ⟨_, _, _, ⟨l0, l1, l2⟩, rfl, q0, q1, q2⟩
theorem okWide_agg {t : TypeId} {v : Value} (h : (∃ fs, Tryz.prog.underlying t = some (.struct fs)) \/ ∃ n e, Tryz.prog.underlying t = some (.array n e)) (hv : Value.okWide Tryz.prog w' r b0 t v) : ∃ cs : Array Value, v = .agg cs := by
  unfold Value.okWide at hv
  rcases h with ⟨fs, h⟩ | ⟨n, e, h⟩
  . rw [h] at hv
    obtain ⟨cs, rfl, _⟩ := hv
    exact ⟨cs, rfl⟩
  . rw [h] at hv
    obtain ⟨cs, rfl, _⟩ := hv
    exact ⟨cs, rfl⟩
theorem open_lists {v : Value} {d : DataW H} {ps : List MemPlace} (hval : Value.okWide Tryz.prog w' r b0 25 v) (h : DataW.Trod enc Tryz.prog w base spare held 25 v d ps) :
    ∃ l : Ls, CR w (fun _ => False) (cLs.enc l) v := by
  obtain ⟨cs, rfl⟩ := okWide_agg (.inr ⟨_, _, Tryz.underlying25⟩) hval
  obtain ⟨fuel, h⟩ := h
  obtain ⟨v0, v1, v2, l, hv, q0, q1, q2⟩ := read_lists h
  have hcs : cs = #[v0, v1, v2] := by
    have : cs.toList = [v0, v1, v2] := by simpa [Value.cells] using hv
    rw [<- Array.toList_inj]; simpa using this
  subst hcs
  exact ⟨l, agg_of (vs := [v0, v1, v2]) ⟨⟨sl_plain q0, q0⟩, ⟨sl_plain q1, q1⟩, ⟨sl_plain q2, q2⟩, trivial⟩⟩
end
section
variable {H : Type} {enc : TypeId × Value -> H} {w w' : World} {r : Reach} {b0 base : Nat} {spare : Nat -> Bool} {held : Bool}
end
section
variable {H : Type} {enc : TypeId × Value -> H} {w w' : World} {r : Reach} {b0 base : Nat} {spare : Nat -> Bool} {held : Bool}
end
theorem cr_int {w : World} {M : Nat -> Prop} (n : Int) : CR w M (.int .i64 n) (.int .i64 n) := .int _ _
theorem gTab : Tryz.prog.globalNamed "ragpicker/class.words" = some 0 := by kernel_rfl
theorem gTabType : (Tryz.prog.globals[0]?).map (·.type) = some 127 := by kernel_rfl
theorem cellsTab : Tryz.prog.cellsOf 127 = 3 := by kernel_rfl
theorem cells3 : Tryz.prog.cellsOf 3 = 1 := by kernel_rfl
abbrev laidW : List (String × DataW Unit) := [("ragpicker/class.words", Rows.laid_ragpicker_class_words)]
theorem table {W : World} (h : laidMetH Tryz.prog laidW W) : Lib.TabIs Tryz.prog W "ragpicker/class.words" .i64 [2, 4, 8] :=
  Lib.tabIs_of_head (rest := []) gTab gTabType Tryz.underlying127 Tryz.underlying3 cells3 cellsTab h
theorem glob_of {W : World} (h : laidMetH Tryz.prog laidW W) : GlobR W fun _ => False := fun g cs hg => by
  unfold GL at hg
  cases hb : Nat.beq g 0 with
  | false => rw [hb] at hg; cases hg
  | true =>
    rw [hb] at hg
    have hg0 := beq_true hb
    subst hg0
    cases hg
    have hc := fun i hi => (table h).cell gTab i hi
    refine .pc _ 0 0 0 (fun j => .int .i64 ([2, 4, 8].getD j 0)) (fun h => h) (World.block_lt_of_cell? W ⟨0, 0, none⟩ (hc 0 (by decide))) (fun j x hx => ?_) (fun j x hx => rfl) (fun j x hx => ?_)
    . have hj : j < 3 := by simpa using (List.getElem?_eq_some_iff.1 hx).1
      rw [Nat.zero_add]
      exact hc j hj
    . have hj : j < 3 := by simpa using (List.getElem?_eq_some_iff.1 hx).1
      match j, hj, hx with
      | 0, _, hx => cases hx; exact .int _ _
      | 1, _, hx => cases hx; exact .int _ _
      | 2, _, hx => cases hx; exact .int _ _
noncomputable def laidWorld (os : Os) : World :=
  { World.holding Tryz.prog os ⟨#[], #[], []⟩ with heap := (World.holding Tryz.prog os ⟨#[], #[], []⟩).heap.modify 0 fun
      | .cells _ t frozen => .cells #[.int .i64 2, .int .i64 4, .int .i64 8] t frozen
      | o => o }
end Go.Proofs.YtkahninpodhcmaaGreatDoor

namespace Go.Proofs
open Go.Shelf
end Go.Proofs

namespace Go.Ab
open Go
open Go.Proofs
def segR (xs : List Int) (lo k : Nat) : List Int := xs.take lo ++ ((xs.drop lo).take k).reverse ++ xs.drop (lo + k)
end Go.Ab

namespace Go.Ab
open Go
open Go.Proofs
structure DL where
  l : List Int
  n : Nat
end Go.Ab

namespace Go.Ab
open Go
open Go.Proofs
end Go.Ab

namespace Go.Ab
open Go
open Go.Proofs
structure HH where
  h : Hp
  k : Hp
def cHH : CodB HH where
  enc := fun s => [encHp s.h, encHp s.k]
  dec := fun c => match c with
    | [[.sl 1 w, .sl 2 p, .sl 1 a, .sl 1 b, .sl 1 c, .sl 1 d], [.sl 1 w', .sl 2 p', .sl 1 a', .sl 1 b', .sl 1 c', .sl 1 d']] => (decW w p a b c d).bind fun h => (decW w' p' a' b' c' d').bind fun k => some ⟨h, k⟩
    | _ => none
  ok := fun c s e => by
    split at e
    . replace e := bind_some' e
      obtain ⟨h, h1, e⟩ := e
      replace e := bind_some' e
      obtain ⟨k, h2, e⟩ := e
      cases e
      obtain ⟨rfl, rfl, rfl, rfl, rfl, rfl⟩ := decW_ok h1
      obtain ⟨rfl, rfl, rfl, rfl, rfl, rfl⟩ := decW_ok h2
      rfl
    . cases e
  de := fun s => by
    show (decW _ _ _ _ _ _).bind _ = _
    rw [decW_enc]
    show (decW _ _ _ _ _ _).bind _ = _
    rw [decW_enc]; rfl
end Go.Ab

namespace Go.Ab
open Go
open Go.Proofs
end Go.Ab

namespace Go.Ab
open Go
open Go.Proofs
noncomputable abbrev k47 : Cx := cxG Pr Tryz.f39 [] [] (fun _ => false) (fun q => Nat.beq q 58)
set_option maxRecDepth 100000 in
theorem r47 (l : Ls) (β : Type) (K : CV -> List (List CV) -> Option β) : fnK k47 Tryz.f39 [cLs.enc l] [] K =
 if List.length (encI (Ls.a l)) <= LIM then
 if List.length (encI (Ls.b l)) <= LIM then
 if List.length (encI (Ls.c l)) <= LIM then
 K (CV.agg [CV.own 1 (encI (Ls.a l)), CV.own 1 (encI (Ls.b l)), CV.own 1 (encI (Ls.c l))]) []
 else none
 else none
 else none := by kernel_rfl
theorem own47_good : GoodC Pr 39 gOwn :=
  good1 ((CxOK.baseG Good.nil GoodI.nil (eqOK_none fun _ => rfl)).sound (cx := k47) Tryz.func39 (by kernel_rfl) (by kernel_rfl) rfl (by kernel_rfl)) fun l hp β K => by
    obtain ⟨h1, h2, h3⟩ := smL_le hp
    have hL := lim_val
    rw [r47, if_pos (by rw [encI_len, hL]; omega), if_pos (by rw [encI_len, hL]; omega), if_pos (by rw [encI_len, hL]; omega)]
    rfl
noncomputable abbrev k48w : Cx := cxG Pr Tryz.f32 []
set_option maxRecDepth 100000 in
theorem r48w (c : Int) (β : Type) (K : CV -> List (List CV) -> Option β) : fnK k48w Tryz.f32 [cI.enc c] [] K =
 bif c == 0 then K (CV.int IntKind.i64 2) []
 else
 bif c == 1 then K (CV.int IntKind.i64 4) []
 else bif c == 2 then K (CV.int IntKind.i64 8) [] else K (CV.int IntKind.i64 0) [] := by kernel_rfl
def words3 (c : Int) : Int := bif c == 0 then 2 else bif c == 1 then 4 else bif c == 2 then 8 else 0
def gWords3 : Callee := g1 cI (fun _ => true) fun c => cI.enc (words3 c)
theorem words3_good : GoodC Pr 32 gWords3 :=
  good1 ((CxOK.baseG Good.nil GoodI.nil (eqOK_none fun _ => rfl)).sound (cx := k48w) Tryz.func32 (by kernel_rfl) (by kernel_rfl) rfl (by kernel_rfl)) fun c _ β K => by
    rw [r48w]
    unfold words3
    cases c == 0 <;> cases c == 1 <;> cases c == 2 <;> rfl
noncomputable abbrev k20w : Cx := cxG Pr Tryz.f97 [(32, gWords3)]
set_option maxRecDepth 100000 in
theorem r20w (c : Int) (β : Type) (K : CV -> List (List CV) -> Option β) : fnK k20w Tryz.f97 [cI.enc c] [] K =
 bif words3 c == 0 then K (CV.int IntKind.i64 0) []
 else if words3 c = 0 then none else K (CV.int IntKind.i64 (IntKind.wrap IntKind.i64 (Int.tdiv 16 (words3 c)))) [] := by kernel_rfl
def gCells3 : Callee := g1 cI isC fun c => cI.enc (cellsN c)
theorem cells3_good : GoodC Pr 97 gCells3 :=
  good1 ((CxOK.baseG (Good.cons words3_good Good.nil) GoodI.nil (eqOK_none fun _ => rfl)).sound (cx := k20w) Tryz.func97 (by kernel_rfl) (by kernel_rfl) rfl (by kernel_rfl)) fun c hc β K => by
    rw [r20w]
    rcases isC_cases hc with rfl | rfl | rfl <;> rfl
structure P19 where
  l : Ls
  o : Ls
def encO (o : Ls) : List CV := [.own 1 (encI o.a), .own 1 (encI o.b), .own 1 (encI o.c)]
def cB3 : CodB P19 where
  enc := fun s => [encLs s.l, encO ⟨[], [], []⟩, encO s.o]
  dec := fun c => match c with
    | [[.sl 1 a, .sl 1 b, .sl 1 c], [.own 1 [], .own 1 [], .own 1 []], [.own 1 d, .own 1 e, .own 1 f]] =>
      (decI a).bind fun a => (decI b).bind fun b => (decI c).bind fun c => (decI d).bind fun d => (decI e).bind fun e => (decI f).bind fun f => some ⟨⟨a, b, c⟩, ⟨d, e, f⟩⟩
    | _ => none
  ok := fun c s h => by
    split at h
    . replace h := bind_some' h
      obtain ⟨a, ha, h⟩ := h
      replace h := bind_some' h
      obtain ⟨b, hb, h⟩ := h
      replace h := bind_some' h
      obtain ⟨c, hc, h⟩ := h
      replace h := bind_some' h
      obtain ⟨d, hd, h⟩ := h
      replace h := bind_some' h
      obtain ⟨e, he, h⟩ := h
      replace h := bind_some' h
      obtain ⟨f, hf, h⟩ := h
      cases h
      rw [decI_enc ha, decI_enc hb, decI_enc hc, decI_enc hd, decI_enc he, decI_enc hf]
      rfl
    . cases h
  de := fun s => by
    show (decI _).bind _ = _
    simp only [decI_map, Option.bind_some]
abbrev p19r := [false, true, false, true, true, true, true, true]
abbrev o19r : Exit -> List Nat := fun _ => [8, 11, 12]
noncomputable abbrev k19a : Cx := cxG Pr Tryz.f96 [(39, gOwn)]
set_option maxRecDepth 100000 in
theorem t19x (lo hi : Int) (l o : Ls) (S : List Int) (i : Int) (m : Nat) (β : Type) (K : Exit -> List CV -> List (List CV) -> Option β) : loopB k19a [1, 2, 3, 4, 8, 11, 12, 13] o19r p19r (bodyL (bodyOf Tryz.f96) p19r) (m + 1) [.int .i64 0, cI.enc lo, cI.enc hi, .ref 0, .ref 1, .ref 2, cOI.enc S, cI.enc i] (cB3.enc ⟨l, o⟩) K =
 bif decide (i < (↑(List.length (encI (Ls.a l))) : Int)) then
 Option.bind (rdE (encI (Ls.a l)) i) fun c =>
 Option.bind c[0]? fun x =>
 Option.bind (asI IntKind.i64 x) fun n =>
 bif decide (n < lo) then
 if List.length (encI (Ls.a o) ++ [[CV.int IntKind.i64 n]]) <= LIM then loopB k19a [1, 2, 3, 4, 8, 11, 12, 13] o19r [false, true, false, true, true, true, true, true] (bodyL (bodyOf Tryz.f96) p19r) m [CV.int IntKind.i64 0, CV.int IntKind.i64 lo, CV.int IntKind.i64 hi, CV.ref 0, CV.ref 1, CV.ref 2, CV.own 1 (encI S), CV.int IntKind.i64 (IntKind.wrap IntKind.i64 (i + 1))] [[CV.sl 1 (encI (Ls.a l)), CV.sl 1 (encI (Ls.b l)), CV.sl 1 (encI (Ls.c l))], [CV.own 1 [], CV.own 1 [], CV.own 1 []], [CV.own 1 (encI (Ls.a o) ++ [[CV.int IntKind.i64 n]]), CV.own 1 (encI (Ls.b o)), CV.own 1 (encI (Ls.c o))]] fun a a_1 a_2 => K a a_1 a_2
 else none
 else
 bif decide (n >= hi) then
 if List.length (encI (Ls.a o) ++ [[CV.int IntKind.i64 n]]) <= LIM then loopB k19a [1, 2, 3, 4, 8, 11, 12, 13] o19r [false, true, false, true, true, true, true, true] (bodyL (bodyOf Tryz.f96) p19r) m [CV.int IntKind.i64 0, CV.int IntKind.i64 lo, CV.int IntKind.i64 hi, CV.ref 0, CV.ref 1, CV.ref 2, CV.own 1 (encI S), CV.int IntKind.i64 (IntKind.wrap IntKind.i64 (i + 1))] [[CV.sl 1 (encI (Ls.a l)), CV.sl 1 (encI (Ls.b l)), CV.sl 1 (encI (Ls.c l))], [CV.own 1 [], CV.own 1 [], CV.own 1 []], [CV.own 1 (encI (Ls.a o) ++ [[CV.int IntKind.i64 n]]), CV.own 1 (encI (Ls.b o)), CV.own 1 (encI (Ls.c o))]] fun a a_1 a_2 => K a a_1 a_2
 else none
 else
 if List.length (encI S ++ [[CV.int IntKind.i64 n]]) <= LIM then loopB k19a [1, 2, 3, 4, 8, 11, 12, 13] o19r [false, true, false, true, true, true, true, true] (bodyL (bodyOf Tryz.f96) p19r) m [CV.int IntKind.i64 0, CV.int IntKind.i64 lo, CV.int IntKind.i64 hi, CV.ref 0, CV.ref 1, CV.ref 2, CV.own 1 (encI S ++ [[CV.int IntKind.i64 n]]), CV.int IntKind.i64 (IntKind.wrap IntKind.i64 (i + 1))] [[CV.sl 1 (encI (Ls.a l)), CV.sl 1 (encI (Ls.b l)), CV.sl 1 (encI (Ls.c l))], [CV.own 1 [], CV.own 1 [], CV.own 1 []], [CV.own 1 (encI (Ls.a o)), CV.own 1 (encI (Ls.b o)), CV.own 1 (encI (Ls.c o))]] fun a a_1 a_2 => K a a_1 a_2
 else none
 else
 K (Exit.exit 0) [CV.ref 1, CV.ref 2, CV.own 1 (encI S)] [[CV.sl 1 (encI (Ls.a l)), CV.sl 1 (encI (Ls.b l)), CV.sl 1 (encI (Ls.c l))], [CV.own 1 [], CV.own 1 [], CV.own 1 []], [CV.own 1 (encI (Ls.a o)), CV.own 1 (encI (Ls.b o)), CV.own 1 (encI (Ls.c o))]] := by kernel_rfl
set_option maxRecDepth 100000 in
theorem t19y (lo hi : Int) (l o : Ls) (S : List Int) (i : Int) (m : Nat) (β : Type) (K : Exit -> List CV -> List (List CV) -> Option β) : loopB k19a [1, 2, 3, 4, 8, 11, 12, 13] o19r p19r (bodyL (bodyOf Tryz.f96) p19r) (m + 1) [.int .i64 1, cI.enc lo, cI.enc hi, .ref 0, .ref 1, .ref 2, cOI.enc S, cI.enc i] (cB3.enc ⟨l, o⟩) K =
 bif decide (i < (↑(List.length (encI (Ls.b l))) : Int)) then
 Option.bind (rdE (encI (Ls.b l)) i) fun c =>
 Option.bind c[0]? fun x =>
 Option.bind (asI IntKind.i64 x) fun n =>
 bif decide (n < lo) then
 if List.length (encI (Ls.b o) ++ [[CV.int IntKind.i64 n]]) <= LIM then loopB k19a [1, 2, 3, 4, 8, 11, 12, 13] o19r [false, true, false, true, true, true, true, true] (bodyL (bodyOf Tryz.f96) p19r) m [CV.int IntKind.i64 1, CV.int IntKind.i64 lo, CV.int IntKind.i64 hi, CV.ref 0, CV.ref 1, CV.ref 2, CV.own 1 (encI S), CV.int IntKind.i64 (IntKind.wrap IntKind.i64 (i + 1))] [[CV.sl 1 (encI (Ls.a l)), CV.sl 1 (encI (Ls.b l)), CV.sl 1 (encI (Ls.c l))], [CV.own 1 [], CV.own 1 [], CV.own 1 []], [CV.own 1 (encI (Ls.a o)), CV.own 1 (encI (Ls.b o) ++ [[CV.int IntKind.i64 n]]), CV.own 1 (encI (Ls.c o))]] fun a a_1 a_2 => K a a_1 a_2
 else none
 else
 bif decide (n >= hi) then
 if List.length (encI (Ls.b o) ++ [[CV.int IntKind.i64 n]]) <= LIM then loopB k19a [1, 2, 3, 4, 8, 11, 12, 13] o19r [false, true, false, true, true, true, true, true] (bodyL (bodyOf Tryz.f96) p19r) m [CV.int IntKind.i64 1, CV.int IntKind.i64 lo, CV.int IntKind.i64 hi, CV.ref 0, CV.ref 1, CV.ref 2, CV.own 1 (encI S), CV.int IntKind.i64 (IntKind.wrap IntKind.i64 (i + 1))] [[CV.sl 1 (encI (Ls.a l)), CV.sl 1 (encI (Ls.b l)), CV.sl 1 (encI (Ls.c l))], [CV.own 1 [], CV.own 1 [], CV.own 1 []], [CV.own 1 (encI (Ls.a o)), CV.own 1 (encI (Ls.b o) ++ [[CV.int IntKind.i64 n]]), CV.own 1 (encI (Ls.c o))]] fun a a_1 a_2 => K a a_1 a_2
 else none
 else
 if List.length (encI S ++ [[CV.int IntKind.i64 n]]) <= LIM then loopB k19a [1, 2, 3, 4, 8, 11, 12, 13] o19r [false, true, false, true, true, true, true, true] (bodyL (bodyOf Tryz.f96) p19r) m [CV.int IntKind.i64 1, CV.int IntKind.i64 lo, CV.int IntKind.i64 hi, CV.ref 0, CV.ref 1, CV.ref 2, CV.own 1 (encI S ++ [[CV.int IntKind.i64 n]]), CV.int IntKind.i64 (IntKind.wrap IntKind.i64 (i + 1))] [[CV.sl 1 (encI (Ls.a l)), CV.sl 1 (encI (Ls.b l)), CV.sl 1 (encI (Ls.c l))], [CV.own 1 [], CV.own 1 [], CV.own 1 []], [CV.own 1 (encI (Ls.a o)), CV.own 1 (encI (Ls.b o)), CV.own 1 (encI (Ls.c o))]] fun a a_1 a_2 => K a a_1 a_2
 else none
 else
 K (Exit.exit 0) [CV.ref 1, CV.ref 2, CV.own 1 (encI S)] [[CV.sl 1 (encI (Ls.a l)), CV.sl 1 (encI (Ls.b l)), CV.sl 1 (encI (Ls.c l))], [CV.own 1 [], CV.own 1 [], CV.own 1 []], [CV.own 1 (encI (Ls.a o)), CV.own 1 (encI (Ls.b o)), CV.own 1 (encI (Ls.c o))]] := by kernel_rfl
set_option maxRecDepth 100000 in
theorem t19z (lo hi : Int) (l o : Ls) (S : List Int) (i : Int) (m : Nat) (β : Type) (K : Exit -> List CV -> List (List CV) -> Option β) : loopB k19a [1, 2, 3, 4, 8, 11, 12, 13] o19r p19r (bodyL (bodyOf Tryz.f96) p19r) (m + 1) [.int .i64 2, cI.enc lo, cI.enc hi, .ref 0, .ref 1, .ref 2, cOI.enc S, cI.enc i] (cB3.enc ⟨l, o⟩) K =
 bif decide (i < (↑(List.length (encI (Ls.c l))) : Int)) then
 Option.bind (rdE (encI (Ls.c l)) i) fun c =>
 Option.bind c[0]? fun x =>
 Option.bind (asI IntKind.i64 x) fun n =>
 bif decide (n < lo) then
 if List.length (encI (Ls.c o) ++ [[CV.int IntKind.i64 n]]) <= LIM then loopB k19a [1, 2, 3, 4, 8, 11, 12, 13] o19r [false, true, false, true, true, true, true, true] (bodyL (bodyOf Tryz.f96) p19r) m [CV.int IntKind.i64 2, CV.int IntKind.i64 lo, CV.int IntKind.i64 hi, CV.ref 0, CV.ref 1, CV.ref 2, CV.own 1 (encI S), CV.int IntKind.i64 (IntKind.wrap IntKind.i64 (i + 1))] [[CV.sl 1 (encI (Ls.a l)), CV.sl 1 (encI (Ls.b l)), CV.sl 1 (encI (Ls.c l))], [CV.own 1 [], CV.own 1 [], CV.own 1 []], [CV.own 1 (encI (Ls.a o)), CV.own 1 (encI (Ls.b o)), CV.own 1 (encI (Ls.c o) ++ [[CV.int IntKind.i64 n]])]] fun a a_1 a_2 => K a a_1 a_2
 else none
 else
 bif decide (n >= hi) then
 if List.length (encI (Ls.c o) ++ [[CV.int IntKind.i64 n]]) <= LIM then loopB k19a [1, 2, 3, 4, 8, 11, 12, 13] o19r [false, true, false, true, true, true, true, true] (bodyL (bodyOf Tryz.f96) p19r) m [CV.int IntKind.i64 2, CV.int IntKind.i64 lo, CV.int IntKind.i64 hi, CV.ref 0, CV.ref 1, CV.ref 2, CV.own 1 (encI S), CV.int IntKind.i64 (IntKind.wrap IntKind.i64 (i + 1))] [[CV.sl 1 (encI (Ls.a l)), CV.sl 1 (encI (Ls.b l)), CV.sl 1 (encI (Ls.c l))], [CV.own 1 [], CV.own 1 [], CV.own 1 []], [CV.own 1 (encI (Ls.a o)), CV.own 1 (encI (Ls.b o)), CV.own 1 (encI (Ls.c o) ++ [[CV.int IntKind.i64 n]])]] fun a a_1 a_2 => K a a_1 a_2
 else none
 else
 if List.length (encI S ++ [[CV.int IntKind.i64 n]]) <= LIM then loopB k19a [1, 2, 3, 4, 8, 11, 12, 13] o19r [false, true, false, true, true, true, true, true] (bodyL (bodyOf Tryz.f96) p19r) m [CV.int IntKind.i64 2, CV.int IntKind.i64 lo, CV.int IntKind.i64 hi, CV.ref 0, CV.ref 1, CV.ref 2, CV.own 1 (encI S ++ [[CV.int IntKind.i64 n]]), CV.int IntKind.i64 (IntKind.wrap IntKind.i64 (i + 1))] [[CV.sl 1 (encI (Ls.a l)), CV.sl 1 (encI (Ls.b l)), CV.sl 1 (encI (Ls.c l))], [CV.own 1 [], CV.own 1 [], CV.own 1 []], [CV.own 1 (encI (Ls.a o)), CV.own 1 (encI (Ls.b o)), CV.own 1 (encI (Ls.c o))]] fun a a_1 a_2 => K a a_1 a_2
 else none
 else
 K (Exit.exit 0) [CV.ref 1, CV.ref 2, CV.own 1 (encI S)] [[CV.sl 1 (encI (Ls.a l)), CV.sl 1 (encI (Ls.b l)), CV.sl 1 (encI (Ls.c l))], [CV.own 1 [], CV.own 1 [], CV.own 1 []], [CV.own 1 (encI (Ls.a o)), CV.own 1 (encI (Ls.b o)), CV.own 1 (encI (Ls.c o))]] := by kernel_rfl
theorem rd19x (lo hi : Int) (l o : Ls) (S : List Int) (i m : Nat) (hi' : i < l.a.length) (hl : l.a.length <= 100000) (hS : S.length <= i) (ho : o.a.length <= i) (β : Type) (K : Exit -> List CV -> List (List CV) -> Option β) :
    loopB k19a [1, 2, 3, 4, 8, 11, 12, 13] o19r p19r (bodyL (bodyOf Tryz.f96) p19r) (m + 1) [.int .i64 0, cI.enc lo, cI.enc hi, .ref 0, .ref 1, .ref 2, cOI.enc S, cI.enc (i : Int)] (cB3.enc ⟨l, o⟩) K =
      bif inR lo hi l.a[i] then loopB k19a [1, 2, 3, 4, 8, 11, 12, 13] o19r p19r (bodyL (bodyOf Tryz.f96) p19r) m [.int .i64 0, cI.enc lo, cI.enc hi, .ref 0, .ref 1, .ref 2, cOI.enc (S ++ [l.a[i]]), cI.enc ((i + 1 : Nat) : Int)] (cB3.enc ⟨l, o⟩) K
      else loopB k19a [1, 2, 3, 4, 8, 11, 12, 13] o19r p19r (bodyL (bodyOf Tryz.f96) p19r) m [.int .i64 0, cI.enc lo, cI.enc hi, .ref 0, .ref 1, .ref 2, cOI.enc S, cI.enc ((i + 1 : Nat) : Int)] (cB3.enc ⟨l, o.set (o.a ++ [l.a[i]]) 0⟩) K := by
  have hL := lim_val
  have e1 : (encI l.a)[(i : Int).toNat]? = some [CV.int .i64 l.a[i]] := by simp [encI, hi']
  have w1 : IntKind.i64.wrap ((i : Int) + 1) = ((i + 1 : Nat) : Int) := by rw [wrap_in (by omega)]; omega
  rw [t19x, decide_eq_true (by rw [encI_len]; omega), cond_true, rdE_nat (by omega), e1, Option.bind_some, zero_get, Option.bind_some, asI_i, Option.bind_some, w1]
  generalize l.a[i] = x
  rw [if_pos (show List.length (encI o.a ++ [[CV.int IntKind.i64 x]]) <= LIM by rw [List.length_append, encI_len]; simp; omega), if_pos (show List.length (encI S ++ [[CV.int IntKind.i64 x]]) <= LIM by rw [List.length_append, encI_len]; simp; omega), encI_snoc, encI_snoc]
  unfold inR
  by_cases h1 : x < lo
  . rw [decide_eq_true h1, cond_true, decide_eq_false (show ¬ x >= lo by omega), cond_false, cond_false]
    rfl
  . rw [decide_eq_false h1, cond_false, decide_eq_true (show x >= lo by omega), cond_true]
    by_cases h2 : x >= hi
    . rw [decide_eq_true h2, cond_true, decide_eq_false (show ¬ x < hi by omega), cond_false]
      rfl
    . rw [decide_eq_false h2, cond_false, decide_eq_true (show x < hi by omega), cond_true]
      rfl
theorem rd19y (lo hi : Int) (l o : Ls) (S : List Int) (i m : Nat) (hi' : i < l.b.length) (hl : l.b.length <= 100000) (hS : S.length <= i) (ho : o.b.length <= i) (β : Type) (K : Exit -> List CV -> List (List CV) -> Option β) :
    loopB k19a [1, 2, 3, 4, 8, 11, 12, 13] o19r p19r (bodyL (bodyOf Tryz.f96) p19r) (m + 1) [.int .i64 1, cI.enc lo, cI.enc hi, .ref 0, .ref 1, .ref 2, cOI.enc S, cI.enc (i : Int)] (cB3.enc ⟨l, o⟩) K =
      bif inR lo hi l.b[i] then loopB k19a [1, 2, 3, 4, 8, 11, 12, 13] o19r p19r (bodyL (bodyOf Tryz.f96) p19r) m [.int .i64 1, cI.enc lo, cI.enc hi, .ref 0, .ref 1, .ref 2, cOI.enc (S ++ [l.b[i]]), cI.enc ((i + 1 : Nat) : Int)] (cB3.enc ⟨l, o⟩) K
      else loopB k19a [1, 2, 3, 4, 8, 11, 12, 13] o19r p19r (bodyL (bodyOf Tryz.f96) p19r) m [.int .i64 1, cI.enc lo, cI.enc hi, .ref 0, .ref 1, .ref 2, cOI.enc S, cI.enc ((i + 1 : Nat) : Int)] (cB3.enc ⟨l, o.set (o.b ++ [l.b[i]]) 1⟩) K := by
  have hL := lim_val
  have e1 : (encI l.b)[(i : Int).toNat]? = some [CV.int .i64 l.b[i]] := by simp [encI, hi']
  have w1 : IntKind.i64.wrap ((i : Int) + 1) = ((i + 1 : Nat) : Int) := by rw [wrap_in (by omega)]; omega
  rw [t19y, decide_eq_true (by rw [encI_len]; omega), cond_true, rdE_nat (by omega), e1, Option.bind_some, zero_get, Option.bind_some, asI_i, Option.bind_some, w1]
  generalize l.b[i] = x
  rw [if_pos (show List.length (encI o.b ++ [[CV.int IntKind.i64 x]]) <= LIM by rw [List.length_append, encI_len]; simp; omega), if_pos (show List.length (encI S ++ [[CV.int IntKind.i64 x]]) <= LIM by rw [List.length_append, encI_len]; simp; omega), encI_snoc, encI_snoc]
  unfold inR
  by_cases h1 : x < lo
  . rw [decide_eq_true h1, cond_true, decide_eq_false (show ¬ x >= lo by omega), cond_false, cond_false]
    rfl
  . rw [decide_eq_false h1, cond_false, decide_eq_true (show x >= lo by omega), cond_true]
    by_cases h2 : x >= hi
    . rw [decide_eq_true h2, cond_true, decide_eq_false (show ¬ x < hi by omega), cond_false]
      rfl
    . rw [decide_eq_false h2, cond_false, decide_eq_true (show x < hi by omega), cond_true]
      rfl
theorem rd19z (lo hi : Int) (l o : Ls) (S : List Int) (i m : Nat) (hi' : i < l.c.length) (hl : l.c.length <= 100000) (hS : S.length <= i) (ho : o.c.length <= i) (β : Type) (K : Exit -> List CV -> List (List CV) -> Option β) :
    loopB k19a [1, 2, 3, 4, 8, 11, 12, 13] o19r p19r (bodyL (bodyOf Tryz.f96) p19r) (m + 1) [.int .i64 2, cI.enc lo, cI.enc hi, .ref 0, .ref 1, .ref 2, cOI.enc S, cI.enc (i : Int)] (cB3.enc ⟨l, o⟩) K =
      bif inR lo hi l.c[i] then loopB k19a [1, 2, 3, 4, 8, 11, 12, 13] o19r p19r (bodyL (bodyOf Tryz.f96) p19r) m [.int .i64 2, cI.enc lo, cI.enc hi, .ref 0, .ref 1, .ref 2, cOI.enc (S ++ [l.c[i]]), cI.enc ((i + 1 : Nat) : Int)] (cB3.enc ⟨l, o⟩) K
      else loopB k19a [1, 2, 3, 4, 8, 11, 12, 13] o19r p19r (bodyL (bodyOf Tryz.f96) p19r) m [.int .i64 2, cI.enc lo, cI.enc hi, .ref 0, .ref 1, .ref 2, cOI.enc S, cI.enc ((i + 1 : Nat) : Int)] (cB3.enc ⟨l, o.set (o.c ++ [l.c[i]]) 2⟩) K := by
  have hL := lim_val
  have e1 : (encI l.c)[(i : Int).toNat]? = some [CV.int .i64 l.c[i]] := by simp [encI, hi']
  have w1 : IntKind.i64.wrap ((i : Int) + 1) = ((i + 1 : Nat) : Int) := by rw [wrap_in (by omega)]; omega
  rw [t19z, decide_eq_true (by rw [encI_len]; omega), cond_true, rdE_nat (by omega), e1, Option.bind_some, zero_get, Option.bind_some, asI_i, Option.bind_some, w1]
  generalize l.c[i] = x
  rw [if_pos (show List.length (encI o.c ++ [[CV.int IntKind.i64 x]]) <= LIM by rw [List.length_append, encI_len]; simp; omega), if_pos (show List.length (encI S ++ [[CV.int IntKind.i64 x]]) <= LIM by rw [List.length_append, encI_len]; simp; omega), encI_snoc, encI_snoc]
  unfold inR
  by_cases h1 : x < lo
  . rw [decide_eq_true h1, cond_true, decide_eq_false (show ¬ x >= lo by omega), cond_false, cond_false]
    rfl
  . rw [decide_eq_false h1, cond_false, decide_eq_true (show x >= lo by omega), cond_true]
    by_cases h2 : x >= hi
    . rw [decide_eq_true h2, cond_true, decide_eq_false (show ¬ x < hi by omega), cond_false]
      rfl
    . rw [decide_eq_false h2, cond_false, decide_eq_true (show x < hi by omega), cond_true]
      rfl
theorem rd19 (c : Int) (hc : isC c = true) (lo hi : Int) (l o : Ls) (S : List Int) (i m : Nat) (hi' : i < (l.get c.toNat).length) (hl : (l.get c.toNat).length <= 100000) (hS : S.length <= i) (ho : (o.get c.toNat).length <= i) (β : Type) (K : Exit -> List CV -> List (List CV) -> Option β) :
    loopB k19a [1, 2, 3, 4, 8, 11, 12, 13] o19r p19r (bodyL (bodyOf Tryz.f96) p19r) (m + 1) [cI.enc c, cI.enc lo, cI.enc hi, .ref 0, .ref 1, .ref 2, cOI.enc S, cI.enc (i : Int)] (cB3.enc ⟨l, o⟩) K =
      bif inR lo hi (l.get c.toNat)[i] then loopB k19a [1, 2, 3, 4, 8, 11, 12, 13] o19r p19r (bodyL (bodyOf Tryz.f96) p19r) m [cI.enc c, cI.enc lo, cI.enc hi, .ref 0, .ref 1, .ref 2, cOI.enc (S ++ [(l.get c.toNat)[i]]), cI.enc ((i + 1 : Nat) : Int)] (cB3.enc ⟨l, o⟩) K
      else loopB k19a [1, 2, 3, 4, 8, 11, 12, 13] o19r p19r (bodyL (bodyOf Tryz.f96) p19r) m [cI.enc c, cI.enc lo, cI.enc hi, .ref 0, .ref 1, .ref 2, cOI.enc S, cI.enc ((i + 1 : Nat) : Int)] (cB3.enc ⟨l, o.set (o.get c.toNat ++ [(l.get c.toNat)[i]]) c.toNat⟩) K := by
  rcases isC_cases hc with rfl | rfl | rfl
  . exact rd19x lo hi l o S i m hi' hl hS ho β K
  . exact rd19y lo hi l o S i m hi' hl hS ho β K
  . exact rd19z lo hi l o S i m hi' hl hS ho β K
theorem end19 (c : Int) (hc : isC c = true) (lo hi : Int) (l o : Ls) (S : List Int) (i m : Nat) (hi' : (l.get c.toNat).length <= i) (β : Type) (K : Exit -> List CV -> List (List CV) -> Option β) :
    loopB k19a [1, 2, 3, 4, 8, 11, 12, 13] o19r p19r (bodyL (bodyOf Tryz.f96) p19r) (m + 1) [cI.enc c, cI.enc lo, cI.enc hi, .ref 0, .ref 1, .ref 2, cOI.enc S, cI.enc (i : Int)] (cB3.enc ⟨l, o⟩) K = K (.exit 0) [.ref 1, .ref 2, cOI.enc S] (cB3.enc ⟨l, o⟩) := by
  rcases isC_cases hc with rfl | rfl | rfl
  . have hi' : l.a.length <= i := hi'
    refine (t19x lo hi l o S i m β K).trans ?_
    rw [decide_eq_false (by rw [encI_len]; omega), cond_false]; rfl
  . have hi' : l.b.length <= i := hi'
    refine (t19y lo hi l o S i m β K).trans ?_
    rw [decide_eq_false (by rw [encI_len]; omega), cond_false]; rfl
  . have hi' : l.c.length <= i := hi'
    refine (t19z lo hi l o S i m β K).trans ?_
    rw [decide_eq_false (by rw [encI_len]; omega), cond_false]; rfl
theorem set_set (o : Ls) (x y : List Int) : ∀ k, (o.set x k).set y k = o.set y k
  | 0 => rfl
  | 1 => rfl
  | _ + 2 => rfl
theorem get_same (o : Ls) (x : List Int) : ∀ k, (o.set x k).get k = x
  | 0 => rfl
  | 1 => rfl
  | _ + 2 => rfl
theorem set_get (o : Ls) : ∀ k, o.set (o.get k) k = o
  | 0 => rfl
  | 1 => rfl
  | _ + 2 => rfl
theorem loop19 (c : Int) (hc : isC c = true) (lo hi : Int) (l : Ls) (hl : (l.get c.toNat).length <= 100000) (β : Type) (K : Exit -> List CV -> List (List CV) -> Option β) : ∀ (m i : Nat) (S : List Int) (o : Ls), i + m = (l.get c.toNat).length -> S.length <= i -> (o.get c.toNat).length <= i ->
    loopB k19a [1, 2, 3, 4, 8, 11, 12, 13] o19r p19r (bodyL (bodyOf Tryz.f96) p19r) (m + 1) [cI.enc c, cI.enc lo, cI.enc hi, .ref 0, .ref 1, .ref 2, cOI.enc S, cI.enc (i : Int)] (cB3.enc ⟨l, o⟩) K =
      K (.exit 0) [.ref 1, .ref 2, cOI.enc (S ++ ((l.get c.toNat).drop i).filter (inR lo hi))] (cB3.enc ⟨l, o.set (o.get c.toNat ++ ((l.get c.toNat).drop i).filter fun x => !inR lo hi x) c.toNat⟩) := by
  intro m
  induction m with
  | zero =>
    intro i S o h1 _ _
    rw [end19 c hc lo hi l o S i 0 (by omega), List.drop_eq_nil_of_le (by omega)]
    simp [set_get]
  | succ m ih =>
    intro i S o h1 hS ho
    have hii : i < (l.get c.toNat).length := by omega
    rw [rd19 c hc lo hi l o S i (m + 1) hii hl hS ho, List.drop_eq_getElem_cons hii, List.filter_cons, List.filter_cons]
    generalize hx : (l.get c.toNat)[i] = x
    cases hq : inR lo hi x with
    | true =>
      rw [cond_true, ih (i + 1) (S ++ [x]) o (by omega) (by simp; omega) (by omega)]
      simp
    | false =>
      rw [cond_false, ih (i + 1) S _ (by omega) (by omega) (by rw [get_same]; simp; omega)]
      simp [set_set, get_same]
def L19r : LoopSem := l8 [1, 2, 3, 4, 8, 11, 12, 13] o19r cI cI cI (cRef 0) (cRef 1) (cRef 2) cOI cI cB3 (fun c _ _ _ _ _ S i s => isC c && (smL s.l && (S.isEmpty && ((s.o.get c.toNat).isEmpty && i == 0))))
  fun c lo hi _ _ _ _ _ s => .one (.exit 0) [.ref 1, .ref 2, cOI.enc ((s.l.get c.toNat).filter (inR lo hi))] (cB3.enc ⟨s.l, s.o.set ((s.l.get c.toNat).filter fun x => !inR lo hi x) c.toNat⟩)
noncomputable abbrev k19 : Cx := k19a.loop p19r L19r
theorem get_sm {l : Ls} (h : smL l = true) : ∀ k, (l.get k).length <= 100000
  | 0 => (smL_le h).1
  | 1 => (smL_le h).2.1
  | _ + 2 => (smL_le h).2.2
theorem k19_ok : CxOK k19 [(39, gOwn)] := by
  refine CxOK.loop8 (CxOK.baseG (Good.cons own47_good Good.nil) GoodI.nil (eqOK_none fun _ => rfl)) rfl fun c lo hi _ _ _ S i s hp => ?_
  simp only [Bool.and_eq_true, List.isEmpty_iff, beq_iff_eq] at hp
  obtain ⟨hc, hl, hS, ho, hi'⟩ := hp
  subst hS hi'
  obtain ⟨l, o⟩ := s
  have ho : o.get c.toNat = [] := ho
  refine ⟨(l.get c.toNat).length + 1, fun β K => ?_⟩
  have := loop19 c hc lo hi l (get_sm hl _) β K (l.get c.toNat).length 0 [] o (by omega) (by simp) (by rw [ho]; simp)
  rw [List.drop_zero, List.nil_append, ho, List.nil_append] at this
  exact this
set_option maxRecDepth 100000 in
theorem r19x (l : Ls) (lo hi : Int) (β : Type) (K : CV -> List (List CV) -> Option β) : fnK k19 Tryz.f96 [cLs.enc l, .int .i64 0, cI.enc lo, cI.enc hi] [] K =
 Option.bind (Option.bind (decI (encI (Ls.a l))) fun a =>
 Option.bind (decI (encI (Ls.b l))) fun b =>
 Option.bind (decI (encI (Ls.c l))) fun c => some { a := a, b := b, c := c }) fun a =>
 bif smL a then
 Option.bind (Option.bind (decI (encI (Ls.a l))) fun a_1 =>
 Option.bind (decI (encI (Ls.b l))) fun b =>
 Option.bind (decI (encI (Ls.c l))) fun c =>
 Option.bind (decI []) fun d =>
 Option.bind (decI (encI (Ls.b a))) fun e =>
 Option.bind (decI (encI (Ls.c a))) fun f => some { l := { a := a_1, b := b, c := c }, o := { a := d, b := e, c := f } }) fun u =>
 bif smL (P19.l u) && (List.isEmpty (Ls.get (P19.o u) 0) && true) then
 K (CV.tup [CV.agg [CV.own 1 (encI (List.filter (fun x => !inR lo hi x) (Ls.get (P19.l u) 0))), CV.own 1 (encI (Ls.b (P19.o u))), CV.own 1 (encI (Ls.c (P19.o u)))], CV.own 1 (encI (List.filter (inR lo hi) (Ls.get (P19.l u) 0))), CV.int IntKind.i64 0]) []
 else none
 else none := by kernel_rfl
set_option maxRecDepth 100000 in
theorem r19y (l : Ls) (lo hi : Int) (β : Type) (K : CV -> List (List CV) -> Option β) : fnK k19 Tryz.f96 [cLs.enc l, .int .i64 1, cI.enc lo, cI.enc hi] [] K =
 Option.bind (Option.bind (decI (encI (Ls.a l))) fun a =>
 Option.bind (decI (encI (Ls.b l))) fun b =>
 Option.bind (decI (encI (Ls.c l))) fun c => some { a := a, b := b, c := c }) fun a =>
 bif smL a then
 Option.bind (Option.bind (decI (encI (Ls.a l))) fun a_1 =>
 Option.bind (decI (encI (Ls.b l))) fun b =>
 Option.bind (decI (encI (Ls.c l))) fun c =>
 Option.bind (decI (encI (Ls.a a))) fun d =>
 Option.bind (decI []) fun e =>
 Option.bind (decI (encI (Ls.c a))) fun f => some { l := { a := a_1, b := b, c := c }, o := { a := d, b := e, c := f } }) fun u =>
 bif smL (P19.l u) && (List.isEmpty (Ls.get (P19.o u) 1) && true) then
 K (CV.tup [CV.agg [CV.own 1 (encI (Ls.a (P19.o u))), CV.own 1 (encI (List.filter (fun x => !inR lo hi x) (Ls.get (P19.l u) 1))), CV.own 1 (encI (Ls.c (P19.o u)))], CV.own 1 (encI (List.filter (inR lo hi) (Ls.get (P19.l u) 1))), CV.int IntKind.i64 0]) []
 else none
 else none := by kernel_rfl
set_option maxRecDepth 100000 in
theorem r19z (l : Ls) (lo hi : Int) (β : Type) (K : CV -> List (List CV) -> Option β) : fnK k19 Tryz.f96 [cLs.enc l, .int .i64 2, cI.enc lo, cI.enc hi] [] K =
 Option.bind (Option.bind (decI (encI (Ls.a l))) fun a =>
 Option.bind (decI (encI (Ls.b l))) fun b =>
 Option.bind (decI (encI (Ls.c l))) fun c => some { a := a, b := b, c := c }) fun a =>
 bif smL a then
 Option.bind (Option.bind (decI (encI (Ls.a l))) fun a_1 =>
 Option.bind (decI (encI (Ls.b l))) fun b =>
 Option.bind (decI (encI (Ls.c l))) fun c =>
 Option.bind (decI (encI (Ls.a a))) fun d =>
 Option.bind (decI (encI (Ls.b a))) fun e =>
 Option.bind (decI []) fun f => some { l := { a := a_1, b := b, c := c }, o := { a := d, b := e, c := f } }) fun u =>
 bif smL (P19.l u) && (List.isEmpty (Ls.get (P19.o u) 2) && true) then
 K (CV.tup [CV.agg [CV.own 1 (encI (Ls.a (P19.o u))), CV.own 1 (encI (Ls.b (P19.o u))), CV.own 1 (encI (List.filter (fun x => !inR lo hi x) (Ls.get (P19.l u) 2)))], CV.own 1 (encI (List.filter (inR lo hi) (Ls.get (P19.l u) 2))), CV.int IntKind.i64 0]) []
 else none
 else none := by kernel_rfl
theorem partR_good : GoodC Pr 96 gPart :=
  good4 (k19_ok.sound (cx := k19) Tryz.func96 (by kernel_rfl) (by kernel_rfl) rfl (by kernel_rfl)) fun l c lo hi hp β K => by
    simp only [Bool.and_eq_true] at hp
    obtain ⟨hl, hc⟩ := hp
    have hl' : smL ⟨l.a, l.b, l.c⟩ = true := hl
    have d0 : decI ([] : List (List CV)) = some [] := rfl
    rcases isC_cases hc with rfl | rfl | rfl
    . refine (r19x l lo hi β K).trans ?_
      simp only [decI_map, Option.bind_some, hl', cond_true, d0, Bool.true_and, Ls.get, List.isEmpty_nil, Bool.and_self]
      rfl
    . refine (r19y l lo hi β K).trans ?_
      simp only [decI_map, Option.bind_some, hl', cond_true, d0, Bool.true_and, Ls.get, List.isEmpty_nil, Bool.and_self]
      rfl
    . refine (r19z l lo hi β K).trans ?_
      simp only [decI_map, Option.bind_some, hl', cond_true, d0, Bool.true_and, Ls.get, List.isEmpty_nil, Bool.and_self]
      rfl
end Go.Ab

namespace Go.Ab
open Go
open Go.Proofs
def packE (x : Hd) : Int × Int := bif !mayH x then (0, 1) else (packH x, 0)
end Go.Ab

namespace Go.Ab
open Go
open Go.Proofs
def all0 (ws : List Pg) : Bool := ws.all fun p => p.1 == 0
def findF (ps : List Pg) (n : Nat) : Nat -> Nat -> Option Nat
  | 0, _ => none
  | m + 1, a => bif all0 ((ps.drop a).take n) then some a else findF ps n m (a + 1)
def findO (ps : List Pg) (n : Int) : Option Nat := findF ps n.toNat (ps.length + 1 - n.toNat) 0
def findE (ps : List Pg) (n : Int) : Option Nat := bif !(may ps) then none else bif !(in3 n 1 4) then none else findO ps n
end Go.Ab

namespace Go.Ab
open Go
open Go.Proofs
def putW (w : List Int) (a v : Int) : List Int := w.set (a - 16).toNat v
end Go.Ab

namespace Go.Ab
open Go
open Go.Proofs
def hN : Hp := ⟨List.replicate 16 0, [(0, 0)], ⟨[], [], []⟩, [false, false]⟩
def popL (l : Ls) (c : Int) : Ls := l.set ((l.get c.toNat).take ((l.get c.toNat).length - 1)) c.toNat
def lastL (l : Ls) (c : Int) : Int := (l.get c.toNat).getD ((l.get c.toNat).length - 1) 0
def moveF (f : Ls) (c : Int) : Ls := f.set ((f.get c.toNat).take ((f.get c.toNat).length - 2)) c.toNat
def moveT (f t : Ls) (c : Int) : Ls := t.set (t.get c.toNat ++ ((f.get c.toNat).drop ((f.get c.toNat).length - 2)).reverse) c.toNat
end Go.Ab

namespace Go.Ab
open Go
open Go.Proofs
structure Fr where
  h : Hp
  c : Ls
end Go.Ab

namespace Go.Ab
open Go
open Go.Proofs
def putsW (w : List Int) (ys : List Int) : List Int := ys.foldl (fun w a => putW w a 0) w
theorem putW_len (w : List Int) (a v : Int) : (putW w a v).length = w.length := by simp [putW]
def pgAt (s : Fr) : Int := (((findE s.h.p 1).getD 0 : Nat) : Int)
def pgPs (s : Fr) (k : Int) : List Pg := (smallE s.h.p (pgAt s) k).2
def pgYs (s : Fr) (k : Int) : List Int := segR ((onL (pgPs s k) (pgAt s)).map (·.1)) 0 ((onL (pgPs s k) (pgAt s)).map (·.1)).length
def pgE (s : Fr) : Int := bif (findE s.h.p 1).isSome then 0 else 4
def pgFr (s : Fr) (k : Int) : Fr := bif (findE s.h.p 1).isSome then ⟨⟨putsW s.h.w (pgYs s k), pgPs s k, pushL s.h.f k (pgYs s k), s.h.c⟩, s.c⟩ else s
def smMove (s : Fr) (k : Int) : Fr := ⟨⟨s.h.w, s.h.p, moveF s.h.f k, s.h.c⟩, moveT s.h.f s.c k⟩
def smPop (s : Fr) (k : Int) : Fr := ⟨s.h, popL s.c k⟩
def smE (s : Fr) (k : Int) : Int × Int := bif !(s.c.get k.toNat).isEmpty then (lastL s.c k, 0) else bif !(s.h.f.get k.toNat).isEmpty then (lastL (smMove s k).c k, 0) else bif pgE s != 0 then (0, pgE s) else (lastL (smMove (pgFr s k) k).c k, 0)
def smFr (s : Fr) (k : Int) : Fr := bif !(s.c.get k.toNat).isEmpty then smPop s k else bif !(s.h.f.get k.toNat).isEmpty then smPop (smMove s k) k else bif pgE s != 0 then pgFr s k else smPop (smMove (pgFr s k) k) k
def lgAt (s : Fr) (n : Int) : Int := (((findE s.h.p (runE n).1).getD 0 : Nat) : Int)
def lgE (s : Fr) (n : Int) : Int × Int := bif (findE s.h.p (runE n).1).isSome then (16 * (lgAt s n + 1), 0) else (0, 4)
def lgFr (s : Fr) (n : Int) : Fr := bif (findE s.h.p (runE n).1).isSome then ⟨⟨s.h.w, (largeE s.h.p (lgAt s n) (runE n).1).2, s.h.f, s.h.c⟩, s.c⟩ else s
end Go.Ab

namespace Go.Ab
open Go
open Go.Proofs
end Go.Ab

namespace Go.Ab
open Go
open Go.Proofs
theorem orI_nat (m n : Nat) (hm : m < 2 ^ 63) (hn : n < 2 ^ 63) : orI (m : Int) (n : Int) = ((m ||| n : Nat) : Int) := by
  have h1 : m ||| n < 2 ^ 63 := Nat.or_lt_two_pow hm hn
  unfold orI
  have e1 : (BitVec.ofInt 64 (m : Int) ||| BitVec.ofInt 64 (n : Int)).toNat = m ||| n := by
    rw [BitVec.toNat_or]
    simp only [BitVec.ofInt_natCast, BitVec.toNat_ofNat]
    rw [Nat.mod_eq_of_lt (by omega), Nat.mod_eq_of_lt (by omega)]
  rw [e1, wrap_in (by omega)]
theorem andI_nat (m n : Nat) (hm : m < 2 ^ 63) (hn : n < 2 ^ 63) : andI (m : Int) (n : Int) = ((m &&& n : Nat) : Int) := by
  have h1 : m &&& n <= n := Nat.and_le_right
  unfold andI
  have e1 : (BitVec.ofInt 64 (m : Int) &&& BitVec.ofInt 64 (n : Int)).toNat = m &&& n := by
    rw [BitVec.toNat_and]
    simp only [BitVec.ofInt_natCast, BitVec.toNat_ofNat]
    rw [Nat.mod_eq_of_lt (by omega), Nat.mod_eq_of_lt (by omega)]
  rw [e1, wrap_in (by omega)]
theorem or_add (i a b : Nat) (h : a < 2 ^ i) : a ||| (b * 2 ^ i) = a + b * 2 ^ i := by
  have := Nat.two_pow_add_eq_or_of_lt h b
  rw [Nat.or_comm, Nat.mul_comm b, <- this]; omega
theorem mayH_in {x : Hd} (hm : mayH x = true) (ha : x.a = true) : 0 <= x.x /\ x.x <= 63 /\ 0 <= x.y /\ x.y <= 1048576 /\ 0 <= x.z /\ x.z <= 1048576 := by
  unfold mayH inS at hm
  rw [ha] at hm
  simp only [Bool.not_true, cond_false, Bool.and_eq_true, decide_eq_true_eq] at hm
  omega
theorem pack_val {x : Hd} (hm : mayH x = true) (ha : x.a = true) : ∃ L : Nat, L < 8 /\ (L &&& 1 = 1) /\ ((L &&& 2 != 0) = x.b) /\ ((L &&& 4 != 0) = x.c) /\
    packH x = ((L + x.x.toNat * 8 + x.y.toNat * 1024 + x.z.toNat * 4294967296 : Nat) : Int) := by
  obtain ⟨h1, h2, h3, h4, h5, h6⟩ := mayH_in hm ha
  obtain ⟨a, b, c, n, y, z⟩ := x
  have ha : a = true := ha
  subst ha
  have h1 : 0 <= n := h1
  have h2 : n <= 63 := h2
  have h3 : 0 <= y := h3
  have h4 : y <= 1048576 := h4
  have h5 : 0 <= z := h5
  have h6 : z <= 1048576 := h6
  obtain ⟨n', rfl⟩ : ∃ k : Nat, n = k := ⟨n.toNat, by omega⟩
  obtain ⟨y', rfl⟩ : ∃ k : Nat, y = k := ⟨y.toNat, by omega⟩
  obtain ⟨z', rfl⟩ : ∃ k : Nat, z = k := ⟨z.toNat, by omega⟩
  have w1 : IntKind.i64.wrap ((n' : Int) * 8) = ((n' * 2 ^ 3 : Nat) : Int) := by rw [wrap_in (by omega)]; omega
  have w2 : IntKind.i64.wrap ((y' : Int) * 1024) = ((y' * 2 ^ 10 : Nat) : Int) := by rw [wrap_in (by omega)]; omega
  have w3 : IntKind.i64.wrap ((z' : Int) * 4294967296) = ((z' * 2 ^ 32 : Nat) : Int) := by rw [wrap_in (by omega)]; omega
  have key : ∀ L : Nat, L < 8 -> orI (orI (orI (L : Int) (IntKind.i64.wrap ((n' : Int) * 8))) (IntKind.i64.wrap ((y' : Int) * 1024))) (IntKind.i64.wrap ((z' : Int) * 4294967296)) = ((L + n' * 8 + y' * 1024 + z' * 4294967296 : Nat) : Int) := fun L hL => by
    rw [w1, w2, w3, orI_nat _ _ (by omega) (by omega), or_add 3 L n' (by omega), orI_nat _ _ (by omega) (by omega), or_add 10 _ y' (by omega), orI_nat _ _ (by omega) (by omega), or_add 32 _ z' (by omega)]
  have o1 : ∀ p q : Nat, p < 8 -> q < 8 -> orI (p : Int) (q : Int) = ((p ||| q : Nat) : Int) := fun p q hp hq => orI_nat _ _ (by omega) (by omega)
  unfold packH
  show ∃ L : Nat, _ /\ _ /\ _ /\ _ /\ orI (orI (orI (orI (orI 1 (bif b then 2 else 0)) (bif c then 4 else 0)) _) _) _ = _
  cases b <;> cases c
  . refine ⟨1, by omega, rfl, rfl, rfl, ?_⟩
    have : orI (orI 1 0) 0 = ((1 : Nat) : Int) := by
      have := o1 1 0 (by omega) (by omega); rw [show (1 : Int) = ((1 : Nat) : Int) from rfl, show (0 : Int) = ((0 : Nat) : Int) from rfl, o1 1 0 (by omega) (by omega), show 1 ||| 0 = 1 from rfl, o1 1 0 (by omega) (by omega)]; rfl
    rw [cond_false, cond_false, this]
    exact key 1 (by omega)
  . refine ⟨5, by omega, rfl, rfl, rfl, ?_⟩
    have : orI (orI 1 0) 4 = ((5 : Nat) : Int) := by
      rw [show (1 : Int) = ((1 : Nat) : Int) from rfl, show (0 : Int) = ((0 : Nat) : Int) from rfl, show (4 : Int) = ((4 : Nat) : Int) from rfl, o1 1 0 (by omega) (by omega), show 1 ||| 0 = 1 from rfl, o1 1 4 (by omega) (by omega)]; rfl
    rw [cond_false, cond_true, this]
    exact key 5 (by omega)
  . refine ⟨3, by omega, rfl, rfl, rfl, ?_⟩
    have : orI (orI 1 2) 0 = ((3 : Nat) : Int) := by
      rw [show (1 : Int) = ((1 : Nat) : Int) from rfl, show (0 : Int) = ((0 : Nat) : Int) from rfl, show (2 : Int) = ((2 : Nat) : Int) from rfl, o1 1 2 (by omega) (by omega), show 1 ||| 2 = 3 from rfl, o1 3 0 (by omega) (by omega)]; rfl
    rw [cond_true, cond_false, this]
    exact key 3 (by omega)
  . refine ⟨7, by omega, rfl, rfl, rfl, ?_⟩
    have : orI (orI 1 2) 4 = ((7 : Nat) : Int) := by
      rw [show (1 : Int) = ((1 : Nat) : Int) from rfl, show (4 : Int) = ((4 : Nat) : Int) from rfl, show (2 : Int) = ((2 : Nat) : Int) from rfl, o1 1 2 (by omega) (by omega), show 1 ||| 2 = 3 from rfl, o1 3 4 (by omega) (by omega)]; rfl
    rw [cond_true, cond_true, this]
    exact key 7 (by omega)
theorem and_low (N L k : Nat) (hk : k < 8) (h : N % 8 = L) : N &&& k = L &&& k := by
  have e1 : k = 7 &&& k := by
    have : k = 0 \/ k = 1 \/ k = 2 \/ k = 3 \/ k = 4 \/ k = 5 \/ k = 6 \/ k = 7 := by omega
    rcases this with rfl | rfl | rfl | rfl | rfl | rfl | rfl | rfl <;> rfl
  rw [e1, <- Nat.and_assoc, show N &&& 7 = N % 8 from Nat.and_two_pow_sub_one_eq_mod N 3, h, <- e1]
end Go.Ab

namespace Go.Ab
open Go
open Go.Proofs
end Go.Ab

namespace Go.Ab
open Go
open Go.Proofs
theorem eat_tails : ∀ (k : Nat) (ps rest : List Pg), eat k ps = some rest -> ∀ j, j < k -> ps[j]? = some (3, 0)
  | 0, _, _, _, _, h => absurd h (by omega)
  | _ + 1, [], _, e, _, _ => by cases e
  | k + 1, (x, y) :: ps, rest, e, j, h => by
    have e : cond (x == 3 && (y == 0 && true)) (eat k ps) none = some rest := e
    cases hq : (x == 3 && (y == 0 && true)) with
    | false => rw [hq] at e; cases e
    | true =>
      rw [hq] at e
      simp only [Bool.and_eq_true, beq_iff_eq, and_true] at hq
      cases j with
      | zero => rw [hq.1, hq.2]; rfl
      | succ j => simpa using eat_tails k ps rest e j (by omega)
theorem large_drop {ps : List Pg} {i : Nat} {n : Int} (hm : may ps = true) (hi : ps[i]? = some (2, n)) : 1 <= n /\ i + n.toNat <= ps.length /\ (∀ j, i < j -> j < i + n.toNat -> ps[j]? = some (3, 0)) /\
    (dropE ps (i : Int)).2.length = ps.length /\ may (dropE ps (i : Int)).2 = true /\ ∀ j, (dropE ps (i : Int)).2[j]? = if i <= j /\ j < i + n.toNat then some (0, 0) else ps[j]? := by
  obtain ⟨b1, b4, hlen⟩ := may_run hm hi
  have h0 := may_go0 hm
  obtain ⟨_, _, rest, he, hr⟩ := mayGo_at h0 hi
  obtain ⟨hr1, hr2⟩ := eat_len _ _ _ he
  have ht := eat_tails _ _ _ he
  obtain ⟨hlt, hg⟩ := List.getElem?_eq_some_iff.1 hi
  have htail : ∀ j, i < j -> j < i + n.toNat -> ps[j]? = some (3, 0) := fun j h1 h2 => by
    have := ht (j - (i + 1)) (by omega)
    rw [List.getElem?_drop, show i + 1 + (j - (i + 1)) = j by omega] at this
    exact this
  have hXl : (ps.take i).length = i := by simp; omega
  have hZ : rest = ps.drop (i + n.toNat) := by
    rw [hr1, List.drop_drop]
    congr 1; omega
  have hY : ps.drop i = (2, n) :: ps.drop (i + 1) := by
    rw [List.drop_eq_getElem_cons hlt, hg]
  have hYs : (ps.drop i).take n.toNat = (2, n) :: (ps.drop (i + 1)).take (n.toNat - 1) := by
    rw [hY, show n.toNat = (n.toNat - 1) + 1 by omega]
    rfl
  have hYl : ((ps.drop i).take n.toNat).length = n.toNat := by simp; omega
  have e1 : ps = ps.take i ++ (ps.drop i).take n.toNat ++ ps.drop (i + n.toNat) := by
    rw [List.append_assoc, <- List.drop_drop, List.take_append_drop, List.take_append_drop]
  have h1 := drop_parts (X := ps.take i) (Y := (ps.drop i).take n.toNat) (Z := ps.drop (i + n.toNat)) (p := (2, n)) hYs (.inr rfl) (by rw [hYl]; show n = _; omega) (by rw [<- e1]; exact hm)
  rw [<- e1, hXl, hYl] at h1
  have hX : mayGo 0 (ps.take i) = some 0 := by
    have e2 : ps = ps.take i ++ (2, n) :: ps.drop (i + 1) := by rw [<- hY, List.take_append_drop]
    rw [e2, mayGo_append] at h0
    replace h0 := bind_some' h0
    obtain ⟨r1, h0, h2⟩ := h0
    have h3 : (cond (!(cond (decide (n >= 1)) (decide (n <= 4)) false)) none (cond (decide (r1 > 0)) none (mayGo (n - 1) (ps.drop (i + 1))))) = some 0 := h2
    have hr1 : ¬ r1 > 0 := fun hq => by
      rw [decide_eq_true hq] at h3
      cases hq2 : (!(cond (decide (n >= 1)) (decide (n <= 4)) false)) with
      | true => rw [hq2] at h3; cases h3
      | false => rw [hq2] at h3; cases h3
    have := mayGo_nonneg (Int.le_refl 0) h0
    have : r1 = 0 := by omega
    subst this
    exact h0
  obtain ⟨l1, l2⟩ := may_len hm
  have hdl : (ps.take i ++ List.replicate n.toNat (0, 0) ++ ps.drop (i + n.toNat)).length = ps.length := by simp; omega
  refine ⟨b1, hlen, htail, ?_, ?_, fun j => ?_⟩
  . rw [h1]; exact hdl
  . rw [h1]
    refine go_may (by rw [hdl]; exact l1) (by rw [hdl]; exact l2) ?_
    exact mayGo_join hX (mayGo_zeros _) (by rw [<- hZ]; exact hr)
  . rw [h1]
    show (ps.take i ++ List.replicate n.toNat (0, 0) ++ ps.drop (i + n.toNat))[j]? = _
    by_cases g1 : j < i
    . rw [if_neg (by omega), List.append_assoc, List.getElem?_append_left (by omega), List.getElem?_take_of_lt g1]
    . by_cases g2 : j < i + n.toNat
      . rw [if_pos ⟨by omega, g2⟩, List.getElem?_append_left (by simp; omega), List.getElem?_append_right (by omega), List.getElem?_replicate, if_pos (by omega)]
      . rw [if_neg (by omega), List.getElem?_append_right (by simp; omega), List.getElem?_drop]
        congr 1
        simp; omega
theorem cells_apart {ps : List Pg} {a e : Int} (ha : roomA ps a > 0) (he : roomA ps e > 0) (hne : e ≠ a) : e < a \/ a + roomA ps a <= e := by
  obtain ⟨hm, a1, a2, a3, p, a4, _, a6⟩ := cell_facts ha
  obtain ⟨_, e1, e2, e3, q, e4, _, e6⟩ := cell_facts he
  rcases a6 with ⟨k2, k3, k4, k5, k6, k7⟩ | ⟨k1, k2, k3, k4, k5⟩
  . obtain ⟨p1, n⟩ := p
    have k2 : p1 = 2 := k2
    subst k2
    obtain ⟨_, _, ht, _⟩ := large_drop hm a4
    by_cases h1 : e < a
    . exact .inl h1
    . by_cases h2 : a + roomA ps a <= e
      . exact .inr h2
      . exfalso
        rw [k4] at h2
        have k4' : roomA ps a = 16 * n := k4
        by_cases h3 : (e / 16 - 1).toNat = (a / 16 - 1).toNat
        . rw [h3, a4] at e4
          injection e4 with e4
          subst e4
          rcases e6 with ⟨_, g, _⟩ | ⟨g, _⟩
          . omega
          . cases g
        . have h2' : ¬ a + 16 * n <= e := h2
          have := ht (e / 16 - 1).toNat (by omega) (by omega)
          rw [e4] at this
          injection this with this
          subst this
          rcases e6 with ⟨g, _⟩ | ⟨g, _⟩ <;> cases g
  . by_cases h1 : e < a
    . exact .inl h1
    . right
      rw [k5]
      by_cases h3 : (e / 16 - 1).toNat = (a / 16 - 1).toNat
      . rw [h3, a4] at e4
        injection e4 with e4
        subst e4
        rcases e6 with ⟨g, _⟩ | ⟨_, _, _, g, _⟩
        . rw [k1] at g; cases g
        . rcases words_val k2 k3 with ⟨_, w⟩ | ⟨_, w⟩ | ⟨_, w⟩ <;> rw [w] at k4 g ⊢ <;> omega
      . rcases words_val k2 k3 with ⟨_, w⟩ | ⟨_, w⟩ | ⟨_, w⟩ <;> rw [w] at k4 ⊢ <;> omega
theorem zero_len {w : List Int} {a n : Int} (h16 : 16 <= a) (hn : 0 <= n) (hl : a - 16 + n <= (w.length : Int)) : (zeroW w a n).length = w.length := by
  unfold zeroW
  exact splice_len _ _ _ (by simp; omega)
theorem zero_get' {w : List Int} {a n : Int} (h16 : 16 <= a) (hn : 0 <= n) (hl : a - 16 + n <= (w.length : Int)) (j : Nat) : (zeroW w a n)[j]? = if (a - 16 <= (j : Int) /\ (j : Int) < a - 16 + n) then some 0 else w[j]? := by
  unfold zeroW splice
  rw [List.length_replicate]
  have ht : (w.take (a - 16).toNat).length = (a - 16).toNat := by simp; omega
  by_cases g1 : j < (a - 16).toNat
  . rw [if_neg (by omega), List.append_assoc, List.getElem?_append_left (by omega), List.getElem?_take_of_lt g1]
  . by_cases g2 : j < (a - 16).toNat + n.toNat
    . rw [if_pos (by omega), List.getElem?_append_left (by simp; omega), List.getElem?_append_right (by omega), List.getElem?_replicate, if_pos (by omega)]
    . rw [if_neg (by omega), List.getElem?_append_right (by simp; omega), List.getElem?_drop]
      congr 1
      simp; omega
end Go.Ab

namespace Go.Ab
open Go
open Go.Proofs
abbrev zeroH (h : Hp) (a : Int) : Hp := { h with w := zeroW h.w a (roomA h.p a) }
def oneL (c a : Int) : Ls := (⟨[], [], []⟩ : Ls).set [a] c.toNat
theorem oneL_get {c a : Int} (h0 : 0 <= c) (h2 : c <= 2) {k : Nat} (hk : k < 3) : (oneL c a).get k = if (k : Int) = c then [a] else [] := by
  unfold oneL
  rw [get_set hk (by omega)]
  by_cases h : k = c.toNat
  . rw [if_pos h, if_pos (by omega)]
  . rw [if_neg h, if_neg (by omega)]
    have : k = 0 \/ k = 1 \/ k = 2 := by omega
    rcases this with rfl | rfl | rfl <;> rfl
theorem push_one (l : Ls) {c : Int} (a : Int) (h0 : 0 <= c) (h2 : c <= 2) : pushL l c [a] = app3 l (oneL c a) := by
  have : c = 0 \/ c = 1 \/ c = 2 := by omega
  rcases this with rfl | rfl | rfl <;> simp [pushL, app3, oneL, Ls.set, Ls.get]
theorem shaped_w {h : Hp} (hs : shapedE h = true) : h.w.length = 16 * h.p.length := by
  simp only [shapedE, Bool.and_eq_true] at hs
  exact Nat.eq_of_beq_eq_true hs.2.2.1
theorem zero_in {h : Hp} {a : Int} (hs : shapedE h = true) (hr : roomA h.p a > 0) : 16 <= a /\ 0 <= roomA h.p a /\ a - 16 + roomA h.p a <= (h.w.length : Int) := by
  have h1 := (room_in hr).1
  have h2 := cell_end hr
  have h3 := shaped_w hs
  omega
theorem word_zero {h : Hp} {a : Int} (hs : shapedE h = true) (hr : roomA h.p a > 0) {e : Int} (h16 : 16 <= e) : wordE (zeroH h a) e = if a <= e /\ e < a + roomA h.p a then 0 else wordE h e := by
  obtain ⟨z1, z2, z3⟩ := zero_in hs hr
  unfold wordE
  rw [List.getD_eq_getElem?_getD, List.getD_eq_getElem?_getD]
  show ((zeroW h.w a (roomA h.p a))[(e - 16).toNat]?).getD 0 = _
  rw [zero_get' z1 z2 z3]
  by_cases g : a <= e /\ e < a + roomA h.p a
  . rw [if_pos g, if_pos (by omega)]; rfl
  . rw [if_neg g, if_neg (by omega)]
theorem word_keep {h : Hp} {a e : Int} (hs : shapedE h = true) (hr : roomA h.p a > 0) (he : roomA h.p e > 0) (hne : e ≠ a) : wordE (zeroH h a) e = wordE h e := by
  rw [word_zero hs hr (room_in he).1, if_neg]
  intro g
  rcases cells_apart hr he hne with g2 | g2 <;> omega
theorem word_gone {h : Hp} {a : Int} (hs : shapedE h = true) (hr : roomA h.p a > 0) : wordE (zeroH h a) a = 0 := by
  rw [word_zero hs hr (room_in hr).1, if_pos (by omega)]
theorem cell_mem {ps : List Pg} {e : Int} : e ∈ cellAs ps ↔ roomA ps e > 0 := by
  have h1 := room_pos ps e
  constructor
  . intro h
    rw [decide_eq_true (show e ∈ (allCs ps).map (·.1) from h)] at h1
    exact of_decide_eq_true h1
  . intro h
    rw [decide_eq_true h] at h1
    exact of_decide_eq_true h1.symm
theorem shaped_zero {h : Hp} {a : Int} (hs : shapedE h = true) (hr : roomA h.p a > 0) : shapedE (zeroH h a) = true := by
  obtain ⟨z1, z2, z3⟩ := zero_in hs hr
  have hl := zero_len (w := h.w) z1 z2 z3
  unfold shapedE at hs ⊢
  show (mayA (zeroW h.w a (roomA h.p a)).length && (may h.p && (Nat.beq (zeroW h.w a (roomA h.p a)).length (16 * h.p.length) && Nat.beq h.c.length ((zeroW h.w a (roomA h.p a)).length / 8)))) = true
  rw [hl]; exact hs
theorem MayF.zero {h : Hp} {ls : List Ls} (hm : MayF h ls) {a c : Int} (hr : roomA h.p a > 0) (hp : pageE h a = (1, c)) (hc0 : 0 <= c) (hc2 : c <= 2) (hw : wordE h a ≠ 0) : MayF (zeroH h a) (oneL c a :: ls) := by
  have hk : ∀ k : Nat, k < 3 -> ∀ l ∈ h.f :: ls, ∀ e ∈ l.get k, e ≠ a := fun k hk l hl e he h1 => by
    subst h1
    exact hw (listV_facts (listed_iff.1 (hm.li l hl) k hk e he)).2.2
  have hlv : ∀ l ∈ h.f :: ls, listedV (zeroH h a) l = true := fun l hl => listed_iff.2 fun k hk' e he => by
    have h1 := listed_iff.1 (hm.li l hl) k hk' e he
    have h2 := word_keep hm.sh hr (listV_facts h1).1 (hk k hk' l hl e he)
    unfold listV at h1 ⊢
    rw [h2]; exact h1
  refine ⟨shaped_zero hm.sh hr, fun l hl => ?_, fun e he => ?_, ?_⟩
  . rcases List.mem_cons.1 hl with rfl | hl
    . exact hlv h.f (by simp)
    . rcases List.mem_cons.1 hl with rfl | hl
      . refine listed_iff.2 fun k hk' e he => ?_
        rw [oneL_get hc0 hc2 hk'] at he
        by_cases hkc : (k : Int) = c
        . rw [if_pos hkc] at he
          have he := List.mem_singleton.1 he
          subst he
          unfold listV
          rw [word_gone hm.sh hr]
          show (decide (roomA h.p e > 0) && (((pageE h e).1 == 1 && (pageE h e).2 == (k : Int)) && (0 : Int) == 0)) = true
          rw [decide_eq_true hr, hp, hkc]
          simp
        . rw [if_neg hkc] at he; cases he
      . exact hlv l (by simp [hl])
  . have he' : roomA h.p e > 0 := cell_mem.1 he
    by_cases h1 : e = a
    . subst h1
      unfold mayV
      rw [word_gone hm.sh hr]
      show (unpOK 0 && bif (unp 0).a then fitsE (pageE h e) (unp 0).x else (pageE h e).1 == 1) = true
      rw [hp]; rfl
    . have := hm.ce e (cell_mem.2 he')
      unfold mayV at this ⊢
      rw [word_keep hm.sh hr he' h1]; exact this
  . have hnd := hm.nd
    rw [catI_cons] at hnd
    show (catI (h.f :: oneL c a :: ls)).Nodup
    rw [catI_cons, catI_cons]
    have ho : one3 (oneL c a) = [a] := by
      have : c = 0 \/ c = 1 \/ c = 2 := by omega
      rcases this with rfl | rfl | rfl <;> rfl
    rw [ho]
    have hp2 : (one3 h.f ++ ([a] ++ catI ls)).Perm ([a] ++ (one3 h.f ++ catI ls)) := swp _ _ _
    rw [hp2.nodup_iff, List.singleton_append, List.nodup_cons]
    refine ⟨fun hin => ?_, hnd⟩
    rcases List.mem_append.1 hin with hin | hin
    . obtain ⟨k, hk', he⟩ := one3_mem.1 hin
      exact hk k hk' h.f (by simp) a he rfl
    . obtain ⟨l, hl, he⟩ := List.mem_flatMap.1 hin
      obtain ⟨k, hk', he⟩ := one3_mem.1 he
      exact hk k hk' l (by simp [hl]) a he rfl
theorem MayF.absorb {h : Hp} {a : Ls} {ls : List Ls} (hm : MayF h (a :: ls)) : MayF (addF h a) ls := by
  refine ⟨hm.sh, fun l hl => ?_, hm.ce, ?_⟩
  . rcases List.mem_cons.1 hl with rfl | hl
    . refine listed_iff.2 fun k hk e he => ?_
      have he : e ∈ (app3 h.f a).get k := he
      rw [app3_get] at he
      rcases List.mem_append.1 he with h1 | h1
      . exact listed_iff.1 (hm.li h.f (by simp)) k hk e h1
      . exact listed_iff.1 (hm.li a (by simp)) k hk e h1
    . exact hm.li l (by simp [hl])
  . have hnd := hm.nd
    rw [catI_cons, catI_cons, <- List.append_assoc] at hnd
    show (catI (app3 h.f a :: ls)).Nodup
    rw [catI_cons]
    exact ((one3_app h.f a).append_right (catI ls)).nodup_iff.2 hnd
def Ls.e : Ls := ⟨[], [], []⟩
theorem MayF.nil {h : Hp} {ls : List Ls} (hm : MayF h ls) : MayF h (Ls.e :: ls) := by
  refine ⟨hm.sh, fun l hl => ?_, hm.ce, ?_⟩
  . rcases List.mem_cons.1 hl with rfl | hl
    . exact hm.li _ (by simp)
    . rcases List.mem_cons.1 hl with rfl | hl
      . rfl
      . exact hm.li l (by simp [hl])
  . have hnd := hm.nd
    rw [catI_cons] at hnd ⊢
    exact hnd
theorem addF_nil (h : Hp) : addF h Ls.e = h := by
  obtain ⟨w, p, ⟨a, b, c⟩, d⟩ := h
  simp [addF, app3, Ls.e]
theorem MayF.alone0 {h : Hp} {ls : List Ls} (hm : MayF h ls) {l : Ls} (hl : l ∈ ls) {k : Nat} (hk : k < 3) {e : Int} (he : e ∈ l.get k) {j : Nat} (hj : e / 16 - 1 = (j : Int)) : hitE h j = false := by
  have := hm.nil.alone hl hk he hj
  rwa [addF_nil] at this
structure Gone (h x : Hp) (D : Nat -> Bool) : Prop where
  w : x.w = h.w
  c : x.c = h.c
  m : may x.p = true
  l : x.p.length = h.p.length
  p : ∀ j, x.p[j]? = if D j = true then some (0, 0) else h.p[j]?
  f : ∀ k, k < 3 -> x.f.get k = (h.f.get k).filter fun e => !D (e / 16 - 1).toNat
theorem Gone.same {h x : Hp} {D : Nat -> Bool} (g : Gone h x D) (hm : may h.p = true) {e : Int} (hd : D (e / 16 - 1).toNat = false) : roomA x.p e = roomA h.p e /\ pageE x e = pageE h e /\ wordE x e = wordE h e :=
  same_at g.w g.l (by rw [g.m, hm]) (by rw [g.p, if_neg (by rw [hd]; simp)])
theorem Gone.cell {h x : Hp} {D : Nat -> Bool} (g : Gone h x D) {e : Int} (he : roomA x.p e > 0) : D (e / 16 - 1).toNat = false := by
  cases hd : D (e / 16 - 1).toNat with
  | false => rfl
  | true =>
    obtain ⟨_, _, _, _, p, g4, _, g6⟩ := cell_facts he
    rw [g.p, if_pos hd] at g4
    cases g4
    rcases g6 with ⟨k2, _⟩ | ⟨k1, _⟩
    . cases k2
    . cases k1
theorem MayF.gone {h x : Hp} {D : Nat -> Bool} {ls : List Ls} (hm : MayF h ls) (g : Gone h x D) (hal : ∀ l ∈ ls, ∀ k, k < 3 -> ∀ e ∈ l.get k, D (e / 16 - 1).toNat = false) : MayF x ls := by
  obtain ⟨q1, _, _⟩ := shaped_ne hm.sh
  have hlist : ∀ (k : Nat) (e : Int), listV h k e = true -> D (e / 16 - 1).toNat = false -> listV x k e = true := fun k e hl hd => by
    obtain ⟨r1, r2, r3⟩ := g.same q1 hd
    unfold listV at hl ⊢
    rw [r1, r2, r3]; exact hl
  refine ⟨?_, fun l hl => listed_iff.2 fun k hk e he => ?_, fun c hc => ?_, ?_⟩
  . have h1 := hm.sh
    unfold shapedE at h1 ⊢
    rw [g.w, g.c, g.l, g.m]
    rw [q1] at h1; exact h1
  . rcases List.mem_cons.1 hl with rfl | hl
    . rw [g.f k hk] at he
      obtain ⟨h1, h2⟩ := List.mem_filter.1 he
      exact hlist k e (listed_iff.1 (hm.li h.f (by simp)) k hk e h1) (by simpa using h2)
    . exact hlist k e (listed_iff.1 (hm.li l (by simp [hl])) k hk e he) (hal l hl k hk e he)
  . have h1 := cell_mem.1 hc
    have hd := g.cell h1
    obtain ⟨r1, r2, r3⟩ := g.same q1 hd
    have := hm.ce c (cell_mem.2 (by rw [<- r1]; exact h1))
    unfold mayV at this ⊢
    rw [r2, r3]; exact this
  . have hnd := hm.nd
    rw [catI_cons] at hnd ⊢
    have hg : ∀ k, k < 3 -> (x.f.get k).Sublist (h.f.get k) := fun k hk => by
      rw [g.f k hk]; exact List.filter_sublist
    have hsub : (one3 x.f).Sublist (one3 h.f) := ((hg 0 (by omega)).append (hg 1 (by omega))).append (hg 2 (by omega))
    exact hnd.sublist (hsub.append (List.Sublist.refl _))
theorem back_gone {h : Hp} {ls : List Ls} (hm : MayF h ls) (hk : okW h = true) (i : Nat) : Gone h (backH h i) (fun j => Nat.beq j i && hitE h i) := by
  obtain ⟨b1, b2⟩ := back_ok hk i
  have hmx : may (backH h i).p = true := by
    simp only [okW, Bool.and_eq_true] at b1
    exact b1.1
  cases hh : hitE h i with
  | false =>
    have e : backH h i = h := by unfold backH; rw [hh]; rfl
    rw [e] at hmx ⊢
    refine ⟨rfl, rfl, hmx, rfl, fun j => by simp, fun k _ => ?_⟩
    rw [List.filter_eq_self.2]
    intro x _
    simp
  | true =>
    have e : backH h i = { h with p := h.p.set i (0, 0), f := partL h.f (h.p.getD i (0, 0)).2 (loE i) (loE i + 16) } := by unfold backH; rw [hh]; rfl
    obtain ⟨c, hc, _⟩ := hit_small hh
    simp only [okW, Bool.and_eq_true] at hk
    obtain ⟨_, _, q3⟩ := small_drop hk.1 hc
    have hc3 : c.toNat < 3 := by rcases isC_cases q3 with rfl | rfl | rfl <;> decide
    have hcn : 0 <= c := by rcases isC_cases q3 with rfl | rfl | rfl <;> decide
    have hgd : h.p.getD i (0, 0) = (1, c) := by rw [List.getD_eq_getElem?_getD, hc]; rfl
    refine ⟨by rw [e], by rw [e], hmx, b2, fun j => ?_, fun k hk => ?_⟩
    . rw [e]
      show (h.p.set i (0, 0))[j]? = _
      rw [List.getElem?_set]
      by_cases hj : i = j
      . subst hj
        rw [if_pos rfl, if_pos (List.getElem?_eq_some_iff.1 hc).1, if_pos (by simp)]
      . rw [if_neg hj, if_neg]
        simp only [Bool.and_true, Nat.beq_eq]
        exact fun q => hj q.symm
    . rw [e]
      show (partL h.f (h.p.getD i (0, 0)).2 (loE i) (loE i + 16)).get k = _
      rw [hgd]
      unfold partL
      rw [get_set hk hc3]
      by_cases hkc : k = c.toNat
      . rw [if_pos hkc, <- hkc]
        refine List.filter_congr fun x hx => ?_
        have := listed_iff.1 (hm.li h.f (by simp)) k hk x hx
        obtain ⟨j, hj, _⟩ := listV_at this
        have h1 : (inR (loE i) (loE i + 16) x = true) ↔ (Nat.beq (x / 16 - 1).toNat i && true) = true := by
          rw [inR_iff]
          simp only [Bool.and_true, Nat.beq_eq]
          omega
        rw [Bool.eq_iff_iff.2 h1]
      . rw [if_neg hkc, List.filter_eq_self.2]
        intro x hx
        have := listed_iff.1 (hm.li h.f (by simp)) k hk x hx
        obtain ⟨j, hj, hp, _⟩ := listV_at this
        simp only [Bool.and_true, Bool.not_eq_true', <- Bool.not_eq_true, Nat.beq_eq]
        intro hq
        have : j = i := by omega
        subst this
        rw [hc] at hp
        injection hp with hp
        have := (Prod.mk.inj hp).2
        omega
theorem large_gone {h : Hp} {ls : List Ls} (hm : MayF h ls) {i : Nat} {n : Int} (hi : h.p[i]? = some (2, n)) : Gone h { h with p := (dropE h.p (i : Int)).2 } (fun j => decide (i <= j) && decide (j < i + n.toNat)) := by
  obtain ⟨q1, _, _⟩ := shaped_ne hm.sh
  obtain ⟨n1, _, ht, hl, hmx, hp⟩ := large_drop q1 hi
  refine ⟨rfl, rfl, hmx, hl, fun j => ?_, fun k hk => ?_⟩
  . refine (hp j).trans ?_
    by_cases hj : i <= j /\ j < i + n.toNat
    . rw [if_pos hj, if_pos (by simp [hj])]
    . rw [if_neg hj, if_neg (by simpa using hj)]
  . show h.f.get k = _
    rw [List.filter_eq_self.2]
    intro x hx
    obtain ⟨j, hj, hpj, _⟩ := listV_at (listed_iff.1 (hm.li h.f (by simp)) k hk x hx)
    rw [show (x / 16 - 1).toNat = j by omega]
    by_cases g : i <= j /\ j < i + n.toNat
    . exfalso
      by_cases hij : i = j
      . subst hij; rw [hi] at hpj; cases hpj
      . rw [ht j (by omega) g.2] at hpj; cases hpj
    . rw [Bool.not_eq_true', Bool.and_eq_false_iff, decide_eq_false_iff_not, decide_eq_false_iff_not]
      omega
theorem MayF.words {x : Hp} {ls : List Ls} (hm : MayF x ls) {w : List Int} (hl : w.length = x.w.length) (hw : ∀ e, roomA x.p e > 0 -> wordE { x with w := w } e = wordE x e) : MayF { x with w := w } ls := by
  refine ⟨?_, fun l hl => listed_iff.2 fun k hk e he => ?_, fun e he => ?_, hm.nd⟩
  . have := hm.sh
    unfold shapedE at this ⊢
    show (mayA w.length && (may x.p && (Nat.beq w.length (16 * x.p.length) && Nat.beq x.c.length (w.length / 8)))) = true
    rw [hl]; exact this
  . have h1 := listed_iff.1 (hm.li l hl) k hk e he
    have := hw e (listV_facts h1).1
    unfold listV at h1 ⊢
    rw [this]; exact h1
  . have h1 := hm.ce e he
    have := hw e (cell_mem.1 he)
    unfold mayV at h1 ⊢
    rw [this]; exact h1
end Go.Ab

namespace Go.Ab
open Go
open Go.Proofs
structure Obj (h : Hp) (a : Int) : Prop where
  r : roomA h.p a > 0
  u : (unpX h a).a = true
theorem unp_zero : (bif unpOK 0 then unp 0 else Hd.z0).a = false := by rfl
theorem Obj.w {h : Hp} {a : Int} (o : Obj h a) : wordE h a ≠ 0 := fun e => by
  have := o.u
  unfold unpX at this
  rw [e, unp_zero] at this
  cases this
abbrev pgN (a : Int) : Nat := (a / 16 - 1).toNat
def freeL (h : Hp) (a : Int) : Ls := bif (pageE h a).1 == 2 then h.f else app3 h.f (oneL (pageE h a).2 a)
def freeD (h : Hp) (a : Int) (j : Nat) : Bool := bif (pageE h a).1 == 2 then decide (pgN a <= j) && decide (j < pgN a + (pageE h a).2.toNat) else Nat.beq j (pgN a) && hitE (addF h (oneL (pageE h a).2 a)) (pgN a)
theorem freeL_len (h : Hp) (a : Int) {k : Nat} (hk : k < 3) : ((freeL h a).get k).length <= (h.f.get k).length + 1 := by
  unfold freeL
  cases (pageE h a).1 == 2 with
  | true => show (h.f.get k).length <= _; omega
  | false =>
    show ((app3 h.f (oneL (pageE h a).2 a)).get k).length <= _
    rw [app3_get, List.length_append]
    have : ((oneL (pageE h a).2 a).get k).length <= 1 := by
      unfold oneL
      match (pageE h a).2.toNat with
      | 0 => match k with
        | 0 => exact Nat.le_refl _
        | 1 => exact Nat.zero_le _
        | _ + 2 => exact Nat.zero_le _
      | 1 => match k with
        | 0 => exact Nat.zero_le _
        | 1 => exact Nat.le_refl _
        | _ + 2 => exact Nat.zero_le _
      | _ + 2 => match k with
        | 0 => exact Nat.zero_le _
        | 1 => exact Nat.zero_le _
        | _ + 2 => exact Nat.le_refl _
    omega
theorem obj_page {h : Hp} {a : Int} (hr : roomA h.p a > 0) : ((pgN a : Nat) : Int) = a / 16 - 1 /\ h.p[pgN a]? = some (pageE h a) /\ ((∃ n, pageE h a = (2, n)) \/ ∃ c, pageE h a = (1, c) /\ 0 <= c /\ c <= 2) := by
  obtain ⟨_, _, _, h3, p, h4, h5, h6⟩ := cell_facts hr
  have hp : pageE h a = p := h5
  refine ⟨h3, by rw [hp]; exact h4, ?_⟩
  obtain ⟨x, y⟩ := p
  rcases h6 with ⟨k1, _⟩ | ⟨k1, k2, k3, _⟩
  . have k1 : x = 2 := k1
    exact .inl ⟨y, by rw [hp, k1]⟩
  . have k1 : x = 1 := k1
    exact .inr ⟨y, by rw [hp, k1], k2, k3⟩
theorem free_fin {h : Hp} {ls : List Ls} (hm : MayF h ls) {a : Int} (ho : Obj h a) (hs : smL (freeL h a) = true) :
    MayF (freeH h a) ls /\ (freeH h a).w = zeroW h.w a (roomA h.p a) /\ (freeH h a).c = h.c /\ (freeH h a).p.length = h.p.length /\ may (freeH h a).p = true /\
    (∀ j, (freeH h a).p[j]? = if freeD h a j = true then some (0, 0) else h.p[j]?) /\ (∀ k, k < 3 -> (freeH h a).f.get k = ((freeL h a).get k).filter fun e => !freeD h a (pgN e)) /\
    ∀ e, roomA (freeH h a).p e > 0 -> e ≠ a -> roomA h.p e > 0 /\ freeD h a (pgN e) = false := by
  obtain ⟨p1, p2, p3⟩ := obj_page ho.r
  obtain ⟨z1, z2, z3⟩ := zero_in hm.sh ho.r
  have hzl := zero_len (w := h.w) z1 z2 z3
  obtain ⟨q1, _, _⟩ := shaped_ne hm.sh
  rcases p3 with ⟨n, hn⟩ | ⟨c, hc, c0, c2⟩
  . have e2 : (pageE h a).1 == 2 := by rw [hn]; rfl
    have ex : freeH h a = { h with w := zeroW h.w a (roomA h.p a), p := (dropE h.p ((pgN a : Nat) : Int)).2 } := by unfold freeH; rw [e2]; rfl
    have eL : freeL h a = h.f := by unfold freeL; rw [e2]; rfl
    have eD : ∀ j, freeD h a j = (decide (pgN a <= j) && decide (j < pgN a + n.toNat)) := fun j => by unfold freeD; rw [e2, hn]; rfl
    rw [hn] at p2
    have g := large_gone hm p2
    obtain ⟨n1, n2, ht, _⟩ := large_drop q1 p2
    have hm1 : MayF { h with p := (dropE h.p ((pgN a : Nat) : Int)).2 } ls := hm.gone g fun l hl k hk e he => by
      obtain ⟨j, hj, hpj, _⟩ := listV_at (listed_iff.1 (hm.li l (by simp [hl])) k hk e he)
      rw [show (e / 16 - 1).toNat = j by omega, Bool.and_eq_false_iff, decide_eq_false_iff_not, decide_eq_false_iff_not]
      by_cases gg : pgN a <= j /\ j < pgN a + n.toNat
      . exfalso
        by_cases hij : pgN a = j
        . rw [<- hij, p2] at hpj; cases hpj
        . rw [ht j (by omega) gg.2] at hpj; cases hpj
      . omega
    have hcell : ∀ e, roomA (dropE h.p ((pgN a : Nat) : Int)).2 e > 0 -> e ≠ a /\ roomA h.p e > 0 /\ freeD h a (pgN e) = false := fun e he => by
      have hd := g.cell (e := e) he
      obtain ⟨r1, _, _⟩ := g.same q1 (e := e) hd
      refine ⟨fun hq => ?_, by rw [<- r1]; exact he, by rw [eD]; exact hd⟩
      subst hq
      have hd : (decide (pgN e <= pgN e) && decide (pgN e < pgN e + n.toNat)) = false := hd
      rw [decide_eq_true (Nat.le_refl _), decide_eq_true (by omega)] at hd
      cases hd
    have hm2 : MayF { h with w := zeroW h.w a (roomA h.p a), p := (dropE h.p ((pgN a : Nat) : Int)).2 } ls := hm1.words (w := zeroW h.w a (roomA h.p a)) hzl fun e he => by
      obtain ⟨g1, g2, _⟩ := hcell e he
      exact word_keep hm.sh ho.r g2 g1
    rw [ex, eL]
    refine ⟨hm2, rfl, rfl, g.l, g.m, fun j => ?_, fun k hk => ?_, fun e he _ => (hcell e he).2⟩
    . rw [eD]; exact g.p j
    . refine (g.f k hk).trans (List.filter_congr fun x _ => ?_)
      rw [eD]
  . have e2 : ((pageE h a).1 == 2) = false := by rw [hc]; rfl
    have eL : freeL h a = app3 h.f (oneL c a) := by unfold freeL; rw [e2, hc]; rfl
    have eD : ∀ j, freeD h a j = (Nat.beq j (pgN a) && hitE (addF h (oneL c a)) (pgN a)) := fun j => by unfold freeD; rw [e2, hc]; rfl
    have ex : freeH h a = backH (addF (zeroH h a) (oneL c a)) (pgN a) := by
      unfold freeH
      rw [e2, hc, push_one _ _ c0 c2]; rfl
    rw [eL] at hs
    have hm0 : MayF (addF (zeroH h a) (oneL c a)) ls := (hm.zero ho.r hc c0 c2 ho.w).absorb
    have hk : okW (addF (zeroH h a) (oneL c a)) = true := by
      show (may h.p && smL (app3 h.f (oneL c a))) = true
      rw [q1, hs]; rfl
    have g := back_gone hm0 hk (pgN a)
    rw [ex, eL]
    refine ⟨hm0.gone g fun l hl k hk' e he => ?_, g.w, g.c, g.l, g.m, fun j => ?_, fun k hk' => ?_, fun e he hne => ?_⟩
    . obtain ⟨j, hj, _⟩ := listV_at (listed_iff.1 (hm0.li l (by simp [hl])) k hk' e he)
      have := hm0.alone0 hl hk' he hj
      rw [show (e / 16 - 1).toNat = j by omega]
      cases hb : Nat.beq j (pgN a) with
      | false => rfl
      | true =>
        rw [<- Nat.eq_of_beq_eq_true hb, this]; rfl
    . rw [eD]; exact g.p j
    . refine (g.f k hk').trans (List.filter_congr fun x _ => ?_)
      rw [eD]; rfl
    . have hd := g.cell he
      obtain ⟨r1, _, _⟩ := g.same q1 (e := e) hd
      refine ⟨by rw [r1] at he; exact he, ?_⟩
      rw [eD]; exact hd
end Go.Ab

namespace Go.Ab
open Go
open Go.Proofs
section
variable {h : Hp} {a b : Int}
end
end Go.Ab

namespace Go.Ab
open Go
open Go.Proofs
theorem head_obj {h : Hp} {a : Int} (hm : MayF h []) (ho : Obj h a) : headE h a = (unpX h a, 0) := by
  unfold headE
  rw [mayF_iff.2 hm, ho.u, roomN, decide_eq_true ho.r]; rfl
theorem obj_head {h : Hp} {a : Int} (he : ((headE h a).2 != 0) = false) : Obj h a := ⟨(head_ok he).2.1, (head_ok he).2.2.1⟩
theorem freeHE_obj {h : Hp} {a : Int} (hm : MayF h []) (ho : Obj h a) : freeHE h a = (freeH h a, 0) := by
  unfold freeHE; rw [head_obj hm ho]; rfl
def lenF (h : Hp) (n : Nat) : Prop := ∀ k, k < 3 -> (h.f.get k).length <= n
theorem lenF.smL {h : Hp} {n : Nat} (hl : lenF h n) (hn : n <= 90000) : smL h.f = true /\ smL1 h.f = true /\ smLs [h.f] = true := by
  have h1 := hl 0 (by omega)
  have h2 := hl 1 (by omega)
  have h3 := hl 2 (by omega)
  have h1 : h.f.a.length <= n := h1
  have h2 : h.f.b.length <= n := h2
  have h3 : h.f.c.length <= n := h3
  have e : Go.Ab.smL h.f = true := smL_len (by omega) (by omega) (by omega)
  refine ⟨e, ?_, by simp [smLs, e]⟩
  simp only [smL1, Nat.ble_eq_true_of_le (show h.f.a.length <= 90000 by omega), Nat.ble_eq_true_of_le (show h.f.b.length <= 90000 by omega), Nat.ble_eq_true_of_le (show h.f.c.length <= 90000 by omega), Bool.and_self]
theorem lenF.freeL {h : Hp} {n : Nat} (hl : lenF h n) (hn : n + 1 <= 90000) (a : Int) : Go.Ab.smL (Go.Ab.freeL h a) = true := by
  have h1 := freeL_len h a (k := 0) (by omega)
  have h2 := freeL_len h a (k := 1) (by omega)
  have h3 := freeL_len h a (k := 2) (by omega)
  have g1 := hl 0 (by omega)
  have g2 := hl 1 (by omega)
  have g3 := hl 2 (by omega)
  exact smL_len (Nat.le_trans h1 (by omega)) (Nat.le_trans h2 (by omega)) (Nat.le_trans h3 (by omega))
theorem lenF.free {h : Hp} {n : Nat} (hl : lenF h n) (hn : n + 1 <= 90000) {ls : List Ls} (hm : MayF h ls) {a : Int} (ho : Obj h a) : lenF (freeH h a) (n + 1) := fun k hk => by
  obtain ⟨_, _, _, _, _, _, f7, _⟩ := free_fin hm ho (hl.freeL hn a)
  rw [f7 k hk]
  refine Nat.le_trans (List.length_filter_le _ _) ?_
  have h1 := freeL_len h a hk
  have h2 := hl k hk
  omega
structure Few (h : Hp) (n : Nat) : Prop where
  w : h.w.length <= 130
  p : h.p.length <= 9
  c : h.c.length <= 20
  f : lenF h n
theorem Few.sm {h : Hp} {n : Nat} (hf : Few h n) (hn : n <= 90000) : smH h = true /\ smL1 h.f = true /\ smLs [h.f] = true /\ Go.Ab.sm h.p = true := by
  obtain ⟨h1, h2, h3⟩ := hf.f.smL hn
  have := hf.w
  have := hf.p
  have := hf.c
  exact ⟨smH_of (by omega) (by omega) (by omega) h1, h2, h3, sm_of (by omega)⟩
theorem Few.free {h : Hp} {n : Nat} (hf : Few h n) (hn : n + 1 <= 90000) {ls : List Ls} (hm : MayF h ls) {a : Int} (ho : Obj h a) : Few (freeH h a) (n + 1) := by
  obtain ⟨_, f2, f3, f4, _⟩ := free_fin hm ho (hf.f.freeL hn a)
  obtain ⟨z1, z2, z3⟩ := zero_in hm.sh ho.r
  have := zero_len (w := h.w) z1 z2 z3
  exact ⟨by rw [f2, this]; exact hf.w, by rw [f4]; exact hf.p, by rw [f3]; exact hf.c, hf.f.free hn hm ho⟩
theorem few_of {h : Hp} {ls : List Ls} (hf : fewV h ls = true) : Few h 70 /\ smLs (h.f :: ls) = true /\ (∀ l ∈ ls, lightV l = true) /\ ls.length <= 4 := by
  obtain ⟨w1, w2, w3, w4, w5, w6⟩ := few_le hf
  refine ⟨⟨w1, w2, w3, light_get w4⟩, ?_, w5, w6⟩
  unfold smLs
  rw [Nat.ble_eq_true_of_le (by simp; omega), Bool.true_and, List.all_eq_true]
  intro l hl
  rcases List.mem_cons.1 hl with rfl | hl
  . exact light_sm w4
  . exact light_sm (w5 l hl)
theorem MayF.none {h : Hp} {ls : List Ls} (hm : MayF h ls) : MayF h [] := by
  refine ⟨hm.sh, fun l hl => hm.li l (by simp only [List.mem_cons, List.not_mem_nil, or_false] at hl ⊢; exact .inl hl), hm.ce, ?_⟩
  have hnd := hm.nd
  rw [catI_cons] at hnd ⊢
  exact hnd.sublist (List.Sublist.append (List.Sublist.refl _) (List.nil_sublist _))
end Go.Ab

namespace Go.Ab
open Go
open Go.Proofs
theorem whole_iff {h : Hp} {ls : List Ls} : wholeHV h ls = true ↔ MayF h ls /\ ∀ c, roomA h.p c > 0 -> wordE h c = 0 -> c ∈ catI (h.f :: ls) := by
  unfold wholeHV
  rw [Bool.and_eq_true, mayF_iff, List.all_eq_true]
  constructor
  . rintro ⟨h1, h2⟩
    refine ⟨h1, fun c hc hw => ?_⟩
    have := h2 c (cell_mem.2 hc)
    rw [hw] at this
    simpa using this
  . rintro ⟨h1, h2⟩
    refine ⟨h1, fun c hc => ?_⟩
    have := h2 c (cell_mem.1 hc)
    cases hw : wordE h c != 0 with
    | true => rfl
    | false =>
      have := this (by simpa using hw)
      simpa using this
theorem cat_mem {ls : List Ls} {e : Int} : e ∈ catI ls ↔ ∃ l ∈ ls, ∃ k, k < 3 /\ e ∈ l.get k := by
  unfold catI
  rw [List.mem_flatMap]
  constructor
  . rintro ⟨l, hl, he⟩; exact ⟨l, hl, one3_mem.1 he⟩
  . rintro ⟨l, hl, he⟩; exact ⟨l, hl, one3_mem.2 he⟩
end Go.Ab

namespace Go.Ab
open Go
open Go.Proofs
end Go.Ab

namespace Go.Ab
open Go
open Go.Proofs
theorem findF_some {ps : List Pg} {n : Nat} : ∀ {m a b : Nat}, findF ps n m a = some b -> a <= b /\ b < a + m /\ all0 ((ps.drop b).take n) = true /\ ∀ j, a <= j -> j < b -> all0 ((ps.drop j).take n) = false
  | 0, _, _, h => by cases h
  | m + 1, a, b, h => by
    unfold findF at h
    cases h0 : all0 ((ps.drop a).take n) with
    | true =>
      rw [h0] at h
      cases h
      exact ⟨Nat.le_refl _, by omega, h0, fun j h1 h2 => by omega⟩
    | false =>
      rw [h0] at h
      obtain ⟨h1, h2, h3, h4⟩ := findF_some (m := m) h
      refine ⟨by omega, by omega, h3, fun j g1 g2 => ?_⟩
      by_cases hj : j = a
      . rw [hj]; exact h0
      . exact h4 j (by omega) g2
theorem all0_free : ∀ (n : Nat) (l : List Pg), n <= l.length -> all0 (l.take n) = allFree n l
  | 0, _, _ => rfl
  | n + 1, [], h => by simp at h
  | n + 1, p :: l, h => by
    have := all0_free n l (by simpa using h)
    show (p.1 == 0 && all0 (l.take n)) = cond (p.1 == 0) (allFree n l) false
    rw [this]
    cases p.1 == 0 <;> rfl
theorem find_parts {ps : List Pg} {n : Int} {at' : Nat} (hf : findE ps n = some at') : may ps = true /\ 1 <= n /\ n <= 4 /\ ∃ X Z, ps = X ++ List.replicate n.toNat (0, 0) ++ Z /\ X.length = at' /\ mayGo 0 X = some 0 /\ mayGo 0 Z = some 0 := by
  unfold findE at hf
  cases hm : may ps with
  | false => rw [hm] at hf; cases hf
  | true =>
    cases hn : in3 n 1 4 with
    | false => rw [hm, hn] at hf; cases hf
    | true =>
      rw [hm, hn] at hf
      obtain ⟨n1, n4⟩ := in3_iff.1 hn
      have hf : findF ps n.toNat (ps.length + 1 - n.toNat) 0 = some at' := hf
      obtain ⟨_, h2, h3, _⟩ := findF_some hf
      rw [all0_free _ _ (by rw [List.length_drop]; omega)] at h3
      exact ⟨rfl, n1, n4, may_free (may_go0 hm) (by omega) h3⟩
theorem large_put {ps : List Pg} {at' : Nat} {n : Int} (hf : findE ps n = some at') : 1 <= n /\ n <= 4 /\ at' + n.toNat <= ps.length /\ (∀ j, at' <= j -> j < at' + n.toNat -> ps[j]? = some (0, 0)) /\ may (largeE ps (at' : Int) n).2 = true /\ (largeE ps (at' : Int) n).2.length = ps.length /\
    ∀ j, (largeE ps (at' : Int) n).2[j]? = if j = at' then some (2, n) else if at' < j /\ j < at' + n.toNat then some (3, 0) else ps[j]? := by
  obtain ⟨hm, n1, n4, X, Z, rfl, rfl, hX, hZ⟩ := find_parts hf
  obtain ⟨l1, l2⟩ := may_len hm
  have hol : (ownL n).length = n.toNat := ownL_len n1
  rw [large_parts n1 n4 hm]
  refine ⟨n1, n4, by simp, fun j h1 h2 => ?_, go_may ?_ ?_ (mayGo_join hX (mayGo_ownL n1 n4) hZ), ?_, fun j => ?_⟩
  . rw [List.append_assoc, List.getElem?_append_right h1, List.getElem?_append_left (by simp; omega), List.getElem?_replicate, if_pos (by omega)]
  . simp [hol]; omega
  . simp only [List.length_append, List.length_replicate] at l2 ⊢; omega
  . simp [hol]
  . show (X ++ ownL n ++ Z)[j]? = _
    by_cases h1 : j < X.length
    . rw [if_neg (by omega), if_neg (by omega), List.append_assoc, List.append_assoc, List.getElem?_append_left h1, List.getElem?_append_left h1]
    . by_cases h2 : j < X.length + n.toNat
      . rw [List.append_assoc, List.getElem?_append_right (by omega), List.getElem?_append_left (by rw [hol]; omega)]
        unfold ownL
        by_cases h3 : j = X.length
        . rw [if_pos h3, h3, Nat.sub_self]; rfl
        . rw [if_neg h3, if_pos (by omega), show j - X.length = (j - X.length - 1) + 1 by omega, List.getElem?_cons_succ, List.getElem?_replicate, if_pos (by omega)]
      . rw [if_neg (by omega), if_neg (by omega), List.getElem?_append_right (by simp [hol]; omega), List.getElem?_append_right (by simp; omega)]
        congr 1
        simp [hol]
end Go.Ab

namespace Go.Ab
open Go
open Go.Proofs
theorem putW_get (w : List Int) (a v : Int) (j : Nat) : (putW w a v)[j]? = if j = (a - 16).toNat /\ j < w.length then some v else w[j]? := by
  unfold putW
  rw [List.getElem?_set]
  by_cases h : (a - 16).toNat = j
  . subst h
    by_cases h2 : (a - 16).toNat < w.length
    . rw [if_pos rfl, if_pos h2, if_pos ⟨rfl, h2⟩]
    . rw [if_pos rfl, if_neg h2, if_neg (fun q => h2 q.2), List.getElem?_eq_none (by omega)]
  . rw [if_neg h, if_neg (fun q => h q.1.symm)]
section
variable {h : Hp} {ls : List Ls} {at' : Nat} {c : Int}
theorem free_none (hp : h.p[at']? = some (0, 0)) {e : Int} (he : roomA h.p e > 0) : pgN e ≠ at' := fun q => by
  obtain ⟨_, _, _, _, p, g4, _, g6⟩ := cell_facts he
  have g4 : h.p[pgN e]? = some p := g4
  rw [q, hp] at g4
  cases g4
  rcases g6 with ⟨k2, _⟩ | ⟨k1, _⟩
  . cases k2
  . cases k1
def newYs (h : Hp) (at' : Nat) (c : Int) : List Int := ((onL (h.p.set at' (1, c)) (at' : Int)).map (·.1)).reverse
def pageH (h : Hp) (at' : Nat) (c : Int) : Hp := ⟨putsW h.w (newYs h at' c), h.p.set at' (1, c), pushL h.f c (newYs h at' c), h.c⟩
structure PageF (h : Hp) (ls : List Ls) (at' : Nat) (c : Int) : Prop where
  m : MayF (pageH h at' c) ls
  old : ∀ e, roomA h.p e > 0 -> pgN e ≠ at' /\ roomA (pageH h at' c).p e = roomA h.p e /\ pageE (pageH h at' c) e = pageE h e /\ wordE (pageH h at' c) e = wordE h e
  new : ∀ e, roomA (pageH h at' c).p e > 0 -> (pgN e = at' /\ e ∈ newYs h at' c /\ wordE (pageH h at' c) e = 0) \/ (pgN e ≠ at' /\ roomA h.p e > 0)
  ys : ∀ e, e ∈ newYs h at' c ↔ roomA (pageH h at' c).p e > 0 /\ pgN e = at'
  ne : newYs h at' c ≠ []
  w : ∀ j : Nat, j / 16 ≠ at' -> (pageH h at' c).w[j]? = h.w[j]?
end
end Go.Ab

namespace Go.Ab
open Go
open Go.Proofs
theorem count_set {l : Ls} {x : List Int} {k : Nat} (hk : k < 3) (e : Int) : (one3 (l.set x k)).count e + (l.get k).count e = (one3 l).count e + x.count e := by
  have : k = 0 \/ k = 1 \/ k = 2 := by omega
  rcases this with rfl | rfl | rfl
  . show (x ++ l.b ++ l.c).count e + l.a.count e = (l.a ++ l.b ++ l.c).count e + x.count e
    simp only [List.count_append]; omega
  . show (l.a ++ x ++ l.c).count e + l.b.count e = (l.a ++ l.b ++ l.c).count e + x.count e
    simp only [List.count_append]; omega
  . show (l.a ++ l.b ++ x).count e + l.c.count e = (l.a ++ l.b ++ l.c).count e + x.count e
    simp only [List.count_append]; omega
theorem count_cut (n : Nat) (l : List Int) (e : Int) : (l.take n).count e + (l.drop n).count e = l.count e := by
  rw [<- List.count_append, List.take_append_drop]
section
variable {h : Hp} {c : Ls} {ls : List Ls}
theorem MayF.regroup (hm : MayF h (c :: ls)) {f' c' : Ls} {r : List Int} (hmem : ∀ k, k < 3 -> ∀ e, (e ∈ f'.get k \/ e ∈ c'.get k) -> (e ∈ h.f.get k \/ e ∈ c.get k))
    (hp : (r ++ (one3 f' ++ one3 c')).Perm (one3 h.f ++ one3 c)) : MayF { h with f := f' } (c' :: ls) /\ r.Nodup /\ ∀ e ∈ r, e ∉ catI (f' :: c' :: ls) := by
  have hnd := hm.nd
  rw [catI_cons, catI_cons, <- List.append_assoc] at hnd
  have h1 : (r ++ (one3 f' ++ one3 c') ++ catI ls).Nodup := (hp.append_right (catI ls)).nodup_iff.2 hnd
  rw [List.append_assoc, List.append_assoc] at h1
  obtain ⟨h2, h3, h4⟩ := List.nodup_append.1 h1
  refine ⟨⟨hm.sh, fun l hl => ?_, hm.ce, ?_⟩, h2, fun e he hin => ?_⟩
  . have key : ∀ k, k < 3 -> ∀ e, (e ∈ f'.get k \/ e ∈ c'.get k) -> listV h k e = true := fun k hk e he => by
      rcases hmem k hk e he with h5 | h5
      . exact listed_iff.1 (hm.li h.f (by simp)) k hk e h5
      . exact listed_iff.1 (hm.li c (by simp)) k hk e h5
    rcases List.mem_cons.1 hl with rfl | hl
    . exact listed_iff.2 fun k hk e he => key k hk e (.inl he)
    . rcases List.mem_cons.1 hl with rfl | hl
      . exact listed_iff.2 fun k hk e he => key k hk e (.inr he)
      . exact hm.li l (by simp [hl])
  . show (catI (f' :: c' :: ls)).Nodup
    rw [catI_cons, catI_cons]; exact h3
  . rw [catI_cons, catI_cons] at hin
    exact h4 e he e hin rfl
theorem MayF.move (hm : MayF h (c :: ls)) {k : Int} (k0 : 0 <= k) (k2 : k <= 2) : MayF { h with f := moveF h.f k } (moveT h.f c k :: ls) := by
  have hk : k.toNat < 3 := by omega
  refine (hm.regroup (r := []) (fun j hj e he => ?_) ?_).1
  . unfold moveF moveT at he
    rw [get_set hj hk, get_set hj hk] at he
    by_cases hjk : j = k.toNat
    . rw [if_pos hjk, if_pos hjk] at he
      rw [hjk]
      rcases he with he | he
      . exact .inl (List.mem_of_mem_take he)
      . rcases List.mem_append.1 he with he | he
        . exact .inr he
        . exact .inl (List.mem_of_mem_drop (List.mem_reverse.1 he))
    . rw [if_neg hjk, if_neg hjk] at he
      exact he
  . rw [List.nil_append, List.perm_iff_count]
    intro e
    have h1 := count_set (l := h.f) (x := (h.f.get k.toNat).take ((h.f.get k.toNat).length - 2)) hk e
    have h2 := count_set (l := c) (x := c.get k.toNat ++ ((h.f.get k.toNat).drop ((h.f.get k.toNat).length - 2)).reverse) hk e
    have h3 := count_cut ((h.f.get k.toNat).length - 2) (h.f.get k.toNat) e
    rw [List.count_append, List.count_reverse] at h2
    rw [List.count_append, List.count_append]
    unfold moveF moveT
    omega
structure MayX (h : Hp) (ls : List Ls) (a : Int) : Prop where
  sh : shapedE h = true
  li : ∀ l ∈ h.f :: ls, listedV h l = true
  ce : ∀ c ∈ cellAs h.p, c ≠ a -> mayV h c = true
  nd : (catI (h.f :: ls)).Nodup
  r : roomA h.p a > 0
  no : a ∉ catI (h.f :: ls)
def putH (h : Hp) (a v : Int) : Hp := { h with w := putW (zeroW h.w a (roomA h.p a)) a v }
theorem putH_len {a v : Int} (hs : shapedE h = true) (hr : roomA h.p a > 0) : (putH h a v).w.length = h.w.length := by
  obtain ⟨z1, z2, z3⟩ := zero_in hs hr
  show (putW _ _ _).length = _
  rw [putW_len, zero_len z1 z2 z3]
theorem putH_get {a v : Int} (hs : shapedE h = true) (hr : roomA h.p a > 0) (j : Nat) : (putH h a v).w[j]? = if (j : Int) = a - 16 then some v else if a - 16 <= (j : Int) /\ (j : Int) < a - 16 + roomA h.p a then some 0 else h.w[j]? := by
  obtain ⟨z1, z2, z3⟩ := zero_in hs hr
  show (putW (zeroW h.w a (roomA h.p a)) a v)[j]? = _
  rw [putW_get, zero_len z1 z2 z3, zero_get' z1 z2 z3]
  by_cases g : (j : Int) = a - 16
  . rw [if_pos (by omega), if_pos g]
  . rw [if_neg (by omega), if_neg g]
theorem putH_word {a v : Int} (hs : shapedE h = true) (hr : roomA h.p a > 0) {e : Int} (h16 : 16 <= e) : wordE (putH h a v) e = if e = a then v else if a <= e /\ e < a + roomA h.p a then 0 else wordE h e := by
  have := (room_in hr).1
  unfold wordE
  rw [List.getD_eq_getElem?_getD, List.getD_eq_getElem?_getD, putH_get hs hr]
  by_cases g : e = a
  . rw [if_pos g, if_pos (by omega)]; rfl
  . rw [if_neg g, if_neg (by omega)]
    by_cases g2 : a <= e /\ e < a + roomA h.p a
    . rw [if_pos g2, if_pos (by omega)]; rfl
    . rw [if_neg g2, if_neg (by omega)]
theorem putH_keep {a v : Int} (hs : shapedE h = true) (hr : roomA h.p a > 0) {e : Int} (he : roomA h.p e > 0) (hne : e ≠ a) : wordE (putH h a v) e = wordE h e := by
  rw [putH_word hs hr (room_in he).1, if_neg hne, if_neg]
  intro g
  rcases cells_apart hr he hne with g2 | g2 <;> omega
theorem putH_at {a v : Int} (hs : shapedE h = true) (hr : roomA h.p a > 0) : wordE (putH h a v) a = v := by
  rw [putH_word hs hr (room_in hr).1, if_pos rfl]
theorem MayX.put {a : Int} (hx : MayX h ls a) {v : Int} (h1 : unpOK v = true) (h2 : (unp v).a = true) (h3 : fitsE (pageE h a) (unp v).x = true) : MayF (putH h a v) ls := by
  have hl : ∀ l ∈ h.f :: ls, ∀ k, k < 3 -> ∀ e ∈ l.get k, e ≠ a := fun l hl k hk e he q => hx.no (cat_mem.2 ⟨l, hl, k, hk, q ▸ he⟩)
  have key : ∀ l ∈ h.f :: ls, listedV (putH h a v) l = true := fun l hl' => listed_iff.2 fun k hk e he => by
    have h4 := listed_iff.1 (hx.li l hl') k hk e he
    have h5 := putH_keep (v := v) hx.sh hx.r (listV_facts h4).1 (hl l hl' k hk e he)
    unfold listV at h4 ⊢
    rw [h5]; exact h4
  refine ⟨?_, key, fun e he => ?_, hx.nd⟩
  . have := hx.sh
    unfold shapedE at this ⊢
    rw [putH_len hx.sh hx.r]; exact this
  . have he' : roomA h.p e > 0 := cell_mem.1 he
    by_cases hq : e = a
    . subst hq
      unfold mayV
      rw [putH_at hx.sh hx.r, h1, h2]
      exact h3
    . have := hx.ce e he hq
      unfold mayV at this ⊢
      rw [putH_keep hx.sh hx.r he' hq]; exact this
end
def largeH (h : Hp) (at' : Nat) (n : Int) : Hp := { h with p := (largeE h.p (at' : Int) n).2 }
structure LargeF (h : Hp) (ls : List Ls) (at' : Nat) (n : Int) : Prop where
  m : MayX (largeH h at' n) ls (16 * ((at' : Int) + 1))
  r : roomA (largeH h at' n).p (16 * ((at' : Int) + 1)) = 16 * n
  p : pageE (largeH h at' n) (16 * ((at' : Int) + 1)) = (2, n)
  n0 : 1 <= n
  l : (largeH h at' n).p.length = h.p.length
  old : ∀ e, roomA h.p e > 0 -> e ≠ 16 * ((at' : Int) + 1) /\ roomA (largeH h at' n).p e = roomA h.p e /\ pageE (largeH h at' n) e = pageE h e /\ wordE (largeH h at' n) e = wordE h e
  new : ∀ e, roomA (largeH h at' n).p e > 0 -> e = 16 * ((at' : Int) + 1) \/ roomA h.p e > 0
theorem MayF.large {h : Hp} {ls : List Ls} (hm : MayF h ls) {n : Int} {at' : Nat} (hf : findE h.p n = some at') : LargeF h ls at' n := by
  obtain ⟨n1, n4, hle, hfree, hmx, hlen, hget⟩ := large_put hf
  obtain ⟨q1, _, _⟩ := shaped_ne hm.sh
  have hlen' : (largeH h at' n).p.length = h.p.length := hlen
  have hget' : ∀ j, (largeH h at' n).p[j]? = if j = at' then some (2, n) else if at' < j /\ j < at' + n.toNat then some (3, 0) else h.p[j]? := hget
  have hmx' : may (largeH h at' n).p = true := hmx
  have hout : ∀ e, roomA h.p e > 0 -> ¬(at' <= pgN e /\ pgN e < at' + n.toNat) := fun e he g =>
    free_none (h := h) (at' := pgN e) (hfree _ g.1 g.2) he rfl
  have hsame : ∀ e, ¬(at' <= pgN e /\ pgN e < at' + n.toNat) -> roomA (largeH h at' n).p e = roomA h.p e /\ pageE (largeH h at' n) e = pageE h e /\ wordE (largeH h at' n) e = wordE h e := fun e g =>
    same_at rfl hlen' (by rw [hmx', q1]) (by
      show (largeH h at' n).p[pgN e]? = h.p[pgN e]?
      rw [hget', if_neg (by omega), if_neg (by omega)])
  have hpa : pgN (16 * ((at' : Int) + 1)) = at' := by show (16 * ((at' : Int) + 1) / 16 - 1).toNat = at'; omega
  have hpe : pageE (largeH h at' n) (16 * ((at' : Int) + 1)) = (2, n) := by
    show (largeH h at' n).p.getD (pgN (16 * ((at' : Int) + 1))) (0, 0) = _
    rw [hpa, List.getD_eq_getElem?_getD, hget', if_pos rfl]; rfl
  have hra : roomA (largeH h at' n).p (16 * ((at' : Int) + 1)) = 16 * n := by
    rw [roomA_doc, hmx', decide_eq_true (by omega), decide_eq_true (by rw [hlen']; omega)]
    show cellAt (pageE (largeH h at' n) (16 * ((at' : Int) + 1))) (16 * ((at' : Int) + 1) % 16).toNat = _
    rw [hpe, show (16 * ((at' : Int) + 1) % 16).toNat = 0 by omega]
    rfl
  have hnew : ∀ e, roomA (largeH h at' n).p e > 0 -> e = 16 * ((at' : Int) + 1) \/ roomA h.p e > 0 := fun e he => by
    by_cases g : at' <= pgN e /\ pgN e < at' + n.toNat
    . left
      obtain ⟨_, e1, _, e3, p, e4, _, e6⟩ := cell_facts he
      have e4 : (largeH h at' n).p[pgN e]? = some p := e4
      have e3 : ((pgN e : Nat) : Int) = e / 16 - 1 := e3
      rw [hget'] at e4
      by_cases hq : pgN e = at'
      . rw [if_pos hq] at e4
        cases e4
        rcases e6 with ⟨_, g2, _⟩ | ⟨g2, _⟩
        . omega
        . cases g2
      . rw [if_neg hq, if_pos (by omega)] at e4
        cases e4
        rcases e6 with ⟨g2, _⟩ | ⟨g2, _⟩ <;> cases g2
    . right
      rw [<- (hsame e g).1]; exact he
  have hold : ∀ e, roomA h.p e > 0 -> e ≠ 16 * ((at' : Int) + 1) /\ roomA (largeH h at' n).p e = roomA h.p e /\ pageE (largeH h at' n) e = pageE h e /\ wordE (largeH h at' n) e = wordE h e := fun e he =>
    ⟨fun q => hout e he (by rw [q, hpa]; omega), hsame e (hout e he)⟩
  have hlist : ∀ l ∈ h.f :: ls, listedV (largeH h at' n) l = true := fun l hl => listed_iff.2 fun k hk e he => by
    have h1 := listed_iff.1 (hm.li l hl) k hk e he
    obtain ⟨_, r1, r2, r3⟩ := hold e (listV_facts h1).1
    unfold listV at h1 ⊢
    rw [r1, r2, r3]; exact h1
  refine ⟨⟨?_, hlist, fun e he hne => ?_, hm.nd, by rw [hra]; omega, fun hin => ?_⟩, hra, hpe, n1, hlen', hold, hnew⟩
  . have h1 := hm.sh
    unfold shapedE at h1 ⊢
    rw [hlen', hmx']
    rw [q1] at h1
    exact h1
  . rcases hnew e (cell_mem.1 he) with g | g
    . exact absurd g hne
    . obtain ⟨_, _, r2, r3⟩ := hold e g
      have := hm.ce e (cell_mem.2 g)
      unfold mayV at this ⊢
      rw [r2, r3]; exact this
  . obtain ⟨l, hl, k, hk, he⟩ := cat_mem.1 hin
    exact (hold _ (listV_facts (listed_iff.1 (hm.li l hl) k hk _ he)).1).1 rfl
end Go.Ab

namespace Go.Ab
open Go
open Go.Proofs
def Told (h : Hp) (ls : List Ls) : Prop := ∀ e, roomA h.p e > 0 -> wordE h e = 0 -> e ∈ catI (h.f :: ls)
def Stay (h k : Hp) (e : Int) : Prop := roomA k.p e = roomA h.p e /\ pageE k e = pageE h e /\ ∀ j : Nat, e - 16 <= (j : Int) -> (j : Int) < e - 16 + roomA h.p e -> k.w[j]? = h.w[j]?
theorem Stay.trans {h k m : Hp} {e : Int} (s : Stay h k e) (t : Stay k m e) : Stay h m e :=
  ⟨t.1.trans s.1, t.2.1.trans s.2.1, fun j h1 h2 => (t.2.2 j h1 (by rw [s.1]; exact h2)).trans (s.2.2 j h1 h2)⟩
theorem Stay.refl (h : Hp) (e : Int) : Stay h h e := ⟨rfl, rfl, fun _ _ _ => rfl⟩
structure Step0 (h : Hp) (c : Ls) (k : Hp) (d : Ls) : Prop where
  m : ∀ ls, MayF h (c :: ls) -> MayF k (d :: ls)
  wl : k.w.length = h.w.length
  pl : k.p.length = h.p.length
  cl : k.c = h.c
  old : ∀ e, roomA h.p e > 0 -> wordE h e ≠ 0 -> Stay h k e
  new : ∀ e, roomA k.p e > 0 -> wordE k e ≠ 0 -> roomA h.p e > 0 /\ wordE h e = wordE k e
  told : ∀ ls, Told h (c :: ls) -> Told k (d :: ls)
theorem Step0.refl (h : Hp) (c : Ls) : Step0 h c h c := ⟨fun _ m => m, rfl, rfl, rfl, fun e _ _ => .refl h e, fun _ h1 _ => ⟨h1, rfl⟩, fun _ t => t⟩
theorem move_get {f t : Ls} {k : Int} {j : Nat} (hj : j < 3) (k0 : 0 <= k) (k2 : k <= 2) {e : Int} (he : e ∈ f.get j \/ e ∈ t.get j) : e ∈ (moveF f k).get j \/ e ∈ (moveT f t k).get j := by
  have hk : k.toNat < 3 := by omega
  unfold moveF moveT
  rw [get_set hj hk, get_set hj hk]
  by_cases hjk : j = k.toNat
  . rw [if_pos hjk, if_pos hjk]
    rw [hjk] at he
    rcases he with he | he
    . rw [<- List.take_append_drop ((f.get k.toNat).length - 2) (f.get k.toNat)] at he
      rcases List.mem_append.1 he with he | he
      . exact .inl he
      . exact .inr (List.mem_append_right _ (List.mem_reverse.2 he))
    . exact .inr (List.mem_append_left _ he)
  . rw [if_neg hjk, if_neg hjk]; exact he
theorem cat_two {f c : Ls} {ls : List Ls} {e : Int} : e ∈ catI (f :: c :: ls) ↔ (∃ k, k < 3 /\ (e ∈ f.get k \/ e ∈ c.get k)) \/ e ∈ catI ls := by
  rw [catI_cons, catI_cons, List.mem_append, List.mem_append, one3_mem, one3_mem]
  constructor
  . rintro (⟨k, hk, he⟩ | ⟨k, hk, he⟩ | he)
    . exact .inl ⟨k, hk, .inl he⟩
    . exact .inl ⟨k, hk, .inr he⟩
    . exact .inr he
  . rintro (⟨k, hk, he | he⟩ | he)
    . exact .inl ⟨k, hk, he⟩
    . exact .inr (.inl ⟨k, hk, he⟩)
    . exact .inr (.inr he)
theorem Step0.move {h k : Hp} {c d : Ls} (s : Step0 h c k d) {i : Int} (i0 : 0 <= i) (i2 : i <= 2) : Step0 h c { k with f := moveF k.f i } (moveT k.f d i) :=
  ⟨fun ls m => (s.m ls m).move i0 i2, s.wl, s.pl, s.cl, s.old, s.new, fun ls t e h1 h2 => by
    rcases cat_two.1 (s.told ls t e h1 h2) with ⟨j, hj, he⟩ | he
    . exact cat_two.2 (.inl ⟨j, hj, move_get hj i0 i2 he⟩)
    . exact cat_two.2 (.inr he)⟩
structure Ready (h : Hp) (c : Ls) (k : Hp) (d : Ls) (a : Int) : Prop where
  m : ∀ ls, MayF h (c :: ls) -> MayX k (d :: ls) a
  wl : k.w.length = h.w.length
  pl : k.p.length = h.p.length
  cl : k.c = h.c
  old : ∀ e, roomA h.p e > 0 -> wordE h e ≠ 0 -> e ≠ a /\ Stay h k e
  new : ∀ e, roomA k.p e > 0 -> e ≠ a -> wordE k e ≠ 0 -> roomA h.p e > 0 /\ wordE h e = wordE k e
  told : ∀ ls, Told h (c :: ls) -> ∀ e, e ≠ a -> roomA k.p e > 0 -> wordE k e = 0 -> e ∈ catI (k.f :: d :: ls)
structure Took (h : Hp) (c : Ls) (x : Hd) (k : Hp) (d : Ls) (a : Int) : Prop where
  m : ∀ ls, MayF h (c :: ls) -> MayF k (d :: ls)
  wl : k.w.length = h.w.length
  pl : k.p.length = h.p.length
  cl : k.c = h.c
  r : roomA k.p a > 0
  fit : fitsE (pageE k a) x.x = true
  w : wordE k a = packH x
  z : ∀ j : Nat, a - 16 < (j : Int) -> (j : Int) < a - 16 + roomA k.p a -> k.w[j]? = some 0
  old : ∀ e, roomA h.p e > 0 -> wordE h e ≠ 0 -> e ≠ a /\ Stay h k e
  new : ∀ e, roomA k.p e > 0 -> e ≠ a -> wordE k e ≠ 0 -> roomA h.p e > 0 /\ wordE h e = wordE k e
  told : ∀ ls, Told h (c :: ls) -> Told k (d :: ls)
end Go.Ab

namespace Go.Ab
open Go
open Go.Proofs
def lenL (l : Ls) (n : Nat) : Prop := ∀ k, k < 3 -> (l.get k).length <= n
theorem lenL.smL {l : Ls} {n : Nat} (hl : lenL l n) (hn : n <= 100000) : smL l = true :=
  smL_len (Nat.le_trans (hl 0 (by omega)) hn) (Nat.le_trans (hl 1 (by omega)) hn) (Nat.le_trans (hl 2 (by omega)) hn)
theorem lenL.mono {l : Ls} {n m : Nat} (hl : lenL l n) (h : n <= m) : lenL l m := fun k hk => Nat.le_trans (hl k hk) h
theorem lenL.set {l : Ls} {n m : Nat} (hl : lenL l n) {x : List Int} {i : Nat} (hi : i < 3) (hx : x.length <= m) (hn : n <= m) : lenL (l.set x i) m := fun k hk => by
  rw [get_set hk hi]
  by_cases h : k = i
  . rw [if_pos h]; exact hx
  . rw [if_neg h]; exact Nat.le_trans (hl k hk) hn
inductive Small (h : Hp) (c : Ls) (i : Int) : Prop where
  | full (e : smE ⟨h, c⟩ i = (0, 4)) (e1 : c.get i.toNat = []) (e2 : h.f.get i.toNat = []) (e3 : findE h.p 1 = none)
  | some (e : (smE ⟨h, c⟩ i).2 = 0) (r : Ready h c (smFr ⟨h, c⟩ i).h (smFr ⟨h, c⟩ i).c (smE ⟨h, c⟩ i).1) (p : pageE (smFr ⟨h, c⟩ i).h (smE ⟨h, c⟩ i).1 = (1, i))
      (ne : (findE h.p 1).isSome = true \/ h.f.get i.toNat ≠ [] \/ c.get i.toNat ≠ [])
      (l : (c.get i.toNat = [] /\ ((smFr ⟨h, c⟩ i).c.get i.toNat).length <= 1) \/ (c.get i.toNat ≠ [] /\ (smFr ⟨h, c⟩ i).c = popL c i /\ (smE ⟨h, c⟩ i).1 = lastL c i /\ (smFr ⟨h, c⟩ i).h.f = h.f))
      (n : ∀ n m, lenL h.f n -> lenL c m -> lenL (smFr ⟨h, c⟩ i).h.f (n + 8192) /\ lenL (smFr ⟨h, c⟩ i).c (m + 2))
inductive Large (h : Hp) (c : Ls) (x : Int) : Prop where
  | full (e : lgE ⟨h, c⟩ x = (0, 4)) (e3 : findE h.p (runE x).1 = none)
  | some (e : (lgE ⟨h, c⟩ x).2 = 0) (r : Ready h c (lgFr ⟨h, c⟩ x).h c (lgE ⟨h, c⟩ x).1) (p : pageE (lgFr ⟨h, c⟩ x).h (lgE ⟨h, c⟩ x).1 = (2, (runE x).1)) (o : roomA (lgFr ⟨h, c⟩ x).h.p (lgE ⟨h, c⟩ x).1 = 16 * (runE x).1)
      (ne : (findE h.p (runE x).1).isSome = true) (lc : (lgFr ⟨h, c⟩ x).c = c) (lf : (lgFr ⟨h, c⟩ x).h.f = h.f)
end Go.Ab

namespace Go.Ab
open Go
open Go.Proofs
def hZ : Hp := ⟨[], [], ⟨[], [], []⟩, []⟩
def badT (e : Int) : Hp × Ls × Int × Int := (hZ, Ls.e, 0, e)
def takeS (s : Fr) (r : Int × Int) (x : Hd) : Hp × Ls × Int × Int := bif r.2 != 0 then badT r.2 else (putH s.h r.1 (packH x), s.c, r.1, 0)
def takeE (h : Hp) (c : Ls) (x : Hd) : Hp × Ls × Int × Int := bif (packE x).2 != 0 then badT 1 else bif !x.a then badT 1 else bif !mayHpV h [c] then badT 1 else bif (ofE x.x).2 != 0 then badT (ofE x.x).2 else
  bif (ofE x.x).1 == 3 then takeS (lgFr ⟨h, c⟩ x.x) (lgE ⟨h, c⟩ x.x) x else takeS (smFr ⟨h, c⟩ (ofE x.x).1) (smE ⟨h, c⟩ (ofE x.x).1) x
inductive Take (h : Hp) (c : Ls) (x : Hd) : Prop where
  | arg (e : takeE h c x = badT 1) (no : mayH x = true -> x.a = true -> MayF h [c] -> False)
  | of (m : MayF h [c]) (x1 : mayH x = true) (x2 : x.a = true) (o : (ofE x.x).2 ≠ 0) (e : takeE h c x = badT (ofE x.x).2)
  | fullS (m : MayF h [c]) (x1 : mayH x = true) (x2 : x.a = true) (o : ((ofE x.x).2 != 0) = false) (o3 : ((ofE x.x).1 == 3) = false) (e : takeE h c x = badT 4) (e1 : c.get (ofE x.x).1.toNat = []) (e2 : h.f.get (ofE x.x).1.toNat = []) (e3 : findE h.p 1 = none)
  | fullL (m : MayF h [c]) (x1 : mayH x = true) (x2 : x.a = true) (o : ((ofE x.x).2 != 0) = false) (o3 : ((ofE x.x).1 == 3) = true) (e : takeE h c x = badT 4) (e3 : findE h.p (runE x.x).1 = none)
  | small (m : MayF h [c]) (x1 : mayH x = true) (x2 : x.a = true) (o : ((ofE x.x).2 != 0) = false) (o3 : ((ofE x.x).1 == 3) = false) (k : Hp) (d : Ls) (a : Int) (e : takeE h c x = (k, d, a, 0)) (t : Took h c x k d a) (r : roomA k.p a = wordsOf (ofE x.x).1)
      (ne : (findE h.p 1).isSome = true \/ h.f.get (ofE x.x).1.toNat ≠ [] \/ c.get (ofE x.x).1.toNat ≠ [])
      (l : (c.get (ofE x.x).1.toNat = [] /\ (d.get (ofE x.x).1.toNat).length <= 1) \/ (c.get (ofE x.x).1.toNat ≠ [] /\ d = popL c (ofE x.x).1 /\ a = lastL c (ofE x.x).1 /\ k.f = h.f))
      (n : ∀ n m, lenL h.f n -> lenL c m -> lenL k.f (n + 8192) /\ lenL d (m + 2))
  | large (m : MayF h [c]) (x1 : mayH x = true) (x2 : x.a = true) (o : ((ofE x.x).2 != 0) = false) (o3 : ((ofE x.x).1 == 3) = true) (k : Hp) (a : Int) (e : takeE h c x = (k, c, a, 0)) (t : Took h c x k c a) (r : roomA k.p a = 16 * (runE x.x).1)
      (ne : (findE h.p (runE x.x).1).isSome = true) (l : k.f = h.f)
end Go.Ab

namespace Go.Ab
open Go
open Go.Proofs
theorem of_in {n : Int} (h : ((ofE n).2 != 0) = false) : 1 <= n /\ n <= 63 := by
  revert h
  unfold ofE
  cases h1 : decide (n < 1) with
  | true => intro h; cases h
  | false =>
    cases h2 : decide (n > 63) with
    | true => intro h; cases h
    | false =>
      intro _
      have := of_decide_eq_false h1
      have := of_decide_eq_false h2
      omega
theorem of_val {n : Int} (h0 : 1 <= n) (h1 : n <= 63) : ofE n = (if n > 7 then 3 else if n > 3 then 2 else if n > 1 then 1 else 0, 0) := by
  unfold ofE
  rw [decide_eq_false (by omega), decide_eq_false (by omega)]
  show ((bif decide (n > 7) then 3 else bif decide (n > 3) then 2 else bif decide (n > 1) then 1 else 0 : Int), (0 : Int)) = _
  by_cases a : n > 7
  . rw [decide_eq_true a, if_pos a]; rfl
  . rw [decide_eq_false a, if_neg a]
    by_cases b : n > 3
    . rw [decide_eq_true b, if_pos b]; rfl
    . rw [decide_eq_false b, if_neg b]
      by_cases c : n > 1
      . rw [decide_eq_true c, if_pos c]; rfl
      . rw [decide_eq_false c, if_neg c]; rfl
theorem run_of {n : Int} (h0 : 8 <= n) (h1 : n <= 63) : runE n = (n / 16 + 1, 0) := by
  unfold runE
  rw [of_val (by omega) h1, if_pos (by omega)]
  show (IntKind.i64.wrap (IntKind.i64.wrap (Int.tdiv n 16) + 1), (0 : Int)) = _
  rw [tdiv_pos (by omega), wrap_in (a := n / 16) (by omega), wrap_in (by omega)]
section
variable {h k : Hp} {c d : Ls} {x : Hd} {a : Int}
theorem whole_told {ls : List Ls} : wholeHV h ls = true ↔ MayF h ls /\ Told h ls := whole_iff
theorem Took.whole (t : Took h c x k d a) {ls : List Ls} (hw : wholeHV h (c :: ls) = true) : wholeHV k (d :: ls) = true := by
  obtain ⟨h1, h2⟩ := whole_told.1 hw
  exact whole_told.2 ⟨t.m ls h1, t.told ls h2⟩
end
end Go.Ab

namespace Go.Ab
open Go
open Go.Proofs
noncomputable abbrev zx28 : Cx := cxG Pr Tryz.f28 [(32, gWords3)] [] (fun _ => false) (fun q => Nat.beq q 122)
set_option maxRecDepth 100000 in
theorem zr28 (n : Int) (β : Type) (K : CV -> List (List CV) -> Option β) : fnK zx28 Tryz.f28 [cI.enc n] [] K =
 bif decide (n < 1) then K (CV.tup [CV.int IntKind.i64 0, CV.int IntKind.i64 1]) []
 else
 bif decide (n > 63) then K (CV.tup [CV.int IntKind.i64 0, CV.int IntKind.i64 2]) []
 else
 bif decide (words3 0 >= IntKind.wrap IntKind.i64 (n + 1)) then
 K (CV.tup [CV.int IntKind.i64 0, CV.int IntKind.i64 0]) []
 else
 bif decide (words3 1 >= IntKind.wrap IntKind.i64 (n + 1)) then
 K (CV.tup [CV.int IntKind.i64 1, CV.int IntKind.i64 0]) []
 else
 bif decide (words3 2 >= IntKind.wrap IntKind.i64 (n + 1)) then
 K (CV.tup [CV.int IntKind.i64 2, CV.int IntKind.i64 0]) []
 else K (CV.tup [CV.int IntKind.i64 3, CV.int IntKind.i64 0]) [] := by kernel_rfl
noncomputable abbrev zx25 : Cx := cxG Pr Tryz.f25 [(50, gInts)] [] (fun _ => false) (fun q => Nat.beq q 26)
set_option maxRecDepth 100000 in
theorem zr25 (l m : Ls) (β : Type) (K : CV -> List (List CV) -> Option β) : fnK zx25 Tryz.f25 [cLs.enc l, cLs.enc m] [] K =
 Option.bind (decI (encI (Ls.a l))) fun ps =>
 Option.bind (decI (encI (Ls.a m))) fun qs =>
 bif Nat.ble (List.length ps) 65536 then
 bif !ps == qs then K (CV.bool false) []
 else
 Option.bind (decI (encI (Ls.b l))) fun ps =>
 Option.bind (decI (encI (Ls.b m))) fun qs =>
 bif Nat.ble (List.length ps) 65536 then
 bif !ps == qs then K (CV.bool false) []
 else
 Option.bind (decI (encI (Ls.c l))) fun ps =>
 Option.bind (decI (encI (Ls.c m))) fun qs =>
 bif Nat.ble (List.length ps) 65536 then
 bif !ps == qs then K (CV.bool false) [] else K (CV.bool true) []
 else none
 else none
 else none := by kernel_rfl
def gOfA : Callee := g1 cI (fun _ => true) fun n => .tup [cI.enc (ofE n).1, cI.enc (ofE n).2]
noncomputable abbrev zx29 : Cx := cxG Pr Tryz.f29 [(28, gOfA)]
abbrev px29 := [false, false, true, true, true, true, true]
abbrev ox29 : Exit -> List Nat := fun _ => [6]
set_option maxRecDepth 100000 in
theorem zt29 (n i : Int) (m : Nat) (β : Type) (K : Exit -> List CV -> List (List CV) -> Option β) : loopB zx29 [0, 6] ox29 px29 (bodyL (bodyOf Tryz.f29) px29) (m + 1) [cI.enc n, cI.enc i] [] K =
 bif decide (IntKind.wrap IntKind.i64 (16 * i) < IntKind.wrap IntKind.i64 (n + 1)) then loopB zx29 [0, 6] ox29 [false, false, true, true, true, true, true] (bodyL (bodyOf Tryz.f29) px29) m [CV.int IntKind.i64 n, CV.int IntKind.i64 (IntKind.wrap IntKind.i64 (i + 1))] [] fun a a_1 a_2 => K a a_1 a_2
 else K (Exit.exit 0) [CV.int IntKind.i64 i] [] := by kernel_rfl
theorem run_loop (n : Int) (h0 : 1 <= n) (h1 : n <= 63) (β : Type) (K : Exit -> List CV -> List (List CV) -> Option β) : ∀ (m i : Nat), i + m = (n / 16 + 1).toNat ->
    loopB zx29 [0, 6] ox29 px29 (bodyL (bodyOf Tryz.f29) px29) (m + 1) [cI.enc n, cI.enc (i : Int)] [] K = K (.exit 0) [cI.enc (n / 16 + 1)] [] := by
  intro m
  induction m with
  | zero =>
    intro i hi
    have e1 : IntKind.i64.wrap (16 * (i : Int)) = 16 * (i : Int) := wrap_in (by omega)
    have e2 : IntKind.i64.wrap (n + 1) = n + 1 := wrap_in (by omega)
    rw [zt29, e1, e2, decide_eq_false (by omega), cond_false, show (i : Int) = n / 16 + 1 by omega]
    rfl
  | succ m ih =>
    intro i hi
    have e1 : IntKind.i64.wrap (16 * (i : Int)) = 16 * (i : Int) := wrap_in (by omega)
    have e2 : IntKind.i64.wrap (n + 1) = n + 1 := wrap_in (by omega)
    have e3 : IntKind.i64.wrap ((i : Int) + 1) = ((i + 1 : Nat) : Int) := by rw [wrap_in (by omega)]; omega
    rw [zt29, e1, e2, e3, decide_eq_true (by omega), cond_true]
    exact ih (i + 1) (by omega)
def Lx29 : LoopSem := l2 [0, 6] ox29 cI cI c0 (fun n i _ => i == 0 && (decide (1 <= n) && decide (n <= 63))) fun n _ _ => .one (.exit 0) [cI.enc (n / 16 + 1)] []
noncomputable abbrev zy29 : Cx := zx29.loop px29 Lx29
theorem words3_0 : words3 0 = 2 := rfl
theorem words3_1 : words3 1 = 4 := rfl
theorem words3_2 : words3 2 = 8 := rfl
theorem ofA_good : GoodC Pr 28 gOfA :=
  good1 ((CxOK.baseG (Good.cons words3_good Good.nil) GoodI.nil (eqOK_none fun _ => rfl)).sound (cx := zx28) Tryz.func28 (by kernel_rfl) (by kernel_rfl) rfl (by kernel_rfl)) fun n _ β K => by
    rw [zr28, words3_0, words3_1, words3_2]
    unfold ofE
    by_cases h1 : n < 1
    . rw [decide_eq_true h1]; rfl
    . rw [decide_eq_false h1, cond_false, cond_false]
      by_cases h2 : n > 63
      . rw [decide_eq_true h2]; rfl
      . rw [decide_eq_false h2, cond_false, cond_false, wrap_in (a := n + 1) (by omega)]
        by_cases h3 : n > 7
        . rw [decide_eq_true h3, decide_eq_false (by omega), decide_eq_false (by omega), decide_eq_false (by omega)]; rfl
        . rw [decide_eq_false h3]
          by_cases h4 : n > 3
          . rw [decide_eq_true h4, decide_eq_false (by omega), decide_eq_false (by omega), decide_eq_true (by omega)]; rfl
          . rw [decide_eq_false h4]
            by_cases h5 : n > 1
            . rw [decide_eq_true h5, decide_eq_false (by omega), decide_eq_true (by omega)]; rfl
            . rw [decide_eq_false h5, decide_eq_true (by omega)]; rfl
set_option maxRecDepth 100000 in
theorem zr29 (n : Int) (β : Type) (K : CV -> List (List CV) -> Option β) : fnK zy29 Tryz.f29 [cI.enc n] [] K =
 bif Prod.snd (ofE n) != 0 then K (CV.tup [CV.int IntKind.i64 0, CV.int IntKind.i64 (Prod.snd (ofE n))]) []
 else
 bif decide (Prod.fst (ofE n) < 3) then K (CV.tup [CV.int IntKind.i64 0, CV.int IntKind.i64 3]) []
 else
 bif decide (1 <= n) && decide (n <= 63) then K (CV.tup [CV.int IntKind.i64 (n / 16 + 1), CV.int IntKind.i64 0]) []
 else none := by kernel_rfl
def gRun3 : Callee := g1 cI (fun _ => true) fun n => .tup [cI.enc (runE n).1, cI.enc (runE n).2]
theorem ge8_of {n : Int} (h0 : ((ofE n).2 != 0) = false) (h : ¬ (ofE n).1 < 3) : 8 <= n := by
  obtain ⟨a1, a2⟩ := of_in h0
  rw [of_val a1 a2] at h
  have h : ¬ (if n > 7 then 3 else if n > 3 then 2 else if n > 1 then 1 else 0 : Int) < 3 := h
  by_cases q : n > 7
  . omega
  . exfalso
    rw [if_neg q] at h
    apply h
    repeat' split
    all_goals decide
theorem zy29_ok : CxOK zy29 [(28, gOfA)] := by
  refine CxOK.loop2 (CxOK.baseG (Good.cons ofA_good Good.nil) GoodI.nil (eqOK_none fun _ => rfl)) rfl fun n i u hp => ?_
  simp only [Bool.and_eq_true, beq_iff_eq, decide_eq_true_eq] at hp
  obtain ⟨hi, h0, h1⟩ := hp
  subst hi
  exact ⟨(n / 16 + 1).toNat + 1, fun β K => run_loop n h0 h1 β K (n / 16 + 1).toNat 0 (by omega)⟩
theorem run3_good : GoodC Pr 29 gRun3 :=
  good1 (zy29_ok.sound (cx := zy29) Tryz.func29 (by kernel_rfl) (by kernel_rfl) rfl (by kernel_rfl)) fun n _ β K => by
    rw [zr29]
    cases h0 : (ofE n).2 != 0 with
    | true =>
      unfold runE
      rw [h0]; rfl
    | false =>
      by_cases h1 : (ofE n).1 < 3
      . unfold runE
        rw [h0, decide_eq_true h1]; rfl
      . obtain ⟨a1, a2⟩ := of_in h0
        have a8 := ge8_of h0 h1
        rw [decide_eq_false h1, run_of a8 a2, decide_eq_true a1, decide_eq_true a2]
        rfl
def same6 (l m : Ls) : Bool := l.a == m.a && (l.b == m.b && l.c == m.c)
def gSame6 : Callee := g2 cLs cLs (fun l _ => Nat.ble l.a.length 65536 && (Nat.ble l.b.length 65536 && Nat.ble l.c.length 65536)) fun l m => cB.enc (same6 l m)
theorem same6_good : GoodC Pr 25 gSame6 :=
  good2 ((CxOK.baseG (Good.cons ⟨ints_sound, ints_nat⟩ Good.nil) GoodI.nil (eqOK_none fun _ => rfl)).sound (cx := zx25) Tryz.func25 (by kernel_rfl) (by kernel_rfl) rfl (by kernel_rfl)) fun l m hp β K => by
    simp only [Bool.and_eq_true] at hp
    obtain ⟨h1, h2, h3⟩ := hp
    rw [zr25]
    simp only [decI_map, Option.bind_some, h1, h2, h3, cond_true]
    unfold same6
    cases l.a == m.a with
    | false => rfl
    | true =>
      cases l.b == m.b with
      | false => rfl
      | true => cases l.c == m.c <;> rfl
end Go.Ab

namespace Go.Ab
open Go
open Go.Proofs
end Go.Ab
