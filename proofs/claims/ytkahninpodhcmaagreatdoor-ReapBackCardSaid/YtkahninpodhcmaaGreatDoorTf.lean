/- alloc's page, small, large; Take's residual.
alloc.Take's residual.
A head that is packed is told again.
ReapTwice.
What an object's room that is given back leaves: pages and words.
What may be may be behind an object that is given back.
heap.Free's result: what goes, what stays.
Of two objects that are given back the order does not matter.
The law ReapTwice.
What was whole is whole without an object, or a cache; other objects are as they were.
What was whole is whole behind Flush; all objects are as they were.
pages.Find, and what is taken there.
A page that is taken for cells; cells that are moved, and taken; an object's word.
Cells that are moved, and taken; pages that are made a large one's; an object's words.
A cell that is made ready, and taken: what it leaves.
alloc.small and large: where there is room, and what they leave.
alloc.Take: its contract, and what it leaves.
alloc.Take's contract.
What is taken fits; how many are used; where there is room.
Behind an object that is given back there is room; what is taken and given back is as it was.
alloc.Room; few of chapter 08; awake of chapter 08.
few of chapter 08; awake of chapter 08.
ReapBack's residual.
AllocTwice's residual.
The law AllocTwice.
The law ReapBack. -/
import Derived.Test.YtkahninpodhcmaaGreatDoorTe
namespace Go.Ab
open Go
open Go.Proofs
def putsW (w : List Int) (ys : List Int) : List Int := ys.foldl (fun w a => putW w a 0) w
def inA (w : List Int) (a : Int) : Bool := decide (16 <= a) && decide (a - 16 < (w.length : Int))
theorem putW_len (w : List Int) (a v : Int) : (putW w a v).length = w.length := by simp [putW]
def setWs (s : Fr) (w : List Int) : Fr := ⟨⟨w, s.h.p, s.h.f, s.h.c⟩, s.c⟩
theorem round111 (s : Fr) (k : Int) (xs ys : List Int) (i m : Nat) (hi : i < ys.length) (hl : ys.length <= 100000) (hm : mayA s.h.w.length = true) (ha : inA s.h.w ys[i] = true) (β : Type) (K : Exit -> List CV -> List (List CV) -> Option β) :
    loopB z111a [0, 1, 7, 45, 46, 47] o111 p111 (bodyL (bodyOf Tryz.f111) p111) (m + 1) [.ref 0, cI.enc k, cIs.enc xs, cIs.enc ys, cI.enc (ys.length : Int), cI.enc (i : Int)] (cFr.enc s) K =
      loopB z111a [0, 1, 7, 45, 46, 47] o111 p111 (bodyL (bodyOf Tryz.f111) p111) m [.ref 0, cI.enc k, cIs.enc xs, cIs.enc ys, cI.enc (ys.length : Int), cI.enc ((i + 1 : Nat) : Int)] (cFr.enc (setWs s (putW s.h.w ys[i] 0))) K := by
  have e1 : (encI ys)[(i : Int).toNat]? = some [CV.int .i64 ys[i]] := by simp [encI, hi]
  have w1 : IntKind.i64.wrap ((i : Int) + 1) = ((i + 1 : Nat) : Int) := by rw [wrap_in (by omega)]; omega
  have ha : (decide (16 <= ys[i]) && decide (ys[i] - 16 < (s.h.w.length : Int))) = true := ha
  rw [t111, decide_eq_true (by omega), cond_true, rdE_nat (by omega), e1, Option.bind_some, zero_get, Option.bind_some, asI_i, Option.bind_some, decI_map, Option.bind_some, hm, ha, Bool.and_self, cond_true, w1]
  rfl
theorem loop111 (k : Int) (xs ys : List Int) (hl : ys.length <= 100000) (β : Type) (K : Exit -> List CV -> List (List CV) -> Option β) : ∀ (m i : Nat) (s : Fr), i + m = ys.length -> mayA s.h.w.length = true -> ys.all (inA s.h.w) = true ->
    loopB z111a [0, 1, 7, 45, 46, 47] o111 p111 (bodyL (bodyOf Tryz.f111) p111) (m + 1) [.ref 0, cI.enc k, cIs.enc xs, cIs.enc ys, cI.enc (ys.length : Int), cI.enc (i : Int)] (cFr.enc s) K =
      K (.exit 0) [.ref 0, cI.enc k, cIs.enc xs] (cFr.enc (setWs s (putsW s.h.w (ys.drop i)))) := by
  intro m
  induction m with
  | zero =>
    intro i s h1 _ _
    rw [t111, decide_eq_false (by omega), cond_false, List.drop_eq_nil_of_le (by omega)]
    rfl
  | succ m ih =>
    intro i s h1 hm ha
    have hi : i < ys.length := by omega
    rw [round111 s k xs ys i (m + 1) hi hl hm (List.all_eq_true.1 ha _ (List.getElem_mem hi)), List.drop_eq_getElem_cons hi]
    have hlen : (setWs s (putW s.h.w ys[i] 0)).h.w.length = s.h.w.length := putW_len _ _ _
    rw [ih (i + 1) (setWs s (putW s.h.w ys[i] 0)) (by omega) (by rw [hlen]; exact hm) (by
      rw [List.all_eq_true] at ha ⊢
      intro a h
      have := ha a h
      unfold inA at this ⊢
      rw [hlen]; exact this)]
    rfl
def L111 : LoopSem := l6 [0, 1, 7, 45, 46, 47] o111 (cRef 0) cI cIs cIs cI cI cFr (fun _ _ _ ys n i s => i == 0 && (n == (ys.length : Int) && (Nat.ble ys.length 100000 && (mayA s.h.w.length && ys.all (inA s.h.w)))))
  fun _ k xs ys _ _ s => .one (.exit 0) [.ref 0, cI.enc k, cIs.enc xs] (cFr.enc (setWs s (putsW s.h.w ys)))
noncomputable abbrev z111 : Cx := z111a.loop p111 L111
theorem z111_ok : CxOK z111 [(30, gFind), (135, gSmallC), (136, gOnC), (63, gPutC), (52, gPushC)] := by
  refine CxOK.loop6 (CxOK.baseN (Good.cons find_good (Good.cons smallC_good (Good.cons onCG_good (Good.cons putC_good (Good.cons pushC_good Good.nil))))) (GoodI.cons rev_good GoodI.nil) (eqOK_none fun _ => rfl)) rfl fun _ k xs ys n i s hp => ?_
  simp only [Bool.and_eq_true, beq_iff_eq] at hp
  obtain ⟨hi, hn, hl, hm, ha⟩ := hp
  subst hi hn
  refine ⟨ys.length + 1, fun β K => ?_⟩
  exact loop111 k xs ys (Nat.le_of_ble_eq_true hl) β K ys.length 0 s (by omega) hm ha
def gR {U α : Type} (C : CodB U) (A : Cod α) (pre : U -> α -> Bool) (rv : U -> α -> CV) (out : U -> α -> U) : Callee := ⟨fun args conts _ K => match args with
  | [.ref 0, a] => (C.dec conts).bind fun u => (A.dec a).bind fun a => bif pre u a then K (rv u a) (C.enc (out u a)) else none
  | _ => none⟩
theorem gR_nat {U α : Type} (C : CodB U) (A : Cod α) {pre : U -> α -> Bool} {rv : U -> α -> CV} {out : U -> α -> U} : NatC (gR C A pre rv out) := fun args conts => by
  unfold gR
  dsimp only
  split
  . exact .bind _ fun _ => .bind _ fun _ => .cond _ (.ret _ _) .none
  . exact .none
theorem goodR {U α : Type} {C : CodB U} {A : Cod α} {pre : U -> α -> Bool} {rv : U -> α -> CV} {out : U -> α -> U} {P : Program} {f : FuncId} {cx : Cx} {fn : Func} (hs : SoundC P f (fnC cx fn))
    (h : ∀ u a, pre u a = true -> ∀ (β : Type) (K : CV -> List (List CV) -> Option β), fnK cx fn [.ref 0, A.enc a] (C.enc u) K = K (rv u a) (C.enc (out u a))) : GoodC P f (gR C A pre rv out) := by
  refine ⟨SoundC.of hs fun args conts β K r hr => ?_, gR_nat _ _⟩
  unfold gR at hr
  dsimp only at hr
  split at hr
  . replace hr := bind_some' hr
    obtain ⟨u, hu, hr⟩ := hr
    replace hr := bind_some' hr
    obtain ⟨a', ha, hr⟩ := hr
    replace hr := cond_some hr
    obtain ⟨hp, hr⟩ := hr
    have eu := C.ok _ _ hu
    subst eu
    have ea := A.ok _ _ ha
    subst ea
    rw [fnC_run, h u a' hp]; exact hr
  . cases hr
set_option maxRecDepth 100000 in
theorem zr111 (s : Fr) (k : Int) (β : Type) (K : CV -> List (List CV) -> Option β) : fnK z111 Tryz.f111 [.ref 0, cI.enc k] (cFr.enc s) K =
 Option.bind (decP (List.map encP (Hp.p (Fr.h s)))) fun a =>
 bif sm a then
 bif !Option.isSome (findE a 1) then
 K (CV.int IntKind.i64 4) [[CV.sl 1 (encI (Hp.w (Fr.h s))), CV.sl 2 (List.map encP (Hp.p (Fr.h s))), CV.sl 1 (encI (Ls.a (Hp.f (Fr.h s)))), CV.sl 1 (encI (Ls.b (Hp.f (Fr.h s)))), CV.sl 1 (encI (Ls.c (Hp.f (Fr.h s)))), CV.sl 1 (encBs (Hp.c (Fr.h s))), CV.sl 1 (encI (Ls.a (Fr.c s))), CV.sl 1 (encI (Ls.b (Fr.c s))), CV.sl 1 (encI (Ls.c (Fr.c s)))]]
 else
 Option.bind (decP (List.map encP (Hp.p (Fr.h s)))) fun a_1 =>
 bif sm a_1 then
 Option.bind (decP (List.map encP (Prod.snd (smallE a_1 (↑(Option.getD (findE a 1) 0) : Int) k)))) fun ps =>
 bif Nat.ble (List.length ps) 200 then
 Option.bind (decI (atV (onL ps (↑(Option.getD (findE a 1) 0) : Int)))) fun xs =>
 bif Nat.ble (List.length xs) 4000000000 then
 Option.bind (decI (encI (segR xs 0 (List.length xs)))) fun c =>
 Option.bind (decI (encI (segR xs 0 (List.length xs)))) fun d =>
 Option.bind (decFr (encI (Hp.w (Fr.h s))) (List.map encP (Prod.snd (smallE a_1 (↑(Option.getD (findE a 1) 0) : Int) k))) (encI (Ls.a (Hp.f (Fr.h s)))) (encI (Ls.b (Hp.f (Fr.h s)))) (encI (Ls.c (Hp.f (Fr.h s)))) (encBs (Hp.c (Fr.h s))) (encI (Ls.a (Fr.c s))) (encI (Ls.b (Fr.c s))) (encI (Ls.c (Fr.c s)))) fun u =>
 bif (↑(List.length (encI (segR xs 0 (List.length xs)))) : Int) == (↑(List.length d) : Int) && (Nat.ble (List.length d) 100000 && (mayA (List.length (Hp.w (Fr.h u))) && List.all d (inA (Hp.w (Fr.h u))))) then
 Option.bind (Option.bind (decI (encI (Ls.a (Hp.f (Fr.h u))))) fun a =>
 Option.bind (decI (encI (Ls.b (Hp.f (Fr.h u))))) fun b =>
 Option.bind (decI (encI (Ls.c (Hp.f (Fr.h u))))) fun c => some { a := a, b := b, c := c }) fun a =>
 Option.bind (decI (encI c)) fun c =>
 bif smL a && (isC k && Nat.ble (List.length c) 100000) then
 K (CV.int IntKind.i64 0) [[CV.sl 1 (encI (putsW (Hp.w (Fr.h u)) d)), CV.sl 2 (List.map encP (Hp.p (Fr.h u))), CV.sl 1 (encI (Ls.a (pushL a k c))), CV.sl 1 (encI (Ls.b (pushL a k c))), CV.sl 1 (encI (Ls.c (pushL a k c))), CV.sl 1 (encBs (Hp.c (Fr.h u))), CV.sl 1 (encI (Ls.a (Fr.c u))), CV.sl 1 (encI (Ls.b (Fr.c u))), CV.sl 1 (encI (Ls.c (Fr.c u)))]]
 else none
 else none
 else none
 else none
 else none
 else none := by kernel_rfl
def pgAt (s : Fr) : Int := (((findE s.h.p 1).getD 0 : Nat) : Int)
def pgPs (s : Fr) (k : Int) : List Pg := (smallE s.h.p (pgAt s) k).2
def pgYs (s : Fr) (k : Int) : List Int := segR ((onL (pgPs s k) (pgAt s)).map (·.1)) 0 ((onL (pgPs s k) (pgAt s)).map (·.1)).length
def pgPre (s : Fr) (k : Int) : Bool := sm s.h.p && bif (findE s.h.p 1).isSome then (Nat.ble (pgPs s k).length 200 && (Nat.ble (pgYs s k).length 100000 && (mayA s.h.w.length && ((pgYs s k).all (inA s.h.w) && (smL s.h.f && isC k))))) else true
def pgE (s : Fr) : Int := bif (findE s.h.p 1).isSome then 0 else 4
def pgRv (s : Fr) : CV := .int .i64 (pgE s)
def pgFr (s : Fr) (k : Int) : Fr := bif (findE s.h.p 1).isSome then ⟨⟨putsW s.h.w (pgYs s k), pgPs s k, pushL s.h.f k (pgYs s k), s.h.c⟩, s.c⟩ else s
def gPageF : Callee := gR cFr cI pgPre (fun s _ => pgRv s) pgFr
theorem pageF_good : GoodC Pr 111 gPageF :=
  goodR (z111_ok.sound (cx := z111) Tryz.func111 (by kernel_rfl) (by kernel_rfl) rfl (by kernel_rfl)) fun s k hp β K => by
    unfold pgPre at hp
    rw [Bool.and_eq_true] at hp
    obtain ⟨hs, hp⟩ := hp
    have e0 : ∀ cs : List Cell, atV cs = encI (cs.map (·.1)) := fun cs => by simp [atV, encI]
    rw [zr111]
    simp only [decP_map, Option.bind_some, hs, cond_true]
    unfold pgRv pgE pgFr
    revert hp
    cases hf : (findE s.h.p 1).isSome with
    | false => intro _; rfl
    | true =>
      intro hp
      rw [cond_true] at hp
      simp only [Bool.and_eq_true] at hp
      obtain ⟨h1, h2, h3, h4, h5, h6⟩ := hp
      have a0 : (((findE s.h.p 1).getD 0 : Nat) : Int) = pgAt s := rfl
      have a1 : (smallE s.h.p (pgAt s) k).2 = pgPs s k := rfl
      have a2 : segR ((onL (pgPs s k) (pgAt s)).map (·.1)) 0 ((onL (pgPs s k) (pgAt s)).map (·.1)).length = pgYs s k := rfl
      have a3 : ((onL (pgPs s k) (pgAt s)).map (·.1)).length <= 4000000000 := by
        have := Nat.le_of_ble_eq_true h2
        rw [<- a2, segR_len (by omega)] at this
        omega
      have a4 : decFr (encI s.h.w) (List.map encP (pgPs s k)) (encI s.h.f.a) (encI s.h.f.b) (encI s.h.f.c) (encBs s.h.c) (encI s.c.a) (encI s.c.b) (encI s.c.c) = some ⟨⟨s.h.w, pgPs s k, s.h.f, s.h.c⟩, s.c⟩ := decFr_enc ⟨⟨s.h.w, pgPs s k, s.h.f, s.h.c⟩, s.c⟩
      have el : ∀ l : Ls, (⟨l.a, l.b, l.c⟩ : Ls) = l := fun _ => rfl
      simp only [Bool.not_true, cond_false, cond_true, a0, a1, h1, e0, decI_map, Option.bind_some, Nat.ble_eq_true_of_le a3, a2, a4, encI_len, beq_self_eq_true, h2, h3, h4, h5, h6, Bool.and_self, el]
      rfl
noncomputable abbrev z61 : Cx := cxN Pr Tryz.f61 [(112, gMove), (113, gPop), (111, gPageF)]
set_option maxRecDepth 100000 in
theorem zr61a (s : Fr) (β : Type) (K : CV -> List (List CV) -> Option β) : fnK z61 Tryz.f61 [.ref 0, .int .i64 0] (cFr.enc s) K =
 bif (↑(List.length (encI (Ls.a (Fr.c s)))) : Int) == 0 then
 bif (↑(List.length (encI (Ls.a (Hp.f (Fr.h s))))) : Int) == 0 then
 Option.bind (decFr (encI (Hp.w (Fr.h s))) (List.map encP (Hp.p (Fr.h s))) (encI (Ls.a (Hp.f (Fr.h s)))) (encI (Ls.b (Hp.f (Fr.h s)))) (encI (Ls.c (Hp.f (Fr.h s)))) (encBs (Hp.c (Fr.h s))) (encI (Ls.a (Fr.c s))) (encI (Ls.b (Fr.c s))) (encI (Ls.c (Fr.c s)))) fun u =>
 bif pgPre u 0 then
 bif pgE u != 0 then
 K (CV.tup [CV.int IntKind.i64 0, CV.int IntKind.i64 (pgE u)]) [[CV.sl 1 (encI (Hp.w (Fr.h (pgFr u 0)))), CV.sl 2 (List.map encP (Hp.p (Fr.h (pgFr u 0)))), CV.sl 1 (encI (Ls.a (Hp.f (Fr.h (pgFr u 0))))), CV.sl 1 (encI (Ls.b (Hp.f (Fr.h (pgFr u 0))))), CV.sl 1 (encI (Ls.c (Hp.f (Fr.h (pgFr u 0))))), CV.sl 1 (encBs (Hp.c (Fr.h (pgFr u 0)))), CV.sl 1 (encI (Ls.a (Fr.c (pgFr u 0)))), CV.sl 1 (encI (Ls.b (Fr.c (pgFr u 0)))), CV.sl 1 (encI (Ls.c (Fr.c (pgFr u 0))))]]
 else
 Option.bind (Option.bind (decI (encI (Ls.a (Hp.f (Fr.h (pgFr u 0)))))) fun a =>
 Option.bind (decI (encI (Ls.b (Hp.f (Fr.h (pgFr u 0)))))) fun b =>
 Option.bind (decI (encI (Ls.c (Hp.f (Fr.h (pgFr u 0)))))) fun c => some { a := a, b := b, c := c }) fun a =>
 Option.bind (Option.bind (decI (encI (Ls.a (Fr.c (pgFr u 0))))) fun a =>
 Option.bind (decI (encI (Ls.b (Fr.c (pgFr u 0))))) fun b =>
 Option.bind (decI (encI (Ls.c (Fr.c (pgFr u 0))))) fun c => some { a := a, b := b, c := c }) fun b =>
 bif smL a && smL b && true then
 Option.bind (Option.bind (decI (encI (Ls.get b 0 ++ List.reverse (List.drop (List.length (Ls.get a 0) - 2) (Ls.get a 0))))) fun a =>
 Option.bind (decI (encI (Ls.b b))) fun b_1 =>
 Option.bind (decI (encI (Ls.c b))) fun c => some { a := a, b := b_1, c := c }) fun a_1 =>
 bif smL a_1 && !List.isEmpty (Ls.get a_1 0) then
 K (CV.tup [CV.int IntKind.i64 (lastL a_1 0), CV.int IntKind.i64 0]) [[CV.sl 1 (encI (Hp.w (Fr.h (pgFr u 0)))), CV.sl 2 (List.map encP (Hp.p (Fr.h (pgFr u 0)))), CV.sl 1 (encI (List.take (List.length (Ls.get a 0) - 2) (Ls.get a 0))), CV.sl 1 (encI (Ls.b a)), CV.sl 1 (encI (Ls.c a)), CV.sl 1 (encBs (Hp.c (Fr.h (pgFr u 0)))), CV.sl 1 (encI (List.take (List.length (Ls.get a_1 0) - 1) (Ls.get a_1 0))), CV.sl 1 (encI (Ls.b a_1)), CV.sl 1 (encI (Ls.c a_1))]]
 else none
 else none
 else none
 else
 Option.bind (Option.bind (decI (encI (Ls.a (Hp.f (Fr.h s))))) fun a =>
 Option.bind (decI (encI (Ls.b (Hp.f (Fr.h s))))) fun b =>
 Option.bind (decI (encI (Ls.c (Hp.f (Fr.h s))))) fun c => some { a := a, b := b, c := c }) fun a =>
 Option.bind (Option.bind (decI (encI (Ls.a (Fr.c s)))) fun a =>
 Option.bind (decI (encI (Ls.b (Fr.c s)))) fun b =>
 Option.bind (decI (encI (Ls.c (Fr.c s)))) fun c => some { a := a, b := b, c := c }) fun b =>
 bif smL a && smL b && true then
 Option.bind (Option.bind (decI (encI (Ls.get b 0 ++ List.reverse (List.drop (List.length (Ls.get a 0) - 2) (Ls.get a 0))))) fun a =>
 Option.bind (decI (encI (Ls.b b))) fun b_1 =>
 Option.bind (decI (encI (Ls.c b))) fun c => some { a := a, b := b_1, c := c }) fun a_1 =>
 bif smL a_1 && !List.isEmpty (Ls.get a_1 0) then
 K (CV.tup [CV.int IntKind.i64 (lastL a_1 0), CV.int IntKind.i64 0]) [[CV.sl 1 (encI (Hp.w (Fr.h s))), CV.sl 2 (List.map encP (Hp.p (Fr.h s))), CV.sl 1 (encI (List.take (List.length (Ls.get a 0) - 2) (Ls.get a 0))), CV.sl 1 (encI (Ls.b a)), CV.sl 1 (encI (Ls.c a)), CV.sl 1 (encBs (Hp.c (Fr.h s))), CV.sl 1 (encI (List.take (List.length (Ls.get a_1 0) - 1) (Ls.get a_1 0))), CV.sl 1 (encI (Ls.b a_1)), CV.sl 1 (encI (Ls.c a_1))]]
 else none
 else none
 else
 Option.bind (Option.bind (decI (encI (Ls.a (Fr.c s)))) fun a =>
 Option.bind (decI (encI (Ls.b (Fr.c s)))) fun b =>
 Option.bind (decI (encI (Ls.c (Fr.c s)))) fun c => some { a := a, b := b, c := c }) fun a =>
 bif smL a && !List.isEmpty (Ls.get a 0) then
 K (CV.tup [CV.int IntKind.i64 (lastL a 0), CV.int IntKind.i64 0]) [[CV.sl 1 (encI (Hp.w (Fr.h s))), CV.sl 2 (List.map encP (Hp.p (Fr.h s))), CV.sl 1 (encI (Ls.a (Hp.f (Fr.h s)))), CV.sl 1 (encI (Ls.b (Hp.f (Fr.h s)))), CV.sl 1 (encI (Ls.c (Hp.f (Fr.h s)))), CV.sl 1 (encBs (Hp.c (Fr.h s))), CV.sl 1 (encI (List.take (List.length (Ls.get a 0) - 1) (Ls.get a 0))), CV.sl 1 (encI (Ls.b a)), CV.sl 1 (encI (Ls.c a))]]
 else none := by kernel_rfl
set_option maxRecDepth 100000 in
theorem zr61b (s : Fr) (β : Type) (K : CV -> List (List CV) -> Option β) : fnK z61 Tryz.f61 [.ref 0, .int .i64 1] (cFr.enc s) K =
 bif (↑(List.length (encI (Ls.b (Fr.c s)))) : Int) == 0 then
 bif (↑(List.length (encI (Ls.b (Hp.f (Fr.h s))))) : Int) == 0 then
 Option.bind (decFr (encI (Hp.w (Fr.h s))) (List.map encP (Hp.p (Fr.h s))) (encI (Ls.a (Hp.f (Fr.h s)))) (encI (Ls.b (Hp.f (Fr.h s)))) (encI (Ls.c (Hp.f (Fr.h s)))) (encBs (Hp.c (Fr.h s))) (encI (Ls.a (Fr.c s))) (encI (Ls.b (Fr.c s))) (encI (Ls.c (Fr.c s)))) fun u =>
 bif pgPre u 1 then
 bif pgE u != 0 then
 K (CV.tup [CV.int IntKind.i64 0, CV.int IntKind.i64 (pgE u)]) [[CV.sl 1 (encI (Hp.w (Fr.h (pgFr u 1)))), CV.sl 2 (List.map encP (Hp.p (Fr.h (pgFr u 1)))), CV.sl 1 (encI (Ls.a (Hp.f (Fr.h (pgFr u 1))))), CV.sl 1 (encI (Ls.b (Hp.f (Fr.h (pgFr u 1))))), CV.sl 1 (encI (Ls.c (Hp.f (Fr.h (pgFr u 1))))), CV.sl 1 (encBs (Hp.c (Fr.h (pgFr u 1)))), CV.sl 1 (encI (Ls.a (Fr.c (pgFr u 1)))), CV.sl 1 (encI (Ls.b (Fr.c (pgFr u 1)))), CV.sl 1 (encI (Ls.c (Fr.c (pgFr u 1))))]]
 else
 Option.bind (Option.bind (decI (encI (Ls.a (Hp.f (Fr.h (pgFr u 1)))))) fun a =>
 Option.bind (decI (encI (Ls.b (Hp.f (Fr.h (pgFr u 1)))))) fun b =>
 Option.bind (decI (encI (Ls.c (Hp.f (Fr.h (pgFr u 1)))))) fun c => some { a := a, b := b, c := c }) fun a =>
 Option.bind (Option.bind (decI (encI (Ls.a (Fr.c (pgFr u 1))))) fun a =>
 Option.bind (decI (encI (Ls.b (Fr.c (pgFr u 1))))) fun b =>
 Option.bind (decI (encI (Ls.c (Fr.c (pgFr u 1))))) fun c => some { a := a, b := b, c := c }) fun b =>
 bif smL a && smL b && true then
 Option.bind (Option.bind (decI (encI (Ls.a b))) fun a_1 =>
 Option.bind (decI (encI (Ls.get b 1 ++ List.reverse (List.drop (List.length (Ls.get a 1) - 2) (Ls.get a 1))))) fun b_1 => Option.bind (decI (encI (Ls.c b))) fun c => some { a := a_1, b := b_1, c := c }) fun a_1 =>
 bif smL a_1 && !List.isEmpty (Ls.get a_1 1) then
 K (CV.tup [CV.int IntKind.i64 (lastL a_1 1), CV.int IntKind.i64 0]) [[CV.sl 1 (encI (Hp.w (Fr.h (pgFr u 1)))), CV.sl 2 (List.map encP (Hp.p (Fr.h (pgFr u 1)))), CV.sl 1 (encI (Ls.a a)), CV.sl 1 (encI (List.take (List.length (Ls.get a 1) - 2) (Ls.get a 1))), CV.sl 1 (encI (Ls.c a)), CV.sl 1 (encBs (Hp.c (Fr.h (pgFr u 1)))), CV.sl 1 (encI (Ls.a a_1)), CV.sl 1 (encI (List.take (List.length (Ls.get a_1 1) - 1) (Ls.get a_1 1))), CV.sl 1 (encI (Ls.c a_1))]]
 else none
 else none
 else none
 else
 Option.bind (Option.bind (decI (encI (Ls.a (Hp.f (Fr.h s))))) fun a =>
 Option.bind (decI (encI (Ls.b (Hp.f (Fr.h s))))) fun b =>
 Option.bind (decI (encI (Ls.c (Hp.f (Fr.h s))))) fun c => some { a := a, b := b, c := c }) fun a =>
 Option.bind (Option.bind (decI (encI (Ls.a (Fr.c s)))) fun a =>
 Option.bind (decI (encI (Ls.b (Fr.c s)))) fun b =>
 Option.bind (decI (encI (Ls.c (Fr.c s)))) fun c => some { a := a, b := b, c := c }) fun b =>
 bif smL a && smL b && true then
 Option.bind (Option.bind (decI (encI (Ls.a b))) fun a_1 =>
 Option.bind (decI (encI (Ls.get b 1 ++ List.reverse (List.drop (List.length (Ls.get a 1) - 2) (Ls.get a 1))))) fun b_1 => Option.bind (decI (encI (Ls.c b))) fun c => some { a := a_1, b := b_1, c := c }) fun a_1 =>
 bif smL a_1 && !List.isEmpty (Ls.get a_1 1) then
 K (CV.tup [CV.int IntKind.i64 (lastL a_1 1), CV.int IntKind.i64 0]) [[CV.sl 1 (encI (Hp.w (Fr.h s))), CV.sl 2 (List.map encP (Hp.p (Fr.h s))), CV.sl 1 (encI (Ls.a a)), CV.sl 1 (encI (List.take (List.length (Ls.get a 1) - 2) (Ls.get a 1))), CV.sl 1 (encI (Ls.c a)), CV.sl 1 (encBs (Hp.c (Fr.h s))), CV.sl 1 (encI (Ls.a a_1)), CV.sl 1 (encI (List.take (List.length (Ls.get a_1 1) - 1) (Ls.get a_1 1))), CV.sl 1 (encI (Ls.c a_1))]]
 else none
 else none
 else
 Option.bind (Option.bind (decI (encI (Ls.a (Fr.c s)))) fun a =>
 Option.bind (decI (encI (Ls.b (Fr.c s)))) fun b =>
 Option.bind (decI (encI (Ls.c (Fr.c s)))) fun c => some { a := a, b := b, c := c }) fun a =>
 bif smL a && !List.isEmpty (Ls.get a 1) then
 K (CV.tup [CV.int IntKind.i64 (lastL a 1), CV.int IntKind.i64 0]) [[CV.sl 1 (encI (Hp.w (Fr.h s))), CV.sl 2 (List.map encP (Hp.p (Fr.h s))), CV.sl 1 (encI (Ls.a (Hp.f (Fr.h s)))), CV.sl 1 (encI (Ls.b (Hp.f (Fr.h s)))), CV.sl 1 (encI (Ls.c (Hp.f (Fr.h s)))), CV.sl 1 (encBs (Hp.c (Fr.h s))), CV.sl 1 (encI (Ls.a a)), CV.sl 1 (encI (List.take (List.length (Ls.get a 1) - 1) (Ls.get a 1))), CV.sl 1 (encI (Ls.c a))]]
 else none := by kernel_rfl
set_option maxRecDepth 100000 in
theorem zr61c (s : Fr) (β : Type) (K : CV -> List (List CV) -> Option β) : fnK z61 Tryz.f61 [.ref 0, .int .i64 2] (cFr.enc s) K =
 bif (↑(List.length (encI (Ls.c (Fr.c s)))) : Int) == 0 then
 bif (↑(List.length (encI (Ls.c (Hp.f (Fr.h s))))) : Int) == 0 then
 Option.bind (decFr (encI (Hp.w (Fr.h s))) (List.map encP (Hp.p (Fr.h s))) (encI (Ls.a (Hp.f (Fr.h s)))) (encI (Ls.b (Hp.f (Fr.h s)))) (encI (Ls.c (Hp.f (Fr.h s)))) (encBs (Hp.c (Fr.h s))) (encI (Ls.a (Fr.c s))) (encI (Ls.b (Fr.c s))) (encI (Ls.c (Fr.c s)))) fun u =>
 bif pgPre u 2 then
 bif pgE u != 0 then
 K (CV.tup [CV.int IntKind.i64 0, CV.int IntKind.i64 (pgE u)]) [[CV.sl 1 (encI (Hp.w (Fr.h (pgFr u 2)))), CV.sl 2 (List.map encP (Hp.p (Fr.h (pgFr u 2)))), CV.sl 1 (encI (Ls.a (Hp.f (Fr.h (pgFr u 2))))), CV.sl 1 (encI (Ls.b (Hp.f (Fr.h (pgFr u 2))))), CV.sl 1 (encI (Ls.c (Hp.f (Fr.h (pgFr u 2))))), CV.sl 1 (encBs (Hp.c (Fr.h (pgFr u 2)))), CV.sl 1 (encI (Ls.a (Fr.c (pgFr u 2)))), CV.sl 1 (encI (Ls.b (Fr.c (pgFr u 2)))), CV.sl 1 (encI (Ls.c (Fr.c (pgFr u 2))))]]
 else
 Option.bind (Option.bind (decI (encI (Ls.a (Hp.f (Fr.h (pgFr u 2)))))) fun a =>
 Option.bind (decI (encI (Ls.b (Hp.f (Fr.h (pgFr u 2)))))) fun b =>
 Option.bind (decI (encI (Ls.c (Hp.f (Fr.h (pgFr u 2)))))) fun c => some { a := a, b := b, c := c }) fun a =>
 Option.bind (Option.bind (decI (encI (Ls.a (Fr.c (pgFr u 2))))) fun a =>
 Option.bind (decI (encI (Ls.b (Fr.c (pgFr u 2))))) fun b =>
 Option.bind (decI (encI (Ls.c (Fr.c (pgFr u 2))))) fun c => some { a := a, b := b, c := c }) fun b =>
 bif smL a && smL b && true then
 Option.bind (Option.bind (decI (encI (Ls.a b))) fun a_1 =>
 Option.bind (decI (encI (Ls.b b))) fun b_1 =>
 Option.bind (decI (encI (Ls.get b 2 ++ List.reverse (List.drop (List.length (Ls.get a 2) - 2) (Ls.get a 2))))) fun c => some { a := a_1, b := b_1, c := c }) fun a_1 =>
 bif smL a_1 && !List.isEmpty (Ls.get a_1 2) then
 K (CV.tup [CV.int IntKind.i64 (lastL a_1 2), CV.int IntKind.i64 0]) [[CV.sl 1 (encI (Hp.w (Fr.h (pgFr u 2)))), CV.sl 2 (List.map encP (Hp.p (Fr.h (pgFr u 2)))), CV.sl 1 (encI (Ls.a a)), CV.sl 1 (encI (Ls.b a)), CV.sl 1 (encI (List.take (List.length (Ls.get a 2) - 2) (Ls.get a 2))), CV.sl 1 (encBs (Hp.c (Fr.h (pgFr u 2)))), CV.sl 1 (encI (Ls.a a_1)), CV.sl 1 (encI (Ls.b a_1)), CV.sl 1 (encI (List.take (List.length (Ls.get a_1 2) - 1) (Ls.get a_1 2)))]]
 else none
 else none
 else none
 else
 Option.bind (Option.bind (decI (encI (Ls.a (Hp.f (Fr.h s))))) fun a =>
 Option.bind (decI (encI (Ls.b (Hp.f (Fr.h s))))) fun b =>
 Option.bind (decI (encI (Ls.c (Hp.f (Fr.h s))))) fun c => some { a := a, b := b, c := c }) fun a =>
 Option.bind (Option.bind (decI (encI (Ls.a (Fr.c s)))) fun a =>
 Option.bind (decI (encI (Ls.b (Fr.c s)))) fun b =>
 Option.bind (decI (encI (Ls.c (Fr.c s)))) fun c => some { a := a, b := b, c := c }) fun b =>
 bif smL a && smL b && true then
 Option.bind (Option.bind (decI (encI (Ls.a b))) fun a_1 =>
 Option.bind (decI (encI (Ls.b b))) fun b_1 =>
 Option.bind (decI (encI (Ls.get b 2 ++ List.reverse (List.drop (List.length (Ls.get a 2) - 2) (Ls.get a 2))))) fun c => some { a := a_1, b := b_1, c := c }) fun a_1 =>
 bif smL a_1 && !List.isEmpty (Ls.get a_1 2) then
 K (CV.tup [CV.int IntKind.i64 (lastL a_1 2), CV.int IntKind.i64 0]) [[CV.sl 1 (encI (Hp.w (Fr.h s))), CV.sl 2 (List.map encP (Hp.p (Fr.h s))), CV.sl 1 (encI (Ls.a a)), CV.sl 1 (encI (Ls.b a)), CV.sl 1 (encI (List.take (List.length (Ls.get a 2) - 2) (Ls.get a 2))), CV.sl 1 (encBs (Hp.c (Fr.h s))), CV.sl 1 (encI (Ls.a a_1)), CV.sl 1 (encI (Ls.b a_1)), CV.sl 1 (encI (List.take (List.length (Ls.get a_1 2) - 1) (Ls.get a_1 2)))]]
 else none
 else none
 else
 Option.bind (Option.bind (decI (encI (Ls.a (Fr.c s)))) fun a =>
 Option.bind (decI (encI (Ls.b (Fr.c s)))) fun b =>
 Option.bind (decI (encI (Ls.c (Fr.c s)))) fun c => some { a := a, b := b, c := c }) fun a =>
 bif smL a && !List.isEmpty (Ls.get a 2) then
 K (CV.tup [CV.int IntKind.i64 (lastL a 2), CV.int IntKind.i64 0]) [[CV.sl 1 (encI (Hp.w (Fr.h s))), CV.sl 2 (List.map encP (Hp.p (Fr.h s))), CV.sl 1 (encI (Ls.a (Hp.f (Fr.h s)))), CV.sl 1 (encI (Ls.b (Hp.f (Fr.h s)))), CV.sl 1 (encI (Ls.c (Hp.f (Fr.h s)))), CV.sl 1 (encBs (Hp.c (Fr.h s))), CV.sl 1 (encI (Ls.a a)), CV.sl 1 (encI (Ls.b a)), CV.sl 1 (encI (List.take (List.length (Ls.get a 2) - 1) (Ls.get a 2)))]]
 else none := by kernel_rfl
def smMove (s : Fr) (k : Int) : Fr := ⟨⟨s.h.w, s.h.p, moveF s.h.f k, s.h.c⟩, moveT s.h.f s.c k⟩
def smPop (s : Fr) (k : Int) : Fr := ⟨s.h, popL s.c k⟩
def okMP (s : Fr) (k : Int) : Bool := smL s.h.f && (smL s.c && (smL (smMove s k).c && !((smMove s k).c.get k.toNat).isEmpty))
def smPre (s : Fr) (k : Int) : Bool := isC k && (smL s.c && bif !(s.c.get k.toNat).isEmpty then true else bif !(s.h.f.get k.toNat).isEmpty then okMP s k else pgPre s k && bif pgE s != 0 then true else okMP (pgFr s k) k)
def smE (s : Fr) (k : Int) : Int × Int := bif !(s.c.get k.toNat).isEmpty then (lastL s.c k, 0) else bif !(s.h.f.get k.toNat).isEmpty then (lastL (smMove s k).c k, 0) else bif pgE s != 0 then (0, pgE s) else (lastL (smMove (pgFr s k) k).c k, 0)
def smFr (s : Fr) (k : Int) : Fr := bif !(s.c.get k.toNat).isEmpty then smPop s k else bif !(s.h.f.get k.toNat).isEmpty then smPop (smMove s k) k else bif pgE s != 0 then pgFr s k else smPop (smMove (pgFr s k) k) k
def gSmallF : Callee := gR cFr cI smPre (fun s k => .tup [cI.enc (smE s k).1, cI.enc (smE s k).2]) smFr
theorem empty_len (l : List Int) : (((l.length : Nat) : Int) == 0) = l.isEmpty := by
  cases l with
  | nil => rfl
  | cons _ _ => exact beq_eq_false_iff_ne.2 (by simp only [List.length_cons]; omega)
theorem sm61a (s : Fr) (hp : smPre s 0 = true) (β : Type) (K : CV -> List (List CV) -> Option β) : fnK z61 Tryz.f61 [.ref 0, .int .i64 0] (cFr.enc s) K = K (.tup [cI.enc (smE s 0).1, cI.enc (smE s 0).2]) (cFr.enc (smFr s 0)) := by
  have el : ∀ l : Ls, (⟨l.a, l.b, l.c⟩ : Ls) = l := fun _ => rfl
  have g0 : ∀ l : Ls, l.get (Int.toNat 0) = l.a := fun _ => rfl
  have m0 : ∀ f t : Ls, (⟨t.a ++ (f.a.drop (f.a.length - 2)).reverse, t.b, t.c⟩ : Ls) = moveT f t 0 := fun _ _ => rfl
  have gk : ∀ l : Ls, l.get 0 = l.a := fun _ => rfl
  unfold smPre at hp
  rw [Bool.and_eq_true, Bool.and_eq_true, g0, g0] at hp
  obtain ⟨_, hc, hp⟩ := hp
  rw [zr61a]
  simp only [encI_len, empty_len]
  unfold smE smFr
  rw [g0, g0]
  revert hp
  cases e1 : s.c.a.isEmpty with
  | false =>
    intro _
    simp only [decI_map, Option.bind_some, el, hc, gk, e1, Bool.not_false, Bool.and_self, cond_true, cond_false]
    rfl
  | true =>
    simp only [Bool.not_true, cond_false, cond_true]
    cases e2 : s.h.f.a.isEmpty with
    | false =>
      intro hp
      rw [Bool.not_false, cond_true] at hp
      simp only [okMP, Bool.and_eq_true] at hp
      obtain ⟨h1, h2, h3, h4⟩ := hp
      have h3 : smL (moveT s.h.f s.c 0) = true := h3
      have h4 : (!(moveT s.h.f s.c 0).a.isEmpty) = true := h4
      simp only [decI_map, Option.bind_some, el, gk, h1, h2, Bool.and_self, cond_true, cond_false, Bool.not_false, m0, h3, h4]
      rfl
    | true =>
      intro hp
      rw [Bool.not_true, cond_false, Bool.and_eq_true] at hp
      obtain ⟨h0, hp⟩ := hp
      simp only [decFr_enc, Option.bind_some, h0, cond_true]
      revert hp
      cases e3 : pgE s != 0 with
      | true => intro _; rfl
      | false =>
        intro hp
        rw [cond_false] at hp
        simp only [okMP, Bool.and_eq_true] at hp
        obtain ⟨h1, h2, h3, h4⟩ := hp
        have h3 : smL (moveT (pgFr s 0).h.f (pgFr s 0).c 0) = true := h3
        have h4 : (!(moveT (pgFr s 0).h.f (pgFr s 0).c 0).a.isEmpty) = true := h4
        simp only [decI_map, Option.bind_some, el, gk, h1, h2, Bool.and_self, cond_true, cond_false, Bool.not_true, m0, h3, h4]
        rfl
theorem sm61b (s : Fr) (hp : smPre s 1 = true) (β : Type) (K : CV -> List (List CV) -> Option β) : fnK z61 Tryz.f61 [.ref 0, .int .i64 1] (cFr.enc s) K = K (.tup [cI.enc (smE s 1).1, cI.enc (smE s 1).2]) (cFr.enc (smFr s 1)) := by
  have el : ∀ l : Ls, (⟨l.a, l.b, l.c⟩ : Ls) = l := fun _ => rfl
  have g0 : ∀ l : Ls, l.get (Int.toNat 1) = l.b := fun _ => rfl
  have m0 : ∀ f t : Ls, (⟨t.a, t.b ++ (f.b.drop (f.b.length - 2)).reverse, t.c⟩ : Ls) = moveT f t 1 := fun _ _ => rfl
  have gk : ∀ l : Ls, l.get 1 = l.b := fun _ => rfl
  unfold smPre at hp
  rw [Bool.and_eq_true, Bool.and_eq_true, g0, g0] at hp
  obtain ⟨_, hc, hp⟩ := hp
  rw [zr61b]
  simp only [encI_len, empty_len]
  unfold smE smFr
  rw [g0, g0]
  revert hp
  cases e1 : s.c.b.isEmpty with
  | false =>
    intro _
    simp only [decI_map, Option.bind_some, el, hc, gk, e1, Bool.not_false, Bool.and_self, cond_true, cond_false]
    rfl
  | true =>
    simp only [Bool.not_true, cond_false, cond_true]
    cases e2 : s.h.f.b.isEmpty with
    | false =>
      intro hp
      rw [Bool.not_false, cond_true] at hp
      simp only [okMP, Bool.and_eq_true] at hp
      obtain ⟨h1, h2, h3, h4⟩ := hp
      have h3 : smL (moveT s.h.f s.c 1) = true := h3
      have h4 : (!(moveT s.h.f s.c 1).b.isEmpty) = true := h4
      simp only [decI_map, Option.bind_some, el, gk, h1, h2, Bool.and_self, cond_true, cond_false, Bool.not_false, m0, h3, h4]
      rfl
    | true =>
      intro hp
      rw [Bool.not_true, cond_false, Bool.and_eq_true] at hp
      obtain ⟨h0, hp⟩ := hp
      simp only [decFr_enc, Option.bind_some, h0, cond_true]
      revert hp
      cases e3 : pgE s != 0 with
      | true => intro _; rfl
      | false =>
        intro hp
        rw [cond_false] at hp
        simp only [okMP, Bool.and_eq_true] at hp
        obtain ⟨h1, h2, h3, h4⟩ := hp
        have h3 : smL (moveT (pgFr s 1).h.f (pgFr s 1).c 1) = true := h3
        have h4 : (!(moveT (pgFr s 1).h.f (pgFr s 1).c 1).b.isEmpty) = true := h4
        simp only [decI_map, Option.bind_some, el, gk, h1, h2, Bool.and_self, cond_true, cond_false, Bool.not_true, m0, h3, h4]
        rfl
theorem sm61c (s : Fr) (hp : smPre s 2 = true) (β : Type) (K : CV -> List (List CV) -> Option β) : fnK z61 Tryz.f61 [.ref 0, .int .i64 2] (cFr.enc s) K = K (.tup [cI.enc (smE s 2).1, cI.enc (smE s 2).2]) (cFr.enc (smFr s 2)) := by
  have el : ∀ l : Ls, (⟨l.a, l.b, l.c⟩ : Ls) = l := fun _ => rfl
  have g0 : ∀ l : Ls, l.get (Int.toNat 2) = l.c := fun _ => rfl
  have m0 : ∀ f t : Ls, (⟨t.a, t.b, t.c ++ (f.c.drop (f.c.length - 2)).reverse⟩ : Ls) = moveT f t 2 := fun _ _ => rfl
  have gk : ∀ l : Ls, l.get 2 = l.c := fun _ => rfl
  unfold smPre at hp
  rw [Bool.and_eq_true, Bool.and_eq_true, g0, g0] at hp
  obtain ⟨_, hc, hp⟩ := hp
  rw [zr61c]
  simp only [encI_len, empty_len]
  unfold smE smFr
  rw [g0, g0]
  revert hp
  cases e1 : s.c.c.isEmpty with
  | false =>
    intro _
    simp only [decI_map, Option.bind_some, el, hc, gk, e1, Bool.not_false, Bool.and_self, cond_true, cond_false]
    rfl
  | true =>
    simp only [Bool.not_true, cond_false, cond_true]
    cases e2 : s.h.f.c.isEmpty with
    | false =>
      intro hp
      rw [Bool.not_false, cond_true] at hp
      simp only [okMP, Bool.and_eq_true] at hp
      obtain ⟨h1, h2, h3, h4⟩ := hp
      have h3 : smL (moveT s.h.f s.c 2) = true := h3
      have h4 : (!(moveT s.h.f s.c 2).c.isEmpty) = true := h4
      simp only [decI_map, Option.bind_some, el, gk, h1, h2, Bool.and_self, cond_true, cond_false, Bool.not_false, m0, h3, h4]
      rfl
    | true =>
      intro hp
      rw [Bool.not_true, cond_false, Bool.and_eq_true] at hp
      obtain ⟨h0, hp⟩ := hp
      simp only [decFr_enc, Option.bind_some, h0, cond_true]
      revert hp
      cases e3 : pgE s != 0 with
      | true => intro _; rfl
      | false =>
        intro hp
        rw [cond_false] at hp
        simp only [okMP, Bool.and_eq_true] at hp
        obtain ⟨h1, h2, h3, h4⟩ := hp
        have h3 : smL (moveT (pgFr s 2).h.f (pgFr s 2).c 2) = true := h3
        have h4 : (!(moveT (pgFr s 2).h.f (pgFr s 2).c 2).c.isEmpty) = true := h4
        simp only [decI_map, Option.bind_some, el, gk, h1, h2, Bool.and_self, cond_true, cond_false, Bool.not_true, m0, h3, h4]
        rfl
theorem smallF_good : GoodC Pr 61 gSmallF :=
  goodR ((CxOK.baseN (Good.cons move_good (Good.cons pop_good (Good.cons pageF_good Good.nil))) GoodI.nil (eqOK_none fun _ => rfl)).sound (cx := z61) Tryz.func61 (by kernel_rfl) (by kernel_rfl) rfl (by kernel_rfl)) fun s k hp β K => by
    have hp0 := hp
    unfold smPre at hp
    rw [Bool.and_eq_true] at hp
    rcases isC_cases hp.1 with rfl | rfl | rfl
    . exact sm61a s hp0 β K
    . exact sm61b s hp0 β K
    . exact sm61c s hp0 β K
noncomputable abbrev z62 : Cx := cxN Pr Tryz.f62 [(114, gRun), (30, gFind), (115, gLargeC), (116, gAt)]
set_option maxRecDepth 100000 in
theorem zr62 (s : Fr) (n : Int) (β : Type) (K : CV -> List (List CV) -> Option β) : fnK z62 Tryz.f62 [.ref 0, cI.enc n] (cFr.enc s) K =
 Option.bind (decP (List.map encP (Hp.p (Fr.h s)))) fun a =>
 bif sm a then
 bif !Option.isSome (findE a (Prod.fst (runE n))) then
 K (CV.tup [CV.int IntKind.i64 0, CV.int IntKind.i64 4]) [[CV.sl 1 (encI (Hp.w (Fr.h s))), CV.sl 2 (List.map encP (Hp.p (Fr.h s))), CV.sl 1 (encI (Ls.a (Hp.f (Fr.h s)))), CV.sl 1 (encI (Ls.b (Hp.f (Fr.h s)))), CV.sl 1 (encI (Ls.c (Hp.f (Fr.h s)))), CV.sl 1 (encBs (Hp.c (Fr.h s))), CV.sl 1 (encI (Ls.a (Fr.c s))), CV.sl 1 (encI (Ls.b (Fr.c s))), CV.sl 1 (encI (Ls.c (Fr.c s)))]]
 else
 Option.bind (decP (List.map encP (Hp.p (Fr.h s)))) fun a_1 =>
 bif sm a_1 then
 Option.bind (decI (encI (Hp.w (Fr.h s)))) fun a_2 =>
 bif mayA (List.length a_2) && decide (16 * (↑(Option.getD (findE a (Prod.fst (runE n))) 0) : Int) < (↑(List.length a_2) : Int)) then
 K (CV.tup [CV.int IntKind.i64 (16 * ((↑(Option.getD (findE a (Prod.fst (runE n))) 0) : Int) + 1)), CV.int IntKind.i64 0]) [[CV.sl 1 (encI (Hp.w (Fr.h s))), CV.sl 2 (List.map encP (Prod.snd (largeE a_1 (↑(Option.getD (findE a (Prod.fst (runE n))) 0) : Int) (Prod.fst (runE n))))), CV.sl 1 (encI (Ls.a (Hp.f (Fr.h s)))), CV.sl 1 (encI (Ls.b (Hp.f (Fr.h s)))), CV.sl 1 (encI (Ls.c (Hp.f (Fr.h s)))), CV.sl 1 (encBs (Hp.c (Fr.h s))), CV.sl 1 (encI (Ls.a (Fr.c s))), CV.sl 1 (encI (Ls.b (Fr.c s))), CV.sl 1 (encI (Ls.c (Fr.c s)))]]
 else none
 else none
 else none := by kernel_rfl
def lgAt (s : Fr) (n : Int) : Int := (((findE s.h.p (runE n).1).getD 0 : Nat) : Int)
def lgPre (s : Fr) (n : Int) : Bool := sm s.h.p && bif (findE s.h.p (runE n).1).isSome then (mayA s.h.w.length && decide (16 * lgAt s n < (s.h.w.length : Int))) else true
def lgE (s : Fr) (n : Int) : Int × Int := bif (findE s.h.p (runE n).1).isSome then (16 * (lgAt s n + 1), 0) else (0, 4)
def lgFr (s : Fr) (n : Int) : Fr := bif (findE s.h.p (runE n).1).isSome then ⟨⟨s.h.w, (largeE s.h.p (lgAt s n) (runE n).1).2, s.h.f, s.h.c⟩, s.c⟩ else s
def gLargeF : Callee := gR cFr cI lgPre (fun s n => .tup [cI.enc (lgE s n).1, cI.enc (lgE s n).2]) lgFr
theorem largeF_good : GoodC Pr 62 gLargeF :=
  goodR ((CxOK.baseN (Good.cons run_good (Good.cons find_good (Good.cons largeC_good (Good.cons at_good Good.nil)))) GoodI.nil (eqOK_none fun _ => rfl)).sound (cx := z62) Tryz.func62 (by kernel_rfl) (by kernel_rfl) rfl (by kernel_rfl)) fun s n hp β K => by
    unfold lgPre at hp
    rw [Bool.and_eq_true] at hp
    obtain ⟨hs, hp⟩ := hp
    rw [zr62]
    simp only [decP_map, Option.bind_some, hs, cond_true]
    unfold lgE lgFr
    revert hp
    cases hf : (findE s.h.p (runE n).1).isSome with
    | false => intro _; rfl
    | true =>
      intro hp
      rw [cond_true, Bool.and_eq_true] at hp
      have a0 : (((findE s.h.p (runE n).1).getD 0 : Nat) : Int) = lgAt s n := rfl
      simp only [Bool.not_true, cond_false, cond_true, a0, decI_map, Option.bind_some, hp.1, hp.2, Bool.and_self]
      rfl
end Go.Ab

namespace Go.Ab
open Go
open Go.Proofs
noncomputable abbrev z56 : Cx := cxN Pr Tryz.f56 []
theorem fail_inl : GoodN Pr 56 (inlC z56 Tryz.f56) := (CxOK.baseN Good.nil GoodI.nil (eqOK_none fun _ => rfl)).inlG (cx := z56) Tryz.func56 (by kernel_rfl) (by kernel_rfl) rfl (by kernel_rfl)
noncomputable abbrev z23 : Cx := cxN Pr Tryz.f23 [(57, gPack), (27, gMayHp), (58, gOf), (59, gOwnH), (60, gCloneA), (41, gZeroC), (42, gRoom), (63, gPutC), (61, gSmallF), (62, gLargeF)] [(56, inlC z56 Tryz.f56)] (fun _ => false) (fun q => Nat.beq q 2042)
set_option maxRecDepth 100000 in
theorem zr23 (h : Hp) (c : Ls) (x : Hd) (β : Type) (K : CV -> List (List CV) -> Option β) : fnK z23 Tryz.f23 [cHp.enc h, cLs.enc c, cHd.enc x] [] K =
 bif Prod.snd (packE { a := Hd.a x, b := Hd.b x, c := Hd.c x, x := Hd.x x, y := Hd.y x, z := Hd.z x }) != 0 then
 K (CV.tup [CV.agg [CV.own 1 [], CV.own 2 [], CV.own 1 [], CV.own 1 [], CV.own 1 [], CV.own 1 []], CV.agg [CV.own 1 [], CV.own 1 [], CV.own 1 []], CV.int IntKind.i64 0, CV.int IntKind.i64 1]) []
 else
 bif !Hd.a x then
 K (CV.tup [CV.agg [CV.own 1 [], CV.own 2 [], CV.own 1 [], CV.own 1 [], CV.own 1 [], CV.own 1 []], CV.agg [CV.own 1 [], CV.own 1 [], CV.own 1 []], CV.int IntKind.i64 0, CV.int IntKind.i64 1]) []
 else
 Option.bind (Option.bind (decI (encI (Hp.w h))) fun w =>
 Option.bind (decP (List.map encP (Hp.p h))) fun p =>
 Option.bind (decI (encI (Ls.a (Hp.f h)))) fun a =>
 Option.bind (decI (encI (Ls.b (Hp.f h)))) fun b =>
 Option.bind (decI (encI (Ls.c (Hp.f h)))) fun c =>
 Option.bind (decBs (encBs (Hp.c h))) fun d => some { w := w, p := p, f := { a := a, b := b, c := c }, c := d }) fun a =>
 Option.bind (decLs [[CV.sl 1 (encI (Ls.a c)), CV.sl 1 (encI (Ls.b c)), CV.sl 1 (encI (Ls.c c))]]) fun b =>
 bif smH a && smLs (Hp.f a :: b) then
 bif !mayHpV a b then
 K (CV.tup [CV.agg [CV.own 1 [], CV.own 2 [], CV.own 1 [], CV.own 1 [], CV.own 1 [], CV.own 1 []], CV.agg [CV.own 1 [], CV.own 1 [], CV.own 1 []], CV.int IntKind.i64 0, CV.int IntKind.i64 1]) []
 else
 bif Prod.snd (ofE (Hd.x x)) != 0 then
 K (CV.tup [CV.agg [CV.own 1 [], CV.own 2 [], CV.own 1 [], CV.own 1 [], CV.own 1 [], CV.own 1 []], CV.agg [CV.own 1 [], CV.own 1 [], CV.own 1 []], CV.int IntKind.i64 0, CV.int IntKind.i64 (Prod.snd (ofE (Hd.x x)))]) []
 else
 Option.bind (Option.bind (decI (encI (Hp.w h))) fun w =>
 Option.bind (decP (List.map encP (Hp.p h))) fun p =>
 Option.bind (decI (encI (Ls.a (Hp.f h)))) fun a =>
 Option.bind (decI (encI (Ls.b (Hp.f h)))) fun b =>
 Option.bind (decI (encI (Ls.c (Hp.f h)))) fun c =>
 Option.bind (decBs (encBs (Hp.c h))) fun d => some { w := w, p := p, f := { a := a, b := b, c := c }, c := d }) fun a =>
 bif smH a && (!List.isEmpty (Hp.p a) && !List.isEmpty (Hp.c a)) then
 Option.bind (decI (encI (Ls.a c))) fun a_1 =>
 bif Nat.ble (List.length a_1) 4000000000 then
 Option.bind (decI (encI (Ls.b c))) fun a_2 =>
 bif Nat.ble (List.length a_2) 4000000000 then
 Option.bind (decI (encI (Ls.c c))) fun a_3 =>
 bif Nat.ble (List.length a_3) 4000000000 then
 bif Prod.fst (ofE (Hd.x x)) == 3 then
 Option.bind (decFr (encI (Hp.w a)) (List.map encP (Hp.p a)) (encI (Ls.a (Hp.f a))) (encI (Ls.b (Hp.f a))) (encI (Ls.c (Hp.f a))) (encBs (Hp.c a)) (encI a_1) (encI a_2) (encI a_3)) fun u =>
 bif lgPre u (Hd.x x) then
 bif Prod.snd (lgE u (Hd.x x)) != 0 then
 K (CV.tup [CV.agg [CV.own 1 [], CV.own 2 [], CV.own 1 [], CV.own 1 [], CV.own 1 [], CV.own 1 []], CV.agg [CV.own 1 [], CV.own 1 [], CV.own 1 []], CV.int IntKind.i64 0, CV.int IntKind.i64 (Prod.snd (lgE u (Hd.x x)))]) []
 else
 Option.bind (decP (List.map encP (Hp.p (Fr.h (lgFr u (Hd.x x)))))) fun ps =>
 bif Nat.ble (List.length ps) 200 then
 Option.bind (decI (encI (Hp.w (Fr.h (lgFr u (Hd.x x)))))) fun a =>
 bif mayA (List.length a) && (decide (16 <= Prod.fst (lgE u (Hd.x x))) && (decide (1 <= roomA ps (Prod.fst (lgE u (Hd.x x)))) && decide (Prod.fst (lgE u (Hd.x x)) - 16 + roomA ps (Prod.fst (lgE u (Hd.x x))) <= (↑(List.length a) : Int)))) then
 Option.bind (decI (encI (zeroW a (Prod.fst (lgE u (Hd.x x))) (roomA ps (Prod.fst (lgE u (Hd.x x))))))) fun a =>
 bif mayA (List.length a) && (decide (16 <= Prod.fst (lgE u (Hd.x x))) && decide (Prod.fst (lgE u (Hd.x x)) - 16 < (↑(List.length a) : Int))) then
 K (CV.tup [CV.agg [CV.sl 1 (encI (putW a (Prod.fst (lgE u (Hd.x x))) (Prod.fst (packE { a := Hd.a x, b := Hd.b x, c := Hd.c x, x := Hd.x x, y := Hd.y x, z := Hd.z x })))), CV.sl 2 (List.map encP (Hp.p (Fr.h (lgFr u (Hd.x x))))), CV.sl 1 (encI (Ls.a (Hp.f (Fr.h (lgFr u (Hd.x x)))))), CV.sl 1 (encI (Ls.b (Hp.f (Fr.h (lgFr u (Hd.x x)))))), CV.sl 1 (encI (Ls.c (Hp.f (Fr.h (lgFr u (Hd.x x)))))), CV.sl 1 (encBs (Hp.c (Fr.h (lgFr u (Hd.x x)))))], CV.agg [CV.sl 1 (encI (Ls.a (Fr.c (lgFr u (Hd.x x))))), CV.sl 1 (encI (Ls.b (Fr.c (lgFr u (Hd.x x))))), CV.sl 1 (encI (Ls.c (Fr.c (lgFr u (Hd.x x)))))], CV.int IntKind.i64 (Prod.fst (lgE u (Hd.x x))), CV.int IntKind.i64 0]) []
 else none
 else none
 else none
 else none
 else
 Option.bind (decFr (encI (Hp.w a)) (List.map encP (Hp.p a)) (encI (Ls.a (Hp.f a))) (encI (Ls.b (Hp.f a))) (encI (Ls.c (Hp.f a))) (encBs (Hp.c a)) (encI a_1) (encI a_2) (encI a_3)) fun u =>
 bif smPre u (Prod.fst (ofE (Hd.x x))) then
 bif Prod.snd (smE u (Prod.fst (ofE (Hd.x x)))) != 0 then
 K (CV.tup [CV.agg [CV.own 1 [], CV.own 2 [], CV.own 1 [], CV.own 1 [], CV.own 1 [], CV.own 1 []], CV.agg [CV.own 1 [], CV.own 1 [], CV.own 1 []], CV.int IntKind.i64 0, CV.int IntKind.i64 (Prod.snd (smE u (Prod.fst (ofE (Hd.x x)))))]) []
 else
 Option.bind (decP (List.map encP (Hp.p (Fr.h (smFr u (Prod.fst (ofE (Hd.x x)))))))) fun ps =>
 bif Nat.ble (List.length ps) 200 then
 Option.bind (decI (encI (Hp.w (Fr.h (smFr u (Prod.fst (ofE (Hd.x x)))))))) fun a =>
 bif mayA (List.length a) && (decide (16 <= Prod.fst (smE u (Prod.fst (ofE (Hd.x x))))) && (decide (1 <= roomA ps (Prod.fst (smE u (Prod.fst (ofE (Hd.x x)))))) && decide (Prod.fst (smE u (Prod.fst (ofE (Hd.x x)))) - 16 + roomA ps (Prod.fst (smE u (Prod.fst (ofE (Hd.x x))))) <= (↑(List.length a) : Int)))) then
 Option.bind (decI (encI (zeroW a (Prod.fst (smE u (Prod.fst (ofE (Hd.x x))))) (roomA ps (Prod.fst (smE u (Prod.fst (ofE (Hd.x x))))))))) fun a =>
 bif mayA (List.length a) && (decide (16 <= Prod.fst (smE u (Prod.fst (ofE (Hd.x x))))) && decide (Prod.fst (smE u (Prod.fst (ofE (Hd.x x)))) - 16 < (↑(List.length a) : Int))) then
 K (CV.tup [CV.agg [CV.sl 1 (encI (putW a (Prod.fst (smE u (Prod.fst (ofE (Hd.x x))))) (Prod.fst (packE { a := Hd.a x, b := Hd.b x, c := Hd.c x, x := Hd.x x, y := Hd.y x, z := Hd.z x })))), CV.sl 2 (List.map encP (Hp.p (Fr.h (smFr u (Prod.fst (ofE (Hd.x x))))))), CV.sl 1 (encI (Ls.a (Hp.f (Fr.h (smFr u (Prod.fst (ofE (Hd.x x)))))))), CV.sl 1 (encI (Ls.b (Hp.f (Fr.h (smFr u (Prod.fst (ofE (Hd.x x)))))))), CV.sl 1 (encI (Ls.c (Hp.f (Fr.h (smFr u (Prod.fst (ofE (Hd.x x)))))))), CV.sl 1 (encBs (Hp.c (Fr.h (smFr u (Prod.fst (ofE (Hd.x x)))))))], CV.agg [CV.sl 1 (encI (Ls.a (Fr.c (smFr u (Prod.fst (ofE (Hd.x x))))))), CV.sl 1 (encI (Ls.b (Fr.c (smFr u (Prod.fst (ofE (Hd.x x))))))), CV.sl 1 (encI (Ls.c (Fr.c (smFr u (Prod.fst (ofE (Hd.x x)))))))], CV.int IntKind.i64 (Prod.fst (smE u (Prod.fst (ofE (Hd.x x))))), CV.int IntKind.i64 0]) []
 else none
 else none
 else none
 else none
 else none
 else none
 else none
 else none
 else none := by kernel_rfl
end Go.Ab

namespace Go.Ab
open Go
open Go.Proofs
theorem orI_nat (m n : Nat) (hm : m < 2 ^ 63) (hn : n < 2 ^ 63) : orI (m : Int) (n : Int) = ((m ||| n : Nat) : Int) := by
  have h1 : m ||| n < 2 ^ 63 := Nat.or_lt_two_pow hm hn
  unfold orI
  have e1 : (BitVec.ofInt 64 (m : Int) ||| BitVec.ofInt 64 (n : Int)).toNat = m ||| n := by
    rw [BitVec.toNat_or]
    simp only [BitVec.ofInt_natCast, BitVec.toNat_ofNat]
    rw [Nat.mod_eq_of_lt (by omega), Nat.mod_eq_of_lt (by omega)]
  rw [e1, wrap_in (by omega)]
theorem andI_nat (m n : Nat) (hm : m < 2 ^ 63) (hn : n < 2 ^ 63) : andI (m : Int) (n : Int) = ((m &&& n : Nat) : Int) := by
  have h1 : m &&& n <= n := Nat.and_le_right
  unfold andI
  have e1 : (BitVec.ofInt 64 (m : Int) &&& BitVec.ofInt 64 (n : Int)).toNat = m &&& n := by
    rw [BitVec.toNat_and]
    simp only [BitVec.ofInt_natCast, BitVec.toNat_ofNat]
    rw [Nat.mod_eq_of_lt (by omega), Nat.mod_eq_of_lt (by omega)]
  rw [e1, wrap_in (by omega)]
theorem or_add (i a b : Nat) (h : a < 2 ^ i) : a ||| (b * 2 ^ i) = a + b * 2 ^ i := by
  have := Nat.two_pow_add_eq_or_of_lt h b
  rw [Nat.or_comm, Nat.mul_comm b, <- this]; omega
theorem mayH_in {x : Hd} (hm : mayH x = true) (ha : x.a = true) : 0 <= x.x /\ x.x <= 63 /\ 0 <= x.y /\ x.y <= 1048576 /\ 0 <= x.z /\ x.z <= 1048576 := by
  unfold mayH inS at hm
  rw [ha] at hm
  simp only [Bool.not_true, cond_false, Bool.and_eq_true, decide_eq_true_eq] at hm
  omega
theorem pack_val {x : Hd} (hm : mayH x = true) (ha : x.a = true) : ∃ L : Nat, L < 8 /\ (L &&& 1 = 1) /\ ((L &&& 2 != 0) = x.b) /\ ((L &&& 4 != 0) = x.c) /\
    packH x = ((L + x.x.toNat * 8 + x.y.toNat * 1024 + x.z.toNat * 4294967296 : Nat) : Int) := by
  obtain ⟨h1, h2, h3, h4, h5, h6⟩ := mayH_in hm ha
  obtain ⟨a, b, c, n, y, z⟩ := x
  have ha : a = true := ha
  subst ha
  have h1 : 0 <= n := h1
  have h2 : n <= 63 := h2
  have h3 : 0 <= y := h3
  have h4 : y <= 1048576 := h4
  have h5 : 0 <= z := h5
  have h6 : z <= 1048576 := h6
  obtain ⟨n', rfl⟩ : ∃ k : Nat, n = k := ⟨n.toNat, by omega⟩
  obtain ⟨y', rfl⟩ : ∃ k : Nat, y = k := ⟨y.toNat, by omega⟩
  obtain ⟨z', rfl⟩ : ∃ k : Nat, z = k := ⟨z.toNat, by omega⟩
  have w1 : IntKind.i64.wrap ((n' : Int) * 8) = ((n' * 2 ^ 3 : Nat) : Int) := by rw [wrap_in (by omega)]; omega
  have w2 : IntKind.i64.wrap ((y' : Int) * 1024) = ((y' * 2 ^ 10 : Nat) : Int) := by rw [wrap_in (by omega)]; omega
  have w3 : IntKind.i64.wrap ((z' : Int) * 4294967296) = ((z' * 2 ^ 32 : Nat) : Int) := by rw [wrap_in (by omega)]; omega
  have key : ∀ L : Nat, L < 8 -> orI (orI (orI (L : Int) (IntKind.i64.wrap ((n' : Int) * 8))) (IntKind.i64.wrap ((y' : Int) * 1024))) (IntKind.i64.wrap ((z' : Int) * 4294967296)) = ((L + n' * 8 + y' * 1024 + z' * 4294967296 : Nat) : Int) := fun L hL => by
    rw [w1, w2, w3, orI_nat _ _ (by omega) (by omega), or_add 3 L n' (by omega), orI_nat _ _ (by omega) (by omega), or_add 10 _ y' (by omega), orI_nat _ _ (by omega) (by omega), or_add 32 _ z' (by omega)]
  have o1 : ∀ p q : Nat, p < 8 -> q < 8 -> orI (p : Int) (q : Int) = ((p ||| q : Nat) : Int) := fun p q hp hq => orI_nat _ _ (by omega) (by omega)
  unfold packH
  show ∃ L : Nat, _ /\ _ /\ _ /\ _ /\ orI (orI (orI (orI (orI 1 (bif b then 2 else 0)) (bif c then 4 else 0)) _) _) _ = _
  cases b <;> cases c
  . refine ⟨1, by omega, rfl, rfl, rfl, ?_⟩
    have : orI (orI 1 0) 0 = ((1 : Nat) : Int) := by
      have := o1 1 0 (by omega) (by omega); rw [show (1 : Int) = ((1 : Nat) : Int) from rfl, show (0 : Int) = ((0 : Nat) : Int) from rfl, o1 1 0 (by omega) (by omega), show 1 ||| 0 = 1 from rfl, o1 1 0 (by omega) (by omega)]; rfl
    rw [cond_false, cond_false, this]
    exact key 1 (by omega)
  . refine ⟨5, by omega, rfl, rfl, rfl, ?_⟩
    have : orI (orI 1 0) 4 = ((5 : Nat) : Int) := by
      rw [show (1 : Int) = ((1 : Nat) : Int) from rfl, show (0 : Int) = ((0 : Nat) : Int) from rfl, show (4 : Int) = ((4 : Nat) : Int) from rfl, o1 1 0 (by omega) (by omega), show 1 ||| 0 = 1 from rfl, o1 1 4 (by omega) (by omega)]; rfl
    rw [cond_false, cond_true, this]
    exact key 5 (by omega)
  . refine ⟨3, by omega, rfl, rfl, rfl, ?_⟩
    have : orI (orI 1 2) 0 = ((3 : Nat) : Int) := by
      rw [show (1 : Int) = ((1 : Nat) : Int) from rfl, show (0 : Int) = ((0 : Nat) : Int) from rfl, show (2 : Int) = ((2 : Nat) : Int) from rfl, o1 1 2 (by omega) (by omega), show 1 ||| 2 = 3 from rfl, o1 3 0 (by omega) (by omega)]; rfl
    rw [cond_true, cond_false, this]
    exact key 3 (by omega)
  . refine ⟨7, by omega, rfl, rfl, rfl, ?_⟩
    have : orI (orI 1 2) 4 = ((7 : Nat) : Int) := by
      rw [show (1 : Int) = ((1 : Nat) : Int) from rfl, show (4 : Int) = ((4 : Nat) : Int) from rfl, show (2 : Int) = ((2 : Nat) : Int) from rfl, o1 1 2 (by omega) (by omega), show 1 ||| 2 = 3 from rfl, o1 3 4 (by omega) (by omega)]; rfl
    rw [cond_true, cond_true, this]
    exact key 7 (by omega)
theorem and_low (N L k : Nat) (hk : k < 8) (h : N % 8 = L) : N &&& k = L &&& k := by
  have e1 : k = 7 &&& k := by
    have : k = 0 \/ k = 1 \/ k = 2 \/ k = 3 \/ k = 4 \/ k = 5 \/ k = 6 \/ k = 7 := by omega
    rcases this with rfl | rfl | rfl | rfl | rfl | rfl | rfl | rfl <;> rfl
  rw [e1, <- Nat.and_assoc, show N &&& 7 = N % 8 from Nat.and_two_pow_sub_one_eq_mod N 3, h, <- e1]
theorem unp_pack {x : Hd} (hm : mayH x = true) (ha : x.a = true) : unp (packH x) = x := by
  obtain ⟨L, hL, l1, l2, l4, hp⟩ := pack_val hm ha
  obtain ⟨h1, h2, h3, h4, h5, h6⟩ := mayH_in hm ha
  rw [hp]
  obtain ⟨a, b, c, n, y, z⟩ := x
  have ha : a = true := ha
  subst ha
  have h1 : 0 <= n := h1
  have h2 : n <= 63 := h2
  have h3 : 0 <= y := h3
  have h4 : y <= 1048576 := h4
  have h5 : 0 <= z := h5
  have h6 : z <= 1048576 := h6
  have l2 : (L &&& 2 != 0) = b := l2
  have l4 : (L &&& 4 != 0) = c := l4
  obtain ⟨n', rfl⟩ : ∃ k : Nat, n = k := ⟨n.toNat, by omega⟩
  obtain ⟨y', rfl⟩ : ∃ k : Nat, y = k := ⟨y.toNat, by omega⟩
  obtain ⟨z', rfl⟩ : ∃ k : Nat, z = k := ⟨z.toNat, by omega⟩
  simp only [Int.toNat_natCast]
  generalize hN : L + n' * 8 + y' * 1024 + z' * 4294967296 = N
  have hlt : N < 2 ^ 63 := by omega
  have hmod : N % 8 = L := by omega
  have c1 : andI (N : Int) 1 = ((L &&& 1 : Nat) : Int) := by
    rw [show (1 : Int) = ((1 : Nat) : Int) from rfl, andI_nat _ _ hlt (by omega), and_low N L 1 (by omega) hmod]
  have c2 : andI (N : Int) 2 = ((L &&& 2 : Nat) : Int) := by
    rw [show (2 : Int) = ((2 : Nat) : Int) from rfl, andI_nat _ _ hlt (by omega), and_low N L 2 (by omega) hmod]
  have c4 : andI (N : Int) 4 = ((L &&& 4 : Nat) : Int) := by
    rw [show (4 : Int) = ((4 : Nat) : Int) from rfl, andI_nat _ _ hlt (by omega), and_low N L 4 (by omega) hmod]
  have f8 : Int.fdiv (N : Int) 8 = ((N / 8 : Nat) : Int) := by
    rw [Int.fdiv_eq_ediv_of_nonneg _ (by omega)]; omega
  have f10 : Int.fdiv (N : Int) 1024 = ((N / 1024 : Nat) : Int) := by
    rw [Int.fdiv_eq_ediv_of_nonneg _ (by omega)]; omega
  have f32 : Int.fdiv (N : Int) 4294967296 = ((z' : Nat) : Int) := by
    rw [Int.fdiv_eq_ediv_of_nonneg _ (by omega)]; omega
  have d1 : andI ((N / 8 : Nat) : Int) 127 = (n' : Int) := by
    rw [show (127 : Int) = ((127 : Nat) : Int) from rfl, andI_nat _ _ (by omega) (by omega), show (N / 8) &&& 127 = (N / 8) % 128 from Nat.and_two_pow_sub_one_eq_mod _ 7]
    omega
  have d2 : andI ((N / 1024 : Nat) : Int) 4194303 = (y' : Int) := by
    rw [show (4194303 : Int) = ((4194303 : Nat) : Int) from rfl, andI_nat _ _ (by omega) (by omega), show (N / 1024) &&& 4194303 = (N / 1024) % 4194304 from Nat.and_two_pow_sub_one_eq_mod _ 22]
    omega
  have nb : ∀ m : Nat, (((m : Nat) : Int) != 0) = (m != 0) := fun m => by
    cases m with
    | zero => rfl
    | succ m => rw [bne_iff_ne.2 (by omega), bne_iff_ne.2 (by omega)]
  unfold unp
  rw [c1, c2, c4, f8, f10, f32, d1, d2, nb, nb, nb, l1, l2, l4]
  rfl
theorem unpOK_pack {x : Hd} (hm : mayH x = true) (ha : x.a = true) : unpOK (packH x) = true := by
  unfold unpOK
  rw [unp_pack hm ha, hm, beq_self_eq_true]; rfl
end Go.Ab

namespace Go.Ab
open Go
open Go.Proofs
end Go.Ab

namespace Go.Ab
open Go
open Go.Proofs
theorem eat_tails : ∀ (k : Nat) (ps rest : List Pg), eat k ps = some rest -> ∀ j, j < k -> ps[j]? = some (3, 0)
  | 0, _, _, _, _, h => absurd h (by omega)
  | _ + 1, [], _, e, _, _ => by cases e
  | k + 1, (x, y) :: ps, rest, e, j, h => by
    have e : cond (x == 3 && (y == 0 && true)) (eat k ps) none = some rest := e
    cases hq : (x == 3 && (y == 0 && true)) with
    | false => rw [hq] at e; cases e
    | true =>
      rw [hq] at e
      simp only [Bool.and_eq_true, beq_iff_eq, and_true] at hq
      cases j with
      | zero => rw [hq.1, hq.2]; rfl
      | succ j => simpa using eat_tails k ps rest e j (by omega)
theorem large_drop {ps : List Pg} {i : Nat} {n : Int} (hm : may ps = true) (hi : ps[i]? = some (2, n)) : 1 <= n /\ i + n.toNat <= ps.length /\ (∀ j, i < j -> j < i + n.toNat -> ps[j]? = some (3, 0)) /\
    (dropE ps (i : Int)).2.length = ps.length /\ may (dropE ps (i : Int)).2 = true /\ ∀ j, (dropE ps (i : Int)).2[j]? = if i <= j /\ j < i + n.toNat then some (0, 0) else ps[j]? := by
  obtain ⟨b1, b4, hlen⟩ := may_run hm hi
  have h0 := may_go0 hm
  obtain ⟨_, _, rest, he, hr⟩ := mayGo_at h0 hi
  obtain ⟨hr1, hr2⟩ := eat_len _ _ _ he
  have ht := eat_tails _ _ _ he
  obtain ⟨hlt, hg⟩ := List.getElem?_eq_some_iff.1 hi
  have htail : ∀ j, i < j -> j < i + n.toNat -> ps[j]? = some (3, 0) := fun j h1 h2 => by
    have := ht (j - (i + 1)) (by omega)
    rw [List.getElem?_drop, show i + 1 + (j - (i + 1)) = j by omega] at this
    exact this
  have hXl : (ps.take i).length = i := by simp; omega
  have hZ : rest = ps.drop (i + n.toNat) := by
    rw [hr1, List.drop_drop]
    congr 1; omega
  have hY : ps.drop i = (2, n) :: ps.drop (i + 1) := by
    rw [List.drop_eq_getElem_cons hlt, hg]
  have hYs : (ps.drop i).take n.toNat = (2, n) :: (ps.drop (i + 1)).take (n.toNat - 1) := by
    rw [hY, show n.toNat = (n.toNat - 1) + 1 by omega]
    rfl
  have hYl : ((ps.drop i).take n.toNat).length = n.toNat := by simp; omega
  have e1 : ps = ps.take i ++ (ps.drop i).take n.toNat ++ ps.drop (i + n.toNat) := by
    rw [List.append_assoc, <- List.drop_drop, List.take_append_drop, List.take_append_drop]
  have h1 := drop_parts (X := ps.take i) (Y := (ps.drop i).take n.toNat) (Z := ps.drop (i + n.toNat)) (p := (2, n)) hYs (.inr rfl) (by rw [hYl]; show n = _; omega) (by rw [<- e1]; exact hm)
  rw [<- e1, hXl, hYl] at h1
  have hX : mayGo 0 (ps.take i) = some 0 := by
    have e2 : ps = ps.take i ++ (2, n) :: ps.drop (i + 1) := by rw [<- hY, List.take_append_drop]
    rw [e2, mayGo_append] at h0
    replace h0 := bind_some' h0
    obtain ⟨r1, h0, h2⟩ := h0
    have h3 : (cond (!(cond (decide (n >= 1)) (decide (n <= 4)) false)) none (cond (decide (r1 > 0)) none (mayGo (n - 1) (ps.drop (i + 1))))) = some 0 := h2
    have hr1 : ¬ r1 > 0 := fun hq => by
      rw [decide_eq_true hq] at h3
      cases hq2 : (!(cond (decide (n >= 1)) (decide (n <= 4)) false)) with
      | true => rw [hq2] at h3; cases h3
      | false => rw [hq2] at h3; cases h3
    have := mayGo_nonneg (Int.le_refl 0) h0
    have : r1 = 0 := by omega
    subst this
    exact h0
  obtain ⟨l1, l2⟩ := may_len hm
  have hdl : (ps.take i ++ List.replicate n.toNat (0, 0) ++ ps.drop (i + n.toNat)).length = ps.length := by simp; omega
  refine ⟨b1, hlen, htail, ?_, ?_, fun j => ?_⟩
  . rw [h1]; exact hdl
  . rw [h1]
    refine go_may (by rw [hdl]; exact l1) (by rw [hdl]; exact l2) ?_
    exact mayGo_join hX (mayGo_zeros _) (by rw [<- hZ]; exact hr)
  . rw [h1]
    show (ps.take i ++ List.replicate n.toNat (0, 0) ++ ps.drop (i + n.toNat))[j]? = _
    by_cases g1 : j < i
    . rw [if_neg (by omega), List.append_assoc, List.getElem?_append_left (by omega), List.getElem?_take_of_lt g1]
    . by_cases g2 : j < i + n.toNat
      . rw [if_pos ⟨by omega, g2⟩, List.getElem?_append_left (by simp; omega), List.getElem?_append_right (by omega), List.getElem?_replicate, if_pos (by omega)]
      . rw [if_neg (by omega), List.getElem?_append_right (by simp; omega), List.getElem?_drop]
        congr 1
        simp; omega
theorem cells_apart {ps : List Pg} {a e : Int} (ha : roomA ps a > 0) (he : roomA ps e > 0) (hne : e ≠ a) : e < a \/ a + roomA ps a <= e := by
  obtain ⟨hm, a1, a2, a3, p, a4, _, a6⟩ := cell_facts ha
  obtain ⟨_, e1, e2, e3, q, e4, _, e6⟩ := cell_facts he
  rcases a6 with ⟨k2, k3, k4, k5, k6, k7⟩ | ⟨k1, k2, k3, k4, k5⟩
  . obtain ⟨p1, n⟩ := p
    have k2 : p1 = 2 := k2
    subst k2
    obtain ⟨_, _, ht, _⟩ := large_drop hm a4
    by_cases h1 : e < a
    . exact .inl h1
    . by_cases h2 : a + roomA ps a <= e
      . exact .inr h2
      . exfalso
        rw [k4] at h2
        have k4' : roomA ps a = 16 * n := k4
        by_cases h3 : (e / 16 - 1).toNat = (a / 16 - 1).toNat
        . rw [h3, a4] at e4
          injection e4 with e4
          subst e4
          rcases e6 with ⟨_, g, _⟩ | ⟨g, _⟩
          . omega
          . cases g
        . have h2' : ¬ a + 16 * n <= e := h2
          have := ht (e / 16 - 1).toNat (by omega) (by omega)
          rw [e4] at this
          injection this with this
          subst this
          rcases e6 with ⟨g, _⟩ | ⟨g, _⟩ <;> cases g
  . by_cases h1 : e < a
    . exact .inl h1
    . right
      rw [k5]
      by_cases h3 : (e / 16 - 1).toNat = (a / 16 - 1).toNat
      . rw [h3, a4] at e4
        injection e4 with e4
        subst e4
        rcases e6 with ⟨g, _⟩ | ⟨_, _, _, g, _⟩
        . rw [k1] at g; cases g
        . rcases words_val k2 k3 with ⟨_, w⟩ | ⟨_, w⟩ | ⟨_, w⟩ <;> rw [w] at k4 g ⊢ <;> omega
      . rcases words_val k2 k3 with ⟨_, w⟩ | ⟨_, w⟩ | ⟨_, w⟩ <;> rw [w] at k4 ⊢ <;> omega
theorem zero_len {w : List Int} {a n : Int} (h16 : 16 <= a) (hn : 0 <= n) (hl : a - 16 + n <= (w.length : Int)) : (zeroW w a n).length = w.length := by
  unfold zeroW
  exact splice_len _ _ _ (by simp; omega)
theorem zero_get' {w : List Int} {a n : Int} (h16 : 16 <= a) (hn : 0 <= n) (hl : a - 16 + n <= (w.length : Int)) (j : Nat) : (zeroW w a n)[j]? = if (a - 16 <= (j : Int) /\ (j : Int) < a - 16 + n) then some 0 else w[j]? := by
  unfold zeroW splice
  rw [List.length_replicate]
  have ht : (w.take (a - 16).toNat).length = (a - 16).toNat := by simp; omega
  by_cases g1 : j < (a - 16).toNat
  . rw [if_neg (by omega), List.append_assoc, List.getElem?_append_left (by omega), List.getElem?_take_of_lt g1]
  . by_cases g2 : j < (a - 16).toNat + n.toNat
    . rw [if_pos (by omega), List.getElem?_append_left (by simp; omega), List.getElem?_append_right (by omega), List.getElem?_replicate, if_pos (by omega)]
    . rw [if_neg (by omega), List.getElem?_append_right (by simp; omega), List.getElem?_drop]
      congr 1
      simp; omega
end Go.Ab

namespace Go.Ab
open Go
open Go.Proofs
abbrev zeroH (h : Hp) (a : Int) : Hp := { h with w := zeroW h.w a (roomA h.p a) }
def oneL (c a : Int) : Ls := (⟨[], [], []⟩ : Ls).set [a] c.toNat
theorem oneL_get {c a : Int} (h0 : 0 <= c) (h2 : c <= 2) {k : Nat} (hk : k < 3) : (oneL c a).get k = if (k : Int) = c then [a] else [] := by
  unfold oneL
  rw [get_set hk (by omega)]
  by_cases h : k = c.toNat
  . rw [if_pos h, if_pos (by omega)]
  . rw [if_neg h, if_neg (by omega)]
    have : k = 0 \/ k = 1 \/ k = 2 := by omega
    rcases this with rfl | rfl | rfl <;> rfl
theorem push_one (l : Ls) {c : Int} (a : Int) (h0 : 0 <= c) (h2 : c <= 2) : pushL l c [a] = app3 l (oneL c a) := by
  have : c = 0 \/ c = 1 \/ c = 2 := by omega
  rcases this with rfl | rfl | rfl <;> simp [pushL, app3, oneL, Ls.set, Ls.get]
theorem shaped_w {h : Hp} (hs : shapedE h = true) : h.w.length = 16 * h.p.length := by
  simp only [shapedE, Bool.and_eq_true] at hs
  exact Nat.eq_of_beq_eq_true hs.2.2.1
theorem zero_in {h : Hp} {a : Int} (hs : shapedE h = true) (hr : roomA h.p a > 0) : 16 <= a /\ 0 <= roomA h.p a /\ a - 16 + roomA h.p a <= (h.w.length : Int) := by
  have h1 := (room_in hr).1
  have h2 := cell_end hr
  have h3 := shaped_w hs
  omega
theorem word_zero {h : Hp} {a : Int} (hs : shapedE h = true) (hr : roomA h.p a > 0) {e : Int} (h16 : 16 <= e) : wordE (zeroH h a) e = if a <= e /\ e < a + roomA h.p a then 0 else wordE h e := by
  obtain ⟨z1, z2, z3⟩ := zero_in hs hr
  unfold wordE
  rw [List.getD_eq_getElem?_getD, List.getD_eq_getElem?_getD]
  show ((zeroW h.w a (roomA h.p a))[(e - 16).toNat]?).getD 0 = _
  rw [zero_get' z1 z2 z3]
  by_cases g : a <= e /\ e < a + roomA h.p a
  . rw [if_pos g, if_pos (by omega)]; rfl
  . rw [if_neg g, if_neg (by omega)]
theorem word_keep {h : Hp} {a e : Int} (hs : shapedE h = true) (hr : roomA h.p a > 0) (he : roomA h.p e > 0) (hne : e ≠ a) : wordE (zeroH h a) e = wordE h e := by
  rw [word_zero hs hr (room_in he).1, if_neg]
  intro g
  rcases cells_apart hr he hne with g2 | g2 <;> omega
theorem word_gone {h : Hp} {a : Int} (hs : shapedE h = true) (hr : roomA h.p a > 0) : wordE (zeroH h a) a = 0 := by
  rw [word_zero hs hr (room_in hr).1, if_pos (by omega)]
theorem cell_mem {ps : List Pg} {e : Int} : e ∈ cellAs ps ↔ roomA ps e > 0 := by
  have h1 := room_pos ps e
  constructor
  . intro h
    rw [decide_eq_true (show e ∈ (allCs ps).map (·.1) from h)] at h1
    exact of_decide_eq_true h1
  . intro h
    rw [decide_eq_true h] at h1
    exact of_decide_eq_true h1.symm
theorem shaped_zero {h : Hp} {a : Int} (hs : shapedE h = true) (hr : roomA h.p a > 0) : shapedE (zeroH h a) = true := by
  obtain ⟨z1, z2, z3⟩ := zero_in hs hr
  have hl := zero_len (w := h.w) z1 z2 z3
  unfold shapedE at hs ⊢
  show (mayA (zeroW h.w a (roomA h.p a)).length && (may h.p && (Nat.beq (zeroW h.w a (roomA h.p a)).length (16 * h.p.length) && Nat.beq h.c.length ((zeroW h.w a (roomA h.p a)).length / 8)))) = true
  rw [hl]; exact hs
theorem MayF.zero {h : Hp} {ls : List Ls} (hm : MayF h ls) {a c : Int} (hr : roomA h.p a > 0) (hp : pageE h a = (1, c)) (hc0 : 0 <= c) (hc2 : c <= 2) (hw : wordE h a ≠ 0) : MayF (zeroH h a) (oneL c a :: ls) := by
  have hk : ∀ k : Nat, k < 3 -> ∀ l ∈ h.f :: ls, ∀ e ∈ l.get k, e ≠ a := fun k hk l hl e he h1 => by
    subst h1
    exact hw (listV_facts (listed_iff.1 (hm.li l hl) k hk e he)).2.2
  have hlv : ∀ l ∈ h.f :: ls, listedV (zeroH h a) l = true := fun l hl => listed_iff.2 fun k hk' e he => by
    have h1 := listed_iff.1 (hm.li l hl) k hk' e he
    have h2 := word_keep hm.sh hr (listV_facts h1).1 (hk k hk' l hl e he)
    unfold listV at h1 ⊢
    rw [h2]; exact h1
  refine ⟨shaped_zero hm.sh hr, fun l hl => ?_, fun e he => ?_, ?_⟩
  . rcases List.mem_cons.1 hl with rfl | hl
    . exact hlv h.f (by simp)
    . rcases List.mem_cons.1 hl with rfl | hl
      . refine listed_iff.2 fun k hk' e he => ?_
        rw [oneL_get hc0 hc2 hk'] at he
        by_cases hkc : (k : Int) = c
        . rw [if_pos hkc] at he
          have he := List.mem_singleton.1 he
          subst he
          unfold listV
          rw [word_gone hm.sh hr]
          show (decide (roomA h.p e > 0) && (((pageE h e).1 == 1 && (pageE h e).2 == (k : Int)) && (0 : Int) == 0)) = true
          rw [decide_eq_true hr, hp, hkc]
          simp
        . rw [if_neg hkc] at he; cases he
      . exact hlv l (by simp [hl])
  . have he' : roomA h.p e > 0 := cell_mem.1 he
    by_cases h1 : e = a
    . subst h1
      unfold mayV
      rw [word_gone hm.sh hr]
      show (unpOK 0 && bif (unp 0).a then fitsE (pageE h e) (unp 0).x else (pageE h e).1 == 1) = true
      rw [hp]; rfl
    . have := hm.ce e (cell_mem.2 he')
      unfold mayV at this ⊢
      rw [word_keep hm.sh hr he' h1]; exact this
  . have hnd := hm.nd
    rw [catI_cons] at hnd
    show (catI (h.f :: oneL c a :: ls)).Nodup
    rw [catI_cons, catI_cons]
    have ho : one3 (oneL c a) = [a] := by
      have : c = 0 \/ c = 1 \/ c = 2 := by omega
      rcases this with rfl | rfl | rfl <;> rfl
    rw [ho]
    have hp2 : (one3 h.f ++ ([a] ++ catI ls)).Perm ([a] ++ (one3 h.f ++ catI ls)) := swp _ _ _
    rw [hp2.nodup_iff, List.singleton_append, List.nodup_cons]
    refine ⟨fun hin => ?_, hnd⟩
    rcases List.mem_append.1 hin with hin | hin
    . obtain ⟨k, hk', he⟩ := one3_mem.1 hin
      exact hk k hk' h.f (by simp) a he rfl
    . obtain ⟨l, hl, he⟩ := List.mem_flatMap.1 hin
      obtain ⟨k, hk', he⟩ := one3_mem.1 he
      exact hk k hk' l (by simp [hl]) a he rfl
theorem MayF.absorb {h : Hp} {a : Ls} {ls : List Ls} (hm : MayF h (a :: ls)) : MayF (addF h a) ls := by
  refine ⟨hm.sh, fun l hl => ?_, hm.ce, ?_⟩
  . rcases List.mem_cons.1 hl with rfl | hl
    . refine listed_iff.2 fun k hk e he => ?_
      have he : e ∈ (app3 h.f a).get k := he
      rw [app3_get] at he
      rcases List.mem_append.1 he with h1 | h1
      . exact listed_iff.1 (hm.li h.f (by simp)) k hk e h1
      . exact listed_iff.1 (hm.li a (by simp)) k hk e h1
    . exact hm.li l (by simp [hl])
  . have hnd := hm.nd
    rw [catI_cons, catI_cons, <- List.append_assoc] at hnd
    show (catI (app3 h.f a :: ls)).Nodup
    rw [catI_cons]
    exact ((one3_app h.f a).append_right (catI ls)).nodup_iff.2 hnd
def Ls.e : Ls := ⟨[], [], []⟩
theorem MayF.nil {h : Hp} {ls : List Ls} (hm : MayF h ls) : MayF h (Ls.e :: ls) := by
  refine ⟨hm.sh, fun l hl => ?_, hm.ce, ?_⟩
  . rcases List.mem_cons.1 hl with rfl | hl
    . exact hm.li _ (by simp)
    . rcases List.mem_cons.1 hl with rfl | hl
      . rfl
      . exact hm.li l (by simp [hl])
  . have hnd := hm.nd
    rw [catI_cons] at hnd ⊢
    exact hnd
theorem addF_nil (h : Hp) : addF h Ls.e = h := by
  obtain ⟨w, p, ⟨a, b, c⟩, d⟩ := h
  simp [addF, app3, Ls.e]
theorem MayF.alone0 {h : Hp} {ls : List Ls} (hm : MayF h ls) {l : Ls} (hl : l ∈ ls) {k : Nat} (hk : k < 3) {e : Int} (he : e ∈ l.get k) {j : Nat} (hj : e / 16 - 1 = (j : Int)) : hitE h j = false := by
  have := hm.nil.alone hl hk he hj
  rwa [addF_nil] at this
structure Gone (h x : Hp) (D : Nat -> Bool) : Prop where
  w : x.w = h.w
  c : x.c = h.c
  m : may x.p = true
  l : x.p.length = h.p.length
  p : ∀ j, x.p[j]? = if D j = true then some (0, 0) else h.p[j]?
  f : ∀ k, k < 3 -> x.f.get k = (h.f.get k).filter fun e => !D (e / 16 - 1).toNat
theorem Gone.same {h x : Hp} {D : Nat -> Bool} (g : Gone h x D) (hm : may h.p = true) {e : Int} (hd : D (e / 16 - 1).toNat = false) : roomA x.p e = roomA h.p e /\ pageE x e = pageE h e /\ wordE x e = wordE h e :=
  same_at g.w g.l (by rw [g.m, hm]) (by rw [g.p, if_neg (by rw [hd]; simp)])
theorem Gone.cell {h x : Hp} {D : Nat -> Bool} (g : Gone h x D) {e : Int} (he : roomA x.p e > 0) : D (e / 16 - 1).toNat = false := by
  cases hd : D (e / 16 - 1).toNat with
  | false => rfl
  | true =>
    obtain ⟨_, _, _, _, p, g4, _, g6⟩ := cell_facts he
    rw [g.p, if_pos hd] at g4
    cases g4
    rcases g6 with ⟨k2, _⟩ | ⟨k1, _⟩
    . cases k2
    . cases k1
theorem MayF.gone {h x : Hp} {D : Nat -> Bool} {ls : List Ls} (hm : MayF h ls) (g : Gone h x D) (hal : ∀ l ∈ ls, ∀ k, k < 3 -> ∀ e ∈ l.get k, D (e / 16 - 1).toNat = false) : MayF x ls := by
  obtain ⟨q1, _, _⟩ := shaped_ne hm.sh
  have hlist : ∀ (k : Nat) (e : Int), listV h k e = true -> D (e / 16 - 1).toNat = false -> listV x k e = true := fun k e hl hd => by
    obtain ⟨r1, r2, r3⟩ := g.same q1 hd
    unfold listV at hl ⊢
    rw [r1, r2, r3]; exact hl
  refine ⟨?_, fun l hl => listed_iff.2 fun k hk e he => ?_, fun c hc => ?_, ?_⟩
  . have h1 := hm.sh
    unfold shapedE at h1 ⊢
    rw [g.w, g.c, g.l, g.m]
    rw [q1] at h1; exact h1
  . rcases List.mem_cons.1 hl with rfl | hl
    . rw [g.f k hk] at he
      obtain ⟨h1, h2⟩ := List.mem_filter.1 he
      exact hlist k e (listed_iff.1 (hm.li h.f (by simp)) k hk e h1) (by simpa using h2)
    . exact hlist k e (listed_iff.1 (hm.li l (by simp [hl])) k hk e he) (hal l hl k hk e he)
  . have h1 := cell_mem.1 hc
    have hd := g.cell h1
    obtain ⟨r1, r2, r3⟩ := g.same q1 hd
    have := hm.ce c (cell_mem.2 (by rw [<- r1]; exact h1))
    unfold mayV at this ⊢
    rw [r2, r3]; exact this
  . have hnd := hm.nd
    rw [catI_cons] at hnd ⊢
    have hg : ∀ k, k < 3 -> (x.f.get k).Sublist (h.f.get k) := fun k hk => by
      rw [g.f k hk]; exact List.filter_sublist
    have hsub : (one3 x.f).Sublist (one3 h.f) := ((hg 0 (by omega)).append (hg 1 (by omega))).append (hg 2 (by omega))
    exact hnd.sublist (hsub.append (List.Sublist.refl _))
theorem back_gone {h : Hp} {ls : List Ls} (hm : MayF h ls) (hk : okW h = true) (i : Nat) : Gone h (backH h i) (fun j => Nat.beq j i && hitE h i) := by
  obtain ⟨b1, b2⟩ := back_ok hk i
  have hmx : may (backH h i).p = true := by
    simp only [okW, Bool.and_eq_true] at b1
    exact b1.1
  cases hh : hitE h i with
  | false =>
    have e : backH h i = h := by unfold backH; rw [hh]; rfl
    rw [e] at hmx ⊢
    refine ⟨rfl, rfl, hmx, rfl, fun j => by simp, fun k _ => ?_⟩
    rw [List.filter_eq_self.2]
    intro x _
    simp
  | true =>
    have e : backH h i = { h with p := h.p.set i (0, 0), f := partL h.f (h.p.getD i (0, 0)).2 (loE i) (loE i + 16) } := by unfold backH; rw [hh]; rfl
    obtain ⟨c, hc, _⟩ := hit_small hh
    simp only [okW, Bool.and_eq_true] at hk
    obtain ⟨_, _, q3⟩ := small_drop hk.1 hc
    have hc3 : c.toNat < 3 := by rcases isC_cases q3 with rfl | rfl | rfl <;> decide
    have hcn : 0 <= c := by rcases isC_cases q3 with rfl | rfl | rfl <;> decide
    have hgd : h.p.getD i (0, 0) = (1, c) := by rw [List.getD_eq_getElem?_getD, hc]; rfl
    refine ⟨by rw [e], by rw [e], hmx, b2, fun j => ?_, fun k hk => ?_⟩
    . rw [e]
      show (h.p.set i (0, 0))[j]? = _
      rw [List.getElem?_set]
      by_cases hj : i = j
      . subst hj
        rw [if_pos rfl, if_pos (List.getElem?_eq_some_iff.1 hc).1, if_pos (by simp)]
      . rw [if_neg hj, if_neg]
        simp only [Bool.and_true, Nat.beq_eq]
        exact fun q => hj q.symm
    . rw [e]
      show (partL h.f (h.p.getD i (0, 0)).2 (loE i) (loE i + 16)).get k = _
      rw [hgd]
      unfold partL
      rw [get_set hk hc3]
      by_cases hkc : k = c.toNat
      . rw [if_pos hkc, <- hkc]
        refine List.filter_congr fun x hx => ?_
        have := listed_iff.1 (hm.li h.f (by simp)) k hk x hx
        obtain ⟨j, hj, _⟩ := listV_at this
        have h1 : (inR (loE i) (loE i + 16) x = true) ↔ (Nat.beq (x / 16 - 1).toNat i && true) = true := by
          rw [inR_iff]
          simp only [Bool.and_true, Nat.beq_eq]
          omega
        rw [Bool.eq_iff_iff.2 h1]
      . rw [if_neg hkc, List.filter_eq_self.2]
        intro x hx
        have := listed_iff.1 (hm.li h.f (by simp)) k hk x hx
        obtain ⟨j, hj, hp, _⟩ := listV_at this
        simp only [Bool.and_true, Bool.not_eq_true', <- Bool.not_eq_true, Nat.beq_eq]
        intro hq
        have : j = i := by omega
        subst this
        rw [hc] at hp
        injection hp with hp
        have := (Prod.mk.inj hp).2
        omega
theorem large_gone {h : Hp} {ls : List Ls} (hm : MayF h ls) {i : Nat} {n : Int} (hi : h.p[i]? = some (2, n)) : Gone h { h with p := (dropE h.p (i : Int)).2 } (fun j => decide (i <= j) && decide (j < i + n.toNat)) := by
  obtain ⟨q1, _, _⟩ := shaped_ne hm.sh
  obtain ⟨n1, _, ht, hl, hmx, hp⟩ := large_drop q1 hi
  refine ⟨rfl, rfl, hmx, hl, fun j => ?_, fun k hk => ?_⟩
  . refine (hp j).trans ?_
    by_cases hj : i <= j /\ j < i + n.toNat
    . rw [if_pos hj, if_pos (by simp [hj])]
    . rw [if_neg hj, if_neg (by simpa using hj)]
  . show h.f.get k = _
    rw [List.filter_eq_self.2]
    intro x hx
    obtain ⟨j, hj, hpj, _⟩ := listV_at (listed_iff.1 (hm.li h.f (by simp)) k hk x hx)
    rw [show (x / 16 - 1).toNat = j by omega]
    by_cases g : i <= j /\ j < i + n.toNat
    . exfalso
      by_cases hij : i = j
      . subst hij; rw [hi] at hpj; cases hpj
      . rw [ht j (by omega) g.2] at hpj; cases hpj
    . rw [Bool.not_eq_true', Bool.and_eq_false_iff, decide_eq_false_iff_not, decide_eq_false_iff_not]
      omega
theorem MayF.words {x : Hp} {ls : List Ls} (hm : MayF x ls) {w : List Int} (hl : w.length = x.w.length) (hw : ∀ e, roomA x.p e > 0 -> wordE { x with w := w } e = wordE x e) : MayF { x with w := w } ls := by
  refine ⟨?_, fun l hl => listed_iff.2 fun k hk e he => ?_, fun e he => ?_, hm.nd⟩
  . have := hm.sh
    unfold shapedE at this ⊢
    show (mayA w.length && (may x.p && (Nat.beq w.length (16 * x.p.length) && Nat.beq x.c.length (w.length / 8)))) = true
    rw [hl]; exact this
  . have h1 := listed_iff.1 (hm.li l hl) k hk e he
    have := hw e (listV_facts h1).1
    unfold listV at h1 ⊢
    rw [this]; exact h1
  . have h1 := hm.ce e he
    have := hw e (cell_mem.1 he)
    unfold mayV at h1 ⊢
    rw [this]; exact h1
end Go.Ab

namespace Go.Ab
open Go
open Go.Proofs
structure Obj (h : Hp) (a : Int) : Prop where
  r : roomA h.p a > 0
  u : (unpX h a).a = true
theorem unp_zero : (bif unpOK 0 then unp 0 else Hd.z0).a = false := by rfl
theorem Obj.w {h : Hp} {a : Int} (o : Obj h a) : wordE h a ≠ 0 := fun e => by
  have := o.u
  unfold unpX at this
  rw [e, unp_zero] at this
  cases this
abbrev pgN (a : Int) : Nat := (a / 16 - 1).toNat
def freeL (h : Hp) (a : Int) : Ls := bif (pageE h a).1 == 2 then h.f else app3 h.f (oneL (pageE h a).2 a)
def freeD (h : Hp) (a : Int) (j : Nat) : Bool := bif (pageE h a).1 == 2 then decide (pgN a <= j) && decide (j < pgN a + (pageE h a).2.toNat) else Nat.beq j (pgN a) && hitE (addF h (oneL (pageE h a).2 a)) (pgN a)
theorem freeL_len (h : Hp) (a : Int) {k : Nat} (hk : k < 3) : ((freeL h a).get k).length <= (h.f.get k).length + 1 := by
  unfold freeL
  cases (pageE h a).1 == 2 with
  | true => show (h.f.get k).length <= _; omega
  | false =>
    show ((app3 h.f (oneL (pageE h a).2 a)).get k).length <= _
    rw [app3_get, List.length_append]
    have : ((oneL (pageE h a).2 a).get k).length <= 1 := by
      unfold oneL
      match (pageE h a).2.toNat with
      | 0 => match k with
        | 0 => exact Nat.le_refl _
        | 1 => exact Nat.zero_le _
        | _ + 2 => exact Nat.zero_le _
      | 1 => match k with
        | 0 => exact Nat.zero_le _
        | 1 => exact Nat.le_refl _
        | _ + 2 => exact Nat.zero_le _
      | _ + 2 => match k with
        | 0 => exact Nat.zero_le _
        | 1 => exact Nat.zero_le _
        | _ + 2 => exact Nat.le_refl _
    omega
theorem obj_page {h : Hp} {a : Int} (hr : roomA h.p a > 0) : ((pgN a : Nat) : Int) = a / 16 - 1 /\ h.p[pgN a]? = some (pageE h a) /\ ((∃ n, pageE h a = (2, n)) \/ ∃ c, pageE h a = (1, c) /\ 0 <= c /\ c <= 2) := by
  obtain ⟨_, _, _, h3, p, h4, h5, h6⟩ := cell_facts hr
  have hp : pageE h a = p := h5
  refine ⟨h3, by rw [hp]; exact h4, ?_⟩
  obtain ⟨x, y⟩ := p
  rcases h6 with ⟨k1, _⟩ | ⟨k1, k2, k3, _⟩
  . have k1 : x = 2 := k1
    exact .inl ⟨y, by rw [hp, k1]⟩
  . have k1 : x = 1 := k1
    exact .inr ⟨y, by rw [hp, k1], k2, k3⟩
theorem free_fin {h : Hp} {ls : List Ls} (hm : MayF h ls) {a : Int} (ho : Obj h a) (hs : smL (freeL h a) = true) :
    MayF (freeH h a) ls /\ (freeH h a).w = zeroW h.w a (roomA h.p a) /\ (freeH h a).c = h.c /\ (freeH h a).p.length = h.p.length /\ may (freeH h a).p = true /\
    (∀ j, (freeH h a).p[j]? = if freeD h a j = true then some (0, 0) else h.p[j]?) /\ (∀ k, k < 3 -> (freeH h a).f.get k = ((freeL h a).get k).filter fun e => !freeD h a (pgN e)) /\
    ∀ e, roomA (freeH h a).p e > 0 -> e ≠ a -> roomA h.p e > 0 /\ freeD h a (pgN e) = false := by
  obtain ⟨p1, p2, p3⟩ := obj_page ho.r
  obtain ⟨z1, z2, z3⟩ := zero_in hm.sh ho.r
  have hzl := zero_len (w := h.w) z1 z2 z3
  obtain ⟨q1, _, _⟩ := shaped_ne hm.sh
  rcases p3 with ⟨n, hn⟩ | ⟨c, hc, c0, c2⟩
  . have e2 : (pageE h a).1 == 2 := by rw [hn]; rfl
    have ex : freeH h a = { h with w := zeroW h.w a (roomA h.p a), p := (dropE h.p ((pgN a : Nat) : Int)).2 } := by unfold freeH; rw [e2]; rfl
    have eL : freeL h a = h.f := by unfold freeL; rw [e2]; rfl
    have eD : ∀ j, freeD h a j = (decide (pgN a <= j) && decide (j < pgN a + n.toNat)) := fun j => by unfold freeD; rw [e2, hn]; rfl
    rw [hn] at p2
    have g := large_gone hm p2
    obtain ⟨n1, n2, ht, _⟩ := large_drop q1 p2
    have hm1 : MayF { h with p := (dropE h.p ((pgN a : Nat) : Int)).2 } ls := hm.gone g fun l hl k hk e he => by
      obtain ⟨j, hj, hpj, _⟩ := listV_at (listed_iff.1 (hm.li l (by simp [hl])) k hk e he)
      rw [show (e / 16 - 1).toNat = j by omega, Bool.and_eq_false_iff, decide_eq_false_iff_not, decide_eq_false_iff_not]
      by_cases gg : pgN a <= j /\ j < pgN a + n.toNat
      . exfalso
        by_cases hij : pgN a = j
        . rw [<- hij, p2] at hpj; cases hpj
        . rw [ht j (by omega) gg.2] at hpj; cases hpj
      . omega
    have hcell : ∀ e, roomA (dropE h.p ((pgN a : Nat) : Int)).2 e > 0 -> e ≠ a /\ roomA h.p e > 0 /\ freeD h a (pgN e) = false := fun e he => by
      have hd := g.cell (e := e) he
      obtain ⟨r1, _, _⟩ := g.same q1 (e := e) hd
      refine ⟨fun hq => ?_, by rw [<- r1]; exact he, by rw [eD]; exact hd⟩
      subst hq
      have hd : (decide (pgN e <= pgN e) && decide (pgN e < pgN e + n.toNat)) = false := hd
      rw [decide_eq_true (Nat.le_refl _), decide_eq_true (by omega)] at hd
      cases hd
    have hm2 : MayF { h with w := zeroW h.w a (roomA h.p a), p := (dropE h.p ((pgN a : Nat) : Int)).2 } ls := hm1.words (w := zeroW h.w a (roomA h.p a)) hzl fun e he => by
      obtain ⟨g1, g2, _⟩ := hcell e he
      exact word_keep hm.sh ho.r g2 g1
    rw [ex, eL]
    refine ⟨hm2, rfl, rfl, g.l, g.m, fun j => ?_, fun k hk => ?_, fun e he _ => (hcell e he).2⟩
    . rw [eD]; exact g.p j
    . refine (g.f k hk).trans (List.filter_congr fun x _ => ?_)
      rw [eD]
  . have e2 : ((pageE h a).1 == 2) = false := by rw [hc]; rfl
    have eL : freeL h a = app3 h.f (oneL c a) := by unfold freeL; rw [e2, hc]; rfl
    have eD : ∀ j, freeD h a j = (Nat.beq j (pgN a) && hitE (addF h (oneL c a)) (pgN a)) := fun j => by unfold freeD; rw [e2, hc]; rfl
    have ex : freeH h a = backH (addF (zeroH h a) (oneL c a)) (pgN a) := by
      unfold freeH
      rw [e2, hc, push_one _ _ c0 c2]; rfl
    rw [eL] at hs
    have hm0 : MayF (addF (zeroH h a) (oneL c a)) ls := (hm.zero ho.r hc c0 c2 ho.w).absorb
    have hk : okW (addF (zeroH h a) (oneL c a)) = true := by
      show (may h.p && smL (app3 h.f (oneL c a))) = true
      rw [q1, hs]; rfl
    have g := back_gone hm0 hk (pgN a)
    rw [ex, eL]
    refine ⟨hm0.gone g fun l hl k hk' e he => ?_, g.w, g.c, g.l, g.m, fun j => ?_, fun k hk' => ?_, fun e he hne => ?_⟩
    . obtain ⟨j, hj, _⟩ := listV_at (listed_iff.1 (hm0.li l (by simp [hl])) k hk' e he)
      have := hm0.alone0 hl hk' he hj
      rw [show (e / 16 - 1).toNat = j by omega]
      cases hb : Nat.beq j (pgN a) with
      | false => rfl
      | true =>
        rw [<- Nat.eq_of_beq_eq_true hb, this]; rfl
    . rw [eD]; exact g.p j
    . refine (g.f k hk').trans (List.filter_congr fun x _ => ?_)
      rw [eD]; rfl
    . have hd := g.cell he
      obtain ⟨r1, _, _⟩ := g.same q1 (e := e) hd
      refine ⟨by rw [r1] at he; exact he, ?_⟩
      rw [eD]; exact hd
theorem free_stays {h : Hp} (hm : MayF h []) {a b : Int} (ha : Obj h a) (hr : roomA h.p b > 0) (hw : wordE h b ≠ 0) (hne : b ≠ a) : freeD h a (pgN b) = false := by
  obtain ⟨p1, p2, p3⟩ := obj_page ha.r
  obtain ⟨t1, t2, t3⟩ := obj_page hr
  obtain ⟨q1, _, _⟩ := shaped_ne hm.sh
  rcases p3 with ⟨n, hn⟩ | ⟨c, hc, c0, c2⟩
  . unfold freeD
    rw [hn] at p2 ⊢
    obtain ⟨n1, n2, ht, _⟩ := large_drop q1 p2
    show (decide (pgN a <= pgN b) && decide (pgN b < pgN a + n.toNat)) = false
    rw [Bool.and_eq_false_iff, decide_eq_false_iff_not, decide_eq_false_iff_not]
    by_cases gg : pgN a <= pgN b /\ pgN b < pgN a + n.toNat
    . exfalso
      obtain ⟨_, _, _, _, p, h4, _, h6⟩ := cell_facts hr
      obtain ⟨_, _, _, _, p', h4', _, h6'⟩ := cell_facts ha.r
      have h4 : h.p[pgN b]? = some p := h4
      have h4' : h.p[pgN a]? = some p' := h4'
      by_cases hij : pgN a = pgN b
      . rw [<- hij, p2] at h4
        rw [p2] at h4'
        cases h4
        cases h4'
        rcases h6 with ⟨_, g, _⟩ | ⟨g, _⟩
        . rcases h6' with ⟨_, g', _⟩ | ⟨g', _⟩
          . omega
          . cases g'
        . cases g
      . rw [ht _ (by omega) gg.2] at h4
        cases h4
        rcases h6 with ⟨g, _⟩ | ⟨g, _⟩ <;> cases g
    . omega
  . unfold freeD
    rw [hc]
    show (Nat.beq (pgN b) (pgN a) && hitE (addF h (oneL c a)) (pgN a)) = false
    cases hb : Nat.beq (pgN b) (pgN a) with
    | false => rfl
    | true =>
      have hb := Nat.eq_of_beq_eq_true hb
      have hpb : pageE h b = (1, c) := by
        rw [hb, p2, hc] at t2
        exact (Option.some.inj t2).symm
      have m1 : MayF (zeroH h b) [oneL c b] := hm.zero hr hpb c0 c2 hw
      have hwa : wordE (zeroH h b) a ≠ 0 := by
        rw [word_keep hm.sh hr ha.r hne.symm]; exact ha.w
      have m2 : MayF (zeroH (zeroH h b) a) (oneL c a :: [oneL c b]) := m1.zero (h := zeroH h b) ha.r hc c0 c2 hwa
      have := m2.alone (l := oneL c b) (by simp) (k := c.toNat) (by omega) (e := b) (by
        rw [oneL_get c0 c2 (by omega), if_pos (by omega)]; simp) (j := pgN a) (by rw [<- hb]; omega)
      rw [Bool.true_and]
      exact this
end Go.Ab

namespace Go.Ab
open Go
open Go.Proofs
theorem free_same {h : Hp} {ls : List Ls} (hm : MayF h ls) {a : Int} (ho : Obj h a) (hs : smL (freeL h a) = true) {e : Int} (he : roomA h.p e > 0) (hne : e ≠ a) (hd : freeD h a (pgN e) = false) :
    roomA (freeH h a).p e = roomA h.p e /\ pageE (freeH h a) e = pageE h e /\ wordE (freeH h a) e = wordE h e := by
  obtain ⟨f1, f2, f3, f4, f5, f6, f7, f8⟩ := free_fin hm ho hs
  obtain ⟨q1, _, _⟩ := shaped_ne hm.sh
  have h2 : (freeH h a).p[(e / 16 - 1).toNat]? = h.p[(e / 16 - 1).toNat]? := by
    rw [f6, if_neg]
    show ¬ freeD h a (pgN e) = true
    rw [hd]; simp
  have hg : (freeH h a).p.getD (e / 16 - 1).toNat (0, 0) = h.p.getD (e / 16 - 1).toNat (0, 0) := by rw [List.getD_eq_getElem?_getD, List.getD_eq_getElem?_getD, h2]
  refine ⟨?_, hg, ?_⟩
  . rw [roomA_doc, roomA_doc, f5, q1, f4, hg]
  . have : wordE (freeH h a) e = wordE (zeroH h a) e := by unfold wordE; rw [f2]
    rw [this, word_keep hm.sh ho.r he hne]
section
variable {h : Hp} {a b : Int}
end
end Go.Ab

namespace Go.Ab
open Go
open Go.Proofs
theorem head_none {h : Hp} {a : Int} (hm : MayF h []) (hw : wordE h a = 0) : (headE h a).2 = 3 := by
  unfold headE
  rw [mayF_iff.2 hm]
  have hu : (unpX h a).a = false := by unfold unpX; rw [hw]; rfl
  rw [hu]
  cases roomA h.p a == 0 <;> rfl
theorem head_obj {h : Hp} {a : Int} (hm : MayF h []) (ho : Obj h a) : headE h a = (unpX h a, 0) := by
  unfold headE
  rw [mayF_iff.2 hm, ho.u, roomN, decide_eq_true ho.r]; rfl
theorem freeHE_obj {h : Hp} {a : Int} (hm : MayF h []) (ho : Obj h a) : freeHE h a = (freeH h a, 0) := by
  unfold freeHE; rw [head_obj hm ho]; rfl
def lenF (h : Hp) (n : Nat) : Prop := ∀ k, k < 3 -> (h.f.get k).length <= n
theorem lenF.smL {h : Hp} {n : Nat} (hl : lenF h n) (hn : n <= 90000) : smL h.f = true /\ smL1 h.f = true /\ smLs [h.f] = true := by
  have h1 := hl 0 (by omega)
  have h2 := hl 1 (by omega)
  have h3 := hl 2 (by omega)
  have h1 : h.f.a.length <= n := h1
  have h2 : h.f.b.length <= n := h2
  have h3 : h.f.c.length <= n := h3
  have e : Go.Ab.smL h.f = true := smL_len (by omega) (by omega) (by omega)
  refine ⟨e, ?_, by simp [smLs, e]⟩
  simp only [smL1, Nat.ble_eq_true_of_le (show h.f.a.length <= 90000 by omega), Nat.ble_eq_true_of_le (show h.f.b.length <= 90000 by omega), Nat.ble_eq_true_of_le (show h.f.c.length <= 90000 by omega), Bool.and_self]
theorem lenF.freeL {h : Hp} {n : Nat} (hl : lenF h n) (hn : n + 1 <= 90000) (a : Int) : Go.Ab.smL (Go.Ab.freeL h a) = true := by
  have h1 := freeL_len h a (k := 0) (by omega)
  have h2 := freeL_len h a (k := 1) (by omega)
  have h3 := freeL_len h a (k := 2) (by omega)
  have g1 := hl 0 (by omega)
  have g2 := hl 1 (by omega)
  have g3 := hl 2 (by omega)
  exact smL_len (Nat.le_trans h1 (by omega)) (Nat.le_trans h2 (by omega)) (Nat.le_trans h3 (by omega))
theorem lenF.free {h : Hp} {n : Nat} (hl : lenF h n) (hn : n + 1 <= 90000) {ls : List Ls} (hm : MayF h ls) {a : Int} (ho : Obj h a) : lenF (freeH h a) (n + 1) := fun k hk => by
  obtain ⟨_, _, _, _, _, _, f7, _⟩ := free_fin hm ho (hl.freeL hn a)
  rw [f7 k hk]
  refine Nat.le_trans (List.length_filter_le _ _) ?_
  have h1 := freeL_len h a hk
  have h2 := hl k hk
  omega
structure Few (h : Hp) (n : Nat) : Prop where
  w : h.w.length <= 130
  p : h.p.length <= 9
  c : h.c.length <= 20
  f : lenF h n
theorem Few.sm {h : Hp} {n : Nat} (hf : Few h n) (hn : n <= 90000) : smH h = true /\ smL1 h.f = true /\ smLs [h.f] = true /\ Go.Ab.sm h.p = true := by
  obtain ⟨h1, h2, h3⟩ := hf.f.smL hn
  have := hf.w
  have := hf.p
  have := hf.c
  exact ⟨smH_of (by omega) (by omega) (by omega) h1, h2, h3, sm_of (by omega)⟩
theorem Few.free {h : Hp} {n : Nat} (hf : Few h n) (hn : n + 1 <= 90000) {ls : List Ls} (hm : MayF h ls) {a : Int} (ho : Obj h a) : Few (freeH h a) (n + 1) := by
  obtain ⟨_, f2, f3, f4, _⟩ := free_fin hm ho (hf.f.freeL hn a)
  obtain ⟨z1, z2, z3⟩ := zero_in hm.sh ho.r
  have := zero_len (w := h.w) z1 z2 z3
  exact ⟨by rw [f2, this]; exact hf.w, by rw [f4]; exact hf.p, by rw [f3]; exact hf.c, hf.f.free hn hm ho⟩
theorem few_of {h : Hp} {ls : List Ls} (hf : fewV h ls = true) : Few h 70 /\ smLs (h.f :: ls) = true /\ (∀ l ∈ ls, lightV l = true) /\ ls.length <= 4 := by
  obtain ⟨w1, w2, w3, w4, w5, w6⟩ := few_le hf
  refine ⟨⟨w1, w2, w3, light_get w4⟩, ?_, w5, w6⟩
  unfold smLs
  rw [Nat.ble_eq_true_of_le (by simp; omega), Bool.true_and, List.all_eq_true]
  intro l hl
  rcases List.mem_cons.1 hl with rfl | hl
  . exact light_sm w4
  . exact light_sm (w5 l hl)
theorem MayF.none {h : Hp} {ls : List Ls} (hm : MayF h ls) : MayF h [] := by
  refine ⟨hm.sh, fun l hl => hm.li l (by simp only [List.mem_cons, List.not_mem_nil, or_false] at hl ⊢; exact .inl hl), hm.ce, ?_⟩
  have hnd := hm.nd
  rw [catI_cons] at hnd ⊢
  exact hnd.sublist (List.Sublist.append (List.Sublist.refl _) (List.nil_sublist _))
end Go.Ab

namespace Go.Ab
open Go
open Go.Proofs
theorem whole_iff {h : Hp} {ls : List Ls} : wholeHV h ls = true ↔ MayF h ls /\ ∀ c, roomA h.p c > 0 -> wordE h c = 0 -> c ∈ catI (h.f :: ls) := by
  unfold wholeHV
  rw [Bool.and_eq_true, mayF_iff, List.all_eq_true]
  constructor
  . rintro ⟨h1, h2⟩
    refine ⟨h1, fun c hc hw => ?_⟩
    have := h2 c (cell_mem.2 hc)
    rw [hw] at this
    simpa using this
  . rintro ⟨h1, h2⟩
    refine ⟨h1, fun c hc => ?_⟩
    have := h2 c (cell_mem.1 hc)
    cases hw : wordE h c != 0 with
    | true => rfl
    | false =>
      have := this (by simpa using hw)
      simpa using this
theorem free_cell {h : Hp} {ls : List Ls} (hm : MayF h ls) {a : Int} (ho : Obj h a) (hs : smL (freeL h a) = true) {e : Int} (he : roomA (freeH h a).p e > 0) : freeD h a (pgN e) = false := by
  obtain ⟨_, _, _, _, _, f6, _⟩ := free_fin hm ho hs
  cases hd : freeD h a (pgN e) with
  | false => rfl
  | true =>
    obtain ⟨_, _, _, _, p, g4, _, g6⟩ := cell_facts he
    have g4 : (freeH h a).p[pgN e]? = some p := g4
    rw [f6, if_pos hd] at g4
    cases g4
    rcases g6 with ⟨k2, _⟩ | ⟨k1, _⟩
    . cases k2
    . cases k1
theorem cat_mem {ls : List Ls} {e : Int} : e ∈ catI ls ↔ ∃ l ∈ ls, ∃ k, k < 3 /\ e ∈ l.get k := by
  unfold catI
  rw [List.mem_flatMap]
  constructor
  . rintro ⟨l, hl, he⟩; exact ⟨l, hl, one3_mem.1 he⟩
  . rintro ⟨l, hl, he⟩; exact ⟨l, hl, one3_mem.2 he⟩
theorem whole_free {h : Hp} {ls : List Ls} (hw : wholeHV h ls = true) {a : Int} (ho : Obj h a) (hs : smL (freeL h a) = true) : wholeHV (freeH h a) ls = true := by
  obtain ⟨hm, hc⟩ := whole_iff.1 hw
  obtain ⟨f1, f2, f3, f4, f5, f6, f7, f8⟩ := free_fin hm ho hs
  refine whole_iff.2 ⟨f1, fun c hr hz => ?_⟩
  have hd := free_cell hm ho hs hr
  have hin : ∀ k, k < 3 -> c ∈ (freeL h a).get k -> c ∈ catI ((freeH h a).f :: ls) := fun k hk hck => by
    refine cat_mem.2 ⟨_, List.mem_cons_self, k, hk, ?_⟩
    rw [f7 k hk, List.mem_filter]
    exact ⟨hck, by rw [hd]; rfl⟩
  by_cases hca : c = a
  . subst hca
    obtain ⟨p1, p2, p3⟩ := obj_page ho.r
    rcases p3 with ⟨n, hn⟩ | ⟨d, hd', d0, d2⟩
    . exfalso
      obtain ⟨q1, _, _⟩ := shaped_ne hm.sh
      rw [hn] at p2
      obtain ⟨n1, _⟩ := large_drop q1 p2
      unfold freeD at hd
      rw [hn] at hd
      have hd : (decide (pgN c <= pgN c) && decide (pgN c < pgN c + n.toNat)) = false := hd
      rw [decide_eq_true (Nat.le_refl _), decide_eq_true (by omega)] at hd
      cases hd
    . refine hin d.toNat (by omega) ?_
      unfold freeL
      rw [hd']
      show c ∈ (app3 h.f (oneL d c)).get d.toNat
      rw [app3_get, oneL_get d0 d2 (by omega), if_pos (by omega)]
      simp
  . obtain ⟨g1, _⟩ := f8 c hr hca
    obtain ⟨_, _, r3⟩ := free_same hm ho hs g1 hca hd
    rw [r3] at hz
    obtain ⟨l, hl, k, hk, he⟩ := cat_mem.1 (hc c g1 hz)
    rcases List.mem_cons.1 hl with rfl | hl
    . refine hin k hk ?_
      unfold freeL
      cases (pageE h a).1 == 2 with
      | true => exact he
      | false =>
        show c ∈ (app3 h.f _).get k
        rw [app3_get]
        exact List.mem_append_left _ he
    . exact cat_mem.2 ⟨l, List.mem_cons_of_mem _ hl, k, hk, he⟩
theorem rises_ext {lo : Int} {n : Nat} {xs ys : List Int} (hx : rises lo (lo + n) xs) (hy : rises lo (lo + n) ys) (h : ∀ e, e ∈ xs ↔ e ∈ ys) : xs = ys := by
  rw [<- filter_rises n lo xs hx, <- filter_rises n lo ys hy]
  refine List.filter_congr fun e _ => ?_
  simp only [h e]
theorem rises_filter {q : Int -> Bool} : ∀ {xs : List Int} {lo hi : Int}, rises lo hi xs -> rises lo hi (xs.filter q)
  | [], _, _, h => h
  | x :: xs, lo, hi, h => by
    obtain ⟨h1, h2, h3⟩ := h
    rw [List.filter_cons]
    cases q x with
    | true => exact ⟨h1, h2, rises_filter h3⟩
    | false => exact rises_mono (by omega) (rises_filter h3)
theorem rises_nodup : ∀ {xs : List Int} {lo hi : Int}, rises lo hi xs -> xs.Nodup
  | [], _, _, _ => List.nodup_nil
  | x :: xs, lo, hi, h => by
    obtain ⟨h1, h2, h3⟩ := h
    refine List.nodup_cons.2 ⟨fun hin => ?_, rises_nodup h3⟩
    have := (rises_mem h3 x hin).1
    omega
theorem used_mem {h : Hp} (hm : MayF h []) {e : Int} : e ∈ usedE h ↔ roomA h.p e > 0 /\ wordE h e ≠ 0 := by
  unfold usedE
  rw [mayF_iff.2 hm]
  show e ∈ (cellAs h.p).filter _ ↔ _
  rw [List.mem_filter, cell_mem]
  unfold usedV
  simp
theorem used_rises {h : Hp} : rises 16 (16 + (16 * h.p.length : Nat)) (usedE h) := by
  unfold usedE
  cases mayHpV h [] with
  | false => trivial
  | true => exact rises_filter (allCs_rises h.p)
theorem used_but {h x : Hp} (hm : MayF h []) (hx : MayF x []) (hl : x.p.length = h.p.length) {a : Int} (h1 : ∀ e, (roomA x.p e > 0 /\ wordE x e ≠ 0) ↔ (roomA h.p e > 0 /\ wordE h e ≠ 0) /\ e ≠ a) : usedE x = (usedE h).filter fun e => e != a := by
  have hr := used_rises (h := x)
  rw [hl] at hr
  refine rises_ext hr (rises_filter used_rises) fun e => ?_
  rw [used_mem hx, List.mem_filter, used_mem hm, h1 e]
  simp
theorem filter_one {a : Int} : ∀ {xs : List Int}, xs.Nodup -> a ∈ xs -> (xs.filter fun e => e != a).length + 1 = xs.length
  | [], _, h => by cases h
  | x :: xs, hn, h => by
    obtain ⟨h1, h2⟩ := List.nodup_cons.1 hn
    rw [List.filter_cons]
    by_cases hx : x = a
    . subst hx
      rw [if_neg (by simp), List.filter_eq_self.2]
      . rfl
      . intro e he
        simp only [bne_iff_ne]
        intro hq
        exact h1 (hq ▸ he)
    . rw [if_pos (by simpa using hx)]
      have := filter_one h2 (by rcases List.mem_cons.1 h with h | h; exact absurd h.symm hx; exact h)
      simp only [List.length_cons]
      omega
theorem used_free {h : Hp} (hm : MayF h []) {a : Int} (ho : Obj h a) (hs : smL (freeL h a) = true) : (usedE (freeH h a)).length + 1 = (usedE h).length := by
  obtain ⟨f1, f2, f3, f4, f5, f6, f7, f8⟩ := free_fin hm ho hs
  have hza : wordE (freeH h a) a = 0 := by
    have : wordE (freeH h a) a = wordE (zeroH h a) a := by unfold wordE; rw [f2]
    rw [this, word_gone hm.sh ho.r]
  rw [used_but hm f1 f4 (a := a) fun e => ?_]
  . exact filter_one (rises_nodup used_rises) ((used_mem hm).2 ⟨ho.r, ho.w⟩)
  . constructor
    . rintro ⟨g1, g2⟩
      have hne : e ≠ a := fun q => by rw [q] at g2; exact g2 hza
      obtain ⟨g3, g4⟩ := f8 e g1 hne
      obtain ⟨_, _, r3⟩ := free_same hm ho hs g3 hne g4
      exact ⟨⟨g3, by rw [<- r3]; exact g2⟩, hne⟩
    . rintro ⟨⟨g1, g2⟩, hne⟩
      obtain ⟨r1, _, r3⟩ := free_same hm ho hs g1 hne (free_stays hm ho g1 g2 hne)
      exact ⟨by rw [r1]; exact g1, by rw [r3]; exact g2⟩
theorem eqR_of {s : HH} {u : Int} : ∀ (m j : Nat), (∀ i, j <= i -> i < j + m -> s.k.w.getD (u + (i : Int) - 16).toNat 0 = s.h.w.getD (u + (i : Int) - 16).toNat 0) -> eqR s u m j = true
  | 0, _, _ => rfl
  | m + 1, j, h => by
    unfold eqR
    rw [h j (by omega) (by omega), bne_self_eq_false, cond_false]
    exact eqR_of m (j + 1) fun i h1 h2 => h i (by omega) (by omega)
theorem keptR_of {s : HH} {a : Int} : ∀ (us : List Int), (∀ u ∈ us, u ≠ a -> roomA s.k.p u = roomA s.h.p u /\ eqR s u (roomA s.h.p u).toNat 0 = true) -> keptR s a us = true
  | [], _ => rfl
  | u :: us, h => by
    unfold keptR
    have ih := keptR_of us fun v hv => h v (List.mem_cons_of_mem _ hv)
    cases hu : u == a with
    | true => exact ih
    | false =>
      obtain ⟨g1, g2⟩ := h u List.mem_cons_self (by simpa using hu)
      rw [g1, bne_self_eq_false, g2, ih]; rfl
theorem keptV_of {h k : Hp} (hm : MayF h []) (hw : k.w.length = h.w.length) {a : Int} (h1 : ∀ u, roomA h.p u > 0 -> wordE h u ≠ 0 -> u ≠ a -> roomA k.p u = roomA h.p u /\ eqR ⟨h, k⟩ u (roomA h.p u).toNat 0 = true) : keptV h k a = true := by
  unfold keptV
  rw [hw, bne_self_eq_false, cond_false]
  exact keptR_of (s := ⟨h, k⟩) _ fun u hu hne => h1 u ((used_mem hm).1 hu).1 ((used_mem hm).1 hu).2 hne
end Go.Ab

namespace Go.Ab
open Go
open Go.Proofs
end Go.Ab

namespace Go.Ab
open Go
open Go.Proofs
theorem findF_some {ps : List Pg} {n : Nat} : ∀ {m a b : Nat}, findF ps n m a = some b -> a <= b /\ b < a + m /\ all0 ((ps.drop b).take n) = true /\ ∀ j, a <= j -> j < b -> all0 ((ps.drop j).take n) = false
  | 0, _, _, h => by cases h
  | m + 1, a, b, h => by
    unfold findF at h
    cases h0 : all0 ((ps.drop a).take n) with
    | true =>
      rw [h0] at h
      cases h
      exact ⟨Nat.le_refl _, by omega, h0, fun j h1 h2 => by omega⟩
    | false =>
      rw [h0] at h
      obtain ⟨h1, h2, h3, h4⟩ := findF_some (m := m) h
      refine ⟨by omega, by omega, h3, fun j g1 g2 => ?_⟩
      by_cases hj : j = a
      . rw [hj]; exact h0
      . exact h4 j (by omega) g2
theorem all0_free : ∀ (n : Nat) (l : List Pg), n <= l.length -> all0 (l.take n) = allFree n l
  | 0, _, _ => rfl
  | n + 1, [], h => by simp at h
  | n + 1, p :: l, h => by
    have := all0_free n l (by simpa using h)
    show (p.1 == 0 && all0 (l.take n)) = cond (p.1 == 0) (allFree n l) false
    rw [this]
    cases p.1 == 0 <;> rfl
theorem find_parts {ps : List Pg} {n : Int} {at' : Nat} (hf : findE ps n = some at') : may ps = true /\ 1 <= n /\ n <= 4 /\ ∃ X Z, ps = X ++ List.replicate n.toNat (0, 0) ++ Z /\ X.length = at' /\ mayGo 0 X = some 0 /\ mayGo 0 Z = some 0 := by
  unfold findE at hf
  cases hm : may ps with
  | false => rw [hm] at hf; cases hf
  | true =>
    cases hn : in3 n 1 4 with
    | false => rw [hm, hn] at hf; cases hf
    | true =>
      rw [hm, hn] at hf
      obtain ⟨n1, n4⟩ := in3_iff.1 hn
      have hf : findF ps n.toNat (ps.length + 1 - n.toNat) 0 = some at' := hf
      obtain ⟨_, h2, h3, _⟩ := findF_some hf
      rw [all0_free _ _ (by rw [List.length_drop]; omega)] at h3
      exact ⟨rfl, n1, n4, may_free (may_go0 hm) (by omega) h3⟩
theorem small_put {ps : List Pg} {at' : Nat} {c : Int} (hf : findE ps 1 = some at') (c0 : 0 <= c) (c2 : c <= 2) : at' < ps.length /\ ps[at']? = some (0, 0) /\ (smallE ps (at' : Int) c).2 = ps.set at' (1, c) /\ may (ps.set at' (1, c)) = true := by
  obtain ⟨hm, _, _, X, Z, rfl, rfl, hX, hZ⟩ := find_parts hf
  have hr : List.replicate (Int.toNat 1) ((0, 0) : Pg) = [(0, 0)] := rfl
  rw [hr] at hm ⊢
  have hset : (X ++ [(0, 0)] ++ Z).set X.length (1, c) = X ++ [(1, c)] ++ Z := by
    rw [List.append_assoc, List.set_append_right _ _ (Nat.le_refl _), Nat.sub_self]
    simp
  obtain ⟨l1, l2⟩ := may_len hm
  refine ⟨by simp, ?_, ?_, ?_⟩
  . rw [List.append_assoc, List.getElem?_append_right (Nat.le_refl _), Nat.sub_self]; rfl
  . rw [small_parts c0 c2 hm, hset]
  . rw [hset]
    refine go_may ?_ ?_ (mayGo_join hX (mayGo_small c0 c2) hZ)
    . simp only [List.length_append, List.length_cons]; omega
    . simp at l2 ⊢; omega
theorem large_put {ps : List Pg} {at' : Nat} {n : Int} (hf : findE ps n = some at') : 1 <= n /\ n <= 4 /\ at' + n.toNat <= ps.length /\ (∀ j, at' <= j -> j < at' + n.toNat -> ps[j]? = some (0, 0)) /\ may (largeE ps (at' : Int) n).2 = true /\ (largeE ps (at' : Int) n).2.length = ps.length /\
    ∀ j, (largeE ps (at' : Int) n).2[j]? = if j = at' then some (2, n) else if at' < j /\ j < at' + n.toNat then some (3, 0) else ps[j]? := by
  obtain ⟨hm, n1, n4, X, Z, rfl, rfl, hX, hZ⟩ := find_parts hf
  obtain ⟨l1, l2⟩ := may_len hm
  have hol : (ownL n).length = n.toNat := ownL_len n1
  rw [large_parts n1 n4 hm]
  refine ⟨n1, n4, by simp, fun j h1 h2 => ?_, go_may ?_ ?_ (mayGo_join hX (mayGo_ownL n1 n4) hZ), ?_, fun j => ?_⟩
  . rw [List.append_assoc, List.getElem?_append_right h1, List.getElem?_append_left (by simp; omega), List.getElem?_replicate, if_pos (by omega)]
  . simp [hol]; omega
  . simp only [List.length_append, List.length_replicate] at l2 ⊢; omega
  . simp [hol]
  . show (X ++ ownL n ++ Z)[j]? = _
    by_cases h1 : j < X.length
    . rw [if_neg (by omega), if_neg (by omega), List.append_assoc, List.append_assoc, List.getElem?_append_left h1, List.getElem?_append_left h1]
    . by_cases h2 : j < X.length + n.toNat
      . rw [List.append_assoc, List.getElem?_append_right (by omega), List.getElem?_append_left (by rw [hol]; omega)]
        unfold ownL
        by_cases h3 : j = X.length
        . rw [if_pos h3, h3, Nat.sub_self]; rfl
        . rw [if_neg h3, if_pos (by omega), show j - X.length = (j - X.length - 1) + 1 by omega, List.getElem?_cons_succ, List.getElem?_replicate, if_pos (by omega)]
      . rw [if_neg (by omega), if_neg (by omega), List.getElem?_append_right (by simp [hol]; omega), List.getElem?_append_right (by simp; omega)]
        congr 1
        simp [hol]
theorem on_mem {ps : List Pg} {p : Nat} {e : Int} (hp : p < ps.length) (hl : ps.length <= 200) : e ∈ (onL ps (p : Int)).map (·.1) ↔ roomA ps e > 0 /\ pgN e = p := by
  rw [<- onL_filter ps (p : Int), List.mem_filter]
  have h1 : e ∈ (allCs ps).map (·.1) ↔ roomA ps e > 0 := cell_mem
  rw [h1]
  constructor
  . rintro ⟨h2, h3⟩
    refine ⟨h2, ?_⟩
    obtain ⟨r1, r2⟩ := room_in h2
    have v1 : IntKind.i64.wrap (e / 16) = e / 16 := wrap_in (by omega)
    have v2 : IntKind.i64.wrap (e / 16 - 1) = e / 16 - 1 := wrap_in (by omega)
    rw [tdiv_pos (by omega), v1, v2] at h3
    have := eq_of_beq h3
    show (e / 16 - 1).toNat = p
    omega
  . rintro ⟨h2, h3⟩
    refine ⟨h2, ?_⟩
    obtain ⟨r1, r2⟩ := room_in h2
    have v1 : IntKind.i64.wrap (e / 16) = e / 16 := wrap_in (by omega)
    have v2 : IntKind.i64.wrap (e / 16 - 1) = e / 16 - 1 := wrap_in (by omega)
    rw [tdiv_pos (by omega), v1, v2]
    have h3 : (e / 16 - 1).toNat = p := h3
    rw [beq_iff_eq]
    omega
theorem on_nodup (ps : List Pg) (p : Int) : ((onL ps p).map (·.1)).Nodup := by
  rw [<- onL_filter ps p]
  exact (rises_nodup (allCs_rises ps)).sublist List.filter_sublist
theorem segR_all (xs : List Int) : segR xs 0 xs.length = xs.reverse := by
  simp [segR]
end Go.Ab

namespace Go.Ab
open Go
open Go.Proofs
theorem putW_get (w : List Int) (a v : Int) (j : Nat) : (putW w a v)[j]? = if j = (a - 16).toNat /\ j < w.length then some v else w[j]? := by
  unfold putW
  rw [List.getElem?_set]
  by_cases h : (a - 16).toNat = j
  . subst h
    by_cases h2 : (a - 16).toNat < w.length
    . rw [if_pos rfl, if_pos h2, if_pos ⟨rfl, h2⟩]
    . rw [if_pos rfl, if_neg h2, if_neg (fun q => h2 q.2), List.getElem?_eq_none (by omega)]
  . rw [if_neg h, if_neg (fun q => h q.1.symm)]
theorem putsW_len : ∀ (ys : List Int) (w : List Int), (putsW w ys).length = w.length
  | [], _ => rfl
  | a :: ys, w => by
    show (putsW (putW w a 0) ys).length = _
    rw [putsW_len ys, putW_len]
theorem putsW_get : ∀ (ys : List Int) (w : List Int) (j : Nat), (putsW w ys)[j]? = if (∃ a ∈ ys, (a - 16).toNat = j) /\ j < w.length then some 0 else w[j]?
  | [], w, j => by simp [putsW]
  | a :: ys, w, j => by
    show (putsW (putW w a 0) ys)[j]? = _
    rw [putsW_get ys, putW_len, putW_get]
    by_cases h1 : (∃ a ∈ ys, (a - 16).toNat = j) /\ j < w.length
    . obtain ⟨⟨b, hb, hj⟩, hl⟩ := h1
      rw [if_pos ⟨⟨b, hb, hj⟩, hl⟩, if_pos ⟨⟨b, by simp [hb], hj⟩, hl⟩]
    . rw [if_neg h1]
      by_cases h2 : j = (a - 16).toNat /\ j < w.length
      . rw [if_pos h2, if_pos ⟨⟨a, by simp, h2.1.symm⟩, h2.2⟩]
      . rw [if_neg h2, if_neg]
        rintro ⟨⟨b, hb, hj⟩, hl⟩
        rcases List.mem_cons.1 hb with rfl | hb
        . exact h2 ⟨hj.symm, hl⟩
        . exact h1 ⟨⟨b, hb, hj⟩, hl⟩
def manyL (c : Int) (ys : List Int) : Ls := (⟨[], [], []⟩ : Ls).set ys c.toNat
theorem manyL_get {c : Int} {ys : List Int} (h0 : 0 <= c) (h2 : c <= 2) {k : Nat} (hk : k < 3) : (manyL c ys).get k = if (k : Int) = c then ys else [] := by
  unfold manyL
  rw [get_set hk (by omega)]
  by_cases h : k = c.toNat
  . rw [if_pos h, if_pos (by omega)]
  . rw [if_neg h, if_neg (by omega)]
    have : k = 0 \/ k = 1 \/ k = 2 := by omega
    rcases this with rfl | rfl | rfl <;> rfl
theorem push_many (l : Ls) {c : Int} (ys : List Int) (h0 : 0 <= c) (h2 : c <= 2) : pushL l c ys = app3 l (manyL c ys) := by
  have : c = 0 \/ c = 1 \/ c = 2 := by omega
  rcases this with rfl | rfl | rfl <;> simp [pushL, app3, manyL, Ls.set, Ls.get]
section
variable {h : Hp} {ls : List Ls} {at' : Nat} {c : Int}
theorem free_none (hp : h.p[at']? = some (0, 0)) {e : Int} (he : roomA h.p e > 0) : pgN e ≠ at' := fun q => by
  obtain ⟨_, _, _, _, p, g4, _, g6⟩ := cell_facts he
  have g4 : h.p[pgN e]? = some p := g4
  rw [q, hp] at g4
  cases g4
  rcases g6 with ⟨k2, _⟩ | ⟨k1, _⟩
  . cases k2
  . cases k1
def newYs (h : Hp) (at' : Nat) (c : Int) : List Int := ((onL (h.p.set at' (1, c)) (at' : Int)).map (·.1)).reverse
def pageH (h : Hp) (at' : Nat) (c : Int) : Hp := ⟨putsW h.w (newYs h at' c), h.p.set at' (1, c), pushL h.f c (newYs h at' c), h.c⟩
structure PageF (h : Hp) (ls : List Ls) (at' : Nat) (c : Int) : Prop where
  m : MayF (pageH h at' c) ls
  old : ∀ e, roomA h.p e > 0 -> pgN e ≠ at' /\ roomA (pageH h at' c).p e = roomA h.p e /\ pageE (pageH h at' c) e = pageE h e /\ wordE (pageH h at' c) e = wordE h e
  new : ∀ e, roomA (pageH h at' c).p e > 0 -> (pgN e = at' /\ e ∈ newYs h at' c /\ wordE (pageH h at' c) e = 0) \/ (pgN e ≠ at' /\ roomA h.p e > 0)
  ys : ∀ e, e ∈ newYs h at' c ↔ roomA (pageH h at' c).p e > 0 /\ pgN e = at'
  ne : newYs h at' c ≠ []
  w : ∀ j : Nat, j / 16 ≠ at' -> (pageH h at' c).w[j]? = h.w[j]?
theorem MayF.page (hm : MayF h ls) (hf : findE h.p 1 = some at') (c0 : 0 <= c) (c2 : c <= 2) : PageF h ls at' c := by
  obtain ⟨q1, _, _⟩ := shaped_ne hm.sh
  obtain ⟨hlt, hp0, _, hmp⟩ := small_put hf c0 c2
  obtain ⟨_, l64⟩ := may_len q1
  have hlen : (h.p.set at' (1, c)).length = h.p.length := by simp
  have hys : ∀ e, e ∈ newYs h at' c ↔ roomA (h.p.set at' (1, c)) e > 0 /\ pgN e = at' := fun e => by
    unfold newYs
    rw [List.mem_reverse]
    exact on_mem (by rw [hlen]; exact hlt) (by rw [hlen]; omega)
  have hpg : ∀ e : Int, pgN e ≠ at' -> (h.p.set at' (1, c))[pgN e]? = h.p[pgN e]? := fun e hne => by
    rw [List.getElem?_set, if_neg (fun q => hne q.symm)]
  have hr16 : ∀ e ∈ newYs h at' c, 16 <= e /\ e / 16 - 1 = (at' : Int) := fun e he => by
    obtain ⟨h1, h2⟩ := (hys e).1 he
    have := (room_in h1).1
    have h2 : (e / 16 - 1).toNat = at' := h2
    omega
  have hword : ∀ e : Int, 16 <= e -> wordE (pageH h at' c) e = if e ∈ newYs h at' c /\ (e - 16).toNat < h.w.length then 0 else wordE h e := fun e h16 => by
    unfold wordE
    rw [List.getD_eq_getElem?_getD, List.getD_eq_getElem?_getD]
    show ((putsW h.w (newYs h at' c))[(e - 16).toNat]?).getD 0 = _
    rw [putsW_get]
    by_cases g : e ∈ newYs h at' c /\ (e - 16).toNat < h.w.length
    . rw [if_pos g, if_pos ⟨⟨e, g.1, rfl⟩, g.2⟩]; rfl
    . rw [if_neg g, if_neg]
      rintro ⟨⟨b, hb, hj⟩, hl⟩
      have := (hr16 b hb).1
      have : b = e := by omega
      exact g ⟨this ▸ hb, hl⟩
  have hsame : ∀ e, pgN e ≠ at' -> roomA (h.p.set at' (1, c)) e = roomA h.p e /\ pageE (pageH h at' c) e = pageE h e := fun e hne => by
    have hg : (h.p.set at' (1, c)).getD (pgN e) (0, 0) = h.p.getD (pgN e) (0, 0) := by rw [List.getD_eq_getElem?_getD, List.getD_eq_getElem?_getD, hpg e hne]
    refine ⟨?_, hg⟩
    rw [roomA_doc, roomA_doc, hmp, q1, hlen]
    show (bif _ then cellAt ((h.p.set at' (1, c)).getD (pgN e) (0, 0)) _ else 0) = _
    rw [hg]
  have hold : ∀ e, roomA h.p e > 0 -> pgN e ≠ at' /\ roomA (pageH h at' c).p e = roomA h.p e /\ pageE (pageH h at' c) e = pageE h e /\ wordE (pageH h at' c) e = wordE h e := fun e he => by
    have hne := free_none hp0 he
    obtain ⟨r1, r2⟩ := hsame e hne
    refine ⟨hne, r1, r2, ?_⟩
    rw [hword e (room_in he).1, if_neg]
    intro g
    exact hne ((hys e).1 g.1).2
  have hnew : ∀ e, roomA (h.p.set at' (1, c)) e > 0 -> (pgN e = at' /\ e ∈ newYs h at' c /\ wordE (pageH h at' c) e = 0) \/ (pgN e ≠ at' /\ roomA h.p e > 0) := fun e he => by
    by_cases hq : pgN e = at'
    . have hin := (hys e).2 ⟨he, hq⟩
      refine .inl ⟨hq, hin, ?_⟩
      have h1 := room_in he
      rw [hlen] at h1
      have := shaped_w hm.sh
      rw [hword e h1.1, if_pos ⟨hin, by omega⟩]
    . exact .inr ⟨hq, by rw [<- (hsame e hq).1]; exact he⟩
  have hpe : ∀ e ∈ newYs h at' c, pageE (pageH h at' c) e = (1, c) := fun e he => by
    have h2 := ((hys e).1 he).2
    show (h.p.set at' (1, c)).getD (pgN e) (0, 0) = _
    rw [h2, List.getD_eq_getElem?_getD, List.getElem?_set, if_pos rfl, if_pos hlt]; rfl
  have hlist : ∀ (k : Nat) (e : Int), listV h k e = true -> listV (pageH h at' c) k e = true := fun k e hl => by
    obtain ⟨_, r1, r2, r3⟩ := hold e (listV_facts hl).1
    unfold listV at hl ⊢
    rw [r1, r2, r3]; exact hl
  have hnd : (newYs h at' c).Nodup := by
    unfold newYs
    exact (List.reverse_perm _).nodup_iff.2 (on_nodup _ _)
  have m1 : MayF ⟨putsW h.w (newYs h at' c), h.p.set at' (1, c), h.f, h.c⟩ (manyL c (newYs h at' c) :: ls) := by
    refine ⟨?_, fun l hl => listed_iff.2 fun k hk e he => ?_, fun e he => ?_, ?_⟩
    . have h1 := hm.sh
      unfold shapedE at h1 ⊢
      show (mayA (putsW h.w _).length && (may (h.p.set at' (1, c)) && (Nat.beq (putsW h.w _).length (16 * (h.p.set at' (1, c)).length) && Nat.beq h.c.length ((putsW h.w _).length / 8)))) = true
      rw [putsW_len, hlen, hmp]
      rw [q1] at h1; exact h1
    . rcases List.mem_cons.1 hl with rfl | hl
      . exact hlist k e (listed_iff.1 (hm.li h.f (by simp)) k hk e he)
      . rcases List.mem_cons.1 hl with rfl | hl
        . rw [manyL_get c0 c2 hk] at he
          by_cases hkc : (k : Int) = c
          . rw [if_pos hkc] at he
            obtain ⟨h1, h2⟩ := (hys e).1 he
            have h3 := hpe e he
            rcases hnew e h1 with ⟨_, _, h4⟩ | ⟨h4, _⟩
            . show (decide (roomA (h.p.set at' (1, c)) e > 0) && (((pageE (pageH h at' c) e).1 == 1 && (pageE (pageH h at' c) e).2 == (k : Int)) && wordE (pageH h at' c) e == 0)) = true
              rw [decide_eq_true h1, h3, h4, hkc]; simp
            . exact absurd h2 h4
          . rw [if_neg hkc] at he; cases he
        . exact hlist k e (listed_iff.1 (hm.li l (by simp [hl])) k hk e he)
    . have he : roomA (h.p.set at' (1, c)) e > 0 := cell_mem.1 he
      rcases hnew e he with ⟨_, h2, h3⟩ | ⟨_, h2⟩
      . show (unpOK (wordE (pageH h at' c) e) && bif (unp (wordE (pageH h at' c) e)).a then fitsE (pageE (pageH h at' c) e) (unp (wordE (pageH h at' c) e)).x else (pageE (pageH h at' c) e).1 == 1) = true
        rw [h3, hpe e h2]; rfl
      . obtain ⟨_, r1, r2, r3⟩ := hold e h2
        have := hm.ce e (cell_mem.2 h2)
        show (unpOK (wordE (pageH h at' c) e) && bif (unp (wordE (pageH h at' c) e)).a then fitsE (pageE (pageH h at' c) e) (unp (wordE (pageH h at' c) e)).x else (pageE (pageH h at' c) e).1 == 1) = true
        rw [r2, r3]; exact this
    . have h1 := hm.nd
      show (catI (h.f :: manyL c (newYs h at' c) :: ls)).Nodup
      rw [catI_cons] at h1
      rw [catI_cons, catI_cons]
      have ho : one3 (manyL c (newYs h at' c)) = newYs h at' c := by
        have : c = 0 \/ c = 1 \/ c = 2 := by omega
        rcases this with rfl | rfl | rfl <;> simp [one3, manyL, Ls.set]
      rw [ho, (swp _ _ _).nodup_iff, List.nodup_append]
      refine ⟨hnd, h1, fun x hx y hy hxy => ?_⟩
      subst hxy
      have hin : ∃ l ∈ h.f :: ls, ∃ k, k < 3 /\ x ∈ l.get k := by
        rcases List.mem_append.1 hy with hy | hy
        . obtain ⟨k, hk, he⟩ := one3_mem.1 hy
          exact ⟨h.f, by simp, k, hk, he⟩
        . obtain ⟨l, hl, k, hk, he⟩ := cat_mem.1 hy
          exact ⟨l, by simp [hl], k, hk, he⟩
      obtain ⟨l, hl, k, hk, he⟩ := hin
      exact free_none hp0 (listV_facts (listed_iff.1 (hm.li l hl) k hk x he)).1 ((hys x).1 hx).2
  refine ⟨?_, hold, hnew, hys, ?_, fun j hj => ?_⟩
  . have := m1.absorb
    unfold pageH
    rw [push_many h.f (newYs h at' c) c0 c2]
    exact this
  . have hr : roomA (h.p.set at' (1, c)) (16 * ((at' : Int) + 1)) = wordsOf c := by
      rw [roomA_doc, hmp, decide_eq_true (by omega), decide_eq_true (by rw [hlen]; omega)]
      show cellAt ((h.p.set at' (1, c)).getD (16 * ((at' : Int) + 1) / 16 - 1).toNat (0, 0)) (16 * ((at' : Int) + 1) % 16).toNat = _
      rw [show (16 * ((at' : Int) + 1) / 16 - 1).toNat = at' by omega, show (16 * ((at' : Int) + 1) % 16).toNat = 0 by omega, List.getD_eq_getElem?_getD, List.getElem?_set, if_pos rfl, if_pos hlt]
      show cellAt (1, c) 0 = _
      unfold cellAt
      simp
    have hin : 16 * ((at' : Int) + 1) ∈ newYs h at' c := (hys _).2 ⟨by rw [hr]; rcases words_val c0 c2 with ⟨_, w⟩ | ⟨_, w⟩ | ⟨_, w⟩ <;> omega, by show (16 * ((at' : Int) + 1) / 16 - 1).toNat = at'; omega⟩
    intro hq
    rw [hq] at hin; cases hin
  . show (putsW h.w (newYs h at' c))[j]? = _
    rw [putsW_get, if_neg]
    rintro ⟨⟨b, hb, hbj⟩, _⟩
    have := hr16 b hb
    omega
end
end Go.Ab

namespace Go.Ab
open Go
open Go.Proofs
theorem count_set {l : Ls} {x : List Int} {k : Nat} (hk : k < 3) (e : Int) : (one3 (l.set x k)).count e + (l.get k).count e = (one3 l).count e + x.count e := by
  have : k = 0 \/ k = 1 \/ k = 2 := by omega
  rcases this with rfl | rfl | rfl
  . show (x ++ l.b ++ l.c).count e + l.a.count e = (l.a ++ l.b ++ l.c).count e + x.count e
    simp only [List.count_append]; omega
  . show (l.a ++ x ++ l.c).count e + l.b.count e = (l.a ++ l.b ++ l.c).count e + x.count e
    simp only [List.count_append]; omega
  . show (l.a ++ l.b ++ x).count e + l.c.count e = (l.a ++ l.b ++ l.c).count e + x.count e
    simp only [List.count_append]; omega
theorem count_cut (n : Nat) (l : List Int) (e : Int) : (l.take n).count e + (l.drop n).count e = l.count e := by
  rw [<- List.count_append, List.take_append_drop]
section
variable {h : Hp} {c : Ls} {ls : List Ls}
theorem MayF.regroup (hm : MayF h (c :: ls)) {f' c' : Ls} {r : List Int} (hmem : ∀ k, k < 3 -> ∀ e, (e ∈ f'.get k \/ e ∈ c'.get k) -> (e ∈ h.f.get k \/ e ∈ c.get k))
    (hp : (r ++ (one3 f' ++ one3 c')).Perm (one3 h.f ++ one3 c)) : MayF { h with f := f' } (c' :: ls) /\ r.Nodup /\ ∀ e ∈ r, e ∉ catI (f' :: c' :: ls) := by
  have hnd := hm.nd
  rw [catI_cons, catI_cons, <- List.append_assoc] at hnd
  have h1 : (r ++ (one3 f' ++ one3 c') ++ catI ls).Nodup := (hp.append_right (catI ls)).nodup_iff.2 hnd
  rw [List.append_assoc, List.append_assoc] at h1
  obtain ⟨h2, h3, h4⟩ := List.nodup_append.1 h1
  refine ⟨⟨hm.sh, fun l hl => ?_, hm.ce, ?_⟩, h2, fun e he hin => ?_⟩
  . have key : ∀ k, k < 3 -> ∀ e, (e ∈ f'.get k \/ e ∈ c'.get k) -> listV h k e = true := fun k hk e he => by
      rcases hmem k hk e he with h5 | h5
      . exact listed_iff.1 (hm.li h.f (by simp)) k hk e h5
      . exact listed_iff.1 (hm.li c (by simp)) k hk e h5
    rcases List.mem_cons.1 hl with rfl | hl
    . exact listed_iff.2 fun k hk e he => key k hk e (.inl he)
    . rcases List.mem_cons.1 hl with rfl | hl
      . exact listed_iff.2 fun k hk e he => key k hk e (.inr he)
      . exact hm.li l (by simp [hl])
  . show (catI (f' :: c' :: ls)).Nodup
    rw [catI_cons, catI_cons]; exact h3
  . rw [catI_cons, catI_cons] at hin
    exact h4 e he e hin rfl
theorem MayF.move (hm : MayF h (c :: ls)) {k : Int} (k0 : 0 <= k) (k2 : k <= 2) : MayF { h with f := moveF h.f k } (moveT h.f c k :: ls) := by
  have hk : k.toNat < 3 := by omega
  refine (hm.regroup (r := []) (fun j hj e he => ?_) ?_).1
  . unfold moveF moveT at he
    rw [get_set hj hk, get_set hj hk] at he
    by_cases hjk : j = k.toNat
    . rw [if_pos hjk, if_pos hjk] at he
      rw [hjk]
      rcases he with he | he
      . exact .inl (List.mem_of_mem_take he)
      . rcases List.mem_append.1 he with he | he
        . exact .inr he
        . exact .inl (List.mem_of_mem_drop (List.mem_reverse.1 he))
    . rw [if_neg hjk, if_neg hjk] at he
      exact he
  . rw [List.nil_append, List.perm_iff_count]
    intro e
    have h1 := count_set (l := h.f) (x := (h.f.get k.toNat).take ((h.f.get k.toNat).length - 2)) hk e
    have h2 := count_set (l := c) (x := c.get k.toNat ++ ((h.f.get k.toNat).drop ((h.f.get k.toNat).length - 2)).reverse) hk e
    have h3 := count_cut ((h.f.get k.toNat).length - 2) (h.f.get k.toNat) e
    rw [List.count_append, List.count_reverse] at h2
    rw [List.count_append, List.count_append]
    unfold moveF moveT
    omega
structure MayX (h : Hp) (ls : List Ls) (a : Int) : Prop where
  sh : shapedE h = true
  li : ∀ l ∈ h.f :: ls, listedV h l = true
  ce : ∀ c ∈ cellAs h.p, c ≠ a -> mayV h c = true
  nd : (catI (h.f :: ls)).Nodup
  r : roomA h.p a > 0
  no : a ∉ catI (h.f :: ls)
theorem last_drop {l : List Int} (hl : l ≠ []) : l.drop (l.length - 1) = [l.getD (l.length - 1) 0] := by
  have : 0 < l.length := List.length_pos_iff.2 hl
  rw [List.drop_eq_getElem_cons (by omega), List.drop_eq_nil_of_le (by omega), List.getD_eq_getElem?_getD, List.getElem?_eq_getElem (by omega)]
  rfl
theorem MayF.pop (hm : MayF h (c :: ls)) {k : Int} (k0 : 0 <= k) (k2 : k <= 2) (hne : c.get k.toNat ≠ []) : MayX h (popL c k :: ls) (lastL c k) /\ listV h k (lastL c k) = true /\ (lastL c k) ∈ c.get k.toNat := by
  have hk : k.toNat < 3 := by omega
  have hdr := last_drop hne
  have hin : lastL c k ∈ c.get k.toNat := List.mem_of_mem_drop (i := (c.get k.toNat).length - 1) (by rw [hdr]; exact List.mem_singleton.2 rfl)
  have hl : listV h k (lastL c k) = true := by
    have := listed_iff.1 (hm.li c (by simp)) k.toNat hk _ hin
    rwa [show ((k.toNat : Nat) : Int) = k by omega] at this
  obtain ⟨g1, g2, g3⟩ := hm.regroup (f' := h.f) (c' := popL c k) (r := [lastL c k]) (fun j hj e he => by
    unfold popL at he
    rw [get_set hj hk] at he
    by_cases hjk : j = k.toNat
    . rw [if_pos hjk] at he
      rw [hjk] at he ⊢
      rcases he with he | he
      . exact .inl he
      . exact .inr (List.mem_of_mem_take he)
    . rw [if_neg hjk] at he
      exact he) (by
    rw [List.perm_iff_count]
    intro e
    have h2 := count_set (l := c) (x := (c.get k.toNat).take ((c.get k.toNat).length - 1)) hk e
    have h3 := count_cut ((c.get k.toNat).length - 1) (c.get k.toNat) e
    rw [hdr] at h3
    rw [List.count_append, List.count_append, List.count_append]
    unfold popL
    unfold lastL
    omega)
  exact ⟨⟨g1.sh, g1.li, fun e he _ => g1.ce e he, g1.nd, (listV_facts hl).1, g3 _ (List.mem_singleton.2 rfl)⟩, hl, hin⟩
def putH (h : Hp) (a v : Int) : Hp := { h with w := putW (zeroW h.w a (roomA h.p a)) a v }
theorem putH_len {a v : Int} (hs : shapedE h = true) (hr : roomA h.p a > 0) : (putH h a v).w.length = h.w.length := by
  obtain ⟨z1, z2, z3⟩ := zero_in hs hr
  show (putW _ _ _).length = _
  rw [putW_len, zero_len z1 z2 z3]
theorem putH_get {a v : Int} (hs : shapedE h = true) (hr : roomA h.p a > 0) (j : Nat) : (putH h a v).w[j]? = if (j : Int) = a - 16 then some v else if a - 16 <= (j : Int) /\ (j : Int) < a - 16 + roomA h.p a then some 0 else h.w[j]? := by
  obtain ⟨z1, z2, z3⟩ := zero_in hs hr
  show (putW (zeroW h.w a (roomA h.p a)) a v)[j]? = _
  rw [putW_get, zero_len z1 z2 z3, zero_get' z1 z2 z3]
  by_cases g : (j : Int) = a - 16
  . rw [if_pos (by omega), if_pos g]
  . rw [if_neg (by omega), if_neg g]
theorem putH_word {a v : Int} (hs : shapedE h = true) (hr : roomA h.p a > 0) {e : Int} (h16 : 16 <= e) : wordE (putH h a v) e = if e = a then v else if a <= e /\ e < a + roomA h.p a then 0 else wordE h e := by
  have := (room_in hr).1
  unfold wordE
  rw [List.getD_eq_getElem?_getD, List.getD_eq_getElem?_getD, putH_get hs hr]
  by_cases g : e = a
  . rw [if_pos g, if_pos (by omega)]; rfl
  . rw [if_neg g, if_neg (by omega)]
    by_cases g2 : a <= e /\ e < a + roomA h.p a
    . rw [if_pos g2, if_pos (by omega)]; rfl
    . rw [if_neg g2, if_neg (by omega)]
theorem putH_keep {a v : Int} (hs : shapedE h = true) (hr : roomA h.p a > 0) {e : Int} (he : roomA h.p e > 0) (hne : e ≠ a) : wordE (putH h a v) e = wordE h e := by
  rw [putH_word hs hr (room_in he).1, if_neg hne, if_neg]
  intro g
  rcases cells_apart hr he hne with g2 | g2 <;> omega
theorem putH_at {a v : Int} (hs : shapedE h = true) (hr : roomA h.p a > 0) : wordE (putH h a v) a = v := by
  rw [putH_word hs hr (room_in hr).1, if_pos rfl]
theorem MayX.put {a : Int} (hx : MayX h ls a) {v : Int} (h1 : unpOK v = true) (h2 : (unp v).a = true) (h3 : fitsE (pageE h a) (unp v).x = true) : MayF (putH h a v) ls := by
  have hl : ∀ l ∈ h.f :: ls, ∀ k, k < 3 -> ∀ e ∈ l.get k, e ≠ a := fun l hl k hk e he q => hx.no (cat_mem.2 ⟨l, hl, k, hk, q ▸ he⟩)
  have key : ∀ l ∈ h.f :: ls, listedV (putH h a v) l = true := fun l hl' => listed_iff.2 fun k hk e he => by
    have h4 := listed_iff.1 (hx.li l hl') k hk e he
    have h5 := putH_keep (v := v) hx.sh hx.r (listV_facts h4).1 (hl l hl' k hk e he)
    unfold listV at h4 ⊢
    rw [h5]; exact h4
  refine ⟨?_, key, fun e he => ?_, hx.nd⟩
  . have := hx.sh
    unfold shapedE at this ⊢
    rw [putH_len hx.sh hx.r]; exact this
  . have he' : roomA h.p e > 0 := cell_mem.1 he
    by_cases hq : e = a
    . subst hq
      unfold mayV
      rw [putH_at hx.sh hx.r, h1, h2]
      exact h3
    . have := hx.ce e he hq
      unfold mayV at this ⊢
      rw [putH_keep hx.sh hx.r he' hq]; exact this
end
def largeH (h : Hp) (at' : Nat) (n : Int) : Hp := { h with p := (largeE h.p (at' : Int) n).2 }
structure LargeF (h : Hp) (ls : List Ls) (at' : Nat) (n : Int) : Prop where
  m : MayX (largeH h at' n) ls (16 * ((at' : Int) + 1))
  r : roomA (largeH h at' n).p (16 * ((at' : Int) + 1)) = 16 * n
  p : pageE (largeH h at' n) (16 * ((at' : Int) + 1)) = (2, n)
  n0 : 1 <= n
  l : (largeH h at' n).p.length = h.p.length
  old : ∀ e, roomA h.p e > 0 -> e ≠ 16 * ((at' : Int) + 1) /\ roomA (largeH h at' n).p e = roomA h.p e /\ pageE (largeH h at' n) e = pageE h e /\ wordE (largeH h at' n) e = wordE h e
  new : ∀ e, roomA (largeH h at' n).p e > 0 -> e = 16 * ((at' : Int) + 1) \/ roomA h.p e > 0
theorem MayF.large {h : Hp} {ls : List Ls} (hm : MayF h ls) {n : Int} {at' : Nat} (hf : findE h.p n = some at') : LargeF h ls at' n := by
  obtain ⟨n1, n4, hle, hfree, hmx, hlen, hget⟩ := large_put hf
  obtain ⟨q1, _, _⟩ := shaped_ne hm.sh
  have hlen' : (largeH h at' n).p.length = h.p.length := hlen
  have hget' : ∀ j, (largeH h at' n).p[j]? = if j = at' then some (2, n) else if at' < j /\ j < at' + n.toNat then some (3, 0) else h.p[j]? := hget
  have hmx' : may (largeH h at' n).p = true := hmx
  have hout : ∀ e, roomA h.p e > 0 -> ¬(at' <= pgN e /\ pgN e < at' + n.toNat) := fun e he g =>
    free_none (h := h) (at' := pgN e) (hfree _ g.1 g.2) he rfl
  have hsame : ∀ e, ¬(at' <= pgN e /\ pgN e < at' + n.toNat) -> roomA (largeH h at' n).p e = roomA h.p e /\ pageE (largeH h at' n) e = pageE h e /\ wordE (largeH h at' n) e = wordE h e := fun e g =>
    same_at rfl hlen' (by rw [hmx', q1]) (by
      show (largeH h at' n).p[pgN e]? = h.p[pgN e]?
      rw [hget', if_neg (by omega), if_neg (by omega)])
  have hpa : pgN (16 * ((at' : Int) + 1)) = at' := by show (16 * ((at' : Int) + 1) / 16 - 1).toNat = at'; omega
  have hpe : pageE (largeH h at' n) (16 * ((at' : Int) + 1)) = (2, n) := by
    show (largeH h at' n).p.getD (pgN (16 * ((at' : Int) + 1))) (0, 0) = _
    rw [hpa, List.getD_eq_getElem?_getD, hget', if_pos rfl]; rfl
  have hra : roomA (largeH h at' n).p (16 * ((at' : Int) + 1)) = 16 * n := by
    rw [roomA_doc, hmx', decide_eq_true (by omega), decide_eq_true (by rw [hlen']; omega)]
    show cellAt (pageE (largeH h at' n) (16 * ((at' : Int) + 1))) (16 * ((at' : Int) + 1) % 16).toNat = _
    rw [hpe, show (16 * ((at' : Int) + 1) % 16).toNat = 0 by omega]
    rfl
  have hnew : ∀ e, roomA (largeH h at' n).p e > 0 -> e = 16 * ((at' : Int) + 1) \/ roomA h.p e > 0 := fun e he => by
    by_cases g : at' <= pgN e /\ pgN e < at' + n.toNat
    . left
      obtain ⟨_, e1, _, e3, p, e4, _, e6⟩ := cell_facts he
      have e4 : (largeH h at' n).p[pgN e]? = some p := e4
      have e3 : ((pgN e : Nat) : Int) = e / 16 - 1 := e3
      rw [hget'] at e4
      by_cases hq : pgN e = at'
      . rw [if_pos hq] at e4
        cases e4
        rcases e6 with ⟨_, g2, _⟩ | ⟨g2, _⟩
        . omega
        . cases g2
      . rw [if_neg hq, if_pos (by omega)] at e4
        cases e4
        rcases e6 with ⟨g2, _⟩ | ⟨g2, _⟩ <;> cases g2
    . right
      rw [<- (hsame e g).1]; exact he
  have hold : ∀ e, roomA h.p e > 0 -> e ≠ 16 * ((at' : Int) + 1) /\ roomA (largeH h at' n).p e = roomA h.p e /\ pageE (largeH h at' n) e = pageE h e /\ wordE (largeH h at' n) e = wordE h e := fun e he =>
    ⟨fun q => hout e he (by rw [q, hpa]; omega), hsame e (hout e he)⟩
  have hlist : ∀ l ∈ h.f :: ls, listedV (largeH h at' n) l = true := fun l hl => listed_iff.2 fun k hk e he => by
    have h1 := listed_iff.1 (hm.li l hl) k hk e he
    obtain ⟨_, r1, r2, r3⟩ := hold e (listV_facts h1).1
    unfold listV at h1 ⊢
    rw [r1, r2, r3]; exact h1
  refine ⟨⟨?_, hlist, fun e he hne => ?_, hm.nd, by rw [hra]; omega, fun hin => ?_⟩, hra, hpe, n1, hlen', hold, hnew⟩
  . have h1 := hm.sh
    unfold shapedE at h1 ⊢
    rw [hlen', hmx']
    rw [q1] at h1
    exact h1
  . rcases hnew e (cell_mem.1 he) with g | g
    . exact absurd g hne
    . obtain ⟨_, _, r2, r3⟩ := hold e g
      have := hm.ce e (cell_mem.2 g)
      unfold mayV at this ⊢
      rw [r2, r3]; exact this
  . obtain ⟨l, hl, k, hk, he⟩ := cat_mem.1 hin
    exact (hold _ (listV_facts (listed_iff.1 (hm.li l hl) k hk _ he)).1).1 rfl
end Go.Ab

namespace Go.Ab
open Go
open Go.Proofs
def Told (h : Hp) (ls : List Ls) : Prop := ∀ e, roomA h.p e > 0 -> wordE h e = 0 -> e ∈ catI (h.f :: ls)
def Stay (h k : Hp) (e : Int) : Prop := roomA k.p e = roomA h.p e /\ pageE k e = pageE h e /\ ∀ j : Nat, e - 16 <= (j : Int) -> (j : Int) < e - 16 + roomA h.p e -> k.w[j]? = h.w[j]?
theorem Stay.word {h k : Hp} {e : Int} (s : Stay h k e) (he : roomA h.p e > 0) : wordE k e = wordE h e := by
  have := (room_in he).1
  unfold wordE
  rw [List.getD_eq_getElem?_getD, List.getD_eq_getElem?_getD, s.2.2 (e - 16).toNat (by omega) (by omega)]
theorem Stay.trans {h k m : Hp} {e : Int} (s : Stay h k e) (t : Stay k m e) : Stay h m e :=
  ⟨t.1.trans s.1, t.2.1.trans s.2.1, fun j h1 h2 => (t.2.2 j h1 (by rw [s.1]; exact h2)).trans (s.2.2 j h1 h2)⟩
theorem Stay.refl (h : Hp) (e : Int) : Stay h h e := ⟨rfl, rfl, fun _ _ _ => rfl⟩
structure Step0 (h : Hp) (c : Ls) (k : Hp) (d : Ls) : Prop where
  m : ∀ ls, MayF h (c :: ls) -> MayF k (d :: ls)
  wl : k.w.length = h.w.length
  pl : k.p.length = h.p.length
  cl : k.c = h.c
  old : ∀ e, roomA h.p e > 0 -> wordE h e ≠ 0 -> Stay h k e
  new : ∀ e, roomA k.p e > 0 -> wordE k e ≠ 0 -> roomA h.p e > 0 /\ wordE h e = wordE k e
  told : ∀ ls, Told h (c :: ls) -> Told k (d :: ls)
theorem Step0.refl (h : Hp) (c : Ls) : Step0 h c h c := ⟨fun _ m => m, rfl, rfl, rfl, fun e _ _ => .refl h e, fun _ h1 _ => ⟨h1, rfl⟩, fun _ t => t⟩
theorem move_get {f t : Ls} {k : Int} {j : Nat} (hj : j < 3) (k0 : 0 <= k) (k2 : k <= 2) {e : Int} (he : e ∈ f.get j \/ e ∈ t.get j) : e ∈ (moveF f k).get j \/ e ∈ (moveT f t k).get j := by
  have hk : k.toNat < 3 := by omega
  unfold moveF moveT
  rw [get_set hj hk, get_set hj hk]
  by_cases hjk : j = k.toNat
  . rw [if_pos hjk, if_pos hjk]
    rw [hjk] at he
    rcases he with he | he
    . rw [<- List.take_append_drop ((f.get k.toNat).length - 2) (f.get k.toNat)] at he
      rcases List.mem_append.1 he with he | he
      . exact .inl he
      . exact .inr (List.mem_append_right _ (List.mem_reverse.2 he))
    . exact .inr (List.mem_append_left _ he)
  . rw [if_neg hjk, if_neg hjk]; exact he
theorem cat_two {f c : Ls} {ls : List Ls} {e : Int} : e ∈ catI (f :: c :: ls) ↔ (∃ k, k < 3 /\ (e ∈ f.get k \/ e ∈ c.get k)) \/ e ∈ catI ls := by
  rw [catI_cons, catI_cons, List.mem_append, List.mem_append, one3_mem, one3_mem]
  constructor
  . rintro (⟨k, hk, he⟩ | ⟨k, hk, he⟩ | he)
    . exact .inl ⟨k, hk, .inl he⟩
    . exact .inl ⟨k, hk, .inr he⟩
    . exact .inr he
  . rintro (⟨k, hk, he | he⟩ | he)
    . exact .inl ⟨k, hk, he⟩
    . exact .inr (.inl ⟨k, hk, he⟩)
    . exact .inr (.inr he)
theorem Step0.move {h k : Hp} {c d : Ls} (s : Step0 h c k d) {i : Int} (i0 : 0 <= i) (i2 : i <= 2) : Step0 h c { k with f := moveF k.f i } (moveT k.f d i) :=
  ⟨fun ls m => (s.m ls m).move i0 i2, s.wl, s.pl, s.cl, s.old, s.new, fun ls t e h1 h2 => by
    rcases cat_two.1 (s.told ls t e h1 h2) with ⟨j, hj, he⟩ | he
    . exact cat_two.2 (.inl ⟨j, hj, move_get hj i0 i2 he⟩)
    . exact cat_two.2 (.inr he)⟩
theorem page_step {h : Hp} {c : Ls} (hm : MayF h [c]) {at' : Nat} (hf : findE h.p 1 = some at') {i : Int} (i0 : 0 <= i) (i2 : i <= 2) : Step0 h c (pageH h at' i) c := by
  have P := hm.page hf i0 i2
  refine ⟨fun ls m => (m.page hf i0 i2).m, putsW_len _ _, by show (h.p.set at' (1, i)).length = _; simp, rfl, fun e h1 h2 => ?_, fun e h1 h2 => ?_, fun ls t e h1 h2 => ?_⟩
  . obtain ⟨g1, g2, g3, g4⟩ := P.old e h1
    refine ⟨g2, g3, fun j j1 j2 => ?_⟩
    show (putsW h.w (newYs h at' i))[j]? = _
    rw [putsW_get, if_neg]
    rintro ⟨⟨y, hy, hj⟩, _⟩
    obtain ⟨y1, y2⟩ := (P.ys y).1 hy
    have hne : y ≠ e := fun q => g1 (q ▸ y2)
    have hr : roomA (pageH h at' i).p e > 0 := by rw [g2]; exact h1
    have := (room_in y1).1
    rcases cells_apart hr y1 hne with g | g
    . omega
    . rw [g2] at g; omega
  . rcases P.new e h1 with ⟨_, _, g⟩ | ⟨g1, g2⟩
    . exact absurd g h2
    . exact ⟨g2, (P.old e g2).2.2.2.symm⟩
  . have hpush : (pageH h at' i).f = app3 h.f (manyL i (newYs h at' i)) := push_many h.f _ i0 i2
    rcases P.new e h1 with ⟨_, g, _⟩ | ⟨g1, g2⟩
    . refine cat_two.2 (.inl ⟨i.toNat, by omega, .inl ?_⟩)
      rw [hpush, app3_get, manyL_get i0 i2 (by omega), if_pos (by omega)]
      exact List.mem_append_right _ g
    . rw [(P.old e g2).2.2.2] at h2
      rcases cat_two.1 (t e g2 h2) with ⟨j, hj, he⟩ | he
      . refine cat_two.2 (.inl ⟨j, hj, ?_⟩)
        rw [hpush, app3_get]
        rcases he with he | he
        . exact .inl (List.mem_append_left _ he)
        . exact .inr he
      . exact cat_two.2 (.inr he)
structure Ready (h : Hp) (c : Ls) (k : Hp) (d : Ls) (a : Int) : Prop where
  m : ∀ ls, MayF h (c :: ls) -> MayX k (d :: ls) a
  wl : k.w.length = h.w.length
  pl : k.p.length = h.p.length
  cl : k.c = h.c
  old : ∀ e, roomA h.p e > 0 -> wordE h e ≠ 0 -> e ≠ a /\ Stay h k e
  new : ∀ e, roomA k.p e > 0 -> e ≠ a -> wordE k e ≠ 0 -> roomA h.p e > 0 /\ wordE h e = wordE k e
  told : ∀ ls, Told h (c :: ls) -> ∀ e, e ≠ a -> roomA k.p e > 0 -> wordE k e = 0 -> e ∈ catI (k.f :: d :: ls)
theorem pop_in {d : Ls} {i : Int} (i0 : 0 <= i) (i2 : i <= 2) (hne : d.get i.toNat ≠ []) {j : Nat} (hj : j < 3) {e : Int} (he : e ∈ d.get j) (hl : e ≠ lastL d i) : e ∈ (popL d i).get j := by
  unfold popL
  rw [get_set hj (by omega)]
  by_cases hjk : j = i.toNat
  . rw [if_pos hjk]
    rw [hjk, <- List.take_append_drop ((d.get i.toNat).length - 1) (d.get i.toNat), last_drop hne] at he
    rcases List.mem_append.1 he with he | he
    . exact he
    . exact absurd (List.mem_singleton.1 he) hl
  . rw [if_neg hjk]; exact he
theorem Step0.pop {h k : Hp} {c d : Ls} (s : Step0 h c k d) (hm : MayF h [c]) {i : Int} (i0 : 0 <= i) (i2 : i <= 2) (hne : d.get i.toNat ≠ []) :
    Ready h c k (popL d i) (lastL d i) /\ roomA k.p (lastL d i) > 0 /\ pageE k (lastL d i) = (1, i) := by
  obtain ⟨_, hv, _⟩ := (s.m [] hm).pop i0 i2 hne
  obtain ⟨v1, v2, v3⟩ := listV_facts hv
  refine ⟨⟨fun ls m => ((s.m ls m).pop i0 i2 hne).1, s.wl, s.pl, s.cl, fun e h1 h2 => ⟨fun q => ?_, s.old e h1 h2⟩, fun e h1 _ h2 => s.new e h1 h2, fun ls t e hq h1 h2 => ?_⟩, v1, v2⟩
  . have := (s.old e h1 h2).word h1
    rw [q, v3] at this
    exact h2 (q ▸ this.symm)
  . rcases cat_two.1 (s.told ls t e h1 h2) with ⟨j, hj, he | he⟩ | he
    . exact cat_two.2 (.inl ⟨j, hj, .inl he⟩)
    . exact cat_two.2 (.inl ⟨j, hj, .inr (pop_in i0 i2 hne hj he hq)⟩)
    . exact cat_two.2 (.inr he)
theorem large_ready {h : Hp} {c : Ls} (hm : MayF h [c]) {n : Int} {at' : Nat} (hf : findE h.p n = some at') : Ready h c (largeH h at' n) c (16 * ((at' : Int) + 1)) := by
  have L := hm.large hf
  refine ⟨fun ls m => (m.large hf).m, rfl, L.l, rfl, fun e h1 h2 => ?_, fun e h1 hne h2 => ?_, fun ls t e hne h1 h2 => ?_⟩
  . obtain ⟨g1, g2, g3, _⟩ := L.old e h1
    exact ⟨g1, g2, g3, fun _ _ _ => rfl⟩
  . rcases L.new e h1 with g | g
    . exact absurd g hne
    . exact ⟨g, (L.old e g).2.2.2.symm⟩
  . rcases L.new e h1 with g | g
    . exact absurd g hne
    . rw [(L.old e g).2.2.2] at h2
      exact t e g h2
structure Took (h : Hp) (c : Ls) (x : Hd) (k : Hp) (d : Ls) (a : Int) : Prop where
  m : ∀ ls, MayF h (c :: ls) -> MayF k (d :: ls)
  wl : k.w.length = h.w.length
  pl : k.p.length = h.p.length
  cl : k.c = h.c
  r : roomA k.p a > 0
  fit : fitsE (pageE k a) x.x = true
  w : wordE k a = packH x
  z : ∀ j : Nat, a - 16 < (j : Int) -> (j : Int) < a - 16 + roomA k.p a -> k.w[j]? = some 0
  old : ∀ e, roomA h.p e > 0 -> wordE h e ≠ 0 -> e ≠ a /\ Stay h k e
  new : ∀ e, roomA k.p e > 0 -> e ≠ a -> wordE k e ≠ 0 -> roomA h.p e > 0 /\ wordE h e = wordE k e
  told : ∀ ls, Told h (c :: ls) -> Told k (d :: ls)
theorem Ready.took {h k : Hp} {c d : Ls} {a : Int} (s : Ready h c k d a) (hm : MayF h [c]) {x : Hd} (h1 : mayH x = true) (h2 : x.a = true) (h3 : fitsE (pageE k a) x.x = true) : Took h c x (putH k a (packH x)) d a := by
  have X := s.m [] hm
  refine ⟨fun ls m => (s.m ls m).put (unpOK_pack h1 h2) (by rw [unp_pack h1 h2]; exact h2) (by rw [unp_pack h1 h2]; exact h3), ?_, s.pl, s.cl, X.r, h3, putH_at X.sh X.r, fun j j1 j2 => ?_, fun e g1 g2 => ?_, fun e g1 g2 g3 => ?_, fun ls t e g1 g2 => ?_⟩
  . rw [putH_len X.sh X.r]; exact s.wl
  . have j2 : (j : Int) < a - 16 + roomA k.p a := j2
    rw [putH_get X.sh X.r, if_neg (by omega), if_pos ⟨by omega, j2⟩]
  . obtain ⟨g3, g4⟩ := s.old e g1 g2
    refine ⟨g3, g4.trans ⟨rfl, rfl, fun j j1 j2 => ?_⟩⟩
    have he : roomA k.p e > 0 := by rw [g4.1]; exact g1
    have := (room_in he).1
    rw [putH_get X.sh X.r, if_neg, if_neg]
    . rcases cells_apart X.r he g3 with q | q
      . rcases cells_apart he X.r g3.symm with q2 | q2 <;> omega
      . omega
    . have := X.r
      rcases cells_apart X.r he g3 with q | q
      . rcases cells_apart he X.r g3.symm with q2 | q2 <;> omega
      . omega
  . have g1 : roomA k.p e > 0 := g1
    rw [putH_keep X.sh X.r g1 g2] at g3
    rw [putH_keep X.sh X.r g1 g2]
    exact s.new e g1 g2 g3
  . have g1 : roomA k.p e > 0 := g1
    by_cases q : e = a
    . rw [q, putH_at X.sh X.r] at g2
      exfalso
      have := unp_pack h1 h2
      rw [g2] at this
      rw [<- this] at h2
      cases h2
    . rw [putH_keep X.sh X.r g1 q] at g2
      exact s.told ls t e q g1 g2
theorem Took.obj {h k : Hp} {c d : Ls} {x : Hd} {a : Int} (t : Took h c x k d a) (h1 : mayH x = true) (h2 : x.a = true) : Obj k a /\ unpX k a = x := by
  have : unpX k a = x := by
    unfold unpX
    rw [t.w, unpOK_pack h1 h2, unp_pack h1 h2]; rfl
  exact ⟨⟨t.r, by rw [this]; exact h2⟩, this⟩
theorem Took.used {h k : Hp} {c d : Ls} {x : Hd} {a : Int} (t : Took h c x k d a) (h1 : mayH x = true) (h2 : x.a = true) (e : Int) : (roomA k.p e > 0 /\ wordE k e ≠ 0) ↔ ((roomA h.p e > 0 /\ wordE h e ≠ 0) \/ e = a) := by
  constructor
  . rintro ⟨g1, g2⟩
    by_cases q : e = a
    . exact .inr q
    . obtain ⟨g3, g4⟩ := t.new e g1 q g2
      exact .inl ⟨g3, by rw [g4]; exact g2⟩
  . rintro (⟨g1, g2⟩ | rfl)
    . obtain ⟨_, g3⟩ := t.old e g1 g2
      exact ⟨by rw [g3.1]; exact g1, by rw [g3.word g1]; exact g2⟩
    . exact ⟨t.r, (t.obj h1 h2).1.w⟩
end Go.Ab

namespace Go.Ab
open Go
open Go.Proofs
def lenL (l : Ls) (n : Nat) : Prop := ∀ k, k < 3 -> (l.get k).length <= n
theorem lenL.smL {l : Ls} {n : Nat} (hl : lenL l n) (hn : n <= 100000) : smL l = true :=
  smL_len (Nat.le_trans (hl 0 (by omega)) hn) (Nat.le_trans (hl 1 (by omega)) hn) (Nat.le_trans (hl 2 (by omega)) hn)
theorem lenL.mono {l : Ls} {n m : Nat} (hl : lenL l n) (h : n <= m) : lenL l m := fun k hk => Nat.le_trans (hl k hk) h
theorem lenL.set {l : Ls} {n m : Nat} (hl : lenL l n) {x : List Int} {i : Nat} (hi : i < 3) (hx : x.length <= m) (hn : n <= m) : lenL (l.set x i) m := fun k hk => by
  rw [get_set hk hi]
  by_cases h : k = i
  . rw [if_pos h]; exact hx
  . rw [if_neg h]; exact Nat.le_trans (hl k hk) hn
theorem newYs_len {h : Hp} (hl : h.p.length <= 200) (at' : Nat) (i : Int) : (newYs h at' i).length <= 8192 := by
  unfold newYs
  rw [List.length_reverse, <- onL_filter]
  refine Nat.le_trans (List.length_filter_le _ _) ?_
  exact Nat.le_of_ble_eq_true (all_len8 (Nat.ble_eq_true_of_le (by simpa using hl)))
theorem pg_some {h : Hp} {c : Ls} {at' : Nat} (hf : findE h.p 1 = some at') {i : Int} (i0 : 0 <= i) (i2 : i <= 2) :
    pgE ⟨h, c⟩ = 0 /\ pgFr ⟨h, c⟩ i = ⟨pageH h at' i, c⟩ /\ pgPs ⟨h, c⟩ i = h.p.set at' (1, i) /\ pgYs ⟨h, c⟩ i = newYs h at' i := by
  have a0 : pgAt ⟨h, c⟩ = (at' : Int) := by unfold pgAt; show (((findE h.p 1).getD 0 : Nat) : Int) = _; rw [hf]; rfl
  have a1 : pgPs ⟨h, c⟩ i = h.p.set at' (1, i) := by unfold pgPs; rw [a0]; exact (small_put hf i0 i2).2.2.1
  have a2 : pgYs ⟨h, c⟩ i = newYs h at' i := by unfold pgYs; rw [a1, a0, segR_all]; rfl
  refine ⟨?_, ?_, a1, a2⟩
  . unfold pgE; show (bif (findE h.p 1).isSome then 0 else 4) = (0 : Int); rw [hf]; rfl
  . unfold pgFr
    show (bif (findE h.p 1).isSome then _ else _) = _
    rw [hf, a1, a2]; rfl
theorem move_len {f t : Ls} {n m : Nat} (hf : lenL f n) (ht : lenL t m) {i : Int} (i0 : 0 <= i) (i2 : i <= 2) : lenL (moveF f i) n /\ lenL (moveT f t i) (m + 2) := by
  refine ⟨hf.set (by omega) ?_ (Nat.le_refl n), ht.set (by omega) ?_ (by omega)⟩
  . have := hf i.toNat (by omega)
    rw [List.length_take]; omega
  . have := ht i.toNat (by omega)
    rw [List.length_append, List.length_reverse, List.length_drop]; omega
theorem pop_len {t : Ls} {m : Nat} (ht : lenL t m) {i : Int} (i0 : 0 <= i) (i2 : i <= 2) : lenL (popL t i) m := by
  refine ht.set (by omega) ?_ (Nat.le_refl m)
  have := ht i.toNat (by omega)
  rw [List.length_take]; omega
theorem move_ne {f t : Ls} {i : Int} (i0 : 0 <= i) (i2 : i <= 2) (hn : f.get i.toNat ≠ []) : (moveT f t i).get i.toNat ≠ [] := by
  unfold moveT
  rw [get_set (by omega) (by omega), if_pos rfl]
  intro q
  have := congrArg List.length q
  have h1 := List.length_pos_iff.2 hn
  rw [List.length_append, List.length_reverse, List.length_drop, List.length_nil] at this
  omega
theorem pop_one {f t : Ls} {i : Int} (i0 : 0 <= i) (i2 : i <= 2) (hn : t.get i.toNat = []) : ((popL (moveT f t i) i).get i.toNat).length <= 1 := by
  unfold popL moveT
  rw [get_set (by omega) (by omega), if_pos rfl, get_set (by omega) (by omega), if_pos rfl, hn, List.length_take, List.nil_append, List.length_reverse, List.length_drop]
  omega
theorem isE {l : List Int} (h : l.isEmpty = true) : l = [] := List.isEmpty_iff.1 h
theorem isNE {l : List Int} (h : l.isEmpty = false) : l ≠ [] := fun q => by rw [q] at h; cases h
inductive Small (h : Hp) (c : Ls) (i : Int) : Prop where
  | full (e : smE ⟨h, c⟩ i = (0, 4)) (e1 : c.get i.toNat = []) (e2 : h.f.get i.toNat = []) (e3 : findE h.p 1 = none)
  | some (e : (smE ⟨h, c⟩ i).2 = 0) (r : Ready h c (smFr ⟨h, c⟩ i).h (smFr ⟨h, c⟩ i).c (smE ⟨h, c⟩ i).1) (p : pageE (smFr ⟨h, c⟩ i).h (smE ⟨h, c⟩ i).1 = (1, i))
      (ne : (findE h.p 1).isSome = true \/ h.f.get i.toNat ≠ [] \/ c.get i.toNat ≠ [])
      (l : (c.get i.toNat = [] /\ ((smFr ⟨h, c⟩ i).c.get i.toNat).length <= 1) \/ (c.get i.toNat ≠ [] /\ (smFr ⟨h, c⟩ i).c = popL c i /\ (smE ⟨h, c⟩ i).1 = lastL c i /\ (smFr ⟨h, c⟩ i).h.f = h.f))
      (n : ∀ n m, lenL h.f n -> lenL c m -> lenL (smFr ⟨h, c⟩ i).h.f (n + 8192) /\ lenL (smFr ⟨h, c⟩ i).c (m + 2))
theorem isC_of {i : Int} (i0 : 0 <= i) (i2 : i <= 2) : isC i = true := by
  have : i = 0 \/ i = 1 \/ i = 2 := by omega
  rcases this with rfl | rfl | rfl <;> rfl
theorem sm_take {h : Hp} {c : Ls} (hm : MayF h [c]) (hf : lenL h.f 90000) (hc : lenL c 90000) {i : Int} (i0 : 0 <= i) (i2 : i <= 2) : smPre ⟨h, c⟩ i = true /\ Small h c i := by
  obtain ⟨q1, _, _⟩ := shaped_ne hm.sh
  obtain ⟨_, l64⟩ := may_len q1
  have hsc : Go.Ab.smL c = true := hc.smL (by omega)
  have hsf : Go.Ab.smL h.f = true := hf.smL (by omega)
  have okMP_of : ∀ (f : Ls), lenL f 99000 -> f.get i.toNat ≠ [] -> ∀ g : Hp, g.f = f -> okMP ⟨g, c⟩ i = true := fun f h1 h2 g hg => by
    obtain ⟨m1, m2⟩ := move_len h1 hc i0 i2
    unfold okMP
    show (Go.Ab.smL g.f && (Go.Ab.smL c && (Go.Ab.smL (moveT g.f c i) && !((moveT g.f c i).get i.toNat).isEmpty))) = true
    rw [hg, h1.smL (by omega), hsc, m2.smL (by omega)]
    cases hq : ((moveT f c i).get i.toNat).isEmpty with
    | false => rfl
    | true => exact absurd (isE hq) (move_ne i0 i2 h2)
  have hpre : smPre ⟨h, c⟩ i = (isC i && (Go.Ab.smL c && bif !(c.get i.toNat).isEmpty then true else bif !(h.f.get i.toNat).isEmpty then okMP ⟨h, c⟩ i else pgPre ⟨h, c⟩ i && bif pgE ⟨h, c⟩ != 0 then true else okMP (pgFr ⟨h, c⟩ i) i)) := rfl
  have hE : smE ⟨h, c⟩ i = bif !(c.get i.toNat).isEmpty then (lastL c i, 0) else bif !(h.f.get i.toNat).isEmpty then (lastL (moveT h.f c i) i, 0) else bif pgE ⟨h, c⟩ != 0 then (0, pgE ⟨h, c⟩) else (lastL (smMove (pgFr ⟨h, c⟩ i) i).c i, 0) := rfl
  have hF : smFr ⟨h, c⟩ i = bif !(c.get i.toNat).isEmpty then ⟨h, popL c i⟩ else bif !(h.f.get i.toNat).isEmpty then ⟨{ h with f := moveF h.f i }, popL (moveT h.f c i) i⟩ else bif pgE ⟨h, c⟩ != 0 then pgFr ⟨h, c⟩ i else smPop (smMove (pgFr ⟨h, c⟩ i) i) i := rfl
  rw [hpre, isC_of i0 i2, hsc, Bool.true_and, Bool.true_and]
  cases e1 : (c.get i.toNat).isEmpty with
  | false =>
    rw [e1] at hE hF
    simp only [Bool.not_false, cond_true] at hE hF ⊢
    obtain ⟨R, _, hp⟩ := (Step0.refl h c).pop hm i0 i2 (isNE e1)
    refine ⟨trivial, .some (by rw [hE]) (by rw [hE, hF]; exact R) (by rw [hE, hF]; exact hp) (.inr (.inr (isNE e1))) (.inr ⟨isNE e1, by rw [hF], by rw [hE], by rw [hF]⟩) fun n m h1 h2 => ?_⟩
    rw [hF]
    exact ⟨h1.mono (by omega), (pop_len h2 i0 i2).mono (by omega)⟩
  | true =>
    rw [e1] at hE hF
    simp only [Bool.not_true, cond_false] at hE hF ⊢
    cases e2 : (h.f.get i.toNat).isEmpty with
    | false =>
      rw [e2] at hE hF
      simp only [Bool.not_false, cond_true] at hE hF ⊢
      obtain ⟨R, _, hp⟩ := ((Step0.refl h c).move i0 i2).pop hm i0 i2 (move_ne i0 i2 (isNE e2))
      refine ⟨okMP_of h.f (hf.mono (by omega)) (isNE e2) h rfl, .some (by rw [hE]) (by rw [hE, hF]; exact R) (by rw [hE, hF]; exact hp) (.inr (.inl (isNE e2))) (.inl ⟨isE e1, by rw [hF]; exact pop_one i0 i2 (isE e1)⟩) fun n m h1 h2 => ?_⟩
      rw [hF]
      obtain ⟨m1, m2⟩ := move_len h1 h2 i0 i2
      exact ⟨m1.mono (by omega), pop_len m2 i0 i2⟩
    | true =>
      rw [e2] at hE hF
      simp only [Bool.not_true, cond_false] at hE hF ⊢
      cases e3 : findE h.p 1 with
      | none =>
        have p1 : pgE ⟨h, c⟩ = 4 := by unfold pgE; show (bif (findE h.p 1).isSome then 0 else 4) = (4 : Int); rw [e3]; rfl
        have p2 : pgPre ⟨h, c⟩ i = true := by
          unfold pgPre
          show (Go.Ab.sm h.p && bif (findE h.p 1).isSome then _ else true) = true
          rw [e3, Go.Ab.sm_of (by omega)]; rfl
        rw [p1] at hE ⊢
        rw [p2]
        exact ⟨rfl, .full hE (isE e1) (isE e2) e3⟩
      | some at' =>
        obtain ⟨g1, g2, g3, g4⟩ := pg_some (c := c) e3 i0 i2
        have P := hm.page e3 i0 i2
        have S := page_step hm e3 i0 i2
        have hyl := newYs_len (h := h) (by omega) at' i
        have hpf : ∀ n, lenL h.f n -> lenL (pageH h at' i).f (n + 8192) := fun n hn k hk => by
          rw [show (pageH h at' i).f = app3 h.f (manyL i (newYs h at' i)) from push_many h.f _ i0 i2, app3_get, List.length_append, manyL_get i0 i2 hk]
          have := hn k hk
          by_cases q : (k : Int) = i
          . rw [if_pos q]; omega
          . rw [if_neg q]; show _ + 0 <= _; omega
        have hne : (pageH h at' i).f.get i.toNat ≠ [] := by
          rw [show (pageH h at' i).f = app3 h.f (manyL i (newYs h at' i)) from push_many h.f _ i0 i2, app3_get, manyL_get i0 i2 (by omega), if_pos (by omega)]
          intro q
          exact P.ne (List.append_eq_nil_iff.1 q).2
        rw [g1, g2] at hE hF
        have hE : smE ⟨h, c⟩ i = (lastL (moveT (pageH h at' i).f c i) i, 0) := hE
        have hF : smFr ⟨h, c⟩ i = ⟨{ pageH h at' i with f := moveF (pageH h at' i).f i }, popL (moveT (pageH h at' i).f c i) i⟩ := hF
        have hpre2 : pgPre ⟨h, c⟩ i = true := by
          unfold pgPre
          show (Go.Ab.sm h.p && bif (findE h.p 1).isSome then (Nat.ble (pgPs ⟨h, c⟩ i).length 200 && (Nat.ble (pgYs ⟨h, c⟩ i).length 100000 && (mayA h.w.length && ((pgYs ⟨h, c⟩ i).all (inA h.w) && (Go.Ab.smL h.f && isC i))))) else true) = true
          have hma : mayA h.w.length = true := by
            have := hm.sh
            simp only [shapedE, Bool.and_eq_true] at this
            exact this.1
          have hin : (newYs h at' i).all (inA h.w) = true := List.all_eq_true.2 fun y hy => by
            obtain ⟨y1, _⟩ := (P.ys y).1 hy
            obtain ⟨r1, r2⟩ := room_in y1
            have hpl : (pageH h at' i).p.length = h.p.length := S.pl
            have := shaped_w hm.sh
            unfold inA
            rw [decide_eq_true r1, decide_eq_true (by rw [hpl] at r2; omega)]; rfl
          rw [e3, g3, g4, Go.Ab.sm_of (by omega), List.length_set, Nat.ble_eq_true_of_le (show h.p.length <= 200 by omega), Nat.ble_eq_true_of_le (show (newYs h at' i).length <= 100000 by omega), hma, hin, hsf, isC_of i0 i2]; rfl
        obtain ⟨R, _, hp⟩ := (S.move i0 i2).pop hm i0 i2 (move_ne i0 i2 hne)
        refine ⟨?_, .some (by rw [hE]) (by rw [hE, hF]; exact R) (by rw [hE, hF]; exact hp) (.inl (by rw [e3]; rfl)) (.inl ⟨isE e1, by rw [hF]; exact pop_one i0 i2 (isE e1)⟩) fun n m h1 h2 => ?_⟩
        . rw [hpre2, g1, g2]
          exact okMP_of (pageH h at' i).f ((hpf 90000 hf).mono (by omega)) hne (pageH h at' i) rfl
        . rw [hF]
          obtain ⟨m1, m2⟩ := move_len (hpf n h1) h2 i0 i2
          exact ⟨m1, pop_len m2 i0 i2⟩
inductive Large (h : Hp) (c : Ls) (x : Int) : Prop where
  | full (e : lgE ⟨h, c⟩ x = (0, 4)) (e3 : findE h.p (runE x).1 = none)
  | some (e : (lgE ⟨h, c⟩ x).2 = 0) (r : Ready h c (lgFr ⟨h, c⟩ x).h c (lgE ⟨h, c⟩ x).1) (p : pageE (lgFr ⟨h, c⟩ x).h (lgE ⟨h, c⟩ x).1 = (2, (runE x).1)) (o : roomA (lgFr ⟨h, c⟩ x).h.p (lgE ⟨h, c⟩ x).1 = 16 * (runE x).1)
      (ne : (findE h.p (runE x).1).isSome = true) (lc : (lgFr ⟨h, c⟩ x).c = c) (lf : (lgFr ⟨h, c⟩ x).h.f = h.f)
theorem lg_take {h : Hp} {c : Ls} (hm : MayF h [c]) (x : Int) : lgPre ⟨h, c⟩ x = true /\ Large h c x := by
  obtain ⟨q1, _, _⟩ := shaped_ne hm.sh
  obtain ⟨_, l64⟩ := may_len q1
  have hma : mayA h.w.length = true := by
    have := hm.sh
    simp only [shapedE, Bool.and_eq_true] at this
    exact this.1
  have hpre : lgPre ⟨h, c⟩ x = (Go.Ab.sm h.p && bif (findE h.p (runE x).1).isSome then (mayA h.w.length && decide (16 * lgAt ⟨h, c⟩ x < (h.w.length : Int))) else true) := rfl
  have hE : lgE ⟨h, c⟩ x = bif (findE h.p (runE x).1).isSome then (16 * (lgAt ⟨h, c⟩ x + 1), 0) else (0, 4) := rfl
  have hF : lgFr ⟨h, c⟩ x = bif (findE h.p (runE x).1).isSome then ⟨⟨h.w, (largeE h.p (lgAt ⟨h, c⟩ x) (runE x).1).2, h.f, h.c⟩, c⟩ else ⟨h, c⟩ := rfl
  rw [hpre, Go.Ab.sm_of (by omega), Bool.true_and]
  cases e3 : findE h.p (runE x).1 with
  | none =>
    rw [e3] at hE
    exact ⟨rfl, .full hE e3⟩
  | some at' =>
    have ha : lgAt ⟨h, c⟩ x = (at' : Int) := by unfold lgAt; show (((findE h.p (runE x).1).getD 0 : Nat) : Int) = _; rw [e3]; rfl
    rw [e3, ha] at hE hF
    have hE : lgE ⟨h, c⟩ x = (16 * ((at' : Int) + 1), 0) := hE
    have hF : lgFr ⟨h, c⟩ x = ⟨largeH h at' (runE x).1, c⟩ := hF
    obtain ⟨n1, n4, hle, _⟩ := large_put e3
    have L := hm.large e3
    have := shaped_w hm.sh
    refine ⟨?_, .some (by rw [hE]) (by rw [hE, hF]; exact large_ready hm e3) (by rw [hE, hF]; exact L.p) (by rw [hE, hF]; exact L.r) (by rw [e3]; rfl) (by rw [hF]) (by rw [hF]; rfl)⟩
    rw [ha, hma, decide_eq_true (by omega)]; rfl
end Go.Ab

namespace Go.Ab
open Go
open Go.Proofs
def hZ : Hp := ⟨[], [], ⟨[], [], []⟩, []⟩
def badT (e : Int) : Hp × Ls × Int × Int := (hZ, Ls.e, 0, e)
def takeS (s : Fr) (r : Int × Int) (x : Hd) : Hp × Ls × Int × Int := bif r.2 != 0 then badT r.2 else (putH s.h r.1 (packH x), s.c, r.1, 0)
def takeE (h : Hp) (c : Ls) (x : Hd) : Hp × Ls × Int × Int := bif (packE x).2 != 0 then badT 1 else bif !x.a then badT 1 else bif !mayHpV h [c] then badT 1 else bif (ofE x.x).2 != 0 then badT (ofE x.x).2 else
  bif (ofE x.x).1 == 3 then takeS (lgFr ⟨h, c⟩ x.x) (lgE ⟨h, c⟩ x.x) x else takeS (smFr ⟨h, c⟩ (ofE x.x).1) (smE ⟨h, c⟩ (ofE x.x).1) x
theorem of_small {n : Int} (h0 : ((ofE n).2 != 0) = false) (h3 : ((ofE n).1 == 3) = false) : 0 <= (ofE n).1 /\ (ofE n).1 <= 2 := by
  revert h0 h3
  unfold ofE
  cases decide (n < 1) with
  | true => intro h; cases h
  | false =>
    cases decide (n > 63) with
    | true => intro h; cases h
    | false =>
      cases decide (n > 7) with
      | true => intro _ h; cases h
      | false =>
        cases decide (n > 3) with
        | true => intro _ _; exact ⟨(by decide : (0 : Int) <= 2), (by decide : (2 : Int) <= 2)⟩
        | false =>
          cases decide (n > 1) with
          | true => intro _ _; exact ⟨(by decide : (0 : Int) <= 1), (by decide : (1 : Int) <= 2)⟩
          | false => intro _ _; exact ⟨(by decide : (0 : Int) <= 0), (by decide : (0 : Int) <= 2)⟩
theorem nE {x : Int} (h : (x != 0) = false) : x = 0 := by simpa using h
theorem run_val {n : Int} (h0 : ((ofE n).2 != 0) = false) (h3 : ((ofE n).1 == 3) = true) : (runE n).2 = 0 := by
  unfold runE
  rw [h0]
  rw [beq_iff_eq] at h3
  rw [h3]; rfl
theorem pack_ok {x : Hd} (h : ((packE x).2 != 0) = false) : mayH x = true /\ (packE x).1 = packH x := by
  unfold packE at h ⊢
  cases hm : mayH x with
  | false => rw [hm] at h; cases h
  | true => exact ⟨rfl, rfl⟩
inductive Take (h : Hp) (c : Ls) (x : Hd) : Prop where
  | arg (e : takeE h c x = badT 1) (no : mayH x = true -> x.a = true -> MayF h [c] -> False)
  | of (m : MayF h [c]) (x1 : mayH x = true) (x2 : x.a = true) (o : (ofE x.x).2 ≠ 0) (e : takeE h c x = badT (ofE x.x).2)
  | fullS (m : MayF h [c]) (x1 : mayH x = true) (x2 : x.a = true) (o : ((ofE x.x).2 != 0) = false) (o3 : ((ofE x.x).1 == 3) = false) (e : takeE h c x = badT 4) (e1 : c.get (ofE x.x).1.toNat = []) (e2 : h.f.get (ofE x.x).1.toNat = []) (e3 : findE h.p 1 = none)
  | fullL (m : MayF h [c]) (x1 : mayH x = true) (x2 : x.a = true) (o : ((ofE x.x).2 != 0) = false) (o3 : ((ofE x.x).1 == 3) = true) (e : takeE h c x = badT 4) (e3 : findE h.p (runE x.x).1 = none)
  | small (m : MayF h [c]) (x1 : mayH x = true) (x2 : x.a = true) (o : ((ofE x.x).2 != 0) = false) (o3 : ((ofE x.x).1 == 3) = false) (k : Hp) (d : Ls) (a : Int) (e : takeE h c x = (k, d, a, 0)) (t : Took h c x k d a) (r : roomA k.p a = wordsOf (ofE x.x).1)
      (ne : (findE h.p 1).isSome = true \/ h.f.get (ofE x.x).1.toNat ≠ [] \/ c.get (ofE x.x).1.toNat ≠ [])
      (l : (c.get (ofE x.x).1.toNat = [] /\ (d.get (ofE x.x).1.toNat).length <= 1) \/ (c.get (ofE x.x).1.toNat ≠ [] /\ d = popL c (ofE x.x).1 /\ a = lastL c (ofE x.x).1 /\ k.f = h.f))
      (n : ∀ n m, lenL h.f n -> lenL c m -> lenL k.f (n + 8192) /\ lenL d (m + 2))
  | large (m : MayF h [c]) (x1 : mayH x = true) (x2 : x.a = true) (o : ((ofE x.x).2 != 0) = false) (o3 : ((ofE x.x).1 == 3) = true) (k : Hp) (a : Int) (e : takeE h c x = (k, c, a, 0)) (t : Took h c x k c a) (r : roomA k.p a = 16 * (runE x.x).1)
      (ne : (findE h.p (runE x.x).1).isSome = true) (l : k.f = h.f)
theorem take_arg1 {h : Hp} {c : Ls} {x : Hd} (h1 : ((packE x).2 != 0) = true) : takeE h c x = badT 1 := by unfold takeE; rw [h1]; rfl
theorem take_arg2 {h : Hp} {c : Ls} {x : Hd} (h1 : ((packE x).2 != 0) = false) (h2 : (!x.a) = true) : takeE h c x = badT 1 := by unfold takeE; rw [h1, h2]; rfl
theorem take_arg3 {h : Hp} {c : Ls} {x : Hd} (h1 : ((packE x).2 != 0) = false) (h2 : (!x.a) = false) (h3 : (!mayHpV h [c]) = true) : takeE h c x = badT 1 := by unfold takeE; rw [h1, h2, h3]; rfl
theorem take_of {h : Hp} {c : Ls} {x : Hd} (h1 : ((packE x).2 != 0) = false) (h2 : (!x.a) = false) (h3 : (!mayHpV h [c]) = false) (h4 : ((ofE x.x).2 != 0) = true) : takeE h c x = badT (ofE x.x).2 := by unfold takeE; rw [h1, h2, h3, h4]; rfl
theorem take_lg {h : Hp} {c : Ls} {x : Hd} (h1 : ((packE x).2 != 0) = false) (h2 : (!x.a) = false) (h3 : (!mayHpV h [c]) = false) (h4 : ((ofE x.x).2 != 0) = false) (h5 : ((ofE x.x).1 == 3) = true) : takeE h c x = takeS (lgFr ⟨h, c⟩ x.x) (lgE ⟨h, c⟩ x.x) x := by unfold takeE; rw [h1, h2, h3, h4, h5]; rfl
theorem take_sm {h : Hp} {c : Ls} {x : Hd} (h1 : ((packE x).2 != 0) = false) (h2 : (!x.a) = false) (h3 : (!mayHpV h [c]) = false) (h4 : ((ofE x.x).2 != 0) = false) (h5 : ((ofE x.x).1 == 3) = false) : takeE h c x = takeS (smFr ⟨h, c⟩ (ofE x.x).1) (smE ⟨h, c⟩ (ofE x.x).1) x := by unfold takeE; rw [h1, h2, h3, h4, h5]; rfl
theorem take_fin {h : Hp} {c : Ls} (x : Hd) (hf : lenL h.f 90000) (hc : lenL c 90000) : Take h c x := by
  cases h1 : (packE x).2 != 0 with
  | true => exact .arg (take_arg1 h1) fun q _ _ => by unfold packE at h1; rw [q] at h1; cases h1
  | false =>
    obtain ⟨x1, _⟩ := pack_ok h1
    cases h2 : !x.a with
    | true => exact .arg (take_arg2 h1 h2) fun _ q _ => by rw [q] at h2; cases h2
    | false =>
      have x2 : x.a = true := by simpa using h2
      cases h3 : !mayHpV h [c] with
      | true => exact .arg (take_arg3 h1 h2 h3) fun _ _ q => by rw [mayF_iff.2 q] at h3; cases h3
      | false =>
        have hm : MayF h [c] := mayF_iff.1 (by simpa using h3)
        cases h4 : (ofE x.x).2 != 0 with
        | true => exact .of hm x1 x2 (by simpa using h4) (take_of h1 h2 h3 h4)
        | false =>
          cases h5 : (ofE x.x).1 == 3 with
          | true =>
            have e0 := take_lg h1 h2 h3 h4 h5
            rcases (lg_take hm x.x).2 with ⟨e, e3⟩ | ⟨e, r, p, o, ne, lc, lf⟩
            . rw [e] at e0
              exact .fullL hm x1 x2 h4 h5 e0 e3
            . have e1 : takeE h c x = (putH (lgFr ⟨h, c⟩ x.x).h (lgE ⟨h, c⟩ x.x).1 (packH x), c, (lgE ⟨h, c⟩ x.x).1, 0) := by
                rw [e0]; unfold takeS; rw [e, lc]; rfl
              refine .large hm x1 x2 h4 h5 _ _ e1 (r.took hm x1 x2 ?_) o ne lf
              rw [p]
              show ((runE x.x).2 == 0 && (runE x.x).1 == (runE x.x).1) = true
              rw [run_val h4 h5]; simp
          | false =>
            have e0 := take_sm h1 h2 h3 h4 h5
            obtain ⟨i0, i2⟩ := of_small h4 h5
            rcases (sm_take hm hf hc i0 i2).2 with ⟨e, e1, e2, e3⟩ | ⟨e, r, p, ne, l, n⟩
            . rw [e] at e0
              exact .fullS hm x1 x2 h4 h5 e0 e1 e2 e3
            . have e1 : takeE h c x = (putH (smFr ⟨h, c⟩ (ofE x.x).1).h (smE ⟨h, c⟩ (ofE x.x).1).1 (packH x), (smFr ⟨h, c⟩ (ofE x.x).1).c, (smE ⟨h, c⟩ (ofE x.x).1).1, 0) := by
                rw [e0]; unfold takeS; rw [e]; rfl
              refine .small hm x1 x2 h4 h5 _ _ _ e1 (r.took hm x1 x2 ?_) ?_ ne l n
              . rw [p]
                show ((ofE x.x).2 == 0 && (ofE x.x).1 == (ofE x.x).1) = true
                rw [nE h4]; simp
              . have hr := (r.m [] hm).r
                obtain ⟨_, _, _, _, q, _, q5, q6⟩ := cell_facts hr
                have q5 : pageE (smFr ⟨h, c⟩ (ofE x.x).1).h (smE ⟨h, c⟩ (ofE x.x).1).1 = q := q5
                rw [p] at q5
                subst q5
                rcases q6 with ⟨g, _⟩ | ⟨_, _, _, _, g⟩
                . cases g
                . exact g
end Go.Ab

namespace Go.Ab
open Go
open Go.Proofs
def preT (h : Hp) (c : Ls) : Bool := smH h && (smL1 h.f && smL1 c)
def gTake : Callee := g3 cHp cLs cHd (fun h c _ => preT h c) fun h c x => .tup [cHp.enc (takeE h c x).1, cLs.enc (takeE h c x).2.1, cI.enc (takeE h c x).2.2.1, cI.enc (takeE h c x).2.2.2]
theorem smL1_len {l : Ls} (h : smL1 l = true) : lenL l 90000 := fun k hk => by
  unfold smL1 at h
  simp only [Bool.and_eq_true] at h
  have : k = 0 \/ k = 1 \/ k = 2 := by omega
  rcases this with rfl | rfl | rfl
  . exact Nat.le_of_ble_eq_true h.1
  . exact Nat.le_of_ble_eq_true h.2.1
  . exact Nat.le_of_ble_eq_true h.2.2
theorem soft_bad (e : Int) : soft 4 (CV.tup [CV.agg [CV.own 1 [], CV.own 2 [], CV.own 1 [], CV.own 1 [], CV.own 1 [], CV.own 1 []], CV.agg [CV.own 1 [], CV.own 1 [], CV.own 1 []], CV.int IntKind.i64 0, CV.int IntKind.i64 e]) =
    some (.tup [cHp.enc (badT e).1, cLs.enc (badT e).2.1, cI.enc (badT e).2.2.1, cI.enc (badT e).2.2.2]) := rfl
def rvBad (e : Int) : CV := CV.tup [CV.agg [CV.own 1 [], CV.own 2 [], CV.own 1 [], CV.own 1 [], CV.own 1 [], CV.own 1 []], CV.agg [CV.own 1 [], CV.own 1 [], CV.own 1 []], CV.int IntKind.i64 0, CV.int IntKind.i64 e]
theorem take_good : GoodC Pr 23 gTake :=
  good3S ((CxOK.baseN (Good.cons pack57_good (Good.cons mayHp_good (Good.cons of_good (Good.cons ownH_good (Good.cons cloneA_good (Good.cons zeroC_good (Good.cons roomH_good (Good.cons putC_good (Good.cons smallF_good (Good.cons largeF_good Good.nil)))))))))) (GoodI.cons fail_inl GoodI.nil) (eqOK_none fun _ => rfl)).sound (cx := z23) Tryz.func23 (by kernel_rfl) (by kernel_rfl) rfl (by kernel_rfl)) fun h c x hp => by
    unfold preT at hp
    simp only [Bool.and_eq_true] at hp
    obtain ⟨hs, hf, hc⟩ := hp
    have lf := smL1_len hf
    have lc := smL1_len hc
    have hls : smLs [h.f, c] = true := by
      unfold smLs
      rw [List.all_cons, List.all_cons, lf.smL (by omega), lc.smL (by omega)]; rfl
    have eh : (⟨h.w, h.p, ⟨h.f.a, h.f.b, h.f.c⟩, h.c⟩ : Hp) = h := rfl
    have ec : (⟨c.a, c.b, c.c⟩ : Ls) = c := rfl
    have ex : ({ a := Hd.a x, b := Hd.b x, c := Hd.c x, x := Hd.x x, y := Hd.y x, z := Hd.z x } : Hd) = x := rfl
    have d1 : decLs [[CV.sl 1 (encI (Ls.a c)), CV.sl 1 (encI (Ls.b c)), CV.sl 1 (encI (Ls.c c))]] = some [c] := decLs_map [c]
    cases h1 : (packE x).2 != 0 with
    | true =>
      rw [take_arg1 h1]
      exact ⟨_, soft_bad 1, fun β K => by rw [zr23, ex, h1]; rfl⟩
    | false =>
      obtain ⟨x1, xw⟩ := pack_ok h1
      cases h2 : !x.a with
      | true =>
        rw [take_arg2 h1 h2]
        exact ⟨_, soft_bad 1, fun β K => by rw [zr23, ex, h1, h2]; rfl⟩
      | false =>
        have x2 : x.a = true := by simpa using h2
        cases h3 : !mayHpV h [c] with
        | true =>
          rw [take_arg3 h1 h2 h3]
          refine ⟨_, soft_bad 1, fun β K => ?_⟩
          rw [zr23, ex, h1, h2]
          simp only [cond_false, decI_map, decP_map, decBs_enc, Option.bind_some, d1, eh, hs, hls, Bool.and_self, cond_true, h3]
        | false =>
          have hm : MayF h [c] := mayF_iff.1 (by simpa using h3)
          obtain ⟨q1, q2, q3⟩ := shaped_ne hm.sh
          obtain ⟨_, l64⟩ := may_len q1
          cases h4 : (ofE x.x).2 != 0 with
          | true =>
            rw [take_of h1 h2 h3 h4]
            refine ⟨_, soft_bad _, fun β K => ?_⟩
            rw [zr23, ex, h1, h2]
            simp only [cond_false, decI_map, decP_map, decBs_enc, Option.bind_some, d1, eh, hs, hls, Bool.and_self, cond_true, h3, h4]
          | false =>
            have dF : decFr (encI h.w) (List.map encP h.p) (encI h.f.a) (encI h.f.b) (encI h.f.c) (encBs h.c) (encI c.a) (encI c.b) (encI c.c) = some ⟨h, c⟩ := decFr_enc ⟨h, c⟩
            have ba : Nat.ble c.a.length 4000000000 = true := Nat.ble_eq_true_of_le (Nat.le_trans (lc 0 (by omega)) (by omega))
            have bb : Nat.ble c.b.length 4000000000 = true := Nat.ble_eq_true_of_le (Nat.le_trans (lc 1 (by omega)) (by omega))
            have bc : Nat.ble c.c.length 4000000000 = true := Nat.ble_eq_true_of_le (Nat.le_trans (lc 2 (by omega)) (by omega))
            cases h5 : (ofE x.x).1 == 3 with
            | true =>
              rw [take_lg h1 h2 h3 h4 h5]
              obtain ⟨hpre, hL⟩ := lg_take hm x.x
              rcases hL with ⟨e, e3⟩ | ⟨e, r, p, o, ne, l1, l2⟩
              . refine ⟨rvBad 4, by rw [e]; exact soft_bad 4, fun β K => ?_⟩
                rw [zr23, ex, h1, h2]
                simp only [cond_false, decI_map, decP_map, decBs_enc, Option.bind_some, d1, eh, hs, hls, Bool.and_self, cond_true, h3, h4, q2, q3, Bool.not_false, ba, bb, bc, h5, dF, hpre]
                rw [e]
                rfl
              . have X := r.m [] hm
                obtain ⟨z1, z2, z3⟩ := zero_in X.sh X.r
                have hzl := zero_len z1 z2 z3
                have hma : mayA (lgFr ⟨h, c⟩ x.x).h.w.length = true := by
                  have := X.sh
                  simp only [shapedE, Bool.and_eq_true] at this
                  exact this.1
                have hr := X.r
                have hpl := r.pl
                have c1 : Nat.ble (lgFr ⟨h, c⟩ x.x).h.p.length 200 = true := Nat.ble_eq_true_of_le (by omega)
                refine ⟨.tup [cHp.enc (putH (lgFr ⟨h, c⟩ x.x).h (lgE ⟨h, c⟩ x.x).1 (packH x)), cLs.enc (lgFr ⟨h, c⟩ x.x).c, cI.enc (lgE ⟨h, c⟩ x.x).1, .int .i64 0], by unfold takeS; rw [e]; rfl, fun β K => ?_⟩
                rw [zr23, ex, h1, h2]
                simp only [cond_false, decI_map, decP_map, decBs_enc, Option.bind_some, d1, eh, hs, hls, Bool.and_self, cond_true, h3, h4, q2, q3, Bool.not_false, ba, bb, bc, h5, dF, hpre, e, bne_self_eq_false, c1, hma, decide_eq_true z1, decide_eq_true (show 1 <= roomA (lgFr ⟨h, c⟩ x.x).h.p (lgE ⟨h, c⟩ x.x).1 by omega), decide_eq_true z3, hzl, decide_eq_true (show (lgE ⟨h, c⟩ x.x).1 - 16 < ((lgFr ⟨h, c⟩ x.x).h.w.length : Int) by omega), xw]
                rfl
            | false =>
              rw [take_sm h1 h2 h3 h4 h5]
              obtain ⟨i0, i2⟩ := of_small h4 h5
              obtain ⟨hpre, hL⟩ := sm_take hm lf lc i0 i2
              rcases hL with ⟨e, e1, e2, e3⟩ | ⟨e, r, p, ne, l, n⟩
              . refine ⟨rvBad 4, by rw [e]; exact soft_bad 4, fun β K => ?_⟩
                rw [zr23, ex, h1, h2]
                simp only [cond_false, decI_map, decP_map, decBs_enc, Option.bind_some, d1, eh, hs, hls, Bool.and_self, cond_true, h3, h4, q2, q3, Bool.not_false, ba, bb, bc, h5, dF, hpre]
                rw [e]
                rfl
              . have X := r.m [] hm
                obtain ⟨z1, z2, z3⟩ := zero_in X.sh X.r
                have hzl := zero_len z1 z2 z3
                have hma : mayA (smFr ⟨h, c⟩ (ofE x.x).1).h.w.length = true := by
                  have := X.sh
                  simp only [shapedE, Bool.and_eq_true] at this
                  exact this.1
                have hr := X.r
                have hpl := r.pl
                have c1 : Nat.ble (smFr ⟨h, c⟩ (ofE x.x).1).h.p.length 200 = true := Nat.ble_eq_true_of_le (by omega)
                refine ⟨.tup [cHp.enc (putH (smFr ⟨h, c⟩ (ofE x.x).1).h (smE ⟨h, c⟩ (ofE x.x).1).1 (packH x)), cLs.enc (smFr ⟨h, c⟩ (ofE x.x).1).c, cI.enc (smE ⟨h, c⟩ (ofE x.x).1).1, .int .i64 0], by unfold takeS; rw [e]; rfl, fun β K => ?_⟩
                rw [zr23, ex, h1, h2]
                simp only [cond_false, decI_map, decP_map, decBs_enc, Option.bind_some, d1, eh, hs, hls, Bool.and_self, cond_true, h3, h4, q2, q3, Bool.not_false, ba, bb, bc, h5, dF, hpre, e, bne_self_eq_false, c1, hma, decide_eq_true z1, decide_eq_true (show 1 <= roomA (smFr ⟨h, c⟩ (ofE x.x).1).h.p (smE ⟨h, c⟩ (ofE x.x).1).1 by omega), decide_eq_true z3, hzl, decide_eq_true (show (smE ⟨h, c⟩ (ofE x.x).1).1 - 16 < ((smFr ⟨h, c⟩ (ofE x.x).1).h.w.length : Int) by omega), xw]
                rfl
end Go.Ab

namespace Go.Ab
open Go
open Go.Proofs
def hdN (n : Int) : Hd := ⟨true, false, false, n, 0, 0⟩
section
variable {h k : Hp} {c d : Ls} {x : Hd} {a : Int}
theorem Few.took {n : Nat} (hf : Few h n) (t : Took h c x k d a) {m : Nat} (hl : lenL k.f m) : Few k m :=
  ⟨by rw [t.wl]; exact hf.w, by rw [t.pl]; exact hf.p, by rw [t.cl]; exact hf.c, hl⟩
theorem Took.usedLen (t : Took h c x k d a) (hm : MayF h [c]) (h1 : mayH x = true) (h2 : x.a = true) (hno : ¬(roomA h.p a > 0 /\ wordE h a ≠ 0)) : (usedE k).length = (usedE h).length + 1 := by
  have hk := (t.m [] hm).none
  have hq : usedE h = (usedE k).filter fun e => e != a := used_but hk hm.none t.pl.symm fun e => by
    rw [t.used h1 h2]
    constructor
    . intro g
      exact ⟨.inl g, fun q => hno (q ▸ g)⟩
    . rintro ⟨g | g, g2⟩
      . exact g
      . exact absurd g g2
  rw [hq, filter_one (rises_nodup used_rises) ((used_mem hk).2 ⟨t.r, (t.obj h1 h2).1.w⟩)]
theorem Took.was (t : Took h c x k d a) : ¬(roomA h.p a > 0 /\ wordE h a ≠ 0) := fun g => (t.old a g.1 g.2).1 rfl
theorem whole_told {ls : List Ls} : wholeHV h ls = true ↔ MayF h ls /\ Told h ls := whole_iff
theorem Took.whole (t : Took h c x k d a) {ls : List Ls} (hw : wholeHV h (c :: ls) = true) : wholeHV k (d :: ls) = true := by
  obtain ⟨h1, h2⟩ := whole_told.1 hw
  exact whole_told.2 ⟨t.m ls h1, t.told ls h2⟩
end
end Go.Ab

namespace Go.Ab
open Go
open Go.Proofs
theorem took_back {h k : Hp} {c d : Ls} {x : Hd} {a : Int} (t : Took h c x k d a) (hm : MayF h [c]) (h1 : mayH x = true) (h2 : x.a = true) (hs : smL (freeL k a) = true) : keptV h (freeH k a) 0 = true := by
  have hk := t.m [] hm
  obtain ⟨ho, _⟩ := t.obj h1 h2
  obtain ⟨f1, f2, f3, f4, f5, f6, f7, f8⟩ := free_fin hk ho hs
  obtain ⟨z1, z2, z3⟩ := zero_in hk.sh ho.r
  refine keptV_of hm.none (by rw [f2, zero_len z1 z2 z3, t.wl]) fun u hr hw _ => ?_
  obtain ⟨hne, st⟩ := t.old u hr hw
  have hr' : roomA k.p u > 0 := by rw [st.1]; exact hr
  have hw' : wordE k u ≠ 0 := by rw [st.word hr]; exact hw
  obtain ⟨r1, _, _⟩ := free_same hk ho hs hr' hne (free_stays hk.none ho hr' hw' hne)
  refine ⟨r1.trans st.1, eqR_of _ _ fun i _ hi => ?_⟩
  show (freeH k a).w.getD _ 0 = h.w.getD _ 0
  have h16 := (room_in hr).1
  rw [f2, List.getD_eq_getElem?_getD, List.getD_eq_getElem?_getD, zero_get' z1 z2 z3, if_neg, st.2.2 _ (by omega) (by omega)]
  have := st.1
  rcases cells_apart ho.r hr' hne with g | g
  . rcases cells_apart hr' ho.r hne.symm with g2 | g2 <;> omega
  . omega
end Go.Ab

namespace Go.Ab
open Go
open Go.Proofs
end Go.Ab

namespace Go.Ab
open Go
open Go.Proofs
def hK : Hp := ⟨[0, 0, 0, 0, 25, 0, 0, 0, 0, 0, 0, 0, 0, 0, 0, 0], [(1, 1)], ⟨[], [28, 24], []⟩, [false, false]⟩
end Go.Ab

namespace Go.Ab
open Go
open Go.Proofs
noncomputable abbrev z11 : Cx := cxN Pr Tryz.f11 [(12, gAwake), (13, gFew), (34, gWhole), (23, gTake), (15, gFree), (35, gUsed), (36, gKept)] [] (fun q => Nat.beq q 61 || Nat.beq q 64)
set_option maxRecDepth 100000 in
theorem zr11 (h : Hp) (ls : List Ls) (n : Int) (β : Type) (K : CV -> List (List CV) -> Option β) : fnK z11 Tryz.f11 [cHp.enc h, cLss.enc ls, cI.enc n] [] K =
 Option.bind (Option.bind (decI (encI (Hp.w h))) fun w =>
 Option.bind (decP (List.map encP (Hp.p h))) fun p =>
 Option.bind (decI (encI (Ls.a (Hp.f h)))) fun a =>
 Option.bind (decI (encI (Ls.b (Hp.f h)))) fun b =>
 Option.bind (decI (encI (Ls.c (Hp.f h)))) fun c =>
 Option.bind (decBs (encBs (Hp.c h))) fun d => some { w := w, p := p, f := { a := a, b := b, c := c }, c := d }) fun a =>
 Option.bind (decLs (List.map encLs ls)) fun b =>
 bif Nat.ble (List.length b) 9223372036854775807 then
 bif !fewV a b then K (CV.bool true) []
 else
 bif decide ((↑(List.length (List.map encLs ls)) : Int) < 1) then K (CV.bool true) []
 else
 Option.bind (Option.bind (decI (encI (Hp.w h))) fun w =>
 Option.bind (decP (List.map encP (Hp.p h))) fun p =>
 Option.bind (decI (encI (Ls.a (Hp.f h)))) fun a =>
 Option.bind (decI (encI (Ls.b (Hp.f h)))) fun b =>
 Option.bind (decI (encI (Ls.c (Hp.f h)))) fun c =>
 Option.bind (decBs (encBs (Hp.c h))) fun d => some { w := w, p := p, f := { a := a, b := b, c := c }, c := d }) fun a =>
 Option.bind (decLs (List.map encLs ls)) fun b =>
 bif smH a && smLs (Hp.f a :: b) then
 bif !wholeHV a b then K (CV.bool true) []
 else
 Option.bind (rdE (List.map encLs ls) 0) fun c =>
 Option.bind c[0]? fun x =>
 Option.bind (asL 1 x) fun l =>
 Option.bind c[1]? fun x =>
 Option.bind (asL 1 x) fun l_1 =>
 Option.bind c[2]? fun x =>
 Option.bind (asL 1 x) fun l_2 =>
 Option.bind (Option.bind (decI (encI (Hp.w h))) fun w =>
 Option.bind (decP (List.map encP (Hp.p h))) fun p =>
 Option.bind (decI (encI (Ls.a (Hp.f h)))) fun a =>
 Option.bind (decI (encI (Ls.b (Hp.f h)))) fun b =>
 Option.bind (decI (encI (Ls.c (Hp.f h)))) fun c =>
 Option.bind (decBs (encBs (Hp.c h))) fun d => some { w := w, p := p, f := { a := a, b := b, c := c }, c := d }) fun a =>
 Option.bind (Option.bind (decI l) fun a =>
 Option.bind (decI l_1) fun b =>
 Option.bind (decI l_2) fun c => some { a := a, b := b, c := c }) fun b =>
 bif preT a b then
 bif Prod.snd (Prod.snd (Prod.snd (takeE a b { a := true, b := false, c := false, x := n, y := 0, z := 0 }))) != 0 then
 K (CV.bool true) []
 else
 Option.bind (Option.bind (decI (encI (Hp.w (Prod.fst (takeE a b { a := true, b := false, c := false, x := n, y := 0, z := 0 }))))) fun w =>
 Option.bind (decP (List.map encP (Hp.p (Prod.fst (takeE a b { a := true, b := false, c := false, x := n, y := 0, z := 0 }))))) fun p =>
 Option.bind (decI (encI (Ls.a (Hp.f (Prod.fst (takeE a b { a := true, b := false, c := false, x := n, y := 0, z := 0 })))))) fun a_1 =>
 Option.bind (decI (encI (Ls.b (Hp.f (Prod.fst (takeE a b { a := true, b := false, c := false, x := n, y := 0, z := 0 })))))) fun b_1 =>
 Option.bind (decI (encI (Ls.c (Hp.f (Prod.fst (takeE a b { a := true, b := false, c := false, x := n, y := 0, z := 0 })))))) fun c =>
 Option.bind (decBs (encBs (Hp.c (Prod.fst (takeE a b { a := true, b := false, c := false, x := n, y := 0, z := 0 }))))) fun d => some { w := w, p := p, f := { a := a_1, b := b_1, c := c }, c := d }) fun a_1 =>
 bif smH a_1 && smL1 (Hp.f a_1) then
 bif okBounds (List.length (List.map encLs ls)) (some 1) none none then
 if List.length ([[CV.sl 1 (encI (Ls.a (Prod.fst (Prod.snd (takeE a b { a := true, b := false, c := false, x := n, y := 0, z := 0 }))))), CV.sl 1 (encI (Ls.b (Prod.fst (Prod.snd (takeE a b { a := true, b := false, c := false, x := n, y := 0, z := 0 }))))), CV.sl 1 (encI (Ls.c (Prod.fst (Prod.snd (takeE a b { a := true, b := false, c := false, x := n, y := 0, z := 0 })))))]] ++ subl (List.map encLs ls) 1 (Int.toNat (Option.getD none (↑(List.length (List.map encLs ls)) : Int) - 1))) <= LIM then
 Option.bind (Option.bind (decI (encI (Hp.w (Prod.fst (freeHE a_1 (Prod.fst (Prod.snd (Prod.snd (takeE a b { a := true, b := false, c := false, x := n, y := 0, z := 0 }))))))))) fun w =>
 Option.bind (decP (List.map encP (Hp.p (Prod.fst (freeHE a_1 (Prod.fst (Prod.snd (Prod.snd (takeE a b { a := true, b := false, c := false, x := n, y := 0, z := 0 }))))))))) fun p =>
 Option.bind (decI (encI (Ls.a (Hp.f (Prod.fst (freeHE a_1 (Prod.fst (Prod.snd (Prod.snd (takeE a b { a := true, b := false, c := false, x := n, y := 0, z := 0 })))))))))) fun a_2 =>
 Option.bind (decI (encI (Ls.b (Hp.f (Prod.fst (freeHE a_1 (Prod.fst (Prod.snd (Prod.snd (takeE a b { a := true, b := false, c := false, x := n, y := 0, z := 0 })))))))))) fun b_1 =>
 Option.bind (decI (encI (Ls.c (Hp.f (Prod.fst (freeHE a_1 (Prod.fst (Prod.snd (Prod.snd (takeE a b { a := true, b := false, c := false, x := n, y := 0, z := 0 })))))))))) fun c =>
 Option.bind (decBs (encBs (Hp.c (Prod.fst (freeHE a_1 (Prod.fst (Prod.snd (Prod.snd (takeE a b { a := true, b := false, c := false, x := n, y := 0, z := 0 }))))))))) fun d => some { w := w, p := p, f := { a := a_2, b := b_1, c := c }, c := d }) fun a_2 =>
 bif smH a_2 && smL1 (Hp.f a_2) then
 bif Prod.snd (freeHE a_1 (Prod.fst (Prod.snd (Prod.snd (takeE a b { a := true, b := false, c := false, x := n, y := 0, z := 0 }))))) == 0 then
 Option.bind (Option.bind (decI (encI (Hp.w (Prod.fst (freeHE a_1 (Prod.fst (Prod.snd (Prod.snd (takeE a b { a := true, b := false, c := false, x := n, y := 0, z := 0 }))))))))) fun w =>
 Option.bind (decP (List.map encP (Hp.p (Prod.fst (freeHE a_1 (Prod.fst (Prod.snd (Prod.snd (takeE a b { a := true, b := false, c := false, x := n, y := 0, z := 0 }))))))))) fun p =>
 Option.bind (decI (encI (Ls.a (Hp.f (Prod.fst (freeHE a_1 (Prod.fst (Prod.snd (Prod.snd (takeE a b { a := true, b := false, c := false, x := n, y := 0, z := 0 })))))))))) fun a_3 =>
 Option.bind (decI (encI (Ls.b (Hp.f (Prod.fst (freeHE a_1 (Prod.fst (Prod.snd (Prod.snd (takeE a b { a := true, b := false, c := false, x := n, y := 0, z := 0 })))))))))) fun b_1 =>
 Option.bind (decI (encI (Ls.c (Hp.f (Prod.fst (freeHE a_1 (Prod.fst (Prod.snd (Prod.snd (takeE a b { a := true, b := false, c := false, x := n, y := 0, z := 0 })))))))))) fun c =>
 Option.bind (decBs (encBs (Hp.c (Prod.fst (freeHE a_1 (Prod.fst (Prod.snd (Prod.snd (takeE a b { a := true, b := false, c := false, x := n, y := 0, z := 0 }))))))))) fun d => some { w := w, p := p, f := { a := a_3, b := b_1, c := c }, c := d }) fun a_3 =>
 Option.bind (decLs ([CV.sl 1 (encI (Ls.a (Prod.fst (Prod.snd (takeE a b { a := true, b := false, c := false, x := n, y := 0, z := 0 }))))), CV.sl 1 (encI (Ls.b (Prod.fst (Prod.snd (takeE a b { a := true, b := false, c := false, x := n, y := 0, z := 0 }))))), CV.sl 1 (encI (Ls.c (Prod.fst (Prod.snd (takeE a b { a := true, b := false, c := false, x := n, y := 0, z := 0 })))))] :: List.append [] (subl (List.map encLs ls) 1 (Int.toNat (Option.getD none (↑(List.length (List.map encLs ls)) : Int) - 1))))) fun b_1 =>
 bif smH a_3 && smLs (Hp.f a_3 :: b_1) then
 bif wholeHV a_3 b_1 then
 bif Prod.snd (freeHE a_2 (Prod.fst (Prod.snd (Prod.snd (takeE a b { a := true, b := false, c := false, x := n, y := 0, z := 0 }))))) == 3 then
 Option.bind (Option.bind (decI (encI (Hp.w (Prod.fst (freeHE a_1 (Prod.fst (Prod.snd (Prod.snd (takeE a b { a := true, b := false, c := false, x := n, y := 0, z := 0 }))))))))) fun w =>
 Option.bind (decP (List.map encP (Hp.p (Prod.fst (freeHE a_1 (Prod.fst (Prod.snd (Prod.snd (takeE a b { a := true, b := false, c := false, x := n, y := 0, z := 0 }))))))))) fun p =>
 Option.bind (decI (encI (Ls.a (Hp.f (Prod.fst (freeHE a_1 (Prod.fst (Prod.snd (Prod.snd (takeE a b { a := true, b := false, c := false, x := n, y := 0, z := 0 })))))))))) fun a_4 =>
 Option.bind (decI (encI (Ls.b (Hp.f (Prod.fst (freeHE a_1 (Prod.fst (Prod.snd (Prod.snd (takeE a b { a := true, b := false, c := false, x := n, y := 0, z := 0 })))))))))) fun b_2 =>
 Option.bind (decI (encI (Ls.c (Hp.f (Prod.fst (freeHE a_1 (Prod.fst (Prod.snd (Prod.snd (takeE a b { a := true, b := false, c := false, x := n, y := 0, z := 0 })))))))))) fun c =>
 Option.bind (decBs (encBs (Hp.c (Prod.fst (freeHE a_1 (Prod.fst (Prod.snd (Prod.snd (takeE a b { a := true, b := false, c := false, x := n, y := 0, z := 0 }))))))))) fun d => some { w := w, p := p, f := { a := a_4, b := b_2, c := c }, c := d }) fun a_4 =>
 bif smH a_4 && smLs [Hp.f a_4] then
 Option.bind (Option.bind (decI (encI (Hp.w h))) fun w =>
 Option.bind (decP (List.map encP (Hp.p h))) fun p =>
 Option.bind (decI (encI (Ls.a (Hp.f h)))) fun a =>
 Option.bind (decI (encI (Ls.b (Hp.f h)))) fun b =>
 Option.bind (decI (encI (Ls.c (Hp.f h)))) fun c =>
 Option.bind (decBs (encBs (Hp.c h))) fun d => some { w := w, p := p, f := { a := a, b := b, c := c }, c := d }) fun a_5 =>
 bif smH a_5 && smLs [Hp.f a_5] then
 bif (↑(List.length (encI (usedE a_4))) : Int) == (↑(List.length (encI (usedE a_5))) : Int) then
 Option.bind (Option.bind (decI (encI (Hp.w h))) fun w =>
 Option.bind (decP (List.map encP (Hp.p h))) fun p =>
 Option.bind (decI (encI (Ls.a (Hp.f h)))) fun a =>
 Option.bind (decI (encI (Ls.b (Hp.f h)))) fun b =>
 Option.bind (decI (encI (Ls.c (Hp.f h)))) fun c =>
 Option.bind (decBs (encBs (Hp.c h))) fun d => some { w := w, p := p, f := { a := a, b := b, c := c }, c := d }) fun a_6 =>
 Option.bind (Option.bind (decI (encI (Hp.w (Prod.fst (freeHE a_1 (Prod.fst (Prod.snd (Prod.snd (takeE a b { a := true, b := false, c := false, x := n, y := 0, z := 0 }))))))))) fun w =>
 Option.bind (decP (List.map encP (Hp.p (Prod.fst (freeHE a_1 (Prod.fst (Prod.snd (Prod.snd (takeE a b { a := true, b := false, c := false, x := n, y := 0, z := 0 }))))))))) fun p =>
 Option.bind (decI (encI (Ls.a (Hp.f (Prod.fst (freeHE a_1 (Prod.fst (Prod.snd (Prod.snd (takeE a b { a := true, b := false, c := false, x := n, y := 0, z := 0 })))))))))) fun a_7 =>
 Option.bind (decI (encI (Ls.b (Hp.f (Prod.fst (freeHE a_1 (Prod.fst (Prod.snd (Prod.snd (takeE a b { a := true, b := false, c := false, x := n, y := 0, z := 0 })))))))))) fun b_2 =>
 Option.bind (decI (encI (Ls.c (Hp.f (Prod.fst (freeHE a_1 (Prod.fst (Prod.snd (Prod.snd (takeE a b { a := true, b := false, c := false, x := n, y := 0, z := 0 })))))))))) fun c =>
 Option.bind (decBs (encBs (Hp.c (Prod.fst (freeHE a_1 (Prod.fst (Prod.snd (Prod.snd (takeE a b { a := true, b := false, c := false, x := n, y := 0, z := 0 }))))))))) fun d => some { w := w, p := p, f := { a := a_7, b := b_2, c := c }, c := d }) fun b =>
 bif smH a_6 && smLs [Hp.f a_6] && smH b then
 K (CV.bool (keptV a_6 b 0)) []
 else none
 else K (CV.bool false) []
 else none
 else none
 else K (CV.bool false) []
 else K (CV.bool false) []
 else none
 else K (CV.bool false) []
 else none
 else none
 else none
 else none
 else none
 else none
 else none := by kernel_rfl
end Go.Ab

namespace Go.Ab
open Go
open Go.Proofs
end Go.Ab

namespace Go.Ab
open Go
open Go.Proofs
theorem lightL {l : Ls} (h : lightV l = true) : lenL l 70 := light_get h
theorem pre_of {h : Hp} {c : Ls} {n m : Nat} (hF : Few h n) (hc : lenL c m) (h1 : n <= 90000) (h2 : m <= 90000) : preT h c = true := by
  obtain ⟨s1, s2, _, _⟩ := hF.sm h1
  have s3 : smL1 c = true := (show lenF ⟨[], [], c, []⟩ m from hc).smL h2 |>.2.1
  unfold preT
  rw [s1, s2, s3]; rfl
theorem take_got {h : Hp} {c : Ls} {x : Hd} (lf : lenL h.f 90000) (lc : lenL c 90000) (he : ((takeE h c x).2.2.2 != 0) = false) :
    ∃ k d a, takeE h c x = (k, d, a, 0) /\ MayF h [c] /\ mayH x = true /\ x.a = true /\ Took h c x k d a /\ ∀ n m, lenL h.f n -> lenL c m -> lenL k.f (n + 8192) /\ lenL d (m + 2) := by
  rcases take_fin x lf lc with ⟨e, _⟩ | ⟨_, _, _, o, e⟩ | ⟨_, _, _, _, _, e, _⟩ | ⟨_, _, _, _, _, e, _⟩ | ⟨m, x1, x2, _, _, k, d, a, e, t, _, _, _, n⟩ | ⟨m, x1, x2, _, _, k, a, e, t, _, _, l⟩
  . rw [e] at he; cases he
  . rw [e] at he
    exact absurd (nE he) o
  . rw [e] at he; cases he
  . rw [e] at he; cases he
  . exact ⟨k, d, a, e, m, x1, x2, t, n⟩
  . exact ⟨k, c, a, e, m, x1, x2, t, fun n m h1 h2 => ⟨by rw [l]; exact h1.mono (by omega), h2.mono (by omega)⟩⟩
end Go.Ab

namespace Go.Ab
open Go
open Go.Proofs
theorem smLs_of {f d : Ls} {ls : List Ls} {n m : Nat} (hf : lenL f n) (hd : lenL d m) (h1 : n <= 100000) (h2 : m <= 100000) (hl : ∀ l ∈ ls, lightV l = true) (h4 : ls.length <= 4) : smLs (f :: d :: ls) = true := by
  unfold smLs
  rw [Nat.ble_eq_true_of_le (by simp; omega), Bool.true_and, List.all_eq_true]
  intro l hm
  rcases List.mem_cons.1 hm with rfl | hm
  . exact hf.smL h1
  . rcases List.mem_cons.1 hm with rfl | hm
    . exact hd.smL h2
    . exact light_sm (hl l hm)
theorem sub_rest {l0 : Ls} {rest : List Ls} : subl (List.map encLs (l0 :: rest)) 1 (Int.toNat (((List.length (List.map encLs (l0 :: rest)) : Nat) : Int) - 1)) = List.map encLs rest := by
  simp only [subl, List.length_map, List.length_cons, List.map_cons, List.drop_succ_cons, List.drop_zero]
  exact List.take_of_length_le (by simp)
theorem freeHE_none {h : Hp} {a : Int} (hm : MayF h []) (hw : wordE h a = 0) : (freeHE h a).2 = 3 := by
  unfold freeHE
  rw [head_none hm hw]
  rfl
def gLaw11 : Callee := g3 cHp cLss cI (fun _ ls _ => Nat.ble ls.length 9223372036854775807) fun _ _ _ => .bool true
theorem law11_good : GoodC Pr 11 gLaw11 :=
  good3 ((CxOK.baseN (Good.cons awake_good (Good.cons few_good (Good.cons whole_good (Good.cons take_good (Good.cons freeR_good (Good.cons used_good (Good.cons kept_good Good.nil))))))) GoodI.nil (eqOK_none fun _ => rfl)).sound (cx := z11) Tryz.func11 (by kernel_rfl) (by kernel_rfl) rfl (by kernel_rfl)) fun h ls n hls β K => by
    have e : ∀ h : Hp, (⟨h.w, h.p, ⟨h.f.a, h.f.b, h.f.c⟩, h.c⟩ : Hp) = h := fun _ => rfl
    have el : ∀ l : Ls, (⟨l.a, l.b, l.c⟩ : Ls) = l := fun _ => rfl
    have eN : ∀ n : Int, ({ a := true, b := false, c := false, x := n, y := 0, z := 0 } : Hd) = hdN n := fun _ => rfl
    rw [zr11]
    simp only [decI_map, decP_map, decBs_enc, decLs_map, Option.bind_some, e, el, eN, hls, cond_true]
    cases hf : fewV h ls with
    | false => rfl
    | true =>
      simp only [Bool.not_true, cond_false]
      cases ls with
      | nil => rfl
      | cons l0 rest =>
        obtain ⟨hF, hsl, hli, h4⟩ := few_of hf
        obtain ⟨s1, s2, s3, s4⟩ := hF.sm (by omega)
        have hlen : decide (((List.length (List.map encLs (l0 :: rest)) : Nat) : Int) < 1) = false := decide_eq_false (by simp; omega)
        have h0 : rdE (List.map encLs (l0 :: rest)) 0 = some (encLs l0) := rfl
        have g1 : (encLs l0)[0]? = some (.sl 1 (encI l0.a)) := rfl
        have g2 : (encLs l0)[1]? = some (.sl 1 (encI l0.b)) := rfl
        have g3 : (encLs l0)[2]? = some (.sl 1 (encI l0.c)) := rfl
        have hok : okBounds (List.length (List.map encLs (l0 :: rest))) (some 1) none none = true := by
          simp [okBounds]; omega
        have l1 := hF.f
        have l2 : lenL l0 70 := lightL (hli l0 (by simp))
        have hlr : ∀ l ∈ rest, lightV l = true := fun l hl => hli l (by simp [hl])
        have hr4 : rest.length <= 4 := by simp only [List.length_cons] at h4; omega
        simp only [hlen, cond_false, s1, hsl, Bool.and_self, cond_true]
        cases hwh : wholeHV h (l0 :: rest) with
        | false => rfl
        | true =>
          simp only [Bool.not_true, cond_false, h0, g1, g2, g3, asL_1, Option.bind_some, decI_map, el, pre_of hF l2 (show 70 <= 90000 by omega) (show 70 <= 90000 by omega), cond_true]
          cases he : (takeE h l0 (hdN n)).2.2.2 != 0 with
          | true => rfl
          | false =>
            obtain ⟨k, d, a, e1, hm, x1, x2, t, nn⟩ := take_got (lenL.mono l1 (show 70 <= 90000 by omega)) (l2.mono (show 70 <= 90000 by omega)) he
            obtain ⟨m1, m2⟩ := nn 70 70 l1 l2
            have kF := hF.took t m1
            obtain ⟨k1, k2, k3, _⟩ := kF.sm (by omega)
            obtain ⟨ok, _⟩ := t.obj x1 x2
            have hmk := t.m [] hm
            have hmk0 := hmk.none
            have hfk := kF.f.freeL (by omega) a
            have bF := kF.free (by omega) hmk ok
            obtain ⟨b1, b2, b3, _⟩ := bF.sm (by omega)
            have hwk : wholeHV k (d :: rest) = true := t.whole hwh
            have hwb := whole_free hwk ok hfk
            obtain ⟨hmb, fw, _⟩ := free_fin hmk ok hfk
            have hz : wordE (freeH k a) a = 0 := by
              have : wordE (freeH k a) a = wordE (zeroH k a) a := by unfold wordE; rw [fw]
              rw [this, word_gone hmk.sh ok.r]
            have f1 : freeHE k a = (freeH k a, 0) := freeHE_obj hmk0 ok
            have f2 : (freeHE (freeH k a) a).2 = 3 := freeHE_none hmb.none hz
            have hu : (usedE (freeH k a)).length = (usedE h).length := by
              have u1 := used_free hmk0 ok hfk
              have u2 := t.usedLen hm x1 x2 t.was
              omega
            have hkv := took_back t hm x1 x2 hfk
            have hbl : smLs ((freeH k a).f :: d :: rest) = true := smLs_of (n := 70 + 8192 + 1) (m := 70 + 2) bF.f m2 (by omega) (by omega) hlr hr4
            have hdl : decLs ([[CV.sl 1 (encI d.a), CV.sl 1 (encI d.b), CV.sl 1 (encI d.c)]] ++ List.map encLs rest) = some (d :: rest) := decLs_map (d :: rest)
            have hll : List.length ([[CV.sl 1 (encI d.a), CV.sl 1 (encI d.b), CV.sl 1 (encI d.c)]] ++ List.map encLs rest) <= LIM := by
              rw [lim_val]; simp; omega
            simp only [e1, bne_self_eq_false, cond_false, k1, k2, Bool.and_self, cond_true, hok, Option.getD_none, sub_rest]
            rw [if_pos hll]
            simp only [f1, f2, b1, b2, b3, s1, s3, Bool.and_self, beq_self_eq_true, cond_true, hdl, Option.bind_some, hbl, hwb, encI_len, hu, hkv, decLs_map]
            have hd2 : decLs ([CV.sl 1 (encI d.a), CV.sl 1 (encI d.b), CV.sl 1 (encI d.c)] :: [].append (List.map encLs rest)) = some (d :: rest) := decLs_map (d :: rest)
            rw [hd2, Option.bind_some, Bool.true_and, hbl, hwb]
            rfl
theorem law11_run (h : Hp) (ls : List Ls) (a : Int) (hl : ls.length <= 9223372036854775807) (β : Type) (K : CV -> List (List CV) -> Option β) : gLaw11.run [cHp.enc h, cLss.enc ls, cI.enc a] [] β K = K (.bool true) [] := by
  unfold gLaw11 g3
  dsimp only
  rw [cHp.de, cLss.de, cI.de]
  simp only [Option.bind_some, Nat.ble_eq_true_of_le hl, cond_true]
end Go.Ab
