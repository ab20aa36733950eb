/- Places of elements, parts of slices, lengths.
Operations that make memory.
Operations that write.
Maps of numbers to truths: made, stored into, looked up.
append, copy, and the other built-in functions.
copy, len, min, max; the built-in functions as operations.
Built-in functions as operations.
Calls: what goes in and out.
Calls. -/
import Derived.Test.YtkahninpodhcmaaDoorAbA
import Derived.Laws.NewBlocks
import Derived.Laws.MakeOwn
import Derived.Laws.AppendOwn
import Derived.MapKept
import Derived.Lib.AppendZeros
namespace Go.Ab
open Go

theorem okE_info {P : Program} {e : TypeId} (h : okE P e = true) : ∃ i z, P.info? e = some i ∧ i.size = szOf P e ∧ 0 < i.size ∧ i.bytes ≤ 4096 ∧ i.zero = some z ∧ z.cells.size = i.size := by
  unfold okE at h
  cases hi : P.info? e with
  | none => simp [hi] at h
  | some i =>
    simp only [hi, Bool.and_eq_true] at h
    obtain ⟨⟨h1, h2⟩, h3⟩ := h
    cases hz : i.zero with
    | none => simp [hz] at h3
    | some z =>
      simp only [hz] at h3
      exact ⟨i, z, rfl, by simp [szOf, hi], Nat.le_of_ble_eq_true h1, Nat.le_of_ble_eq_true h2, hz, beq_true h3⟩

theorem addr_add0 (a : Option Addr) (h : ∀ x, a = some x → x.spot = none) : a.map (fun x => x.add 0) = a := by
  cases a with
  | none => rfl
  | some x =>
    obtain ⟨b, o, s⟩ := x
    have := h _ rfl
    simp only at this
    subst this
    simp [add_lit]

section
variable {β : Type} {cx : Cx} {o : Oper} {st : St} {h : H} {r : β} {K : SV → H → Option β}

theorem rdE_some {α : Type} {l : List α} {n : Int} {e : α} (h : rdE l n = some e) : 0 ≤ n ∧ l[n.toNat]? = some e ∧ n < l.length := by
  unfold rdE at h
  obtain ⟨h0, h1⟩ := ite_some h
  have := (List.getElem?_eq_some_iff.1 h1).1
  exact ⟨h0, h1, by omega⟩

theorem run_index_slice {t e : TypeId} {i : TypeInfo} (hu : cx.P.underlying t = some (.slice e)) (hi : cx.P.info? e = some i) {k : IntKind} {n : Int} {b o' len cap : Nat} (h0 : 0 ≤ n) (h1 : n < len) (w : World) :
    (Instr.indexAt t (.slice (some ⟨b, o', none⟩) len cap) (.int k n)).run cx.P w = .ok (.pointer (some ⟨b, o' + n.toNat * i.size, none⟩)) w := by
  simp [Instr.indexAt, asIntOf, run_underlying hu, sizeOf, typeInfo, hi, h0, h1, add_lit]

theorem run_index_array {t e : TypeId} {i : TypeInfo} {len : Nat} (hu : cx.P.underlying t = some (.array len e)) (hi : cx.P.info? e = some i) {k : IntKind} {n : Int} {b o' : Nat} (h0 : 0 ≤ n) (h1 : n < len) (w : World) :
    (Instr.indexAt t (.pointer (some ⟨b, o', none⟩)) (.int k n)).run cx.P w = .ok (.pointer (some ⟨b, o' + n.toNat * i.size, none⟩)) w := by
  simp [Instr.indexAt, asIntOf, run_underlying hu, sizeOf, typeInfo, hi, h0, h1, add_lit, Instr.sureAddr]

theorem indexAddr_sound {t : TypeId} {x ix : Operand} (ho : o.op = .indexAddr t x ix) (hK : indexK cx t (ev cx.P st 0 x) (ev cx.P st 0 ix) h K = some r) : OpS cx o st h K r := by
  generalize hx : ev cx.P st 0 x = sx at hK
  generalize hi : ev cx.P st 0 ix = si at hK
  have hrun : ∀ (a : Act) (w : World) (u : Value), (Instr.indexAt t (a.eval x) (a.eval ix)).run cx.P w = .ok u w → (execOp a.eval o).run cx.P w = .ok (.value u) w := fun a w u hu => by
    simp [execOp, ho, hu]
  unfold indexK at hK
  split at hK
  · rename_i k n e hu
    replace hK := cond_some hK
    obtain ⟨hok, hK⟩ := hK
    obtain ⟨inf, z, hinf, hsz, hpos, _, _, _⟩ := okE_info hok
    split at hK
    · rename_i sz l
      replace hK := cond_some hK
      obtain ⟨hb, hK⟩ := hK
      obtain rfl := beq_true hb
      replace hK := bind_some' hK
      obtain ⟨c, hc, hK⟩ := hK
      obtain ⟨h0, hget, hlt⟩ := rdE_some hc
      refine .pure hK fun ρ X a w rr => ?_
      have e1 := ev_sound rr 0 x
      rw [hx] at e1
      have e2 := ev_sound rr 0 ix
      rw [hi] at e2
      cases e1 with
      | c y v hy =>
        obtain ⟨ad, cap, hval, hl⟩ := hy.sl_inv
        rcases hl with rfl | ⟨b, o', rfl, hz, hls, hcap, hM, hbl, hcell⟩
        · simp at hget
        · refine ⟨_, hrun a w _ (by rw [hval, e2.int_inv]; exact run_index_slice hu hinf h0 hlt w), ?_⟩
          have := CR.pc (w := w) (M := Mut ρ X h) c 0 b (o' + n.toNat * inf.size) (fun j => (w.cell? ⟨b, o' + (n.toNat * szOf cx.P e + j), none⟩).getD undef) hM hbl
            (fun j y hy => by
              obtain ⟨u, hu', _, _⟩ := hcell n.toNat j y (by simp [at2, hget, hy])
              rw [hsz, Nat.add_assoc, hu']; rfl)
            (fun j y hy => by
              obtain ⟨u, hu', hp, _⟩ := hcell n.toNat j y (by simp [at2, hget, hy])
              rw [hu']; exact hp)
            (fun j y hy => by
              obtain ⟨u, hu', _, hr⟩ := hcell n.toNat j y (by simp [at2, hget, hy])
              rw [hu']; exact hr)
          exact .c _ _ (by simpa using this)
    · rename_i i ver
      split at hK
      · rename_i ver' fr sz l hg
        replace hK := cond_some hK
        obtain ⟨hb, hK1⟩ := hK
        simp only [Bool.and_eq_true] at hb
        obtain ⟨hb1, hb2⟩ := hb
        replace hK1 := ite_some hK1
        obtain ⟨⟨h0, h1⟩, hK2⟩ := hK1
        have hv1 := beq_true hb1
        have hv2 := beq_true hb2
        refine .pure hK2 fun ρ X a w rr => ?_
        have e1 := ev_sound rr 0 x
        rw [hx] at e1
        have e2 := ev_sound rr 0 ix
        rw [hi] at e2
        cases e1 with
        | acc _ _ v hpl hil hq =>
          have hval := (hq ver' fr sz l hg).2 hv1
          have hbx := rr.hr.box i
          rw [hg] at hbx
          obtain ⟨_, _, _, h3⟩ := hbx
          rcases h3 with ⟨_, rfl⟩ | ⟨b, cap, cur, ty, h3, _⟩
          · simp at h1; omega
          · refine ⟨_, hrun a w _ (by rw [hval, h3, e2.int_inv]; exact run_index_slice hu hinf h0 h1 w), .ept _ _ _ _ _ rfl hil fun v2 fr2 sz2 l2 hg2 => ⟨(hq v2 fr2 sz2 l2 hg2).1, fun _ => ?_⟩⟩
            rw [hg] at hg2
            cases hg2
            exact ⟨by omega, b, _, cap, h3, by simp [hsz, hv2]⟩
      · cases hK
    · rename_i i ver lo k'
      split at hK
      · rename_i ver' fr sz l hg
        replace hK := cond_some hK
        obtain ⟨hb, hK1⟩ := hK
        simp only [Bool.and_eq_true] at hb
        obtain ⟨hb1, hb2⟩ := hb
        replace hK1 := ite_some hK1
        obtain ⟨⟨h0, h1⟩, hK2⟩ := hK1
        have hv1 := beq_true hb1
        have hv2 := beq_true hb2
        refine .pure hK2 fun ρ X a w rr => ?_
        have e1 := ev_sound rr 0 x
        rw [hx] at e1
        have e2 := ev_sound rr 0 ix
        rw [hi] at e2
        cases e1 with
        | sub _ _ _ _ v hpl hil hq =>
          obtain ⟨hlo, ad, cap, cap2, kk, hcur, hnc, hcc, _, hk1, hval⟩ := (hq ver' fr sz l hg).2 hv1
          have hbx := rr.hr.box i
          rw [hg] at hbx
          obtain ⟨_, _, _, h3⟩ := hbx
          rcases h3 with ⟨_, rfl⟩ | ⟨b, cap', cur, ty, h3, _, h5, _⟩
          · simp at hlo; omega
          · rw [h3] at hcur
            injection hcur with ha _ hc
            subst ha hc
            have hkk := hk1 (by omega)
            subst hkk
            simp only [Option.map_some, add_lit, Nat.zero_add] at hval
            refine ⟨_, hrun a w _ (by rw [hval, e2.int_inv]; exact run_index_slice hu hinf h0 h1 w), .ept _ _ _ _ _ rfl hil fun v2 fr2 sz2 l2 hg2 => ⟨(hq v2 fr2 sz2 l2 hg2).1, fun _ => ?_⟩⟩
            rw [hg] at hg2
            cases hg2
            exact ⟨by omega, b, _, cap', h3, by simp [hsz, hv2, Nat.add_mul]⟩
      · cases hK
    · cases hK
  · rename_i k n len e hu
    replace hK := cond_some hK
    obtain ⟨hok, hK⟩ := hK
    obtain ⟨inf, z, hinf, hsz, hpos, _, _, _⟩ := okE_info hok
    split at hK
    · rename_i i off
      replace hK := ite_some hK
      obtain ⟨⟨h0, h1⟩, hK1⟩ := hK
      cases hdir : cx.dir with
      | true =>
        rw [hdir, cond_true] at hK1
        refine .pure hK1 fun ρ X a w rr => ?_
        have e1 := ev_sound rr 0 x
        rw [hx] at e1
        have e2 := ev_sound rr 0 ix
        rw [hi] at e2
        cases e1 with
        | ptr _ _ v hpl hil hq =>
          exact ⟨_, hrun a w _ (by rw [hq, e2.int_inv]; exact run_index_array hu hinf h0 h1 w), .ptr _ _ _ rfl hil (by rw [hsz])⟩
      | false =>
        rw [hdir, cond_false] at hK1
        refine .pure hK1 fun ρ X a w rr => ?_
        have e1 := ev_sound rr 0 x
        rw [hx] at e1
        have e2 := ev_sound rr 0 ix
        rw [hi] at e2
        cases e1 with
        | ptr _ _ v hpl hil hq =>
          exact ⟨_, hrun a w _ (by rw [hq, e2.int_inv]; exact run_index_array hu hinf h0 h1 w), .apt _ _ _ _ _ _ rfl hil (by omega) (by rw [hsz])⟩
    · rename_i cs off
      replace hK := ite_some hK
      obtain ⟨⟨h0, h1⟩, hK1⟩ := hK
      refine .pure hK1 fun ρ X a w rr => ?_
      have e1 := ev_sound rr 0 x
      rw [hx] at e1
      have e2 := ev_sound rr 0 ix
      rw [hi] at e2
      generalize hval : a.eval x = val at e1
      cases e1 with
      | c y v hy =>
        cases hy with
        | pc _ _ b o' u hM hb hcell hp hr =>
          refine ⟨_, hrun a w _ (by rw [hval, e2.int_inv]; exact run_index_array hu hinf h0 h1 w), ?_⟩
          rw [hsz, Nat.add_assoc]
          exact .c _ _ (.pc cs _ b o' u hM hb hcell hp hr)
    · cases hK
  · cases hK

theorem index_sound {t : TypeId} {x ix : Operand} (ho : o.op = .index t x ix)
    (hK : (match cx.P.underlying t, ev cx.P st 0 ix with
    | some (.array len e), .c (.int _ n) => if 0 ≤ n ∧ n < len then (tyO cx.P e).bind fun gs => (close (ev cx.P st t x) h).bind fun r => (match r.1 with
        | .agg cs => pickVK cx.P e gs.1 gs.2 (n.toNat * gs.2) cs fun v => K v r.2
        | _ => none) else none
    | _, _ => none) = some r) : OpS cx o st h K r := by
  split at hK
  · rename_i len e k n hu hi
    replace hK := ite_some hK
    obtain ⟨⟨h0, h1⟩, hK⟩ := hK
    replace hK := bind_some' hK
    obtain ⟨⟨g, s⟩, ht, hK⟩ := hK
    replace hK := bind_some' hK
    obtain ⟨⟨y, h'⟩, hc, hK⟩ := hK
    dsimp only at hK
    split at hK
    · rename_i cs
      replace hK := pickVK_some hK
      obtain ⟨sv, sv', hp, hK, hrf⟩ := hK
      refine .frz hK fun ρ X a w rr => ?_
      have e2 := ev_sound rr 0 ix
      rw [hi] at e2
      obtain ⟨t1, c1⟩ := close_takeOK rr.hr (ev_sound rr t x) hc
      obtain ⟨b, hval, hs, hb⟩ := c1.agg_inv
      obtain ⟨d, inf, hud, hinf, hgd, hsz⟩ := info_of_tyO ht
      obtain ⟨u, hl, hvr⟩ := pickV_part (ρ := ρ) (h := h') ht hb hs hp
      refine ⟨u, ?_, t1.hr', t1.ext', hrf _ _ _ _ _ hvr⟩
      have e2' := e2.int_inv
      simp [execOp, ho, Instr.index, hval, e2', asIntOf, run_underlying hu, h0, h1, sizeOf, typeInfo, hinf, hsz, hl]
    · cases hK
  · cases hK

def OptR : Option Int → Option Value → Prop
  | none, none => True
  | some n, some v => ∃ k, v = .int k n
  | _, _ => False

theorem optInt_sound {ρ : Env} {X : Nat → Prop} {a : Act} {w : World} (rr : R cx ρ X st h a w) {x : Option Operand} {n : Option Int} (hn : optInt cx.P st x = some n) : OptR n (x.map a.eval) := by
  cases x with
  | none => simp [optInt] at hn; subst hn; trivial
  | some x =>
    simp only [optInt] at hn
    obtain ⟨m, hm, hn⟩ := bind_some' hn
    obtain rfl := Option.some.inj hn
    have hv := ev_sound rr 0 x
    unfold asInt at hm
    split at hm
    · rename_i k n' hev
      obtain rfl := Option.some.inj hm
      rw [hev] at hv
      exact ⟨k, hv.int_inv⟩
    · cases hm

theorem run_sliceBound {P : Program} {v : Value} {k : IntKind} {n : Int} (hv : v = .int k n) {y : Nat} (h0 : 0 ≤ n) (h1 : n ≤ y) (code : BoundsCode) (w : World) : (Instr.sliceBound v y code).run P w = .ok n.toNat w := by
  subst hv
  simp [Instr.sliceBound, asIntOf, h0, h1]

def capOf (cap : Nat) : Option Int → Nat
  | some m => m.toNat
  | none => cap

theorem run_sliceBounds {P : Program} {isSlice : Bool} {len cap : Nat} {lo hi mx : Option Int} {vl vh vm : Option Value} (h1 : OptR lo vl) (h2 : OptR hi vh) (h3 : OptR mx vm) (hb : okBounds len lo hi mx = true) (hc : len ≤ cap) (w : World) :
    (Instr.sliceBounds isSlice len cap vl vh vm).run P w = .ok ((lo.getD 0).toNat, (hi.getD len).toNat, capOf cap mx) w := by
  unfold okBounds at hb
  simp only [Bool.and_eq_true, decide_eq_true_eq] at hb
  obtain ⟨hm, ⟨⟨hb1, hb2⟩, hb3⟩, hb4⟩ := hb
  cases mx with
  | none =>
    cases vm with
    | some v => exact h3.elim
    | none =>
      cases hi with
      | none =>
        cases vh with
        | some v => exact h2.elim
        | none =>
          cases lo with
          | none =>
            cases vl with
            | some v => exact h1.elim
            | none => simp [capOf, Instr.sliceBounds]
          | some l =>
            cases vl with
            | none => exact h1.elim
            | some v =>
              obtain ⟨k, hv⟩ := h1
              simp at hb1 hb2
              have e := run_sliceBound (P := P) hv hb1 hb2 .sliceB w
              simp [capOf, Instr.sliceBounds, e]
      | some r =>
        cases vh with
        | none => exact h2.elim
        | some vh =>
          obtain ⟨kh, hvh⟩ := h2
          simp at hb1 hb2 hb3
          have e2 := run_sliceBound (P := P) hvh (by omega) (show r ≤ (cap : Nat) by omega) (if isSlice then .sliceAcap else .sliceAlen) w
          cases lo with
          | none =>
            cases vl with
            | some v => exact h1.elim
            | none => simp [capOf, Instr.sliceBounds, e2]
          | some l =>
            cases vl with
            | none => exact h1.elim
            | some v =>
              obtain ⟨k, hv⟩ := h1
              simp at hb1 hb2
              have e := run_sliceBound (P := P) hv (y := r.toNat) hb1 (by omega) .sliceB w
              simp [capOf, Instr.sliceBounds, e2, e]
  | some m =>
    cases vm with
    | none => exact h3.elim
    | some vm =>
      obtain ⟨km, hvm⟩ := h3
      cases hi with
      | none => simp at hm
      | some r =>
        cases vh with
        | none => exact h2.elim
        | some vh =>
          obtain ⟨kh, hvh⟩ := h2
          simp at hb1 hb2 hb3 hb4
          have e1 := run_sliceBound (P := P) hvm (y := cap) (by omega) (by omega) (if isSlice then .slice3Acap else .slice3Alen) w
          have e2 := run_sliceBound (P := P) hvh (y := m.toNat) (by omega) (by omega) .slice3B w
          cases lo with
          | none =>
            cases vl with
            | some v => exact h1.elim
            | none => simp [capOf, Instr.sliceBounds, e1, e2]
          | some l =>
            cases vl with
            | none => exact h1.elim
            | some v =>
              obtain ⟨k, hv⟩ := h1
              simp at hb1 hb2
              have e := run_sliceBound (P := P) hv (y := r.toNat) hb1 (by omega) .slice3C w
              simp [capOf, Instr.sliceBounds, e1, e2, e]

theorem chunk_length {α : Type} (sz : Nat) : ∀ (k : Nat) (l : List α), (chunk sz k l).length = k
  | 0, _ => rfl
  | k + 1, l => by simp [chunk, chunk_length sz k]

theorem chunk_mem {α : Type} {sz : Nat} : ∀ {k : Nat} {l : List α}, k * sz ≤ l.length → ∀ e ∈ chunk sz k l, e.length = sz
  | 0, _, _ => by simp [chunk]
  | k + 1, l, hl => by
    intro e he
    rw [Nat.add_mul] at hl
    simp only [chunk, List.mem_cons] at he
    rcases he with rfl | he
    · simp; omega
    · exact chunk_mem (k := k) (by simp; omega) e he

theorem at2_chunk {α : Type} {sz : Nat} : ∀ {k : Nat} {l : List α} {a j : Nat} {x : α}, at2 (chunk sz k l) a j = some x → l[a * sz + j]? = some x ∧ a < k ∧ j < sz
  | 0, l, a, j, x, hx => by simp [at2, chunk] at hx
  | k + 1, l, 0, j, x, hx => by
    simp [at2, chunk, List.getElem?_take] at hx
    simp [hx]
  | k + 1, l, a + 1, j, x, hx => by
    have hx' : at2 (chunk sz k (l.drop sz)) a j = some x := by simpa [at2, chunk] using hx
    obtain ⟨h1, h2, h3⟩ := at2_chunk hx'
    rw [List.getElem?_drop] at h1
    refine ⟨?_, by omega, h3⟩
    rw [Nat.add_mul]
    rw [show a * sz + 1 * sz + j = sz + (a * sz + j) from by omega]
    exact h1

/-- The same boxes, some of them frozen. -/
def Fzd (h h' : H) : Prop := ∀ i, getH h' i = getH h i ∨ getH h' i = fz1 (getH h i)

theorem Fzd.refl (h : H) : Fzd h h := fun _ => .inl rfl

theorem fz1_fz1 (b : Box) : fz1 (fz1 b) = fz1 b := by cases b <;> rfl

theorem Fzd.trans {h h' h'' : H} (a : Fzd h h') (b : Fzd h' h'') : Fzd h h'' := fun i => by
  rcases b i with hb | hb <;> rcases a i with ha | ha <;> rw [hb, ha]
  · exact .inl rfl
  · exact .inr rfl
  · exact .inr rfl
  · exact .inr (fz1_fz1 _)

theorem Fzd.fz (h : H) (is : List Nat) : Fzd h (Ab.fz h is) := fun i => by
  rw [getH_fz]
  split
  · exact .inr rfl
  · exact .inl rfl

theorem close_fzd {s : SV} {h h' : H} {x : CV} (hc : close s h = some (x, h')) : Fzd h h' := by
  unfold close at hc
  obtain ⟨y, _, hc⟩ := bind_some' hc
  simp only [Option.some.injEq, Prod.mk.injEq] at hc
  obtain ⟨_, rfl⟩ := hc
  exact Fzd.fz h _

theorem seqClose_fzd : ∀ {cs : List SV} {h h' : H} {xs : List CV}, seqO close cs h = some (xs, h') → Fzd h h'
  | [], h, h', xs, hs => by
    simp only [seqO, Option.some.injEq, Prod.mk.injEq] at hs
    obtain ⟨_, rfl⟩ := hs
    exact Fzd.refl h
  | s :: cs, h, h', xs, hs => by
    simp only [seqO] at hs
    obtain ⟨⟨x1, g1⟩, h1, hs⟩ := bind_some' hs
    obtain ⟨⟨x2, g2⟩, h2, hs⟩ := bind_some' hs
    simp only [Option.some.injEq, Prod.mk.injEq] at hs
    obtain ⟨_, rfl⟩ := hs
    exact (close_fzd h1).trans (seqClose_fzd h2)

theorem Fzd.cells {h h' : H} (f : Fzd h h') {i : Nat} {fr : Bool} {cs : List SV} (hg : getH h i = .cells fr cs) : ∃ fr', getH h' i = .cells fr' cs := by
  rcases f i with hf | hf <;> rw [hf, hg]
  · exact ⟨fr, rfl⟩
  · exact ⟨true, rfl⟩

theorem slice_sound {t : TypeId} {x : Operand} {lo hi mx : Option Operand} (ho : o.op = .slice t x lo hi mx)
    (hK : ((optInt cx.P st lo).bind fun lo => (optInt cx.P st hi).bind fun hi => (optInt cx.P st mx).bind fun mx => sliceK cx t (ev cx.P st 0 x) lo hi mx h K) = some r) : OpS cx o st h K r := by
  replace hK := bind_some' hK
  obtain ⟨nl, hnl, hK⟩ := hK
  replace hK := bind_some' hK
  obtain ⟨nh, hnh, hK⟩ := hK
  replace hK := bind_some' hK
  obtain ⟨nm, hnm, hK⟩ := hK
  generalize hx : ev cx.P st 0 x = sx at hK
  have hrun : ∀ (a : Act) (w : World) (u : Value), (Instr.sliceAt t (a.eval x) (lo.map a.eval) (hi.map a.eval) (mx.map a.eval)).run cx.P w = .ok u w → (execOp a.eval o).run cx.P w = .ok (.value u) w := fun a w u hu => by
    simp [execOp, ho, hu]
  unfold sliceK at hK
  split at hK
  · rename_i e hu
    replace hK := cond_some hK
    obtain ⟨hok, hK⟩ := hK
    obtain ⟨inf, z, hinf, hsz, hpos, _, _, _⟩ := okE_info hok
    have hsl : ∀ (a : Act) (w : World) (ad : Option Addr) (len cap : Nat), len ≤ cap → okBounds len nl nh nm = true → ∀ ρ X, R cx ρ X st h a w → a.eval x = .slice ad len cap →
        (Instr.sliceAt t (a.eval x) (lo.map a.eval) (hi.map a.eval) (mx.map a.eval)).run cx.P w =
          .ok (.slice (if (capOf cap nm) = (nl.getD 0).toNat then ad else ad.map (·.add ((nl.getD 0).toNat * inf.size))) ((nh.getD len).toNat - (nl.getD 0).toNat) ((capOf cap nm) - (nl.getD 0).toNat)) w := fun a w ad len cap hle hb ρ X rr ha => by
      have hbd := run_sliceBounds (P := cx.P) (isSlice := true) (optInt_sound rr hnl) (optInt_sound rr hnh) (optInt_sound rr hnm) hb hle w
      rw [ha]
      simp [Instr.sliceAt, Instr.slice, run_underlying hu, hbd, sizeOf, typeInfo, hinf]
    split at hK
    · rename_i sz l
      replace hK := cond_some hK
      obtain ⟨hb, hK⟩ := hK
      obtain rfl := beq_true hb
      replace hK := cond_some hK
      obtain ⟨hbd, hK⟩ := hK
      refine .pure hK fun ρ X a w rr => ?_
      have e1 := ev_sound rr 0 x
      rw [hx] at e1
      cases e1 with
      | c y v hy =>
        have hb' := hbd
        unfold okBounds at hb'
        simp only [Bool.and_eq_true, decide_eq_true_eq] at hb'
        obtain ⟨hm, ⟨⟨hb1, hb2⟩, hb3⟩, hb4⟩ := hb'
        obtain ⟨ad, cap, hval, hl⟩ := hy.sl_inv
        have hcap : l.length ≤ cap ∨ l = [] := by
          rcases hl with rfl | ⟨b, o', _, _, _, hc, _⟩
          · exact .inr rfl
          · exact .inl hc
        have hle : l.length ≤ cap := by
          rcases hcap with hc | rfl
          · exact hc
          · simp
        have hr := hsl a w ad l.length cap hle hbd ρ X rr hval
        refine ⟨_, hrun a w _ hr, ?_⟩
        have hlen : (subl l (nl.getD 0).toNat (nh.getD l.length - nl.getD 0).toNat).length = (nh.getD l.length).toNat - (nl.getD 0).toNat := by
          simp [subl]; omega
        by_cases hz : (nh.getD l.length).toNat - (nl.getD 0).toNat = 0
        · have he : subl l (nl.getD 0).toNat (nh.getD l.length - nl.getD 0).toNat = [] := by
            apply List.eq_nil_of_length_eq_zero
            rw [hlen, hz]
          rw [he, hz]
          exact .c _ _ (.sl0 _ _ _)
        · rcases hl with rfl | ⟨b, o', rfl, hz0, hls, hc, hM, hbl, hcell⟩
          · exfalso
            apply hz
            have h1 : nh.getD ((List.length ([] : List (List CV)) : Nat) : Int) ≤ 0 := Int.le_trans hb3 hb4
            generalize nh.getD ((List.length ([] : List (List CV)) : Nat) : Int) = q at *
            omega
          · have hmne : ¬ ((capOf cap nm) = (nl.getD 0).toNat) := by
              cases nm with
              | none => simp [capOf] at hb3 hb4 ⊢; omega
              | some m => simp [capOf] at hb3 hb4 ⊢; omega
            rw [if_neg hmne]
            simp only [Option.map_some, add_lit]
            have hcr := CR.sl (w := w) (M := Mut ρ X h) (szOf cx.P e) (subl l (nl.getD 0).toNat (nh.getD l.length - nl.getD 0).toNat) b (o' + (nl.getD 0).toNat * inf.size)
              ((capOf cap nm) - (nl.getD 0).toNat)
              (fun k j => (w.cell? ⟨b, o' + (((nl.getD 0).toNat + k) * szOf cx.P e + j), none⟩).getD undef) hz0
              (fun e he => hls e (List.mem_of_mem_drop (List.mem_of_mem_take he)))
              (by
                rw [hlen]
                cases nm with
                | none => simp [capOf] at hb3 hb4 ⊢; omega
                | some m => simp [capOf] at hb3 hb4 ⊢; omega) hM hbl
              (fun k j y hy => by
                obtain ⟨hy, _⟩ := at2_subl hy
                obtain ⟨u, hu', _, _⟩ := hcell _ j y hy
                rw [hsz, show o' + (nl.getD 0).toNat * szOf cx.P e + (k * szOf cx.P e + j) = o' + (((nl.getD 0).toNat + k) * szOf cx.P e + j) from by rw [Nat.add_mul]; omega, hu']; rfl)
              (fun k j y hy => by
                obtain ⟨hy, _⟩ := at2_subl hy
                obtain ⟨u, hu', hp, _⟩ := hcell _ j y hy
                rw [hu']; exact hp)
              (fun k j y hy => by
                obtain ⟨hy, _⟩ := at2_subl hy
                obtain ⟨u, hu', _, hr⟩ := hcell _ j y hy
                rw [hu']; exact hr)
            rw [hlen] at hcr
            exact .c _ _ hcr
    · rename_i sz
      replace hK := cond_some hK
      obtain ⟨hbd, hK⟩ := hK
      refine .pure hK fun ρ X a w rr => ?_
      have e1 := ev_sound rr 0 x
      rw [hx] at e1
      have hb' := hbd
      unfold okBounds at hb'
      simp only [Bool.and_eq_true, decide_eq_true_eq] at hb'
      obtain ⟨hm, ⟨⟨hq1, hq2⟩, hq3⟩, hq4⟩ := hb'
      generalize hval : a.eval x = vx at e1
      cases e1 with
      | nil _ h0 =>
        have hr := hsl a w none 0 0 (Nat.le_refl _) hbd ρ X rr hval
        have hc0 : capOf 0 nm = 0 := by
          cases nm with
          | none => rfl
          | some m => simp only [capOf, Option.getD_some] at hq3 hq4 ⊢; omega
        have e3 : (nh.getD ((0 : Nat) : Int)).toNat - (nl.getD 0).toNat = 0 := by
          cases nm with
          | none => simp only [Option.getD_none] at hq3 hq4; omega
          | some m => simp only [Option.getD_some] at hq3 hq4; omega
        rw [hc0, e3, Nat.zero_sub] at hr
        refine ⟨_, hrun a w _ hr, ?_⟩
        have e4 : (if 0 = (nl.getD 0).toNat then (none : Option Addr) else Option.map (fun x : Addr => x.add ((nl.getD 0).toNat * inf.size)) none) = none := by split <;> rfl
        rw [e4]
        exact .nil _ h0
    · rename_i i ver
      split at hK
      · rename_i ver' fr sz l hg
        replace hK := cond_some hK
        obtain ⟨hb, hK⟩ := hK
        simp only [Bool.and_eq_true] at hb
        obtain ⟨hb1, hb2⟩ := hb
        have hv1 := beq_true hb1
        have hv2 := beq_true hb2
        replace hK := cond_some hK
        obtain ⟨hbd, hK⟩ := hK
        refine .pure hK fun ρ X a w rr => ?_
        have e1 := ev_sound rr 0 x
        rw [hx] at e1
        have hb' := hbd
        unfold okBounds at hb'
        simp only [Bool.and_eq_true, decide_eq_true_eq] at hb'
        obtain ⟨hm, ⟨⟨hq1, hq2⟩, hq3⟩, hq4⟩ := hb'
        cases e1 with
        | acc _ _ v hpl hil hq =>
          have hval := (hq ver' fr sz l hg).2 hv1
          have hbx := rr.hr.box i
          rw [hg] at hbx
          obtain ⟨_, _, _, h3⟩ := hbx
          have hcur : ∃ ad cap, ρ.cur i = .slice ad l.length cap ∧ l.length ≤ cap ∧ ∀ y, ad = some y → y.spot = none := by
            rcases h3 with ⟨h3, rfl⟩ | ⟨b, cap, cur, ty, h3, _, h5, _⟩
            · exact ⟨none, 0, h3, Nat.le_refl _, fun y hy => by cases hy⟩
            · exact ⟨_, cap, h3, h5, fun y hy => by cases hy; rfl⟩
          obtain ⟨ad, cap, hcur, hle, hspot⟩ := hcur
          have hr := hsl a w ad l.length cap hle hbd ρ X rr (hval.trans hcur)
          have e3 : (nh.getD l.length).toNat - (nl.getD 0).toNat = (nh.getD l.length - nl.getD 0).toNat := by omega
          have hcap : capOf cap nm ≤ cap ∧ (nh.getD l.length).toNat ≤ capOf cap nm := by
            cases nm with
            | none => simp only [capOf, Option.getD_none] at hq3 hq4 ⊢; omega
            | some m => simp only [capOf, Option.getD_some] at hq3 hq4 ⊢; omega
          rw [e3] at hr
          refine ⟨_, hrun a w _ hr, .sub _ _ _ _ _ rfl hil fun v2 fr2 sz2 l2 hg2 => ⟨(hq v2 fr2 sz2 l2 hg2).1, fun _ => ?_⟩⟩
          rw [hg] at hg2
          cases hg2
          refine ⟨?_, ad, cap, capOf cap nm - (nl.getD 0).toNat, if capOf cap nm = (nl.getD 0).toNat then 0 else (nl.getD 0).toNat * sz, hcur, by omega, by omega, ?_, fun hc => ?_, ?_⟩
          · cases nm with
            | none => simp only [Option.getD_none] at hq3 hq4; omega
            | some m => simp only [Option.getD_some] at hq3 hq4; omega
          · split <;> omega
          · rw [if_neg (by omega)]
          · split
            · rw [addr_add0 ad hspot]
            · rw [hsz, hv2]
      · cases hK
    · rename_i i ver lo0 k
      split at hK
      · rename_i ver' fr sz l hg
        replace hK := cond_some hK
        obtain ⟨hb, hK⟩ := hK
        simp only [Bool.and_eq_true] at hb
        obtain ⟨hb1, hb2⟩ := hb
        have hv1 := beq_true hb1
        have hv2 := beq_true hb2
        replace hK := cond_some hK
        obtain ⟨hbd, hK⟩ := hK
        refine .pure hK fun ρ X a w rr => ?_
        have e1 := ev_sound rr 0 x
        rw [hx] at e1
        have hb' := hbd
        unfold okBounds at hb'
        simp only [Bool.and_eq_true, decide_eq_true_eq] at hb'
        obtain ⟨hm, ⟨⟨hq1, hq2⟩, hq3⟩, hq4⟩ := hb'
        cases e1 with
        | sub _ _ _ _ v hpl hil hq =>
          obtain ⟨hlo, ad, cap, cap1, k1, hcur, hnc, hcc, hkl, hk1, hval⟩ := (hq ver' fr sz l hg).2 hv1
          have had : ad = none ∨ ∃ b, ad = some ⟨b, 0, none⟩ := by
            have hbx := rr.hr.box i
            rw [hg] at hbx
            obtain ⟨_, _, _, h3⟩ := hbx
            rcases h3 with ⟨h3, _⟩ | ⟨b, cap', cur, ty, h3, _⟩ <;> rw [hcur] at h3 <;> injection h3 with ha _ _
            · exact .inl ha
            · exact .inr ⟨b, ha⟩
          have hr := hsl a w (ad.map fun x : Addr => x.add k1) k cap1 hnc hbd ρ X rr hval
          have e3 : (nh.getD k).toNat - (nl.getD 0).toNat = (nh.getD k - nl.getD 0).toNat := by omega
          have hcap : capOf cap1 nm ≤ cap1 ∧ (nh.getD k).toNat ≤ capOf cap1 nm := by
            cases nm with
            | none => simp only [capOf, Option.getD_none] at hq3 hq4 ⊢; omega
            | some m => simp only [capOf, Option.getD_some] at hq3 hq4 ⊢; omega
          rw [e3] at hr
          refine ⟨_, hrun a w _ hr, .sub _ _ _ _ _ rfl hil fun v2 fr2 sz2 l2 hg2 => ⟨(hq v2 fr2 sz2 l2 hg2).1, fun _ => ?_⟩⟩
          rw [hg] at hg2
          cases hg2
          have hmul : (lo0 + (nl.getD 0).toNat) * sz = lo0 * sz + (nl.getD 0).toNat * sz := Nat.add_mul _ _ _
          refine ⟨?_, ad, cap, capOf cap1 nm - (nl.getD 0).toNat, if capOf cap1 nm = (nl.getD 0).toNat then k1 else k1 + (nl.getD 0).toNat * sz, hcur, by omega, by omega, ?_, fun hc => ?_, ?_⟩
          · cases nm with
            | none => simp only [Option.getD_none] at hq3 hq4; omega
            | some m => simp only [Option.getD_some] at hq3 hq4; omega
          · rw [hmul]; split <;> omega
          · rw [if_neg (by omega), hmul, hk1 (by omega)]
          · split
            · rfl
            · rw [hsz, hv2]
              rcases had with rfl | ⟨b, rfl⟩
              · rfl
              · simp only [Option.map_some, add_lit, Nat.zero_add]
      · cases hK
    · cases hK
  · rename_i len e hu
    replace hK := cond_some hK
    obtain ⟨hok, hK⟩ := hK
    obtain ⟨inf, z, hinf, hsz, hpos, _, _, _⟩ := okE_info hok
    have hnone : ∀ (a : Act) (w : World) ρ X, R cx ρ X st h a w → nl = none → nh = none → nm = none → ∀ b o', a.eval x = .pointer (some ⟨b, o', none⟩) →
        (Instr.sliceAt t (a.eval x) (lo.map a.eval) (hi.map a.eval) (mx.map a.eval)).run cx.P w = .ok (.slice (some ⟨b, o', none⟩) len len) w := fun a w ρ X rr e1 e2 e3 b o' ha => by
      subst e1 e2 e3
      have hbd := run_sliceBounds (P := cx.P) (isSlice := false) (optInt_sound rr hnl) (optInt_sound rr hnh) (optInt_sound rr hnm) (by simp [okBounds]) (Nat.le_refl len) w
      rw [ha]
      simp [Instr.sliceAt, run_underlying hu, Instr.sureAddr, hbd, sizeOf, typeInfo, hinf, add_lit, capOf]
    split at hK
    · rename_i i off
      split at hK
      · rename_i fr cs hg
        replace hK := cond_some hK
        obtain ⟨hle, hK⟩ := hK
        have hle := Nat.le_of_ble_eq_true hle
        replace hK := bind_some' hK
        obtain ⟨⟨xs, h'⟩, hs, hK⟩ := hK
        refine .frz hK fun ρ X a w rr => ?_
        have e1 := ev_sound rr 0 x
        rw [hx] at e1
        cases e1 with
        | ptr _ _ v hpl hil hq =>
          have hcb := cellsBox rr.hr hg
          obtain ⟨hl1, t1, c1⟩ := seqClose_sound (subl cs off (len * szOf cx.P e)) X h xs h' (fun j => (w.cell? ⟨ρ.blk i, off + j, none⟩).getD undef) rr.hr (fun j s hs => by
            unfold subl at hs
            simp only [List.getElem?_take, List.getElem?_drop] at hs
            split at hs
            · obtain ⟨u, hu, _, hvr⟩ := hcb _ s hs
              rw [hu]; exact hvr
            · simp at hs) hs
          have hxl : xs.length = len * szOf cx.P e := by rw [hl1]; simp [subl]; omega
          refine ⟨_, hrun a w _ (hnone a w ρ X rr rfl rfl rfl _ _ hq), t1.hr'.fz _, t1.ext'.trans (Ext.fz ρ h' w _), .c _ _ ?_⟩
          by_cases hlen : len = 0
          · subst hlen; exact .sl0 _ _ _
          · have hbi : bOf ρ i (getH h' i) = some (ρ.blk i) := by
              obtain ⟨fr', hg'⟩ := (seqClose_fzd hs).cells hg
              rw [hg']
              rfl
            have hnm := not_mut_of_frozen t1.hr' (is := [i]) (by simp [memN]) hbi (by
              obtain ⟨fr', hg'⟩ := (seqClose_fzd hs).cells hg
              rw [hg']
              rfl)
            have hcr := CR.sl (w := w) (M := Mut ρ X (fz h' [i])) (szOf cx.P e) (chunk (szOf cx.P e) len xs) (ρ.blk i) off len (fun k j => (w.cell? ⟨ρ.blk i, off + (k * szOf cx.P e + j), none⟩).getD undef) (by omega)
              (chunk_mem (by omega)) (by rw [chunk_length]; exact Nat.le_refl _) hnm (t1.hr'.lt hbi)
              (fun k j y hy => by
                obtain ⟨h1, h2, h3⟩ := at2_chunk hy
                have hj := (List.getElem?_eq_some_iff.1 h1).1
                obtain ⟨u, hu', _, _⟩ := hcb (off + (k * szOf cx.P e + j)) (cs[off + (k * szOf cx.P e + j)]'(by omega)) (by simp [show off + (k * szOf cx.P e + j) < cs.length from by omega])
                rw [hu']; rfl)
              (fun k j y hy => by
                obtain ⟨h1, h2, h3⟩ := at2_chunk hy
                have hj := (List.getElem?_eq_some_iff.1 h1).1
                obtain ⟨u, hu', hp, _⟩ := hcb (off + (k * szOf cx.P e + j)) (cs[off + (k * szOf cx.P e + j)]'(by omega)) (by simp [show off + (k * szOf cx.P e + j) < cs.length from by omega])
                rw [hu']; exact hp)
              (fun k j y hy => by
                obtain ⟨h1, h2, h3⟩ := at2_chunk hy
                exact (Ext.fz ρ h' w [i]).cr (c1 _ y h1))
            rw [chunk_length] at hcr
            exact hcr
      · cases hK
    · rename_i cs off
      replace hK := cond_some hK
      obtain ⟨hle, hK⟩ := hK
      have hle := Nat.le_of_ble_eq_true hle
      refine .pure hK fun ρ X a w rr => ?_
      have e1 := ev_sound rr 0 x
      rw [hx] at e1
      generalize hval : a.eval x = val at e1
      cases e1 with
      | c y v hy =>
        cases hy with
        | pc _ _ b o' u hM hb hcell hp hr =>
          refine ⟨_, hrun a w _ (hnone a w ρ X rr rfl rfl rfl _ _ hval), .c _ _ ?_⟩
          by_cases hlen : len = 0
          · subst hlen; exact .sl0 _ _ _
          · have hxl : (subl cs off (len * szOf cx.P e)).length = len * szOf cx.P e := by simp [subl]; omega
            have hget : ∀ (k j : Nat) (y : CV), at2 (chunk (szOf cx.P e) len (subl cs off (len * szOf cx.P e))) k j = some y → cs[off + (k * szOf cx.P e + j)]? = some y := fun k j y hy => by
              obtain ⟨h1, h2, h3⟩ := at2_chunk hy
              unfold subl at h1
              simp only [List.getElem?_take, List.getElem?_drop] at h1
              split at h1
              · exact h1
              · simp at h1
            have hcr := CR.sl (w := w) (M := Mut ρ X h) (szOf cx.P e) (chunk (szOf cx.P e) len (subl cs off (len * szOf cx.P e))) b (o' + off) len (fun k j => u (off + (k * szOf cx.P e + j))) (by omega)
              (chunk_mem (by omega)) (by rw [chunk_length]; exact Nat.le_refl _) hM hb
              (fun k j y hy => by
                rw [Nat.add_assoc]
                exact hcell _ y (hget k j y hy))
              (fun k j y hy => hp _ y (hget k j y hy))
              (fun k j y hy => hr _ y (hget k j y hy))
            rw [chunk_length] at hcr
            exact hcr
    · cases hK
  · cases hK
end
end Go.Ab

namespace Go.Ab
open Go

theorem splice_length {α : Type} {l : List α} {off : Nat} {x : List α} (h : off + x.length ≤ l.length) : (splice l off x).length = l.length := by
  simp [splice]; omega

theorem splice_get {α : Type} {l : List α} {off : Nat} {x : List α} (h : off + x.length ≤ l.length) (m : Nat) :
    (splice l off x)[m]? = if off ≤ m ∧ m < off + x.length then x[m - off]? else l[m]? := by
  unfold splice
  by_cases h1 : m < off
  · rw [List.append_assoc, List.getElem?_append_left (by simp; omega), List.getElem?_take, if_pos h1, if_neg (by omega)]
  · by_cases h2 : m < off + x.length
    · rw [List.append_assoc, List.getElem?_append_right (by simp; omega), List.getElem?_append_left (by simp; omega), if_pos (by omega)]
      congr 1
      simp; omega
    · rw [List.getElem?_append_right (by simp; omega), List.getElem?_drop, if_neg (by omega)]
      congr 1
      simp; omega

theorem fold_set : ∀ (L : List Value) (off k : Nat) (cells : Array Value),
    ((L.zipIdx k).foldl (fun (cs : Array Value) (p : Value × Nat) => cs.setIfInBounds (off + p.2) p.1) cells).size = cells.size ∧
    ∀ m, m < cells.size → ((L.zipIdx k).foldl (fun (cs : Array Value) (p : Value × Nat) => cs.setIfInBounds (off + p.2) p.1) cells)[m]? = if off + k ≤ m ∧ m < off + k + L.length then L[m - (off + k)]? else cells[m]?
  | [], off, k, cells => by
    refine ⟨by simp, fun m hm => ?_⟩
    rw [if_neg (fun hh => by simp at hh; omega)]
    simp
  | v :: L, off, k, cells => by
    obtain ⟨h1, h2⟩ := fold_set L off (k + 1) (cells.setIfInBounds (off + k) v)
    simp only [List.zipIdx_cons, List.foldl_cons]
    refine ⟨by rw [h1]; simp, fun m hm => ?_⟩
    rw [h2 m (by simpa using hm)]
    by_cases e1 : off + (k + 1) ≤ m ∧ m < off + (k + 1) + L.length
    · rw [if_pos e1, if_pos (by simp; omega)]
      rw [show m - (off + k) = (m - (off + (k + 1))) + 1 from by omega]
      simp
    · rw [if_neg e1]
      by_cases e2 : m = off + k
      · subst e2
        simp [hm]
      · rw [if_neg (by simp; omega)]
        rw [Array.getElem?_setIfInBounds_ne (by omega)]

section
variable {β : Type} {cx : Cx} {o : Oper} {st : St} {h : H} {r : β} {K : SV → H → Option β}

/-- A row of cells, and what is known of each. -/
def CellsR (ρ : Env) (h : H) (w : World) (M : Nat → Prop) (cs : List SV) (a : Array Value) : Prop :=
  a.size = cs.length ∧ ∀ (j : Nat) (s : SV), cs[j]? = some s → plain (a.getD j undef) ∧ VR ρ h w M s (a.getD j undef)

theorem fill_sound {ρ : Env} {X : Nat → Prop} {a : Act} {w : World} (rr : R cx ρ X st h a w) {place : Nat → Option (Nat × TypeId)} {place' : Nat → Option (Nat × Nat)}
    (hp : ∀ i off t, place i = some (off, t) → ∀ g s, tyO cx.P t = some (g, s) → place' i = some (off, s)) :
    ∀ (parts : List (Nat × Operand)) (ps : List (Nat × List SV)) (cs : List SV) (cells : Array Value), partsOf cx.P st place parts = some ps → ps.all (fun p => Nat.ble (p.1 + p.2.length) cs.length) = true →
      CellsR ρ h w (Mut ρ X h) cs cells →
      ∃ cells', Instr.fill place' cells (parts.map fun p => (p.1, a.eval p.2)) = some cells' ∧ CellsR ρ h w (Mut ρ X h) (fillL cs ps) cells'
  | [], ps, cs, cells, hps, _, hc => by
    simp only [partsOf, Option.some.injEq] at hps
    subst hps
    exact ⟨cells, rfl, hc⟩
  | (i, x) :: parts, ps, cs, cells, hps, hall, hc => by
    simp only [partsOf] at hps
    obtain ⟨⟨off, t⟩, hpl, hps⟩ := bind_some' hps
    obtain ⟨xs, hxs, hps⟩ := bind_some' hps
    obtain ⟨⟨g, s⟩, ht, hps⟩ := bind_some' hps
    obtain ⟨hl, hps⟩ := cond_some hps
    obtain ⟨ps', hps', hps⟩ := bind_some' hps
    obtain rfl := Option.some.inj hps
    have hl := beq_true hl
    simp only [List.all_cons, Bool.and_eq_true] at hall
    obtain ⟨hle, hall⟩ := hall
    have hle := Nat.le_of_ble_eq_true hle
    dsimp only at hle hl hpl
    obtain ⟨hvs, hv⟩ := cellsOf_sound hxs (ev_sound rr t x)
    have hpl' := hp i off t hpl g s ht
    obtain ⟨hcs, hcc⟩ := hc
    have hfs := fold_set (a.eval x).cells.toList off 0 cells
    have hnew : CellsR ρ h w (Mut ρ X h) (splice cs off xs) ((a.eval x).cells.zipIdx.foldl (fun cs (c, j) => cs.setIfInBounds (off + j) c) cells) := by
      have e : (a.eval x).cells.zipIdx.foldl (fun cs (c, j) => cs.setIfInBounds (off + j) c) cells = ((a.eval x).cells.toList.zipIdx 0).foldl (fun (cs : Array Value) (p : Value × Nat) => cs.setIfInBounds (off + p.2) p.1) cells := by
        rw [← Array.foldl_toList, Array.toList_zipIdx]
      rw [e]
      refine ⟨by rw [hfs.1, splice_length hle, hcs], fun j s hs => ?_⟩
      rw [splice_get hle] at hs
      have hj : j < cells.size := by
        rw [hcs]
        split at hs
        · omega
        · exact (List.getElem?_eq_some_iff.1 hs).1
      have hg := hfs.2 j hj
      simp only [Nat.add_zero] at hg
      rw [Array.getD_eq_getD_getElem?, hg]
      split at hs
      · rename_i hin
        rw [if_pos (by simp [hvs]; omega)]
        have := hv (j - off) s hs
        rw [Array.getD_eq_getD_getElem?] at this
        simpa using this
      · rename_i hin
        rw [if_neg (by simp [hvs]; omega)]
        have := hcc j s hs
        rw [Array.getD_eq_getD_getElem?] at this
        simpa using this
    obtain ⟨cells', hf, hc'⟩ := fill_sound rr hp parts ps' (splice cs off xs) _ hps' (by rw [splice_length hle]; exact hall) hnew
    refine ⟨cells', ?_, hc'⟩
    simp only [List.map_cons, Instr.fill, hpl']
    rw [if_neg]
    · exact hf
    · simp; omega

theorem zeroOf_some {P : Program} {t : TypeId} {cs : List SV} (h : cellsOf (zeroOf P t) = some cs) : ∃ i z, P.info? t = some i ∧ i.zero = some z ∧ zeroOf P t = ofValue P t z := by
  unfold zeroOf at *
  cases hi : P.info? t with
  | none => simp [hi, cellsOf] at h
  | some i =>
    cases hz : i.zero with
    | none => simp [hi, hz, cellsOf] at h
    | some z => exact ⟨i, z, rfl, hz, by simp [hz]⟩

theorem zero_cells {ρ : Env} {w : World} {M : Nat → Prop} {P : Program} {t : TypeId} {cs : List SV} (hc : cellsOf (zeroOf P t) = some cs) : ∃ i z, P.info? t = some i ∧ i.zero = some z ∧ CellsR ρ h w M cs z.cells := by
  obtain ⟨i, z, hi, hz, he⟩ := zeroOf_some hc
  rw [he] at hc
  exact ⟨i, z, hi, hz, cellsOf_sound hc (ofValue_sound P t z)⟩

theorem build_sound {t : TypeId} {parts : Array (Nat × Operand)} (ho : o.op = .build t parts)
    (hK : (match cx.P.underlying t with
    | some (.struct fs) => bif fs.toList.all (fun f => (cx.P.info? f.type).isSome) then buildK cx t (fieldOf cx.P t) st parts.toList h K else none
    | some (.array _ e) => bif okE cx.P e then buildK cx t (fun i => some (i * szOf cx.P e, e)) st parts.toList h K else none
    | _ => none) = some r) : OpS cx o st h K r := by
  have hrun : ∀ (a : Act) (w : World) (cells : Array Value), cx.P.built t (parts.toList.map fun p => (p.1, a.eval p.2)) = some cells → (execOp a.eval o).run cx.P w = .ok (.value (.agg cells)) w := fun a w cells hb => by
    have hb' : cx.P.built t (parts.map fun p => (p.1, a.eval p.2)).toList = some cells := by simpa using hb
    have := run_build w t (parts.map fun p => (p.1, a.eval p.2)) cells hb'
    simp only [execOp, ho, Sem.run_bind]
    have e : (parts.map fun x => match x with | (i, x) => (i, a.eval x)) = (parts.map fun p => (p.1, a.eval p.2)) := rfl
    rw [e, this]
    rfl
  split at hK
  · rename_i fs hu
    replace hK := cond_some hK
    obtain ⟨hall, hK⟩ := hK
    unfold buildK at hK
    replace hK := bind_some' hK
    obtain ⟨z, hz, hK⟩ := hK
    replace hK := bind_some' hK
    obtain ⟨ps, hps, hK⟩ := hK
    replace hK := cond_some hK
    obtain ⟨hle, hK⟩ := hK
    refine .pure hK fun ρ X a w rr => ?_
    obtain ⟨i, zv, hi, hzv, hcz⟩ := zero_cells (ρ := ρ) (h := h) (w := w) (M := Mut ρ X h) hz
    have hinf : ∀ f ∈ fs.toList, ∃ i, cx.P.info? f.type = some i := fun f hf => Option.isSome_iff_exists.1 (List.all_eq_true.1 hall f hf)
    have hpl : ∃ places, fs.toList.mapM (fun f => (cx.P.info? f.type).map fun i => (f.offset, i.size)) = some places ∧ ∀ k : Nat, places[k]? = (fs.toList[k]?).bind fun f => (cx.P.info? f.type).map fun i => (f.offset, i.size) := by
      clear hall hps hu
      generalize fs.toList = L at hinf
      induction L with
      | nil => exact ⟨[], by simp, by simp⟩
      | cons f L ih =>
        obtain ⟨pl, hpl, hk⟩ := ih (fun f hf => hinf f (by simp [hf]))
        obtain ⟨i, hi⟩ := hinf f (by simp)
        refine ⟨(f.offset, i.size) :: pl, by simp [hi, hpl], fun k => ?_⟩
        cases k with
        | zero => simp [hi]
        | succ k => simpa using hk k
    obtain ⟨places, hpl, hplk⟩ := hpl
    obtain ⟨cells, hf, hcr⟩ := fill_sound rr (place := fieldOf cx.P t) (place' := fun i => places.toArray[i]?) (fun i off ty hpi g s hty => by
      obtain ⟨fs', fd, hu', hfd, rfl, rfl⟩ := fieldOf_some hpi
      rw [hu] at hu'
      cases hu'
      obtain ⟨_, inf, _, hinf', _, rfl⟩ := info_of_tyO hty
      have hfd' : fs.toList[i]? = some fd := by simpa using hfd
      simp [hplk, hfd', hinf']) parts.toList ps z zv.cells hps hle hcz
    refine ⟨.agg cells, hrun a w cells ?_, .agg _ cells hcr.1 (fun j s hs => (hcr.2 j s hs).1) (fun j s hs => (hcr.2 j s hs).2)⟩
    simp only [Program.built, hi, hu, hzv, hpl]
    exact hf
  · rename_i len e hu
    replace hK := cond_some hK
    obtain ⟨hok, hK⟩ := hK
    obtain ⟨ie, _, hie, hse, _, _, _, _⟩ := okE_info hok
    unfold buildK at hK
    replace hK := bind_some' hK
    obtain ⟨z, hz, hK⟩ := hK
    replace hK := bind_some' hK
    obtain ⟨ps, hps, hK⟩ := hK
    replace hK := cond_some hK
    obtain ⟨hle, hK⟩ := hK
    refine .pure hK fun ρ X a w rr => ?_
    obtain ⟨i, zv, hi, hzv, hcz⟩ := zero_cells (ρ := ρ) (h := h) (w := w) (M := Mut ρ X h) hz
    obtain ⟨cells, hf, hcr⟩ := fill_sound rr (place := fun i => some (i * szOf cx.P e, e)) (place' := fun i => some (i * ie.size, ie.size)) (fun i off t' hpi g s hty => by
      simp only [Option.some.injEq, Prod.mk.injEq] at hpi
      obtain ⟨rfl, rfl⟩ := hpi
      obtain ⟨_, inf, _, hinf', _, rfl⟩ := info_of_tyO hty
      rw [hie] at hinf'
      cases hinf'
      simp [hse]) parts.toList ps z zv.cells hps hle hcz
    refine ⟨.agg cells, hrun a w cells ?_, .agg _ cells hcr.1 (fun j s hs => (hcr.2 j s hs).1) (fun j s hs => (hcr.2 j s hs).2)⟩
    simp only [Program.built, hi, hu, hzv, hie]
    exact hf
  · cases hK

/-- A new box of cells. -/
theorem newCells {ρ : Env} {X : Nat → Prop} {w : World} (hr : HR ρ X h w) {cs : List SV} {a : Array Value} (hc : CellsR ρ h w (Mut ρ X h) cs a) (ty : TypeId) :
    Post ρ X h w (.ptr h.length 0) (h ++ [.cells false cs]) (.pointer (some ⟨w.heap.size, 0, none⟩)) (w.alloc (.cells a ty)) := by
  obtain ⟨h1, h2⟩ := HR.new hr (w' := w.alloc (.cells a ty)) (by simp) (fun b hb => heap_alloc_old w _ b hb) (.cells false cs) .nilIface w.heap.size
    (fun b hb => by simp [bOf] at hb; omega) (fun e => by
      refine ⟨a, ty, by simpa using heap_alloc_new w _, by rw [hc.1]; exact Nat.le_refl _, fun j s hs => ?_⟩
      obtain ⟨hp, hv⟩ := hc.2 j s hs
      have hj : j < a.size := by rw [hc.1]; exact (List.getElem?_eq_some_iff.1 hs).1
      exact ⟨a[j], by simp [hj], by simpa [hj] using hp, by simpa [hj] using e.vr hv⟩)
  exact ⟨_, h1, .ptr _ _ _ rfl (by simp) (by simp), h2⟩

theorem alloc_sound {e : TypeId} (ho : o.op = .alloc e)
    (hK : ((cellsOf (zeroOf cx.P e)).bind fun cs => K (.ptr h.length 0) (h ++ [.cells false cs])) = some r) : OpS cx o st h K r := by
  replace hK := bind_some' hK
  obtain ⟨cs, hcs, hK⟩ := hK
  refine ⟨_, _, hK, fun ρ X a w rr => ?_⟩
  obtain ⟨i, z, hi, hz, hc⟩ := zero_cells (ρ := ρ) (h := h) (w := w) (M := Mut ρ X h) hcs
  refine .value (w' := w.alloc (.cells z.cells e)) (v := .pointer (some ⟨w.heap.size, 0, none⟩)) ?_ (newCells rr.hr hc e)
  simp [execOp, ho, Instr.alloc, zeroValue, typeInfo, hi, hz, newVar, newRow]

theorem box_sound {e : TypeId} {x : Operand} (ho : o.op = .box e x)
    (hK : ((cellsOf (ev cx.P st e x)).bind fun cs => bif Nat.beq cs.length (szOf cx.P e) then K (.ptr h.length 0) (h ++ [.cells false cs]) else none) = some r) : OpS cx o st h K r := by
  replace hK := bind_some' hK
  obtain ⟨cs, hcs, hK⟩ := hK
  replace hK := cond_some hK
  obtain ⟨_, hK⟩ := hK
  refine ⟨_, _, hK, fun ρ X a w rr => ?_⟩
  have hc := cellsOf_sound hcs (ev_sound rr e x)
  refine .value (w' := w.alloc (.cells (a.eval x).cells e)) (v := .pointer (some ⟨w.heap.size, 0, none⟩)) ?_ (newCells rr.hr hc e)
  simp [execOp, ho, Instr.box, newVar, newRow]

theorem flatten_replicate_get {α : Type} (z : List α) (h0 : 0 < z.length) : ∀ (n m : Nat), ((List.replicate n z).flatten)[m]? = if m < n * z.length then z[m % z.length]? else none
  | 0, m => by simp
  | n + 1, m => by
    simp only [List.replicate_succ, List.flatten_cons]
    by_cases h1 : m < z.length
    · rw [List.getElem?_append_left h1, if_pos (by rw [Nat.add_mul]; omega), Nat.mod_eq_of_lt h1]
    · rw [List.getElem?_append_right (by omega), flatten_replicate_get z h0 n]
      have e : m % z.length = (m - z.length) % z.length := by
        conv => lhs; rw [show m = (m - z.length) + z.length from by omega]
        simp
      rw [e]
      by_cases h2 : m < (n + 1) * z.length
      · rw [if_pos h2, if_pos (by rw [Nat.add_mul] at h2; omega)]
      · rw [if_neg h2, if_neg (by rw [Nat.add_mul] at h2; omega)]

theorem flatten_replicate_length {α : Type} (z : List α) (n : Nat) : ((List.replicate n z).flatten).length = n * z.length := by
  induction n with
  | zero => simp
  | succ n ih => simp [List.replicate_succ, ih, Nat.add_mul]; omega

theorem zeros_get (zero : Array Value) (h0 : 0 < zero.size) (n m : Nat) (hm : m < n) : ((Array.range n).map (fun i => zero[i % zero.size]!)).getD m undef = zero.getD (m % zero.size) undef := by
  have : m % zero.size < zero.size := Nat.mod_lt _ h0
  simp [hm, this]

theorem zeros_rel {ρ : Env} {w : World} {M : Nat → Prop} {z : List SV} {zero : Array Value} (hz : CellsR ρ h w M z zero) (h0 : 0 < zero.size) (n : Nat) :
    CellsR ρ h w M (List.replicate n z).flatten ((Array.range (n * zero.size)).map (fun i => zero[i % zero.size]!)) := by
  refine ⟨by rw [flatten_replicate_length]; simp [hz.1], fun j s hs => ?_⟩
  rw [flatten_replicate_get z (by rw [← hz.1]; exact h0)] at hs
  split at hs
  · rename_i hj
    rw [← hz.1] at hj hs
    rw [zeros_get zero h0 _ j hj]
    exact hz.2 _ s hs
  · cases hs

theorem Post.pre {ρ : Env} {X : Nat → Prop} {h1 h' : H} {w w' : World} {sv : SV} {v : Value} (e : Ext ρ h w ρ h1 w) (p : Post ρ X h1 w sv h' v w') : Post ρ X h w sv h' v w' := by
  obtain ⟨ρ', a, b, c⟩ := p
  exact ⟨ρ', a, b, e.trans c⟩

/-- A new slice's row. -/
theorem newSlice_sound {dst : Option Nat} {sz : Nat} {l : List (List CV)} (hK : newSlice cx dst sz l h K = some r) :
    ∃ sv h', K sv h' = some r ∧ ∀ (ρ : Env) (X : Nat → Prop) (w : World), HR ρ X h w → ∀ (a : Array Value) (cap : Nat) (ty : TypeId), 0 < sz → (∀ e ∈ l, e.length = sz) → l.length ≤ LIM → l.length ≤ cap → cap * sz ≤ a.size →
      (∀ k j x, at2 l k j = some x → ∃ u, a[k * sz + j]? = some u ∧ plain u ∧ CR w (Mut ρ X h) x u) →
      Post ρ X h w sv h' (.slice (some ⟨w.heap.size, 0, none⟩) l.length cap) (w.alloc (.cells a ty)) := by
  unfold newSlice at hK
  cases hb : wrD cx dst with
  | true =>
    rw [hb] at hK
    refine ⟨_, _, hK, fun ρ X w hr a cap ty h0 h1 h2 h5 h6 hc => ?_⟩
    obtain ⟨g1, g2⟩ := HR.new hr (w' := w.alloc (.cells a ty)) (by simp) (fun b hb => heap_alloc_old w _ b hb) (.acc 0 false sz l) (.slice (some ⟨w.heap.size, 0, none⟩) l.length cap) 0
      (fun b hb => by simp [bOf] at hb; omega) (fun e => ⟨h0, h1, h2, .inr ⟨w.heap.size, cap, a, ty, by simp, heap_alloc_new w _, h5, h6, fun k j x hx => by
        obtain ⟨u, hu, hp, hcr⟩ := hc k j x hx
        exact ⟨u, hu, hp, e.cr hcr⟩⟩⟩)
    refine ⟨_, g1, .acc _ _ _ rfl (by simp) fun ver' fr sz' l' hh => ?_, g2⟩
    rw [getH_append_len] at hh
    cases hh
    exact ⟨Nat.le_refl _, fun _ => by simp⟩
  | false =>
    rw [hb] at hK
    refine ⟨_, _, hK, fun ρ X w hr a cap ty h0 h1 h2 h5 h6 hc => ?_⟩
    have e : Ext ρ h w ρ h (w.alloc (.cells a ty)) := ⟨HExt.refl ρ h, by simp, fun b hb _ => heap_alloc_old w _ b hb, fun _ _ h => h, rfl, rfl⟩
    have hr' : HR ρ X h (w.alloc (.cells a ty)) := ⟨fun i => (hr.box i).mono e rfl rfl fun b hb => heap_alloc_old w _ b (hr.lt hb), hr.inj, hr.out, fun b hb => by have := hr.xlt b hb; simp; omega, e.glob hr.glob⟩
    refine ⟨ρ, hr', .c _ _ ?_, e⟩
    have hnm : ¬ Mut ρ X h w.heap.size := by
      rintro (hx | ⟨i, _, hi⟩)
      · have := hr.xlt _ hx; omega
      · have := hr.lt hi; omega
    by_cases hl : l = []
    · subst hl; exact .sl0 _ _ _
    · exact .sl sz l w.heap.size 0 cap (fun k j => a.getD (k * sz + j) undef) h0 h1 h5 hnm (by simp)
        (fun k j x hx => by
          obtain ⟨u, hu, hp, hcr⟩ := hc k j x hx
          rw [cell_of_heap (heap_alloc_new w _), Nat.zero_add, hu]
          simp [hu])
        (fun k j x hx => by
          obtain ⟨u, hu, hp, hcr⟩ := hc k j x hx
          simpa [hu] using hp)
        (fun k j x hx => by
          obtain ⟨u, hu, hp, hcr⟩ := hc k j x hx
          simpa [hu] using e.cr hcr)

theorem fillL_length : ∀ (ps : List (Nat × List SV)) (cs : List SV), ps.all (fun p => Nat.ble (p.1 + p.2.length) cs.length) = true → (fillL cs ps).length = cs.length
  | [], _, _ => rfl
  | p :: ps, cs, h => by
    simp only [List.all_cons, Bool.and_eq_true] at h
    have hle := Nat.le_of_ble_eq_true h.1
    simp only [fillL]
    rw [fillL_length ps _ (by rw [splice_length hle]; exact h.2), splice_length hle]

theorem buildSlice_sound {t : TypeId} {len : Nat} {parts : Array (Nat × Operand)} (ho : o.op = .buildSlice t len parts)
    (hK : (match cx.P.underlying t with
    | some (.slice e) => bif okE cx.P e && Nat.ble (len * szOf cx.P e) 65536 && Nat.ble len LIM then
        (cellsOf (zeroOf cx.P e)).bind fun z => (partsOf cx.P st (fun i => some (i * szOf cx.P e, e)) parts.toList).bind fun ps =>
        bif ps.all (fun p => Nat.ble (p.1 + p.2.length) (List.replicate len z).flatten.length) then
        (seqO close (fillL (List.replicate len z).flatten ps) h).bind fun r => newSlice cx o.dst (szOf cx.P e) (chunk (szOf cx.P e) len r.1) r.2 K
        else none else none
    | _ => none) = some r) : OpS cx o st h K r := by
  split at hK
  · rename_i e hu
    replace hK := cond_some hK
    obtain ⟨hok, hK⟩ := hK
    simp only [Bool.and_eq_true] at hok
    obtain ⟨⟨hok, hle⟩, hlim⟩ := hok
    have hle := Nat.le_of_ble_eq_true hle
    have hlim := Nat.le_of_ble_eq_true hlim
    obtain ⟨ie, zv, hie, hse, hpos, _, hzv, hzs⟩ := okE_info hok
    replace hK := bind_some' hK
    obtain ⟨z, hz, hK⟩ := hK
    replace hK := bind_some' hK
    obtain ⟨ps, hps, hK⟩ := hK
    replace hK := cond_some hK
    obtain ⟨hall, hK⟩ := hK
    replace hK := bind_some' hK
    obtain ⟨⟨xs, h1⟩, hs, hK⟩ := hK
    dsimp only at hK
    obtain ⟨sv, h', hK, hpost⟩ := newSlice_sound hK
    refine ⟨sv, h', hK, fun ρ X a w rr => ?_⟩
    obtain ⟨i2, z2, hi2, hz2, hcz⟩ := zero_cells (ρ := ρ) (h := h) (w := w) (M := Mut ρ X h) hz
    rw [hie] at hi2
    cases hi2
    rw [hzv] at hz2
    cases hz2
    have hz0 := zeros_rel hcz (by omega) len
    rw [hzs] at hz0
    obtain ⟨cells, hf, hcr⟩ := fill_sound rr (place := fun i => some (i * szOf cx.P e, e)) (place' := fun i => some (i * ie.size, ie.size)) (fun i off t' hpi g s hty => by
      simp only [Option.some.injEq, Prod.mk.injEq] at hpi
      obtain ⟨rfl, rfl⟩ := hpi
      obtain ⟨_, inf, _, hinf', _, rfl⟩ := info_of_tyO hty
      rw [hie] at hinf'
      cases hinf'
      simp [hse]) parts.toList ps _ _ hps hall hz0
    obtain ⟨hl1, t1, c1⟩ := seqClose_sound _ X h xs h1 (fun j => cells.getD j undef) rr.hr (fun j s hs => (hcr.2 j s hs).2) hs
    have hzl : (List.replicate len z).flatten.length = len * szOf cx.P e := by rw [flatten_replicate_length, ← hcz.1, hzs, hse]
    have hxl : xs.length = len * szOf cx.P e := by rw [hl1, fillL_length ps _ hall, hzl]
    have hcl : cells.size = len * szOf cx.P e := by rw [hcr.1, fillL_length ps _ hall, hzl]
    have hp := hpost ρ X w t1.hr' cells len e (by omega) (chunk_mem (by omega)) (by rw [chunk_length]; exact hlim) (by rw [chunk_length]; exact Nat.le_refl _) (by omega) (fun k j x hx => by
      obtain ⟨hx, hk, hj⟩ := at2_chunk hx
      have hj2 := (List.getElem?_eq_some_iff.1 hx).1
      have hj3 : k * szOf cx.P e + j < cells.size := by omega
      have hj4 : k * szOf cx.P e + j < (fillL (List.replicate len z).flatten ps).length := by omega
      have := (hcr.2 (k * szOf cx.P e + j) ((fillL (List.replicate len z).flatten ps)[k * szOf cx.P e + j]) (by simp [hj4])).1
      have hc := c1 _ x hx
      exact ⟨cells[k * szOf cx.P e + j], by simp [hj3], by simpa [hj3] using this, by simpa [hj3] using hc⟩)
    rw [chunk_length] at hp
    refine .value (w' := w.alloc (.cells cells e)) ?_ (hp.pre t1.ext')
    have hne : ¬ (2 ^ 24 < len * ie.size) := by rw [hse]; omega
    have e1 : (parts.map fun x => match x with | (i, x) => (i, a.eval x)).toList = parts.toList.map fun p => (p.1, a.eval p.2) := by simp
    by_cases hz3 : len * ie.size = 0
    · have hl0 : len = 0 := by
        rcases Nat.mul_eq_zero.1 hz3 with h | h
        · exact h
        · omega
      subst hl0
      have hf0 : Instr.fill (fun i => some (i * ie.size, ie.size)) #[] (parts.toList.map fun p => (p.1, a.eval p.2)) = some cells := by
        have hr0 : Array.range 0 = #[] := rfl
        simpa [hr0] using hf
      have hr0 : Array.range 0 = #[] := rfl
      simp [execOp, ho, Instr.buildSlice, run_underlying hu, sizeOf, typeInfo, hie, newRow, hf0, hr0]
    · simp only [Nat.not_lt] at hne
      have hgt : ¬ (len * ie.size > 2 ^ 24) := by omega
      simp only [execOp, ho, Instr.buildSlice, Sem.run_bind, run_underlying hu, Result.andThen_ok, sizeOf, typeInfo, run_program, hie, Sem.run_pure, if_neg hgt, if_neg hz3, zeroValue, hzv, e1]
      simp [hzs, hf, newRow]
  · cases hK

theorem at2_replicate {α : Type} {n : Nat} {z : List α} {k j : Nat} {x : α} (h : at2 (List.replicate n z) k j = some x) : k < n ∧ z[j]? = some x := by
  unfold at2 at h
  rw [List.getElem?_replicate] at h
  split at h
  · exact ⟨by assumption, by simpa using h⟩
  · simp at h

theorem makeSlice_sound {t : TypeId} {l c : Operand} (ho : o.op = .makeSlice t l c)
    (hK : (match cx.P.underlying t, ev cx.P st 0 l, ev cx.P st 0 c with
    | some (.slice e), .c (.int .i64 n), .c (.int .i64 m) => bif okE cx.P e then
        (cellsOf (zeroOf cx.P e)).bind fun z => (seqO close z h).bind fun zc =>
        if 0 ≤ n ∧ n ≤ m ∧ m ≤ LIM then newSlice cx o.dst (szOf cx.P e) (List.replicate n.toNat zc.1) zc.2 K else none
        else none
    | _, _, _ => none) = some r) : OpS cx o st h K r := by
  split at hK
  · rename_i e n m hu hl hc
    replace hK := cond_some hK
    obtain ⟨hok, hK⟩ := hK
    obtain ⟨ie, zv, hie, hse, hpos, hby, hzv, hzs⟩ := okE_info hok
    replace hK := bind_some' hK
    obtain ⟨z, hz, hK⟩ := hK
    replace hK := bind_some' hK
    obtain ⟨⟨zc, h1⟩, hs, hK⟩ := hK
    replace hK := ite_some hK
    obtain ⟨⟨hn0, hnm, hml⟩, hK⟩ := hK
    dsimp only at hK
    obtain ⟨sv, h', hK, hpost⟩ := newSlice_sound hK
    refine ⟨sv, h', hK, fun ρ X a w rr => ?_⟩
    have hvl := ev_sound rr 0 l
    rw [hl] at hvl
    have hvl := hvl.int_inv
    have hvc := ev_sound rr 0 c
    rw [hc] at hvc
    have hvc := hvc.int_inv
    obtain ⟨i2, z2, hi2, hz2, hcz⟩ := zero_cells (ρ := ρ) (h := h) (w := w) (M := Mut ρ X h) hz
    rw [hie] at hi2
    cases hi2
    rw [hzv] at hz2
    cases hz2
    obtain ⟨hl1, t1, c1⟩ := seqClose_sound z X h zc h1 (fun j => zv.cells.getD j undef) rr.hr (fun j s hs => (hcz.2 j s hs).2) hs
    have hzl : zc.length = szOf cx.P e := by rw [hl1, ← hcz.1, hzs, hse]
    have hlim : LIM = 4294967296 := rfl
    have hp := hpost ρ X w t1.hr' ((Array.range (m.toNat * ie.size)).map (fun i => zv.cells[i % zv.cells.size]!)) m.toNat e (by omega) (fun e he => by rw [List.eq_of_mem_replicate he]; exact hzl) (by simp; omega) (by simp; omega) (by simp [hse]) (fun k j x hx => by
      obtain ⟨hk, hx⟩ := at2_replicate hx
      have hj := (List.getElem?_eq_some_iff.1 hx).1
      have hkm : k * szOf cx.P e + j < m.toNat * szOf cx.P e := by
        have : (k + 1) * szOf cx.P e ≤ m.toNat * szOf cx.P e := Nat.mul_le_mul_right _ (by omega)
        rw [Nat.add_mul] at this
        omega
      have hmod : (k * szOf cx.P e + j) % szOf cx.P e = j := by
        rw [Nat.mul_comm, Nat.mul_add_mod]
        exact Nat.mod_eq_of_lt (by omega)
      have hjz : j < zv.cells.size := by rw [hzs, hse, ← hzl]; exact hj
      have hpl := (hcz.2 j (z[j]'(by omega)) (by simp [show j < z.length from by omega])).1
      have hcr := c1 j x hx
      refine ⟨zv.cells[j], ?_, by simpa [hjz] using hpl, by simpa [hjz] using hcr⟩
      have hbang : zv.cells[j]! = zv.cells[j] := by simp [hjz]
      simp [hse, hzs, hkm, hmod, hbang])
    simp only [List.length_replicate] at hp
    refine .value (w' := w.alloc (.cells ((Array.range (m.toNat * ie.size)).map (fun i => zv.cells[i % zv.cells.size]!)) e)) ?_ (hp.pre t1.ext')
    have hbytes : (ie.bytes : Int) * m ≤ 281474976710656 := by
      have h1 : (ie.bytes : Int) * m ≤ 4096 * m := Int.mul_le_mul_of_nonneg_right (by omega) (by omega)
      omega
    have hrun := run_make (P := cx.P) w t e ie zv hu hie hzv .i64 .i64 n m hn0 hnm hbytes (by omega)
    simp only [execOp, ho, Sem.run_bind, hvl, hvc, hrun]
    rfl
  · cases hK
end
end Go.Ab

namespace Go.Ab
open Go

def Env.setCur (ρ : Env) (i : Nat) (c : Value) : Env := ⟨fun j => if j = i then c else ρ.cur j, ρ.blk, ρ.base⟩

@[simp] theorem Env.setCur_cur (ρ : Env) (i : Nat) (c : Value) : (ρ.setCur i c).cur i = c := by simp [Env.setCur]
theorem Env.setCur_ne (ρ : Env) {i j : Nat} (c : Value) (h : j ≠ i) : (ρ.setCur i c).cur j = ρ.cur j := by simp [Env.setCur, h]
@[simp] theorem Env.setCur_blk (ρ : Env) (i : Nat) (c : Value) : (ρ.setCur i c).blk = ρ.blk := rfl

/-- A box that is written. -/
theorem HR.upd {ρ : Env} {X : Nat → Prop} {h : H} {w w' : World} (hr : HR ρ X h w) {i : Nat} (hl : isLive (getH h i) = true) (bx : Box) (c : Value) (hs : w.heap.size ≤ w'.heap.size)
    (hk : ∀ b, b < w.heap.size → bOf ρ i (getH h i) ≠ some b → w'.heap[b]? = w.heap[b]?)
    (hb : ∀ b, bOf (ρ.setCur i c) i bx = some b → bOf ρ i (getH h i) = some b ∨ w.heap.size ≤ b)
    (hx : HExt ρ h (ρ.setCur i c) (setH h i bx))
    (hbx : Ext ρ h w (ρ.setCur i c) (setH h i bx) w' → BR (ρ.setCur i c) (setH h i bx) w' (Mut (ρ.setCur i c) X (setH h i bx)) i bx)
    (hio : SameIO w w' := by exact ⟨rfl, rfl⟩) :
    HR (ρ.setCur i c) X (setH h i bx) w' ∧ Ext ρ h w (ρ.setCur i c) (setH h i bx) w' := by
  have hi : i < h.length := getH_lt (by intro e; rw [e] at hl; cases hl)
  have hne : ∀ j, j ≠ i → bOf (ρ.setCur i c) j (getH (setH h i bx) j) = bOf ρ j (getH h j) := fun j hj => by
    rw [getH_setH_ne _ (Ne.symm hj)]
    exact bOf_congr (ρ.setCur_ne c hj) rfl _
  have hcase : ∀ j b, bOf (ρ.setCur i c) j (getH (setH h i bx) j) = some b → j ≠ i ∧ bOf ρ j (getH h j) = some b ∨ j = i ∧ (bOf ρ i (getH h i) = some b ∨ w.heap.size ≤ b) := fun j b hjb => by
    by_cases hj : j = i
    · subst hj
      rw [getH_setH_same _ hi] at hjb
      exact .inr ⟨rfl, hb b hjb⟩
    · rw [hne j hj] at hjb
      exact .inl ⟨hj, hjb⟩
  have e : Ext ρ h w (ρ.setCur i c) (setH h i bx) w' := ⟨hx, hs, fun b hbl hnl => hk b hbl fun hbb => hnl ⟨i, hl, hbb⟩, fun b hbl hll => by
    obtain ⟨j, h1, h2⟩ := hll
    rcases hcase j b h2 with ⟨hj, h3⟩ | ⟨rfl, h3 | h3⟩
    · rw [getH_setH_ne _ (Ne.symm hj)] at h1
      exact ⟨j, h1, h3⟩
    · exact ⟨j, hl, h3⟩
    · omega, hio⟩
  refine ⟨⟨fun j => ?_, fun j k b h1 h2 => ?_, fun j b h1 hxb => ?_, fun b hxb => Nat.lt_of_lt_of_le (hr.xlt b hxb) hs, e.glob hr.glob⟩, e⟩
  · by_cases hj : j = i
    · subst hj
      rw [getH_setH_same _ hi]
      exact hbx e
    · rw [getH_setH_ne _ (Ne.symm hj)]
      refine (hr.box j).mono e (ρ.setCur_ne c hj) rfl fun b hbb => hk b (hr.lt hbb) fun hbi => hj (hr.inj j i b hbb hbi)
  · rcases hcase j b h1 with ⟨hj, h3⟩ | ⟨rfl, h3 | h3⟩ <;> rcases hcase k b h2 with ⟨hk', h4⟩ | ⟨rfl, h4 | h4⟩
    · exact hr.inj j k b h3 h4
    · exact absurd (hr.inj j k b h3 h4) hj
    · have := hr.lt h3; omega
    · exact absurd (hr.inj k j b h4 h3) hk'
    · rfl
    · rfl
    · have := hr.lt h4; omega
    · rfl
    · rfl
  · rcases hcase j b h1 with ⟨hj, h3⟩ | ⟨rfl, h3 | h3⟩
    · exact hr.out j b h3 hxb
    · exact hr.out j b h3 hxb
    · have := hr.xlt b hxb; omega

theorem HExt.updCells {ρ : Env} {h : H} {i : Nat} {fr fr' : Bool} {cs cs' : List SV} (hg : getH h i = .cells fr cs) (c : Value) : HExt ρ h (ρ.setCur i c) (setH h i (.cells fr' cs')) where
  len := by simp
  accs := fun j hj ver f sz l hh => by
    by_cases hij : j = i
    · subst hij; rw [getH_setH_same _ hj] at hh; cases hh
    · rw [getH_setH_ne _ (Ne.symm hij)] at hh
      exact ⟨ver, f, sz, l, hh, .inr ⟨rfl, rfl, rfl, ρ.setCur_ne c hij⟩⟩
  blks := fun _ _ => rfl
  base := rfl

theorem HExt.updAcc {ρ : Env} {h : H} {i ver ver' sz sz' : Nat} {fr fr' : Bool} {l l' : List (List CV)} (hg : getH h i = .acc ver fr sz l) (c : Value)
    (hv : ver < ver' ∨ ver = ver' ∧ sz = sz' ∧ l.length = l'.length ∧ c = ρ.cur i) : HExt ρ h (ρ.setCur i c) (setH h i (.acc ver' fr' sz' l')) where
  len := by simp
  accs := fun j hj v f s m hh => by
    by_cases hij : j = i
    · subst hij
      rw [getH_setH_same _ hj] at hh
      cases hh
      refine ⟨ver, fr, sz, l, hg, ?_⟩
      rcases hv with hv | ⟨rfl, rfl, hl, hc⟩
      · exact .inl hv
      · exact .inr ⟨rfl, rfl, hl, by simp [hc]⟩
    · rw [getH_setH_ne _ (Ne.symm hij)] at hh
      exact ⟨v, f, s, m, hh, .inr ⟨rfl, rfl, rfl, ρ.setCur_ne c hij⟩⟩
  blks := fun _ _ => rfl
  base := rfl

section
variable {β : Type} {cx : Cx} {o : Oper} {st : St} {h : H} {r : β} {K : SV → H → Option β}

theorem arr_splice {cur : Array Value} {off : Nat} {vs : List Value} (hl : off + vs.length ≤ cur.size) (j : Nat) :
    ((cur.toList.take off ++ vs ++ cur.toList.drop (off + vs.length)).toArray)[j]? = if off ≤ j ∧ j < off + vs.length then vs[j - off]? else cur[j]? := by
  have := splice_get (l := cur.toList) (off := off) (x := vs) (by simpa using hl) j
  simpa [splice] using this

/-- Cells of a box are written. -/
theorem writeCells {ρ : Env} {X : Nat → Prop} {w : World} (hr : HR ρ X h w) {i : Nat} {cs : List SV} (hg : getH h i = .cells false cs) {xs : List SV} {off : Nat} {vs : Array Value} (hxs : CellsR ρ h w (Mut ρ X h) xs vs)
    (hle : off + xs.length ≤ cs.length) : ∃ w', (storeCells ⟨ρ.blk i, off, none⟩ vs.toList).run cx.P w = .ok () w' ∧
      HR (ρ.setCur i (ρ.cur i)) X (setH h i (.cells false (splice cs off xs))) w' ∧ Ext ρ h w (ρ.setCur i (ρ.cur i)) (setH h i (.cells false (splice cs off xs))) w' := by
  have hb := hr.box i
  rw [hg] at hb
  obtain ⟨cur, ty, h1, h2, h3⟩ := hb
  have hvl : vs.toList.length = xs.length := by simpa using hxs.1
  have hp : ∀ v ∈ vs.toList, v.oneCell' = true := fun v hv => by
    obtain ⟨j, hj⟩ := List.mem_iff_getElem?.1 hv
    have hj' : j < xs.length := by rw [← hvl]; exact (List.getElem?_eq_some_iff.1 hj).1
    have := (hxs.2 j xs[j] (by simp [hj'])).1
    simp at hj
    simpa [hj] using this
  have hst := run_storeCells_at cx.P (ρ.blk i) off ty vs.toList 0 cur w h1 (by omega) hp
  simp only [Nat.add_zero] at hst
  obtain ⟨new, hnew⟩ : ∃ new, new = (cur.toList.take off ++ vs.toList ++ cur.toList.drop (off + vs.toList.length)).toArray := ⟨_, rfl⟩
  have hget : ∀ j, new[j]? = if off ≤ j ∧ j < off + xs.length then vs.toList[j - off]? else cur[j]? := fun j => by
    rw [hnew, arr_splice (by omega), hvl]
  have hsz : new.size = cur.size := by rw [hnew]; simp; simp at hvl; omega
  rw [← hnew] at hst
  refine ⟨_, hst, ?_⟩
  refine hr.upd (by rw [hg]; rfl) _ _ (by simp) (fun b hbl hne => setRow_other w _ b _ fun e => hne (by rw [hg, e]; rfl)) (fun b hbb => .inl (by rw [hg]; exact hbb)) (HExt.updCells hg _) fun e => ?_
  refine ⟨new, ty, setRow_heap w _ cur _ ty _ h1, ?_, fun j s hs => ?_⟩
  · rw [splice_length hle, hsz]; exact h2
  · rw [splice_get hle] at hs
    rw [hget]
    split at hs
    · rename_i hin
      rw [if_pos hin]
      obtain ⟨hpl, hv⟩ := hxs.2 (j - off) s hs
      have hj : j - off < vs.size := by rw [hxs.1]; exact (List.getElem?_eq_some_iff.1 hs).1
      exact ⟨vs[j - off], by simp [hj], by simpa [hj] using hpl, by simpa [hj] using e.vr hv⟩
    · rename_i hin
      rw [if_neg hin]
      obtain ⟨u, hu, hpl, hv⟩ := h3 j s hs
      exact ⟨u, hu, hpl, e.vr hv⟩

theorem Fzd.acc {h h' : H} (f : Fzd h h') {i ver sz : Nat} {fr : Bool} {l : List (List CV)} (hg : getH h' i = .acc ver fr sz l) : ∃ fr', getH h i = .acc ver fr' sz l := by
  rcases f i with hf | hf
  · exact ⟨fr, by rw [← hf]; exact hg⟩
  · rw [hf] at hg; exact fz1_acc hg

theorem at2_set {l : List (List CV)} {ix : Nat} {e : List CV} {k j : Nat} {x : CV} (h : at2 (l.set ix e) k j = some x) : (k = ix ∧ e[j]? = some x) ∨ (k ≠ ix ∧ at2 l k j = some x) := by
  unfold at2 at *
  rw [List.getElem?_set] at h
  by_cases hk : ix = k
  · rw [if_pos hk] at h
    split at h
    · exact .inl ⟨hk.symm, by simpa using h⟩
    · simp at h
  · rw [if_neg hk] at h
    exact .inr ⟨fun e => hk e.symm, h⟩

/-- Cells of an element of an owned slice are written. -/
theorem writeElem {ρ : Env} {X : Nat → Prop} {w : World} (hr : HR ρ X h w) {i ver sz ix off b len cap : Nat} {l : List (List CV)} (hg : getH h i = .acc ver false sz l) (hcur : ρ.cur i = .slice (some ⟨b, 0, none⟩) len cap)
    {e : List CV} (he : l[ix]? = some e) {xs : List CV} {vs : Array Value} (hs : vs.size = xs.length) (hxs : ∀ (j : Nat) (x : CV), xs[j]? = some x → plain (vs.getD j undef) ∧ CR w (Mut ρ X h) x (vs.getD j undef))
    (hle : off + xs.length ≤ e.length) : ∃ w', (storeCells ⟨b, ix * sz + off, none⟩ vs.toList).run cx.P w = .ok () w' ∧
      HR (ρ.setCur i (ρ.cur i)) X (setH h i (.acc ver false sz (l.set ix (splice e off xs)))) w' ∧ Ext ρ h w (ρ.setCur i (ρ.cur i)) (setH h i (.acc ver false sz (l.set ix (splice e off xs)))) w' := by
  have hb := hr.box i
  rw [hg] at hb
  obtain ⟨h0, h1, h2, h3⟩ := hb
  rcases h3 with ⟨h3, _⟩ | ⟨b', cap', cur, ty, h3, h4, h5, h6, h7⟩
  · rw [hcur] at h3; cases h3
  · have hcur' := hcur
    rw [h3] at hcur
    injection hcur with ha hlen hcap
    injection ha with ha
    injection ha with ha
    subst ha hcap
    have hix : ix < l.length := (List.getElem?_eq_some_iff.1 he).1
    have hel : e.length = sz := h1 e (List.mem_of_getElem? he)
    have hvl : vs.toList.length = xs.length := by simpa using hs
    have hfit : ix * sz + off + xs.length ≤ cur.size := by
      have : (ix + 1) * sz ≤ cap' * sz := Nat.mul_le_mul_right _ (by omega)
      rw [Nat.add_mul] at this
      omega
    have hp : ∀ v ∈ vs.toList, v.oneCell' = true := fun v hv => by
      obtain ⟨j, hj⟩ := List.mem_iff_getElem?.1 hv
      have hj' : j < xs.length := by rw [← hvl]; exact (List.getElem?_eq_some_iff.1 hj).1
      have := (hxs j xs[j] (by simp [hj'])).1
      simp at hj
      simpa [hj] using this
    have hst := run_storeCells_at cx.P b' (ix * sz + off) ty vs.toList 0 cur w h4 (by omega) hp
    simp only [Nat.add_zero] at hst
    obtain ⟨new, hnew⟩ : ∃ new, new = (cur.toList.take (ix * sz + off) ++ vs.toList ++ cur.toList.drop (ix * sz + off + vs.toList.length)).toArray := ⟨_, rfl⟩
    have hget : ∀ j, new[j]? = if ix * sz + off ≤ j ∧ j < ix * sz + off + xs.length then vs.toList[j - (ix * sz + off)]? else cur[j]? := fun j => by
      rw [hnew, arr_splice (by omega), hvl]
    have hsz : new.size = cur.size := by rw [hnew]; simp; simp at hvl; omega
    rw [← hnew] at hst
    refine ⟨_, hst, ?_⟩
    have hbo : bOf ρ i (getH h i) = some b' := by rw [hg]; simp [bOf, h3]
    refine hr.upd (by rw [hg]; rfl) _ _ (by simp) (fun b hbl hne => setRow_other w _ b _ fun e => hne (by rw [hbo, e])) (fun b hbb => .inl (by rw [hbo]; simp [bOf, h3] at hbb; rw [hbb]))
      (HExt.updAcc hg _ (.inr ⟨rfl, rfl, by simp, rfl⟩)) fun ee => ?_
    refine ⟨h0, fun e' he' => ?_, by simpa using h2, .inr ⟨b', cap', new, ty, by simpa using h3, setRow_heap w _ cur _ ty _ h4, by simpa using h5, by rw [hsz]; exact h6, fun k j x hx => ?_⟩⟩
    · rcases List.mem_or_eq_of_mem_set he' with hm | rfl
      · exact h1 e' hm
      · rw [splice_length hle, hel]
    · replace hx := at2_set hx
      rcases hx with ⟨rfl, hx⟩ | ⟨hk, hx⟩
      · rw [splice_get hle] at hx
        have hj : j < sz := by
          rw [← hel]
          split at hx
          · omega
          · exact (List.getElem?_eq_some_iff.1 hx).1
        rw [hget]
        split at hx
        · rename_i hin
          have hc : k * sz + off ≤ k * sz + j ∧ k * sz + j < k * sz + off + xs.length := by omega
          rw [if_pos hc]
          have e3 : k * sz + j - (k * sz + off) = j - off := by omega
          rw [e3]
          obtain ⟨hpl, hv⟩ := hxs (j - off) x hx
          have hj2 : j - off < vs.size := by rw [hs]; exact (List.getElem?_eq_some_iff.1 hx).1
          exact ⟨vs[j - off], by simp [hj2], by simpa [hj2] using hpl, by simpa [hj2] using ee.cr hv⟩
        · rename_i hin
          have hc : ¬ (k * sz + off ≤ k * sz + j ∧ k * sz + j < k * sz + off + xs.length) := by omega
          rw [if_neg hc]
          obtain ⟨u, hu, hpl, hv⟩ := h7 k j x (by simp [at2, he, hx])
          exact ⟨u, hu, hpl, ee.cr hv⟩
      · obtain ⟨u, hu, hpl, hv⟩ := h7 k j x hx
        have hj : j < sz := by
          unfold at2 at hx
          obtain ⟨e2, he2, hx⟩ := bind_some' hx
          rw [← h1 e2 (List.mem_of_getElem? he2)]
          exact (List.getElem?_eq_some_iff.1 hx).1
        rw [hget, if_neg]
        · exact ⟨u, hu, hpl, ee.cr hv⟩
        · rintro ⟨g1, g2⟩
          have : k < ix ∨ ix < k := by omega
          rcases this with hlt | hlt
          · have : (k + 1) * sz ≤ ix * sz := Nat.mul_le_mul_right _ (by omega)
            rw [Nat.add_mul] at this
            omega
          · have : (ix + 1) * sz ≤ k * sz := Nat.mul_le_mul_right _ (by omega)
            rw [Nat.add_mul] at this
            omega

theorem selCV_sel {b : Bool} {x y z : CV} (h : selCV b x y = some z) : z = if b then x else y := by
  unfold selCV at h
  split at h
  · replace h := ite_some h
    obtain ⟨hk, h⟩ := h
    subst hk
    obtain rfl := Option.some.inj h
    cases b <;> rfl
  · obtain rfl := Option.some.inj h
    cases b <;> rfl
  · replace h := ite_some h
    obtain ⟨hk, h⟩ := h
    subst hk
    obtain rfl := Option.some.inj h
    cases b <;> rfl
  · cases h

theorem selL_get {n : Nat} {x : CV} : ∀ {k : Nat} {ys l : List CV}, selL n x k ys = some l → l.length = ys.length ∧ ∀ (j : Nat) (z : CV), l[j]? = some z → (j + k = n ∧ z = x) ∨ (j + k ≠ n ∧ ys[j]? = some z)
  | k, [], l, h => by
    simp only [selL, Option.some.injEq] at h
    subst h
    exact ⟨rfl, fun j z hz => by simp at hz⟩
  | k, y :: ys, l, h => by
    simp only [selL] at h
    obtain ⟨v, hv, h⟩ := bind_some' h
    obtain ⟨s, hs, h⟩ := bind_some' h
    obtain rfl := Option.some.inj h
    obtain ⟨h1, h2⟩ := selL_get hs
    refine ⟨by simp [h1], fun j z hz => ?_⟩
    cases j with
    | zero =>
      simp at hz
      subst hz
      have := selCV_sel hv
      cases hb : Nat.beq n k with
      | true =>
        rw [hb] at this
        exact .inl ⟨by have := beq_true hb; omega, by simpa using this⟩
      | false =>
        rw [hb] at this
        refine .inr ⟨fun e => ?_, by simpa using this.symm⟩
        have : n = k := by omega
        subst this
        simp at hb
    | succ j =>
      simp at hz
      rcases h2 j z hz with ⟨h3, h4⟩ | ⟨h3, h4⟩
      · exact .inl ⟨by omega, h4⟩
      · exact .inr ⟨by omega, by simpa using h4⟩

theorem store_sound {t : TypeId} {ad x : Operand} (ho : o.op = .store t ad x) (hK : storeK cx t (ev cx.P st 0 ad) (ev cx.P st t x) h K = some r) : OpS cx o st h K r := by
  unfold storeK at hK
  replace hK := bind_some' hK
  obtain ⟨⟨g, s⟩, ht, hK⟩ := hK
  replace hK := bind_some' hK
  obtain ⟨xs, hxs, hK⟩ := hK
  replace hK := cond_some hK
  obtain ⟨hlen, hK⟩ := hK
  have hlen := beq_true hlen
  dsimp only at hlen
  obtain ⟨d, inf, hu, hinf, _, rfl⟩ := info_of_tyO ht
  generalize hev : ev cx.P st 0 ad = sa at hK
  have hrun : ∀ (a : Act) (w w' : World) (p : Addr), a.eval ad = .pointer (some p) → (a.eval x).cells.size = inf.size → (storeCells p (a.eval x).cells.toList).run cx.P w = .ok () w' → (execOp a.eval o).run cx.P w = .ok .skip w' := fun a w w' p hp hs hst => by
    simp [execOp, ho, Instr.storeAt, Instr.sureAddr, hp, storeVar, sizeOf, typeInfo, hinf, hs, hst]
  split at hK
  · rename_i i off
    split at hK
    · rename_i cs hg
      replace hK := cond_some hK
      obtain ⟨hle, hK⟩ := hK
      have hle := Nat.le_of_ble_eq_true hle
      refine ⟨_, _, hK, fun ρ X a w rr => ?_⟩
      have hc := cellsOf_sound hxs (ev_sound rr t x)
      have hv := ev_sound rr 0 ad
      rw [hev] at hv
      cases hv with
      | ptr _ _ v hpl hi hq =>
        obtain ⟨w', hst, h1, h2⟩ := writeCells (cx := cx) rr.hr hg hc hle
        exact .skip (hrun a w w' _ hq (by rw [hc.1, hlen]) hst) ⟨_, h1, .any _, h2⟩
    · cases hK
  · rename_i i ver ix off
    replace hK := bind_some' hK
    obtain ⟨⟨ys, h1⟩, hs, hK⟩ := hK
    dsimp only at hK
    split at hK
    · rename_i ver' sz l hg
      replace hK := cond_some hK
      obtain ⟨hb, hK⟩ := hK
      have hb := beq_true hb
      subst hb
      replace hK := bind_some' hK
      obtain ⟨e, he, hK⟩ := hK
      replace hK := ite_some hK
      obtain ⟨hle, hK⟩ := hK
      refine ⟨_, _, hK, fun ρ X a w rr => ?_⟩
      have hc := cellsOf_sound hxs (ev_sound rr t x)
      have hv := ev_sound rr 0 ad
      rw [hev] at hv
      obtain ⟨hl1, t1, c1⟩ := seqClose_sound xs X h ys h1 (fun j => (a.eval x).cells.getD j undef) rr.hr (fun j s hs => (hc.2 j s hs).2) hs
      obtain ⟨fr0, hg0⟩ := (seqClose_fzd hs).acc hg
      cases hv with
      | ept _ _ _ _ v hpl hi hq =>
        obtain ⟨hlt, b, len, cap, hcur, hval⟩ := (hq ver fr0 sz l hg0).2 rfl
        obtain ⟨w', hst, g1, g2⟩ := writeElem (cx := cx) t1.hr' hg hcur he (xs := ys) (vs := (a.eval x).cells) (by rw [hc.1, hl1]) (fun j y hy => by
          have hj : j < xs.length := by rw [← hl1]; exact (List.getElem?_eq_some_iff.1 hy).1
          exact ⟨(hc.2 j xs[j] (by simp [hj])).1, c1 j y hy⟩) (by rw [hl1]; exact hle)
        exact .skip (hrun a w w' _ hval (by rw [hc.1, hlen]) hst) ⟨_, g1, .any _, t1.ext'.trans g2⟩
    · cases hK
  · rename_i i off n sz len
    split at hK
    · rename_i cs hg
      cases xs with
      | nil => cases hK
      | cons y tl =>
      cases tl with
      | cons _ _ => cases hK
      | nil =>
      replace hK := cond_some hK
      obtain ⟨hb, hK⟩ := hK
      simp only [Bool.and_eq_true] at hb
      obtain ⟨hb1, hb2⟩ := hb
      have hb1 := beq_true hb1
      subst hb1
      have hb2 := Nat.le_of_ble_eq_true hb2
      replace hK := bind_some' hK
      obtain ⟨⟨xv, h1⟩, hx, hK⟩ := hK
      replace hK := bind_some' hK
      obtain ⟨⟨ys, h2⟩, hs, hK⟩ := hK
      replace hK := bind_some' hK
      obtain ⟨l, hl, hK⟩ := hK
      dsimp only at hK hl hs
      split at hK
      · rename_i cs2 hg2
        refine ⟨_, _, hK, fun ρ X a w rr => ?_⟩
        have hc := cellsOf_sound hxs (ev_sound rr t x)
        have hv := ev_sound rr 0 ad
        rw [hev] at hv
        obtain ⟨fr1, hg1⟩ := (close_fzd hx).cells hg
        obtain ⟨fr2, hg2'⟩ := (seqClose_fzd hs).cells hg1
        rw [hg2] at hg2'
        cases hg2'
        obtain ⟨hplv, hvv⟩ := hc.2 0 y (by simp)
        generalize hval : (a.eval x).cells.getD 0 undef = val at hplv hvv
        have hone : (a.eval x).cells.toList = [val] := by
          apply List.ext_getElem?
          intro j
          cases j with
          | zero =>
            have h1 : 0 < (a.eval x).cells.size := by rw [hc.1]; simp
            simp [h1] at hval
            simp [h1, hval]
          | succ j =>
            have h1 : (a.eval x).cells.size ≤ j + 1 := by rw [hc.1]; simp
            simp [h1]
        obtain ⟨t1, c1⟩ := close_takeOK rr.hr hvv hx
        have hcb := cellsBox rr.hr hg
        obtain ⟨hl1, t2, c2⟩ := seqClose_sound (subl cs off len) X h1 ys h2 (fun j => (w.cell? ⟨ρ.blk i, off + j, none⟩).getD undef) t1.hr' (fun j s hs => by
          unfold subl at hs
          simp only [List.getElem?_take, List.getElem?_drop] at hs
          split at hs
          · obtain ⟨u, hu, _, hvr⟩ := hcb _ s hs
            rw [hu]; exact t1.ext'.vr hvr
          · simp at hs) hs
        obtain ⟨hll, hlg⟩ := selL_get hl
        have hysl : ys.length = len := by rw [hl1]; simp [subl]; omega
        have c1' := t2.ext'.cr c1
        cases hv with
        | apt _ _ _ _ _ v hpl hi hn hq =>
          have hbx := t2.hr'.box i
          rw [hg2] at hbx
          obtain ⟨cur, ty, g1, g2, g3⟩ := hbx
          have hst := run_storeCells_at cx.P (ρ.blk i) (off + n * 1) ty [val] 0 cur w g1 (by simp; omega) (by simpa using hplv)
          simp only [Nat.add_zero, Nat.mul_one] at hst
          obtain ⟨new, hnew⟩ : ∃ new, new = (cur.toList.take (off + n) ++ [val] ++ cur.toList.drop (off + n + [val].length)).toArray := ⟨_, rfl⟩
          have hget : ∀ j, new[j]? = if off + n ≤ j ∧ j < off + n + 1 then [val][j - (off + n)]? else cur[j]? := fun j => by
            rw [hnew, arr_splice (by simp; omega)]
            rfl
          have hsz : new.size = cur.size := by rw [hnew]; simp; omega
          rw [← hnew] at hst
          have hlc : (l.map SV.c).length = len := by simp [hll, hysl]
          have hle : off + (l.map SV.c).length ≤ cs.length := by rw [hlc]; exact hb2
          obtain ⟨q1, q2⟩ := t2.hr'.upd (i := i) (w' := w.setRow (ρ.blk i) new) (by rw [hg2]; rfl) (.cells false (splice cs off (l.map SV.c))) (ρ.cur i) (by simp) (fun b hbl hne => setRow_other w _ b _ fun e => hne (by rw [hg2, e]; rfl)) (fun b hbb => .inl (by rw [hg2]; exact hbb)) (HExt.updCells hg2 _) (fun e => by
            refine ⟨new, ty, setRow_heap w _ cur _ ty _ g1, by rw [splice_length hle, hsz]; exact g2, fun j s hs => ?_⟩
            rw [splice_get hle] at hs
            rw [hget]
            split at hs
            · rename_i hin
              rw [hlc] at hin
              simp only [List.getElem?_map, Option.map_eq_some_iff] at hs
              obtain ⟨z, hz, rfl⟩ := hs
              rcases hlg (j - off) z hz with ⟨h3, h4⟩ | ⟨h3, h4⟩
              · subst h4
                rw [if_pos (by omega), show j - (off + n) = 0 from by omega]
                exact ⟨val, by simp, hplv, .c _ _ (e.cr c1')⟩
              · rw [if_neg (by omega)]
                obtain ⟨u, hu, hpu, _⟩ := g3 j (cs[j]'(by omega)) (by simp [show j < cs.length from by omega])
                have := c2 (j - off) z h4
                have hcell : w.cell? ⟨ρ.blk i, off + (j - off), none⟩ = some u := by
                  rw [cell_of_heap g1, show off + (j - off) = j from by omega]; exact hu
                rw [hcell] at this
                exact ⟨u, hu, hpu, .c _ _ (e.cr this)⟩
            · rename_i hin
              rw [hlc] at hin
              rw [if_neg (by omega)]
              obtain ⟨u, hu, hpu, hv⟩ := g3 j s hs
              exact ⟨u, hu, hpu, e.vr hv⟩)
          refine .skip (hrun a w _ _ hq (by rw [hc.1, hlen]) ?_) ⟨_, q1, .any _, (t1.ext'.trans t2.ext').trans q2⟩
          rw [hone, Nat.mul_one]
          exact hst
      · cases hK
    · cases hK
  · cases hK
end
end Go.Ab

namespace Go.Ab
open Go

theorem isSet_some {P : Program} {t : TypeId} (h : isSet P t = true) : ∃ k e, P.underlying t = some (.map k e) ∧ P.underlying k = some (.int .i64) ∧ ∃ i, P.info? e = some i ∧ i.zero = some (.bool false) := by
  unfold isSet at h
  split at h
  · rename_i k e hu
    split at h
    · rename_i hk he
      obtain ⟨i, hi, hz⟩ := bind_some' he
      exact ⟨k, e, hu, hk, i, hi, hz⟩
    · cases h
  · cases h

theorem findNow_set (n : Int) : ∀ (l : List MapEntry) (ks : List Int) (i : Nat), l.map (fun e => (e.key, e.val)) = ks.map (fun n => (Value.int .i64 n, Value.bool true)) →
    (ks.contains n = false ∧ Instr.findNow (.int .i64) (.int .i64 n) l i = some none) ∨ (ks.contains n = true ∧ ∃ j e, l[j]? = some e ∧ e.key = .int .i64 n ∧ e.val = .bool true ∧ Instr.findNow (.int .i64) (.int .i64 n) l i = some (some (i + j, .bool true)))
  | [], [], i, _ => .inl ⟨rfl, rfl⟩
  | [], _ :: _, _, h => by simp at h
  | _ :: _, [], _, h => by simp at h
  | e :: l, k :: ks, i, h => by
    simp only [List.map_cons, List.cons.injEq, Prod.mk.injEq] at h
    obtain ⟨⟨h1, h2⟩, h3⟩ := h
    by_cases hk : n = k
    · subst hk
      refine .inr ⟨by simp, 0, e, rfl, h1, h2, ?_⟩
      simp [Instr.findNow, h1, h2, Instr.sameNow]
    · have hne : (n == k) = false := beq_eq_false_iff_ne.2 hk
      have hf : Instr.findNow (.int .i64) (.int .i64 n) (e :: l) i = Instr.findNow (.int .i64) (.int .i64 n) l (i + 1) := by
        simp [Instr.findNow, h1, Instr.sameNow, hne]
      have hc : (k :: ks).contains n = ks.contains n := by
        simp only [List.contains_cons, hne, Bool.false_or]
      rw [hf, hc]
      rcases findNow_set n l ks (i + 1) h3 with ⟨q1, q2⟩ | ⟨q1, j, e', q2, q3, q4, q5⟩
      · exact .inl ⟨q1, q2⟩
      · exact .inr ⟨q1, j + 1, e', by simpa using q2, q3, q4, by rw [q5, show i + 1 + j = i + (j + 1) by omega]⟩

section
variable {β : Type} {cx : Cx} {o : Oper} {st : St} {h : H} {r : β} {K : SV → H → Option β}

theorem makeSet_sound {t : TypeId} (ho : o.op = .makeMap t none) (hK : (bif isSet cx.P t then K (.mp h.length) (h ++ [.mp false []]) else none) = some r) : OpS cx o st h K r := by
  replace hK := cond_some hK
  obtain ⟨_, hK⟩ := hK
  refine ⟨_, _, hK, fun ρ X a w rr => ?_⟩
  obtain ⟨h1, h2⟩ := HR.new rr.hr (w' := w.alloc (.map #[] 0)) (by simp) (fun b hb => heap_alloc_old w _ b hb) (.mp false []) .nilIface w.heap.size
    (fun b hb => by simp [bOf] at hb; omega) (fun _ => ⟨#[], 0, by simpa using heap_alloc_new w _, rfl⟩)
  refine .value (w' := w.alloc (.map #[] 0)) (v := .map (some w.heap.size)) ?_ ⟨_, h1, .mp _ _ (by simp) (by simp), h2⟩
  simp [execOp, ho, Instr.makeMap, newObj]
  rfl

theorem mapUpdate_sound {t : TypeId} {m k x : Operand} (ho : o.op = .mapUpdate t m k x)
    (hK : (bif isSet cx.P t then (match ev cx.P st 0 m, ev cx.P st 0 k, ev cx.P st 0 x with
    | .mp i, .c (.int .i64 n), .c (.bool true) => (match getH h i with
      | .mp false ks => K UND (setH h i (.mp false (insK ks n)))
      | _ => none)
    | _, _, _ => none) else none) = some r) : OpS cx o st h K r := by
  replace hK := cond_some hK
  obtain ⟨hs, hK⟩ := hK
  obtain ⟨kt, et, hu, hk, _⟩ := isSet_some hs
  split at hK
  · rename_i i n hm1 hk1 hx1
    split at hK
    · rename_i ks hg
      refine ⟨_, _, hK, fun ρ X a w rr => ?_⟩
      have vm := ev_sound rr 0 m
      have vk := ev_sound rr 0 k
      have vx := ev_sound rr 0 x
      rw [hm1] at vm
      rw [hk1] at vk
      rw [hx1] at vx
      generalize hvm : a.eval m = um at vm
      generalize hvk : a.eval k = uk at vk
      generalize hvx : a.eval x = ux at vx
      cases vm with
      | mp _ _ hi hv =>
        subst hv
        cases vk with
        | c _ _ ck =>
          cases ck
          cases vx with
          | c _ _ cx' =>
            cases cx'
            have hbx := rr.hr.box i
            rw [hg] at hbx
            obtain ⟨es, clk, h4, h5⟩ := hbx
            have hkey : MapKept.IsKey (.int .i64) (.int .i64 n) := by simp [MapKept.IsKey]
            have fin : ∀ (es' : Array MapEntry) (clk' : Nat), MapR es' (insK ks n) → (execOp a.eval o).run cx.P w = .ok .skip { w with heap := w.heap.setIfInBounds (ρ.blk i) (.map es' clk') } → OpOK cx.P o a w (Post ρ X h w UND (setH h i (.mp false (insK ks n)))) := fun es' clk' hr' hrun => by
              obtain ⟨hs1, hs2⟩ := MapKept.heap_set (o' := .map es' clk') h4
              obtain ⟨q1, q2⟩ := HR.upd rr.hr (w' := { w with heap := w.heap.setIfInBounds (ρ.blk i) (.map es' clk') }) (i := i) (by rw [hg]; rfl) (.mp false (insK ks n)) (ρ.cur i) (by simp)
                (fun b _ hne => hs2 b fun e => hne (by rw [hg, e]; rfl)) (fun b hbb => .inl (by rw [hg]; exact hbb)) ⟨by simp, fun j hj ver fr sz l hh => by
                  by_cases hij : i = j
                  · subst hij; rw [getH_setH_same _ hj] at hh; cases hh
                  · rw [getH_setH_ne _ hij] at hh
                    exact ⟨ver, fr, sz, l, hh, .inr ⟨rfl, rfl, rfl, ρ.setCur_ne _ (Ne.symm hij)⟩⟩, fun _ _ => rfl, rfl⟩ (fun _ => ⟨es', clk', hs1, hr'⟩)
              exact .skip hrun ⟨_, q1, .c _ _ (.tup [] #[] rfl fun j x hx => by simp at hx), q2⟩
            rcases findNow_set n es.toList ks 0 h5 with ⟨c1, c2⟩ | ⟨c1, j, e0, c2, c3, c4, c5⟩
            · refine fin (es.push { key := .int .i64 n, val := .bool true, born := clk }) (clk + 1) ?_ ?_
              · unfold MapR insK
                rw [c1, cond_false, Array.toList_push, List.map_append, List.map_append, h5]
                rfl
              · simp [execOp, ho, hvm, hvk, hvx, Instr.mapUpdate, run_underlying hu, MapKept.run_getObj_map h4, MapKept.run_checkKey hk hkey, MapKept.run_findKey hk c2, MapKept.run_setObj_map _ h4, Result.andThen]
            · have c2' : es[j]? = some e0 := by simpa using c2
              have hj : j < es.size := (Array.getElem?_eq_some_iff.1 c2').1
              refine fin (es.modify j fun e => { e with key := .int .i64 n, val := .bool true }) clk ?_ ?_
              · unfold MapR insK
                rw [c1, cond_true, ← h5]
                refine List.ext_getElem? fun q => ?_
                simp only [List.getElem?_map, Array.getElem?_toList, Array.getElem?_modify]
                by_cases hq : j = q
                · subst hq
                  simp [c2', c3, c4]
                · simp [hq]
              · simp only [Nat.zero_add] at c5
                simp [execOp, ho, hvm, hvk, hvx, Instr.mapUpdate, run_underlying hu, MapKept.run_getObj_map h4, MapKept.run_checkKey hk hkey, MapKept.run_findKey hk c5, c2', c3, MapKept.run_keyThatStays hkey, MapKept.run_setObj_map _ h4, Result.andThen]
    · cases hK
  · cases hK

theorem lookup_sound {t : TypeId} {m k : Operand} (ho : o.op = .lookup t m k false)
    (hK : (bif isSet cx.P t then (match ev cx.P st 0 m, ev cx.P st 0 k with
    | .c (.mp ks), .c (.int .i64 n) => K (.c (.bool (ks.contains n))) h
    | _, _ => none) else none) = some r) : OpS cx o st h K r := by
  replace hK := cond_some hK
  obtain ⟨hs, hK⟩ := hK
  obtain ⟨kt, et, hu, hk, ti, hti, htz⟩ := isSet_some hs
  split at hK
  · rename_i ks n hm1 hk1
    refine ⟨_, _, hK, fun ρ X a w rr => ?_⟩
    have vm := ev_sound rr 0 m
    have vk := ev_sound rr 0 k
    rw [hm1] at vm
    rw [hk1] at vk
    generalize hvm : a.eval m = um at vm
    generalize hvk : a.eval k = uk at vk
    cases vm with
    | c _ _ cm =>
      cases cm with
      | mp _ b es clk hM hb h4 h5 =>
        cases vk with
        | c _ _ ck =>
          cases ck
          have hkey : MapKept.IsKey (.int .i64) (.int .i64 n) := by simp [MapKept.IsKey]
          refine .value (w' := w) (v := .bool (ks.contains n)) ?_ (Post.same rr.hr (.c _ _ (.bool _)))
          rcases findNow_set n es.toList ks 0 h5 with ⟨c1, c2⟩ | ⟨c1, j, e0, c2, c3, c4, c5⟩
          · rw [c1]
            simp [execOp, ho, hvm, hvk, Instr.lookup, run_underlying hu, MapKept.run_getObj_map h4, MapKept.run_checkKey hk hkey, MapKept.run_findKey hk c2, Result.andThen, zeroValue, typeInfo, hti, htz]
          · rw [c1]
            simp [execOp, ho, hvm, hvk, Instr.lookup, run_underlying hu, MapKept.run_getObj_map h4, MapKept.run_checkKey hk hkey, MapKept.run_findKey hk c5, Result.andThen]
  · cases hK
end
end Go.Ab

namespace Go.Ab
open Go

/-- Elements that a slice has. -/
def ElsR (ρ : Env) (X : Nat → Prop) (h : H) (w : World) (sz : Nat) (l : List (List CV)) (v : Value) : Prop :=
  ∃ ad cap, v = .slice ad l.length cap ∧ (∀ e ∈ l, e.length = sz) ∧
    (l = [] ∨ ∃ b o, ad = some ⟨b, o, none⟩ ∧ ∀ k j x, at2 l k j = some x → ∃ u, w.cell? ⟨b, o + (k * sz + j), none⟩ = some u ∧ plain u ∧ CR w (Mut ρ X h) x u)

theorem els_sound {ρ : Env} {X : Nat → Prop} {h : H} {w : World} (hr : HR ρ X h w) {sz : Nat} {s : SV} {l : List (List CV)} {v : Value} (he : els h sz s = some l) (hv : VR ρ h w (Mut ρ X h) s v) : ElsR ρ X h w sz l v := by
  unfold els at he
  split at he
  · rename_i sz' l'
    cases hv with
    | c x v hx =>
      obtain ⟨ad, cap, rfl, hl⟩ := hx.sl_inv
      cases hb : Nat.beq sz sz' with
      | true =>
        have := beq_true hb
        subst this
        simp only [hb, cond_true, Option.some.injEq] at he
        subst he
        rcases hl with rfl | ⟨b, o, rfl, _, hls, _, _, _, hcell⟩
        · exact ⟨ad, cap, rfl, by simp, .inl rfl⟩
        · exact ⟨_, cap, rfl, hls, .inr ⟨b, o, rfl, hcell⟩⟩
      | false =>
        simp only [hb, cond_false] at he
        cases l' with
        | nil => simp at he; subst he; exact ⟨ad, cap, rfl, by simp, .inl rfl⟩
        | cons => simp at he
  · obtain rfl := Option.some.inj he
    cases hv
    exact ⟨none, 0, rfl, by simp, .inl rfl⟩
  · rename_i i ver
    split at he
    · rename_i ver' fr sz' l' hg
      obtain ⟨hb, he⟩ := cond_some he
      obtain rfl := Option.some.inj he
      simp only [Bool.and_eq_true] at hb
      have h1 := beq_true hb.1
      have h2 := beq_true hb.2
      subst h1 h2
      cases hv with
      | acc _ _ v hpl hi hq =>
        have hval := (hq ver fr sz l' hg).2 rfl
        subst hval
        have hbx := hr.box i
        rw [hg] at hbx
        obtain ⟨_, g1, _, g3⟩ := hbx
        rcases g3 with ⟨g3, rfl⟩ | ⟨b, cap, cur, ty, g3, g4, _, _, g7⟩
        · exact ⟨none, 0, g3, by simp, .inl rfl⟩
        · refine ⟨_, cap, g3, g1, .inr ⟨b, 0, rfl, fun k j x hx => ?_⟩⟩
          obtain ⟨u, hu, hp, hcr⟩ := g7 k j x hx
          exact ⟨u, by rw [cell_of_heap g4, Nat.zero_add]; exact hu, hp, hcr⟩
    · cases he
  · rename_i i ver lo k
    split at he
    · rename_i ver' fr sz' l' hg
      obtain ⟨hb, he⟩ := cond_some he
      obtain rfl := Option.some.inj he
      simp only [Bool.and_eq_true] at hb
      have h1 := beq_true hb.1
      have h2 := beq_true hb.2
      subst h1 h2
      cases hv with
      | sub _ _ _ _ v hpl hi hq =>
        obtain ⟨hlo, a, cap, cap2, kk, hcur, hnc, hcc, _, hk1, hval⟩ := (hq ver fr sz l' hg).2 rfl
        subst hval
        have hbx := hr.box i
        rw [hg] at hbx
        obtain ⟨_, g1, _, g3⟩ := hbx
        have hlen : (subl l' lo k).length = k := by simp [subl]; omega
        have hmem : ∀ e ∈ subl l' lo k, e.length = sz := fun e he => g1 e (List.mem_of_mem_drop (List.mem_of_mem_take he))
        by_cases hk : k = 0
        · subst hk
          have he : subl l' lo 0 = [] := by simp [subl]
          rw [he]
          exact ⟨_, _, rfl, by simp, .inl rfl⟩
        · rcases g3 with ⟨g3, rfl⟩ | ⟨b, cap', cur, ty, g3, g4, g5, _, g7⟩
          · simp at hlo; omega
          · rw [g3] at hcur
            injection hcur with ha _ hc
            subst ha hc
            have hkk := hk1 (by omega)
            subst hkk
            refine ⟨some ⟨b, lo * sz, none⟩, cap2, by rw [hlen]; simp [add_lit], hmem, .inr ⟨b, lo * sz, rfl, fun a j x hx => ?_⟩⟩
            obtain ⟨hx, _⟩ := at2_subl hx
            obtain ⟨u, hu, hp, hcr⟩ := g7 _ j x hx
            exact ⟨u, by rw [cell_of_heap g4, show lo * sz + (a * sz + j) = (lo + a) * sz + j from by rw [Nat.add_mul]; omega]; exact hu, hp, hcr⟩
    · cases he
  · cases he

section
variable {P : Program} (w : World)

theorem run_append_room' (t ty e te : TypeId) (i : TypeInfo) (ht : P.underlying t = some (.slice e)) (hi : P.info? e = some i)
    (g sLen sCap : Nat) (cur : Array Value) (hg : w.heap[g]? = some (.cells cur te (0, 0)))
    (a : Addr) (m c : Nat) (news : List Value) (hl : news.length = m * i.size) (hnews : ∀ (j : Nat) (u : Value), news[j]? = some u → w.cell? (a.add j) = some u) (h1 : ∀ u ∈ news, u.oneCell' = true)
    (hroom : sLen + m ≤ sCap) (hfit : sLen * i.size + news.length ≤ cur.size) :
    (Builtin.append_ #[t, t] ty #[.slice (some ⟨g, 0, none⟩) sLen sCap, .slice (some a) m c]).run P w =
      .ok (.slice (some ⟨g, 0, none⟩) (sLen + m) sCap) (w.setRow g (cur.toList.take (sLen * i.size) ++ news ++ cur.toList.drop (sLen * i.size + news.length)).toArray) := by
  have hf := run_firstCells_some (P := P) w i.size m a m c news hl hnews
  have hst := run_storeCells_at P g (sLen * i.size) te news 0 cur w hg (by simpa using hfit) h1
  simp only [Nat.add_zero] at hst
  simp [Builtin.append_, run_underlying ht, sizeOf, typeInfo, hi, Builtin.lenOf, hroom, hf, Addr.add_lit, hst]

theorem run_append_zero (t ty e : TypeId) (i : TypeInfo) (ht : P.underlying t = some (.slice e)) (hi : P.info? e = some i) (base ad : Option Addr) (sLen sCap c : Nat) (hle : sLen ≤ sCap) :
    (Builtin.append_ #[t, t] ty #[.slice base sLen sCap, .slice ad 0 c]).run P w = .ok (.slice base sLen sCap) w := by
  cases ad with
  | none => cases base <;> simp [Builtin.append_, run_underlying ht, sizeOf, typeInfo, hi, Builtin.lenOf, hle, Builtin.firstCells, storeCells]
  | some a =>
    have hf := run_firstCells_some (P := P) w i.size 0 a 0 c [] (by simp) (by simp)
    cases base <;> simp [Builtin.append_, run_underlying ht, sizeOf, typeInfo, hi, Builtin.lenOf, hle, hf, storeCells]
end

theorem at2_append {α : Type} {l m : List (List α)} {k j : Nat} {x : α} (h : at2 (l ++ m) k j = some x) : (k < l.length ∧ at2 l k j = some x) ∨ (l.length ≤ k ∧ at2 m (k - l.length) j = some x) := by
  unfold at2 at *
  by_cases hk : k < l.length
  · rw [List.getElem?_append_left hk] at h; exact .inl ⟨hk, h⟩
  · rw [List.getElem?_append_right (by omega)] at h; exact .inr ⟨by omega, h⟩

theorem at2_lt {α : Type} {l : List (List α)} {sz k j : Nat} {x : α} (hl : ∀ e ∈ l, e.length = sz) (h : at2 l k j = some x) : k < l.length ∧ j < sz := by
  unfold at2 at h
  obtain ⟨e, he, hx⟩ := bind_some' h
  exact ⟨(List.getElem?_eq_some_iff.1 he).1, by rw [← hl e (List.mem_of_getElem? he)]; exact (List.getElem?_eq_some_iff.1 hx).1⟩

/-- The cells that are appended. -/
theorem newCellsOf {ρ : Env} {X : Nat → Prop} {h : H} {w : World} {sz : Nat} {l : List (List CV)} {b o : Nat} (hl : ∀ e ∈ l, e.length = sz)
    (hc : ∀ k j x, at2 l k j = some x → ∃ u, w.cell? ⟨b, o + (k * sz + j), none⟩ = some u ∧ plain u ∧ CR w (Mut ρ X h) x u) :
    ∃ news : List Value, news.length = l.length * sz ∧ (∀ (j : Nat) (u : Value), news[j]? = some u → w.cell? ((⟨b, o, none⟩ : Addr).add j) = some u ∧ plain u) ∧
      ∀ k j x, at2 l k j = some x → ∃ u, news[k * sz + j]? = some u ∧ plain u ∧ CR w (Mut ρ X h) x u := by
  refine ⟨(List.range (l.length * sz)).map fun m => (w.cell? ⟨b, o + m, none⟩).getD undef, by simp, fun m u hu => ?_, fun k j x hx => ?_⟩
  · simp only [List.getElem?_map, Option.map_eq_some_iff] at hu
    obtain ⟨m', hm, rfl⟩ := hu
    have hm1 := (List.getElem?_eq_some_iff.1 hm).1
    simp at hm1
    have hm2 : m' = m := by
      have := (List.getElem?_eq_some_iff.1 hm).2
      simpa using this.symm
    subst hm2
    have hsz : 0 < sz := by
      rcases Nat.eq_zero_or_pos sz with h0 | h0
      · subst h0; simp at hm1
      · exact h0
    have hk : m' / sz < l.length := Nat.div_lt_of_lt_mul (by rw [Nat.mul_comm]; exact hm1)
    have hj : m' % sz < l[m' / sz].length := by rw [hl _ (List.getElem_mem hk)]; exact Nat.mod_lt _ hsz
    obtain ⟨u, hu, hp, _⟩ := hc (m' / sz) (m' % sz) (l[m' / sz][m' % sz]) (by simp [at2, hk, hj])
    have hdm : m' / sz * sz + m' % sz = m' := by rw [Nat.mul_comm]; exact Nat.div_add_mod m' sz
    rw [hdm] at hu
    rw [add_lit, hu]
    exact ⟨rfl, hp⟩
  · obtain ⟨hk, hj⟩ := at2_lt hl hx
    obtain ⟨u, hu, hp, hcr⟩ := hc k j x hx
    have hlt : k * sz + j < l.length * sz := by
      have : (k + 1) * sz ≤ l.length * sz := Nat.mul_le_mul_right _ hk
      rw [Nat.add_mul] at this
      omega
    exact ⟨u, by simp [hlt, hu], hp, hcr⟩

section
variable {β : Type} {cx : Cx} {o : Oper} {st : St} {h : H} {r : β} {K : SV → H → Option β}

theorem at2_take {α : Type} {l : List (List α)} {n k j : Nat} {x : α} (h : at2 (l.take n) k j = some x) : k < n ∧ at2 l k j = some x := by
  unfold at2 at *
  rw [List.getElem?_take] at h
  split at h
  · exact ⟨by assumption, h⟩
  · simp at h

theorem grow_fits {i : TypeInfo} {need old : Nat} (hb : i.bytes ≤ 4096) (hn : need ≤ LIM) (h : old < need) : Builtin.nextslicecap need old * i.bytes ≤ 281474976710656 := by
  refine growslice_fits h ?_
  have h2 : LIM = 4294967296 := rfl
  rw [h2] at hn
  have h1 : need * i.bytes ≤ 4294967296 * 4096 := Nat.mul_le_mul hn hb
  omega

/-- A row behind which there are others. -/
theorem grown_row {z : Value} {sz n cap : Nat} {A : List Value} {ext : Nat} (hA : A.length = n * sz) (hz : z.cells.size = sz) (hcap : n ≤ cap) (hext : ext = cap - n) :
    cap * sz ≤ (A.toArray ++ Builtin.zeroCells z.cells ext).size ∧ ∀ (j : Nat) (u : Value), A[j]? = some u → (A.toArray ++ Builtin.zeroCells z.cells ext)[j]? = some u := by
  subst hext
  refine ⟨?_, fun j u hu => ?_⟩
  · simp only [Array.size_append, List.size_toArray, size_zeroCells, hz, hA]
    rw [← Nat.add_mul]
    exact Nat.mul_le_mul_right _ (by omega)
  · have hj := (List.getElem?_eq_some_iff.1 hu).1
    rw [Array.getElem?_append_left (by simpa using hj)]
    simpa using hu

/-- What is appended to an owned slice, or to its beginning. -/
theorem appendAcc {ρ : Env} {X : Nat → Prop} {w : World} (hr : HR ρ X h w) {t e ty : TypeId} {ie : TypeInfo} {zv : Value} (ht : cx.P.underlying t = some (.slice e)) (hie : cx.P.info? e = some ie) (_hpos : 0 < ie.size) (hby : ie.bytes ≤ 4096)
    (hzv : ie.zero = some zv) (hzs : zv.cells.size = ie.size) {i ver n : Nat} {l new : List (List CV)} (hg : getH h i = .acc ver false ie.size l) (hn : n ≤ l.length) {base : Option Addr} {cap cap0 : Nat} (hcur : ρ.cur i = .slice base l.length cap0) (hcc : cap ≤ cap0) (hnp : n ≤ cap)
    {x : Value} (hx : ElsR ρ X h w ie.size new x) (hlim : (l.take n ++ new).length ≤ LIM) :
    ∃ v' w', (Builtin.append_ #[t, t] ty #[.slice base n cap, x]).run cx.P w = .ok v' w' ∧ Post ρ X h w (.acc i (ver + 1)) (setH h i (.acc (ver + 1) false ie.size (l.take n ++ new))) v' w' := by
  have hi : i < h.length := getH_lt (by rw [hg]; simp)
  have hln : (l.take n).length = n := by simp; omega
  have hll : (l.take n ++ new).length = n + new.length := by rw [List.length_append, hln]
  have hbx := hr.box i
  rw [hg] at hbx
  obtain ⟨h0, h1, h2, h3⟩ := hbx
  obtain ⟨ad, xc, rfl, hxs, hxc⟩ := hx
  have hmem : ∀ e ∈ l.take n ++ new, e.length = ie.size := fun e he => by
    rcases List.mem_append.1 he with he | he
    · exact h1 e (List.mem_of_mem_take he)
    · exact hxs e he
  -- the end of it: a new value of the slice
  have fin : ∀ (v' : Value) (w' : World), SameIO w w' → plain v' → w.heap.size ≤ w'.heap.size → (∀ b, b < w.heap.size → bOf ρ i (getH h i) ≠ some b → w'.heap[b]? = w.heap[b]?) →
      (∀ b, bOf (ρ.setCur i v') i (.acc (ver + 1) false ie.size (l.take n ++ new)) = some b → bOf ρ i (getH h i) = some b ∨ w.heap.size ≤ b) →
      (Ext ρ h w (ρ.setCur i v') (setH h i (.acc (ver + 1) false ie.size (l.take n ++ new))) w' →
        ((v' = .slice none 0 0 ∧ l.take n ++ new = []) ∨ ∃ b cap cur ty, v' = .slice (some ⟨b, 0, none⟩) (l.take n ++ new).length cap ∧ w'.heap[b]? = some (.cells cur ty (0, 0)) ∧ (l.take n ++ new).length ≤ cap ∧ cap * ie.size ≤ cur.size ∧
          ∀ k j x, at2 (l.take n ++ new) k j = some x → ∃ u, cur[k * ie.size + j]? = some u ∧ plain u ∧ CR w (Mut ρ X h) x u)) →
      Post ρ X h w (.acc i (ver + 1)) (setH h i (.acc (ver + 1) false ie.size (l.take n ++ new))) v' w' := fun v' w' hio hpl hs hk hb hrow => by
    obtain ⟨q1, q2⟩ := hr.upd (by rw [hg]; rfl) (.acc (ver + 1) false ie.size (l.take n ++ new)) v' hs hk hb (HExt.updAcc hg _ (.inl (Nat.lt_succ_self _))) (fun e => by
      refine ⟨h0, hmem, hlim, ?_⟩
      rcases hrow e with ⟨q1, q2⟩ | ⟨b, cap', cur, ty', q1, q2, q3, q4, q5⟩
      · exact .inl ⟨by simpa using q1, q2⟩
      · refine .inr ⟨b, cap', cur, ty', by simpa using q1, q2, q3, q4, fun k j x hx => ?_⟩
        obtain ⟨u, hu, hp, hcr⟩ := q5 k j x hx
        exact ⟨u, hu, hp, e.cr hcr⟩) hio
    refine ⟨_, q1, .acc _ _ _ hpl (by simpa using hi) fun ver' fr sz' l' hh => ?_, q2⟩
    rw [getH_setH_same _ hi] at hh
    cases hh
    exact ⟨Nat.le_refl _, fun _ => by simp⟩
  by_cases hnew : new = []
  · -- nothing
    subst hnew
    rcases h3 with ⟨h3, h4⟩ | ⟨b, cap', cur, ty', h3, h4, h5, h6, h7⟩
    · rw [hcur] at h3
      injection h3 with ha hb hc
      subst ha hc h4
      simp at hn
      subst hn
      obtain rfl : cap = 0 := by omega
      refine ⟨_, w, run_append_zero w t ty e ie ht hie none ad 0 0 xc (Nat.le_refl _), fin _ _ ⟨rfl, rfl⟩ rfl (Nat.le_refl _) (fun _ _ _ => rfl) (fun b hb => by simp [bOf] at hb) fun _ => .inl ⟨rfl, by simp⟩⟩
    · rw [hcur] at h3
      injection h3 with ha _ hc
      subst ha hc
      refine ⟨_, w, run_append_zero w t ty e ie ht hie _ ad n cap xc (by omega), fin _ _ ⟨rfl, rfl⟩ rfl (Nat.le_refl _) (fun _ _ _ => rfl) (fun b' hb => .inl ?_) fun _ => .inr ⟨b, cap, cur, ty', by rw [hll]; rfl, h4, by rw [hll]; simp; omega, Nat.le_trans (Nat.mul_le_mul_right _ hcc) h6, fun k j x hx => ?_⟩⟩
      · rw [hg]; simpa [bOf, hcur] using hb
      · rw [List.append_nil] at hx
        exact h7 k j x (at2_take hx).2
  · have hm0 : 0 < new.length := List.length_pos_iff.2 hnew
    rcases hxc with hxc | ⟨xb, xo, rfl, hxc⟩
    · exact absurd hxc hnew
    obtain ⟨news, hnl, hnc, hnr⟩ := newCellsOf hxs hxc
    have hLIM : LIM = 4294967296 := rfl
    rw [hll] at hlim
    rcases h3 with ⟨h3, h4⟩ | ⟨b, cap', cur, ty', h3, h4, h5, h6, h7⟩
    · rw [hcur] at h3
      injection h3 with ha hb hc
      subst ha hc h4
      simp at hn
      subst hn
      obtain rfl : cap = 0 := by omega
      have hrun := run_append_nil w t ty e ie zv ht hie hzv ⟨xb, xo, none⟩ new.length xc news hnl (fun j u hu => (hnc j u hu).1) hm0 (by omega) (by
        have : new.length * ie.bytes ≤ 4294967296 * 4096 := Nat.mul_le_mul (by omega) hby
        omega)
      have hcg := grownCap_ge w new.length 0 e
      obtain ⟨g1, g2⟩ := grown_row (n := new.length) (cap := grownCap w new.length 0 e) hnl hzs hcg rfl
      refine ⟨_, _, hrun, fin _ _ ⟨rfl, rfl⟩ rfl (by simp) (fun b hb _ => heap_alloc_old w.drew _ b hb) (fun b hb => .inr ?_) fun _ => .inr ⟨w.heap.size, _, _, e, by simp, heap_alloc_new w.drew _, by simpa using hcg, g1, fun k j x hx => ?_⟩⟩
      · simp [bOf] at hb; omega
      · simp at hx
        obtain ⟨u, hu, hp, hcr⟩ := hnr k j x hx
        exact ⟨u, g2 _ u hu, hp, hcr⟩
    · rw [hcur] at h3
      injection h3 with ha _ hc
      subst ha hc
      have h6 : cap * ie.size ≤ cur.size := Nat.le_trans (Nat.mul_le_mul_right _ hcc) h6
      by_cases hroom : n + new.length ≤ cap
      · have hfit : n * ie.size + news.length ≤ cur.size := by
          rw [hnl, ← Nat.add_mul]
          exact Nat.le_trans (Nat.mul_le_mul_right _ hroom) h6
        have hrun := run_append_room' w t ty e ty' ie ht hie b n cap cur h4 ⟨xb, xo, none⟩ new.length xc news hnl (fun j u hu => (hnc j u hu).1) (fun u hu => by
          obtain ⟨j, hj⟩ := List.mem_iff_getElem?.1 hu
          exact (hnc j u hj).2) hroom hfit
        obtain ⟨row, hrow⟩ : ∃ row, row = (cur.toList.take (n * ie.size) ++ news ++ cur.toList.drop (n * ie.size + news.length)).toArray := ⟨_, rfl⟩
        have hget : ∀ j, row[j]? = if n * ie.size ≤ j ∧ j < n * ie.size + news.length then news[j - n * ie.size]? else cur[j]? := fun j => by
          rw [hrow, arr_splice hfit]
        have hsz : row.size = cur.size := by rw [hrow]; simp; omega
        rw [← hrow] at hrun
        refine ⟨_, _, hrun, fin _ _ ⟨rfl, rfl⟩ rfl (by simp) (fun b' hb' hne => setRow_other w _ b' _ fun e => hne (by rw [hg, e]; simp [bOf, hcur])) (fun b' hb => .inl ?_) fun _ => .inr ⟨b, cap, row, ty', by rw [hll], setRow_heap w _ cur _ ty' _ h4, by rw [hll]; exact hroom, by rw [hsz]; exact h6, fun k j x hx => ?_⟩⟩
        · rw [hg]; simpa [bOf, hcur] using hb
        · rcases at2_append hx with ⟨hk, hx⟩ | ⟨hk, hx⟩
          · rw [hln] at hk
            replace hx := (at2_take hx).2
            obtain ⟨_, hj⟩ := at2_lt h1 hx
            rw [hget, if_neg]
            · exact h7 k j x hx
            · have : (k + 1) * ie.size ≤ n * ie.size := Nat.mul_le_mul_right _ hk
              rw [Nat.add_mul] at this
              omega
          · rw [hln] at hk hx
            obtain ⟨hk2, hj⟩ := at2_lt hxs hx
            obtain ⟨u, hu, hp, hcr⟩ := hnr _ j x hx
            have e1 : k * ie.size + j = n * ie.size + ((k - n) * ie.size + j) := by
              have : k * ie.size = n * ie.size + (k - n) * ie.size := by rw [← Nat.add_mul]; congr 1; omega
              omega
            have e2 := (List.getElem?_eq_some_iff.1 hu).1
            rw [hget, if_pos (by omega), e1, Nat.add_sub_cancel_left]
            exact ⟨u, hu, hp, hcr⟩
      · have hol : (cur.toList.take (n * ie.size)).length = n * ie.size := by
          have : n * ie.size ≤ cap * ie.size := Nat.mul_le_mul_right _ (by omega)
          simp
          omega
        have hrun := run_append_grow w t ty e ie zv ht hie hzv ⟨b, 0, none⟩ n cap (cur.toList.take (n * ie.size)) hol (fun j u hu => by
          rw [add_lit, cell_of_heap h4, Nat.zero_add]
          rw [List.getElem?_take] at hu
          split at hu
          · simpa using hu
          · cases hu) ⟨xb, xo, none⟩ new.length xc news hnl (fun j u hu => (hnc j u hu).1) (by omega) (by omega) (grow_fits hby hlim (by omega))
        have hcg := grownCap_ge w (n + new.length) cap e
        obtain ⟨g1, g2⟩ := grown_row (A := cur.toList.take (n * ie.size) ++ news) (sz := ie.size) (n := n + new.length) (cap := grownCap w (n + new.length) cap e) (by rw [List.length_append, hol, hnl, Nat.add_mul]) hzs hcg rfl
        have ea : (cur.toList.take (n * ie.size)).toArray ++ news.toArray = (cur.toList.take (n * ie.size) ++ news).toArray := by simp
        rw [ea] at hrun
        refine ⟨_, _, hrun, fin _ _ ⟨rfl, rfl⟩ rfl (by simp) (fun b hb _ => heap_alloc_old w.drew _ b hb) (fun b hb => .inr ?_) fun _ => .inr ⟨w.heap.size, _, _, e, by rw [hll], heap_alloc_new w.drew _, by rw [hll]; exact hcg, g1, fun k j x hx => ?_⟩⟩
        · simp [bOf] at hb; omega
        · rcases at2_append hx with ⟨hk, hx⟩ | ⟨hk, hx⟩
          · rw [hln] at hk
            replace hx := (at2_take hx).2
            obtain ⟨_, hj⟩ := at2_lt h1 hx
            obtain ⟨u, hu, hp, hcr⟩ := h7 k j x hx
            have hlt : k * ie.size + j < n * ie.size := by
              have : (k + 1) * ie.size ≤ n * ie.size := Nat.mul_le_mul_right _ hk
              rw [Nat.add_mul] at this
              omega
            refine ⟨u, g2 _ u ?_, hp, hcr⟩
            rw [List.getElem?_append_left (by rw [hol]; exact hlt), List.getElem?_take, if_pos hlt]
            simpa using hu
          · rw [hln] at hk hx
            obtain ⟨u, hu, hp, hcr⟩ := hnr _ j x hx
            have e1 : k * ie.size + j = n * ie.size + ((k - n) * ie.size + j) := by
              have : k * ie.size = n * ie.size + (k - n) * ie.size := by rw [← Nat.add_mul]; congr 1; omega
              omega
            refine ⟨u, g2 _ u ?_, hp, hcr⟩
            rw [List.getElem?_append_right (by rw [hol]; omega), hol, e1, Nat.add_sub_cancel_left]
            exact hu

theorem append_sound {t : TypeId} {s x : SV} (hK : appendK cx t s x h K = some r) :
    ∃ sv h', K sv h' = some r ∧ ∀ ρ X w vs vx ty, HR ρ X h w → VR ρ h w (Mut ρ X h) s vs → VR ρ h w (Mut ρ X h) x vx →
      ∃ v' w', (Builtin.append_ #[t, t] ty #[vs, vx]).run cx.P w = .ok v' w' ∧ Post ρ X h w sv h' v' w' := by
  unfold appendK at hK
  split at hK
  · rename_i e hu
    replace hK := cond_some hK
    obtain ⟨hok, hK⟩ := hK
    obtain ⟨ie, zv, hie, hse, hpos, hby, hzv, hzs⟩ := okE_info hok
    replace hK := bind_some' hK
    obtain ⟨new, hnew, hK⟩ := hK
    rw [← hse] at hnew hK
    split at hK
    · -- to nil
      rename_i sz'
      replace hK := ite_some hK
      obtain ⟨hlim, hK⟩ := hK
      refine ⟨_, _, hK, fun ρ X w vs vx ty hr hs hx => ?_⟩
      cases hs
      obtain ⟨ad, xc, rfl, hxs, hxc⟩ := els_sound hr hnew hx
      have fin : ∀ (v' : Value) (w' : World), SameIO w w' → plain v' → w.heap.size ≤ w'.heap.size → (∀ b, b < w.heap.size → w'.heap[b]? = w.heap[b]?) →
          (∀ b, bOf (ρ.push h.length v' 0) h.length (.acc 0 false ie.size new) = some b → w.heap.size ≤ b) →
          ((v' = .slice none 0 0 ∧ new = []) ∨ ∃ b cap cur ty, v' = .slice (some ⟨b, 0, none⟩) new.length cap ∧ w'.heap[b]? = some (.cells cur ty (0, 0)) ∧ new.length ≤ cap ∧ cap * ie.size ≤ cur.size ∧
            ∀ k j x, at2 new k j = some x → ∃ u, cur[k * ie.size + j]? = some u ∧ plain u ∧ CR w (Mut ρ X h) x u) →
          Post ρ X h w (.acc h.length 0) (h ++ [.acc 0 false ie.size new]) v' w' := fun v' w' hio hpl hs hk hf hrow => by
        obtain ⟨g1, g2⟩ := HR.new hr (w' := w') hs hk (.acc 0 false ie.size new) v' 0 hf (fun e => by
          refine ⟨hpos, hxs, hlim, ?_⟩
          rcases hrow with ⟨q1, q2⟩ | ⟨b, cap', cur, ty', q1, q2, q3, q4, q5⟩
          · exact .inl ⟨by simpa using q1, q2⟩
          · refine .inr ⟨b, cap', cur, ty', by simpa using q1, q2, q3, q4, fun k j x hx => ?_⟩
            obtain ⟨u, hu, hp, hcr⟩ := q5 k j x hx
            exact ⟨u, hu, hp, e.cr hcr⟩) hio
        refine ⟨_, g1, .acc _ _ _ hpl (by simp) fun ver' fr sz' l' hh => ?_, g2⟩
        rw [getH_append_len] at hh
        cases hh
        exact ⟨Nat.le_refl _, fun _ => by simp⟩
      by_cases hnn : new = []
      · subst hnn
        exact ⟨_, w, run_append_zero w t ty e ie hu hie none ad 0 0 xc (Nat.le_refl _), fin _ _ ⟨rfl, rfl⟩ rfl (Nat.le_refl _) (fun _ _ => rfl) (fun b hb => by simp [bOf] at hb) (.inl ⟨rfl, rfl⟩)⟩
      · have hm0 : 0 < new.length := List.length_pos_iff.2 hnn
        rcases hxc with hxc | ⟨xb, xo, rfl, hxc⟩
        · exact absurd hxc hnn
        obtain ⟨news, hnl, hnc, hnr⟩ := newCellsOf hxs hxc
        have hLIM : LIM = 4294967296 := rfl
        have hrun := run_append_nil w t ty e ie zv hu hie hzv ⟨xb, xo, none⟩ new.length xc news hnl (fun j u hu => (hnc j u hu).1) hm0 (by omega) (by
          have : new.length * ie.bytes ≤ 4294967296 * 4096 := Nat.mul_le_mul (by omega) hby
          omega)
        have hcg := grownCap_ge w new.length 0 e
        obtain ⟨g1, g2⟩ := grown_row (n := new.length) (cap := grownCap w new.length 0 e) hnl hzs hcg rfl
        refine ⟨_, _, hrun, fin _ _ ⟨rfl, rfl⟩ rfl (by simp) (fun b hb => heap_alloc_old w.drew _ b hb) (fun b hb => ?_) (.inr ⟨w.heap.size, _, _, e, rfl, heap_alloc_new w.drew _, hcg, g1, fun k j x hx => ?_⟩)⟩
        · simp [bOf] at hb; omega
        · obtain ⟨u, hu, hp, hcr⟩ := hnr k j x hx
          exact ⟨u, g2 _ u hu, hp, hcr⟩
    · rename_i i ver
      split at hK
      · rename_i ver' sz' l hg
        replace hK := cond_some hK
        obtain ⟨hb, hK⟩ := hK
        simp only [Bool.and_eq_true] at hb
        have hb1 := beq_true hb.1
        have hb2 := beq_true hb.2
        subst hb1 hb2
        replace hK := ite_some hK
        obtain ⟨hlim, hK⟩ := hK
        refine ⟨_, _, hK, fun ρ X w vs vx ty hr hs hx => ?_⟩
        cases hs with
        | acc _ _ v hpl hi hv =>
          have hval := (hv ver false ie.size l hg).2 rfl
          have hbx := hr.box i
          rw [hg] at hbx
          obtain ⟨_, _, _, h3⟩ := hbx
          have hc : ∃ base cap, ρ.cur i = .slice base l.length cap ∧ l.length ≤ cap := by
            rcases h3 with ⟨h3, rfl⟩ | ⟨b, cap, _, _, h3, _, h5, _⟩
            · exact ⟨none, 0, h3, Nat.le_refl _⟩
            · exact ⟨_, cap, h3, h5⟩
          obtain ⟨base, cap, hc, hcl⟩ := hc
          rw [hval, hc]
          have := appendAcc (cx := cx) hr hu hie hpos hby hzv hzs hg (Nat.le_refl _) hc (Nat.le_refl _) hcl (els_sound hr hnew hx) (by simpa using hlim) (ty := ty)
          simpa using this
      · cases hK
    · rename_i i ver n
      split at hK
      · rename_i ver' sz' l hg
        replace hK := cond_some hK
        obtain ⟨hb, hK⟩ := hK
        simp only [Bool.and_eq_true] at hb
        have hb1 := beq_true hb.1
        have hb2 := beq_true hb.2
        subst hb1 hb2
        replace hK := ite_some hK
        obtain ⟨hlim, hK⟩ := hK
        refine ⟨_, _, hK, fun ρ X w vs vx ty hr hs hx => ?_⟩
        cases hs with
        | sub _ _ _ _ v hpl hi hv =>
          obtain ⟨hlo, a, cap, cap2, kk, hcur, hnc, hcc, hkk, _, hval⟩ := (hv ver false ie.size l hg).2 rfl
          have hbx := hr.box i
          rw [hg] at hbx
          obtain ⟨_, _, _, h3⟩ := hbx
          have ha : ∀ x, a = some x → x.spot = none := fun x hx => by
            subst hx
            rcases h3 with ⟨h3, _⟩ | ⟨b, cap, _, _, h3, _⟩
            · rw [h3] at hcur; cases hcur
            · rw [h3] at hcur
              injection hcur with hq _ _
              injection hq with hq
              rw [← hq]
          obtain rfl : kk = 0 := by omega
          rw [addr_add0 a ha] at hval
          rw [hval]
          exact appendAcc (cx := cx) hr hu hie hpos hby hzv hzs hg (by omega) hcur (by omega) hnc (els_sound hr hnew hx) hlim
      · cases hK
    · cases hK
  · cases hK
end
end Go.Ab

namespace Go.Ab
open Go

section
variable {β : Type} {cx : Cx} {o : Oper} {st : St} {h : H} {r : β} {K : SV → H → Option β}

theorem at2_splice {l x : List (List CV)} {lo : Nat} (h : lo + x.length ≤ l.length) {k j : Nat} {y : CV} (hy : at2 (splice l lo x) k j = some y) :
    (lo ≤ k ∧ k < lo + x.length ∧ at2 x (k - lo) j = some y) ∨ (¬ (lo ≤ k ∧ k < lo + x.length) ∧ at2 l k j = some y) := by
  unfold at2 at *
  rw [splice_get h] at hy
  split at hy
  · rename_i hk; exact .inl ⟨hk.1, hk.2, hy⟩
  · rename_i hk; exact .inr ⟨hk, hy⟩

theorem splice_mem {α : Type} {l x : List α} {lo : Nat} (h : lo + x.length ≤ l.length) {y : α} (hy : y ∈ splice l lo x) : y ∈ l ∨ y ∈ x := by
  obtain ⟨j, hj⟩ := List.mem_iff_getElem?.1 hy
  rw [splice_get h] at hj
  split at hj
  · exact .inr (List.mem_of_getElem? hj)
  · exact .inl (List.mem_of_getElem? hj)

theorem run_copy_zero {P : Program} (w : World) (t ty e : TypeId) (i : TypeInfo) (ht : P.underlying t = some (.slice e)) (hi : P.info? e = some i) (base ad : Option Addr) (dLen dCap sLen sCap : Nat) (hm : Nat.min sLen dLen = 0) :
    (Builtin.copy_ #[t, t] ty #[.slice base dLen dCap, .slice ad sLen sCap]).run P w = .ok (goInt 0) w := by
  have hl : ∀ (x : Addr), (loadCells x 0).run P w = .ok #[] w := fun x => by simpa using run_loadCells_list (P := P) w x [] (by simp)
  cases ad <;> cases base <;> simp [Builtin.copy_, run_underlying ht, sizeOf, typeInfo, hi, Builtin.lenOf, hm, Builtin.firstCells, hl, storeCells]

theorem run_copy_some {P : Program} (w : World) (t ty e te : TypeId) (i : TypeInfo) (ht : P.underlying t = some (.slice e)) (hi : P.info? e = some i)
    (b o dLen dCap : Nat) (cur : Array Value) (hg : w.heap[b]? = some (.cells cur te (0, 0))) (a : Addr) (sLen sCap m : Nat) (hm : Nat.min sLen dLen = m) (news : List Value) (hl : news.length = m * i.size)
    (hnews : ∀ (j : Nat) (u : Value), news[j]? = some u → w.cell? (a.add j) = some u) (h1 : ∀ u ∈ news, u.oneCell' = true) (hfit : o + news.length ≤ cur.size) :
    (Builtin.copy_ #[t, t] ty #[.slice (some ⟨b, o, none⟩) dLen dCap, .slice (some a) sLen sCap]).run P w =
      .ok (goInt m) (w.setRow b (cur.toList.take o ++ news ++ cur.toList.drop (o + news.length)).toArray) := by
  have hf := run_firstCells_some (P := P) w i.size m a sLen sCap news hl hnews
  have hst := run_storeCells_at P b o te news 0 cur w hg (by simpa using hfit) h1
  simp only [Nat.add_zero] at hst
  simp [Builtin.copy_, run_underlying ht, sizeOf, typeInfo, hi, Builtin.lenOf, hm, hf, hst]

theorem copyAcc {ρ : Env} {X : Nat → Prop} {w : World} (hr : HR ρ X h w) {t e ty : TypeId} {ie : TypeInfo} (ht : cx.P.underlying t = some (.slice e)) (hie : cx.P.info? e = some ie)
    {i ver lo n : Nat} {l src : List (List CV)} (hg : getH h i = .acc ver false ie.size l) (hn : lo + n ≤ l.length) {base : Option Addr} {cap dcap : Nat} (hcur : ρ.cur i = .slice base l.length cap)
    {d : Option Addr} (hd : 0 < n → d = base.map (·.add (lo * ie.size))) {x : Value} (hx : ElsR ρ X h w ie.size src x) :
    ∃ w', (Builtin.copy_ #[t, t] ty #[.slice d n dcap, x]).run cx.P w = .ok (goInt (min src.length n : Nat)) w' ∧
      Post ρ X h w (.c (.int .i64 (min src.length n : Nat))) (setH h i (.acc ver false ie.size (splice l lo (src.take (min src.length n))))) (goInt (min src.length n : Nat)) w' := by
  have hi : i < h.length := getH_lt (by rw [hg]; simp)
  have htl : (src.take (min src.length n)).length = min src.length n := by simp
  have hle : lo + (src.take (min src.length n)).length ≤ l.length := by rw [htl]; omega
  have hbx := hr.box i
  rw [hg] at hbx
  obtain ⟨h0, h1, h2, h3⟩ := hbx
  obtain ⟨ad, xc, rfl, hxs, hxc⟩ := hx
  have hmem : ∀ e ∈ splice l lo (src.take (min src.length n)), e.length = ie.size := fun e he => by
    rcases splice_mem hle he with he | he
    · exact h1 e he
    · exact hxs e (List.mem_of_mem_take he)
  have hlen : (splice l lo (src.take (min src.length n))).length = l.length := splice_length hle
  have fin : ∀ (w' : World), SameIO w w' → w.heap.size ≤ w'.heap.size → (∀ b, b < w.heap.size → bOf ρ i (getH h i) ≠ some b → w'.heap[b]? = w.heap[b]?) →
      ((ρ.cur i = .slice none 0 0 ∧ splice l lo (src.take (min src.length n)) = []) ∨ ∃ b cap cur ty, ρ.cur i = .slice (some ⟨b, 0, none⟩) l.length cap ∧ w'.heap[b]? = some (.cells cur ty (0, 0)) ∧ l.length ≤ cap ∧ cap * ie.size ≤ cur.size ∧
          ∀ k j x, at2 (splice l lo (src.take (min src.length n))) k j = some x → ∃ u, cur[k * ie.size + j]? = some u ∧ plain u ∧ CR w (Mut ρ X h) x u) →
      Post ρ X h w (.c (.int .i64 (min src.length n : Nat))) (setH h i (.acc ver false ie.size (splice l lo (src.take (min src.length n))))) (goInt (min src.length n : Nat)) w' := fun w' hio hs hk hrow => by
    obtain ⟨q1, q2⟩ := hr.upd (by rw [hg]; rfl) (.acc ver false ie.size (splice l lo (src.take (min src.length n)))) (ρ.cur i) hs hk (fun b hb => .inl (by rw [hg]; simpa [bOf] using hb))
      (HExt.updAcc hg _ (.inr ⟨rfl, rfl, hlen.symm, rfl⟩)) (fun e => by
        refine ⟨h0, hmem, by rw [hlen]; exact h2, ?_⟩
        rcases hrow with ⟨q1, q2⟩ | ⟨b, cap', cur, ty', q1, q2, q3, q4, q5⟩
        · exact .inl ⟨by simpa using q1, q2⟩
        · refine .inr ⟨b, cap', cur, ty', by rw [hlen]; simpa using q1, q2, by rw [hlen]; exact q3, q4, fun k j x hx => ?_⟩
          obtain ⟨u, hu, hp, hcr⟩ := q5 k j x hx
          exact ⟨u, hu, hp, e.cr hcr⟩) hio
    exact ⟨_, q1, .c _ _ (.int _ _), q2⟩
  by_cases hm : min src.length n = 0
  · refine ⟨w, ?_, fin w ⟨rfl, rfl⟩ (Nat.le_refl _) (fun _ _ _ => rfl) ?_⟩
    · rw [hm]
      exact run_copy_zero w t ty e ie ht hie d ad n dcap src.length xc hm
    · have e0 : splice l lo (src.take (min src.length n)) = l := by rw [hm]; simp [splice]
      rw [e0]
      rcases h3 with h3 | ⟨b, cap', cur, ty', h3, h4, h5, h6, h7⟩
      · exact .inl h3
      · exact .inr ⟨b, cap', cur, ty', h3, h4, h5, h6, h7⟩
  · have hne : src ≠ [] := fun e => hm (by simp [e])
    rcases hxc with hxc | ⟨xb, xo, rfl, hxc⟩
    · exact absurd hxc hne
    have hxc' : ∀ k j x, at2 (src.take (min src.length n)) k j = some x → ∃ u, w.cell? ⟨xb, xo + (k * ie.size + j), none⟩ = some u ∧ plain u ∧ CR w (Mut ρ X h) x u := fun k j x hx => hxc k j x (at2_take hx).2
    have hxs' : ∀ e ∈ src.take (min src.length n), e.length = ie.size := fun e he => hxs e (List.mem_of_mem_take he)
    obtain ⟨news, hnl, hnc, hnr⟩ := newCellsOf hxs' hxc'
    rw [htl] at hnl
    rcases h3 with ⟨_, rfl⟩ | ⟨b, cap', cur, ty', h3, h4, h5, h6, h7⟩
    · simp at hn; omega
    rw [hcur] at h3
    injection h3 with ha _ hc
    subst ha hc
    have hd := hd (by omega)
    simp only [Option.map_some, add_lit, Nat.zero_add] at hd
    subst hd
    have hfit : lo * ie.size + news.length ≤ cur.size := by
      rw [hnl, ← Nat.add_mul]
      exact Nat.le_trans (Nat.mul_le_mul_right _ (by omega)) h6
    have hrun := run_copy_some w t ty e ty' ie ht hie b (lo * ie.size) n dcap cur h4 ⟨xb, xo, none⟩ src.length xc (min src.length n) rfl news hnl (fun j u hu => (hnc j u hu).1) (fun u hu => by
      obtain ⟨j, hj⟩ := List.mem_iff_getElem?.1 hu
      exact (hnc j u hj).2) hfit
    obtain ⟨row, hrow⟩ : ∃ row, row = (cur.toList.take (lo * ie.size) ++ news ++ cur.toList.drop (lo * ie.size + news.length)).toArray := ⟨_, rfl⟩
    have hget : ∀ j, row[j]? = if lo * ie.size ≤ j ∧ j < lo * ie.size + news.length then news[j - lo * ie.size]? else cur[j]? := fun j => by rw [hrow, arr_splice hfit]
    have hsz : row.size = cur.size := by rw [hrow]; simp; omega
    rw [← hrow] at hrun
    refine ⟨_, hrun, fin _ ⟨rfl, rfl⟩ (by simp) (fun b' hb' hne => setRow_other w _ b' _ fun e => hne (by rw [hg, e]; simp [bOf, hcur])) (.inr ⟨b, cap, row, ty', hcur, setRow_heap w _ cur _ ty' _ h4, h5, by rw [hsz]; exact h6, fun k j x hx => ?_⟩)⟩
    rcases at2_splice hle hx with ⟨hk1, hk2, hx⟩ | ⟨hk, hx⟩
    · rw [htl] at hk2
      obtain ⟨u, hu, hp, hcr⟩ := hnr _ j x hx
      have e1 : k * ie.size + j = lo * ie.size + ((k - lo) * ie.size + j) := by
        have : k * ie.size = lo * ie.size + (k - lo) * ie.size := by rw [← Nat.add_mul]; congr 1; omega
        omega
      have e2 := (List.getElem?_eq_some_iff.1 hu).1
      rw [hget, if_pos (by omega), e1, Nat.add_sub_cancel_left]
      exact ⟨u, hu, hp, hcr⟩
    · rw [htl] at hk
      obtain ⟨hkl, hj⟩ := at2_lt h1 hx
      rw [hget, if_neg]
      · exact h7 k j x hx
      · rintro ⟨g1, g2⟩
        rw [hnl, ← Nat.add_mul] at g2
        have hlo : lo ≤ k := by
          by_cases hq : k < lo
          · have : (k + 1) * ie.size ≤ lo * ie.size := Nat.mul_le_mul_right _ hq
            rw [Nat.add_mul] at this
            omega
          · omega
        have hhi : k < lo + min src.length n := by
          by_cases hq : lo + min src.length n ≤ k
          · have : (lo + min src.length n) * ie.size ≤ k * ie.size := Nat.mul_le_mul_right _ hq
            omega
          · omega
        exact hk ⟨hlo, hhi⟩

theorem run_clear_some {P : Program} (w : World) (t ty e te : TypeId) (i : TypeInfo) (zv : Value) (ht : P.underlying t = some (.slice e)) (hi : P.info? e = some i) (hz : i.zero = some zv)
    (b o n cap : Nat) (cur : Array Value) (hg : w.heap[b]? = some (.cells cur te (0, 0))) (hn : n ≠ 0) (news : List Value) (hnews : (Builtin.zeroCells zv.cells n).toList = news) (h1 : ∀ u ∈ news, u.oneCell' = true) (hfit : o + news.length ≤ cur.size) :
    (Builtin.clear_ #[t] ty #[.slice (some ⟨b, o, none⟩) n cap]).run P w =
      .ok (.tuple #[]) (w.setRow b (cur.toList.take o ++ news ++ cur.toList.drop (o + news.length)).toArray) := by
  have hst := run_storeCells_at P b o te news 0 cur w hg (by simpa using hfit) h1
  simp only [Nat.add_zero] at hst
  obtain ⟨m, rfl⟩ : ∃ m, n = m + 1 := ⟨n - 1, by omega⟩
  simp [Builtin.clear_, run_underlying ht, zeroValue, typeInfo, hi, hz, hnews, hst]

theorem run_clear_zero {P : Program} (w : World) (t ty e : TypeId) (ht : P.underlying t = some (.slice e)) (base : Option Addr) (cap : Nat) :
    (Builtin.clear_ #[t] ty #[.slice base 0 cap]).run P w = .ok (.tuple #[]) w := by
  cases base <;> simp [Builtin.clear_, run_underlying ht]

theorem zeros_at {z : Array Value} {n k j sz : Nat} (hz : z.size = sz) (hk : k < n) (hj : j < sz) : (Builtin.zeroCells z n).toList[k * sz + j]? = some (z.getD j undef) := by
  have hkm : k * sz + j < n * sz := by
    have : (k + 1) * sz ≤ n * sz := Nat.mul_le_mul_right _ (by omega)
    rw [Nat.add_mul] at this
    omega
  have hmod : (k * sz + j) % sz = j := by
    rw [Nat.mul_comm, Nat.mul_add_mod]
    exact Nat.mod_eq_of_lt hj
  have hjz : j < z.size := by omega
  have hbang : z[j]! = z[j] := by simp [hjz]
  have hgd : z.getD j undef = z[j] := by simp [hjz]
  rw [hgd, ← hbang]
  simp [Builtin.zeroCells, hz, hkm, hmod]

theorem clearAcc {ρ : Env} {X : Nat → Prop} {w : World} (hr : HR ρ X h w) {t e ty : TypeId} {ie : TypeInfo} {zv : Value} (ht : cx.P.underlying t = some (.slice e)) (hie : cx.P.info? e = some ie) (hzv : ie.zero = some zv) (hzs : zv.cells.size = ie.size)
    {i ver lo n : Nat} {l : List (List CV)} (hg : getH h i = .acc ver false ie.size l) (hn : lo + n ≤ l.length) {base : Option Addr} {cap dcap : Nat} (hcur : ρ.cur i = .slice base l.length cap)
    {d : Option Addr} (hd : 0 < n → d = base.map (·.add (lo * ie.size))) {zc : List CV} (hzl : zc.length = ie.size) (hzc : ∀ (j : Nat) (x : CV), zc[j]? = some x → plain (zv.cells.getD j undef) ∧ CR w (Mut ρ X h) x (zv.cells.getD j undef)) :
    ∃ w', (Builtin.clear_ #[t] ty #[.slice d n dcap]).run cx.P w = .ok (.tuple #[]) w' ∧
      Post ρ X h w (.c (.tup [])) (setH h i (.acc ver false ie.size (splice l lo (List.replicate n zc)))) (.tuple #[]) w' := by
  have hi : i < h.length := getH_lt (by rw [hg]; simp)
  have htl : (List.replicate n zc).length = n := by simp
  have hle : lo + (List.replicate n zc).length ≤ l.length := by rw [htl]; omega
  have hbx := hr.box i
  rw [hg] at hbx
  obtain ⟨h0, h1, h2, h3⟩ := hbx
  have hmem : ∀ e ∈ splice l lo (List.replicate n zc), e.length = ie.size := fun e he => by
    rcases splice_mem hle he with he | he
    · exact h1 e he
    · rw [List.eq_of_mem_replicate he]; exact hzl
  have hlen : (splice l lo (List.replicate n zc)).length = l.length := splice_length hle
  have fin : ∀ (w' : World), SameIO w w' → w.heap.size ≤ w'.heap.size → (∀ b, b < w.heap.size → bOf ρ i (getH h i) ≠ some b → w'.heap[b]? = w.heap[b]?) →
      ((ρ.cur i = .slice none 0 0 ∧ splice l lo (List.replicate n zc) = []) ∨ ∃ b cap cur ty, ρ.cur i = .slice (some ⟨b, 0, none⟩) l.length cap ∧ w'.heap[b]? = some (.cells cur ty (0, 0)) ∧ l.length ≤ cap ∧ cap * ie.size ≤ cur.size ∧
          ∀ k j x, at2 (splice l lo (List.replicate n zc)) k j = some x → ∃ u, cur[k * ie.size + j]? = some u ∧ plain u ∧ CR w (Mut ρ X h) x u) →
      Post ρ X h w (.c (.tup [])) (setH h i (.acc ver false ie.size (splice l lo (List.replicate n zc)))) (.tuple #[]) w' := fun w' hio hs hk hrow => by
    obtain ⟨q1, q2⟩ := hr.upd (by rw [hg]; rfl) (.acc ver false ie.size (splice l lo (List.replicate n zc))) (ρ.cur i) hs hk (fun b hb => .inl (by rw [hg]; simpa [bOf] using hb))
      (HExt.updAcc hg _ (.inr ⟨rfl, rfl, hlen.symm, rfl⟩)) (fun e => by
        refine ⟨h0, hmem, by rw [hlen]; exact h2, ?_⟩
        rcases hrow with ⟨q1, q2⟩ | ⟨b, cap', cur, ty', q1, q2, q3, q4, q5⟩
        · exact .inl ⟨by simpa using q1, q2⟩
        · refine .inr ⟨b, cap', cur, ty', by rw [hlen]; simpa using q1, q2, by rw [hlen]; exact q3, q4, fun k j x hx => ?_⟩
          obtain ⟨u, hu, hp, hcr⟩ := q5 k j x hx
          exact ⟨u, hu, hp, e.cr hcr⟩) hio
    exact ⟨_, q1, .c _ _ (.tup [] #[] rfl fun j x hx => by simp at hx), q2⟩
  by_cases hm : n = 0
  · subst hm
    refine ⟨w, run_clear_zero w t ty e ht d dcap, fin w ⟨rfl, rfl⟩ (Nat.le_refl _) (fun _ _ _ => rfl) ?_⟩
    have e0 : splice l lo (List.replicate 0 zc) = l := by simp [splice]
    rw [e0]
    rcases h3 with h3 | ⟨b, cap', cur, ty', h3, h4, h5, h6, h7⟩
    · exact .inl h3
    · exact .inr ⟨b, cap', cur, ty', h3, h4, h5, h6, h7⟩
  · rcases h3 with ⟨_, rfl⟩ | ⟨b, cap', cur, ty', h3, h4, h5, h6, h7⟩
    · simp at hn; omega
    rw [hcur] at h3
    injection h3 with ha _ hc
    subst ha hc
    have hd := hd (by omega)
    simp only [Option.map_some, add_lit, Nat.zero_add] at hd
    subst hd
    obtain ⟨news, hnews⟩ : ∃ news, (Builtin.zeroCells zv.cells n).toList = news := ⟨_, rfl⟩
    have hnl : news.length = n * ie.size := by rw [← hnews]; simp [Builtin.zeroCells, hzs]
    have hfit : lo * ie.size + news.length ≤ cur.size := by
      rw [hnl, ← Nat.add_mul]
      exact Nat.le_trans (Nat.mul_le_mul_right _ (by omega)) h6
    have hat : ∀ k j, k < n → j < ie.size → news[k * ie.size + j]? = some (zv.cells.getD j undef) := fun k j hk hj => by rw [← hnews]; exact zeros_at hzs hk hj
    have hrun := run_clear_some w t ty e ty' ie zv ht hie hzv b (lo * ie.size) n dcap cur h4 hm news hnews (fun u hu => by
      obtain ⟨q, hq⟩ := List.mem_iff_getElem?.1 hu
      have hql := (List.getElem?_eq_some_iff.1 hq).1
      rw [hnl] at hql
      have h0' : 0 < ie.size := h0
      have hqk : q / ie.size < n := Nat.div_lt_of_lt_mul (by rw [Nat.mul_comm]; exact hql)
      have hqj : q % ie.size < ie.size := Nat.mod_lt _ h0'
      have := hat _ _ hqk hqj
      rw [Nat.mul_comm, Nat.div_add_mod] at this
      rw [hq] at this
      cases this
      exact (hzc (q % ie.size) (zc[q % ie.size]'(by omega)) (by simp [hzl, hqj])).1) hfit
    obtain ⟨row, hrow⟩ : ∃ row, row = (cur.toList.take (lo * ie.size) ++ news ++ cur.toList.drop (lo * ie.size + news.length)).toArray := ⟨_, rfl⟩
    have hget : ∀ j, row[j]? = if lo * ie.size ≤ j ∧ j < lo * ie.size + news.length then news[j - lo * ie.size]? else cur[j]? := fun j => by rw [hrow, arr_splice hfit]
    have hsz : row.size = cur.size := by rw [hrow]; simp; omega
    rw [← hrow] at hrun
    refine ⟨_, hrun, fin _ ⟨rfl, rfl⟩ (by simp) (fun b' hb' hne => setRow_other w _ b' _ fun e => hne (by rw [hg, e]; simp [bOf, hcur])) (.inr ⟨b, cap, row, ty', hcur, setRow_heap w _ cur _ ty' _ h4, h5, by rw [hsz]; exact h6, fun k j x hx => ?_⟩)⟩
    rcases at2_splice hle hx with ⟨hk1, hk2, hx⟩ | ⟨hk, hx⟩
    · rw [htl] at hk2
      obtain ⟨hkn, hx⟩ := at2_replicate hx
      have hj := (List.getElem?_eq_some_iff.1 hx).1
      rw [hzl] at hj
      obtain ⟨hp, hcr⟩ := hzc j x hx
      have e1 : k * ie.size + j = lo * ie.size + ((k - lo) * ie.size + j) := by
        have : k * ie.size = lo * ie.size + (k - lo) * ie.size := by rw [← Nat.add_mul]; congr 1; omega
        omega
      have hu := hat (k - lo) j hkn hj
      have e2 := (List.getElem?_eq_some_iff.1 hu).1
      rw [hget, if_pos (by omega), e1, Nat.add_sub_cancel_left]
      exact ⟨_, hu, hp, hcr⟩
    · rw [htl] at hk
      obtain ⟨hkl, hj⟩ := at2_lt h1 hx
      rw [hget, if_neg]
      · exact h7 k j x hx
      · rintro ⟨g1, g2⟩
        rw [hnl, ← Nat.add_mul] at g2
        have hlo : lo ≤ k := by
          by_cases hq : k < lo
          · have : (k + 1) * ie.size ≤ lo * ie.size := Nat.mul_le_mul_right _ hq
            rw [Nat.add_mul] at this
            omega
          · omega
        have hhi : k < lo + n := by
          by_cases hq : lo + n ≤ k
          · have : (lo + n) * ie.size ≤ k * ie.size := Nat.mul_le_mul_right _ hq
            omega
          · omega
        exact hk ⟨hlo, hhi⟩

theorem clear_sound {t : TypeId} {d : SV} (hK : clearK cx t d h K = some r) :
    ∃ sv h', K sv h' = some r ∧ ∀ ρ X w vd ty, HR ρ X h w → VR ρ h w (Mut ρ X h) d vd →
      ∃ v' w', (Builtin.clear_ #[t] ty #[vd]).run cx.P w = .ok v' w' ∧ Post ρ X h w sv h' v' w' := by
  unfold clearK at hK
  split at hK
  · rename_i e hu
    replace hK := cond_some hK
    obtain ⟨hok, hK⟩ := hK
    obtain ⟨ie, zv, hie, hse, hpos, hby, hzv, hzs⟩ := okE_info hok
    replace hK := bind_some' hK
    obtain ⟨z, hz, hK⟩ := hK
    replace hK := bind_some' hK
    obtain ⟨⟨zc, h1⟩, hs, hK⟩ := hK
    dsimp only at hK
    rw [← hse] at hK
    have pre : ∀ ρ X w, HR ρ X h w → zc.length = ie.size ∧ HR ρ X h1 w ∧ Ext ρ h w ρ h1 w ∧ ∀ (j : Nat) (x : CV), zc[j]? = some x → plain (zv.cells.getD j undef) ∧ CR w (Mut ρ X h1) x (zv.cells.getD j undef) := fun ρ X w hr => by
      obtain ⟨i2, z2, hi2, hz2, hcz⟩ := zero_cells (ρ := ρ) (h := h) (w := w) (M := Mut ρ X h) hz
      rw [hie] at hi2
      cases hi2
      rw [hzv] at hz2
      cases hz2
      obtain ⟨hl1, t1, c1⟩ := seqClose_sound z X h zc h1 (fun j => zv.cells.getD j undef) hr (fun j s hs => (hcz.2 j s hs).2) hs
      have hzl : zc.length = ie.size := by rw [hl1, ← hcz.1, hzs]
      refine ⟨hzl, t1.hr', t1.ext', fun j x hx => ⟨?_, c1 j x hx⟩⟩
      have hj := (List.getElem?_eq_some_iff.1 hx).1
      exact (hcz.2 j (z[j]'(by omega)) (by simp [show j < z.length from by omega])).1
    split at hK
    · rename_i i ver
      split at hK
      · rename_i ver0 fr0 sz0 l0 hg0
        split at hK
        · rename_i ver' sz' l hg
          have hl0 : l0 = l := by rw [hg0] at hg; injection hg
          subst hl0
          replace hK := cond_some hK
          obtain ⟨hb, hK⟩ := hK
          simp only [Bool.and_eq_true] at hb
          have hb1 := beq_true hb.1
          have hb2 := beq_true hb.2
          subst hb1 hb2
          refine ⟨_, _, hK, fun ρ X w vd ty hr hd => ?_⟩
          obtain ⟨hzl, hr1, ex, hzc⟩ := pre ρ X w hr
          replace hd := ex.vr hd
          cases hd with
          | acc _ _ v hpl hi hv =>
            have hval := (hv ver false ie.size l0 hg).2 rfl
            have hbx := hr1.box i
            rw [hg] at hbx
            obtain ⟨_, _, _, h3⟩ := hbx
            have hc : ∃ base cap, ρ.cur i = .slice base l0.length cap ∧ ∀ x, base = some x → x.spot = none := by
              rcases h3 with ⟨h3, rfl⟩ | ⟨b, cap, _, _, h3, _⟩
              · exact ⟨none, 0, h3, fun x hx => by cases hx⟩
              · exact ⟨_, cap, h3, fun x hx => by cases hx; rfl⟩
            obtain ⟨base, cap, hc, hsp⟩ := hc
            rw [hval, hc]
            obtain ⟨w', q1, q2⟩ := clearAcc (cx := cx) hr1 hu hie hzv hzs hg (lo := 0) (n := l0.length) (by omega) hc (d := base) (dcap := cap) (fun _ => by rw [Nat.zero_mul, addr_add0 base hsp]) hzl hzc (ty := ty)
            exact ⟨_, w', q1, q2.pre ex⟩
        · cases hK
      · cases hK
    · rename_i i ver lo n
      split at hK
      · rename_i ver' sz' l hg
        replace hK := cond_some hK
        obtain ⟨hb, hK⟩ := hK
        simp only [Bool.and_eq_true] at hb
        have hb1 := beq_true hb.1
        have hb2 := beq_true hb.2
        subst hb1 hb2
        refine ⟨_, _, hK, fun ρ X w vd ty hr hd => ?_⟩
        obtain ⟨hzl, hr1, ex, hzc⟩ := pre ρ X w hr
        replace hd := ex.vr hd
        cases hd with
        | sub _ _ _ _ v hpl hi hv =>
          obtain ⟨hlo, a, cap, cap2, kk, hcur, hnc, hcc, _, hk1, hval⟩ := (hv ver false ie.size l hg).2 rfl
          rw [hval]
          obtain ⟨w', q1, q2⟩ := clearAcc (cx := cx) hr1 hu hie hzv hzs hg (lo := lo) (n := n) hlo hcur (d := a.map (·.add kk)) (dcap := cap2) (fun hn => by rw [hk1 (by omega)]) hzl hzc (ty := ty)
          exact ⟨_, w', q1, q2.pre ex⟩
      · cases hK
    · cases hK
  · cases hK

theorem appendZ_sound {t u : TypeId} {s x : SV} (hK : appendZ cx t u s x h K = some r) :
    ∃ sv h', K sv h' = some r ∧ ∀ ρ X w vs vx ty, HR ρ X h w → VR ρ h w (Mut ρ X h) s vs → VR ρ h w (Mut ρ X h) x vx →
      ∃ v' w', (Builtin.append_ #[t, u] ty #[vs, vx]).run cx.P w = .ok v' w' ∧ Post ρ X h w sv h' v' w' := by
  unfold appendZ at hK
  split at hK
  · rename_i sz n e ku hu hui
    replace hK := cond_some hK
    obtain ⟨hok, hK⟩ := hK
    obtain ⟨ie, zv, hie, hse, hpos, hby, hzv, hzs⟩ := okE_info hok
    replace hK := bind_some' hK
    obtain ⟨z, hz, hK⟩ := hK
    replace hK := bind_some' hK
    obtain ⟨⟨zc, h1⟩, hs, hK⟩ := hK
    replace hK := ite_some hK
    obtain ⟨⟨hn0, hnl⟩, hK⟩ := hK
    dsimp only at hK
    rw [← hse] at hK
    refine ⟨_, _, hK, fun ρ X w vs vx ty hr0 hvs hvx => ?_⟩
    obtain ⟨i2, z2, hi2, hz2, hcz⟩ := zero_cells (ρ := ρ) (h := h) (w := w) (M := Mut ρ X h) hz
    rw [hie] at hi2
    cases hi2
    rw [hzv] at hz2
    cases hz2
    obtain ⟨hl1, t1, c1⟩ := seqClose_sound z X h zc h1 (fun j => zv.cells.getD j undef) hr0 (fun j s hs => (hcz.2 j s hs).2) hs
    have hzl : zc.length = ie.size := by rw [hl1, ← hcz.1, hzs]
    have hr := t1.hr'
    have ex := t1.ext'
    have hvx := hvx.int_inv
    subst hvx
    cases hvs
    obtain ⟨m, rfl⟩ : ∃ m : Nat, n = m := ⟨n.toNat, by omega⟩
    rw [Int.toNat_natCast]
    have hLIM : LIM = 4294967296 := rfl
    have hmem : ∀ e ∈ List.replicate m zc, e.length = ie.size := fun e he => by rw [List.eq_of_mem_replicate he]; exact hzl
    have fin : ∀ (v' : Value) (w' : World), SameIO w w' → plain v' → w.heap.size ≤ w'.heap.size → (∀ b, b < w.heap.size → w'.heap[b]? = w.heap[b]?) →
        (∀ b, bOf (ρ.push h1.length v' 0) h1.length (.acc 0 false ie.size (List.replicate m zc)) = some b → w.heap.size ≤ b) →
        ((v' = .slice none 0 0 ∧ List.replicate m zc = []) ∨ ∃ b cap cur ty, v' = .slice (some ⟨b, 0, none⟩) (List.replicate m zc).length cap ∧ w'.heap[b]? = some (.cells cur ty (0, 0)) ∧ (List.replicate m zc).length ≤ cap ∧ cap * ie.size ≤ cur.size ∧
          ∀ k j x, at2 (List.replicate m zc) k j = some x → ∃ u, cur[k * ie.size + j]? = some u ∧ plain u ∧ CR w (Mut ρ X h1) x u) →
        Post ρ X h w (.acc h1.length 0) (h1 ++ [.acc 0 false ie.size (List.replicate m zc)]) v' w' := fun v' w' hio hpl hs hk hf hrow => by
      obtain ⟨g1, g2⟩ := HR.new hr (w' := w') hs hk (.acc 0 false ie.size (List.replicate m zc)) v' 0 hf (fun e => by
        refine ⟨hpos, hmem, by simp; omega, ?_⟩
        rcases hrow with ⟨q1, q2⟩ | ⟨b, cap', cur, ty', q1, q2, q3, q4, q5⟩
        · exact .inl ⟨by simpa using q1, q2⟩
        · refine .inr ⟨b, cap', cur, ty', by simpa using q1, q2, q3, q4, fun k j x hx => ?_⟩
          obtain ⟨u, hu, hp, hcr⟩ := q5 k j x hx
          exact ⟨u, hu, hp, e.cr hcr⟩) hio
      have g : Post ρ X h1 w (.acc h1.length 0) (h1 ++ [.acc 0 false ie.size (List.replicate m zc)]) v' w' := by
        refine ⟨_, g1, .acc _ _ _ hpl (by simp) fun ver' fr sz' l' hh => ?_, g2⟩
        rw [getH_append_len] at hh
        cases hh
        exact ⟨Nat.le_refl _, fun _ => by simp⟩
      exact g.pre ex
    · have hrun := Lib.run_append_nil_zeros (P := cx.P) w t u ty e ie zv .i64 _ hu hui hie hzv m (by omega) hpos (by omega) (by
        have : m * ie.bytes ≤ 4294967296 * 4096 := Nat.mul_le_mul (by omega) hby
        omega)
      have hcg := grownCap_ge w m 0 e
      obtain ⟨g1, g2⟩ := grown_row (A := (Builtin.zeroCells zv.cells m).toList) (n := m) (cap := grownCap w m 0 e) (by simp [Builtin.zeroCells, hzs]) hzs hcg rfl
      simp only [Array.toArray_toList] at g1 g2
      refine ⟨_, _, hrun, fin _ _ ⟨rfl, rfl⟩ rfl (by simp) (fun b hb => heap_alloc_old w.drew _ b hb) (fun b hb => ?_) (.inr ⟨w.heap.size, _, _, e, by simp, heap_alloc_new w.drew _, by simpa using hcg, g1, fun k j x hx => ?_⟩)⟩
      · simp [bOf] at hb; omega
      · obtain ⟨hkn, hx⟩ := at2_replicate hx
        have hj := (List.getElem?_eq_some_iff.1 hx).1
        have hcr := c1 j x hx
        have hp := (hcz.2 j (z[j]'(by omega)) (by simp [show j < z.length from by omega])).1
        exact ⟨_, g2 _ _ (zeros_at hzs hkn (by omega)), hp, hcr⟩
  · cases hK

theorem copy_sound {t : TypeId} {d x : SV} (hK : copyK cx t d x h K = some r) :
    ∃ sv h', K sv h' = some r ∧ ∀ ρ X w vd vx ty, HR ρ X h w → VR ρ h w (Mut ρ X h) d vd → VR ρ h w (Mut ρ X h) x vx →
      ∃ v' w', (Builtin.copy_ #[t, t] ty #[vd, vx]).run cx.P w = .ok v' w' ∧ Post ρ X h w sv h' v' w' := by
  unfold copyK at hK
  split at hK
  · rename_i e hu
    replace hK := cond_some hK
    obtain ⟨hok, hK⟩ := hK
    obtain ⟨ie, zv, hie, hse, hpos, hby, hzv, hzs⟩ := okE_info hok
    replace hK := bind_some' hK
    obtain ⟨src, hsrc, hK⟩ := hK
    dsimp only at hK
    rw [← hse] at hsrc hK
    split at hK
    · rename_i i ver
      split at hK
      · rename_i ver0 fr0 sz0 l0 hg0
        split at hK
        · rename_i ver' sz' l hg
          have hl0 : l0 = l := by rw [hg0] at hg; injection hg
          subst hl0
          replace hK := cond_some hK
          obtain ⟨hb, hK⟩ := hK
          simp only [Bool.and_eq_true] at hb
          have hb1 := beq_true hb.1
          have hb2 := beq_true hb.2
          subst hb1 hb2
          refine ⟨_, _, hK, fun ρ X w vd vx ty hr hd hx => ?_⟩
          cases hd with
          | acc _ _ v hpl hi hv =>
            have hval := (hv ver false ie.size l0 hg).2 rfl
            have hbx := hr.box i
            rw [hg] at hbx
            obtain ⟨_, _, _, h3⟩ := hbx
            have hc : ∃ base cap, ρ.cur i = .slice base l0.length cap ∧ ∀ x, base = some x → x.spot = none := by
              rcases h3 with ⟨h3, rfl⟩ | ⟨b, cap, _, _, h3, _⟩
              · exact ⟨none, 0, h3, fun x hx => by cases hx⟩
              · exact ⟨_, cap, h3, fun x hx => by cases hx; rfl⟩
            obtain ⟨base, cap, hc, hsp⟩ := hc
            rw [hval, hc]
            obtain ⟨w', q1, q2⟩ := copyAcc (cx := cx) hr hu hie hg (lo := 0) (n := l0.length) (by omega) hc (d := base) (dcap := cap) (fun _ => by rw [Nat.zero_mul, addr_add0 base hsp]) (els_sound hr hsrc hx) (ty := ty)
            exact ⟨_, w', q1, q2⟩
        · cases hK
      · cases hK
    · rename_i i ver lo n
      split at hK
      · rename_i ver' sz' l hg
        replace hK := cond_some hK
        obtain ⟨hb, hK⟩ := hK
        simp only [Bool.and_eq_true] at hb
        have hb1 := beq_true hb.1
        have hb2 := beq_true hb.2
        subst hb1 hb2
        refine ⟨_, _, hK, fun ρ X w vd vx ty hr hd hx => ?_⟩
        cases hd with
        | sub _ _ _ _ v hpl hi hv =>
          obtain ⟨hlo, a, cap, cap2, kk, hcur, hnc, hcc, _, hk1, hval⟩ := (hv ver false ie.size l hg).2 rfl
          have hbx := hr.box i
          rw [hg] at hbx
          obtain ⟨_, _, _, h3⟩ := hbx
          rw [hval]
          obtain ⟨w', q1, q2⟩ := copyAcc (cx := cx) hr hu hie hg (lo := lo) (n := n) hlo hcur (d := a.map (·.add kk)) (dcap := cap2) (fun hn => by rw [hk1 (by omega)]) (els_sound hr hsrc hx) (ty := ty)
          exact ⟨_, w', q1, q2⟩
      · cases hK
    · cases hK
  · cases hK

theorem lenOf_sound {ρ : Env} {X : Nat → Prop} {w : World} (hr : HR ρ X h w) {x : SV} {n : Nat} {v : Value} (hn : lenOf h x = some n) (hv : VR ρ h w (Mut ρ X h) x v) : ∃ ad cap, v = .slice ad n cap := by
  unfold lenOf at hn
  split at hn
  · obtain rfl := Option.some.inj hn
    cases hv with
    | c x v hx =>
      obtain ⟨ad, cap, rfl, _⟩ := hx.sl_inv
      exact ⟨ad, cap, rfl⟩
  · obtain rfl := Option.some.inj hn
    cases hv
    exact ⟨none, 0, rfl⟩
  · rename_i i ver
    split at hn
    · rename_i ver' fr sz l hg
      obtain ⟨hb, hn⟩ := cond_some hn
      obtain rfl := Option.some.inj hn
      have := beq_true hb
      subst this
      cases hv with
      | acc _ _ v hpl hi hv =>
        have hval := (hv ver fr sz l hg).2 rfl
        have hbx := hr.box i
        rw [hg] at hbx
        obtain ⟨_, _, _, h3⟩ := hbx
        rcases h3 with ⟨h3, rfl⟩ | ⟨b, cap, _, _, h3, _⟩
        · exact ⟨none, 0, by rw [hval, h3]; rfl⟩
        · exact ⟨_, cap, by rw [hval, h3]⟩
    · cases hn
  · rename_i i ver lo k
    split at hn
    · rename_i ver' fr sz l hg
      obtain ⟨hb, hn⟩ := cond_some hn
      obtain rfl := Option.some.inj hn
      have := beq_true hb
      subst this
      cases hv with
      | sub _ _ _ _ v hpl hi hv =>
        obtain ⟨_, a, cap, cap2, kk, _, _, _, _, _, hval⟩ := (hv ver fr sz l hg).2 rfl
        exact ⟨_, _, hval⟩
    · cases hn
  · cases hn
end
end Go.Ab

namespace Go.Ab
open Go

section
variable {β : Type} {cx : Cx} {o : Oper} {st : St} {h : H} {r : β} {K : SV → H → Option β}

theorem evs_one {ρ : Env} {X : Nat → Prop} {a : Act} {w : World} (rr : R cx ρ X st h a w) {ts : List TypeId} {xs : Array Operand} {s : SV} (he : evs cx.P st ts xs.toList = [s]) :
    ∃ x, xs = #[x] ∧ VR ρ h w (Mut ρ X h) s (a.eval x) := by
  obtain ⟨h1, h2⟩ := evs_sound rr ts xs.toList
  rw [he] at h1 h2
  have hs : xs.size = 1 := by simpa using h1.symm
  obtain ⟨x, rfl⟩ := Array.size_eq_one_iff.1 hs
  obtain ⟨y, hy, hv⟩ := h2 0 s (by simp)
  simp at hy
  subst hy
  exact ⟨_, rfl, hv⟩

theorem evs_two {ρ : Env} {X : Nat → Prop} {a : Act} {w : World} (rr : R cx ρ X st h a w) {ts : List TypeId} {xs : Array Operand} {s1 s2 : SV} (he : evs cx.P st ts xs.toList = [s1, s2]) :
    ∃ x y, xs = #[x, y] ∧ VR ρ h w (Mut ρ X h) s1 (a.eval x) ∧ VR ρ h w (Mut ρ X h) s2 (a.eval y) := by
  obtain ⟨h1, h2⟩ := evs_sound rr ts xs.toList
  rw [he] at h1 h2
  have hs : xs.toList.length = 2 := by simpa using h1.symm
  obtain ⟨x, y, hxy⟩ : ∃ x y, xs.toList = [x, y] := by
    generalize xs.toList = L at hs
    match L, hs with
    | [x, y], _ => exact ⟨x, y, rfl⟩
  have hx : xs = #[x, y] := by rw [← Array.toArray_toList (xs := xs), hxy]
  subst hx
  obtain ⟨u, hu, hv⟩ := h2 0 s1 (by simp)
  obtain ⟨u', hu', hv'⟩ := h2 1 s2 (by simp)
  simp at hu hu'
  subst hu hu'
  exact ⟨_, _, rfl, hv, hv'⟩

theorem toList_one {α : Type} {a : Array α} {t : α} {r : List α} (h : a.toList = t :: r) : a[0]? = some t := by
  have : a.toList[0]? = some t := by rw [h]; rfl
  simpa using this

theorem foldInt_sound {f : Int → Int → Int} {g : Value → Value → Sem Value} {P : Program} {w : World} (hg : ∀ k k' x y, (g (.int k x) (.int k' y)).run P w = .ok (.int k (f x y)) w) :
    ∀ (l : List SV) (vs : List Value) (k : IntKind) (x : Int) (v : CV) (ρ : Env) (M : Nat → Prop), vs.length = l.length → (∀ (j : Nat) (s : SV), l[j]? = some s → ∃ u, vs[j]? = some u ∧ VR ρ h w M s u) → foldInt f k x l = some v →
      ∃ n, v = .int k n ∧ (vs.foldlM g (.int k x)).run P w = .ok (.int k n) w
  | [], vs, k, x, v, ρ, M, hl, _, hf => by
    have : vs = [] := List.length_eq_zero_iff.1 (by simpa using hl)
    subst this
    simp only [foldInt, Option.some.injEq] at hf
    exact ⟨x, hf.symm, by simp⟩
  | s :: l, vs, k, x, v, ρ, M, hl, hv, hf => by
    cases vs with
    | nil => simp at hl
    | cons u vs =>
      obtain ⟨u', hu, hv0⟩ := hv 0 s (by simp)
      simp at hu
      subst hu
      cases s with
      | c cv =>
        cases cv with
        | int k1 b =>
          simp only [foldInt] at hf
          have := hv0.int_inv
          subst this
          obtain ⟨n, hn, hr⟩ := foldInt_sound hg l vs k (f x b) v ρ M (by simpa using hl) (fun j s hs => by simpa using hv (j + 1) s (by simpa using hs)) hf
          exact ⟨n, hn, by simp [List.foldlM_cons, hg, hr]⟩
        | _ => simp [foldInt] at hf
      | _ => simp [foldInt] at hf

theorem run_builtin_op {a : Act} {w w' : World} {c : Call} {b : Builtin} {nx : Next} (ho : o.op = .call c) (hc : c.callee = .builtin b)
    (hr : (builtin b c.argTypes o.type (c.args.map fun | .const _ => true | _ => false) (c.args.map a.eval)).run cx.P w = .ok nx w') : (execOp a.eval o).run cx.P w = .ok nx w' := by
  simp only [execOp, ho, resolve, hc, Sem.run_bind, Sem.run_pure, Result.andThen_ok, invoke]
  exact hr

theorem builtin_sound {c : Call} {b : Builtin} (ho : o.op = .call c) (hc : c.callee = .builtin b) (hK : builtinK cx b c.argTypes (evs cx.P st c.argTypes.toList c.args.toList) h K = some r) : OpS cx o st h K r := by
  have two' : ∀ (b : Builtin) (f : Array TypeId → TypeId → Array Value → Sem Value), (∀ ts ty cs as, builtin b ts ty cs as = (do pure (.value (← f ts ty as)))) → c.callee = .builtin b → ∀ (s x : SV) (t u : TypeId), evs cx.P st c.argTypes.toList c.args.toList = [s, x] → c.argTypes.toList = [t, u] →
      (∃ sv h', K sv h' = some r ∧ ∀ ρ X w vs vx ty, HR ρ X h w → VR ρ h w (Mut ρ X h) s vs → VR ρ h w (Mut ρ X h) x vx → ∃ v' w', (f #[t, u] ty #[vs, vx]).run cx.P w = .ok v' w' ∧ Post ρ X h w sv h' v' w') → OpS cx o st h K r := by
    rintro b f hb hc s x t u he ht ⟨sv, h', hK, hf⟩
    refine ⟨sv, h', hK, fun ρ X a w rr => ?_⟩
    obtain ⟨x1, x2, hxs, hv1, hv2⟩ := evs_two rr he
    obtain ⟨v', w', hrun, hp⟩ := hf ρ X w _ _ o.type rr.hr hv1 hv2
    have hts : c.argTypes = #[t, u] := by rw [← Array.toArray_toList (xs := c.argTypes), ht]
    refine .value (run_builtin_op ho hc ?_) hp
    rw [hb, hts, hxs]
    simp [hrun]
  have two : ∀ (b : Builtin) (f : Array TypeId → TypeId → Array Value → Sem Value), (∀ ts ty cs as, builtin b ts ty cs as = (do pure (.value (← f ts ty as)))) → c.callee = .builtin b → ∀ (s x : SV) (t u : TypeId), evs cx.P st c.argTypes.toList c.args.toList = [s, x] → c.argTypes.toList = [t, u] → t = u →
      (∃ sv h', K sv h' = some r ∧ ∀ ρ X w vs vx ty, HR ρ X h w → VR ρ h w (Mut ρ X h) s vs → VR ρ h w (Mut ρ X h) x vx → ∃ v' w', (f #[t, t] ty #[vs, vx]).run cx.P w = .ok v' w' ∧ Post ρ X h w sv h' v' w') → OpS cx o st h K r := by
    rintro b f hb hc s x t u he ht htu h
    subst htu
    exact two' b f hb hc s x t t he ht h
  unfold builtinK at hK
  split at hK
  · -- len
    rename_i t _ x ht hx
    have hl : ∀ (a : Act) (w : World) (n : Nat), (Builtin.len_ c.argTypes o.type (c.args.map a.eval)).run cx.P w = .ok (goInt n) w → (execOp a.eval o).run cx.P w = .ok (.value (goInt n)) w := fun a w n hn => by
      refine run_builtin_op ho hc ?_
      simp [builtin, hn]
    have ht0 := toList_one ht
    split at hK
    · rename_i n e hu
      refine .pure hK fun ρ X a w rr => ?_
      obtain ⟨x1, hx1, hv⟩ := evs_one rr hx
      refine ⟨_, hl a w n ?_, .c _ _ (.int _ _)⟩
      simp [Builtin.len_, ht0, hx1, run_underlying hu]
    · rename_i e hu
      replace hK := bind_some' hK
      obtain ⟨n, hn, hK⟩ := hK
      refine .pure hK fun ρ X a w rr => ?_
      obtain ⟨x1, hx1, hv⟩ := evs_one rr hx
      obtain ⟨ad, cap, hval⟩ := lenOf_sound rr.hr hn hv
      refine ⟨_, hl a w n ?_, .c _ _ (.int _ _)⟩
      simp [Builtin.len_, ht0, hx1, run_underlying hu, hval]
    · cases hK
  · rename_i t u s x ht he
    cases hb : Nat.beq t u with
    | true =>
      rw [hb, cond_true] at hK
      exact two .append Builtin.append_ (fun _ _ _ _ => rfl) hc s x t u he ht (beq_true hb) (append_sound hK)
    | false =>
      rw [hb, cond_false] at hK
      exact two' .append Builtin.append_ (fun _ _ _ _ => rfl) hc s x t u he ht (appendZ_sound hK)
  · rename_i t u s x ht he
    replace hK := cond_some hK
    obtain ⟨hb, hK⟩ := hK
    exact two .copy Builtin.copy_ (fun _ _ _ _ => rfl) hc s x t u he ht (beq_true hb) (copy_sound hK)
  · -- cap
    rename_i t _ sz ht hx
    have ht0 := toList_one ht
    split at hK
    · rename_i e hu
      refine .pure hK fun ρ X a w rr => ?_
      obtain ⟨x1, hx1, hv⟩ := evs_one rr hx
      generalize hvx : a.eval x1 = vx at hv
      cases hv with
      | nil _ h0 =>
        have hcap : (Builtin.cap_ c.argTypes o.type (c.args.map a.eval)).run cx.P w = .ok (goInt (0 : Nat)) w := by simp [Builtin.cap_, ht0, hx1, hvx, run_underlying hu]
        exact ⟨goInt (0 : Nat), run_builtin_op ho hc (by simp [builtin, hcap]), .c _ _ (.int _ _)⟩
    · cases hK
  · -- clear
    rename_i t d ht hx
    obtain ⟨sv, h', hK, hpost⟩ := clear_sound hK
    refine ⟨sv, h', hK, fun ρ X a w rr => ?_⟩
    obtain ⟨x1, hx1, hv⟩ := evs_one rr hx
    obtain ⟨v', w', q1, q2⟩ := hpost ρ X w (a.eval x1) o.type rr.hr hv
    refine .value (w' := w') (run_builtin_op ho hc ?_) q2
    have ht' : c.argTypes = #[t] := by apply Array.ext'; simpa using ht
    simp [builtin, hx1, ht', q1]
  · rename_i k x0 rest he
    replace hK := bind_some' hK
    obtain ⟨v, hv, hK⟩ := hK
    refine .pure hK fun ρ X a w rr => ?_
    obtain ⟨h1, h2⟩ := evs_sound rr c.argTypes.toList c.args.toList
    rw [he] at h1 h2
    cases hxs : c.args.toList with
    | nil => rw [hxs] at h1; simp at h1
    | cons y ys =>
      rw [hxs] at h1 h2
      obtain ⟨y', hy, hv0⟩ := h2 0 (.c (.int k x0)) (by simp)
      simp at hy
      subst hy
      obtain ⟨n, rfl, hrun⟩ := foldInt_sound (h := h) (P := cx.P) (w := w) (g := Builtin.min2) (fun k k' x y => by simp [Builtin.min2]) rest (ys.map a.eval) k x0 v ρ (Mut ρ X h) (by simpa using h1.symm) (fun j s hs => by
        obtain ⟨u, hu, hv⟩ := h2 (j + 1) s (by simpa using hs)
        simp at hu
        exact ⟨a.eval u, by simp [hu], hv⟩) hv
      refine ⟨_, run_builtin_op ho hc ?_, .c _ _ (.int _ _)⟩
      have ea : List.map a.eval c.args.toList = .int k x0 :: ys.map a.eval := by rw [hxs, List.map_cons, hv0.int_inv]
      simp [builtin, Builtin.min_, ea, hrun]
  · rename_i k x0 rest he
    replace hK := bind_some' hK
    obtain ⟨v, hv, hK⟩ := hK
    refine .pure hK fun ρ X a w rr => ?_
    obtain ⟨h1, h2⟩ := evs_sound rr c.argTypes.toList c.args.toList
    rw [he] at h1 h2
    cases hxs : c.args.toList with
    | nil => rw [hxs] at h1; simp at h1
    | cons y ys =>
      rw [hxs] at h1 h2
      obtain ⟨y', hy, hv0⟩ := h2 0 (.c (.int k x0)) (by simp)
      simp at hy
      subst hy
      obtain ⟨n, rfl, hrun⟩ := foldInt_sound (h := h) (P := cx.P) (w := w) (g := Builtin.max2) (fun k k' x y => by simp [Builtin.max2]) rest (ys.map a.eval) k x0 v ρ (Mut ρ X h) (by simpa using h1.symm) (fun j s hs => by
        obtain ⟨u, hu, hv⟩ := h2 (j + 1) s (by simpa using hs)
        simp at hu
        exact ⟨a.eval u, by simp [hu], hv⟩) hv
      refine ⟨_, run_builtin_op ho hc ?_, .c _ _ (.int _ _)⟩
      have ea : List.map a.eval c.args.toList = .int k x0 :: ys.map a.eval := by rw [hxs, List.map_cons, hv0.int_inv]
      simp [builtin, Builtin.max_, ea, hrun]
  · cases hK
end
end Go.Ab

namespace Go.Ab
open Go

/-- The contents of boxes that are handed on: blocks, contents, and all blocks that go with them. -/
def ContR (w : World) (M : Nat → Prop) : List Nat → List (List CV) → List Nat → Prop
  | [], [], B => B = []
  | b :: bs, c :: cs, B => (∃ (cur : Array Value) (ty : TypeId) (Bs : Nat → List Nat) (B2 : List Nat), w.heap[b]? = some (.cells cur ty (0, 0)) ∧ c.length ≤ cur.size ∧
      (∀ (j : Nat) (x : CV), c[j]? = some x → plain (cur.getD j undef) ∧ OR w M x (cur.getD j undef) (Bs j)) ∧ ContR w M bs cs B2 ∧ B = (b :: cat c.length Bs) ++ B2) ∨
      (∃ (fx : Loop) (ts : List Nat) (env : List CV) (bx : List Nat) (n : Nat) (s : Option Nat) (B2 : List Nat), c = [.rcd b fx ts env bx n s] ∧ w.heap[b]? = some (.loop (recOf fx s)) ∧ bx.length = n ∧ bs.take n = bx ∧ EnvR w M ts env bx fx.tmps ∧ ContR w M bs cs B2 ∧ B = b :: B2)
  | _, _, _ => False

theorem ContR.mono {w : World} {M M' : Nat → Prop} (hM : ∀ b, M' b → M b) : ∀ {bs : List Nat} {cs : List (List CV)} {B : List Nat}, ContR w M bs cs B → ContR w M' bs cs B
  | [], [], _, h => h
  | _ :: _, _ :: _, _, .inl ⟨cur, ty, Bs, B2, h1, h2, h3, h4, h5⟩ => .inl ⟨cur, ty, Bs, B2, h1, h2, fun j x hx => ⟨(h3 j x hx).1, (h3 j x hx).2.mono hM⟩, h4.mono hM, h5⟩
  | _ :: _, _ :: _, _, .inr ⟨fx, ts, env, bx, n, s, B2, h1, h2, h3, h3', h4, h5, h6⟩ => .inr ⟨fx, ts, env, bx, n, s, B2, h1, h2, h3, h3', h4.imp fun _ _ hx => hx.mono (Nat.le_refl _) (fun _ _ _ => rfl) (fun b _ => hM b), h5.mono hM, h6⟩
  | [], _ :: _, _, h => h.elim
  | _ :: _, [], _, h => h.elim

theorem ContR.len {w : World} {M : Nat → Prop} : ∀ {bs : List Nat} {cs : List (List CV)} {B : List Nat}, ContR w M bs cs B → bs.length = cs.length
  | [], [], _, _ => rfl
  | _ :: _, _ :: _, _, .inl ⟨_, _, _, _, _, _, _, h4, _⟩ => by simp [h4.len]
  | _ :: _, _ :: _, _, .inr ⟨_, _, _, _, _, _, _, _, _, _, _, _, h4, _⟩ => by simp [h4.len]
  | [], _ :: _, _, h => h.elim
  | _ :: _, [], _, h => h.elim

structure InR (w : World) (M : Nat → Prop) (args : List CV) (conts : List (List CV)) (vs : Array Value) (bs B : List Nat) : Prop where
  size : vs.size = args.length
  arg : ∀ (j : Nat) (x : CV), args[j]? = some x → ArgR w M bs x (vs.getD j undef)
  cont : ContR w M bs conts B
  nd : B.Nodup
  sub : ∀ b ∈ B, M b
  lt : ∀ b, M b → b < w.heap.size
  glob : GlobR w M

/-- What closed parts stay clear of, behind the call. -/
def MM (M : Nat → Prop) (B B' : List Nat) (b : Nat) : Prop := (M b ∧ b ∉ B) ∨ b ∈ B'

structure OutR (w : World) (M : Nat → Prop) (B bs : List Nat) (w' : World) (v : Value) (rv : CV) (conts : List (List CV)) (Br B2 : List Nat) : Prop where
  io : SameIO w w'
  size : w.heap.size ≤ w'.heap.size
  keep : ∀ b, b < w.heap.size → b ∉ B → w'.heap[b]? = w.heap[b]?
  new : ∀ b, b ∈ Br ++ B2 → b ∈ B ∨ w.heap.size ≤ b
  nd : (Br ++ B2).Nodup
  ret : OR w' (MM M B (Br ++ B2)) rv v Br
  cont : ContR w' (MM M B (Br ++ B2)) bs conts B2

/-- What a callee's text says is what the function does. -/
structure SoundC (P : Program) (f : FuncId) (g : Callee) : Prop where
  enter : ∃ fn, P.funcs[f]? = some fn ∧ (fn.name == "runtime.NumGoroutine") = false ∧ fn.body.isNone = false
  calls : ∀ (args : List CV) (conts : List (List CV)) (β : Type) (K : CV → List (List CV) → Option β) (r : β), g.run args conts β K = some r → ∃ rv co, K rv co = some r ∧
    ∀ w M vs bs B, InR w M args conts vs bs B → Calls P f vs w fun e w' => ∃ v Br B2, e = .returned v ∧ OutR w M B bs w' v rv co Br B2

section
variable {β : Type} {cx : Cx} {o : Oper} {st : St} {h : H} {r : β} {K : SV → H → Option β}

theorem TK.dead {ρ : Env} {X : Nat → Prop} {h h' : H} {w : World} {B : List Nat} (t : TK ρ X h w h' B) {i : Nat} (hd : getH h i = .dead) : getH h' i = .dead := by
  cases hg : getH h' i with
  | dead => rfl
  | cells fr cs =>
    have := t.bo i (ρ.blk i) (by rw [hg]; rfl)
    rw [hd] at this
    cases this
  | rc l fx ts env bs n s =>
    have := t.bo i l (by rw [hg]; rfl)
    rw [hd] at this
    cases this
  | mp fr ks =>
    have := t.bo i (ρ.blk i) (by rw [hg]; rfl)
    rw [hd] at this
    cases this
  | acc ver fr sz l =>
    have hi : i < h.length := by rw [← t.len]; exact getH_lt (by rw [hg]; simp)
    obtain ⟨_, _, _, _, h1, _⟩ := t.ext.accs i hi ver fr sz l hg
    rw [hd] at h1
    cases h1

theorem argsIn_sound {ρ : Env} {X : Nat → Prop} {w : World} : ∀ (ss : List SV) (k : Nat) (h : H) (args : List CV) (is : List Nat) (h' : H) (us : Nat → Value), HR ρ X h w →
    (∀ (j : Nat) (s : SV), ss[j]? = some s → VR ρ h w (Mut ρ X h) s (us j)) → argsIn ss k h = some (args, is, h') →
    args.length = ss.length ∧ TK ρ X h w h' [] ∧ ∀ (j : Nat) (x : CV), args[j]? = some x →
      (∃ m i, x = .ref (k + m) ∧ is[m]? = some i ∧ us j = .pointer (some ⟨ρ.blk i, 0, none⟩)) ∨ CR w (Mut ρ X h') x (us j)
  | [], k, h, args, is, h', us, hr, _, ha => by
    simp only [argsIn, Option.some.injEq, Prod.mk.injEq] at ha
    obtain ⟨rfl, rfl, rfl⟩ := ha
    exact ⟨rfl, TK.refl hr, fun j x hx => by simp at hx⟩
  | s :: ss, k, h, args, is, h', us, hr, hv, ha => by
    have closed : ((close s h).bind fun x => (argsIn ss k x.2).bind fun t => some (x.1 :: t.1, t.2.1, t.2.2)) = some (args, is, h') →
        args.length = (s :: ss).length ∧ TK ρ X h w h' [] ∧ ∀ (j : Nat) (x : CV), args[j]? = some x →
          (∃ m i, x = .ref (k + m) ∧ is[m]? = some i ∧ us j = .pointer (some ⟨ρ.blk i, 0, none⟩)) ∨ CR w (Mut ρ X h') x (us j) := fun ha => by
      replace ha := bind_some' ha
      obtain ⟨⟨x1, h1⟩, hc, ha⟩ := ha
      replace ha := bind_some' ha
      obtain ⟨⟨as, is1, h2⟩, ha1, ha⟩ := ha
      simp only [Option.some.injEq, Prod.mk.injEq] at ha
      obtain ⟨rfl, rfl, rfl⟩ := ha
      obtain ⟨t1, c1⟩ := close_takeOK hr (hv 0 s (by simp)) hc
      obtain ⟨hl, t2, g2⟩ := argsIn_sound ss k h1 as is1 h2 (fun j => us (j + 1)) t1.hr' (fun j y hy => t1.ext'.vr (hv (j + 1) y (by simpa using hy))) ha1
      refine ⟨by simp [hl], ?_, fun j x hx => ?_⟩
      · have t2' : TK ρ (XB X []) h1 w h2 [] := by rw [XB_nil]; exact t2
        exact t1.trans t2'
      · cases j with
        | zero =>
          simp at hx
          subst hx
          exact .inr (t2.ext'.cr c1)
        | succ j =>
          simp at hx
          exact g2 j x hx
    cases s with
    | ptr i off =>
      simp only [argsIn] at ha
      split at ha
      · rename_i cs hg
        replace ha := bind_some' ha
        obtain ⟨⟨as, is1, h2⟩, ha1, ha⟩ := ha
        simp only [Option.some.injEq, Prod.mk.injEq] at ha
        obtain ⟨rfl, rfl, rfl⟩ := ha
        obtain ⟨hl, t2, g2⟩ := argsIn_sound ss (k + 1) h as is1 h2 (fun j => us (j + 1)) hr (fun j y hy => hv (j + 1) y (by simpa using hy)) ha1
        refine ⟨by simp [hl], t2, fun j x hx => ?_⟩
        cases j with
        | zero =>
          simp at hx
          subst hx
          have hv0 := hv 0 (.ptr i 0) (by simp)
          cases hv0 with
          | ptr _ _ v hpl hi hq => exact .inl ⟨0, i, by simp, by simp, hq⟩
        | succ j =>
          simp at hx
          rcases g2 j x hx with ⟨m, i', h1, h2, h3⟩ | h1
          · exact .inl ⟨m + 1, i', by rw [h1]; congr 1; omega, by simpa using h2, h3⟩
          · exact .inr h1
      · exact closed ha
    | any => exact closed ha
    | c v => exact closed ha
    | nil sz => exact closed ha
    | acc i ver => exact closed ha
    | sub i ver lo n => exact closed ha
    | ept i ver ix off => exact closed ha
    | apt i off n sz len => exact closed ha
    | agg cs => exact closed ha
    | tup vs => exact closed ha
    | fn f a b => exact closed ha
    | mp i => exact closed ha

theorem cond_true_of {b c : Bool} (h : (bif b then c else false) = true) : b = true ∧ c = true := by
  cases b with
  | true => exact ⟨rfl, h⟩
  | false => cases h

theorem preN_take : ∀ {i n : Nat} {r : List Nat}, preN i n r = true → r.take n = List.range' i n
  | _, 0, _, _ => by simp
  | i, n + 1, j :: r, h => by
    simp only [preN] at h
    replace h := cond_true_of h
    obtain ⟨hb, h⟩ := h
    have := beq_true hb
    subst this
    rw [List.take_succ_cons, preN_take h, List.range'_succ]
  | _, _ + 1, [], h => by simp [preN] at h

theorem contsOut_sound {ρ : Env} {w : World} : ∀ (is : List Nat) (X : Nat → Prop) (h : H) (cs : List (List CV)) (h' : H), HR ρ X h w → contsOut is h = some (cs, h') →
    ∃ B, TK ρ X h w h' B ∧ ContR w (Mut ρ (XB X B) h') (is.map ρ.blk) cs B ∧ is.Nodup ∧ (∀ i ∈ is, i < h.length ∧ getH h i ≠ .dead ∧ getH h' i = .dead)
  | [], X, h, cs, h', hr, hc => by
    simp only [contsOut, Option.some.injEq, Prod.mk.injEq] at hc
    obtain ⟨rfl, rfl⟩ := hc
    exact ⟨[], TK.refl hr, rfl, by simp, by simp⟩
  | i :: is, X, h, cs, h', hr, hc => by
    simp only [contsOut] at hc
    split at hc
    · rename_i l hg
      replace hc := bind_some' hc
      obtain ⟨⟨xs, h1⟩, hx, hc⟩ := hc
      replace hc := bind_some' hc
      obtain ⟨⟨cs1, h2⟩, hc1, hc⟩ := hc
      simp only [Option.some.injEq, Prod.mk.injEq] at hc
      obtain ⟨rfl, rfl⟩ := hc
      dsimp only at hc1
      have hi : i < h.length := getH_lt (by rw [hg]; simp)
      have hbx := hr.box i
      rw [hg] at hbx
      obtain ⟨cur, ty, g1, g2, g3⟩ := hbx
      have t0 := TK.kill hr (i := i) (B := [ρ.blk i]) (by rw [hg]; rfl) (fun b => by rw [hg]; simp [bOf, eq_comm]) (by simp)
      obtain ⟨Bs, hl, t1, o1⟩ := seq_sound (take_sound (w := w) (ρ := ρ) depth) l _ _ xs h1 (fun j => cur.getD j undef) t0.hr (fun j s hs => by
        obtain ⟨u, hu, _, hv⟩ := g3 j s hs
        have := t0.vr hv
        simpa [hu] using this) hx
      have t01 := t0.trans t1
      obtain ⟨B2, t2, c2, hn, hd⟩ := contsOut_sound is _ h1 cs1 h2 t01.hr hc1
      have t := t01.trans t2
      have hdead : getH h2 i = .dead := t2.dead (t1.dead (getH_setH_same _ hi))
      refine ⟨_, t, .inl ⟨cur, ty, Bs, B2, g1, by omega, fun j x hx => ⟨?_, ?_⟩, ?_, rfl⟩, ?_, ?_⟩
      · have hj : j < l.length := by rw [← hl]; exact (List.getElem?_eq_some_iff.1 hx).1
        obtain ⟨u, hu, hp, _⟩ := g3 j l[j] (by simp [hj])
        simpa [hu] using hp
      · have o2 := o1 j x hx
        rw [XB_append] at o2
        exact o2.mono fun b hb => by
          rw [← XB_append] at hb
          exact t2.mut hb
      · rw [← XB_append]
        exact c2
      · refine List.nodup_cons.2 ⟨fun hm => ?_, hn⟩
        obtain ⟨_, hlv, _⟩ := hd i hm
        exact hlv (t1.dead (getH_setH_same _ hi))
      · intro j hj
        rcases List.mem_cons.1 hj with rfl | hj
        · exact ⟨hi, by rw [hg]; simp, hdead⟩
        · obtain ⟨q1, q2, q3⟩ := hd j hj
          exact ⟨by rw [← t01.len]; exact q1, fun hdd => q2 (t01.dead hdd), q3⟩
    · rename_i l fx ts env bx n q hg
      replace hc := cond_some hc
      obtain ⟨hpre, hc⟩ := hc
      replace hc := bind_some' hc
      obtain ⟨⟨cs1, h2⟩, hc1, hc⟩ := hc
      simp only [Option.some.injEq, Prod.mk.injEq] at hc
      obtain ⟨rfl, rfl⟩ := hc
      have hi : i < h.length := getH_lt (by rw [hg]; simp)
      have hbx := hr.box i
      rw [hg] at hbx
      obtain ⟨g0, g1, g2, _, g4, g5⟩ := hbx
      have t0 := TK.kill hr (i := i) (B := [ρ.blk i]) (by rw [hg]; rfl) (fun b => by rw [hg, g0]; simp [bOf, eq_comm]) (by simp)
      obtain ⟨B2, t2, c2, hn, hd⟩ := contsOut_sound is _ _ cs1 h2 t0.hr hc1
      have t := t0.trans t2
      have hdead : getH h2 i = .dead := t2.dead (getH_setH_same _ hi)
      refine ⟨_, t, .inr ⟨fx, ts, env, bx, n, q, B2, by rw [g0], by rw [g0]; exact g1, g2, ?_, g5.imp fun x v hx => t.cr hx, ?_, rfl⟩, ?_, ?_⟩
      · rw [← List.map_take, preN_take hpre]
        apply List.ext_getElem?
        intro j
        simp only [List.getElem?_map]
        by_cases hj : j < n
        · rw [List.getElem?_range' hj, List.getElem?_eq_getElem (by omega : j < bx.length)]
          obtain ⟨_, h4⟩ := g4 j bx[j] (by simp [show j < bx.length by omega])
          simpa using h4
        · rw [List.getElem?_eq_none (by simp; omega), List.getElem?_eq_none (by omega)]
          rfl
      · rw [← XB_append]
        exact c2
      · refine List.nodup_cons.2 ⟨fun hm => ?_, hn⟩
        obtain ⟨_, hlv, _⟩ := hd i hm
        exact hlv (getH_setH_same _ hi)
      · intro j hj
        rcases List.mem_cons.1 hj with rfl | hj
        · exact ⟨hi, by rw [hg]; simp, hdead⟩
        · obtain ⟨q1, q2, q3⟩ := hd j hj
          exact ⟨by rw [← t0.len]; exact q1, fun hdd => q2 (t0.dead hdd), q3⟩
    · cases hc

/-- Contents come in. -/
structure IC (ρ : Env) (X : Nat → Prop) (h : H) (w : World) (M : Nat → Prop) (ρ' : Env) (h' : H) (I B : List Nat) : Prop where
  hr : HRM ρ' X h' w M
  ext : HExt ρ h ρ' h'
  agree : ∀ i, i < h.length → ρ'.cur i = ρ.cur i ∧ ρ'.blk i = ρ.blk i
  same : ∀ i, i < h.length → i ∉ I → getH h' i = getH h i
  new : ∀ i b, bOf ρ' i (getH h' i) = some b → (getH h' i = getH h i ∧ bOf ρ i (getH h i) = some b) ∨ b ∈ B
  ab : ρ'.base = ρ.base

theorem IM.toIC {ρ ρ' : Env} {X : Nat → Prop} {h h' : H} {w : World} {M : Nat → Prop} {B : List Nat} (m : IM ρ X h w M ρ' h' B) : IC ρ X h w M ρ' h' [] B := by
  have hs : ∀ i, i < h.length → getH h' i = getH h i := fun i hi => by
    obtain ⟨t, rfl⟩ := m.pre
    exact getH_append_lt _ hi
  exact ⟨m.hr, m.ext, m.agree, fun i hi _ => hs i hi, fun i b hb => (m.new i b hb).imp (fun ⟨hi, h⟩ => ⟨hs i hi, h⟩) (·.2), m.ab⟩

theorem IC.trans {ρ ρ' ρ'' : Env} {X : Nat → Prop} {h h' h'' : H} {w : World} {M : Nat → Prop} {I J B C : List Nat} (a : IC ρ X h w M ρ' h' I B) (b : IC ρ' X h' w M ρ'' h'' J C) : IC ρ X h w M ρ'' h'' (I ++ J) (B ++ C) where
  hr := b.hr
  ext := a.ext.trans b.ext
  agree := fun i hi => by
    have h1 := b.agree i (Nat.lt_of_lt_of_le hi a.ext.len)
    have h2 := a.agree i hi
    exact ⟨h1.1.trans h2.1, h1.2.trans h2.2⟩
  ab := b.ab.trans a.ab
  same := fun i hi hn => by
    rw [b.same i (Nat.lt_of_lt_of_le hi a.ext.len) (fun hm => hn (List.mem_append_right _ hm)), a.same i hi (fun hm => hn (List.mem_append_left _ hm))]
  new := fun i k hk => by
    rcases b.new i k hk with ⟨h1, h2⟩ | h1
    · rcases a.new i k h2 with ⟨h3, h4⟩ | h3
      · exact .inl ⟨h1.trans h3, h4⟩
      · exact .inr (List.mem_append_left _ h3)
    · exact .inr (List.mem_append_right _ h1)

theorem IC.refl {ρ : Env} {X : Nat → Prop} {h : H} {w : World} {M : Nat → Prop} (hr : HRM ρ X h w M) : IC ρ X h w M ρ h [] [] :=
  ⟨hr, HExt.refl ρ h, fun _ _ => ⟨rfl, rfl⟩, fun _ _ _ => rfl, fun _ _ hb => .inl ⟨rfl, hb⟩, rfl⟩

theorem MayIn.rightC {ρ ρ' : Env} {X : Nat → Prop} {h h' : H} {w : World} {M : Nat → Prop} {I B C : List Nat} (m : MayIn ρ X h M (B ++ C)) (i : IC ρ X h w M ρ' h' I B) : MayIn ρ' X h' M C where
  nd := (List.nodup_append.1 m.nd).2.1
  m := fun b hb => m.m b (List.mem_append.2 (.inr hb))
  x := fun b hb => m.x b (List.mem_append.2 (.inr hb))
  no := fun b hb k hk => by
    rcases i.new k b hk with ⟨_, h1⟩ | h1
    · exact m.no b (List.mem_append.2 (.inr hb)) k h1
    · exact (List.nodup_append.1 m.nd).2.2 b h1 b hb rfl

/-- A dead box gets its block again. -/
theorem IC.setB {ρ : Env} {X : Nat → Prop} {h : H} {w : World} {M : Nat → Prop} (hr : HRM ρ X h w M) {i : Nat} (hi : i < h.length) (_hd : getH h i = .dead) (hm : MayIn ρ X h M [ρ.blk i]) {bx : Box} (hbo : ∀ b, bOf ρ i bx = some b ↔ b = ρ.blk i) (hna : ∀ ver fr sz l, bx ≠ .acc ver fr sz l) (hbx : HExt ρ h ρ (setH h i bx) → BR ρ (setH h i bx) w M i bx) :
    IC ρ X h w M ρ (setH h i bx) [i] [ρ.blk i] := by
  have hx : HExt ρ h ρ (setH h i bx) := ⟨by simp, fun j hj ver fr sz l hh => by
    by_cases hij : i = j
    · subst hij; rw [getH_setH_same _ hj] at hh; exact absurd hh (hna ver fr sz l)
    · rw [getH_setH_ne _ hij] at hh
      exact ⟨ver, fr, sz, l, hh, .inr ⟨rfl, rfl, rfl, rfl⟩⟩, fun _ _ => rfl, rfl⟩
  have hnew : ∀ j b, bOf ρ j (getH (setH h i bx) j) = some b → (i ≠ j ∧ getH (setH h i bx) j = getH h j ∧ bOf ρ j (getH h j) = some b) ∨ (i = j ∧ b = ρ.blk i) := fun j b hb => by
    by_cases hij : i = j
    · subst hij
      rw [getH_setH_same _ hi] at hb
      exact .inr ⟨rfl, (hbo b).1 hb⟩
    · have := getH_setH_ne (h := h) bx hij
      rw [this] at hb
      exact .inl ⟨hij, this, hb⟩
  refine ⟨⟨fun j => ?_, fun a c b ha hc => ?_, fun a b ha => ?_, fun b hb => ?_, hr.glob⟩, hx, fun _ _ => ⟨rfl, rfl⟩, fun j hj hn => getH_setH_ne _ (fun e => hn (by simp [e])), fun j b hb => ?_, rfl⟩
  · by_cases hij : i = j
    · subst hij
      rw [getH_setH_same _ hi]
      exact hbx hx
    · rw [getH_setH_ne _ hij]
      exact (hr.box j).mono' hx (fun _ _ h => h) (fun _ _ _ _ _ => rfl) (fun _ _ _ => rfl) (fun _ _ => rfl)
  · rcases hnew a b ha with ⟨_, _, h4⟩ | ⟨rfl, rfl⟩ <;> rcases hnew c _ hc with ⟨_, _, h5⟩ | ⟨rfl, h5⟩
    · exact hr.inj a c b h4 h5
    · subst h5; exact absurd h4 (hm.no _ (by simp) a)
    · exact absurd h5 (hm.no _ (by simp) c)
    · rfl
  · rcases hnew a b ha with ⟨_, _, h4⟩ | ⟨rfl, rfl⟩
    · exact hr.out a b h4
    · exact hm.x _ (by simp)
  · rcases hb with hb | ⟨j, h4, h5⟩
    · exact hr.sub b (.inl hb)
    · rcases hnew j b h5 with ⟨_, h6, h7⟩ | ⟨rfl, rfl⟩
      · exact hr.sub b (.inr ⟨j, by rw [← h6]; exact h4, h7⟩)
      · exact hm.m _ (by simp)
  · rcases hnew j b hb with ⟨_, h6, h7⟩ | ⟨rfl, rfl⟩
    · exact .inl ⟨h6, h7⟩
    · exact .inr (by simp)

theorem MayIn.perm {ρ : Env} {X : Nat → Prop} {h : H} {M : Nat → Prop} {B C : List Nat} (m : MayIn ρ X h M B) (hp : C.Perm B) : MayIn ρ X h M C :=
  ⟨hp.nodup_iff.2 m.nd, fun b hb => m.m b (hp.mem_iff.1 hb), fun b hb => m.x b (hp.mem_iff.1 hb), fun b hb => m.no b (hp.mem_iff.1 hb)⟩

theorem IC.set {ρ : Env} {X : Nat → Prop} {h : H} {w : World} {M : Nat → Prop} (hr : HRM ρ X h w M) {i : Nat} (hi : i < h.length) (hd : getH h i = .dead) (hm : MayIn ρ X h M [ρ.blk i]) {cs : List SV} {cur : Array Value} {ty : TypeId}
    (h1 : w.heap[ρ.blk i]? = some (.cells cur ty (0, 0))) (h2 : cs.length ≤ cur.size) (h3 : ∀ (j : Nat) (s : SV), cs[j]? = some s → plain (cur.getD j undef) ∧ VR ρ h w M s (cur.getD j undef)) :
    IC ρ X h w M ρ (setH h i (.cells false cs)) [i] [ρ.blk i] :=
  IC.setB hr hi hd hm (fun b => by simp [bOf, eq_comm]) (fun _ _ _ _ h => by cases h) fun hx => ⟨cur, ty, h1, h2, fun j s hs => by
    obtain ⟨hp, hv⟩ := h3 j s hs
    have hj : j < cur.size := Nat.lt_of_lt_of_le (List.getElem?_eq_some_iff.1 hs).1 h2
    exact ⟨cur[j], by simp [hj], by simpa [hj] using hp, by simpa [hj] using hv.mono hx (fun _ _ h => h)⟩⟩

/-- A dead box becomes a record. -/
theorem IC.setRc {ρ : Env} {X : Nat → Prop} {h : H} {w : World} {M : Nat → Prop} (hr : HRM ρ X h w M) {i : Nat} (hi : i < h.length) (hd : getH h i = .dead) (hm : MayIn ρ X h M [ρ.blk i]) {fx : Loop} {ts : List Nat} {env : List CV} {bx : List Nat} {n : Nat} {s : Option Nat}
    (h1 : w.heap[ρ.blk i]? = some (.loop (recOf fx s))) (h2 : bx.length = n) (h3 : ∀ (j b : Nat), bx[j]? = some b → i + 1 + j < h.length ∧ ρ.blk (i + 1 + j) = b) (h4 : EnvR w M ts env bx fx.tmps) :
    IC ρ X h w M ρ (setH h i (.rc (ρ.blk i) fx ts env bx n s)) [i] [ρ.blk i] :=
  IC.setB hr hi hd hm (fun b => by simp [bOf, eq_comm]) (fun _ _ _ _ h => by cases h) fun _ => ⟨rfl, h1, h2, by simpa using hi, fun j b hj => by
    obtain ⟨h5, h6⟩ := h3 j b hj
    exact ⟨by simpa using h5, h6⟩, h4⟩

theorem no_rcd {w : World} {M : Nat → Prop} {l : Nat} {fx : Loop} {ts : List Nat} {env : List CV} {bs : List Nat} {n : Nat} {q : Option Nat} {v : Value} {B : List Nat} : ¬ OR w M (.rcd l fx ts env bs n q) v B := fun h => by
  generalize hx : CV.rcd l fx ts env bs n q = x at h
  cases h with
  | c _ _ h => subst hx; cases h
  | ownN => cases hx
  | own => cases hx
  | box => cases hx
  | agg => cases hx
  | tup => cases hx
  | mpo => cases hx

theorem contsIn_sound {X : Nat → Prop} {w : World} {M : Nat → Prop} : ∀ (is : List Nat) (cs : List (List CV)) (ρ : Env) (h h' : H) (bs B : List Nat), HRM ρ X h w M → contsIn is cs h = some h' → (∀ i ∈ is, i < h.length ∧ getH h i = .dead) → is.Nodup →
    is.map ρ.blk = bs → ContR w M bs cs B → MayIn ρ X h M B → ∃ ρ', IC ρ X h w M ρ' h' is B
  | [], [], ρ, h, h', bs, B, hr, hc, _, _, hb, hco, _ => by
    simp only [contsIn, Option.some.injEq] at hc
    subst hc hb
    simp only [ContR, List.map_nil] at hco
    subst hco
    exact ⟨ρ, IC.refl hr⟩
  | i :: is, c :: cs, ρ, h, h', bs, B, hr, hc, hd, hn, hb, hco, hm => by
    subst hb
    simp only [contsIn] at hc
    rw [List.map_cons] at hco
    obtain ⟨hi, hdi⟩ := hd i (by simp)
    rcases hco with ⟨cur, ty, Bs, B2, h1, h2, h3, h4, rfl⟩ | ⟨fx, ts, env, bx, n, q, B2, rfl, h1, h2, h3, h5, h4, rfl⟩
    case inr =>
      simp only at hc
      replace hc := cond_some hc
      obtain ⟨hpre, hc⟩ := hc
      have htake := preN_take hpre
      have hm2 : MayIn ρ X h M ([ρ.blk i] ++ B2) := hm
      have hbl : ∀ (j b : Nat), bx[j]? = some b → i + 1 + j < h.length ∧ ρ.blk (i + 1 + j) = b := fun j b hj => by
        have hjn : j < n := by
          have := (List.getElem?_eq_some_iff.1 hj).1
          omega
        have e1 : is[j]? = some (i + 1 + j) := by
          have : (is.take n)[j]? = some (i + 1 + j) := by rw [htake, List.getElem?_range' hjn]; simp
          rwa [List.getElem?_take_of_lt hjn] at this
        refine ⟨(hd _ (by simp [List.mem_of_getElem? e1])).1, ?_⟩
        rw [← h3, List.getElem?_take_of_lt hjn, List.getElem?_map, e1] at hj
        simpa using hj
      have m2 := IC.setRc hr hi hdi hm2.left (fx := fx) (ts := ts) (env := env) (s := q) h1 h2 hbl h5
      have hag : ∀ k ∈ is, k < (setH h i (.rc (ρ.blk i) fx ts env bx n q)).length ∧ getH (setH h i (.rc (ρ.blk i) fx ts env bx n q)) k = .dead := fun k hk => by
        obtain ⟨hk1, hk2⟩ := hd k (by simp [hk])
        refine ⟨by simpa using hk1, ?_⟩
        rw [m2.same k hk1 (fun e => ?_)]
        · exact hk2
        · simp at e
          subst e
          exact (List.nodup_cons.1 hn).1 hk
      obtain ⟨ρ', m3⟩ := contsIn_sound is cs ρ _ h' (is.map ρ.blk) B2 m2.hr hc hag (List.nodup_cons.1 hn).2 rfl h4 (hm2.rightC m2)
      have m := m2.trans m3
      exact ⟨ρ', ⟨m.hr, m.ext, m.agree, fun k hk hkn => m.same k hk (by simpa using hkn), fun k b hb => (m.new k b hb).imp id fun hb => hb, m.ab⟩⟩
    replace hc : contsIn is cs (setH (imL (im depth) c h).2 i (.cells false (imL (im depth) c h).1)) = some h' := by
      split at hc
      · rename_i l fx ts env bs n q
        obtain ⟨_, ho⟩ := h3 0 _ rfl
        exact absurd ho no_rcd
      · exact hc
    have hperm : ((cat c.length Bs ++ [ρ.blk i]) ++ B2).Perm ((ρ.blk i :: cat c.length Bs) ++ B2) := by
      refine List.Perm.append_right _ ?_
      exact List.perm_append_comm.trans (by simp)
    have hm2 := hm.perm hperm
    obtain ⟨ρ1, m1, hl, hv⟩ := imL_sound (im_sound depth) c ρ h (fun j => cur.getD j undef) Bs hr (fun j x hx => (h3 j x hx).2) (hm2.left.left)
    have hi1 : i < (imL (im depth) c h).2.length := Nat.lt_of_lt_of_le hi m1.ext.len
    have hb1 : ρ1.blk i = ρ.blk i := (m1.agree i hi).2
    have hd1 : getH (imL (im depth) c h).2 i = .dead := by rw [m1.toIC.same i hi (by simp)]; exact hdi
    have m2 := IC.set m1.hr hi1 hd1 (by rw [hb1]; exact hm2.left.rightC m1.toIC) (by rw [hb1]; exact h1) (by rw [hl]; exact h2) (fun j s hs => by
      have hj : j < c.length := by rw [← hl]; exact (List.getElem?_eq_some_iff.1 hs).1
      exact ⟨(h3 j c[j] (by simp [hj])).1, hv j s hs⟩)
    rw [hb1] at m2
    have m12 := m1.toIC.trans m2
    rw [List.nil_append] at m12
    have hag : ∀ k ∈ is, k < (setH (imL (im depth) c h).2 i (.cells false (imL (im depth) c h).1)).length ∧ getH (setH (imL (im depth) c h).2 i (.cells false (imL (im depth) c h).1)) k = .dead := fun k hk => by
      obtain ⟨hk1, hk2⟩ := hd k (by simp [hk])
      refine ⟨Nat.lt_of_lt_of_le hk1 m12.ext.len, ?_⟩
      rw [m12.same k hk1 (fun e => ?_)]
      · exact hk2
      · simp at e
        subst e
        exact (List.nodup_cons.1 hn).1 hk
    have hmap : is.map ρ1.blk = is.map ρ.blk := List.map_congr_left fun k hk => (m1.agree k (hd k (by simp [hk])).1).2
    obtain ⟨ρ', m3⟩ := contsIn_sound is cs ρ1 _ h' (is.map ρ.blk) B2 m12.hr hc hag (List.nodup_cons.1 hn).2 hmap h4 (hm2.rightC m12)
    have m := m12.trans m3
    refine ⟨ρ', ⟨m.hr, m.ext, m.agree, fun k hk hkn => m.same k hk (by simpa using hkn), fun k b hb => (m.new k b hb).imp id fun hb => ?_, m.ab⟩⟩
    exact (hperm.mem_iff).1 hb
  | [], _ :: _, _, _, _, _, _, _, hc, _, _, _, _, _ => by simp [contsIn] at hc
  | _ :: _, [], _, _, _, _, _, _, hc, _, _, _, _, _ => by simp [contsIn] at hc
end
end Go.Ab

namespace Go.Ab
open Go

section
variable {β : Type} {cx : Cx} {o : Oper} {st : St} {h : H} {r : β} {K : SV → H → Option β}

def Enters (P : Program) (f : FuncId) : Prop := ∃ fn, P.funcs[f]? = some fn ∧ (fn.name == "runtime.NumGoroutine") = false ∧ fn.body.isNone = false

theorem run_callFunc {P : Program} {f : FuncId} (he : Enters P f) (args : Array Value) (w : World) : (callFunc f args).run P w = .ok (.enter f args) w := by
  obtain ⟨fn, h1, h2, h3⟩ := he
  have h2' : ¬ fn.name = "runtime.NumGoroutine" := by simpa using h2
  have h3' : ¬ fn.body = none := fun e => by rw [e] at h3; cases h3
  simp [callFunc, h1, h2', h3']

/-- Contents go out, and come in behind a call. -/
theorem pass_sound {ρ : Env} {X : Nat → Prop} {h h1 h2 : H} {w : World} {is : List Nat} {conts : List (List CV)} (hr : HR ρ X h w) (t1 : TK ρ X h w h1 []) (hco : contsOut is h1 = some (conts, h2)) :
    ∃ B, (∀ args vs, vs.size = args.length → (∀ (j : Nat) (x : CV), args[j]? = some x → (∃ m i, x = .ref m ∧ is[m]? = some i ∧ vs.getD j undef = .pointer (some ⟨ρ.blk i, 0, none⟩)) ∨ CR w (Mut ρ X h1) x (vs.getD j undef)) → InR w (Mut ρ (XB X B) h2) args conts vs (is.map ρ.blk) B) ∧
      (∀ b, Mut ρ (XB X B) h2 b → Mut ρ X h1 b) ∧ (∀ i ∈ is, i < h.length ∧ getH h2 i = .dead) ∧ (∀ b ∈ B, live ρ h b) ∧
      ∀ {rv : CV} {co : List (List CV)} {h' : H} {w' : World} {v : Value} {Br B2 : List Nat}, OutR w (Mut ρ (XB X B) h2) B (is.map ρ.blk) w' v rv co Br B2 → contsIn is co (im depth rv h2).2 = some h' → Post ρ X h w (im depth rv h2).1 h' v w' := by
    obtain ⟨B, t2, hcr, hnd, hdead⟩ := contsOut_sound is X h1 conts h2 t1.hr' hco
    have t1e := t1.ext'
    have t2m : ∀ b, Mut ρ (XB X B) h2 b → Mut ρ X h1 b := fun b hb => t2.mut hb
    have hXlt : ∀ b, X b → b < w.heap.size := hr.xlt
    have hBlt : ∀ b ∈ B, b < w.heap.size := fun b hb => t2.hr.xlt b (.inr hb)
    have hBX : ∀ b ∈ B, ¬ X b := fun b hb hx => by
      obtain ⟨i, _, h3⟩ := t2.bl b hb
      exact t1.hr'.out i b h3 hx
    refine ⟨B, fun args vs hsz hav => ⟨hsz, fun j x hx => ?_, hcr, t2.nd, fun b hb => .inl (.inr hb), fun b hb => ?_, t2.hr.glob⟩, t2m, fun i hi => ?_, fun b hb => t1.lv b (t2.bl b hb), fun {rv co h' w' v Br B2} out hin => ?_⟩
    · rcases hav j x hx with ⟨m, i, h3, h4, h5⟩ | h3
      · exact .inl ⟨m, ρ.blk i, h3, by simp [h4], h5⟩
      · exact .inr (h3.mono (Nat.le_refl _) (fun _ _ _ => rfl) (fun b _ => t2m b))
    · rcases hb with hb | ⟨i, _, h3⟩
      · exact t2.hr.xlt b hb
      · exact t2.hr.lt h3
    · obtain ⟨q1, _, q3⟩ := hdead i hi
      exact ⟨by rw [← t1.len]; exact q1, q3⟩
    -- the relation behind the call, ahead of what comes in
    have hM2 : ∀ b, Mut ρ X h2 b → MM (Mut ρ (XB X B) h2) B (Br ++ B2) b := fun b hb => by
      rcases hb with hb | hb
      · exact .inl ⟨.inl (.inl hb), fun hm => hBX b hm hb⟩
      · refine .inl ⟨.inr hb, fun hm => ?_⟩
        obtain ⟨i, _, h3⟩ := hb
        exact t2.hr.out i b h3 (.inr hm)
    have hcrm : ∀ x u, CR w (Mut ρ (XB X B) h2) x u → CR w' (MM (Mut ρ (XB X B) h2) B (Br ++ B2)) x u := fun x u hx =>
      hx.mono out.size (fun b hb hn => out.keep b hb fun hm => hn (.inl (.inr hm))) (fun b hb hm => by
        rcases hm with ⟨hm, _⟩ | hm
        · exact hm
        · rcases out.new b hm with hm | hm
          · exact .inl (.inr hm)
          · omega)
    have hrm : HRM ρ X h2 w' (MM (Mut ρ (XB X B) h2) B (Br ++ B2)) := by
      refine ⟨fun i => ?_, t2.hr.inj, fun i b hb hx => t2.hr.out i b hb (.inl hx), hM2, fun g cs hg => hcrm _ _ (t2.hr.glob g cs hg)⟩
      refine (t2.hr.box i).mono' (HExt.refl ρ h2) hcrm (fun _ _ _ _ _ => rfl) (fun _ _ _ => rfl) fun b hb => ?_
      exact out.keep b (t2.hr.lt hb) fun hm => t2.hr.out i b hb (.inr hm)
    have hmay : MayIn ρ X h2 (MM (Mut ρ (XB X B) h2) B (Br ++ B2)) (Br ++ B2) := by
      refine ⟨out.nd, fun b hb => .inr hb, fun b hb hx => ?_, fun b hb i hi => ?_⟩
      · rcases out.new b hb with hm | hm
        · exact hBX b hm hx
        · have := hXlt b hx; omega
      · rcases out.new b hb with hm | hm
        · exact t2.hr.out i b hi (.inr hm)
        · have := t2.hr.lt hi; omega
    obtain ⟨ρ1, m1, hvr⟩ := im_sound depth ρ h2 rv v Br hrm out.ret hmay.left
    have hd1 : ∀ i ∈ is, i < (im depth rv h2).2.length ∧ getH (im depth rv h2).2 i = .dead := fun i hi => by
      obtain ⟨q1, _, q3⟩ := hdead i hi
      have q4 : i < h2.length := by rw [t2.len]; exact q1
      exact ⟨Nat.lt_of_lt_of_le q4 m1.ext.len, by rw [m1.toIC.same i q4 (by simp)]; exact q3⟩
    have hmap : is.map ρ1.blk = is.map ρ.blk := List.map_congr_left fun i hi => (m1.agree i (by rw [t2.len]; exact (hdead i hi).1)).2
    obtain ⟨ρ', m2⟩ := contsIn_sound is co ρ1 _ h' _ B2 m1.hr hin hd1 hnd hmap out.cont (hmay.rightC m1.toIC)
    have m := m1.toIC.trans m2
    rw [List.nil_append] at m
    have hr' : HR ρ' X h' w' := m.hr.toHR fun b hb => Nat.lt_of_lt_of_le (hXlt b hb) out.size
    refine ⟨ρ', hr', ?_, ?_⟩
    · exact hvr.mono m2.ext fun x u hx => hx.mono (Nat.le_refl _) (fun _ _ _ => rfl) (fun b _ hb => m.hr.sub b hb)
    · refine ⟨(t1e.toHExt.trans t2.ext).trans m.ext, out.size, fun b hb hl => ?_, fun b hb hl => ?_, ?_⟩
      · exact out.keep b hb fun hm => hl (t1.lv b (t2.bl b hm))
      · obtain ⟨i, h3, h4⟩ := hl
        rcases m.new i b h4 with ⟨h5, h6⟩ | h5
        · exact t1.lv b (t2.lv b ⟨i, by rw [← h5]; exact h3, h6⟩)
        · rcases out.new b h5 with h6 | h6
          · exact t1.lv b (t2.bl b h6)
          · omega
      · exact out.io

/-- What a call that is gone into does. -/
structure SoundN (P : Program) (f : FuncId) (n : Inl) : Prop where
  enter : Enters P f
  calls : ∀ (ss : List SV) (h : H) (β : Type) (K : SV → H → Option β) (r : β), n.run ss h β K = some r → ∃ sv h', K sv h' = some r ∧
    ∀ ρ X w vs, HR ρ X h w → vs.size = ss.length → (∀ (j : Nat) (s : SV), ss[j]? = some s → VR ρ h w (Mut ρ X h) s (vs.getD j undef)) → Calls P f vs w fun e w' => ∃ v, e = .returned v ∧ Post ρ X h w sv h' v w'

theorem flat_sound {ρ : Env} {h : H} {w w' : World} {M M' : Nat → Prop} : ∀ (n : Nat) (x : CV) (v : Value) (B : List Nat), flatV n x = true → OR w' M' x v B → VR ρ h w M (flatS n x) v
  | 0, _, _, _, hf, _ => by cases hf
  | n + 1, x, v, B, hf, ho => by
    have each : ∀ (cs : List CV) (a : Array Value), cs.all (flatV n) = true → (∀ (j : Nat) (x : CV), cs[j]? = some x → ∃ B, OR w' M' x (a.getD j undef) B) → ∀ (j : Nat) (x : SV), (cs.map (flatS n))[j]? = some x → VR ρ h w M x (a.getD j undef) := fun cs a hall hr j x hx => by
      rw [List.getElem?_map, Option.map_eq_some_iff] at hx
      obtain ⟨y, hy, rfl⟩ := hx
      obtain ⟨B, hB⟩ := hr j y hy
      exact flat_sound n y _ B (List.all_eq_true.1 hall y (List.mem_of_getElem? hy)) hB
    cases x with
    | int k m => cases ho with | c _ _ hx => cases hx; exact .c _ _ (.int _ _)
    | bool b => cases ho with | c _ _ hx => cases hx; exact .c _ _ (.bool _)
    | tup cs =>
      cases ho with
      | c _ _ hx =>
        cases hx with
        | tup _ a hs hr => exact .tup _ _ (by simpa using hs) (each cs a hf fun j x hx => ⟨[], .c _ _ (hr j x hx)⟩)
      | tup _ a Bs hs hr => exact .tup _ _ (by simpa using hs) (each cs a hf fun j x hx => ⟨_, hr j x hx⟩)
    | agg cs =>
      have pl : ∀ (a : Array Value), (∀ (j : Nat) (x : CV), cs[j]? = some x → plain (a.getD j undef)) → ∀ (j : Nat) (x : SV), (cs.map (flatS n))[j]? = some x → plain (a.getD j undef) := fun a hp j x hx => by
        rw [List.getElem?_map, Option.map_eq_some_iff] at hx
        obtain ⟨y, hy, rfl⟩ := hx
        exact hp j y hy
      cases ho with
      | c _ _ hx =>
        cases hx with
        | agg _ a hs hp hr => exact .agg _ _ (by simpa using hs) (pl a hp) (each cs a hf fun j x hx => ⟨[], .c _ _ (hr j x hx)⟩)
      | agg _ a Bs hs hp hr => exact .agg _ _ (by simpa using hs) (pl a hp) (each cs a hf fun j x hx => ⟨_, hr j x hx⟩)
    | _ => cases hf

theorem callG_sound {f : FuncId} {g : Callee} (hs : SoundC cx.P f g) {ss : List SV} (hK : callG cx g ss h K = some r) :
    ∃ sv h', K sv h' = some r ∧ ∀ ρ X w vs, HR ρ X h w → vs.size = ss.length → (∀ (j : Nat) (s : SV), ss[j]? = some s → VR ρ h w (Mut ρ X h) s (vs.getD j undef)) →
      Calls cx.P f vs w fun e w' => ∃ v, e = .returned v ∧ Post ρ X h w sv h' v w' := by
  unfold callG at hK
  replace hK := bind_some' hK
  obtain ⟨⟨args, is, h1⟩, ha, hK⟩ := hK
  replace hK := bind_some' hK
  obtain ⟨⟨conts, h2⟩, hco, hK⟩ := hK
  dsimp only at hK hco
  replace hK := hs.calls _ _ _ _ _ hK
  obtain ⟨rv, co, hK, hcalls⟩ := hK
  cases hbor : cx.bor && is.isEmpty && flatV 4 rv with
  | true =>
    rw [hbor, cond_true] at hK
    simp only [Bool.and_eq_true, List.isEmpty_iff] at hbor
    obtain ⟨⟨_, rfl⟩, hflat⟩ := hbor
    simp only [contsOut, Option.some.injEq, Prod.mk.injEq] at hco
    obtain ⟨rfl, rfl⟩ := hco
    refine ⟨_, _, hK, fun ρ X w vs hr hsz hv => ?_⟩
    obtain ⟨hal, t1, hav⟩ := argsIn_sound ss 0 h args [] h1 (fun j => vs.getD j undef) hr hv ha
    have hin1 : InR w (Mut ρ X h1) args [] vs [] [] := by
      refine ⟨by rw [hsz, hal], fun j x hx => ?_, rfl, .nil, fun b hb => (by cases hb), fun b hb => ?_, t1.hr'.glob⟩
      · rcases hav j x hx with ⟨m, i, h3, h4, h5⟩ | h3
        · simp at h4
        · exact .inr h3
      · rcases hb with hb | ⟨i, _, h3⟩
        · exact t1.hr'.xlt b hb
        · exact t1.hr'.lt h3
    refine (hcalls w _ vs [] [] hin1).mono fun e w' he => ?_
    obtain ⟨v, Br, B2, rfl, out⟩ := he
    refine ⟨v, rfl, ρ, ?_, flat_sound 4 rv v Br hflat out.ret, ⟨HExt.refl ρ h, out.size, fun b hb _ => out.keep b hb (by simp), fun _ _ hl => hl, out.io⟩⟩
    have ee : Ext ρ h w ρ h w' := ⟨HExt.refl ρ h, out.size, fun b hb _ => out.keep b hb (by simp), fun _ _ hl => hl, out.io⟩
    have hcr : ∀ x u, CR w (Mut ρ X h) x u → CR w' (Mut ρ X h) x u := fun x u hx => ee.cr hx
    exact ⟨fun i => (hr.box i).mono' (HExt.refl ρ h) hcr (fun _ _ _ _ _ => rfl) (fun _ _ _ => rfl) fun b hb => out.keep b (hr.lt hb) (by simp), hr.inj, hr.out, fun b hb => Nat.lt_of_lt_of_le (hr.xlt b hb) out.size, ee.glob hr.glob⟩
  | false =>
    rw [hbor, cond_false] at hK
    replace hK := bind_some' hK
    obtain ⟨h', hin, hK⟩ := hK
    refine ⟨_, _, hK, fun ρ X w vs hr hsz hv => ?_⟩
    obtain ⟨hal, t1, hav⟩ := argsIn_sound ss 0 h args is h1 (fun j => vs.getD j undef) hr hv ha
    obtain ⟨B, t2, hcr, hnd, hdead⟩ := contsOut_sound is X h1 conts h2 t1.hr' hco
    have t1e := t1.ext'
    have t2m : ∀ b, Mut ρ (XB X B) h2 b → Mut ρ X h1 b := fun b hb => t2.mut hb
    have hXlt : ∀ b, X b → b < w.heap.size := hr.xlt
    have hBlt : ∀ b ∈ B, b < w.heap.size := fun b hb => t2.hr.xlt b (.inr hb)
    have hBX : ∀ b ∈ B, ¬ X b := fun b hb hx => by
      obtain ⟨i, _, h3⟩ := t2.bl b hb
      exact t1.hr'.out i b h3 hx
    have hin1 : InR w (Mut ρ (XB X B) h2) args conts vs (is.map ρ.blk) B := by
      refine ⟨by rw [hsz, hal], fun j x hx => ?_, hcr, t2.nd, fun b hb => .inl (.inr hb), fun b hb => ?_, t2.hr.glob⟩
      · rcases hav j x hx with ⟨m, i, h3, h4, h5⟩ | h3
        · exact .inl ⟨0 + m, ρ.blk i, h3, by simp [h4], h5⟩
        · exact .inr (h3.mono (Nat.le_refl _) (fun _ _ _ => rfl) (fun b _ => t2m b))
      · rcases hb with hb | ⟨i, _, h3⟩
        · exact t2.hr.xlt b hb
        · exact t2.hr.lt h3
    refine (hcalls w _ vs _ B hin1).mono fun e w' he => ?_
    obtain ⟨v, Br, B2, rfl, out⟩ := he
    refine ⟨v, rfl, ?_⟩
    -- the relation behind the call, ahead of what comes in
    have hM2 : ∀ b, Mut ρ X h2 b → MM (Mut ρ (XB X B) h2) B (Br ++ B2) b := fun b hb => by
      rcases hb with hb | hb
      · exact .inl ⟨.inl (.inl hb), fun hm => hBX b hm hb⟩
      · refine .inl ⟨.inr hb, fun hm => ?_⟩
        obtain ⟨i, _, h3⟩ := hb
        exact t2.hr.out i b h3 (.inr hm)
    have hcrm : ∀ x u, CR w (Mut ρ (XB X B) h2) x u → CR w' (MM (Mut ρ (XB X B) h2) B (Br ++ B2)) x u := fun x u hx =>
      hx.mono out.size (fun b hb hn => out.keep b hb fun hm => hn (.inl (.inr hm))) (fun b hb hm => by
        rcases hm with ⟨hm, _⟩ | hm
        · exact hm
        · rcases out.new b hm with hm | hm
          · exact .inl (.inr hm)
          · omega)
    have hrm : HRM ρ X h2 w' (MM (Mut ρ (XB X B) h2) B (Br ++ B2)) := by
      refine ⟨fun i => ?_, t2.hr.inj, fun i b hb hx => t2.hr.out i b hb (.inl hx), hM2, fun g cs hg => hcrm _ _ (t2.hr.glob g cs hg)⟩
      refine (t2.hr.box i).mono' (HExt.refl ρ h2) hcrm (fun _ _ _ _ _ => rfl) (fun _ _ _ => rfl) fun b hb => ?_
      exact out.keep b (t2.hr.lt hb) fun hm => t2.hr.out i b hb (.inr hm)
    have hmay : MayIn ρ X h2 (MM (Mut ρ (XB X B) h2) B (Br ++ B2)) (Br ++ B2) := by
      refine ⟨out.nd, fun b hb => .inr hb, fun b hb hx => ?_, fun b hb i hi => ?_⟩
      · rcases out.new b hb with hm | hm
        · exact hBX b hm hx
        · have := hXlt b hx; omega
      · rcases out.new b hb with hm | hm
        · exact t2.hr.out i b hi (.inr hm)
        · have := t2.hr.lt hi; omega
    obtain ⟨ρ1, m1, hvr⟩ := im_sound depth ρ h2 rv v Br hrm out.ret hmay.left
    have hd1 : ∀ i ∈ is, i < (im depth rv h2).2.length ∧ getH (im depth rv h2).2 i = .dead := fun i hi => by
      obtain ⟨q1, _, q3⟩ := hdead i hi
      have q4 : i < h2.length := by rw [t2.len]; exact q1
      exact ⟨Nat.lt_of_lt_of_le q4 m1.ext.len, by rw [m1.toIC.same i q4 (by simp)]; exact q3⟩
    have hmap : is.map ρ1.blk = is.map ρ.blk := List.map_congr_left fun i hi => (m1.agree i (by rw [t2.len]; exact (hdead i hi).1)).2
    obtain ⟨ρ', m2⟩ := contsIn_sound is co ρ1 _ h' _ B2 m1.hr hin hd1 hnd hmap out.cont (hmay.rightC m1.toIC)
    have m := m1.toIC.trans m2
    rw [List.nil_append] at m
    have hr' : HR ρ' X h' w' := m.hr.toHR fun b hb => Nat.lt_of_lt_of_le (hXlt b hb) out.size
    refine ⟨ρ', hr', ?_, ?_⟩
    · exact hvr.mono m2.ext fun x u hx => hx.mono (Nat.le_refl _) (fun _ _ _ => rfl) (fun b _ hb => m.hr.sub b hb)
    · refine ⟨(t1e.toHExt.trans t2.ext).trans m.ext, out.size, fun b hb hl => ?_, fun b hb hl => ?_, ?_⟩
      · exact out.keep b hb fun hm => hl (t1.lv b (t2.bl b hm))
      · obtain ⟨i, h3, h4⟩ := hl
        rcases m.new i b h4 with ⟨h5, h6⟩ | h5
        · exact t1.lv b (t2.lv b ⟨i, by rw [← h5]; exact h3, h6⟩)
        · rcases out.new b h5 with h6 | h6
          · exact t1.lv b (t2.bl b h6)
          · omega
      · exact out.io

theorem callK_sound (hΓ : ∀ f g, cx.Γ f = some g → SoundC cx.P f g) (hI : ∀ f n, cx.I f = some n → SoundN cx.P f n) {f : FuncId} {ss : List SV} (hK : callK cx f ss h K = some r) :
    Enters cx.P f ∧ ∃ sv h', K sv h' = some r ∧ ∀ ρ X w vs, HR ρ X h w → vs.size = ss.length → (∀ (j : Nat) (s : SV), ss[j]? = some s → VR ρ h w (Mut ρ X h) s (vs.getD j undef)) →
      Calls cx.P f vs w fun e w' => ∃ v, e = .returned v ∧ Post ρ X h w sv h' v w' := by
  unfold callK at hK
  split at hK
  · rename_i n hn
    exact ⟨(hI f n hn).enter, (hI f n hn).calls ss h β K r hK⟩
  · split at hK
    · cases hK
    · rename_i g hg
      exact ⟨(hΓ f g hg).enter, callG_sound (hΓ f g hg) hK⟩

/-- A call of a loop's yield. -/
def YCalls (P : Program) (l : Nat) (vs : Array Value) (w : World) (G : Ending → World → Prop) : Prop :=
  ∃ r : Loop, w.heap[l]? = some (.loop r) ∧ vs.size = r.params.size ∧ RoundIn (FR none) 0 P l r.fn ((r.params.zip vs).foldl (fun tmps (t, a) => tmps.setIfInBounds t a) r.tmps) r.assign r.body w G

/-- What a round's text says is what a round does. -/
def SoundY (P : Program) (g : Callee) : Prop :=
  ∀ (args : List CV) (conts : List (List CV)) (β : Type) (K : CV → List (List CV) → Option β) (r : β), g.run args conts β K = some r → ∃ rv co, K rv co = some r ∧
    ∀ w M vs l bs B, InR w M args conts vs (l :: bs) B → YCalls P l vs w fun e w' => ∃ v Br B2, e = .returned v ∧ OutR w M B (l :: bs) w' v rv co Br B2

theorem OpOK.round {P : Program} {o : Oper} {a : Act} {w w' : World} {G : Value → World → Prop} {l : Nat} {f : FuncId} {tmps : Array Value} {as bd : Code} (hrun : (execOp a.eval o).run P w = .ok (.round l f tmps as bd) w')
    (hc : RoundIn (FR none) 0 P l f tmps as bd w' fun e w'' => ∃ v, e = .returned v ∧ G v w'') : OpOK P o a w G := by
  intro rd next Q hn
  refine ⟨fun _ _ => trivial, ?_⟩
  rw [show (o.semAt (FR rd).round a.eval).run P w = .ok (.round l f tmps as bd) w' from semAt_run hrun (fun d h => by cases h)]
  refine ⟨fun h => by simp [FR, Fence.wide] at h, ?_⟩
  refine RoundIn.mono (show RoundIn (FR rd) 0 P l f tmps as bd w' _ from hc) fun e w'' he => ?_
  obtain ⟨v, rfl, hv⟩ := he
  exact hn v w'' hv

theorem yield_sound (hY : ∀ y, cx.Y = some y → SoundY cx.P y.2) {c : Call} {x : Operand} (ho : o.op = .call c) (hc : c.callee = .value x) {l : Nat} (hK : yieldK cx l (evs cx.P st c.argTypes.toList c.args.toList) h K = some r)
    (hx : ∀ ρ X a w, R cx ρ X st h a w → a.eval x = .func (.yield l) #[] #[]) : OpS cx o st h K r := by
  unfold yieldK at hK
  split at hK
  · cases hK
  · rename_i y hy
    split at hK
    · rename_i l' fx ts env bs n q hg
      replace hK := cond_some hK
      obtain ⟨hl, hK⟩ := hK
      obtain rfl := of_decide_eq_true hl
      replace hK := bind_some' hK
      obtain ⟨⟨args, is, h1⟩, ha, hK⟩ := hK
      replace hK := cond_some hK
      obtain ⟨hemp, hK⟩ := hK
      replace hK := bind_some' hK
      obtain ⟨⟨conts, h2⟩, hco, hK⟩ := hK
      dsimp only at hK hco hemp
      have his : is = [] := by simpa using hemp
      subst his
      replace hK := hY y hy _ _ _ _ _ hK
      obtain ⟨rv, co, hK, hcalls⟩ := hK
      replace hK := bind_some' hK
      obtain ⟨h', hin, hK⟩ := hK
      refine ⟨_, _, hK, fun ρ X a w rr => ?_⟩
      obtain ⟨g1, g2⟩ := evs_sound rr c.argTypes.toList c.args.toList
      have hsz : (c.args.map a.eval).size = (evs cx.P st c.argTypes.toList c.args.toList).length := by simp [g1]
      obtain ⟨hal, t1, hav⟩ := argsIn_sound _ 0 h args [] h1 (fun j => (c.args.map a.eval).getD j undef) rr.hr (fun j s hs => by
        obtain ⟨y, hy, hv⟩ := g2 j s hs
        simp at hy
        simpa [hy] using hv) ha
      obtain ⟨B, hInR, _, _, _, hback⟩ := pass_sound rr.hr t1 hco
      have hin1 := hInR args (c.args.map a.eval) (by rw [hsz, hal]) fun j x hx => by
        rcases hav j x hx with ⟨m, i, h3, h4, h5⟩ | h3
        · simp at h4
        · exact .inr h3
      have hb0 : ρ.blk 0 = l := by
        have := rr.hr.box 0
        rw [hg] at this
        exact this.1
      have hrange : (List.range (y.1 + 1)).map ρ.blk = l :: (List.range' 1 y.1).map ρ.blk := by
        rw [List.range_eq_range', List.range'_succ, List.map_cons, hb0]
      rw [hrange] at hin1 hback
      obtain ⟨lr, hl1, hl2, hround⟩ := hcalls w _ _ l _ B hin1
      refine .round (l := l) (f := lr.fn) (tmps := (lr.params.zip (c.args.map a.eval)).foldl (fun tmps (t, a) => tmps.setIfInBounds t a) lr.tmps) (as := lr.assign) (bd := lr.body) ?_ (hround.mono fun e w' he => ?_)
      · simp only [execOp, ho, resolve, hc, hx ρ X a w rr, Deferred.ofValue, Sem.run_bind, Sem.run_pure, Result.andThen_ok, invoke]
        have := run_yield (P := cx.P) (args := #[] ++ c.args.map a.eval) hl1 (by simpa using hl2)
        simpa using this
      · obtain ⟨v, Br, B2, rfl, out⟩ := he
        exact ⟨v, rfl, hback out hin⟩
    · cases hK

theorem enter_sound (hΓ : ∀ f g, cx.Γ f = some g → SoundC cx.P f g) (hI : ∀ f n, cx.I f = some n → SoundN cx.P f n) {c : Call} {x : Operand} (ho : o.op = .call c) (hc : c.callee = .value x) {f : FuncId} {first caps : List SV} (hK : callK cx f (first ++ evs cx.P st c.argTypes.toList c.args.toList ++ caps) h K = some r)
    (hx : ∀ ρ X a w, R cx ρ X st h a w → ∃ a1 a2, a.eval x = .func (.func f) a1 a2 ∧ a1.size = first.length ∧ a2.size = caps.length ∧ (∀ (j : Nat) (s : SV), first[j]? = some s → VR ρ h w (Mut ρ X h) s (a1.getD j undef)) ∧
      ∀ (j : Nat) (s : SV), caps[j]? = some s → VR ρ h w (Mut ρ X h) s (a2.getD j undef)) : OpS cx o st h K r := by
  obtain ⟨he, sv, h', hK, hcalls⟩ := callK_sound hΓ hI hK
  refine ⟨sv, h', hK, fun ρ X a w rr => ?_⟩
  obtain ⟨a1, a2, hev, hs1, hs2, hv1, hv2⟩ := hx ρ X a w rr
  obtain ⟨g1, g2⟩ := evs_sound rr c.argTypes.toList c.args.toList
  refine .calls (f := f) (args := a1 ++ c.args.map a.eval ++ a2) ?_ (hcalls ρ X w _ rr.hr ?_ fun j s hs => ?_)
  · simp only [execOp, ho, resolve, hc, hev, Deferred.ofValue, Sem.run_bind, Sem.run_pure, Result.andThen_ok, invoke]
    exact run_callFunc he _ w
  · simp [hs1, hs2, g1]
  · by_cases h1 : j < first.length + (evs cx.P st c.argTypes.toList c.args.toList).length
    · rw [List.getElem?_append_left (by simpa using h1)] at hs
      have e1 : (a1 ++ c.args.map a.eval ++ a2).getD j undef = (a1 ++ c.args.map a.eval).getD j undef := by
        rw [Array.getD_eq_getD_getElem?, Array.getD_eq_getD_getElem?, Array.getElem?_append_left (by simp [hs1]; rw [g1] at h1; simpa using h1)]
      rw [e1]
      by_cases h2 : j < first.length
      · rw [List.getElem?_append_left h2] at hs
        rw [Array.getD_eq_getD_getElem?, Array.getElem?_append_left (by omega), ← Array.getD_eq_getD_getElem?]
        exact hv1 j s hs
      · rw [List.getElem?_append_right (by omega)] at hs
        rw [Array.getD_eq_getD_getElem?, Array.getElem?_append_right (by omega), hs1]
        obtain ⟨y, hy, hv⟩ := g2 _ s hs
        simp at hy
        simpa [hy] using hv
    · rw [List.getElem?_append_right (by simpa using h1)] at hs
      rw [Array.getD_eq_getD_getElem?, Array.getElem?_append_right (by simp [hs1]; rw [g1] at h1; simpa using h1), ← Array.getD_eq_getD_getElem?]
      have e1 : (a1 ++ c.args.map a.eval).size = (first ++ evs cx.P st c.argTypes.toList c.args.toList).length := by simp [hs1, g1]
      rw [e1]
      exact hv2 _ s hs

/-! ### Iterators -/

def setS : CV → Option Nat → CV
  | .rcd l fx ts env bs n _, s => .rcd l fx ts env bs n s
  | c, _ => c

def numR : CV → Nat
  | .rcd _ _ _ _ _ n _ => n
  | _ => 0

open Classical in
/-- Is a record's content this one? -/
noncomputable def okC (c c' : CV) : Bool := decide (c = c')

theorem okC_self (c : CV) : okC c c = true := by simp [okC]
theorem okC_eq {c c' : CV} (h : okC c c' = true) : c = c' := by simpa [okC] using h

/-- The rounds of a loop, asked for through its record. -/
noncomputable def gY (c0 : CV) (Y : YSem) : Callee := ⟨fun args conts _ K => match conts with
  | [c] :: cs => bif okC c c0 then Y args cs _ fun s co => K (.bool s.isNone) ([setS c0 s] :: co) else none
  | _ => none⟩

/-- An iterator that is called with a loop's yield. -/
noncomputable def hI (l : Nat) (c0 : CV) (G : ItSem) (Y : YSem) : Callee := ⟨fun args conts _ K => match args, conts with
  | .yld l' :: caps, [c] :: cs => bif decide (l' = l) && okC c c0 && Nat.beq (numR c0) cs.length then G Y caps cs _ fun s co => K (.tup []) ([setS c0 s] :: co) else none
  | _, _ => none⟩

/-- What an iterator's text says is what it does, with whatever loop's rounds. -/
def SoundI (P : Program) (f : FuncId) (G : ItSem) : Prop :=
  ∀ (l : Nat) (fx : Loop) (ts : List Nat) (env : List CV) (bs : List Nat) (n : Nat) (Y : YSem), NatYS Y → SoundY P (gY (.rcd l fx ts env bs n none) Y) → SoundC P f (hI l (.rcd l fx ts env bs n none) G Y)

def RoundsS (cx : Cx) : Prop := ∀ (p : List Bool) (S : RfSem) (g : Operand) (ps : Array Tmp) (as bd : Code), cx.rf (pathN p) = some S → codeAt cx.root p = some (.rangeFunc g ps as bd) →
  ∀ (env args : List CV) (conts : List (List CV)) (β : Type) (K : Option Nat → List (List CV) → Option β) (r : β), S.Y env args conts β K = some r → roundB cx S.ins p ps.toList as bd env args conts K = some r

/-- What is asked of a context beside its callees. -/
structure EqY (cx : Cx) : Prop where
  eq : EqOK cx
  y : ∀ y, cx.Y = some y → SoundY cx.P y.2
  it : ∀ f G, cx.It f = some G → SoundI cx.P f G
  rs : RoundsS cx
  inl : ∀ f n, cx.I f = some n → SoundN cx.P f n := by intro f n h; exact absurd (show none = some n from h) (by simp)

/-- Whatever an operation comes to, the machine does. -/
theorem opK_sound (hΓ : ∀ f g, cx.Γ f = some g → SoundC cx.P f g) (hE : EqY cx) (hK : opK cx o st h K = some r) : OpS cx o st h K r := by
  unfold opK at hK
  split at hK
  · rename_i x ho; exact move_sound (.inl ho) hK
  · rename_i x ho; exact move_sound (.inr ho) hK
  · rename_i c x y ho; exact pick_sound ho hK
  · rename_i e ho; exact alloc_sound ho hK
  · rename_i t ho; exact makeSet_sound ho hK
  · rename_i t m k x ho; exact mapUpdate_sound ho hK
  · rename_i t m k ho; exact lookup_sound ho hK
  · rename_i e x ho; exact box_sound ho hK
  · rename_i t parts ho; exact build_sound ho hK
  · rename_i t len parts ho; exact buildSlice_sound ho hK
  · rename_i t a ho; exact load_sound ho hK
  · rename_i t a x ho; exact store_sound ho hK
  · rename_i x ho; exact nilCheck_sound ho hK
  · rename_i op t x y t' ho; exact binOp_sound hE.eq ho hK
  · rename_i op t x ho; exact unOp_sound ho hK
  · rename_i s d x ho; exact convert_sound ho hK
  · rename_i f first caps ho; exact makeFunc_sound ho hK
  · rename_i t l c ho; exact makeSlice_sound ho hK
  · rename_i t x lo hi mx ho; exact slice_sound ho hK
  · rename_i s x f ho; exact fieldAddr_sound ho hK
  · rename_i t x f ho; exact field_sound ho hK
  · rename_i t x ix ho; exact indexAddr_sound ho hK
  · rename_i t x ix ho; exact index_sound ho hK
  · rename_i x ix ho; exact extract_sound ho hK
  · rename_i c ho
    split at hK
    · rename_i b hc; exact builtin_sound ho hc hK
    · rename_i x hc
      split at hK
      · rename_i f first caps hev
        refine enter_sound hΓ hE.inl ho hc hK fun ρ X a w rr => ?_
        have hv := ev_sound rr 0 x
        rw [hev] at hv
        generalize hval : a.eval x = val at hv
        cases hv with
        | fn f c1 c2 a1 a2 hs1 hs2 hr1 hr2 => exact ⟨a1, a2, rfl, hs1, hs2, hr1, hr2⟩
      · rename_i f first caps hev
        refine enter_sound hΓ hE.inl ho hc hK fun ρ X a w rr => ?_
        have hv := ev_sound rr 0 x
        rw [hev] at hv
        generalize hval : a.eval x = val at hv
        cases hv with
        | c y v hy =>
          cases hy with
          | fn f c1 c2 a1 a2 hs1 hs2 hr1 hr2 =>
            refine ⟨a1, a2, rfl, by simpa using hs1, by simpa using hs2, fun j s hs => ?_, fun j s hs => ?_⟩
            · simp only [List.getElem?_map, Option.map_eq_some_iff] at hs
              obtain ⟨z, hz, rfl⟩ := hs
              exact .c _ _ (hr1 j z hz)
            · simp only [List.getElem?_map, Option.map_eq_some_iff] at hs
              obtain ⟨z, hz, rfl⟩ := hs
              exact .c _ _ (hr2 j z hz)
      · rename_i l hev
        refine yield_sound hE.y ho hc hK fun ρ X a w rr => ?_
        have hv := ev_sound rr 0 x
        rw [hev] at hv
        generalize hval : a.eval x = val at hv
        cases hv with
        | c y v hy => cases hy; rfl
      · cases hK
    · cases hK
  · cases hK
end
end Go.Ab
