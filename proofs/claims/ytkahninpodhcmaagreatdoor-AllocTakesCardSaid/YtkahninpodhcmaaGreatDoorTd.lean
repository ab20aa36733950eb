/- Pages: what the program's functions come to.
pages.May.
pages.Count.
pages.Count: its contract.
pages.May.
pages.May: the loop's answer.
Struct types whose cells are numbers: '=='.
ragpickerref04.May: the inner loop.
ragpickerref04.May: the inner loop's answer.
ragpickerref04.May: the inner loop's answer.
ragpickerref04.May.
ragpickerref04.May: the outer loop.
ragpickerref04.May: the outer loop's answer.
ragpickerref04.May: it is as pages.May.
ragpickerref04.May: its contract.
Small functions of cells and class.
cells.on: its iterator.
cells.On.
cells.all: its iterator.
cells.all: its iterator's contract.
cells.On,cells.All: their contracts.
cells.first;cells.Room,Start,Next.
cells.first;cells.Room,Start,Next: their contracts.
ragpickerref01.Ints;awake.
What the laws on cells call.
Cells in rows: what is found among them.
Codes of values;what pages' cells are,by definition.
ragpickerref03.Words,ragpickerref05.Begins,All,On,Start,Next: what they come to.
Pages that are taken and dropped,by themselves.
pages.Clone,put,free,Small,Drop;what the laws on cells call.
'==' of heads: three truths,three numbers.
Heads: head.in,bit,May,pack,Unpack;arena.pages,May.
arena.pages,May,part,Zero.
class.Words,Cells;lists.is,own,Push,Part.
class.Of,Run;heap.shaped,word,page,fits.
What heap hands to slices' functions: closures;what these come to.
slices.ContainsFunc,heap.every,listed.
Trial: reap.
lists.All.
slices.Sort in place: what its contract says,of a box.
The numbers of the shelf's functions at this program: slices.Sort,slices.Compact,slices.Clone (written by lay-plain).
slices.Sort,gone into: by the shelf's contract,laid at home.
slices.Compact,gone into: by the shelf's contract,laid at home.
lists.Apart. -/
import Derived.Test.YtkahninpodhcmaaGreatDoorTc
import Derived.Test.YtkahninpodhcmaaGreatDoorProg
import Derived.IntWalk
import Derived.Sort.Grow
import Derived.Sort.Row
import Derived.Shelf.Sort.Plain
import Derived.Shelf.Slices.In.SortNone
import Derived.Shelf.Slices.CompactI
import Derived.Shelf.Slices.Clone
namespace Go.Ab
open Go
set_option maxRecDepth 100000
noncomputable def cxP (n:Nat) (root:Code) (Γ:FuncId->Option Callee) (Λ:Nat->Option LoopSem) (wr:Nat->Bool):Cx:=
 {P:=Go.Proofs.Tryz.prog,nt:=n,Γ:=Γ,Λ:=Λ,un:=fun _=>false,root:=root,wr:=wr,eqT:=fun _=>false}
def Γ1:FuncId->Option Callee:=fun f=>bif Nat.beq f 83 then some gIn else none
end Go.Ab

namespace Go.Ab
open Go
set_option maxRecDepth 100000
theorem in_nat:NatC gIn:=fun args conts=>by
 unfold gIn
 dsimp only
 split
 ·exact .ret _ _
 ·exact .none
theorem Γ1_nat:∀ f g,Γ1 f=some g->NatC g:=fun f g h=>by
 unfold Γ1 at h
 obtain ⟨_,rfl⟩:=cond_some1 h
 exact in_nat
noncomputable def cx24:Cx:=cxP 15 (bodyOf Go.Proofs.Tryz.f83) (fun _=>none) (fun _=>none) (fun _=>false)
theorem in_step (a b c:Int) (β:Type) (K:CV->List (List CV)->Option β):fnK cx24 Go.Proofs.Tryz.f83 [.int .i64 a,.int .i64 b,.int .i64 c] [] K=
 cond (decide (a>=b)) (K (.bool (decide (a<=c))) []) (K (.bool false) []):=by kernel_rfl
theorem in_sound:SoundC Go.Proofs.Tryz.prog 83 gIn:=
 SoundC.of (fnSound (cx:=cx24) (fn:=Go.Proofs.Tryz.f83) (fun f g h=>by cases h) (fun f g h=>by cases h) (eqOK_none fun _=>rfl) (fun p L b h=>by cases h) (fun q L h=>by cases h) Go.Proofs.Tryz.func83 (by kernel_rfl) (by kernel_rfl) (by kernel_rfl) (Nat.le_of_ble_eq_true (by kernel_rfl)))
  fun args conts β K r h=>by
   unfold gIn at h
   dsimp only at h
   split at h
   ·rename_i a b c
    rw [fnC_run,in_step]
    cases hq:decide (a>=b) <;> simp only [hq,cond_true,cond_false] at h ⊢ <;> exact h
   ·cases h
theorem Γ1_sound:∀ f g,Γ1 f=some g->SoundC Go.Proofs.Tryz.prog f g:=fun f g h=>by
 unfold Γ1 at h
 obtain ⟨hb,rfl⟩:=cond_some1 h
 have:=beq_true hb
 subst this
 exact in_sound
end Go.Ab

namespace Go.Ab
open Go
set_option maxRecDepth 100000
abbrev Pg:=Int×Int
def encP (p:Pg):List CV:=[.int .i64 p.1,.int .i64 p.2]
def dec2:List CV->Option Pg
 | [.int .i64 a,.int .i64 b]=>some (a,b)
 | _=>none
theorem dec2_enc {l:List CV} {p:Pg} (h:dec2 l=some p):l=encP p:=by
 unfold dec2 at h
 split at h
 ·cases h;rfl
 ·cases h
def decP (L:List (List CV)):Option (List Pg):=mapO dec2 L
theorem decP_enc:∀ {L:List (List CV)} {ps:List Pg},decP L=some ps->L=ps.map encP
 | [],ps,h=>by
  simp only [decP,mapO,Option.some.injEq] at h
  subst h
  rfl
 | l::L,ps,h=>by
  simp only [decP,mapO] at h
  obtain ⟨p,hp,h⟩:=bind_some' h
  obtain ⟨qs,hq,h⟩:=bind_some' h
  cases h
  rw [dec2_enc hp,decP_enc (ps:=qs) hq]
  rfl
@[simp] theorem decP_map (ps:List Pg):decP (ps.map encP)=some ps:=by
 induction ps with
 | nil=>rfl
 | cons p ps ih=>
  simp only [decP] at ih
  simp [decP,mapO,encP,dec2,ih]
theorem rdE_map {ps:List Pg} {i:Nat} (h:i<ps.length) {γ:Type} (f:List CV->Option γ):(rdE (ps.map encP) (i:Int)).bind f=f (encP ps[i]):=by
 simp [rdE,h]
def SMALL:Nat:=1152921504606846976
def cnt (ps:List Pg) (k:Int):Nat:=(ps.filter fun p=>p.1==k).length
noncomputable abbrev body15:Code:=(codeAt (bodyOf Go.Proofs.Tryz.f146) [false,false,true,false,true,true]).getD .skip
def outs15:Exit->List Nat:=fun _=>[5]
def loop15:LoopSem:=⟨[5,10,8,9,1],outs15,fun vs cs _ K=>match vs,cs with
 | [.int .i64 m,.int .i64 i,.sl 2 L,.int .i64 len,.int .i64 k],[]=>(decP L).bind fun ps=>bif decide (m=0)&&decide (i=0)&&decide (len=(ps.length:Int))&&Nat.ble ps.length SMALL then K (.exit 0) [.int .i64 (cnt ps k)] [] else none
 | _,_=>none⟩
noncomputable def cx15:Cx:=cxP 22 (bodyOf Go.Proofs.Tryz.f146) (fun _=>none) (fun q=>bif Nat.beq q 58 then some loop15 else none) (fun _=>false)
theorem step15 (n:Nat) (L:List (List CV)) (m i len k:Int) (β:Type) (K:Exit->List CV->List (List CV)->Option β):
    loopB cx15 [5,10,8,9,1] outs15 [false,true,false,true,true] body15 (n+1) [.int .i64 m,.int .i64 i,.sl 2 L,.int .i64 len,.int .i64 k] [] K=
 cond (decide (i<len)) ((rdE L i).bind fun c=>(c[0]?).bind fun x=>(asI .i64 x).bind fun a=>(c[1]?).bind fun x=>(asI .i64 x).bind fun _=>cond (a==k) (loopB cx15 [5,10,8,9,1] outs15 [false,true,false,true,true] body15 n [.int .i64 (IntKind.i64.wrap (m+1)),.int .i64 (IntKind.i64.wrap (i+1)),.sl 2 L,.int .i64 len,.int .i64 k] [] K) (loopB cx15 [5,10,8,9,1] outs15 [false,true,false,true,true] body15 n [.int .i64 m,.int .i64 (IntKind.i64.wrap (i+1)),.sl 2 L,.int .i64 len,.int .i64 k] [] K)) (K (.exit 0) [.int .i64 m] []):=by kernel_rfl
theorem loop15_spec (ps:List Pg) (k:Int) (hs:ps.length<=SMALL) (β:Type) (K:Exit->List CV->List (List CV)->Option β):∀ (n i:Nat) (m:Nat),ps.length - i<=n->i<=ps.length->m<=i->
  loopB cx15 [5,10,8,9,1] outs15 [false,true,false,true,true] body15 (n+1) [.int .i64 m,.int .i64 i,.sl 2 (ps.map encP),.int .i64 (ps.length:Int),.int .i64 k] [] K=K (.exit 0) [.int .i64 (m+cnt (ps.drop i) k:Nat)] []:=by
 intro n
 have hS:SMALL=1152921504606846976:=rfl
 induction n with
 | zero=>
  intro i m hn hi hm
  have hil:i=ps.length:=by omega
  subst hil
  rw [step15]
  simp [cnt]
 | succ n ih=>
  intro i m hn hi hm
  rw [step15]
  by_cases hl:i<ps.length
  ·have e1:decide ((i:Int)<(ps.length:Int))=true:=by simp;omega
   rw [e1,cond_true,rdE_map hl]
   have w1:IntKind.i64.wrap ((i:Int)+1)=((i+1:Nat):Int):=by rw [IntWalk.i64_in];simp;omega
   have w2:IntKind.i64.wrap ((m:Int)+1)=((m+1:Nat):Int):=by rw [IntWalk.i64_in];simp;omega
   have hd:ps.drop i=ps[i]::ps.drop (i+1):=List.drop_eq_getElem_cons hl
   have hc:cnt (ps.drop i) k=(if ps[i].1==k then 1 else 0)+cnt (ps.drop (i+1)) k:=by
    rw [hd]
    simp only [cnt,List.filter_cons]
    split <;> simp <;> omega
   simp only [encP,List.getElem?_cons_zero,List.getElem?_cons_succ,Option.bind_some,asI,if_true,w1,w2]
   cases hk:ps[i].1==k with
   | true=>
    rw [cond_true,ih (i+1) (m+1) (by omega) (by omega) (by omega),hc,hk]
    simp only [if_true]
    congr 4
    omega
   | false=>
    rw [cond_false,ih (i+1) m (by omega) (by omega) (by omega),hc,hk]
    simp
  ·have hil:i=ps.length:=by omega
   subst hil
   simp [cnt]
end Go.Ab

namespace Go.Ab
open Go
set_option maxRecDepth 100000
theorem loop15_nat:NatL loop15:=fun vs cs=>by
 unfold loop15
 dsimp only
 split
 ·exact .bind _ fun _ => .cond _ (.ret _ _ _) .none
 ·exact .none
theorem loops15:LoopsS cx15 := .of fun k L h=>by
 obtain ⟨hk,rfl⟩:=cond_some2 h
 refine ⟨[false,true,false,true,true],beq_true hk,fun vs cs β K r hr => ?_⟩
 unfold loop15 at hr
 dsimp only at hr
 split at hr
 ·rename_i m i L len k
  replace hr:=bind_some' hr
  obtain ⟨ps,hps,hr⟩:=hr
  replace hr:=cond_some hr
  obtain ⟨hb,hr⟩:=hr
  simp only [Bool.and_eq_true,decide_eq_true_eq] at hb
  obtain ⟨⟨⟨rfl,rfl⟩,rfl⟩,hs⟩:=hb
  have hs:=Nat.le_of_ble_eq_true hs
  rw [decP_enc hps]
  refine ⟨ps.length+1,?_⟩
  have:=loop15_spec ps k hs β K ps.length 0 0 (by omega) (by omega) (by omega)
  simp only [List.drop_zero,Nat.zero_add] at this
  exact this.trans hr
 ·cases hr
def gCount:Callee:=⟨fun args conts _ K=>match args,conts with
 | [.sl 2 L,.int .i64 k],[]=>(decP L).bind fun ps=>bif Nat.ble ps.length SMALL then K (.int .i64 (cnt ps k)) [] else none
 | _,_=>none⟩
theorem step15f (L:List (List CV)) (k:Int) (β:Type) (K:CV->List (List CV)->Option β):fnK cx15 Go.Proofs.Tryz.f146 [.sl 2 L,.int .i64 k] [] K=
 (decP L).bind fun ps=>bif true&&true&&decide ((L.length:Int)=(ps.length:Int))&&Nat.ble ps.length SMALL then K (.int .i64 (cnt ps k)) [] else none:=by kernel_rfl
theorem decP_len {L:List (List CV)} {ps:List Pg} (h:decP L=some ps):L.length=ps.length:=by rw [decP_enc h];simp
theorem count_sound:SoundC Go.Proofs.Tryz.prog 146 gCount:=
 SoundC.of (fnSound (cx:=cx15) (fn:=Go.Proofs.Tryz.f146) (fun f g h=>by cases h) (fun f g h=>by cases h) (eqOK_none fun _=>rfl) loops15 (fun q L h=>by obtain ⟨_,rfl⟩:=cond_some2 h;exact loop15_nat)
  Go.Proofs.Tryz.func146 (by kernel_rfl) (by kernel_rfl) (by kernel_rfl) (Nat.le_of_ble_eq_true (by kernel_rfl)))
  fun args conts β K r h=>by
   unfold gCount at h
   dsimp only at h
   split at h
   ·rename_i L k
    replace h:=bind_some' h
    obtain ⟨ps,hps,h⟩:=h
    replace h:=cond_some h
    obtain ⟨hs,h⟩:=h
    rw [fnC_run,step15f,hps]
    simp only [Option.bind_some,decP_len hps,hs,decide_true,Bool.and_self,cond_true]
    exact h
   ·cases h
end Go.Ab

namespace Go.Ab
open Go
set_option maxRecDepth 100000
def mayGo:Int->List Pg->Option Int
 | rest,[]=>some rest
 | rest,p::ps=>cond (p.1==3) (cond (rest==0) none (cond (p.2 != 0) none (mayGo (rest - 1) ps)))
   (cond (p.1==0) (cond (p.2 != 0) none (cond (decide (rest>0)) none (mayGo rest ps)))
    (cond (p.1==1) (cond (!(cond (decide (p.2>=0)) (decide (p.2<=2)) false)) none (cond (decide (rest>0)) none (mayGo rest ps)))
     (cond (p.1==2) (cond (!(cond (decide (p.2>=1)) (decide (p.2<=4)) false)) none (cond (decide (rest>0)) none (mayGo (p.2 - 1) ps))) none)))
def may (ps:List Pg):Bool:=match mayGo 0 ps with
 | some r=>cond (r==0) (cond (decide ((ps.length:Int)>=1)) (decide ((ps.length:Int)<=64)) false) false
 | none=>false
noncomputable abbrev body13:Code:=(codeAt (bodyOf Go.Proofs.Tryz.f82) [false,false,true,false,true,true]).getD .skip
def outs13:Exit->List Nat:=fun e=>match e with | .ret=>[2] | _=>[3,0]
def loop13:LoopSem:=⟨[3,8,6,7,0],outs13,fun vs cs _ K=>match vs,cs with
 | [.int .i64 r,.int .i64 i,.sl 2 L,.int .i64 len,.sl 2 L'],[]=>(decP L).bind fun ps=>(decP L').bind fun ps'=>bif decide (r=0)&&decide (i=0)&&decide (len=(ps.length:Int))&&Nat.ble ps.length SMALL then (match mayGo 0 ps with
   | some r'=>K (.exit 0) [.int .i64 r',.sl 2 (ps'.map encP)] []
   | none=>K .ret [.bool false] []) else none
 | _,_=>none⟩
noncomputable def cx13:Cx:=cxP 58 (bodyOf Go.Proofs.Tryz.f82) Γ1 (fun q=>bif Nat.beq q 58 then some loop13 else none) (fun _=>false)
noncomputable def LB13 (L:List (List CV)) (len:Int) (L':List (List CV)) (β:Type) (K:Exit->List CV->List (List CV)->Option β) (n:Nat) (rest i:Int):Option β:=
 loopB cx13 [3,8,6,7,0] outs13 [false,true,false,true,true] body13 n [.int .i64 rest,.int .i64 i,.sl 2 L,.int .i64 len,.sl 2 L'] [] K
theorem step13 (L L':List (List CV)) (len:Int) (β:Type) (K:Exit->List CV->List (List CV)->Option β) (n:Nat) (rest i:Int):LB13 L len L' β K (n+1) rest i=
 cond (decide (i<len)) ((rdE L i).bind fun c=>(c[0]?).bind fun x=>(asI .i64 x).bind fun a=>(c[1]?).bind fun x=>(asI .i64 x).bind fun b=>cond (a==3) (cond (rest==0) (K .ret [.bool false] []) (cond (b != 0) (K .ret [.bool false] []) (LB13 L len L' β K n (IntKind.i64.wrap (rest - 1)) (IntKind.i64.wrap (i+1))))) (cond (a==0) (cond (b != 0) (K .ret [.bool false] []) (cond (decide (rest>0)) (K .ret [.bool false] []) (cond (a==2) (LB13 L len L' β K n (IntKind.i64.wrap (b - 1)) (IntKind.i64.wrap (i+1))) (LB13 L len L' β K n rest (IntKind.i64.wrap (i+1)))))) (cond (a==1) (cond (!(cond (decide (b>=0)) (decide (b<=2)) false)) (K .ret [.bool false] []) (cond (decide (rest>0)) (K .ret [.bool false] []) (cond (a==2) (LB13 L len L' β K n (IntKind.i64.wrap (b - 1)) (IntKind.i64.wrap (i+1))) (LB13 L len L' β K n rest (IntKind.i64.wrap (i+1)))))) (cond (a==2) (cond (!(cond (decide (b>=1)) (decide (b<=4)) false)) (K .ret [.bool false] []) (cond (decide (rest>0)) (K .ret [.bool false] []) (cond (a==2) (LB13 L len L' β K n (IntKind.i64.wrap (b - 1)) (IntKind.i64.wrap (i+1))) (LB13 L len L' β K n rest (IntKind.i64.wrap (i+1)))))) (K .ret [.bool false] []))))) (K (.exit 0) [.int .i64 rest,.sl 2 L'] []):=by kernel_rfl
end Go.Ab

namespace Go.Ab
open Go
set_option maxRecDepth 100000
theorem loop13_spec (ps:List Pg) (L':List (List CV)) (hs:ps.length<=SMALL) (β:Type) (K:Exit->List CV->List (List CV)->Option β):∀ (n i:Nat) (rest:Int),ps.length - i<=n->i<=ps.length->0<=rest->rest<=3->
  LB13 (ps.map encP) (ps.length:Int) L' β K (n+1) rest i=match mayGo rest (ps.drop i) with
   | some r'=>K (.exit 0) [.int .i64 r',.sl 2 L'] []
   | none=>K .ret [.bool false] []:=by
 intro n
 have hS:SMALL=1152921504606846976:=rfl
 have fin:∀ (n i:Nat) (rest:Int),i=ps.length->LB13 (ps.map encP) (ps.length:Int) L' β K (n+1) rest i=match mayGo rest (ps.drop i) with
   | some r'=>K (.exit 0) [.int .i64 r',.sl 2 L'] []
   | none=>K .ret [.bool false] []:=fun n i rest hi=>by
  subst hi
  rw [step13]
  simp [mayGo]
 induction n with
 | zero=>exact fun i rest hn hi _ _=>fin 0 i rest (by omega)
 | succ n ih=>
  intro i rest hn hi h0 h3
  by_cases hl:i<ps.length
  ·rw [step13]
   have e1:decide ((i:Int)<(ps.length:Int))=true:=by simp;omega
   rw [e1,cond_true,rdE_map hl]
   have w1:IntKind.i64.wrap ((i:Int)+1)=((i+1:Nat):Int):=by rw [IntWalk.i64_in];simp;omega
   have hd:ps.drop i=ps[i]::ps.drop (i+1):=List.drop_eq_getElem_cons hl
   rw [hd]
   generalize ps[i]=p
   obtain ⟨a,b⟩:=p
   simp only [encP,List.getElem?_cons_zero,List.getElem?_cons_succ,Option.bind_some,asI,if_true,w1,mayGo]
   have IH:=fun rest h0 h3=>ih (i+1) rest (by omega) (by omega) h0 h3
   cases ha3:a==3 with
   | true=>
    simp only [cond_true]
    cases hr:rest==0 with
    | true=>rfl
    | false=>
     simp only [cond_false]
     cases hb:b != 0 with
     | true=>rfl
     | false=>
      simp only [cond_false]
      have hr':rest≠0:=by simpa using hr
      rw [IntWalk.i64_in (rest - 1) (by omega)]
      exact IH (rest - 1) (by omega) (by omega)
   | false=>
    simp only [cond_false]
    cases ha0:a==0 with
    | true=>
     have ha:a=0:=by simpa using ha0
     subst ha
     simp only [cond_true]
     cases hb:b != 0 with
     | true=>rfl
     | false=>
      cases hr:decide (rest>0) with
      | true=>rfl
      | false=>exact IH rest h0 h3
    | false=>
     simp only [cond_false]
     cases ha1:a==1 with
     | true=>
      have ha:a=1:=by simpa using ha1
      subst ha
      simp only [cond_true]
      cases hb : !(bif decide (b>=0) then decide (b<=2) else false) with
      | true=>rfl
      | false=>
       cases hr:decide (rest>0) with
       | true=>rfl
       | false=>exact IH rest h0 h3
     | false=>
      simp only [cond_false]
      cases ha2:a==2 with
      | true=>
       simp only [cond_true]
       cases hb : !(bif decide (b>=1) then decide (b<=4) else false) with
       | true=>rfl
       | false=>
        have hb':1<=b/\b<=4:=by
         by_cases h1:b>=1
         ·simp [h1] at hb;exact ⟨h1,hb⟩
         ·simp [h1] at hb
        cases hr:decide (rest>0) with
        | true=>rfl
        | false=>
         simp only [cond_false]
         rw [IntWalk.i64_in (b - 1) (by omega)]
         exact IH (b - 1) (by omega) (by omega)
      | false=>rfl
  ·exact fin (n+1) i rest (by omega)
theorem loop13_nat:NatL loop13:=fun vs cs=>by
 unfold loop13
 dsimp only
 split
 ·refine .bind _ fun _ => .bind _ fun _ => .cond _ ?_ .none
  split
  ·exact .ret _ _ _
  ·exact .ret _ _ _
 ·exact .none
theorem loops13:LoopsS cx13 := .of fun k L h=>by
 obtain ⟨hk,rfl⟩:=cond_some2 h
 refine ⟨[false,true,false,true,true],beq_true hk,fun vs cs β K r hr => ?_⟩
 unfold loop13 at hr
 dsimp only at hr
 split at hr
 ·rename_i m i L len L'
  replace hr:=bind_some' hr
  obtain ⟨ps,hps,hr⟩:=hr
  replace hr:=bind_some' hr
  obtain ⟨ps',hps',hr⟩:=hr
  replace hr:=cond_some hr
  obtain ⟨hb,hr⟩:=hr
  simp only [Bool.and_eq_true,decide_eq_true_eq] at hb
  obtain ⟨⟨⟨rfl,rfl⟩,rfl⟩,hs⟩:=hb
  have hs:=Nat.le_of_ble_eq_true hs
  rw [decP_enc hps,decP_enc hps']
  refine ⟨ps.length+1,?_⟩
  have:=loop13_spec ps (ps'.map encP) hs β K ps.length 0 0 (by omega) (by omega) (by omega) (by omega)
  rw [List.drop_zero] at this
  exact this.trans hr
 ·cases hr
theorem step13f (L:List (List CV)) (β:Type) (K:CV->List (List CV)->Option β):fnK cx13 Go.Proofs.Tryz.f82 [.sl 2 L] [] K=
 (decP L).bind fun ps=>(decP L).bind fun ps'=>bif true&&true&&decide ((L.length:Int)=(ps.length:Int))&&Nat.ble ps.length SMALL then (match mayGo 0 ps with | some r'=>cond (r'==0) (K (.bool (cond (decide (((ps'.map encP).length:Int)>=1)) (decide (((ps'.map encP).length:Int)<=64)) false)) []) (K (.bool false) []) | none=>K (.bool false) []) else none:=by kernel_rfl
def gMay:Callee:=⟨fun args conts _ K=>match args,conts with
 | [.sl 2 L],[]=>(decP L).bind fun ps=>bif Nat.ble ps.length SMALL then K (.bool (may ps)) [] else none
 | _,_=>none⟩
theorem may_nat:NatC gMay:=fun args conts=>by
 unfold gMay
 dsimp only
 split
 ·exact .bind _ fun _ => .cond _ (.ret _ _) .none
 ·exact .none
theorem may_sound:SoundC Go.Proofs.Tryz.prog 82 gMay:=
 SoundC.of (fnSound (cx:=cx13) (fn:=Go.Proofs.Tryz.f82) Γ1_sound Γ1_nat (eqOK_none fun _=>rfl) loops13 (fun q L h=>by obtain ⟨_,rfl⟩:=cond_some2 h;exact loop13_nat)
  Go.Proofs.Tryz.func82 (by kernel_rfl) (by kernel_rfl) (by kernel_rfl) (Nat.le_of_ble_eq_true (by kernel_rfl)))
  fun args conts β K r h=>by
   unfold gMay at h
   dsimp only at h
   split at h
   ·rename_i L
    replace h:=bind_some' h
    obtain ⟨ps,hps,h⟩:=h
    replace h:=cond_some h
    obtain ⟨hs,h⟩:=h
    rw [fnC_run,step13f,hps]
    simp only [Option.bind_some,decP_len hps,hs,decide_true,Bool.and_self,cond_true,List.length_map]
    rw [<- h]
    unfold may
    cases mayGo 0 ps with
    | none=>rfl
    | some r'=>cases hr:r'==0 <;> simp [hr]
   ·cases h
end Go.Ab

namespace Go.Ab
open Go
set_option maxRecDepth 100000
theorem kindV_ints {P:Program}:∀ {ts:List TypeId} {vs:List Value},(∀ t∈ts,∃ k,P.underlying t=some (.int k))->kindV P ts vs=true->∃ l:List (IntKind×Int),vs=l.map (fun p => .int p.1 p.2)/\l.length=ts.length
 | [],[],_,_=>⟨[],rfl,rfl⟩
 | [],_::_,_,h=>by simp [kindV] at h
 | _::_,[],_,h=>by simp [kindV] at h
 | t::ts,v::vs,hk,h=>by
  obtain ⟨k,ht⟩:=hk t (by simp)
  simp only [kindV,Bool.and_eq_true,ht] at h
  obtain ⟨l,rfl,hl⟩:=kindV_ints (fun t h=>hk t (by simp [h])) h.2
  have h1:=h.1
  split at h1
  ·rename_i _ b n _
   exact ⟨(b,n)::l,by simp,by simp [hl]⟩
  ·rename_i hq;cases hq
  ·cases h1
theorem run_equalIn_int {P:Program} {t:TypeId} {k:IntKind} (hu:P.underlying t=some (.int k)) (d:Nat) (c:IntKind) (a b:Int) (w:World):(Op.equalIn (d+1) t (.int c a) (.int c b)).run P w = .ok (a==b) w:=by
 simp [Op.equalIn,run_underlying hu]
theorem run_part0 {P:Program} {t:TypeId} {k:IntKind} (h:P.underlying t=some (.int k)) (a:Array Value) (i:Nat) (v:Value) (hv:a[i]? = some v) (w:World):(part t a i).run P w = .ok v w:=by
 simp [part,run_isAgg h,aggD,hv]
theorem eqIn_two {P:Program} {t:TypeId} {f0 f1:Field} {k0 k1:IntKind} (hs:P.underlying t=some (.struct #[f0,f1])) (hst:P.stoodInHeld t=false) (n0:f0.name ≠ "_") (n1:f1.name ≠ "_") (o0:f0.offset=0) (o1:f1.offset=1)
  (h0:P.underlying f0.type=some (.int k0)) (h1:P.underlying f1.type=some (.int k1)) (d:Nat) (a b:IntKind) (x x' y y':Int) (w:World):
  (Op.equalIn (d+2) t (.agg #[.int a x,.int b y]) (.agg #[.int a x',.int b y'])).run P w = .ok (x==x'&&y==y') w:=by
 have p0:=fun v u=>run_part0 h0 #[.int a v,.int b u] 0 (.int a v) rfl w
 have p1:=fun v u=>run_part0 h1 #[.int a v,.int b u] 1 (.int b u) rfl w
 have q0:=run_equalIn_int h0 d a x x' w
 have q1:=run_equalIn_int h1 d b y y' w
 rw [show d+2=(d+1)+1 from rfl]
 unfold Op.equalIn
 cases hx:x==x' <;> cases hy:y==y' <;> rw [hx] at q0 <;> rw [hy] at q1 <;> simp [run_underlying hs,hst,n0,n1,o0,o1,p0,p1,q0,q1]
theorem eq_two {P:Program} {t:TypeId} {f0 f1:Field} {k0 k1:IntKind} (hs:P.underlying t=some (.struct #[f0,f1])) (hst:P.stoodInHeld t=false) (n0:f0.name ≠ "_") (n1:f1.name ≠ "_") (o0:f0.offset=0) (o1:f1.offset=1)
  (h0:P.underlying f0.type=some (.int k0)) (h1:P.underlying f1.type=some (.int k1)) (hf:flatT P 8 t=[f0.type,f1.type]) (vs us:Array Value) (r:Bool) (w:World)
  (hv:kindV P (flatT P 8 t) vs.toList=true) (hu:kindV P (flatT P 8 t) us.toList=true) (he:eqVals vs.toList us.toList=some r):(Op.equal t (.agg vs) (.agg us)).run P w = .ok r w:=by
 rw [hf] at hv hu
 have hk:∀ t∈[f0.type,f1.type],∃ k,P.underlying t=some (.int k):=fun t ht=>by
  simp at ht
  rcases ht with rfl | rfl
  ·exact ⟨_,h0⟩
  ·exact ⟨_,h1⟩
 obtain ⟨vl⟩:=vs
 obtain ⟨ul⟩:=us
 obtain ⟨l,hvl,hl⟩:=kindV_ints hk hv
 obtain ⟨m,hul,hm⟩:=kindV_ints hk hu
 match l,m,hl,hm with
 | [(a,x),(b,y)],[(a',x'),(b',y')],_,_=>
  dsimp only at hvl hul he
  subst hvl hul
  simp only [List.map_cons,List.map_nil,eqVals] at he
  obtain ⟨ha,he⟩:=ite_some he
  replace he:=bind_some' he
  obtain ⟨t1,ht1,he⟩:=he
  obtain ⟨hb,ht1⟩:=ite_some ht1
  simp only [Option.bind_some,Option.some.injEq,Bool.and_true] at ht1 he
  rw [<- he,<- ht1,ha,hb]
  exact eqIn_two hs hst n0 n1 o0 o1 h0 h1 9998 a' b' x x' y y' w
end Go.Ab

namespace Go.Ab
open Go
set_option maxRecDepth 100000
noncomputable def cxE (n:Nat) (root:Code) (Γ:FuncId->Option Callee) (Λ:Nat->Option LoopSem) (wr:Nat->Bool):Cx:=
 {P:=Go.Proofs.Tryz.prog,nt:=n,Γ:=Γ,Λ:=Λ,un:=fun _=>false,root:=root,wr:=wr,eqT:=fun t=>Nat.beq t 61}
theorem eqOK_page {cx:Cx} (hP:cx.P=Go.Proofs.Tryz.prog) (h:cx.eqT=fun t=>Nat.beq t 61):EqOK cx:=fun t ht=>by
 rw [h] at ht
 have:=beq_true ht
 subst this
 rw [hP]
 refine ⟨by kernel_rfl,fun vs us r w hv hu he => ?_⟩
 obtain ⟨f0,f1,h1,h2,h3,h4,h5,h6,h7,h8⟩:∃ f0 f1:Field,Go.Proofs.Tryz.prog.underlying 61=some (.struct #[f0,f1])/\f0.name ≠ "_" /\ f1.name ≠ "_" /\ f0.offset=0/\f1.offset=1/\Go.Proofs.Tryz.prog.underlying f0.type=some (.int .i64)/\
   Go.Proofs.Tryz.prog.underlying f1.type=some (.int .i64)/\flatT Go.Proofs.Tryz.prog 8 61=[f0.type,f1.type]:=⟨_,_,Go.Proofs.Tryz.underlying61,by decide,by decide,rfl,rfl,by kernel_rfl,by kernel_rfl,by kernel_rfl⟩
 exact eq_two h1 (by kernel_rfl) h2 h3 h4 h5 h6 h7 h8 vs us r w hv hu he
def eat:Nat->List Pg->Option (List Pg)
 | 0,ps=>some ps
 | _+1,[]=>none
 | n+1,p::ps=>cond (p.1==3&&(p.2==0&&true)) (eat n ps) none
end Go.Ab

namespace Go.Ab
open Go
set_option maxRecDepth 100000
abbrev pathB:List Bool:=[false,true,true,true,true,true,true,false,true,false,false,false,true,true,true]
noncomputable abbrev body14b:Code:=(codeAt (bodyOf Go.Proofs.Tryz.f84) (false::pathB)).getD .skip
def outs14b:Exit->List Nat:=fun e=>match e with | .ret=>[2] | _=>[3,0]
def loop14b:LoopSem:=⟨[3,5,0,4],outs14b,fun vs cs _ K=>match vs,cs with
 | [.int .i64 i,.int .i64 j,.sl 2 L,.ref 0],[[.int .i64 k,.int .i64 a]]=>(decP L).bind fun ps=>bif decide (j=1)&&decide (1<=a)&&decide (a<=4)&&decide (0<=i)&&decide (i<=ps.length)&&Nat.ble ps.length SMALL then optE (eat (a - 1).toNat (ps.drop i.toNat)) (K .ret [.bool false] [[.int .i64 k,.int .i64 a]])
   (fun _=>K (.exit 2) [.int .i64 (i+(a - 1)),.sl 2 (ps.map encP)] [[.int .i64 k,.int .i64 a]]) else none
 | _,_=>none⟩
noncomputable def LB14b (cx:Cx) (L:List (List CV)) (k a:Int) (β:Type) (K:Exit->List CV->List (List CV)->Option β) (n:Nat) (i j:Int):Option β:=
 loopB cx [3,5,0,4] outs14b pathB body14b n [.int .i64 i,.int .i64 j,.sl 2 L,.ref 0] [[.int .i64 k,.int .i64 a]] K
noncomputable def cx14' (Λ:Nat->Option LoopSem):Cx:=cxE 80 (bodyOf Go.Proofs.Tryz.f84) Γ1 Λ (fun _=>false)
theorem step14b (Λ:Nat->Option LoopSem) (L:List (List CV)) (k a:Int) (β:Type) (K:Exit->List CV->List (List CV)->Option β) (n:Nat) (i j:Int):LB14b (cx14' Λ) L k a β K (n+1) i j=
 cond (decide (j<a)) (cond (decide (i>=(L.length:Int))) (K .ret [.bool false] [[.int .i64 k,.int .i64 a]]) ((rdE L i).bind fun c=>(c[0]?).bind fun x=>(asI .i64 x).bind fun u=>(c[1]?).bind fun x=>(asI .i64 x).bind fun v=>cond (!(u==3&&(v==0&&true))) (K .ret [.bool false] [[.int .i64 k,.int .i64 a]]) (LB14b (cx14' Λ) L k a β K n (IntKind.i64.wrap (i+1)) (IntKind.i64.wrap (j+1))))) (K (.exit 2) [.int .i64 i,.sl 2 L] [[.int .i64 k,.int .i64 a]]):=by kernel_rfl
end Go.Ab

namespace Go.Ab
open Go
set_option maxRecDepth 100000
theorem loop14b_spec (Λ:Nat->Option LoopSem) (ps:List Pg) (k a:Int) (ha:a<=4) (hs:ps.length<=SMALL) (β:Type) (K:Exit->List CV->List (List CV)->Option β):∀ (m i:Nat) (j:Int),0<=j->j<=a->(a - j).toNat=m->i<=ps.length->
  LB14b (cx14' Λ) (ps.map encP) k a β K (m+1) i j=match eat m (ps.drop i) with
   | some _=>K (.exit 2) [.int .i64 (i+(a - j)),.sl 2 (ps.map encP)] [[.int .i64 k,.int .i64 a]]
   | none=>K .ret [.bool false] [[.int .i64 k,.int .i64 a]]:=by
 intro m
 have hS:SMALL=1152921504606846976:=rfl
 induction m with
 | zero=>
  intro i j h0 hj hm hi
  have:j=a:=by omega
  subst this
  rw [step14b]
  simp [eat]
 | succ m ih=>
  intro i j h0 hj hm hi
  have hlt:j<a:=by omega
  rw [step14b]
  have e1:decide (j<a)=true:=by simpa using hlt
  rw [e1,cond_true]
  by_cases hl:i<ps.length
  ·have e2:decide ((i:Int)>=((ps.map encP).length:Int))=false:=by simp;omega
   rw [e2,cond_false,rdE_map hl]
   have w1:IntKind.i64.wrap ((i:Int)+1)=((i+1:Nat):Int):=by rw [IntWalk.i64_in];simp;omega
   have w2:IntKind.i64.wrap (j+1)=j+1:=by rw [IntWalk.i64_in];omega
   have hd:ps.drop i=ps[i]::ps.drop (i+1):=List.drop_eq_getElem_cons hl
   rw [hd]
   simp only [encP,List.getElem?_cons_zero,List.getElem?_cons_succ,Option.bind_some,asI,if_true,w1,w2,eat]
   cases hq:(ps[i].1==3&&(ps[i].2==0&&true)) with
   | false=>rfl
   | true=>
    simp only [Bool.not_true,cond_false,cond_true]
    have:=ih (i+1) (j+1) (by omega) (by omega) (by omega) (by omega)
    refine this.trans ?_
    have e3:((i+1:Nat):Int)+(a - (j+1))=(i:Int)+(a - j):=by omega
    rw [e3]
  ·have e2:decide ((i:Int)>=((ps.map encP).length:Int))=true:=by simp;omega
   have hi':i=ps.length:=by omega
   subst hi'
   rw [e2,cond_true]
   simp [eat]
end Go.Ab

namespace Go.Ab
open Go
set_option maxRecDepth 100000
abbrev pathA:List Bool:=[false,false,true,true,true]
noncomputable abbrev body14a:Code:=(codeAt (bodyOf Go.Proofs.Tryz.f84) (false::pathA)).getD .skip
def outs14a:Exit->List Nat:=fun e=>match e with | .ret=>[2] | _=>[]
def one14 (p:Pg):Option Nat:=
 cond (p.1==0&&p.2==0) (some 0) (cond (p.1==1&&decide (p.2>=0)&&decide (p.2<=2)) (some 0)
  (cond (p.1 != 2 || decide (p.2<1) || decide (p.2>4)) none (some (p.2 - 1).toNat)))
def mayR:Nat->List Pg->Bool
 | _,[]=>true
 | 0,_::_=>false
 | n+1,p::ps=>match one14 p with
  | none=>false
  | some k=>match eat k ps with
   | none=>false
   | some rest=>mayR n rest
end Go.Ab

namespace Go.Ab
open Go
set_option maxRecDepth 100000
noncomputable def cxM (Λ:Nat->Option LoopSem):Cx:=cx14' fun q=>bif Nat.beq q 61822 then some loop14b else Λ q
noncomputable def LB14a (Λ:Nat->Option LoopSem) (L:List (List CV)) (β:Type) (K:Exit->List CV->List (List CV)->Option β) (n:Nat) (i:Int):Option β:=
 loopB (cxM Λ) [3,0] outs14a pathA body14a n [.int .i64 i,.sl 2 L] [] K
noncomputable def big14 (L:List (List CV)) (i a b:Int) (β:Type) (K:Exit->List CV->List (List CV)->Option β) (go:Int->List (List CV)->Option β):Option β:=
 cond (a != 2) (K .ret [.bool false] []) (cond (decide (b<1)) (K .ret [.bool false] []) (cond (decide (b>4)) (K .ret [.bool false] [])
  ((decP L).bind fun ps=>cond (true&&decide (1<=b)&&decide (b<=4)&&decide (0<=IntKind.i64.wrap (i+1))&&decide (IntKind.i64.wrap (i+1)<=(ps.length:Int))&&Nat.ble ps.length SMALL)
   (optE (eat (b - 1).toNat (ps.drop (IntKind.i64.wrap (i+1)).toNat)) (K .ret [.bool false] []) fun _=>go (IntKind.i64.wrap (i+1)+(b - 1)) (ps.map encP)) none)))
theorem step14a (Λ:Nat->Option LoopSem) (L:List (List CV)) (β:Type) (K:Exit->List CV->List (List CV)->Option β) (n:Nat) (i:Int):LB14a Λ L β K (n+1) i=
 cond (decide (i<(L.length:Int))) ((rdE L i).bind fun c=>(c[0]?).bind fun x=>(asI .i64 x).bind fun a=>(c[1]?).bind fun x=>(asI .i64 x).bind fun b=>cond (a==0) (cond (b==0) (LB14a Λ L β K n (IntKind.i64.wrap (i+1))) (cond (a==1) (cond (decide (b>=0)) (cond (decide (b<=2)) (LB14a Λ L β K n (IntKind.i64.wrap (i+1))) (big14 L i a b β K fun i L=>LB14a Λ L β K n i)) (big14 L i a b β K fun i L=>LB14a Λ L β K n i)) (big14 L i a b β K fun i L=>LB14a Λ L β K n i))) (cond (a==1) (cond (decide (b>=0)) (cond (decide (b<=2)) (LB14a Λ L β K n (IntKind.i64.wrap (i+1))) (big14 L i a b β K fun i L=>LB14a Λ L β K n i)) (big14 L i a b β K fun i L=>LB14a Λ L β K n i)) (big14 L i a b β K fun i L=>LB14a Λ L β K n i))) (K (.exit 0) [] []):=by kernel_rfl
end Go.Ab

namespace Go.Ab
open Go
set_option maxRecDepth 100000
theorem eat_len:∀ (k:Nat) (ps rest:List Pg),eat k ps=some rest->rest=ps.drop k/\k<=ps.length
 | 0,ps,rest,h=>by
  simp only [eat,Option.some.injEq] at h
  exact ⟨by simp [h],Nat.zero_le _⟩
 | k+1,[],rest,h=>by simp [eat] at h
 | k+1,p::ps,rest,h=>by
  simp only [eat] at h
  replace h:=cond_some h
  obtain ⟨_,h⟩:=h
  obtain ⟨h1,h2⟩:=eat_len k ps rest h
  exact ⟨by simp [h1],by simp;omega⟩
theorem loop14a_spec (Λ:Nat->Option LoopSem) (ps:List Pg) (hs:ps.length+8<=SMALL) (β:Type) (K:Exit->List CV->List (List CV)->Option β):∀ (m i:Nat),ps.length - i<=m->i<=ps.length->
  LB14a Λ (ps.map encP) β K (m+1) i=cond (mayR m (ps.drop i)) (K (.exit 0) [] []) (K .ret [.bool false] []):=by
 intro m
 have hS:SMALL=1152921504606846976:=rfl
 have fin:∀ (m i:Nat),i=ps.length->LB14a Λ (ps.map encP) β K (m+1) i=cond (mayR m (ps.drop i)) (K (.exit 0) [] []) (K .ret [.bool false] []):=fun m i hi=>by
  subst hi
  rw [step14a]
  cases m <;> simp [mayR]
 induction m with
 | zero=>exact fun i hn hi=>fin 0 i (by omega)
 | succ m ih=>
  intro i hn hi
  by_cases hl:i<ps.length
  ·rw [step14a]
   have e1:decide ((i:Int)<((ps.map encP).length:Int))=true:=by simp;omega
   rw [e1,cond_true,rdE_map hl]
   have w1:IntKind.i64.wrap ((i:Int)+1)=((i+1:Nat):Int):=by rw [IntWalk.i64_in];simp;omega
   have hd:ps.drop i=ps[i]::ps.drop (i+1):=List.drop_eq_getElem_cons hl
   rw [hd]
   generalize hp:ps[i]=p
   obtain ⟨a,b⟩:=p
   have IH:=ih (i+1) (by omega) (by omega)
   have hbig:∀ L',L'=ps.map encP->big14 L' i a b β K (fun i L=>LB14a Λ L β K (m+1) i)=cond (a != 2 || decide (b<1) || decide (b>4)) (K .ret [.bool false] [])
     (match eat (b - 1).toNat (ps.drop (i+1)) with
      | none=>K .ret [.bool false] []
      | some rest=>cond (mayR m rest) (K (.exit 0) [] []) (K .ret [.bool false] [])):=fun L' hL'=>by
    subst hL'
    unfold big14
    cases h2:a != 2 with
    | true=>rfl
    | false=>
     cases h3:decide (b<1) with
     | true=>rfl
     | false=>
      cases h4:decide (b>4) with
      | true=>rfl
      | false=>
       simp at h3 h4
       simp only [cond_false,Bool.or_false,decP_map,Option.bind_some,w1]
       have hc:(true&&decide (1<=b)&&decide (b<=4)&&decide (0<=((i+1:Nat):Int))&&decide (((i+1:Nat):Int)<=(ps.length:Int))&&Nat.ble ps.length SMALL)=true:=by
        have:Nat.ble ps.length SMALL=true:=Nat.ble_eq_true_of_le (by omega)
        simp [this]
        omega
       rw [hc,cond_true,Int.toNat_natCast]
       unfold optE
       cases he:eat (b - 1).toNat (ps.drop (i+1)) with
       | none=>rfl
       | some rest=>
        obtain ⟨hr,hk⟩:=eat_len _ _ _ he
        have e3:((i+1:Nat):Int)+(b - 1)=((i+1+(b - 1).toNat:Nat):Int):=by omega
        have hle:i+1+(b - 1).toNat<=ps.length:=by simp at hk;omega
        dsimp only
        rw [e3,ih _ (by omega) hle,hr,List.drop_drop]
   simp only [encP,List.getElem?_cons_zero,List.getElem?_cons_succ,Option.bind_some,asI,if_true,w1,IH,hbig _ rfl,mayR,one14]
   cases h0:a==0 <;> cases hb0:b==0 <;> cases h1:a==1 <;> cases hb1:decide (b>=0) <;> cases hb2:decide (b<=2) <;> cases hq:(a != 2 || decide (b<1) || decide (b>4)) <;>
    simp [eat] <;> first | rfl | (cases eat (b.toNat - 1) (ps.drop (i+1)) <;> rfl)
  ·exact fin (m+1) i (by omega)
end Go.Ab

namespace Go.Ab
open Go
set_option maxRecDepth 100000
theorem mayGo_eat:∀ (r:Nat) (ps:List Pg),(mayGo r ps==some 0)=match eat r ps with | some rest=>(mayGo 0 rest==some 0) | none=>false
 | 0,ps=>rfl
 | r+1,[]=>by
  have h:¬ ((r:Int)+1=0):=by omega
  simp [mayGo,eat,h]
 | r+1,p::ps=>by
  have ih:=mayGo_eat r ps
  have h0:(((r+1:Nat):Int)==0)=false:=beq_false_of_ne (by omega)
  have h1:decide (((r+1:Nat):Int)>0)=true:=decide_eq_true (by omega)
  have h2:((r+1:Nat):Int) - 1=(r:Int):=by omega
  simp only [mayGo,eat,h0,h1,h2,cond_false,cond_true]
  cases p.1==3 with
  | true=>
   simp only [cond_true,Bool.true_and,Bool.and_true]
   cases h:p.2==0 with
   | true=>simp only [bne,h,Bool.not_true,cond_false,cond_true];exact ih
   | false=>simp [bne,h]
  | false=>
   simp only [cond_false,Bool.false_and]
   cases p.1==0 <;> cases p.1==1 <;> cases p.1==2 <;> cases p.2 != 0 <;> cases (bif decide (p.2>=0) then decide (p.2<=2) else false) <;> cases (bif decide (p.2>=1) then decide (p.2<=4) else false) <;> rfl
theorem mayR_iff:∀ (n:Nat) (ps:List Pg),ps.length<=n->mayR n ps=(mayGo 0 ps==some 0)
 | n,[],_=>by cases n <;> rfl
 | 0,_::_,h=>by simp at h
 | n+1,(a,b)::ps,h=>by
  have hl:ps.length<=n:=by simpa using h
  simp only [mayR,mayGo,one14]
  by_cases h3:a=3
  ·subst h3
   rfl
  ·have e3:(a==3)=false:=by simpa using h3
   by_cases h0:a=0
   ·subst h0
    by_cases hb:b=0
    ·subst hb
     exact mayR_iff n ps hl
    ·have eb:(b==0)=false:=by simpa using hb
     simp only [bne,eb]
     rfl
   ·have e0:(a==0)=false:=by simpa using h0
    by_cases h1:a=1
    ·subst h1
     by_cases hb:0<=b/\b<=2
     ·obtain ⟨hb1,hb2⟩:=hb
      have d1:decide (b>=0)=true:=by simpa using hb1
      have d2:decide (b<=2)=true:=by simpa using hb2
      simp only [d1,d2]
      exact mayR_iff n ps hl
     ·have hb':(decide (b>=0)&&decide (b<=2))=false:=by simpa using hb
      have h':(bif decide (b>=0) then decide (b<=2) else false)=false:=by
       cases h:decide (b>=0) <;> simp [h] at hb' ⊢
       exact hb'
      simp only [h',Bool.and_assoc,hb']
      rfl
    ·have e1:(a==1)=false:=by simpa using h1
     by_cases h2:a=2
     ·subst h2
      by_cases hb:1<=b/\b<=4
      ·obtain ⟨hb1,hb2⟩:=hb
       have e1:b - 1=((b - 1).toNat:Int):=by omega
       have hg:=mayGo_eat (b - 1).toNat ps
       rw [<- e1] at hg
       have d1:decide (b<1)=false:=by simp;omega
       have d2:decide (b>4)=false:=by simp;omega
       have d3:decide (b>=1)=true:=by simp;omega
       have d4:decide (b<=4)=true:=by simp;omega
       simp only [d1,d2,d3,d4]
       refine Eq.trans ?_ hg.symm
       show (match eat (b - 1).toNat ps with | none=>false | some rest=>mayR n rest)=_
       cases he:eat (b - 1).toNat ps with
       | none=>rfl
       | some rest=>
        obtain ⟨hr,_⟩:=eat_len _ _ _ he
        exact mayR_iff n rest (by rw [hr,List.length_drop];omega)
      ·have h':(bif decide (b>=1) then decide (b<=4) else false)=false:=by
        by_cases h:1<=b <;> simp [h]
        omega
       have h2:(decide (b<1) || decide (b>4))=true:=by simp;omega
       simp only [h',Bool.or_assoc,h2]
       rfl
     ·have e2:(a==2)=false:=by simpa using h2
      simp only [e0,e1,e2,e3,bne]
      rfl
theorem may_eq (ps:List Pg):may ps=cond (decide ((ps.length:Int)<1)) false (cond (decide ((ps.length:Int)>64)) false (mayR ps.length ps)):=by
 rw [mayR_iff _ _ (Nat.le_refl _)]
 unfold may
 have key:∀ b:Bool,(match mayGo 0 ps with
  | some r=>bif r==0 then b else false
  | none=>false)=(b&&(mayGo 0 ps==some 0)):=fun b=>by
  cases mayGo 0 ps with
  | none=>simp
  | some r=>cases hr:r==0 <;> simp [hr]
 refine (key _).trans ?_
 by_cases h1:(ps.length:Int)>=1 <;> by_cases h2:(ps.length:Int)<=64
 ·have e1:¬ ((ps.length:Int)<1):=by omega
  have e2:¬ ((ps.length:Int)>64):=by omega
  simp only [h1,h2,e1,e2,decide_true,decide_false,cond_true,cond_false,Bool.true_and]
 ·have e1:¬ ((ps.length:Int)<1):=by omega
  have e2:((ps.length:Int)>64):=by omega
  simp only [h1,h2,e1,e2,decide_true,decide_false,cond_true,cond_false,Bool.false_and]
 ·have e1:((ps.length:Int)<1):=by omega
  simp only [h1,h2,e1,decide_true,decide_false,cond_true,cond_false,Bool.false_and]
 ·have e1:((ps.length:Int)<1):=by omega
  simp only [h1,h2,e1,decide_true,decide_false,cond_true,cond_false,Bool.false_and]
end Go.Ab

namespace Go.Ab
open Go
set_option maxRecDepth 100000
def loop14a:LoopSem:=⟨[3,0],outs14a,fun vs cs _ K=>match vs,cs with
 | [.int .i64 i,.sl 2 L],[]=>(decP L).bind fun ps=>bif decide (i=0)&&Nat.ble ps.length 200 then cond (mayR ps.length ps) (K (.exit 0) [] []) (K .ret [.bool false] []) else none
 | _,_=>none⟩
def Λ14:Nat->Option LoopSem:=fun q=>bif Nat.beq q 61822 then some loop14b else bif Nat.beq q 60 then some loop14a else none
noncomputable def cx14:Cx:=cx14' Λ14
theorem loop14a_nat:NatL loop14a:=fun vs cs=>by
 unfold loop14a
 dsimp only
 split
 ·exact .bind _ fun _ => .cond _ (.cond _ (.ret _ _ _) (.ret _ _ _)) .none
 ·exact .none
theorem loop14b_nat:NatL loop14b:=fun vs cs=>by
 unfold loop14b
 dsimp only
 split
 ·exact .bind _ fun _ => .cond _ (.optE (.ret _ _ _) fun _ => .ret _ _ _) .none
 ·exact .none
theorem nat14:∀ q L,cx14.Λ q=some L->NatL L:=fun q L h=>by
 replace h:Λ14 q=some L:=h
 unfold Λ14 at h
 cases h1:Nat.beq q 61822 with
 | true=>rw [h1] at h;obtain rfl:=Option.some.inj h;exact loop14b_nat
 | false=>rw [h1] at h;obtain ⟨_,rfl⟩:=cond_some2 h;exact loop14a_nat
theorem loops14:LoopsS cx14 := .of fun k L h=>by
 have hS:SMALL=1152921504606846976:=rfl
 replace h:Λ14 k=some L:=h
 unfold Λ14 at h
 cases h1:Nat.beq k 61822 with
 | true=>
  rw [h1] at h
  obtain rfl:=Option.some.inj h
  refine ⟨pathB,beq_true h1,fun vs cs β K r hr => ?_⟩
  unfold loop14b at hr
  dsimp only at hr
  split at hr
  ·rename_i i j L k a
   replace hr:=bind_some' hr
   obtain ⟨ps,hps,hr⟩:=hr
   replace hr:=cond_some hr
   obtain ⟨hb,hr⟩:=hr
   simp only [Bool.and_eq_true,decide_eq_true_eq] at hb
   obtain ⟨⟨⟨⟨⟨rfl,ha⟩,ha4⟩,hi⟩,hil⟩,hs⟩:=hb
   have hs:=Nat.le_of_ble_eq_true hs
   rw [decP_enc hps]
   refine ⟨(a - 1).toNat+1,?_⟩
   have:=loop14b_spec Λ14 ps k a ha4 hs β K (a - 1).toNat i.toNat 1 (by omega) (by omega) rfl (by omega)
   rw [Int.toNat_of_nonneg hi] at this
   refine this.trans (Eq.trans ?_ hr)
   unfold optE
   cases eat (a - 1).toNat (ps.drop i.toNat) <;> rfl
  ·cases hr
 | false=>
  rw [h1] at h
  obtain ⟨hk,rfl⟩:=cond_some2 h
  refine ⟨pathA,beq_true hk,fun vs cs β K r hr => ?_⟩
  unfold loop14a at hr
  dsimp only at hr
  split at hr
  ·rename_i i L
   replace hr:=bind_some' hr
   obtain ⟨ps,hps,hr⟩:=hr
   replace hr:=cond_some hr
   obtain ⟨hb,hr⟩:=hr
   simp only [Bool.and_eq_true,decide_eq_true_eq] at hb
   obtain ⟨rfl,hs⟩:=hb
   have hs:=Nat.le_of_ble_eq_true hs
   rw [decP_enc hps]
   refine ⟨ps.length+1,?_⟩
   have:=loop14a_spec (fun q=>bif Nat.beq q 60 then some loop14a else none) ps (by omega) β K ps.length 0 (by omega) (by omega)
   rw [List.drop_zero] at this
   exact this.trans hr
  ·cases hr
def gMayS:Callee:=⟨fun args conts _ K=>match args,conts with
 | [.sl 2 L],[]=>(decP L).bind fun ps=>bif Nat.ble ps.length 200 then K (.bool (may ps)) [] else none
 | _,_=>none⟩
theorem mayS_nat:NatC gMayS:=fun args conts=>by
 unfold gMayS
 dsimp only
 split
 ·exact .bind _ fun _ => .cond _ (.ret _ _) .none
 ·exact .none
theorem mayS13:SoundC Go.Proofs.Tryz.prog 82 gMayS:=SoundC.of may_sound fun args conts β K r h=>by
 have hS:SMALL=1152921504606846976:=rfl
 unfold gMayS at h
 dsimp only at h
 split at h
 ·replace h:=bind_some' h
  obtain ⟨ps,hps,h⟩:=h
  replace h:=cond_some h
  obtain ⟨hs,h⟩:=h
  have hs:=Nat.le_of_ble_eq_true hs
  have h2:Nat.ble ps.length SMALL=true:=Nat.ble_eq_true_of_le (by omega)
  simp only [gMay,hps,Option.bind_some,h2,cond_true]
  exact h
 ·cases h
theorem step14f (L:List (List CV)) (β:Type) (K:CV->List (List CV)->Option β):fnK cx14 Go.Proofs.Tryz.f84 [.sl 2 L] [] K=
 cond (decide ((L.length:Int)<1)) (K (.bool false) []) (cond (decide ((L.length:Int)>64)) (K (.bool false) []) ((decP L).bind fun ps=>bif true&&Nat.ble ps.length 200 then cond (mayR ps.length ps) (K (.bool true) []) (K (.bool false) []) else none)):=by kernel_rfl
theorem mayS14:SoundC Go.Proofs.Tryz.prog 84 gMayS:=
 SoundC.of (fnSound (cx:=cx14) (fn:=Go.Proofs.Tryz.f84) Γ1_sound Γ1_nat (eqOK_page rfl rfl) loops14 nat14
  Go.Proofs.Tryz.func84 (by kernel_rfl) (by kernel_rfl) (by kernel_rfl) (Nat.le_of_ble_eq_true (by kernel_rfl)))
  fun args conts β K r h=>by
   unfold gMayS at h
   dsimp only at h
   split at h
   ·rename_i L
    replace h:=bind_some' h
    obtain ⟨ps,hps,h⟩:=h
    replace h:=cond_some h
    obtain ⟨hs,h⟩:=h
    rw [fnC_run,step14f,hps]
    simp only [Option.bind_some,decP_len hps,hs,Bool.and_self,cond_true,<- h,may_eq]
    cases decide ((ps.length:Int)<1) <;> cases decide ((ps.length:Int)>64) <;> cases mayR ps.length ps <;> rfl
   ·cases h
end Go.Ab

namespace Go.Ab
open Go
set_option maxRecDepth 100000
noncomputable abbrev cxT (n:Nat) (root:Code) (Γ:FuncId->Option Callee) (wr:Nat->Bool):Cx:=cxP n root Γ (fun _=>none) wr
theorem plain_sound {n f:Nat} {fn:Func} {Γ:FuncId->Option Callee} {wr:Nat->Bool} (hΓ:∀ f g,Γ f=some g->SoundC Go.Proofs.Tryz.prog f g) (hN:∀ f g,Γ f=some g->NatC g) (hf:Go.Proofs.Tryz.prog.funcs[f]? = some fn)
  (hn:(fn.name == "runtime.NumGoroutine")=false) (hb:fn.body=some (bodyOf fn)) (hnt:n=fn.ntmps) (hpn:fn.params.size+fn.nfree<=fn.ntmps):SoundC Go.Proofs.Tryz.prog f (fnC (cxT n (bodyOf fn) Γ wr) fn):=
 fnSound (cx:=cxT n (bodyOf fn) Γ wr) hΓ hN (eqOK_none fun _=>rfl) (fun p L b h=>by cases h) (fun q L h=>by cases h) hf hn hb hnt hpn
def wordsOf (c:Int):Int:=if c<0 then 0 else if c>=3 then 0 else if c=0 then 2 else if c=1 then 4 else 8
def cellsN (c:Int):Int:=if wordsOf c=0 then 0 else 16 / wordsOf c
def gAddr:Callee:=⟨fun args conts _ K=>match args,conts with
 | [.int .i64 p],[]=>bif decide (0<=p)&&decide (p<=4096) then K (.int .i64 (16*(p+1))) [] else none
 | _,_=>none⟩
def gWords:Callee:=⟨fun args conts _ K=>match args,conts with
 | [.int .i64 c],[]=>K (.int .i64 (wordsOf c)) []
 | _,_=>none⟩
def gCells:Callee:=⟨fun args conts _ K=>match args,conts with
 | [.int .i64 c],[]=>K (.int .i64 (cellsN c)) []
 | _,_=>none⟩
def holdsB (x y a:Int):Bool:=cond (decide (a>=x)) (decide (IntKind.i64.wrap (a - x)<y)) false
def predB (f:Nat) (a x y:Int):Bool:=cond (Nat.beq f 93) (a==x) (cond (Nat.beq f 900030) (holdsB x y a) (decide (a<x)))
def gPred (f:Nat):Callee:=⟨fun args conts _ K=>match args,conts with
 | [.int .i64 a,.agg [.int .i64 x,.int .i64 y]],[]=>K (.bool (predB f a x y)) []
 | _,_=>none⟩
def gOnF:Callee:=⟨fun args conts _ K=>match args,conts with
 | [.sl 2 L,.int .i64 p],[]=>K (.fn 148 [] [.pc [.sl 2 L] 0,.pc [.int .i64 p] 0]) []
 | _,_=>none⟩
def gAllF:Callee:=⟨fun args conts _ K=>match args,conts with
 | [.sl 2 L],[]=>K (.fn 140 [] [.pc [.sl 2 L] 0]) []
 | _,_=>none⟩
theorem addr_nat:NatC gAddr:=fun args conts=>by
 unfold gAddr
 dsimp only
 split
 ·exact .cond _ (.ret _ _) .none
 ·exact .none
theorem words_nat:NatC gWords:=fun args conts=>by
 unfold gWords
 dsimp only
 split
 ·exact .ret _ _
 ·exact .none
theorem cells_nat:NatC gCells:=fun args conts=>by
 unfold gCells
 dsimp only
 split
 ·exact .ret _ _
 ·exact .none
theorem pred_nat (f:Nat):NatC (gPred f):=fun args conts=>by
 unfold gPred
 dsimp only
 split
 ·exact .ret _ _
 ·exact .none
theorem onF_nat:NatC gOnF:=fun args conts=>by
 unfold gOnF
 dsimp only
 split
 ·exact .ret _ _
 ·exact .none
theorem allF_nat:NatC gAllF:=fun args conts=>by
 unfold gAllF
 dsimp only
 split
 ·exact .ret _ _
 ·exact .none
def Γ0:FuncId->Option Callee:=fun _=>none
theorem Γ0_sound:∀ f g,Γ0 f=some g->SoundC Go.Proofs.Tryz.prog f g:=fun f g h=>by cases h
theorem Γ0_nat:∀ f g,Γ0 f=some g->NatC g:=fun f g h=>by cases h
theorem addr_step (p:Int) (β:Type) (K:CV->List (List CV)->Option β):fnK (cxT 6 (bodyOf Go.Proofs.Tryz.f149) Γ0 (fun _=>false)) Go.Proofs.Tryz.f149 [.int .i64 p] [] K=
 K (CV.int IntKind.i64 (IntKind.wrap IntKind.i64 (IntKind.wrap IntKind.i64 (p+1)*16))) []:=by kernel_rfl
theorem addr_sound:SoundC Go.Proofs.Tryz.prog 149 gAddr:=
 SoundC.of (plain_sound (n:=6) (wr:=fun _=>false) Γ0_sound Γ0_nat Go.Proofs.Tryz.func149 (by kernel_rfl) (by kernel_rfl) (by kernel_rfl) (Nat.le_of_ble_eq_true (by kernel_rfl)))
  fun args conts β K r h=>by
   unfold gAddr at h
   dsimp only at h
   split at h
   ·rename_i p
    replace h:=cond_some h
    obtain ⟨hb,h⟩:=h
    simp only [Bool.and_eq_true,decide_eq_true_eq] at hb
    rw [fnC_run,addr_step,IntWalk.i64_in (p+1) (by omega),IntWalk.i64_in _ (by omega),show (p+1)*16=16*(p+1) by omega]
    exact h
   ·cases h
theorem words_step (c:Int) (β:Type) (K:CV->List (List CV)->Option β):fnK (cxT 12 (bodyOf Go.Proofs.Tryz.f128) Γ0 (fun _=>false)) Go.Proofs.Tryz.f128 [.int .i64 c] [] K=
 (bif decide (c<0) then K (CV.int IntKind.i64 0) []
 else
  bif decide (c>=3) then K (CV.int IntKind.i64 0) []
  else
   if 0<=c/\c<((3:Nat):Int) then
    Option.bind ([CV.int IntKind.i64 2,CV.int IntKind.i64 4,CV.int IntKind.i64 8][0+Int.toNat c*szOf Go.Proofs.Tryz.prog 3]?)
     fun x=>Option.bind (asI IntKind.i64 x) fun n=>K (CV.int IntKind.i64 n) []
   else none):=by kernel_rfl
theorem sz3:szOf Go.Proofs.Tryz.prog 3=1:=by kernel_rfl
theorem words_sound:SoundC Go.Proofs.Tryz.prog 128 gWords:=
 SoundC.of (plain_sound (n:=12) (wr:=fun _=>false) Γ0_sound Γ0_nat Go.Proofs.Tryz.func128 (by kernel_rfl) (by kernel_rfl) (by kernel_rfl) (Nat.le_of_ble_eq_true (by kernel_rfl)))
  fun args conts β K r h=>by
   unfold gWords at h
   dsimp only at h
   split at h
   ·rename_i c
    rw [fnC_run,words_step,<- h]
    unfold wordsOf
    by_cases h0:c<0
    ·simp [h0]
    ·by_cases h3:c>=3
     ·simp [h0,h3]
     ·have h1:0<=c/\c<((3:Nat):Int):=⟨by omega,by omega⟩
      rw [if_pos h1,sz3]
      have:c=0\/c=1\/c=2:=by omega
      rcases this with rfl | rfl | rfl <;> rfl
   ·cases h
def ΓC:FuncId->Option Callee:=fun f=>bif Nat.beq f 128 then some gWords else none
theorem ΓC_sound:∀ f g,ΓC f=some g->SoundC Go.Proofs.Tryz.prog f g:=fun f g h=>by
 unfold ΓC at h
 obtain ⟨hb,rfl⟩:=cond_some1 h
 have:=beq_true hb
 subst this
 exact words_sound
theorem ΓC_nat:∀ f g,ΓC f=some g->NatC g:=fun f g h=>by
 unfold ΓC at h
 obtain ⟨_,rfl⟩:=cond_some1 h
 exact words_nat
theorem cells_step (c:Int) (β:Type) (K:CV->List (List CV)->Option β):fnK (cxT 10 (bodyOf Go.Proofs.Tryz.f101) ΓC (fun _=>false)) Go.Proofs.Tryz.f101 [.int .i64 c] [] K=
 (bif wordsOf c==0 then K (CV.int IntKind.i64 0) []
 else (if wordsOf c=0 then none else K (CV.int IntKind.i64 (IntKind.i64.wrap (Int.tdiv 16 (wordsOf c)))) [])):=by kernel_rfl
theorem words_cases (c:Int):wordsOf c=0\/wordsOf c=2\/wordsOf c=4\/wordsOf c=8:=by
 unfold wordsOf
 repeat' split
 all_goals simp
theorem cells_sound:SoundC Go.Proofs.Tryz.prog 101 gCells:=
 SoundC.of (plain_sound (n:=10) (wr:=fun _=>false) ΓC_sound ΓC_nat Go.Proofs.Tryz.func101 (by kernel_rfl) (by kernel_rfl) (by kernel_rfl) (Nat.le_of_ble_eq_true (by kernel_rfl)))
  fun args conts β K r h=>by
   unfold gCells at h
   dsimp only at h
   split at h
   ·rename_i c
    rw [fnC_run,cells_step,<- h]
    unfold cellsN
    rcases words_cases c with e | e | e | e <;> rw [e] <;> rfl
   ·cases h
theorem at_step (x y a:Int) (β:Type) (K:CV->List (List CV)->Option β):fnK (cxT 9 (bodyOf Go.Proofs.Tryz.f93) Γ0 (fun _=>false)) Go.Proofs.Tryz.f93 [.int .i64 a,.agg [.int .i64 x,.int .i64 y]] [] K=K (.bool (a==x)) []:=by kernel_rfl
theorem at_sound:SoundC Go.Proofs.Tryz.prog 93 (gPred 93):=
 SoundC.of (plain_sound (n:=9) (wr:=fun _=>false) Γ0_sound Γ0_nat Go.Proofs.Tryz.func93 (by kernel_rfl) (by kernel_rfl) (by kernel_rfl) (Nat.le_of_ble_eq_true (by kernel_rfl)))
  fun args conts β K r h=>by
   unfold gPred at h
   dsimp only at h
   split at h
   ·rw [fnC_run,at_step];exact h
   ·cases h
theorem onF_step (L:List (List CV)) (p:Int) (β:Type) (K:CV->List (List CV)->Option β):fnK (cxT 6 (bodyOf Go.Proofs.Tryz.f141) Γ0 (fun _=>false)) Go.Proofs.Tryz.f141 [.sl 2 L,.int .i64 p] [] K=
 K (.fn 148 [] [.pc [.sl 2 L] 0,.pc [.int .i64 p] 0]) []:=by kernel_rfl
theorem allF_step (L:List (List CV)) (β:Type) (K:CV->List (List CV)->Option β):fnK (cxT 4 (bodyOf Go.Proofs.Tryz.f122) Γ0 (fun _=>false)) Go.Proofs.Tryz.f122 [.sl 2 L] [] K=
 K (.fn 140 [] [.pc [.sl 2 L] 0]) []:=by kernel_rfl
theorem onF_sound:SoundC Go.Proofs.Tryz.prog 141 gOnF:=
 SoundC.of (plain_sound (n:=6) (wr:=fun _=>false) Γ0_sound Γ0_nat Go.Proofs.Tryz.func141 (by kernel_rfl) (by kernel_rfl) (by kernel_rfl) (Nat.le_of_ble_eq_true (by kernel_rfl)))
  fun args conts β K r h=>by
   unfold gOnF at h
   dsimp only at h
   split at h
   ·rw [fnC_run,onF_step];exact h
   ·cases h
theorem allF_sound:SoundC Go.Proofs.Tryz.prog 122 gAllF:=
 SoundC.of (plain_sound (n:=4) (wr:=fun _=>false) Γ0_sound Γ0_nat Go.Proofs.Tryz.func122 (by kernel_rfl) (by kernel_rfl) (by kernel_rfl) (Nat.le_of_ble_eq_true (by kernel_rfl)))
  fun args conts β K r h=>by
   unfold gAllF at h
   dsimp only at h
   split at h
   ·rw [fnC_run,allF_step];exact h
   ·cases h
end Go.Ab

namespace Go.Ab
open Go
set_option maxRecDepth 100000
def decO:List (List CV)->Option (List (List CV))
 | [[.own 1 L]]=>some L
 | _=>none
def shO:Sh where
 T:=List (List CV)
 n:=1
 un:=fun L=>[[.own 1 L]]
 dec:=decO
 ok:=fun co x h=>by
  unfold decO at h
  split at h
  ·cases h;rfl
  ·cases h
 dec_un:=fun _=>rfl
 len:=fun _=>rfl
def ΓOn:FuncId->Option Callee:=fun f=>bif Nat.beq f 149 then some gAddr else bif Nat.beq f 128 then some gWords else bif Nat.beq f 101 then some gCells else none
theorem ΓOn_all {Q:FuncId->Callee->Prop} (h1:Q 149 gAddr) (h2:Q 128 gWords) (h3:Q 101 gCells):∀ f g,ΓOn f=some g->Q f g:=fun f g h=>by
 unfold ΓOn at h
 cases e1:Nat.beq f 149 with
 | true=>rw [e1] at h;have:=beq_true e1;subst this;cases h;exact h1
 | false=>
  cases e2:Nat.beq f 128 with
  | true=>rw [e1,e2] at h;have:=beq_true e2;subst this;cases h;exact h2
  | false=>
   cases e3:Nat.beq f 101 with
   | true=>rw [e1,e2,e3] at h;have:=beq_true e3;subst this;cases h;exact h3
   | false=>rw [e1,e2,e3] at h;cases h
theorem ΓOn_sound:∀ f g,ΓOn f=some g->SoundC Go.Proofs.Tryz.prog f g:=ΓOn_all addr_sound words_sound cells_sound
theorem ΓOn_nat:∀ f g,ΓOn f=some g->NatC g:=ΓOn_all (Q:=fun _ g=>NatC g) addr_nat words_nat cells_nat
def cellRow (at_ w:Int):Nat->Nat->List Cell
 | _,0=>[]
 | i,n+1=>(at_+(i:Int)*w,w)::cellRow at_ w (i+1) n
noncomputable abbrev bodyOn:Code:=(codeAt (bodyOf Go.Proofs.Tryz.f148) [false,false,true,true,false,true,true,true,false,true,true]).getD .skip
def outsOn:Exit->List Nat:=fun _=>[]
abbrev insOn:List Nat:=[0,5,6,32,33]
abbrev pathOn:List Bool:=[false,true,true,false,true,true,true,false,true,true]
def lOf:CV->Nat
 | .rcd l _ _ _ _ _ _=>l
 | _=>0
noncomputable def loopOn (S:Sh) (c0:CV) (Y:YSem):LoopSem:=⟨insOn,outsOn,fun vs cs _ K=>match vs,cs with
 | [.yld l,.int .i64 a,.int .i64 w,.int .i64 n,.int .i64 i],[c]::co=>bif okC c c0&&okC (.yld l) (.yld (lOf c0))&&decide (i=0)&&decide (0<=n)&&decide (n<=8)&&decide (0<=w)&&decide (w<=8)&&decide (0<=a)&&decide (a<=65536) then (S.dec co).bind fun x=>
   runC S Y (cellRow a w 0 n.toNat) x _ fun s x'=>selS s (K (.exit 1) [] ([c0]::S.un x')) fun k=>K .ret [] ([setS c0 (some k)]::S.un x')
   else none
 | _,_=>none⟩
noncomputable def cxOn (S:Sh) (c0:CV) (Y:YSem):Cx:=
 {P:=Go.Proofs.Tryz.prog,nt:=47,Γ:=ΓOn,Λ:=fun q=>bif Nat.beq q 1910 then some (loopOn S c0 Y) else none,un:=fun _=>false,root:=bodyOf Go.Proofs.Tryz.f148,wr:=fun _=>false,eqT:=fun _=>false,Y:=some (S.n,gY c0 (guardY S Y))}
abbrev rc0 (S:Sh) (l:Nat) (fx:Loop) (ts:List Nat) (env:List CV) (bs:List Nat) (s:Option Nat):CV := .rcd l fx ts env bs S.n s
noncomputable def LBOn (S:Sh) (l:Nat) (fx:Loop) (ts:List Nat) (env:List CV) (bs:List Nat) (Y:YSem) (a w n:Int) (β:Type) (K:Exit->List CV->List (List CV)->Option β) (m:Nat) (i:Int) (s:Option Nat) (x:S.T):Option β:=
 loopB (cxOn S (rc0 S l fx ts env bs none) Y) insOn outsOn pathOn bodyOn m [.yld l,.int .i64 a,.int .i64 w,.int .i64 n,.int .i64 i] ([rc0 S l fx ts env bs s]::S.un x) K
structure OnSteps (S:Sh):Prop where
 loop:∀ (l:Nat) (fx:Loop) (ts:List Nat) (env:List CV) (bs:List Nat) (Y:YSem) (a w n:Int) (β:Type) (K:Exit->List CV->List (List CV)->Option β) (m:Nat) (i:Int) (x:S.T),
  LBOn S l fx ts env bs Y a w n β K (m+1) i none x=cond (decide (i<n)) (cond (decide (l=l)) (cond (okC (rc0 S l fx ts env bs none) (rc0 S l fx ts env bs none))
    (Y [.agg [.int .i64 (IntKind.i64.wrap (a+IntKind.i64.wrap (i*w))),.int .i64 w]] (S.un x) β fun s co=>(S.dec co).bind fun x'=>
     cond (!s.isNone) (K .ret [] ([rc0 S l fx ts env bs s]::S.un x')) (LBOn S l fx ts env bs Y a w n β K m (IntKind.i64.wrap (i+1)) s x')) none) none)
   (K (.exit 1) [] ([rc0 S l fx ts env bs none]::S.un x))
 fn:∀ (l:Nat) (fx:Loop) (ts:List Nat) (env:List CV) (bs:List Nat) (Y:YSem) (L:List (List CV)) (p:Int) (x:S.T) (β:Type) (K:CV->List (List CV)->Option β),
  fnK (cxOn S (rc0 S l fx ts env bs none) Y) Go.Proofs.Tryz.f148 [.yld l,.pc [.sl 2 L] 0,.pc [.int .i64 p] 0] ([rc0 S l fx ts env bs none]::S.un x) K=
  (rdE L p).bind fun c=>(c[0]?).bind fun y=>(asI .i64 y).bind fun n=>(c[1]?).bind fun y=>(asI .i64 y).bind fun b=>
   bif decide (0<=p)&&decide (p<=4096) then
    bif n==2 then
     bif decide (l=l) then bif okC (rc0 S l fx ts env bs none) (rc0 S l fx ts env bs none) then
      Y [.agg [.int .i64 (16*(p+1)),.int .i64 (IntKind.i64.wrap (b*16))]] (S.un x) β fun s co=>(S.dec co).bind fun x'=>K (.tup []) ([rc0 S l fx ts env bs s]::S.un x')
      else none else none
    else bif n==1 then
     bif okC (rc0 S l fx ts env bs none) (rc0 S l fx ts env bs none)&&okC (.yld l) (.yld l)&&decide ((0:Int)=0)&&decide (0<=cellsN b)&&decide (cellsN b<=8)&&decide (0<=wordsOf b)&&decide (wordsOf b<=8)&&decide (0<=16*(p+1))&&decide (16*(p+1)<=65536) then
      (S.dec (S.un x)).bind fun x=>runC S Y (cellRow (16*(p+1)) (wordsOf b) 0 (cellsN b).toNat) x β fun s x'=>selS s (K (.tup []) ([rc0 S l fx ts env bs none]::S.un x')) fun k=>K (.tup []) ([rc0 S l fx ts env bs (some k)]::S.un x')
     else none
    else K (.tup []) ([rc0 S l fx ts env bs none]::S.un x)
   else none
theorem onSteps_O:OnSteps shO where
 loop:=fun l fx ts env bs Y a w n β K m i x=>by kernel_rfl
 fn:=fun l fx ts env bs Y L p x β K=>by kernel_rfl
def cellsP (p:Int) (q:Pg):List Cell:=cond (q.1==2) [(16*(p+1),IntKind.i64.wrap (q.2*16))] (cond (q.1==1) (cellRow (16*(p+1)) (wordsOf q.2) 0 (cellsN q.2).toNat) [])
theorem cellsN_le (c:Int):0<=cellsN c/\cellsN c<=8:=by
 unfold cellsN
 rcases words_cases c with e | e | e | e <;> rw [e] <;> decide
theorem loopOn_spec {S:Sh} (hS:OnSteps S) (l:Nat) (fx:Loop) (ts:List Nat) (env:List CV) (bs:List Nat) (Y:YSem) (a w:Int) (n:Nat) (hn:n<=8) (hw:0<=w/\w<=8) (ha:0<=a/\a<=65536) (β:Type) (K:Exit->List CV->List (List CV)->Option β):
  ∀ (k i:Nat) (x:S.T),i+k=n->LBOn S l fx ts env bs Y a w n β K (k+1) i none x=
   runC S Y (cellRow a w i k) x β fun s x'=>selS s (K (.exit 1) [] ([rc0 S l fx ts env bs none]::S.un x')) fun k=>K .ret [] ([rc0 S l fx ts env bs (some k)]::S.un x')
 | 0,i,x,h=>by
  rw [hS.loop]
  simp [show ¬ ((i:Int)<(n:Int)) by omega,cellRow,runC,selS]
 | k+1,i,x,h=>by
  have hm:0<=(i:Int)*w/\(i:Int)*w<=64:=by
   have h1:(i:Int)<=8:=by omega
   have h2:(i:Int)*w<=8*8:=Int.mul_le_mul h1 hw.2 hw.1 (by omega)
   exact ⟨Int.mul_nonneg (by omega) hw.1,by omega⟩
  rw [hS.loop,IntWalk.i64_in ((i:Int)*w) (by omega),IntWalk.i64_in (a+(i:Int)*w) (by omega),IntWalk.i64_in ((i:Int)+1) (by omega)]
  simp only [show ((i:Int)<(n:Int)) by omega,decide_true,cond_true,okC_self,cellRow,runC,cellV]
  congr 1
  funext s co
  congr 1
  funext x'
  cases s with
  | none=>
   have:=loopOn_spec hS l fx ts env bs Y a w n hn hw ha β K k (i+1) x' (by omega)
   simp only [Option.isNone_none,Bool.not_true,cond_false,selS]
   rw [show ((i:Int)+1)=((i+1:Nat):Int) by omega,this]
   rfl
  | some j=>rfl
def Gon (S:Sh):ItSem:=fun Y caps conts _ K=>match caps with
 | [.pc [.sl 2 L] 0,.pc [.int .i64 p] 0]=>(decP L).bind fun ps=>(S.dec conts).bind fun x=>bif Nat.ble ps.length 200&&decide (0<=p)&&decide (p<(ps.length:Int)) then
   runC S Y (cellsP p (ps.getD p.toNat (0,0))) x _ fun s x'=>K s (S.un x') else none
 | _=>none
theorem Gon_nat (S:Sh):NatI (Gon S):=fun Y hY caps conts=>by
 unfold Gon
 split
 ·exact .bind _ fun _ => .bind _ fun _ => .cond _ (.seq2 (runC_nat hY _ _) fun _ _ => .ret _ _) .none
 ·exact .none
theorem loopOn_nat {S:Sh} {c0:CV} {Y:YSem} (hY:NatYS Y):NatL (loopOn S c0 Y):=fun vs cs=>by
 unfold loopOn
 dsimp only
 split
 ·refine .cond _ (.bind _ fun x => ?_) .none
  rcases runC_nat (S:=S) hY (cellRow _ _ 0 _) x with ⟨s,x',h⟩ | h
  ·cases s with
   | none=>exact .inl ⟨_,_,_,fun β K=>h _ _⟩
   | some k=>exact .inl ⟨_,_,_,fun β K=>h _ _⟩
  ·exact .inr fun β K=>h _ _
 ·exact .none
theorem loopsOn {S:Sh} (hS:OnSteps S) (l:Nat) (fx:Loop) (ts:List Nat) (env:List CV) (bs:List Nat) (Y:YSem):LoopsS (cxOn S (rc0 S l fx ts env bs none) Y) := .of fun k L h=>by
 obtain ⟨hk,rfl⟩:=cond_some2 h
 refine ⟨pathOn,beq_true hk,fun vs cs β K r hr => ?_⟩
 unfold loopOn at hr
 dsimp only at hr
 split at hr
 ·rename_i l' a w n i c co
  replace hr:=cond_some hr
  obtain ⟨hb,hr⟩:=hr
  simp only [Bool.and_eq_true,decide_eq_true_eq] at hb
  obtain ⟨⟨⟨⟨⟨⟨⟨⟨hc,hl⟩,rfl⟩,h1⟩,h2⟩,h3⟩,h4⟩,h5⟩,h6⟩:=hb
  obtain rfl:=okC_eq hc
  obtain rfl:l'=l:=CV.yld.inj (okC_eq hl)
  replace hr:=bind_some' hr
  obtain ⟨x,hx,hr⟩:=hr
  obtain rfl:=S.ok _ _ hx
  refine ⟨n.toNat+1,?_⟩
  have:=loopOn_spec hS l' fx ts env bs Y a w n.toNat (by omega) ⟨h3,h4⟩ ⟨h5,h6⟩ β K n.toNat 0 x (by omega)
  rw [show ((n.toNat:Nat):Int)=n by omega] at this
  exact this.trans hr
 ·cases hr
theorem nxOn {S:Sh} {c0:CV} {Y:YSem} (hY:NatYS Y):NatX (cxOn S c0 Y) where
 c:=ΓOn_nat
 y:=fun y h=>by cases h;exact gY_nat (guard_nat hY)
 it:=fun f G h=>by cases h
 rf:=fun q R h=>by cases h
theorem hI_ne {G:ItSem} {m n:Nat} (hn:¬ n=m) (hG:∀ (Y:YSem) (caps:List CV) (cs:List (List CV)) (β:Type) (K:Option Nat->List (List CV)->Option β) (r:β),G Y caps cs β K=some r->cs.length=m)
  {l:Nat} {fx:Loop} {ts:List Nat} {env:List CV} {bs:List Nat} {Y:YSem} {args:List CV} {conts:List (List CV)} {β:Type} {K:CV->List (List CV)->Option β} {r:β}:¬ (hI l (.rcd l fx ts env bs n none) G Y).run args conts β K=some r:=fun h=>by
 unfold hI at h
 dsimp only at h
 split at h
 ·replace h:=cond_some h
  obtain ⟨hb,h⟩:=h
  simp only [Bool.and_eq_true] at hb
  have h1:=beq_true hb.2
  have h2:=hG _ _ _ _ _ _ h
  exact hn (by rw [<- h2,<- h1];rfl)
 ·cases h
theorem onI {S:Sh} (hS:OnSteps S):SoundI Go.Proofs.Tryz.prog 148 (Gon S):=by
 intro l fx ts env bs n Y hY hSY
 by_cases hn:n=S.n
 ·subst hn
  refine SoundC.of (fnSoundY (cx:=cxOn S (rc0 S l fx ts env bs none) Y) (fn:=Go.Proofs.Tryz.f148) ΓOn_sound (nxOn hY) ⟨eqOK_none fun _=>rfl,fun y h=>(by cases h;exact guard_soundY hY hSY),fun f G h=>(by cases h),fun _ _ _ _ _ _ h=>(by cases h),fun f n h=>(by cases h)⟩
   (loopsOn hS l fx ts env bs Y) (fun q L h=>by obtain ⟨_,rfl⟩:=cond_some2 h;exact loopOn_nat hY) Go.Proofs.Tryz.func148 (by kernel_rfl) (by kernel_rfl) (by kernel_rfl) (Nat.le_of_ble_eq_true (by kernel_rfl))) fun args conts β K r h => ?_
  unfold hI at h
  dsimp only at h
  split at h
  ·rename_i l' caps c cs
   replace h:=cond_some h
   obtain ⟨hb,h⟩:=h
   simp only [Bool.and_eq_true,decide_eq_true_eq] at hb
   obtain ⟨⟨rfl,hc⟩,_⟩:=hb
   obtain rfl:=okC_eq hc
   unfold Gon at h
   split at h
   ·rename_i L p
    replace h:=bind_some' h
    obtain ⟨ps,hps,h⟩:=h
    replace h:=bind_some' h
    obtain ⟨x,hx,h⟩:=h
    replace h:=cond_some h
    obtain ⟨hb,h⟩:=h
    simp only [Bool.and_eq_true,decide_eq_true_eq] at hb
    obtain ⟨⟨h200,h0⟩,hlt⟩:=hb
    have h200:=Nat.le_of_ble_eq_true h200
    obtain rfl:=S.ok _ _ hx
    obtain rfl:=decP_enc hps
    rw [fnC_run,hS.fn,<- h]
    obtain ⟨m,rfl⟩:∃ m:Nat,p=m:=⟨p.toNat,by omega⟩
    have hm:m<ps.length:=by omega
    rw [rdE_map hm]
    simp only [encP,List.getElem?_cons_zero,List.getElem?_cons_succ,Option.bind_some,asI,if_true,Int.toNat_natCast]
    have e0:ps.getD m (0,0)=ps[m]:=by simp [hm]
    rw [e0]
    generalize ps[m]=q
    obtain ⟨k,b⟩:=q
    have hp:(decide (0<=(m:Int))&&decide ((m:Int)<=4096))=true:=by simp;omega
    rw [hp,cond_true]
    unfold cellsP
    dsimp only
    cases h2:k==2 with
    | true=>
     simp only [cond_true,decide_true,okC_self,runC,cellV]
     congr 1
     funext s co
     congr 1
     funext x'
     cases s <;> rfl
    | false=>
     cases h1:k==1 with
     | true=>
      have hc:=cellsN_le b
      have hw:=words_cases b
      have w0:0<=wordsOf b:=by omega
      have w8:wordsOf b<=8:=by omega
      simp only [cond_false,cond_true,okC_self,decide_true,decide_eq_true hc.1,decide_eq_true hc.2,decide_eq_true w0,decide_eq_true w8,decide_eq_true (show 0<=16*((m:Int)+1) by omega),decide_eq_true (show 16*((m:Int)+1)<=65536 by omega),Bool.and_self,S.dec_un,Option.bind_some]
      congr 1
      funext s x'
      cases s <;> rfl
     | false=>rfl
   ·cases h
  ·cases h
 ·refine ⟨⟨Go.Proofs.Tryz.f148,Go.Proofs.Tryz.func148,by kernel_rfl,by kernel_rfl⟩,fun args conts β K r h => ?_⟩
  exact absurd h (hI_ne hn fun Y caps cs β K r h=>by
   unfold Gon at h
   split at h
   ·replace h:=bind_some' h
    obtain ⟨ps,hps,h⟩:=h
    replace h:=bind_some' h
    obtain ⟨x,hx,h⟩:=h
    rw [S.ok _ _ hx,S.len]
   ·cases h)
end Go.Ab

namespace Go.Ab
open Go
set_option maxRecDepth 100000
abbrev pathOnR:List Bool:=[false,true,false,true,true,true]
noncomputable abbrev asOn:Code:=(codeAt (bodyOf Go.Proofs.Tryz.f136) (false::pathOnR)).getD .skip
noncomputable abbrev bdOn:Code:=(codeAt (bodyOf Go.Proofs.Tryz.f136) (true::pathOnR)).getD .skip
def Yout:YSem:=fun args conts _ K=>match args,conts with
 | [.agg [.int .i64 a,.int .i64 _]],[[.own 1 O]]=>if (O++[[CV.int .i64 a]]).length<=LIM then K none [[.own 1 (O++[[CV.int .i64 a]])]] else none
 | _,_=>none
def rfOn:RfSem:=⟨[5],fun env=>match env with
 | [.ref 0]=>Yout
 | _=>fun _ _ _ _=>none⟩
def ΓOnC:FuncId->Option Callee:=fun f=>bif Nat.beq f 82 then some gMay else bif Nat.beq f 141 then some gOnF else none
noncomputable def cx16:Cx:=
 {P:=Go.Proofs.Tryz.prog,nt:=30,Γ:=ΓOnC,Λ:=fun _=>none,un:=fun _=>false,root:=bodyOf Go.Proofs.Tryz.f136,wr:=fun _=>false,eqT:=fun _=>false,It:=fun f=>bif Nat.beq f 148 then some (restr0 (Gon shO)) else none,rf:=fun q=>bif Nat.beq q 122 then some rfOn else none}
theorem roundOn (a b:Int) (O:List (List CV)) (β:Type) (K:Option Nat->List (List CV)->Option β):roundB cx16 [5] pathOnR [23] asOn bdOn [.ref 0] [.agg [.int .i64 a,.int .i64 b]] [[.own 1 O]] K=
 if (O++[[CV.int .i64 a]]).length<=LIM then K none [[.own 1 (O++[[.int .i64 a]])]] else none:=by kernel_rfl
theorem stepOnC (L:List (List CV)) (p:Int) (β:Type) (K:CV->List (List CV)->Option β):fnK cx16 Go.Proofs.Tryz.f136 [.sl 2 L,.int .i64 p] [] K=
 cond (decide (p<0)) (K (.own 1 []) []) (cond (decide (p>=(L.length:Int))) (K (.own 1 []) []) ((decP L).bind fun ps=>bif Nat.ble ps.length SMALL then cond (!may ps) (K (.own 1 []) [])
  ((decP L).bind fun ps=>(shO.dec [[.own 1 []]]).bind fun x=>bif Nat.ble ps.length 200&&decide (0<=p)&&decide (p<(ps.length:Int)) then
   runC shO Yout (cellsP p (ps.getD p.toNat (0,0))) x β fun s x'=>selS s (K (.own 1 x') []) fun k=>bif Nat.beq k 0 then K (.own 1 []) [] else none else none) else none)):=by kernel_rfl
end Go.Ab

namespace Go.Ab
open Go
set_option maxRecDepth 100000
def stOf:CV->Option Nat
 | .rcd _ _ _ _ _ _ s=>s
 | _=>none
noncomputable def shIn (S:Sh) (l:Nat) (fx:Loop) (ts:List Nat) (env:List CV) (bs:List Nat):Sh where
 T:=Option Nat×S.T
 n:=S.n+2
 un:=fun x=>[rc0 S l fx ts env bs x.1]::(S.un x.2++[[.yld l]])
 dec:=fun co=>match co with
  | [c]::rest=>bif okC c (rc0 S l fx ts env bs (stOf c))&&(match rest.getLast? with | some [c']=>okC c' (.yld l) | _=>false) then (S.dec rest.dropLast).bind fun x=>some (stOf c,x) else none
  | _=>none
 ok:=fun co x h=>by
  split at h
  ·rename_i c rest
   replace h:=cond_some h
   obtain ⟨hb,h⟩:=h
   simp only [Bool.and_eq_true] at hb
   obtain ⟨hc,hl⟩:=hb
   split at hl
   ·rename_i c' hg
    obtain ⟨y,hy,h⟩:=bind_some' h
    cases h
    have e1:=S.ok _ _ hy
    have e2:=okC_eq hl
    subst e2
    have e3:rest=rest.dropLast++[[.yld l]]:=by
     have hne:rest≠[]:=by intro h0;subst h0;simp at hg
     rw [List.getLast?_eq_some_getLast hne] at hg
     have:=List.dropLast_concat_getLast hne
     rw [Option.some.inj hg] at this
     exact this.symm
    have e4:=okC_eq hc
    show [c]::rest=[rc0 S l fx ts env bs (stOf c)]::(S.un y++[[.yld l]])
    rw [<- e1,<- e3,<- e4]
   ·cases hl
  ·cases h
 dec_un:=fun x=>by
  simp only [List.getLast?_append,List.getLast?_singleton,Option.some_or,List.dropLast_concat,S.dec_un,Option.bind_some,stOf,okC_self,Bool.and_self,cond_true]
 len:=fun x=>by simp [S.len]
abbrev pathIn:List Bool:=[false,true,true,false,false,true,true,false,false,true,true,true]
noncomputable abbrev asIn:Code:=(codeAt (bodyOf Go.Proofs.Tryz.f140) (false::pathIn)).getD .skip
noncomputable abbrev bdIn:Code:=(codeAt (bodyOf Go.Proofs.Tryz.f140) (true::pathIn)).getD .skip
noncomputable def Yin (S:Sh) (l:Nat) (fx:Loop) (ts:List Nat) (env:List CV) (bs:List Nat) (Y:YSem):YSem:=fun args conts _ K=>match args with
 | [.agg [.int .i64 a,.int .i64 b]]=>((shIn S l fx ts env bs).dec conts).bind fun x=>bif x.1.isNone then
   Y [.agg [.int .i64 a,.int .i64 b]] (S.un x.2) _ fun s co=>(S.dec co).bind fun x'=>selS s (K none ((shIn S l fx ts env bs).un (none,x'))) fun k=>K (some 0) ((shIn S l fx ts env bs).un (some k,x')) else none
 | _=>none
noncomputable def rfIn (S:Sh) (l:Nat) (fx:Loop) (ts:List Nat) (env:List CV) (bs:List Nat) (Y:YSem):RfSem:=⟨[2],fun en=>match en with
 | [.ref k]=>bif Nat.beq k (S.n+1) then Yin S l fx ts env bs Y else fun _ _ _ _=>none
 | _=>fun _ _ _ _=>none⟩
def allFrom:Nat->List Pg->List Cell
 | _,[]=>[]
 | i,q::r=>cellsP (i:Int) q++allFrom (i+1) r
noncomputable abbrev bodyAll:Code:=(codeAt (bodyOf Go.Proofs.Tryz.f140) [false,false,true,true,true]).getD .skip
abbrev pathAll:List Bool:=[false,true,true,true]
abbrev insAll:List Nat:=[2,1,9,10]
def outsAll:Exit->List Nat:=fun _=>[]
noncomputable def loopAll (S:Sh) (l:Nat) (fx:Loop) (ts:List Nat) (env:List CV) (bs:List Nat) (Y:YSem):LoopSem:=⟨insAll,outsAll,fun vs cs _ K=>match vs with
 | [.ref k,.pc [.sl 2 L] 0,.int .i64 n,.int .i64 i]=>(decP L).bind fun ps=>bif Nat.beq k (S.n+1)&&decide (n=(ps.length:Int))&&decide (i=0)&&Nat.ble ps.length 200 then ((shIn S l fx ts env bs).dec cs).bind fun x=>bif x.1.isNone then
   runC S Y (allFrom 0 ps) x.2 _ fun s x'=>selS s (K (.exit 0) [] ((shIn S l fx ts env bs).un (none,x'))) fun k=>K .ret [] ((shIn S l fx ts env bs).un (some k,x'))
   else none else none
 | _=>none⟩
noncomputable def cxAll (S:Sh) (l:Nat) (fx:Loop) (ts:List Nat) (env:List CV) (bs:List Nat) (Y:YSem):Cx:=
 {P:=Go.Proofs.Tryz.prog,nt:=22,Γ:=ΓOnC,Λ:=fun q=>bif Nat.beq q 30 then some (loopAll S l fx ts env bs Y) else none,un:=fun _=>false,root:=bodyOf Go.Proofs.Tryz.f140,wr:=fun _=>false,eqT:=fun _=>false,
  Y:=some (S.n,gY (rc0 S l fx ts env bs none) (guardY S Y)),It:=fun f=>bif Nat.beq f 148 then some (restr0 (Gon (shIn S l fx ts env bs))) else none,rf:=fun q=>bif Nat.beq q 7782 then some (rfIn S l fx ts env bs Y) else none}
noncomputable def LBAll (S:Sh) (l:Nat) (fx:Loop) (ts:List Nat) (env:List CV) (bs:List Nat) (Y:YSem) (L:List (List CV)) (n:Int) (β:Type) (K:Exit->List CV->List (List CV)->Option β) (m:Nat) (i:Int) (x:Option Nat×S.T):Option β:=
 loopB (cxAll S l fx ts env bs Y) insAll outsAll pathAll bodyAll m [.ref (S.n+1),.pc [.sl 2 L] 0,.int .i64 n,.int .i64 i] ((shIn S l fx ts env bs).un x) K
structure AllSteps (S:Sh):Prop where
 on:∀ (l:Nat) (fx:Loop) (ts:List Nat) (env:List CV) (bs:List Nat),OnSteps (shIn S l fx ts env bs)
 rd:∀ (l:Nat) (fx:Loop) (ts:List Nat) (env:List CV) (bs:List Nat) (Y:YSem) (a b:Int) (x:S.T) (β:Type) (K:Option Nat->List (List CV)->Option β),
  roundB (cxAll S l fx ts env bs Y) [2] pathIn [16] asIn bdIn [.ref (S.n+1)] [.agg [.int .i64 a,.int .i64 b]] ((shIn S l fx ts env bs).un (none,x)) K=
  cond (decide (l=l)) (cond (okC (rc0 S l fx ts env bs none) (rc0 S l fx ts env bs none)) (Y [.agg [.int .i64 a,.int .i64 b]] (S.un x) _ fun s co=>(S.dec co).bind fun x'=>
   cond (!s.isNone) (K (some 0) ((shIn S l fx ts env bs).un (s,x'))) (K none ((shIn S l fx ts env bs).un (s,x')))) none) none
 loop:∀ (l:Nat) (fx:Loop) (ts:List Nat) (env:List CV) (bs:List Nat) (Y:YSem) (L:List (List CV)) (n:Int) (β:Type) (K:Exit->List CV->List (List CV)->Option β) (m:Nat) (i:Int) (x:S.T),
  LBAll S l fx ts env bs Y L n β K (m+1) i (none,x)=cond (decide (i<n))
   ((decP L).bind fun ps=>((shIn S l fx ts env bs).dec ((shIn S l fx ts env bs).un (none,x))).bind fun x=>bif Nat.ble ps.length 200&&decide (0<=i)&&decide (i<(ps.length:Int)) then
    runC (shIn S l fx ts env bs) (Yin S l fx ts env bs Y) (cellsP i (ps.getD i.toNat (0,0))) x β fun s x'=>selS s (LBAll S l fx ts env bs Y L n β K m (IntKind.i64.wrap (i+1)) x') fun k=>bif Nat.beq k 0 then K .ret [] ((shIn S l fx ts env bs).un x') else none
    else none)
   (K (.exit 0) [] ((shIn S l fx ts env bs).un (none,x)))
 fn:∀ (l:Nat) (fx:Loop) (ts:List Nat) (env:List CV) (bs:List Nat) (Y:YSem) (L:List (List CV)) (x:S.T) (β:Type) (K:CV->List (List CV)->Option β),
  fnK (cxAll S l fx ts env bs Y) Go.Proofs.Tryz.f140 [.yld l,.pc [.sl 2 L] 0] ([rc0 S l fx ts env bs none]::S.un x) K=
  (decP L).bind fun ps=>bif Nat.ble ps.length SMALL then cond (!may ps) (K (.tup []) ([rc0 S l fx ts env bs none]::S.un x))
   ((decP L).bind fun ps=>bif Nat.beq (S.n+1) (S.n+1)&&decide ((L.length:Int)=(ps.length:Int))&&decide ((0:Int)=0)&&Nat.ble ps.length 200 then ((shIn S l fx ts env bs).dec ((shIn S l fx ts env bs).un (none,x))).bind fun x=>bif x.1.isNone then
    runC S Y (allFrom 0 ps) x.2 β fun s x'=>selS s (K (.tup []) ([rc0 S l fx ts env bs none]::S.un x')) fun k=>K (.tup []) ([rc0 S l fx ts env bs (some k)]::S.un x')
    else none else none) else none
theorem onSteps_inO (l:Nat) (fx:Loop) (ts:List Nat) (env:List CV) (bs:List Nat):OnSteps (shIn shO l fx ts env bs) where
 loop:=fun l fx ts env bs Y a w n β K m i x=>by kernel_rfl
 fn:=fun l fx ts env bs Y L p x β K=>by kernel_rfl
theorem allSteps_O:AllSteps shO where
 on:=onSteps_inO
 rd:=fun l fx ts env bs Y a b x β K=>by kernel_rfl
 loop:=fun l fx ts env bs Y L n β K m i x=>by kernel_rfl
 fn:=fun l fx ts env bs Y L x β K=>by kernel_rfl
end Go.Ab

namespace Go.Ab
open Go
set_option maxRecDepth 100000
theorem bind_in {S:Sh} {l:Nat} {fx:Loop} {ts:List Nat} {env:List CV} {bs:List Nat} (s:Option Nat) (x:S.T) {γ:Type} (f:(shIn S l fx ts env bs).T->Option γ):((shIn S l fx ts env bs).dec ((shIn S l fx ts env bs).un (s,x))).bind f=f (s,x):=by
 rw [(shIn S l fx ts env bs).dec_un (s,x)]
 rfl
theorem runC_in {S:Sh} {l:Nat} {fx:Loop} {ts:List Nat} {env:List CV} {bs:List Nat} {Y:YSem}:∀ (cs:List Cell) (x:S.T) (β:Type) (K:Option Nat->Option Nat×S.T->Option β),
  runC (shIn S l fx ts env bs) (Yin S l fx ts env bs Y) cs (none,x) β K=runC S Y cs x β fun s x'=>selS s (K none (none,x')) fun k=>K (some 0) (some k,x')
 | [],x,β,K=>rfl
 | c::cs,x,β,K=>by
  simp only [runC,cellV,Yin,bind_in,Option.isNone_none,cond_true]
  congr 1
  funext s co
  congr 1
  funext x'
  cases s with
  | none=>
   simp only [selS]
   exact runC_in cs x' β K
  | some k=>rfl
theorem Yin_nat {S:Sh} {l:Nat} {fx:Loop} {ts:List Nat} {env:List CV} {bs:List Nat} {Y:YSem} (hY:NatYS Y):NatYS (Yin S l fx ts env bs Y):=fun args conts=>by
 unfold Yin
 split
 ·exact .bind _ fun _ => .cond _ (.seq2 (hY _ _) fun _ _ => .bind _ fun _ => .selS (.ret _ _) fun _ => .ret _ _) .none
 ·exact .none
theorem loopAll_spec {S:Sh} (hS:AllSteps S) (l:Nat) (fx:Loop) (ts:List Nat) (env:List CV) (bs:List Nat) (Y:YSem) (ps:List Pg) (h200:ps.length<=200) (β:Type) (K:Exit->List CV->List (List CV)->Option β):
  ∀ (k i:Nat) (x:S.T),i+k=ps.length->LBAll S l fx ts env bs Y (ps.map encP) (ps.length:Int) β K (k+1) i (none,x)=
   runC S Y (allFrom i (ps.drop i)) x β fun s x'=>selS s (K (.exit 0) [] ((shIn S l fx ts env bs).un (none,x'))) fun k=>K .ret [] ((shIn S l fx ts env bs).un (some k,x'))
 | 0,i,x,h=>by
  rw [hS.loop,List.drop_eq_nil_of_le (by omega)]
  simp [show ¬ ((i:Int)<(ps.length:Int)) by omega,allFrom,runC,selS]
 | k+1,i,x,h=>by
  have hi:i<ps.length:=by omega
  have hd:ps.drop i=ps[i]::ps.drop (i+1):=List.drop_eq_getElem_cons hi
  have hb:Nat.ble ps.length 200=true:=Nat.ble_eq_true_of_le h200
  have e0:ps.getD i (0,0)=ps[i]:=by simp [hi]
  rw [hS.loop,hd]
  simp only [decP_map,Option.bind_some,bind_in,hb,decide_eq_true (show (0:Int)<=(i:Int) by omega),decide_eq_true (show (i:Int)<(ps.length:Int) by omega),Bool.and_self,cond_true,Int.toNat_natCast,e0,allFrom]
  refine (runC_in (S:=S) _ x β _).trans ?_
  rw [runC_append,IntWalk.i64_in ((i:Int)+1) (by omega)]
  congr 1
  funext s x'
  cases s with
  | none=>
   have:=loopAll_spec hS l fx ts env bs Y ps h200 β K k (i+1) x' (by omega)
   simp only [selS]
   rw [show ((i:Int)+1)=((i+1:Nat):Int) by omega,this]
   rfl
  | some j=>rfl
def Gall (S:Sh):ItSem:=fun Y caps conts _ K=>match caps with
 | [.pc [.sl 2 L] 0]=>(decP L).bind fun ps=>(S.dec conts).bind fun x=>bif Nat.ble ps.length 200 then
   cond (may ps) (runC S Y (allFrom 0 ps) x _ fun s x'=>K s (S.un x')) (K none (S.un x)) else none
 | _=>none
theorem Gall_nat (S:Sh):NatI (Gall S):=fun Y hY caps conts=>by
 unfold Gall
 split
 ·exact .bind _ fun _ => .bind _ fun _ => .cond _ (.cond _ (.seq2 (runC_nat hY _ _) fun _ _ => .ret _ _) (.ret _ _)) .none
 ·exact .none
theorem loopAll_nat {S:Sh} {l:Nat} {fx:Loop} {ts:List Nat} {env:List CV} {bs:List Nat} {Y:YSem} (hY:NatYS Y):NatL (loopAll S l fx ts env bs Y):=fun vs cs=>by
 unfold loopAll
 dsimp only
 split
 ·refine .bind _ fun ps => .cond _ (.bind _ fun x => .cond _ ?_ .none) .none
  rcases runC_nat (S:=S) hY (allFrom 0 ps) x.2 with ⟨s,x',h⟩ | h
  ·cases s with
   | none=>exact .inl ⟨_,_,_,fun β K=>h _ _⟩
   | some k=>exact .inl ⟨_,_,_,fun β K=>h _ _⟩
  ·exact .inr fun β K=>h _ _
 ·exact .none
theorem pair_none {S:Sh} {x:Option Nat×S.T} (h:x.1.isNone=true):x=(none,x.2):=by
 obtain ⟨s,x⟩:=x
 cases s with
 | none=>rfl
 | some k=>cases h
theorem loopsAll {S:Sh} (hS:AllSteps S) (l:Nat) (fx:Loop) (ts:List Nat) (env:List CV) (bs:List Nat) (Y:YSem):LoopsS (cxAll S l fx ts env bs Y) := .of fun k L h=>by
 obtain ⟨hk,rfl⟩:=cond_some2 h
 refine ⟨pathAll,beq_true hk,fun vs cs β K r hr => ?_⟩
 unfold loopAll at hr
 dsimp only at hr
 split at hr
 ·rename_i k L n i
  replace hr:=bind_some' hr
  obtain ⟨ps,hps,hr⟩:=hr
  replace hr:=cond_some hr
  obtain ⟨hb,hr⟩:=hr
  simp only [Bool.and_eq_true,decide_eq_true_eq] at hb
  obtain ⟨⟨⟨hk,rfl⟩,rfl⟩,h200⟩:=hb
  have hk:=beq_true hk
  subst hk
  replace hr:=bind_some' hr
  obtain ⟨x,hx,hr⟩:=hr
  replace hr:=cond_some hr
  obtain ⟨hn,hr⟩:=hr
  rw [(shIn S l fx ts env bs).ok _ _ hx,pair_none hn,decP_enc hps]
  refine ⟨ps.length+1,?_⟩
  have:=loopAll_spec hS l fx ts env bs Y ps (Nat.le_of_ble_eq_true h200) β K ps.length 0 x.2 (by omega)
  rw [List.drop_zero] at this
  exact this.trans hr
 ·cases hr
theorem ΓOnC_all {Q:FuncId->Callee->Prop} (h1:Q 82 gMay) (h2:Q 141 gOnF):∀ f g,ΓOnC f=some g->Q f g:=fun f g h=>by
 unfold ΓOnC at h
 cases e1:Nat.beq f 82 with
 | true=>rw [e1] at h;have:=beq_true e1;subst this;cases h;exact h1
 | false=>
  rw [e1] at h
  obtain ⟨hb,rfl⟩:=cond_some1 h
  have:=beq_true hb
  subst this
  exact h2
theorem ΓOnC_sound:∀ f g,ΓOnC f=some g->SoundC Go.Proofs.Tryz.prog f g:=ΓOnC_all may_sound onF_sound
theorem ΓOnC_nat:∀ f g,ΓOnC f=some g->NatC g:=ΓOnC_all (Q:=fun _ g=>NatC g) may_nat onF_nat
theorem cond_some3.{u} {b:Bool} {α:Type u} {g g':α} (h:(bif b then some g else none)=some g'):b=true/\g=g':=by
 cases b with
 | true=>exact ⟨rfl,Option.some.inj h⟩
 | false=>cases h
theorem nxAll {S:Sh} {l:Nat} {fx:Loop} {ts:List Nat} {env:List CV} {bs:List Nat} {Y:YSem} (hY:NatYS Y):NatX (cxAll S l fx ts env bs Y) where
 c:=ΓOnC_nat
 y:=fun y h=>by cases h;exact gY_nat (guard_nat hY)
 it:=fun f G h=>by obtain ⟨_,rfl⟩:=cond_some3 h;exact restr0_nat (Gon_nat _)
 rf:=fun q R h en=>by
  obtain ⟨_,rfl⟩:=cond_some3 h
  unfold rfIn
  dsimp only
  split
  ·rename_i k
   cases Nat.beq k (S.n+1) with
   | true=>exact Yin_nat hY
   | false=>exact fun _ _ => .none
  ·exact fun _ _ => .none
theorem roundsAll {S:Sh} (hS:AllSteps S) (l:Nat) (fx:Loop) (ts:List Nat) (env:List CV) (bs:List Nat) (Y:YSem):RoundsS (cxAll S l fx ts env bs Y):=fun p R g ps asg bd h hp en args conts β K r hr=>by
 obtain ⟨hq,rfl⟩:=cond_some3 h
 have hp0:=pathN_inj p pathIn (beq_true hq)
 subst hp0
 have hpp:codeAt (bodyOf Go.Proofs.Tryz.f140) pathIn=some (.rangeFunc (.tmp 15) #[16] asIn bdIn):=by kernel_rfl
 have hp':codeAt (bodyOf Go.Proofs.Tryz.f140) pathIn=some (.rangeFunc g ps asg bd):=hp
 rw [hpp] at hp'
 cases hp'
 unfold rfIn at hr
 dsimp only at hr
 split at hr
 ·rename_i k
  cases hk:Nat.beq k (S.n+1) with
  | false=>rw [hk] at hr;cases hr
  | true=>
   rw [hk,cond_true] at hr
   have hk:=beq_true hk
   subst hk
   unfold Yin at hr
   split at hr
   ·rename_i a b
    replace hr:=bind_some' hr
    obtain ⟨x,hx,hr⟩:=hr
    replace hr:=cond_some hr
    obtain ⟨hn,hr⟩:=hr
    rw [(shIn S l fx ts env bs).ok _ _ hx,pair_none hn]
    show roundB (cxAll S l fx ts env bs Y) [2] pathIn [16] asIn bdIn _ _ _ K=some r
    rw [hS.rd,<- hr]
    simp only [decide_true,okC_self,cond_true]
    exact congrArg (Y _ _ β) (funext fun s=>funext fun co=>congrArg (Option.bind (S.dec co)) (funext fun x'=>by cases s <;> rfl))
   ·cases hr
 ·cases hr
theorem allI {S:Sh} (hS:AllSteps S):SoundI Go.Proofs.Tryz.prog 140 (Gall S):=by
 intro l fx ts env bs n Y hY hSY
 by_cases hn:n=S.n
 ·subst hn
  refine SoundC.of (fnSoundY (cx:=cxAll S l fx ts env bs Y) (fn:=Go.Proofs.Tryz.f140) ΓOnC_sound (nxAll hY) ⟨eqOK_none fun _=>rfl,fun y h=>(by cases h;exact guard_soundY hY hSY),fun f G h=>(by
    obtain ⟨hf,rfl⟩:=cond_some3 h
    have:=beq_true hf
    subst this
    exact restr0_sound (Gon_nat _) (onI (hS.on l fx ts env bs))),roundsAll hS l fx ts env bs Y,fun f n h=>(by cases h)⟩
   (loopsAll hS l fx ts env bs Y) (fun q L h=>by obtain ⟨_,rfl⟩:=cond_some2 h;exact loopAll_nat hY) Go.Proofs.Tryz.func140 (by kernel_rfl) (by kernel_rfl) (by kernel_rfl) (Nat.le_of_ble_eq_true (by kernel_rfl))) fun args conts β K r h => ?_
  unfold hI at h
  dsimp only at h
  split at h
  ·rename_i l' caps c cs
   replace h:=cond_some h
   obtain ⟨hb,h⟩:=h
   simp only [Bool.and_eq_true,decide_eq_true_eq] at hb
   obtain ⟨⟨rfl,hc⟩,_⟩:=hb
   obtain rfl:=okC_eq hc
   unfold Gall at h
   split at h
   ·rename_i L
    replace h:=bind_some' h
    obtain ⟨ps,hps,h⟩:=h
    replace h:=bind_some' h
    obtain ⟨x,hx,h⟩:=h
    replace h:=cond_some h
    obtain ⟨h200,h⟩:=h
    obtain rfl:=S.ok _ _ hx
    have hle:=Nat.le_of_ble_eq_true h200
    have hsm:Nat.ble ps.length SMALL=true:=Nat.ble_eq_true_of_le (by have:SMALL=1152921504606846976:=rfl;omega)
    rw [fnC_run,hS.fn,hps,<- h]
    simp only [Option.bind_some,hsm,h200,decP_len hps,decide_true,Nat.beq_refl,Bool.and_self,cond_true,bind_in,Option.isNone_none]
    cases may ps with
    | false=>rfl
    | true=>
     simp only [Bool.not_true,cond_false,cond_true]
     congr 1
     funext s x'
     cases s <;> rfl
   ·cases h
  ·cases h
 ·refine ⟨⟨Go.Proofs.Tryz.f140,Go.Proofs.Tryz.func140,by kernel_rfl,by kernel_rfl⟩,fun args conts β K r h => ?_⟩
  exact absurd h (hI_ne hn fun Y caps cs β K r h=>by
   unfold Gall at h
   split at h
   ·replace h:=bind_some' h
    obtain ⟨ps,hps,h⟩:=h
    replace h:=bind_some' h
    obtain ⟨x,hx,h⟩:=h
    rw [S.ok _ _ hx,S.len]
   ·cases h)
end Go.Ab

namespace Go.Ab
open Go
set_option maxRecDepth 100000
def atV (cs:List Cell):List (List CV):=cs.map fun c=>[CV.int .i64 c.1]
theorem Yout_nat:NatYS Yout:=fun args conts=>by
 unfold Yout
 split
 ·split
  ·exact .ret _ _
  ·exact .none
 ·exact .none
theorem runC_out:∀ (cs:List Cell) (O:List (List CV)) (β:Type) (K:Option Nat->List (List CV)->Option β),O.length+cs.length<=LIM->runC shO Yout cs O β K=K none (O++atV cs)
 | [],O,β,K,_=>by simp [runC,atV]
 | c::cs,O,β,K,h=>by
  simp only [List.length_cons] at h
  have hl:(O++[[CV.int .i64 c.1]]).length<=LIM:=by simp;omega
  have:=runC_out cs (O++[[CV.int .i64 c.1]]) β K (by simp;omega)
  simp only [runC,cellV,shO,Yout,if_pos hl,decO,Option.bind_some,selS] at this ⊢
  rw [this]
  simp [atV]
theorem cellRow_len (a w:Int):∀ (n i:Nat),(cellRow a w i n).length=n
 | 0,_=>rfl
 | n+1,i=>by simp [cellRow,cellRow_len a w n]
theorem cellsP_len (p:Int) (q:Pg):(cellsP p q).length<=8:=by
 unfold cellsP
 have:=cellsN_le q.2
 cases q.1==2 <;> cases q.1==1 <;> simp [cellRow_len] <;> omega
theorem allFrom_len:∀ (ps:List Pg) (i:Nat),(allFrom i ps).length<=8*ps.length
 | [],_=>Nat.le_refl _
 | q::r,i=>by
  have h1:=cellsP_len (i:Int) q
  have h2:=allFrom_len r (i+1)
  simp only [allFrom,List.length_append,List.length_cons]
  omega
def onL (ps:List Pg) (p:Int):List Cell:=cond (decide (p<0)) [] (cond (decide (p>=(ps.length:Int))) [] (cond (may ps) (cellsP p (ps.getD p.toNat (0,0))) []))
def allCs (ps:List Pg):List Cell:=cond (may ps) (allFrom 0 ps) []
def gOnC:Callee:=⟨fun args conts _ K=>match args,conts with
 | [.sl 2 L,.int .i64 p],[]=>(decP L).bind fun ps=>bif Nat.ble ps.length 200 then K (.own 1 (atV (onL ps p))) [] else none
 | _,_=>none⟩
def gAllC:Callee:=⟨fun args conts _ K=>match args,conts with
 | [.sl 2 L],[]=>(decP L).bind fun ps=>bif Nat.ble ps.length 200 then K (.own 1 (atV (allCs ps))) [] else none
 | _,_=>none⟩
theorem onC_nat:NatC gOnC:=fun args conts=>by
 unfold gOnC
 dsimp only
 split
 ·exact .bind _ fun _ => .cond _ (.ret _ _) .none
 ·exact .none
theorem allC_nat:NatC gAllC:=fun args conts=>by
 unfold gAllC
 dsimp only
 split
 ·exact .bind _ fun _ => .cond _ (.ret _ _) .none
 ·exact .none
theorem rfOn_nat (en:List CV):NatYS (rfOn.Y en):=by
 unfold rfOn
 dsimp only
 split
 ·exact Yout_nat
 ·exact fun _ _ => .none
theorem smOf {n:Nat} (h:Nat.ble n 200=true):Nat.ble n SMALL=true:=by
 have:=Nat.le_of_ble_eq_true h
 exact Nat.ble_eq_true_of_le (by have:SMALL=1152921504606846976:=rfl;omega)
theorem nx16:NatX cx16 where
 c:=ΓOnC_nat
 y:=fun y h=>by cases h
 it:=fun f G h=>by obtain ⟨_,rfl⟩:=cond_some3 h;exact restr0_nat (Gon_nat _)
 rf:=fun q R h en=>by obtain ⟨_,rfl⟩:=cond_some3 h;exact rfOn_nat en
theorem rounds16:RoundsS cx16:=fun p R g ps asg bd h hp en args conts β K r hr=>by
 obtain ⟨hq,rfl⟩:=cond_some3 h
 have hp0:=pathN_inj p pathOnR (beq_true hq)
 subst hp0
 have hpp:codeAt (bodyOf Go.Proofs.Tryz.f136) pathOnR=some (.rangeFunc (.tmp 22) #[23] asOn bdOn):=by kernel_rfl
 have hp':codeAt (bodyOf Go.Proofs.Tryz.f136) pathOnR=some (.rangeFunc g ps asg bd):=hp
 rw [hpp] at hp'
 cases hp'
 unfold rfOn at hr
 dsimp only at hr
 split at hr
 ·unfold Yout at hr
  split at hr
  ·rename_i a b O
   exact (roundOn a b O β K).trans hr
  ·cases hr
 ·cases hr
theorem onC_sound:SoundC Go.Proofs.Tryz.prog 136 gOnC:=
 SoundC.of (fnSoundY (cx:=cx16) (fn:=Go.Proofs.Tryz.f136) ΓOnC_sound nx16 ⟨eqOK_none fun _=>rfl,fun y h=>(by cases h),fun f G h=>(by
   obtain ⟨hf,rfl⟩:=cond_some3 h
   have:=beq_true hf
   subst this
   exact restr0_sound (Gon_nat _) (onI onSteps_O)),rounds16,fun f n h=>(by cases h)⟩ (fun p L b h=>by cases h) (fun q L h=>by cases h)
  Go.Proofs.Tryz.func136 (by kernel_rfl) (by kernel_rfl) (by kernel_rfl) (Nat.le_of_ble_eq_true (by kernel_rfl)))
  fun args conts β K r h=>by
   unfold gOnC at h
   dsimp only at h
   split at h
   ·rename_i L p
    replace h:=bind_some' h
    obtain ⟨ps,hps,h⟩:=h
    replace h:=cond_some h
    obtain ⟨h200,h⟩:=h
    rw [fnC_run,stepOnC,hps,<- h]
    unfold onL
    rw [decP_len hps]
    cases h0:decide (p<0) with
    | true=>rfl
    | false=>
     cases h1:decide (p>=(ps.length:Int)) with
     | true=>rfl
     | false=>
      have d0:decide (0<=p)=true:=by simp at h0 ⊢;exact h0
      have d1:decide (p<(ps.length:Int))=true:=by simp at h1 ⊢;exact h1
      simp only [cond_false,Option.bind_some,smOf h200,cond_true,h200,d0,d1,Bool.and_self]
      cases may ps with
      | false=>rfl
      | true=>
       simp only [Bool.not_true,cond_false,cond_true,show shO.dec [[.own 1 []]]=some [] from rfl]
       refine (runC_out _ [] β _ ?_).trans ?_
       ·have hL:LIM=4294967296:=rfl
        have:=cellsP_len p (ps.getD p.toNat (0,0))
        exact Nat.le_trans (Nat.add_le_add (Nat.le_refl _) this) (by rw [hL];decide)
       ·rfl
   ·cases h
/-! ### All -/
abbrev pathAllR:List Bool:=[false,true,false,true,true]
noncomputable abbrev asAll:Code:=(codeAt (bodyOf Go.Proofs.Tryz.f80) (false::pathAllR)).getD .skip
noncomputable abbrev bdAll:Code:=(codeAt (bodyOf Go.Proofs.Tryz.f80) (true::pathAllR)).getD .skip
def rfAll:RfSem:=⟨[3],rfOn.Y⟩
def ΓAllC:FuncId->Option Callee:=fun f=>bif Nat.beq f 122 then some gAllF else none
theorem ΓAllC_sound:∀ f g,ΓAllC f=some g->SoundC Go.Proofs.Tryz.prog f g:=fun f g h=>by
 unfold ΓAllC at h
 obtain ⟨hb,rfl⟩:=cond_some1 h
 have:=beq_true hb
 subst this
 exact allF_sound
theorem ΓAllC_nat:∀ f g,ΓAllC f=some g->NatC g:=fun f g h=>by
 unfold ΓAllC at h
 obtain ⟨_,rfl⟩:=cond_some1 h
 exact allF_nat
noncomputable def cx12:Cx:=
 {P:=Go.Proofs.Tryz.prog,nt:=14,Γ:=ΓAllC,Λ:=fun _=>none,un:=fun _=>false,root:=bodyOf Go.Proofs.Tryz.f80,wr:=fun _=>false,eqT:=fun _=>false,It:=fun f=>bif Nat.beq f 140 then some (restr0 (Gall shO)) else none,rf:=fun q=>bif Nat.beq q 58 then some rfAll else none}
theorem roundAll (a b:Int) (O:List (List CV)) (β:Type) (K:Option Nat->List (List CV)->Option β):roundB cx12 [3] pathAllR [7] asAll bdAll [.ref 0] [.agg [.int .i64 a,.int .i64 b]] [[.own 1 O]] K=
 if (O++[[CV.int .i64 a]]).length<=LIM then K none [[.own 1 (O++[[.int .i64 a]])]] else none:=by kernel_rfl
theorem stepAllC (L:List (List CV)) (β:Type) (K:CV->List (List CV)->Option β):fnK cx12 Go.Proofs.Tryz.f80 [.sl 2 L] [] K=
 (decP L).bind fun ps=>(shO.dec [[.own 1 []]]).bind fun x=>bif Nat.ble ps.length 200 then cond (may ps) (runC shO Yout (allFrom 0 ps) x β fun s x'=>selS s (K (.own 1 x') []) fun k=>bif Nat.beq k 0 then K (.own 1 []) [] else none) (K (.own 1 x) []) else none:=by kernel_rfl
theorem nx12:NatX cx12 where
 c:=ΓAllC_nat
 y:=fun y h=>by cases h
 it:=fun f G h=>by obtain ⟨_,rfl⟩:=cond_some3 h;exact restr0_nat (Gall_nat _)
 rf:=fun q R h en=>by obtain ⟨_,rfl⟩:=cond_some3 h;exact rfOn_nat en
theorem rounds12:RoundsS cx12:=fun p R g ps asg bd h hp en args conts β K r hr=>by
 obtain ⟨hq,rfl⟩:=cond_some3 h
 have hp0:=pathN_inj p pathAllR (beq_true hq)
 subst hp0
 have hpp:codeAt (bodyOf Go.Proofs.Tryz.f80) pathAllR=some (.rangeFunc (.tmp 6) #[7] asAll bdAll):=by kernel_rfl
 have hp':codeAt (bodyOf Go.Proofs.Tryz.f80) pathAllR=some (.rangeFunc g ps asg bd):=hp
 rw [hpp] at hp'
 cases hp'
 unfold rfAll rfOn at hr
 dsimp only at hr
 split at hr
 ·unfold Yout at hr
  split at hr
  ·rename_i a b O
   exact (roundAll a b O β K).trans hr
  ·cases hr
 ·cases hr
theorem allC_sound:SoundC Go.Proofs.Tryz.prog 80 gAllC:=
 SoundC.of (fnSoundY (cx:=cx12) (fn:=Go.Proofs.Tryz.f80) ΓAllC_sound nx12 ⟨eqOK_none fun _=>rfl,fun y h=>(by cases h),fun f G h=>(by
   obtain ⟨hf,rfl⟩:=cond_some3 h
   have:=beq_true hf
   subst this
   exact restr0_sound (Gall_nat _) (allI allSteps_O)),rounds12,fun f n h=>(by cases h)⟩ (fun p L b h=>by cases h) (fun q L h=>by cases h)
  Go.Proofs.Tryz.func80 (by kernel_rfl) (by kernel_rfl) (by kernel_rfl) (Nat.le_of_ble_eq_true (by kernel_rfl)))
  fun args conts β K r h=>by
   unfold gAllC at h
   dsimp only at h
   split at h
   ·rename_i L
    replace h:=bind_some' h
    obtain ⟨ps,hps,h⟩:=h
    replace h:=cond_some h
    obtain ⟨h200,h⟩:=h
    rw [fnC_run,stepAllC,hps,<- h]
    unfold allCs
    simp only [show shO.dec [[.own 1 []]]=some [] from rfl,Option.bind_some,h200,cond_true]
    cases may ps with
    | false=>rfl
    | true=>
     simp only [cond_true]
     refine (runC_out _ [] β _ ?_).trans ?_
     ·have:=allFrom_len ps 0
      have:=Nat.le_of_ble_eq_true h200
      have:LIM=4294967296:=rfl
      simp
      omega
     ·rfl
   ·cases h
end Go.Ab

namespace Go.Ab
open Go
set_option maxRecDepth 100000
def decF (f:Nat):List (List CV)->Option (Int×Int×Int×Bool)
 | [[.fn f' [.int .i64 a] []],[.int .i64 x,.int .i64 y],[.bool b]]=>bif Nat.beq f' f then some (a,x,y,b) else none
 | _=>none
def shF (f:Nat):Sh where
 T:=Int×Int×Int×Bool
 n:=3
 un:=fun x=>[[.fn f [.int .i64 x.1] []],[.int .i64 x.2.1,.int .i64 x.2.2.1],[.bool x.2.2.2]]
 dec:=decF f
 ok:=fun co x h=>by
  unfold decF at h
  split at h
  ·replace h:=cond_some h
   obtain ⟨hb,h⟩:=h
   have:=beq_true hb
   subst this
   cases h
   rfl
  ·cases h
 dec_un:=fun x=>by simp [decF]
 len:=fun _=>rfl
theorem onSteps_inF (f:Nat) (l:Nat) (fx:Loop) (ts:List Nat) (env:List CV) (bs:List Nat):OnSteps (shIn (shF f) l fx ts env bs) where
 loop:=fun l fx ts env bs Y a w n β K m i x=>by kernel_rfl
 fn:=fun l fx ts env bs Y L p x β K=>by kernel_rfl
theorem allSteps_F (f:Nat):AllSteps (shF f) where
 on:=onSteps_inF f
 rd:=fun l fx ts env bs Y a b x β K=>by kernel_rfl
 loop:=fun l fx ts env bs Y L n β K m i x=>by kernel_rfl
 fn:=fun l fx ts env bs Y L x β K=>by kernel_rfl
abbrev pathF:List Bool:=[false,true,false,true]
noncomputable abbrev asF:Code:=(codeAt (bodyOf Go.Proofs.Tryz.f92) (false::pathF)).getD .skip
noncomputable abbrev bdF:Code:=(codeAt (bodyOf Go.Proofs.Tryz.f92) (true::pathF)).getD .skip
def Yf (f:Nat):YSem:=fun args conts _ K=>match args with
 | [.agg [.int .i64 a,.int .i64 b]]=>((shF f).dec conts).bind fun x=>bif predB f x.1 a b then K (some 0) ((shF f).un (x.1,a,b,true)) else K none ((shF f).un x)
 | _=>none
def rfF (f:Nat):RfSem:=⟨[3,4,5],fun en=>match en with
 | [.ref 0,.ref 1,.ref 2]=>Yf f
 | _=>fun _ _ _ _=>none⟩
def ΓF:FuncId->Option Callee:=lookL [(122,gAllF),(93,gPred 93)]
noncomputable def cx28 (f:Nat):Cx:=
 {P:=Go.Proofs.Tryz.prog,nt:=15,Γ:=ΓF,Λ:=fun _=>none,un:=fun _=>false,root:=bodyOf Go.Proofs.Tryz.f92,wr:=fun _=>false,eqT:=fun _=>false,It:=fun k=>bif Nat.beq k 140 then some (restr0 (Gall (shF f))) else none,rf:=fun q=>bif Nat.beq q 26 then some (rfF f) else none}
structure FirstSteps (f:Nat):Prop where
 rd:∀ (a b:Int) (x:Int×Int×Int×Bool) (β:Type) (K:Option Nat->List (List CV)->Option β),roundB (cx28 f) [3,4,5] pathF [9] asF bdF [.ref 0,.ref 1,.ref 2] [.agg [.int .i64 a,.int .i64 b]] ((shF f).un x) K=
  cond (predB f x.1 a b) (K (some 0) ((shF f).un (x.1,a,b,true))) (K none ((shF f).un x))
 fn:∀ (L:List (List CV)) (a:Int) (β:Type) (K:CV->List (List CV)->Option β),fnK (cx28 f) Go.Proofs.Tryz.f92 [.sl 2 L,.fn f [.int .i64 a] []] [] K=
  (decP L).bind fun ps=>((shF f).dec ((shF f).un (a,0,0,false))).bind fun x=>bif Nat.ble ps.length 200 then
   cond (may ps) (runC (shF f) (Yf f) (allFrom 0 ps) x β fun s x'=>selS s (K (.tup [.agg [.int .i64 0,.int .i64 0],.bool false]) []) fun k=>bif Nat.beq k 0 then K (.tup [.agg [.int .i64 x'.2.1,.int .i64 x'.2.2.1],.bool x'.2.2.2]) [] else none)
    (K (.tup [.agg [.int .i64 0,.int .i64 0],.bool false]) []) else none
theorem firstSteps29:FirstSteps 93 where
 rd:=fun a b x β K=>by kernel_rfl
 fn:=fun L a β K=>by kernel_rfl
end Go.Ab

namespace Go.Ab
open Go
set_option maxRecDepth 100000
def firstC (f:Nat) (a:Int) (cs:List Cell):Option Cell:=cs.find? fun c=>predB f a c.1 c.2
theorem runC_first (f:Nat) (a:Int):∀ (cs:List Cell) (β:Type) (K:Option Nat->Int×Int×Int×Bool->Option β),runC (shF f) (Yf f) cs (a,0,0,false) β K=match firstC f a cs with
  | some c=>K (some 0) (a,c.1,c.2,true)
  | none=>K none (a,0,0,false)
 | [],β,K=>rfl
 | c::cs,β,K=>by
  have hd:∀ (x:Int×Int×Int×Bool) {γ:Type} (g:(shF f).T->Option γ),((shF f).dec ((shF f).un x)).bind g=g x:=fun x γ g=>by rw [(shF f).dec_un x];rfl
  simp only [runC,cellV,Yf,firstC,List.find?_cons]
  rw [hd]
  cases predB f a c.1 c.2 with
  | true=>
   simp only [cond_true]
   rw [hd]
   rfl
  | false=>
   simp only [cond_false]
   rw [hd]
   exact runC_first f a cs β K
def okF (f:Nat):Bool:=Nat.beq f 93
def gFirst:Callee:=⟨fun args conts _ K=>match args,conts with
 | [.sl 2 L,.fn f [.int .i64 a] []],[]=>(decP L).bind fun ps=>bif Nat.ble ps.length 200&&okF f then K (.tup [.agg [.int .i64 (optE (firstC f a (allCs ps)) 0 (·.1)),.int .i64 (optE (firstC f a (allCs ps)) 0 (·.2))],.bool (firstC f a (allCs ps)).isSome]) [] else none
 | _,_=>none⟩
theorem first_nat:NatC gFirst:=fun args conts=>by
 unfold gFirst
 dsimp only
 split
 ·exact .bind _ fun _ => .cond _ (.ret _ _) .none
 ·exact .none
theorem ΓF_good:Good Go.Proofs.Tryz.prog [(122,gAllF),(93,gPred 93)]:=Good.cons ⟨allF_sound,allF_nat⟩ (Good.cons ⟨at_sound,pred_nat _⟩ Good.nil)
theorem ΓF_sound:∀ f g,ΓF f=some g->SoundC Go.Proofs.Tryz.prog f g:=fun f g h=>(ΓF_good f g h).s
theorem ΓF_nat:∀ f g,ΓF f=some g->NatC g:=fun f g h=>(ΓF_good f g h).n
theorem Yf_nat (f:Nat):NatYS (Yf f):=fun args conts=>by
 unfold Yf
 split
 ·exact .bind _ fun _ => .cond _ (.ret _ _) (.ret _ _)
 ·exact .none
theorem nx28 (f:Nat):NatX (cx28 f) where
 c:=ΓF_nat
 y:=fun y h=>by cases h
 it:=fun f G h=>by obtain ⟨_,rfl⟩:=cond_some3 h;exact restr0_nat (Gall_nat _)
 rf:=fun q R h en=>by
  obtain ⟨_,rfl⟩:=cond_some3 h
  unfold rfF
  dsimp only
  split
  ·exact Yf_nat f
  ·exact fun _ _ => .none
theorem rounds28 {f:Nat} (hf:FirstSteps f):RoundsS (cx28 f):=fun p R g ps asg bd h hp en args conts β K r hr=>by
 obtain ⟨hq,rfl⟩:=cond_some3 h
 have hp0:=pathN_inj p pathF (beq_true hq)
 subst hp0
 have hpp:codeAt (bodyOf Go.Proofs.Tryz.f92) pathF=some (.rangeFunc (.tmp 8) #[9] asF bdF):=by kernel_rfl
 have hp':codeAt (bodyOf Go.Proofs.Tryz.f92) pathF=some (.rangeFunc g ps asg bd):=hp
 rw [hpp] at hp'
 cases hp'
 unfold rfF at hr
 dsimp only at hr
 split at hr
 ·unfold Yf at hr
  split at hr
  ·rename_i a b
   replace hr:=bind_some' hr
   obtain ⟨x,hx,hr⟩:=hr
   rw [(shF f).ok _ _ hx]
   exact (hf.rd a b x β K).trans hr
  ·cases hr
 ·cases hr
theorem first_sound_of {f:Nat} (hf:FirstSteps f):SoundC Go.Proofs.Tryz.prog 92 (fnC (cx28 f) Go.Proofs.Tryz.f92):=
 fnSoundY (cx:=cx28 f) (fn:=Go.Proofs.Tryz.f92) ΓF_sound (nx28 f) ⟨eqOK_none fun _=>rfl,fun y h=>(by cases h),fun k G h=>(by
   obtain ⟨hk,rfl⟩:=cond_some3 h
   have:=beq_true hk
   subst this
   exact restr0_sound (Gall_nat _) (allI (allSteps_F f))),rounds28 hf,fun f n h=>(by cases h)⟩ (fun p L b h=>by cases h) (fun q L h=>by cases h)
  Go.Proofs.Tryz.func92 (by kernel_rfl) (by kernel_rfl) (by kernel_rfl) (Nat.le_of_ble_eq_true (by kernel_rfl))
theorem first_run {f:Nat} (hf:FirstSteps f) {ps:List Pg} (h200:Nat.ble ps.length 200=true) (a:Int) (β:Type) (K:CV->List (List CV)->Option β):fnK (cx28 f) Go.Proofs.Tryz.f92 [.sl 2 (ps.map encP),.fn f [.int .i64 a] []] [] K=
  K (.tup [.agg [.int .i64 (optE (firstC f a (allCs ps)) 0 (·.1)),.int .i64 (optE (firstC f a (allCs ps)) 0 (·.2))],.bool (firstC f a (allCs ps)).isSome]) []:=by
 have hd:∀ (x:Int×Int×Int×Bool) {γ:Type} (g:(shF f).T->Option γ),((shF f).dec ((shF f).un x)).bind g=g x:=fun x γ g=>by rw [(shF f).dec_un x];rfl
 rw [hf.fn]
 simp only [decP_map,Option.bind_some]
 rw [hd]
 simp only [h200,cond_true]
 unfold allCs
 cases may ps with
 | false=>rfl
 | true=>
  simp only [cond_true]
  refine (runC_first f a (allFrom 0 ps) β _).trans ?_
  cases firstC f a (allFrom 0 ps) with
  | none=>rfl
  | some c=>rfl
theorem first_sound:SoundC Go.Proofs.Tryz.prog 92 gFirst:=by
 refine ⟨(first_sound_of firstSteps29).enter,fun args conts β K r h => ?_⟩
 unfold gFirst at h
 dsimp only at h
 split at h
 ·rename_i L f a
  replace h:=bind_some' h
  obtain ⟨ps,hps,h⟩:=h
  replace h:=cond_some h
  obtain ⟨hb,h⟩:=h
  simp only [Bool.and_eq_true] at hb
  obtain ⟨h200,hf⟩:=hb
  obtain rfl:=decP_enc hps
  have go:∀ (hf:FirstSteps f),_:=fun hf=>(first_sound_of hf).calls [.sl 2 (ps.map encP),.fn f [.int .i64 a] []] [] β K r ((first_run hf h200 a β K).trans h)
  have:=beq_true hf
  subst this
  exact go firstSteps29
 ·cases h
def ΓQ:FuncId->Option Callee:=fun f=>bif Nat.beq f 92 then some gFirst else none
theorem ΓQ_sound:∀ f g,ΓQ f=some g->SoundC Go.Proofs.Tryz.prog f g:=fun f g h=>by
 unfold ΓQ at h
 obtain ⟨hb,rfl⟩:=cond_some1 h
 have:=beq_true hb
 subst this
 exact first_sound
theorem ΓQ_nat:∀ f g,ΓQ f=some g->NatC g:=fun f g h=>by
 unfold ΓQ at h
 obtain ⟨_,rfl⟩:=cond_some1 h
 exact first_nat
def roomA (ps:List Pg) (a:Int):Int:=optE (firstC 93 a (allCs ps)) 0 (·.2)
def gRoom:Callee:=⟨fun args conts _ K=>match args,conts with
 | [.sl 2 L,.int .i64 a],[]=>(decP L).bind fun ps=>bif Nat.ble ps.length 200 then K (.int .i64 (roomA ps a)) [] else none
 | _,_=>none⟩
theorem room_nat:NatC gRoom:=fun args conts=>by
 unfold gRoom
 dsimp only
 split
 ·exact .bind _ fun _ => .cond _ (.ret _ _) .none
 ·exact .none
theorem room_step (L:List (List CV)) (a:Int) (β:Type) (K:CV->List (List CV)->Option β):fnK (cxT 16 (bodyOf Go.Proofs.Tryz.f42) ΓQ (fun _=>false)) Go.Proofs.Tryz.f42 [.sl 2 L,.int .i64 a] [] K=
 (decP L).bind fun ps=>bif Nat.ble ps.length 200&&okF 93 then K (.int .i64 (optE (firstC 93 a (allCs ps)) 0 (·.2))) [] else none:=by kernel_rfl
theorem room_sound:SoundC Go.Proofs.Tryz.prog 42 gRoom:=
 SoundC.of (plain_sound (n:=16) (wr:=fun _=>false) ΓQ_sound ΓQ_nat Go.Proofs.Tryz.func42 (by kernel_rfl) (by kernel_rfl) (by kernel_rfl) (Nat.le_of_ble_eq_true (by kernel_rfl)))
  fun args conts β K r h=>by
   unfold gRoom at h
   dsimp only at h
   split at h
   ·rw [fnC_run,room_step,show okF 93=true from rfl];simp only [Bool.and_true];exact h
   ·cases h
end Go.Ab

namespace Go.Ab
open Go
set_option maxRecDepth 100000
def encI (xs:List Int):List (List CV):=xs.map fun a=>[CV.int .i64 a]
def dec1:List CV->Option Int
 | [.int .i64 a]=>some a
 | _=>none
def decI (L:List (List CV)):Option (List Int):=mapO dec1 L
theorem decI_enc:∀ {L:List (List CV)} {xs:List Int},decI L=some xs->L=encI xs
 | [],xs,h=>by
  simp only [decI,mapO,Option.some.injEq] at h
  subst h
  rfl
 | l::L,xs,h=>by
  simp only [decI,mapO] at h
  obtain ⟨p,hp,h⟩:=bind_some' h
  obtain ⟨qs,hq,h⟩:=bind_some' h
  cases h
  have e1:l=[CV.int .i64 p]:=by
   unfold dec1 at hp
   split at hp
   ·cases hp;rfl
   ·cases hp
  rw [e1,decI_enc (xs:=qs) hq]
  rfl
@[simp] theorem decI_map (xs:List Int):decI (encI xs)=some xs:=by
 induction xs with
 | nil=>rfl
 | cons p ps ih=>
  simp only [decI,encI] at ih
  simp [decI,encI,mapO,dec1,ih]
@[simp] theorem encI_len (xs:List Int):(encI xs).length=xs.length:=by simp [encI]
theorem rdE_int {xs:List Int} {i:Nat} (h:i<xs.length) {γ:Type} (f:List CV->Option γ):(rdE (encI xs) (i:Int)).bind f=f [CV.int .i64 xs[i]]:=by
 simp [rdE,h,encI]
theorem atV_enc (cs:List Cell):atV cs=encI (cs.map (·.1)):=by simp [atV,encI]
abbrev path17:List Bool:=[false,true,false,true,true]
noncomputable abbrev body17:Code:=(codeAt (bodyOf Go.Proofs.Tryz.f50) (false::path17)).getD .skip
def outs17:Exit->List Nat:=fun e=>match e with | .ret=>[4] | _=>[]
def loop17:LoopSem:=⟨[5,0,1],outs17,fun vs cs _ K=>match vs,cs with
 | [.int .i64 i,.sl 1 L,.sl 1 M],[]=>(decI L).bind fun ps=>(decI M).bind fun qs=>bif decide (i=0)&&decide (ps.length=qs.length)&&Nat.ble ps.length 65536 then cond (ps==qs) (K (.exit 0) [] []) (K .ret [.bool false] []) else none
 | _,_=>none⟩
noncomputable def cx17:Cx:=cxP 26 (bodyOf Go.Proofs.Tryz.f50) Γ0 (fun q=>bif Nat.beq q 58 then some loop17 else none) (fun _=>false)
noncomputable def LB17 (L M:List (List CV)) (β:Type) (K:Exit->List CV->List (List CV)->Option β) (m:Nat) (i:Int):Option β:=
 loopB cx17 [5,0,1] outs17 path17 body17 m [.int .i64 i,.sl 1 L,.sl 1 M] [] K
theorem step17 (L M:List (List CV)) (β:Type) (K:Exit->List CV->List (List CV)->Option β) (m:Nat) (i:Int):LB17 L M β K (m+1) i=
 cond (decide (i<(L.length:Int))) ((rdE L i).bind fun c=>(c[0]?).bind fun x=>(asI .i64 x).bind fun a=>(rdE M i).bind fun c=>(c[0]?).bind fun x=>(asI .i64 x).bind fun b=>cond (a != b) (K .ret [.bool false] []) (LB17 L M β K m (IntKind.i64.wrap (i+1)))) (K (.exit 0) [] []):=by kernel_rfl
theorem step17f (L M:List (List CV)) (β:Type) (K:CV->List (List CV)->Option β):fnK cx17 Go.Proofs.Tryz.f50 [.sl 1 L,.sl 1 M] [] K=
 cond ((L.length:Int) != (M.length:Int)) (K (.bool false) []) ((decI L).bind fun ps=>(decI M).bind fun qs=>bif true&&decide (ps.length=qs.length)&&Nat.ble ps.length 65536 then cond (ps==qs) (K (.bool true) []) (K (.bool false) []) else none):=by kernel_rfl
theorem loop17_spec (ps qs:List Int) (he:ps.length=qs.length) (hs:ps.length<=65536) (β:Type) (K:Exit->List CV->List (List CV)->Option β):∀ (m i:Nat),ps.length - i<=m->i<=ps.length->
  LB17 (encI ps) (encI qs) β K (m+1) i=cond (ps.drop i==qs.drop i) (K (.exit 0) [] []) (K .ret [.bool false] []):=by
 intro m
 have fin:∀ (m i:Nat),i=ps.length->LB17 (encI ps) (encI qs) β K (m+1) i=cond (ps.drop i==qs.drop i) (K (.exit 0) [] []) (K .ret [.bool false] []):=fun m i hi=>by
  subst hi
  rw [step17,List.drop_length,show qs.drop ps.length=[] by rw [he,List.drop_length]]
  simp
 induction m with
 | zero=>exact fun i hm hi=>fin 0 i (by omega)
 | succ m ih=>
  intro i hm hi
  by_cases hl:i<ps.length
  ·have hl':i<qs.length:=by omega
   have e1:decide ((i:Int)<((encI ps).length:Int))=true:=by simp;omega
   rw [step17,e1,cond_true,rdE_int hl]
   simp only [List.getElem?_cons_zero,Option.bind_some,asI,if_true]
   rw [rdE_int hl',IntWalk.i64_in ((i:Int)+1) (by omega)]
   have hd:ps.drop i=ps[i]::ps.drop (i+1):=List.drop_eq_getElem_cons hl
   have hd':qs.drop i=qs[i]::qs.drop (i+1):=List.drop_eq_getElem_cons hl'
   rw [hd,hd']
   simp only [List.getElem?_cons_zero,Option.bind_some,if_true]
   rw [show ((i:Int)+1)=((i+1:Nat):Int) by omega,ih (i+1) (by omega) (by omega)]
   have hc:(ps[i]::ps.drop (i+1)==qs[i]::qs.drop (i+1))=(ps[i]==qs[i]&&ps.drop (i+1)==qs.drop (i+1)):=rfl
   rw [hc]
   simp only [bne]
   cases (ps[i]==qs[i]) <;> rfl
  ·exact fin (m+1) i (by omega)
theorem loop17_nat:NatL loop17:=fun vs cs=>by
 unfold loop17
 dsimp only
 split
 ·exact .bind _ fun _ => .bind _ fun _ => .cond _ (.cond _ (.ret _ _ _) (.ret _ _ _)) .none
 ·exact .none
theorem loops17:LoopsS cx17 := .of fun k L h=>by
 obtain ⟨hk,rfl⟩:=cond_some2 h
 refine ⟨path17,beq_true hk,fun vs cs β K r hr => ?_⟩
 unfold loop17 at hr
 dsimp only at hr
 split at hr
 ·rename_i i L M
  replace hr:=bind_some' hr
  obtain ⟨ps,hps,hr⟩:=hr
  replace hr:=bind_some' hr
  obtain ⟨qs,hqs,hr⟩:=hr
  replace hr:=cond_some hr
  obtain ⟨hb,hr⟩:=hr
  simp only [Bool.and_eq_true,decide_eq_true_eq] at hb
  obtain ⟨⟨rfl,he⟩,hs⟩:=hb
  have hs:=Nat.le_of_ble_eq_true hs
  rw [decI_enc hps,decI_enc hqs]
  refine ⟨ps.length+1,?_⟩
  have:=loop17_spec ps qs he hs β K ps.length 0 (by omega) (by omega)
  rw [List.drop_zero,List.drop_zero] at this
  exact this.trans hr
 ·cases hr
def gInts:Callee:=⟨fun args conts _ K=>match args,conts with
 | [.sl 1 L,.sl 1 M],[]=>(decI L).bind fun ps=>(decI M).bind fun qs=>bif Nat.ble ps.length 65536 then K (.bool (ps==qs)) [] else none
 | _,_=>none⟩
theorem ints_nat:NatC gInts:=fun args conts=>by
 unfold gInts
 dsimp only
 split
 ·exact .bind _ fun _ => .bind _ fun _ => .cond _ (.ret _ _) .none
 ·exact .none
theorem ints_sound:SoundC Go.Proofs.Tryz.prog 50 gInts:=
 SoundC.of (fnSound (cx:=cx17) (fn:=Go.Proofs.Tryz.f50) Γ0_sound Γ0_nat (eqOK_none fun _=>rfl) loops17 (fun q L h=>by obtain ⟨_,rfl⟩:=cond_some2 h;exact loop17_nat)
  Go.Proofs.Tryz.func50 (by kernel_rfl) (by kernel_rfl) (by kernel_rfl) (Nat.le_of_ble_eq_true (by kernel_rfl)))
  fun args conts β K r h=>by
   unfold gInts at h
   dsimp only at h
   split at h
   ·rename_i L M
    replace h:=bind_some' h
    obtain ⟨ps,hps,h⟩:=h
    replace h:=bind_some' h
    obtain ⟨qs,hqs,h⟩:=h
    replace h:=cond_some h
    obtain ⟨hs,h⟩:=h
    rw [fnC_run,step17f,hps,hqs,decI_enc hps,decI_enc hqs,encI_len,encI_len,<- h]
    simp only [Option.bind_some,hs,Bool.and_true,Bool.true_and]
    by_cases he:ps.length=qs.length
    ·simp only [he,bne_self_eq_false,cond_false,decide_true,cond_true]
     cases ps==qs <;> rfl
    ·have hne:(ps==qs)=false:=beq_false_of_ne fun e=>he (by rw [e])
     have h1:((ps.length:Int) != (qs.length:Int))=true:=by simp;omega
     rw [h1,hne]
     rfl
   ·cases h
end Go.Ab

namespace Go.Ab
open Go
set_option maxRecDepth 100000
end Go.Ab

namespace Go.Ab
open Go
set_option maxRecDepth 100000
@[simp] theorem asI_i (n:Int):asI .i64 (.int .i64 n)=some n:=by simp [asI]
def chain:Int->List Cell->Prop
 | _,[]=>True
 | lo,c::cs=>lo<=c.1/\2<=c.2/\c.1<=65536/\c.2<=64/\chain (c.1+c.2) cs
theorem chain_mono:∀ {cs:List Cell} {lo lo':Int},lo'<=lo->chain lo cs->chain lo' cs
 | [],_,_,_,_=>trivial
 | _::_,_,_,h,⟨h1,h2⟩=>⟨by omega,h2⟩
theorem chain_append:∀ {cs ds:List Cell} {lo hi:Int},chain lo cs->(∀ c∈cs,c.1+c.2<=hi)->lo<=hi->chain hi ds->chain lo (cs++ds)
 | [],_,_,_,_,_,h,hd=>chain_mono h hd
 | c::cs,ds,lo,hi,⟨h1,h2,h3,h4,h5⟩,hb,_,hd=>⟨h1,h2,h3,h4,chain_append h5 (fun d hd=>hb d (by simp [hd])) (hb c (by simp)) hd⟩
theorem chain_mem:∀ {cs:List Cell} {lo:Int},chain lo cs->∀ c∈cs,lo<=c.1/\2<=c.2/\c.1<=65536/\c.2<=64
 | [],_,_,_,h=>by cases h
 | d::cs,lo,⟨h1,h2,h3,h4,h5⟩,c,h=>by
  rcases List.mem_cons.1 h with rfl | h
  ·exact ⟨h1,h2,h3,h4⟩
  ·have:=chain_mem h5 c h
   exact ⟨by omega,this.2⟩
theorem find29 {cs:List Cell} {lo:Int} (hc:chain lo cs):∀ c∈cs,firstC 93 c.1 cs=some c:=by
 induction cs generalizing lo with
 | nil=>intro c h;cases h
 | cons d cs ih=>
  obtain ⟨h1,h2,h3,h4,h5⟩:=hc
  intro c h
  show List.find? _ _=_
  rw [List.find?_cons]
  have hp:predB 93 c.1 d.1 d.2=(c.1==d.1):=rfl
  rw [hp]
  rcases List.mem_cons.1 h with rfl | h
  ·simp
  ·have:=chain_mem h5 c h
   have hf:(c.1==d.1)=false:=by simp;omega
   rw [hf]
   exact ih h5 c h
theorem of29 {a:Int} {cs:List Cell} {c:Cell} (h:firstC 93 a cs=some c):c∈cs/\c.1=a:=by
 have h1:=List.mem_of_find?_eq_some h
 have h2:=List.find?_some h
 have hp:predB 93 a c.1 c.2=(a==c.1):=rfl
 rw [hp] at h2
 exact ⟨h1,by simp at h2;exact h2.symm⟩
/-! ### The cells of pages -/
theorem cellRow_chain (a w:Int) (ha:0<=a/\a<=8192) (hw:2<=w/\w<=8):∀ (n i:Nat),i+n<=8->chain (a+i*w) (cellRow a w i n)
 | 0,_,_=>trivial
 | n+1,i,h=>by
  have hm:(i:Int)*w<=8*8:=Int.mul_le_mul (by omega) hw.2 (by omega) (by omega)
  refine ⟨Int.le_refl _,hw.1,by omega,by omega,?_⟩
  have:=cellRow_chain a w ha hw n (i+1) (by omega)
  rw [show a+(i:Int)*w+w=a+((i+1:Nat):Int)*w by rw [Int.natCast_add,Int.add_mul];simp;omega]
  exact this
theorem cellRow_hi (a w:Int) (hw:2<=w):∀ (n i:Nat),∀ c∈cellRow a w i n,c.1+c.2<=a+((i+n:Nat):Int)*w
 | 0,_,c,h=>by cases h
 | n+1,i,c,h=>by
  simp only [cellRow,List.mem_cons] at h
  rcases h with rfl | h
  ·have h1:((i+(n+1):Nat):Int)*w=(i:Int)*w+w+(n:Int)*w:=by rw [show ((i+(n+1):Nat):Int)=(i:Int)+1+n by omega,Int.add_mul,Int.add_mul,Int.one_mul]
   have h2:0<=(n:Int)*w:=Int.mul_nonneg (by omega) (by omega)
   show a+(i:Int)*w+w<=_
   omega
  ·have:=cellRow_hi a w hw n (i+1) c h
   rw [show i+(n+1)=i+1+n by omega]
   exact this
theorem small_full {b:Int} (h:0<=b/\b<=2):2<=wordsOf b/\wordsOf b<=8/\((cellsN b).toNat:Int)*wordsOf b=16/\(cellsN b).toNat<=8/\1<=(cellsN b).toNat:=by
 have:b=0\/b=1\/b=2:=by omega
 rcases this with rfl | rfl | rfl <;> decide
theorem beq_of {a b:Int} (h:a=b):(a==b)=true:=by simp [h]
theorem beq_ne {a b:Int} (h:a≠b):(a==b)=false:=by simp [h]
theorem mayGo_cons {r:Nat} {q:Pg} {ps:List Pg} {e:Int} (h:mayGo r (q::ps)=some e):
  (q.1=3/\∃ k,r=k+1/\mayGo k ps=some e)\/(r=0/\q=(0,0)/\mayGo (0:Nat) ps=some e)\/(r=0/\q.1=1/\(0<=q.2/\q.2<=2)/\mayGo (0:Nat) ps=some e)\/
   (r=0/\q.1=2/\(1<=q.2/\q.2<=4)/\mayGo ((q.2 - 1).toNat:Nat) ps=some e):=by
 obtain ⟨a,b⟩:=q
 simp only [mayGo] at h
 by_cases h3:a=3
 ·subst h3
  simp only [beq_self_eq_true,cond_true] at h
  cases r with
  | zero=>simp at h
  | succ k=>
   refine .inl ⟨rfl,k,rfl,?_⟩
   have hr:(((k+1:Nat):Int)==0)=false:=beq_ne (by omega)
   rw [hr,cond_false] at h
   cases hb:b != 0 with
   | true=>rw [hb] at h;cases h
   | false=>
    rw [hb,cond_false,show ((k+1:Nat):Int) - 1=(k:Int) by omega] at h
    exact h
 ·rw [beq_ne h3,cond_false] at h
  have r0:∀ {x:Option Int},(bif decide ((r:Int)>0) then none else x)=some e->r=0/\x=some e:=fun {x} hx=>by
   cases hd:decide ((r:Int)>0) with
   | true=>rw [hd] at hx;cases hx
   | false=>rw [hd] at hx;simp at hd;exact ⟨by omega,hx⟩
  by_cases h0:a=0
  ·subst h0
   simp only [beq_self_eq_true,cond_true] at h
   cases hb:b != 0 with
   | true=>rw [hb] at h;cases h
   | false=>
    rw [hb,cond_false] at h
    obtain ⟨rfl,h⟩:=r0 h
    simp at hb
    subst hb
    exact .inr (.inl ⟨rfl,rfl,h⟩)
  ·rw [beq_ne h0,cond_false] at h
   by_cases h1:a=1
   ·subst h1
    simp only [beq_self_eq_true,cond_true] at h
    cases hb : !(bif decide (b>=0) then decide (b<=2) else false) with
    | true=>rw [hb] at h;cases h
    | false=>
     rw [hb,cond_false] at h
     obtain ⟨rfl,h⟩:=r0 h
     refine .inr (.inr (.inl ⟨rfl,rfl,?_,h⟩))
     by_cases hb0:b>=0 <;> simp [hb0] at hb
     exact ⟨hb0,hb⟩
   ·rw [beq_ne h1,cond_false] at h
    by_cases h2:a=2
    ·subst h2
     simp only [beq_self_eq_true,cond_true] at h
     cases hb : !(bif decide (b>=1) then decide (b<=4) else false) with
     | true=>rw [hb] at h;cases h
     | false=>
      rw [hb,cond_false] at h
      obtain ⟨rfl,h⟩:=r0 h
      have hb':1<=b/\b<=4:=by
       by_cases hb1:b>=1 <;> simp [hb1] at hb
       exact ⟨hb1,hb⟩
      refine .inr (.inr (.inr ⟨rfl,rfl,hb',?_⟩))
      rw [show (((b - 1).toNat:Nat):Int)=b - 1 by omega]
      exact h
    ·rw [beq_ne h2] at h
     cases h
theorem cellsP_rest {i:Int} {q:Pg} (h:q.1=3\/q.1=0):cellsP i q=[]:=by
 unfold cellsP
 rcases h with h | h <;> rw [h] <;> rfl
theorem cellsP_small {i:Int} {q:Pg} (h:q.1=1):cellsP i q=cellRow (16*(i+1)) (wordsOf q.2) 0 (cellsN q.2).toNat:=by
 unfold cellsP
 rw [h]
 rfl
theorem cellsP_large {i:Int} {q:Pg} (h:q.1=2) (hb:1<=q.2/\q.2<=4):cellsP i q=[(16*(i+1),16*q.2)]:=by
 unfold cellsP
 rw [h,IntWalk.i64_in _ (by omega),Int.mul_comm q.2 16]
 rfl
theorem allFrom_chain:∀ (ps:List Pg) (i r:Nat) (e:Int),i+ps.length<=300->r<=3->mayGo r ps=some e->chain (16*((i:Int)+1+r)) (allFrom i ps)
 | [],_,_,_,_,_,_=>trivial
 | q::ps,i,r,e,hl,hr,h=>by
  simp only [List.length_cons] at hl
  simp only [allFrom]
  rcases mayGo_cons h with ⟨h3,k,rfl,h'⟩ | ⟨rfl,rfl,h'⟩ | ⟨rfl,h1,hb,h'⟩ | ⟨rfl,h2,hb,h'⟩
  ·rw [cellsP_rest (.inl h3),List.nil_append]
   exact chain_mono (by omega) (allFrom_chain ps (i+1) k e (by omega) (by omega) h')
  ·rw [cellsP_rest (.inr rfl),List.nil_append]
   exact chain_mono (by omega) (allFrom_chain ps (i+1) 0 e (by omega) (by omega) h')
  ·obtain ⟨w2,w8,hf,hn,_⟩:=small_full hb
   rw [cellsP_small h1]
   have hc:=cellRow_chain (16*((i:Int)+1)) (wordsOf q.2) ⟨by omega,by omega⟩ ⟨w2,w8⟩ (cellsN q.2).toNat 0 (by omega)
   have hh:=cellRow_hi (16*((i:Int)+1)) (wordsOf q.2) w2 (cellsN q.2).toNat 0
   rw [Nat.zero_add,hf] at hh
   refine chain_append (hi:=16*((i:Int)+1)+16) (chain_mono (by simp) hc) hh (by omega) ?_
   exact chain_mono (by omega) (allFrom_chain ps (i+1) 0 e (by omega) (by omega) h')
  ·rw [cellsP_large h2 hb]
   refine ⟨by simp,by simp;omega,by simp;omega,by simp;omega,?_⟩
   exact chain_mono (by simp;omega) (allFrom_chain ps (i+1) _ e (by omega) (by omega) h')
theorem may_go {ps:List Pg} (h:may ps=true):mayGo (0:Nat) ps=some 0/\1<=ps.length/\ps.length<=64:=by
 unfold may at h
 show mayGo 0 ps=some 0/\_
 cases hm:mayGo 0 ps with
 | none=>rw [hm] at h;cases h
 | some r=>
  rw [hm] at h
  dsimp only at h
  cases h0:r==0 with
  | false=>rw [h0] at h;cases h
  | true=>
   rw [h0,cond_true] at h
   have:r=0:=by simpa using h0
   subst this
   refine ⟨rfl,?_⟩
   by_cases h1:(ps.length:Int)>=1
   ·simp [h1] at h;omega
   ·rw [decide_eq_false h1] at h;cases h
theorem all_chain (ps:List Pg):chain 16 (allCs ps):=by
 unfold allCs
 cases h:may ps with
 | false=>exact trivial
 | true=>
  obtain ⟨h1,h2,h3⟩:=may_go h
  exact chain_mono (by omega) (allFrom_chain ps 0 0 0 (by omega) (by omega) h1)
end Go.Ab

namespace Go.Ab
open Go
set_option maxRecDepth 100000
def cI:Cod Int where
 enc:=fun a => .int .i64 a
 dec:=fun c=>match c with | .int .i64 a=>some a | _=>none
 ok:=fun c a h=>by
  split at h
  ·cases h;rfl
  ·cases h
 de:=fun _=>rfl
def cB:Cod Bool where
 enc:=fun a => .bool a
 dec:=fun c=>match c with | .bool a=>some a | _=>none
 ok:=fun c a h=>by
  split at h
  ·cases h;rfl
  ·cases h
 de:=fun _=>rfl
def cPs:Cod (List Pg) where
 enc:=fun ps => .sl 2 (ps.map encP)
 dec:=fun c=>match c with | .sl 2 L=>decP L | _=>none
 ok:=fun c a h=>by
  split at h
  ·rw [decP_enc h]
  ·cases h
 de:=fun _=>decP_map _
def cIs:Cod (List Int) where
 enc:=fun xs => .sl 1 (encI xs)
 dec:=fun c=>match c with | .sl 1 L=>decI L | _=>none
 ok:=fun c a h=>by
  split at h
  ·rw [decI_enc h]
  ·cases h
 de:=fun _=>decI_map _
def cOI:Cod (List Int) where
 enc:=fun xs => .own 1 (encI xs)
 dec:=fun c=>match c with | .own 1 L=>decI L | _=>none
 ok:=fun c a h=>by
  split at h
  ·rw [decI_enc h]
  ·cases h
 de:=fun _=>decI_map _
@[simp] theorem cOI_enc (xs:List Int):cOI.enc xs = .own 1 (encI xs):=rfl
@[simp] theorem cOI_dec (xs:List Int):cOI.dec (.own 1 (encI xs))=some xs:=decI_map xs
@[simp] theorem cI_enc (a:Int):cI.enc a = .int .i64 a:=rfl
@[simp] theorem cB_enc (a:Bool):cB.enc a = .bool a:=rfl
@[simp] theorem cPs_enc (ps:List Pg):cPs.enc ps = .sl 2 (ps.map encP):=rfl
@[simp] theorem cIs_enc (xs:List Int):cIs.enc xs = .sl 1 (encI xs):=rfl
@[simp] theorem cI_dec (a:Int):cI.dec (.int .i64 a)=some a:=rfl
@[simp] theorem cB_dec (a:Bool):cB.dec (.bool a)=some a:=rfl
@[simp] theorem cPs_dec (ps:List Pg):cPs.dec (.sl 2 (ps.map encP))=some ps:=decP_map ps
@[simp] theorem cIs_dec (xs:List Int):cIs.dec (.sl 1 (encI xs))=some xs:=decI_map xs
def upto:Int->Nat->List Int
 | _,0=>[]
 | a,n+1=>a::upto (a+1) n
theorem mem_upto:∀ {n:Nat} {a x:Int},x∈upto a n↔a<=x/\x<a+n
 | 0,a,x=>by simp only [upto,List.not_mem_nil,false_iff];omega
 | n+1,a,x=>by
  simp only [upto,List.mem_cons,mem_upto (n:=n)]
  omega
def rises:Int->Int->List Int->Prop
 | _,_,[]=>True
 | lo,hi,x::xs=>lo<=x/\x<hi/\rises (x+1) hi xs
theorem rises_mem:∀ {xs:List Int} {lo hi:Int},rises lo hi xs->∀ x∈xs,lo<=x/\x<hi
 | [],_,_,_,x,h=>by cases h
 | y::xs,lo,hi,⟨h1,h2,h3⟩,x,h=>by
  rcases List.mem_cons.1 h with rfl | h
  ·exact ⟨h1,h2⟩
  ·have:=rises_mem h3 x h;omega
theorem filter_rises:∀ (n:Nat) (lo:Int) (xs:List Int),rises lo (lo+n) xs->(upto lo n).filter (fun a=>decide (a∈xs))=xs
 | 0,lo,[],_=>rfl
 | 0,lo,x::xs,h=>by obtain ⟨h1,h2,_⟩:=h;omega
 | n+1,lo,xs,h=>by
  rw [upto,List.filter_cons]
  by_cases hm:lo∈xs
  ·rw [if_pos (by simp [hm])]
   cases xs with
   | nil=>cases hm
   | cons x xs=>
    obtain ⟨h1,h2,h3⟩:=h
    have e:lo=x:=by
     rcases List.mem_cons.1 hm with e | hm
     ·exact e
     ·have:=rises_mem h3 lo hm;omega
    subst e
    have ih:=filter_rises n (lo+1) xs (by rw [show lo+1+(n:Int)=lo+((n+1:Nat):Int) by omega];exact h3)
    congr 1
    refine Eq.trans (List.filter_congr fun y hy => ?_) ih
    have:=(mem_upto.1 hy).1
    have hne:y≠lo:=by omega
    simp [hne]
  ·rw [if_neg (by simp [hm])]
   refine filter_rises n (lo+1) xs ?_
   cases xs with
   | nil=>trivial
   | cons x xs=>
    obtain ⟨h1,h2,h3⟩:=h
    have:x≠lo:=fun e=>hm (by simp [e])
    refine ⟨by omega,by omega,?_⟩
    rw [show lo+1+(n:Int)=lo+((n+1:Nat):Int) by omega]
    exact h3
/-! ### Where a cell begins -/
theorem firstC_append (f:Nat) (a:Int) (cs ds:List Cell):firstC f a (cs++ds)=(firstC f a cs).or (firstC f a ds):=by simp [firstC,List.find?_append]
theorem firstC_none {f:Nat} {a:Int} {cs:List Cell} (h:∀ c∈cs,predB f a c.1 c.2=false):firstC f a cs=none:=by
 simp only [firstC,List.find?_eq_none]
 intro c hc
 simp [h c hc]
theorem pred29 (a x y:Int):predB 93 a x y=(a==x):=rfl
theorem cellRow_find (b w:Int) (hw:0<w) (r:Nat):∀ (n i:Nat),firstC 93 (b+(r:Int)) (cellRow b w i n)=if (r:Int) % w=0/\(i:Int)*w<=r/\(r:Int)<((i+n:Nat):Int)*w then some (b+(r:Int),w) else none
 | 0,i=>by
  have hn:¬ ((r:Int) % w=0/\(i:Int)*w<=r/\(r:Int)<((i+0:Nat):Int)*w):=fun ⟨_,h1,h2⟩=>by
   rw [Nat.add_zero] at h2;omega
  rw [if_neg hn]
  rfl
 | n+1,i=>by
  have ih:=cellRow_find b w hw r n (i+1)
  simp only [cellRow,firstC,List.find?_cons,pred29] at ih ⊢
  by_cases h:(r:Int)=(i:Int)*w
  ·have e:(b+(r:Int)==b+(i:Int)*w)=true:=by simp [h]
   rw [e]
   have hlt:(i:Int)*w<((i+(n+1):Nat):Int)*w:=Int.mul_lt_mul_of_pos_right (by omega) hw
   rw [if_pos ⟨by rw [h];exact Int.mul_emod_left _ _,by omega,by omega⟩,h]
  ·have e:(b+(r:Int)==b+(i:Int)*w)=false:=by simp;omega
   rw [e]
   refine Eq.trans ih ?_
   have hiff:((r:Int) % w=0/\((i+1:Nat):Int)*w<=r/\(r:Int)<((i+1+n:Nat):Int)*w)↔((r:Int) % w=0/\(i:Int)*w<=r/\(r:Int)<((i+(n+1):Nat):Int)*w):=by
    rw [show i+1+n=i+(n+1) by omega]
    have he:((i+1:Nat):Int)*w=(i:Int)*w+w:=by rw [show ((i+1:Nat):Int)=(i:Int)+1 by omega,Int.add_mul,Int.one_mul]
    constructor
    ·rintro ⟨h1,h2,h3⟩
     exact ⟨h1,by omega,h3⟩
    ·rintro ⟨h1,h2,h3⟩
     refine ⟨h1,?_,h3⟩
     obtain ⟨k,hk⟩:=Int.dvd_of_emod_eq_zero h1
     rw [hk,Int.mul_comm w k] at h2 h ⊢
     have h4:(i:Int)<=k:=Int.le_of_mul_le_mul_right h2 hw
     have h5:(i:Int)≠k:=fun e=>h (by rw [e])
     exact Int.mul_le_mul_of_nonneg_right (by omega) (by omega)
   by_cases hc:((r:Int) % w=0/\(i:Int)*w<=r/\(r:Int)<((i+(n+1):Nat):Int)*w)
   ·rw [if_pos hc,if_pos (hiff.2 hc)]
   ·rw [if_neg hc,if_neg fun h=>hc (hiff.1 h)]
def cellAt (q:Pg) (r:Nat):Int:=bif q.1==2&&r==0 then 16*q.2 else bif q.1==1&&((r:Int) % wordsOf q.2==0) then wordsOf q.2 else 0
def okPg (q:Pg):Prop:=q.1=3\/q.1=0\/(q.1=1/\0<=q.2/\q.2<=2)\/(q.1=2/\1<=q.2/\q.2<=4)
theorem okPg_of {r:Nat} {ps:List Pg} {e:Int} (h:mayGo r ps=some e):∀ q∈ps,okPg q:=by
 induction ps generalizing r with
 | nil=>intro q hq;cases hq
 | cons p ps ih=>
  intro q hq
  rcases mayGo_cons h with ⟨h3,k,_,h'⟩ | ⟨_,rfl,h'⟩ | ⟨_,h1,hb,h'⟩ | ⟨_,h2,hb,h'⟩ <;> rcases List.mem_cons.1 hq with rfl | hq
  ·exact .inl h3
  ·exact ih h' q hq
  ·exact .inr (.inl rfl)
  ·exact ih h' q hq
  ·exact .inr (.inr (.inl ⟨h1,hb⟩))
  ·exact ih h' q hq
  ·exact .inr (.inr (.inr ⟨h2,hb⟩))
  ·exact ih h' q hq
theorem cellsP_at {q:Pg} (hq:okPg q) (i r:Nat) (hr:r<16):optE (firstC 93 (16*((i:Int)+1)+r) (cellsP i q)) 0 (·.2)=cellAt q r:=by
 unfold cellAt
 rcases hq with h | h | ⟨h,hb⟩ | ⟨h,hb⟩
 ·rw [cellsP_rest (.inl h),h];rfl
 ·rw [cellsP_rest (.inr h),h];rfl
 ·obtain ⟨w2,_,hf,_,_⟩:=small_full hb
  rw [cellsP_small h,cellRow_find _ _ (by omega),h]
  have h21:((1:Int)==2)=false:=rfl
  rw [h21,beq_self_eq_true,Bool.false_and,cond_false,Bool.true_and,Nat.zero_add,hf]
  by_cases hm:(r:Int) % wordsOf q.2=0
  ·rw [if_pos ⟨hm,by omega,by omega⟩,beq_of hm];rfl
  ·rw [if_neg (fun h=>hm h.1),beq_ne hm];rfl
 ·rw [cellsP_large h hb,h]
  by_cases h0:r=0
  ·subst h0
   simp [firstC,pred29,optE]
  ·have e1:(r==0)=false:=by simp [h0]
   have e2:(16*((i:Int)+1)+(r:Int)==16*((i:Int)+1))=false:=by simp;omega
   rw [e1]
   simp [firstC,pred29,e2,optE]
theorem cellsP_in {q:Pg} (hq:okPg q) (i:Nat):∀ c∈cellsP (i:Int) q,16*((i:Int)+1)<=c.1/\c.1<16*((i:Int)+2):=by
 rcases hq with h | h | ⟨h,hb⟩ | ⟨h,hb⟩
 ·rw [cellsP_rest (.inl h)];intro c hc;cases hc
 ·rw [cellsP_rest (.inr h)];intro c hc;cases hc
 ·obtain ⟨w2,w8,hf,hn,_⟩:=small_full hb
  rw [cellsP_small h]
  intro c hc
  have h1:=cellRow_hi (16*((i:Int)+1)) (wordsOf q.2) w2 (cellsN q.2).toNat 0 c hc
  rw [Nat.zero_add,hf] at h1
  have lo:∀ (n k:Nat),∀ c∈cellRow (16*((i:Int)+1)) (wordsOf q.2) k n,16*((i:Int)+1)<=c.1/\c.2=wordsOf q.2:=by
   intro n
   induction n with
   | zero=>intro k c hc;cases hc
   | succ n ih=>
    intro k c hc
    simp only [cellRow,List.mem_cons] at hc
    rcases hc with rfl | hc
    ·have:0<=(k:Int)*wordsOf q.2:=Int.mul_nonneg (by omega) (by omega)
     exact ⟨by dsimp only;omega,rfl⟩
    ·exact ih _ c hc
  have:=lo _ _ c hc
  omega
 ·rw [cellsP_large h hb]
  intro c hc
  simp at hc
  subst hc
  dsimp only
  omega
theorem allFrom_find (r:Nat) (hr:r<16):∀ (ps:List Pg) (i:Nat),(∀ q∈ps,okPg q)->∀ (j:Nat) (h:j<ps.length),optE (firstC 93 (16*(((i+j:Nat):Int)+1)+r) (allFrom i ps)) 0 (·.2)=cellAt ps[j] r
 | [],i,_,j,h=>by simp at h
 | q::ps,i,hq,j,h=>by
  have hin:=cellsP_in (hq q (by simp)) i
  simp only [allFrom,firstC_append]
  cases j with
  | zero=>
   have hrest:firstC 93 (16*(((i+0:Nat):Int)+1)+r) (allFrom (i+1) ps)=none:=by
    refine firstC_none fun c hc => ?_
    have:∀ (ps:List Pg) (k:Nat),(∀ q∈ps,okPg q)->∀ c∈allFrom k ps,16*((k:Int)+1)<=c.1:=by
     intro ps
     induction ps with
     | nil=>intro k _ c hc;cases hc
     | cons p ps ih=>
      intro k hp c hc
      simp only [allFrom,List.mem_append] at hc
      rcases hc with hc | hc
      ·exact (cellsP_in (hp p (by simp)) k c hc).1
      ·have:=ih (k+1) (fun q hq=>hp q (by simp [hq])) c hc
       omega
    have:=this ps (i+1) (fun q h=>hq q (by simp [h])) c hc
    rw [pred29]
    simp
    omega
   rw [hrest,Option.or_none]
   exact cellsP_at (hq q (by simp)) i r hr
  | succ j=>
   have hf:firstC 93 (16*(((i+(j+1):Nat):Int)+1)+r) (cellsP i q)=none:=by
    refine firstC_none fun c hc => ?_
    have:=hin c hc
    rw [pred29]
    simp
    omega
   rw [hf,Option.none_or,show i+(j+1)=i+1+j by omega]
   exact allFrom_find r hr ps (i+1) (fun q h=>hq q (by simp [h])) j (by simpa using h)
theorem allFrom_in:∀ (ps:List Pg) (i:Nat),(∀ q∈ps,okPg q)->∀ c∈allFrom i ps,16*((i:Int)+1)<=c.1/\c.1<16*((i:Int)+1+ps.length)
 | [],i,_,c,h=>by cases h
 | q::ps,i,hq,c,h=>by
  simp only [allFrom,List.mem_append] at h
  rcases h with h | h
  ·have:=cellsP_in (hq q (by simp)) i c h
   simp only [List.length_cons]
   omega
  ·have:=allFrom_in ps (i+1) (fun q h=>hq q (by simp [h])) c h
   simp only [List.length_cons]
   omega
theorem roomA_def (ps:List Pg) (a:Int):roomA ps a=optE (firstC 93 a (allCs ps)) 0 (·.2):=rfl
theorem roomA_doc (ps:List Pg) (a:Int):roomA ps a=bif may ps&&decide (16<=a)&&decide (a<16+16*(ps.length:Int)) then cellAt (ps.getD (a / 16 - 1).toNat (0,0)) (a % 16).toNat else 0:=by
 rw [roomA_def]
 unfold allCs
 cases hm:may ps with
 | false=>rfl
 | true=>
  obtain ⟨h1,h2,h3⟩:=may_go hm
  have hok:=okPg_of h1
  rw [cond_true,Bool.true_and]
  by_cases hlo:16<=a
  ·by_cases hhi:a<16+16*(ps.length:Int)
   ·rw [decide_eq_true hlo,decide_eq_true hhi]
    have hj:(a / 16 - 1).toNat<ps.length:=by omega
    have:=allFrom_find (a % 16).toNat (by omega) ps 0 hok (a / 16 - 1).toNat hj
    rw [Nat.zero_add,show 16*(((a / 16 - 1).toNat:Int)+1)+((a % 16).toNat:Int)=a by omega] at this
    rw [this,show ps.getD (a / 16 - 1).toNat (0,0)=ps[(a / 16 - 1).toNat] by rw [List.getD_eq_getElem?_getD,List.getElem?_eq_getElem hj];rfl]
    rfl
   ·rw [decide_eq_true hlo,decide_eq_false hhi]
    rw [firstC_none fun c hc => ?_]
    ·rfl
    ·have:=allFrom_in ps 0 hok c hc
     rw [pred29];simp;omega
  ·rw [decide_eq_false hlo]
   rw [firstC_none fun c hc => ?_]
   ·rfl
   ·have:=allFrom_in ps 0 hok c hc
    rw [pred29];simp;omega
end Go.Ab

namespace Go.Ab
open Go
set_option maxRecDepth 100000
open Go.Proofs
noncomputable abbrev Pr:Program:=Go.Proofs.Tryz.prog
def gWordsR:Callee:=g1 cI (fun _=>true) fun c=>cI.enc (wordsOf c)
def gBegins:Callee:=g2 cPs cI (fun ps _=>Nat.ble ps.length 200) fun ps a=>cI.enc (roomA ps a)
def gAllR:Callee:=g1 cPs (fun ps=>Nat.ble ps.length 200) fun ps=>cOI.enc ((allCs ps).map (·.1))
noncomputable abbrev c34:Cx:=cxF Pr Tryz.f32 []
noncomputable abbrev c23:Cx:=cxF Pr Tryz.f31 [(84,gMayS),(32,gWordsR)]
abbrev o19:Exit->List Nat:=fun _=>[3]
noncomputable abbrev c19a:Cx:=cxF Pr Tryz.f103 [(31,gBegins)]
abbrev p19:=[false,true,false,true,true]
def L19:LoopSem:=l3 [0,3,4] o19 cPs cOI cI c0 (fun ps O i _=>Nat.ble ps.length 200&&O.isEmpty&&i==16) fun ps _ _ _ => .one (.exit 0) [cOI.enc ((allCs ps).map (·.1))] []
noncomputable abbrev c19:Cx:=c19a.loop p19 L19
abbrev o18:Exit->List Nat:=fun _=>[6]
noncomputable abbrev c18a:Cx:=cxF Pr Tryz.f68 [(103,gAllR)]
abbrev p18:=[false,true,false,true,true,true]
def L18:LoopSem:=l4 [1,5,6,7] o18 cI cOI cOI cI c0 (fun _ xs O i _=>Nat.ble xs.length 8192&&O.isEmpty&&i==0) fun p xs _ _ _ => .one (.exit 0) [cOI.enc (xs.filter fun a=>IntKind.i64.wrap (IntKind.i64.wrap (a.tdiv 16) - 1)==p)] []
noncomputable abbrev c18:Cx:=c18a.loop p18 L18
theorem s34 (a:Int) (β:Type) (K:CV->List (List CV)->Option β):fnK c34 Tryz.f32 [cI.enc a] [] K=
 bif a==0 then K (CV.int IntKind.i64 2) []
 else
 bif a==1 then K (CV.int IntKind.i64 4) []
 else bif a==2 then K (CV.int IntKind.i64 8) [] else K (CV.int IntKind.i64 0) []:=by kernel_rfl
theorem s23 (ps:List Pg) (a:Int) (β:Type) (K:CV->List (List CV)->Option β):fnK c23 Tryz.f31 [cPs.enc ps,cI.enc a] [] K=
 Option.bind (decP (List.map encP ps)) fun ps_1=>
 bif Nat.ble (List.length ps_1) 200 then
 bif !may ps_1 then K (CV.int IntKind.i64 0) []
 else
 bif decide (a<16) then K (CV.int IntKind.i64 0) []
 else
 bif decide (a>=IntKind.wrap IntKind.i64 (16+IntKind.wrap IntKind.i64 (16*(↑(List.length (List.map encP ps)):Int)))) then
 K (CV.int IntKind.i64 0) []
 else
 Option.bind (rdE (List.map encP ps) (IntKind.wrap IntKind.i64 (IntKind.wrap IntKind.i64 (Int.tdiv a 16) - 1))) fun c=>
 Option.bind c[0]? fun x=>
 Option.bind (asI IntKind.i64 x) fun n=>
 Option.bind c[1]? fun x=>
 Option.bind (asI IntKind.i64 x) fun n_1=>
 bif n==2 then
 bif Int.tmod a 16==0 then K (CV.int IntKind.i64 (IntKind.wrap IntKind.i64 (16*n_1))) []
 else
 bif n==1 then
 if wordsOf n_1=0 then none
 else
 bif Int.tmod a (wordsOf n_1)==0 then K (CV.int IntKind.i64 (wordsOf n_1)) []
 else K (CV.int IntKind.i64 0) []
 else K (CV.int IntKind.i64 0) []
 else
 bif n==1 then
 if wordsOf n_1=0 then none
 else
 bif Int.tmod a (wordsOf n_1)==0 then K (CV.int IntKind.i64 (wordsOf n_1)) []
 else K (CV.int IntKind.i64 0) []
 else K (CV.int IntKind.i64 0) []
 else none:=by kernel_rfl
theorem s19 (ps:List Pg) (β:Type) (K:CV->List (List CV)->Option β):fnK c19 Tryz.f103 [cPs.enc ps] [] K=
 Option.bind (decP (List.map encP ps)) fun a=>
 bif Nat.ble (List.length a) 200&&true&&true then
 K (CV.own 1 (encI (List.map (fun x=>Prod.fst x) (allCs a)))) []
 else none:=by kernel_rfl
theorem t19 (ps:List Pg) (O:List Int) (i:Int) (m:Nat) (β:Type) (K:Exit->List CV->List (List CV)->Option β):loopB c19a [0,3,4] o19 p19 (bodyL (bodyOf Tryz.f103) p19) (m+1) [cPs.enc ps,cOI.enc O,cI.enc i] [] K=
 bif decide (i<IntKind.wrap IntKind.i64 (16+IntKind.wrap IntKind.i64 (16*(↑(List.length (List.map encP ps)):Int)))) then
 Option.bind (decP (List.map encP ps)) fun a=>
 bif Nat.ble (List.length a) 200 then
 bif decide (roomA a i>0) then
 if List.length (encI O++[[CV.int IntKind.i64 i]])<=LIM then loopB c19a [0,3,4] o19 [false,true,false,true,true] (bodyL (bodyOf Tryz.f103) p19) m [CV.sl 2 (List.map encP ps),CV.own 1 (encI O++[[CV.int IntKind.i64 i]]),CV.int IntKind.i64 (IntKind.wrap IntKind.i64 (i+1))] [] fun a a_1 a_2=>K a a_1 a_2
 else none
 else loopB c19a [0,3,4] o19 [false,true,false,true,true] (bodyL (bodyOf Tryz.f103) p19) m [CV.sl 2 (List.map encP ps),CV.own 1 (encI O),CV.int IntKind.i64 (IntKind.wrap IntKind.i64 (i+1))] [] fun a a_1 a_2=>K a a_1 a_2
 else none
 else K (Exit.exit 0) [CV.own 1 (encI O)] []:=by kernel_rfl
theorem s18 (ps:List Pg) (p:Int) (β:Type) (K:CV->List (List CV)->Option β):fnK c18 Tryz.f68 [cPs.enc ps,cI.enc p] [] K=
 Option.bind (decP (List.map encP ps)) fun a=>
 bif Nat.ble (List.length a) 200 then
 Option.bind (decI (encI (List.map (fun x=>Prod.fst x) (allCs a)))) fun b=>
 bif Nat.ble (List.length b) 8192&&true&&true then
 K (CV.own 1 (encI (List.filter (fun a=>IntKind.wrap IntKind.i64 (IntKind.wrap IntKind.i64 (Int.tdiv a 16) - 1)==p) b))) []
 else none
 else none:=by kernel_rfl
theorem t18 (xs:List Int) (p:Int) (O:List Int) (i:Int) (m:Nat) (β:Type) (K:Exit->List CV->List (List CV)->Option β):loopB c18a [1,5,6,7] o18 p18 (bodyL (bodyOf Tryz.f68) p18) (m+1) [cI.enc p,cOI.enc xs,cOI.enc O,cI.enc i] [] K=
 bif decide (i<(↑(List.length (encI xs)):Int)) then
 if 0<=i/\i<(↑(List.length (encI xs)):Int) then
 Option.bind (encI xs)[Int.toNat i]? fun e=>
 Option.bind e[0]? fun x=>
 Option.bind (asI IntKind.i64 x) fun n=>
 bif IntKind.wrap IntKind.i64 (IntKind.wrap IntKind.i64 (Int.tdiv n 16) - 1)==p then
 if 0<=i/\i<(↑(List.length (encI xs)):Int) then
 Option.bind (encI xs)[Int.toNat i]? fun e=>
 Option.bind e[0]? fun x=>
 Option.bind (asI IntKind.i64 x) fun n=>
 if List.length (encI O++[[CV.int IntKind.i64 n]])<=LIM then loopB c18a [1,5,6,7] o18 [false,true,false,true,true,true] (bodyL (bodyOf Tryz.f68) p18) m [CV.int IntKind.i64 p,CV.own 1 (encI xs),CV.own 1 (encI O++[[CV.int IntKind.i64 n]]),CV.int IntKind.i64 (IntKind.wrap IntKind.i64 (i+1))] [] fun a a_1 a_2=>K a a_1 a_2
 else none
 else none
 else loopB c18a [1,5,6,7] o18 [false,true,false,true,true,true] (bodyL (bodyOf Tryz.f68) p18) m [CV.int IntKind.i64 p,CV.own 1 (encI xs),CV.own 1 (encI O),CV.int IntKind.i64 (IntKind.wrap IntKind.i64 (i+1))] [] fun a a_1 a_2=>K a a_1 a_2
 else none
 else K (Exit.exit 0) [CV.own 1 (encI O)] []:=by kernel_rfl
theorem wrap_in {a:Int} (h : -9223372036854775808<=a/\a<=9223372036854775807):IntKind.i64.wrap a=a:=IntWalk.i64_in a h
theorem encI_snoc (O:List Int) (a:Int):encI O++[[CV.int .i64 a]]=encI (O++[a]):=by simp [encI]
theorem lim_of {n:Nat} (h:n<=4000000000):n<=LIM:=by
 have:LIM=4294967296:=rfl
 omega
theorem ix_int {xs:List Int} {i:Nat} (h:i<xs.length) {γ:Type} (f:List CV->Option γ):
  (if 0<=(i:Int)/\(i:Int)<((encI xs).length:Int) then Option.bind (encI xs)[(i:Int).toNat]? f else none)=f [CV.int .i64 xs[i]]:=by
 rw [if_pos ⟨by omega,by simp;omega⟩]
 simp [encI,h]
@[simp] theorem zero_get (x:CV) (l:List CV):(x::l)[0]? = some x:=rfl
@[simp] theorem one_get (x y:CV) (l:List CV):(x::y::l)[1]? = some y:=rfl
theorem words_good:GoodC Pr 32 gWordsR:=
 good1 ((CxOK.base Good.nil (eqOK_none fun _=>rfl)).sound (cx:=c34) Tryz.func32 (by kernel_rfl) (by kernel_rfl) rfl (by kernel_rfl)) fun a _ β K=>by
  rw [s34]
  unfold wordsOf
  by_cases h0:a=0
  ·subst h0;rfl
  ·by_cases h1:a=1
   ·subst h1;rfl
   ·by_cases h2:a=2
    ·subst h2;rfl
    ·rw [beq_ne h0,beq_ne h1,beq_ne h2]
     simp only [cond_false]
     by_cases hlo:a<0
     ·rw [if_pos hlo];rfl
     ·by_cases hhi:a>=3
      ·rw [if_neg hlo,if_pos hhi];rfl
      ·omega
theorem refMay_good:GoodC Pr 84 gMayS:=⟨mayS14,mayS_nat⟩
theorem tmod_pos {a b:Int} (h:0<=a):Int.tmod a b=a % b:=Int.tmod_eq_emod_of_nonneg h
theorem tdiv_pos {a b:Int} (h:0<=a):Int.tdiv a b=a / b:=Int.tdiv_eq_ediv_of_nonneg h
theorem rdE_nat {α:Type} {l:List α} {n:Int} (h:0<=n):rdE l n=l[n.toNat]? := by unfold rdE;rw [if_pos h]
theorem begins_good:GoodC Pr 31 gBegins:=
 good2 ((CxOK.base (Good.cons refMay_good (Good.cons words_good Good.nil)) (eqOK_none fun _=>rfl)).sound (cx:=c23) Tryz.func31 (by kernel_rfl) (by kernel_rfl) rfl (by kernel_rfl)) fun ps a hp β K=>by
  rw [s23,roomA_doc]
  have hl:=Nat.le_of_ble_eq_true hp
  simp only [decP_map,Option.bind_some,hp,cond_true,List.length_map]
  cases hm:may ps with
  | false=>rfl
  | true=>
   obtain ⟨h1,_,h64⟩:=may_go hm
   rw [wrap_in (a:=16*(ps.length:Int)) (by omega),wrap_in (a:=16+16*(ps.length:Int)) (by omega)]
   by_cases hlo:a<16
   ·rw [decide_eq_true hlo,decide_eq_false (show ¬ 16<=a by omega)];rfl
   ·rw [decide_eq_false hlo,decide_eq_true (show 16<=a by omega)]
    by_cases hhi:a>=16+16*(ps.length:Int)
    ·rw [decide_eq_true hhi,decide_eq_false (show ¬ a<16+16*(ps.length:Int) by omega)];rfl
    ·rw [decide_eq_false hhi,decide_eq_true (show a<16+16*(ps.length:Int) by omega)]
     have hj:(a / 16 - 1).toNat<ps.length:=by omega
     rw [tdiv_pos (by omega),wrap_in (a:=a / 16) (by omega),wrap_in (a:=a / 16 - 1) (by omega),rdE_nat (by omega),List.getElem?_map,List.getElem?_eq_getElem hj]
     have hok:=okPg_of h1 ps[(a / 16 - 1).toNat] (List.getElem_mem hj)
     have hg:ps.getD (a / 16 - 1).toNat (0,0)=ps[(a / 16 - 1).toNat]:=by rw [List.getD_eq_getElem?_getD,List.getElem?_eq_getElem hj];rfl
     rw [hg]
     generalize ps[(a / 16 - 1).toNat]=q at hok ⊢
     obtain ⟨k,n⟩:=q
     have hr:(((a % 16).toNat:Nat):Int)=a % 16:=by omega
     simp only [Option.map_some,Option.bind_some,encP,zero_get,one_get,asI_i,Bool.not_true,cond_false,Bool.and_self,cond_true,cellAt,tmod_pos (show 0<=a by omega),hr]
     have h16:((a % 16).toNat==0)=(a % 16==0):=by
      by_cases e:a % 16=0
      ·rw [beq_of e,e];rfl
      ·rw [beq_ne e];simp;omega
     rw [h16]
     rcases hok with h | h | ⟨h,hb⟩ | ⟨h,hb⟩ <;> dsimp only at h <;> subst h
     ·rfl
     ·rfl
     ·obtain ⟨w2,_⟩:=small_full hb
      dsimp only at w2
      have hdvd:a % 16 % wordsOf n=a % wordsOf n:=by
       have hb':n=0\/n=1\/n=2:=by dsimp only at hb;omega
       rcases hb' with rfl | rfl | rfl
       ·exact show a % 16 % 2=a % 2 by omega
       ·exact show a % 16 % 4=a % 4 by omega
       ·exact show a % 16 % 8=a % 8 by omega
      rw [hdvd,if_neg (show ¬ wordsOf n=0 by omega)]
      cases hz:a % wordsOf n==0 <;> rfl
     ·rw [wrap_in (a:=16*n) (by dsimp only at hb;omega)]
      cases a % 16==0 <;> rfl
theorem allCs_rises (ps:List Pg):rises 16 (16+(16*ps.length:Nat)) ((allCs ps).map (·.1)):=by
 have go:∀ (cs:List Cell) (lo:Int),chain lo cs->(∀ c∈cs,c.1<16+(16*ps.length:Nat))->rises lo (16+(16*ps.length:Nat)) (cs.map (·.1)):=by
  intro cs
  induction cs with
  | nil=>intro lo _ _;trivial
  | cons c cs ih=>
   rintro lo ⟨h1,h2,h3,h4,h5⟩ hb
   exact ⟨h1,hb c (by simp),ih _ (chain_mono (show c.1+1<=c.1+c.2 by omega) h5) fun d hd=>hb d (by simp [hd])⟩
 refine go _ _ (all_chain ps) fun c hc => ?_
 unfold allCs at hc
 cases hm:may ps with
 | false=>rw [hm] at hc;cases hc
 | true=>
  rw [hm] at hc
  have:=allFrom_in ps 0 (okPg_of (may_go hm).1) c hc
  omega
theorem room_pos (ps:List Pg) (a:Int):decide (roomA ps a>0)=decide (a∈(allCs ps).map (·.1)):=by
 by_cases h:a∈(allCs ps).map (·.1)
 ·obtain ⟨c,hc,rfl⟩:=List.mem_map.1 h
  have h1:roomA ps c.1=c.2:=by rw [roomA_def,find29 (all_chain ps) c hc];rfl
  have h2:=chain_mem (all_chain ps) c hc
  rw [decide_eq_true h,h1]
  exact decide_eq_true (by omega)
 ·rw [decide_eq_false h]
  refine decide_eq_false fun hp => ?_
  rw [roomA_def] at hp
  cases hf:firstC 93 a (allCs ps) with
  | none=>rw [hf] at hp;cases hp
  | some c=>
   obtain ⟨h1,h2⟩:=of29 hf
   exact h (List.mem_map.2 ⟨c,h1,h2⟩)
theorem loop19_spec (ps:List Pg) (h200:Nat.ble ps.length 200=true) (β:Type) (K:Exit->List CV->List (List CV)->Option β):∀ (m:Nat) (i:Int) (O:List Int),16<=i->i+m=16+16*(ps.length:Int)->(O.length:Int)<=i->
  loopB c19a [0,3,4] o19 p19 (bodyL (bodyOf Tryz.f103) p19) (m+1) [cPs.enc ps,cOI.enc O,cI.enc i] [] K=K (.exit 0) [cOI.enc (O++(upto i m).filter fun a=>decide (roomA ps a>0))] []:=by
 have hl:=Nat.le_of_ble_eq_true h200
 intro m
 induction m with
 | zero=>
  intro i O h1 h2 h3
  rw [t19,List.length_map,wrap_in (a:=16*(ps.length:Int)) (by omega),wrap_in (a:=16+16*(ps.length:Int)) (by omega),decide_eq_false (by omega)]
  simp [upto]
 | succ m ih=>
  intro i O h1 h2 h3
  rw [t19,List.length_map,wrap_in (a:=16*(ps.length:Int)) (by omega),wrap_in (a:=16+16*(ps.length:Int)) (by omega),decide_eq_true (by omega),cond_true,decP_map,Option.bind_some,h200,cond_true,wrap_in (a:=i+1) (by omega)]
  simp only [upto,List.filter_cons]
  cases hr:decide (roomA ps i>0) with
  | true=>
   rw [cond_true,encI_snoc,if_pos (lim_of (by simp;omega))]
   refine (ih (i+1) (O++[i]) (by omega) (by omega) (by simp;omega)).trans ?_
   simp
  | false=>
   rw [cond_false]
   refine (ih (i+1) O (by omega) (by omega) (by omega)).trans ?_
   simp
theorem ok19:CxOK c19 [(31,gBegins)]:=
 (CxOK.base (Good.cons begins_good Good.nil) (eqOK_none fun _=>rfl)).loop3 rfl fun ps O i _ hp=>by
  simp only [Bool.and_eq_true,beq_iff_eq,List.isEmpty_iff] at hp
  obtain ⟨⟨h200,rfl⟩,rfl⟩:=hp
  refine ⟨16*ps.length+1,fun β K=>(loop19_spec ps h200 β K (16*ps.length) 16 [] (by omega) (by omega) (by simp)).trans ?_⟩
  have:=filter_rises (16*ps.length) 16 _ (allCs_rises ps)
  simp only [room_pos,this]
  rfl
theorem allR_good:GoodC Pr 103 gAllR:=
 good1 (ok19.sound Tryz.func103 (by kernel_rfl) (by kernel_rfl) rfl (by kernel_rfl)) fun ps hp β K=>by
  rw [s19]
  simp only [decP_map,Option.bind_some,hp,Bool.and_self,cond_true]
  rfl
theorem loop18_spec (p:Int) (xs:List Int) (hx:xs.length<=8192) (β:Type) (K:Exit->List CV->List (List CV)->Option β):∀ (m i:Nat) (O:List Int),i+m=xs.length->O.length<=i->
  loopB c18a [1,5,6,7] o18 p18 (bodyL (bodyOf Tryz.f68) p18) (m+1) [cI.enc p,cOI.enc xs,cOI.enc O,cI.enc i] [] K=K (.exit 0) [cOI.enc (O++(xs.drop i).filter fun a=>IntKind.i64.wrap (IntKind.i64.wrap (a.tdiv 16) - 1)==p)] []:=by
 intro m
 induction m with
 | zero=>
  intro i O h1 h2
  rw [t18,encI_len,decide_eq_false (by omega),List.drop_eq_nil_of_le (by omega)]
  simp
 | succ m ih=>
  intro i O h1 h2
  have hi:i<xs.length:=by omega
  rw [t18,decide_eq_true (show (i:Int)<((encI xs).length:Int) by simp;omega),cond_true,ix_int hi,List.drop_eq_getElem_cons hi,List.filter_cons]
  simp only [ix_int hi,zero_get,Option.bind_some,asI_i,encI_snoc,show (i:Int)+1=((i+1:Nat):Int) by omega,wrap_in (a:=((i+1:Nat):Int)) (by omega)]
  cases hq:IntKind.i64.wrap (IntKind.i64.wrap (xs[i].tdiv 16) - 1)==p with
  | true=>
   rw [cond_true,if_pos (lim_of (by simp;omega))]
   refine (ih (i+1) (O++[xs[i]]) (by omega) (by simp;omega)).trans ?_
   simp
  | false=>
   rw [cond_false]
   refine (ih (i+1) O (by omega) (by omega)).trans ?_
   simp
theorem ok18:CxOK c18 [(103,gAllR)]:=
 (CxOK.base (Good.cons allR_good Good.nil) (eqOK_none fun _=>rfl)).loop4 rfl fun p xs O i _ hp=>by
  simp only [Bool.and_eq_true,beq_iff_eq,List.isEmpty_iff] at hp
  obtain ⟨⟨hx,rfl⟩,rfl⟩:=hp
  exact ⟨xs.length+1,fun β K=>(loop18_spec p xs (Nat.le_of_ble_eq_true hx) β K xs.length 0 [] (by omega) (by simp)).trans (by rw [List.drop_zero];rfl)⟩
theorem onL_filter (ps:List Pg) (p:Int):((allCs ps).map (·.1)).filter (fun a=>IntKind.i64.wrap (IntKind.i64.wrap (a.tdiv 16) - 1)==p)=(onL ps p).map (·.1):=by
 have go:∀ (ps:List Pg) (i:Nat),i+ps.length<=300->(∀ q∈ps,okPg q)->((allFrom i ps).map (·.1)).filter (fun a=>IntKind.i64.wrap (IntKind.i64.wrap (a.tdiv 16) - 1)==p)=(bif decide ((i:Int)<=p)&&decide (p<(i:Int)+ps.length) then cellsP p (ps.getD (p - i).toNat (0,0)) else []).map (·.1):=by
  intro ps
  induction ps with
  | nil=>
   intro i _ _
   by_cases h:(i:Int)<=p
   ·rw [decide_eq_false (show ¬ p<(i:Int)+([]:List Pg).length by simp;omega),Bool.and_false];rfl
   ·rw [decide_eq_false h];rfl
  | cons q ps ih=>
   intro i hi hq
   have hin:=cellsP_in (hq q (by simp)) i
   have ih:=ih (i+1) (by simp at hi;omega) fun q h=>hq q (by simp [h])
   have hval:∀ c∈cellsP (i:Int) q,IntKind.i64.wrap (IntKind.i64.wrap (c.1.tdiv 16) - 1)=i:=fun c hc=>by
    have:=hin c hc
    simp at hi
    rw [tdiv_pos (by omega),wrap_in (a:=c.1 / 16) (by omega),wrap_in (a:=c.1 / 16 - 1) (by omega)]
    omega
   simp only [allFrom,List.map_append,List.filter_append,ih,List.length_cons]
   by_cases hp:p=i
   ·subst hp
    have e1:((cellsP (i:Int) q).map (·.1)).filter (fun a=>IntKind.i64.wrap (IntKind.i64.wrap (a.tdiv 16) - 1)==(i:Int))=(cellsP (i:Int) q).map (·.1):=by
     refine List.filter_eq_self.2 fun a ha => ?_
     obtain ⟨c,hc,rfl⟩:=List.mem_map.1 ha
     simp [hval c hc]
    rw [e1,decide_eq_false (show ¬ ((i+1:Nat):Int)<=(i:Int) by omega),decide_eq_true (show (i:Int)<=i by omega),decide_eq_true (show (i:Int)<(i:Int)+((ps.length+1:Nat):Int) by omega)]
    simp
   ·have e1:((cellsP (i:Int) q).map (·.1)).filter (fun a=>IntKind.i64.wrap (IntKind.i64.wrap (a.tdiv 16) - 1)==p)=[]:=by
     refine List.filter_eq_nil_iff.2 fun a ha => ?_
     obtain ⟨c,hc,rfl⟩:=List.mem_map.1 ha
     simp only [hval c hc,beq_iff_eq]
     omega
    rw [e1,List.nil_append]
    by_cases hlo:((i+1:Nat):Int)<=p
    ·rw [decide_eq_true hlo,decide_eq_true (show (i:Int)<=p by omega),show (p - ((i:Nat):Int)).toNat=(p - ((i+1:Nat):Int)).toNat+1 by omega]
     by_cases hhi:p<((i+1:Nat):Int)+ps.length
     ·rw [decide_eq_true hhi,decide_eq_true (show p<(i:Int)+((ps.length+1:Nat):Int) by omega)]
      simp
     ·rw [decide_eq_false hhi,decide_eq_false (show ¬ p<(i:Int)+((ps.length+1:Nat):Int) by omega)]
      rfl
    ·rw [decide_eq_false hlo,decide_eq_false (show ¬ (i:Int)<=p by omega)]
     rfl
 unfold allCs onL
 cases hm:may ps with
 | false=>by_cases h0:p<0 <;> by_cases h1:p>=(ps.length:Int) <;> simp [h0,h1]
 | true=>
  obtain ⟨h1,h2,h3⟩:=may_go hm
  have:=go ps 0 (by omega) (okPg_of h1)
  simp only [cond_true]
  rw [this]
  by_cases h0:p<0
  ·rw [decide_eq_true h0,decide_eq_false (show ¬ ((0:Nat):Int)<=p by omega)];rfl
  ·rw [decide_eq_false h0,decide_eq_true (show ((0:Nat):Int)<=p by omega)]
   by_cases h1:p>=(ps.length:Int)
   ·rw [decide_eq_true h1,decide_eq_false (show ¬ p<((0:Nat):Int)+(ps.length:Int) by omega)];rfl
   ·rw [decide_eq_false h1,decide_eq_true (show p<((0:Nat):Int)+(ps.length:Int) by omega)]
    simp
def gOnR:Callee:=g2 cPs cI (fun ps _=>Nat.ble ps.length 200) fun ps p=>cOI.enc ((onL ps p).map (·.1))
theorem all_len8 {ps:List Pg} (h:Nat.ble ps.length 200=true):Nat.ble ((allCs ps).map (·.1)).length 8192=true:=by
 have:=Nat.le_of_ble_eq_true h
 refine Nat.ble_eq_true_of_le ?_
 rw [List.length_map]
 unfold allCs
 cases may ps with
 | false=>simp
 | true=>have:=allFrom_len ps 0;simp only [cond_true];omega
theorem onR_good:GoodC Pr 68 gOnR:=
 good2 (ok18.sound Tryz.func68 (by kernel_rfl) (by kernel_rfl) rfl (by kernel_rfl)) fun ps p hp β K=>by
  rw [s18]
  simp only [decP_map,decI_map,Option.bind_some,hp,all_len8 hp,Bool.and_self,cond_true,onL_filter]
  rfl
end Go.Ab

namespace Go.Ab
open Go
set_option maxRecDepth 100000
def allFree:Nat->List Pg->Bool
 | 0,_=>true
 | _+1,[]=>false
 | n+1,p::ps=>cond (p.1==0) (allFree n ps) false
def putP (ps:List Pg) (a:Nat) (own:List Pg):List Pg:=splice ps a (own.take (min own.length (ps.length - a)))
def freeE (ps:List Pg) (a n:Int):Int:=cond (decide (a<0) || decide (a>(ps.length:Int) - n)) 3 (cond (allFree n.toNat (ps.drop a.toNat)) 0 4)
theorem cnt_le (ps:List Pg) (k:Int):cnt ps k<=ps.length:=List.length_filter_le _ _
theorem allFree_cnt:∀ (n:Nat) (ps:List Pg),n<=ps.length->decide (((cnt (ps.take n) 0:Nat):Int)<(n:Int)) = !(allFree n ps)
 | 0,ps,_=>by simp [cnt,allFree]
 | n+1,[],h=>by simp at h
 | n+1,p::ps,h=>by
  have ih:=allFree_cnt n ps (by simpa using h)
  have hle:=cnt_le (ps.take n) 0
  simp only [List.length_take] at hle
  simp only [allFree]
  cases hp:p.1==0 with
  | true=>
   have:cnt ((p::ps).take (n+1)) 0=cnt (ps.take n) 0+1:=by simp [cnt,hp]
   rw [this,cond_true,<- ih]
   simp
  | false=>
   have:cnt ((p::ps).take (n+1)) 0=cnt (ps.take n) 0:=by simp [cnt,hp]
   rw [this]
   simp
   omega
def resC (r:Int×List Pg):CV := .tup [.own 2 (r.2.map encP),.int .i64 r.1]
def in3 (n a b:Int):Bool:=cond (decide (n>=a)) (decide (n<=b)) false
def smallE (ps:List Pg) (a c:Int):Int×List Pg:=cond (!(may ps)) (1,[]) (cond (!(in3 c 0 2)) (1,[]) (cond (freeE ps a 1 != 0) (freeE ps a 1,[]) (0,putP ps a.toNat [(1,c)])))
def ownL (n:Int):List Pg:=(2,n)::List.replicate (n.toNat - 1) (3,0)
def largeE (ps:List Pg) (a n:Int):Int×List Pg:=cond (!(may ps)) (1,[]) (cond (!(in3 n 1 4)) (1,[]) (cond (freeE ps a n != 0) (freeE ps a n,[]) (0,putP ps a.toNat (ownL n))))
theorem may_len {ps:List Pg} (h:may ps=true):1<=ps.length/\ps.length<=64:=by
 rw [may_eq] at h
 by_cases h1:(ps.length:Int)<1
 ·simp [h1] at h
 ·by_cases h2:(ps.length:Int)>64
  ·simp [h1,h2] at h
  ·omega
theorem freeE_in {ps:List Pg} {a n:Int} (h:freeE ps a n=0):0<=a/\a<=(ps.length:Int) - n/\allFree n.toNat (ps.drop a.toNat)=true:=by
 unfold freeE at h
 cases h1:decide (a<0) with
 | true=>simp [h1] at h
 | false=>
  cases h2:decide (a>(ps.length:Int) - n) with
  | true=>simp [h1,h2] at h
  | false=>
   simp only [decide_eq_false_iff_not] at h1 h2
   refine ⟨by omega,by omega,?_⟩
   simp [h1,h2] at h
   have e1:decide (a<0)=false:=by simpa using h1
   cases ha:allFree n.toNat (ps.drop a.toNat) with
   | true=>rfl
   | false=>rw [ha] at h;simp at h
theorem mayGo_tail {r:Int} {p:Pg} {ps:List Pg} (h:mayGo r (p::ps)=some 0):∃ r',mayGo r' ps=some 0:=by
 obtain ⟨a,b⟩:=p
 simp only [mayGo,Bool.cond_eq_ite] at h
 repeat' (split at h)
 all_goals first | exact ⟨_,h⟩ | cases h
theorem in3_iff {n a b:Int}:in3 n a b=true↔a<=n/\n<=b:=by
 unfold in3
 by_cases h:n>=a
 ·simp [h]
 ·simp [h]
theorem mayGo_large {r b:Int} {ps:List Pg} (h:mayGo r ((2,b)::ps)=some 0):1<=b/\b<=4/\∃ rest,eat (b - 1).toNat ps=some rest/\mayGo 0 rest=some 0:=by
 have h':(bif !(in3 b 1 4) then none else bif decide (r>0) then none else mayGo (b - 1) ps)=some 0:=h
 cases hi:in3 b 1 4 with
 | false=>rw [hi] at h';cases h'
 | true=>
  obtain ⟨h1,h4⟩:=in3_iff.1 hi
  rw [hi] at h'
  cases hr:decide (r>0) with
  | true=>rw [hr] at h';cases h'
  | false=>
   rw [hr] at h'
   simp only [Bool.not_true,cond_false] at h'
   have hg:=mayGo_eat (b - 1).toNat ps
   rw [show (((b - 1).toNat:Nat):Int)=b - 1 by omega,h'] at hg
   refine ⟨h1,h4,?_⟩
   cases he:eat (b - 1).toNat ps with
   | none=>rw [he] at hg;simp at hg
   | some rest=>rw [he] at hg;exact ⟨rest,rfl,by simpa using hg.symm⟩
theorem mayGo_at:∀ {ps:List Pg} {r:Int} {i:Nat} {b:Int},mayGo r ps=some 0->ps[i]? = some (2,b)->1<=b/\b<=4/\∃ rest,eat (b - 1).toNat (ps.drop (i+1))=some rest/\mayGo 0 rest=some 0
 | [],_,_,_,_,hi=>by simp at hi
 | p::ps,r,0,b,h,hi=>by
  simp at hi
  subst hi
  simpa using mayGo_large h
 | p::ps,r,i+1,b,h,hi=>by
  obtain ⟨r',h'⟩:=mayGo_tail h
  simpa using mayGo_at (i:=i) h' (by simpa using hi)
theorem may_go0 {ps:List Pg} (h:may ps=true):mayGo 0 ps=some 0:=by
 have hl:=may_len h
 rw [may_eq,mayR_iff _ _ (Nat.le_refl _)] at h
 have e1:decide ((ps.length:Int)<1)=false:=by simp;omega
 have e2:decide ((ps.length:Int)>64)=false:=by simp;omega
 rw [e1,e2] at h
 simpa using h
theorem go_may {ps:List Pg} (h1:1<=ps.length) (h2:ps.length<=64) (h:mayGo 0 ps=some 0):may ps=true:=by
 rw [may_eq,mayR_iff _ _ (Nat.le_refl _),h]
 have e1:decide ((ps.length:Int)<1)=false:=by simp;omega
 have e2:decide ((ps.length:Int)>64)=false:=by simp;omega
 rw [e1,e2]
 rfl
def runOf (p:Pg):Int:=cond (p.1==2) p.2 1
def dropE (ps:List Pg) (a:Int):Int×List Pg:=cond (!(may ps)) (1,[]) (cond (decide (a<0) || decide (a>=(ps.length:Int))) (3,[])
 (match ps[a.toNat]? with
  | none=>(3,[])
  | some p=>cond (p.1==0 || p.1==3) (3,[]) (0,putP ps a.toNat (List.replicate (runOf p).toNat (0,0)))))
theorem splice_len {α:Type} (l x:List α) (a:Nat) (h:a+x.length<=l.length):(splice l a x).length=l.length:=by
 simp [splice]
 omega
theorem mayGo_append:∀ (xs ys:List Pg) (r:Int),mayGo r (xs++ys)=(mayGo r xs).bind fun r'=>mayGo r' ys
 | [],ys,r=>rfl
 | p::xs,ys,r=>by
  simp only [List.cons_append,mayGo,Bool.cond_eq_ite,mayGo_append xs ys]
  repeat' split
  all_goals rfl
theorem allFree_short:∀ (n:Nat) (ps:List Pg),ps.length<n->allFree n ps=false
 | 0,ps,h=>by omega
 | n+1,[],_=>rfl
 | n+1,p::ps,h=>by
  rw [allFree,allFree_short n ps (by simpa using h)]
  cases p.1==0 <;> rfl
theorem mayGo_nonneg:∀ {xs:List Pg} {r r':Int},0<=r->mayGo r xs=some r'->0<=r'
 | [],r,r',h,e=>by
  simp only [mayGo,Option.some.injEq] at e
  omega
 | (a,b)::xs,r,r',h,e=>by
  by_cases h2:a=2
  ·subst h2
   have e':(bif !(in3 b 1 4) then none else bif decide (r>0) then none else mayGo (b - 1) xs)=some r':=e
   cases hi:in3 b 1 4 with
   | false=>rw [hi] at e';cases e'
   | true=>
    obtain ⟨h1,h4⟩:=in3_iff.1 hi
    rw [hi] at e'
    cases hr:decide (r>0) with
    | true=>rw [hr] at e';cases e'
    | false=>
     rw [hr] at e'
     exact mayGo_nonneg (by omega) e'
  ·have e2:(a==2)=false:=by simpa using h2
   simp only [mayGo,e2,Bool.cond_eq_ite] at e
   split at e
   ·split at e
    ·cases e
    ·rename_i hr
     split at e
     ·cases e
     ·exact mayGo_nonneg (by simp at hr;omega) e
   ·repeat' (split at e)
    all_goals first | exact mayGo_nonneg h e | contradiction | (simp at e;done)
theorem mayGo_free1 {r s b:Int} {ps:List Pg} (h:mayGo r ((0,b)::ps)=some s):b=0/\¬ r>0/\mayGo r ps=some s:=by
 have h':(bif b != 0 then none else bif decide (r>0) then none else mayGo r ps)=some s:=h
 by_cases hb:b=0
 ·subst hb
  by_cases hr:r>0
  ·simp [hr] at h'
  ·simp [hr] at h'
   exact ⟨rfl,by omega,h'⟩
 ·have e:(b != 0)=true:=by simpa using hb
  rw [e] at h'
  cases h'
theorem mayGo_frees:∀ {n:Nat} {r s:Int} {ps:List Pg},0<=r->mayGo r ps=some s->allFree (n+1) ps=true->r=0/\∃ Z,ps=List.replicate (n+1) (0,0)++Z/\mayGo 0 Z=some s
 | n,r,s,[],_,_,ha=>by simp [allFree] at ha
 | n,r,s,(a,b)::ps,h0,hm,ha=>by
  rw [allFree] at ha
  have ha0:a=0:=by
   by_cases h:a=0
   ·exact h
   ·have e:(a==0)=false:=by simpa using h
    rw [e] at ha
    cases ha
  subst ha0
  obtain ⟨rfl,hr,hm'⟩:=mayGo_free1 hm
  have hr0:r=0:=by omega
  subst hr0
  have ha':allFree n ps=true:=ha
  cases n with
  | zero=>exact ⟨rfl,ps,rfl,hm'⟩
  | succ n=>
   obtain ⟨_,Z,hZ,hmZ⟩:=mayGo_frees h0 hm' ha'
   exact ⟨rfl,Z,by rw [hZ];rfl,hmZ⟩
theorem allFree_len {n:Nat} {ps:List Pg} (h:allFree n ps=true):n<=ps.length:=by
 by_cases hl:ps.length<n
 ·rw [allFree_short n ps hl] at h
  cases h
 ·omega
theorem may_free {l:List Pg} {k n:Nat} (hm:mayGo 0 l=some 0) (h1:1<=n) (ha:allFree n (l.drop k)=true):∃ X Z,l=X++List.replicate n (0,0)++Z/\X.length=k/\mayGo 0 X=some 0/\mayGo 0 Z=some 0:=by
 obtain ⟨n,rfl⟩:∃ m,n=m+1:=⟨n - 1,by omega⟩
 have hl:=allFree_len ha
 simp at hl
 have hs:l=l.take k++l.drop k:=(List.take_append_drop k l).symm
 rw [hs,mayGo_append] at hm
 obtain ⟨r,hr,hm⟩:=bind_some' hm
 obtain ⟨rfl,Z,hZ,hmZ⟩:=mayGo_frees (mayGo_nonneg (by omega) hr) hm ha
 exact ⟨l.take k,Z,by rw [List.append_assoc,<- hZ,<- hs],by simp;omega,hr,hmZ⟩
theorem mayGo_join {X Y Z:List Pg} (hX:mayGo 0 X=some 0) (hY:mayGo 0 Y=some 0) (hZ:mayGo 0 Z=some 0):mayGo 0 (X++Y++Z)=some 0:=by
 rw [mayGo_append,mayGo_append,hX,Option.bind_some,hY,Option.bind_some,hZ]
theorem mayGo_zeros:∀ n:Nat,mayGo 0 (List.replicate n (0,0))=some 0
 | 0=>rfl
 | n+1=>mayGo_zeros n
theorem mayGo_rests:∀ (n:Nat),mayGo n (List.replicate n (3,0))=some 0
 | 0=>rfl
 | n+1=>by
  have h0:(((n+1:Nat):Int)==0)=false:=beq_false_of_ne (by omega)
  have h2:((n+1:Nat):Int) - 1=(n:Int):=by omega
  show (bif (((n+1:Nat):Int)==0) then none else mayGo (((n+1:Nat):Int) - 1) (List.replicate n (3,0)))=some 0
  rw [h0,h2]
  exact mayGo_rests n
theorem mayGo_ownL {n:Int} (h1:1<=n) (h4:n<=4):mayGo 0 (ownL n)=some 0:=by
 have:(bif !(in3 n 1 4) then none else mayGo (n - 1) (List.replicate (n.toNat - 1) (3,0)))=some 0:=by
  rw [in3_iff.2 ⟨h1,h4⟩]
  have:=mayGo_rests (n.toNat - 1)
  rw [show ((n.toNat - 1:Nat):Int)=n - 1 by omega] at this
  exact this
 exact this
theorem mayGo_small {c:Int} (h0:0<=c) (h2:c<=2):mayGo 0 [(1,c)]=some 0:=by
 have:(bif !(in3 c 0 2) then (none:Option Int) else some 0)=some 0:=by
  rw [in3_iff.2 ⟨h0,h2⟩]
  rfl
 exact this
theorem splice_mid {α:Type} (X F Z Y:List α) (h:Y.length=F.length):splice (X++F++Z) X.length Y=X++Y++Z:=by
 simp [splice,h,List.drop_append]
theorem ownL_len {n:Int} (h:1<=n):(ownL n).length=n.toNat:=by
 simp [ownL]
 omega
theorem putP_fit {ps own:List Pg} {a:Nat} (h:a+own.length<=ps.length):putP ps a own=splice ps a own:=by
 unfold putP
 rw [List.take_of_length_le (by omega)]
theorem may_run {ps:List Pg} (h:may ps=true) {i:Nat} {b:Int} (hi:ps[i]? = some (2,b)):1<=b/\b<=4/\i+b.toNat<=ps.length:=by
 obtain ⟨h1,h4,rest,he,_⟩:=mayGo_at (may_go0 h) hi
 obtain ⟨hlt,_⟩:=List.getElem?_eq_some_iff.1 hi
 obtain ⟨_,hk⟩:=eat_len _ _ _ he
 simp at hk
 omega
theorem freeE_ok {ps:List Pg} {a n:Int} (h1:1<=n) (h0:0<=a) (ha:allFree n.toNat (ps.drop a.toNat)=true):freeE ps a n=0:=by
 have hl:=allFree_len ha
 simp at hl
 unfold freeE
 have e1:decide (a<0)=false:=by simpa using h0
 have e2:decide (a>(ps.length:Int) - n)=false:=by simp;omega
 rw [e1,e2,ha]
 rfl
theorem large_parts {X Z:List Pg} {n:Int} (h1:1<=n) (h4:n<=4) (hm:may (X++List.replicate n.toNat (0,0)++Z)=true):largeE (X++List.replicate n.toNat (0,0)++Z) (X.length:Nat) n=(0,X++ownL n++Z):=by
 have ha:allFree n.toNat ((X++List.replicate n.toNat (0,0)++Z).drop X.length)=true:=by
  rw [List.append_assoc,List.drop_left]
  have:∀ m:Nat,allFree m (List.replicate m (0,0)++Z)=true:=fun m=>by
   induction m with
   | zero=>rfl
   | succ m ih=>exact ih
  exact this _
 unfold largeE
 rw [hm,in3_iff.2 ⟨h1,h4⟩,freeE_ok h1 (by omega) (by simpa using ha)]
 simp only [Bool.not_true,cond_false,bne_self_eq_false,Int.toNat_natCast]
 have ho:=ownL_len h1
 rw [putP_fit (by simp;omega),splice_mid _ _ _ _ (by simp;omega)]
theorem small_parts {X Z:List Pg} {c:Int} (h0:0<=c) (h2:c<=2) (hm:may (X++[(0,0)]++Z)=true):smallE (X++[(0,0)]++Z) (X.length:Nat) c=(0,X++[(1,c)]++Z):=by
 have ha:allFree (1:Int).toNat ((X++[(0,0)]++Z).drop X.length)=true:=by
  rw [List.append_assoc,List.drop_left]
  rfl
 unfold smallE
 rw [hm,in3_iff.2 ⟨h0,h2⟩,freeE_ok (by omega) (by omega) (by simpa using ha)]
 simp only [Bool.not_true,cond_false,bne_self_eq_false,Int.toNat_natCast]
 rw [putP_fit (by simp),splice_mid _ _ _ _ (by simp)]
theorem drop_parts {X Y Z:List Pg} {p:Pg} {Y':List Pg} (hY:Y=p::Y') (hp:p.1=1\/p.1=2) (hn:runOf p=(Y.length:Int)) (hm:may (X++Y++Z)=true):dropE (X++Y++Z) (X.length:Nat)=(0,X++List.replicate Y.length (0,0)++Z):=by
 unfold dropE
 have hg:(X++Y++Z)[X.length]? = some p:=by
  rw [hY,List.append_assoc,List.getElem?_append_right (Nat.le_refl _),Nat.sub_self]
  rfl
 have e1:decide (((X.length:Nat):Int)<0)=false:=by simp
 have e2:decide (((X.length:Nat):Int)>=((X++Y++Z).length:Int))=false:=by simp [hY];omega
 have e3:(p.1==0 || p.1==3)=false:=by rcases hp with h | h <;> simp [h]
 rw [hm,e1,e2,Int.toNat_natCast,hg]
 simp only [Bool.not_true,Bool.or_self,cond_false,e3,hn,Int.toNat_natCast]
 rw [putP_fit (by simp),splice_mid _ _ _ _ (by simp)]
end Go.Ab

namespace Go.Ab
open Go
set_option maxRecDepth 100000
open Go.Proofs
def cOP:Cod (List Pg) where
 enc:=fun ps => .own 2 (ps.map encP)
 dec:=fun c=>match c with | .own 2 L=>decP L | _=>none
 ok:=fun c a h=>by
  split at h
  ·rw [decP_enc h]
  ·cases h
 de:=fun _=>decP_map _
@[simp] theorem cOP_enc (ps:List Pg):cOP.enc ps = .own 2 (ps.map encP):=rfl
@[simp] theorem cOP_dec (ps:List Pg):cOP.dec (.own 2 (ps.map encP))=some ps:=decP_map ps
def sm (ps:List Pg):Bool:=Nat.ble ps.length 200
def gCloneP:Callee:=g1 cPs (fun ps => !ps.isEmpty&&sm ps) fun ps=>cOP.enc ps
def gPutP:Callee:=g3 cPs cI cPs (fun ps a _ => !ps.isEmpty&&sm ps&&decide (0<=a)&&decide (a<=(ps.length:Int))) fun ps a own=>cOP.enc (putP ps a.toNat own)
def gFreeP:Callee:=g3 cPs cI cI (fun ps _ n=>sm ps&&decide (1<=n)&&decide (n<=4)) fun ps a n=>cI.enc (freeE ps a n)
def gSmallP:Callee:=g3 cPs cI cI (fun ps _ _=>sm ps) fun ps a c=>resC (smallE ps a c)
def gCountP:Callee:=g2 cPs cI (fun ps _=>sm ps) fun ps k=>cI.enc (cnt ps k)
def gMayP:Callee:=g1 cPs sm fun ps=>cB.enc (may ps)
def gIn3:Callee:=g3 cI cI cI (fun _ _ _=>true) fun n a b=>cB.enc (in3 n a b)
noncomputable abbrev c43:Cx:=cxF Pr Tryz.f89 [] (fun q=>Nat.beq q 5)
noncomputable abbrev c36:Cx:=cxF Pr Tryz.f127 [(89,gCloneP)]
noncomputable abbrev c35:Cx:=cxF Pr Tryz.f138 [(146,gCountP)]
noncomputable abbrev c26:Cx:=cxF Pr Tryz.f83 []
noncomputable abbrev c24:Cx:=cxF Pr Tryz.f135 [(82,gMayP),(83,gIn3),(138,gFreeP),(127,gPutP)]
theorem s43 (ps:List Pg) (β:Type) (K:CV->List (List CV)->Option β):fnK c43 Tryz.f89 [cPs.enc ps] [] K=
 bif List.isEmpty (List.map encP ps) then none
 else if List.length ([]++List.map encP ps)<=LIM then K (CV.own 2 ([]++List.map encP ps)) [] else none:=by kernel_rfl
theorem s36 (ps:List Pg) (a:Int) (own:List Pg) (β:Type) (K:CV->List (List CV)->Option β):fnK c36 Tryz.f127 [cPs.enc ps,cI.enc a,cPs.enc own] [] K=
 Option.bind (decP (List.map encP ps)) fun a_1=>
 bif !List.isEmpty a_1&&sm a_1 then
 bif okBounds (List.length (List.map encP a_1)) (some a) none none then
 K (CV.own 2 (splice (List.map encP a_1) (Int.toNat (Option.getD (some a) 0)) (List.take (min (List.length (List.map encP own)) (Int.toNat (Option.getD none (↑(List.length (List.map encP a_1)):Int) - Option.getD (some a) 0))) (List.map encP own)))) []
 else none
 else none:=by kernel_rfl
theorem s35 (ps:List Pg) (a n:Int) (β:Type) (K:CV->List (List CV)->Option β):fnK c35 Tryz.f138 [cPs.enc ps,cI.enc a,cI.enc n] [] K=
 bif decide (a<0) then K (CV.int IntKind.i64 3) []
 else
 bif decide (a>IntKind.wrap IntKind.i64 ((↑(List.length (List.map encP ps)):Int) - n)) then
 K (CV.int IntKind.i64 3) []
 else
 bif okBounds (List.length (List.map encP ps)) (some a) none none then
 bif okBounds (List.length (subl (List.map encP ps) (Int.toNat (Option.getD (some a) 0)) (Int.toNat (Option.getD none (↑(List.length (List.map encP ps)):Int) - Option.getD (some a) 0)))) none (some n) none then
 Option.bind (decP (subl (subl (List.map encP ps) (Int.toNat (Option.getD (some a) 0)) (Int.toNat (Option.getD none (↑(List.length (List.map encP ps)):Int) - Option.getD (some a) 0))) 0 (Int.toNat (Option.getD (some n) (↑(List.length (subl (List.map encP ps) (Int.toNat (Option.getD (some a) 0)) (Int.toNat (Option.getD none (↑(List.length (List.map encP ps)):Int) - Option.getD (some a) 0)))):Int) - 0)))) fun a=>
 bif sm a then
 bif decide ((↑(cnt a 0):Int)<n) then K (CV.int IntKind.i64 4) [] else K (CV.int IntKind.i64 0) []
 else none
 else none
 else none:=by kernel_rfl
theorem s26 (n a b:Int) (β:Type) (K:CV->List (List CV)->Option β):fnK c26 Tryz.f83 [cI.enc n,cI.enc a,cI.enc b] [] K=
 bif decide (n>=a) then K (CV.bool (decide (n<=b))) [] else K (CV.bool false) []:=by kernel_rfl
theorem s24 (ps:List Pg) (a c:Int) (β:Type) (K:CV->List (List CV)->Option β):fnK c24 Tryz.f135 [cPs.enc ps,cI.enc a,cI.enc c] [] K=
 Option.bind (decP (List.map encP ps)) fun a_1=>
 bif sm a_1 then
 bif !may a_1 then K (CV.tup [CV.own 2 [],CV.int IntKind.i64 1]) []
 else
 bif !in3 c 0 2 then K (CV.tup [CV.own 2 [],CV.int IntKind.i64 1]) []
 else
 Option.bind (decP (List.map encP ps)) fun a_2=>
 bif sm a_2&&true&&true then
 bif freeE a_2 a 1 != 0 then K (CV.tup [CV.own 2 [],CV.int IntKind.i64 (freeE a_2 a 1)]) []
 else
 Option.bind (decP (List.map encP ps)) fun a_3=>
 bif !List.isEmpty a_3&&sm a_3&&decide (0<=a)&&decide (a<=(↑(List.length a_3):Int)) then
 K (CV.tup [CV.own 2 (List.map encP (putP a_3 (Int.toNat a) [(1,c)])),CV.int IntKind.i64 0]) []
 else none
 else none
 else none:=by kernel_rfl
theorem sm_le {ps:List Pg} (h:sm ps=true):ps.length<=200:=Nat.le_of_ble_eq_true h
theorem sm_of {ps:List Pg} (h:ps.length<=200):sm ps=true:=Nat.ble_eq_true_of_le h
theorem lim_val:LIM=4294967296:=rfl
theorem clone_good:GoodC Pr 89 gCloneP:=
 good1 ((CxOK.base Good.nil (eqOK_none fun _=>rfl)).sound (cx:=c43) Tryz.func89 (by kernel_rfl) (by kernel_rfl) rfl (by kernel_rfl)) fun ps hp β K=>by
  simp only [Bool.and_eq_true,Bool.not_eq_true',List.isEmpty_eq_false_iff] at hp
  have hl:=sm_le hp.2
  have e1:(ps.map encP).isEmpty=false:=by simpa using hp.1
  rw [s43,e1,cond_false,List.nil_append,if_pos (lim_of (by simp;omega))]
  rfl
theorem splice_map {α γ:Type} (f:α->γ) (l:List α) (a:Nat) (x:List α):splice (l.map f) a (x.map f)=(splice l a x).map f:=by simp [splice]
theorem put_good:GoodC Pr 127 gPutP:=
 good3 ((CxOK.base (Good.cons clone_good Good.nil) (eqOK_none fun _=>rfl)).sound (cx:=c36) Tryz.func127 (by kernel_rfl) (by kernel_rfl) rfl (by kernel_rfl)) fun ps a own hp β K=>by
  simp only [Bool.and_eq_true,decide_eq_true_eq,Bool.not_eq_true'] at hp
  obtain ⟨⟨⟨he,hs⟩,h0⟩,hl⟩:=hp
  have e2:okBounds ps.length (some a) none none=true:=by simp [okBounds,h0,hl]
  have e3:((ps.length:Int) - a).toNat=ps.length - a.toNat:=by omega
  rw [s36]
  simp only [decP_map,Option.bind_some,he,hs,Bool.not_false,Bool.and_self,cond_true,List.length_map,e2,Option.getD_some,Option.getD_none,e3,<- List.map_take,splice_map]
  rfl
theorem countP_good:GoodC Pr 146 gCountP:=
 GoodC.of count_sound (g2_nat _ _) fun args conts β K r h=>by
  unfold gCountP g2 at h
  dsimp only at h
  split at h
  ·rename_i a b
   replace h:=bind_some' h
   obtain ⟨ps,hps,h⟩:=h
   replace h:=bind_some' h
   obtain ⟨k,hk,h⟩:=h
   replace h:=cond_some h
   obtain ⟨hs,h⟩:=h
   have e1:=cPs.ok _ _ hps
   have e2:=cI.ok _ _ hk
   subst e1;subst e2
   have hS:SMALL=1152921504606846976:=rfl
   have:=sm_le hs
   have h2:Nat.ble ps.length SMALL=true:=Nat.ble_eq_true_of_le (by omega)
   simp only [gCount,cPs_enc,cI_enc,decP_map,Option.bind_some,h2,cond_true]
   exact h
  ·cases h
theorem mayP_good:GoodC Pr 82 gMayP:=
 GoodC.of mayS13 (g1_nat _) fun args conts β K r h=>by
  unfold gMayP g1 at h
  dsimp only at h
  split at h
  ·rename_i a
   replace h:=bind_some' h
   obtain ⟨ps,hps,h⟩:=h
   replace h:=cond_some h
   obtain ⟨hs,h⟩:=h
   have e1:=cPs.ok _ _ hps
   subst e1
   have hs':Nat.ble ps.length 200=true:=hs
   simp only [gMayS,cPs_enc,decP_map,Option.bind_some,hs',cond_true]
   exact h
  ·cases h
theorem free_good:GoodC Pr 138 gFreeP:=
 good3 ((CxOK.base (Good.cons countP_good Good.nil) (eqOK_none fun _=>rfl)).sound (cx:=c35) Tryz.func138 (by kernel_rfl) (by kernel_rfl) rfl (by kernel_rfl)) fun ps a n hp β K=>by
  simp only [Bool.and_eq_true,decide_eq_true_eq] at hp
  obtain ⟨⟨hs,h1⟩,h4⟩:=hp
  have hs:=sm_le hs
  rw [s35]
  have w:IntKind.i64.wrap ((ps.length:Int) - n)=(ps.length:Int) - n:=wrap_in (by omega)
  simp only [List.length_map,w,freeE,Option.getD_some,Option.getD_none]
  cases ha:decide (a<0) with
  | true=>rfl
  | false=>
   cases hb:decide (a>(ps.length:Int) - n) with
   | true=>rfl
   | false=>
    simp only [decide_eq_false_iff_not] at ha hb
    have e1:okBounds ps.length (some a) none none=true:=by simp [okBounds];omega
    have e2:subl (subl (ps.map encP) a.toNat ((ps.length:Int) - a).toNat) 0 (n - 0).toNat=((ps.drop a.toNat).take n.toNat).map encP:=by
     simp only [subl,List.drop_zero,List.map_take,List.map_drop,List.take_take]
     congr 1
     omega
    have e3:okBounds (subl (ps.map encP) a.toNat ((ps.length:Int) - a).toNat).length none (some n) none=true:=by simp [okBounds,subl];omega
    have e4:sm ((ps.drop a.toNat).take n.toNat)=true:=sm_of (by simp;omega)
    rw [e1,e2,e3,decP_map]
    simp only [Bool.or_self,cond_false,cond_true,Option.bind_some,e4]
    have:=allFree_cnt n.toNat (ps.drop a.toNat) (by simp;omega)
    rw [Int.toNat_of_nonneg (by omega)] at this
    rw [this]
    cases allFree n.toNat (ps.drop a.toNat) <;> rfl
theorem in3_good:GoodC Pr 83 gIn3:=
 good3 ((CxOK.base Good.nil (eqOK_none fun _=>rfl)).sound (cx:=c26) Tryz.func83 (by kernel_rfl) (by kernel_rfl) rfl (by kernel_rfl)) fun n a b _ β K=>by
  rw [s26]
  unfold in3
  cases decide (n>=a) <;> rfl
theorem small_good:GoodC Pr 135 gSmallP:=
 good3 ((CxOK.base (Good.cons mayP_good (Good.cons in3_good (Good.cons free_good (Good.cons put_good Good.nil)))) (eqOK_none fun _=>rfl)).sound (cx:=c24) Tryz.func135 (by kernel_rfl) (by kernel_rfl) rfl (by kernel_rfl)) fun ps a c hs β K=>by
  rw [s24]
  simp only [decP_map,Option.bind_some,hs,Bool.and_self,cond_true,smallE]
  cases hm:may ps with
  | false=>rfl
  | true=>
   cases hc:in3 c 0 2 with
   | false=>rfl
   | true=>
    cases hf:freeE ps a 1 != 0 with
    | true=>rfl
    | false=>
     have hf0:freeE ps a 1=0:=by simpa using hf
     obtain ⟨h0,h1,_⟩:=freeE_in hf0
     obtain ⟨l1,_⟩:=may_len hm
     have e1:(!ps.isEmpty&&true&&decide (0<=a)&&decide (a<=(ps.length:Int)))=true:=by
      simp
      refine ⟨⟨by intro h;simp [h] at l1,h0⟩,by omega⟩
     rw [e1]
     rfl
end Go.Ab

namespace Go.Ab
open Go
set_option maxRecDepth 100000
open Go.Proofs
theorem run_partb {P:Program} {t:TypeId} (h:P.underlying t=some .bool) (a:Array Value) (i:Nat) (v:Value) (hv:a[i]? = some v) (w:World):(part t a i).run P w = .ok v w:=by
 have:(isAgg t).run P w = .ok false w:=by simp [isAgg,run_underlying h]
 simp [part,this,aggD,hv]
set_option maxHeartbeats 1000000 in
theorem eqIn_six {P:Program} {t:TypeId} {f0 f1 f2 f3 f4 f5:Field} {k3 k4 k5:IntKind} (hs:P.underlying t=some (.struct #[f0,f1,f2,f3,f4,f5])) (hst:P.stoodInHeld t=false)
  (n0:f0.name ≠ "_") (n1:f1.name ≠ "_") (n2:f2.name ≠ "_") (n3:f3.name ≠ "_") (n4:f4.name ≠ "_") (n5:f5.name ≠ "_")
  (o0:f0.offset=0) (o1:f1.offset=1) (o2:f2.offset=2) (o3:f3.offset=3) (o4:f4.offset=4) (o5:f5.offset=5)
  (h0:P.underlying f0.type=some .bool) (h1:P.underlying f1.type=some .bool) (h2:P.underlying f2.type=some .bool)
  (h3:P.underlying f3.type=some (.int k3)) (h4:P.underlying f4.type=some (.int k4)) (h5:P.underlying f5.type=some (.int k5)) (d:Nat) (a b c:IntKind)
  (x0 y0 x1 y1 x2 y2:Bool) (x3 y3 x4 y4 x5 y5:Int) (w:World):
  (Op.equalIn (d+2) t (.agg #[.bool x0,.bool x1,.bool x2,.int a x3,.int b x4,.int c x5]) (.agg #[.bool y0,.bool y1,.bool y2,.int a y3,.int b y4,.int c y5])).run P w
   = .ok (x0==y0&&(x1==y1&&(x2==y2&&(x3==y3&&(x4==y4&&x5==y5))))) w:=by
 have p0:=fun x0 x1 x2 x3 x4 x5=>run_partb h0 #[.bool x0,.bool x1,.bool x2,.int a x3,.int b x4,.int c x5] 0 (.bool x0) rfl w
 have p1:=fun x0 x1 x2 x3 x4 x5=>run_partb h1 #[.bool x0,.bool x1,.bool x2,.int a x3,.int b x4,.int c x5] 1 (.bool x1) rfl w
 have p2:=fun x0 x1 x2 x3 x4 x5=>run_partb h2 #[.bool x0,.bool x1,.bool x2,.int a x3,.int b x4,.int c x5] 2 (.bool x2) rfl w
 have p3:=fun x0 x1 x2 x3 x4 x5=>run_part0 h3 #[.bool x0,.bool x1,.bool x2,.int a x3,.int b x4,.int c x5] 3 (.int a x3) rfl w
 have p4:=fun x0 x1 x2 x3 x4 x5=>run_part0 h4 #[.bool x0,.bool x1,.bool x2,.int a x3,.int b x4,.int c x5] 4 (.int b x4) rfl w
 have p5:=fun x0 x1 x2 x3 x4 x5=>run_part0 h5 #[.bool x0,.bool x1,.bool x2,.int a x3,.int b x4,.int c x5] 5 (.int c x5) rfl w
 have q0:=run_equalIn_bool h0 d x0 y0 w
 have q1:=run_equalIn_bool h1 d x1 y1 w
 have q2:=run_equalIn_bool h2 d x2 y2 w
 have q3:=run_equalIn_int h3 d a x3 y3 w
 have q4:=run_equalIn_int h4 d b x4 y4 w
 have q5:=run_equalIn_int h5 d c x5 y5 w
 rw [show d+2=(d+1)+1 from rfl]
 unfold Op.equalIn
 cases e0:x0==y0
 ·rw [e0] at q0;simp [run_underlying hs,hst,n0,o0,p0,q0]
 rw [e0] at q0
 cases e1:x1==y1
 ·rw [e1] at q1;simp [run_underlying hs,hst,n0,o0,p0,q0,n1,o1,p1,q1]
 rw [e1] at q1
 cases e2:x2==y2
 ·rw [e2] at q2;simp [run_underlying hs,hst,n0,o0,p0,q0,n1,o1,p1,q1,n2,o2,p2,q2]
 rw [e2] at q2
 cases e3:x3==y3
 ·rw [e3] at q3;simp [run_underlying hs,hst,n0,o0,p0,q0,n1,o1,p1,q1,n2,o2,p2,q2,n3,o3,p3,q3]
 rw [e3] at q3
 cases e4:x4==y4
 ·rw [e4] at q4;simp [run_underlying hs,hst,n0,o0,p0,q0,n1,o1,p1,q1,n2,o2,p2,q2,n3,o3,p3,q3,n4,o4,p4,q4]
 rw [e4] at q4
 cases e5:x5==y5 <;> rw [e5] at q5 <;> simp [run_underlying hs,hst,n0,o0,p0,q0,n1,o1,p1,q1,n2,o2,p2,q2,n3,o3,p3,q3,n4,o4,p4,q4,n5,o5,p5,q5]
theorem kindV_six {P:Program} {t0 t1 t2 t3 t4 t5:TypeId} {k3 k4 k5:IntKind} (h0:P.underlying t0=some .bool) (h1:P.underlying t1=some .bool) (h2:P.underlying t2=some .bool)
  (h3:P.underlying t3=some (.int k3)) (h4:P.underlying t4=some (.int k4)) (h5:P.underlying t5=some (.int k5)) {vs:List Value} (h:kindV P [t0,t1,t2,t3,t4,t5] vs=true):
  ∃ x0 x1 x2 a x3 b x4 c x5,vs=[.bool x0,.bool x1,.bool x2,.int a x3,.int b x4,.int c x5]:=by
 match vs,h with
 | [],h=>simp [kindV] at h
 | [_],h=>simp [kindV] at h
 | [_,_],h=>simp [kindV] at h
 | [_,_,_],h=>simp [kindV] at h
 | [_,_,_,_],h=>simp [kindV] at h
 | [_,_,_,_,_],h=>simp [kindV] at h
 | _::_::_::_::_::_::_::_,h=>simp [kindV] at h
 | [v0,v1,v2,v3,v4,v5],h=>
  simp only [kindV,h0,h1,h2,h3,h4,h5,Bool.and_true,Bool.and_eq_true] at h
  obtain ⟨g0,g1,g2,g3,g4,g5⟩:=h
  cases v0 <;> simp at g0
  cases v1 <;> simp at g1
  cases v2 <;> simp at g2
  cases v3 <;> simp at g3
  cases v4 <;> simp at g4
  cases v5 <;> simp at g5
  exact ⟨_,_,_,_,_,_,_,_,_,rfl⟩
theorem eq_six {P:Program} {t:TypeId} {f0 f1 f2 f3 f4 f5:Field} {k3 k4 k5:IntKind} (hs:P.underlying t=some (.struct #[f0,f1,f2,f3,f4,f5])) (hst:P.stoodInHeld t=false)
  (n0:f0.name ≠ "_") (n1:f1.name ≠ "_") (n2:f2.name ≠ "_") (n3:f3.name ≠ "_") (n4:f4.name ≠ "_") (n5:f5.name ≠ "_")
  (o0:f0.offset=0) (o1:f1.offset=1) (o2:f2.offset=2) (o3:f3.offset=3) (o4:f4.offset=4) (o5:f5.offset=5)
  (h0:P.underlying f0.type=some .bool) (h1:P.underlying f1.type=some .bool) (h2:P.underlying f2.type=some .bool)
  (h3:P.underlying f3.type=some (.int k3)) (h4:P.underlying f4.type=some (.int k4)) (h5:P.underlying f5.type=some (.int k5))
  (hf:flatT P 8 t=[f0.type,f1.type,f2.type,f3.type,f4.type,f5.type]) (vs us:Array Value) (r:Bool) (w:World)
  (hv:kindV P (flatT P 8 t) vs.toList=true) (hu:kindV P (flatT P 8 t) us.toList=true) (he:eqVals vs.toList us.toList=some r):(Op.equal t (.agg vs) (.agg us)).run P w = .ok r w:=by
 rw [hf] at hv hu
 obtain ⟨vl⟩:=vs
 obtain ⟨ul⟩:=us
 obtain ⟨x0,x1,x2,a,x3,b,x4,c,x5,e⟩:=kindV_six h0 h1 h2 h3 h4 h5 hv
 obtain ⟨y0,y1,y2,a',y3,b',y4,c',y5,e'⟩:=kindV_six h0 h1 h2 h3 h4 h5 hu
 dsimp only at e e' he
 subst e e'
 simp only [eqVals] at he
 replace he:=bind_some' he
 obtain ⟨t1,he1,he⟩:=he
 replace he1:=bind_some' he1
 obtain ⟨t2,he2,he1⟩:=he1
 replace he2:=bind_some' he2
 obtain ⟨t3,he3,he2⟩:=he2
 obtain ⟨ea,he3⟩:=ite_some he3
 replace he3:=bind_some' he3
 obtain ⟨t4,he4,he3⟩:=he3
 obtain ⟨eb,he4⟩:=ite_some he4
 replace he4:=bind_some' he4
 obtain ⟨t5,he5,he4⟩:=he4
 obtain ⟨ec,he5⟩:=ite_some he5
 simp only [Option.bind_some,Option.some.injEq,Bool.and_true] at he he1 he2 he3 he4 he5
 subst he he1 he2 he3 he4 he5 ea eb ec
 exact eqIn_six hs hst n0 n1 n2 n3 n4 n5 o0 o1 o2 o3 o4 o5 h0 h1 h2 h3 h4 h5 9998 a b c x0 y0 x1 y1 x2 y2 x3 y3 x4 y4 x5 y5 w
theorem eqOK_head {cx:Cx} (hP:cx.P=Go.Proofs.Tryz.prog) (h:cx.eqT=fun t=>Nat.beq t 41):EqOK cx:=fun t ht=>by
 rw [h] at ht
 have:=beq_true ht
 subst this
 rw [hP]
 refine ⟨by kernel_rfl,fun vs us r w hv hu he => ?_⟩
 obtain ⟨f0,f1,f2,f3,f4,f5,h1,n0,n1,n2,n3,n4,n5,o0,o1,o2,o3,o4,o5,u0,u1,u2,u3,u4,u5,hf⟩:∃ f0 f1 f2 f3 f4 f5:Field,Go.Proofs.Tryz.prog.underlying 41=some (.struct #[f0,f1,f2,f3,f4,f5])/\
   f0.name ≠ "_" /\ f1.name ≠ "_" /\ f2.name ≠ "_" /\ f3.name ≠ "_" /\ f4.name ≠ "_" /\ f5.name ≠ "_" /\ f0.offset=0/\f1.offset=1/\f2.offset=2/\f3.offset=3/\f4.offset=4/\f5.offset=5/\
   Go.Proofs.Tryz.prog.underlying f0.type=some .bool/\Go.Proofs.Tryz.prog.underlying f1.type=some .bool/\Go.Proofs.Tryz.prog.underlying f2.type=some .bool/\
   Go.Proofs.Tryz.prog.underlying f3.type=some (.int .i64)/\Go.Proofs.Tryz.prog.underlying f4.type=some (.int .i64)/\Go.Proofs.Tryz.prog.underlying f5.type=some (.int .i64)/\
   flatT Go.Proofs.Tryz.prog 8 41=[f0.type,f1.type,f2.type,f3.type,f4.type,f5.type]:=
  ⟨_,_,_,_,_,_,Go.Proofs.Tryz.underlying41,by decide,by decide,by decide,by decide,by decide,by decide,rfl,rfl,rfl,rfl,rfl,rfl,by kernel_rfl,by kernel_rfl,by kernel_rfl,by kernel_rfl,by kernel_rfl,by kernel_rfl,by kernel_rfl⟩
 exact eq_six h1 (by kernel_rfl) n0 n1 n2 n3 n4 n5 o0 o1 o2 o3 o4 o5 u0 u1 u2 u3 u4 u5 hf vs us r w hv hu he
end Go.Ab

namespace Go.Ab
open Go
set_option maxRecDepth 100000
open Go.Proofs
structure Hd where
 a:Bool
 b:Bool
 c:Bool
 x:Int
 y:Int
 z:Int
deriving DecidableEq
def encH (h:Hd):List CV:=[.bool h.a,.bool h.b,.bool h.c,.int .i64 h.x,.int .i64 h.y,.int .i64 h.z]
def cHd:Cod Hd where
 enc:=fun h => .agg (encH h)
 dec:=fun c=>match c with | .agg [.bool a,.bool b,.bool c,.int .i64 x,.int .i64 y,.int .i64 z]=>some ⟨a,b,c,x,y,z⟩ | _=>none
 ok:=fun c a h=>by
  split at h
  ·cases h;rfl
  ·cases h
 de:=fun _=>rfl
noncomputable abbrev k77:Cx:=cxG Pr Tryz.f131 []
noncomputable abbrev k78:Cx:=cxG Pr Tryz.f132 []
theorem r77 (n h:Int) (β:Type) (K:CV->List (List CV)->Option β):fnK k77 Tryz.f131 [cI.enc n,cI.enc h] [] K=
 bif decide (n>=0) then K (CV.bool (decide (n<=h))) [] else K (CV.bool false) []:=by kernel_rfl
theorem r78 (n:Bool) (h:Int) (β:Type) (K:CV->List (List CV)->Option β):fnK k78 Tryz.f132 [cB.enc n,cI.enc h] [] K=
 bif n then K (CV.int IntKind.i64 h) [] else K (CV.int IntKind.i64 0) []:=by kernel_rfl
def inS (n h:Int):Bool:=decide (n>=0)&&decide (n<=h)
def gIn77:Callee:=g2 cI cI (fun _ _=>true) fun n h=>cB.enc (inS n h)
def gBit:Callee:=g2 cB cI (fun _ _=>true) fun n h=>cI.enc (bif n then h else 0)
noncomputable abbrev k51:Cx:=cxG Pr Tryz.f108 [(131,gIn77)] [] (fun _=>false) (fun _=>false) (fun t=>Nat.beq t 41)
noncomputable abbrev k52:Cx:=cxG Pr Tryz.f109 [(132,gBit)]
theorem r51 (h:Hd) (β:Type) (K:CV->List (List CV)->Option β):fnK k51 Tryz.f108 [cHd.enc h] [] K=
 bif !Hd.a h then
 K (CV.bool (Hd.a h==false&&(Hd.b h==false&&(Hd.c h==false&&(Hd.x h==0&&(Hd.y h==0&&(Hd.z h==0&&true))))))) []
 else
 bif inS (Hd.x h) 63 then
 bif inS (Hd.y h) 1048576 then K (CV.bool (inS (Hd.z h) 1048576)) [] else K (CV.bool false) []
 else K (CV.bool false) []:=by kernel_rfl
theorem r52 (h:Hd) (β:Type) (K:CV->List (List CV)->Option β):fnK k52 Tryz.f109 [cHd.enc h] [] K=
 K (CV.int IntKind.i64 (IntKind.wrap IntKind.i64 (↑(BitVec.toNat (BitVec.ofInt (IntKind.bits IntKind.i64) (IntKind.wrap IntKind.i64 (↑(BitVec.toNat (BitVec.ofInt (IntKind.bits IntKind.i64) (IntKind.wrap IntKind.i64 (↑(BitVec.toNat (BitVec.ofInt (IntKind.bits IntKind.i64) (IntKind.wrap IntKind.i64 (↑(BitVec.toNat (BitVec.ofInt (IntKind.bits IntKind.i64) (IntKind.wrap IntKind.i64 (↑(BitVec.toNat (BitVec.ofInt (IntKind.bits IntKind.i64) (bif Hd.a h then 1 else 0) ||| BitVec.ofInt (IntKind.bits IntKind.i64) (bif Hd.b h then 2 else 0))):Int)) ||| BitVec.ofInt (IntKind.bits IntKind.i64) (bif Hd.c h then 4 else 0))):Int)) ||| BitVec.ofInt (IntKind.bits IntKind.i64) (IntKind.wrap IntKind.i64 (Hd.x h*Int.ofNat 8)))):Int)) ||| BitVec.ofInt (IntKind.bits IntKind.i64) (IntKind.wrap IntKind.i64 (Hd.y h*Int.ofNat 1024)))):Int)) ||| BitVec.ofInt (IntKind.bits IntKind.i64) (IntKind.wrap IntKind.i64 (Hd.z h*Int.ofNat 4294967296)))):Int))) []:=by kernel_rfl
theorem in77_good:GoodC Pr 131 gIn77:=
 good2 ((CxOK.baseG Good.nil GoodI.nil (eqOK_none fun _=>rfl)).sound (cx:=k77) Tryz.func131 (by kernel_rfl) (by kernel_rfl) rfl (by kernel_rfl)) fun n h _ β K=>by
  rw [r77]
  unfold inS
  cases decide (n>=0) <;> rfl
theorem bit_good:GoodC Pr 132 gBit:=
 good2 ((CxOK.baseG Good.nil GoodI.nil (eqOK_none fun _=>rfl)).sound (cx:=k78) Tryz.func132 (by kernel_rfl) (by kernel_rfl) rfl (by kernel_rfl)) fun n h _ β K=>by
  rw [r78]
  cases n <;> rfl
def mayH (h:Hd):Bool:=bif !h.a then !h.b && !h.c&&h.x==0&&h.y==0&&h.z==0 else inS h.x 63&&(inS h.y 1048576&&inS h.z 1048576)
def orI (a b:Int):Int:=IntKind.wrap IntKind.i64 (((BitVec.ofInt 64 a ||| BitVec.ofInt 64 b).toNat:Nat):Int)
def andI (a b:Int):Int:=IntKind.wrap IntKind.i64 (((BitVec.ofInt 64 a &&& BitVec.ofInt 64 b).toNat:Nat):Int)
def packH (h:Hd):Int:=orI (orI (orI (orI (orI (bif h.a then 1 else 0) (bif h.b then 2 else 0)) (bif h.c then 4 else 0)) (IntKind.i64.wrap (h.x*8))) (IntKind.i64.wrap (h.y*1024))) (IntKind.i64.wrap (h.z*4294967296))
def gMayH:Callee:=g1 cHd (fun _=>true) fun h=>cB.enc (mayH h)
def gPackH:Callee:=g1 cHd (fun _=>true) fun h=>cI.enc (packH h)
theorem mayH_good:GoodC Pr 108 gMayH:=
 good1 ((CxOK.baseG (Good.cons in77_good Good.nil) GoodI.nil (eqOK_head rfl rfl)).sound (cx:=k51) Tryz.func108 (by kernel_rfl) (by kernel_rfl) rfl (by kernel_rfl)) fun h _ β K=>by
  rw [r51]
  unfold mayH
  obtain ⟨a,b,c,x,y,z⟩:=h
  cases a with
  | false=>
   show K (.bool _) []=K (.bool _) []
   congr 2
   cases b <;> cases c <;> simp [Bool.and_assoc]
  | true=>
   simp only [Bool.not_true,cond_false]
   cases inS x 63 with
   | false=>rfl
   | true=>cases inS y 1048576 <;> rfl
theorem pack_good:GoodC Pr 109 gPackH:=
 good1 ((CxOK.baseG (Good.cons bit_good Good.nil) GoodI.nil (eqOK_none fun _=>rfl)).sound (cx:=k52) Tryz.func109 (by kernel_rfl) (by kernel_rfl) rfl (by kernel_rfl)) fun h _ β K=>by
  rw [r52];rfl
noncomputable abbrev k25:Cx:=cxG Pr Tryz.f74 [(108,gMayH),(109,gPackH)]
theorem r25 (w:Int) (β:Type) (K:CV->List (List CV)->Option β):fnK k25 Tryz.f74 [cI.enc w] [] K=
 bif !mayH {a:=IntKind.wrap IntKind.i64 (↑(BitVec.toNat (BitVec.ofInt (IntKind.bits IntKind.i64) w &&& BitVec.ofInt (IntKind.bits IntKind.i64) 1)):Int) != 0,b:=IntKind.wrap IntKind.i64 (↑(BitVec.toNat (BitVec.ofInt (IntKind.bits IntKind.i64) w &&& BitVec.ofInt (IntKind.bits IntKind.i64) 2)):Int) != 0,c:=IntKind.wrap IntKind.i64 (↑(BitVec.toNat (BitVec.ofInt (IntKind.bits IntKind.i64) w &&& BitVec.ofInt (IntKind.bits IntKind.i64) 4)):Int) != 0,x:=IntKind.wrap IntKind.i64 (↑(BitVec.toNat (BitVec.ofInt (IntKind.bits IntKind.i64) (Int.fdiv w (Int.ofNat 8)) &&& BitVec.ofInt (IntKind.bits IntKind.i64) 127)):Int),y:=IntKind.wrap IntKind.i64 (↑(BitVec.toNat (BitVec.ofInt (IntKind.bits IntKind.i64) (Int.fdiv w (Int.ofNat 1024)) &&& BitVec.ofInt (IntKind.bits IntKind.i64) 4194303)):Int),z:=Int.fdiv w (Int.ofNat 4294967296)} then
 K (CV.tup [CV.agg [CV.bool false,CV.bool false,CV.bool false,CV.int IntKind.i64 0,CV.int IntKind.i64 0,CV.int IntKind.i64 0],CV.bool false]) []
 else
 bif packH {a:=IntKind.wrap IntKind.i64 (↑(BitVec.toNat (BitVec.ofInt (IntKind.bits IntKind.i64) w &&& BitVec.ofInt (IntKind.bits IntKind.i64) 1)):Int) != 0,b:=IntKind.wrap IntKind.i64 (↑(BitVec.toNat (BitVec.ofInt (IntKind.bits IntKind.i64) w &&& BitVec.ofInt (IntKind.bits IntKind.i64) 2)):Int) != 0,c:=IntKind.wrap IntKind.i64 (↑(BitVec.toNat (BitVec.ofInt (IntKind.bits IntKind.i64) w &&& BitVec.ofInt (IntKind.bits IntKind.i64) 4)):Int) != 0,x:=IntKind.wrap IntKind.i64 (↑(BitVec.toNat (BitVec.ofInt (IntKind.bits IntKind.i64) (Int.fdiv w (Int.ofNat 8)) &&& BitVec.ofInt (IntKind.bits IntKind.i64) 127)):Int),y:=IntKind.wrap IntKind.i64 (↑(BitVec.toNat (BitVec.ofInt (IntKind.bits IntKind.i64) (Int.fdiv w (Int.ofNat 1024)) &&& BitVec.ofInt (IntKind.bits IntKind.i64) 4194303)):Int),z:=Int.fdiv w (Int.ofNat 4294967296)} != w then
 K (CV.tup [CV.agg [CV.bool false,CV.bool false,CV.bool false,CV.int IntKind.i64 0,CV.int IntKind.i64 0,CV.int IntKind.i64 0],CV.bool false]) []
 else
 K (CV.tup [CV.agg [CV.bool (IntKind.wrap IntKind.i64 (↑(BitVec.toNat (BitVec.ofInt (IntKind.bits IntKind.i64) w &&& BitVec.ofInt (IntKind.bits IntKind.i64) 1)):Int) != 0),CV.bool (IntKind.wrap IntKind.i64 (↑(BitVec.toNat (BitVec.ofInt (IntKind.bits IntKind.i64) w &&& BitVec.ofInt (IntKind.bits IntKind.i64) 2)):Int) != 0),CV.bool (IntKind.wrap IntKind.i64 (↑(BitVec.toNat (BitVec.ofInt (IntKind.bits IntKind.i64) w &&& BitVec.ofInt (IntKind.bits IntKind.i64) 4)):Int) != 0),CV.int IntKind.i64 (IntKind.wrap IntKind.i64 (↑(BitVec.toNat (BitVec.ofInt (IntKind.bits IntKind.i64) (Int.fdiv w (Int.ofNat 8)) &&& BitVec.ofInt (IntKind.bits IntKind.i64) 127)):Int)),CV.int IntKind.i64 (IntKind.wrap IntKind.i64 (↑(BitVec.toNat (BitVec.ofInt (IntKind.bits IntKind.i64) (Int.fdiv w (Int.ofNat 1024)) &&& BitVec.ofInt (IntKind.bits IntKind.i64) 4194303)):Int)),CV.int IntKind.i64 (Int.fdiv w (Int.ofNat 4294967296))],CV.bool true]) []:=by kernel_rfl
def unp (w:Int):Hd:=⟨andI w 1 != 0,andI w 2 != 0,andI w 4 != 0,andI (Int.fdiv w 8) 127,andI (Int.fdiv w 1024) 4194303,Int.fdiv w 4294967296⟩
def unpOK (w:Int):Bool:=mayH (unp w)&&packH (unp w)==w
def Hd.z0:Hd:=⟨false,false,false,0,0,0⟩
def unpE (w:Int):CV := .tup [cHd.enc (bif unpOK w then unp w else Hd.z0),.bool (unpOK w)]
def gUnp:Callee:=g1 cI (fun _=>true) unpE
theorem unp_good:GoodC Pr 74 gUnp:=
 good1 ((CxOK.baseG (Good.cons mayH_good (Good.cons pack_good Good.nil)) GoodI.nil (eqOK_none fun _=>rfl)).sound (cx:=k25) Tryz.func74 (by kernel_rfl) (by kernel_rfl) rfl (by kernel_rfl)) fun w _ β K=>by
  refine (r25 w β K).trans ?_
  show (bif !mayH (unp w) then _ else bif packH (unp w) != w then _ else K (.tup [.agg (encH (unp w)),.bool true]) [])=_
  unfold unpE unpOK
  cases mayH (unp w) with
  | false=>rfl
  | true=>
   simp only [Bool.not_true,cond_false,Bool.true_and,bne]
   cases packH (unp w)==w <;> rfl
end Go.Ab

namespace Go.Ab
open Go
set_option maxRecDepth 100000
open Go.Proofs
noncomputable abbrev k75:Cx:=cxG Pr Tryz.f130 []
theorem r75 (n:Int) (β:Type) (K:CV->List (List CV)->Option β):fnK k75 Tryz.f130 [cI.enc n] [] K=
 bif decide (n>=1) then K (CV.bool (decide (n<=64))) [] else K (CV.bool false) []:=by kernel_rfl
def gApages:Callee:=g1 cI (fun _=>true) fun n=>cB.enc (decide (n>=1)&&decide (n<=64))
theorem apages_good:GoodC Pr 130 gApages:=
 good1 ((CxOK.baseG Good.nil GoodI.nil (eqOK_none fun _=>rfl)).sound (cx:=k75) Tryz.func130 (by kernel_rfl) (by kernel_rfl) rfl (by kernel_rfl)) fun n _ β K=>by
  rw [r75]
  cases decide (n>=1) <;> rfl
noncomputable abbrev k49:Cx:=cxG Pr Tryz.f118 [(130,gApages)]
theorem r49 (w:List Int) (β:Type) (K:CV->List (List CV)->Option β):fnK k49 Tryz.f118 [cIs.enc w] [] K=
 bif Int.tmod (↑(List.length (encI w)):Int) 16==0 then
 K (CV.bool (decide (IntKind.wrap IntKind.i64 (Int.tdiv (↑(List.length (encI w)):Int) 16)>=1)&&decide (IntKind.wrap IntKind.i64 (Int.tdiv (↑(List.length (encI w)):Int) 16)<=64))) []
 else K (CV.bool false) []:=by kernel_rfl
noncomputable abbrev k61:Cx:=cxG Pr Tryz.f60 [] [] (fun q=>Nat.beq q 5)
theorem r61 (w:List Int) (β:Type) (K:CV->List (List CV)->Option β):fnK k61 Tryz.f60 [cIs.enc w] [] K=
 bif List.isEmpty (encI w) then none
 else if List.length ([]++encI w)<=LIM then K (CV.own 1 ([]++encI w)) [] else none:=by kernel_rfl
def mayA (n:Nat):Bool:=Nat.beq (n % 16) 0&&(Nat.ble 1 (n / 16)&&Nat.ble (n / 16) 64)
def gMayA:Callee:=g1 cIs (fun w=>Nat.ble w.length 4000000000) fun w=>cB.enc (mayA w.length)
theorem wrap_nat {n:Nat} (h:n<=4000000000):IntKind.i64.wrap (n:Int)=n:=wrap_in ⟨by omega,by omega⟩
theorem mayA_good:GoodC Pr 118 gMayA:=
 good1 ((CxOK.baseG (Good.cons apages_good Good.nil) GoodI.nil (eqOK_none fun _=>rfl)).sound (cx:=k49) Tryz.func118 (by kernel_rfl) (by kernel_rfl) rfl (by kernel_rfl)) fun w hw β K=>by
  have hw:=Nat.le_of_ble_eq_true hw
  rw [r49]
  unfold mayA
  have e1:(encI w).length=w.length:=by simp [encI]
  have e2:Int.tmod (w.length:Int) 16=((w.length % 16:Nat):Int):=rfl
  have e3:Int.tdiv (w.length:Int) 16=((w.length / 16:Nat):Int):=rfl
  have e4:IntKind.i64.wrap ((w.length / 16:Nat):Int)=((w.length / 16:Nat):Int):=wrap_nat (by omega)
  rw [e1,e2,e3,e4]
  have e5:((((w.length % 16:Nat):Int))==0)=Nat.beq (w.length % 16) 0:=by
   rw [Bool.eq_iff_iff];simp;omega
  rw [e5]
  cases Nat.beq (w.length % 16) 0 with
  | false=>rfl
  | true=>
   rw [cond_true,Bool.true_and]
   congr 2
   rw [Bool.eq_iff_iff];simp;omega
def gCloneI:Callee:=g1 cIs (fun w => !w.isEmpty&&Nat.ble w.length 4000000000) fun w=>cOI.enc w
theorem cloneI_good:GoodC Pr 60 gCloneI:=
 good1 ((CxOK.baseG Good.nil GoodI.nil (eqOK_none fun _=>rfl)).sound (cx:=k61) Tryz.func60 (by kernel_rfl) (by kernel_rfl) rfl (by kernel_rfl)) fun w hp β K=>by
  simp only [Bool.and_eq_true,Bool.not_eq_true',List.isEmpty_eq_false_iff] at hp
  have hl:=Nat.le_of_ble_eq_true hp.2
  have e1:(encI w).isEmpty=false:=by simpa [encI] using hp.1
  rw [r61,e1,cond_false,List.nil_append,if_pos (lim_of (by simp [encI];omega))]
  rfl
noncomputable abbrev k69:Cx:=cxG Pr Tryz.f91 [(118,gMayA)]
theorem part_inl:GoodN Pr 91 (inlC k69 Tryz.f91):=(CxOK.baseG (Good.cons mayA_good Good.nil) GoodI.nil (eqOK_none fun _=>rfl)).inlG (cx:=k69) Tryz.func91 (by kernel_rfl) (by kernel_rfl) rfl (by kernel_rfl)
noncomputable abbrev k38:Cx:=cxG Pr Tryz.f41 [(60,gCloneI)] [(91,inlC k69 Tryz.f91)]
theorem r38 (w:List Int) (a n:Int) (β:Type) (K:CV->List (List CV)->Option β):fnK k38 Tryz.f41 [cIs.enc w,cI.enc a,cI.enc n] [] K=
 Option.bind (decI (encI w)) fun a_1=>
 bif !List.isEmpty a_1&&Nat.ble (List.length a_1) 4000000000 then
 Option.bind (decI (encI a_1)) fun a_2=>
 bif Nat.ble (List.length a_2) 4000000000 then
 bif !mayA (List.length a_2) then
 bif !mayA (List.length a_2) then K (CV.tup [CV.own 1 [],CV.int IntKind.i64 1]) []
 else
 bif decide (n>0) then
 bif decide (a<16) then K (CV.tup [CV.own 1 [],CV.int IntKind.i64 3]) []
 else
 bif decide (IntKind.wrap IntKind.i64 (a - 16)>=(↑(List.length (encI a_1)):Int)) then
 K (CV.tup [CV.own 1 [],CV.int IntKind.i64 3]) []
 else
 bif decide (n>IntKind.wrap IntKind.i64 ((↑(List.length (encI a_1)):Int) - IntKind.wrap IntKind.i64 (a - 16))) then
 K (CV.tup [CV.own 1 [],CV.int IntKind.i64 3]) []
 else
 bif n==0 then none
 else
 bif okBounds (List.length (encI a_1)) (some (IntKind.wrap IntKind.i64 (a - 16))) none none then
 bif okBounds (Int.toNat (Option.getD none (↑(List.length (encI a_1)):Int) - Option.getD (some (IntKind.wrap IntKind.i64 (a - 16))) 0)) none (some n) (some n) then
 K (CV.tup [CV.own 1 (splice (encI a_1) (Int.toNat (Option.getD (some (IntKind.wrap IntKind.i64 (a - 16))) 0)+0) (List.replicate (Int.toNat (Option.getD (some n) (↑(Int.toNat (Option.getD none (↑(List.length (encI a_1)):Int) - Option.getD (some (IntKind.wrap IntKind.i64 (a - 16))) 0)):Int) - 0)) [CV.int IntKind.i64 0])),CV.int IntKind.i64 0]) []
 else none
 else none
 else
 bif n==0 then none
 else
 bif okBounds (List.length (encI a_1)) (some (IntKind.wrap IntKind.i64 (a - 16))) none none then
 bif okBounds (Int.toNat (Option.getD none (↑(List.length (encI a_1)):Int) - Option.getD (some (IntKind.wrap IntKind.i64 (a - 16))) 0)) none (some n) (some n) then
 K (CV.tup [CV.own 1 (splice (encI a_1) (Int.toNat (Option.getD (some (IntKind.wrap IntKind.i64 (a - 16))) 0)+0) (List.replicate (Int.toNat (Option.getD (some n) (↑(Int.toNat (Option.getD none (↑(List.length (encI a_1)):Int) - Option.getD (some (IntKind.wrap IntKind.i64 (a - 16))) 0)):Int) - 0)) [CV.int IntKind.i64 0])),CV.int IntKind.i64 0]) []
 else none
 else none
 else
 bif decide (n<0) then K (CV.tup [CV.own 1 [],CV.int IntKind.i64 1]) []
 else
 bif decide (n>0) then
 bif decide (a<16) then K (CV.tup [CV.own 1 [],CV.int IntKind.i64 3]) []
 else
 bif decide (IntKind.wrap IntKind.i64 (a - 16)>=(↑(List.length (encI a_1)):Int)) then
 K (CV.tup [CV.own 1 [],CV.int IntKind.i64 3]) []
 else
 bif decide (n>IntKind.wrap IntKind.i64 ((↑(List.length (encI a_1)):Int) - IntKind.wrap IntKind.i64 (a - 16))) then
 K (CV.tup [CV.own 1 [],CV.int IntKind.i64 3]) []
 else
 bif n==0 then none
 else
 bif okBounds (List.length (encI a_1)) (some (IntKind.wrap IntKind.i64 (a - 16))) none none then
 bif okBounds (Int.toNat (Option.getD none (↑(List.length (encI a_1)):Int) - Option.getD (some (IntKind.wrap IntKind.i64 (a - 16))) 0)) none (some n) (some n) then
 K (CV.tup [CV.own 1 (splice (encI a_1) (Int.toNat (Option.getD (some (IntKind.wrap IntKind.i64 (a - 16))) 0)+0) (List.replicate (Int.toNat (Option.getD (some n) (↑(Int.toNat (Option.getD none (↑(List.length (encI a_1)):Int) - Option.getD (some (IntKind.wrap IntKind.i64 (a - 16))) 0)):Int) - 0)) [CV.int IntKind.i64 0])),CV.int IntKind.i64 0]) []
 else none
 else none
 else
 bif n==0 then none
 else
 bif okBounds (List.length (encI a_1)) (some (IntKind.wrap IntKind.i64 (a - 16))) none none then
 bif okBounds (Int.toNat (Option.getD none (↑(List.length (encI a_1)):Int) - Option.getD (some (IntKind.wrap IntKind.i64 (a - 16))) 0)) none (some n) (some n) then
 K (CV.tup [CV.own 1 (splice (encI a_1) (Int.toNat (Option.getD (some (IntKind.wrap IntKind.i64 (a - 16))) 0)+0) (List.replicate (Int.toNat (Option.getD (some n) (↑(Int.toNat (Option.getD none (↑(List.length (encI a_1)):Int) - Option.getD (some (IntKind.wrap IntKind.i64 (a - 16))) 0)):Int) - 0)) [CV.int IntKind.i64 0])),CV.int IntKind.i64 0]) []
 else none
 else none
 else none
 else none:=by kernel_rfl
def zeroW (w:List Int) (a n:Int):List Int:=splice w (a - 16).toNat (List.replicate n.toNat 0)
def gZero:Callee:=g3 cIs cI cI (fun w a n=>mayA w.length&&(decide (16<=a)&&(decide (1<=n)&&decide (a - 16+n<=(w.length:Int))))) fun w a n => .tup [cOI.enc (zeroW w a n),.int .i64 0]
theorem mayA_le {n:Nat} (h:mayA n=true):n<=1024/\1<=n:=by
 simp only [mayA,Bool.and_eq_true] at h
 have h1:=Nat.le_of_ble_eq_true h.2.1
 have h2:=Nat.le_of_ble_eq_true h.2.2
 have h3:=Nat.eq_of_beq_eq_true h.1
 omega
theorem splice_encI (w:List Int) (a:Nat) (x:List Int):splice (encI w) a (encI x)=encI (splice w a x):=by simp [splice,encI]
theorem encI_rep (n:Nat):List.replicate n [CV.int IntKind.i64 0]=encI (List.replicate n 0):=by simp [encI]
theorem zero_good:GoodC Pr 41 gZero:=
 good3 ((CxOK.baseG (Good.cons cloneI_good Good.nil) (GoodI.cons part_inl GoodI.nil) (eqOK_none fun _=>rfl)).sound (cx:=k38) Tryz.func41 (by kernel_rfl) (by kernel_rfl) rfl (by kernel_rfl)) fun w a n hp β K=>by
  simp only [Bool.and_eq_true,decide_eq_true_eq] at hp
  obtain ⟨hm,ha,hn,hl⟩:=hp
  have hml:=mayA_le hm
  have e0:w.isEmpty=false:=by cases w with | nil=>simp at hml | cons _ _=>rfl
  have e1:Nat.ble w.length 4000000000=true:=Nat.ble_eq_true_of_le (by omega)
  have e2:IntKind.i64.wrap (a - 16)=a - 16:=wrap_in ⟨by omega,by omega⟩
  have e3:IntKind.i64.wrap ((w.length:Int) - (a - 16))=(w.length:Int) - (a - 16):=wrap_in ⟨by omega,by omega⟩
  have d1:decide (n<0)=false:=decide_eq_false (by omega)
  have d2:decide (n>0)=true:=decide_eq_true (by omega)
  have d3:decide (a<16)=false:=decide_eq_false (by omega)
  have d4:decide (a - 16>=(w.length:Int))=false:=decide_eq_false (by omega)
  have d5:decide (n>(w.length:Int) - (a - 16))=false:=decide_eq_false (by omega)
  have d6:(n==0)=false:=beq_ne (by omega)
  have o1:okBounds w.length (some (a - 16)) none none=true:=by simp [okBounds];omega
  have o2:okBounds ((w.length:Int) - (a - 16)).toNat none (some n) (some n)=true:=by simp [okBounds];omega
  rw [r38]
  simp only [decI_map,Option.bind_some,e0,e1,hm,Bool.not_false,Bool.not_true,Bool.and_self,cond_true,cond_false,e2,encI_len,d1,d2,d3,d4,e3,d5,d6,Option.getD_none,Option.getD_some,o1,o2,Nat.add_zero,Int.sub_zero,encI_rep,splice_encI]
  rfl
end Go.Ab

namespace Go.Ab
open Go
set_option maxRecDepth 100000
open Go.Proofs
structure Ls where
 a:List Int
 b:List Int
 c:List Int
def cLs:Cod Ls where
 enc:=fun l => .agg [.sl 1 (encI l.a),.sl 1 (encI l.b),.sl 1 (encI l.c)]
 dec:=fun c=>match c with | .agg [.sl 1 a,.sl 1 b,.sl 1 c]=>(decI a).bind fun a=>(decI b).bind fun b=>(decI c).bind fun c=>some ⟨a,b,c⟩ | _=>none
 ok:=fun c a h=>by
  split at h
  ·replace h:=bind_some' h
   obtain ⟨x,hx,h⟩:=h
   replace h:=bind_some' h
   obtain ⟨y,hy,h⟩:=h
   replace h:=bind_some' h
   obtain ⟨z,hz,h⟩:=h
   cases h
   rw [decI_enc hx,decI_enc hy,decI_enc hz]
  ·cases h
 de:=fun l=>by simp
def cOLs:Cod Ls where
 enc:=fun l => .agg [.own 1 (encI l.a),.own 1 (encI l.b),.own 1 (encI l.c)]
 dec:=fun c=>match c with | .agg [.own 1 a,.own 1 b,.own 1 c]=>(decI a).bind fun a=>(decI b).bind fun b=>(decI c).bind fun c=>some ⟨a,b,c⟩ | _=>none
 ok:=fun c a h=>by
  split at h
  ·replace h:=bind_some' h
   obtain ⟨x,hx,h⟩:=h
   replace h:=bind_some' h
   obtain ⟨y,hy,h⟩:=h
   replace h:=bind_some' h
   obtain ⟨z,hz,h⟩:=h
   cases h
   rw [decI_enc hx,decI_enc hy,decI_enc hz]
  ·cases h
 de:=fun l=>by simp
noncomputable abbrev k65:Cx:=cxG Pr Tryz.f99 [] [] (fun q=>Nat.beq q 13) (fun q=>Nat.beq q 58)
theorem r65 (l:Ls) (β:Type) (K:CV->List (List CV)->Option β):fnK k65 Tryz.f99 [cLs.enc l] [] K=
 if 0<=(↑(List.length (encI (Ls.a l))):Int)/\(↑(List.length (encI (Ls.a l))):Int)<=(↑(List.length (encI (Ls.a l))):Int)/\(↑(List.length (encI (Ls.a l))):Int)<=(↑LIM:Int) then
 if 0<=(↑(List.length (encI (Ls.b l))):Int)/\(↑(List.length (encI (Ls.b l))):Int)<=(↑(List.length (encI (Ls.b l))):Int)/\(↑(List.length (encI (Ls.b l))):Int)<=(↑LIM:Int) then
 if 0<=(↑(List.length (encI (Ls.c l))):Int)/\(↑(List.length (encI (Ls.c l))):Int)<=(↑(List.length (encI (Ls.c l))):Int)/\(↑(List.length (encI (Ls.c l))):Int)<=(↑LIM:Int) then
 K (CV.agg [CV.own 1 (splice (List.replicate (Int.toNat (↑(List.length (encI (Ls.a l))):Int)) [CV.int IntKind.i64 0]) 0 (List.take (min (List.length (encI (Ls.a l))) (List.length (List.replicate (Int.toNat (↑(List.length (encI (Ls.a l))):Int)) [CV.int IntKind.i64 0]))) (encI (Ls.a l)))),CV.own 1 (splice (List.replicate (Int.toNat (↑(List.length (encI (Ls.b l))):Int)) [CV.int IntKind.i64 0]) 0 (List.take (min (List.length (encI (Ls.b l))) (List.length (List.replicate (Int.toNat (↑(List.length (encI (Ls.b l))):Int)) [CV.int IntKind.i64 0]))) (encI (Ls.b l)))),CV.own 1 (splice (List.replicate (Int.toNat (↑(List.length (encI (Ls.c l))):Int)) [CV.int IntKind.i64 0]) 0 (List.take (min (List.length (encI (Ls.c l))) (List.length (List.replicate (Int.toNat (↑(List.length (encI (Ls.c l))):Int)) [CV.int IntKind.i64 0]))) (encI (Ls.c l))))]) []
 else none
 else none
 else none:=by kernel_rfl
noncomputable abbrev k64:Cx:=cxG Pr Tryz.f98 []
theorem r64 (c:Int) (β:Type) (K:CV->List (List CV)->Option β):fnK k64 Tryz.f98 [cI.enc c] [] K=
 bif decide (c>=0) then K (CV.bool (decide (c<3))) [] else K (CV.bool false) []:=by kernel_rfl
def isC (c:Int):Bool:=decide (c>=0)&&decide (c<3)
def gIs:Callee:=g1 cI (fun _=>true) fun c=>cB.enc (isC c)
def smL (l:Ls):Bool:=Nat.ble l.a.length 100000&&(Nat.ble l.b.length 100000&&Nat.ble l.c.length 100000)
def gOwn:Callee:=g1 cLs smL fun l=>cOLs.enc l
theorem is_good:GoodC Pr 98 gIs:=
 good1 ((CxOK.baseG Good.nil GoodI.nil (eqOK_none fun _=>rfl)).sound (cx:=k64) Tryz.func98 (by kernel_rfl) (by kernel_rfl) rfl (by kernel_rfl)) fun c _ β K=>by
  rw [r64]
  unfold isC
  cases decide (c>=0) <;> rfl
theorem own_cell (xs:List Int):splice (List.replicate (Int.toNat (↑(encI xs).length:Int)) [CV.int IntKind.i64 0]) 0 (List.take (min (encI xs).length (List.replicate (Int.toNat (↑(encI xs).length:Int)) [CV.int IntKind.i64 0]).length) (encI xs))=encI xs:=by
 have:List.take xs.length (encI xs)=encI xs:=List.take_of_length_le (by simp)
 simp [splice,this]
theorem smL_le {l:Ls} (h:smL l=true):l.a.length<=100000/\l.b.length<=100000/\l.c.length<=100000:=by
 simp only [smL,Bool.and_eq_true] at h
 exact ⟨Nat.le_of_ble_eq_true h.1,Nat.le_of_ble_eq_true h.2.1,Nat.le_of_ble_eq_true h.2.2⟩
theorem own_good:GoodC Pr 99 gOwn:=
 good1 ((CxOK.baseG Good.nil GoodI.nil (eqOK_none fun _=>rfl)).sound (cx:=k65) Tryz.func99 (by kernel_rfl) (by kernel_rfl) rfl (by kernel_rfl)) fun l hp β K=>by
  obtain ⟨h1,h2,h3⟩:=smL_le hp
  have hL:=lim_val
  have e (xs:List Int) (h:xs.length<=100000):0<=(((encI xs).length:Nat):Int)/\(((encI xs).length:Nat):Int)<=(((encI xs).length:Nat):Int)/\(((encI xs).length:Nat):Int)<=((LIM:Nat):Int):=by
   rw [encI_len,hL];omega
  rw [r65,if_pos (e _ h1),if_pos (e _ h2),if_pos (e _ h3),own_cell,own_cell,own_cell]
  rfl
def Ls.get (l:Ls):Nat->List Int
 | 0=>l.a
 | 1=>l.b
 | _=>l.c
def Ls.set (l:Ls) (x:List Int):Nat->Ls
 | 0=>⟨x,l.b,l.c⟩
 | 1=>⟨l.a,x,l.c⟩
 | _=>⟨l.a,l.b,x⟩
theorem isC_cases {c:Int} (h:isC c=true):c=0\/c=1\/c=2:=by
 simp only [isC,Bool.and_eq_true,decide_eq_true_eq] at h
 omega
noncomputable abbrev k34:Cx:=cxG Pr Tryz.f52 [(98,gIs),(99,gOwn)]
theorem r34a (l:Ls) (x:List Int) (β:Type) (K:CV->List (List CV)->Option β):fnK k34 Tryz.f52 [cLs.enc l,.int .i64 0,cIs.enc x] [] K=
 Option.bind (Option.bind (decI (encI (Ls.a l))) fun a=>
 Option.bind (decI (encI (Ls.b l))) fun b=>
 Option.bind (decI (encI (Ls.c l))) fun c=>some {a:=a,b:=b,c:=c}) fun a=>
 bif smL a then
 if List.length (encI (Ls.a a)++encI x)<=LIM then
 K (CV.tup [CV.agg [CV.own 1 (encI (Ls.a a)++encI x),CV.own 1 (encI (Ls.b a)),CV.own 1 (encI (Ls.c a))],CV.int IntKind.i64 0]) []
 else none
 else none:=by kernel_rfl
theorem r34b (l:Ls) (x:List Int) (β:Type) (K:CV->List (List CV)->Option β):fnK k34 Tryz.f52 [cLs.enc l,.int .i64 1,cIs.enc x] [] K=
 Option.bind (Option.bind (decI (encI (Ls.a l))) fun a=>
 Option.bind (decI (encI (Ls.b l))) fun b=>
 Option.bind (decI (encI (Ls.c l))) fun c=>some {a:=a,b:=b,c:=c}) fun a=>
 bif smL a then
 if List.length (encI (Ls.b a)++encI x)<=LIM then
 K (CV.tup [CV.agg [CV.own 1 (encI (Ls.a a)),CV.own 1 (encI (Ls.b a)++encI x),CV.own 1 (encI (Ls.c a))],CV.int IntKind.i64 0]) []
 else none
 else none:=by kernel_rfl
theorem r34c (l:Ls) (x:List Int) (β:Type) (K:CV->List (List CV)->Option β):fnK k34 Tryz.f52 [cLs.enc l,.int .i64 2,cIs.enc x] [] K=
 Option.bind (Option.bind (decI (encI (Ls.a l))) fun a=>
 Option.bind (decI (encI (Ls.b l))) fun b=>
 Option.bind (decI (encI (Ls.c l))) fun c=>some {a:=a,b:=b,c:=c}) fun a=>
 bif smL a then
 if List.length (encI (Ls.c a)++encI x)<=LIM then
 K (CV.tup [CV.agg [CV.own 1 (encI (Ls.a a)),CV.own 1 (encI (Ls.b a)),CV.own 1 (encI (Ls.c a)++encI x)],CV.int IntKind.i64 0]) []
 else none
 else none:=by kernel_rfl
def cRef (k:Nat):Cod Unit where
 enc:=fun _ => .ref k
 dec:=fun c=>match c with | .ref j=>bif Nat.beq j k then some () else none | _=>none
 ok:=fun c a h=>by
  split at h
  ·rename_i j
   cases e:Nat.beq j k with
   | true=>rw [Nat.eq_of_beq_eq_true e]
   | false=>rw [e] at h;cases h
  ·cases h
 de:=fun _=>by simp
inductive K3 where
 | x | y | z
structure L3 where
 a:List (List CV)
 b:List (List CV)
 c:List (List CV)
def inR (lo hi:Int) (x:Int):Bool:=bif decide (x>=lo) then decide (x<hi) else false
def K3.c:K3->Int
 | .x=>0
 | .y=>1
 | .z=>2
def K3.n:K3->Nat
 | .x=>0
 | .y=>1
 | .z=>2
def pushL (l:Ls) (c:Int) (x:List Int):Ls:=l.set (l.get c.toNat++x) c.toNat
def gPush:Callee:=g3 cLs cI cIs (fun l c x=>smL l&&(isC c&&Nat.ble x.length 100000)) fun l c x => .tup [cOLs.enc (pushL l c x),.int .i64 0]
def partOut (l:Ls) (c lo hi:Int):List Int:=(l.get c.toNat).filter (inR lo hi)
def partL (l:Ls) (c lo hi:Int):Ls:=l.set ((l.get c.toNat).filter fun x => !inR lo hi x) c.toNat
@[simp] theorem encI_app (x y:List Int):encI x++encI y=encI (x++y):=by simp [encI]
theorem push_good:GoodC Pr 52 gPush:=
 good3 ((CxOK.baseG (Good.cons is_good (Good.cons own_good Good.nil)) GoodI.nil (eqOK_none fun _=>rfl)).sound (cx:=k34) Tryz.func52 (by kernel_rfl) (by kernel_rfl) rfl (by kernel_rfl)) fun l c x hp β K=>by
  simp only [Bool.and_eq_true] at hp
  obtain ⟨hl,hc,hx⟩:=hp
  have hx:=Nat.le_of_ble_eq_true hx
  obtain ⟨l1,l2,l3⟩:=smL_le hl
  have hL:=lim_val
  have hl':smL ⟨l.a,l.b,l.c⟩=true:=hl
  rcases isC_cases hc with rfl | rfl | rfl
  ·refine (r34a l x β K).trans ?_
   simp only [decI_map,Option.bind_some,hl',cond_true,encI_app]
   rw [if_pos (by simp;omega)]
   rfl
  ·refine (r34b l x β K).trans ?_
   simp only [decI_map,Option.bind_some,hl',cond_true,encI_app]
   rw [if_pos (by simp;omega)]
   rfl
  ·refine (r34c l x β K).trans ?_
   simp only [decI_map,Option.bind_some,hl',cond_true,encI_app]
   rw [if_pos (by simp;omega)]
   rfl
end Go.Ab

namespace Go.Ab
open Go
set_option maxRecDepth 100000
open Go.Proofs
noncomputable abbrev k101:Cx:=cxG Pr Tryz.f145 []
noncomputable abbrev k88:Cx:=cxG Pr Tryz.f134 []
theorem r101 (x:Int) (β:Type) (K:CV->List (List CV)->Option β):fnK k101 Tryz.f145 [cI.enc x] [] K=
 K (CV.bool (x != x)) []:=by kernel_rfl
theorem r88 (x:Int) (β:Type) (K:CV->List (List CV)->Option β):fnK k88 Tryz.f134 [cI.enc x] [] K=
 K (CV.bool (x != x)) []:=by kernel_rfl
def gNaN:Callee:=g1 cI (fun _=>true) fun _=>cB.enc false
theorem nan101:GoodC Pr 145 gNaN:=
 good1 ((CxOK.baseG Good.nil GoodI.nil (eqOK_none fun _=>rfl)).sound (cx:=k101) Tryz.func145 (by kernel_rfl) (by kernel_rfl) rfl (by kernel_rfl)) fun x _ β K=>by
  rw [r101];simp
theorem nan88:GoodC Pr 134 gNaN:=
 good1 ((CxOK.baseG Good.nil GoodI.nil (eqOK_none fun _=>rfl)).sound (cx:=k88) Tryz.func134 (by kernel_rfl) (by kernel_rfl) rfl (by kernel_rfl)) fun x _ β K=>by
  rw [r88];simp
noncomputable abbrev k87:Cx:=cxG Pr Tryz.f133 [(145,gNaN)]
theorem r87 (x y:Int) (β:Type) (K:CV->List (List CV)->Option β):fnK k87 Tryz.f133 [cI.enc x,cI.enc y] [] K=
 K (CV.bool (decide (x<y))) []:=by kernel_rfl
def gLess:Callee:=g2 cI cI (fun _ _=>true) fun x y=>cB.enc (decide (x<y))
theorem less_good:GoodC Pr 133 gLess:=
 good2 ((CxOK.baseG (Good.cons nan101 Good.nil) GoodI.nil (eqOK_none fun _=>rfl)).sound (cx:=k87) Tryz.func133 (by kernel_rfl) (by kernel_rfl) rfl (by kernel_rfl)) fun x y _ β K=>by
  rw [r87];rfl
noncomputable abbrev k79:Cx:=cxG Pr Tryz.f110 [(133,gLess),(134,gNaN)] [] (fun _=>false) (fun q=>Nat.beq q 60)
theorem bs_inl:GoodN Pr 110 (inlC k79 Tryz.f110):=(CxOK.baseG (Good.cons less_good (Good.cons nan88 Good.nil)) GoodI.nil (eqOK_none fun _=>rfl)).inlG (cx:=k79) Tryz.func110 (by kernel_rfl) (by kernel_rfl) rfl (by kernel_rfl)
noncomputable abbrev k54:Cx:=cxG Pr Tryz.f58 [] [(110,inlC k79 Tryz.f110)]
theorem r54 (n:Int) (β:Type) (K:CV->List (List CV)->Option β):fnK k54 Tryz.f58 [cI.enc n] [] K=
 bif decide (n<1) then K (CV.tup [CV.int IntKind.i64 0,CV.int IntKind.i64 1]) []
 else
 bif decide (n>63) then K (CV.tup [CV.int IntKind.i64 0,CV.int IntKind.i64 2]) []
 else
 bif decide (4<IntKind.wrap IntKind.i64 (n+1)) then
 bif decide (8<IntKind.wrap IntKind.i64 (n+1)) then
 K (CV.tup [CV.int IntKind.i64 3,CV.int IntKind.i64 0]) []
 else
 bif 8==IntKind.wrap IntKind.i64 (n+1) then K (CV.tup [CV.int IntKind.i64 2,CV.int IntKind.i64 0]) []
 else K (CV.tup [CV.int IntKind.i64 2,CV.int IntKind.i64 0]) []
 else
 bif decide (2<IntKind.wrap IntKind.i64 (n+1)) then
 bif 4==IntKind.wrap IntKind.i64 (n+1) then K (CV.tup [CV.int IntKind.i64 1,CV.int IntKind.i64 0]) []
 else K (CV.tup [CV.int IntKind.i64 1,CV.int IntKind.i64 0]) []
 else
 bif 2==IntKind.wrap IntKind.i64 (n+1) then K (CV.tup [CV.int IntKind.i64 0,CV.int IntKind.i64 0]) []
 else K (CV.tup [CV.int IntKind.i64 0,CV.int IntKind.i64 0]) []:=by kernel_rfl
def ofE (n:Int):Int×Int:=bif decide (n<1) then (0,1) else bif decide (n>63) then (0,2) else (bif decide (n>7) then 3 else bif decide (n>3) then 2 else bif decide (n>1) then 1 else 0,0)
def gOf:Callee:=g1 cI (fun _=>true) fun n => .tup [cI.enc (ofE n).1,cI.enc (ofE n).2]
theorem of_good:GoodC Pr 58 gOf:=
 good1 ((CxOK.baseG Good.nil (GoodI.cons bs_inl GoodI.nil) (eqOK_none fun _=>rfl)).sound (cx:=k54) Tryz.func58 (by kernel_rfl) (by kernel_rfl) rfl (by kernel_rfl)) fun n _ β K=>by
  rw [r54]
  unfold ofE
  by_cases h1:n<1
  ·simp only [decide_eq_true h1,cond_true];rfl
  ·by_cases h2:n>63
   ·simp only [decide_eq_false h1,decide_eq_true h2,cond_true,cond_false];rfl
   ·rw [wrap_in (a:=n+1) (by omega)]
    simp only [decide_eq_false h1,decide_eq_false h2,cond_false]
    by_cases h3:n>7
    ·rw [decide_eq_true h3,decide_eq_true (show 4<n+1 by omega),decide_eq_true (show 8<n+1 by omega)];rfl
    ·rw [decide_eq_false h3,decide_eq_false (show ¬ 8<n+1 by omega)]
     by_cases h4:n>3
     ·rw [decide_eq_true h4,decide_eq_true (show 4<n+1 by omega)];cases (8:Int)==n+1 <;> rfl
     ·rw [decide_eq_false h4,decide_eq_false (show ¬ 4<n+1 by omega)]
      by_cases h5:n>1
      ·rw [decide_eq_true h5,decide_eq_true (show 2<n+1 by omega)];cases (4:Int)==n+1 <;> rfl
      ·rw [decide_eq_false h5,decide_eq_false (show ¬ 2<n+1 by omega)];cases (2:Int)==n+1 <;> rfl
noncomputable abbrev k53:Cx:=cxG Pr Tryz.f114 [(58,gOf)]
theorem r53 (n:Int) (β:Type) (K:CV->List (List CV)->Option β):fnK k53 Tryz.f114 [cI.enc n] [] K=
 bif Prod.snd (ofE n) != 0 then K (CV.tup [CV.int IntKind.i64 0,CV.int IntKind.i64 (Prod.snd (ofE n))]) []
 else
 bif decide (Prod.fst (ofE n)<3) then K (CV.tup [CV.int IntKind.i64 0,CV.int IntKind.i64 3]) []
 else
 K (CV.tup [CV.int IntKind.i64 (IntKind.wrap IntKind.i64 (IntKind.wrap IntKind.i64 (Int.tdiv n 16)+1)),CV.int IntKind.i64 0]) []:=by kernel_rfl
def runE (n:Int):Int×Int:=bif (ofE n).2 != 0 then (0,(ofE n).2) else bif decide ((ofE n).1<3) then (0,3) else (IntKind.i64.wrap (IntKind.i64.wrap (Int.tdiv n 16)+1),0)
def gRun:Callee:=g1 cI (fun _=>true) fun n => .tup [cI.enc (runE n).1,cI.enc (runE n).2]
structure Hp where
 w:List Int
 p:List Pg
 f:Ls
 c:List Bool
def encBs (l:List Bool):List (List CV):=l.map fun b=>[.bool b]
def decBs:List (List CV)->Option (List Bool)
 | []=>some []
 | c::r=>match c with
  | [.bool b]=>(decBs r).bind fun s=>some (b::s)
  | _=>none
@[simp] theorem decBs_enc:∀ l,decBs (encBs l)=some l
 | []=>rfl
 | b::l=>by
  show (decBs (encBs l)).bind _=_
  rw [decBs_enc l];rfl
theorem decBs_ok:∀ {L l},decBs L=some l->L=encBs l
 | [],l,h=>by cases h;rfl
 | c::r,l,h=>by
  simp only [decBs] at h
  split at h
  ·replace h:=bind_some' h
   obtain ⟨s,hs,h⟩:=h
   cases h
   rw [decBs_ok hs];rfl
  ·cases h
def encHp (h:Hp):List CV:=[.sl 1 (encI h.w),.sl 2 (h.p.map encP),.sl 1 (encI h.f.a),.sl 1 (encI h.f.b),.sl 1 (encI h.f.c),.sl 1 (encBs h.c)]
def cHp:Cod Hp where
 enc:=fun h => .agg (encHp h)
 dec:=fun c=>match c with
  | .agg [.sl 1 w,.sl 2 p,.sl 1 a,.sl 1 b,.sl 1 c,.sl 1 d]=>(decI w).bind fun w=>(decP p).bind fun p=>(decI a).bind fun a=>(decI b).bind fun b=>(decI c).bind fun c=>(decBs d).bind fun d=>some ⟨w,p,⟨a,b,c⟩,d⟩
  | _=>none
 ok:=fun c p h=>by
  split at h
  ·replace h:=bind_some' h
   obtain ⟨x,hx,h⟩:=h
   replace h:=bind_some' h
   obtain ⟨y,hy,h⟩:=h
   replace h:=bind_some' h
   obtain ⟨z,hz,h⟩:=h
   replace h:=bind_some' h
   obtain ⟨x',hx',h⟩:=h
   replace h:=bind_some' h
   obtain ⟨y',hy',h⟩:=h
   replace h:=bind_some' h
   obtain ⟨z',hz',h⟩:=h
   cases h
   rw [decI_enc hx,decP_enc hy,decI_enc hz,decI_enc hx',decI_enc hy',decBs_ok hz']
   rfl
  ·cases h
 de:=fun l=>by simp [encHp,decP_map]
def cPg:Cod Pg where
 enc:=fun p => .agg (encP p)
 dec:=fun c=>match c with | .agg [.int .i64 a,.int .i64 b]=>some (a,b) | _=>none
 ok:=fun c a h=>by
  split at h
  ·cases h;rfl
  ·cases h
 de:=fun _=>rfl
noncomputable abbrev k26:Cx:=cxG Pr Tryz.f75 []
theorem r26 (h:Hp) (a:Int) (β:Type) (K:CV->List (List CV)->Option β):fnK k26 Tryz.f75 [cHp.enc h,cI.enc a] [] K=
 Option.bind (rdE (encI (Hp.w h)) (IntKind.wrap IntKind.i64 (a - 16))) fun c=>
 Option.bind c[0]? fun x=>Option.bind (asI IntKind.i64 x) fun n=>K (CV.int IntKind.i64 n) []:=by kernel_rfl
noncomputable abbrev k27:Cx:=cxG Pr Tryz.f76 []
theorem r27 (h:Hp) (a:Int) (β:Type) (K:CV->List (List CV)->Option β):fnK k27 Tryz.f76 [cHp.enc h,cI.enc a] [] K=
 Option.bind (rdE (List.map encP (Hp.p h)) (IntKind.wrap IntKind.i64 (IntKind.wrap IntKind.i64 (Int.tdiv a 16) - 1))) fun c=>
 Option.bind c[0]? fun x=>
 Option.bind (asI IntKind.i64 x) fun n=>
 Option.bind c[1]? fun x=>
 Option.bind (asI IntKind.i64 x) fun n_1=>K (CV.agg [CV.int IntKind.i64 n,CV.int IntKind.i64 n_1]) []:=by kernel_rfl
noncomputable abbrev k28:Cx:=cxG Pr Tryz.f77 [(114,gRun),(58,gOf)]
theorem r28 (p:Pg) (n:Int) (β:Type) (K:CV->List (List CV)->Option β):fnK k28 Tryz.f77 [cPg.enc p,cI.enc n] [] K=
 bif Prod.fst p==2 then
 bif Prod.snd (runE n)==0 then K (CV.bool (Prod.fst (runE n)==Prod.snd p)) [] else K (CV.bool false) []
 else bif Prod.snd (ofE n)==0 then K (CV.bool (Prod.fst (ofE n)==Prod.snd p)) [] else K (CV.bool false) []:=by kernel_rfl
noncomputable abbrev k23:Cx:=cxG Pr Tryz.f72 [(118,gMayA),(82,gMayP)]
theorem r23 (h:Hp) (β:Type) (K:CV->List (List CV)->Option β):fnK k23 Tryz.f72 [cHp.enc h] [] K=
 Option.bind (decI (encI (Hp.w h))) fun a=>
 bif Nat.ble (List.length a) 4000000000 then
 bif mayA (List.length a) then
 Option.bind (decP (List.map encP (Hp.p h))) fun a=>
 bif sm a then
 bif may a then
 bif (↑(List.length (encI (Hp.w h))):Int)==IntKind.wrap IntKind.i64 (16*(↑(List.length (List.map encP (Hp.p h))):Int)) then
 K (CV.bool ((↑(List.length (encBs (Hp.c h))):Int)==IntKind.wrap IntKind.i64 (Int.tdiv (↑(List.length (encI (Hp.w h))):Int) 8))) []
 else K (CV.bool false) []
 else K (CV.bool false) []
 else none
 else K (CV.bool false) []
 else none:=by kernel_rfl
theorem run_good:GoodC Pr 114 gRun:=
 good1 ((CxOK.baseG (Good.cons of_good Good.nil) GoodI.nil (eqOK_none fun _=>rfl)).sound (cx:=k53) Tryz.func114 (by kernel_rfl) (by kernel_rfl) rfl (by kernel_rfl)) fun n _ β K=>by
  rw [r53]
  unfold runE
  cases (ofE n).2 != 0 with
  | true=>rfl
  | false=>cases decide ((ofE n).1<3) <;> rfl
def wordE (h:Hp) (a:Int):Int:=h.w.getD (a - 16).toNat 0
def pageE (h:Hp) (a:Int):Pg:=h.p.getD (a / 16 - 1).toNat (0,0)
def fitsE (p:Pg) (n:Int):Bool:=bif p.1==2 then (runE n).2==0&&(runE n).1==p.2 else (ofE n).2==0&&(ofE n).1==p.2
def shapedE (h:Hp):Bool:=mayA h.w.length&&(may h.p&&(Nat.beq h.w.length (16*h.p.length)&&Nat.beq h.c.length (h.w.length / 8)))
def smH (h:Hp):Bool:=Nat.ble h.w.length 100000&&(sm h.p&&(Nat.ble h.c.length 100000&&smL h.f))
def inW (h:Hp) (a:Int):Bool:=smH h&&(decide (16<=a)&&decide (a<16+(h.w.length:Int)))
def inP (h:Hp) (a:Int):Bool:=smH h&&(decide (16<=a)&&decide (a<16+16*(h.p.length:Int)))
def gWord:Callee:=g2 cHp cI inW fun h a=>cI.enc (wordE h a)
def gPage:Callee:=g2 cHp cI inP fun h a=>cPg.enc (pageE h a)
def gFits:Callee:=g2 cPg cI (fun _ _=>true) fun p n=>cB.enc (fitsE p n)
def gShaped:Callee:=g1 cHp smH fun h=>cB.enc (shapedE h)
theorem smH_le {h:Hp} (hh:smH h=true):h.w.length<=100000/\h.p.length<=200/\h.c.length<=100000/\smL h.f=true:=by
 simp only [smH,Bool.and_eq_true] at hh
 exact ⟨Nat.le_of_ble_eq_true hh.1,sm_le hh.2.1,Nat.le_of_ble_eq_true hh.2.2.1,hh.2.2.2⟩
theorem word_good:GoodC Pr 75 gWord:=
 good2 ((CxOK.baseG Good.nil GoodI.nil (eqOK_none fun _=>rfl)).sound (cx:=k26) Tryz.func75 (by kernel_rfl) (by kernel_rfl) rfl (by kernel_rfl)) fun h a hp β K=>by
  simp only [inW,Bool.and_eq_true,decide_eq_true_eq] at hp
  obtain ⟨hs,h1,h2⟩:=hp
  have hl:=(smH_le hs).1
  rw [r26,wrap_in (a:=a - 16) (by omega),rdE_nat (by omega)]
  have e1:(encI h.w)[(a - 16).toNat]? = some [CV.int .i64 (wordE h a)]:=by
   have:(a - 16).toNat<h.w.length:=by omega
   simp [encI,wordE,this]
  simp only [e1,Option.bind_some,zero_get,asI_i]
  rfl
theorem page_good:GoodC Pr 76 gPage:=
 good2 ((CxOK.baseG Good.nil GoodI.nil (eqOK_none fun _=>rfl)).sound (cx:=k27) Tryz.func76 (by kernel_rfl) (by kernel_rfl) rfl (by kernel_rfl)) fun h a hp β K=>by
  simp only [inP,Bool.and_eq_true,decide_eq_true_eq] at hp
  obtain ⟨hs,h1,h2⟩:=hp
  have hl:=(smH_le hs).2.1
  rw [r27,tdiv_pos (by omega),wrap_in (a:=a / 16) (by omega),wrap_in (a:=a / 16 - 1) (by omega),rdE_nat (by omega)]
  have e1:(List.map encP h.p)[(a / 16 - 1).toNat]? = some (encP (pageE h a)):=by
   have:(a / 16 - 1).toNat<h.p.length:=by omega
   rw [List.getElem?_map,pageE,List.getD_eq_getElem?_getD,List.getElem?_eq_getElem this]
   rfl
  simp only [e1,Option.bind_some,encP,zero_get,one_get,asI_i]
  rfl
theorem fits_good:GoodC Pr 77 gFits:=
 good2 ((CxOK.baseG (Good.cons run_good (Good.cons of_good Good.nil)) GoodI.nil (eqOK_none fun _=>rfl)).sound (cx:=k28) Tryz.func77 (by kernel_rfl) (by kernel_rfl) rfl (by kernel_rfl)) fun p n _ β K=>by
  rw [r28]
  unfold fitsE
  cases p.1==2 with
  | true=>cases (runE n).2==0 <;> rfl
  | false=>cases (ofE n).2==0 <;> rfl
theorem encBs_len (l:List Bool):(encBs l).length=l.length:=by simp [encBs]
theorem beq_nat (a b:Nat):(((a:Nat):Int)==((b:Nat):Int))=Nat.beq a b:=by
 rw [Bool.eq_iff_iff];simp;omega
theorem shaped_good:GoodC Pr 72 gShaped:=
 good1 ((CxOK.baseG (Good.cons mayA_good (Good.cons mayP_good Good.nil)) GoodI.nil (eqOK_none fun _=>rfl)).sound (cx:=k23) Tryz.func72 (by kernel_rfl) (by kernel_rfl) rfl (by kernel_rfl)) fun h hs β K=>by
  obtain ⟨h1,h2,h3,_⟩:=smH_le hs
  rw [r23]
  unfold shapedE
  have e1:IntKind.i64.wrap (16*(h.p.length:Int))=((16*h.p.length:Nat):Int):=by
   rw [wrap_in (by omega)];omega
  have e2:IntKind.i64.wrap (Int.tdiv (h.w.length:Int) 8)=((h.w.length / 8:Nat):Int):=wrap_nat (show h.w.length / 8<=4000000000 by omega)
  simp only [decI_map,Option.bind_some,Nat.ble_eq_true_of_le (show h.w.length<=4000000000 by omega),cond_true,decP_map,sm_of h2,encI_len,List.length_map,e1,e2,encBs_len,beq_nat]
  cases mayA h.w.length with
  | false=>rfl
  | true=>
   cases may h.p with
   | false=>rfl
   | true=>cases Nat.beq h.w.length (16*h.p.length) <;> rfl
end Go.Ab

namespace Go.Ab
open Go
set_option maxRecDepth 100000
open Go.Proofs
def cPH:Cod Hp where
 enc:=fun h => .pc (encHp h) 0
 dec:=fun c=>match c with
  | .pc cs o=>bif Nat.beq o 0 then cHp.dec (.agg cs) else none
  | _=>none
 ok:=fun c p h=>by
  split at h
  ·rename_i cs o
   cases e:Nat.beq o 0 with
   | false=>rw [e] at h;cases h
   | true=>
    rw [e] at h
    have:=cHp.ok _ _ h
    rw [Nat.eq_of_beq_eq_true e]
    cases this
    rfl
  ·cases h
 de:=fun h=>cHp.de h
def cPI:Cod Int where
 enc:=fun k => .pc [.int .i64 k] 0
 dec:=fun c=>match c with
  | .pc [.int .i64 k] 0=>some k
  | _=>none
 ok:=fun c p h=>by
  split at h
  ·cases h;rfl
  ·cases h
 de:=fun _=>rfl
theorem roomH_good:GoodC Pr 42 gRoom:=⟨room_sound,room_nat⟩
noncomputable abbrev k24:Cx:=cxG Pr Tryz.f73 [(75,gWord),(74,gUnp),(76,gPage),(77,gFits)]
noncomputable abbrev k55:Cx:=cxG Pr Tryz.f119 [(42,gRoom),(76,gPage),(75,gWord)] [] (fun _=>false) (fun _=>false) (fun t=>Nat.beq t 61)
theorem r24 (a:Int) (h:Hp) (β:Type) (K:CV->List (List CV)->Option β):fnK k24 Tryz.f73 [cI.enc a,cPH.enc h] [] K=
 Option.bind (Option.bind (decI (encI (Hp.w h))) fun w=>
 Option.bind (decP (List.map encP (Hp.p h))) fun p=>
 Option.bind (decI (encI (Ls.a (Hp.f h)))) fun a=>
 Option.bind (decI (encI (Ls.b (Hp.f h)))) fun b=>
 Option.bind (decI (encI (Ls.c (Hp.f h)))) fun c=>
 Option.bind (decBs (encBs (Hp.c h))) fun d=>some {w:=w,p:=p,f:={a:=a,b:=b,c:=c},c:=d}) fun a_1=>
 bif inW a_1 a then
 Option.bind (Option.bind (decI (encI (Hp.w h))) fun w=>
 Option.bind (decP (List.map encP (Hp.p h))) fun p=>
 Option.bind (decI (encI (Ls.a (Hp.f h)))) fun a=>
 Option.bind (decI (encI (Ls.b (Hp.f h)))) fun b=>
 Option.bind (decI (encI (Ls.c (Hp.f h)))) fun c=>
 Option.bind (decBs (encBs (Hp.c h))) fun d=>some {w:=w,p:=p,f:={a:=a,b:=b,c:=c},c:=d}) fun a_2=>
 bif inP a_2 a then
 bif unpOK (wordE a_1 a) then
 bif !Hd.a (bif unpOK (wordE a_1 a) then unp (wordE a_1 a) else Hd.z0) then
 bif Prod.fst (pageE a_2 a)==1 then K (CV.bool true) []
 else
 bif Hd.a (bif unpOK (wordE a_1 a) then unp (wordE a_1 a) else Hd.z0) then
 K (CV.bool (fitsE (Prod.fst (pageE a_2 a),Prod.snd (pageE a_2 a)) (Hd.x (bif unpOK (wordE a_1 a) then unp (wordE a_1 a) else Hd.z0)))) []
 else K (CV.bool false) []
 else
 bif Hd.a (bif unpOK (wordE a_1 a) then unp (wordE a_1 a) else Hd.z0) then
 K (CV.bool (fitsE (Prod.fst (pageE a_2 a),Prod.snd (pageE a_2 a)) (Hd.x (bif unpOK (wordE a_1 a) then unp (wordE a_1 a) else Hd.z0)))) []
 else K (CV.bool false) []
 else K (CV.bool false) []
 else none
 else none:=by kernel_rfl
theorem r55 (a:Int) (h:Hp) (k:Int) (β:Type) (K:CV->List (List CV)->Option β):fnK k55 Tryz.f119 [cI.enc a,cPH.enc h,cPI.enc k] [] K=
 Option.bind (decP (List.map encP (Hp.p h))) fun ps=>
 bif Nat.ble (List.length ps) 200 then
 bif decide (roomA ps a>0) then
 Option.bind (Option.bind (decI (encI (Hp.w h))) fun w=>
 Option.bind (decP (List.map encP (Hp.p h))) fun p=>
 Option.bind (decI (encI (Ls.a (Hp.f h)))) fun a=>
 Option.bind (decI (encI (Ls.b (Hp.f h)))) fun b=>
 Option.bind (decI (encI (Ls.c (Hp.f h)))) fun c=>
 Option.bind (decBs (encBs (Hp.c h))) fun d=>some {w:=w,p:=p,f:={a:=a,b:=b,c:=c},c:=d}) fun a_1=>
 bif inP a_1 a then
 bif Prod.fst (pageE a_1 a)==1&&(Prod.snd (pageE a_1 a)==k&&true) then
 Option.bind (Option.bind (decI (encI (Hp.w h))) fun w=>
 Option.bind (decP (List.map encP (Hp.p h))) fun p=>
 Option.bind (decI (encI (Ls.a (Hp.f h)))) fun a=>
 Option.bind (decI (encI (Ls.b (Hp.f h)))) fun b=>
 Option.bind (decI (encI (Ls.c (Hp.f h)))) fun c=>
 Option.bind (decBs (encBs (Hp.c h))) fun d=>some {w:=w,p:=p,f:={a:=a,b:=b,c:=c},c:=d}) fun a_2=>bif inW a_2 a then K (CV.bool (wordE a_2 a==0)) [] else none
 else K (CV.bool false) []
 else none
 else K (CV.bool false) []
 else none:=by kernel_rfl
def mayV (h:Hp) (a:Int):Bool:=unpOK (wordE h a)&&bif (unp (wordE h a)).a then fitsE (pageE h a) (unp (wordE h a)).x else (pageE h a).1==1
def listV (h:Hp) (k a:Int):Bool:=decide (roomA h.p a>0)&&(((pageE h a).1==1&&(pageE h a).2==k)&&wordE h a==0)
def gMay1:Callee:=g2 cI cPH (fun a h=>inW h a&&inP h a) fun a h=>cB.enc (mayV h a)
def gListed1:Callee:=g3 cI cPH cPI (fun _ h _=>smH h&&shapedE h) fun a h k=>cB.enc (listV h k a)
theorem may1_good:GoodC Pr 73 gMay1:=
 good2 ((CxOK.baseG (Good.cons word_good (Good.cons unp_good (Good.cons page_good (Good.cons fits_good Good.nil)))) GoodI.nil (eqOK_none fun _=>rfl)).sound (cx:=k24) Tryz.func73 (by kernel_rfl) (by kernel_rfl) rfl (by kernel_rfl)) fun a h hp β K=>by
  simp only [Bool.and_eq_true] at hp
  refine (r24 a h β K).trans ?_
  have e:(⟨h.w,h.p,⟨h.f.a,h.f.b,h.f.c⟩,h.c⟩:Hp)=h:=rfl
  simp only [decI_map,decP_map,decBs_enc,Option.bind_some,e,hp.1,hp.2,cond_true]
  unfold mayV
  cases hu:unpOK (wordE h a) with
  | false=>rfl
  | true=>
   simp only [cond_true,Bool.true_and]
   cases (unp (wordE h a)).a with
   | true=>rfl
   | false=>cases (pageE h a).1==1 <;> rfl
theorem room_in {ps:List Pg} {a:Int} (h:roomA ps a>0):16<=a/\a<16+16*(ps.length:Int):=by
 have h1:=room_pos ps a
 rw [decide_eq_true h] at h1
 have h2:=of_decide_eq_true h1.symm
 have h3:=allCs_rises ps
 have h4:∀ (l:List Int) (lo hi:Int),rises lo hi l->a∈l->lo<=a/\a<hi:=by
  intro l
  induction l with
  | nil=>intro lo hi _ h;cases h
  | cons x l ih=>
   rintro lo hi ⟨g1,g2,g3⟩ h
   rcases List.mem_cons.1 h with rfl | h
   ·exact ⟨g1,g2⟩
   ·have:=ih _ _ g3 h
    omega
 have:=h4 _ _ _ h3 h2
 omega
theorem shaped_in {h:Hp} (hs:smH h=true) (hh:shapedE h=true) {a:Int} (h1:16<=a) (h2:a<16+16*(h.p.length:Int)):inW h a=true/\inP h a=true:=by
 simp only [shapedE,Bool.and_eq_true] at hh
 have:=Nat.eq_of_beq_eq_true hh.2.2.1
 simp only [inW,inP,hs,Bool.true_and,Bool.and_eq_true,decide_eq_true_eq]
 omega
theorem listed1_good:GoodC Pr 119 gListed1:=
 good3 ((CxOK.baseG (Good.cons roomH_good (Good.cons page_good (Good.cons word_good Good.nil))) GoodI.nil (eqOK_page rfl rfl)).sound (cx:=k55) Tryz.func119 (by kernel_rfl) (by kernel_rfl) rfl (by kernel_rfl)) fun a h k hp β K=>by
  simp only [Bool.and_eq_true] at hp
  refine (r55 a h k β K).trans ?_
  have e:(⟨h.w,h.p,⟨h.f.a,h.f.b,h.f.c⟩,h.c⟩:Hp)=h:=rfl
  simp only [decI_map,decP_map,decBs_enc,Option.bind_some,e,Nat.ble_eq_true_of_le (smH_le hp.1).2.1,cond_true]
  unfold listV
  by_cases hr:roomA h.p a>0
  ·obtain ⟨g1,g2⟩:=room_in hr
   obtain ⟨q1,q2⟩:=shaped_in hp.1 hp.2 g1 g2
   simp only [decide_eq_true hr,cond_true,q1,q2,Bool.and_true,Bool.true_and]
   cases (pageE h a).1==1&&(pageE h a).2==k <;> rfl
  ·rw [decide_eq_false hr];rfl
def cPM:Cod (List Int) where
 enc:=fun ks => .pc [.mp ks] 0
 dec:=fun c=>match c with | .pc [.mp ks] 0=>some ks | _=>none
 ok:=fun c a h=>by
  split at h
  ·cases h;rfl
  ·cases h
 de:=fun _=>rfl
noncomputable abbrev k37:Cx:=cxG Pr Tryz.f86 [(75,gWord)]
theorem r37 (a:Int) (h:Hp) (ks:List Int) (β:Type) (K:CV->List (List CV)->Option β):fnK k37 Tryz.f86 [cI.enc a,cPH.enc h,cPM.enc ks] [] K=
 Option.bind (Option.bind (decI (encI (Hp.w h))) fun w=>
 Option.bind (decP (List.map encP (Hp.p h))) fun p=>
 Option.bind (decI (encI (Ls.a (Hp.f h)))) fun a=>
 Option.bind (decI (encI (Ls.b (Hp.f h)))) fun b=>
 Option.bind (decI (encI (Ls.c (Hp.f h)))) fun c=>
 Option.bind (decBs (encBs (Hp.c h))) fun d=>some {w:=w,p:=p,f:={a:=a,b:=b,c:=c},c:=d}) fun a_1=>
 bif inW a_1 a then bif wordE a_1 a != 0 then K (CV.bool true) [] else K (CV.bool (List.contains ks a)) [] else none:=by kernel_rfl
def wholeV (h:Hp) (ks:List Int) (a:Int):Bool:=bif wordE h a != 0 then true else ks.contains a
def gWhole1:Callee:=g3 cI cPH cPM (fun a h _=>inW h a) fun a h ks=>cB.enc (wholeV h ks a)
theorem whole1_good:GoodC Pr 86 gWhole1:=
 good3 ((CxOK.baseG (Good.cons word_good Good.nil) GoodI.nil (eqOK_none fun _=>rfl)).sound (cx:=k37) Tryz.func86 (by kernel_rfl) (by kernel_rfl) rfl (by kernel_rfl)) fun a h ks hp β K=>by
  have e:(⟨h.w,h.p,⟨h.f.a,h.f.b,h.f.c⟩,h.c⟩:Hp)=h:=rfl
  rw [r37]
  simp only [decI_map,decP_map,decBs_enc,Option.bind_some,e,hp,cond_true]
  unfold wholeV
  cases wordE h a != 0 <;> rfl
inductive Clo where
 | may (h:Hp)
 | list (h:Hp) (k:Int)
 | whole (h:Hp) (ks:List Int)
def Clo.val:Clo->Int->Bool
 | .may h,a=>mayV h a
 | .list h k,a=>listV h k a
 | .whole h ks,a=>wholeV h ks a
def Clo.pre:Clo->Int->Bool
 | .may h,a=>inW h a&&inP h a
 | .list h _,_=>smH h&&shapedE h
 | .whole h _,a=>inW h a
def Clo.enc:Clo->CV
 | .may h => .fn 73 [] [cPH.enc h]
 | .list h k => .fn 119 [] [cPH.enc h,cPI.enc k]
 | .whole h ks => .fn 86 [] [cPH.enc h,cPM.enc ks]
def Clo.dec:CV->Option Clo
 | .fn f [] caps=>bif Nat.beq f 73 then (match caps with | [x]=>(cPH.dec x).map .may | _=>none)
   else bif Nat.beq f 119 then (match caps with | [x,y]=>(cPH.dec x).bind fun h=>(cPI.dec y).map fun k => .list h k | _=>none)
   else bif Nat.beq f 86 then (match caps with | [x,y]=>(cPH.dec x).bind fun h=>(cPM.dec y).map fun k => .whole h k | _=>none) else none
 | _=>none
theorem Clo.ok:∀ c a,Clo.dec c=some a->c=a.enc:=fun c a h=>by
 unfold Clo.dec at h
 split at h
 ·rename_i f caps
  cases e1:Nat.beq f 73 with
  | true=>
   rw [e1] at h
   simp only [cond_true] at h
   split at h
   ·rename_i x
    cases hx:cPH.dec x with
    | none=>rw [hx] at h;cases h
    | some y=>rw [hx] at h;cases h;rw [Nat.eq_of_beq_eq_true e1,cPH.ok _ _ hx];rfl
   ·cases h
  | false=>
   rw [e1] at h
   cases e2:Nat.beq f 119 with
   | true=>
    rw [e2] at h
    simp only [cond_true,cond_false] at h
    split at h
    ·rename_i x y
     replace h:=bind_some' h
     obtain ⟨p,hx,h⟩:=h
     cases hy:cPI.dec y with
     | none=>rw [hy] at h;cases h
     | some z=>rw [hy] at h;cases h;rw [Nat.eq_of_beq_eq_true e2,cPH.ok _ _ hx,cPI.ok _ _ hy];rfl
    ·cases h
   | false=>
    rw [e2] at h
    cases e3:Nat.beq f 86 with
    | true=>
     rw [e3] at h
     simp only [cond_true,cond_false] at h
     split at h
     ·rename_i x y
      replace h:=bind_some' h
      obtain ⟨p,hx,h⟩:=h
      cases hy:cPM.dec y with
      | none=>rw [hy] at h;cases h
      | some z=>rw [hy] at h;cases h;rw [Nat.eq_of_beq_eq_true e3,cPH.ok _ _ hx,cPM.ok _ _ hy];rfl
     ·cases h
    | false=>rw [e3] at h;cases h
 ·cases h
theorem Clo.de:∀ a:Clo,Clo.dec a.enc=some a
 | .may h=>by
  show (cPH.dec (cPH.enc h)).map Clo.may=_
  rw [cPH.de];rfl
 | .list h k=>by
  show ((cPH.dec (cPH.enc h)).bind fun h=>(cPI.dec (cPI.enc k)).map fun k=>Clo.list h k)=_
  rw [cPH.de,cPI.de];rfl
 | .whole h ks=>by
  show ((cPH.dec (cPH.enc h)).bind fun h=>(cPM.dec (cPM.enc ks)).map fun k=>Clo.whole h k)=_
  rw [cPH.de,cPM.de];rfl
def cPC:Cod Clo where
 enc:=fun c => .pc [c.enc] 0
 dec:=fun c=>match c with | .pc [x] 0=>Clo.dec x | _=>none
 ok:=fun c a h=>by
  split at h
  ·rw [Clo.ok _ _ h]
  ·cases h
 de:=fun a=>Clo.de a
def cEv:Cod Clo where
 enc:=fun c => .fn 121 [] [.pc [c.enc] 0]
 dec:=fun c=>match c with | .fn f [] [.pc [x] 0]=>bif Nat.beq f 121 then Clo.dec x else none | _=>none
 ok:=fun c a h=>by
  split at h
  ·rename_i f x
   cases e:Nat.beq f 121 with
   | true=>rw [e] at h;rw [Nat.eq_of_beq_eq_true e,Clo.ok _ _ h]
   | false=>rw [e] at h;cases h
  ·cases h
 de:=fun a=>Clo.de a
def cClo:Cod Clo:=⟨Clo.enc,Clo.dec,Clo.ok,Clo.de⟩
def gEvery1:Callee:=g2 cI cPC (fun a c=>c.pre a) fun a c=>cB.enc (!c.val a)
noncomputable abbrev k57:Cx:=cxG Pr Tryz.f121 [(73,gMay1),(119,gListed1),(86,gWhole1)]
theorem r57a (a:Int) (h:Hp) (β:Type) (K:CV->List (List CV)->Option β):fnK k57 Tryz.f121 [cI.enc a,cPC.enc (.may h)] [] K=
 Option.bind (Option.bind (decI (encI (Hp.w h))) fun w=>
 Option.bind (decP (List.map encP (Hp.p h))) fun p=>
 Option.bind (decI (encI (Ls.a (Hp.f h)))) fun a=>
 Option.bind (decI (encI (Ls.b (Hp.f h)))) fun b=>
 Option.bind (decI (encI (Ls.c (Hp.f h)))) fun c=>
 Option.bind (decBs (encBs (Hp.c h))) fun d=>some {w:=w,p:=p,f:={a:=a,b:=b,c:=c},c:=d}) fun b=>bif inW b a&&inP b a then K (CV.bool !mayV b a) [] else none:=by kernel_rfl
theorem r57b (a:Int) (h:Hp) (k:Int) (β:Type) (K:CV->List (List CV)->Option β):fnK k57 Tryz.f121 [cI.enc a,cPC.enc (.list h k)] [] K=
 Option.bind (Option.bind (decI (encI (Hp.w h))) fun w=>
 Option.bind (decP (List.map encP (Hp.p h))) fun p=>
 Option.bind (decI (encI (Ls.a (Hp.f h)))) fun a=>
 Option.bind (decI (encI (Ls.b (Hp.f h)))) fun b=>
 Option.bind (decI (encI (Ls.c (Hp.f h)))) fun c=>
 Option.bind (decBs (encBs (Hp.c h))) fun d=>some {w:=w,p:=p,f:={a:=a,b:=b,c:=c},c:=d}) fun b=>bif smH b&&shapedE b then K (CV.bool !listV b k a) [] else none:=by kernel_rfl
theorem r57c (a:Int) (h:Hp) (ks:List Int) (β:Type) (K:CV->List (List CV)->Option β):fnK k57 Tryz.f121 [cI.enc a,cPC.enc (.whole h ks)] [] K=
 Option.bind (Option.bind (decI (encI (Hp.w h))) fun w=>
 Option.bind (decP (List.map encP (Hp.p h))) fun p=>
 Option.bind (decI (encI (Ls.a (Hp.f h)))) fun a=>
 Option.bind (decI (encI (Ls.b (Hp.f h)))) fun b=>
 Option.bind (decI (encI (Ls.c (Hp.f h)))) fun c=>
 Option.bind (decBs (encBs (Hp.c h))) fun d=>some {w:=w,p:=p,f:={a:=a,b:=b,c:=c},c:=d}) fun b=>bif inW b a then K (CV.bool !wholeV b ks a) [] else none:=by kernel_rfl
theorem every1_good:GoodC Pr 121 gEvery1:=
 good2 ((CxOK.baseG (Good.cons may1_good (Good.cons listed1_good (Good.cons whole1_good Good.nil))) GoodI.nil (eqOK_none fun _=>rfl)).sound (cx:=k57) Tryz.func121 (by kernel_rfl) (by kernel_rfl) rfl (by kernel_rfl)) fun a c hp β K=>by
  cases c with
  | may h=>
   refine (r57a a h β K).trans ?_
   have e:(⟨h.w,h.p,⟨h.f.a,h.f.b,h.f.c⟩,h.c⟩:Hp)=h:=rfl
   have hp:(inW h a&&inP h a)=true:=hp
   simp only [decI_map,decP_map,decBs_enc,Option.bind_some,e,hp,cond_true]
   rfl
  | list h k=>
   refine (r57b a h k β K).trans ?_
   have e:(⟨h.w,h.p,⟨h.f.a,h.f.b,h.f.c⟩,h.c⟩:Hp)=h:=rfl
   have hp:(smH h&&shapedE h)=true:=hp
   simp only [decI_map,decP_map,decBs_enc,Option.bind_some,e,hp,cond_true]
   rfl
  | whole h ks=>
   refine (r57c a h ks β K).trans ?_
   have e:(⟨h.w,h.p,⟨h.f.a,h.f.b,h.f.c⟩,h.c⟩:Hp)=h:=rfl
   have hp:inW h a=true:=hp
   simp only [decI_map,decP_map,decBs_enc,Option.bind_some,e,hp,cond_true]
   rfl
abbrev o73:Exit->List Nat:=fun | .ret=>[4] | _=>[]
abbrev p73:=[false,true,false,true]
def badI (c:Clo) (xs:List Int):Option Nat:=xs.findIdx? fun x => !c.val x
def L73:LoopSem:=l4 [0,1,7,8] o73 cIs cEv cI cI c0 (fun xs c n i _=>xs.all c.pre&&(Nat.ble xs.length 100000&&(i==0&&n==(xs.length:Int))))
 fun xs c _ _ _ => .alt (badI c xs).isSome (.one .ret [cI.enc (((badI c xs).getD 0:Nat):Int)] []) (.one (.exit 0) [] [])
noncomputable abbrev k73a:Cx:=cxG Pr Tryz.f126 [(121,gEvery1)]
noncomputable abbrev k73:Cx:=k73a.loop p73 L73
theorem t73x (xs:List Int) (h:Hp) (n i:Int) (m:Nat) (β:Type) (K:Exit->List CV->List (List CV)->Option β):loopB k73a [0,1,7,8] o73 p73 (bodyL (bodyOf Tryz.f126) p73) (m+1) [cIs.enc xs,cEv.enc (.may h),cI.enc n,cI.enc i] [] K=
 bif decide (i<n) then
 Option.bind (rdE (encI xs) i) fun c=>
 Option.bind c[0]? fun x=>
 Option.bind (asI IntKind.i64 x) fun n_1=>
 Option.bind (Clo.dec (CV.fn 73 [] [CV.pc [CV.sl 1 (encI (Hp.w h)),CV.sl 2 (List.map encP (Hp.p h)),CV.sl 1 (encI (Ls.a (Hp.f h))),CV.sl 1 (encI (Ls.b (Hp.f h))),CV.sl 1 (encI (Ls.c (Hp.f h))),CV.sl 1 (encBs (Hp.c h))] 0])) fun b=>
 bif Clo.pre b n_1 then
 bif !Clo.val b n_1 then K Exit.ret [CV.int IntKind.i64 i] []
 else loopB k73a [0,1,7,8] o73 [false,true,false,true] (bodyL (bodyOf Tryz.f126) p73) m [CV.sl 1 (encI xs),CV.fn 121 [] [CV.pc [CV.fn 73 [] [CV.pc [CV.sl 1 (encI (Hp.w h)),CV.sl 2 (List.map encP (Hp.p h)),CV.sl 1 (encI (Ls.a (Hp.f h))),CV.sl 1 (encI (Ls.b (Hp.f h))),CV.sl 1 (encI (Ls.c (Hp.f h))),CV.sl 1 (encBs (Hp.c h))] 0]] 0],CV.int IntKind.i64 n,CV.int IntKind.i64 (IntKind.wrap IntKind.i64 (i+1))] [] fun a a_1 a_2=>K a a_1 a_2
 else none
 else K (Exit.exit 0) [] []:=by kernel_rfl
theorem t73y (xs:List Int) (h:Hp) (k n i:Int) (m:Nat) (β:Type) (K:Exit->List CV->List (List CV)->Option β):loopB k73a [0,1,7,8] o73 p73 (bodyL (bodyOf Tryz.f126) p73) (m+1) [cIs.enc xs,cEv.enc (.list h k),cI.enc n,cI.enc i] [] K=
 bif decide (i<n) then
 Option.bind (rdE (encI xs) i) fun c=>
 Option.bind c[0]? fun x=>
 Option.bind (asI IntKind.i64 x) fun n_1=>
 Option.bind (Clo.dec (CV.fn 119 [] [CV.pc [CV.sl 1 (encI (Hp.w h)),CV.sl 2 (List.map encP (Hp.p h)),CV.sl 1 (encI (Ls.a (Hp.f h))),CV.sl 1 (encI (Ls.b (Hp.f h))),CV.sl 1 (encI (Ls.c (Hp.f h))),CV.sl 1 (encBs (Hp.c h))] 0,CV.pc [CV.int IntKind.i64 k] 0])) fun b=>
 bif Clo.pre b n_1 then
 bif !Clo.val b n_1 then K Exit.ret [CV.int IntKind.i64 i] []
 else loopB k73a [0,1,7,8] o73 [false,true,false,true] (bodyL (bodyOf Tryz.f126) p73) m [CV.sl 1 (encI xs),CV.fn 121 [] [CV.pc [CV.fn 119 [] [CV.pc [CV.sl 1 (encI (Hp.w h)),CV.sl 2 (List.map encP (Hp.p h)),CV.sl 1 (encI (Ls.a (Hp.f h))),CV.sl 1 (encI (Ls.b (Hp.f h))),CV.sl 1 (encI (Ls.c (Hp.f h))),CV.sl 1 (encBs (Hp.c h))] 0,CV.pc [CV.int IntKind.i64 k] 0]] 0],CV.int IntKind.i64 n,CV.int IntKind.i64 (IntKind.wrap IntKind.i64 (i+1))] [] fun a a_1 a_2=>K a a_1 a_2
 else none
 else K (Exit.exit 0) [] []:=by kernel_rfl
theorem t73z (xs:List Int) (h:Hp) (ks:List Int) (n i:Int) (m:Nat) (β:Type) (K:Exit->List CV->List (List CV)->Option β):loopB k73a [0,1,7,8] o73 p73 (bodyL (bodyOf Tryz.f126) p73) (m+1) [cIs.enc xs,cEv.enc (.whole h ks),cI.enc n,cI.enc i] [] K=
 bif decide (i<n) then
 Option.bind (rdE (encI xs) i) fun c=>
 Option.bind c[0]? fun x=>
 Option.bind (asI IntKind.i64 x) fun n_1=>
 Option.bind (Clo.dec (CV.fn 86 [] [CV.pc [CV.sl 1 (encI (Hp.w h)),CV.sl 2 (List.map encP (Hp.p h)),CV.sl 1 (encI (Ls.a (Hp.f h))),CV.sl 1 (encI (Ls.b (Hp.f h))),CV.sl 1 (encI (Ls.c (Hp.f h))),CV.sl 1 (encBs (Hp.c h))] 0,CV.pc [CV.mp ks] 0])) fun b=>
 bif Clo.pre b n_1 then
 bif !Clo.val b n_1 then K Exit.ret [CV.int IntKind.i64 i] []
 else loopB k73a [0,1,7,8] o73 [false,true,false,true] (bodyL (bodyOf Tryz.f126) p73) m [CV.sl 1 (encI xs),CV.fn 121 [] [CV.pc [CV.fn 86 [] [CV.pc [CV.sl 1 (encI (Hp.w h)),CV.sl 2 (List.map encP (Hp.p h)),CV.sl 1 (encI (Ls.a (Hp.f h))),CV.sl 1 (encI (Ls.b (Hp.f h))),CV.sl 1 (encI (Ls.c (Hp.f h))),CV.sl 1 (encBs (Hp.c h))] 0,CV.pc [CV.mp ks] 0]] 0],CV.int IntKind.i64 n,CV.int IntKind.i64 (IntKind.wrap IntKind.i64 (i+1))] [] fun a a_1 a_2=>K a a_1 a_2
 else none
 else K (Exit.exit 0) [] []:=by kernel_rfl
theorem r73x (xs:List Int) (h:Hp) (β:Type) (K:CV->List (List CV)->Option β):fnK k73 Tryz.f126 [cIs.enc xs,cEv.enc (.may h)] [] K=
 Option.bind (decI (encI xs)) fun a=>
 Option.bind (Clo.dec (CV.fn 73 [] [CV.pc [CV.sl 1 (encI (Hp.w h)),CV.sl 2 (List.map encP (Hp.p h)),CV.sl 1 (encI (Ls.a (Hp.f h))),CV.sl 1 (encI (Ls.b (Hp.f h))),CV.sl 1 (encI (Ls.c (Hp.f h))),CV.sl 1 (encBs (Hp.c h))] 0])) fun b=>
 bif List.all a (Clo.pre b)&&(Nat.ble (List.length a) 100000&&(↑(List.length (encI xs)):Int)==(↑(List.length a):Int)) then
 bif Option.isSome (badI b a) then K (CV.int IntKind.i64 (↑(Option.getD (badI b a) 0):Int)) []
 else K (CV.int IntKind.i64 (Int.negSucc 0)) []
 else none:=by kernel_rfl
theorem r73y (xs:List Int) (h:Hp) (k:Int) (β:Type) (K:CV->List (List CV)->Option β):fnK k73 Tryz.f126 [cIs.enc xs,cEv.enc (.list h k)] [] K=
 Option.bind (decI (encI xs)) fun a=>
 Option.bind (Clo.dec (CV.fn 119 [] [CV.pc [CV.sl 1 (encI (Hp.w h)),CV.sl 2 (List.map encP (Hp.p h)),CV.sl 1 (encI (Ls.a (Hp.f h))),CV.sl 1 (encI (Ls.b (Hp.f h))),CV.sl 1 (encI (Ls.c (Hp.f h))),CV.sl 1 (encBs (Hp.c h))] 0,CV.pc [CV.int IntKind.i64 k] 0])) fun b=>
 bif List.all a (Clo.pre b)&&(Nat.ble (List.length a) 100000&&(↑(List.length (encI xs)):Int)==(↑(List.length a):Int)) then
 bif Option.isSome (badI b a) then K (CV.int IntKind.i64 (↑(Option.getD (badI b a) 0):Int)) []
 else K (CV.int IntKind.i64 (Int.negSucc 0)) []
 else none:=by kernel_rfl
theorem r73z (xs:List Int) (h:Hp) (ks:List Int) (β:Type) (K:CV->List (List CV)->Option β):fnK k73 Tryz.f126 [cIs.enc xs,cEv.enc (.whole h ks)] [] K=
 Option.bind (decI (encI xs)) fun a=>
 Option.bind (Clo.dec (CV.fn 86 [] [CV.pc [CV.sl 1 (encI (Hp.w h)),CV.sl 2 (List.map encP (Hp.p h)),CV.sl 1 (encI (Ls.a (Hp.f h))),CV.sl 1 (encI (Ls.b (Hp.f h))),CV.sl 1 (encI (Ls.c (Hp.f h))),CV.sl 1 (encBs (Hp.c h))] 0,CV.pc [CV.mp ks] 0])) fun b=>
 bif List.all a (Clo.pre b)&&(Nat.ble (List.length a) 100000&&(↑(List.length (encI xs)):Int)==(↑(List.length a):Int)) then
 bif Option.isSome (badI b a) then K (CV.int IntKind.i64 (↑(Option.getD (badI b a) 0):Int)) []
 else K (CV.int IntKind.i64 (Int.negSucc 0)) []
 else none:=by kernel_rfl
theorem de_may (h:Hp):Clo.dec (CV.fn 73 [] [CV.pc [CV.sl 1 (encI (Hp.w h)),CV.sl 2 (List.map encP (Hp.p h)),CV.sl 1 (encI (Ls.a (Hp.f h))),CV.sl 1 (encI (Ls.b (Hp.f h))),CV.sl 1 (encI (Ls.c (Hp.f h))),CV.sl 1 (encBs (Hp.c h))] 0])=some (.may h):=Clo.de (.may h)
theorem de_list (h:Hp) (k:Int):Clo.dec (CV.fn 119 [] [CV.pc [CV.sl 1 (encI (Hp.w h)),CV.sl 2 (List.map encP (Hp.p h)),CV.sl 1 (encI (Ls.a (Hp.f h))),CV.sl 1 (encI (Ls.b (Hp.f h))),CV.sl 1 (encI (Ls.c (Hp.f h))),CV.sl 1 (encBs (Hp.c h))] 0,CV.pc [CV.int IntKind.i64 k] 0])=some (.list h k):=Clo.de (.list h k)
theorem de_whole (h:Hp) (ks:List Int):Clo.dec (CV.fn 86 [] [CV.pc [CV.sl 1 (encI (Hp.w h)),CV.sl 2 (List.map encP (Hp.p h)),CV.sl 1 (encI (Ls.a (Hp.f h))),CV.sl 1 (encI (Ls.b (Hp.f h))),CV.sl 1 (encI (Ls.c (Hp.f h))),CV.sl 1 (encBs (Hp.c h))] 0,CV.pc [CV.mp ks] 0])=some (.whole h ks):=Clo.de (.whole h ks)
theorem t73 (xs:List Int) (c:Clo) (n i:Int) (m:Nat) (β:Type) (K:Exit->List CV->List (List CV)->Option β):loopB k73a [0,1,7,8] o73 p73 (bodyL (bodyOf Tryz.f126) p73) (m+1) [cIs.enc xs,cEv.enc c,cI.enc n,cI.enc i] [] K=
  bif decide (i<n) then
   Option.bind (rdE (encI xs) i) fun e=>Option.bind e[0]? fun x=>Option.bind (asI IntKind.i64 x) fun a=>
    bif c.pre a then bif !c.val a then K .ret [cI.enc i] [] else loopB k73a [0,1,7,8] o73 p73 (bodyL (bodyOf Tryz.f126) p73) m [cIs.enc xs,cEv.enc c,cI.enc n,cI.enc (IntKind.i64.wrap (i+1))] [] K else none
  else K (.exit 0) [] []:=by
 cases c with
 | may h=>refine (t73x xs h n i m β K).trans ?_;simp only [de_may,Option.bind_some];rfl
 | list h k=>refine (t73y xs h k n i m β K).trans ?_;simp only [de_list,Option.bind_some];rfl
 | whole h ks=>refine (t73z xs h ks n i m β K).trans ?_;simp only [de_whole,Option.bind_some];rfl
theorem index_loop (c:Clo) (xs:List Int) (hx:xs.length<=100000) (hc:xs.all c.pre=true) (β:Type) (K:Exit->List CV->List (List CV)->Option β):∀ (m i:Nat),i+m=xs.length->
  loopB k73a [0,1,7,8] o73 p73 (bodyL (bodyOf Tryz.f126) p73) (m+1) [cIs.enc xs,cEv.enc c,cI.enc (xs.length:Int),cI.enc (i:Int)] [] K=
   bif (badI c (xs.drop i)).isSome then K .ret [cI.enc (((i+(badI c (xs.drop i)).getD 0:Nat)):Int)] [] else K (.exit 0) [] []:=by
 intro m
 induction m with
 | zero=>
  intro i h1
  rw [t73,decide_eq_false (by omega),cond_false,List.drop_eq_nil_of_le (by omega)]
  rfl
 | succ m ih=>
  intro i h1
  have hii:i<xs.length:=by omega
  rw [t73,decide_eq_true (by omega),cond_true,List.drop_eq_getElem_cons hii,rdE_nat (by omega)]
  have e1:(encI xs)[(i:Int).toNat]? = some [CV.int .i64 xs[i]]:=by simp [encI,hii]
  have e2:c.pre xs[i]=true:=List.all_eq_true.1 hc _ (List.getElem_mem hii)
  simp only [e1,Option.bind_some,zero_get,asI_i,show (i:Int)+1=((i+1:Nat):Int) by omega,wrap_in (a:=((i+1:Nat):Int)) (by omega),e2,cond_true]
  have e3:badI c (xs[i]::xs.drop (i+1))=bif !c.val xs[i] then some 0 else (badI c (xs.drop (i+1))).map (· + 1):=by
   unfold badI
   rw [List.findIdx?_cons]
   cases !c.val xs[i] <;> rfl
  rw [e3]
  cases !c.val xs[i] with
  | true=>rfl
  | false=>
   rw [cond_false,cond_false,ih (i+1) (by omega)]
   cases badI c (xs.drop (i+1)) with
   | none=>rfl
   | some j=>
    simp only [Option.map_some,Option.isSome_some,Option.getD_some,cond_true]
    rw [show i+1+j=i+(j+1) by omega]
theorem k73_ok:CxOK k73 [(121,gEvery1)]:=by
 refine CxOK.loop4 (CxOK.baseG (Good.cons every1_good Good.nil) GoodI.nil (eqOK_none fun _=>rfl)) rfl fun xs c n i u hp => ?_
 simp only [Bool.and_eq_true,beq_iff_eq] at hp
 obtain ⟨hc,hx,hi,hn⟩:=hp
 have hx:=Nat.le_of_ble_eq_true hx
 subst hi hn
 refine ⟨xs.length+1,fun β K => ?_⟩
 have:=index_loop c xs hx hc β K xs.length 0 (by omega)
 rw [List.drop_zero,Nat.zero_add] at this
 exact this
def gIndex:Callee:=g2 cIs cEv (fun xs c=>xs.all c.pre&&Nat.ble xs.length 100000) fun xs c=>cI.enc (bif (badI c xs).isSome then (((badI c xs).getD 0:Nat):Int) else -1)
theorem index_good:GoodC Pr 126 gIndex:=
 good2 (k73_ok.sound (cx:=k73) Tryz.func126 (by kernel_rfl) (by kernel_rfl) rfl (by kernel_rfl)) fun xs c hp β K=>by
  cases c with
  | may h=>
   refine (r73x xs h β K).trans ?_
   simp only [de_may,decI_map,Option.bind_some,encI_len,beq_self_eq_true,Bool.and_true,hp,cond_true]
   cases (badI (.may h) xs).isSome <;> rfl
  | list h k=>
   refine (r73y xs h k β K).trans ?_
   simp only [de_list,decI_map,Option.bind_some,encI_len,beq_self_eq_true,Bool.and_true,hp,cond_true]
   cases (badI (.list h k) xs).isSome <;> rfl
  | whole h ks=>
   refine (r73z xs h ks β K).trans ?_
   simp only [de_whole,decI_map,Option.bind_some,encI_len,beq_self_eq_true,Bool.and_true,hp,cond_true]
   cases (badI (.whole h ks) xs).isSome <;> rfl
noncomputable abbrev k56:Cx:=cxG Pr Tryz.f120 [(126,gIndex)]
theorem r56x (xs:List Int) (h:Hp) (β:Type) (K:CV->List (List CV)->Option β):fnK k56 Tryz.f120 [cIs.enc xs,cEv.enc (.may h)] [] K=
 Option.bind (decI (encI xs)) fun a=>
 Option.bind (Clo.dec (CV.fn 73 [] [CV.pc [CV.sl 1 (encI (Hp.w h)),CV.sl 2 (List.map encP (Hp.p h)),CV.sl 1 (encI (Ls.a (Hp.f h))),CV.sl 1 (encI (Ls.b (Hp.f h))),CV.sl 1 (encI (Ls.c (Hp.f h))),CV.sl 1 (encBs (Hp.c h))] 0])) fun b=>
 bif List.all a (Clo.pre b)&&Nat.ble (List.length a) 100000 then
 K (CV.bool (decide ((bif Option.isSome (badI b a) then (↑(Option.getD (badI b a) 0):Int) else -1)>=0))) []
 else none:=by kernel_rfl
theorem r56y (xs:List Int) (h:Hp) (k:Int) (β:Type) (K:CV->List (List CV)->Option β):fnK k56 Tryz.f120 [cIs.enc xs,cEv.enc (.list h k)] [] K=
 Option.bind (decI (encI xs)) fun a=>
 Option.bind (Clo.dec (CV.fn 119 [] [CV.pc [CV.sl 1 (encI (Hp.w h)),CV.sl 2 (List.map encP (Hp.p h)),CV.sl 1 (encI (Ls.a (Hp.f h))),CV.sl 1 (encI (Ls.b (Hp.f h))),CV.sl 1 (encI (Ls.c (Hp.f h))),CV.sl 1 (encBs (Hp.c h))] 0,CV.pc [CV.int IntKind.i64 k] 0])) fun b=>
 bif List.all a (Clo.pre b)&&Nat.ble (List.length a) 100000 then
 K (CV.bool (decide ((bif Option.isSome (badI b a) then (↑(Option.getD (badI b a) 0):Int) else -1)>=0))) []
 else none:=by kernel_rfl
theorem r56z (xs:List Int) (h:Hp) (ks:List Int) (β:Type) (K:CV->List (List CV)->Option β):fnK k56 Tryz.f120 [cIs.enc xs,cEv.enc (.whole h ks)] [] K=
 Option.bind (decI (encI xs)) fun a=>
 Option.bind (Clo.dec (CV.fn 86 [] [CV.pc [CV.sl 1 (encI (Hp.w h)),CV.sl 2 (List.map encP (Hp.p h)),CV.sl 1 (encI (Ls.a (Hp.f h))),CV.sl 1 (encI (Ls.b (Hp.f h))),CV.sl 1 (encI (Ls.c (Hp.f h))),CV.sl 1 (encBs (Hp.c h))] 0,CV.pc [CV.mp ks] 0])) fun b=>
 bif List.all a (Clo.pre b)&&Nat.ble (List.length a) 100000 then
 K (CV.bool (decide ((bif Option.isSome (badI b a) then (↑(Option.getD (badI b a) 0):Int) else -1)>=0))) []
 else none:=by kernel_rfl
end Go.Ab

namespace Go.Ab
open Go
set_option maxRecDepth 100000
open Go.Proofs
theorem badI_all (c:Clo) (xs:List Int):(badI c xs).isSome = !xs.all c.val:=by
 unfold badI
 rw [List.findIdx?_isSome,Bool.eq_iff_iff]
 simp
def gContains:Callee:=g2 cIs cEv (fun xs c=>xs.all c.pre&&Nat.ble xs.length 100000) fun xs c=>cB.enc (!xs.all c.val)
theorem dec_ge (b:Bool) (n:Nat):decide ((bif b then ((n:Nat):Int) else -1)>=0)=b:=by
 cases b <;> simp
theorem contains_good:GoodC Pr 120 gContains:=
 good2 ((CxOK.baseG (Good.cons index_good Good.nil) GoodI.nil (eqOK_none fun _=>rfl)).sound (cx:=k56) Tryz.func120 (by kernel_rfl) (by kernel_rfl) rfl (by kernel_rfl)) fun xs c hp β K=>by
  cases c with
  | may h=>
   refine (r56x xs h β K).trans ?_
   simp only [de_may,decI_map,Option.bind_some,hp,cond_true,dec_ge,badI_all]
   rfl
  | list h k=>
   refine (r56y xs h k β K).trans ?_
   simp only [de_list,decI_map,Option.bind_some,hp,cond_true,dec_ge,badI_all]
   rfl
  | whole h ks=>
   refine (r56z xs h ks β K).trans ?_
   simp only [de_whole,decI_map,Option.bind_some,hp,cond_true,dec_ge,badI_all]
   rfl
noncomputable abbrev k30:Cx:=cxG Pr Tryz.f79 [(120,gContains)]
theorem r30x (xs:List Int) (h:Hp) (β:Type) (K:CV->List (List CV)->Option β):fnK k30 Tryz.f79 [cIs.enc xs,cClo.enc (.may h)] [] K=
 Option.bind (decI (encI xs)) fun a=>
 Option.bind (Clo.dec (CV.fn 73 [] [CV.pc [CV.sl 1 (encI (Hp.w h)),CV.sl 2 (List.map encP (Hp.p h)),CV.sl 1 (encI (Ls.a (Hp.f h))),CV.sl 1 (encI (Ls.b (Hp.f h))),CV.sl 1 (encI (Ls.c (Hp.f h))),CV.sl 1 (encBs (Hp.c h))] 0])) fun b=>
 bif List.all a (Clo.pre b)&&Nat.ble (List.length a) 100000 then K (CV.bool !!List.all a (Clo.val b)) []
 else none:=by kernel_rfl
theorem r30y (xs:List Int) (h:Hp) (k:Int) (β:Type) (K:CV->List (List CV)->Option β):fnK k30 Tryz.f79 [cIs.enc xs,cClo.enc (.list h k)] [] K=
 Option.bind (decI (encI xs)) fun a=>
 Option.bind (Clo.dec (CV.fn 119 [] [CV.pc [CV.sl 1 (encI (Hp.w h)),CV.sl 2 (List.map encP (Hp.p h)),CV.sl 1 (encI (Ls.a (Hp.f h))),CV.sl 1 (encI (Ls.b (Hp.f h))),CV.sl 1 (encI (Ls.c (Hp.f h))),CV.sl 1 (encBs (Hp.c h))] 0,CV.pc [CV.int IntKind.i64 k] 0])) fun b=>
 bif List.all a (Clo.pre b)&&Nat.ble (List.length a) 100000 then K (CV.bool !!List.all a (Clo.val b)) []
 else none:=by kernel_rfl
theorem r30z (xs:List Int) (h:Hp) (ks:List Int) (β:Type) (K:CV->List (List CV)->Option β):fnK k30 Tryz.f79 [cIs.enc xs,cClo.enc (.whole h ks)] [] K=
 Option.bind (decI (encI xs)) fun a=>
 Option.bind (Clo.dec (CV.fn 86 [] [CV.pc [CV.sl 1 (encI (Hp.w h)),CV.sl 2 (List.map encP (Hp.p h)),CV.sl 1 (encI (Ls.a (Hp.f h))),CV.sl 1 (encI (Ls.b (Hp.f h))),CV.sl 1 (encI (Ls.c (Hp.f h))),CV.sl 1 (encBs (Hp.c h))] 0,CV.pc [CV.mp ks] 0])) fun b=>
 bif List.all a (Clo.pre b)&&Nat.ble (List.length a) 100000 then K (CV.bool !!List.all a (Clo.val b)) []
 else none:=by kernel_rfl
def gEvery:Callee:=g2 cIs cClo (fun xs c=>xs.all c.pre&&Nat.ble xs.length 100000) fun xs c=>cB.enc (xs.all c.val)
noncomputable abbrev k29:Cx:=cxG Pr Tryz.f78 [(79,gEvery)] [] (fun _=>false) (fun q=>Nat.beq q 26)
theorem r29 (h:Hp) (l:Ls) (β:Type) (K:CV->List (List CV)->Option β):fnK k29 Tryz.f78 [cHp.enc h,cLs.enc l] [] K=
 Option.bind (decI (encI (Ls.a l))) fun a=>
 Option.bind (Clo.dec (CV.fn 119 [] [CV.pc [CV.sl 1 (encI (Hp.w h)),CV.sl 2 (List.map encP (Hp.p h)),CV.sl 1 (encI (Ls.a (Hp.f h))),CV.sl 1 (encI (Ls.b (Hp.f h))),CV.sl 1 (encI (Ls.c (Hp.f h))),CV.sl 1 (encBs (Hp.c h))] 0,CV.pc [CV.int IntKind.i64 0] 0])) fun b=>
 bif List.all a (Clo.pre b)&&Nat.ble (List.length a) 100000 then
 bif !List.all a (Clo.val b) then K (CV.bool false) []
 else
 Option.bind (decI (encI (Ls.b l))) fun a=>
 Option.bind (Clo.dec (CV.fn 119 [] [CV.pc [CV.sl 1 (encI (Hp.w h)),CV.sl 2 (List.map encP (Hp.p h)),CV.sl 1 (encI (Ls.a (Hp.f h))),CV.sl 1 (encI (Ls.b (Hp.f h))),CV.sl 1 (encI (Ls.c (Hp.f h))),CV.sl 1 (encBs (Hp.c h))] 0,CV.pc [CV.int IntKind.i64 1] 0])) fun b=>
 bif List.all a (Clo.pre b)&&Nat.ble (List.length a) 100000 then
 bif !List.all a (Clo.val b) then K (CV.bool false) []
 else
 Option.bind (decI (encI (Ls.c l))) fun a=>
 Option.bind (Clo.dec (CV.fn 119 [] [CV.pc [CV.sl 1 (encI (Hp.w h)),CV.sl 2 (List.map encP (Hp.p h)),CV.sl 1 (encI (Ls.a (Hp.f h))),CV.sl 1 (encI (Ls.b (Hp.f h))),CV.sl 1 (encI (Ls.c (Hp.f h))),CV.sl 1 (encBs (Hp.c h))] 0,CV.pc [CV.int IntKind.i64 2] 0])) fun b=>
 bif List.all a (Clo.pre b)&&Nat.ble (List.length a) 100000 then
 bif !List.all a (Clo.val b) then K (CV.bool false) [] else K (CV.bool true) []
 else none
 else none
 else none:=by kernel_rfl
theorem every_good:GoodC Pr 79 gEvery:=
 good2 ((CxOK.baseG (Good.cons contains_good Good.nil) GoodI.nil (eqOK_none fun _=>rfl)).sound (cx:=k30) Tryz.func79 (by kernel_rfl) (by kernel_rfl) rfl (by kernel_rfl)) fun xs c hp β K=>by
  cases c with
  | may h=>
   refine (r30x xs h β K).trans ?_
   simp only [de_may,decI_map,Option.bind_some,hp,cond_true,Bool.not_not]
   rfl
  | list h k=>
   refine (r30y xs h k β K).trans ?_
   simp only [de_list,decI_map,Option.bind_some,hp,cond_true,Bool.not_not]
   rfl
  | whole h ks=>
   refine (r30z xs h ks β K).trans ?_
   simp only [de_whole,decI_map,Option.bind_some,hp,cond_true,Bool.not_not]
   rfl
def listedV (h:Hp) (l:Ls):Bool:=l.a.all (listV h 0)&&(l.b.all (listV h 1)&&l.c.all (listV h 2))
def gListed:Callee:=g2 cHp cLs (fun h l=>(smH h&&shapedE h)&&smL l) fun h l=>cB.enc (listedV h l)
theorem listed_good:GoodC Pr 78 gListed:=
 good2 ((CxOK.baseG (Good.cons every_good Good.nil) GoodI.nil (eqOK_none fun _=>rfl)).sound (cx:=k29) Tryz.func78 (by kernel_rfl) (by kernel_rfl) rfl (by kernel_rfl)) fun h l hp β K=>by
  rw [Bool.and_eq_true] at hp
  obtain ⟨l1,l2,l3⟩:=smL_le hp.2
  have e (k:Int) (xs:List Int):xs.all (Clo.list h k).pre=true:=List.all_eq_true.2 fun x _=>hp.1
  refine (r29 h l β K).trans ?_
  simp only [decI_map,Option.bind_some,de_list,e,Nat.ble_eq_true_of_le l1,Nat.ble_eq_true_of_le l2,Nat.ble_eq_true_of_le l3,Bool.and_self,cond_true]
  unfold listedV
  have f (k:Int) (xs:List Int):xs.all (Clo.list h k).val=xs.all (listV h k):=rfl
  simp only [f]
  cases l.a.all (listV h 0) with
  | false=>rfl
  | true=>
   cases l.b.all (listV h 1) with
   | false=>rfl
   | true=>cases l.c.all (listV h 2) <;> rfl
end Go.Ab

namespace Go.Ab
open Go
set_option maxRecDepth 100000
open Go.Proofs
def cBs:Cod (List Bool) where
 enc:=fun xs => .sl 1 (encBs xs)
 dec:=fun c=>match c with | .sl 1 L=>decBs L | _=>none
 ok:=fun c a h=>by
  split at h
  ·rw [decBs_ok h]
  ·cases h
 de:=fun _=>decBs_enc _
def cOBs:Cod (List Bool) where
 enc:=fun xs => .own 1 (encBs xs)
 dec:=fun c=>match c with | .own 1 L=>decBs L | _=>none
 ok:=fun c a h=>by
  split at h
  ·rw [decBs_ok h]
  ·cases h
 de:=fun _=>decBs_enc _
def gCloneB:Callee:=g1 cBs (fun w => !w.isEmpty&&Nat.ble w.length 100000) fun w=>cOBs.enc w
noncomputable abbrev k63:Cx:=cxG Pr Tryz.f90 [] [] (fun q=>Nat.beq q 5)
theorem r63 (w:List Bool) (β:Type) (K:CV->List (List CV)->Option β):fnK k63 Tryz.f90 [cBs.enc w] [] K=
 bif List.isEmpty (encBs w) then none
 else if List.length ([]++encBs w)<=LIM then K (CV.own 1 ([]++encBs w)) [] else none:=by kernel_rfl
def encLs (l:Ls):List CV:=[.sl 1 (encI l.a),.sl 1 (encI l.b),.sl 1 (encI l.c)]
def decLs:List (List CV)->Option (List Ls)
 | []=>some []
 | c::r=>(cLs.dec (.agg c)).bind fun l=>(decLs r).bind fun s=>some (l::s)
@[simp] theorem decLs_map:∀ ls,decLs (ls.map encLs)=some ls
 | []=>rfl
 | l::ls=>by
  show (cLs.dec (cLs.enc l)).bind _=_
  rw [cLs.de]
  show (decLs (ls.map encLs)).bind _=_
  rw [decLs_map ls];rfl
theorem decLs_ok:∀ {L ls},decLs L=some ls->L=ls.map encLs
 | [],ls,h=>by cases h;rfl
 | c::r,ls,h=>by
  simp only [decLs] at h
  replace h:=bind_some' h
  obtain ⟨l,hl,h⟩:=h
  replace h:=bind_some' h
  obtain ⟨s,hs,h⟩:=h
  cases h
  have:=cLs.ok _ _ hl
  cases this
  rw [decLs_ok hs];rfl
def cLss:Cod (List Ls) where
 enc:=fun ls => .sl 3 (ls.map encLs)
 dec:=fun c=>match c with | .sl 3 L=>decLs L | _=>none
 ok:=fun c a h=>by
  split at h
  ·rw [decLs_ok h]
  ·cases h
 de:=fun _=>decLs_map _
def smLs (ls:List Ls):Bool:=Nat.ble ls.length 1000&&ls.all smL
end Go.Ab

namespace Go.Ab
open Go
set_option maxRecDepth 100000
open Go.Proofs
noncomputable abbrev k85:Cx:=cxG Pr Tryz.f144 []
noncomputable abbrev k68:Cx:=cxG Pr Tryz.f125 [] [(144,inlC k85 Tryz.f144)] (fun _=>false) (fun q=>Nat.beq q 58 || Nat.beq q 250)
noncomputable abbrev k36a:Cx:=cxG Pr Tryz.f85 [] [(125,inlC k68 Tryz.f125)]
abbrev o36:Exit->List Nat:=fun _=>[3]
abbrev p36:=[false,true,false,true,true]
theorem t36 (O:List Int) (ls:List Ls) (n i:Int) (m:Nat) (β:Type) (K:Exit->List CV->List (List CV)->Option β):loopB k36a [3,6,7,8] o36 p36 (bodyL (bodyOf Tryz.f85) p36) (m+1) [cOI.enc O,cLss.enc ls,cI.enc n,cI.enc i] [] K=
 bif decide (i<n) then
 Option.bind (rdE (List.map encLs ls) i) fun c=>
 Option.bind c[0]? fun x=>
 Option.bind (asL 1 x) fun l=>
 Option.bind c[1]? fun x=>
 Option.bind (asL 1 x) fun l_1=>
 Option.bind c[2]? fun x=>
 Option.bind (asL 1 x) fun l_2=>
 bif decide (IntKind.wrap IntKind.i64 (0+(↑(List.length l):Int))<0) then none
 else
 bif decide (IntKind.wrap IntKind.i64 (IntKind.wrap IntKind.i64 (0+(↑(List.length l):Int))+(↑(List.length l_1):Int))<0) then none
 else
 bif decide (IntKind.wrap IntKind.i64 (IntKind.wrap IntKind.i64 (IntKind.wrap IntKind.i64 (0+(↑(List.length l):Int))+(↑(List.length l_1):Int))+(↑(List.length l_2):Int))<0) then none
 else
 bif decide (IntKind.wrap IntKind.i64 (IntKind.wrap IntKind.i64 (IntKind.wrap IntKind.i64 (0+(↑(List.length l):Int))+(↑(List.length l_1):Int))+(↑(List.length l_2):Int))<0) then none
 else
 bif decide (IntKind.wrap IntKind.i64 (IntKind.wrap IntKind.i64 (IntKind.wrap IntKind.i64 (IntKind.wrap IntKind.i64 (0+(↑(List.length l):Int))+(↑(List.length l_1):Int))+(↑(List.length l_2):Int)) - 0)>0) then
 if 0<IntKind.wrap IntKind.i64 (IntKind.wrap IntKind.i64 (IntKind.wrap IntKind.i64 (IntKind.wrap IntKind.i64 (0+(↑(List.length l):Int))+(↑(List.length l_1):Int))+(↑(List.length l_2):Int)) - 0)/\IntKind.wrap IntKind.i64 (IntKind.wrap IntKind.i64 (IntKind.wrap IntKind.i64 (IntKind.wrap IntKind.i64 (0+(↑(List.length l):Int))+(↑(List.length l_1):Int))+(↑(List.length l_2):Int)) - 0)<=(↑LIM:Int) then
 bif okBounds (List.length (List.replicate (Int.toNat (IntKind.wrap IntKind.i64 (IntKind.wrap IntKind.i64 (IntKind.wrap IntKind.i64 (IntKind.wrap IntKind.i64 (0+(↑(List.length l):Int))+(↑(List.length l_1):Int))+(↑(List.length l_2):Int)) - 0))) [CV.int IntKind.i64 0])) none (some 0) none then
 if List.length (List.take 0 (List.replicate (Int.toNat (IntKind.wrap IntKind.i64 (IntKind.wrap IntKind.i64 (IntKind.wrap IntKind.i64 (IntKind.wrap IntKind.i64 (0+(↑(List.length l):Int))+(↑(List.length l_1):Int))+(↑(List.length l_2):Int)) - 0))) [CV.int IntKind.i64 0])++l)<=LIM then
 if List.length (l++l_1)<=LIM then
 if List.length (l++l_1++l_2)<=LIM then
 if List.length (encI O++(l++l_1++l_2))<=LIM then loopB k36a [3,6,7,8] o36 [false,true,false,true,true] (bodyL (bodyOf Tryz.f85) p36) m [CV.own 1 (encI O++(l++l_1++l_2)),CV.sl 3 (List.map encLs ls),CV.int IntKind.i64 n,CV.int IntKind.i64 (IntKind.wrap IntKind.i64 (i+1))] [] fun a a_1 a_2=>K a a_1 a_2
 else none
 else none
 else none
 else none
 else none
 else none
 else
 if List.length l<=LIM then
 if List.length (l++l_1)<=LIM then
 if List.length (l++l_1++l_2)<=LIM then
 if List.length (encI O++(l++l_1++l_2))<=LIM then loopB k36a [3,6,7,8] o36 [false,true,false,true,true] (bodyL (bodyOf Tryz.f85) p36) m [CV.own 1 (encI O++(l++l_1++l_2)),CV.sl 3 (List.map encLs ls),CV.int IntKind.i64 n,CV.int IntKind.i64 (IntKind.wrap IntKind.i64 (i+1))] [] fun a a_1 a_2=>K a a_1 a_2
 else none
 else none
 else none
 else none
 else K (Exit.exit 0) [CV.own 1 (encI O)] []:=by kernel_rfl
def one3 (l:Ls):List Int:=l.a++l.b++l.c
def catI (ls:List Ls):List Int:=ls.flatMap one3
theorem asL_1 (L:List (List CV)):asL 1 (.sl 1 L)=some L:=by simp [asL]
theorem step36 (O:List Int) (ls:List Ls) (i m:Nat) (hi:i<ls.length) (hs:ls.all smL=true) (hl:ls.length<=1000) (hO:O.length<=300000*i) (β:Type) (K:Exit->List CV->List (List CV)->Option β):
  loopB k36a [3,6,7,8] o36 p36 (bodyL (bodyOf Tryz.f85) p36) (m+1) [cOI.enc O,cLss.enc ls,cI.enc (ls.length:Int),cI.enc (i:Int)] [] K=
   loopB k36a [3,6,7,8] o36 p36 (bodyL (bodyOf Tryz.f85) p36) m [cOI.enc (O++one3 ls[i]),cLss.enc ls,cI.enc (ls.length:Int),cI.enc ((i+1:Nat):Int)] [] K:=by
 have hL:=lim_val
 obtain ⟨l1,l2,l3⟩:=smL_le (List.all_eq_true.1 hs _ (List.getElem_mem hi))
 have e0:(List.map encLs ls)[(i:Int).toNat]? = some (encLs ls[i]):=by simp [hi]
 rw [t36,decide_eq_true (show (i:Int)<(ls.length:Int) by omega),cond_true,rdE_nat (by omega),e0]
 generalize ls[i]=l at l1 l2 l3
 have g1:(encLs l)[0]? = some (.sl 1 (encI l.a)):=rfl
 have g2:(encLs l)[1]? = some (.sl 1 (encI l.b)):=rfl
 have g3:(encLs l)[2]? = some (.sl 1 (encI l.c)):=rfl
 have w1:IntKind.i64.wrap (0+(l.a.length:Int))=(l.a.length:Int):=by rw [wrap_in (by omega)];omega
 have w2:IntKind.i64.wrap ((l.a.length:Int)+(l.b.length:Int))=(l.a.length:Int)+(l.b.length:Int):=wrap_in (by omega)
 have w3:IntKind.i64.wrap ((l.a.length:Int)+(l.b.length:Int)+(l.c.length:Int))=(l.a.length:Int)+(l.b.length:Int)+(l.c.length:Int):=wrap_in (by omega)
 have w4:IntKind.i64.wrap ((l.a.length:Int)+(l.b.length:Int)+(l.c.length:Int) - 0)=(l.a.length:Int)+(l.b.length:Int)+(l.c.length:Int):=by rw [wrap_in (by omega)];omega
 have w5:IntKind.i64.wrap ((i:Int)+1)=((i+1:Nat):Int):=by rw [wrap_in (by omega)];omega
 simp only [Option.bind_some,g1,g2,g3,asL_1,encI_len,w1,w2,w3,w4,w5,encI_app]
 rw [decide_eq_false (by omega),cond_false,decide_eq_false (by omega),cond_false,decide_eq_false (by omega),cond_false]
 have q1:(l.a++l.b).length<=LIM:=by simp;omega
 have q2:(l.a++l.b++l.c).length<=LIM:=by simp;omega
 have q3:(O++(l.a++l.b++l.c)).length<=LIM:=by simp;omega
 have q0:l.a.length<=LIM:=by omega
 by_cases hz:(l.a.length:Int)+(l.b.length:Int)+(l.c.length:Int)>0
 ·have ob:okBounds (List.length (List.replicate (Int.toNat ((l.a.length:Int)+(l.b.length:Int)+(l.c.length:Int))) [CV.int IntKind.i64 0])) none (some 0) none=true:=by simp [okBounds];omega
  rw [decide_eq_true hz,cond_true,if_pos ⟨by omega,by omega⟩,ob,cond_true,if_pos (by simp;omega),if_pos q1,if_pos q2,if_pos q3]
  rfl
 ·rw [decide_eq_false hz,cond_false,if_pos q0,if_pos q1,if_pos q2,if_pos q3]
  rfl
theorem all_loop (ls:List Ls) (hs:ls.all smL=true) (hl:ls.length<=1000) (β:Type) (K:Exit->List CV->List (List CV)->Option β):∀ (m i:Nat) (O:List Int),i+m=ls.length->O.length<=300000*i->
  loopB k36a [3,6,7,8] o36 p36 (bodyL (bodyOf Tryz.f85) p36) (m+1) [cOI.enc O,cLss.enc ls,cI.enc (ls.length:Int),cI.enc (i:Int)] [] K=
   K (.exit 0) [cOI.enc (O++catI (ls.drop i))] []:=by
 intro m
 induction m with
 | zero=>
  intro i O h1 _
  rw [t36,decide_eq_false (by omega),cond_false,List.drop_eq_nil_of_le (by omega)]
  simp [catI]
 | succ m ih=>
  intro i O h1 hO
  have hi:i<ls.length:=by omega
  obtain ⟨l1,l2,l3⟩:=smL_le (List.all_eq_true.1 hs _ (List.getElem_mem hi))
  rw [step36 O ls i (m+1) hi hs hl hO,ih (i+1) _ (by omega) (by simp [one3];omega),List.drop_eq_getElem_cons hi]
  rw [show catI (ls[i]::ls.drop (i+1))=one3 ls[i]++catI (ls.drop (i+1)) from rfl,List.append_assoc]
def L36:LoopSem:=l4 [3,6,7,8] o36 cOI cLss cI cI c0 (fun O ls n i _=>O.isEmpty&&(smLs ls&&(i==0&&n==(ls.length:Int)))) fun _ ls _ _ _ => .one (.exit 0) [cOI.enc (catI ls)] []
noncomputable abbrev k36:Cx:=k36a.loop p36 L36
theorem grow_inl:GoodN Pr 144 (inlC k85 Tryz.f144):=(CxOK.baseG Good.nil GoodI.nil (eqOK_none fun _=>rfl)).inlG (cx:=k85) Tryz.func144 (by kernel_rfl) (by kernel_rfl) rfl (by kernel_rfl)
theorem concat_inl:GoodN Pr 125 (inlC k68 Tryz.f125):=(CxOK.baseG Good.nil (GoodI.cons grow_inl GoodI.nil) (eqOK_none fun _=>rfl)).inlG (cx:=k68) Tryz.func125 (by kernel_rfl) (by kernel_rfl) rfl (by kernel_rfl)
theorem smLs_le {ls:List Ls} (h:smLs ls=true):ls.length<=1000/\ls.all smL=true:=by
 simp only [smLs,Bool.and_eq_true] at h
 exact ⟨Nat.le_of_ble_eq_true h.1,h.2⟩
theorem k36_ok:CxOK k36 []:=by
 refine CxOK.loop4 (CxOK.baseG Good.nil (GoodI.cons concat_inl GoodI.nil) (eqOK_none fun _=>rfl)) rfl fun O ls n i u hp => ?_
 simp only [Bool.and_eq_true,beq_iff_eq,List.isEmpty_iff] at hp
 obtain ⟨hO,hs,hi,hn⟩:=hp
 subst hO hi hn
 obtain ⟨h1,h2⟩:=smLs_le hs
 refine ⟨ls.length+1,fun β K => ?_⟩
 have:=all_loop ls h2 h1 β K ls.length 0 [] (by omega) (by simp)
 rw [List.drop_zero,List.nil_append] at this
 exact this
def gAllI:Callee:=g1 cLss smLs fun ls=>cOI.enc (catI ls)
theorem r36 (ls:List Ls) (β:Type) (K:CV->List (List CV)->Option β):fnK k36 Tryz.f85 [cLss.enc ls] [] K=
 Option.bind (decLs (List.map encLs ls)) fun b=>
 bif smLs b&&(↑(List.length (List.map encLs ls)):Int)==(↑(List.length b):Int) then
 K (CV.own 1 (encI (catI b))) []
 else none:=by kernel_rfl
theorem catI_good:GoodC Pr 85 gAllI:=
 good1 (k36_ok.sound (cx:=k36) Tryz.func85 (by kernel_rfl) (by kernel_rfl) rfl (by kernel_rfl)) fun ls hp β K=>by
  refine (r36 ls β K).trans ?_
  simp only [decLs_map,Option.bind_some,hp,List.length_map,beq_self_eq_true,Bool.and_self,Bool.and_true,cond_true]
  rfl
end Go.Ab

namespace Go.Ab
open Go
set_option maxRecDepth 100000
open Go.Proofs
theorem sort_heap {w:World} {b n:Nat} {ys:List Int} {os:Array Obj} {cur:Array Value} {ty:TypeId} (hb:w.heap[b]? = some (.cells cur ty (0,0))):
  (Sort.grow (Sort.putRow (Value.int .i64) (Sort.ahead w n) b 0 ys.toArray) os).heap[b]? = some (.cells (Sort.putCells (Value.int .i64) 0 ys.toArray cur) ty (0,0)):=by
 have hlt:=(Array.getElem?_eq_some_iff.1 hb).1
 show ((w.heap.modify b (Sort.onCells (Sort.putCells (Value.int .i64) 0 ys.toArray)))++os)[b]? = _
 rw [Array.getElem?_append_left (by simpa using hlt),Array.getElem?_modify,if_pos rfl,hb]
 rfl
theorem sort_other {w:World} {b n:Nat} {ys:List Int} {os:Array Obj} {c:Nat} (hc:c<w.heap.size) (hne:b≠c):
  (Sort.grow (Sort.putRow (Value.int .i64) (Sort.ahead w n) b 0 ys.toArray) os).heap[c]? = w.heap[c]? := by
 show ((w.heap.modify b (Sort.onCells (Sort.putCells (Value.int .i64) 0 ys.toArray)))++os)[c]? = _
 rw [Array.getElem?_append_left (by simpa using hc),Array.getElem?_modify,if_neg hne]
theorem put_at {ys:List Int} {cur:Array Value} (h:ys.length<=cur.size) {k:Nat} (hk:k<ys.length):(Sort.putCells (Value.int .i64) 0 ys.toArray cur)[k]? = some (.int .i64 ys[k]):=by
 have:k<cur.size:=by omega
 simp [Sort.putCells,this,hk]
theorem rowUpd {ρ:Env} {X:Nat->Prop} {h:H} {w:World} (hr:HR ρ X h w) {i ver:Nat} {xs ys:List Int} (hg:getH h i = .acc ver false 1 (encI xs)) (hl:ys.length=xs.length) {b cap:Nat}
  (hc:ρ.cur i = .slice (some ⟨b,0,none⟩) xs.length cap) (n:Nat) (os:Array Obj):
  HR (ρ.setCur i (ρ.cur i)) X (setH h i (.acc ver false 1 (encI ys))) (Sort.grow (Sort.putRow (Value.int .i64) (Sort.ahead w n) b 0 ys.toArray) os)/\Ext ρ h w (ρ.setCur i (ρ.cur i)) (setH h i (.acc ver false 1 (encI ys))) (Sort.grow (Sort.putRow (Value.int .i64) (Sort.ahead w n) b 0 ys.toArray) os):=by
 have hbx:=hr.box i
 rw [hg] at hbx
 obtain ⟨h0,h1,h2,h3⟩:=hbx
 have hlen:(encI ys).length=(encI xs).length:=by simp [hl]
 rcases h3 with ⟨h3,_⟩ | ⟨b',cap',cur,ty,h3,h4,h5,h6,h7⟩
 ·rw [hc] at h3;cases h3
 rw [hc] at h3
 injection h3 with ha _ hcap
 injection ha with ha
 injection ha with ha
 subst ha hcap
 exact hr.upd (by rw [hg];rfl) (.acc ver false 1 (encI ys)) (ρ.cur i) (w':=Sort.grow (Sort.putRow (Value.int .i64) (Sort.ahead w n) b 0 ys.toArray) os) (by simp [Sort.grow,Sort.putRow,Sort.mapBlock,Sort.ahead])
  (fun c hcl hne=>sort_other hcl fun e=>hne (by rw [hg,<- e];simp [bOf,hc]))
  (fun c hcb => .inl (by rw [hg];simpa [bOf] using hcb))
  (HExt.updAcc hg _ (.inr ⟨rfl,rfl,hlen.symm,rfl⟩)) (fun e=>by
   refine ⟨h0,fun e he => ?_,by rw [hlen];exact h2,.inr ⟨b,cap,_,ty,by rw [hlen,encI_len];simpa using hc,sort_heap h4,by rw [hlen];exact h5,by simpa [Sort.putCells] using h6,fun k j x hx => ?_⟩⟩
   ·obtain ⟨y,_,rfl⟩:=List.mem_map.1 (show e∈ys.map (fun n=>[CV.int .i64 n]) from he)
    rfl
   ·have hks:∃ hk:k<ys.length,j=0/\x = .int .i64 ys[k]:=by
     unfold at2 at hx
     by_cases hk:k<ys.length
     ·refine ⟨hk,?_⟩
      have:(encI ys)[k]? = some [CV.int .i64 ys[k]]:=by simp [encI,hk]
      rw [this] at hx
      cases j with
      | zero=>simp at hx;exact ⟨rfl,hx.symm⟩
      | succ j=>simp at hx
     ·have:(encI ys)[k]? = none:=by simp [encI];omega
      rw [this] at hx
      cases hx
    obtain ⟨hk,rfl,rfl⟩:=hks
    rw [encI_len] at h5
    refine ⟨.int .i64 ys[k],?_,rfl,.int _ _⟩
    rw [Nat.mul_one,Nat.add_zero]
    exact put_at (by omega) hk)
theorem sortPost {ρ:Env} {X:Nat->Prop} {h:H} {w:World} (hr:HR ρ X h w) {i ver:Nat} {xs ys:List Int} (hg:getH h i = .acc ver false 1 (encI xs)) (hl:ys.length=xs.length) {b cap:Nat}
  (hc:ρ.cur i = .slice (some ⟨b,0,none⟩) xs.length cap) (n:Nat) (os:Array Obj):
  Post ρ X h w (.c (.tup [])) (setH h i (.acc ver false 1 (encI ys))) (.tuple #[]) (Sort.grow (Sort.putRow (Value.int .i64) (Sort.ahead w n) b 0 ys.toArray) os):=
 ⟨_,(rowUpd hr hg hl hc n os).1,.c _ _ (.tup [] #[] rfl fun j x hx=>by simp at hx),(rowUpd hr hg hl hc n os).2⟩
end Go.Ab

namespace Go.Proofs
open Go.Shelf
def Tryz.lays189_ren:Go.Shelf.Ren:=⟨fun | 189=>123 | 125=>143 | 257=>142 | 128=>158 | 129=>159 | 294=>150 | 295=>151 | 296=>152 | 297=>153 | 298=>154 | 299=>155 | 216=>133 | 300=>156 | 301=>157 | 328=>162 | 329=>163 | 330=>164 | 331=>165 | 332=>166 | 215=>145 | 343=>167 | n=>n,fun | 28=>22 | 3=>3 | 46=>131 | 0=>0 | 51=>159 | 53=>161 | 4=>4 | 183=>153 | 182=>152 | 131=>49 | 5=>5 | 9=>9 | 218=>166 | 222=>170 | 228=>172 | 229=>173 | n=>n,fun | n=>n⟩
theorem Tryz.lays189:Go.Proofs.Lays.n189 Tryz.prog Tryz.lays189_ren:={
 mixed:=by kernel_rfl
 f125:=Tryz.func143.trans (congrArg some (by kernel_rfl))
 f128:=Tryz.func158.trans (congrArg some (by kernel_rfl))
 f129:=Tryz.func159.trans (congrArg some (by kernel_rfl))
 f189:=Tryz.func123.trans (congrArg some (by kernel_rfl))
 f215:=Tryz.func145.trans (congrArg some (by kernel_rfl))
 f216:=Tryz.func133.trans (congrArg some (by kernel_rfl))
 f257:=Tryz.func142.trans (congrArg some (by kernel_rfl))
 f294:=Tryz.func150.trans (congrArg some (by kernel_rfl))
 f295:=Tryz.func151.trans (congrArg some (by kernel_rfl))
 f296:=Tryz.func152.trans (congrArg some (by kernel_rfl))
 f297:=Tryz.func153.trans (congrArg some (by kernel_rfl))
 f298:=Tryz.func154.trans (congrArg some (by kernel_rfl))
 f299:=Tryz.func155.trans (congrArg some (by kernel_rfl))
 f300:=Tryz.func156.trans (congrArg some (by kernel_rfl))
 f301:=Tryz.func157.trans (congrArg some (by kernel_rfl))
 f328:=Tryz.func162.trans (congrArg some (by kernel_rfl))
 f329:=Tryz.func163.trans (congrArg some (by kernel_rfl))
 f330:=Tryz.func164.trans (congrArg some (by kernel_rfl))
 f331:=Tryz.func165.trans (congrArg some (by kernel_rfl))
 f332:=Tryz.func166.trans (congrArg some (by kernel_rfl))
 f343:=Tryz.func167.trans (congrArg some (by kernel_rfl))
 t0:=Tryz.underlying0
 a0:=Tryz.isAgg0
 z0:=Tryz.sizeOf0
 v0:=Tryz.zeroValue0
 t3:=Tryz.underlying3
 a3:=Tryz.isAgg3
 z3:=Tryz.sizeOf3
 v3:=Tryz.zeroValue3
 t4:=Tryz.underlying4
 a4:=Tryz.isAgg4
 z4:=Tryz.sizeOf4
 v4:=Tryz.zeroValue4
 t5:=Tryz.underlying5
 a5:=Tryz.isAgg5
 z5:=Tryz.sizeOf5
 v5:=Tryz.zeroValue5
 t9:=Tryz.underlying9
 a9:=Tryz.isAgg9
 z9:=Tryz.sizeOf9
 v9:=Tryz.zeroValue9
 t28:=Tryz.underlying22
 a28:=Tryz.isAgg22
 z28:=Tryz.sizeOf22
 v28:=Tryz.zeroValue22
 t46:=Tryz.underlying131
 a46:=Tryz.isAgg131
 z46:=Tryz.sizeOf131
 v46:=Tryz.zeroValue131
 t51:=Tryz.underlying159
 a51:=Tryz.isAgg159
 z51:=Tryz.sizeOf159
 v51:=Tryz.zeroValue159
 t53:=Tryz.underlying161
 a53:=Tryz.isAgg161
 z53:=Tryz.sizeOf161
 v53:=Tryz.zeroValue161
 t131:=Tryz.underlying49
 a131:=Tryz.isAgg49
 z131:=Tryz.sizeOf49
 v131:=Tryz.zeroValue49
 t182:=Tryz.underlying152
 a182:=Tryz.isAgg152
 z182:=Tryz.sizeOf152
 v182:=Tryz.zeroValue152
 t183:=Tryz.underlying153
 a183:=Tryz.isAgg153
 z183:=Tryz.sizeOf153
 v183:=Tryz.zeroValue153
 t218:=Tryz.underlying166
 a218:=Tryz.isAgg166
 z218:=Tryz.sizeOf166
 v218:=Tryz.zeroValue166
 t222:=Tryz.underlying170
 a222:=Tryz.isAgg170
 z222:=Tryz.sizeOf170
 v222:=Tryz.zeroValue170
 t228:=Tryz.underlying172
 a228:=Tryz.isAgg172
 z228:=Tryz.sizeOf172
 v228:=Tryz.zeroValue172
 t229:=Tryz.underlying173
 a229:=Tryz.isAgg173
 z229:=Tryz.sizeOf173
 v229:=Tryz.zeroValue173}
def Tryz.lays20_ren:Go.Shelf.Ren:=⟨fun | 20=>124 | n=>n,fun | 22=>22 | 3=>3 | 4=>4 | 0=>0 | n=>n,fun | n=>n⟩
theorem Tryz.lays20:Go.Proofs.Lays2.n20 Tryz.prog Tryz.lays20_ren:={
 mixed:=by kernel_rfl
 f20:=Tryz.func124.trans (congrArg some (by kernel_rfl))
 t0:=Tryz.underlying0
 a0:=Tryz.isAgg0
 z0:=Tryz.sizeOf0
 v0:=Tryz.zeroValue0
 t3:=Tryz.underlying3
 a3:=Tryz.isAgg3
 z3:=Tryz.sizeOf3
 v3:=Tryz.zeroValue3
 t4:=Tryz.underlying4
 a4:=Tryz.isAgg4
 z4:=Tryz.sizeOf4
 v4:=Tryz.zeroValue4
 t22:=Tryz.underlying22
 a22:=Tryz.isAgg22
 z22:=Tryz.sizeOf22
 v22:=Tryz.zeroValue22
 i3:=by kernel_rfl}
def Tryz.lays15_ren:Go.Shelf.Ren:=⟨fun | 15=>60 | n=>n,fun | 22=>22 | 3=>3 | 4=>4 | n=>n,fun | n=>n⟩
theorem Tryz.lays15:Go.Proofs.Lays2.n15 Tryz.prog Tryz.lays15_ren:={
 mixed:=by kernel_rfl
 f15:=Tryz.func60.trans (congrArg some (by kernel_rfl))
 t3:=Tryz.underlying3
 a3:=Tryz.isAgg3
 z3:=Tryz.sizeOf3
 v3:=Tryz.zeroValue3
 t4:=Tryz.underlying4
 a4:=Tryz.isAgg4
 z4:=Tryz.sizeOf4
 v4:=Tryz.zeroValue4
 t22:=Tryz.underlying22
 a22:=Tryz.isAgg22
 z22:=Tryz.sizeOf22
 v22:=Tryz.zeroValue22
 i3:=by kernel_rfl}
end Go.Proofs

namespace Go.Ab
open Go
set_option maxRecDepth 100000
open Go.Proofs
def sortI (xs:List Int):List Int:=xs.mergeSort fun x y=>decide (x<=y)
def sortN:Inl:=⟨fun ss h _ K=>match ss with
 | [.acc i ver]=>match getH h i with
  | .acc ver' false 1 L=>bif Nat.beq ver ver' then (decI L).bind fun xs=>bif Nat.ble xs.length 4000000000 then K (.c (.tup [])) (setH h i (.acc ver false 1 (encI (sortI xs)))) else none else none
  | _=>none
 | _=>none⟩
theorem sort_nat:NatN sortN:=fun ss h=>by
 unfold sortN
 dsimp only
 split
 ·split
  ·exact .cond _ (.bind _ fun _ => .cond _ (.ret _ _) .none) .none
  ·exact .none
 ·exact .none
theorem sort_calls (blk cap:Nat) (zs:List Int) (w:World) (hH:Sort.Holds (Value.int .i64) w blk 0 zs.toArray) (hblk:blk<w.heap.size) (hsz:zs.length<4611686018427387904):
  Calls Pr 123 #[.slice (some ⟨blk,0,none⟩) zs.length cap] w fun e w'=>e = .returned (.tuple #[])/\∃ n os,w'=Sort.grow (Sort.putRow (Value.int .i64) (Sort.ahead w n) blk 0 (sortI zs).toArray) os:=
 Any.slices_Sort_int Tryz.lays189 blk 0 cap zs w hH hblk hsz
theorem sort_calls0 (a:Option Addr) (cap:Nat) (w:World):Calls Pr 123 #[.slice a 0 cap] w fun e w'=>e = .returned (.tuple #[])/\w'=w:=
 Any.slices_Sort_int_none Tryz.lays189 a cap w
theorem setH_self:∀ {h:H} {i:Nat} {b:Box},getH h i=b->setH h i b=h
 | [],_,_,_=>rfl
 | c::h,0,b,e=>by
  have:c=b:=e
  subst this;rfl
 | c::h,i+1,b,e=>by
  have:setH (c::h) (i+1) b=c::setH h i b:=rfl
  rw [this,setH_self (h:=h) (i:=i) e]
theorem sort_good:GoodN Pr 123 sortN:=by
 refine ⟨⟨⟨_,Tryz.func123,by kernel_rfl,by kernel_rfl⟩,fun ss h β K r hK => ?_⟩,sort_nat⟩
 unfold sortN at hK
 dsimp only at hK
 split at hK
 ·rename_i i ver
  split at hK
  ·rename_i ver' L hg
   replace hK:=cond_some hK
   obtain ⟨hb,hK⟩:=hK
   have hb:=beq_true hb
   subst hb
   replace hK:=bind_some' hK
   obtain ⟨xs,hx,hK⟩:=hK
   replace hK:=cond_some hK
   obtain ⟨hp,hK⟩:=hK
   have hL:=decI_enc hx
   subst hL
   have hsm:=Nat.le_of_ble_eq_true hp
   refine ⟨_,_,hK,fun ρ X w vs hr hsz hvs => ?_⟩
   have hv0:=hvs 0 (.acc i ver) rfl
   have hvs1:vs=#[vs.getD 0 undef]:=by
    apply Array.ext
    ·simpa using hsz
    ·intro j h1 h2
     have:j=0:=by simp at h2;exact h2
     subst this
     simp [h1]
   rw [hvs1]
   generalize vs.getD 0 undef=v at hv0
   cases hv0 with
   | acc _ _ _ hpl hi hv=>
    have hval:=(hv ver false 1 (encI xs) hg).2 rfl
    have hbx:=hr.box i
    rw [hg] at hbx
    obtain ⟨h0,h1,h2,h3⟩:=hbx
    cases hxe:xs with
    | nil=>
     subst hxe
     have hs:∃ a cap,ρ.cur i = .slice a 0 cap:=by
      rcases h3 with ⟨h3,_⟩ | ⟨b,cap,cur,ty,h3,_⟩
      ·exact ⟨_,_,h3⟩
      ·exact ⟨_,_,h3⟩
     obtain ⟨a,cap,hs⟩:=hs
     rw [hval,hs]
     refine (sort_calls0 a cap w).mono ?_
     rintro e w' ⟨rfl,rfl⟩
     have hh:setH h i (.acc ver false 1 (encI (sortI [])))=h:=setH_self (by rw [hg];simp [sortI])
     rw [hh]
     exact ⟨_,rfl,ρ,hr,.c _ _ (.tup [] #[] rfl fun j x hx=>by simp at hx),Ext.refl _ _ _⟩
    | cons x0 xr=>
    rw [<- hxe]
    rcases h3 with ⟨_,he⟩ | ⟨b,cap,cur,ty,h3,h4,h5,h6,h7⟩
    ·rw [hxe] at he;cases he
    rw [encI_len] at h3
    rw [hval,h3]
    have hH:Sort.Holds (Value.int .i64) w b 0 xs.toArray:=fun j hj=>by
     have hj':j<xs.length:=by simpa using hj
     obtain ⟨u,hu,_,hc⟩:=h7 j 0 (.int .i64 xs[j]) (by simp [at2,encI,hj'])
     cases hc
     have hu:cur[j]? = some (.int .i64 xs[j]):=by simpa using hu
     refine ⟨?_,?_⟩
     ·simp [World.cell?,h4,hu,hj']
     ·simp [World.frozen?,h4]
    refine (sort_calls b cap xs w hH (Array.getElem?_eq_some_iff.1 h4).1 (by omega)).mono ?_
    rintro e w' ⟨rfl,n,os,rfl⟩
    exact ⟨_,rfl,sortPost hr hg (by simp [sortI]) h3 n os⟩
  ·cases hK
 ·cases hK
end Go.Ab

namespace Go.Ab
open Go
set_option maxRecDepth 100000
open Go.Proofs
def zerosTo (xs:List Int):List Int:=Lib.compact xs++List.replicate (xs.length - (Lib.compact xs).length) 0
theorem compact_calls (blk cap:Nat) (zs:List Int) (w:World) (hH:Sort.Holds (Value.int .i64) w blk 0 zs.toArray) (hsz:zs.length<=9223372036854775807) (hcap:zs.length<=cap):
  Calls Pr 124 #[.slice (some ⟨blk,0,none⟩) zs.length cap] w fun e w'=>e = .returned (.slice (some ⟨blk,0,none⟩) (Lib.compact zs).length cap)/\∃ q,w'=Sort.putRow (Value.int .i64) (Sort.ahead w q) blk 0 (zerosTo zs).toArray:=
 Any.slices_Compact_int Tryz.lays20 blk 0 cap zs w hH hsz hcap
theorem compact_calls0 (a:Option Addr) (cap:Nat) (w:World):Calls Pr 124 #[.slice a 0 cap] w fun e w'=>e = .returned (.slice a 0 cap)/\w'=w:=
 Any.slices_Compact_int_empty Tryz.lays20 a cap w
def compactN:Inl:=⟨fun ss h _ K=>match ss with
 | [.acc i ver]=>match getH h i with
  | .acc ver' false 1 L=>bif Nat.beq ver ver' then (decI L).bind fun xs=>bif Nat.ble xs.length 4000000000&&Nat.ble (Lib.compact xs).length xs.length then
    (bif xs.isEmpty then K (.acc i ver) h else K (.sub i ver 0 (Lib.compact xs).length) (setH h i (.acc ver false 1 (encI (zerosTo xs))))) else none else none
  | _=>none
 | _=>none⟩
theorem compact_nat:NatN compactN:=fun ss h=>by
 unfold compactN
 dsimp only
 split
 ·split
  ·exact .cond _ (.bind _ fun _ => .cond _ (.cond _ (.ret _ _) (.ret _ _)) .none) .none
  ·exact .none
 ·exact .none
theorem compact_good:GoodN Pr 124 compactN:=by
 refine ⟨⟨⟨_,Tryz.func124,by kernel_rfl,by kernel_rfl⟩,fun ss h β K r hK => ?_⟩,compact_nat⟩
 unfold compactN at hK
 dsimp only at hK
 split at hK
 ·rename_i i ver
  split at hK
  ·rename_i ver' L hg
   replace hK:=cond_some hK
   obtain ⟨hb,hK⟩:=hK
   have hb:=beq_true hb
   subst hb
   replace hK:=bind_some' hK
   obtain ⟨xs,hx,hK⟩:=hK
   replace hK:=cond_some hK
   obtain ⟨hp,hK⟩:=hK
   have hL:=decI_enc hx
   subst hL
   simp only [Bool.and_eq_true] at hp
   have hsm:=Nat.le_of_ble_eq_true hp.1
   have hcl:=Nat.le_of_ble_eq_true hp.2
   have one:∀ (vs:Array Value) (h1:vs.size=1),vs=#[vs.getD 0 undef]:=fun vs hsz=>by
    apply Array.ext
    ·simpa using hsz
    ·intro j h1 h2
     have:j=0:=by simp at h2;exact h2
     subst this
     simp [h1]
   cases he:xs.isEmpty with
   | true=>
    rw [he,cond_true] at hK
    have he:=List.isEmpty_iff.1 he
    subst he
    refine ⟨_,_,hK,fun ρ X w vs hr hsz hvs => ?_⟩
    have hv0:=hvs 0 (.acc i ver) rfl
    rw [one vs (by simpa using hsz)]
    generalize vs.getD 0 undef=v at hv0
    cases hv0 with
    | acc _ _ _ hpl hi hv=>
     have hval:=(hv ver false 1 (encI []) hg).2 rfl
     have hbx:=hr.box i
     rw [hg] at hbx
     obtain ⟨h0,h1,h2,h3⟩:=hbx
     have hs:∃ a cap,ρ.cur i = .slice a 0 cap:=by
      rcases h3 with ⟨h3,_⟩ | ⟨b,cap,cur,ty,h3,_⟩
      ·exact ⟨_,_,h3⟩
      ·exact ⟨_,_,h3⟩
     obtain ⟨a,cap,hs⟩:=hs
     have hvv:VR ρ h w (Mut ρ X h) (.acc i ver) v := .acc i ver v hpl hi hv
     rw [hval,hs] at hvv ⊢
     refine (compact_calls0 a cap w).mono ?_
     rintro e w' ⟨rfl,rfl⟩
     exact ⟨_,rfl,ρ,hr,hvv,Ext.refl _ _ _⟩
   | false=>
    rw [he,cond_false] at hK
    refine ⟨_,_,hK,fun ρ X w vs hr hsz hvs => ?_⟩
    have hv0:=hvs 0 (.acc i ver) rfl
    rw [one vs (by simpa using hsz)]
    generalize vs.getD 0 undef=v at hv0
    cases hv0 with
    | acc _ _ _ hpl hi hv=>
     have hval:=(hv ver false 1 (encI xs) hg).2 rfl
     have hbx:=hr.box i
     rw [hg] at hbx
     obtain ⟨h0,h1,h2,h3⟩:=hbx
     rcases h3 with ⟨_,hn⟩ | ⟨b,cap,cur,ty,h3,h4,h5,h6,h7⟩
     ·rw [List.map_eq_nil_iff.1 hn] at he;cases he
     rw [encI_len] at h3 h5
     rw [hval,h3]
     have hH:Sort.Holds (Value.int .i64) w b 0 xs.toArray:=fun j hj=>by
      have hj':j<xs.length:=by simpa using hj
      obtain ⟨u,hu,_,hc⟩:=h7 j 0 (.int .i64 xs[j]) (by simp [at2,encI,hj'])
      cases hc
      have hu:cur[j]? = some (.int .i64 xs[j]):=by simpa using hu
      refine ⟨?_,?_⟩
      ·simp [World.cell?,h4,hu,hj']
      ·simp [World.frozen?,h4]
     have hzl:(zerosTo xs).length=xs.length:=by simp [zerosTo];omega
     refine (compact_calls b cap xs w hH (by omega) h5).mono ?_
     rintro e w' ⟨rfl,q,rfl⟩
     have hu:=rowUpd hr hg hzl h3 q #[]
     rw [Sort.grow_empty] at hu
     refine ⟨_,rfl,_,hu.1,.sub i ver 0 _ _ rfl (by simpa using hi) fun ver' fr sz l hl => ?_,hu.2⟩
     rw [getH_setH_same _ hi] at hl
     cases hl
     refine ⟨Nat.le_refl _,fun _=>⟨by rw [encI_len,hzl];omega,some ⟨b,0,none⟩,cap,cap,0,?_,by omega,by omega,by omega,fun _=>by omega,?_⟩⟩
     ·rw [encI_len,hzl];simpa using h3
     ·simp [Addr.add]
  ·cases hK
 ·cases hK
end Go.Ab

namespace Go.Ab
open Go
set_option maxRecDepth 100000
open Go.Proofs
noncomputable abbrev k32:Cx:=cxG Pr Tryz.f81 [(85,gAllI)] [(123,sortN),(124,compactN)]
theorem r32 (ls:List Ls) (β:Type) (K:CV->List (List CV)->Option β):fnK k32 Tryz.f81 [cLss.enc ls] [] K=
 Option.bind (decLs (List.map encLs ls)) fun a=>
 bif smLs a then
 Option.bind (decI (encI (catI a))) fun xs=>
 bif Nat.ble (List.length xs) 4000000000 then
 Option.bind (decI (encI (sortI xs))) fun xs_1=>
 bif Nat.ble (List.length xs_1) 4000000000&&Nat.ble (List.length (Lib.compact xs_1)) (List.length xs_1) then
 bif List.isEmpty xs_1 then
 K (CV.bool ((↑(List.length (encI (sortI xs))):Int)==(↑(List.length (encI (catI a))):Int))) []
 else K (CV.bool ((↑(List.length (Lib.compact xs_1)):Int)==(↑(List.length (encI (catI a))):Int))) []
 else none
 else none
 else none:=by kernel_rfl
theorem compact_le (zs:List Int):(Lib.compact zs).length<=zs.length:=by
 unfold Lib.compact Lib.compactUpTo
 rw [List.length_map]
 exact Nat.le_trans (List.length_filter_le _ _) (by simp)
theorem sortI_len (xs:List Int):(sortI xs).length=xs.length:=by simp [sortI]
theorem catI_len:∀ {ls:List Ls},ls.all smL=true->(catI ls).length<=300000*ls.length
 | [],_=>by simp [catI]
 | l::ls,h=>by
  simp only [List.all_cons,Bool.and_eq_true] at h
  obtain ⟨l1,l2,l3⟩:=smL_le h.1
  have ih:=catI_len h.2
  rw [show catI (l::ls)=one3 l++catI ls from rfl]
  simp only [one3,List.length_append,List.length_cons]
  omega
def apartV (ls:List Ls):Bool:=Nat.beq (Lib.compact (sortI (catI ls))).length (catI ls).length
def gApart:Callee:=g1 cLss smLs fun ls=>cB.enc (apartV ls)
theorem apart_good:GoodC Pr 81 gApart:=
 good1 ((CxOK.baseG (Good.cons catI_good Good.nil) (GoodI.cons sort_good (GoodI.cons compact_good GoodI.nil)) (eqOK_none fun _=>rfl)).sound (cx:=k32) Tryz.func81 (by kernel_rfl) (by kernel_rfl) rfl (by kernel_rfl)) fun ls hp β K=>by
  obtain ⟨h1,h2⟩:=smLs_le hp
  have hc:=catI_len h2
  rw [r32]
  simp only [decLs_map,Option.bind_some,hp,cond_true,decI_map,sortI_len,Nat.ble_eq_true_of_le (show (catI ls).length<=4000000000 by omega),Bool.and_self,Nat.ble_eq_true_of_le (show (Lib.compact (sortI (catI ls))).length<=(catI ls).length from sortI_len (catI ls) ▸ compact_le _),encI_len,beq_nat]
  cases e1:(sortI (catI ls)).isEmpty with
  | false=>rw [cond_false];rfl
  | true=>
   have e2:=List.isEmpty_iff.1 e1
   have e3:catI ls=[]:=by
    have:=sortI_len (catI ls)
    rw [e2] at this
    exact List.eq_nil_of_length_eq_zero this.symm
   unfold apartV
   rw [cond_true,e2,e3]
   rfl
end Go.Ab
