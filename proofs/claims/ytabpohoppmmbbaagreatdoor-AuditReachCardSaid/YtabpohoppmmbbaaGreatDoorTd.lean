/- Pages: what the program's functions come to.
pages.May.
pages.Count.
pages.Count: its contract.
pages.May.
pages.May: the loop's answer.
Struct types whose cells are numbers: '=='.
ragpickerref04.May: the inner loop.
ragpickerref04.May: the inner loop's answer.
ragpickerref04.May: the inner loop's answer.
ragpickerref04.May.
ragpickerref04.May: the outer loop.
ragpickerref04.May: the outer loop's answer.
ragpickerref04.May: it is as pages.May.
ragpickerref04.May: its contract.
Small functions of cells and class.
cells.on: its iterator.
cells.On.
cells.all: its iterator.
cells.all: its iterator's contract.
cells.On,cells.All: their contracts.
cells.first;cells.Room,Start,Next.
cells.first;cells.Room,Start,Next: their contracts.
ragpickerref01.Ints;awake.
What the laws on cells call.
Cells in rows: what is found among them.
Codes of values;what pages' cells are,by definition.
ragpickerref03.Words,ragpickerref05.Begins,All,On,Start,Next: what they come to.
Pages that are taken and dropped,by themselves.
pages.Clone,put,free,Small,Drop;what the laws on cells call.
'==' of heads: three truths,three numbers.
Heads: head.in,bit,May,pack,Unpack;arena.pages,May.
arena.pages,May,part,Zero.
class.Words,Cells;lists.is,own,Push,Part.
class.Of,Run;heap.shaped,word,page,fits.
What heap hands to slices' functions: closures;what these come to.
slices.ContainsFunc,heap.every,listed.
Trial: reap.
lists.All.
slices.Sort in place: what its contract says,of a box.
The numbers of the shelf's functions at this program: slices.Sort,slices.Compact,slices.Clone (written by lay-plain).
slices.Sort,gone into: by the shelf's contract,laid at home.
slices.Compact,gone into: by the shelf's contract,laid at home.
slices.Clone of any list: the empty ones by the shelf's contracts,laid at home.
slices.Clone of operations: the empty ones.
lists.Apart.
heap.May.
CellsStart comes to true.
CellsRooms,CellsOn: their loops.
heap.Head.
reap: begun,back,push;trial of Flush.
reap.Flush: its loop over pages.
reap.Flush.
reap.Flush's contract.
reap.Free.
few,Light,Few;Same of pages.
heap.Whole.
awake.
Flush,in plain words: which pages go,and which cells.
Two caches that are flushed,one behind the other,or both at once.
Flush keeps what may be;two caches that are flushed,one behind the other,or both at once.
Two caches that are flushed,one behind the other,leave what both at once do.
What an object's room that is given back leaves: pages and words.
What may be may be behind an object that is given back.
heap.Free's result: what goes,what stays.
Of two objects that are given back the order does not matter.
What is reached,by a list of what is still to be gone through.
An object lies within its cell;what is reached. -/
import Derived.Test.YtabpohoppmmbbaaGreatDoorTc
import Derived.Test.YtabpohoppmmbbaaGreatDoorProg
import Derived.IntWalk
import Derived.Sort.Grow
import Derived.Sort.Row
import Derived.Shelf.Sort.Plain
import Derived.Shelf.Slices.In.SortNone
import Derived.Shelf.Slices.CompactI
import Derived.Shelf.Slices.Clone
import Derived.WalkKit
import Derived.Lib.Walk
import Derived.Lib.SliceRun
import Derived.Shelf.RegionOpenPlain
import Derived.Deep.LoopGhost
import Derived.Shelf.Lays2
namespace Go.Ab
open Go
set_option maxRecDepth 100000
noncomputable def cxP (n:Nat) (root:Code) (Γ:FuncId->Option Callee) (Λ:Nat->Option LoopSem) (wr:Nat->Bool):Cx:=
 {P:=Go.Proofs.Tryz.prog,nt:=n,Γ:=Γ,Λ:=Λ,un:=fun _=>false,root:=root,wr:=wr,eqT:=fun _=>false}
def Γ1:FuncId->Option Callee:=fun f=>bif Nat.beq f 203 then some gIn else none
end Go.Ab

namespace Go.Ab
open Go
set_option maxRecDepth 100000
theorem in_nat:NatC gIn:=fun args conts=>by
 unfold gIn
 dsimp only
 split
 ·exact .ret _ _
 ·exact .none
theorem Γ1_nat:∀ f g,Γ1 f=some g->NatC g:=fun f g h=>by
 unfold Γ1 at h
 obtain ⟨_,rfl⟩:=cond_some1 h
 exact in_nat
noncomputable def cx24:Cx:=cxP 15 (bodyOf Go.Proofs.Tryz.f203) (fun _=>none) (fun _=>none) (fun _=>false)
theorem in_step (a b c:Int) (β:Type) (K:CV->List (List CV)->Option β):fnK cx24 Go.Proofs.Tryz.f203 [.int .i64 a,.int .i64 b,.int .i64 c] [] K=
 cond (decide (a>=b)) (K (.bool (decide (a<=c))) []) (K (.bool false) []):=by kernel_rfl
theorem in_sound:SoundC Go.Proofs.Tryz.prog 203 gIn:=
 SoundC.of (fnSound (cx:=cx24) (fn:=Go.Proofs.Tryz.f203) (fun f g h=>by cases h) (fun f g h=>by cases h) (eqOK_none fun _=>rfl) (fun p L b h=>by cases h) (fun q L h=>by cases h) Go.Proofs.Tryz.func203 (by kernel_rfl) (by kernel_rfl) (by kernel_rfl) (Nat.le_of_ble_eq_true (by kernel_rfl)))
  fun args conts β K r h=>by
   unfold gIn at h
   dsimp only at h
   split at h
   ·rename_i a b c
    rw [fnC_run,in_step]
    cases hq:decide (a>=b) <;> simp only [hq,cond_true,cond_false] at h ⊢ <;> exact h
   ·cases h
theorem Γ1_sound:∀ f g,Γ1 f=some g->SoundC Go.Proofs.Tryz.prog f g:=fun f g h=>by
 unfold Γ1 at h
 obtain ⟨hb,rfl⟩:=cond_some1 h
 have:=beq_true hb
 subst this
 exact in_sound
end Go.Ab

namespace Go.Ab
open Go
set_option maxRecDepth 100000
abbrev Pg:=Int×Int
def encP (p:Pg):List CV:=[.int .i64 p.1,.int .i64 p.2]
def dec2:List CV->Option Pg
 | [.int .i64 a,.int .i64 b]=>some (a,b)
 | _=>none
theorem dec2_enc {l:List CV} {p:Pg} (h:dec2 l=some p):l=encP p:=by
 unfold dec2 at h
 split at h
 ·cases h;rfl
 ·cases h
def decP (L:List (List CV)):Option (List Pg):=mapO dec2 L
theorem decP_enc:∀ {L:List (List CV)} {ps:List Pg},decP L=some ps->L=ps.map encP
 | [],ps,h=>by
  simp only [decP,mapO,Option.some.injEq] at h
  subst h
  rfl
 | l::L,ps,h=>by
  simp only [decP,mapO] at h
  obtain ⟨p,hp,h⟩:=bind_some' h
  obtain ⟨qs,hq,h⟩:=bind_some' h
  cases h
  rw [dec2_enc hp,decP_enc (ps:=qs) hq]
  rfl
@[simp] theorem decP_map (ps:List Pg):decP (ps.map encP)=some ps:=by
 induction ps with
 | nil=>rfl
 | cons p ps ih=>
  simp only [decP] at ih
  simp [decP,mapO,encP,dec2,ih]
theorem rdE_map {ps:List Pg} {i:Nat} (h:i<ps.length) {γ:Type} (f:List CV->Option γ):(rdE (ps.map encP) (i:Int)).bind f=f (encP ps[i]):=by
 simp [rdE,h]
def SMALL:Nat:=1152921504606846976
end Go.Ab

namespace Go.Ab
open Go
set_option maxRecDepth 100000
theorem decP_len {L:List (List CV)} {ps:List Pg} (h:decP L=some ps):L.length=ps.length:=by rw [decP_enc h];simp
end Go.Ab

namespace Go.Ab
open Go
set_option maxRecDepth 100000
def mayGo:Int->List Pg->Option Int
 | rest,[]=>some rest
 | rest,p::ps=>cond (p.1==3) (cond (rest==0) none (cond (p.2 != 0) none (mayGo (rest - 1) ps)))
   (cond (p.1==0) (cond (p.2 != 0) none (cond (decide (rest>0)) none (mayGo rest ps)))
    (cond (p.1==1) (cond (!(cond (decide (p.2>=0)) (decide (p.2<=2)) false)) none (cond (decide (rest>0)) none (mayGo rest ps)))
     (cond (p.1==2) (cond (!(cond (decide (p.2>=1)) (decide (p.2<=4)) false)) none (cond (decide (rest>0)) none (mayGo (p.2 - 1) ps))) none)))
def may (ps:List Pg):Bool:=match mayGo 0 ps with
 | some r=>cond (r==0) (cond (decide ((ps.length:Int)>=1)) (decide ((ps.length:Int)<=64)) false) false
 | none=>false
noncomputable abbrev body13:Code:=(codeAt (bodyOf Go.Proofs.Tryz.f128) [false,false,true,false,true,true]).getD .skip
def outs13:Exit->List Nat:=fun e=>match e with | .ret=>[2] | _=>[3,0]
def loop13:LoopSem:=⟨[3,8,6,7,0],outs13,fun vs cs _ K=>match vs,cs with
 | [.int .i64 r,.int .i64 i,.sl 2 L,.int .i64 len,.sl 2 L'],[]=>(decP L).bind fun ps=>(decP L').bind fun ps'=>bif decide (r=0)&&decide (i=0)&&decide (len=(ps.length:Int))&&Nat.ble ps.length SMALL then (match mayGo 0 ps with
   | some r'=>K (.exit 0) [.int .i64 r',.sl 2 (ps'.map encP)] []
   | none=>K .ret [.bool false] []) else none
 | _,_=>none⟩
noncomputable def cx13:Cx:=cxP 58 (bodyOf Go.Proofs.Tryz.f128) Γ1 (fun q=>bif Nat.beq q 58 then some loop13 else none) (fun _=>false)
noncomputable def LB13 (L:List (List CV)) (len:Int) (L':List (List CV)) (β:Type) (K:Exit->List CV->List (List CV)->Option β) (n:Nat) (rest i:Int):Option β:=
 loopB cx13 [3,8,6,7,0] outs13 [false,true,false,true,true] body13 n [.int .i64 rest,.int .i64 i,.sl 2 L,.int .i64 len,.sl 2 L'] [] K
theorem step13 (L L':List (List CV)) (len:Int) (β:Type) (K:Exit->List CV->List (List CV)->Option β) (n:Nat) (rest i:Int):LB13 L len L' β K (n+1) rest i=
 cond (decide (i<len)) ((rdE L i).bind fun c=>(c[0]?).bind fun x=>(asI .i64 x).bind fun a=>(c[1]?).bind fun x=>(asI .i64 x).bind fun b=>cond (a==3) (cond (rest==0) (K .ret [.bool false] []) (cond (b != 0) (K .ret [.bool false] []) (LB13 L len L' β K n (IntKind.i64.wrap (rest - 1)) (IntKind.i64.wrap (i+1))))) (cond (a==0) (cond (b != 0) (K .ret [.bool false] []) (cond (decide (rest>0)) (K .ret [.bool false] []) (cond (a==2) (LB13 L len L' β K n (IntKind.i64.wrap (b - 1)) (IntKind.i64.wrap (i+1))) (LB13 L len L' β K n rest (IntKind.i64.wrap (i+1)))))) (cond (a==1) (cond (!(cond (decide (b>=0)) (decide (b<=2)) false)) (K .ret [.bool false] []) (cond (decide (rest>0)) (K .ret [.bool false] []) (cond (a==2) (LB13 L len L' β K n (IntKind.i64.wrap (b - 1)) (IntKind.i64.wrap (i+1))) (LB13 L len L' β K n rest (IntKind.i64.wrap (i+1)))))) (cond (a==2) (cond (!(cond (decide (b>=1)) (decide (b<=4)) false)) (K .ret [.bool false] []) (cond (decide (rest>0)) (K .ret [.bool false] []) (cond (a==2) (LB13 L len L' β K n (IntKind.i64.wrap (b - 1)) (IntKind.i64.wrap (i+1))) (LB13 L len L' β K n rest (IntKind.i64.wrap (i+1)))))) (K .ret [.bool false] []))))) (K (.exit 0) [.int .i64 rest,.sl 2 L'] []):=by kernel_rfl
end Go.Ab

namespace Go.Ab
open Go
set_option maxRecDepth 100000
theorem loop13_spec (ps:List Pg) (L':List (List CV)) (hs:ps.length<=SMALL) (β:Type) (K:Exit->List CV->List (List CV)->Option β):∀ (n i:Nat) (rest:Int),ps.length - i<=n->i<=ps.length->0<=rest->rest<=3->
  LB13 (ps.map encP) (ps.length:Int) L' β K (n+1) rest i=match mayGo rest (ps.drop i) with
   | some r'=>K (.exit 0) [.int .i64 r',.sl 2 L'] []
   | none=>K .ret [.bool false] []:=by
 intro n
 have hS:SMALL=1152921504606846976:=rfl
 have fin:∀ (n i:Nat) (rest:Int),i=ps.length->LB13 (ps.map encP) (ps.length:Int) L' β K (n+1) rest i=match mayGo rest (ps.drop i) with
   | some r'=>K (.exit 0) [.int .i64 r',.sl 2 L'] []
   | none=>K .ret [.bool false] []:=fun n i rest hi=>by
  subst hi
  rw [step13]
  simp [mayGo]
 induction n with
 | zero=>exact fun i rest hn hi _ _=>fin 0 i rest (by omega)
 | succ n ih=>
  intro i rest hn hi h0 h3
  by_cases hl:i<ps.length
  ·rw [step13]
   have e1:decide ((i:Int)<(ps.length:Int))=true:=by simp;omega
   rw [e1,cond_true,rdE_map hl]
   have w1:IntKind.i64.wrap ((i:Int)+1)=((i+1:Nat):Int):=by rw [IntWalk.i64_in];simp;omega
   have hd:ps.drop i=ps[i]::ps.drop (i+1):=List.drop_eq_getElem_cons hl
   rw [hd]
   generalize ps[i]=p
   obtain ⟨a,b⟩:=p
   simp only [encP,List.getElem?_cons_zero,List.getElem?_cons_succ,Option.bind_some,asI,if_true,w1,mayGo]
   have IH:=fun rest h0 h3=>ih (i+1) rest (by omega) (by omega) h0 h3
   cases ha3:a==3 with
   | true=>
    simp only [cond_true]
    cases hr:rest==0 with
    | true=>rfl
    | false=>
     simp only [cond_false]
     cases hb:b != 0 with
     | true=>rfl
     | false=>
      simp only [cond_false]
      have hr':rest≠0:=by simpa using hr
      rw [IntWalk.i64_in (rest - 1) (by omega)]
      exact IH (rest - 1) (by omega) (by omega)
   | false=>
    simp only [cond_false]
    cases ha0:a==0 with
    | true=>
     have ha:a=0:=by simpa using ha0
     subst ha
     simp only [cond_true]
     cases hb:b != 0 with
     | true=>rfl
     | false=>
      cases hr:decide (rest>0) with
      | true=>rfl
      | false=>exact IH rest h0 h3
    | false=>
     simp only [cond_false]
     cases ha1:a==1 with
     | true=>
      have ha:a=1:=by simpa using ha1
      subst ha
      simp only [cond_true]
      cases hb : !(bif decide (b>=0) then decide (b<=2) else false) with
      | true=>rfl
      | false=>
       cases hr:decide (rest>0) with
       | true=>rfl
       | false=>exact IH rest h0 h3
     | false=>
      simp only [cond_false]
      cases ha2:a==2 with
      | true=>
       simp only [cond_true]
       cases hb : !(bif decide (b>=1) then decide (b<=4) else false) with
       | true=>rfl
       | false=>
        have hb':1<=b/\b<=4:=by
         by_cases h1:b>=1
         ·simp [h1] at hb;exact ⟨h1,hb⟩
         ·simp [h1] at hb
        cases hr:decide (rest>0) with
        | true=>rfl
        | false=>
         simp only [cond_false]
         rw [IntWalk.i64_in (b - 1) (by omega)]
         exact IH (b - 1) (by omega) (by omega)
      | false=>rfl
  ·exact fin (n+1) i rest (by omega)
theorem loop13_nat:NatL loop13:=fun vs cs=>by
 unfold loop13
 dsimp only
 split
 ·refine .bind _ fun _ => .bind _ fun _ => .cond _ ?_ .none
  split
  ·exact .ret _ _ _
  ·exact .ret _ _ _
 ·exact .none
theorem loops13:LoopsS cx13 := .of fun k L h=>by
 obtain ⟨hk,rfl⟩:=cond_some2 h
 refine ⟨[false,true,false,true,true],beq_true hk,fun vs cs β K r hr => ?_⟩
 unfold loop13 at hr
 dsimp only at hr
 split at hr
 ·rename_i m i L len L'
  replace hr:=bind_some' hr
  obtain ⟨ps,hps,hr⟩:=hr
  replace hr:=bind_some' hr
  obtain ⟨ps',hps',hr⟩:=hr
  replace hr:=cond_some hr
  obtain ⟨hb,hr⟩:=hr
  simp only [Bool.and_eq_true,decide_eq_true_eq] at hb
  obtain ⟨⟨⟨rfl,rfl⟩,rfl⟩,hs⟩:=hb
  have hs:=Nat.le_of_ble_eq_true hs
  rw [decP_enc hps,decP_enc hps']
  refine ⟨ps.length+1,?_⟩
  have:=loop13_spec ps (ps'.map encP) hs β K ps.length 0 0 (by omega) (by omega) (by omega) (by omega)
  rw [List.drop_zero] at this
  exact this.trans hr
 ·cases hr
theorem step13f (L:List (List CV)) (β:Type) (K:CV->List (List CV)->Option β):fnK cx13 Go.Proofs.Tryz.f128 [.sl 2 L] [] K=
 (decP L).bind fun ps=>(decP L).bind fun ps'=>bif true&&true&&decide ((L.length:Int)=(ps.length:Int))&&Nat.ble ps.length SMALL then (match mayGo 0 ps with | some r'=>cond (r'==0) (K (.bool (cond (decide (((ps'.map encP).length:Int)>=1)) (decide (((ps'.map encP).length:Int)<=64)) false)) []) (K (.bool false) []) | none=>K (.bool false) []) else none:=by kernel_rfl
def gMay:Callee:=⟨fun args conts _ K=>match args,conts with
 | [.sl 2 L],[]=>(decP L).bind fun ps=>bif Nat.ble ps.length SMALL then K (.bool (may ps)) [] else none
 | _,_=>none⟩
theorem may_nat:NatC gMay:=fun args conts=>by
 unfold gMay
 dsimp only
 split
 ·exact .bind _ fun _ => .cond _ (.ret _ _) .none
 ·exact .none
theorem may_sound:SoundC Go.Proofs.Tryz.prog 128 gMay:=
 SoundC.of (fnSound (cx:=cx13) (fn:=Go.Proofs.Tryz.f128) Γ1_sound Γ1_nat (eqOK_none fun _=>rfl) loops13 (fun q L h=>by obtain ⟨_,rfl⟩:=cond_some2 h;exact loop13_nat)
  Go.Proofs.Tryz.func128 (by kernel_rfl) (by kernel_rfl) (by kernel_rfl) (Nat.le_of_ble_eq_true (by kernel_rfl)))
  fun args conts β K r h=>by
   unfold gMay at h
   dsimp only at h
   split at h
   ·rename_i L
    replace h:=bind_some' h
    obtain ⟨ps,hps,h⟩:=h
    replace h:=cond_some h
    obtain ⟨hs,h⟩:=h
    rw [fnC_run,step13f,hps]
    simp only [Option.bind_some,decP_len hps,hs,decide_true,Bool.and_self,cond_true,List.length_map]
    rw [<- h]
    unfold may
    cases mayGo 0 ps with
    | none=>rfl
    | some r'=>cases hr:r'==0 <;> simp [hr]
   ·cases h
end Go.Ab

namespace Go.Ab
open Go
set_option maxRecDepth 100000
theorem kindV_ints {P:Program}:∀ {ts:List TypeId} {vs:List Value},(∀ t∈ts,∃ k,P.underlying t=some (.int k))->kindV P ts vs=true->∃ l:List (IntKind×Int),vs=l.map (fun p => .int p.1 p.2)/\l.length=ts.length
 | [],[],_,_=>⟨[],rfl,rfl⟩
 | [],_::_,_,h=>by simp [kindV] at h
 | _::_,[],_,h=>by simp [kindV] at h
 | t::ts,v::vs,hk,h=>by
  obtain ⟨k,ht⟩:=hk t (by simp)
  simp only [kindV,Bool.and_eq_true,ht] at h
  obtain ⟨l,rfl,hl⟩:=kindV_ints (fun t h=>hk t (by simp [h])) h.2
  have h1:=h.1
  split at h1
  ·rename_i _ b n _
   exact ⟨(b,n)::l,by simp,by simp [hl]⟩
  ·rename_i hq;cases hq
  ·cases h1
theorem run_equalIn_int {P:Program} {t:TypeId} {k:IntKind} (hu:P.underlying t=some (.int k)) (d:Nat) (c:IntKind) (a b:Int) (w:World):(Op.equalIn (d+1) t (.int c a) (.int c b)).run P w = .ok (a==b) w:=by
 simp [Op.equalIn,run_underlying hu]
theorem run_part0 {P:Program} {t:TypeId} {k:IntKind} (h:P.underlying t=some (.int k)) (a:Array Value) (i:Nat) (v:Value) (hv:a[i]? = some v) (w:World):(part t a i).run P w = .ok v w:=by
 simp [part,run_isAgg h,aggD,hv]
theorem eqIn_two {P:Program} {t:TypeId} {f0 f1:Field} {k0 k1:IntKind} (hs:P.underlying t=some (.struct #[f0,f1])) (hst:P.stoodInHeld t=false) (n0:f0.name ≠ "_") (n1:f1.name ≠ "_") (o0:f0.offset=0) (o1:f1.offset=1)
  (h0:P.underlying f0.type=some (.int k0)) (h1:P.underlying f1.type=some (.int k1)) (d:Nat) (a b:IntKind) (x x' y y':Int) (w:World):
  (Op.equalIn (d+2) t (.agg #[.int a x,.int b y]) (.agg #[.int a x',.int b y'])).run P w = .ok (x==x'&&y==y') w:=by
 have p0:=fun v u=>run_part0 h0 #[.int a v,.int b u] 0 (.int a v) rfl w
 have p1:=fun v u=>run_part0 h1 #[.int a v,.int b u] 1 (.int b u) rfl w
 have q0:=run_equalIn_int h0 d a x x' w
 have q1:=run_equalIn_int h1 d b y y' w
 rw [show d+2=(d+1)+1 from rfl]
 unfold Op.equalIn
 cases hx:x==x' <;> cases hy:y==y' <;> rw [hx] at q0 <;> rw [hy] at q1 <;> simp [run_underlying hs,hst,n0,n1,o0,o1,p0,p1,q0,q1]
theorem eq_two {P:Program} {t:TypeId} {f0 f1:Field} {k0 k1:IntKind} (hs:P.underlying t=some (.struct #[f0,f1])) (hst:P.stoodInHeld t=false) (n0:f0.name ≠ "_") (n1:f1.name ≠ "_") (o0:f0.offset=0) (o1:f1.offset=1)
  (h0:P.underlying f0.type=some (.int k0)) (h1:P.underlying f1.type=some (.int k1)) (hf:flatT P 8 t=[f0.type,f1.type]) (vs us:Array Value) (r:Bool) (w:World)
  (hv:kindV P (flatT P 8 t) vs.toList=true) (hu:kindV P (flatT P 8 t) us.toList=true) (he:eqVals vs.toList us.toList=some r):(Op.equal t (.agg vs) (.agg us)).run P w = .ok r w:=by
 rw [hf] at hv hu
 have hk:∀ t∈[f0.type,f1.type],∃ k,P.underlying t=some (.int k):=fun t ht=>by
  simp at ht
  rcases ht with rfl | rfl
  ·exact ⟨_,h0⟩
  ·exact ⟨_,h1⟩
 obtain ⟨vl⟩:=vs
 obtain ⟨ul⟩:=us
 obtain ⟨l,hvl,hl⟩:=kindV_ints hk hv
 obtain ⟨m,hul,hm⟩:=kindV_ints hk hu
 match l,m,hl,hm with
 | [(a,x),(b,y)],[(a',x'),(b',y')],_,_=>
  dsimp only at hvl hul he
  subst hvl hul
  simp only [List.map_cons,List.map_nil,eqVals] at he
  obtain ⟨ha,he⟩:=ite_some he
  replace he:=bind_some' he
  obtain ⟨t1,ht1,he⟩:=he
  obtain ⟨hb,ht1⟩:=ite_some ht1
  simp only [Option.bind_some,Option.some.injEq,Bool.and_true] at ht1 he
  rw [<- he,<- ht1,ha,hb]
  exact eqIn_two hs hst n0 n1 o0 o1 h0 h1 9998 a' b' x x' y y' w
end Go.Ab

namespace Go.Ab
open Go
set_option maxRecDepth 100000
theorem eqOK_page {cx:Cx} (hP:cx.P=Go.Proofs.Tryz.prog) (h:cx.eqT=fun t=>Nat.beq t 107):EqOK cx:=fun t ht=>by
 rw [h] at ht
 have:=beq_true ht
 subst this
 rw [hP]
 refine ⟨by kernel_rfl,fun vs us r w hv hu he => ?_⟩
 obtain ⟨f0,f1,h1,h2,h3,h4,h5,h6,h7,h8⟩:∃ f0 f1:Field,Go.Proofs.Tryz.prog.underlying 107=some (.struct #[f0,f1])/\f0.name ≠ "_" /\ f1.name ≠ "_" /\ f0.offset=0/\f1.offset=1/\Go.Proofs.Tryz.prog.underlying f0.type=some (.int .i64)/\
   Go.Proofs.Tryz.prog.underlying f1.type=some (.int .i64)/\flatT Go.Proofs.Tryz.prog 8 107=[f0.type,f1.type]:=⟨_,_,Go.Proofs.Tryz.underlying107,by decide,by decide,rfl,rfl,by kernel_rfl,by kernel_rfl,by kernel_rfl⟩
 exact eq_two h1 (by kernel_rfl) h2 h3 h4 h5 h6 h7 h8 vs us r w hv hu he
def eat:Nat->List Pg->Option (List Pg)
 | 0,ps=>some ps
 | _+1,[]=>none
 | n+1,p::ps=>cond (p.1==3&&(p.2==0&&true)) (eat n ps) none
end Go.Ab

namespace Go.Ab
open Go
set_option maxRecDepth 100000
end Go.Ab

namespace Go.Ab
open Go
set_option maxRecDepth 100000
end Go.Ab

namespace Go.Ab
open Go
set_option maxRecDepth 100000
def one14 (p:Pg):Option Nat:=
 cond (p.1==0&&p.2==0) (some 0) (cond (p.1==1&&decide (p.2>=0)&&decide (p.2<=2)) (some 0)
  (cond (p.1 != 2 || decide (p.2<1) || decide (p.2>4)) none (some (p.2 - 1).toNat)))
def mayR:Nat->List Pg->Bool
 | _,[]=>true
 | 0,_::_=>false
 | n+1,p::ps=>match one14 p with
  | none=>false
  | some k=>match eat k ps with
   | none=>false
   | some rest=>mayR n rest
end Go.Ab

namespace Go.Ab
open Go
set_option maxRecDepth 100000
end Go.Ab

namespace Go.Ab
open Go
set_option maxRecDepth 100000
theorem eat_len:∀ (k:Nat) (ps rest:List Pg),eat k ps=some rest->rest=ps.drop k/\k<=ps.length
 | 0,ps,rest,h=>by
  simp only [eat,Option.some.injEq] at h
  exact ⟨by simp [h],Nat.zero_le _⟩
 | k+1,[],rest,h=>by simp [eat] at h
 | k+1,p::ps,rest,h=>by
  simp only [eat] at h
  replace h:=cond_some h
  obtain ⟨_,h⟩:=h
  obtain ⟨h1,h2⟩:=eat_len k ps rest h
  exact ⟨by simp [h1],by simp;omega⟩
end Go.Ab

namespace Go.Ab
open Go
set_option maxRecDepth 100000
theorem mayGo_eat:∀ (r:Nat) (ps:List Pg),(mayGo r ps==some 0)=match eat r ps with | some rest=>(mayGo 0 rest==some 0) | none=>false
 | 0,ps=>rfl
 | r+1,[]=>by
  have h:¬ ((r:Int)+1=0):=by omega
  simp [mayGo,eat,h]
 | r+1,p::ps=>by
  have ih:=mayGo_eat r ps
  have h0:(((r+1:Nat):Int)==0)=false:=beq_false_of_ne (by omega)
  have h1:decide (((r+1:Nat):Int)>0)=true:=decide_eq_true (by omega)
  have h2:((r+1:Nat):Int) - 1=(r:Int):=by omega
  simp only [mayGo,eat,h0,h1,h2,cond_false,cond_true]
  cases p.1==3 with
  | true=>
   simp only [cond_true,Bool.true_and,Bool.and_true]
   cases h:p.2==0 with
   | true=>simp only [bne,h,Bool.not_true,cond_false,cond_true];exact ih
   | false=>simp [bne,h]
  | false=>
   simp only [cond_false,Bool.false_and]
   cases p.1==0 <;> cases p.1==1 <;> cases p.1==2 <;> cases p.2 != 0 <;> cases (bif decide (p.2>=0) then decide (p.2<=2) else false) <;> cases (bif decide (p.2>=1) then decide (p.2<=4) else false) <;> rfl
theorem mayR_iff:∀ (n:Nat) (ps:List Pg),ps.length<=n->mayR n ps=(mayGo 0 ps==some 0)
 | n,[],_=>by cases n <;> rfl
 | 0,_::_,h=>by simp at h
 | n+1,(a,b)::ps,h=>by
  have hl:ps.length<=n:=by simpa using h
  simp only [mayR,mayGo,one14]
  by_cases h3:a=3
  ·subst h3
   rfl
  ·have e3:(a==3)=false:=by simpa using h3
   by_cases h0:a=0
   ·subst h0
    by_cases hb:b=0
    ·subst hb
     exact mayR_iff n ps hl
    ·have eb:(b==0)=false:=by simpa using hb
     simp only [bne,eb]
     rfl
   ·have e0:(a==0)=false:=by simpa using h0
    by_cases h1:a=1
    ·subst h1
     by_cases hb:0<=b/\b<=2
     ·obtain ⟨hb1,hb2⟩:=hb
      have d1:decide (b>=0)=true:=by simpa using hb1
      have d2:decide (b<=2)=true:=by simpa using hb2
      simp only [d1,d2]
      exact mayR_iff n ps hl
     ·have hb':(decide (b>=0)&&decide (b<=2))=false:=by simpa using hb
      have h':(bif decide (b>=0) then decide (b<=2) else false)=false:=by
       cases h:decide (b>=0) <;> simp [h] at hb' ⊢
       exact hb'
      simp only [h',Bool.and_assoc,hb']
      rfl
    ·have e1:(a==1)=false:=by simpa using h1
     by_cases h2:a=2
     ·subst h2
      by_cases hb:1<=b/\b<=4
      ·obtain ⟨hb1,hb2⟩:=hb
       have e1:b - 1=((b - 1).toNat:Int):=by omega
       have hg:=mayGo_eat (b - 1).toNat ps
       rw [<- e1] at hg
       have d1:decide (b<1)=false:=by simp;omega
       have d2:decide (b>4)=false:=by simp;omega
       have d3:decide (b>=1)=true:=by simp;omega
       have d4:decide (b<=4)=true:=by simp;omega
       simp only [d1,d2,d3,d4]
       refine Eq.trans ?_ hg.symm
       show (match eat (b - 1).toNat ps with | none=>false | some rest=>mayR n rest)=_
       cases he:eat (b - 1).toNat ps with
       | none=>rfl
       | some rest=>
        obtain ⟨hr,_⟩:=eat_len _ _ _ he
        exact mayR_iff n rest (by rw [hr,List.length_drop];omega)
      ·have h':(bif decide (b>=1) then decide (b<=4) else false)=false:=by
        by_cases h:1<=b <;> simp [h]
        omega
       have h2:(decide (b<1) || decide (b>4))=true:=by simp;omega
       simp only [h',Bool.or_assoc,h2]
       rfl
     ·have e2:(a==2)=false:=by simpa using h2
      simp only [e0,e1,e2,e3,bne]
      rfl
theorem may_eq (ps:List Pg):may ps=cond (decide ((ps.length:Int)<1)) false (cond (decide ((ps.length:Int)>64)) false (mayR ps.length ps)):=by
 rw [mayR_iff _ _ (Nat.le_refl _)]
 unfold may
 have key:∀ b:Bool,(match mayGo 0 ps with
  | some r=>bif r==0 then b else false
  | none=>false)=(b&&(mayGo 0 ps==some 0)):=fun b=>by
  cases mayGo 0 ps with
  | none=>simp
  | some r=>cases hr:r==0 <;> simp [hr]
 refine (key _).trans ?_
 by_cases h1:(ps.length:Int)>=1 <;> by_cases h2:(ps.length:Int)<=64
 ·have e1:¬ ((ps.length:Int)<1):=by omega
  have e2:¬ ((ps.length:Int)>64):=by omega
  simp only [h1,h2,e1,e2,decide_true,decide_false,cond_true,cond_false,Bool.true_and]
 ·have e1:¬ ((ps.length:Int)<1):=by omega
  have e2:((ps.length:Int)>64):=by omega
  simp only [h1,h2,e1,e2,decide_true,decide_false,cond_true,cond_false,Bool.false_and]
 ·have e1:((ps.length:Int)<1):=by omega
  simp only [h1,h2,e1,decide_true,decide_false,cond_true,cond_false,Bool.false_and]
 ·have e1:((ps.length:Int)<1):=by omega
  simp only [h1,h2,e1,decide_true,decide_false,cond_true,cond_false,Bool.false_and]
end Go.Ab

namespace Go.Ab
open Go
set_option maxRecDepth 100000
def gMayS:Callee:=⟨fun args conts _ K=>match args,conts with
 | [.sl 2 L],[]=>(decP L).bind fun ps=>bif Nat.ble ps.length 200 then K (.bool (may ps)) [] else none
 | _,_=>none⟩
theorem mayS13:SoundC Go.Proofs.Tryz.prog 128 gMayS:=SoundC.of may_sound fun args conts β K r h=>by
 have hS:SMALL=1152921504606846976:=rfl
 unfold gMayS at h
 dsimp only at h
 split at h
 ·replace h:=bind_some' h
  obtain ⟨ps,hps,h⟩:=h
  replace h:=cond_some h
  obtain ⟨hs,h⟩:=h
  have hs:=Nat.le_of_ble_eq_true hs
  have h2:Nat.ble ps.length SMALL=true:=Nat.ble_eq_true_of_le (by omega)
  simp only [gMay,hps,Option.bind_some,h2,cond_true]
  exact h
 ·cases h
end Go.Ab

namespace Go.Ab
open Go
set_option maxRecDepth 100000
noncomputable abbrev cxT (n:Nat) (root:Code) (Γ:FuncId->Option Callee) (wr:Nat->Bool):Cx:=cxP n root Γ (fun _=>none) wr
theorem plain_sound {n f:Nat} {fn:Func} {Γ:FuncId->Option Callee} {wr:Nat->Bool} (hΓ:∀ f g,Γ f=some g->SoundC Go.Proofs.Tryz.prog f g) (hN:∀ f g,Γ f=some g->NatC g) (hf:Go.Proofs.Tryz.prog.funcs[f]? = some fn)
  (hn:(fn.name == "runtime.NumGoroutine")=false) (hb:fn.body=some (bodyOf fn)) (hnt:n=fn.ntmps) (hpn:fn.params.size+fn.nfree<=fn.ntmps):SoundC Go.Proofs.Tryz.prog f (fnC (cxT n (bodyOf fn) Γ wr) fn):=
 fnSound (cx:=cxT n (bodyOf fn) Γ wr) hΓ hN (eqOK_none fun _=>rfl) (fun p L b h=>by cases h) (fun q L h=>by cases h) hf hn hb hnt hpn
def wordsOf (c:Int):Int:=if c<0 then 0 else if c>=3 then 0 else if c=0 then 2 else if c=1 then 4 else 8
def cellsN (c:Int):Int:=if wordsOf c=0 then 0 else 16 / wordsOf c
def gAddr:Callee:=⟨fun args conts _ K=>match args,conts with
 | [.int .i64 p],[]=>bif decide (0<=p)&&decide (p<=4096) then K (.int .i64 (16*(p+1))) [] else none
 | _,_=>none⟩
def gWords:Callee:=⟨fun args conts _ K=>match args,conts with
 | [.int .i64 c],[]=>K (.int .i64 (wordsOf c)) []
 | _,_=>none⟩
def gCells:Callee:=⟨fun args conts _ K=>match args,conts with
 | [.int .i64 c],[]=>K (.int .i64 (cellsN c)) []
 | _,_=>none⟩
def holdsB (x y a:Int):Bool:=cond (decide (a>=x)) (decide (IntKind.i64.wrap (a - x)<y)) false
def predB (f:Nat) (a x y:Int):Bool:=cond (Nat.beq f 141) (a==x) (cond (Nat.beq f 1800030) (holdsB x y a) (decide (a<x)))
def gPred (f:Nat):Callee:=⟨fun args conts _ K=>match args,conts with
 | [.int .i64 a,.agg [.int .i64 x,.int .i64 y]],[]=>K (.bool (predB f a x y)) []
 | _,_=>none⟩
def gOnF:Callee:=⟨fun args conts _ K=>match args,conts with
 | [.sl 2 L,.int .i64 p],[]=>K (.fn 270 [] [.pc [.sl 2 L] 0,.pc [.int .i64 p] 0]) []
 | _,_=>none⟩
def gAllF:Callee:=⟨fun args conts _ K=>match args,conts with
 | [.sl 2 L],[]=>K (.fn 207 [] [.pc [.sl 2 L] 0]) []
 | _,_=>none⟩
theorem addr_nat:NatC gAddr:=fun args conts=>by
 unfold gAddr
 dsimp only
 split
 ·exact .cond _ (.ret _ _) .none
 ·exact .none
theorem words_nat:NatC gWords:=fun args conts=>by
 unfold gWords
 dsimp only
 split
 ·exact .ret _ _
 ·exact .none
theorem cells_nat:NatC gCells:=fun args conts=>by
 unfold gCells
 dsimp only
 split
 ·exact .ret _ _
 ·exact .none
theorem pred_nat (f:Nat):NatC (gPred f):=fun args conts=>by
 unfold gPred
 dsimp only
 split
 ·exact .ret _ _
 ·exact .none
theorem onF_nat:NatC gOnF:=fun args conts=>by
 unfold gOnF
 dsimp only
 split
 ·exact .ret _ _
 ·exact .none
theorem allF_nat:NatC gAllF:=fun args conts=>by
 unfold gAllF
 dsimp only
 split
 ·exact .ret _ _
 ·exact .none
def Γ0:FuncId->Option Callee:=fun _=>none
theorem Γ0_sound:∀ f g,Γ0 f=some g->SoundC Go.Proofs.Tryz.prog f g:=fun f g h=>by cases h
theorem Γ0_nat:∀ f g,Γ0 f=some g->NatC g:=fun f g h=>by cases h
theorem addr_step (p:Int) (β:Type) (K:CV->List (List CV)->Option β):fnK (cxT 6 (bodyOf Go.Proofs.Tryz.f271) Γ0 (fun _=>false)) Go.Proofs.Tryz.f271 [.int .i64 p] [] K=
 K (CV.int IntKind.i64 (IntKind.wrap IntKind.i64 (IntKind.wrap IntKind.i64 (p+1)*16))) []:=by kernel_rfl
theorem addr_sound:SoundC Go.Proofs.Tryz.prog 271 gAddr:=
 SoundC.of (plain_sound (n:=6) (wr:=fun _=>false) Γ0_sound Γ0_nat Go.Proofs.Tryz.func271 (by kernel_rfl) (by kernel_rfl) (by kernel_rfl) (Nat.le_of_ble_eq_true (by kernel_rfl)))
  fun args conts β K r h=>by
   unfold gAddr at h
   dsimp only at h
   split at h
   ·rename_i p
    replace h:=cond_some h
    obtain ⟨hb,h⟩:=h
    simp only [Bool.and_eq_true,decide_eq_true_eq] at hb
    rw [fnC_run,addr_step,IntWalk.i64_in (p+1) (by omega),IntWalk.i64_in _ (by omega),show (p+1)*16=16*(p+1) by omega]
    exact h
   ·cases h
theorem words_step (c:Int) (β:Type) (K:CV->List (List CV)->Option β):fnK (cxT 12 (bodyOf Go.Proofs.Tryz.f272) Γ0 (fun _=>false)) Go.Proofs.Tryz.f272 [.int .i64 c] [] K=
 (bif decide (c<0) then K (CV.int IntKind.i64 0) []
 else
  bif decide (c>=3) then K (CV.int IntKind.i64 0) []
  else
   if 0<=c/\c<((3:Nat):Int) then
    Option.bind ([CV.int IntKind.i64 2,CV.int IntKind.i64 4,CV.int IntKind.i64 8][0+Int.toNat c*szOf Go.Proofs.Tryz.prog 3]?)
     fun x=>Option.bind (asI IntKind.i64 x) fun n=>K (CV.int IntKind.i64 n) []
   else none):=by kernel_rfl
theorem sz3:szOf Go.Proofs.Tryz.prog 3=1:=by kernel_rfl
theorem words_sound:SoundC Go.Proofs.Tryz.prog 272 gWords:=
 SoundC.of (plain_sound (n:=12) (wr:=fun _=>false) Γ0_sound Γ0_nat Go.Proofs.Tryz.func272 (by kernel_rfl) (by kernel_rfl) (by kernel_rfl) (Nat.le_of_ble_eq_true (by kernel_rfl)))
  fun args conts β K r h=>by
   unfold gWords at h
   dsimp only at h
   split at h
   ·rename_i c
    rw [fnC_run,words_step,<- h]
    unfold wordsOf
    by_cases h0:c<0
    ·simp [h0]
    ·by_cases h3:c>=3
     ·simp [h0,h3]
     ·have h1:0<=c/\c<((3:Nat):Int):=⟨by omega,by omega⟩
      rw [if_pos h1,sz3]
      have:c=0\/c=1\/c=2:=by omega
      rcases this with rfl | rfl | rfl <;> rfl
   ·cases h
def ΓC:FuncId->Option Callee:=fun f=>bif Nat.beq f 272 then some gWords else none
theorem ΓC_sound:∀ f g,ΓC f=some g->SoundC Go.Proofs.Tryz.prog f g:=fun f g h=>by
 unfold ΓC at h
 obtain ⟨hb,rfl⟩:=cond_some1 h
 have:=beq_true hb
 subst this
 exact words_sound
theorem ΓC_nat:∀ f g,ΓC f=some g->NatC g:=fun f g h=>by
 unfold ΓC at h
 obtain ⟨_,rfl⟩:=cond_some1 h
 exact words_nat
theorem cells_step (c:Int) (β:Type) (K:CV->List (List CV)->Option β):fnK (cxT 10 (bodyOf Go.Proofs.Tryz.f273) ΓC (fun _=>false)) Go.Proofs.Tryz.f273 [.int .i64 c] [] K=
 (bif wordsOf c==0 then K (CV.int IntKind.i64 0) []
 else (if wordsOf c=0 then none else K (CV.int IntKind.i64 (IntKind.i64.wrap (Int.tdiv 16 (wordsOf c)))) [])):=by kernel_rfl
theorem words_cases (c:Int):wordsOf c=0\/wordsOf c=2\/wordsOf c=4\/wordsOf c=8:=by
 unfold wordsOf
 repeat' split
 all_goals simp
theorem cells_sound:SoundC Go.Proofs.Tryz.prog 273 gCells:=
 SoundC.of (plain_sound (n:=10) (wr:=fun _=>false) ΓC_sound ΓC_nat Go.Proofs.Tryz.func273 (by kernel_rfl) (by kernel_rfl) (by kernel_rfl) (Nat.le_of_ble_eq_true (by kernel_rfl)))
  fun args conts β K r h=>by
   unfold gCells at h
   dsimp only at h
   split at h
   ·rename_i c
    rw [fnC_run,cells_step,<- h]
    unfold cellsN
    rcases words_cases c with e | e | e | e <;> rw [e] <;> rfl
   ·cases h
theorem at_step (x y a:Int) (β:Type) (K:CV->List (List CV)->Option β):fnK (cxT 9 (bodyOf Go.Proofs.Tryz.f141) Γ0 (fun _=>false)) Go.Proofs.Tryz.f141 [.int .i64 a,.agg [.int .i64 x,.int .i64 y]] [] K=K (.bool (a==x)) []:=by kernel_rfl
theorem at_sound:SoundC Go.Proofs.Tryz.prog 141 (gPred 141):=
 SoundC.of (plain_sound (n:=9) (wr:=fun _=>false) Γ0_sound Γ0_nat Go.Proofs.Tryz.func141 (by kernel_rfl) (by kernel_rfl) (by kernel_rfl) (Nat.le_of_ble_eq_true (by kernel_rfl)))
  fun args conts β K r h=>by
   unfold gPred at h
   dsimp only at h
   split at h
   ·rw [fnC_run,at_step];exact h
   ·cases h
theorem onF_step (L:List (List CV)) (p:Int) (β:Type) (K:CV->List (List CV)->Option β):fnK (cxT 6 (bodyOf Go.Proofs.Tryz.f208) Γ0 (fun _=>false)) Go.Proofs.Tryz.f208 [.sl 2 L,.int .i64 p] [] K=
 K (.fn 270 [] [.pc [.sl 2 L] 0,.pc [.int .i64 p] 0]) []:=by kernel_rfl
theorem allF_step (L:List (List CV)) (β:Type) (K:CV->List (List CV)->Option β):fnK (cxT 4 (bodyOf Go.Proofs.Tryz.f136) Γ0 (fun _=>false)) Go.Proofs.Tryz.f136 [.sl 2 L] [] K=
 K (.fn 207 [] [.pc [.sl 2 L] 0]) []:=by kernel_rfl
theorem onF_sound:SoundC Go.Proofs.Tryz.prog 208 gOnF:=
 SoundC.of (plain_sound (n:=6) (wr:=fun _=>false) Γ0_sound Γ0_nat Go.Proofs.Tryz.func208 (by kernel_rfl) (by kernel_rfl) (by kernel_rfl) (Nat.le_of_ble_eq_true (by kernel_rfl)))
  fun args conts β K r h=>by
   unfold gOnF at h
   dsimp only at h
   split at h
   ·rw [fnC_run,onF_step];exact h
   ·cases h
theorem allF_sound:SoundC Go.Proofs.Tryz.prog 136 gAllF:=
 SoundC.of (plain_sound (n:=4) (wr:=fun _=>false) Γ0_sound Γ0_nat Go.Proofs.Tryz.func136 (by kernel_rfl) (by kernel_rfl) (by kernel_rfl) (Nat.le_of_ble_eq_true (by kernel_rfl)))
  fun args conts β K r h=>by
   unfold gAllF at h
   dsimp only at h
   split at h
   ·rw [fnC_run,allF_step];exact h
   ·cases h
end Go.Ab

namespace Go.Ab
open Go
set_option maxRecDepth 100000
def decO:List (List CV)->Option (List (List CV))
 | [[.own 1 L]]=>some L
 | _=>none
def shO:Sh where
 T:=List (List CV)
 n:=1
 un:=fun L=>[[.own 1 L]]
 dec:=decO
 ok:=fun co x h=>by
  unfold decO at h
  split at h
  ·cases h;rfl
  ·cases h
 dec_un:=fun _=>rfl
 len:=fun _=>rfl
def ΓOn:FuncId->Option Callee:=fun f=>bif Nat.beq f 271 then some gAddr else bif Nat.beq f 272 then some gWords else bif Nat.beq f 273 then some gCells else none
theorem ΓOn_all {Q:FuncId->Callee->Prop} (h1:Q 271 gAddr) (h2:Q 272 gWords) (h3:Q 273 gCells):∀ f g,ΓOn f=some g->Q f g:=fun f g h=>by
 unfold ΓOn at h
 cases e1:Nat.beq f 271 with
 | true=>rw [e1] at h;have:=beq_true e1;subst this;cases h;exact h1
 | false=>
  cases e2:Nat.beq f 272 with
  | true=>rw [e1,e2] at h;have:=beq_true e2;subst this;cases h;exact h2
  | false=>
   cases e3:Nat.beq f 273 with
   | true=>rw [e1,e2,e3] at h;have:=beq_true e3;subst this;cases h;exact h3
   | false=>rw [e1,e2,e3] at h;cases h
theorem ΓOn_sound:∀ f g,ΓOn f=some g->SoundC Go.Proofs.Tryz.prog f g:=ΓOn_all addr_sound words_sound cells_sound
theorem ΓOn_nat:∀ f g,ΓOn f=some g->NatC g:=ΓOn_all (Q:=fun _ g=>NatC g) addr_nat words_nat cells_nat
def cellRow (at_ w:Int):Nat->Nat->List Cell
 | _,0=>[]
 | i,n+1=>(at_+(i:Int)*w,w)::cellRow at_ w (i+1) n
noncomputable abbrev bodyOn:Code:=(codeAt (bodyOf Go.Proofs.Tryz.f270) [false,false,true,true,false,true,true,true,false,true,true]).getD .skip
def outsOn:Exit->List Nat:=fun _=>[]
abbrev insOn:List Nat:=[0,5,6,32,33]
abbrev pathOn:List Bool:=[false,true,true,false,true,true,true,false,true,true]
def lOf:CV->Nat
 | .rcd l _ _ _ _ _ _=>l
 | _=>0
noncomputable def loopOn (S:Sh) (c0:CV) (Y:YSem):LoopSem:=⟨insOn,outsOn,fun vs cs _ K=>match vs,cs with
 | [.yld l,.int .i64 a,.int .i64 w,.int .i64 n,.int .i64 i],[c]::co=>bif okC c c0&&okC (.yld l) (.yld (lOf c0))&&decide (i=0)&&decide (0<=n)&&decide (n<=8)&&decide (0<=w)&&decide (w<=8)&&decide (0<=a)&&decide (a<=65536) then (S.dec co).bind fun x=>
   runC S Y (cellRow a w 0 n.toNat) x _ fun s x'=>selS s (K (.exit 1) [] ([c0]::S.un x')) fun k=>K .ret [] ([setS c0 (some k)]::S.un x')
   else none
 | _,_=>none⟩
noncomputable def cxOn (S:Sh) (c0:CV) (Y:YSem):Cx:=
 {P:=Go.Proofs.Tryz.prog,nt:=47,Γ:=ΓOn,Λ:=fun q=>bif Nat.beq q 1910 then some (loopOn S c0 Y) else none,un:=fun _=>false,root:=bodyOf Go.Proofs.Tryz.f270,wr:=fun _=>false,eqT:=fun _=>false,Y:=some (S.n,gY c0 (guardY S Y))}
abbrev rc0 (S:Sh) (l:Nat) (fx:Loop) (ts:List Nat) (env:List CV) (bs:List Nat) (s:Option Nat):CV := .rcd l fx ts env bs S.n s
noncomputable def LBOn (S:Sh) (l:Nat) (fx:Loop) (ts:List Nat) (env:List CV) (bs:List Nat) (Y:YSem) (a w n:Int) (β:Type) (K:Exit->List CV->List (List CV)->Option β) (m:Nat) (i:Int) (s:Option Nat) (x:S.T):Option β:=
 loopB (cxOn S (rc0 S l fx ts env bs none) Y) insOn outsOn pathOn bodyOn m [.yld l,.int .i64 a,.int .i64 w,.int .i64 n,.int .i64 i] ([rc0 S l fx ts env bs s]::S.un x) K
structure OnSteps (S:Sh):Prop where
 loop:∀ (l:Nat) (fx:Loop) (ts:List Nat) (env:List CV) (bs:List Nat) (Y:YSem) (a w n:Int) (β:Type) (K:Exit->List CV->List (List CV)->Option β) (m:Nat) (i:Int) (x:S.T),
  LBOn S l fx ts env bs Y a w n β K (m+1) i none x=cond (decide (i<n)) (cond (decide (l=l)) (cond (okC (rc0 S l fx ts env bs none) (rc0 S l fx ts env bs none))
    (Y [.agg [.int .i64 (IntKind.i64.wrap (a+IntKind.i64.wrap (i*w))),.int .i64 w]] (S.un x) β fun s co=>(S.dec co).bind fun x'=>
     cond (!s.isNone) (K .ret [] ([rc0 S l fx ts env bs s]::S.un x')) (LBOn S l fx ts env bs Y a w n β K m (IntKind.i64.wrap (i+1)) s x')) none) none)
   (K (.exit 1) [] ([rc0 S l fx ts env bs none]::S.un x))
 fn:∀ (l:Nat) (fx:Loop) (ts:List Nat) (env:List CV) (bs:List Nat) (Y:YSem) (L:List (List CV)) (p:Int) (x:S.T) (β:Type) (K:CV->List (List CV)->Option β),
  fnK (cxOn S (rc0 S l fx ts env bs none) Y) Go.Proofs.Tryz.f270 [.yld l,.pc [.sl 2 L] 0,.pc [.int .i64 p] 0] ([rc0 S l fx ts env bs none]::S.un x) K=
  (rdE L p).bind fun c=>(c[0]?).bind fun y=>(asI .i64 y).bind fun n=>(c[1]?).bind fun y=>(asI .i64 y).bind fun b=>
   bif decide (0<=p)&&decide (p<=4096) then
    bif n==2 then
     bif decide (l=l) then bif okC (rc0 S l fx ts env bs none) (rc0 S l fx ts env bs none) then
      Y [.agg [.int .i64 (16*(p+1)),.int .i64 (IntKind.i64.wrap (b*16))]] (S.un x) β fun s co=>(S.dec co).bind fun x'=>K (.tup []) ([rc0 S l fx ts env bs s]::S.un x')
      else none else none
    else bif n==1 then
     bif okC (rc0 S l fx ts env bs none) (rc0 S l fx ts env bs none)&&okC (.yld l) (.yld l)&&decide ((0:Int)=0)&&decide (0<=cellsN b)&&decide (cellsN b<=8)&&decide (0<=wordsOf b)&&decide (wordsOf b<=8)&&decide (0<=16*(p+1))&&decide (16*(p+1)<=65536) then
      (S.dec (S.un x)).bind fun x=>runC S Y (cellRow (16*(p+1)) (wordsOf b) 0 (cellsN b).toNat) x β fun s x'=>selS s (K (.tup []) ([rc0 S l fx ts env bs none]::S.un x')) fun k=>K (.tup []) ([rc0 S l fx ts env bs (some k)]::S.un x')
     else none
    else K (.tup []) ([rc0 S l fx ts env bs none]::S.un x)
   else none
def cellsP (p:Int) (q:Pg):List Cell:=cond (q.1==2) [(16*(p+1),IntKind.i64.wrap (q.2*16))] (cond (q.1==1) (cellRow (16*(p+1)) (wordsOf q.2) 0 (cellsN q.2).toNat) [])
theorem cellsN_le (c:Int):0<=cellsN c/\cellsN c<=8:=by
 unfold cellsN
 rcases words_cases c with e | e | e | e <;> rw [e] <;> decide
theorem loopOn_spec {S:Sh} (hS:OnSteps S) (l:Nat) (fx:Loop) (ts:List Nat) (env:List CV) (bs:List Nat) (Y:YSem) (a w:Int) (n:Nat) (hn:n<=8) (hw:0<=w/\w<=8) (ha:0<=a/\a<=65536) (β:Type) (K:Exit->List CV->List (List CV)->Option β):
  ∀ (k i:Nat) (x:S.T),i+k=n->LBOn S l fx ts env bs Y a w n β K (k+1) i none x=
   runC S Y (cellRow a w i k) x β fun s x'=>selS s (K (.exit 1) [] ([rc0 S l fx ts env bs none]::S.un x')) fun k=>K .ret [] ([rc0 S l fx ts env bs (some k)]::S.un x')
 | 0,i,x,h=>by
  rw [hS.loop]
  simp [show ¬ ((i:Int)<(n:Int)) by omega,cellRow,runC,selS]
 | k+1,i,x,h=>by
  have hm:0<=(i:Int)*w/\(i:Int)*w<=64:=by
   have h1:(i:Int)<=8:=by omega
   have h2:(i:Int)*w<=8*8:=Int.mul_le_mul h1 hw.2 hw.1 (by omega)
   exact ⟨Int.mul_nonneg (by omega) hw.1,by omega⟩
  rw [hS.loop,IntWalk.i64_in ((i:Int)*w) (by omega),IntWalk.i64_in (a+(i:Int)*w) (by omega),IntWalk.i64_in ((i:Int)+1) (by omega)]
  simp only [show ((i:Int)<(n:Int)) by omega,decide_true,cond_true,okC_self,cellRow,runC,cellV]
  congr 1
  funext s co
  congr 1
  funext x'
  cases s with
  | none=>
   have:=loopOn_spec hS l fx ts env bs Y a w n hn hw ha β K k (i+1) x' (by omega)
   simp only [Option.isNone_none,Bool.not_true,cond_false,selS]
   rw [show ((i:Int)+1)=((i+1:Nat):Int) by omega,this]
   rfl
  | some j=>rfl
def Gon (S:Sh):ItSem:=fun Y caps conts _ K=>match caps with
 | [.pc [.sl 2 L] 0,.pc [.int .i64 p] 0]=>(decP L).bind fun ps=>(S.dec conts).bind fun x=>bif Nat.ble ps.length 200&&decide (0<=p)&&decide (p<(ps.length:Int)) then
   runC S Y (cellsP p (ps.getD p.toNat (0,0))) x _ fun s x'=>K s (S.un x') else none
 | _=>none
theorem Gon_nat (S:Sh):NatI (Gon S):=fun Y hY caps conts=>by
 unfold Gon
 split
 ·exact .bind _ fun _ => .bind _ fun _ => .cond _ (.seq2 (runC_nat hY _ _) fun _ _ => .ret _ _) .none
 ·exact .none
theorem loopOn_nat {S:Sh} {c0:CV} {Y:YSem} (hY:NatYS Y):NatL (loopOn S c0 Y):=fun vs cs=>by
 unfold loopOn
 dsimp only
 split
 ·refine .cond _ (.bind _ fun x => ?_) .none
  rcases runC_nat (S:=S) hY (cellRow _ _ 0 _) x with ⟨s,x',h⟩ | h
  ·cases s with
   | none=>exact .inl ⟨_,_,_,fun β K=>h _ _⟩
   | some k=>exact .inl ⟨_,_,_,fun β K=>h _ _⟩
  ·exact .inr fun β K=>h _ _
 ·exact .none
theorem loopsOn {S:Sh} (hS:OnSteps S) (l:Nat) (fx:Loop) (ts:List Nat) (env:List CV) (bs:List Nat) (Y:YSem):LoopsS (cxOn S (rc0 S l fx ts env bs none) Y) := .of fun k L h=>by
 obtain ⟨hk,rfl⟩:=cond_some2 h
 refine ⟨pathOn,beq_true hk,fun vs cs β K r hr => ?_⟩
 unfold loopOn at hr
 dsimp only at hr
 split at hr
 ·rename_i l' a w n i c co
  replace hr:=cond_some hr
  obtain ⟨hb,hr⟩:=hr
  simp only [Bool.and_eq_true,decide_eq_true_eq] at hb
  obtain ⟨⟨⟨⟨⟨⟨⟨⟨hc,hl⟩,rfl⟩,h1⟩,h2⟩,h3⟩,h4⟩,h5⟩,h6⟩:=hb
  obtain rfl:=okC_eq hc
  obtain rfl:l'=l:=CV.yld.inj (okC_eq hl)
  replace hr:=bind_some' hr
  obtain ⟨x,hx,hr⟩:=hr
  obtain rfl:=S.ok _ _ hx
  refine ⟨n.toNat+1,?_⟩
  have:=loopOn_spec hS l' fx ts env bs Y a w n.toNat (by omega) ⟨h3,h4⟩ ⟨h5,h6⟩ β K n.toNat 0 x (by omega)
  rw [show ((n.toNat:Nat):Int)=n by omega] at this
  exact this.trans hr
 ·cases hr
theorem nxOn {S:Sh} {c0:CV} {Y:YSem} (hY:NatYS Y):NatX (cxOn S c0 Y) where
 c:=ΓOn_nat
 y:=fun y h=>by cases h;exact gY_nat (guard_nat hY)
 it:=fun f G h=>by cases h
 rf:=fun q R h=>by cases h
theorem hI_ne {G:ItSem} {m n:Nat} (hn:¬ n=m) (hG:∀ (Y:YSem) (caps:List CV) (cs:List (List CV)) (β:Type) (K:Option Nat->List (List CV)->Option β) (r:β),G Y caps cs β K=some r->cs.length=m)
  {l:Nat} {fx:Loop} {ts:List Nat} {env:List CV} {bs:List Nat} {Y:YSem} {args:List CV} {conts:List (List CV)} {β:Type} {K:CV->List (List CV)->Option β} {r:β}:¬ (hI l (.rcd l fx ts env bs n none) G Y).run args conts β K=some r:=fun h=>by
 unfold hI at h
 dsimp only at h
 split at h
 ·replace h:=cond_some h
  obtain ⟨hb,h⟩:=h
  simp only [Bool.and_eq_true] at hb
  have h1:=beq_true hb.2
  have h2:=hG _ _ _ _ _ _ h
  exact hn (by rw [<- h2,<- h1];rfl)
 ·cases h
theorem onI {S:Sh} (hS:OnSteps S):SoundI Go.Proofs.Tryz.prog 270 (Gon S):=by
 intro l fx ts env bs n Y hY hSY
 by_cases hn:n=S.n
 ·subst hn
  refine SoundC.of (fnSoundY (cx:=cxOn S (rc0 S l fx ts env bs none) Y) (fn:=Go.Proofs.Tryz.f270) ΓOn_sound (nxOn hY) ⟨eqOK_none fun _=>rfl,fun y h=>(by cases h;exact guard_soundY hY hSY),fun f G h=>(by cases h),fun _ _ _ _ _ _ h=>(by cases h),fun f n h=>(by cases h)⟩
   (loopsOn hS l fx ts env bs Y) (fun q L h=>by obtain ⟨_,rfl⟩:=cond_some2 h;exact loopOn_nat hY) Go.Proofs.Tryz.func270 (by kernel_rfl) (by kernel_rfl) (by kernel_rfl) (Nat.le_of_ble_eq_true (by kernel_rfl))) fun args conts β K r h => ?_
  unfold hI at h
  dsimp only at h
  split at h
  ·rename_i l' caps c cs
   replace h:=cond_some h
   obtain ⟨hb,h⟩:=h
   simp only [Bool.and_eq_true,decide_eq_true_eq] at hb
   obtain ⟨⟨rfl,hc⟩,_⟩:=hb
   obtain rfl:=okC_eq hc
   unfold Gon at h
   split at h
   ·rename_i L p
    replace h:=bind_some' h
    obtain ⟨ps,hps,h⟩:=h
    replace h:=bind_some' h
    obtain ⟨x,hx,h⟩:=h
    replace h:=cond_some h
    obtain ⟨hb,h⟩:=h
    simp only [Bool.and_eq_true,decide_eq_true_eq] at hb
    obtain ⟨⟨h200,h0⟩,hlt⟩:=hb
    have h200:=Nat.le_of_ble_eq_true h200
    obtain rfl:=S.ok _ _ hx
    obtain rfl:=decP_enc hps
    rw [fnC_run,hS.fn,<- h]
    obtain ⟨m,rfl⟩:∃ m:Nat,p=m:=⟨p.toNat,by omega⟩
    have hm:m<ps.length:=by omega
    rw [rdE_map hm]
    simp only [encP,List.getElem?_cons_zero,List.getElem?_cons_succ,Option.bind_some,asI,if_true,Int.toNat_natCast]
    have e0:ps.getD m (0,0)=ps[m]:=by simp [hm]
    rw [e0]
    generalize ps[m]=q
    obtain ⟨k,b⟩:=q
    have hp:(decide (0<=(m:Int))&&decide ((m:Int)<=4096))=true:=by simp;omega
    rw [hp,cond_true]
    unfold cellsP
    dsimp only
    cases h2:k==2 with
    | true=>
     simp only [cond_true,decide_true,okC_self,runC,cellV]
     congr 1
     funext s co
     congr 1
     funext x'
     cases s <;> rfl
    | false=>
     cases h1:k==1 with
     | true=>
      have hc:=cellsN_le b
      have hw:=words_cases b
      have w0:0<=wordsOf b:=by omega
      have w8:wordsOf b<=8:=by omega
      simp only [cond_false,cond_true,okC_self,decide_true,decide_eq_true hc.1,decide_eq_true hc.2,decide_eq_true w0,decide_eq_true w8,decide_eq_true (show 0<=16*((m:Int)+1) by omega),decide_eq_true (show 16*((m:Int)+1)<=65536 by omega),Bool.and_self,S.dec_un,Option.bind_some]
      congr 1
      funext s x'
      cases s <;> rfl
     | false=>rfl
   ·cases h
  ·cases h
 ·refine ⟨⟨Go.Proofs.Tryz.f270,Go.Proofs.Tryz.func270,by kernel_rfl,by kernel_rfl⟩,fun args conts β K r h => ?_⟩
  exact absurd h (hI_ne hn fun Y caps cs β K r h=>by
   unfold Gon at h
   split at h
   ·replace h:=bind_some' h
    obtain ⟨ps,hps,h⟩:=h
    replace h:=bind_some' h
    obtain ⟨x,hx,h⟩:=h
    rw [S.ok _ _ hx,S.len]
   ·cases h)
end Go.Ab

namespace Go.Ab
open Go
set_option maxRecDepth 100000
def Yout:YSem:=fun args conts _ K=>match args,conts with
 | [.agg [.int .i64 a,.int .i64 _]],[[.own 1 O]]=>if (O++[[CV.int .i64 a]]).length<=LIM then K none [[.own 1 (O++[[CV.int .i64 a]])]] else none
 | _,_=>none
def rfOn:RfSem:=⟨[5],fun env=>match env with
 | [.ref 0]=>Yout
 | _=>fun _ _ _ _=>none⟩
def ΓOnC:FuncId->Option Callee:=fun f=>bif Nat.beq f 128 then some gMay else bif Nat.beq f 208 then some gOnF else none
end Go.Ab

namespace Go.Ab
open Go
set_option maxRecDepth 100000
def stOf:CV->Option Nat
 | .rcd _ _ _ _ _ _ s=>s
 | _=>none
noncomputable def shIn (S:Sh) (l:Nat) (fx:Loop) (ts:List Nat) (env:List CV) (bs:List Nat):Sh where
 T:=Option Nat×S.T
 n:=S.n+2
 un:=fun x=>[rc0 S l fx ts env bs x.1]::(S.un x.2++[[.yld l]])
 dec:=fun co=>match co with
  | [c]::rest=>bif okC c (rc0 S l fx ts env bs (stOf c))&&(match rest.getLast? with | some [c']=>okC c' (.yld l) | _=>false) then (S.dec rest.dropLast).bind fun x=>some (stOf c,x) else none
  | _=>none
 ok:=fun co x h=>by
  split at h
  ·rename_i c rest
   replace h:=cond_some h
   obtain ⟨hb,h⟩:=h
   simp only [Bool.and_eq_true] at hb
   obtain ⟨hc,hl⟩:=hb
   split at hl
   ·rename_i c' hg
    obtain ⟨y,hy,h⟩:=bind_some' h
    cases h
    have e1:=S.ok _ _ hy
    have e2:=okC_eq hl
    subst e2
    have e3:rest=rest.dropLast++[[.yld l]]:=by
     have hne:rest≠[]:=by intro h0;subst h0;simp at hg
     rw [List.getLast?_eq_some_getLast hne] at hg
     have:=List.dropLast_concat_getLast hne
     rw [Option.some.inj hg] at this
     exact this.symm
    have e4:=okC_eq hc
    show [c]::rest=[rc0 S l fx ts env bs (stOf c)]::(S.un y++[[.yld l]])
    rw [<- e1,<- e3,<- e4]
   ·cases hl
  ·cases h
 dec_un:=fun x=>by
  simp only [List.getLast?_append,List.getLast?_singleton,Option.some_or,List.dropLast_concat,S.dec_un,Option.bind_some,stOf,okC_self,Bool.and_self,cond_true]
 len:=fun x=>by simp [S.len]
abbrev pathIn:List Bool:=[false,true,true,false,false,true,true,false,false,true,true,true]
noncomputable abbrev asIn:Code:=(codeAt (bodyOf Go.Proofs.Tryz.f207) (false::pathIn)).getD .skip
noncomputable abbrev bdIn:Code:=(codeAt (bodyOf Go.Proofs.Tryz.f207) (true::pathIn)).getD .skip
noncomputable def Yin (S:Sh) (l:Nat) (fx:Loop) (ts:List Nat) (env:List CV) (bs:List Nat) (Y:YSem):YSem:=fun args conts _ K=>match args with
 | [.agg [.int .i64 a,.int .i64 b]]=>((shIn S l fx ts env bs).dec conts).bind fun x=>bif x.1.isNone then
   Y [.agg [.int .i64 a,.int .i64 b]] (S.un x.2) _ fun s co=>(S.dec co).bind fun x'=>selS s (K none ((shIn S l fx ts env bs).un (none,x'))) fun k=>K (some 0) ((shIn S l fx ts env bs).un (some k,x')) else none
 | _=>none
noncomputable def rfIn (S:Sh) (l:Nat) (fx:Loop) (ts:List Nat) (env:List CV) (bs:List Nat) (Y:YSem):RfSem:=⟨[2],fun en=>match en with
 | [.ref k]=>bif Nat.beq k (S.n+1) then Yin S l fx ts env bs Y else fun _ _ _ _=>none
 | _=>fun _ _ _ _=>none⟩
def allFrom:Nat->List Pg->List Cell
 | _,[]=>[]
 | i,q::r=>cellsP (i:Int) q++allFrom (i+1) r
noncomputable abbrev bodyAll:Code:=(codeAt (bodyOf Go.Proofs.Tryz.f207) [false,false,true,true,true]).getD .skip
abbrev pathAll:List Bool:=[false,true,true,true]
abbrev insAll:List Nat:=[2,1,9,10]
def outsAll:Exit->List Nat:=fun _=>[]
noncomputable def loopAll (S:Sh) (l:Nat) (fx:Loop) (ts:List Nat) (env:List CV) (bs:List Nat) (Y:YSem):LoopSem:=⟨insAll,outsAll,fun vs cs _ K=>match vs with
 | [.ref k,.pc [.sl 2 L] 0,.int .i64 n,.int .i64 i]=>(decP L).bind fun ps=>bif Nat.beq k (S.n+1)&&decide (n=(ps.length:Int))&&decide (i=0)&&Nat.ble ps.length 200 then ((shIn S l fx ts env bs).dec cs).bind fun x=>bif x.1.isNone then
   runC S Y (allFrom 0 ps) x.2 _ fun s x'=>selS s (K (.exit 0) [] ((shIn S l fx ts env bs).un (none,x'))) fun k=>K .ret [] ((shIn S l fx ts env bs).un (some k,x'))
   else none else none
 | _=>none⟩
noncomputable def cxAll (S:Sh) (l:Nat) (fx:Loop) (ts:List Nat) (env:List CV) (bs:List Nat) (Y:YSem):Cx:=
 {P:=Go.Proofs.Tryz.prog,nt:=22,Γ:=ΓOnC,Λ:=fun q=>bif Nat.beq q 30 then some (loopAll S l fx ts env bs Y) else none,un:=fun _=>false,root:=bodyOf Go.Proofs.Tryz.f207,wr:=fun _=>false,eqT:=fun _=>false,
  Y:=some (S.n,gY (rc0 S l fx ts env bs none) (guardY S Y)),It:=fun f=>bif Nat.beq f 270 then some (restr0 (Gon (shIn S l fx ts env bs))) else none,rf:=fun q=>bif Nat.beq q 7782 then some (rfIn S l fx ts env bs Y) else none}
noncomputable def LBAll (S:Sh) (l:Nat) (fx:Loop) (ts:List Nat) (env:List CV) (bs:List Nat) (Y:YSem) (L:List (List CV)) (n:Int) (β:Type) (K:Exit->List CV->List (List CV)->Option β) (m:Nat) (i:Int) (x:Option Nat×S.T):Option β:=
 loopB (cxAll S l fx ts env bs Y) insAll outsAll pathAll bodyAll m [.ref (S.n+1),.pc [.sl 2 L] 0,.int .i64 n,.int .i64 i] ((shIn S l fx ts env bs).un x) K
structure AllSteps (S:Sh):Prop where
 on:∀ (l:Nat) (fx:Loop) (ts:List Nat) (env:List CV) (bs:List Nat),OnSteps (shIn S l fx ts env bs)
 rd:∀ (l:Nat) (fx:Loop) (ts:List Nat) (env:List CV) (bs:List Nat) (Y:YSem) (a b:Int) (x:S.T) (β:Type) (K:Option Nat->List (List CV)->Option β),
  roundB (cxAll S l fx ts env bs Y) [2] pathIn [16] asIn bdIn [.ref (S.n+1)] [.agg [.int .i64 a,.int .i64 b]] ((shIn S l fx ts env bs).un (none,x)) K=
  cond (decide (l=l)) (cond (okC (rc0 S l fx ts env bs none) (rc0 S l fx ts env bs none)) (Y [.agg [.int .i64 a,.int .i64 b]] (S.un x) _ fun s co=>(S.dec co).bind fun x'=>
   cond (!s.isNone) (K (some 0) ((shIn S l fx ts env bs).un (s,x'))) (K none ((shIn S l fx ts env bs).un (s,x')))) none) none
 loop:∀ (l:Nat) (fx:Loop) (ts:List Nat) (env:List CV) (bs:List Nat) (Y:YSem) (L:List (List CV)) (n:Int) (β:Type) (K:Exit->List CV->List (List CV)->Option β) (m:Nat) (i:Int) (x:S.T),
  LBAll S l fx ts env bs Y L n β K (m+1) i (none,x)=cond (decide (i<n))
   ((decP L).bind fun ps=>((shIn S l fx ts env bs).dec ((shIn S l fx ts env bs).un (none,x))).bind fun x=>bif Nat.ble ps.length 200&&decide (0<=i)&&decide (i<(ps.length:Int)) then
    runC (shIn S l fx ts env bs) (Yin S l fx ts env bs Y) (cellsP i (ps.getD i.toNat (0,0))) x β fun s x'=>selS s (LBAll S l fx ts env bs Y L n β K m (IntKind.i64.wrap (i+1)) x') fun k=>bif Nat.beq k 0 then K .ret [] ((shIn S l fx ts env bs).un x') else none
    else none)
   (K (.exit 0) [] ((shIn S l fx ts env bs).un (none,x)))
 fn:∀ (l:Nat) (fx:Loop) (ts:List Nat) (env:List CV) (bs:List Nat) (Y:YSem) (L:List (List CV)) (x:S.T) (β:Type) (K:CV->List (List CV)->Option β),
  fnK (cxAll S l fx ts env bs Y) Go.Proofs.Tryz.f207 [.yld l,.pc [.sl 2 L] 0] ([rc0 S l fx ts env bs none]::S.un x) K=
  (decP L).bind fun ps=>bif Nat.ble ps.length SMALL then cond (!may ps) (K (.tup []) ([rc0 S l fx ts env bs none]::S.un x))
   ((decP L).bind fun ps=>bif Nat.beq (S.n+1) (S.n+1)&&decide ((L.length:Int)=(ps.length:Int))&&decide ((0:Int)=0)&&Nat.ble ps.length 200 then ((shIn S l fx ts env bs).dec ((shIn S l fx ts env bs).un (none,x))).bind fun x=>bif x.1.isNone then
    runC S Y (allFrom 0 ps) x.2 β fun s x'=>selS s (K (.tup []) ([rc0 S l fx ts env bs none]::S.un x')) fun k=>K (.tup []) ([rc0 S l fx ts env bs (some k)]::S.un x')
    else none else none) else none
theorem onSteps_inO (l:Nat) (fx:Loop) (ts:List Nat) (env:List CV) (bs:List Nat):OnSteps (shIn shO l fx ts env bs) where
 loop:=fun l fx ts env bs Y a w n β K m i x=>by kernel_rfl
 fn:=fun l fx ts env bs Y L p x β K=>by kernel_rfl
theorem allSteps_O:AllSteps shO where
 on:=onSteps_inO
 rd:=fun l fx ts env bs Y a b x β K=>by kernel_rfl
 loop:=fun l fx ts env bs Y L n β K m i x=>by kernel_rfl
 fn:=fun l fx ts env bs Y L x β K=>by kernel_rfl
end Go.Ab

namespace Go.Ab
open Go
set_option maxRecDepth 100000
theorem bind_in {S:Sh} {l:Nat} {fx:Loop} {ts:List Nat} {env:List CV} {bs:List Nat} (s:Option Nat) (x:S.T) {γ:Type} (f:(shIn S l fx ts env bs).T->Option γ):((shIn S l fx ts env bs).dec ((shIn S l fx ts env bs).un (s,x))).bind f=f (s,x):=by
 rw [(shIn S l fx ts env bs).dec_un (s,x)]
 rfl
theorem runC_in {S:Sh} {l:Nat} {fx:Loop} {ts:List Nat} {env:List CV} {bs:List Nat} {Y:YSem}:∀ (cs:List Cell) (x:S.T) (β:Type) (K:Option Nat->Option Nat×S.T->Option β),
  runC (shIn S l fx ts env bs) (Yin S l fx ts env bs Y) cs (none,x) β K=runC S Y cs x β fun s x'=>selS s (K none (none,x')) fun k=>K (some 0) (some k,x')
 | [],x,β,K=>rfl
 | c::cs,x,β,K=>by
  simp only [runC,cellV,Yin,bind_in,Option.isNone_none,cond_true]
  congr 1
  funext s co
  congr 1
  funext x'
  cases s with
  | none=>
   simp only [selS]
   exact runC_in cs x' β K
  | some k=>rfl
theorem Yin_nat {S:Sh} {l:Nat} {fx:Loop} {ts:List Nat} {env:List CV} {bs:List Nat} {Y:YSem} (hY:NatYS Y):NatYS (Yin S l fx ts env bs Y):=fun args conts=>by
 unfold Yin
 split
 ·exact .bind _ fun _ => .cond _ (.seq2 (hY _ _) fun _ _ => .bind _ fun _ => .selS (.ret _ _) fun _ => .ret _ _) .none
 ·exact .none
theorem loopAll_spec {S:Sh} (hS:AllSteps S) (l:Nat) (fx:Loop) (ts:List Nat) (env:List CV) (bs:List Nat) (Y:YSem) (ps:List Pg) (h200:ps.length<=200) (β:Type) (K:Exit->List CV->List (List CV)->Option β):
  ∀ (k i:Nat) (x:S.T),i+k=ps.length->LBAll S l fx ts env bs Y (ps.map encP) (ps.length:Int) β K (k+1) i (none,x)=
   runC S Y (allFrom i (ps.drop i)) x β fun s x'=>selS s (K (.exit 0) [] ((shIn S l fx ts env bs).un (none,x'))) fun k=>K .ret [] ((shIn S l fx ts env bs).un (some k,x'))
 | 0,i,x,h=>by
  rw [hS.loop,List.drop_eq_nil_of_le (by omega)]
  simp [show ¬ ((i:Int)<(ps.length:Int)) by omega,allFrom,runC,selS]
 | k+1,i,x,h=>by
  have hi:i<ps.length:=by omega
  have hd:ps.drop i=ps[i]::ps.drop (i+1):=List.drop_eq_getElem_cons hi
  have hb:Nat.ble ps.length 200=true:=Nat.ble_eq_true_of_le h200
  have e0:ps.getD i (0,0)=ps[i]:=by simp [hi]
  rw [hS.loop,hd]
  simp only [decP_map,Option.bind_some,bind_in,hb,decide_eq_true (show (0:Int)<=(i:Int) by omega),decide_eq_true (show (i:Int)<(ps.length:Int) by omega),Bool.and_self,cond_true,Int.toNat_natCast,e0,allFrom]
  refine (runC_in (S:=S) _ x β _).trans ?_
  rw [runC_append,IntWalk.i64_in ((i:Int)+1) (by omega)]
  congr 1
  funext s x'
  cases s with
  | none=>
   have:=loopAll_spec hS l fx ts env bs Y ps h200 β K k (i+1) x' (by omega)
   simp only [selS]
   rw [show ((i:Int)+1)=((i+1:Nat):Int) by omega,this]
   rfl
  | some j=>rfl
def Gall (S:Sh):ItSem:=fun Y caps conts _ K=>match caps with
 | [.pc [.sl 2 L] 0]=>(decP L).bind fun ps=>(S.dec conts).bind fun x=>bif Nat.ble ps.length 200 then
   cond (may ps) (runC S Y (allFrom 0 ps) x _ fun s x'=>K s (S.un x')) (K none (S.un x)) else none
 | _=>none
theorem Gall_nat (S:Sh):NatI (Gall S):=fun Y hY caps conts=>by
 unfold Gall
 split
 ·exact .bind _ fun _ => .bind _ fun _ => .cond _ (.cond _ (.seq2 (runC_nat hY _ _) fun _ _ => .ret _ _) (.ret _ _)) .none
 ·exact .none
theorem loopAll_nat {S:Sh} {l:Nat} {fx:Loop} {ts:List Nat} {env:List CV} {bs:List Nat} {Y:YSem} (hY:NatYS Y):NatL (loopAll S l fx ts env bs Y):=fun vs cs=>by
 unfold loopAll
 dsimp only
 split
 ·refine .bind _ fun ps => .cond _ (.bind _ fun x => .cond _ ?_ .none) .none
  rcases runC_nat (S:=S) hY (allFrom 0 ps) x.2 with ⟨s,x',h⟩ | h
  ·cases s with
   | none=>exact .inl ⟨_,_,_,fun β K=>h _ _⟩
   | some k=>exact .inl ⟨_,_,_,fun β K=>h _ _⟩
  ·exact .inr fun β K=>h _ _
 ·exact .none
theorem pair_none {S:Sh} {x:Option Nat×S.T} (h:x.1.isNone=true):x=(none,x.2):=by
 obtain ⟨s,x⟩:=x
 cases s with
 | none=>rfl
 | some k=>cases h
theorem loopsAll {S:Sh} (hS:AllSteps S) (l:Nat) (fx:Loop) (ts:List Nat) (env:List CV) (bs:List Nat) (Y:YSem):LoopsS (cxAll S l fx ts env bs Y) := .of fun k L h=>by
 obtain ⟨hk,rfl⟩:=cond_some2 h
 refine ⟨pathAll,beq_true hk,fun vs cs β K r hr => ?_⟩
 unfold loopAll at hr
 dsimp only at hr
 split at hr
 ·rename_i k L n i
  replace hr:=bind_some' hr
  obtain ⟨ps,hps,hr⟩:=hr
  replace hr:=cond_some hr
  obtain ⟨hb,hr⟩:=hr
  simp only [Bool.and_eq_true,decide_eq_true_eq] at hb
  obtain ⟨⟨⟨hk,rfl⟩,rfl⟩,h200⟩:=hb
  have hk:=beq_true hk
  subst hk
  replace hr:=bind_some' hr
  obtain ⟨x,hx,hr⟩:=hr
  replace hr:=cond_some hr
  obtain ⟨hn,hr⟩:=hr
  rw [(shIn S l fx ts env bs).ok _ _ hx,pair_none hn,decP_enc hps]
  refine ⟨ps.length+1,?_⟩
  have:=loopAll_spec hS l fx ts env bs Y ps (Nat.le_of_ble_eq_true h200) β K ps.length 0 x.2 (by omega)
  rw [List.drop_zero] at this
  exact this.trans hr
 ·cases hr
theorem ΓOnC_all {Q:FuncId->Callee->Prop} (h1:Q 128 gMay) (h2:Q 208 gOnF):∀ f g,ΓOnC f=some g->Q f g:=fun f g h=>by
 unfold ΓOnC at h
 cases e1:Nat.beq f 128 with
 | true=>rw [e1] at h;have:=beq_true e1;subst this;cases h;exact h1
 | false=>
  rw [e1] at h
  obtain ⟨hb,rfl⟩:=cond_some1 h
  have:=beq_true hb
  subst this
  exact h2
theorem ΓOnC_sound:∀ f g,ΓOnC f=some g->SoundC Go.Proofs.Tryz.prog f g:=ΓOnC_all may_sound onF_sound
theorem ΓOnC_nat:∀ f g,ΓOnC f=some g->NatC g:=ΓOnC_all (Q:=fun _ g=>NatC g) may_nat onF_nat
theorem cond_some3.{u} {b:Bool} {α:Type u} {g g':α} (h:(bif b then some g else none)=some g'):b=true/\g=g':=by
 cases b with
 | true=>exact ⟨rfl,Option.some.inj h⟩
 | false=>cases h
theorem nxAll {S:Sh} {l:Nat} {fx:Loop} {ts:List Nat} {env:List CV} {bs:List Nat} {Y:YSem} (hY:NatYS Y):NatX (cxAll S l fx ts env bs Y) where
 c:=ΓOnC_nat
 y:=fun y h=>by cases h;exact gY_nat (guard_nat hY)
 it:=fun f G h=>by obtain ⟨_,rfl⟩:=cond_some3 h;exact restr0_nat (Gon_nat _)
 rf:=fun q R h en=>by
  obtain ⟨_,rfl⟩:=cond_some3 h
  unfold rfIn
  dsimp only
  split
  ·rename_i k
   cases Nat.beq k (S.n+1) with
   | true=>exact Yin_nat hY
   | false=>exact fun _ _ => .none
  ·exact fun _ _ => .none
theorem roundsAll {S:Sh} (hS:AllSteps S) (l:Nat) (fx:Loop) (ts:List Nat) (env:List CV) (bs:List Nat) (Y:YSem):RoundsS (cxAll S l fx ts env bs Y):=fun p R g ps asg bd h hp en args conts β K r hr=>by
 obtain ⟨hq,rfl⟩:=cond_some3 h
 have hp0:=pathN_inj p pathIn (beq_true hq)
 subst hp0
 have hpp:codeAt (bodyOf Go.Proofs.Tryz.f207) pathIn=some (.rangeFunc (.tmp 15) #[16] asIn bdIn):=by kernel_rfl
 have hp':codeAt (bodyOf Go.Proofs.Tryz.f207) pathIn=some (.rangeFunc g ps asg bd):=hp
 rw [hpp] at hp'
 cases hp'
 unfold rfIn at hr
 dsimp only at hr
 split at hr
 ·rename_i k
  cases hk:Nat.beq k (S.n+1) with
  | false=>rw [hk] at hr;cases hr
  | true=>
   rw [hk,cond_true] at hr
   have hk:=beq_true hk
   subst hk
   unfold Yin at hr
   split at hr
   ·rename_i a b
    replace hr:=bind_some' hr
    obtain ⟨x,hx,hr⟩:=hr
    replace hr:=cond_some hr
    obtain ⟨hn,hr⟩:=hr
    rw [(shIn S l fx ts env bs).ok _ _ hx,pair_none hn]
    show roundB (cxAll S l fx ts env bs Y) [2] pathIn [16] asIn bdIn _ _ _ K=some r
    rw [hS.rd,<- hr]
    simp only [decide_true,okC_self,cond_true]
    exact congrArg (Y _ _ β) (funext fun s=>funext fun co=>congrArg (Option.bind (S.dec co)) (funext fun x'=>by cases s <;> rfl))
   ·cases hr
 ·cases hr
theorem allI {S:Sh} (hS:AllSteps S):SoundI Go.Proofs.Tryz.prog 207 (Gall S):=by
 intro l fx ts env bs n Y hY hSY
 by_cases hn:n=S.n
 ·subst hn
  refine SoundC.of (fnSoundY (cx:=cxAll S l fx ts env bs Y) (fn:=Go.Proofs.Tryz.f207) ΓOnC_sound (nxAll hY) ⟨eqOK_none fun _=>rfl,fun y h=>(by cases h;exact guard_soundY hY hSY),fun f G h=>(by
    obtain ⟨hf,rfl⟩:=cond_some3 h
    have:=beq_true hf
    subst this
    exact restr0_sound (Gon_nat _) (onI (hS.on l fx ts env bs))),roundsAll hS l fx ts env bs Y,fun f n h=>(by cases h)⟩
   (loopsAll hS l fx ts env bs Y) (fun q L h=>by obtain ⟨_,rfl⟩:=cond_some2 h;exact loopAll_nat hY) Go.Proofs.Tryz.func207 (by kernel_rfl) (by kernel_rfl) (by kernel_rfl) (Nat.le_of_ble_eq_true (by kernel_rfl))) fun args conts β K r h => ?_
  unfold hI at h
  dsimp only at h
  split at h
  ·rename_i l' caps c cs
   replace h:=cond_some h
   obtain ⟨hb,h⟩:=h
   simp only [Bool.and_eq_true,decide_eq_true_eq] at hb
   obtain ⟨⟨rfl,hc⟩,_⟩:=hb
   obtain rfl:=okC_eq hc
   unfold Gall at h
   split at h
   ·rename_i L
    replace h:=bind_some' h
    obtain ⟨ps,hps,h⟩:=h
    replace h:=bind_some' h
    obtain ⟨x,hx,h⟩:=h
    replace h:=cond_some h
    obtain ⟨h200,h⟩:=h
    obtain rfl:=S.ok _ _ hx
    have hle:=Nat.le_of_ble_eq_true h200
    have hsm:Nat.ble ps.length SMALL=true:=Nat.ble_eq_true_of_le (by have:SMALL=1152921504606846976:=rfl;omega)
    rw [fnC_run,hS.fn,hps,<- h]
    simp only [Option.bind_some,hsm,h200,decP_len hps,decide_true,Nat.beq_refl,Bool.and_self,cond_true,bind_in,Option.isNone_none]
    cases may ps with
    | false=>rfl
    | true=>
     simp only [Bool.not_true,cond_false,cond_true]
     congr 1
     funext s x'
     cases s <;> rfl
   ·cases h
  ·cases h
 ·refine ⟨⟨Go.Proofs.Tryz.f207,Go.Proofs.Tryz.func207,by kernel_rfl,by kernel_rfl⟩,fun args conts β K r h => ?_⟩
  exact absurd h (hI_ne hn fun Y caps cs β K r h=>by
   unfold Gall at h
   split at h
   ·replace h:=bind_some' h
    obtain ⟨ps,hps,h⟩:=h
    replace h:=bind_some' h
    obtain ⟨x,hx,h⟩:=h
    rw [S.ok _ _ hx,S.len]
   ·cases h)
end Go.Ab

namespace Go.Ab
open Go
set_option maxRecDepth 100000
def atV (cs:List Cell):List (List CV):=cs.map fun c=>[CV.int .i64 c.1]
theorem Yout_nat:NatYS Yout:=fun args conts=>by
 unfold Yout
 split
 ·split
  ·exact .ret _ _
  ·exact .none
 ·exact .none
theorem runC_out:∀ (cs:List Cell) (O:List (List CV)) (β:Type) (K:Option Nat->List (List CV)->Option β),O.length+cs.length<=LIM->runC shO Yout cs O β K=K none (O++atV cs)
 | [],O,β,K,_=>by simp [runC,atV]
 | c::cs,O,β,K,h=>by
  simp only [List.length_cons] at h
  have hl:(O++[[CV.int .i64 c.1]]).length<=LIM:=by simp;omega
  have:=runC_out cs (O++[[CV.int .i64 c.1]]) β K (by simp;omega)
  simp only [runC,cellV,shO,Yout,if_pos hl,decO,Option.bind_some,selS] at this ⊢
  rw [this]
  simp [atV]
theorem cellRow_len (a w:Int):∀ (n i:Nat),(cellRow a w i n).length=n
 | 0,_=>rfl
 | n+1,i=>by simp [cellRow,cellRow_len a w n]
theorem cellsP_len (p:Int) (q:Pg):(cellsP p q).length<=8:=by
 unfold cellsP
 have:=cellsN_le q.2
 cases q.1==2 <;> cases q.1==1 <;> simp [cellRow_len] <;> omega
theorem allFrom_len:∀ (ps:List Pg) (i:Nat),(allFrom i ps).length<=8*ps.length
 | [],_=>Nat.le_refl _
 | q::r,i=>by
  have h1:=cellsP_len (i:Int) q
  have h2:=allFrom_len r (i+1)
  simp only [allFrom,List.length_append,List.length_cons]
  omega
def allCs (ps:List Pg):List Cell:=cond (may ps) (allFrom 0 ps) []
def gAllC:Callee:=⟨fun args conts _ K=>match args,conts with
 | [.sl 2 L],[]=>(decP L).bind fun ps=>bif Nat.ble ps.length 200 then K (.own 1 (atV (allCs ps))) [] else none
 | _,_=>none⟩
theorem allC_nat:NatC gAllC:=fun args conts=>by
 unfold gAllC
 dsimp only
 split
 ·exact .bind _ fun _ => .cond _ (.ret _ _) .none
 ·exact .none
theorem rfOn_nat (en:List CV):NatYS (rfOn.Y en):=by
 unfold rfOn
 dsimp only
 split
 ·exact Yout_nat
 ·exact fun _ _ => .none
/-! ### All -/
abbrev pathAllR:List Bool:=[false,true,false,true,true]
noncomputable abbrev asAll:Code:=(codeAt (bodyOf Go.Proofs.Tryz.f68) (false::pathAllR)).getD .skip
noncomputable abbrev bdAll:Code:=(codeAt (bodyOf Go.Proofs.Tryz.f68) (true::pathAllR)).getD .skip
def rfAll:RfSem:=⟨[3],rfOn.Y⟩
def ΓAllC:FuncId->Option Callee:=fun f=>bif Nat.beq f 136 then some gAllF else none
theorem ΓAllC_sound:∀ f g,ΓAllC f=some g->SoundC Go.Proofs.Tryz.prog f g:=fun f g h=>by
 unfold ΓAllC at h
 obtain ⟨hb,rfl⟩:=cond_some1 h
 have:=beq_true hb
 subst this
 exact allF_sound
theorem ΓAllC_nat:∀ f g,ΓAllC f=some g->NatC g:=fun f g h=>by
 unfold ΓAllC at h
 obtain ⟨_,rfl⟩:=cond_some1 h
 exact allF_nat
noncomputable def cx12:Cx:=
 {P:=Go.Proofs.Tryz.prog,nt:=14,Γ:=ΓAllC,Λ:=fun _=>none,un:=fun _=>false,root:=bodyOf Go.Proofs.Tryz.f68,wr:=fun _=>false,eqT:=fun _=>false,It:=fun f=>bif Nat.beq f 207 then some (restr0 (Gall shO)) else none,rf:=fun q=>bif Nat.beq q 58 then some rfAll else none}
theorem roundAll (a b:Int) (O:List (List CV)) (β:Type) (K:Option Nat->List (List CV)->Option β):roundB cx12 [3] pathAllR [7] asAll bdAll [.ref 0] [.agg [.int .i64 a,.int .i64 b]] [[.own 1 O]] K=
 if (O++[[CV.int .i64 a]]).length<=LIM then K none [[.own 1 (O++[[.int .i64 a]])]] else none:=by kernel_rfl
theorem stepAllC (L:List (List CV)) (β:Type) (K:CV->List (List CV)->Option β):fnK cx12 Go.Proofs.Tryz.f68 [.sl 2 L] [] K=
 (decP L).bind fun ps=>(shO.dec [[.own 1 []]]).bind fun x=>bif Nat.ble ps.length 200 then cond (may ps) (runC shO Yout (allFrom 0 ps) x β fun s x'=>selS s (K (.own 1 x') []) fun k=>bif Nat.beq k 0 then K (.own 1 []) [] else none) (K (.own 1 x) []) else none:=by kernel_rfl
theorem nx12:NatX cx12 where
 c:=ΓAllC_nat
 y:=fun y h=>by cases h
 it:=fun f G h=>by obtain ⟨_,rfl⟩:=cond_some3 h;exact restr0_nat (Gall_nat _)
 rf:=fun q R h en=>by obtain ⟨_,rfl⟩:=cond_some3 h;exact rfOn_nat en
theorem rounds12:RoundsS cx12:=fun p R g ps asg bd h hp en args conts β K r hr=>by
 obtain ⟨hq,rfl⟩:=cond_some3 h
 have hp0:=pathN_inj p pathAllR (beq_true hq)
 subst hp0
 have hpp:codeAt (bodyOf Go.Proofs.Tryz.f68) pathAllR=some (.rangeFunc (.tmp 6) #[7] asAll bdAll):=by kernel_rfl
 have hp':codeAt (bodyOf Go.Proofs.Tryz.f68) pathAllR=some (.rangeFunc g ps asg bd):=hp
 rw [hpp] at hp'
 cases hp'
 unfold rfAll rfOn at hr
 dsimp only at hr
 split at hr
 ·unfold Yout at hr
  split at hr
  ·rename_i a b O
   exact (roundAll a b O β K).trans hr
  ·cases hr
 ·cases hr
theorem allC_sound:SoundC Go.Proofs.Tryz.prog 68 gAllC:=
 SoundC.of (fnSoundY (cx:=cx12) (fn:=Go.Proofs.Tryz.f68) ΓAllC_sound nx12 ⟨eqOK_none fun _=>rfl,fun y h=>(by cases h),fun f G h=>(by
   obtain ⟨hf,rfl⟩:=cond_some3 h
   have:=beq_true hf
   subst this
   exact restr0_sound (Gall_nat _) (allI allSteps_O)),rounds12,fun f n h=>(by cases h)⟩ (fun p L b h=>by cases h) (fun q L h=>by cases h)
  Go.Proofs.Tryz.func68 (by kernel_rfl) (by kernel_rfl) (by kernel_rfl) (Nat.le_of_ble_eq_true (by kernel_rfl)))
  fun args conts β K r h=>by
   unfold gAllC at h
   dsimp only at h
   split at h
   ·rename_i L
    replace h:=bind_some' h
    obtain ⟨ps,hps,h⟩:=h
    replace h:=cond_some h
    obtain ⟨h200,h⟩:=h
    rw [fnC_run,stepAllC,hps,<- h]
    unfold allCs
    simp only [show shO.dec [[.own 1 []]]=some [] from rfl,Option.bind_some,h200,cond_true]
    cases may ps with
    | false=>rfl
    | true=>
     simp only [cond_true]
     refine (runC_out _ [] β _ ?_).trans ?_
     ·have:=allFrom_len ps 0
      have:=Nat.le_of_ble_eq_true h200
      have:LIM=4294967296:=rfl
      simp
      omega
     ·rfl
   ·cases h
end Go.Ab

namespace Go.Ab
open Go
set_option maxRecDepth 100000
def decF (f:Nat):List (List CV)->Option (Int×Int×Int×Bool)
 | [[.fn f' [.int .i64 a] []],[.int .i64 x,.int .i64 y],[.bool b]]=>bif Nat.beq f' f then some (a,x,y,b) else none
 | _=>none
def shF (f:Nat):Sh where
 T:=Int×Int×Int×Bool
 n:=3
 un:=fun x=>[[.fn f [.int .i64 x.1] []],[.int .i64 x.2.1,.int .i64 x.2.2.1],[.bool x.2.2.2]]
 dec:=decF f
 ok:=fun co x h=>by
  unfold decF at h
  split at h
  ·replace h:=cond_some h
   obtain ⟨hb,h⟩:=h
   have:=beq_true hb
   subst this
   cases h
   rfl
  ·cases h
 dec_un:=fun x=>by simp [decF]
 len:=fun _=>rfl
theorem onSteps_inF (f:Nat) (l:Nat) (fx:Loop) (ts:List Nat) (env:List CV) (bs:List Nat):OnSteps (shIn (shF f) l fx ts env bs) where
 loop:=fun l fx ts env bs Y a w n β K m i x=>by kernel_rfl
 fn:=fun l fx ts env bs Y L p x β K=>by kernel_rfl
theorem allSteps_F (f:Nat):AllSteps (shF f) where
 on:=onSteps_inF f
 rd:=fun l fx ts env bs Y a b x β K=>by kernel_rfl
 loop:=fun l fx ts env bs Y L n β K m i x=>by kernel_rfl
 fn:=fun l fx ts env bs Y L x β K=>by kernel_rfl
abbrev pathF:List Bool:=[false,true,false,true]
noncomputable abbrev asF:Code:=(codeAt (bodyOf Go.Proofs.Tryz.f140) (false::pathF)).getD .skip
noncomputable abbrev bdF:Code:=(codeAt (bodyOf Go.Proofs.Tryz.f140) (true::pathF)).getD .skip
def Yf (f:Nat):YSem:=fun args conts _ K=>match args with
 | [.agg [.int .i64 a,.int .i64 b]]=>((shF f).dec conts).bind fun x=>bif predB f x.1 a b then K (some 0) ((shF f).un (x.1,a,b,true)) else K none ((shF f).un x)
 | _=>none
def rfF (f:Nat):RfSem:=⟨[3,4,5],fun en=>match en with
 | [.ref 0,.ref 1,.ref 2]=>Yf f
 | _=>fun _ _ _ _=>none⟩
def ΓF:FuncId->Option Callee:=lookL [(136,gAllF),(141,gPred 141)]
noncomputable def cx28 (f:Nat):Cx:=
 {P:=Go.Proofs.Tryz.prog,nt:=15,Γ:=ΓF,Λ:=fun _=>none,un:=fun _=>false,root:=bodyOf Go.Proofs.Tryz.f140,wr:=fun _=>false,eqT:=fun _=>false,It:=fun k=>bif Nat.beq k 207 then some (restr0 (Gall (shF f))) else none,rf:=fun q=>bif Nat.beq q 26 then some (rfF f) else none}
structure FirstSteps (f:Nat):Prop where
 rd:∀ (a b:Int) (x:Int×Int×Int×Bool) (β:Type) (K:Option Nat->List (List CV)->Option β),roundB (cx28 f) [3,4,5] pathF [9] asF bdF [.ref 0,.ref 1,.ref 2] [.agg [.int .i64 a,.int .i64 b]] ((shF f).un x) K=
  cond (predB f x.1 a b) (K (some 0) ((shF f).un (x.1,a,b,true))) (K none ((shF f).un x))
 fn:∀ (L:List (List CV)) (a:Int) (β:Type) (K:CV->List (List CV)->Option β),fnK (cx28 f) Go.Proofs.Tryz.f140 [.sl 2 L,.fn f [.int .i64 a] []] [] K=
  (decP L).bind fun ps=>((shF f).dec ((shF f).un (a,0,0,false))).bind fun x=>bif Nat.ble ps.length 200 then
   cond (may ps) (runC (shF f) (Yf f) (allFrom 0 ps) x β fun s x'=>selS s (K (.tup [.agg [.int .i64 0,.int .i64 0],.bool false]) []) fun k=>bif Nat.beq k 0 then K (.tup [.agg [.int .i64 x'.2.1,.int .i64 x'.2.2.1],.bool x'.2.2.2]) [] else none)
    (K (.tup [.agg [.int .i64 0,.int .i64 0],.bool false]) []) else none
theorem firstSteps29:FirstSteps 141 where
 rd:=fun a b x β K=>by kernel_rfl
 fn:=fun L a β K=>by kernel_rfl
end Go.Ab

namespace Go.Ab
open Go
set_option maxRecDepth 100000
def firstC (f:Nat) (a:Int) (cs:List Cell):Option Cell:=cs.find? fun c=>predB f a c.1 c.2
theorem runC_first (f:Nat) (a:Int):∀ (cs:List Cell) (β:Type) (K:Option Nat->Int×Int×Int×Bool->Option β),runC (shF f) (Yf f) cs (a,0,0,false) β K=match firstC f a cs with
  | some c=>K (some 0) (a,c.1,c.2,true)
  | none=>K none (a,0,0,false)
 | [],β,K=>rfl
 | c::cs,β,K=>by
  have hd:∀ (x:Int×Int×Int×Bool) {γ:Type} (g:(shF f).T->Option γ),((shF f).dec ((shF f).un x)).bind g=g x:=fun x γ g=>by rw [(shF f).dec_un x];rfl
  simp only [runC,cellV,Yf,firstC,List.find?_cons]
  rw [hd]
  cases predB f a c.1 c.2 with
  | true=>
   simp only [cond_true]
   rw [hd]
   rfl
  | false=>
   simp only [cond_false]
   rw [hd]
   exact runC_first f a cs β K
def okF (f:Nat):Bool:=Nat.beq f 141
def gFirst:Callee:=⟨fun args conts _ K=>match args,conts with
 | [.sl 2 L,.fn f [.int .i64 a] []],[]=>(decP L).bind fun ps=>bif Nat.ble ps.length 200&&okF f then K (.tup [.agg [.int .i64 (optE (firstC f a (allCs ps)) 0 (·.1)),.int .i64 (optE (firstC f a (allCs ps)) 0 (·.2))],.bool (firstC f a (allCs ps)).isSome]) [] else none
 | _,_=>none⟩
theorem first_nat:NatC gFirst:=fun args conts=>by
 unfold gFirst
 dsimp only
 split
 ·exact .bind _ fun _ => .cond _ (.ret _ _) .none
 ·exact .none
theorem ΓF_good:Good Go.Proofs.Tryz.prog [(136,gAllF),(141,gPred 141)]:=Good.cons ⟨allF_sound,allF_nat⟩ (Good.cons ⟨at_sound,pred_nat _⟩ Good.nil)
theorem ΓF_sound:∀ f g,ΓF f=some g->SoundC Go.Proofs.Tryz.prog f g:=fun f g h=>(ΓF_good f g h).s
theorem ΓF_nat:∀ f g,ΓF f=some g->NatC g:=fun f g h=>(ΓF_good f g h).n
theorem Yf_nat (f:Nat):NatYS (Yf f):=fun args conts=>by
 unfold Yf
 split
 ·exact .bind _ fun _ => .cond _ (.ret _ _) (.ret _ _)
 ·exact .none
theorem nx28 (f:Nat):NatX (cx28 f) where
 c:=ΓF_nat
 y:=fun y h=>by cases h
 it:=fun f G h=>by obtain ⟨_,rfl⟩:=cond_some3 h;exact restr0_nat (Gall_nat _)
 rf:=fun q R h en=>by
  obtain ⟨_,rfl⟩:=cond_some3 h
  unfold rfF
  dsimp only
  split
  ·exact Yf_nat f
  ·exact fun _ _ => .none
theorem rounds28 {f:Nat} (hf:FirstSteps f):RoundsS (cx28 f):=fun p R g ps asg bd h hp en args conts β K r hr=>by
 obtain ⟨hq,rfl⟩:=cond_some3 h
 have hp0:=pathN_inj p pathF (beq_true hq)
 subst hp0
 have hpp:codeAt (bodyOf Go.Proofs.Tryz.f140) pathF=some (.rangeFunc (.tmp 8) #[9] asF bdF):=by kernel_rfl
 have hp':codeAt (bodyOf Go.Proofs.Tryz.f140) pathF=some (.rangeFunc g ps asg bd):=hp
 rw [hpp] at hp'
 cases hp'
 unfold rfF at hr
 dsimp only at hr
 split at hr
 ·unfold Yf at hr
  split at hr
  ·rename_i a b
   replace hr:=bind_some' hr
   obtain ⟨x,hx,hr⟩:=hr
   rw [(shF f).ok _ _ hx]
   exact (hf.rd a b x β K).trans hr
  ·cases hr
 ·cases hr
theorem first_sound_of {f:Nat} (hf:FirstSteps f):SoundC Go.Proofs.Tryz.prog 140 (fnC (cx28 f) Go.Proofs.Tryz.f140):=
 fnSoundY (cx:=cx28 f) (fn:=Go.Proofs.Tryz.f140) ΓF_sound (nx28 f) ⟨eqOK_none fun _=>rfl,fun y h=>(by cases h),fun k G h=>(by
   obtain ⟨hk,rfl⟩:=cond_some3 h
   have:=beq_true hk
   subst this
   exact restr0_sound (Gall_nat _) (allI (allSteps_F f))),rounds28 hf,fun f n h=>(by cases h)⟩ (fun p L b h=>by cases h) (fun q L h=>by cases h)
  Go.Proofs.Tryz.func140 (by kernel_rfl) (by kernel_rfl) (by kernel_rfl) (Nat.le_of_ble_eq_true (by kernel_rfl))
theorem first_run {f:Nat} (hf:FirstSteps f) {ps:List Pg} (h200:Nat.ble ps.length 200=true) (a:Int) (β:Type) (K:CV->List (List CV)->Option β):fnK (cx28 f) Go.Proofs.Tryz.f140 [.sl 2 (ps.map encP),.fn f [.int .i64 a] []] [] K=
  K (.tup [.agg [.int .i64 (optE (firstC f a (allCs ps)) 0 (·.1)),.int .i64 (optE (firstC f a (allCs ps)) 0 (·.2))],.bool (firstC f a (allCs ps)).isSome]) []:=by
 have hd:∀ (x:Int×Int×Int×Bool) {γ:Type} (g:(shF f).T->Option γ),((shF f).dec ((shF f).un x)).bind g=g x:=fun x γ g=>by rw [(shF f).dec_un x];rfl
 rw [hf.fn]
 simp only [decP_map,Option.bind_some]
 rw [hd]
 simp only [h200,cond_true]
 unfold allCs
 cases may ps with
 | false=>rfl
 | true=>
  simp only [cond_true]
  refine (runC_first f a (allFrom 0 ps) β _).trans ?_
  cases firstC f a (allFrom 0 ps) with
  | none=>rfl
  | some c=>rfl
theorem first_sound:SoundC Go.Proofs.Tryz.prog 140 gFirst:=by
 refine ⟨(first_sound_of firstSteps29).enter,fun args conts β K r h => ?_⟩
 unfold gFirst at h
 dsimp only at h
 split at h
 ·rename_i L f a
  replace h:=bind_some' h
  obtain ⟨ps,hps,h⟩:=h
  replace h:=cond_some h
  obtain ⟨hb,h⟩:=h
  simp only [Bool.and_eq_true] at hb
  obtain ⟨h200,hf⟩:=hb
  obtain rfl:=decP_enc hps
  have go:∀ (hf:FirstSteps f),_:=fun hf=>(first_sound_of hf).calls [.sl 2 (ps.map encP),.fn f [.int .i64 a] []] [] β K r ((first_run hf h200 a β K).trans h)
  have:=beq_true hf
  subst this
  exact go firstSteps29
 ·cases h
def ΓQ:FuncId->Option Callee:=fun f=>bif Nat.beq f 140 then some gFirst else none
theorem ΓQ_sound:∀ f g,ΓQ f=some g->SoundC Go.Proofs.Tryz.prog f g:=fun f g h=>by
 unfold ΓQ at h
 obtain ⟨hb,rfl⟩:=cond_some1 h
 have:=beq_true hb
 subst this
 exact first_sound
theorem ΓQ_nat:∀ f g,ΓQ f=some g->NatC g:=fun f g h=>by
 unfold ΓQ at h
 obtain ⟨_,rfl⟩:=cond_some1 h
 exact first_nat
def roomA (ps:List Pg) (a:Int):Int:=optE (firstC 141 a (allCs ps)) 0 (·.2)
def gRoom:Callee:=⟨fun args conts _ K=>match args,conts with
 | [.sl 2 L,.int .i64 a],[]=>(decP L).bind fun ps=>bif Nat.ble ps.length 200 then K (.int .i64 (roomA ps a)) [] else none
 | _,_=>none⟩
theorem room_nat:NatC gRoom:=fun args conts=>by
 unfold gRoom
 dsimp only
 split
 ·exact .bind _ fun _ => .cond _ (.ret _ _) .none
 ·exact .none
theorem room_step (L:List (List CV)) (a:Int) (β:Type) (K:CV->List (List CV)->Option β):fnK (cxT 16 (bodyOf Go.Proofs.Tryz.f73) ΓQ (fun _=>false)) Go.Proofs.Tryz.f73 [.sl 2 L,.int .i64 a] [] K=
 (decP L).bind fun ps=>bif Nat.ble ps.length 200&&okF 141 then K (.int .i64 (optE (firstC 141 a (allCs ps)) 0 (·.2))) [] else none:=by kernel_rfl
theorem room_sound:SoundC Go.Proofs.Tryz.prog 73 gRoom:=
 SoundC.of (plain_sound (n:=16) (wr:=fun _=>false) ΓQ_sound ΓQ_nat Go.Proofs.Tryz.func73 (by kernel_rfl) (by kernel_rfl) (by kernel_rfl) (Nat.le_of_ble_eq_true (by kernel_rfl)))
  fun args conts β K r h=>by
   unfold gRoom at h
   dsimp only at h
   split at h
   ·rw [fnC_run,room_step,show okF 141=true from rfl];simp only [Bool.and_true];exact h
   ·cases h
end Go.Ab

namespace Go.Ab
open Go
set_option maxRecDepth 100000
def encI (xs:List Int):List (List CV):=xs.map fun a=>[CV.int .i64 a]
def dec1:List CV->Option Int
 | [.int .i64 a]=>some a
 | _=>none
def decI (L:List (List CV)):Option (List Int):=mapO dec1 L
theorem decI_enc:∀ {L:List (List CV)} {xs:List Int},decI L=some xs->L=encI xs
 | [],xs,h=>by
  simp only [decI,mapO,Option.some.injEq] at h
  subst h
  rfl
 | l::L,xs,h=>by
  simp only [decI,mapO] at h
  obtain ⟨p,hp,h⟩:=bind_some' h
  obtain ⟨qs,hq,h⟩:=bind_some' h
  cases h
  have e1:l=[CV.int .i64 p]:=by
   unfold dec1 at hp
   split at hp
   ·cases hp;rfl
   ·cases hp
  rw [e1,decI_enc (xs:=qs) hq]
  rfl
@[simp] theorem decI_map (xs:List Int):decI (encI xs)=some xs:=by
 induction xs with
 | nil=>rfl
 | cons p ps ih=>
  simp only [decI,encI] at ih
  simp [decI,encI,mapO,dec1,ih]
@[simp] theorem encI_len (xs:List Int):(encI xs).length=xs.length:=by simp [encI]
theorem rdE_int {xs:List Int} {i:Nat} (h:i<xs.length) {γ:Type} (f:List CV->Option γ):(rdE (encI xs) (i:Int)).bind f=f [CV.int .i64 xs[i]]:=by
 simp [rdE,h,encI]
theorem atV_enc (cs:List Cell):atV cs=encI (cs.map (·.1)):=by simp [atV,encI]
abbrev path17:List Bool:=[false,true,false,true,true]
noncomputable abbrev body17:Code:=(codeAt (bodyOf Go.Proofs.Tryz.f57) (false::path17)).getD .skip
def outs17:Exit->List Nat:=fun e=>match e with | .ret=>[4] | _=>[]
def loop17:LoopSem:=⟨[5,0,1],outs17,fun vs cs _ K=>match vs,cs with
 | [.int .i64 i,.sl 1 L,.sl 1 M],[]=>(decI L).bind fun ps=>(decI M).bind fun qs=>bif decide (i=0)&&decide (ps.length=qs.length)&&Nat.ble ps.length 65536 then cond (ps==qs) (K (.exit 0) [] []) (K .ret [.bool false] []) else none
 | _,_=>none⟩
noncomputable def cx17:Cx:=cxP 26 (bodyOf Go.Proofs.Tryz.f57) Γ0 (fun q=>bif Nat.beq q 58 then some loop17 else none) (fun _=>false)
noncomputable def LB17 (L M:List (List CV)) (β:Type) (K:Exit->List CV->List (List CV)->Option β) (m:Nat) (i:Int):Option β:=
 loopB cx17 [5,0,1] outs17 path17 body17 m [.int .i64 i,.sl 1 L,.sl 1 M] [] K
theorem step17 (L M:List (List CV)) (β:Type) (K:Exit->List CV->List (List CV)->Option β) (m:Nat) (i:Int):LB17 L M β K (m+1) i=
 cond (decide (i<(L.length:Int))) ((rdE L i).bind fun c=>(c[0]?).bind fun x=>(asI .i64 x).bind fun a=>(rdE M i).bind fun c=>(c[0]?).bind fun x=>(asI .i64 x).bind fun b=>cond (a != b) (K .ret [.bool false] []) (LB17 L M β K m (IntKind.i64.wrap (i+1)))) (K (.exit 0) [] []):=by kernel_rfl
theorem step17f (L M:List (List CV)) (β:Type) (K:CV->List (List CV)->Option β):fnK cx17 Go.Proofs.Tryz.f57 [.sl 1 L,.sl 1 M] [] K=
 cond ((L.length:Int) != (M.length:Int)) (K (.bool false) []) ((decI L).bind fun ps=>(decI M).bind fun qs=>bif true&&decide (ps.length=qs.length)&&Nat.ble ps.length 65536 then cond (ps==qs) (K (.bool true) []) (K (.bool false) []) else none):=by kernel_rfl
theorem loop17_spec (ps qs:List Int) (he:ps.length=qs.length) (hs:ps.length<=65536) (β:Type) (K:Exit->List CV->List (List CV)->Option β):∀ (m i:Nat),ps.length - i<=m->i<=ps.length->
  LB17 (encI ps) (encI qs) β K (m+1) i=cond (ps.drop i==qs.drop i) (K (.exit 0) [] []) (K .ret [.bool false] []):=by
 intro m
 have fin:∀ (m i:Nat),i=ps.length->LB17 (encI ps) (encI qs) β K (m+1) i=cond (ps.drop i==qs.drop i) (K (.exit 0) [] []) (K .ret [.bool false] []):=fun m i hi=>by
  subst hi
  rw [step17,List.drop_length,show qs.drop ps.length=[] by rw [he,List.drop_length]]
  simp
 induction m with
 | zero=>exact fun i hm hi=>fin 0 i (by omega)
 | succ m ih=>
  intro i hm hi
  by_cases hl:i<ps.length
  ·have hl':i<qs.length:=by omega
   have e1:decide ((i:Int)<((encI ps).length:Int))=true:=by simp;omega
   rw [step17,e1,cond_true,rdE_int hl]
   simp only [List.getElem?_cons_zero,Option.bind_some,asI,if_true]
   rw [rdE_int hl',IntWalk.i64_in ((i:Int)+1) (by omega)]
   have hd:ps.drop i=ps[i]::ps.drop (i+1):=List.drop_eq_getElem_cons hl
   have hd':qs.drop i=qs[i]::qs.drop (i+1):=List.drop_eq_getElem_cons hl'
   rw [hd,hd']
   simp only [List.getElem?_cons_zero,Option.bind_some,if_true]
   rw [show ((i:Int)+1)=((i+1:Nat):Int) by omega,ih (i+1) (by omega) (by omega)]
   have hc:(ps[i]::ps.drop (i+1)==qs[i]::qs.drop (i+1))=(ps[i]==qs[i]&&ps.drop (i+1)==qs.drop (i+1)):=rfl
   rw [hc]
   simp only [bne]
   cases (ps[i]==qs[i]) <;> rfl
  ·exact fin (m+1) i (by omega)
theorem loop17_nat:NatL loop17:=fun vs cs=>by
 unfold loop17
 dsimp only
 split
 ·exact .bind _ fun _ => .bind _ fun _ => .cond _ (.cond _ (.ret _ _ _) (.ret _ _ _)) .none
 ·exact .none
theorem loops17:LoopsS cx17 := .of fun k L h=>by
 obtain ⟨hk,rfl⟩:=cond_some2 h
 refine ⟨path17,beq_true hk,fun vs cs β K r hr => ?_⟩
 unfold loop17 at hr
 dsimp only at hr
 split at hr
 ·rename_i i L M
  replace hr:=bind_some' hr
  obtain ⟨ps,hps,hr⟩:=hr
  replace hr:=bind_some' hr
  obtain ⟨qs,hqs,hr⟩:=hr
  replace hr:=cond_some hr
  obtain ⟨hb,hr⟩:=hr
  simp only [Bool.and_eq_true,decide_eq_true_eq] at hb
  obtain ⟨⟨rfl,he⟩,hs⟩:=hb
  have hs:=Nat.le_of_ble_eq_true hs
  rw [decI_enc hps,decI_enc hqs]
  refine ⟨ps.length+1,?_⟩
  have:=loop17_spec ps qs he hs β K ps.length 0 (by omega) (by omega)
  rw [List.drop_zero,List.drop_zero] at this
  exact this.trans hr
 ·cases hr
def gInts:Callee:=⟨fun args conts _ K=>match args,conts with
 | [.sl 1 L,.sl 1 M],[]=>(decI L).bind fun ps=>(decI M).bind fun qs=>bif Nat.ble ps.length 65536 then K (.bool (ps==qs)) [] else none
 | _,_=>none⟩
theorem ints_nat:NatC gInts:=fun args conts=>by
 unfold gInts
 dsimp only
 split
 ·exact .bind _ fun _ => .bind _ fun _ => .cond _ (.ret _ _) .none
 ·exact .none
theorem ints_sound:SoundC Go.Proofs.Tryz.prog 57 gInts:=
 SoundC.of (fnSound (cx:=cx17) (fn:=Go.Proofs.Tryz.f57) Γ0_sound Γ0_nat (eqOK_none fun _=>rfl) loops17 (fun q L h=>by obtain ⟨_,rfl⟩:=cond_some2 h;exact loop17_nat)
  Go.Proofs.Tryz.func57 (by kernel_rfl) (by kernel_rfl) (by kernel_rfl) (Nat.le_of_ble_eq_true (by kernel_rfl)))
  fun args conts β K r h=>by
   unfold gInts at h
   dsimp only at h
   split at h
   ·rename_i L M
    replace h:=bind_some' h
    obtain ⟨ps,hps,h⟩:=h
    replace h:=bind_some' h
    obtain ⟨qs,hqs,h⟩:=h
    replace h:=cond_some h
    obtain ⟨hs,h⟩:=h
    rw [fnC_run,step17f,hps,hqs,decI_enc hps,decI_enc hqs,encI_len,encI_len,<- h]
    simp only [Option.bind_some,hs,Bool.and_true,Bool.true_and]
    by_cases he:ps.length=qs.length
    ·simp only [he,bne_self_eq_false,cond_false,decide_true,cond_true]
     cases ps==qs <;> rfl
    ·have hne:(ps==qs)=false:=beq_false_of_ne fun e=>he (by rw [e])
     have h1:((ps.length:Int) != (qs.length:Int))=true:=by simp;omega
     rw [h1,hne]
     rfl
   ·cases h
end Go.Ab

namespace Go.Ab
open Go
set_option maxRecDepth 100000
end Go.Ab

namespace Go.Ab
open Go
set_option maxRecDepth 100000
@[simp] theorem asI_i (n:Int):asI .i64 (.int .i64 n)=some n:=by simp [asI]
def chain:Int->List Cell->Prop
 | _,[]=>True
 | lo,c::cs=>lo<=c.1/\2<=c.2/\c.1<=65536/\c.2<=64/\chain (c.1+c.2) cs
theorem chain_mono:∀ {cs:List Cell} {lo lo':Int},lo'<=lo->chain lo cs->chain lo' cs
 | [],_,_,_,_=>trivial
 | _::_,_,_,h,⟨h1,h2⟩=>⟨by omega,h2⟩
theorem chain_append:∀ {cs ds:List Cell} {lo hi:Int},chain lo cs->(∀ c∈cs,c.1+c.2<=hi)->lo<=hi->chain hi ds->chain lo (cs++ds)
 | [],_,_,_,_,_,h,hd=>chain_mono h hd
 | c::cs,ds,lo,hi,⟨h1,h2,h3,h4,h5⟩,hb,_,hd=>⟨h1,h2,h3,h4,chain_append h5 (fun d hd=>hb d (by simp [hd])) (hb c (by simp)) hd⟩
theorem chain_mem:∀ {cs:List Cell} {lo:Int},chain lo cs->∀ c∈cs,lo<=c.1/\2<=c.2/\c.1<=65536/\c.2<=64
 | [],_,_,_,h=>by cases h
 | d::cs,lo,⟨h1,h2,h3,h4,h5⟩,c,h=>by
  rcases List.mem_cons.1 h with rfl | h
  ·exact ⟨h1,h2,h3,h4⟩
  ·have:=chain_mem h5 c h
   exact ⟨by omega,this.2⟩
theorem find29 {cs:List Cell} {lo:Int} (hc:chain lo cs):∀ c∈cs,firstC 141 c.1 cs=some c:=by
 induction cs generalizing lo with
 | nil=>intro c h;cases h
 | cons d cs ih=>
  obtain ⟨h1,h2,h3,h4,h5⟩:=hc
  intro c h
  show List.find? _ _=_
  rw [List.find?_cons]
  have hp:predB 141 c.1 d.1 d.2=(c.1==d.1):=rfl
  rw [hp]
  rcases List.mem_cons.1 h with rfl | h
  ·simp
  ·have:=chain_mem h5 c h
   have hf:(c.1==d.1)=false:=by simp;omega
   rw [hf]
   exact ih h5 c h
theorem of29 {a:Int} {cs:List Cell} {c:Cell} (h:firstC 141 a cs=some c):c∈cs/\c.1=a:=by
 have h1:=List.mem_of_find?_eq_some h
 have h2:=List.find?_some h
 have hp:predB 141 a c.1 c.2=(a==c.1):=rfl
 rw [hp] at h2
 exact ⟨h1,by simp at h2;exact h2.symm⟩
/-! ### The cells of pages -/
theorem cellRow_chain (a w:Int) (ha:0<=a/\a<=8192) (hw:2<=w/\w<=8):∀ (n i:Nat),i+n<=8->chain (a+i*w) (cellRow a w i n)
 | 0,_,_=>trivial
 | n+1,i,h=>by
  have hm:(i:Int)*w<=8*8:=Int.mul_le_mul (by omega) hw.2 (by omega) (by omega)
  refine ⟨Int.le_refl _,hw.1,by omega,by omega,?_⟩
  have:=cellRow_chain a w ha hw n (i+1) (by omega)
  rw [show a+(i:Int)*w+w=a+((i+1:Nat):Int)*w by rw [Int.natCast_add,Int.add_mul];simp;omega]
  exact this
theorem cellRow_hi (a w:Int) (hw:2<=w):∀ (n i:Nat),∀ c∈cellRow a w i n,c.1+c.2<=a+((i+n:Nat):Int)*w
 | 0,_,c,h=>by cases h
 | n+1,i,c,h=>by
  simp only [cellRow,List.mem_cons] at h
  rcases h with rfl | h
  ·have h1:((i+(n+1):Nat):Int)*w=(i:Int)*w+w+(n:Int)*w:=by rw [show ((i+(n+1):Nat):Int)=(i:Int)+1+n by omega,Int.add_mul,Int.add_mul,Int.one_mul]
   have h2:0<=(n:Int)*w:=Int.mul_nonneg (by omega) (by omega)
   show a+(i:Int)*w+w<=_
   omega
  ·have:=cellRow_hi a w hw n (i+1) c h
   rw [show i+(n+1)=i+1+n by omega]
   exact this
theorem small_full {b:Int} (h:0<=b/\b<=2):2<=wordsOf b/\wordsOf b<=8/\((cellsN b).toNat:Int)*wordsOf b=16/\(cellsN b).toNat<=8/\1<=(cellsN b).toNat:=by
 have:b=0\/b=1\/b=2:=by omega
 rcases this with rfl | rfl | rfl <;> decide
theorem beq_of {a b:Int} (h:a=b):(a==b)=true:=by simp [h]
theorem beq_ne {a b:Int} (h:a≠b):(a==b)=false:=by simp [h]
theorem mayGo_cons {r:Nat} {q:Pg} {ps:List Pg} {e:Int} (h:mayGo r (q::ps)=some e):
  (q.1=3/\∃ k,r=k+1/\mayGo k ps=some e)\/(r=0/\q=(0,0)/\mayGo (0:Nat) ps=some e)\/(r=0/\q.1=1/\(0<=q.2/\q.2<=2)/\mayGo (0:Nat) ps=some e)\/
   (r=0/\q.1=2/\(1<=q.2/\q.2<=4)/\mayGo ((q.2 - 1).toNat:Nat) ps=some e):=by
 obtain ⟨a,b⟩:=q
 simp only [mayGo] at h
 by_cases h3:a=3
 ·subst h3
  simp only [beq_self_eq_true,cond_true] at h
  cases r with
  | zero=>simp at h
  | succ k=>
   refine .inl ⟨rfl,k,rfl,?_⟩
   have hr:(((k+1:Nat):Int)==0)=false:=beq_ne (by omega)
   rw [hr,cond_false] at h
   cases hb:b != 0 with
   | true=>rw [hb] at h;cases h
   | false=>
    rw [hb,cond_false,show ((k+1:Nat):Int) - 1=(k:Int) by omega] at h
    exact h
 ·rw [beq_ne h3,cond_false] at h
  have r0:∀ {x:Option Int},(bif decide ((r:Int)>0) then none else x)=some e->r=0/\x=some e:=fun {x} hx=>by
   cases hd:decide ((r:Int)>0) with
   | true=>rw [hd] at hx;cases hx
   | false=>rw [hd] at hx;simp at hd;exact ⟨by omega,hx⟩
  by_cases h0:a=0
  ·subst h0
   simp only [beq_self_eq_true,cond_true] at h
   cases hb:b != 0 with
   | true=>rw [hb] at h;cases h
   | false=>
    rw [hb,cond_false] at h
    obtain ⟨rfl,h⟩:=r0 h
    simp at hb
    subst hb
    exact .inr (.inl ⟨rfl,rfl,h⟩)
  ·rw [beq_ne h0,cond_false] at h
   by_cases h1:a=1
   ·subst h1
    simp only [beq_self_eq_true,cond_true] at h
    cases hb : !(bif decide (b>=0) then decide (b<=2) else false) with
    | true=>rw [hb] at h;cases h
    | false=>
     rw [hb,cond_false] at h
     obtain ⟨rfl,h⟩:=r0 h
     refine .inr (.inr (.inl ⟨rfl,rfl,?_,h⟩))
     by_cases hb0:b>=0 <;> simp [hb0] at hb
     exact ⟨hb0,hb⟩
   ·rw [beq_ne h1,cond_false] at h
    by_cases h2:a=2
    ·subst h2
     simp only [beq_self_eq_true,cond_true] at h
     cases hb : !(bif decide (b>=1) then decide (b<=4) else false) with
     | true=>rw [hb] at h;cases h
     | false=>
      rw [hb,cond_false] at h
      obtain ⟨rfl,h⟩:=r0 h
      have hb':1<=b/\b<=4:=by
       by_cases hb1:b>=1 <;> simp [hb1] at hb
       exact ⟨hb1,hb⟩
      refine .inr (.inr (.inr ⟨rfl,rfl,hb',?_⟩))
      rw [show (((b - 1).toNat:Nat):Int)=b - 1 by omega]
      exact h
    ·rw [beq_ne h2] at h
     cases h
theorem cellsP_rest {i:Int} {q:Pg} (h:q.1=3\/q.1=0):cellsP i q=[]:=by
 unfold cellsP
 rcases h with h | h <;> rw [h] <;> rfl
theorem cellsP_small {i:Int} {q:Pg} (h:q.1=1):cellsP i q=cellRow (16*(i+1)) (wordsOf q.2) 0 (cellsN q.2).toNat:=by
 unfold cellsP
 rw [h]
 rfl
theorem cellsP_large {i:Int} {q:Pg} (h:q.1=2) (hb:1<=q.2/\q.2<=4):cellsP i q=[(16*(i+1),16*q.2)]:=by
 unfold cellsP
 rw [h,IntWalk.i64_in _ (by omega),Int.mul_comm q.2 16]
 rfl
theorem allFrom_chain:∀ (ps:List Pg) (i r:Nat) (e:Int),i+ps.length<=300->r<=3->mayGo r ps=some e->chain (16*((i:Int)+1+r)) (allFrom i ps)
 | [],_,_,_,_,_,_=>trivial
 | q::ps,i,r,e,hl,hr,h=>by
  simp only [List.length_cons] at hl
  simp only [allFrom]
  rcases mayGo_cons h with ⟨h3,k,rfl,h'⟩ | ⟨rfl,rfl,h'⟩ | ⟨rfl,h1,hb,h'⟩ | ⟨rfl,h2,hb,h'⟩
  ·rw [cellsP_rest (.inl h3),List.nil_append]
   exact chain_mono (by omega) (allFrom_chain ps (i+1) k e (by omega) (by omega) h')
  ·rw [cellsP_rest (.inr rfl),List.nil_append]
   exact chain_mono (by omega) (allFrom_chain ps (i+1) 0 e (by omega) (by omega) h')
  ·obtain ⟨w2,w8,hf,hn,_⟩:=small_full hb
   rw [cellsP_small h1]
   have hc:=cellRow_chain (16*((i:Int)+1)) (wordsOf q.2) ⟨by omega,by omega⟩ ⟨w2,w8⟩ (cellsN q.2).toNat 0 (by omega)
   have hh:=cellRow_hi (16*((i:Int)+1)) (wordsOf q.2) w2 (cellsN q.2).toNat 0
   rw [Nat.zero_add,hf] at hh
   refine chain_append (hi:=16*((i:Int)+1)+16) (chain_mono (by simp) hc) hh (by omega) ?_
   exact chain_mono (by omega) (allFrom_chain ps (i+1) 0 e (by omega) (by omega) h')
  ·rw [cellsP_large h2 hb]
   refine ⟨by simp,by simp;omega,by simp;omega,by simp;omega,?_⟩
   exact chain_mono (by simp;omega) (allFrom_chain ps (i+1) _ e (by omega) (by omega) h')
theorem may_go {ps:List Pg} (h:may ps=true):mayGo (0:Nat) ps=some 0/\1<=ps.length/\ps.length<=64:=by
 unfold may at h
 show mayGo 0 ps=some 0/\_
 cases hm:mayGo 0 ps with
 | none=>rw [hm] at h;cases h
 | some r=>
  rw [hm] at h
  dsimp only at h
  cases h0:r==0 with
  | false=>rw [h0] at h;cases h
  | true=>
   rw [h0,cond_true] at h
   have:r=0:=by simpa using h0
   subst this
   refine ⟨rfl,?_⟩
   by_cases h1:(ps.length:Int)>=1
   ·simp [h1] at h;omega
   ·rw [decide_eq_false h1] at h;cases h
theorem all_chain (ps:List Pg):chain 16 (allCs ps):=by
 unfold allCs
 cases h:may ps with
 | false=>exact trivial
 | true=>
  obtain ⟨h1,h2,h3⟩:=may_go h
  exact chain_mono (by omega) (allFrom_chain ps 0 0 0 (by omega) (by omega) h1)
end Go.Ab

namespace Go.Ab
open Go
set_option maxRecDepth 100000
def cI:Cod Int where
 enc:=fun a => .int .i64 a
 dec:=fun c=>match c with | .int .i64 a=>some a | _=>none
 ok:=fun c a h=>by
  split at h
  ·cases h;rfl
  ·cases h
 de:=fun _=>rfl
def cB:Cod Bool where
 enc:=fun a => .bool a
 dec:=fun c=>match c with | .bool a=>some a | _=>none
 ok:=fun c a h=>by
  split at h
  ·cases h;rfl
  ·cases h
 de:=fun _=>rfl
def cPs:Cod (List Pg) where
 enc:=fun ps => .sl 2 (ps.map encP)
 dec:=fun c=>match c with | .sl 2 L=>decP L | _=>none
 ok:=fun c a h=>by
  split at h
  ·rw [decP_enc h]
  ·cases h
 de:=fun _=>decP_map _
def cIs:Cod (List Int) where
 enc:=fun xs => .sl 1 (encI xs)
 dec:=fun c=>match c with | .sl 1 L=>decI L | _=>none
 ok:=fun c a h=>by
  split at h
  ·rw [decI_enc h]
  ·cases h
 de:=fun _=>decI_map _
def cOI:Cod (List Int) where
 enc:=fun xs => .own 1 (encI xs)
 dec:=fun c=>match c with | .own 1 L=>decI L | _=>none
 ok:=fun c a h=>by
  split at h
  ·rw [decI_enc h]
  ·cases h
 de:=fun _=>decI_map _
@[simp] theorem cOI_enc (xs:List Int):cOI.enc xs = .own 1 (encI xs):=rfl
@[simp] theorem cOI_dec (xs:List Int):cOI.dec (.own 1 (encI xs))=some xs:=decI_map xs
@[simp] theorem cI_enc (a:Int):cI.enc a = .int .i64 a:=rfl
@[simp] theorem cB_enc (a:Bool):cB.enc a = .bool a:=rfl
@[simp] theorem cPs_enc (ps:List Pg):cPs.enc ps = .sl 2 (ps.map encP):=rfl
@[simp] theorem cIs_enc (xs:List Int):cIs.enc xs = .sl 1 (encI xs):=rfl
@[simp] theorem cI_dec (a:Int):cI.dec (.int .i64 a)=some a:=rfl
@[simp] theorem cB_dec (a:Bool):cB.dec (.bool a)=some a:=rfl
@[simp] theorem cPs_dec (ps:List Pg):cPs.dec (.sl 2 (ps.map encP))=some ps:=decP_map ps
@[simp] theorem cIs_dec (xs:List Int):cIs.dec (.sl 1 (encI xs))=some xs:=decI_map xs
def rises:Int->Int->List Int->Prop
 | _,_,[]=>True
 | lo,hi,x::xs=>lo<=x/\x<hi/\rises (x+1) hi xs
/-! ### Where a cell begins -/
theorem firstC_append (f:Nat) (a:Int) (cs ds:List Cell):firstC f a (cs++ds)=(firstC f a cs).or (firstC f a ds):=by simp [firstC,List.find?_append]
theorem firstC_none {f:Nat} {a:Int} {cs:List Cell} (h:∀ c∈cs,predB f a c.1 c.2=false):firstC f a cs=none:=by
 simp only [firstC,List.find?_eq_none]
 intro c hc
 simp [h c hc]
theorem pred29 (a x y:Int):predB 141 a x y=(a==x):=rfl
theorem cellRow_find (b w:Int) (hw:0<w) (r:Nat):∀ (n i:Nat),firstC 141 (b+(r:Int)) (cellRow b w i n)=if (r:Int) % w=0/\(i:Int)*w<=r/\(r:Int)<((i+n:Nat):Int)*w then some (b+(r:Int),w) else none
 | 0,i=>by
  have hn:¬ ((r:Int) % w=0/\(i:Int)*w<=r/\(r:Int)<((i+0:Nat):Int)*w):=fun ⟨_,h1,h2⟩=>by
   rw [Nat.add_zero] at h2;omega
  rw [if_neg hn]
  rfl
 | n+1,i=>by
  have ih:=cellRow_find b w hw r n (i+1)
  simp only [cellRow,firstC,List.find?_cons,pred29] at ih ⊢
  by_cases h:(r:Int)=(i:Int)*w
  ·have e:(b+(r:Int)==b+(i:Int)*w)=true:=by simp [h]
   rw [e]
   have hlt:(i:Int)*w<((i+(n+1):Nat):Int)*w:=Int.mul_lt_mul_of_pos_right (by omega) hw
   rw [if_pos ⟨by rw [h];exact Int.mul_emod_left _ _,by omega,by omega⟩,h]
  ·have e:(b+(r:Int)==b+(i:Int)*w)=false:=by simp;omega
   rw [e]
   refine Eq.trans ih ?_
   have hiff:((r:Int) % w=0/\((i+1:Nat):Int)*w<=r/\(r:Int)<((i+1+n:Nat):Int)*w)↔((r:Int) % w=0/\(i:Int)*w<=r/\(r:Int)<((i+(n+1):Nat):Int)*w):=by
    rw [show i+1+n=i+(n+1) by omega]
    have he:((i+1:Nat):Int)*w=(i:Int)*w+w:=by rw [show ((i+1:Nat):Int)=(i:Int)+1 by omega,Int.add_mul,Int.one_mul]
    constructor
    ·rintro ⟨h1,h2,h3⟩
     exact ⟨h1,by omega,h3⟩
    ·rintro ⟨h1,h2,h3⟩
     refine ⟨h1,?_,h3⟩
     obtain ⟨k,hk⟩:=Int.dvd_of_emod_eq_zero h1
     rw [hk,Int.mul_comm w k] at h2 h ⊢
     have h4:(i:Int)<=k:=Int.le_of_mul_le_mul_right h2 hw
     have h5:(i:Int)≠k:=fun e=>h (by rw [e])
     exact Int.mul_le_mul_of_nonneg_right (by omega) (by omega)
   by_cases hc:((r:Int) % w=0/\(i:Int)*w<=r/\(r:Int)<((i+(n+1):Nat):Int)*w)
   ·rw [if_pos hc,if_pos (hiff.2 hc)]
   ·rw [if_neg hc,if_neg fun h=>hc (hiff.1 h)]
def cellAt (q:Pg) (r:Nat):Int:=bif q.1==2&&r==0 then 16*q.2 else bif q.1==1&&((r:Int) % wordsOf q.2==0) then wordsOf q.2 else 0
def okPg (q:Pg):Prop:=q.1=3\/q.1=0\/(q.1=1/\0<=q.2/\q.2<=2)\/(q.1=2/\1<=q.2/\q.2<=4)
theorem okPg_of {r:Nat} {ps:List Pg} {e:Int} (h:mayGo r ps=some e):∀ q∈ps,okPg q:=by
 induction ps generalizing r with
 | nil=>intro q hq;cases hq
 | cons p ps ih=>
  intro q hq
  rcases mayGo_cons h with ⟨h3,k,_,h'⟩ | ⟨_,rfl,h'⟩ | ⟨_,h1,hb,h'⟩ | ⟨_,h2,hb,h'⟩ <;> rcases List.mem_cons.1 hq with rfl | hq
  ·exact .inl h3
  ·exact ih h' q hq
  ·exact .inr (.inl rfl)
  ·exact ih h' q hq
  ·exact .inr (.inr (.inl ⟨h1,hb⟩))
  ·exact ih h' q hq
  ·exact .inr (.inr (.inr ⟨h2,hb⟩))
  ·exact ih h' q hq
theorem cellsP_at {q:Pg} (hq:okPg q) (i r:Nat) (hr:r<16):optE (firstC 141 (16*((i:Int)+1)+r) (cellsP i q)) 0 (·.2)=cellAt q r:=by
 unfold cellAt
 rcases hq with h | h | ⟨h,hb⟩ | ⟨h,hb⟩
 ·rw [cellsP_rest (.inl h),h];rfl
 ·rw [cellsP_rest (.inr h),h];rfl
 ·obtain ⟨w2,_,hf,_,_⟩:=small_full hb
  rw [cellsP_small h,cellRow_find _ _ (by omega),h]
  have h21:((1:Int)==2)=false:=rfl
  rw [h21,beq_self_eq_true,Bool.false_and,cond_false,Bool.true_and,Nat.zero_add,hf]
  by_cases hm:(r:Int) % wordsOf q.2=0
  ·rw [if_pos ⟨hm,by omega,by omega⟩,beq_of hm];rfl
  ·rw [if_neg (fun h=>hm h.1),beq_ne hm];rfl
 ·rw [cellsP_large h hb,h]
  by_cases h0:r=0
  ·subst h0
   simp [firstC,pred29,optE]
  ·have e1:(r==0)=false:=by simp [h0]
   have e2:(16*((i:Int)+1)+(r:Int)==16*((i:Int)+1))=false:=by simp;omega
   rw [e1]
   simp [firstC,pred29,e2,optE]
theorem cellsP_in {q:Pg} (hq:okPg q) (i:Nat):∀ c∈cellsP (i:Int) q,16*((i:Int)+1)<=c.1/\c.1<16*((i:Int)+2):=by
 rcases hq with h | h | ⟨h,hb⟩ | ⟨h,hb⟩
 ·rw [cellsP_rest (.inl h)];intro c hc;cases hc
 ·rw [cellsP_rest (.inr h)];intro c hc;cases hc
 ·obtain ⟨w2,w8,hf,hn,_⟩:=small_full hb
  rw [cellsP_small h]
  intro c hc
  have h1:=cellRow_hi (16*((i:Int)+1)) (wordsOf q.2) w2 (cellsN q.2).toNat 0 c hc
  rw [Nat.zero_add,hf] at h1
  have lo:∀ (n k:Nat),∀ c∈cellRow (16*((i:Int)+1)) (wordsOf q.2) k n,16*((i:Int)+1)<=c.1/\c.2=wordsOf q.2:=by
   intro n
   induction n with
   | zero=>intro k c hc;cases hc
   | succ n ih=>
    intro k c hc
    simp only [cellRow,List.mem_cons] at hc
    rcases hc with rfl | hc
    ·have:0<=(k:Int)*wordsOf q.2:=Int.mul_nonneg (by omega) (by omega)
     exact ⟨by dsimp only;omega,rfl⟩
    ·exact ih _ c hc
  have:=lo _ _ c hc
  omega
 ·rw [cellsP_large h hb]
  intro c hc
  simp at hc
  subst hc
  dsimp only
  omega
theorem allFrom_find (r:Nat) (hr:r<16):∀ (ps:List Pg) (i:Nat),(∀ q∈ps,okPg q)->∀ (j:Nat) (h:j<ps.length),optE (firstC 141 (16*(((i+j:Nat):Int)+1)+r) (allFrom i ps)) 0 (·.2)=cellAt ps[j] r
 | [],i,_,j,h=>by simp at h
 | q::ps,i,hq,j,h=>by
  have hin:=cellsP_in (hq q (by simp)) i
  simp only [allFrom,firstC_append]
  cases j with
  | zero=>
   have hrest:firstC 141 (16*(((i+0:Nat):Int)+1)+r) (allFrom (i+1) ps)=none:=by
    refine firstC_none fun c hc => ?_
    have:∀ (ps:List Pg) (k:Nat),(∀ q∈ps,okPg q)->∀ c∈allFrom k ps,16*((k:Int)+1)<=c.1:=by
     intro ps
     induction ps with
     | nil=>intro k _ c hc;cases hc
     | cons p ps ih=>
      intro k hp c hc
      simp only [allFrom,List.mem_append] at hc
      rcases hc with hc | hc
      ·exact (cellsP_in (hp p (by simp)) k c hc).1
      ·have:=ih (k+1) (fun q hq=>hp q (by simp [hq])) c hc
       omega
    have:=this ps (i+1) (fun q h=>hq q (by simp [h])) c hc
    rw [pred29]
    simp
    omega
   rw [hrest,Option.or_none]
   exact cellsP_at (hq q (by simp)) i r hr
  | succ j=>
   have hf:firstC 141 (16*(((i+(j+1):Nat):Int)+1)+r) (cellsP i q)=none:=by
    refine firstC_none fun c hc => ?_
    have:=hin c hc
    rw [pred29]
    simp
    omega
   rw [hf,Option.none_or,show i+(j+1)=i+1+j by omega]
   exact allFrom_find r hr ps (i+1) (fun q h=>hq q (by simp [h])) j (by simpa using h)
theorem allFrom_in:∀ (ps:List Pg) (i:Nat),(∀ q∈ps,okPg q)->∀ c∈allFrom i ps,16*((i:Int)+1)<=c.1/\c.1<16*((i:Int)+1+ps.length)
 | [],i,_,c,h=>by cases h
 | q::ps,i,hq,c,h=>by
  simp only [allFrom,List.mem_append] at h
  rcases h with h | h
  ·have:=cellsP_in (hq q (by simp)) i c h
   simp only [List.length_cons]
   omega
  ·have:=allFrom_in ps (i+1) (fun q h=>hq q (by simp [h])) c h
   simp only [List.length_cons]
   omega
theorem roomA_def (ps:List Pg) (a:Int):roomA ps a=optE (firstC 141 a (allCs ps)) 0 (·.2):=rfl
theorem roomA_doc (ps:List Pg) (a:Int):roomA ps a=bif may ps&&decide (16<=a)&&decide (a<16+16*(ps.length:Int)) then cellAt (ps.getD (a / 16 - 1).toNat (0,0)) (a % 16).toNat else 0:=by
 rw [roomA_def]
 unfold allCs
 cases hm:may ps with
 | false=>rfl
 | true=>
  obtain ⟨h1,h2,h3⟩:=may_go hm
  have hok:=okPg_of h1
  rw [cond_true,Bool.true_and]
  by_cases hlo:16<=a
  ·by_cases hhi:a<16+16*(ps.length:Int)
   ·rw [decide_eq_true hlo,decide_eq_true hhi]
    have hj:(a / 16 - 1).toNat<ps.length:=by omega
    have:=allFrom_find (a % 16).toNat (by omega) ps 0 hok (a / 16 - 1).toNat hj
    rw [Nat.zero_add,show 16*(((a / 16 - 1).toNat:Int)+1)+((a % 16).toNat:Int)=a by omega] at this
    rw [this,show ps.getD (a / 16 - 1).toNat (0,0)=ps[(a / 16 - 1).toNat] by rw [List.getD_eq_getElem?_getD,List.getElem?_eq_getElem hj];rfl]
    rfl
   ·rw [decide_eq_true hlo,decide_eq_false hhi]
    rw [firstC_none fun c hc => ?_]
    ·rfl
    ·have:=allFrom_in ps 0 hok c hc
     rw [pred29];simp;omega
  ·rw [decide_eq_false hlo]
   rw [firstC_none fun c hc => ?_]
   ·rfl
   ·have:=allFrom_in ps 0 hok c hc
    rw [pred29];simp;omega
end Go.Ab

namespace Go.Ab
open Go
set_option maxRecDepth 100000
open Go.Proofs
noncomputable abbrev Pr:Program:=Go.Proofs.Tryz.prog
theorem wrap_in {a:Int} (h : -9223372036854775808<=a/\a<=9223372036854775807):IntKind.i64.wrap a=a:=IntWalk.i64_in a h
theorem lim_of {n:Nat} (h:n<=4000000000):n<=LIM:=by
 have:LIM=4294967296:=rfl
 omega
@[simp] theorem zero_get (x:CV) (l:List CV):(x::l)[0]? = some x:=rfl
@[simp] theorem one_get (x y:CV) (l:List CV):(x::y::l)[1]? = some y:=rfl
theorem tdiv_pos {a b:Int} (h:0<=a):Int.tdiv a b=a / b:=Int.tdiv_eq_ediv_of_nonneg h
theorem rdE_nat {α:Type} {l:List α} {n:Int} (h:0<=n):rdE l n=l[n.toNat]? := by unfold rdE;rw [if_pos h]
theorem allCs_rises (ps:List Pg):rises 16 (16+(16*ps.length:Nat)) ((allCs ps).map (·.1)):=by
 have go:∀ (cs:List Cell) (lo:Int),chain lo cs->(∀ c∈cs,c.1<16+(16*ps.length:Nat))->rises lo (16+(16*ps.length:Nat)) (cs.map (·.1)):=by
  intro cs
  induction cs with
  | nil=>intro lo _ _;trivial
  | cons c cs ih=>
   rintro lo ⟨h1,h2,h3,h4,h5⟩ hb
   exact ⟨h1,hb c (by simp),ih _ (chain_mono (show c.1+1<=c.1+c.2 by omega) h5) fun d hd=>hb d (by simp [hd])⟩
 refine go _ _ (all_chain ps) fun c hc => ?_
 unfold allCs at hc
 cases hm:may ps with
 | false=>rw [hm] at hc;cases hc
 | true=>
  rw [hm] at hc
  have:=allFrom_in ps 0 (okPg_of (may_go hm).1) c hc
  omega
theorem room_pos (ps:List Pg) (a:Int):decide (roomA ps a>0)=decide (a∈(allCs ps).map (·.1)):=by
 by_cases h:a∈(allCs ps).map (·.1)
 ·obtain ⟨c,hc,rfl⟩:=List.mem_map.1 h
  have h1:roomA ps c.1=c.2:=by rw [roomA_def,find29 (all_chain ps) c hc];rfl
  have h2:=chain_mem (all_chain ps) c hc
  rw [decide_eq_true h,h1]
  exact decide_eq_true (by omega)
 ·rw [decide_eq_false h]
  refine decide_eq_false fun hp => ?_
  rw [roomA_def] at hp
  cases hf:firstC 141 a (allCs ps) with
  | none=>rw [hf] at hp;cases hp
  | some c=>
   obtain ⟨h1,h2⟩:=of29 hf
   exact h (List.mem_map.2 ⟨c,h1,h2⟩)
theorem all_len8 {ps:List Pg} (h:Nat.ble ps.length 200=true):Nat.ble ((allCs ps).map (·.1)).length 8192=true:=by
 have:=Nat.le_of_ble_eq_true h
 refine Nat.ble_eq_true_of_le ?_
 rw [List.length_map]
 unfold allCs
 cases may ps with
 | false=>simp
 | true=>have:=allFrom_len ps 0;simp only [cond_true];omega
end Go.Ab

namespace Go.Ab
open Go
set_option maxRecDepth 100000
def putP (ps:List Pg) (a:Nat) (own:List Pg):List Pg:=splice ps a (own.take (min own.length (ps.length - a)))
def in3 (n a b:Int):Bool:=cond (decide (n>=a)) (decide (n<=b)) false
theorem may_len {ps:List Pg} (h:may ps=true):1<=ps.length/\ps.length<=64:=by
 rw [may_eq] at h
 by_cases h1:(ps.length:Int)<1
 ·simp [h1] at h
 ·by_cases h2:(ps.length:Int)>64
  ·simp [h1,h2] at h
  ·omega
theorem mayGo_tail {r:Int} {p:Pg} {ps:List Pg} (h:mayGo r (p::ps)=some 0):∃ r',mayGo r' ps=some 0:=by
 obtain ⟨a,b⟩:=p
 simp only [mayGo,Bool.cond_eq_ite] at h
 repeat' (split at h)
 all_goals first | exact ⟨_,h⟩ | cases h
theorem in3_iff {n a b:Int}:in3 n a b=true↔a<=n/\n<=b:=by
 unfold in3
 by_cases h:n>=a
 ·simp [h]
 ·simp [h]
theorem mayGo_large {r b:Int} {ps:List Pg} (h:mayGo r ((2,b)::ps)=some 0):1<=b/\b<=4/\∃ rest,eat (b - 1).toNat ps=some rest/\mayGo 0 rest=some 0:=by
 have h':(bif !(in3 b 1 4) then none else bif decide (r>0) then none else mayGo (b - 1) ps)=some 0:=h
 cases hi:in3 b 1 4 with
 | false=>rw [hi] at h';cases h'
 | true=>
  obtain ⟨h1,h4⟩:=in3_iff.1 hi
  rw [hi] at h'
  cases hr:decide (r>0) with
  | true=>rw [hr] at h';cases h'
  | false=>
   rw [hr] at h'
   simp only [Bool.not_true,cond_false] at h'
   have hg:=mayGo_eat (b - 1).toNat ps
   rw [show (((b - 1).toNat:Nat):Int)=b - 1 by omega,h'] at hg
   refine ⟨h1,h4,?_⟩
   cases he:eat (b - 1).toNat ps with
   | none=>rw [he] at hg;simp at hg
   | some rest=>rw [he] at hg;exact ⟨rest,rfl,by simpa using hg.symm⟩
theorem mayGo_at:∀ {ps:List Pg} {r:Int} {i:Nat} {b:Int},mayGo r ps=some 0->ps[i]? = some (2,b)->1<=b/\b<=4/\∃ rest,eat (b - 1).toNat (ps.drop (i+1))=some rest/\mayGo 0 rest=some 0
 | [],_,_,_,_,hi=>by simp at hi
 | p::ps,r,0,b,h,hi=>by
  simp at hi
  subst hi
  simpa using mayGo_large h
 | p::ps,r,i+1,b,h,hi=>by
  obtain ⟨r',h'⟩:=mayGo_tail h
  simpa using mayGo_at (i:=i) h' (by simpa using hi)
theorem may_go0 {ps:List Pg} (h:may ps=true):mayGo 0 ps=some 0:=by
 have hl:=may_len h
 rw [may_eq,mayR_iff _ _ (Nat.le_refl _)] at h
 have e1:decide ((ps.length:Int)<1)=false:=by simp;omega
 have e2:decide ((ps.length:Int)>64)=false:=by simp;omega
 rw [e1,e2] at h
 simpa using h
theorem go_may {ps:List Pg} (h1:1<=ps.length) (h2:ps.length<=64) (h:mayGo 0 ps=some 0):may ps=true:=by
 rw [may_eq,mayR_iff _ _ (Nat.le_refl _),h]
 have e1:decide ((ps.length:Int)<1)=false:=by simp;omega
 have e2:decide ((ps.length:Int)>64)=false:=by simp;omega
 rw [e1,e2]
 rfl
def runOf (p:Pg):Int:=cond (p.1==2) p.2 1
def dropE (ps:List Pg) (a:Int):Int×List Pg:=cond (!(may ps)) (1,[]) (cond (decide (a<0) || decide (a>=(ps.length:Int))) (3,[])
 (match ps[a.toNat]? with
  | none=>(3,[])
  | some p=>cond (p.1==0 || p.1==3) (3,[]) (0,putP ps a.toNat (List.replicate (runOf p).toNat (0,0)))))
theorem splice_len {α:Type} (l x:List α) (a:Nat) (h:a+x.length<=l.length):(splice l a x).length=l.length:=by
 simp [splice]
 omega
theorem mayGo_append:∀ (xs ys:List Pg) (r:Int),mayGo r (xs++ys)=(mayGo r xs).bind fun r'=>mayGo r' ys
 | [],ys,r=>rfl
 | p::xs,ys,r=>by
  simp only [List.cons_append,mayGo,Bool.cond_eq_ite,mayGo_append xs ys]
  repeat' split
  all_goals rfl
theorem mayGo_nonneg:∀ {xs:List Pg} {r r':Int},0<=r->mayGo r xs=some r'->0<=r'
 | [],r,r',h,e=>by
  simp only [mayGo,Option.some.injEq] at e
  omega
 | (a,b)::xs,r,r',h,e=>by
  by_cases h2:a=2
  ·subst h2
   have e':(bif !(in3 b 1 4) then none else bif decide (r>0) then none else mayGo (b - 1) xs)=some r':=e
   cases hi:in3 b 1 4 with
   | false=>rw [hi] at e';cases e'
   | true=>
    obtain ⟨h1,h4⟩:=in3_iff.1 hi
    rw [hi] at e'
    cases hr:decide (r>0) with
    | true=>rw [hr] at e';cases e'
    | false=>
     rw [hr] at e'
     exact mayGo_nonneg (by omega) e'
  ·have e2:(a==2)=false:=by simpa using h2
   simp only [mayGo,e2,Bool.cond_eq_ite] at e
   split at e
   ·split at e
    ·cases e
    ·rename_i hr
     split at e
     ·cases e
     ·exact mayGo_nonneg (by simp at hr;omega) e
   ·repeat' (split at e)
    all_goals first | exact mayGo_nonneg h e | contradiction | (simp at e;done)
theorem mayGo_join {X Y Z:List Pg} (hX:mayGo 0 X=some 0) (hY:mayGo 0 Y=some 0) (hZ:mayGo 0 Z=some 0):mayGo 0 (X++Y++Z)=some 0:=by
 rw [mayGo_append,mayGo_append,hX,Option.bind_some,hY,Option.bind_some,hZ]
theorem mayGo_zeros:∀ n:Nat,mayGo 0 (List.replicate n (0,0))=some 0
 | 0=>rfl
 | n+1=>mayGo_zeros n
theorem splice_mid {α:Type} (X F Z Y:List α) (h:Y.length=F.length):splice (X++F++Z) X.length Y=X++Y++Z:=by
 simp [splice,h,List.drop_append]
theorem putP_fit {ps own:List Pg} {a:Nat} (h:a+own.length<=ps.length):putP ps a own=splice ps a own:=by
 unfold putP
 rw [List.take_of_length_le (by omega)]
theorem may_run {ps:List Pg} (h:may ps=true) {i:Nat} {b:Int} (hi:ps[i]? = some (2,b)):1<=b/\b<=4/\i+b.toNat<=ps.length:=by
 obtain ⟨h1,h4,rest,he,_⟩:=mayGo_at (may_go0 h) hi
 obtain ⟨hlt,_⟩:=List.getElem?_eq_some_iff.1 hi
 obtain ⟨_,hk⟩:=eat_len _ _ _ he
 simp at hk
 omega
theorem drop_parts {X Y Z:List Pg} {p:Pg} {Y':List Pg} (hY:Y=p::Y') (hp:p.1=1\/p.1=2) (hn:runOf p=(Y.length:Int)) (hm:may (X++Y++Z)=true):dropE (X++Y++Z) (X.length:Nat)=(0,X++List.replicate Y.length (0,0)++Z):=by
 unfold dropE
 have hg:(X++Y++Z)[X.length]? = some p:=by
  rw [hY,List.append_assoc,List.getElem?_append_right (Nat.le_refl _),Nat.sub_self]
  rfl
 have e1:decide (((X.length:Nat):Int)<0)=false:=by simp
 have e2:decide (((X.length:Nat):Int)>=((X++Y++Z).length:Int))=false:=by simp [hY];omega
 have e3:(p.1==0 || p.1==3)=false:=by rcases hp with h | h <;> simp [h]
 rw [hm,e1,e2,Int.toNat_natCast,hg]
 simp only [Bool.not_true,Bool.or_self,cond_false,e3,hn,Int.toNat_natCast]
 rw [putP_fit (by simp),splice_mid _ _ _ _ (by simp)]
end Go.Ab

namespace Go.Ab
open Go
set_option maxRecDepth 100000
open Go.Proofs
def cOP:Cod (List Pg) where
 enc:=fun ps => .own 2 (ps.map encP)
 dec:=fun c=>match c with | .own 2 L=>decP L | _=>none
 ok:=fun c a h=>by
  split at h
  ·rw [decP_enc h]
  ·cases h
 de:=fun _=>decP_map _
@[simp] theorem cOP_enc (ps:List Pg):cOP.enc ps = .own 2 (ps.map encP):=rfl
@[simp] theorem cOP_dec (ps:List Pg):cOP.dec (.own 2 (ps.map encP))=some ps:=decP_map ps
def sm (ps:List Pg):Bool:=Nat.ble ps.length 200
def gMayP:Callee:=g1 cPs sm fun ps=>cB.enc (may ps)
theorem sm_le {ps:List Pg} (h:sm ps=true):ps.length<=200:=Nat.le_of_ble_eq_true h
theorem sm_of {ps:List Pg} (h:ps.length<=200):sm ps=true:=Nat.ble_eq_true_of_le h
theorem lim_val:LIM=4294967296:=rfl
theorem mayP_good:GoodC Pr 128 gMayP:=
 GoodC.of mayS13 (g1_nat _) fun args conts β K r h=>by
  unfold gMayP g1 at h
  dsimp only at h
  split at h
  ·rename_i a
   replace h:=bind_some' h
   obtain ⟨ps,hps,h⟩:=h
   replace h:=cond_some h
   obtain ⟨hs,h⟩:=h
   have e1:=cPs.ok _ _ hps
   subst e1
   have hs':Nat.ble ps.length 200=true:=hs
   simp only [gMayS,cPs_enc,decP_map,Option.bind_some,hs',cond_true]
   exact h
  ·cases h
end Go.Ab

namespace Go.Ab
open Go
set_option maxRecDepth 100000
open Go.Proofs
theorem run_partb {P:Program} {t:TypeId} (h:P.underlying t=some .bool) (a:Array Value) (i:Nat) (v:Value) (hv:a[i]? = some v) (w:World):(part t a i).run P w = .ok v w:=by
 have:(isAgg t).run P w = .ok false w:=by simp [isAgg,run_underlying h]
 simp [part,this,aggD,hv]
set_option maxHeartbeats 1000000 in
theorem eqIn_six {P:Program} {t:TypeId} {f0 f1 f2 f3 f4 f5:Field} {k3 k4 k5:IntKind} (hs:P.underlying t=some (.struct #[f0,f1,f2,f3,f4,f5])) (hst:P.stoodInHeld t=false)
  (n0:f0.name ≠ "_") (n1:f1.name ≠ "_") (n2:f2.name ≠ "_") (n3:f3.name ≠ "_") (n4:f4.name ≠ "_") (n5:f5.name ≠ "_")
  (o0:f0.offset=0) (o1:f1.offset=1) (o2:f2.offset=2) (o3:f3.offset=3) (o4:f4.offset=4) (o5:f5.offset=5)
  (h0:P.underlying f0.type=some .bool) (h1:P.underlying f1.type=some .bool) (h2:P.underlying f2.type=some .bool)
  (h3:P.underlying f3.type=some (.int k3)) (h4:P.underlying f4.type=some (.int k4)) (h5:P.underlying f5.type=some (.int k5)) (d:Nat) (a b c:IntKind)
  (x0 y0 x1 y1 x2 y2:Bool) (x3 y3 x4 y4 x5 y5:Int) (w:World):
  (Op.equalIn (d+2) t (.agg #[.bool x0,.bool x1,.bool x2,.int a x3,.int b x4,.int c x5]) (.agg #[.bool y0,.bool y1,.bool y2,.int a y3,.int b y4,.int c y5])).run P w
   = .ok (x0==y0&&(x1==y1&&(x2==y2&&(x3==y3&&(x4==y4&&x5==y5))))) w:=by
 have p0:=fun x0 x1 x2 x3 x4 x5=>run_partb h0 #[.bool x0,.bool x1,.bool x2,.int a x3,.int b x4,.int c x5] 0 (.bool x0) rfl w
 have p1:=fun x0 x1 x2 x3 x4 x5=>run_partb h1 #[.bool x0,.bool x1,.bool x2,.int a x3,.int b x4,.int c x5] 1 (.bool x1) rfl w
 have p2:=fun x0 x1 x2 x3 x4 x5=>run_partb h2 #[.bool x0,.bool x1,.bool x2,.int a x3,.int b x4,.int c x5] 2 (.bool x2) rfl w
 have p3:=fun x0 x1 x2 x3 x4 x5=>run_part0 h3 #[.bool x0,.bool x1,.bool x2,.int a x3,.int b x4,.int c x5] 3 (.int a x3) rfl w
 have p4:=fun x0 x1 x2 x3 x4 x5=>run_part0 h4 #[.bool x0,.bool x1,.bool x2,.int a x3,.int b x4,.int c x5] 4 (.int b x4) rfl w
 have p5:=fun x0 x1 x2 x3 x4 x5=>run_part0 h5 #[.bool x0,.bool x1,.bool x2,.int a x3,.int b x4,.int c x5] 5 (.int c x5) rfl w
 have q0:=run_equalIn_bool h0 d x0 y0 w
 have q1:=run_equalIn_bool h1 d x1 y1 w
 have q2:=run_equalIn_bool h2 d x2 y2 w
 have q3:=run_equalIn_int h3 d a x3 y3 w
 have q4:=run_equalIn_int h4 d b x4 y4 w
 have q5:=run_equalIn_int h5 d c x5 y5 w
 rw [show d+2=(d+1)+1 from rfl]
 unfold Op.equalIn
 cases e0:x0==y0
 ·rw [e0] at q0;simp [run_underlying hs,hst,n0,o0,p0,q0]
 rw [e0] at q0
 cases e1:x1==y1
 ·rw [e1] at q1;simp [run_underlying hs,hst,n0,o0,p0,q0,n1,o1,p1,q1]
 rw [e1] at q1
 cases e2:x2==y2
 ·rw [e2] at q2;simp [run_underlying hs,hst,n0,o0,p0,q0,n1,o1,p1,q1,n2,o2,p2,q2]
 rw [e2] at q2
 cases e3:x3==y3
 ·rw [e3] at q3;simp [run_underlying hs,hst,n0,o0,p0,q0,n1,o1,p1,q1,n2,o2,p2,q2,n3,o3,p3,q3]
 rw [e3] at q3
 cases e4:x4==y4
 ·rw [e4] at q4;simp [run_underlying hs,hst,n0,o0,p0,q0,n1,o1,p1,q1,n2,o2,p2,q2,n3,o3,p3,q3,n4,o4,p4,q4]
 rw [e4] at q4
 cases e5:x5==y5 <;> rw [e5] at q5 <;> simp [run_underlying hs,hst,n0,o0,p0,q0,n1,o1,p1,q1,n2,o2,p2,q2,n3,o3,p3,q3,n4,o4,p4,q4,n5,o5,p5,q5]
theorem kindV_six {P:Program} {t0 t1 t2 t3 t4 t5:TypeId} {k3 k4 k5:IntKind} (h0:P.underlying t0=some .bool) (h1:P.underlying t1=some .bool) (h2:P.underlying t2=some .bool)
  (h3:P.underlying t3=some (.int k3)) (h4:P.underlying t4=some (.int k4)) (h5:P.underlying t5=some (.int k5)) {vs:List Value} (h:kindV P [t0,t1,t2,t3,t4,t5] vs=true):
  ∃ x0 x1 x2 a x3 b x4 c x5,vs=[.bool x0,.bool x1,.bool x2,.int a x3,.int b x4,.int c x5]:=by
 match vs,h with
 | [],h=>simp [kindV] at h
 | [_],h=>simp [kindV] at h
 | [_,_],h=>simp [kindV] at h
 | [_,_,_],h=>simp [kindV] at h
 | [_,_,_,_],h=>simp [kindV] at h
 | [_,_,_,_,_],h=>simp [kindV] at h
 | _::_::_::_::_::_::_::_,h=>simp [kindV] at h
 | [v0,v1,v2,v3,v4,v5],h=>
  simp only [kindV,h0,h1,h2,h3,h4,h5,Bool.and_true,Bool.and_eq_true] at h
  obtain ⟨g0,g1,g2,g3,g4,g5⟩:=h
  cases v0 <;> simp at g0
  cases v1 <;> simp at g1
  cases v2 <;> simp at g2
  cases v3 <;> simp at g3
  cases v4 <;> simp at g4
  cases v5 <;> simp at g5
  exact ⟨_,_,_,_,_,_,_,_,_,rfl⟩
theorem eq_six {P:Program} {t:TypeId} {f0 f1 f2 f3 f4 f5:Field} {k3 k4 k5:IntKind} (hs:P.underlying t=some (.struct #[f0,f1,f2,f3,f4,f5])) (hst:P.stoodInHeld t=false)
  (n0:f0.name ≠ "_") (n1:f1.name ≠ "_") (n2:f2.name ≠ "_") (n3:f3.name ≠ "_") (n4:f4.name ≠ "_") (n5:f5.name ≠ "_")
  (o0:f0.offset=0) (o1:f1.offset=1) (o2:f2.offset=2) (o3:f3.offset=3) (o4:f4.offset=4) (o5:f5.offset=5)
  (h0:P.underlying f0.type=some .bool) (h1:P.underlying f1.type=some .bool) (h2:P.underlying f2.type=some .bool)
  (h3:P.underlying f3.type=some (.int k3)) (h4:P.underlying f4.type=some (.int k4)) (h5:P.underlying f5.type=some (.int k5))
  (hf:flatT P 8 t=[f0.type,f1.type,f2.type,f3.type,f4.type,f5.type]) (vs us:Array Value) (r:Bool) (w:World)
  (hv:kindV P (flatT P 8 t) vs.toList=true) (hu:kindV P (flatT P 8 t) us.toList=true) (he:eqVals vs.toList us.toList=some r):(Op.equal t (.agg vs) (.agg us)).run P w = .ok r w:=by
 rw [hf] at hv hu
 obtain ⟨vl⟩:=vs
 obtain ⟨ul⟩:=us
 obtain ⟨x0,x1,x2,a,x3,b,x4,c,x5,e⟩:=kindV_six h0 h1 h2 h3 h4 h5 hv
 obtain ⟨y0,y1,y2,a',y3,b',y4,c',y5,e'⟩:=kindV_six h0 h1 h2 h3 h4 h5 hu
 dsimp only at e e' he
 subst e e'
 simp only [eqVals] at he
 replace he:=bind_some' he
 obtain ⟨t1,he1,he⟩:=he
 replace he1:=bind_some' he1
 obtain ⟨t2,he2,he1⟩:=he1
 replace he2:=bind_some' he2
 obtain ⟨t3,he3,he2⟩:=he2
 obtain ⟨ea,he3⟩:=ite_some he3
 replace he3:=bind_some' he3
 obtain ⟨t4,he4,he3⟩:=he3
 obtain ⟨eb,he4⟩:=ite_some he4
 replace he4:=bind_some' he4
 obtain ⟨t5,he5,he4⟩:=he4
 obtain ⟨ec,he5⟩:=ite_some he5
 simp only [Option.bind_some,Option.some.injEq,Bool.and_true] at he he1 he2 he3 he4 he5
 subst he he1 he2 he3 he4 he5 ea eb ec
 exact eqIn_six hs hst n0 n1 n2 n3 n4 n5 o0 o1 o2 o3 o4 o5 h0 h1 h2 h3 h4 h5 9998 a b c x0 y0 x1 y1 x2 y2 x3 y3 x4 y4 x5 y5 w
theorem eqOK_head {cx:Cx} (hP:cx.P=Go.Proofs.Tryz.prog) (h:cx.eqT=fun t=>Nat.beq t 40):EqOK cx:=fun t ht=>by
 rw [h] at ht
 have:=beq_true ht
 subst this
 rw [hP]
 refine ⟨by kernel_rfl,fun vs us r w hv hu he => ?_⟩
 obtain ⟨f0,f1,f2,f3,f4,f5,h1,n0,n1,n2,n3,n4,n5,o0,o1,o2,o3,o4,o5,u0,u1,u2,u3,u4,u5,hf⟩:∃ f0 f1 f2 f3 f4 f5:Field,Go.Proofs.Tryz.prog.underlying 40=some (.struct #[f0,f1,f2,f3,f4,f5])/\
   f0.name ≠ "_" /\ f1.name ≠ "_" /\ f2.name ≠ "_" /\ f3.name ≠ "_" /\ f4.name ≠ "_" /\ f5.name ≠ "_" /\ f0.offset=0/\f1.offset=1/\f2.offset=2/\f3.offset=3/\f4.offset=4/\f5.offset=5/\
   Go.Proofs.Tryz.prog.underlying f0.type=some .bool/\Go.Proofs.Tryz.prog.underlying f1.type=some .bool/\Go.Proofs.Tryz.prog.underlying f2.type=some .bool/\
   Go.Proofs.Tryz.prog.underlying f3.type=some (.int .i64)/\Go.Proofs.Tryz.prog.underlying f4.type=some (.int .i64)/\Go.Proofs.Tryz.prog.underlying f5.type=some (.int .i64)/\
   flatT Go.Proofs.Tryz.prog 8 40=[f0.type,f1.type,f2.type,f3.type,f4.type,f5.type]:=
  ⟨_,_,_,_,_,_,Go.Proofs.Tryz.underlying40,by decide,by decide,by decide,by decide,by decide,by decide,rfl,rfl,rfl,rfl,rfl,rfl,by kernel_rfl,by kernel_rfl,by kernel_rfl,by kernel_rfl,by kernel_rfl,by kernel_rfl,by kernel_rfl⟩
 exact eq_six h1 (by kernel_rfl) n0 n1 n2 n3 n4 n5 o0 o1 o2 o3 o4 o5 u0 u1 u2 u3 u4 u5 hf vs us r w hv hu he
end Go.Ab

namespace Go.Ab
open Go
set_option maxRecDepth 100000
open Go.Proofs
structure Hd where
 a:Bool
 b:Bool
 c:Bool
 x:Int
 y:Int
 z:Int
deriving DecidableEq
def encH (h:Hd):List CV:=[.bool h.a,.bool h.b,.bool h.c,.int .i64 h.x,.int .i64 h.y,.int .i64 h.z]
def cHd:Cod Hd where
 enc:=fun h => .agg (encH h)
 dec:=fun c=>match c with | .agg [.bool a,.bool b,.bool c,.int .i64 x,.int .i64 y,.int .i64 z]=>some ⟨a,b,c,x,y,z⟩ | _=>none
 ok:=fun c a h=>by
  split at h
  ·cases h;rfl
  ·cases h
 de:=fun _=>rfl
noncomputable abbrev k77:Cx:=cxG Pr Tryz.f204 []
noncomputable abbrev k78:Cx:=cxG Pr Tryz.f205 []
theorem r77 (n h:Int) (β:Type) (K:CV->List (List CV)->Option β):fnK k77 Tryz.f204 [cI.enc n,cI.enc h] [] K=
 bif decide (n>=0) then K (CV.bool (decide (n<=h))) [] else K (CV.bool false) []:=by kernel_rfl
theorem r78 (n:Bool) (h:Int) (β:Type) (K:CV->List (List CV)->Option β):fnK k78 Tryz.f205 [cB.enc n,cI.enc h] [] K=
 bif n then K (CV.int IntKind.i64 h) [] else K (CV.int IntKind.i64 0) []:=by kernel_rfl
def inS (n h:Int):Bool:=decide (n>=0)&&decide (n<=h)
def gIn77:Callee:=g2 cI cI (fun _ _=>true) fun n h=>cB.enc (inS n h)
def gBit:Callee:=g2 cB cI (fun _ _=>true) fun n h=>cI.enc (bif n then h else 0)
noncomputable abbrev k51:Cx:=cxG Pr Tryz.f129 [(204,gIn77)] [] (fun _=>false) (fun _=>false) (fun t=>Nat.beq t 40)
noncomputable abbrev k52:Cx:=cxG Pr Tryz.f130 [(205,gBit)]
theorem r51 (h:Hd) (β:Type) (K:CV->List (List CV)->Option β):fnK k51 Tryz.f129 [cHd.enc h] [] K=
 bif !Hd.a h then
 K (CV.bool (Hd.a h==false&&(Hd.b h==false&&(Hd.c h==false&&(Hd.x h==0&&(Hd.y h==0&&(Hd.z h==0&&true))))))) []
 else
 bif inS (Hd.x h) 63 then
 bif inS (Hd.y h) 1048576 then K (CV.bool (inS (Hd.z h) 1048576)) [] else K (CV.bool false) []
 else K (CV.bool false) []:=by kernel_rfl
theorem r52 (h:Hd) (β:Type) (K:CV->List (List CV)->Option β):fnK k52 Tryz.f130 [cHd.enc h] [] K=
 K (CV.int IntKind.i64 (IntKind.wrap IntKind.i64 (↑(BitVec.toNat (BitVec.ofInt (IntKind.bits IntKind.i64) (IntKind.wrap IntKind.i64 (↑(BitVec.toNat (BitVec.ofInt (IntKind.bits IntKind.i64) (IntKind.wrap IntKind.i64 (↑(BitVec.toNat (BitVec.ofInt (IntKind.bits IntKind.i64) (IntKind.wrap IntKind.i64 (↑(BitVec.toNat (BitVec.ofInt (IntKind.bits IntKind.i64) (IntKind.wrap IntKind.i64 (↑(BitVec.toNat (BitVec.ofInt (IntKind.bits IntKind.i64) (bif Hd.a h then 1 else 0) ||| BitVec.ofInt (IntKind.bits IntKind.i64) (bif Hd.b h then 2 else 0))):Int)) ||| BitVec.ofInt (IntKind.bits IntKind.i64) (bif Hd.c h then 4 else 0))):Int)) ||| BitVec.ofInt (IntKind.bits IntKind.i64) (IntKind.wrap IntKind.i64 (Hd.x h*Int.ofNat 8)))):Int)) ||| BitVec.ofInt (IntKind.bits IntKind.i64) (IntKind.wrap IntKind.i64 (Hd.y h*Int.ofNat 1024)))):Int)) ||| BitVec.ofInt (IntKind.bits IntKind.i64) (IntKind.wrap IntKind.i64 (Hd.z h*Int.ofNat 4294967296)))):Int))) []:=by kernel_rfl
theorem in77_good:GoodC Pr 204 gIn77:=
 good2 ((CxOK.baseG Good.nil GoodI.nil (eqOK_none fun _=>rfl)).sound (cx:=k77) Tryz.func204 (by kernel_rfl) (by kernel_rfl) rfl (by kernel_rfl)) fun n h _ β K=>by
  rw [r77]
  unfold inS
  cases decide (n>=0) <;> rfl
theorem bit_good:GoodC Pr 205 gBit:=
 good2 ((CxOK.baseG Good.nil GoodI.nil (eqOK_none fun _=>rfl)).sound (cx:=k78) Tryz.func205 (by kernel_rfl) (by kernel_rfl) rfl (by kernel_rfl)) fun n h _ β K=>by
  rw [r78]
  cases n <;> rfl
def mayH (h:Hd):Bool:=bif !h.a then !h.b && !h.c&&h.x==0&&h.y==0&&h.z==0 else inS h.x 63&&(inS h.y 1048576&&inS h.z 1048576)
def orI (a b:Int):Int:=IntKind.wrap IntKind.i64 (((BitVec.ofInt 64 a ||| BitVec.ofInt 64 b).toNat:Nat):Int)
def andI (a b:Int):Int:=IntKind.wrap IntKind.i64 (((BitVec.ofInt 64 a &&& BitVec.ofInt 64 b).toNat:Nat):Int)
def packH (h:Hd):Int:=orI (orI (orI (orI (orI (bif h.a then 1 else 0) (bif h.b then 2 else 0)) (bif h.c then 4 else 0)) (IntKind.i64.wrap (h.x*8))) (IntKind.i64.wrap (h.y*1024))) (IntKind.i64.wrap (h.z*4294967296))
def gMayH:Callee:=g1 cHd (fun _=>true) fun h=>cB.enc (mayH h)
def gPackH:Callee:=g1 cHd (fun _=>true) fun h=>cI.enc (packH h)
theorem mayH_good:GoodC Pr 129 gMayH:=
 good1 ((CxOK.baseG (Good.cons in77_good Good.nil) GoodI.nil (eqOK_head rfl rfl)).sound (cx:=k51) Tryz.func129 (by kernel_rfl) (by kernel_rfl) rfl (by kernel_rfl)) fun h _ β K=>by
  rw [r51]
  unfold mayH
  obtain ⟨a,b,c,x,y,z⟩:=h
  cases a with
  | false=>
   show K (.bool _) []=K (.bool _) []
   congr 2
   cases b <;> cases c <;> simp [Bool.and_assoc]
  | true=>
   simp only [Bool.not_true,cond_false]
   cases inS x 63 with
   | false=>rfl
   | true=>cases inS y 1048576 <;> rfl
theorem pack_good:GoodC Pr 130 gPackH:=
 good1 ((CxOK.baseG (Good.cons bit_good Good.nil) GoodI.nil (eqOK_none fun _=>rfl)).sound (cx:=k52) Tryz.func130 (by kernel_rfl) (by kernel_rfl) rfl (by kernel_rfl)) fun h _ β K=>by
  rw [r52];rfl
noncomputable abbrev k25:Cx:=cxG Pr Tryz.f62 [(129,gMayH),(130,gPackH)]
theorem r25 (w:Int) (β:Type) (K:CV->List (List CV)->Option β):fnK k25 Tryz.f62 [cI.enc w] [] K=
 bif !mayH {a:=IntKind.wrap IntKind.i64 (↑(BitVec.toNat (BitVec.ofInt (IntKind.bits IntKind.i64) w &&& BitVec.ofInt (IntKind.bits IntKind.i64) 1)):Int) != 0,b:=IntKind.wrap IntKind.i64 (↑(BitVec.toNat (BitVec.ofInt (IntKind.bits IntKind.i64) w &&& BitVec.ofInt (IntKind.bits IntKind.i64) 2)):Int) != 0,c:=IntKind.wrap IntKind.i64 (↑(BitVec.toNat (BitVec.ofInt (IntKind.bits IntKind.i64) w &&& BitVec.ofInt (IntKind.bits IntKind.i64) 4)):Int) != 0,x:=IntKind.wrap IntKind.i64 (↑(BitVec.toNat (BitVec.ofInt (IntKind.bits IntKind.i64) (Int.fdiv w (Int.ofNat 8)) &&& BitVec.ofInt (IntKind.bits IntKind.i64) 127)):Int),y:=IntKind.wrap IntKind.i64 (↑(BitVec.toNat (BitVec.ofInt (IntKind.bits IntKind.i64) (Int.fdiv w (Int.ofNat 1024)) &&& BitVec.ofInt (IntKind.bits IntKind.i64) 4194303)):Int),z:=Int.fdiv w (Int.ofNat 4294967296)} then
 K (CV.tup [CV.agg [CV.bool false,CV.bool false,CV.bool false,CV.int IntKind.i64 0,CV.int IntKind.i64 0,CV.int IntKind.i64 0],CV.bool false]) []
 else
 bif packH {a:=IntKind.wrap IntKind.i64 (↑(BitVec.toNat (BitVec.ofInt (IntKind.bits IntKind.i64) w &&& BitVec.ofInt (IntKind.bits IntKind.i64) 1)):Int) != 0,b:=IntKind.wrap IntKind.i64 (↑(BitVec.toNat (BitVec.ofInt (IntKind.bits IntKind.i64) w &&& BitVec.ofInt (IntKind.bits IntKind.i64) 2)):Int) != 0,c:=IntKind.wrap IntKind.i64 (↑(BitVec.toNat (BitVec.ofInt (IntKind.bits IntKind.i64) w &&& BitVec.ofInt (IntKind.bits IntKind.i64) 4)):Int) != 0,x:=IntKind.wrap IntKind.i64 (↑(BitVec.toNat (BitVec.ofInt (IntKind.bits IntKind.i64) (Int.fdiv w (Int.ofNat 8)) &&& BitVec.ofInt (IntKind.bits IntKind.i64) 127)):Int),y:=IntKind.wrap IntKind.i64 (↑(BitVec.toNat (BitVec.ofInt (IntKind.bits IntKind.i64) (Int.fdiv w (Int.ofNat 1024)) &&& BitVec.ofInt (IntKind.bits IntKind.i64) 4194303)):Int),z:=Int.fdiv w (Int.ofNat 4294967296)} != w then
 K (CV.tup [CV.agg [CV.bool false,CV.bool false,CV.bool false,CV.int IntKind.i64 0,CV.int IntKind.i64 0,CV.int IntKind.i64 0],CV.bool false]) []
 else
 K (CV.tup [CV.agg [CV.bool (IntKind.wrap IntKind.i64 (↑(BitVec.toNat (BitVec.ofInt (IntKind.bits IntKind.i64) w &&& BitVec.ofInt (IntKind.bits IntKind.i64) 1)):Int) != 0),CV.bool (IntKind.wrap IntKind.i64 (↑(BitVec.toNat (BitVec.ofInt (IntKind.bits IntKind.i64) w &&& BitVec.ofInt (IntKind.bits IntKind.i64) 2)):Int) != 0),CV.bool (IntKind.wrap IntKind.i64 (↑(BitVec.toNat (BitVec.ofInt (IntKind.bits IntKind.i64) w &&& BitVec.ofInt (IntKind.bits IntKind.i64) 4)):Int) != 0),CV.int IntKind.i64 (IntKind.wrap IntKind.i64 (↑(BitVec.toNat (BitVec.ofInt (IntKind.bits IntKind.i64) (Int.fdiv w (Int.ofNat 8)) &&& BitVec.ofInt (IntKind.bits IntKind.i64) 127)):Int)),CV.int IntKind.i64 (IntKind.wrap IntKind.i64 (↑(BitVec.toNat (BitVec.ofInt (IntKind.bits IntKind.i64) (Int.fdiv w (Int.ofNat 1024)) &&& BitVec.ofInt (IntKind.bits IntKind.i64) 4194303)):Int)),CV.int IntKind.i64 (Int.fdiv w (Int.ofNat 4294967296))],CV.bool true]) []:=by kernel_rfl
def unp (w:Int):Hd:=⟨andI w 1 != 0,andI w 2 != 0,andI w 4 != 0,andI (Int.fdiv w 8) 127,andI (Int.fdiv w 1024) 4194303,Int.fdiv w 4294967296⟩
def unpOK (w:Int):Bool:=mayH (unp w)&&packH (unp w)==w
def Hd.z0:Hd:=⟨false,false,false,0,0,0⟩
def unpE (w:Int):CV := .tup [cHd.enc (bif unpOK w then unp w else Hd.z0),.bool (unpOK w)]
def gUnp:Callee:=g1 cI (fun _=>true) unpE
theorem unp_good:GoodC Pr 62 gUnp:=
 good1 ((CxOK.baseG (Good.cons mayH_good (Good.cons pack_good Good.nil)) GoodI.nil (eqOK_none fun _=>rfl)).sound (cx:=k25) Tryz.func62 (by kernel_rfl) (by kernel_rfl) rfl (by kernel_rfl)) fun w _ β K=>by
  refine (r25 w β K).trans ?_
  show (bif !mayH (unp w) then _ else bif packH (unp w) != w then _ else K (.tup [.agg (encH (unp w)),.bool true]) [])=_
  unfold unpE unpOK
  cases mayH (unp w) with
  | false=>rfl
  | true=>
   simp only [Bool.not_true,cond_false,Bool.true_and,bne]
   cases packH (unp w)==w <;> rfl
end Go.Ab

namespace Go.Ab
open Go
set_option maxRecDepth 100000
open Go.Proofs
noncomputable abbrev k75:Cx:=cxG Pr Tryz.f202 []
theorem r75 (n:Int) (β:Type) (K:CV->List (List CV)->Option β):fnK k75 Tryz.f202 [cI.enc n] [] K=
 bif decide (n>=1) then K (CV.bool (decide (n<=64))) [] else K (CV.bool false) []:=by kernel_rfl
def gApages:Callee:=g1 cI (fun _=>true) fun n=>cB.enc (decide (n>=1)&&decide (n<=64))
theorem apages_good:GoodC Pr 202 gApages:=
 good1 ((CxOK.baseG Good.nil GoodI.nil (eqOK_none fun _=>rfl)).sound (cx:=k75) Tryz.func202 (by kernel_rfl) (by kernel_rfl) rfl (by kernel_rfl)) fun n _ β K=>by
  rw [r75]
  cases decide (n>=1) <;> rfl
noncomputable abbrev k49:Cx:=cxG Pr Tryz.f127 [(202,gApages)]
theorem r49 (w:List Int) (β:Type) (K:CV->List (List CV)->Option β):fnK k49 Tryz.f127 [cIs.enc w] [] K=
 bif Int.tmod (↑(List.length (encI w)):Int) 16==0 then
 K (CV.bool (decide (IntKind.wrap IntKind.i64 (Int.tdiv (↑(List.length (encI w)):Int) 16)>=1)&&decide (IntKind.wrap IntKind.i64 (Int.tdiv (↑(List.length (encI w)):Int) 16)<=64))) []
 else K (CV.bool false) []:=by kernel_rfl
noncomputable abbrev k61:Cx:=cxG Pr Tryz.f111 [] [] (fun q=>Nat.beq q 5)
theorem r61 (w:List Int) (β:Type) (K:CV->List (List CV)->Option β):fnK k61 Tryz.f111 [cIs.enc w] [] K=
 bif List.isEmpty (encI w) then none
 else if List.length ([]++encI w)<=LIM then K (CV.own 1 ([]++encI w)) [] else none:=by kernel_rfl
def mayA (n:Nat):Bool:=Nat.beq (n % 16) 0&&(Nat.ble 1 (n / 16)&&Nat.ble (n / 16) 64)
def gMayA:Callee:=g1 cIs (fun w=>Nat.ble w.length 4000000000) fun w=>cB.enc (mayA w.length)
theorem wrap_nat {n:Nat} (h:n<=4000000000):IntKind.i64.wrap (n:Int)=n:=wrap_in ⟨by omega,by omega⟩
theorem mayA_good:GoodC Pr 127 gMayA:=
 good1 ((CxOK.baseG (Good.cons apages_good Good.nil) GoodI.nil (eqOK_none fun _=>rfl)).sound (cx:=k49) Tryz.func127 (by kernel_rfl) (by kernel_rfl) rfl (by kernel_rfl)) fun w hw β K=>by
  have hw:=Nat.le_of_ble_eq_true hw
  rw [r49]
  unfold mayA
  have e1:(encI w).length=w.length:=by simp [encI]
  have e2:Int.tmod (w.length:Int) 16=((w.length % 16:Nat):Int):=rfl
  have e3:Int.tdiv (w.length:Int) 16=((w.length / 16:Nat):Int):=rfl
  have e4:IntKind.i64.wrap ((w.length / 16:Nat):Int)=((w.length / 16:Nat):Int):=wrap_nat (by omega)
  rw [e1,e2,e3,e4]
  have e5:((((w.length % 16:Nat):Int))==0)=Nat.beq (w.length % 16) 0:=by
   rw [Bool.eq_iff_iff];simp;omega
  rw [e5]
  cases Nat.beq (w.length % 16) 0 with
  | false=>rfl
  | true=>
   rw [cond_true,Bool.true_and]
   congr 2
   rw [Bool.eq_iff_iff];simp;omega
def gCloneI:Callee:=g1 cIs (fun w => !w.isEmpty&&Nat.ble w.length 4000000000) fun w=>cOI.enc w
theorem cloneI_good:GoodC Pr 111 gCloneI:=
 good1 ((CxOK.baseG Good.nil GoodI.nil (eqOK_none fun _=>rfl)).sound (cx:=k61) Tryz.func111 (by kernel_rfl) (by kernel_rfl) rfl (by kernel_rfl)) fun w hp β K=>by
  simp only [Bool.and_eq_true,Bool.not_eq_true',List.isEmpty_eq_false_iff] at hp
  have hl:=Nat.le_of_ble_eq_true hp.2
  have e1:(encI w).isEmpty=false:=by simpa [encI] using hp.1
  rw [r61,e1,cond_false,List.nil_append,if_pos (lim_of (by simp [encI];omega))]
  rfl
def zeroW (w:List Int) (a n:Int):List Int:=splice w (a - 16).toNat (List.replicate n.toNat 0)
end Go.Ab

namespace Go.Ab
open Go
set_option maxRecDepth 100000
open Go.Proofs
structure Ls where
 a:List Int
 b:List Int
 c:List Int
def cLs:Cod Ls where
 enc:=fun l => .agg [.sl 1 (encI l.a),.sl 1 (encI l.b),.sl 1 (encI l.c)]
 dec:=fun c=>match c with | .agg [.sl 1 a,.sl 1 b,.sl 1 c]=>(decI a).bind fun a=>(decI b).bind fun b=>(decI c).bind fun c=>some ⟨a,b,c⟩ | _=>none
 ok:=fun c a h=>by
  split at h
  ·replace h:=bind_some' h
   obtain ⟨x,hx,h⟩:=h
   replace h:=bind_some' h
   obtain ⟨y,hy,h⟩:=h
   replace h:=bind_some' h
   obtain ⟨z,hz,h⟩:=h
   cases h
   rw [decI_enc hx,decI_enc hy,decI_enc hz]
  ·cases h
 de:=fun l=>by simp
def smL (l:Ls):Bool:=Nat.ble l.a.length 100000&&(Nat.ble l.b.length 100000&&Nat.ble l.c.length 100000)
theorem smL_le {l:Ls} (h:smL l=true):l.a.length<=100000/\l.b.length<=100000/\l.c.length<=100000:=by
 simp only [smL,Bool.and_eq_true] at h
 exact ⟨Nat.le_of_ble_eq_true h.1,Nat.le_of_ble_eq_true h.2.1,Nat.le_of_ble_eq_true h.2.2⟩
def Ls.get (l:Ls):Nat->List Int
 | 0=>l.a
 | 1=>l.b
 | _=>l.c
def Ls.set (l:Ls) (x:List Int):Nat->Ls
 | 0=>⟨x,l.b,l.c⟩
 | 1=>⟨l.a,x,l.c⟩
 | _=>⟨l.a,l.b,x⟩
def cRef (k:Nat):Cod Unit where
 enc:=fun _ => .ref k
 dec:=fun c=>match c with | .ref j=>bif Nat.beq j k then some () else none | _=>none
 ok:=fun c a h=>by
  split at h
  ·rename_i j
   cases e:Nat.beq j k with
   | true=>rw [Nat.eq_of_beq_eq_true e]
   | false=>rw [e] at h;cases h
  ·cases h
 de:=fun _=>by simp
inductive K3 where
 | x | y | z
structure L3 where
 a:List (List CV)
 b:List (List CV)
 c:List (List CV)
def inR (lo hi:Int) (x:Int):Bool:=bif decide (x>=lo) then decide (x<hi) else false
def K3.c:K3->Int
 | .x=>0
 | .y=>1
 | .z=>2
def K3.n:K3->Nat
 | .x=>0
 | .y=>1
 | .z=>2
def partOut (l:Ls) (c lo hi:Int):List Int:=(l.get c.toNat).filter (inR lo hi)
@[simp] theorem encI_app (x y:List Int):encI x++encI y=encI (x++y):=by simp [encI]
end Go.Ab

namespace Go.Ab
open Go
set_option maxRecDepth 100000
open Go.Proofs
noncomputable abbrev k101:Cx:=cxG Pr Tryz.f279 []
noncomputable abbrev k88:Cx:=cxG Pr Tryz.f269 []
theorem r101 (x:Int) (β:Type) (K:CV->List (List CV)->Option β):fnK k101 Tryz.f279 [cI.enc x] [] K=
 K (CV.bool (x != x)) []:=by kernel_rfl
theorem r88 (x:Int) (β:Type) (K:CV->List (List CV)->Option β):fnK k88 Tryz.f269 [cI.enc x] [] K=
 K (CV.bool (x != x)) []:=by kernel_rfl
def gNaN:Callee:=g1 cI (fun _=>true) fun _=>cB.enc false
theorem nan101:GoodC Pr 279 gNaN:=
 good1 ((CxOK.baseG Good.nil GoodI.nil (eqOK_none fun _=>rfl)).sound (cx:=k101) Tryz.func279 (by kernel_rfl) (by kernel_rfl) rfl (by kernel_rfl)) fun x _ β K=>by
  rw [r101];simp
theorem nan88:GoodC Pr 269 gNaN:=
 good1 ((CxOK.baseG Good.nil GoodI.nil (eqOK_none fun _=>rfl)).sound (cx:=k88) Tryz.func269 (by kernel_rfl) (by kernel_rfl) rfl (by kernel_rfl)) fun x _ β K=>by
  rw [r88];simp
noncomputable abbrev k87:Cx:=cxG Pr Tryz.f215 [(279,gNaN)]
theorem r87 (x y:Int) (β:Type) (K:CV->List (List CV)->Option β):fnK k87 Tryz.f215 [cI.enc x,cI.enc y] [] K=
 K (CV.bool (decide (x<y))) []:=by kernel_rfl
def gLess:Callee:=g2 cI cI (fun _ _=>true) fun x y=>cB.enc (decide (x<y))
theorem less_good:GoodC Pr 215 gLess:=
 good2 ((CxOK.baseG (Good.cons nan101 Good.nil) GoodI.nil (eqOK_none fun _=>rfl)).sound (cx:=k87) Tryz.func215 (by kernel_rfl) (by kernel_rfl) rfl (by kernel_rfl)) fun x y _ β K=>by
  rw [r87];rfl
noncomputable abbrev k79:Cx:=cxG Pr Tryz.f206 [(215,gLess),(269,gNaN)] [] (fun _=>false) (fun q=>Nat.beq q 60)
theorem bs_inl:GoodN Pr 206 (inlC k79 Tryz.f206):=(CxOK.baseG (Good.cons less_good (Good.cons nan88 Good.nil)) GoodI.nil (eqOK_none fun _=>rfl)).inlG (cx:=k79) Tryz.func206 (by kernel_rfl) (by kernel_rfl) rfl (by kernel_rfl)
noncomputable abbrev k54:Cx:=cxG Pr Tryz.f132 [] [(206,inlC k79 Tryz.f206)]
theorem r54 (n:Int) (β:Type) (K:CV->List (List CV)->Option β):fnK k54 Tryz.f132 [cI.enc n] [] K=
 bif decide (n<1) then K (CV.tup [CV.int IntKind.i64 0,CV.int IntKind.i64 1]) []
 else
 bif decide (n>63) then K (CV.tup [CV.int IntKind.i64 0,CV.int IntKind.i64 2]) []
 else
 bif decide (4<IntKind.wrap IntKind.i64 (n+1)) then
 bif decide (8<IntKind.wrap IntKind.i64 (n+1)) then
 K (CV.tup [CV.int IntKind.i64 3,CV.int IntKind.i64 0]) []
 else
 bif 8==IntKind.wrap IntKind.i64 (n+1) then K (CV.tup [CV.int IntKind.i64 2,CV.int IntKind.i64 0]) []
 else K (CV.tup [CV.int IntKind.i64 2,CV.int IntKind.i64 0]) []
 else
 bif decide (2<IntKind.wrap IntKind.i64 (n+1)) then
 bif 4==IntKind.wrap IntKind.i64 (n+1) then K (CV.tup [CV.int IntKind.i64 1,CV.int IntKind.i64 0]) []
 else K (CV.tup [CV.int IntKind.i64 1,CV.int IntKind.i64 0]) []
 else
 bif 2==IntKind.wrap IntKind.i64 (n+1) then K (CV.tup [CV.int IntKind.i64 0,CV.int IntKind.i64 0]) []
 else K (CV.tup [CV.int IntKind.i64 0,CV.int IntKind.i64 0]) []:=by kernel_rfl
def ofE (n:Int):Int×Int:=bif decide (n<1) then (0,1) else bif decide (n>63) then (0,2) else (bif decide (n>7) then 3 else bif decide (n>3) then 2 else bif decide (n>1) then 1 else 0,0)
def gOf:Callee:=g1 cI (fun _=>true) fun n => .tup [cI.enc (ofE n).1,cI.enc (ofE n).2]
theorem of_good:GoodC Pr 132 gOf:=
 good1 ((CxOK.baseG Good.nil (GoodI.cons bs_inl GoodI.nil) (eqOK_none fun _=>rfl)).sound (cx:=k54) Tryz.func132 (by kernel_rfl) (by kernel_rfl) rfl (by kernel_rfl)) fun n _ β K=>by
  rw [r54]
  unfold ofE
  by_cases h1:n<1
  ·simp only [decide_eq_true h1,cond_true];rfl
  ·by_cases h2:n>63
   ·simp only [decide_eq_false h1,decide_eq_true h2,cond_true,cond_false];rfl
   ·rw [wrap_in (a:=n+1) (by omega)]
    simp only [decide_eq_false h1,decide_eq_false h2,cond_false]
    by_cases h3:n>7
    ·rw [decide_eq_true h3,decide_eq_true (show 4<n+1 by omega),decide_eq_true (show 8<n+1 by omega)];rfl
    ·rw [decide_eq_false h3,decide_eq_false (show ¬ 8<n+1 by omega)]
     by_cases h4:n>3
     ·rw [decide_eq_true h4,decide_eq_true (show 4<n+1 by omega)];cases (8:Int)==n+1 <;> rfl
     ·rw [decide_eq_false h4,decide_eq_false (show ¬ 4<n+1 by omega)]
      by_cases h5:n>1
      ·rw [decide_eq_true h5,decide_eq_true (show 2<n+1 by omega)];cases (4:Int)==n+1 <;> rfl
      ·rw [decide_eq_false h5,decide_eq_false (show ¬ 2<n+1 by omega)];cases (2:Int)==n+1 <;> rfl
noncomputable abbrev k53:Cx:=cxG Pr Tryz.f131 [(132,gOf)]
theorem r53 (n:Int) (β:Type) (K:CV->List (List CV)->Option β):fnK k53 Tryz.f131 [cI.enc n] [] K=
 bif Prod.snd (ofE n) != 0 then K (CV.tup [CV.int IntKind.i64 0,CV.int IntKind.i64 (Prod.snd (ofE n))]) []
 else
 bif decide (Prod.fst (ofE n)<3) then K (CV.tup [CV.int IntKind.i64 0,CV.int IntKind.i64 3]) []
 else
 K (CV.tup [CV.int IntKind.i64 (IntKind.wrap IntKind.i64 (IntKind.wrap IntKind.i64 (Int.tdiv n 16)+1)),CV.int IntKind.i64 0]) []:=by kernel_rfl
def runE (n:Int):Int×Int:=bif (ofE n).2 != 0 then (0,(ofE n).2) else bif decide ((ofE n).1<3) then (0,3) else (IntKind.i64.wrap (IntKind.i64.wrap (Int.tdiv n 16)+1),0)
def gRun:Callee:=g1 cI (fun _=>true) fun n => .tup [cI.enc (runE n).1,cI.enc (runE n).2]
structure Hp where
 w:List Int
 p:List Pg
 f:Ls
 c:List Bool
def encBs (l:List Bool):List (List CV):=l.map fun b=>[.bool b]
def decBs:List (List CV)->Option (List Bool)
 | []=>some []
 | c::r=>match c with
  | [.bool b]=>(decBs r).bind fun s=>some (b::s)
  | _=>none
@[simp] theorem decBs_enc:∀ l,decBs (encBs l)=some l
 | []=>rfl
 | b::l=>by
  show (decBs (encBs l)).bind _=_
  rw [decBs_enc l];rfl
theorem decBs_ok:∀ {L l},decBs L=some l->L=encBs l
 | [],l,h=>by cases h;rfl
 | c::r,l,h=>by
  simp only [decBs] at h
  split at h
  ·replace h:=bind_some' h
   obtain ⟨s,hs,h⟩:=h
   cases h
   rw [decBs_ok hs];rfl
  ·cases h
def encHp (h:Hp):List CV:=[.sl 1 (encI h.w),.sl 2 (h.p.map encP),.sl 1 (encI h.f.a),.sl 1 (encI h.f.b),.sl 1 (encI h.f.c),.sl 1 (encBs h.c)]
def cHp:Cod Hp where
 enc:=fun h => .agg (encHp h)
 dec:=fun c=>match c with
  | .agg [.sl 1 w,.sl 2 p,.sl 1 a,.sl 1 b,.sl 1 c,.sl 1 d]=>(decI w).bind fun w=>(decP p).bind fun p=>(decI a).bind fun a=>(decI b).bind fun b=>(decI c).bind fun c=>(decBs d).bind fun d=>some ⟨w,p,⟨a,b,c⟩,d⟩
  | _=>none
 ok:=fun c p h=>by
  split at h
  ·replace h:=bind_some' h
   obtain ⟨x,hx,h⟩:=h
   replace h:=bind_some' h
   obtain ⟨y,hy,h⟩:=h
   replace h:=bind_some' h
   obtain ⟨z,hz,h⟩:=h
   replace h:=bind_some' h
   obtain ⟨x',hx',h⟩:=h
   replace h:=bind_some' h
   obtain ⟨y',hy',h⟩:=h
   replace h:=bind_some' h
   obtain ⟨z',hz',h⟩:=h
   cases h
   rw [decI_enc hx,decP_enc hy,decI_enc hz,decI_enc hx',decI_enc hy',decBs_ok hz']
   rfl
  ·cases h
 de:=fun l=>by simp [encHp,decP_map]
def cPg:Cod Pg where
 enc:=fun p => .agg (encP p)
 dec:=fun c=>match c with | .agg [.int .i64 a,.int .i64 b]=>some (a,b) | _=>none
 ok:=fun c a h=>by
  split at h
  ·cases h;rfl
  ·cases h
 de:=fun _=>rfl
noncomputable abbrev k26:Cx:=cxG Pr Tryz.f63 []
theorem r26 (h:Hp) (a:Int) (β:Type) (K:CV->List (List CV)->Option β):fnK k26 Tryz.f63 [cHp.enc h,cI.enc a] [] K=
 Option.bind (rdE (encI (Hp.w h)) (IntKind.wrap IntKind.i64 (a - 16))) fun c=>
 Option.bind c[0]? fun x=>Option.bind (asI IntKind.i64 x) fun n=>K (CV.int IntKind.i64 n) []:=by kernel_rfl
noncomputable abbrev k27:Cx:=cxG Pr Tryz.f64 []
theorem r27 (h:Hp) (a:Int) (β:Type) (K:CV->List (List CV)->Option β):fnK k27 Tryz.f64 [cHp.enc h,cI.enc a] [] K=
 Option.bind (rdE (List.map encP (Hp.p h)) (IntKind.wrap IntKind.i64 (IntKind.wrap IntKind.i64 (Int.tdiv a 16) - 1))) fun c=>
 Option.bind c[0]? fun x=>
 Option.bind (asI IntKind.i64 x) fun n=>
 Option.bind c[1]? fun x=>
 Option.bind (asI IntKind.i64 x) fun n_1=>K (CV.agg [CV.int IntKind.i64 n,CV.int IntKind.i64 n_1]) []:=by kernel_rfl
noncomputable abbrev k28:Cx:=cxG Pr Tryz.f65 [(131,gRun),(132,gOf)]
theorem r28 (p:Pg) (n:Int) (β:Type) (K:CV->List (List CV)->Option β):fnK k28 Tryz.f65 [cPg.enc p,cI.enc n] [] K=
 bif Prod.fst p==2 then
 bif Prod.snd (runE n)==0 then K (CV.bool (Prod.fst (runE n)==Prod.snd p)) [] else K (CV.bool false) []
 else bif Prod.snd (ofE n)==0 then K (CV.bool (Prod.fst (ofE n)==Prod.snd p)) [] else K (CV.bool false) []:=by kernel_rfl
noncomputable abbrev k23:Cx:=cxG Pr Tryz.f60 [(127,gMayA),(128,gMayP)]
theorem r23 (h:Hp) (β:Type) (K:CV->List (List CV)->Option β):fnK k23 Tryz.f60 [cHp.enc h] [] K=
 Option.bind (decI (encI (Hp.w h))) fun a=>
 bif Nat.ble (List.length a) 4000000000 then
 bif mayA (List.length a) then
 Option.bind (decP (List.map encP (Hp.p h))) fun a=>
 bif sm a then
 bif may a then
 bif (↑(List.length (encI (Hp.w h))):Int)==IntKind.wrap IntKind.i64 (16*(↑(List.length (List.map encP (Hp.p h))):Int)) then
 K (CV.bool ((↑(List.length (encBs (Hp.c h))):Int)==IntKind.wrap IntKind.i64 (Int.tdiv (↑(List.length (encI (Hp.w h))):Int) 8))) []
 else K (CV.bool false) []
 else K (CV.bool false) []
 else none
 else K (CV.bool false) []
 else none:=by kernel_rfl
theorem run_good:GoodC Pr 131 gRun:=
 good1 ((CxOK.baseG (Good.cons of_good Good.nil) GoodI.nil (eqOK_none fun _=>rfl)).sound (cx:=k53) Tryz.func131 (by kernel_rfl) (by kernel_rfl) rfl (by kernel_rfl)) fun n _ β K=>by
  rw [r53]
  unfold runE
  cases (ofE n).2 != 0 with
  | true=>rfl
  | false=>cases decide ((ofE n).1<3) <;> rfl
def wordE (h:Hp) (a:Int):Int:=h.w.getD (a - 16).toNat 0
def pageE (h:Hp) (a:Int):Pg:=h.p.getD (a / 16 - 1).toNat (0,0)
def fitsE (p:Pg) (n:Int):Bool:=bif p.1==2 then (runE n).2==0&&(runE n).1==p.2 else (ofE n).2==0&&(ofE n).1==p.2
def shapedE (h:Hp):Bool:=mayA h.w.length&&(may h.p&&(Nat.beq h.w.length (16*h.p.length)&&Nat.beq h.c.length (h.w.length / 8)))
def smH (h:Hp):Bool:=Nat.ble h.w.length 100000&&(sm h.p&&(Nat.ble h.c.length 100000&&smL h.f))
def inW (h:Hp) (a:Int):Bool:=smH h&&(decide (16<=a)&&decide (a<16+(h.w.length:Int)))
def inP (h:Hp) (a:Int):Bool:=smH h&&(decide (16<=a)&&decide (a<16+16*(h.p.length:Int)))
def gWord:Callee:=g2 cHp cI inW fun h a=>cI.enc (wordE h a)
def gPage:Callee:=g2 cHp cI inP fun h a=>cPg.enc (pageE h a)
def gFits:Callee:=g2 cPg cI (fun _ _=>true) fun p n=>cB.enc (fitsE p n)
def gShaped:Callee:=g1 cHp smH fun h=>cB.enc (shapedE h)
theorem smH_le {h:Hp} (hh:smH h=true):h.w.length<=100000/\h.p.length<=200/\h.c.length<=100000/\smL h.f=true:=by
 simp only [smH,Bool.and_eq_true] at hh
 exact ⟨Nat.le_of_ble_eq_true hh.1,sm_le hh.2.1,Nat.le_of_ble_eq_true hh.2.2.1,hh.2.2.2⟩
theorem word_good:GoodC Pr 63 gWord:=
 good2 ((CxOK.baseG Good.nil GoodI.nil (eqOK_none fun _=>rfl)).sound (cx:=k26) Tryz.func63 (by kernel_rfl) (by kernel_rfl) rfl (by kernel_rfl)) fun h a hp β K=>by
  simp only [inW,Bool.and_eq_true,decide_eq_true_eq] at hp
  obtain ⟨hs,h1,h2⟩:=hp
  have hl:=(smH_le hs).1
  rw [r26,wrap_in (a:=a - 16) (by omega),rdE_nat (by omega)]
  have e1:(encI h.w)[(a - 16).toNat]? = some [CV.int .i64 (wordE h a)]:=by
   have:(a - 16).toNat<h.w.length:=by omega
   simp [encI,wordE,this]
  simp only [e1,Option.bind_some,zero_get,asI_i]
  rfl
theorem page_good:GoodC Pr 64 gPage:=
 good2 ((CxOK.baseG Good.nil GoodI.nil (eqOK_none fun _=>rfl)).sound (cx:=k27) Tryz.func64 (by kernel_rfl) (by kernel_rfl) rfl (by kernel_rfl)) fun h a hp β K=>by
  simp only [inP,Bool.and_eq_true,decide_eq_true_eq] at hp
  obtain ⟨hs,h1,h2⟩:=hp
  have hl:=(smH_le hs).2.1
  rw [r27,tdiv_pos (by omega),wrap_in (a:=a / 16) (by omega),wrap_in (a:=a / 16 - 1) (by omega),rdE_nat (by omega)]
  have e1:(List.map encP h.p)[(a / 16 - 1).toNat]? = some (encP (pageE h a)):=by
   have:(a / 16 - 1).toNat<h.p.length:=by omega
   rw [List.getElem?_map,pageE,List.getD_eq_getElem?_getD,List.getElem?_eq_getElem this]
   rfl
  simp only [e1,Option.bind_some,encP,zero_get,one_get,asI_i]
  rfl
theorem fits_good:GoodC Pr 65 gFits:=
 good2 ((CxOK.baseG (Good.cons run_good (Good.cons of_good Good.nil)) GoodI.nil (eqOK_none fun _=>rfl)).sound (cx:=k28) Tryz.func65 (by kernel_rfl) (by kernel_rfl) rfl (by kernel_rfl)) fun p n _ β K=>by
  rw [r28]
  unfold fitsE
  cases p.1==2 with
  | true=>cases (runE n).2==0 <;> rfl
  | false=>cases (ofE n).2==0 <;> rfl
theorem encBs_len (l:List Bool):(encBs l).length=l.length:=by simp [encBs]
theorem beq_nat (a b:Nat):(((a:Nat):Int)==((b:Nat):Int))=Nat.beq a b:=by
 rw [Bool.eq_iff_iff];simp;omega
theorem shaped_good:GoodC Pr 60 gShaped:=
 good1 ((CxOK.baseG (Good.cons mayA_good (Good.cons mayP_good Good.nil)) GoodI.nil (eqOK_none fun _=>rfl)).sound (cx:=k23) Tryz.func60 (by kernel_rfl) (by kernel_rfl) rfl (by kernel_rfl)) fun h hs β K=>by
  obtain ⟨h1,h2,h3,_⟩:=smH_le hs
  rw [r23]
  unfold shapedE
  have e1:IntKind.i64.wrap (16*(h.p.length:Int))=((16*h.p.length:Nat):Int):=by
   rw [wrap_in (by omega)];omega
  have e2:IntKind.i64.wrap (Int.tdiv (h.w.length:Int) 8)=((h.w.length / 8:Nat):Int):=wrap_nat (show h.w.length / 8<=4000000000 by omega)
  simp only [decI_map,Option.bind_some,Nat.ble_eq_true_of_le (show h.w.length<=4000000000 by omega),cond_true,decP_map,sm_of h2,encI_len,List.length_map,e1,e2,encBs_len,beq_nat]
  cases mayA h.w.length with
  | false=>rfl
  | true=>
   cases may h.p with
   | false=>rfl
   | true=>cases Nat.beq h.w.length (16*h.p.length) <;> rfl
end Go.Ab

namespace Go.Ab
open Go
set_option maxRecDepth 100000
open Go.Proofs
def cPH:Cod Hp where
 enc:=fun h => .pc (encHp h) 0
 dec:=fun c=>match c with
  | .pc cs o=>bif Nat.beq o 0 then cHp.dec (.agg cs) else none
  | _=>none
 ok:=fun c p h=>by
  split at h
  ·rename_i cs o
   cases e:Nat.beq o 0 with
   | false=>rw [e] at h;cases h
   | true=>
    rw [e] at h
    have:=cHp.ok _ _ h
    rw [Nat.eq_of_beq_eq_true e]
    cases this
    rfl
  ·cases h
 de:=fun h=>cHp.de h
def cPI:Cod Int where
 enc:=fun k => .pc [.int .i64 k] 0
 dec:=fun c=>match c with
  | .pc [.int .i64 k] 0=>some k
  | _=>none
 ok:=fun c p h=>by
  split at h
  ·cases h;rfl
  ·cases h
 de:=fun _=>rfl
theorem roomH_good:GoodC Pr 73 gRoom:=⟨room_sound,room_nat⟩
noncomputable abbrev k24:Cx:=cxG Pr Tryz.f61 [(63,gWord),(62,gUnp),(64,gPage),(65,gFits)]
noncomputable abbrev k55:Cx:=cxG Pr Tryz.f133 [(73,gRoom),(64,gPage),(63,gWord)] [] (fun _=>false) (fun _=>false) (fun t=>Nat.beq t 107)
noncomputable abbrev k45:Cx:=cxG Pr Tryz.f101 [(63,gWord)]
theorem r24 (a:Int) (h:Hp) (β:Type) (K:CV->List (List CV)->Option β):fnK k24 Tryz.f61 [cI.enc a,cPH.enc h] [] K=
 Option.bind (Option.bind (decI (encI (Hp.w h))) fun w=>
 Option.bind (decP (List.map encP (Hp.p h))) fun p=>
 Option.bind (decI (encI (Ls.a (Hp.f h)))) fun a=>
 Option.bind (decI (encI (Ls.b (Hp.f h)))) fun b=>
 Option.bind (decI (encI (Ls.c (Hp.f h)))) fun c=>
 Option.bind (decBs (encBs (Hp.c h))) fun d=>some {w:=w,p:=p,f:={a:=a,b:=b,c:=c},c:=d}) fun a_1=>
 bif inW a_1 a then
 Option.bind (Option.bind (decI (encI (Hp.w h))) fun w=>
 Option.bind (decP (List.map encP (Hp.p h))) fun p=>
 Option.bind (decI (encI (Ls.a (Hp.f h)))) fun a=>
 Option.bind (decI (encI (Ls.b (Hp.f h)))) fun b=>
 Option.bind (decI (encI (Ls.c (Hp.f h)))) fun c=>
 Option.bind (decBs (encBs (Hp.c h))) fun d=>some {w:=w,p:=p,f:={a:=a,b:=b,c:=c},c:=d}) fun a_2=>
 bif inP a_2 a then
 bif unpOK (wordE a_1 a) then
 bif !Hd.a (bif unpOK (wordE a_1 a) then unp (wordE a_1 a) else Hd.z0) then
 bif Prod.fst (pageE a_2 a)==1 then K (CV.bool true) []
 else
 bif Hd.a (bif unpOK (wordE a_1 a) then unp (wordE a_1 a) else Hd.z0) then
 K (CV.bool (fitsE (Prod.fst (pageE a_2 a),Prod.snd (pageE a_2 a)) (Hd.x (bif unpOK (wordE a_1 a) then unp (wordE a_1 a) else Hd.z0)))) []
 else K (CV.bool false) []
 else
 bif Hd.a (bif unpOK (wordE a_1 a) then unp (wordE a_1 a) else Hd.z0) then
 K (CV.bool (fitsE (Prod.fst (pageE a_2 a),Prod.snd (pageE a_2 a)) (Hd.x (bif unpOK (wordE a_1 a) then unp (wordE a_1 a) else Hd.z0)))) []
 else K (CV.bool false) []
 else K (CV.bool false) []
 else none
 else none:=by kernel_rfl
theorem r55 (a:Int) (h:Hp) (k:Int) (β:Type) (K:CV->List (List CV)->Option β):fnK k55 Tryz.f133 [cI.enc a,cPH.enc h,cPI.enc k] [] K=
 Option.bind (decP (List.map encP (Hp.p h))) fun ps=>
 bif Nat.ble (List.length ps) 200 then
 bif decide (roomA ps a>0) then
 Option.bind (Option.bind (decI (encI (Hp.w h))) fun w=>
 Option.bind (decP (List.map encP (Hp.p h))) fun p=>
 Option.bind (decI (encI (Ls.a (Hp.f h)))) fun a=>
 Option.bind (decI (encI (Ls.b (Hp.f h)))) fun b=>
 Option.bind (decI (encI (Ls.c (Hp.f h)))) fun c=>
 Option.bind (decBs (encBs (Hp.c h))) fun d=>some {w:=w,p:=p,f:={a:=a,b:=b,c:=c},c:=d}) fun a_1=>
 bif inP a_1 a then
 bif Prod.fst (pageE a_1 a)==1&&(Prod.snd (pageE a_1 a)==k&&true) then
 Option.bind (Option.bind (decI (encI (Hp.w h))) fun w=>
 Option.bind (decP (List.map encP (Hp.p h))) fun p=>
 Option.bind (decI (encI (Ls.a (Hp.f h)))) fun a=>
 Option.bind (decI (encI (Ls.b (Hp.f h)))) fun b=>
 Option.bind (decI (encI (Ls.c (Hp.f h)))) fun c=>
 Option.bind (decBs (encBs (Hp.c h))) fun d=>some {w:=w,p:=p,f:={a:=a,b:=b,c:=c},c:=d}) fun a_2=>bif inW a_2 a then K (CV.bool (wordE a_2 a==0)) [] else none
 else K (CV.bool false) []
 else none
 else K (CV.bool false) []
 else none:=by kernel_rfl
theorem r45 (a:Int) (h:Hp) (β:Type) (K:CV->List (List CV)->Option β):fnK k45 Tryz.f101 [cI.enc a,cPH.enc h] [] K=
 Option.bind (Option.bind (decI (encI (Hp.w h))) fun w=>
 Option.bind (decP (List.map encP (Hp.p h))) fun p=>
 Option.bind (decI (encI (Ls.a (Hp.f h)))) fun a=>
 Option.bind (decI (encI (Ls.b (Hp.f h)))) fun b=>
 Option.bind (decI (encI (Ls.c (Hp.f h)))) fun c=>
 Option.bind (decBs (encBs (Hp.c h))) fun d=>some {w:=w,p:=p,f:={a:=a,b:=b,c:=c},c:=d}) fun a_1=>bif inW a_1 a then K (CV.bool (wordE a_1 a==0)) [] else none:=by kernel_rfl
def mayV (h:Hp) (a:Int):Bool:=unpOK (wordE h a)&&bif (unp (wordE h a)).a then fitsE (pageE h a) (unp (wordE h a)).x else (pageE h a).1==1
def listV (h:Hp) (k a:Int):Bool:=decide (roomA h.p a>0)&&(((pageE h a).1==1&&(pageE h a).2==k)&&wordE h a==0)
def usedV (h:Hp) (a:Int):Bool:=wordE h a==0
def gMay1:Callee:=g2 cI cPH (fun a h=>inW h a&&inP h a) fun a h=>cB.enc (mayV h a)
def gListed1:Callee:=g3 cI cPH cPI (fun _ h _=>smH h&&shapedE h) fun a h k=>cB.enc (listV h k a)
def gUsed1:Callee:=g2 cI cPH (fun a h=>inW h a) fun a h=>cB.enc (usedV h a)
theorem may1_good:GoodC Pr 61 gMay1:=
 good2 ((CxOK.baseG (Good.cons word_good (Good.cons unp_good (Good.cons page_good (Good.cons fits_good Good.nil)))) GoodI.nil (eqOK_none fun _=>rfl)).sound (cx:=k24) Tryz.func61 (by kernel_rfl) (by kernel_rfl) rfl (by kernel_rfl)) fun a h hp β K=>by
  simp only [Bool.and_eq_true] at hp
  refine (r24 a h β K).trans ?_
  have e:(⟨h.w,h.p,⟨h.f.a,h.f.b,h.f.c⟩,h.c⟩:Hp)=h:=rfl
  simp only [decI_map,decP_map,decBs_enc,Option.bind_some,e,hp.1,hp.2,cond_true]
  unfold mayV
  cases hu:unpOK (wordE h a) with
  | false=>rfl
  | true=>
   simp only [cond_true,Bool.true_and]
   cases (unp (wordE h a)).a with
   | true=>rfl
   | false=>cases (pageE h a).1==1 <;> rfl
theorem used1_good:GoodC Pr 101 gUsed1:=
 good2 ((CxOK.baseG (Good.cons word_good Good.nil) GoodI.nil (eqOK_none fun _=>rfl)).sound (cx:=k45) Tryz.func101 (by kernel_rfl) (by kernel_rfl) rfl (by kernel_rfl)) fun a h hp β K=>by
  refine (r45 a h β K).trans ?_
  have e:(⟨h.w,h.p,⟨h.f.a,h.f.b,h.f.c⟩,h.c⟩:Hp)=h:=rfl
  simp only [decI_map,decP_map,decBs_enc,Option.bind_some,e,hp,cond_true]
  rfl
theorem room_in {ps:List Pg} {a:Int} (h:roomA ps a>0):16<=a/\a<16+16*(ps.length:Int):=by
 have h1:=room_pos ps a
 rw [decide_eq_true h] at h1
 have h2:=of_decide_eq_true h1.symm
 have h3:=allCs_rises ps
 have h4:∀ (l:List Int) (lo hi:Int),rises lo hi l->a∈l->lo<=a/\a<hi:=by
  intro l
  induction l with
  | nil=>intro lo hi _ h;cases h
  | cons x l ih=>
   rintro lo hi ⟨g1,g2,g3⟩ h
   rcases List.mem_cons.1 h with rfl | h
   ·exact ⟨g1,g2⟩
   ·have:=ih _ _ g3 h
    omega
 have:=h4 _ _ _ h3 h2
 omega
theorem shaped_in {h:Hp} (hs:smH h=true) (hh:shapedE h=true) {a:Int} (h1:16<=a) (h2:a<16+16*(h.p.length:Int)):inW h a=true/\inP h a=true:=by
 simp only [shapedE,Bool.and_eq_true] at hh
 have:=Nat.eq_of_beq_eq_true hh.2.2.1
 simp only [inW,inP,hs,Bool.true_and,Bool.and_eq_true,decide_eq_true_eq]
 omega
theorem listed1_good:GoodC Pr 133 gListed1:=
 good3 ((CxOK.baseG (Good.cons roomH_good (Good.cons page_good (Good.cons word_good Good.nil))) GoodI.nil (eqOK_page rfl rfl)).sound (cx:=k55) Tryz.func133 (by kernel_rfl) (by kernel_rfl) rfl (by kernel_rfl)) fun a h k hp β K=>by
  simp only [Bool.and_eq_true] at hp
  refine (r55 a h k β K).trans ?_
  have e:(⟨h.w,h.p,⟨h.f.a,h.f.b,h.f.c⟩,h.c⟩:Hp)=h:=rfl
  simp only [decI_map,decP_map,decBs_enc,Option.bind_some,e,Nat.ble_eq_true_of_le (smH_le hp.1).2.1,cond_true]
  unfold listV
  by_cases hr:roomA h.p a>0
  ·obtain ⟨g1,g2⟩:=room_in hr
   obtain ⟨q1,q2⟩:=shaped_in hp.1 hp.2 g1 g2
   simp only [decide_eq_true hr,cond_true,q1,q2,Bool.and_true,Bool.true_and]
   cases (pageE h a).1==1&&(pageE h a).2==k <;> rfl
  ·rw [decide_eq_false hr];rfl
def cPM:Cod (List Int) where
 enc:=fun ks => .pc [.mp ks] 0
 dec:=fun c=>match c with | .pc [.mp ks] 0=>some ks | _=>none
 ok:=fun c a h=>by
  split at h
  ·cases h;rfl
  ·cases h
 de:=fun _=>rfl
noncomputable abbrev k37:Cx:=cxG Pr Tryz.f103 [(63,gWord)]
theorem r37 (a:Int) (h:Hp) (ks:List Int) (β:Type) (K:CV->List (List CV)->Option β):fnK k37 Tryz.f103 [cI.enc a,cPH.enc h,cPM.enc ks] [] K=
 Option.bind (Option.bind (decI (encI (Hp.w h))) fun w=>
 Option.bind (decP (List.map encP (Hp.p h))) fun p=>
 Option.bind (decI (encI (Ls.a (Hp.f h)))) fun a=>
 Option.bind (decI (encI (Ls.b (Hp.f h)))) fun b=>
 Option.bind (decI (encI (Ls.c (Hp.f h)))) fun c=>
 Option.bind (decBs (encBs (Hp.c h))) fun d=>some {w:=w,p:=p,f:={a:=a,b:=b,c:=c},c:=d}) fun a_1=>
 bif inW a_1 a then bif wordE a_1 a != 0 then K (CV.bool true) [] else K (CV.bool (List.contains ks a)) [] else none:=by kernel_rfl
def wholeV (h:Hp) (ks:List Int) (a:Int):Bool:=bif wordE h a != 0 then true else ks.contains a
def gWhole1:Callee:=g3 cI cPH cPM (fun a h _=>inW h a) fun a h ks=>cB.enc (wholeV h ks a)
theorem whole1_good:GoodC Pr 103 gWhole1:=
 good3 ((CxOK.baseG (Good.cons word_good Good.nil) GoodI.nil (eqOK_none fun _=>rfl)).sound (cx:=k37) Tryz.func103 (by kernel_rfl) (by kernel_rfl) rfl (by kernel_rfl)) fun a h ks hp β K=>by
  have e:(⟨h.w,h.p,⟨h.f.a,h.f.b,h.f.c⟩,h.c⟩:Hp)=h:=rfl
  rw [r37]
  simp only [decI_map,decP_map,decBs_enc,Option.bind_some,e,hp,cond_true]
  unfold wholeV
  cases wordE h a != 0 <;> rfl
inductive Clo where
 | may (h:Hp)
 | list (h:Hp) (k:Int)
 | whole (h:Hp) (ks:List Int)
def Clo.val:Clo->Int->Bool
 | .may h,a=>mayV h a
 | .list h k,a=>listV h k a
 | .whole h ks,a=>wholeV h ks a
def Clo.pre:Clo->Int->Bool
 | .may h,a=>inW h a&&inP h a
 | .list h _,_=>smH h&&shapedE h
 | .whole h _,a=>inW h a
def Clo.enc:Clo->CV
 | .may h => .fn 61 [] [cPH.enc h]
 | .list h k => .fn 133 [] [cPH.enc h,cPI.enc k]
 | .whole h ks => .fn 103 [] [cPH.enc h,cPM.enc ks]
def Clo.dec:CV->Option Clo
 | .fn f [] caps=>bif Nat.beq f 61 then (match caps with | [x]=>(cPH.dec x).map .may | _=>none)
   else bif Nat.beq f 133 then (match caps with | [x,y]=>(cPH.dec x).bind fun h=>(cPI.dec y).map fun k => .list h k | _=>none)
   else bif Nat.beq f 103 then (match caps with | [x,y]=>(cPH.dec x).bind fun h=>(cPM.dec y).map fun k => .whole h k | _=>none) else none
 | _=>none
theorem Clo.ok:∀ c a,Clo.dec c=some a->c=a.enc:=fun c a h=>by
 unfold Clo.dec at h
 split at h
 ·rename_i f caps
  cases e1:Nat.beq f 61 with
  | true=>
   rw [e1] at h
   simp only [cond_true] at h
   split at h
   ·rename_i x
    cases hx:cPH.dec x with
    | none=>rw [hx] at h;cases h
    | some y=>rw [hx] at h;cases h;rw [Nat.eq_of_beq_eq_true e1,cPH.ok _ _ hx];rfl
   ·cases h
  | false=>
   rw [e1] at h
   cases e2:Nat.beq f 133 with
   | true=>
    rw [e2] at h
    simp only [cond_true,cond_false] at h
    split at h
    ·rename_i x y
     replace h:=bind_some' h
     obtain ⟨p,hx,h⟩:=h
     cases hy:cPI.dec y with
     | none=>rw [hy] at h;cases h
     | some z=>rw [hy] at h;cases h;rw [Nat.eq_of_beq_eq_true e2,cPH.ok _ _ hx,cPI.ok _ _ hy];rfl
    ·cases h
   | false=>
    rw [e2] at h
    cases e3:Nat.beq f 103 with
    | true=>
     rw [e3] at h
     simp only [cond_true,cond_false] at h
     split at h
     ·rename_i x y
      replace h:=bind_some' h
      obtain ⟨p,hx,h⟩:=h
      cases hy:cPM.dec y with
      | none=>rw [hy] at h;cases h
      | some z=>rw [hy] at h;cases h;rw [Nat.eq_of_beq_eq_true e3,cPH.ok _ _ hx,cPM.ok _ _ hy];rfl
     ·cases h
    | false=>rw [e3] at h;cases h
 ·cases h
theorem Clo.de:∀ a:Clo,Clo.dec a.enc=some a
 | .may h=>by
  show (cPH.dec (cPH.enc h)).map Clo.may=_
  rw [cPH.de];rfl
 | .list h k=>by
  show ((cPH.dec (cPH.enc h)).bind fun h=>(cPI.dec (cPI.enc k)).map fun k=>Clo.list h k)=_
  rw [cPH.de,cPI.de];rfl
 | .whole h ks=>by
  show ((cPH.dec (cPH.enc h)).bind fun h=>(cPM.dec (cPM.enc ks)).map fun k=>Clo.whole h k)=_
  rw [cPH.de,cPM.de];rfl
def cPC:Cod Clo where
 enc:=fun c => .pc [c.enc] 0
 dec:=fun c=>match c with | .pc [x] 0=>Clo.dec x | _=>none
 ok:=fun c a h=>by
  split at h
  ·rw [Clo.ok _ _ h]
  ·cases h
 de:=fun a=>Clo.de a
def cEv:Cod Clo where
 enc:=fun c => .fn 135 [] [.pc [c.enc] 0]
 dec:=fun c=>match c with | .fn f [] [.pc [x] 0]=>bif Nat.beq f 135 then Clo.dec x else none | _=>none
 ok:=fun c a h=>by
  split at h
  ·rename_i f x
   cases e:Nat.beq f 135 with
   | true=>rw [e] at h;rw [Nat.eq_of_beq_eq_true e,Clo.ok _ _ h]
   | false=>rw [e] at h;cases h
  ·cases h
 de:=fun a=>Clo.de a
def cClo:Cod Clo:=⟨Clo.enc,Clo.dec,Clo.ok,Clo.de⟩
def gEvery1:Callee:=g2 cI cPC (fun a c=>c.pre a) fun a c=>cB.enc (!c.val a)
noncomputable abbrev k57:Cx:=cxG Pr Tryz.f135 [(61,gMay1),(133,gListed1),(103,gWhole1)]
theorem r57a (a:Int) (h:Hp) (β:Type) (K:CV->List (List CV)->Option β):fnK k57 Tryz.f135 [cI.enc a,cPC.enc (.may h)] [] K=
 Option.bind (Option.bind (decI (encI (Hp.w h))) fun w=>
 Option.bind (decP (List.map encP (Hp.p h))) fun p=>
 Option.bind (decI (encI (Ls.a (Hp.f h)))) fun a=>
 Option.bind (decI (encI (Ls.b (Hp.f h)))) fun b=>
 Option.bind (decI (encI (Ls.c (Hp.f h)))) fun c=>
 Option.bind (decBs (encBs (Hp.c h))) fun d=>some {w:=w,p:=p,f:={a:=a,b:=b,c:=c},c:=d}) fun b=>bif inW b a&&inP b a then K (CV.bool !mayV b a) [] else none:=by kernel_rfl
theorem r57b (a:Int) (h:Hp) (k:Int) (β:Type) (K:CV->List (List CV)->Option β):fnK k57 Tryz.f135 [cI.enc a,cPC.enc (.list h k)] [] K=
 Option.bind (Option.bind (decI (encI (Hp.w h))) fun w=>
 Option.bind (decP (List.map encP (Hp.p h))) fun p=>
 Option.bind (decI (encI (Ls.a (Hp.f h)))) fun a=>
 Option.bind (decI (encI (Ls.b (Hp.f h)))) fun b=>
 Option.bind (decI (encI (Ls.c (Hp.f h)))) fun c=>
 Option.bind (decBs (encBs (Hp.c h))) fun d=>some {w:=w,p:=p,f:={a:=a,b:=b,c:=c},c:=d}) fun b=>bif smH b&&shapedE b then K (CV.bool !listV b k a) [] else none:=by kernel_rfl
theorem r57c (a:Int) (h:Hp) (ks:List Int) (β:Type) (K:CV->List (List CV)->Option β):fnK k57 Tryz.f135 [cI.enc a,cPC.enc (.whole h ks)] [] K=
 Option.bind (Option.bind (decI (encI (Hp.w h))) fun w=>
 Option.bind (decP (List.map encP (Hp.p h))) fun p=>
 Option.bind (decI (encI (Ls.a (Hp.f h)))) fun a=>
 Option.bind (decI (encI (Ls.b (Hp.f h)))) fun b=>
 Option.bind (decI (encI (Ls.c (Hp.f h)))) fun c=>
 Option.bind (decBs (encBs (Hp.c h))) fun d=>some {w:=w,p:=p,f:={a:=a,b:=b,c:=c},c:=d}) fun b=>bif inW b a then K (CV.bool !wholeV b ks a) [] else none:=by kernel_rfl
theorem every1_good:GoodC Pr 135 gEvery1:=
 good2 ((CxOK.baseG (Good.cons may1_good (Good.cons listed1_good (Good.cons whole1_good Good.nil))) GoodI.nil (eqOK_none fun _=>rfl)).sound (cx:=k57) Tryz.func135 (by kernel_rfl) (by kernel_rfl) rfl (by kernel_rfl)) fun a c hp β K=>by
  cases c with
  | may h=>
   refine (r57a a h β K).trans ?_
   have e:(⟨h.w,h.p,⟨h.f.a,h.f.b,h.f.c⟩,h.c⟩:Hp)=h:=rfl
   have hp:(inW h a&&inP h a)=true:=hp
   simp only [decI_map,decP_map,decBs_enc,Option.bind_some,e,hp,cond_true]
   rfl
  | list h k=>
   refine (r57b a h k β K).trans ?_
   have e:(⟨h.w,h.p,⟨h.f.a,h.f.b,h.f.c⟩,h.c⟩:Hp)=h:=rfl
   have hp:(smH h&&shapedE h)=true:=hp
   simp only [decI_map,decP_map,decBs_enc,Option.bind_some,e,hp,cond_true]
   rfl
  | whole h ks=>
   refine (r57c a h ks β K).trans ?_
   have e:(⟨h.w,h.p,⟨h.f.a,h.f.b,h.f.c⟩,h.c⟩:Hp)=h:=rfl
   have hp:inW h a=true:=hp
   simp only [decI_map,decP_map,decBs_enc,Option.bind_some,e,hp,cond_true]
   rfl
abbrev o73:Exit->List Nat:=fun | .ret=>[4] | _=>[]
abbrev p73:=[false,true,false,true]
def badI (c:Clo) (xs:List Int):Option Nat:=xs.findIdx? fun x => !c.val x
def L73:LoopSem:=l4 [0,1,7,8] o73 cIs cEv cI cI c0 (fun xs c n i _=>xs.all c.pre&&(Nat.ble xs.length 100000&&(i==0&&n==(xs.length:Int))))
 fun xs c _ _ _ => .alt (badI c xs).isSome (.one .ret [cI.enc (((badI c xs).getD 0:Nat):Int)] []) (.one (.exit 0) [] [])
noncomputable abbrev k73a:Cx:=cxG Pr Tryz.f180 [(135,gEvery1)]
noncomputable abbrev k73:Cx:=k73a.loop p73 L73
theorem t73x (xs:List Int) (h:Hp) (n i:Int) (m:Nat) (β:Type) (K:Exit->List CV->List (List CV)->Option β):loopB k73a [0,1,7,8] o73 p73 (bodyL (bodyOf Tryz.f180) p73) (m+1) [cIs.enc xs,cEv.enc (.may h),cI.enc n,cI.enc i] [] K=
 bif decide (i<n) then
 Option.bind (rdE (encI xs) i) fun c=>
 Option.bind c[0]? fun x=>
 Option.bind (asI IntKind.i64 x) fun n_1=>
 Option.bind (Clo.dec (CV.fn 61 [] [CV.pc [CV.sl 1 (encI (Hp.w h)),CV.sl 2 (List.map encP (Hp.p h)),CV.sl 1 (encI (Ls.a (Hp.f h))),CV.sl 1 (encI (Ls.b (Hp.f h))),CV.sl 1 (encI (Ls.c (Hp.f h))),CV.sl 1 (encBs (Hp.c h))] 0])) fun b=>
 bif Clo.pre b n_1 then
 bif !Clo.val b n_1 then K Exit.ret [CV.int IntKind.i64 i] []
 else loopB k73a [0,1,7,8] o73 [false,true,false,true] (bodyL (bodyOf Tryz.f180) p73) m [CV.sl 1 (encI xs),CV.fn 135 [] [CV.pc [CV.fn 61 [] [CV.pc [CV.sl 1 (encI (Hp.w h)),CV.sl 2 (List.map encP (Hp.p h)),CV.sl 1 (encI (Ls.a (Hp.f h))),CV.sl 1 (encI (Ls.b (Hp.f h))),CV.sl 1 (encI (Ls.c (Hp.f h))),CV.sl 1 (encBs (Hp.c h))] 0]] 0],CV.int IntKind.i64 n,CV.int IntKind.i64 (IntKind.wrap IntKind.i64 (i+1))] [] fun a a_1 a_2=>K a a_1 a_2
 else none
 else K (Exit.exit 0) [] []:=by kernel_rfl
theorem t73y (xs:List Int) (h:Hp) (k n i:Int) (m:Nat) (β:Type) (K:Exit->List CV->List (List CV)->Option β):loopB k73a [0,1,7,8] o73 p73 (bodyL (bodyOf Tryz.f180) p73) (m+1) [cIs.enc xs,cEv.enc (.list h k),cI.enc n,cI.enc i] [] K=
 bif decide (i<n) then
 Option.bind (rdE (encI xs) i) fun c=>
 Option.bind c[0]? fun x=>
 Option.bind (asI IntKind.i64 x) fun n_1=>
 Option.bind (Clo.dec (CV.fn 133 [] [CV.pc [CV.sl 1 (encI (Hp.w h)),CV.sl 2 (List.map encP (Hp.p h)),CV.sl 1 (encI (Ls.a (Hp.f h))),CV.sl 1 (encI (Ls.b (Hp.f h))),CV.sl 1 (encI (Ls.c (Hp.f h))),CV.sl 1 (encBs (Hp.c h))] 0,CV.pc [CV.int IntKind.i64 k] 0])) fun b=>
 bif Clo.pre b n_1 then
 bif !Clo.val b n_1 then K Exit.ret [CV.int IntKind.i64 i] []
 else loopB k73a [0,1,7,8] o73 [false,true,false,true] (bodyL (bodyOf Tryz.f180) p73) m [CV.sl 1 (encI xs),CV.fn 135 [] [CV.pc [CV.fn 133 [] [CV.pc [CV.sl 1 (encI (Hp.w h)),CV.sl 2 (List.map encP (Hp.p h)),CV.sl 1 (encI (Ls.a (Hp.f h))),CV.sl 1 (encI (Ls.b (Hp.f h))),CV.sl 1 (encI (Ls.c (Hp.f h))),CV.sl 1 (encBs (Hp.c h))] 0,CV.pc [CV.int IntKind.i64 k] 0]] 0],CV.int IntKind.i64 n,CV.int IntKind.i64 (IntKind.wrap IntKind.i64 (i+1))] [] fun a a_1 a_2=>K a a_1 a_2
 else none
 else K (Exit.exit 0) [] []:=by kernel_rfl
theorem t73z (xs:List Int) (h:Hp) (ks:List Int) (n i:Int) (m:Nat) (β:Type) (K:Exit->List CV->List (List CV)->Option β):loopB k73a [0,1,7,8] o73 p73 (bodyL (bodyOf Tryz.f180) p73) (m+1) [cIs.enc xs,cEv.enc (.whole h ks),cI.enc n,cI.enc i] [] K=
 bif decide (i<n) then
 Option.bind (rdE (encI xs) i) fun c=>
 Option.bind c[0]? fun x=>
 Option.bind (asI IntKind.i64 x) fun n_1=>
 Option.bind (Clo.dec (CV.fn 103 [] [CV.pc [CV.sl 1 (encI (Hp.w h)),CV.sl 2 (List.map encP (Hp.p h)),CV.sl 1 (encI (Ls.a (Hp.f h))),CV.sl 1 (encI (Ls.b (Hp.f h))),CV.sl 1 (encI (Ls.c (Hp.f h))),CV.sl 1 (encBs (Hp.c h))] 0,CV.pc [CV.mp ks] 0])) fun b=>
 bif Clo.pre b n_1 then
 bif !Clo.val b n_1 then K Exit.ret [CV.int IntKind.i64 i] []
 else loopB k73a [0,1,7,8] o73 [false,true,false,true] (bodyL (bodyOf Tryz.f180) p73) m [CV.sl 1 (encI xs),CV.fn 135 [] [CV.pc [CV.fn 103 [] [CV.pc [CV.sl 1 (encI (Hp.w h)),CV.sl 2 (List.map encP (Hp.p h)),CV.sl 1 (encI (Ls.a (Hp.f h))),CV.sl 1 (encI (Ls.b (Hp.f h))),CV.sl 1 (encI (Ls.c (Hp.f h))),CV.sl 1 (encBs (Hp.c h))] 0,CV.pc [CV.mp ks] 0]] 0],CV.int IntKind.i64 n,CV.int IntKind.i64 (IntKind.wrap IntKind.i64 (i+1))] [] fun a a_1 a_2=>K a a_1 a_2
 else none
 else K (Exit.exit 0) [] []:=by kernel_rfl
theorem r73x (xs:List Int) (h:Hp) (β:Type) (K:CV->List (List CV)->Option β):fnK k73 Tryz.f180 [cIs.enc xs,cEv.enc (.may h)] [] K=
 Option.bind (decI (encI xs)) fun a=>
 Option.bind (Clo.dec (CV.fn 61 [] [CV.pc [CV.sl 1 (encI (Hp.w h)),CV.sl 2 (List.map encP (Hp.p h)),CV.sl 1 (encI (Ls.a (Hp.f h))),CV.sl 1 (encI (Ls.b (Hp.f h))),CV.sl 1 (encI (Ls.c (Hp.f h))),CV.sl 1 (encBs (Hp.c h))] 0])) fun b=>
 bif List.all a (Clo.pre b)&&(Nat.ble (List.length a) 100000&&(↑(List.length (encI xs)):Int)==(↑(List.length a):Int)) then
 bif Option.isSome (badI b a) then K (CV.int IntKind.i64 (↑(Option.getD (badI b a) 0):Int)) []
 else K (CV.int IntKind.i64 (Int.negSucc 0)) []
 else none:=by kernel_rfl
theorem r73y (xs:List Int) (h:Hp) (k:Int) (β:Type) (K:CV->List (List CV)->Option β):fnK k73 Tryz.f180 [cIs.enc xs,cEv.enc (.list h k)] [] K=
 Option.bind (decI (encI xs)) fun a=>
 Option.bind (Clo.dec (CV.fn 133 [] [CV.pc [CV.sl 1 (encI (Hp.w h)),CV.sl 2 (List.map encP (Hp.p h)),CV.sl 1 (encI (Ls.a (Hp.f h))),CV.sl 1 (encI (Ls.b (Hp.f h))),CV.sl 1 (encI (Ls.c (Hp.f h))),CV.sl 1 (encBs (Hp.c h))] 0,CV.pc [CV.int IntKind.i64 k] 0])) fun b=>
 bif List.all a (Clo.pre b)&&(Nat.ble (List.length a) 100000&&(↑(List.length (encI xs)):Int)==(↑(List.length a):Int)) then
 bif Option.isSome (badI b a) then K (CV.int IntKind.i64 (↑(Option.getD (badI b a) 0):Int)) []
 else K (CV.int IntKind.i64 (Int.negSucc 0)) []
 else none:=by kernel_rfl
theorem r73z (xs:List Int) (h:Hp) (ks:List Int) (β:Type) (K:CV->List (List CV)->Option β):fnK k73 Tryz.f180 [cIs.enc xs,cEv.enc (.whole h ks)] [] K=
 Option.bind (decI (encI xs)) fun a=>
 Option.bind (Clo.dec (CV.fn 103 [] [CV.pc [CV.sl 1 (encI (Hp.w h)),CV.sl 2 (List.map encP (Hp.p h)),CV.sl 1 (encI (Ls.a (Hp.f h))),CV.sl 1 (encI (Ls.b (Hp.f h))),CV.sl 1 (encI (Ls.c (Hp.f h))),CV.sl 1 (encBs (Hp.c h))] 0,CV.pc [CV.mp ks] 0])) fun b=>
 bif List.all a (Clo.pre b)&&(Nat.ble (List.length a) 100000&&(↑(List.length (encI xs)):Int)==(↑(List.length a):Int)) then
 bif Option.isSome (badI b a) then K (CV.int IntKind.i64 (↑(Option.getD (badI b a) 0):Int)) []
 else K (CV.int IntKind.i64 (Int.negSucc 0)) []
 else none:=by kernel_rfl
theorem de_may (h:Hp):Clo.dec (CV.fn 61 [] [CV.pc [CV.sl 1 (encI (Hp.w h)),CV.sl 2 (List.map encP (Hp.p h)),CV.sl 1 (encI (Ls.a (Hp.f h))),CV.sl 1 (encI (Ls.b (Hp.f h))),CV.sl 1 (encI (Ls.c (Hp.f h))),CV.sl 1 (encBs (Hp.c h))] 0])=some (.may h):=Clo.de (.may h)
theorem de_list (h:Hp) (k:Int):Clo.dec (CV.fn 133 [] [CV.pc [CV.sl 1 (encI (Hp.w h)),CV.sl 2 (List.map encP (Hp.p h)),CV.sl 1 (encI (Ls.a (Hp.f h))),CV.sl 1 (encI (Ls.b (Hp.f h))),CV.sl 1 (encI (Ls.c (Hp.f h))),CV.sl 1 (encBs (Hp.c h))] 0,CV.pc [CV.int IntKind.i64 k] 0])=some (.list h k):=Clo.de (.list h k)
theorem de_whole (h:Hp) (ks:List Int):Clo.dec (CV.fn 103 [] [CV.pc [CV.sl 1 (encI (Hp.w h)),CV.sl 2 (List.map encP (Hp.p h)),CV.sl 1 (encI (Ls.a (Hp.f h))),CV.sl 1 (encI (Ls.b (Hp.f h))),CV.sl 1 (encI (Ls.c (Hp.f h))),CV.sl 1 (encBs (Hp.c h))] 0,CV.pc [CV.mp ks] 0])=some (.whole h ks):=Clo.de (.whole h ks)
theorem t73 (xs:List Int) (c:Clo) (n i:Int) (m:Nat) (β:Type) (K:Exit->List CV->List (List CV)->Option β):loopB k73a [0,1,7,8] o73 p73 (bodyL (bodyOf Tryz.f180) p73) (m+1) [cIs.enc xs,cEv.enc c,cI.enc n,cI.enc i] [] K=
  bif decide (i<n) then
   Option.bind (rdE (encI xs) i) fun e=>Option.bind e[0]? fun x=>Option.bind (asI IntKind.i64 x) fun a=>
    bif c.pre a then bif !c.val a then K .ret [cI.enc i] [] else loopB k73a [0,1,7,8] o73 p73 (bodyL (bodyOf Tryz.f180) p73) m [cIs.enc xs,cEv.enc c,cI.enc n,cI.enc (IntKind.i64.wrap (i+1))] [] K else none
  else K (.exit 0) [] []:=by
 cases c with
 | may h=>refine (t73x xs h n i m β K).trans ?_;simp only [de_may,Option.bind_some];rfl
 | list h k=>refine (t73y xs h k n i m β K).trans ?_;simp only [de_list,Option.bind_some];rfl
 | whole h ks=>refine (t73z xs h ks n i m β K).trans ?_;simp only [de_whole,Option.bind_some];rfl
theorem index_loop (c:Clo) (xs:List Int) (hx:xs.length<=100000) (hc:xs.all c.pre=true) (β:Type) (K:Exit->List CV->List (List CV)->Option β):∀ (m i:Nat),i+m=xs.length->
  loopB k73a [0,1,7,8] o73 p73 (bodyL (bodyOf Tryz.f180) p73) (m+1) [cIs.enc xs,cEv.enc c,cI.enc (xs.length:Int),cI.enc (i:Int)] [] K=
   bif (badI c (xs.drop i)).isSome then K .ret [cI.enc (((i+(badI c (xs.drop i)).getD 0:Nat)):Int)] [] else K (.exit 0) [] []:=by
 intro m
 induction m with
 | zero=>
  intro i h1
  rw [t73,decide_eq_false (by omega),cond_false,List.drop_eq_nil_of_le (by omega)]
  rfl
 | succ m ih=>
  intro i h1
  have hii:i<xs.length:=by omega
  rw [t73,decide_eq_true (by omega),cond_true,List.drop_eq_getElem_cons hii,rdE_nat (by omega)]
  have e1:(encI xs)[(i:Int).toNat]? = some [CV.int .i64 xs[i]]:=by simp [encI,hii]
  have e2:c.pre xs[i]=true:=List.all_eq_true.1 hc _ (List.getElem_mem hii)
  simp only [e1,Option.bind_some,zero_get,asI_i,show (i:Int)+1=((i+1:Nat):Int) by omega,wrap_in (a:=((i+1:Nat):Int)) (by omega),e2,cond_true]
  have e3:badI c (xs[i]::xs.drop (i+1))=bif !c.val xs[i] then some 0 else (badI c (xs.drop (i+1))).map (· + 1):=by
   unfold badI
   rw [List.findIdx?_cons]
   cases !c.val xs[i] <;> rfl
  rw [e3]
  cases !c.val xs[i] with
  | true=>rfl
  | false=>
   rw [cond_false,cond_false,ih (i+1) (by omega)]
   cases badI c (xs.drop (i+1)) with
   | none=>rfl
   | some j=>
    simp only [Option.map_some,Option.isSome_some,Option.getD_some,cond_true]
    rw [show i+1+j=i+(j+1) by omega]
theorem k73_ok:CxOK k73 [(135,gEvery1)]:=by
 refine CxOK.loop4 (CxOK.baseG (Good.cons every1_good Good.nil) GoodI.nil (eqOK_none fun _=>rfl)) rfl fun xs c n i u hp => ?_
 simp only [Bool.and_eq_true,beq_iff_eq] at hp
 obtain ⟨hc,hx,hi,hn⟩:=hp
 have hx:=Nat.le_of_ble_eq_true hx
 subst hi hn
 refine ⟨xs.length+1,fun β K => ?_⟩
 have:=index_loop c xs hx hc β K xs.length 0 (by omega)
 rw [List.drop_zero,Nat.zero_add] at this
 exact this
def gIndex:Callee:=g2 cIs cEv (fun xs c=>xs.all c.pre&&Nat.ble xs.length 100000) fun xs c=>cI.enc (bif (badI c xs).isSome then (((badI c xs).getD 0:Nat):Int) else -1)
theorem index_good:GoodC Pr 180 gIndex:=
 good2 (k73_ok.sound (cx:=k73) Tryz.func180 (by kernel_rfl) (by kernel_rfl) rfl (by kernel_rfl)) fun xs c hp β K=>by
  cases c with
  | may h=>
   refine (r73x xs h β K).trans ?_
   simp only [de_may,decI_map,Option.bind_some,encI_len,beq_self_eq_true,Bool.and_true,hp,cond_true]
   cases (badI (.may h) xs).isSome <;> rfl
  | list h k=>
   refine (r73y xs h k β K).trans ?_
   simp only [de_list,decI_map,Option.bind_some,encI_len,beq_self_eq_true,Bool.and_true,hp,cond_true]
   cases (badI (.list h k) xs).isSome <;> rfl
  | whole h ks=>
   refine (r73z xs h ks β K).trans ?_
   simp only [de_whole,decI_map,Option.bind_some,encI_len,beq_self_eq_true,Bool.and_true,hp,cond_true]
   cases (badI (.whole h ks) xs).isSome <;> rfl
noncomputable abbrev k56:Cx:=cxG Pr Tryz.f134 [(180,gIndex)]
theorem r56x (xs:List Int) (h:Hp) (β:Type) (K:CV->List (List CV)->Option β):fnK k56 Tryz.f134 [cIs.enc xs,cEv.enc (.may h)] [] K=
 Option.bind (decI (encI xs)) fun a=>
 Option.bind (Clo.dec (CV.fn 61 [] [CV.pc [CV.sl 1 (encI (Hp.w h)),CV.sl 2 (List.map encP (Hp.p h)),CV.sl 1 (encI (Ls.a (Hp.f h))),CV.sl 1 (encI (Ls.b (Hp.f h))),CV.sl 1 (encI (Ls.c (Hp.f h))),CV.sl 1 (encBs (Hp.c h))] 0])) fun b=>
 bif List.all a (Clo.pre b)&&Nat.ble (List.length a) 100000 then
 K (CV.bool (decide ((bif Option.isSome (badI b a) then (↑(Option.getD (badI b a) 0):Int) else -1)>=0))) []
 else none:=by kernel_rfl
theorem r56y (xs:List Int) (h:Hp) (k:Int) (β:Type) (K:CV->List (List CV)->Option β):fnK k56 Tryz.f134 [cIs.enc xs,cEv.enc (.list h k)] [] K=
 Option.bind (decI (encI xs)) fun a=>
 Option.bind (Clo.dec (CV.fn 133 [] [CV.pc [CV.sl 1 (encI (Hp.w h)),CV.sl 2 (List.map encP (Hp.p h)),CV.sl 1 (encI (Ls.a (Hp.f h))),CV.sl 1 (encI (Ls.b (Hp.f h))),CV.sl 1 (encI (Ls.c (Hp.f h))),CV.sl 1 (encBs (Hp.c h))] 0,CV.pc [CV.int IntKind.i64 k] 0])) fun b=>
 bif List.all a (Clo.pre b)&&Nat.ble (List.length a) 100000 then
 K (CV.bool (decide ((bif Option.isSome (badI b a) then (↑(Option.getD (badI b a) 0):Int) else -1)>=0))) []
 else none:=by kernel_rfl
theorem r56z (xs:List Int) (h:Hp) (ks:List Int) (β:Type) (K:CV->List (List CV)->Option β):fnK k56 Tryz.f134 [cIs.enc xs,cEv.enc (.whole h ks)] [] K=
 Option.bind (decI (encI xs)) fun a=>
 Option.bind (Clo.dec (CV.fn 103 [] [CV.pc [CV.sl 1 (encI (Hp.w h)),CV.sl 2 (List.map encP (Hp.p h)),CV.sl 1 (encI (Ls.a (Hp.f h))),CV.sl 1 (encI (Ls.b (Hp.f h))),CV.sl 1 (encI (Ls.c (Hp.f h))),CV.sl 1 (encBs (Hp.c h))] 0,CV.pc [CV.mp ks] 0])) fun b=>
 bif List.all a (Clo.pre b)&&Nat.ble (List.length a) 100000 then
 K (CV.bool (decide ((bif Option.isSome (badI b a) then (↑(Option.getD (badI b a) 0):Int) else -1)>=0))) []
 else none:=by kernel_rfl
end Go.Ab

namespace Go.Ab
open Go
set_option maxRecDepth 100000
open Go.Proofs
theorem badI_all (c:Clo) (xs:List Int):(badI c xs).isSome = !xs.all c.val:=by
 unfold badI
 rw [List.findIdx?_isSome,Bool.eq_iff_iff]
 simp
def gContains:Callee:=g2 cIs cEv (fun xs c=>xs.all c.pre&&Nat.ble xs.length 100000) fun xs c=>cB.enc (!xs.all c.val)
theorem dec_ge (b:Bool) (n:Nat):decide ((bif b then ((n:Nat):Int) else -1)>=0)=b:=by
 cases b <;> simp
theorem contains_good:GoodC Pr 134 gContains:=
 good2 ((CxOK.baseG (Good.cons index_good Good.nil) GoodI.nil (eqOK_none fun _=>rfl)).sound (cx:=k56) Tryz.func134 (by kernel_rfl) (by kernel_rfl) rfl (by kernel_rfl)) fun xs c hp β K=>by
  cases c with
  | may h=>
   refine (r56x xs h β K).trans ?_
   simp only [de_may,decI_map,Option.bind_some,hp,cond_true,dec_ge,badI_all]
   rfl
  | list h k=>
   refine (r56y xs h k β K).trans ?_
   simp only [de_list,decI_map,Option.bind_some,hp,cond_true,dec_ge,badI_all]
   rfl
  | whole h ks=>
   refine (r56z xs h ks β K).trans ?_
   simp only [de_whole,decI_map,Option.bind_some,hp,cond_true,dec_ge,badI_all]
   rfl
noncomputable abbrev k30:Cx:=cxG Pr Tryz.f67 [(134,gContains)]
theorem r30x (xs:List Int) (h:Hp) (β:Type) (K:CV->List (List CV)->Option β):fnK k30 Tryz.f67 [cIs.enc xs,cClo.enc (.may h)] [] K=
 Option.bind (decI (encI xs)) fun a=>
 Option.bind (Clo.dec (CV.fn 61 [] [CV.pc [CV.sl 1 (encI (Hp.w h)),CV.sl 2 (List.map encP (Hp.p h)),CV.sl 1 (encI (Ls.a (Hp.f h))),CV.sl 1 (encI (Ls.b (Hp.f h))),CV.sl 1 (encI (Ls.c (Hp.f h))),CV.sl 1 (encBs (Hp.c h))] 0])) fun b=>
 bif List.all a (Clo.pre b)&&Nat.ble (List.length a) 100000 then K (CV.bool !!List.all a (Clo.val b)) []
 else none:=by kernel_rfl
theorem r30y (xs:List Int) (h:Hp) (k:Int) (β:Type) (K:CV->List (List CV)->Option β):fnK k30 Tryz.f67 [cIs.enc xs,cClo.enc (.list h k)] [] K=
 Option.bind (decI (encI xs)) fun a=>
 Option.bind (Clo.dec (CV.fn 133 [] [CV.pc [CV.sl 1 (encI (Hp.w h)),CV.sl 2 (List.map encP (Hp.p h)),CV.sl 1 (encI (Ls.a (Hp.f h))),CV.sl 1 (encI (Ls.b (Hp.f h))),CV.sl 1 (encI (Ls.c (Hp.f h))),CV.sl 1 (encBs (Hp.c h))] 0,CV.pc [CV.int IntKind.i64 k] 0])) fun b=>
 bif List.all a (Clo.pre b)&&Nat.ble (List.length a) 100000 then K (CV.bool !!List.all a (Clo.val b)) []
 else none:=by kernel_rfl
theorem r30z (xs:List Int) (h:Hp) (ks:List Int) (β:Type) (K:CV->List (List CV)->Option β):fnK k30 Tryz.f67 [cIs.enc xs,cClo.enc (.whole h ks)] [] K=
 Option.bind (decI (encI xs)) fun a=>
 Option.bind (Clo.dec (CV.fn 103 [] [CV.pc [CV.sl 1 (encI (Hp.w h)),CV.sl 2 (List.map encP (Hp.p h)),CV.sl 1 (encI (Ls.a (Hp.f h))),CV.sl 1 (encI (Ls.b (Hp.f h))),CV.sl 1 (encI (Ls.c (Hp.f h))),CV.sl 1 (encBs (Hp.c h))] 0,CV.pc [CV.mp ks] 0])) fun b=>
 bif List.all a (Clo.pre b)&&Nat.ble (List.length a) 100000 then K (CV.bool !!List.all a (Clo.val b)) []
 else none:=by kernel_rfl
def gEvery:Callee:=g2 cIs cClo (fun xs c=>xs.all c.pre&&Nat.ble xs.length 100000) fun xs c=>cB.enc (xs.all c.val)
noncomputable abbrev k29:Cx:=cxG Pr Tryz.f66 [(67,gEvery)] [] (fun _=>false) (fun q=>Nat.beq q 26)
theorem r29 (h:Hp) (l:Ls) (β:Type) (K:CV->List (List CV)->Option β):fnK k29 Tryz.f66 [cHp.enc h,cLs.enc l] [] K=
 Option.bind (decI (encI (Ls.a l))) fun a=>
 Option.bind (Clo.dec (CV.fn 133 [] [CV.pc [CV.sl 1 (encI (Hp.w h)),CV.sl 2 (List.map encP (Hp.p h)),CV.sl 1 (encI (Ls.a (Hp.f h))),CV.sl 1 (encI (Ls.b (Hp.f h))),CV.sl 1 (encI (Ls.c (Hp.f h))),CV.sl 1 (encBs (Hp.c h))] 0,CV.pc [CV.int IntKind.i64 0] 0])) fun b=>
 bif List.all a (Clo.pre b)&&Nat.ble (List.length a) 100000 then
 bif !List.all a (Clo.val b) then K (CV.bool false) []
 else
 Option.bind (decI (encI (Ls.b l))) fun a=>
 Option.bind (Clo.dec (CV.fn 133 [] [CV.pc [CV.sl 1 (encI (Hp.w h)),CV.sl 2 (List.map encP (Hp.p h)),CV.sl 1 (encI (Ls.a (Hp.f h))),CV.sl 1 (encI (Ls.b (Hp.f h))),CV.sl 1 (encI (Ls.c (Hp.f h))),CV.sl 1 (encBs (Hp.c h))] 0,CV.pc [CV.int IntKind.i64 1] 0])) fun b=>
 bif List.all a (Clo.pre b)&&Nat.ble (List.length a) 100000 then
 bif !List.all a (Clo.val b) then K (CV.bool false) []
 else
 Option.bind (decI (encI (Ls.c l))) fun a=>
 Option.bind (Clo.dec (CV.fn 133 [] [CV.pc [CV.sl 1 (encI (Hp.w h)),CV.sl 2 (List.map encP (Hp.p h)),CV.sl 1 (encI (Ls.a (Hp.f h))),CV.sl 1 (encI (Ls.b (Hp.f h))),CV.sl 1 (encI (Ls.c (Hp.f h))),CV.sl 1 (encBs (Hp.c h))] 0,CV.pc [CV.int IntKind.i64 2] 0])) fun b=>
 bif List.all a (Clo.pre b)&&Nat.ble (List.length a) 100000 then
 bif !List.all a (Clo.val b) then K (CV.bool false) [] else K (CV.bool true) []
 else none
 else none
 else none:=by kernel_rfl
theorem every_good:GoodC Pr 67 gEvery:=
 good2 ((CxOK.baseG (Good.cons contains_good Good.nil) GoodI.nil (eqOK_none fun _=>rfl)).sound (cx:=k30) Tryz.func67 (by kernel_rfl) (by kernel_rfl) rfl (by kernel_rfl)) fun xs c hp β K=>by
  cases c with
  | may h=>
   refine (r30x xs h β K).trans ?_
   simp only [de_may,decI_map,Option.bind_some,hp,cond_true,Bool.not_not]
   rfl
  | list h k=>
   refine (r30y xs h k β K).trans ?_
   simp only [de_list,decI_map,Option.bind_some,hp,cond_true,Bool.not_not]
   rfl
  | whole h ks=>
   refine (r30z xs h ks β K).trans ?_
   simp only [de_whole,decI_map,Option.bind_some,hp,cond_true,Bool.not_not]
   rfl
def listedV (h:Hp) (l:Ls):Bool:=l.a.all (listV h 0)&&(l.b.all (listV h 1)&&l.c.all (listV h 2))
def gListed:Callee:=g2 cHp cLs (fun h l=>(smH h&&shapedE h)&&smL l) fun h l=>cB.enc (listedV h l)
theorem listed_good:GoodC Pr 66 gListed:=
 good2 ((CxOK.baseG (Good.cons every_good Good.nil) GoodI.nil (eqOK_none fun _=>rfl)).sound (cx:=k29) Tryz.func66 (by kernel_rfl) (by kernel_rfl) rfl (by kernel_rfl)) fun h l hp β K=>by
  rw [Bool.and_eq_true] at hp
  obtain ⟨l1,l2,l3⟩:=smL_le hp.2
  have e (k:Int) (xs:List Int):xs.all (Clo.list h k).pre=true:=List.all_eq_true.2 fun x _=>hp.1
  refine (r29 h l β K).trans ?_
  simp only [decI_map,Option.bind_some,de_list,e,Nat.ble_eq_true_of_le l1,Nat.ble_eq_true_of_le l2,Nat.ble_eq_true_of_le l3,Bool.and_self,cond_true]
  unfold listedV
  have f (k:Int) (xs:List Int):xs.all (Clo.list h k).val=xs.all (listV h k):=rfl
  simp only [f]
  cases l.a.all (listV h 0) with
  | false=>rfl
  | true=>
   cases l.b.all (listV h 1) with
   | false=>rfl
   | true=>cases l.c.all (listV h 2) <;> rfl
end Go.Ab

namespace Go.Ab
open Go
set_option maxRecDepth 100000
open Go.Proofs
def encLs (l:Ls):List CV:=[.sl 1 (encI l.a),.sl 1 (encI l.b),.sl 1 (encI l.c)]
def decLs:List (List CV)->Option (List Ls)
 | []=>some []
 | c::r=>(cLs.dec (.agg c)).bind fun l=>(decLs r).bind fun s=>some (l::s)
@[simp] theorem decLs_map:∀ ls,decLs (ls.map encLs)=some ls
 | []=>rfl
 | l::ls=>by
  show (cLs.dec (cLs.enc l)).bind _=_
  rw [cLs.de]
  show (decLs (ls.map encLs)).bind _=_
  rw [decLs_map ls];rfl
theorem decLs_ok:∀ {L ls},decLs L=some ls->L=ls.map encLs
 | [],ls,h=>by cases h;rfl
 | c::r,ls,h=>by
  simp only [decLs] at h
  replace h:=bind_some' h
  obtain ⟨l,hl,h⟩:=h
  replace h:=bind_some' h
  obtain ⟨s,hs,h⟩:=h
  cases h
  have:=cLs.ok _ _ hl
  cases this
  rw [decLs_ok hs];rfl
def cLss:Cod (List Ls) where
 enc:=fun ls => .sl 3 (ls.map encLs)
 dec:=fun c=>match c with | .sl 3 L=>decLs L | _=>none
 ok:=fun c a h=>by
  split at h
  ·rw [decLs_ok h]
  ·cases h
 de:=fun _=>decLs_map _
def smLs (ls:List Ls):Bool:=Nat.ble ls.length 1000&&ls.all smL
end Go.Ab

namespace Go.Ab
open Go
set_option maxRecDepth 100000
open Go.Proofs
noncomputable abbrev k85:Cx:=cxG Pr Tryz.f253 []
noncomputable abbrev k68:Cx:=cxG Pr Tryz.f181 [] [(253,inlC k85 Tryz.f253)] (fun _=>false) (fun q=>Nat.beq q 58 || Nat.beq q 250)
noncomputable abbrev k36a:Cx:=cxG Pr Tryz.f102 [] [(181,inlC k68 Tryz.f181)]
abbrev o36:Exit->List Nat:=fun _=>[3]
abbrev p36:=[false,true,false,true,true]
theorem t36 (O:List Int) (ls:List Ls) (n i:Int) (m:Nat) (β:Type) (K:Exit->List CV->List (List CV)->Option β):loopB k36a [3,6,7,8] o36 p36 (bodyL (bodyOf Tryz.f102) p36) (m+1) [cOI.enc O,cLss.enc ls,cI.enc n,cI.enc i] [] K=
 bif decide (i<n) then
 Option.bind (rdE (List.map encLs ls) i) fun c=>
 Option.bind c[0]? fun x=>
 Option.bind (asL 1 x) fun l=>
 Option.bind c[1]? fun x=>
 Option.bind (asL 1 x) fun l_1=>
 Option.bind c[2]? fun x=>
 Option.bind (asL 1 x) fun l_2=>
 bif decide (IntKind.wrap IntKind.i64 (0+(↑(List.length l):Int))<0) then none
 else
 bif decide (IntKind.wrap IntKind.i64 (IntKind.wrap IntKind.i64 (0+(↑(List.length l):Int))+(↑(List.length l_1):Int))<0) then none
 else
 bif decide (IntKind.wrap IntKind.i64 (IntKind.wrap IntKind.i64 (IntKind.wrap IntKind.i64 (0+(↑(List.length l):Int))+(↑(List.length l_1):Int))+(↑(List.length l_2):Int))<0) then none
 else
 bif decide (IntKind.wrap IntKind.i64 (IntKind.wrap IntKind.i64 (IntKind.wrap IntKind.i64 (0+(↑(List.length l):Int))+(↑(List.length l_1):Int))+(↑(List.length l_2):Int))<0) then none
 else
 bif decide (IntKind.wrap IntKind.i64 (IntKind.wrap IntKind.i64 (IntKind.wrap IntKind.i64 (IntKind.wrap IntKind.i64 (0+(↑(List.length l):Int))+(↑(List.length l_1):Int))+(↑(List.length l_2):Int)) - 0)>0) then
 if 0<IntKind.wrap IntKind.i64 (IntKind.wrap IntKind.i64 (IntKind.wrap IntKind.i64 (IntKind.wrap IntKind.i64 (0+(↑(List.length l):Int))+(↑(List.length l_1):Int))+(↑(List.length l_2):Int)) - 0)/\IntKind.wrap IntKind.i64 (IntKind.wrap IntKind.i64 (IntKind.wrap IntKind.i64 (IntKind.wrap IntKind.i64 (0+(↑(List.length l):Int))+(↑(List.length l_1):Int))+(↑(List.length l_2):Int)) - 0)<=(↑LIM:Int) then
 bif okBounds (List.length (List.replicate (Int.toNat (IntKind.wrap IntKind.i64 (IntKind.wrap IntKind.i64 (IntKind.wrap IntKind.i64 (IntKind.wrap IntKind.i64 (0+(↑(List.length l):Int))+(↑(List.length l_1):Int))+(↑(List.length l_2):Int)) - 0))) [CV.int IntKind.i64 0])) none (some 0) none then
 if List.length (List.take 0 (List.replicate (Int.toNat (IntKind.wrap IntKind.i64 (IntKind.wrap IntKind.i64 (IntKind.wrap IntKind.i64 (IntKind.wrap IntKind.i64 (0+(↑(List.length l):Int))+(↑(List.length l_1):Int))+(↑(List.length l_2):Int)) - 0))) [CV.int IntKind.i64 0])++l)<=LIM then
 if List.length (l++l_1)<=LIM then
 if List.length (l++l_1++l_2)<=LIM then
 if List.length (encI O++(l++l_1++l_2))<=LIM then loopB k36a [3,6,7,8] o36 [false,true,false,true,true] (bodyL (bodyOf Tryz.f102) p36) m [CV.own 1 (encI O++(l++l_1++l_2)),CV.sl 3 (List.map encLs ls),CV.int IntKind.i64 n,CV.int IntKind.i64 (IntKind.wrap IntKind.i64 (i+1))] [] fun a a_1 a_2=>K a a_1 a_2
 else none
 else none
 else none
 else none
 else none
 else none
 else
 if List.length l<=LIM then
 if List.length (l++l_1)<=LIM then
 if List.length (l++l_1++l_2)<=LIM then
 if List.length (encI O++(l++l_1++l_2))<=LIM then loopB k36a [3,6,7,8] o36 [false,true,false,true,true] (bodyL (bodyOf Tryz.f102) p36) m [CV.own 1 (encI O++(l++l_1++l_2)),CV.sl 3 (List.map encLs ls),CV.int IntKind.i64 n,CV.int IntKind.i64 (IntKind.wrap IntKind.i64 (i+1))] [] fun a a_1 a_2=>K a a_1 a_2
 else none
 else none
 else none
 else none
 else K (Exit.exit 0) [CV.own 1 (encI O)] []:=by kernel_rfl
def one3 (l:Ls):List Int:=l.a++l.b++l.c
def catI (ls:List Ls):List Int:=ls.flatMap one3
theorem asL_1 (L:List (List CV)):asL 1 (.sl 1 L)=some L:=by simp [asL]
theorem step36 (O:List Int) (ls:List Ls) (i m:Nat) (hi:i<ls.length) (hs:ls.all smL=true) (hl:ls.length<=1000) (hO:O.length<=300000*i) (β:Type) (K:Exit->List CV->List (List CV)->Option β):
  loopB k36a [3,6,7,8] o36 p36 (bodyL (bodyOf Tryz.f102) p36) (m+1) [cOI.enc O,cLss.enc ls,cI.enc (ls.length:Int),cI.enc (i:Int)] [] K=
   loopB k36a [3,6,7,8] o36 p36 (bodyL (bodyOf Tryz.f102) p36) m [cOI.enc (O++one3 ls[i]),cLss.enc ls,cI.enc (ls.length:Int),cI.enc ((i+1:Nat):Int)] [] K:=by
 have hL:=lim_val
 obtain ⟨l1,l2,l3⟩:=smL_le (List.all_eq_true.1 hs _ (List.getElem_mem hi))
 have e0:(List.map encLs ls)[(i:Int).toNat]? = some (encLs ls[i]):=by simp [hi]
 rw [t36,decide_eq_true (show (i:Int)<(ls.length:Int) by omega),cond_true,rdE_nat (by omega),e0]
 generalize ls[i]=l at l1 l2 l3
 have g1:(encLs l)[0]? = some (.sl 1 (encI l.a)):=rfl
 have g2:(encLs l)[1]? = some (.sl 1 (encI l.b)):=rfl
 have g3:(encLs l)[2]? = some (.sl 1 (encI l.c)):=rfl
 have w1:IntKind.i64.wrap (0+(l.a.length:Int))=(l.a.length:Int):=by rw [wrap_in (by omega)];omega
 have w2:IntKind.i64.wrap ((l.a.length:Int)+(l.b.length:Int))=(l.a.length:Int)+(l.b.length:Int):=wrap_in (by omega)
 have w3:IntKind.i64.wrap ((l.a.length:Int)+(l.b.length:Int)+(l.c.length:Int))=(l.a.length:Int)+(l.b.length:Int)+(l.c.length:Int):=wrap_in (by omega)
 have w4:IntKind.i64.wrap ((l.a.length:Int)+(l.b.length:Int)+(l.c.length:Int) - 0)=(l.a.length:Int)+(l.b.length:Int)+(l.c.length:Int):=by rw [wrap_in (by omega)];omega
 have w5:IntKind.i64.wrap ((i:Int)+1)=((i+1:Nat):Int):=by rw [wrap_in (by omega)];omega
 simp only [Option.bind_some,g1,g2,g3,asL_1,encI_len,w1,w2,w3,w4,w5,encI_app]
 rw [decide_eq_false (by omega),cond_false,decide_eq_false (by omega),cond_false,decide_eq_false (by omega),cond_false]
 have q1:(l.a++l.b).length<=LIM:=by simp;omega
 have q2:(l.a++l.b++l.c).length<=LIM:=by simp;omega
 have q3:(O++(l.a++l.b++l.c)).length<=LIM:=by simp;omega
 have q0:l.a.length<=LIM:=by omega
 by_cases hz:(l.a.length:Int)+(l.b.length:Int)+(l.c.length:Int)>0
 ·have ob:okBounds (List.length (List.replicate (Int.toNat ((l.a.length:Int)+(l.b.length:Int)+(l.c.length:Int))) [CV.int IntKind.i64 0])) none (some 0) none=true:=by simp [okBounds];omega
  rw [decide_eq_true hz,cond_true,if_pos ⟨by omega,by omega⟩,ob,cond_true,if_pos (by simp;omega),if_pos q1,if_pos q2,if_pos q3]
  rfl
 ·rw [decide_eq_false hz,cond_false,if_pos q0,if_pos q1,if_pos q2,if_pos q3]
  rfl
theorem all_loop (ls:List Ls) (hs:ls.all smL=true) (hl:ls.length<=1000) (β:Type) (K:Exit->List CV->List (List CV)->Option β):∀ (m i:Nat) (O:List Int),i+m=ls.length->O.length<=300000*i->
  loopB k36a [3,6,7,8] o36 p36 (bodyL (bodyOf Tryz.f102) p36) (m+1) [cOI.enc O,cLss.enc ls,cI.enc (ls.length:Int),cI.enc (i:Int)] [] K=
   K (.exit 0) [cOI.enc (O++catI (ls.drop i))] []:=by
 intro m
 induction m with
 | zero=>
  intro i O h1 _
  rw [t36,decide_eq_false (by omega),cond_false,List.drop_eq_nil_of_le (by omega)]
  simp [catI]
 | succ m ih=>
  intro i O h1 hO
  have hi:i<ls.length:=by omega
  obtain ⟨l1,l2,l3⟩:=smL_le (List.all_eq_true.1 hs _ (List.getElem_mem hi))
  rw [step36 O ls i (m+1) hi hs hl hO,ih (i+1) _ (by omega) (by simp [one3];omega),List.drop_eq_getElem_cons hi]
  rw [show catI (ls[i]::ls.drop (i+1))=one3 ls[i]++catI (ls.drop (i+1)) from rfl,List.append_assoc]
def L36:LoopSem:=l4 [3,6,7,8] o36 cOI cLss cI cI c0 (fun O ls n i _=>O.isEmpty&&(smLs ls&&(i==0&&n==(ls.length:Int)))) fun _ ls _ _ _ => .one (.exit 0) [cOI.enc (catI ls)] []
noncomputable abbrev k36:Cx:=k36a.loop p36 L36
theorem grow_inl:GoodN Pr 253 (inlC k85 Tryz.f253):=(CxOK.baseG Good.nil GoodI.nil (eqOK_none fun _=>rfl)).inlG (cx:=k85) Tryz.func253 (by kernel_rfl) (by kernel_rfl) rfl (by kernel_rfl)
theorem concat_inl:GoodN Pr 181 (inlC k68 Tryz.f181):=(CxOK.baseG Good.nil (GoodI.cons grow_inl GoodI.nil) (eqOK_none fun _=>rfl)).inlG (cx:=k68) Tryz.func181 (by kernel_rfl) (by kernel_rfl) rfl (by kernel_rfl)
theorem smLs_le {ls:List Ls} (h:smLs ls=true):ls.length<=1000/\ls.all smL=true:=by
 simp only [smLs,Bool.and_eq_true] at h
 exact ⟨Nat.le_of_ble_eq_true h.1,h.2⟩
theorem k36_ok:CxOK k36 []:=by
 refine CxOK.loop4 (CxOK.baseG Good.nil (GoodI.cons concat_inl GoodI.nil) (eqOK_none fun _=>rfl)) rfl fun O ls n i u hp => ?_
 simp only [Bool.and_eq_true,beq_iff_eq,List.isEmpty_iff] at hp
 obtain ⟨hO,hs,hi,hn⟩:=hp
 subst hO hi hn
 obtain ⟨h1,h2⟩:=smLs_le hs
 refine ⟨ls.length+1,fun β K => ?_⟩
 have:=all_loop ls h2 h1 β K ls.length 0 [] (by omega) (by simp)
 rw [List.drop_zero,List.nil_append] at this
 exact this
def gAllI:Callee:=g1 cLss smLs fun ls=>cOI.enc (catI ls)
theorem r36 (ls:List Ls) (β:Type) (K:CV->List (List CV)->Option β):fnK k36 Tryz.f102 [cLss.enc ls] [] K=
 Option.bind (decLs (List.map encLs ls)) fun b=>
 bif smLs b&&(↑(List.length (List.map encLs ls)):Int)==(↑(List.length b):Int) then
 K (CV.own 1 (encI (catI b))) []
 else none:=by kernel_rfl
theorem catI_good:GoodC Pr 102 gAllI:=
 good1 (k36_ok.sound (cx:=k36) Tryz.func102 (by kernel_rfl) (by kernel_rfl) rfl (by kernel_rfl)) fun ls hp β K=>by
  refine (r36 ls β K).trans ?_
  simp only [decLs_map,Option.bind_some,hp,List.length_map,beq_self_eq_true,Bool.and_self,Bool.and_true,cond_true]
  rfl
end Go.Ab

namespace Go.Ab
open Go
set_option maxRecDepth 100000
open Go.Proofs
theorem sort_heap {w:World} {b n:Nat} {ys:List Int} {os:Array Obj} {cur:Array Value} {ty:TypeId} (hb:w.heap[b]? = some (.cells cur ty (0,0))):
  (Sort.grow (Sort.putRow (Value.int .i64) (Sort.ahead w n) b 0 ys.toArray) os).heap[b]? = some (.cells (Sort.putCells (Value.int .i64) 0 ys.toArray cur) ty (0,0)):=by
 have hlt:=(Array.getElem?_eq_some_iff.1 hb).1
 show ((w.heap.modify b (Sort.onCells (Sort.putCells (Value.int .i64) 0 ys.toArray)))++os)[b]? = _
 rw [Array.getElem?_append_left (by simpa using hlt),Array.getElem?_modify,if_pos rfl,hb]
 rfl
theorem sort_other {w:World} {b n:Nat} {ys:List Int} {os:Array Obj} {c:Nat} (hc:c<w.heap.size) (hne:b≠c):
  (Sort.grow (Sort.putRow (Value.int .i64) (Sort.ahead w n) b 0 ys.toArray) os).heap[c]? = w.heap[c]? := by
 show ((w.heap.modify b (Sort.onCells (Sort.putCells (Value.int .i64) 0 ys.toArray)))++os)[c]? = _
 rw [Array.getElem?_append_left (by simpa using hc),Array.getElem?_modify,if_neg hne]
theorem put_at {ys:List Int} {cur:Array Value} (h:ys.length<=cur.size) {k:Nat} (hk:k<ys.length):(Sort.putCells (Value.int .i64) 0 ys.toArray cur)[k]? = some (.int .i64 ys[k]):=by
 have:k<cur.size:=by omega
 simp [Sort.putCells,this,hk]
theorem rowUpd {ρ:Env} {X:Nat->Prop} {h:H} {w:World} (hr:HR ρ X h w) {i ver:Nat} {xs ys:List Int} (hg:getH h i = .acc ver false 1 (encI xs)) (hl:ys.length=xs.length) {b cap:Nat}
  (hc:ρ.cur i = .slice (some ⟨b,0,none⟩) xs.length cap) (n:Nat) (os:Array Obj):
  HR (ρ.setCur i (ρ.cur i)) X (setH h i (.acc ver false 1 (encI ys))) (Sort.grow (Sort.putRow (Value.int .i64) (Sort.ahead w n) b 0 ys.toArray) os)/\Ext ρ h w (ρ.setCur i (ρ.cur i)) (setH h i (.acc ver false 1 (encI ys))) (Sort.grow (Sort.putRow (Value.int .i64) (Sort.ahead w n) b 0 ys.toArray) os):=by
 have hbx:=hr.box i
 rw [hg] at hbx
 obtain ⟨h0,h1,h2,h3⟩:=hbx
 have hlen:(encI ys).length=(encI xs).length:=by simp [hl]
 rcases h3 with ⟨h3,_⟩ | ⟨b',cap',cur,ty,h3,h4,h5,h6,h7⟩
 ·rw [hc] at h3;cases h3
 rw [hc] at h3
 injection h3 with ha _ hcap
 injection ha with ha
 injection ha with ha
 subst ha hcap
 exact hr.upd (by rw [hg];rfl) (.acc ver false 1 (encI ys)) (ρ.cur i) (w':=Sort.grow (Sort.putRow (Value.int .i64) (Sort.ahead w n) b 0 ys.toArray) os) (by simp [Sort.grow,Sort.putRow,Sort.mapBlock,Sort.ahead])
  (fun c hcl hne=>sort_other hcl fun e=>hne (by rw [hg,<- e];simp [bOf,hc]))
  (fun c hcb => .inl (by rw [hg];simpa [bOf] using hcb))
  (HExt.updAcc hg _ (.inr ⟨rfl,rfl,hlen.symm,rfl⟩)) (fun e=>by
   refine ⟨h0,fun e he => ?_,by rw [hlen];exact h2,.inr ⟨b,cap,_,ty,by rw [hlen,encI_len];simpa using hc,sort_heap h4,by rw [hlen];exact h5,by simpa [Sort.putCells] using h6,fun k j x hx => ?_⟩⟩
   ·obtain ⟨y,_,rfl⟩:=List.mem_map.1 (show e∈ys.map (fun n=>[CV.int .i64 n]) from he)
    rfl
   ·have hks:∃ hk:k<ys.length,j=0/\x = .int .i64 ys[k]:=by
     unfold at2 at hx
     by_cases hk:k<ys.length
     ·refine ⟨hk,?_⟩
      have:(encI ys)[k]? = some [CV.int .i64 ys[k]]:=by simp [encI,hk]
      rw [this] at hx
      cases j with
      | zero=>simp at hx;exact ⟨rfl,hx.symm⟩
      | succ j=>simp at hx
     ·have:(encI ys)[k]? = none:=by simp [encI];omega
      rw [this] at hx
      cases hx
    obtain ⟨hk,rfl,rfl⟩:=hks
    rw [encI_len] at h5
    refine ⟨.int .i64 ys[k],?_,rfl,.int _ _⟩
    rw [Nat.mul_one,Nat.add_zero]
    exact put_at (by omega) hk)
theorem sortPost {ρ:Env} {X:Nat->Prop} {h:H} {w:World} (hr:HR ρ X h w) {i ver:Nat} {xs ys:List Int} (hg:getH h i = .acc ver false 1 (encI xs)) (hl:ys.length=xs.length) {b cap:Nat}
  (hc:ρ.cur i = .slice (some ⟨b,0,none⟩) xs.length cap) (n:Nat) (os:Array Obj):
  Post ρ X h w (.c (.tup [])) (setH h i (.acc ver false 1 (encI ys))) (.tuple #[]) (Sort.grow (Sort.putRow (Value.int .i64) (Sort.ahead w n) b 0 ys.toArray) os):=
 ⟨_,(rowUpd hr hg hl hc n os).1,.c _ _ (.tup [] #[] rfl fun j x hx=>by simp at hx),(rowUpd hr hg hl hc n os).2⟩
end Go.Ab

namespace Go.Proofs
set_option maxRecDepth 100000
open Go.Shelf
def Tryz.lays189_ren:Go.Shelf.Ren:=⟨fun | 189=>72 | 125=>139 | 257=>138 | 128=>218 | 129=>219 | 294=>209 | 295=>210 | 296=>211 | 297=>212 | 298=>213 | 299=>214 | 216=>215 | 300=>216 | 301=>217 | 328=>274 | 329=>275 | 330=>276 | 331=>277 | 332=>278 | 215=>279 | 343=>311 | n=>n,fun | 28=>22 | 3=>3 | 46=>165 | 0=>0 | 51=>227 | 53=>229 | 4=>4 | 183=>221 | 182=>220 | 131=>215 | 5=>5 | 9=>9 | 218=>266 | 222=>270 | 228=>280 | 229=>281 | n=>n,fun | n=>n⟩
theorem Tryz.lays189:Go.Proofs.Lays.n189 Tryz.prog Tryz.lays189_ren:={
 mixed:=by kernel_rfl
 f125:=Tryz.func139.trans (congrArg some (by kernel_rfl))
 f128:=Tryz.func218.trans (congrArg some (by kernel_rfl))
 f129:=Tryz.func219.trans (congrArg some (by kernel_rfl))
 f189:=Tryz.func72.trans (congrArg some (by kernel_rfl))
 f215:=Tryz.func279.trans (congrArg some (by kernel_rfl))
 f216:=Tryz.func215.trans (congrArg some (by kernel_rfl))
 f257:=Tryz.func138.trans (congrArg some (by kernel_rfl))
 f294:=Tryz.func209.trans (congrArg some (by kernel_rfl))
 f295:=Tryz.func210.trans (congrArg some (by kernel_rfl))
 f296:=Tryz.func211.trans (congrArg some (by kernel_rfl))
 f297:=Tryz.func212.trans (congrArg some (by kernel_rfl))
 f298:=Tryz.func213.trans (congrArg some (by kernel_rfl))
 f299:=Tryz.func214.trans (congrArg some (by kernel_rfl))
 f300:=Tryz.func216.trans (congrArg some (by kernel_rfl))
 f301:=Tryz.func217.trans (congrArg some (by kernel_rfl))
 f328:=Tryz.func274.trans (congrArg some (by kernel_rfl))
 f329:=Tryz.func275.trans (congrArg some (by kernel_rfl))
 f330:=Tryz.func276.trans (congrArg some (by kernel_rfl))
 f331:=Tryz.func277.trans (congrArg some (by kernel_rfl))
 f332:=Tryz.func278.trans (congrArg some (by kernel_rfl))
 f343:=Tryz.func311.trans (congrArg some (by kernel_rfl))
 t0:=Tryz.underlying0
 a0:=Tryz.isAgg0
 z0:=Tryz.sizeOf0
 v0:=Tryz.zeroValue0
 t3:=Tryz.underlying3
 a3:=Tryz.isAgg3
 z3:=Tryz.sizeOf3
 v3:=Tryz.zeroValue3
 t4:=Tryz.underlying4
 a4:=Tryz.isAgg4
 z4:=Tryz.sizeOf4
 v4:=Tryz.zeroValue4
 t5:=Tryz.underlying5
 a5:=Tryz.isAgg5
 z5:=Tryz.sizeOf5
 v5:=Tryz.zeroValue5
 t9:=Tryz.underlying9
 a9:=Tryz.isAgg9
 z9:=Tryz.sizeOf9
 v9:=Tryz.zeroValue9
 t28:=Tryz.underlying22
 a28:=Tryz.isAgg22
 z28:=Tryz.sizeOf22
 v28:=Tryz.zeroValue22
 t46:=Tryz.underlying165
 a46:=Tryz.isAgg165
 z46:=Tryz.sizeOf165
 v46:=Tryz.zeroValue165
 t51:=Tryz.underlying227
 a51:=Tryz.isAgg227
 z51:=Tryz.sizeOf227
 v51:=Tryz.zeroValue227
 t53:=Tryz.underlying229
 a53:=Tryz.isAgg229
 z53:=Tryz.sizeOf229
 v53:=Tryz.zeroValue229
 t131:=Tryz.underlying215
 a131:=Tryz.isAgg215
 z131:=Tryz.sizeOf215
 v131:=Tryz.zeroValue215
 t182:=Tryz.underlying220
 a182:=Tryz.isAgg220
 z182:=Tryz.sizeOf220
 v182:=Tryz.zeroValue220
 t183:=Tryz.underlying221
 a183:=Tryz.isAgg221
 z183:=Tryz.sizeOf221
 v183:=Tryz.zeroValue221
 t218:=Tryz.underlying266
 a218:=Tryz.isAgg266
 z218:=Tryz.sizeOf266
 v218:=Tryz.zeroValue266
 t222:=Tryz.underlying270
 a222:=Tryz.isAgg270
 z222:=Tryz.sizeOf270
 v222:=Tryz.zeroValue270
 t228:=Tryz.underlying280
 a228:=Tryz.isAgg280
 z228:=Tryz.sizeOf280
 v228:=Tryz.zeroValue280
 t229:=Tryz.underlying281
 a229:=Tryz.isAgg281
 z229:=Tryz.sizeOf281
 v229:=Tryz.zeroValue281}
def Tryz.lays20_ren:Go.Shelf.Ren:=⟨fun | 20=>137 | n=>n,fun | 22=>22 | 3=>3 | 4=>4 | 0=>0 | n=>n,fun | n=>n⟩
theorem Tryz.lays20:Go.Proofs.Lays2.n20 Tryz.prog Tryz.lays20_ren:={
 mixed:=by kernel_rfl
 f20:=Tryz.func137.trans (congrArg some (by kernel_rfl))
 t0:=Tryz.underlying0
 a0:=Tryz.isAgg0
 z0:=Tryz.sizeOf0
 v0:=Tryz.zeroValue0
 t3:=Tryz.underlying3
 a3:=Tryz.isAgg3
 z3:=Tryz.sizeOf3
 v3:=Tryz.zeroValue3
 t4:=Tryz.underlying4
 a4:=Tryz.isAgg4
 z4:=Tryz.sizeOf4
 v4:=Tryz.zeroValue4
 t22:=Tryz.underlying22
 a22:=Tryz.isAgg22
 z22:=Tryz.sizeOf22
 v22:=Tryz.zeroValue22
 i3:=by kernel_rfl}
def Tryz.lays15_ren:Go.Shelf.Ren:=⟨fun | 15=>111 | n=>n,fun | 22=>22 | 3=>3 | 4=>4 | n=>n,fun | n=>n⟩
theorem Tryz.lays15:Go.Proofs.Lays2.n15 Tryz.prog Tryz.lays15_ren:={
 mixed:=by kernel_rfl
 f15:=Tryz.func111.trans (congrArg some (by kernel_rfl))
 t3:=Tryz.underlying3
 a3:=Tryz.isAgg3
 z3:=Tryz.sizeOf3
 v3:=Tryz.zeroValue3
 t4:=Tryz.underlying4
 a4:=Tryz.isAgg4
 z4:=Tryz.sizeOf4
 v4:=Tryz.zeroValue4
 t22:=Tryz.underlying22
 a22:=Tryz.isAgg22
 z22:=Tryz.sizeOf22
 v22:=Tryz.zeroValue22
 i3:=by kernel_rfl}
end Go.Proofs

namespace Go.Ab
open Go
set_option maxRecDepth 100000
open Go.Proofs
def sortI (xs:List Int):List Int:=xs.mergeSort fun x y=>decide (x<=y)
def sortN:Inl:=⟨fun ss h _ K=>match ss with
 | [.acc i ver]=>match getH h i with
  | .acc ver' false 1 L=>bif Nat.beq ver ver' then (decI L).bind fun xs=>bif Nat.ble xs.length 4000000000 then K (.c (.tup [])) (setH h i (.acc ver false 1 (encI (sortI xs)))) else none else none
  | _=>none
 | _=>none⟩
theorem sort_nat:NatN sortN:=fun ss h=>by
 unfold sortN
 dsimp only
 split
 ·split
  ·exact .cond _ (.bind _ fun _ => .cond _ (.ret _ _) .none) .none
  ·exact .none
 ·exact .none
theorem sort_calls (blk cap:Nat) (zs:List Int) (w:World) (hH:Sort.Holds (Value.int .i64) w blk 0 zs.toArray) (hblk:blk<w.heap.size) (hsz:zs.length<4611686018427387904):
  Calls Pr 72 #[.slice (some ⟨blk,0,none⟩) zs.length cap] w fun e w'=>e = .returned (.tuple #[])/\∃ n os,w'=Sort.grow (Sort.putRow (Value.int .i64) (Sort.ahead w n) blk 0 (sortI zs).toArray) os:=
 Any.slices_Sort_int Tryz.lays189 blk 0 cap zs w hH hblk hsz
theorem sort_calls0 (a:Option Addr) (cap:Nat) (w:World):Calls Pr 72 #[.slice a 0 cap] w fun e w'=>e = .returned (.tuple #[])/\w'=w:=
 Any.slices_Sort_int_none Tryz.lays189 a cap w
theorem setH_self:∀ {h:H} {i:Nat} {b:Box},getH h i=b->setH h i b=h
 | [],_,_,_=>rfl
 | c::h,0,b,e=>by
  have:c=b:=e
  subst this;rfl
 | c::h,i+1,b,e=>by
  have:setH (c::h) (i+1) b=c::setH h i b:=rfl
  rw [this,setH_self (h:=h) (i:=i) e]
theorem sort_good:GoodN Pr 72 sortN:=by
 refine ⟨⟨⟨_,Tryz.func72,by kernel_rfl,by kernel_rfl⟩,fun ss h β K r hK => ?_⟩,sort_nat⟩
 unfold sortN at hK
 dsimp only at hK
 split at hK
 ·rename_i i ver
  split at hK
  ·rename_i ver' L hg
   replace hK:=cond_some hK
   obtain ⟨hb,hK⟩:=hK
   have hb:=beq_true hb
   subst hb
   replace hK:=bind_some' hK
   obtain ⟨xs,hx,hK⟩:=hK
   replace hK:=cond_some hK
   obtain ⟨hp,hK⟩:=hK
   have hL:=decI_enc hx
   subst hL
   have hsm:=Nat.le_of_ble_eq_true hp
   refine ⟨_,_,hK,fun ρ X w vs hr hsz hvs => ?_⟩
   have hv0:=hvs 0 (.acc i ver) rfl
   have hvs1:vs=#[vs.getD 0 undef]:=by
    apply Array.ext
    ·simpa using hsz
    ·intro j h1 h2
     have:j=0:=by simp at h2;exact h2
     subst this
     simp [h1]
   rw [hvs1]
   generalize vs.getD 0 undef=v at hv0
   cases hv0 with
   | acc _ _ _ hpl hi hv=>
    have hval:=(hv ver false 1 (encI xs) hg).2 rfl
    have hbx:=hr.box i
    rw [hg] at hbx
    obtain ⟨h0,h1,h2,h3⟩:=hbx
    cases hxe:xs with
    | nil=>
     subst hxe
     have hs:∃ a cap,ρ.cur i = .slice a 0 cap:=by
      rcases h3 with ⟨h3,_⟩ | ⟨b,cap,cur,ty,h3,_⟩
      ·exact ⟨_,_,h3⟩
      ·exact ⟨_,_,h3⟩
     obtain ⟨a,cap,hs⟩:=hs
     rw [hval,hs]
     refine (sort_calls0 a cap w).mono ?_
     rintro e w' ⟨rfl,rfl⟩
     have hh:setH h i (.acc ver false 1 (encI (sortI [])))=h:=setH_self (by rw [hg];simp [sortI])
     rw [hh]
     exact ⟨_,rfl,ρ,hr,.c _ _ (.tup [] #[] rfl fun j x hx=>by simp at hx),Ext.refl _ _ _⟩
    | cons x0 xr=>
    rw [<- hxe]
    rcases h3 with ⟨_,he⟩ | ⟨b,cap,cur,ty,h3,h4,h5,h6,h7⟩
    ·rw [hxe] at he;cases he
    rw [encI_len] at h3
    rw [hval,h3]
    have hH:Sort.Holds (Value.int .i64) w b 0 xs.toArray:=fun j hj=>by
     have hj':j<xs.length:=by simpa using hj
     obtain ⟨u,hu,_,hc⟩:=h7 j 0 (.int .i64 xs[j]) (by simp [at2,encI,hj'])
     cases hc
     have hu:cur[j]? = some (.int .i64 xs[j]):=by simpa using hu
     refine ⟨?_,?_⟩
     ·simp [World.cell?,h4,hu,hj']
     ·simp [World.frozen?,h4]
    refine (sort_calls b cap xs w hH (Array.getElem?_eq_some_iff.1 h4).1 (by omega)).mono ?_
    rintro e w' ⟨rfl,n,os,rfl⟩
    exact ⟨_,rfl,sortPost hr hg (by simp [sortI]) h3 n os⟩
  ·cases hK
 ·cases hK
end Go.Ab

namespace Go.Ab
open Go
set_option maxRecDepth 100000
open Go.Proofs
def zerosTo (xs:List Int):List Int:=Lib.compact xs++List.replicate (xs.length - (Lib.compact xs).length) 0
theorem compact_calls (blk cap:Nat) (zs:List Int) (w:World) (hH:Sort.Holds (Value.int .i64) w blk 0 zs.toArray) (hsz:zs.length<=9223372036854775807) (hcap:zs.length<=cap):
  Calls Pr 137 #[.slice (some ⟨blk,0,none⟩) zs.length cap] w fun e w'=>e = .returned (.slice (some ⟨blk,0,none⟩) (Lib.compact zs).length cap)/\∃ q,w'=Sort.putRow (Value.int .i64) (Sort.ahead w q) blk 0 (zerosTo zs).toArray:=
 Any.slices_Compact_int Tryz.lays20 blk 0 cap zs w hH hsz hcap
theorem compact_calls0 (a:Option Addr) (cap:Nat) (w:World):Calls Pr 137 #[.slice a 0 cap] w fun e w'=>e = .returned (.slice a 0 cap)/\w'=w:=
 Any.slices_Compact_int_empty Tryz.lays20 a cap w
def compactN:Inl:=⟨fun ss h _ K=>match ss with
 | [.acc i ver]=>match getH h i with
  | .acc ver' false 1 L=>bif Nat.beq ver ver' then (decI L).bind fun xs=>bif Nat.ble xs.length 4000000000&&Nat.ble (Lib.compact xs).length xs.length then
    (bif xs.isEmpty then K (.acc i ver) h else K (.sub i ver 0 (Lib.compact xs).length) (setH h i (.acc ver false 1 (encI (zerosTo xs))))) else none else none
  | _=>none
 | _=>none⟩
theorem compact_nat:NatN compactN:=fun ss h=>by
 unfold compactN
 dsimp only
 split
 ·split
  ·exact .cond _ (.bind _ fun _ => .cond _ (.cond _ (.ret _ _) (.ret _ _)) .none) .none
  ·exact .none
 ·exact .none
theorem compact_good:GoodN Pr 137 compactN:=by
 refine ⟨⟨⟨_,Tryz.func137,by kernel_rfl,by kernel_rfl⟩,fun ss h β K r hK => ?_⟩,compact_nat⟩
 unfold compactN at hK
 dsimp only at hK
 split at hK
 ·rename_i i ver
  split at hK
  ·rename_i ver' L hg
   replace hK:=cond_some hK
   obtain ⟨hb,hK⟩:=hK
   have hb:=beq_true hb
   subst hb
   replace hK:=bind_some' hK
   obtain ⟨xs,hx,hK⟩:=hK
   replace hK:=cond_some hK
   obtain ⟨hp,hK⟩:=hK
   have hL:=decI_enc hx
   subst hL
   simp only [Bool.and_eq_true] at hp
   have hsm:=Nat.le_of_ble_eq_true hp.1
   have hcl:=Nat.le_of_ble_eq_true hp.2
   have one:∀ (vs:Array Value) (h1:vs.size=1),vs=#[vs.getD 0 undef]:=fun vs hsz=>by
    apply Array.ext
    ·simpa using hsz
    ·intro j h1 h2
     have:j=0:=by simp at h2;exact h2
     subst this
     simp [h1]
   cases he:xs.isEmpty with
   | true=>
    rw [he,cond_true] at hK
    have he:=List.isEmpty_iff.1 he
    subst he
    refine ⟨_,_,hK,fun ρ X w vs hr hsz hvs => ?_⟩
    have hv0:=hvs 0 (.acc i ver) rfl
    rw [one vs (by simpa using hsz)]
    generalize vs.getD 0 undef=v at hv0
    cases hv0 with
    | acc _ _ _ hpl hi hv=>
     have hval:=(hv ver false 1 (encI []) hg).2 rfl
     have hbx:=hr.box i
     rw [hg] at hbx
     obtain ⟨h0,h1,h2,h3⟩:=hbx
     have hs:∃ a cap,ρ.cur i = .slice a 0 cap:=by
      rcases h3 with ⟨h3,_⟩ | ⟨b,cap,cur,ty,h3,_⟩
      ·exact ⟨_,_,h3⟩
      ·exact ⟨_,_,h3⟩
     obtain ⟨a,cap,hs⟩:=hs
     have hvv:VR ρ h w (Mut ρ X h) (.acc i ver) v := .acc i ver v hpl hi hv
     rw [hval,hs] at hvv ⊢
     refine (compact_calls0 a cap w).mono ?_
     rintro e w' ⟨rfl,rfl⟩
     exact ⟨_,rfl,ρ,hr,hvv,Ext.refl _ _ _⟩
   | false=>
    rw [he,cond_false] at hK
    refine ⟨_,_,hK,fun ρ X w vs hr hsz hvs => ?_⟩
    have hv0:=hvs 0 (.acc i ver) rfl
    rw [one vs (by simpa using hsz)]
    generalize vs.getD 0 undef=v at hv0
    cases hv0 with
    | acc _ _ _ hpl hi hv=>
     have hval:=(hv ver false 1 (encI xs) hg).2 rfl
     have hbx:=hr.box i
     rw [hg] at hbx
     obtain ⟨h0,h1,h2,h3⟩:=hbx
     rcases h3 with ⟨_,hn⟩ | ⟨b,cap,cur,ty,h3,h4,h5,h6,h7⟩
     ·rw [List.map_eq_nil_iff.1 hn] at he;cases he
     rw [encI_len] at h3 h5
     rw [hval,h3]
     have hH:Sort.Holds (Value.int .i64) w b 0 xs.toArray:=fun j hj=>by
      have hj':j<xs.length:=by simpa using hj
      obtain ⟨u,hu,_,hc⟩:=h7 j 0 (.int .i64 xs[j]) (by simp [at2,encI,hj'])
      cases hc
      have hu:cur[j]? = some (.int .i64 xs[j]):=by simpa using hu
      refine ⟨?_,?_⟩
      ·simp [World.cell?,h4,hu,hj']
      ·simp [World.frozen?,h4]
     have hzl:(zerosTo xs).length=xs.length:=by simp [zerosTo];omega
     refine (compact_calls b cap xs w hH (by omega) h5).mono ?_
     rintro e w' ⟨rfl,q,rfl⟩
     have hu:=rowUpd hr hg hzl h3 q #[]
     rw [Sort.grow_empty] at hu
     refine ⟨_,rfl,_,hu.1,.sub i ver 0 _ _ rfl (by simpa using hi) fun ver' fr sz l hl => ?_,hu.2⟩
     rw [getH_setH_same _ hi] at hl
     cases hl
     refine ⟨Nat.le_refl _,fun _=>⟨by rw [encI_len,hzl];omega,some ⟨b,0,none⟩,cap,cap,0,?_,by omega,by omega,by omega,fun _=>by omega,?_⟩⟩
     ·rw [encI_len,hzl];simpa using h3
     ·simp [Addr.add]
  ·cases hK
 ·cases hK
end Go.Ab

namespace Go.Ab
open Go Go.ChangeShapes Go.WideShapes Go.RowKit
open Go.Proofs
theorem clone_nil (n c:Nat) (w:World):Calls Pr 111 #[.slice none n c] w fun e w'=>e = .returned (.slice none 0 0)/\w'=w:=
 Any.slices_Clone_int_nil Tryz.lays15 n c w
theorem clone_zero (a:Addr) (c:Nat) (w:World):Calls Pr 111 #[.slice (some a) 0 c] w fun e w'=>∃ v' t,e = .returned v'/\w'.ownsRow w.heap.size t 1 v' 0 []/\Below w.heap.size w w':=
 (Any.slices_Clone_int_zero Tryz.lays15 a c w).mono fun e w' h=>by
  obtain ⟨v',h1,h2,_,h3⟩:=h
  exact ⟨v',_,h1,h2,h3⟩
def gCloneA:Callee:=g1 cIs (fun w=>Nat.ble w.length 4000000000) fun w=>cOI.enc w
theorem below_io {w w':World} (h:Below w.heap.size w w'):SameIO w w'/\w.heap.size<=w'.heap.size/\∀ b,b<w.heap.size->w'.heap[b]? = w.heap[b]? := by
 refine ⟨⟨h.os,?_⟩,h.size,h.block⟩
 rw [h.output,h.tape]
theorem cloneA_good:GoodC Pr 111 gCloneA:=by
 refine ⟨⟨cloneI_good.s.enter,fun args conts β K r hr => ?_⟩,g1_nat _⟩
 unfold gCloneA g1 at hr
 dsimp only at hr
 split at hr
 ·rename_i a
  replace hr:=bind_some' hr
  obtain ⟨xs,hx,hr⟩:=hr
  replace hr:=cond_some hr
  obtain ⟨hp,hr⟩:=hr
  cases hxs:xs.isEmpty with
  | false=>
   refine cloneI_good.s.calls [a] [] β K r ?_
   unfold gCloneI g1
   dsimp only
   rw [hx,Option.bind_some,hxs,hp]
   exact hr
  | true=>
   have hxs:=List.isEmpty_iff.1 hxs
   subst hxs
   have ea:=cIs.ok _ _ hx
   subst ea
   refine ⟨_,_,hr,fun w M vs bs B m => ?_⟩
   have hv:vs=#[vs.getD 0 undef]:=by
    apply Array.ext
    ·simpa using m.size
    ·intro j h1 h2
     have:j=0:=by simp at h2;exact h2
     subst this
     simp [h1]
   have ha:=m.arg 0 (cIs.enc []) rfl
   rw [hv]
   generalize vs.getD 0 undef=v at ha
   obtain ⟨rfl,rfl⟩:bs=[]/\B=[]:=by
    have hc:=m.cont
    cases bs with
    | nil=>exact ⟨rfl,hc⟩
    | cons b bs=>exact hc.elim
   have hcr:CR w M (.sl 1 []) v:=by
    rcases ha with ⟨k,b,h1,_⟩ | ha
    ·cases h1
    ·exact ha
   obtain ⟨a,cap,rfl⟩:∃ a cap,v = .slice a 0 cap:=by
    cases hcr with
    | sl0 _ a cap=>exact ⟨a,cap,rfl⟩
    | sl=>exact ⟨_,_,rfl⟩
   ·cases a with
    | none=>
     refine (clone_nil 0 cap w).mono ?_
     rintro e w' ⟨rfl,rfl⟩
     exact ⟨_,[],[],rfl,⟨⟨rfl,rfl⟩,Nat.le_refl _,fun _ _ _=>rfl,fun b hb=>(by cases hb),List.nodup_nil,.ownN 1 (by omega),rfl⟩⟩
    | some a=>
     refine (clone_zero a cap w).mono ?_
     rintro e w' ⟨v',t,rfl,ho,hb⟩
     obtain ⟨q1,q2,q3⟩:=below_io hb
     rcases ho.2 with ⟨rfl,_⟩ | ⟨g,cap',cur,rfl,g1,g2,g3,g4,g5,g6⟩
     ·exact ⟨_,[],[],rfl,⟨q1,q2,fun b hb _=>q3 b hb,fun b hb=>(by cases hb),List.nodup_nil,.ownN 1 (by omega),rfl⟩⟩
     ·refine ⟨_,[g],[],rfl,⟨q1,q2,fun b hb _=>q3 b hb,fun b hb => ?_,by simp,?_,rfl⟩⟩
      ·simp at hb;subst hb;exact .inr g1
      ·exact .own 1 [] g cap' cur t (by omega) (fun e he=>by cases he) (Nat.zero_le _) g2 (Nat.zero_le _) (by omega) fun k j x hx=>by simp [at2] at hx
 ·cases hr
end Go.Ab

namespace Go.Proofs
open Go.RowKit Go.Lib
set_option maxRecDepth 100000
set_option maxHeartbeats 2000000
theorem clone_nil117 (n c:Nat) (w:World):Calls Tryz.prog 117 #[.slice none n c] w fun e w'=>e = .returned (.slice none 0 0)/\w'=w:=by
 have q46:∀ (w:World) (a:Option Addr) (n c n' c':Nat),(binOp .eql 46 (.slice a n c) (.slice none n' c')).run Tryz.prog w = .ok (.bool a.isNone) w:=fun w a n c n' c'=>Lib.run_eql_slice_nil w _ _ a n c n' c' Tryz.underlying46
 go_enter Tryz.func117,Tryz.ntmps117
 go_wp2
 go_ret
 exact ⟨rfl,rfl⟩
theorem clone_zero117 (a:Addr) (c:Nat) (w:World):Calls Tryz.prog 117 #[.slice (some a) 0 c] w fun e w'=>∃ v' t,e = .returned v'/\w'.ownsRow w.heap.size t 4 v' 0 []/\Below w.heap.size w w':=by
 have q46:∀ (w:World) (a:Option Addr) (n c n' c':Nat),(binOp .eql 46 (.slice a n c) (.slice none n' c')).run Tryz.prog w = .ok (.bool a.isNone) w:=fun w a n c n' c'=>Lib.run_eql_slice_nil w _ _ a n c n' c' Tryz.underlying46
 have u46:∀ w,Sem.run Tryz.prog (underlying 46) w = .ok (TypeDesc.slice 52) w:=run_underlying Tryz.underlying46
 obtain ⟨i0,hi,hz0,hz1,hz2⟩:=info_parts (P:=Tryz.prog) (e:=52) (z := .agg #[.int .i64 0,.int .i64 0,.int .i64 0,.int .i64 0]) (size:=4) (bytes:=32) (by kernel_rfl)
 go_enter Tryz.func117,Tryz.ntmps117
 go_wp2_with (at_builtin;refine wpList_append_own _ rfl _ _ 46 rfl w.heap.size 52 i0 (.agg #[.int .i64 0,.int .i64 0,.int .i64 0,.int .i64 0]) 4 32 Tryz.underlying46 hi hz0 hz1 hz2 rfl (by decide) _ _ _ rfl (World.ownsRow_made w #[] 0 (Nat.le_refl _) (Nat.zero_le _) rfl) a 0 c [] rfl rfl (by intro j u hj;simp at hj) (by intro u hu;cases hu) (by unfold maxLen;omega) (by omega) (by simp) ?_)
 intro v' w1 hown hgrow hnil
 go_wp2
 go_ret
 refine ⟨v',_,rfl,by simpa using hown,?_⟩
 exact ((Below.refl _ w).alloc (Nat.le_refl _) _).grown hgrow (by simp) (by intro k hk;simp [Value.ownBlock] at hk;omega)
end Go.Proofs

namespace Go.Ab
open Go
set_option maxRecDepth 100000
open Go.Proofs
noncomputable abbrev k32:Cx:=cxG Pr Tryz.f69 [(102,gAllI)] [(72,sortN),(137,compactN)]
theorem r32 (ls:List Ls) (β:Type) (K:CV->List (List CV)->Option β):fnK k32 Tryz.f69 [cLss.enc ls] [] K=
 Option.bind (decLs (List.map encLs ls)) fun a=>
 bif smLs a then
 Option.bind (decI (encI (catI a))) fun xs=>
 bif Nat.ble (List.length xs) 4000000000 then
 Option.bind (decI (encI (sortI xs))) fun xs_1=>
 bif Nat.ble (List.length xs_1) 4000000000&&Nat.ble (List.length (Lib.compact xs_1)) (List.length xs_1) then
 bif List.isEmpty xs_1 then
 K (CV.bool ((↑(List.length (encI (sortI xs))):Int)==(↑(List.length (encI (catI a))):Int))) []
 else K (CV.bool ((↑(List.length (Lib.compact xs_1)):Int)==(↑(List.length (encI (catI a))):Int))) []
 else none
 else none
 else none:=by kernel_rfl
theorem compact_le (zs:List Int):(Lib.compact zs).length<=zs.length:=by
 unfold Lib.compact Lib.compactUpTo
 rw [List.length_map]
 exact Nat.le_trans (List.length_filter_le _ _) (by simp)
theorem sortI_len (xs:List Int):(sortI xs).length=xs.length:=by simp [sortI]
theorem catI_len:∀ {ls:List Ls},ls.all smL=true->(catI ls).length<=300000*ls.length
 | [],_=>by simp [catI]
 | l::ls,h=>by
  simp only [List.all_cons,Bool.and_eq_true] at h
  obtain ⟨l1,l2,l3⟩:=smL_le h.1
  have ih:=catI_len h.2
  rw [show catI (l::ls)=one3 l++catI ls from rfl]
  simp only [one3,List.length_append,List.length_cons]
  omega
def apartV (ls:List Ls):Bool:=Nat.beq (Lib.compact (sortI (catI ls))).length (catI ls).length
def gApart:Callee:=g1 cLss smLs fun ls=>cB.enc (apartV ls)
theorem apart_good:GoodC Pr 69 gApart:=
 good1 ((CxOK.baseG (Good.cons catI_good Good.nil) (GoodI.cons sort_good (GoodI.cons compact_good GoodI.nil)) (eqOK_none fun _=>rfl)).sound (cx:=k32) Tryz.func69 (by kernel_rfl) (by kernel_rfl) rfl (by kernel_rfl)) fun ls hp β K=>by
  obtain ⟨h1,h2⟩:=smLs_le hp
  have hc:=catI_len h2
  rw [r32]
  simp only [decLs_map,Option.bind_some,hp,cond_true,decI_map,sortI_len,Nat.ble_eq_true_of_le (show (catI ls).length<=4000000000 by omega),Bool.and_self,Nat.ble_eq_true_of_le (show (Lib.compact (sortI (catI ls))).length<=(catI ls).length from sortI_len (catI ls) ▸ compact_le _),encI_len,beq_nat]
  cases e1:(sortI (catI ls)).isEmpty with
  | false=>rw [cond_false];rfl
  | true=>
   have e2:=List.isEmpty_iff.1 e1
   have e3:catI ls=[]:=by
    have:=sortI_len (catI ls)
    rw [e2] at this
    exact List.eq_nil_of_length_eq_zero this.symm
   unfold apartV
   rw [cond_true,e2,e3]
   rfl
end Go.Ab

namespace Go.Ab
open Go
set_option maxRecDepth 100000
open Go.Proofs
theorem allCG_good:GoodC Pr 68 gAllC:=⟨allC_sound,allC_nat⟩
noncomputable abbrev k9a:Cx:=cxG Pr Tryz.f20 [(60,gShaped),(66,gListed),(68,gAllC),(67,gEvery),(69,gApart)] [] (fun q=>Nat.beq q 15)
abbrev p9:=[false,true,false,true,true,true,true]
abbrev o9:Exit->List Nat:=fun | .ret=>[4] | _=>[2,5,6]
theorem t9x (h g:Hp) (xs ys:List Ls) (n i:Int) (m:Nat) (β:Type) (K:Exit->List CV->List (List CV)->Option β):loopB k9a [2,5,6,18,19,20] o9 p9 (bodyL (bodyOf Tryz.f20) p9) (m+1) [cPH.enc h,cClo.enc (.may g),cLss.enc xs,cLss.enc ys,cI.enc n,cI.enc i] [] K=
 bif decide (i<n) then
 Option.bind (rdE (List.map encLs ys) i) fun c=>
 Option.bind c[0]? fun x=>
 Option.bind (asL 1 x) fun l=>
 Option.bind c[1]? fun x=>
 Option.bind (asL 1 x) fun l_1=>
 Option.bind c[2]? fun x=>
 Option.bind (asL 1 x) fun l_2=>
 Option.bind (Option.bind (decI (encI (Hp.w h))) fun w=>
 Option.bind (decP (List.map encP (Hp.p h))) fun p=>
 Option.bind (decI (encI (Ls.a (Hp.f h)))) fun a=>
 Option.bind (decI (encI (Ls.b (Hp.f h)))) fun b=>
 Option.bind (decI (encI (Ls.c (Hp.f h)))) fun c=>
 Option.bind (decBs (encBs (Hp.c h))) fun d=>some {w:=w,p:=p,f:={a:=a,b:=b,c:=c},c:=d}) fun a=>
 Option.bind (Option.bind (decI l) fun a=>
 Option.bind (decI l_1) fun b=>Option.bind (decI l_2) fun c=>some {a:=a,b:=b,c:=c}) fun b=>
 bif smH a&&shapedE a&&smL b then
 bif !listedV a b then K Exit.ret [CV.bool false] []
 else loopB k9a [2,5,6,18,19,20] o9 [false,true,false,true,true,true,true] (bodyL (bodyOf Tryz.f20) p9) m [CV.pc [CV.sl 1 (encI (Hp.w h)),CV.sl 2 (List.map encP (Hp.p h)),CV.sl 1 (encI (Ls.a (Hp.f h))),CV.sl 1 (encI (Ls.b (Hp.f h))),CV.sl 1 (encI (Ls.c (Hp.f h))),CV.sl 1 (encBs (Hp.c h))] 0,CV.fn 61 [] [CV.pc [CV.sl 1 (encI (Hp.w g)),CV.sl 2 (List.map encP (Hp.p g)),CV.sl 1 (encI (Ls.a (Hp.f g))),CV.sl 1 (encI (Ls.b (Hp.f g))),CV.sl 1 (encI (Ls.c (Hp.f g))),CV.sl 1 (encBs (Hp.c g))] 0],CV.sl 3 (List.map encLs xs),CV.sl 3 (List.map encLs ys),CV.int IntKind.i64 n,CV.int IntKind.i64 (IntKind.wrap IntKind.i64 (i+1))] [] fun a a_1 a_2=>K a a_1 a_2
 else none
 else
 K (Exit.exit 0) [CV.pc [CV.sl 1 (encI (Hp.w h)),CV.sl 2 (List.map encP (Hp.p h)),CV.sl 1 (encI (Ls.a (Hp.f h))),CV.sl 1 (encI (Ls.b (Hp.f h))),CV.sl 1 (encI (Ls.c (Hp.f h))),CV.sl 1 (encBs (Hp.c h))] 0,CV.fn 61 [] [CV.pc [CV.sl 1 (encI (Hp.w g)),CV.sl 2 (List.map encP (Hp.p g)),CV.sl 1 (encI (Ls.a (Hp.f g))),CV.sl 1 (encI (Ls.b (Hp.f g))),CV.sl 1 (encI (Ls.c (Hp.f g))),CV.sl 1 (encBs (Hp.c g))] 0],CV.sl 3 (List.map encLs xs)] []:=by kernel_rfl
theorem may_loop (h g:Hp) (xs ys:List Ls) (hh:(smH h&&shapedE h)=true) (hl:ys.length<=100000) (hs:ys.all smL=true) (β:Type) (K:Exit->List CV->List (List CV)->Option β):∀ (m i:Nat),i+m=ys.length->
  loopB k9a [2,5,6,18,19,20] o9 p9 (bodyL (bodyOf Tryz.f20) p9) (m+1) [cPH.enc h,cClo.enc (.may g),cLss.enc xs,cLss.enc ys,cI.enc (ys.length:Int),cI.enc (i:Int)] [] K=
   bif (ys.drop i).all (listedV h) then K (.exit 0) [cPH.enc h,cClo.enc (.may g),cLss.enc xs] [] else K .ret [cB.enc false] []:=by
 intro m
 induction m with
 | zero=>
  intro i h1
  rw [t9x,decide_eq_false (by omega),cond_false,List.drop_eq_nil_of_le (by omega)]
  rfl
 | succ m ih=>
  intro i h1
  have hi:i<ys.length:=by omega
  have e0:(List.map encLs ys)[(i:Int).toNat]? = some (encLs ys[i]):=by simp [hi]
  have hsm:=List.all_eq_true.1 hs _ (List.getElem_mem hi)
  rw [t9x,decide_eq_true (by omega),cond_true,rdE_nat (by omega),e0,List.drop_eq_getElem_cons hi]
  generalize ys[i]=l at hsm
  have g1:(encLs l)[0]? = some (.sl 1 (encI l.a)):=rfl
  have g2:(encLs l)[1]? = some (.sl 1 (encI l.b)):=rfl
  have g3:(encLs l)[2]? = some (.sl 1 (encI l.c)):=rfl
  have e:(⟨h.w,h.p,⟨h.f.a,h.f.b,h.f.c⟩,h.c⟩:Hp)=h:=rfl
  have e':(⟨l.a,l.b,l.c⟩:Ls)=l:=rfl
  simp only [Option.bind_some,g1,g2,g3,asL_1,decI_map,decP_map,decBs_enc,e,e',hh,hsm,Bool.and_self,cond_true,List.all_cons,show (i:Int)+1=((i+1:Nat):Int) by omega,wrap_in (a:=((i+1:Nat):Int)) (by omega)]
  cases listedV h l with
  | false=>rfl
  | true=>
   simp only [Bool.not_true,cond_false,Bool.true_and]
   exact ih (i+1) (by omega)
def cMay:Cod Hp where
 enc:=fun h => .fn 61 [] [cPH.enc h]
 dec:=fun c=>match c with | .fn f [] [x]=>bif Nat.beq f 61 then cPH.dec x else none | _=>none
 ok:=fun c a h=>by
  split at h
  ·rename_i f x
   cases e:Nat.beq f 61 with
   | true=>rw [e] at h;rw [Nat.eq_of_beq_eq_true e,cPH.ok _ _ h]
   | false=>rw [e] at h;cases h
  ·cases h
 de:=fun h=>cPH.de h
def L9:LoopSem:=l6 [2,5,6,18,19,20] o9 cPH cMay cLss cLss cI cI c0 (fun h _ _ ys n i _=>((smH h&&shapedE h)&&(Nat.ble ys.length 100000&&(ys.all smL&&(i==0&&n==(ys.length:Int))))))
 fun h g xs ys _ _ _ => .alt (ys.all (listedV h)) (.one (.exit 0) [cPH.enc h,cMay.enc g,cLss.enc xs] []) (.one .ret [cB.enc false] [])
noncomputable abbrev k9:Cx:=k9a.loop p9 L9
theorem k9_ok:CxOK k9 [(60,gShaped),(66,gListed),(68,gAllC),(67,gEvery),(69,gApart)]:=by
 refine CxOK.loop6 (CxOK.baseG (Good.cons shaped_good (Good.cons listed_good (Good.cons allCG_good (Good.cons every_good (Good.cons apart_good Good.nil))))) GoodI.nil (eqOK_none fun _=>rfl)) rfl fun h g xs ys n i u hp => ?_
 simp only [Bool.and_eq_true,beq_iff_eq] at hp
 obtain ⟨⟨hh1,hh2⟩,hl,hs,hi,hn⟩:=hp
 have hh:(smH h&&shapedE h)=true:=by rw [hh1,hh2];rfl
 subst hi hn
 refine ⟨ys.length+1,fun β K => ?_⟩
 have:=may_loop h g xs ys hh (Nat.le_of_ble_eq_true hl) hs β K ys.length 0 (by omega)
 rw [List.drop_zero] at this
 exact this
theorem r9 (h:Hp) (ls:List Ls) (β:Type) (K:CV->List (List CV)->Option β):fnK k9 Tryz.f20 [cHp.enc h,cLss.enc ls] [] K=
 Option.bind (Option.bind (decI (encI (Hp.w h))) fun w=>
 Option.bind (decP (List.map encP (Hp.p h))) fun p=>
 Option.bind (decI (encI (Ls.a (Hp.f h)))) fun a=>
 Option.bind (decI (encI (Ls.b (Hp.f h)))) fun b=>
 Option.bind (decI (encI (Ls.c (Hp.f h)))) fun c=>
 Option.bind (decBs (encBs (Hp.c h))) fun d=>some {w:=w,p:=p,f:={a:=a,b:=b,c:=c},c:=d}) fun a=>
 bif smH a then
 bif !shapedE a then K (CV.bool false) []
 else
 if List.length ([[CV.sl 1 (encI (Ls.a (Hp.f h))),CV.sl 1 (encI (Ls.b (Hp.f h))),CV.sl 1 (encI (Ls.c (Hp.f h)))]]++List.map encLs ls)<=LIM then
 Option.bind (Option.bind (decI (encI (Hp.w h))) fun w=>
 Option.bind (decP (List.map encP (Hp.p h))) fun p=>
 Option.bind (decI (encI (Ls.a (Hp.f h)))) fun a=>
 Option.bind (decI (encI (Ls.b (Hp.f h)))) fun b=>
 Option.bind (decI (encI (Ls.c (Hp.f h)))) fun c=>
 Option.bind (decBs (encBs (Hp.c h))) fun d=>some {w:=w,p:=p,f:={a:=a,b:=b,c:=c},c:=d}) fun a=>
 Option.bind (Option.bind (decI (encI (Hp.w h))) fun w=>
 Option.bind (decP (List.map encP (Hp.p h))) fun p=>
 Option.bind (decI (encI (Ls.a (Hp.f h)))) fun a=>
 Option.bind (decI (encI (Ls.b (Hp.f h)))) fun b=>
 Option.bind (decI (encI (Ls.c (Hp.f h)))) fun c=>
 Option.bind (decBs (encBs (Hp.c h))) fun d=>some {w:=w,p:=p,f:={a:=a,b:=b,c:=c},c:=d}) fun b=>
 Option.bind (decLs ([CV.sl 1 (encI (Ls.a (Hp.f h))),CV.sl 1 (encI (Ls.b (Hp.f h))),CV.sl 1 (encI (Ls.c (Hp.f h)))]::List.append [] (List.map encLs ls))) fun c=>
 Option.bind (decLs ([CV.sl 1 (encI (Ls.a (Hp.f h))),CV.sl 1 (encI (Ls.b (Hp.f h))),CV.sl 1 (encI (Ls.c (Hp.f h)))]::List.append [] (List.map encLs ls))) fun d=>
 bif smH a&&shapedE a&&(Nat.ble (List.length d) 100000&&(List.all d smL&&(↑(Nat.succ (Nat.add (List.length (List.append [] (List.map encLs ls))) 0)):Int)==(↑(List.length d):Int))) then
 bif List.all d (listedV a) then
 Option.bind (decP (List.map encP (Hp.p a))) fun ps=>
 bif Nat.ble (List.length ps) 200 then
 Option.bind (decI (atV (allCs ps))) fun a=>
 Option.bind (Clo.dec (CV.fn 61 [] [CV.pc [CV.sl 1 (encI (Hp.w b)),CV.sl 2 (List.map encP (Hp.p b)),CV.sl 1 (encI (Ls.a (Hp.f b))),CV.sl 1 (encI (Ls.b (Hp.f b))),CV.sl 1 (encI (Ls.c (Hp.f b))),CV.sl 1 (encBs (Hp.c b))] 0])) fun b=>
 bif List.all a (Clo.pre b)&&Nat.ble (List.length a) 100000 then
 bif List.all a (Clo.val b) then
 Option.bind (decLs (List.map encLs c)) fun a=>
 bif smLs a then K (CV.bool (apartV a)) [] else none
 else K (CV.bool false) []
 else none
 else none
 else K (CV.bool false) []
 else none
 else none
 else none:=by kernel_rfl
theorem de_ls (h:Hp) (ls:List Ls):decLs ([CV.sl 1 (encI (Ls.a (Hp.f h))),CV.sl 1 (encI (Ls.b (Hp.f h))),CV.sl 1 (encI (Ls.c (Hp.f h)))]::List.append [] (List.map encLs ls))=some (h.f::ls):=decLs_map (h.f::ls)
def cellAs (ps:List Pg):List Int:=(allCs ps).map (·.1)
theorem cellAs_dec (ps:List Pg):decI (encI (List.map (fun x=>x.fst) (allCs ps)))=some (cellAs ps):=decI_map _
def mayHpV (h:Hp) (ls:List Ls):Bool:=shapedE h&&((h.f::ls).all (listedV h)&&((cellAs h.p).all (mayV h)&&apartV (h.f::ls)))
def gMayHp:Callee:=g2 cHp cLss (fun h ls=>smH h&&smLs (h.f::ls)) fun h ls=>cB.enc (mayHpV h ls)
theorem cells_pre {h:Hp} (hs:smH h=true) (hh:shapedE h=true):(cellAs h.p).all (Clo.may h).pre=true:=List.all_eq_true.2 fun a ha=>by
 have h1:=room_pos h.p a
 rw [decide_eq_true (show a∈(allCs h.p).map (·.1) from ha)] at h1
 obtain ⟨g1,g2⟩:=room_in (of_decide_eq_true h1)
 obtain ⟨q1,q2⟩:=shaped_in hs hh g1 g2
 show (inW h a&&inP h a)=true
 rw [q1,q2];rfl
theorem mayHp_good:GoodC Pr 20 gMayHp:=
 good2 (k9_ok.sound (cx:=k9) Tryz.func20 (by kernel_rfl) (by kernel_rfl) rfl (by kernel_rfl)) fun h ls hp β K=>by
  simp only [Bool.and_eq_true] at hp
  obtain ⟨hs,hls⟩:=hp
  obtain ⟨h1,h2⟩:=smLs_le hls
  have hL:=lim_val
  have e:(⟨h.w,h.p,⟨h.f.a,h.f.b,h.f.c⟩,h.c⟩:Hp)=h:=rfl
  refine (r9 h ls β K).trans ?_
  simp only [decI_map,decP_map,decBs_enc,Option.bind_some,e,hs,cond_true]
  unfold mayHpV
  cases hsh:shapedE h with
  | false=>rfl
  | true=>
   have hn:((Nat.succ (Nat.add (List.length (List.append [] (List.map encLs ls))) 0):Nat):Int)=((h.f::ls).length:Int):=by
    show ((Nat.succ (List.length ([]++List.map encLs ls)+0):Nat):Int)=_
    simp
   have hc8:(cellAs h.p).length<=100000:=by
    have:=Nat.le_of_ble_eq_true (all_len8 (ps:=h.p) (Nat.ble_eq_true_of_le (smH_le hs).2.1))
    have e2:(cellAs h.p).length=((allCs h.p).map (·.1)).length:=rfl
    omega
   rw [Bool.not_true,cond_false,if_pos (by simp at h1 ⊢;omega)]
   simp only [de_may,de_ls,Option.bind_some,hn,hs,hsh,h2,beq_self_eq_true,Nat.ble_eq_true_of_le (show (h.f::ls).length<=100000 by omega),Bool.and_self,cond_true,Bool.true_and]
   cases (h.f::ls).all (listedV h) with
   | false=>rfl
   | true=>
    simp only [cond_true,Nat.ble_eq_true_of_le (smH_le hs).2.1,atV_enc,cellAs_dec,Option.bind_some,cells_pre hs hsh,Nat.ble_eq_true_of_le hc8,Bool.and_self,decLs_map,hls,Bool.true_and]
    show (bif (cellAs h.p).all (mayV h) then _ else _)=_
    cases (cellAs h.p).all (mayV h) <;> rfl
end Go.Ab

namespace Go.Ab
open Go
set_option maxRecDepth 100000
theorem roomA_some {ps:List Pg} {a:Int} {c:Cell} (h:firstC 141 a (allCs ps)=some c):roomA ps a=c.2:=by simp [roomA,h,optE]
theorem roomA_none {ps:List Pg} {a:Int} (h:firstC 141 a (allCs ps)=none):roomA ps a=0:=by simp [roomA,h,optE]
theorem all_mem {ps:List Pg} {c:Cell} (hc:c∈allCs ps):16<=c.1/\2<=c.2/\c.1<=65536/\c.2<=64:=chain_mem (all_chain ps) c hc
end Go.Ab

namespace Go.Ab
open Go
set_option maxRecDepth 100000
theorem roomA_le (ps:List Pg) (a:Int):0<=roomA ps a/\roomA ps a<=64:=by
 cases h:firstC 141 a (allCs ps) with
 | none=>rw [roomA_none h];omega
 | some c=>
  have:=all_mem (of29 h).1
  rw [roomA_some h]
  omega
def rsum (ps:List Pg):List Int->Int
 | []=>0
 | x::xs=>roomA ps x+rsum ps xs
def outs5:Exit->List Nat:=fun _=>[5,0]
def loop5:LoopSem:=⟨[4,5,6,0],outs5,fun vs cs _ K=>match vs,cs with
 | [.own 1 A,.int .i64 n,.int .i64 i,.sl 2 L],[]=>(decI A).bind fun xs=>(decP L).bind fun ps=>bif decide (i=0)&&decide (0<=n)&&decide (n<=1000000)&&Nat.ble xs.length 8192&&Nat.ble ps.length 200 then
   K (.exit 0) [.int .i64 (n+rsum ps xs),.sl 2 L] [] else none
 | _,_=>none⟩
/-! ### CellsOn -/
def outs6:Exit->List Nat:=fun e=>match e with | .ret=>[4] | _=>[0,1,6,7]
def walkOn (ps:List Pg):List Int->Int->Option Int
 | [],t=>some t
 | x::xs,t=>cond (x != t) none (walkOn ps xs (t+roomA ps t))
def loop6:LoopSem:=⟨[6,7,8,0,1],outs6,fun vs cs _ K=>match vs,cs with
 | [.own 1 A,.int .i64 t,.int .i64 i,.sl 2 L,.int .i64 p],[]=>(decI A).bind fun xs=>(decP L).bind fun ps=>bif decide (i=0)&&decide (0<=t)&&decide (t<=1000000)&&Nat.ble xs.length 8192&&Nat.ble ps.length 200 then
   optE (walkOn ps xs t) (K .ret [.bool false] []) fun t'=>K (.exit 0) [.sl 2 L,.int .i64 p,.own 1 A,.int .i64 t'] [] else none
 | _,_=>none⟩
end Go.Ab

namespace Go.Ab
open Go
set_option maxRecDepth 100000
open Go.Proofs
theorem roomN (ps:List Pg) (a:Int):(roomA ps a==0) = !decide (roomA ps a>0):=by
 have:=(roomA_le ps a).1
 by_cases h:roomA ps a>0
 ·rw [decide_eq_true h];exact beq_eq_false_iff_ne.2 (by omega)
 ·rw [decide_eq_false h];exact beq_iff_eq.2 (by omega)
noncomputable abbrev k14:Cx:=cxG Pr Tryz.f22 [(20,gMayHp),(73,gRoom),(63,gWord),(62,gUnp)]
theorem r14 (h:Hp) (a:Int) (β:Type) (K:CV->List (List CV)->Option β):fnK k14 Tryz.f22 [cHp.enc h,cI.enc a] [] K=
 Option.bind (Option.bind (decI (encI (Hp.w h))) fun w=>
 Option.bind (decP (List.map encP (Hp.p h))) fun p=>
 Option.bind (decI (encI (Ls.a (Hp.f h)))) fun a=>
 Option.bind (decI (encI (Ls.b (Hp.f h)))) fun b=>
 Option.bind (decI (encI (Ls.c (Hp.f h)))) fun c=>
 Option.bind (decBs (encBs (Hp.c h))) fun d=>some {w:=w,p:=p,f:={a:=a,b:=b,c:=c},c:=d}) fun a_1=>
 bif smH a_1&&smLs [Hp.f a_1] then
 bif !mayHpV a_1 [] then
 K (CV.tup [CV.agg [CV.bool false,CV.bool false,CV.bool false,CV.int IntKind.i64 0,CV.int IntKind.i64 0,CV.int IntKind.i64 0],CV.int IntKind.i64 1]) []
 else
 Option.bind (decP (List.map encP (Hp.p h))) fun ps=>
 bif Nat.ble (List.length ps) 200 then
 bif roomA ps a==0 then
 K (CV.tup [CV.agg [CV.bool false,CV.bool false,CV.bool false,CV.int IntKind.i64 0,CV.int IntKind.i64 0,CV.int IntKind.i64 0],CV.int IntKind.i64 3]) []
 else
 Option.bind (Option.bind (decI (encI (Hp.w h))) fun w=>
 Option.bind (decP (List.map encP (Hp.p h))) fun p=>
 Option.bind (decI (encI (Ls.a (Hp.f h)))) fun a=>
 Option.bind (decI (encI (Ls.b (Hp.f h)))) fun b=>
 Option.bind (decI (encI (Ls.c (Hp.f h)))) fun c=>
 Option.bind (decBs (encBs (Hp.c h))) fun d=>some {w:=w,p:=p,f:={a:=a,b:=b,c:=c},c:=d}) fun a_2=>
 bif inW a_2 a then
 bif !Hd.a (bif unpOK (wordE a_2 a) then unp (wordE a_2 a) else Hd.z0) then
 K (CV.tup [CV.agg [CV.bool false,CV.bool false,CV.bool false,CV.int IntKind.i64 0,CV.int IntKind.i64 0,CV.int IntKind.i64 0],CV.int IntKind.i64 3]) []
 else
 K (CV.tup [CV.agg [CV.bool (Hd.a (bif unpOK (wordE a_2 a) then unp (wordE a_2 a) else Hd.z0)),CV.bool (Hd.b (bif unpOK (wordE a_2 a) then unp (wordE a_2 a) else Hd.z0)),CV.bool (Hd.c (bif unpOK (wordE a_2 a) then unp (wordE a_2 a) else Hd.z0)),CV.int IntKind.i64 (Hd.x (bif unpOK (wordE a_2 a) then unp (wordE a_2 a) else Hd.z0)),CV.int IntKind.i64 (Hd.y (bif unpOK (wordE a_2 a) then unp (wordE a_2 a) else Hd.z0)),CV.int IntKind.i64 (Hd.z (bif unpOK (wordE a_2 a) then unp (wordE a_2 a) else Hd.z0))],CV.int IntKind.i64 0]) []
 else none
 else none
 else none:=by kernel_rfl
def unpX (h:Hp) (a:Int):Hd:=bif unpOK (wordE h a) then unp (wordE h a) else Hd.z0
def headE (h:Hp) (a:Int):Hd×Int:=bif !mayHpV h [] then (Hd.z0,1) else bif roomA h.p a==0 then (Hd.z0,3) else bif !(unpX h a).a then (Hd.z0,3) else (unpX h a,0)
def gHead:Callee:=g2 cHp cI (fun h _=>smH h&&smLs [h.f]) fun h a => .tup [cHd.enc (headE h a).1,cI.enc (headE h a).2]
theorem shaped_of {h:Hp} {ls:List Ls} (hm:mayHpV h ls=true):shapedE h=true:=by
 unfold mayHpV at hm
 cases hs:shapedE h with
 | true=>rfl
 | false=>rw [hs] at hm;cases hm
theorem head_good:GoodC Pr 22 gHead:=
 good2 ((CxOK.baseG (Good.cons mayHp_good (Good.cons roomH_good (Good.cons word_good (Good.cons unp_good Good.nil)))) GoodI.nil (eqOK_none fun _=>rfl)).sound (cx:=k14) Tryz.func22 (by kernel_rfl) (by kernel_rfl) rfl (by kernel_rfl)) fun h a hp β K=>by
  have hp0:=hp
  simp only [Bool.and_eq_true] at hp
  obtain ⟨hs,hls⟩:=hp
  have e:(⟨h.w,h.p,⟨h.f.a,h.f.b,h.f.c⟩,h.c⟩:Hp)=h:=rfl
  refine (r14 h a β K).trans ?_
  simp only [decI_map,decP_map,decBs_enc,Option.bind_some,e,hp0,cond_true]
  unfold headE
  cases hm:mayHpV h [] with
  | false=>rfl
  | true=>
   simp only [Bool.not_true,cond_false,Nat.ble_eq_true_of_le (smH_le hs).2.1,cond_true]
   rw [roomN]
   cases hr:decide (roomA h.p a>0) with
   | false=>rfl
   | true=>
    obtain ⟨g1,g2⟩:=room_in (of_decide_eq_true hr)
    obtain ⟨q1,_⟩:=shaped_in hs (shaped_of hm) g1 g2
    simp only [Bool.not_true,cond_false,q1,cond_true]
    show (bif !(unpX h a).a then _ else _)=_
    cases (unpX h a).a <;> rfl
end Go.Ab

namespace Go.Ab
open Go
set_option maxRecDepth 100000
open Go.Proofs
end Go.Ab

namespace Go.Ab
open Go
set_option maxRecDepth 100000
open Go.Proofs
abbrev z28:List CV:=[.own 1 [],.own 2 [],.own 1 [],.own 1 [],.own 1 [],.own 1 []]
def loE (i:Nat):Int:=((i+1:Nat):Int)*16
def hitE (h:Hp) (i:Nat):Bool:=match h.p[i]? with
 | some p=>p.1==1&&(((partOut h.f p.2 (loE i) (loE i+16)).length:Int)==cellsN p.2)
 | none=>false
end Go.Ab

namespace Go.Ab
open Go
set_option maxRecDepth 100000
open Go.Proofs
def decW (w p a b c d:List (List CV)):Option Hp:=(decI w).bind fun w=>(decP p).bind fun p=>(decI a).bind fun a=>(decI b).bind fun b=>(decI c).bind fun c=>(decBs d).bind fun d=>some ⟨w,p,⟨a,b,c⟩,d⟩
theorem decW_enc (h:Hp):decW (encI h.w) (h.p.map encP) (encI h.f.a) (encI h.f.b) (encI h.f.c) (encBs h.c)=some h:=by
 simp [decW]
theorem decW_ok {w p a b c d:List (List CV)} {h:Hp} (e:decW w p a b c d=some h):w=encI h.w/\p=h.p.map encP/\a=encI h.f.a/\b=encI h.f.b/\c=encI h.f.c/\d=encBs h.c:=by
 unfold decW at e
 replace e:=bind_some' e
 obtain ⟨w',h1,e⟩:=e
 replace e:=bind_some' e
 obtain ⟨p',h2,e⟩:=e
 replace e:=bind_some' e
 obtain ⟨a',h3,e⟩:=e
 replace e:=bind_some' e
 obtain ⟨b',h4,e⟩:=e
 replace e:=bind_some' e
 obtain ⟨c',h5,e⟩:=e
 replace e:=bind_some' e
 obtain ⟨d',h6,e⟩:=e
 cases e
 exact ⟨decI_enc h1,decP_enc h2,decI_enc h3,decI_enc h4,decI_enc h5,decBs_ok h6⟩
end Go.Ab

namespace Go.Ab
open Go
set_option maxRecDepth 100000
open Go.Proofs
def app3 (f l:Ls):Ls:=⟨f.a++l.a,f.b++l.b,f.c++l.c⟩
def Hp.z:Hp:=⟨[],[],⟨[],[],[]⟩,[]⟩
theorem shaped_ne {h:Hp} (hs:shapedE h=true):may h.p=true/\h.p.isEmpty=false/\h.c.isEmpty=false:=by
 simp only [shapedE,Bool.and_eq_true] at hs
 obtain ⟨_,h2,h3,h4⟩:=hs
 obtain ⟨h5,_⟩:=may_len h2
 have h3:=Nat.eq_of_beq_eq_true h3
 have h4:=Nat.eq_of_beq_eq_true h4
 refine ⟨h2,?_,?_⟩
 ·cases hp:h.p with
  | nil=>rw [hp] at h5;simp at h5
  | cons _ _=>rfl
 ·cases hc:h.c with
  | nil=>rw [hc] at h4;simp at h4;omega
  | cons _ _=>rfl
theorem smL_len {l:Ls} (h1:l.a.length<=100000) (h2:l.b.length<=100000) (h3:l.c.length<=100000):smL l=true:=by
 simp only [smL,Nat.ble_eq_true_of_le h1,Nat.ble_eq_true_of_le h2,Nat.ble_eq_true_of_le h3,Bool.and_self]
end Go.Ab

namespace Go.Ab
open Go
set_option maxRecDepth 100000
open Go.Proofs
theorem cell_facts {ps:List Pg} {a:Int} (h:roomA ps a>0):may ps=true/\16<=a/\(a / 16 - 1).toNat<ps.length/\(((a / 16 - 1).toNat:Nat):Int)=a / 16 - 1/\∃ p,ps[(a / 16 - 1).toNat]? = some p/\ps.getD (a / 16 - 1).toNat (0,0)=p/\
  ((p.1=2/\a % 16=0/\roomA ps a=16*p.2/\1<=p.2/\p.2<=4/\(a / 16 - 1).toNat+p.2.toNat<=ps.length)\/(p.1=1/\0<=p.2/\p.2<=2/\(a % 16) % wordsOf p.2=0/\roomA ps a=wordsOf p.2)):=by
 have hd:=roomA_doc ps a
 cases hm:may ps with
 | false=>rw [hm] at hd;simp at hd;omega
 | true=>
  by_cases h1:16<=a
  ·by_cases h2:a<16+16*(ps.length:Int)
   ·rw [hm,decide_eq_true h1,decide_eq_true h2,Bool.and_self,Bool.and_self,cond_true] at hd
    have hi:(a / 16 - 1).toNat<ps.length:=by omega
    have hp:ps[(a / 16 - 1).toNat]? = some (ps[(a / 16 - 1).toNat]):=by simp [hi]
    have hg:ps.getD (a / 16 - 1).toNat (0,0)=ps[(a / 16 - 1).toNat]:=by rw [List.getD_eq_getElem?_getD,hp];rfl
    refine ⟨rfl,h1,hi,by omega,_,hp,hg,?_⟩
    rw [hg] at hd
    obtain ⟨g1,g2,g3⟩:=may_go hm
    have hok:=okPg_of g1 _ (List.getElem_mem hi)
    have hr:(((a % 16).toNat:Nat):Int)=a % 16:=by omega
    have hrun:=fun b=>may_run hm (i:=(a / 16 - 1).toNat) (b:=b)
    rw [hp] at hrun
    generalize ps[(a / 16 - 1).toNat]=p at*
    obtain ⟨k,c⟩:=p
    rw [hd] at h ⊢
    unfold cellAt at h ⊢
    simp only at h hok ⊢
    by_cases k2:k=2
    ·subst k2
     by_cases hr0:(a % 16).toNat=0
     ·refine .inl ⟨rfl,by omega,by simp [hr0],?_⟩
      obtain ⟨q1,q2,q3⟩:=hrun c rfl
      exact ⟨q1,q2,q3⟩
     ·rw [beq_eq_false_iff_ne.2 hr0] at h
      exact absurd h (by simp)
    ·by_cases k1:k=1
     ·subst k1
      have hc:0<=c/\c<=2:=by
       rcases hok with h | h | h | h
       ·simp at h
       ·simp at h
       ·exact ⟨h.2.1,h.2.2⟩
       ·simp at h
      by_cases hz:a % 16 % wordsOf c=0
      ·exact .inr ⟨rfl,hc.1,hc.2,hz,by simp [hr,hz]⟩
      ·rw [hr,beq_eq_false_iff_ne.2 hz] at h
       exact absurd h (by simp)
     ·rw [beq_eq_false_iff_ne.2 k1,beq_eq_false_iff_ne.2 k2] at h
      exact absurd h (by simp)
   ·rw [decide_eq_false h2] at hd;simp at hd;omega
  ·rw [decide_eq_false h1] at hd;simp at hd;omega
theorem words_val {c:Int} (h0:0<=c) (h2:c<=2):(c=0/\wordsOf c=2)\/(c=1/\wordsOf c=4)\/(c=2/\wordsOf c=8):=by
 have:c=0\/c=1\/c=2:=by omega
 rcases this with rfl | rfl | rfl
 ·exact .inl ⟨rfl,rfl⟩
 ·exact .inr (.inl ⟨rfl,rfl⟩)
 ·exact .inr (.inr ⟨rfl,rfl⟩)
theorem cell_end {ps:List Pg} {a:Int} (h:roomA ps a>0):a - 16+roomA ps a<=16*(ps.length:Int):=by
 obtain ⟨_,h1,h2,h3,p,_,_,h4⟩:=cell_facts h
 rcases h4 with ⟨_,g1,g2,g3,g4,g5⟩ | ⟨_,g1,g2,g3,g4⟩
 ·rw [g2];omega
 ·rw [g4]
  rcases words_val g1 g2 with ⟨_,e⟩ | ⟨_,e⟩ | ⟨_,e⟩ <;> rw [e] at g3 ⊢ <;> omega
theorem head_ok {h:Hp} {a:Int} (he:((headE h a).2 != 0)=false):mayHpV h []=true/\roomA h.p a>0/\(unpX h a).a=true/\headE h a=(unpX h a,0):=by
 unfold headE at he ⊢
 cases hm:mayHpV h [] with
 | false=>rw [hm] at he;cases he
 | true=>
  cases hr:roomA h.p a==0 with
  | true=>rw [hm,hr] at he;cases he
  | false=>
   cases hu:(unpX h a).a with
   | false=>rw [hm,hr,hu] at he;cases he
   | true=>
    have:=roomN h.p a
    rw [hr] at this
    refine ⟨rfl,?_,rfl,rfl⟩
    cases hd:decide (roomA h.p a>0) with
    | true=>exact of_decide_eq_true hd
    | false=>rw [hd] at this;cases this
end Go.Ab

namespace Go.Ab
open Go
set_option maxRecDepth 100000
open Go.Proofs
noncomputable abbrev k22:Cx:=cxG Pr Tryz.f41 []
theorem r22 (l:Ls) (β:Type) (K:CV->List (List CV)->Option β):fnK k22 Tryz.f41 [cLs.enc l] [] K=
 bif decide ((↑(List.length (encI (Ls.a l))):Int)<=70) then
 bif decide ((↑(List.length (encI (Ls.b l))):Int)<=70) then
 K (CV.bool (decide ((↑(List.length (encI (Ls.c l))):Int)<=70))) []
 else K (CV.bool false) []
 else K (CV.bool false) []:=by kernel_rfl
def lightV (l:Ls):Bool:=decide ((l.a.length:Int)<=70)&&(decide ((l.b.length:Int)<=70)&&decide ((l.c.length:Int)<=70))
def gLight:Callee:=g1 cLs (fun _=>true) fun l=>cB.enc (lightV l)
noncomputable abbrev k21:Cx:=cxG Pr Tryz.f58 [(41,gLight)]
theorem r21 (h:Hp) (β:Type) (K:CV->List (List CV)->Option β):fnK k21 Tryz.f58 [cHp.enc h] [] K=
 bif decide ((↑(List.length (encI (Hp.w h))):Int)<=130) then
 bif decide ((↑(List.length (List.map encP (Hp.p h))):Int)<=9) then
 bif decide ((↑(List.length (encBs (Hp.c h))):Int)<=20) then
 Option.bind (Option.bind (decI (encI (Ls.a (Hp.f h)))) fun a=>
 Option.bind (decI (encI (Ls.b (Hp.f h)))) fun b=>
 Option.bind (decI (encI (Ls.c (Hp.f h)))) fun c=>some {a:=a,b:=b,c:=c}) fun a=>K (CV.bool (lightV a)) []
 else K (CV.bool false) []
 else K (CV.bool false) []
 else K (CV.bool false) []:=by kernel_rfl
def fewH (h:Hp):Bool:=decide ((h.w.length:Int)<=130)&&(decide ((h.p.length:Int)<=9)&&(decide ((h.c.length:Int)<=20)&&lightV h.f))
def gFewH:Callee:=g1 cHp (fun _=>true) fun h=>cB.enc (fewH h)
theorem light_good:GoodC Pr 41 gLight:=
 good1 ((CxOK.baseG Good.nil GoodI.nil (eqOK_none fun _=>rfl)).sound (cx:=k22) Tryz.func41 (by kernel_rfl) (by kernel_rfl) rfl (by kernel_rfl)) fun l _ β K=>by
  rw [r22]
  simp only [encI_len]
  unfold lightV
  cases decide ((l.a.length:Int)<=70) <;> cases decide ((l.b.length:Int)<=70) <;> rfl
theorem fewH_good:GoodC Pr 58 gFewH:=
 good1 ((CxOK.baseG (Good.cons light_good Good.nil) GoodI.nil (eqOK_none fun _=>rfl)).sound (cx:=k21) Tryz.func58 (by kernel_rfl) (by kernel_rfl) rfl (by kernel_rfl)) fun h _ β K=>by
  rw [r21]
  simp only [encI_len,List.length_map,encBs_len,decI_map,Option.bind_some]
  unfold fewH
  cases decide ((h.w.length:Int)<=130) <;> cases decide ((h.p.length:Int)<=9) <;> cases decide ((h.c.length:Int)<=20) <;> rfl
end Go.Ab

namespace Go.Ab
open Go
set_option maxRecDepth 100000
open Go.Proofs
structure WM where
 h:Hp
 ks:List Int
def cWm:CodB WM where
 enc:=fun s=>[encHp s.h,[.mpo s.ks]]
 dec:=fun c=>match c with
  | [[.sl 1 w,.sl 2 p,.sl 1 a,.sl 1 b,.sl 1 c,.sl 1 d],[.mpo ks]]=>(decW w p a b c d).bind fun h=>some ⟨h,ks⟩
  | _=>none
 ok:=fun c s e=>by
  split at e
  ·replace e:=bind_some' e
   obtain ⟨h,h1,e⟩:=e
   cases e
   obtain ⟨rfl,rfl,rfl,rfl,rfl,rfl⟩:=decW_ok h1
   rfl
  ·cases e
 de:=fun s=>by
  show (decW _ _ _ _ _ _).bind _=_
  rw [decW_enc];rfl
noncomputable abbrev k12a:Cx:=cxG Pr Tryz.f42 [(20,gMayHp),(102,gAllI),(68,gAllC),(67,gEvery)] [] (fun q=>Nat.beq q 15)
abbrev p12:=[false,true,false,true,true,true]
abbrev o12:Exit->List Nat:=fun _=>[2,5]
theorem t12 (h:Hp) (ks xs:List Int) (n i:Int) (m:Nat) (β:Type) (K:Exit->List CV->List (List CV)->Option β):loopB k12a [2,5,18,19,20] o12 p12 (bodyL (bodyOf Tryz.f42) p12) (m+1) [.ref 0,.ref 1,cOI.enc xs,cI.enc n,cI.enc i] (cWm.enc ⟨h,ks⟩) K=
 bif decide (i<n) then
 if 0<=i/\i<(↑(List.length (encI xs)):Int) then
 Option.bind (encI xs)[Int.toNat i]? fun e=>
 Option.bind e[0]? fun x=>
 Option.bind (asI IntKind.i64 x) fun n_1=>loopB k12a [2,5,18,19,20] o12 [false,true,false,true,true,true] (bodyL (bodyOf Tryz.f42) p12) m [CV.ref 0,CV.ref 1,CV.own 1 (encI xs),CV.int IntKind.i64 n,CV.int IntKind.i64 (IntKind.wrap IntKind.i64 (i+1))] [[CV.sl 1 (encI (Hp.w h)),CV.sl 2 (List.map encP (Hp.p h)),CV.sl 1 (encI (Ls.a (Hp.f h))),CV.sl 1 (encI (Ls.b (Hp.f h))),CV.sl 1 (encI (Ls.c (Hp.f h))),CV.sl 1 (encBs (Hp.c h))],[CV.mpo (insK ks n_1)]] fun a a_1 a_2=>K a a_1 a_2
 else none
 else
 K (Exit.exit 0) [CV.ref 0,CV.ref 1] [[CV.sl 1 (encI (Hp.w h)),CV.sl 2 (List.map encP (Hp.p h)),CV.sl 1 (encI (Ls.a (Hp.f h))),CV.sl 1 (encI (Ls.b (Hp.f h))),CV.sl 1 (encI (Ls.c (Hp.f h))),CV.sl 1 (encBs (Hp.c h))],[CV.mpo ks]]:=by kernel_rfl
theorem insK_contains (ks:List Int) (n a:Int):(insK ks n).contains a=(ks.contains a || a==n):=by
 unfold insK
 cases h:ks.contains n with
 | false=>rw [cond_false,Bool.eq_iff_iff];simp
 | true=>
  rw [cond_true]
  by_cases e:a=n
  ·subst e;rw [h];rfl
  ·rw [beq_eq_false_iff_ne.2 e,Bool.or_false]
theorem fold_contains (a:Int):∀ (xs ks:List Int),(xs.foldl insK ks).contains a=(ks.contains a || xs.contains a)
 | [],ks=>by simp
 | x::xs,ks=>by
  rw [List.foldl_cons,fold_contains a xs,insK_contains,List.contains_cons,Bool.or_assoc]
theorem whole_loop (h:Hp) (xs:List Int) (hx:xs.length<=4000000000) (β:Type) (K:Exit->List CV->List (List CV)->Option β):∀ (m i:Nat) (ks:List Int),i+m=xs.length->
  loopB k12a [2,5,18,19,20] o12 p12 (bodyL (bodyOf Tryz.f42) p12) (m+1) [.ref 0,.ref 1,cOI.enc xs,cI.enc (xs.length:Int),cI.enc (i:Int)] (cWm.enc ⟨h,ks⟩) K=K (.exit 0) [.ref 0,.ref 1] (cWm.enc ⟨h,(xs.drop i).foldl insK ks⟩):=by
 intro m
 induction m with
 | zero=>
  intro i ks h1
  rw [t12,decide_eq_false (by omega),cond_false,List.drop_eq_nil_of_le (by omega)]
  rfl
 | succ m ih=>
  intro i ks h1
  have hii:i<xs.length:=by omega
  have hin:(0:Int)<=(i:Int)/\(i:Int)<((List.length (encI xs):Nat):Int):=by rw [encI_len];omega
  have e1:(encI xs)[(i:Int).toNat]? = some [CV.int .i64 xs[i]]:=by simp [encI,hii]
  have w1:IntKind.i64.wrap ((i:Int)+1)=((i+1:Nat):Int):=by rw [wrap_in (by omega)];omega
  rw [t12,decide_eq_true (by omega),cond_true,List.drop_eq_getElem_cons hii,List.foldl_cons]
  simp only [if_pos hin,e1,Option.bind_some,zero_get,asI_i,w1]
  exact ih (i+1) (insK ks xs[i]) (by omega)
def L12:LoopSem:=l5 [2,5,18,19,20] o12 (cRef 0) (cRef 1) cOI cI cI cWm (fun _ _ xs n i s=>Nat.ble xs.length 4000000000&&(i==0&&(n==(xs.length:Int)&&s.ks.isEmpty))) fun _ _ xs _ _ s => .one (.exit 0) [.ref 0,.ref 1] (cWm.enc ⟨s.h,xs.foldl insK []⟩)
noncomputable abbrev k12:Cx:=k12a.loop p12 L12
theorem k12_ok:CxOK k12 [(20,gMayHp),(102,gAllI),(68,gAllC),(67,gEvery)]:=by
 refine CxOK.loop5 (CxOK.baseG (Good.cons mayHp_good (Good.cons catI_good (Good.cons allCG_good (Good.cons every_good Good.nil)))) GoodI.nil (eqOK_none fun _=>rfl)) rfl fun a b xs n i s hp => ?_
 obtain ⟨h,ks⟩:=s
 simp only [Bool.and_eq_true,beq_iff_eq,List.isEmpty_iff] at hp
 obtain ⟨hx,rfl,rfl,hks⟩:=hp
 have hks:ks=[]:=hks
 subst hks
 refine ⟨xs.length+1,fun β K => ?_⟩
 have:=whole_loop h xs (Nat.le_of_ble_eq_true hx) β K xs.length 0 [] (by omega)
 rw [List.drop_zero] at this
 exact this
theorem r12 (h:Hp) (ls:List Ls) (β:Type) (K:CV->List (List CV)->Option β):fnK k12 Tryz.f42 [cHp.enc h,cLss.enc ls] [] K=
 Option.bind (Option.bind (decI (encI (Hp.w h))) fun w=>
 Option.bind (decP (List.map encP (Hp.p h))) fun p=>
 Option.bind (decI (encI (Ls.a (Hp.f h)))) fun a=>
 Option.bind (decI (encI (Ls.b (Hp.f h)))) fun b=>
 Option.bind (decI (encI (Ls.c (Hp.f h)))) fun c=>
 Option.bind (decBs (encBs (Hp.c h))) fun d=>some {w:=w,p:=p,f:={a:=a,b:=b,c:=c},c:=d}) fun a=>
 Option.bind (decLs (List.map encLs ls)) fun b=>
 bif smH a&&smLs (Hp.f a::b) then
 bif !mayHpV a b then K (CV.bool false) []
 else
 if List.length ([[CV.sl 1 (encI (Ls.a (Hp.f h))),CV.sl 1 (encI (Ls.b (Hp.f h))),CV.sl 1 (encI (Ls.c (Hp.f h)))]]++List.map encLs ls)<=LIM then
 Option.bind (decLs ([CV.sl 1 (encI (Ls.a (Hp.f h))),CV.sl 1 (encI (Ls.b (Hp.f h))),CV.sl 1 (encI (Ls.c (Hp.f h)))]::List.append [] (List.map encLs ls))) fun a=>
 bif smLs a then
 Option.bind (decI (encI (catI a))) fun c=>
 Option.bind (Option.bind (decW (encI (Hp.w h)) (List.map encP (Hp.p h)) (encI (Ls.a (Hp.f h))) (encI (Ls.b (Hp.f h))) (encI (Ls.c (Hp.f h))) (encBs (Hp.c h))) fun h=>some {h:=h,ks:=[]}) fun u=>
 bif Nat.ble (List.length c) 4000000000&&((↑(List.length (encI (catI a))):Int)==(↑(List.length c):Int)&&List.isEmpty (WM.ks u)) then
 Option.bind (decP (List.map encP (Hp.p (WM.h u)))) fun ps=>
 bif Nat.ble (List.length ps) 200 then
 Option.bind (decI (atV (allCs ps))) fun a=>
 Option.bind (Clo.dec (CV.fn 103 [] [CV.pc [CV.sl 1 (encI (Hp.w (WM.h u))),CV.sl 2 (List.map encP (Hp.p (WM.h u))),CV.sl 1 (encI (Ls.a (Hp.f (WM.h u)))),CV.sl 1 (encI (Ls.b (Hp.f (WM.h u)))),CV.sl 1 (encI (Ls.c (Hp.f (WM.h u)))),CV.sl 1 (encBs (Hp.c (WM.h u)))] 0,CV.pc [CV.mp (List.foldl insK [] c)] 0])) fun b=>
 bif List.all a (Clo.pre b)&&Nat.ble (List.length a) 100000 then
 K (CV.bool (List.all a (Clo.val b))) []
 else none
 else none
 else none
 else none
 else none
 else none:=by kernel_rfl
def wholeHV (h:Hp) (ls:List Ls):Bool:=mayHpV h ls&&(cellAs h.p).all fun a=>bif wordE h a != 0 then true else (catI (h.f::ls)).contains a
def gWhole:Callee:=g2 cHp cLss (fun h ls=>smH h&&smLs (h.f::ls)) fun h ls=>cB.enc (wholeHV h ls)
theorem wholeV_all (h:Hp) (xs:List Int):∀ l:List Int,l.all (Clo.whole h (xs.foldl insK [])).val=l.all fun a=>bif wordE h a != 0 then true else xs.contains a:=fun l=>by
 congr 1
 funext a
 show wholeV h (xs.foldl insK []) a=_
 unfold wholeV
 rw [fold_contains]
 simp
theorem whole_good:GoodC Pr 42 gWhole:=
 good2 (k12_ok.sound (cx:=k12) Tryz.func42 (by kernel_rfl) (by kernel_rfl) rfl (by kernel_rfl)) fun h ls hp β K=>by
  simp only [Bool.and_eq_true] at hp
  obtain ⟨hs,hls⟩:=hp
  obtain ⟨h1,h2⟩:=smLs_le hls
  have hL:=lim_val
  have e:(⟨h.w,h.p,⟨h.f.a,h.f.b,h.f.c⟩,h.c⟩:Hp)=h:=rfl
  have hss:=smH_le hs
  have hcl:=catI_len h2
  have dw:decW (encI h.w) (h.p.map encP) (encI h.f.a) (encI h.f.b) (encI h.f.c) (encBs h.c)=some h:=decW_enc h
  rw [r12]
  simp only [decI_map,decP_map,decBs_enc,decLs_map,Option.bind_some,e,hs,hls,Bool.and_self,cond_true]
  unfold wholeHV
  cases hm:mayHpV h ls with
  | false=>rfl
  | true=>
   have hsh:=shaped_of hm
   have hc8:(cellAs h.p).length<=100000:=by
    have:=Nat.le_of_ble_eq_true (all_len8 (ps:=h.p) (Nat.ble_eq_true_of_le (smH_le hs).2.1))
    have e2:(cellAs h.p).length=((allCs h.p).map (·.1)).length:=rfl
    omega
   have hpre:(cellAs h.p).all (Clo.whole h ((catI (h.f::ls)).foldl insK [])).pre=true:=by
    have:=cells_pre hs hsh
    rw [List.all_eq_true] at this ⊢
    intro a ha
    have h3:(inW h a&&inP h a)=true:=this a ha
    simp only [Bool.and_eq_true] at h3
    exact h3.1
   rw [Bool.not_true,cond_false,if_pos (by simp at h1 ⊢;omega)]
   simp only [de_ls,Option.bind_some,hls,cond_true,dw,encI_len,Nat.ble_eq_true_of_le (show (catI (h.f::ls)).length<=4000000000 by omega),beq_self_eq_true,List.isEmpty_nil,Bool.and_self,
    Nat.ble_eq_true_of_le (smH_le hs).2.1,atV_enc,cellAs_dec,de_whole,hpre,Nat.ble_eq_true_of_le hc8,wholeV_all,Bool.true_and]
   rfl
end Go.Ab

namespace Go.Ab
open Go
set_option maxRecDepth 100000
open Go.Proofs
def hA:Hp:=⟨[0,0,0,0,0,0,0,0,41,0,0,0,0,0,0,0],[(1,2)],⟨[],[],[16]⟩,[false,false]⟩
def hB:Hp:=⟨[0,0,0,0,0,0,0,0,0,0,0,0,0,0,0,0],[(0,0)],⟨[],[],[]⟩,[false,false]⟩
end Go.Ab

namespace Go.Ab
open Go
set_option maxRecDepth 100000
open Go.Proofs
theorem pig:∀ (n:Nat) (L:List Nat),L.Nodup->(∀ x∈L,x<n)->L.length<=n
 | 0,L,_,h=>by
  cases L with
  | nil=>exact Nat.le_refl _
  | cons x _=>exact absurd (h x (by simp)) (by omega)
 | n+1,L,hn,h=>by
  by_cases hm:n∈L
  ·have h1:=pig n (L.erase n) (hn.erase n) fun x hx=>by
    obtain ⟨h2,h3⟩:=hn.mem_erase_iff.1 hx
    have:=h x h3
    omega
   rw [List.length_erase_of_mem hm] at h1
   omega
  ·have:=pig n L hn fun x hx=>by
    have h2:=h x hx
    have:x≠n:=fun e=>hm (e ▸ hx)
    omega
   omega
theorem apartV_iff (ls:List Ls):apartV ls=true↔(catI ls).Nodup:=by
 have hp:=List.mergeSort_perm (catI ls) fun x y=>decide (x<=y)
 have hs:=List.pairwise_mergeSort (le:=fun x y:Int=>decide (x<=y)) (fun a b c h1 h2=>decide_eq_true (Int.le_trans (of_decide_eq_true h1) (of_decide_eq_true h2))) (fun a b=>by
  simp only [Bool.or_eq_true,decide_eq_true_eq];omega) (catI ls)
 rw [<- hp.nodup_iff]
 unfold apartV
 rw [Nat.beq_eq,<- sortI_len (catI ls)]
 change _ at hs
 have hs:List.Pairwise (fun a b:Int=>decide (a<=b)=true) (sortI (catI ls)):=hs
 show _↔(sortI (catI ls)).Nodup
 generalize sortI (catI ls)=zs at hs
 unfold Lib.compact Lib.compactUpTo
 rw [List.length_map]
 have h1:((List.range zs.length).filter (Lib.keeps zs.toArray)).length=zs.length↔∀ a∈List.range zs.length,Lib.keeps zs.toArray a=true:=by
  rw [<- List.length_filter_eq_length_iff,List.length_range]
 rw [h1,List.nodup_iff_pairwise_ne,List.pairwise_iff_getElem]
 rw [List.pairwise_iff_getElem] at hs
 have gz:∀ j (hj:j<zs.length),zs.toArray[j]! = zs[j]:=fun j hj=>by simp [hj]
 constructor
 ·intro h
  have adj:∀ j (hj:j+1<zs.length),zs[j]<zs[j+1]:=fun j hj=>by
   have h2:=h (j+1) (by simp;omega)
   simp only [Lib.keeps,decide_eq_true_eq] at h2
   rcases h2 with h2 | h2
   ·omega
   ·rw [gz (j+1) hj,show j+1 - 1=j from rfl,gz j (by omega)] at h2
    have h3:=of_decide_eq_true (hs j (j+1) (by omega) hj (by omega))
    omega
  have lt:∀ (d i:Nat) (hj:i+d+1<zs.length),zs[i]<zs[i+d+1]:=fun d=>by
   induction d with
   | zero=>intro i hj;exact adj i hj
   | succ d ih=>
    intro i hj
    have h2:=ih i (by omega)
    have h3:=adj (i+d+1) (by omega)
    have:zs[i+(d+1)+1]=zs[i+d+1+1]:=rfl
    omega
  intro i j hi hj hij
  have:=lt (j - i - 1) i (by omega)
  have e:i+(j - i - 1)+1=j:=by omega
  simp only [e] at this
  omega
 ·intro h a ha
  have ha:a<zs.length:=by simpa using ha
  simp only [Lib.keeps,decide_eq_true_eq]
  cases a with
  | zero=>exact .inl rfl
  | succ a=>
   refine .inr ?_
   rw [gz (a+1) ha,show a+1 - 1=a from rfl,gz a (by omega)]
   exact (h a (a+1) (by omega) ha (by omega)).symm
theorem get_set {l:Ls} {x:List Int} {k k':Nat} (hk:k<3) (hk':k'<3):(l.set x k').get k=if k=k' then x else l.get k:=by
 have h1:k=0\/k=1\/k=2:=by omega
 have h2:k'=0\/k'=1\/k'=2:=by omega
 rcases h1 with rfl | rfl | rfl <;> rcases h2 with rfl | rfl | rfl <;> rfl
def clsE (h:Hp) (j:Nat):Nat:=((h.p.getD j (0,0)).2).toNat
def rem (h:Hp) (m k:Nat) (x:Int):Bool:=(List.range m).any fun j=>hitE h j&&(Nat.beq (clsE h j) k&&inR (loE j) (loE j+16) x)
theorem inR_iff {j:Nat} {x:Int}:inR (loE j) (loE j+16) x=true↔x / 16 - 1=(j:Int):=by
 unfold inR loE
 by_cases h1:x>=((j+1:Nat):Int)*16
 ·rw [decide_eq_true h1,cond_true,decide_eq_true_eq];omega
 ·rw [decide_eq_false h1,cond_false]
  constructor
  ·intro h;cases h
  ·intro h;omega
theorem hit_small {h:Hp} {j:Nat} (hh:hitE h j=true):∃ c,h.p[j]? = some (1,c)/\(((partOut h.f c (loE j) (loE j+16)).length:Nat):Int)=cellsN c:=by
 unfold hitE at hh
 cases hp:h.p[j]? with
 | none=>rw [hp] at hh;cases hh
 | some p=>
  obtain ⟨k,c⟩:=p
  rw [hp] at hh
  simp only [Bool.and_eq_true,beq_iff_eq] at hh
  obtain ⟨rfl,h2⟩:=hh
  exact ⟨c,rfl,h2⟩
end Go.Ab

namespace Go.Ab
open Go
set_option maxRecDepth 100000
open Go.Proofs
theorem listed_iff {h:Hp} {l:Ls}:listedV h l=true↔∀ k,k<3->∀ e∈l.get k,listV h k e=true:=by
 unfold listedV
 simp only [Bool.and_eq_true,List.all_eq_true]
 constructor
 ·rintro ⟨h1,h2,h3⟩ k hk e he
  have:k=0\/k=1\/k=2:=by omega
  rcases this with rfl | rfl | rfl
  ·exact h1 e he
  ·exact h2 e he
  ·exact h3 e he
 ·intro hh
  exact ⟨fun e he=>hh 0 (by omega) e he,fun e he=>hh 1 (by omega) e he,fun e he=>hh 2 (by omega) e he⟩
theorem listV_facts {h:Hp} {k e:Int} (hl:listV h k e=true):roomA h.p e>0/\pageE h e=(1,k)/\wordE h e=0:=by
 unfold listV at hl
 simp only [Bool.and_eq_true,decide_eq_true_eq,beq_iff_eq] at hl
 obtain ⟨h1,⟨h2,h3⟩,h4⟩:=hl
 exact ⟨h1,Prod.ext h2 h3,h4⟩
theorem listV_at {h:Hp} {k e:Int} (hl:listV h k e=true):∃ j:Nat,e / 16 - 1=(j:Int)/\h.p[j]? = some (1,k)/\0<=k/\k<=2/\(e % 16) % wordsOf k=0:=by
 obtain ⟨h1,h2,_⟩:=listV_facts hl
 obtain ⟨_,f1,f2,f3,p,f4,f5,f6⟩:=cell_facts h1
 have hp:p=(1,k):=f5.symm.trans h2
 subst hp
 refine ⟨(e / 16 - 1).toNat,f3.symm,f4,?_⟩
 rcases f6 with ⟨g,_⟩ | ⟨_,g1,g2,g3,_⟩
 ·cases g
 ·exact ⟨g1,g2,g3⟩
theorem cellsN_nonneg (k:Int):0<=cellsN k:=by
 unfold cellsN
 split
 ·exact Int.le_refl _
 ·refine Int.ediv_nonneg (by omega) ?_
  unfold wordsOf
  repeat' split
  all_goals omega
theorem count_le {h:Hp} {k:Int} {j:Nat} {L:List Int} (hn:L.Nodup) (hl:∀ e∈L,listV h k e=true/\e / 16 - 1=(j:Int)):(L.length:Int)<=cellsN k:=by
 cases hL:L with
 | nil=>exact cellsN_nonneg k
 | cons e0 r=>
  rw [<- hL]
  obtain ⟨_,_,_,k0,k2,_⟩:=listV_at (hl e0 (by rw [hL];simp)).1
  obtain ⟨w,hw,hc,hw2⟩:∃ w:Int,wordsOf k=w/\cellsN k=16 / w/\(w=2\/w=4\/w=8):=by
   rcases words_val k0 k2 with ⟨rfl,e⟩ | ⟨rfl,e⟩ | ⟨rfl,e⟩
   ·exact ⟨2,e,rfl,.inl rfl⟩
   ·exact ⟨4,e,rfl,.inr (.inl rfl)⟩
   ·exact ⟨8,e,rfl,.inr (.inr rfl)⟩
  have hf:∀ e∈L,e % 16 % w=0/\e / 16 - 1=(j:Int):=fun e he=>by
   obtain ⟨g1,g2⟩:=hl e he
   obtain ⟨_,_,_,_,_,g3⟩:=listV_at g1
   rw [hw] at g3
   exact ⟨g3,g2⟩
  have h1:=pig (16 / w).toNat (L.map fun e=>(e % 16 / w).toNat) (by
   rw [List.nodup_iff_pairwise_ne] at hn ⊢
   rw [List.pairwise_map]
   refine List.Pairwise.imp_of_mem (fun {x y} hx hy hxy => ?_) hn
   obtain ⟨a1,a2⟩:=hf x hx
   obtain ⟨b1,b2⟩:=hf y hy
   intro hq
   apply hxy
   rcases hw2 with rfl | rfl | rfl <;> omega) (fun x hx=>by
   obtain ⟨e,he,rfl⟩:=List.mem_map.1 hx
   obtain ⟨a1,a2⟩:=hf e he
   rcases hw2 with rfl | rfl | rfl <;> omega)
  rw [List.length_map] at h1
  rw [hc]
  rcases hw2 with rfl | rfl | rfl <;> omega
theorem app3_get (f l:Ls):∀ k,(app3 f l).get k=f.get k++l.get k
 | 0=>rfl
 | 1=>rfl
 | _+2=>rfl
theorem get_sub (l:Ls):∀ k,(l.get k).Sublist (one3 l)
 | 0=>by
  show l.a.Sublist (l.a++l.b++l.c)
  rw [List.append_assoc];exact List.sublist_append_left _ _
 | 1=>by
  show l.b.Sublist (l.a++l.b++l.c)
  exact (List.sublist_append_right _ _).trans (List.sublist_append_left _ _)
 | _+2=>List.sublist_append_right _ _
theorem swp (x y z:List Int):(x++(y++z)).Perm (y++(x++z)):=by
 rw [<- List.append_assoc,<- List.append_assoc]
 exact List.Perm.append_right z List.perm_append_comm
structure MayF (h:Hp) (ls:List Ls):Prop where
 sh:shapedE h=true
 li:∀ l∈h.f::ls,listedV h l=true
 ce:∀ c∈cellAs h.p,mayV h c=true
 nd:(catI (h.f::ls)).Nodup
theorem mayF_iff {h:Hp} {ls:List Ls}:mayHpV h ls=true↔MayF h ls:=by
 unfold mayHpV
 simp only [Bool.and_eq_true,List.all_eq_true,apartV_iff]
 exact ⟨fun ⟨a,b,c,d⟩=>⟨a,b,c,d⟩,fun ⟨a,b,c,d⟩=>⟨a,b,c,d⟩⟩
theorem partOut_eq (f:Ls) (c:Int) (j:Nat):partOut f c (loE j) (loE j+16)=(f.get c.toNat).filter (inR (loE j) (loE j+16)):=rfl
end Go.Ab

namespace Go.Ab
open Go
set_option maxRecDepth 100000
open Go.Proofs
theorem one3_mem {l:Ls} {e:Int}:e∈one3 l↔∃ k,k<3/\e∈l.get k:=by
 show e∈l.a++l.b++l.c↔_
 simp only [List.mem_append]
 constructor
 ·rintro ((h | h) | h)
  ·exact ⟨0,by omega,h⟩
  ·exact ⟨1,by omega,h⟩
  ·exact ⟨2,by omega,h⟩
 ·rintro ⟨k,hk,h⟩
  have:k=0\/k=1\/k=2:=by omega
  rcases this with rfl | rfl | rfl
  ·exact .inl (.inl h)
  ·exact .inl (.inr h)
  ·exact .inr h
theorem catI_cons (l:Ls) (ls:List Ls):catI (l::ls)=one3 l++catI ls:=rfl
abbrev addF (h:Hp) (a:Ls):Hp:={h with f:=app3 h.f a}
theorem same_at {h x:Hp} {e:Int} (hw:x.w=h.w) (hl:x.p.length=h.p.length) (hm:may x.p=may h.p) (hp:x.p[(e / 16 - 1).toNat]? = h.p[(e / 16 - 1).toNat]?):roomA x.p e=roomA h.p e/\pageE x e=pageE h e/\wordE x e=wordE h e:=by
 have hg:x.p.getD (e / 16 - 1).toNat (0,0)=h.p.getD (e / 16 - 1).toNat (0,0):=by rw [List.getD_eq_getElem?_getD,List.getD_eq_getElem?_getD,hp]
 refine ⟨?_,hg,?_⟩
 ·rw [roomA_doc,roomA_doc,hm,hl,hg]
 ·unfold wordE;rw [hw]
section
variable {h:Hp} {a:Ls} {ls:List Ls}
theorem MayF.alone (hm:MayF h (a::ls)) {l:Ls} (hl:l∈ls) {k:Nat} (hk:k<3) {e:Int} (he:e∈l.get k) {j:Nat} (hj:e / 16 - 1=(j:Int)):hitE (addF h a) j=false:=by
 cases hh:hitE (addF h a) j with
 | false=>rfl
 | true=>
  exfalso
  obtain ⟨c,hc,hlen⟩:=hit_small hh
  have hle:=listed_iff.1 (hm.li l (by simp [hl])) k hk e he
  obtain ⟨j',hj',hp',_⟩:=listV_at hle
  have:j'=j:=by omega
  subst this
  have hck:c=(k:Int):=by
   have hc':h.p[j']? = some (1,c):=hc
   rw [hc'] at hp'
   injection hp' with hp'
   exact (Prod.mk.inj hp').2
  subst hck
  have hpo:partOut (addF h a).f (k:Int) (loE j') (loE j'+16)=(h.f.get k++a.get k).filter (inR (loE j') (loE j'+16)):=by
   rw [partOut_eq,Int.toNat_natCast]
   show ((app3 h.f a).get k).filter _=_
   rw [app3_get]
  rw [hpo] at hlen
  have hnd:=hm.nd
  rw [catI_cons,catI_cons] at hnd
  have hsub:(h.f.get k++a.get k).Sublist (one3 h.f++one3 a):=(get_sub _ _).append (get_sub _ _)
  rw [<- List.append_assoc] at hnd
  obtain ⟨n1,_,n3⟩:=List.nodup_append.1 hnd
  have hmem:e∈catI ls:=List.mem_flatMap.2 ⟨l,hl,one3_mem.2 ⟨k,hk,he⟩⟩
  have hLn:(e::(h.f.get k++a.get k).filter (inR (loE j') (loE j'+16))).Nodup:=by
   rw [List.nodup_cons]
   refine ⟨fun hin => ?_,(n1.sublist hsub).sublist List.filter_sublist⟩
   exact n3 e (hsub.subset ((List.mem_filter.1 hin).1)) e hmem rfl
  have:=count_le (h:=h) (k:=(k:Int)) (j:=j') hLn fun x hx=>by
   rcases List.mem_cons.1 hx with rfl | hx
   ·exact ⟨hle,hj⟩
   ·obtain ⟨h1,h2⟩:=List.mem_filter.1 hx
    refine ⟨?_,inR_iff.1 h2⟩
    rcases List.mem_append.1 h1 with h1 | h1
    ·exact listed_iff.1 (hm.li h.f (by simp)) k hk x h1
    ·exact listed_iff.1 (hm.li a (by simp)) k hk x h1
  simp only [List.length_cons] at this
  omega
end
theorem MayF.one {h:Hp} {a:Ls} {ls:List Ls} (hm:MayF h (a::ls)):MayF h [a]:=by
 refine ⟨hm.sh,fun l hl=>hm.li l (by simp only [List.mem_cons,List.not_mem_nil,or_false] at hl ⊢;rcases hl with h | h <;> simp [h]),hm.ce,?_⟩
 have hnd:=hm.nd
 rw [catI_cons,catI_cons] at hnd ⊢
 refine hnd.sublist (List.Sublist.append (List.Sublist.refl _) (List.Sublist.append (List.Sublist.refl _) ?_))
 exact List.nil_sublist _
end Go.Ab

namespace Go.Ab
open Go
set_option maxRecDepth 100000
open Go.Proofs
section
variable {h:Hp} {a b:Ls}
end
end Go.Ab

namespace Go.Ab
open Go
set_option maxRecDepth 100000
open Go.Proofs
theorem eat_tails:∀ (k:Nat) (ps rest:List Pg),eat k ps=some rest->∀ j,j<k->ps[j]? = some (3,0)
 | 0,_,_,_,_,h=>absurd h (by omega)
 | _+1,[],_,e,_,_=>by cases e
 | k+1,(x,y)::ps,rest,e,j,h=>by
  have e:cond (x==3&&(y==0&&true)) (eat k ps) none=some rest:=e
  cases hq:(x==3&&(y==0&&true)) with
  | false=>rw [hq] at e;cases e
  | true=>
   rw [hq] at e
   simp only [Bool.and_eq_true,beq_iff_eq,and_true] at hq
   cases j with
   | zero=>rw [hq.1,hq.2];rfl
   | succ j=>simpa using eat_tails k ps rest e j (by omega)
theorem large_drop {ps:List Pg} {i:Nat} {n:Int} (hm:may ps=true) (hi:ps[i]? = some (2,n)):1<=n/\i+n.toNat<=ps.length/\(∀ j,i<j->j<i+n.toNat->ps[j]? = some (3,0))/\
  (dropE ps (i:Int)).2.length=ps.length/\may (dropE ps (i:Int)).2=true/\∀ j,(dropE ps (i:Int)).2[j]? = if i<=j/\j<i+n.toNat then some (0,0) else ps[j]? := by
 obtain ⟨b1,b4,hlen⟩:=may_run hm hi
 have h0:=may_go0 hm
 obtain ⟨_,_,rest,he,hr⟩:=mayGo_at h0 hi
 obtain ⟨hr1,hr2⟩:=eat_len _ _ _ he
 have ht:=eat_tails _ _ _ he
 obtain ⟨hlt,hg⟩:=List.getElem?_eq_some_iff.1 hi
 have htail:∀ j,i<j->j<i+n.toNat->ps[j]? = some (3,0):=fun j h1 h2=>by
  have:=ht (j - (i+1)) (by omega)
  rw [List.getElem?_drop,show i+1+(j - (i+1))=j by omega] at this
  exact this
 have hXl:(ps.take i).length=i:=by simp;omega
 have hZ:rest=ps.drop (i+n.toNat):=by
  rw [hr1,List.drop_drop]
  congr 1;omega
 have hY:ps.drop i=(2,n)::ps.drop (i+1):=by
  rw [List.drop_eq_getElem_cons hlt,hg]
 have hYs:(ps.drop i).take n.toNat=(2,n)::(ps.drop (i+1)).take (n.toNat - 1):=by
  rw [hY,show n.toNat=(n.toNat - 1)+1 by omega]
  rfl
 have hYl:((ps.drop i).take n.toNat).length=n.toNat:=by simp;omega
 have e1:ps=ps.take i++(ps.drop i).take n.toNat++ps.drop (i+n.toNat):=by
  rw [List.append_assoc,<- List.drop_drop,List.take_append_drop,List.take_append_drop]
 have h1:=drop_parts (X:=ps.take i) (Y:=(ps.drop i).take n.toNat) (Z:=ps.drop (i+n.toNat)) (p:=(2,n)) hYs (.inr rfl) (by rw [hYl];show n=_;omega) (by rw [<- e1];exact hm)
 rw [<- e1,hXl,hYl] at h1
 have hX:mayGo 0 (ps.take i)=some 0:=by
  have e2:ps=ps.take i++(2,n)::ps.drop (i+1):=by rw [<- hY,List.take_append_drop]
  rw [e2,mayGo_append] at h0
  replace h0:=bind_some' h0
  obtain ⟨r1,h0,h2⟩:=h0
  have h3:(cond (!(cond (decide (n>=1)) (decide (n<=4)) false)) none (cond (decide (r1>0)) none (mayGo (n - 1) (ps.drop (i+1)))))=some 0:=h2
  have hr1:¬ r1>0:=fun hq=>by
   rw [decide_eq_true hq] at h3
   cases hq2:(!(cond (decide (n>=1)) (decide (n<=4)) false)) with
   | true=>rw [hq2] at h3;cases h3
   | false=>rw [hq2] at h3;cases h3
  have:=mayGo_nonneg (Int.le_refl 0) h0
  have:r1=0:=by omega
  subst this
  exact h0
 obtain ⟨l1,l2⟩:=may_len hm
 have hdl:(ps.take i++List.replicate n.toNat (0,0)++ps.drop (i+n.toNat)).length=ps.length:=by simp;omega
 refine ⟨b1,hlen,htail,?_,?_,fun j => ?_⟩
 ·rw [h1];exact hdl
 ·rw [h1]
  refine go_may (by rw [hdl];exact l1) (by rw [hdl];exact l2) ?_
  exact mayGo_join hX (mayGo_zeros _) (by rw [<- hZ];exact hr)
 ·rw [h1]
  show (ps.take i++List.replicate n.toNat (0,0)++ps.drop (i+n.toNat))[j]? = _
  by_cases g1:j<i
  ·rw [if_neg (by omega),List.append_assoc,List.getElem?_append_left (by omega),List.getElem?_take_of_lt g1]
  ·by_cases g2:j<i+n.toNat
   ·rw [if_pos ⟨by omega,g2⟩,List.getElem?_append_left (by simp;omega),List.getElem?_append_right (by omega),List.getElem?_replicate,if_pos (by omega)]
   ·rw [if_neg (by omega),List.getElem?_append_right (by simp;omega),List.getElem?_drop]
    congr 1
    simp;omega
theorem cells_apart {ps:List Pg} {a e:Int} (ha:roomA ps a>0) (he:roomA ps e>0) (hne:e≠a):e<a\/a+roomA ps a<=e:=by
 obtain ⟨hm,a1,a2,a3,p,a4,_,a6⟩:=cell_facts ha
 obtain ⟨_,e1,e2,e3,q,e4,_,e6⟩:=cell_facts he
 rcases a6 with ⟨k2,k3,k4,k5,k6,k7⟩ | ⟨k1,k2,k3,k4,k5⟩
 ·obtain ⟨p1,n⟩:=p
  have k2:p1=2:=k2
  subst k2
  obtain ⟨_,_,ht,_⟩:=large_drop hm a4
  by_cases h1:e<a
  ·exact .inl h1
  ·by_cases h2:a+roomA ps a<=e
   ·exact .inr h2
   ·exfalso
    rw [k4] at h2
    have k4':roomA ps a=16*n:=k4
    by_cases h3:(e / 16 - 1).toNat=(a / 16 - 1).toNat
    ·rw [h3,a4] at e4
     injection e4 with e4
     subst e4
     rcases e6 with ⟨_,g,_⟩ | ⟨g,_⟩
     ·omega
     ·cases g
    ·have h2':¬ a+16*n<=e:=h2
     have:=ht (e / 16 - 1).toNat (by omega) (by omega)
     rw [e4] at this
     injection this with this
     subst this
     rcases e6 with ⟨g,_⟩ | ⟨g,_⟩ <;> cases g
 ·by_cases h1:e<a
  ·exact .inl h1
  ·right
   rw [k5]
   by_cases h3:(e / 16 - 1).toNat=(a / 16 - 1).toNat
   ·rw [h3,a4] at e4
    injection e4 with e4
    subst e4
    rcases e6 with ⟨g,_⟩ | ⟨_,_,_,g,_⟩
    ·rw [k1] at g;cases g
    ·rcases words_val k2 k3 with ⟨_,w⟩ | ⟨_,w⟩ | ⟨_,w⟩ <;> rw [w] at k4 g ⊢ <;> omega
   ·rcases words_val k2 k3 with ⟨_,w⟩ | ⟨_,w⟩ | ⟨_,w⟩ <;> rw [w] at k4 ⊢ <;> omega
theorem zero_len {w:List Int} {a n:Int} (h16:16<=a) (hn:0<=n) (hl:a - 16+n<=(w.length:Int)):(zeroW w a n).length=w.length:=by
 unfold zeroW
 exact splice_len _ _ _ (by simp;omega)
theorem zero_get' {w:List Int} {a n:Int} (h16:16<=a) (hn:0<=n) (hl:a - 16+n<=(w.length:Int)) (j:Nat):(zeroW w a n)[j]? = if (a - 16<=(j:Int)/\(j:Int)<a - 16+n) then some 0 else w[j]? := by
 unfold zeroW splice
 rw [List.length_replicate]
 have ht:(w.take (a - 16).toNat).length=(a - 16).toNat:=by simp;omega
 by_cases g1:j<(a - 16).toNat
 ·rw [if_neg (by omega),List.append_assoc,List.getElem?_append_left (by omega),List.getElem?_take_of_lt g1]
 ·by_cases g2:j<(a - 16).toNat+n.toNat
  ·rw [if_pos (by omega),List.getElem?_append_left (by simp;omega),List.getElem?_append_right (by omega),List.getElem?_replicate,if_pos (by omega)]
  ·rw [if_neg (by omega),List.getElem?_append_right (by simp;omega),List.getElem?_drop]
   congr 1
   simp;omega
end Go.Ab

namespace Go.Ab
open Go
set_option maxRecDepth 100000
open Go.Proofs
abbrev zeroH (h:Hp) (a:Int):Hp:={h with w:=zeroW h.w a (roomA h.p a)}
def oneL (c a:Int):Ls:=(⟨[],[],[]⟩:Ls).set [a] c.toNat
theorem oneL_get {c a:Int} (h0:0<=c) (h2:c<=2) {k:Nat} (hk:k<3):(oneL c a).get k=if (k:Int)=c then [a] else []:=by
 unfold oneL
 rw [get_set hk (by omega)]
 by_cases h:k=c.toNat
 ·rw [if_pos h,if_pos (by omega)]
 ·rw [if_neg h,if_neg (by omega)]
  have:k=0\/k=1\/k=2:=by omega
  rcases this with rfl | rfl | rfl <;> rfl
theorem shaped_w {h:Hp} (hs:shapedE h=true):h.w.length=16*h.p.length:=by
 simp only [shapedE,Bool.and_eq_true] at hs
 exact Nat.eq_of_beq_eq_true hs.2.2.1
theorem zero_in {h:Hp} {a:Int} (hs:shapedE h=true) (hr:roomA h.p a>0):16<=a/\0<=roomA h.p a/\a - 16+roomA h.p a<=(h.w.length:Int):=by
 have h1:=(room_in hr).1
 have h2:=cell_end hr
 have h3:=shaped_w hs
 omega
theorem word_zero {h:Hp} {a:Int} (hs:shapedE h=true) (hr:roomA h.p a>0) {e:Int} (h16:16<=e):wordE (zeroH h a) e=if a<=e/\e<a+roomA h.p a then 0 else wordE h e:=by
 obtain ⟨z1,z2,z3⟩:=zero_in hs hr
 unfold wordE
 rw [List.getD_eq_getElem?_getD,List.getD_eq_getElem?_getD]
 show ((zeroW h.w a (roomA h.p a))[(e - 16).toNat]?).getD 0=_
 rw [zero_get' z1 z2 z3]
 by_cases g:a<=e/\e<a+roomA h.p a
 ·rw [if_pos g,if_pos (by omega)];rfl
 ·rw [if_neg g,if_neg (by omega)]
theorem word_keep {h:Hp} {a e:Int} (hs:shapedE h=true) (hr:roomA h.p a>0) (he:roomA h.p e>0) (hne:e≠a):wordE (zeroH h a) e=wordE h e:=by
 rw [word_zero hs hr (room_in he).1,if_neg]
 intro g
 rcases cells_apart hr he hne with g2 | g2 <;> omega
theorem word_gone {h:Hp} {a:Int} (hs:shapedE h=true) (hr:roomA h.p a>0):wordE (zeroH h a) a=0:=by
 rw [word_zero hs hr (room_in hr).1,if_pos (by omega)]
theorem cell_mem {ps:List Pg} {e:Int}:e∈cellAs ps↔roomA ps e>0:=by
 have h1:=room_pos ps e
 constructor
 ·intro h
  rw [decide_eq_true (show e∈(allCs ps).map (·.1) from h)] at h1
  exact of_decide_eq_true h1
 ·intro h
  rw [decide_eq_true h] at h1
  exact of_decide_eq_true h1.symm
theorem shaped_zero {h:Hp} {a:Int} (hs:shapedE h=true) (hr:roomA h.p a>0):shapedE (zeroH h a)=true:=by
 obtain ⟨z1,z2,z3⟩:=zero_in hs hr
 have hl:=zero_len (w:=h.w) z1 z2 z3
 unfold shapedE at hs ⊢
 show (mayA (zeroW h.w a (roomA h.p a)).length&&(may h.p&&(Nat.beq (zeroW h.w a (roomA h.p a)).length (16*h.p.length)&&Nat.beq h.c.length ((zeroW h.w a (roomA h.p a)).length / 8))))=true
 rw [hl];exact hs
theorem MayF.zero {h:Hp} {ls:List Ls} (hm:MayF h ls) {a c:Int} (hr:roomA h.p a>0) (hp:pageE h a=(1,c)) (hc0:0<=c) (hc2:c<=2) (hw:wordE h a≠0):MayF (zeroH h a) (oneL c a::ls):=by
 have hk:∀ k:Nat,k<3->∀ l∈h.f::ls,∀ e∈l.get k,e≠a:=fun k hk l hl e he h1=>by
  subst h1
  exact hw (listV_facts (listed_iff.1 (hm.li l hl) k hk e he)).2.2
 have hlv:∀ l∈h.f::ls,listedV (zeroH h a) l=true:=fun l hl=>listed_iff.2 fun k hk' e he=>by
  have h1:=listed_iff.1 (hm.li l hl) k hk' e he
  have h2:=word_keep hm.sh hr (listV_facts h1).1 (hk k hk' l hl e he)
  unfold listV at h1 ⊢
  rw [h2];exact h1
 refine ⟨shaped_zero hm.sh hr,fun l hl => ?_,fun e he => ?_,?_⟩
 ·rcases List.mem_cons.1 hl with rfl | hl
  ·exact hlv h.f (by simp)
  ·rcases List.mem_cons.1 hl with rfl | hl
   ·refine listed_iff.2 fun k hk' e he => ?_
    rw [oneL_get hc0 hc2 hk'] at he
    by_cases hkc:(k:Int)=c
    ·rw [if_pos hkc] at he
     have he:=List.mem_singleton.1 he
     subst he
     unfold listV
     rw [word_gone hm.sh hr]
     show (decide (roomA h.p e>0)&&(((pageE h e).1==1&&(pageE h e).2==(k:Int))&&(0:Int)==0))=true
     rw [decide_eq_true hr,hp,hkc]
     simp
    ·rw [if_neg hkc] at he;cases he
   ·exact hlv l (by simp [hl])
 ·have he':roomA h.p e>0:=cell_mem.1 he
  by_cases h1:e=a
  ·subst h1
   unfold mayV
   rw [word_gone hm.sh hr]
   show (unpOK 0&&bif (unp 0).a then fitsE (pageE h e) (unp 0).x else (pageE h e).1==1)=true
   rw [hp];rfl
  ·have:=hm.ce e (cell_mem.2 he')
   unfold mayV at this ⊢
   rw [word_keep hm.sh hr he' h1];exact this
 ·have hnd:=hm.nd
  rw [catI_cons] at hnd
  show (catI (h.f::oneL c a::ls)).Nodup
  rw [catI_cons,catI_cons]
  have ho:one3 (oneL c a)=[a]:=by
   have:c=0\/c=1\/c=2:=by omega
   rcases this with rfl | rfl | rfl <;> rfl
  rw [ho]
  have hp2:(one3 h.f++([a]++catI ls)).Perm ([a]++(one3 h.f++catI ls)):=swp _ _ _
  rw [hp2.nodup_iff,List.singleton_append,List.nodup_cons]
  refine ⟨fun hin => ?_,hnd⟩
  rcases List.mem_append.1 hin with hin | hin
  ·obtain ⟨k,hk',he⟩:=one3_mem.1 hin
   exact hk k hk' h.f (by simp) a he rfl
  ·obtain ⟨l,hl,he⟩:=List.mem_flatMap.1 hin
   obtain ⟨k,hk',he⟩:=one3_mem.1 he
   exact hk k hk' l (by simp [hl]) a he rfl
def Ls.e:Ls:=⟨[],[],[]⟩
theorem MayF.nil {h:Hp} {ls:List Ls} (hm:MayF h ls):MayF h (Ls.e::ls):=by
 refine ⟨hm.sh,fun l hl => ?_,hm.ce,?_⟩
 ·rcases List.mem_cons.1 hl with rfl | hl
  ·exact hm.li _ (by simp)
  ·rcases List.mem_cons.1 hl with rfl | hl
   ·rfl
   ·exact hm.li l (by simp [hl])
 ·have hnd:=hm.nd
  rw [catI_cons] at hnd ⊢
  exact hnd
structure Gone (h x:Hp) (D:Nat->Bool):Prop where
 w:x.w=h.w
 c:x.c=h.c
 m:may x.p=true
 l:x.p.length=h.p.length
 p:∀ j,x.p[j]? = if D j=true then some (0,0) else h.p[j]?
 f:∀ k,k<3->x.f.get k=(h.f.get k).filter fun e => !D (e / 16 - 1).toNat
theorem Gone.same {h x:Hp} {D:Nat->Bool} (g:Gone h x D) (hm:may h.p=true) {e:Int} (hd:D (e / 16 - 1).toNat=false):roomA x.p e=roomA h.p e/\pageE x e=pageE h e/\wordE x e=wordE h e:=
 same_at g.w g.l (by rw [g.m,hm]) (by rw [g.p,if_neg (by rw [hd];simp)])
theorem Gone.cell {h x:Hp} {D:Nat->Bool} (g:Gone h x D) {e:Int} (he:roomA x.p e>0):D (e / 16 - 1).toNat=false:=by
 cases hd:D (e / 16 - 1).toNat with
 | false=>rfl
 | true=>
  obtain ⟨_,_,_,_,p,g4,_,g6⟩:=cell_facts he
  rw [g.p,if_pos hd] at g4
  cases g4
  rcases g6 with ⟨k2,_⟩ | ⟨k1,_⟩
  ·cases k2
  ·cases k1
theorem MayF.gone {h x:Hp} {D:Nat->Bool} {ls:List Ls} (hm:MayF h ls) (g:Gone h x D) (hal:∀ l∈ls,∀ k,k<3->∀ e∈l.get k,D (e / 16 - 1).toNat=false):MayF x ls:=by
 obtain ⟨q1,_,_⟩:=shaped_ne hm.sh
 have hlist:∀ (k:Nat) (e:Int),listV h k e=true->D (e / 16 - 1).toNat=false->listV x k e=true:=fun k e hl hd=>by
  obtain ⟨r1,r2,r3⟩:=g.same q1 hd
  unfold listV at hl ⊢
  rw [r1,r2,r3];exact hl
 refine ⟨?_,fun l hl=>listed_iff.2 fun k hk e he => ?_,fun c hc => ?_,?_⟩
 ·have h1:=hm.sh
  unfold shapedE at h1 ⊢
  rw [g.w,g.c,g.l,g.m]
  rw [q1] at h1;exact h1
 ·rcases List.mem_cons.1 hl with rfl | hl
  ·rw [g.f k hk] at he
   obtain ⟨h1,h2⟩:=List.mem_filter.1 he
   exact hlist k e (listed_iff.1 (hm.li h.f (by simp)) k hk e h1) (by simpa using h2)
  ·exact hlist k e (listed_iff.1 (hm.li l (by simp [hl])) k hk e he) (hal l hl k hk e he)
 ·have h1:=cell_mem.1 hc
  have hd:=g.cell h1
  obtain ⟨r1,r2,r3⟩:=g.same q1 hd
  have:=hm.ce c (cell_mem.2 (by rw [<- r1];exact h1))
  unfold mayV at this ⊢
  rw [r2,r3];exact this
 ·have hnd:=hm.nd
  rw [catI_cons] at hnd ⊢
  have hg:∀ k,k<3->(x.f.get k).Sublist (h.f.get k):=fun k hk=>by
   rw [g.f k hk];exact List.filter_sublist
  have hsub:(one3 x.f).Sublist (one3 h.f):=((hg 0 (by omega)).append (hg 1 (by omega))).append (hg 2 (by omega))
  exact hnd.sublist (hsub.append (List.Sublist.refl _))
theorem MayF.words {x:Hp} {ls:List Ls} (hm:MayF x ls) {w:List Int} (hl:w.length=x.w.length) (hw:∀ e,roomA x.p e>0->wordE {x with w:=w} e=wordE x e):MayF {x with w:=w} ls:=by
 refine ⟨?_,fun l hl=>listed_iff.2 fun k hk e he => ?_,fun e he => ?_,hm.nd⟩
 ·have:=hm.sh
  unfold shapedE at this ⊢
  show (mayA w.length&&(may x.p&&(Nat.beq w.length (16*x.p.length)&&Nat.beq x.c.length (w.length / 8))))=true
  rw [hl];exact this
 ·have h1:=listed_iff.1 (hm.li l hl) k hk e he
  have:=hw e (listV_facts h1).1
  unfold listV at h1 ⊢
  rw [this];exact h1
 ·have h1:=hm.ce e he
  have:=hw e (cell_mem.1 he)
  unfold mayV at h1 ⊢
  rw [this];exact h1
end Go.Ab

namespace Go.Ab
open Go
set_option maxRecDepth 100000
open Go.Proofs
structure Obj (h:Hp) (a:Int):Prop where
 r:roomA h.p a>0
 u:(unpX h a).a=true
theorem unp_zero:(bif unpOK 0 then unp 0 else Hd.z0).a=false:=by rfl
theorem Obj.w {h:Hp} {a:Int} (o:Obj h a):wordE h a≠0:=fun e=>by
 have:=o.u
 unfold unpX at this
 rw [e,unp_zero] at this
 cases this
end Go.Ab

namespace Go.Ab
open Go
set_option maxRecDepth 100000
open Go.Proofs
section
variable {h:Hp} {a b:Int}
end
end Go.Ab

namespace Go.Ab
open Go
set_option maxRecDepth 100000
theorem nodup_le:∀ {l U:List Int},l.Nodup->(∀ a∈l,a∈U)->l.length<=U.length
 | [],U,_,_=>Nat.zero_le _
 | a::l,U,hn,hs=>by
  have ha:=hs a (by simp)
  obtain ⟨h1,h2⟩:=List.nodup_cons.1 hn
  have:=nodup_le (l:=l) (U:=U.erase a) h2 fun b hb=>(List.mem_erase_of_ne fun e=>h1 (by rw [<- e];exact hb)).2 (hs b (by simp [hb]))
  rw [List.length_erase_of_mem ha] at this
  have:=List.length_pos_of_mem ha
  simp only [List.length_cons];omega
def reachGo (F:Int->List Int):Nat->List Int->List Int->List Int
 | 0,_,all=>all
 | n+1,next,all=>bif next.isEmpty then all else
  bif next.getD (next.length - 1) 0==0 || all.contains (next.getD (next.length - 1) 0) then reachGo F n (next.take (next.length - 1)) all
  else reachGo F n (next.take (next.length - 1)++F (next.getD (next.length - 1) 0)) (all++[next.getD (next.length - 1) 0])
structure Reached (F:Int->List Int) (next all R:List Int):Prop where
 nd:R.Nodup
 nz:∀ a∈R,a≠0
 al:∀ a∈all,a∈R
 nx:∀ a∈next,a=0\/a∈R
 cl:∀ a∈R,∀ v∈F a,v=0\/v∈R
 least:∀ S:Int->Prop,(∀ a∈all,S a)->(∀ a∈next,a≠0->S a)->(∀ a,S a->∀ v∈F a,v≠0->S v)->∀ a∈R,S a
theorem reachGo_ok {F:Int->List Int} {U:List Int} (hF:∀ a,∀ v∈F a,v∈U) (hl:∀ a,(F a).length<=63):∀ (n:Nat) (next all:List Int),all.Nodup->(∀ a∈all,a≠0/\a∈U)->(∀ a∈next,a∈U)->
  (∀ a∈all,∀ v∈F a,v=0\/v∈all\/v∈next)->(U.length - all.length)*64+next.length<=n->Reached F next all (reachGo F n next all)
 | n,next,all,hn,ha,hx,hc,hm=>by
  rcases List.eq_nil_or_concat next with rfl | ⟨r,a,rfl⟩
  ·have e:reachGo F n [] all=all:=by cases n <;> rfl
   rw [e]
   exact ⟨hn,fun a h=>(ha a h).1,fun a h=>h,(by simp),fun a h v hv=>(by have:=hc a h v hv;simpa using this),fun S h1 h2 h3 a h=>h1 a h⟩
  ·have hl1:(r++[a]).length=r.length+1:=by simp
   obtain ⟨m,rfl⟩:∃ m,n=m+1:=⟨n - 1,by simp only [List.length_append,List.length_cons,List.length_nil,List.concat_eq_append] at hm;omega⟩
   rw [List.concat_eq_append] at*
   have eg:(r++[a]).getD ((r++[a]).length - 1) 0=a:=by simp
   have et:(r++[a]).take ((r++[a]).length - 1)=r:=by simp
   unfold reachGo
   rw [eg,et,show (r++[a]).isEmpty=false by simp,cond_false]
   simp only [List.length_append,List.length_cons,List.length_nil] at hm
   cases hb:(a==0 || all.contains a) with
   | true=>
    rw [cond_true]
    have hb':a=0\/a∈all:=by simpa using hb
    have h:=reachGo_ok hF hl m r all hn ha (fun x hx'=>hx x (by simp [hx'])) (fun x hx' v hv=>by
     rcases hc x hx' v hv with h | h | h
     ·exact .inl h
     ·exact .inr (.inl h)
     ·rcases List.mem_append.1 h with h | h
      ·exact .inr (.inr h)
      ·simp at h;subst h;rcases hb' with h | h
       ·exact .inl h
       ·exact .inr (.inl h)) (by omega)
    refine ⟨h.nd,h.nz,h.al,fun x hx' => ?_,h.cl,fun S h1 h2 h3=>h.least S h1 (fun x hx'=>h2 x (by simp [hx'])) h3⟩
    rcases List.mem_append.1 hx' with hx' | hx'
    ·exact h.nx x hx'
    ·simp at hx';subst hx';exact hb'.imp id (h.al x)
   | false=>
    rw [cond_false]
    have hb':a≠0/\a∉all:=by simpa using hb
    have hu:a∈U:=hx a (by simp)
    have hnd:(all++[a]).Nodup:=by
     rw [List.nodup_append]
     exact ⟨hn,by simp,fun x hx y hy e=>by simp at hy;rw [e,hy] at hx;exact hb'.2 hx⟩
    have hle:=nodup_le hnd (U:=U) fun x hx'=>by
     rcases List.mem_append.1 hx' with hx' | hx'
     ·exact (ha x hx').2
     ·simp at hx';subst hx';exact hu
    simp only [List.length_append,List.length_cons,List.length_nil] at hle
    have hfa:=hl a
    have h:=reachGo_ok hF hl m (r++F a) (all++[a]) hnd (fun x hx'=>by
     rcases List.mem_append.1 hx' with hx' | hx'
     ·exact ha x hx'
     ·simp at hx';subst hx';exact ⟨hb'.1,hu⟩) (fun x hx'=>by
     rcases List.mem_append.1 hx' with hx' | hx'
     ·exact hx x (by simp [hx'])
     ·exact hF a x hx') (fun x hx' v hv=>by
     rcases List.mem_append.1 hx' with hx' | hx'
     ·rcases hc x hx' v hv with h | h | h
      ·exact .inl h
      ·exact .inr (.inl (by simp [h]))
      ·rcases List.mem_append.1 h with h | h
       ·exact .inr (.inr (by simp [h]))
       ·exact .inr (.inl (by simp at h;simp [h]))
     ·simp at hx';subst hx';exact .inr (.inr (by simp [hv]))) (by simp only [List.length_append,List.length_cons,List.length_nil];omega)
    refine ⟨h.nd,h.nz,fun x hx'=>h.al x (by simp [hx']),fun x hx' => ?_,h.cl,fun S h1 h2 h3 => ?_⟩
    ·rcases List.mem_append.1 hx' with hx' | hx'
     ·exact h.nx x (by simp [hx'])
     ·simp at hx';subst hx';exact .inr (h.al x (by simp))
    ·have sa:S a:=h2 a (by simp) hb'.1
     refine h.least S (fun x hx' => ?_) (fun x hx' hz => ?_) h3
     ·rcases List.mem_append.1 hx' with hx' | hx'
      ·exact h1 x hx'
      ·simp at hx';subst hx';exact sa
     ·rcases List.mem_append.1 hx' with hx' | hx'
      ·exact h2 x (by simp [hx']) hz
      ·exact h3 a sa x hx' hz
end Go.Ab

namespace Go.Ab
open Go
set_option maxRecDepth 100000
open Go.Proofs
theorem ofE_fits {n c:Int} (h:ofE n=(c,0)) (h3:c≠3):n+1<=wordsOf c:=by
 unfold ofE at h
 by_cases h1:n<1
 ·rw [decide_eq_true h1] at h;cases h
 ·by_cases h2:n>63
  ·rw [decide_eq_false h1,decide_eq_true h2] at h;cases h
  ·rw [decide_eq_false h1,decide_eq_false h2,cond_false,cond_false] at h
   by_cases g1:n>7
   ·rw [decide_eq_true g1] at h;cases h;exact absurd rfl h3
   ·rw [decide_eq_false g1,cond_false] at h
    by_cases g2:n>3
    ·rw [decide_eq_true g2] at h;cases h;show n+1<=8;omega
    ·rw [decide_eq_false g2,cond_false] at h
     by_cases g3:n>1
     ·rw [decide_eq_true g3] at h;cases h;show n+1<=4;omega
     ·rw [decide_eq_false g3] at h;cases h;show n+1<=2;omega
theorem head_fits {h:Hp} {a:Int} (he:((headE h a).2 != 0)=false):16<=a/\0<=(headE h a).1.x/\(headE h a).1.x<=63/\(headE h a).1.x+1<=roomA h.p a/\a - 16+((headE h a).1.x+1)<=(h.w.length:Int):=by
 obtain ⟨hm,hr,ha,hx⟩:=head_ok he
 have hF:=mayF_iff.1 hm
 obtain ⟨z1,z2,z3⟩:=zero_in hF.sh hr
 have hc:=hF.ce a (cell_mem.2 hr)
 rw [hx]
 unfold mayV at hc
 simp only [Bool.and_eq_true] at hc
 obtain ⟨hu,hc⟩:=hc
 have ux:unpX h a=unp (wordE h a):=by unfold unpX;rw [hu];rfl
 rw [ux] at ha
 rw [ha,cond_true] at hc
 have hmay:mayH (unp (wordE h a))=true:=by
  unfold unpOK at hu
  exact (Bool.and_eq_true_iff.1 hu).1
 unfold mayH at hmay
 rw [ha] at hmay
 simp only [Bool.not_true,cond_false,Bool.and_eq_true,inS,decide_eq_true_eq] at hmay
 rw [ux]
 obtain ⟨⟨h0,h63⟩,_⟩:=hmay
 suffices (unp (wordE h a)).x+1<=roomA h.p a by
  refine ⟨z1,h0,h63,this,?_⟩
  show a - 16+((unp (wordE h a)).x+1)<=_
  omega
 generalize (unp (wordE h a)).x=n at*
 have hd:=roomA_doc h.p a
 have ep:h.p.getD (a / 16 - 1).toNat (0,0)=pageE h a:=rfl
 rw [ep] at hd
 cases hg:(may h.p&&decide (16<=a)&&decide (a<16+16*(h.p.length:Int))) with
 | false=>rw [hg,cond_false] at hd;omega
 | true=>
  rw [hg,cond_true] at hd
  generalize pageE h a=p at*
  obtain ⟨k,q⟩:=p
  unfold cellAt at hd
  unfold fitsE at hc
  by_cases h2:k=2
  ·subst h2
   have e2:((2:Int)==2)=true:=rfl
   have e1:((2:Int)==1)=false:=rfl
   simp only [e2,e1,Bool.true_and,Bool.false_and,cond_true,cond_false,Bool.and_eq_true,beq_iff_eq] at hd hc
   obtain ⟨c1,c2⟩:=hc
   unfold runE at c1 c2
   cases ho:((ofE n).2 != 0) with
   | true=>rw [ho] at c1;rw [cond_true] at c1;rw [c1] at ho;cases ho
   | false=>
    rw [ho,cond_false] at c1 c2
    cases hl:decide ((ofE n).1<3) with
    | true=>rw [hl] at c1;cases c1
    | false=>
     rw [hl,cond_false] at c2
     have w1:Int.tdiv n 16=n / 16:=by rw [Int.tdiv_eq_ediv_of_nonneg h0]
     rw [w1,wrap_in (a:=n / 16) (by omega),wrap_in (by omega)] at c2
     have c2':n / 16+1=q:=c2
     cases hz:((a % 16).toNat==0) with
     | true=>rw [hz,cond_true] at hd;omega
     | false=>rw [hz,cond_false] at hd;omega
  ·have e2:(k==2)=false:=beq_eq_false_iff_ne.2 h2
   simp only [e2,Bool.false_and,cond_false,Bool.and_eq_true,beq_iff_eq] at hd hc
   cases h1:(k==1&&(((a % 16).toNat:Int) % wordsOf q==0)) with
   | false=>rw [h1,cond_false] at hd;omega
   | true=>
    rw [h1,cond_true] at hd
    rw [hd]
    refine ofE_fits (Prod.ext hc.2 hc.1) fun e => ?_
    subst e
    have:wordsOf 3=0:=rfl
    omega
def fieldsE (h:Hp) (a:Int):List Int:=bif (headE h a).2 != 0 then [] else subl h.w (a+1 - 16).toNat (headE h a).1.x.toNat
theorem fields_in {h:Hp} {a v:Int} (hv:v∈fieldsE h a):v∈h.w:=by
 unfold fieldsE at hv
 cases he:((headE h a).2 != 0) with
 | true=>rw [he] at hv;cases hv
 | false=>rw [he,cond_false] at hv;exact List.mem_of_mem_drop (List.mem_of_mem_take hv)
theorem fields_len (h:Hp) (a:Int):(fieldsE h a).length<=63:=by
 unfold fieldsE
 cases he:((headE h a).2 != 0) with
 | true=>exact Nat.zero_le _
 | false=>
  have:=(head_fits he).2.2.1
  rw [cond_false]
  have:=List.length_take_le (headE h a).1.x.toNat (h.w.drop (a+1 - 16).toNat)
  show (List.take _ _).length<=63
  omega
theorem fields_get {h:Hp} {a:Int} (he:((headE h a).2 != 0)=false) {f:Int} (h1:1<=f) (h2:f<=(headE h a).1.x):∃ v,h.w[(a+f - 16).toNat]? = some v/\v∈fieldsE h a:=by
 obtain ⟨a1,a2,a3,a4,a5⟩:=head_fits he
 have hl:(a+f - 16).toNat<h.w.length:=by omega
 refine ⟨h.w[(a+f - 16).toNat],List.getElem?_eq_getElem hl,?_⟩
 unfold fieldsE
 rw [he,cond_false]
 refine List.mem_iff_getElem?.2 ⟨(f - 1).toNat,?_⟩
 show (List.take _ (List.drop _ _))[_]? = _
 rw [List.getElem?_take,if_pos (by omega),List.getElem?_drop,show (a+1 - 16).toNat+(f - 1).toNat=(a+f - 16).toNat by omega]
 exact List.getElem?_eq_getElem hl
end Go.Ab
