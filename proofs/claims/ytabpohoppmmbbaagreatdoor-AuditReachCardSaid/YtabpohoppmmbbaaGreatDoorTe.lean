/- Threads,collectors,worlds: their codes.
What all threads reach.
The numbers of the shelf's slices.Reverse at this program (written by lay-plain).
slices.Reverse,gone into: by the shelf's contract.
heap.Used.
heap.Used's contract.
kept.
kept's contract.
ref06.Own,Part;ref03.Words,Cells.
head.Pack;slices.Repeat of one page;pages.Large.
pages.Find.
arena.Put,At,New;heap.New;alloc.own.
heap.New(1);lists.Pop,Move.
Contracts with closed results;alloc's box;page,small,large.
regs.Holds;audit.fields;ref12.Few;in. (@fold)
slices.Clone of any list;regs.May,cycle.May;Caches. (@fold)
Holds,fields,in,Few: their contracts;Reach's loops. (@fold)
audit.Reach,ref20.Few: their contracts. (@fold)
audit.Reach,ref20.Few: their contracts;the law AuditReach's loops. (@fold)
audit.Reach,ref20.Few,in: contracts;the law AuditReach: its loops' rounds. (@fold)
awake of chapter 22: what it comes to at its two worlds. (@fold)
The law AuditReach: fields,objects. (@fold)
The law AuditReach: objects,registers. (@fold)
The law AuditReach: registers,threads. (@fold)
The law AuditReach: its residual. (@fold)
ReapFlushes.
The law ReapFlushes.
The law AuditReach holds.
awake of chapter 22 holds.
Heaps and lists,as they are read;the frame of a row that lists a variable.
Structs of any fields,as they are read;threads,collectors,worlds.
Threads,collectors,worlds,as they are read. -/
import Derived.Test.YtabpohoppmmbbaaGreatDoorTd
import Derived.Test.YtabpohoppmmbbaaGreatDoorProg
import Derived.Shelf.Slices.Reverse
import Derived.Test.YtabpohoppmmbbaaGreatDoorTc
import Derived.Test.YtabpohoppmmbbaaGreatDoorCards
import Derived.Test.YtabpohoppmmbbaaGreatDoorTie
import Derived.WalkKit
import Derived.ProofKit
import Derived.OpenShut
import Derived.Deep.DeepHandedRow
import Derived.Lib.LaidTab
namespace Go.Ab
open Go
set_option maxRecDepth 100000
open Go.Proofs
structure RowC (α:Type) where
 e:α->List CV
 d:List CV->Option α
 ok:∀ c a,d c=some a->c=e a
 de:∀ a,d (e a)=some a
def RowC.dl {α:Type} (R:RowC α) (L:List (List CV)):Option (List α):=mapO R.d L
theorem RowC.dm {α:Type} (R:RowC α):∀ l:List α,R.dl (l.map R.e)=some l
 | []=>rfl
 | a::l=>by
  show (R.d (R.e a)).bind _=_
  rw [R.de]
  show (R.dl (l.map R.e)).bind _=_
  rw [R.dm l];rfl
theorem RowC.dk {α:Type} (R:RowC α):∀ {L:List (List CV)} {l:List α},R.dl L=some l->L=l.map R.e
 | [],l,h=>by cases h;rfl
 | c::r,l,h=>by
  replace h:=bind_some' h
  obtain ⟨a,ha,h⟩:=h
  replace h:=bind_some' h
  obtain ⟨s,hs,h⟩:=h
  cases h
  rw [R.ok _ _ ha,R.dk hs];rfl
def RowC.cod {α:Type} (R:RowC α):Cod α where
 enc:=fun a => .agg (R.e a)
 dec:=fun c=>match c with | .agg l=>R.d l | _=>none
 ok:=fun c t h=>by
  split at h
  ·rw [R.ok _ _ h]
  ·cases h
 de:=R.de
def RowC.sl {α:Type} (R:RowC α) (n:Nat):Cod (List α) where
 enc:=fun a => .sl n (a.map R.e)
 dec:=fun c=>match c with | .sl m l=>bif Nat.beq m n then R.dl l else none | _=>none
 ok:=fun c t h=>by
  split at h
  ·obtain ⟨h1,h2⟩:=cond_some h
   rw [R.dk h2,beq_true h1]
  ·cases h
 de:=fun l=>by
  show (bif Nat.beq n n then R.dl (l.map R.e) else none)=_
  rw [Nat.beq_refl,cond_true,R.dm]
def RowC.osl {α:Type} (R:RowC α) (n:Nat):Cod (List α) where
 enc:=fun a => .own n (a.map R.e)
 dec:=fun c=>match c with | .own m l=>bif Nat.beq m n then R.dl l else none | _=>none
 ok:=fun c t h=>by
  split at h
  ·obtain ⟨h1,h2⟩:=cond_some h
   rw [R.dk h2,beq_true h1]
  ·cases h
 de:=fun l=>by
  show (bif Nat.beq n n then R.dl (l.map R.e) else none)=_
  rw [Nat.beq_refl,cond_true,R.dm]
structure Opn where
 k:Int
 a:Int
 b:Int
 c:Int
 deriving DecidableEq
def rOp:RowC Opn where
 e:=fun o=>[.int .i64 o.k,.int .i64 o.a,.int .i64 o.b,.int .i64 o.c]
 d:=fun l=>match l with
  | [.int .i64 k,.int .i64 a,.int .i64 b,.int .i64 c]=>some ⟨k,a,b,c⟩
  | _=>none
 ok:=fun c a h=>by
  split at h
  ·cases h;rfl
  ·cases h
 de:=fun _=>rfl
structure Res where
 t:Int
 o:Opn
 e:Int
 v:Int
 deriving DecidableEq
def rRes:RowC Res where
 e:=fun r=>[.int .i64 r.t,.int .i64 r.o.k,.int .i64 r.o.a,.int .i64 r.o.b,.int .i64 r.o.c,.int .i64 r.e,.int .i64 r.v]
 d:=fun l=>match l with
  | [.int .i64 t,.int .i64 k,.int .i64 a,.int .i64 b,.int .i64 c,.int .i64 e,.int .i64 v]=>some ⟨t,⟨k,a,b,c⟩,e,v⟩
  | _=>none
 ok:=fun c a h=>by
  split at h
  ·cases h;rfl
  ·cases h
 de:=fun _=>rfl
structure Coll where
 ph:Int
 ep:Int
 mj:Bool
 wk:List Int
 ov:Bool
 a:Int
 fi:Int
 se:Int
 ca:Int
 me:Bool
def rCo:RowC Coll where
 e:=fun c=>[.int .i64 c.ph,.int .i64 c.ep,.bool c.mj,.sl 1 (encI c.wk),.bool c.ov,.int .i64 c.a,.int .i64 c.fi,.int .i64 c.se,.int .i64 c.ca,.bool c.me]
 d:=fun l=>match l with
  | [.int .i64 ph,.int .i64 ep,.bool mj,.sl 1 wk,.bool ov,.int .i64 a,.int .i64 fi,.int .i64 se,.int .i64 ca,.bool me]=>(decI wk).bind fun wk=>some ⟨ph,ep,mj,wk,ov,a,fi,se,ca,me⟩
  | _=>none
 ok:=fun c a h=>by
  split at h
  ·replace h:=bind_some' h
   obtain ⟨x,hx,h⟩:=h
   cases h
   rw [decI_enc hx]
  ·cases h
 de:=fun c=>by
  show (decI (encI c.wk)).bind _=_
  rw [decI_map];rfl
structure Thr where
 lv:Bool
 r0:Int
 r1:Int
 r2:Int
 r3:Int
 c:Ls
 ep:Int
 st:Int
 ro:Int
 d:List Opn
 pc:Int
 x:Int
 y:Int
def rTh:RowC Thr where
 e:=fun t=>[.bool t.lv,.int .i64 t.r0,.int .i64 t.r1,.int .i64 t.r2,.int .i64 t.r3,.sl 1 (encI t.c.a),.sl 1 (encI t.c.b),.sl 1 (encI t.c.c),.int .i64 t.ep,.int .i64 t.st,.int .i64 t.ro,.sl 4 (t.d.map rOp.e),.int .i64 t.pc,.int .i64 t.x,.int .i64 t.y]
 d:=fun l=>match l with
  | [.bool lv,.int .i64 r0,.int .i64 r1,.int .i64 r2,.int .i64 r3,.sl 1 a,.sl 1 b,.sl 1 c,.int .i64 ep,.int .i64 st,.int .i64 ro,.sl 4 d,.int .i64 pc,.int .i64 x,.int .i64 y]=>
   (decI a).bind fun a=>(decI b).bind fun b=>(decI c).bind fun c=>(rOp.dl d).bind fun d=>some ⟨lv,r0,r1,r2,r3,⟨a,b,c⟩,ep,st,ro,d,pc,x,y⟩
  | _=>none
 ok:=fun c t h=>by
  split at h
  ·replace h:=bind_some' h
   obtain ⟨a,ha,h⟩:=h
   replace h:=bind_some' h
   obtain ⟨b,hb,h⟩:=h
   replace h:=bind_some' h
   obtain ⟨c,hc,h⟩:=h
   replace h:=bind_some' h
   obtain ⟨d,hd,h⟩:=h
   cases h
   rw [decI_enc ha,decI_enc hb,decI_enc hc,rOp.dk hd]
  ·cases h
 de:=fun t=>by
  show (decI (encI t.c.a)).bind _=_
  rw [decI_map]
  show (decI (encI t.c.b)).bind _=_
  rw [decI_map]
  show (decI (encI t.c.c)).bind _=_
  rw [decI_map]
  show (rOp.dl (t.d.map rOp.e)).bind _=_
  rw [rOp.dm];rfl
structure Wld where
 h:Hp
 c:Coll
 t:List Thr
 l:List Res
def decHp6 (w p a b c d:List (List CV)):Option Hp:=(decI w).bind fun w=>(decP p).bind fun p=>(decI a).bind fun a=>(decI b).bind fun b=>(decI c).bind fun c=>(decBs d).bind fun d=>some ⟨w,p,⟨a,b,c⟩,d⟩
theorem decHp6_enc (h:Hp):decHp6 (encI h.w) (h.p.map encP) (encI h.f.a) (encI h.f.b) (encI h.f.c) (encBs h.c)=some h:=by
 unfold decHp6
 rw [decI_map,decP_map,decI_map,decI_map,decI_map,decBs_enc];rfl
theorem decHp6_ok {w p a b c d:List (List CV)} {h:Hp} (hh:decHp6 w p a b c d=some h):w=encI h.w/\p=h.p.map encP/\a=encI h.f.a/\b=encI h.f.b/\c=encI h.f.c/\d=encBs h.c:=by
 unfold decHp6 at hh
 replace hh:=bind_some' hh
 obtain ⟨x0,h0,hh⟩:=hh
 replace hh:=bind_some' hh
 obtain ⟨x1,h1,hh⟩:=hh
 replace hh:=bind_some' hh
 obtain ⟨x2,h2,hh⟩:=hh
 replace hh:=bind_some' hh
 obtain ⟨x3,h3,hh⟩:=hh
 replace hh:=bind_some' hh
 obtain ⟨x4,h4,hh⟩:=hh
 replace hh:=bind_some' hh
 obtain ⟨x5,h5,hh⟩:=hh
 cases hh
 exact ⟨decI_enc h0,decP_enc h1,decI_enc h2,decI_enc h3,decI_enc h4,decBs_ok h5⟩
def rWl:RowC Wld where
 e:=fun w=>encHp w.h++(rCo.e w.c++[.sl 15 (w.t.map rTh.e),.sl 7 (w.l.map rRes.e)])
 d:=fun l=>match l with
  | [.sl 1 w,.sl 2 p,.sl 1 a,.sl 1 b,.sl 1 c,.sl 1 d,x0,x1,x2,x3,x4,x5,x6,x7,x8,x9,.sl 15 t,.sl 7 lg]=>
   (decHp6 w p a b c d).bind fun h=>(rCo.d [x0,x1,x2,x3,x4,x5,x6,x7,x8,x9]).bind fun c=>(rTh.dl t).bind fun t=>(rRes.dl lg).bind fun lg=>some ⟨h,c,t,lg⟩
  | _=>none
 ok:=fun c w h=>by
  split at h
  ·replace h:=bind_some' h
   obtain ⟨x,hx,h⟩:=h
   replace h:=bind_some' h
   obtain ⟨co,hc,h⟩:=h
   replace h:=bind_some' h
   obtain ⟨t,ht,h⟩:=h
   replace h:=bind_some' h
   obtain ⟨lg,hl,h⟩:=h
   cases h
   obtain ⟨rfl,rfl,rfl,rfl,rfl,rfl⟩:=decHp6_ok hx
   rw [<- rCo.ok _ _ hc,rTh.dk ht,rRes.dk hl];rfl
  ·cases h
 de:=fun w=>by
  show (decHp6 _ _ _ _ _ _).bind _=_
  rw [decHp6_enc]
  show (rCo.d (rCo.e w.c)).bind _=_
  rw [rCo.de]
  show (rTh.dl _).bind _=_
  rw [rTh.dm]
  show (rRes.dl _).bind _=_
  rw [rRes.dm];rfl
def cOps:Cod (List Opn):=rOp.sl 4
def cTh:Cod Thr:=rTh.cod
def cTs:Cod (List Thr):=rTh.sl 15
def cWl:Cod Wld:=rWl.cod
end Go.Ab

namespace Go.Ab
open Go
set_option maxRecDepth 100000
open Go.Proofs
def holdsE (t:Thr):List Int:=[t.r0,t.r1,t.r2,t.r3,t.x,t.y].filter (· != 0)
def rootsE (ts:List Thr):List Int:=(ts.filter (·.lv)).flatMap holdsE
def reachN (h:Hp) (ts:List Thr):Nat:=((rootsE ts).length+h.w.length)*64+(rootsE ts).length
def reachL (h:Hp) (ts:List Thr):List Int:=reachGo (fieldsE h) (reachN h ts) (rootsE ts) []
def reachE (h:Hp) (ts:List Thr):List Int:=sortI (reachL h ts)
theorem reach_ok (h:Hp) (ts:List Thr):Reached (fieldsE h) (rootsE ts) [] (reachL h ts):=
 reachGo_ok (U:=rootsE ts++h.w) (fun a v hv=>List.mem_append.2 (.inr (fields_in hv))) (fields_len h) _ _ _ List.nodup_nil (fun a h=>by cases h) (fun a ha=>List.mem_append.2 (.inl ha)) (fun a h=>by cases h) (by
  unfold reachN;simp only [List.length_append,List.length_nil];omega)
theorem mem_sortI {l:List Int} {a:Int}:a∈sortI l↔a∈l:=(List.mergeSort_perm l fun x y=>decide (x<=y)).mem_iff
theorem sortI_lt {l:List Int} (hn:l.Nodup):(sortI l).Pairwise (· < ·):=by
 have hs:=List.pairwise_mergeSort (le:=fun x y:Int=>decide (x<=y)) (fun a b c h1 h2=>decide_eq_true (Int.le_trans (of_decide_eq_true h1) (of_decide_eq_true h2))) (fun a b=>by
  rcases Int.le_total a b with h | h
  ·simp [h]
  ·simp [h]) l
 have hd:(sortI l).Nodup:=(List.mergeSort_perm l fun x y=>decide (x<=y)).nodup_iff.2 hn
 exact (hs.and hd).imp fun ⟨h1,h2⟩=>by have:=of_decide_eq_true h1;omega
theorem reach_nz {h:Hp} {ts:List Thr} {a:Int} (ha:a∈reachE h ts):a≠0:=(reach_ok h ts).nz a (mem_sortI.1 ha)
theorem reach_lt (h:Hp) (ts:List Thr):(reachE h ts).Pairwise (· < ·):=sortI_lt (reach_ok h ts).nd
theorem reach_cl {h:Hp} {ts:List Thr} {a v:Int} (ha:a∈reachE h ts) (hv:v∈fieldsE h a):v=0\/v∈reachE h ts:=
 ((reach_ok h ts).cl a (mem_sortI.1 ha) v hv).imp id mem_sortI.2
theorem reach_root {h:Hp} {ts:List Thr} {t:Thr} (ht:t∈ts) (hl:t.lv=true) {v:Int} (hv:v∈[t.r0,t.r1,t.r2,t.r3,t.x,t.y]):v=0\/v∈reachE h ts:=by
 by_cases h0:v=0
 ·exact .inl h0
 ·exact ((reach_ok h ts).nx v (List.mem_flatMap.2 ⟨t,List.mem_filter.2 ⟨ht,hl⟩,List.mem_filter.2 ⟨hv,by simp [h0]⟩⟩)).imp id mem_sortI.2
theorem reach_nil (h:Hp):reachE h []=[]:=by
 have:reachL h []=[]:=List.eq_nil_iff_forall_not_mem.2 fun a ha=>(reach_ok h []).least (fun _=>False) (fun _ h=>by cases h) (fun _ h=>by cases h) (fun _ h=>h.elim) a ha
 unfold reachE
 rw [this];simp [sortI]
theorem reach_less {h:Hp} {t:Thr} {ts:List Thr} {a:Int} (ha:a∈reachE h ts):a∈reachE h (t::ts):=by
 have o:=reach_ok h (t::ts)
 have hs:=(reach_ok h ts).least (fun a=>a≠0->a∈reachL h (t::ts)) (fun _ h=>by cases h) (fun a ha hz _=>(o.nx a (by
  unfold rootsE at ha ⊢
  obtain ⟨u,hu,hv⟩:=List.mem_flatMap.1 ha
  obtain ⟨h1,h2⟩:=List.mem_filter.1 hu
  exact List.mem_flatMap.2 ⟨u,List.mem_filter.2 ⟨by simp [h1],h2⟩,hv⟩)).resolve_left hz) (fun a ha v hv hz _=>by
  by_cases h0:a=0
  ·subst h0
   have:fieldsE h 0=[]:=by
    unfold fieldsE
    cases he:((headE h 0).2 != 0) with
    | true=>rfl
    | false=>have:=(head_fits he).1;omega
   rw [this] at hv;cases hv
  ·exact (o.cl a (ha h0) v hv).resolve_left hz) a (mem_sortI.1 ha)
 exact mem_sortI.2 (hs ((reach_ok h ts).nz a (mem_sortI.1 ha)))
end Go.Ab

namespace Go.Proofs
set_option maxRecDepth 100000
open Go.Shelf
end Go.Proofs

namespace Go.Ab
open Go
set_option maxRecDepth 100000
open Go.Proofs
end Go.Ab

namespace Go.Ab
open Go
set_option maxRecDepth 100000
open Go.Proofs
def cUs:Cod Hp where
 enc:=fun h => .fn 101 [] [cPH.enc h]
 dec:=fun c=>match c with | .fn f [] [x]=>bif Nat.beq f 101 then cPH.dec x else none | _=>none
 ok:=fun c a h=>by
  split at h
  ·rename_i f x
   cases e:Nat.beq f 101 with
   | true=>rw [e] at h;rw [Nat.eq_of_beq_eq_true e,cPH.ok _ _ h]
   | false=>rw [e] at h;cases h
  ·cases h
 de:=fun h=>cPH.de h
noncomputable abbrev k73u:Cx:=cxG Pr Tryz.f180 [(101,gUsed1)]
theorem t73u (xs:List Int) (h:Hp) (n i:Int) (m:Nat) (β:Type) (K:Exit->List CV->List (List CV)->Option β):loopB k73u [0,1,7,8] o73 p73 (bodyL (bodyOf Tryz.f180) p73) (m+1) [cIs.enc xs,cUs.enc h,cI.enc n,cI.enc i] [] K=
 bif decide (i<n) then
 Option.bind (rdE (encI xs) i) fun c=>
 Option.bind c[0]? fun x=>
 Option.bind (asI IntKind.i64 x) fun n_1=>
 Option.bind (Option.bind (decI (encI (Hp.w h))) fun w=>
 Option.bind (decP (List.map encP (Hp.p h))) fun p=>
 Option.bind (decI (encI (Ls.a (Hp.f h)))) fun a=>
 Option.bind (decI (encI (Ls.b (Hp.f h)))) fun b=>
 Option.bind (decI (encI (Ls.c (Hp.f h)))) fun c=>
 Option.bind (decBs (encBs (Hp.c h))) fun d=>some {w:=w,p:=p,f:={a:=a,b:=b,c:=c},c:=d}) fun b=>
 bif inW b n_1 then
 bif usedV b n_1 then K Exit.ret [CV.int IntKind.i64 i] []
 else loopB k73u [0,1,7,8] o73 [false,true,false,true] (bodyL (bodyOf Tryz.f180) p73) m [CV.sl 1 (encI xs),CV.fn 101 [] [CV.pc [CV.sl 1 (encI (Hp.w h)),CV.sl 2 (List.map encP (Hp.p h)),CV.sl 1 (encI (Ls.a (Hp.f h))),CV.sl 1 (encI (Ls.b (Hp.f h))),CV.sl 1 (encI (Ls.c (Hp.f h))),CV.sl 1 (encBs (Hp.c h))] 0],CV.int IntKind.i64 n,CV.int IntKind.i64 (IntKind.wrap IntKind.i64 (i+1))] [] fun a a_1 a_2=>K a a_1 a_2
 else none
 else K (Exit.exit 0) [] []:=by kernel_rfl
def firstU (h:Hp) (xs:List Int):Option Nat:=xs.findIdx? (usedV h)
theorem indexU_loop (h:Hp) (xs:List Int) (hx:xs.length<=100000) (hc:xs.all (inW h)=true) (β:Type) (K:Exit->List CV->List (List CV)->Option β):∀ (m i:Nat),i+m=xs.length->
  loopB k73u [0,1,7,8] o73 p73 (bodyL (bodyOf Tryz.f180) p73) (m+1) [cIs.enc xs,cUs.enc h,cI.enc (xs.length:Int),cI.enc (i:Int)] [] K=
   bif (firstU h (xs.drop i)).isSome then K .ret [cI.enc (((i+(firstU h (xs.drop i)).getD 0:Nat)):Int)] [] else K (.exit 0) [] []:=by
 intro m
 induction m with
 | zero=>
  intro i h1
  rw [t73u,decide_eq_false (by omega),cond_false,List.drop_eq_nil_of_le (by omega)]
  rfl
 | succ m ih=>
  intro i h1
  have hii:i<xs.length:=by omega
  have e:(⟨h.w,h.p,⟨h.f.a,h.f.b,h.f.c⟩,h.c⟩:Hp)=h:=rfl
  rw [t73u,decide_eq_true (by omega),cond_true,List.drop_eq_getElem_cons hii,rdE_nat (by omega)]
  have e1:(encI xs)[(i:Int).toNat]? = some [CV.int .i64 xs[i]]:=by simp [encI,hii]
  have e2:inW h xs[i]=true:=List.all_eq_true.1 hc _ (List.getElem_mem hii)
  simp only [e1,Option.bind_some,zero_get,asI_i,show (i:Int)+1=((i+1:Nat):Int) by omega,wrap_in (a:=((i+1:Nat):Int)) (by omega),decI_map,decP_map,decBs_enc,e,e2,cond_true]
  have e3:firstU h (xs[i]::xs.drop (i+1))=bif usedV h xs[i] then some 0 else (firstU h (xs.drop (i+1))).map (· + 1):=by
   unfold firstU
   rw [List.findIdx?_cons]
   cases usedV h xs[i] <;> rfl
  rw [e3]
  cases usedV h xs[i] with
  | true=>rfl
  | false=>
   rw [cond_false,cond_false]
   refine (ih (i+1) (by omega)).trans ?_
   cases firstU h (xs.drop (i+1)) with
   | none=>rfl
   | some j=>
    simp only [Option.map_some,Option.isSome_some,Option.getD_some,cond_true]
    rw [show i+1+j=i+(j+1) by omega]
def L73u:LoopSem:=l4 [0,1,7,8] o73 cIs cUs cI cI c0 (fun xs h n i _=>xs.all (inW h)&&(Nat.ble xs.length 100000&&(i==0&&n==(xs.length:Int))))
 fun xs h _ _ _ => .alt (firstU h xs).isSome (.one .ret [cI.enc (((firstU h xs).getD 0:Nat):Int)] []) (.one (.exit 0) [] [])
noncomputable abbrev k73v:Cx:=k73u.loop p73 L73u
theorem k73v_ok:CxOK k73v [(101,gUsed1)]:=by
 refine CxOK.loop4 (CxOK.baseG (Good.cons used1_good Good.nil) GoodI.nil (eqOK_none fun _=>rfl)) rfl fun xs h n i u hp => ?_
 simp only [Bool.and_eq_true,beq_iff_eq] at hp
 obtain ⟨hc,hx,hi,hn⟩:=hp
 have hx:=Nat.le_of_ble_eq_true hx
 subst hi hn
 refine ⟨xs.length+1,fun β K => ?_⟩
 have:=indexU_loop h xs hx hc β K xs.length 0 (by omega)
 rw [List.drop_zero,Nat.zero_add] at this
 exact this
theorem r73v (xs:List Int) (h:Hp) (β:Type) (K:CV->List (List CV)->Option β):fnK k73v Tryz.f180 [cIs.enc xs,cUs.enc h] [] K=
 Option.bind (decI (encI xs)) fun a=>
 Option.bind (Option.bind (decI (encI (Hp.w h))) fun w=>
 Option.bind (decP (List.map encP (Hp.p h))) fun p=>
 Option.bind (decI (encI (Ls.a (Hp.f h)))) fun a=>
 Option.bind (decI (encI (Ls.b (Hp.f h)))) fun b=>
 Option.bind (decI (encI (Ls.c (Hp.f h)))) fun c=>
 Option.bind (decBs (encBs (Hp.c h))) fun d=>some {w:=w,p:=p,f:={a:=a,b:=b,c:=c},c:=d}) fun b=>
 bif List.all a (inW b)&&(Nat.ble (List.length a) 100000&&(↑(List.length (encI xs)):Int)==(↑(List.length a):Int)) then
 bif Option.isSome (firstU b a) then K (CV.int IntKind.i64 (↑(Option.getD (firstU b a) 0):Int)) []
 else K (CV.int IntKind.i64 (Int.negSucc 0)) []
 else none:=by kernel_rfl
def gIndexU:Callee:=g2 cIs cUs (fun xs h=>xs.all (inW h)&&Nat.ble xs.length 100000) fun xs h=>cI.enc (bif (firstU h xs).isSome then (((firstU h xs).getD 0:Nat):Int) else -1)
theorem indexU_good:GoodC Pr 180 gIndexU:=
 good2 (k73v_ok.sound (cx:=k73v) Tryz.func180 (by kernel_rfl) (by kernel_rfl) rfl (by kernel_rfl)) fun xs h hp β K=>by
  have e:(⟨h.w,h.p,⟨h.f.a,h.f.b,h.f.c⟩,h.c⟩:Hp)=h:=rfl
  refine (r73v xs h β K).trans ?_
  simp only [decI_map,decP_map,decBs_enc,Option.bind_some,e,encI_len,beq_self_eq_true,Bool.and_true,hp,cond_true]
  cases (firstU h xs).isSome <;> rfl
noncomputable abbrev k44a:Cx:=cxG Pr Tryz.f100 [(180,gIndexU),(101,gUsed1)]
abbrev p44:=[false,true,false,true,true,true]
abbrev o44:Exit->List Nat:=fun _=>[0,5]
theorem t44 (xs:List Int) (h:Hp) (i j:Int) (m:Nat) (β:Type) (K:Exit->List CV->List (List CV)->Option β):loopB k44a [0,1,5,6] o44 p44 (bodyL (bodyOf Tryz.f100) p44) (m+1) [cOI.enc xs,cUs.enc h,cI.enc i,cI.enc j] [] K=
 bif decide (j<(↑(List.length (encI xs)):Int)) then
 if 0<=j/\j<(↑(List.length (encI xs)):Int) then
 Option.bind (encI xs)[Int.toNat j]? fun e=>
 Option.bind e[0]? fun x=>
 Option.bind (asI IntKind.i64 x) fun n=>
 Option.bind (Option.bind (decI (encI (Hp.w h))) fun w=>
 Option.bind (decP (List.map encP (Hp.p h))) fun p=>
 Option.bind (decI (encI (Ls.a (Hp.f h)))) fun a=>
 Option.bind (decI (encI (Ls.b (Hp.f h)))) fun b=>
 Option.bind (decI (encI (Ls.c (Hp.f h)))) fun c=>
 Option.bind (decBs (encBs (Hp.c h))) fun d=>some {w:=w,p:=p,f:={a:=a,b:=b,c:=c},c:=d}) fun b=>
 bif inW b n then
 bif !usedV b n then
 if 0<=i/\i<(↑(List.length (encI xs)):Int) then
 Option.bind (encI xs)[Int.toNat i]? fun e=>
 if 0+List.length [SV.c (CV.int IntKind.i64 n)]<=List.length e then loopB k44a [0,1,5,6] o44 [false,true,false,true,true,true] (bodyL (bodyOf Tryz.f100) p44) m [CV.own 1 (List.set (encI xs) (Int.toNat i) (CV.int IntKind.i64 n::List.append [] (List.drop 1 e))),CV.fn 101 [] [CV.pc [CV.sl 1 (encI (Hp.w h)),CV.sl 2 (List.map encP (Hp.p h)),CV.sl 1 (encI (Ls.a (Hp.f h))),CV.sl 1 (encI (Ls.b (Hp.f h))),CV.sl 1 (encI (Ls.c (Hp.f h))),CV.sl 1 (encBs (Hp.c h))] 0],CV.int IntKind.i64 (IntKind.wrap IntKind.i64 (i+1)),CV.int IntKind.i64 (IntKind.wrap IntKind.i64 (j+1))] [] fun a a_1 a_2=>K a a_1 a_2
 else none
 else none
 else loopB k44a [0,1,5,6] o44 [false,true,false,true,true,true] (bodyL (bodyOf Tryz.f100) p44) m [CV.own 1 (encI xs),CV.fn 101 [] [CV.pc [CV.sl 1 (encI (Hp.w h)),CV.sl 2 (List.map encP (Hp.p h)),CV.sl 1 (encI (Ls.a (Hp.f h))),CV.sl 1 (encI (Ls.b (Hp.f h))),CV.sl 1 (encI (Ls.c (Hp.f h))),CV.sl 1 (encBs (Hp.c h))] 0],CV.int IntKind.i64 i,CV.int IntKind.i64 (IntKind.wrap IntKind.i64 (j+1))] [] fun a a_1 a_2=>K a a_1 a_2
 else none
 else none
 else K (Exit.exit 0) [CV.own 1 (encI xs),CV.int IntKind.i64 i] []:=by kernel_rfl
def delL (h:Hp):Nat->List Int->Nat->Nat->List Int×Nat
 | 0,xs,i,_=>(xs,i)
 | m+1,xs,i,j=>bif !usedV h (xs.getD j 0) then delL h m (xs.set i (xs.getD j 0)) (i+1) (j+1) else delL h m xs i (j+1)
theorem round44 (h:Hp) (xs:List Int) (i j m:Nat) (hx:xs.length<=100000) (hc:xs.all (inW h)=true) (hij:i<=j) (hjj:j<xs.length) (β:Type) (K:Exit->List CV->List (List CV)->Option β):
  loopB k44a [0,1,5,6] o44 p44 (bodyL (bodyOf Tryz.f100) p44) (m+1) [cOI.enc xs,cUs.enc h,cI.enc (i:Int),cI.enc (j:Int)] [] K=
   bif usedV h xs[j] then loopB k44a [0,1,5,6] o44 p44 (bodyL (bodyOf Tryz.f100) p44) m [cOI.enc xs,cUs.enc h,cI.enc (i:Int),cI.enc ((j+1:Nat):Int)] [] K
   else loopB k44a [0,1,5,6] o44 p44 (bodyL (bodyOf Tryz.f100) p44) m [cOI.enc (xs.set i xs[j]),cUs.enc h,cI.enc ((i+1:Nat):Int),cI.enc ((j+1:Nat):Int)] [] K:=by
 have hii:i<xs.length:=by omega
 have e:(⟨h.w,h.p,⟨h.f.a,h.f.b,h.f.c⟩,h.c⟩:Hp)=h:=rfl
 have hjn:(0:Int)<=(j:Int)/\(j:Int)<((List.length (encI xs):Nat):Int):=by rw [encI_len];omega
 have hin:(0:Int)<=(i:Int)/\(i:Int)<((List.length (encI xs):Nat):Int):=by rw [encI_len];omega
 have e1:(encI xs)[(j:Int).toNat]? = some [CV.int .i64 xs[j]]:=by simp [encI,hjj]
 have e1':(encI xs)[(i:Int).toNat]? = some [CV.int .i64 xs[i]]:=by simp [encI,hii]
 have e2:inW h xs[j]=true:=List.all_eq_true.1 hc _ (List.getElem_mem hjj)
 have wi:IntKind.i64.wrap ((i:Int)+1)=((i+1:Nat):Int):=by rw [wrap_in (by omega)];omega
 have wj:IntKind.i64.wrap ((j:Int)+1)=((j+1:Nat):Int):=by rw [wrap_in (by omega)];omega
 have es:List.set (encI xs) (i:Int).toNat (CV.int IntKind.i64 xs[j]::List.append [] (List.drop 1 [CV.int .i64 xs[i]]))=encI (xs.set i xs[j]):=by
  simp [encI,List.map_set]
 rw [t44,decide_eq_true (by rw [encI_len];omega),cond_true,if_pos hjn,e1,Option.bind_some,zero_get,Option.bind_some,asI_i,Option.bind_some,decI_map,Option.bind_some,decP_map,Option.bind_some,decI_map,Option.bind_some,decI_map,Option.bind_some,decI_map,Option.bind_some,decBs_enc,Option.bind_some,Option.bind_some,e,e2,cond_true]
 generalize usedV h xs[j]=u
 cases u with
 | true=>
  rw [Bool.not_true,cond_false,cond_true,wj]
  rfl
 | false=>
  rw [Bool.not_false,cond_true,cond_false,if_pos hin,e1',Option.bind_some,if_pos (by simp),es,wi,wj]
  rfl
theorem del_loop (h:Hp) (β:Type) (K:Exit->List CV->List (List CV)->Option β):∀ (m:Nat) (xs:List Int) (i j:Nat),xs.length<=100000->xs.all (inW h)=true->i<=j->j+m=xs.length->
  loopB k44a [0,1,5,6] o44 p44 (bodyL (bodyOf Tryz.f100) p44) (m+1) [cOI.enc xs,cUs.enc h,cI.enc (i:Int),cI.enc (j:Int)] [] K=K (.exit 0) [cOI.enc (delL h m xs i j).1,cI.enc ((delL h m xs i j).2:Int)] []:=by
 intro m
 induction m with
 | zero=>
  intro xs i j _ _ _ h1
  rw [t44,decide_eq_false (by rw [encI_len];omega),cond_false]
  rfl
 | succ m ih=>
  intro xs i j hx hc hij h1
  have hjj:j<xs.length:=by omega
  have eg:xs.getD j 0=xs[j]:=by simp [hjj]
  rw [round44 h xs i j (m+1) hx hc hij hjj]
  cases hu:usedV h xs[j] with
  | true=>
   rw [cond_true,ih xs i (j+1) hx hc (by omega) (by omega)]
   conv=>rhs;unfold delL
   rw [eg,hu,Bool.not_true,cond_false]
  | false=>
   rw [cond_false,ih (xs.set i xs[j]) (i+1) (j+1) (by simpa using hx) (by
    rw [List.all_eq_true] at hc ⊢
    intro a ha
    rcases List.mem_or_eq_of_mem_set ha with ha | rfl
    ·exact hc a ha
    ·exact hc _ (List.getElem_mem hjj)) (by omega) (by simp;omega)]
   conv=>rhs;unfold delL
   rw [eg,hu,Bool.not_false,cond_true]
structure DL where
 l:List Int
 n:Nat
@[irreducible] def delZ (h:Hp) (xs:List Int) (i j:Int):DL:=⟨(delL h (xs.length - j.toNat) xs i.toNat j.toNat).1,(delL h (xs.length - j.toNat) xs i.toNat j.toNat).2⟩
def L44:LoopSem:=l4 [0,1,5,6] o44 cOI cUs cI cI c0 (fun xs h i j _=>xs.all (inW h)&&(Nat.ble xs.length 100000&&(decide (0<=i)&&(decide (i<=j)&&decide (j<=(xs.length:Int))))))
 fun xs h i j _ => .one (.exit 0) [cOI.enc (delZ h xs i j).l,cI.enc ((delZ h xs i j).n:Int)] []
noncomputable abbrev k44:Cx:=k44a.loop p44 L44
theorem k44_ok:CxOK k44 [(180,gIndexU),(101,gUsed1)]:=by
 refine CxOK.loop4 (CxOK.baseG (Good.cons indexU_good (Good.cons used1_good Good.nil)) GoodI.nil (eqOK_none fun _=>rfl)) rfl fun xs h i j u hp => ?_
 simp only [Bool.and_eq_true,decide_eq_true_eq] at hp
 obtain ⟨hc,hx,h0,hij,hj⟩:=hp
 refine ⟨(xs.length - j.toNat)+1,fun β K => ?_⟩
 have:=del_loop h β K (xs.length - j.toNat) xs i.toNat j.toNat (Nat.le_of_ble_eq_true hx) hc (by omega) (by omega)
 rw [show ((i.toNat:Nat):Int)=i by omega,show ((j.toNat:Nat):Int)=j by omega] at this
 refine this.trans ?_
 show _=K (.exit 0) [cOI.enc (delZ h xs i j).l,cI.enc ((delZ h xs i j).n:Int)] []
 unfold delZ
 rfl
theorem del_inl:GoodN Pr 100 (inlC k44 Tryz.f100):=k44_ok.inlG (cx:=k44) Tryz.func100 (by kernel_rfl) (by kernel_rfl) rfl (by kernel_rfl)
noncomputable abbrev k16:Cx:=cxG Pr Tryz.f40 [(20,gMayHp),(68,gAllC)] [(100,inlC k44 Tryz.f100)]
theorem r16 (h:Hp) (β:Type) (K:CV->List (List CV)->Option β):fnK k16 Tryz.f40 [cHp.enc h] [] K=
 Option.bind (Option.bind (decI (encI (Hp.w h))) fun w=>
 Option.bind (decP (List.map encP (Hp.p h))) fun p=>
 Option.bind (decI (encI (Ls.a (Hp.f h)))) fun a=>
 Option.bind (decI (encI (Ls.b (Hp.f h)))) fun b=>
 Option.bind (decI (encI (Ls.c (Hp.f h)))) fun c=>
 Option.bind (decBs (encBs (Hp.c h))) fun d=>some {w:=w,p:=p,f:={a:=a,b:=b,c:=c},c:=d}) fun a=>
 bif smH a&&smLs [Hp.f a] then
 bif !mayHpV a [] then K (CV.own 1 []) []
 else
 Option.bind (decP (List.map encP (Hp.p h))) fun ps=>
 bif Nat.ble (List.length ps) 200 then
 Option.bind (decI (atV (allCs ps))) fun a=>
 Option.bind (Option.bind (decI (encI (Hp.w h))) fun w=>
 Option.bind (decP (List.map encP (Hp.p h))) fun p=>
 Option.bind (decI (encI (Ls.a (Hp.f h)))) fun a=>
 Option.bind (decI (encI (Ls.b (Hp.f h)))) fun b=>
 Option.bind (decI (encI (Ls.c (Hp.f h)))) fun c=>
 Option.bind (decBs (encBs (Hp.c h))) fun d=>some {w:=w,p:=p,f:={a:=a,b:=b,c:=c},c:=d}) fun b=>
 bif List.all a (inW b)&&Nat.ble (List.length a) 100000 then
 bif (bif Option.isSome (firstU b a) then (↑(Option.getD (firstU b a) 0):Int) else -1)==Int.negSucc 0 then
 K (CV.own 1 (atV (allCs ps))) []
 else
 Option.bind (decI (atV (allCs ps))) fun a_1=>
 Option.bind (Option.bind (decI (encI (Hp.w h))) fun w=>
 Option.bind (decP (List.map encP (Hp.p h))) fun p=>
 Option.bind (decI (encI (Ls.a (Hp.f h)))) fun a=>
 Option.bind (decI (encI (Ls.b (Hp.f h)))) fun b=>
 Option.bind (decI (encI (Ls.c (Hp.f h)))) fun c=>
 Option.bind (decBs (encBs (Hp.c h))) fun d=>some {w:=w,p:=p,f:={a:=a,b:=b,c:=c},c:=d}) fun b_1=>
 bif List.all a_1 (inW b_1)&&(Nat.ble (List.length a_1) 100000&&(decide (0<=
 bif Option.isSome (firstU b a) then (↑(Option.getD (firstU b a) 0):Int)
 else -1)&&(decide ((bif Option.isSome (firstU b a) then (↑(Option.getD (firstU b a) 0):Int)
 else -1)<=IntKind.wrap IntKind.i64 ((bif Option.isSome (firstU b a) then (↑(Option.getD (firstU b a) 0):Int)
 else -1)+1))&&decide (IntKind.wrap IntKind.i64 ((bif Option.isSome (firstU b a) then (↑(Option.getD (firstU b a) 0):Int)
 else -1)+1)<=(↑(List.length a_1):Int))))) then
 bif okBounds (List.length (encI (DL.l (delZ b_1 a_1 (bif Option.isSome (firstU b a) then (↑(Option.getD (firstU b a) 0):Int)
 else -1) (IntKind.wrap IntKind.i64 ((bif Option.isSome (firstU b a) then (↑(Option.getD (firstU b a) 0):Int)
 else -1)+1)))))) (some (↑(DL.n (delZ b_1 a_1 (bif Option.isSome (firstU b a) then (↑(Option.getD (firstU b a) 0):Int)
 else -1) (IntKind.wrap IntKind.i64 ((bif Option.isSome (firstU b a) then (↑(Option.getD (firstU b a) 0):Int)
 else -1)+1)))):Int)) none none then
 bif okBounds (List.length (splice (encI (DL.l (delZ b_1 a_1 (bif Option.isSome (firstU b a) then (↑(Option.getD (firstU b a) 0):Int)
 else -1) (IntKind.wrap IntKind.i64 ((bif Option.isSome (firstU b a) then (↑(Option.getD (firstU b a) 0):Int)
 else -1)+1))))) (Int.toNat (Option.getD (some (↑(DL.n (delZ b_1 a_1 (bif Option.isSome (firstU b a) then (↑(Option.getD (firstU b a) 0):Int)
 else -1) (IntKind.wrap IntKind.i64 ((bif Option.isSome (firstU b a) then (↑(Option.getD (firstU b a) 0):Int)
 else -1)+1)))):Int)) 0)) (List.replicate (Int.toNat (Option.getD none (↑(List.length (encI (DL.l (delZ b_1 a_1 (bif Option.isSome (firstU b a) then (↑(Option.getD (firstU b a) 0):Int)
 else -1) (IntKind.wrap IntKind.i64 ((bif Option.isSome (firstU b a) then (↑(Option.getD (firstU b a) 0):Int)
 else -1)+1)))))):Int) - Option.getD (some (↑(DL.n (delZ b_1 a_1 (bif Option.isSome (firstU b a) then (↑(Option.getD (firstU b a) 0):Int)
 else -1) (IntKind.wrap IntKind.i64 ((bif Option.isSome (firstU b a) then (↑(Option.getD (firstU b a) 0):Int)
 else -1)+1)))):Int)) 0)) [CV.int IntKind.i64 0]))) none (some (↑(DL.n (delZ b_1 a_1 (bif Option.isSome (firstU b a) then (↑(Option.getD (firstU b a) 0):Int)
 else -1) (IntKind.wrap IntKind.i64 ((bif Option.isSome (firstU b a) then (↑(Option.getD (firstU b a) 0):Int)
 else -1)+1)))):Int)) none then
 K (CV.sl 1 (subl (splice (encI (DL.l (delZ b_1 a_1 (bif Option.isSome (firstU b a) then (↑(Option.getD (firstU b a) 0):Int)
 else -1) (IntKind.wrap IntKind.i64 ((bif Option.isSome (firstU b a) then (↑(Option.getD (firstU b a) 0):Int)
 else -1)+1))))) (Int.toNat (Option.getD (some (↑(DL.n (delZ b_1 a_1 (bif Option.isSome (firstU b a) then (↑(Option.getD (firstU b a) 0):Int)
 else -1) (IntKind.wrap IntKind.i64 ((bif Option.isSome (firstU b a) then (↑(Option.getD (firstU b a) 0):Int)
 else -1)+1)))):Int)) 0)) (List.replicate (Int.toNat (Option.getD none (↑(List.length (encI (DL.l (delZ b_1 a_1 (bif Option.isSome (firstU b a) then (↑(Option.getD (firstU b a) 0):Int)
 else -1) (IntKind.wrap IntKind.i64 ((bif Option.isSome (firstU b a) then (↑(Option.getD (firstU b a) 0):Int)
 else -1)+1)))))):Int) - Option.getD (some (↑(DL.n (delZ b_1 a_1 (bif Option.isSome (firstU b a) then (↑(Option.getD (firstU b a) 0):Int)
 else -1) (IntKind.wrap IntKind.i64 ((bif Option.isSome (firstU b a) then (↑(Option.getD (firstU b a) 0):Int)
 else -1)+1)))):Int)) 0)) [CV.int IntKind.i64 0])) 0 (Int.toNat (Option.getD (some (↑(DL.n (delZ b_1 a_1 (bif Option.isSome (firstU b a) then (↑(Option.getD (firstU b a) 0):Int)
 else -1) (IntKind.wrap IntKind.i64 ((bif Option.isSome (firstU b a) then (↑(Option.getD (firstU b a) 0):Int)
 else -1)+1)))):Int)) (↑(List.length (splice (encI (DL.l (delZ b_1 a_1 (bif Option.isSome (firstU b a) then (↑(Option.getD (firstU b a) 0):Int)
 else -1) (IntKind.wrap IntKind.i64 ((bif Option.isSome (firstU b a) then (↑(Option.getD (firstU b a) 0):Int)
 else -1)+1))))) (Int.toNat (Option.getD (some (↑(DL.n (delZ b_1 a_1 (bif Option.isSome (firstU b a) then (↑(Option.getD (firstU b a) 0):Int)
 else -1) (IntKind.wrap IntKind.i64 ((bif Option.isSome (firstU b a) then (↑(Option.getD (firstU b a) 0):Int)
 else -1)+1)))):Int)) 0)) (List.replicate (Int.toNat (Option.getD none (↑(List.length (encI (DL.l (delZ b_1 a_1 (bif Option.isSome (firstU b a) then (↑(Option.getD (firstU b a) 0):Int)
 else -1) (IntKind.wrap IntKind.i64 ((bif Option.isSome (firstU b a) then (↑(Option.getD (firstU b a) 0):Int)
 else -1)+1)))))):Int) - Option.getD (some (↑(DL.n (delZ b_1 a_1 (bif Option.isSome (firstU b a) then (↑(Option.getD (firstU b a) 0):Int)
 else -1) (IntKind.wrap IntKind.i64 ((bif Option.isSome (firstU b a) then (↑(Option.getD (firstU b a) 0):Int)
 else -1)+1)))):Int)) 0)) [CV.int IntKind.i64 0]))):Int) - 0)))) []
 else none
 else none
 else none
 else none
 else none
 else none:=by kernel_rfl
end Go.Ab

namespace Go.Ab
open Go
set_option maxRecDepth 100000
open Go.Proofs
theorem del_spec (h:Hp):∀ (m:Nat) (xs:List Int) (i j:Nat),i<=j->j+m=xs.length->(delL h m xs i j).1.length=xs.length/\(delL h m xs i j).2<=xs.length/\
  (delL h m xs i j).1.take (delL h m xs i j).2=xs.take i++(xs.drop j).filter fun a => !usedV h a:=by
 intro m
 induction m with
 | zero=>
  intro xs i j hij h1
  refine ⟨rfl,by show i<=_;omega,?_⟩
  rw [List.drop_eq_nil_of_le (by omega)]
  simp [delL]
 | succ m ih=>
  intro xs i j hij h1
  have hjj:j<xs.length:=by omega
  have eg:xs.getD j 0=xs[j]:=by simp [hjj]
  unfold delL
  rw [eg,List.drop_eq_getElem_cons hjj,List.filter_cons]
  cases hu:usedV h xs[j] with
  | true=>
   simp only [Bool.not_true,cond_false,Bool.false_eq_true,if_false]
   exact ih xs i (j+1) (by omega) (by omega)
  | false=>
   simp only [Bool.not_false,cond_true,if_true]
   obtain ⟨g1,g2,g3⟩:=ih (xs.set i xs[j]) (i+1) (j+1) (by omega) (by simp;omega)
   refine ⟨by simpa using g1,by simpa using g2,g3.trans ?_⟩
   have hii:i<xs.length:=by omega
   have t1:(xs.set i xs[j]).take (i+1)=xs.take i++[xs[j]]:=by
    rw [List.set_eq_take_append_cons_drop,if_pos hii]
    rw [List.take_append,List.length_take,Nat.min_eq_left (by omega)]
    rw [List.take_take,Nat.min_eq_right (by omega)]
    simp [show i+1 - i=1 by omega]
   have t2:(xs.set i xs[j]).drop (j+1)=xs.drop (j+1):=by
    rw [List.drop_set]
    simp;omega
   rw [t1,t2]
   simp
theorem delZ_spec (h:Hp) (xs:List Int) (k:Nat) (hk:k<xs.length):(delZ h xs (k:Int) ((k+1:Nat):Int)).l.length=xs.length/\(delZ h xs (k:Int) ((k+1:Nat):Int)).n<=xs.length/\
  (delZ h xs (k:Int) ((k+1:Nat):Int)).l.take (delZ h xs (k:Int) ((k+1:Nat):Int)).n=xs.take k++(xs.drop (k+1)).filter fun a => !usedV h a:=by
 unfold delZ
 simp only [Int.toNat_natCast]
 exact del_spec h (xs.length - (k+1)) xs k (k+1) (by omega) (by omega)
def usedE (h:Hp):List Int:=bif mayHpV h [] then (cellAs h.p).filter (fun a => !usedV h a) else []
def gUsed:Callee:=g1 cHp (fun h=>smH h&&smLs [h.f]) fun h=>cIs.enc (usedE h)
theorem used_good:GoodC Pr 40 gUsed:=
 good1S ((CxOK.baseG (Good.cons mayHp_good (Good.cons allCG_good Good.nil)) (GoodI.cons del_inl GoodI.nil) (eqOK_none fun _=>rfl)).sound (cx:=k16) Tryz.func40 (by kernel_rfl) (by kernel_rfl) rfl (by kernel_rfl)) fun h hp=>by
  have hp0:=hp
  simp only [Bool.and_eq_true] at hp
  obtain ⟨hs,hls⟩:=hp
  have hL:=lim_val
  have hca:List.map (fun x=>x.fst) (allCs h.p)=cellAs h.p:=rfl
  have e:(⟨h.w,h.p,⟨h.f.a,h.f.b,h.f.c⟩,h.c⟩:Hp)=h:=rfl
  unfold usedE
  cases hm:mayHpV h [] with
  | false=>
   refine ⟨.own 1 [],rfl,fun β K => ?_⟩
   rw [r16]
   simp only [decI_map,decP_map,decBs_enc,Option.bind_some,e,hp0,cond_true,hm,Bool.not_false]
  | true=>
   have hsh:=shaped_of hm
   have hc8:(cellAs h.p).length<=100000:=by
    have:=Nat.le_of_ble_eq_true (all_len8 (ps:=h.p) (Nat.ble_eq_true_of_le (smH_le hs).2.1))
    have e2:(cellAs h.p).length=((allCs h.p).map (·.1)).length:=rfl
    omega
   have hpre:(cellAs h.p).all (inW h)=true:=by
    have:=cells_pre hs hsh
    rw [List.all_eq_true] at this ⊢
    intro a ha
    have h3:(inW h a&&inP h a)=true:=this a ha
    simp only [Bool.and_eq_true] at h3
    exact h3.1
   have hall:∀ xs:List Int,(xs.all (inW h)&&Nat.ble xs.length 100000)=true->True:=fun _ _=>trivial
   cases hf:firstU h (cellAs h.p) with
   | none=>
    have hfil:(cellAs h.p).filter (fun a => !usedV h a)=cellAs h.p:=by
     rw [List.filter_eq_self]
     intro a ha
     unfold firstU at hf
     rw [List.findIdx?_eq_none_iff] at hf
     rw [hf a ha];rfl
    refine ⟨.own 1 (encI (cellAs h.p)),by rw [cond_true,hfil];rfl,fun β K => ?_⟩
    rw [r16]
    simp only [decI_map,decP_map,decBs_enc,Option.bind_some,e,hp0,cond_true,hm,Bool.not_true,cond_false,Nat.ble_eq_true_of_le (smH_le hs).2.1,atV_enc,hca,hpre,Nat.ble_eq_true_of_le hc8,Bool.and_self,hf,Option.isSome_none]
    rfl
   | some k=>
    have hf0:=hf
    unfold firstU at hf0
    obtain ⟨hk,hk1,hk2⟩:=List.findIdx?_eq_some_iff_getElem.1 hf0
    obtain ⟨z1,z2,z3⟩:=delZ_spec h (cellAs h.p) k hk
    have hfil:(cellAs h.p).filter (fun a => !usedV h a)=(cellAs h.p).take k++((cellAs h.p).drop (k+1)).filter fun a => !usedV h a:=by
     conv=>lhs;rw [<- List.take_append_drop k (cellAs h.p),List.drop_eq_getElem_cons hk,List.filter_append,List.filter_cons]
     have h1:((cellAs h.p).take k).filter (fun a => !usedV h a)=(cellAs h.p).take k:=by
      rw [List.filter_eq_self]
      intro a ha
      obtain ⟨i,hi,rfl⟩:=List.mem_iff_getElem.1 ha
      have hik:i<k:=by simp at hi;omega
      have:=hk2 i hik
      simp only [List.getElem_take]
      simpa using this
     rw [h1,hk1]
     simp
    have wk:IntKind.i64.wrap ((k:Int)+1)=((k+1:Nat):Int):=by rw [wrap_in (by omega)];omega
    have c1:(((k:Nat):Int)==Int.negSucc 0)=false:=beq_eq_false_iff_ne.2 (by omega)
    have c2:(decide (0<=((k:Nat):Int))&&(decide (((k:Nat):Int)<=((k+1:Nat):Int))&&decide (((k+1:Nat):Int)<=((cellAs h.p).length:Int))))=true:=by
     rw [decide_eq_true (by omega),decide_eq_true (by omega),decide_eq_true (by omega)];rfl
    generalize hD:delZ h (cellAs h.p) (k:Int) ((k+1:Nat):Int)=D at z1 z2 z3
    have b1:okBounds (List.length (encI D.l)) (some ((D.n:Nat):Int)) none none=true:=by
     unfold okBounds
     simp only [Option.getD_some,Option.getD_none,encI_len,Bool.true_and,Bool.and_eq_true,decide_eq_true_eq]
     omega
    have sl:(splice (encI D.l) (Int.toNat (Option.getD (some ((D.n:Nat):Int)) 0)) (List.replicate (Int.toNat (Option.getD none ((List.length (encI D.l):Nat):Int) - Option.getD (some ((D.n:Nat):Int)) 0)) [CV.int IntKind.i64 0])).length=D.l.length:=by
     unfold splice
     simp only [Option.getD_some,Option.getD_none,encI_len,List.length_append,List.length_take,List.length_replicate,List.length_drop,Int.toNat_natCast]
     omega
    have st:(splice (encI D.l) (Int.toNat (Option.getD (some ((D.n:Nat):Int)) 0)) (List.replicate (Int.toNat (Option.getD none ((List.length (encI D.l):Nat):Int) - Option.getD (some ((D.n:Nat):Int)) 0)) [CV.int IntKind.i64 0])).take D.n=encI (D.l.take D.n):=by
     unfold splice
     simp only [Option.getD_some,Int.toNat_natCast]
     rw [List.append_assoc,List.take_append_of_le_length (by simp;omega),List.take_take,Nat.min_self]
     simp [encI,List.map_take]
    have b2:∀ n:Nat,n=D.l.length->okBounds n none (some ((D.n:Nat):Int)) none=true:=fun n hn=>by
     unfold okBounds
     simp only [Option.getD_some,Option.getD_none,Bool.true_and,Bool.and_eq_true,decide_eq_true_eq]
     omega
    refine ⟨.sl 1 (encI (D.l.take D.n)),by rw [cond_true,hfil,<- z3];rfl,fun β K => ?_⟩
    rw [r16]
    simp only [decI_map,decP_map,decBs_enc,Option.bind_some,e,hp0,cond_true,hm,Bool.not_true,cond_false,Nat.ble_eq_true_of_le (smH_le hs).2.1,atV_enc,hca,hpre,Nat.ble_eq_true_of_le hc8,Bool.and_self,hf,Option.isSome_some,Option.getD_some,c1,wk,c2,hD,b1]
    have b2':=b2 _ sl
    simp only [Option.getD_some] at b2'
    simp only [Option.getD_some,Int.toNat_natCast] at st
    rw [b2',cond_true]
    show K (.sl 1 (((splice _ _ _).drop 0).take _)) []=_
    rw [List.drop_zero]
    simp only [Int.sub_zero,Int.toNat_natCast,st]
end Go.Ab

namespace Go.Ab
open Go
set_option maxRecDepth 100000
open Go.Proofs
structure HH where
 h:Hp
 k:Hp
end Go.Ab

namespace Go.Ab
open Go
set_option maxRecDepth 100000
open Go.Proofs
end Go.Ab

namespace Go.Ab
open Go
set_option maxRecDepth 100000
open Go.Proofs
structure P19 where
 l:Ls
 o:Ls
end Go.Ab

namespace Go.Ab
open Go
set_option maxRecDepth 100000
open Go.Proofs
end Go.Ab

namespace Go.Ab
open Go
set_option maxRecDepth 100000
open Go.Proofs
end Go.Ab

namespace Go.Ab
open Go
set_option maxRecDepth 100000
open Go.Proofs
noncomputable abbrev z107:Cx:=cxG Pr Tryz.f142 [(202,gApages)]
def gNewA:Callee:=g1 cI (fun n=>n==1) fun _ => .tup [cIs.enc (List.replicate 16 0),.int .i64 0]
theorem newA_good:GoodC Pr 142 gNewA:=
 good1 ((CxOK.baseG (Good.cons apages_good Good.nil) GoodI.nil (eqOK_none fun _=>rfl)).sound (cx:=z107) Tryz.func142 (by kernel_rfl) (by kernel_rfl) rfl (by kernel_rfl)) fun n hp β K=>by
  have hn:n=1:=eq_of_beq hp
  subst hn
  have:∀ (β:Type) (K:CV->List (List CV)->Option β),fnK z107 Tryz.f142 [cI.enc 1] [] K=K (.tup [cIs.enc (List.replicate 16 0),.int .i64 0]) []:=fun β K=>by kernel_rfl
  exact this β K
noncomputable abbrev z55:Cx:=cxN Pr Tryz.f74 [(142,gNewA)]
theorem zr55 (_u:Unit) (β:Type) (K:CV->List (List CV)->Option β):fnK z55 Tryz.f74 [.int .i64 1] [] K=
 K (CV.tup [CV.agg [CV.sl 1 [[CV.int IntKind.i64 0],[CV.int IntKind.i64 0],[CV.int IntKind.i64 0],[CV.int IntKind.i64 0],[CV.int IntKind.i64 0],[CV.int IntKind.i64 0],[CV.int IntKind.i64 0],[CV.int IntKind.i64 0],[CV.int IntKind.i64 0],[CV.int IntKind.i64 0],[CV.int IntKind.i64 0],[CV.int IntKind.i64 0],[CV.int IntKind.i64 0],[CV.int IntKind.i64 0],[CV.int IntKind.i64 0],[CV.int IntKind.i64 0]],CV.sl 2 [[CV.int IntKind.i64 0,CV.int IntKind.i64 0]],CV.sl 1 [],CV.sl 1 [],CV.sl 1 [],CV.sl 1 [[CV.bool false],[CV.bool false]]],CV.int IntKind.i64 0]) []:=by kernel_rfl
end Go.Ab

namespace Go.Ab
open Go
set_option maxRecDepth 100000
open Go.Proofs
def hN:Hp:=⟨List.replicate 16 0,[(0,0)],⟨[],[],[]⟩,[false,false]⟩
def gNew:Callee:=g1 cI (fun n=>n==1) fun _ => .tup [cHp.enc hN,.int .i64 0]
theorem new_good:GoodC Pr 74 gNew:=
 good1 ((CxOK.baseN (Good.cons newA_good Good.nil) GoodI.nil (eqOK_none fun _=>rfl)).sound (cx:=z55) Tryz.func74 (by kernel_rfl) (by kernel_rfl) rfl (by kernel_rfl)) fun n hp β K=>by
  have hn:n=1:=eq_of_beq hp
  subst hn
  exact zr55 () β K
end Go.Ab

namespace Go.Ab
open Go
set_option maxRecDepth 100000
open Go.Proofs
structure Fr where
 h:Hp
 c:Ls
end Go.Ab

namespace Go.Ab
open Go
set_option maxRecDepth 100000
open Go.Proofs
def RowC.cb {α:Type} (R:RowC α):CodB α where
 enc:=fun a=>[R.e a]
 dec:=fun c=>match c with | [l]=>R.d l | _=>none
 ok:=fun c t h=>by
  split at h
  ·rw [R.ok _ _ h]
  ·cases h
 de:=R.de
abbrev p70:=[false,true,false,true,true]
abbrev o70:Exit->List Nat:=fun _=>[3]
noncomputable abbrev y70a:Cx:=cxN Pr Tryz.f70 []
theorem yh0 (t:Thr) (O:List Int) (m:Nat) (β:Type) (K:Exit->List CV->List (List CV)->Option β):loopB y70a [1,3,6] o70 p70 (bodyL (bodyOf Tryz.f70) p70) (m+1) [.ref 0,cOI.enc O,cI.enc 0] [rTh.e t] K=
 bif Thr.r0 t != 0 then
 if List.length (encI O++[[CV.int IntKind.i64 (Thr.r0 t)]])<=LIM then loopB y70a [1,3,6] o70 [false,true,false,true,true] (bodyL (bodyOf Tryz.f70) p70) m [CV.ref 0,CV.own 1 (encI O++[[CV.int IntKind.i64 (Thr.r0 t)]]),CV.int IntKind.i64 1] [(RowC.e rTh t)] fun a a_1 a_2=>K a a_1 a_2
 else none
 else loopB y70a [1,3,6] o70 [false,true,false,true,true] (bodyL (bodyOf Tryz.f70) p70) m [CV.ref 0,CV.own 1 (encI O),CV.int IntKind.i64 1] [(RowC.e rTh t)] fun a a_1 a_2=>K a a_1 a_2:=by kernel_rfl
theorem yh1 (t:Thr) (O:List Int) (m:Nat) (β:Type) (K:Exit->List CV->List (List CV)->Option β):loopB y70a [1,3,6] o70 p70 (bodyL (bodyOf Tryz.f70) p70) (m+1) [.ref 0,cOI.enc O,cI.enc 1] [rTh.e t] K=
 bif Thr.r1 t != 0 then
 if List.length (encI O++[[CV.int IntKind.i64 (Thr.r1 t)]])<=LIM then loopB y70a [1,3,6] o70 [false,true,false,true,true] (bodyL (bodyOf Tryz.f70) p70) m [CV.ref 0,CV.own 1 (encI O++[[CV.int IntKind.i64 (Thr.r1 t)]]),CV.int IntKind.i64 2] [(RowC.e rTh t)] fun a a_1 a_2=>K a a_1 a_2
 else none
 else loopB y70a [1,3,6] o70 [false,true,false,true,true] (bodyL (bodyOf Tryz.f70) p70) m [CV.ref 0,CV.own 1 (encI O),CV.int IntKind.i64 2] [(RowC.e rTh t)] fun a a_1 a_2=>K a a_1 a_2:=by kernel_rfl
theorem yh2 (t:Thr) (O:List Int) (m:Nat) (β:Type) (K:Exit->List CV->List (List CV)->Option β):loopB y70a [1,3,6] o70 p70 (bodyL (bodyOf Tryz.f70) p70) (m+1) [.ref 0,cOI.enc O,cI.enc 2] [rTh.e t] K=
 bif Thr.r2 t != 0 then
 if List.length (encI O++[[CV.int IntKind.i64 (Thr.r2 t)]])<=LIM then loopB y70a [1,3,6] o70 [false,true,false,true,true] (bodyL (bodyOf Tryz.f70) p70) m [CV.ref 0,CV.own 1 (encI O++[[CV.int IntKind.i64 (Thr.r2 t)]]),CV.int IntKind.i64 3] [(RowC.e rTh t)] fun a a_1 a_2=>K a a_1 a_2
 else none
 else loopB y70a [1,3,6] o70 [false,true,false,true,true] (bodyL (bodyOf Tryz.f70) p70) m [CV.ref 0,CV.own 1 (encI O),CV.int IntKind.i64 3] [(RowC.e rTh t)] fun a a_1 a_2=>K a a_1 a_2:=by kernel_rfl
theorem yh3 (t:Thr) (O:List Int) (m:Nat) (β:Type) (K:Exit->List CV->List (List CV)->Option β):loopB y70a [1,3,6] o70 p70 (bodyL (bodyOf Tryz.f70) p70) (m+1) [.ref 0,cOI.enc O,cI.enc 3] [rTh.e t] K=
 bif Thr.r3 t != 0 then
 if List.length (encI O++[[CV.int IntKind.i64 (Thr.r3 t)]])<=LIM then loopB y70a [1,3,6] o70 [false,true,false,true,true] (bodyL (bodyOf Tryz.f70) p70) m [CV.ref 0,CV.own 1 (encI O++[[CV.int IntKind.i64 (Thr.r3 t)]]),CV.int IntKind.i64 4] [(RowC.e rTh t)] fun a a_1 a_2=>K a a_1 a_2
 else none
 else loopB y70a [1,3,6] o70 [false,true,false,true,true] (bodyL (bodyOf Tryz.f70) p70) m [CV.ref 0,CV.own 1 (encI O),CV.int IntKind.i64 4] [(RowC.e rTh t)] fun a a_1 a_2=>K a a_1 a_2:=by kernel_rfl
theorem yh4 (t:Thr) (O:List Int) (m:Nat) (β:Type) (K:Exit->List CV->List (List CV)->Option β):loopB y70a [1,3,6] o70 p70 (bodyL (bodyOf Tryz.f70) p70) (m+1) [.ref 0,cOI.enc O,cI.enc 4] [rTh.e t] K=
 bif Thr.x t != 0 then
 if List.length (encI O++[[CV.int IntKind.i64 (Thr.x t)]])<=LIM then loopB y70a [1,3,6] o70 [false,true,false,true,true] (bodyL (bodyOf Tryz.f70) p70) m [CV.ref 0,CV.own 1 (encI O++[[CV.int IntKind.i64 (Thr.x t)]]),CV.int IntKind.i64 5] [(RowC.e rTh t)] fun a a_1 a_2=>K a a_1 a_2
 else none
 else loopB y70a [1,3,6] o70 [false,true,false,true,true] (bodyL (bodyOf Tryz.f70) p70) m [CV.ref 0,CV.own 1 (encI O),CV.int IntKind.i64 5] [(RowC.e rTh t)] fun a a_1 a_2=>K a a_1 a_2:=by kernel_rfl
theorem yh5 (t:Thr) (O:List Int) (m:Nat) (β:Type) (K:Exit->List CV->List (List CV)->Option β):loopB y70a [1,3,6] o70 p70 (bodyL (bodyOf Tryz.f70) p70) (m+1) [.ref 0,cOI.enc O,cI.enc 5] [rTh.e t] K=
 bif Thr.y t != 0 then
 if List.length (encI O++[[CV.int IntKind.i64 (Thr.y t)]])<=LIM then loopB y70a [1,3,6] o70 [false,true,false,true,true] (bodyL (bodyOf Tryz.f70) p70) m [CV.ref 0,CV.own 1 (encI O++[[CV.int IntKind.i64 (Thr.y t)]]),CV.int IntKind.i64 6] [(RowC.e rTh t)] fun a a_1 a_2=>K a a_1 a_2
 else none
 else loopB y70a [1,3,6] o70 [false,true,false,true,true] (bodyL (bodyOf Tryz.f70) p70) m [CV.ref 0,CV.own 1 (encI O),CV.int IntKind.i64 6] [(RowC.e rTh t)] fun a a_1 a_2=>K a a_1 a_2:=by kernel_rfl
theorem yh6 (t:Thr) (O:List Int) (m:Nat) (β:Type) (K:Exit->List CV->List (List CV)->Option β):loopB y70a [1,3,6] o70 p70 (bodyL (bodyOf Tryz.f70) p70) (m+1) [.ref 0,cOI.enc O,cI.enc 6] [rTh.e t] K=
 K (Exit.exit 0) [CV.own 1 (encI O)] [(RowC.e rTh t)]:=by kernel_rfl
theorem add_nz {β:Type} {O:List Int} {a:Int} (hO:O.length<=10) (X:List (List CV)->Option β):
  (bif a != 0 then (if List.length (encI O++[[CV.int .i64 a]])<=LIM then X (encI O++[[CV.int .i64 a]]) else none) else X (encI O))=X (encI (O++[a].filter (· != 0))):=by
 cases hb:a != 0 with
 | true=>
  rw [cond_true,if_pos (lim_of (by simp [encI];omega))]
  have e:[a].filter (· != 0)=[a]:=by unfold List.filter;rw [hb];rfl
  rw [e]
  simp [encI]
 | false=>
  have e:[a].filter (· != 0)=[]:=by unfold List.filter;rw [hb];rfl
  rw [cond_false,e,List.append_nil]
theorem filt_len (a:Int):([a].filter (· != 0)).length<=1:=List.length_filter_le _ _
theorem holds_run (t:Thr) (β:Type) (K:Exit->List CV->List (List CV)->Option β):loopB y70a [1,3,6] o70 p70 (bodyL (bodyOf Tryz.f70) p70) 7 [.ref 0,cOI.enc [],cI.enc 0] [rTh.e t] K=K (.exit 0) [cOI.enc (holdsE t)] [rTh.e t]:=by
 have f0:=filt_len t.r0
 have f1:=filt_len t.r1
 have f2:=filt_len t.r2
 have f3:=filt_len t.r3
 have f4:=filt_len t.x
 have X:∀ (m:Nat) (i:Int) (L:List (List CV)),Option β:=fun m i L=>loopB y70a [1,3,6] o70 p70 (bodyL (bodyOf Tryz.f70) p70) m [.ref 0,.own 1 L,.int .i64 i] [rTh.e t] K
 refine ((yh0 t [] 6 β K).trans (add_nz (by simp) fun L=>loopB y70a [1,3,6] o70 p70 (bodyL (bodyOf Tryz.f70) p70) 6 [.ref 0,.own 1 L,.int .i64 1] [rTh.e t] K)).trans ?_
 refine ((yh1 t _ 5 β K).trans (add_nz (by simp only [List.length_append,List.length_nil];omega) fun L=>loopB y70a [1,3,6] o70 p70 (bodyL (bodyOf Tryz.f70) p70) 5 [.ref 0,.own 1 L,.int .i64 2] [rTh.e t] K)).trans ?_
 refine ((yh2 t _ 4 β K).trans (add_nz (by simp only [List.length_append,List.length_nil];omega) fun L=>loopB y70a [1,3,6] o70 p70 (bodyL (bodyOf Tryz.f70) p70) 4 [.ref 0,.own 1 L,.int .i64 3] [rTh.e t] K)).trans ?_
 refine ((yh3 t _ 3 β K).trans (add_nz (by simp only [List.length_append,List.length_nil];omega) fun L=>loopB y70a [1,3,6] o70 p70 (bodyL (bodyOf Tryz.f70) p70) 3 [.ref 0,.own 1 L,.int .i64 4] [rTh.e t] K)).trans ?_
 refine ((yh4 t _ 2 β K).trans (add_nz (by simp only [List.length_append,List.length_nil];omega) fun L=>loopB y70a [1,3,6] o70 p70 (bodyL (bodyOf Tryz.f70) p70) 2 [.ref 0,.own 1 L,.int .i64 5] [rTh.e t] K)).trans ?_
 refine ((yh5 t _ 1 β K).trans (add_nz (by simp only [List.length_append,List.length_nil];omega) fun L=>loopB y70a [1,3,6] o70 p70 (bodyL (bodyOf Tryz.f70) p70) 1 [.ref 0,.own 1 L,.int .i64 6] [rTh.e t] K)).trans ?_
 refine (yh6 t _ 0 β K).trans ?_
 simp only [<- List.filter_append,List.nil_append,List.cons_append]
 rfl
def L70:LoopSem:=l3 [1,3,6] o70 (cRef 0) cOI cI rTh.cb (fun _ O i _=>O.isEmpty&&i==0) fun _ _ _ t => .one (.exit 0) [cOI.enc (holdsE t)] [rTh.e t]
noncomputable abbrev y70:Cx:=y70a.loop p70 L70
theorem y70_ok:CxOK y70 []:=by
 refine CxOK.loop3 (CxOK.baseN Good.nil GoodI.nil (eqOK_none fun _=>rfl)) rfl fun _ O i t hp => ?_
 simp only [Bool.and_eq_true,beq_iff_eq,List.isEmpty_iff] at hp
 obtain ⟨rfl,rfl⟩:=hp
 exact ⟨7,fun β K=>holds_run t β K⟩
theorem yr70 (t:Thr) (β:Type) (K:CV->List (List CV)->Option β):fnK y70 Tryz.f70 [cTh.enc t] [] K=
 Option.bind (Option.bind (decI (encI (Ls.a (Thr.c t)))) fun a=>
 Option.bind (decI (encI (Ls.b (Thr.c t)))) fun b=>
 Option.bind (decI (encI (Ls.c (Thr.c t)))) fun c=>
 Option.bind (RowC.dl rOp (List.map (RowC.e rOp) (Thr.d t))) fun d=>some {lv:=Thr.lv t,r0:=Thr.r0 t,r1:=Thr.r1 t,r2:=Thr.r2 t,r3:=Thr.r3 t,c:={a:=a,b:=b,c:=c},ep:=Thr.ep t,st:=Thr.st t,ro:=Thr.ro t,d:=d,pc:=Thr.pc t,x:=Thr.x t,y:=Thr.y t}) fun u=>K (CV.own 1 (encI (holdsE u))) []:=by kernel_rfl
noncomputable abbrev y71:Cx:=cxN Pr Tryz.f71 [(22,gHead)]
theorem yr71 (h:Hp) (a:Int) (β:Type) (K:CV->List (List CV)->Option β):fnK y71 Tryz.f71 [cHp.enc h,cI.enc a] [] K=
 Option.bind (Option.bind (decI (encI (Hp.w h))) fun w=>
 Option.bind (decP (List.map encP (Hp.p h))) fun p=>
 Option.bind (decI (encI (Ls.a (Hp.f h)))) fun a=>
 Option.bind (decI (encI (Ls.b (Hp.f h)))) fun b=>
 Option.bind (decI (encI (Ls.c (Hp.f h)))) fun c=>
 Option.bind (decBs (encBs (Hp.c h))) fun d=>some {w:=w,p:=p,f:={a:=a,b:=b,c:=c},c:=d}) fun a_1=>
 bif smH a_1&&smLs [Hp.f a_1] then
 bif Prod.snd (headE a_1 a) != 0 then K (CV.own 1 []) []
 else
 bif okBounds (List.length (encI (Hp.w h))) (some (IntKind.wrap IntKind.i64 (IntKind.wrap IntKind.i64 (a+1) - 16))) none none then
 bif okBounds (List.length (subl (encI (Hp.w h)) (Int.toNat (Option.getD (some (IntKind.wrap IntKind.i64 (IntKind.wrap IntKind.i64 (a+1) - 16))) 0)) (Int.toNat (Option.getD none (↑(List.length (encI (Hp.w h))):Int) - Option.getD (some (IntKind.wrap IntKind.i64 (IntKind.wrap IntKind.i64 (a+1) - 16))) 0)))) none (some (Hd.x (Prod.fst (headE a_1 a)))) none then
 K (CV.sl 1 (subl (subl (encI (Hp.w h)) (Int.toNat (Option.getD (some (IntKind.wrap IntKind.i64 (IntKind.wrap IntKind.i64 (a+1) - 16))) 0)) (Int.toNat (Option.getD none (↑(List.length (encI (Hp.w h))):Int) - Option.getD (some (IntKind.wrap IntKind.i64 (IntKind.wrap IntKind.i64 (a+1) - 16))) 0))) 0 (Int.toNat (Option.getD (some (Hd.x (Prod.fst (headE a_1 a)))) (↑(List.length (subl (encI (Hp.w h)) (Int.toNat (Option.getD (some (IntKind.wrap IntKind.i64 (IntKind.wrap IntKind.i64 (a+1) - 16))) 0)) (Int.toNat (Option.getD none (↑(List.length (encI (Hp.w h))):Int) - Option.getD (some (IntKind.wrap IntKind.i64 (IntKind.wrap IntKind.i64 (a+1) - 16))) 0)))):Int) - 0)))) []
 else none
 else none
 else none:=by kernel_rfl
noncomputable abbrev y59:Cx:=cxN Pr Tryz.f59 [(41,gLight)]
theorem yr59 (t:Thr) (β:Type) (K:CV->List (List CV)->Option β):fnK y59 Tryz.f59 [cTh.enc t] [] K=
 bif decide ((↑(List.length (List.map (RowC.e rOp) (Thr.d t))):Int)<=220) then
 Option.bind (Option.bind (decI (encI (Ls.a (Thr.c t)))) fun a=>
 Option.bind (decI (encI (Ls.b (Thr.c t)))) fun b=>
 Option.bind (decI (encI (Ls.c (Thr.c t)))) fun c=>some {a:=a,b:=b,c:=c}) fun a=>K (CV.bool (lightV a)) []
 else K (CV.bool false) []:=by kernel_rfl
abbrev p23:=[false,true,false,true]
abbrev o23:Exit->List Nat:=fun | .ret=>[4] | _=>[]
noncomputable abbrev y23a:Cx:=cxN Pr Tryz.f23 []
theorem yt23 (xs:List Int) (a i:Int) (m:Nat) (β:Type) (K:Exit->List CV->List (List CV)->Option β):loopB y23a [0,1,5] o23 p23 (bodyL (bodyOf Tryz.f23) p23) (m+1) [cIs.enc xs,cI.enc a,cI.enc i] [] K=
 bif decide (i<(↑(List.length (encI xs)):Int)) then
 Option.bind (rdE (encI xs) i) fun c=>
 Option.bind c[0]? fun x=>
 Option.bind (asI IntKind.i64 x) fun n=>
 bif n==a then K Exit.ret [CV.bool true] []
 else loopB y23a [0,1,5] o23 [false,true,false,true] (bodyL (bodyOf Tryz.f23) p23) m [CV.sl 1 (encI xs),CV.int IntKind.i64 a,CV.int IntKind.i64 (IntKind.wrap IntKind.i64 (i+1))] [] fun a a_1 a_2=>K a a_1 a_2
 else K (Exit.exit 0) [] []:=by kernel_rfl
end Go.Ab

namespace Go.Ab
open Go
set_option maxRecDepth 100000
open Go.ChangeShapes Go.WideShapes Go.RowKit
open Go.Proofs
theorem clone_any {α:Type} {C D:Cod (List α)} {sz f N:Nat} (hsz:0<sz) (c0:C.enc [] = .sl sz []) (d0:D.enc [] = .own sz [])
  (hne:GoodC Pr f (g1 C (fun w => !w.isEmpty&&Nat.ble w.length N) fun w=>D.enc w))
  (hnil:∀ (n c:Nat) (w:World),Calls Pr f #[.slice none n c] w fun e w'=>e = .returned (.slice none 0 0)/\w'=w)
  (hzero:∀ (a:Addr) (c:Nat) (w:World),Calls Pr f #[.slice (some a) 0 c] w fun e w'=>∃ v' t,e = .returned v'/\w'.ownsRow w.heap.size t sz v' 0 []/\Below w.heap.size w w'):
  GoodC Pr f (g1 C (fun w=>Nat.ble w.length N) fun w=>D.enc w):=by
 refine ⟨⟨hne.s.enter,fun args conts β K r hr => ?_⟩,g1_nat _⟩
 unfold g1 at hr
 dsimp only at hr
 split at hr
 ·rename_i a
  replace hr:=C.bd hr
  obtain ⟨xs,rfl,hr⟩:=hr
  replace hr:=cond_some hr
  obtain ⟨hp,hr⟩:=hr
  cases hxs:xs.isEmpty with
  | false=>
   refine hne.s.calls [C.enc xs] [] β K r ?_
   unfold g1
   dsimp only
   rw [C.de,Option.bind_some,hxs,hp]
   exact hr
  | true=>
   have hxs:=List.isEmpty_iff.1 hxs
   subst hxs
   refine ⟨_,_,hr,fun w M vs bs B m => ?_⟩
   have hv:vs=#[vs.getD 0 undef]:=by
    apply Array.ext
    ·simpa using m.size
    ·intro j h1 h2
     have:j=0:=by simp at h2;exact h2
     subst this
     simp [h1]
   have ha:=m.arg 0 (C.enc []) rfl
   rw [hv]
   generalize vs.getD 0 undef=v at ha
   obtain ⟨rfl,rfl⟩:bs=[]/\B=[]:=by
    have hc:=m.cont
    cases bs with
    | nil=>exact ⟨rfl,hc⟩
    | cons b bs=>exact hc.elim
   rw [c0] at ha
   have hcr:CR w M (.sl sz []) v:=by
    rcases ha with ⟨k,b,h1,_⟩ | ha
    ·cases h1
    ·exact ha
   obtain ⟨a,cap,rfl⟩:∃ a cap,v = .slice a 0 cap:=by
    cases hcr with
    | sl0 _ a cap=>exact ⟨a,cap,rfl⟩
    | sl=>exact ⟨_,_,rfl⟩
   rw [d0]
   ·cases a with
    | none=>
     refine (hnil 0 cap w).mono ?_
     rintro e w' ⟨rfl,rfl⟩
     exact ⟨_,[],[],rfl,⟨⟨rfl,rfl⟩,Nat.le_refl _,fun _ _ _=>rfl,fun b hb=>(by cases hb),List.nodup_nil,.ownN sz hsz,rfl⟩⟩
    | some a=>
     refine (hzero a cap w).mono ?_
     rintro e w' ⟨v',t,rfl,ho,hb⟩
     obtain ⟨q1,q2,q3⟩:=below_io hb
     rcases ho.2 with ⟨rfl,_⟩ | ⟨g,cap',cur,rfl,g1,g2,g3,g4,g5,g6⟩
     ·exact ⟨_,[],[],rfl,⟨q1,q2,fun b hb _=>q3 b hb,fun b hb=>(by cases hb),List.nodup_nil,.ownN sz hsz,rfl⟩⟩
     ·refine ⟨_,[g],[],rfl,⟨q1,q2,fun b hb _=>q3 b hb,fun b hb => ?_,by simp,?_,rfl⟩⟩
      ·simp at hb;subst hb;exact .inr g1
      ·exact .own sz [] g cap' cur t hsz (fun e he=>by cases he) (Nat.zero_le _) g2 (Nat.zero_le _) (by omega) fun k j x hx=>by simp [at2] at hx
 ·cases hr
noncomputable abbrev y117:Cx:=cxN Pr Tryz.f117 [] [] (fun t=>Nat.beq t 5)
theorem yr117 (l:List Opn) (β:Type) (K:CV->List (List CV)->Option β):fnK y117 Tryz.f117 [cOps.enc l] [] K=
 bif List.isEmpty (List.map (RowC.e rOp) l) then none
 else
 if List.length ([]++List.map (RowC.e rOp) l)<=LIM then K (CV.own 4 ([]++List.map (RowC.e rOp) l)) [] else none:=by kernel_rfl
def cOOps:Cod (List Opn):=rOp.osl 4
theorem cloneO_ne:GoodC Pr 117 (g1 cOps (fun l => !l.isEmpty&&Nat.ble l.length 4000000000) fun l=>cOOps.enc l):=
 good1 ((CxOK.baseN Good.nil GoodI.nil (eqOK_none fun _=>rfl)).sound (cx:=y117) Tryz.func117 (by kernel_rfl) (by kernel_rfl) rfl (by kernel_rfl)) fun l hp β K=>by
  simp only [Bool.and_eq_true,Bool.not_eq_true'] at hp
  have hl:=Nat.le_of_ble_eq_true hp.2
  have e1:(l.map rOp.e).isEmpty=false:=by rw [List.isEmpty_map];exact hp.1
  rw [yr117,e1,cond_false,List.nil_append,if_pos (lim_of (by rw [List.length_map];omega))]
  rfl
def gCloneO:Callee:=g1 cOps (fun l=>Nat.ble l.length 4000000000) fun l=>cOOps.enc l
theorem cloneO_good:GoodC Pr 117 gCloneO:=clone_any (by decide) rfl rfl cloneO_ne clone_nil117 clone_zero117
noncomputable abbrev y97:Cx:=cxN Pr Tryz.f97 []
noncomputable abbrev y195:Cx:=cxN Pr Tryz.f195 []
end Go.Ab

namespace Go.Ab
open Go
set_option maxRecDepth 100000
open Go.Proofs
def gHoldsT:Callee:=g1 cTh (fun _=>true) fun t=>cOI.enc (holdsE t)
theorem holds_good:GoodC Pr 70 gHoldsT:=
 good1 (y70_ok.sound (cx:=y70) Tryz.func70 (by kernel_rfl) (by kernel_rfl) rfl (by kernel_rfl)) fun t _ β K=>by
  rw [yr70]
  simp only [decI_map,rOp.dm,Option.bind_some]
  rfl
theorem hp_eta (h:Hp):(⟨h.w,h.p,⟨h.f.a,h.f.b,h.f.c⟩,h.c⟩:Hp)=h:=by cases h;rfl
def gFields:Callee:=g2 cHp cI (fun h _=>smH h&&smLs [h.f]) fun h a=>cIs.enc (fieldsE h a)
theorem fields_good:GoodC Pr 71 gFields:=
 good2S ((CxOK.baseN (Good.cons head_good Good.nil) GoodI.nil (eqOK_none fun _=>rfl)).sound (cx:=y71) Tryz.func71 (by kernel_rfl) (by kernel_rfl) rfl (by kernel_rfl)) fun h a hp=>by
  have hs:=(Bool.and_eq_true_iff.1 hp).1
  have hl:=(smH_le hs).1
  cases he:((headE h a).2 != 0) with
  | true=>
   refine ⟨.own 1 [],?_,fun β K => ?_⟩
   ·unfold fieldsE;rw [he];rfl
   ·rw [yr71]
    simp only [decI_map,decP_map,decBs_enc,Option.bind_some,hp_eta,hp,he,cond_true]
  | false=>
   obtain ⟨a1,a2,a3,a4,a5⟩:=head_fits he
   refine ⟨cIs.enc (fieldsE h a),rfl,fun β K => ?_⟩
   rw [yr71]
   simp only [decI_map,decP_map,decBs_enc,Option.bind_some,hp_eta,hp,he,cond_true,cond_false,Option.getD_some,Option.getD_none,wrap_in (a:=a+1) (by omega),wrap_in (a:=a+1 - 16) (by omega)]
   have e1:((encI h.w).length - (a+1 - 16):Int).toNat=h.w.length - (a+1 - 16).toNat:=by rw [encI_len];omega
   rw [e1]
   have l2:(subl (encI h.w) (a+1 - 16).toNat (h.w.length - (a+1 - 16).toNat)).length=h.w.length - (a+1 - 16).toNat:=by
    unfold subl;rw [List.length_take,List.length_drop,encI_len];omega
   have b1:okBounds (encI h.w).length (some (a+1 - 16)) none none=true:=by
    unfold okBounds;rw [encI_len];simp;omega
   have b2:okBounds (h.w.length - (a+1 - 16).toNat) none (some (headE h a).1.x) none=true:=by
    unfold okBounds;simp;omega
   rw [l2,b1,b2,cond_true,cond_true]
   have e3:subl (subl (encI h.w) (a+1 - 16).toNat (h.w.length - (a+1 - 16).toNat)) 0 ((headE h a).1.x - 0).toNat=encI (fieldsE h a):=by
    unfold fieldsE subl encI
    rw [he,cond_false,List.drop_zero,List.take_take,List.map_take,List.map_drop,show min ((headE h a).1.x - 0).toNat (h.w.length - (a+1 - 16).toNat)=(headE h a).1.x.toNat by omega]
   rw [e3];rfl
theorem in_loop (xs:List Int) (a:Int) (hx:xs.length<=100000) (β:Type) (K:Exit->List CV->List (List CV)->Option β):∀ (m i:Nat),i+m=xs.length->
  loopB y23a [0,1,5] o23 p23 (bodyL (bodyOf Tryz.f23) p23) (m+1) [cIs.enc xs,cI.enc a,cI.enc (i:Int)] [] K=bif (xs.drop i).contains a then K .ret [cB.enc true] [] else K (.exit 0) [] []:=by
 intro m
 induction m with
 | zero=>
  intro i h1
  rw [yt23,decide_eq_false (by rw [encI_len];omega),cond_false,List.drop_eq_nil_of_le (by omega)]
  rfl
 | succ m ih=>
  intro i h1
  have hi:i<xs.length:=by omega
  have e1:(encI xs)[(i:Int).toNat]? = some [CV.int .i64 xs[i]]:=by simp [encI,hi]
  have w:IntKind.i64.wrap ((i:Int)+1)=((i+1:Nat):Int):=by rw [wrap_in (by omega)];omega
  rw [yt23,decide_eq_true (by rw [encI_len];omega),cond_true,rdE_nat (by omega),e1]
  simp only [Option.bind_some,zero_get,asI_i,w]
  rw [List.drop_eq_getElem_cons hi,List.contains_cons]
  by_cases hq:xs[i]=a
  ·rw [hq,beq_self_eq_true,cond_true,Bool.true_or,cond_true];rfl
  ·have e2:(xs[i]==a)=false:=beq_eq_false_iff_ne.2 hq
   have e3:(a==xs[i])=false:=beq_eq_false_iff_ne.2 (Ne.symm hq)
   rw [e2,e3,cond_false,Bool.false_or]
   exact ih (i+1) (by omega)
def L23:LoopSem:=l3 [0,1,5] o23 cIs cI cI c0 (fun xs _ i _=>Nat.ble xs.length 100000&&i==0) fun xs a _ _ => .alt (xs.contains a) (.one .ret [cB.enc true] []) (.one (.exit 0) [] [])
noncomputable abbrev y23:Cx:=y23a.loop p23 L23
theorem y23_ok:CxOK y23 []:=by
 refine CxOK.loop3 (CxOK.baseN Good.nil GoodI.nil (eqOK_none fun _=>rfl)) rfl fun xs a i _ hp => ?_
 simp only [Bool.and_eq_true,beq_iff_eq] at hp
 obtain ⟨hx,rfl⟩:=hp
 refine ⟨xs.length+1,fun β K=>(in_loop xs a (Nat.le_of_ble_eq_true hx) β K xs.length 0 (by omega)).trans ?_⟩
 rw [List.drop_zero]
 show _=(bif xs.contains a then _ else _)
 cases xs.contains a <;> rfl
theorem yr23 (xs:List Int) (a:Int) (β:Type) (K:CV->List (List CV)->Option β):fnK y23 Tryz.f23 [cIs.enc xs,cI.enc a] [] K=
 Option.bind (decI (encI xs)) fun a_1=>
 bif Nat.ble (List.length a_1) 100000&&true then
 bif List.contains a_1 a then K (CV.bool true) [] else K (CV.bool false) []
 else none:=by kernel_rfl
def gIn23:Callee:=g2 cIs cI (fun xs _=>Nat.ble xs.length 100000) fun xs a=>cB.enc (xs.contains a)
def few12 (t:Thr):Bool:=decide ((t.d.length:Int)<=220)&&lightV t.c
def gFew12:Callee:=g1 cTh (fun _=>true) fun t=>cB.enc (few12 t)
theorem few12_good:GoodC Pr 59 gFew12:=
 good1 ((CxOK.baseN (Good.cons light_good Good.nil) GoodI.nil (eqOK_none fun _=>rfl)).sound (cx:=y59) Tryz.func59 (by kernel_rfl) (by kernel_rfl) rfl (by kernel_rfl)) fun t _ β K=>by
  rw [yr59]
  unfold few12
  simp only [decI_map,Option.bind_some,List.length_map]
  cases decide ((t.d.length:Int)<=220) <;> rfl
abbrev py19:=[false,true,false,true,true]
abbrev oy19:Exit->List Nat:=fun | .exit 0=>[3] | _=>[]
noncomputable abbrev y19a:Cx:=cxN Pr Tryz.f19 [(58,gFewH),(59,gFew12)]
theorem yt19 (w:Wld) (ok:Bool) (i:Int) (m:Nat) (β:Type) (K:Exit->List CV->List (List CV)->Option β):loopB y19a [1,3,4] oy19 py19 (bodyL (bodyOf Tryz.f19) py19) (m+1) [.ref 0,cB.enc ok,cI.enc i] [rWl.e w] K=
 bif decide (i<(↑(List.length (List.map (RowC.e rTh) (Wld.t w))):Int)) then
 bif ok then
 Option.bind (rdE (List.map (RowC.e rTh) (Wld.t w)) i) fun c=>
 Option.bind c[0]? fun x=>
 Option.bind (asB x) fun b=>
 Option.bind c[1]? fun x=>
 Option.bind (asI IntKind.i64 x) fun n=>
 Option.bind c[2]? fun x=>
 Option.bind (asI IntKind.i64 x) fun n_1=>
 Option.bind c[3]? fun x=>
 Option.bind (asI IntKind.i64 x) fun n_2=>
 Option.bind c[4]? fun x=>
 Option.bind (asI IntKind.i64 x) fun n_3=>
 Option.bind c[5]? fun x=>
 Option.bind (asL 1 x) fun l=>
 Option.bind c[6]? fun x=>
 Option.bind (asL 1 x) fun l_1=>
 Option.bind c[7]? fun x=>
 Option.bind (asL 1 x) fun l_2=>
 Option.bind c[8]? fun x=>
 Option.bind (asI IntKind.i64 x) fun n_4=>
 Option.bind c[9]? fun x=>
 Option.bind (asI IntKind.i64 x) fun n_5=>
 Option.bind c[10]? fun x=>
 Option.bind (asI IntKind.i64 x) fun n_6=>
 Option.bind c[11]? fun x=>
 Option.bind (asL 4 x) fun l_3=>
 Option.bind c[12]? fun x=>
 Option.bind (asI IntKind.i64 x) fun n_7=>
 Option.bind c[13]? fun x=>
 Option.bind (asI IntKind.i64 x) fun n_8=>
 Option.bind c[14]? fun x=>
 Option.bind (asI IntKind.i64 x) fun n_9=>
 Option.bind (Option.bind (decI l) fun a=>
 Option.bind (decI l_1) fun b_1=>
 Option.bind (decI l_2) fun c=>
 Option.bind (RowC.dl rOp l_3) fun d=>some {lv:=b,r0:=n,r1:=n_1,r2:=n_2,r3:=n_3,c:={a:=a,b:=b_1,c:=c},ep:=n_4,st:=n_5,ro:=n_6,d:=d,pc:=n_7,x:=n_8,y:=n_9}) fun a=>loopB y19a [1,3,4] oy19 [false,true,false,true,true] (bodyL (bodyOf Tryz.f19) py19) m [CV.ref 0,CV.bool (few12 a),CV.int IntKind.i64 (IntKind.wrap IntKind.i64 (i+1))] [(RowC.e rWl w)] fun a a_1 a_2=>K a a_1 a_2
 else
 K (Exit.exit 0) [CV.bool ok] [(RowC.e rWl w)]
 else
 K (Exit.exit 0) [CV.bool ok] [(RowC.e rWl w)]:=by kernel_rfl
def cMpo:Cod (List Int) where
 enc := .mpo
 dec:=fun c=>match c with | .mpo ks=>some ks | _=>none
 ok:=fun c a h=>by
  split at h
  ·cases h;rfl
  ·cases h
 de:=fun _=>rfl
noncomputable abbrev y21a:Cx:=cxN Pr Tryz.f21 [(70,gHoldsT),(71,gFields)] [(72,sortN)]
abbrev p21a:=[false,true,false,true,true,true]
abbrev p21b:=[false,false,true,true,true,true]
abbrev o21a:Exit->List Nat:=fun | .exit 0=>[1,3,4,5] | _=>[]
abbrev o21b:Exit->List Nat:=fun | .exit 2=>[5] | _=>[]
theorem yt21a (w:Wld) (ks next all:List Int) (ts:List Thr) (n i:Int) (m:Nat) (β:Type) (K:Exit->List CV->List (List CV)->Option β):loopB y21a [1,3,4,5,11,12,13] o21a p21a (bodyL (bodyOf Tryz.f21) p21a) (m+1) [.ref 0,cMpo.enc ks,cOI.enc next,cOI.enc all,cTs.enc ts,cI.enc n,cI.enc i] [rWl.e w] K=
 bif decide (i<n) then
 Option.bind (rdE (List.map (RowC.e rTh) ts) i) fun c=>
 Option.bind c[0]? fun x=>
 Option.bind (asB x) fun b=>
 Option.bind c[1]? fun x=>
 Option.bind (asI IntKind.i64 x) fun n_1=>
 Option.bind c[2]? fun x=>
 Option.bind (asI IntKind.i64 x) fun n_2=>
 Option.bind c[3]? fun x=>
 Option.bind (asI IntKind.i64 x) fun n_3=>
 Option.bind c[4]? fun x=>
 Option.bind (asI IntKind.i64 x) fun n_4=>
 Option.bind c[5]? fun x=>
 Option.bind (asL 1 x) fun l=>
 Option.bind c[6]? fun x=>
 Option.bind (asL 1 x) fun l_1=>
 Option.bind c[7]? fun x=>
 Option.bind (asL 1 x) fun l_2=>
 Option.bind c[8]? fun x=>
 Option.bind (asI IntKind.i64 x) fun n_5=>
 Option.bind c[9]? fun x=>
 Option.bind (asI IntKind.i64 x) fun n_6=>
 Option.bind c[10]? fun x=>
 Option.bind (asI IntKind.i64 x) fun n_7=>
 Option.bind c[11]? fun x=>
 Option.bind (asL 4 x) fun l_3=>
 Option.bind c[12]? fun x=>
 Option.bind (asI IntKind.i64 x) fun n_8=>
 Option.bind c[13]? fun x=>
 Option.bind (asI IntKind.i64 x) fun n_9=>
 Option.bind c[14]? fun x=>
 Option.bind (asI IntKind.i64 x) fun n_10=>
 bif b then
 Option.bind (Option.bind (decI l) fun a=>
 Option.bind (decI l_1) fun b_1=>
 Option.bind (decI l_2) fun c=>
 Option.bind (RowC.dl rOp l_3) fun d=>some {lv:=b,r0:=n_1,r1:=n_2,r2:=n_3,r3:=n_4,c:={a:=a,b:=b_1,c:=c},ep:=n_5,st:=n_6,ro:=n_7,d:=d,pc:=n_8,x:=n_9,y:=n_10}) fun a=>
 if List.length (encI next++encI (holdsE a))<=LIM then loopB y21a [1,3,4,5,11,12,13] o21a [false,true,false,true,true,true] (bodyL (bodyOf Tryz.f21) p21a) m [CV.ref 0,CV.mpo ks,CV.own 1 (encI next++encI (holdsE a)),CV.own 1 (encI all),CV.sl 15 (List.map (RowC.e rTh) ts),CV.int IntKind.i64 n,CV.int IntKind.i64 (IntKind.wrap IntKind.i64 (i+1))] [(RowC.e rWl w)] fun a a_1 a_2=>K a a_1 a_2
 else none
 else loopB y21a [1,3,4,5,11,12,13] o21a [false,true,false,true,true,true] (bodyL (bodyOf Tryz.f21) p21a) m [CV.ref 0,CV.mpo ks,CV.own 1 (encI next),CV.own 1 (encI all),CV.sl 15 (List.map (RowC.e rTh) ts),CV.int IntKind.i64 n,CV.int IntKind.i64 (IntKind.wrap IntKind.i64 (i+1))] [(RowC.e rWl w)] fun a a_1 a_2=>K a a_1 a_2
 else
 K (Exit.exit 0) [CV.ref 0,CV.mpo ks,CV.own 1 (encI next),CV.own 1 (encI all)] [(RowC.e rWl w)]:=by kernel_rfl
end Go.Ab

namespace Go.Ab
open Go
set_option maxRecDepth 100000
open Go.Proofs
theorem bB {γ:Type} (b:Bool) (k:Bool->Option γ):((asB (.bool b)).bind k)=k b:=rfl
theorem bI {γ:Type} (b:Int) (k:Int->Option γ):((asI .i64 (.int .i64 b)).bind k)=k b:=by rw [asI_i];rfl
theorem bL {γ:Type} (n:Nat) (b:List (List CV)) (k:List (List CV)->Option γ):((asL n (.sl n b)).bind k)=k b:=by
 have:asL n (.sl n b)=some b:=by simp [asL]
 rw [this];rfl
theorem g0L {γ:Type} (c:List CV) (j:Nat) (x:CV) (h:c[j]? = some x) (k:CV->Option γ):(c[j]?).bind k=k x:=by rw [h];rfl
theorem thr_read0 {γ:Type} (c:List CV) (a0:Bool) (a1:Int) (a2:Int) (a3:Int) (a4:Int) (a5:List (List CV)) (a6:List (List CV)) (a7:List (List CV)) (a8:Int) (a9:Int) (a10:Int) (a11:List (List CV)) (a12:Int) (a13:Int) (a14:Int) (h:c=[.bool a0,.int .i64 a1,.int .i64 a2,.int .i64 a3,.int .i64 a4,.sl 1 a5,.sl 1 a6,.sl 1 a7,.int .i64 a8,.int .i64 a9,.int .i64 a10,.sl 4 a11,.int .i64 a12,.int .i64 a13,.int .i64 a14]) (F:Bool->Int->Int->Int->Int->List (List CV)->List (List CV)->List (List CV)->Int->Int->Int->List (List CV)->Int->Int->Int->Option γ):((c[0]?).bind fun x=>(asB x).bind fun v0=>(c[1]?).bind fun x=>(asI .i64 x).bind fun v1=>(c[2]?).bind fun x=>(asI .i64 x).bind fun v2=>(c[3]?).bind fun x=>(asI .i64 x).bind fun v3=>(c[4]?).bind fun x=>(asI .i64 x).bind fun v4=>(c[5]?).bind fun x=>(asL 1 x).bind fun v5=>(c[6]?).bind fun x=>(asL 1 x).bind fun v6=>(c[7]?).bind fun x=>(asL 1 x).bind fun v7=>(c[8]?).bind fun x=>(asI .i64 x).bind fun v8=>(c[9]?).bind fun x=>(asI .i64 x).bind fun v9=>(c[10]?).bind fun x=>(asI .i64 x).bind fun v10=>(c[11]?).bind fun x=>(asL 4 x).bind fun v11=>(c[12]?).bind fun x=>(asI .i64 x).bind fun v12=>(c[13]?).bind fun x=>(asI .i64 x).bind fun v13=>(c[14]?).bind fun x=>(asI .i64 x).bind fun v14=>F v0 v1 v2 v3 v4 v5 v6 v7 v8 v9 v10 v11 v12 v13 v14)=F a0 a1 a2 a3 a4 a5 a6 a7 a8 a9 a10 a11 a12 a13 a14:=by
 rw [g0L c 0 (.bool a0) (by rw [h];rfl),bB]
 rw [g0L c 1 (.int .i64 a1) (by rw [h];rfl),bI]
 rw [g0L c 2 (.int .i64 a2) (by rw [h];rfl),bI]
 rw [g0L c 3 (.int .i64 a3) (by rw [h];rfl),bI]
 rw [g0L c 4 (.int .i64 a4) (by rw [h];rfl),bI]
 rw [g0L c 5 (.sl 1 a5) (by rw [h];rfl),bL]
 rw [g0L c 6 (.sl 1 a6) (by rw [h];rfl),bL]
 rw [g0L c 7 (.sl 1 a7) (by rw [h];rfl),bL]
 rw [g0L c 8 (.int .i64 a8) (by rw [h];rfl),bI]
 rw [g0L c 9 (.int .i64 a9) (by rw [h];rfl),bI]
 rw [g0L c 10 (.int .i64 a10) (by rw [h];rfl),bI]
 rw [g0L c 11 (.sl 4 a11) (by rw [h];rfl),bL]
 rw [g0L c 12 (.int .i64 a12) (by rw [h];rfl),bI]
 rw [g0L c 13 (.int .i64 a13) (by rw [h];rfl),bI]
 rw [g0L c 14 (.int .i64 a14) (by rw [h];rfl),bI]
theorem rTh_e (t:Thr):rTh.e t=[.bool t.lv,.int .i64 t.r0,.int .i64 t.r1,.int .i64 t.r2,.int .i64 t.r3,.sl 1 (encI t.c.a),.sl 1 (encI t.c.b),.sl 1 (encI t.c.c),.int .i64 t.ep,.int .i64 t.st,.int .i64 t.ro,.sl 4 (t.d.map rOp.e),.int .i64 t.pc,.int .i64 t.x,.int .i64 t.y]:=rfl
theorem thr_read {γ:Type} (t:Thr) (F:Bool->Int->Int->Int->Int->List (List CV)->List (List CV)->List (List CV)->Int->Int->Int->List (List CV)->Int->Int->Int->Option γ):(((rTh.e t)[0]?).bind fun x=>(asB x).bind fun v0=>((rTh.e t)[1]?).bind fun x=>(asI .i64 x).bind fun v1=>((rTh.e t)[2]?).bind fun x=>(asI .i64 x).bind fun v2=>((rTh.e t)[3]?).bind fun x=>(asI .i64 x).bind fun v3=>((rTh.e t)[4]?).bind fun x=>(asI .i64 x).bind fun v4=>((rTh.e t)[5]?).bind fun x=>(asL 1 x).bind fun v5=>((rTh.e t)[6]?).bind fun x=>(asL 1 x).bind fun v6=>((rTh.e t)[7]?).bind fun x=>(asL 1 x).bind fun v7=>((rTh.e t)[8]?).bind fun x=>(asI .i64 x).bind fun v8=>((rTh.e t)[9]?).bind fun x=>(asI .i64 x).bind fun v9=>((rTh.e t)[10]?).bind fun x=>(asI .i64 x).bind fun v10=>((rTh.e t)[11]?).bind fun x=>(asL 4 x).bind fun v11=>((rTh.e t)[12]?).bind fun x=>(asI .i64 x).bind fun v12=>((rTh.e t)[13]?).bind fun x=>(asI .i64 x).bind fun v13=>((rTh.e t)[14]?).bind fun x=>(asI .i64 x).bind fun v14=>F v0 v1 v2 v3 v4 v5 v6 v7 v8 v9 v10 v11 v12 v13 v14)=F t.lv t.r0 t.r1 t.r2 t.r3 (encI t.c.a) (encI t.c.b) (encI t.c.c) t.ep t.st t.ro (t.d.map rOp.e) t.pc t.x t.y:=
 thr_read0 (rTh.e t) t.lv t.r0 t.r1 t.r2 t.r3 (encI t.c.a) (encI t.c.b) (encI t.c.c) t.ep t.st t.ro (t.d.map rOp.e) t.pc t.x t.y (rTh_e t) F
theorem obs {α β:Type} (a:α) (f:α->Option β):Option.bind (some a) f=f a:=by
 cases hx:(none:Option Unit) with
 | none=>rfl
 | some _=>rfl
theorem thr_eta (t:Thr):(⟨t.lv,t.r0,t.r1,t.r2,t.r3,⟨t.c.a,t.c.b,t.c.c⟩,t.ep,t.st,t.ro,t.d,t.pc,t.x,t.y⟩:Thr)=t:=by cases t;rfl
theorem rdE_row {α:Type} (R:RowC α) {l:List α} {i:Nat} (hi:i<l.length):rdE (l.map R.e) (i:Int)=some (R.e l[i]):=by
 rw [rdE_nat (by omega)];simp [hi]
theorem few_loop19 (w:Wld) (hl:w.t.length<=100000) (β:Type) (K:Exit->List CV->List (List CV)->Option β):∀ (m i:Nat) (ok:Bool),i+m=w.t.length->
  loopB y19a [1,3,4] oy19 py19 (bodyL (bodyOf Tryz.f19) py19) (m+1) [.ref 0,cB.enc ok,cI.enc (i:Int)] [rWl.e w] K=K (.exit 0) [cB.enc (ok&&(w.t.drop i).all few12)] [rWl.e w]:=by
 intro m
 induction m with
 | zero=>
  intro i ok h1
  rw [yt19,decide_eq_false (by rw [List.length_map];omega),cond_false,List.drop_eq_nil_of_le (by omega),List.all_nil,Bool.and_true];rfl
 | succ m ih=>
  intro i ok h1
  have hi:i<w.t.length:=by omega
  have ww:IntKind.i64.wrap ((i:Int)+1)=((i+1:Nat):Int):=by rw [wrap_in (by omega)];omega
  rw [yt19,decide_eq_true (by rw [List.length_map];omega),cond_true,List.drop_eq_getElem_cons hi,List.all_cons]
  cases ok with
  | false=>rw [cond_false,Bool.false_and];rfl
  | true=>
   rw [cond_true,rdE_row rTh hi,obs,thr_read]
   simp only [decI_map,rOp.dm,obs,thr_eta,ww]
   rw [Bool.true_and]
   exact ih (i+1) (few12 w.t[i]) (by omega)
def L19w:LoopSem:=l3 [1,3,4] oy19 (cRef 0) cB cI rWl.cb (fun _ ok i w=>i==0&&(bif ok then Nat.ble w.t.length 100000 else true)) fun _ ok _ w => .one (.exit 0) [cB.enc (ok&&w.t.all few12)] [rWl.e w]
noncomputable abbrev y19:Cx:=y19a.loop py19 L19w
theorem y19_ok:CxOK y19 [(58,gFewH),(59,gFew12)]:=by
 refine CxOK.loop3 (CxOK.baseN (Good.cons fewH_good (Good.cons few12_good Good.nil)) GoodI.nil (eqOK_none fun _=>rfl)) rfl fun _ ok i w hp => ?_
 simp only [Bool.and_eq_true,beq_iff_eq] at hp
 obtain ⟨rfl,hl⟩:=hp
 cases ok with
 | false=>
  refine ⟨1,fun β K=>(yt19 w false 0 0 β K).trans ?_⟩
  rw [cond_false]
  cases decide ((0:Int)<((List.map rTh.e w.t).length:Nat)) <;> rfl
 | true=>
  refine ⟨w.t.length+1,fun β K=>(few_loop19 w (Nat.le_of_ble_eq_true hl) β K w.t.length 0 true (by omega)).trans ?_⟩
  rw [List.drop_zero];rfl
def fewW (w:Wld):Bool:=fewH w.h&&(decide ((w.c.wk.length:Int)<=50)&&(decide ((w.t.length:Int)<=6)&&(decide ((w.l.length:Int)<=500)&&w.t.all few12)))
/-! ### Reach -/
theorem roots_cons (t:Thr) (ts:List Thr):rootsE (t::ts)=(bif t.lv then holdsE t else [])++rootsE ts:=by
 unfold rootsE
 cases h:t.lv with
 | true=>rw [List.filter_cons_of_pos h];rfl
 | false=>rw [List.filter_cons_of_neg (by rw [h];decide)];rfl
theorem holds_len (t:Thr):(holdsE t).length<=6:=List.length_filter_le _ _
theorem roots_len:∀ ts:List Thr,(rootsE ts).length<=6*ts.length
 | []=>Nat.zero_le _
 | t::ts=>by
  rw [roots_cons]
  have:=roots_len ts
  have:=holds_len t
  cases t.lv <;> simp <;> omega
theorem encI_app2 (a b:List Int):encI a++encI b=encI (a++b):=by simp [encI]
theorem roots_loop (w:Wld) (ks all:List Int) (ts:List Thr) (hl:ts.length<=100000) (β:Type) (K:Exit->List CV->List (List CV)->Option β):∀ (m i:Nat) (next:List Int),i+m=ts.length->next.length+6*m<=1000000->
  loopB y21a [1,3,4,5,11,12,13] o21a p21a (bodyL (bodyOf Tryz.f21) p21a) (m+1) [.ref 0,cMpo.enc ks,cOI.enc next,cOI.enc all,cTs.enc ts,cI.enc (ts.length:Int),cI.enc (i:Int)] [rWl.e w] K=
   K (.exit 0) [.ref 0,cMpo.enc ks,cOI.enc (next++rootsE (ts.drop i)),cOI.enc all] [rWl.e w]:=by
 intro m
 induction m with
 | zero=>
  intro i next h1 h2
  rw [yt21a,decide_eq_false (by omega),cond_false,List.drop_eq_nil_of_le (by omega),show rootsE []=[] from rfl,List.append_nil];rfl
 | succ m ih=>
  intro i next h1 h2
  have hi:i<ts.length:=by omega
  have ww:IntKind.i64.wrap ((i:Int)+1)=((i+1:Nat):Int):=by rw [wrap_in (by omega)];omega
  have hh:=holds_len ts[i]
  rw [yt21a,decide_eq_true (by omega),cond_true,List.drop_eq_getElem_cons hi,roots_cons,rdE_row rTh hi,obs,thr_read]
  simp only [decI_map,rOp.dm,obs,thr_eta,ww,encI_app2]
  cases ts[i].lv with
  | true=>
   rw [cond_true,cond_true,if_pos (lim_of (by rw [encI_len,List.length_append];omega)),<- List.append_assoc]
   exact ih (i+1) (next++holdsE ts[i]) (by omega) (by rw [List.length_append];omega)
  | false=>
   rw [cond_false,cond_false,List.nil_append]
   exact ih (i+1) next (by omega) (by omega)
def L21a:LoopSem:=l7 [1,3,4,5,11,12,13] o21a (cRef 0) cMpo cOI cOI cTs cI cI rWl.cb (fun _ ks next all ts n i _=>ks.isEmpty&&(next.isEmpty&&(all.isEmpty&&(Nat.ble ts.length 100000&&(n==(ts.length:Int)&&i==0)))))
 fun _ _ _ _ ts _ _ w => .one (.exit 0) [.ref 0,cMpo.enc [],cOI.enc (rootsE ts),cOI.enc []] [rWl.e w]
def L21b:LoopSem:=l4 [1,3,4,5] o21b (cRef 0) cMpo cOI cOI rWl.cb (fun _ ks next all w=>ks.isEmpty&&(all.isEmpty&&(Nat.ble next.length 600000&&(smH w.h&&smLs [w.h.f]))))
 fun _ _ next _ w => .one (.exit 2) [cOI.enc (reachGo (fieldsE w.h) ((next.length+w.h.w.length)*64+next.length) next [])] [rWl.e w]
noncomputable abbrev y21b:Cx:=y21a.loop p21a L21a
abbrev lq21:List (Nat×Callee):=[(70,gHoldsT),(71,gFields)]
theorem y21b_ok:CxOK y21b lq21:=by
 refine CxOK.loop7 (CxOK.baseN (Good.cons holds_good (Good.cons fields_good Good.nil)) (GoodI.cons sort_good GoodI.nil) (eqOK_none fun _=>rfl)) rfl fun _ ks next all ts n i w hp => ?_
 simp only [Bool.and_eq_true,beq_iff_eq,List.isEmpty_iff] at hp
 obtain ⟨rfl,rfl,rfl,hl,rfl,rfl⟩:=hp
 have hl:=Nat.le_of_ble_eq_true hl
 refine ⟨ts.length+1,fun β K=>(roots_loop w [] [] ts hl β K ts.length 0 [] (by omega) (by simp only [List.length_nil];omega)).trans ?_⟩
 rw [List.drop_zero,List.nil_append];rfl
theorem yt21b (w:Wld) (ks next all:List Int) (m:Nat) (β:Type) (K:Exit->List CV->List (List CV)->Option β):loopB y21b [1,3,4,5] o21b p21b (bodyL (bodyOf Tryz.f21) p21b) (m+1) [.ref 0,cMpo.enc ks,cOI.enc next,cOI.enc all] [rWl.e w] K=
 bif decide ((↑(List.length (encI next)):Int)>0) then
 if 0<=IntKind.wrap IntKind.i64 ((↑(List.length (encI next)):Int) - 1)/\IntKind.wrap IntKind.i64 ((↑(List.length (encI next)):Int) - 1)<(↑(List.length (encI next)):Int) then
 Option.bind (encI next)[Int.toNat (IntKind.wrap IntKind.i64 ((↑(List.length (encI next)):Int) - 1))]? fun e=>
 Option.bind e[0]? fun x=>
 Option.bind (asI IntKind.i64 x) fun n=>
 bif okBounds (List.length (encI next)) none (some (IntKind.wrap IntKind.i64 ((↑(List.length (encI next)):Int) - 1))) none then
 bif n==0 then loopB y21b [1,3,4,5] o21b [false,false,true,true,true,true] (bodyL (bodyOf Tryz.f21) p21b) m [CV.ref 0,CV.mpo ks,CV.own 1 (List.take (Int.toNat (Option.getD (some (IntKind.wrap IntKind.i64 ((↑(List.length (encI next)):Int) - 1))) (↑(List.length (encI next)):Int) - 0)) (encI next)),CV.own 1 (encI all)] [(RowC.e rWl w)] fun a a_1 a_2=>K a a_1 a_2
 else
 bif List.contains ks n then loopB y21b [1,3,4,5] o21b [false,false,true,true,true,true] (bodyL (bodyOf Tryz.f21) p21b) m [CV.ref 0,CV.mpo ks,CV.own 1 (List.take (Int.toNat (Option.getD (some (IntKind.wrap IntKind.i64 ((↑(List.length (encI next)):Int) - 1))) (↑(List.length (encI next)):Int) - 0)) (encI next)),CV.own 1 (encI all)] [(RowC.e rWl w)] fun a a_1 a_2=>K a a_1 a_2
 else
 if List.length (encI all++[[CV.int IntKind.i64 n]])<=LIM then
 Option.bind (cHp.dec (cHp.enc (Wld.h w))) fun a=>
 bif smH a&&smLs [Hp.f a] then
 if List.length (List.take (Int.toNat (Option.getD (some (IntKind.wrap IntKind.i64 ((↑(List.length (encI next)):Int) - 1))) (↑(List.length (encI next)):Int) - 0)) (encI next)++encI (fieldsE a n))<=LIM then loopB y21b [1,3,4,5] o21b [false,false,true,true,true,true] (bodyL (bodyOf Tryz.f21) p21b) m [CV.ref 0,CV.mpo (insK ks n),CV.own 1 (List.take (Int.toNat (Option.getD (some (IntKind.wrap IntKind.i64 ((↑(List.length (encI next)):Int) - 1))) (↑(List.length (encI next)):Int) - 0)) (encI next)++encI (fieldsE a n)),CV.own 1 (encI all++[[CV.int IntKind.i64 n]])] [(RowC.e rWl w)] fun a a_1 a_2=>K a a_1 a_2
 else none
 else none
 else none
 else none
 else none
 else
 K (Exit.exit 2) [CV.own 1 (encI all)] [(RowC.e rWl w)]:=by kernel_rfl
theorem reach_loop (w:Wld) (hs:(smH w.h&&smLs [w.h.f])=true) {U:List Int} (hU:U.length<=1000000) (hF:∀ a,∀ v∈fieldsE w.h a,v∈U) (β:Type) (K:Exit->List CV->List (List CV)->Option β):∀ (n:Nat) (next all:List Int),
  all.Nodup->(∀ a∈all,a≠0/\a∈U)->(∀ a∈next,a∈U)->(U.length - all.length)*64+next.length<=n->n<=100000000->
  loopB y21b [1,3,4,5] o21b p21b (bodyL (bodyOf Tryz.f21) p21b) (n+1) [.ref 0,cMpo.enc all,cOI.enc next,cOI.enc all] [rWl.e w] K=K (.exit 2) [cOI.enc (reachGo (fieldsE w.h) n next all)] [rWl.e w]
 | n,next,all,hn,ha,hx,hm,hb=>by
  rcases List.eq_nil_or_concat next with rfl | ⟨r,a,rfl⟩
  ·have e:reachGo (fieldsE w.h) n [] all=all:=by cases n <;> rfl
   rw [e,yt21b];rfl
  ·obtain ⟨m,rfl⟩:∃ m,n=m+1:=⟨n - 1,by simp only [List.length_append,List.length_cons,List.length_nil,List.concat_eq_append] at hm;omega⟩
   rw [List.concat_eq_append] at*
   have hal:=nodup_le hn fun x hx'=>(ha x hx').2
   simp only [List.length_append,List.length_cons,List.length_nil] at hm
   have hl:(encI (r++[a])).length=r.length+1:=by rw [encI_len,List.length_append];rfl
   have ww:IntKind.i64.wrap (((r.length+1:Nat):Int) - 1)=(r.length:Int):=by rw [wrap_in (by omega)];omega
   have g1:(encI (r++[a]))[((r.length:Nat):Int).toNat]? = some [CV.int .i64 a]:=by simp [encI]
   have tk:((r.length:Int) - 0).toNat=r.length:=by omega
   have tk2:List.take r.length (encI (r++[a]))=encI r:=by simp [encI]
   have ob:okBounds (r.length+1) none (some (r.length:Int)) none=true:=by unfold okBounds;simp;omega
   have eg:(r++[a]).getD ((r++[a]).length - 1) 0=a:=by simp
   have et:(r++[a]).take ((r++[a]).length - 1)=r:=by simp
   have fl:=fields_len w.h a
   rw [yt21b,hl,decide_eq_true (by omega),cond_true]
   simp only [ww,Option.getD_some,tk,tk2,g1,ob,obs,zero_get,asI_i,cond_true,cHp.de,hs,encI_app2]
   rw [if_pos (by omega)]
   unfold reachGo
   rw [eg,et,show (r++[a]).isEmpty=false by simp,cond_false]
   have hr:∀ x∈r,x∈U:=fun x hx'=>hx x (by simp [hx'])
   cases h0:a==0 with
   | true=>
    rw [cond_true,Bool.true_or,cond_true]
    exact reach_loop w hs hU hF β K m r all hn ha hr (by omega) (by omega)
   | false=>
    rw [cond_false,Bool.false_or]
    cases hc:all.contains a with
    | true=>
     rw [cond_true,cond_true]
     exact reach_loop w hs hU hF β K m r all hn ha hr (by omega) (by omega)
    | false=>
     have hz:a≠0:=beq_eq_false_iff_ne.1 h0
     have hna:a∉all:=by simpa using hc
     have hu:a∈U:=hx a (by simp)
     have e1:encI all++[[CV.int .i64 a]]=encI (all++[a]):=by simp [encI]
     have e2:insK all a=all++[a]:=by unfold insK;rw [hc];rfl
     have hnd:(all++[a]).Nodup:=by
      rw [List.nodup_append]
      exact ⟨hn,by simp,fun x hx y hy e=>by simp at hy;rw [e,hy] at hx;exact hna hx⟩
     have hall:∀ x∈all++[a],x≠0/\x∈U:=fun x hx'=>by
      rcases List.mem_append.1 hx' with hx' | hx'
      ·exact ha x hx'
      ·simp at hx';subst hx';exact ⟨hz,hu⟩
     have hle:=nodup_le hnd fun x hx'=>(hall x hx').2
     simp only [List.length_append,List.length_cons,List.length_nil] at hle
     rw [cond_false,cond_false,e1,e2,if_pos (lim_of (by rw [encI_len,List.length_append];simp only [List.length_cons,List.length_nil];omega)),if_pos (lim_of (by rw [encI_len,List.length_append];omega))]
     exact reach_loop w hs hU hF β K m (r++fieldsE w.h a) (all++[a]) hnd hall (fun x hx'=>by
      rcases List.mem_append.1 hx' with hx' | hx'
      ·exact hr x hx'
      ·exact hF a x hx') (by simp only [List.length_append,List.length_cons,List.length_nil];omega) (by omega)
end Go.Ab

namespace Go.Ab
open Go
set_option maxRecDepth 100000
open Go.Proofs
noncomputable abbrev y21:Cx:=y21b.loop p21b L21b
theorem y21_ok:CxOK y21 lq21:=by
 refine CxOK.loop4 y21b_ok rfl fun _ ks next all w hp => ?_
 simp only [Bool.and_eq_true,List.isEmpty_iff] at hp
 obtain ⟨rfl,rfl,hl,hs,hs2⟩:=hp
 have hl:=Nat.le_of_ble_eq_true hl
 have hw:=(smH_le hs).1
 exact ⟨_,fun β K=>reach_loop w (by rw [hs,hs2];rfl) (U:=next++w.h.w) (by rw [List.length_append];omega) (fun a v hv=>List.mem_append.2 (.inr (fields_in hv))) β K ((next.length+w.h.w.length)*64+next.length) next [] List.nodup_nil (fun a h=>by cases h) (fun a ha=>List.mem_append.2 (.inl ha)) (by rw [List.length_append,List.length_nil];omega) (by omega)⟩
theorem yr21 (w:Wld) (β:Type) (K:CV->List (List CV)->Option β):fnK y21 Tryz.f21 [cWl.enc w] [] K=
 Option.bind (RowC.dl rTh (List.map (RowC.e rTh) (Wld.t w))) fun e=>
 Option.bind (RowC.d rWl (RowC.e rWl w)) fun u=>
 bif Nat.ble (List.length e) 100000&&((↑(List.length (List.map (RowC.e rTh) (Wld.t w))):Int)==(↑(List.length e):Int)&&true) then
 Option.bind (decI (encI (rootsE e))) fun c=>
 Option.bind (RowC.d rWl (RowC.e rWl u)) fun u=>
 bif Nat.ble (List.length c) 600000&&(smH (Wld.h u)&&smLs [Hp.f (Wld.h u)]) then
 Option.bind (decI (encI (reachGo (fieldsE (Wld.h u)) ((List.length c+List.length (Hp.w (Wld.h u)))*64+List.length c) c []))) fun xs=>bif Nat.ble (List.length xs) 4000000000 then K (CV.own 1 (encI (sortI xs))) [] else none
 else none
 else none:=by kernel_rfl
theorem yr19 (w:Wld) (β:Type) (K:CV->List (List CV)->Option β):fnK y19 Tryz.f19 [cWl.enc w] [] K=
 Option.bind (cHp.dec (cHp.enc (Wld.h w))) fun a=>
 bif fewH a then
 bif decide ((↑(List.length (encI (Coll.wk (Wld.c w)))):Int)<=50) then
 bif decide ((↑(List.length (List.map (RowC.e rTh) (Wld.t w))):Int)<=6) then
 Option.bind (RowC.d rWl (RowC.e rWl w)) fun u=>
 bif
 bif decide ((↑(List.length (List.map (RowC.e rRes) (Wld.l w))):Int)<=500) then Nat.ble (List.length (Wld.t u)) 100000
 else true then
 K (CV.bool (decide ((↑(List.length (List.map (RowC.e rRes) (Wld.l w))):Int)<=500)&&List.all (Wld.t u) few12)) []
 else none
 else
 Option.bind (RowC.d rWl (RowC.e rWl w)) fun u=>K (CV.bool false) []
 else
 Option.bind (RowC.d rWl (RowC.e rWl w)) fun u=>K (CV.bool false) []
 else
 Option.bind (RowC.d rWl (RowC.e rWl w)) fun u=>K (CV.bool false) []:=by kernel_rfl
end Go.Ab

namespace Go.Ab
open Go
set_option maxRecDepth 100000
open Go.Proofs
theorem reach_sub (h:Hp) (ts:List Thr):∀ a∈reachL h ts,a∈rootsE ts++h.w:=(reach_ok h ts).least (· ∈ rootsE ts++h.w) (fun _ h=>by cases h) (fun a ha _=>List.mem_append.2 (.inl ha)) fun a _ v hv _=>List.mem_append.2 (.inr (fields_in hv))
theorem reach_len (h:Hp) (ts:List Thr):(reachL h ts).length<=6*ts.length+h.w.length:=by
 have:=nodup_le (reach_ok h ts).nd (reach_sub h ts)
 rw [List.length_append] at this
 have:=roots_len ts
 omega
def gReach:Callee:=g1 cWl (fun w=>Nat.ble w.t.length 100000&&(smH w.h&&smLs [w.h.f])) fun w=>cIs.enc (reachE w.h w.t)
theorem reach_good:GoodC Pr 21 gReach:=
 good1S (y21_ok.sound (cx:=y21) Tryz.func21 (by kernel_rfl) (by kernel_rfl) rfl (by kernel_rfl)) fun w hp=>by
  simp only [Bool.and_eq_true] at hp
  obtain ⟨hl,hs,hs2⟩:=hp
  have hl':=Nat.le_of_ble_eq_true hl
  have hw:=(smH_le hs).1
  have r1:=roots_len w.t
  have r2:=reach_len w.h w.t
  refine ⟨.own 1 (encI (reachE w.h w.t)),rfl,fun β K => ?_⟩
  rw [yr21,rTh.dm,obs,rWl.de,obs,hl,List.length_map,beq_self_eq_true,Bool.and_self,Bool.and_self,cond_true,decI_map,obs,rWl.de,obs,hs,hs2,Nat.ble_eq_true_of_le (by omega),Bool.and_self,Bool.and_self,cond_true,decI_map,obs]
  rw [show reachGo (fieldsE w.h) (((rootsE w.t).length+w.h.w.length)*64+(rootsE w.t).length) (rootsE w.t) []=reachL w.h w.t from rfl,Nat.ble_eq_true_of_le (by omega),cond_true];rfl
def gFew20:Callee:=g1 cWl (fun _=>true) fun w=>cB.enc (fewW w)
theorem few20_good:GoodC Pr 19 gFew20:=
 good1 (y19_ok.sound (cx:=y19) Tryz.func19 (by kernel_rfl) (by kernel_rfl) rfl (by kernel_rfl)) fun w hp β K=>by
  rw [yr19,cHp.de,obs]
  simp only [rWl.de,obs,encI_len,List.length_map,cond_true]
  unfold fewW
  cases fewH w.h with
  | false=>rfl
  | true=>
   cases decide ((w.c.wk.length:Int)<=50) with
   | false=>rfl
   | true=>
    by_cases h6:(w.t.length:Int)<=6
    ·rw [decide_eq_true h6]
     cases decide ((w.l.length:Int)<=500) with
     | false=>rfl
     | true=>
      have:=Nat.ble_eq_true_of_le (show w.t.length<=100000 by omega)
      simp only [cond_true,this,Bool.true_and];rfl
    ·rw [decide_eq_false h6];rfl
theorem in23_good:GoodC Pr 23 gIn23:=
 good2 (y23_ok.sound (cx:=y23) Tryz.func23 (by kernel_rfl) (by kernel_rfl) rfl (by kernel_rfl)) fun xs a hp β K=>by
  rw [yr23,decI_map,obs,hp,Bool.and_self,cond_true]
  cases h:xs.contains a <;> rfl
/-! ### The law -/
def gTrue:Callee:=g0 true (cB.enc true)
abbrev lq3:List (Nat×Callee):=[(18,gTrue),(19,gFew20),(20,gMayHp),(21,gReach),(22,gHead),(23,gIn23)]
noncomputable abbrev y3a:Cx:=cxN Pr Tryz.f3 lq3
def cWH:CodB (Wld×Hd) where
 enc:=fun p=>[rWl.e p.1,encH p.2]
 dec:=fun c=>match c with
  | [l,m]=>(rWl.d l).bind fun w=>(cHd.dec (.agg m)).bind fun x=>some (w,x)
  | _=>none
 ok:=fun c p h=>by
  split at h
  ·replace h:=bind_some' h
   obtain ⟨w,hw,h⟩:=h
   replace h:=bind_some' h
   obtain ⟨x,hx,h⟩:=h
   cases h
   have:=cHd.ok _ _ hx
   rw [rWl.ok _ _ hw]
   injection this with this
   rw [this]
  ·cases h
 de:=fun p=>by
  show (rWl.d (rWl.e p.1)).bind _=_
  rw [rWl.de,obs]
  show (cHd.dec (cHd.enc p.2)).bind _=_
  rw [cHd.de];rfl
abbrev p3A:=[false,true,true,true,false,false,true,false,false,true,false,true,true,true,true,true]
abbrev p3B:=[false,true,false,true,true,true,true,true]
abbrev p3C:=[false,true,false,false,true,false,false,true,false,true,true,true,true,true,true]
abbrev p3D:=[false,true,false,true,true,true,true,true,true]
abbrev p3E:=[false,true,false,true,true,true,true,true,true,true,true,true,true,true]
abbrev o3A:Exit->List Nat:=fun | .exit 2=>[1,5,6] | .ret=>[2] | _=>[]
abbrev o3B:Exit->List Nat:=fun | .exit 0=>[1,5] | .ret=>[2] | _=>[]
abbrev o3C:Exit->List Nat:=fun | .exit 6=>[1,5,11] | .ret=>[2] | _=>[]
abbrev o3D:Exit->List Nat:=fun | .exit 4=>[1,5] | .ret=>[2] | _=>[]
abbrev o3E:Exit->List Nat:=fun | .ret=>[2] | _=>[]
theorem yt3A (w:Wld) (x:Hd) (R:List Int) (i e f:Int) (m:Nat) (β:Type) (K:Exit->List CV->List (List CV)->Option β):loopB y3a [1,5,6,7,8,9] o3A p3A (bodyL (bodyOf Tryz.f3) p3A) (m+1) [.ref 0,cIs.enc R,cI.enc i,.ref 1,cI.enc e,cI.enc f] (cWH.enc (w,x)) K=
 bif decide (f<=Hd.x x) then
 bif e==0 then
 Option.bind (rdE (encI R) i) fun c=>
 Option.bind c[0]? fun x_1=>
 Option.bind (asI IntKind.i64 x_1) fun n=>
 Option.bind (rdE (encI (Hp.w (Wld.h w))) (IntKind.wrap IntKind.i64 (IntKind.wrap IntKind.i64 (n+f) - 16))) fun c=>
 Option.bind c[0]? fun x_2=>
 Option.bind (asI IntKind.i64 x_2) fun n=>
 bif n != 0 then
 Option.bind (decI (encI R)) fun a=>
 bif Nat.ble (List.length a) 100000 then
 bif !List.contains a n then
 K Exit.ret [CV.bool false] [(RowC.e rWl w),[CV.bool (Hd.a x),CV.bool (Hd.b x),CV.bool (Hd.c x),CV.int IntKind.i64 (Hd.x x),CV.int IntKind.i64 (Hd.y x),CV.int IntKind.i64 (Hd.z x)]]
 else loopB y3a [1,5,6,7,8,9] o3A [false,true,true,true,false,false,true,false,false,true,false,true,true,true,true,true] (bodyL (bodyOf Tryz.f3) p3A) m [CV.ref 0,CV.sl 1 (encI R),CV.int IntKind.i64 i,CV.ref 1,CV.int IntKind.i64 e,CV.int IntKind.i64 (IntKind.wrap IntKind.i64 (f+1))] [(RowC.e rWl w),[CV.bool (Hd.a x),CV.bool (Hd.b x),CV.bool (Hd.c x),CV.int IntKind.i64 (Hd.x x),CV.int IntKind.i64 (Hd.y x),CV.int IntKind.i64 (Hd.z x)]] fun a a_1 a_2=>K a a_1 a_2
 else none
 else loopB y3a [1,5,6,7,8,9] o3A [false,true,true,true,false,false,true,false,false,true,false,true,true,true,true,true] (bodyL (bodyOf Tryz.f3) p3A) m [CV.ref 0,CV.sl 1 (encI R),CV.int IntKind.i64 i,CV.ref 1,CV.int IntKind.i64 e,CV.int IntKind.i64 (IntKind.wrap IntKind.i64 (f+1))] [(RowC.e rWl w),[CV.bool (Hd.a x),CV.bool (Hd.b x),CV.bool (Hd.c x),CV.int IntKind.i64 (Hd.x x),CV.int IntKind.i64 (Hd.y x),CV.int IntKind.i64 (Hd.z x)]] fun a a_1 a_2=>K a a_1 a_2
 else
 K (Exit.exit 2) [CV.ref 0,CV.sl 1 (encI R),CV.int IntKind.i64 i] [(RowC.e rWl w),[CV.bool (Hd.a x),CV.bool (Hd.b x),CV.bool (Hd.c x),CV.int IntKind.i64 (Hd.x x),CV.int IntKind.i64 (Hd.y x),CV.int IntKind.i64 (Hd.z x)]]
 else
 K (Exit.exit 2) [CV.ref 0,CV.sl 1 (encI R),CV.int IntKind.i64 i] [(RowC.e rWl w),[CV.bool (Hd.a x),CV.bool (Hd.b x),CV.bool (Hd.c x),CV.int IntKind.i64 (Hd.x x),CV.int IntKind.i64 (Hd.y x),CV.int IntKind.i64 (Hd.z x)]]:=by kernel_rfl
end Go.Ab

namespace Go.Ab
open Go
set_option maxRecDepth 100000
open Go.Proofs
theorem g1_weak {α:Type} {A:Cod α} {pre pre':α->Bool} {out out':α->CV} {P:Program} {f:FuncId} (hg:GoodC P f (g1 A pre out)) (h:∀ a,pre' a=true->pre a=true/\out a=out' a):GoodC P f (g1 A pre' out'):=
 GoodC.of hg.s (g1_nat _) fun args conts β K r hr=>by
  unfold g1 at hr ⊢
  dsimp only at hr ⊢
  split at hr
  ·replace hr:=A.bd hr
   obtain ⟨a,rfl,hr⟩:=hr
   obtain ⟨hp,hr⟩:=cond_some hr
   rw [A.de,obs,(h a hp).1,cond_true,(h a hp).2];exact hr
  ·cases hr
theorem g2_weak {α β:Type} {A:Cod α} {B:Cod β} {pre pre':α->β->Bool} {out out':α->β->CV} {P:Program} {f:FuncId} (hg:GoodC P f (g2 A B pre out)) (h:∀ a b,pre' a b=true->pre a b=true/\out a b=out' a b):GoodC P f (g2 A B pre' out'):=
 GoodC.of hg.s (g2_nat _ _) fun args conts β K r hr=>by
  unfold g2 at hr ⊢
  dsimp only at hr ⊢
  split at hr
  ·replace hr:=A.bd hr
   obtain ⟨a,rfl,hr⟩:=hr
   replace hr:=B.bd hr
   obtain ⟨b,rfl,hr⟩:=hr
   obtain ⟨hp,hr⟩:=cond_some hr
   rw [A.de,obs,B.de,obs,(h a b hp).1,cond_true,(h a b hp).2];exact hr
  ·cases hr
def isN (h:Hp):Bool:=decide (h.w=List.replicate 16 0)&&(decide (h.p=[(0,0)])&&(h.f.a.isEmpty&&(h.f.b.isEmpty&&(h.f.c.isEmpty&&decide (h.c=[false,false])))))
theorem isN_eq {h:Hp} (hh:isN h=true):h=hN:=by
 obtain ⟨w,p,⟨a,b,c⟩,d⟩:=h
 unfold isN at hh
 simp only [Bool.and_eq_true,decide_eq_true_eq,List.isEmpty_iff] at hh
 obtain ⟨rfl,rfl,rfl,rfl,rfl,rfl⟩:=hh
 rfl
def emptyL (l:Ls):Bool:=l.a.isEmpty&&(l.b.isEmpty&&l.c.isEmpty)
theorem emptyL_eq {l:Ls} (h:emptyL l=true):l=Ls.e:=by
 obtain ⟨a,b,c⟩:=l
 unfold emptyL at h
 simp only [Bool.and_eq_true,List.isEmpty_iff] at h
 obtain ⟨rfl,rfl,rfl⟩:=h
 rfl
theorem noRoom (a:Int):roomA hN.p a=0:=by rfl
theorem mayN (ls:List Ls) (h:∀ l∈ls,l=Ls.e):mayHpV hN ls=true:=by
 have hc:catI (hN.f::ls)=[]:=by
  rw [catI_cons]
  have:catI ls=[]:=List.eq_nil_iff_forall_not_mem.2 fun a ha=>by
   obtain ⟨l,hl,ha⟩:=List.mem_flatMap.1 ha
   rw [h l hl] at ha
   simp [one3,Ls.e] at ha
  rw [this];rfl
 refine mayF_iff.2 ⟨by decide +kernel,fun l hl => ?_,fun c hc => ?_,by rw [hc];exact List.nodup_nil⟩
 ·rcases List.mem_cons.1 hl with rfl | hl
  ·rfl
  ·rw [h l hl];rfl
 ·have:=cell_mem.1 hc
  rw [noRoom] at this;omega
def gHeadC:Callee:=g2 cHp cI (fun h _=>isN h) fun _ _ => .tup [cHd.enc Hd.z0,cI.enc 3]
theorem headN (a:Int):headE hN a=(Hd.z0,3):=by
 unfold headE
 rw [mayN [] (fun _ h=>by cases h),noRoom];rfl
theorem headC_good:GoodC Pr 22 gHeadC:=g2_weak head_good fun h a hh=>by
 rw [isN_eq hh,headN]
 exact ⟨by decide +kernel,rfl⟩
def gUsedC:Callee:=g1 cHp isN fun _=>cIs.enc []
theorem usedC_good:GoodC Pr 40 gUsedC:=g1_weak used_good fun h hh=>by
 rw [isN_eq hh]
 refine ⟨by decide +kernel,?_⟩
 have:cellAs hN.p=[]:=List.eq_nil_iff_forall_not_mem.2 fun a ha=>by
  have:=cell_mem.1 ha
  rw [noRoom] at this;omega
 show cIs.enc (usedE hN)=_
 unfold usedE
 rw [this]
 cases mayHpV hN [] <;> rfl
def gWholeC:Callee:=g2 cHp cLss (fun h ls=>isN h&&(ls.all emptyL&&Nat.ble ls.length 4)) fun _ _=>cB.enc true
theorem wholeC_good:GoodC Pr 42 gWholeC:=g2_weak whole_good fun h ls hh=>by
 simp only [Bool.and_eq_true,List.all_eq_true] at hh
 obtain ⟨h1,h2,h3⟩:=hh
 have hl:∀ l∈ls,l=Ls.e:=fun l hl=>emptyL_eq (h2 l hl)
 rw [isN_eq h1]
 have hcell:cellAs hN.p=[]:=List.eq_nil_iff_forall_not_mem.2 fun a ha=>by
  have:=cell_mem.1 ha
  rw [noRoom] at this;omega
 refine ⟨?_,?_⟩
 ·have s1:smH hN=true:=by decide +kernel
  have s2:smLs (hN.f::ls)=true:=by
   unfold smLs
   have:=Nat.le_of_ble_eq_true h3
   rw [Bool.and_eq_true]
   refine ⟨Nat.ble_eq_true_of_le (by simp only [List.length_cons];omega),List.all_eq_true.2 fun l hl' => ?_⟩
   rcases List.mem_cons.1 hl' with rfl | hl'
   ·decide +kernel
   ·rw [hl l hl'];decide +kernel
  rw [s1,s2];rfl
 ·show cB.enc (wholeHV hN ls)=_
  unfold wholeHV
  rw [mayN ls hl,hcell];rfl
def isW (w:Wld):Bool:=isN w.h&&(match w.t with | [t]=>bif t.lv then t.r0==16&&(t.r1==0&&(t.r2==0&&(t.r3==0&&(t.x==0&&t.y==0)))) else true | _=>false)
def gReachC:Callee:=g1 cWl isW fun w=>cIs.enc (bif w.t.all (·.lv) then [16] else [])
theorem reachC_good:GoodC Pr 21 gReachC:=g1_weak reach_good fun w hh=>by
 obtain ⟨h,c,ts,l⟩:=w
 unfold isW at hh
 simp only [Bool.and_eq_true] at hh
 obtain ⟨h1,h2⟩:=hh
 have h1:=isN_eq h1
 subst h1
 match ts,h2 with
 | [t],h2=>
  refine ⟨by
   show (Nat.ble 1 100000&&(smH hN&&smLs [hN.f]))=true
   decide +kernel,?_⟩
  dsimp only
  obtain ⟨lv,r0,r1,r2,r3,c,ep,st,ro,d,pc,x,y⟩:=t
  cases lv with
  | false=>
   have:reachL hN [⟨false,r0,r1,r2,r3,c,ep,st,ro,d,pc,x,y⟩]=[]:=rfl
   unfold reachE
   rw [this]
   simp [sortI]
  | true=>
   dsimp only at h2
   simp only [cond_true,Bool.and_eq_true,beq_iff_eq] at h2
   obtain ⟨rfl,rfl,rfl,rfl,rfl,rfl⟩:=h2
   have hf:∀ a,fieldsE hN a=[]:=fun a=>by unfold fieldsE;rw [headN];rfl
   have hF:fieldsE hN=fun _=>[]:=funext hf
   have:reachL hN [⟨true,16,0,0,0,c,ep,st,ro,d,pc,0,0⟩]=[16]:=by
    unfold reachL
    rw [hF];rfl
   unfold reachE
   rw [this]
   simp [sortI]
noncomputable abbrev y33:Cx:=cxN Pr Tryz.f33 [] [(97,inlC y97 Tryz.f97)]
noncomputable abbrev y112:Cx:=cxN Pr Tryz.f112 [] [(33,inlC y33 Tryz.f33)]
noncomputable abbrev y194:Cx:=cxN Pr Tryz.f194 [] [(112,inlC y112 Tryz.f112)] (fun _=>false) (fun _=>true)
noncomputable abbrev y113:Cx:=cxN Pr Tryz.f113 [] [(194,inlC y194 Tryz.f194)]
noncomputable abbrev y114:Cx:=cxN Pr Tryz.f114 [] [(195,inlC y195 Tryz.f195)]
noncomputable abbrev y48:Cx:=cxN Pr Tryz.f48 [(111,gCloneA)] [] (fun _=>false) (fun _=>true)
noncomputable abbrev y50:Cx:=cxN Pr Tryz.f50 [(42,gWholeC)] [(113,inlC y113 Tryz.f113),(114,inlC y114 Tryz.f114),(48,inlC y48 Tryz.f48)]
noncomputable abbrev y53:Cx:=cxN Pr Tryz.f53 [(74,gNew),(117,gCloneO)] [] (fun _=>false) (fun _=>true)
noncomputable abbrev y120:Cx:=cxN Pr Tryz.f120 [(22,gHeadC)]
noncomputable abbrev y126:Cx:=cxN Pr Tryz.f126 [] [(50,inlC y50 Tryz.f50)]
noncomputable abbrev y119:Cx:=cxN Pr Tryz.f119 [] [(120,inlC y120 Tryz.f120),(126,inlC y126 Tryz.f126)] (fun _=>false) (fun _=>true)
noncomputable abbrev y56:Cx:=cxN Pr Tryz.f56 [(21,gReachC),(40,gUsedC)] [(119,inlC y119 Tryz.f119)]
noncomputable abbrev y18:Cx:=cxN Pr Tryz.f18 [(21,gReachC),(57,gInts)] [(53,inlC y53 Tryz.f53),(56,inlC y56 Tryz.f56)] (fun _=>false) (fun _=>false) (fun t=>Nat.beq t 101)
theorem yr18 (_u:Unit) (β:Type) (K:CV->List (List CV)->Option β):fnK y18 Tryz.f18 [] [] K=
 K (CV.bool true) []:=by kernel_rfl
end Go.Ab

namespace Go.Ab
open Go
set_option maxRecDepth 100000
open Go.Proofs
def okFld (h:Hp) (R:List Int) (a:Int):Bool:=bif (headE h a).2 != 0 then true else (fieldsE h a).all fun v=>v==0 || R.contains v
theorem encI_get (w:List Int) (j:Nat):(encI w)[j]? = (w[j]?).map fun a=>[CV.int .i64 a]:=by simp [encI]
theorem fld_loop (w:Wld) (x:Hd) (R:List Int) (hl:R.length<=100000) (hw:w.h.w.length<=100000) (i:Nat) (hi:i<R.length) (he:((headE w.h R[i]).2 != 0)=false) (hx:(headE w.h R[i]).1.x=x.x) (hok:okFld w.h R R[i]=true) (β:Type) (K:Exit->List CV->List (List CV)->Option β):∀ (m f:Nat),1<=f->(f:Int)+m=x.x+1->
  loopB y3a [1,5,6,7,8,9] o3A p3A (bodyL (bodyOf Tryz.f3) p3A) (m+1) [.ref 0,cIs.enc R,cI.enc (i:Int),.ref 1,cI.enc 0,cI.enc (f:Int)] (cWH.enc (w,x)) K=K (.exit 2) [.ref 0,cIs.enc R,cI.enc (i:Int)] (cWH.enc (w,x)):=by
 intro m
 induction m with
 | zero=>
  intro f h1 h2
  rw [yt3A,decide_eq_false (by omega),cond_false];rfl
 | succ m ih=>
  intro f h1 h2
  obtain ⟨a1,a2,a3,a4,a5⟩:=head_fits he
  obtain ⟨v,g1,g2⟩:=fields_get he (f:=(f:Int)) (by omega) (by omega)
  have gR:(encI R)[(i:Int).toNat]? = some [CV.int .i64 R[i]]:=by simp [encI,hi]
  have gW:(encI w.h.w)[(R[i]+(f:Int) - 16).toNat]? = some [CV.int .i64 v]:=by rw [encI_get,g1];rfl
  have ww:IntKind.i64.wrap ((f:Int)+1)=((f+1:Nat):Int):=by rw [wrap_in (by omega)];omega
  rw [yt3A,decide_eq_true (by omega),cond_true,show ((0:Int)==0)=true from rfl,cond_true,rdE_nat (by omega),gR]
  simp only [obs,zero_get,asI_i,wrap_in (a:=R[i]+(f:Int)) (by omega),wrap_in (a:=R[i]+(f:Int) - 16) (by omega),rdE_nat (n:=R[i]+(f:Int) - 16) (by omega),gW,decI_map,Nat.ble_eq_true_of_le hl,cond_true,ww]
  cases hv:v != 0 with
  | false=>rw [cond_false];exact ih (f+1) (by omega) (by omega)
  | true=>
   have hc:R.contains v=true:=by
    unfold okFld at hok
    rw [he,cond_false,List.all_eq_true] at hok
    have:=hok v g2
    rw [show (v==0)=false by simpa using hv,Bool.false_or] at this
    exact this
   rw [cond_true,hc,Bool.not_true,cond_false]
   exact ih (f+1) (by omega) (by omega)
def preA (w:Wld) (x:Hd) (R:List Int) (i e f:Int):Bool:=(decide (0<=i)&&decide (i<(R.length:Int)))&&(Nat.ble R.length 100000&&(Nat.ble w.h.w.length 100000&&(f==1&&(e==(headE w.h (R.getD i.toNat 0)).2&&(x.x==(headE w.h (R.getD i.toNat 0)).1.x&&okFld w.h R (R.getD i.toNat 0))))))
def L3A:LoopSem:=l6 [1,5,6,7,8,9] o3A (cRef 0) cIs cI (cRef 1) cI cI cWH (fun _ R i _ e f p=>preA p.1 p.2 R i e f) fun _ R i _ _ _ p => .one (.exit 2) [.ref 0,cIs.enc R,cI.enc i] (cWH.enc p)
noncomputable abbrev y3b:Cx:=y3a.loop p3A L3A
theorem y3a_ok (haw:GoodC Pr 18 gTrue):CxOK y3a lq3:=CxOK.baseN (Good.cons haw (Good.cons few20_good (Good.cons mayHp_good (Good.cons reach_good (Good.cons head_good (Good.cons in23_good Good.nil)))))) GoodI.nil (eqOK_none fun _=>rfl)
theorem y3b_ok (haw:GoodC Pr 18 gTrue):CxOK y3b lq3:=by
 refine CxOK.loop6 (y3a_ok haw) rfl fun _ R i _ e f p hp => ?_
 obtain ⟨w,x⟩:=p
 unfold preA at hp
 simp only [Bool.and_eq_true,decide_eq_true_eq,beq_iff_eq] at hp
 obtain ⟨⟨h0,h1⟩,hl,hw,rfl,he,hx,hok⟩:=hp
 obtain ⟨j,rfl⟩:∃ j:Nat,i=(j:Int):=⟨i.toNat,by omega⟩
 have hj:j<R.length:=by omega
 have eg:R.getD ((j:Nat):Int).toNat 0=R[j]:=by simp [hj]
 rw [eg] at he hx hok
 cases hb:((headE w.h R[j]).2 != 0) with
 | true=>
  refine ⟨1,fun β K => ?_⟩
  rw [<- he] at hb
  show loopB y3a [1,5,6,7,8,9] o3A p3A (bodyL (bodyOf Tryz.f3) p3A) (0+1) [.ref 0,cIs.enc R,cI.enc ((j:Nat):Int),.ref 1,cI.enc e,cI.enc 1] (cWH.enc (w,x)) K=K (.exit 2) [.ref 0,cIs.enc R,cI.enc ((j:Nat):Int)] (cWH.enc (w,x))
  rw [yt3A,show (e==0)=false by simpa using hb,cond_false]
  cases decide ((1:Int)<=x.x) <;> rfl
 | false=>
  obtain ⟨a1,a2,a3,a4,a5⟩:=head_fits hb
  have e0:e=0:=by rw [he];simpa using hb
  subst e0
  refine ⟨x.x.toNat+1,fun β K => ?_⟩
  exact fld_loop w x R (Nat.le_of_ble_eq_true hl) (Nat.le_of_ble_eq_true hw) j hj hb hx.symm hok β K x.x.toNat 1 (by omega) (by omega)
theorem yt3B (w:Wld) (R:List Int) (i:Int) (m:Nat) (β:Type) (K:Exit->List CV->List (List CV)->Option β):loopB y3b [1,5,6] o3B p3B (bodyL (bodyOf Tryz.f3) p3B) (m+1) [.ref 0,cIs.enc R,cI.enc i] [rWl.e w] K=
 bif decide (i<(↑(List.length (encI R)):Int)) then
 Option.bind (rdE (encI R) i) fun c=>
 Option.bind c[0]? fun x=>
 Option.bind (asI IntKind.i64 x) fun n=>
 bif n==0 then
 K Exit.ret [CV.bool false] [(RowC.e rWl w)]
 else
 bif decide (i>0) then
 Option.bind (rdE (encI R) i) fun c=>
 Option.bind c[0]? fun x=>
 Option.bind (asI IntKind.i64 x) fun n=>
 Option.bind (rdE (encI R) (IntKind.wrap IntKind.i64 (i - 1))) fun c=>
 Option.bind c[0]? fun x=>
 Option.bind (asI IntKind.i64 x) fun n_1=>
 bif decide (n<=n_1) then
 K Exit.ret [CV.bool false] [(RowC.e rWl w)]
 else
 Option.bind (rdE (encI R) i) fun c=>
 Option.bind c[0]? fun x=>
 Option.bind (asI IntKind.i64 x) fun n=>
 Option.bind (cHp.dec (cHp.enc (Wld.h w))) fun a=>
 bif smH a&&smLs [Hp.f a] then
 Option.bind (decI (encI R)) fun b=>
 Option.bind (Option.bind (RowC.d rWl (RowC.e rWl w)) fun w=>
 Option.bind (Cod.dec cHd (CV.agg [CV.bool (Hd.a (Prod.fst (headE a n))),CV.bool (Hd.b (Prod.fst (headE a n))),CV.bool (Hd.c (Prod.fst (headE a n))),CV.int IntKind.i64 (Hd.x (Prod.fst (headE a n))),CV.int IntKind.i64 (Hd.y (Prod.fst (headE a n))),CV.int IntKind.i64 (Hd.z (Prod.fst (headE a n)))])) fun x=>some (w,x)) fun u=>
 bif preA (Prod.fst u) (Prod.snd u) b i (Prod.snd (headE a n)) 1 then loopB y3b [1,5,6] o3B [false,true,false,true,true,true,true,true] (bodyL (bodyOf Tryz.f3) p3B) m [CV.ref 0,CV.sl 1 (encI b),CV.int IntKind.i64 (IntKind.wrap IntKind.i64 (i+1))] [[CV.sl 1 (encI (Hp.w (Wld.h (Prod.fst u)))),CV.sl 2 (List.map encP (Hp.p (Wld.h (Prod.fst u)))),CV.sl 1 (encI (Ls.a (Hp.f (Wld.h (Prod.fst u))))),CV.sl 1 (encI (Ls.b (Hp.f (Wld.h (Prod.fst u))))),CV.sl 1 (encI (Ls.c (Hp.f (Wld.h (Prod.fst u))))),CV.sl 1 (encBs (Hp.c (Wld.h (Prod.fst u)))),CV.int IntKind.i64 (Coll.ph (Wld.c (Prod.fst u))),CV.int IntKind.i64 (Coll.ep (Wld.c (Prod.fst u))),CV.bool (Coll.mj (Wld.c (Prod.fst u))),CV.sl 1 (encI (Coll.wk (Wld.c (Prod.fst u)))),CV.bool (Coll.ov (Wld.c (Prod.fst u))),CV.int IntKind.i64 (Coll.a (Wld.c (Prod.fst u))),CV.int IntKind.i64 (Coll.fi (Wld.c (Prod.fst u))),CV.int IntKind.i64 (Coll.se (Wld.c (Prod.fst u))),CV.int IntKind.i64 (Coll.ca (Wld.c (Prod.fst u))),CV.bool (Coll.me (Wld.c (Prod.fst u))),CV.sl 15 (List.map (RowC.e rTh) (Wld.t (Prod.fst u))),CV.sl 7 (List.map (RowC.e rRes) (Wld.l (Prod.fst u)))]] fun a a_1 a_2=>K a a_1 a_2
 else none
 else none
 else
 Option.bind (rdE (encI R) i) fun c=>
 Option.bind c[0]? fun x=>
 Option.bind (asI IntKind.i64 x) fun n=>
 Option.bind (cHp.dec (cHp.enc (Wld.h w))) fun a=>
 bif smH a&&smLs [Hp.f a] then
 Option.bind (decI (encI R)) fun b=>
 Option.bind (Option.bind (RowC.d rWl (RowC.e rWl w)) fun w=>
 Option.bind (Cod.dec cHd (CV.agg [CV.bool (Hd.a (Prod.fst (headE a n))),CV.bool (Hd.b (Prod.fst (headE a n))),CV.bool (Hd.c (Prod.fst (headE a n))),CV.int IntKind.i64 (Hd.x (Prod.fst (headE a n))),CV.int IntKind.i64 (Hd.y (Prod.fst (headE a n))),CV.int IntKind.i64 (Hd.z (Prod.fst (headE a n)))])) fun x=>some (w,x)) fun u=>
 bif preA (Prod.fst u) (Prod.snd u) b i (Prod.snd (headE a n)) 1 then loopB y3b [1,5,6] o3B [false,true,false,true,true,true,true,true] (bodyL (bodyOf Tryz.f3) p3B) m [CV.ref 0,CV.sl 1 (encI b),CV.int IntKind.i64 (IntKind.wrap IntKind.i64 (i+1))] [[CV.sl 1 (encI (Hp.w (Wld.h (Prod.fst u)))),CV.sl 2 (List.map encP (Hp.p (Wld.h (Prod.fst u)))),CV.sl 1 (encI (Ls.a (Hp.f (Wld.h (Prod.fst u))))),CV.sl 1 (encI (Ls.b (Hp.f (Wld.h (Prod.fst u))))),CV.sl 1 (encI (Ls.c (Hp.f (Wld.h (Prod.fst u))))),CV.sl 1 (encBs (Hp.c (Wld.h (Prod.fst u)))),CV.int IntKind.i64 (Coll.ph (Wld.c (Prod.fst u))),CV.int IntKind.i64 (Coll.ep (Wld.c (Prod.fst u))),CV.bool (Coll.mj (Wld.c (Prod.fst u))),CV.sl 1 (encI (Coll.wk (Wld.c (Prod.fst u)))),CV.bool (Coll.ov (Wld.c (Prod.fst u))),CV.int IntKind.i64 (Coll.a (Wld.c (Prod.fst u))),CV.int IntKind.i64 (Coll.fi (Wld.c (Prod.fst u))),CV.int IntKind.i64 (Coll.se (Wld.c (Prod.fst u))),CV.int IntKind.i64 (Coll.ca (Wld.c (Prod.fst u))),CV.bool (Coll.me (Wld.c (Prod.fst u))),CV.sl 15 (List.map (RowC.e rTh) (Wld.t (Prod.fst u))),CV.sl 7 (List.map (RowC.e rRes) (Wld.l (Prod.fst u)))]] fun a a_1 a_2=>K a a_1 a_2
 else none
 else none
 else
 K (Exit.exit 0) [CV.ref 0,CV.sl 1 (encI R)] [(RowC.e rWl w)]:=by kernel_rfl
end Go.Ab

namespace Go.Ab
open Go
set_option maxRecDepth 100000
open Go.Proofs
theorem hd_dec (x:Hd):Cod.dec cHd (CV.agg [CV.bool x.a,CV.bool x.b,CV.bool x.c,CV.int .i64 x.x,CV.int .i64 x.y,CV.int .i64 x.z])=some x:=cHd.de x
def preB (w:Wld) (R:List Int):Bool:=Nat.ble R.length 100000&&(Nat.ble w.h.w.length 100000&&((smH w.h&&smLs [w.h.f])&&(R.all (fun a=>a != 0)&&(decide (R.Pairwise (· < ·))&&R.all (okFld w.h R)))))
theorem obj_loop (w:Wld) (R:List Int) (hp:preB w R=true) (β:Type) (K:Exit->List CV->List (List CV)->Option β):∀ (m i:Nat),i+m=R.length->
  loopB y3b [1,5,6] o3B p3B (bodyL (bodyOf Tryz.f3) p3B) (m+1) [.ref 0,cIs.enc R,cI.enc (i:Int)] [rWl.e w] K=K (.exit 0) [.ref 0,cIs.enc R] [rWl.e w]:=by
 unfold preB at hp
 simp only [Bool.and_eq_true,List.all_eq_true,decide_eq_true_eq] at hp
 obtain ⟨hl,hw,⟨s1,s2⟩,hz,hpw,hok⟩:=hp
 have hl':=Nat.le_of_ble_eq_true hl
 intro m
 induction m with
 | zero=>
  intro i h1
  rw [yt3B,decide_eq_false (by rw [encI_len];omega),cond_false];rfl
 | succ m ih=>
  intro i h1
  have hi:i<R.length:=by omega
  have gR:(encI R)[(i:Int).toNat]? = some [CV.int .i64 R[i]]:=by simp [encI,hi]
  have ww:IntKind.i64.wrap ((i:Int)+1)=((i+1:Nat):Int):=by rw [wrap_in (by omega)];omega
  have z:(R[i]==0)=false:=by have:=hz _ (List.getElem_mem hi);simpa using this
  have pA:preA w (headE w.h R[i]).1 R (i:Int) (headE w.h R[i]).2 1=true:=by
   have eg:R.getD ((i:Nat):Int).toNat 0=R[i]:=by simp [hi]
   unfold preA
   rw [eg,hl,hw,hok _ (List.getElem_mem hi)]
   simp;omega
  have nx:=ih (i+1) (by omega)
  rw [yt3B,decide_eq_true (by rw [encI_len];omega),cond_true,rdE_nat (by omega),gR]
  simp only [obs,zero_get,asI_i,z,cond_false,cHp.de,s1,s2,Bool.and_self,cond_true,decI_map,rWl.de,hd_dec,pA,ww]
  by_cases h0:(i:Int)>0
  ·obtain ⟨j,rfl⟩:∃ j,i=j+1:=⟨i - 1,by omega⟩
   have gL:(encI R)[(((j+1:Nat):Int) - 1).toNat]? = some [CV.int .i64 R[j]]:=by
    rw [show (((j+1:Nat):Int) - 1).toNat=j by omega];simp [encI,show j<R.length by omega]
   have lt:R[j]<R[j+1]:=List.pairwise_iff_getElem.1 hpw j (j+1) (by omega) hi (by omega)
   rw [decide_eq_true h0,cond_true,wrap_in (a:=((j+1:Nat):Int) - 1) (by omega),rdE_nat (by omega),gL]
   simp only [obs,zero_get,asI_i,decide_eq_false (show ¬ R[j+1]<=R[j] by omega),cond_false]
   exact nx
  ·rw [decide_eq_false h0,cond_false]
   exact nx
def L3B:LoopSem:=l3 [1,5,6] o3B (cRef 0) cIs cI rWl.cb (fun _ R i w=>i==0&&preB w R) fun _ R _ w => .one (.exit 0) [.ref 0,cIs.enc R] [rWl.e w]
noncomputable abbrev y3c:Cx:=y3b.loop p3B L3B
theorem y3c_ok (haw:GoodC Pr 18 gTrue):CxOK y3c lq3:=by
 refine CxOK.loop3 (y3b_ok haw) rfl fun _ R i w hp => ?_
 simp only [Bool.and_eq_true,beq_iff_eq] at hp
 obtain ⟨rfl,hp⟩:=hp
 exact ⟨R.length+1,fun β K=>obj_loop w R hp β K R.length 0 (by omega)⟩
theorem yt3C0 (w:Wld) (R:List Int) (i:Int) (m:Nat) (β:Type) (K:Exit->List CV->List (List CV)->Option β):loopB y3c [1,5,11,12] o3C p3C (bodyL (bodyOf Tryz.f3) p3C) (m+1) [.ref 0,cIs.enc R,cI.enc i,cI.enc 0] [rWl.e w] K=
 Option.bind (rdE (List.map (RowC.e rTh) (Wld.t w)) i) fun c=>
 Option.bind c[0]? fun x=>
 Option.bind (asB x) fun b=>
 bif b then
 Option.bind (rdE (List.map (RowC.e rTh) (Wld.t w)) i) fun c=>
 Option.bind c[1]? fun x=>
 Option.bind (asI IntKind.i64 x) fun n=>
 bif n != 0 then
 Option.bind (rdE (List.map (RowC.e rTh) (Wld.t w)) i) fun c=>
 Option.bind c[1]? fun x=>
 Option.bind (asI IntKind.i64 x) fun n=>
 Option.bind (decI (encI R)) fun a=>
 bif Nat.ble (List.length a) 100000 then
 bif !List.contains a n then
 K Exit.ret [CV.bool false] [(RowC.e rWl w)]
 else loopB y3c [1,5,11,12] o3C [false,true,false,false,true,false,false,true,false,true,true,true,true,true,true] (bodyL (bodyOf Tryz.f3) p3C) m [CV.ref 0,CV.sl 1 (encI R),CV.int IntKind.i64 i,CV.int IntKind.i64 1] [(RowC.e rWl w)] fun a a_1 a_2=>K a a_1 a_2
 else none
 else loopB y3c [1,5,11,12] o3C [false,true,false,false,true,false,false,true,false,true,true,true,true,true,true] (bodyL (bodyOf Tryz.f3) p3C) m [CV.ref 0,CV.sl 1 (encI R),CV.int IntKind.i64 i,CV.int IntKind.i64 1] [(RowC.e rWl w)] fun a a_1 a_2=>K a a_1 a_2
 else loopB y3c [1,5,11,12] o3C [false,true,false,false,true,false,false,true,false,true,true,true,true,true,true] (bodyL (bodyOf Tryz.f3) p3C) m [CV.ref 0,CV.sl 1 (encI R),CV.int IntKind.i64 i,CV.int IntKind.i64 1] [(RowC.e rWl w)] fun a a_1 a_2=>K a a_1 a_2:=by kernel_rfl
theorem yt3C1 (w:Wld) (R:List Int) (i:Int) (m:Nat) (β:Type) (K:Exit->List CV->List (List CV)->Option β):loopB y3c [1,5,11,12] o3C p3C (bodyL (bodyOf Tryz.f3) p3C) (m+1) [.ref 0,cIs.enc R,cI.enc i,cI.enc 1] [rWl.e w] K=
 Option.bind (rdE (List.map (RowC.e rTh) (Wld.t w)) i) fun c=>
 Option.bind c[0]? fun x=>
 Option.bind (asB x) fun b=>
 bif b then
 Option.bind (rdE (List.map (RowC.e rTh) (Wld.t w)) i) fun c=>
 Option.bind c[2]? fun x=>
 Option.bind (asI IntKind.i64 x) fun n=>
 bif n != 0 then
 Option.bind (rdE (List.map (RowC.e rTh) (Wld.t w)) i) fun c=>
 Option.bind c[2]? fun x=>
 Option.bind (asI IntKind.i64 x) fun n=>
 Option.bind (decI (encI R)) fun a=>
 bif Nat.ble (List.length a) 100000 then
 bif !List.contains a n then
 K Exit.ret [CV.bool false] [(RowC.e rWl w)]
 else loopB y3c [1,5,11,12] o3C [false,true,false,false,true,false,false,true,false,true,true,true,true,true,true] (bodyL (bodyOf Tryz.f3) p3C) m [CV.ref 0,CV.sl 1 (encI R),CV.int IntKind.i64 i,CV.int IntKind.i64 2] [(RowC.e rWl w)] fun a a_1 a_2=>K a a_1 a_2
 else none
 else loopB y3c [1,5,11,12] o3C [false,true,false,false,true,false,false,true,false,true,true,true,true,true,true] (bodyL (bodyOf Tryz.f3) p3C) m [CV.ref 0,CV.sl 1 (encI R),CV.int IntKind.i64 i,CV.int IntKind.i64 2] [(RowC.e rWl w)] fun a a_1 a_2=>K a a_1 a_2
 else loopB y3c [1,5,11,12] o3C [false,true,false,false,true,false,false,true,false,true,true,true,true,true,true] (bodyL (bodyOf Tryz.f3) p3C) m [CV.ref 0,CV.sl 1 (encI R),CV.int IntKind.i64 i,CV.int IntKind.i64 2] [(RowC.e rWl w)] fun a a_1 a_2=>K a a_1 a_2:=by kernel_rfl
theorem yt3C2 (w:Wld) (R:List Int) (i:Int) (m:Nat) (β:Type) (K:Exit->List CV->List (List CV)->Option β):loopB y3c [1,5,11,12] o3C p3C (bodyL (bodyOf Tryz.f3) p3C) (m+1) [.ref 0,cIs.enc R,cI.enc i,cI.enc 2] [rWl.e w] K=
 Option.bind (rdE (List.map (RowC.e rTh) (Wld.t w)) i) fun c=>
 Option.bind c[0]? fun x=>
 Option.bind (asB x) fun b=>
 bif b then
 Option.bind (rdE (List.map (RowC.e rTh) (Wld.t w)) i) fun c=>
 Option.bind c[3]? fun x=>
 Option.bind (asI IntKind.i64 x) fun n=>
 bif n != 0 then
 Option.bind (rdE (List.map (RowC.e rTh) (Wld.t w)) i) fun c=>
 Option.bind c[3]? fun x=>
 Option.bind (asI IntKind.i64 x) fun n=>
 Option.bind (decI (encI R)) fun a=>
 bif Nat.ble (List.length a) 100000 then
 bif !List.contains a n then
 K Exit.ret [CV.bool false] [(RowC.e rWl w)]
 else loopB y3c [1,5,11,12] o3C [false,true,false,false,true,false,false,true,false,true,true,true,true,true,true] (bodyL (bodyOf Tryz.f3) p3C) m [CV.ref 0,CV.sl 1 (encI R),CV.int IntKind.i64 i,CV.int IntKind.i64 3] [(RowC.e rWl w)] fun a a_1 a_2=>K a a_1 a_2
 else none
 else loopB y3c [1,5,11,12] o3C [false,true,false,false,true,false,false,true,false,true,true,true,true,true,true] (bodyL (bodyOf Tryz.f3) p3C) m [CV.ref 0,CV.sl 1 (encI R),CV.int IntKind.i64 i,CV.int IntKind.i64 3] [(RowC.e rWl w)] fun a a_1 a_2=>K a a_1 a_2
 else loopB y3c [1,5,11,12] o3C [false,true,false,false,true,false,false,true,false,true,true,true,true,true,true] (bodyL (bodyOf Tryz.f3) p3C) m [CV.ref 0,CV.sl 1 (encI R),CV.int IntKind.i64 i,CV.int IntKind.i64 3] [(RowC.e rWl w)] fun a a_1 a_2=>K a a_1 a_2:=by kernel_rfl
theorem yt3C3 (w:Wld) (R:List Int) (i:Int) (m:Nat) (β:Type) (K:Exit->List CV->List (List CV)->Option β):loopB y3c [1,5,11,12] o3C p3C (bodyL (bodyOf Tryz.f3) p3C) (m+1) [.ref 0,cIs.enc R,cI.enc i,cI.enc 3] [rWl.e w] K=
 Option.bind (rdE (List.map (RowC.e rTh) (Wld.t w)) i) fun c=>
 Option.bind c[0]? fun x=>
 Option.bind (asB x) fun b=>
 bif b then
 Option.bind (rdE (List.map (RowC.e rTh) (Wld.t w)) i) fun c=>
 Option.bind c[4]? fun x=>
 Option.bind (asI IntKind.i64 x) fun n=>
 bif n != 0 then
 Option.bind (rdE (List.map (RowC.e rTh) (Wld.t w)) i) fun c=>
 Option.bind c[4]? fun x=>
 Option.bind (asI IntKind.i64 x) fun n=>
 Option.bind (decI (encI R)) fun a=>
 bif Nat.ble (List.length a) 100000 then
 bif !List.contains a n then
 K Exit.ret [CV.bool false] [(RowC.e rWl w)]
 else loopB y3c [1,5,11,12] o3C [false,true,false,false,true,false,false,true,false,true,true,true,true,true,true] (bodyL (bodyOf Tryz.f3) p3C) m [CV.ref 0,CV.sl 1 (encI R),CV.int IntKind.i64 i,CV.int IntKind.i64 4] [(RowC.e rWl w)] fun a a_1 a_2=>K a a_1 a_2
 else none
 else loopB y3c [1,5,11,12] o3C [false,true,false,false,true,false,false,true,false,true,true,true,true,true,true] (bodyL (bodyOf Tryz.f3) p3C) m [CV.ref 0,CV.sl 1 (encI R),CV.int IntKind.i64 i,CV.int IntKind.i64 4] [(RowC.e rWl w)] fun a a_1 a_2=>K a a_1 a_2
 else loopB y3c [1,5,11,12] o3C [false,true,false,false,true,false,false,true,false,true,true,true,true,true,true] (bodyL (bodyOf Tryz.f3) p3C) m [CV.ref 0,CV.sl 1 (encI R),CV.int IntKind.i64 i,CV.int IntKind.i64 4] [(RowC.e rWl w)] fun a a_1 a_2=>K a a_1 a_2:=by kernel_rfl
theorem yt3C4 (w:Wld) (R:List Int) (i:Int) (m:Nat) (β:Type) (K:Exit->List CV->List (List CV)->Option β):loopB y3c [1,5,11,12] o3C p3C (bodyL (bodyOf Tryz.f3) p3C) (m+1) [.ref 0,cIs.enc R,cI.enc i,cI.enc 4] [rWl.e w] K=
 K (Exit.exit 6) [CV.ref 0,CV.sl 1 (encI R),CV.int IntKind.i64 i] [(RowC.e rWl w)]:=by kernel_rfl
def okV (R:List Int) (v:Int):Bool:=v==0 || R.contains v
def okRegs (R:List Int) (t:Thr):Bool:=bif t.lv then okV R t.r0&&(okV R t.r1&&(okV R t.r2&&okV R t.r3)) else true
theorem okV_no {R:List Int} {v:Int} (h:okV R v=true) (hv:(v != 0)=true):R.contains v=true:=by
 unfold okV at h
 rw [show (v==0)=false by simpa using hv,Bool.false_or] at h
 exact h
end Go.Ab

namespace Go.Ab
open Go
set_option maxRecDepth 100000
open Go.Proofs
theorem asB_o (b:Bool):asB (.bool b)=some b:=by cases b <;> rfl
theorem reg_step0 (w:Wld) (R:List Int) (hl:Nat.ble R.length 100000=true) (i:Nat) (hi:i<w.t.length) (ht:okRegs R w.t[i]=true) (m:Nat) (β:Type) (K:Exit->List CV->List (List CV)->Option β):
  loopB y3c [1,5,11,12] o3C p3C (bodyL (bodyOf Tryz.f3) p3C) (m+1) [.ref 0,cIs.enc R,cI.enc (i:Int),cI.enc 0] [rWl.e w] K=loopB y3c [1,5,11,12] o3C p3C (bodyL (bodyOf Tryz.f3) p3C) m [.ref 0,cIs.enc R,cI.enc (i:Int),cI.enc 1] [rWl.e w] K:=by
 unfold okRegs at ht
 rw [yt3C0,rdE_row rTh hi]
 simp only [obs,rTh_e,List.getElem?_cons_zero,List.getElem?_cons_succ,asB_o,asI_i,decI_map,hl,cond_true]
 cases hb:w.t[i].lv with
 | false=>rw [cond_false];rfl
 | true=>
  rw [hb,cond_true] at ht
  simp only [Bool.and_eq_true] at ht
  rw [cond_true]
  cases hv:w.t[i].r0 != 0 with
  | false=>rw [cond_false];rfl
  | true=>rw [cond_true,okV_no ht.1 hv,Bool.not_true,cond_false];rfl
theorem reg_step1 (w:Wld) (R:List Int) (hl:Nat.ble R.length 100000=true) (i:Nat) (hi:i<w.t.length) (ht:okRegs R w.t[i]=true) (m:Nat) (β:Type) (K:Exit->List CV->List (List CV)->Option β):
  loopB y3c [1,5,11,12] o3C p3C (bodyL (bodyOf Tryz.f3) p3C) (m+1) [.ref 0,cIs.enc R,cI.enc (i:Int),cI.enc 1] [rWl.e w] K=loopB y3c [1,5,11,12] o3C p3C (bodyL (bodyOf Tryz.f3) p3C) m [.ref 0,cIs.enc R,cI.enc (i:Int),cI.enc 2] [rWl.e w] K:=by
 unfold okRegs at ht
 rw [yt3C1,rdE_row rTh hi]
 simp only [obs,rTh_e,List.getElem?_cons_zero,List.getElem?_cons_succ,asB_o,asI_i,decI_map,hl,cond_true]
 cases hb:w.t[i].lv with
 | false=>rw [cond_false];rfl
 | true=>
  rw [hb,cond_true] at ht
  simp only [Bool.and_eq_true] at ht
  rw [cond_true]
  cases hv:w.t[i].r1 != 0 with
  | false=>rw [cond_false];rfl
  | true=>rw [cond_true,okV_no ht.2.1 hv,Bool.not_true,cond_false];rfl
theorem reg_step2 (w:Wld) (R:List Int) (hl:Nat.ble R.length 100000=true) (i:Nat) (hi:i<w.t.length) (ht:okRegs R w.t[i]=true) (m:Nat) (β:Type) (K:Exit->List CV->List (List CV)->Option β):
  loopB y3c [1,5,11,12] o3C p3C (bodyL (bodyOf Tryz.f3) p3C) (m+1) [.ref 0,cIs.enc R,cI.enc (i:Int),cI.enc 2] [rWl.e w] K=loopB y3c [1,5,11,12] o3C p3C (bodyL (bodyOf Tryz.f3) p3C) m [.ref 0,cIs.enc R,cI.enc (i:Int),cI.enc 3] [rWl.e w] K:=by
 unfold okRegs at ht
 rw [yt3C2,rdE_row rTh hi]
 simp only [obs,rTh_e,List.getElem?_cons_zero,List.getElem?_cons_succ,asB_o,asI_i,decI_map,hl,cond_true]
 cases hb:w.t[i].lv with
 | false=>rw [cond_false];rfl
 | true=>
  rw [hb,cond_true] at ht
  simp only [Bool.and_eq_true] at ht
  rw [cond_true]
  cases hv:w.t[i].r2 != 0 with
  | false=>rw [cond_false];rfl
  | true=>rw [cond_true,okV_no ht.2.2.1 hv,Bool.not_true,cond_false];rfl
theorem reg_step3 (w:Wld) (R:List Int) (hl:Nat.ble R.length 100000=true) (i:Nat) (hi:i<w.t.length) (ht:okRegs R w.t[i]=true) (m:Nat) (β:Type) (K:Exit->List CV->List (List CV)->Option β):
  loopB y3c [1,5,11,12] o3C p3C (bodyL (bodyOf Tryz.f3) p3C) (m+1) [.ref 0,cIs.enc R,cI.enc (i:Int),cI.enc 3] [rWl.e w] K=loopB y3c [1,5,11,12] o3C p3C (bodyL (bodyOf Tryz.f3) p3C) m [.ref 0,cIs.enc R,cI.enc (i:Int),cI.enc 4] [rWl.e w] K:=by
 unfold okRegs at ht
 rw [yt3C3,rdE_row rTh hi]
 simp only [obs,rTh_e,List.getElem?_cons_zero,List.getElem?_cons_succ,asB_o,asI_i,decI_map,hl,cond_true]
 cases hb:w.t[i].lv with
 | false=>rw [cond_false];rfl
 | true=>
  rw [hb,cond_true] at ht
  simp only [Bool.and_eq_true] at ht
  rw [cond_true]
  cases hv:w.t[i].r3 != 0 with
  | false=>rw [cond_false];rfl
  | true=>rw [cond_true,okV_no ht.2.2.2 hv,Bool.not_true,cond_false];rfl
def L3C:LoopSem:=l4 [1,5,11,12] o3C (cRef 0) cIs cI cI rWl.cb (fun _ R i r w=>r==0&&(Nat.ble R.length 100000&&(decide (0<=i)&&(decide (i<(w.t.length:Int))&&w.t.all (okRegs R))))) fun _ R i _ w => .one (.exit 6) [.ref 0,cIs.enc R,cI.enc i] [rWl.e w]
noncomputable abbrev y3d:Cx:=y3c.loop p3C L3C
theorem y3d_ok (haw:GoodC Pr 18 gTrue):CxOK y3d lq3:=by
 refine CxOK.loop4 (y3c_ok haw) rfl fun _ R i r w hp => ?_
 simp only [Bool.and_eq_true,beq_iff_eq,decide_eq_true_eq] at hp
 obtain ⟨rfl,hl,h0,h1,hok⟩:=hp
 obtain ⟨j,rfl⟩:∃ j:Nat,i=(j:Int):=⟨i.toNat,by omega⟩
 have hj:j<w.t.length:=by omega
 have ht:=List.all_eq_true.1 hok _ (List.getElem_mem hj)
 exact ⟨5,fun β K=>(reg_step0 w R hl j hj ht 4 β K).trans ((reg_step1 w R hl j hj ht 3 β K).trans ((reg_step2 w R hl j hj ht 2 β K).trans ((reg_step3 w R hl j hj ht 1 β K).trans (yt3C4 w R (j:Int) 0 β K))))⟩
theorem yt3D (w:Wld) (R:List Int) (i:Int) (m:Nat) (β:Type) (K:Exit->List CV->List (List CV)->Option β):loopB y3d [1,5,11] o3D p3D (bodyL (bodyOf Tryz.f3) p3D) (m+1) [.ref 0,cIs.enc R,cI.enc i] [rWl.e w] K=
 bif decide (i<(↑(List.length (List.map (RowC.e rTh) (Wld.t w))):Int)) then
 Option.bind (decI (encI R)) fun b=>
 Option.bind (RowC.d rWl (RowC.e rWl w)) fun u=>
 bif Nat.ble (List.length b) 100000&&(decide (0<=i)&&(decide (i<(↑(List.length (Wld.t u)):Int))&&List.all (Wld.t u) (okRegs b))) then loopB y3d [1,5,11] o3D [false,true,false,true,true,true,true,true,true] (bodyL (bodyOf Tryz.f3) p3D) m [CV.ref 0,CV.sl 1 (encI b),CV.int IntKind.i64 (IntKind.wrap IntKind.i64 (i+1))] [(RowC.e rWl u)] fun a a_1 a_2=>K a a_1 a_2
 else none
 else
 K (Exit.exit 4) [CV.ref 0,CV.sl 1 (encI R)] [(RowC.e rWl w)]:=by kernel_rfl
theorem thr_loop (w:Wld) (R:List Int) (hl:Nat.ble R.length 100000=true) (hT:w.t.length<=100000) (hok:w.t.all (okRegs R)=true) (β:Type) (K:Exit->List CV->List (List CV)->Option β):∀ (m i:Nat),i+m=w.t.length->
  loopB y3d [1,5,11] o3D p3D (bodyL (bodyOf Tryz.f3) p3D) (m+1) [.ref 0,cIs.enc R,cI.enc (i:Int)] [rWl.e w] K=K (.exit 4) [.ref 0,cIs.enc R] [rWl.e w]:=by
 intro m
 induction m with
 | zero=>
  intro i h1
  rw [yt3D,decide_eq_false (by rw [List.length_map];omega),cond_false];rfl
 | succ m ih=>
  intro i h1
  have ww:IntKind.i64.wrap ((i:Int)+1)=((i+1:Nat):Int):=by rw [wrap_in (by omega)];omega
  have nx:=ih (i+1) (by omega)
  rw [yt3D,decide_eq_true (by rw [List.length_map];omega),cond_true]
  simp only [decI_map,rWl.de,obs,hl,hok,decide_eq_true (show (0:Int)<=(i:Int) by omega),decide_eq_true (show (i:Int)<(w.t.length:Int) by omega),Bool.and_self,beq_self_eq_true,cond_true,ww,Bool.true_and]
  exact nx
def L3D:LoopSem:=l3 [1,5,11] o3D (cRef 0) cIs cI rWl.cb (fun _ R i w=>i==0&&(Nat.ble R.length 100000&&(Nat.ble w.t.length 100000&&w.t.all (okRegs R)))) fun _ R _ w => .one (.exit 4) [.ref 0,cIs.enc R] [rWl.e w]
noncomputable abbrev y3e:Cx:=y3d.loop p3D L3D
theorem y3e_ok (haw:GoodC Pr 18 gTrue):CxOK y3e lq3:=by
 refine CxOK.loop3 (y3d_ok haw) rfl fun _ R i w hp => ?_
 simp only [Bool.and_eq_true,beq_iff_eq] at hp
 obtain ⟨rfl,hl,hT,hok⟩:=hp
 exact ⟨w.t.length+1,fun β K=>thr_loop w R hl (Nat.le_of_ble_eq_true hT) hok β K w.t.length 0 (by omega)⟩
theorem yt3E (R S:List Int) (i:Int) (m:Nat) (β:Type) (K:Exit->List CV->List (List CV)->Option β):loopB y3e [5,14,15] o3E p3E (bodyL (bodyOf Tryz.f3) p3E) (m+1) [cIs.enc R,cIs.enc S,cI.enc i] [] K=
 bif decide (i<(↑(List.length (encI S)):Int)) then
 Option.bind (rdE (encI S) i) fun c=>
 Option.bind c[0]? fun x=>
 Option.bind (asI IntKind.i64 x) fun n=>
 Option.bind (decI (encI R)) fun a=>
 bif Nat.ble (List.length a) 100000 then
 bif !List.contains a n then K Exit.ret [CV.bool false] []
 else loopB y3e [5,14,15] o3E [false,true,false,true,true,true,true,true,true,true,true,true,true,true] (bodyL (bodyOf Tryz.f3) p3E) m [CV.sl 1 (encI R),CV.sl 1 (encI S),CV.int IntKind.i64 (IntKind.wrap IntKind.i64 (i+1))] [] fun a a_1 a_2=>K a a_1 a_2
 else none
 else K (Exit.exit 8) [] []:=by kernel_rfl
theorem sub_loop (R S:List Int) (hl:Nat.ble R.length 100000=true) (hS:S.length<=100000) (hok:S.all (R.contains ·)=true) (β:Type) (K:Exit->List CV->List (List CV)->Option β):∀ (m i:Nat),i+m=S.length->
  loopB y3e [5,14,15] o3E p3E (bodyL (bodyOf Tryz.f3) p3E) (m+1) [cIs.enc R,cIs.enc S,cI.enc (i:Int)] [] K=K (.exit 8) [] []:=by
 intro m
 induction m with
 | zero=>
  intro i h1
  rw [yt3E,decide_eq_false (by rw [encI_len];omega),cond_false]
 | succ m ih=>
  intro i h1
  have hi:i<S.length:=by omega
  have gS:(encI S)[(i:Int).toNat]? = some [CV.int .i64 S[i]]:=by simp [encI,hi]
  have ww:IntKind.i64.wrap ((i:Int)+1)=((i+1:Nat):Int):=by rw [wrap_in (by omega)];omega
  have hc:R.contains S[i]=true:=List.all_eq_true.1 hok _ (List.getElem_mem hi)
  have nx:=ih (i+1) (by omega)
  rw [yt3E,decide_eq_true (by rw [encI_len];omega),cond_true,rdE_nat (by omega),gS]
  simp only [obs,zero_get,asI_i,decI_map,hl,cond_true,hc,Bool.not_true,cond_false,ww]
  exact nx
def L3E:LoopSem:=l3 [5,14,15] o3E cIs cIs cI c0 (fun R S i _=>i==0&&(Nat.ble R.length 100000&&(Nat.ble S.length 100000&&S.all (R.contains ·)))) fun _ _ _ _ => .one (.exit 8) [] []
noncomputable abbrev y3:Cx:=y3e.loop p3E L3E
theorem y3_ok (haw:GoodC Pr 18 gTrue):CxOK y3 lq3:=by
 refine CxOK.loop3 (y3e_ok haw) rfl fun R S i _ hp => ?_
 simp only [Bool.and_eq_true,beq_iff_eq] at hp
 obtain ⟨rfl,hl,hS,hok⟩:=hp
 exact ⟨S.length+1,fun β K=>sub_loop R S hl (Nat.le_of_ble_eq_true hS) hok β K S.length 0 (by omega)⟩
end Go.Ab

namespace Go.Ab
open Go
set_option maxRecDepth 100000
open Go.Proofs
theorem yr3 (w:Wld) (β:Type) (K:CV->List (List CV)->Option β):fnK y3 Tryz.f3 [cWl.enc w] [] K=
 Option.bind (RowC.d rWl (RowC.e rWl w)) fun a=>
 bif !fewW a then K (CV.bool true) []
 else
 Option.bind (cHp.dec (cHp.enc (Wld.h w))) fun a=>
 bif smH a&&smLs [Hp.f a] then
 bif !mayHpV a [] then K (CV.bool true) []
 else
 Option.bind (RowC.d rWl (RowC.e rWl w)) fun a=>
 bif Nat.ble (List.length (Wld.t a)) 100000&&(smH (Wld.h a)&&smLs [Hp.f (Wld.h a)]) then
 Option.bind (decI (encI (reachE (Wld.h a) (Wld.t a)))) fun b=>
 Option.bind (RowC.d rWl (RowC.e rWl w)) fun u=>
 bif preB u b then
 Option.bind (decI (encI b)) fun b=>
 Option.bind (RowC.d rWl (RowC.e rWl u)) fun u=>
 bif Nat.ble (List.length b) 100000&&(Nat.ble (List.length (Wld.t u)) 100000&&List.all (Wld.t u) (okRegs b)) then
 bif (↑(List.length (List.map (RowC.e rTh) (Wld.t u))):Int)==0 then
 K (CV.bool ((↑(List.length (encI b)):Int)==0)) []
 else
 bif okBounds (List.length (List.map (RowC.e rTh) (Wld.t u))) (some 1) none none then
 Option.bind (Option.bind (decHp6 (encI (Hp.w (Wld.h u))) (List.map encP (Hp.p (Wld.h u))) (encI (Ls.a (Hp.f (Wld.h u)))) (encI (Ls.b (Hp.f (Wld.h u)))) (encI (Ls.c (Hp.f (Wld.h u)))) (encBs (Hp.c (Wld.h u)))) fun h=>
 Option.bind (RowC.d rCo [CV.int IntKind.i64 (Coll.ph (Wld.c u)),CV.int IntKind.i64 (Coll.ep (Wld.c u)),CV.bool (Coll.mj (Wld.c u)),CV.sl 1 (encI (Coll.wk (Wld.c u))),CV.bool (Coll.ov (Wld.c u)),CV.int IntKind.i64 (Coll.a (Wld.c u)),CV.int IntKind.i64 (Coll.fi (Wld.c u)),CV.int IntKind.i64 (Coll.se (Wld.c u)),CV.int IntKind.i64 (Coll.ca (Wld.c u)),CV.bool (Coll.me (Wld.c u))]) fun c=>
 Option.bind (RowC.dl rTh (subl (List.map (RowC.e rTh) (Wld.t u)) 1 (Int.toNat (Option.getD none (↑(List.length (List.map (RowC.e rTh) (Wld.t u))):Int) - 1)))) fun t=>
 Option.bind (RowC.dl rRes (List.map (RowC.e rRes) (Wld.l u))) fun lg=>some {h:=h,c:=c,t:=t,l:=lg}) fun a=>
 bif Nat.ble (List.length (Wld.t a)) 100000&&(smH (Wld.h a)&&smLs [Hp.f (Wld.h a)]) then
 Option.bind (decI (encI b)) fun a_1=>
 Option.bind (decI (encI (reachE (Wld.h a) (Wld.t a)))) fun b=>
 bif Nat.ble (List.length a_1) 100000&&(Nat.ble (List.length b) 100000&&List.all b fun x=>List.contains a_1 x) then
 K (CV.bool true) []
 else none
 else none
 else none
 else none
 else none
 else none
 else none:=by kernel_rfl
end Go.Ab

namespace Go.Ab
open Go
set_option maxRecDepth 100000
open Go.Proofs
end Go.Ab

namespace Go.Ab
open Go
set_option maxRecDepth 100000
open Go.Proofs
theorem light_le {l:Ls} (h:lightV l=true):l.a.length<=70/\l.b.length<=70/\l.c.length<=70:=by
 simp only [lightV,Bool.and_eq_true,decide_eq_true_eq] at h
 omega
theorem smH_of {h:Hp} (h1:h.w.length<=100000) (h2:h.p.length<=200) (h3:h.c.length<=100000) (h4:smL h.f=true):smH h=true:=by
 simp only [smH,sm,Nat.ble_eq_true_of_le h1,Nat.ble_eq_true_of_le h2,Nat.ble_eq_true_of_le h3,h4,Bool.and_self]
end Go.Ab

namespace Go.Ab
open Go
set_option maxRecDepth 100000
open Go.Proofs
theorem fewW_le {w:Wld} (hf:fewW w=true):w.h.w.length<=130/\smH w.h=true/\smLs [w.h.f]=true/\w.t.length<=6/\w.l.length<=500/\(∀ t∈w.t,few12 t=true):=by
 unfold fewW fewH at hf
 simp only [Bool.and_eq_true,decide_eq_true_eq,List.all_eq_true] at hf
 obtain ⟨⟨h1,h2,h3,h4⟩,_,h5,h6,h7⟩:=hf
 have hl:=(light_le h4)
 have hs:smL w.h.f=true:=smL_len (by omega) (by omega) (by omega)
 refine ⟨by omega,smH_of (by omega) (by omega) (by omega) hs,?_,by omega,by omega,h7⟩
 unfold smLs
 simp [hs]
theorem preB_reach (w:Wld) (h1:w.h.w.length<=130) (h2:smH w.h=true) (h3:smLs [w.h.f]=true) (h4:w.t.length<=6):preB w (reachE w.h w.t)=true:=by
 have hlen:(reachE w.h w.t).length<=166:=by
  have:=reach_len w.h w.t
  unfold reachE
  rw [sortI_len];omega
 unfold preB
 rw [Nat.ble_eq_true_of_le (by omega),Nat.ble_eq_true_of_le (by omega),h2,h3,decide_eq_true (reach_lt w.h w.t)]
 simp only [Bool.true_and,Bool.and_self,Bool.and_eq_true,List.all_eq_true]
 refine ⟨fun a ha=>by simpa using reach_nz ha,fun a ha => ?_⟩
 unfold okFld
 cases he:((headE w.h a).2 != 0) with
 | true=>rfl
 | false=>
  rw [cond_false,List.all_eq_true]
  intro v hv
  rcases reach_cl ha hv with h | h
  ·subst h;rfl
  ·have:(reachE w.h w.t).contains v=true:=by simpa using h
   rw [this,Bool.or_true]
theorem okRegs_reach (w:Wld):w.t.all (okRegs (reachE w.h w.t))=true:=by
 rw [List.all_eq_true]
 intro t ht
 unfold okRegs
 cases hl:t.lv with
 | false=>rfl
 | true=>
  have ok:∀ v∈[t.r0,t.r1,t.r2,t.r3,t.x,t.y],okV (reachE w.h w.t) v=true:=fun v hv=>by
   unfold okV
   rcases reach_root (h:=w.h) ht hl hv with h | h
   ·subst h;rfl
   ·have:(reachE w.h w.t).contains v=true:=by simpa using h
    rw [this,Bool.or_true]
  rw [cond_true,ok t.r0 (by simp),ok t.r1 (by simp),ok t.r2 (by simp),ok t.r3 (by simp)];rfl
theorem lawR3_run (w:Wld) (β:Type) (K:CV->List (List CV)->Option β):fnK y3 Tryz.f3 [cWl.enc w] [] K=K (.bool true) []:=by
 rw [yr3,rWl.de,obs]
 cases hf:fewW w with
 | false=>rw [Bool.not_false,cond_true]
 | true=>
  obtain ⟨h1,h2,h3,h4,h5,h6⟩:=fewW_le hf
  rw [Bool.not_true,cond_false,cHp.de,obs,h2,h3,Bool.and_self,cond_true]
  cases hm:mayHpV w.h [] with
  | false=>rw [Bool.not_false,cond_true]
  | true=>
   have hlen:(reachE w.h w.t).length<=166:=by
    have:=reach_len w.h w.t
    unfold reachE
    rw [sortI_len];omega
   rw [Bool.not_true,cond_false,obs,Nat.ble_eq_true_of_le (show w.t.length<=100000 by omega),h2,h3,Bool.and_self,Bool.and_self,cond_true,decI_map,obs,obs,preB_reach w h1 h2 h3 h4,cond_true,decI_map,obs,rWl.de,obs,
    Nat.ble_eq_true_of_le (show (reachE w.h w.t).length<=100000 by omega),Nat.ble_eq_true_of_le (show w.t.length<=100000 by omega),okRegs_reach,Bool.and_self,Bool.and_self,cond_true,List.length_map,encI_len]
   obtain ⟨h,c,ts,l⟩:=w
   cases ts with
   | nil=>
    dsimp only
    rw [reach_nil];rfl
   | cons t ts=>
    have e1:((((t::ts).length:Nat):Int)==0)=false:=by
     rw [beq_eq_false_iff_ne];simp only [List.length_cons];omega
    have ob:okBounds (t::ts).length (some 1) none none=true:=by unfold okBounds;simp;omega
    have sb:subl (List.map rTh.e (t::ts)) 1 (((t::ts).length:Int) - 1).toNat=List.map rTh.e ts:=by
     unfold subl
     rw [List.map_cons,List.drop_succ_cons,List.drop_zero]
     refine List.take_of_length_le ?_
     rw [List.length_map];simp only [List.length_cons];omega
    have hl2:(reachE h ts).length<=166:=by
     have:=reach_len h ts
     simp only [List.length_cons] at h4
     unfold reachE
     rw [sortI_len]
     dsimp only at h1
     omega
    have hs:(reachE h ts).all (fun x=>(reachE h (t::ts)).contains x)=true:=by
     rw [List.all_eq_true]
     intro a ha
     have:=reach_less (t:=t) ha
     simpa using this
    dsimp only at*
    simp only [List.length_cons] at h4
    rw [e1,cond_false,ob,cond_true,Option.getD_none,sb,decHp6_enc,obs]
    rw [show rCo.d [CV.int IntKind.i64 c.ph,CV.int IntKind.i64 c.ep,CV.bool c.mj,CV.sl 1 (encI c.wk),CV.bool c.ov,CV.int IntKind.i64 c.a,CV.int IntKind.i64 c.fi,CV.int IntKind.i64 c.se,CV.int IntKind.i64 c.ca,CV.bool c.me]=some c from rCo.de c,obs,rTh.dm,obs,rRes.dm,obs,obs]
    dsimp only
    rw [Nat.ble_eq_true_of_le (show ts.length<=100000 by omega),h2,h3,Bool.and_self,Bool.and_self,cond_true,decI_map,obs,decI_map,obs,Nat.ble_eq_true_of_le (show (reachE h (t::ts)).length<=100000 by omega),Nat.ble_eq_true_of_le (show (reachE h ts).length<=100000 by omega),hs]
    rfl
def gLawR3:Callee:=g1 cWl (fun _=>true) fun _=>cB.enc true
theorem lawR3_good (haw:GoodC Pr 18 gTrue):GoodC Pr 3 gLawR3:=
 good1 ((y3_ok haw).sound (cx:=y3) Tryz.func3 (by kernel_rfl) (by kernel_rfl) rfl (by kernel_rfl)) fun w _ β K=>lawR3_run w β K
end Go.Ab

namespace Go.Ab
open Go
set_option maxRecDepth 100000
open Go.Proofs
theorem eqOK_find {cx:Cx} (hP:cx.P=Go.Proofs.Tryz.prog) (h:cx.eqT=fun t=>Nat.beq t 101):EqOK cx:=fun t ht=>by
 rw [h] at ht
 have:=beq_true ht
 subst this
 rw [hP]
 refine ⟨by kernel_rfl,fun vs us r w hv hu he => ?_⟩
 obtain ⟨f0,f1,h1,h2,h3,h4,h5,h6,h7,h8⟩:∃ f0 f1:Field,Go.Proofs.Tryz.prog.underlying 101=some (.struct #[f0,f1])/\f0.name ≠ "_" /\ f1.name ≠ "_" /\ f0.offset=0/\f1.offset=1/\Go.Proofs.Tryz.prog.underlying f0.type=some (.int .i64)/\
   Go.Proofs.Tryz.prog.underlying f1.type=some (.int .i64)/\flatT Go.Proofs.Tryz.prog 8 101=[f0.type,f1.type]:=⟨_,_,Go.Proofs.Tryz.underlying101,by decide,by decide,rfl,rfl,by kernel_rfl,by kernel_rfl,by kernel_rfl⟩
 exact eq_two h1 (by kernel_rfl) h2 h3 h4 h5 h6 h7 h8 vs us r w hv hu he
theorem n97:GoodN Pr 97 (inlC y97 Tryz.f97):=(CxOK.baseN Good.nil GoodI.nil (eqOK_none fun _=>rfl)).inlG (cx:=y97) Tryz.func97 (by kernel_rfl) (by kernel_rfl) rfl (by kernel_rfl)
theorem n195:GoodN Pr 195 (inlC y195 Tryz.f195):=(CxOK.baseN Good.nil GoodI.nil (eqOK_none fun _=>rfl)).inlG (cx:=y195) Tryz.func195 (by kernel_rfl) (by kernel_rfl) rfl (by kernel_rfl)
theorem n33:GoodN Pr 33 (inlC y33 Tryz.f33):=(CxOK.baseN Good.nil (GoodI.cons n97 GoodI.nil) (eqOK_none fun _=>rfl)).inlG (cx:=y33) Tryz.func33 (by kernel_rfl) (by kernel_rfl) rfl (by kernel_rfl)
theorem n112:GoodN Pr 112 (inlC y112 Tryz.f112):=(CxOK.baseN Good.nil (GoodI.cons n33 GoodI.nil) (eqOK_none fun _=>rfl)).inlG (cx:=y112) Tryz.func112 (by kernel_rfl) (by kernel_rfl) rfl (by kernel_rfl)
theorem n194:GoodN Pr 194 (inlC y194 Tryz.f194):=(CxOK.baseN Good.nil (GoodI.cons n112 GoodI.nil) (eqOK_none fun _=>rfl)).inlG (cx:=y194) Tryz.func194 (by kernel_rfl) (by kernel_rfl) rfl (by kernel_rfl)
theorem n113:GoodN Pr 113 (inlC y113 Tryz.f113):=(CxOK.baseN Good.nil (GoodI.cons n194 GoodI.nil) (eqOK_none fun _=>rfl)).inlG (cx:=y113) Tryz.func113 (by kernel_rfl) (by kernel_rfl) rfl (by kernel_rfl)
theorem n114:GoodN Pr 114 (inlC y114 Tryz.f114):=(CxOK.baseN Good.nil (GoodI.cons n195 GoodI.nil) (eqOK_none fun _=>rfl)).inlG (cx:=y114) Tryz.func114 (by kernel_rfl) (by kernel_rfl) rfl (by kernel_rfl)
theorem n48:GoodN Pr 48 (inlC y48 Tryz.f48):=(CxOK.baseN (Good.cons cloneA_good Good.nil) GoodI.nil (eqOK_none fun _=>rfl)).inlG (cx:=y48) Tryz.func48 (by kernel_rfl) (by kernel_rfl) rfl (by kernel_rfl)
theorem n50:GoodN Pr 50 (inlC y50 Tryz.f50):=(CxOK.baseN (Good.cons wholeC_good Good.nil) (GoodI.cons n113 (GoodI.cons n114 (GoodI.cons n48 GoodI.nil))) (eqOK_none fun _=>rfl)).inlG (cx:=y50) Tryz.func50 (by kernel_rfl) (by kernel_rfl) rfl (by kernel_rfl)
theorem n53:GoodN Pr 53 (inlC y53 Tryz.f53):=(CxOK.baseN (Good.cons new_good (Good.cons cloneO_good Good.nil)) GoodI.nil (eqOK_none fun _=>rfl)).inlG (cx:=y53) Tryz.func53 (by kernel_rfl) (by kernel_rfl) rfl (by kernel_rfl)
theorem n120:GoodN Pr 120 (inlC y120 Tryz.f120):=(CxOK.baseN (Good.cons headC_good Good.nil) GoodI.nil (eqOK_none fun _=>rfl)).inlG (cx:=y120) Tryz.func120 (by kernel_rfl) (by kernel_rfl) rfl (by kernel_rfl)
theorem n126:GoodN Pr 126 (inlC y126 Tryz.f126):=(CxOK.baseN Good.nil (GoodI.cons n50 GoodI.nil) (eqOK_none fun _=>rfl)).inlG (cx:=y126) Tryz.func126 (by kernel_rfl) (by kernel_rfl) rfl (by kernel_rfl)
theorem n119:GoodN Pr 119 (inlC y119 Tryz.f119):=(CxOK.baseN Good.nil (GoodI.cons n120 (GoodI.cons n126 GoodI.nil)) (eqOK_none fun _=>rfl)).inlG (cx:=y119) Tryz.func119 (by kernel_rfl) (by kernel_rfl) rfl (by kernel_rfl)
theorem n56:GoodN Pr 56 (inlC y56 Tryz.f56):=(CxOK.baseN (Good.cons reachC_good (Good.cons usedC_good Good.nil)) (GoodI.cons n119 GoodI.nil) (eqOK_none fun _=>rfl)).inlG (cx:=y56) Tryz.func56 (by kernel_rfl) (by kernel_rfl) rfl (by kernel_rfl)
theorem intsG:GoodC Pr 57 gInts:=⟨ints_sound,ints_nat⟩
theorem awake22_good:GoodC Pr 18 gTrue:=
 good0 ((CxOK.baseN (Good.cons reachC_good (Good.cons intsG Good.nil)) (GoodI.cons n53 (GoodI.cons n56 GoodI.nil)) (eqOK_find rfl rfl)).sound (cx:=y18) Tryz.func18 (by kernel_rfl) (by kernel_rfl) rfl (by kernel_rfl)) fun _ _ β K=>yr18 () β K
theorem lawA3_good:GoodC Pr 3 gLawR3:=lawR3_good awake22_good
theorem lawA3_run (w:Wld) (β:Type) (K:CV->List (List CV)->Option β):gLawR3.run [cWl.enc w] [] β K=K (.bool true) []:=by
 show (cWl.dec (cWl.enc w)).bind _=_
 rw [cWl.de];rfl
end Go.Ab

namespace Go.Proofs.YtabpohoppmmbbaaGreatDoor
set_option maxRecDepth 100000
open Go Go.Ab Go.ChangeShapes Go.WideShapes Go.ChangeAt Go.RowKit
theorem own0:ownKnob Tryz.prog.godebug=none:=by kernel_rfl
theorem laidOut0:laidOutB Tryz.prog=true:=by kernel_rfl
section
variable {H:Type} {enc:TypeId×Value->H} {w w':World} {r:Reach} {b0 base:Nat} {spare:Nat->Bool} {held:Bool}
def All2 (w:World) (M:Nat->Prop):List CV->List Value->Prop
 | [],[]=>True
 | x::xs,v::vs=>(plain v/\CR w M x v)/\All2 w M xs vs
 | _,_=>False
theorem All2.len {M:Nat->Prop}:∀ {xs:List CV} {vs:List Value},All2 w M xs vs->vs.length=xs.length
 | [],[],_=>rfl
 | [],_::_,h=>h.elim
 | _::_,[],h=>h.elim
 | _::_,_::_,h=>by simp [All2.len h.2]
theorem All2.at {M:Nat->Prop}:∀ {xs:List CV} {vs:List Value},All2 w M xs vs->∀ (j:Nat) (x:CV),xs[j]? = some x->∃ v,vs[j]? = some v/\plain v/\CR w M x v
 | [],_,_,j,x,hx=>by simp at hx
 | _::_,[],h,_,_,_=>h.elim
 | y::xs,v::vs,h,0,x,hx=>by
  simp at hx
  subst hx
  exact ⟨v,rfl,h.1⟩
 | y::xs,v::vs,h,j+1,x,hx=>by
  obtain ⟨u,hu,hq⟩:=All2.at h.2 j x (by simpa using hx)
  exact ⟨u,by simpa using hu,hq⟩
theorem sl_plain {M:Nat->Prop} {sz:Nat} {L:List (List CV)} {v:Value} (h:CR w M (.sl sz L) v):plain v:=by
 cases h <;> rfl
theorem read_ints {fuel:Nat} {cs:List Value} {x:DataW H×List MemPlace} (h:DataW.trod enc Tryz.prog w base spare held fuel 22 cs=some x):∃ v xs,cs=[v]/\CR w (fun _=>False) (.sl 1 (Ab.encI xs)) v/\xs.length<=maxLen:=by
 obtain ⟨v,L,hv,hc,he,hl⟩:=open_sl (M:=fun _=>False) Tryz.underlying22 (by kernel_rfl:Tryz.prog.cellsOf 3=1) (by omega) (elt_int Tryz.underlying3) (fun _ h=>h) h
 obtain ⟨xs,rfl⟩:=map_of (enc:=fun n=>[CV.int .i64 n]) fun l hl=>by
  obtain ⟨n,rfl,_⟩:=he l hl
  exact ⟨n,rfl⟩
 exact ⟨v,xs,hv,hc,by simpa using hl⟩
theorem read_pages {fuel:Nat} {cs:List Value} {x:DataW H×List MemPlace} (h:DataW.trod enc Tryz.prog w base spare held fuel 23 cs=some x):∃ v ps,cs=[v]/\CR w (fun _=>False) (.sl 2 (List.map encP ps)) v:=by
 obtain ⟨f0,f1,h1,o0,o1,c0,c1,h6,h7⟩:∃ f0 f1:Field,Tryz.prog.underlying 107=some (.struct #[f0,f1])/\f0.offset=0/\f1.offset=1/\Tryz.prog.cellsOf f0.type=1/\Tryz.prog.cellsOf f1.type=1/\Tryz.prog.underlying f0.type=some (.int .i64)/\
   Tryz.prog.underlying f1.type=some (.int .i64):=⟨_,_,Tryz.underlying107,rfl,rfl,by kernel_rfl,by kernel_rfl,by kernel_rfl,by kernel_rfl⟩
 obtain ⟨v,L,hv,hc,he,_⟩:=open_sl (M:=fun _=>False) Tryz.underlying23 (by kernel_rfl:Tryz.prog.cellsOf 107=2) (by omega) (elt_two h1 o0 o1 (by kernel_rfl) c0 c1 h6 h7) (fun _ h=>h) h
 obtain ⟨l,rfl⟩:=map_of (enc:=encP) fun l hl=>by
  obtain ⟨n,m,rfl,_,_⟩:=he l hl
  exact ⟨(n,m),rfl⟩
 exact ⟨v,l,hv,hc⟩
theorem read_bools {fuel:Nat} {cs:List Value} {x:DataW H×List MemPlace} (h:DataW.trod enc Tryz.prog w base spare held fuel 26 cs=some x):∃ v xs,cs=[v]/\CR w (fun _=>False) (.sl 1 (encBs xs)) v:=by
 obtain ⟨v,L,hv,hc,he,hl⟩:=open_sl (M:=fun _=>False) Tryz.underlying26 (by kernel_rfl:Tryz.prog.cellsOf 4=1) (by omega) (elt_bool Tryz.underlying4) (fun _ h=>h) h
 obtain ⟨xs,rfl⟩:=map_of (enc:=fun n=>[CV.bool n]) fun l hl=>by
  obtain ⟨n,rfl⟩:=he l hl
  exact ⟨n,rfl⟩
 exact ⟨v,xs,hv,hc⟩
theorem read_lists {fuel:Nat} {cs:List Value} {x:DataW H×List MemPlace} (h:DataW.trod enc Tryz.prog w base spare held fuel 25 cs=some x):∃ (v0 v1 v2:Value) (l:Ls),cs=[v0,v1,v2]/\CR w (fun _=>False) (.sl 1 (Ab.encI l.a)) v0/\CR w (fun _=>False) (.sl 1 (Ab.encI l.b)) v1/\CR w (fun _=>False) (.sl 1 (Ab.encI l.c)) v2:=by
 obtain ⟨xs,m,_,_,hcl,hxl,hf⟩:=DataW.trod_array Tryz.underlying25 h
 rw [show Tryz.prog.cellsOf 25=3 by kernel_rfl] at hcl
 have c1:Tryz.prog.cellsOf 22=1:=by kernel_rfl
 match cs,hcl with
 | [u0,u1,u2],_=>
  have g0:=hf 0 (by omega)
  have g1:=hf 1 (by omega)
  have g2:=hf 2 (by omega)
  rw [c1] at g0 g1 g2
  obtain ⟨y0,hy0⟩:∃ y0,xs[0]? = some y0:=⟨xs[0]'(by omega),by simp⟩
  obtain ⟨y1,hy1⟩:∃ y1,xs[1]? = some y1:=⟨xs[1]'(by omega),by simp⟩
  obtain ⟨y2,hy2⟩:∃ y2,xs[2]? = some y2:=⟨xs[2]'(by omega),by simp⟩
  rw [hy0] at g0
  rw [hy1] at g1
  rw [hy2] at g2
  obtain ⟨v0,l0,e0,q0,_⟩:=read_ints g0
  obtain ⟨v1,l1,e1,q1,_⟩:=read_ints g1
  obtain ⟨v2,l2,e2,q2,_⟩:=read_ints g2
  simp at e0 e1 e2
  subst e0 e1 e2
  exact ⟨_,_,_,⟨l0,l1,l2⟩,rfl,q0,q1,q2⟩
theorem okWide_agg {t:TypeId} {v:Value} (h:(∃ fs,Tryz.prog.underlying t=some (.struct fs))\/∃ n e,Tryz.prog.underlying t=some (.array n e)) (hv:Value.okWide Tryz.prog w' r b0 t v):∃ cs:Array Value,v = .agg cs:=by
 unfold Value.okWide at hv
 rcases h with ⟨fs,h⟩ | ⟨n,e,h⟩
 ·rw [h] at hv
  obtain ⟨cs,rfl,_⟩:=hv
  exact ⟨cs,rfl⟩
 ·rw [h] at hv
  obtain ⟨cs,rfl,_⟩:=hv
  exact ⟨cs,rfl⟩
end
section
variable {H:Type} {enc:TypeId×Value->H} {w w':World} {r:Reach} {b0 base:Nat} {spare:Nat->Bool} {held:Bool}
end
section
variable {H:Type} {enc:TypeId×Value->H} {w w':World} {r:Reach} {b0 base:Nat} {spare:Nat->Bool} {held:Bool}
end
theorem gTab:Tryz.prog.globalNamed "ragpicker/class.words" = some 0:=by kernel_rfl
theorem gTabType:(Tryz.prog.globals[0]?).map (·.type)=some 217:=by kernel_rfl
theorem cellsTab:Tryz.prog.cellsOf 217=3:=by kernel_rfl
theorem cells3:Tryz.prog.cellsOf 3=1:=by kernel_rfl
abbrev laidW:List (String×DataW Unit):=[("ragpicker/class.words",Rows.laid_ragpicker_class_words)]
theorem table {W:World} (h:laidMetH Tryz.prog laidW W):Lib.TabIs Tryz.prog W "ragpicker/class.words" .i64 [2,4,8]:=
 Lib.tabIs_of_head (rest:=[]) gTab gTabType Tryz.underlying217 Tryz.underlying3 cells3 cellsTab h
theorem glob_of {W:World} (h:laidMetH Tryz.prog laidW W):GlobR W fun _=>False:=fun g cs hg=>by
 unfold GL at hg
 cases hb:Nat.beq g 0 with
 | false=>rw [hb] at hg;cases hg
 | true=>
  rw [hb] at hg
  have hg0:=beq_true hb
  subst hg0
  cases hg
  have hc:=fun i hi=>(table h).cell gTab i hi
  refine .pc _ 0 0 0 (fun j => .int .i64 ([2,4,8].getD j 0)) (fun h=>h) (World.block_lt_of_cell? W ⟨0,0,none⟩ (hc 0 (by decide))) (fun j x hx => ?_) (fun j x hx=>rfl) (fun j x hx => ?_)
  ·have hj:j<3:=by simpa using (List.getElem?_eq_some_iff.1 hx).1
   rw [Nat.zero_add]
   exact hc j hj
  ·have hj:j<3:=by simpa using (List.getElem?_eq_some_iff.1 hx).1
   match j,hj,hx with
   | 0,_,hx=>cases hx;exact .int _ _
   | 1,_,hx=>cases hx;exact .int _ _
   | 2,_,hx=>cases hx;exact .int _ _
noncomputable def laidWorld (os:Os):World:=
 {World.holding Tryz.prog os ⟨#[],#[],[]⟩ with heap:=(World.holding Tryz.prog os ⟨#[],#[],[]⟩).heap.modify 0 fun
   | .cells _ t frozen => .cells #[.int .i64 2,.int .i64 4,.int .i64 8] t frozen
   | o=>o}
end Go.Proofs.YtabpohoppmmbbaaGreatDoor

namespace Go.Proofs.YtabpohoppmmbbaaGreatDoor
set_option maxRecDepth 100000
open Go Go.Ab Go.ChangeShapes Go.WideShapes Go.ChangeAt Go.RowKit
section
variable {H:Type} {enc:TypeId×Value->H} {w w':World} {r:Reach} {b0 base:Nat} {spare:Nat->Bool} {held:Bool}
abbrev EltT (enc:TypeId×Value->H) (w:World) (base:Nat) (spare:Nat->Bool) (held:Bool) (e:TypeId) (sz:Nat) (El:List CV->Prop):Prop:=EltR Tryz.prog enc w (fun _=>False) base spare held e sz El
inductive FldsR (enc:TypeId×Value->H) (w:World) (base:Nat) (spare:Nat->Bool) (held:Bool):List Field->List (List CV->Prop)->Nat->Prop
 | nil (off:Nat):FldsR enc w base spare held [] [] off
 | cons {f:Field} {fs:List Field} {n off:Nat} {E:List CV->Prop} {Es:List (List CV->Prop)} (ho:f.offset=off) (hc:Tryz.prog.cellsOf f.type=n) (he:EltT enc w base spare held f.type n E) (hr:FldsR enc w base spare held fs Es (off+n)):FldsR enc w base spare held (f::fs) (E::Es) off
def Cat:List (List CV->Prop)->List CV->Prop
 | [],l=>l=[]
 | E::Es,l=>∃ a b,E a/\Cat Es b/\l=a++b
theorem cat_fields {cs:List Value}:∀ {gs:List Field} {Es:List (List CV->Prop)} {off:Nat},FldsR enc w base spare held gs Es off->(∀ f∈gs,∃ m y,DataW.trod enc Tryz.prog w base spare held m f.type ((cs.drop f.offset).take (Tryz.prog.cellsOf f.type))=some y)->
  ∃ l,Cat Es l/\∀ (j:Nat) (y:CV),l[j]? = some y->∃ u,cs[off+j]? = some u/\plain u/\CR w (fun _=>False) y u
 | _,_,_,.nil off,_=>⟨[],rfl,fun j y h=>by simp at h⟩
 | _,_,_,.cons (f:=f) (fs:=fs) (n:=n) (off:=off) (E:=E) ho hc he hr,h=>by
  obtain ⟨m,x,hx⟩:=h f (by simp)
  obtain ⟨a,ha,hE,hat⟩:=he m _ x hx
  obtain ⟨b,hb,hbt⟩:=cat_fields hr fun g hg=>h g (by simp [hg])
  refine ⟨a++b,⟨a,b,hE,hb,rfl⟩,fun j y hy => ?_⟩
  rcases Nat.lt_or_ge j n with hj | hj
  ·rw [List.getElem?_append_left (by omega)] at hy
   obtain ⟨u,hu,hp,hcr⟩:=hat j y hy
   rw [List.getElem?_take] at hu
   split at hu
   ·rw [List.getElem?_drop,ho] at hu
    exact ⟨u,hu,hp,hcr⟩
   ·cases hu
  ·rw [List.getElem?_append_right (by omega),ha] at hy
   obtain ⟨u,hu,q⟩:=hbt (j - n) y hy
   rw [show off+n+(j - n)=off+j by omega] at hu
   exact ⟨u,hu,q⟩
theorem elt_struct {t:TypeId} {fs:Array Field} {Es:List (List CV->Prop)} {n:Nat} (ht:Tryz.prog.underlying t=some (.struct fs)) (hF:FldsR enc w base spare held fs.toList Es 0) (hn:∀ l,Cat Es l->l.length=n):EltT enc w base spare held t n (Cat Es):=fun m cs x h=>by
 obtain ⟨xs,k,_,_,hcl,hxl,hf⟩:=DataW.trod_struct ht h
 obtain ⟨l,hl,hr⟩:=cat_fields (cs:=cs) hF fun f hf'=>by
  obtain ⟨i,hi⟩:=List.mem_iff_getElem?.1 hf'
  have:=hf i f (by simpa using hi)
  have hil:i<xs.length:=by
   rw [hxl]
   have:=(List.getElem?_eq_some_iff.1 hi).1
   simpa using this
  rw [List.getElem?_eq_getElem hil] at this
  exact ⟨_,_,this⟩
 exact ⟨l,hn l hl,hl,fun j y hy=>by simpa using hr j y hy⟩
theorem EltR.imp {e:TypeId} {sz:Nat} {E E':List CV->Prop} (h:EltT enc w base spare held e sz E) (hi:∀ l,E l->E' l):EltT enc w base spare held e sz E':=fun n cs x hx=>by
 obtain ⟨l,h1,h2,h3⟩:=h n cs x hx
 exact ⟨l,h1,hi l h2,h3⟩
def EI (l:List CV):Prop:=∃ n,l=[.int .i64 n]
def EB (l:List CV):Prop:=∃ b,l=[.bool b]
theorem eI:EltT enc w base spare held 3 1 EI:=EltR.imp (elt_int Tryz.underlying3) fun l ⟨n,h,_⟩=>⟨n,h⟩
theorem eE:EltT enc w base spare held 41 1 EI:=EltR.imp (elt_int Tryz.underlying41) fun l ⟨n,h,_⟩=>⟨n,h⟩
theorem eB:EltT enc w base spare held 4 1 EB:=EltR.imp (elt_bool Tryz.underlying4) fun l ⟨n,h⟩=>⟨n,h⟩
theorem one_of {v:Value} {c:CV} (h:CR w (fun _=>False) c v) (hp:plain v):∀ (j:Nat) (y:CV),[c][j]? = some y->∃ u,[v][j]? = some u/\plain u/\CR w (fun _=>False) y u
 | 0,y,hy=>by cases hy;exact ⟨_,rfl,hp,h⟩
def EIs (l:List CV):Prop:=∃ xs,l=[.sl 1 (Ab.encI xs)]
theorem eIs:EltT enc w base spare held 22 1 EIs:=fun n cs x h=>by
 obtain ⟨v,xs,rfl,hc,_⟩:=read_ints h
 exact ⟨_,rfl,⟨xs,rfl⟩,one_of hc (sl_plain hc)⟩
def EPs (l:List CV):Prop:=∃ xs,l=[.sl 2 (List.map encP xs)]
theorem ePs:EltT enc w base spare held 23 1 EPs:=fun n cs x h=>by
 obtain ⟨v,xs,rfl,hc⟩:=read_pages h
 exact ⟨_,rfl,⟨xs,rfl⟩,one_of hc (sl_plain hc)⟩
def EBs (l:List CV):Prop:=∃ xs,l=[.sl 1 (encBs xs)]
theorem eBs:EltT enc w base spare held 26 1 EBs:=fun n cs x h=>by
 obtain ⟨v,xs,rfl,hc⟩:=read_bools h
 exact ⟨_,rfl,⟨xs,rfl⟩,one_of hc (sl_plain hc)⟩
def ELs (l:List CV):Prop:=∃ x:Ls,l=encLs x
theorem eLs:EltT enc w base spare held 25 3 ELs:=fun n cs x hx=>by
 obtain ⟨v0,v1,v2,l,rfl,q0,q1,q2⟩:=read_lists hx
 refine ⟨encLs l,rfl,⟨l,rfl⟩,fun j y hy => ?_⟩
 match j,hy with
 | 0,hy=>cases hy;exact ⟨_,rfl,sl_plain q0,q0⟩
 | 1,hy=>cases hy;exact ⟨_,rfl,sl_plain q1,q1⟩
 | 2,hy=>cases hy;exact ⟨_,rfl,sl_plain q2,q2⟩
theorem eSl {α:Type} (R:RowC α) {t e:TypeId} {sz:Nat} (ht:Tryz.prog.underlying t=some (.slice e)) (hsz:Tryz.prog.cellsOf e=sz) (h0:0<sz) (he:EltT enc w base spare held e sz fun l=>∃ a,l=R.e a):
  EltT enc w base spare held t 1 fun l=>∃ xs,l=[.sl sz (List.map R.e xs)]:=fun n cs x h=>by
 obtain ⟨v,L,rfl,hc,hE,_⟩:=open_sl (M:=fun _=>False) ht hsz h0 he (fun _ h=>h) h
 obtain ⟨xs,rfl⟩:=map_of (enc:=R.e) hE
 exact ⟨_,rfl,⟨xs,rfl⟩,one_of hc (sl_plain hc)⟩
def E4 (l:List CV):Prop:=∃ a b c d,l=[.int .i64 a,.int .i64 b,.int .i64 c,.int .i64 d]
theorem e4:EltT enc w base spare held 45 4 E4:=fun n cs x h=>by
 obtain ⟨xs,m,_,_,hcl,hxl,hf⟩:=DataW.trod_array Tryz.underlying45 h
 have c1:Tryz.prog.cellsOf 3=1:=by kernel_rfl
 have at_:∀ i,i<4->∃ a u,cs[i]? = some u/\plain u/\CR w (fun _=>False) (.int .i64 a) u:=fun i hi=>by
  have g:=hf i hi
  rw [List.getElem?_eq_getElem (by omega)] at g
  obtain ⟨l,_,⟨a,rfl⟩,hr⟩:=eI (enc:=enc) (w:=w) (base:=base) (spare:=spare) (held:=held) m _ _ g
  obtain ⟨u,hu,hp,hc⟩:=hr 0 _ rfl
  rw [c1,List.getElem?_take,if_pos (by omega),List.getElem?_drop,Nat.mul_one,Nat.add_zero] at hu
  exact ⟨a,u,hu,hp,hc⟩
 obtain ⟨a0,u0,h0⟩:=at_ 0 (by omega)
 obtain ⟨a1,u1,h1⟩:=at_ 1 (by omega)
 obtain ⟨a2,u2,h2⟩:=at_ 2 (by omega)
 obtain ⟨a3,u3,h3⟩:=at_ 3 (by omega)
 refine ⟨_,rfl,⟨a0,a1,a2,a3,rfl⟩,fun j y hy => ?_⟩
 match j,hy with
 | 0,hy=>cases hy;exact ⟨_,h0⟩
 | 1,hy=>cases hy;exact ⟨_,h1⟩
 | 2,hy=>cases hy;exact ⟨_,h2⟩
 | 3,hy=>cases hy;exact ⟨_,h3⟩
theorem eHp:EltT enc w base spare held 28 6 fun l=>∃ h:Hp,l=encHp h:=
 EltR.imp (elt_struct Tryz.underlying28 (.cons rfl (by kernel_rfl) eIs (.cons rfl (by kernel_rfl) ePs (.cons rfl (by kernel_rfl) eLs (.cons rfl (by kernel_rfl) eBs (.nil _))))) (by
  rintro l ⟨_,_,⟨x0,rfl⟩,⟨_,_,⟨x1,rfl⟩,⟨_,_,⟨x2,rfl⟩,⟨_,_,⟨x3,rfl⟩,rfl,rfl⟩,rfl⟩,rfl⟩,rfl⟩;rfl)) (by
  rintro l ⟨_,_,⟨x0,rfl⟩,⟨_,_,⟨x1,rfl⟩,⟨_,_,⟨x2,rfl⟩,⟨_,_,⟨x3,rfl⟩,rfl,rfl⟩,rfl⟩,rfl⟩,rfl⟩;exact ⟨⟨x0,x1,x2,x3⟩,rfl⟩)
end
end Go.Proofs.YtabpohoppmmbbaaGreatDoor

namespace Go.Proofs.YtabpohoppmmbbaaGreatDoor
set_option maxRecDepth 100000
open Go Go.Ab Go.ChangeShapes Go.WideShapes Go.ChangeAt Go.RowKit
section
variable {H:Type} {enc:TypeId×Value->H} {w w':World} {r:Reach} {b0 base:Nat} {spare:Nat->Bool} {held:Bool}
theorem eOp:EltT enc w base spare held 52 4 fun l=>∃ o:Opn,l=rOp.e o:=
 EltR.imp (elt_struct Tryz.underlying52 (.cons rfl (by kernel_rfl) eI (.cons rfl (by kernel_rfl) eI (.cons rfl (by kernel_rfl) eI (.cons rfl (by kernel_rfl) eI (.nil _))))) (by
  rintro l ⟨_,_,⟨x0,rfl⟩,⟨_,_,⟨x1,rfl⟩,⟨_,_,⟨x2,rfl⟩,⟨_,_,⟨x3,rfl⟩,rfl,rfl⟩,rfl⟩,rfl⟩,rfl⟩;rfl)) (by
  rintro l ⟨_,_,⟨x0,rfl⟩,⟨_,_,⟨x1,rfl⟩,⟨_,_,⟨x2,rfl⟩,⟨_,_,⟨x3,rfl⟩,rfl,rfl⟩,rfl⟩,rfl⟩,rfl⟩;exact ⟨⟨x0,x1,x2,x3⟩,rfl⟩)
theorem eRes:EltT enc w base spare held 54 7 fun l=>∃ o:Res,l=rRes.e o:=
 EltR.imp (elt_struct Tryz.underlying54 (.cons rfl (by kernel_rfl) eI (.cons rfl (by kernel_rfl) eOp (.cons rfl (by kernel_rfl) eE (.cons rfl (by kernel_rfl) eI (.nil _))))) (by
  rintro l ⟨_,_,⟨x0,rfl⟩,⟨_,_,⟨x1,rfl⟩,⟨_,_,⟨x2,rfl⟩,⟨_,_,⟨x3,rfl⟩,rfl,rfl⟩,rfl⟩,rfl⟩,rfl⟩;rfl)) (by
  rintro l ⟨_,_,⟨x0,rfl⟩,⟨_,_,⟨x1,rfl⟩,⟨_,_,⟨x2,rfl⟩,⟨_,_,⟨x3,rfl⟩,rfl,rfl⟩,rfl⟩,rfl⟩,rfl⟩;exact ⟨⟨x0,x1,x2,x3⟩,rfl⟩)
theorem eCo:EltT enc w base spare held 30 10 fun l=>∃ c:Coll,l=rCo.e c:=
 EltR.imp (elt_struct Tryz.underlying30 (.cons rfl (by kernel_rfl) eI (.cons rfl (by kernel_rfl) eI (.cons rfl (by kernel_rfl) eB (.cons rfl (by kernel_rfl) eIs (.cons rfl (by kernel_rfl) eB (.cons rfl (by kernel_rfl) eI (.cons rfl (by kernel_rfl) eI (.cons rfl (by kernel_rfl) eI (.cons rfl (by kernel_rfl) eI (.cons rfl (by kernel_rfl) eB (.nil _))))))))))) (by
  rintro l ⟨_,_,⟨x0,rfl⟩,⟨_,_,⟨x1,rfl⟩,⟨_,_,⟨x2,rfl⟩,⟨_,_,⟨x3,rfl⟩,⟨_,_,⟨x4,rfl⟩,⟨_,_,⟨x5,rfl⟩,⟨_,_,⟨x6,rfl⟩,⟨_,_,⟨x7,rfl⟩,⟨_,_,⟨x8,rfl⟩,⟨_,_,⟨x9,rfl⟩,rfl,rfl⟩,rfl⟩,rfl⟩,rfl⟩,rfl⟩,rfl⟩,rfl⟩,rfl⟩,rfl⟩,rfl⟩;rfl)) (by
  rintro l ⟨_,_,⟨x0,rfl⟩,⟨_,_,⟨x1,rfl⟩,⟨_,_,⟨x2,rfl⟩,⟨_,_,⟨x3,rfl⟩,⟨_,_,⟨x4,rfl⟩,⟨_,_,⟨x5,rfl⟩,⟨_,_,⟨x6,rfl⟩,⟨_,_,⟨x7,rfl⟩,⟨_,_,⟨x8,rfl⟩,⟨_,_,⟨x9,rfl⟩,rfl,rfl⟩,rfl⟩,rfl⟩,rfl⟩,rfl⟩,rfl⟩,rfl⟩,rfl⟩,rfl⟩,rfl⟩;exact ⟨⟨x0,x1,x2,x3,x4,x5,x6,x7,x8,x9⟩,rfl⟩)
theorem eOps:EltT enc w base spare held 46 1 fun l=>∃ xs,l=[.sl 4 (List.map rOp.e xs)]:=eSl rOp Tryz.underlying46 (by kernel_rfl) (by omega) eOp
theorem eTh:EltT enc w base spare held 48 15 fun l=>∃ t:Thr,l=rTh.e t:=
 EltR.imp (elt_struct Tryz.underlying48 (.cons rfl (by kernel_rfl) eB (.cons rfl (by kernel_rfl) e4 (.cons rfl (by kernel_rfl) eLs (.cons rfl (by kernel_rfl) eI (.cons rfl (by kernel_rfl) eI (.cons rfl (by kernel_rfl) eI (.cons rfl (by kernel_rfl) eOps (.cons rfl (by kernel_rfl) eI (.cons rfl (by kernel_rfl) eI (.cons rfl (by kernel_rfl) eI (.nil _))))))))))) (by
  rintro l ⟨_,_,⟨x0,rfl⟩,⟨_,_,⟨x1a,x1b,x1c,x1d,rfl⟩,⟨_,_,⟨x2,rfl⟩,⟨_,_,⟨x3,rfl⟩,⟨_,_,⟨x4,rfl⟩,⟨_,_,⟨x5,rfl⟩,⟨_,_,⟨x6,rfl⟩,⟨_,_,⟨x7,rfl⟩,⟨_,_,⟨x8,rfl⟩,⟨_,_,⟨x9,rfl⟩,rfl,rfl⟩,rfl⟩,rfl⟩,rfl⟩,rfl⟩,rfl⟩,rfl⟩,rfl⟩,rfl⟩,rfl⟩;rfl)) (by
  rintro l ⟨_,_,⟨x0,rfl⟩,⟨_,_,⟨x1a,x1b,x1c,x1d,rfl⟩,⟨_,_,⟨x2,rfl⟩,⟨_,_,⟨x3,rfl⟩,⟨_,_,⟨x4,rfl⟩,⟨_,_,⟨x5,rfl⟩,⟨_,_,⟨x6,rfl⟩,⟨_,_,⟨x7,rfl⟩,⟨_,_,⟨x8,rfl⟩,⟨_,_,⟨x9,rfl⟩,rfl,rfl⟩,rfl⟩,rfl⟩,rfl⟩,rfl⟩,rfl⟩,rfl⟩,rfl⟩,rfl⟩,rfl⟩;exact ⟨⟨x0,x1a,x1b,x1c,x1d,x2,x3,x4,x5,x6,x7,x8,x9⟩,rfl⟩)
theorem eTs:EltT enc w base spare held 31 1 fun l=>∃ xs,l=[.sl 15 (List.map rTh.e xs)]:=eSl rTh Tryz.underlying31 (by kernel_rfl) (by omega) eTh
theorem eRs:EltT enc w base spare held 32 1 fun l=>∃ xs,l=[.sl 7 (List.map rRes.e xs)]:=eSl rRes Tryz.underlying32 (by kernel_rfl) (by omega) eRes
theorem eWl:EltT enc w base spare held 34 18 fun l=>∃ x:Wld,l=rWl.e x:=
 EltR.imp (elt_struct Tryz.underlying34 (.cons rfl (by kernel_rfl) eHp (.cons rfl (by kernel_rfl) eCo (.cons rfl (by kernel_rfl) eTs (.cons rfl (by kernel_rfl) eRs (.nil _))))) (by
  rintro l ⟨_,_,⟨x0,rfl⟩,⟨_,_,⟨x1,rfl⟩,⟨_,_,⟨x2,rfl⟩,⟨_,_,⟨x3,rfl⟩,rfl,rfl⟩,rfl⟩,rfl⟩,rfl⟩;rfl)) (by
  rintro l ⟨_,_,⟨x0,rfl⟩,⟨_,_,⟨x1,rfl⟩,⟨_,_,⟨x2,rfl⟩,⟨_,_,⟨x3,rfl⟩,rfl,rfl⟩,rfl⟩,rfl⟩,rfl⟩;exact ⟨⟨x0,x1,x2,x3⟩,rfl⟩)
theorem open_row {α:Type} (R:RowC α) {t:TypeId} {sz:Nat} {fs:Array Field} (ht:Tryz.prog.underlying t=some (.struct fs)) (hsz:Tryz.prog.cellsOf t=sz) (hR:∀ a,(R.e a).length=sz) (he:EltT enc w base spare held t sz fun l=>∃ a,l=R.e a)
  {v:Value} {d:DataW H} {ps:List MemPlace} (hval:Value.okWide Tryz.prog w' r b0 t v) (h:DataW.Trod enc Tryz.prog w base spare held t v d ps):∃ a,CR w (fun _=>False) (R.cod.enc a) v:=by
 obtain ⟨cs,rfl⟩:=okWide_agg (.inl ⟨_,ht⟩) hval
 obtain ⟨fuel,h⟩:=h
 obtain ⟨xs,m,_,_,hcl,_,_⟩:=DataW.trod_struct ht h
 obtain ⟨l,hl,⟨a,rfl⟩,hr⟩:=he fuel _ _ h
 have hcs:cs.size=sz:=by
  have:cs.toList.length=sz:=by rw [<- hsz];simpa [Value.cells] using hcl
  simpa using this
 have key:∀ (j:Nat) (x:CV),(R.e a)[j]? = some x->plain (cs.getD j undef)/\CR w (fun _=>False) x (cs.getD j undef):=fun j x hx=>by
  obtain ⟨u,hu,hp,hc⟩:=hr j x hx
  have hu':cs[j]? = some u:=by simpa [Value.cells] using hu
  have:cs.getD j undef=u:=by simp [hu']
  rw [this];exact ⟨hp,hc⟩
 exact ⟨a,.agg _ _ (by rw [hcs,hR]) (fun j x hx=>(key j x hx).1) fun j x hx=>(key j x hx).2⟩
theorem open_world {v:Value} {d:DataW H} {ps:List MemPlace} (hval:Value.okWide Tryz.prog w' r b0 34 v) (h:DataW.Trod enc Tryz.prog w base spare held 34 v d ps):∃ x:Wld,CR w (fun _=>False) (cWl.enc x) v:=
 open_row rWl Tryz.underlying34 (by kernel_rfl) (fun _=>rfl) eWl hval h
end
end Go.Proofs.YtabpohoppmmbbaaGreatDoor
