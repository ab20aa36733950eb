/- Regions that draw their order: one operation.
Regions that draw their order: the text's order,and all others.
From a function's contract to a row: it returns true,and all that was there reads as it did.
Arguments,as they are read,as closed values.
A statement that comes to true: what a call of it does.
Contracts,paths of code,cases.
Iterators: rounds whose contents keep a shape.
Loops by themselves: what a loop comes to is what its rounds come to.
Contracts of functions by what they come to.
What is handed back as a callee's own may as well be known as closed. -/
import Derived.Test.YtabpohoppmmbbaaGreatDoorTb
import Derived.ProofKit
import Derived.Deep.Slices
import Derived.Deep.Fields
import Derived.KernelRfl
namespace Go.Ab
open Go
set_option maxRecDepth 100000
section
variable {β:Type} {cx:Cx} {o:Oper} {r:β}
theorem pure_vr {ρ ρ':Env} {h h':H} {w:World} {M:Nat->Prop} {s:SV} {v:Value} (hv:VR ρ h w M s v):∀ n,pureSV n s=true->VR ρ' h' w M s v:=by
 induction hv with
 | any v=>intro n hp;cases n <;> simp [pureSV] at hp
 | c x v hx=>intro n hp;exact .c x v hx
 | nil sz h0=>intro n hp;exact .nil sz h0
 | acc i ver v hp' hi hv=>intro n hp;cases n <;> simp [pureSV] at hp
 | sub i ver lo k v hp' hi hv=>intro n hp;cases n <;> simp [pureSV] at hp
 | ept i ver ix off v hp' hi hv=>intro n hp;cases n <;> simp [pureSV] at hp
 | ptr i off v hp' hi hv=>intro n hp;cases n <;> simp [pureSV] at hp
 | apt i off k sz len v hp' hi hn hv=>intro n hp;cases n <;> simp [pureSV] at hp
 | mp i v hi hv=>intro n hp;cases n <;> simp [pureSV] at hp
 | agg cs a hs hpl hr ih=>
  intro n hp
  cases n with
  | zero=>simp [pureSV] at hp
  | succ n=>
   simp only [pureSV,List.all_eq_true] at hp
   exact .agg cs a hs hpl fun j x hx=>ih j x hx n (hp x (List.mem_of_getElem? hx))
 | tup cs a hs hr ih=>
  intro n hp
  cases n with
  | zero=>simp [pureSV] at hp
  | succ n=>
   simp only [pureSV,List.all_eq_true] at hp
   exact .tup cs a hs fun j x hx=>ih j x hx n (hp x (List.mem_of_getElem? hx))
 | fn f c1 c2 a1 a2 hs1 hs2 hr1 hr2 ih1 ih2=>
  intro n hp
  cases n with
  | zero=>simp [pureSV] at hp
  | succ n=>
   simp only [pureSV,Bool.and_eq_true,List.all_eq_true] at hp
   exact .fn f c1 c2 a1 a2 hs1 hs2 (fun j x hx=>ih1 j x hx n (hp.1 x (List.mem_of_getElem? hx))) (fun j x hx=>ih2 j x hx n (hp.2 x (List.mem_of_getElem? hx)))
theorem get_map {f:Nat->SV} {t:Nat}:∀ (l:List Nat),get (l.map fun t=>(t,f t)) t=if t∈l then f t else .any
 | []=>rfl
 | a::l=>by
  have:get ((a::l).map fun t=>(t,f t)) t=get (put (l.map fun t=>(t,f t)) (some a) (f a)) t:=rfl
  rw [this,get_put,get_map l]
  by_cases h:t=a
  ·subst h;simp
  ·simp [h]
theorem get_restr {st:St} {t:Nat}:get (restr o st) t=if t∈tmpsOf o then get st t else .any:=get_map _
theorem R.restr {ρ:Env} {X:Nat->Prop} {h:H} {a:Act} {w:World} {st:St} (hr:HR ρ X h w) (hn:a.tmps.size=cx.nt) (hd:Marks ρ.base w a.defers) (hv:∀ x∈tmpsOf o,VR ρ h w (Mut ρ X h) (get st x) (a.tmps.getD x undef)):
  R cx ρ X (Ab.restr o st) h a w:=by
 refine ⟨hr,fun t => ?_,hn,hd⟩
 rw [get_restr]
 split
 ·exact hv t (by assumption)
 ·exact .any _
def OneOK (cx:Cx) (o:Oper) (st:St) (h:H) (fp:FP) (eff:Eff) (sv:SV):Prop:=
 ∀ hL,Cond fp hL h->∀ (rd:Option Nat) ρ X a w (Q:Exit->Act->World->Prop) (K:Act->World->Prop),HR ρ X hL w->a.tmps.size=cx.nt->Marks ρ.base w a.defers->(∀ x∈tmpsOf o,VR ρ hL w (Mut ρ X hL) (get st x) (a.tmps.getD x undef))->
  (∀ v w',Post ρ X hL w sv (eff.app hL) v w'->K (a.put o.dst v) w')->o.wpIn (FR rd) 0 cx.P a w K Q
theorem pairOf (hN:NatX cx) {st:St} {h:H} {K:SV->H->Option β} (hK:opK cx o st h K=some r):∃ v h1,K v h1=some r/\∀ (γ:Type) (K':SV->H->Option γ),opK cx o st h K'=K' v h1:=by
 rcases opK_nat hN (o:=o) (st:=st) (h:=h) with ⟨v,h1,hh⟩ | hh
 ·exact ⟨v,h1,(hh β K).symm.trans hK,fun γ K'=>hh γ K'⟩
 ·have:=(hh β K).symm.trans hK
  cases this
theorem OneOK.at {rd:Option Nat} (hΓ:∀ f g,cx.Γ f=some g->SoundC cx.P f g) (hE:EqY cx) {st:St} {hL h':H} {v:SV} (hp:opK cx o (restr o st) hL (fun v h=>some (v,h))=some (v,h')) {ρ:Env} {X:Nat->Prop} {a:Act} {w:World} {Q:Exit->Act->World->Prop} {K:Act->World->Prop}
  (hr:HR ρ X hL w) (hn:a.tmps.size=cx.nt) (hd:Marks ρ.base w a.defers) (hv:∀ x∈tmpsOf o,VR ρ hL w (Mut ρ X hL) (get st x) (a.tmps.getD x undef)) (hK:∀ u w',Post ρ X hL w v h' u w'->K (a.put o.dst u) w'):o.wpIn (FR rd) 0 cx.P a w K Q:=by
 obtain ⟨sv,h1,he,hop⟩:=opK_sound hΓ hE hp
 simp only [Option.some.injEq,Prod.mk.injEq] at he
 obtain ⟨rfl,rfl⟩:=he
 exact hop ρ X a w (R.restr hr hn hd hv) rd K Q hK
theorem mv_indep {st:St} (hc:clsOf cx o st = .mv) (h:H) (K:SV->H->Option β):opK cx o st h K=opK cx o st [] fun v _=>K v h:=by
 unfold clsOf at hc
 cases hp:(tmpsOf o).all fun t=>pureSV 8 (get st t) with
 | true=>
  simp only [hp,cond_true] at hc
  split at hc <;> first | (cases hc;done) | (cases hbw:(cx.nw&&wrD cx o.dst) <;> rw [hbw] at hc <;> cases hc)
 | false=>
  simp only [hp,cond_false] at hc
  split at hc
  ·rename_i x ho;simp only [opK,ho]
  ·rename_i x ho;simp only [opK,ho]
  ·rename_i c x y ho;simp only [opK,ho]
  ·rename_i f x y ho
   unfold opK
   rw [ho]
   cases f <;> rfl
  ·rename_i x i ho
   unfold opK
   rw [ho]
  ·rename_i t x f ho
   unfold opK
   rw [ho]
  ·rename_i x ho
   unfold opK
   rw [ho]
   dsimp only
   split at hc
   ·cases hc
   ·rename_i hne
    unfold nilCheckK
    split <;> try rfl
    rename_i i ver ix off hev
    exact absurd hev (hne i ver ix off)
  ·rename_i s x f ho
   unfold opK
   rw [ho]
   dsimp only
   split at hc
   ·cases hc
   ·rename_i hne
    congr 1
    funext p
    congr 1
    split <;> try rfl
    rename_i i ver ix off hev
    exact absurd hev (hne i ver ix off)
  ·rename_i t x ix ho
   unfold opK
   rw [ho]
   dsimp only
   split at hc
   ·rename_i i off hev
    unfold indexK
    rw [hev]
   ·cases hc
  ·split at hc <;> cases hc
  ·split at hc <;> cases hc
  ·split at hc <;> cases hc
  ·split at hc <;> cases hc
  ·cases hc
def Same (F:(SV->H->Option (SV×H))->Option (SV×H)) (h:H):Prop:=∀ v h1,F (fun v h=>some (v,h))=some (v,h1)->h1=h
theorem same_ret {s:SV} {h:H}:Same (fun K=>K s h) h:=fun v h1 hh=>by
 simp only [Option.some.injEq,Prod.mk.injEq] at hh
 exact hh.2.symm
theorem same_none {h:H}:Same (fun _=>none) h:=fun v h1 hh=>by cases hh
theorem same_bind {γ:Type} {x:Option γ} {F:γ->(SV->H->Option (SV×H))->Option (SV×H)} {h:H} (hs:∀ a,Same (F a) h):Same (fun K=>x.bind fun a=>F a K) h:=fun v h1 hh=>by
 obtain ⟨a,_,ha⟩:=bind_some' hh
 exact hs a v h1 ha
theorem same_cond {b:Bool} {F G:(SV->H->Option (SV×H))->Option (SV×H)} {h:H} (hF:Same F h) (hG:Same G h):Same (fun K=>bif b then F K else G K) h:=by cases b <;> assumption
theorem same_ite {p:Prop} [Decidable p] {F G:(SV->H->Option (SV×H))->Option (SV×H)} {h:H} (hF:Same F h) (hG:Same G h):Same (fun K=>if p then F K else G K) h:=by
 by_cases hp:p <;> simpa [hp]
theorem same_pickVK {P:Program} {t:TypeId} {g:Bool} {s off:Nat} {cs:List CV} {h:H}:Same (fun K=>pickVK P t g s off cs fun v=>K v h) h:=fun v h1 hh=>by
 obtain ⟨_,v',_,hv,_⟩:=pickVK_some hh
 exact same_ret (s:=v') v h1 hv
theorem same_split {n:Int} {f:Nat->SV} {h:H}:∀ m:Nat,Same (fun K=>splitN n m fun j=>K (f j) h) h
 | 0=>same_none
 | m+1=>by
  unfold splitN
  exact same_cond same_ret (same_split m)
theorem ro_same {st:St} {h:H} (hc:clsOf cx o st = .ro):Same (fun K=>opK cx o st h K) h:=by
 unfold clsOf at hc
 cases hp:(tmpsOf o).all fun t=>pureSV 8 (get st t) with
 | true=>
  simp only [hp,cond_true] at hc
  split at hc <;> first | (cases hc;done) | (cases hbw:(cx.nw&&wrD cx o.dst) <;> rw [hbw] at hc <;> cases hc)
 | false=>
  simp only [hp,cond_false] at hc
  split at hc
  ·cases hc
  ·cases hc
  ·cases hc
  ·cases hc
  ·cases hc
  ·cases hc
  ·rename_i x ho
   unfold opK
   rw [ho]
   unfold nilCheckK
   dsimp only
   split
   ·exact same_ret
   ·split
    ·exact same_cond same_ret same_none
    ·exact same_none
   ·exact same_ret
   ·exact same_ret
   ·exact same_ret
   ·exact same_ret
   ·exact same_none
  ·rename_i s x f ho
   unfold opK
   rw [ho]
   dsimp only
   refine same_bind fun p=>same_cond same_none ?_
   split
   ·exact same_ret
   ·exact same_ret
   ·split
    ·exact same_cond same_ret same_none
    ·exact same_none
   ·exact same_none
  ·rename_i t x ix ho
   unfold opK
   rw [ho]
   unfold indexK
   dsimp only
   split
   ·refine same_cond ?_ same_none
    split
    ·exact same_cond (same_bind fun _=>same_ret) same_none
    ·split
     ·exact same_cond (same_ite same_ret same_none) same_none
     ·exact same_none
    ·split
     ·exact same_cond (same_ite same_ret same_none) same_none
     ·exact same_none
    ·exact same_none
   ·refine same_cond ?_ same_none
    split
    ·exact same_ite (same_cond (same_cond (same_split _) same_ret) same_ret) same_none
    ·exact same_ite same_ret same_none
    ·split
     ·exact same_cond (same_ite same_ret same_none) same_none
     ·exact same_none
    ·exact same_none
   ·exact same_none
  ·rename_i t a ho
   split at hc
   ·cases hc
   ·rename_i i ver ix off hev
    unfold opK
    rw [ho]
    unfold loadK
    dsimp only
    refine same_bind fun gs => ?_
    rw [hev]
    dsimp only
    split
    ·exact same_cond (same_bind fun _=>same_pickVK) same_none
    ·exact same_none
   ·cases hc
  ·split at hc <;> cases hc
  ·rename_i t x lo hi mx ho
   split at hc
   ·rename_i i ver hev
    unfold opK
    rw [ho]
    dsimp only
    refine same_bind fun lo=>same_bind fun hi=>same_bind fun mx => ?_
    unfold sliceK
    rw [hev]
    split
    ·refine same_cond ?_ same_none
     dsimp only
     split
     ·exact same_cond (same_cond same_ret same_none) same_none
     ·exact same_none
    ·exact same_cond (by dsimp only;exact same_none) same_none
    ·exact same_none
   ·cases hc
  ·rename_i c ho
   split at hc
   ·rename_i hcal
    unfold opK
    rw [ho]
    dsimp only
    rw [hcal]
    generalize evs cx.P st c.argTypes.toList c.args.toList=as
    cases hts:c.argTypes.toList with
    | nil=>simp only [builtinK,hts];exact same_none
    | cons t tl=>
     cases as with
     | nil=>simp only [builtinK,hts];exact same_none
     | cons x as=>
      cases as with
      | cons y as=>simp only [builtinK,hts];exact same_none
      | nil=>
       simp only [builtinK,hts]
       split
       ·exact same_ret
       ·exact same_bind fun _=>same_ret
       ·exact same_none
   ·cases hc
  ·cases hc
theorem rd_indep {st:St} {i:Nat} (hc:clsOf cx o st = .rd i) {h hL:H} (hg:getH hL i=getH h i) (K:SV->H->Option β):opK cx o st hL K=opK cx o st h fun v _=>K v hL:=by
 unfold clsOf at hc
 cases hp:(tmpsOf o).all fun t=>pureSV 8 (get st t) with
 | true=>
  simp only [hp,cond_true] at hc
  split at hc <;> first | (cases hc;done) | (cases hbw:(cx.nw&&wrD cx o.dst) <;> rw [hbw] at hc <;> cases hc)
 | false=>
  simp only [hp,cond_false] at hc
  split at hc <;> try (cases hc;done)
  all_goals try (split at hc <;> cases hc;done)
  rename_i t a ho
  split at hc
  ·rename_i i' off hev
   cases hc
   unfold opK
   rw [ho]
   unfold loadK
   dsimp only
   congr 1
   funext gs
   rw [hev]
   dsimp only
   rw [hg]
  ·cases hc
  ·cases hc
theorem wr_indep {st:St} {i:Nat} (hc:clsOf cx o st = .wr i) {h h1:H} {v:SV} (hp:opK cx o st h (fun v h=>some (v,h))=some (v,h1)):∃ b,i<h.length/\h1=setH h i b/\
  ∀ hL,getH hL i=getH h i->opK cx o st hL (fun v h=>some (v,h))=some (v,setH hL i b):=by
 unfold clsOf at hc
 cases hq:(tmpsOf o).all fun t=>pureSV 8 (get st t) with
 | true=>
  simp only [hq,cond_true] at hc
  split at hc <;> first | (cases hc;done) | (cases hbw:(cx.nw&&wrD cx o.dst) <;> rw [hbw] at hc <;> cases hc)
 | false=>
  simp only [hq,cond_false] at hc
  split at hc <;> try (cases hc;done)
  all_goals try (split at hc <;> cases hc;done)
  rename_i t a x ho
  split at hc
  ·rename_i i' off hev
   cases hc
   have key:∀ hL:H,opK cx o st hL (fun v h=>some (v,h))=storeK cx t (ev cx.P st 0 a) (ev cx.P st t x) hL (fun v h=>some (v,h)):=fun hL=>by
    unfold opK
    rw [ho]
   rw [key] at hp
   unfold storeK at hp
   obtain ⟨gs,hgs,hp⟩:=bind_some' hp
   obtain ⟨xs,hxs,hp⟩:=bind_some' hp
   obtain ⟨hb,hp⟩:=cond_some hp
   rw [hev] at hp
   dsimp only at hp
   split at hp
   ·rename_i cs hg
    obtain ⟨hle,hp⟩:=cond_some hp
    simp only [Option.some.injEq,Prod.mk.injEq] at hp
    obtain ⟨rfl,rfl⟩:=hp
    refine ⟨_,getH_lt (by rw [hg];simp),rfl,fun hL hgL => ?_⟩
    rw [key]
    unfold storeK
    rw [hgs,hxs]
    simp only [Option.bind_some,hb,cond_true,hev]
    rw [hgL,hg]
    simp only [hle,cond_true]
   ·cases hp
  ·cases hc
def Env.cat (ρ:Env) (n:Nat) (ρ':Env):Env:=⟨fun i=>if i<n then ρ.cur i else ρ'.cur (i - n),fun i=>if i<n then ρ.blk i else ρ'.blk (i - n),ρ.base⟩
theorem Env.cat_lt (ρ:Env) (n:Nat) (ρ':Env) (i:Nat) (hi:i<n):(ρ.cat n ρ').cur i=ρ.cur i/\(ρ.cat n ρ').blk i=ρ.blk i:=by simp [Env.cat,hi]
theorem Env.cat_ge (ρ:Env) (n:Nat) (ρ':Env) (i:Nat):(ρ.cat n ρ').cur (i+n)=ρ'.cur i/\(ρ.cat n ρ').blk (i+n)=ρ'.blk i:=by
 have:¬ i+n<n:=by omega
 simp [Env.cat,this]
theorem getH_append_ge:∀ (h g:H) (i:Nat),getH (h++g) (i+h.length)=getH g i
 | [],g,i=>rfl
 | a::h,g,i=>by
  show getH (a::(h++g)) (i+(h.length+1))=_
  rw [<- Nat.add_assoc]
  exact getH_append_ge h g i
theorem newB_acc {b:Box} (h:isNewB b=true):∃ sz l,b = .acc 0 false sz l:=by
 unfold isNewB at h
 split at h
 ·exact ⟨_,_,rfl⟩
 ·cases h
theorem newB_at {h1:H} (hnb:h1.all isNewB=true) {i:Nat} (hi:i<h1.length):∃ sz l,getH h1 i = .acc 0 false sz l:=by
 induction h1 generalizing i with
 | nil=>simp at hi
 | cons a r ih=>
  rw [List.all_cons,Bool.and_eq_true] at hnb
  cases i with
  | zero=>exact newB_acc hnb.1
  | succ i=>exact ih hnb.2 (by simpa using hi)
theorem lift_new {ρ ρ':Env} {hL h1:H} {w:World} {M:Nat->Prop} {v:SV} (hn:isNewV h1.length v=true) {u:Value} (hv:VR ρ' h1 w M v u):VR (ρ.cat hL.length ρ') (hL++h1) w M (shA hL.length v) u:=by
 unfold isNewV at hn
 split at hn
 ·rename_i i
  cases hv with
  | acc _ _ _ hp hi hvv=>
   refine .acc _ _ _ hp (by rw [List.length_append];omega) fun ver' fr sz l hh => ?_
   rw [getH_append_ge] at hh
   obtain ⟨q1,q2⟩:=hvv ver' fr sz l hh
   exact ⟨q1,fun e=>by rw [(Env.cat_ge ρ hL.length ρ' i).1];exact q2 e⟩
 ·cases hn
theorem HR.lift_mut' {ρ ρ':Env} {X:Nat->Prop} {hL h1:H} {b:Nat} (hb:Mut (ρ.cat hL.length ρ') X (hL++h1) b):Mut ρ' (Mut ρ X hL) h1 b:=by
 rcases hb with hb | ⟨i,h2,h3⟩
 ·exact .inl (.inl hb)
 ·by_cases hi:i<hL.length
  ·rw [getH_append_lt _ hi] at h2 h3
   rw [bOf_congr (ρ.cat_lt _ ρ' i hi).1 (ρ.cat_lt _ ρ' i hi).2] at h3
   exact .inl (.inr ⟨i,h2,h3⟩)
  ·obtain ⟨k,rfl⟩:∃ k,i=k+hL.length:=⟨i - hL.length,by omega⟩
   rw [getH_append_ge] at h2 h3
   refine .inr ⟨k,h2,?_⟩
   have e:∀ bx:Box,bOf (ρ.cat hL.length ρ') (k+hL.length) bx=bOf ρ' k bx:=fun bx=>by
    cases bx <;> simp [bOf,(ρ.cat_ge hL.length ρ' k).1,(ρ.cat_ge hL.length ρ' k).2]
   rw [<- e];exact h3
theorem HR.lift_mut {ρ ρ':Env} {X:Nat->Prop} {hL h1:H} {b:Nat} (hb:Mut ρ' (Mut ρ X hL) h1 b):Mut (ρ.cat hL.length ρ') X (hL++h1) b:=by
 rcases hb with (hb | ⟨i,h2,h3⟩) | ⟨k,h2,h3⟩
 ·exact .inl hb
 ·have hi:i<hL.length:=getH_lt (by intro e;rw [e] at h2;cases h2)
  refine .inr ⟨i,?_,?_⟩
  ·rw [getH_append_lt _ hi];exact h2
  ·rw [getH_append_lt _ hi,bOf_congr (ρ.cat_lt _ ρ' i hi).1 (ρ.cat_lt _ ρ' i hi).2];exact h3
 ·have e:∀ bx:Box,bOf (ρ.cat hL.length ρ') (k+hL.length) bx=bOf ρ' k bx:=fun bx=>by
   cases bx <;> simp [bOf,(ρ.cat_ge hL.length ρ' k).1,(ρ.cat_ge hL.length ρ' k).2]
  refine .inr ⟨k+hL.length,?_,?_⟩
  ·rw [getH_append_ge];exact h2
  ·rw [getH_append_ge,e];exact h3
theorem HR.lift {ρ ρ':Env} {X:Nat->Prop} {hL h1:H} {w w':World} (hr:HR ρ X hL w) (hr':HR ρ' (Mut ρ X hL) h1 w') (e:Ext ρ [] w ρ' h1 w') (hnb:h1.all isNewB=true):
  HR (ρ.cat hL.length ρ') X (hL++h1) w'/\Ext ρ hL w (ρ.cat hL.length ρ') (hL++h1) w':=by
 have hk:∀ b,b<w.heap.size->w'.heap[b]? = w.heap[b]? := fun b hb=>e.keep b hb fun ⟨i,hi,_⟩=>by simp [getH,isLive] at hi
 have hag:=ρ.cat_lt hL.length ρ'
 have hab:(ρ.cat hL.length ρ').base=ρ.base:=rfl
 have hge:∀ k (bx:Box),bOf (ρ.cat hL.length ρ') (k+hL.length) bx=bOf ρ' k bx:=fun k bx=>by
  cases bx <;> simp [bOf,(ρ.cat_ge hL.length ρ' k).1,(ρ.cat_ge hL.length ρ' k).2]
 have hnew:∀ k b,bOf ρ' k (getH h1 k)=some b->w.heap.size<=b:=fun k b hb=>by
  rcases Nat.lt_or_ge b w.heap.size with hlt | hge'
  ·have hk1:k<h1.length:=getH_lt (by intro q;rw [q] at hb;cases hb)
   obtain ⟨sz,l,hg⟩:=newB_at hnb hk1
   obtain ⟨i,hi,_⟩:=e.lives b hlt ⟨k,by rw [hg];rfl,hb⟩
   simp [getH,isLive] at hi
  ·exact hge'
 have hcase:∀ i b,bOf (ρ.cat hL.length ρ') i (getH (hL++h1) i)=some b->(i<hL.length/\bOf ρ i (getH hL i)=some b)\/∃ k,i=k+hL.length/\bOf ρ' k (getH h1 k)=some b:=fun i b hb=>by
  by_cases hi:i<hL.length
  ·rw [getH_append_lt _ hi,bOf_congr (hag i hi).1 (hag i hi).2] at hb
   exact .inl ⟨hi,hb⟩
  ·obtain ⟨k,rfl⟩:∃ k,i=k+hL.length:=⟨i - hL.length,by omega⟩
   rw [getH_append_ge,hge] at hb
   exact .inr ⟨k,rfl,hb⟩
 have e2:Ext ρ hL w (ρ.cat hL.length ρ') (hL++h1) w':=⟨HExt.app _ hab hag,e.size,fun b hb _=>hk b hb,fun b hb hl=>by
  obtain ⟨i,h2,h3⟩:=hl
  rcases hcase i b h3 with ⟨h4,h5⟩ | ⟨k,_,h5⟩
  ·exact ⟨i,by rw [getH_append_lt _ h4] at h2;exact h2,h5⟩
  ·have:=hnew k b h5;omega,e.io⟩
 refine ⟨⟨fun i => ?_,fun i j b hi hj => ?_,fun i b hi hx => ?_,fun b hb=>Nat.lt_of_lt_of_le (hr.xlt b hb) e.size,e2.glob hr.glob⟩,e2⟩
 ·by_cases hi:i<hL.length
  ·rw [getH_append_lt _ hi]
   exact (hr.box i).mono e2 (hag i hi).1 (hag i hi).2 fun b hb=>hk b (hr.lt hb)
  ·obtain ⟨k,rfl⟩:∃ k,i=k+hL.length:=⟨i - hL.length,by omega⟩
   rw [getH_append_ge]
   by_cases hk1:k<h1.length
   ·obtain ⟨sz,l,hg⟩:=newB_at hnb hk1
    have hbx:=hr'.box k
    rw [hg] at hbx ⊢
    obtain ⟨g0,g1,g2,g3⟩:=hbx
    refine ⟨g0,g1,g2,?_⟩
    rw [(ρ.cat_ge hL.length ρ' k).1]
    rcases g3 with g3 | ⟨b,cap,cur,ty,k1,k2,k3,k4,k5⟩
    ·exact .inl g3
    ·refine .inr ⟨b,cap,cur,ty,k1,k2,k3,k4,fun k' j x hx => ?_⟩
     obtain ⟨y,hy,hpy,hcy⟩:=k5 k' j x hx
     exact ⟨y,hy,hpy,hcy.mono (Nat.le_refl _) (fun _ _ _=>rfl) fun c _ hc=>HR.lift_mut' hc⟩
   ·rw [getH_ge (by omega)];exact trivial
 ·rcases hcase i b hi with ⟨h2,h3⟩ | ⟨k,rfl,h3⟩
  ·rcases hcase j b hj with ⟨h4,h5⟩ | ⟨k',rfl,h5⟩
   ·exact hr.inj i j b h3 h5
   ·have:=hr.lt h3;have:=hnew k' b h5;omega
  ·rcases hcase j b hj with ⟨h4,h5⟩ | ⟨k',rfl,h5⟩
   ·have:=hr.lt h5;have:=hnew k b h3;omega
   ·rw [hr'.inj k k' b h3 h5]
 ·rcases hcase i b hi with ⟨_,h3⟩ | ⟨k,rfl,h3⟩
  ·exact hr.out i b h3 hx
  ·have:=hr.xlt b hx;have:=hnew k b h3;omega
theorem drawOne_sem (hΓ:∀ f g,cx.Γ f=some g->SoundC cx.P f g) (hN:NatX cx) (hE:EqY cx) {st:St} {h:H} {K:FP->SV->H->Option β} (hK:drawOne cx o st h K=some r):
  ∃ fp eff sv,fpEff fp eff/\K fp sv (eff.app h)=some r/\OneOK cx o st h fp eff sv:=by
 unfold drawOne at hK
 split at hK
 .
  rename_i hc
  have hpure:∀ t∈tmpsOf o,pureSV 8 (get st t)=true:=fun t ht=>by
   unfold clsOf at hc
   cases hp:(tmpsOf o).all fun t=>pureSV 8 (get (restr o st) t) with
   | true=>
    have:=List.all_eq_true.1 hp t ht
    rwa [get_restr,if_pos ht] at this
   | false=>
    simp only [hp,cond_false] at hc
    split at hc <;> first | (cases hc;done) | (split at hc <;> cases hc;done)
  obtain ⟨v,h1,hK,hpair⟩:=pairOf hN hK
  replace hK:=bind_some' hK
  obtain ⟨⟨x,h2⟩,hcl,hK⟩:=hK
  refine ⟨.pure,.none,.c x,trivial,hK,fun hL _ rd ρ X a w Q K' hr hn hd hv hk => ?_⟩
  have hr0:HR ρ (Mut ρ X hL) [] w:=⟨fun i=>trivial,fun i j b hb=>by simp [getH,bOf] at hb,fun i b hb=>by simp [getH,bOf] at hb,fun b hb=>by
   rcases hb with hb | ⟨i,_,hb⟩
   ·exact hr.xlt b hb
   ·exact hr.lt hb,hr.glob.mono (Nat.le_refl _) (fun _ _ _=>rfl) fun b _ hb=>by
   rcases hb with hb | ⟨i,hb,_⟩
   ·exact hb
   ·simp [getH,isLive] at hb⟩
  have hm0:∀ b,Mut ρ (Mut ρ X hL) [] b->Mut ρ X hL b:=fun b hb=>by
   rcases hb with hb | ⟨i,hb,_⟩
   ·exact hb
   ·simp [getH,isLive] at hb
  refine OneOK.at hΓ hE (hpair _ fun v h=>some (v,h)) hr0 hn hd (fun t ht => ?_) fun u w' hp => ?_
  ·exact (pure_vr (hv t ht) 8 (hpure t ht)).mono (HExt.refl ρ []) fun x u hx=>hx.mono (Nat.le_refl _) (fun _ _ _=>rfl) (fun b _ hb=>hm0 b hb)
  ·obtain ⟨ρ',hr',hvr,e⟩:=hp
   obtain ⟨_,_,hcr⟩:=close_sound hr' hcl hvr
   have hkeep:∀ b,b<w.heap.size->w'.heap[b]? = w.heap[b]? := fun b hb=>e.keep b hb fun ⟨i,hi,_⟩=>by simp [getH,isLive] at hi
   have e2:Ext ρ hL w ρ hL w':=⟨HExt.refl ρ hL,e.size,fun b hb _=>hkeep b hb,fun _ _ hl=>hl,e.io⟩
   refine hk u w' ⟨ρ,⟨fun i=>(hr.box i).mono e2 rfl rfl fun b hb=>hkeep b (hr.lt hb),hr.inj,hr.out,fun b hb=>Nat.lt_of_lt_of_le (hr.xlt b hb) e.size,e2.glob hr.glob⟩,.c _ _ (hcr.mono (Nat.le_refl _) (fun _ _ _=>rfl) fun b _ hb => .inl hb),e2⟩
 .
  rename_i hc
  have hpure:∀ t∈tmpsOf o,pureSV 8 (get st t)=true:=fun t ht=>by
   unfold clsOf at hc
   cases hp:(tmpsOf o).all fun t=>pureSV 8 (get (restr o st) t) with
   | true=>
    have:=List.all_eq_true.1 hp t ht
    rwa [get_restr,if_pos ht] at this
   | false=>
    simp only [hp,cond_false] at hc
    split at hc <;> first | (cases hc;done) | (split at hc <;> cases hc;done)
  obtain ⟨v,h1,hK,hpair⟩:=pairOf hN hK
  replace hK:=cond_some hK
  obtain ⟨hnb,hK⟩:=hK
  have fin:∀ (v':SV),(∀ (ρ:Env) (hL:H) (w:World) (M:Nat->Prop) (ρ':Env) (u:Value),VR ρ' h1 w M v u->VR (ρ.cat hL.length ρ') (hL++h1) w M v' u\/hL.length≠h.length)->K (.nw h.length) v' (h++h1)=some r->
    ∃ fp eff sv,fpEff fp eff/\K fp sv (eff.app h)=some r/\OneOK cx o st h fp eff sv:=fun v' hvv hK=>by
   refine ⟨.nw h.length,.sets h.length h1,v',rfl,by show K _ _ (setXs h.length h1 h)=_;rw [setXs_app];exact hK,fun hL hcond rd ρ X a w Q K' hr hn hd hv hk => ?_⟩
   have hcond:hL.length=h.length:=hcond
   have hr0:HR ρ (Mut ρ X hL) [] w:=⟨fun i=>trivial,fun i j b hb=>by simp [getH,bOf] at hb,fun i b hb=>by simp [getH,bOf] at hb,fun b hb=>by
    rcases hb with hb | ⟨i,_,hb⟩
    ·exact hr.xlt b hb
    ·exact hr.lt hb,hr.glob.mono (Nat.le_refl _) (fun _ _ _=>rfl) fun b _ hb=>by
    rcases hb with hb | ⟨i,hb,_⟩
    ·exact hb
    ·simp [getH,isLive] at hb⟩
   have hm0:∀ b,Mut ρ (Mut ρ X hL) [] b->Mut ρ X hL b:=fun b hb=>by
    rcases hb with hb | ⟨i,hb,_⟩
    ·exact hb
    ·simp [getH,isLive] at hb
   refine OneOK.at hΓ hE (hpair _ fun v h=>some (v,h)) hr0 hn hd (fun t ht => ?_) fun u w' hp => ?_
   ·exact (pure_vr (hv t ht) 8 (hpure t ht)).mono (HExt.refl ρ []) fun x u hx=>hx.mono (Nat.le_refl _) (fun _ _ _=>rfl) (fun b _ hb=>hm0 b hb)
   ·obtain ⟨ρ',hr',hvr,e⟩:=hp
    obtain ⟨q1,q2⟩:=HR.lift hr hr' e hnb
    have hMM:∀ b,Mut ρ' (Mut ρ X hL) h1 b->Mut (ρ.cat hL.length ρ') X (hL++h1) b:=fun b hb=>HR.lift_mut hb
    refine hk u w' ⟨ρ.cat hL.length ρ',?_,?_,?_⟩
    ·show HR _ X (setXs h.length h1 hL) w'
     rw [<- hcond,setXs_app];exact q1
    ·show VR _ (setXs h.length h1 hL) w' (Mut _ X (setXs h.length h1 hL)) v' u
     rw [<- hcond,setXs_app]
     have hvr2:VR ρ' h1 w' (Mut (ρ.cat hL.length ρ') X (hL++h1)) v u:=hvr.mono (HExt.refl ρ' h1) fun x u hx=>hx.mono (Nat.le_refl _) (fun _ _ _=>rfl) fun b _ hb=>HR.lift_mut' hb
     rcases hvv ρ hL w' _ ρ' u hvr2 with q | q
     ·exact q
     ·exact absurd hcond q
    ·show Ext _ _ _ _ (setXs h.length h1 hL) w'
     rw [<- hcond,setXs_app];exact q2
  split at hK
  ·rename_i i ver
   replace hK:=cond_some hK
   obtain ⟨hn1,hK⟩:=hK
   refine fin _ (fun ρ hL w M ρ' u hvr => ?_) hK
   by_cases hlen:hL.length=h.length
   ·left
    rw [<- hlen]
    exact lift_new (ρ:=ρ) (hL:=hL) hn1 hvr
   ·exact .inr hlen
  ·rename_i cs
   replace hK:=cond_some hK
   obtain ⟨hn1,hK⟩:=hK
   refine fin _ (fun ρ hL w M ρ' u hvr => ?_) hK
   by_cases hlen:hL.length=h.length
   ·left
    rw [<- hlen]
    cases hvr with
    | agg _ a hs hp hr=>
     refine .agg _ a (by simpa using hs) (fun j x hx => ?_) fun j x hx => ?_
     ·rw [List.getElem?_map] at hx
      obtain ⟨y,hy,_⟩:=Option.map_eq_some_iff.1 hx
      exact hp j y hy
     ·rw [List.getElem?_map] at hx
      obtain ⟨y,hy,rfl⟩:=Option.map_eq_some_iff.1 hx
      exact lift_new (ρ:=ρ) (hL:=hL) (List.all_eq_true.1 hn1 y (List.mem_of_getElem? hy)) (hr j y hy)
   ·exact .inr hlen
  ·cases hK
 ·rename_i hc
  obtain ⟨v,h1,hK,hpair⟩:=pairOf hN hK
  refine ⟨.pure,.none,v,trivial,hK,fun hL _ rd ρ X a w Q K' hr hn hd hv hk => ?_⟩
  refine OneOK.at hΓ hE (h':=hL) ?_ hr hn hd hv hk
  rw [mv_indep hc]
  exact hpair _ _
 ·rename_i hc
  obtain ⟨v,h1,hK,hpair⟩:=pairOf hN hK
  obtain rfl:=ro_same hc v h1 (hpair _ _)
  refine ⟨.ro,.none,v,trivial,hK,fun hL hcond rd ρ X a w Q K' hr hn hd hv hk => ?_⟩
  have hcond:hL=h1:=hcond
  subst hcond
  exact OneOK.at hΓ hE (hpair _ fun v h=>some (v,h)) hr hn hd hv hk
 ·rename_i i hc
  obtain ⟨v,h1,hK,hpair⟩:=pairOf hN hK
  refine ⟨.rd i,.none,v,trivial,hK,fun hL hcond rd ρ X a w Q K' hr hn hd hv hk => ?_⟩
  refine OneOK.at hΓ hE (h':=hL) ?_ hr hn hd hv hk
  rw [rd_indep hc hcond]
  exact hpair _ _
 ·rename_i i hc
  obtain ⟨v,h1,hK,hpair⟩:=pairOf hN hK
  obtain ⟨b,hi,rfl,hwr⟩:=wr_indep hc (hpair _ fun v h=>some (v,h))
  refine ⟨.wr i,.set i b,v,rfl,by show K _ _ (setX h i b)=_;rw [setX_setH b h i hi];exact hK,fun hL hcond rd ρ X a w Q K' hr hn hd hv hk => ?_⟩
  have hcond:getH hL i=getH h i:=hcond
  have hiL:i<hL.length:=by
   rcases Nat.lt_or_ge i hL.length with hlt | hge
   ·exact hlt
   ·have h1:=hwr hL hcond
    rw [getH_ge hge] at hcond
    obtain ⟨b',hb',_⟩:=wr_indep hc h1
    omega
  refine OneOK.at hΓ hE (h':=setH hL i b) (hwr hL hcond) hr hn hd hv fun u w' hp=>hk u w' ?_
  show Post ρ X hL w v (setX hL i b) u w'
  rw [setX_setH b hL i hiL]
  exact hp
 ·obtain ⟨v,h1,hK,hpair⟩:=pairOf hN hK
  refine ⟨.all,.glob h1,v,trivial,hK,fun hL hcond rd ρ X a w Q K' hr hn hd hv hk => ?_⟩
  have hcond:hL=h:=hcond
  subst hcond
  exact OneOK.at hΓ hE (hpair _ fun v h=>some (v,h)) hr hn hd hv hk
end
end Go.Ab

namespace Go.Ab
open Go
set_option maxRecDepth 100000
section
variable {β:Type} {cx:Cx} {ops:Array Oper} {h0:H} {st0:St} {r:β}
theorem hasTr_spec {tr:List Tr} {e:Nat} (h:hasTr tr e=true):∃ t∈tr,t.j=e:=by
 induction tr with
 | nil=>simp [hasTr] at h
 | cons t tr ih=>
  simp only [hasTr] at h
  cases hb:Nat.beq t.j e with
  | true=>exact ⟨t,by simp,beq_true hb⟩
  | false=>
   rw [hb] at h
   obtain ⟨t',h1,h2⟩:=ih h
   exact ⟨t',by simp [h1],h2⟩
theorem NK.beq_eq {a b:NK} (h:a.beq b=true):a=b:=by
 cases a <;> cases b <;> simp only [NK.beq,Bool.and_eq_true,Bool.false_eq_true] at h
 ·rw [beq_true h.1,beq_true h.2]
 ·rw [beq_true h.1,beq_true h.2]
theorem nkOf_guard {j:Nat} {o:Oper} (h:o.guard≠none):nkOf cx ops j o = .no:=by
 unfold nkOf
 cases cx.nw with
 | false=>rfl
 | true=>
  simp only [cond_true]
  cases hg:o.guard with
  | none=>exact absurd hg h
  | some g=>rfl
theorem firstRow_not {wr:Nat->Bool} {os:List Oper} {j js d:Nat}:∀ {ts:List Nat},firstRow wr os j ts ≠ .mk js d
 | [],h=>by cases h
 | t::ts,h=>by
  simp only [firstRow] at h
  split at h
  ·rename_i ja _
   cases hb:isAt j (rdAt t os 0) with
   | true=>rw [hb] at h;cases h
   | false=>rw [hb] at h;exact firstRow_not h
  ·exact firstRow_not h
theorem nkOf_tmps {j js d:Nat} {o:Oper} (h:nkOf cx ops j o = .mk js d):tmpsOf o=[]:=by
 unfold nkOf at h
 cases hw:cx.nw with
 | false=>rw [hw] at h;cases h
 | true=>
  rw [hw,cond_true] at h
  split at h
  ·cases h
  ·split at h
   ·rename_i ho _
    unfold tmpsOf
    rw [ho]
    rfl
   ·rename_i dd ho _
    cases hb:cx.wr dd&&(tmpsOf o).isEmpty with
    | true=>
     simp only [Bool.and_eq_true] at hb
     exact List.isEmpty_iff.1 hb.2
    | false=>rw [hb] at h;exact absurd h firstRow_not
   ·split at h
    ·rename_i jb _
     cases hb:isAt j (stoAt _ ops.toList 0) with
     | true=>rw [hb] at h;cases h
     | false=>rw [hb] at h;exact absurd h firstRow_not
    ·exact absurd h firstRow_not
   ·exact absurd h firstRow_not
theorem isAt_iff {d:Nat} {o:Option Nat} (h:isAt d o=true):o=some d:=by
 cases o with
 | none=>cases h
 | some i=>rw [beq_true h]
theorem noDst_spec {d ja:Nat}:∀ {l:List Oper} {k:Nat},noDst d ja l k=true->∀ (j:Nat) (o:Oper),l[j]? = some o->k+j≠ja->o.dst≠some d
 | [],_,_,j,o,ho,_=>by simp at ho
 | x::l,k,h,j,o,ho,hj=>by
  simp only [noDst,Bool.and_eq_true,Bool.or_eq_true,Bool.not_eq_true'] at h
  cases j with
  | zero=>
   simp at ho
   subst ho
   rcases h.1 with h1 | h1
   ·exact absurd (beq_true h1) (by simpa using hj)
   ·intro hd;rw [hd] at h1;simp [isAt] at h1
  | succ j=>exact noDst_spec h.2 j o (by simpa using ho) (by omega)
theorem make_ok (hΓ:∀ f g,cx.Γ f=some g->SoundC cx.P f g) (hE:EqY cx) {o:Oper} {d:Nat} (hod:o.dst=some d) (htm:(tmpsOf o)=[]) {q:PK} (hq:pkOf cx o=some q) (rd:Option Nat) (ρ:Env) (a:Act) (w:World) (Q:Exit->Act->World->Prop) (K:Act->World->Prop)
  (hr:HR ρ (fun _=>False) [] w) (hn:a.tmps.size=cx.nt) (hd:Marks ρ.base w a.defers)
  (hK:∀ b v w',PB cx.P w' b v q->w.heap.size<=b->b<w'.heap.size->(∀ c,c<w.heap.size->w'.heap[c]? = w.heap[c]?)->w.heap.size<=w'.heap.size->SameIO w w'->K (a.put o.dst v) w'):o.wpIn (FR rd) 0 cx.P a w K Q:=by
 unfold pkOf at hq
 split at hq
 ·rename_i e ho
  replace hq:=bind_some' hq
  obtain ⟨cs,hcs,hq⟩:=hq
  cases hq
  obtain ⟨ti,z,hti,htz,_⟩:=zero_cells (ρ:=ρ) (h:=([]:H)) (w:=w) (M:=fun _=>False) hcs
  have hrun:(execOp a.eval o).run cx.P w = .ok (.value (.pointer (some ⟨w.heap.size,0,none⟩))) (w.alloc (.cells z.cells e)):=by simp [execOp,ho,Instr.alloc,zeroValue,typeInfo,hti,htz,newVar,newRow]
  refine OpOK.value hrun (G:=fun v w''=>v = .pointer (some ⟨w.heap.size,0,none⟩)/\w''=w.alloc (.cells z.cells e)) ⟨rfl,rfl⟩ rd _ Q fun v w'' hv' => ?_
  obtain ⟨rfl,rfl⟩:=hv'
  exact hK w.heap.size _ _ ⟨rfl,hcs,ti,z,hti,htz,heap_alloc_new w _⟩ (Nat.le_refl _) (by simp) (fun c hc=>heap_alloc_old w _ c hc) (by simp) ⟨rfl,rfl⟩
 ·obtain ⟨sv,h1,he,hop⟩:=opK_sound (st:=[]) hΓ hE hq
  refine hop ρ (fun _=>False) a w ⟨hr,fun t => .any _,hn,hd⟩ rd K Q fun v w' hp => ?_
  obtain ⟨ρ',hr',hv,e'⟩:=hp
  dsimp only at he
  split at he
  ·rename_i sz l
   replace he:=cond_some he
   obtain ⟨hl,he⟩:=he
   cases he
   simp only [Bool.and_eq_true,Bool.not_eq_true',List.isEmpty_eq_false_iff] at hl
   obtain ⟨hnum,hne⟩:=hl
   cases hv with
   | acc _ _ _ hpl hi hv=>
    have hcur:=(hv 0 false sz l rfl).2 rfl
    have hbx:=hr'.box 0
    obtain ⟨g0,g1,g2,g3⟩:=hbx
    rcases g3 with ⟨_,hnil⟩ | ⟨b,cap,cur,ty,k1,k2,k3,k4,k5⟩
    ·exact absurd hnil hne
    ·have hbl:live ρ' [.acc 0 false sz l] b:=⟨0,rfl,by show (match ρ'.cur 0 with | .slice (some a) _ _=>some a.block | _=>none)=some b;rw [k1]⟩
     have hold:∀ c,c<w.heap.size->w'.heap[c]? = w.heap[c]? := fun c hc=>e'.keep c hc fun ⟨i,hi,_⟩=>by simp [getH,isLive] at hi
     refine hK b v w' ⟨cap,cur,ty,by rw [hcur,k1],k2,g0,g1,g2,k3,k4,fun k j x hx => ?_⟩ ?_ (block_lt k2) hold e'.size e'.io
     ·obtain ⟨u,hu,hpu,hcu⟩:=k5 k j x hx
      refine ⟨u,hu,hpu,fun w M => ?_⟩
      have hxn:isNum x=true:=by
       simp only [at2] at hx
       obtain ⟨e,he1,he2⟩:=bind_some' hx
       exact List.all_eq_true.1 (List.all_eq_true.1 hnum e (List.mem_of_getElem? he1)) x (List.mem_of_getElem? he2)
      cases hcu <;> first | exact .int _ _ | exact .bool _ | (simp [isNum] at hxn;done)
     ·rcases Nat.lt_or_ge b w.heap.size with hlt | hge
      ·obtain ⟨i,hi,_⟩:=e'.lives b hlt hbl
       simp [getH,isLive] at hi
      ·exact hge
  ·cases he
theorem Valid.push {rs:List Rc} (hv:Valid cx ops h0 st0 rs) {j:Nat} {o:Oper} (hj:j=rs.length) (ho:ops[j]? = some o) (hd:okD cx o=true) (he:okEdges (rs.map (·.t)) o=true) {fp:FP} {eff:Eff} {sv:SV} {dst:Option Nat} (hfe:fpEff fp eff)
  (hok:okTr (mkTrN ops j o fp dst (rs.map (·.t))) (rs.map (·.t))=true)
  (hsem:SemOf cx ops h0 st0 rs ⟨mkTrN ops j o fp dst (rs.map (·.t)),eff,sv⟩ o (nkOf cx ops j o)):
  Valid cx ops h0 st0 (⟨mkTrN ops j o fp dst (rs.map (·.t)),eff,sv⟩::rs):=by
 refine ⟨hv,hj,hok,hfe,o,ho,hd,rfl,fun e hee => ?_,hsem⟩
 obtain ⟨t,ht,hte⟩:=hasTr_spec (List.all_eq_true.1 he e hee)
 simp only [List.mem_map] at ht
 obtain ⟨k,hk,rfl⟩:=ht
 have:=Valid.lt rs hv k hk
 omega
theorem getL_push {rs:List Rc} {j:Nat} {o:Oper} {fp:FP} {eff:Eff} {sv:SV} {st:St} (hg:∀ x,get st x=getL allL st0 rs x) (x:Nat):
  get (put st o.dst sv) x=getL allL st0 (⟨mkTr ops j o fp (rs.map (·.t)),eff,sv⟩::rs) x:=by
 simp only [getL,mkTr,true_and]
 cases hd:o.dst with
 | none=>simp [put,hg x]
 | some d=>
  rw [get_put]
  by_cases h:x=d
  ·subst h;simp
  ·rw [if_neg h,if_neg (fun hh=>h (by injection hh with hh;exact hh.symm)),hg x]
theorem drawK_trace (hΓ:∀ f g,cx.Γ f=some g->SoundC cx.P f g) (hN:NatX cx) (hE:EqY cx) {K:St->H->Option β}:∀ (js:List Nat) (rs:List Rc) (st:St),drawK cx ops js (rs.map (·.t)) st (heapL allL h0 rs) K=some r->
  Valid cx ops h0 st0 rs->(∀ x,get st x=getL allL st0 rs x)->js=List.range' rs.length (ops.size - rs.length)->rs.length<=ops.size->
  ∃ RS st',Valid cx ops h0 st0 RS/\RS.length=ops.size/\K st' (heapL allL h0 RS)=some r/\∀ x,get st' x=getL allL st0 RS x
 | [],rs,st,hK,hv,hg,hjs,hl=>by
  have:ops.size - rs.length=0:=by
   have:=congrArg List.length hjs
   simpa using this.symm
  exact ⟨rs,st,hv,by omega,hK,hg⟩
 | j::js,rs,st,hK,hv,hg,hjs,hl=>by
  obtain ⟨m,hm⟩:∃ m,ops.size - rs.length=m+1:=by
   have:=congrArg List.length hjs
   simp at this
   exact ⟨js.length,by omega⟩
  rw [hm,List.range'_succ] at hjs
  injection hjs with hj hjs
  have hjs':js=List.range' (rs.length+1) (ops.size - (rs.length+1)):=by rw [hjs];congr 1;omega
  simp only [drawK] at hK
  split at hK
  ·cases hK
  ·rename_i o ho
   replace hK:=cond_some hK
   obtain ⟨hb,hK⟩:=hK
   simp only [Bool.and_eq_true] at hb
   obtain ⟨hd,hed⟩:=hb

   have run:nkOf cx ops j o = .no->∀ (st:St),(∀ x,get st x=getL allL st0 rs x)->(∀ (X:Nat->Prop) (ρ:Env) (hL:H) (a:Act) (w:World),(∀ x∈readsOf ops o,VR ρ hL w (Mut ρ X hL) (getL allL st0 rs x) (a.tmps.getD x undef))->Region.wanted o (yielded ops a.tmps)=true)->
     (drawOne cx o st (heapL allL h0 rs) fun fp v h'=>bif okTr (mkTr ops j o fp (rs.map (·.t))) (rs.map (·.t)) then drawK cx ops js (mkTr ops j o fp (rs.map (·.t))::rs.map (·.t)) (put st o.dst v) h' K else none)=some r->
     ∃ RS st',Valid cx ops h0 st0 RS/\RS.length=ops.size/\K st' (heapL allL h0 RS)=some r/\∀ x,get st' x=getL allL st0 RS x:=fun hnk st hg hwant hK=>by
    obtain ⟨fp,eff,sv,hfe,hK,hone⟩:=drawOne_sem hΓ hN hE hK
    replace hK:=cond_some hK
    obtain ⟨hok,hK⟩:=hK
    have hv':Valid cx ops h0 st0 (⟨mkTr ops j o fp (rs.map (·.t)),eff,sv⟩::rs):=Valid.push hv hj ho hd hed hfe (dst:=o.dst) hok (sv:=sv) <| by
     show SemOf _ _ _ _ _ _ _ (nkOf cx ops j o)
     rw [hnk]
     refine ⟨rfl,fun X hL hcond rd ρ a w Q K' hr hn hdf hvr hk => ?_⟩
     show wpOpIn _ _ _ _ _ j _ _ _
     unfold wpOpIn
     rw [ho]
     dsimp only
     rw [if_pos (hwant X ρ hL a w hvr)]
     exact hone hL hcond rd ρ X a w Q K' hr hn hdf (fun x hx=>by rw [hg x];exact hvr x (List.mem_append_left _ hx)) hk
    exact drawK_trace hΓ hN hE js (⟨mkTr ops j o fp (rs.map (·.t)),eff,sv⟩::rs) (put st o.dst sv) (by simp only [List.map_cons,heapL,cond_true];exact hK) hv' (getL_push (ops:=ops) (j:=j) (fp:=fp) (eff:=eff) hg) (by simpa using hjs') (by simp;omega)

   have skip:nkOf cx ops j o = .no->∀ (st:St),(∀ x,get st x=getL allL st0 rs x)->(∀ (X:Nat->Prop) (ρ:Env) (hL:H) (a:Act) (w:World),(∀ x∈readsOf ops o,VR ρ hL w (Mut ρ X hL) (getL allL st0 rs x) (a.tmps.getD x undef))->Region.wanted o (yielded ops a.tmps)=false)->
     (bif okTr (mkTr ops j o .pure (rs.map (·.t))) (rs.map (·.t)) then drawK cx ops js (mkTr ops j o .pure (rs.map (·.t))::rs.map (·.t)) (put st o.dst UND) (heapL allL h0 rs) K else none)=some r->
     ∃ RS st',Valid cx ops h0 st0 RS/\RS.length=ops.size/\K st' (heapL allL h0 RS)=some r/\∀ x,get st' x=getL allL st0 RS x:=fun hnk st hg hwant hK=>by
    replace hK:=cond_some hK
    obtain ⟨hok,hK⟩:=hK
    have hv':Valid cx ops h0 st0 (⟨mkTr ops j o .pure (rs.map (·.t)),.none,UND⟩::rs):=Valid.push hv hj ho hd hed (fp := .pure) (eff := .none) trivial (dst:=o.dst) hok (sv:=UND) <| by
     show SemOf _ _ _ _ _ _ _ (nkOf cx ops j o)
     rw [hnk]
     refine ⟨rfl,fun X hL hcond rd ρ a w Q K' hr hn hdf hvr hk => ?_⟩
     show wpOpIn _ _ _ _ _ j _ _ _
     unfold wpOpIn
     rw [ho]
     dsimp only
     rw [if_neg (by rw [hwant X ρ hL a w hvr];simp)]
     exact ⟨fun _ _=>trivial,hk undef w (Post.same hr und_vr)⟩
    exact drawK_trace hΓ hN hE js (⟨mkTr ops j o .pure (rs.map (·.t)),.none,UND⟩::rs) (put st o.dst UND) (by simp only [List.map_cons,heapL,cond_true,Eff.app];exact hK) hv' (getL_push (ops:=ops) (j:=j) (fp := .pure) (eff := .none) hg) (by simpa using hjs') (by simp;omega)
   cases hgd:o.guard with
   | none=>
    simp only [hgd] at hK
    cases hnk:nkOf cx ops j o with
    | no=>
     simp only [hnk] at hK
     exact run hnk st hg (fun _ _ _ a _ _=>wanted_none hgd _) hK
    | mk jst d=>
     simp only [hnk] at hK
     replace hK:=cond_some hK
     obtain ⟨hc,hK⟩:=hK
     simp only [Bool.and_eq_true] at hc
     obtain ⟨⟨⟨⟨⟨⟨hbq,hlt⟩,hany⟩,hnod⟩,hod⟩,hpk⟩,hok⟩:=hc
     have hod:=isAt_iff hod
     obtain ⟨q,hq⟩:=Option.isSome_iff_exists.1 hpk
     have hany:getL allL st0 rs d = .any:=by
      rw [<- hg d]
      unfold anyAt at hany
      split at hany
      ·assumption
      ·cases hany
     have hv':=Valid.push hv hj ho hd hed (fp := .pure) (eff := .none) trivial hok (dst:=none) (sv := .any) <| by
      show SemOf _ _ _ _ _ _ _ (nkOf cx ops j o)
      rw [hnk]
      refine ⟨rfl,rfl,rfl,hod,hany,NK.beq_eq hbq,by simpa [mkTrN,Nat.blt_eq] using hlt,fun j' o' ho' hne => ?_,q,hq,fun rd ρ a w Q K' hr hn hdf hk => ?_⟩
      ·exact noDst_spec hnod j' o' (by simpa using ho') (by simpa [mkTrN] using hne)
      ·show wpOpIn _ _ _ _ _ j _ _ _
       unfold wpOpIn
       rw [ho]
       dsimp only
       rw [if_pos (wanted_none hgd _)]
       exact make_ok hΓ hE hod (nkOf_tmps hnk) hq rd ρ a w Q K' hr hn hdf hk
     exact drawK_trace hΓ hN hE js (⟨mkTrN ops j o .pure none (rs.map (·.t)),.none,.any⟩::rs) st (by simp only [List.map_cons,heapL,cond_true,Eff.app];exact hK) hv' (fun x=>by
      simp only [getL,mkTrN,reduceCtorEq,and_false,if_false];exact hg x) (by simpa using hjs') (by simp;omega)
    | rd ja d=>
     simp only [hnk] at hK
     replace hK:=cond_some hK
     obtain ⟨hc,hK⟩:=hK
     simp only [Bool.and_eq_true] at hc
     obtain ⟨hbq,hmem⟩:=hc
     replace hK:=bind_some' hK
     obtain ⟨q,hq,hK⟩:=hK
     obtain ⟨v,h1,hK,hpair⟩:=pairOf hN hK
     replace hK:=cond_some hK
     obtain ⟨hok,hK⟩:=hK
     simp only [Bool.and_eq_true] at hok
     obtain ⟨hok,hvr⟩:=hok
     have hv':=Valid.push hv hj ho hd hed (fp := .all) (eff := .glob h1) trivial hok (dst:=q.dst d o.dst) (sv:=q.val (heapL allL h0 rs).length v) <| by
      show SemOf _ _ _ _ _ _ _ (nkOf cx ops j o)
      rw [hnk]
      refine ⟨rfl,memN_iff.1 hmem,NK.beq_eq hbq,q,hq,rfl,fun e cs hqe => ?_,v,rfl,fun X rd ρ a w Q K' hr hn hdf hvr hvd hk => ?_⟩
      ·rw [hqe] at hvr
       cases hdd:o.dst with
       | none=>rfl
       | some d'=>rw [hdd] at hvr;cases hvr
      ·show wpOpIn _ _ _ _ _ j _ _ _
       unfold wpOpIn
       rw [ho]
       dsimp only
       rw [if_pos (wanted_none hgd _)]
       refine OneOK.at hΓ hE (st:=put st (some d) (q.sv (heapL allL h0 rs).length)) (hpair _ fun v h=>some (v,h)) hr hn hdf (fun x hx => ?_) fun u w' hp=>hk u w' hp
       rw [get_put]
       by_cases hxd:x=d
       ·subst hxd;rw [if_pos rfl];exact hvd
       ·rw [if_neg hxd,hg x]
        exact hvr x (List.mem_append_left _ hx) hxd
     exact drawK_trace hΓ hN hE js (⟨mkTrN ops j o .all (q.dst d o.dst) (rs.map (·.t)),.glob h1,q.val (heapL allL h0 rs).length v⟩::rs) (put st (q.dst d o.dst) (q.val (heapL allL h0 rs).length v)) (by simp only [List.map_cons,heapL,cond_true,Eff.app];exact hK) hv' (fun x=>by
      simp only [getL,mkTrN,true_and]
      cases hdd:q.dst d o.dst with
      | none=>simp [put,hg x]
      | some d'=>
       rw [get_put]
       by_cases hxd:x=d'
       ·subst hxd;simp
       ·rw [if_neg hxd,if_neg (fun hh=>hxd (by injection hh with hh;exact hh.symm)),hg x]) (by simpa using hjs') (by simp;omega)
   | some gw=>
    obtain ⟨g,want⟩:=gw
    simp only [hgd] at hK
    have hnk:nkOf cx ops j o = .no:=nkOf_guard (by rw [hgd];simp)
    cases hdd:(ops[g]?).bind (·.dst) with
    | none=>simp [hdd] at hK
    | some d=>
     simp only [hdd] at hK
     split at hK
     ·rename_i b hb
      have hmem:d∈readsOf ops o:=by simp [readsOf,hgd,hdd]
      have hgk:∀ x,get ((d,.c (.bool b))::st) x=getL allL st0 rs x:=fun x=>by
       have:get ((d,.c (.bool b))::st) x=get (put st (some d) (.c (.bool b))) x:=rfl
       rw [this,get_put,<- hg x]
       split
       ·rename_i h;subst h;exact hb.symm
       ·rfl
      have hw:∀ (X:Nat->Prop) (ρ:Env) (hL:H) (a:Act) (w:World),(∀ x∈readsOf ops o,VR ρ hL w (Mut ρ X hL) (getL allL st0 rs x) (a.tmps.getD x undef))->Region.wanted o (yielded ops a.tmps)=(b==want):=fun X ρ hL a w hvr=>by
       have:=hvr d hmem
       rw [<- hg d,hb] at this
       exact wanted_of hgd hdd this.bool_inv
      cases b <;> cases want <;> simp only [cond_true,cond_false] at hK
      ·exact run hnk _ hgk (fun X ρ hL a w hvr=>by rw [hw X ρ hL a w hvr];rfl) hK
      ·exact skip hnk _ hgk (fun X ρ hL a w hvr=>by rw [hw X ρ hL a w hvr];rfl) hK
      ·exact skip hnk _ hgk (fun X ρ hL a w hvr=>by rw [hw X ρ hL a w hvr];rfl) hK
      ·exact run hnk _ hgk (fun X ρ hL a w hvr=>by rw [hw X ρ hL a w hvr];rfl) hK
     ·rename_i hb
      have hmem:d∈readsOf ops o:=by simp [readsOf,hgd,hdd]
      exact skip hnk _ hg (fun X ρ hL a w hvr=>by
       have:=hvr d hmem
       rw [<- hg d,hb] at this
       exact wanted_und hgd hdd (und_inv this)) hK
     ·cases hK
theorem drawS (hΓ:∀ f g,cx.Γ f=some g->SoundC cx.P f g) (hN:NatX cx) (hE:EqY cx):DrawS cx:=by
 intro rd id ops β K st h r hm hK X ρ a w ρ0 h0 w0 Q rr e hQ
 obtain ⟨RS,st',hv,hn,hK,hg⟩:=drawK_trace (h0:=h) (st0:=st) hΓ hN hE (List.range ops.size) [] st hK trivial (fun _=>rfl) (by simp [List.range_eq_range']) (Nat.zero_le _)
 have hw:Ext ρ h w ρ h {w with drawn:=w.drawn+1}:=⟨HExt.refl ρ h,Nat.le_refl _,fun _ _ _=>rfl,fun _ _ hl=>hl,rfl,rfl⟩
 have hr:HR ρ X h {w with drawn:=w.drawn+1}:=⟨fun i=>(rr.hr.box i).mono hw rfl rfl fun _ _=>rfl,rr.hr.inj,rr.hr.out,rr.hr.xlt,hw.glob rr.hr.glob⟩
 have hnoL:∀ j,(Array.replicate ops.size false).getD j false=false:=fun j=>by
  by_cases hj:j<ops.size <;> simp [hj]
 have hh:heapL (fun j=>(Array.replicate ops.size false).getD j false) h RS=h:=by
  clear hv hn hK hg
  induction RS with
  | nil=>rfl
  | cons k RS ih=>simp only [heapL,hnoL,cond_false] at ih ⊢;exact ih
 have hgg:∀ x,getL (fun j=>(Array.replicate ops.size false).getD j false) st RS x=get st x:=fun x=>by
  clear hv hn hK hg hh
  induction RS with
  | nil=>rfl
  | cons k RS ih=>
   simp only [getL,hnoL] at ih ⊢
   rw [if_neg (by simp)]
   exact ih
 have hX:XP X (fun _=>none)=X:=funext fun b=>propext ⟨fun h=>h.resolve_right fun ⟨_,q⟩=>(by cases q),.inl⟩
 refine wpIn_region_any hm (any_order (Q:=Q) (ρ0:=ρ0) (h00:=h0) (w0:=w0) hv hn (fun ρ' a' w' hr' hst' hsz hd e' => ?_) ops.size (Array.replicate ops.size false) ρ a _ (fun _=>none) (by simp) ?_ (fun k _ hl=>by rw [hnoL] at hl;cases hl) (by rw [hh,hX];exact hr) (fun x => ?_) rr.nt rr.nd (by rw [hh];exact e.trans hw)
  ⟨fun _ _ h=>(by cases h),fun _ _ _ h=>(by cases h),fun _ _ h=>(by cases h),fun s ja d q _ _ hl=>(by rw [hnoL] at hl;cases hl)⟩)
 ·exact hQ st' _ ρ' a' w' hK ⟨hr',fun x=>by rw [hg x];exact hst' x,hsz,hd⟩ e'
 ·exact Nat.le_trans List.count_le_length (by simp)
 ·rw [hgg x,hh,hX]
  exact hw.vr (rr.st x)
theorem fnSoundY (hΓ:∀ f g,cx.Γ f=some g->SoundC cx.P f g) (hN:NatX cx) (hE:EqY cx) (hL:LoopsS cx) (hNL:∀ q L,cx.Λ q=some L->NatL L) {f:FuncId} {fn:Func} (hf:cx.P.funcs[f]? = some fn)
  (hn:(fn.name == "runtime.NumGoroutine")=false) (hb:fn.body=some cx.root) (hnt:cx.nt=fn.ntmps) (hpn:fn.params.size+fn.nfree<=fn.ntmps):SoundC cx.P f (fnC cx fn):=
 fnS hΓ hN hE (drawS hΓ hN hE) hL hNL hf hn hb hnt hpn
theorem inlSound (hΓ:∀ f g,cx.Γ f=some g->SoundC cx.P f g) (hN:NatX cx) (hE:EqY cx) (hL:LoopsS cx) (hNL:∀ q L,cx.Λ q=some L->NatL L) {f:FuncId} {fn:Func} (hf:cx.P.funcs[f]? = some fn)
  (hn:(fn.name == "runtime.NumGoroutine")=false) (hb:fn.body=some cx.root) (hnt:cx.nt=fn.ntmps) (hpn:fn.params.size+fn.nfree<=fn.ntmps):SoundN cx.P f (inlC cx fn):=
 inlC_sound hΓ hN hE (drawS hΓ hN hE) hL hNL hf hn hb hnt hpn
theorem fnSound (hΓ:∀ f g,cx.Γ f=some g->SoundC cx.P f g) (hN:∀ f g,cx.Γ f=some g->NatC g) (hE:EqOK cx) (hL:LoopsS cx) (hNL:∀ q L,cx.Λ q=some L->NatL L) {f:FuncId} {fn:Func} (hf:cx.P.funcs[f]? = some fn)
  (hn:(fn.name == "runtime.NumGoroutine")=false) (hb:fn.body=some cx.root) (hnt:cx.nt=fn.ntmps) (hpn:fn.params.size+fn.nfree<=fn.ntmps) (hY:cx.Y=none:=by rfl) (hI:cx.It=(fun _=>none):=by rfl) (hR:cx.rf=(fun _=>none):=by rfl) (hJ:cx.I=(fun _=>none):=by rfl):SoundC cx.P f (fnC cx fn):=
 fnSoundY hΓ ⟨hN,fun y h=>(by rw [hY] at h;cases h),fun f G h=>(by rw [hI] at h;cases h),fun q S h=>(by rw [hR] at h;cases h),fun f n h=>(by rw [hJ] at h;cases h)⟩
  ⟨hE,fun y h=>(by rw [hY] at h;cases h),fun f G h=>(by rw [hI] at h;cases h),fun p S g ps as bd h=>(by rw [hR] at h;cases h),fun f n h=>(by rw [hJ] at h;cases h)⟩ hL hNL hf hn hb hnt hpn
end
end Go.Ab

namespace Go.Ab
open Go Go.ChangeShapes Go.WideShapes Go.RowKit Go.Deep
section
variable {P:Program} {H:Type} {enc:TypeId×Value->H}
theorem OutR.below {w w':World} {M:Nat->Prop} {bs:List Nat} {v:Value} {rv:CV} {conts:List (List CV)} {Br B2:List Nat} (o:OutR w M [] bs w' v rv conts Br B2):Below w.heap.size w w':=by
 have h1:=congrArg Prod.fst o.io.2
 have h2:=congrArg Prod.snd o.io.2
 exact ⟨o.io.1,h2,h1,o.size,fun k hk=>o.keep k hk (by simp)⟩
theorem keptBut_of_below {w w':World} (h:Below w.heap.size w w') (may:MemPlace->Prop):w.keptBut w' may:=by
 refine ⟨h.os,h.output,fun i hi => ?_⟩
 rw [h.block i hi]
 cases hw:w.heap[i]? with
 | none=>exact rfl
 | some ob=>
  cases ob with
  | cells c t fr=>exact ⟨rfl,rfl,rfl,fun _ _=>rfl⟩
  | map es clock=>exact .inr ⟨rfl,rfl⟩
  | _=>exact rfl
theorem trodAll_below {W W':World} (hl:laidOutB P=true) (hb:Below W.heap.size W W'):∀ (ts:List TypeId) (vs:List Value) (ds:List (DataW H)) (ps:List MemPlace),(∀ t∈ts,P.readableRec t=true/\t<P.types.size)->
  DataW.TrodAll enc P W 0 (fun _=>true) true ts vs ds ps->(∀ x∈ps,x.block<W.heap.size)->DataW.TrodAll enc P W' 0 (fun b=>decide (b<W.heap.size)) true ts vs ds ps
 | [],[],[],ps,_,h,_=>h
 | t::ts,v::vs,d::ds,ps,hr,⟨p,q,h1,h2,h3⟩,hlt=>by
  subst h3
  exact ⟨p,q,Below.trod hl (hr t (by simp)).1 (hr t (by simp)).2 h1 hb (fun x hx=>hlt x (by simp [hx])),trodAll_below hl hb ts vs ds q (fun t ht=>hr t (by simp [ht])) h2 (fun x hx=>hlt x (by simp [hx])),rfl⟩
 | [],[],_::_,_,_,h,_=>h.elim
 | [],_::_,_,_,_,h,_=>h.elim
 | _::_,[],_,_,_,h,_=>h.elim
 | _::_,_::_,[],_,_,h,_=>h.elim
theorem post_true {s:ChangeSpec} {fn:Func} {apart:Bool} {W W':World} {args:Array Value} {ds gs:List (DataW H)} {before:List MemPlace} {tb:TypeId} (hl:laidOutB P=true) (hread:∀ t∈fn.params.toList,P.readableRec t=true/\t<P.types.size)
  (hW:DataW.Whole enc P fn.params.toList s.vars apart W args.toList ds gs before) (hvars:s.vars=[]) (hfn:(s.fn H (ds++gs)).results=[.lit (.bool true)]/\(s.fn H (ds++gs)).args=ds/\(s.fn H (ds++gs)).vars=[])
  (hres:fn.resultTypes=#[tb]) (hbool:P.underlying tb=some .bool) (hb:Below W.heap.size W W'):s.post enc P fn apart true false false W args (.bool true) W':=by
 obtain ⟨p,q,hA,hV,hps,hfz,hnd⟩:=hW
 have hq:q=[]:=by
  rw [hvars] at hV
  cases gs with
  | nil=>exact hV
  | cons=>exact hV.elim
 subst hq
 rw [List.append_nil] at hps
 subst hps
 have hW':DataW.Whole enc P fn.params.toList s.vars apart W args.toList ds gs before:=⟨before,[],hA,hV,by simp,hfz,hnd⟩
 have hlt:∀ x∈before,x.block<W.heap.size:=fun x hx=>by simpa using hW'.lt x hx
 refine ⟨ds,gs,before,[],before,[],hW',?_,?_,?_,keptBut_of_below hb _,fun h=>by cases h⟩
 ·rw [hfn.1,hres]
  exact ⟨[],[],⟨1,by simp [DataW.trod,Value.cells,hbool]⟩,rfl,rfl⟩
 ·rw [hfn.2.1]
  exact trodAll_below hl hb _ _ _ _ hread hA hlt
 ·rw [hfn.2.2,hvars]
  rfl
end
end Go.Ab

namespace Go.Ab
open Go Go.ChangeShapes Go.WideShapes Go.RowKit Go.Deep
section
variable {P:Program} {H:Type} {enc:TypeId×Value->H} {w:World} {base:Nat} {spare:Nat->Bool} {held:Bool}
theorem list_of {α:Type} {p:Nat->α->Prop}:∀ (n:Nat),(∀ i,i<n->∃ a,p i a)->∃ L:List α,L.length=n/\∀ (i:Nat) (a:α),L[i]? = some a->p i a:=by
 intro n
 induction n with
 | zero=>exact fun _=>⟨[],rfl,fun i a h=>by simp at h⟩
 | succ n ih=>
  intro h
  obtain ⟨L,hl,hL⟩:=ih fun i hi=>h i (by omega)
  obtain ⟨a,ha⟩:=h n (by omega)
  refine ⟨L++[a],by simp [hl],fun i b hb => ?_⟩
  by_cases hi:i<L.length
  ·rw [List.getElem?_append_left hi] at hb;exact hL i b hb
  ·rw [List.getElem?_append_right (by omega)] at hb
   have hi2:i - L.length=0:=by
    have:=(List.getElem?_eq_some_iff.1 hb).1
    simp at this
    omega
   rw [hi2] at hb
   simp at hb
   subst hb
   rw [show i=n from by omega]
   exact ha
def EltR (P:Program) (enc:TypeId×Value->H) (w:World) (M:Nat->Prop) (base:Nat) (spare:Nat->Bool) (held:Bool) (e:TypeId) (sz:Nat) (El:List CV->Prop):Prop:=
 ∀ n cs x,DataW.trod enc P w base spare held n e cs=some x->∃ l:List CV,l.length=sz/\El l/\∀ (j:Nat) (y:CV),l[j]? = some y->∃ u,cs[j]? = some u/\plain u/\CR w M y u
theorem open_sl {M:Nat->Prop} {t e:TypeId} {sz:Nat} {El:List CV->Prop} (ht:P.underlying t=some (.slice e)) (hsz:P.cellsOf e=sz) (h0:0<sz) (hel:EltR P enc w M base spare held e sz El) (hM:∀ b,¬ M b) {fuel:Nat} {cs:List Value} {x:DataW H×List MemPlace}
  (h:DataW.trod enc P w base spare held fuel t cs=some x):∃ v L,cs=[v]/\CR w M (.sl sz L) v/\(∀ l∈L,El l)/\L.length<=maxLen:=by
 rcases open_slice ht h with ⟨rfl,_⟩ | ⟨a,len,cap,m,n,D,Pl,rfl,hb,hl,hm,hmm,_,hx⟩
 ·exact ⟨_,[],rfl,.sl0 _ _ _,by simp,by simp⟩
 ·rw [hsz] at hx
  have hlm:len<=m:=by rw [hmm];split <;> omega
  have hi:∀ i,i<len->∃ l:List CV,l.length=sz/\El l/\∀ (j:Nat) (y:CV),l[j]? = some y->∃ u,w.cell? ((a.add (i*sz)).add j)=some u/\plain u/\CR w M y u:=fun i hi=>by
   obtain ⟨cs',hc,htr⟩:=hx i (by omega)
   obtain ⟨_,hcl,hat⟩:=World.cells?_some hc
   obtain ⟨l,hll,he,hr⟩:=hel n cs' _ htr
   refine ⟨l,hll,he,fun j y hy => ?_⟩
   obtain ⟨u,hu,hp,hcr⟩:=hr j y hy
   have hj:=(List.getElem?_eq_some_iff.1 hy).1
   exact ⟨u,by rw [hat j (by omega)];exact hu,hp,hcr⟩
  obtain ⟨L,hL,hLp⟩:=list_of len hi
  by_cases hz:len=0
  ·subst hz
   have:L=[]:=List.length_eq_zero_iff.1 hL
   subst this
   exact ⟨_,[],rfl,.sl0 _ _ _,by simp,by simp⟩
  ·obtain ⟨b,o,spot⟩:=a
   have hspot:spot=none:=by
    obtain ⟨l,hll,_,hr⟩:=hi 0 (by omega)
    obtain ⟨u,hu,_⟩:=hr 0 (l[0]'(by omega)) (by simp [show 0<l.length from by omega])
    simpa [Addr.add] using World.cell?_spot hu
   subst hspot
   have hcell:∀ i j y,at2 L i j=some y->∃ u,w.cell? ⟨b,o+(i*sz+j),none⟩=some u/\plain u/\CR w M y u:=fun i j y hy=>by
    unfold at2 at hy
    obtain ⟨l,hl',hy⟩:=bind_some' hy
    obtain ⟨_,_,hr⟩:=hLp i l hl'
    obtain ⟨u,hu,hp,hcr⟩:=hr j y hy
    rw [add_lit,add_lit,Nat.add_assoc] at hu
    exact ⟨u,hu,hp,hcr⟩
   have hlen:∀ e∈L,e.length=sz:=fun e he=>by
    obtain ⟨i,hi⟩:=List.mem_iff_getElem?.1 he
    exact (hLp i e hi).1
   have hbl:b<w.heap.size:=by
    obtain ⟨l,hll,_,hr⟩:=hi 0 (by omega)
    obtain ⟨u,hu,_⟩:=hr 0 (l[0]'(by omega)) (by simp [show 0<l.length from by omega])
    rw [add_lit,add_lit] at hu
    exact World.block_lt_of_cell? w _ hu
   refine ⟨_,L,rfl,?_,fun l hl' => ?_,by omega⟩
   ·have:=CR.sl (w:=w) (M:=M) sz L b o cap (fun i j=>(w.cell? ⟨b,o+(i*sz+j),none⟩).getD undef) h0 hlen (by omega) (hM b) hbl
     (fun i j y hy=>by obtain ⟨u,hu,_,_⟩:=hcell i j y hy;rw [hu];rfl)
     (fun i j y hy=>by obtain ⟨u,hu,hp,_⟩:=hcell i j y hy;rw [hu];exact hp)
     (fun i j y hy=>by obtain ⟨u,hu,_,hcr⟩:=hcell i j y hy;rw [hu];exact hcr)
    rw [hL] at this
    exact this
   ·obtain ⟨i,hi⟩:=List.mem_iff_getElem?.1 hl'
    exact (hLp i l hi).2.1
theorem elt_int {M:Nat->Prop} {e:TypeId} {k:IntKind} (he:P.underlying e=some (.int k)):EltR P enc w M base spare held e 1 (fun l=>∃ n,l=[.int k n]/\(Lit.int k n).wf=true):=fun n cs x h=>by
 obtain ⟨m,rfl,_,hw⟩:=DataW.trod_int he h
 refine ⟨[.int k m],rfl,⟨m,rfl,hw⟩,fun j y hy => ?_⟩
 cases j with
 | zero=>simp at hy;subst hy;exact ⟨_,rfl,rfl,.int k m⟩
 | succ j=>simp at hy
theorem elt_bool {M:Nat->Prop} {e:TypeId} (he:P.underlying e=some .bool):EltR P enc w M base spare held e 1 (fun l=>∃ b,l=[.bool b]):=fun n cs x h=>by
 obtain ⟨m,rfl,_⟩:=DataW.trod_bool he h
 refine ⟨[.bool m],rfl,⟨m,rfl⟩,fun j y hy => ?_⟩
 cases j with
 | zero=>simp at hy;subst hy;exact ⟨_,rfl,rfl,.bool m⟩
 | succ j=>simp at hy
theorem elt_two {M:Nat->Prop} {e:TypeId} {f0 f1:Field} {k0 k1:IntKind} (he:P.underlying e=some (.struct #[f0,f1])) (o0:f0.offset=0) (o1:f1.offset=1) (c:P.cellsOf e=2) (c0:P.cellsOf f0.type=1) (c1:P.cellsOf f1.type=1)
  (h0:P.underlying f0.type=some (.int k0)) (h1:P.underlying f1.type=some (.int k1)):
  EltR P enc w M base spare held e 2 (fun l=>∃ n m,l=[.int k0 n,.int k1 m]/\(Lit.int k0 n).wf=true/\(Lit.int k1 m).wf=true):=fun n cs x h=>by
 obtain ⟨xs,n',_,_,hcl,hxl,hf⟩:=DataW.trod_struct he h
 rw [c] at hcl
 match cs,hcl with
 | [u0,u1],_=>
  have g0:=hf 0 f0 rfl
  have g1:=hf 1 f1 rfl
  rw [o0,c0] at g0
  rw [o1,c1] at g1
  obtain ⟨y0,hy0⟩:∃ y0,xs[0]? = some y0:=⟨xs[0]'(by rw [hxl];simp),by simp⟩
  obtain ⟨y1,hy1⟩:∃ y1,xs[1]? = some y1:=⟨xs[1]'(by rw [hxl];simp),by simp⟩
  rw [hy0] at g0
  rw [hy1] at g1
  obtain ⟨a0,e0,_,w0⟩:=DataW.trod_int h0 g0
  obtain ⟨a1,e1,_,w1⟩:=DataW.trod_int h1 g1
  simp at e0 e1
  subst e0 e1
  refine ⟨[.int k0 a0,.int k1 a1],rfl,⟨a0,a1,rfl,w0,w1⟩,fun j y hy => ?_⟩
  match j,hy with
  | 0,hy=>simp at hy;subst hy;exact ⟨_,rfl,rfl,.int _ _⟩
  | 1,hy=>simp at hy;subst hy;exact ⟨_,rfl,rfl,.int _ _⟩
end
end Go.Ab

namespace Go.Ab
open Go Go.ChangeShapes Go.WideShapes Go.RowKit
theorem law_calls {P:Program} {f:FuncId} {g:Callee} (hs:SoundC P f g) {args:List CV} (hg:∀ (β:Type) (K:CV->List (List CV)->Option β),g.run args [] β K=K (.bool true) []) {w:World} {vs:Array Value} (hgl:GlobR w fun _=>False) (hsz:vs.size=args.length)
  (ha:∀ (j:Nat) (x:CV),args[j]? = some x->CR w (fun _=>False) x (vs.getD j undef)):Calls P f vs w fun e w'=>e = .returned (.bool true)/\Below w.heap.size w w':=by
 obtain ⟨rv,co,hK,hc⟩:=hs.calls args [] (CV×List (List CV)) (fun rv co=>some (rv,co)) _ (hg _ _)
 obtain ⟨rfl,rfl⟩:=Prod.mk.inj (Option.some.inj hK)
 refine (hc w (fun _=>False) vs [] [] ⟨hsz,fun j x hx => .inr (ha j x hx),rfl,.nil,fun b hb=>(by cases hb),fun b hb=>hb.elim,hgl⟩).mono fun e w' h => ?_
 obtain ⟨v,Br,B2,rfl,o⟩:=h
 have hr:=o.ret
 cases hr with
 | c _ _ hx=>
  rw [hx.bool_inv]
  exact ⟨rfl,o.below⟩
theorem args_one {w:World} {M:Nat->Prop} {x:CV} {v:Value} (h:CR w M x v):∀ (j:Nat) (y:CV),[x][j]? = some y->CR w M y (#[v].getD j undef)
 | 0,y,hy=>by simp at hy;subst hy;exact h
 | j+1,y,hy=>by simp at hy
theorem map_of {α:Type} {enc:α->List CV}:∀ {L:List (List CV)},(∀ l∈L,∃ a,l=enc a)->∃ ps:List α,L=ps.map enc
 | [],_=>⟨[],rfl⟩
 | l::L,h=>by
  obtain ⟨a,ha⟩:=h l (by simp)
  obtain ⟨ps,hp⟩:=map_of (L:=L) fun l hl=>h l (by simp [hl])
  exact ⟨a::ps,by rw [ha,hp];rfl⟩
end Go.Ab

namespace Go.Ab
open Go
set_option maxRecDepth 100000
theorem SoundC.of {P:Program} {f:FuncId} {g g':Callee} (h:SoundC P f g) (ht:∀ args conts (β:Type) (K:CV->List (List CV)->Option β) r,g'.run args conts β K=some r->g.run args conts β K=some r):SoundC P f g':=
 ⟨h.enter,fun args conts β K r hK=>h.calls args conts β K r (ht args conts β K r hK)⟩
theorem fnC_run {cx:Cx} {fn:Func} {args:List CV} {conts:List (List CV)} {β:Type} {K:CV->List (List CV)->Option β}:(fnC cx fn).run args conts β K=fnK cx fn args conts K:=rfl
theorem cond_some1 {b:Bool} {g g':Callee} (h:(bif b then some g else none)=some g'):b=true/\g=g':=by
 cases b with
 | true=>exact ⟨rfl,Option.some.inj h⟩
 | false=>cases h
theorem eqOK_none {cx:Cx} (h:∀ t,cx.eqT t=false):EqOK cx:=fun t ht=>by rw [h t] at ht;cases ht
def bodyOf (f:Func):Code:=f.body.getD .skip
theorem pathN_pos:∀ p,1<=pathN p
 | []=>Nat.le_refl 1
 | b::p=>by
  have:=pathN_pos p
  simp only [pathN]
  omega
theorem pathN_inj:∀ (p q:List Bool),pathN p=pathN q->p=q
 | [],[],_=>rfl
 | [],b::q,h=>by
  have:=pathN_pos q
  simp only [pathN] at h
  omega
 | b::p,[],h=>by
  have:=pathN_pos p
  simp only [pathN] at h
  omega
 | b::p,c::q,h=>by
  simp only [pathN] at h
  have h1:pathN p=pathN q:=by cases b <;> cases c <;> simp at h <;> omega
  have h2:b=c:=by cases b <;> cases c <;> simp at h <;> first | rfl | omega
  rw [h2,pathN_inj p q h1]
theorem LoopsS.of {cx:Cx} (h:∀ k L,cx.Λ k=some L->∃ p0,k=pathN p0/\∀ (vs:List CV) (cs:List (List CV)) (β:Type) (K:Exit->List CV->List (List CV)->Option β) (r:β),L.run vs cs β K=some r->
  ∃ n,loopB cx L.ins L.outs p0 ((codeAt cx.root (false::p0)).getD .skip) n vs cs K=some r):LoopsS cx:=fun p L b hl hp vs cs β K r hr=>by
 obtain ⟨p0,hk,hs⟩:=h _ L hl
 have:=pathN_inj p p0 hk
 subst this
 obtain ⟨n,hn⟩:=hs vs cs β K r hr
 refine ⟨n,?_⟩
 have e:codeAt cx.root (false::p)=some b:=by simp [codeAt,hp,childOf]
 rw [e] at hn
 exact hn
theorem cond_some2 {b:Bool} {g g':LoopSem} (h:(bif b then some g else none)=some g'):b=true/\g=g':=by
 cases b with
 | true=>exact ⟨rfl,Option.some.inj h⟩
 | false=>cases h
def optE {α γ:Type} (o:Option α) (n:γ) (s:α->γ):γ:=match o with
 | some a=>s a
 | none=>n
theorem Nat3.optE {α A B C:Type} {o:Option α} {F:(β:Type)->(A->B->C->Option β)->Option β} {G:α->(β:Type)->(A->B->C->Option β)->Option β} (hF:Nat3 F) (hG:∀ a,Nat3 (G a)):Nat3 (fun β K=>Ab.optE o (F β K) fun a=>G a β K):=by
 cases o with
 | none=>exact hF
 | some a=>exact hG a
theorem Nat2.optE {α A B:Type} {o:Option α} {F:(β:Type)->(A->B->Option β)->Option β} {G:α->(β:Type)->(A->B->Option β)->Option β} (hF:Nat2 F) (hG:∀ a,Nat2 (G a)):Nat2 (fun β K=>Ab.optE o (F β K) fun a=>G a β K):=by
 cases o with
 | none=>exact hF
 | some a=>exact hG a
def gIn:Callee:=⟨fun args conts _ K=>match args,conts with
 | [.int .i64 a,.int .i64 b,.int .i64 c],[]=>K (.bool (cond (decide (a>=b)) (decide (a<=c)) false)) []
 | _,_=>none⟩
end Go.Ab

namespace Go.Ab
open Go
set_option maxRecDepth 100000
structure Sh where
 T:Type
 n:Nat
 un:T->List (List CV)
 dec:List (List CV)->Option T
 ok:∀ co x,dec co=some x->co=un x
 dec_un:∀ x,dec (un x)=some x
 len:∀ x,(un x).length=n
def guardY (S:Sh) (Y:YSem):YSem:=fun args conts _ K=>Y args conts _ fun s co=>(S.dec co).bind fun x=>K s (S.un x)
theorem guard_nat {S:Sh} {Y:YSem} (h:NatYS Y):NatYS (guardY S Y):=fun args conts => .seq2 (h args conts) fun _ _ => .bind _ fun _ => .ret _ _
theorem guard_soundY {P:Program} {S:Sh} {c0:CV} {Y:YSem} (hn:NatYS Y) (h:SoundY P (gY c0 Y)):SoundY P (gY c0 (guardY S Y)):=by
 intro args conts β K r hr
 unfold gY at hr
 dsimp only at hr
 split at hr
 ·rename_i c cs
  replace hr:=cond_some hr
  obtain ⟨hc,hr⟩:=hr
  unfold guardY at hr
  rcases hn args cs with ⟨s0,co0,hs⟩ | hs
  ·replace hs:∀ (β:Type) (K:Option Nat->List (List CV)->Option β),Y args cs β K=K s0 co0:=hs
   rw [hs] at hr
   replace hr:=bind_some' hr
   obtain ⟨x0,hx,hr⟩:=hr
   have hco:=S.ok _ _ hx
   obtain ⟨rv,co,hq,hy⟩:=h args ([c]::cs) (CV×List (List CV)) (fun rv co=>some (rv,co)) (.bool s0.isNone,[setS c0 s0]::co0) (by
    show (bif okC c c0 then Y args cs _ _ else none)=_
    rw [hc,cond_true,hs])
   obtain ⟨rfl,rfl⟩:=Prod.mk.inj (Option.some.inj hq)
   exact ⟨_,_,hr,by rw [<- hco];exact hy⟩
  ·replace hs:∀ (β:Type) (K:Option Nat->List (List CV)->Option β),Y args cs β K=none:=hs
   rw [hs] at hr
   cases hr
 ·cases hr
theorem gY_nat {c0:CV} {Y:YSem} (h:NatYS Y):NatC (gY c0 Y):=fun args conts=>by
 unfold gY
 dsimp only
 split
 ·exact .cond _ (.seq2 (h _ _) fun _ _ => .ret _ _) .none
 ·exact .none
def selS {γ:Type} (o:Option Nat) (n:γ) (s:Nat->γ):γ:=match o with
 | some a=>s a
 | none=>n
theorem Nat2.selS {A B:Type} {o:Option Nat} {F:(β:Type)->(A->B->Option β)->Option β} {G:Nat->(β:Type)->(A->B->Option β)->Option β} (hF:Nat2 F) (hG:∀ a,Nat2 (G a)):Nat2 (fun β K=>Ab.selS o (F β K) fun a=>G a β K):=by
 cases o with
 | none=>exact hF
 | some a=>exact hG a
abbrev Cell:=Int×Int
def cellV (c:Cell):CV := .agg [.int .i64 c.1,.int .i64 c.2]
def runC (S:Sh) (Y:YSem):List Cell->S.T->(β:Type)->(Option Nat->S.T->Option β)->Option β
 | [],x,_,K=>K none x
 | c::cs,x,β,K=>Y [cellV c] (S.un x) β fun s co=>(S.dec co).bind fun x'=>selS s (runC S Y cs x' β K) fun k=>K (some k) x'
theorem runC_nat {S:Sh} {Y:YSem} (h:NatYS Y):∀ (cs:List Cell) (x:S.T),Nat2 (fun β K=>runC S Y cs x β K)
 | [],x => .ret _ _
 | c::cs,x=>by
  simp only [runC]
  exact .seq2 (h _ _) fun s co => .bind _ fun x' => .selS (runC_nat h cs x') fun k => .ret _ _
theorem runC_append {S:Sh} {Y:YSem}:∀ (cs ds:List Cell) (x:S.T) (β:Type) (K:Option Nat->S.T->Option β),runC S Y (cs++ds) x β K=runC S Y cs x β fun s x'=>selS s (runC S Y ds x' β K) fun k=>K (some k) x'
 | [],ds,x,β,K=>rfl
 | c::cs,ds,x,β,K=>by
  simp only [List.cons_append,runC]
  congr 1
  funext s co
  congr 1
  funext x'
  cases s with
  | none=>exact runC_append cs ds x' β K
  | some k=>rfl
def restr0 (G:ItSem):ItSem:=fun Y caps conts _ K=>G Y caps conts _ fun s co=>selS s (K none co) fun k=>bif Nat.beq k 0 then K (some 0) co else none
theorem restr0_nat {G:ItSem} (h:NatI G):NatI (restr0 G):=fun Y hY caps conts=>
 .seq2 (h Y hY caps conts) fun _ _ => .selS (.ret _ _) fun _ => .cond _ (.ret _ _) .none
theorem restr0_sound {P:Program} {f:FuncId} {G:ItSem} (hN:NatI G) (h:SoundI P f G):SoundI P f (restr0 G):=fun l fx ts env bs n Y hY hSY=>
 ⟨(h l fx ts env bs n Y hY hSY).enter,fun args conts β K r hr=>(h l fx ts env bs n Y hY hSY).calls args conts β K r (by
  unfold hI at hr ⊢
  dsimp only at hr ⊢
  split at hr
  ·rename_i l' caps c cs
   replace hr:=cond_some hr
   obtain ⟨hb,hr⟩:=hr
   rw [hb,cond_true]
   unfold restr0 at hr
   rcases hN Y hY caps cs with ⟨s0,co0,hs⟩ | hs
   ·replace hs:∀ (β:Type) (K:Option Nat->List (List CV)->Option β),G Y caps cs β K=K s0 co0:=hs
    rw [hs] at hr ⊢
    cases s0 with
    | none=>exact hr
    | some k=>
     simp only [selS] at hr
     replace hr:=cond_some hr
     obtain ⟨hk,hr⟩:=hr
     have:=beq_true hk
     subst this
     exact hr
   ·replace hs:∀ (β:Type) (K:Option Nat->List (List CV)->Option β),G Y caps cs β K=none:=hs
    rw [hs] at hr
    cases hr
  ·cases hr)⟩
end Go.Ab

namespace Go.Ab
open Go
set_option maxRecDepth 100000
def Le3 {A B C:Type} (F G:(β:Type)->(A->B->C->Option β)->Option β):Prop:=(∃ a b c,(∀ β K,F β K=K a b c)/\∀ β K,G β K=K a b c)\/∀ β K,F β K=none
def Le2 {A B:Type} (F G:(β:Type)->(A->B->Option β)->Option β):Prop:=(∃ a b,(∀ β K,F β K=K a b)/\∀ β K,G β K=K a b)\/∀ β K,F β K=none
theorem Le3.of {A B C:Type} {F:(β:Type)->(A->B->C->Option β)->Option β} (h:Nat3 F):Le3 F F:=by
 rcases h with ⟨a,b,c,h⟩ | h
 ·exact .inl ⟨a,b,c,h,h⟩
 ·exact .inr h
theorem Le2.of {A B:Type} {F:(β:Type)->(A->B->Option β)->Option β} (h:Nat2 F):Le2 F F:=by
 rcases h with ⟨a,b,h⟩ | h
 ·exact .inl ⟨a,b,h,h⟩
 ·exact .inr h
theorem Le3.ret {A B C:Type} (a:A) (b:B) (c:C):Le3 (fun _ K=>K a b c) (fun _ K=>K a b c) := .inl ⟨a,b,c,fun _ _=>rfl,fun _ _=>rfl⟩
theorem Le2.ret {A B:Type} (a:A) (b:B):Le2 (fun _ K=>K a b) (fun _ K=>K a b) := .inl ⟨a,b,fun _ _=>rfl,fun _ _=>rfl⟩
theorem Le3.none {A B C:Type} {G:(β:Type)->(A->B->C->Option β)->Option β}:Le3 (fun β (_:A->B->C->Option β)=>(none:Option β)) G := .inr fun _ _=>rfl
theorem Le2.none {A B:Type} {G:(β:Type)->(A->B->Option β)->Option β}:Le2 (fun β (_:A->B->Option β)=>(none:Option β)) G := .inr fun _ _=>rfl
theorem Le3.bind {A B C γ:Type} (o:Option γ) {F G:γ->(β:Type)->(A->B->C->Option β)->Option β} (h:∀ x,Le3 (F x) (G x)):Le3 (fun β K=>o.bind fun x=>F x β K) (fun β K=>o.bind fun x=>G x β K):=by
 cases o with
 | none=>exact .none
 | some x=>exact h x
theorem Le2.bind {A B γ:Type} (o:Option γ) {F G:γ->(β:Type)->(A->B->Option β)->Option β} (h:∀ x,Le2 (F x) (G x)):Le2 (fun β K=>o.bind fun x=>F x β K) (fun β K=>o.bind fun x=>G x β K):=by
 cases o with
 | none=>exact .none
 | some x=>exact h x
theorem Le3.cond {A B C:Type} (b:Bool) {F G F' G':(β:Type)->(A->B->C->Option β)->Option β} (hF:Le3 F F') (hG:Le3 G G'):Le3 (fun β K=>bif b then F β K else G β K) (fun β K=>bif b then F' β K else G' β K):=by cases b <;> assumption
theorem Le2.cond {A B:Type} (b:Bool) {F G F' G':(β:Type)->(A->B->Option β)->Option β} (hF:Le2 F F') (hG:Le2 G G'):Le2 (fun β K=>bif b then F β K else G β K) (fun β K=>bif b then F' β K else G' β K):=by cases b <;> assumption
theorem Le3.seq3 {A B C D E G':Type} {F F':(β:Type)->(A->B->C->Option β)->Option β} (hF:Le3 F F') {G H:A->B->C->(β:Type)->(D->E->G'->Option β)->Option β} (hG:∀ a b c,Le3 (G a b c) (H a b c)):Le3 (fun β K=>F β fun a b c=>G a b c β K) (fun β K=>F' β fun a b c=>H a b c β K):=by
 rcases hF with ⟨a,b,c,h,h'⟩ | h
 ·have:=hG a b c
  simp only [h,h']
  exact this
 ·exact .inr fun β K=>h β _
theorem Le2.seq3 {A B C D E:Type} {F F':(β:Type)->(A->B->C->Option β)->Option β} (hF:Le3 F F') {G H:A->B->C->(β:Type)->(D->E->Option β)->Option β} (hG:∀ a b c,Le2 (G a b c) (H a b c)):Le2 (fun β K=>F β fun a b c=>G a b c β K) (fun β K=>F' β fun a b c=>H a b c β K):=by
 rcases hF with ⟨a,b,c,h,h'⟩ | h
 ·have:=hG a b c
  simp only [h,h']
  exact this
 ·exact .inr fun β K=>h β _
theorem Le3.seq2 {A B D E G':Type} {F F':(β:Type)->(A->B->Option β)->Option β} (hF:Le2 F F') {G H:A->B->(β:Type)->(D->E->G'->Option β)->Option β} (hG:∀ a b,Le3 (G a b) (H a b)):Le3 (fun β K=>F β fun a b=>G a b β K) (fun β K=>F' β fun a b=>H a b β K):=by
 rcases hF with ⟨a,b,h,h'⟩ | h
 ·have:=hG a b
  simp only [h,h']
  exact this
 ·exact .inr fun β K=>h β _
theorem Le3.use {A B C:Type} {F G:(β:Type)->(A->B->C->Option β)->Option β} (h:Le3 F G) {β:Type} {K:A->B->C->Option β} {r:β} (hr:F β K=some r):G β K=some r:=by
 rcases h with ⟨a,b,c,h,h'⟩ | h
 ·rw [h'] ;rw [h] at hr;exact hr
 ·rw [h] at hr;cases hr
theorem Le2.use {A B:Type} {F G:(β:Type)->(A->B->Option β)->Option β} (h:Le2 F G) {β:Type} {K:A->B->Option β} {r:β} (hr:F β K=some r):G β K=some r:=by
 rcases h with ⟨a,b,h,h'⟩ | h
 ·rw [h'] ;rw [h] at hr;exact hr
 ·rw [h] at hr;cases hr
abbrev Cx.lam (cx:Cx) (Λ:Nat->Option LoopSem):Cx:={cx with Λ:=Λ}
section
variable {β:Type} {cx:Cx} {Λ':Nat->Option LoopSem}
theorem opK_lam (o:Oper) (st:St) (h:H) (K:SV->H->Option β):opK (cx.lam Λ') o st h K=opK cx o st h K:=rfl
theorem opsK_lam {ops:Array Oper}:∀ (is:List Nat) (st:St) (h:H) (K:St->H->Option β),opsK (cx.lam Λ') ops is st h K=opsK cx ops is st h K
 | [],_,_,_=>rfl
 | i::is,st,h,K=>by
  have ih:=fun st h=>opsK_lam (ops:=ops) is st h K
  simp only [opsK,opK_lam,ih]
  rfl
theorem drawOne_lam (o:Oper) (st:St) (h:H) (K:FP->SV->H->Option β):drawOne (cx.lam Λ') o st h K=drawOne cx o st h K:=rfl
theorem drawK_lam {ops:Array Oper}:∀ (js:List Nat) (tr:List Tr) (st:St) (h:H) (K:St->H->Option β),drawK (cx.lam Λ') ops js tr st h K=drawK cx ops js tr st h K
 | [],_,_,_,_=>rfl
 | j::js,tr,st,h,K=>by
  have ih:=fun tr st h=>drawK_lam (ops:=ops) js tr st h K
  simp only [drawK,drawOne_lam,ih]
  rfl
theorem codeK_le (hΓ:NatX cx) (hΛ:∀ q L,cx.Λ q=some L->NatL L) (hle:∀ q L,cx.Λ q=some L->Λ' q=some L):∀ (n:Nat) (p:List Bool) (c:Code) (st:St) (h:H),
  Le3 (fun β K=>codeK (β:=β) cx n p c K st h) (fun β K=>codeK (β:=β) (cx.lam Λ') n p c K st h)
 | 0,p,c,st,h => .none
 | n+1,p,c,st,h=>by
  have ih:=codeK_le hΓ hΛ hle n
  have norm:∀ (p q:List Bool) (c:Code) (d:Code) (st:St) (h:H),Le3 (fun β (K:Exit->St->H->Option β)=>codeK cx n p c (fun e st h=>match e with | .normal=>codeK cx n q d K st h | e=>K e st h) st h)
    (fun β (K:Exit->St->H->Option β)=>codeK (cx.lam Λ') n p c (fun e st h=>match e with | .normal=>codeK (cx.lam Λ') n q d K st h | e=>K e st h) st h):=fun p q c d st h=>
   .seq3 (ih p c st h) fun e st h=>by
    cases e with
    | normal=>exact ih q d st h
    | _=>exact .ret _ _ _
  cases c with
  | skip=>exact .ret _ _ _
  | label l=>exact .ret _ _ _
  | exit id=>exact .ret _ _ _
  | ret=>exact .ret _ _ _
  | region id ops draw=>
   simp only [codeK,opsK_lam,drawK_lam]
   exact .cond _ (.cond _ (.seq2 (.of (drawK_nat hΓ _ _ _ _)) fun _ _ => .ret _ _ _) .none) (.seq2 (.of (opsK_nat hΓ _ _ _)) fun _ _ => .ret _ _ _)
  | seq a b=>simp only [codeK];exact norm _ _ _ _ _ _
  | cond o a b=>
   simp only [codeK]
   split
   ·exact .cond _ (ih _ _ _ _) (ih _ _ _ _)
   ·exact .none
  | block id b=>
   simp only [codeK]
   refine .seq3 (ih _ _ _ _) fun e st h => ?_
   cases e with
   | exit i=>exact .cond _ (.ret _ _ _) (.ret _ _ _)
   | _=>exact .ret _ _ _
  | loop b=>
   simp only [codeK]
   refine .cond _ (norm _ _ _ _ _ _) ?_
   cases hL:cx.Λ (pathN p) with
   | some L=>
    simp only [hle _ _ hL]
    exact .of (loopK_nat (hΛ _ _ hL))
   | none=>exact .none
  | scope b=>
   simp only [codeK]
   refine .seq3 (ih _ _ _ _) fun e st h => ?_
   cases e with
   | goto l=>exact .none
   | _=>exact .ret _ _ _
  | rangeFunc g ps a b=>simp only [codeK];exact .of (rangeK_nat hΓ)
  | _=>exact .none
theorem loopB_le (hΓ:NatX cx) (hΛ:∀ q L,cx.Λ q=some L->NatL L) (hle:∀ q L,cx.Λ q=some L->Λ' q=some L) {ins:List Nat} {outs:Exit->List Nat} {p:List Bool} {b:Code}:∀ (n:Nat) (vs:List CV) (cs:List (List CV)),
  Le3 (fun β K=>loopB (β:=β) cx ins outs p b n vs cs K) (fun β K=>loopB (β:=β) (cx.lam Λ') ins outs p b n vs cs K)
 | 0,vs,cs => .none
 | n+1,vs,cs=>by
  simp only [loopB]
  refine .bind _ fun s => .seq3 (codeK_le hΓ hΛ hle _ _ _ _ _) fun e st h => ?_
  cases e with
  | normal=>exact .bind _ fun x=>loopB_le hΓ hΛ hle n _ _
  | _=>exact .bind _ fun x => .ret _ _ _
end
abbrev bodyL (root:Code) (p:List Bool):Code:=(codeAt root (false::p)).getD .skip
abbrev Cx.loop (cx:Cx) (p:List Bool) (L:LoopSem):Cx:=cx.lam fun q=>bif Nat.beq q (pathN p) then some L else cx.Λ q
structure LoopsOK (cx:Cx):Prop where
 s:LoopsS cx
 n:∀ q L,cx.Λ q=some L->NatL L
theorem LoopsOK.none {cx:Cx} (h:∀ q,cx.Λ q=none):LoopsOK cx:=⟨fun p L b hl=>(by rw [h] at hl;cases hl),fun q L hl=>(by rw [h] at hl;cases hl)⟩
theorem LoopsOK.loop {cx:Cx} (hN:NatX cx) (h:LoopsOK cx) {p:List Bool} {L0:LoopSem} (hp:cx.Λ (pathN p) = .none) (hn0:NatL L0)
  (hs:∀ (vs:List CV) (cs:List (List CV)) (β:Type) (K:Exit->List CV->List (List CV)->Option β) (r:β),L0.run vs cs β K=some r->∃ n,loopB cx L0.ins L0.outs p (bodyL cx.root p) n vs cs K=some r):LoopsOK (cx.loop p L0):=by
 have hle:∀ q L,cx.Λ q=some L->(cx.loop p L0).Λ q=some L:=fun q L hq=>by
  show (bif Nat.beq q (pathN p) then _ else _)=_
  cases hb:Nat.beq q (pathN p) with
  | true=>rw [beq_true hb,hp] at hq;cases hq
  | false=>exact hq
 have hcase:∀ q L,(cx.loop p L0).Λ q=some L->(q=pathN p/\L=L0)\/cx.Λ q=some L:=fun q L hq=>by
  replace hq:(bif Nat.beq q (pathN p) then some L0 else cx.Λ q)=some L:=hq
  cases hb:Nat.beq q (pathN p) with
  | true=>rw [hb] at hq;cases hq;exact .inl ⟨beq_true hb,rfl⟩
  | false=>rw [hb] at hq;exact .inr hq
 refine ⟨fun q L b hl hc vs cs β K r hr => ?_,fun q L hl => ?_⟩
 ·rcases hcase _ L hl with ⟨hq,rfl⟩ | hl
  ·have:=pathN_inj q p hq
   subst this
   have e:bodyL cx.root q=b:=by
    have hc':codeAt cx.root q=some (.loop b):=hc
    simp [bodyL,codeAt,hc',childOf]
   obtain ⟨n,hn⟩:=hs vs cs β K r hr
   rw [e] at hn
   exact ⟨n,(loopB_le (Λ':=(cx.loop q L).Λ) hN h.n hle n vs cs).use hn⟩
  ·obtain ⟨n,hn⟩:=h.s q L b hl hc vs cs β K r hr
   exact ⟨n,(loopB_le (Λ':=(cx.loop p L0).Λ) hN h.n hle n vs cs).use hn⟩
 ·rcases hcase q L hl with ⟨_,rfl⟩ | hl
  ·exact hn0
  ·exact h.n q L hl
inductive Out where
 | one (e:Exit) (vs:List CV) (cs:List (List CV))
 | alt (b:Bool) (x y:Out)
def Out.run {β:Type}:Out->(Exit->List CV->List (List CV)->Option β)->Option β
 | .one e vs cs,K=>K e vs cs
 | .alt b x y,K=>bif b then x.run K else y.run K
theorem Out.nat:∀ (o:Out),Nat3 (fun β K=>o.run (β:=β) K)
 | .one _ _ _ => .ret _ _ _
 | .alt _ x y => .cond _ x.nat y.nat
end Go.Ab

namespace Go.Ab
open Go
set_option maxRecDepth 100000
structure GoodC (P:Program) (f:FuncId) (g:Callee):Prop where
 s:SoundC P f g
 n:NatC g
theorem GoodC.of {P:Program} {f:FuncId} {g g':Callee} (h:SoundC P f g) (hn:NatC g') (ht:∀ args conts (β:Type) (K:CV->List (List CV)->Option β) r,g'.run args conts β K=some r->g.run args conts β K=some r):GoodC P f g':=⟨SoundC.of h ht,hn⟩
def lookL:List (Nat×Callee)->FuncId->Option Callee
 | [],_=>none
 | p::r,f=>bif Nat.beq f p.1 then some p.2 else lookL r f
def Good (P:Program) (l:List (Nat×Callee)):Prop:=∀ f g,lookL l f=some g->GoodC P f g
theorem Good.nil {P:Program}:Good P []:=fun f g h=>by cases h
theorem Good.cons {P:Program} {f:Nat} {g:Callee} {l:List (Nat×Callee)} (h:GoodC P f g) (t:Good P l):Good P ((f,g)::l):=fun f' g' h'=>by
 simp only [lookL] at h'
 cases e:Nat.beq f' f with
 | true=>rw [e] at h';cases h';rw [beq_true e];exact h
 | false=>rw [e] at h';exact t f' g' h'
theorem lookL_app:∀ (l m:List (Nat×Callee)) (f:Nat),lookL (l++m) f=(match lookL l f with | some g=>some g | none=>lookL m f)
 | [],m,f=>rfl
 | p::l,m,f=>by
  simp only [List.cons_append,lookL]
  cases Nat.beq f p.1 with
  | true=>rfl
  | false=>exact lookL_app l m f
theorem Good.app {P:Program} {l m:List (Nat×Callee)} (hl:Good P l) (hm:Good P m):Good P (l++m):=fun f g h=>by
 rw [lookL_app] at h
 cases e:lookL l f with
 | some g'=>rw [e] at h;cases h;exact hl f g e
 | none=>rw [e] at h;exact hm f g h
structure GoodN (P:Program) (f:FuncId) (n:Inl):Prop where
 s:SoundN P f n
 n:NatN n
def lookI:List (Nat×Inl)->FuncId->Option Inl
 | [],_=>none
 | p::r,f=>bif Nat.beq f p.1 then some p.2 else lookI r f
def GoodI (P:Program) (l:List (Nat×Inl)):Prop:=∀ f g,lookI l f=some g->GoodN P f g
theorem GoodI.nil {P:Program}:GoodI P []:=fun f g h=>by cases h
theorem GoodI.cons {P:Program} {f:Nat} {g:Inl} {l:List (Nat×Inl)} (h:GoodN P f g) (t:GoodI P l):GoodI P ((f,g)::l):=fun f' g' h'=>by
 simp only [lookI] at h'
 cases e:Nat.beq f' f with
 | true=>rw [e] at h';cases h';rw [beq_true e];exact h
 | false=>rw [e] at h';exact t f' g' h'
noncomputable abbrev cxF (P:Program) (fn:Func) (l:List (Nat×Callee)) (wr:Nat->Bool:=fun _=>false) (un:Nat->Bool:=fun _=>false) (eqT:Nat->Bool:=fun _=>false):Cx:=
 {P:=P,nt:=fn.ntmps,Γ:=lookL l,Λ:=fun _=>none,un:=un,root:=bodyOf fn,wr:=wr,eqT:=eqT}
noncomputable abbrev cxG (P:Program) (fn:Func) (l:List (Nat×Callee)) (il:List (Nat×Inl):=[]) (wr:Nat->Bool:=fun _=>false) (un:Nat->Bool:=fun _=>false) (eqT:Nat->Bool:=fun _=>false):Cx:=
 {P:=P,nt:=fn.ntmps,Γ:=lookL l,Λ:=fun _=>none,un:=un,root:=bodyOf fn,wr:=wr,eqT:=eqT,I:=lookI il,bor:=true,dir:=true}
noncomputable abbrev cxN (P:Program) (fn:Func) (l:List (Nat×Callee)) (il:List (Nat×Inl):=[]) (wr:Nat->Bool:=fun _=>false) (un:Nat->Bool:=fun _=>false) (eqT:Nat->Bool:=fun _=>false):Cx:=
 {P:=P,nt:=fn.ntmps,Γ:=lookL l,Λ:=fun _=>none,un:=un,root:=bodyOf fn,wr:=wr,eqT:=eqT,I:=lookI il,bor:=true,dir:=true,nw:=true}
structure CxOK (cx:Cx) (l:List (Nat×Callee)):Prop where
 Γ:cx.Γ=lookL l
 good:Good cx.P l
 eq:EqOK cx
 loops:LoopsOK cx
 Y:cx.Y=none
 It:cx.It=fun _=>none
 rf:cx.rf=fun _=>none
 inl:∀ f n,cx.I f=some n->GoodN cx.P f n
theorem CxOK.nx {cx:Cx} {l:List (Nat×Callee)} (h:CxOK cx l):NatX cx:=
 ⟨fun f g hg=>(h.good f g (by rw [<- h.Γ];exact hg)).n,fun y hy=>by rw [h.Y] at hy;(cases hy),fun f G hG=>by rw [h.It] at hG;(cases hG),fun q S hS=>by rw [h.rf] at hS;(cases hS),fun f n hn=>(h.inl f n hn).n⟩
theorem CxOK.base {P:Program} {fn:Func} {l:List (Nat×Callee)} {wr un eqT:Nat->Bool} (h:Good P l) (he:EqOK (cxF P fn l wr un eqT)):CxOK (cxF P fn l wr un eqT) l:=
 ⟨rfl,h,he,LoopsOK.none fun _=>rfl,rfl,rfl,rfl,fun f n hn=>by cases hn⟩
theorem CxOK.baseG {P:Program} {fn:Func} {l:List (Nat×Callee)} {il:List (Nat×Inl)} {wr un eqT:Nat->Bool} (h:Good P l) (hi:GoodI P il) (he:EqOK (cxG P fn l il wr un eqT)):CxOK (cxG P fn l il wr un eqT) l:=
 ⟨rfl,h,he,LoopsOK.none fun _=>rfl,rfl,rfl,rfl,fun f n hn=>hi f n hn⟩
theorem CxOK.baseN {P:Program} {fn:Func} {l:List (Nat×Callee)} {il:List (Nat×Inl)} {wr un eqT:Nat->Bool} (h:Good P l) (hi:GoodI P il) (he:EqOK (cxN P fn l il wr un eqT)):CxOK (cxN P fn l il wr un eqT) l:=
 ⟨rfl,h,he,LoopsOK.none fun _=>rfl,rfl,rfl,rfl,fun f n hn=>hi f n hn⟩
theorem CxOK.loop {cx:Cx} {l:List (Nat×Callee)} (h:CxOK cx l) {p:List Bool} {L:LoopSem} (hp:cx.Λ (pathN p)=none) (hn0:NatL L)
  (hs:∀ (vs:List CV) (cs:List (List CV)) (β:Type) (K:Exit->List CV->List (List CV)->Option β) (r:β),L.run vs cs β K=some r->∃ n,loopB cx L.ins L.outs p (bodyL cx.root p) n vs cs K=some r):CxOK (cx.loop p L) l:=
 ⟨h.Γ,h.good,fun t ht=>h.eq t ht,LoopsOK.loop h.nx h.loops hp hn0 hs,h.Y,h.It,h.rf,h.inl⟩
theorem CxOK.eqY {cx:Cx} {l:List (Nat×Callee)} (h:CxOK cx l):EqY cx:=
 ⟨h.eq,fun y hy=>by rw [h.Y] at hy;(cases hy),fun f G hG=>by rw [h.It] at hG;(cases hG),fun p S g ps as bd hS=>by rw [h.rf] at hS;(cases hS),fun f n hn=>(h.inl f n hn).s⟩
theorem CxOK.sound {cx:Cx} {l:List (Nat×Callee)} (h:CxOK cx l) {f:FuncId} {fn:Func} (hf:cx.P.funcs[f]? = some fn)
  (hn:(fn.name == "runtime.NumGoroutine")=false) (hb:fn.body=some cx.root) (hnt:cx.nt=fn.ntmps) (hpn:Nat.ble (fn.params.size+fn.nfree) fn.ntmps=true):SoundC cx.P f (fnC cx fn):=
 fnSoundY (fun f g hg=>(h.good f g (by rw [<- h.Γ];exact hg)).s) h.nx h.eqY h.loops.s h.loops.n hf hn hb hnt (Nat.le_of_ble_eq_true hpn)
theorem CxOK.inlG {cx:Cx} {l:List (Nat×Callee)} (h:CxOK cx l) {f:FuncId} {fn:Func} (hf:cx.P.funcs[f]? = some fn)
  (hn:(fn.name == "runtime.NumGoroutine")=false) (hb:fn.body=some cx.root) (hnt:cx.nt=fn.ntmps) (hpn:Nat.ble (fn.params.size+fn.nfree) fn.ntmps=true):GoodN cx.P f (inlC cx fn):=
 ⟨inlSound (fun f g hg=>(h.good f g (by rw [<- h.Γ];exact hg)).s) h.nx h.eqY h.loops.s h.loops.n hf hn hb hnt (Nat.le_of_ble_eq_true hpn),inlC_nat h.nx h.loops.n⟩
structure Cod (α:Type) where
 enc:α->CV
 dec:CV->Option α
 ok:∀ c a,dec c=some a->c=enc a
 de:∀ a,dec (enc a)=some a
theorem Cod.bd {α γ:Type} (A:Cod α) {c:CV} {k:α->Option γ} {r:γ} (h:(A.dec c).bind k=some r):∃ a,c=A.enc a/\k a=some r:=
 (bind_some' h).imp fun _ ⟨h1,h2⟩=>⟨A.ok _ _ h1,h2⟩
def g0 (pre:Bool) (out:CV):Callee:=⟨fun args conts _ K=>match args,conts with
 | [],[]=>bif pre then K (out) [] else none
 | _,_=>none⟩
theorem g0_nat {pre:Bool} {out:CV}:NatC (g0 pre out):=fun args conts=>by
 unfold g0
 dsimp only
 split
 ·exact .cond _ (.ret _ _) .none
 ·exact .none
theorem good0 {pre:Bool} {out:CV} {P:Program} {f:FuncId} {cx:Cx} {fn:Func} (hs:SoundC P f (fnC cx fn))
  (h:∀ (_:Unit),pre=true->∀ (β:Type) (K:CV->List (List CV)->Option β),fnK cx fn [] [] K=K (out) []):GoodC P f (g0 pre out):=by
 refine ⟨SoundC.of hs fun args conts β K r hr => ?_,g0_nat⟩
 unfold g0 at hr
 dsimp only at hr
 split at hr
 ·obtain ⟨hp,hr⟩:=cond_some hr
  rw [fnC_run,h () hp];exact hr
 ·cases hr
def g1 {α:Type} (A:Cod α) (pre:α->Bool) (out:α->CV):Callee:=⟨fun args conts _ K=>match args,conts with
 | [a],[]=>(A.dec a).bind fun a=>bif pre a then K (out a) [] else none
 | _,_=>none⟩
theorem g1_nat {α:Type} (A:Cod α) {pre:α->Bool} {out:α->CV}:NatC (g1 A pre out):=fun args conts=>by
 unfold g1
 dsimp only
 split
 ·exact .bind _ fun _ => .cond _ (.ret _ _) .none
 ·exact .none
theorem good1 {α:Type} {A:Cod α} {pre:α->Bool} {out:α->CV} {P:Program} {f:FuncId} {cx:Cx} {fn:Func} (hs:SoundC P f (fnC cx fn))
  (h:∀ a,pre a=true->∀ (β:Type) (K:CV->List (List CV)->Option β),fnK cx fn [A.enc a] [] K=K (out a) []):GoodC P f (g1 A pre out):=by
 refine ⟨SoundC.of hs fun args conts β K r hr => ?_,g1_nat _⟩
 unfold g1 at hr
 dsimp only at hr
 split at hr
 ·replace hr:=A.bd hr
  obtain ⟨a',rfl,hr⟩:=hr
  obtain ⟨hp,hr⟩:=cond_some hr
  rw [fnC_run,h a' hp];exact hr
 ·cases hr
def g2 {α:Type} {β:Type} (A:Cod α) (B:Cod β) (pre:α->β->Bool) (out:α->β->CV):Callee:=⟨fun args conts _ K=>match args,conts with
 | [a,b],[]=>(A.dec a).bind fun a=>(B.dec b).bind fun b=>bif pre a b then K (out a b) [] else none
 | _,_=>none⟩
theorem g2_nat {α:Type} {β:Type} (A:Cod α) (B:Cod β) {pre:α->β->Bool} {out:α->β->CV}:NatC (g2 A B pre out):=fun args conts=>by
 unfold g2
 dsimp only
 split
 ·exact .bind _ fun _ => .bind _ fun _ => .cond _ (.ret _ _) .none
 ·exact .none
theorem good2 {α:Type} {β:Type} {A:Cod α} {B:Cod β} {pre:α->β->Bool} {out:α->β->CV} {P:Program} {f:FuncId} {cx:Cx} {fn:Func} (hs:SoundC P f (fnC cx fn))
  (h:∀ a b,pre a b=true->∀ (β:Type) (K:CV->List (List CV)->Option β),fnK cx fn [A.enc a,B.enc b] [] K=K (out a b) []):GoodC P f (g2 A B pre out):=by
 refine ⟨SoundC.of hs fun args conts β K r hr => ?_,g2_nat _ _⟩
 unfold g2 at hr
 dsimp only at hr
 split at hr
 ·replace hr:=A.bd hr
  obtain ⟨a',rfl,hr⟩:=hr
  replace hr:=B.bd hr
  obtain ⟨b',rfl,hr⟩:=hr
  obtain ⟨hp,hr⟩:=cond_some hr
  rw [fnC_run,h a' b' hp];exact hr
 ·cases hr
def g3 {α:Type} {β:Type} {γ:Type} (A:Cod α) (B:Cod β) (C:Cod γ) (pre:α->β->γ->Bool) (out:α->β->γ->CV):Callee:=⟨fun args conts _ K=>match args,conts with
 | [a,b,c],[]=>(A.dec a).bind fun a=>(B.dec b).bind fun b=>(C.dec c).bind fun c=>bif pre a b c then K (out a b c) [] else none
 | _,_=>none⟩
theorem g3_nat {α:Type} {β:Type} {γ:Type} (A:Cod α) (B:Cod β) (C:Cod γ) {pre:α->β->γ->Bool} {out:α->β->γ->CV}:NatC (g3 A B C pre out):=fun args conts=>by
 unfold g3
 dsimp only
 split
 ·exact .bind _ fun _ => .bind _ fun _ => .bind _ fun _ => .cond _ (.ret _ _) .none
 ·exact .none
theorem good3 {α:Type} {β:Type} {γ:Type} {A:Cod α} {B:Cod β} {C:Cod γ} {pre:α->β->γ->Bool} {out:α->β->γ->CV} {P:Program} {f:FuncId} {cx:Cx} {fn:Func} (hs:SoundC P f (fnC cx fn))
  (h:∀ a b c,pre a b c=true->∀ (β:Type) (K:CV->List (List CV)->Option β),fnK cx fn [A.enc a,B.enc b,C.enc c] [] K=K (out a b c) []):GoodC P f (g3 A B C pre out):=by
 refine ⟨SoundC.of hs fun args conts β K r hr => ?_,g3_nat _ _ _⟩
 unfold g3 at hr
 dsimp only at hr
 split at hr
 ·replace hr:=A.bd hr
  obtain ⟨a',rfl,hr⟩:=hr
  replace hr:=B.bd hr
  obtain ⟨b',rfl,hr⟩:=hr
  replace hr:=C.bd hr
  obtain ⟨c',rfl,hr⟩:=hr
  obtain ⟨hp,hr⟩:=cond_some hr
  rw [fnC_run,h a' b' c' hp];exact hr
 ·cases hr
def g4 {α:Type} {β:Type} {γ:Type} {δ:Type} (A:Cod α) (B:Cod β) (C:Cod γ) (D:Cod δ) (pre:α->β->γ->δ->Bool) (out:α->β->γ->δ->CV):Callee:=⟨fun args conts _ K=>match args,conts with
 | [a,b,c,d],[]=>(A.dec a).bind fun a=>(B.dec b).bind fun b=>(C.dec c).bind fun c=>(D.dec d).bind fun d=>bif pre a b c d then K (out a b c d) [] else none
 | _,_=>none⟩
def g5 {α:Type} {β:Type} {γ:Type} {δ:Type} {ε:Type} (A:Cod α) (B:Cod β) (C:Cod γ) (D:Cod δ) (E:Cod ε) (pre:α->β->γ->δ->ε->Bool) (out:α->β->γ->δ->ε->CV):Callee:=⟨fun args conts _ K=>match args,conts with
 | [a,b,c,d,e],[]=>(A.dec a).bind fun a=>(B.dec b).bind fun b=>(C.dec c).bind fun c=>(D.dec d).bind fun d=>(E.dec e).bind fun e=>bif pre a b c d e then K (out a b c d e) [] else none
 | _,_=>none⟩
def g6 {α:Type} {β:Type} {γ:Type} {δ:Type} {ε:Type} {ζ:Type} (A:Cod α) (B:Cod β) (C:Cod γ) (D:Cod δ) (E:Cod ε) (F:Cod ζ) (pre:α->β->γ->δ->ε->ζ->Bool) (out:α->β->γ->δ->ε->ζ->CV):Callee:=⟨fun args conts _ K=>match args,conts with
 | [a,b,c,d,e,f],[]=>(A.dec a).bind fun a=>(B.dec b).bind fun b=>(C.dec c).bind fun c=>(D.dec d).bind fun d=>(E.dec e).bind fun e=>(F.dec f).bind fun f=>bif pre a b c d e f then K (out a b c d e f) [] else none
 | _,_=>none⟩
structure CodB (α:Type) where
 enc:α->List (List CV)
 dec:List (List CV)->Option α
 ok:∀ c a,dec c=some a->c=enc a
 de:∀ a,dec (enc a)=some a
theorem CodB.bd {α γ:Type} (A:CodB α) {c:List (List CV)} {k:α->Option γ} {r:γ} (h:(A.dec c).bind k=some r):∃ a,c=A.enc a/\k a=some r:=
 (bind_some' h).imp fun _ ⟨h1,h2⟩=>⟨A.ok _ _ h1,h2⟩
def c0:CodB Unit where
 enc:=fun _=>[]
 dec:=fun c=>match c with | []=>some () | _=>none
 ok:=fun c a h=>by
  split at h
  ·rfl
  ·cases h
 de:=fun _=>rfl
def l1 {T0:Type} {U:Type} (ins:List Nat) (outs:Exit->List Nat) (A0:Cod T0) (C:CodB U) (pre:T0->U->Bool) (out:T0->U->Out):LoopSem:=⟨ins,outs,fun vs cs _ K=>match vs with
 | [a]=>(A0.dec a).bind fun a=>(C.dec cs).bind fun u=>bif pre a u then (out a u).run K else none
 | _=>none⟩
def l2 {T0:Type} {T1:Type} {U:Type} (ins:List Nat) (outs:Exit->List Nat) (A0:Cod T0) (A1:Cod T1) (C:CodB U) (pre:T0->T1->U->Bool) (out:T0->T1->U->Out):LoopSem:=⟨ins,outs,fun vs cs _ K=>match vs with
 | [a,b]=>(A0.dec a).bind fun a=>(A1.dec b).bind fun b=>(C.dec cs).bind fun u=>bif pre a b u then (out a b u).run K else none
 | _=>none⟩
def l3 {T0:Type} {T1:Type} {T2:Type} {U:Type} (ins:List Nat) (outs:Exit->List Nat) (A0:Cod T0) (A1:Cod T1) (A2:Cod T2) (C:CodB U) (pre:T0->T1->T2->U->Bool) (out:T0->T1->T2->U->Out):LoopSem:=⟨ins,outs,fun vs cs _ K=>match vs with
 | [a,b,c]=>(A0.dec a).bind fun a=>(A1.dec b).bind fun b=>(A2.dec c).bind fun c=>(C.dec cs).bind fun u=>bif pre a b c u then (out a b c u).run K else none
 | _=>none⟩
theorem CxOK.loop3 {T0:Type} {T1:Type} {T2:Type} {U:Type} {ins:List Nat} {outs:Exit->List Nat} {A0:Cod T0} {A1:Cod T1} {A2:Cod T2} {C:CodB U} {pre:T0->T1->T2->U->Bool} {out:T0->T1->T2->U->Out} {cx:Cx} {l:List (Nat×Callee)} (h:CxOK cx l) {p:List Bool} (hp:cx.Λ (pathN p)=none)
  (hs:∀ a b c u,pre a b c u=true->∃ n,∀ (β:Type) (K:Exit->List CV->List (List CV)->Option β),loopB cx ins outs p (bodyL cx.root p) n [A0.enc a,A1.enc b,A2.enc c] (C.enc u) K=(out a b c u).run K):CxOK (cx.loop p (l3 ins outs A0 A1 A2 C pre out)) l:=by
 refine h.loop hp (fun vs cs => ?_) (fun vs cs β K r hr => ?_)
 ·unfold l3
  dsimp only
  split
  ·exact .bind _ fun _ => .bind _ fun _ => .bind _ fun _ => .bind _ fun _ => .cond _ (Out.nat _) .none
  ·exact .none
 ·unfold l3 at hr
  dsimp only at hr
  split at hr
  ·replace hr:=A0.bd hr
   obtain ⟨aa',rfl,hr⟩:=hr
   replace hr:=A1.bd hr
   obtain ⟨bb',rfl,hr⟩:=hr
   replace hr:=A2.bd hr
   obtain ⟨cc',rfl,hr⟩:=hr
   replace hr:=C.bd hr
   obtain ⟨u',rfl,hr⟩:=hr
   obtain ⟨hpre,hr⟩:=cond_some hr
   obtain ⟨n,hn⟩:=hs aa' bb' cc' u' hpre
   exact ⟨n,(hn β K).trans hr⟩
  ·cases hr
def l4 {T0:Type} {T1:Type} {T2:Type} {T3:Type} {U:Type} (ins:List Nat) (outs:Exit->List Nat) (A0:Cod T0) (A1:Cod T1) (A2:Cod T2) (A3:Cod T3) (C:CodB U) (pre:T0->T1->T2->T3->U->Bool) (out:T0->T1->T2->T3->U->Out):LoopSem:=⟨ins,outs,fun vs cs _ K=>match vs with
 | [a,b,c,d]=>(A0.dec a).bind fun a=>(A1.dec b).bind fun b=>(A2.dec c).bind fun c=>(A3.dec d).bind fun d=>(C.dec cs).bind fun u=>bif pre a b c d u then (out a b c d u).run K else none
 | _=>none⟩
theorem CxOK.loop4 {T0:Type} {T1:Type} {T2:Type} {T3:Type} {U:Type} {ins:List Nat} {outs:Exit->List Nat} {A0:Cod T0} {A1:Cod T1} {A2:Cod T2} {A3:Cod T3} {C:CodB U} {pre:T0->T1->T2->T3->U->Bool} {out:T0->T1->T2->T3->U->Out} {cx:Cx} {l:List (Nat×Callee)} (h:CxOK cx l) {p:List Bool} (hp:cx.Λ (pathN p)=none)
  (hs:∀ a b c d u,pre a b c d u=true->∃ n,∀ (β:Type) (K:Exit->List CV->List (List CV)->Option β),loopB cx ins outs p (bodyL cx.root p) n [A0.enc a,A1.enc b,A2.enc c,A3.enc d] (C.enc u) K=(out a b c d u).run K):CxOK (cx.loop p (l4 ins outs A0 A1 A2 A3 C pre out)) l:=by
 refine h.loop hp (fun vs cs => ?_) (fun vs cs β K r hr => ?_)
 ·unfold l4
  dsimp only
  split
  ·exact .bind _ fun _ => .bind _ fun _ => .bind _ fun _ => .bind _ fun _ => .bind _ fun _ => .cond _ (Out.nat _) .none
  ·exact .none
 ·unfold l4 at hr
  dsimp only at hr
  split at hr
  ·replace hr:=A0.bd hr
   obtain ⟨aa',rfl,hr⟩:=hr
   replace hr:=A1.bd hr
   obtain ⟨bb',rfl,hr⟩:=hr
   replace hr:=A2.bd hr
   obtain ⟨cc',rfl,hr⟩:=hr
   replace hr:=A3.bd hr
   obtain ⟨dd',rfl,hr⟩:=hr
   replace hr:=C.bd hr
   obtain ⟨u',rfl,hr⟩:=hr
   obtain ⟨hpre,hr⟩:=cond_some hr
   obtain ⟨n,hn⟩:=hs aa' bb' cc' dd' u' hpre
   exact ⟨n,(hn β K).trans hr⟩
  ·cases hr
def l5 {T0:Type} {T1:Type} {T2:Type} {T3:Type} {T4:Type} {U:Type} (ins:List Nat) (outs:Exit->List Nat) (A0:Cod T0) (A1:Cod T1) (A2:Cod T2) (A3:Cod T3) (A4:Cod T4) (C:CodB U) (pre:T0->T1->T2->T3->T4->U->Bool) (out:T0->T1->T2->T3->T4->U->Out):LoopSem:=⟨ins,outs,fun vs cs _ K=>match vs with
 | [a,b,c,d,e]=>(A0.dec a).bind fun a=>(A1.dec b).bind fun b=>(A2.dec c).bind fun c=>(A3.dec d).bind fun d=>(A4.dec e).bind fun e=>(C.dec cs).bind fun u=>bif pre a b c d e u then (out a b c d e u).run K else none
 | _=>none⟩
theorem CxOK.loop5 {T0:Type} {T1:Type} {T2:Type} {T3:Type} {T4:Type} {U:Type} {ins:List Nat} {outs:Exit->List Nat} {A0:Cod T0} {A1:Cod T1} {A2:Cod T2} {A3:Cod T3} {A4:Cod T4} {C:CodB U} {pre:T0->T1->T2->T3->T4->U->Bool} {out:T0->T1->T2->T3->T4->U->Out} {cx:Cx} {l:List (Nat×Callee)} (h:CxOK cx l) {p:List Bool} (hp:cx.Λ (pathN p)=none)
  (hs:∀ a b c d e u,pre a b c d e u=true->∃ n,∀ (β:Type) (K:Exit->List CV->List (List CV)->Option β),loopB cx ins outs p (bodyL cx.root p) n [A0.enc a,A1.enc b,A2.enc c,A3.enc d,A4.enc e] (C.enc u) K=(out a b c d e u).run K):CxOK (cx.loop p (l5 ins outs A0 A1 A2 A3 A4 C pre out)) l:=by
 refine h.loop hp (fun vs cs => ?_) (fun vs cs β K r hr => ?_)
 ·unfold l5
  dsimp only
  split
  ·exact .bind _ fun _ => .bind _ fun _ => .bind _ fun _ => .bind _ fun _ => .bind _ fun _ => .bind _ fun _ => .cond _ (Out.nat _) .none
  ·exact .none
 ·unfold l5 at hr
  dsimp only at hr
  split at hr
  ·replace hr:=A0.bd hr
   obtain ⟨aa',rfl,hr⟩:=hr
   replace hr:=A1.bd hr
   obtain ⟨bb',rfl,hr⟩:=hr
   replace hr:=A2.bd hr
   obtain ⟨cc',rfl,hr⟩:=hr
   replace hr:=A3.bd hr
   obtain ⟨dd',rfl,hr⟩:=hr
   replace hr:=A4.bd hr
   obtain ⟨ee',rfl,hr⟩:=hr
   replace hr:=C.bd hr
   obtain ⟨u',rfl,hr⟩:=hr
   obtain ⟨hpre,hr⟩:=cond_some hr
   obtain ⟨n,hn⟩:=hs aa' bb' cc' dd' ee' u' hpre
   exact ⟨n,(hn β K).trans hr⟩
  ·cases hr
def l6 {T0:Type} {T1:Type} {T2:Type} {T3:Type} {T4:Type} {T5:Type} {U:Type} (ins:List Nat) (outs:Exit->List Nat) (A0:Cod T0) (A1:Cod T1) (A2:Cod T2) (A3:Cod T3) (A4:Cod T4) (A5:Cod T5) (C:CodB U) (pre:T0->T1->T2->T3->T4->T5->U->Bool) (out:T0->T1->T2->T3->T4->T5->U->Out):LoopSem:=⟨ins,outs,fun vs cs _ K=>match vs with
 | [a,b,c,d,e,f]=>(A0.dec a).bind fun a=>(A1.dec b).bind fun b=>(A2.dec c).bind fun c=>(A3.dec d).bind fun d=>(A4.dec e).bind fun e=>(A5.dec f).bind fun f=>(C.dec cs).bind fun u=>bif pre a b c d e f u then (out a b c d e f u).run K else none
 | _=>none⟩
theorem CxOK.loop6 {T0:Type} {T1:Type} {T2:Type} {T3:Type} {T4:Type} {T5:Type} {U:Type} {ins:List Nat} {outs:Exit->List Nat} {A0:Cod T0} {A1:Cod T1} {A2:Cod T2} {A3:Cod T3} {A4:Cod T4} {A5:Cod T5} {C:CodB U} {pre:T0->T1->T2->T3->T4->T5->U->Bool} {out:T0->T1->T2->T3->T4->T5->U->Out} {cx:Cx} {l:List (Nat×Callee)} (h:CxOK cx l) {p:List Bool} (hp:cx.Λ (pathN p)=none)
  (hs:∀ a b c d e f u,pre a b c d e f u=true->∃ n,∀ (β:Type) (K:Exit->List CV->List (List CV)->Option β),loopB cx ins outs p (bodyL cx.root p) n [A0.enc a,A1.enc b,A2.enc c,A3.enc d,A4.enc e,A5.enc f] (C.enc u) K=(out a b c d e f u).run K):CxOK (cx.loop p (l6 ins outs A0 A1 A2 A3 A4 A5 C pre out)) l:=by
 refine h.loop hp (fun vs cs => ?_) (fun vs cs β K r hr => ?_)
 ·unfold l6
  dsimp only
  split
  ·exact .bind _ fun _ => .bind _ fun _ => .bind _ fun _ => .bind _ fun _ => .bind _ fun _ => .bind _ fun _ => .bind _ fun _ => .cond _ (Out.nat _) .none
  ·exact .none
 ·unfold l6 at hr
  dsimp only at hr
  split at hr
  ·replace hr:=A0.bd hr
   obtain ⟨aa',rfl,hr⟩:=hr
   replace hr:=A1.bd hr
   obtain ⟨bb',rfl,hr⟩:=hr
   replace hr:=A2.bd hr
   obtain ⟨cc',rfl,hr⟩:=hr
   replace hr:=A3.bd hr
   obtain ⟨dd',rfl,hr⟩:=hr
   replace hr:=A4.bd hr
   obtain ⟨ee',rfl,hr⟩:=hr
   replace hr:=A5.bd hr
   obtain ⟨ff',rfl,hr⟩:=hr
   replace hr:=C.bd hr
   obtain ⟨u',rfl,hr⟩:=hr
   obtain ⟨hpre,hr⟩:=cond_some hr
   obtain ⟨n,hn⟩:=hs aa' bb' cc' dd' ee' ff' u' hpre
   exact ⟨n,(hn β K).trans hr⟩
  ·cases hr
def l7 {T0:Type} {T1:Type} {T2:Type} {T3:Type} {T4:Type} {T5:Type} {T6:Type} {U:Type} (ins:List Nat) (outs:Exit->List Nat) (A0:Cod T0) (A1:Cod T1) (A2:Cod T2) (A3:Cod T3) (A4:Cod T4) (A5:Cod T5) (A6:Cod T6) (C:CodB U) (pre:T0->T1->T2->T3->T4->T5->T6->U->Bool) (out:T0->T1->T2->T3->T4->T5->T6->U->Out):LoopSem:=⟨ins,outs,fun vs cs _ K=>match vs with
 | [a,b,c,d,e,f,g]=>(A0.dec a).bind fun a=>(A1.dec b).bind fun b=>(A2.dec c).bind fun c=>(A3.dec d).bind fun d=>(A4.dec e).bind fun e=>(A5.dec f).bind fun f=>(A6.dec g).bind fun g=>(C.dec cs).bind fun u=>bif pre a b c d e f g u then (out a b c d e f g u).run K else none
 | _=>none⟩
theorem CxOK.loop7 {T0:Type} {T1:Type} {T2:Type} {T3:Type} {T4:Type} {T5:Type} {T6:Type} {U:Type} {ins:List Nat} {outs:Exit->List Nat} {A0:Cod T0} {A1:Cod T1} {A2:Cod T2} {A3:Cod T3} {A4:Cod T4} {A5:Cod T5} {A6:Cod T6} {C:CodB U} {pre:T0->T1->T2->T3->T4->T5->T6->U->Bool} {out:T0->T1->T2->T3->T4->T5->T6->U->Out} {cx:Cx} {l:List (Nat×Callee)} (h:CxOK cx l) {p:List Bool} (hp:cx.Λ (pathN p)=none)
  (hs:∀ a b c d e f g u,pre a b c d e f g u=true->∃ n,∀ (β:Type) (K:Exit->List CV->List (List CV)->Option β),loopB cx ins outs p (bodyL cx.root p) n [A0.enc a,A1.enc b,A2.enc c,A3.enc d,A4.enc e,A5.enc f,A6.enc g] (C.enc u) K=(out a b c d e f g u).run K):CxOK (cx.loop p (l7 ins outs A0 A1 A2 A3 A4 A5 A6 C pre out)) l:=by
 refine h.loop hp (fun vs cs => ?_) (fun vs cs β K r hr => ?_)
 ·unfold l7
  dsimp only
  split
  ·exact .bind _ fun _ => .bind _ fun _ => .bind _ fun _ => .bind _ fun _ => .bind _ fun _ => .bind _ fun _ => .bind _ fun _ => .bind _ fun _ => .cond _ (Out.nat _) .none
  ·exact .none
 ·unfold l7 at hr
  dsimp only at hr
  split at hr
  ·replace hr:=A0.bd hr
   obtain ⟨aa',rfl,hr⟩:=hr
   replace hr:=A1.bd hr
   obtain ⟨bb',rfl,hr⟩:=hr
   replace hr:=A2.bd hr
   obtain ⟨cc',rfl,hr⟩:=hr
   replace hr:=A3.bd hr
   obtain ⟨dd',rfl,hr⟩:=hr
   replace hr:=A4.bd hr
   obtain ⟨ee',rfl,hr⟩:=hr
   replace hr:=A5.bd hr
   obtain ⟨ff',rfl,hr⟩:=hr
   replace hr:=A6.bd hr
   obtain ⟨gg',rfl,hr⟩:=hr
   replace hr:=C.bd hr
   obtain ⟨u',rfl,hr⟩:=hr
   obtain ⟨hpre,hr⟩:=cond_some hr
   obtain ⟨n,hn⟩:=hs aa' bb' cc' dd' ee' ff' gg' u' hpre
   exact ⟨n,(hn β K).trans hr⟩
  ·cases hr
end Go.Ab

namespace Go.Ab
open Go
set_option maxRecDepth 100000
def softL (f:CV->Option CV):List CV->Option (List CV)
 | []=>some []
 | c::r=>(f c).bind fun c=>(softL f r).bind fun r=>some (c::r)
def soft:Nat->CV->Option CV
 | 0,_=>none
 | n+1,c=>match c with
  | .own sz l=>some (.sl sz l)
  | .agg cs=>(softL (soft n) cs).bind fun cs=>some (.agg cs)
  | .tup cs=>(softL (soft n) cs).bind fun cs=>some (.tup cs)
  | .box _=>none
  | .fn _ _ _=>none
  | .mpo ks=>some (.mp ks)
  | c=>some c
theorem softL_len {f:CV->Option CV}:∀ {cs ys:List CV},softL f cs=some ys->ys.length=cs.length
 | [],ys,h=>by cases h;rfl
 | c::r,ys,h=>by
  simp only [softL] at h
  replace h:=bind_some' h
  obtain ⟨y,_,h⟩:=h
  replace h:=bind_some' h
  obtain ⟨zs,hz,h⟩:=h
  cases h
  simp [softL_len hz]
theorem softL_get {f:CV->Option CV}:∀ {cs ys:List CV},softL f cs=some ys->∀ (j:Nat) (y:CV),ys[j]? = some y->∃ x,cs[j]? = some x/\f x=some y
 | [],ys,h,j,y,hy=>by cases h;simp at hy
 | c::r,ys,h,j,y,hy=>by
  simp only [softL] at h
  replace h:=bind_some' h
  obtain ⟨y0,h0,h⟩:=h
  replace h:=bind_some' h
  obtain ⟨zs,hz,h⟩:=h
  cases h
  cases j with
  | zero=>simp at hy;subst hy;exact ⟨c,rfl,h0⟩
  | succ j=>
   obtain ⟨x,hx,hf⟩:=softL_get hz j y (by simpa using hy)
   exact ⟨x,by simpa using hx,hf⟩
theorem CR.soft {w:World} {M:Nat->Prop} {x:CV} {v:Value} (h:CR w M x v):∀ (n:Nat) (y:CV),Ab.soft n x=some y->CR w M y v:=by
 induction h with
 | int k n=>intro m y hy;cases m <;> cases hy;exact .int k n
 | bool b=>intro m y hy;cases m <;> cases hy;exact .bool b
 | sl0 sz a cap=>intro m y hy;cases m <;> cases hy;exact .sl0 sz a cap
 | sl sz l b o cap u h0 hl hc hM hb hcell hp hr ih=>intro m y hy;cases m <;> cases hy;exact .sl sz l b o cap u h0 hl hc hM hb hcell hp hr
 | pc cs off b o u hM hb hcell hp hr ih=>intro m y hy;cases m <;> cases hy;exact .pc cs off b o u hM hb hcell hp hr
 | agg cs a hs hp hr ih=>
  intro m y hy
  cases m with
  | zero=>cases hy
  | succ m=>
   simp only [Ab.soft] at hy
   replace hy:=bind_some' hy
   obtain ⟨ys,h1,hy⟩:=hy
   cases hy
   refine .agg ys a (by rw [softL_len h1];exact hs) (fun j y hy => ?_) fun j y hy => ?_
   ·obtain ⟨x,hx,_⟩:=softL_get h1 j y hy
    exact hp j x hx
   ·obtain ⟨x,hx,hf⟩:=softL_get h1 j y hy
    exact ih j x hx m y hf
 | tup cs a hs hr ih=>
  intro m y hy
  cases m with
  | zero=>cases hy
  | succ m=>
   simp only [Ab.soft] at hy
   replace hy:=bind_some' hy
   obtain ⟨ys,h1,hy⟩:=hy
   cases hy
   refine .tup ys a (by rw [softL_len h1];exact hs) fun j y hy => ?_
   obtain ⟨x,hx,hf⟩:=softL_get h1 j y hy
   exact ih j x hx m y hf
 | fn f c1 c2 a1 a2 hs1 hs2 hr1 hr2 ih1 ih2=>intro m y hy;cases m <;> cases hy
 | yld l=>intro m y hy;cases m <;> cases hy;exact .yld l
 | top v hp=>intro m y hy;cases m <;> cases hy;exact .top v hp
 | mp ks b es clk hM hb hh hk=>intro m y hy;cases m <;> cases hy;exact .mp ks b es clk hM hb hh hk
theorem OR.soft {w:World} {M M':Nat->Prop} (hM:∀ b,M' b->M b) {x:CV} {v:Value} {B:List Nat} (h:OR w M x v B):(∀ b∈B,¬ M' b)->∀ (n:Nat) (y:CV),Ab.soft n x=some y->CR w M' y v:=by
 have hcr:∀ x v,CR w M x v->CR w M' x v:=fun x v hx=>hx.mono (Nat.le_refl _) (fun _ _ _=>rfl) (fun b _=>hM b)
 induction h with
 | c x v hx=>exact fun _ n y hy=>(hcr _ _ hx).soft n y hy
 | ownN sz h0=>intro _ n y hy;cases n <;> cases hy;exact .sl0 sz none 0
 | own sz l b cap cur ty h0 h1 h2 h4 h5 h6 h7=>
  intro hB n y hy
  cases n <;> cases hy
  have key:∀ i j x,at2 l i j=some x->∃ u,cur[i*sz+j]? = some u/\plain u/\CR w M x u:=h7
  refine .sl sz l b 0 cap (fun i j=>cur.getD (i*sz+j) undef) h0 h1 h5 (hB b (by simp)) (block_lt h4) (fun i j x hx => ?_) (fun i j x hx => ?_) fun i j x hx => ?_
  ·obtain ⟨u,hu,_,_⟩:=key i j x hx
   rw [cell_of_heap h4,Nat.zero_add,hu,Array.getD_eq_getD_getElem?,hu];rfl
  ·obtain ⟨u,hu,hp,_⟩:=key i j x hx
   rw [Array.getD_eq_getD_getElem?,hu];exact hp
  ·obtain ⟨u,hu,_,hc⟩:=key i j x hx
   rw [Array.getD_eq_getD_getElem?,hu];exact hcr _ _ hc
 | box cs b cur ty Bs h1 h2 hp hr ih=>intro _ n y hy;cases n <;> cases hy
 | mpo ks b es clk hh hk=>intro hB n y hy;cases n <;> cases hy;exact .mp ks b es clk (hB b (by simp)) (block_lt hh) hh hk
 | agg cs a Bs hs hp hr ih=>
  intro hB n y hy
  cases n with
  | zero=>cases hy
  | succ n=>
   simp only [Ab.soft] at hy
   replace hy:=bind_some' hy
   obtain ⟨ys,h1,hy⟩:=hy
   cases hy
   refine .agg ys a (by rw [softL_len h1];exact hs) (fun j y hy => ?_) fun j y hy => ?_
   ·obtain ⟨x,hx,_⟩:=softL_get h1 j y hy
    exact hp j x hx
   ·obtain ⟨x,hx,hf⟩:=softL_get h1 j y hy
    exact ih j x hx (fun b hb=>hB b (mem_cat.2 ⟨j,(List.getElem?_eq_some_iff.1 hx).1,hb⟩)) n y hf
 | tup cs a Bs hs hr ih=>
  intro hB n y hy
  cases n with
  | zero=>cases hy
  | succ n=>
   simp only [Ab.soft] at hy
   replace hy:=bind_some' hy
   obtain ⟨ys,h1,hy⟩:=hy
   cases hy
   refine .tup ys a (by rw [softL_len h1];exact hs) fun j y hy => ?_
   obtain ⟨x,hx,hf⟩:=softL_get h1 j y hy
   exact ih j x hx (fun b hb=>hB b (mem_cat.2 ⟨j,(List.getElem?_eq_some_iff.1 hx).1,hb⟩)) n y hf
def softC (n:Nat) (g:Callee):Callee:=⟨fun args conts β K=>g.run args conts β fun rv co=>(soft n rv).bind fun rv'=>K rv' co⟩
theorem SoundC.soft {P:Program} {f:FuncId} {g:Callee} (h:SoundC P f g) (n:Nat):SoundC P f (softC n g):=by
 refine ⟨h.enter,fun args conts β K r hK => ?_⟩
 obtain ⟨rv,co,hK,hc⟩:=h.calls args conts β _ r hK
 replace hK:=bind_some' hK
 obtain ⟨rv',hs,hK⟩:=hK
 refine ⟨rv',co,hK,fun w M vs bs B m=>(hc w M vs bs B m).mono fun e w' he => ?_⟩
 obtain ⟨v,Br,B2,rfl,o⟩:=he
 have hM:∀ b,MM M B ([]++B2) b->MM M B (Br++B2) b:=fun b hb=>hb.imp id fun hb=>List.mem_append_right _ hb
 refine ⟨v,[],B2,rfl,⟨o.io,o.size,o.keep,fun b hb=>o.new b (List.mem_append_right _ hb),(List.nodup_append.1 o.nd).2.1,.c _ _ (OR.soft hM o.ret (fun b hb hm => ?_) n rv' hs),o.cont.mono hM⟩⟩
 rcases hm with ⟨h1,h2⟩ | h1
 ·rcases o.new b (List.mem_append_left _ hb) with h3 | h3
  ·exact h2 h3
  ·have:=m.lt b h1;omega
 ·exact (List.nodup_append.1 o.nd).2.2 b hb b h1 rfl
theorem soft_run {n:Nat} {cx:Cx} {fn:Func} {args:List CV} {conts:List (List CV)} {rv out:CV} (hs:soft n rv=some out) (h:∀ (β:Type) (K:CV->List (List CV)->Option β),fnK cx fn args conts K=K rv []) (β:Type) (K:CV->List (List CV)->Option β):
  (softC n (fnC cx fn)).run args conts β K=K out []:=by
 show fnK cx fn args conts _=_
 rw [h,hs];rfl
theorem good1S {α:Type} {A:Cod α} {pre:α->Bool} {out:α->CV} {P:Program} {f:FuncId} {cx:Cx} {fn:Func} (hs:SoundC P f (fnC cx fn))
  (h:∀ a,pre a=true->∃ rv,soft 4 rv=some (out a)/\∀ (β:Type) (K:CV->List (List CV)->Option β),fnK cx fn [A.enc a] [] K=K rv []):GoodC P f (g1 A pre out):=by
 refine ⟨SoundC.of (hs.soft 4) fun args conts β K r hr => ?_,g1_nat _⟩
 unfold g1 at hr
 dsimp only at hr
 split at hr
 ·replace hr:=bind_some' hr
  obtain ⟨a',ha,hr⟩:=hr
  replace hr:=cond_some hr
  obtain ⟨hp,hr⟩:=hr
  have ea:=A.ok _ _ ha
  subst ea
  obtain ⟨rv,h1,h2⟩:=h a' hp
  rw [soft_run h1 h2];exact hr
 ·cases hr
theorem good2S {α:Type} {β:Type} {A:Cod α} {B:Cod β} {pre:α->β->Bool} {out:α->β->CV} {P:Program} {f:FuncId} {cx:Cx} {fn:Func} (hs:SoundC P f (fnC cx fn))
  (h:∀ a b,pre a b=true->∃ rv,soft 4 rv=some (out a b)/\∀ (β:Type) (K:CV->List (List CV)->Option β),fnK cx fn [A.enc a,B.enc b] [] K=K rv []):GoodC P f (g2 A B pre out):=by
 refine ⟨SoundC.of (hs.soft 4) fun args conts β K r hr => ?_,g2_nat _ _⟩
 unfold g2 at hr
 dsimp only at hr
 split at hr
 ·replace hr:=bind_some' hr
  obtain ⟨a',ha,hr⟩:=hr
  replace hr:=bind_some' hr
  obtain ⟨b',hb,hr⟩:=hr
  replace hr:=cond_some hr
  obtain ⟨hp,hr⟩:=hr
  have ea:=A.ok _ _ ha
  subst ea
  have eb:=B.ok _ _ hb
  subst eb
  obtain ⟨rv,h1,h2⟩:=h a' b' hp
  rw [soft_run h1 h2];exact hr
 ·cases hr
end Go.Ab
