/- copy,len,min,max;the built-in functions as operations.
Built-in functions as operations.
Calls: what goes in and out.
Maps of numbers to truths: made,stored into,looked up.
What comes to something comes to one thing,whatever is done with it.
Calls.
Regions in text order.
Temporaries and boxes that go out,and come in.
Loops.
Loops over iterators: their rounds,and they themselves.
Code,and functions.
Regions that draw their order: any order ends where the text's order ends.
Regions that draw their order: the schedules. -/
import Derived.Test.YtabpohoppmmbbaaGreatDoorTa
import Derived.Lib.AppendZeros
import Derived.MapKept
import Derived.LoopN
namespace Go.Ab
open Go
set_option maxRecDepth 100000
section
variable {β:Type} {cx:Cx} {o:Oper} {st:St} {h:H} {r:β} {K:SV->H->Option β}
theorem at2_splice {l x:List (List CV)} {lo:Nat} (h:lo+x.length<=l.length) {k j:Nat} {y:CV} (hy:at2 (splice l lo x) k j=some y):
  (lo<=k/\k<lo+x.length/\at2 x (k - lo) j=some y)\/(¬ (lo<=k/\k<lo+x.length)/\at2 l k j=some y):=by
 unfold at2 at*
 rw [splice_get h] at hy
 split at hy
 ·rename_i hk;exact .inl ⟨hk.1,hk.2,hy⟩
 ·rename_i hk;exact .inr ⟨hk,hy⟩
theorem splice_mem {α:Type} {l x:List α} {lo:Nat} (h:lo+x.length<=l.length) {y:α} (hy:y∈splice l lo x):y∈l\/y∈x:=by
 obtain ⟨j,hj⟩:=List.mem_iff_getElem?.1 hy
 rw [splice_get h] at hj
 split at hj
 ·exact .inr (List.mem_of_getElem? hj)
 ·exact .inl (List.mem_of_getElem? hj)
theorem run_copy_zero {P:Program} (w:World) (t ty e:TypeId) (i:TypeInfo) (ht:P.underlying t=some (.slice e)) (hi:P.info? e=some i) (base ad:Option Addr) (dLen dCap sLen sCap:Nat) (hm:Nat.min sLen dLen=0):
  (Builtin.copy_ #[t,t] ty #[.slice base dLen dCap,.slice ad sLen sCap]).run P w = .ok (goInt 0) w:=by
 have hl:∀ (x:Addr),(loadCells x 0).run P w = .ok #[] w:=fun x=>by simpa using run_loadCells_list (P:=P) w x [] (by simp)
 cases ad <;> cases base <;> simp [Builtin.copy_,run_underlying ht,sizeOf,typeInfo,hi,Builtin.lenOf,hm,Builtin.firstCells,hl,storeCells]
theorem run_copy_some {P:Program} (w:World) (t ty e te:TypeId) (i:TypeInfo) (ht:P.underlying t=some (.slice e)) (hi:P.info? e=some i)
  (b o dLen dCap:Nat) (cur:Array Value) (hg:w.heap[b]? = some (.cells cur te (0,0))) (a:Addr) (sLen sCap m:Nat) (hm:Nat.min sLen dLen=m) (news:List Value) (hl:news.length=m*i.size)
  (hnews:∀ (j:Nat) (u:Value),news[j]? = some u->w.cell? (a.add j)=some u) (h1:∀ u∈news,u.oneCell'=true) (hfit:o+news.length<=cur.size):
  (Builtin.copy_ #[t,t] ty #[.slice (some ⟨b,o,none⟩) dLen dCap,.slice (some a) sLen sCap]).run P w=
   .ok (goInt m) (w.setRow b (cur.toList.take o++news++cur.toList.drop (o+news.length)).toArray):=by
 have hf:=run_firstCells_some (P:=P) w i.size m a sLen sCap news hl hnews
 have hst:=run_storeCells_at P b o te news 0 cur w hg (by simpa using hfit) h1
 simp only [Nat.add_zero] at hst
 simp [Builtin.copy_,run_underlying ht,sizeOf,typeInfo,hi,Builtin.lenOf,hm,hf,hst]
theorem copyAcc {ρ:Env} {X:Nat->Prop} {w:World} (hr:HR ρ X h w) {t e ty:TypeId} {ie:TypeInfo} (ht:cx.P.underlying t=some (.slice e)) (hie:cx.P.info? e=some ie)
  {i ver lo n:Nat} {l src:List (List CV)} (hg:getH h i = .acc ver false ie.size l) (hn:lo+n<=l.length) {base:Option Addr} {cap dcap:Nat} (hcur:ρ.cur i = .slice base l.length cap)
  {d:Option Addr} (hd:0<n->d=base.map (·.add (lo*ie.size))) {x:Value} (hx:ElsR ρ X h w ie.size src x):
  ∃ w',(Builtin.copy_ #[t,t] ty #[.slice d n dcap,x]).run cx.P w = .ok (goInt (min src.length n:Nat)) w'/\
   Post ρ X h w (.c (.int .i64 (min src.length n:Nat))) (setH h i (.acc ver false ie.size (splice l lo (src.take (min src.length n))))) (goInt (min src.length n:Nat)) w':=by
 have hi:i<h.length:=getH_lt (by rw [hg];simp)
 have htl:(src.take (min src.length n)).length=min src.length n:=by simp
 have hle:lo+(src.take (min src.length n)).length<=l.length:=by rw [htl];omega
 have hbx:=hr.box i
 rw [hg] at hbx
 obtain ⟨h0,h1,h2,h3⟩:=hbx
 obtain ⟨ad,xc,rfl,hxs,hxc⟩:=hx
 have hmem:∀ e∈splice l lo (src.take (min src.length n)),e.length=ie.size:=fun e he=>by
  rcases splice_mem hle he with he | he
  ·exact h1 e he
  ·exact hxs e (List.mem_of_mem_take he)
 have hlen:(splice l lo (src.take (min src.length n))).length=l.length:=splice_length hle
 have fin:∀ (w':World),SameIO w w'->w.heap.size<=w'.heap.size->(∀ b,b<w.heap.size->bOf ρ i (getH h i)≠some b->w'.heap[b]? = w.heap[b]?)->
   ((ρ.cur i = .slice none 0 0/\splice l lo (src.take (min src.length n))=[])\/∃ b cap cur ty,ρ.cur i = .slice (some ⟨b,0,none⟩) l.length cap/\w'.heap[b]? = some (.cells cur ty (0,0))/\l.length<=cap/\cap*ie.size<=cur.size/\
     ∀ k j x,at2 (splice l lo (src.take (min src.length n))) k j=some x->∃ u,cur[k*ie.size+j]? = some u/\plain u/\CR w (Mut ρ X h) x u)->
   Post ρ X h w (.c (.int .i64 (min src.length n:Nat))) (setH h i (.acc ver false ie.size (splice l lo (src.take (min src.length n))))) (goInt (min src.length n:Nat)) w':=fun w' hio hs hk hrow=>by
  obtain ⟨q1,q2⟩:=hr.upd (by rw [hg];rfl) (.acc ver false ie.size (splice l lo (src.take (min src.length n)))) (ρ.cur i) hs hk (fun b hb => .inl (by rw [hg];simpa [bOf] using hb))
   (HExt.updAcc hg _ (.inr ⟨rfl,rfl,hlen.symm,rfl⟩)) (fun e=>by
    refine ⟨h0,hmem,by rw [hlen];exact h2,?_⟩
    rcases hrow with ⟨q1,q2⟩ | ⟨b,cap',cur,ty',q1,q2,q3,q4,q5⟩
    ·exact .inl ⟨by simpa using q1,q2⟩
    ·refine .inr ⟨b,cap',cur,ty',by rw [hlen];simpa using q1,q2,by rw [hlen];exact q3,q4,fun k j x hx => ?_⟩
     obtain ⟨u,hu,hp,hcr⟩:=q5 k j x hx
     exact ⟨u,hu,hp,e.cr hcr⟩) hio
  exact ⟨_,q1,.c _ _ (.int _ _),q2⟩
 by_cases hm:min src.length n=0
 ·refine ⟨w,?_,fin w ⟨rfl,rfl⟩ (Nat.le_refl _) (fun _ _ _=>rfl) ?_⟩
  ·rw [hm]
   exact run_copy_zero w t ty e ie ht hie d ad n dcap src.length xc hm
  ·have e0:splice l lo (src.take (min src.length n))=l:=by rw [hm];simp [splice]
   rw [e0]
   rcases h3 with h3 | ⟨b,cap',cur,ty',h3,h4,h5,h6,h7⟩
   ·exact .inl h3
   ·exact .inr ⟨b,cap',cur,ty',h3,h4,h5,h6,h7⟩
 ·have hne:src≠[]:=fun e=>hm (by simp [e])
  rcases hxc with hxc | ⟨xb,xo,rfl,hxc⟩
  ·exact absurd hxc hne
  have hxc':∀ k j x,at2 (src.take (min src.length n)) k j=some x->∃ u,w.cell? ⟨xb,xo+(k*ie.size+j),none⟩=some u/\plain u/\CR w (Mut ρ X h) x u:=fun k j x hx=>hxc k j x (at2_take hx).2
  have hxs':∀ e∈src.take (min src.length n),e.length=ie.size:=fun e he=>hxs e (List.mem_of_mem_take he)
  obtain ⟨news,hnl,hnc,hnr⟩:=newCellsOf hxs' hxc'
  rw [htl] at hnl
  rcases h3 with ⟨_,rfl⟩ | ⟨b,cap',cur,ty',h3,h4,h5,h6,h7⟩
  ·simp at hn;omega
  rw [hcur] at h3
  injection h3 with ha _ hc
  subst ha hc
  have hd:=hd (by omega)
  simp only [Option.map_some,add_lit,Nat.zero_add] at hd
  subst hd
  have hfit:lo*ie.size+news.length<=cur.size:=by
   rw [hnl,<- Nat.add_mul]
   exact Nat.le_trans (Nat.mul_le_mul_right _ (by omega)) h6
  have hrun:=run_copy_some w t ty e ty' ie ht hie b (lo*ie.size) n dcap cur h4 ⟨xb,xo,none⟩ src.length xc (min src.length n) rfl news hnl (fun j u hu=>(hnc j u hu).1) (fun u hu=>by
   obtain ⟨j,hj⟩:=List.mem_iff_getElem?.1 hu
   exact (hnc j u hj).2) hfit
  obtain ⟨row,hrow⟩:∃ row,row=(cur.toList.take (lo*ie.size)++news++cur.toList.drop (lo*ie.size+news.length)).toArray:=⟨_,rfl⟩
  have hget:∀ j,row[j]? = if lo*ie.size<=j/\j<lo*ie.size+news.length then news[j - lo*ie.size]? else cur[j]? := fun j=>by rw [hrow,arr_splice hfit]
  have hsz:row.size=cur.size:=by rw [hrow];simp;omega
  rw [<- hrow] at hrun
  refine ⟨_,hrun,fin _ ⟨rfl,rfl⟩ (by simp) (fun b' hb' hne=>setRow_other w _ b' _ fun e=>hne (by rw [hg,e];simp [bOf,hcur])) (.inr ⟨b,cap,row,ty',hcur,setRow_heap w _ cur _ ty' _ h4,h5,by rw [hsz];exact h6,fun k j x hx => ?_⟩)⟩
  rcases at2_splice hle hx with ⟨hk1,hk2,hx⟩ | ⟨hk,hx⟩
  ·rw [htl] at hk2
   obtain ⟨u,hu,hp,hcr⟩:=hnr _ j x hx
   have e1:k*ie.size+j=lo*ie.size+((k - lo)*ie.size+j):=by
    have:k*ie.size=lo*ie.size+(k - lo)*ie.size:=by rw [<- Nat.add_mul];congr 1;omega
    omega
   have e2:=(List.getElem?_eq_some_iff.1 hu).1
   rw [hget,if_pos (by omega),e1,Nat.add_sub_cancel_left]
   exact ⟨u,hu,hp,hcr⟩
  ·rw [htl] at hk
   obtain ⟨hkl,hj⟩:=at2_lt h1 hx
   rw [hget,if_neg]
   ·exact h7 k j x hx
   ·rintro ⟨g1,g2⟩
    rw [hnl,<- Nat.add_mul] at g2
    have hlo:lo<=k:=by
     by_cases hq:k<lo
     ·have:(k+1)*ie.size<=lo*ie.size:=Nat.mul_le_mul_right _ hq
      rw [Nat.add_mul] at this
      omega
     ·omega
    have hhi:k<lo+min src.length n:=by
     by_cases hq:lo+min src.length n<=k
     ·have:(lo+min src.length n)*ie.size<=k*ie.size:=Nat.mul_le_mul_right _ hq
      omega
     ·omega
    exact hk ⟨hlo,hhi⟩
theorem run_clear_some {P:Program} (w:World) (t ty e te:TypeId) (i:TypeInfo) (zv:Value) (ht:P.underlying t=some (.slice e)) (hi:P.info? e=some i) (hz:i.zero=some zv)
  (b o n cap:Nat) (cur:Array Value) (hg:w.heap[b]? = some (.cells cur te (0,0))) (hn:n≠0) (news:List Value) (hnews:(Builtin.zeroCells zv.cells n).toList=news) (h1:∀ u∈news,u.oneCell'=true) (hfit:o+news.length<=cur.size):
  (Builtin.clear_ #[t] ty #[.slice (some ⟨b,o,none⟩) n cap]).run P w=
   .ok (.tuple #[]) (w.setRow b (cur.toList.take o++news++cur.toList.drop (o+news.length)).toArray):=by
 have hst:=run_storeCells_at P b o te news 0 cur w hg (by simpa using hfit) h1
 simp only [Nat.add_zero] at hst
 obtain ⟨m,rfl⟩:∃ m,n=m+1:=⟨n - 1,by omega⟩
 simp [Builtin.clear_,run_underlying ht,zeroValue,typeInfo,hi,hz,hnews,hst]
theorem run_clear_zero {P:Program} (w:World) (t ty e:TypeId) (ht:P.underlying t=some (.slice e)) (base:Option Addr) (cap:Nat):
  (Builtin.clear_ #[t] ty #[.slice base 0 cap]).run P w = .ok (.tuple #[]) w:=by
 cases base <;> simp [Builtin.clear_,run_underlying ht]
theorem zeros_at {z:Array Value} {n k j sz:Nat} (hz:z.size=sz) (hk:k<n) (hj:j<sz):(Builtin.zeroCells z n).toList[k*sz+j]? = some (z.getD j undef):=by
 have hkm:k*sz+j<n*sz:=by
  have:(k+1)*sz<=n*sz:=Nat.mul_le_mul_right _ (by omega)
  rw [Nat.add_mul] at this
  omega
 have hmod:(k*sz+j) % sz=j:=by
  rw [Nat.mul_comm,Nat.mul_add_mod]
  exact Nat.mod_eq_of_lt hj
 have hjz:j<z.size:=by omega
 have hbang:z[j]! = z[j]:=by simp [hjz]
 have hgd:z.getD j undef=z[j]:=by simp [hjz]
 rw [hgd,<- hbang]
 simp [Builtin.zeroCells,hz,hkm,hmod]
theorem clearAcc {ρ:Env} {X:Nat->Prop} {w:World} (hr:HR ρ X h w) {t e ty:TypeId} {ie:TypeInfo} {zv:Value} (ht:cx.P.underlying t=some (.slice e)) (hie:cx.P.info? e=some ie) (hzv:ie.zero=some zv) (hzs:zv.cells.size=ie.size)
  {i ver lo n:Nat} {l:List (List CV)} (hg:getH h i = .acc ver false ie.size l) (hn:lo+n<=l.length) {base:Option Addr} {cap dcap:Nat} (hcur:ρ.cur i = .slice base l.length cap)
  {d:Option Addr} (hd:0<n->d=base.map (·.add (lo*ie.size))) {zc:List CV} (hzl:zc.length=ie.size) (hzc:∀ (j:Nat) (x:CV),zc[j]? = some x->plain (zv.cells.getD j undef)/\CR w (Mut ρ X h) x (zv.cells.getD j undef)):
  ∃ w',(Builtin.clear_ #[t] ty #[.slice d n dcap]).run cx.P w = .ok (.tuple #[]) w'/\
   Post ρ X h w (.c (.tup [])) (setH h i (.acc ver false ie.size (splice l lo (List.replicate n zc)))) (.tuple #[]) w':=by
 have hi:i<h.length:=getH_lt (by rw [hg];simp)
 have htl:(List.replicate n zc).length=n:=by simp
 have hle:lo+(List.replicate n zc).length<=l.length:=by rw [htl];omega
 have hbx:=hr.box i
 rw [hg] at hbx
 obtain ⟨h0,h1,h2,h3⟩:=hbx
 have hmem:∀ e∈splice l lo (List.replicate n zc),e.length=ie.size:=fun e he=>by
  rcases splice_mem hle he with he | he
  ·exact h1 e he
  ·rw [List.eq_of_mem_replicate he];exact hzl
 have hlen:(splice l lo (List.replicate n zc)).length=l.length:=splice_length hle
 have fin:∀ (w':World),SameIO w w'->w.heap.size<=w'.heap.size->(∀ b,b<w.heap.size->bOf ρ i (getH h i)≠some b->w'.heap[b]? = w.heap[b]?)->
   ((ρ.cur i = .slice none 0 0/\splice l lo (List.replicate n zc)=[])\/∃ b cap cur ty,ρ.cur i = .slice (some ⟨b,0,none⟩) l.length cap/\w'.heap[b]? = some (.cells cur ty (0,0))/\l.length<=cap/\cap*ie.size<=cur.size/\
     ∀ k j x,at2 (splice l lo (List.replicate n zc)) k j=some x->∃ u,cur[k*ie.size+j]? = some u/\plain u/\CR w (Mut ρ X h) x u)->
   Post ρ X h w (.c (.tup [])) (setH h i (.acc ver false ie.size (splice l lo (List.replicate n zc)))) (.tuple #[]) w':=fun w' hio hs hk hrow=>by
  obtain ⟨q1,q2⟩:=hr.upd (by rw [hg];rfl) (.acc ver false ie.size (splice l lo (List.replicate n zc))) (ρ.cur i) hs hk (fun b hb => .inl (by rw [hg];simpa [bOf] using hb))
   (HExt.updAcc hg _ (.inr ⟨rfl,rfl,hlen.symm,rfl⟩)) (fun e=>by
    refine ⟨h0,hmem,by rw [hlen];exact h2,?_⟩
    rcases hrow with ⟨q1,q2⟩ | ⟨b,cap',cur,ty',q1,q2,q3,q4,q5⟩
    ·exact .inl ⟨by simpa using q1,q2⟩
    ·refine .inr ⟨b,cap',cur,ty',by rw [hlen];simpa using q1,q2,by rw [hlen];exact q3,q4,fun k j x hx => ?_⟩
     obtain ⟨u,hu,hp,hcr⟩:=q5 k j x hx
     exact ⟨u,hu,hp,e.cr hcr⟩) hio
  exact ⟨_,q1,.c _ _ (.tup [] #[] rfl fun j x hx=>by simp at hx),q2⟩
 by_cases hm:n=0
 ·subst hm
  refine ⟨w,run_clear_zero w t ty e ht d dcap,fin w ⟨rfl,rfl⟩ (Nat.le_refl _) (fun _ _ _=>rfl) ?_⟩
  have e0:splice l lo (List.replicate 0 zc)=l:=by simp [splice]
  rw [e0]
  rcases h3 with h3 | ⟨b,cap',cur,ty',h3,h4,h5,h6,h7⟩
  ·exact .inl h3
  ·exact .inr ⟨b,cap',cur,ty',h3,h4,h5,h6,h7⟩
 ·rcases h3 with ⟨_,rfl⟩ | ⟨b,cap',cur,ty',h3,h4,h5,h6,h7⟩
  ·simp at hn;omega
  rw [hcur] at h3
  injection h3 with ha _ hc
  subst ha hc
  have hd:=hd (by omega)
  simp only [Option.map_some,add_lit,Nat.zero_add] at hd
  subst hd
  obtain ⟨news,hnews⟩:∃ news,(Builtin.zeroCells zv.cells n).toList=news:=⟨_,rfl⟩
  have hnl:news.length=n*ie.size:=by rw [<- hnews];simp [Builtin.zeroCells,hzs]
  have hfit:lo*ie.size+news.length<=cur.size:=by
   rw [hnl,<- Nat.add_mul]
   exact Nat.le_trans (Nat.mul_le_mul_right _ (by omega)) h6
  have hat:∀ k j,k<n->j<ie.size->news[k*ie.size+j]? = some (zv.cells.getD j undef):=fun k j hk hj=>by rw [<- hnews];exact zeros_at hzs hk hj
  have hrun:=run_clear_some w t ty e ty' ie zv ht hie hzv b (lo*ie.size) n dcap cur h4 hm news hnews (fun u hu=>by
   obtain ⟨q,hq⟩:=List.mem_iff_getElem?.1 hu
   have hql:=(List.getElem?_eq_some_iff.1 hq).1
   rw [hnl] at hql
   have h0':0<ie.size:=h0
   have hqk:q / ie.size<n:=Nat.div_lt_of_lt_mul (by rw [Nat.mul_comm];exact hql)
   have hqj:q % ie.size<ie.size:=Nat.mod_lt _ h0'
   have:=hat _ _ hqk hqj
   rw [Nat.mul_comm,Nat.div_add_mod] at this
   rw [hq] at this
   cases this
   exact (hzc (q % ie.size) (zc[q % ie.size]'(by omega)) (by simp [hzl,hqj])).1) hfit
  obtain ⟨row,hrow⟩:∃ row,row=(cur.toList.take (lo*ie.size)++news++cur.toList.drop (lo*ie.size+news.length)).toArray:=⟨_,rfl⟩
  have hget:∀ j,row[j]? = if lo*ie.size<=j/\j<lo*ie.size+news.length then news[j - lo*ie.size]? else cur[j]? := fun j=>by rw [hrow,arr_splice hfit]
  have hsz:row.size=cur.size:=by rw [hrow];simp;omega
  rw [<- hrow] at hrun
  refine ⟨_,hrun,fin _ ⟨rfl,rfl⟩ (by simp) (fun b' hb' hne=>setRow_other w _ b' _ fun e=>hne (by rw [hg,e];simp [bOf,hcur])) (.inr ⟨b,cap,row,ty',hcur,setRow_heap w _ cur _ ty' _ h4,h5,by rw [hsz];exact h6,fun k j x hx => ?_⟩)⟩
  rcases at2_splice hle hx with ⟨hk1,hk2,hx⟩ | ⟨hk,hx⟩
  ·rw [htl] at hk2
   obtain ⟨hkn,hx⟩:=at2_replicate hx
   have hj:=(List.getElem?_eq_some_iff.1 hx).1
   rw [hzl] at hj
   obtain ⟨hp,hcr⟩:=hzc j x hx
   have e1:k*ie.size+j=lo*ie.size+((k - lo)*ie.size+j):=by
    have:k*ie.size=lo*ie.size+(k - lo)*ie.size:=by rw [<- Nat.add_mul];congr 1;omega
    omega
   have hu:=hat (k - lo) j hkn hj
   have e2:=(List.getElem?_eq_some_iff.1 hu).1
   rw [hget,if_pos (by omega),e1,Nat.add_sub_cancel_left]
   exact ⟨_,hu,hp,hcr⟩
  ·rw [htl] at hk
   obtain ⟨hkl,hj⟩:=at2_lt h1 hx
   rw [hget,if_neg]
   ·exact h7 k j x hx
   ·rintro ⟨g1,g2⟩
    rw [hnl,<- Nat.add_mul] at g2
    have hlo:lo<=k:=by
     by_cases hq:k<lo
     ·have:(k+1)*ie.size<=lo*ie.size:=Nat.mul_le_mul_right _ hq
      rw [Nat.add_mul] at this
      omega
     ·omega
    have hhi:k<lo+n:=by
     by_cases hq:lo+n<=k
     ·have:(lo+n)*ie.size<=k*ie.size:=Nat.mul_le_mul_right _ hq
      omega
     ·omega
    exact hk ⟨hlo,hhi⟩
theorem clear_sound {t:TypeId} {d:SV} (hK:clearK cx t d h K=some r):
  ∃ sv h',K sv h'=some r/\∀ ρ X w vd ty,HR ρ X h w->VR ρ h w (Mut ρ X h) d vd->
   ∃ v' w',(Builtin.clear_ #[t] ty #[vd]).run cx.P w = .ok v' w'/\Post ρ X h w sv h' v' w':=by
 unfold clearK at hK
 split at hK
 ·rename_i e hu
  replace hK:=cond_some hK
  obtain ⟨hok,hK⟩:=hK
  obtain ⟨ie,zv,hie,hse,hpos,hby,hzv,hzs⟩:=okE_info hok
  replace hK:=bind_some' hK
  obtain ⟨z,hz,hK⟩:=hK
  replace hK:=bind_some' hK
  obtain ⟨⟨zc,h1⟩,hs,hK⟩:=hK
  dsimp only at hK
  rw [<- hse] at hK
  have pre:∀ ρ X w,HR ρ X h w->zc.length=ie.size/\HR ρ X h1 w/\Ext ρ h w ρ h1 w/\∀ (j:Nat) (x:CV),zc[j]? = some x->plain (zv.cells.getD j undef)/\CR w (Mut ρ X h1) x (zv.cells.getD j undef):=fun ρ X w hr=>by
   obtain ⟨i2,z2,hi2,hz2,hcz⟩:=zero_cells (ρ:=ρ) (h:=h) (w:=w) (M:=Mut ρ X h) hz
   rw [hie] at hi2
   cases hi2
   rw [hzv] at hz2
   cases hz2
   obtain ⟨hl1,t1,c1⟩:=seqClose_sound z X h zc h1 (fun j=>zv.cells.getD j undef) hr (fun j s hs=>(hcz.2 j s hs).2) hs
   have hzl:zc.length=ie.size:=by rw [hl1,<- hcz.1,hzs]
   refine ⟨hzl,t1.hr',t1.ext',fun j x hx=>⟨?_,c1 j x hx⟩⟩
   have hj:=(List.getElem?_eq_some_iff.1 hx).1
   exact (hcz.2 j (z[j]'(by omega)) (by simp [show j<z.length from by omega])).1
  split at hK
  ·rename_i i ver
   split at hK
   ·rename_i ver0 fr0 sz0 l0 hg0
    split at hK
    ·rename_i ver' sz' l hg
     have hl0:l0=l:=by rw [hg0] at hg;injection hg
     subst hl0
     replace hK:=cond_some hK
     obtain ⟨hb,hK⟩:=hK
     simp only [Bool.and_eq_true] at hb
     have hb1:=beq_true hb.1
     have hb2:=beq_true hb.2
     subst hb1 hb2
     refine ⟨_,_,hK,fun ρ X w vd ty hr hd => ?_⟩
     obtain ⟨hzl,hr1,ex,hzc⟩:=pre ρ X w hr
     replace hd:=ex.vr hd
     cases hd with
     | acc _ _ v hpl hi hv=>
      have hval:=(hv ver false ie.size l0 hg).2 rfl
      have hbx:=hr1.box i
      rw [hg] at hbx
      obtain ⟨_,_,_,h3⟩:=hbx
      have hc:∃ base cap,ρ.cur i = .slice base l0.length cap/\∀ x,base=some x->x.spot=none:=by
       rcases h3 with ⟨h3,rfl⟩ | ⟨b,cap,_,_,h3,_⟩
       ·exact ⟨none,0,h3,fun x hx=>by cases hx⟩
       ·exact ⟨_,cap,h3,fun x hx=>by cases hx;rfl⟩
      obtain ⟨base,cap,hc,hsp⟩:=hc
      rw [hval,hc]
      obtain ⟨w',q1,q2⟩:=clearAcc (cx:=cx) hr1 hu hie hzv hzs hg (lo:=0) (n:=l0.length) (by omega) hc (d:=base) (dcap:=cap) (fun _=>by rw [Nat.zero_mul,addr_add0 base hsp]) hzl hzc (ty:=ty)
      exact ⟨_,w',q1,q2.pre ex⟩
    ·cases hK
   ·cases hK
  ·rename_i i ver lo n
   split at hK
   ·rename_i ver' sz' l hg
    replace hK:=cond_some hK
    obtain ⟨hb,hK⟩:=hK
    simp only [Bool.and_eq_true] at hb
    have hb1:=beq_true hb.1
    have hb2:=beq_true hb.2
    subst hb1 hb2
    refine ⟨_,_,hK,fun ρ X w vd ty hr hd => ?_⟩
    obtain ⟨hzl,hr1,ex,hzc⟩:=pre ρ X w hr
    replace hd:=ex.vr hd
    cases hd with
    | sub _ _ _ _ v hpl hi hv=>
     obtain ⟨hlo,a,cap,cap2,kk,hcur,hnc,hcc,_,hk1,hval⟩:=(hv ver false ie.size l hg).2 rfl
     rw [hval]
     obtain ⟨w',q1,q2⟩:=clearAcc (cx:=cx) hr1 hu hie hzv hzs hg (lo:=lo) (n:=n) hlo hcur (d:=a.map (·.add kk)) (dcap:=cap2) (fun hn=>by rw [hk1 (by omega)]) hzl hzc (ty:=ty)
     exact ⟨_,w',q1,q2.pre ex⟩
   ·cases hK
  ·cases hK
 ·cases hK
theorem appendZ_sound {t u:TypeId} {s x:SV} (hK:appendZ cx t u s x h K=some r):
  ∃ sv h',K sv h'=some r/\∀ ρ X w vs vx ty,HR ρ X h w->VR ρ h w (Mut ρ X h) s vs->VR ρ h w (Mut ρ X h) x vx->
   ∃ v' w',(Builtin.append_ #[t,u] ty #[vs,vx]).run cx.P w = .ok v' w'/\Post ρ X h w sv h' v' w':=by
 unfold appendZ at hK
 split at hK
 ·rename_i sz n e ku hu hui
  replace hK:=cond_some hK
  obtain ⟨hok,hK⟩:=hK
  obtain ⟨ie,zv,hie,hse,hpos,hby,hzv,hzs⟩:=okE_info hok
  replace hK:=bind_some' hK
  obtain ⟨z,hz,hK⟩:=hK
  replace hK:=bind_some' hK
  obtain ⟨⟨zc,h1⟩,hs,hK⟩:=hK
  replace hK:=ite_some hK
  obtain ⟨⟨hn0,hnl⟩,hK⟩:=hK
  dsimp only at hK
  rw [<- hse] at hK
  refine ⟨_,_,hK,fun ρ X w vs vx ty hr0 hvs hvx => ?_⟩
  obtain ⟨i2,z2,hi2,hz2,hcz⟩:=zero_cells (ρ:=ρ) (h:=h) (w:=w) (M:=Mut ρ X h) hz
  rw [hie] at hi2
  cases hi2
  rw [hzv] at hz2
  cases hz2
  obtain ⟨hl1,t1,c1⟩:=seqClose_sound z X h zc h1 (fun j=>zv.cells.getD j undef) hr0 (fun j s hs=>(hcz.2 j s hs).2) hs
  have hzl:zc.length=ie.size:=by rw [hl1,<- hcz.1,hzs]
  have hr:=t1.hr'
  have ex:=t1.ext'
  have hvx:=hvx.int_inv
  subst hvx
  cases hvs
  obtain ⟨m,rfl⟩:∃ m:Nat,n=m:=⟨n.toNat,by omega⟩
  rw [Int.toNat_natCast]
  have hLIM:LIM=4294967296:=rfl
  have hmem:∀ e∈List.replicate m zc,e.length=ie.size:=fun e he=>by rw [List.eq_of_mem_replicate he];exact hzl
  have fin:∀ (v':Value) (w':World),SameIO w w'->plain v'->w.heap.size<=w'.heap.size->(∀ b,b<w.heap.size->w'.heap[b]? = w.heap[b]?)->
    (∀ b,bOf (ρ.push h1.length v' 0) h1.length (.acc 0 false ie.size (List.replicate m zc))=some b->w.heap.size<=b)->
    ((v' = .slice none 0 0/\List.replicate m zc=[])\/∃ b cap cur ty,v' = .slice (some ⟨b,0,none⟩) (List.replicate m zc).length cap/\w'.heap[b]? = some (.cells cur ty (0,0))/\(List.replicate m zc).length<=cap/\cap*ie.size<=cur.size/\
     ∀ k j x,at2 (List.replicate m zc) k j=some x->∃ u,cur[k*ie.size+j]? = some u/\plain u/\CR w (Mut ρ X h1) x u)->
    Post ρ X h w (.acc h1.length 0) (h1++[.acc 0 false ie.size (List.replicate m zc)]) v' w':=fun v' w' hio hpl hs hk hf hrow=>by
   obtain ⟨g1,g2⟩:=HR.new hr (w':=w') hs hk (.acc 0 false ie.size (List.replicate m zc)) v' 0 hf (fun e=>by
    refine ⟨hpos,hmem,by simp;omega,?_⟩
    rcases hrow with ⟨q1,q2⟩ | ⟨b,cap',cur,ty',q1,q2,q3,q4,q5⟩
    ·exact .inl ⟨by simpa using q1,q2⟩
    ·refine .inr ⟨b,cap',cur,ty',by simpa using q1,q2,q3,q4,fun k j x hx => ?_⟩
     obtain ⟨u,hu,hp,hcr⟩:=q5 k j x hx
     exact ⟨u,hu,hp,e.cr hcr⟩) hio
   have g:Post ρ X h1 w (.acc h1.length 0) (h1++[.acc 0 false ie.size (List.replicate m zc)]) v' w':=by
    refine ⟨_,g1,.acc _ _ _ hpl (by simp) fun ver' fr sz' l' hh => ?_,g2⟩
    rw [getH_append_len] at hh
    cases hh
    exact ⟨Nat.le_refl _,fun _=>by simp⟩
   exact g.pre ex
  ·have hrun:=Lib.run_append_nil_zeros (P:=cx.P) w t u ty e ie zv .i64 _ hu hui hie hzv m (by omega) hpos (by omega) (by
    have:m*ie.bytes<=4294967296*4096:=Nat.mul_le_mul (by omega) hby
    omega)
   have hcg:=grownCap_ge w m 0 e
   obtain ⟨g1,g2⟩:=grown_row (A:=(Builtin.zeroCells zv.cells m).toList) (n:=m) (cap:=grownCap w m 0 e) (by simp [Builtin.zeroCells,hzs]) hzs hcg rfl
   simp only [Array.toArray_toList] at g1 g2
   refine ⟨_,_,hrun,fin _ _ ⟨rfl,rfl⟩ rfl (by simp) (fun b hb=>heap_alloc_old w.drew _ b hb) (fun b hb => ?_) (.inr ⟨w.heap.size,_,_,e,by simp,heap_alloc_new w.drew _,by simpa using hcg,g1,fun k j x hx => ?_⟩)⟩
   ·simp [bOf] at hb;omega
   ·obtain ⟨hkn,hx⟩:=at2_replicate hx
    have hj:=(List.getElem?_eq_some_iff.1 hx).1
    have hcr:=c1 j x hx
    have hp:=(hcz.2 j (z[j]'(by omega)) (by simp [show j<z.length from by omega])).1
    exact ⟨_,g2 _ _ (zeros_at hzs hkn (by omega)),hp,hcr⟩
 ·cases hK
theorem copy_sound {t:TypeId} {d x:SV} (hK:copyK cx t d x h K=some r):
  ∃ sv h',K sv h'=some r/\∀ ρ X w vd vx ty,HR ρ X h w->VR ρ h w (Mut ρ X h) d vd->VR ρ h w (Mut ρ X h) x vx->
   ∃ v' w',(Builtin.copy_ #[t,t] ty #[vd,vx]).run cx.P w = .ok v' w'/\Post ρ X h w sv h' v' w':=by
 unfold copyK at hK
 split at hK
 ·rename_i e hu
  replace hK:=cond_some hK
  obtain ⟨hok,hK⟩:=hK
  obtain ⟨ie,zv,hie,hse,hpos,hby,hzv,hzs⟩:=okE_info hok
  replace hK:=bind_some' hK
  obtain ⟨src,hsrc,hK⟩:=hK
  dsimp only at hK
  rw [<- hse] at hsrc hK
  split at hK
  ·rename_i i ver
   split at hK
   ·rename_i ver0 fr0 sz0 l0 hg0
    split at hK
    ·rename_i ver' sz' l hg
     have hl0:l0=l:=by rw [hg0] at hg;injection hg
     subst hl0
     replace hK:=cond_some hK
     obtain ⟨hb,hK⟩:=hK
     simp only [Bool.and_eq_true] at hb
     have hb1:=beq_true hb.1
     have hb2:=beq_true hb.2
     subst hb1 hb2
     refine ⟨_,_,hK,fun ρ X w vd vx ty hr hd hx => ?_⟩
     cases hd with
     | acc _ _ v hpl hi hv=>
      have hval:=(hv ver false ie.size l0 hg).2 rfl
      have hbx:=hr.box i
      rw [hg] at hbx
      obtain ⟨_,_,_,h3⟩:=hbx
      have hc:∃ base cap,ρ.cur i = .slice base l0.length cap/\∀ x,base=some x->x.spot=none:=by
       rcases h3 with ⟨h3,rfl⟩ | ⟨b,cap,_,_,h3,_⟩
       ·exact ⟨none,0,h3,fun x hx=>by cases hx⟩
       ·exact ⟨_,cap,h3,fun x hx=>by cases hx;rfl⟩
      obtain ⟨base,cap,hc,hsp⟩:=hc
      rw [hval,hc]
      obtain ⟨w',q1,q2⟩:=copyAcc (cx:=cx) hr hu hie hg (lo:=0) (n:=l0.length) (by omega) hc (d:=base) (dcap:=cap) (fun _=>by rw [Nat.zero_mul,addr_add0 base hsp]) (els_sound hr hsrc hx) (ty:=ty)
      exact ⟨_,w',q1,q2⟩
    ·cases hK
   ·cases hK
  ·rename_i i ver lo n
   split at hK
   ·rename_i ver' sz' l hg
    replace hK:=cond_some hK
    obtain ⟨hb,hK⟩:=hK
    simp only [Bool.and_eq_true] at hb
    have hb1:=beq_true hb.1
    have hb2:=beq_true hb.2
    subst hb1 hb2
    refine ⟨_,_,hK,fun ρ X w vd vx ty hr hd hx => ?_⟩
    cases hd with
    | sub _ _ _ _ v hpl hi hv=>
     obtain ⟨hlo,a,cap,cap2,kk,hcur,hnc,hcc,_,hk1,hval⟩:=(hv ver false ie.size l hg).2 rfl
     have hbx:=hr.box i
     rw [hg] at hbx
     obtain ⟨_,_,_,h3⟩:=hbx
     rw [hval]
     obtain ⟨w',q1,q2⟩:=copyAcc (cx:=cx) hr hu hie hg (lo:=lo) (n:=n) hlo hcur (d:=a.map (·.add kk)) (dcap:=cap2) (fun hn=>by rw [hk1 (by omega)]) (els_sound hr hsrc hx) (ty:=ty)
     exact ⟨_,w',q1,q2⟩
   ·cases hK
  ·cases hK
 ·cases hK
theorem lenOf_sound {ρ:Env} {X:Nat->Prop} {w:World} (hr:HR ρ X h w) {x:SV} {n:Nat} {v:Value} (hn:lenOf h x=some n) (hv:VR ρ h w (Mut ρ X h) x v):∃ ad cap,v = .slice ad n cap:=by
 unfold lenOf at hn
 split at hn
 ·obtain rfl:=Option.some.inj hn
  cases hv with
  | c x v hx=>
   obtain ⟨ad,cap,rfl,_⟩:=hx.sl_inv
   exact ⟨ad,cap,rfl⟩
 ·obtain rfl:=Option.some.inj hn
  cases hv
  exact ⟨none,0,rfl⟩
 ·rename_i i ver
  split at hn
  ·rename_i ver' fr sz l hg
   obtain ⟨hb,hn⟩:=cond_some hn
   obtain rfl:=Option.some.inj hn
   have:=beq_true hb
   subst this
   cases hv with
   | acc _ _ v hpl hi hv=>
    have hval:=(hv ver fr sz l hg).2 rfl
    have hbx:=hr.box i
    rw [hg] at hbx
    obtain ⟨_,_,_,h3⟩:=hbx
    rcases h3 with ⟨h3,rfl⟩ | ⟨b,cap,_,_,h3,_⟩
    ·exact ⟨none,0,by rw [hval,h3];rfl⟩
    ·exact ⟨_,cap,by rw [hval,h3]⟩
  ·cases hn
 ·rename_i i ver lo k
  split at hn
  ·rename_i ver' fr sz l hg
   obtain ⟨hb,hn⟩:=cond_some hn
   obtain rfl:=Option.some.inj hn
   have:=beq_true hb
   subst this
   cases hv with
   | sub _ _ _ _ v hpl hi hv=>
    obtain ⟨_,a,cap,cap2,kk,_,_,_,_,_,hval⟩:=(hv ver fr sz l hg).2 rfl
    exact ⟨_,_,hval⟩
  ·cases hn
 ·cases hn
end
end Go.Ab

namespace Go.Ab
open Go
set_option maxRecDepth 100000
section
variable {β:Type} {cx:Cx} {o:Oper} {st:St} {h:H} {r:β} {K:SV->H->Option β}
theorem evs_one {ρ:Env} {X:Nat->Prop} {a:Act} {w:World} (rr:R cx ρ X st h a w) {ts:List TypeId} {xs:Array Operand} {s:SV} (he:evs cx.P st ts xs.toList=[s]):
  ∃ x,xs=#[x]/\VR ρ h w (Mut ρ X h) s (a.eval x):=by
 obtain ⟨h1,h2⟩:=evs_sound rr ts xs.toList
 rw [he] at h1 h2
 have hs:xs.size=1:=by simpa using h1.symm
 obtain ⟨x,rfl⟩:=Array.size_eq_one_iff.1 hs
 obtain ⟨y,hy,hv⟩:=h2 0 s (by simp)
 simp at hy
 subst hy
 exact ⟨_,rfl,hv⟩
theorem evs_two {ρ:Env} {X:Nat->Prop} {a:Act} {w:World} (rr:R cx ρ X st h a w) {ts:List TypeId} {xs:Array Operand} {s1 s2:SV} (he:evs cx.P st ts xs.toList=[s1,s2]):
  ∃ x y,xs=#[x,y]/\VR ρ h w (Mut ρ X h) s1 (a.eval x)/\VR ρ h w (Mut ρ X h) s2 (a.eval y):=by
 obtain ⟨h1,h2⟩:=evs_sound rr ts xs.toList
 rw [he] at h1 h2
 have hs:xs.toList.length=2:=by simpa using h1.symm
 obtain ⟨x,y,hxy⟩:∃ x y,xs.toList=[x,y]:=by
  generalize xs.toList=L at hs
  match L,hs with
  | [x,y],_=>exact ⟨x,y,rfl⟩
 have hx:xs=#[x,y]:=by rw [<- Array.toArray_toList (xs:=xs),hxy]
 subst hx
 obtain ⟨u,hu,hv⟩:=h2 0 s1 (by simp)
 obtain ⟨u',hu',hv'⟩:=h2 1 s2 (by simp)
 simp at hu hu'
 subst hu hu'
 exact ⟨_,_,rfl,hv,hv'⟩
theorem toList_one {α:Type} {a:Array α} {t:α} {r:List α} (h:a.toList=t::r):a[0]? = some t:=by
 have:a.toList[0]? = some t:=by rw [h];rfl
 simpa using this
theorem foldInt_sound {f:Int->Int->Int} {g:Value->Value->Sem Value} {P:Program} {w:World} (hg:∀ k k' x y,(g (.int k x) (.int k' y)).run P w = .ok (.int k (f x y)) w):
  ∀ (l:List SV) (vs:List Value) (k:IntKind) (x:Int) (v:CV) (ρ:Env) (M:Nat->Prop),vs.length=l.length->(∀ (j:Nat) (s:SV),l[j]? = some s->∃ u,vs[j]? = some u/\VR ρ h w M s u)->foldInt f k x l=some v->
   ∃ n,v = .int k n/\(vs.foldlM g (.int k x)).run P w = .ok (.int k n) w
 | [],vs,k,x,v,ρ,M,hl,_,hf=>by
  have:vs=[]:=List.length_eq_zero_iff.1 (by simpa using hl)
  subst this
  simp only [foldInt,Option.some.injEq] at hf
  exact ⟨x,hf.symm,by simp⟩
 | s::l,vs,k,x,v,ρ,M,hl,hv,hf=>by
  cases vs with
  | nil=>simp at hl
  | cons u vs=>
   obtain ⟨u',hu,hv0⟩:=hv 0 s (by simp)
   simp at hu
   subst hu
   cases s with
   | c cv=>
    cases cv with
    | int k1 b=>
     simp only [foldInt] at hf
     have:=hv0.int_inv
     subst this
     obtain ⟨n,hn,hr⟩:=foldInt_sound hg l vs k (f x b) v ρ M (by simpa using hl) (fun j s hs=>by simpa using hv (j+1) s (by simpa using hs)) hf
     exact ⟨n,hn,by simp [List.foldlM_cons,hg,hr]⟩
    | _=>simp [foldInt] at hf
   | _=>simp [foldInt] at hf
theorem run_builtin_op {a:Act} {w w':World} {c:Call} {b:Builtin} {nx:Next} (ho:o.op = .call c) (hc:c.callee = .builtin b)
  (hr:(builtin b c.argTypes o.type (c.args.map fun | .const _=>true | _=>false) (c.args.map a.eval)).run cx.P w = .ok nx w'):(execOp a.eval o).run cx.P w = .ok nx w':=by
 simp only [execOp,ho,resolve,hc,Sem.run_bind,Sem.run_pure,Result.andThen_ok,invoke]
 exact hr
theorem builtin_sound {c:Call} {b:Builtin} (ho:o.op = .call c) (hc:c.callee = .builtin b) (hK:builtinK cx b c.argTypes (evs cx.P st c.argTypes.toList c.args.toList) h K=some r):OpS cx o st h K r:=by
 have two':∀ (b:Builtin) (f:Array TypeId->TypeId->Array Value->Sem Value),(∀ ts ty cs as,builtin b ts ty cs as=(do pure (.value (<- f ts ty as))))->c.callee = .builtin b->∀ (s x:SV) (t u:TypeId),evs cx.P st c.argTypes.toList c.args.toList=[s,x]->c.argTypes.toList=[t,u]->
   (∃ sv h',K sv h'=some r/\∀ ρ X w vs vx ty,HR ρ X h w->VR ρ h w (Mut ρ X h) s vs->VR ρ h w (Mut ρ X h) x vx->∃ v' w',(f #[t,u] ty #[vs,vx]).run cx.P w = .ok v' w'/\Post ρ X h w sv h' v' w')->OpS cx o st h K r:=by
  rintro b f hb hc s x t u he ht ⟨sv,h',hK,hf⟩
  refine ⟨sv,h',hK,fun ρ X a w rr => ?_⟩
  obtain ⟨x1,x2,hxs,hv1,hv2⟩:=evs_two rr he
  obtain ⟨v',w',hrun,hp⟩:=hf ρ X w _ _ o.type rr.hr hv1 hv2
  have hts:c.argTypes=#[t,u]:=by rw [<- Array.toArray_toList (xs:=c.argTypes),ht]
  refine .value (run_builtin_op ho hc ?_) hp
  rw [hb,hts,hxs]
  simp [hrun]
 have two:∀ (b:Builtin) (f:Array TypeId->TypeId->Array Value->Sem Value),(∀ ts ty cs as,builtin b ts ty cs as=(do pure (.value (<- f ts ty as))))->c.callee = .builtin b->∀ (s x:SV) (t u:TypeId),evs cx.P st c.argTypes.toList c.args.toList=[s,x]->c.argTypes.toList=[t,u]->t=u->
   (∃ sv h',K sv h'=some r/\∀ ρ X w vs vx ty,HR ρ X h w->VR ρ h w (Mut ρ X h) s vs->VR ρ h w (Mut ρ X h) x vx->∃ v' w',(f #[t,t] ty #[vs,vx]).run cx.P w = .ok v' w'/\Post ρ X h w sv h' v' w')->OpS cx o st h K r:=by
  rintro b f hb hc s x t u he ht htu h
  subst htu
  exact two' b f hb hc s x t t he ht h
 unfold builtinK at hK
 split at hK
 .
  rename_i t _ x ht hx
  have hl:∀ (a:Act) (w:World) (n:Nat),(Builtin.len_ c.argTypes o.type (c.args.map a.eval)).run cx.P w = .ok (goInt n) w->(execOp a.eval o).run cx.P w = .ok (.value (goInt n)) w:=fun a w n hn=>by
   refine run_builtin_op ho hc ?_
   simp [builtin,hn]
  have ht0:=toList_one ht
  split at hK
  ·rename_i n e hu
   refine .pure hK fun ρ X a w rr => ?_
   obtain ⟨x1,hx1,hv⟩:=evs_one rr hx
   refine ⟨_,hl a w n ?_,.c _ _ (.int _ _)⟩
   simp [Builtin.len_,ht0,hx1,run_underlying hu]
  ·rename_i e hu
   replace hK:=bind_some' hK
   obtain ⟨n,hn,hK⟩:=hK
   refine .pure hK fun ρ X a w rr => ?_
   obtain ⟨x1,hx1,hv⟩:=evs_one rr hx
   obtain ⟨ad,cap,hval⟩:=lenOf_sound rr.hr hn hv
   refine ⟨_,hl a w n ?_,.c _ _ (.int _ _)⟩
   simp [Builtin.len_,ht0,hx1,run_underlying hu,hval]
  ·cases hK
 ·rename_i t u s x ht he
  cases hb:Nat.beq t u with
  | true=>
   rw [hb,cond_true] at hK
   exact two .append Builtin.append_ (fun _ _ _ _=>rfl) hc s x t u he ht (beq_true hb) (append_sound hK)
  | false=>
   rw [hb,cond_false] at hK
   exact two' .append Builtin.append_ (fun _ _ _ _=>rfl) hc s x t u he ht (appendZ_sound hK)
 ·rename_i t u s x ht he
  replace hK:=cond_some hK
  obtain ⟨hb,hK⟩:=hK
  exact two .copy Builtin.copy_ (fun _ _ _ _=>rfl) hc s x t u he ht (beq_true hb) (copy_sound hK)
 .
  rename_i t _ sz ht hx
  have ht0:=toList_one ht
  split at hK
  ·rename_i e hu
   refine .pure hK fun ρ X a w rr => ?_
   obtain ⟨x1,hx1,hv⟩:=evs_one rr hx
   generalize hvx:a.eval x1=vx at hv
   cases hv with
   | nil _ h0=>
    have hcap:(Builtin.cap_ c.argTypes o.type (c.args.map a.eval)).run cx.P w = .ok (goInt (0:Nat)) w:=by simp [Builtin.cap_,ht0,hx1,hvx,run_underlying hu]
    exact ⟨goInt (0:Nat),run_builtin_op ho hc (by simp [builtin,hcap]),.c _ _ (.int _ _)⟩
  ·cases hK
 .
  rename_i t d ht hx
  obtain ⟨sv,h',hK,hpost⟩:=clear_sound hK
  refine ⟨sv,h',hK,fun ρ X a w rr => ?_⟩
  obtain ⟨x1,hx1,hv⟩:=evs_one rr hx
  obtain ⟨v',w',q1,q2⟩:=hpost ρ X w (a.eval x1) o.type rr.hr hv
  refine .value (w':=w') (run_builtin_op ho hc ?_) q2
  have ht':c.argTypes=#[t]:=by apply Array.ext';simpa using ht
  simp [builtin,hx1,ht',q1]
 ·rename_i k x0 rest he
  replace hK:=bind_some' hK
  obtain ⟨v,hv,hK⟩:=hK
  refine .pure hK fun ρ X a w rr => ?_
  obtain ⟨h1,h2⟩:=evs_sound rr c.argTypes.toList c.args.toList
  rw [he] at h1 h2
  cases hxs:c.args.toList with
  | nil=>rw [hxs] at h1;simp at h1
  | cons y ys=>
   rw [hxs] at h1 h2
   obtain ⟨y',hy,hv0⟩:=h2 0 (.c (.int k x0)) (by simp)
   simp at hy
   subst hy
   obtain ⟨n,rfl,hrun⟩:=foldInt_sound (h:=h) (P:=cx.P) (w:=w) (g:=Builtin.min2) (fun k k' x y=>by simp [Builtin.min2]) rest (ys.map a.eval) k x0 v ρ (Mut ρ X h) (by simpa using h1.symm) (fun j s hs=>by
    obtain ⟨u,hu,hv⟩:=h2 (j+1) s (by simpa using hs)
    simp at hu
    exact ⟨a.eval u,by simp [hu],hv⟩) hv
   refine ⟨_,run_builtin_op ho hc ?_,.c _ _ (.int _ _)⟩
   have ea:List.map a.eval c.args.toList = .int k x0::ys.map a.eval:=by rw [hxs,List.map_cons,hv0.int_inv]
   simp [builtin,Builtin.min_,ea,hrun]
 ·rename_i k x0 rest he
  replace hK:=bind_some' hK
  obtain ⟨v,hv,hK⟩:=hK
  refine .pure hK fun ρ X a w rr => ?_
  obtain ⟨h1,h2⟩:=evs_sound rr c.argTypes.toList c.args.toList
  rw [he] at h1 h2
  cases hxs:c.args.toList with
  | nil=>rw [hxs] at h1;simp at h1
  | cons y ys=>
   rw [hxs] at h1 h2
   obtain ⟨y',hy,hv0⟩:=h2 0 (.c (.int k x0)) (by simp)
   simp at hy
   subst hy
   obtain ⟨n,rfl,hrun⟩:=foldInt_sound (h:=h) (P:=cx.P) (w:=w) (g:=Builtin.max2) (fun k k' x y=>by simp [Builtin.max2]) rest (ys.map a.eval) k x0 v ρ (Mut ρ X h) (by simpa using h1.symm) (fun j s hs=>by
    obtain ⟨u,hu,hv⟩:=h2 (j+1) s (by simpa using hs)
    simp at hu
    exact ⟨a.eval u,by simp [hu],hv⟩) hv
   refine ⟨_,run_builtin_op ho hc ?_,.c _ _ (.int _ _)⟩
   have ea:List.map a.eval c.args.toList = .int k x0::ys.map a.eval:=by rw [hxs,List.map_cons,hv0.int_inv]
   simp [builtin,Builtin.max_,ea,hrun]
 ·cases hK
end
end Go.Ab

namespace Go.Ab
open Go
set_option maxRecDepth 100000
def ContR (w:World) (M:Nat->Prop):List Nat->List (List CV)->List Nat->Prop
 | [],[],B=>B=[]
 | b::bs,c::cs,B=>(∃ (cur:Array Value) (ty:TypeId) (Bs:Nat->List Nat) (B2:List Nat),w.heap[b]? = some (.cells cur ty (0,0))/\c.length<=cur.size/\
   (∀ (j:Nat) (x:CV),c[j]? = some x->plain (cur.getD j undef)/\OR w M x (cur.getD j undef) (Bs j))/\ContR w M bs cs B2/\B=(b::cat c.length Bs)++B2)\/
   (∃ (fx:Loop) (ts:List Nat) (env:List CV) (bx:List Nat) (n:Nat) (s:Option Nat) (B2:List Nat),c=[.rcd b fx ts env bx n s]/\w.heap[b]? = some (.loop (recOf fx s))/\bx.length=n/\bs.take n=bx/\EnvR w M ts env bx fx.tmps/\ContR w M bs cs B2/\B=b::B2)
 | _,_,_=>False
theorem ContR.mono {w:World} {M M':Nat->Prop} (hM:∀ b,M' b->M b):∀ {bs:List Nat} {cs:List (List CV)} {B:List Nat},ContR w M bs cs B->ContR w M' bs cs B
 | [],[],_,h=>h
 | _::_,_::_,_,.inl ⟨cur,ty,Bs,B2,h1,h2,h3,h4,h5⟩ => .inl ⟨cur,ty,Bs,B2,h1,h2,fun j x hx=>⟨(h3 j x hx).1,(h3 j x hx).2.mono hM⟩,h4.mono hM,h5⟩
 | _::_,_::_,_,.inr ⟨fx,ts,env,bx,n,s,B2,h1,h2,h3,h3',h4,h5,h6⟩ => .inr ⟨fx,ts,env,bx,n,s,B2,h1,h2,h3,h3',h4.imp fun _ _ hx=>hx.mono (Nat.le_refl _) (fun _ _ _=>rfl) (fun b _=>hM b),h5.mono hM,h6⟩
 | [],_::_,_,h=>h.elim
 | _::_,[],_,h=>h.elim
theorem ContR.len {w:World} {M:Nat->Prop}:∀ {bs:List Nat} {cs:List (List CV)} {B:List Nat},ContR w M bs cs B->bs.length=cs.length
 | [],[],_,_=>rfl
 | _::_,_::_,_,.inl ⟨_,_,_,_,_,_,_,h4,_⟩=>by simp [h4.len]
 | _::_,_::_,_,.inr ⟨_,_,_,_,_,_,_,_,_,_,_,_,h4,_⟩=>by simp [h4.len]
 | [],_::_,_,h=>h.elim
 | _::_,[],_,h=>h.elim
structure InR (w:World) (M:Nat->Prop) (args:List CV) (conts:List (List CV)) (vs:Array Value) (bs B:List Nat):Prop where
 size:vs.size=args.length
 arg:∀ (j:Nat) (x:CV),args[j]? = some x->ArgR w M bs x (vs.getD j undef)
 cont:ContR w M bs conts B
 nd:B.Nodup
 sub:∀ b∈B,M b
 lt:∀ b,M b->b<w.heap.size
 glob:GlobR w M
def MM (M:Nat->Prop) (B B':List Nat) (b:Nat):Prop:=(M b/\b∉B)\/b∈B'
structure OutR (w:World) (M:Nat->Prop) (B bs:List Nat) (w':World) (v:Value) (rv:CV) (conts:List (List CV)) (Br B2:List Nat):Prop where
 io:SameIO w w'
 size:w.heap.size<=w'.heap.size
 keep:∀ b,b<w.heap.size->b∉B->w'.heap[b]? = w.heap[b]?
 new:∀ b,b∈Br++B2->b∈B\/w.heap.size<=b
 nd:(Br++B2).Nodup
 ret:OR w' (MM M B (Br++B2)) rv v Br
 cont:ContR w' (MM M B (Br++B2)) bs conts B2
structure SoundC (P:Program) (f:FuncId) (g:Callee):Prop where
 enter:∃ fn,P.funcs[f]? = some fn/\(fn.name == "runtime.NumGoroutine")=false/\fn.body.isNone=false
 calls:∀ (args:List CV) (conts:List (List CV)) (β:Type) (K:CV->List (List CV)->Option β) (r:β),g.run args conts β K=some r->∃ rv co,K rv co=some r/\
  ∀ w M vs bs B,InR w M args conts vs bs B->Calls P f vs w fun e w'=>∃ v Br B2,e = .returned v/\OutR w M B bs w' v rv co Br B2
section
variable {β:Type} {cx:Cx} {o:Oper} {st:St} {h:H} {r:β} {K:SV->H->Option β}
theorem TK.dead {ρ:Env} {X:Nat->Prop} {h h':H} {w:World} {B:List Nat} (t:TK ρ X h w h' B) {i:Nat} (hd:getH h i = .dead):getH h' i = .dead:=by
 cases hg:getH h' i with
 | dead=>rfl
 | cells fr cs=>
  have:=t.bo i (ρ.blk i) (by rw [hg];rfl)
  rw [hd] at this
  cases this
 | rc l fx ts env bs n s=>
  have:=t.bo i l (by rw [hg];rfl)
  rw [hd] at this
  cases this
 | mp fr ks=>
  have:=t.bo i (ρ.blk i) (by rw [hg];rfl)
  rw [hd] at this
  cases this
 | mpf ks vs=>
  have:=t.bo i (ρ.blk i) (by rw [hg];rfl)
  rw [hd] at this
  cases this
 | acc ver fr sz l=>
  have hi:i<h.length:=by rw [<- t.len];exact getH_lt (by rw [hg];simp)
  obtain ⟨_,_,_,_,h1,_⟩:=t.ext.accs i hi ver fr sz l hg
  rw [hd] at h1
  cases h1
theorem argsIn_sound {ρ:Env} {X:Nat->Prop} {w:World}:∀ (ss:List SV) (k:Nat) (h:H) (args:List CV) (is:List Nat) (h':H) (us:Nat->Value),HR ρ X h w->
  (∀ (j:Nat) (s:SV),ss[j]? = some s->VR ρ h w (Mut ρ X h) s (us j))->argsIn ss k h=some (args,is,h')->
  args.length=ss.length/\TK ρ X h w h' []/\∀ (j:Nat) (x:CV),args[j]? = some x->
   (∃ m i,x = .ref (k+m)/\is[m]? = some i/\us j = .pointer (some ⟨ρ.blk i,0,none⟩))\/CR w (Mut ρ X h') x (us j)
 | [],k,h,args,is,h',us,hr,_,ha=>by
  simp only [argsIn,Option.some.injEq,Prod.mk.injEq] at ha
  obtain ⟨rfl,rfl,rfl⟩:=ha
  exact ⟨rfl,TK.refl hr,fun j x hx=>by simp at hx⟩
 | s::ss,k,h,args,is,h',us,hr,hv,ha=>by
  have closed:((close s h).bind fun x=>(argsIn ss k x.2).bind fun t=>some (x.1::t.1,t.2.1,t.2.2))=some (args,is,h')->
    args.length=(s::ss).length/\TK ρ X h w h' []/\∀ (j:Nat) (x:CV),args[j]? = some x->
     (∃ m i,x = .ref (k+m)/\is[m]? = some i/\us j = .pointer (some ⟨ρ.blk i,0,none⟩))\/CR w (Mut ρ X h') x (us j):=fun ha=>by
   replace ha:=bind_some' ha
   obtain ⟨⟨x1,h1⟩,hc,ha⟩:=ha
   replace ha:=bind_some' ha
   obtain ⟨⟨as,is1,h2⟩,ha1,ha⟩:=ha
   simp only [Option.some.injEq,Prod.mk.injEq] at ha
   obtain ⟨rfl,rfl,rfl⟩:=ha
   obtain ⟨t1,c1⟩:=close_takeOK hr (hv 0 s (by simp)) hc
   obtain ⟨hl,t2,g2⟩:=argsIn_sound ss k h1 as is1 h2 (fun j=>us (j+1)) t1.hr' (fun j y hy=>t1.ext'.vr (hv (j+1) y (by simpa using hy))) ha1
   refine ⟨by simp [hl],?_,fun j x hx => ?_⟩
   ·have t2':TK ρ (XB X []) h1 w h2 []:=by rw [XB_nil];exact t2
    exact t1.trans t2'
   ·cases j with
    | zero=>
     simp at hx
     subst hx
     exact .inr (t2.ext'.cr c1)
    | succ j=>
     simp at hx
     exact g2 j x hx
  cases s with
  | ptr i off=>
   simp only [argsIn] at ha
   split at ha
   ·rename_i cs hg
    replace ha:=bind_some' ha
    obtain ⟨⟨as,is1,h2⟩,ha1,ha⟩:=ha
    simp only [Option.some.injEq,Prod.mk.injEq] at ha
    obtain ⟨rfl,rfl,rfl⟩:=ha
    obtain ⟨hl,t2,g2⟩:=argsIn_sound ss (k+1) h as is1 h2 (fun j=>us (j+1)) hr (fun j y hy=>hv (j+1) y (by simpa using hy)) ha1
    refine ⟨by simp [hl],t2,fun j x hx => ?_⟩
    cases j with
    | zero=>
     simp at hx
     subst hx
     have hv0:=hv 0 (.ptr i 0) (by simp)
     cases hv0 with
     | ptr _ _ v hpl hi hq=>exact .inl ⟨0,i,by simp,by simp,hq⟩
    | succ j=>
     simp at hx
     rcases g2 j x hx with ⟨m,i',h1,h2,h3⟩ | h1
     ·exact .inl ⟨m+1,i',by rw [h1];congr 1;omega,by simpa using h2,h3⟩
     ·exact .inr h1
   ·exact closed ha
  | any=>exact closed ha
  | c v=>exact closed ha
  | nil sz=>exact closed ha
  | acc i ver=>exact closed ha
  | sub i ver lo n=>exact closed ha
  | ept i ver ix off=>exact closed ha
  | apt i off n sz len=>exact closed ha
  | agg cs=>exact closed ha
  | tup vs=>exact closed ha
  | fn f a b=>exact closed ha
  | mp i=>exact closed ha
theorem cond_true_of {b c:Bool} (h:(bif b then c else false)=true):b=true/\c=true:=by
 cases b with
 | true=>exact ⟨rfl,h⟩
 | false=>cases h
theorem preN_take:∀ {i n:Nat} {r:List Nat},preN i n r=true->r.take n=List.range' i n
 | _,0,_,_=>by simp
 | i,n+1,j::r,h=>by
  simp only [preN] at h
  replace h:=cond_true_of h
  obtain ⟨hb,h⟩:=h
  have:=beq_true hb
  subst this
  rw [List.take_succ_cons,preN_take h,List.range'_succ]
 | _,_+1,[],h=>by simp [preN] at h
theorem contsOut_sound {ρ:Env} {w:World}:∀ (is:List Nat) (X:Nat->Prop) (h:H) (cs:List (List CV)) (h':H),HR ρ X h w->contsOut is h=some (cs,h')->
  ∃ B,TK ρ X h w h' B/\ContR w (Mut ρ (XB X B) h') (is.map ρ.blk) cs B/\is.Nodup/\(∀ i∈is,i<h.length/\getH h i ≠ .dead/\getH h' i = .dead)
 | [],X,h,cs,h',hr,hc=>by
  simp only [contsOut,Option.some.injEq,Prod.mk.injEq] at hc
  obtain ⟨rfl,rfl⟩:=hc
  exact ⟨[],TK.refl hr,rfl,by simp,by simp⟩
 | i::is,X,h,cs,h',hr,hc=>by
  simp only [contsOut] at hc
  split at hc
  ·rename_i l hg
   replace hc:=bind_some' hc
   obtain ⟨⟨xs,h1⟩,hx,hc⟩:=hc
   replace hc:=bind_some' hc
   obtain ⟨⟨cs1,h2⟩,hc1,hc⟩:=hc
   simp only [Option.some.injEq,Prod.mk.injEq] at hc
   obtain ⟨rfl,rfl⟩:=hc
   dsimp only at hc1
   have hi:i<h.length:=getH_lt (by rw [hg];simp)
   have hbx:=hr.box i
   rw [hg] at hbx
   obtain ⟨cur,ty,g1,g2,g3⟩:=hbx
   have t0:=TK.kill hr (i:=i) (B:=[ρ.blk i]) (by rw [hg];rfl) (fun b=>by rw [hg];simp [bOf,eq_comm]) (by simp)
   obtain ⟨Bs,hl,t1,o1⟩:=seq_sound (take_sound (w:=w) (ρ:=ρ) depth) l _ _ xs h1 (fun j=>cur.getD j undef) t0.hr (fun j s hs=>by
    obtain ⟨u,hu,_,hv⟩:=g3 j s hs
    have:=t0.vr hv
    simpa [hu] using this) hx
   have t01:=t0.trans t1
   obtain ⟨B2,t2,c2,hn,hd⟩:=contsOut_sound is _ h1 cs1 h2 t01.hr hc1
   have t:=t01.trans t2
   have hdead:getH h2 i = .dead:=t2.dead (t1.dead (getH_setH_same _ hi))
   refine ⟨_,t,.inl ⟨cur,ty,Bs,B2,g1,by omega,fun j x hx=>⟨?_,?_⟩,?_,rfl⟩,?_,?_⟩
   ·have hj:j<l.length:=by rw [<- hl];exact (List.getElem?_eq_some_iff.1 hx).1
    obtain ⟨u,hu,hp,_⟩:=g3 j l[j] (by simp [hj])
    simpa [hu] using hp
   ·have o2:=o1 j x hx
    rw [XB_append] at o2
    exact o2.mono fun b hb=>by
     rw [<- XB_append] at hb
     exact t2.mut hb
   ·rw [<- XB_append]
    exact c2
   ·refine List.nodup_cons.2 ⟨fun hm => ?_,hn⟩
    obtain ⟨_,hlv,_⟩:=hd i hm
    exact hlv (t1.dead (getH_setH_same _ hi))
   ·intro j hj
    rcases List.mem_cons.1 hj with rfl | hj
    ·exact ⟨hi,by rw [hg];simp,hdead⟩
    ·obtain ⟨q1,q2,q3⟩:=hd j hj
     exact ⟨by rw [<- t01.len];exact q1,fun hdd=>q2 (t01.dead hdd),q3⟩
  ·rename_i l fx ts env bx n q hg
   replace hc:=cond_some hc
   obtain ⟨hpre,hc⟩:=hc
   replace hc:=bind_some' hc
   obtain ⟨⟨cs1,h2⟩,hc1,hc⟩:=hc
   simp only [Option.some.injEq,Prod.mk.injEq] at hc
   obtain ⟨rfl,rfl⟩:=hc
   have hi:i<h.length:=getH_lt (by rw [hg];simp)
   have hbx:=hr.box i
   rw [hg] at hbx
   obtain ⟨g0,g1,g2,_,g4,g5⟩:=hbx
   have t0:=TK.kill hr (i:=i) (B:=[ρ.blk i]) (by rw [hg];rfl) (fun b=>by rw [hg,g0];simp [bOf,eq_comm]) (by simp)
   obtain ⟨B2,t2,c2,hn,hd⟩:=contsOut_sound is _ _ cs1 h2 t0.hr hc1
   have t:=t0.trans t2
   have hdead:getH h2 i = .dead:=t2.dead (getH_setH_same _ hi)
   refine ⟨_,t,.inr ⟨fx,ts,env,bx,n,q,B2,by rw [g0],by rw [g0];exact g1,g2,?_,g5.imp fun x v hx=>t.cr hx,?_,rfl⟩,?_,?_⟩
   ·rw [<- List.map_take,preN_take hpre]
    apply List.ext_getElem?
    intro j
    simp only [List.getElem?_map]
    by_cases hj:j<n
    ·rw [List.getElem?_range' hj,List.getElem?_eq_getElem (by omega:j<bx.length)]
     obtain ⟨_,h4⟩:=g4 j bx[j] (by simp [show j<bx.length by omega])
     simpa using h4
    ·rw [List.getElem?_eq_none (by simp;omega),List.getElem?_eq_none (by omega)]
     rfl
   ·rw [<- XB_append]
    exact c2
   ·refine List.nodup_cons.2 ⟨fun hm => ?_,hn⟩
    obtain ⟨_,hlv,_⟩:=hd i hm
    exact hlv (getH_setH_same _ hi)
   ·intro j hj
    rcases List.mem_cons.1 hj with rfl | hj
    ·exact ⟨hi,by rw [hg];simp,hdead⟩
    ·obtain ⟨q1,q2,q3⟩:=hd j hj
     exact ⟨by rw [<- t0.len];exact q1,fun hdd=>q2 (t0.dead hdd),q3⟩
  ·cases hc
structure IC (ρ:Env) (X:Nat->Prop) (h:H) (w:World) (M:Nat->Prop) (ρ':Env) (h':H) (I B:List Nat):Prop where
 hr:HRM ρ' X h' w M
 ext:HExt ρ h ρ' h'
 agree:∀ i,i<h.length->ρ'.cur i=ρ.cur i/\ρ'.blk i=ρ.blk i
 same:∀ i,i<h.length->i∉I->getH h' i=getH h i
 new:∀ i b,bOf ρ' i (getH h' i)=some b->(getH h' i=getH h i/\bOf ρ i (getH h i)=some b)\/b∈B
 ab:ρ'.base=ρ.base
theorem IM.toIC {ρ ρ':Env} {X:Nat->Prop} {h h':H} {w:World} {M:Nat->Prop} {B:List Nat} (m:IM ρ X h w M ρ' h' B):IC ρ X h w M ρ' h' [] B:=by
 have hs:∀ i,i<h.length->getH h' i=getH h i:=fun i hi=>by
  obtain ⟨t,rfl⟩:=m.pre
  exact getH_append_lt _ hi
 exact ⟨m.hr,m.ext,m.agree,fun i hi _=>hs i hi,fun i b hb=>(m.new i b hb).imp (fun ⟨hi,h⟩=>⟨hs i hi,h⟩) (·.2),m.ab⟩
theorem IC.trans {ρ ρ' ρ'':Env} {X:Nat->Prop} {h h' h'':H} {w:World} {M:Nat->Prop} {I J B C:List Nat} (a:IC ρ X h w M ρ' h' I B) (b:IC ρ' X h' w M ρ'' h'' J C):IC ρ X h w M ρ'' h'' (I++J) (B++C) where
 hr:=b.hr
 ext:=a.ext.trans b.ext
 agree:=fun i hi=>by
  have h1:=b.agree i (Nat.lt_of_lt_of_le hi a.ext.len)
  have h2:=a.agree i hi
  exact ⟨h1.1.trans h2.1,h1.2.trans h2.2⟩
 ab:=b.ab.trans a.ab
 same:=fun i hi hn=>by
  rw [b.same i (Nat.lt_of_lt_of_le hi a.ext.len) (fun hm=>hn (List.mem_append_right _ hm)),a.same i hi (fun hm=>hn (List.mem_append_left _ hm))]
 new:=fun i k hk=>by
  rcases b.new i k hk with ⟨h1,h2⟩ | h1
  ·rcases a.new i k h2 with ⟨h3,h4⟩ | h3
   ·exact .inl ⟨h1.trans h3,h4⟩
   ·exact .inr (List.mem_append_left _ h3)
  ·exact .inr (List.mem_append_right _ h1)
theorem IC.refl {ρ:Env} {X:Nat->Prop} {h:H} {w:World} {M:Nat->Prop} (hr:HRM ρ X h w M):IC ρ X h w M ρ h [] []:=
 ⟨hr,HExt.refl ρ h,fun _ _=>⟨rfl,rfl⟩,fun _ _ _=>rfl,fun _ _ hb => .inl ⟨rfl,hb⟩,rfl⟩
theorem MayIn.rightC {ρ ρ':Env} {X:Nat->Prop} {h h':H} {w:World} {M:Nat->Prop} {I B C:List Nat} (m:MayIn ρ X h M (B++C)) (i:IC ρ X h w M ρ' h' I B):MayIn ρ' X h' M C where
 nd:=(List.nodup_append.1 m.nd).2.1
 m:=fun b hb=>m.m b (List.mem_append.2 (.inr hb))
 x:=fun b hb=>m.x b (List.mem_append.2 (.inr hb))
 no:=fun b hb k hk=>by
  rcases i.new k b hk with ⟨_,h1⟩ | h1
  ·exact m.no b (List.mem_append.2 (.inr hb)) k h1
  ·exact (List.nodup_append.1 m.nd).2.2 b h1 b hb rfl
theorem IC.setB {ρ:Env} {X:Nat->Prop} {h:H} {w:World} {M:Nat->Prop} (hr:HRM ρ X h w M) {i:Nat} (hi:i<h.length) (_hd:getH h i = .dead) (hm:MayIn ρ X h M [ρ.blk i]) {bx:Box} (hbo:∀ b,bOf ρ i bx=some b↔b=ρ.blk i) (hna:∀ ver fr sz l,bx ≠ .acc ver fr sz l) (hbx:HExt ρ h ρ (setH h i bx)->BR ρ (setH h i bx) w M i bx):
  IC ρ X h w M ρ (setH h i bx) [i] [ρ.blk i]:=by
 have hx:HExt ρ h ρ (setH h i bx):=⟨by simp,fun j hj ver fr sz l hh=>by
  by_cases hij:i=j
  ·subst hij;rw [getH_setH_same _ hj] at hh;exact absurd hh (hna ver fr sz l)
  ·rw [getH_setH_ne _ hij] at hh
   exact ⟨ver,fr,sz,l,hh,.inr ⟨rfl,rfl,rfl,rfl⟩⟩,fun _ _=>rfl,rfl⟩
 have hnew:∀ j b,bOf ρ j (getH (setH h i bx) j)=some b->(i≠j/\getH (setH h i bx) j=getH h j/\bOf ρ j (getH h j)=some b)\/(i=j/\b=ρ.blk i):=fun j b hb=>by
  by_cases hij:i=j
  ·subst hij
   rw [getH_setH_same _ hi] at hb
   exact .inr ⟨rfl,(hbo b).1 hb⟩
  ·have:=getH_setH_ne (h:=h) bx hij
   rw [this] at hb
   exact .inl ⟨hij,this,hb⟩
 refine ⟨⟨fun j => ?_,fun a c b ha hc => ?_,fun a b ha => ?_,fun b hb => ?_,hr.glob⟩,hx,fun _ _=>⟨rfl,rfl⟩,fun j hj hn=>getH_setH_ne _ (fun e=>hn (by simp [e])),fun j b hb => ?_,rfl⟩
 ·by_cases hij:i=j
  ·subst hij
   rw [getH_setH_same _ hi]
   exact hbx hx
  ·rw [getH_setH_ne _ hij]
   exact (hr.box j).mono' hx (fun _ _ h=>h) (fun _ _ _ _ _=>rfl) (fun _ _ _=>rfl) (fun _ _=>rfl)
 ·rcases hnew a b ha with ⟨_,_,h4⟩ | ⟨rfl,rfl⟩ <;> rcases hnew c _ hc with ⟨_,_,h5⟩ | ⟨rfl,h5⟩
  ·exact hr.inj a c b h4 h5
  ·subst h5;exact absurd h4 (hm.no _ (by simp) a)
  ·exact absurd h5 (hm.no _ (by simp) c)
  ·rfl
 ·rcases hnew a b ha with ⟨_,_,h4⟩ | ⟨rfl,rfl⟩
  ·exact hr.out a b h4
  ·exact hm.x _ (by simp)
 ·rcases hb with hb | ⟨j,h4,h5⟩
  ·exact hr.sub b (.inl hb)
  ·rcases hnew j b h5 with ⟨_,h6,h7⟩ | ⟨rfl,rfl⟩
   ·exact hr.sub b (.inr ⟨j,by rw [<- h6];exact h4,h7⟩)
   ·exact hm.m _ (by simp)
 ·rcases hnew j b hb with ⟨_,h6,h7⟩ | ⟨rfl,rfl⟩
  ·exact .inl ⟨h6,h7⟩
  ·exact .inr (by simp)
theorem MayIn.perm {ρ:Env} {X:Nat->Prop} {h:H} {M:Nat->Prop} {B C:List Nat} (m:MayIn ρ X h M B) (hp:C.Perm B):MayIn ρ X h M C:=
 ⟨hp.nodup_iff.2 m.nd,fun b hb=>m.m b (hp.mem_iff.1 hb),fun b hb=>m.x b (hp.mem_iff.1 hb),fun b hb=>m.no b (hp.mem_iff.1 hb)⟩
theorem IC.set {ρ:Env} {X:Nat->Prop} {h:H} {w:World} {M:Nat->Prop} (hr:HRM ρ X h w M) {i:Nat} (hi:i<h.length) (hd:getH h i = .dead) (hm:MayIn ρ X h M [ρ.blk i]) {cs:List SV} {cur:Array Value} {ty:TypeId}
  (h1:w.heap[ρ.blk i]? = some (.cells cur ty (0,0))) (h2:cs.length<=cur.size) (h3:∀ (j:Nat) (s:SV),cs[j]? = some s->plain (cur.getD j undef)/\VR ρ h w M s (cur.getD j undef)):
  IC ρ X h w M ρ (setH h i (.cells false cs)) [i] [ρ.blk i]:=
 IC.setB hr hi hd hm (fun b=>by simp [bOf,eq_comm]) (fun _ _ _ _ h=>by cases h) fun hx=>⟨cur,ty,h1,h2,fun j s hs=>by
  obtain ⟨hp,hv⟩:=h3 j s hs
  have hj:j<cur.size:=Nat.lt_of_lt_of_le (List.getElem?_eq_some_iff.1 hs).1 h2
  exact ⟨cur[j],by simp [hj],by simpa [hj] using hp,by simpa [hj] using hv.mono hx (fun _ _ h=>h)⟩⟩
theorem IC.setRc {ρ:Env} {X:Nat->Prop} {h:H} {w:World} {M:Nat->Prop} (hr:HRM ρ X h w M) {i:Nat} (hi:i<h.length) (hd:getH h i = .dead) (hm:MayIn ρ X h M [ρ.blk i]) {fx:Loop} {ts:List Nat} {env:List CV} {bx:List Nat} {n:Nat} {s:Option Nat}
  (h1:w.heap[ρ.blk i]? = some (.loop (recOf fx s))) (h2:bx.length=n) (h3:∀ (j b:Nat),bx[j]? = some b->i+1+j<h.length/\ρ.blk (i+1+j)=b) (h4:EnvR w M ts env bx fx.tmps):
  IC ρ X h w M ρ (setH h i (.rc (ρ.blk i) fx ts env bx n s)) [i] [ρ.blk i]:=
 IC.setB hr hi hd hm (fun b=>by simp [bOf,eq_comm]) (fun _ _ _ _ h=>by cases h) fun _=>⟨rfl,h1,h2,by simpa using hi,fun j b hj=>by
  obtain ⟨h5,h6⟩:=h3 j b hj
  exact ⟨by simpa using h5,h6⟩,h4⟩
theorem no_rcd {w:World} {M:Nat->Prop} {l:Nat} {fx:Loop} {ts:List Nat} {env:List CV} {bs:List Nat} {n:Nat} {q:Option Nat} {v:Value} {B:List Nat}:¬ OR w M (.rcd l fx ts env bs n q) v B:=fun h=>by
 generalize hx:CV.rcd l fx ts env bs n q=x at h
 cases h with
 | c _ _ h=>subst hx;cases h
 | ownN=>cases hx
 | own=>cases hx
 | box=>cases hx
 | agg=>cases hx
 | tup=>cases hx
 | mpo=>cases hx
theorem contsIn_sound {X:Nat->Prop} {w:World} {M:Nat->Prop}:∀ (is:List Nat) (cs:List (List CV)) (ρ:Env) (h h':H) (bs B:List Nat),HRM ρ X h w M->contsIn is cs h=some h'->(∀ i∈is,i<h.length/\getH h i = .dead)->is.Nodup->
  is.map ρ.blk=bs->ContR w M bs cs B->MayIn ρ X h M B->∃ ρ',IC ρ X h w M ρ' h' is B
 | [],[],ρ,h,h',bs,B,hr,hc,_,_,hb,hco,_=>by
  simp only [contsIn,Option.some.injEq] at hc
  subst hc hb
  simp only [ContR,List.map_nil] at hco
  subst hco
  exact ⟨ρ,IC.refl hr⟩
 | i::is,c::cs,ρ,h,h',bs,B,hr,hc,hd,hn,hb,hco,hm=>by
  subst hb
  simp only [contsIn] at hc
  rw [List.map_cons] at hco
  obtain ⟨hi,hdi⟩:=hd i (by simp)
  rcases hco with ⟨cur,ty,Bs,B2,h1,h2,h3,h4,rfl⟩ | ⟨fx,ts,env,bx,n,q,B2,rfl,h1,h2,h3,h5,h4,rfl⟩
  case inr=>
   simp only at hc
   replace hc:=cond_some hc
   obtain ⟨hpre,hc⟩:=hc
   have htake:=preN_take hpre
   have hm2:MayIn ρ X h M ([ρ.blk i]++B2):=hm
   have hbl:∀ (j b:Nat),bx[j]? = some b->i+1+j<h.length/\ρ.blk (i+1+j)=b:=fun j b hj=>by
    have hjn:j<n:=by
     have:=(List.getElem?_eq_some_iff.1 hj).1
     omega
    have e1:is[j]? = some (i+1+j):=by
     have:(is.take n)[j]? = some (i+1+j):=by rw [htake,List.getElem?_range' hjn];simp
     rwa [List.getElem?_take_of_lt hjn] at this
    refine ⟨(hd _ (by simp [List.mem_of_getElem? e1])).1,?_⟩
    rw [<- h3,List.getElem?_take_of_lt hjn,List.getElem?_map,e1] at hj
    simpa using hj
   have m2:=IC.setRc hr hi hdi hm2.left (fx:=fx) (ts:=ts) (env:=env) (s:=q) h1 h2 hbl h5
   have hag:∀ k∈is,k<(setH h i (.rc (ρ.blk i) fx ts env bx n q)).length/\getH (setH h i (.rc (ρ.blk i) fx ts env bx n q)) k = .dead:=fun k hk=>by
    obtain ⟨hk1,hk2⟩:=hd k (by simp [hk])
    refine ⟨by simpa using hk1,?_⟩
    rw [m2.same k hk1 (fun e => ?_)]
    ·exact hk2
    ·simp at e
     subst e
     exact (List.nodup_cons.1 hn).1 hk
   obtain ⟨ρ',m3⟩:=contsIn_sound is cs ρ _ h' (is.map ρ.blk) B2 m2.hr hc hag (List.nodup_cons.1 hn).2 rfl h4 (hm2.rightC m2)
   have m:=m2.trans m3
   exact ⟨ρ',⟨m.hr,m.ext,m.agree,fun k hk hkn=>m.same k hk (by simpa using hkn),fun k b hb=>(m.new k b hb).imp id fun hb=>hb,m.ab⟩⟩
  replace hc:contsIn is cs (setH (imL (im depth) c h).2 i (.cells false (imL (im depth) c h).1))=some h':=by
   split at hc
   ·rename_i l fx ts env bs n q
    obtain ⟨_,ho⟩:=h3 0 _ rfl
    exact absurd ho no_rcd
   ·exact hc
  have hperm:((cat c.length Bs++[ρ.blk i])++B2).Perm ((ρ.blk i::cat c.length Bs)++B2):=by
   refine List.Perm.append_right _ ?_
   exact List.perm_append_comm.trans (by simp)
  have hm2:=hm.perm hperm
  obtain ⟨ρ1,m1,hl,hv⟩:=imL_sound (im_sound depth) c ρ h (fun j=>cur.getD j undef) Bs hr (fun j x hx=>(h3 j x hx).2) (hm2.left.left)
  have hi1:i<(imL (im depth) c h).2.length:=Nat.lt_of_lt_of_le hi m1.ext.len
  have hb1:ρ1.blk i=ρ.blk i:=(m1.agree i hi).2
  have hd1:getH (imL (im depth) c h).2 i = .dead:=by rw [m1.toIC.same i hi (by simp)];exact hdi
  have m2:=IC.set m1.hr hi1 hd1 (by rw [hb1];exact hm2.left.rightC m1.toIC) (by rw [hb1];exact h1) (by rw [hl];exact h2) (fun j s hs=>by
   have hj:j<c.length:=by rw [<- hl];exact (List.getElem?_eq_some_iff.1 hs).1
   exact ⟨(h3 j c[j] (by simp [hj])).1,hv j s hs⟩)
  rw [hb1] at m2
  have m12:=m1.toIC.trans m2
  rw [List.nil_append] at m12
  have hag:∀ k∈is,k<(setH (imL (im depth) c h).2 i (.cells false (imL (im depth) c h).1)).length/\getH (setH (imL (im depth) c h).2 i (.cells false (imL (im depth) c h).1)) k = .dead:=fun k hk=>by
   obtain ⟨hk1,hk2⟩:=hd k (by simp [hk])
   refine ⟨Nat.lt_of_lt_of_le hk1 m12.ext.len,?_⟩
   rw [m12.same k hk1 (fun e => ?_)]
   ·exact hk2
   ·simp at e
    subst e
    exact (List.nodup_cons.1 hn).1 hk
  have hmap:is.map ρ1.blk=is.map ρ.blk:=List.map_congr_left fun k hk=>(m1.agree k (hd k (by simp [hk])).1).2
  obtain ⟨ρ',m3⟩:=contsIn_sound is cs ρ1 _ h' (is.map ρ.blk) B2 m12.hr hc hag (List.nodup_cons.1 hn).2 hmap h4 (hm2.rightC m12)
  have m:=m12.trans m3
  refine ⟨ρ',⟨m.hr,m.ext,m.agree,fun k hk hkn=>m.same k hk (by simpa using hkn),fun k b hb=>(m.new k b hb).imp id fun hb => ?_,m.ab⟩⟩
  exact (hperm.mem_iff).1 hb
 | [],_::_,_,_,_,_,_,_,hc,_,_,_,_,_=>by simp [contsIn] at hc
 | _::_,[],_,_,_,_,_,_,hc,_,_,_,_,_=>by simp [contsIn] at hc
end
end Go.Ab

namespace Go.Ab
open Go
set_option maxRecDepth 100000
theorem isSet_some {P:Program} {t:TypeId} (h:isSet P t=true):∃ k e,P.underlying t=some (.map k e)/\P.underlying k=some (.int .i64)/\∃ i,P.info? e=some i/\i.zero=some (.bool false):=by
 unfold isSet at h
 split at h
 ·rename_i k e hu
  split at h
  ·rename_i hk he
   obtain ⟨i,hi,hz⟩:=bind_some' he
   exact ⟨k,e,hu,hk,i,hi,hz⟩
  ·cases h
 ·cases h
theorem findNow_set (n:Int):∀ (l:List MapEntry) (ks:List Int) (i:Nat),l.map (fun e=>(e.key,e.val))=ks.map (fun n=>(Value.int .i64 n,Value.bool true))->
  (ks.contains n=false/\Instr.findNow (.int .i64) (.int .i64 n) l i=some none)\/(ks.contains n=true/\∃ j e,l[j]? = some e/\e.key = .int .i64 n/\e.val = .bool true/\Instr.findNow (.int .i64) (.int .i64 n) l i=some (some (i+j,.bool true)))
 | [],[],i,_ => .inl ⟨rfl,rfl⟩
 | [],_::_,_,h=>by simp at h
 | _::_,[],_,h=>by simp at h
 | e::l,k::ks,i,h=>by
  simp only [List.map_cons,List.cons.injEq,Prod.mk.injEq] at h
  obtain ⟨⟨h1,h2⟩,h3⟩:=h
  by_cases hk:n=k
  ·subst hk
   refine .inr ⟨by simp,0,e,rfl,h1,h2,?_⟩
   simp [Instr.findNow,h1,h2,Instr.sameNow]
  ·have hne:(n==k)=false:=beq_eq_false_iff_ne.2 hk
   have hf:Instr.findNow (.int .i64) (.int .i64 n) (e::l) i=Instr.findNow (.int .i64) (.int .i64 n) l (i+1):=by
    simp [Instr.findNow,h1,Instr.sameNow,hne]
   have hc:(k::ks).contains n=ks.contains n:=by
    simp only [List.contains_cons,hne,Bool.false_or]
   rw [hf,hc]
   rcases findNow_set n l ks (i+1) h3 with ⟨q1,q2⟩ | ⟨q1,j,e',q2,q3,q4,q5⟩
   ·exact .inl ⟨q1,q2⟩
   ·exact .inr ⟨q1,j+1,e',by simpa using q2,q3,q4,by rw [q5,show i+1+j=i+(j+1) by omega]⟩
section
variable {β:Type} {cx:Cx} {o:Oper} {st:St} {h:H} {r:β} {K:SV->H->Option β}
theorem isFMap_some {P:Program} {t:TypeId} (h:isFMap P t=true):∃ k e,P.underlying t=some (.map k e)/\P.underlying k=some (.int .i64)/\∃ i z,P.info? e=some i/\i.zero=some z:=by
 unfold isFMap at h
 split at h
 ·rename_i k e hu
  split at h
  ·rename_i hk _ he
   obtain ⟨i,hi,hz⟩:=bind_some' he
   exact ⟨k,e,hu,hk,i,_,hi,hz⟩
  ·cases h
 ·cases h
theorem makeF_sound {t:TypeId} (ho:o.op = .makeMap t none) (hK:K (.mp h.length) (h++[.mpf [] []])=some r):OpS cx o st h K r:=by
 refine ⟨_,_,hK,fun ρ X a w rr => ?_⟩
 obtain ⟨h1,h2⟩:=HR.new rr.hr (w':=w.alloc (.map #[] 0)) (by simp) (fun b hb=>heap_alloc_old w _ b hb) (.mpf [] []) .nilIface w.heap.size
  (fun b hb=>by simp [bOf] at hb;omega) (fun _=>⟨#[],0,by simpa using heap_alloc_new w _,rfl,rfl,fun j x hj=>by simp at hj⟩)
 refine .value (w':=w.alloc (.map #[] 0)) (v := .map (some w.heap.size)) ?_ ⟨_,h1,.mp _ _ (by simp) (by simp),h2⟩
 simp [execOp,ho,Instr.makeMap,newObj]
 rfl
theorem findNow_key (n:Int):∀ (l:List MapEntry) (ks:List Int) (i:Nat),l.map (·.key)=ks.map (Value.int .i64)->
  (n∉ks/\Instr.findNow (.int .i64) (.int .i64 n) l i=some none)\/(∃ (j:Nat) (e:MapEntry),ks[j]? = some n/\(∀ q,q<j->ks[q]? ≠ some n)/\l[j]? = some e/\Instr.findNow (.int .i64) (.int .i64 n) l i=some (some (i+j,e.val)))
 | [],[],i,_ => .inl ⟨by simp,rfl⟩
 | [],_::_,_,h=>by simp at h
 | _::_,[],_,h=>by simp at h
 | e::l,k::ks,i,h=>by
  simp only [List.map_cons,List.cons.injEq] at h
  obtain ⟨h1,h3⟩:=h
  by_cases hk:n=k
  ·subst hk
   refine .inr ⟨0,e,rfl,fun q hq=>by omega,rfl,?_⟩
   simp [Instr.findNow,h1,Instr.sameNow]
  ·have hne:(n==k)=false:=beq_eq_false_iff_ne.2 hk
   have hf:Instr.findNow (.int .i64) (.int .i64 n) (e::l) i=Instr.findNow (.int .i64) (.int .i64 n) l (i+1):=by
    simp [Instr.findNow,h1,Instr.sameNow,hne]
   rw [hf]
   rcases findNow_key n l ks (i+1) h3 with ⟨q1,q2⟩ | ⟨j,e',q1,q2,q3,q4⟩
   ·exact .inl ⟨by simp [hk,q1],q2⟩
   ·refine .inr ⟨j+1,e',by simpa using q1,fun q hq => ?_,by simpa using q3,by rw [q4,show i+1+j=i+(j+1) by omega]⟩
    cases q with
    | zero=>simpa using Ne.symm hk
    | succ q=>simpa using q2 q (by omega)
theorem putF_sound {t:TypeId} {m k x:Operand} (ho:o.op = .mapUpdate t m k x\/o.op = .insert t m k x) (hs:isFMap cx.P t=true) (hK:putF (ev cx.P st 0 m) (ev cx.P st 0 k) (ev cx.P st 0 x) h K=some r):OpS cx o st h K r:=by
 obtain ⟨kt,et,hu,hk,_⟩:=isFMap_some hs
 unfold putF at hK
 split at hK
 ·rename_i i n hm1 hk1
  split at hK
  ·rename_i ks vs hg
   cases hc:ks.contains n with
   | true=>rw [hc] at hK;cases hK
   | false=>
    rw [hc,cond_false] at hK
    have hnk:n∉ks:=by simpa using hc
    refine ⟨_,_,hK,fun ρ X a w rr => ?_⟩
    have vm:=ev_sound rr 0 m
    have vk:=ev_sound rr 0 k
    have vx:=ev_sound rr 0 x
    rw [hm1] at vm
    rw [hk1] at vk
    generalize hvm:a.eval m=um at vm
    generalize hvk:a.eval k=uk at vk
    generalize hvx:a.eval x=ux at vx
    cases vm with
    | mp _ _ hi hv=>
     subst hv
     cases vk with
     | c _ _ ck=>
      cases ck
      have hbx:=rr.hr.box i
      rw [hg] at hbx
      obtain ⟨es,clk,h4,h5,h6,h7⟩:=hbx
      have hkey:MapKept.IsKey (.int .i64) (.int .i64 n):=by simp [MapKept.IsKey]
      have hsz:es.size=vs.length:=by
       have:=congrArg List.length h5
       simpa [h6] using this
      rcases findNow_key n es.toList ks 0 h5 with ⟨_,c2⟩ | ⟨j,e0,c1,_⟩
      ·obtain ⟨hs1,hs2⟩:=MapKept.heap_set (o' := .map (es.push {key := .int .i64 n,val:=ux,born:=clk}) (clk+1)) h4
       obtain ⟨q1,q2⟩:=HR.upd rr.hr (w':={w with heap:=w.heap.setIfInBounds (ρ.blk i) (.map (es.push {key := .int .i64 n,val:=ux,born:=clk}) (clk+1))}) (i:=i) (by rw [hg];rfl) (.mpf (ks++[n]) (vs++[ev cx.P st 0 x])) (ρ.cur i) (by simp)
        (fun b _ hne=>hs2 b fun e=>hne (by rw [hg,e];rfl)) (fun b hbb => .inl (by rw [hg];exact hbb)) ⟨by simp,fun j hj ver fr sz l hh=>by
         by_cases hij:i=j
         ·subst hij;rw [getH_setH_same _ hj] at hh;cases hh
         ·rw [getH_setH_ne _ hij] at hh
          exact ⟨ver,fr,sz,l,hh,.inr ⟨rfl,rfl,rfl,ρ.setCur_ne _ (Ne.symm hij)⟩⟩,fun _ _=>rfl,rfl⟩ (fun e=>⟨_,_,hs1,by rw [Array.toList_push,List.map_append,List.map_append,h5];rfl,by simp [h6],fun j y hj=>by
         rcases Nat.lt_or_ge j vs.length with hjl | hjl
         ·rw [List.getElem?_append_left hjl] at hj
          obtain ⟨e1,p1,p2⟩:=h7 j y hj
          refine ⟨e1,?_,e.vr p2⟩
          rw [Array.getElem?_push,if_neg (by omega)];exact p1
         ·rw [List.getElem?_append_right hjl] at hj
          have hj0:j - vs.length=0:=by
           rcases Nat.eq_zero_or_pos (j - vs.length) with h | h
           ·exact h
           ·rw [List.getElem?_eq_none (by show 1<=_;exact h)] at hj;cases hj
          rw [hj0] at hj
          cases hj
          refine ⟨{key := .int .i64 n,val:=ux,born:=clk},?_,e.vr vx⟩
          rw [Array.getElem?_push,if_pos (by omega)]⟩)
       refine .skip ?_ ⟨_,q1,.c _ _ (.tup [] #[] rfl fun j x hx=>by simp at hx),q2⟩
       rcases ho with ho | ho <;> simp [execOp,ho,hvm,hvk,hvx,Instr.mapUpdate,run_underlying hu,MapKept.run_getObj_map h4,MapKept.run_checkKey hk hkey,MapKept.run_findKey hk c2,MapKept.run_setObj_map _ h4,Result.andThen]
      ·exact absurd (List.mem_of_getElem? c1) hnk
  ·cases hK
 ·cases hK
theorem lookF_some {β:Type} {n:Int} {r:β} {K:SV->Option β} {D:Option β}:∀ {ks:List Int} {vs:List SV},lookF n ks vs K D=some r->
  (n∉ks/\D=some r)\/∃ (j:Nat) (v:SV),ks[j]? = some n/\(∀ q,q<j->ks[q]? ≠ some n)/\vs[j]? = some v/\K v=some r
 | [],[],h => .inl ⟨by simp,h⟩
 | k::ks,v::vs,h=>by
  unfold lookF at h
  cases hb:n==k with
  | true=>
   rw [hb] at h
   exact .inr ⟨0,v,by rw [eq_of_beq hb];rfl,fun q hq=>by omega,rfl,h⟩
  | false=>
   rw [hb] at h
   have hne:n≠k:=beq_eq_false_iff_ne.1 hb
   rcases lookF_some h with ⟨h1,h2⟩ | ⟨j,u,h1,h2,h3,h4⟩
   ·exact .inl ⟨by simp [hne,h1],h2⟩
   ·refine .inr ⟨j+1,u,by simpa using h1,fun q hq => ?_,by simpa using h3,h4⟩
    cases q with
    | zero=>simpa using Ne.symm hne
    | succ q=>simpa using h2 q (by omega)
 | [],_::_,h=>by cases h
 | _::_,[],h=>by cases h
theorem lookF_sound {t:TypeId} {m k:Operand} (ho:o.op = .lookup t m k true)
  (hK:(bif isFMap cx.P t then (match ev cx.P st 0 m,ev cx.P st 0 k with
  | .mp i,.c (.int .i64 n)=>(match getH h i with
   | .mpf ks vs=>lookF n ks vs (fun v=>K (.tup [v,.c (.bool true)]) h) (K (.tup [.any,.c (.bool false)]) h)
   | _=>none)
  | _,_=>none) else none)=some r):OpS cx o st h K r:=by
 replace hK:=cond_some hK
 obtain ⟨hs,hK⟩:=hK
 obtain ⟨kt,et,hu,hk,ti,tz,hti,htz⟩:=isFMap_some hs
 split at hK
 ·rename_i i n hm1 hk1
  split at hK
  ·rename_i ks vs hg
   have two:∀ {ρ:Env} {w:World} {M:Nat->Prop} {s:SV} {v:Value} {b:Bool},VR ρ h w M s v->VR ρ h w M (.tup [s,.c (.bool b)]) (.tuple #[v,.bool b]):=fun hv => .tup _ _ rfl fun j x hx=>by
    match j with
    | 0=>cases hx;exact hv
    | 1=>cases hx;exact .c _ _ (.bool _)
    | j+2=>simp at hx
   have mk:∀ {sv:SV},K sv h=some r->(∀ ρ X a w,R cx ρ X st h a w->∃ v,(execOp a.eval o).run cx.P w = .ok (.value v) w/\VR ρ h w (Mut ρ X h) sv v)->OpS cx o st h K r:=fun hK hh=>
    ⟨_,_,hK,fun ρ X a w rr=>by
     obtain ⟨v,h1,h2⟩:=hh ρ X a w rr
     exact .value h1 (Post.same rr.hr h2)⟩
   have hsv:∃ sv,K sv h=some r/\(sv = .tup [.any,.c (.bool false)]/\n∉ks\/∃ (j:Nat) (v:SV),sv = .tup [v,.c (.bool true)]/\ks[j]? = some n/\(∀ q,q<j->ks[q]? ≠ some n)/\vs[j]? = some v):=by
    rcases lookF_some hK with ⟨h1,h2⟩ | ⟨j,v,h1,h2,h3,h4⟩
    ·exact ⟨_,h2,.inl ⟨rfl,h1⟩⟩
    ·exact ⟨_,h4,.inr ⟨j,v,rfl,h1,h2,h3⟩⟩
   clear hK
   obtain ⟨sv,hK,hsv⟩:=hsv
   refine mk hK fun ρ X a w rr => ?_
   have vm:=ev_sound rr 0 m
   have vk:=ev_sound rr 0 k
   rw [hm1] at vm
   rw [hk1] at vk
   generalize hvm:a.eval m=um at vm
   generalize hvk:a.eval k=uk at vk
   cases vm with
   | mp _ _ hi hv=>
    subst hv
    cases vk with
    | c _ _ ck=>
     cases ck
     have hbx:=rr.hr.box i
     rw [hg] at hbx
     obtain ⟨es,clk,h4,h5,h6,h7⟩:=hbx
     have hkey:MapKept.IsKey (.int .i64) (.int .i64 n):=by simp [MapKept.IsKey]
     rcases findNow_key n es.toList ks 0 h5 with ⟨c1,c2⟩ | ⟨j,e0,c1,c2,c3,c4⟩
     ·refine ⟨.tuple #[tz,.bool false],by simp [execOp,ho,hvm,hvk,Instr.lookup,run_underlying hu,MapKept.run_getObj_map h4,MapKept.run_checkKey hk hkey,MapKept.run_findKey hk c2,Result.andThen,zeroValue,typeInfo,hti,htz],?_⟩
      rcases hsv with ⟨rfl,_⟩ | ⟨j,v,_,q,_⟩
      ·exact two (.any _)
      ·exact absurd (List.mem_of_getElem? q) c1
     ·refine ⟨.tuple #[e0.val,.bool true],by simp [execOp,ho,hvm,hvk,Instr.lookup,run_underlying hu,MapKept.run_getObj_map h4,MapKept.run_checkKey hk hkey,MapKept.run_findKey hk c4,Result.andThen],?_⟩
      rcases hsv with ⟨_,q⟩ | ⟨j',v,rfl,q1,q2,q3⟩
      ·exact absurd (List.mem_of_getElem? c1) q
      ·obtain rfl:j'=j:=by
        rcases Nat.lt_trichotomy j j' with h | h | h
        ·exact absurd c1 (q2 j h)
        ·exact h.symm
        ·exact absurd q1 (c2 j' h)
       obtain ⟨e1,p1,p2⟩:=h7 j' v q3
       have:es[j']? = some e0:=by simpa using c3
       rw [this] at p1
       cases p1
       exact two p2
  ·cases hK
 ·cases hK
theorem makeSet_sound {t:TypeId} (ho:o.op = .makeMap t none) (hK:(bif isSet cx.P t then K (.mp h.length) (h++[.mp false []]) else bif isFMap cx.P t then K (.mp h.length) (h++[.mpf [] []]) else none)=some r):OpS cx o st h K r:=by
 cases hss:isSet cx.P t with
 | false=>
  rw [hss,cond_false] at hK
  exact makeF_sound ho (cond_some hK).2
 | true=>
 rw [hss,cond_true] at hK
 refine ⟨_,_,hK,fun ρ X a w rr => ?_⟩
 obtain ⟨h1,h2⟩:=HR.new rr.hr (w':=w.alloc (.map #[] 0)) (by simp) (fun b hb=>heap_alloc_old w _ b hb) (.mp false []) .nilIface w.heap.size
  (fun b hb=>by simp [bOf] at hb;omega) (fun _=>⟨#[],0,by simpa using heap_alloc_new w _,rfl⟩)
 refine .value (w':=w.alloc (.map #[] 0)) (v := .map (some w.heap.size)) ?_ ⟨_,h1,.mp _ _ (by simp) (by simp),h2⟩
 simp [execOp,ho,Instr.makeMap,newObj]
 rfl
theorem mapUpdate_sound {t:TypeId} {m k x:Operand} (ho:o.op = .mapUpdate t m k x)
  (hK:(bif isSet cx.P t then (match ev cx.P st 0 m,ev cx.P st 0 k,ev cx.P st 0 x with
  | .mp i,.c (.int .i64 n),.c (.bool true)=>(match getH h i with
   | .mp false ks=>K UND (setH h i (.mp false (insK ks n)))
   | _=>none)
  | _,_,_=>none) else none)=some r):OpS cx o st h K r:=by
 replace hK:=cond_some hK
 obtain ⟨hs,hK⟩:=hK
 obtain ⟨kt,et,hu,hk,_⟩:=isSet_some hs
 split at hK
 ·rename_i i n hm1 hk1 hx1
  split at hK
  ·rename_i ks hg
   refine ⟨_,_,hK,fun ρ X a w rr => ?_⟩
   have vm:=ev_sound rr 0 m
   have vk:=ev_sound rr 0 k
   have vx:=ev_sound rr 0 x
   rw [hm1] at vm
   rw [hk1] at vk
   rw [hx1] at vx
   generalize hvm:a.eval m=um at vm
   generalize hvk:a.eval k=uk at vk
   generalize hvx:a.eval x=ux at vx
   cases vm with
   | mp _ _ hi hv=>
    subst hv
    cases vk with
    | c _ _ ck=>
     cases ck
     cases vx with
     | c _ _ cx'=>
      cases cx'
      have hbx:=rr.hr.box i
      rw [hg] at hbx
      obtain ⟨es,clk,h4,h5⟩:=hbx
      have hkey:MapKept.IsKey (.int .i64) (.int .i64 n):=by simp [MapKept.IsKey]
      have fin:∀ (es':Array MapEntry) (clk':Nat),MapR es' (insK ks n)->(execOp a.eval o).run cx.P w = .ok .skip {w with heap:=w.heap.setIfInBounds (ρ.blk i) (.map es' clk')}->OpOK cx.P o a w (Post ρ X h w UND (setH h i (.mp false (insK ks n)))):=fun es' clk' hr' hrun=>by
       obtain ⟨hs1,hs2⟩:=MapKept.heap_set (o' := .map es' clk') h4
       obtain ⟨q1,q2⟩:=HR.upd rr.hr (w':={w with heap:=w.heap.setIfInBounds (ρ.blk i) (.map es' clk')}) (i:=i) (by rw [hg];rfl) (.mp false (insK ks n)) (ρ.cur i) (by simp)
        (fun b _ hne=>hs2 b fun e=>hne (by rw [hg,e];rfl)) (fun b hbb => .inl (by rw [hg];exact hbb)) ⟨by simp,fun j hj ver fr sz l hh=>by
         by_cases hij:i=j
         ·subst hij;rw [getH_setH_same _ hj] at hh;cases hh
         ·rw [getH_setH_ne _ hij] at hh
          exact ⟨ver,fr,sz,l,hh,.inr ⟨rfl,rfl,rfl,ρ.setCur_ne _ (Ne.symm hij)⟩⟩,fun _ _=>rfl,rfl⟩ (fun _=>⟨es',clk',hs1,hr'⟩)
       exact .skip hrun ⟨_,q1,.c _ _ (.tup [] #[] rfl fun j x hx=>by simp at hx),q2⟩
      rcases findNow_set n es.toList ks 0 h5 with ⟨c1,c2⟩ | ⟨c1,j,e0,c2,c3,c4,c5⟩
      ·refine fin (es.push {key := .int .i64 n,val := .bool true,born:=clk}) (clk+1) ?_ ?_
       ·unfold MapR insK
        rw [c1,cond_false,Array.toList_push,List.map_append,List.map_append,h5]
        rfl
       ·simp [execOp,ho,hvm,hvk,hvx,Instr.mapUpdate,run_underlying hu,MapKept.run_getObj_map h4,MapKept.run_checkKey hk hkey,MapKept.run_findKey hk c2,MapKept.run_setObj_map _ h4,Result.andThen]
      ·have c2':es[j]? = some e0:=by simpa using c2
       have hj:j<es.size:=(Array.getElem?_eq_some_iff.1 c2').1
       refine fin (es.modify j fun e=>{e with key := .int .i64 n,val := .bool true}) clk ?_ ?_
       ·unfold MapR insK
        rw [c1,cond_true,<- h5]
        refine List.ext_getElem? fun q => ?_
        simp only [List.getElem?_map,Array.getElem?_toList,Array.getElem?_modify]
        by_cases hq:j=q
        ·subst hq
         simp [c2',c3,c4]
        ·simp [hq]
       ·simp only [Nat.zero_add] at c5
        simp [execOp,ho,hvm,hvk,hvx,Instr.mapUpdate,run_underlying hu,MapKept.run_getObj_map h4,MapKept.run_checkKey hk hkey,MapKept.run_findKey hk c5,c2',c3,MapKept.run_keyThatStays hkey,MapKept.run_setObj_map _ h4,Result.andThen]
  ·cases hK
 ·cases hK
theorem lookup_sound {t:TypeId} {m k:Operand} (ho:o.op = .lookup t m k false)
  (hK:(bif isSet cx.P t then (match ev cx.P st 0 m,ev cx.P st 0 k with
  | .c (.mp ks),.c (.int .i64 n)=>K (.c (.bool (ks.contains n))) h
  | .mp i,.c (.int .i64 n)=>(match getH h i with
   | .mp _ ks=>K (.c (.bool (ks.contains n))) h
   | _=>none)
  | _,_=>none) else none)=some r):OpS cx o st h K r:=by
 replace hK:=cond_some hK
 obtain ⟨hs,hK⟩:=hK
 obtain ⟨kt,et,hu,hk,ti,hti,htz⟩:=isSet_some hs
 have fin:∀ (a:Act) (w:World) (ks:List Int) (n:Int) (b:Nat) (es:Array MapEntry) (clk:Nat),w.heap[b]? = some (.map es clk)->MapR es ks->a.eval m = .map (some b)->a.eval k = .int .i64 n->(execOp a.eval o).run cx.P w = .ok (.value (.bool (ks.contains n))) w:=fun a w ks n b es clk h4 h5 hvm hvk=>by
  have hkey:MapKept.IsKey (.int .i64) (.int .i64 n):=by simp [MapKept.IsKey]
  rcases findNow_set n es.toList ks 0 h5 with ⟨c1,c2⟩ | ⟨c1,j,e0,c2,c3,c4,c5⟩
  ·rw [c1]
   simp [execOp,ho,hvm,hvk,Instr.lookup,run_underlying hu,MapKept.run_getObj_map h4,MapKept.run_checkKey hk hkey,MapKept.run_findKey hk c2,Result.andThen,zeroValue,typeInfo,hti,htz]
  ·rw [c1]
   simp [execOp,ho,hvm,hvk,Instr.lookup,run_underlying hu,MapKept.run_getObj_map h4,MapKept.run_checkKey hk hkey,MapKept.run_findKey hk c5,Result.andThen]
 split at hK
 ·rename_i ks n hm1 hk1
  refine ⟨_,_,hK,fun ρ X a w rr => ?_⟩
  have vm:=ev_sound rr 0 m
  have vk:=ev_sound rr 0 k
  rw [hm1] at vm
  rw [hk1] at vk
  generalize hvm:a.eval m=um at vm
  generalize hvk:a.eval k=uk at vk
  cases vm with
  | c _ _ cm=>
   cases cm with
   | mp _ b es clk hM hb h4 h5=>
    cases vk with
    | c _ _ ck=>
     cases ck
     exact .value (fin a w ks n b es clk h4 h5 hvm hvk) (Post.same rr.hr (.c _ _ (.bool _)))
 ·rename_i i n hm1 hk1
  split at hK
  ·rename_i fr ks hg
   refine ⟨_,_,hK,fun ρ X a w rr => ?_⟩
   have vm:=ev_sound rr 0 m
   have vk:=ev_sound rr 0 k
   rw [hm1] at vm
   rw [hk1] at vk
   generalize hvm:a.eval m=um at vm
   generalize hvk:a.eval k=uk at vk
   cases vm with
   | mp _ _ hi hv=>
    subst hv
    cases vk with
    | c _ _ ck=>
     cases ck
     have hbx:=rr.hr.box i
     rw [hg] at hbx
     obtain ⟨es,clk,h4,h5⟩:=hbx
     exact .value (fin a w ks n _ es clk h4 h5 hvm hvk) (Post.same rr.hr (.c _ _ (.bool _)))
  ·cases hK
 ·cases hK
end
end Go.Ab

namespace Go.Ab
open Go
set_option maxRecDepth 100000
def Nat1 {A:Type} (F:(β:Type)->(A->Option β)->Option β):Prop:=(∃ a,∀ β K,F β K=K a)\/∀ β K,F β K=none
def Nat2 {A B:Type} (F:(β:Type)->(A->B->Option β)->Option β):Prop:=(∃ a b,∀ β K,F β K=K a b)\/∀ β K,F β K=none
def Nat3 {A B C:Type} (F:(β:Type)->(A->B->C->Option β)->Option β):Prop:=(∃ a b c,∀ β K,F β K=K a b c)\/∀ β K,F β K=none
theorem Nat1.ret {A:Type} (a:A):Nat1 (fun _ K=>K a) := .inl ⟨a,fun _ _=>rfl⟩
theorem Nat2.ret {A B:Type} (a:A) (b:B):Nat2 (fun _ K=>K a b) := .inl ⟨a,b,fun _ _=>rfl⟩
theorem Nat3.ret {A B C:Type} (a:A) (b:B) (c:C):Nat3 (fun _ K=>K a b c) := .inl ⟨a,b,c,fun _ _=>rfl⟩
theorem Nat1.none {A:Type}:Nat1 (fun β (_:A->Option β)=>(none:Option β)) := .inr fun _ _=>rfl
theorem Nat2.none {A B:Type}:Nat2 (fun β (_:A->B->Option β)=>(none:Option β)) := .inr fun _ _=>rfl
theorem Nat3.none {A B C:Type}:Nat3 (fun β (_:A->B->C->Option β)=>(none:Option β)) := .inr fun _ _=>rfl
theorem Nat1.bind {A γ:Type} (o:Option γ) {F:γ->(β:Type)->(A->Option β)->Option β} (h:∀ x,Nat1 (F x)):Nat1 (fun β K=>o.bind fun x=>F x β K):=by
 cases o with
 | none=>exact .none
 | some x=>exact h x
theorem Nat2.bind {A B γ:Type} (o:Option γ) {F:γ->(β:Type)->(A->B->Option β)->Option β} (h:∀ x,Nat2 (F x)):Nat2 (fun β K=>o.bind fun x=>F x β K):=by
 cases o with
 | none=>exact .none
 | some x=>exact h x
theorem Nat3.bind {A B C γ:Type} (o:Option γ) {F:γ->(β:Type)->(A->B->C->Option β)->Option β} (h:∀ x,Nat3 (F x)):Nat3 (fun β K=>o.bind fun x=>F x β K):=by
 cases o with
 | none=>exact .none
 | some x=>exact h x
theorem Nat1.cond {A:Type} (b:Bool) {F G:(β:Type)->(A->Option β)->Option β} (hF:Nat1 F) (hG:Nat1 G):Nat1 (fun β K=>bif b then F β K else G β K):=by cases b <;> assumption
theorem Nat2.cond {A B:Type} (b:Bool) {F G:(β:Type)->(A->B->Option β)->Option β} (hF:Nat2 F) (hG:Nat2 G):Nat2 (fun β K=>bif b then F β K else G β K):=by cases b <;> assumption
theorem Nat3.cond {A B C:Type} (b:Bool) {F G:(β:Type)->(A->B->C->Option β)->Option β} (hF:Nat3 F) (hG:Nat3 G):Nat3 (fun β K=>bif b then F β K else G β K):=by cases b <;> assumption
theorem Nat2.ite {A B:Type} (p:Prop) [Decidable p] {F G:(β:Type)->(A->B->Option β)->Option β} (hF:Nat2 F) (hG:Nat2 G):Nat2 (fun β K=>if p then F β K else G β K):=by
 by_cases h:p <;> simpa [h]
theorem Nat2.seq1 {A B C:Type} {F:(β:Type)->(A->Option β)->Option β} (hF:Nat1 F) {G:A->(β:Type)->(B->C->Option β)->Option β} (hG:∀ a,Nat2 (G a)):Nat2 (fun β K=>F β fun a=>G a β K):=by
 rcases hF with ⟨a,h⟩ | h
 ·rcases hG a with ⟨x,y,h2⟩ | h2
  ·exact .inl ⟨x,y,fun β K=>(h β _).trans (h2 β K)⟩
  ·exact .inr fun β K=>(h β _).trans (h2 β K)
 ·exact .inr fun β K=>h β _
theorem Nat2.seq2 {A B C D:Type} {F:(β:Type)->(A->B->Option β)->Option β} (hF:Nat2 F) {G:A->B->(β:Type)->(C->D->Option β)->Option β} (hG:∀ a b,Nat2 (G a b)):Nat2 (fun β K=>F β fun a b=>G a b β K):=by
 rcases hF with ⟨a,b,h⟩ | h
 ·rcases hG a b with ⟨x,y,h2⟩ | h2
  ·exact .inl ⟨x,y,fun β K=>(h β _).trans (h2 β K)⟩
  ·exact .inr fun β K=>(h β _).trans (h2 β K)
 ·exact .inr fun β K=>h β _
theorem Nat3.seq2 {A B C D E:Type} {F:(β:Type)->(A->B->Option β)->Option β} (hF:Nat2 F) {G:A->B->(β:Type)->(C->D->E->Option β)->Option β} (hG:∀ a b,Nat3 (G a b)):Nat3 (fun β K=>F β fun a b=>G a b β K):=by
 rcases hF with ⟨a,b,h⟩ | h
 ·rcases hG a b with ⟨x,y,z,h2⟩ | h2
  ·exact .inl ⟨x,y,z,fun β K=>(h β _).trans (h2 β K)⟩
  ·exact .inr fun β K=>(h β _).trans (h2 β K)
 ·exact .inr fun β K=>h β _
theorem Nat3.seq3 {A B C D E G':Type} {F:(β:Type)->(A->B->C->Option β)->Option β} (hF:Nat3 F) {G:A->B->C->(β:Type)->(D->E->G'->Option β)->Option β} (hG:∀ a b c,Nat3 (G a b c)):Nat3 (fun β K=>F β fun a b c=>G a b c β K):=by
 rcases hF with ⟨a,b,c,h⟩ | h
 ·rcases hG a b c with ⟨x,y,z,h2⟩ | h2
  ·exact .inl ⟨x,y,z,fun β K=>(h β _).trans (h2 β K)⟩
  ·exact .inr fun β K=>(h β _).trans (h2 β K)
 ·exact .inr fun β K=>h β _
theorem Nat2.seq3 {A B C D E:Type} {F:(β:Type)->(A->B->C->Option β)->Option β} (hF:Nat3 F) {G:A->B->C->(β:Type)->(D->E->Option β)->Option β} (hG:∀ a b c,Nat2 (G a b c)):Nat2 (fun β K=>F β fun a b c=>G a b c β K):=by
 rcases hF with ⟨a,b,c,h⟩ | h
 ·rcases hG a b c with ⟨x,y,h2⟩ | h2
  ·exact .inl ⟨x,y,fun β K=>(h β _).trans (h2 β K)⟩
  ·exact .inr fun β K=>(h β _).trans (h2 β K)
 ·exact .inr fun β K=>h β _
def NatC (g:Callee):Prop:=∀ args conts,Nat2 (fun β K=>g.run args conts β K)
def NatL (L:LoopSem):Prop:=∀ vs cs,Nat3 (fun β K=>L.run vs cs β K)
theorem refine_nat {P:Program} {t:TypeId} {v:SV}:Nat1 (fun β K=>refine (β:=β) P t v K):=by
 unfold refine
 split
 ·split
  ·exact .bind _ fun _ => .ret _
  ·exact .bind _ fun _ => .ret _
  ·exact .bind _ fun _ => .ret _
  ·exact .ret _
 ·exact .ret _
theorem readCells_nat {P:Program} {A B:Type}:∀ (ts:List TypeId) (off:Nat) (cs:List CV) {F:List SV->(β:Type)->(A->B->Option β)->Option β},(∀ l,Nat2 (F l))->Nat2 (fun β K=>readCells P ts off cs fun l=>F l β K)
 | [],off,cs,F,h=>h []
 | t::ts,off,cs,F,h=>by
  simp only [readCells]
  exact .bind _ fun x => .seq1 refine_nat fun v=>readCells_nat ts (off+1) cs fun l=>h _
theorem pickVK_nat {P:Program} {t:TypeId} {agg:Bool} {s off:Nat} {cs:List CV} {A B:Type} {F:SV->(β:Type)->(A->B->Option β)->Option β} (h:∀ v,Nat2 (F v)):Nat2 (fun β K=>pickVK P t agg s off cs fun v=>F v β K):=by
 unfold pickVK
 exact .cond _ (.cond _ (readCells_nat _ _ _ fun _=>h _) .none) (.bind _ fun _ => .seq1 refine_nat fun _=>h _)
section
variable {cx:Cx}
theorem rf_nat {t:TypeId} {v:SV} {h:H}:Nat2 (fun β (K:SV->H->Option β)=>refine cx.P t v fun v=>K v h):=Nat2.seq1 refine_nat fun _ => .ret _ _
def NatYS (Y:YSem):Prop:=∀ args conts,Nat2 (fun β K=>Y args conts β K)
def NatI (G:ItSem):Prop:=∀ Y,NatYS Y->∀ caps conts,Nat2 (fun β K=>G Y caps conts β K)
def NatN (n:Inl):Prop:=∀ ss h,Nat2 (fun β K=>n.run ss h β K)
structure NatX (cx:Cx):Prop where
 c:∀ f g,cx.Γ f=some g->NatC g
 y:∀ y,cx.Y=some y->NatC y.2
 it:∀ f G,cx.It f=some G->NatI G
 rf:∀ q S,cx.rf q=some S->∀ env,NatYS (S.Y env)
 i:∀ f n,cx.I f=some n->NatN n:=by intro f n h;exact absurd (show none=some n from h) (by simp)
theorem callG_nat {g:Callee} (hg:NatC g) {args:List SV} {h:H}:Nat2 (fun β K=>callG (β:=β) cx g args h K):=by
 unfold callG
 exact .bind _ fun a => .bind _ fun c => .seq2 (hg _ _) fun rv co => .cond _ (.ret _ _) (.bind _ fun h' => .ret _ _)
theorem callF_nat {g:Callee} (hg:NatC g) {args:List SV} {h:H}:Nat2 (fun β K=>callF (β:=β) g args h K):=by
 unfold callF
 exact .bind _ fun a => .cond _ (.seq2 (hg _ _) fun rv co => .cond _ (.ret _ _) .none) .none
theorem callK_nat (hΓ:NatX cx) {f:FuncId} {args:List SV} {h:H}:Nat2 (fun β K=>callK (β:=β) cx f args h K):=by
 unfold callK
 split
 ·rename_i n hn
  exact hΓ.i f n hn _ _
 ·split
  ·exact .none
  ·rename_i g hg
   exact .cond _ (callF_nat (hΓ.c f g hg)) (callG_nat (hΓ.c f g hg))
theorem appendK_nat {t:TypeId} {s x:SV} {h:H}:Nat2 (fun β K=>appendK (β:=β) cx t s x h K):=by
 unfold appendK
 split
 ·refine .cond _ (.bind _ fun _ => ?_) .none
  split
  ·exact .ite _ (.ret _ _) .none
  ·split
   ·exact .cond _ (.ite _ (.ret _ _) .none) .none
   ·exact .none
  ·split
   ·exact .cond _ (.ite _ (.ret _ _) .none) .none
   ·exact .none
  ·exact .none
 ·exact .none
theorem copyK_nat {t:TypeId} {s x:SV} {h:H}:Nat2 (fun β K=>copyK (β:=β) cx t s x h K):=by
 unfold copyK
 split
 ·refine .cond _ (.bind _ fun _ => ?_) .none
  dsimp only
  split
  ·split
   ·split
    ·exact .cond _ (.ret _ _) .none
    ·exact .none
   ·exact .none
  ·split
   ·exact .cond _ (.ret _ _) .none
   ·exact .none
  ·exact .none
 ·exact .none
theorem appendZ_nat {t u:TypeId} {s x:SV} {h:H}:Nat2 (fun β K=>appendZ (β:=β) cx t u s x h K):=by
 unfold appendZ
 split
 ·exact .cond _ (.bind _ fun _ => .bind _ fun _ => .ite _ (.ret _ _) .none) .none
 ·exact .none
theorem clearK_nat {t:TypeId} {s:SV} {h:H}:Nat2 (fun β K=>clearK (β:=β) cx t s h K):=by
 unfold clearK
 split
 ·refine .cond _ (.bind _ fun _ => .bind _ fun _ => ?_) .none
  dsimp only
  split
  ·split
   ·split
    ·exact .cond _ (.ret _ _) .none
    ·exact .none
   ·exact .none
  ·split
   ·exact .cond _ (.ret _ _) .none
   ·exact .none
  ·exact .none
 ·exact .none
theorem builtinK_nat {b:Builtin} {ts:Array TypeId} {args:List SV} {h:H}:Nat2 (fun β K=>builtinK (β:=β) cx b ts args h K):=by
 unfold builtinK
 split
 ·split
  ·exact .ret _ _
  ·exact .bind _ fun _ => .ret _ _
  ·exact .none
 ·exact .cond _ appendK_nat appendZ_nat
 ·exact .cond _ copyK_nat .none
 ·split
  ·exact .ret _ _
  ·exact .none
 ·exact clearK_nat
 ·exact .bind _ fun _ => .ret _ _
 ·exact .bind _ fun _ => .ret _ _
 ·exact .none
theorem splitN_nat {n:Int} {f:Nat->SV} {h:H}:∀ m:Nat,Nat2 (fun β K=>splitN (β:=β) n m fun j=>K (f j) h)
 | 0 => .none
 | m+1=>by
  unfold splitN
  exact .cond _ (.ret _ _) (splitN_nat m)
theorem splitN_nat' {n:Int} {F:Nat->(β:Type)->(SV->H->Option β)->Option β} (hF:∀ j,Nat2 (F j)):∀ m:Nat,Nat2 (fun β K=>splitN (β:=β) n m fun j=>F j β K)
 | 0 => .none
 | m+1=>by
  unfold splitN
  exact .cond _ (hF m) (splitN_nat' hF m)
theorem indexK_nat {t:TypeId} {x ix:SV} {h:H}:Nat2 (fun β K=>indexK (β:=β) cx t x ix h K):=by
 unfold indexK
 split
 ·refine .cond _ ?_ .none
  split
  ·exact .cond _ (.bind _ fun _ => .ret _ _) .none
  ·split
   ·exact .cond _ (.ite _ (.ret _ _) .none) .none
   ·exact .none
  ·split
   ·exact .cond _ (.ite _ (.ret _ _) .none) .none
   ·exact .none
  ·exact .none
 ·refine .cond _ ?_ .none
  split
  ·exact .ite _ (.cond _ (.cond _ (splitN_nat _) (.ret _ _)) (.ret _ _)) .none
  ·exact .ite _ (.ret _ _) .none
  ·split
   ·exact .cond _ (.ite _ (.ret _ _) .none) .none
   ·exact .none
  ·exact .none
 ·exact .none
theorem loadK_nat {t:TypeId} {a:SV} {h:H}:Nat2 (fun β K=>loadK (β:=β) cx t a h K):=by
 unfold loadK
 refine .bind _ fun gs => ?_
 split
 ·split
  ·exact .bind _ fun _=>rf_nat
  ·exact .none
 ·exact pickVK_nat fun _ => .ret _ _
 ·split
  ·exact .cond _ (.bind _ fun _=>pickVK_nat fun _ => .ret _ _) .none
  ·exact .none
 ·split
  ·exact .bind _ fun _=>pickVK_nat fun _ => .ret _ _
  ·exact .none
 ·exact .none
theorem storeK_nat {t:TypeId} {a x:SV} {h:H}:Nat2 (fun β K=>storeK (β:=β) cx t a x h K):=by
 unfold storeK
 refine .bind _ fun gs => .bind _ fun xs => .cond _ ?_ .none
 split
 ·split
  ·exact .cond _ (.ret _ _) .none
  ·exact .none
 ·refine .bind _ fun r => ?_
  split
  ·exact .cond _ (.bind _ fun _ => .ite _ (.ret _ _) .none) .none
  ·exact .none
 ·split
  ·split
   ·refine .cond _ (.bind _ fun _ => .bind _ fun _ => .bind _ fun _ => ?_) .none
    split
    ·exact .ret _ _
    ·exact .none
   ·exact .none
  ·exact .none
 ·exact .none
theorem sliceK_nat {t:TypeId} {x:SV} {lo hi mx:Option Int} {h:H}:Nat2 (fun β K=>sliceK (β:=β) cx t x lo hi mx h K):=by
 unfold sliceK
 split
 ·refine .cond _ ?_ .none
  split
  ·exact .cond _ (.cond _ (.ret _ _) .none) .none
  ·exact .cond _ (.ret _ _) .none
  ·split
   ·exact .cond _ (.cond _ (.ret _ _) .none) .none
   ·exact .none
  ·split
   ·exact .cond _ (.cond _ (.ret _ _) .none) .none
   ·exact .none
  ·exact .none
 ·refine .cond _ ?_ .none
  split
  ·split
   ·exact .cond _ (.bind _ fun _ => .ret _ _) .none
   ·exact .none
  ·exact .cond _ (.ret _ _) .none
  ·exact .none
 ·exact .none
theorem buildK_nat {t:TypeId} {pl:Nat->Option (Nat×TypeId)} {st:St} {parts:List (Nat×Operand)} {h:H}:Nat2 (fun β K=>buildK (β:=β) cx t pl st parts h K):=by
 unfold buildK
 exact .bind _ fun _ => .bind _ fun _ => .cond _ (.ret _ _) .none
theorem newSlice_nat {d:Option Nat} {sz:Nat} {l:List (List CV)} {h:H}:Nat2 (fun β K=>newSlice (β:=β) cx d sz l h K):=by
 unfold newSlice
 exact .cond _ (.ret _ _) (.ret _ _)
theorem binK_nat {op:BinOp} {t:TypeId} {x y:SV} {h:H}:Nat2 (fun β K=>binK (β:=β) cx op t x y h K):=by
 unfold binK
 split
 ·simp only [binIK_eq]
  exact .bind _ fun _ => .ret _ _
 ·exact .bind _ fun _ => .ret _ _
 ·split
  ·exact .cond _ .none (.ret _ _)
  ·exact .cond _ .none (.ret _ _)
  ·exact .none
 ·exact .cond _ (.bind _ fun _ => .bind _ fun _ => .bind _ fun _ => .ret _ _) .none
theorem nilCheckK_nat {x:SV} {h:H}:Nat2 (fun β K=>nilCheckK (β:=β) x h K):=by
 unfold nilCheckK
 split
 ·exact .ret _ _
 ·split
  ·exact .cond _ (.ret _ _) .none
  ·exact .none
 ·exact .ret _ _
 ·exact .ret _ _
 ·exact .ret _ _
 ·exact .ret _ _
 ·exact .none
theorem yieldK_nat (hΓ:NatX cx) {l:Nat} {args:List SV} {h:H}:Nat2 (fun β K=>yieldK (β:=β) cx l args h K):=by
 unfold yieldK
 split
 ·exact .none
 ·rename_i y hy
  split
  ·exact .cond _ (.bind _ fun a => .cond _ (.bind _ fun c => .seq2 (hΓ.y y hy _ _) fun rv co => .bind _ fun h' => .ret _ _) .none) .none
  ·exact .none
theorem lookF_nat {n:Int} {h:H} {d:SV}:∀ (ks:List Int) (vs:List SV),Nat2 (fun β K=>lookF (β:=β) n ks vs (fun v=>K (.tup [v,.c (.bool true)]) h) (K d h))
 | [],[] => .ret _ _
 | [],_::_ => .none
 | _::_,[] => .none
 | _::ks,_::vs => .cond _ (.ret _ _) (lookF_nat ks vs)
theorem putF_nat {m k x:SV} {h:H}:Nat2 (fun β K=>putF (β:=β) m k x h K):=by
 unfold putF
 split
 ·split
  ·exact .cond _ .none (.ret _ _)
  ·exact .none
 ·exact .none
theorem opK_nat (hΓ:NatX cx) {o:Oper} {st:St} {h:H}:Nat2 (fun β K=>opK (β:=β) cx o st h K):=by
 unfold opK
 split
 ·exact .ret _ _
 ·exact .ret _ _
 ·split
  ·exact .cond _ (.ret _ _) (.ret _ _)
  ·exact .none
 ·exact .bind _ fun _ => .ret _ _
 ·exact .cond _ (.ret _ _) (.cond _ (.ret _ _) .none)
 ·refine .cond _ ?_ (.cond _ putF_nat .none)
  split
  ·split
   ·exact .ret _ _
   ·exact .none
  ·exact .none
 ·exact .cond _ putF_nat .none
 ·refine .cond _ ?_ .none
  split
  ·split
   ·exact lookF_nat _ _
   ·exact .none
  ·exact .none
 ·refine .cond _ ?_ .none
  split
  ·exact .ret _ _
  ·split
   ·exact .ret _ _
   ·exact .none
  ·exact .none
 ·exact .bind _ fun _ => .cond _ (.ret _ _) .none
 ·split
  ·exact .cond _ buildK_nat .none
  ·exact .cond _ buildK_nat .none
  ·exact .none
 ·split
  ·exact .cond _ (.bind _ fun _ => .bind _ fun _ => .cond _ (.bind _ fun _=>newSlice_nat) .none) .none
  ·exact .none
 ·exact loadK_nat
 ·exact storeK_nat
 ·exact nilCheckK_nat
 ·exact binK_nat
 ·split
  ·exact .bind _ fun _ => .ret _ _
  ·exact .none
 ·split
  ·exact .ret _ _
  ·exact .none
 ·exact .ret _ _
 ·split
  ·exact .cond _ (.bind _ fun _ => .bind _ fun _ => .ite _ newSlice_nat .none) .none
  ·exact .none
 ·exact .bind _ fun _ => .bind _ fun _ => .bind _ fun _=>sliceK_nat
 ·refine .bind _ fun _ => .cond _ .none ?_
  split
  ·exact .ret _ _
  ·exact .ret _ _
  ·split
   ·exact .cond _ (.ret _ _) .none
   ·exact .none
  ·exact .none
 ·refine .bind _ fun _ => .bind _ fun _ => ?_
  split
  ·exact .bind _ fun _=>rf_nat
  ·exact pickVK_nat fun _ => .ret _ _
  ·exact .none
 ·exact indexK_nat
 ·split
  ·refine .ite _ (.bind _ fun _ => .bind _ fun _ => ?_) .none
   split
   ·exact .cond _ (splitN_nat' (fun _=>pickVK_nat fun _ => .ret _ _) _) (pickVK_nat fun _ => .ret _ _)
   ·exact .none
  ·exact .none
 ·split
  ·exact .bind _ fun _ => .ret _ _
  ·exact .bind _ fun _ => .ret _ _
  ·exact .none
 ·split
  ·exact builtinK_nat
  ·split
   ·exact callK_nat hΓ
   ·exact callK_nat hΓ
   ·exact yieldK_nat hΓ
   ·exact .none
  ·exact .none
 ·exact .none
theorem opsK_nat (hΓ:NatX cx) {ops:Array Oper}:∀ (is:List Nat) (st:St) (h:H),Nat2 (fun β K=>opsK (β:=β) cx ops is st h K)
 | [],st,h => .ret _ _
 | i::is,st,h=>by
  have run:∀ (o:Oper) (st:St),Nat2 (fun β K=>opK (β:=β) cx o st h fun v h'=>opsK cx ops is (put st o.dst v) h' K):=fun o st => .seq2 (opK_nat hΓ) fun v h'=>opsK_nat hΓ is _ _
  simp only [opsK]
  split
  ·exact opsK_nat hΓ is st h
  ·rename_i o ho
   refine .cond _ ?_ .none
   split
   ·exact run o st
   ·split
    ·exact .none
    ·split
     ·exact .cond _ (.cond _ (run o _) (opsK_nat hΓ is _ _)) (.cond _ (opsK_nat hΓ is _ _) (run o _))
     ·exact opsK_nat hΓ is _ _
     ·exact .none
theorem drawOne_nat (hΓ:NatX cx) {o:Oper} {st:St} {h:H}:Nat3 (fun β K=>drawOne (β:=β) cx o st h K):=by
 unfold drawOne
 split
 ·exact .seq2 (opK_nat hΓ) fun _ _ => .bind _ fun _ => .ret _ _ _
 ·refine .seq2 (opK_nat hΓ) fun v h' => .cond _ ?_ .none
  split
  ·exact .cond _ (.ret _ _ _) .none
  ·exact .cond _ (.ret _ _ _) .none
  ·exact .none
 ·exact .seq2 (opK_nat hΓ) fun _ _ => .ret _ _ _
 ·exact .seq2 (opK_nat hΓ) fun _ _ => .ret _ _ _
 ·exact .seq2 (opK_nat hΓ) fun _ _ => .ret _ _ _
 ·exact .seq2 (opK_nat hΓ) fun _ _ => .ret _ _ _
 ·exact .seq2 (opK_nat hΓ) fun _ _ => .ret _ _ _
theorem drawK_nat (hΓ:NatX cx) {ops:Array Oper}:∀ (is:List Nat) (tr:List Tr) (st:St) (h:H),Nat2 (fun β K=>drawK (β:=β) cx ops is tr st h K)
 | [],tr,st,h => .ret _ _
 | i::is,tr,st,h=>by
  simp only [drawK]
  split
  ·exact .none
  ·rename_i o ho
   have run:∀ (st:St),Nat2 (fun β K=>drawOne (β:=β) cx o st h fun fp v h'=>bif okTr (mkTr ops i o fp tr) tr then drawK cx ops is (mkTr ops i o fp tr::tr) (put st o.dst v) h' K else none):=fun st=>
    .seq3 (drawOne_nat hΓ) fun fp v h' => .cond _ (drawK_nat hΓ is _ _ _) .none
   refine .cond _ ?_ .none
   split
   ·split
    ·exact run st
    ·exact .cond _ (drawK_nat hΓ is _ _ _) .none
    ·exact .cond _ (.bind _ fun _ => .seq2 (opK_nat hΓ) fun _ _ => .cond _ (drawK_nat hΓ is _ _ _) .none) .none
   ·split
    ·exact .none
    ·split
     ·exact .cond _ (.cond _ (run _) (.cond _ (drawK_nat hΓ is _ _ _) .none)) (.cond _ (.cond _ (drawK_nat hΓ is _ _ _) .none) (run _))
     ·exact .cond _ (drawK_nat hΓ is _ _ _) .none
     ·exact .none
theorem loopK_nat {L:LoopSem} (hL:NatL L) {st:St} {h:H}:Nat3 (fun β K=>loopK (β:=β) cx L K st h):=by
 unfold loopK
 exact .bind _ fun x => .seq3 (hL _ _) fun e vs cs => .bind _ fun _ => .bind _ fun _ => .ret _ _ _
theorem rangeK_nat (hΓ:NatX cx) {q:Nat} {g:SV} {st:St} {h:H}:Nat3 (fun β K=>rangeK (β:=β) cx q g K st h):=by
 unfold rangeK
 split
 ·rename_i S f caps hS
  split
  ·rename_i G hG
   exact .bind _ fun a => .bind _ fun c => .seq2 (hΓ.it _ _ hG _ (hΓ.rf _ _ hS _) _ _) fun s co => .bind _ fun h' => .ret _ _ _
  ·exact .none
 ·exact .none
theorem codeK_nat (hΓ:NatX cx) (hΛ:∀ q L,cx.Λ q=some L->NatL L):∀ (n:Nat) (p:List Bool) (c:Code) (st:St) (h:H),Nat3 (fun β K=>codeK (β:=β) cx n p c K st h)
 | 0,p,c,st,h => .none
 | n+1,p,c,st,h=>by
  have ih:=codeK_nat hΓ hΛ n
  have norm:∀ (p q:List Bool) (c:Code) (d:Code) (st:St) (h:H),Nat3 (fun β (K:Exit->St->H->Option β)=>codeK cx n p c (fun e st h=>match e with | .normal=>codeK cx n q d K st h | e=>K e st h) st h):=fun p q c d st h=>
   .seq3 (ih p c st h) fun e st h=>by
    cases e with
    | normal=>exact ih q d st h
    | _=>exact .ret _ _ _
  cases c with
  | skip=>exact .ret _ _ _
  | label l=>exact .ret _ _ _
  | exit id=>exact .ret _ _ _
  | ret=>exact .ret _ _ _
  | region id ops draw=>
   simp only [codeK]
   exact .cond _ (.cond _ (.seq2 (drawK_nat hΓ _ _ _ _) fun _ _ => .ret _ _ _) .none) (.seq2 (opsK_nat hΓ _ _ _) fun _ _ => .ret _ _ _)
  | seq a b=>simp only [codeK];exact norm _ _ _ _ _ _
  | cond o a b=>
   simp only [codeK]
   split
   ·exact .cond _ (ih _ _ _ _) (ih _ _ _ _)
   ·exact .none
  | block id b=>
   simp only [codeK]
   refine .seq3 (ih _ _ _ _) fun e st h => ?_
   cases e with
   | exit i=>exact .cond _ (.ret _ _ _) (.ret _ _ _)
   | _=>exact .ret _ _ _
  | loop b=>
   simp only [codeK]
   refine .cond _ (norm _ _ _ _ _ _) ?_
   split
   ·rename_i L hL
    exact loopK_nat (hΛ _ _ hL)
   ·exact .none
  | scope b=>
   simp only [codeK]
   refine .seq3 (ih _ _ _ _) fun e st h => ?_
   cases e with
   | goto l=>exact .none
   | _=>exact .ret _ _ _
  | rangeFunc g ps a b=>simp only [codeK];exact rangeK_nat hΓ
  | _=>exact .none
theorem roundB_nat (hΓ:NatX cx) (hΛ:∀ q L,cx.Λ q=some L->NatL L) {ins:List Nat} {p:List Bool} {ps:List Nat} {as bd:Code} {env args:List CV} {conts:List (List CV)}:Nat2 (fun β K=>roundB (β:=β) cx ins p ps as bd env args conts K):=by
 unfold roundB
 refine .cond _ (.seq3 (codeK_nat hΓ hΛ _ _ _ _ _) fun e st h => ?_) .none
 cases e with
 | normal=>
  refine .seq3 (codeK_nat hΓ hΛ _ _ _ _ _) fun e st h => ?_
  cases e with
  | normal=>exact .bind _ fun c => .ret _ _
  | ret=>exact .bind _ fun c => .ret _ _
  | exit i=>exact .bind _ fun c => .ret _ _
  | _=>exact .none
 | _=>exact .none
theorem fnK_nat (hΓ:NatX cx) (hΛ:∀ q L,cx.Λ q=some L->NatL L) {fn:Func} {args:List CV} {conts:List (List CV)}:Nat2 (fun β K=>fnK (β:=β) cx fn args conts K):=by
 have hfin:∀ st h,Nat2 (fun β (K:CV->List (List CV)->Option β)=>fnFin cx fn conts K st h):=fun st h=>by
  unfold fnFin
  exact .bind _ fun _ => .bind _ fun _ => .bind _ fun _ => .ret _ _
 unfold fnK
 split
 ·exact .none
 ·refine .cond _ (.seq3 (codeK_nat hΓ hΛ _ _ _ _ _) fun e st h => ?_) .none
  cases e with
  | normal=>exact hfin st h
  | ret=>exact hfin st h
  | _=>exact .none
end
end Go.Ab

namespace Go.Ab
open Go
set_option maxRecDepth 100000
section
variable {β:Type} {cx:Cx} {o:Oper} {st:St} {h:H} {r:β} {K:SV->H->Option β}
def Enters (P:Program) (f:FuncId):Prop:=∃ fn,P.funcs[f]? = some fn/\(fn.name == "runtime.NumGoroutine")=false/\fn.body.isNone=false
theorem run_callFunc {P:Program} {f:FuncId} (he:Enters P f) (args:Array Value) (w:World):(callFunc f args).run P w = .ok (.enter f args) w:=by
 obtain ⟨fn,h1,h2,h3⟩:=he
 have h2':¬ fn.name = "runtime.NumGoroutine" := by simpa using h2
 have h3':¬ fn.body=none:=fun e=>by rw [e] at h3;cases h3
 simp [callFunc,h1,h2',h3']
theorem pass_sound {ρ:Env} {X:Nat->Prop} {h h1 h2:H} {w:World} {is:List Nat} {conts:List (List CV)} (hr:HR ρ X h w) (t1:TK ρ X h w h1 []) (hco:contsOut is h1=some (conts,h2)):
  ∃ B,(∀ args vs,vs.size=args.length->(∀ (j:Nat) (x:CV),args[j]? = some x->(∃ m i,x = .ref m/\is[m]? = some i/\vs.getD j undef = .pointer (some ⟨ρ.blk i,0,none⟩))\/CR w (Mut ρ X h1) x (vs.getD j undef))->InR w (Mut ρ (XB X B) h2) args conts vs (is.map ρ.blk) B)/\
   (∀ b,Mut ρ (XB X B) h2 b->Mut ρ X h1 b)/\(∀ i∈is,i<h.length/\getH h2 i = .dead)/\(∀ b∈B,live ρ h b)/\
   ∀ {rv:CV} {co:List (List CV)} {h':H} {w':World} {v:Value} {Br B2:List Nat},OutR w (Mut ρ (XB X B) h2) B (is.map ρ.blk) w' v rv co Br B2->contsIn is co (im depth rv h2).2=some h'->Post ρ X h w (im depth rv h2).1 h' v w':=by
  obtain ⟨B,t2,hcr,hnd,hdead⟩:=contsOut_sound is X h1 conts h2 t1.hr' hco
  have t1e:=t1.ext'
  have t2m:∀ b,Mut ρ (XB X B) h2 b->Mut ρ X h1 b:=fun b hb=>t2.mut hb
  have hXlt:∀ b,X b->b<w.heap.size:=hr.xlt
  have hBlt:∀ b∈B,b<w.heap.size:=fun b hb=>t2.hr.xlt b (.inr hb)
  have hBX:∀ b∈B,¬ X b:=fun b hb hx=>by
   obtain ⟨i,_,h3⟩:=t2.bl b hb
   exact t1.hr'.out i b h3 hx
  refine ⟨B,fun args vs hsz hav=>⟨hsz,fun j x hx => ?_,hcr,t2.nd,fun b hb => .inl (.inr hb),fun b hb => ?_,t2.hr.glob⟩,t2m,fun i hi => ?_,fun b hb=>t1.lv b (t2.bl b hb),fun {rv co h' w' v Br B2} out hin => ?_⟩
  ·rcases hav j x hx with ⟨m,i,h3,h4,h5⟩ | h3
   ·exact .inl ⟨m,ρ.blk i,h3,by simp [h4],h5⟩
   ·exact .inr (h3.mono (Nat.le_refl _) (fun _ _ _=>rfl) (fun b _=>t2m b))
  ·rcases hb with hb | ⟨i,_,h3⟩
   ·exact t2.hr.xlt b hb
   ·exact t2.hr.lt h3
  ·obtain ⟨q1,_,q3⟩:=hdead i hi
   exact ⟨by rw [<- t1.len];exact q1,q3⟩

  have hM2:∀ b,Mut ρ X h2 b->MM (Mut ρ (XB X B) h2) B (Br++B2) b:=fun b hb=>by
   rcases hb with hb | hb
   ·exact .inl ⟨.inl (.inl hb),fun hm=>hBX b hm hb⟩
   ·refine .inl ⟨.inr hb,fun hm => ?_⟩
    obtain ⟨i,_,h3⟩:=hb
    exact t2.hr.out i b h3 (.inr hm)
  have hcrm:∀ x u,CR w (Mut ρ (XB X B) h2) x u->CR w' (MM (Mut ρ (XB X B) h2) B (Br++B2)) x u:=fun x u hx=>
   hx.mono out.size (fun b hb hn=>out.keep b hb fun hm=>hn (.inl (.inr hm))) (fun b hb hm=>by
    rcases hm with ⟨hm,_⟩ | hm
    ·exact hm
    ·rcases out.new b hm with hm | hm
     ·exact .inl (.inr hm)
     ·omega)
  have hrm:HRM ρ X h2 w' (MM (Mut ρ (XB X B) h2) B (Br++B2)):=by
   refine ⟨fun i => ?_,t2.hr.inj,fun i b hb hx=>t2.hr.out i b hb (.inl hx),hM2,fun g cs hg=>hcrm _ _ (t2.hr.glob g cs hg)⟩
   refine (t2.hr.box i).mono' (HExt.refl ρ h2) hcrm (fun _ _ _ _ _=>rfl) (fun _ _ _=>rfl) fun b hb => ?_
   exact out.keep b (t2.hr.lt hb) fun hm=>t2.hr.out i b hb (.inr hm)
  have hmay:MayIn ρ X h2 (MM (Mut ρ (XB X B) h2) B (Br++B2)) (Br++B2):=by
   refine ⟨out.nd,fun b hb => .inr hb,fun b hb hx => ?_,fun b hb i hi => ?_⟩
   ·rcases out.new b hb with hm | hm
    ·exact hBX b hm hx
    ·have:=hXlt b hx;omega
   ·rcases out.new b hb with hm | hm
    ·exact t2.hr.out i b hi (.inr hm)
    ·have:=t2.hr.lt hi;omega
  obtain ⟨ρ1,m1,hvr⟩:=im_sound depth ρ h2 rv v Br hrm out.ret hmay.left
  have hd1:∀ i∈is,i<(im depth rv h2).2.length/\getH (im depth rv h2).2 i = .dead:=fun i hi=>by
   obtain ⟨q1,_,q3⟩:=hdead i hi
   have q4:i<h2.length:=by rw [t2.len];exact q1
   exact ⟨Nat.lt_of_lt_of_le q4 m1.ext.len,by rw [m1.toIC.same i q4 (by simp)];exact q3⟩
  have hmap:is.map ρ1.blk=is.map ρ.blk:=List.map_congr_left fun i hi=>(m1.agree i (by rw [t2.len];exact (hdead i hi).1)).2
  obtain ⟨ρ',m2⟩:=contsIn_sound is co ρ1 _ h' _ B2 m1.hr hin hd1 hnd hmap out.cont (hmay.rightC m1.toIC)
  have m:=m1.toIC.trans m2
  rw [List.nil_append] at m
  have hr':HR ρ' X h' w':=m.hr.toHR fun b hb=>Nat.lt_of_lt_of_le (hXlt b hb) out.size
  refine ⟨ρ',hr',?_,?_⟩
  ·exact hvr.mono m2.ext fun x u hx=>hx.mono (Nat.le_refl _) (fun _ _ _=>rfl) (fun b _ hb=>m.hr.sub b hb)
  ·refine ⟨(t1e.toHExt.trans t2.ext).trans m.ext,out.size,fun b hb hl => ?_,fun b hb hl => ?_,?_⟩
   ·exact out.keep b hb fun hm=>hl (t1.lv b (t2.bl b hm))
   ·obtain ⟨i,h3,h4⟩:=hl
    rcases m.new i b h4 with ⟨h5,h6⟩ | h5
    ·exact t1.lv b (t2.lv b ⟨i,by rw [<- h5];exact h3,h6⟩)
    ·rcases out.new b h5 with h6 | h6
     ·exact t1.lv b (t2.bl b h6)
     ·omega
   ·exact out.io
structure SoundN (P:Program) (f:FuncId) (n:Inl):Prop where
 enter:Enters P f
 calls:∀ (ss:List SV) (h:H) (β:Type) (K:SV->H->Option β) (r:β),n.run ss h β K=some r->∃ sv h',K sv h'=some r/\
  ∀ ρ X w vs,HR ρ X h w->vs.size=ss.length->(∀ (j:Nat) (s:SV),ss[j]? = some s->VR ρ h w (Mut ρ X h) s (vs.getD j undef))->Calls P f vs w fun e w'=>∃ v,e = .returned v/\Post ρ X h w sv h' v w'
theorem flat_sound {ρ:Env} {h:H} {w w':World} {M M':Nat->Prop}:∀ (n:Nat) (x:CV) (v:Value) (B:List Nat),flatV n x=true->OR w' M' x v B->VR ρ h w M (flatS n x) v
 | 0,_,_,_,hf,_=>by cases hf
 | n+1,x,v,B,hf,ho=>by
  have each:∀ (cs:List CV) (a:Array Value),cs.all (flatV n)=true->(∀ (j:Nat) (x:CV),cs[j]? = some x->∃ B,OR w' M' x (a.getD j undef) B)->∀ (j:Nat) (x:SV),(cs.map (flatS n))[j]? = some x->VR ρ h w M x (a.getD j undef):=fun cs a hall hr j x hx=>by
   rw [List.getElem?_map,Option.map_eq_some_iff] at hx
   obtain ⟨y,hy,rfl⟩:=hx
   obtain ⟨B,hB⟩:=hr j y hy
   exact flat_sound n y _ B (List.all_eq_true.1 hall y (List.mem_of_getElem? hy)) hB
  cases x with
  | int k m=>cases ho with | c _ _ hx=>cases hx;exact .c _ _ (.int _ _)
  | bool b=>cases ho with | c _ _ hx=>cases hx;exact .c _ _ (.bool _)
  | tup cs=>
   cases ho with
   | c _ _ hx=>
    cases hx with
    | tup _ a hs hr=>exact .tup _ _ (by simpa using hs) (each cs a hf fun j x hx=>⟨[],.c _ _ (hr j x hx)⟩)
   | tup _ a Bs hs hr=>exact .tup _ _ (by simpa using hs) (each cs a hf fun j x hx=>⟨_,hr j x hx⟩)
  | agg cs=>
   have pl:∀ (a:Array Value),(∀ (j:Nat) (x:CV),cs[j]? = some x->plain (a.getD j undef))->∀ (j:Nat) (x:SV),(cs.map (flatS n))[j]? = some x->plain (a.getD j undef):=fun a hp j x hx=>by
    rw [List.getElem?_map,Option.map_eq_some_iff] at hx
    obtain ⟨y,hy,rfl⟩:=hx
    exact hp j y hy
   cases ho with
   | c _ _ hx=>
    cases hx with
    | agg _ a hs hp hr=>exact .agg _ _ (by simpa using hs) (pl a hp) (each cs a hf fun j x hx=>⟨[],.c _ _ (hr j x hx)⟩)
   | agg _ a Bs hs hp hr=>exact .agg _ _ (by simpa using hs) (pl a hp) (each cs a hf fun j x hx=>⟨_,hr j x hx⟩)
  | _=>cases hf
theorem callG_sound {f:FuncId} {g:Callee} (hs:SoundC cx.P f g) {ss:List SV} (hK:callG cx g ss h K=some r):
  ∃ sv h',K sv h'=some r/\∀ ρ X w vs,HR ρ X h w->vs.size=ss.length->(∀ (j:Nat) (s:SV),ss[j]? = some s->VR ρ h w (Mut ρ X h) s (vs.getD j undef))->
   Calls cx.P f vs w fun e w'=>∃ v,e = .returned v/\Post ρ X h w sv h' v w':=by
 unfold callG at hK
 replace hK:=bind_some' hK
 obtain ⟨⟨args,is,h1⟩,ha,hK⟩:=hK
 replace hK:=bind_some' hK
 obtain ⟨⟨conts,h2⟩,hco,hK⟩:=hK
 dsimp only at hK hco
 replace hK:=hs.calls _ _ _ _ _ hK
 obtain ⟨rv,co,hK,hcalls⟩:=hK
 cases hbor:cx.bor&&is.isEmpty&&flatV 4 rv with
 | true=>
  rw [hbor,cond_true] at hK
  simp only [Bool.and_eq_true,List.isEmpty_iff] at hbor
  obtain ⟨⟨_,rfl⟩,hflat⟩:=hbor
  simp only [contsOut,Option.some.injEq,Prod.mk.injEq] at hco
  obtain ⟨rfl,rfl⟩:=hco
  refine ⟨_,_,hK,fun ρ X w vs hr hsz hv => ?_⟩
  obtain ⟨hal,t1,hav⟩:=argsIn_sound ss 0 h args [] h1 (fun j=>vs.getD j undef) hr hv ha
  have hin1:InR w (Mut ρ X h1) args [] vs [] []:=by
   refine ⟨by rw [hsz,hal],fun j x hx => ?_,rfl,.nil,fun b hb=>(by cases hb),fun b hb => ?_,t1.hr'.glob⟩
   ·rcases hav j x hx with ⟨m,i,h3,h4,h5⟩ | h3
    ·simp at h4
    ·exact .inr h3
   ·rcases hb with hb | ⟨i,_,h3⟩
    ·exact t1.hr'.xlt b hb
    ·exact t1.hr'.lt h3
  refine (hcalls w _ vs [] [] hin1).mono fun e w' he => ?_
  obtain ⟨v,Br,B2,rfl,out⟩:=he
  refine ⟨v,rfl,ρ,?_,flat_sound 4 rv v Br hflat out.ret,⟨HExt.refl ρ h,out.size,fun b hb _=>out.keep b hb (by simp),fun _ _ hl=>hl,out.io⟩⟩
  have ee:Ext ρ h w ρ h w':=⟨HExt.refl ρ h,out.size,fun b hb _=>out.keep b hb (by simp),fun _ _ hl=>hl,out.io⟩
  have hcr:∀ x u,CR w (Mut ρ X h) x u->CR w' (Mut ρ X h) x u:=fun x u hx=>ee.cr hx
  exact ⟨fun i=>(hr.box i).mono' (HExt.refl ρ h) hcr (fun _ _ _ _ _=>rfl) (fun _ _ _=>rfl) fun b hb=>out.keep b (hr.lt hb) (by simp),hr.inj,hr.out,fun b hb=>Nat.lt_of_lt_of_le (hr.xlt b hb) out.size,ee.glob hr.glob⟩
 | false=>
  rw [hbor,cond_false] at hK
  replace hK:=bind_some' hK
  obtain ⟨h',hin,hK⟩:=hK
  refine ⟨_,_,hK,fun ρ X w vs hr hsz hv => ?_⟩
  obtain ⟨hal,t1,hav⟩:=argsIn_sound ss 0 h args is h1 (fun j=>vs.getD j undef) hr hv ha
  obtain ⟨B,t2,hcr,hnd,hdead⟩:=contsOut_sound is X h1 conts h2 t1.hr' hco
  have t1e:=t1.ext'
  have t2m:∀ b,Mut ρ (XB X B) h2 b->Mut ρ X h1 b:=fun b hb=>t2.mut hb
  have hXlt:∀ b,X b->b<w.heap.size:=hr.xlt
  have hBlt:∀ b∈B,b<w.heap.size:=fun b hb=>t2.hr.xlt b (.inr hb)
  have hBX:∀ b∈B,¬ X b:=fun b hb hx=>by
   obtain ⟨i,_,h3⟩:=t2.bl b hb
   exact t1.hr'.out i b h3 hx
  have hin1:InR w (Mut ρ (XB X B) h2) args conts vs (is.map ρ.blk) B:=by
   refine ⟨by rw [hsz,hal],fun j x hx => ?_,hcr,t2.nd,fun b hb => .inl (.inr hb),fun b hb => ?_,t2.hr.glob⟩
   ·rcases hav j x hx with ⟨m,i,h3,h4,h5⟩ | h3
    ·exact .inl ⟨0+m,ρ.blk i,h3,by simp [h4],h5⟩
    ·exact .inr (h3.mono (Nat.le_refl _) (fun _ _ _=>rfl) (fun b _=>t2m b))
   ·rcases hb with hb | ⟨i,_,h3⟩
    ·exact t2.hr.xlt b hb
    ·exact t2.hr.lt h3
  refine (hcalls w _ vs _ B hin1).mono fun e w' he => ?_
  obtain ⟨v,Br,B2,rfl,out⟩:=he
  refine ⟨v,rfl,?_⟩

  have hM2:∀ b,Mut ρ X h2 b->MM (Mut ρ (XB X B) h2) B (Br++B2) b:=fun b hb=>by
   rcases hb with hb | hb
   ·exact .inl ⟨.inl (.inl hb),fun hm=>hBX b hm hb⟩
   ·refine .inl ⟨.inr hb,fun hm => ?_⟩
    obtain ⟨i,_,h3⟩:=hb
    exact t2.hr.out i b h3 (.inr hm)
  have hcrm:∀ x u,CR w (Mut ρ (XB X B) h2) x u->CR w' (MM (Mut ρ (XB X B) h2) B (Br++B2)) x u:=fun x u hx=>
   hx.mono out.size (fun b hb hn=>out.keep b hb fun hm=>hn (.inl (.inr hm))) (fun b hb hm=>by
    rcases hm with ⟨hm,_⟩ | hm
    ·exact hm
    ·rcases out.new b hm with hm | hm
     ·exact .inl (.inr hm)
     ·omega)
  have hrm:HRM ρ X h2 w' (MM (Mut ρ (XB X B) h2) B (Br++B2)):=by
   refine ⟨fun i => ?_,t2.hr.inj,fun i b hb hx=>t2.hr.out i b hb (.inl hx),hM2,fun g cs hg=>hcrm _ _ (t2.hr.glob g cs hg)⟩
   refine (t2.hr.box i).mono' (HExt.refl ρ h2) hcrm (fun _ _ _ _ _=>rfl) (fun _ _ _=>rfl) fun b hb => ?_
   exact out.keep b (t2.hr.lt hb) fun hm=>t2.hr.out i b hb (.inr hm)
  have hmay:MayIn ρ X h2 (MM (Mut ρ (XB X B) h2) B (Br++B2)) (Br++B2):=by
   refine ⟨out.nd,fun b hb => .inr hb,fun b hb hx => ?_,fun b hb i hi => ?_⟩
   ·rcases out.new b hb with hm | hm
    ·exact hBX b hm hx
    ·have:=hXlt b hx;omega
   ·rcases out.new b hb with hm | hm
    ·exact t2.hr.out i b hi (.inr hm)
    ·have:=t2.hr.lt hi;omega
  obtain ⟨ρ1,m1,hvr⟩:=im_sound depth ρ h2 rv v Br hrm out.ret hmay.left
  have hd1:∀ i∈is,i<(im depth rv h2).2.length/\getH (im depth rv h2).2 i = .dead:=fun i hi=>by
   obtain ⟨q1,_,q3⟩:=hdead i hi
   have q4:i<h2.length:=by rw [t2.len];exact q1
   exact ⟨Nat.lt_of_lt_of_le q4 m1.ext.len,by rw [m1.toIC.same i q4 (by simp)];exact q3⟩
  have hmap:is.map ρ1.blk=is.map ρ.blk:=List.map_congr_left fun i hi=>(m1.agree i (by rw [t2.len];exact (hdead i hi).1)).2
  obtain ⟨ρ',m2⟩:=contsIn_sound is co ρ1 _ h' _ B2 m1.hr hin hd1 hnd hmap out.cont (hmay.rightC m1.toIC)
  have m:=m1.toIC.trans m2
  rw [List.nil_append] at m
  have hr':HR ρ' X h' w':=m.hr.toHR fun b hb=>Nat.lt_of_lt_of_le (hXlt b hb) out.size
  refine ⟨ρ',hr',?_,?_⟩
  ·exact hvr.mono m2.ext fun x u hx=>hx.mono (Nat.le_refl _) (fun _ _ _=>rfl) (fun b _ hb=>m.hr.sub b hb)
  ·refine ⟨(t1e.toHExt.trans t2.ext).trans m.ext,out.size,fun b hb hl => ?_,fun b hb hl => ?_,?_⟩
   ·exact out.keep b hb fun hm=>hl (t1.lv b (t2.bl b hm))
   ·obtain ⟨i,h3,h4⟩:=hl
    rcases m.new i b h4 with ⟨h5,h6⟩ | h5
    ·exact t1.lv b (t2.lv b ⟨i,by rw [<- h5];exact h3,h6⟩)
    ·rcases out.new b h5 with h6 | h6
     ·exact t1.lv b (t2.bl b h6)
     ·omega
   ·exact out.io
theorem cr_num {w:World} {M M':Nat->Prop} {x:CV} {v:Value} (hn:isNum1 x=true) (h:CR w M x v):CR w M' x v:=by
 cases h <;> first | exact .int _ _ | exact .bool _ | cases hn
theorem or_flat {w:World} {M M':Nat->Prop}:∀ (n:Nat) (x:CV) (v:Value) (B:List Nat),flatO n x=true->OR w M x v B->OR w M' x v B
 | 0,_,_,_,hf,_=>by cases hf
 | n+1,x,v,B,hf,ho=>by
  cases ho with
  | c x v hx=>
   cases hx with
   | int k m=>exact .c _ _ (.int k m)
   | bool b=>exact .c _ _ (.bool b)
   | agg cs a hs hp hr=>
    have hc:∀ (j:Nat) (x:CV),cs[j]? = some x->OR w M' x (a.getD j undef) ((fun _=>[]) j):=fun j x hx=>or_flat n x _ _ (List.all_eq_true.1 hf x (List.mem_of_getElem? hx)) (.c _ _ (hr j x hx))
    have:=OR.agg cs a (fun _=>[]) hs hp hc
    rw [cat_nil] at this
    exact this
   | tup cs a hs hr=>
    have hc:∀ (j:Nat) (x:CV),cs[j]? = some x->OR w M' x (a.getD j undef) ((fun _=>[]) j):=fun j x hx=>or_flat n x _ _ (List.all_eq_true.1 hf x (List.mem_of_getElem? hx)) (.c _ _ (hr j x hx))
    have:=OR.tup cs a (fun _=>[]) hs hc
    rw [cat_nil] at this
    exact this
   | _=>cases hf
  | ownN sz h0=>exact .ownN sz h0
  | own sz l b cap cur ty h0 h1 h2 h4 h5 h6 h7=>
   refine .own sz l b cap cur ty h0 h1 h2 h4 h5 h6 fun k j x hx => ?_
   obtain ⟨u,hu,hp,hr⟩:=h7 k j x hx
   refine ⟨u,hu,hp,cr_num ?_ hr⟩
   unfold at2 at hx
   obtain ⟨e,he,hx⟩:=Option.bind_eq_some_iff.1 hx
   exact List.all_eq_true.1 (List.all_eq_true.1 hf e (List.mem_of_getElem? he)) x (List.mem_of_getElem? hx)
  | box cs b cur ty Bs h1 h2 hp hr=>cases hf
  | agg cs a Bs hs hp hr=>exact .agg cs a Bs hs hp fun j x hx=>or_flat n x _ _ (List.all_eq_true.1 hf x (List.mem_of_getElem? hx)) (hr j x hx)
  | tup cs a Bs hs hr=>exact .tup cs a Bs hs fun j x hx=>or_flat n x _ _ (List.all_eq_true.1 hf x (List.mem_of_getElem? hx)) (hr j x hx)
  | mpo ks b es clk hh hk=>cases hf
theorem callF_sound {f:FuncId} {g:Callee} (hs:SoundC cx.P f g) {ss:List SV} (hK:callF g ss h K=some r):
  ∃ sv h',K sv h'=some r/\∀ ρ X w vs,HR ρ X h w->vs.size=ss.length->(∀ (j:Nat) (s:SV),ss[j]? = some s->VR ρ h w (Mut ρ X h) s (vs.getD j undef))->
   Calls cx.P f vs w fun e w'=>∃ v,e = .returned v/\Post ρ X h w sv h' v w':=by
 unfold callF at hK
 replace hK:=bind_some' hK
 obtain ⟨⟨args,is,h1⟩,ha,hK⟩:=hK
 replace hK:=cond_some hK
 obtain ⟨he,hK⟩:=hK
 dsimp only at hK he
 rw [List.isEmpty_iff] at he
 subst he
 replace hK:=hs.calls _ _ _ _ _ hK
 obtain ⟨rv,co,hK,hcalls⟩:=hK
 replace hK:=cond_some hK
 obtain ⟨hflat,hK⟩:=hK
 refine ⟨_,_,hK,fun ρ X w vs hr hsz hv => ?_⟩
 obtain ⟨hal,t1,hav⟩:=argsIn_sound ss 0 h args [] h1 (fun j=>vs.getD j undef) hr hv ha
 have hin1:InR w (Mut ρ X h1) args [] vs [] []:=by
  refine ⟨by rw [hsz,hal],fun j x hx => ?_,rfl,.nil,fun b hb=>(by cases hb),fun b hb => ?_,t1.hr'.glob⟩
  ·rcases hav j x hx with ⟨m,i,h3,h4,h5⟩ | h3
   ·simp at h4
   ·exact .inr h3
  ·rcases hb with hb | ⟨i,_,h3⟩
   ·exact t1.hr'.xlt b hb
   ·exact t1.hr'.lt h3
 refine (hcalls w _ vs [] [] hin1).mono fun e w' he => ?_
 obtain ⟨v,Br,B2,rfl,out⟩:=he
 refine ⟨v,rfl,?_⟩
 have hfresh:∀ b∈Br,w.heap.size<=b:=fun b hb=>(out.new b (List.mem_append.2 (.inl hb))).elim (fun h=>by cases h) id
 have hcr:∀ x u,CR w (Mut ρ X h) x u->CR w' (fun b=>Mut ρ X h b\/b∈Br) x u:=fun x u hx=>
  hx.mono out.size (fun b hb _=>out.keep b hb (by simp)) (fun b hb hm=>hm.elim id fun hm=>by have:=hfresh b hm;omega)
 have hrm:HRM ρ X h w' (fun b=>Mut ρ X h b\/b∈Br):=
  ⟨fun i=>(hr.box i).mono' (HExt.refl ρ h) hcr (fun _ _ _ _ _=>rfl) (fun _ _ _=>rfl) fun b hb=>out.keep b (hr.lt hb) (by simp),hr.inj,hr.out,fun b hb => .inl hb,fun g cs hg=>hcr _ _ (hr.glob g cs hg)⟩
 have hmay:MayIn ρ X h (fun b=>Mut ρ X h b\/b∈Br) Br:=
  ⟨(List.nodup_append.1 out.nd).1,fun b hb => .inr hb,fun b hb hx=>by have:=hfresh b hb;have:=hr.xlt b hx;omega,fun b hb i hi=>by have:=hfresh b hb;have:=hr.lt hi;omega⟩
 obtain ⟨ρ',m,hvr⟩:=im_sound depth ρ h rv v Br hrm (or_flat 4 rv v Br hflat out.ret) hmay
 refine ⟨ρ',m.hr.toHR fun b hb=>Nat.lt_of_lt_of_le (hr.xlt b hb) out.size,?_,m.ext,out.size,fun b hb _=>out.keep b hb (by simp),fun b hb hl => ?_,out.io⟩
 ·exact hvr.mono (HExt.refl _ _) fun x u hx=>hx.mono (Nat.le_refl _) (fun _ _ _=>rfl) (fun b _ hb=>m.hr.sub b hb)
 ·obtain ⟨i,h3,h4⟩:=hl
  rcases m.toIC.new i b h4 with ⟨h5,h6⟩ | h5
  ·exact ⟨i,by rw [<- h5];exact h3,h6⟩
  ·have:=hfresh b h5;omega
theorem callK_sound (hΓ:∀ f g,cx.Γ f=some g->SoundC cx.P f g) (hI:∀ f n,cx.I f=some n->SoundN cx.P f n) {f:FuncId} {ss:List SV} (hK:callK cx f ss h K=some r):
  Enters cx.P f/\∃ sv h',K sv h'=some r/\∀ ρ X w vs,HR ρ X h w->vs.size=ss.length->(∀ (j:Nat) (s:SV),ss[j]? = some s->VR ρ h w (Mut ρ X h) s (vs.getD j undef))->
   Calls cx.P f vs w fun e w'=>∃ v,e = .returned v/\Post ρ X h w sv h' v w':=by
 unfold callK at hK
 split at hK
 ·rename_i n hn
  exact ⟨(hI f n hn).enter,(hI f n hn).calls ss h β K r hK⟩
 ·split at hK
  ·cases hK
  ·rename_i g hg
   refine ⟨(hΓ f g hg).enter,?_⟩
   cases hfl:cx.fl f with
   | true=>rw [hfl,cond_true] at hK;exact callF_sound (hΓ f g hg) hK
   | false=>rw [hfl,cond_false] at hK;exact callG_sound (hΓ f g hg) hK
def YCalls (P:Program) (l:Nat) (vs:Array Value) (w:World) (G:Ending->World->Prop):Prop:=
 ∃ r:Loop,w.heap[l]? = some (.loop r)/\vs.size=r.params.size/\RoundIn (FR none) 0 P l r.fn ((r.params.zip vs).foldl (fun tmps (t,a)=>tmps.setIfInBounds t a) r.tmps) r.assign r.body w G
def SoundY (P:Program) (g:Callee):Prop:=
 ∀ (args:List CV) (conts:List (List CV)) (β:Type) (K:CV->List (List CV)->Option β) (r:β),g.run args conts β K=some r->∃ rv co,K rv co=some r/\
  ∀ w M vs l bs B,InR w M args conts vs (l::bs) B->YCalls P l vs w fun e w'=>∃ v Br B2,e = .returned v/\OutR w M B (l::bs) w' v rv co Br B2
theorem OpOK.round {P:Program} {o:Oper} {a:Act} {w w':World} {G:Value->World->Prop} {l:Nat} {f:FuncId} {tmps:Array Value} {as bd:Code} (hrun:(execOp a.eval o).run P w = .ok (.round l f tmps as bd) w')
  (hc:RoundIn (FR none) 0 P l f tmps as bd w' fun e w''=>∃ v,e = .returned v/\G v w''):OpOK P o a w G:=by
 intro rd next Q hn
 refine ⟨fun _ _=>trivial,?_⟩
 rw [show (o.semAt (FR rd).round a.eval).run P w = .ok (.round l f tmps as bd) w' from semAt_run hrun (fun d h=>by cases h)]
 refine ⟨fun h=>by simp [FR,Fence.wide] at h,?_⟩
 refine RoundIn.mono (show RoundIn (FR rd) 0 P l f tmps as bd w' _ from hc) fun e w'' he => ?_
 obtain ⟨v,rfl,hv⟩:=he
 exact hn v w'' hv
theorem yield_sound (hY:∀ y,cx.Y=some y->SoundY cx.P y.2) {c:Call} {x:Operand} (ho:o.op = .call c) (hc:c.callee = .value x) {l:Nat} (hK:yieldK cx l (evs cx.P st c.argTypes.toList c.args.toList) h K=some r)
  (hx:∀ ρ X a w,R cx ρ X st h a w->a.eval x = .func (.yield l) #[] #[]):OpS cx o st h K r:=by
 unfold yieldK at hK
 split at hK
 ·cases hK
 ·rename_i y hy
  split at hK
  ·rename_i l' fx ts env bs n q hg
   replace hK:=cond_some hK
   obtain ⟨hl,hK⟩:=hK
   obtain rfl:=of_decide_eq_true hl
   replace hK:=bind_some' hK
   obtain ⟨⟨args,is,h1⟩,ha,hK⟩:=hK
   replace hK:=cond_some hK
   obtain ⟨hemp,hK⟩:=hK
   replace hK:=bind_some' hK
   obtain ⟨⟨conts,h2⟩,hco,hK⟩:=hK
   dsimp only at hK hco hemp
   have his:is=[]:=by simpa using hemp
   subst his
   replace hK:=hY y hy _ _ _ _ _ hK
   obtain ⟨rv,co,hK,hcalls⟩:=hK
   replace hK:=bind_some' hK
   obtain ⟨h',hin,hK⟩:=hK
   refine ⟨_,_,hK,fun ρ X a w rr => ?_⟩
   obtain ⟨g1,g2⟩:=evs_sound rr c.argTypes.toList c.args.toList
   have hsz:(c.args.map a.eval).size=(evs cx.P st c.argTypes.toList c.args.toList).length:=by simp [g1]
   obtain ⟨hal,t1,hav⟩:=argsIn_sound _ 0 h args [] h1 (fun j=>(c.args.map a.eval).getD j undef) rr.hr (fun j s hs=>by
    obtain ⟨y,hy,hv⟩:=g2 j s hs
    simp at hy
    simpa [hy] using hv) ha
   obtain ⟨B,hInR,_,_,_,hback⟩:=pass_sound rr.hr t1 hco
   have hin1:=hInR args (c.args.map a.eval) (by rw [hsz,hal]) fun j x hx=>by
    rcases hav j x hx with ⟨m,i,h3,h4,h5⟩ | h3
    ·simp at h4
    ·exact .inr h3
   have hb0:ρ.blk 0=l:=by
    have:=rr.hr.box 0
    rw [hg] at this
    exact this.1
   have hrange:(List.range (y.1+1)).map ρ.blk=l::(List.range' 1 y.1).map ρ.blk:=by
    rw [List.range_eq_range',List.range'_succ,List.map_cons,hb0]
   rw [hrange] at hin1 hback
   obtain ⟨lr,hl1,hl2,hround⟩:=hcalls w _ _ l _ B hin1
   refine .round (l:=l) (f:=lr.fn) (tmps:=(lr.params.zip (c.args.map a.eval)).foldl (fun tmps (t,a)=>tmps.setIfInBounds t a) lr.tmps) (as:=lr.assign) (bd:=lr.body) ?_ (hround.mono fun e w' he => ?_)
   ·simp only [execOp,ho,resolve,hc,hx ρ X a w rr,Deferred.ofValue,Sem.run_bind,Sem.run_pure,Result.andThen_ok,invoke]
    have:=run_yield (P:=cx.P) (args:=#[]++c.args.map a.eval) hl1 (by simpa using hl2)
    simpa using this
   ·obtain ⟨v,Br,B2,rfl,out⟩:=he
    exact ⟨v,rfl,hback out hin⟩
  ·cases hK
theorem enter_sound (hΓ:∀ f g,cx.Γ f=some g->SoundC cx.P f g) (hI:∀ f n,cx.I f=some n->SoundN cx.P f n) {c:Call} {x:Operand} (ho:o.op = .call c) (hc:c.callee = .value x) {f:FuncId} {first caps:List SV} (hK:callK cx f (first++evs cx.P st c.argTypes.toList c.args.toList++caps) h K=some r)
  (hx:∀ ρ X a w,R cx ρ X st h a w->∃ a1 a2,a.eval x = .func (.func f) a1 a2/\a1.size=first.length/\a2.size=caps.length/\(∀ (j:Nat) (s:SV),first[j]? = some s->VR ρ h w (Mut ρ X h) s (a1.getD j undef))/\
   ∀ (j:Nat) (s:SV),caps[j]? = some s->VR ρ h w (Mut ρ X h) s (a2.getD j undef)):OpS cx o st h K r:=by
 obtain ⟨he,sv,h',hK,hcalls⟩:=callK_sound hΓ hI hK
 refine ⟨sv,h',hK,fun ρ X a w rr => ?_⟩
 obtain ⟨a1,a2,hev,hs1,hs2,hv1,hv2⟩:=hx ρ X a w rr
 obtain ⟨g1,g2⟩:=evs_sound rr c.argTypes.toList c.args.toList
 refine .calls (f:=f) (args:=a1++c.args.map a.eval++a2) ?_ (hcalls ρ X w _ rr.hr ?_ fun j s hs => ?_)
 ·simp only [execOp,ho,resolve,hc,hev,Deferred.ofValue,Sem.run_bind,Sem.run_pure,Result.andThen_ok,invoke]
  exact run_callFunc he _ w
 ·simp [hs1,hs2,g1]
 ·by_cases h1:j<first.length+(evs cx.P st c.argTypes.toList c.args.toList).length
  ·rw [List.getElem?_append_left (by simpa using h1)] at hs
   have e1:(a1++c.args.map a.eval++a2).getD j undef=(a1++c.args.map a.eval).getD j undef:=by
    rw [Array.getD_eq_getD_getElem?,Array.getD_eq_getD_getElem?,Array.getElem?_append_left (by simp [hs1];rw [g1] at h1;simpa using h1)]
   rw [e1]
   by_cases h2:j<first.length
   ·rw [List.getElem?_append_left h2] at hs
    rw [Array.getD_eq_getD_getElem?,Array.getElem?_append_left (by omega),<- Array.getD_eq_getD_getElem?]
    exact hv1 j s hs
   ·rw [List.getElem?_append_right (by omega)] at hs
    rw [Array.getD_eq_getD_getElem?,Array.getElem?_append_right (by omega),hs1]
    obtain ⟨y,hy,hv⟩:=g2 _ s hs
    simp at hy
    simpa [hy] using hv
  ·rw [List.getElem?_append_right (by simpa using h1)] at hs
   rw [Array.getD_eq_getD_getElem?,Array.getElem?_append_right (by simp [hs1];rw [g1] at h1;simpa using h1),<- Array.getD_eq_getD_getElem?]
   have e1:(a1++c.args.map a.eval).size=(first++evs cx.P st c.argTypes.toList c.args.toList).length:=by simp [hs1,g1]
   rw [e1]
   exact hv2 _ s hs
/-! ### Iterators -/
def setS:CV->Option Nat->CV
 | .rcd l fx ts env bs n _,s => .rcd l fx ts env bs n s
 | c,_=>c
def numR:CV->Nat
 | .rcd _ _ _ _ _ n _=>n
 | _=>0
open Classical in
noncomputable def okC (c c':CV):Bool:=decide (c=c')
theorem okC_self (c:CV):okC c c=true:=by simp [okC]
theorem okC_eq {c c':CV} (h:okC c c'=true):c=c':=by simpa [okC] using h
noncomputable def gY (c0:CV) (Y:YSem):Callee:=⟨fun args conts _ K=>match conts with
 | [c]::cs=>bif okC c c0 then Y args cs _ fun s co=>K (.bool s.isNone) ([setS c0 s]::co) else none
 | _=>none⟩
noncomputable def hI (l:Nat) (c0:CV) (G:ItSem) (Y:YSem):Callee:=⟨fun args conts _ K=>match args,conts with
 | .yld l'::caps,[c]::cs=>bif decide (l'=l)&&okC c c0&&Nat.beq (numR c0) cs.length then G Y caps cs _ fun s co=>K (.tup []) ([setS c0 s]::co) else none
 | _,_=>none⟩
def SoundI (P:Program) (f:FuncId) (G:ItSem):Prop:=
 ∀ (l:Nat) (fx:Loop) (ts:List Nat) (env:List CV) (bs:List Nat) (n:Nat) (Y:YSem),NatYS Y->SoundY P (gY (.rcd l fx ts env bs n none) Y)->SoundC P f (hI l (.rcd l fx ts env bs n none) G Y)
def RoundsS (cx:Cx):Prop:=∀ (p:List Bool) (S:RfSem) (g:Operand) (ps:Array Tmp) (as bd:Code),cx.rf (pathN p)=some S->codeAt cx.root p=some (.rangeFunc g ps as bd)->
 ∀ (env args:List CV) (conts:List (List CV)) (β:Type) (K:Option Nat->List (List CV)->Option β) (r:β),S.Y env args conts β K=some r->roundB cx S.ins p ps.toList as bd env args conts K=some r
structure EqY (cx:Cx):Prop where
 eq:EqOK cx
 y:∀ y,cx.Y=some y->SoundY cx.P y.2
 it:∀ f G,cx.It f=some G->SoundI cx.P f G
 rs:RoundsS cx
 inl:∀ f n,cx.I f=some n->SoundN cx.P f n:=by intro f n h;exact absurd (show none=some n from h) (by simp)
theorem opK_sound (hΓ:∀ f g,cx.Γ f=some g->SoundC cx.P f g) (hE:EqY cx) (hK:opK cx o st h K=some r):OpS cx o st h K r:=by
 unfold opK at hK
 split at hK
 ·rename_i x ho;exact move_sound (.inl ho) hK
 ·rename_i x ho;exact move_sound (.inr ho) hK
 ·rename_i c x y ho;exact pick_sound ho hK
 ·rename_i e ho;exact alloc_sound ho hK
 ·rename_i t ho;exact makeSet_sound ho hK
 ·rename_i t m k x ho
  cases hss:isSet cx.P t with
  | true=>exact mapUpdate_sound ho (by rw [hss,cond_true] at hK ⊢;exact hK)
  | false=>
   rw [hss,cond_false] at hK
   exact putF_sound (.inl ho) (cond_some hK).1 (cond_some hK).2
 ·rename_i t m k x ho
  exact putF_sound (.inr ho) (cond_some hK).1 (cond_some hK).2
 ·rename_i t m k ho;exact lookF_sound ho hK
 ·rename_i t m k ho;exact lookup_sound ho hK
 ·rename_i e x ho;exact box_sound ho hK
 ·rename_i t parts ho;exact build_sound ho hK
 ·rename_i t len parts ho;exact buildSlice_sound ho hK
 ·rename_i t a ho;exact load_sound ho hK
 ·rename_i t a x ho;exact store_sound ho hK
 ·rename_i x ho;exact nilCheck_sound ho hK
 ·rename_i op t x y t' ho;exact binOp_sound hE.eq ho hK
 ·rename_i op t x ho;exact unOp_sound ho hK
 ·rename_i s d x ho;exact convert_sound ho hK
 ·rename_i f first caps ho;exact makeFunc_sound ho hK
 ·rename_i t l c ho;exact makeSlice_sound ho hK
 ·rename_i t x lo hi mx ho;exact slice_sound ho hK
 ·rename_i s x f ho;exact fieldAddr_sound ho hK
 ·rename_i t x f ho;exact field_sound ho hK
 ·rename_i t x ix ho;exact indexAddr_sound ho hK
 ·rename_i t x ix ho;exact index_sound ho hK
 ·rename_i x ix ho;exact extract_sound ho hK
 ·rename_i c ho
  split at hK
  ·rename_i b hc;exact builtin_sound ho hc hK
  ·rename_i x hc
   split at hK
   ·rename_i f first caps hev
    refine enter_sound hΓ hE.inl ho hc hK fun ρ X a w rr => ?_
    have hv:=ev_sound rr 0 x
    rw [hev] at hv
    generalize hval:a.eval x=val at hv
    cases hv with
    | fn f c1 c2 a1 a2 hs1 hs2 hr1 hr2=>exact ⟨a1,a2,rfl,hs1,hs2,hr1,hr2⟩
   ·rename_i f first caps hev
    refine enter_sound hΓ hE.inl ho hc hK fun ρ X a w rr => ?_
    have hv:=ev_sound rr 0 x
    rw [hev] at hv
    generalize hval:a.eval x=val at hv
    cases hv with
    | c y v hy=>
     cases hy with
     | fn f c1 c2 a1 a2 hs1 hs2 hr1 hr2=>
      refine ⟨a1,a2,rfl,by simpa using hs1,by simpa using hs2,fun j s hs => ?_,fun j s hs => ?_⟩
      ·simp only [List.getElem?_map,Option.map_eq_some_iff] at hs
       obtain ⟨z,hz,rfl⟩:=hs
       exact .c _ _ (hr1 j z hz)
      ·simp only [List.getElem?_map,Option.map_eq_some_iff] at hs
       obtain ⟨z,hz,rfl⟩:=hs
       exact .c _ _ (hr2 j z hz)
   ·rename_i l hev
    refine yield_sound hE.y ho hc hK fun ρ X a w rr => ?_
    have hv:=ev_sound rr 0 x
    rw [hev] at hv
    generalize hval:a.eval x=val at hv
    cases hv with
    | c y v hy=>cases hy;rfl
   ·cases hK
  ·cases hK
 ·cases hK
end
end Go.Ab

namespace Go.Ab
open Go
set_option maxRecDepth 100000
section
variable {β:Type} {cx:Cx} {r:β}
theorem put_getD {a:Act} {d:Nat} {v:Value} {t:Nat} (hd:d<a.tmps.size):(a.put (some d) v).tmps.getD t undef=if t=d then v else a.tmps.getD t undef:=by
 simp only [Act.put,Array.getD_eq_getD_getElem?,Array.getElem?_setIfInBounds]
 by_cases h:d=t
 ·subst h;simp [hd]
 ·rw [if_neg h,if_neg (fun e=>h e.symm)]
theorem get_put {st:St} {d t:Nat} {v:SV}:get (put st (some d) v) t=if t=d then v else get st t:=by
 simp only [put,get]
 by_cases h:t=d
 ·subst h;simp
 ·have:Nat.beq t d=false:=by
   cases hb:Nat.beq t d with
   | false=>rfl
   | true=>exact absurd (beq_true hb) h
  simp [this,h]
theorem R.step {ρ:Env} {X:Nat->Prop} {st:St} {h h':H} {a:Act} {w w':World} {o:Oper} {sv:SV} {v:Value} (rr:R cx ρ X st h a w) (hd:okD cx o=true) (hp:Post ρ X h w sv h' v w'):
  ∃ ρ',R cx ρ' X (put st o.dst sv) h' (a.put o.dst v) w'/\Ext ρ h w ρ' h' w':=by
 obtain ⟨ρ',hr,hv,e⟩:=hp
 refine ⟨ρ',⟨hr,fun t => ?_,?_,?_⟩,e⟩
 ·cases hdst:o.dst with
  | none=>exact e.vr (rr.st t)
  | some d=>
   simp only [okD,hdst] at hd
   have hd:d<a.tmps.size:=by rw [rr.nt];simpa [Nat.blt_eq] using hd
   rw [get_put,put_getD hd]
   split
   ·exact hv
   ·exact e.vr (rr.st t)
 ·cases o.dst <;> simp [Act.put,rr.nt]
 ·rw [show (a.put o.dst v).defers=a.defers by cases o.dst <;> rfl]
  exact rr.nd.ext rr.hr e
theorem R.know {ρ:Env} {X:Nat->Prop} {st:St} {h:H} {a:Act} {w:World} {d:Nat} {b:Bool} (rr:R cx ρ X st h a w) (hg:get st d = .c (.bool b)):R cx ρ X ((d,.c (.bool b))::st) h a w:=by
 refine ⟨rr.hr,fun t => ?_,rr.nt,rr.nd⟩
 have:get ((d,.c (.bool b))::st) t=get (put st (some d) (.c (.bool b))) t:=rfl
 rw [this,get_put]
 split
 ·rename_i h;subst h;rw [<- hg];exact rr.st t
 ·exact rr.st t
theorem wanted_of {ops:Array Oper} {o:Oper} {g d:Nat} {want b:Bool} {tmps:Array Value} (ho:o.guard=some (g,want)) (hd:(ops[g]?).bind (·.dst)=some d) (hv:tmps.getD d undef = .bool b):
  Region.wanted o (yielded ops tmps)=(b==want):=by
 have hb:tmps[d]? = some (.bool b):=by
  rw [Array.getD_eq_getD_getElem?] at hv
  cases hq:tmps[d]? with
  | none=>rw [hq] at hv;simp [undef] at hv
  | some x=>rw [hq] at hv;simpa using hv
 cases b <;> cases want <;> simp [Region.wanted,ho,yielded,hd,hb]
theorem und_vr {ρ:Env} {h:H} {w:World} {M:Nat->Prop}:VR ρ h w M UND undef := .c _ _ (.tup [] #[] rfl fun j x hx=>by simp at hx)
theorem und_inv {ρ:Env} {h:H} {w:World} {M:Nat->Prop} {v:Value} (hv:VR ρ h w M UND v):v=undef:=by
 cases hv with
 | c _ _ hc=>
  cases hc with
  | tup _ a hs _=>
   have:a=#[]:=by simpa using hs
   rw [this]
   rfl
theorem wanted_und {ops:Array Oper} {o:Oper} {g d:Nat} {want:Bool} {tmps:Array Value} (ho:o.guard=some (g,want)) (hd:(ops[g]?).bind (·.dst)=some d) (hv:tmps.getD d undef=undef):
  Region.wanted o (yielded ops tmps)=false:=by
 have hy:yielded ops tmps g=none:=by
  rw [Array.getD_eq_getD_getElem?] at hv
  cases hq:tmps[d]? with
  | none=>simp [yielded,hd,hq]
  | some x=>
   rw [hq] at hv
   have hx:x=undef:=by simpa using hv
   subst hx
   simp [yielded,hd,hq,undef]
 simp [Region.wanted,ho,hy]
theorem opsK_sound {rd:Option Nat} (hΓ:∀ f g,cx.Γ f=some g->SoundC cx.P f g) (hE:EqY cx) {ops:Array Oper} {X:Nat->Prop} {ρ0:Env} {h0:H} {w0:World} {Q:Exit->Act->World->Prop} {K:St->H->Option β}
  (hQ:∀ st h ρ a w,K st h=some r->R cx ρ X st h a w->Ext ρ0 h0 w0 ρ h w->Q .normal a w):
  ∀ (is:List Nat) (st:St) (h:H) (ρ:Env) (a:Act) (w:World),opsK cx ops is st h K=some r->R cx ρ X st h a w->Ext ρ0 h0 w0 ρ h w->wpOpsIn (FR rd) 0 cx.P ops Q is a w
 | [],st,h,ρ,a,w,hK,rr,e=>hQ st h ρ a w hK rr e
 | i::is,st,h,ρ,a,w,hK,rr,e=>by
  simp only [opsK] at hK
  cases ho:ops[i]? with
  | none=>
   simp only [ho] at hK
   simp only [wpOpsIn,ho]
   exact opsK_sound hΓ hE hQ is st h ρ a w hK rr e
  | some o=>
   simp only [ho] at hK
   replace hK:=cond_some hK
   obtain ⟨hd,hK⟩:=hK
   have run:∀ (st:St),R cx ρ X st h a w->opK cx o st h (fun v h'=>opsK cx ops is (put st o.dst v) h' K)=some r->o.wpIn (FR rd) 0 cx.P a w (wpOpsIn (FR rd) 0 cx.P ops Q is) Q:=fun st rr hK=>by
    obtain ⟨sv,h',hK,hop⟩:=opK_sound hΓ hE hK
    refine hop ρ X a w rr rd _ _ fun v w' hp => ?_
    obtain ⟨ρ',rr',e'⟩:=rr.step hd hp
    exact opsK_sound hΓ hE hQ is _ _ ρ' _ w' hK rr' (e.trans e')
   have skip:∀ (st:St),R cx ρ X st h a w->opsK cx ops is (put st o.dst UND) h K=some r->wpOpsIn (FR rd) 0 cx.P ops Q is (a.put o.dst undef) w:=fun st rr hK=>by
    obtain ⟨ρ',rr',e'⟩:=rr.step hd (Post.same rr.hr und_vr)
    exact opsK_sound hΓ hE hQ is _ _ ρ' _ w hK rr' (e.trans e')
   simp only [wpOpsIn,ho]
   cases hg:o.guard with
   | none=>
    simp only [hg] at hK
    have hw:Region.wanted o (yielded ops a.tmps)=true:=by simp [Region.wanted,hg]
    rw [if_pos hw]
    exact run st rr hK
   | some gw=>
    obtain ⟨g,want⟩:=gw
    simp only [hg] at hK
    cases hgd:(ops[g]?).bind (·.dst) with
    | none=>simp [hgd] at hK
    | some d=>
     simp only [hgd] at hK
     split at hK
     ·rename_i b hb
      have hv:=rr.st d
      rw [hb] at hv
      have hw:=wanted_of hg hgd hv.bool_inv
      rw [hw]
      cases b <;> cases want <;> simp only [cond_true,cond_false] at hK
      ·rw [if_pos (by rfl)];exact run _ (rr.know hb) hK
      ·rw [if_neg (by simp)];exact ⟨fun _ _=>trivial,skip _ (rr.know hb) hK⟩
      ·rw [if_neg (by simp)];exact ⟨fun _ _=>trivial,skip _ (rr.know hb) hK⟩
      ·rw [if_pos (by rfl)];exact run _ (rr.know hb) hK
     ·rename_i hb
      have hv:=rr.st d
      rw [hb] at hv
      rw [if_neg (by rw [wanted_und hg hgd (und_inv hv)];simp)]
      exact ⟨fun _ _=>trivial,skip _ rr hK⟩
     ·cases hK
end
end Go.Ab

namespace Go.Ab
open Go
set_option maxRecDepth 100000
def ValR (w:World) (M:Nat->Prop) (bs:List Nat) (x:CV) (v:Value) (B:List Nat):Prop:=
 (∃ k b,x = .ref k/\bs[k]? = some b/\v = .pointer (some ⟨b,0,none⟩)/\B=[])\/OR w M x v B
def ValsR (w:World) (M:Nat->Prop) (bs:List Nat) (us:Nat->Value):List Nat->List CV->List Nat->Prop
 | [],[],B=>B=[]
 | t::ts,x::xs,B=>∃ B1 B2,ValR w M bs x (us t) B1/\ValsR w M bs us ts xs B2/\B=B1++B2
 | _,_,_=>False
theorem ValR.mono {w:World} {M M':Nat->Prop} (hM:∀ b,M' b->M b) {bs:List Nat} {x:CV} {v:Value} {B:List Nat} (h:ValR w M bs x v B):ValR w M' bs x v B:=
 h.imp id (·.mono hM)
theorem ValsR.mono {w:World} {M M':Nat->Prop} (hM:∀ b,M' b->M b) {bs:List Nat} {us:Nat->Value}:∀ {ts:List Nat} {xs:List CV} {B:List Nat},ValsR w M bs us ts xs B->ValsR w M' bs us ts xs B
 | [],[],_,h=>h
 | _::_,_::_,_,⟨B1,B2,h1,h2,h3⟩=>⟨B1,B2,h1.mono hM,h2.mono hM,h3⟩
 | [],_::_,_,h=>h.elim
 | _::_,[],_,h=>h.elim
theorem idxOf_spec {i:Nat}:∀ {ids:List Nat} {k0 k:Nat},idxOf i ids k0=some k->k0<=k/\ids[k - k0]? = some i
 | [],_,_,h=>by simp [idxOf] at h
 | j::l,k0,k,h=>by
  simp only [idxOf] at h
  cases hb:Nat.beq i j with
  | true=>
   simp only [hb,cond_true,Option.some.injEq] at h
   subst h
   have:=beq_true hb
   subst this
   exact ⟨Nat.le_refl _,by simp⟩
  | false=>
   simp only [hb,cond_false] at h
   obtain ⟨h1,h2⟩:=idxOf_spec h
   refine ⟨by omega,?_⟩
   rw [show k - k0=(k - (k0+1))+1 from by omega]
   simpa using h2
section
variable {β:Type} {cx:Cx} {r:β}
theorem takeRow_sound {ρ:Env} {w:World} {X:Nat->Prop} {h h':H} {s:SV} {x:CV} {v:Value} (hr:HR ρ X h w) (hv:VR ρ h w (Mut ρ X h) s v) (ht:takeRow s h=some (x,h')):
  ∃ B,TK ρ X h w h' B/\OR w (Mut ρ (XB X B) h') x v B:=by
 unfold takeRow at ht
 split at ht
 ·rename_i i ver n
  split at ht
  ·rename_i ver' sz l hg
   replace ht:=cond_some ht
   obtain ⟨hb,ht⟩:=ht
   simp only [Option.some.injEq,Prod.mk.injEq] at ht
   obtain ⟨rfl,rfl⟩:=ht
   have hvv:ver=ver':=Nat.eq_of_beq_eq_true hb
   subst hvv
   cases hv with
   | sub _ _ _ _ _ hp hi hv=>
    obtain ⟨hle,a,cap,cap',k,hcur,hn,hc,hk,_,rfl⟩:=(hv ver false sz l hg).2 rfl
    obtain rfl:k=0:=by omega
    have hlen:(l.take n).length=n:=by simp;omega
    have hbx:=hr.box i
    rw [hg] at hbx
    obtain ⟨h0,h1,h2,h3⟩:=hbx
    rcases h3 with ⟨h3,rfl⟩ | ⟨b,cap0,cur,ty,h3,h4,h5,h6,h7⟩
    ·rw [hcur] at h3
     injection h3 with h3 h3' h3''
     subst h3
     obtain rfl:n=0:=by simpa using hle
     obtain rfl:cap'=0:=by omega
     refine ⟨[],TK.kill hr (by simp [hg,isLive]) (fun b=>by simp [hg,bOf,hcur]) (by simp),?_⟩
     exact .ownN sz h0
    ·rw [hcur] at h3
     injection h3 with h3 h3' h3''
     subst h3 h3''
     have t:TK ρ X h w (setH h i .dead) [b]:=TK.kill hr (by simp [hg,isLive]) (fun b'=>by simp [hg,bOf,hcur,eq_comm]) (by simp)
     refine ⟨[b],t,?_⟩
     have:=OR.own (M:=Mut ρ (XB X [b]) (setH h i .dead)) (w:=w) sz (l.take n) b cap' cur ty h0 (fun e he=>h1 e (List.mem_of_mem_take he)) (by rw [hlen];omega) h4 (by omega) (Nat.le_trans (Nat.mul_le_mul_right sz (by omega)) h6) fun k j x hx=>by
      obtain ⟨u,hu,hp,hrr⟩:=h7 k j x (by
       unfold at2 at hx ⊢
       obtain ⟨e,he,hx⟩:=Option.bind_eq_some_iff.1 hx
       rw [List.getElem?_take] at he
       split at he
       ·exact Option.bind_eq_some_iff.2 ⟨e,he,hx⟩
       ·cases he)
      exact ⟨u,hu,hp,t.cr hrr⟩
     rw [hlen] at this
     exact this
  ·exact close_take hr hv ht
 ·exact take_sound depth X h s x h' v hr hv ht
theorem outV_sound {ρ:Env} {w:World} {ids:List Nat} {rest:List SV} {X:Nat->Prop} {h h':H} {s:SV} {x:CV} {v:Value} (hr:HR ρ X h w) (hv:VR ρ h w (Mut ρ X h) s v) (ht:outV ids h rest s=some (x,h')):
  ∃ B,TK ρ X h w h' B/\OR w (Mut ρ (XB X B) h') x v B:=by
 unfold outV at ht
 cases e:shared ids h rest (rowOf s) with
 | true=>rw [e] at ht;exact close_take hr hv ht
 | false=>rw [e] at ht;exact takeRow_sound hr hv ht
theorem expoV_sound {ρ:Env} {w:World} {ids:List Nat} {st:St} {us:Nat->Value}:∀ (ts:List Nat) (X:Nat->Prop) (h:H) (vs:List CV) (h':H),HR ρ X h w->(∀ t,VR ρ h w (Mut ρ X h) (get st t) (us t))->
  expoV ids st ts h=some (vs,h')->∃ B,TK ρ X h w h' B/\ValsR w (Mut ρ (XB X B) h') (ids.map ρ.blk) us ts vs B
 | [],X,h,vs,h',hr,_,he=>by
  simp only [expoV,Option.some.injEq,Prod.mk.injEq] at he
  obtain ⟨rfl,rfl⟩:=he
  exact ⟨[],TK.refl hr,rfl⟩
 | t::ts,X,h,vs,h',hr,hv,he=>by
  simp only [expoV] at he
  split at he
  ·rename_i k hk
   replace he:=bind_some' he
   obtain ⟨⟨vs1,h1⟩,he1,he⟩:=he
   simp only [Option.some.injEq,Prod.mk.injEq] at he
   obtain ⟨rfl,rfl⟩:=he
   obtain ⟨B,t1,v1⟩:=expoV_sound ts X h vs1 h1 hr hv he1
   refine ⟨B,t1,[],B,.inl ?_,v1,rfl⟩
   split at hk
   ·rename_i i hg
    have hvt:=hv t
    rw [hg] at hvt
    obtain ⟨_,hix⟩:=idxOf_spec hk
    generalize us t=u at hvt
    cases hvt with
    | ptr _ _ v hpl hi hq=>exact ⟨k,ρ.blk i,rfl,by simpa using ⟨i,hix,rfl⟩,hq,rfl⟩
   ·cases hk
  ·replace he:=bind_some' he
   obtain ⟨⟨x,h1⟩,hx,he⟩:=he
   replace he:=bind_some' he
   obtain ⟨⟨vs1,h2⟩,he1,he⟩:=he
   simp only [Option.some.injEq,Prod.mk.injEq] at he
   obtain ⟨rfl,rfl⟩:=he
   obtain ⟨B1,t1,o1⟩:=outV_sound (w:=w) (ρ:=ρ) hr (hv t) hx
   obtain ⟨B2,t2,v2⟩:=expoV_sound ts _ h1 vs1 h2 t1.hr (fun t=>t1.vr (hv t)) he1
   refine ⟨B1++B2,t1.trans t2,B1,B2,.inr ?_,?_,rfl⟩
   ·exact o1.mono fun b hb=>by
     rw [<- XB_append] at hb
     exact t2.mut hb
   ·rw [<- XB_append];exact v2
theorem expo_sound {ρ:Env} {X:Nat->Prop} {h h':H} {w:World} {ids ts:List Nat} {st:St} {us:Nat->Value} {vs:List CV} {cs:List (List CV)} (hr:HR ρ X h w) (hv:∀ t,VR ρ h w (Mut ρ X h) (get st t) (us t))
  (he:expo ids st ts h=some (vs,cs,h')):∃ Bv Bc,TK ρ X h w h' (Bv++Bc)/\ValsR w (Mut ρ (XB X (Bv++Bc)) h') (ids.map ρ.blk) us ts vs Bv/\ContR w (Mut ρ (XB X (Bv++Bc)) h') (ids.map ρ.blk) cs Bc/\
   ids.Nodup/\∀ i∈ids,i<h.length/\getH h i ≠ .dead/\getH h' i = .dead:=by
 unfold expo at he
 replace he:=bind_some' he
 obtain ⟨⟨vs1,h1⟩,he1,he⟩:=he
 replace he:=bind_some' he
 obtain ⟨⟨cs1,h2⟩,he2,he⟩:=he
 simp only [Option.some.injEq,Prod.mk.injEq] at he
 obtain ⟨rfl,rfl,rfl⟩:=he
 obtain ⟨Bv,t1,v1⟩:=expoV_sound ts X h vs1 h1 hr hv he1
 obtain ⟨Bc,t2,c2,hn,hd⟩:=contsOut_sound ids _ h1 cs1 h2 t1.hr he2
 refine ⟨Bv,Bc,t1.trans t2,?_,?_,hn,fun i hi => ?_⟩
 ·exact v1.mono fun b hb=>by
   rw [<- XB_append] at hb
   exact t2.mut hb
 ·rw [<- XB_append];exact c2
 ·obtain ⟨q1,q2,q3⟩:=hd i hi
  exact ⟨by rw [<- t1.len];exact q1,fun hdd=>q2 (t1.dead hdd),q3⟩
theorem impV_sound {X:Nat->Prop} {w:World} {M:Nat->Prop} {ids bs:List Nat} {us:Nat->Value}:∀ (ts:List Nat) (vs:List CV) (ρ:Env) (h:H) (st:St) (h':H) (B:List Nat),HRM ρ X h w M->impV ids ts vs h=some (st,h')->
  (∀ i∈ids,i<h.length)->ids.map ρ.blk=bs->ValsR w M bs us ts vs B->MayIn ρ X h M B->∃ ρ',IC ρ X h w M ρ' h' [] B/\∀ t,VR ρ' h' w M (get st t) (us t)
 | [],[],ρ,h,st,h',B,hr,hi,_,_,hb,hm=>by
  simp only [impV,Option.some.injEq,Prod.mk.injEq] at hi
  obtain ⟨rfl,rfl⟩:=hi
  simp only [ValsR] at hb
  subst hb
  exact ⟨ρ,IC.refl hr,fun t => .any _⟩
 | t::ts,v::vs,ρ,h,st,h',B,hr,hi,hlt,hmap,hb,hm=>by
  obtain ⟨B1,B2,h1,h2,rfl⟩:=hb
  have other:∀ (v:CV) (x:SV×H),im depth v h=x->OR w M v (us t) B1->((impV ids ts vs x.2).bind fun r=>some ((t,x.1)::r.1,r.2))=some (st,h')->
    ∃ ρ',IC ρ X h w M ρ' h' [] (B1++B2)/\∀ t,VR ρ' h' w M (get st t) (us t):=fun v x hx ho hi=>by
   subst hx
   replace hi:=bind_some' hi
   obtain ⟨⟨st1,h1'⟩,hi1,hi⟩:=hi
   simp only [Option.some.injEq,Prod.mk.injEq] at hi
   obtain ⟨rfl,rfl⟩:=hi
   obtain ⟨ρ1,m1,hv1⟩:=im_sound depth ρ h v (us t) B1 hr ho hm.left
   have hmap1:ids.map ρ1.blk=bs:=by rw [<- hmap];exact List.map_congr_left fun i hi=>(m1.agree i (hlt i hi)).2
   obtain ⟨ρ2,m2,hv2⟩:=impV_sound ts vs ρ1 _ st1 h1' B2 m1.hr hi1 (fun i hi=>Nat.lt_of_lt_of_le (hlt i hi) m1.ext.len) hmap1 h2 (hm.rightC m1.toIC)
   refine ⟨ρ2,m1.toIC.trans m2,fun t' => ?_⟩
   have:get ((t,(im depth v h).1)::st1) t'=get (put st1 (some t) (im depth v h).1) t':=rfl
   rw [this,get_put]
   split
   ·rename_i e;subst e;exact hv1.mono m2.ext (fun _ _ h=>h)
   ·exact hv2 t'
  rcases h1 with ⟨k,b,rfl,hk,hu,rfl⟩ | ho
  ·simp only [impV] at hi
   split at hi
   ·rename_i i hix
    replace hi:=bind_some' hi
    obtain ⟨⟨st1,h1'⟩,hi1,hi⟩:=hi
    simp only [Option.some.injEq,Prod.mk.injEq] at hi
    obtain ⟨rfl,rfl⟩:=hi
    obtain ⟨ρ2,m2,hv2⟩:=impV_sound ts vs ρ h st1 h1' B2 hr hi1 hlt hmap h2 (by simpa using hm)
    refine ⟨ρ2,by simpa using m2,fun t' => ?_⟩
    have:get ((t,.ptr i 0)::st1) t'=get (put st1 (some t) (.ptr i 0)) t':=rfl
    rw [this,get_put]
    split
    ·rename_i e
     subst e
     have hi:=hlt i (List.mem_of_getElem? hix)
     have hbl:ρ.blk i=b:=by
      rw [<- hmap] at hk
      simp [hix] at hk
      exact hk
     exact .ptr _ _ _ (by rw [hu];rfl) (Nat.lt_of_lt_of_le hi m2.ext.len) (by rw [hu,(m2.agree i hi).2,hbl])
    ·exact hv2 t'
   ·cases hi
  ·cases v with
   | ref k=>
    exfalso
    generalize us t=u at ho
    cases ho with | c _ _ hx=>cases hx
   | int k n=>exact other _ _ rfl ho hi
   | bool b=>exact other _ _ rfl ho hi
   | sl sz l=>exact other _ _ rfl ho hi
   | own sz l=>exact other _ _ rfl ho hi
   | pc cs off=>exact other _ _ rfl ho hi
   | agg cs=>exact other _ _ rfl ho hi
   | tup vs=>exact other _ _ rfl ho hi
   | fn f a b=>exact other _ _ rfl ho hi
   | box cs=>exact other _ _ rfl ho hi
   | yld l=>exact other _ _ rfl ho hi
   | top=>exact other _ _ rfl ho hi
   | mp ks=>exact other _ _ rfl ho hi
   | mpo ks=>exact other _ _ rfl ho hi
   | rcd l fx ts env bs n q=>exact other _ _ rfl ho hi
 | [],_::_,_,_,_,_,_,_,hi,_,_,_,_=>by simp [impV] at hi
 | _::_,[],_,_,_,_,_,_,hi,_,_,_,_=>by simp [impV] at hi
theorem preN_range:∀ (n i m:Nat),n<=m->preN i n (List.range' i m)=true
 | 0,_,_,_=>by simp [preN]
 | n+1,i,0,h=>by omega
 | n+1,i,m+1,h=>by
  have:=preN_range n (i+1) m (by omega)
  simp [List.range'_succ,preN,this]
theorem startH_eq {w:World} {M:Nat->Prop}:∀ (cs:List (List CV)) (i:Nat) (h:H) (bs B:List Nat),ContR w M bs cs B->contsIn (List.range' i cs.length) cs h=some (startH cs i h)
 | [],_,_,_,_,_=>rfl
 | c::cs,i,h,[],B,hc=>hc.elim
 | c::cs,i,h,b::bs,B,hc=>by
  rw [List.length_cons,List.range'_succ]
  rcases hc with ⟨cur,ty,Bs,B2,h1,h2,h3,h4,rfl⟩ | ⟨fx,ts,env,bx,n,q,B2,rfl,h1,h2,h3,h5,h4,rfl⟩
  ·have ih:=fun h=>startH_eq cs (i+1) h bs B2 h4
   match c,h3 with
   | [],_=>exact ih _
   | x::_::_,_=>cases x <;> exact ih _
   | [x],h3=>
    cases x with
    | rcd l fx ts env bs n q=>
     obtain ⟨_,ho⟩:=h3 0 _ rfl
     exact absurd ho no_rcd
    | _=>exact ih _
  ·have hle:n<=cs.length:=by
    have:=h4.len
    have h6:=congrArg List.length h3
    simp at h6
    omega
   simp only [contsIn,startH,preN_range n (i+1) cs.length hle,cond_true]
   exact startH_eq cs (i+1) _ bs B2 h4
theorem getH_replicate (n i:Nat):getH (List.replicate n Box.dead) i = .dead:=by
 induction n generalizing i with
 | zero=>rfl
 | succ n ih=>cases i with
  | zero=>rfl
  | succ i=>simpa [List.replicate_succ,getH] using ih i
theorem start_sound (n0:Nat) {X:Nat->Prop} {w:World} {M:Nat->Prop} {cs:List (List CV)} {bs B:List Nat} (hX:∀ b,X b->M b) (hc:ContR w M bs cs B) (hnd:B.Nodup) (hm:∀ b∈B,M b) (hx:∀ b∈B,¬ X b) (hgl:GlobR w M):
  ∃ ρ0 ρ,IC ρ0 X (List.replicate cs.length .dead) w M ρ (startH cs 0 (List.replicate cs.length .dead)) (List.range cs.length) B/\(List.range cs.length).map ρ.blk=bs/\(∀ i b,bOf ρ0 i (getH (List.replicate cs.length .dead) i)≠some b)/\ρ.base=n0:=by
 have hlen:=hc.len
 let ρ0:Env:=⟨fun _=>undef,fun i=>bs.getD i 0,n0⟩
 have hno:∀ i b,bOf ρ0 i (getH (List.replicate cs.length .dead) i)≠some b:=fun i b=>by rw [getH_replicate];simp [bOf]
 have hmap:(List.range' 0 cs.length).map ρ0.blk=bs:=by
  apply List.ext_getElem?
  intro i
  simp only [List.getElem?_map,ρ0]
  by_cases hi:i<cs.length
  ·rw [List.getElem?_range' (by simpa using hi)]
   simp [show i<bs.length from by omega]
  ·have h1:(List.range' 0 cs.length)[i]? = none:=by simp;omega
   rw [h1]
   simp;omega
 have hrm:HRM ρ0 X (List.replicate cs.length .dead) w M:=by
  refine ⟨fun i => ?_,fun i j b hb=>absurd hb (hno i b),fun i b hb=>absurd hb (hno i b),fun b hb => ?_,hgl⟩
  ·rw [getH_replicate];exact trivial
  ·rcases hb with hb | ⟨i,_,hb⟩
   ·exact hX b hb
   ·exact absurd hb (hno i b)
 obtain ⟨ρ,m⟩:=contsIn_sound (List.range' 0 cs.length) cs ρ0 _ _ bs B hrm (startH_eq cs 0 _ bs B hc) (fun i hi=>by
  have:=List.mem_range'.1 hi
  exact ⟨by simp;omega,getH_replicate _ i⟩) (List.nodup_range') hmap hc ⟨hnd,hm,hx,fun b _ i=>hno i b⟩
 rw [<- List.range_eq_range'] at m hmap
 refine ⟨ρ0,ρ,m,?_,hno,m.ab⟩
 rw [<- hmap]
 exact List.map_congr_left fun i hi=>(m.agree i (by simpa using hi)).2
end
end Go.Ab

namespace Go.Ab
open Go
set_option maxRecDepth 100000
section
variable {β:Type} {cx:Cx} {r:β}
theorem back {ρ:Env} {X:Nat->Prop} {h h1:H} {w w':World} {B B':List Nat} (hr:HR ρ X h w) (t:TK ρ X h w h1 B) (io:SameIO w w') (size:w.heap.size<=w'.heap.size) (keep:∀ b,b<w.heap.size->b∉B->w'.heap[b]? = w.heap[b]?)
  (new:∀ b,b∈B'->b∈B\/w.heap.size<=b) (nd:B'.Nodup):HRM ρ X h1 w' (MM (Mut ρ (XB X B) h1) B B')/\MayIn ρ X h1 (MM (Mut ρ (XB X B) h1) B B') B'/\
   ∀ ρ' h' I C,IC ρ X h1 w' (MM (Mut ρ (XB X B) h1) B B') ρ' h' I C->(∀ b,b∈C->b∈B')->HR ρ' X h' w'/\Ext ρ h w ρ' h' w':=by
 have hXlt:∀ b,X b->b<w.heap.size:=hr.xlt
 have hBX:∀ b∈B,¬ X b:=fun b hb hx=>by
  obtain ⟨i,_,h3⟩:=t.bl b hb
  exact hr.out i b h3 hx
 have hM2:∀ b,Mut ρ X h1 b->MM (Mut ρ (XB X B) h1) B B' b:=fun b hb=>by
  rcases hb with hb | hb
  ·exact .inl ⟨.inl (.inl hb),fun hm=>hBX b hm hb⟩
  ·refine .inl ⟨.inr hb,fun hm => ?_⟩
   obtain ⟨i,_,h3⟩:=hb
   exact t.hr.out i b h3 (.inr hm)
 have hcrm:∀ x u,CR w (Mut ρ (XB X B) h1) x u->CR w' (MM (Mut ρ (XB X B) h1) B B') x u:=fun x u hx=>
  hx.mono size (fun b hb hn=>keep b hb fun hm=>hn (.inl (.inr hm))) (fun b hb hm=>by
   rcases hm with ⟨hm,_⟩ | hm
   ·exact hm
   ·rcases new b hm with hm | hm
    ·exact .inl (.inr hm)
    ·omega)
 have hrm:HRM ρ X h1 w' (MM (Mut ρ (XB X B) h1) B B'):=by
  refine ⟨fun i => ?_,t.hr.inj,fun i b hb hx=>t.hr.out i b hb (.inl hx),hM2,fun g cs hg=>hcrm _ _ (t.hr.glob g cs hg)⟩
  refine (t.hr.box i).mono' (HExt.refl ρ h1) hcrm (fun _ _ _ _ _=>rfl) (fun _ _ _=>rfl) fun b hb => ?_
  exact keep b (t.hr.lt hb) fun hm=>t.hr.out i b hb (.inr hm)
 refine ⟨hrm,⟨nd,fun b hb => .inr hb,fun b hb hx => ?_,fun b hb i hi => ?_⟩,fun ρ' h' I C m hC=>⟨m.hr.toHR fun b hb=>Nat.lt_of_lt_of_le (hXlt b hb) size,t.ext.trans m.ext,size,fun b hb hl => ?_,fun b hb hl => ?_,io⟩⟩
 ·rcases new b hb with hm | hm
  ·exact hBX b hm hx
  ·have:=hXlt b hx;omega
 ·rcases new b hb with hm | hm
  ·exact t.hr.out i b hi (.inr hm)
  ·have:=t.hr.lt hi;omega
 ·exact keep b hb fun hm=>hl (t.bl b hm)
 ·obtain ⟨i,h3,h4⟩:=hl
  rcases m.new i b h4 with ⟨h5,h6⟩ | h5
  ·exact t.lv b ⟨i,by rw [<- h5];exact h3,h6⟩
  ·rcases new b (hC b h5) with h6 | h6
   ·exact t.bl b h6
   ·omega
structure InL (w:World) (M:Nat->Prop) (ts:List Nat) (vals:List CV) (conts:List (List CV)) (us:Nat->Value) (bs Bv Bc:List Nat):Prop where
 vals:ValsR w M bs us ts vals Bv
 cont:ContR w M bs conts Bc
 nd:(Bv++Bc).Nodup
 sub:∀ b∈Bv++Bc,M b
 lt:∀ b,M b->b<w.heap.size
 glob:GlobR w M
structure OutL (w:World) (M:Nat->Prop) (B bs:List Nat) (w':World) (us:Nat->Value) (ts:List Nat) (vals:List CV) (conts:List (List CV)) (Bv Bc:List Nat):Prop where
 io:SameIO w w'
 size:w.heap.size<=w'.heap.size
 keep:∀ b,b<w.heap.size->b∉B->w'.heap[b]? = w.heap[b]?
 new:∀ b,b∈Bv++Bc->b∈B\/w.heap.size<=b
 nd:(Bv++Bc).Nodup
 vals:ValsR w' (MM M B (Bv++Bc)) bs us ts vals Bv
 cont:ContR w' (MM M B (Bv++Bc)) bs conts Bc
 lt:∀ b,b∈Bv++Bc->b<w'.heap.size
def CodeS (cx:Cx) (p:List Bool) (c:Code):Prop:=
 ∀ (rd:Option Nat),(rd=none\/noRF c=true)->∀ (n:Nat) (β:Type) (K:Exit->St->H->Option β) (st:St) (h:H) (r:β),codeK cx n p c K st h=some r->∀ (X:Nat->Prop) (ρ:Env) (a:Act) (w:World) (ρ0:Env) (h0:H) (w0:World) (Q:Exit->Act->World->Prop),
  R cx ρ X st h a w->Ext ρ0 h0 w0 ρ h w->(∀ e st h ρ a w,K e st h=some r->R cx ρ X st h a w->Ext ρ0 h0 w0 ρ h w->Q e a w)->c.wpIn (FR rd) 0 cx.P Q a w
def LoopsS (cx:Cx):Prop:=∀ (p:List Bool) (L:LoopSem) (b:Code),cx.Λ (pathN p)=some L->codeAt cx.root p=some (.loop b)->
 ∀ (vs:List CV) (cs:List (List CV)) (β:Type) (K:Exit->List CV->List (List CV)->Option β) (r:β),L.run vs cs β K=some r->∃ n,loopB cx L.ins L.outs p b n vs cs K=some r
theorem begin_sound (n0:Nat) {w:World} {M:Nat->Prop} {ts:List Nat} {vs:List CV} {cs:List (List CV)} {us:Nat->Value} {bs Bv Bc:List Nat} (i:InL w M ts vs cs us bs Bv Bc) {st:St} {h:H}
  (hi:impV (List.range cs.length) ts vs (startH cs 0 (List.replicate cs.length .dead))=some (st,h)):
  ∃ ρ,HR ρ (fun b=>M b/\b∉Bv++Bc) h w/\(∀ t,VR ρ h w (Mut ρ (fun b=>M b/\b∉Bv++Bc) h) (get st t) (us t))/\(List.range cs.length).map ρ.blk=bs/\(∀ i∈List.range cs.length,i<h.length)/\
   (∀ j b,bOf ρ j (getH h j)=some b->b∈Bv++Bc)/\ρ.base=n0:=by
 have hnd:=List.nodup_append.1 i.nd
 obtain ⟨ρ0,ρ1,m1,hmap,hno,hbase⟩:=start_sound n0 (X:=fun b=>M b/\b∉Bv++Bc) (fun b hb=>hb.1) i.cont hnd.2.1 (fun b hb=>i.sub b (List.mem_append_right _ hb)) (fun b hb hx=>hx.2 (List.mem_append_right _ hb)) i.glob
 have hl1:∀ k∈List.range cs.length,k<(startH cs 0 (List.replicate cs.length .dead)).length:=fun k hk=>Nat.lt_of_lt_of_le (by simpa using hk) m1.ext.len
 obtain ⟨ρ,m2,hv⟩:=impV_sound ts vs ρ1 _ st h Bv m1.hr hi hl1 hmap i.vals ⟨hnd.1,fun b hb=>i.sub b (List.mem_append_left _ hb),fun b hb hx=>hx.2 (List.mem_append_left _ hb),fun b hb k hk=>by
  rcases m1.new k b hk with ⟨_,h2⟩ | h2
  ·exact hno k b h2
  ·exact hnd.2.2 b hb b h2 rfl⟩
 refine ⟨ρ,m2.hr.toHR fun b hb=>i.lt b hb.1,fun t=>(hv t).mono (HExt.refl ρ h) fun x u hx=>hx.mono (Nat.le_refl _) (fun _ _ _=>rfl) (fun b _ hb=>m2.hr.sub b hb),?_,fun k hk=>Nat.lt_of_lt_of_le (hl1 k hk) m2.ext.len,fun j b hb => ?_,m2.ab.trans hbase⟩
 ·rw [<- hmap]
  exact List.map_congr_left fun k hk=>(m2.agree k (hl1 k hk)).2
 ·rcases m2.new j b hb with ⟨_,h2⟩ | h2
  ·rcases m1.new j b h2 with ⟨_,h3⟩ | h3
   ·exact absurd h3 (hno j b)
   ·exact List.mem_append_right _ h3
  ·exact List.mem_append_left _ h2
theorem end_sound {w w':World} {M:Nat->Prop} {B bs:List Nat} {m:Nat} {ρ ρ':Env} {h h' h'':H} {st:St} {us:Nat->Value} {ts:List Nat} {vs:List CV} {cs:List (List CV)}
  (_hlt:∀ b,M b->b<w.heap.size)
  (hm:(List.range m).map ρ.blk=bs) (hl:∀ i∈List.range m,i<h.length) (hB:∀ j b,bOf ρ j (getH h j)=some b->b∈B) (hr:HR ρ' (fun b=>M b/\b∉B) h' w') (hv:∀ t,VR ρ' h' w' (Mut ρ' (fun b=>M b/\b∉B) h') (get st t) (us t))
  (e:Ext ρ h w ρ' h' w') (hx:expo (List.range m) st ts h'=some (vs,cs,h'')):∃ Bv Bc,OutL w M B bs w' us ts vs cs Bv Bc:=by
 obtain ⟨Bv,Bc,t,hvs,hcs,_,_⟩:=expo_sound hr hv hx
 have hmap:(List.range m).map ρ'.blk=bs:=by rw [<- hm];exact List.map_congr_left fun i hi=>e.blks i (hl i hi)
 rw [hmap] at hvs hcs
 have hsub:∀ b,MM M B (Bv++Bc) b->Mut ρ' (XB (fun b=>M b/\b∉B) (Bv++Bc)) h'' b:=fun b hb => .inl hb
 refine ⟨Bv,Bc,e.io,e.size,fun b hb hn=>e.keep b hb ?_,fun b hb => ?_,t.nd,hvs.mono hsub,hcs.mono hsub,fun b hb=>t.hr.xlt b (.inr hb)⟩
 ·rintro ⟨j,_,hj⟩
  exact hn (hB j b hj)
 ·by_cases hbl:b<w.heap.size
  ·obtain ⟨j,_,hj⟩:=e.lives b hbl (t.bl b hb)
   exact .inl (hB j b hj)
  ·exact .inr (by omega)
theorem OutL.next {w w1 w2:World} {M:Nat->Prop} {B bs:List Nat} {us1 us2:Nat->Value} {ts1 ts2:List Nat} {vs1 vs2:List CV} {cs1 cs2:List (List CV)} {Bv1 Bc1 Bv2 Bc2:List Nat} (hlt:∀ b,M b->b<w.heap.size)
  (o:OutL w M B bs w1 us1 ts1 vs1 cs1 Bv1 Bc1) (o2:OutL w1 (MM M B (Bv1++Bc1)) (Bv1++Bc1) bs w2 us2 ts2 vs2 cs2 Bv2 Bc2):OutL w M B bs w2 us2 ts2 vs2 cs2 Bv2 Bc2:=by
 have hsub:∀ b,MM M B (Bv2++Bc2) b->MM (MM M B (Bv1++Bc1)) (Bv1++Bc1) (Bv2++Bc2) b:=fun b hb=>by
  rcases hb with ⟨h1,h2⟩ | hb
  ·refine .inl ⟨.inl ⟨h1,h2⟩,fun h3 => ?_⟩
   rcases o.new b h3 with h4 | h4
   ·exact h2 h4
   ·have:=hlt b h1;omega
  ·exact .inr hb
 refine ⟨⟨o2.io.1.trans o.io.1,o2.io.2.trans o.io.2⟩,Nat.le_trans o.size o2.size,fun b hb hn => ?_,fun b hb => ?_,o2.nd,o2.vals.mono hsub,o2.cont.mono hsub,o2.lt⟩
 ·rw [o2.keep b (Nat.lt_of_lt_of_le hb o.size) fun h3 => ?_,o.keep b hb hn]
  rcases o.new b h3 with h4 | h4
  ·exact hn h4
  ·omega
 ·rcases o2.new b hb with h3 | h3
  ·exact o.new b h3
  ·exact .inr (Nat.le_trans o.size h3)
theorem OutL.toIn {w w1:World} {M:Nat->Prop} {B bs:List Nat} {us:Nat->Value} {ts:List Nat} {vs:List CV} {cs:List (List CV)} {Bv Bc:List Nat} (hlt:∀ b,M b->b<w.heap.size) (hsub:∀ b∈B,M b) (hg:GlobR w M) (o:OutL w M B bs w1 us ts vs cs Bv Bc):
  InL w1 (MM M B (Bv++Bc)) ts vs cs us bs Bv Bc:=by
 refine ⟨o.vals,o.cont,o.nd,fun b hb => .inr hb,fun b hb => ?_,hg.mono o.size (fun b hb hn=>o.keep b hb fun h=>hn (hsub b h)) fun b hb hm => ?_⟩
 rotate_left
 ·rcases hm with ⟨h1,_⟩ | hm
  ·exact h1
  ·rcases o.new b hm with h1 | h1
   ·exact hsub b h1
   ·omega
 rcases hb with ⟨h1,_⟩ | hb
 ·exact Nat.lt_of_lt_of_le (hlt b h1) o.size
 ·exact o.lt b hb
theorem loopB_sound {rd:Option Nat} {n0:Nat} {p:List Bool} {b:Code} (hrd:rd=none\/noRF b=true) {ins:List Nat} {outs:Exit->List Nat} (hb:CodeS cx (false::p) b) {K:Exit->List CV->List (List CV)->Option β}:∀ (n:Nat) (vs:List CV) (cs:List (List CV)),
  loopB cx ins outs p b n vs cs K=some r->∀ (w:World) (M:Nat->Prop) (a:Act) (bs Bv Bc:List Nat) (Q:Exit->Act->World->Prop),InL w M ins vs cs (fun t=>a.tmps.getD t undef) bs Bv Bc->a.tmps.size=cx.nt->Marks n0 w a.defers->
   (∀ e vs' cs' a' w' Bv' Bc',K e vs' cs'=some r->OutL w M (Bv++Bc) bs w' (fun t=>a'.tmps.getD t undef) (outs e) vs' cs' Bv' Bc'->a'.tmps.size=cx.nt->Marks n0 w' a'.defers->Q e a' w')->Code.roundsIn (FR rd) 0 cx.P b Q n a w
 | 0,vs,cs,hK,_,_,_,_,_,_,_,_,_,_,_=>by simp [loopB] at hK
 | n+1,vs,cs,hK,w,M,a,bs,Bv,Bc,Q,hin,hnt,hnd,hQ=>by
  simp only [loopB] at hK
  replace hK:=bind_some' hK
  obtain ⟨⟨st,h⟩,hi,hK⟩:=hK
  dsimp only at hK
  obtain ⟨ρ,hr,hv,hmap,hlen,hB,hbase⟩:=begin_sound n0 hin hi
  rw [roundsIn_succ]
  refine hb rd hrd _ _ _ st h r hK (fun b=>M b/\b∉Bv++Bc) ρ a w ρ h w _ ⟨hr,hv,hnt,by rw [hbase];exact hnd⟩ (Ext.refl ρ h w) fun e st' h' ρ' a' w' hK rr e' => ?_
  have other:((expo (List.range cs.length) st' (outs e) h').bind fun x=>K e x.1 x.2.1)=some r->Q e a' w':=fun hK=>by
   replace hK:=bind_some' hK
   obtain ⟨⟨vs',cs',h''⟩,hx,hK⟩:=hK
   obtain ⟨Bv',Bc',ho⟩:=end_sound hin.lt hmap hlen hB rr.hr rr.st e' hx
   exact hQ e vs' cs' a' w' Bv' Bc' hK ho rr.nt (by rw [<- hbase,<- e'.base];exact rr.nd)
  cases e with
  | normal=>
   replace hK:=bind_some' hK
   obtain ⟨⟨vs',cs',h''⟩,hx,hK⟩:=hK
   obtain ⟨Bv',Bc',ho⟩:=end_sound hin.lt hmap hlen hB rr.hr rr.st e' hx
   refine loopB_sound (n0:=n0) hrd hb n vs' cs' hK w' _ a' bs Bv' Bc' Q (ho.toIn hin.lt hin.sub hin.glob) rr.nt (by rw [<- hbase,<- e'.base];exact rr.nd) fun e vs2 cs2 a2 w2 Bv2 Bc2 hK2 ho2 hnt2 hnd2 => ?_
   exact hQ e vs2 cs2 a2 w2 Bv2 Bc2 hK2 (OutL.next hin.lt ho ho2) hnt2 hnd2
  | exit id=>exact other hK
  | goto l=>exact other hK
  | ret=>exact other hK
  | panic c=>exact other hK
  | outgrown=>exact other hK
theorem loopK_sound {rd:Option Nat} {p:List Bool} {b:Code} (hrd:rd=none\/noRF b=true) {L:LoopSem} (hb:CodeS cx (false::p) b)
  (hL:∀ (vs:List CV) (cs:List (List CV)) (β:Type) (K:Exit->List CV->List (List CV)->Option β) (r:β),L.run vs cs β K=some r->∃ n,loopB cx L.ins L.outs p b n vs cs K=some r)
  {K:Exit->St->H->Option β} {st:St} {h:H} (hK:loopK cx L K st h=some r) {X:Nat->Prop} {ρ ρ0:Env} {a:Act} {w w0:World} {h0:H} {Q:Exit->Act->World->Prop} (rr:R cx ρ X st h a w) (e:Ext ρ0 h0 w0 ρ h w)
  (hQ:∀ e st h ρ a w,K e st h=some r->R cx ρ X st h a w->Ext ρ0 h0 w0 ρ h w->Q e a w):(Code.loop b).wpIn (FR rd) 0 cx.P Q a w:=by
 unfold loopK at hK
 replace hK:=bind_some' hK
 obtain ⟨⟨vs,cs,h1⟩,hx,hK⟩:=hK
 obtain ⟨n,hK⟩:=hL _ _ _ _ _ hK
 obtain ⟨Bv,Bc,t,hvs,hcs,hnd,hdead⟩:=expo_sound rr.hr rr.st hx
 refine wpIn_loop_rounds n (loopB_sound hrd hb n vs cs hK w (Mut ρ (XB X (Bv++Bc)) h1) a _ Bv Bc Q ⟨hvs,hcs,t.nd,fun b hb => .inl (.inr hb),fun b hb => ?_,t.hr.glob⟩ rr.nt rr.nd fun e' vs' cs' a' w' Bv' Bc' hK ho hnt hnd' => ?_)
 ·rcases hb with hb | ⟨i,_,hi⟩
  ·exact t.hr.xlt b hb
  ·exact t.hr.lt hi
 ·replace hK:=bind_some' hK
  obtain ⟨h2,hci,hK⟩:=hK
  replace hK:=bind_some' hK
  obtain ⟨⟨st',h3⟩,hiv,hK⟩:=hK
  obtain ⟨hrm,hmay,hback⟩:=back rr.hr t ho.io ho.size ho.keep ho.new ho.nd
  have hperm:(Bc'++Bv').Perm (Bv'++Bc'):=List.perm_append_comm
  have hmay2:=hmay.perm hperm
  have hd1:∀ i∈idsOf h st L.ins L.ins (ambL cx),i<h1.length/\getH h1 i = .dead:=fun i hi=>by
   obtain ⟨q1,_,q3⟩:=hdead i hi
   exact ⟨by rw [t.len];exact q1,q3⟩
  obtain ⟨ρ1,m1⟩:=contsIn_sound _ cs' ρ h1 h2 _ Bc' hrm hci hd1 hnd rfl ho.cont hmay2.left
  have hl1:∀ i∈idsOf h st L.ins L.ins (ambL cx),i<h2.length:=fun i hi=>Nat.lt_of_lt_of_le (hd1 i hi).1 m1.ext.len
  have hmap:(idsOf h st L.ins L.ins (ambL cx)).map ρ1.blk=(idsOf h st L.ins L.ins (ambL cx)).map ρ.blk:=List.map_congr_left fun i hi=>(m1.agree i (hd1 i hi).1).2
  obtain ⟨ρ2,m2,hv⟩:=impV_sound (L.outs e') vs' ρ1 h2 st' h3 Bv' m1.hr hiv hl1 hmap ho.vals (hmay2.rightC m1)
  have m:=m1.trans m2
  obtain ⟨hr',e2⟩:=hback ρ2 h3 _ _ m fun b hb=>hperm.mem_iff.1 hb
  refine hQ e' st' h3 ρ2 a' w' hK ⟨hr',fun t=>(hv t).mono (HExt.refl ρ2 h3) fun x u hx=>hx.mono (Nat.le_refl _) (fun _ _ _=>rfl) (fun b _ hb=>m.hr.sub b hb),hnt,by rw [e2.base];exact hnd'⟩ (e.trans e2)
end
end Go.Ab

namespace Go.Ab
open Go
set_option maxRecDepth 100000
/-! ### Marks -/
structure SameBut (D:Nat->Prop) (w w':World):Prop where
 size:w'.heap.size=w.heap.size
 keep:∀ b,¬ D b->w'.heap[b]? = w.heap[b]?
 nc:∀ (b:Nat) (cur:Array Value) (ty:TypeId) (fz:Nat×Nat),D b->w.heap[b]? ≠ some (Obj.cells cur ty fz)
 nm:∀ (b:Nat) (es:Array MapEntry) (clk:Nat),D b->w.heap[b]? ≠ some (Obj.map es clk)
 io:SameIO w w'
theorem SameBut.cells {D:Nat->Prop} {w w':World} (s:SameBut D w w') {b:Nat} {cur:Array Value} {ty:TypeId} {fz:Nat×Nat} (h:w.heap[b]? = some (Obj.cells cur ty fz)):w'.heap[b]? = some (Obj.cells cur ty fz):=by
 rw [s.keep b fun hd=>s.nc b cur ty fz hd h]
 exact h
theorem SameBut.map {D:Nat->Prop} {w w':World} (s:SameBut D w w') {b:Nat} {es:Array MapEntry} {clk:Nat} (h:w.heap[b]? = some (Obj.map es clk)):w'.heap[b]? = some (Obj.map es clk):=by
 rw [s.keep b fun hd=>s.nm b es clk hd h]
 exact h
theorem SameBut.cell {D:Nat->Prop} {w w':World} (s:SameBut D w w') {a:Addr} {v:Value} (h:w.cell? a=some v):w'.cell? a=some v:=by
 unfold World.cell? at h ⊢
 cases ho:w.heap[a.block]? with
 | none=>rw [ho] at h;cases h
 | some o=>
  rw [ho] at h
  cases o with
  | cells cur ty fz=>rw [s.cells ho];exact h
  | _=>cases h
theorem CR.sc {D:Nat->Prop} {w w':World} {M:Nat->Prop} (s:SameBut D w w') {x:CV} {v:Value} (h:CR w M x v):CR w' M x v:=by
 induction h with
 | int k n=>exact .int k n
 | bool b=>exact .bool b
 | yld l=>exact .yld l
 | top v hp=>exact .top v hp
 | mp ks b es clk hMb hb hh hk=>exact .mp ks b es clk hMb (by rw [s.size];exact hb) (s.map hh) hk
 | sl0 sz a cap=>exact .sl0 sz a cap
 | sl sz l b o cap u h0 hl hc hMb hb hcell hp hr ih=>exact .sl sz l b o cap u h0 hl hc hMb (by rw [s.size];exact hb) (fun i j x hx=>s.cell (hcell i j x hx)) hp ih
 | pc cs off b o u hMb hb hcell hp hr ih=>exact .pc cs off b o u hMb (by rw [s.size];exact hb) (fun j x hx=>s.cell (hcell j x hx)) hp ih
 | agg cs a hs hp hr ih=>exact .agg cs a hs hp ih
 | tup cs a hs hr ih=>exact .tup cs a hs ih
 | fn f c1 c2 a1 a2 hs1 hs2 hr1 hr2 ih1 ih2=>exact .fn f c1 c2 a1 a2 hs1 hs2 ih1 ih2
theorem VR.sc {D:Nat->Prop} {ρ:Env} {h:H} {w w':World} {M:Nat->Prop} (s:SameBut D w w') {x:SV} {v:Value} (hx:VR ρ h w M x v):VR ρ h w' M x v:=hx.mono (HExt.refl ρ h) fun _ _=>CR.sc s
theorem HR.sc {D:Nat->Prop} {ρ:Env} {X:Nat->Prop} {h:H} {w w':World} (s:SameBut D w w') (hr:HR ρ X h w) (hd:∀ i b,bOf ρ i (getH h i)=some b->¬ D b):HR ρ X h w' where
 box:=fun i=>by
  have hx:=hr.box i
  cases hg:getH h i with
  | acc ver fr sz l=>
   rw [hg] at hx
   obtain ⟨h1,h2,h3,h4⟩:=hx
   refine ⟨h1,h2,h3,?_⟩
   rcases h4 with h4 | ⟨b,cap,cur,ty,h4,h5,h6,h7,h8⟩
   ·exact .inl h4
   ·exact .inr ⟨b,cap,cur,ty,h4,s.cells h5,h6,h7,fun k j x hx=>by
     obtain ⟨u,hu,hp,hc⟩:=h8 k j x hx
     exact ⟨u,hu,hp,hc.sc s⟩⟩
  | cells fr cs=>
   rw [hg] at hx
   obtain ⟨cur,ty,h1,h2,h3⟩:=hx
   exact ⟨cur,ty,s.cells h1,h2,fun j x hx=>by
    obtain ⟨u,hu,hp,hc⟩:=h3 j x hx
    exact ⟨u,hu,hp,hc.sc s⟩⟩
  | rc l fx ts env bs n q=>
   rw [hg] at hx
   obtain ⟨h0,h1,h2,h3,h4,h5⟩:=hx
   exact ⟨h0,by rw [s.keep l (hd i l (by rw [hg];rfl))];exact h1,h2,h3,h4,h5.imp fun _ _=>CR.sc s⟩
  | dead=>trivial
  | mp fr ks=>
   rw [hg] at hx
   obtain ⟨es,clk,h1,h2⟩:=hx
   exact ⟨es,clk,s.map h1,h2⟩
  | mpf ks vs=>
   rw [hg] at hx
   obtain ⟨es,clk,h1,h2,h3,h4⟩:=hx
   exact ⟨es,clk,s.map h1,h2,h3,fun j x hj=>(h4 j x hj).imp fun _ ⟨q1,q2⟩=>⟨q1,q2.sc s⟩⟩
 inj:=hr.inj
 out:=hr.out
 xlt:=fun b hb=>by rw [s.size];exact hr.xlt b hb
 glob:=fun g cs hg=>(hr.glob g cs hg).sc s
def shut (bl:List Nat) (w:World):World:=bl.foldl (fun w d=>w.putObj d (.deferred none)) w
theorem shut_spec:∀ (bl:List Nat) (w:World),bl.Nodup->(∀ d∈bl,w.heap[d]? = some (.deferred (some [])))->SameBut (· ∈ bl) w (shut bl w)
 | [],w,_,_=>⟨rfl,fun _ _=>rfl,(fun b _ _ _ hb=>by cases hb),(fun b _ _ hb=>by cases hb),rfl,rfl⟩
 | d::bl,w,hn,hd=>by
  obtain ⟨h1,h2⟩:=List.nodup_cons.1 hn
  have h0:=hd d (by simp)
  have s:=shut_spec bl (w.putObj d (.deferred none)) h2 fun e he=>by
   rw [World.putObj_heap_other (show e≠d from fun h=>h1 (by rw [<- h];exact he))]
   exact hd e (by simp [he])
  refine ⟨s.size.trans (by simp),fun b hb => ?_,fun b cur ty fz hb hc => ?_,fun b es clk hb hc => ?_,s.io.1,s.io.2⟩
  ·refine (s.keep b fun h=>hb (by simp [h])).trans ?_
   exact World.putObj_heap_other fun h=>hb (by simp [h])
  ·rw [hd b hb] at hc
   cases hc
  ·rw [hd b hb] at hc
   cases hc
theorem leaves_marks {F:Fence} {n:Nat} {P:Program} {fn:Func} {tmps:Array Value} {G:Ending->World->Prop}:∀ (bl:List Nat) (w:World),bl.Nodup->(∀ d∈bl,w.heap[d]? = some (.deferred (some [])))->
  LeavesIn F n P fn tmps G [] .returning (shut bl w)->LeavesInM F n P fn tmps G (bl.map mkMark) .returning w
 | [],w,_,_,h=>h
 | d::bl,w,hn,hd,h=>by
  obtain ⟨h1,h2⟩:=List.nodup_cons.1 hn
  have h0:=hd d (by simp)
  refine ⟨by simp,.inl ⟨d,w.putObj d (.deferred none),rfl,run_takeDeferred h0,leaves_marks bl _ h2 (fun e he => ?_) h⟩⟩
  rw [World.putObj_heap_other (show e≠d from fun h=>h1 (by rw [<- h];exact he))]
  exact hd e (by simp [he])
theorem Marks.sc {D:Nat->Prop} {n0:Nat} {w w':World} {ds:List Deferred} (s:SameBut D w w') (hd:∀ b,D b->∀ q,w.heap[b]? ≠ some (.deferred q)) (m:Marks n0 w ds):Marks n0 w' ds:=by
 obtain ⟨h0,bl,h1,h2,h3⟩:=m
 refine ⟨by rw [s.size];exact h0,bl,h1,h2,fun d hm => ?_⟩
 obtain ⟨h4,h5⟩:=h3 d hm
 exact ⟨h4,by rw [s.keep d fun h=>hd d h _ h5];exact h5⟩
theorem OR.sc {D:Nat->Prop} {w w':World} {M:Nat->Prop} (s:SameBut D w w') {x:CV} {v:Value} {B:List Nat} (h:OR w M x v B):OR w' M x v B:=by
 induction h with
 | c x v hx=>exact .c x v (hx.sc s)
 | ownN sz h0=>exact .ownN sz h0
 | own sz l b cap cur ty h0 h1 h2 h4 h5 h6 h7=>exact .own sz l b cap cur ty h0 h1 h2 (s.cells h4) h5 h6 fun k j x hx=>let ⟨u,hu,hp,hc⟩:=h7 k j x hx;⟨u,hu,hp,hc.sc s⟩
 | box cs b cur ty Bs h1 h2 hp hr ih=>exact .box cs b cur ty Bs (s.cells h1) h2 hp ih
 | agg cs a Bs hs hp hr ih=>exact .agg cs a Bs hs hp ih
 | tup cs a Bs hs hr ih=>exact .tup cs a Bs hs ih
 | mpo ks b es clk hh hk=>exact .mpo ks b es clk (s.map hh) hk
theorem ContR.sc {D:Nat->Prop} {w w':World} {M:Nat->Prop} (s:SameBut D w w'):∀ {bs:List Nat} {cs:List (List CV)} {B:List Nat},ContR w M bs cs B->(∀ b∈B,¬ D b)->ContR w' M bs cs B
 | [],[],_,h,_=>h
 | _::_,_::_,_,.inl ⟨cur,ty,Bs,B2,h1,h2,h3,h4,h5⟩,hd => .inl ⟨cur,ty,Bs,B2,s.cells h1,h2,fun j x hx=>⟨(h3 j x hx).1,(h3 j x hx).2.sc s⟩,h4.sc s (fun b hb=>hd b (by rw [h5];simp [hb])),h5⟩
 | b::_,_::_,_,.inr ⟨fx,ts,env,bx,n,q,B2,h1,h2,h3,h3',h4,h5,h6⟩,hd => .inr ⟨fx,ts,env,bx,n,q,B2,h1,by rw [s.keep b (hd b (by rw [h6];simp))];exact h2,h3,h3',h4.imp fun _ _ hx=>hx.sc s,h5.sc s (fun b hb=>hd b (by rw [h6];simp [hb])),h6⟩
 | [],_::_,_,h,_=>h.elim
 | _::_,[],_,h,_=>h.elim
theorem OR.up {w w':World} {M M':Nat->Prop} (hs:w.heap.size<=w'.heap.size) (hk:∀ b,b<w.heap.size->w'.heap[b]? = w.heap[b]?) (hM:∀ b,b<w.heap.size->M' b->M b) {x:CV} {v:Value} {B:List Nat} (h:OR w M x v B):OR w' M' x v B:=by
 induction h with
 | c x v hx=>exact .c x v (hx.mono hs (fun b hb _=>hk b hb) hM)
 | ownN sz h0=>exact .ownN sz h0
 | own sz l b cap cur ty h0 h1 h2 h4 h5 h6 h7=>exact .own sz l b cap cur ty h0 h1 h2 ((hk b (block_lt h4)).trans h4) h5 h6 fun k j x hx=>let ⟨u,hu,hp,hc⟩:=h7 k j x hx;⟨u,hu,hp,hc.mono hs (fun b hb _=>hk b hb) hM⟩
 | box cs b cur ty Bs h1 h2 hp hr ih=>exact .box cs b cur ty Bs ((hk b (block_lt h1)).trans h1) h2 hp ih
 | agg cs a Bs hs hp hr ih=>exact .agg cs a Bs hs hp ih
 | tup cs a Bs hs hr ih=>exact .tup cs a Bs hs ih
 | mpo ks b es clk hh hkk=>exact .mpo ks b es clk ((hk b (block_lt hh)).trans hh) hkk
theorem ContR.up {w w':World} {M M':Nat->Prop} (hs:w.heap.size<=w'.heap.size) (hk:∀ b,b<w.heap.size->w'.heap[b]? = w.heap[b]?) (hM:∀ b,b<w.heap.size->M' b->M b):∀ {bs:List Nat} {cs:List (List CV)} {B:List Nat},ContR w M bs cs B->ContR w' M' bs cs B
 | [],[],_,h=>h
 | b::_,_::_,_,.inl ⟨cur,ty,Bs,B2,h1,h2,h3,h4,h5⟩ => .inl ⟨cur,ty,Bs,B2,(hk b (block_lt h1)).trans h1,h2,fun j x hx=>⟨(h3 j x hx).1,(h3 j x hx).2.up hs hk hM⟩,h4.up hs hk hM,h5⟩
 | b::_,_::_,_,.inr ⟨fx,ts,env,bx,n,q,B2,h1,h2,h3,h3',h4,h5,h6⟩ => .inr ⟨fx,ts,env,bx,n,q,B2,h1,(hk b (block_lt h2)).trans h2,h3,h3',h4.imp fun _ _ hx=>hx.mono hs (fun b hb _=>hk b hb) hM,h5.up hs hk hM,h6⟩
 | [],_::_,_,h=>h.elim
 | _::_,[],_,h=>h.elim
theorem sb_put {w:World} {l:Nat} {r r':Loop} (h:w.heap[l]? = some (.loop r)):SameBut (· = l) w (w.putObj l (.loop r')):=
 ⟨by simp,fun b hb=>World.putObj_heap_other hb,(fun b cur ty fz hb hc=>by subst hb;rw [h] at hc;cases hc),(fun b es clk hb hc=>by subst hb;rw [h] at hc;cases hc),rfl,rfl⟩
/-! ### What a round begins with -/
theorem set_getD {tmps:Array Value} {p t:Nat} {a:Value} (hp:p<tmps.size):(tmps.setIfInBounds p a).getD t undef=if t=p then a else tmps.getD t undef:=by
 simp only [Array.getD_eq_getD_getElem?,Array.getElem?_setIfInBounds]
 by_cases h:p=t
 ·subst h;simp [hp]
 ·rw [if_neg h,if_neg (fun e=>h e.symm)]
theorem argSt_get {ρ:Env} {h:H} {w:World} {M:Nat->Prop}:∀ (ps:List Nat) (args:List CV) (vs:List Value) (st:St) (tmps:Array Value),ps.length=args.length->args.length=vs.length->(∀ p∈ps,p<tmps.size)->(∀ t,VR ρ h w M (get st t) (tmps.getD t undef))->
  (∀ (j:Nat) (x:CV),args[j]? = some x->CR w M x (vs[j]?.getD undef))->(((ps.zip vs).foldl (fun tmps (x:Nat×Value)=>tmps.setIfInBounds x.1 x.2) tmps).size=tmps.size)/\
   ∀ t,VR ρ h w M (get (argSt ps args st) t) (((ps.zip vs).foldl (fun tmps (x:Nat×Value)=>tmps.setIfInBounds x.1 x.2) tmps).getD t undef)
 | [],[],_,st,tmps,_,_,_,hst,_=>⟨rfl,hst⟩
 | p::ps,x::args,v::vs,st,tmps,h1,h2,hp,hst,ha=>by
  have hpt:=hp p (by simp)
  obtain ⟨h3,h4⟩:=argSt_get ps args vs ((p,.c x)::st) (tmps.setIfInBounds p v) (by simpa using h1) (by simpa using h2) (fun q hq=>by simpa using hp q (by simp [hq])) (fun t=>by
   rw [set_getD hpt]
   have:get ((p,.c x)::st) t=get (put st (some p) (.c x)) t:=rfl
   rw [this,get_put]
   split
   ·exact VR.c (ρ:=ρ) (h:=h) _ _ (by simpa using ha 0 x rfl)
   ·exact hst t) (fun j y hy=>by simpa using ha (j+1) y (by simpa using hy))
  exact ⟨h3.trans (by simp),h4⟩
 | [],_::_,_,_,_,h1,_,_,_,_=>by simp at h1
 | _::_,[],_,_,_,h1,_,_,_,_=>by simp at h1
 | _::_,_::_,[],_,_,_,h2,_,_,_=>by simp at h2
theorem insSt_get {ρ:Env} {h:H} {w:World} {M:Nat->Prop} {bx:List Nat} {tmps:Array Value} (hb:∀ k b,bx[k]? = some b->ρ.blk k=b/\k<h.length):∀ (ts:List Nat) (env:List CV),(∀ (j t:Nat) (x:CV),ts[j]? = some t->env[j]? = some x->ArgR w M bx x (tmps.getD t undef))->
  ∀ t,VR ρ h w M (get (insSt ts env) t) (tmps.getD t undef)
 | [],_,_,t => .any _
 | _::_,[],_,t => .any _
 | p::ts,x::env,he,t=>by
  have ih:=insSt_get hb ts env (fun j t x h1 h2=>he (j+1) t x (by simpa using h1) (by simpa using h2)) t
  have h0:=he 0 p x rfl rfl
  have key:∀ s,VR ρ h w M s (tmps.getD p undef)->VR ρ h w M (get ((p,s)::insSt ts env) t) (tmps.getD t undef):=fun s hs=>by
   have:get ((p,s)::insSt ts env) t=get (put (insSt ts env) (some p) s) t:=rfl
   rw [this,get_put]
   split
   ·rename_i e;subst e;exact hs
   ·exact ih
  rcases h0 with ⟨k,b,rfl,hk,hv⟩ | hc
  ·obtain ⟨h1,h2⟩:=hb k b hk
   exact key _ (.ptr _ _ _ (by rw [hv];rfl) h2 (by rw [hv,h1]))
  ·refine key _ ?_
   cases x with
   | ref k=>
    exfalso
    generalize tmps.getD p undef=u at hc
    cases hc
   | _=>exact .c _ _ hc
section
variable {cx:Cx}
theorem round_sound (hN:NatX cx) (hNL:∀ q L,cx.Λ q=some L->NatL L) (hrs:RoundsS cx) {p:List Bool} {S:RfSem} {g:Operand} {ps:Array Tmp} {as bd:Code} (hS:cx.rf (pathN p)=some S) (hp:codeAt cx.root p=some (.rangeFunc g ps as bd))
  (ihx:CodeS cx (false::p) as) (ihy:CodeS cx (true::p) bd) {env:List CV} {l:Nat} {fx:Loop} {bx:List Nat} {n:Nat} (hps:fx.params=ps) (has:fx.assign=as) (hbd:fx.body=bd) (htm:fx.tmps.size=cx.nt):
  SoundY cx.P (gY (.rcd l fx S.ins env bx n none) (S.Y env)):=by
 intro args conts β K r hrun
 unfold gY at hrun
 dsimp only at hrun
 split at hrun
 ·rename_i c cs
  replace hrun:=cond_some hrun
  obtain ⟨hc,hrun⟩:=hrun
  obtain rfl:=okC_eq hc
  have hB:=hrs p S g ps as bd hS hp env args cs _ _ _ hrun
  rcases roundB_nat hN hNL (ins:=S.ins) (p:=p) (ps:=ps.toList) (as:=as) (bd:=bd) (env:=env) (args:=args) (conts:=cs) with ⟨s0,co,hnat⟩ | hnat
  ·refine ⟨_,_,(hnat _ _).symm.trans hB,?_⟩
   have hp':=hnat _ (fun a b=>some (a,b))
   unfold roundB at hp'
   replace hp':=cond_some hp'
   obtain ⟨hgu,hp'⟩:=hp'
   simp only [Bool.and_eq_true] at hgu
   obtain ⟨⟨⟨⟨hlen,_⟩,hpt⟩,hra⟩,hrb⟩:=hgu
   have hlen:=beq_true hlen
   intro w M vs l' bs B hin
   rcases hin.cont with ⟨cur,ty,Bs,B2,h1,h2,h3,h4,_⟩ | ⟨fx',ts',env',bx',n',q',B2,hceq,h1,h2,h3,h5,h4,rfl⟩
   ·exact absurd (h3 0 _ rfl).2 no_rcd
   ·simp only [List.cons.injEq,CV.rcd.injEq,and_true] at hceq
    obtain ⟨rfl,rfl,rfl,rfl,rfl,rfl,rfl⟩:=hceq
    have hsz:vs.size=ps.size:=by rw [hin.size,hlen];simp
    refine ⟨recOf fx none,h1,by simp [recOf,hps,hsz],?_⟩
    have hlt:l<w.heap.size:=block_lt h1
    have hnd:=List.nodup_cons.1 hin.nd
    obtain ⟨ρ0,ρ,m,hmap,hno,hbase⟩:=start_sound w.heap.size (X:=fun b=>M b/\b∉B2) (fun b hb=>hb.1) h4 hnd.2 (fun b hb=>hin.sub b (List.mem_cons_of_mem _ hb)) (fun b hb hx=>hx.2 hb) hin.glob
    have hXl:(fun b=>M b/\b∉B2) l:=⟨hin.sub l List.mem_cons_self,hnd.1⟩
    have hr:HR ρ (fun b=>M b/\b∉B2) (startH cs 0 (List.replicate cs.length .dead)) w:=m.hr.toHR fun b hb=>hin.lt b hb.1
    have hl1:∀ k∈List.range cs.length,k<(startH cs 0 (List.replicate cs.length .dead)).length:=fun k hk=>Nat.lt_of_lt_of_le (by simpa using hk) m.ext.len
    have hBof:∀ j b,bOf ρ j (getH (startH cs 0 (List.replicate cs.length .dead)) j)=some b->b∈B2:=fun j b hb=>by
     rcases m.new j b hb with ⟨_,h2⟩ | h2
     ·exact absurd h2 (hno j b)
     ·exact h2
    have hlive0:∀ b,live ρ (startH cs 0 (List.replicate cs.length .dead)) b->b∈B2:=fun b ⟨j,_,hj⟩=>hBof j b hj
    have hbxb:∀ k b,bx[k]? = some b->ρ.blk k=b/\k<(startH cs 0 (List.replicate cs.length .dead)).length:=fun k b hk=>by
     rw [<- h3] at hk
     have hkn:k<n:=by
      have:=(List.getElem?_eq_some_iff.1 hk).1
      simp at this
      omega
     rw [List.getElem?_take_of_lt hkn,<- hmap,List.getElem?_map,Option.map_eq_some_iff] at hk
     obtain ⟨i,hi,rfl⟩:=hk
     have hik:i=k:=by
      obtain ⟨_,h2⟩:=List.getElem?_eq_some_iff.1 hi
      simpa using h2.symm
     subst hik
     exact ⟨rfl,hl1 i (List.mem_of_getElem? hi)⟩
    have hsub:∀ b,Mut ρ (fun b=>M b/\b∉B2) (startH cs 0 (List.replicate cs.length .dead)) b->M b:=fun b hb=>m.hr.sub b hb
    have hst0:=insSt_get (ρ:=ρ) (h:=startH cs 0 (List.replicate cs.length .dead)) hbxb S.ins env h5.2
    obtain ⟨hts,hst⟩:=argSt_get (ρ:=ρ) (h:=startH cs 0 (List.replicate cs.length .dead)) (w:=w) (M:=M) ps.toList args vs.toList (insSt S.ins env) fx.tmps hlen.symm (by simpa using hin.size.symm) (fun q hq=>by
     have:=List.all_eq_true.1 hpt q hq
     rw [htm]
     simpa [Nat.blt_eq] using this) hst0 (fun j x hx=>by
     have:=hin.arg j x hx
     rcases this with ⟨k,b,rfl,_,_⟩ | this
     ·have:=List.all_eq_true.1 (by assumption:args.all noRef=true) _ (List.mem_of_getElem? hx)
      simp [noRef] at this
     ·simpa using this)
    have hfold:((recOf fx none).params.zip vs).foldl (fun tmps (x:Tmp×Value)=>tmps.setIfInBounds x.1 x.2) (recOf fx none).tmps=(ps.toList.zip vs.toList).foldl (fun tmps (x:Nat×Value)=>tmps.setIfInBounds x.1 x.2) fx.tmps:=by
     rw [show (recOf fx none).params=ps from hps,show (recOf fx none).tmps=fx.tmps from rfl,<- Array.foldl_toList,Array.toList_zip]
    refine roundIn_of_wpIn (F:=FR none) trivial ?_
    rw [show (recOf fx none).assign=as from has,show (recOf fx none).body=bd from hbd]
    show as.wpIn (FR (some l)) 0 cx.P _ _ w
    have hnl:¬ live ρ (startH cs 0 (List.replicate cs.length .dead)) l:=fun h=>hnd.1 (hlive0 l h)
    refine ihx (some l) (.inr hra) FUEL _ _ _ _ _ hp' (fun b=>M b/\b∉B2) ρ _ w ρ (startH cs 0 (List.replicate cs.length .dead)) w _ ⟨hr,fun t => ?_,?_,Marks.nil (by rw [hbase];exact Nat.le_refl _)⟩ (Ext.refl _ _ _) fun e st1 h1' ρ1 a1 w1 hK1 rr1 e1 => ?_
    ·have:=hst t
     rw [<- hfold] at this
     exact this.mono (HExt.refl _ _) fun x u hx=>hx.mono (Nat.le_refl _) (fun _ _ _=>rfl) (fun b _ hb=>hsub b hb)
    ·have:=hts.trans htm
     rw [<- hfold] at this
     exact this
    ·cases e with
     | normal=>
      have hrec1:w1.heap[l]? = some (.loop (recOf fx none)):=(e1.keep l hlt hnl).trans h1
      refine ⟨w1.putObj l (.loop {recOf fx none with state := .busy}),run_beginRound hrec1 rfl,?_⟩
      have hno1:∀ {ρ h w},HR ρ (fun b=>M b/\b∉B2) h w->∀ i b,bOf ρ i (getH h i)=some b->¬ b=l:=fun hr i b hb he=>hr.out i b hb (he ▸ hXl)
      have s1:SameBut (· = l) w1 (w1.putObj l (.loop {recOf fx none with state := .busy})):=sb_put hrec1
      show bd.wpIn (FR (some l)) 0 cx.P _ _ _
      refine ihy (some l) (.inr hrb) FUEL _ _ _ _ _ hK1 (fun b=>M b/\b∉B2) ρ1 a1 _ ρ1 h1' _ _ ⟨rr1.hr.sc s1 (hno1 rr1.hr),fun t=>(rr1.st t).sc s1,rr1.nt,rr1.nd.sc s1 (fun b hb q hq=>by subst hb;rw [hrec1] at hq;cases hq)⟩ (Ext.refl _ _ _) fun e st3 h3' ρ3 a3 w3 hK3 rr3 e3 => ?_
      have hlt1:l<w1.heap.size:=block_lt hrec1
      have hnl1:¬ live ρ1 h1' l:=fun ⟨i,_,hi⟩=>hno1 rr1.hr i l hi rfl
      have hrec3:w3.heap[l]? = some (.loop {recOf fx none with state := .busy}):=by
       rw [e3.keep l (by simpa using hlt1) hnl1]
       exact World.putObj_heap_same hlt1
      have hlive1:∀ b,b<w.heap.size->live ρ1 h1' b->b∈B2:=fun b hb hl=>hlive0 b (e1.lives b hb hl)
      have fin:∀ s:Option Nat,((contsOut (List.range cs.length) h3').bind fun c=>some (s,c.1))=some (s0,co)->
        ∃ B2',OutR w M (l::B2) (l::bs) (w3.putObj l (.loop (recOf fx s))) (.bool s.isNone) (.bool s0.isNone) ([setS (.rcd l fx S.ins env bx n none) s0]::co) [] (l::B2'):=fun s hc=>by
       replace hc:=bind_some' hc
       obtain ⟨⟨co',h4'⟩,hco,hc⟩:=hc
       simp only [Option.some.injEq,Prod.mk.injEq] at hc
       obtain ⟨rfl,rfl⟩:=hc
       obtain ⟨B3,t,c3,_,_⟩:=contsOut_sound _ _ h3' co' h4' rr3.hr hco
       have hmap3:(List.range cs.length).map ρ3.blk=bs:=by
        rw [<- hmap]
        refine List.map_congr_left fun i hi => ?_
        exact (e3.blks i (Nat.lt_of_lt_of_le (hl1 i hi) e1.len)).trans (e1.blks i (hl1 i hi))
       rw [hmap3] at c3
       have s3:SameBut (· = l) w3 (w3.putObj l (.loop (recOf fx s))):=sb_put hrec3
       have hnB3:∀ b∈B3,¬ b=l:=fun b hb he=>by
        obtain ⟨i,_,hi⟩:=t.bl b hb
        exact hno1 rr3.hr i b hi he
       have hsz1:w.heap.size<=w1.heap.size:=e1.size
       have hsz3:w1.heap.size<=w3.heap.size:=by simpa using e3.size
       have hkeep:∀ b,b<w.heap.size->b∉l::B2->(w3.putObj l (.loop (recOf fx s))).heap[b]? = w.heap[b]? := fun b hb hn=>by
        have hbl:¬ b=l:=fun h=>hn (by simp [h])
        have hb2:b∉B2:=fun h=>hn (by simp [h])
        rw [s3.keep b hbl,e3.keep b (by simp;omega) (fun h=>hb2 (hlive1 b hb h)),s1.keep b hbl]
        exact e1.keep b hb fun h=>hb2 (hlive0 b h)
       have hnew:∀ b,b∈l::B3->b∈l::B2\/w.heap.size<=b:=fun b hb=>by
        rcases List.mem_cons.1 hb with rfl | hb
        ·exact .inl (by simp)
        ·by_cases hbw:b<w.heap.size
         ·have h5:=e3.lives b (by simp;omega) (t.bl b hb)
          exact .inl (by simp [hlive1 b hbw h5])
         ·exact .inr (by omega)
       have hMM:∀ b,b<w.heap.size->MM M (l::B2) (l::B3) b->M b:=fun b hb hm=>by
        rcases hm with ⟨hm,_⟩ | hm
        ·exact hm
        ·rcases hnew b hm with h | h
         ·exact hin.sub b h
         ·omega
       refine ⟨B3,⟨⟨e3.io.1.trans e1.io.1,e3.io.2.trans e1.io.2⟩,by simp;omega,hkeep,hnew,?_,.c _ _ (.bool _),.inr ⟨fx,S.ins,env,bx,n,s,B3,rfl,?_,h2,h3,h5.imp fun x v hx=>hx.mono (by simp;omega) (fun b hb hn=>hkeep b hb fun hm=>hn (hin.sub b hm)) hMM,?_,rfl⟩⟩⟩
       ·rw [List.nil_append]
        exact List.nodup_cons.2 ⟨fun hm=>hnB3 l hm rfl,t.nd⟩
       ·exact World.putObj_heap_same (block_lt hrec3)
       ·refine (c3.sc s3 hnB3).mono fun b hb => ?_
        rcases hb with ⟨hb,hn⟩ | hb
        ·exact .inl (.inl ⟨hb,fun h=>hn (by simp [h])⟩)
        ·rcases List.mem_cons.1 hb with rfl | hb
         ·exact .inl (.inl hXl)
         ·exact .inl (.inr hb)
      have post:∀ (s:Option Nat) (j:Option Code),(s=none/\j=none\/∃ k,s=some k/\j=some (jmp k))->((contsOut (List.range cs.length) h3').bind fun c=>some (s,c.1))=some (s0,co)->
        ∃ v w',(Instr.endRound l j).run cx.P w3 = .ok v w'/\∃ v' Br B2',Ending.returned v = .returned v'/\OutR w M (l::B2) (l::bs) w' v' (.bool s0.isNone) ([setS (.rcd l fx S.ins env bx n none) s0]::co) Br B2':=fun s j hsj hc=>by
       obtain ⟨B3,o⟩:=fin s hc
       rcases hsj with ⟨rfl,rfl⟩ | ⟨k,rfl,rfl⟩
       ·exact ⟨_,_,run_endRound none hrec3,_,_,_,rfl,o⟩
       ·exact ⟨_,_,run_endRound (some (jmp k)) hrec3,_,_,_,rfl,o⟩
      cases e3':e with
      | normal=>exact post none none (.inl ⟨rfl,rfl⟩) (by subst e3';exact hK3)
      | ret=>exact post (some 0) (some .ret) (.inr ⟨0,rfl,rfl⟩) (by subst e3';exact hK3)
      | exit i=>exact post (some (i+1)) (some (.exit i)) (.inr ⟨i+1,rfl,rfl⟩) (by subst e3';exact hK3)
      | _=>subst e3';cases hK3
     | _=>cases hK1
  ·have:=(hnat _ _).symm.trans hB
   cases this
 ·cases hrun
end
section
variable {cx:Cx} {β:Type} {r:β}
theorem rangeK_sound (hE:EqY cx) (hN:NatX cx) (hNL:∀ q L,cx.Λ q=some L->NatL L) {p:List Bool} {g:Operand} {ps:Array Tmp} {as bd:Code} (hp:codeAt cx.root p=some (.rangeFunc g ps as bd))
  (ihx:CodeS cx (false::p) as) (ihy:CodeS cx (true::p) bd) {K:Exit->St->H->Option β} {st:St} {h:H} (hK:rangeK cx (pathN p) (ev cx.P st 0 g) K st h=some r) {X:Nat->Prop} {ρ ρ0:Env} {a:Act} {w w0:World} {h0:H} {Q:Exit->Act->World->Prop}
  (rr:R cx ρ X st h a w) (e:Ext ρ0 h0 w0 ρ h w) (hQ:∀ e st h ρ a w,K e st h=some r->R cx ρ X st h a w->Ext ρ0 h0 w0 ρ h w->Q e a w):(Code.rangeFunc g ps as bd).wpIn (FR none) 0 cx.P Q a w:=by
 unfold rangeK at hK
 split at hK
 ·rename_i S f caps hS hev
  split at hK
  ·rename_i G hG
   replace hK:=bind_some' hK
   obtain ⟨⟨env,is,h1⟩,ha,hK⟩:=hK
   replace hK:=bind_some' hK
   obtain ⟨⟨conts,h2⟩,hco,hK⟩:=hK
   dsimp only at hK hco
   refine wpIn_rangeFunc fun fnid _ => ?_

   let fx:Loop:={state := .ready,pending:=none,fn:=fnid,tmps:=a.tmps,params:=ps,assign:=as,body:=bd,defers:=w.heap.size}
   have hfx:recOf fx none=fx:=rfl
   let wb:World:=w.alloc (.deferred (some []))
   let w1:World:=wb.alloc (.loop fx)
   have hwb:wb.heap.size=w.heap.size+1:=by simp [wb]
   have hw1:w1.heap.size=w.heap.size+2:=by simp [w1,hwb]
   have hold:∀ b,b<w.heap.size->wb.heap[b]? = w.heap[b]? := fun b hb=>heap_alloc_old w _ b hb
   have hold1:∀ b,b<wb.heap.size->w1.heap[b]? = wb.heap[b]? := fun b hb=>heap_alloc_old wb _ b hb
   have hd:wb.heap[w.heap.size]? = some (.deferred (some [])):=World.alloc_heap_new w _
   have hl:w1.heap[w.heap.size+1]? = some (.loop fx):=by rw [<- hwb];exact World.alloc_heap_new wb _
   have eb:Ext ρ h w ρ h wb:=⟨HExt.refl ρ h,by omega,fun b hb _=>hold b hb,fun _ _ hl=>hl,rfl,rfl⟩
   have hrb:HR ρ X h wb:=⟨fun i=>(rr.hr.box i).mono eb rfl rfl fun b hb=>hold b (rr.hr.lt hb),rr.hr.inj,rr.hr.out,fun b hb=>by have:=rr.hr.xlt b hb;omega,eb.glob rr.hr.glob⟩

   obtain ⟨hal,t1,hav⟩:=argsIn_sound (w:=wb) (S.ins.map (get st)) (ambL cx).length h env is h1 (fun j=>a.tmps.getD (S.ins.getD j 0) undef) hrb (fun j s hs=>by
    simp only [List.getElem?_map,Option.map_eq_some_iff] at hs
    obtain ⟨t,ht,rfl⟩:=hs
    have:S.ins.getD j 0=t:=by simp [ht]
    rw [this]
    exact eb.vr (rr.st t)) ha
   obtain ⟨B0,hInR,hmono,_,hliv,hback⟩:=pass_sound hrb t1 hco
   have hin0:=hInR [] #[] rfl (fun j x hx=>by simp at hx)
   have hlen:((ambL cx++is).map ρ.blk).length=conts.length:=hin0.cont.len
   have hSY:=round_sound hN hNL hE.rs hS hp ihx ihy (env:=env) (l:=w.heap.size+1) (fx:=fx) (bx:=(ambL cx++is).map ρ.blk) (n:=conts.length) rfl rfl rfl rr.nt
   have hSI:=hE.it f G hG (w.heap.size+1) fx S.ins env ((ambL cx++is).map ρ.blk) conts.length (S.Y env) (hN.rf _ _ hS env) hSY
   obtain ⟨fnF,hE1,hE2,hE3⟩:=hSI.enter
   rcases hN.it f G hG (S.Y env) (hN.rf _ _ hS env) caps conts with ⟨s,co,hnat⟩ | hnat
   case inr=>
    have:=(hnat _ _).symm.trans hK
    cases this
   have hK1:=(hnat _ _).symm.trans hK
   replace hK1:=bind_some' hK1
   obtain ⟨h',hci,hK1⟩:=hK1
   obtain ⟨rv,co',hrv,hcalls⟩:=hSI.calls (.yld (w.heap.size+1)::caps) ([.rcd (w.heap.size+1) fx S.ins env ((ambL cx++is).map ρ.blk) conts.length none]::conts) (CV×List (List CV)) (fun a b=>some (a,b))
    (.tup [],[.rcd (w.heap.size+1) fx S.ins env ((ambL cx++is).map ρ.blk) conts.length s]::co) (by
     unfold hI
     simp only [okC_self,decide_true,numR,Bool.and_self,Bool.true_and]
     rw [show Nat.beq conts.length conts.length=true by simp]
     exact hnat _ _)
   obtain ⟨rfl,rfl⟩:=Prod.mk.inj (Option.some.inj hrv)

   have hg:=ev_sound rr 0 g
   rw [hev] at hg
   obtain ⟨a2,hgv,hca,hcr⟩:∃ a2:Array Value,a.eval g = .func (.func f) #[] a2/\a2.size=caps.length/\∀ (j:Nat) (x:CV),caps[j]? = some x->CR w (Mut ρ X h) x (a2.getD j undef):=by
    generalize a.eval g=v at hg
    cases hg with
    | c _ _ hc=>
     cases hc with
     | fn f c1 c2 a1 a2 hs1 hs2 hr1 hr2=>
      have:a1=#[]:=by simpa using hs1
      subst this
      exact ⟨a2,rfl,hs2,hr2⟩
   have hmut:∀ b,Mut ρ (XB X B0) h2 b->Mut ρ X h b:=fun b hb=>by
    rcases hmono b hb with hb | hb
    ·exact .inl hb
    ·exact .inr (t1.lv b hb)
   have hBlt:∀ b∈B0,b<w.heap.size:=fun b hb=>by
    obtain ⟨i,_,hi⟩:=hliv b hb
    exact rr.hr.lt hi
   have hMlt:∀ b,Mut ρ (XB X B0) h2 b->b<w.heap.size:=fun b hb=>by
    rcases hmut b hb with hb | ⟨i,_,hi⟩
    ·exact rr.hr.xlt b hb
    ·exact rr.hr.lt hi
   have hcrw:∀ x v,CR wb (Mut ρ X h1) x v->CR w1 (fun b=>Mut ρ (XB X B0) h2 b\/b=w.heap.size+1) x v:=fun x v hx=>hx.mono (by omega) (fun b hb _=>hold1 b hb) fun b hb hm=>by
    rcases hm with hm | rfl
    ·exact hmono b hm
    ·omega
   have hin1:InR w1 (fun b=>Mut ρ (XB X B0) h2 b\/b=w.heap.size+1) (.yld (w.heap.size+1)::caps) ([.rcd (w.heap.size+1) fx S.ins env ((ambL cx++is).map ρ.blk) conts.length none]::conts) (#[.func (.yield (w.heap.size+1)) #[] #[]]++a2)
     ((w.heap.size+1)::(ambL cx++is).map ρ.blk) ((w.heap.size+1)::B0):=by
    refine ⟨by simp [hca];omega,fun j x hx => ?_,.inr ⟨fx,S.ins,env,_,_,none,B0,rfl,hl,hlen,by rw [List.take_of_length_le (by omega)],⟨by rw [hal];simp,fun j t x h1 h2 => ?_⟩,hin0.cont.up (by omega) hold1 fun b hb hm => ?_,rfl⟩,?_,fun b hb => ?_,fun b hb => ?_,hin0.glob.mono (by omega) (fun b hb _=>hold1 b hb) fun b hb hm=>by
     rcases hm with hm | rfl
     ·exact hm
     ·omega⟩
    ·cases j with
     | zero=>
      simp at hx
      subst hx
      have e0:(#[Value.func (.yield (w.heap.size+1)) #[] #[]]++a2).getD 0 undef = .func (.yield (w.heap.size+1)) #[] #[]:=by
       rw [Array.getD_eq_getD_getElem?,Array.getElem?_append_left (by simp)]
       simp
      rw [e0]
      exact .inr (.yld _)
     | succ j=>
      have hj:=hcr j x (by simpa using hx)
      have e1:(#[Value.func (.yield (w.heap.size+1)) #[] #[]]++a2).getD (j+1) undef=a2.getD j undef:=by
       rw [Array.getD_eq_getD_getElem?,Array.getD_eq_getD_getElem?,Array.getElem?_append_right (by simp)]
       simp
      rw [e1]
      refine .inr (hj.mono (by omega) (fun b hb _=>(hold1 b (by omega)).trans (hold b hb)) fun b hb hm => ?_)
      rcases hm with hm | rfl
      ·exact hmut b hm
      ·omega
    ·have hx:=hav j x h2
     have e1:S.ins.getD j 0=t:=by simp [h1]
     rw [e1] at hx
     rcases hx with ⟨m,i,h3,h4,h5⟩ | h3
     ·refine .inl ⟨(ambL cx).length+m,ρ.blk i,h3,?_,h5⟩
      rw [List.getElem?_map,List.getElem?_append_right (by omega),show (ambL cx).length+m - (ambL cx).length=m by omega,h4]
      rfl
     ·exact .inr (hcrw _ _ h3)
    ·rcases hm with hm | rfl
     ·exact hm
     ·omega
    ·exact List.nodup_cons.2 ⟨fun hm=>by have:=hBlt _ hm;omega,hin0.nd⟩
    ·rcases List.mem_cons.1 hb with rfl | hb
     ·exact .inr rfl
     ·exact .inl (hin0.sub b hb)
    ·rcases hb with hb | rfl
     ·have:=hMlt b hb;omega
     ·omega
   refine ⟨w.heap.size+1,[mkMark w.heap.size],w1,{target := .fn (.func f) a2,args:=#[.func (.yield (w.heap.size+1)) #[] #[]]},w1,f,#[.func (.yield (w.heap.size+1)) #[] #[]]++a2,w1,run_enterLoop_outer fnid a.tmps ps as bd,?_,fun _ _=>trivial,?_,fun h=>by simp [FR,Fence.wide] at h,?_⟩
   ·show (Deferred.ofValue (a.eval g) (#[Operand.const (.func (.yield (w.heap.size+1)) #[] #[])].map a.eval)).run cx.P w1=_
    rw [hgv]
    simp [Deferred.ofValue,Act.eval]
   ·simp only [invoke]
    exact run_callFunc ⟨fnF,hE1,hE2,hE3⟩ _ w1
   refine FR.calls ((hcalls w1 _ _ _ _ hin1).mono fun e' w' he => ?_)
   obtain ⟨v,Br,B2,rfl,out⟩:=he
   rcases out.cont with ⟨cur,ty,Bs,B2',g1,g2,g3,g4,_⟩ | ⟨fx',ts',env',bx',n',q',B2',hceq,g1,g2,g3,g5,g4,rfl⟩
   ·exact absurd (g3 0 _ rfl).2 no_rcd
   simp only [List.cons.injEq,CV.rcd.injEq,and_true] at hceq
   obtain ⟨_,rfl,rfl,rfl,rfl,rfl,rfl⟩:=hceq
   have hnb:(recOf fx s).state ≠ .busy:=by cases s <;> simp [recOf]
   refine ⟨(recOf fx s).pending,_,run_endLoop g1 hnb,?_⟩
   have s4:SameBut (· = w.heap.size+1) w' (w'.putObj (w.heap.size+1) (.loop {recOf fx s with state := .exhausted})):=sb_put g1
   have hosz:=out.size
   have out4:OutR wb (Mut ρ (XB X B0) h2) B0 ((ambL cx++is).map ρ.blk) (w'.putObj (w.heap.size+1) (.loop {recOf fx s with state := .exhausted})) v (.tup []) co Br B2':=by
    have hnl:∀ b∈Br++B2',¬ b=w.heap.size+1:=fun b hb he=>by
     subst he
     have:=out.nd
     rw [List.nodup_append] at this
     rcases List.mem_append.1 hb with hb | hb
     ·exact this.2.2 _ hb _ List.mem_cons_self rfl
     ·exact (List.nodup_cons.1 this.2.1).1 hb
    have hMM:∀ b,MM (Mut ρ (XB X B0) h2) B0 (Br++B2') b->MM (fun b=>Mut ρ (XB X B0) h2 b\/b=w.heap.size+1) ((w.heap.size+1)::B0) (Br++(w.heap.size+1)::B2') b:=fun b hb=>by
     rcases hb with ⟨hb,hn⟩ | hb
     ·refine .inl ⟨.inl hb,fun hm => ?_⟩
      rcases List.mem_cons.1 hm with rfl | hm
      ·have:=hMlt _ hb;omega
      ·exact hn hm
     ·refine .inr ?_
      rcases List.mem_append.1 hb with hb | hb
      ·exact List.mem_append_left _ hb
      ·exact List.mem_append_right _ (List.mem_cons_of_mem _ hb)
    refine ⟨⟨out.io.1,out.io.2⟩,by simp;omega,fun b hb hn => ?_,fun b hb => ?_,?_,(out.ret.mono hMM).sc s4,(g4.mono hMM).sc s4 fun b hb=>hnl b (List.mem_append_right _ hb)⟩
    ·rw [s4.keep b (by omega),out.keep b (by omega) (fun hm=>by
      rcases List.mem_cons.1 hm with rfl | hm
      ·omega
      ·exact hn hm)]
     exact hold1 b hb
    ·have:=out.new b (by
      rcases List.mem_append.1 hb with hb | hb
      ·exact List.mem_append_left _ hb
      ·exact List.mem_append_right _ (List.mem_cons_of_mem _ hb))
     rcases this with hm | hm
     ·rcases List.mem_cons.1 hm with rfl | hm
      ·exact .inr (by omega)
      ·exact .inl hm
     ·exact .inr (by omega)
    ·have:=List.nodup_append.1 out.nd
     exact List.nodup_append.2 ⟨this.1,(List.nodup_cons.1 this.2.1).2,fun x hx y hy=>this.2.2 x hx y (List.mem_cons_of_mem _ hy)⟩
   obtain ⟨ρ',hr',_,e'⟩:=hback out4 hci
   have e2:=eb.trans e'
   have rr':R cx ρ' X st h' {a with defers:=[mkMark w.heap.size]++a.defers} (w'.putObj (w.heap.size+1) (.loop {recOf fx s with state := .exhausted})):=by
    refine ⟨hr',fun t=>e2.vr (rr.st t),rr.nt,?_⟩
    obtain ⟨hb0,bl,hbl,hbn,hbd⟩:=rr.nd.ext rr.hr e2
    obtain ⟨_,bl',hbl',_,hbd'⟩:=rr.nd
    refine ⟨hb0,w.heap.size::bl,by simp [hbl],List.nodup_cons.2 ⟨fun hm => ?_,hbn⟩,fun d hdm => ?_⟩
    ·have hmm:mkMark w.heap.size∈bl'.map mkMark:=by rw [<- hbl',hbl];exact List.mem_map_of_mem hm
     obtain ⟨d',hd',hde⟩:=List.mem_map.1 hmm
     have:d'=w.heap.size:=by simpa [mkMark] using hde
     have:=block_lt (hbd' d' hd').2
     omega
    ·rcases List.mem_cons.1 hdm with rfl | hdm
     ·refine ⟨by rw [e2.base];exact rr.nd.1,?_⟩
      rw [e'.keep _ (by omega) (fun ⟨i,_,hi⟩=>by have:=rr.hr.lt hi;omega)]
      exact hd
     ·exact hbd d hdm
   have hq:=hQ (exitOf s) st h' ρ' _ _ hK1 rr' (e.trans e2)
   cases s with
   | none=>exact hq
   | some k=>
    cases k with
    | zero=>exact wpIn_ret hq
    | succ k=>exact wpIn_exit hq
  ·cases hK
 ·cases hK
end
end Go.Ab

namespace Go.Ab
open Go
set_option maxRecDepth 100000
section
variable {cx:Cx}
theorem R.forget {cx:Cx} {ρ:Env} {X:Nat->Prop} {st:St} {h:H} {a:Act} {w:World} (rr:R cx ρ X st h a w):∀ (l:List Oper),R cx ρ X (Ab.forget l st) h a w:=by
 intro l
 induction l generalizing st with
 | nil=>exact rr
 | cons o l ih=>
  have key:R cx ρ X (put st o.dst .any) h a w:=by
   refine ⟨rr.hr,fun x => ?_,rr.nt,rr.nd⟩
   cases hd:o.dst with
   | none=>exact rr.st x
   | some d=>
    rw [get_put]
    split
    ·exact .any _
    ·exact rr.st x
  simp only [Ab.forget]
  split
  ·exact ih key
  ·exact ih key
  ·exact ih rr
def DrawS (cx:Cx):Prop:=
 ∀ (rd:Option Nat) (id:Nat) (ops:Array Oper) (β:Type) (K:St->H->Option β) (st:St) (h:H) (r:β),cx.P.follows .mixedOrders=true->drawK cx ops (List.range ops.size) [] st h K=some r->
  ∀ (X:Nat->Prop) (ρ:Env) (a:Act) (w:World) (ρ0:Env) (h0:H) (w0:World) (Q:Exit->Act->World->Prop),R cx ρ X st h a w->Ext ρ0 h0 w0 ρ h w->
   (∀ st h ρ a w,K st h=some r->R cx ρ X st h a w->Ext ρ0 h0 w0 ρ h w->Q .normal a w)->(Code.region id ops true).wpIn (FR rd) 0 cx.P Q a w
theorem stepR_scope {P:Program} {b:Frame} {a:Act} {k:List Item} {cs:List Frame} {w:World} {c:Code}:step P (lone (b.atR a (.code (.scope c)::k)) cs w) = .next (lone (b.atR a (.code c :: .inScope c::k)) cs w):=
 step_lone_go (by simp [stepG,stepG.exec,Frame.atR])
theorem stepR_inScope {P:Program} {b:Frame} {a:Act} {k:List Item} {cs:List Frame} {w:World} {c:Code}:step P (lone (b.atR a (.inScope c::k)) cs w) = .next (lone (b.atR a k) cs w):=
 step_lone_go (by simp [stepG,stepG.exec,Frame.atR])
theorem wpIn_scope_straight {F:Fence} {n:Nat} {P:Program} {Q:Exit->Act->World->Prop} {a:Act} {w:World} {c:Code} (h:c.wpIn F n P (Exit.noGoto Q) a w):(Code.scope c).wpIn F n P Q a w:=by
 intro b k cs hro hb hr
 obtain ⟨e,a₁,w₁,hq,harr⟩:=h b (.inScope c::k) cs hro hb hr
 have s1:StepsIn (Machine.fenced P F) P (lone (b.atR a (.code (.scope c)::k)) cs w) (lone (b.atR a (.code c :: .inScope c::k)) cs w) := .one (fenced_calm hb hr rfl) stepR_scope
 cases e with
 | normal=>exact ⟨.normal,a₁,w₁,hq,s1.trans (StepsIn.trans harr (.one (fenced_calm hb hr rfl) stepR_inScope))⟩
 | exit id=>
  have hx:exitTo id (.inScope c::k)=exitTo id k:=by simp [exitTo]
  exact ⟨.exit id,a₁,w₁,hq,fun k' hk=>s1.trans (harr.1 k' (by rw [hx];exact hk)),fun hr' hk=>let ⟨k₁,h1,h2⟩:=harr.2 hr' (by rw [hx];exact hk);⟨k₁,h1,s1.trans h2⟩⟩
 | goto l=>exact hq.elim
 | ret=>exact ⟨_,a₁,w₁,hq,.of_steps s1 harr⟩
 | panic ch=>exact ⟨_,a₁,w₁,hq,.of_steps s1 harr⟩
 | outgrown=>exact ⟨_,a₁,w₁,hq,.of_steps s1 harr⟩
theorem codeS (hΓ:∀ f g,cx.Γ f=some g->SoundC cx.P f g) (hN:NatX cx) (hNL:∀ q L,cx.Λ q=some L->NatL L) (hE:EqY cx) (hD:DrawS cx) (hL:LoopsS cx):∀ (c:Code) (p:List Bool),codeAt cx.root p=some c->CodeS cx p c:=by
 intro c
 induction c with
 | skip=>
  intro p hp rd hrd n β K st h r hK X ρ a w ρ0 h0 w0 Q rr e hQ
  cases n with
  | zero=>simp [codeK] at hK
  | succ n=>simp only [codeK] at hK;exact wpIn_skip (hQ _ _ _ _ _ _ hK rr e)
 | label l=>
  intro p hp rd hrd n β K st h r hK X ρ a w ρ0 h0 w0 Q rr e hQ
  cases n with
  | zero=>simp [codeK] at hK
  | succ n=>simp only [codeK] at hK;exact wpIn_label (hQ _ _ _ _ _ _ hK rr e)
 | exit id=>
  intro p hp rd hrd n β K st h r hK X ρ a w ρ0 h0 w0 Q rr e hQ
  cases n with
  | zero=>simp [codeK] at hK
  | succ n=>simp only [codeK] at hK;exact wpIn_exit (hQ _ _ _ _ _ _ hK rr e)
 | ret=>
  intro p hp rd hrd n β K st h r hK X ρ a w ρ0 h0 w0 Q rr e hQ
  cases n with
  | zero=>simp [codeK] at hK
  | succ n=>simp only [codeK] at hK;exact wpIn_ret (hQ _ _ _ _ _ _ hK rr e)
 | region id ops draw=>
  intro p hp rd hrd n β K st h r hK X ρ a w ρ0 h0 w0 Q rr e hQ
  cases n with
  | zero=>simp [codeK] at hK
  | succ n=>
   simp only [codeK] at hK
   cases draw with
   | true=>
    simp only [cond_true] at hK
    replace hK:=cond_some hK
    obtain ⟨hm,hK⟩:=hK
    exact hD rd id ops β _ _ h r hm hK X ρ a w ρ0 h0 w0 Q (by cases cx.nw with | false=>exact rr | true=>exact rr.forget _) e fun st h ρ a w hK rr e=>hQ _ _ _ _ _ _ hK rr e
   | false=>
    simp only [cond_false] at hK
    exact wpIn_region (opsK_sound hΓ hE (fun st h ρ a w hK rr e=>hQ _ _ _ _ _ _ hK rr e) _ st h ρ a w hK rr e)
 | seq x y ihx ihy=>
  intro p hp rd hrd n β K st h r hK X ρ a w ρ0 h0 w0 Q rr e hQ
  cases n with
  | zero=>simp [codeK] at hK
  | succ n=>
   simp only [codeK] at hK
   refine wpIn_seq (ihx (false::p) (by simp [codeAt,hp,childOf]) rd (hrd.imp (fun h=>h) fun h=>by simp [noRF] at h;exact h.1) n β _ st h r hK X ρ a w ρ0 h0 w0 _ rr e fun e' st' h' ρ' a' w' hK' rr' ee' => ?_)
   cases e' with
   | normal=>exact ihy (true::p) (by simp [codeAt,hp,childOf]) rd (hrd.imp (fun h=>h) fun h=>by simp [noRF] at h;exact h.2) n β _ st' h' r hK' X ρ' a' w' ρ0 h0 w0 _ rr' ee' hQ
   | _=>exact hQ _ _ _ _ _ _ hK' rr' ee'
 | cond o x y ihx ihy=>
  intro p hp rd hrd n β K st h r hK X ρ a w ρ0 h0 w0 Q rr e hQ
  cases n with
  | zero=>simp [codeK] at hK
  | succ n=>
   simp only [codeK] at hK
   split at hK
   ·rename_i t hev
    have hv:=ev_sound rr 0 o
    rw [hev] at hv
    refine wpIn_cond hv.bool_inv ?_
    cases t with
    | true=>exact ihx (false::p) (by simp [codeAt,hp,childOf]) rd (hrd.imp (fun h=>h) fun h=>by simp [noRF] at h;exact h.1) n β K st h r hK X ρ a w ρ0 h0 w0 Q rr e hQ
    | false=>exact ihy (true::p) (by simp [codeAt,hp,childOf]) rd (hrd.imp (fun h=>h) fun h=>by simp [noRF] at h;exact h.2) n β K st h r hK X ρ a w ρ0 h0 w0 Q rr e hQ
   ·cases hK
 | block id x ihx=>
  intro p hp rd hrd n β K st h r hK X ρ a w ρ0 h0 w0 Q rr e hQ
  cases n with
  | zero=>simp [codeK] at hK
  | succ n=>
   simp only [codeK] at hK
   refine wpIn_block (ihx (false::p) (by simp [codeAt,hp,childOf]) rd (hrd.imp (fun h=>h) fun h=>h) n β _ st h r hK X ρ a w ρ0 h0 w0 _ rr e fun e' st' h' ρ' a' w' hK' rr' ee' => ?_)
   cases e' with
   | exit i=>
    simp only [Exit.inBlock]
    cases hb:Nat.beq i id with
    | true=>
     simp only [hb,cond_true] at hK'
     rw [if_pos (beq_true hb)]
     exact hQ _ _ _ _ _ _ hK' rr' ee'
    | false=>
     simp only [hb,cond_false] at hK'
     rw [if_neg (fun h=>by rw [h] at hb;simp at hb)]
     exact hQ _ _ _ _ _ _ hK' rr' ee'
   | _=>exact hQ _ _ _ _ _ _ hK' rr' ee'
 | scope x ihx=>
  intro p hp rd hrd n β K st h r hK X ρ a w ρ0 h0 w0 Q rr e hQ
  cases n with
  | zero=>simp [codeK] at hK
  | succ n=>
   simp only [codeK] at hK
   refine wpIn_scope_straight (ihx (false::p) (by simp [codeAt,hp,childOf]) rd (hrd.imp (fun h=>h) fun h=>h) n β _ st h r hK X ρ a w ρ0 h0 w0 _ rr e fun e' st' h' ρ' a' w' hK' rr' ee' => ?_)
   cases e' with
   | goto l=>cases hK'
   | _=>exact hQ _ _ _ _ _ _ hK' rr' ee'
 | loop x ihx=>
  intro p hp rd hrd n β K st h r hK X ρ a w ρ0 h0 w0 Q rr e hQ
  have hx:=ihx (false::p) (by simp [codeAt,hp,childOf])
  by_cases hu:cx.un (pathN p)=true
  ·have key:∀ (n:Nat) (st:St) (h:H) (ρ:Env) (a:Act) (w:World),codeK cx n p (.loop x) K st h=some r->R cx ρ X st h a w->Ext ρ0 h0 w0 ρ h w->Code.roundsIn (FR rd) 0 cx.P x Q n a w:=by
    intro n
    induction n with
    | zero=>intro st h ρ a w hK;simp [codeK] at hK
    | succ n ih=>
     intro st h ρ a w hK rr e
     simp only [codeK,hu,cond_true] at hK
     rw [roundsIn_succ]
     refine hx rd (hrd.imp (fun h=>h) fun h=>h) n β _ st h r hK X ρ a w ρ0 h0 w0 _ rr e fun e' st' h' ρ' a' w' hK' rr' ee' => ?_
     cases e' with
     | normal=>exact ih st' h' ρ' a' w' hK' rr' ee'
     | _=>exact hQ _ _ _ _ _ _ hK' rr' ee'
   exact wpIn_loop_rounds n (key n st h ρ a w hK rr e)
  ·cases n with
   | zero=>simp [codeK] at hK
   | succ n=>
    have hu':cx.un (pathN p)=false:=by simpa using hu
    simp only [codeK,hu',cond_false] at hK
    split at hK
    ·rename_i L hl
     exact loopK_sound (b:=x) (p:=p) (hrd.imp (fun h=>h) fun h=>h) hx (hL p L x hl hp) hK rr e hQ
    ·cases hK
 | rangeFunc g ps x y ihx ihy=>
  intro p hp rd hrd n β K st h r hK X ρ a w ρ0 h0 w0 Q rr e hQ
  cases n with
  | zero=>simp [codeK] at hK
  | succ n=>
   simp only [codeK] at hK
   rcases hrd with rfl | hrd
   ·exact rangeK_sound hE hN hNL hp (ihx (false::p) (by simp [codeAt,hp,childOf])) (ihy (true::p) (by simp [codeAt,hp,childOf])) hK rr e hQ
   ·cases hrd
 | _=>
  intro p hp rd hrd n β K st h r hK
  cases n with
  | zero=>simp [codeK] at hK
  | succ n=>simp [codeK] at hK
/-! ### Functions -/
theorem startSt_get {w:World} {M:Nat->Prop} {bs:List Nat}:∀ (args:List CV) (j0:Nat) (us:Nat->Value) (ρ:Env) (h:H),(∀ (j:Nat) (x:CV),args[j]? = some x->ArgR w M bs x (us (j0+j)))->(∀ k b,bs[k]? = some b->ρ.blk k=b/\k<h.length)->
  ∀ t,VR ρ h w M (get (startSt args j0) t) (us t)
 | [],j0,us,ρ,h,_,_,t => .any _
 | x::args,j0,us,ρ,h,ha,hb,t=>by
  have ih:=startSt_get args (j0+1) us ρ h (fun j y hy=>by have:=ha (j+1) y (by simpa using hy);rwa [show j0+1+j=j0+(j+1) from by omega]) hb
  have h0:=ha 0 x (by simp)
  simp only [Nat.add_zero] at h0
  have key:∀ s,VR ρ h w M s (us j0)->VR ρ h w M (get ((j0,s)::startSt args (j0+1)) t) (us t):=fun s hs=>by
   have:get ((j0,s)::startSt args (j0+1)) t=get (put (startSt args (j0+1)) (some j0) s) t:=rfl
   rw [this,get_put]
   split
   ·rename_i e;subst e;exact hs
   ·exact ih t
  rcases h0 with ⟨k,b,rfl,hk,hv⟩ | hc
  ·obtain ⟨h1,h2⟩:=hb k b hk
   exact key _ (.ptr _ _ _ (by rw [hv];rfl) h2 (by rw [hv,h1]))
  ·cases x with
   | ref k=>cases hc
   | _=>exact key _ (.c _ _ hc)
def resRun (tmps:Array Value):ResultVar->Sem Value
 | .tmp t=>pure (tmps.getD t undef)
 | .cell a t=>do loadVar t (<- asAddr (tmps.getD a undef))
theorem resVals_sound {ρ:Env} {X:Nat->Prop} {st:St} {h:H} {a:Act} {w:World} (rr:R cx ρ X st h a w):∀ (rs:List ResultVar) (vs:List SV),resVals cx st h rs=some vs->
  ∃ us:List Value,(rs.mapM (resRun a.tmps)).run cx.P w = .ok us w/\us.length=vs.length/\∀ (j:Nat) (s:SV),vs[j]? = some s->∃ u,us[j]? = some u/\VR ρ h w (Mut ρ X h) s u
 | [],vs,hv=>by
  simp only [resVals,Option.some.injEq] at hv
  subst hv
  exact ⟨[],by simp,rfl,fun j s hs=>by simp at hs⟩
 | .tmp t::rs,vs,hv=>by
  simp only [resVals] at hv
  replace hv:=bind_some' hv
  obtain ⟨vs1,hv1,hv⟩:=hv
  obtain rfl:=Option.some.inj hv
  obtain ⟨us,hrun,hl,hu⟩:=resVals_sound rr rs vs1 hv1
  refine ⟨a.tmps.getD t undef::us,by simp [List.mapM_cons,resRun,hrun],by simp [hl],fun j s hs => ?_⟩
  cases j with
  | zero=>simp at hs;subst hs;exact ⟨_,by simp,rr.st t⟩
  | succ j=>simp at hs;simpa using hu j s hs
 | .cell x t::rs,vs,hv=>by
  simp only [resVals] at hv
  split at hv
  ·rename_i i off hg
   split at hv
   ·rename_i fr cs hb
    replace hv:=bind_some' hv
    obtain ⟨⟨g,sz⟩,ht,hv⟩:=hv
    replace hv:=bind_some' hv
    obtain ⟨v,hp,hv⟩:=hv
    replace hv:=bind_some' hv
    obtain ⟨vs1,hv1,hv⟩:=hv
    obtain rfl:=Option.some.inj hv
    obtain ⟨us,hrun,hl,hu⟩:=resVals_sound rr rs vs1 hv1
    have hx:=rr.st x
    rw [hg] at hx
    generalize hval:a.tmps.getD x undef=xv at hx
    cases hx with
    | ptr _ _ _ hpl hi hq=>
     subst hq
     obtain ⟨u,hld,hvr⟩:=pickC_sound (o:=0) ht (by simpa using cellsBox rr.hr hb) hp
     rw [Nat.zero_add] at hld
     refine ⟨u::us,by simp [List.mapM_cons,resRun,hval,asAddr,hld,hrun],by simp [hl],fun j s hs => ?_⟩
     cases j with
     | zero=>simp at hs;subst hs;exact ⟨u,by simp,hvr⟩
     | succ j=>simp at hs;simpa using hu j s hs
   ·cases hv
  ·cases hv
theorem results_sound {ρ:Env} {X:Nat->Prop} {st:St} {h:H} {a:Act} {w:World} (rr:R cx ρ X st h a w) {fn:Func} {vs:List SV} (hv:resVals cx st h fn.results.toList=some vs):
  ∃ u,(results fn a.tmps).run cx.P w = .ok u w/\VR ρ h w (Mut ρ X h) (one vs) u:=by
 obtain ⟨us,hrun,hl,hu⟩:=resVals_sound rr _ vs hv
 have e:(fn.results.mapM (resRun a.tmps)).run cx.P w = .ok us.toArray w:=by
  rw [Array.mapM_eq_mapM_toList,Sem.run_map,hrun]
  rfl
 have e2:(results fn a.tmps).run cx.P w = .ok (if h:us.toArray.size=1 then us.toArray[0] else .tuple us.toArray) w:=by
  have hfun:results fn a.tmps=(do let vs <- fn.results.mapM (resRun a.tmps);pure (if h:vs.size=1 then vs[0] else .tuple vs)):=by
   unfold results
   have:∀ (F G:ResultVar->Sem Value),F=G->(do let vs <- fn.results.mapM F;pure (if h:vs.size=1 then vs[0] else Value.tuple vs):Sem Value)=(do let vs <- fn.results.mapM G;pure (if h:vs.size=1 then vs[0] else Value.tuple vs)):=fun F G h=>by rw [h]
   refine this _ _ ?_
   funext x
   cases x <;> rfl
  rw [hfun]
  simp [e]
 rw [e2]
 match vs,us,hl,hu with
 | [v],[u],_,hu=>
  obtain ⟨u',hu',hv⟩:=hu 0 v (by simp)
  simp at hu'
  subst hu'
  exact ⟨u,by simp,hv⟩
 | [],[],_,_=>exact ⟨_,rfl,.tup [] #[] rfl (fun j x hx=>by simp at hx)⟩
 | v1::v2::vs,us,hl,hu=>
  have h1:¬ us.toArray.size=1:=by simp [hl]
  rw [dif_neg h1]
  refine ⟨_,rfl,.tup _ us.toArray (by simp [hl]) fun j x hx => ?_⟩
  obtain ⟨u,hu',hv⟩:=hu j x hx
  simpa [hu'] using hv
def fnC (cx:Cx) (fn:Func):Callee:=⟨fun args conts _ K=>fnK cx fn args conts K⟩
def svSt:List SV->Nat->St
 | [],_=>[]
 | v::r,j=>(j,v)::svSt r (j+1)
theorem svSt_get:∀ (ss:List SV) (j t:Nat),get (svSt ss j) t=(if j<=t then (ss[t - j]?).getD .any else .any)
 | [],j,t=>by simp [svSt,get]
 | v::r,j,t=>by
  simp only [svSt,get]
  by_cases h:t=j
  ·subst h
   have:Nat.beq t t=true:=by simp
   simp
  ·have hb:Nat.beq t j=false:=by
    cases hb:Nat.beq t j with
    | false=>rfl
    | true=>exact absurd (beq_true hb) h
   rw [hb,cond_false,svSt_get r (j+1) t]
   by_cases h1:j<=t
   ·rw [if_pos h1,if_pos (by omega),show t - j=(t - (j+1))+1 by omega,List.getElem?_cons_succ]
   ·rw [if_neg h1,if_neg (by omega)]
def inlC (cx:Cx) (fn:Func):Inl:=⟨fun ss h _ K=>match fn.body with
 | none=>none
 | some c=>bif Nat.beq ss.length (fn.params.size+fn.nfree) then
   codeK cx FUEL [] c (fun e st h=>match e with
    | .normal=>(resVals cx st h fn.results.toList).bind fun vs=>K (one vs) h
    | .ret=>(resVals cx st h fn.results.toList).bind fun vs=>K (one vs) h
    | _=>none) (svSt ss 0) h
   else none⟩
theorem inlC_nat (hN:NatX cx) (hNL:∀ q L,cx.Λ q=some L->NatL L) {fn:Func}:NatN (inlC cx fn):=fun ss h=>by
 unfold inlC
 dsimp only
 split
 ·exact .none
 ·refine .cond _ (.seq3 (codeK_nat hN hNL _ _ _ _ _) fun e st h => ?_) .none
  cases e with
  | normal=>exact .bind _ fun vs => .ret _ _
  | ret=>exact .bind _ fun vs => .ret _ _
  | _=>exact .none
theorem inlC_sound (hΓ:∀ f g,cx.Γ f=some g->SoundC cx.P f g) (hN:NatX cx) (hE:EqY cx) (hD:DrawS cx) (hL:LoopsS cx) (hNL:∀ q L,cx.Λ q=some L->NatL L) {f:FuncId} {fn:Func} (hf:cx.P.funcs[f]? = some fn)
  (hn:(fn.name == "runtime.NumGoroutine")=false) (hb:fn.body=some cx.root) (hnt:cx.nt=fn.ntmps) (hpn:fn.params.size+fn.nfree<=fn.ntmps):SoundN cx.P f (inlC cx fn):=by
 refine ⟨⟨fn,hf,hn,by rw [hb];rfl⟩,fun ss h β K r hK => ?_⟩
 rcases inlC_nat (cx:=cx) hN hNL (fn:=fn) ss h with ⟨sv,h',hnat⟩ | hnat
 ·refine ⟨sv,h',(hnat β K).symm.trans hK,fun ρ X w vs hr hsz hv => ?_⟩
  have hp:=hnat _ fun a b=>some (a,b)
  unfold inlC at hp
  dsimp only at hp
  rw [hb] at hp
  replace hp:=cond_some hp
  obtain ⟨hlen,hp⟩:=hp
  have hlen:=beq_true hlen
  have hvs:vs.size<=fn.ntmps:=by rw [hsz,hlen];exact hpn
  have hr1:=hr.rb w.heap.size
  refine callsIn_wide (n:=0).1 (callsIn_of_wp_marks (F:=FR none) (n:=0) hf hb trivial ?_)
  refine codeS hΓ hN hNL hE hD hL cx.root [] rfl none (.inl rfl) FUEL _ _ _ _ _ hp X (ρ.rb w.heap.size) _ w (ρ.rb w.heap.size) _ w _ ⟨hr1,fun t => ?_,by simp [hnt];omega,Marks.nil (Nat.le_refl _)⟩ (Ext.refl _ _ _)
   fun e st h2 ρ' a w' hK rr ee => ?_
  ·rw [svSt_get,if_pos (Nat.zero_le t),Nat.sub_zero]
   cases hs:ss[t]? with
   | none=>exact .any _
   | some s=>
    have ht:t<vs.size:=by rw [hsz];exact (List.getElem?_eq_some_iff.1 hs).1
    have e:(vs++Array.replicate (fn.ntmps - vs.size) undef).getD t undef=vs.getD t undef:=by
     rw [Array.getD_eq_getD_getElem?,Array.getD_eq_getD_getElem?,Array.getElem?_append_left ht]
    show VR _ _ _ _ s ((vs++Array.replicate (fn.ntmps - vs.size) undef).getD t undef)
    rw [e]
    exact (hv t s hs).rb _
  have fin:((resVals cx st h2 fn.results.toList).bind fun vs=>some (one vs,h2))=some (sv,h')->LeavesInM (FR none) 0 cx.P fn a.tmps (fun e w'=>∃ v,e = .returned v/\Post ρ X h w sv h' v w') a.defers .returning w':=fun hK=>by
   obtain ⟨hb0,bl,hbl,hbn,hbd⟩:=rr.nd
   rw [hbl]
   refine leaves_marks bl w' hbn (fun d hd=>(hbd d hd).2) ?_
   have sc:=shut_spec bl w' hbn fun d hd=>(hbd d hd).2
   have hother:=sc.keep
   have hbase':ρ'.base=w.heap.size:=ee.base
   replace rr:R cx ρ' X st h2 {a with defers:=[]} (shut bl w'):=⟨rr.hr.sc sc (fun i b hb hm=>by
    obtain ⟨o,ho,hno⟩:=rr.hr.objAt hb
    rw [(hbd b hm).2] at ho
    exact hno _ (Option.some.inj ho).symm),fun t=>(rr.st t).sc sc,rr.nt,Marks.nil (by rw [sc.size];exact hb0)⟩
   replace hK:=bind_some' hK
   obtain ⟨svs,hsv,hK⟩:=hK
   simp only [Option.some.injEq,Prod.mk.injEq] at hK
   obtain ⟨rfl,rfl⟩:=hK
   obtain ⟨u,hrun,hv'⟩:=results_sound rr hsv
   refine ⟨u,hrun,u,rfl,ρ'.rb ρ.base,rr.hr.rb _,hv'.rb _,⟨⟨ee.len,ee.accs,ee.blks,rfl⟩,?_,fun b hb hl => ?_,ee.lives,⟨sc.io.1.trans ee.io.1,sc.io.2.trans ee.io.2⟩⟩⟩
   ·rw [sc.size];exact ee.size
   ·rw [hother b fun hm=>by have:=(hbd b hm).1;omega]
    exact ee.keep b hb hl
  cases e with
  | normal=>exact fin hK
  | ret=>exact fin hK
  | _=>cases hK
 ·have:=(hnat β K).symm.trans hK
  cases this
theorem fnS (hΓ:∀ f g,cx.Γ f=some g->SoundC cx.P f g) (hN:NatX cx) (hE:EqY cx) (hD:DrawS cx) (hL:LoopsS cx) (hNL:∀ q L,cx.Λ q=some L->NatL L) {f:FuncId} {fn:Func} (hf:cx.P.funcs[f]? = some fn)
  (hn:(fn.name == "runtime.NumGoroutine")=false) (hb:fn.body=some cx.root) (hnt:cx.nt=fn.ntmps) (hpn:fn.params.size+fn.nfree<=fn.ntmps):SoundC cx.P f (fnC cx fn):=by
 refine ⟨⟨fn,hf,hn,by rw [hb];rfl⟩,fun args conts β K r hK => ?_⟩
 rcases fnK_nat (cx:=cx) hN hNL (fn:=fn) (args:=args) (conts:=conts) with ⟨rv,co,hnat⟩ | hnat
 ·refine ⟨rv,co,(hnat β K).symm.trans hK,fun w M vs bs B hin => ?_⟩
  have hp:=hnat _ fun a b=>some (a,b)
  unfold fnK at hp
  rw [hb] at hp
  replace hp:=cond_some hp
  obtain ⟨hlen,hp⟩:=hp
  have hlen:=beq_true hlen
  have hvs:vs.size<=fn.ntmps:=by rw [hin.size,hlen];exact hpn
  obtain ⟨ρ0,ρ,m,hmap,hno,hbase⟩:=start_sound w.heap.size (X:=fun b=>M b/\b∉B) (fun b hb=>hb.1) hin.cont hin.nd hin.sub (fun b hb hx=>hx.2 hb) hin.glob
  have hr:HR ρ (fun b=>M b/\b∉B) (startH conts 0 (List.replicate conts.length .dead)) w:=m.hr.toHR fun b hb=>hin.lt b hb.1
  have hl1:∀ k∈List.range conts.length,k<(startH conts 0 (List.replicate conts.length .dead)).length:=fun k hk=>Nat.lt_of_lt_of_le (by simpa using hk) m.ext.len
  have hB:∀ j b,bOf ρ j (getH (startH conts 0 (List.replicate conts.length .dead)) j)=some b->b∈B:=fun j b hb=>by
   rcases m.new j b hb with ⟨_,h2⟩ | h2
   ·exact absurd h2 (hno j b)
   ·exact h2
  have hst:=startSt_get (w:=w) (M:=M) args 0 (fun t=>(vs++Array.replicate (fn.ntmps - vs.size) undef).getD t undef) ρ (startH conts 0 (List.replicate conts.length .dead)) (fun j x hx=>by
   have hj:j<vs.size:=by rw [hin.size];exact (List.getElem?_eq_some_iff.1 hx).1
   have e:(vs++Array.replicate (fn.ntmps - vs.size) undef).getD (0+j) undef=vs.getD j undef:=by
    rw [Nat.zero_add,Array.getD_eq_getD_getElem?,Array.getD_eq_getD_getElem?,Array.getElem?_append_left hj]
   rw [e]
   exact hin.arg j x hx) (fun k b hk=>by
   rw [<- hmap] at hk
   simp only [List.getElem?_map,Option.map_eq_some_iff] at hk
   obtain ⟨i,hi,rfl⟩:=hk
   have hik:i=k:=by
    have:=List.getElem?_eq_some_iff.1 hi
    obtain ⟨h1,h2⟩:=this
    simpa using h2.symm
   subst hik
   exact ⟨rfl,hl1 i (List.mem_of_getElem? hi)⟩)
  refine callsIn_wide (n:=0).1 (callsIn_of_wp_marks (F:=FR none) (n:=0) hf hb trivial ?_)
  refine codeS hΓ hN hNL hE hD hL cx.root [] rfl none (.inl rfl) FUEL _ _ _ _ _ hp (fun b=>M b/\b∉B) ρ _ w ρ _ w _ ⟨hr,fun t=>(hst t).mono (HExt.refl _ _) fun x u hx=>hx.mono (Nat.le_refl _) (fun _ _ _=>rfl) (fun b _ hb=>m.hr.sub b hb),by simp [hnt];omega,Marks.nil (by rw [hbase];exact Nat.le_refl _)⟩ (Ext.refl _ _ _)
   fun e st h ρ' a w' hK rr ee => ?_
  have fin:fnFin cx fn conts (fun a b=>some (a,b)) st h=some (rv,co)->LeavesInM (FR none) 0 cx.P fn a.tmps (fun e w'=>∃ v Br B2,e = .returned v/\OutR w M B bs w' v rv co Br B2) a.defers .returning w':=fun hK=>by
   obtain ⟨hb0,bl,hbl,hbn,hbd⟩:=rr.nd
   rw [hbl]
   refine leaves_marks bl w' hbn (fun d hd=>(hbd d hd).2) ?_
   have sc:=shut_spec bl w' hbn fun d hd=>(hbd d hd).2
   have hother:=sc.keep
   have hbase':ρ'.base=w.heap.size:=ee.base.trans hbase
   replace rr:R cx ρ' (fun b=>M b/\b∉B) st h {a with defers:=[]} (shut bl w'):=⟨rr.hr.sc sc (fun i b hb hm=>by
    obtain ⟨o,ho,hno⟩:=rr.hr.objAt hb
    rw [(hbd b hm).2] at ho
    exact hno _ (Option.some.inj ho).symm),fun t=>(rr.st t).sc sc,rr.nt,Marks.nil (by rw [sc.size];exact hb0)⟩
   have eekeep:∀ b,b<w.heap.size->¬ live ρ (startH conts 0 (List.replicate conts.length .dead)) b->(shut bl w').heap[b]? = w.heap[b]? := fun b hb hn=>by
    rw [hother b fun hm=>by have:=(hbd b hm).1;omega]
    exact ee.keep b hb hn
   have eesize:w.heap.size<=(shut bl w').heap.size:=by rw [sc.size];exact ee.size
   have eeio:SameIO w (shut bl w'):=⟨sc.io.1.trans ee.io.1,sc.io.2.trans ee.io.2⟩
   unfold fnFin at hK
   replace hK:=bind_some' hK
   obtain ⟨svs,hsv,hK⟩:=hK
   replace hK:=bind_some' hK
   obtain ⟨⟨x,h1⟩,ht,hK⟩:=hK
   replace hK:=bind_some' hK
   obtain ⟨⟨co',h2⟩,hc,hK⟩:=hK
   simp only [Option.some.injEq,Prod.mk.injEq] at hK
   obtain ⟨rfl,rfl⟩:=hK
   obtain ⟨u,hrun,hv⟩:=results_sound rr hsv
   obtain ⟨Br,t1,o1⟩:=take_sound (w:=shut bl w') (ρ:=ρ') depth _ h _ x h1 u rr.hr hv ht
   obtain ⟨B2,t2,c2,_,_⟩:=contsOut_sound _ _ h1 co' h2 t1.hr hc
   have t:=t1.trans t2
   have hmap':(List.range conts.length).map ρ'.blk=bs:=by rw [<- hmap];exact List.map_congr_left fun i hi=>ee.blks i (hl1 i hi)
   rw [hmap'] at c2
   have hsub:∀ b,MM M B (Br++B2) b->Mut ρ' (XB (fun b=>M b/\b∉B) (Br++B2)) h2 b:=fun b hb => .inl hb
   refine ⟨u,hrun,u,Br,B2,rfl,eeio,eesize,fun b hb hn=>eekeep b hb ?_,fun b hb => ?_,t.nd,?_,?_⟩
   ·rintro ⟨j,_,hj⟩
    exact hn (hB j b hj)
   ·by_cases hbl:b<w.heap.size
    ·obtain ⟨j,_,hj⟩:=ee.lives b hbl (t.bl b hb)
     exact .inl (hB j b hj)
    ·exact .inr (by omega)
   ·exact o1.mono fun b hb=>by
     have:=hsub b hb
     rw [<- XB_append] at this
     exact t2.mut this
   ·rw [XB_append] at c2
    exact c2.mono hsub
  cases e with
  | normal=>exact fin hK
  | ret=>exact fin hK
  | _=>cases hK
 ·have:=(hnat β K).symm.trans hK
  cases this
end
end Go.Ab

namespace Go.Ab
open Go
set_option maxRecDepth 100000
inductive Eff where
 | none
 | set (i:Nat) (b:Box)
 | sets (i:Nat) (bs:List Box)
 | glob (h:H)
def setXs:Nat->List Box->H->H
 | _,[],h=>h
 | i,b::bs,h=>setXs (i+1) bs (setX h i b)
def Eff.app:Eff->H->H
 | .none,h=>h
 | .set i b,h=>setX h i b
 | .sets i bs,h=>setXs i bs h
 | .glob g,_=>g
structure Rc where
 t:Tr
 eff:Eff
 sv:SV
def fpEff:FP->Eff->Prop
 | .pure,.none=>True
 | .ro,.none=>True
 | .rd _,.none=>True
 | .wr i,.set j _=>i=j
 | .nw i,.sets j _=>i=j
 | .all,.glob _=>True
 | _,_=>False
def heapL (L:Nat->Bool) (h0:H):List Rc->H
 | []=>h0
 | r::rs=>bif L r.t.j then r.eff.app (heapL L h0 rs) else heapL L h0 rs
def getL (L:Nat->Bool) (st0:St):List Rc->Nat->SV
 | [],x=>get st0 x
 | r::rs,x=>if L r.t.j=true/\r.t.dst=some x then r.sv else getL L st0 rs x
abbrev allL:Nat->Bool:=fun _=>true
def Cond:FP->H->H->Prop
 | .pure,_,_=>True
 | .ro,h,h'=>h=h'
 | .all,h,h'=>h=h'
 | .rd i,h,h'=>getH h i=getH h' i
 | .wr i,h,h'=>getH h i=getH h' i
 | .nw _,h,h'=>h.length=h'.length
theorem getH_setX_same (b:Box):∀ (h:H) (i:Nat),getH (setX h i b) i=b
 | [],0=>rfl
 | [],i+1=>getH_setX_same b [] i
 | _::_,0=>rfl
 | _::r,i+1=>getH_setX_same b r i
theorem getH_setX_ne (b:Box):∀ (h:H) (i j:Nat),i≠j->getH (setX h i b) j=getH h j
 | [],0,0,hij=>absurd rfl hij
 | [],0,j+1,_=>rfl
 | [],i+1,0,_=>rfl
 | [],i+1,j+1,hij=>getH_setX_ne b [] i j (by omega)
 | _::_,0,0,hij=>absurd rfl hij
 | _::_,0,j+1,_=>rfl
 | _::_,i+1,0,_=>rfl
 | _::r,i+1,j+1,hij=>getH_setX_ne b r i j (by omega)
theorem length_setX (b:Box):∀ (h:H) (i:Nat),(setX h i b).length=max h.length (i+1)
 | [],0=>rfl
 | [],i+1=>by
  have:=length_setX b [] i
  simp only [setX,List.length_cons,List.length_nil] at this ⊢
  omega
 | _::r,0=>by simp [setX]
 | _::r,i+1=>by
  have:=length_setX b r i
  simp only [setX,List.length_cons] at this ⊢
  omega
theorem setX_setH (b:Box):∀ (h:H) (i:Nat),i<h.length->setX h i b=setH h i b
 | [],_,hi=>by simp at hi
 | _::_,0,_=>rfl
 | a::r,i+1,hi=>by simp only [setX,setH];rw [setX_setH b r i (by simpa using hi)]
theorem setX_app (b:Box):∀ (h:H),setX h h.length b=h++[b]
 | []=>rfl
 | a::r=>by simp only [List.length_cons,setX,List.cons_append];rw [setX_app b r]
theorem setXs_app:∀ (bs:List Box) (h:H),setXs h.length bs h=h++bs
 | [],h=>by simp [setXs]
 | b::bs,h=>by
  have:=setXs_app bs (h++[b])
  rw [List.length_append] at this
  simp only [setXs,setX_app]
  exact this.trans (by simp)
theorem getH_setXs_lt:∀ (bs:List Box) (h:H) (i j:Nat),i<j->getH (setXs j bs h) i=getH h i
 | [],_,_,_,_=>rfl
 | b::bs,h,i,j,hij=>by
  simp only [setXs]
  rw [getH_setXs_lt bs _ i (j+1) (by omega),getH_setX_ne _ _ _ _ (by omega)]
theorem getH_setXs_congr:∀ (bs:List Box) (h h':H) (i j:Nat),getH h i=getH h' i->getH (setXs j bs h) i=getH (setXs j bs h') i
 | [],_,_,_,_,e=>e
 | b::bs,h,h',i,j,e=>by
  simp only [setXs]
  refine getH_setXs_congr bs _ _ i (j+1) ?_
  by_cases hij:j=i
  ·subst hij
   rw [getH_setX_same,getH_setX_same]
  ·rw [getH_setX_ne _ _ _ _ hij,getH_setX_ne _ _ _ _ hij];exact e
theorem length_setXs:∀ (bs:List Box) (h h':H) (j:Nat),h.length=h'.length->(setXs j bs h).length=(setXs j bs h').length
 | [],_,_,_,e=>e
 | b::bs,h,h',j,e=>by
  simp only [setXs]
  exact length_setXs bs _ _ (j+1) (by rw [length_setX,length_setX,e])
theorem H.ext_get:∀ {h h':H},h.length=h'.length->(∀ i,getH h i=getH h' i)->h=h'
 | [],[],_,_=>rfl
 | [],_::_,hl,_=>by simp at hl
 | _::_,[],hl,_=>by simp at hl
 | a::r,a'::r',hl,hg=>by
  have h0:a=a':=hg 0
  rw [h0,H.ext_get (h:=r) (h':=r') (by simpa using hl) fun i=>hg (i+1)]
theorem setX_comm {i j:Nat} (hij:i≠j) (a b:Box) (h:H):setX (setX h i a) j b=setX (setX h j b) i a:=by
 refine H.ext_get (by simp only [length_setX];omega) fun k => ?_
 by_cases hk:k=j
 ·subst hk
  rw [getH_setX_same,getH_setX_ne _ _ _ _ hij,getH_setX_same]
 ·rw [getH_setX_ne _ _ _ _ (Ne.symm hk)]
  by_cases hk2:k=i
  ·subst hk2
   rw [getH_setX_same,getH_setX_same]
  ·rw [getH_setX_ne _ _ _ _ (Ne.symm hk2),getH_setX_ne _ _ _ _ (Ne.symm hk2),getH_setX_ne _ _ _ _ (Ne.symm hk)]
theorem beq_false {a b:Nat} (h:(!(Nat.beq a b))=true):a≠b:=by
 rintro rfl
 simp at h
theorem eff_comm {f g:FP} {e d:Eff} (hf:fpEff f e) (hg:fpEff g d) (hc:f.comm g=true) (h:H):e.app (d.app h)=d.app (e.app h):=by
 cases f <;> cases e <;> simp only [fpEff] at hf <;> cases g <;> cases d <;> simp only [fpEff] at hg <;> try rfl
 all_goals try (simp [FP.comm] at hc;done)
 all_goals
  subst hf hg
  exact setX_comm (Ne.symm (beq_false hc)) _ _ h
theorem comm_symm (f g:FP):f.comm g=g.comm f:=by
 have:∀ a b:Nat,Nat.beq a b=Nat.beq b a:=fun a b=>by
  cases h:Nat.beq a b with
  | true=>have:=beq_true h;subst this;simp
  | false=>
   cases h2:Nat.beq b a with
   | false=>rfl
   | true=>have:=beq_true h2;subst this;simp at h
 cases f <;> cases g <;> simp [FP.comm,this]
theorem eff_quiet {f g:FP} {d:Eff} (hg:fpEff g d) (hc:f.comm g=true) {h h':H} (hC:Cond f h h'):Cond f (d.app h) h':=by
  cases f with
  | pure=>trivial
  | ro=>cases g <;> cases d <;> simp only [fpEff] at hg <;> simp [FP.comm] at hc <;> exact hC
  | all=>cases g <;> cases d <;> simp only [fpEff] at hg <;> simp [FP.comm] at hc <;> exact hC
  | nw i=>cases g <;> cases d <;> simp only [fpEff] at hg <;> simp [FP.comm] at hc <;> exact hC
  | rd i=>
    cases g <;> cases d <;> simp only [fpEff] at hg <;> simp only [FP.comm] at hc <;> try exact hC
    all_goals try (cases hc;done)
    all_goals
      subst hg
      first
        | (have hne:=beq_false hc
           show getH (setX _ _ _) i=_
           rw [getH_setX_ne _ _ _ _ (Ne.symm hne)]
           exact hC)
        | (show getH (setXs _ _ _) i=_
           rw [getH_setXs_lt _ _ _ _ (Nat.le_of_ble_eq_true hc)]
           exact hC)
  | wr i=>
    cases g <;> cases d <;> simp only [fpEff] at hg <;> simp only [FP.comm] at hc <;> try exact hC
    all_goals try (cases hc;done)
    all_goals
      subst hg
      have hne:=beq_false hc
      show getH (setX _ _ _) i=_
      rw [getH_setX_ne _ _ _ _ (Ne.symm hne)]
      exact hC
theorem Cond.symm {f:FP} {h h':H} (c:Cond f h h'):Cond f h' h:=by
 cases f with
 | pure=>trivial
 | _=>exact Eq.symm c
theorem Cond.app {f:FP} {h h':H} (c:Cond f h h') (d:Eff):Cond f (d.app h) (d.app h'):=by
 have key:∀ i,getH h i=getH h' i->getH (d.app h) i=getH (d.app h') i:=fun i hc=>by
  cases d with
  | none=>exact hc
  | glob g=>exact rfl
  | set j b=>
   show getH (setX h j b) i=getH (setX h' j b) i
   by_cases hij:j=i
   ·subst hij
    rw [getH_setX_same,getH_setX_same]
   ·rw [getH_setX_ne _ _ _ _ hij,getH_setX_ne _ _ _ _ hij];exact hc
  | sets j bs=>exact getH_setXs_congr bs h h' i j hc
 cases f with
 | pure=>trivial
 | ro=>exact congrArg d.app c
 | all=>exact congrArg d.app c
 | rd i=>exact key i c
 | wr i=>exact key i c
 | nw i=>
  have c:h.length=h'.length:=c
  cases d with
  | none=>exact c
  | glob g=>exact rfl
  | set j b=>show (setX h j b).length=(setX h' j b).length;rw [length_setX,length_setX,c]
  | sets j bs=>exact length_setXs bs h h' j c
theorem Cond.refl (f:FP) (h:H):Cond f h h:=by
 cases f <;> first | trivial | rfl
section
variable {cx:Cx} {ops:Array Oper} {h0:H} {st0:St}
def SemNo (cx:Cx) (ops:Array Oper) (h0:H) (st0:St) (rs:List Rc) (r:Rc) (o:Oper):Prop:=
 r.t.dst=o.dst/\∀ X hL,Cond r.t.fp hL (heapL allL h0 rs)->∀ (rd:Option Nat) ρ a w (Q:Exit->Act->World->Prop) (K:Act->World->Prop),HR ρ X hL w->a.tmps.size=cx.nt->Marks ρ.base w a.defers->(∀ x∈r.t.reads,VR ρ hL w (Mut ρ X hL) (getL allL st0 rs x) (a.tmps.getD x undef))->
   (∀ v w',Post ρ X hL w r.sv (r.eff.app hL) v w'->K (a.put o.dst v) w')->wpOpIn (FR rd) 0 cx.P ops Q r.t.j K a w
def PB (P:Program) (w:World) (b:Nat) (v:Value):PK->Prop
 | .var e cs=>v = .pointer (some ⟨b,0,none⟩)/\cellsOf (zeroOf P e)=some cs/\∃ i z,P.info? e=some i/\i.zero=some z/\w.heap[b]? = some (.cells z.cells e (0,0))
 | .row sz l=>∃ cap cur ty,v = .slice (some ⟨b,0,none⟩) l.length cap/\w.heap[b]? = some (.cells cur ty (0,0))/\0<sz/\(∀ e∈l,e.length=sz)/\l.length<=LIM/\l.length<=cap/\cap*sz<=cur.size/\
   ∀ k j x,at2 l k j=some x->∃ u,cur[k*sz+j]? = some u/\plain u/\∀ w M,CR w M x u
def SemMk (cx:Cx) (ops:Array Oper) (st0:St) (rs:List Rc) (r:Rc) (o:Oper) (js d:Nat):Prop:=
 r.t.dst=none/\r.t.fp = .pure/\r.eff = .none/\o.dst=some d/\getL allL st0 rs d = .any/\nkAt cx ops js = .rd r.t.j d/\r.t.j<js/\(∀ j o',ops[j]? = some o'->j≠r.t.j->o'.dst≠some d)/\
  ∃ q,pkOf cx o=some q/\∀ (rd:Option Nat) ρ a w (Q:Exit->Act->World->Prop) (K:Act->World->Prop),HR ρ (fun _=>False) [] w->a.tmps.size=cx.nt->Marks ρ.base w a.defers->
   (∀ b v w',PB cx.P w' b v q->w.heap.size<=b->b<w'.heap.size->(∀ c,c<w.heap.size->w'.heap[c]? = w.heap[c]?)->w.heap.size<=w'.heap.size->SameIO w w'->K (a.put o.dst v) w')->wpOpIn (FR rd) 0 cx.P ops Q r.t.j K a w
def SemRd (cx:Cx) (ops:Array Oper) (h0:H) (st0:St) (rs:List Rc) (r:Rc) (o:Oper) (ja d:Nat):Prop:=
 r.t.fp = .all/\ja∈r.t.preds/\nkAt cx ops ja = .mk r.t.j d/\∃ q,(ops[ja]?).bind (pkOf cx)=some q/\r.t.dst=q.dst d o.dst/\(∀ e cs,q = .var e cs->o.dst=none)/\∃ sv,r.sv=q.val (heapL allL h0 rs).length sv/\
  ∀ X (rd:Option Nat) ρ a w (Q:Exit->Act->World->Prop) (K:Act->World->Prop),HR ρ X (heapL allL h0 rs++[q.box]) w->a.tmps.size=cx.nt->Marks ρ.base w a.defers->
   (∀ x∈r.t.reads,x≠d->VR ρ (heapL allL h0 rs++[q.box]) w (Mut ρ X (heapL allL h0 rs++[q.box])) (getL allL st0 rs x) (a.tmps.getD x undef))->
   VR ρ (heapL allL h0 rs++[q.box]) w (Mut ρ X (heapL allL h0 rs++[q.box])) (q.sv (heapL allL h0 rs).length) (a.tmps.getD d undef)->
   (∀ v w',Post ρ X (heapL allL h0 rs++[q.box]) w sv (r.eff.app (heapL allL h0 rs)) v w'->K (a.put o.dst v) w')->wpOpIn (FR rd) 0 cx.P ops Q r.t.j K a w
def SemOf (cx:Cx) (ops:Array Oper) (h0:H) (st0:St) (rs:List Rc) (r:Rc) (o:Oper):NK->Prop
 | .no=>SemNo cx ops h0 st0 rs r o
 | .mk js d=>SemMk cx ops st0 rs r o js d
 | .rd ja d=>SemRd cx ops h0 st0 rs r o ja d
def SemOK (cx:Cx) (ops:Array Oper) (h0:H) (st0:St) (rs:List Rc) (r:Rc):Prop:=
 ∃ o,ops[r.t.j]? = some o/\okD cx o=true/\r.t.preds=predsOf (rs.map (·.t)) o/\(∀ e∈bindsOf o,e<rs.length)/\SemOf cx ops h0 st0 rs r o (nkOf cx ops r.t.j o)
def Valid (cx:Cx) (ops:Array Oper) (h0:H) (st0:St):List Rc->Prop
 | []=>True
 | r::rs=>Valid cx ops h0 st0 rs/\r.t.j=rs.length/\okTr r.t (rs.map (·.t))=true/\fpEff r.t.fp r.eff/\SemOK cx ops h0 st0 rs r
theorem nkAt_some {o:Oper} {j:Nat} (h:ops[j]? = some o):nkAt cx ops j=nkOf cx ops j o:=by
 unfold nkAt;rw [h]
theorem Valid.lt:∀ (rs:List Rc),Valid cx ops h0 st0 rs->∀ k∈rs,k.t.j<rs.length:=by
 intro rs
 induction rs with
 | nil=>intro _ k hk;simp at hk
 | cons r rs ih=>
  intro hv k hk
  rcases List.mem_cons.1 hk with rfl | hk
  ·rw [hv.2.1];simp
  ·have:=ih hv.1 k hk;simp;omega
theorem Valid.tail {rs:List Rc}:∀ (F:List Rc),Valid cx ops h0 st0 (F++rs)->Valid cx ops h0 st0 rs:=by
 intro F
 induction F with
 | nil=>exact fun h=>h
 | cons f F ih=>exact fun h=>ih h.1
theorem Valid.pair {T:List Rc} {r k:Rc}:∀ (F:List Rc),Valid cx ops h0 st0 (F++r::T)->k∈F->unlike r.t.dst k.t.dst=true/\(r.t.j∈k.t.preds\/(r.t.fp.comm k.t.fp=true/\notIn r.t.dst k.t.reads=true/\notIn k.t.dst r.t.reads=true))/\fpEff k.t.fp k.eff:=by
 intro F
 induction F with
 | nil=>intro _ hk;simp at hk
 | cons f F ih=>
  intro hv hk
  rcases List.mem_cons.1 hk with rfl | hk
  ·obtain ⟨_,_,hok,hfe,_⟩:=hv
   have:=List.all_eq_true.1 hok r.t (by simp)
   simp only [Bool.and_eq_true,Bool.or_eq_true] at this
   refine ⟨this.1,?_,hfe⟩
   rcases this.2 with h | ⟨⟨h1,h2⟩,h3⟩
   ·exact .inl (memN_iff.1 h)
   ·exact .inr ⟨h1,h2,h3⟩
  ·exact ih hv.1 hk
theorem Valid.fe:∀ (rs:List Rc),Valid cx ops h0 st0 rs->∀ k∈rs,fpEff k.t.fp k.eff:=by
 intro rs
 induction rs with
 | nil=>intro _ k hk;simp at hk
 | cons r rs ih=>
  intro hv k hk
  rcases List.mem_cons.1 hk with rfl | hk
  ·exact hv.2.2.2.1
  ·exact ih hv.1 k hk
theorem notIn_spec {d:Option Nat} {l:List Nat} (h:notIn d l=true) {x:Nat} (hx:x∈l):d≠some x:=by
 rintro rfl
 simp only [notIn,Bool.not_eq_true'] at h
 rw [memN_iff.2 hx] at h
 cases h
theorem unlike_spec {a b:Option Nat} (h:unlike a b=true) {x:Nat} (ha:a=some x):b≠some x:=by
 rintro rfl
 subst ha
 simp [unlike] at h
theorem heapL_congr {L L':Nat->Bool}:∀ {rs:List Rc},(∀ k∈rs,L k.t.j=L' k.t.j)->heapL L h0 rs=heapL L' h0 rs
 | [],_=>rfl
 | r::rs,h=>by simp only [heapL,h r (by simp),heapL_congr (rs:=rs) fun k hk=>h k (by simp [hk])]
theorem getL_congr {L L':Nat->Bool} {x:Nat}:∀ {rs:List Rc},(∀ k∈rs,k.t.dst=some x->L k.t.j=L' k.t.j)->getL L st0 rs x=getL L' st0 rs x
 | [],_=>rfl
 | r::rs,h=>by
  simp only [getL,getL_congr (rs:=rs) fun k hk=>h k (by simp [hk])]
  by_cases hd:r.t.dst=some x
  ·simp [hd,h r (by simp) hd]
  ·simp [hd]
variable {L:Nat->Bool} {F T:List Rc} {r:Rc}
theorem cond_tail {f:FP} (hT:∀ k∈T,L k.t.j=false->f.comm k.t.fp=true) (hfe:∀ k∈T,fpEff k.t.fp k.eff):Cond f (heapL L h0 T) (heapL allL h0 T):=by
 induction T with
 | nil=>exact Cond.refl _ _
 | cons k T ih=>
  have ih:=ih (fun k hk=>hT k (by simp [hk])) (fun k hk=>hfe k (by simp [hk]))
  simp only [heapL,cond_true]
  cases hl:L k.t.j with
  | true=>exact ih.app k.eff
  | false=>exact (eff_quiet (hfe k (by simp)) (hT k (by simp) hl) ih.symm).symm
theorem cond_front {f:FP} {h':H} (hF:∀ k∈F,L k.t.j=true->f.comm k.t.fp=true) (hfe:∀ k∈F,fpEff k.t.fp k.eff) (hC:Cond f (heapL L h0 T) h'):Cond f (heapL L h0 (F++T)) h':=by
 induction F with
 | nil=>exact hC
 | cons k F ih=>
  have ih:=ih (fun k hk=>hF k (by simp [hk])) (fun k hk=>hfe k (by simp [hk]))
  simp only [List.cons_append,heapL]
  cases hl:L k.t.j with
  | true=>exact eff_quiet (hfe k (by simp)) (hF k (by simp) hl) ih
  | false=>exact ih
def addL (L:Nat->Bool) (j:Nat):Nat->Bool:=fun i=>if i=j then true else L i
theorem heap_step (hr:fpEff r.t.fp r.eff) (hjT:∀ k∈T,k.t.j≠r.t.j) (hjF:∀ k∈F,k.t.j≠r.t.j) (hL:L r.t.j=false) (hF:∀ k∈F,L k.t.j=true->r.t.fp.comm k.t.fp=true) (hfe:∀ k∈F,fpEff k.t.fp k.eff):
  heapL (addL L r.t.j) h0 (F++r::T)=r.eff.app (heapL L h0 (F++r::T)):=by
 induction F with
 | nil=>
  simp only [List.nil_append,heapL,hL,cond_false]
  have:addL L r.t.j r.t.j=true:=by simp [addL]
  rw [this,heapL_congr (L':=L) fun k hk=>by simp [addL,hjT k hk]]
  rfl
 | cons k F ih=>
  have ih:=ih (fun k hk=>hjF k (by simp [hk])) (fun k hk=>hF k (by simp [hk])) (fun k hk=>hfe k (by simp [hk]))
  have hk:addL L r.t.j k.t.j=L k.t.j:=by simp [addL,hjF k (by simp)]
  simp only [List.cons_append,heapL,hk,ih]
  cases hl:L k.t.j with
  | true=>exact (eff_comm hr (hfe k (by simp)) (hF k (by simp) hl) _).symm
  | false=>rfl
theorem get_step {x:Nat} (hjT:∀ k∈T,k.t.j≠r.t.j) (hjF:∀ k∈F,k.t.j≠r.t.j) (hd:∀ k∈F,r.t.dst=some x->k.t.dst≠some x):
  getL (addL L r.t.j) st0 (F++r::T) x=if r.t.dst=some x then r.sv else getL L st0 (F++r::T) x:=by
 induction F with
 | nil=>
  have:addL L r.t.j r.t.j=true:=by simp [addL]
  simp only [List.nil_append,getL,this,true_and]
  by_cases h:r.t.dst=some x
  ·simp [h]
  ·rw [if_neg h,if_neg h,if_neg (fun hh=>h hh.2)]
   exact getL_congr fun k hk _=>by simp [addL,hjT k hk]
 | cons k F ih=>
  have ih:=ih (fun k hk=>hjF k (by simp [hk])) (fun k hk=>hd k (by simp [hk]))
  have hk:addL L r.t.j k.t.j=L k.t.j:=by simp [addL,hjF k (by simp)]
  simp only [List.cons_append,getL,hk,ih]
  by_cases h:r.t.dst=some x
  ·have:=hd k (by simp) h
   simp [h,this]
  ·simp [h]
theorem get_reads {x:Nat} (hF:∀ k∈F,L k.t.j=true->k.t.dst≠some x) (hr:L r.t.j=false) (hT:∀ k∈T,k.t.dst=some x->L k.t.j=true):getL L st0 (F++r::T) x=getL allL st0 T x:=by
 induction F with
 | nil=>
  simp only [List.nil_append,getL,hr]
  rw [if_neg (by simp)]
  exact getL_congr fun k hk hd=>by simp [hT k hk hd]
 | cons k F ih=>
  have ih:=ih (fun k hk=>hF k (by simp [hk]))
  simp only [List.cons_append,getL,ih]
  by_cases hl:L k.t.j=true
  ·simp [hF k (by simp) hl]
  ·simp [hl]
theorem getL_any {L:Nat->Bool} {x:Nat} (h0:get st0 x = .any):∀ {rs:List Rc},(∀ k∈rs,L k.t.j=true->k.t.dst≠some x)->getL L st0 rs x = .any
 | [],_=>h0
 | r::rs,h=>by
  simp only [getL]
  rw [if_neg fun hh=>h r (by simp) hh.1 hh.2]
  exact getL_any h0 fun k hk=>h k (by simp [hk])
theorem getL_none {x:Nat}:∀ {rs:List Rc},(∀ k∈rs,k.t.dst≠some x)->getL allL st0 rs x=get st0 x
 | [],_=>rfl
 | r::rs,h=>by
  simp only [getL]
  rw [if_neg fun hh=>h r (by simp) hh.2]
  exact getL_none fun k hk=>h k (by simp [hk])
theorem HR.reveal {ρ:Env} {X X':Nat->Prop} {h:H} {w:World} {b:Nat} {v:Value} {P:Program} {q:PK} (hr:HR ρ X h w) (hb:X b) (hX:∀ c,X c↔X' c\/c=b) (hn:¬ X' b)
  (hz:PB P w b v q):∃ ρ',ρ'.base=ρ.base/\HR ρ' X' (h++[q.box]) w/\HExt ρ h ρ' (h++[q.box])/\
   (∀ c,Mut ρ' X' (h++[q.box]) c↔Mut ρ X h c)/\(∀ c,live ρ' (h++[q.box]) c->live ρ h c\/c=b)/\∀ M,VR ρ' (h++[q.box]) w M (q.sv h.length) v:=by
 refine ⟨ρ.push h.length v b,rfl,?_⟩
 have hag:=ρ.push_lt h.length v b
 have hkb:(ρ.push h.length v b).blk h.length=b:=by simp
 have hkc:(ρ.push h.length v b).cur h.length=v:=by simp
 have hex:HExt ρ h (ρ.push h.length v b) (h++[q.box]):=HExt.app _ rfl hag
 generalize ρ.push h.length v b=ρ' at*
 have hbo:bOf ρ' h.length q.box=some b/\isLive q.box=true:=by
  cases q with
  | var e cs=>exact ⟨by simp only [PK.box,bOf,hkb],rfl⟩
  | row sz l=>
   obtain ⟨cap,cur,ty,rfl,_⟩:=hz
   exact ⟨by simp only [PK.box,bOf,hkc],rfl⟩
 have hcase:∀ i,i<h.length/\getH (h++[q.box]) i=getH h i\/i=h.length/\getH (h++[q.box]) i=q.box\/getH (h++[q.box]) i = .dead:=fun i=>by
  by_cases h1:i<h.length
  ·exact .inl ⟨h1,getH_append_lt _ h1⟩
  ·by_cases h2:i=h.length
   ·subst h2;exact .inr (.inl ⟨rfl,getH_append_len h _⟩)
   ·exact .inr (.inr (getH_ge (by simp;omega)))
 have hof:∀ i c,bOf ρ' i (getH (h++[q.box]) i)=some c->i<h.length/\bOf ρ i (getH h i)=some c\/i=h.length/\c=b:=fun i c hi=>by
  rcases hcase i with ⟨h1,h2⟩ | ⟨rfl,h2⟩ | h2
  ·rw [h2,bOf_congr (hag i h1).1 (hag i h1).2] at hi;exact .inl ⟨h1,hi⟩
  ·rw [h2,hbo.1] at hi;cases hi;exact .inr ⟨rfl,rfl⟩
  ·rw [h2] at hi;cases hi
 have hlv:∀ c,live ρ' (h++[q.box]) c↔live ρ h c\/c=b:=fun c=>by
  constructor
  ·rintro ⟨i,h1,h2⟩
   rcases hof i c h2 with ⟨h3,h4⟩ | ⟨_,h4⟩
   ·exact .inl ⟨i,by rw [getH_append_lt _ h3] at h1;exact h1,h4⟩
   ·exact .inr h4
  ·rintro (⟨i,h1,h2⟩ | rfl)
   ·have hi:i<h.length:=by
     rcases Nat.lt_or_ge i h.length with hi | hi
     ·exact hi
     ·rw [getH_ge hi] at h2;cases h2
    exact ⟨i,by rw [getH_append_lt _ hi];exact h1,by rw [getH_append_lt _ hi,bOf_congr (hag i hi).1 (hag i hi).2];exact h2⟩
   ·exact ⟨h.length,by rw [getH_append_len];exact hbo.2,by rw [getH_append_len];exact hbo.1⟩
 have hM:∀ c,Mut ρ' X' (h++[q.box]) c↔Mut ρ X h c:=fun c=>by
  unfold Mut
  rw [hlv,hX]
  constructor
  ·rintro (h1 | h1 | h1)
   ·exact .inl (.inl h1)
   ·exact .inr h1
   ·exact .inl (.inr h1)
  ·rintro ((h1 | h1) | h1)
   ·exact .inl h1
   ·exact .inr (.inr h1)
   ·exact .inr (.inl h1)
 have hMe:Mut ρ' X' (h++[q.box])=Mut ρ X h:=funext fun c=>propext (hM c)
 refine ⟨⟨fun i => ?_,fun i j c hi hj => ?_,fun i c hi hx => ?_,fun c hx=>hr.xlt c ((hX c).2 (.inl hx)),by rw [hMe];exact hr.glob⟩,hex,hM,fun c hh=>(hlv c).1 hh,fun M => ?_⟩
 ·rcases hcase i with ⟨h1,h2⟩ | ⟨rfl,h2⟩ | h2
  ·rw [h2,hMe]
   exact (hr.box i).mono' hex (fun _ _ q=>q) (fun _ _ _ _ _=>(hag i h1).1) (fun _ _ _=>(hag i h1).2) fun _ _=>rfl
  ·rw [h2]
   cases q with
   | var e cs=>
    obtain ⟨_,hc,ti,z,g1,g2,g3⟩:=hz
    obtain ⟨ti',z',q1,q2,q3⟩:=zero_cells (ρ:=ρ') (h:=h++[.cells false cs]) (w:=w) (M:=Mut ρ' X' (h++[.cells false cs])) hc
    rw [g1] at q1;cases q1
    rw [g2] at q2;cases q2
    refine ⟨z.cells,e,by rw [hkb];exact g3,by rw [q3.1];exact Nat.le_refl _,fun j s hs => ?_⟩
    obtain ⟨hp,hv⟩:=q3.2 j s hs
    have hj:j<z.cells.size:=by rw [q3.1];exact (List.getElem?_eq_some_iff.1 hs).1
    exact ⟨z.cells[j],by simp [hj],by simpa [hj] using hp,by
     show VR ρ' (h++[.cells false cs]) w (Mut ρ' X' (h++[.cells false cs])) s _
     simpa [hj] using hv⟩
   | row sz l=>
    obtain ⟨cap,cur,ty,rfl,g1,g2,g3,g4,g5,g6,g7⟩:=hz
    refine ⟨g2,g3,g4,.inr ⟨b,cap,cur,ty,hkc,g1,g5,g6,fun k j x hx => ?_⟩⟩
    obtain ⟨u,hu,hp,hc⟩:=g7 k j x hx
    exact ⟨u,hu,hp,hc _ _⟩
  ·rw [h2];exact trivial
 ·rcases hof i c hi with ⟨h1,h2⟩ | ⟨rfl,rfl⟩
  ·rcases hof j c hj with ⟨h3,h4⟩ | ⟨_,rfl⟩
   ·exact hr.inj i j c h2 h4
   ·exact absurd hb (hr.out i _ h2)
  ·rcases hof j _ hj with ⟨h3,h4⟩ | ⟨rfl,_⟩
   ·exact absurd hb (hr.out j _ h4)
   ·rfl
 ·rcases hof i c hi with ⟨h1,h2⟩ | ⟨_,rfl⟩
  ·exact hr.out i c h2 ((hX c).2 (.inl hx))
  ·exact hn hx
 ·cases q with
  | var e cs=>
   obtain ⟨rfl,_⟩:=hz
   exact .ptr _ _ _ rfl (by simp) (by rw [hkb])
  | row sz l=>
   obtain ⟨cap,cur,ty,rfl,_⟩:=hz
   refine .acc _ _ _ rfl (by simp) fun ver' fr sz' l' hh => ?_
   rw [show (PK.row sz l).box = .acc 0 false sz l from rfl,getH_append_len] at hh
   cases hh
   exact ⟨Nat.le_refl _,fun _=>hkc.symm⟩
end
end Go.Ab

namespace Go.Ab
open Go
set_option maxRecDepth 100000
section
variable {cx:Cx} {ops:Array Oper} {h0:H} {st0:St}
theorem split_at {α:Type}:∀ (l:List α) (j:Nat),j<l.length->∃ F r T,l=F++r::T/\T.length=j:=by
 intro l j hj
 refine ⟨l.take (l.length - 1 - j),l[l.length - 1 - j]'(by omega),l.drop (l.length - 1 - j+1),?_,by simp;omega⟩
 rw [List.getElem_cons_drop,List.take_append_drop]
theorem mem_addN:∀ {xs acc:List Nat} {p:Nat},p∈addN xs acc->p∈xs\/p∈acc
 | [],acc,p,h => .inr h
 | x::xs,acc,p,h=>by
  simp only [addN] at h
  cases hm:memN x acc with
  | true=>
   rw [hm] at h
   exact (mem_addN h).imp (List.mem_cons_of_mem _) id
  | false=>
   rw [hm] at h
   rcases mem_addN h with h | h
   ·exact .inl (List.mem_cons_of_mem _ h)
   ·rcases List.mem_cons.1 h with h | h
    ·exact .inl (h ▸ List.mem_cons_self)
    ·exact .inr h
theorem predsAt_spec {tr:List Tr} {e p:Nat} (h:p∈predsAt tr e):∃ t∈tr,t.j=e/\p∈t.preds:=by
 induction tr with
 | nil=>simp [predsAt] at h
 | cons t tr ih=>
  simp only [predsAt] at h
  cases hb:Nat.beq t.j e with
  | true=>rw [hb] at h;exact ⟨t,by simp,beq_true hb,h⟩
  | false=>
   rw [hb] at h
   obtain ⟨t',h1,h2,h3⟩:=ih h
   exact ⟨t',by simp [h1],h2,h3⟩
theorem mem_bindsOf {o:Oper} {e:Nat}:e∈bindsOf o↔∃ x∈o.after,Region.binds .any x=true/\x.on=e:=by
 simp [bindsOf,and_assoc]
theorem count_set_true (l:Array Bool) (i:Nat) (h:l.getD i true=false):(l.setIfInBounds i true).toList.count false+1=l.toList.count false:=by
 have hi:i<l.size:=by
  rcases Nat.lt_or_ge i l.size with h' | h'
  ·exact h'
  ·simp [Array.getElem?_eq_none h'] at h
 have hv:l.toList[i]'(by simpa using hi)=false:=by simpa [hi] using h
 rw [Array.toList_setIfInBounds]
 have key:∀ (m:List Bool) (i:Nat) (hi:i<m.length),m[i]=false->(m.set i true).count false+1=m.count false:=by
  intro m
  induction m with
  | nil=>intro i hi;simp at hi
  | cons b m ih=>
   intro i hi hb
   cases i with
   | zero=>simp at hb;subst hb;simp
   | succ i=>
    have:=ih i (by simpa using hi) (by simpa using hb)
    simp only [List.set_cons_succ,List.count_cons]
    omega
 exact key _ _ _ hv
def XP (X:Nat->Prop) (B:Nat->Option Nat) (b:Nat):Prop:=X b\/∃ s,B s=some b
structure PI (cx:Cx) (ops:Array Oper) (X:Nat->Prop) (listed:Array Bool) (B:Nat->Option Nat) (n0:Nat) (a:Act) (w:World):Prop where
 lo:∀ s b,B s=some b->n0<=b/\b<w.heap.size/\listed.getD s false=false/\∃ ja d,nkAt cx ops s = .rd ja d
 inj:∀ s s' b,B s=some b->B s'=some b->s=s'
 nX:∀ s b,B s=some b->¬ X b
 pend:∀ s ja d q,nkAt cx ops s = .rd ja d->(ops[ja]?).bind (pkOf cx)=some q->listed.getD ja false=true->listed.getD s false=false->∃ b,B s=some b/\PB cx.P w b (a.tmps.getD d undef) q
theorem nkAt_lt {s:Nat} (h:nkAt cx ops s ≠ .no):s<ops.size:=by
 unfold nkAt at h
 cases hs:ops[s]? with
 | none=>rw [hs] at h;exact absurd rfl h
 | some o=>exact (Array.getElem?_eq_some_iff.1 hs).1
theorem Valid.recAt {RS:List Rc} (hv:Valid cx ops h0 st0 RS) (hn:RS.length=ops.size) {s:Nat} (h:nkAt cx ops s ≠ .no):
  ∃ k∈RS,∃ rs' o,k.t.j=s/\ops[s]? = some o/\SemOf cx ops h0 st0 rs' k o (nkAt cx ops s):=by
 have hs:s<ops.size:=nkAt_lt h
 obtain ⟨F,r,T,hRS,hT⟩:=split_at RS s (by rw [hn];exact hs)
 have hvr:Valid cx ops h0 st0 (r::T):=Valid.tail F (by rw [<- hRS];exact hv)
 obtain ⟨_,hrj,_,_,o,ho,_,_,_,hsem⟩:=hvr
 have hj:r.t.j=s:=by omega
 rw [hj] at ho hsem
 rw [nkAt_some ho]
 exact ⟨r,by rw [hRS];simp,T,o,hj,ho,hsem⟩
theorem Valid.rdr {RS:List Rc} (hv:Valid cx ops h0 st0 RS) (hn:RS.length=ops.size) {s ja d:Nat} (h:nkAt cx ops s = .rd ja d):
  ∃ k∈RS,∃ rs' o,k.t.j=s/\ops[s]? = some o/\SemRd cx ops h0 st0 rs' k o ja d:=by
 obtain ⟨k,hk,rs',o,h1,h2,h3⟩:=Valid.recAt hv hn (s:=s) (by rw [h];simp)
 rw [h] at h3
 exact ⟨k,hk,rs',o,h1,h2,h3⟩
theorem Valid.mkr {RS:List Rc} (hv:Valid cx ops h0 st0 RS) (hn:RS.length=ops.size) {s ja d:Nat} (h:nkAt cx ops ja = .mk s d):
  ∃ k∈RS,∃ rs' o,k.t.j=ja/\ops[ja]? = some o/\SemMk cx ops st0 rs' k o s d:=by
 obtain ⟨k,hk,rs',o,h1,h2,h3⟩:=Valid.recAt hv hn (s:=ja) (by rw [h];simp)
 rw [h] at h3
 exact ⟨k,hk,rs',o,h1,h2,h3⟩
theorem Valid.only {RS:List Rc} (hv:Valid cx ops h0 st0 RS) (hn:RS.length=ops.size) {s ja d:Nat} (h:nkAt cx ops s = .rd ja d) {j:Nat} {o:Oper} (ho:ops[j]? = some o) (hj:j≠ja):o.dst≠some d:=by
 obtain ⟨k,_,_,_,h1,_,_,_,hm,_⟩:=Valid.rdr hv hn h
 rw [h1] at hm
 obtain ⟨k2,_,_,_,h2,_,_,_,_,_,_,_,_,h3,_⟩:=Valid.mkr hv hn hm
 rw [h2] at h3
 exact h3 j o ho hj
theorem PB.keep {P:Program} {q:PK} {w w':World} {b:Nat} {v:Value} (h:PB P w b v q) (hk:w'.heap[b]? = w.heap[b]?):PB P w' b v q:=by
 cases q with
 | var e cs=>
  obtain ⟨h1,h2,i,z,h3,h4,h5⟩:=h
  exact ⟨h1,h2,i,z,h3,h4,hk.trans h5⟩
 | row sz l=>
  obtain ⟨cap,cur,ty,h1,h2,h3⟩:=h
  exact ⟨cap,cur,ty,h1,hk.trans h2,h3⟩
theorem put_none {a:Act} {v:Value}:a.put none v=a:=rfl
theorem wanted_none {o:Oper} (hg:o.guard=none) (y:Nat->Option Bool):Region.wanted o y=true:=by simp [Region.wanted,hg]
theorem any_order {rd:Option Nat} {RS:List Rc} (hv:Valid cx ops h0 st0 RS) (hn:RS.length=ops.size) {X:Nat->Prop} {ρ0:Env} {h00:H} {w0:World} {Q:Exit->Act->World->Prop}
  (hQ:∀ ρ a w,HR ρ X (heapL allL h0 RS) w->(∀ x,VR ρ (heapL allL h0 RS) w (Mut ρ X (heapL allL h0 RS)) (getL allL st0 RS x) (a.tmps.getD x undef))->a.tmps.size=cx.nt->Marks ρ.base w a.defers->Ext ρ0 h00 w0 ρ (heapL allL h0 RS) w->Q .normal a w):
  ∀ (fuel:Nat) (listed:Array Bool) (ρ:Env) (a:Act) (w:World) (B:Nat->Option Nat),listed.size=ops.size->listed.toList.count false<=fuel->(∀ k∈RS,listed.getD k.t.j false=true->∀ p∈k.t.preds,listed.getD p false=true)->
   HR ρ (XP X B) (heapL (fun j=>listed.getD j false) h0 RS) w->(∀ x,VR ρ (heapL (fun j=>listed.getD j false) h0 RS) w (Mut ρ (XP X B) (heapL (fun j=>listed.getD j false) h0 RS)) (getL (fun j=>listed.getD j false) st0 RS x) (a.tmps.getD x undef))->
   a.tmps.size=cx.nt->Marks ρ.base w a.defers->Ext ρ0 h00 w0 ρ (heapL (fun j=>listed.getD j false) h0 RS) w->PI cx ops X listed B w0.heap.size a w->wpAnyIn (FR rd) 0 cx.P .any ops Q fuel listed a w:=by

 have hall:∀ (listed:Array Bool),listed.size=ops.size->Region.ready .any ops listed=[]->∀ j,j<ops.size->listed.getD j false=true:=by
  intro listed hs hr j
  induction j using Nat.strongRecOn with
  | ind j ih=>
   intro hj
   cases hl:listed.getD j false with
   | true=>rfl
   | false=>
    exfalso
    obtain ⟨F,r,T,hRS,hT⟩:=split_at RS j (by rw [hn];exact hj)
    have hvr:Valid cx ops h0 st0 (r::T):=Valid.tail F (by rw [<- hRS];exact hv)
    obtain ⟨_,hrj,_,_,o,ho,_,_,hb,_⟩:=hvr
    have:j∈Region.ready .any ops listed:=by
     rw [mem_ready]
     refine ⟨?_,o,by rw [<- hT,<- hrj];exact ho,fun e he hbe => ?_⟩
     ·have:j<listed.size:=by omega
      simpa [this] using hl
     ·have:=hb e.on (mem_bindsOf.2 ⟨e,he,hbe,rfl⟩)
      exact ih e.on (by omega) (by omega)
    rw [hr] at this
    cases this
 have hfin:∀ (listed:Array Bool) (ρ:Env) (a:Act) (w:World) (B:Nat->Option Nat),(∀ j,j<ops.size->listed.getD j false=true)->HR ρ (XP X B) (heapL (fun j=>listed.getD j false) h0 RS) w->
   (∀ x,VR ρ (heapL (fun j=>listed.getD j false) h0 RS) w (Mut ρ (XP X B) (heapL (fun j=>listed.getD j false) h0 RS)) (getL (fun j=>listed.getD j false) st0 RS x) (a.tmps.getD x undef))->
   a.tmps.size=cx.nt->Marks ρ.base w a.defers->Ext ρ0 h00 w0 ρ (heapL (fun j=>listed.getD j false) h0 RS) w->PI cx ops X listed B w0.heap.size a w->Q .normal a w:=by
  intro listed ρ a w B hl hr hst hs hd e pi
  have hh:heapL (fun j=>listed.getD j false) h0 RS=heapL allL h0 RS:=heapL_congr fun k hk=>hl _ (by have:=Valid.lt RS hv k hk;omega)
  have hg:∀ x,getL (fun j=>listed.getD j false) st0 RS x=getL allL st0 RS x:=fun x=>getL_congr fun k hk _=>hl _ (by have:=Valid.lt RS hv k hk;omega)
  have hX:XP X B=X:=funext fun b=>propext ⟨fun h=>(by
   rcases h with h | ⟨s,h⟩
   ·exact h
   ·obtain ⟨_,_,h1,ja,d,h2⟩:=pi.lo s b h
    rw [hl s (nkAt_lt (by rw [h2];simp))] at h1;cases h1),.inl⟩
  rw [hh,hX] at hr hst
  rw [hh] at e
  exact hQ ρ a w hr (fun x=>by rw [<- hg x];exact hst x) hs hd e
 intro fuel
 induction fuel with
 | zero=>
  intro listed ρ a w B hs hc hcl hr hst hsz hd e pi
  have hl:∀ j,j<ops.size->listed.getD j false=true:=fun j hj=>by
   have h1:listed.toList.count false=0:=by omega
   rw [List.count_eq_zero] at h1
   have hj':j<listed.size:=by omega
   cases hv:listed[j] with
   | true=>simp [hj',hv]
   | false=>exact absurd (by rw [<- hv];simp) h1
  refine ⟨?_,hfin listed ρ a w B hl hr hst hsz hd e pi⟩
  cases hq:Region.ready .any ops listed with
  | nil=>rfl
  | cons i is=>
   have:i∈Region.ready .any ops listed:=by rw [hq];simp
   obtain ⟨h1,o,h2,_⟩:=mem_ready.1 this
   have hi:=(Array.getElem?_eq_some_iff.1 h2).1
   have:=hl i hi
   have hi':i<listed.size:=by omega
   simp [hi'] at h1 this
   rw [h1] at this
   cases this
 | succ fuel ih=>
  intro listed ρ a w B hs hc hcl hr hst hsz hd e pi
  refine ⟨fun hq=>hfin listed ρ a w B (hall listed hs hq) hr hst hsz hd e pi,fun i hi => ?_⟩
  obtain ⟨h1,o,ho,hbs⟩:=mem_ready.1 hi
  have hio:=(Array.getElem?_eq_some_iff.1 ho).1
  have hil:i<listed.size:=by omega
  have hLi:listed.getD i false=false:=by simp [hil] at h1 ⊢;exact h1
  obtain ⟨F,r,T,hRS,hT⟩:=split_at RS i (by omega)
  have hvr:Valid cx ops h0 st0 (F++r::T):=by rw [<- hRS];exact hv
  obtain ⟨hvT,hrj,hokr,hfe,o',ho',hokd,hpr,hbl,hsem⟩:=Valid.tail F hvr
  have hri:r.t.j=i:=by omega
  rw [hri,ho] at ho'
  cases ho'
  have hfeAll:=Valid.fe RS hv
  have hbL:∀ e∈bindsOf o,listed.getD e false=true:=fun e he=>by
   obtain ⟨x,hx,hb,rfl⟩:=mem_bindsOf.1 he
   exact hbs x hx hb
  have hpL:∀ p∈r.t.preds,listed.getD p false=true:=fun p hp=>by
   rw [hpr] at hp
   have hp:=mem_addN hp
   simp only [List.mem_flatMap,List.mem_cons,List.not_mem_nil,or_false] at hp
   obtain ⟨e,he,hp⟩:=hp
   rcases hp with rfl | hp
   ·exact hbL p he
   ·obtain ⟨t,ht,hte,hpt⟩:=predsAt_spec hp
    simp only [List.mem_map] at ht
    obtain ⟨k,hk,rfl⟩:=ht
    refine hcl k (by rw [hRS];simp [hk]) ?_ p hpt
    rw [hte];exact hbL e he
  have hF:∀ k∈F,listed.getD k.t.j false=true->r.t.fp.comm k.t.fp=true/\notIn k.t.dst r.t.reads=true:=fun k hk hl=>by
   obtain ⟨_,h2,_⟩:=Valid.pair F hvr hk
   rcases h2 with h2 | ⟨h2,_,h3⟩
   ·have:=hcl k (by rw [hRS];simp [hk]) hl r.t.j h2
    rw [hri,hLi] at this
    cases this
   ·exact ⟨h2,h3⟩
  have hTT:∀ k∈T,listed.getD k.t.j false=false->r.t.fp.comm k.t.fp=true/\notIn k.t.dst r.t.reads=true:=fun k hk hl=>by
   obtain ⟨F',T',hT'⟩:=List.append_of_mem hk
   have hv2:Valid cx ops h0 st0 ((F++r::F')++k::T'):=by
    have:=hvr
    rw [hT'] at this
    simpa using this
   obtain ⟨_,h2,_⟩:=Valid.pair (F++r::F') hv2 (k:=r) (by simp)
   rcases h2 with h2 | ⟨h2,h3,_⟩
   ·rw [hpL _ h2] at hl;cases hl
   ·exact ⟨by rw [comm_symm];exact h2,h3⟩
  have hjT:∀ k∈T,k.t.j≠r.t.j:=fun k hk=>by
   have:=Valid.lt T hvT k hk
   omega
  have hjF:∀ k∈F,k.t.j≠r.t.j:=fun k hk=>by
   obtain ⟨F1,F2,hF12⟩:=List.append_of_mem hk
   have hv2:Valid cx ops h0 st0 (k::(F2++r::T)):=Valid.tail F1 (by
    have:=hvr
    rw [hF12] at this
    simpa using this)
   have:=hv2.2.1
   simp at this
   omega
  have hcond:Cond r.t.fp (heapL (fun j=>listed.getD j false) h0 RS) (heapL allL h0 T):=by
   rw [hRS]
   refine cond_front (fun k hk hl=>(hF k hk hl).1) (fun k hk=>hfeAll k (by rw [hRS];simp [hk])) ?_
   have:heapL (fun j=>listed.getD j false) h0 (r::T)=heapL (fun j=>listed.getD j false) h0 T:=by
    simp only [heapL,hri,hLi,cond_false]
   rw [this]
   exact cond_tail (fun k hk hl=>(hTT k hk hl).1) (fun k hk=>hfeAll k (by rw [hRS];simp [hk]))
  have hreads:∀ x∈r.t.reads,getL (fun j=>listed.getD j false) st0 RS x=getL allL st0 T x:=fun x hx=>by
   rw [hRS]
   refine get_reads (fun k hk hl=>notIn_spec (hF k hk hl).2 hx) (by rw [hri];exact hLi) fun k hk hd => ?_
   cases hl:listed.getD k.t.j false with
   | true=>rfl
   | false=>exact absurd hd (notIn_spec (hTT k hk hl).2 hx)
  have hL':(fun j=>(listed.setIfInBounds i true).getD j false)=addL (fun j=>listed.getD j false) r.t.j:=by
   funext j
   rw [hri]
   by_cases hij:j=i
   ·subst hij;simp [addL,hil]
   ·simp [addL,hij,Array.getElem?_setIfInBounds_ne (Ne.symm hij)]
  have hstep:heapL (fun j=>(listed.setIfInBounds i true).getD j false) h0 RS=r.eff.app (heapL (fun j=>listed.getD j false) h0 RS):=by
   rw [hL',hRS]
   exact heap_step hfe hjT hjF (by rw [hri];exact hLi) (fun k hk hl=>(hF k hk hl).1) (fun k hk=>hfeAll k (by rw [hRS];simp [hk]))
  have hgstep:∀ x,getL (fun j=>(listed.setIfInBounds i true).getD j false) st0 RS x=if r.t.dst=some x then r.sv else getL (fun j=>listed.getD j false) st0 RS x:=fun x=>by
   rw [hL',hRS]
   exact get_step hjT hjF fun k hk hd=>unlike_spec (Valid.pair F hvr hk).1 hd
  have conv:∀ q,(listed.setIfInBounds i true).getD q false=true↔q=i\/listed.getD q false=true:=fun q=>by
   have:=congrFun hL' q
   rw [this,hri]
   by_cases hq:q=i <;> simp [addL,hq]
  have convF:∀ q,(listed.setIfInBounds i true).getD q false=false↔q≠i/\listed.getD q false=false:=fun q=>by
   have:=conv q
   cases h1:(listed.setIfInBounds i true).getD q false <;> cases h2:listed.getD q false <;> simp only [h1,h2] at this <;> simp at this ⊢ <;> exact this
  have hcl':∀ k∈RS,(listed.setIfInBounds i true).getD k.t.j false=true->∀ p∈k.t.preds,(listed.setIfInBounds i true).getD p false=true:=fun k hk hkl p hp=>by
   rw [conv] at hkl ⊢
   rcases hkl with hkl | hkl
   ·have hkr:k=r:=by
     rw [hRS] at hk
     rcases List.mem_append.1 hk with hk | hk
     ·exact absurd (by omega) (hjF k hk)
     ·rcases List.mem_cons.1 hk with hk | hk
      ·exact hk
      ·exact absurd (by omega) (hjT k hk)
    subst hkr
    exact .inr (hpL p hp)
   ·exact .inr (hcl k hk hkl p hp)
  have hcnt:(listed.setIfInBounds i true).toList.count false<=fuel:=by have:=count_set_true listed i h1;omega
  have hrm:r∈RS:=by rw [hRS];simp
  have hni:nkAt cx ops i=nkOf cx ops i o:=nkAt_some ho

  have hnl:∀ s b,B s=some b->¬ live ρ (heapL (fun j=>listed.getD j false) h0 RS) b:=fun s b hb ⟨q,_,h2⟩=>hr.out q b h2 (.inr ⟨s,hb⟩)
  have hdl:∀ {d},o.dst=some d->d<a.tmps.size:=fun hod=>by simp only [okD,hod] at hokd;rw [hsz];simpa [Nat.blt_eq] using hokd
  cases hnk:nkOf cx ops i o with
  | no=>
   rw [hri,hnk] at hsem
   obtain ⟨hdst,hsem⟩:=hsem
   rw [<- hri]
   refine hsem _ _ hcond rd ρ a w Q _ hr hsz hd (fun x hx=>by rw [<- hreads x hx];exact hst x) fun v w' hp => ?_
   obtain ⟨ρ',hr',hv',e'⟩:=hp
   rw [hri]
   refine ih (listed.setIfInBounds i true) ρ' (a.put o.dst v) w' B (by simpa using hs) hcnt hcl' (by rw [hstep];exact hr') (fun x => ?_) (by cases o.dst <;> simp [Act.put,hsz]) (by rw [show (a.put o.dst v).defers=a.defers by cases o.dst <;> rfl];exact hd.ext hr e') (by rw [hstep];exact e.trans e') ?_
   ·rw [hstep,hgstep x]
    cases hdd:o.dst with
    | none=>
     rw [hdst,hdd]
     simp only [reduceCtorEq,if_false]
     exact e'.vr (hst x)
    | some d=>
     rw [hdst,hdd]
     rw [put_getD (hdl hdd)]
     by_cases hx:x=d
     ·subst hx;simp only [if_true];exact hv'
     ·rw [if_neg hx,if_neg (fun hh=>hx (by injection hh with hh;exact hh.symm))]
      exact e'.vr (hst x)
   ·refine ⟨fun s b hb => ?_,pi.inj,pi.nX,fun s ja d q hs1 hq hs2 hs3 => ?_⟩
    ·obtain ⟨q1,q2,q3,ja,d,q4⟩:=pi.lo s b hb
     exact ⟨q1,Nat.lt_of_lt_of_le q2 e'.size,(convF s).2 ⟨fun hh=>(by rw [hh,hni,hnk] at q4;cases q4),q3⟩,ja,d,q4⟩
    ·have hja:ja≠i:=fun hh=>by
      obtain ⟨_,_,_,_,_,_,_,_,hm,_⟩:=Valid.rdr hv hn hs1
      rw [hh,hni,hnk] at hm;cases hm
     obtain ⟨b,hb,hbz⟩:=pi.pend s ja d q hs1 hq (((conv ja).1 hs2).resolve_left hja) ((convF s).1 hs3).2
     have hne:=Valid.only hv hn hs1 ho (Ne.symm hja)
     have htm:(a.put o.dst v).tmps.getD d undef=a.tmps.getD d undef:=by
      cases hdd:o.dst with
      | none=>rfl
      | some d'=>rw [put_getD (hdl hdd),if_neg fun hh=>hne (by rw [hdd,hh])]
     exact ⟨b,hb,by rw [htm];exact hbz.keep (e'.keep b (pi.lo s b hb).2.1 (hnl s b hb))⟩
  | mk js d=>
   rw [hri,hnk] at hsem
   obtain ⟨hdst,hfp,heff,hod,hany,hjs,hlt,hnod,q,hq,hmake⟩:=hsem
   rw [hri] at hjs hlt hnod
   obtain ⟨k,hk,rs',o2,hkj,ho2,hks⟩:=Valid.rdr hv hn hjs
   obtain ⟨_,hkp,_⟩:=hks
   have hjsL:listed.getD js false=false:=by
    cases hq:listed.getD js false with
    | false=>rfl
    | true=>
     have:=hcl k hk (by rw [hkj];exact hq) i hkp
     rw [hLi] at this;cases this

   have hwho:∀ q∈RS,q.t.dst=some d->q.t.j=js:=fun q hq hqd=>by
    obtain ⟨F2,T2,hF2⟩:=List.append_of_mem hq
    have hvq:Valid cx ops h0 st0 (q::T2):=Valid.tail F2 (by rw [<- hF2];exact hv)
    obtain ⟨_,hqj,_,_,oq,hoq,_,_,_,hsq⟩:=hvq
    rw [<- nkAt_some hoq] at hsq
    cases hnq:nkAt cx ops q.t.j with
    | no=>
     rw [hnq] at hsq
     have hqi:q.t.j≠i:=fun hh=>by rw [hh,hni,hnk] at hnq;cases hnq
     exact absurd (hsq.1 ▸ hqd) (hnod _ oq hoq hqi)
    | mk a b=>rw [hnq] at hsq;rw [hsq.1] at hqd;cases hqd
    | rd ja2 d2=>
     have hnq':=hnq
     rw [hnq] at hsq
     obtain ⟨_,_,hm2,q2,hq2,hd2,_⟩:=hsq
     rw [hd2] at hqd
     obtain ⟨k3,hk3,rs3,o3,h31,h32,h33⟩:=Valid.mkr hv hn hm2
     have hod3:=h33.2.2.2.1
     cases q2 with
     | row sz l=>
      have hqi:q.t.j≠i:=fun hh=>by rw [hh,hni,hnk] at hnq;cases hnq
      exact absurd hqd (hnod _ oq hoq hqi)
     | var e cs=>
      have hdd:d2=d:=by injection hqd
      by_cases hji:ja2=i
      ·rw [hji,hni,hnk] at hm2
       injection hm2 with g1 g2
       exact g1.symm
      ·exact absurd (by rw [hod3,hdd]) (hnod _ o3 h32 hji)
   have hsd:get st0 d = .any:=by
    rw [<- hany]
    refine (getL_none fun q hq hqd => ?_).symm
    have hqj:=Valid.lt T hvT q hq
    have:=hwho q (by rw [hRS];simp [hq]) hqd
    omega
   have hhl:heapL (fun j=>(listed.setIfInBounds i true).getD j false) h0 RS=heapL (fun j=>listed.getD j false) h0 RS:=by rw [hstep,heff];rfl
   have hr0:HR ρ (fun _=>False) [] w:=⟨fun i=>trivial,fun i j b hb=>by simp [getH,bOf] at hb,fun i b hb=>by simp [getH,bOf] at hb,fun b hb=>hb.elim,hr.glob.mono (Nat.le_refl _) (fun _ _ _=>rfl) fun b _ hb=>by
    rcases hb with hb | ⟨i,hb,_⟩
    ·exact hb.elim
    ·simp [getH,isLive] at hb⟩
   rw [<- hri]
   refine hmake rd ρ a w Q _ hr0 hsz hd fun b v w' hpb hb1 hb2 hold hws hio => ?_
   rw [hri]
   let B':Nat->Option Nat:=fun s=>if s=js then some b else B s
   have e1:Ext ρ (heapL (fun j=>listed.getD j false) h0 RS) w ρ (heapL (fun j=>listed.getD j false) h0 RS) w':=⟨HExt.refl _ _,hws,fun c hc _=>hold c hc,fun _ _ hl=>hl,hio⟩
   have hXP:∀ c,c<w.heap.size->XP X B' c->XP X B c:=fun c hc h=>by
    rcases h with h | ⟨s,h⟩
    ·exact .inl h
    ·simp only [B'] at h
     split at h
     ·cases h;omega
     ·exact .inr ⟨s,h⟩
   have hcr:∀ x v,CR w (Mut ρ (XP X B) (heapL (fun j=>listed.getD j false) h0 RS)) x v->CR w' (Mut ρ (XP X B') (heapL (fun j=>listed.getD j false) h0 RS)) x v:=fun x v hx=>
    hx.mono hws (fun c hc _=>hold c hc) fun c hc hm=>hm.imp (hXP c hc) id
   refine ih (listed.setIfInBounds i true) ρ _ w' B' (by simpa using hs) hcnt hcl' (by
    rw [hhl]
    refine ⟨fun q=>(hr.box q).mono' (HExt.refl _ _) hcr (fun _ _ _ _ _=>rfl) (fun _ _ _=>rfl) fun c hc=>hold c (hr.lt hc),hr.inj,fun q c hq hx => ?_,fun c hx => ?_,hr.glob.mono hws (fun c hc _=>hold c hc) fun c hc hm=>hm.imp (hXP c hc) id⟩
    ·exact hr.out q c hq (hXP c (hr.lt hq) hx)
    ·rcases hx with hx | ⟨s,hx⟩
     ·exact Nat.lt_of_lt_of_le (hr.xlt c (.inl hx)) hws
     ·simp only [B'] at hx
      split at hx
      ·cases hx;exact hb2
      ·exact Nat.lt_of_lt_of_le (hr.xlt c (.inr ⟨s,hx⟩)) hws) (fun x => ?_) (by rw [hod];simp [Act.put,hsz]) (by rw [hod];exact hd.ext hr e1) (by rw [hhl];exact e.trans e1) ?_
   ·rw [hhl,hod,put_getD (hdl hod),hgstep x,hdst]
    simp only [reduceCtorEq,if_false]
    by_cases hx:x=d
    ·subst hx
     rw [getL_any hsd fun q hq hql hqd => ?_]
     ·exact .any _
     ·rw [hwho q hq hqd] at hql
      simp only [hjsL] at hql;cases hql
    ·rw [if_neg hx]
     exact (hst x).mono (HExt.refl _ _) hcr
   ·refine ⟨fun s c hc => ?_,fun s s' c hc hc' => ?_,fun s c hc hx => ?_,fun s ja2 d2 q2 hs1 hq2 hs2 hs3 => ?_⟩
    ·simp only [B'] at hc
     split at hc
     ·rename_i hsj
      cases hc
      exact ⟨Nat.le_trans e.size hb1,hb2,(convF s).2 ⟨by omega,by rw [hsj];exact hjsL⟩,i,d,by rw [hsj];exact hjs⟩
     ·obtain ⟨q1,q2,q3,ja,d,q4⟩:=pi.lo s c hc
      exact ⟨q1,Nat.lt_of_lt_of_le q2 hws,(convF s).2 ⟨fun hh=>(by rw [hh,hni,hnk] at q4;cases q4),q3⟩,ja,d,q4⟩
    ·simp only [B'] at hc hc'
     split at hc <;> split at hc'
     ·omega
     ·cases hc;have:=(pi.lo s' _ hc').2.1;omega
     ·cases hc';have:=(pi.lo s _ hc).2.1;omega
     ·exact pi.inj s s' c hc hc'
    ·simp only [B'] at hc
     split at hc
     ·cases hc;have:=hr.xlt _ (.inl hx);omega
     ·exact pi.nX s c hc hx
    ·by_cases hsj:s=js
     ·rw [hsj,hjs] at hs1
      injection hs1 with g1 g2
      subst g1 g2
      rw [ho,Option.bind_some,hq] at hq2
      cases hq2
      exact ⟨b,by simp [B',hsj],by rw [hod,put_getD (hdl hod),if_pos rfl];exact hpb⟩
     ·have hja:ja2≠i:=fun hh=>by
       obtain ⟨_,_,_,_,h21,_,_,_,hm,_⟩:=Valid.rdr hv hn hs1
       rw [hh,hni,hnk] at hm
       injection hm with g1 g2
       exact hsj (by rw [<- h21,g1])
      obtain ⟨c,hc,hcz⟩:=pi.pend s ja2 d2 q2 hs1 hq2 (((conv ja2).1 hs2).resolve_left hja) ((convF s).1 hs3).2
      have hne:=Valid.only hv hn hs1 ho (Ne.symm hja)
      refine ⟨c,by simp [B',hsj,hc],?_⟩
      rw [hod,put_getD (hdl hod),if_neg fun hh=>hne (by rw [hod,hh])]
      exact hcz.keep (hold c (pi.lo s c hc).2.1)
  | rd ja d=>
   rw [hri,hnk] at hsem
   obtain ⟨hfp,hjp,hjm,q,hq,hdst,hvar,sv,hsv,hsem⟩:=hsem
   obtain ⟨b,hb,hbz⟩:=pi.pend i ja d q (by rw [hni,hnk]) hq (hpL ja hjp) hLi
   rw [hfp] at hcond
   have hcond:heapL (fun j=>listed.getD j false) h0 RS=heapL allL h0 T:=hcond
   let B':Nat->Option Nat:=fun s=>if s=i then none else B s
   have hXP:∀ c,XP X B c↔XP X B' c\/c=b:=fun c=>by
    constructor
    ·rintro (h | ⟨s,h⟩)
     ·exact .inl (.inl h)
     ·by_cases hsi:s=i
      ·subst hsi;rw [hb] at h;cases h;exact .inr rfl
      ·exact .inl (.inr ⟨s,by simp [B',hsi,h]⟩)
    ·rintro ((h | ⟨s,h⟩) | rfl)
     ·exact .inl h
     ·simp only [B'] at h
      split at h
      ·cases h
      ·exact .inr ⟨s,h⟩
     ·exact .inr ⟨i,hb⟩
   have hnb:¬ XP X B' b:=by
    rintro (h | ⟨s,h⟩)
    ·exact pi.nX i b hb h
    ·simp only [B'] at h
     split at h
     ·cases h
     ·rename_i hsi;exact hsi (pi.inj s i b h hb)
   obtain ⟨ρ1,hbase,hr1,hex,hM,hlv,hvd⟩:=HR.reveal hr (.inr ⟨i,hb⟩) hXP hnb hbz
   have hMe:Mut ρ1 (XP X B') (heapL (fun j=>listed.getD j false) h0 RS++[q.box])=Mut ρ (XP X B) (heapL (fun j=>listed.getD j false) h0 RS):=funext fun c=>propext (hM c)
   have hst1:∀ x,VR ρ1 (heapL (fun j=>listed.getD j false) h0 RS++[q.box]) w (Mut ρ1 (XP X B') (heapL (fun j=>listed.getD j false) h0 RS++[q.box])) (getL (fun j=>listed.getD j false) st0 RS x) (a.tmps.getD x undef):=fun x=>by
    rw [hMe];exact (hst x).mono hex fun _ _ q=>q
   have e1:Ext ρ0 h00 w0 ρ1 (heapL (fun j=>listed.getD j false) h0 RS++[q.box]) w:=⟨e.toHExt.trans hex,e.size,e.keep,fun c hc hl=>by
    rcases hlv c hl with hl | rfl
    ·exact e.lives c hc hl
    ·have:=(pi.lo i _ hb).1;omega,e.io⟩
   rw [<- hri]
   rw [<- hcond] at hsem hsv
   refine hsem (XP X B') rd ρ1 a w Q _ hr1 hsz (by rw [hbase];exact hd) (fun x hx _=>by rw [<- hreads x hx];exact hst1 x) (hvd _) fun v w' hp => ?_
   obtain ⟨ρ',hr',hv',e'⟩:=hp
   rw [hri]
   refine ih (listed.setIfInBounds i true) ρ' (a.put o.dst v) w' B' (by simpa using hs) hcnt hcl' (by rw [hstep];exact hr') (fun x => ?_) (by cases o.dst <;> simp [Act.put,hsz]) (by rw [show (a.put o.dst v).defers=a.defers by cases o.dst <;> rfl];exact Marks.ext hr1 e' (by rw [hbase];exact hd)) (by rw [hstep];exact e1.trans e') ?_
   ·rw [hstep,hgstep x]
    cases q with
    | var te cs=>
     have hd2:r.t.dst=some d:=hdst
     have hs2:r.sv = .ptr (heapL (fun j=>listed.getD j false) h0 RS).length 0:=hsv
     rw [hvar te cs rfl,hd2,hs2,put_none]
     by_cases hx:x=d
     ·subst hx
      rw [if_pos rfl]
      exact e'.vr (hvd _)
     ·rw [if_neg fun hh=>hx (by injection hh with hh;exact hh.symm)]
      exact e'.vr (hst1 x)
    | row sz l=>
     have hd2:r.t.dst=o.dst:=hdst
     have hs2:r.sv=sv:=hsv
     rw [hd2,hs2]
     cases hdd:o.dst with
     | none=>
      simp only [reduceCtorEq,if_false]
      exact e'.vr (hst1 x)
     | some d'=>
      rw [put_getD (hdl hdd)]
      by_cases hx:x=d'
      ·subst hx;simp only [if_true];exact hv'
      ·rw [if_neg hx,if_neg (fun hh=>hx (by injection hh with hh;exact hh.symm))]
       exact e'.vr (hst1 x)
   ·refine ⟨fun s c hc => ?_,fun s s' c hc hc' => ?_,fun s c hc => ?_,fun s ja2 d2 q2 hs1 hq2 hs2 hs3 => ?_⟩
    ·simp only [B'] at hc
     split at hc
     ·cases hc
     ·rename_i hsi
      obtain ⟨q1,q2,q3,q4⟩:=pi.lo s c hc
      exact ⟨q1,Nat.lt_of_lt_of_le q2 e'.size,(convF s).2 ⟨hsi,q3⟩,q4⟩
    ·simp only [B'] at hc hc'
     split at hc <;> split at hc' <;> first | (cases hc;done) | (cases hc';done) | exact pi.inj s s' c hc hc'
    ·simp only [B'] at hc
     split at hc
     ·cases hc
     ·exact pi.nX s c hc
    ·have hja:ja2≠i:=fun hh=>by
      obtain ⟨_,_,_,_,_,_,_,_,hm,_⟩:=Valid.rdr hv hn hs1
      rw [hh,hni,hnk] at hm
      cases hm
     obtain ⟨hsi,hs3⟩:=(convF s).1 hs3
     obtain ⟨c,hc,hcz⟩:=pi.pend s ja2 d2 q2 hs1 hq2 (((conv ja2).1 hs2).resolve_left hja) hs3
     have hne:=Valid.only hv hn hs1 ho (Ne.symm hja)
     have htm:(a.put o.dst v).tmps.getD d2 undef=a.tmps.getD d2 undef:=by
      cases hdd:o.dst with
      | none=>rfl
      | some d'=>rw [put_getD (hdl hdd),if_neg fun hh=>hne (by rw [hdd,hh])]
     refine ⟨c,by simp [B',hsi,hc],?_⟩
     rw [htm]
     refine hcz.keep (e'.keep c (pi.lo s c hc).2.1 fun hl => ?_)
     rcases hlv c hl with hl | rfl
     ·exact hnl s c hc hl
     ·exact hsi (pi.inj s i _ hc hb)
end
end Go.Ab
