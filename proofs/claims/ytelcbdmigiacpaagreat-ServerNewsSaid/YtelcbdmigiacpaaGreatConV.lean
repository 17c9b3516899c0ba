import Derived.Test.YtelcbdmigiacpaaGreatConQ
import Derived.Laws.IdiomRangeMap
set_option linter.all false
namespace Go.Sp
open Go
theorem run_getI {P:Program} {w:World} {b:Nat} {r:Option Nat} {c d:Nat} {a:Array Nat} (h:w.heap[b]? = some (.mapIter r c a d)):(getObj b).run P w = .ok (.mapIter r c a d) w:=by simp [getObj,Sem.run,h]
theorem run_setI {P:Program} {w:World} {b:Nat} {r:Option Nat} {c d:Nat} {a:Array Nat} {o':Obj} (h:w.heap[b]? = some (.mapIter r c a d)):(setObj b o').run P w = .ok () { w with heap:=w.heap.setIfInBounds b o' }:=by simp [setObj,Sem.run,h]
theorem run_next {P:Program} {w:World} {b r clock:Nat} {seen:Array Nat} {es:Array MapEntry} {ty:TypeId} (hb:w.heap[b]? = some (.mapIter (some r) clock seen clock)) (hr:w.heap[r]? = some (.map es clock)) (hold:∀ x∈es.toList,x.born < clock):
  ((leftOf es seen).size = 0∧(Instr.next (.pointer (some ⟨b,0,none⟩)) false ty).run P w = .ok (.tuple #[.bool false]) w)∨
  ∃ e∈(leftOf es seen).toList,∃ n,w.drawn≤n∧(Instr.next (.pointer (some ⟨b,0,none⟩)) false ty).run P w = .ok (.tuple #[.bool true,e.key,e.val]) { w with drawn:=n,heap:=w.heap.setIfInBounds b (.mapIter (some r) clock (seen.push e.born) clock) }:=by
 simp only [Instr.next,Sem.run_bind,run_getI hb,run_getMap hr,Result.andThen_ok,next_test_false seen es clock clock hold (Nat.le_refl _),Bool.false_eq_true,if_false]
 unfold leftOf
 have hmem:∀ x∈(Array.filter (fun e=>!seen.contains e.born) es).toList,x.born < clock:=fun x hx=>hold x (by simp at hx ⊢; exact hx.1)
 generalize Array.filter (fun e=>!seen.contains e.born) es = L at hmem ⊢
 have e1:L.filter (fun x=>decide (x.born < clock)) = L:=Array.filter_eq_self.2 (fun x hx=>by simpa using hmem x (by simpa using hx))
 have e2:L.filter (fun x=>decide (x.born ≥ clock)) = #[]:=by
  rw [Array.filter_eq_empty_iff]
  intro x hx
  have:=hmem x (by simpa using hx)
  simp
  omega
 simp only [e1,e2,Array.append_empty]
 by_cases h0:L.size = 0
 ·left
  have:L = #[]:=Array.eq_empty_of_size_eq_zero h0
  subst this
  refine ⟨rfl,?_⟩
  simp [choose,Sem.run,Question.forced]
 ·right
  have hne:L.isEmpty = false:=by simp [Array.isEmpty,h0]
  simp only [hne,Bool.false_eq_true,if_false,Array.empty_append,Array.size_map]
  have hch:∃ (j n:Nat),j < L.size∧w.drawn≤n∧(choose (Question.mapNext L.size)).run P w = .ok j { w with drawn:=n }:=by
   by_cases hf:L.size≤1
   ·exact ⟨0,w.drawn,by omega,Nat.le_refl _,by simp [choose,Sem.run,Question.forced,hf]⟩
   ·exact ⟨_,w.drew.drawn,Nat.mod_lt _ (by omega),Nat.le_succ _,by
     simp only [choose,Sem.run,Question.forced,decide_eq_true_eq,hf,if_false,Question.cut]
     rfl⟩
  obtain ⟨j,n,hj,hn,hrun⟩:=hch
  refine ⟨L[j],by simp,n,hn,?_⟩
  simp only [hrun,Array.getElem?_map,Array.getElem?_eq_getElem hj,Option.map_some,Sem.run_bind,Result.andThen]
  rw [run_setI (w:={ w with drawn:=n }) hb]
  rfl
section
variable {κ α:Type} [DecidableEq κ]
def brn (es:List MapEntry) (i:Nat):Nat:=(es.getD i default).born
def rng (kv:κ→Value) (vp:α→VP) (v it:Value) (m:List (κ×α)) (is:List Nat):As:=
 ⟨fun R mem=>∃ r clock b,∃ es:List MapEntry,v = .map (some r)∧it = .pointer (some ⟨b,0,none⟩)∧mem = [(b,.mapIter (some r) clock (is.map (brn es)).toArray clock),(r,.map es.toArray clock)]∧Ents kv vp R m es∧es.Pairwise (fun a b=>a.born < b.born)∧(∀ e∈es,e.born < clock)∧is.Nodup∧∀ i∈is,i < m.length,
 fun hR ⟨r,clock,b,es,e,e2,hm,h,h2,h3,h4,h5⟩=>⟨r,clock,b,es,e,e2,hm,All2.imp (fun ka _ k=>⟨k.1,(vp ka.2).mono hR k.2⟩) h,h2,h3,h4,h5⟩⟩
theorem born_inj {es:List MapEntry} (h:es.Pairwise (fun a b=>a.born < b.born)) {i j:Nat} (hi:i < es.length) (hj:j < es.length) (e:es[i].born = es[j].born):i = j:=by
 rcases Nat.lt_trichotomy i j with h1 | h1 | h1
 ·have:=List.pairwise_iff_getElem.1 h i j hi hj h1; omega
 ·exact h1
 ·have:=List.pairwise_iff_getElem.1 h j i hj hi h1; omega
theorem brn_at {es:List MapEntry} {i:Nat} (h:i < es.length):brn es i = es[i].born:=by
 unfold brn; rw [List.getD_eq_getElem?_getD,List.getElem?_eq_getElem h]; rfl
theorem left_mem {es:List MapEntry} {is:List Nat} (h:es.Pairwise (fun a b=>a.born < b.born)) (his:∀ i∈is,i < es.length) {e:MapEntry}:e∈(leftOf es.toArray (is.map (brn es)).toArray).toList↔∃ i,∃ hi:i < es.length,es[i] = e∧i ∉ is:=by
 unfold leftOf
 simp only [List.filter_toArray,List.mem_filter,Bool.not_eq_true',List.contains_eq_mem,List.mem_toArray,List.contains_toArray,decide_eq_false_iff_not,List.mem_map,not_exists,not_and]
 constructor
 ·rintro ⟨h1,h2⟩
  obtain ⟨i,hi,rfl⟩:=List.mem_iff_getElem.1 h1
  exact ⟨i,hi,rfl,fun hm=>h2 i hm (brn_at hi)⟩
 ·rintro ⟨i,hi,rfl,hn⟩
  refine ⟨List.getElem_mem hi,fun j hj e=>?_⟩
  rw [brn_at (his j hj)] at e
  exact hn (born_inj h (his j hj) hi e ▸ hj)
end
section
variable {P:Program} {ops:Array Oper} {n:Nat} {dr:Bool} {R0:Fz} {K:KU} {E:Env} {l:List As} {pend:List (Nat×(List As→Prop))} {rest:List (Nat×Bool)} {i d:Nat}
variable {T:TypeId} {ps:String} {af:Array Edge} {g:Option (Nat×Bool)} {x y:Operand} {κ α:Type} [DecidableEq κ] {kv:κ→Value} {vp:α→VP} {v it:Value} {m:List (κ×α)} {is:List Nat}
theorem Dv.rgb {t kt et:TypeId} {jj:Nat} (ho:opAt ops.toList i = some ⟨some d,.range t x,T,ps,af,g⟩) (hg:GOn ops E g) (hx:opv E x = some (eq v)) (hjj:l[jj]? = some (mp kv vp v m)) (hu:P.underlying t = some (.map kt et))
  (hp:dr = true→∀ z∈pend,((Region.before ops).getD i 0).testBit z.1 = true∨∀ q:OV,z.2 (l.set jj (rng kv vp v q.1 m [])))
  (h:∀ q:OV,Dv P ops n dr R0 K ((d,eq q.1)::E) (l.set jj (rng kv vp v q.1 m [])) pend rest) (hkb:K.bar E l pend ((i,true)::rest):=by first | exact trivial | assumption):Dv P ops n dr R0 K E l pend ((i,true)::rest):=
 .bar _ (γ:=OV) (fun _=>True) (fun q=>eq q.1) (fun q=>l.set jj (rng kv vp v q.1 m [])) (at_of ho) (OpBar.val hg fun R a w h hst=>by
  have e1:=h x (by simp [Op.operands]) _ hx
  simp only [eq_p] at e1
  obtain ⟨mem,⟨r,clock,es,e,hm,he,hpw,hcl⟩,hk2⟩:=hst.opn hjj
  subst hm
  have hh:=(Stm.base hk2).get
  refine ⟨⟨.pointer (some ⟨w.heap.size,0,none⟩),rfl⟩,R,_,{ w with heap:=w.heap.push (.mapIter (some r) clock #[] clock) },trivial,Fz.le_refl R,rfl,St.shut hjj ⟨r,clock,w.heap.size,es,e,rfl,rfl,he,hpw,hcl,List.nodup_nil,fun i hi=>by cases hi⟩ (Stm.to (Fz.le_refl R) (fun x hx=>hx.alloc _) hk2),?_⟩
  simp [execOp,Instr.range,e1,e,run_underlying hu,run_getMap hh]) (fun e z hz=>(hp e z hz).imp id fun h b _=>h b) (fun b _=>h b) hkb
def nxV (kv:κ→Value) (vp:α→VP) (m:List (κ×α)):Option Nat→VP
 | none=>tup [eq (.bool false)]
 | some j=>match m[j]? with | some e=>tup [eq (.bool true),eq (kv e.1),vp e.2] | none=>eq undef
def nxL (is:List Nat):Option Nat→List Nat
 | none=>is
 | some j=>is++[j]
def nxOk (m:List (κ×α)) (is:List Nat):Option Nat→Prop
 | none=>is.Perm (List.range m.length)
 | some j=>j < m.length∧j ∉ is∧is.length < m.length
theorem nodup_perm_range {is:List Nat} {n:Nat} (h:is.Nodup) (h1:∀ i∈is,i < n) (h2:∀ i,i < n→i∈is):is.Perm (List.range n):=
 (List.perm_ext_iff_of_nodup h List.nodup_range).2 fun a=>⟨fun ha=>List.mem_range.2 (h1 a ha),fun ha=>h2 a (List.mem_range.1 ha)⟩
theorem nodup_len {is:List Nat} {n:Nat} (h:is.Nodup) (h1:∀ i∈is,i < n) {j:Nat} (hj:j < n) (hn:j ∉ is):is.length < n:=by
 have hp:(j::is).Perm ((List.range n).filter fun i=>decide (i∈j::is)):=(List.perm_ext_iff_of_nodup (List.nodup_cons.2 ⟨hn,h⟩) (List.nodup_range.filter _)).2 fun a=>by
  rw [List.mem_filter,List.mem_range,decide_eq_true_eq]
  exact ⟨fun ha=>⟨(List.mem_cons.1 ha).elim (fun e=>e ▸ hj) (h1 a),ha⟩,fun ha=>ha.2⟩
 have h2:=hp.length_eq
 have h3:=List.length_filter_le (fun i=>decide (i∈j::is)) (List.range n)
 rw [List.length_range] at h3
 rw [List.length_cons] at h2
 omega
theorem Dv.rgn {ty:TypeId} {jj:Nat} (ho:opAt ops.toList i = some ⟨some d,.next x false,ty,ps,af,g⟩) (hg:GOn ops E g) (hx:opv E x = some (eq it)) (hjj:l[jj]? = some (rng kv vp v it m is))
  (hp:dr = true→∀ z∈pend,((Region.before ops).getD i 0).testBit z.1 = true∨∀ q:Option Nat,nxOk m is q→z.2 (l.set jj (rng kv vp v it m (nxL is q))))
  (h:∀ q:Option Nat,nxOk m is q→Dv P ops n dr R0 K ((d,nxV kv vp m q)::E) (l.set jj (rng kv vp v it m (nxL is q))) pend rest) (hkb:K.bar E l pend ((i,true)::rest):=by first | exact trivial | assumption):Dv P ops n dr R0 K E l pend ((i,true)::rest):=
 .bar _ (γ:=Option Nat) (nxOk m is) (nxV kv vp m) (fun q=>l.set jj (rng kv vp v it m (nxL is q))) (at_of ho) (OpBar.val hg fun R a w h hst=>by
  have e1:=h x (by simp [Op.operands]) _ hx
  simp only [eq_p] at e1
  obtain ⟨mem,⟨r,clock,b,es,e,e2,hm,he,hpw,hcl,hnd,hlt⟩,hk2⟩:=hst.opn hjj
  subst hm
  have hlen:=All2.length he
  have hlt':∀ i∈is,i < es.length:=fun i hi=>by rw [← hlen]; exact hlt i hi
  have hb:=(Stm.base hk2).own (b,_) (List.mem_cons_self ..)
  have hr:=(Stm.base hk2).own (r,_) (List.mem_cons_of_mem _ (List.mem_cons_self ..))
  rcases run_next (P:=P) (ty:=ty) hb hr (by simpa using hcl) with ⟨h0,hrun⟩ | ⟨c,hc,k,hkd,hrun⟩
  ·refine ⟨none,R,_,w,?_,Fz.le_refl R,⟨[.bool false],rfl,.cons rfl .nil⟩,St.shut hjj ⟨r,clock,b,es,e,e2,rfl,he,hpw,hcl,hnd,hlt⟩ hk2,?_⟩
   ·refine nodup_perm_range hnd hlt fun i hi=>?_
    apply Classical.byContradiction
    intro hn
    have hm:=(left_mem hpw hlt').2 ⟨i,by omega,rfl,hn⟩
    rw [Array.eq_empty_of_size_eq_zero h0] at hm
    simp at hm
   ·simp only [execOp,e1,e2,Sem.run_bind]
    rw [hrun]; rfl
  ·obtain ⟨j,hj,rfl,hn⟩:=(left_mem hpw hlt').1 hc
   have hjm:j < m.length:=by omega
   obtain ⟨c',hc',hk1,hk3⟩:=he.get (List.getElem?_eq_getElem hjm)
   rw [List.getElem?_eq_getElem hj] at hc'
   cases hc'
   refine ⟨some j,R,.tuple #[.bool true,es[j].key,es[j].val],{ w with drawn:=k,heap:=w.heap.setIfInBounds b (.mapIter (some r) clock (((is.map (brn es)).toArray).push es[j].born) clock) },⟨hjm,hn,nodup_len hnd hlt hjm hn⟩,Fz.le_refl R,?_,St.shut hjj ⟨r,clock,b,es,e,e2,rfl,he,hpw,hcl,?_,?_⟩ (Stm.to (Fz.le_refl R) (m':=[(b,.mapIter (some r) clock ((is++[j]).map (brn es)).toArray clock),(r,.map es.toArray clock)]) (fun x hx=>?_) hk2),?_⟩
   ·simp only [nxV]
    rw [List.getElem?_eq_getElem hjm]
    exact ⟨[.bool true,es[j].key,es[j].val],rfl,.cons rfl (.cons hk1 (.cons hk3 .nil))⟩
   ·exact List.nodup_append.2 ⟨hnd,List.nodup_cons.2 ⟨by simp,List.nodup_nil⟩,fun a ha b hb=>by rw [List.mem_singleton.1 hb]; exact fun e=>hn (e ▸ ha)⟩
   ·intro i hi
    rcases List.mem_append.1 hi with hi | hi
    ·exact hlt i hi
    ·rw [List.mem_singleton.1 hi]; exact hjm
   ·have:=(hx.drew k hkd).obj (o':=.mapIter (some r) clock ((is++[j]).map (brn es)).toArray clock)
    have e3:((is++[j]).map (brn es)).toArray = ((is.map (brn es)).toArray).push es[j].born:=by
     rw [List.map_append,List.map_singleton,brn_at hj,List.push_toArray]
    rw [e3] at this ⊢
    exact this
   ·simp only [execOp,e1,e2,Sem.run_bind]
    rw [hrun]; rfl) (fun e z hz=>(hp e z hz).imp id fun h b hb=>h b hb) (fun b hb=>h b hb) hkb
theorem Dv.rge {ty:TypeId} {j:Nat} {e:κ×α} (jj:Nat) (ho:opAt ops.toList i = some ⟨some d,.entry x,ty,ps,af,g⟩) (hg:GOn ops E g) (hx:opv E x = some (eq it)) (hjj:l[jj]? = some (rng kv vp v it m (is++[j]))) (hj:m[j]? = some e)
  (k:Dv P ops n dr R0 K ((d,tup [eq (kv e.1),vp e.2])::E) l ((i,(rng kv vp v it m (is++[j])∈·))::pend) rest):Dv P ops n dr R0 K E l pend ((i,false)::rest):=
 Dv.okd _ _ ho (OpOk.val hg fun R a w l h hA hst=>by
  have e1:=h x (by simp [Op.operands]) _ hx
  simp only [eq_p] at e1
  obtain ⟨mem,⟨r,clock,b,es,e3,e2,hm,he,hpw,hcl,hnd,hlt⟩,hw⟩:=St.read hA hst
  subst hm
  have hb:=hw (b,_) (List.mem_cons_self ..)
  have hr:=hw (r,_) (List.mem_cons_of_mem _ (List.mem_cons_self ..))
  obtain ⟨c,hc,hk1,hk3⟩:=he.get hj
  have hjl:j < es.length:=(List.getElem?_eq_some_iff.1 hc).1
  have hcj:es[j] = c:=(List.getElem?_eq_some_iff.1 hc).2
  refine ⟨R,.tuple #[c.key,c.val],w,Fz.le_refl R,⟨[c.key,c.val],rfl,.cons hk1 (.cons hk3 .nil)⟩,hst,?_⟩
  have hbk:((is++[j]).map (brn es)).toArray.back? = some c.born:=by
   rw [List.map_append,List.map_singleton,brn_at hjl,hcj]; simp
  have hf:es.toArray.find? (·.born == c.born) = some c:=by
   rw [List.find?_toArray]
   exact find_born c es (by
    rw [List.nodup_iff_pairwise_ne,List.pairwise_map]
    exact hpw.imp fun h=>Nat.ne_of_lt h) (by rw [← hcj]; exact List.getElem_mem hjl)
  simp only [execOp,e1,e2,Sem.run_bind,Instr.entry,run_getI hb,run_getMap hr,Result.andThen_ok,hbk,bne_self_eq_false,Bool.false_eq_true,if_false,hf]
  rfl) (mem_at jj hjj) k
theorem st_rge {l r:List As} (hp:l.Perm (rng kv vp v it m is::r)):∀ R w,St R l w→∃ _:Unit,True∧St R (mp kv vp v m::r) w:=fun R w h=>by
 obtain ⟨mem,hm,hk⟩:=h.permL hp
 obtain ⟨r',clock,b,es,e,e2,hm,he,hpw,hcl,_,_⟩:=hm
 subst hm
 refine ⟨(),trivial,[(r',.map es.toArray clock)],⟨r',clock,es,e,rfl,he,hpw,hcl⟩,Stm.to (Fz.le_refl R) (fun x hx=>?_) hk⟩
 exact Base.drop (m:=[(b,_)]) hx
end
def Ev {α:Type} (F:Nat→Option α) (a:α):Prop:=∃ K,∀ k,K≤k→F k = some a
def El {α:Type} (F:Nat→Nat→Option α) (a:α):Prop:=∃ K,∀ k j,K≤k→K≤j→F k j = some a
section
variable {α β γ:Type} {a:α} {b:β}
theorem Ev.pure:Ev (fun _=>some a) a:=⟨0,fun _ _=>rfl⟩
theorem Ev.of {x:Option α} (h:x = some a):Ev (fun _=>x) a:=⟨0,fun _ _=>h⟩
theorem Ev.bind {F:Nat→Option α} {G:Nat→α→Option β} (h:Ev F a) (k:Ev (fun n=>G n a) b):Ev (fun n=>(F n).bind (G n)) b:=by
 obtain ⟨K1,h1⟩:=h
 obtain ⟨K2,h2⟩:=k
 exact ⟨max K1 K2,fun n hn=>by show (F n).bind (G n) = _; rw [h1 n (by omega)]; exact h2 n (by omega)⟩
theorem Ev.grd {p:Prop} [Decidable p] {F:Nat→Option α} (hp:p) (h:Ev F a):Ev (fun n=>Sp.grd p (F n)) a:=by
 obtain ⟨K,h⟩:=h
 exact ⟨K,fun n hn=>by simp only [Sp.grd,if_pos hp]; exact h n hn⟩
theorem Ev.ct {c:Bool} {F G:Nat→Option α} (hc:c = true) (h:Ev F a):Ev (fun n=>cond c (F n) (G n)) a:=by subst hc; exact h
theorem Ev.cond {c:Bool} {F G:Nat→Option α} (h1:c = true→Ev F a) (h2:c = false→Ev G a):Ev (fun n=>cond c (F n) (G n)) a:=by
 cases c
 ·exact h2 rfl
 ·exact h1 rfl
theorem Ev.eq {F G:Nat→Option α} (hG:Ev G a) (h:∀ k,F k = G k):Ev F a:=by
 obtain ⟨K,hK⟩:=hG
 exact ⟨K,fun k hk=>by rw [h]; exact hK k hk⟩
theorem Ev.ex {F:Nat→Option α} (h:Ev F a):∃ k,F k = some a:=by
 obtain ⟨K,h⟩:=h; exact ⟨K,h K (Nat.le_refl _)⟩
theorem El.diag {F:Nat→Nat→Option α} (h:El F a):Ev (fun k=>F k k) a:=by
 obtain ⟨K,h⟩:=h; exact ⟨K,fun k hk=>h k k hk hk⟩
theorem Ev.el {F:Nat→Option α} (h:Ev F a):El (fun k _=>F k) a:=by
 obtain ⟨K,h⟩:=h; exact ⟨K,fun k _ hk _=>h k hk⟩
theorem El.pure:El (fun _ _=>some a) a:=⟨0,fun _ _ _ _=>rfl⟩
theorem El.bind {F:Nat→Nat→Option α} {G:Nat→Nat→α→Option β} (h:El F a) (k:El (fun n j=>G n j a) b):El (fun n j=>(F n j).bind (G n j)) b:=by
 obtain ⟨K1,h1⟩:=h
 obtain ⟨K2,h2⟩:=k
 exact ⟨max K1 K2,fun n j hn hj=>by show (F n j).bind (G n j) = _; rw [h1 n j (by omega) (by omega)]; exact h2 n j (by omega) (by omega)⟩
theorem El.grd {p:Prop} [Decidable p] {F:Nat→Nat→Option α} (hp:p) (h:El F a):El (fun n j=>Sp.grd p (F n j)) a:=by
 obtain ⟨K,h⟩:=h
 exact ⟨K,fun n j hn hj=>by simp only [Sp.grd,if_pos hp]; exact h n j hn hj⟩
theorem El.ct {c:Bool} {F G:Nat→Nat→Option α} (hc:c = true) (h:El F a):El (fun n j=>cond c (F n j) (G n j)) a:=by subst hc; exact h
theorem El.cf {c:Bool} {F G:Nat→Nat→Option α} (hc:c = false) (h:El G a):El (fun n j=>cond c (F n j) (G n j)) a:=by subst hc; exact h
theorem El.cond {c:Bool} {F G:Nat→Nat→Option α} (h1:c = true→El F a) (h2:c = false→El G a):El (fun n j=>cond c (F n j) (G n j)) a:=by
 cases c
 ·exact h2 rfl
 ·exact h1 rfl
theorem El.step {F G:Nat→Nat→Option α} (h:∀ k j,F k (j + 1) = G k j) (hG:El G a):El F a:=by
 obtain ⟨K,hK⟩:=hG
 exact ⟨K + 1,fun k j hk hj=>by obtain ⟨m,rfl⟩:∃ m,j = m + 1:=⟨j - 1,by omega⟩; rw [h]; exact hK k m (by omega) (by omega)⟩
end
theorem w64_id {x:Int} (h1:-9223372036854775808≤x) (h2:x≤9223372036854775807):w64 x = x:=by
 simp only [w64,IntKind.wrap,IntKind.signed,IntKind.bits]
 simp
 omega
theorem bl_irrefl:∀ x:List UInt8,Op.bytesLess x x = false
 | []=>rfl
 | a::x=>by
  have h:¬ a < a:=fun k=>by have:=UInt8.lt_iff_toNat_lt.1 k; omega
  simp [Op.bytesLess,h,bl_irrefl x]
theorem bl_nil (x:List UInt8):Op.bytesLess x [] = false:=by cases x <;> rfl
theorem bl_trans:∀ {x y z:List UInt8},Op.bytesLess x y = true→Op.bytesLess y z = true→Op.bytesLess x z = true
 | x,[],_,h,_=>by rw [bl_nil] at h; cases h
 | _,_::_,[],_,h=>by rw [bl_nil] at h; cases h
 | [],_::_,_::_,_,_=>rfl
 | a::x,b::y,c::z,h1,h2=>by
  simp only [Op.bytesLess,Bool.or_eq_true,Bool.and_eq_true,decide_eq_true_eq,beq_iff_eq] at h1 h2 ⊢
  have lt:∀ {p q:UInt8},p < q↔p.toNat < q.toNat:=UInt8.lt_iff_toNat_lt
  rcases h1 with h1 | ⟨rfl,h1⟩ <;> rcases h2 with h2 | ⟨rfl,h2⟩
  ·left; rw [lt] at *; omega
  ·exact .inl h1
  ·exact .inl h2
  ·exact .inr ⟨rfl,bl_trans h1 h2⟩
theorem sLt_irrefl (s:ByteArray):sLt s s = false:=bl_irrefl _
theorem sLt_trans {x y z:ByteArray} (h:sLt x y = true) (k:sLt y z = true):sLt x z = true:=bl_trans h k
theorem sLt_asymm {x y:ByteArray} (h:sLt x y = true):sLt y x = false:=by
 cases e:sLt y x with
 | false=>rfl
 | true=>have:=sLt_trans h e; rw [sLt_irrefl] at this; cases this
theorem sLt_conn {x y:ByteArray} (h:sLt x y = false) (k:sLt y x = false):x = y:=by
 have:=bytesLess_tri x.data.toList y.data.toList
 unfold sLt at h k
 rw [h,k] at this
 simp at this
 cases x; cases y; simp_all
def cmpS (x y:ByteArray):Int:=if sLt x y then -1 else if sLt y x then 1 else 0
section
variable {κ α:Type} [DecidableEq κ] {m:List (κ×α)} {k k':κ} {v:α}
omit [DecidableEq κ] in
end
theorem cmpS_lt {x y:ByteArray}:cmpS x y < 0↔sLt x y = true:=by
 unfold cmpS; cases sLt x y <;> cases sLt y x <;> simp
theorem sLt_ntrans {x y z:ByteArray} (h:sLt y x = false) (k:sLt z y = false):sLt z x = false:=by
 cases e:sLt z x with
 | false=>rfl
 | true=>
  cases e2:sLt x y with
  | true=>have:=sLt_trans e e2; rw [k] at this; cases this
  | false=>have:=sLt_conn e2 h; subst this; rw [k] at e; cases e
end Go.Sp
