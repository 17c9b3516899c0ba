import Derived.Test.YtfknmdelgepbjaaGreatDoorWConQ
import Derived.Laws.IdiomRangeMap
set_option linter.all false
namespace Go.Sp
open Go
theorem Bi {P:Program} {w:World} {b:Nat} {r:Option Nat} {c d:Nat} {a:Array Nat} (h:w.heap[b]? = some (.mapIter r c a d)):(getObj b).run P w = .ok (.mapIter r c a d) w:=by simp [getObj,Sem.run,h]
theorem FM {P:Program} {w:World} {b:Nat} {r:Option Nat} {c d:Nat} {a:Array Nat} {o':Obj} (h:w.heap[b]? = some (.mapIter r c a d)):(setObj b o').run P w = .ok () { w with heap:=w.heap.setIfInBounds b o' }:=by simp [setObj,Sem.run,h]
theorem E4 {P:Program} {w:World} {b r clock:Nat} {seen:Array Nat} {es:Array MapEntry} {ty:TypeId} (hb:w.heap[b]? = some (.mapIter (some r) clock seen clock)) (hr:w.heap[r]? = some (.map es clock)) (hold:∀ x∈es.toList,x.born<clock):
  ((leftOf es seen).size=0∧(Instr.next (.pointer (some ⟨b,0,none⟩)) false ty).run P w = .ok (.tuple #[.bool false]) w)∨
  ∃ e∈(leftOf es seen).toList,∃ n,w.drawn≤n∧(Instr.next (.pointer (some ⟨b,0,none⟩)) false ty).run P w = .ok (.tuple #[.bool true,e.key,e.val]) { w with drawn:=n,heap:=w.heap.setIfInBounds b (.mapIter (some r) clock (seen.push e.born) clock) }:=by
 simp only [Instr.next,Sem.run_bind,Bi hb,jK hr,Result.andThen_ok,next_test_false seen es clock clock hold (Nat.le_refl _),Bool.false_eq_true,if_false]
 unfold leftOf
 have hmem:∀ x∈(Array.filter (fun e=>!seen.contains e.born) es).toList,x.born<clock:=fun x hx=>hold x (by simp at hx ⊢; exact hx.1)
 generalize Array.filter (fun e=>!seen.contains e.born) es=L at hmem ⊢
 have e1:L.filter (fun x=>decide (x.born<clock))=L:=Array.filter_eq_self.2 (fun x hx=>by simpa using hmem x (by simpa using hx))
 have e2:L.filter (fun x=>decide (x.born≥clock)) = #[]:=by
  rw [Array.filter_eq_empty_iff]
  intro x hx
  have:=hmem x (by simpa using hx)
  simp
  omega
 simp only [e1,e2,Array.append_empty]
 by_cases h0:L.size=0
 ·left
  have:L = #[]:=Array.eq_empty_of_size_eq_zero h0
  subst this
  refine ⟨rfl,?_⟩
  simp [choose,Sem.run,Question.forced]
 ·right
  have hne:L.isEmpty=false:=by simp [Array.isEmpty,h0]
  simp only [hne,Bool.false_eq_true,if_false,Array.empty_append,Array.size_map]
  have hch:∃ (j n:Nat),j<L.size∧w.drawn≤n∧(choose (Question.mapNext L.size)).run P w = .ok j { w with drawn:=n }:=by
   by_cases hf:L.size≤1
   ·exact ⟨0,w.drawn,om,Nat.le_refl _,by simp [choose,Sem.run,Question.forced,hf]⟩
   ·exact ⟨_,w.drew.drawn,Nat.mod_lt _ om,Nat.le_succ _,by
     simp only [choose,Sem.run,Question.forced,decide_eq_true_eq,hf,if_false,Question.cut]
     rfl⟩
  obtain ⟨j,n,hj,hn,hrun⟩:=hch
  refine ⟨L[j],sM,n,hn,?_⟩
  simp only [hrun,Array.getElem?_map,Array.getElem?_eq_getElem hj,Option.map_some,Sem.run_bind,Result.andThen]
  rw [FM (w:={ w with drawn:=n }) hb]
  rfl
section
variable {κ α:Type} [DecidableEq κ]
def Hy (es:List MapEntry) (i:Nat):Nat:=(es.getD i default).born
def uj (kv:κ→Value) (vp:α→VP) (v it:Value) (m:List (κ×α)) (is:List Nat):As:=
 ⟨fun R mem=>∃ r clock b,∃ es:List MapEntry,v = .map (some r)∧it = .pointer (some ⟨b,0,none⟩)∧mem=[(b,.mapIter (some r) clock (is.map (Hy es)).toArray clock),(r,.map es.toArray clock)]∧BU kv vp R m es∧es.Pairwise (fun a b=>a.born<b.born)∧(∀ e∈es,e.born<clock)∧is.Nodup∧∀ i∈is,i<m.length,
 fun hR ⟨r,clock,b,es,e,e2,hm,h,h2,h3,h4,h5⟩=>⟨r,clock,b,es,e,e2,hm,bD.imp (fun ka _ k=>⟨k.1,(vp ka.2).mono hR k.2⟩) h,h2,h3,h4,h5⟩⟩
theorem born_inj {es:List MapEntry} (h:es.Pairwise (fun a b=>a.born<b.born)) {i j:Nat} (hi:i<es.length) (hj:j<es.length) (e:es[i].born=es[j].born):i=j:=by
 rcases Nat.lt_trichotomy i j with h1 | h1 | h1
 ·have:=List.pairwise_iff_getElem.1 h i j hi hj h1; omega
 ·exact h1
 ·have:=List.pairwise_iff_getElem.1 h j i hj hi h1; omega
theorem zq {es:List MapEntry} {i:Nat} (h:i<es.length):Hy es i=es[i].born:=by
 unfold Hy; rw [gD,gE h]; rfl
theorem Aj {es:List MapEntry} {is:List Nat} (h:es.Pairwise (fun a b=>a.born<b.born)) (his:∀ i∈is,i<es.length) {e:MapEntry}:e∈(leftOf es.toArray (is.map (Hy es)).toArray).toList↔∃ i,∃ hi:i<es.length,es[i]=e∧i ∉ is:=by
 unfold leftOf
 simp only [List.filter_toArray,List.mem_filter,Bool.not_eq_true',List.contains_eq_mem,List.mem_toArray,List.contains_toArray,decide_eq_false_iff_not,List.mem_map,not_exists,not_and]
 constructor
 ·rintro ⟨h1,h2⟩
  obtain ⟨i,hi,rfl⟩:=List.mem_iff_getElem.1 h1
  exact ⟨i,hi,rfl,fun hm=>h2 i hm (zq hi)⟩
 ·rintro ⟨i,hi,rfl,hn⟩
  refine ⟨List.getElem_mem hi,fun j hj e=>?_⟩
  rw [zq (his j hj)] at e
  exact hn (born_inj h (his j hj) hi e ▸ hj)
end
section
variable {P:Program} {ops:Array Oper} {n:Nat} {dr:Bool} {R0:Fz} {K:KU} {E:Env} {l:List As} {pend:List (Nat×(List As→Prop))} {rest:List (Nat×Bool)} {i d:Nat}
variable {T:TypeId} {ps:String} {af:Array Edge} {g:Option (Nat×Bool)} {x y:Operand} {κ α:Type} [DecidableEq κ] {kv:κ→Value} {vp:α→VP} {v it:Value} {m:List (κ×α)} {is:List Nat}
theorem Dv.rgb {t kt et:TypeId} {jj:Nat} (ho:opAt ops.toList i=some ⟨some d,.range t x,T,ps,af,g⟩) (hg:fk ops E g) (hx:opv E x=some (eq v)) (hjj:l[jj]? = some (mp kv vp v m)) (hu:P.underlying t=some (.map kt et))
  (hp:dr=true→∀ z∈pend,((Region.before ops).getD i 0).testBit z.1=true∨∀ q:OV,z.2 (l.set jj (uj kv vp v q.1 m [])))
  (h:∀ q:OV,Dv P ops n dr R0 K ((d,eq q.1)::E) (l.set jj (uj kv vp v q.1 m [])) pend rest) (hkb:K.km E l pend ((i,true)::rest):=by first | exact trivial | assumption):Dv P ops n dr R0 K E l pend ((i,true)::rest):=
 .km _ (γ:=OV) (fun _=>True) (fun q=>eq q.1) (fun q=>l.set jj (uj kv vp v q.1 m [])) (eO ho) (gQ.val hg fun R a w h hst=>by
  have e1:=h x (by simp [Op.operands]) _ hx
  simp only [ei] at e1
  obtain ⟨mem,⟨r,clock,es,e,hm,he,hpw,hcl⟩,hk2⟩:=hst.jf hjj
  subst hm
  have hh:=(iu.base hk2).get
  refine ⟨⟨.pointer (some ⟨w.heap.size,0,none⟩),rfl⟩,R,_,{ w with heap:=w.heap.push (.mapIter (some r) clock #[] clock) },trivial,Fz.le_refl R,rfl,St.shut hjj ⟨r,clock,w.heap.size,es,e,rfl,rfl,he,hpw,hcl,List.nodup_nil,fun i hi=>by cases hi⟩ (iu.to (Fz.le_refl R) (fun x hx=>hx.alloc _) hk2),?_⟩
  simp [execOp,Instr.range,e1,e,run_underlying hu,jK hh]) (fun e z hz=>(hp e z hz).imp id fun h b _=>h b) (fun b _=>h b) hkb
def nxV (kv:κ→Value) (vp:α→VP) (m:List (κ×α)):Option Nat→VP
 | none=>kZ [eq (.bool false)]
 | some j=>match m[j]? with | some e=>kZ [eq (.bool true),eq (kv e.1),vp e.2] | none=>eq undef
def nxL (is:List Nat):Option Nat→List Nat
 | none=>is
 | some j=>is++[j]
def KJ (m:List (κ×α)) (is:List Nat):Option Nat→Prop
 | none=>is.Perm (List.range m.length)
 | some j=>j<m.length∧j ∉ is∧is.length<m.length
theorem sX {is:List Nat} {n:Nat} (h:is.Nodup) (h1:∀ i∈is,i<n) (h2:∀ i,i<n→i∈is):is.Perm (List.range n):=
 (List.perm_ext_iff_of_nodup h List.nodup_range).2 fun a=>⟨fun ha=>List.mem_range.2 (h1 a ha),fun ha=>h2 a (List.mem_range.1 ha)⟩
theorem Ea {is:List Nat} {n:Nat} (h:is.Nodup) (h1:∀ i∈is,i<n) {j:Nat} (hj:j<n) (hn:j ∉ is):is.length<n:=by
 have hp:(j::is).Perm ((List.range n).filter fun i=>decide (i∈j::is)):=(List.perm_ext_iff_of_nodup (List.nodup_cons.2 ⟨hn,h⟩) (List.nodup_range.filter _)).2 fun a=>by
  rw [List.mem_filter,List.mem_range,decide_eq_true_eq]
  exact ⟨fun ha=>⟨(List.mem_cons.1 ha).elim (fun e=>e ▸ hj) (h1 a),ha⟩,fun ha=>ha.2⟩
 have h2:=hp.length_eq
 have h3:=List.length_filter_le (fun i=>decide (i∈j::is)) (List.range n)
 rw [List.length_range] at h3
 rw [List.length_cons] at h2
 omega
theorem Dv.rgn {ty:TypeId} {jj:Nat} (ho:opAt ops.toList i=some ⟨some d,.next x false,ty,ps,af,g⟩) (hg:fk ops E g) (hx:opv E x=some (eq it)) (hjj:l[jj]? = some (uj kv vp v it m is))
  (hp:dr=true→∀ z∈pend,((Region.before ops).getD i 0).testBit z.1=true∨∀ q:Option Nat,KJ m is q→z.2 (l.set jj (uj kv vp v it m (nxL is q))))
  (h:∀ q:Option Nat,KJ m is q→Dv P ops n dr R0 K ((d,nxV kv vp m q)::E) (l.set jj (uj kv vp v it m (nxL is q))) pend rest) (hkb:K.km E l pend ((i,true)::rest):=by first | exact trivial | assumption):Dv P ops n dr R0 K E l pend ((i,true)::rest):=
 .km _ (γ:=Option Nat) (KJ m is) (nxV kv vp m) (fun q=>l.set jj (uj kv vp v it m (nxL is q))) (eO ho) (gQ.val hg fun R a w h hst=>by
  have e1:=h x (by simp [Op.operands]) _ hx
  simp only [ei] at e1
  obtain ⟨mem,⟨r,clock,b,es,e,e2,hm,he,hpw,hcl,hnd,hlt⟩,hk2⟩:=hst.jf hjj
  subst hm
  have hlen:=bD.length he
  have hlt':∀ i∈is,i<es.length:=fun i hi=>by rw [← hlen]; exact hlt i hi
  have hb:=(iu.base hk2).own (b,_) (List.mem_cons_self ..)
  have hr:=(iu.base hk2).own (r,_) (List.mem_cons_of_mem _ (List.mem_cons_self ..))
  rcases E4 (P:=P) (ty:=ty) hb hr (by simpa using hcl) with ⟨h0,hrun⟩ | ⟨c,hc,k,hkd,hrun⟩
  ·refine ⟨none,R,_,w,?_,Fz.le_refl R,⟨[.bool false],rfl,.cons rfl .nil⟩,St.shut hjj ⟨r,clock,b,es,e,e2,rfl,he,hpw,hcl,hnd,hlt⟩ hk2,?_⟩
   ·refine sX hnd hlt fun i hi=>?_
    apply Classical.byContradiction
    intro hn
    have hm:=(Aj hpw hlt').2 ⟨i,om,rfl,hn⟩
    rw [Array.eq_empty_of_size_eq_zero h0] at hm
    simp at hm
   ·simp only [execOp,e1,e2,Sem.run_bind]
    rw [hrun]; rfl
  ·obtain ⟨j,hj,rfl,hn⟩:=(Aj hpw hlt').1 hc
   have hjm:j<m.length:=om
   obtain ⟨c',hc',hk1,hk3⟩:=he.get (gE hjm)
   rw [gE hj] at hc'
   cases hc'
   refine ⟨some j,R,.tuple #[.bool true,es[j].key,es[j].val],{ w with drawn:=k,heap:=w.heap.setIfInBounds b (.mapIter (some r) clock (((is.map (Hy es)).toArray).push es[j].born) clock) },⟨hjm,hn,Ea hnd hlt hjm hn⟩,Fz.le_refl R,?_,St.shut hjj ⟨r,clock,b,es,e,e2,rfl,he,hpw,hcl,?_,?_⟩ (iu.to (Fz.le_refl R) (m':=[(b,.mapIter (some r) clock ((is++[j]).map (Hy es)).toArray clock),(r,.map es.toArray clock)]) (fun x hx=>?_) hk2),?_⟩
   ·simp only [nxV]
    rw [gE hjm]
    exact ⟨[.bool true,es[j].key,es[j].val],rfl,.cons rfl (.cons hk1 (.cons hk3 .nil))⟩
   ·exact List.nodup_append.2 ⟨hnd,List.nodup_cons.2 ⟨sM,List.nodup_nil⟩,fun a ha b hb=>by rw [List.mem_singleton.1 hb]; exact fun e=>hn (e ▸ ha)⟩
   ·intro i hi
    rcases List.mem_append.1 hi with hi | hi
    ·exact hlt i hi
    ·rw [List.mem_singleton.1 hi]; exact hjm
   ·have:=(hx.drew k hkd).obj (o':=.mapIter (some r) clock ((is++[j]).map (Hy es)).toArray clock)
    have e3:((is++[j]).map (Hy es)).toArray=((is.map (Hy es)).toArray).push es[j].born:=by
     rw [List.map_append,List.map_singleton,zq hj,List.push_toArray]
    rw [e3] at this ⊢
    exact this
   ·simp only [execOp,e1,e2,Sem.run_bind]
    rw [hrun]; rfl) (fun e z hz=>(hp e z hz).imp id fun h b hb=>h b hb) (fun b hb=>h b hb) hkb
theorem Dv.rge {ty:TypeId} {j:Nat} {e:κ×α} (jj:Nat) (ho:opAt ops.toList i=some ⟨some d,.entry x,ty,ps,af,g⟩) (hg:fk ops E g) (hx:opv E x=some (eq it)) (hjj:l[jj]? = some (uj kv vp v it m (is++[j]))) (hj:m[j]? = some e)
  (k:Dv P ops n dr R0 K ((d,kZ [eq (kv e.1),vp e.2])::E) l ((i,(uj kv vp v it m (is++[j])∈·))::pend) rest):Dv P ops n dr R0 K E l pend ((i,false)::rest):=
 Dv.lZ _ _ ho (eI.val hg fun R a w l h hA hst=>by
  have e1:=h x (by simp [Op.operands]) _ hx
  simp only [ei] at e1
  obtain ⟨mem,⟨r,clock,b,es,e3,e2,hm,he,hpw,hcl,hnd,hlt⟩,hw⟩:=St.read hA hst
  subst hm
  have hb:=hw (b,_) (List.mem_cons_self ..)
  have hr:=hw (r,_) (List.mem_cons_of_mem _ (List.mem_cons_self ..))
  obtain ⟨c,hc,hk1,hk3⟩:=he.get hj
  have hjl:j<es.length:=(List.getElem?_eq_some_iff.1 hc).1
  have hcj:es[j]=c:=(List.getElem?_eq_some_iff.1 hc).2
  refine ⟨R,.tuple #[c.key,c.val],w,Fz.le_refl R,⟨[c.key,c.val],rfl,.cons hk1 (.cons hk3 .nil)⟩,hst,?_⟩
  have hbk:((is++[j]).map (Hy es)).toArray.back? = some c.born:=by
   rw [List.map_append,List.map_singleton,zq hjl,hcj]; simp
  have hf:es.toArray.find? (·.born==c.born)=some c:=by
   rw [List.find?_toArray]
   exact find_born c es (by
    rw [List.nodup_iff_pairwise_ne,List.pairwise_map]
    exact hpw.imp fun h=>Nat.ne_of_lt h) (by rw [← hcj]; exact List.getElem_mem hjl)
  simp only [execOp,e1,e2,Sem.run_bind,Instr.entry,Bi hb,jK hr,Result.andThen_ok,hbk,bne_self_eq_false,Bool.false_eq_true,if_false,hf]
  rfl) (aa jj hjj) k
theorem Hk {l r:List As} (hp:l.Perm (uj kv vp v it m is::r)):∀ R w,St R l w→∃ _:Unit,True∧St R (mp kv vp v m::r) w:=fun R w h=>by
 obtain ⟨mem,hm,hk⟩:=h.ff hp
 obtain ⟨r',clock,b,es,e,e2,hm,he,hpw,hcl,_,_⟩:=hm
 subst hm
 refine ⟨(),trivial,[(r',.map es.toArray clock)],⟨r',clock,es,e,rfl,he,hpw,hcl⟩,iu.to (Fz.le_refl R) (fun x hx=>?_) hk⟩
 exact fY.drop (m:=[(b,_)]) hx
end
def Ev {α:Type} (F:Nat→Option α) (a:α):Prop:=∃ K,∀ k,K≤k→F k=some a
def El {α:Type} (F:Nat→Nat→Option α) (a:α):Prop:=∃ K,∀ k j,K≤k→K≤j→F k j=some a
section
variable {α β γ:Type} {a:α} {b:β}
theorem Ev.pure:Ev (fun _=>some a) a:=⟨0,fun _ _=>rfl⟩
theorem Ev.of {x:Option α} (h:x=some a):Ev (fun _=>x) a:=⟨0,fun _ _=>h⟩
theorem Ev.bind {F:Nat→Option α} {G:Nat→α→Option β} (h:Ev F a) (k:Ev (fun n=>G n a) b):Ev (fun n=>(F n).bind (G n)) b:=by
 obtain ⟨K1,h1⟩:=h
 obtain ⟨K2,h2⟩:=k
 exact ⟨max K1 K2,fun n hn=>by show (F n).bind (G n)=_; rw [h1 n om]; exact h2 n om⟩
theorem Ev.an {p:Prop} [Decidable p] {F:Nat→Option α} (hp:p) (h:Ev F a):Ev (fun n=>Sp.an p (F n)) a:=by
 obtain ⟨K,h⟩:=h
 exact ⟨K,fun n hn=>by simp only [Sp.an,if_pos hp]; exact h n hn⟩
theorem Ev.ct {c:Bool} {F G:Nat→Option α} (hc:c=true) (h:Ev F a):Ev (fun n=>cond c (F n) (G n)) a:=by subst hc; exact h
theorem Ev.cf {c:Bool} {F G:Nat→Option α} (hc:c=false) (h:Ev G a):Ev (fun n=>cond c (F n) (G n)) a:=by subst hc; exact h
theorem Ev.cond {c:Bool} {F G:Nat→Option α} (h1:c=true→Ev F a) (h2:c=false→Ev G a):Ev (fun n=>cond c (F n) (G n)) a:=by
 cases c
 ·exact h2 rfl
 ·exact h1 rfl
theorem Ev.step {F G:Nat→Option α} (h:∀ k,F (k+1)=G k) (hG:Ev G a):Ev F a:=by
 obtain ⟨K,hK⟩:=hG
 exact ⟨K+1,fun k hk=>by obtain ⟨m,rfl⟩:∃ m,k=m+1:=⟨k-1,om⟩; rw [h]; exact hK m om⟩
theorem Ev.eq {F G:Nat→Option α} (hG:Ev G a) (h:∀ k,F k=G k):Ev F a:=by
 obtain ⟨K,hK⟩:=hG
 exact ⟨K,fun k hk=>by rw [h]; exact hK k hk⟩
theorem Ev.add {F:Nat→Option α} (n:Nat) (h:∀ m,F (m+n)=some a):Ev F a:=⟨n,fun k hk=>by obtain ⟨m,rfl⟩:=Nat.exists_eq_add_of_le' hk; exact h m⟩
theorem Ev.uniq {F:Nat→Option α} {a':α} (h:Ev F a) (h':Ev F a'):a=a':=by
 obtain ⟨K,h⟩:=h
 obtain ⟨K',h'⟩:=h'
 have h1:=h (max K K') om
 rw [h' (max K K') om] at h1
 exact (Option.some.inj h1).symm
theorem Ev.ex {F:Nat→Option α} (h:Ev F a):∃ k,F k=some a:=by
 obtain ⟨K,h⟩:=h; exact ⟨K,h K (Nat.le_refl _)⟩
theorem El.diag {F:Nat→Nat→Option α} (h:El F a):Ev (fun k=>F k k) a:=by
 obtain ⟨K,h⟩:=h; exact ⟨K,fun k hk=>h k k hk hk⟩
theorem Ev.el {F:Nat→Option α} (h:Ev F a):El (fun k _=>F k) a:=by
 obtain ⟨K,h⟩:=h; exact ⟨K,fun k _ hk _=>h k hk⟩
theorem El.pure:El (fun _ _=>some a) a:=⟨0,fun _ _ _ _=>rfl⟩
theorem El.bind {F:Nat→Nat→Option α} {G:Nat→Nat→α→Option β} (h:El F a) (k:El (fun n j=>G n j a) b):El (fun n j=>(F n j).bind (G n j)) b:=by
 obtain ⟨K1,h1⟩:=h
 obtain ⟨K2,h2⟩:=k
 exact ⟨max K1 K2,fun n j hn hj=>by show (F n j).bind (G n j)=_; rw [h1 n j om om]; exact h2 n j om om⟩
theorem El.an {p:Prop} [Decidable p] {F:Nat→Nat→Option α} (hp:p) (h:El F a):El (fun n j=>Sp.an p (F n j)) a:=by
 obtain ⟨K,h⟩:=h
 exact ⟨K,fun n j hn hj=>by simp only [Sp.an,if_pos hp]; exact h n j hn hj⟩
theorem El.ct {c:Bool} {F G:Nat→Nat→Option α} (hc:c=true) (h:El F a):El (fun n j=>cond c (F n j) (G n j)) a:=by subst hc; exact h
theorem El.cf {c:Bool} {F G:Nat→Nat→Option α} (hc:c=false) (h:El G a):El (fun n j=>cond c (F n j) (G n j)) a:=by subst hc; exact h
theorem El.cond {c:Bool} {F G:Nat→Nat→Option α} (h1:c=true→El F a) (h2:c=false→El G a):El (fun n j=>cond c (F n j) (G n j)) a:=by
 cases c
 ·exact h2 rfl
 ·exact h1 rfl
theorem El.step {F G:Nat→Nat→Option α} (h:∀ k j,F k (j+1)=G k j) (hG:El G a):El F a:=by
 obtain ⟨K,hK⟩:=hG
 exact ⟨K+1,fun k j hk hj=>by obtain ⟨m,rfl⟩:∃ m,j=m+1:=⟨j-1,om⟩; rw [h]; exact hK k m om om⟩
end
theorem aE {x:Int} (h1:-9223372036854775808≤x) (h2:x≤9223372036854775807):av x=x:=by
 simp only [av,IntKind.wrap,IntKind.signed,IntKind.bits]
 simp
 omega
theorem Au {x:Int} (h1:0≤x) (h2:x≤255):IntKind.u8.wrap x=x:=by
 simp only [IntKind.wrap,IntKind.signed,IntKind.bits]
 simp
 omega
theorem KH {x:Int} (h1:0≤x) (h2:x≤9223372036854775807):IntKind.u64.wrap x=x:=by
 simp only [IntKind.wrap,IntKind.signed,IntKind.bits]
 simp
 omega
theorem Gp {x y:Int} (h1:0≤x) (h2:x≤y) (h3:y≤4611686018427387903):av ((IntKind.u64.wrap (av (x+y))).fdiv 2)=(x+y)/2:=by
 rw [aE (x:=x+y) om om,KH om om,Int.fdiv_eq_ediv_of_nonneg _ om,aE om om]
theorem yo:∀ x:List UInt8,Op.bytesLess x x=false
 | []=>rfl
 | a::x=>by
  have h:¬ a<a:=fun k=>by have:=UInt8.lt_iff_toNat_lt.1 k; omega
  simp [Op.bytesLess,h,yo x]
theorem Hh (x:List UInt8):Op.bytesLess x []=false:=by cases x <;> rfl
theorem Ay:∀ {x y z:List UInt8},Op.bytesLess x y=true→Op.bytesLess y z=true→Op.bytesLess x z=true
 | x,[],_,h,_=>by rw [Hh] at h; cases h
 | _,_::_,[],_,h=>by rw [Hh] at h; cases h
 | [],_::_,_::_,_,_=>rfl
 | a::x,b::y,c::z,h1,h2=>by
  simp only [Op.bytesLess,Bool.or_eq_true,Bool.and_eq_true,decide_eq_true_eq,beq_iff_eq] at h1 h2 ⊢
  have lt:∀ {p q:UInt8},p<q↔p.toNat<q.toNat:=UInt8.lt_iff_toNat_lt
  rcases h1 with h1 | ⟨rfl,h1⟩ <;> rcases h2 with h2 | ⟨rfl,h2⟩
  ·left; rw [lt] at *; omega
  ·exact .inl h1
  ·exact .inl h2
  ·exact .inr ⟨rfl,Ay h1 h2⟩
theorem iZ (s:BA):dJ s s=false:=yo _
theorem mn {x y z:BA} (h:dJ x y=true) (k:dJ y z=true):dJ x z=true:=Ay h k
theorem q9 {x y:BA} (h:dJ x y=true):dJ y x=false:=by
 cases e:dJ y x with
 | false=>rfl
 | true=>have:=mn h e; rw [iZ] at this; cases this
theorem lf {x y:BA} (h:dJ x y=false) (k:dJ y x=false):x=y:=by
 have:=oA x.data.toList y.data.toList
 unfold dJ at h k
 rw [h,k] at this
 simp at this
 cases x; cases y; simp_all
theorem BL {x y:BA} (h:dJ x y=true):x≠y:=fun e=>by subst e; rw [iZ] at h; cases h
def j8 (x y:BA):Int:=if dJ x y then -1 else if dJ y x then 1 else 0
theorem cmp_list:∀ x y:List UInt8,(match (List.range (min x.length y.length)).find? fun i=>x[i]! != y[i]! with
  | some i=>if x[i]! < y[i]! then (-1:Int) else 1
  | none=>if x.length<y.length then -1 else if x.length>y.length then 1 else 0)=if Op.bytesLess x y then -1 else if Op.bytesLess y x then 1 else 0
 | [],[]=>by simp [Op.bytesLess]
 | [],b::y=>by simp [Op.bytesLess]
 | a::x,[]=>by simp [Op.bytesLess]
 | a::x,b::y=>by
  have ih:=cmp_list x y
  have e:min (a::x).length (b::y).length=min x.length y.length+1:=sM
  have lt:∀ {p q:UInt8},p<q↔p.toNat<q.toNat:=UInt8.lt_iff_toNat_lt
  rw [e,List.range_succ_eq_map,List.find?_cons]
  by_cases hab:a=b
  ·subst hab
   have h:¬ a<a:=fun k=>Nat.lt_irrefl _ (lt.1 k)
   simp only [List.getElem!_cons_zero,bne_self_eq_false]
   rw [List.find?_map]
   have e2:((fun i=>(a::x)[i]! != (a::y)[i]!) ∘ Nat.succ)=fun i=>x[i]! != y[i]!:=by funext i; simp
   rw [e2]
   simp only [Op.bytesLess,h,decide_false,Bool.false_or,beq_self_eq_true,Bool.true_and]
   rw [← ih]
   cases (List.range (min x.length y.length)).find? fun i=>x[i]! != y[i]! <;> simp
  ·have h:((a::x)[0]! != (b::y)[0]!)=true:=by simp [hab]
   have hba:¬ b=a:=fun e=>hab e.symm
   simp only [h]
   simp only [List.getElem!_cons_zero,Op.bytesLess]
   rcases Nat.lt_trichotomy a.toNat b.toNat with h1 | h1 | h1
   ·have h2:a<b:=lt.2 h1
    simp [h2]
   ·exact absurd (UInt8.toNat_inj.1 h1) hab
   ·have h2:¬ a<b:=fun k=>Nat.lt_asymm h1 (lt.1 k)
    have h3:b<a:=lt.2 h1
    simp [h2,h3,hab]
theorem cmp_eq (x y:BA):Extern.BytealgCompare.cmp x y=j8 x y:=by
 have:=cmp_list x.data.toList y.data.toList
 unfold j8 dJ
 rw [← this]
 have h:∀ (s:BA) (i:Nat),s[i]! = s.data.toList[i]!:=fun s i=>by
  by_cases hi:i<s.size
  ·have hi2:i<s.data.toList.length:=by simpa using hi
   rw [getElem!_pos s i hi,getElem!_pos s.data.toList i hi2]
   rfl
  ·have hi2:¬ i<s.data.toList.length:=by simpa using hi
   rw [getElem!_neg s i hi,getElem!_neg s.data.toList i hi2]
 unfold Extern.BytealgCompare.cmp
 simp only [h]
 rfl
theorem Iw (xs ys:List Int):H6 xs ys=j8 (gK xs) (gK ys):=cmp_eq _ _
section
variable {κ α:Type} [DecidableEq κ] {m:List (κ×α)} {k k':κ} {v:α}
def Nd (m:List (κ×α)):Prop:=(m.map (·.1)).Nodup
omit [DecidableEq κ] in
theorem zi:Nd ([]:List (κ×α)):=List.nodup_nil
theorem fX:∀ {m:List (κ×α)},mget (mput m k v) k'=if k=k' then some v else mget m k'
 | []=>by simp only [mput,mget]
 | e::m=>by
  unfold mput
  by_cases h:e.1=k
  ·rw [if_pos h]
   by_cases h2:k=k'
   ·simp only [mget,if_pos h2]
   ·have h3:¬ e.1=k':=fun x=>h2 (h.symm.trans x)
    simp only [mget,if_neg h2,if_neg h3]
  ·rw [if_neg h]
   simp only [mget,fX (m:=m)]
   by_cases h2:e.1=k'
   ·have h3:¬ k=k':=fun x=>h (h2.trans x.symm)
    rw [if_pos h2,if_neg h3,if_pos h2]
   ·rw [if_neg h2,if_neg h2]
theorem nB:∀ {m:List (κ×α)},k∈m.map (·.1)↔(mget m k).isSome=true
 | []=>by simp [mget]
 | e::m=>by
  simp only [List.map_cons,List.mem_cons,mget]
  by_cases h:e.1=k
  ·simp [h]
  ·have h2:¬ k=e.1:=fun x=>h x.symm
   rw [if_neg h,← nB (m:=m)]; simp [h2]
theorem DV:∀ {m:List (κ×α)},∀ x,x∈(mput m k v).map (·.1)↔x=k∨x∈m.map (·.1):=fun {m} x=>by
 rw [nB,fX,nB]
 by_cases h:k=x
 ·simp [h]
 ·have h2:¬ x=k:=fun y=>h y.symm
  simp [h,h2]
theorem tG:∀ {m:List (κ×α)},Nd m→Nd (mput m k v)
 | [],_=>by simp [Nd,mput]
 | e::m,h=>by
  unfold Nd at h
  rw [List.map_cons,List.nodup_cons] at h
  unfold mput
  by_cases h2:e.1=k
  ·rw [if_pos h2]; unfold Nd; rw [List.map_cons,List.nodup_cons]; exact ⟨by rw [← h2]; exact h.1,h.2⟩
  ·rw [if_neg h2]
   unfold Nd
   rw [List.map_cons,List.nodup_cons]
   refine ⟨fun x=>?_,tG (m:=m) h.2⟩
   rcases (DV _).1 x with y | y
   ·exact h2 y
   ·exact h.1 y
theorem oP:∀ {m:List (κ×α)},Nd m→mget (l7 m k) k'=if k=k' then none else mget m k'
 | [],_=>by simp [l7,mget]
 | e::m,h=>by
  unfold Nd at h
  rw [List.map_cons,List.nodup_cons] at h
  unfold l7
  by_cases h2:e.1=k
  ·rw [if_pos h2]
   by_cases h3:k=k'
   ·rw [if_pos h3]
    cases h4:mget m k' with
    | none=>rfl
    | some v=>exact absurd (nB.2 (by rw [h4]; rfl)) (by rw [← h3,← h2]; exact h.1)
   ·have h5:¬ e.1=k':=fun x=>h3 (h2.symm.trans x)
    rw [if_neg h3]; simp only [mget,if_neg h5]
  ·rw [if_neg h2]
   simp only [mget,oP (m:=m) h.2]
   by_cases h3:e.1=k'
   ·have h4:¬ k=k':=fun x=>h2 (h3.trans x.symm)
    rw [if_pos h3,if_neg h4,if_pos h3]
   ·rw [if_neg h3,if_neg h3]
theorem uS:∀ {m:List (κ×α)},(l7 m k).Sublist m
 | []=>List.Sublist.refl _
 | e::m=>by
  unfold l7
  by_cases h:e.1=k
  ·rw [if_pos h]; exact List.sublist_cons_self ..
  ·rw [if_neg h]; exact (uS (m:=m)).cons_cons _
theorem FD (h:Nd m):Nd (l7 m k):=h.sublist (uS.map _)
end
theorem eg {α:Type} {l:List α} {i j:Nat} {x d:α} (hi:i<l.length):(l.set i x).getD j d=if j=i then x else l.getD j d:=by
 simp only [gD,List.getElem?_set]
 by_cases h:j=i
 ·subst h; simp [hi]
 ·have h2:¬ i=j:=fun e=>h e.symm
  simp [h,h2]
theorem nq {x y:BA}:j8 x y<0↔dJ x y=true:=by
 unfold j8; cases dJ x y <;> cases dJ y x <;> simp
theorem rW {x y:BA}:0<j8 x y↔dJ y x=true:=by
 unfold j8
 cases h:dJ x y with
 | true=>rw [q9 h]; simp
 | false=>cases dJ y x <;> simp
theorem jN {x y:BA}:j8 x y=0↔x=y:=by
 unfold j8
 constructor
 ·intro h
  cases h1:dJ x y with
  | true=>simp [h1] at h
  | false=>
   cases h2:dJ y x with
   | true=>simp [h1,h2] at h
   | false=>exact lf h1 h2
 ·rintro rfl; simp [iZ]
theorem CC {x y:BA}:j8 x y≤0↔dJ y x=false:=by
 have h:=rW (x:=x) (y:=y)
 cases k:dJ y x with
 | true=>rw [k] at h; simp; have:=h.2 rfl; omega
 | false=>rw [k] at h; simp at h; simp; exact h
theorem px {x y z:BA} (h:dJ y x=false) (k:dJ z y=false):dJ z x=false:=by
 cases e:dJ z x with
 | false=>rfl
 | true=>
  cases e2:dJ x y with
  | true=>have:=mn e e2; rw [k] at this; cases this
  | false=>have:=lf e2 h; subst this; rw [k] at e; cases e
theorem eP {α:Type} {l:List α} {i:Nat} {d:α} (h:i<l.length):l.getD i d∈l:=by
 rw [gD,gE h]; exact List.getElem_mem h
theorem pL {α:Type} {l:List α} {x:α} (d:α) (h:x∈l):∃ i,i<l.length∧l.getD i d=x:=by
 obtain ⟨i,hi,e⟩:=List.mem_iff_getElem.1 h
 exact ⟨i,hi,by rw [gD,gE hi]; exact e⟩
theorem sH {α:Type} {l:List α} {x d:α} {n:Nat} (h:x∈l.take n):∃ m,m<n∧m<l.length∧l.getD m d=x:=by
 obtain ⟨i,hi,e⟩:=List.mem_iff_getElem.1 h
 rw [List.length_take] at hi
 rw [List.getElem_take] at e
 exact ⟨i,om,om,by rw [gD,gE (by omega:i<l.length)]; exact e⟩
theorem oN {α:Type} {l:List α} {x d:α} {n:Nat} (h:x∈l.drop n):∃ m,n≤m∧m<l.length∧l.getD m d=x:=by
 obtain ⟨i,hi,e⟩:=List.mem_iff_getElem.1 h
 rw [List.length_drop] at hi
 rw [List.getElem_drop] at e
 exact ⟨n+i,om,om,by rw [gD,gE (by omega:n+i<l.length)]; exact e⟩
end Go.Sp
