import Derived.Test.YtelcbdmigiacpaaGreatConQ
import Derived.Laws.IdiomRangeMap
set_option linter.all false
namespace Go.Sp
open Go
theorem zm {P:Program} {w:World} {b:Nat} {r:Option Nat} {c d:Nat} {a:Array Nat} (h:w.heap[b]? = some (.mapIter r c a d)):(getObj b).run P w = .ok (.mapIter r c a d) w:=by simp [getObj,Sem.run,h]
theorem ER {P:Program} {w:World} {b:Nat} {r:Option Nat} {c d:Nat} {a:Array Nat} {o':Obj} (h:w.heap[b]? = some (.mapIter r c a d)):(setObj b o').run P w = .ok () { w with heap:=w.heap.setIfInBounds b o' }:=by simp [setObj,Sem.run,h]
theorem Da {P:Program} {w:World} {b r clock:Nat} {seen:Array Nat} {es:Array MapEntry} {ty:TypeId} (hb:w.heap[b]? = some (.mapIter (some r) clock seen clock)) (hr:w.heap[r]? = some (.map es clock)) (hold:∀ x∈es.toList,x.born<clock):
  ((leftOf es seen).size=0/\(Instr.next (.pointer (some ⟨b,0,none⟩)) false ty).run P w = .ok (.tuple #[.bool false]) w)\/
  ∃ e∈(leftOf es seen).toList,∃ n,w.drawn<=n/\(Instr.next (.pointer (some ⟨b,0,none⟩)) false ty).run P w = .ok (.tuple #[.bool true,e.key,e.val]) { w with drawn:=n,heap:=w.heap.setIfInBounds b (.mapIter (some r) clock (seen.push e.born) clock) }:=by
 simp only [Instr.next,Sem.run_bind,zm hb,jg hr,Result.andThen_ok,next_test_false seen es clock clock hold (Nat.le_refl _),Bool.false_eq_true,if_false]
 unfold leftOf
 have hmem:∀ x∈(Array.filter (λe=>!seen.contains e.born) es).toList,x.born<clock:=λx hx=>hold x (by simp at hx ⊢;exact hx.1)
 generalize Array.filter (λe=>!seen.contains e.born) es=L at hmem ⊢
 have e1:L.filter (λx=>decide (x.born<clock))=L:=Array.filter_eq_self.2 (λx hx=>by simpa using hmem x (by simpa using hx))
 have e2:L.filter (λx=>decide (x.born≥clock)) = #[]:=by
  rw [Array.filter_eq_empty_iff]
  intro x hx
  have:=hmem x (by simpa using hx)
  simp
  omega
 simp only [e1,e2,Array.append_empty]
 by_cases h0:L.size=0
 ·left
  have:L = #[]:=Array.eq_empty_of_size_eq_zero h0
  subst this
  refine⟨rfl,?_⟩
  simp [choose,Sem.run,Question.forced]
 ·right
  have hne:L.isEmpty=false:=by simp [Array.isEmpty,h0]
  simp only [hne,Bool.false_eq_true,if_false,Array.empty_append,Array.size_map]
  have hch:∃ (j n:Nat),j<L.size/\w.drawn<=n/\(choose (Question.mapNext L.size)).run P w = .ok j { w with drawn:=n }:=by
   by_cases hf:L.size<=1
   ·exact⟨0,w.drawn,om,Nat.le_refl _,by simp [choose,Sem.run,Question.forced,hf]⟩
   ·exact⟨_,w.drew.drawn,Nat.mod_lt _ om,Nat.le_succ _,by
     simp only [choose,Sem.run,Question.forced,decide_eq_true_eq,hf,if_false,Question.cut]
     rfl⟩
  obtain⟨j,n,hj,hn,hrun⟩:=hch
  refine⟨L[j],sM,n,hn,?_⟩
  simp only [hrun,Array.getElem?_map,Array.getElem?_eq_getElem hj,Option.map_some,Sem.run_bind,Result.andThen]
  rw [ER (w:={ w with drawn:=n }) hb]
  rfl
section
variable {κ α:Type} [DecidableEq κ]
def Fg (es:List MapEntry) (i:Nat):Nat:=(es.getD i default).born
def kG (kv:κ->Value) (vp:α->VP) (v it:Value) (m:List (κ×α)) (is:List Nat):As:=
 ⟨λR mem=>∃ r clock b,∃ es:List MapEntry,v = .map (some r)/\it = .pointer (some ⟨b,0,none⟩)/\mem=[(b,.mapIter (some r) clock (is.map (Fg es)).toArray clock),(r,.map es.toArray clock)]/\Am kv vp R m es/\es.Pairwise (λa b=>a.born<b.born)/\(∀ e∈es,e.born<clock)/\is.Nodup/\∀ i∈is,i<m.length,
 λhR ⟨r,clock,b,es,e,e2,hm,h,h2,h3,h4,h5⟩=>⟨r,clock,b,es,e,e2,hm,bV.imp (λka _ k=>⟨k.1,(vp ka.2).mono hR k.2⟩) h,h2,h3,h4,h5⟩⟩
theorem born_inj {es:List MapEntry} (h:es.Pairwise (λa b=>a.born<b.born)) {i j:Nat} (hi:i<es.length) (hj:j<es.length) (e:es[i].born=es[j].born):i=j:=by
 rcases Nat.lt_trichotomy i j with h1 | h1 | h1
 ·have:=List.pairwise_iff_getElem.1 h i j hi hj h1;omega
 ·exact h1
 ·have:=List.pairwise_iff_getElem.1 h j i hj hi h1;omega
theorem xE {es:List MapEntry} {i:Nat} (h:i<es.length):Fg es i=es[i].born:=by
 unfold Fg;rw [gD,gE h];rfl
theorem yP {es:List MapEntry} {is:List Nat} (h:es.Pairwise (λa b=>a.born<b.born)) (his:∀ i∈is,i<es.length) {e:MapEntry}:e∈(leftOf es.toArray (is.map (Fg es)).toArray).toList↔∃ i,∃ hi:i<es.length,es[i]=e/\i ∉ is:=by
 unfold leftOf
 simp only [List.filter_toArray,List.mem_filter,Bool.not_eq_true',List.contains_eq_mem,List.mem_toArray,List.contains_toArray,decide_eq_false_iff_not,List.mem_map,not_exists,not_and]
 constructor
 ·rintro⟨h1,h2⟩
  obtain⟨i,hi,rfl⟩:=List.mem_iff_getElem.1 h1
  exact⟨i,hi,rfl,λhm=>h2 i hm (xE hi)⟩
 ·rintro⟨i,hi,rfl,hn⟩
  refine⟨List.getElem_mem hi,λj hj e=>?_⟩
  rw [xE (his j hj)] at e
  exact hn (born_inj h (his j hj) hi e ▸ hj)
end
section
variable {P:Program} {ops:Array Oper} {n:Nat} {dr:Bool} {R0:Fz} {K:KU} {E:Env} {l:List As} {pend:List (Nat×(List As->Prop))} {rest:List (Nat×Bool)} {i d:Nat}
variable {T:TypeId} {ps:String} {af:Array Edge} {g:Option (Nat×Bool)} {x y:Operand} {κ α:Type} [DecidableEq κ] {kv:κ->Value} {vp:α->VP} {v it:Value} {m:List (κ×α)} {is:List Nat}
theorem Dv.Jp {t kt et:TypeId} {jj:Nat} (ho:opAt ops.toList i=some ⟨some d,.range t x,T,ps,af,g⟩) (hg:fZ ops E g) (hx:opv E x=some (eq v)) (hjj:l[jj]? = some (mp kv vp v m)) (hu:P.underlying t=some (.map kt et))
  (hp:dr=true->∀ z∈pend,((Region.before ops).getD i 0).testBit z.1=true\/∀ q:OV,z.2 (l.set jj (kG kv vp v q.1 m [])))
  (h:∀ q:OV,Dv P ops n dr R0 K ((d,eq q.1)::E) (l.set jj (kG kv vp v q.1 m [])) pend rest) (hkb:K.kZ E l pend ((i,true)::rest):=by first | exact trivial | assumption):Dv P ops n dr R0 K E l pend ((i,true)::rest):=
 .kZ _ (γ:=OV) (λ_=>True) (λq=>eq q.1) (λq=>l.set jj (kG kv vp v q.1 m [])) (fC ho) (iV.val hg λR a w h hst=>by
  have e1:=h x (by simp [Op.operands]) _ hx
  simp only [ez] at e1
  obtain⟨mem,⟨r,clock,es,e,hm,he,hpw,hcl⟩,hk2⟩:=hst.eF hjj
  subst hm
  have hh:=(je.base hk2).get
  refine⟨⟨.pointer (some ⟨w.heap.size,0,none⟩),rfl⟩,R,_,{ w with heap:=w.heap.push (.mapIter (some r) clock #[] clock) },trivial,Fz.le_refl R,rfl,St.shut hjj ⟨r,clock,w.heap.size,es,e,rfl,rfl,he,hpw,hcl,List.nodup_nil,λi hi=>by cases hi⟩ (je.to (Fz.le_refl R) (λx hx=>hx.alloc _) hk2),?_⟩
  simp [execOp,Instr.range,e1,e,run_underlying hu,jg hh]) (λe z hz=>(hp e z hz).imp id λh b _=>h b) (λb _=>h b) hkb
def nxV (kv:κ->Value) (vp:α->VP) (m:List (κ×α)):Option Nat->VP
 | none=>lg [eq (.bool false)]
 | some j=>match m[j]? with | some e=>lg [eq (.bool true),eq (kv e.1),vp e.2] | none=>eq undef
def nxL (is:List Nat):Option Nat->List Nat
 | none=>is
 | some j=>is++[j]
def Iu (m:List (κ×α)) (is:List Nat):Option Nat->Prop
 | none=>is.Perm (List.range m.length)
 | some j=>j<m.length/\j ∉ is/\is.length<m.length
theorem s9 {is:List Nat} {n:Nat} (h:is.Nodup) (h1:∀ i∈is,i<n) (h2:∀ i,i<n->i∈is):is.Perm (List.range n):=
 (List.perm_ext_iff_of_nodup h List.nodup_range).2 λa=>⟨λha=>List.mem_range.2 (h1 a ha),λha=>h2 a (List.mem_range.1 ha)⟩
theorem Cl {is:List Nat} {n:Nat} (h:is.Nodup) (h1:∀ i∈is,i<n) {j:Nat} (hj:j<n) (hn:j ∉ is):is.length<n:=by
 have hp:(j::is).Perm ((List.range n).filter λi=>decide (i∈j::is)):=(List.perm_ext_iff_of_nodup (List.nodup_cons.2 ⟨hn,h⟩) (List.nodup_range.filter _)).2 λa=>by
  rw [List.mem_filter,List.mem_range,decide_eq_true_eq]
  exact⟨λha=>⟨(List.mem_cons.1 ha).elim (λe=>e ▸ hj) (h1 a),ha⟩,λha=>ha.2⟩
 have h2:=hp.length_eq
 have h3:=List.length_filter_le (λi=>decide (i∈j::is)) (List.range n)
 rw [List.length_range] at h3
 rw [List.length_cons] at h2
 omega
theorem Dv.Jg {ty:TypeId} {jj:Nat} (ho:opAt ops.toList i=some ⟨some d,.next x false,ty,ps,af,g⟩) (hg:fZ ops E g) (hx:opv E x=some (eq it)) (hjj:l[jj]? = some (kG kv vp v it m is))
  (hp:dr=true->∀ z∈pend,((Region.before ops).getD i 0).testBit z.1=true\/∀ q:Option Nat,Iu m is q->z.2 (l.set jj (kG kv vp v it m (nxL is q))))
  (h:∀ q:Option Nat,Iu m is q->Dv P ops n dr R0 K ((d,nxV kv vp m q)::E) (l.set jj (kG kv vp v it m (nxL is q))) pend rest) (hkb:K.kZ E l pend ((i,true)::rest):=by first | exact trivial | assumption):Dv P ops n dr R0 K E l pend ((i,true)::rest):=
 .kZ _ (γ:=Option Nat) (Iu m is) (nxV kv vp m) (λq=>l.set jj (kG kv vp v it m (nxL is q))) (fC ho) (iV.val hg λR a w h hst=>by
  have e1:=h x (by simp [Op.operands]) _ hx
  simp only [ez] at e1
  obtain⟨mem,⟨r,clock,b,es,e,e2,hm,he,hpw,hcl,hnd,hlt⟩,hk2⟩:=hst.eF hjj
  subst hm
  have hlen:=bV.length he
  have hlt':∀ i∈is,i<es.length:=λi hi=>by rw [<- hlen];exact hlt i hi
  have hb:=(je.base hk2).own (b,_) (List.mem_cons_self ..)
  have hr:=(je.base hk2).own (r,_) (List.mem_cons_of_mem _ (List.mem_cons_self ..))
  rcases Da (P:=P) (ty:=ty) hb hr (by simpa using hcl) with⟨h0,hrun⟩|⟨c,hc,k,hkd,hrun⟩
  ·refine⟨none,R,_,w,?_,Fz.le_refl R,⟨[.bool false],rfl,.cons rfl .nil⟩,St.shut hjj ⟨r,clock,b,es,e,e2,rfl,he,hpw,hcl,hnd,hlt⟩ hk2,?_⟩
   ·refine s9 hnd hlt λi hi=>?_
    apply Classical.byContradiction
    intro hn
    have hm:=(yP hpw hlt').2 ⟨i,om,rfl,hn⟩
    rw [Array.eq_empty_of_size_eq_zero h0] at hm
    simp at hm
   ·simp only [execOp,e1,e2,Sem.run_bind]
    rw [hrun];rfl
  ·obtain⟨j,hj,rfl,hn⟩:=(yP hpw hlt').1 hc
   have hjm:j<m.length:=om
   obtain⟨c',hc',hk1,hk3⟩:=he.get (gE hjm)
   rw [gE hj] at hc'
   cases hc'
   refine⟨some j,R,.tuple #[.bool true,es[j].key,es[j].val],{ w with drawn:=k,heap:=w.heap.setIfInBounds b (.mapIter (some r) clock (((is.map (Fg es)).toArray).push es[j].born) clock) },⟨hjm,hn,Cl hnd hlt hjm hn⟩,Fz.le_refl R,?_,St.shut hjj ⟨r,clock,b,es,e,e2,rfl,he,hpw,hcl,?_,?_⟩ (je.to (Fz.le_refl R) (m':=[(b,.mapIter (some r) clock ((is++[j]).map (Fg es)).toArray clock),(r,.map es.toArray clock)]) (λx hx=>?_) hk2),?_⟩
   ·simp only [nxV]
    rw [gE hjm]
    exact⟨[.bool true,es[j].key,es[j].val],rfl,.cons rfl (.cons hk1 (.cons hk3 .nil))⟩
   ·exact List.nodup_append.2 ⟨hnd,List.nodup_cons.2 ⟨sM,List.nodup_nil⟩,λa ha b hb=>by rw [List.mem_singleton.1 hb];exact λe=>hn (e ▸ ha)⟩
   ·intro i hi
    rcases List.mem_append.1 hi with hi | hi
    ·exact hlt i hi
    ·rw [List.mem_singleton.1 hi];exact hjm
   ·have:=(hx.drew k hkd).obj (o':=.mapIter (some r) clock ((is++[j]).map (Fg es)).toArray clock)
    have e3:((is++[j]).map (Fg es)).toArray=((is.map (Fg es)).toArray).push es[j].born:=by
     rw [List.map_append,List.map_singleton,xE hj,List.push_toArray]
    rw [e3] at this ⊢
    exact this
   ·simp only [execOp,e1,e2,Sem.run_bind]
    rw [hrun];rfl) (λe z hz=>(hp e z hz).imp id λh b hb=>h b hb) (λb hb=>h b hb) hkb
theorem Dv.Jr {ty:TypeId} {j:Nat} {e:κ×α} (jj:Nat) (ho:opAt ops.toList i=some ⟨some d,.entry x,ty,ps,af,g⟩) (hg:fZ ops E g) (hx:opv E x=some (eq it)) (hjj:l[jj]? = some (kG kv vp v it m (is++[j]))) (hj:m[j]? = some e)
  (k:Dv P ops n dr R0 K ((d,lg [eq (kv e.1),vp e.2])::E) l ((i,(kG kv vp v it m (is++[j])∈·))::pend) rest):Dv P ops n dr R0 K E l pend ((i,false)::rest):=
 Dv.mg _ _ ho (eV.val hg λR a w l h hA hst=>by
  have e1:=h x (by simp [Op.operands]) _ hx
  simp only [ez] at e1
  obtain⟨mem,⟨r,clock,b,es,e3,e2,hm,he,hpw,hcl,hnd,hlt⟩,hw⟩:=St.read hA hst
  subst hm
  have hb:=hw (b,_) (List.mem_cons_self ..)
  have hr:=hw (r,_) (List.mem_cons_of_mem _ (List.mem_cons_self ..))
  obtain⟨c,hc,hk1,hk3⟩:=he.get hj
  have hjl:j<es.length:=(List.getElem?_eq_some_iff.1 hc).1
  have hcj:es[j]=c:=(List.getElem?_eq_some_iff.1 hc).2
  refine⟨R,.tuple #[c.key,c.val],w,Fz.le_refl R,⟨[c.key,c.val],rfl,.cons hk1 (.cons hk3 .nil)⟩,hst,?_⟩
  have hbk:((is++[j]).map (Fg es)).toArray.back? = some c.born:=by
   rw [List.map_append,List.map_singleton,xE hjl,hcj];simp
  have hf:es.toArray.find? (·.born==c.born)=some c:=by
   rw [List.find?_toArray]
   exact find_born c es (by
    rw [List.nodup_iff_pairwise_ne,List.pairwise_map]
    exact hpw.imp λh=>Nat.ne_of_lt h) (by rw [<- hcj];exact List.getElem_mem hjl)
  simp only [execOp,e1,e2,Sem.run_bind,Instr.entry,zm hb,jg hr,Result.andThen_ok,hbk,bne_self_eq_false,Bool.false_eq_true,if_false,hf]
  rfl) (ab jj hjj) k
theorem rB {l r:List As} (hp:l.Perm (kG kv vp v it m is::r)):∀ R w,St R l w->∃ _:Unit,True/\St R (mp kv vp v m::r) w:=λR w h=>by
 obtain⟨mem,hm,hk⟩:=h.fY hp
 obtain⟨r',clock,b,es,e,e2,hm,he,hpw,hcl,_,_⟩:=hm
 subst hm
 refine⟨(),trivial,[(r',.map es.toArray clock)],⟨r',clock,es,e,rfl,he,hpw,hcl⟩,je.to (Fz.le_refl R) (λx hx=>?_) hk⟩
 exact iw.drop (m:=[(b,_)]) hx
end
def Ev {α:Type} (F:Nat->Option α) (a:α):Prop:=∃ K,∀ k,K<=k->F k=some a
def El {α:Type} (F:Nat->Nat->Option α) (a:α):Prop:=∃ K,∀ k j,K<=k->K<=j->F k j=some a
section
variable {α β γ:Type} {a:α} {b:β}
theorem Ev.pure:Ev (λ_=>some a) a:=⟨0,λ_ _=>rfl⟩
theorem Ev.of {x:Option α} (h:x=some a):Ev (λ_=>x) a:=⟨0,λ_ _=>h⟩
theorem Ev.bind {F:Nat->Option α} {G:Nat->α->Option β} (h:Ev F a) (k:Ev (λn=>G n a) b):Ev (λn=>(F n).bind (G n)) b:=by
 obtain⟨K1,h1⟩:=h
 obtain⟨K2,h2⟩:=k
 exact⟨max K1 K2,λn hn=>by show(F n).bind (G n)=_;rw [h1 n om];exact h2 n om⟩
theorem Ev.aF {p:Prop} [Decidable p] {F:Nat->Option α} (hp:p) (h:Ev F a):Ev (λn=>Sp.aF p (F n)) a:=by
 obtain⟨K,h⟩:=h
 exact⟨K,λn hn=>by simp only [Sp.aF,if_pos hp];exact h n hn⟩
theorem Ev.ct {c:Bool} {F G:Nat->Option α} (hc:c=true) (h:Ev F a):Ev (λn=>cond c (F n) (G n)) a:=by subst hc;exact h
theorem Ev.cf {c:Bool} {F G:Nat->Option α} (hc:c=false) (h:Ev G a):Ev (λn=>cond c (F n) (G n)) a:=by subst hc;exact h
theorem Ev.cond {c:Bool} {F G:Nat->Option α} (h1:c=true->Ev F a) (h2:c=false->Ev G a):Ev (λn=>cond c (F n) (G n)) a:=by
 cases c
 ·exact h2 rfl
 ·exact h1 rfl
theorem Ev.eq {F G:Nat->Option α} (hG:Ev G a) (h:∀ k,F k=G k):Ev F a:=by
 obtain⟨K,hK⟩:=hG
 exact⟨K,λk hk=>by rw [h];exact hK k hk⟩
theorem Ev.add {F:Nat->Option α} (n:Nat) (h:∀ m,F (m+n)=some a):Ev F a:=⟨n,λk hk=>by obtain⟨m,rfl⟩:=Nat.exists_eq_add_of_le' hk;exact h m⟩
theorem Ev.uniq {F:Nat->Option α} {a':α} (h:Ev F a) (h':Ev F a'):a=a':=by
 obtain⟨K,h⟩:=h
 obtain⟨K',h'⟩:=h'
 have h1:=h (max K K') om
 rw [h' (max K K') om] at h1
 exact(Option.some.inj h1).symm
theorem Ev.ex {F:Nat->Option α} (h:Ev F a):∃ k,F k=some a:=by
 obtain⟨K,h⟩:=h;exact⟨K,h K (Nat.le_refl _)⟩
theorem El.diag {F:Nat->Nat->Option α} (h:El F a):Ev (λk=>F k k) a:=by
 obtain⟨K,h⟩:=h;exact⟨K,λk hk=>h k k hk hk⟩
theorem Ev.el {F:Nat->Option α} (h:Ev F a):El (λk _=>F k) a:=by
 obtain⟨K,h⟩:=h;exact⟨K,λk _ hk _=>h k hk⟩
theorem El.pure:El (λ_ _=>some a) a:=⟨0,λ_ _ _ _=>rfl⟩
theorem El.bind {F:Nat->Nat->Option α} {G:Nat->Nat->α->Option β} (h:El F a) (k:El (λn j=>G n j a) b):El (λn j=>(F n j).bind (G n j)) b:=by
 obtain⟨K1,h1⟩:=h
 obtain⟨K2,h2⟩:=k
 exact⟨max K1 K2,λn j hn hj=>by show(F n j).bind (G n j)=_;rw [h1 n j om om];exact h2 n j om om⟩
theorem El.aF {p:Prop} [Decidable p] {F:Nat->Nat->Option α} (hp:p) (h:El F a):El (λn j=>Sp.aF p (F n j)) a:=by
 obtain⟨K,h⟩:=h
 exact⟨K,λn j hn hj=>by simp only [Sp.aF,if_pos hp];exact h n j hn hj⟩
theorem El.ct {c:Bool} {F G:Nat->Nat->Option α} (hc:c=true) (h:El F a):El (λn j=>cond c (F n j) (G n j)) a:=by subst hc;exact h
theorem El.cf {c:Bool} {F G:Nat->Nat->Option α} (hc:c=false) (h:El G a):El (λn j=>cond c (F n j) (G n j)) a:=by subst hc;exact h
theorem El.cond {c:Bool} {F G:Nat->Nat->Option α} (h1:c=true->El F a) (h2:c=false->El G a):El (λn j=>cond c (F n j) (G n j)) a:=by
 cases c
 ·exact h2 rfl
 ·exact h1 rfl
theorem El.step {F G:Nat->Nat->Option α} (h:∀ k j,F k (j+1)=G k j) (hG:El G a):El F a:=by
 obtain⟨K,hK⟩:=hG
 exact⟨K+1,λk j hk hj=>by obtain⟨m,rfl⟩:∃ m,j=m+1:=⟨j-1,om⟩;rw [h];exact hK k m om om⟩
end
theorem c7 {x:Int} (h1:-9223372036854775808<=x) (h2:x<=9223372036854775807):aE x=x:=by
 simp only [aE,IntKind.wrap,IntKind.signed,IntKind.bits]
 simp
 omega
theorem HG {x:Int} (h1:0<=x) (h2:x<=255):IntKind.u8.wrap x=x:=by
 simp only [IntKind.wrap,IntKind.signed,IntKind.bits]
 simp
 omega
theorem wV:∀ x:List UInt8,Op.bytesLess x x=false
 | []=>rfl
 | a::x=>by
  have h:¬ a<a:=λk=>by have:=UInt8.lt_iff_toNat_lt.1 k;omega
  simp [Op.bytesLess,h,wV x]
theorem DJ (x:List UInt8):Op.bytesLess x []=false:=by cases x <;> rfl
theorem yB:∀ {x y z:List UInt8},Op.bytesLess x y=true->Op.bytesLess y z=true->Op.bytesLess x z=true
 | x,[],_,h,_=>by rw [DJ] at h;cases h
 | _,_::_,[],_,h=>by rw [DJ] at h;cases h
 | [],_::_,_::_,_,_=>rfl
 | a::x,b::y,c::z,h1,h2=>by
  simp only [Op.bytesLess,Bool.or_eq_true,Bool.and_eq_true,decide_eq_true_eq,beq_iff_eq] at h1 h2 ⊢
  have lt:∀ {p q:UInt8},p<q↔p.toNat<q.toNat:=UInt8.lt_iff_toNat_lt
  rcases h1 with h1 | ⟨rfl,h1⟩ <;> rcases h2 with h2 | ⟨rfl,h2⟩
  ·left;rw [lt] at *;omega
  ·exact .inl h1
  ·exact .inl h2
  ·exact .inr ⟨rfl,yB h1 h2⟩
theorem oL (s:BA):il s s=false:=wV _
theorem ra {x y z:BA} (h:il x y=true) (k:il y z=true):il x z=true:=yB h k
theorem wG {x y:BA} (h:il x y=true):il y x=false:=by
 cases e:il y x with
 | false=>rfl
 | true=>have:=ra h e;rw [oL] at this;cases this
theorem mQ {x y:BA} (h:il x y=false) (k:il y x=false):x=y:=by
 have:=oY x.data.toList y.data.toList
 unfold il at h k
 rw [h,k] at this
 simp at this
 cases x;cases y;simp_all
theorem EF {x y:BA} (h:il x y=true):x≠y:=λe=>by subst e;rw [oL] at h;cases h
def nS (x y:BA):Int:=if il x y then -1 else if il y x then 1 else 0
theorem cmp_list:∀ x y:List UInt8,(match (List.range (min x.length y.length)).find? λi=>x[i]! != y[i]! with
  | some i=>if x[i]! < y[i]! then (-1:Int) else 1
  | none=>if x.length<y.length then -1 else if x.length>y.length then 1 else 0)=if Op.bytesLess x y then -1 else if Op.bytesLess y x then 1 else 0
 | [],[]=>by simp [Op.bytesLess]
 | [],b::y=>by simp [Op.bytesLess]
 | a::x,[]=>by simp [Op.bytesLess]
 | a::x,b::y=>by
  have ih:=cmp_list x y
  have e:min (a::x).length (b::y).length=min x.length y.length+1:=sM
  have lt:∀ {p q:UInt8},p<q↔p.toNat<q.toNat:=UInt8.lt_iff_toNat_lt
  rw [e,List.range_succ_eq_map,List.find?_cons]
  by_cases hab:a=b
  ·subst hab
   have h:¬ a<a:=λk=>Nat.lt_irrefl _ (lt.1 k)
   simp only [List.getElem!_cons_zero,bne_self_eq_false]
   rw [List.find?_map]
   have e2:((λi=>(a::x)[i]! != (a::y)[i]!) ∘ Nat.succ)=λi=>x[i]! != y[i]!:=by funext i;simp
   rw [e2]
   simp only [Op.bytesLess,h,decide_false,Bool.false_or,beq_self_eq_true,Bool.true_and]
   rw [<- ih]
   cases (List.range (min x.length y.length)).find? λi=>x[i]! != y[i]! <;> simp
  ·have h:((a::x)[0]! != (b::y)[0]!)=true:=by simp [hab]
   have hba:¬ b=a:=λe=>hab e.symm
   simp only [h]
   simp only [List.getElem!_cons_zero,Op.bytesLess]
   rcases Nat.lt_trichotomy a.toNat b.toNat with h1 | h1 | h1
   ·have h2:a<b:=lt.2 h1
    simp [h2]
   ·exact absurd (UInt8.toNat_inj.1 h1) hab
   ·have h2:¬ a<b:=λk=>Nat.lt_asymm h1 (lt.1 k)
    have h3:b<a:=lt.2 h1
    simp [h2,h3,hab]
theorem cmp_eq (x y:BA):Extern.BytealgCompare.cmp x y=nS x y:=by
 have:=cmp_list x.data.toList y.data.toList
 unfold nS il
 rw [<- this]
 have h:∀ (s:BA) (i:Nat),s[i]! = s.data.toList[i]!:=λs i=>by
  by_cases hi:i<s.size
  ·have hi2:i<s.data.toList.length:=by simpa using hi
   rw [getElem!_pos s i hi,getElem!_pos s.data.toList i hi2]
   rfl
  ·have hi2:¬ i<s.data.toList.length:=by simpa using hi
   rw [getElem!_neg s i hi,getElem!_neg s.data.toList i hi2]
 unfold Extern.BytealgCompare.cmp
 simp only [h]
 rfl
theorem GK (xs ys:List Int):GC xs ys=nS (lA xs) (lA ys):=cmp_eq _ _
section
variable {κ α:Type} [DecidableEq κ] {m:List (κ×α)} {k k':κ} {v:α}
def Nd (m:List (κ×α)):Prop:=(m.map (·.1)).Nodup
omit [DecidableEq κ] in
theorem xZ:Nd ([]:List (κ×α)):=List.nodup_nil
theorem ir:∀ {m:List (κ×α)},mget (mput m k v) k'=if k=k' then some v else mget m k'
 | []=>by simp only [mput,mget]
 | e::m=>by
  unfold mput
  by_cases h:e.1=k
  ·rw [if_pos h]
   by_cases h2:k=k'
   ·simp only [mget,if_pos h2]
   ·have h3:¬ e.1=k':=λx=>h2 (h.symm.trans x)
    simp only [mget,if_neg h2,if_neg h3]
  ·rw [if_neg h]
   simp only [mget,ir (m:=m)]
   by_cases h2:e.1=k'
   ·have h3:¬ k=k':=λx=>h (h2.trans x.symm)
    rw [if_pos h2,if_neg h3,if_pos h2]
   ·rw [if_neg h2,if_neg h2]
theorem np:∀ {m:List (κ×α)},k∈m.map (·.1)↔(mget m k).isSome=true
 | []=>by simp [mget]
 | e::m=>by
  simp only [List.map_cons,List.mem_cons,mget]
  by_cases h:e.1=k
  ·simp [h]
  ·have h2:¬ k=e.1:=λx=>h x.symm
   rw [if_neg h,<- np (m:=m)];simp [h2]
theorem CX:∀ {m:List (κ×α)},∀ x,x∈(mput m k v).map (·.1)↔x=k\/x∈m.map (·.1):=λ{m} x=>by
 rw [np,ir,np]
 by_cases h:k=x
 ·simp [h]
 ·have h2:¬ x=k:=λy=>h y.symm
  simp [h,h2]
theorem qQ:∀ {m:List (κ×α)},Nd m->Nd (mput m k v)
 | [],_=>by simp [Nd,mput]
 | e::m,h=>by
  unfold Nd at h
  rw [List.map_cons,List.nodup_cons] at h
  unfold mput
  by_cases h2:e.1=k
  ·rw [if_pos h2];unfold Nd;rw [List.map_cons,List.nodup_cons];exact⟨by rw [<- h2];exact h.1,h.2⟩
  ·rw [if_neg h2]
   unfold Nd
   rw [List.map_cons,List.nodup_cons]
   refine⟨λx=>?_,qQ (m:=m) h.2⟩
   rcases(CX _).1 x with y | y
   ·exact h2 y
   ·exact h.1 y
theorem pG:∀ {m:List (κ×α)},Nd m->mget (jV m k) k'=if k=k' then none else mget m k'
 | [],_=>by simp [jV,mget]
 | e::m,h=>by
  unfold Nd at h
  rw [List.map_cons,List.nodup_cons] at h
  unfold jV
  by_cases h2:e.1=k
  ·rw [if_pos h2]
   by_cases h3:k=k'
   ·rw [if_pos h3]
    cases h4:mget m k' with
    | none=>rfl
    | some v=>exact absurd (np.2 (by rw [h4];rfl)) (by rw [<- h3,<- h2];exact h.1)
   ·have h5:¬ e.1=k':=λx=>h3 (h2.symm.trans x)
    rw [if_neg h3];simp only [mget,if_neg h5]
  ·rw [if_neg h2]
   simp only [mget,pG (m:=m) h.2]
   by_cases h3:e.1=k'
   ·have h4:¬ k=k':=λx=>h2 (h3.trans x.symm)
    rw [if_pos h3,if_neg h4,if_pos h3]
   ·rw [if_neg h3,if_neg h3]
theorem sg:∀ {m:List (κ×α)},(jV m k).Sublist m
 | []=>List.Sublist.refl _
 | e::m=>by
  unfold jV
  by_cases h:e.1=k
  ·rw [if_pos h];exact List.sublist_cons_self ..
  ·rw [if_neg h];exact(sg (m:=m)).cons_cons _
theorem sS (h:Nd m):Nd (jV m k):=h.sublist (sg.map _)
end
theorem CL {α:Type} {l:List α} {i j:Nat} {x d:α} (hi:i<l.length):(l.set i x).getD j d=if j=i then x else l.getD j d:=by
 simp only [gD,List.getElem?_set]
 by_cases h:j=i
 ·subst h;simp [hi]
 ·have h2:¬ i=j:=λe=>h e.symm
  simp [h,h2]
theorem yg {x y:BA}:nS x y<0↔il x y=true:=by
 unfold nS;cases il x y <;> cases il y x <;> simp
theorem By {x y:BA}:0<nS x y↔il y x=true:=by
 unfold nS
 cases h:il x y with
 | true=>rw [wG h];simp
 | false=>cases il y x <;> simp
theorem rm {x y:BA}:nS x y=0↔x=y:=by
 unfold nS
 constructor
 ·intro h
  cases h1:il x y with
  | true=>simp [h1] at h
  | false=>
   cases h2:il y x with
   | true=>simp [h1,h2] at h
   | false=>exact mQ h1 h2
 ·rintro rfl;simp [oL]
theorem Gw {x y:BA}:nS x y<=0↔il y x=false:=by
 have h:=By (x:=x) (y:=y)
 cases k:il y x with
 | true=>rw [k] at h;simp;have:=h.2 rfl;omega
 | false=>rw [k] at h;simp at h;simp;exact h
theorem rE {x y z:BA} (h:il y x=false) (k:il z y=false):il z x=false:=by
 cases e:il z x with
 | false=>rfl
 | true=>
  cases e2:il x y with
  | true=>have:=ra e e2;rw [k] at this;cases this
  | false=>have:=mQ e2 h;subst this;rw [k] at e;cases e
theorem vr {α:Type} {l:List α} {i:Nat} {d:α} (h:i<l.length):l.getD i d∈l:=by
 rw [gD,gE h];exact List.getElem_mem h
end Go.Sp
