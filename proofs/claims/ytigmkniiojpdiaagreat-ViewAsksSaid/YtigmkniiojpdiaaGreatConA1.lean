/- Ranging over a map that stays as it is. -/
import Derived.Test.YtigmkniiojpdiaaGreatConZ
import Derived.Laws.IdiomRangeMap
set_option linter.all false
namespace Go.Sp
open Go
theorem run_getI {P : Program} {w : World} {b : Nat} {r : Option Nat} {c d : Nat} {a : Array Nat} (h : w.heap[b]? = some (.mapIter r c a d)) : (getObj b).run P w = .ok (.mapIter r c a d) w := by simp [getObj, Sem.run, h]
theorem run_setI {P : Program} {w : World} {b : Nat} {r : Option Nat} {c d : Nat} {a : Array Nat} {o' : Obj} (h : w.heap[b]? = some (.mapIter r c a d)) : (setObj b o').run P w = .ok () { w with heap := w.heap.setIfInBounds b o' } := by simp [setObj, Sem.run, h]
/-- One more is handed out, or nothing is left. -/
theorem run_next {P : Program} {w : World} {b r clock : Nat} {seen : Array Nat} {es : Array MapEntry} {ty : TypeId} (hb : w.heap[b]? = some (.mapIter (some r) clock seen clock)) (hr : w.heap[r]? = some (.map es clock)) (hold : ∀ x ∈ es.toList, x.born < clock) :
    ((leftOf es seen).size = 0 ∧ (Instr.next (.pointer (some ⟨b, 0, none⟩)) false ty).run P w = .ok (.tuple #[.bool false]) w) ∨
    ∃ e ∈ (leftOf es seen).toList, ∃ n, w.drawn ≤ n ∧ (Instr.next (.pointer (some ⟨b, 0, none⟩)) false ty).run P w = .ok (.tuple #[.bool true, e.key, e.val]) { w with drawn := n, heap := w.heap.setIfInBounds b (.mapIter (some r) clock (seen.push e.born) clock) } := by
  simp only [Instr.next, Sem.run_bind, run_getI hb, run_getMap hr, Result.andThen_ok, next_test_false seen es clock clock hold (Nat.le_refl _), Bool.false_eq_true, if_false]
  unfold leftOf
  have hmem : ∀ x ∈ (Array.filter (fun e => !seen.contains e.born) es).toList, x.born < clock := fun x hx => hold x (by simp at hx ⊢; exact hx.1)
  generalize Array.filter (fun e => !seen.contains e.born) es = L at hmem ⊢
  have e1 : L.filter (fun x => decide (x.born < clock)) = L := Array.filter_eq_self.2 (fun x hx => by simpa using hmem x (by simpa using hx))
  have e2 : L.filter (fun x => decide (x.born ≥ clock)) = #[] := by
    rw [Array.filter_eq_empty_iff]
    intro x hx
    have := hmem x (by simpa using hx)
    simp
    omega
  simp only [e1, e2, Array.append_empty]
  by_cases h0 : L.size = 0
  · left
    have : L = #[] := Array.eq_empty_of_size_eq_zero h0
    subst this
    refine ⟨rfl, ?_⟩
    simp [choose, Sem.run, Question.forced]
  · right
    have hne : L.isEmpty = false := by simp [Array.isEmpty, h0]
    simp only [hne, Bool.false_eq_true, if_false, Array.empty_append, Array.size_map]
    have hch : ∃ (j n : Nat), j < L.size ∧ w.drawn ≤ n ∧ (choose (Question.mapNext L.size)).run P w = .ok j { w with drawn := n } := by
      by_cases hf : L.size ≤ 1
      · exact ⟨0, w.drawn, by omega, Nat.le_refl _, by simp [choose, Sem.run, Question.forced, hf]⟩
      · exact ⟨_, w.drew.drawn, Nat.mod_lt _ (by omega), Nat.le_succ _, by
          simp only [choose, Sem.run, Question.forced, decide_eq_true_eq, hf, if_false, Question.cut]
          rfl⟩
    obtain ⟨j, n, hj, hn, hrun⟩ := hch
    refine ⟨L[j], by simp, n, hn, ?_⟩
    simp only [hrun, Array.getElem?_map, Array.getElem?_eq_getElem hj, Option.map_some, Sem.run_bind, Result.andThen]
    rw [run_setI (w := { w with drawn := n }) hb]
    rfl
section
variable {κ α : Type} [DecidableEq κ]
def brn (es : List MapEntry) (i : Nat) : Nat := (es.getD i default).born
/-- A map over which is ranged: the places of the entries that were handed out. -/
def rng (kv : κ → Value) (vp : α → VP) (v it : Value) (m : List (κ × α)) (is : List Nat) : As :=
  ⟨fun R mem => ∃ r clock b, ∃ es : List MapEntry, v = .map (some r) ∧ it = .pointer (some ⟨b, 0, none⟩) ∧ mem = [(b, .mapIter (some r) clock (is.map (brn es)).toArray clock), (r, .map es.toArray clock)] ∧ Ents kv vp R m es ∧ es.Pairwise (fun a b => a.born < b.born) ∧ (∀ e ∈ es, e.born < clock) ∧ is.Nodup ∧ ∀ i ∈ is, i < m.length,
   fun hR ⟨r, clock, b, es, e, e2, hm, h, h2, h3, h4, h5⟩ => ⟨r, clock, b, es, e, e2, hm, All2.imp (fun ka _ k => ⟨k.1, (vp ka.2).mono hR k.2⟩) h, h2, h3, h4, h5⟩⟩
theorem born_inj {es : List MapEntry} (h : es.Pairwise (fun a b => a.born < b.born)) {i j : Nat} (hi : i < es.length) (hj : j < es.length) (e : es[i].born = es[j].born) : i = j := by
  rcases Nat.lt_trichotomy i j with h1 | h1 | h1
  · have := List.pairwise_iff_getElem.1 h i j hi hj h1; omega
  · exact h1
  · have := List.pairwise_iff_getElem.1 h j i hj hi h1; omega
theorem brn_at {es : List MapEntry} {i : Nat} (h : i < es.length) : brn es i = es[i].born := by
  unfold brn; rw [List.getD_eq_getElem?_getD, List.getElem?_eq_getElem h]; rfl
/-- What is left. -/
theorem left_mem {es : List MapEntry} {is : List Nat} (h : es.Pairwise (fun a b => a.born < b.born)) (his : ∀ i ∈ is, i < es.length) {e : MapEntry} : e ∈ (leftOf es.toArray (is.map (brn es)).toArray).toList ↔ ∃ i, ∃ hi : i < es.length, es[i] = e ∧ i ∉ is := by
  unfold leftOf
  simp only [List.filter_toArray, List.mem_filter, Bool.not_eq_true', List.contains_eq_mem, List.mem_toArray, List.contains_toArray, decide_eq_false_iff_not, List.mem_map, not_exists, not_and]
  constructor
  · rintro ⟨h1, h2⟩
    obtain ⟨i, hi, rfl⟩ := List.mem_iff_getElem.1 h1
    exact ⟨i, hi, rfl, fun hm => h2 i hm (brn_at hi)⟩
  · rintro ⟨i, hi, rfl, hn⟩
    refine ⟨List.getElem_mem hi, fun j hj e => ?_⟩
    rw [brn_at (his j hj)] at e
    exact hn (born_inj h (his j hj) hi e ▸ hj)
end
section
variable {P : Program} {ops : Array Oper} {n : Nat} {dr : Bool} {R0 : Fz} {K : Act → World → Prop} {E : Env} {l : List As} {pend : List (Nat × (List As → Prop))} {rest : List (Nat × Bool)} {i d : Nat}
variable {T : TypeId} {ps : String} {af : Array Edge} {g : Option (Nat × Bool)} {x y : Operand} {κ α : Type} [DecidableEq κ] {kv : κ → Value} {vp : α → VP} {v it : Value} {m : List (κ × α)} {is : List Nat}
/-- A range begins. -/
theorem Dv.rgb {t kt et : TypeId} {jj : Nat} (ho : opAt ops.toList i = some ⟨some d, .range t x, T, ps, af, g⟩) (hg : GOn ops E g) (hx : opv E x = some (eq v)) (hjj : l[jj]? = some (mp kv vp v m)) (hu : P.underlying t = some (.map kt et))
    (hp : dr = true → ∀ z ∈ pend, ((Region.before ops).getD i 0).testBit z.1 = true ∨ ∀ q : OV, z.2 (l.set jj (rng kv vp v q.1 m [])))
    (h : ∀ q : OV, Dv P ops n dr R0 K ((d, eq q.1) :: E) (l.set jj (rng kv vp v q.1 m [])) pend rest) : Dv P ops n dr R0 K E l pend ((i, true) :: rest) :=
  .bar _ (γ := OV) (fun _ => True) (fun q => eq q.1) (fun q => l.set jj (rng kv vp v q.1 m [])) (at_of ho) (OpBar.val hg fun R a w h hst => by
    have e1 := h x (by simp [Op.operands]) _ hx
    simp only [eq_p] at e1
    obtain ⟨mem, ⟨r, clock, es, e, hm, he, hpw, hcl⟩, hk2⟩ := hst.opn hjj
    subst hm
    have hh := (Stm.base hk2).get
    refine ⟨⟨.pointer (some ⟨w.heap.size, 0, none⟩), rfl⟩, R, _, { w with heap := w.heap.push (.mapIter (some r) clock #[] clock) }, trivial, Fz.le_refl R, rfl, St.shut hjj ⟨r, clock, w.heap.size, es, e, rfl, rfl, he, hpw, hcl, List.nodup_nil, fun i hi => by cases hi⟩ (Stm.to (Fz.le_refl R) (fun x hx => hx.alloc _) hk2), ?_⟩
    simp [execOp, Instr.range, e1, e, run_underlying hu, run_getMap hh]) (fun e z hz => (hp e z hz).imp id fun h b _ => h b) (fun b _ => h b)
/-- What the next step hands out. -/
def nxV (kv : κ → Value) (vp : α → VP) (m : List (κ × α)) : Option Nat → VP
  | none => tup [eq (.bool false)]
  | some j => match m[j]? with | some e => tup [eq (.bool true), eq (kv e.1), vp e.2] | none => eq undef
def nxL (is : List Nat) : Option Nat → List Nat
  | none => is
  | some j => is ++ [j]
def nxOk (m : List (κ × α)) (is : List Nat) : Option Nat → Prop
  | none => is.Perm (List.range m.length)
  | some j => j < m.length ∧ j ∉ is ∧ is.length < m.length
theorem nodup_perm_range {is : List Nat} {n : Nat} (h : is.Nodup) (h1 : ∀ i ∈ is, i < n) (h2 : ∀ i, i < n → i ∈ is) : is.Perm (List.range n) :=
  (List.perm_ext_iff_of_nodup h List.nodup_range).2 fun a => ⟨fun ha => List.mem_range.2 (h1 a ha), fun ha => h2 a (List.mem_range.1 ha)⟩
theorem nodup_len {is : List Nat} {n : Nat} (h : is.Nodup) (h1 : ∀ i ∈ is, i < n) {j : Nat} (hj : j < n) (hn : j ∉ is) : is.length < n := by
  have hp : (j :: is).Perm ((List.range n).filter fun i => decide (i ∈ j :: is)) := (List.perm_ext_iff_of_nodup (List.nodup_cons.2 ⟨hn, h⟩) (List.nodup_range.filter _)).2 fun a => by
    rw [List.mem_filter, List.mem_range, decide_eq_true_eq]
    exact ⟨fun ha => ⟨(List.mem_cons.1 ha).elim (fun e => e ▸ hj) (h1 a), ha⟩, fun ha => ha.2⟩
  have h2 := hp.length_eq
  have h3 := List.length_filter_le (fun i => decide (i ∈ j :: is)) (List.range n)
  rw [List.length_range] at h3
  rw [List.length_cons] at h2
  omega
/-- The next step. -/
theorem Dv.rgn {ty : TypeId} {jj : Nat} (ho : opAt ops.toList i = some ⟨some d, .next x false, ty, ps, af, g⟩) (hg : GOn ops E g) (hx : opv E x = some (eq it)) (hjj : l[jj]? = some (rng kv vp v it m is))
    (hp : dr = true → ∀ z ∈ pend, ((Region.before ops).getD i 0).testBit z.1 = true ∨ ∀ q : Option Nat, nxOk m is q → z.2 (l.set jj (rng kv vp v it m (nxL is q))))
    (h : ∀ q : Option Nat, nxOk m is q → Dv P ops n dr R0 K ((d, nxV kv vp m q) :: E) (l.set jj (rng kv vp v it m (nxL is q))) pend rest) : Dv P ops n dr R0 K E l pend ((i, true) :: rest) :=
  .bar _ (γ := Option Nat) (nxOk m is) (nxV kv vp m) (fun q => l.set jj (rng kv vp v it m (nxL is q))) (at_of ho) (OpBar.val hg fun R a w h hst => by
    have e1 := h x (by simp [Op.operands]) _ hx
    simp only [eq_p] at e1
    obtain ⟨mem, ⟨r, clock, b, es, e, e2, hm, he, hpw, hcl, hnd, hlt⟩, hk2⟩ := hst.opn hjj
    subst hm
    have hlen := All2.length he
    have hlt' : ∀ i ∈ is, i < es.length := fun i hi => by rw [← hlen]; exact hlt i hi
    have hb := (Stm.base hk2).own (b, _) (List.mem_cons_self ..)
    have hr := (Stm.base hk2).own (r, _) (List.mem_cons_of_mem _ (List.mem_cons_self ..))
    rcases run_next (P := P) (ty := ty) hb hr (by simpa using hcl) with ⟨h0, hrun⟩ | ⟨c, hc, k, hkd, hrun⟩
    · refine ⟨none, R, _, w, ?_, Fz.le_refl R, ⟨[.bool false], rfl, .cons rfl .nil⟩, St.shut hjj ⟨r, clock, b, es, e, e2, rfl, he, hpw, hcl, hnd, hlt⟩ hk2, ?_⟩
      · refine nodup_perm_range hnd hlt fun i hi => ?_
        apply Classical.byContradiction
        intro hn
        have hm := (left_mem hpw hlt').2 ⟨i, by omega, rfl, hn⟩
        rw [Array.eq_empty_of_size_eq_zero h0] at hm
        simp at hm
      · simp only [execOp, e1, e2, Sem.run_bind]
        rw [hrun]; rfl
    · obtain ⟨j, hj, rfl, hn⟩ := (left_mem hpw hlt').1 hc
      have hjm : j < m.length := by omega
      obtain ⟨c', hc', hk1, hk3⟩ := he.get (List.getElem?_eq_getElem hjm)
      rw [List.getElem?_eq_getElem hj] at hc'
      cases hc'
      refine ⟨some j, R, .tuple #[.bool true, es[j].key, es[j].val], { w with drawn := k, heap := w.heap.setIfInBounds b (.mapIter (some r) clock (((is.map (brn es)).toArray).push es[j].born) clock) }, ⟨hjm, hn, nodup_len hnd hlt hjm hn⟩, Fz.le_refl R, ?_, St.shut hjj ⟨r, clock, b, es, e, e2, rfl, he, hpw, hcl, ?_, ?_⟩ (Stm.to (Fz.le_refl R) (m' := [(b, .mapIter (some r) clock ((is ++ [j]).map (brn es)).toArray clock), (r, .map es.toArray clock)]) (fun x hx => ?_) hk2), ?_⟩
      · simp only [nxV]
        rw [List.getElem?_eq_getElem hjm]
        exact ⟨[.bool true, es[j].key, es[j].val], rfl, .cons rfl (.cons hk1 (.cons hk3 .nil))⟩
      · exact List.nodup_append.2 ⟨hnd, List.nodup_cons.2 ⟨by simp, List.nodup_nil⟩, fun a ha b hb => by rw [List.mem_singleton.1 hb]; exact fun e => hn (e ▸ ha)⟩
      · intro i hi
        rcases List.mem_append.1 hi with hi | hi
        · exact hlt i hi
        · rw [List.mem_singleton.1 hi]; exact hjm
      · have := (hx.drew k hkd).obj (o' := .mapIter (some r) clock ((is ++ [j]).map (brn es)).toArray clock)
        have e3 : ((is ++ [j]).map (brn es)).toArray = ((is.map (brn es)).toArray).push es[j].born := by
          rw [List.map_append, List.map_singleton, brn_at hj, List.push_toArray]
        rw [e3] at this ⊢
        exact this
      · simp only [execOp, e1, e2, Sem.run_bind]
        rw [hrun]; rfl) (fun e z hz => (hp e z hz).imp id fun h b hb => h b hb) (fun b hb => h b hb)
/-- The entry that was handed out last. -/
theorem Dv.rge {ty : TypeId} {j : Nat} {e : κ × α} (jj : Nat) (ho : opAt ops.toList i = some ⟨some d, .entry x, ty, ps, af, g⟩) (hg : GOn ops E g) (hx : opv E x = some (eq it)) (hjj : l[jj]? = some (rng kv vp v it m (is ++ [j]))) (hj : m[j]? = some e)
    (k : Dv P ops n dr R0 K ((d, tup [eq (kv e.1), vp e.2]) :: E) l ((i, (rng kv vp v it m (is ++ [j]) ∈ ·)) :: pend) rest) : Dv P ops n dr R0 K E l pend ((i, false) :: rest) :=
  Dv.okd _ _ ho (OpOk.val hg fun R a w l h hA hst => by
    have e1 := h x (by simp [Op.operands]) _ hx
    simp only [eq_p] at e1
    obtain ⟨mem, ⟨r, clock, b, es, e3, e2, hm, he, hpw, hcl, hnd, hlt⟩, hw⟩ := St.read hA hst
    subst hm
    have hb := hw (b, _) (List.mem_cons_self ..)
    have hr := hw (r, _) (List.mem_cons_of_mem _ (List.mem_cons_self ..))
    obtain ⟨c, hc, hk1, hk3⟩ := he.get hj
    have hjl : j < es.length := (List.getElem?_eq_some_iff.1 hc).1
    have hcj : es[j] = c := (List.getElem?_eq_some_iff.1 hc).2
    refine ⟨R, .tuple #[c.key, c.val], w, Fz.le_refl R, ⟨[c.key, c.val], rfl, .cons hk1 (.cons hk3 .nil)⟩, hst, ?_⟩
    have hbk : ((is ++ [j]).map (brn es)).toArray.back? = some c.born := by
      rw [List.map_append, List.map_singleton, brn_at hjl, hcj]; simp
    have hf : es.toArray.find? (·.born == c.born) = some c := by
      rw [List.find?_toArray]
      exact find_born c es (by
        rw [List.nodup_iff_pairwise_ne, List.pairwise_map]
        exact hpw.imp fun h => Nat.ne_of_lt h) (by rw [← hcj]; exact List.getElem_mem hjl)
    simp only [execOp, e1, e2, Sem.run_bind, Instr.entry, run_getI hb, run_getMap hr, Result.andThen_ok, hbk, bne_self_eq_false, Bool.false_eq_true, if_false, hf]
    rfl) (mem_at jj hjj) k
/-- A range ends. -/
theorem st_rge {l r : List As} (hp : l.Perm (rng kv vp v it m is :: r)) : ∀ R w, St R l w → ∃ _ : Unit, True ∧ St R (mp kv vp v m :: r) w := fun R w h => by
  obtain ⟨mem, hm, hk⟩ := h.permL hp
  obtain ⟨r', clock, b, es, e, e2, hm, he, hpw, hcl, _, _⟩ := hm
  subst hm
  refine ⟨(), trivial, [(r', .map es.toArray clock)], ⟨r', clock, es, e, rfl, he, hpw, hcl⟩, Stm.to (Fz.le_refl R) (fun x hx => ?_) hk⟩
  exact Base.drop (m := [(b, _)]) hx
end
end Go.Sp
