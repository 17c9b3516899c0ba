/- The operations on memory. -/
import Derived.Test.YtigmkniiojpdiaaGreatConC
set_option linter.all false
namespace Go.Sp
open Go

section
variable {P : Program} {R : Fz} {w : World}
theorem perm_set {α : Type _} : ∀ {l : List α} {j : Nat} {A : α} (B : α), l[j]? = some A → (l.set j B).Perm (B :: l.eraseIdx j)
  | [], j, A, B, h => by simp at h
  | C :: l, 0, A, B, h => by simp
  | C :: l, j + 1, A, B, h => by
    have := perm_set (l := l) (j := j) (A := A) B (by simpa using h)
    simpa using (this.cons C).trans (List.Perm.swap _ _ _)
theorem St.opn {l : List As} {j : Nat} {A : As} (h : St R l w) (hj : l[j]? = some A) : ∃ m, A.p R m ∧ Stm R m (l.eraseIdx j) w := by
  obtain ⟨m, hm, k⟩ := St.permL (perm_idx hj) h
  exact ⟨m, hm, by simpa using k⟩
theorem St.shut {l : List As} {j : Nat} {A B : As} {R' : Fz} {m : Mem} {w' : World} (hj : l[j]? = some A) (hB : B.p R' m) (k : Stm R' m (l.eraseIdx j) w') : St R' (l.set j B) w' :=
  St.permL (perm_set B hj).symm ⟨m, hB, by simpa using k⟩
theorem Stm.to {R R' : Fz} {m m' : Mem} {l : List As} {w w' : World} (hR : R.le R') (h : ∀ x, Base R (m ++ x) w → Base R' (m' ++ x) w') (k : Stm R m l w) : Stm R' m' l w' := by
  have := Stm.upd (m := []) hR h (by simpa using k)
  simpa using this
/-- A new block. -/
theorem St.alloc {l : List As} {A : As} {o : Obj} (h : St R l w) (hA : A.p R [(w.heap.size, o)]) : St R (A :: l) { w with heap := w.heap.push o } :=
  ⟨_, hA, Stm.to (m := []) (m' := [(w.heap.size, o)] ++ []) (Fz.le_refl R) (fun x hx => by simpa using hx.alloc o) h⟩

theorem cell_at {b off : Nat} {c : Array Value} {T : TypeId} {fr : Nat × Nat} (h : w.heap[b]? = some (.cells c T fr)) : w.cell? ⟨b, off, none⟩ = c[off]? := by
  simp [World.cell?, h]
theorem add_eq {b off i : Nat} : (⟨b, off, none⟩ : Addr).add i = ⟨b, off + i, none⟩ := by
  unfold Addr.add
  split
  · subst_vars; rfl
  · rfl
theorem run_loadFrom {b off : Nat} {c : Array Value} {T : TypeId} {fr : Nat × Nat} (h : w.heap[b]? = some (.cells c T fr)) :
    ∀ (n i : Nat) (acc : Array Value), off + i + n ≤ c.size → (loadCellsFrom ⟨b, off, none⟩ i n acc).run P w = .ok (acc ++ ((c.toList.drop (off + i)).take n).toArray) w := by
  intro n
  induction n with
  | zero => intro i acc _; simp [loadCellsFrom]
  | succ n ih =>
    intro i acc hle
    have hlt : off + i < c.size := by omega
    simp only [loadCellsFrom, add_eq, Sem.run_bind, run_load, cell_at h, Array.getElem?_eq_getElem hlt, Result.andThen_ok]
    rw [ih (i + 1) _ (by omega)]
    congr 1
    have e : c.toList.drop (off + i) = c[off + i] :: c.toList.drop (off + (i + 1)) := by
      rw [List.drop_eq_getElem_cons (by simpa using hlt)]; simp [Nat.add_assoc]
    rw [e, List.take_succ_cons]
    apply Array.ext'
    simp
theorem run_loadCells {b off n : Nat} {c : Array Value} {T : TypeId} {fr : Nat × Nat} (h : w.heap[b]? = some (.cells c T fr)) (hle : off + n ≤ c.size) :
    (loadCells ⟨b, off, none⟩ n).run P w = .ok ((c.toList.drop off).take n).toArray w := by
  unfold loadCells
  rw [run_loadFrom h n 0 #[] (by omega)]
  simp

/-- Is a type's value one cell, or several by value? -/
def aggD : TypeDesc → Bool
  | .struct _ | .array _ _ => true
  | _ => false
theorem run_isAgg {t : TypeId} {d : TypeDesc} (h : P.underlying t = some d) : (isAgg t).run P w = .ok (aggD d) w := by
  unfold isAgg underlying
  simp only [Sem.run_bind, run_program, Result.andThen_ok, h]
  cases d <;> rfl
theorem info_of {t : TypeId} {d : TypeDesc} (h : P.underlying t = some d) : ∃ i, P.info? t = some i := by
  unfold Program.underlying at h
  cases e : P.info? t with
  | none => rw [e] at h; cases h
  | some i => exact ⟨i, rfl⟩
theorem run_sizeOf {t : TypeId} {d : TypeDesc} {sz : Nat} (h : P.underlying t = some d) (hc : P.cellsOf t = sz) : (sizeOf t).run P w = .ok sz w := by
  obtain ⟨i, hi⟩ := info_of h
  have : i.size = sz := by simpa [Program.cellsOf, hi] using hc
  simp [sizeOf, typeInfo, hi, this]
theorem run_load1 {b off : Nat} {t : TypeId} {d : TypeDesc} {c : Array Value} {T : TypeId} {fr : Nat × Nat} {v : Value} (h : w.heap[b]? = some (.cells c T fr)) (hu : P.underlying t = some d) (hd : aggD d = false)
    (hv : c[off]? = some v) : (loadVar t ⟨b, off, none⟩).run P w = .ok v w := by
  unfold loadVar
  simp [run_isAgg hu, hd, cell_at h, hv]
theorem run_loads {b off sz : Nat} {t : TypeId} {d : TypeDesc} {c : Array Value} {T : TypeId} {fr : Nat × Nat} (h : w.heap[b]? = some (.cells c T fr)) (hu : P.underlying t = some d) (hd : aggD d = true) (hc : P.cellsOf t = sz)
    (hle : off + sz ≤ c.size) : (loadVar t ⟨b, off, none⟩).run P w = .ok (.agg ((c.toList.drop off).take sz).toArray) w := by
  unfold loadVar
  simp [run_isAgg hu, hd, run_sizeOf hu hc, run_loadCells h hle]

theorem blk_heap {l : List As} {b : Nat} {T : TypeId} {ps : Cs} (hA : blk b T ps ∈ l) (hst : St R l w) : ∃ cs : List Value, w.heap[b]? = some (.cells cs.toArray T) ∧ Cs.h R ps cs := by
  obtain ⟨m, ⟨cs, rfl, hc⟩, hw⟩ := St.read hA hst
  exact ⟨cs, hw _ (List.mem_cons_self ..), hc⟩

/-! Stores. -/
theorem set_heap {a : Addr} {v : Value} {k : Nat} (h : k ≠ a.block) : (w.setCell a v).heap[k]? = w.heap[k]? := by
  simp only [World.setCell, Array.getElem?_modify]
  rw [if_neg (Ne.symm h)]
theorem set_here {b off : Nat} {c : Array Value} {T : TypeId} {fr : Nat × Nat} {v : Value} (h : w.heap[b]? = some (.cells c T fr)) : (w.setCell ⟨b, off, none⟩ v).heap[b]? = some (.cells (c.setIfInBounds off v) T fr) := by
  simp [World.setCell, Array.getElem?_modify, h]
theorem Base.setCell {b off : Nat} {c : Array Value} {T : TypeId} {fr : Nat × Nat} {v : Value} {x : Mem} (h : Base R ((b, .cells c T fr) :: x) w) : Base R ((b, .cells (c.setIfInBounds off v) T fr) :: x) (w.setCell ⟨b, off, none⟩ v) :=
  h.set rfl rfl rfl (Nat.le_refl _) (by simp [World.setCell]) (set_here h.get) (fun k hk => set_heap hk)
theorem run_store1 {b off : Nat} {c : Array Value} {T : TypeId} {fr : Nat × Nat} {v : Value} (h : w.heap[b]? = some (.cells c T fr)) (hv : v.oneCell' = true) (hle : off < c.size) (hf : ¬ (fr.1 ≤ off ∧ off < fr.2)) :
    (store ⟨b, off, none⟩ v).run P w = .ok () (w.setCell ⟨b, off, none⟩ v) := by
  rw [run_store P w ⟨b, off, none⟩ v .plain (by cases v <;> first | rfl | (simp [Value.oneCell'] at hv))]
  rw [cell_at h, Array.getElem?_eq_getElem hle]
  have : w.frozen? ⟨b, off, none⟩ = false := by
    simp only [World.frozen?, h]
    simp; omega
  simp [this]
theorem set_app {u v : Value} {off : Nat} : ∀ (c : List Value) (vs : List Value), off < c.length → (c.set off v).take (off + 1) = c.take off ++ [v] := by
  intro c vs h
  rw [List.take_set]
  rw [List.take_succ_eq_append_getElem h, List.set_append_right _ _ (by simp; omega)]
  simp [Nat.min_eq_left (Nat.le_of_lt h)]
/-- A row of cells written from a place on. -/
def splice (c : List Value) (off : Nat) (vs : List Value) : List Value := c.take off ++ vs ++ c.drop (off + vs.length)
theorem splice_len {c : List Value} {off : Nat} {vs : List Value} (h : off + vs.length ≤ c.length) : (splice c off vs).length = c.length := by
  simp [splice]; omega
theorem splice_cons {c : List Value} {off : Nat} {v : Value} {vs : List Value} (h : off + (vs.length + 1) ≤ c.length) : splice c off (v :: vs) = splice (c.set off v) (off + 1) vs := by
  unfold splice
  rw [set_app (u := v) c vs (by omega), List.drop_set]
  rw [if_pos (by omega)]
  simp [Nat.add_assoc, Nat.add_comm 1]
theorem run_stores {b : Nat} {T : TypeId} {fr : Nat × Nat} : ∀ (vs : List Value) (off i : Nat) {c : List Value} {w : World}, w.heap[b]? = some (.cells c.toArray T fr) → (∀ u ∈ vs, u.oneCell' = true) → off + i + vs.length ≤ c.length → (∀ k, k < c.length → ¬ (fr.1 ≤ k ∧ k < fr.2)) →
    ∃ w', (storeCells ⟨b, off, none⟩ vs i).run P w = .ok () w' ∧ ∀ R x, Base R ((b, .cells c.toArray T fr) :: x) w → Base R ((b, .cells (splice c (off + i) vs).toArray T fr) :: x) w' := by
  intro vs
  induction vs with
  | nil => intro off i c w h _ _ _; exact ⟨w, by simp [storeCells], fun R x hx => by simpa [splice] using hx⟩
  | cons v vs ih =>
    intro off i c w h ho hle hf
    simp only [List.length_cons] at hle
    have h1 := run_store1 (P := P) (off := off + i) h (ho v (List.mem_cons_self ..)) (by simp; omega) (hf _ (by omega))
    have h2 : (w.setCell ⟨b, off + i, none⟩ v).heap[b]? = some (.cells (c.set (off + i) v).toArray T fr) := by rw [set_here h]; simp
    obtain ⟨w', hr, hb⟩ := ih off (i + 1) h2 (fun u hu => ho u (List.mem_cons_of_mem _ hu)) (by simp; omega) (by simpa using hf)
    refine ⟨w', ?_, fun R x hx => ?_⟩
    · simp only [storeCells, add_eq, Sem.run_bind, h1, Result.andThen_ok]; exact hr
    · have := hb R x (by have := hx.setCell (off := off + i) (v := v); simpa using this)
      rw [splice_cons (by omega)]
      simpa [Nat.add_assoc] using this
theorem run_storeVar {b off : Nat} {t : TypeId} {d : TypeDesc} {sz : Nat} {c : List Value} {T : TypeId} {fr : Nat × Nat} {v : Value} (hu : P.underlying t = some d) (hc : P.cellsOf t = sz) (h : w.heap[b]? = some (.cells c.toArray T fr))
    (hs : v.cells.toList.length = sz) (ho : ∀ u ∈ v.cells.toList, u.oneCell' = true) (hle : off + sz ≤ c.length) (hf : ∀ k, k < c.length → ¬ (fr.1 ≤ k ∧ k < fr.2)) :
    ∃ w', (storeVar t ⟨b, off, none⟩ v).run P w = .ok () w' ∧ ∀ R x, Base R ((b, .cells c.toArray T fr) :: x) w → Base R ((b, .cells (splice c off v.cells.toList).toArray T fr) :: x) w' := by
  obtain ⟨w', hr, hb⟩ := run_stores (P := P) v.cells.toList off 0 h ho (by omega) hf
  refine ⟨w', ?_, by simpa using hb⟩
  unfold storeVar
  have : v.cells.size = sz := by simpa using hs
  simp [run_sizeOf hu hc, this, hr]

/-- The cells of a block, some of them anew. -/
def spl (ps : Cs) (off : Nat) (qs : Cs) : Cs := ps.take off ++ qs ++ ps.drop (off + qs.length)
theorem Cs.splice {ps qs : Cs} {cs us : List Value} {off : Nat} (h : Cs.h R ps cs) (k : Cs.h R qs us) : Cs.h R (spl ps off qs) (splice cs off us) := by
  unfold spl Sp.splice
  rw [All2.length k]
  exact ((All2.take h off).append k).append (All2.drop h _)
end
end Go.Sp
