/- Rows of our own: they grow, are written, are frozen, are lent. -/
import Derived.Test.YtigmkniiojpdiaaGreatConH
import Derived.Laws.AppendOwn
set_option linter.all false
namespace Go.Sp
open Go

/-- A slice whose row is owned, whatever its block's type: v is its value. -/
def own {α : Type} (K : Kd α) (v : Value) (xs : List α) : As :=
  ⟨fun R m => (∃ a, v = .slice a 0 0 ∧ xs = [] ∧ m = []) ∨ ∃ b off c T fr, ∃ cs : List Value, v = .slice (some ⟨b, off, none⟩) xs.length c ∧ xs.length ≤ c ∧ m = [(b, .cells cs.toArray T fr)] ∧ off + c * K.sz ≤ cs.length ∧ fr = ((0, 0) : Nat × Nat) ∧
      Cs.h R (xs.flatMap K.enc) ((cs.drop off).take (xs.length * K.sz)),
   fun hR h => by
    rcases h with h | ⟨b, off, c, T, fr, cs, e, hl, hm, hc, hf, h⟩
    · exact .inl h
    · exact .inr ⟨b, off, c, T, fr, cs, e, hl, hm, hc, hf, Cs.mono hR h⟩⟩
theorem nofr {fr : Nat × Nat} (h : fr = (0, 0)) {n : Nat} : ∀ i, i < n → ¬ (fr.1 ≤ i ∧ i < fr.2) := fun i _ => by subst h; simp
section
variable {α : Type} {Kd : Kd α} {v : Value} {xs ys : List α} {R : Fz} {m : Mem}
theorem own_nil (a : Option Addr) : (own Kd (.slice a 0 0) []).p R [] := .inl ⟨a, rfl, rfl, rfl⟩
theorem own_shape (h : (own Kd v xs).p R m) : ∃ ad c, v = .slice ad xs.length c := by
  rcases h with ⟨a, e, e2, _⟩ | ⟨b, off, c, T, fr, cs, e, _⟩
  · subst e2; exact ⟨_, _, e⟩
  · exact ⟨_, _, e⟩
theorem own_frz (h : (own Kd v xs).p R m) : (sl Kd xs).p (R.plus m) v := by
  rcases h with ⟨a, e, e2, _⟩ | ⟨b, off, c, T, fr, cs, e, hl, hm, hc, _, h⟩
  · exact .inl ⟨a, 0, e, e2⟩
  · exact .inr ⟨b, off, c, T, fr, cs.toArray, e, hl, .inr (by rw [hm]; exact List.mem_cons_self ..), by simpa using hc, Cs.mono (R.le_plus m) (by simpa using h)⟩
theorem one_slice {a : Option Addr} {n c : Nat} : One (eq (.slice a n c)) := one_eq rfl
end

section
variable {P : Program} {ops : Array Oper} {n : Nat} {dr : Bool} {R0 : Fz} {K : Act → World → Prop} {E : Env} {l : List As} {pend : List (Nat × (List As → Prop))} {rest : List (Nat × Bool)} {i d : Nat}
variable {T : TypeId} {ps : String} {af : Array Edge} {g : Option (Nat × Bool)} {x y : Operand} {α : Type} {Kd : Kd α} {v : Value} {xs : List α}

theorem Dv.lenw {t e : TypeId} (ho : opAt ops.toList i = some ⟨some d, .call ⟨.builtin .len, #[x], #[t]⟩, T, ps, af, g⟩) (hg : GOn ops E g) (hx : opv E x = some (eq v)) (hA : own Kd v xs ∈ l) (hu : P.underlying t = some (.slice e))
    (k : Dv P ops n dr R0 K ((d, eq (.int .i64 xs.length)) :: E) l ((i, (own Kd v xs ∈ ·)) :: pend) rest) : Dv P ops n dr R0 K E l pend ((i, false) :: rest) :=
  Dv.okd _ _ ho (OpOk.val hg fun R a w l h hA hst => by
    have e1 := h x (by simp [Op.operands, Call.operands]) _ hx
    simp only [eq_p] at e1
    obtain ⟨m, hm, _⟩ := St.read hA hst
    obtain ⟨ad, c, e2⟩ := own_shape hm
    exact ⟨R, _, w, Fz.le_refl R, rfl, hst, run_len_l hu a (e1.trans e2)⟩) hA k

/-- A pointer to a cell of a row. -/
def ep (v : Value) (o : Nat) : VP := ⟨fun _ u => ∃ b off m c, v = .slice (some ⟨b, off, none⟩) m c ∧ u = .pointer (some ⟨b, off + o, none⟩), fun _ h => h⟩
theorem Dv.ixw {t e : TypeId} {ed : TypeDesc} {ik : IntKind} {m : Int} (ho : opAt ops.toList i = some ⟨some d, .indexAddr t x y, T, ps, af, g⟩) (hg : GOn ops E g)
    (hx : opv E x = some (eq v)) (hA : own Kd v xs ∈ l) (hy : opv E y = some (eq (.int ik m))) (hu : P.underlying t = some (.slice e)) (hv : P.underlying e = some ed) (hz : P.cellsOf e = Kd.sz) (h0 : 0 ≤ m) (h1 : m < xs.length)
    (k : Dv P ops n dr R0 K ((d, ep v (m.toNat * Kd.sz)) :: E) l ((i, (own Kd v xs ∈ ·)) :: pend) rest) : Dv P ops n dr R0 K E l pend ((i, false) :: rest) :=
  Dv.okd _ _ ho (OpOk.val hg fun R a w l h hA hst => by
    have e1 := h x (by simp [Op.operands]) _ hx
    have e2 := h y (by simp [Op.operands]) _ hy
    simp only [eq_p] at e1 e2
    obtain ⟨mm, hm, _⟩ := St.read hA hst
    rcases hm with ⟨_, _, e3, _⟩ | ⟨b, off, c, T, fr, cs, e3, _⟩
    · subst e3; simp at h1; omega
    · exact ⟨R, _, w, Fz.le_refl R, ⟨b, off, _, _, e3, rfl⟩, hst, by simp [execOp, e1, e2, e3, Instr.indexAt, asIntOf, underlying, hu, h0, h1, run_sizeOf hv hz, add_eq]⟩) hA k
theorem Dv.faw {s j o : Nat} {fs : Array Field} {f : Field} {fd : TypeDesc} {sz : Nat} (ho : opAt ops.toList i = some ⟨some d, .fieldAddr s x j, T, ps, af, g⟩) (hg : GOn ops E g)
    (hx : opv E x = some (ep v o)) (hu : P.underlying s = some (.struct fs)) (hf : fs[j]? = some f) (hv : P.underlying f.type = some fd) (hz : P.cellsOf f.type = sz) (h0 : sz ≠ 0)
    (k : Dv P ops n dr R0 K ((d, ep v (o + f.offset)) :: E) l ((i, tt) :: pend) rest) : Dv P ops n dr R0 K E l pend ((i, false) :: rest) :=
  Dv.okd _ _ ho (OpOk.pure hg fun R a w h => by
    obtain ⟨b, off, m, c, e, e2⟩ := h x (by simp [Op.operands]) _ hx
    exact ⟨_, ⟨b, off, m, c, e, rfl⟩, by simp [execOp, e2, Instr.fieldAt, underlying, hu, hf, Instr.sureAddr, run_fieldPlace hv hz h0, Nat.add_assoc]⟩) trivial k
theorem own_heap {R : Fz} {w : World} (hA : own Kd v xs ∈ l) (hst : St R l w) {b off m c : Nat} (e : v = .slice (some ⟨b, off, none⟩) m c) {j : Nat} (hj : j < xs.length) :
    ∃ T fr, ∃ cs : List Value, w.heap[b]? = some (.cells cs.toArray T fr) ∧ off + (j * Kd.sz + Kd.sz) ≤ cs.length ∧ Cs.h R (Kd.enc (xs.getD j Kd.dflt)) ((cs.drop (off + j * Kd.sz)).take Kd.sz) := by
  obtain ⟨mm, hm, hw⟩ := St.read hA hst
  rcases hm with ⟨_, _, e3, _⟩ | ⟨b', off', c', T, fr, cs, e3, hl, hm, hc, _, hh⟩
  · subst e3; simp at hj
  · rw [e3] at e
    cases e
    refine ⟨T, fr, cs, hw (b, _) (by rw [hm]; exact List.mem_cons_self ..), ?_, Cs.elem hj hh⟩
    have := idx_le (sz := Kd.sz) (Nat.lt_of_lt_of_le hj hl)
    omega
theorem Dv.ldw {t : TypeId} {td : TypeDesc} {p : VP} {j f : Nat} (ho : opAt ops.toList i = some ⟨some d, .load t x, T, ps, af, g⟩) (hg : GOn ops E g)
    (hx : opv E x = some (ep v (j * Kd.sz + f))) (hA : own Kd v xs ∈ l) (hj : j < xs.length) (hu : P.underlying t = some td) (hd : aggD td = false) (hp : (Kd.enc (xs.getD j Kd.dflt))[f]? = some p)
    (k : Dv P ops n dr R0 K ((d, p) :: E) l ((i, (own Kd v xs ∈ ·)) :: pend) rest) : Dv P ops n dr R0 K E l pend ((i, false) :: rest) :=
  Dv.okd _ _ ho (OpOk.val hg fun R a w l h hA hst => by
    obtain ⟨b, off, m, c, e, e2⟩ := h x (by simp [Op.operands]) _ hx
    obtain ⟨bT, fr, cs, hh, hle, hc⟩ := own_heap hA hst e hj
    obtain ⟨u, hu2, hpv⟩ := take_all2 hc hp
    have := run_load1 (P := P) (off := off + j * Kd.sz + f) hh hu hd (by have := getm (c := cs.toArray) (by simpa using hu2); simpa using this)
    exact ⟨R, u, w, Fz.le_refl R, hpv, hst, by rw [← Nat.add_assoc] at e2; simp [execOp, e2, Instr.loadAt, Instr.sureAddr, this]⟩) hA k
theorem Dv.ldws {t : TypeId} {td : TypeDesc} {sz : Nat} {j f : Nat} (ho : opAt ops.toList i = some ⟨some d, .load t x, T, ps, af, g⟩) (hg : GOn ops E g)
    (hx : opv E x = some (ep v (j * Kd.sz + f))) (hA : own Kd v xs ∈ l) (hj : j < xs.length) (hu : P.underlying t = some td) (hd : aggD td = true) (hz : P.cellsOf t = sz) (hq : f + sz ≤ Kd.sz)
    (k : Dv P ops n dr R0 K ((d, agg (((Kd.enc (xs.getD j Kd.dflt)).drop f).take sz)) :: E) l ((i, (own Kd v xs ∈ ·)) :: pend) rest) : Dv P ops n dr R0 K E l pend ((i, false) :: rest) :=
  Dv.okd _ _ ho (OpOk.val hg fun R a w l h hA hst => by
    obtain ⟨b, off, m, c, e, e2⟩ := h x (by simp [Op.operands]) _ hx
    obtain ⟨bT, fr, cs, hh, hle, hc⟩ := own_heap hA hst e hj
    have := run_loads (P := P) (off := off + j * Kd.sz + f) hh hu hd hz (by simp; omega)
    refine ⟨R, _, w, Fz.le_refl R, ⟨_, rfl, ?_⟩, hst, by rw [← Nat.add_assoc] at e2; simp [execOp, e2, Instr.loadAt, Instr.sureAddr, this]; rfl⟩
    have h3 := All2.take (All2.drop hc f) sz
    rw [List.drop_take, List.take_take, List.drop_drop, Nat.min_eq_left (by omega)] at h3
    unfold Cs.h
    simpa using h3) hA k

theorem spl_app {p r qs : Cs} {f : Nat} (h : f + qs.length ≤ p.length) : spl (p ++ r) f qs = spl p f qs ++ r := by
  unfold spl
  rw [List.take_append_of_le_length (by omega), List.drop_append_of_le_length h]; simp
theorem spl_add {p r qs : Cs} {o : Nat} : spl (p ++ r) (p.length + o) qs = p ++ spl r o qs := by
  unfold spl
  rw [List.take_length_add_append, Nat.add_assoc, List.drop_length_add_append]; simp
theorem flatMap_set {x' : α} {f : Nat} {qs : Cs} : ∀ (xs : List α) (j : Nat), j < xs.length → f + qs.length ≤ Kd.sz → Kd.enc x' = spl (Kd.enc (xs.getD j Kd.dflt)) f qs → (xs.set j x').flatMap Kd.enc = spl (xs.flatMap Kd.enc) (j * Kd.sz + f) qs
  | [], j, h, _, _ => by simp at h
  | x :: xs, 0, _, hf, he => by
    simp only [List.set_cons_zero, List.flatMap_cons, Nat.zero_mul, Nat.zero_add]
    rw [spl_app (by rw [Kd.len]; exact hf), he]; rfl
  | x :: xs, j + 1, h, hf, he => by
    have ih := flatMap_set xs j (by simpa using h) hf (by simpa using he)
    simp only [List.set_cons_succ, List.flatMap_cons, ih]
    rw [show (j + 1) * Kd.sz + f = (Kd.enc x).length + (j * Kd.sz + f) by rw [Kd.len, Nat.succ_mul]; omega, spl_add]
theorem splice_in {cs us : List Value} {off o N : Nat} (h : o + us.length ≤ N) (h2 : off + N ≤ cs.length) : ((splice cs (off + o) us).drop off).take N = splice ((cs.drop off).take N) o us := by
  unfold splice
  have e1 : (cs.take (off + o) ++ us ++ cs.drop (off + o + us.length)).drop off = (cs.drop off).take o ++ (us ++ cs.drop (off + o + us.length)) := by
    rw [List.append_assoc, List.drop_append_of_le_length (by simp; omega), List.drop_take]
    congr 2; omega
  have l1 : ((cs.drop off).take o).length = o := by simp; omega
  have e2 : (((cs.drop off).take o) ++ (us ++ cs.drop (off + o + us.length))).take N = (cs.drop off).take o ++ (us ++ (cs.drop (off + o + us.length)).take (N - o - us.length)) := by
    rw [List.take_append, l1, List.take_append, List.take_of_length_le (l := (cs.drop off).take o) (by omega), List.take_of_length_le (l := us) (by omega)]
  rw [e1, e2, List.take_take, Nat.min_eq_left (by omega), List.drop_take, List.drop_drop, List.append_assoc, Nat.add_assoc, Nat.sub_sub]
theorem Dv.stw {t : TypeId} {td : TypeDesc} {sz : Nat} {p : VP} {qs : Cs} {j f jj : Nat} (x' : α) (ho : opAt ops.toList i = some ⟨none, .store t x y, T, ps, af, g⟩) (hg : GOn ops E g)
    (hx : opv E x = some (ep v (j * Kd.sz + f))) (hy : opv E y = some p) (hq : CellsP p qs) (hu : P.underlying t = some td) (hz : P.cellsOf t = sz) (hl : qs.length = sz) (hjj : l[jj]? = some (own Kd v xs)) (hj : j < xs.length) (hle : f + qs.length ≤ Kd.sz)
    (he : Kd.enc x' = spl (Kd.enc (xs.getD j Kd.dflt)) f qs)
    (hp : dr = true → ∀ z ∈ pend, ((Region.before ops).getD i 0).testBit z.1 = true ∨ ∀ _ : Unit, z.2 (l.set jj (own Kd v (xs.set j x'))))
    (k : Dv P ops n dr R0 K E (l.set jj (own Kd v (xs.set j x'))) pend rest) : Dv P ops n dr R0 K E l pend ((i, true) :: rest) :=
  .bar _ (γ := Unit) (fun _ => True) (fun _ => eq undef) (fun _ => l.set jj (own Kd v (xs.set j x'))) (at_of ho) (OpBar.act hg fun R a w h hst => by
    obtain ⟨b, off, m, c, e, e2⟩ := h x (by simp [Op.operands]) _ hx
    have hv := h y (by simp [Op.operands]) _ hy
    obtain ⟨hc, ho1⟩ := hq R _ hv
    obtain ⟨mm, hm, hk⟩ := hst.opn hjj
    rcases hm with ⟨_, _, e3, _⟩ | ⟨b', off', c', bT, fr, cs, e3, hlc, hm, hcs, hfr, hh⟩
    · subst e3; simp at hj
    rw [e3] at e
    cases e
    subst hm
    have hb := (Stm.base hk).get
    have hlen := All2.length hc
    have h4 := idx_le (sz := Kd.sz) hj
    have h5 := Nat.mul_le_mul_right Kd.sz hlc
    obtain ⟨w', hr, hb2⟩ := run_storeVar (P := P) (off := off + (j * Kd.sz + f)) hu hz hb (by omega) ho1 (by omega) (nofr hfr)
    refine ⟨(), R, w', trivial, Fz.le_refl R, St.shut hjj (.inr ⟨b, off, c, bT, fr, _, by rw [List.length_set]; exact e3, by rw [List.length_set]; exact hlc, rfl, by rw [splice_len (by omega)]; exact hcs, hfr, ?_⟩) (Stm.to (Fz.le_refl R) (fun x hx => hb2 R x hx) hk), ?_⟩
    · rw [List.length_set, splice_in (by omega) (by omega), flatMap_set xs j hj hle he]
      exact Cs.splice hh hc
    · simp [execOp, e2, Instr.storeAt, Instr.sureAddr, hr]) (fun e z hz => (hp e z hz).imp id fun h b _ => h b) (fun _ _ => k)

/-! #### append -/
/-- What is appended: its elements' cells. -/
def SrcOk {β : Type} (P : Program) (D : Sp.Kd β) (l : List As) (p : VP) (ys : List β) : Prop := ∀ R w u, St R l w → p.p R u → ∃ us : List Value, Cs.h R (ys.flatMap D.enc) us ∧
  ∀ w' : World, w'.heap = w.heap → (Builtin.lenOf u).run P w' = .ok ys.length w' ∧ (Builtin.firstCells D.sz ys.length u).run P w' = .ok us.toArray w'
theorem src_sl {ys : List α} : SrcOk P Kd l (sl Kd ys) ys := fun R w u hst hp => by
  rcases hp with ⟨a, c, e, e2⟩ | ⟨b, off, c, bT, fr, cs, e, hl, hm, hc, hh⟩
  · subst e2
    refine ⟨[], .nil, fun w' _ => ?_⟩
    cases a <;> simp [e, Builtin.lenOf, Builtin.firstCells, loadCells, loadCellsFrom]
  · have hb := hst.base.frz b _ hm
    have h5 := Nat.mul_le_mul_right Kd.sz hl
    refine ⟨_, hh, fun w' hw => ⟨by simp [e, Builtin.lenOf], ?_⟩⟩
    rw [e]
    exact run_loadCells (c := cs) (T := bT) (fr := fr) (by rw [hw]; exact hb) (by omega)
theorem src_own {u : Value} {ys : List α} (hA : own Kd u ys ∈ l) : SrcOk P Kd l (eq u) ys := fun R w u' hst hp => by
  simp only [eq_p] at hp
  subst hp
  obtain ⟨m, hm, hw2⟩ := St.read hA hst
  rcases hm with ⟨a, e, e2, _⟩ | ⟨b, off, c, bT, fr, cs, e, hl, hm, hc, _, hh⟩
  · subst e2
    refine ⟨[], .nil, fun w' _ => ?_⟩
    cases a <;> simp [e, Builtin.lenOf, Builtin.firstCells, loadCells, loadCellsFrom]
  · have hb := hw2 (b, _) (by rw [hm]; exact List.mem_cons_self ..)
    have h5 := Nat.mul_le_mul_right Kd.sz hl
    refine ⟨_, hh, fun w' hw => ⟨by simp [e, Builtin.lenOf], ?_⟩⟩
    rw [e]
    exact run_loadCells (c := cs.toArray) (T := bT) (fr := fr) (by rw [hw]; exact hb) (by simp; omega)
/-- A string's bytes. -/
def strBs (s : ByteArray) : List Int := s.data.toList.map fun b => (b.toNat : Int)
theorem src_str {s : ByteArray} : SrcOk P (intK .u8) l (eq (.string s)) (strBs s) := fun R w u hst hp => by
  simp only [eq_p] at hp
  subst hp
  refine ⟨s.data.toList.map fun b => .int .u8 b.toNat, ?_, fun w' _ => ⟨by simp [Builtin.lenOf, strBs], ?_⟩⟩
  · unfold strBs
    generalize s.data.toList = bs
    induction bs with
    | nil => exact .nil
    | cons b bs ih => exact .cons rfl ih
  · have e : (strBs s).length = s.size := by simp [strBs]
    have e2 : s.extract 0 s.size = s := by simp
    have e3 : (s.data.map fun b : UInt8 => Value.int .u8 (b.toNat : Int)) = (s.data.toList.map fun b : UInt8 => Value.int .u8 (b.toNat : Int)).toArray := by apply Array.ext'; simp
    simp only [Builtin.firstCells, e, e2, Sem.run_pure, e3]
theorem zeroCells_size {z : Array Value} {m : Nat} : (Builtin.zeroCells z m).size = m * z.size := by simp [Builtin.zeroCells]
theorem run_app {t e xT ty : TypeId} {ti : TypeInfo} {z : Value} {R : Fz} {w : World} {u : Value} {ys : List α} {us : List Value} {m : Mem} {l' : List As} (hu : P.underlying t = some (.slice e)) (hxd : P.underlying xT = some .string ∨ ∃ e', P.underlying xT = some (.slice e'))
    (hti : P.info? e = some ti) (hsz : ti.size = Kd.sz) (hz : ti.zero = some z) (hzs : z.cells.size = Kd.sz) (h0 : 0 < Kd.sz)
    (hA : (own Kd v xs).p R m) (hst : Stm R m l' w) (hus : Cs.h R (ys.flatMap Kd.enc) us)
    (hrun : ∀ w' : World, w'.heap = w.heap → (Builtin.lenOf u).run P w' = .ok ys.length w' ∧ (Builtin.firstCells Kd.sz ys.length u).run P w' = .ok us.toArray w')
    (hbig : (xs.length + ys.length) * ti.bytes ≤ 140737488355328) (h63 : xs.length + ys.length ≤ 9223372036854775807) :
    ∃ v' w' m', (Builtin.append_ #[t, xT] ty #[v, u]).run P w = .ok v' w' ∧ (own Kd v' (xs ++ ys)).p R m' ∧ Stm R m' l' w' := by
  have hsz2 : ∀ w, (sizeOf e).run P w = .ok Kd.sz w := fun w => by simp [sizeOf, typeInfo, hti, hsz]
  have hzr : ∀ w, (zeroValue e).run P w = .ok z w := fun w => by simp [zeroValue, typeInfo, hti, hz]
  have hlu : us.length = ys.length * Kd.sz := by rw [← All2.length hus, flatMap_len]
  -- what grows
  have grow : ∀ (a : Option Addr) (c : Nat) (os : List Value), v = .slice a xs.length c → c < xs.length + ys.length → Cs.h R (xs.flatMap Kd.enc) os → (∀ w' : World, w'.heap = w.heap → (Builtin.firstCells Kd.sz xs.length v).run P w' = .ok os.toArray w') →
      ∃ v' w' m', (Builtin.append_ #[t, xT] ty #[v, u]).run P w = .ok v' w' ∧ (own Kd v' (xs ++ ys)).p R m' ∧ Stm R m' l' w' := by
    intro a c os e1 hc hos hfo
    have hlo : os.length = xs.length * Kd.sz := by rw [← All2.length hos, flatMap_len]
    have h1 : ¬ (xs.length + ys.length ≤ c) := by omega
    have h2 : ¬ (((xs.length + ys.length : Nat) : Int) > IntKind.i64.max ∧ ti.bytes = 0) := by
      rintro ⟨h, _⟩
      have : IntKind.i64.max = 9223372036854775807 := rfl
      omega
    have h3 : ¬ (Builtin.nextslicecap (xs.length + ys.length) c * ti.bytes > 2 ^ 48) := by
      have h4 := Nat.mul_le_mul_right ti.bytes (nextcap_le (xs.length + ys.length) c hc)
      rw [Nat.mul_assoc] at h4
      omega
    let nc := (Question.appendCap (xs.length + ys.length) c e).cut (w.tape w.drawn (.appendCap (xs.length + ys.length) c e))
    have hnc : xs.length + ys.length ≤ nc := Nat.le_add_right _ _
    let cells := os ++ us ++ (Builtin.zeroCells z.cells (nc - (xs.length + ys.length))).toList
    have hcl : cells.length = nc * Kd.sz := by
      simp only [cells, List.length_append, Array.length_toList, zeroCells_size, hzs, hlo, hlu]
      rw [← Nat.add_mul, ← Nat.add_mul]
      congr 1
      omega
    refine ⟨.slice (some ⟨w.heap.size, 0, none⟩) (xs.length + ys.length) nc, w.drew.alloc (.cells cells.toArray e), [(w.heap.size, .cells cells.toArray e)], ?_, ?_, ?_⟩
    · have hf2 := hfo w.drew rfl
      have hf1 := (hrun w rfl).1
      have hf3 := (hrun w.drew rfl).2
      simp only [e1] at hf2
      have h1' : ¬ (9223372036854775807 < ((xs.length : Int) + (ys.length : Int)) ∧ ti.bytes = 0) := by omega
      have h3' : ¬ (281474976710656 < Builtin.nextslicecap (xs.length + ys.length) c * ti.bytes) := by omega
      rcases hxd with hxd | ⟨e', hxd⟩
      all_goals
        simp [Builtin.append_, e1, run_underlying hu, run_underlying hxd, sizeOf, typeInfo, zeroValue, hti, hz, hsz, hf1, hf2, hf3, h1, h1', h3', Question.forced, newRow]
        exact ⟨rfl, congrArg (fun q => w.drew.alloc (Obj.cells q e)) (Array.ext' (by simp [cells, nc]))⟩
    · refine .inr ⟨w.heap.size, 0, nc, e, (0, 0), cells, by simp, by simpa using hnc, rfl, by omega, by simp, ?_⟩
      have e4 : ((cells.drop 0).take ((xs ++ ys).length * Kd.sz)) = os ++ us := by
        rw [List.drop_zero]
        simp only [cells]
        rw [List.take_append_of_le_length (by simp [hlo, hlu, Nat.add_mul])]
        exact List.take_of_length_le (by simp [hlo, hlu, Nat.add_mul])
      rw [e4, List.flatMap_append]
      exact All2.append hos hus
    · refine Stm.to (m := m) (m' := [(w.heap.size, .cells cells.toArray e)]) (Fz.le_refl R) (fun x hx => ?_) hst
      exact (hx.drop.alloc (.cells cells.toArray e)).drew (w.drawn + 1) (Nat.le_succ _)
  rcases hA with ⟨a, e1, e2, e3⟩ | ⟨b, off, c, bT, fr, cs, e1, hlc, hm, hcs, hfr, hh⟩
  · subst e2
    rcases Nat.eq_zero_or_pos ys.length with h | h
    · -- nothing onto nothing
      have hy : ys = [] := List.length_eq_zero_iff.1 h
      subst hy
      refine ⟨v, w, m, ?_, .inl ⟨a, e1, rfl, e3⟩, hst⟩
      have hul : us = [] := by have := hlu; simp at this; exact this
      have hr1 := (hrun w rfl).1
      have hr2 := (hrun w rfl).2
      simp only [hul, List.length_nil] at hr1 hr2
      rcases hxd with hxd | ⟨e', hxd⟩
      all_goals
        cases a <;> simp [Builtin.append_, e1, run_underlying hu, run_underlying hxd, sizeOf, typeInfo, hti, hsz, hr1, hr2, storeCells]
    · refine grow a 0 [] e1 (by simpa using h) .nil (fun w' _ => ?_)
      cases a <;> simp [e1, Builtin.firstCells, loadCells, loadCellsFrom]
  · by_cases hc : xs.length + ys.length ≤ c
    · subst hm
      have hb := (Stm.base hst).get
      have h5 := Nat.mul_le_mul_right Kd.sz hc
      rw [Nat.add_mul] at h5
      obtain ⟨w', hr, hb2⟩ := run_stores (P := P) us (off + xs.length * Kd.sz) 0 hb (Cs.ones (fun q hq => by
        obtain ⟨y, _, hy⟩ := List.mem_flatMap.1 hq
        exact fun R v hv => Kd.one y q hy R v hv) hus) (by omega) (nofr hfr)
      refine ⟨.slice (some ⟨b, off, none⟩) (xs.length + ys.length) c, w', _, ?_, .inr ⟨b, off, c, bT, fr, _, by simp, by simpa using hc, rfl, by rw [splice_len (by omega)]; exact hcs, hfr, ?_⟩, Stm.to (Fz.le_refl R) (fun x hx => hb2 R x hx) hst⟩
      · have hr1 := (hrun w rfl).1
        have hr2 := (hrun w rfl).2
        rcases hxd with hxd | ⟨e', hxd⟩
        all_goals
          simp [Builtin.append_, e1, run_underlying hu, run_underlying hxd, sizeOf, typeInfo, hti, hsz, hr1, hr2, hc, add_eq, hr]
      · rw [Nat.add_zero, splice_in (N := (xs ++ ys).length * Kd.sz) (by simp [Nat.add_mul]; omega) (by simp [Nat.add_mul]; omega), List.flatMap_append]
        have e5 : splice ((cs.drop off).take ((xs ++ ys).length * Kd.sz)) (xs.length * Kd.sz) us = (cs.drop off).take (xs.length * Kd.sz) ++ us := by
          have e6 : (((cs.drop off).take ((xs ++ ys).length * Kd.sz)).drop (xs.length * Kd.sz + us.length)) = [] := List.drop_of_length_le (by simp [hlu, Nat.add_mul]; omega)
          unfold splice
          rw [e6, List.take_take, List.append_nil, Nat.min_eq_left (by simp [Nat.add_mul])]
        rw [e5]
        exact All2.append hh hus
    · have hb := (Stm.base hst)
      rw [hm] at hb
      have hb := hb.get
      have h5 := Nat.mul_le_mul_right Kd.sz hlc
      refine grow _ c _ e1 (by omega) hh (fun w' hw => ?_)
      rw [e1]
      exact run_loadCells (c := cs.toArray) (T := bT) (fr := fr) (by rw [hw]; exact hb) (by simp; omega)

theorem Dv.app {t e xT : TypeId} {ti : TypeInfo} {z : Value} {p : VP} {ys : List α} {jj : Nat} (ho : opAt ops.toList i = some ⟨some d, .call ⟨.builtin .append, #[x, y], #[t, xT]⟩, T, ps, af, g⟩) (hg : GOn ops E g)
    (hx : opv E x = some (eq v)) (hjj : l[jj]? = some (own Kd v xs)) (hy : opv E y = some p) (hs : SrcOk P Kd l p ys) (hu : P.underlying t = some (.slice e)) (hxd : P.underlying xT = some .string ∨ ∃ e', P.underlying xT = some (.slice e'))
    (hti : P.info? e = some ti) (hsz : ti.size = Kd.sz) (hz : ti.zero = some z) (hzs : z.cells.size = Kd.sz) (h0 : 0 < Kd.sz) (hb : xs.length + ys.length ≤ 9223372036854775807 ∧ (xs.length + ys.length) * ti.bytes ≤ 140737488355328)
    (hp : dr = true → ∀ z ∈ pend, ((Region.before ops).getD i 0).testBit z.1 = true ∨ ∀ v' : Value, z.2 (l.set jj (own Kd v' (xs ++ ys))))
    (k : ∀ v', Dv P ops n dr R0 K ((d, eq v') :: E) (l.set jj (own Kd v' (xs ++ ys))) pend rest) : Dv P ops n dr R0 K E l pend ((i, true) :: rest) :=
  .bar _ (γ := Value) (fun _ => True) (fun v' => eq v') (fun v' => l.set jj (own Kd v' (xs ++ ys))) (at_of ho) (OpBar.val hg fun R a w h hst => by
    have e1 := h x (by simp [Op.operands, Call.operands]) _ hx
    have e2 := h y (by simp [Op.operands, Call.operands]) _ hy
    simp only [eq_p] at e1
    obtain ⟨us, hus, hrun⟩ := hs R w _ hst e2
    obtain ⟨m, hm, hk⟩ := hst.opn hjj
    obtain ⟨v', w', m', hr, hm', hk'⟩ := run_app (ty := T) hu hxd hti hsz hz hzs h0 hm hk hus hrun hb.2 hb.1
    refine ⟨v', R, v', w', trivial, Fz.le_refl R, rfl, St.shut hjj hm' hk', ?_⟩
    simp [execOp, resolve, invoke, builtin, e1, hr]) (fun e z hz => (hp e z hz).imp id fun h b _ => h b) (fun b _ => k b)
end
end Go.Sp
