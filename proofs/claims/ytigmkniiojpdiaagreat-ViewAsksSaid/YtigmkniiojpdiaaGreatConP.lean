/- Exact cells of a block of our own: for what writes beyond a slice's length. -/
import Derived.Test.YtigmkniiojpdiaaGreatConO
set_option linter.all false
namespace Go.Sp
open Go
/-- Just these cells. -/
def cellsA (b : Nat) (T : TypeId) (cs : List Value) : As := ⟨fun _ m => m = [(b, .cells cs.toArray T)], fun _ h => h⟩
section
variable {R : Fz} {w : World} {l : List As} {α : Type} {Kd : Kd α} {v : Value} {xs : List α}
/-- A row that is not empty, opened. -/
theorem own_lit (j : Nat) (hj : l[j]? = some (own Kd v xs)) (h0 : xs ≠ []) (h : St R l w) : ∃ b off c T, ∃ cs : List Value, v = .slice (some ⟨b, off, none⟩) xs.length c ∧ xs.length ≤ c ∧ off + c * Kd.sz ≤ cs.length ∧ Cs.h R (xs.flatMap Kd.enc) ((cs.drop off).take (xs.length * Kd.sz)) ∧ St R (l.set j (cellsA b T cs)) w := by
  obtain ⟨m, hm, hk⟩ := h.opn hj
  rcases hm with ⟨_, _, e, _⟩ | ⟨b, off, c, T, fr, cs, e, hl, hm, hc, hf, hh⟩
  · exact absurd e h0
  · subst hf
    exact ⟨b, off, c, T, cs, e, hl, hc, hh, St.shut hj (show (cellsA b T cs).p R m from hm) hk⟩
/-- Cells that tell of a row are one. -/
theorem own_of {b off n c : Nat} {T : TypeId} {cs : List Value} {zs : List α} (j : Nat) (hj : l[j]? = some (cellsA b T cs)) (hn : zs.length = n) (hl : n ≤ c) (hc : off + c * Kd.sz ≤ cs.length) (hh : Cs.h R (zs.flatMap Kd.enc) ((cs.drop off).take (n * Kd.sz))) (h : St R l w) :
    St R (l.set j (own Kd (.slice (some ⟨b, off, none⟩) n c) zs)) w := by
  obtain ⟨m, hm, hk⟩ := h.opn hj
  subst hn
  exact St.shut hj (.inr ⟨b, off, c, T, (0, 0), cs, rfl, hl, hm, hc, rfl, hh⟩) hk
end
section
variable {R : Fz} {w : World} {l : List As} {α : Type} {Kd : Kd α} {v : Value} {xs : List α}
theorem eqs_self (us : List Value) : Cs.h R (us.map eq) us := by
  induction us with
  | nil => exact .nil
  | cons u us ih => exact .cons rfl ih
/-- A row that is not empty, opened to its block. -/
theorem own_blk (j : Nat) (hj : l[j]? = some (own Kd v xs)) (h0 : xs ≠ []) (h : St R l w) : ∃ b off c T, ∃ A C : Cs, v = .slice (some ⟨b, off, none⟩) xs.length c ∧ xs.length ≤ c ∧ A.length = off ∧ off + c * Kd.sz ≤ (A ++ xs.flatMap Kd.enc ++ C).length ∧ St R (l.set j (blk b T (A ++ xs.flatMap Kd.enc ++ C))) w := by
  obtain ⟨b, off, c, T, cs, e, hl, hc, hh, hst⟩ := own_lit j hj h0 h
  have h5 := Nat.mul_le_mul_right Kd.sz hl
  have hlen := All2.length hh
  have e1 : cs = cs.take off ++ (cs.drop off).take (xs.length * Kd.sz) ++ cs.drop (off + xs.length * Kd.sz) := by
    rw [← List.drop_drop, List.append_assoc, List.take_append_drop, List.take_append_drop]
  refine ⟨b, off, c, T, (cs.take off).map eq, (cs.drop (off + xs.length * Kd.sz)).map eq, e, hl, by simp; omega, ?_, ?_⟩
  · have hlen2 := flatMap_len (K := Kd) xs
    simp only [List.length_append, List.length_map, List.length_take, List.length_drop, hlen2]
    omega
  · obtain ⟨m, hm, hk⟩ := hst.opn (j := j) (A := cellsA b T cs) (by rw [List.getElem?_set_self (by have := List.getElem?_eq_some_iff.1 hj; exact this.1)])
    rw [List.eraseIdx_set_eq] at hk
    refine St.shut hj ⟨cs, hm, ?_⟩ hk
    have e2 : Cs.h R _ (cs.take off ++ (cs.drop off).take (xs.length * Kd.sz) ++ cs.drop (off + xs.length * Kd.sz)) := ((eqs_self (R := R) (cs.take off)).append hh).append (eqs_self (cs.drop (off + xs.length * Kd.sz)))
    rw [← e1] at e2
    exact e2
end
section
variable {P : Program} {ops : Array Oper} {n : Nat} {dr : Bool} {R0 : Fz} {K : Act → World → Prop} {E : Env} {l : List As} {pend : List (Nat × (List As → Prop))} {rest : List (Nat × Bool)} {i d : Nat}
variable {T : TypeId} {ps : String} {af : Array Edge} {g : Option (Nat × Bool)} {x y : Operand} {α : Type} {Kd : Kd α}
/-- A piece of a slice that is known. -/
theorem Dv.slk {t e : TypeId} {ed : TypeDesc} {lo hi : Option Operand} {b off m c p q sz : Nat} (ho : opAt ops.toList i = some ⟨some d, .slice t x lo hi none, T, ps, af, g⟩) (hg : GOn ops E g) (hx : opv E x = some (eq (.slice (some ⟨b, off, none⟩) m c))) (hu : P.underlying t = some (.slice e)) (hv : P.underlying e = some ed) (hz : P.cellsOf e = sz)
    (hl : bdE E 0 lo p) (hh : bdE E m hi q) (h1 : p ≤ q) (h2 : q ≤ c)
    (k : Dv P ops n dr R0 K ((d, eq (.slice (some ⟨b, if c = p then off else off + p * sz, none⟩) (q - p) (c - p))) :: E) l ((i, tt) :: pend) rest) : Dv P ops n dr R0 K E l pend ((i, false) :: rest) :=
  Dv.okd _ _ ho (OpOk.pure hg fun R a w h => by
    have e0 := h x op_slice0 _ hx
    simp only [eq_p] at e0
    have b1 := bd_of (a := a) hl (fun z p e hp => h z (ops_slice (.inl e)) p hp)
    have b2 := bd_of (a := a) hh (fun z p e hp => h z (ops_slice (.inr (.inl e))) p hp)
    have := run_bounds (P := P) (w := w) (is := true) b1 b2 (mx := none) (cap := c) (m := c) (.inl ⟨rfl, rfl⟩) h1 h2 (Nat.le_refl _) (by simp)
    refine ⟨_, rfl, ?_⟩
    simp only [execOp, Instr.sliceAt, Instr.slice, e0, underlying, hu, Sem.run_bind, run_program, Sem.run_pure, Result.andThen_ok, Option.map_none, this, run_sizeOf hv hz]
    by_cases hcp : c = p <;> simp [hcp, add_eq]) trivial k
theorem Dv.capk {t e : TypeId} {ad : Option Addr} {m c : Nat} (ho : opAt ops.toList i = some ⟨some d, .call ⟨.builtin .cap, #[x], #[t]⟩, T, ps, af, g⟩) (hg : GOn ops E g) (hx : opv E x = some (eq (.slice ad m c))) (hu : P.underlying t = some (.slice e))
    (k : Dv P ops n dr R0 K ((d, eq (.int .i64 c)) :: E) l ((i, tt) :: pend) rest) : Dv P ops n dr R0 K E l pend ((i, false) :: rest) :=
  Dv.okd _ _ ho (OpOk.pure hg fun R a w h => ⟨_, rfl, by
    have e0 := h x (by simp [Op.operands, Call.operands]) _ hx
    simp only [eq_p] at e0
    simp [execOp, resolve, invoke, builtin, Builtin.cap_, e0, underlying, hu, goInt]⟩) trivial k
/-- What is copied: n elements are there, of the first k of them the cells are as qs tells. -/
def SrcN (P : Program) (sz : Nat) (l : List As) (p : VP) (n k : Nat) (qs : Cs) : Prop := ∀ R w u, St R l w → p.p R u → ∃ us : List Value, Cs.h R qs us ∧ (∀ z ∈ us, z.oneCell' = true) ∧
  (Builtin.lenOf u).run P w = .ok n w ∧ (Builtin.firstCells sz k u).run P w = .ok us.toArray w
theorem srcN_sl {xs : List α} {k : Nat} (hk : k ≤ xs.length) : SrcN P Kd.sz l (sl Kd xs) xs.length k ((xs.take k).flatMap Kd.enc) := fun R w u hst hp => by
  have hone : ∀ {us : List Value}, Cs.h R ((xs.take k).flatMap Kd.enc) us → ∀ z ∈ us, z.oneCell' = true := fun h => Cs.ones (fun q hq => by
    obtain ⟨y, _, hy⟩ := List.mem_flatMap.1 hq
    exact fun R v hv => Kd.one y q hy R v hv) h
  rcases hp with ⟨a, c, e, e2⟩ | ⟨b, off, c, bT, fr, cs, e, hl, hm, hc, hh⟩
  · subst e2
    have : k = 0 := by simpa using hk
    subst this
    exact ⟨[], .nil, by simp, by simp [e, Builtin.lenOf], by cases a <;> simp [e, Builtin.firstCells, loadCells, loadCellsFrom]⟩
  · have hb := hst.base.frz b _ hm
    have h5 := Nat.mul_le_mul_right Kd.sz (Nat.le_trans hk hl)
    have h6 := slice_cells (Kd := Kd) (p := 0) (q := k) hk (Nat.zero_le _) hh
    simp only [List.drop_zero, Nat.zero_mul, Nat.add_zero, List.length_take, Nat.min_eq_left hk] at h6
    refine ⟨_, h6, hone h6, by simp [e, Builtin.lenOf], ?_⟩
    rw [e]
    exact run_loadCells (c := cs) (T := bT) (fr := fr) hb (by omega)
theorem srcN_blk {b off n c k sz : Nat} {bT : TypeId} {ps : Cs} (hA : blk b bT ps ∈ l) (ho : Ones ((ps.drop off).take (k * sz))) (hk : off + k * sz ≤ ps.length) : SrcN P sz l (eq (.slice (some ⟨b, off, none⟩) n c)) n k ((ps.drop off).take (k * sz)) := fun R w u hst hp => by
  simp only [eq_p] at hp
  subst hp
  obtain ⟨cs, hb, hc⟩ := blk_heap hA hst
  have hl := All2.length hc
  have h1 : Cs.h R ((ps.drop off).take (k * sz)) ((cs.drop off).take (k * sz)) := All2.take (All2.drop hc _) _
  exact ⟨_, h1, Cs.ones ho h1, by simp [Builtin.lenOf], run_loadCells (c := cs.toArray) hb (by simp; omega)⟩
/-- copy into a block of our own. -/
theorem Dv.cpk {t t2 e : TypeId} {ed : TypeDesc} {b off m c n' sz jj : Nat} {bT : TypeId} {ps' qs : Cs} {p : VP} (ho : opAt ops.toList i = some ⟨some d, .call ⟨.builtin .copy, #[x, y], #[t, t2]⟩, T, ps, af, g⟩) (hg : GOn ops E g) (hx : opv E x = some (eq (.slice (some ⟨b, off, none⟩) m c))) (hy : opv E y = some p)
    (hu : P.underlying t = some (.slice e)) (hv : P.underlying e = some ed) (hz : P.cellsOf e = sz) (hs : SrcN P sz l p n' (min n' m) qs) (hjj : l[jj]? = some (blk b bT ps')) (hle : off + qs.length ≤ ps'.length)
    (hp : dr = true → ∀ z ∈ pend, ((Region.before ops).getD i 0).testBit z.1 = true ∨ ∀ _ : Unit, z.2 (l.set jj (blk b bT (spl ps' off qs))))
    (k : Dv P ops n dr R0 K ((d, eq (.int .i64 (min n' m : Nat))) :: E) (l.set jj (blk b bT (spl ps' off qs))) pend rest) : Dv P ops n dr R0 K E l pend ((i, true) :: rest) :=
  .bar _ (γ := Unit) (fun _ => True) (fun _ => eq (.int .i64 (min n' m : Nat))) (fun _ => l.set jj (blk b bT (spl ps' off qs))) (at_of ho) (OpBar.val hg fun R a w h hst => by
    have e1 := h x (by simp [Op.operands, Call.operands]) _ hx
    have e2 := h y (by simp [Op.operands, Call.operands]) _ hy
    simp only [eq_p] at e1
    obtain ⟨us, hus, hone, hr1, hr2⟩ := hs R w _ hst e2
    obtain ⟨mm, ⟨cs, rfl, hcs⟩, hk⟩ := hst.opn hjj
    have hh := (Stm.base hk).get
    have hl := All2.length hus
    have hl2 := All2.length hcs
    obtain ⟨w', hr, hb⟩ := run_stores (P := P) us off 0 hh hone (by omega) (by simp)
    refine ⟨(), R, _, w', trivial, Fz.le_refl R, rfl, St.shut hjj ⟨_, rfl, Cs.splice hcs hus⟩ (Stm.to (Fz.le_refl R) (fun x hx => by simpa using hb R x hx) hk), ?_⟩
    have hmin : Nat.min n' m = min n' m := rfl
    simp [execOp, resolve, invoke, builtin, Builtin.copy_, e1, run_underlying hu, hr1, hr2, run_sizeOf hv hz, hmin, hr, goInt]) (fun e z hz => (hp e z hz).imp id fun h b _ => h b) (fun _ _ => k)
theorem zeroCells_add (z : Array Value) (a b : Nat) : Builtin.zeroCells z a ++ Builtin.zeroCells z b = Builtin.zeroCells z (a + b) := by
  unfold Builtin.zeroCells
  rw [Nat.add_mul]
  apply Array.ext'
  simp only [Array.toList_append, Array.toList_map, Array.toList_range, List.range_add, List.map_append, List.map_map]
  congr 1
  apply List.map_congr_left
  intro i _
  simp [Nat.add_comm, Nat.add_mul_mod_self_right]
/-- Room that is made, put behind a piece: where it does not fit, a new block. -/
theorem Dv.apmk {t e ti2 : TypeId} {ti : TypeInfo} {z : Value} {b off m c sz by_ jj : Nat} {bT : TypeId} {ps' : Cs} {k0 : Int} {ik : IntKind} (ho : opAt ops.toList i = some ⟨some d, .call ⟨.builtin .append, #[x, y], #[t, ti2]⟩, T, ps, af, g⟩) (hg : GOn ops E g) (hx : opv E x = some (eq (.slice (some ⟨b, off, none⟩) m c))) (hy : opv E y = some (eq (.int .i64 k0)))
    (hu : P.underlying t = some (.slice e)) (hu2 : P.underlying ti2 = some (.int ik)) (hti : P.info? e = some ti) (hsz : ti.size = sz) (hz : ti.zero = some z) (hby : ti.bytes = by_) (hzs : z.cells.size = sz) (h0 : 0 < sz) (hk0 : 0 ≤ k0) (hmc : m ≤ c) (hgrow : c < m + k0.toNat) (hsm : m + k0.toNat ≤ 9223372036854775807) (hb : (m + k0.toNat) * by_ ≤ 140737488355328)
    (hA : l[jj]? = some (blk b bT ps')) (hle : off + m * sz ≤ ps'.length)
    (hp : dr = true → ∀ q ∈ pend, ((Region.before ops).getD i 0).testBit q.1 = true ∨ ∀ v' : Nat × Nat, m + k0.toNat ≤ v'.2 → q.2 (blk v'.1 e ((ps'.drop off).take (m * sz) ++ (Builtin.zeroCells z.cells (v'.2 - m)).toList.map eq) :: l))
    (k : ∀ v' : Nat × Nat, m + k0.toNat ≤ v'.2 → Dv P ops n dr R0 K ((d, eq (.slice (some ⟨v'.1, 0, none⟩) (m + k0.toNat) v'.2)) :: E) (blk v'.1 e ((ps'.drop off).take (m * sz) ++ (Builtin.zeroCells z.cells (v'.2 - m)).toList.map eq) :: l) pend rest) : Dv P ops n dr R0 K E l pend ((i, true) :: rest) := by
  refine .bar _ (γ := Nat × Nat) (fun v' => m + k0.toNat ≤ v'.2) (fun v' => eq (.slice (some ⟨v'.1, 0, none⟩) (m + k0.toNat) v'.2)) (fun v' => blk v'.1 e ((ps'.drop off).take (m * sz) ++ (Builtin.zeroCells z.cells (v'.2 - m)).toList.map eq) :: l) (at_of ho) (OpBar.val hg fun R a w h hst => ?_) (fun e q hq => (hp e q hq)) k
  have e1 := h x (by simp [Op.operands, Call.operands]) _ hx
  have e2 := h y (by simp [Op.operands, Call.operands]) _ hy
  simp only [eq_p] at e1 e2
  obtain ⟨cs, hh, hcs⟩ := blk_heap (List.mem_of_getElem? hA) hst
  have hl2 := All2.length hcs
  have hw : IntKind.i64.wrap k0 = k0 := by
    have : k0 ≤ 9223372036854775807 := by omega
    simp only [IntKind.wrap, IntKind.signed, IntKind.bits]
    simp
    omega
  let nc := (Question.appendCap (m + k0.toNat) c e).cut (w.tape w.drawn (.appendCap (m + k0.toNat) c e))
  have hnc : m + k0.toNat ≤ nc := Nat.le_add_right _ _
  have hz1 : ∀ w, (zeroValue e).run P w = .ok z w := fun w => by simp [zeroValue, typeInfo, hti, hz]
  have h3 : ¬ (Builtin.nextslicecap (m + k0.toNat) c * ti.bytes > 2 ^ 48) := by
    have h4 := Nat.mul_le_mul_right ti.bytes (nextcap_le (m + k0.toNat) c hgrow)
    rw [Nat.mul_assoc, hby] at h4
    rw [hby]
    omega
  have hld : (loadCells ⟨b, off, none⟩ (m * sz)).run P w.drew = .ok ((cs.drop off).take (m * sz)).toArray w.drew := run_loadCells (c := cs.toArray) (T := bT) (fr := (0, 0)) hh (by simp; omega)
  refine ⟨(w.heap.size, nc), R, _, w.drew.alloc (.cells (((cs.drop off).take (m * sz)).toArray ++ Builtin.zeroCells z.cells (nc - m)) e), hnc, Fz.le_refl R, rfl, ?_, ?_⟩
  · refine (hst.drew _ (Nat.le_succ _)).alloc (o := .cells (((cs.drop off).take (m * sz)).toArray ++ Builtin.zeroCells z.cells (nc - m)) e) ⟨(cs.drop off).take (m * sz) ++ (Builtin.zeroCells z.cells (nc - m)).toList, ?_, (All2.take (All2.drop hcs _) _).append (eqs_self _)⟩
    simp
  · have e5 : Builtin.zeroCells z.cells k0.toNat ++ Builtin.zeroCells z.cells (nc - (m + k0.toNat)) = Builtin.zeroCells z.cells (nc - m) := by
      rw [zeroCells_add]; congr 1; omega
    have h1 : ¬ (m + k0.toNat ≤ c) := by omega
    have hbb : ¬ (281474976710656 < k0 * (ti.bytes : Int)) := by
      have h7 : k0.toNat * by_ ≤ (m + k0.toNat) * by_ := Nat.mul_le_mul_right _ (by omega)
      have h8 : k0 * (ti.bytes : Int) = ((k0.toNat * by_ : Nat) : Int) := by rw [hby, Int.natCast_mul, Int.toNat_of_nonneg hk0]
      rw [h8]
      have h10 : k0.toNat * by_ ≤ 140737488355328 := Nat.le_trans h7 hb
      omega
    have h3' : ¬ (281474976710656 < Builtin.nextslicecap (m + k0.toNat) c * ti.bytes) := by omega
    have h63 : ¬ (9223372036854775807 < (m : Int) + max k0 0) := by omega
    have hne : ¬ (k0.toNat * sz = 0) := by
      intro h9
      rcases Nat.mul_eq_zero.1 h9 with h | h <;> omega
    have hk1 : ¬ k0 < 0 := by omega
    simp only [execOp, resolve, invoke, builtin, Builtin.append_, List.getElem?_toArray]
    simp [e1, e2, run_underlying hu, run_underlying hu2, sizeOf, typeInfo, zeroValue, hti, hz, hsz, asInt, asIntOf, hw, hk1, hbb, h1, h63, h3', hne, Question.forced, Builtin.firstCells, hld, newRow]
    exact ⟨rfl, congrArg (fun q => w.drew.alloc (Obj.cells (((cs.drop off).take (m * sz)).toArray ++ q) e)) e5⟩
/-- Whatever it is. -/
def anyV : VP := ⟨fun _ _ => True, fun _ _ => trivial⟩
/-- A piece of an owned row that nobody looks at. -/
theorem Dv.sloa {t e : TypeId} {ed : TypeDesc} {lo : Option Operand} {v : Value} {xs : List α} {p : Nat} (ho : opAt ops.toList i = some ⟨some d, .slice t x lo none none, T, ps, af, g⟩) (hg : GOn ops E g) (hx : opv E x = some (eq v)) (hA : own Kd v xs ∈ l) (hu : P.underlying t = some (.slice e)) (hv : P.underlying e = some ed) (hz : P.cellsOf e = Kd.sz)
    (hl : bdE E 0 lo p) (h1 : p ≤ xs.length)
    (k : Dv P ops n dr R0 K ((d, anyV) :: E) l ((i, (own Kd v xs ∈ ·)) :: pend) rest) : Dv P ops n dr R0 K E l pend ((i, false) :: rest) :=
  Dv.okd _ _ ho (OpOk.val hg fun R a w l h hA hst => by
    have e1 := h x op_slice0 _ hx
    simp only [eq_p] at e1
    have b1 := bd_of (a := a) hl (fun z p e hp => h z (ops_slice (.inl e)) p hp)
    obtain ⟨mm, hm, _⟩ := St.read hA hst
    obtain ⟨ad, c, e2, hc⟩ : ∃ ad c, v = .slice ad xs.length c ∧ xs.length ≤ c := by
      rcases hm with ⟨a0, e0, e2, _⟩ | ⟨b, off, c, bT, fr, cs, e0, hlc, _⟩
      · subst e2; exact ⟨_, _, e0, Nat.le_refl _⟩
      · exact ⟨_, _, e0, hlc⟩
    have := run_bounds (P := P) (w := w) (is := true) b1 (hi := none) (len := xs.length) (h := xs.length) (.inl ⟨rfl, rfl⟩) (mx := none) (cap := c) (m := c) (.inl ⟨rfl, rfl⟩) h1 hc (Nat.le_refl _) (by simp)
    refine ⟨R, .slice (if c = p then ad else ad.map (·.add (p * Kd.sz))) (xs.length - p) (c - p), w, Fz.le_refl R, trivial, hst, ?_⟩
    simp only [execOp, Instr.sliceAt, Instr.slice, e1, e2, underlying, hu, Sem.run_bind, run_program, Sem.run_pure, Result.andThen_ok, Option.map_none, this, run_sizeOf hv hz]) hA k
end
theorem run_overlaps {P : Program} {w : World} {prm rs : Array TypeId} {t e : TypeId} {ed : TypeDesc} {sz b1 b2 o1 o2 la c1 lb c2 : Nat} {d1 d2 : Array Value} {T1 T2 : TypeId} {f1 : Nat × Nat} (hp : prm[0]? = some t) (hu : P.underlying t = some (.slice e)) (hv : P.underlying e = some ed) (hz : P.cellsOf e = sz)
    (h1 : w.heap[b1]? = some (.cells d1 T1 f1)) (h2 : w.heap[b2]? = some (.cells d2 T2)) (hne : b1 ≠ b2) (h0 : 0 < d1.size) :
    (Extern.SlicesOverlaps.overlaps prm rs #[.slice (some ⟨b1, o1, none⟩) la c1, .slice (some ⟨b2, o2, none⟩) lb c2]).run P w = .ok (.bool false) w := by
  have hb : ((⟨b1, o1, none⟩ : Addr).block != (⟨b2, o2, none⟩ : Addr).block) = true := by simp [hne]
  have hb' : ((⟨b1, o1, none⟩ : Addr).block == (⟨b2, o2, none⟩ : Addr).block) = false := by simp [hne]
  have s1 : w.shape? b1 = some (T1, d1.size) := by simp [World.shape?, h1]
  have s2 : w.shape? b2 = some (T2, d2.size) := by simp [World.shape?, h2]
  have f2 : ∀ o, w.frozen? ⟨b2, o, none⟩ = false := fun o => by simp [World.frozen?, h2]
  show (do
    let some t := prm[0]? | stuck "slices.overlaps: no parameter types"
    let .slice elem ← underlying t | stuck "slices.overlaps: slice type expected"
    let size ← sizeOf elem
    if la = 0 ∨ lb = 0 ∨ size = 0 then pure (.bool false)
    else if (⟨b1, o1, none⟩ : Addr).block != (⟨b2, o2, none⟩ : Addr).block && (← frozen ⟨b1, o1, none⟩) && (← frozen ⟨b2, o2, none⟩) then unsupported .addressObserved
    else do
      if (⟨b1, o1, none⟩ : Addr).block != (⟨b2, o2, none⟩ : Addr).block then do
        noView ⟨b1, o1, none⟩; noView ⟨b2, o2, none⟩
        if ← mayBeOne ⟨b1, o1, none⟩ ⟨b2, o2, none⟩ then return .bool ((← choose (.extern "sameAddr.stringBytes" 2)) == 1)
      pure (.bool ((⟨b1, o1, none⟩ : Addr).block == (⟨b2, o2, none⟩ : Addr).block && (⟨b1, o1, none⟩ : Addr).off < (⟨b2, o2, none⟩ : Addr).off + lb * size && (⟨b2, o2, none⟩ : Addr).off < (⟨b1, o1, none⟩ : Addr).off + la * size)) : Sem Value).run P w = _
  simp [hp, run_underlying hu, run_sizeOf hv hz, f2, noView, viewAt, mayBeOne, stringish, s1, s2, hne]
  intro _ _ _
  obtain ⟨k, hk⟩ : ∃ k, d1.size = k + 1 := ⟨d1.size - 1, by omega⟩
  have hb3 : (b1 == b2) = false := by simp [hne]
  simp [hk, hb3]
section
variable {P : Program} {ops : Array Oper} {n : Nat} {dr : Bool} {R0 : Fz} {K : Act → World → Prop} {E : Env} {l : List As} {pend : List (Nat × (List As → Prop))} {rest : List (Nat × Bool)} {i d : Nat}
variable {T : TypeId} {ps : String} {af : Array Edge} {g : Option (Nat × Bool)} {x y : Operand} {α : Type} {Kd : Kd α}
/-- What is frozen does not overlap with what is owned. -/
theorem Dv.ovl {f : FuncId} {fn : Func} {t1 t2 t e : TypeId} {ed : TypeDesc} {prm rs : Array TypeId} {b o2 lb c2 : Nat} {bT : TypeId} {qs : Cs} {ys : List α} (ho : opAt ops.toList i = some ⟨some d, .call ⟨.value (.func f), #[x, y], #[t1, t2]⟩, T, ps, af, g⟩) (hg : GOn ops E g)
    (hx : opv E x = some (sl Kd ys)) (hy : opv E y = some (eq (.slice (some ⟨b, o2, none⟩) lb c2))) (hA : blk b bT qs ∈ l) (h0 : 0 < ys.length) (hsz : 0 < Kd.sz)
    (hf : P.funcs[f]? = some fn) (hn : (fn.name == "runtime.NumGoroutine") = false) (hb : fn.body = none) (h1 : (Extern.findNext fn).isNone = true) (h2 : Extern.find fn = some (Extern.SlicesOverlaps.overlaps prm rs)) (hp : prm[0]? = some t) (hu : P.underlying t = some (.slice e)) (hv : P.underlying e = some ed)
    (k : Dv P ops n dr R0 K ((d, eq (.bool false)) :: E) l ((i, (blk b bT qs ∈ ·)) :: pend) rest) : Dv P ops n dr R0 K E l pend ((i, false) :: rest) :=
  Dv.okd _ _ ho (OpOk.val hg fun R a w l h hA hst => by
    have e1 := h x (by simp [Op.operands, Call.operands]) _ hx
    have e2 := h y (by simp [Op.operands, Call.operands]) _ hy
    simp only [eq_p] at e2
    rcases e1 with ⟨_, _, _, e3⟩ | ⟨b1, off, c, bT1, fr, cs, e3, hl, hm, hc, _⟩
    · subst e3; simp at h0
    · have hb1 := hst.base.frz b1 _ hm
      obtain ⟨cs2, hb2, _⟩ := blk_heap hA hst
      have hne : b1 ≠ b := by
        intro e4
        subst e4
        obtain ⟨s, t', e5⟩ := List.append_of_mem hA
        have hst2 : St R (blk b1 bT qs :: (s ++ t')) w := St.permL (by rw [e5]; exact List.perm_middle) hst
        obtain ⟨m, ⟨cs3, rfl, _⟩, hk⟩ := hst2
        exact (Stm.base hk).dis (b1, .cells cs3.toArray bT) (List.mem_append_left _ (List.mem_cons_self ..)) _ hm
      have hpos : 0 < cs.size := by
        have := Nat.mul_le_mul_right Kd.sz (show 1 ≤ c by omega)
        omega
      have hr := run_overlaps (P := P) (w := w) (rs := rs) (o1 := off) (o2 := o2) (la := ys.length) (c1 := c) (lb := lb) (c2 := c2) hp hu hv rfl hb1 hb2 hne hpos
      have hr2 := run_ext (args := #[.slice (some ⟨b1, off, none⟩) ys.length c, .slice (some ⟨b, o2, none⟩) lb c2]) hf hn hb h1 h2 hr
      exact ⟨R, _, w, Fz.le_refl R, rfl, hst, by simp [execOp, resolve, Deferred.ofValue, invoke, show a.eval (.func f) = .func (.func f) #[] #[] from rfl, e2, e3, hr2]⟩) hA k
end
end Go.Sp
