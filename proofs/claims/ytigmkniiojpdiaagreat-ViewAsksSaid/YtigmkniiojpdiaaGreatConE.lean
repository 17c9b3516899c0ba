/- The rules for operations on memory. -/
import Derived.Test.YtigmkniiojpdiaaGreatConD
set_option linter.all false
namespace Go.Sp
open Go

section
variable {P : Program} {ops : Array Oper} {n : Nat} {dr : Bool} {R0 : Fz} {K : Act → World → Prop} {E : Env} {l : List As} {pend : List (Nat × (List As → Prop))} {rest : List (Nat × Bool)} {i d : Nat}
variable {T : TypeId} {ps : String} {af : Array Edge} {g : Option (Nat × Bool)} {x y : Operand}

theorem take_all2 {R : Fz} {qs : Cs} {cs : List Value} (h : Cs.h R qs cs) {j : Nat} {p : VP} (hp : qs[j]? = some p) : ∃ v, cs[j]? = some v ∧ p.p R v := All2.get h hp
theorem drop_len {c : Array Value} {off m : Nat} (h : off + m ≤ c.size) : ((c.toList.drop off).take m).length = m := by simp; omega
theorem getm {c : Array Value} {off m j : Nat} {v : Value} (h : ((c.toList.drop off).take m)[j]? = some v) : c[off + j]? = some v := by
  rw [List.getElem?_take] at h
  split at h
  · rw [List.getElem?_drop] at h; simpa using h
  · cases h

/-! #### loads -/
theorem Dv.ldr {t : TypeId} {td : TypeDesc} {qs : Cs} {p : VP} (ho : opAt ops.toList i = some ⟨some d, .load t x, T, ps, af, g⟩) (hg : GOn ops E g)
    (hx : opv E x = some (rp qs)) (hu : P.underlying t = some td) (hd : aggD td = false) (hp : qs[0]? = some p) (k : Dv P ops n dr R0 K ((d, p) :: E) l ((i, tt) :: pend) rest) : Dv P ops n dr R0 K E l pend ((i, false) :: rest) :=
  Dv.okd tt _ ho (OpOk.val hg fun R a w l h _ hst => by
    obtain ⟨b, off, T, fr, cs, e, hm, hl, hc⟩ := h x (by simp [Op.operands]) _ hx
    obtain ⟨v, hv, hpv⟩ := take_all2 hc hp
    refine ⟨R, v, w, Fz.le_refl R, hpv, hst, ?_⟩
    have hh := hst.base.frz b _ hm
    have := run_load1 (P := P) (off := off) hh hu hd (by simpa using getm hv)
    simp [execOp, e, Instr.loadAt, Instr.sureAddr, this]) trivial k
theorem Dv.ldrs {t : TypeId} {td : TypeDesc} {qs : Cs} {sz : Nat} (ho : opAt ops.toList i = some ⟨some d, .load t x, T, ps, af, g⟩) (hg : GOn ops E g)
    (hx : opv E x = some (rp qs)) (hu : P.underlying t = some td) (hd : aggD td = true) (hz : P.cellsOf t = sz) (hq : sz ≤ qs.length) (k : Dv P ops n dr R0 K ((d, agg (qs.take sz)) :: E) l ((i, tt) :: pend) rest) : Dv P ops n dr R0 K E l pend ((i, false) :: rest) :=
  Dv.okd tt _ ho (OpOk.val hg fun R a w l h _ hst => by
    obtain ⟨b, off, T, fr, cs, e, hm, hl, hc⟩ := h x (by simp [Op.operands]) _ hx
    refine ⟨R, _, w, Fz.le_refl R, ⟨(cs.toList.drop off).take sz, rfl, ?_⟩, hst, ?_⟩
    · have := All2.take hc sz
      rwa [List.take_take, Nat.min_eq_left hq] at this
    · have hh := hst.base.frz b _ hm
      have := run_loads (P := P) (off := off) hh hu hd hz (by omega)
      simp [execOp, e, Instr.loadAt, Instr.sureAddr, this]) trivial k
theorem Dv.ldb {t : TypeId} {td : TypeDesc} {qs : Cs} {p : VP} {b off : Nat} {bT : TypeId} (ho : opAt ops.toList i = some ⟨some d, .load t x, T, ps, af, g⟩) (hg : GOn ops E g)
    (hx : opv E x = some (eq (.pointer (some ⟨b, off, none⟩)))) (hu : P.underlying t = some td) (hd : aggD td = false) (hA : blk b bT qs ∈ l) (hp : qs[off]? = some p)
    (k : Dv P ops n dr R0 K ((d, p) :: E) l ((i, (blk b bT qs ∈ ·)) :: pend) rest) : Dv P ops n dr R0 K E l pend ((i, false) :: rest) :=
  Dv.okd _ _ ho (OpOk.val hg fun R a w l h hq hst => by
    have e := h x (by simp [Op.operands]) _ hx
    simp only [eq_p] at e
    obtain ⟨cs, hh, hc⟩ := blk_heap hq hst
    obtain ⟨v, hv, hpv⟩ := take_all2 hc hp
    have := run_load1 (P := P) (off := off) hh hu hd (by simpa using hv)
    exact ⟨R, v, w, Fz.le_refl R, hpv, hst, by simp [execOp, e, Instr.loadAt, Instr.sureAddr, this]⟩) hA k
theorem Dv.ldbs {t : TypeId} {td : TypeDesc} {qs : Cs} {sz : Nat} {b off : Nat} {bT : TypeId} (ho : opAt ops.toList i = some ⟨some d, .load t x, T, ps, af, g⟩) (hg : GOn ops E g)
    (hx : opv E x = some (eq (.pointer (some ⟨b, off, none⟩)))) (hu : P.underlying t = some td) (hd : aggD td = true) (hz : P.cellsOf t = sz) (hA : blk b bT qs ∈ l) (hq : off + sz ≤ qs.length)
    (k : Dv P ops n dr R0 K ((d, agg ((qs.drop off).take sz)) :: E) l ((i, (blk b bT qs ∈ ·)) :: pend) rest) : Dv P ops n dr R0 K E l pend ((i, false) :: rest) :=
  Dv.okd _ _ ho (OpOk.val hg fun R a w l h hA hst => by
    have e := h x (by simp [Op.operands]) _ hx
    simp only [eq_p] at e
    obtain ⟨cs, hh, hc⟩ := blk_heap hA hst
    have hl := All2.length hc
    have := run_loads (P := P) (off := off) hh hu hd hz (by simp; omega)
    exact ⟨R, _, w, Fz.le_refl R, ⟨(cs.drop off).take sz, rfl, All2.take (All2.drop hc _) _⟩, hst, by simp [execOp, e, Instr.loadAt, Instr.sureAddr, this]⟩) hA k

/-! #### addresses -/
theorem run_fieldPlace {P : Program} {w : World} {b off : Nat} {f : Field} {fd : TypeDesc} {sz : Nat} (hu : P.underlying f.type = some fd) (hz : P.cellsOf f.type = sz) (h0 : sz ≠ 0) :
    (fieldPlace ⟨b, off, none⟩ f).run P w = .ok ⟨b, off + f.offset, none⟩ w := by
  unfold fieldPlace
  simp [run_sizeOf hu hz, h0, add_eq]
theorem Dv.fab {s j : Nat} {fs : Array Field} {f : Field} {fd : TypeDesc} {sz b off : Nat} (ho : opAt ops.toList i = some ⟨some d, .fieldAddr s x j, T, ps, af, g⟩) (hg : GOn ops E g)
    (hx : opv E x = some (eq (.pointer (some ⟨b, off, none⟩)))) (hu : P.underlying s = some (.struct fs)) (hf : fs[j]? = some f) (hv : P.underlying f.type = some fd) (hz : P.cellsOf f.type = sz) (h0 : sz ≠ 0)
    (k : Dv P ops n dr R0 K ((d, eq (.pointer (some ⟨b, off + f.offset, none⟩))) :: E) l ((i, tt) :: pend) rest) : Dv P ops n dr R0 K E l pend ((i, false) :: rest) :=
  Dv.okd _ _ ho (OpOk.pure hg fun R a w h => ⟨_, rfl, by
    have e := h x (by simp [Op.operands]) _ hx
    simp only [eq_p] at e
    simp [execOp, e, Instr.fieldAt, underlying, hu, hf, Instr.sureAddr, run_fieldPlace hv hz h0]⟩) trivial k
theorem Cs.drop_rp {R : Fz} {qs : Cs} {cs : Array Value} {off m : Nat} (hl : off + qs.length ≤ cs.size) (hm : m ≤ qs.length) (h : Cs.h R qs ((cs.toList.drop off).take qs.length)) :
    Cs.h R (qs.drop m) ((cs.toList.drop (off + m)).take (qs.drop m).length) := by
  have := All2.drop h m
  rw [List.drop_take, List.drop_drop] at this
  unfold Cs.h
  simpa using this
theorem Dv.far {s j : Nat} {fs : Array Field} {f : Field} {fd : TypeDesc} {sz : Nat} {qs : Cs} (ho : opAt ops.toList i = some ⟨some d, .fieldAddr s x j, T, ps, af, g⟩) (hg : GOn ops E g)
    (hx : opv E x = some (rp qs)) (hu : P.underlying s = some (.struct fs)) (hf : fs[j]? = some f) (hv : P.underlying f.type = some fd) (hz : P.cellsOf f.type = sz) (h0 : sz ≠ 0) (hq : f.offset ≤ qs.length)
    (k : Dv P ops n dr R0 K ((d, rp (qs.drop f.offset)) :: E) l ((i, tt) :: pend) rest) : Dv P ops n dr R0 K E l pend ((i, false) :: rest) :=
  Dv.okd _ _ ho (OpOk.pure hg fun R a w h => by
    obtain ⟨b, off, T, fr, cs, e, hm, hl, hc⟩ := h x (by simp [Op.operands]) _ hx
    exact ⟨_, ⟨b, off + f.offset, T, fr, cs, rfl, hm, by simp; omega, Cs.drop_rp hl hq hc⟩, by
      simp [execOp, e, Instr.fieldAt, underlying, hu, hf, Instr.sureAddr, run_fieldPlace hv hz h0]⟩) trivial k

theorem flatMap_at {α : Type} {K : Kd α} : ∀ (xs : List α) (i : Nat), i < xs.length → ((xs.flatMap K.enc).drop (i * K.sz)).take K.sz = K.enc (xs.getD i K.dflt)
  | [], i, h => by simp at h
  | x :: xs, 0, _ => by simp [← K.len x]
  | x :: xs, i + 1, h => by
    have ih := flatMap_at (K := K) xs i (by simpa using h)
    rw [List.flatMap_cons, Nat.succ_mul, Nat.add_comm, List.drop_append, ← List.drop_drop]
    have e : (K.enc x).drop K.sz = [] := List.drop_eq_nil_of_le (Nat.le_of_eq (K.len x))
    rw [e, K.len x]
    simp only [List.drop_nil, List.nil_append]
    rw [show K.sz + i * K.sz - K.sz = i * K.sz by omega, ih]
    rfl
theorem flatMap_len {α : Type} {K : Kd α} (xs : List α) : (xs.flatMap K.enc).length = xs.length * K.sz := by
  induction xs with
  | nil => simp
  | cons x xs ih => rw [List.flatMap_cons, List.length_append, K.len, ih, List.length_cons, Nat.succ_mul, Nat.add_comm]
theorem idx_le {i n sz : Nat} (h : i < n) : i * sz + sz ≤ n * sz := by
  have := Nat.mul_le_mul_right sz (Nat.succ_le_of_lt h)
  rwa [Nat.succ_mul] at this
theorem Cs.elem {α : Type} {R : Fz} {K : Kd α} {xs : List α} {cs : List Value} {off : Nat} {j : Nat} (hj : j < xs.length) (h : Cs.h R (xs.flatMap K.enc) ((cs.drop off).take (xs.length * K.sz))) :
    Cs.h R (K.enc (xs.getD j K.dflt)) ((cs.drop (off + j * K.sz)).take K.sz) := by
  have h1 := All2.take (All2.drop h (j * K.sz)) K.sz
  rw [flatMap_at xs j hj, List.drop_take, List.drop_drop, List.take_take] at h1
  have := idx_le (sz := K.sz) hj
  rwa [Nat.min_eq_left (by omega)] at h1
theorem Dv.ixr {α : Type} {Kd : Kd α} {xs : List α} {t e : TypeId} {ed : TypeDesc} {ik : IntKind} {m : Int} (ho : opAt ops.toList i = some ⟨some d, .indexAddr t x y, T, ps, af, g⟩) (hg : GOn ops E g)
    (hx : opv E x = some (sl Kd xs)) (hy : opv E y = some (eq (.int ik m))) (hu : P.underlying t = some (.slice e)) (hv : P.underlying e = some ed) (hz : P.cellsOf e = Kd.sz) (h0 : 0 ≤ m) (h1 : m < xs.length)
    (k : Dv P ops n dr R0 K ((d, rp (Kd.enc (Kd.at xs m))) :: E) l ((i, tt) :: pend) rest) : Dv P ops n dr R0 K E l pend ((i, false) :: rest) :=
  Dv.okd _ _ ho (OpOk.pure hg fun R a w h => by
    have e2 := h y (by simp [Op.operands]) _ hy
    simp only [eq_p] at e2
    rcases h x (by simp [Op.operands]) _ hx with ⟨_, _, _, e1⟩ | ⟨b, off, c, T, fr, cs, e1, hc, hm, hs, hh⟩
    · subst e1; simp at h1; omega
    · have hj : m.toNat < xs.length := by omega
      refine ⟨_, ⟨b, off + m.toNat * Kd.sz, T, fr, cs, rfl, hm, ?_, ?_⟩, ?_⟩
      · rw [Kd.len]
        have := idx_le (sz := Kd.sz) (Nat.lt_of_lt_of_le hj hc)
        omega
      · rw [Kd.len]; exact Cs.elem hj hh
      · simp [execOp, e1, e2, Instr.indexAt, asIntOf, underlying, hu, h0, h1, run_sizeOf hv hz, add_eq]) trivial k

/-! #### bytes of a string -/
def bt (s : ByteArray) (m : Int) : Int := ((s.data.getD m.toNat 0).toNat : Int)
theorem Dv.ixs {t : TypeId} {s : ByteArray} {ik : IntKind} {m : Int} (ho : opAt ops.toList i = some ⟨some d, .index t x y, T, ps, af, g⟩) (hg : GOn ops E g)
    (hx : opv E x = some (eq (.string s))) (hy : opv E y = some (eq (.int ik m))) (hu : P.underlying t = some .string) (h0 : 0 ≤ m) (h1 : m < s.size)
    (k : Dv P ops n dr R0 K ((d, eq (.int .u8 (bt s m))) :: E) l ((i, tt) :: pend) rest) : Dv P ops n dr R0 K E l pend ((i, false) :: rest) :=
  Dv.okd _ _ ho (OpOk.pure hg fun R a w h => ⟨_, rfl, by
    have e1 := h x (by simp [Op.operands]) _ hx
    have e2 := h y (by simp [Op.operands]) _ hy
    simp only [eq_p] at e1 e2
    have hj : m.toNat < s.data.size := by have : s.size = s.data.size := rfl; omega
    have hs : s[m.toNat]? = some (s.data[m.toNat]) := by
      rw [getElem?_pos s m.toNat hj]; rfl
    simp [execOp, e1, e2, Instr.index, asIntOf, underlying, hu, h0, hs, bt, Array.getD_eq_getD_getElem?, Array.getElem?_eq_getElem hj]⟩) trivial k

/-! #### new blocks -/
theorem Dv.box {t : TypeId} {p : VP} {qs : Cs} (ho : opAt ops.toList i = some ⟨some d, .box t x, T, ps, af, g⟩) (hg : GOn ops E g) (hx : opv E x = some p) (hq : CellsP p qs)
    (hp : dr = true → ∀ z ∈ pend, ((Region.before ops).getD i 0).testBit z.1 = true ∨ ∀ b, z.2 (blk b t qs :: l))
    (k : ∀ b, Dv P ops n dr R0 K ((d, eq (.pointer (some ⟨b, 0, none⟩))) :: E) (blk b t qs :: l) pend rest) : Dv P ops n dr R0 K E l pend ((i, true) :: rest) :=
  .bar _ (γ := Nat) (fun _ => True) (fun b => eq (.pointer (some ⟨b, 0, none⟩))) (fun b => blk b t qs :: l) (at_of ho) (OpBar.val hg fun R a w h hst => by
    have e := h x (by simp [Op.operands]) _ hx
    obtain ⟨hc, _⟩ := hq R _ e
    refine ⟨w.heap.size, R, _, _, trivial, Fz.le_refl R, rfl, hst.alloc (o := .cells (a.eval x).cells t) ⟨(a.eval x).cells.toList, by simp, hc⟩, ?_⟩
    simp [execOp, Instr.box, newVar, newRow]) (fun e z hz => (hp e z hz).imp id fun h b _ => h b) (fun b _ => k b)
def zer (P : Program) (t : TypeId) : Option Value := (P.info? t).bind (·.zero)
theorem run_zero {P : Program} {w : World} {t : TypeId} {z : Value} (h : zer P t = some z) : (zeroValue t).run P w = .ok z w := by
  unfold zer at h
  cases e : P.info? t with
  | none => rw [e] at h; cases h
  | some i => rw [e] at h; simp only [Option.bind_some] at h; simp [zeroValue, typeInfo, e, h]
theorem Dv.alloc {t : TypeId} {z : Value} {qs : Cs} (ho : opAt ops.toList i = some ⟨some d, .alloc t, T, ps, af, g⟩) (hg : GOn ops E g) (hz : zer P t = some z) (hq : qs = z.cells.toList.map eq)
    (hp : dr = true → ∀ z ∈ pend, ((Region.before ops).getD i 0).testBit z.1 = true ∨ ∀ b, z.2 (blk b t qs :: l))
    (k : ∀ b, Dv P ops n dr R0 K ((d, eq (.pointer (some ⟨b, 0, none⟩))) :: E) (blk b t qs :: l) pend rest) : Dv P ops n dr R0 K E l pend ((i, true) :: rest) :=
  .bar _ (γ := Nat) (fun _ => True) (fun b => eq (.pointer (some ⟨b, 0, none⟩))) (fun b => blk b t qs :: l) (at_of ho) (OpBar.val hg fun R a w h hst => by
    have hc : Cs.h R qs z.cells.toList := by
      rw [hq]
      generalize z.cells.toList = us
      induction us with
      | nil => exact .nil
      | cons u us ih => exact .cons rfl ih
    refine ⟨w.heap.size, R, _, _, trivial, Fz.le_refl R, rfl, hst.alloc (o := .cells z.cells t) ⟨z.cells.toList, by simp, hc⟩, ?_⟩
    simp [execOp, Instr.alloc, newVar, newRow, run_zero hz]) (fun e z hz => (hp e z hz).imp id fun h b _ => h b) (fun b _ => k b)

/-! #### stores -/
theorem Dv.stb {t : TypeId} {td : TypeDesc} {sz b off : Nat} {bT : TypeId} {p : VP} {ps' qs : Cs} {j : Nat} (ho : opAt ops.toList i = some ⟨none, .store t x y, T, ps, af, g⟩) (hg : GOn ops E g)
    (hx : opv E x = some (eq (.pointer (some ⟨b, off, none⟩)))) (hy : opv E y = some p) (hq : CellsP p qs) (hu : P.underlying t = some td) (hz : P.cellsOf t = sz) (hl : qs.length = sz) (hj : l[j]? = some (blk b bT ps')) (hle : off + sz ≤ ps'.length)
    (hp : dr = true → ∀ z ∈ pend, ((Region.before ops).getD i 0).testBit z.1 = true ∨ ∀ _ : Unit, z.2 (l.set j (blk b bT (spl ps' off qs))))
    (k : Dv P ops n dr R0 K E (l.set j (blk b bT (spl ps' off qs))) pend rest) : Dv P ops n dr R0 K E l pend ((i, true) :: rest) :=
  .bar _ (γ := Unit) (fun _ => True) (fun _ => eq undef) (fun _ => l.set j (blk b bT (spl ps' off qs))) (at_of ho) (OpBar.act hg fun R a w h hst => by
    have e := h x (by simp [Op.operands]) _ hx
    have hv := h y (by simp [Op.operands]) _ hy
    simp only [eq_p] at e
    obtain ⟨hc, ho1⟩ := hq R _ hv
    obtain ⟨m, ⟨cs, rfl, hcs⟩, hk⟩ := hst.opn hj
    have hh := (Stm.base hk).get
    have hlen := All2.length hc
    have hlen2 := All2.length hcs
    obtain ⟨w', hr, hb⟩ := run_storeVar (P := P) (off := off) hu hz hh (by omega) ho1 (by omega) (fun k _ => by simp)
    refine ⟨(), R, w', trivial, Fz.le_refl R, St.shut hj ⟨_, rfl, Cs.splice hcs hc⟩ (Stm.to (Fz.le_refl R) (fun x hx => hb R x hx) hk), ?_⟩
    simp [execOp, e, Instr.storeAt, Instr.sureAddr, hr]) (fun e z hz => (hp e z hz).imp id fun h b _ => h b) (fun _ _ => k)
end
end Go.Sp
