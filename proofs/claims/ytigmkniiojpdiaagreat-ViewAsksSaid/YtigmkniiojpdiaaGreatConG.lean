/- Values that are built, slices, strings, conversions. -/
import Derived.Test.YtigmkniiojpdiaaGreatConF
set_option linter.all false
namespace Go.Sp
open Go

section
variable {P : Program} {R : Fz} {w : World}
/-- Places of a struct's fields. -/
def plc (P : Program) (fs : Array Field) : List (Nat × Nat) := fs.toList.map fun f => (f.offset, P.cellsOf f.type)
def plcOk (P : Program) (fs : Array Field) : Bool := fs.toList.all fun f => (P.info? f.type).isSome
def plcT (P : Program) (t : TypeId) : Bool := match P.underlying t with | some (.struct fs) => plcOk P fs | _ => false
theorem run_size {t : TypeId} (h : (P.info? t).isSome = true) : (sizeOf t).run P w = .ok (P.cellsOf t) w := by
  cases e : P.info? t with
  | none => rw [e] at h; cases h
  | some i => simp [sizeOf, typeInfo, e, Program.cellsOf]
theorem run_mapM {α β : Type} (f : α → Sem β) (g : α → β) : ∀ (l : List α), (∀ x ∈ l, ∀ w, (f x).run P w = .ok (g x) w) → ∀ w, (l.mapM f).run P w = .ok (l.map g) w
  | [], _, w => by simp
  | x :: l, h, w => by
    rw [List.mapM_cons]
    simp only [Sem.run_bind, h x (List.mem_cons_self ..), Result.andThen_ok, run_mapM f g l (fun y hy => h y (List.mem_cons_of_mem _ hy))]
    simp
theorem run_places {fs : Array Field} (h : plcOk P fs = true) : (fs.mapM fun f => do pure (f.offset, ← sizeOf f.type) : Sem (Array (Nat × Nat))).run P w = .ok (plc P fs).toArray w := by
  have e : (fs.mapM fun f => do pure (f.offset, ← sizeOf f.type) : Sem (Array (Nat × Nat))) = List.toArray <$> (fs.toList.mapM fun f => do pure (f.offset, ← sizeOf f.type)) := by
    rw [Array.mapM_eq_mapM_toList]
  rw [e]
  have := run_mapM (P := P) (fun f : Field => (do pure (f.offset, ← sizeOf f.type) : Sem (Nat × Nat))) (fun f => (f.offset, P.cellsOf f.type)) fs.toList (fun f hf w => by
    have := List.all_eq_true.1 h f hf
    simp [run_size this]) w
  simp only [Sem.run_map, this, Result.andThen_ok]
  rfl

/-- Cells filled at places. -/
def fillC (pl : Nat → Option (Nat × Nat)) : Cs → List (Nat × Cs) → Option Cs
  | ps, [] => some ps
  | ps, (i, qs) :: r => match pl i with
    | none => none
    | some (off, size) => if qs.length ≠ size ∨ off + qs.length > ps.length then none else fillC pl (spl ps off qs) r
theorem fold_splice : ∀ (vs : List Value) (off : Nat) (c : List Value) (k : Nat), off + k + vs.length ≤ c.length →
    (vs.zipIdx k).foldl (fun (cs : Array Value) (x : Value × Nat) => cs.setIfInBounds (off + x.2) x.1) c.toArray = (splice c (off + k) vs).toArray
  | [], off, c, k, _ => by simp [splice]
  | v :: vs, off, c, k, h => by
    simp only [List.length_cons] at h
    simp only [List.zipIdx_cons, List.foldl_cons]
    have e : c.toArray.setIfInBounds (off + k) v = (c.set (off + k) v).toArray := by simp
    rw [e, fold_splice vs off (c.set (off + k) v) (k + 1) (by simp; omega), splice_cons (by omega)]
    simp [Nat.add_assoc]
theorem fill_ok {place : Nat → Option (Nat × Nat)} : ∀ {parts : List (Nat × Value)} {pcs : List (Nat × Cs)} {ps : Cs} {cs : List Value} {qs : Cs},
    All2 (fun (x : Nat × Cs) (y : Nat × Value) => x.1 = y.1 ∧ Cs.h R x.2 y.2.cells.toList) pcs parts → Cs.h R ps cs → fillC place ps pcs = some qs → ∃ us : List Value, Instr.fill place cs.toArray parts = some us.toArray ∧ Cs.h R qs us := by
  intro parts pcs ps cs qs h hc hf
  induction h generalizing ps cs with
  | nil => simp only [fillC, Option.some.injEq] at hf; subst hf; exact ⟨cs, by simp [Instr.fill], hc⟩
  | cons h1 h2 ih =>
    rename_i x y l l'
    obtain ⟨i, q⟩ := x
    obtain ⟨j, v⟩ := y
    obtain ⟨e, hq⟩ := h1
    simp only at e hq
    subst e
    simp only [fillC] at hf
    cases hp : place i with
    | none => rw [hp] at hf; cases hf
    | some os =>
      obtain ⟨off, size⟩ := os
      rw [hp] at hf
      simp only at hf
      split at hf
      · cases hf
      · rename_i hn
        have hl := All2.length hq
        have hl2 := All2.length hc
        have hs : v.cells.toList.length = v.cells.size := by simp
        obtain ⟨us, h3, h4⟩ := ih (Cs.splice (off := off) hc hq) hf
        refine ⟨us, ?_, h4⟩
        simp only [Instr.fill, hp]
        rw [if_neg (by simp; omega)]
        have hz := fold_splice v.cells.toList off cs 0 (by omega)
        simp only [Nat.add_zero] at hz
        rw [← h3, ← hz, ← Array.foldl_toList, Array.toList_zipIdx]
theorem All2.zip {ixs : List Nat} {vs : List Value} {css : List Cs} (h : All2 (fun q (v : Value) => Cs.h R q v.cells.toList) css vs) (hl : ixs.length = css.length) :
    All2 (fun (x : Nat × Cs) (y : Nat × Value) => x.1 = y.1 ∧ Cs.h R x.2 y.2.cells.toList) (ixs.zip css) (ixs.zip vs) := by
  induction h generalizing ixs with
  | nil => cases ixs <;> first | exact .nil | (simp at hl)
  | cons h1 _ ih =>
    cases ixs with
    | nil => simp at hl
    | cons i ixs => exact .cons ⟨rfl, h1⟩ (ih (by simpa using hl))
theorem eqs_zero (z : Array Value) : Cs.h R (z.toList.map eq) z.toList := by
  generalize z.toList = us
  induction us with
  | nil => exact .nil
  | cons u us ih => exact .cons rfl ih

/-- What is frozen, and m. -/
def Fz.plus (R : Fz) (m : Mem) : Fz := ⟨fun b o => R.mem b o ∨ (b, o) ∈ m, R.w0⟩
theorem Fz.le_plus (R : Fz) (m : Mem) : R.le (R.plus m) := ⟨rfl, fun _ _ h => .inl h⟩
theorem St.freeze {m : Mem} {l : List As} (h : Stm R m l w) : St (R.plus m) l w :=
  Stm.to (m := m) (m' := []) (R.le_plus m) (fun x hx => by simpa [Fz.plus] using hx.mono_frz (m := m) (x := x)) h
theorem Stm.below {w' : World} {m : Mem} {l : List As} (hb : Go.RowKit.Below w.heap.size w w') (hd : w.drawn ≤ w'.drawn) (h : Stm R m l w) : Stm R m l w' := by
  refine Stm.to (Fz.le_refl R) (fun x hx => ?_) h
  have same : ∀ b o, w.heap[b]? = some o → w'.heap[b]? = some o := fun b o hbo => by rw [hb.block b (lt_of_some hbo)]; exact hbo
  exact ⟨hb.os.trans hx.os, hb.tape.trans hx.tape, hb.output.trans hx.output, Nat.le_trans hx.size hb.size, fun b o hm => same b o (hx.frz b o hm), hx.nd, fun y hy => same _ _ (hx.own y hy), hx.dis, Nat.le_trans hx.drw hd⟩
theorem St.below {w' : World} {l : List As} (hb : Go.RowKit.Below w.heap.size w w') (hd : w.drawn ≤ w'.drawn) (h : St R l w) : St R l w' := Stm.below hb hd h
/-- A contract of the kit's: a value, and nothing that was there has turned. -/
theorem Pt.of_below {f : FuncId} {vs : List VP} {ret : VP} (h : ∀ (R : Fz) (F : List As) (w : World) (us : List Value), Cs.h R vs us → St R F w → ∃ v, ret.p R v ∧ Calls P f us.toArray w fun e w' => e = .returned v ∧ Go.RowKit.Below w.heap.size w w' ∧ w.drawn ≤ w'.drawn) : Pt P f vs ret := fun R F w us hu hs => by
  obtain ⟨v, hv, hc⟩ := h R F w us hu hs
  exact hc.mono fun e w' ⟨he, hb, hd⟩ => ⟨R, v, Fz.le_refl R, he, hv, hs.below hb hd⟩
theorem Pt.of_same {f : FuncId} {vs : List VP} {ret : VP} (h : ∀ (R : Fz) (F : List As) (w : World) (us : List Value), Cs.h R vs us → St R F w → ∃ v, ret.p R v ∧ Calls P f us.toArray w fun e w' => e = .returned v ∧ w' = w) : Pt P f vs ret :=
  Pt.of_below fun R F w us hu hs => by
    obtain ⟨v, hv, hc⟩ := h R F w us hu hs
    exact ⟨v, hv, hc.mono fun e w' ⟨he, hw⟩ => ⟨he, hw ▸ Go.RowKit.Below.refl _ _, hw ▸ Nat.le_refl _⟩⟩
end

section
variable {P : Program} {ops : Array Oper} {n : Nat} {dr : Bool} {R0 : Fz} {K : Act → World → Prop} {E : Env} {l : List As} {pend : List (Nat × (List As → Prop))} {rest : List (Nat × Bool)} {i d : Nat}
variable {T : TypeId} {ps : String} {af : Array Edge} {g : Option (Nat × Bool)} {x y : Operand}

theorem zip_parts (f : Operand → Value) : ∀ parts : List (Nat × Operand), (parts.map (·.1)).zip ((parts.map (·.2)).map f) = parts.map (fun p => (p.1, f p.2))
  | [] => rfl
  | p :: ps => by simp only [List.map_cons, List.zip_cons_cons, zip_parts f ps]
/-- The cells of several values. -/
def CellsPs : List VP → List Cs → Prop
  | [], [] => True
  | p :: ps, q :: qs => CellsP p q ∧ CellsPs ps qs
  | _, _ => False
theorem cellsPs_ok {R : Fz} : ∀ {ps : List VP} {qs : List Cs} {vs : List Value}, CellsPs ps qs → Cs.h R ps vs → All2 (fun q (v : Value) => Cs.h R q v.cells.toList) qs vs
  | [], [], _, _, h => by cases h; exact .nil
  | p :: ps, q :: qs, _, h, hc => by
    cases hc with
    | cons h1 h2 => exact .cons (h.1 R _ h1).1 (cellsPs_ok h.2 h2)
  | [], _ :: _, _, h, _ => h.elim
  | _ :: _, [], _, h, _ => h.elim

theorem Dv.bld {t : TypeId} {parts : List (Nat × Operand)} {fs : Array Field} {z : Value} {vs : List VP} {css : List Cs} {qs : Cs} (ho : opAt ops.toList i = some ⟨some d, .build t parts.toArray, T, ps, af, g⟩) (hg : GOn ops E g)
    (hu : P.underlying t = some (.struct fs)) (hpt : plcT P t = true) (hz : zer P t = some z) (hv : opvs E (parts.map (·.2)) = some vs) (hcs : CellsPs vs css) (hlen : css.length = parts.length)
    (hr : fillC (fun j => (plc P fs)[j]?) (z.cells.toList.map eq) ((parts.map (·.1)).zip css) = some qs) (k : Dv P ops n dr R0 K ((d, agg qs) :: E) l ((i, tt) :: pend) rest) : Dv P ops n dr R0 K E l pend ((i, false) :: rest) :=
  have hpo : plcOk P fs = true := by unfold plcT at hpt; rw [hu] at hpt; exact hpt
  Dv.okd _ _ ho (OpOk.pure hg fun R a w h => by
    have h1 := opvs_ok (a := a) (R := R) (fun x hx p hp => h x (by simp [Op.operands]; exact (by simpa using hx)) p hp) hv
    have h2 := All2.zip (ixs := parts.map (·.1)) (cellsPs_ok hcs h1) (by simp [hlen])
    obtain ⟨us, h3, h4⟩ := fill_ok h2 (eqs_zero z.cells) hr
    refine ⟨_, ⟨us, rfl, h4⟩, ?_⟩
    rw [zip_parts] at h3
    simp only [Array.toArray_toList] at h3
    have e2 : (fun i : Nat => (plc P fs).toArray[i]?) = fun j => (plc P fs)[j]? := by funext j; simp
    simp only [execOp, Instr.build, Sem.run_bind, run_zero hz, Result.andThen_ok, underlying, run_program, hu, Sem.run_pure, run_places hpo, e2]
    simp only [List.map_toArray, h3]
    rfl) trivial k

/-- A slice literal that stays as it is. -/
theorem Dv.lit {α : Type} {t e : TypeId} {m : Nat} {parts : List (Nat × Operand)} {ed : TypeDesc} {z : Value} {vs : List VP} {css : List Cs} (Kd : Kd α) (xs : List α) (ho : opAt ops.toList i = some ⟨some d, .buildSlice t m parts.toArray, T, ps, af, g⟩) (hg : GOn ops E g)
    (hu : P.underlying t = some (.slice e)) (hv2 : P.underlying e = some ed) (hz2 : P.cellsOf e = Kd.sz) (hz : zer P e = some z) (hzs : z.cells.size = Kd.sz) (h0 : 0 < m * Kd.sz) (hbig : m * Kd.sz ≤ 16777216) (hv : opvs E (parts.map (·.2)) = some vs) (hcs : CellsPs vs css) (hlen : css.length = parts.length) (hm : xs.length = m)
    (hr : fillC (fun j => some (j * Kd.sz, Kd.sz)) ((List.range (m * Kd.sz)).map (fun j => eq (z.cells[j % Kd.sz]!))) ((parts.map (·.1)).zip css) = some (xs.flatMap Kd.enc)) (k : Dv P ops n dr R0 K ((d, sl Kd xs) :: E) l ((i, tt) :: pend) rest) : Dv P ops n dr R0 K E l pend ((i, false) :: rest) :=
  Dv.okd _ _ ho (OpOk.val hg fun R a w l h _ hst => by
    have h1 := opvs_ok (a := a) (R := R) (fun x hx p hp => h x (by simp [Op.operands]; exact (by simpa using hx)) p hp) hv
    have h2 := All2.zip (ixs := parts.map (·.1)) (cellsPs_ok hcs h1) (by simp [hlen])
    have hzr : Cs.h R ((List.range (m * Kd.sz)).map (fun j => eq (z.cells[j % Kd.sz]!))) ((List.range (m * Kd.sz)).map (fun j => z.cells[j % Kd.sz]!)) := by
      generalize List.range (m * Kd.sz) = js
      induction js with
      | nil => exact .nil
      | cons j js ih => exact .cons rfl ih
    obtain ⟨us, h3, h4⟩ := fill_ok h2 hzr hr
    rw [zip_parts] at h3
    have hal : Stm R [(w.heap.size, .cells us.toArray e)] l { w with heap := w.heap.push (.cells us.toArray e) } :=
      Stm.to (m := []) (m' := [(w.heap.size, .cells us.toArray e)]) (Fz.le_refl R) (fun x hx => hx.alloc _) hst
    have hl := All2.length h4
    rw [flatMap_len, hm] at hl
    refine ⟨R.plus [(w.heap.size, .cells us.toArray e)], .slice (some ⟨w.heap.size, 0, none⟩) m m, { w with heap := w.heap.push (.cells us.toArray e) }, R.le_plus _, ?_, St.freeze hal, ?_⟩
    · refine .inr ⟨w.heap.size, 0, m, e, (0, 0), us.toArray, by rw [hm], by omega, .inr (List.mem_cons_self ..), ?_, ?_⟩
      · simp; omega
      · have e0 : (us.toArray.toList.drop 0).take (xs.length * Kd.sz) = us := by
          rw [List.drop_zero, hm]
          exact List.take_of_length_le (by simp; omega)
        rw [e0]
        exact Cs.mono (R.le_plus _) h4
    · have e3 : ¬ (m * Kd.sz > 2 ^ 24) := by omega
      have e4 : ¬ (m * Kd.sz = 0) := by omega
      have e5 : ((Array.range (m * Kd.sz)).map (fun j => z.cells[j % z.cells.size]!)) = ((List.range (m * Kd.sz)).map (fun j => z.cells[j % Kd.sz]!)).toArray := by
        rw [hzs]; apply Array.ext'; simp
      simp only [execOp, Instr.buildSlice, Sem.run_bind, underlying, run_program, hu, Sem.run_pure, Result.andThen_ok, run_sizeOf hv2 hz2, if_neg e3, if_neg e4, run_zero hz, Sem.run_ite, e5, List.map_toArray, h3, newRow, run_newObj]) trivial k

/-! #### lengths, conversions, pieces of strings and slices -/
theorem run_len_s {t : TypeId} {s : ByteArray} {w : World} (hu : P.underlying t = some .string) (a : Act) (h : a.eval x = .string s) : (execOp a.eval ⟨some d, .call ⟨.builtin .len, #[x], #[t]⟩, T, ps, af, g⟩).run P w = .ok (.value (.int .i64 s.size)) w := by
  simp [execOp, resolve, invoke, builtin, Builtin.len_, h, underlying, hu, goInt]
theorem Dv.lens {t : TypeId} {s : ByteArray} (ho : opAt ops.toList i = some ⟨some d, .call ⟨.builtin .len, #[x], #[t]⟩, T, ps, af, g⟩) (hg : GOn ops E g) (hx : opv E x = some (eq (.string s))) (hu : P.underlying t = some .string)
    (k : Dv P ops n dr R0 K ((d, eq (.int .i64 s.size)) :: E) l ((i, tt) :: pend) rest) : Dv P ops n dr R0 K E l pend ((i, false) :: rest) :=
  Dv.okd _ _ ho (OpOk.pure hg fun R a w h => ⟨_, rfl, run_len_s hu a (h x (by simp [Op.operands, Call.operands]) _ hx)⟩) trivial k
theorem run_len_l {t e : TypeId} {ad : Option Addr} {m c : Nat} {w : World} (hu : P.underlying t = some (.slice e)) (a : Act) (h : a.eval x = .slice ad m c) : (execOp a.eval ⟨some d, .call ⟨.builtin .len, #[x], #[t]⟩, T, ps, af, g⟩).run P w = .ok (.value (.int .i64 m)) w := by
  simp [execOp, resolve, invoke, builtin, Builtin.len_, h, underlying, hu, goInt]
theorem sl_shape {α : Type} {K : Kd α} {xs : List α} {R : Fz} {v : Value} (h : (sl K xs).p R v) : ∃ ad c, v = .slice ad xs.length c := by
  rcases h with ⟨a, c, e, e2⟩ | ⟨b, off, c, T, fr, cs, e, _⟩
  · subst e2; exact ⟨a, c, e⟩
  · exact ⟨_, _, e⟩
theorem Dv.lenl {α : Type} {Kd : Kd α} {xs : List α} {t e : TypeId} (ho : opAt ops.toList i = some ⟨some d, .call ⟨.builtin .len, #[x], #[t]⟩, T, ps, af, g⟩) (hg : GOn ops E g) (hx : opv E x = some (sl Kd xs)) (hu : P.underlying t = some (.slice e))
    (k : Dv P ops n dr R0 K ((d, eq (.int .i64 xs.length)) :: E) l ((i, tt) :: pend) rest) : Dv P ops n dr R0 K E l pend ((i, false) :: rest) :=
  Dv.okd _ _ ho (OpOk.pure hg fun R a w h => by
    obtain ⟨ad, c, e⟩ := sl_shape (h x (by simp [Op.operands, Call.operands]) _ hx)
    exact ⟨_, rfl, run_len_l hu a e⟩) trivial k
theorem Dv.cvi {s t : TypeId} {sd : TypeDesc} {k1 k2 : IntKind} {m : Int} (ho : opAt ops.toList i = some ⟨some d, .convert s t x, T, ps, af, g⟩) (hg : GOn ops E g) (hx : opv E x = some (eq (.int k1 m))) (hu : P.underlying s = some sd) (hv : P.underlying t = some (.int k2))
    (k : Dv P ops n dr R0 K ((d, eq (.int k2 (k2.wrap m))) :: E) l ((i, tt) :: pend) rest) : Dv P ops n dr R0 K E l pend ((i, false) :: rest) :=
  Dv.okd _ _ ho (OpOk.pure hg fun R a w h => ⟨_, rfl, by
    have e := h x (by simp [Op.operands]) _ hx
    simp only [eq_p] at e
    simp [execOp, e, convert, underlying, hu, hv, Conv.intToInt]⟩) trivial k
/-- A piece of a string. -/
def sub (s : ByteArray) (lo hi : Int) : ByteArray := s.extract lo.toNat hi.toNat
def bnd (E : Env) (dflt : Int) : Option Operand → Int → Prop
  | none, m => m = dflt
  | some x, m => ∃ k, opv E x = some (eq (.int k m))
end
end Go.Sp
