/- Values of one cell; pointers to things; the order of what is owned. -/
import Derived.Test.YtigmkniiojpdiaaGreatConJ
set_option linter.all false
namespace Go.Sp
open Go

/-- A value of one cell. -/
abbrev OV := { v : Value // v.oneCell' = true }
abbrev nilV : OV := ⟨.slice none 0 0, rfl⟩
abbrev nilV1 : OV := nilV
abbrev nilV2 : OV := nilV
abbrev nilV3 : OV := nilV
theorem all2_app {α : Type} {p : α → α → Prop} {l k F : List α} (h : All2 p l k) (hr : ∀ a, p a a) : All2 p (l ++ F) (k ++ F) := h.append (by
  induction F with
  | nil => exact .nil
  | cons a F ih => exact .cons (hr a) ih)
/-- What a function value is. -/
def fnv (f : FuncId) (fs cs : Cs) : VP := ⟨fun R v => ∃ us ws : List Value, v = .func (.func f) us.toArray ws.toArray ∧ Cs.h R fs us ∧ Cs.h R cs ws, fun hR ⟨us, ws, e, h, k⟩ => ⟨us, ws, e, Cs.mono hR h, Cs.mono hR k⟩⟩
theorem one_ov {v : OV} : One (eq v.1) := one_eq v.2
theorem own_one {α : Type} {Kd : Kd α} {v : Value} {xs : List α} {R : Fz} {m : Mem} (h : (own Kd v xs).p R m) : v.oneCell' = true := by
  obtain ⟨a, c, e⟩ := own_shape h; subst e; rfl
def pulls : List As → List Nat → List As
  | l, [] => l
  | l, j :: js => pulls (pull l j) js
theorem perm_pulls : ∀ (js : List Nat) (l : List As), l.Perm (pulls l js)
  | [], l => List.Perm.refl l
  | j :: js, l => (perm_pull l j).trans (perm_pulls js (pull l j))
theorem perm_by {l l' : List As} (js : List Nat) (h : pulls l js = l') : l.Perm l' := h ▸ perm_pulls js l
theorem drop_by {l l' : List As} {R : Fz} {w : World} : ∀ (n : Nat), l.drop n = l' → St R l w → St R l' w
  | 0, h, k => by simp at h; subst h; exact k
  | n + 1, h, k => by
    cases l with
    | nil => simp at h; subst h; exact k
    | cons A l => exact drop_by n (by simpa using h) k.drop
/-- Pieces in an order, the first n of which are let go. -/
theorem st_by {l l' : List As} (js : List Nat) (n : Nat) (h : (pulls l js).drop n = l') : ∀ R w, St R l w → St R l' w := fun _ _ k => drop_by n h (k.permL (perm_pulls js l))
theorem st_ord {l l' : List As} (js : List Nat) (n : Nat) (h : (pulls l js).drop n = l') : ∀ R w, St R l w → ∃ _ : Unit, True ∧ St R l' w := fun R w k => ⟨(), trivial, st_by js n h R w k⟩

/-- A choice of pieces, by their places. -/
def sel (L : List As) : List Nat → List As
  | [] => []
  | j :: js => L.getD j (exA (γ := Unit) (fun _ => True) (fun _ => [])) :: sel L js
theorem sel_map (L : List As) : ∀ js, sel L js = js.map (fun j => L.getD j (exA (γ := Unit) (fun _ => True) (fun _ => [])))
  | [] => rfl
  | j :: js => by simp only [sel, List.map_cons, sel_map L js]
theorem perm_sel {L : List As} (F : List As) (js : List Nat) (h : js.isPerm (List.range L.length) = true) : (L ++ F).Perm (sel L js ++ F) := by
  refine List.Perm.append_right F ?_
  rw [sel_map]
  have h1 : L = (List.range L.length).map (fun j => L.getD j (exA (γ := Unit) (fun _ => True) (fun _ => []))) := by
    apply List.ext_getElem
    · simp
    · intro i h1 h2; simp [List.getElem?_eq_getElem h1]
  refine (List.Perm.of_eq h1).trans (List.Perm.map _ (List.isPerm_iff.1 h).symm)
theorem perm_to {L F l l' : List As} (js : List Nat) (h : js.isPerm (List.range L.length) = true) (e : L ++ F = l) (e' : sel L js ++ F = l') : l.Perm l' := by
  subst e e'; exact perm_sel F js h
theorem st_sel {L F l l' : List As} (js : List Nat) (n : Nat) (h : js.isPerm (List.range L.length) = true) (e : L ++ F = l) (e' : (sel L js ++ F).drop n = l') : ∀ R w, St R l w → St R l' w := fun R w k => by
  subst e
  exact drop_by n e' (k.permL (perm_sel F js h))
theorem st_selg {L F l l' : List As} (js : List Nat) (n : Nat) (h : js.isPerm (List.range L.length) = true) (e : L ++ F = l) (e' : (sel L js ++ F).drop n = l') : ∀ R w, St R l w → ∃ _ : Unit, True ∧ St R l' w := fun R w k => ⟨(), trivial, st_sel js n h e e' R w k⟩
theorem perm_exs {B L F l : List As} (G : List As) (js : List Nat) (h : js.isPerm (List.range L.length) = true) (e : L ++ F = l) (e' : sel L js ++ F = B ++ G) : ∃ F, l.Perm (B ++ F) := ⟨G, perm_to js h e e'⟩

/-- What is no nil pointer. -/
def NN (A : As) (p : Value) : Prop := ∀ R m, A.p R m → ∃ a, p = .pointer (some a)
section
variable {P : Program} {ops : Array Oper} {n : Nat} {dr : Bool} {R0 : Fz} {K : Act → World → Prop} {E : Env} {l : List As} {pend : List (Nat × (List As → Prop))} {rest : List (Nat × Bool)} {i d : Nat}
variable {T : TypeId} {ps : String} {af : Array Edge} {g : Option (Nat × Bool)} {x y : Operand} {α : Type} {Kd : Kd α} {v : Value} {xs : List α}
theorem Dv.appv {t e xT : TypeId} {ti : TypeInfo} {z : Value} {p : VP} {ys : List α} {jj : Nat} (ho : opAt ops.toList i = some ⟨some d, .call ⟨.builtin .append, #[x, y], #[t, xT]⟩, T, ps, af, g⟩) (hg : GOn ops E g)
    (hx : opv E x = some (eq v)) (hjj : l[jj]? = some (own Kd v xs)) (hy : opv E y = some p) (hs : SrcOk P Kd l p ys) (hu : P.underlying t = some (.slice e)) (hxd : P.underlying xT = some .string ∨ ∃ e', P.underlying xT = some (.slice e'))
    (hti : P.info? e = some ti) (hsz : ti.size = Kd.sz) (hz : ti.zero = some z) (hzs : z.cells.size = Kd.sz) (h0 : 0 < Kd.sz) (hb : xs.length + ys.length ≤ 9223372036854775807 ∧ (xs.length + ys.length) * ti.bytes ≤ 140737488355328)
    (hp : dr = true → ∀ z ∈ pend, ((Region.before ops).getD i 0).testBit z.1 = true ∨ ∀ v' : OV, z.2 (l.set jj (own Kd v'.1 (xs ++ ys))))
    (k : ∀ v' : OV, Dv P ops n dr R0 K ((d, eq v'.1) :: E) (l.set jj (own Kd v'.1 (xs ++ ys))) pend rest) : Dv P ops n dr R0 K E l pend ((i, true) :: rest) :=
  .bar _ (γ := OV) (fun _ => True) (fun v' => eq v'.1) (fun v' => l.set jj (own Kd v'.1 (xs ++ ys))) (at_of ho) (OpBar.val hg fun R a w h hst => by
    have e1 := h x (by simp [Op.operands, Call.operands]) _ hx
    have e2 := h y (by simp [Op.operands, Call.operands]) _ hy
    simp only [eq_p] at e1
    obtain ⟨us, hus, hrun⟩ := hs R w _ hst e2
    obtain ⟨m, hm, hk⟩ := hst.opn hjj
    obtain ⟨v', w', m', hr, hm', hk'⟩ := run_app (ty := T) hu hxd hti hsz hz hzs h0 hm hk hus hrun hb.2 hb.1
    refine ⟨⟨v', own_one hm'⟩, R, v', w', trivial, Fz.le_refl R, rfl, St.shut hjj hm' hk', ?_⟩
    simp [execOp, resolve, invoke, builtin, e1, hr]) (fun e z hz => (hp e z hz).imp id fun h b _ => h b) (fun b _ => k b)
theorem Dv.fabp {s j : Nat} {fs : Array Field} {f : Field} {fd : TypeDesc} {sz b off : Nat} {p : Value} (hpp : p = .pointer (some ⟨b, off, none⟩)) (ho : opAt ops.toList i = some ⟨some d, .fieldAddr s x j, T, ps, af, g⟩) (hg : GOn ops E g)
    (hx : opv E x = some (eq p)) (hu : P.underlying s = some (.struct fs)) (hf : fs[j]? = some f) (hv : P.underlying f.type = some fd) (hz : P.cellsOf f.type = sz) (h0 : sz ≠ 0)
    (k : Dv P ops n dr R0 K ((d, eq (.pointer (some ⟨b, off + f.offset, none⟩))) :: E) l ((i, tt) :: pend) rest) : Dv P ops n dr R0 K E l pend ((i, false) :: rest) := by
  subst hpp
  exact Dv.fab ho hg hx hu hf hv hz h0 k
theorem Dv.nilpp {a : Addr} {p : Value} (hpp : p = .pointer (some a)) (ho : opAt ops.toList i = some ⟨some d, .nilCheck x, T, ps, af, g⟩)
    (hg : GOn ops E g) (hx : opv E x = some (eq p)) (k : Dv P ops n dr R0 K ((d, eq p) :: E) l ((i, tt) :: pend) rest) : Dv P ops n dr R0 K E l pend ((i, false) :: rest) := by
  subst hpp
  exact Dv.nilp ho hg hx k
theorem Dv.nilA {A : As} {p : Value} (hn : NN A p) (ho : opAt ops.toList i = some ⟨some d, .nilCheck x, T, ps, af, g⟩)
    (hg : GOn ops E g) (hx : opv E x = some (eq p)) (hA : A ∈ l) (k : Dv P ops n dr R0 K ((d, eq p) :: E) l ((i, (A ∈ ·)) :: pend) rest) : Dv P ops n dr R0 K E l pend ((i, false) :: rest) :=
  Dv.okd _ _ ho (OpOk.val hg fun R a w l h hA hst => by
    have e := h x (by simp [Op.operands]) _ hx
    simp only [eq_p] at e
    obtain ⟨m, hm, _⟩ := St.read hA hst
    obtain ⟨ad, e2⟩ := hn R m hm
    exact ⟨R, p, w, Fz.le_refl R, rfl, hst, by simp [execOp, e, e2]⟩) hA k
theorem run_eqp {t : TypeId} {td : TypeId} {a : Addr} {w : World} (hu : P.underlying t = some (.pointer td)) : (do eqGuard .eql t x y (.pointer (some a)) (.pointer none); binOp .eql t (.pointer (some a)) (.pointer none) : Sem Value).run P w = .ok (.bool false) w := by
  obtain ⟨m, hm⟩ : ∃ m, Op.maxDepth = m + 1 := ⟨9999, rfl⟩
  simp [eqGuard, binOp, Op.equal, hm, Op.equalIn, underlying, hu]
theorem run_nep {t : TypeId} {td : TypeId} {a : Addr} {w : World} (hu : P.underlying t = some (.pointer td)) : (do eqGuard .neq t x y (.pointer (some a)) (.pointer none); binOp .neq t (.pointer (some a)) (.pointer none) : Sem Value).run P w = .ok (.bool true) w := by
  obtain ⟨m, hm⟩ : ∃ m, Op.maxDepth = m + 1 := ⟨9999, rfl⟩
  simp [eqGuard, binOp, Op.equal, hm, Op.equalIn, underlying, hu]
theorem Dv.peq0 {A : As} {p : Value} {t td yT : TypeId} (hn : NN A p) (ho : opAt ops.toList i = some ⟨some d, .binOp .eql t x y yT, T, ps, af, g⟩) (hg : GOn ops E g) (hx : opv E x = some (eq p)) (hy : opv E y = some (eq (.pointer none))) (hu : P.underlying t = some (.pointer td)) (hA : A ∈ l)
    (k : Dv P ops n dr R0 K ((d, eq (.bool false)) :: E) l ((i, (A ∈ ·)) :: pend) rest) : Dv P ops n dr R0 K E l pend ((i, false) :: rest) :=
  Dv.okd _ _ ho (OpOk.val hg fun R a w l h hA hst => by
    have e := h x (by simp [Op.operands]) _ hx
    have e1 := h y (by simp [Op.operands]) _ hy
    simp only [eq_p] at e e1
    obtain ⟨m, hm, _⟩ := St.read hA hst
    obtain ⟨ad, e2⟩ := hn R m hm
    have := run_eqp (x := x) (y := y) (a := ad) (w := w) hu
    refine ⟨R, _, w, Fz.le_refl R, rfl, hst, ?_⟩
    simp only [execOp, e, e1, e2, Sem.run_bind] at this ⊢
    rw [this]; rfl) hA k
theorem Dv.pne0 {A : As} {p : Value} {t td yT : TypeId} (hn : NN A p) (ho : opAt ops.toList i = some ⟨some d, .binOp .neq t x y yT, T, ps, af, g⟩) (hg : GOn ops E g) (hx : opv E x = some (eq p)) (hy : opv E y = some (eq (.pointer none))) (hu : P.underlying t = some (.pointer td)) (hA : A ∈ l)
    (k : Dv P ops n dr R0 K ((d, eq (.bool true)) :: E) l ((i, (A ∈ ·)) :: pend) rest) : Dv P ops n dr R0 K E l pend ((i, false) :: rest) :=
  Dv.okd _ _ ho (OpOk.val hg fun R a w l h hA hst => by
    have e := h x (by simp [Op.operands]) _ hx
    have e1 := h y (by simp [Op.operands]) _ hy
    simp only [eq_p] at e e1
    obtain ⟨m, hm, _⟩ := St.read hA hst
    obtain ⟨ad, e2⟩ := hn R m hm
    have := run_nep (x := x) (y := y) (a := ad) (w := w) hu
    refine ⟨R, _, w, Fz.le_refl R, rfl, hst, ?_⟩
    simp only [execOp, e, e1, e2, Sem.run_bind] at this ⊢
    rw [this]; rfl) hA k
theorem nn_ex {γ : Type} {f : γ → List As} {p : Value} {b : γ → Nat} : NN (exA (fun g => p = .pointer (some ⟨b g, 0, none⟩)) f) p := fun _ _ ⟨_, h, _⟩ => ⟨_, h⟩

/-! #### pieces of slices and strings -/
def loB (o : Option Int) : Nat := match o with | some x => x.toNat | none => 0
theorem bound_ok {kd : IntKind} {m : Int} {y : Nat} {cd : BoundsCode} {w : World} (h0 : 0 ≤ m) (h1 : m ≤ y) : (Instr.sliceBound (.int kd m) y cd).run P w = .ok m.toNat w := by
  simp [Instr.sliceBound, asIntOf, h0, h1]
theorem pendc {k : Nat} {γ : Type} {ok : γ → Prop} {L : γ → List As} (h : ∀ z ∈ pend, ((Region.before ops).getD k 0).testBit z.1 = true ∨ ∀ b, z.2 (L b)) : ∀ z ∈ pend, ((Region.before ops).getD k 0).testBit z.1 = true ∨ ∀ b, ok b → z.2 (L b) :=
  fun z hz => (h z hz).imp id fun h b _ => h b
/-- A call that reads what is lent. -/
theorem Dv.calll {f : FuncId} {as : Array Operand} {ts : Array TypeId} {vs : List VP} {B F : List As} {ret : VP} (ho : opAt ops.toList i = some ⟨some d, .call ⟨.value (.func f), as, ts⟩, T, ps, af, g⟩) (hg : GOn ops E g)
    (hc : callable P f = true) (hv : opvs E as.toList = some vs) (ht : Tr P f vs B (γ := Unit) (fun _ => True) (fun _ => ret) (fun _ => B)) (hl : l.Perm (B ++ F))
    (k : Dv P ops n dr R0 K ((d, ret) :: E) l ((i, fun l => ∃ F, l.Perm (B ++ F)) :: pend) rest) : Dv P ops n dr R0 K E l pend ((i, false) :: rest) :=
  Dv.okd (fun l => ∃ F, l.Perm (B ++ F)) ret ho (fun R a w l _ _ hs ⟨F, hl⟩ hst K Q hk => by
    refine runs_call (R := R) (f := f) (cap := #[]) (fst := #[]) rfl (wanted_on hs hg) hc rfl rfl ?_
    have := opvs_ok (fun x hx p hp => hs.op (by simp [Op.operands, Call.operands]; exact .inr (by simpa using hx)) hp) hv
    refine (ht R F w _ (by simpa using this) (St.permL hl hst)).mono ?_
    rintro e w' ⟨_, R', v, _, hR, he, hv, hst'⟩
    exact ⟨v, he, hk R' v w' hR hv (hst'.permL hl.symm)⟩) ⟨F, hl⟩ k
theorem perm_more {B F l : List As} (A : List As) (h : l.Perm (B ++ F)) : ∃ F, (A ++ l).Perm (B ++ F) := ⟨A ++ F, (h.append_left A).trans (by
  rw [← List.append_assoc, ← List.append_assoc]; exact List.perm_append_comm.append_right F)⟩
theorem perm_ex {B l : List As} (F : List As) (js : List Nat) (h : pulls l js = B ++ F) : ∃ F, l.Perm (B ++ F) := ⟨F, perm_by js h⟩
theorem Dv.skipb {o : Oper} (ho : opAt ops.toList i = some o) (hg : GOff ops E o.guard) (hp : dr = true → ∀ z ∈ pend, ((Region.before ops).getD i 0).testBit z.1 = true ∨ ∀ _ : Unit, z.2 l)
    (k : Dv P ops n dr R0 K (Sp.ext E o.dst (eq undef)) l pend rest) : Dv P ops n dr R0 K E l pend ((i, true) :: rest) :=
  .bar o (γ := Unit) (fun _ => True) (fun _ => eq undef) (fun _ => l) (at_of ho) (fun R a w _ _ hs hst K Q hk => by
    unfold runs
    rw [wanted_off hs hg]
    exact hk () R undef w trivial (Fz.le_refl R) rfl hst) (fun e z hz => (hp e z hz).imp id fun h b _ => h b) (fun _ _ => k)
theorem src_nil : SrcOk P Kd l (eq (.slice none 0 0)) ([] : List α) := fun R w u hst hp => by
  simp only [eq_p] at hp
  subst hp
  exact ⟨[], .nil, fun w' _ => by simp [Builtin.lenOf, Builtin.firstCells]⟩
theorem Dv.appw {t e xT : TypeId} {z : Value} {p : VP} {ys : List α} {jj by_ : Nat} (ho : opAt ops.toList i = some ⟨some d, .call ⟨.builtin .append, #[x, y], #[t, xT]⟩, T, ps, af, g⟩) (hg : GOn ops E g)
    (hx : opv E x = some (eq v)) (hjj : l[jj]? = some (own Kd v xs)) (hy : opv E y = some p) (hs : SrcOk P Kd l p ys) (hu : P.underlying t = some (.slice e)) (hxd : P.underlying xT = some .string ∨ ∃ e', P.underlying xT = some (.slice e'))
    (hti : ∃ ti, P.info? e = some ti ∧ ti.size = Kd.sz ∧ ti.zero = some z ∧ ti.bytes = by_) (hzs : z.cells.size = Kd.sz) (h0 : 0 < Kd.sz) (hb : xs.length + ys.length ≤ 9223372036854775807 ∧ (xs.length + ys.length) * by_ ≤ 140737488355328)
    (hp : dr = true → ∀ z ∈ pend, ((Region.before ops).getD i 0).testBit z.1 = true ∨ ∀ v' : OV, z.2 (l.set jj (own Kd v'.1 (xs ++ ys))))
    (k : ∀ v' : OV, Dv P ops n dr R0 K ((d, eq v'.1) :: E) (l.set jj (own Kd v'.1 (xs ++ ys))) pend rest) : Dv P ops n dr R0 K E l pend ((i, true) :: rest) := by
  obtain ⟨ti, h1, h2, h3, h4⟩ := hti
  subst h4
  exact Dv.appv ho hg hx hjj hy hs hu hxd h1 h2 h3 hzs h0 hb hp k
/-- A slice literal that is owned. -/
theorem Dv.lito {t e : TypeId} {m : Nat} {parts : List (Nat × Operand)} {ed : TypeDesc} {z : Value} {vs : List VP} {css : List Cs} (Kd : Sp.Kd α) (xs : List α) (ho : opAt ops.toList i = some ⟨some d, .buildSlice t m parts.toArray, T, ps, af, g⟩) (hg : GOn ops E g)
    (hu : P.underlying t = some (.slice e)) (hv2 : P.underlying e = some ed) (hz2 : P.cellsOf e = Kd.sz) (hz : zer P e = some z) (hzs : z.cells.size = Kd.sz) (h0 : 0 < m * Kd.sz) (hbig : m * Kd.sz ≤ 16777216) (hv : opvs E (parts.map (·.2)) = some vs) (hcs : CellsPs vs css) (hlen : css.length = parts.length) (hm : xs.length = m)
    (hr : fillC (fun j => some (j * Kd.sz, Kd.sz)) ((List.range (m * Kd.sz)).map (fun j => eq (z.cells[j % Kd.sz]!))) ((parts.map (·.1)).zip css) = some (xs.flatMap Kd.enc))
    (hp : dr = true → ∀ z ∈ pend, ((Region.before ops).getD i 0).testBit z.1 = true ∨ ∀ v' : OV, z.2 (own Kd v'.1 xs :: l))
    (k : ∀ v' : OV, Dv P ops n dr R0 K ((d, eq v'.1) :: E) (own Kd v'.1 xs :: l) pend rest) : Dv P ops n dr R0 K E l pend ((i, true) :: rest) :=
  .bar _ (γ := OV) (fun _ => True) (fun v' => eq v'.1) (fun v' => own Kd v'.1 xs :: l) (at_of ho) (OpBar.val hg fun R a w h hst => by
    have h1 := opvs_ok (a := a) (R := R) (fun x hx p hp => h x (by simp [Op.operands]; exact (by simpa using hx)) p hp) hv
    have h2 := All2.zip (ixs := parts.map (·.1)) (cellsPs_ok hcs h1) (by simp [hlen])
    have hzr : Cs.h R ((List.range (m * Kd.sz)).map (fun j => eq (z.cells[j % Kd.sz]!))) ((List.range (m * Kd.sz)).map (fun j => z.cells[j % Kd.sz]!)) := by
      generalize List.range (m * Kd.sz) = js
      induction js with
      | nil => exact .nil
      | cons j js ih => exact .cons rfl ih
    obtain ⟨us, h3, h4⟩ := fill_ok h2 hzr hr
    rw [zip_parts] at h3
    have hl := All2.length h4
    rw [flatMap_len, hm] at hl
    refine ⟨⟨.slice (some ⟨w.heap.size, 0, none⟩) m m, rfl⟩, R, _, { w with heap := w.heap.push (.cells us.toArray e) }, trivial, Fz.le_refl R, rfl, hst.alloc (o := .cells us.toArray e) ?_, ?_⟩
    · refine .inr ⟨w.heap.size, 0, m, e, (0, 0), us, by rw [hm], by omega, rfl, by omega, by simp, ?_⟩
      have e0 : (us.drop 0).take (xs.length * Kd.sz) = us := by
        rw [List.drop_zero, hm]
        exact List.take_of_length_le (by omega)
      rw [e0]
      exact h4
    · have e3 : ¬ (m * Kd.sz > 2 ^ 24) := by omega
      have e4 : ¬ (m * Kd.sz = 0) := by omega
      have e5 : ((Array.range (m * Kd.sz)).map (fun j => z.cells[j % z.cells.size]!)) = ((List.range (m * Kd.sz)).map (fun j => z.cells[j % Kd.sz]!)).toArray := by
        rw [hzs]; apply Array.ext'; simp
      simp only [execOp, Instr.buildSlice, Sem.run_bind, underlying, run_program, hu, Sem.run_pure, Result.andThen_ok, run_sizeOf hv2 hz2, if_neg e3, if_neg e4, run_zero hz, Sem.run_ite, e5, List.map_toArray, h3, newRow]
      rfl) (fun e z hz => (hp e z hz).imp id fun h b _ => h b) (fun b _ => k b)
end
section
variable {P : Program} {ops : Array Oper} {n : Nat} {dr : Bool} {R0 : Fz} {K : Act → World → Prop} {E : Env} {l : List As} {pend : List (Nat × (List As → Prop))} {rest : List (Nat × Bool)} {i d : Nat}
variable {T : TypeId} {ps : String} {af : Array Edge} {g : Option (Nat × Bool)} {x y : Operand}
theorem Dv.stx {t : TypeId} {td : TypeDesc} {sz b off : Nat} {bT : TypeId} {p : VP} {ps' qs : Cs} {j : Nat} (l2 : List As) (ho : opAt ops.toList i = some ⟨none, .store t x y, T, ps, af, g⟩) (hg : GOn ops E g)
    (hx : opv E x = some (eq (.pointer (some ⟨b, off, none⟩)))) (hy : opv E y = some p) (hq : CellsP p qs) (hu : P.underlying t = some td) (hz : P.cellsOf t = sz) (hl : qs.length = sz) (hj : l[j]? = some (blk b bT ps')) (hle : off + sz ≤ ps'.length) (h2 : l.set j (blk b bT (spl ps' off qs)) = l2)
    (hp : dr = true → ∀ z ∈ pend, ((Region.before ops).getD i 0).testBit z.1 = true ∨ ∀ _ : Unit, z.2 l2)
    (k : Dv P ops n dr R0 K E l2 pend rest) : Dv P ops n dr R0 K E l pend ((i, true) :: rest) := by
  subst h2
  exact Dv.stb ho hg hx hy hq hu hz hl hj hle hp k
end
theorem idx_lt {i : Int} {n : Nat} (h : 0 ≤ i ∧ i < (n : Int)) : i.toNat < n := by omega
theorem Gets.outr {α β : Type} {κ : β → Prop} {f : α → Option β} {b : β} (h : Gets (some (Sum.inr b)) (fun o => Gets (fall f o) κ)) : Gets (some b) κ := by
  obtain ⟨v, hv, hk⟩ := h
  cases hv
  exact hk
section
variable {P : Program} {ops : Array Oper} {n : Nat} {dr : Bool} {R0 : Fz} {K : Act → World → Prop} {E : Env} {l : List As} {pend : List (Nat × (List As → Prop))} {rest : List (Nat × Bool)} {i d : Nat}
variable {T : TypeId} {ps : String} {af : Array Edge} {g : Option (Nat × Bool)} {x y : Operand} {α : Type} {Kd : Kd α} {v : Value} {xs : List α}
theorem Dv.appx {t e xT : TypeId} {z : Value} {p : VP} {ys : List α} {jj by_ : Nat} (l2 : OV → List As) (ho : opAt ops.toList i = some ⟨some d, .call ⟨.builtin .append, #[x, y], #[t, xT]⟩, T, ps, af, g⟩) (hg : GOn ops E g)
    (hx : opv E x = some (eq v)) (hjj : l[jj]? = some (own Kd v xs)) (hy : opv E y = some p) (hs : SrcOk P Kd l p ys) (hu : P.underlying t = some (.slice e)) (hxd : P.underlying xT = some .string ∨ ∃ e', P.underlying xT = some (.slice e'))
    (hti : ∃ ti, P.info? e = some ti ∧ ti.size = Kd.sz ∧ ti.zero = some z ∧ ti.bytes = by_) (hzs : z.cells.size = Kd.sz) (h0 : 0 < Kd.sz) (hb : xs.length + ys.length ≤ 9223372036854775807 ∧ (xs.length + ys.length) * by_ ≤ 140737488355328)
    (h2 : (fun v' : OV => l.set jj (own Kd v'.1 (xs ++ ys))) = l2)
    (hp : dr = true → ∀ z ∈ pend, ((Region.before ops).getD i 0).testBit z.1 = true ∨ ∀ v' : OV, z.2 (l2 v'))
    (k : ∀ v' : OV, Dv P ops n dr R0 K ((d, eq v'.1) :: E) (l2 v') pend rest) : Dv P ops n dr R0 K E l pend ((i, true) :: rest) := by
  subst h2
  exact Dv.appw ho hg hx hjj hy hs hu hxd hti hzs h0 hb hp k
theorem Dv.callx {f : FuncId} {as : Array Operand} {ts : Array TypeId} {vs : List VP} {pre F : List As} {γ : Type} {ok : γ → Prop} {ret : γ → VP} {post : γ → List As} {dst : Option Nat} (l2 : γ → List As) (ho : opAt ops.toList i = some ⟨dst, .call ⟨.value (.func f), as, ts⟩, T, ps, af, g⟩) (hg : GOn ops E g)
    (hc : callable P f = true) (hv : opvs E as.toList = some vs) (ht : Tr P f vs pre ok ret post) (hl : l.Perm (pre ++ F)) (h2 : (fun b => post b ++ F) = l2)
    (hp : dr = true → ∀ z ∈ pend, ((Region.before ops).getD i 0).testBit z.1 = true ∨ ∀ b, ok b → z.2 (l2 b))
    (k : ∀ b, ok b → Dv P ops n dr R0 K (Sp.ext E dst (ret b)) (l2 b) pend rest) : Dv P ops n dr R0 K E l pend ((i, true) :: rest) := by
  subst h2
  exact Dv.callB ho hg hc hv ht hl hp k
end
/-! What is said is weakened. -/
def Wk (p p' : VP) : Prop := ∀ R v, p.p R v → p'.p R v
theorem wk_id {p : VP} : Wk p p := fun _ _ h => h
theorem wk_nil {α : Type} {K : Kd α} : Wk (eq (.slice none 0 0)) (sl K []) := fun _ _ h => .inl ⟨none, 0, h, rfl⟩
theorem wk_all {ps ps' : Cs} (h : All2 Wk ps ps') {R : Fz} {cs : List Value} (hc : Cs.h R ps cs) : Cs.h R ps' cs := by
  induction h generalizing cs with
  | nil => cases hc; exact .nil
  | cons h1 _ ih => cases hc with | cons c1 c2 => exact .cons (h1 _ _ c1) (ih c2)
theorem wk_agg {ps ps' : Cs} (h : All2 Wk ps ps') : Wk (agg ps) (agg ps') := fun _ _ ⟨cs, e, hc⟩ => ⟨cs, e, wk_all h hc⟩
theorem wk_tup {ps ps' : Cs} (h : All2 Wk ps ps') : Wk (tup ps) (tup ps') := fun _ _ ⟨cs, e, hc⟩ => ⟨cs, e, wk_all h hc⟩
def WkA (A A' : As) : Prop := ∀ R m, A.p R m → A'.p R m
theorem wka_id {A : As} : WkA A A := fun _ _ h => h
theorem wka_blk {b : Nat} {T : TypeId} {ps ps' : Cs} (h : All2 Wk ps ps') : WkA (blk b T ps) (blk b T ps') := fun _ _ ⟨cs, e, hc⟩ => ⟨cs, e, wk_all h hc⟩
theorem wka_bs {R : Fz} : ∀ {l l' : List As} {m : Mem}, All2 WkA l l' → Bs R m l → Bs R m l'
  | [], _, _, .nil, h => h
  | _ :: _, _, _, .cons h1 h2, ⟨m1, m2, k1, k2, hp⟩ => ⟨m1, m2, h1 _ _ k1, wka_bs h2 k2, hp⟩
def WkE (E E' : Env) : Prop := ∀ t p', find E' t = some p' → ∃ p, find E t = some p ∧ Wk p p'
theorem wke_nil {E : Env} : WkE E [] := fun _ _ h => by cases h
theorem wke_cons {E E' : Env} {t : Nat} {p p' : VP} (h : find E t = some p) (hc : Wk p p') (k : WkE E E') : WkE E ((t, p') :: E') := fun s r hr => by
  simp only [find] at hr
  split at hr
  · rename_i e; have := Nat.eq_of_beq_eq_true e; subst this; cases hr; exact ⟨p, h, hc⟩
  · exact k s r hr
theorem gh_wk {n : Nat} {R0 : Fz} {E E' : Env} {l l' : List As} (hE : WkE E E') (hl : All2 WkA l l') : Gh n R0 E l (γ := Unit) (fun _ => True) (fun _ => E') (fun _ => l') := fun R a w _ ha hs => by
  obtain ⟨m, h1, h2⟩ := hs.to_bs
  exact ⟨(), R, trivial, Fz.le_refl R, ⟨ha.1, ha.2.1, fun t p' hp' => by
    obtain ⟨p, k1, k2⟩ := hE t p' hp'
    exact k2 _ _ (ha.2.2 t p k1)⟩, St.of_bs (wka_bs hl h1) h2⟩
theorem Pt.weak {P : Program} {f : FuncId} {vs vs' : List VP} {ret : VP} (h : Pt P f vs ret) (hv : All2 Wk vs' vs) : Pt P f vs' ret := fun R F w us hu hs => h R F w us (wk_all hv hu) hs
theorem Tr.weak {P : Program} {f : FuncId} {vs vs' : List VP} {pre : List As} {γ : Type} {ok : γ → Prop} {ret : γ → VP} {post : γ → List As} (h : Tr P f vs pre ok ret post) (hv : All2 Wk vs' vs) : Tr P f vs' pre ok ret post := fun R F w us hu hs => h R F w us (wk_all hv hu) hs
theorem Tr.pre {P : Program} {f : FuncId} {vs : List VP} {pre pre' : List As} {γ : Type} {ok : γ → Prop} {ret : γ → VP} {post : γ → List As} (h : Tr P f vs pre ok ret post) (hp : ∀ F R w, St R (pre' ++ F) w → ∃ _ : Unit, True ∧ St R (pre ++ F) w) : Tr P f vs pre' ok ret post := fun R F w us hu hs => by
  obtain ⟨_, _, hs'⟩ := hp F R w hs
  exact h R F w us hu hs'
theorem res_wk {P : Program} {n : Nat} {E : Env} {l : List As} {r : ResultVar} {p p' : VP} (h : Res P n E l r p) (hw : Wk p p') : Res P n E l r p' := fun R a w ha hs => by
  obtain ⟨v, h1, h2⟩ := h R a w ha hs
  exact ⟨v, h1, hw _ _ h2⟩
theorem lt_wk {B : List As} {p p' q : VP} (h : Lt B p p') (hw : Wk p' q) : Lt B p q := fun R m u hB hp => hw _ _ (h R m u hB hp)
theorem inf_of {P : Program} {t sz by_ : Nat} {z : Value} (h1 : (P.info? t).map (·.size) = some sz) (h2 : (P.info? t).bind (·.zero) = some z) (h3 : (P.info? t).map (·.bytes) = some by_) : ∃ i, P.info? t = some i ∧ i.size = sz ∧ i.zero = some z ∧ i.bytes = by_ := by
  cases h : P.info? t with
  | none => rw [h] at h1; cases h1
  | some i =>
    rw [h] at h1 h2 h3
    exact ⟨i, rfl, by simpa using h1, by simpa using h2, by simpa using h3⟩
end Go.Sp
