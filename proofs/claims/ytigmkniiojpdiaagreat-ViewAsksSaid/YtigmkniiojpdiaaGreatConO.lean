/- Function values, as plain functions. -/
import Derived.Test.YtigmkniiojpdiaaGreatConN
set_option linter.all false
namespace Go.Sp
open Go
/-- A function value whose calls do as Q tells: of arguments vs a result ret. -/
def fnq (P : Program) (Q : List VP → VP → Prop) : VP :=
  ⟨fun R v => ∃ f, ∃ fst cap : Array Value, v = .func (.func f) fst cap ∧ callable P f = true ∧ ∀ vs ret, Q vs ret → ∀ R', R.le R' → ∀ (F : List As) (w : World) (us : List Value), Cs.h R' vs us → St R' F w →
      Calls P f ((fst.toList ++ us ++ cap.toList).toArray) w fun e w' => ∃ R'' v, R'.le R'' ∧ e = .returned v ∧ ret.p R'' v ∧ St R'' F w',
   fun hR ⟨f, fst, cap, e, hc, h⟩ => ⟨f, fst, cap, e, hc, fun vs ret hq R' hR' => h vs ret hq R' (Fz.le_trans hR hR')⟩⟩
theorem one_fnq {P : Program} {Q : List VP → VP → Prop} : One (fnq P Q) := fun _ _ h => by
  obtain ⟨f, fst, cap, e, _⟩ := h; subst e; rfl
/-- A function of the program is one. -/
theorem wk_fn {P : Program} {f : FuncId} {Q : List VP → VP → Prop} (hc : callable P f = true) (h : ∀ vs ret, Q vs ret → Pt P f vs ret) : Wk (eq (.func (.func f) #[] #[])) (fnq P Q) := fun R v hv =>
  ⟨f, #[], #[], hv, hc, fun vs ret hq R' _ F w us hu hs => by simpa using h vs ret hq R' F w us hu hs⟩
section
variable {P : Program} {ops : Array Oper} {n : Nat} {dr : Bool} {R0 : Fz} {K : Act → World → Prop} {E : Env} {l : List As} {pend : List (Nat × (List As → Prop))} {rest : List (Nat × Bool)} {i d : Nat}
variable {T : TypeId} {ps : String} {af : Array Edge} {g : Option (Nat × Bool)} {x y : Operand}
theorem Dv.mvfn {f : FuncId} {Q : List VP → VP → Prop} (hc : callable P f = true) (h : ∀ vs ret, Q vs ret → Pt P f vs ret) (ho : opAt ops.toList i = some ⟨some d, .move x, T, ps, af, g⟩) (hg : GOn ops E g) (hx : opv E x = some (eq (.func (.func f) #[] #[])))
    (k : Dv P ops n dr R0 K ((d, fnq P Q) :: E) l ((i, tt) :: pend) rest) : Dv P ops n dr R0 K E l pend ((i, false) :: rest) :=
  Dv.okd _ _ ho (OpOk.pure hg fun R a w hh => ⟨_, wk_fn hc h R _ (hh x (by simp [Op.operands]) _ hx), by simp [execOp]⟩) trivial k
/-- A closure is made: its calls are those of the function, with what it holds ahead and behind. -/
theorem Dv.mkf {f : FuncId} {fs cs : Array Operand} {vf vc : List VP} {Q : List VP → VP → Prop} (hc : callable P f = true) (h : ∀ vs ret, Q vs ret → Pt P f (vf ++ vs ++ vc) ret) (ho : opAt ops.toList i = some ⟨some d, .makeFunc (.func f) fs cs, T, ps, af, g⟩) (hg : GOn ops E g)
    (hf : opvs E fs.toList = some vf) (hcp : opvs E cs.toList = some vc)
    (k : Dv P ops n dr R0 K ((d, fnq P Q) :: E) l ((i, tt) :: pend) rest) : Dv P ops n dr R0 K E l pend ((i, false) :: rest) :=
  Dv.okd _ _ ho (OpOk.pure hg fun R a w hh => by
    have h1 := opvs_ok (a := a) (R := R) (fun x hx p hp => hh x (by simp [Op.operands]; exact .inl (by simpa using hx)) p hp) hf
    have h2 := opvs_ok (a := a) (R := R) (fun x hx p hp => hh x (by simp [Op.operands]; exact .inr (by simpa using hx)) p hp) hcp
    refine ⟨.func (.func f) (fs.map a.eval) (cs.map a.eval), ⟨f, _, _, rfl, hc, fun vs ret hq R' hR F w us hu hs => ?_⟩, by simp [execOp, Instr.makeFunc]⟩
    have := h vs ret hq R' F w (fs.toList.map a.eval ++ us ++ cs.toList.map a.eval) (((Cs.mono hR h1).append hu).append (Cs.mono hR h2)) hs
    simpa using this) trivial k
/-- A function value is called. -/
theorem Dv.callq {as : Array Operand} {ts : Array TypeId} {vs : List VP} {ret : VP} {Q : List VP → VP → Prop} (ho : opAt ops.toList i = some ⟨some d, .call ⟨.value x, as, ts⟩, T, ps, af, g⟩) (hg : GOn ops E g)
    (hx : opv E x = some (fnq P Q)) (hv : opvs E as.toList = some vs) (hq : Q vs ret) (k : Dv P ops n dr R0 K ((d, ret) :: E) l ((i, tt) :: pend) rest) : Dv P ops n dr R0 K E l pend ((i, false) :: rest) :=
  Dv.okd tt ret ho (fun R a w l _ _ hs _ hst K Q' hk => by
    obtain ⟨f, fst, cap, e, hc, h⟩ := hs.op (x := x) (by simp [Op.operands, Call.operands]) hx
    refine runs_call (R := R) (f := f) (cap := cap) (fst := fst) rfl (wanted_on hs hg) hc rfl e ?_
    have := opvs_ok (fun x hx p hp => hs.op (by simp [Op.operands, Call.operands]; exact .inr (by simpa using hx)) hp) hv
    refine (h vs ret hq R (Fz.le_refl R) l w _ (by simpa using this) hst).mono ?_
    rintro e w' ⟨R', v, hR, he, hv, hst'⟩
    exact ⟨v, he, hk R' v w' hR hv hst'⟩) trivial k
end
/-! A block is frozen. -/
theorem gh_frzb {n : Nat} {R0 : Fz} {E E' : Env} {l l' : List As} {b : Nat} {T : TypeId} {ps : Cs} (j : Nat) (hj : l[j]? = some (blk b T ps)) (hE : CvE (.pointer (some ⟨b, 0, none⟩)) (rp ps) E E') (hl : All2 (CvA (.pointer (some ⟨b, 0, none⟩)) (rp ps)) (l.eraseIdx j) l') :
    Gh n R0 E l (γ := Unit) (fun _ => True) (fun _ => E') (fun _ => l') := fun R a w _ ha hs => by
  obtain ⟨m, hm, hk⟩ := hs.opn hj
  obtain ⟨cs, e, hc⟩ := hm
  have hlen := All2.length hc
  have hq : (rp ps).p (R.plus m) (.pointer (some ⟨b, 0, none⟩)) := by
    refine ⟨b, 0, T, (0, 0), cs.toArray, rfl, .inr (by rw [e]; exact List.mem_cons_self ..), by simp [hlen], ?_⟩
    rw [List.drop_zero, hlen, List.take_of_length_le (by simp)]
    exact Cs.mono (R.le_plus m) hc
  obtain ⟨m2, h2, hw⟩ := (St.freeze hk).to_bs
  exact ⟨(), R.plus m, trivial, R.le_plus m, ⟨ha.1, ha.2.1, fun t p' hp' => by
    obtain ⟨p, h1, h2⟩ := hE t p' hp'
    exact h2 _ _ hq (p.mono (R.le_plus m) (ha.2.2 t p h1))⟩, St.of_bs (cva_bs hq hl h2) hw⟩
theorem cells_wk {p q : VP} (h : Wk p q) (k : One p) : CellsP p [q] := fun R v hv => by
  obtain ⟨h1, h2⟩ := cells_one k R v hv
  rw [cells_of_one (k R v hv)]
  exact ⟨.cons (h R v hv) .nil, fun u hu => by
    have e : u = v := by simpa using hu
    rw [e]; exact k R v hv⟩
theorem wk_rp {ps ps' : Cs} (h : All2 Wk ps ps') : Wk (rp ps) (rp ps') := fun _ _ ⟨b, off, T, fr, cs, e, hm, hl, hc⟩ => by
  have hlen := All2.length h
  exact ⟨b, off, T, fr, cs, e, hm, by omega, by rw [← hlen]; exact wk_all h hc⟩
section
variable {P : Program} {ops : Array Oper} {n : Nat} {dr : Bool} {R0 : Fz} {K : Act → World → Prop} {E : Env} {l : List As} {pend : List (Nat × (List As → Prop))} {rest : List (Nat × Bool)} {i d : Nat}
variable {T : TypeId} {ps : String} {af : Array Edge} {g : Option (Nat × Bool)} {x y : Operand}
/-- A slot holds a known function. -/
theorem Dv.callk {f : FuncId} {as : Array Operand} {ts : Array TypeId} {vs : List VP} {ret : VP} (ho : opAt ops.toList i = some ⟨some d, .call ⟨.value x, as, ts⟩, T, ps, af, g⟩) (hg : GOn ops E g)
    (hx : opv E x = some (eq (.func (.func f) #[] #[]))) (hc : callable P f = true) (hv : opvs E as.toList = some vs) (ht : Pt P f vs ret) (k : Dv P ops n dr R0 K ((d, ret) :: E) l ((i, tt) :: pend) rest) : Dv P ops n dr R0 K E l pend ((i, false) :: rest) :=
  Dv.okd tt ret ho (fun R a w l _ _ hs _ hst K Q' hk => by
    have e := hs.op (x := x) (by simp [Op.operands, Call.operands]) hx
    simp only [eq_p] at e
    refine runs_call (R := R) (f := f) (cap := #[]) (fst := #[]) rfl (wanted_on hs hg) hc rfl e ?_
    have := opvs_ok (fun x hx p hp => hs.op (by simp [Op.operands, Call.operands]; exact .inr (by simpa using hx)) hp) hv
    refine (ht R l w _ (by simpa using this) hst).mono ?_
    rintro e w' ⟨R', v, hR, he, hv, hst'⟩
    exact ⟨v, he, hk R' v w' hR hv hst'⟩) trivial k
/-- An array by value whose elements are of one cell, at a place. -/
theorem Dv.ixa {α : Type} {Kd : Kd α} {xs : List α} {t e m : TypeId} {ed : TypeDesc} {ik : IntKind} {j : Int} {qs : Cs} {p : VP} (ho : opAt ops.toList i = some ⟨some d, .index t x y, T, ps, af, g⟩) (hg : GOn ops E g) (hx : opv E x = some (agg qs)) (hq : qs = xs.flatMap Kd.enc) (hy : opv E y = some (eq (.int ik j)))
    (hu : P.underlying t = some (.array m e)) (hv : P.underlying e = some ed) (hd : aggD ed = false) (hz : P.cellsOf e = 1) (hk : Kd.sz = 1) (hm : xs.length = m) (h0 : 0 ≤ j) (h1 : j < xs.length) (hp2 : Kd.enc (Kd.at xs j) = [p]) (k : Dv P ops n dr R0 K ((d, p) :: E) l ((i, tt) :: pend) rest) : Dv P ops n dr R0 K E l pend ((i, false) :: rest) :=
  Dv.okd _ _ ho (OpOk.pure hg fun R a w h => by
    obtain ⟨cs, e1, hc⟩ := h x (by simp [Op.operands]) _ hx
    have e2 := h y (by simp [Op.operands]) _ hy
    simp only [eq_p] at e2
    have hj : j.toNat < xs.length := by omega
    have hl := All2.length hc
    rw [hq, flatMap_len, hk, Nat.mul_one] at hl
    have hh : Cs.h R (xs.flatMap Kd.enc) ((cs.drop 0).take (xs.length * Kd.sz)) := by
      rw [List.drop_zero, hk, Nat.mul_one, hl, List.take_length, ← hq]; exact hc
    have := Cs.elem hj hh
    rw [show xs.getD j.toNat Kd.dflt = Kd.at xs j from rfl, hp2, hk, Nat.mul_one, Nat.zero_add] at this
    obtain ⟨v, hv1, hpv⟩ := take_all2 this (j := 0) rfl
    have hcv : cs[j.toNat]? = some v := by
      rw [List.getElem?_take] at hv1
      simpa using hv1
    refine ⟨v, hpv, ?_⟩
    simp [execOp, Instr.index, asIntOf, underlying, e1, e2, hu, h0, hm ▸ h1, run_part1 hv hd (cs := cs.toArray) (off := j.toNat) hcv, run_sizeOf hv hz, asAgg]) trivial k
theorem Dv.blda {t e m sz : TypeId} {ed : TypeDesc} {parts : List (Nat × Operand)} {z : Value} {vs : List VP} {css : List Cs} {qs : Cs} (ho : opAt ops.toList i = some ⟨some d, .build t parts.toArray, T, ps, af, g⟩) (hg : GOn ops E g)
    (hu : P.underlying t = some (.array m e)) (hv2 : P.underlying e = some ed) (hz2 : P.cellsOf e = sz) (hz : zer P t = some z) (hv : opvs E (parts.map (·.2)) = some vs) (hcs : CellsPs vs css) (hlen : css.length = parts.length)
    (hr : fillC (fun j => some (j * sz, sz)) (z.cells.toList.map eq) ((parts.map (·.1)).zip css) = some qs) (k : Dv P ops n dr R0 K ((d, agg qs) :: E) l ((i, tt) :: pend) rest) : Dv P ops n dr R0 K E l pend ((i, false) :: rest) :=
  Dv.okd _ _ ho (OpOk.pure hg fun R a w h => by
    have h1 := opvs_ok (a := a) (R := R) (fun x hx p hp => h x (by simp [Op.operands]; exact (by simpa using hx)) p hp) hv
    have h2 := All2.zip (ixs := parts.map (·.1)) (cellsPs_ok hcs h1) (by simp [hlen])
    obtain ⟨us, h3, h4⟩ := fill_ok h2 (eqs_zero z.cells) hr
    refine ⟨_, ⟨us, rfl, h4⟩, ?_⟩
    rw [zip_parts] at h3
    simp only [Array.toArray_toList] at h3
    simp only [execOp, Instr.build, Sem.run_bind, run_zero hz, Result.andThen_ok, underlying, run_program, hu, Sem.run_pure, run_sizeOf hv2 hz2]
    simp only [List.map_toArray, h3]
    rfl) trivial k
end
end Go.Sp
