/- The operations, one rule each: what a temporary holds behind it. -/
import Derived.Test.YtigmkniiojpdiaaGreatConB
import Derived.Laws.Sem
import Derived.WalkKit
set_option linter.all false
namespace Go.Sp
open Go

def opv (E : Env) : Operand → Option VP
  | .tmp t => find E t
  | .const v => some (eq v)
  | .global g => some (eq (.pointer (some ⟨g, 0, none⟩)))
  | .func f => some (eq (.func (.func f) #[] #[]))
def opAt : List Oper → Nat → Option Oper
  | [], _ => none
  | o :: _, 0 => some o
  | _ :: l, i + 1 => opAt l i
theorem opAt_eq : ∀ (l : List Oper) (i : Nat), opAt l i = l[i]?
  | [], _ => rfl
  | _ :: _, 0 => rfl
  | _ :: l, i + 1 => by simp [opAt, opAt_eq l i]
theorem at_of {ops : Array Oper} {i : Nat} {o : Oper} (h : opAt ops.toList i = some o) : ops[i]? = some o := by rw [opAt_eq] at h; simpa using h

/-- The guard is met. -/
def GOn (ops : Array Oper) (E : Env) : Option (Nat × Bool) → Prop
  | none => True
  | some (j, b) => ∃ o t, opAt ops.toList j = some o ∧ o.dst = some t ∧ find E t = some (eq (.bool b))
/-- The guard is not met. -/
def GOff (ops : Array Oper) (E : Env) : Option (Nat × Bool) → Prop
  | none => False
  | some (j, b) => ∃ o t, opAt ops.toList j = some o ∧ o.dst = some t ∧ (find E t = some (eq (.bool !b)) ∨ find E t = some (eq undef))

section
variable {P : Program} {ops : Array Oper} {n : Nat} {E : Env} {R : Fz} {a : Act} {w : World}

theorem Sees.op {o : Oper} (h : Sees R a E (o.looksAt ops)) {x : Operand} (hx : x ∈ o.op.operands) {p : VP} (hp : opv E x = some p) : p.p R (a.eval x) := by
  cases x with
  | tmp t => exact h t (List.mem_append_left _ (List.mem_filterMap.2 ⟨.tmp t, by simpa using hx, rfl⟩)) p hp
  | const v => simp only [opv, Option.some.injEq] at hp; subst hp; rfl
  | global g => simp only [opv, Option.some.injEq] at hp; subst hp; rfl
  | func f => simp only [opv, Option.some.injEq] at hp; subst hp; rfl
theorem get_bool {t : Nat} {b : Bool} (h : Act.get a t = .bool b) : a.tmps[t]? = some (.bool b) := by
  unfold Act.get at h
  rw [Array.getD_eq_getD_getElem?] at h
  cases e : a.tmps[t]? with
  | none => rw [e] at h; simp [undef] at h
  | some v => rw [e] at h; simpa using h
theorem wanted_on {o : Oper} (h : Sees R a E (o.looksAt ops)) (hg : GOn ops E o.guard) : Region.wanted o (yielded ops a.tmps) = true := by
  unfold Region.wanted
  cases e : o.guard with
  | none => rfl
  | some jb =>
    obtain ⟨j, b⟩ := jb
    rw [e] at hg
    obtain ⟨o', t, h1, h2, h3⟩ := hg
    have ht : t ∈ o.looksAt ops := List.mem_append_right _ (by simp [e, at_of h1, h2])
    have hv := get_bool (a := a) (h t ht _ h3)
    simp [yielded, at_of h1, h2, hv]
theorem wanted_off {o : Oper} (h : Sees R a E (o.looksAt ops)) (hg : GOff ops E o.guard) : Region.wanted o (yielded ops a.tmps) = false := by
  unfold Region.wanted
  cases e : o.guard with
  | none => rw [e] at hg; exact hg.elim
  | some jb =>
    obtain ⟨j, b⟩ := jb
    rw [e] at hg
    obtain ⟨o', t, h1, h2, h3⟩ := hg
    have ht : t ∈ o.looksAt ops := List.mem_append_right _ (by simp [e, at_of h1, h2])
    rcases h3 with h3 | h3
    · have hv := get_bool (a := a) (h t ht _ h3)
      simp [yielded, at_of h1, h2, hv]
    · have hv := h t ht _ h3
      simp only [eq_p, Act.get, Array.getD_eq_getD_getElem?] at hv
      cases e5 : a.tmps[t]? with
      | none => simp [yielded, at_of h1, h2, e5]
      | some v =>
        rw [e5] at hv
        simp only [Option.getD_some] at hv
        subst hv
        simp [yielded, at_of h1, h2, e5, undef]

/-- An operation that yields a value. -/
theorem OpOk.val {o : Oper} {q : List As → Prop} {p : VP} (hg : GOn ops E o.guard)
    (h : ∀ (R : Fz) (a : Act) (w : World) (l : List As), (∀ x ∈ o.op.operands, ∀ p, opv E x = some p → p.p R (a.eval x)) → q l → St R l w →
      ∃ R' v w', R.le R' ∧ p.p R' v ∧ St R' l w' ∧ (execOp a.eval o).run P w = .ok (.value v) w') : OpOk P ops n o E q p := by
  intro R a w l _ _ hs hq hst K Q hk
  obtain ⟨R', v, w', hR, hv, hst', hr⟩ := h R a w l (fun x hx p hp => hs.op hx hp) hq hst
  unfold runs
  rw [if_pos (wanted_on hs hg)]
  unfold Oper.wp
  rw [hr]
  exact hk R' v w' hR hv hst'
/-- One that yields a value that hangs on its operands alone. -/
theorem OpOk.pure {o : Oper} {q : List As → Prop} {p : VP} (hg : GOn ops E o.guard)
    (h : ∀ (R : Fz) (a : Act) (w : World), (∀ x ∈ o.op.operands, ∀ p, opv E x = some p → p.p R (a.eval x)) → ∃ v, p.p R v ∧ (execOp a.eval o).run P w = .ok (.value v) w) : OpOk P ops n o E q p :=
  OpOk.val hg fun R a w l hx _ hst => by
    obtain ⟨v, hv, hr⟩ := h R a w hx
    exact ⟨R, v, w, Fz.le_refl R, hv, hst, hr⟩
/-- One whose guard isn't met. -/
theorem OpOk.skip {o : Oper} {q : List As → Prop} (hg : GOff ops E o.guard) : OpOk P ops n o E q (eq undef) := by
  intro R a w l _ _ hs hq hst K Q hk
  unfold runs
  rw [wanted_off hs hg]
  exact hk R undef w (Fz.le_refl R) rfl hst
theorem OpBar.val {o : Oper} {l : List As} {γ : Type} {ok : γ → Prop} {p : γ → VP} {l' : γ → List As} (hg : GOn ops E o.guard)
    (h : ∀ (R : Fz) (a : Act) (w : World), (∀ x ∈ o.op.operands, ∀ p, opv E x = some p → p.p R (a.eval x)) → St R l w →
      ∃ g R' v w', ok g ∧ R.le R' ∧ (p g).p R' v ∧ St R' (l' g) w' ∧ (execOp a.eval o).run P w = .ok (.value v) w') : OpBar P ops n o E l ok p l' := by
  intro R a w _ _ hs hst K Q hk
  obtain ⟨g, R', v, w', hg', hR, hv, hst', hr⟩ := h R a w (fun x hx p hp => hs.op hx hp) hst
  unfold runs
  rw [if_pos (wanted_on hs hg)]
  unfold Oper.wp
  rw [hr]
  exact hk g R' v w' hg' hR hv hst'
theorem OpBar.act {o : Oper} {l : List As} {γ : Type} {ok : γ → Prop} {l' : γ → List As} (hg : GOn ops E o.guard)
    (h : ∀ (R : Fz) (a : Act) (w : World), (∀ x ∈ o.op.operands, ∀ p, opv E x = some p → p.p R (a.eval x)) → St R l w →
      ∃ g R' w', ok g ∧ R.le R' ∧ St R' (l' g) w' ∧ (execOp a.eval o).run P w = .ok .skip w') : OpBar P ops n o E l ok (fun _ => eq undef) l' := by
  intro R a w _ _ hs hst K Q hk
  obtain ⟨g, R', w', hg', hR, hst', hr⟩ := h R a w (fun x hx p hp => hs.op hx hp) hst
  unfold runs
  rw [if_pos (wanted_on hs hg)]
  unfold Oper.wp
  rw [hr]
  exact hk g R' undef w' hg' hR rfl hst'

variable {dr : Bool} {R0 : Fz} {K : Act → World → Prop} {l : List As} {pend : List (Nat × (List As → Prop))} {rest : List (Nat × Bool)} {i : Nat}
abbrev tt : List As → Prop := fun _ => True

theorem Dv.okd {d : Nat} {op : Op} {T : TypeId} {ps : String} {af : Array Edge} {g : Option (Nat × Bool)} (q : List As → Prop) (p : VP) (ho : opAt ops.toList i = some ⟨some d, op, T, ps, af, g⟩)
    (hok : OpOk P ops n ⟨some d, op, T, ps, af, g⟩ E q p) (hq : q l) (k : Dv P ops n dr R0 K ((d, p) :: E) l ((i, q) :: pend) rest) : Dv P ops n dr R0 K E l pend ((i, false) :: rest) :=
  .ok _ q p (at_of ho) hok hq k

/-! #### values alone -/
theorem Dv.mv {d : Nat} {x : Operand} {T : TypeId} {ps : String} {af : Array Edge} {g : Option (Nat × Bool)} {p : VP} (ho : opAt ops.toList i = some ⟨some d, .move x, T, ps, af, g⟩)
    (hg : GOn ops E g) (hx : opv E x = some p) (k : Dv P ops n dr R0 K ((d, p) :: E) l ((i, tt) :: pend) rest) : Dv P ops n dr R0 K E l pend ((i, false) :: rest) :=
  Dv.okd tt p ho (OpOk.pure hg fun R a w h => ⟨_, h x (by simp [Op.operands]) p hx, by simp [execOp]⟩) trivial k
theorem Dv.asg {d : Nat} {x : Operand} {T : TypeId} {ps : String} {af : Array Edge} {g : Option (Nat × Bool)} {p : VP} (ho : opAt ops.toList i = some ⟨some d, .assign x, T, ps, af, g⟩)
    (hg : GOn ops E g) (hx : opv E x = some p) (k : Dv P ops n dr R0 K ((d, p) :: E) l ((i, tt) :: pend) rest) : Dv P ops n dr R0 K E l pend ((i, false) :: rest) :=
  Dv.okd tt p ho (OpOk.pure hg fun R a w h => ⟨_, h x (by simp [Op.operands]) p hx, by simp [execOp]⟩) trivial k
theorem Dv.skip {o : Oper} (ho : opAt ops.toList i = some o) (hg : GOff ops E o.guard) (k : Dv P ops n dr R0 K (ext E o.dst (eq undef)) l ((i, tt) :: pend) rest) : Dv P ops n dr R0 K E l pend ((i, false) :: rest) :=
  .ok o tt (eq undef) (at_of ho) (OpOk.skip hg) trivial k
theorem Dv.pickT {d : Nat} {c x y : Operand} {T : TypeId} {ps : String} {af : Array Edge} {g : Option (Nat × Bool)} {p : VP} (ho : opAt ops.toList i = some ⟨some d, .pick c x y, T, ps, af, g⟩)
    (hg : GOn ops E g) (hc : opv E c = some (eq (.bool true))) (hx : opv E x = some p) (k : Dv P ops n dr R0 K ((d, p) :: E) l ((i, tt) :: pend) rest) : Dv P ops n dr R0 K E l pend ((i, false) :: rest) :=
  Dv.okd tt p ho (OpOk.pure hg fun R a w h => ⟨_, h x (by simp [Op.operands]) p hx, by
    have := h c (by simp [Op.operands]) _ hc; simp at this; simp [execOp, this, asBool]⟩) trivial k
theorem Dv.pickF {d : Nat} {c x y : Operand} {T : TypeId} {ps : String} {af : Array Edge} {g : Option (Nat × Bool)} {p : VP} (ho : opAt ops.toList i = some ⟨some d, .pick c x y, T, ps, af, g⟩)
    (hg : GOn ops E g) (hc : opv E c = some (eq (.bool false))) (hx : opv E y = some p) (k : Dv P ops n dr R0 K ((d, p) :: E) l ((i, tt) :: pend) rest) : Dv P ops n dr R0 K E l pend ((i, false) :: rest) :=
  Dv.okd tt p ho (OpOk.pure hg fun R a w h => ⟨_, h y (by simp [Op.operands]) p hx, by
    have := h c (by simp [Op.operands]) _ hc; simp at this; simp [execOp, this, asBool]⟩) trivial k
theorem Dv.nilp {d : Nat} {x : Operand} {T : TypeId} {ps : String} {af : Array Edge} {g : Option (Nat × Bool)} {u : Addr} (ho : opAt ops.toList i = some ⟨some d, .nilCheck x, T, ps, af, g⟩)
    (hg : GOn ops E g) (hx : opv E x = some (eq (.pointer (some u)))) (k : Dv P ops n dr R0 K ((d, eq (.pointer (some u))) :: E) l ((i, tt) :: pend) rest) : Dv P ops n dr R0 K E l pend ((i, false) :: rest) :=
  Dv.okd tt _ ho (OpOk.pure hg fun R a w h => ⟨_, rfl, by
    have := h x (by simp [Op.operands]) _ hx; simp at this; simp [execOp, this]⟩) trivial k
theorem Dv.nilr {d : Nat} {x : Operand} {T : TypeId} {ps : String} {af : Array Edge} {g : Option (Nat × Bool)} {qs : Cs} (ho : opAt ops.toList i = some ⟨some d, .nilCheck x, T, ps, af, g⟩)
    (hg : GOn ops E g) (hx : opv E x = some (rp qs)) (k : Dv P ops n dr R0 K ((d, rp qs) :: E) l ((i, tt) :: pend) rest) : Dv P ops n dr R0 K E l pend ((i, false) :: rest) :=
  Dv.okd tt _ ho (OpOk.pure hg fun R a w h => by
    have := h x (by simp [Op.operands]) _ hx
    refine ⟨_, this, ?_⟩
    obtain ⟨b, off, T, fr, cs, e, _⟩ := this
    simp [execOp, e]) trivial k
theorem Dv.ext {d : Nat} {x : Operand} {j : Nat} {T : TypeId} {ps : String} {af : Array Edge} {g : Option (Nat × Bool)} {qs : Cs} {p : VP} (ho : opAt ops.toList i = some ⟨some d, .extract x j, T, ps, af, g⟩)
    (hg : GOn ops E g) (hx : opv E x = some (tup qs)) (hp : qs[j]? = some p) (k : Dv P ops n dr R0 K ((d, p) :: E) l ((i, tt) :: pend) rest) : Dv P ops n dr R0 K E l pend ((i, false) :: rest) :=
  Dv.okd tt _ ho (OpOk.pure hg fun R a w h => by
    obtain ⟨cs, e, hc⟩ := h x (by simp [Op.operands]) _ hx
    obtain ⟨v, hv, hpv⟩ := hc.get hp
    exact ⟨v, hpv, by simp [execOp, e, Instr.extract, hv]⟩) trivial k
/-- Two operands whose values are known. -/
theorem Dv.bin {d : Nat} {op : BinOp} {x y : Operand} {xT yT : TypeId} {T : TypeId} {ps : String} {af : Array Edge} {g : Option (Nat × Bool)} {u1 u2 v : Value} (ho : opAt ops.toList i = some ⟨some d, .binOp op xT x y yT, T, ps, af, g⟩)
    (hg : GOn ops E g) (hx : opv E x = some (eq u1)) (hy : opv E y = some (eq u2)) (hr : ∀ w, (do eqGuard op xT x y u1 u2; binOp op xT u1 u2 : Sem Value).run P w = .ok v w)
    (k : Dv P ops n dr R0 K ((d, eq v) :: E) l ((i, tt) :: pend) rest) : Dv P ops n dr R0 K E l pend ((i, false) :: rest) :=
  Dv.okd tt _ ho (OpOk.pure hg fun R a w h => ⟨_, rfl, by
    have h1 := h x (by simp [Op.operands]) _ hx
    have h2 := h y (by simp [Op.operands]) _ hy
    simp only [eq_p] at h1 h2
    have := hr w
    simp only [execOp, h1, h2, Sem.run_bind] at this ⊢
    rw [this]; rfl⟩) trivial k
theorem Dv.un {d : Nat} {op : UnOp} {x : Operand} {xT : TypeId} {T : TypeId} {ps : String} {af : Array Edge} {g : Option (Nat × Bool)} {u1 v : Value} (ho : opAt ops.toList i = some ⟨some d, .unOp op xT x, T, ps, af, g⟩)
    (hg : GOn ops E g) (hx : opv E x = some (eq u1)) (hr : ∀ w, (Op.unary op u1).run P w = .ok v w)
    (k : Dv P ops n dr R0 K ((d, eq v) :: E) l ((i, tt) :: pend) rest) : Dv P ops n dr R0 K E l pend ((i, false) :: rest) :=
  Dv.okd tt _ ho (OpOk.pure hg fun R a w h => ⟨_, rfl, by
    have h1 := h x (by simp [Op.operands]) _ hx
    simp only [eq_p] at h1
    simp [execOp, h1, hr w]⟩) trivial k
theorem run_not (b : Bool) : (Op.unary .not (.bool b)).run P w = .ok (.bool !b) w := rfl
theorem run_neg (k : IntKind) (x : Int) : (Op.unary .neg (.int k x)).run P w = .ok (.int k (k.wrap (0 - x))) w := rfl
section
variable {x y : Operand} {xT : TypeId} {kd : IntKind} {m m' : Int} {s s' : ByteArray}
theorem run_add : (do eqGuard .add xT x y (.int kd m) (.int kd m'); binOp .add xT (.int kd m) (.int kd m') : Sem Value).run P w = .ok (.int kd (kd.wrap (m + m'))) w := by simp [eqGuard, binOp, Op.intArith]
theorem run_sub : (do eqGuard .sub xT x y (.int kd m) (.int kd m'); binOp .sub xT (.int kd m) (.int kd m') : Sem Value).run P w = .ok (.int kd (kd.wrap (m - m'))) w := by simp [eqGuard, binOp, Op.intArith]
theorem run_mul : (do eqGuard .mul xT x y (.int kd m) (.int kd m'); binOp .mul xT (.int kd m) (.int kd m') : Sem Value).run P w = .ok (.int kd (kd.wrap (m * m'))) w := by simp [eqGuard, binOp, Op.intArith]
theorem run_quo (h : m' ≠ 0) : (do eqGuard .quo xT x y (.int kd m) (.int kd m'); binOp .quo xT (.int kd m) (.int kd m') : Sem Value).run P w = .ok (.int kd (kd.wrap (m.tdiv m'))) w := by simp [eqGuard, binOp, Op.intDiv, h]
theorem run_rem (h : m' ≠ 0) : (do eqGuard .rem xT x y (.int kd m) (.int kd m'); binOp .rem xT (.int kd m) (.int kd m') : Sem Value).run P w = .ok (.int kd (m.tmod m')) w := by simp [eqGuard, binOp, Op.intDiv, h]
theorem run_lt : (do eqGuard .lss xT x y (.int kd m) (.int kd m'); binOp .lss xT (.int kd m) (.int kd m') : Sem Value).run P w = .ok (.bool (decide (m < m'))) w := by simp [eqGuard, binOp, Op.intCmp]
theorem run_le : (do eqGuard .leq xT x y (.int kd m) (.int kd m'); binOp .leq xT (.int kd m) (.int kd m') : Sem Value).run P w = .ok (.bool (decide (m ≤ m'))) w := by simp [eqGuard, binOp, Op.intCmp]
theorem run_gt : (do eqGuard .gtr xT x y (.int kd m) (.int kd m'); binOp .gtr xT (.int kd m) (.int kd m') : Sem Value).run P w = .ok (.bool (decide (m' < m))) w := by simp [eqGuard, binOp, Op.intCmp]
theorem run_ge : (do eqGuard .geq xT x y (.int kd m) (.int kd m'); binOp .geq xT (.int kd m) (.int kd m') : Sem Value).run P w = .ok (.bool (decide (m' ≤ m))) w := by simp [eqGuard, binOp, Op.intCmp]
theorem run_eq : (do eqGuard .eql xT x y (.int kd m) (.int kd m'); binOp .eql xT (.int kd m) (.int kd m') : Sem Value).run P w = .ok (.bool (m == m')) w := by simp [eqGuard, binOp, Op.intCmp]
theorem run_ne : (do eqGuard .neq xT x y (.int kd m) (.int kd m'); binOp .neq xT (.int kd m) (.int kd m') : Sem Value).run P w = .ok (.bool (m != m')) w := by simp [eqGuard, binOp, Op.intCmp]
theorem toList_beq (s s' : ByteArray) : (s.toList == s'.toList) = decide (s = s') := by
  rw [ByteArray.toList_eq, ByteArray.toList_eq]
  cases s; cases s'
  rw [Bool.eq_iff_iff]; simp
def sLt (s s' : ByteArray) : Bool := Op.bytesLess s.data.toList s'.data.toList
theorem bytesLess_tri : ∀ x y : List UInt8, (!(Op.bytesLess x y || x == y)) = Op.bytesLess y x
  | [], [] => rfl
  | [], _ :: _ => rfl
  | _ :: _, [] => rfl
  | a :: x, b :: y => by
    have ih := bytesLess_tri x y
    simp only [Op.bytesLess]
    rcases Nat.lt_trichotomy a.toNat b.toNat with h | h | h
    · have h1 : a < b := UInt8.lt_iff_toNat_lt.2 h
      have h2 : ¬ b < a := fun k => by have := UInt8.lt_iff_toNat_lt.1 k; omega
      have h3 : ¬ b = a := fun k => by rw [k] at h; omega
      simp [h1, h2, h3]
    · have e : a = b := UInt8.toNat_inj.1 h
      subst e
      have h1 : ¬ a < a := fun k => by have := UInt8.lt_iff_toNat_lt.1 k; omega
      simp only [h1, decide_false, Bool.false_or, beq_self_eq_true, Bool.true_and]
      rw [← ih]; simp
    · have h1 : b < a := UInt8.lt_iff_toNat_lt.2 h
      have h2 : ¬ a < b := fun k => by have := UInt8.lt_iff_toNat_lt.1 k; omega
      have h3 : ¬ a = b := fun k => by rw [k] at h; omega
      simp [h1, h2, h3]
theorem sLt_tri (s s' : ByteArray) : (!(Op.bytesLess s.toList s'.toList || s.toList == s'.toList)) = sLt s' s := by
  rw [ByteArray.toList_eq, ByteArray.toList_eq]; exact bytesLess_tri _ _
theorem sLt_def (s s' : ByteArray) : Op.bytesLess s.toList s'.toList = sLt s s' := by rw [ByteArray.toList_eq, ByteArray.toList_eq]; rfl
theorem run_seq : (do eqGuard .eql xT x y (.string s) (.string s'); binOp .eql xT (.string s) (.string s') : Sem Value).run P w = .ok (.bool (decide (s = s'))) w := by rw [← toList_beq]; simp [eqGuard, binOp, Op.stringOp]
theorem run_sne : (do eqGuard .neq xT x y (.string s) (.string s'); binOp .neq xT (.string s) (.string s') : Sem Value).run P w = .ok (.bool (!decide (s = s'))) w := by rw [← toList_beq]; simp [eqGuard, binOp, Op.stringOp]
theorem run_slt : (do eqGuard .lss xT x y (.string s) (.string s'); binOp .lss xT (.string s) (.string s') : Sem Value).run P w = .ok (.bool (sLt s s')) w := by rw [← sLt_def]; simp [eqGuard, binOp, Op.stringOp]
theorem run_sgt : (do eqGuard .gtr xT x y (.string s) (.string s'); binOp .gtr xT (.string s) (.string s') : Sem Value).run P w = .ok (.bool (sLt s' s)) w := by rw [← sLt_tri]; simp [eqGuard, binOp, Op.stringOp]
theorem run_sle : (do eqGuard .leq xT x y (.string s) (.string s'); binOp .leq xT (.string s) (.string s') : Sem Value).run P w = .ok (.bool (!sLt s' s)) w := by rw [← sLt_tri]; simp [eqGuard, binOp, Op.stringOp]
theorem run_sge : (do eqGuard .geq xT x y (.string s) (.string s'); binOp .geq xT (.string s) (.string s') : Sem Value).run P w = .ok (.bool (!sLt s s')) w := by rw [← sLt_def]; simp [eqGuard, binOp, Op.stringOp]
theorem run_cat (h : s.size + s'.size ≤ 9223372036854775807) : (do eqGuard .add xT x y (.string s) (.string s'); binOp .add xT (.string s) (.string s') : Sem Value).run P w = .ok (.string (s ++ s')) w := by
  simp only [eqGuard, binOp, Op.stringOp, IntKind.max, IntKind.signed, IntKind.bits]
  simp
  omega
end
end
end Go.Sp
