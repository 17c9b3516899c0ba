/- Pieces of strings and of slices; the smaller and the greater of two. -/
import Derived.Test.YtigmkniiojpdiaaGreatConK
set_option linter.all false
namespace Go.Sp
open Go

def Bd (v : Option Value) (d r : Nat) : Prop := (v = none ∧ r = d) ∨ ∃ k m, v = some (.int k m) ∧ 0 ≤ m ∧ m.toNat = r
section
variable {P : Program} {w : World}
theorem run_bounds {is : Bool} {len cap l h m : Nat} {lo hi mx : Option Value} (hl : Bd lo 0 l) (hh : Bd hi len h) (hm : Bd mx cap m) (h1 : l ≤ h) (h2 : h ≤ m) (h3 : m ≤ cap) (hs : mx.isSome = true → hi.isSome = true) :
    (Instr.sliceBounds is len cap lo hi mx).run P w = .ok (l, h, m) w := by
  have sb : ∀ {kd : IntKind} {q : Int} {y r : Nat} {cd : BoundsCode}, 0 ≤ q → q.toNat = r → r ≤ y → (Instr.sliceBound (.int kd q) y cd).run P w = .ok r w := fun h0 e hy => by
    subst e; exact bound_ok h0 (by omega)
  unfold Instr.sliceBounds
  rcases hm with ⟨rfl, rfl⟩ | ⟨k1, q1, rfl, a1, b1⟩
  · rcases hh with ⟨rfl, rfl⟩ | ⟨k2, q2, rfl, a2, b2⟩
    · rcases hl with ⟨rfl, rfl⟩ | ⟨k3, q3, rfl, a3, b3⟩
      · simp
      · simp [sb a3 b3 h1]
    · rcases hl with ⟨rfl, rfl⟩ | ⟨k3, q3, rfl, a3, b3⟩
      · simp [sb a2 b2 h2]
      · simp [sb a2 b2 h2, sb a3 b3 h1]
  · rcases hh with ⟨rfl, rfl⟩ | ⟨k2, q2, rfl, a2, b2⟩
    · simp at hs
    · rcases hl with ⟨rfl, rfl⟩ | ⟨k3, q3, rfl, a3, b3⟩
      · simp [sb a1 b1 h3, sb a2 b2 h2]
      · simp [sb a1 b1 h3, sb a2 b2 h2, sb a3 b3 h1]
end
section
variable {P : Program} {ops : Array Oper} {n : Nat} {dr : Bool} {R0 : Fz} {K : Act → World → Prop} {E : Env} {l : List As} {pend : List (Nat × (List As → Prop))} {rest : List (Nat × Bool)} {i d : Nat}
variable {T : TypeId} {ps : String} {af : Array Edge} {g : Option (Nat × Bool)} {x y : Operand} {α : Type} {Kd : Kd α} {v : Value} {xs : List α}
/-- A bound, as the slots tell it. -/
def bdE (E : Env) (d : Nat) : Option Operand → Nat → Prop
  | none, r => r = d
  | some x, r => ∃ k m, opv E x = some (eq (.int k m)) ∧ 0 ≤ m ∧ m.toNat = r
theorem bdE_none {E : Env} {d : Nat} : bdE E d none d := rfl
theorem bdE_some {E : Env} {d : Nat} {x : Operand} {k : IntKind} {m : Int} (h : opv E x = some (eq (.int k m))) (h0 : 0 ≤ m) : bdE E d (some x) m.toNat := ⟨k, m, h, h0, rfl⟩
theorem bd_of {R : Fz} {a : Act} {lo : Option Operand} {d r : Nat} (h : bdE E d lo r) (hx : ∀ x p, lo = some x → opv E x = some p → p.p R (a.eval x)) : Bd (lo.map a.eval) d r := by
  cases lo with
  | none => exact .inl ⟨rfl, h⟩
  | some x =>
    obtain ⟨k, m, h1, h2, h3⟩ := h
    have := hx x _ rfl h1
    simp only [eq_p] at this
    exact .inr ⟨k, m, by simp [this], h2, h3⟩
theorem ops_slice {t : TypeId} {lo hi mx : Option Operand} {z : Operand} (h : lo = some z ∨ hi = some z ∨ mx = some z) : z ∈ (Op.slice t x lo hi mx).operands := by
  cases lo <;> cases hi <;> cases mx <;> simp [Op.operands] at h ⊢ <;> (try (rcases h with h | h | h)) <;> simp_all
theorem op_slice0 {t : TypeId} {lo hi mx : Option Operand} : x ∈ (Op.slice t x lo hi mx).operands := by cases lo <;> cases hi <;> cases mx <;> simp [Op.operands]
theorem Dv.sss {t : TypeId} {s : ByteArray} {lo hi : Option Operand} {p q : Nat} (ho : opAt ops.toList i = some ⟨some d, .slice t x lo hi none, T, ps, af, g⟩) (hg : GOn ops E g) (hx : opv E x = some (eq (.string s))) (hu : P.underlying t = some .string)
    (hl : bdE E 0 lo p) (hh : bdE E s.size hi q) (h1 : p ≤ q) (h2 : q ≤ s.size)
    (k : Dv P ops n dr R0 K ((d, eq (.string (s.extract p q))) :: E) l ((i, tt) :: pend) rest) : Dv P ops n dr R0 K E l pend ((i, false) :: rest) :=
  Dv.okd _ _ ho (OpOk.pure hg fun R a w h => ⟨_, rfl, by
    have e := h x op_slice0 _ hx
    simp only [eq_p] at e
    have b1 := bd_of (a := a) hl (fun z p e hp => h z (ops_slice (.inl e)) p hp)
    have b2 := bd_of (a := a) hh (fun z p e hp => h z (ops_slice (.inr (.inl e))) p hp)
    have := run_bounds (P := P) (w := w) (is := false) b1 b2 (mx := none) (cap := s.size) (m := s.size) (.inl ⟨rfl, rfl⟩) h1 h2 (Nat.le_refl _) (by simp)
    simp [execOp, Instr.sliceAt, Instr.slice, e, underlying, hu, this]⟩) trivial k
theorem slice_cells {R : Fz} {cs : List Value} {off p q : Nat} (hq : q ≤ xs.length) (hpq : p ≤ q) (hh : Cs.h R (xs.flatMap Kd.enc) ((cs.drop off).take (xs.length * Kd.sz))) :
    Cs.h R (((xs.take q).drop p).flatMap Kd.enc) ((cs.drop (off + p * Kd.sz)).take (((xs.take q).drop p).length * Kd.sz)) := by
  have key : ∀ (ys : List α) (j : Nat), j ≤ ys.length → (ys.flatMap Kd.enc).take (j * Kd.sz) = (ys.take j).flatMap Kd.enc ∧ (ys.flatMap Kd.enc).drop (j * Kd.sz) = (ys.drop j).flatMap Kd.enc := by
    intro ys j hj
    have e : ys.flatMap Kd.enc = (ys.take j).flatMap Kd.enc ++ (ys.drop j).flatMap Kd.enc := by rw [← List.flatMap_append, List.take_append_drop]
    have el : ((ys.take j).flatMap Kd.enc).length = j * Kd.sz := by rw [flatMap_len, List.length_take, Nat.min_eq_left hj]
    rw [e]
    exact ⟨by rw [← el, List.take_left], by rw [← el, List.drop_left]⟩
  have h1 := All2.drop (All2.take hh (q * Kd.sz)) (p * Kd.sz)
  have e1 : (((cs.drop off).take (xs.length * Kd.sz)).take (q * Kd.sz)).drop (p * Kd.sz) = (cs.drop (off + p * Kd.sz)).take ((q - p) * Kd.sz) := by
    rw [List.take_take, List.drop_take, List.drop_drop, Nat.min_eq_left (Nat.mul_le_mul_right _ hq), ← Nat.sub_mul]
  rw [(key xs q hq).1, (key (xs.take q) p (by rw [List.length_take]; omega)).2, e1] at h1
  unfold Cs.h
  rw [List.length_drop, List.length_take, Nat.min_eq_left hq]
  exact h1
/-- A piece of a frozen slice. -/
theorem Dv.sls {t e : TypeId} {ed : TypeDesc} {lo hi : Option Operand} {p q : Nat} (ho : opAt ops.toList i = some ⟨some d, .slice t x lo hi none, T, ps, af, g⟩) (hg : GOn ops E g) (hx : opv E x = some (sl Kd xs)) (hu : P.underlying t = some (.slice e)) (hv : P.underlying e = some ed) (hz : P.cellsOf e = Kd.sz)
    (hl : bdE E 0 lo p) (hh : bdE E xs.length hi q) (h1 : p ≤ q) (h2 : q ≤ xs.length)
    (k : Dv P ops n dr R0 K ((d, sl Kd ((xs.take q).drop p)) :: E) l ((i, tt) :: pend) rest) : Dv P ops n dr R0 K E l pend ((i, false) :: rest) :=
  Dv.okd _ _ ho (OpOk.pure hg fun R a w h => by
    have hx2 := h x op_slice0 _ hx
    have b1 := bd_of (a := a) hl (fun z p e hp => h z (ops_slice (.inl e)) p hp)
    have b2 := bd_of (a := a) hh (fun z p e hp => h z (ops_slice (.inr (.inl e))) p hp)
    rcases hx2 with ⟨a0, c, e0, e2⟩ | ⟨b, off, c, bT, fr, cs, e0, hlc, hm, hcs, hc⟩
    · subst e2
      simp only [List.length_nil, Nat.le_zero] at h2
      subst h2
      have hp0 : p = 0 := by omega
      subst hp0
      have := run_bounds (P := P) (w := w) (is := true) b1 b2 (mx := none) (cap := c) (m := c) (.inl ⟨rfl, rfl⟩) (Nat.le_refl _) (Nat.zero_le _) (Nat.le_refl _) (by simp)
      exact ⟨.slice (if c = 0 then a0 else a0.map (·.add 0)) 0 c, .inl ⟨_, _, rfl, by simp⟩, by simp only [execOp, Instr.sliceAt, Instr.slice, e0, underlying, hu, Sem.run_bind, run_program, Sem.run_pure, Result.andThen_ok, Option.map_none, List.length_nil] at this ⊢; simp [this, run_sizeOf hv hz]⟩
    · have := run_bounds (P := P) (w := w) (is := true) b1 b2 (mx := none) (cap := c) (m := c) (.inl ⟨rfl, rfl⟩) h1 (by omega) (Nat.le_refl _) (by simp)
      have hr : (execOp a.eval ⟨some d, .slice t x lo hi none, T, ps, af, g⟩).run P w = .ok (.value (.slice (if c = p then some ⟨b, off, none⟩ else some ⟨b, off + p * Kd.sz, none⟩) (q - p) (c - p))) w := by
        simp only [execOp, Instr.sliceAt, Instr.slice, e0, underlying, hu, Sem.run_bind, run_program, Sem.run_pure, Result.andThen_ok, Option.map_none, this, run_sizeOf hv hz]
        simp [add_eq]
      refine ⟨_, ?_, hr⟩
      by_cases hcp : c = p
      · have : q = p := by omega
        subst this
        rw [if_pos hcp]
        exact .inl ⟨_, _, by rw [Nat.sub_self], by rw [List.drop_of_length_le (by rw [List.length_take]; omega)]⟩
      · rw [if_neg hcp]
        refine .inr ⟨b, off + p * Kd.sz, c - p, bT, fr, cs, ?_, ?_, hm, ?_, slice_cells h2 h1 hc⟩
        · rw [List.length_drop, List.length_take, Nat.min_eq_left h2]
        · rw [List.length_drop, List.length_take, Nat.min_eq_left h2]; omega
        · rw [Nat.sub_mul]
          have := Nat.mul_le_mul_right Kd.sz (show p ≤ c by omega)
          omega) trivial k
/-- A piece of an owned row: what lies ahead of it and behind it is let go. -/
theorem Dv.slo {t e : TypeId} {ed : TypeDesc} {lo hi mx : Option Operand} {p q jj : Nat} (ho : opAt ops.toList i = some ⟨some d, .slice t x lo hi mx, T, ps, af, g⟩) (hg : GOn ops E g) (hx : opv E x = some (eq v)) (hjj : l[jj]? = some (own Kd v xs)) (hu : P.underlying t = some (.slice e)) (hv : P.underlying e = some ed) (hz : P.cellsOf e = Kd.sz)
    (hl : bdE E 0 lo p) (hh : bdE E xs.length hi q) (hm : mx = none ∨ (bdE E 0 mx q ∧ mx.isSome = true ∧ hi.isSome = true)) (h1 : p ≤ q) (h2 : q ≤ xs.length)
    (hp : dr = true → ∀ z ∈ pend, ((Region.before ops).getD i 0).testBit z.1 = true ∨ ∀ v' : OV, z.2 (l.set jj (own Kd v'.1 ((xs.take q).drop p))))
    (k : ∀ v' : OV, Dv P ops n dr R0 K ((d, eq v'.1) :: E) (l.set jj (own Kd v'.1 ((xs.take q).drop p))) pend rest) : Dv P ops n dr R0 K E l pend ((i, true) :: rest) :=
  .bar _ (γ := OV) (fun _ => True) (fun v' => eq v'.1) (fun v' => l.set jj (own Kd v'.1 ((xs.take q).drop p))) (at_of ho) (OpBar.val hg fun R a w h hst => by
    have e1 := h x op_slice0 _ hx
    simp only [eq_p] at e1
    have b1 := bd_of (a := a) hl (fun z p e hp => h z (ops_slice (.inl e)) p hp)
    have b2 := bd_of (a := a) hh (fun z p e hp => h z (ops_slice (.inr (.inl e))) p hp)
    obtain ⟨mm, hmm, hk⟩ := hst.opn hjj
    have b3 : ∀ c : Nat, xs.length ≤ c → ∃ m, Bd (mx.map a.eval) c m ∧ q ≤ m ∧ m ≤ c ∧ ((mx.map a.eval).isSome = true → (hi.map a.eval).isSome = true) := by
      intro c hc
      rcases hm with rfl | ⟨h3, h4, h5⟩
      · exact ⟨c, .inl ⟨rfl, rfl⟩, by omega, Nat.le_refl _, by simp⟩
      · have := bd_of (a := a) h3 (fun z p e hp => h z (ops_slice (.inr (.inr e))) p hp)
        refine ⟨q, ?_, Nat.le_refl _, by omega, by simp [h5]⟩
        rcases this with ⟨e, _⟩ | h
        · cases mx <;> simp_all
        · exact .inr h
    rcases hmm with ⟨a0, e0, e2, e3⟩ | ⟨b, off, c, bT, fr, cs, e0, hlc, hm2, hcs, hfr, hc⟩
    · subst e2
      simp only [List.length_nil, Nat.le_zero] at h2
      subst h2
      have hp0 : p = 0 := by omega
      subst hp0
      obtain ⟨m, c1, c2, c3, c4⟩ := b3 0 (Nat.le_refl _)
      have hm0 : m = 0 := by omega
      subst hm0
      have := run_bounds (P := P) (w := w) (is := true) b1 b2 c1 (Nat.le_refl _) (Nat.zero_le _) (Nat.le_refl _) c4
      refine ⟨⟨.slice a0 0 0, rfl⟩, R, _, w, trivial, Fz.le_refl R, rfl, St.shut hjj (.inl ⟨a0, rfl, by simp, e3⟩) hk, ?_⟩
      simp only [execOp, Instr.sliceAt, Instr.slice, e1, e0, underlying, hu, Sem.run_bind, run_program, Sem.run_pure, Result.andThen_ok, List.length_nil] at this ⊢
      simp [this, run_sizeOf hv hz]
    · obtain ⟨m, c1, c2, c3, c4⟩ := b3 c hlc
      have := run_bounds (P := P) (w := w) (is := true) b1 b2 c1 h1 c2 c3 c4
      have hr : (execOp a.eval ⟨some d, .slice t x lo hi mx, T, ps, af, g⟩).run P w = .ok (.value (.slice (if m = p then some ⟨b, off, none⟩ else some ⟨b, off + p * Kd.sz, none⟩) (q - p) (m - p))) w := by
        simp only [execOp, Instr.sliceAt, Instr.slice, e1, e0, underlying, hu, Sem.run_bind, run_program, Sem.run_pure, Result.andThen_ok, this, run_sizeOf hv hz]
        simp [add_eq]
      have hle : ((xs.take q).drop p).length = q - p := by rw [List.length_drop, List.length_take, Nat.min_eq_left h2]
      refine ⟨⟨_, rfl⟩, R, _, w, trivial, Fz.le_refl R, rfl, St.shut hjj ?_ hk, hr⟩
      by_cases hcp : m = p
      · have : q = p := by omega
        subst this
        refine .inr ⟨b, off, 0, bT, fr, cs, by simp [if_pos hcp, hcp], by rw [hle]; omega, hm2, by omega, hfr, ?_⟩
        rw [hle, Nat.sub_self, Nat.zero_mul, List.take_zero, List.drop_of_length_le (by rw [List.length_take]; omega)]
        exact .nil
      · refine .inr ⟨b, off + p * Kd.sz, m - p, bT, fr, cs, by simp [if_neg hcp, hle], by rw [hle]; omega, hm2, ?_, hfr, slice_cells h2 h1 hc⟩
        rw [Nat.sub_mul]
        have h6 := Nat.mul_le_mul_right Kd.sz (show p ≤ m by omega)
        have h7 := Nat.mul_le_mul_right Kd.sz c3
        omega) (fun e z hz => (hp e z hz).imp id fun h b _ => h b) (fun b _ => k b)
theorem Dv.mini {t1 t2 : TypeId} {kd : IntKind} {m m' : Int} (ho : opAt ops.toList i = some ⟨some d, .call ⟨.builtin .min, #[x, y], #[t1, t2]⟩, T, ps, af, g⟩) (hg : GOn ops E g) (hx : opv E x = some (eq (.int kd m))) (hy : opv E y = some (eq (.int kd m')))
    (k : Dv P ops n dr R0 K ((d, eq (.int kd (min m m'))) :: E) l ((i, tt) :: pend) rest) : Dv P ops n dr R0 K E l pend ((i, false) :: rest) :=
  Dv.okd _ _ ho (OpOk.pure hg fun R a w h => ⟨_, rfl, by
    have e := h x (by simp [Op.operands, Call.operands]) _ hx
    have e2 := h y (by simp [Op.operands, Call.operands]) _ hy
    simp only [eq_p] at e e2
    have e3 : (if m' < m then m' else m) = min m m' := by omega
    simp [execOp, resolve, invoke, builtin, Builtin.min_, Builtin.min2, e, e2, e3]⟩) trivial k
theorem Dv.maxi {t1 t2 : TypeId} {kd : IntKind} {m m' : Int} (ho : opAt ops.toList i = some ⟨some d, .call ⟨.builtin .max, #[x, y], #[t1, t2]⟩, T, ps, af, g⟩) (hg : GOn ops E g) (hx : opv E x = some (eq (.int kd m))) (hy : opv E y = some (eq (.int kd m')))
    (k : Dv P ops n dr R0 K ((d, eq (.int kd (max m m'))) :: E) l ((i, tt) :: pend) rest) : Dv P ops n dr R0 K E l pend ((i, false) :: rest) :=
  Dv.okd _ _ ho (OpOk.pure hg fun R a w h => ⟨_, rfl, by
    have e := h x (by simp [Op.operands, Call.operands]) _ hx
    have e2 := h y (by simp [Op.operands, Call.operands]) _ hy
    simp only [eq_p] at e e2
    have e3 : (if m < m' then m' else m) = max m m' := by omega
    simp [execOp, resolve, invoke, builtin, Builtin.max_, Builtin.max2, e, e2, e3]⟩) trivial k
end
end Go.Sp
