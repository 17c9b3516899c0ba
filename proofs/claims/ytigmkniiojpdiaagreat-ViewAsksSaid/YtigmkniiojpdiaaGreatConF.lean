/- Calls, and the code around the regions. -/
import Derived.Test.YtigmkniiojpdiaaGreatConE
set_option linter.all false
namespace Go.Sp
open Go

/-- What a call does: of arguments as vs tells, with pre owned, beside all else; behind it ret and post, for some g. -/
def Tr (P : Program) (f : FuncId) (vs : List VP) (pre : List As) {γ : Type} (ok : γ → Prop) (ret : γ → VP) (post : γ → List As) : Prop :=
  ∀ (R : Fz) (F : List As) (w : World) (us : List Value), Cs.h R vs us → St R (pre ++ F) w → Calls P f us.toArray w fun e w' => ∃ g R' v, ok g ∧ R.le R' ∧ e = .returned v ∧ (ret g).p R' v ∧ St R' (post g ++ F) w'
/-- One that owns nothing. -/
def Pt (P : Program) (f : FuncId) (vs : List VP) (ret : VP) : Prop :=
  ∀ (R : Fz) (F : List As) (w : World) (us : List Value), Cs.h R vs us → St R F w → Calls P f us.toArray w fun e w' => ∃ R' v, R.le R' ∧ e = .returned v ∧ ret.p R' v ∧ St R' F w'
theorem Pt.tr {P : Program} {f : FuncId} {vs : List VP} {ret : VP} (h : Pt P f vs ret) : Tr P f vs [] (γ := Unit) (fun _ => True) (fun _ => ret) (fun _ => []) := fun R F w us hu hs =>
  (h R F w us hu hs).mono fun _ _ ⟨R', v, h1, h2, h3, h4⟩ => ⟨(), R', v, trivial, h1, h2, h3, h4⟩
theorem Tr.pt {P : Program} {f : FuncId} {vs : List VP} {ret : VP} (h : Tr P f vs [] (γ := Unit) (fun _ => True) (fun _ => ret) (fun _ => [])) : Pt P f vs ret := fun R F w us hu hs =>
  (h R F w us hu hs).mono fun _ _ ⟨_, R', v, _, h1, h2, h3, h4⟩ => ⟨R', v, h1, h2, h3, h4⟩

/-- A function with a body of its own. -/
def callable (P : Program) (f : FuncId) : Bool := match P.funcs[f]? with
  | some fn => fn.name != "runtime.NumGoroutine" && fn.body.isSome
  | none => false
theorem run_callFunc {P : Program} {f : FuncId} (h : callable P f = true) (args : Array Value) (w : World) : (callFunc f args).run P w = .ok (.enter f args) w := by
  unfold callable at h
  cases e : P.funcs[f]? with
  | none => rw [e] at h; cases h
  | some fn =>
    rw [e] at h
    simp only [Bool.and_eq_true, bne_iff_ne, ne_eq] at h
    unfold callFunc
    simp only [Sem.run_bind, run_program, Result.andThen_ok, e]
    have h2 : fn.body.isNone = false := by cases hb : fn.body <;> simp_all
    simp [h.1, h2]

section
variable {P : Program} {ops : Array Oper} {n : Nat} {dr : Bool} {R0 : Fz} {K : Act → World → Prop} {E : Env} {l : List As} {pend : List (Nat × (List As → Prop))} {rest : List (Nat × Bool)} {i d : Nat}
variable {T : TypeId} {ps : String} {af : Array Edge} {g : Option (Nat × Bool)} {x y : Operand}

/-- The operands' values. -/
def opvs (E : Env) : List Operand → Option (List VP)
  | [] => some []
  | x :: xs => match opv E x, opvs E xs with
    | some p, some ps => some (p :: ps)
    | _, _ => none
theorem opvs_ok {R : Fz} {a : Act} : ∀ {xs : List Operand} {vs : List VP}, (∀ x ∈ xs, ∀ p, opv E x = some p → p.p R (a.eval x)) → opvs E xs = some vs → Cs.h R vs (xs.map a.eval)
  | [], vs, _, h => by simp [opvs] at h; subst h; exact .nil
  | x :: xs, vs, hx, h => by
    simp only [opvs] at h
    cases e1 : opv E x with
    | none => rw [e1] at h; cases h
    | some p =>
      cases e2 : opvs E xs with
      | none => rw [e1, e2] at h; cases h
      | some qs =>
        rw [e1, e2] at h
        cases h
        exact .cons (hx x (List.mem_cons_self ..) p e1) (opvs_ok (fun y hy => hx y (List.mem_cons_of_mem _ hy)) e2)

theorem runs_call {o : Oper} {c : Call} {f : FuncId} {cap fst : Array Value} {R : Fz} {a : Act} {w : World} {Q : Exit → Act → World → Prop} {K : Act → World → Prop} (hop : o.op = .call c) (hw : Region.wanted o (yielded ops a.tmps) = true)
    (hc : callable P f = true) {x : Operand} (hcx : c.callee = .value x) (hx : a.eval x = .func (.func f) fst cap)
    (h : Calls P f ((fst.toList ++ c.args.toList.map a.eval ++ cap.toList).toArray) w fun e w' => ∃ v, e = .returned v ∧ K (a.put o.dst v) w') : runs P ops o a w K Q := by
  unfold runs
  rw [if_pos hw]
  unfold Oper.wp
  have hr : (execOp a.eval o).run P w = .ok (.enter f ((fst.toList ++ c.args.toList.map a.eval ++ cap.toList).toArray)) w := by
    have e : (fst ++ c.args.map a.eval) ++ cap = (fst.toList ++ c.args.toList.map a.eval ++ cap.toList).toArray := by apply Array.ext'; simp
    simp only [execOp, hop, resolve, hcx, hx, Deferred.ofValue, invoke, Sem.run_bind, Sem.run_pure, Result.andThen_ok, run_callFunc hc, e]
  rw [hr, Oper.upon_enter]
  exact h.mono fun e w' ⟨v, he, hk⟩ => by subst he; exact hk

theorem wan {R : Fz} {a : Act} {o : Oper} (h : Sees R a E (o.looksAt ops)) (hg : GOn ops E o.guard) : Region.wanted o (yielded ops a.tmps) = true := wanted_on h hg

/-- A call that owns nothing. -/
theorem Dv.call {f : FuncId} {as : Array Operand} {ts : Array TypeId} {vs : List VP} {ret : VP} (ho : opAt ops.toList i = some ⟨some d, .call ⟨.value (.func f), as, ts⟩, T, ps, af, g⟩) (hg : GOn ops E g)
    (hc : callable P f = true) (hv : opvs E as.toList = some vs) (ht : Pt P f vs ret) (k : Dv P ops n dr R0 K ((d, ret) :: E) l ((i, tt) :: pend) rest) : Dv P ops n dr R0 K E l pend ((i, false) :: rest) :=
  Dv.okd tt ret ho (fun R a w l _ _ hs _ hst K Q hk => by
    refine runs_call (R := R) (f := f) (cap := #[]) (fst := #[]) rfl (wanted_on hs hg) hc rfl rfl ?_
    have := opvs_ok (fun x hx p hp => hs.op (by simp [Op.operands, Call.operands]; exact .inr (by simpa using hx)) hp) hv
    refine (ht R l w _ (by simpa using this) hst).mono ?_
    rintro e w' ⟨R', v, hR, he, hv, hst'⟩
    exact ⟨v, he, hk R' v w' hR hv hst'⟩) trivial k
/-- A call of a function value: its captured values stand behind. -/
theorem Dv.callv {f : FuncId} {as : Array Operand} {ts : Array TypeId} {vs cs : List VP} {ret : VP} (fv : VP) (hfv : ∀ R v, fv.p R v → ∃ us : List Value, v = .func (.func f) #[] us.toArray ∧ Cs.h R cs us) (ho : opAt ops.toList i = some ⟨some d, .call ⟨.value x, as, ts⟩, T, ps, af, g⟩) (hg : GOn ops E g)
    (hx : opv E x = some fv) (hc : callable P f = true) (hv : opvs E as.toList = some vs) (ht : Pt P f (vs ++ cs) ret) (k : Dv P ops n dr R0 K ((d, ret) :: E) l ((i, tt) :: pend) rest) : Dv P ops n dr R0 K E l pend ((i, false) :: rest) :=
  Dv.okd tt ret ho (fun R a w l _ _ hs _ hst K Q hk => by
    obtain ⟨us, hf, hu⟩ := hfv R _ (hs.op (x := x) (by simp [Op.operands, Call.operands]) hx)
    refine runs_call (R := R) (f := f) (cap := us.toArray) (fst := #[]) rfl (wanted_on hs hg) hc rfl hf ?_
    have := opvs_ok (fun x hx p hp => hs.op (by simp [Op.operands, Call.operands]; exact .inr (by simpa using hx)) hp) hv
    refine (ht R l w _ (by have h2 := this.append hu; unfold Cs.h; simpa using h2) hst).mono ?_
    rintro e w' ⟨R', v, hR, he, hv, hst'⟩
    exact ⟨v, he, hk R' v w' hR hv hst'⟩) trivial k
/-- A call that owns 'pre', which stands first. -/
theorem Dv.callB {f : FuncId} {as : Array Operand} {ts : Array TypeId} {vs : List VP} {pre F : List As} {γ : Type} {ok : γ → Prop} {ret : γ → VP} {post : γ → List As} {dst : Option Nat} (ho : opAt ops.toList i = some ⟨dst, .call ⟨.value (.func f), as, ts⟩, T, ps, af, g⟩) (hg : GOn ops E g)
    (hc : callable P f = true) (hv : opvs E as.toList = some vs) (ht : Tr P f vs pre ok ret post) (hl : l.Perm (pre ++ F))
    (hp : dr = true → ∀ z ∈ pend, ((Region.before ops).getD i 0).testBit z.1 = true ∨ ∀ b, ok b → z.2 (post b ++ F))
    (k : ∀ b, ok b → Dv P ops n dr R0 K (Sp.ext E dst (ret b)) (post b ++ F) pend rest) : Dv P ops n dr R0 K E l pend ((i, true) :: rest) :=
  .bar _ ok ret (fun b => post b ++ F) (at_of ho) (fun R a w _ _ hs hst K Q hk => by
    refine runs_call (R := R) (f := f) (cap := #[]) (fst := #[]) rfl (wanted_on hs hg) hc rfl rfl ?_
    have := opvs_ok (fun x hx p hp => hs.op (by simp [Op.operands, Call.operands]; exact .inr (by simpa using hx)) hp) hv
    refine (ht R F w _ (by simpa using this) (St.permL hl hst)).mono ?_
    rintro e w' ⟨b, R', v, hb, hR, he, hv, hst'⟩
    exact ⟨v, he, hk b R' v w' hb hR hv hst'⟩) hp k
end

/-! #### the code around -/
def WP (P : Program) (n : Nat) (R0 : Fz) (c : Code) (Q : Exit → Act → World → Prop) (E : Env) (l : List As) : Prop := ∀ (R : Fz) (a : Act) (w : World), R0.le R → Agr n R a E → St R l w → c.wp P Q a w
section
variable {P : Program} {n : Nat} {R0 : Fz} {Q : Exit → Act → World → Prop} {E : Env} {l : List As}
theorem WP.reg {id : Nat} {ops : Array Oper} (c : List (Nat × Bool)) (hc : chkSeq ops n c = true) (h : Dv P ops n false R0 (Q .normal) E l [] c) : WP P n R0 (.region id ops false) Q E l :=
  fun _ _ _ h0 ha hs => region_seq c hc h h0 ha hs
theorem WP.dreg {id : Nat} {ops : Array Oper} (hm : P.follows .mixedOrders = true) (c : List (Nat × Bool)) (hc : chk ops n c = true) (h : Dv P ops n true R0 (Q .normal) E l [] c) : WP P n R0 (.region id ops true) Q E l :=
  fun _ _ _ h0 ha hs => region_any c hm hc h h0 ha hs
theorem WP.seq {x y : Code} (h : WP P n R0 x (Exit.then (y.wp P Q) Q) E l) : WP P n R0 (.seq x y) Q E l := fun R a w h0 ha hs => wp_seq (h R a w h0 ha hs)
theorem WP.skip (h : ∀ R a w, R0.le R → Agr n R a E → St R l w → Q .normal a w) : WP P n R0 .skip Q E l := fun R a w h0 ha hs => wp_skip (h R a w h0 ha hs)
theorem WP.exit {id : Nat} (h : ∀ R a w, R0.le R → Agr n R a E → St R l w → Q (.exit id) a w) : WP P n R0 (.exit id) Q E l := fun R a w h0 ha hs => wp_exit (h R a w h0 ha hs)
theorem WP.block {id : Nat} {c : Code} (h : WP P n R0 c (Exit.inBlock id Q) E l) : WP P n R0 (.block id c) Q E l := fun R a w h0 ha hs => wp_block (h R a w h0 ha hs)
theorem Agr.opv {R : Fz} {a : Act} (ha : Agr n R a E) {x : Operand} {p : VP} (h : opv E x = some p) : p.p R (a.eval x) := by
  cases x with
  | tmp t => exact ha.2.2 t p h
  | const v => simp only [Sp.opv, Option.some.injEq] at h; subst h; rfl
  | global g => simp only [Sp.opv, Option.some.injEq] at h; subst h; rfl
  | func f => simp only [Sp.opv, Option.some.injEq] at h; subst h; rfl
theorem WP.cond {x : Operand} {c1 c2 : Code} {b : Bool} (hx : opv E x = some (eq (.bool b))) (h1 : b = true → WP P n R0 c1 Q E l) (h2 : b = false → WP P n R0 c2 Q E l) : WP P n R0 (.cond x c1 c2) Q E l :=
  fun R a w h0 ha hs => wp_cond_split (ha.opv hx) (fun e => h1 e R a w h0 ha hs) (fun e => h2 e R a w h0 ha hs)
/-- The environment is weakened. -/
theorem Agr.weak {R : Fz} {a : Act} {E' : Env} (ha : Agr n R a E) (h : ∀ t p, find E' t = some p → find E t = some p) : Agr n R a E' := ⟨ha.1, ha.2.1, fun t p k => ha.2.2 t p (h t p k)⟩
theorem weak_nil : ∀ t p, find [] t = some p → find E t = some p := fun _ _ h => by cases h
theorem weak_cons {E' : Env} {t : Nat} {p : VP} (h : find E t = some p) (k : ∀ t p, find E' t = some p → find E t = some p) : ∀ s q, find ((t, p) :: E') s = some q → find E s = some q := fun s q hq => by
  simp only [find] at hq
  split at hq
  · rename_i e; have := Nat.eq_of_beq_eq_true e; subst this; rw [h]; exact hq
  · exact k s q hq
theorem WP.weak {c : Code} {E' : Env} (hE : ∀ t p, find E' t = some p → find E t = some p) (h : WP P n R0 c Q E' l) : WP P n R0 c Q E l := fun R a w h0 ha hs => h R a w h0 (ha.weak hE) hs
theorem WP.perm {c : Code} {l' : List As} (hl : l.Perm l') (h : WP P n R0 c Q E l') : WP P n R0 c Q E l := fun R a w h0 ha hs => h R a w h0 ha (hs.permL hl)
theorem WP.drop {c : Code} {A : As} (h : WP P n R0 c Q E l) : WP P n R0 c Q E (A :: l) := fun R a w h0 ha hs => h R a w h0 ha hs.drop

/-- A loop, by how many rounds there may be. -/
theorem loop_fuel {c : Code} (J : Nat → Act → World → Prop) (round : ∀ k a w, J k a w → c.wp P (Exit.then (fun a' w' => ∃ k', k' < k ∧ J k' a' w') Q) a w) {k : Nat} {a : Act} {w : World} (h : J k a w) : (Code.loop c).wp P Q a w := by
  intro b ks cs
  have key : ∀ n a w, J n a w → ∃ e a' w', Q e a' w' ∧ Arrives P (lone (b.at a (.code c :: .inLoop c :: ks)) cs w) b ks cs e a' w' := by
    intro n
    induction n using Nat.strongRecOn with
    | _ n ih =>
      intro a w hI
      obtain ⟨e, a₁, w₁, hq, harr⟩ := round n a w hI b (.inLoop c :: ks) cs
      cases e with
      | normal =>
        obtain ⟨m, hlt, hI₁⟩ := hq
        obtain ⟨e₂, a₂, w₂, hq₂, harr₂⟩ := ih m hlt a₁ w₁ hI₁
        exact ⟨e₂, a₂, w₂, hq₂, .of_steps (Steps.trans harr (.one step_inLoop)) harr₂⟩
      | exit id => exact ⟨_, a₁, w₁, hq, .pass (x := .inLoop c) rfl (fun _ _ => .inl (by simp)) harr⟩
      | goto l => exact ⟨_, a₁, w₁, hq, .pass (x := .inLoop c) rfl (fun _ _ => .inl (by simp)) harr⟩
      | ret => exact ⟨_, a₁, w₁, hq, .pass (x := .inLoop c) rfl (fun _ _ => .inl (by simp)) harr⟩
      | panic ch => exact ⟨_, a₁, w₁, hq, .pass (x := .inLoop c) rfl (fun _ _ => .inl (by simp)) harr⟩
      | outgrown => exact ⟨_, a₁, w₁, hq, .pass (x := .inLoop c) rfl (fun _ _ => .inl (by simp)) harr⟩
  obtain ⟨e, a', w', hq, harr⟩ := key _ a w h
  exact ⟨e, a', w', hq, .of_steps (.one step_loop) harr⟩
/-- Back at the head. -/
def Back (n : Nat) (R0 : Fz) {β : Type} (C : Nat → β → Prop) (Eb : β → Env) (lb : β → List As) (k : Nat) (a : Act) (w : World) : Prop := ∃ k', k' < k ∧ ∃ b R, C k' b ∧ R0.le R ∧ Agr n R a (Eb b) ∧ St R (lb b) w
theorem WP.loop {β : Type} (C : Nat → β → Prop) (Eb : β → Env) (lb : β → List As) {c : Code} (round : ∀ k b, C k b → WP P n R0 c (Exit.then (Back n R0 C Eb lb k) Q) (Eb b) (lb b))
    {k : Nat} {b : β} (h : C k b) : WP P n R0 (.loop c) Q (Eb b) (lb b) := fun R a w h0 ha hs =>
  loop_fuel (fun k a w => ∃ b R, C k b ∧ R0.le R ∧ Agr n R a (Eb b) ∧ St R (lb b) w) (fun k a w ⟨b, R, hC, h0, ha, hs⟩ => round k b hC R a w h0 ha hs) ⟨b, R, h, h0, ha, hs⟩
theorem Back.mk {β : Type} {C : Nat → β → Prop} {Eb : β → Env} {lb : β → List As} {k : Nat} (k' : Nat) (b : β) (hk : k' < k) (hC : C k' b) (hE : ∀ t p, find (Eb b) t = some p → find E t = some p) (hl : l.Perm (lb b)) :
    ∀ R a w, R0.le R → Agr n R a E → St R l w → Back n R0 C Eb lb k a w := fun R _ _ h0 ha hs => ⟨k', hk, b, R, hC, h0, ha.weak hE, hs.permL hl⟩

/-! #### the ends -/
/-- What a function hands back. -/
def Endp (R0 : Fz) {γ : Type} (ok : γ → Prop) (ret : γ → VP) (post : γ → List As) (F : List As) (e : Ending) (w' : World) : Prop := ∃ g R' v, ok g ∧ R0.le R' ∧ e = .returned v ∧ (ret g).p R' v ∧ St R' (post g ++ F) w'
variable {fn : Func} {γ : Type} {ok : γ → Prop} {ret : γ → VP} {post : γ → List As} {F : List As}
/-- What a slot holds at the end. -/
def Hold (n : Nat) (E : Env) (l : List As) (t : Nat) (p : VP) : Prop := ∀ R a w, Agr n R a E → St R l w → p.p R (Act.get a t)
theorem hold {t : Nat} {p : VP} (h : find E t = some p) : Hold n E l t p := fun _ _ _ ha _ => ha.2.2 t p h
theorem ret_at {Q : Exit → Act → World → Prop} (hQ : ∀ a w, bodyPost P fn (Endp R0 ok ret post F) .ret a w → Q .ret a w) {v : Act → Value} (hr : ∀ (a : Act) (w : World), (results fn a.tmps).run P w = .ok (v a) w) (b : γ) (hb : ok b)
    (hv : ∀ R a w, Agr n R a E → St R l w → (ret b).p R (v a)) (hl : ∀ R w, St R l w → St R (post b ++ F) w) : WP P n R0 .ret Q E l := fun R a w h0 ha hs =>
  wp_ret (hQ a w ⟨ha.2.1, v a, hr a w, b, R, v a, hb, h0, rfl, hv R a w ha hs, hl R w hs⟩)
theorem WP.ret1 {Q : Exit → Act → World → Prop} {t : Nat} {p : VP} (hQ : ∀ a w, bodyPost P fn (Endp R0 ok ret post F) .ret a w → Q .ret a w) (hf : fn.results = #[.tmp t]) (b : γ) (hb : ok b) (ht : Hold n E l t p) (hp : ret b = p) (hl : ∀ R w, St R l w → St R (post b ++ F) w) : WP P n R0 .ret Q E l :=
  ret_at hQ (v := fun a => a.tmps.getD t undef) (fun a w => results_tmp hf _ _ _) b hb (fun R a w ha hs => by rw [hp]; exact ht R a w ha hs) hl
theorem WP.ret2 {Q : Exit → Act → World → Prop} {t u : Nat} {p q : VP} (hQ : ∀ a w, bodyPost P fn (Endp R0 ok ret post F) .ret a w → Q .ret a w) (hf : fn.results = #[.tmp t, .tmp u]) (b : γ) (hb : ok b) (ht : Hold n E l t p) (hu : Hold n E l u q) (hp : ret b = tup [p, q]) (hl : ∀ R w, St R l w → St R (post b ++ F) w) : WP P n R0 .ret Q E l :=
  ret_at hQ (v := fun a => .tuple #[a.tmps.getD t undef, a.tmps.getD u undef]) (fun a w => results_tmp2 hf _ _ _) b hb (fun R a w ha hs => by
    rw [hp]; exact ⟨_, rfl, .cons (ht R a w ha hs) (.cons (hu R a w ha hs) .nil)⟩) hl
theorem results_tmp3 {t u v : Nat} (h : fn.results = #[.tmp t, .tmp u, .tmp v]) (tmps : Array Value) (w : World) : (results fn tmps).run P w = .ok (.tuple #[tmps.getD t undef, tmps.getD u undef, tmps.getD v undef]) w := by simp [results, h]
theorem WP.ret3 {Q : Exit → Act → World → Prop} {t u v : Nat} {p q r : VP} (hQ : ∀ a w, bodyPost P fn (Endp R0 ok ret post F) .ret a w → Q .ret a w) (hf : fn.results = #[.tmp t, .tmp u, .tmp v]) (b : γ) (hb : ok b) (ht : Hold n E l t p) (hu : Hold n E l u q) (hv : Hold n E l v r) (hp : ret b = tup [p, q, r]) (hl : ∀ R w, St R l w → St R (post b ++ F) w) : WP P n R0 .ret Q E l :=
  ret_at hQ (v := fun a => .tuple #[a.tmps.getD t undef, a.tmps.getD u undef, a.tmps.getD v undef]) (fun a w => results_tmp3 hf _ _) b hb (fun R a w ha hs => by
    rw [hp]; exact ⟨_, rfl, .cons (ht R a w ha hs) (.cons (hu R a w ha hs) (.cons (hv R a w ha hs) .nil))⟩) hl
/-- A function's end without a return: it has no results. -/
theorem end0 (hf : fn.results = #[]) (b : γ) (hb : ok b) (hp : ret b = tup []) (hl : ∀ R w, St R l w → St R (post b ++ F) w) : ∀ R a w, R0.le R → Agr n R a E → St R l w → bodyPost P fn (Endp R0 ok ret post F) .normal a w := fun R a w h0 ha hs =>
  ⟨ha.2.1, .tuple #[], results_none hf _ _ _, b, R, .tuple #[], hb, h0, rfl, by rw [hp]; exact ⟨[], rfl, .nil⟩, hl R w hs⟩
theorem WP.ret0 {Q : Exit → Act → World → Prop} (hQ : ∀ a w, bodyPost P fn (Endp R0 ok ret post F) .ret a w → Q .ret a w) (hf : fn.results = #[]) (b : γ) (hb : ok b) (hp : ret b = tup []) (hl : ∀ R w, St R l w → St R (post b ++ F) w) : WP P n R0 .ret Q E l :=
  ret_at hQ (v := fun _ => .tuple #[]) (fun a w => results_none hf _ _ _) b hb (fun R a w ha hs => by rw [hp]; exact ⟨[], rfl, .nil⟩) hl

/-- The arguments' slots. -/
def enum : Nat → List VP → Env
  | _, [] => []
  | i, p :: ps => (i, p) :: enum (i + 1) ps
theorem enum_find : ∀ {ps : List VP} {us : List Value} {i t : Nat} {p : VP} {R : Fz} (_ : Cs.h R ps us), find (enum i ps) t = some p → ∃ u, i ≤ t ∧ us[t - i]? = some u ∧ p.p R u
  | [], _, _, _, _, _, _, h => by cases h
  | q :: ps, us, i, t, p, R, hc, h => by
    cases hc with
    | cons h1 h2 =>
      rename_i u us
      simp only [enum, find] at h
      split at h
      · rename_i e
        have := Nat.eq_of_beq_eq_true e
        subst this
        cases h
        exact ⟨u, Nat.le_refl _, by simp, h1⟩
      · obtain ⟨v, h3, h4, h5⟩ := enum_find h2 h
        refine ⟨v, by omega, ?_, h5⟩
        rw [show t - i = (t - (i + 1)) + 1 by omega]
        simpa using h4
/-- Into a function's body. -/
theorem Tr.body {f : FuncId} {c : Code} {vs : List VP} {pre : List As} (hf : P.funcs[f]? = some fn) (hb : fn.body = some c) (hn : fn.ntmps = n) (hlen : vs.length ≤ n)
    (h : ∀ (R0 : Fz) (F : List As), WP P n R0 c (bodyPost P fn (Endp R0 ok ret post F)) (enum 0 vs) (pre ++ F)) : Tr P f vs pre ok ret post := fun R F w us hu hs => by
  refine calls_of_wp (c := c) hf hb ?_
  refine h R F R _ w (Fz.le_refl R) ⟨?_, rfl, fun t p hp => ?_⟩ hs
  · have := All2.length hu
    simp [hn]; omega
  · obtain ⟨u, _, h2, h3⟩ := enum_find hu hp
    have hlt : t < us.length := by
      rcases Nat.lt_or_ge t us.length with k | k
      · exact k
      · simp [List.getElem?_eq_none k] at h2
    have e : us[t] = u := by simpa [List.getElem?_eq_getElem hlt] using h2
    simp only [Act.get, Array.getD_eq_getD_getElem?]
    rw [Array.getElem?_append_left (by simpa using hlt)]
    simpa [List.getElem?_eq_getElem hlt, e] using h3
end
end Go.Sp
