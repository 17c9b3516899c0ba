/- slices.Insert: its steps. -/
import Derived.Test.YtigmkniiojpdiaaGreatConT
set_option linter.all false
namespace Go.Sp
open Go
theorem spl_len {ps qs : Cs} {k : Nat} (h : k + qs.length ≤ ps.length) : (spl ps k qs).length = ps.length := by
  unfold spl; simp; omega
section
variable {P : Program} {ops : Array Oper} {n : Nat} {dr : Bool} {R0 : Fz} {K : Act → World → Prop} {E : Env} {l : List As} {pend : List (Nat × (List As → Prop))} {rest : List (Nat × Bool)} {i d : Nat}
variable {T : TypeId} {ps : String} {af : Array Edge} {g : Option (Nat × Bool)} {x y : Operand} {α : Type} {Kd : Kd α} {w : World} {xT : TypeId}
theorem Dv.slkm {t e : TypeId} {ed : TypeDesc} {lo hi : Option Operand} {b off m c p q sz o' m' c' : Nat} (ho : opAt ops.toList i = some ⟨some d, .slice t x lo hi none, T, ps, af, g⟩) (hg : GOn ops E g) (hx : opv E x = some (eq (.slice (some ⟨b, off, none⟩) m c))) (hu : P.underlying t = some (.slice e)) (hv : P.underlying e = some ed) (hz : P.cellsOf e = sz)
    (hl : bdE E 0 lo p) (hh : bdE E m hi q) (h1 : p ≤ q) (h2 : q ≤ c) (h3 : p < c ∨ p = 0) (e1 : off + p * sz = o') (e2 : q - p = m') (e3 : c - p = c')
    (k : Dv P ops n dr R0 K ((d, eq (.slice (some ⟨b, o', none⟩) m' c')) :: E) l ((i, tt) :: pend) rest) : Dv P ops n dr R0 K E l pend ((i, false) :: rest) := by
  subst e1 e2 e3
  exact Dv.slkn ho hg hx hu hv hz hl hh h1 h2 h3 k
theorem Dv.apmn {t e ti2 : TypeId} {ti : TypeInfo} {z : Value} {b off m c sz by_ jj N k1 : Nat} {bT : TypeId} {ps' Q : Cs} {ik : IntKind} (ho : opAt ops.toList i = some ⟨some d, .call ⟨.builtin .append, #[x, y], #[t, ti2]⟩, T, ps, af, g⟩) (hg : GOn ops E g) (hx : opv E x = some (eq (.slice (some ⟨b, off, none⟩) m c))) (hy : opv E y = some (eq (.int .i64 (k1 : Int))))
    (hu : P.underlying t = some (.slice e)) (hu2 : P.underlying ti2 = some (.int ik)) (hti : P.info? e = some ti) (hsz : ti.size = sz) (hz : ti.zero = some z) (hby : ti.bytes = by_) (hzs : z.cells.size = sz) (h0 : 0 < sz) (hmc : m ≤ c) (hN : m + k1 = N) (hgrow : c < N) (hsm : N ≤ 9223372036854775807) (hb : N * by_ ≤ 140737488355328)
    (hA : l[jj]? = some (blk b bT ps')) (hle : off + m * sz ≤ ps'.length) (hQ : (ps'.drop off).take (m * sz) = Q)
    (hp : dr = true → ∀ q ∈ pend, ((Region.before ops).getD i 0).testBit q.1 = true ∨ ∀ v' : Nat × Nat, N ≤ v'.2 → q.2 (blk v'.1 e (Q ++ (Builtin.zeroCells z.cells (v'.2 - m)).toList.map eq) :: l))
    (k : ∀ v' : Nat × Nat, N ≤ v'.2 → Dv P ops n dr R0 K ((d, eq (.slice (some ⟨v'.1, 0, none⟩) N v'.2)) :: E) (blk v'.1 e (Q ++ (Builtin.zeroCells z.cells (v'.2 - m)).toList.map eq) :: l) pend rest) : Dv P ops n dr R0 K E l pend ((i, true) :: rest) := by
  subst hN hQ
  exact Dv.apmk ho hg hx hy hu hu2 hti hsz hz hby hzs h0 (Int.natCast_nonneg _) hmc (by simpa using hgrow) (by simpa using hsm) (by simpa using hb) hA hle (by simpa using hp) (by simpa using k)
theorem Dv.cpkn {t t2 e : TypeId} {ed : TypeDesc} {b off m c n' sz jj kk : Nat} {bT : TypeId} {ps' qs : Cs} {p : VP} (ho : opAt ops.toList i = some ⟨some d, .call ⟨.builtin .copy, #[x, y], #[t, t2]⟩, T, ps, af, g⟩) (hg : GOn ops E g) (hx : opv E x = some (eq (.slice (some ⟨b, off, none⟩) m c))) (hy : opv E y = some p)
    (hu : P.underlying t = some (.slice e)) (hv : P.underlying e = some ed) (hz : P.cellsOf e = sz) (hs : SrcN P sz l p n' kk qs) (hkk : min n' m = kk) (hjj : l[jj]? = some (blk b bT ps')) (hle : off + qs.length ≤ ps'.length)
    (hp : dr = true → ∀ z ∈ pend, ((Region.before ops).getD i 0).testBit z.1 = true ∨ ∀ _ : Unit, z.2 (l.set jj (blk b bT (spl ps' off qs))))
    (k : Dv P ops n dr R0 K ((d, eq (.int .i64 (kk : Nat))) :: E) (l.set jj (blk b bT (spl ps' off qs))) pend rest) : Dv P ops n dr R0 K E l pend ((i, true) :: rest) := by
  subst hkk
  exact Dv.cpk ho hg hx hy hu hv hz hs hjj hle hp k
theorem srcN_all {xs : List α} : SrcN P Kd.sz l (sl Kd xs) xs.length xs.length (xs.flatMap Kd.enc) := by
  have := srcN_sl (P := P) (l := l) (Kd := Kd) (xs := xs) (Nat.le_refl _)
  rwa [List.take_length] at this
theorem ones_flat (xs : List α) : Ones (xs.flatMap Kd.enc) := fun q hq => by
  obtain ⟨y, _, hy⟩ := List.mem_flatMap.1 hq
  exact fun R v hv => Kd.one y q hy R v hv
theorem srcN_own {xs : List α} {A C : Cs} {b off i n' c' : Nat} {bT : TypeId} (hA : blk b bT (A ++ xs.flatMap Kd.enc ++ C) ∈ l) (hi : i ≤ xs.length) (ho : A.length = off) : SrcN P Kd.sz l (eq (.slice (some ⟨b, off + i * Kd.sz, none⟩) n' c')) n' (xs.length - i) ((xs.drop i).flatMap Kd.enc) := by
  have h := ins_src (Kd := Kd) (C := C) hi ho
  rw [← h]
  refine srcN_blk hA ?_ ?_
  · rw [h]; exact ones_flat _
  · have e : i * Kd.sz + (xs.length - i) * Kd.sz = xs.length * Kd.sz := by rw [← Nat.add_mul]; congr 1; omega
    have hlen := flatMap_len (K := Kd) xs
    simp only [List.length_append, hlen]
    omega
end
/-! Bound methods. -/
theorem wk_ptr {p v : Value} (h : p = v) : Wk (eq p) (eq v) := fun _ _ e => by subst h; exact e
section
variable {P : Program} {ops : Array Oper} {n : Nat} {dr : Bool} {R0 : Fz} {K : Act → World → Prop} {E : Env} {l : List As} {pend : List (Nat × (List As → Prop))} {rest : List (Nat × Bool)} {i d : Nat}
variable {T : TypeId} {ps : String} {af : Array Edge} {g : Option (Nat × Bool)} {x y : Operand}
theorem opvs_eqs {R : Fz} {a : Act} : ∀ {xs : List Operand} {us : List Value}, (∀ x ∈ xs, ∀ p, opv E x = some p → p.p R (a.eval x)) → opvs E xs = some (us.map eq) → xs.map a.eval = us := fun {xs us} h1 h2 => by
  have h := opvs_ok h1 h2
  generalize xs.map a.eval = vs at h
  clear h1 h2
  induction us generalizing vs with
  | nil => cases h; rfl
  | cons u us ih => cases h with | cons a b => rw [show _ = u from a, ih _ b]
/-- A method of a thing, bound to it. -/
theorem Dv.mkc {f : FuncId} {fs : Array Operand} {fst : Array Value} (ho : opAt ops.toList i = some ⟨some d, .makeFunc (.func f) fs #[], T, ps, af, g⟩) (hg : GOn ops E g) (hf : opvs E fs.toList = some (fst.toList.map eq))
    (k : Dv P ops n dr R0 K ((d, eq (.func (.func f) fst #[])) :: E) l ((i, tt) :: pend) rest) : Dv P ops n dr R0 K E l pend ((i, false) :: rest) :=
  Dv.okd _ _ ho (OpOk.pure hg fun R a w hh => ⟨_, rfl, by
    have h1 := opvs_eqs (a := a) (R := R) (fun x hx p hp => hh x (by simp [Op.operands]; simpa using hx) p hp) hf
    have h2 : fs.map a.eval = fst := by apply Array.ext'; simpa using h1
    simp [execOp, Instr.makeFunc, h2]⟩) trivial k
/-- It is called, and reads what is lent. -/
theorem Dv.callc {f : FuncId} {as : Array Operand} {ts : Array TypeId} {fst : Array Value} {vs : List VP} {B F : List As} {ret : VP} (ho : opAt ops.toList i = some ⟨some d, .call ⟨.value x, as, ts⟩, T, ps, af, g⟩) (hg : GOn ops E g)
    (hx : opv E x = some (eq (.func (.func f) fst #[]))) (hc : callable P f = true) (hv : opvs E as.toList = some vs) (ht : Tr P f (fst.toList.map eq ++ vs) B (γ := Unit) (fun _ => True) (fun _ => ret) (fun _ => B)) (hl : l.Perm (B ++ F))
    (k : Dv P ops n dr R0 K ((d, ret) :: E) l ((i, fun l => ∃ F, l.Perm (B ++ F)) :: pend) rest) : Dv P ops n dr R0 K E l pend ((i, false) :: rest) :=
  Dv.okd (fun l => ∃ F, l.Perm (B ++ F)) ret ho (fun R a w l _ _ hs ⟨F, hl⟩ hst K Q hk => by
    have e := hs.op (x := x) (by simp [Op.operands, Call.operands]) hx
    simp only [eq_p] at e
    refine runs_call (R := R) (f := f) (cap := #[]) (fst := fst) rfl (wanted_on hs hg) hc rfl e ?_
    have := opvs_ok (fun x hx p hp => hs.op (by simp [Op.operands, Call.operands]; exact .inr (by simpa using hx)) hp) hv
    refine (ht R F w _ (by have h2 := (eqs_self (R := R) fst.toList).append this; unfold Cs.h; simpa using h2) (St.permL hl hst)).mono ?_
    rintro e w' ⟨_, R', v, _, hR, he, hv, hst'⟩
    exact ⟨v, he, hk R' v w' hR hv (hst'.permL hl.symm)⟩) ⟨F, hl⟩ k
end
section
variable {P : Program} {ops : Array Oper} {n : Nat} {dr : Bool} {R0 : Fz} {K : Act → World → Prop} {E : Env} {l : List As} {pend : List (Nat × (List As → Prop))} {rest : List (Nat × Bool)} {i d : Nat}
variable {T : TypeId} {ps : String} {af : Array Edge} {g : Option (Nat × Bool)} {x y : Operand} {α : Type} {Kd : Kd α}
theorem eqG_slice {t : TypeId} {ad : Option Addr} {m c : Nat} {u : Value} {w : World} : (eqGuard .eql t x y (.slice ad m c) u).run P w = .ok () w := by simp [eqGuard]
theorem run_binnil {t e : TypeId} {ad : Option Addr} {m c : Nat} {w : World} (hu : P.underlying t = some (.slice e)) : (binOp .eql t (.slice ad m c) (.slice none 0 0)).run P w = .ok (.bool ad.isNone) w := by
  obtain ⟨k, hk⟩ : ∃ k, Op.maxDepth = k + 1 := ⟨9999, rfl⟩
  cases ad <;> simp [binOp, Op.equal, hk, Op.equalIn, underlying, hu]
theorem run_snil {t e : TypeId} {ad : Option Addr} {m c : Nat} {w : World} (hu : P.underlying t = some (.slice e)) : (do eqGuard .eql t x y (.slice ad m c) (.slice none 0 0); binOp .eql t (.slice ad m c) (.slice none 0 0) : Sem Value).run P w = .ok (.bool ad.isNone) w := by
  obtain ⟨k, hk⟩ : ∃ k, Op.maxDepth = k + 1 := ⟨9999, rfl⟩
  cases ad <;> simp [eqGuard, binOp, Op.equal, hk, Op.equalIn, underlying, hu]
/-- Is a slice nil? Where it is, it has no elements. -/
theorem Dv.snil {t e yT : TypeId} {xs : List α} (ho : opAt ops.toList i = some ⟨some d, .binOp .eql t x y yT, T, ps, af, g⟩) (hg : GOn ops E g) (hx : opv E x = some (sl Kd xs)) (hy : opv E y = some (eq (.slice none 0 0))) (hu : P.underlying t = some (.slice e))
    (hp : dr = true → ∀ z ∈ pend, ((Region.before ops).getD i 0).testBit z.1 = true ∨ ∀ b : Bool, (b = true → xs = []) → z.2 l)
    (k : ∀ b : Bool, (b = true → xs = []) → Dv P ops n dr R0 K ((d, eq (.bool b)) :: E) l pend rest) : Dv P ops n dr R0 K E l pend ((i, true) :: rest) :=
  .bar _ (γ := Bool) (fun b => b = true → xs = []) (fun b => eq (.bool b)) (fun _ => l) (at_of ho) (OpBar.val hg fun R a w h hst => by
    have e1 := h x (by simp [Op.operands]) _ hx
    have e2 := h y (by simp [Op.operands]) _ hy
    simp only [eq_p] at e2
    rcases e1 with ⟨ad, c, e1, e3⟩ | ⟨b, off, c, bT, fr, cs, e1, _⟩
    · refine ⟨ad.isNone, R, _, w, fun _ => e3, Fz.le_refl R, rfl, hst, ?_⟩
      have := run_snil (x := x) (y := y) (ad := ad) (m := 0) (c := c) (w := w) hu
      simp only [execOp, e1, e2, Sem.run_bind] at this ⊢
      rw [this]; rfl
    · refine ⟨false, R, _, w, (fun h => by cases h), Fz.le_refl R, rfl, hst, ?_⟩
      have := run_snil (x := x) (y := y) (ad := some ⟨b, off, none⟩) (m := xs.length) (c := c) (w := w) hu
      simp only [execOp, e1, e2, Sem.run_bind] at this ⊢
      rw [this]; rfl) (fun e z hz => hp e z hz) k
end
section
variable {P : Program} {ops : Array Oper} {n : Nat} {dr : Bool} {R0 : Fz} {K : Act → World → Prop} {E : Env} {l : List As} {pend : List (Nat × (List As → Prop))} {rest : List (Nat × Bool)} {i d : Nat}
variable {T : TypeId} {ps : String} {af : Array Edge} {g : Option (Nat × Bool)} {α : Type}
/-- A literal without elements. -/
theorem Dv.lit0 {t e : TypeId} {ed : TypeDesc} {z : Value} (Kd : Kd α) (ho : opAt ops.toList i = some ⟨some d, .buildSlice t 0 #[], T, ps, af, g⟩) (hg : GOn ops E g)
    (hu : P.underlying t = some (.slice e)) (hv2 : P.underlying e = some ed) (hz2 : P.cellsOf e = Kd.sz) (hz : zer P e = some z)
    (hp : dr = true → ∀ z ∈ pend, ((Region.before ops).getD i 0).testBit z.1 = true ∨ ∀ v' : OV, z.2 (own Kd v'.1 [] :: l))
    (k : ∀ v' : OV, Dv P ops n dr R0 K ((d, eq v'.1) :: E) (own Kd v'.1 [] :: l) pend rest) : Dv P ops n dr R0 K E l pend ((i, true) :: rest) :=
  .bar _ (γ := OV) (fun _ => True) (fun v' => eq v'.1) (fun v' => own Kd v'.1 [] :: l) (at_of ho) (OpBar.val hg fun R a w h hst => by
    refine ⟨⟨.slice (some ⟨w.heap.size, 0, none⟩) 0 0, rfl⟩, R, _, { w with heap := w.heap.push (.cells #[] e) }, trivial, Fz.le_refl R, rfl, hst.alloc (o := .cells #[] e) ?_, ?_⟩
    · exact .inr ⟨w.heap.size, 0, 0, e, (0, 0), [], rfl, Nat.le_refl _, rfl, by simp, rfl, by simpa using (show Cs.h R [] [] from All2.nil)⟩
    · simp [execOp, Instr.buildSlice, underlying, hu, run_sizeOf hv2 hz2, Instr.fill, newRow]
      exact congrArg (fun q => w.alloc (Obj.cells q e)) (by simp)) (fun e z hz => (hp e z hz).imp id fun h b _ => h b) (fun b _ => k b)
end
end Go.Sp
