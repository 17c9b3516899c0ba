/- Scopes, labels, slices that are made. -/
import Derived.Test.YtigmkniiojpdiaaGreatConW
import Derived.Scope
set_option linter.all false
namespace Go.Sp
open Go
section
variable {P : Program} {n : Nat} {R0 : Fz} {Q : Exit → Act → World → Prop} {E : Env} {l : List As}
theorem WP.scope {c : Code} (h : WP P n R0 c (Exit.noGoto Q) E l) : WP P n R0 (.scope c) Q E l := fun R a w h0 ha hs => wp_scope_straight (h R a w h0 ha hs)
theorem WP.label {id : Nat} (h : ∀ R a w, R0.le R → Agr n R a E → St R l w → Q .normal a w) : WP P n R0 (.label id) Q E l := fun R a w h0 ha hs => wp_label (h R a w h0 ha hs)
end
section
variable {P : Program} {ops : Array Oper} {n : Nat} {dr : Bool} {R0 : Fz} {K : Act → World → Prop} {E : Env} {l : List As} {pend : List (Nat × (List As → Prop))} {rest : List (Nat × Bool)} {i d : Nat}
variable {T : TypeId} {ps : String} {af : Array Edge} {g : Option (Nat × Bool)} {x y : Operand} {α : Type} {Kd : Kd α}
theorem zero_enc {α : Type} {Kd : Sp.Kd α} {z : Value} {d : α} (hd : z.cells.toList.map eq = Kd.enc d) : ∀ (n : Nat), (Builtin.zeroCells z.cells n).toList.map eq = (List.replicate n d).flatMap Kd.enc := by
  intro n
  induction n with
  | zero => simp [Builtin.zeroCells]
  | succ n ih =>
    have e := zeroCells_add z.cells n 1
    have e1 : (Builtin.zeroCells z.cells 1).toList = z.cells.toList := by
      unfold Builtin.zeroCells
      apply List.ext_getElem
      · simp
      · intro i h1 h2
        simp at h1 h2
        simp [Nat.mod_eq_of_lt h1]
        exact getElem!_pos z.cells i h1
    rw [← e, Array.toList_append, List.map_append, ih, e1, hd, List.replicate_succ', List.flatMap_append]
    simp
/-- A slice of zeros. -/
theorem Dv.mks {t e : TypeId} {ti : TypeInfo} {z : Value} {m : Int} {by_ : Nat} (dflt : α) (ho : opAt ops.toList i = some ⟨some d, .makeSlice t x y, T, ps, af, g⟩) (hg : GOn ops E g) (hx : opv E x = some (eq (.int .i64 m))) (hy : opv E y = some (eq (.int .i64 m)))
    (hu : P.underlying t = some (.slice e)) (hti : P.info? e = some ti) (hsz : ti.size = Kd.sz) (hz : ti.zero = some z) (hby : ti.bytes = by_) (hzs : z.cells.size = Kd.sz) (h0 : 0 < Kd.sz) (hd : z.cells.toList.map eq = Kd.enc dflt) (hm : 0 ≤ m ∧ m ≤ 9223372036854775807 ∧ m.toNat * by_ ≤ 140737488355328)
    (hp : dr = true → ∀ z ∈ pend, ((Region.before ops).getD i 0).testBit z.1 = true ∨ ∀ v' : OV, z.2 (own Kd v'.1 (List.replicate m.toNat dflt) :: l))
    (k : ∀ v' : OV, Dv P ops n dr R0 K ((d, eq v'.1) :: E) (own Kd v'.1 (List.replicate m.toNat dflt) :: l) pend rest) : Dv P ops n dr R0 K E l pend ((i, true) :: rest) :=
  .bar _ (γ := OV) (fun _ => True) (fun v' => eq v'.1) (fun v' => own Kd v'.1 (List.replicate m.toNat dflt) :: l) (at_of ho) (OpBar.val hg fun R a w h hst => by
    have e1 := h x (by simp [Op.operands]) _ hx
    have e2 := h y (by simp [Op.operands]) _ hy
    simp only [eq_p] at e1 e2
    obtain ⟨m1, m2, m3⟩ := hm
    have hw : IntKind.i64.wrap m = m := by
      simp only [IntKind.wrap, IntKind.signed, IntKind.bits]
      simp
      omega
    refine ⟨⟨.slice (some ⟨w.heap.size, 0, none⟩) m.toNat m.toNat, rfl⟩, R, _, { w with heap := w.heap.push (.cells (Builtin.zeroCells z.cells m.toNat) e) }, trivial, Fz.le_refl R, rfl, hst.alloc (o := .cells (Builtin.zeroCells z.cells m.toNat) e) ?_, ?_⟩
    · have hlen : (Builtin.zeroCells z.cells m.toNat).toList.length = m.toNat * Kd.sz := by simp [Builtin.zeroCells, hzs]
      refine .inr ⟨w.heap.size, 0, m.toNat, e, (0, 0), (Builtin.zeroCells z.cells m.toNat).toList, by rw [List.length_replicate], by rw [List.length_replicate]; exact Nat.le_refl _, rfl, by omega, rfl, ?_⟩
      rw [List.drop_zero, List.length_replicate, List.take_of_length_le (by omega), ← zero_enc hd]
      exact eqs_self _
    · have hb : ¬ (281474976710656 < (by_ : Int) * m) := by
        have h8 : (by_ : Int) * m = ((m.toNat * by_ : Nat) : Int) := by rw [Int.natCast_mul, Int.toNat_of_nonneg m1, Int.mul_comm]
        rw [h8]; omega
      have hn : ¬ m < 0 := by omega
      have hr : ¬ (roomBytes < m.toNat * by_) := by
        have : roomBytes = 140737488355328 := by decide
        omega
      have hne : (m.toNat * Kd.sz = 0) ↔ m.toNat = 0 := by
        rw [Nat.mul_eq_zero]; omega
      simp only [execOp, Instr.makeSlice]
      simp [e1, e2, run_underlying hu, sizeOf, typeInfo, zeroValue, hti, hsz, hz, hby, asInt, asIntOf, hw, hb, hn, hr, askRoom, newRow]
      have hzc : Builtin.zeroCells z.cells m.toNat = (Array.range (m.toNat * Kd.sz)).map (fun x => z.cells[x % z.cells.size]!) := by unfold Builtin.zeroCells; rw [hzs]
      have h00 : ∀ f : Nat → Value, (Array.range 0).map f = #[] := fun f => by simp
      rw [hzc]
      split
      · rename_i h; rw [h, h00, h00]
      · rfl) (fun e z hz => (hp e z hz).imp id fun h b _ => h b) (fun b _ => k b)
end
end Go.Sp
namespace Go.Sp
open Go
theorem st_cast {l l' : List As} (h : l = l') : ∀ R w, St R l w → ∃ _ : Unit, True ∧ St R l' w := fun R w k => ⟨(), trivial, by rw [← h]; exact k⟩
end Go.Sp
