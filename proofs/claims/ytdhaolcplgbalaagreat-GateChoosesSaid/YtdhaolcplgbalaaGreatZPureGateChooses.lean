/- Plain: those that pass are the document's, in their row. -/
import Derived.Test.YtdhaolcplgbalaaGreatZGC2
set_option linter.all false
set_option maxRecDepth 10000
namespace Go.Proofs.YtdhaolcplgbalaaGreat
open Go Go.Sp
theorem owns_ev {l : List Edu} (hok : ∀ x ∈ l, Edu.ok x) : ∃ r : Int × Bool × List Edu, Ev (fun k => concourselaw16_GateChooses.l0 k l k 0 []) r ∧ r.2.2.length ≤ 8 ∧ ∀ e ∈ r.2.2, Zz e := by
  have key : ∀ n x : Nat, 8 - x = n → x ≤ 8 → ∀ out : List Edu, out.length ≤ x → (∀ e ∈ out, Zz e) → ∃ r : Int × Bool × List Edu, El (fun k j => concourselaw16_GateChooses.l0 k l j (x : Int) out) r ∧ r.2.2.length ≤ 8 ∧ ∀ e ∈ r.2.2, Zz e := by
    intro n
    induction n with
    | zero =>
      intro x hn hx out ho hz
      obtain rfl : x = 8 := by omega
      by_cases h : ((8 : Nat) : Int) < (l.length : Int)
      · refine ⟨(8, false, out), (by refine El.step (fun _ _ => by rw [concourselaw16_GateChooses.l0]) ?_; exact El.ct (decide_eq_true h) (El.cf rfl El.pure)), ho, hz⟩
      · refine ⟨(8, false, out), (by refine El.step (fun _ _ => by rw [concourselaw16_GateChooses.l0]) ?_; exact El.cf (decide_eq_false h) El.pure), ho, hz⟩
    | succ n ih =>
      intro x hn hx out ho hz
      by_cases h : (x : Int) < (l.length : Int)
      · obtain ⟨q, q1, q2, q3⟩ := some_ev (hok (l.getD x default) (getD_mem (by omega)))
        have hm0 : (0 : Int) ≤ (x : Int).tmod 2 := by rw [Int.tmod_eq_emod_of_nonneg (by omega)]; omega
        have hm2 : (x : Int).tmod 2 < 2 := by rw [Int.tmod_eq_emod_of_nonneg (by omega)]; omega
        obtain ⟨m, hm, em⟩ := int_lt (n := 2) hm0 hm2
        obtain ⟨r, r1, r2, r3⟩ := ih (x + 1) (by omega) (by omega) (out ++ [Edu.K.at q (m : Int)]) (by rw [List.length_append, List.length_singleton]; omega) (fun e he => by
          rcases List.mem_append.1 he with he | he
          · exact hz e he
          · rw [List.mem_singleton.1 he]; exact q3 m (by omega))
        refine ⟨r, ?_, r2, r3⟩
        have e0 : Edu.K.at l (x : Int) = l.getD x default := rfl
        refine El.step (fun _ _ => by rw [concourselaw16_GateChooses.l0]) ?_
        rw [inc1 (show x ≤ 1000000 by omega), e0, em]
        exact El.ct (decide_eq_true h) (El.ct (decide_eq_true (by omega)) (El.grd ⟨by omega, h⟩ (El.bind q1.el (El.grd ⟨by omega, by omega⟩ (El.grd ⟨by rw [List.length_singleton]; omega, by rw [List.length_singleton]; omega⟩ r1)))))
      · refine ⟨((x : Int), false, out), (by refine El.step (fun _ _ => by rw [concourselaw16_GateChooses.l0]) ?_; exact El.cf (decide_eq_false h) El.pure), by show out.length ≤ 8; omega, hz⟩
  obtain ⟨r, r1, r2⟩ := key _ 0 rfl (by omega) [] (by simp) (fun e he => (by cases he))
  exact ⟨r, r1.diag, r2⟩
theorem GateChooses_pure (a0 : List GMade) (a1 : List GMade) (a2 : List Edu) (a3 : Int) (k0 : (fun xs : List GMade => xs.length ≤ maxLen ∧ ∀ x ∈ xs, GMade.ok x) a0) (k1 : (fun xs : List GMade => xs.length ≤ maxLen ∧ ∀ x ∈ xs, GMade.ok x) a1) (k2 : (fun xs : List Edu => xs.length ≤ maxLen ∧ ∀ x ∈ xs, Edu.ok x) a2) (k3 : (fun n => (Lit.int .i64 n).wf = true) a3) : ∃ k, concourselaw16_GateChooses.f k a0 a1 a2 a3 = some true := by
  suffices h : Ev (fun k => concourselaw16_GateChooses.f k a0 a1 a2 a3) true from h.ex
  obtain ⟨v, w, h1, h2, hl, hlen⟩ := gbuild k0 k1
  obtain ⟨r, r1, r2, r3⟩ := owns_ev k2.2
  obtain ⟨m, m1, m2, m3⟩ := around_ev (m := 3) (i64_of k3) (by decide) (by decide)
  obtain ⟨to, ht⟩ : ∃ s, concourseref01_ServerOf.f a3 = some s := by
    unfold concourseref01_ServerOf.f
    rw [m1]
    obtain ⟨k, hk, rfl⟩ := int_lt (n := 3) m2 m3
    match k, hk with
    | 0, _ => exact ⟨_, rfl⟩
    | 1, _ => exact ⟨_, rfl⟩
    | 2, _ => exact ⟨_, rfl⟩
  have c1 := choose1_ev h2 hl hlen to r3 (by omega)
  have c2 := choose2_ev h2 hl hlen to r3 (by omega)
  have hf : (r.2.2.filter (pb w to)).length ≤ 100000 := by have := List.length_filter_le (pb w to) r.2.2; omega
  have s1 := sameEdus_ev (xs := r.2.2.filter (pb w to)) (ys := r.2.2.filter (pb w to)) hf
  have s2 := sameEdus_ev (xs := r.2.2) (ys := r.2.2) (by omega)
  rw [decide_eq_true rfl] at s1 s2
  unfold concourselaw16_GateChooses.f
  exact Ev.bind h1 (Ev.cf rfl (Ev.bind r1 (Ev.grd ⟨by show 0 + _ ≤ _; omega, by show (0 + _) * 112 ≤ _; omega⟩ (Ev.bind (Ev.of ht) (Ev.bind c1 (Ev.bind c2 (Ev.bind s1 (Ev.ct rfl (Ev.bind s2 (Ev.ct rfl (Ev.bind lives_ev Ev.pure)))))))))))
end Go.Proofs.YtdhaolcplgbalaaGreat
