/- Plain: whether a user sees an EDU is told alike. -/
import Derived.Test.YtdhaolcplgbalaaGreatZGS
set_option linter.all false
set_option maxRecDepth 10000
namespace Go.Proofs.YtdhaolcplgbalaaGreat
open Go Go.Sp
theorem GateSees_pure (a0 : List GMade) (a1 : List GMade) (a2 : Edu) (a3 : ByteArray) (k0 : (fun xs : List GMade => xs.length ≤ maxLen ∧ ∀ x ∈ xs, GMade.ok x) a0) (k1 : (fun xs : List GMade => xs.length ≤ maxLen ∧ ∀ x ∈ xs, GMade.ok x) a1) (k2 : Edu.ok a2) (k3 : (fun s : ByteArray => s.size ≤ maxLen) a3) : ∃ k, concourselaw16_GateSees.f k a0 a1 a2 a3 = some true := by
  suffices h : Ev (fun k => concourselaw16_GateSees.f k a0 a1 a2 a3) true from h.ex
  obtain ⟨v, w, A, B, h1, h2, h3, h4, h5, h6, h7, h8, h9, h10⟩ := build_ev k0 k1
  have hlen : ∀ room, (ofR w room).fL.length ≤ 1000 := fun room => by
    by_cases e1 : room = roomR
    · subst e1; rw [h8]; have := h4.len; show A.length ≤ _; omega
    · by_cases e2 : room = roomQ
      · subst e2; rw [h9]; have := h6.len; show B.length ≤ _; omega
      · rw [h10 room e1 e2]; simp
  have hl : w.fD.length ≤ 50 := by omega
  obtain ⟨s, hs⟩ := few8 a3
  obtain ⟨l, l1, l2, l3⟩ := some_ev k2
  have loop1 : ∀ i : Nat, i < 3 → ∀ n x : Nat, 10 - x = n → x ≤ 10 → El (fun k j => concourselaw16_GateSees.l1 k a3 (some v, w) l (i : Int) j (x : Int)) (.inl (10, false)) := by
    intro i hi n
    induction n with
    | zero =>
      intro x hd hx
      obtain rfl : x = 10 := by omega
      refine El.step (fun _ _ => by rw [concourselaw16_GateSees.l1]) ?_
      exact El.cf rfl El.pure
    | succ n ih =>
      intro x hd hx
      obtain ⟨u0, hu0, _⟩ := userOf_ev (n := (x : Int).tmod 9) (by rw [Int.tmod_eq_emod_of_nonneg (by omega)]; constructor <;> omega)
      obtain ⟨u, hu⟩ : ∃ u, (cond ((x : Int) == 9) ((concourseref01_Few.f a3 8).bind fun t => some t) (some u0)) = some u := by
        cases ((x : Int) == 9) with
        | true => exact ⟨s, by rw [hs]; rfl⟩
        | false => exact ⟨u0, rfl⟩
      obtain ⟨b, b1, b2⟩ := sees_both h2 hl hlen u (l3 i hi)
      refine El.step (fun _ _ => by rw [concourselaw16_GateSees.l1]) ?_
      rw [rp_inc (show x ≤ 1000000 by omega)]
      exact El.ct (decide_eq_true (by omega)) (El.bind (Ev.of hu0).el (El.bind (Ev.of hu).el (El.grd ⟨by omega, by omega⟩ (El.grd ⟨by omega, by omega⟩ (El.bind b1.el (El.bind b2.el (El.cf (by simp) (ih (x + 1) (by omega) (by omega)))))))))
  have loop0 : ∀ n i : Nat, 3 - i = n → i ≤ 3 → El (fun k j => concourselaw16_GateSees.l0 k a3 (some v, w) l j (i : Int)) (.inl (3, false)) := by
    intro n
    induction n with
    | zero =>
      intro i hd hx
      obtain rfl : i = 3 := by omega
      refine El.step (fun _ _ => by rw [concourselaw16_GateSees.l0]) ?_
      rw [l2]
      exact El.cf rfl El.pure
    | succ n ih =>
      intro i hd hx
      have ih2 := ih (i + 1) (by omega) (by omega)
      refine El.step (fun _ _ => by rw [concourselaw16_GateSees.l0]) ?_
      rw [rp_inc (show i ≤ 1000000 by omega)]
      refine El.ct (decide_eq_true (by omega)) (El.bind (loop1 i (by omega) _ 0 rfl (by omega)).diag.el ?_)
      simp only [fall]
      exact ih2
  unfold concourselaw16_GateSees.f
  refine Ev.bind h1 (Ev.cf rfl (Ev.bind l1 (Ev.bind (loop0 _ 0 rfl (by omega)).diag ?_)))
  simp only [fall]
  exact Ev.bind lives_ev Ev.pure
end Go.Proofs.YtdhaolcplgbalaaGreat
