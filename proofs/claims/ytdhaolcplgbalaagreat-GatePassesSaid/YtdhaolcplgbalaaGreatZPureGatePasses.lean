/- Plain: to which servers an EDU passes, and goes, is told alike. -/
import Derived.Test.YtdhaolcplgbalaaGreatZGT
set_option linter.all false
set_option maxRecDepth 10000
namespace Go.Proofs.YtdhaolcplgbalaaGreat
open Go Go.Sp
theorem GatePasses_pure (a0 : List GMade) (a1 : List GMade) (a2 : Edu) (a3 : ByteArray) (k0 : (fun xs : List GMade => xs.length ≤ maxLen ∧ ∀ x ∈ xs, GMade.ok x) a0) (k1 : (fun xs : List GMade => xs.length ≤ maxLen ∧ ∀ x ∈ xs, GMade.ok x) a1) (k2 : Edu.ok a2) (k3 : (fun s : ByteArray => s.size ≤ maxLen) a3) : ∃ k, concourselaw16_GatePasses.f k a0 a1 a2 a3 = some true := by
  suffices h : Ev (fun k => concourselaw16_GatePasses.f k a0 a1 a2 a3) true from h.ex
  obtain ⟨v, w, h1, h2, hl, hlen⟩ := gbuild k0 k1
  obtain ⟨s, hs⟩ := few8 a3
  obtain ⟨l, l1, l2, l3⟩ := some_ev k2
  obtain ⟨s0, e0⟩ : ∃ s, concourseref01_ServerOf.f 0 = some s := ⟨_, rfl⟩
  obtain ⟨s1, e1⟩ : ∃ s, concourseref01_ServerOf.f 1 = some s := ⟨_, rfl⟩
  obtain ⟨s2, e2⟩ : ∃ s, concourseref01_ServerOf.f 2 = some s := ⟨_, rfl⟩
  have loop1 : ∀ i : Nat, i < 3 → ∀ n x : Nat, 5 - x = n → x ≤ 5 → El (fun k j => concourselaw16_GatePasses.l1 k (some v, w) l s0 s1 s2 s (i : Int) j (x : Int)) (.inl (5, false)) := by
    intro i hi n
    induction n with
    | zero =>
      intro x hd hx
      obtain rfl : x = 5 := by omega
      refine El.step (fun _ _ => by rw [concourselaw16_GatePasses.l1]) ?_
      exact El.cf rfl El.pure
    | succ n ih =>
      intro x hd hx
      obtain ⟨b, b1, b2⟩ := passes_both h2 hl hlen (strK.at ([s0, s1, s2, s, (⟨#[]⟩ : ByteArray)] : List ByteArray) (x : Int)) (l3 i hi)
      obtain ⟨t, t1, t2, t3⟩ := targets_both h2 hl hlen (strK.at ([s0, s1, s2, s, (⟨#[]⟩ : ByteArray)] : List ByteArray) (x : Int)) (l3 i hi)
      refine El.step (fun _ _ => by rw [concourselaw16_GatePasses.l1]) ?_
      rw [rp_inc (show x ≤ 1000000 by omega)]
      have hx5 : (x : Int) < (([s0, s1, s2, s, (⟨#[]⟩ : ByteArray)] : List ByteArray).length : Int) := by show (x : Int) < 5; omega
      exact El.ct (decide_eq_true hx5) (El.grd ⟨by omega, hx5⟩ (El.grd ⟨by omega, by omega⟩ (El.grd ⟨by omega, hx5⟩ (El.grd ⟨by omega, by omega⟩ (El.bind b1.el (El.bind b2.el (El.cf (by simp) (El.grd ⟨by omega, hx5⟩ (El.grd ⟨by omega, by omega⟩ (El.grd ⟨by omega, hx5⟩ (El.grd ⟨by omega, by omega⟩ (El.bind t1.el (El.bind t2.el (El.bind (sametexts_refl t3).el (El.cf rfl (ih (x + 1) (by omega) (by omega)))))))))))))))))
  have loop0 : ∀ n i : Nat, 3 - i = n → i ≤ 3 → El (fun k j => concourselaw16_GatePasses.l0 k (some v, w) l s0 s1 s2 s j (i : Int)) (.inl (3, false)) := by
    intro n
    induction n with
    | zero =>
      intro i hd hx
      obtain rfl : i = 3 := by omega
      refine El.step (fun _ _ => by rw [concourselaw16_GatePasses.l0]) ?_
      rw [l2]
      exact El.cf rfl El.pure
    | succ n ih =>
      intro i hd hx
      have ih2 := ih (i + 1) (by omega) (by omega)
      refine El.step (fun _ _ => by rw [concourselaw16_GatePasses.l0]) ?_
      rw [rp_inc (show i ≤ 1000000 by omega)]
      refine El.ct (decide_eq_true (by omega)) (El.bind (loop1 i (by omega) _ 0 rfl (by omega)).diag.el ?_)
      simp only [fall]
      exact ih2
  unfold concourselaw16_GatePasses.f
  refine Ev.bind h1 (Ev.cf rfl (Ev.bind l1 (Ev.bind (Ev.of e0) (Ev.bind (Ev.of e1) (Ev.bind (Ev.of e2) (Ev.bind (Ev.of hs) (Ev.bind (loop0 _ 0 rfl (by omega)).diag ?_)))))))
  simp only [fall]
  exact Ev.bind lives_ev Ev.pure
end Go.Proofs.YtdhaolcplgbalaaGreat
