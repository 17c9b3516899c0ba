/- Plain: which servers are there is told alike. -/
import Derived.Test.YtdbinmknbmlddaaGreatZMJ
set_option linter.all false
set_option maxRecDepth 10000
namespace Go.Proofs.YtdbinmknbmlddaaGreat
open Go Go.Sp
theorem few8 (s : ByteArray) : ∃ r, concourseref01_Few.f s 8 = some r := by
  unfold concourseref01_Few.f
  by_cases h : (8 : Int) < (s.size : Int)
  · rw [decide_eq_true h]
    simp only [cond_true, grd]
    rw [if_pos ⟨by omega, by omega, by omega⟩]
    exact ⟨_, rfl⟩
  · rw [decide_eq_false h]; exact ⟨_, rfl⟩
theorem serverOf_at (x : Nat) (h : x < 3) : ∃ r, concourseref01_ServerOf.f (x : Int) = some r := by
  match x, h with
  | 0, _ => exact ⟨_, rfl⟩
  | 1, _ => exact ⟨_, rfl⟩
  | 2, _ => exact ⟨_, rfl⟩
theorem MemberServers_pure (a0 : List GMade) (a1 : ByteArray) (k0 : (fun xs : List GMade => xs.length ≤ maxLen ∧ ∀ x ∈ xs, GMade.ok x) a0) (k1 : (fun s : ByteArray => s.size ≤ maxLen) a1) : ∃ k, concourselaw09_MemberServers.f k a0 a1 = some true := by
  suffices h : Ev (fun k => concourselaw09_MemberServers.f k a0 a1) true from h.ex
  obtain ⟨m, L, h1, h2, h3, h4, h5⟩ := build_ev k0
  have hg := chain_rg h5 (by have := h4.len; omega)
  obtain ⟨r, r1, r2, r3, r4⟩ := servers_both hg h3 (room := roomR)
  obtain ⟨s, hs⟩ := few8 a1
  have hin : ∀ x, Ev (fun k => member_In.f k m x) (inB r x) := fun x => by
    unfold member_In.f; exact Ev.bind r1 (Ev.bind (contains2 (by omega)) Ev.pure)
  have loop : ∀ n x : Nat, 3 - x = n → x ≤ 3 → El (fun k j => concourselaw09_MemberServers.l0 k (some m, ⟨roomR, L⟩) r j (x : Int)) (.inl (3, false)) := by
    intro n
    induction n with
    | zero =>
      intro x hd hx
      obtain rfl : x = 3 := by omega
      refine El.step (fun _ _ => by rw [concourselaw09_MemberServers.l0]) ?_
      exact El.cf rfl El.pure
    | succ n ih =>
      intro x hd hx
      obtain ⟨q, hq⟩ := serverOf_at x (by omega)
      refine El.step (fun _ _ => by rw [concourselaw09_MemberServers.l0]) ?_
      rw [rp_inc (show x ≤ 1000000 by omega)]
      exact El.ct (decide_eq_true (by omega)) (El.bind (Ev.of hq).el (El.bind (hin q).el (El.bind (Ev.of hq).el (El.bind (has2 (by omega)).el (El.cf (by simp) (ih (x + 1) (by omega) (by omega)))))))
  unfold concourselaw09_MemberServers.f
  refine Ev.bind h1 (Ev.cf rfl (Ev.bind r2 (Ev.bind (Ev.of hs) (Ev.bind (loop _ 0 rfl (by omega)).diag ?_))))
  simp only [fall]
  exact Ev.bind r1 (Ev.bind (sametexts_refl (by omega)) (Ev.ct rfl (Ev.bind (hin s) (Ev.bind (has2 (by omega)) (Ev.ct (by simp) (Ev.bind lives_ev Ev.pure))))))
end Go.Proofs.YtdbinmknbmlddaaGreat
