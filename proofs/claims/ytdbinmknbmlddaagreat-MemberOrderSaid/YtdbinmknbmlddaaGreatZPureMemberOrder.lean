/- Plain: in whatever row the events came, the same ones are joined. -/
import Derived.Test.YtdbinmknbmlddaaGreatZMO
set_option linter.all false
set_option maxRecDepth 10000
namespace Go.Proofs.YtdbinmknbmlddaaGreat
open Go Go.Sp
section
variable {L : List Event} (hc : Chain roomR L) (hl : L.length ≤ 9) (m0 : Option DDag)
include hc hl
theorem round_ev {r : Nat} : ∀ x : Nat, x ≤ L.length → ∀ m L', Sub roomR L m L' → (∀ j, j < r → j < L.length → ev L j ∈ L') → (x ≤ r → r < L.length → ev L r ∈ L') →
    ∃ m' L'', El (fun k j => concourselaw09_MemberOrder.l1 k (m0, ⟨roomR, L⟩) j ((x : Int) - 1) m) (-1, false, m') ∧ Sub roomR L m' L'' ∧ ∀ j, j < r + 1 → j < L.length → ev L j ∈ L'' := by
  intro x
  induction x with
  | zero =>
    intro hx m L' hs h1 h2
    refine ⟨m, L', ?_, hs, fun j hj hj2 => ?_⟩
    · refine El.step (fun _ _ => by rw [concourselaw09_MemberOrder.l1]) ?_
      exact El.cf rfl El.pure
    · rcases Nat.lt_or_ge j r with k | k
      · exact h1 j k hj2
      · obtain rfl : j = r := by omega
        exact h2 (by omega) hj2
  | succ x ih =>
    intro hx m L' hs h1 h2
    have hx2 : x < L.length := by omega
    obtain ⟨m1, L1, a1, a2, a3, a4⟩ := sub_add hc (by omega) hs hx2
    obtain ⟨m', L'', b1, b2⟩ := ih (by omega) m1 L1 a2 (fun j h3 h4 => a3 _ (h1 j h3 h4)) (fun h3 h4 => by
      by_cases e : x = r
      · subst e; exact a4 fun j hj => h1 j hj (by omega)
      · exact a3 _ (h2 (by omega) h4))
    refine ⟨m', L'', ?_, b2⟩
    have e1 : (((x + 1 : Nat) : Int) - 1) = (x : Int) := by omega
    rw [e1]
    refine El.step (fun _ _ => by rw [concourselaw09_MemberOrder.l1]) ?_
    rw [ev_at (l := L) hx2, w64_id (x := (x : Int) - 1) (by omega) (by omega)]
    exact El.ct (decide_eq_true (by omega)) (El.grd ⟨by omega, by show (x : Int) < (L.length : Int); omega⟩ (El.bind a1.el b1))
theorem rounds_ev : ∀ n r : Nat, 9 - r = n → r ≤ 9 → ∀ m L', Sub roomR L m L' → (∀ j, j < r → j < L.length → ev L j ∈ L') →
    ∃ m' L'', El (fun k j => concourselaw09_MemberOrder.l0 k (m0, ⟨roomR, L⟩) j (r : Int) m) (9, false, m') ∧ Sub roomR L m' L'' ∧ ∀ j, j < 9 → j < L.length → ev L j ∈ L'' := by
  intro n
  induction n with
  | zero =>
    intro r hd hr m L' hs h1
    obtain rfl : r = 9 := by omega
    refine ⟨m, L', ?_, hs, h1⟩
    refine El.step (fun _ _ => by rw [concourselaw09_MemberOrder.l0]) ?_
    exact El.cf rfl El.pure
  | succ n ih =>
    intro r hd hr m L' hs h1
    obtain ⟨m1, L1, a1, a2, a3⟩ := round_ev hc hl m0 (r := r) L.length (Nat.le_refl _) m L' hs h1 (fun h3 h4 => by omega)
    obtain ⟨m', L'', b1, b2⟩ := ih (r + 1) (by omega) (by omega) m1 L1 a2 a3
    refine ⟨m', L'', ?_, b2⟩
    refine El.step (fun _ _ => by rw [concourselaw09_MemberOrder.l0]) ?_
    rw [rp_inc (show r ≤ 1000000 by omega)]
    refine El.ct (decide_eq_true (by omega)) (El.bind (a := (-1, false, m1)) ?_ b1)
    have e : w64 (((L.length : Nat) : Int) - 1) = (L.length : Int) - 1 := w64_id (by omega) (by omega)
    show El (fun k j => concourselaw09_MemberOrder.l1 k (m0, ⟨roomR, L⟩) k (w64 ((L.length : Int) - 1)) m) (-1, false, m1)
    rw [e]
    exact a1.diag.el
end
theorem MemberOrder_pure (a0 : List GMade) (k0 : (fun xs : List GMade => xs.length ≤ maxLen ∧ ∀ x ∈ xs, GMade.ok x) a0) : ∃ k, concourselaw09_MemberOrder.f k a0 = some true := by
  suffices h : Ev (fun k => concourselaw09_MemberOrder.f k a0) true from h.ex
  obtain ⟨m, L, h1, h2, h3, h4, h5⟩ := build_ev k0
  have hl := h4.len
  have hg := chain_rg h5 (by omega)
  obtain ⟨m', L', b1, b2, b3⟩ := rounds_ev h5 hl (some m) _ 0 rfl (by omega) ⟨roomR, []⟩ [] ⟨fun i hi => by simp at hi, rel_new roomR, rfl, fun e he => by cases he⟩ (fun j hj => by omega)
  have hg' := chain_rg b2.ch (by have := sub_len b2; omega)
  have hm : ∀ e, e ∈ L' ↔ e ∈ L := fun e => ⟨b2.sub e, fun he => by obtain ⟨i, hi, rfl⟩ := mem_ev he; exact b3 i (by omega) hi⟩
  have hA := allE_same hg.good hg'.good hm
  obtain ⟨us, u1, u2, u3, u4, u5, u6⟩ := users_both hg h3 (room := roomR)
  obtain ⟨us', v1, v2, v3, v4, v5, v6⟩ := users_both hg' b2.tab (room := roomR)
  have hus : us' = us := srtT_ext v3 u3 fun u => by rw [u6, v6, hA]
  rw [hus] at v1
  obtain ⟨r, r1, r2, r3, r4, _⟩ := homes_both u5 (by omega)
  have s1 : Ev (fun k => member_Servers.f k m) r := by unfold member_Servers.f; exact Ev.bind u1 (Ev.bind r1 Ev.pure)
  have s2 : Ev (fun k => member_Servers.f k m') r := by unfold member_Servers.f; exact Ev.bind v1 (Ev.bind r1 Ev.pure)
  unfold concourselaw09_MemberOrder.f
  exact Ev.bind h1 (Ev.cf rfl (Ev.bind (Ev.of rfl) (Ev.bind b1.diag (Ev.bind u1 (Ev.bind v1 (Ev.bind (sametexts_refl (by omega)) (Ev.ct rfl (Ev.bind s1 (Ev.bind s2 (Ev.bind (sametexts_refl (by omega)) (Ev.ct rfl (Ev.bind lives_ev Ev.pure))))))))))))
end Go.Proofs.YtdbinmknbmlddaaGreat
