/- Plain: rooms of a user, peers and friends are told alike. -/
import Derived.Test.YtigmkniiojpdiaaGreatZWR
set_option linter.all false
set_option maxRecDepth 10000
namespace Go.Proofs.YtigmkniiojpdiaaGreat
open Go Go.Sp
theorem few8 (s : ByteArray) : ∃ r, concourseref01_Few.f s 8 = some r := by
  unfold concourseref01_Few.f
  by_cases h : (8 : Int) < (s.size : Int)
  · rw [decide_eq_true h]
    simp only [cond_true, grd]
    rw [if_pos ⟨by omega, by omega, by omega⟩]
    exact ⟨_, rfl⟩
  · rw [decide_eq_false h]; exact ⟨_, rfl⟩
theorem serverOf_ev {n : Int} (hn : I64 n) : ∃ r, concourseref01_ServerOf.f n = some r := by
  obtain ⟨m, h1, h2, h3⟩ := around_ev (m := 3) hn (by decide) (by decide)
  obtain ⟨k, hk, rfl⟩ := int_lt (n := 3) h2 h3
  unfold concourseref01_ServerOf.f
  rw [h1]
  match k, hk with
  | 0, _ => exact ⟨_, rfl⟩
  | 1, _ => exact ⟨_, rfl⟩
  | 2, _ => exact ⟨_, rfl⟩
theorem lives_ev : Ev (fun k => concourselaw10_lives.f k) true := Ev.add 40 fun m => by kernel_rfl
theorem ViewShares_pure (a0 : List GMade) (a1 : List GMade) (a2 : Int) (a3 : ByteArray) (k0 : (fun xs : List GMade => xs.length ≤ maxLen ∧ ∀ x ∈ xs, GMade.ok x) a0) (k1 : (fun xs : List GMade => xs.length ≤ maxLen ∧ ∀ x ∈ xs, GMade.ok x) a1) (k2 : (fun n => (Lit.int .i64 n).wf = true) a2) (k3 : (fun s : ByteArray => s.size ≤ maxLen) a3) : ∃ k, concourselaw10_ViewShares.f k a0 a1 a2 a3 = some true := by
  suffices h : Ev (fun k => concourselaw10_ViewShares.f k a0 a1 a2 a3) true from h.ex
  obtain ⟨v, w, A, B, h1, h2, h3, h4, h5, h6, h7, h8, h9, h10⟩ := build_ev k0 k1
  have hlen : ∀ room, (ofR w room).fL.length ≤ 1000 := fun room => by
    by_cases e1 : room = roomR
    · subst e1; rw [h8]; have := h4.len; show A.length ≤ _; omega
    · by_cases e2 : room = roomQ
      · subst e2; rw [h9]; have := h6.len; show B.length ≤ _; omega
      · rw [h10 room e1 e2]; simp
  have hl : w.fD.length ≤ 50 := by omega
  obtain ⟨s, hs⟩ := few8 a3
  obtain ⟨f, hf, _⟩ := userOf_ev (i64_of k2)
  obtain ⟨so, hso⟩ := serverOf_ev (i64_of k2)
  have loop : ∀ n x : Nat, 10 - x = n → x ≤ 10 → El (fun k j => concourselaw10_ViewShares.l0 k a2 (some v, w) s j (x : Int)) (.inl (10, false)) := by
    intro n
    induction n with
    | zero =>
      intro x hd hx
      obtain rfl : x = 10 := by omega
      refine El.step (fun _ _ => by rw [concourselaw10_ViewShares.l0]) ?_
      exact El.cf rfl El.pure
    | succ n ih =>
      intro x hd hx
      have ih2 := ih (x + 1) (by omega) (by omega)
      obtain ⟨u0, hu0, _⟩ := userOf_ev (n := (x : Int).tmod 9) (by rw [Int.tmod_eq_emod_of_nonneg (by omega)]; constructor <;> omega)
      obtain ⟨u, hu⟩ : ∃ u, (cond ((x : Int) == 9) (some s) (some u0)) = some u := by
        cases ((x : Int) == 9) with
        | true => exact ⟨s, rfl⟩
        | false => exact ⟨u0, rfl⟩
      obtain ⟨P, p1, p2, p3⟩ := peers_both h2 hl hlen u
      have vr := vroomsof_ev h2 hl hlen u
      have rr := rroomsof_ev h2 hl hlen u
      have hrl := rof_len w u
      have rf := rfriends_ev h2 hl hlen u f
      have sh : ∀ q, Ev (fun k => view_View_Shares.f k v u q) (inB P q) := fun q => by
        unfold view_View_Shares.f
        exact Ev.bind p1 (Ev.bind (contains2 p3) Ev.pure)
      have hh : ∀ q, Ev (fun k => concourseref09_Has.f k P q) (inB P q) := fun q => has2 p3
      refine El.step (fun _ _ => by rw [concourselaw10_ViewShares.l0]) ?_
      rw [rp_inc (show x ≤ 1000000 by omega)]
      refine El.ct (decide_eq_true (by omega)) (El.bind (Ev.of hu0).el (El.bind (Ev.of hu).el (El.bind (Ev.of hf).el (El.bind p2.el ?_))))
      refine El.bind vr.el (El.bind rr.el (El.bind (sametexts_refl (by omega)).el (El.cf rfl ?_)))
      refine El.bind p1.el (El.bind (sametexts_refl (by omega)).el (El.cf rfl ?_))
      refine El.bind (vfriends_ev h2 hl hlen u f).el (El.bind rf.el (El.cf (by simp) ?_))
      refine El.bind (vfriends_ev h2 hl hlen f u).el (El.bind rf.el (El.cf (by rw [friends_sym]; simp) ?_))
      refine El.bind (vfriends_ev h2 hl hlen u u).el (El.bind rr.el (El.cf (by rw [friends_self]; simp) ?_))
      refine El.bind (Ev.of hso).el (El.bind (sh so).el (El.bind (Ev.of hso).el (El.bind (hh so).el (El.cf (by simp) ?_))))
      exact El.bind (sh s).el (El.bind (hh s).el (El.cf (by simp) ih2))
  unfold concourselaw10_ViewShares.f
  refine Ev.bind h1 (Ev.cf rfl (Ev.bind (Ev.of hs) (Ev.bind (loop _ 0 rfl (by omega)).diag ?_)))
  simp only [fall]
  exact Ev.bind lives_ev Ev.pure
end Go.Proofs.YtigmkniiojpdiaaGreat
