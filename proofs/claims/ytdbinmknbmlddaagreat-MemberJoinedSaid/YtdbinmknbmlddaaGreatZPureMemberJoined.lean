/- Plain: who is joined, and each user's last step, is told alike. -/
import Derived.Test.YtdbinmknbmlddaaGreatZMJ
set_option linter.all false
set_option maxRecDepth 10000
namespace Go.Proofs.YtdbinmknbmlddaaGreat
open Go Go.Sp
theorem few8 (s : ByteArray) : ∃ r, concourseref01_Few.f s 8 = some r := by
  unfold concourseref01_Few.f
  by_cases h : (8 : Int) < (s.size : Int)
  · rw [decide_eq_true h]
    simp only [cond_true, grd]
    rw [if_pos ⟨by omega, by omega, by omega⟩]
    exact ⟨_, rfl⟩
  · rw [decide_eq_false h]; exact ⟨_, rfl⟩
theorem mlast_loop {A : List Event} (u : ByteArray) (hl : A.length ≤ 1000) : ∀ n x : Nat, A.length - x = n → x ≤ A.length → ∀ r : Option Event,
    El (fun k j => member_Last.l0 k u A j (pr r).2 (x : Int) (pr r).1.fID (pr r).1.fRoom (pr r).1.fParents (pr r).1.fThread (pr r).1.fUser (pr r).1.fDoes)
      ((pr (lastR u (A.drop x) r)).2, (A.length : Int), (A.length : Int), false, (pr (lastR u (A.drop x) r)).1.fID, (pr (lastR u (A.drop x) r)).1.fRoom, (pr (lastR u (A.drop x) r)).1.fParents, (pr (lastR u (A.drop x) r)).1.fThread, (pr (lastR u (A.drop x) r)).1.fUser, (pr (lastR u (A.drop x) r)).1.fDoes, A) := by
  intro n
  induction n with
  | zero =>
    intro x hd hx r
    obtain rfl : x = A.length := by omega
    rw [List.drop_length]
    refine El.step (fun _ _ => by rw [member_Last.l0]) ?_
    exact El.cf (by simp) (by simpa [lastR] using El.pure)
  | succ n ih =>
    intro x hd hx r
    have hx2 : x < A.length := by omega
    have hat : A.getD x default = ev A x := rfl
    have hdr : A.drop x = ev A x :: A.drop (x + 1) := by rw [List.drop_eq_getElem_cons hx2]; unfold ev; rw [List.getD_eq_getElem?_getD, List.getElem?_eq_getElem hx2]; rfl
    have i1 := ih (x + 1) (by omega) (by omega)
    have hs : lastR u (A.drop x) r = lastR u (A.drop (x + 1)) (if isRel u (ev A x) = true then some (ev A x) else r) := by rw [hdr]; rfl
    rw [hs]
    refine El.step (fun _ _ => by rw [member_Last.l0]) ?_
    rw [Int.toNat_natCast, hat, rp_inc (show x ≤ 1000000 by omega)]
    refine El.ct (decide_eq_true (by omega)) (El.grd ⟨by omega, by omega⟩ ?_)
    by_cases hu : (ev A x).fUser = u
    · refine El.ct (decide_eq_true hu) ?_
      by_cases h0 : (ev A x).fDoes = 0
      · refine El.cf (by simp [h0]) ?_
        have : isRel u (ev A x) = false := by unfold isRel; simp [h0]
        rw [this]
        exact i1 r
      · refine El.ct (by simp [h0]) ?_
        have : isRel u (ev A x) = true := by unfold isRel; simp [h0, hu]
        rw [this]
        exact i1 (some (ev A x))
    · refine El.cf (decide_eq_false hu) ?_
      have : isRel u (ev A x) = false := by unfold isRel; simp [hu]
      rw [this]
      exact i1 r
theorem mlast_ev {m : DDag} {L : List Event} (hg : RG L) (hT : T m = tb L) (u : ByteArray) : Ev (fun k => member_Last.f k m u) (pr (lastR u (allE (tb L)) none)) := by
  have h := mlast_loop u (all_len hg hT) _ 0 rfl (by omega) none
  rw [List.drop_zero] at h
  unfold member_Last.f
  exact Ev.bind (Ev.bind (all_ev (rt_of hg hT)) h.diag) (Ev.of rfl)
theorem same_ev {e : Event} (h : e.fParents.length ≤ 100000) : Ev (fun k => concourseref07_Same.f k e e) true := by
  unfold concourseref07_Same.f
  refine Ev.bind (sametexts_refl h) (Ev.ct rfl (Ev.ct (by simp) (Ev.ct (by simp) (Ev.ct (by simp) (Ev.ct (by simp) (Ev.of (by simp)))))))
theorem MemberJoined_pure (a0 : List GMade) (a1 : ByteArray) (k0 : (fun xs : List GMade => xs.length ≤ maxLen ∧ ∀ x ∈ xs, GMade.ok x) a0) (k1 : (fun s : ByteArray => s.size ≤ maxLen) a1) : ∃ k, concourselaw09_MemberJoined.f k a0 a1 = some true := by
  suffices h : Ev (fun k => concourselaw09_MemberJoined.f k a0 a1) true from h.ex
  obtain ⟨m, L, h1, h2, h3, h4, h5⟩ := build_ev k0
  have hg := chain_rg h5 (by have := h4.len; omega)
  obtain ⟨us, u1, u2, u3, u4, _⟩ := users_both hg h3 (room := roomR)
  obtain ⟨s, hs⟩ := few8 a1
  have loop : ∀ n x : Nat, 10 - x = n → x ≤ 10 → El (fun k j => concourselaw09_MemberJoined.l0 k a1 (some m, ⟨roomR, L⟩) j (x : Int)) (.inl (10, false)) := by
    intro n
    induction n with
    | zero =>
      intro x hd hx
      obtain rfl : x = 10 := by omega
      refine El.step (fun _ _ => by rw [concourselaw09_MemberJoined.l0]) ?_
      exact El.cf rfl El.pure
    | succ n ih =>
      intro x hd hx
      obtain ⟨q, hq, _⟩ := userOf_at (x % 9) (Nat.mod_lt _ (by decide))
      have e9 : ((x : Int).tmod 9) = ((x % 9 : Nat) : Int) := by rw [Int.tmod_eq_emod_of_nonneg (by omega)]; rfl
      have all : ∀ u : ByteArray, El (fun k j => (member_Last.f k m u).bind fun t1166 => (concourseref09_Last.f k (⟨roomR, L⟩ : RDag) u).bind fun t1169 => (member_Joined.f k m u).bind fun t1172 => (concourseref09_Joined.f k (⟨roomR, L⟩ : RDag) u).bind fun t1174 => cond (t1172 != t1174) (some (.inr false)) (cond (t1166.2 != t1169.2) (some (.inr false)) ((concourseref07_Same.f k t1166.1 t1169.1).bind fun t1180 => cond (!t1180) (some (.inr false)) (concourselaw09_MemberJoined.l0 k a1 (some m, ⟨roomR, L⟩) j (w64 ((x : Int) + 1)))))) (.inl (10, false)) := fun u => by
        refine El.bind (mlast_ev hg h3 u).el (El.bind (rlast_ev (d := ⟨roomR, L⟩) hg u).el (El.bind (mjoined_ev hg h3 u).el (El.bind (rjoined_ev (d := ⟨roomR, L⟩) hg u).el (El.cf (by simp) (El.cf (by simp) (El.bind (same_ev ?_).el (El.cf rfl ?_)))))))
        · have hmx := last_all hg.good u
          show (pr (lastR u (allE (tb L)) none)).1.fParents.length ≤ 100000
          cases e : lastR u (allE (tb L)) none with
          | none => simp [pr, zeroE]
          | some y => rw [e] at hmx; have := hg.par y hmx.1; show y.fParents.length ≤ _; omega
        · rw [rp_inc (show x ≤ 1000000 by omega)]
          exact ih (x + 1) (by omega) (by omega)
      refine El.step (fun _ _ => by rw [concourselaw09_MemberJoined.l0]) ?_
      refine El.ct (decide_eq_true (by omega)) (El.bind (Ev.of (by rw [e9]; exact hq)).el ?_)
      by_cases h9 : x = 9
      · exact El.bind (a := s) (El.ct (by subst h9; rfl) (El.bind (Ev.of hs).el El.pure)) (all s)
      · exact El.bind (a := q) (El.cf (by simp; omega) El.pure) (all q)
  unfold concourselaw09_MemberJoined.f
  refine Ev.bind h1 (Ev.cf rfl (Ev.bind (loop _ 0 rfl (by omega)).diag ?_))
  simp only [fall]
  exact Ev.bind u1 (Ev.bind u2 (Ev.bind (sametexts_refl (by omega)) (Ev.ct rfl (Ev.bind lives_ev Ev.pure))))
end Go.Proofs.YtdbinmknbmlddaaGreat
