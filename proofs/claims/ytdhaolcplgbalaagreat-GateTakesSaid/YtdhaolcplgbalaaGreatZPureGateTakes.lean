/- Plain: what goes out of its user's home, who is joined, is taken where it goes, by the same view. -/
import Derived.Test.YtdhaolcplgbalaaGreatZGT
import Derived.Test.YtdhaolcplgbalaaGreatZGG
set_option linter.all false
set_option maxRecDepth 10000
namespace Go.Proofs.YtdhaolcplgbalaaGreat
open Go Go.Sp
theorem home_in {u : ByteArray} (h : u ∈ users) : homeB u ≠ ⟨#[]⟩ := by
  have : ∀ u ∈ users, (homeB u).size ≠ 0 := by decide +kernel
  exact fun e => this u h (by rw [e]; rfl)
theorem GateTakes_pure (a0 : List GMade) (a1 : List GMade) (a2 : Edu) (k0 : (fun xs : List GMade => xs.length ≤ maxLen ∧ ∀ x ∈ xs, GMade.ok x) a0) (k1 : (fun xs : List GMade => xs.length ≤ maxLen ∧ ∀ x ∈ xs, GMade.ok x) a1) (k2 : Edu.ok a2) : ∃ k, concourselaw16_GateTakes.f k a0 a1 a2 = some true := by
  suffices h : Ev (fun k => concourselaw16_GateTakes.f k a0 a1 a2) true from h.ex
  obtain ⟨v, w, h1, h2, hl, hlen⟩ := gbuild k0 k1
  obtain ⟨x, x1, x2, hp⟩ := public_is k2
  have z := x2.zz
  have hmay : mayL x = true := by rw [x2.may, hp]; rfl
  have m1 := (may_ev z).1
  rw [hmay] at m1
  have hm1 := home1 z.user
  have hm2 := home2 z.user
  obtain ⟨b, P, p1, p2, p3, _, p5⟩ := reach_ev h2 hl hlen z
  -- what is reached
  have hP : ∃ P', Ev (fun k => gate_reached.f k v x) P' ∧ (x.fKind = 3 → ∀ s, s ∈ P' ↔ ∃ room ∈ rof w x.fUser, ∃ T, Ev (fun k => view_View_Servers.f k v room) T ∧ s ∈ T) ∧ (x.fKind ≠ 3 → Ev (fun k => view_View_Servers.f k v x.fRoom) P') := by
    by_cases k3 : x.fKind = 3
    · obtain ⟨Q, q1, q2, q3, q4⟩ := peers_all h2 hl hlen x.fUser
      refine ⟨Q, ?_, fun _ => q4, fun h => absurd k3 h⟩
      unfold gate_reached.f
      exact Ev.bind m1 (Ev.cf rfl (Ev.ct (by rw [k3]; rfl) (Ev.bind q1 Ev.pure)))
    · obtain ⟨S, s1, _⟩ := sv h2 hl hlen x.fRoom
      refine ⟨S, ?_, fun h => absurd h k3, fun _ => s1⟩
      unfold gate_reached.f
      exact Ev.bind m1 (Ev.cf rfl (Ev.cf (by simpa using k3) (Ev.bind s1 Ev.pure)))
  obtain ⟨P', r1, r2, r3⟩ := hP
  obtain rfl := r1.uniq p2
  have hPl : (cond b P []).length ≤ 100000 := by cases b <;> simp [p1]
  have hb : ∀ s, s ∈ cond b P [] ↔ (b && inB P s) = true := fun s => by
    cases b with
    | false => simp
    | true => simp [inB_iff]
  have t1 := targets1_ev h2 hl hlen (homeB x.fUser) hPl p2
  generalize hL : (cond b P []).filter (fun s => !decide (s = homeB x.fUser)) = L at t1
  have hLl : L.length ≤ 100000 := by rw [← hL]; exact Nat.le_trans (List.length_filter_le _ _) hPl
  have hLm : ∀ s ∈ L, s ≠ homeB x.fUser ∧ (b && inB P s) = true := fun s hs => by
    rw [← hL] at hs
    obtain ⟨q1, q2⟩ := List.mem_filter.1 hs
    exact ⟨by simpa using q2, (hb s).1 q1⟩
  -- whether it is taken at home
  have hacc : Ev (fun k => gate_Accept.f k v (homeB x.fUser) x) (cond (cond (x.fKind == 3) (!(rof w x.fUser).isEmpty) (jb w x.fUser x.fRoom)) 0 5) := by
    unfold gate_Accept.f
    refine Ev.bind m1 (Ev.cf rfl (Ev.bind hm1 (Ev.cf (by simp) ?_)))
    by_cases k3 : x.fKind = 3
    · have e3 : (x.fKind == 3) = true := by rw [k3]; rfl
      have n3 : (x.fKind != 3) = false := by rw [k3]; rfl
      have q := vroomsof_ev h2 hl hlen x.fUser
      rw [e3, n3]
      cases hro : rof w x.fUser with
      | nil => rw [hro] at q; exact Ev.ct rfl (Ev.bind q (Ev.ct rfl (Ev.ct rfl Ev.pure)))
      | cons y l =>
        rw [hro] at q
        exact Ev.ct rfl (Ev.bind q (Ev.cf (by rw [beq_eq_false_iff_ne, List.length_cons]; omega) (Ev.cf rfl Ev.pure)))
    · have e3 : (x.fKind == 3) = false := by simpa using k3
      have n3 : (x.fKind != 3) = true := by simpa using k3
      have q := jv h2 hl hlen x.fUser x.fRoom
      rw [e3, n3]
      cases hj : jb w x.fUser x.fRoom with
      | true => rw [hj] at q; exact Ev.cf rfl (Ev.ct rfl (Ev.bind q (Ev.cf rfl Ev.pure)))
      | false => rw [hj] at q; exact Ev.cf rfl (Ev.ct rfl (Ev.bind q (Ev.ct rfl Ev.pure)))
  have hin := home_in x2.user
  unfold concourselaw16_GateTakes.f
  refine Ev.bind h1 (Ev.cf rfl (Ev.bind x1 (Ev.bind hm2 (Ev.bind t1 (Ev.bind hacc ?_)))))
  by_cases hc : (if x.fKind = 3 then rof w x.fUser ≠ [] else jb w x.fUser x.fRoom = true)
  · have hcb : cond (x.fKind == 3) (!(rof w x.fUser).isEmpty) (jb w x.fUser x.fRoom) = true := by
      by_cases k3 : x.fKind = 3
      · rw [if_pos k3] at hc; rw [k3]; simpa using hc
      · rw [if_neg k3] at hc; rw [show (x.fKind == 3) = false by simpa using k3]; exact hc
    rw [hcb]
    have loop0 : ∀ n i : Nat, L.length - i = n → i ≤ L.length → El (fun k j => concourselaw16_GateTakes.l0 k (some v, w) x (homeB x.fUser) L j (i : Int)) (.inl ((L.length : Int), false)) := by
      intro n
      induction n with
      | zero =>
        intro i hd hx
        obtain rfl : i = L.length := by omega
        refine El.step (fun _ _ => by rw [concourselaw16_GateTakes.l0]) ?_
        exact El.cf (by simp) (by simpa using El.pure)
      | succ n ih =>
        intro i hd hx
        have hi : i < L.length := by omega
        obtain ⟨q1, q2⟩ := hLm (L.getD i default) (getD_mem hi)
        have ps := (p5 (L.getD i default)).1
        rw [q2] at ps
        have ac : Ev (fun k => gate_Accept.f k v (L.getD i default) x) 6 := by
          unfold gate_Accept.f
          exact Ev.bind m1 (Ev.cf rfl (Ev.bind hm1 (Ev.ct (by rw [decide_eq_false (Ne.symm q1)]; rfl) Ev.pure)))
        refine El.step (fun _ _ => by rw [concourselaw16_GateTakes.l0]) ?_
        rw [rp_inc (show i ≤ 1000000 by omega), Int.toNat_natCast]
        exact El.ct (decide_eq_true (by omega)) (El.grd ⟨by omega, by omega⟩ (El.cf (decide_eq_false q1) (El.grd ⟨by omega, by omega⟩ (El.bind ps.el (El.cf rfl (El.grd ⟨by omega, by omega⟩ (El.bind ac.el (El.cf rfl (ih (i + 1) (by omega) (by omega))))))))))
    refine Ev.cf rfl (Ev.bind (loop0 _ 0 rfl (by omega)).diag ?_)
    simp only [fall]
    have hpas : Ev (fun k => gate_Passes.f k v (homeB x.fUser) x) true := by
      have q := (p5 (homeB x.fUser)).1
      have h0 : homeB x.fUser ∈ cond b P [] := by
        by_cases k3 : x.fKind = 3
        · rw [if_pos k3] at hc
          refine (r2 k3 _).2 ?_
          obtain ⟨room, l, hro⟩ := List.exists_cons_of_ne_nil hc
          have hm : room ∈ rof w x.fUser := by rw [hro]; exact List.mem_cons_self ..
          have hj := (List.mem_filter.1 hm).2
          obtain ⟨T, T1, T2⟩ := home_srv h2 hl hlen hj hin
          exact ⟨room, hm, T, T1, T2⟩
        · rw [if_neg k3] at hc
          obtain ⟨T, T1, T2⟩ := home_srv h2 hl hlen hc hin
          rw [(r3 k3).uniq T1]; exact T2
      rw [(hb _).1 h0] at q
      exact q
    have hsee : Ev (fun k => gate_Sees.f k v x.fUser x) true := by
      have l1 := (local_ev z).1
      rw [x2.local] at l1
      unfold gate_Sees.f
      refine Ev.bind l1 (Ev.cf rfl ?_)
      by_cases k3 : x.fKind = 3
      · rw [if_pos k3] at hc
        have q := vfriends_ev h2 hl hlen x.fUser x.fUser
        rw [friends_self, decide_eq_true (by have := List.length_pos_iff.2 hc; omega)] at q
        exact Ev.ct (by rw [k3]; rfl) (Ev.bind q Ev.pure)
      · rw [if_neg k3] at hc
        have q := jv h2 hl hlen x.fUser x.fRoom
        rw [hc] at q
        exact Ev.cf (by simpa using k3) (Ev.bind q (Ev.ct rfl (Ev.ct (by rw [hp]; rfl) Ev.pure)))
    exact Ev.bind hpas (Ev.ct rfl (Ev.bind hsee (Ev.ct rfl (Ev.bind lives_ev Ev.pure))))
  · have hcb : cond (x.fKind == 3) (!(rof w x.fUser).isEmpty) (jb w x.fUser x.fRoom) = false := by
      by_cases k3 : x.fKind = 3
      · rw [if_pos k3] at hc; rw [k3, Classical.not_not.1 hc]; rfl
      · rw [if_neg k3] at hc; rw [show (x.fKind == 3) = false by simpa using k3]; simpa using hc
    rw [hcb]
    refine Ev.ct rfl ?_
    by_cases k3 : x.fKind = 3
    · rw [if_pos k3] at hc
      have hro : rof w x.fUser = [] := Classical.not_not.1 hc
      have hL0 : L = [] := by
        rw [← hL]
        have : cond b P [] = [] := by
          apply List.eq_nil_iff_forall_not_mem.2
          intro s hs
          obtain ⟨room, hm, _⟩ := (r2 k3 s).1 hs
          rw [hro] at hm; cases hm
        rw [this]; rfl
      exact Ev.cf (by rw [k3]; rfl) (Ev.ct (by rw [hL0]; rfl) (Ev.bind lives_ev Ev.pure))
    · exact Ev.ct (by simpa using k3) (Ev.bind lives_ev Ev.pure)
end Go.Proofs.YtdhaolcplgbalaaGreat
