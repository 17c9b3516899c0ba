/- Plain: a private receipt passes to no server, none takes it, and nobody sees it but its user. -/
import Derived.Test.YtdhaolcplgbalaaGreatZGT
import Derived.Test.YtdhaolcplgbalaaGreatZGG
set_option linter.all false
set_option maxRecDepth 10000
namespace Go.Proofs.YtdhaolcplgbalaaGreat
open Go Go.Sp
theorem GateSecret_pure (a0 : List GMade) (a1 : List GMade) (a2 : Edu) (k0 : (fun xs : List GMade => xs.length ≤ maxLen ∧ ∀ x ∈ xs, GMade.ok x) a0) (k1 : (fun xs : List GMade => xs.length ≤ maxLen ∧ ∀ x ∈ xs, GMade.ok x) a1) (k2 : Edu.ok a2) : ∃ k, concourselaw16_GateSecret.f k a0 a1 a2 = some true := by
  suffices h : Ev (fun k => concourselaw16_GateSecret.f k a0 a1 a2) true from h.ex
  obtain ⟨v, w, h1, h2, hl, hlen⟩ := gbuild k0 k1
  have ok' : Edu.ok ⟨0, a2.fRoom, a2.fUser, a2.fEvent, a2.fThread, true, a2.fOn, a2.fSpan, a2.fState, a2.fTick, a2.fStamp⟩ := by
    obtain ⟨c1, c2, c3, c4, c5, c6, c7, c8, c9, c10, c11, c12⟩ := k2
    exact ⟨show (Lit.int .i64 0).wf = true by decide, c2, c3, c4, c5, trivial, c7, c8, c9, c10, c11, c12⟩
  obtain ⟨x, x1, x2, x3, x4⟩ := good_is ok'
  have hk : x.fKind = 1 := x3 rfl
  have hp : x.fPrivate = true := x4 hk
  have z := x2.zz
  have hmay : mayL x = false := by rw [x2.may, hp]; rfl
  have k3 : (x.fKind == 3) = false := by rw [hk]; rfl
  obtain ⟨b, P, p1, p2, p3, _, p5⟩ := reach_ev h2 hl hlen z
  obtain rfl := p3 hp
  have hacc : ∀ s, Ev (fun k => gate_Accept.f k v s x) 1 := fun s => by
    have := (may_ev z).1
    rw [hmay] at this
    unfold gate_Accept.f
    exact Ev.bind this (Ev.ct rfl Ev.pure)
  have htar : ∀ s, Ev (fun k => gate_Targets.f k v s x) [] := fun s => targets1_ev h2 hl hlen s (L := []) (by simp) p2
  have hpas : ∀ s, Ev (fun k => gate_Passes.f k v s x) false := fun s => (p5 s).1
  have hsee : ∀ u, Ev (fun k => gate_Sees.f k v u x) (jb w u x.fRoom && decide (x.fUser = u)) := fun u => by
    have l1 := (local_ev z).1
    rw [x2.local] at l1
    have j1 := jv h2 hl hlen u x.fRoom
    unfold gate_Sees.f
    refine Ev.bind l1 (Ev.cf rfl (Ev.cf k3 (Ev.bind j1 ?_)))
    cases jb w u x.fRoom with
    | false => exact Ev.cf rfl Ev.pure
    | true => exact Ev.ct rfl (Ev.cf (by rw [hp]; rfl) Ev.pure)
  have loop1 : ∀ n i : Nat, 3 - i = n → i ≤ 3 → El (fun k j => concourselaw16_GateSecret.l1 k (some v, w) x j (i : Int)) (.inl (3, false)) := by
    intro n
    induction n with
    | zero =>
      intro i hd hx
      obtain rfl : i = 3 := by omega
      refine El.step (fun _ _ => by rw [concourselaw16_GateSecret.l1]) ?_
      exact El.cf rfl El.pure
    | succ n ih =>
      intro i hd hx
      obtain ⟨s, hs⟩ : ∃ s, concourseref01_ServerOf.f (i : Int) = some s := by
        match i, (show i < 3 by omega) with
        | 0, _ => exact ⟨_, rfl⟩
        | 1, _ => exact ⟨_, rfl⟩
        | 2, _ => exact ⟨_, rfl⟩
      refine El.step (fun _ _ => by rw [concourselaw16_GateSecret.l1]) ?_
      rw [rp_inc (show i ≤ 1000000 by omega)]
      exact El.ct (decide_eq_true (by omega)) (El.bind (Ev.of hs).el (El.bind (hpas s).el (El.cf rfl (El.bind (htar s).el (El.cf rfl (El.bind (hacc s).el (El.cf rfl (ih (i + 1) (by omega) (by omega)))))))))
  have loop0 : ∀ n i : Nat, 9 - i = n → i ≤ 9 → El (fun k j => concourselaw16_GateSecret.l0 k (some v, w) x j (i : Int)) (.inl (9, false)) := by
    intro n
    induction n with
    | zero =>
      intro i hd hx
      obtain rfl : i = 9 := by omega
      refine El.step (fun _ _ => by rw [concourselaw16_GateSecret.l0]) ?_
      exact El.cf rfl El.pure
    | succ n ih =>
      intro i hd hx
      obtain ⟨u, hu, _⟩ := userOf_at i (by omega)
      have ih2 := ih (i + 1) (by omega) (by omega)
      refine El.step (fun _ _ => by rw [concourselaw16_GateSecret.l0]) ?_
      rw [rp_inc (show i ≤ 1000000 by omega)]
      refine El.ct (decide_eq_true (by omega)) (El.bind (Ev.of hu).el (El.bind (hsee u).el ?_))
      by_cases e : x.fUser = u
      · cases hj : jb w u x.fRoom with
        | false => exact El.cf rfl ih2
        | true => exact El.ct (by rw [decide_eq_true e]; rfl) (El.cf (by rw [decide_eq_true e.symm]; rfl) ih2)
      · exact El.cf (by rw [decide_eq_false e, Bool.and_false]) ih2
  have hsu := hsee x.fUser
  rw [decide_eq_true rfl, Bool.and_true] at hsu
  unfold concourselaw16_GateSecret.f
  refine Ev.bind h1 (Ev.cf rfl (Ev.bind x1 (Ev.cf (by rw [hp]; rfl) (Ev.bind (loop1 _ 0 rfl (by omega)).diag ?_))))
  simp only [fall]
  refine Ev.bind (loop0 _ 0 rfl (by omega)).diag ?_
  simp only [fall]
  exact Ev.bind hsu (Ev.bind (jr h2 hl hlen x.fUser x.fRoom) (Ev.ct (by simp) (Ev.bind lives_ev Ev.pure)))
end Go.Proofs.YtdhaolcplgbalaaGreat
