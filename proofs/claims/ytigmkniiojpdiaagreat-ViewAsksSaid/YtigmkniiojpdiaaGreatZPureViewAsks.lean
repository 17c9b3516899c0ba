/- Plain: who is joined, which servers are in a room, and where an event stands, is told alike. -/
import Derived.Test.YtigmkniiojpdiaaGreatZVH
import Derived.Test.YtigmkniiojpdiaaGreatZMJ
set_option linter.all false
set_option maxRecDepth 10000
namespace Go.Proofs.YtigmkniiojpdiaaGreat
open Go Go.Sp
theorem rg_of {m : DDag} {d : RDag} (h : RelT m d) (hl : d.fL.length ≤ 1000) : RG d.fL := ⟨h.good, h.par, h.does, h.usr, hl⟩
def posR (L : List Event) (id : ByteArray) : Pos × Bool := if ix L id < 0 then (⟨0, ⟨#[]⟩⟩, false) else (pos (tb L) id, true)
theorem dpos_ev {m : DDag} {d : RDag} (h : RelT m d) (id : ByteArray) : dag_Dag_Position.f m id = some (posR d.fL id) := by
  unfold dag_Dag_Position.f dag_Dag_Has.f posR
  rcases rel_ix h.rel id with ⟨q, h1⟩ | ⟨j, q, hj, he, nd, h1, h2⟩
  · rw [h1, q]; rfl
  · rw [h1, q, if_neg (by omega)]
    have hd : dpt (tb d.fL) id = nd.fdepth := by
      unfold dpt
      rw [← h.tab, T_get, h1]; rfl
    unfold pos
    rw [hd]; rfl
theorem few8 (s : ByteArray) : ∃ r, concourseref01_Few.f s 8 = some r := by
  unfold concourseref01_Few.f
  by_cases h : (8 : Int) < (s.size : Int)
  · rw [decide_eq_true h]
    simp only [cond_true, grd]
    rw [if_pos ⟨by omega, by omega, by omega⟩]
    exact ⟨_, rfl⟩
  · rw [decide_eq_false h]; exact ⟨_, rfl⟩
theorem serverOf_ev {n : Int} (hn : I64 n) : ∃ r, concourseref01_ServerOf.f n = some r := by
  obtain ⟨m, h1, h2, h3⟩ := around_ev (m := 3) hn (by decide) (by decide)
  obtain ⟨k, hk, rfl⟩ := int_lt (n := 3) h2 h3
  unfold concourseref01_ServerOf.f
  rw [h1]
  match k, hk with
  | 0, _ => exact ⟨_, rfl⟩
  | 1, _ => exact ⟨_, rfl⟩
  | 2, _ => exact ⟨_, rfl⟩
theorem eventOf_ev {n : Int} (hn : I64 n) : ∃ r, Ev (fun k => concourseref01_EventOf.f k n) r := by
  obtain ⟨m, h1, h2, h3⟩ := around_ev (m := 9) hn (by decide) (by decide)
  obtain ⟨k, hk, rfl⟩ := int_lt (n := 9) h2 h3
  refine ⟨evs k, ?_⟩
  have h := eventOf_at k hk
  unfold concourseref01_EventOf.f at h ⊢
  rw [show (9 : Int) = ((9 : Nat) : Int) from rfl, around_small hk (by decide)] at h
  rw [h1]
  exact h
theorem lives_ev : Ev (fun k => concourselaw10_lives.f k) true := Ev.add 40 fun m => by kernel_rfl
section
variable {v : VView} {w : RView} (hr : RelV v w) (hl : w.fD.length ≤ 1000)
include hr hl
theorem vpos_ev (room id : ByteArray) (hd : (ofR w room).fL.length ≤ 1000) : Ev (fun _ => view_View_Position.f v room id) (posR (ofR w room).fL id) ∧ Ev (fun k => concourseref10_Position.f k w room id) (posR (ofR w room).fL id) := by
  obtain ⟨m, h1, h2, _⟩ := relV_of hr room
  constructor
  · unfold view_View_Position.f
    exact Ev.bind (Ev.of h1) (Ev.bind (Ev.of (dpos_ev h2 id)) (Ev.of rfl))
  · unfold concourseref10_Position.f posR
    refine Ev.bind (of_ev (by omega)) (Ev.bind (at_ix id (by show _ ≤ 9223372036854775807; omega)) ?_)
    by_cases h : ix (ofR w room).fL id < 0
    · rw [if_pos h]; exact Ev.ct (decide_eq_true h) Ev.pure
    · rw [if_neg h]; exact Ev.cf (decide_eq_false h) (Ev.bind (rpos_ev (rg_of h2 hd) id) Ev.pure)
end
theorem ViewAsks_pure (a0 : List GMade) (a1 : List GMade) (a2 : Int) (a3 : Int) (a4 : ByteArray) (k0 : (fun xs : List GMade => xs.length ≤ maxLen ∧ ∀ x ∈ xs, GMade.ok x) a0) (k1 : (fun xs : List GMade => xs.length ≤ maxLen ∧ ∀ x ∈ xs, GMade.ok x) a1) (k2 : (fun n => (Lit.int .i64 n).wf = true) a2) (k3 : (fun n => (Lit.int .i64 n).wf = true) a3) (k4 : (fun s : ByteArray => s.size ≤ maxLen) a4) : ∃ k, concourselaw10_ViewAsks.f k a0 a1 a2 a3 a4 = some true := by
  suffices h : Ev (fun k => concourselaw10_ViewAsks.f k a0 a1 a2 a3 a4) true from h.ex
  obtain ⟨v, w, A, B, h1, h2, h3, h4, h5, h6, h7, h8, h9, h10⟩ := build_ev k0 k1
  have hlen : ∀ room, (ofR w room).fL.length ≤ 9 := fun room => by
    by_cases e1 : room = roomR
    · subst e1; rw [h8]; exact h4.len
    · by_cases e2 : room = roomQ
      · subst e2; rw [h9]; exact h6.len
      · rw [h10 room e1 e2]; simp
  obtain ⟨s, hs⟩ := few8 a4
  obtain ⟨ro, hro, _⟩ := roomOf_ev (i64_of k2)
  obtain ⟨eo, heo⟩ := eventOf_ev (i64_of k3)
  obtain ⟨uo, huo, _⟩ := userOf_ev (i64_of k3)
  obtain ⟨so, hso⟩ := serverOf_ev (i64_of k3)
  have loop : ∀ n x : Nat, 2 - x = n → x ≤ 2 → El (fun k j => concourselaw10_ViewAsks.l0 k a3 (some v, w) s ro j (x : Int)) (.inl (2, false)) := by
    intro n
    induction n with
    | zero =>
      intro x hd hx
      obtain rfl : x = 2 := by omega
      refine El.step (fun _ _ => by rw [concourselaw10_ViewAsks.l0]) ?_
      exact El.cf rfl El.pure
    | succ n ih =>
      intro x hd hx
      have ih2 := ih (x + 1) (by omega) (by omega)
      refine El.step (fun _ _ => by rw [concourselaw10_ViewAsks.l0]) ?_
      rw [rp_inc (show x ≤ 1000000 by omega)]
      generalize strK.at ([ro, s] : List ByteArray) (x : Int) = room
      obtain ⟨m, m1, m2, _⟩ := relV_of h2 room
      have hd9 := hlen room
      have hg := rg_of m2 (by omega)
      have hT := m2.tab
      obtain ⟨us, u1, u2, u3, u4, _⟩ := users_both hg hT (room := room)
      obtain ⟨sv, s1, s2, s3, s4⟩ := servers_both hg hT (room := room)
      have hR : ofR w room = ⟨room, (ofR w room).fL⟩ := by
        have := ofR_room w room
        cases h : ofR w room with
        | mk r l => rw [h] at this; simp only at this; rw [this]
      rw [← hR] at u2 s2
      have pv := fun id => vpos_ev h2 (by omega) room id (by omega)
      have jv : ∀ u, Ev (fun k => view_View_Joined.f k v room u) (isJ (lastR u (allE (tb (ofR w room).fL)) none)) := fun u => by
        unfold view_View_Joined.f; exact Ev.bind (Ev.of m1) (Ev.bind (mjoined_ev hg hT u) Ev.pure)
      have jr : ∀ u, Ev (fun k => concourseref10_Joined.f k w room u) (isJ (lastR u (allE (tb (ofR w room).fL)) none)) := fun u => by
        unfold concourseref10_Joined.f; exact Ev.bind (of_ev (by omega)) (Ev.bind (rjoined_ev hg u) Ev.pure)
      have uv : Ev (fun k => view_View_Users.f k v room) us := by unfold view_View_Users.f; exact Ev.bind (Ev.of m1) (Ev.bind u1 Ev.pure)
      have sv1 : Ev (fun k => view_View_Servers.f k v room) sv := by unfold view_View_Servers.f; exact Ev.bind (Ev.of m1) (Ev.bind s1 Ev.pure)
      have iv : ∀ q, Ev (fun k => view_View_In.f k v room q) (inB sv q) := fun q => by
        unfold view_View_In.f member_In.f
        exact Ev.bind (Ev.of m1) (Ev.bind (Ev.bind s1 (Ev.bind (contains2 (by omega)) Ev.pure)) Ev.pure)
      have hh : ∀ q, Ev (fun k => concourseref09_Has.f k sv q) (inB sv q) := fun q => has2 (by omega)
      refine El.ct (decide_eq_true (by omega)) (El.grd ⟨by omega, by show (x : Int) < 2; omega⟩ ?_)
      refine El.bind (of_ev (w := w) (by omega)).el (El.bind heo.el (El.bind (pv eo).1.el (El.bind heo.el (El.bind (pv eo).2.el (El.bind (pv s).1.el (El.bind (pv s).2.el (El.cf (by simp) (El.cf (by simp) (El.cf (by simp) ?_)))))))))
      refine El.bind uv.el (El.bind u2.el (El.bind (sametexts_refl (by omega)).el (El.cf rfl (El.bind sv1.el (El.bind s2.el (El.bind (sametexts_refl (by omega)).el (El.cf rfl ?_)))))))
      refine El.bind (Ev.of huo).el (El.bind (jv uo).el (El.bind (Ev.of huo).el (El.bind (jr uo).el (El.cf (by simp) (El.bind (jv s).el (El.bind (jr s).el (El.cf (by simp) ?_)))))))
      exact El.bind (Ev.of hso).el (El.bind (iv so).el (El.bind s2.el (El.bind (Ev.of hso).el (El.bind (hh so).el (El.cf (by simp) (El.bind (iv s).el (El.bind s2.el (El.bind (hh s).el (El.cf (by simp) ih2)))))))))
  unfold concourselaw10_ViewAsks.f
  refine Ev.bind h1 (Ev.cf rfl (Ev.bind (Ev.of hs) (Ev.bind (Ev.of hro) (Ev.bind (loop _ 0 rfl (by omega)).diag ?_))))
  simp only [fall]
  exact Ev.bind lives_ev Ev.pure
end Go.Proofs.YtigmkniiojpdiaaGreat
