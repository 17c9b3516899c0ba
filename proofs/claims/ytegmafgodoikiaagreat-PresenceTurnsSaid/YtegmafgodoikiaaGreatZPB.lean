/- Plain: what is made may be. -/
import Derived.Test.YtegmafgodoikiaaGreatZPN
import Derived.Test.YtegmafgodoikiaaGreatZPC
set_option linter.all false
set_option maxRecDepth 10000
namespace Go.Proofs.YtegmafgodoikiaaGreat
open Go Go.Sp
structure OkE (e : Edu) : Prop where
  kind : e.fKind = 3
  room : e.fRoom = ⟨#[]⟩
  user : e.fUser ∈ users
  event : e.fEvent = ⟨#[]⟩
  thread : e.fThread = ⟨#[]⟩
  priv : e.fPrivate = false
  on : e.fOn = false
  span : e.fSpan = 0
  state : 0 ≤ e.fState ∧ e.fState < 3
  tick : 0 ≤ e.fTick ∧ e.fTick < 100
  stamp : 0 ≤ e.fStamp ∧ e.fStamp < 9
/-- What is made of any. -/
theorem made_ok {a : Edu} (h : Wf a) : ∃ e, OkE e ∧ ∀ k, concourseref15_Made.f k a = some e := by
  obtain ⟨u, hu, mu⟩ := userOf_ev h.state
  obtain ⟨t, ht, t0, t1⟩ := around_ev (m := 100) h.tick (by decide) (by decide)
  obtain ⟨s, hs, s0, s1⟩ := around_ev (m := 9) h.stamp (by decide) (by decide)
  obtain ⟨p, hp, p0, p1⟩ := around_ev (m := 3) h.span (by decide) (by decide)
  have h1 : concourseref01_Around.f 2 3 = some 2 := rfl
  have e2 : w64 3 = 3 := rfl
  refine ⟨⟨3, ⟨#[]⟩, u, ⟨#[]⟩, ⟨#[]⟩, false, false, 0, p, t, s⟩, ⟨rfl, rfl, mu, rfl, rfl, rfl, rfl, rfl, ⟨p0, p1⟩, ⟨t0, t1⟩, ⟨s0, s1⟩⟩, fun k => ?_⟩
  simp [concourseref15_Made.f, concourseref03_Good.f, h1, hu, ht, hs, hp, e2]
theorem room0 (m : Nat) : concourseref01_Named.f (m + 20) ⟨#[]⟩ 33 = some false := by kernel_rfl
theorem may_ref {e : Edu} (h : OkE e) : Ev (fun k => concourseref03_May.f k e) true := Ev.add 20 fun m => by
  obtain ⟨K, r, u, ev, th, pr, on, sp, st, ti, sm⟩ := e
  obtain ⟨h1, h2, h3, h4, h5, h6, h7, h8, h9, h10, h11⟩ := h
  simp only at h1 h2 h3 h4 h5 h6 h7 h8 h9 h10 h11
  subst h1 h2 h4 h5 h6 h7 h8
  have k1 : ¬ ti < 0 := by omega
  have k2 : ¬ 1099511627776 < ti := by omega
  have k3 : ¬ sm < 0 := by omega
  have k4 : ¬ 1099511627776 < sm := by omega
  have k5 : 0 ≤ st := by omega
  have k6 : st ≤ 2 := by omega
  simp only [concourseref03_May.f, concourseref03_Local.f, room0, user2 u h3 m, event0, thread0]
  simp [k1, k2, k3, k4, k5, k6]
theorem may_ev {e : Edu} (h : OkE e) : Ev (fun k => edu_May.f k e) true := Ev.add 20 fun m => by
  obtain ⟨K, r, u, ev, th, pr, on, sp, st, ti, sm⟩ := e
  obtain ⟨h1, h2, h3, h4, h5, h6, h7, h8, h9, h10, h11⟩ := h
  simp only at h1 h2 h3 h4 h5 h6 h7 h8 h9 h10 h11
  subst h1 h2 h4 h5 h6 h7 h8
  have k1 : 0 ≤ ti := by omega
  have k2 : ti ≤ 1099511627776 := by omega
  have k3 : 0 ≤ sm := by omega
  have k4 : sm ≤ 1099511627776 := by omega
  have k5 : 0 ≤ st := by omega
  have k6 : st ≤ 2 := by omega
  have e4 : fK_api_Edu_bool.at [edu_asks_2.f, edu_asks_3.f (m + 20), fun a0_ => edu_asks_4.f (m + 20) a0_ edu_asks_1.f, fun a0_ => edu_asks_5.f a0_ edu_asks_1.f] 3 = fun a0_ => edu_asks_5.f a0_ edu_asks_1.f := rfl
  simp only [edu_May.f, edu_Local.f, edu_asks.f, Option.bind_some]
  simp only [e4]
  simp only [Option.bind_some, edu_asks_5.f, user1 u h3 m, edu_named.f, edu_Local_1.f, edu_asks_1.f]
  simp [grd, k1, k2, k3, k4, k5, k6]
theorem lives_ev : Ev (fun k => concourselaw15_lives.f k) true := Ev.add 60 fun m => by kernel_rfl
theorem OkE.sm {e : Edu} (h : OkE e) : Sm e := by
  obtain ⟨h1, h2, h3, h4, h5, h6, h7, h8, h9, h10, h11⟩ := h
  refine ⟨by omega, by rw [h2]; decide, ?_, by rw [h4]; decide, by rw [h5]; decide, by omega, by omega, by omega, by omega⟩
  have : ∀ r ∈ users, r.size < 128 := by decide
  exact this _ h3
end Go.Proofs.YtegmafgodoikiaaGreat
