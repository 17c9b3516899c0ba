/- Plain: what is made may be. -/
import Derived.Test.YtmbodanckhidiaaGreatZPN
import Derived.Test.YtmbodanckhidiaaGreatZPC
set_option linter.all false
set_option maxRecDepth 10000
namespace Go.Proofs.YtmbodanckhidiaaGreat
open Go Go.Sp
structure OkE (e : Edu) : Prop where
  kind : e.fKind = 2
  room : e.fRoom ∈ rooms
  user : e.fUser ∈ users
  event : e.fEvent = ⟨#[]⟩
  thread : e.fThread = ⟨#[]⟩
  priv : e.fPrivate = false
  span1 : e.fOn = true → 1 ≤ e.fSpan ∧ e.fSpan ≤ 60
  span0 : e.fOn = false → e.fSpan = 0
  state : e.fState = 0
  tick : 0 ≤ e.fTick ∧ e.fTick < 100
  stamp : 0 ≤ e.fStamp ∧ e.fStamp < 9
/-- What is made of any. -/
theorem made_ok {a : Edu} (h : Wf a) : ∃ e, OkE e ∧ e.fOn = a.fOn ∧ ∀ k, concourseref14_Made.f k a = some e := by
  obtain ⟨u, hu, mu⟩ := userOf_ev h.state
  obtain ⟨r, hr, mr⟩ := roomOf_ev h.span
  obtain ⟨t, ht, t0, t1⟩ := around_ev (m := 100) h.tick (by decide) (by decide)
  obtain ⟨s, hs, s0, s1⟩ := around_ev (m := 9) h.stamp (by decide) (by decide)
  obtain ⟨p, hp, p0, p1⟩ := around_ev (m := 60) h.span (by decide) (by decide)
  have h1 : concourseref01_Around.f 1 3 = some 1 := rfl
  have e2 : w64 2 = 2 := rfl
  cases ho : a.fOn with
  | true =>
    refine ⟨⟨2, r, u, ⟨#[]⟩, ⟨#[]⟩, false, true, 1 + p, 0, t, s⟩, ⟨rfl, mr, mu, rfl, rfl, rfl, fun _ => ⟨?_, ?_⟩, nofun, rfl, ⟨t0, t1⟩, ⟨s0, s1⟩⟩, rfl, fun k => ?_⟩
    · show 1 ≤ 1 + p; omega
    · show 1 + p ≤ 60; omega
    · simp [concourseref14_Made.f, concourseref03_Good.f, h1, hu, hr, ht, hs, hp, ho, e2, w64_id (x := 1 + p) (by omega) (by omega)]
  | false =>
    refine ⟨⟨2, r, u, ⟨#[]⟩, ⟨#[]⟩, false, false, 0, 0, t, s⟩, ⟨rfl, mr, mu, rfl, rfl, rfl, nofun, fun _ => rfl, rfl, ⟨t0, t1⟩, ⟨s0, s1⟩⟩, rfl, fun k => ?_⟩
    simp [concourseref14_Made.f, concourseref03_Good.f, h1, hu, hr, ht, hs, ho, e2]
theorem may_ref {e : Edu} (h : OkE e) : Ev (fun k => concourseref03_May.f k e) true := Ev.add 20 fun m => by
  obtain ⟨K, r, u, ev, th, pr, on, sp, st, ti, sm⟩ := e
  obtain ⟨h1, h2, h3, h4, h5, h6, h7, h8, h9, h10, h11⟩ := h
  simp only at h1 h2 h3 h4 h5 h6 h7 h8 h9 h10 h11
  subst h1 h4 h5 h6 h9
  have k1 : ¬ ti < 0 := by omega
  have k2 : ¬ 1099511627776 < ti := by omega
  have k3 : ¬ sm < 0 := by omega
  have k4 : ¬ 1099511627776 < sm := by omega
  simp only [concourseref03_May.f, concourseref03_Local.f, room2 r h2 m, user2 u h3 m, event0, thread0]
  cases on with
  | true => obtain ⟨a, b⟩ := h7 rfl; simp [k1, k2, k3, k4, a, b]
  | false => obtain a := h8 rfl; simp [k1, k2, k3, k4, a]
theorem may_ev {e : Edu} (h : OkE e) : Ev (fun k => edu_May.f k e) true := Ev.add 20 fun m => by
  obtain ⟨K, r, u, ev, th, pr, on, sp, st, ti, sm⟩ := e
  obtain ⟨h1, h2, h3, h4, h5, h6, h7, h8, h9, h10, h11⟩ := h
  simp only at h1 h2 h3 h4 h5 h6 h7 h8 h9 h10 h11
  subst h1 h4 h5 h6 h9
  have k1 : 0 ≤ ti := by omega
  have k2 : ti ≤ 1099511627776 := by omega
  have k3 : 0 ≤ sm := by omega
  have k4 : sm ≤ 1099511627776 := by omega
  have e4 : fK_api_Edu_bool.at [edu_asks_2.f, edu_asks_3.f (m + 20), fun a0_ => edu_asks_4.f (m + 20) a0_ edu_asks_1.f, fun a0_ => edu_asks_5.f a0_ edu_asks_1.f] 2 = fun a0_ => edu_asks_4.f (m + 20) a0_ edu_asks_1.f := rfl
  simp only [edu_May.f, edu_Local.f, edu_asks.f, Option.bind_some]
  simp only [e4]
  simp only [Option.bind_some, edu_asks_4.f, room1 r h2 m, user1 u h3 m, edu_named.f, edu_Local_1.f, edu_asks_1.f]
  cases on with
  | true => obtain ⟨a, b⟩ := h7 rfl; simp [grd, k1, k2, k3, k4, a, b]
  | false => obtain a := h8 rfl; simp [grd, k1, k2, k3, k4, a]
theorem lives_ev : Ev (fun k => concourselaw14_lives.f k) true := Ev.add 60 fun m => by kernel_rfl
theorem OkE.sm {e : Edu} (h : OkE e) : Sm e := by
  obtain ⟨h1, h2, h3, h4, h5, h6, h7, h8, h9, h10, h11⟩ := h
  refine ⟨by omega, ?_, ?_, by rw [h4]; decide, by rw [h5]; decide, ?_, by omega, by omega, by omega⟩
  · have : ∀ r ∈ rooms, r.size < 128 := by decide
    exact this _ h2
  · have : ∀ r ∈ users, r.size < 128 := by decide
    exact this _ h3
  · cases ho : e.fOn with
    | true => have := h7 ho; omega
    | false => have := h8 ho; omega
end Go.Proofs.YtmbodanckhidiaaGreat
