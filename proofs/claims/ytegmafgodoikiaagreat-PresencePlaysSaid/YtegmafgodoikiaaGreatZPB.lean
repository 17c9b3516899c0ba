/- Plain: what is made may be; any that may be. -/
import Derived.Test.YtegmafgodoikiaaGreatZPN
import Derived.Test.YtegmafgodoikiaaGreatZGM
set_option linter.all false
set_option maxRecDepth 10000
namespace Go.Proofs.YtegmafgodoikiaaGreat
open Go Go.Sp
structure OkE (e : Edu) : Prop where
  kind : e.fKind = 3
  room : e.fRoom = ⟨#[]⟩
  user : namedB e.fUser 64 = true ∧ e.fUser.size ≤ 40
  event : e.fEvent = ⟨#[]⟩
  thread : e.fThread = ⟨#[]⟩
  priv : e.fPrivate = false
  on : e.fOn = false
  span : e.fSpan = 0
  state : 0 ≤ e.fState ∧ e.fState < 3
  tick : 0 ≤ e.fTick ∧ e.fTick ≤ 1099511627776
  stamp : 0 ≤ e.fStamp ∧ e.fStamp ≤ 1099511627776
theorem OkE.sz {e : Edu} (h : OkE e) : Sz e := ⟨by rw [h.room]; decide, h.user.2, by rw [h.event]; decide, by rw [h.thread]; decide⟩
theorem pre_iff {e : Edu} (z : Sz e) (hk : e.fKind = 3) : preB e = true ↔ OkE e := by
  unfold preB okC
  constructor
  · intro h
    simp only [Bool.and_eq_true, Bool.not_eq_true', decide_eq_false_iff_not, decide_eq_true_eq, beq_iff_eq] at h
    obtain ⟨⟨⟨h1, h2, h3⟩, h4, h5⟩, ⟨⟨⟨h6, h7⟩, h8⟩, ⟨h9, h10⟩, h11⟩, h12, h13⟩ := h
    exact ⟨hk, h6, ⟨h1, z.user⟩, h7, h8, h11, h9, h10, by omega, by omega, by omega⟩
  · intro h
    have a := h.tick
    have b := h.stamp
    have c := h.state
    have c1 : ¬ e.fTick < 0 := by omega
    have c2 : ¬ 1099511627776 < e.fTick := by omega
    have c3 : ¬ e.fStamp < 0 := by omega
    have c4 : ¬ 1099511627776 < e.fStamp := by omega
    have c5 : e.fState ≤ 2 := by omega
    simp [h.user.1, h.room, h.event, h.thread, h.priv, h.on, h.span, c.1, c1, c2, c3, c4, c5]
theorem may_ref {e : Edu} (h : OkE e) : Ev (fun k => concourseref03_May.f k e) true := by
  have := refmay3 h.sz h.kind
  rwa [(pre_iff h.sz h.kind).2 h] at this
theorem may_ev {e : Edu} (h : OkE e) : Ev (fun k => edu_May.f k e) true := by
  have := may3 h.sz h.kind
  rwa [(pre_iff h.sz h.kind).2 h] at this
theorem OkE.sm {e : Edu} (h : OkE e) : Sm e := by
  have z := h.sz
  have c := h.state
  exact ⟨by rw [h.kind]; decide, by have := z.room; omega, by have := z.user; omega, by rw [h.event]; decide, by rw [h.thread]; decide, by rw [h.span]; decide, by omega, h.tick, h.stamp⟩
theorem users_named : ∀ r ∈ users, namedB r 64 = true ∧ r.size ≤ 40 := by decide +kernel
/-- What is made of any. -/
theorem made_ok {a : Edu} (h : Wf a) : ∃ e, OkE e ∧ ∀ k, concourseref15_Made.f k a = some e := by
  obtain ⟨u, hu, mu⟩ := userOf_ev h.state
  obtain ⟨t, ht, t0, t1⟩ := around_ev (m := 100) h.tick (by decide) (by decide)
  obtain ⟨s, hs, s0, s1⟩ := around_ev (m := 9) h.stamp (by decide) (by decide)
  obtain ⟨p, hp, p0, p1⟩ := around_ev (m := 3) h.span (by decide) (by decide)
  have h1 : concourseref01_Around.f 2 3 = some 2 := rfl
  have e2 : w64 3 = 3 := rfl
  refine ⟨⟨3, ⟨#[]⟩, u, ⟨#[]⟩, ⟨#[]⟩, false, false, 0, p, t, s⟩, ⟨rfl, rfl, users_named _ mu, rfl, rfl, rfl, rfl, rfl, ⟨p0, p1⟩, ⟨t0, ?_⟩, ⟨s0, ?_⟩⟩, fun k => ?_⟩
  · show t ≤ _; omega
  · show s ≤ _; omega
  · simp [concourseref15_Made.f, concourseref03_Good.f, h1, hu, ht, hs, hp, e2]
/-- The first bytes of a text. -/
theorem few_ev (s : ByteArray) : ∃ r, concourseref01_Few.f s 40 = some r ∧ r.size ≤ 40 := by
  unfold concourseref01_Few.f
  by_cases h : (40 : Int) < (s.size : Int)
  · refine ⟨s.extract 0 40, ?_, by rw [size_ext (by omega)]; omega⟩
    rw [decide_eq_true h]
    simp only [cond_true, grd]
    rw [if_pos ⟨by omega, by decide, by show 40 ≤ _; omega⟩]; rfl
  · exact ⟨s, by rw [decide_eq_false h]; rfl, by omega⟩
theorem fewE_ev (a : Edu) : ∃ e, concourseref03_Few.f a = some e ∧ Sz e := by
  obtain ⟨r, hr, r1⟩ := few_ev a.fRoom
  obtain ⟨u, hu, u1⟩ := few_ev a.fUser
  obtain ⟨v, hv, v1⟩ := few_ev a.fEvent
  obtain ⟨t, ht, t1⟩ := few_ev a.fThread
  exact ⟨_, by unfold concourseref03_Few.f; rw [hr, hu, hv, ht]; rfl, ⟨r1, u1, v1, t1⟩⟩
theorem lives_ev : Ev (fun k => concourselaw15_lives.f k) true := Ev.add 60 fun m => by kernel_rfl
/-- One that may not be is refused by both. -/
theorem not_ok {e : Edu} (z : Sz e) (hn : ¬ OkE e) (w : TRef) (t : PTab) : Ev (fun k => concourseref15_Put.f k w e) (w, false, 1) ∧ Ev (fun k => presence_Table_Put.f k t e) (false, 1, t) := by
  by_cases hk : e.fKind = 3
  · have hb : preB e = false := by cases h : preB e with | false => rfl | true => exact absurd ((pre_iff z hk).1 h) hn
    have k2 : (e.fKind != 3) = false := by rw [hk]; rfl
    have h1 := refmay3 z hk
    have h2 := may3 z hk
    rw [hb] at h1 h2
    constructor
    · unfold concourseref15_Put.f
      exact Ev.bind h1 (Ev.cf k2 (Ev.ct rfl Ev.pure))
    · unfold presence_Table_Put.f
      exact Ev.cf k2 (Ev.bind h2 (Ev.ct rfl Ev.pure))
  · have k2 : (e.fKind != 3) = true := by simpa using hk
    obtain ⟨_, b, _, h1⟩ := refmay_ev z
    constructor
    · unfold concourseref15_Put.f
      exact Ev.bind h1 (Ev.ct k2 Ev.pure)
    · unfold presence_Table_Put.f
      exact Ev.ct k2 Ev.pure
end Go.Proofs.YtegmafgodoikiaaGreat
