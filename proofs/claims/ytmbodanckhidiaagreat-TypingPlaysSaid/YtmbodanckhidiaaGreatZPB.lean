/- Plain: what is made may be; any that may be. -/
import Derived.Test.YtmbodanckhidiaaGreatZPN
import Derived.Test.YtmbodanckhidiaaGreatZGM
import Derived.Test.YtmbodanckhidiaaGreatZGK
set_option linter.all false
set_option maxRecDepth 10000
namespace Go.Proofs.YtmbodanckhidiaaGreat
open Go Go.Sp
structure OkE (e : Edu) : Prop where
  kind : e.fKind = 2
  room : namedB e.fRoom 33 = true ∧ e.fRoom.size ≤ 40
  user : namedB e.fUser 64 = true ∧ e.fUser.size ≤ 40
  event : e.fEvent = ⟨#[]⟩
  thread : e.fThread = ⟨#[]⟩
  priv : e.fPrivate = false
  span1 : e.fOn = true → 1 ≤ e.fSpan ∧ e.fSpan ≤ 60
  span0 : e.fOn = false → e.fSpan = 0
  state : e.fState = 0
  tick : 0 ≤ e.fTick ∧ e.fTick ≤ 1099511627776
  stamp : 0 ≤ e.fStamp ∧ e.fStamp ≤ 1099511627776
theorem OkE.sz {e : Edu} (h : OkE e) : Sz e := ⟨h.room.2, h.user.2, by rw [h.event]; decide, by rw [h.thread]; decide⟩
theorem typ_iff {e : Edu} (z : Sz e) (hk : e.fKind = 2) : typB e = true ↔ OkE e := by
  unfold typB okC
  constructor
  · intro h
    simp only [Bool.and_eq_true, Bool.not_eq_true', decide_eq_false_iff_not, decide_eq_true_eq, beq_iff_eq] at h
    obtain ⟨⟨⟨h1, h2, h3⟩, h4, h5⟩, ⟨h6, h7⟩, ⟨⟨h8, h9⟩, h10⟩, h11⟩ := h
    refine ⟨hk, ⟨h6, z.room⟩, ⟨h1, z.user⟩, h8, h9, h11, fun ho => ?_, fun ho => ?_, h10, by omega, by omega⟩
    · rw [ho] at h7; simpa using h7
    · rw [ho] at h7; simpa using h7
  · intro h
    have a := h.tick
    have b := h.stamp
    have c1 : ¬ e.fTick < 0 := by omega
    have c2 : ¬ 1099511627776 < e.fTick := by omega
    have c3 : ¬ e.fStamp < 0 := by omega
    have c4 : ¬ 1099511627776 < e.fStamp := by omega
    cases ho : e.fOn with
    | true => simp [h.user.1, h.room.1, h.event, h.thread, h.state, h.priv, h.span1 ho, c1, c2, c3, c4]
    | false => simp [h.user.1, h.room.1, h.event, h.thread, h.state, h.priv, h.span0 ho, c1, c2, c3, c4]
theorem may_ref {e : Edu} (h : OkE e) : Ev (fun k => concourseref03_May.f k e) true := by
  have := refmay2 h.sz h.kind
  rwa [(typ_iff h.sz h.kind).2 h] at this
theorem may_ev {e : Edu} (h : OkE e) : Ev (fun k => edu_May.f k e) true := by
  have := may2 h.sz h.kind
  rwa [(typ_iff h.sz h.kind).2 h] at this
theorem OkE.sm {e : Edu} (h : OkE e) : Sm e := by
  have z := h.sz
  refine ⟨by rw [h.kind]; decide, by have := z.room; omega, by have := z.user; omega, by rw [h.event]; decide, by rw [h.thread]; decide, ?_, by rw [h.state]; decide, h.tick, h.stamp⟩
  cases ho : e.fOn with
  | true => have := h.span1 ho; omega
  | false => have := h.span0 ho; omega
theorem rooms_named : ∀ r ∈ rooms, namedB r 33 = true ∧ r.size ≤ 40 := by decide +kernel
theorem users_named : ∀ r ∈ users, namedB r 64 = true ∧ r.size ≤ 40 := by decide +kernel
/-- What is made of any. -/
theorem made_ok {a : Edu} (h : Wf a) : ∃ e, OkE e ∧ e.fOn = a.fOn ∧ ∀ k, concourseref14_Made.f k a = some e := by
  obtain ⟨u, hu, mu⟩ := userOf_ev h.state
  obtain ⟨r, hr, mr⟩ := roomOf_ev h.span
  obtain ⟨t, ht, t0, t1⟩ := around_ev (m := 100) h.tick (by decide) (by decide)
  obtain ⟨s, hs, s0, s1⟩ := around_ev (m := 9) h.stamp (by decide) (by decide)
  obtain ⟨p, hp, p0, p1⟩ := around_ev (m := 60) h.span (by decide) (by decide)
  have h1 : concourseref01_Around.f 1 3 = some 1 := rfl
  have e2 : w64 2 = 2 := rfl
  cases ho : a.fOn with
  | true =>
    refine ⟨⟨2, r, u, ⟨#[]⟩, ⟨#[]⟩, false, true, 1 + p, 0, t, s⟩, ⟨rfl, rooms_named _ mr, users_named _ mu, rfl, rfl, rfl, fun _ => ⟨?_, ?_⟩, nofun, rfl, ⟨t0, ?_⟩, ⟨s0, ?_⟩⟩, rfl, fun k => ?_⟩
    · show 1 ≤ 1 + p; omega
    · show 1 + p ≤ 60; omega
    · show t ≤ _; omega
    · show s ≤ _; omega
    · simp [concourseref14_Made.f, concourseref03_Good.f, h1, hu, hr, ht, hs, hp, ho, e2, w64_id (x := 1 + p) (by omega) (by omega)]
  | false =>
    refine ⟨⟨2, r, u, ⟨#[]⟩, ⟨#[]⟩, false, false, 0, 0, t, s⟩, ⟨rfl, rooms_named _ mr, users_named _ mu, rfl, rfl, rfl, nofun, fun _ => rfl, rfl, ⟨t0, ?_⟩, ⟨s0, ?_⟩⟩, rfl, fun k => ?_⟩
    · show t ≤ _; omega
    · show s ≤ _; omega
    · simp [concourseref14_Made.f, concourseref03_Good.f, h1, hu, hr, ht, hs, ho, e2]
/-- The first bytes of a text. -/
theorem few_ev (s : ByteArray) : ∃ r, concourseref01_Few.f s 40 = some r ∧ r.size ≤ 40 := by
  unfold concourseref01_Few.f
  by_cases h : (40 : Int) < (s.size : Int)
  · refine ⟨s.extract 0 40, ?_, by rw [size_ext (by omega)]; omega⟩
    rw [decide_eq_true h]
    simp only [cond_true, grd]
    rw [if_pos ⟨by omega, by decide, by show 40 ≤ _; omega⟩]; rfl
  · exact ⟨s, by rw [decide_eq_false h]; rfl, by omega⟩
theorem fewE_ev (a : Edu) : ∃ e, concourseref03_Few.f a = some e ∧ Sz e := by
  obtain ⟨r, hr, r1⟩ := few_ev a.fRoom
  obtain ⟨u, hu, u1⟩ := few_ev a.fUser
  obtain ⟨v, hv, v1⟩ := few_ev a.fEvent
  obtain ⟨t, ht, t1⟩ := few_ev a.fThread
  exact ⟨_, by unfold concourseref03_Few.f; rw [hr, hu, hv, ht]; rfl, ⟨r1, u1, v1, t1⟩⟩
theorem lives_ev : Ev (fun k => concourselaw14_lives.f k) true := Ev.add 60 fun m => by kernel_rfl
theorem keys_injE {a b : Edu} (ha : OkE a) (hb : OkE b) (h : (a.fRoom ++ (⟨#[32]⟩ : ByteArray)) ++ a.fUser = (b.fRoom ++ (⟨#[32]⟩ : ByteArray)) ++ b.fUser) : a.fRoom = b.fRoom ∧ a.fUser = b.fUser :=
  key_inj (named_nosp (by decide) ha.room.1) (named_nosp (by decide) hb.room.1) h
/-- One that may not be is refused by both. -/
theorem not_ok {e : Edu} (z : Sz e) (hn : ¬ OkE e) (w : TRef) (t : TTab) : Ev (fun k => concourseref14_Put.f k w e) (w, false, 1) ∧ Ev (fun k => typing_Table_Put.f k t e) (false, 1, t) := by
  by_cases hk : e.fKind = 2
  · have hb : typB e = false := by cases h : typB e with | false => rfl | true => exact absurd ((typ_iff z hk).1 h) hn
    have k2 : (e.fKind != 2) = false := by rw [hk]; rfl
    have h1 := refmay2 z hk
    have h2 := may2 z hk
    rw [hb] at h1 h2
    constructor
    · unfold concourseref14_Put.f
      exact Ev.bind h1 (Ev.cf k2 (Ev.ct rfl Ev.pure))
    · unfold typing_Table_Put.f
      exact Ev.cf k2 (Ev.bind h2 (Ev.ct rfl Ev.pure))
  · have k2 : (e.fKind != 2) = true := by simpa using hk
    obtain ⟨_, b, _, h1⟩ := refmay_ev z
    constructor
    · unfold concourseref14_Put.f
      exact Ev.bind h1 (Ev.ct k2 Ev.pure)
    · unfold typing_Table_Put.f
      exact Ev.ct k2 Ev.pure
end Go.Proofs.YtmbodanckhidiaaGreat
