/- Plain: whether an EDU may be, of any EDU. -/
import Derived.Test.YtmbodanckhidiaaGreatZVB
import Derived.Test.YtmbodanckhidiaaGreatZPC
set_option linter.all false
set_option maxRecDepth 10000
namespace Go.Proofs.YtmbodanckhidiaaGreat
open Go Go.Sp
structure Sz (e : Edu) : Prop where
  room : e.fRoom.size ≤ 40
  user : e.fUser.size ≤ 40
  event : e.fEvent.size ≤ 40
  thread : e.fThread.size ≤ 40
theorem cond_some' {α : Type} {c : Bool} {a b : α} : cond c (some a) (some b) = some (cond c a b) := by cases c <;> rfl
def okC (e : Edu) : Bool := namedB e.fUser 64 && (!decide (e.fTick < 0) && !decide (1099511627776 < e.fTick)) && (!decide (e.fStamp < 0) && !decide (1099511627776 < e.fStamp))
def typB (e : Edu) : Bool := okC e && (namedB e.fRoom 33 && cond e.fOn (decide (1 ≤ e.fSpan) && decide (e.fSpan ≤ 60)) (e.fSpan == 0) && (decide (e.fEvent = ⟨#[]⟩) && decide (e.fThread = ⟨#[]⟩) && (e.fState == 0) && !e.fPrivate))
def preB (e : Edu) : Bool := okC e && ((decide (e.fRoom = ⟨#[]⟩) && decide (e.fEvent = ⟨#[]⟩) && decide (e.fThread = ⟨#[]⟩)) && (!e.fOn && (e.fSpan == 0) && !e.fPrivate) && (decide (0 ≤ e.fState) && decide (e.fState ≤ 2)))
theorem thread_ex {s : ByteArray} (hs : s.size ≤ maxLen) : ∃ b, Ev (fun k => concourseref01_Thread.f k s) b := by
  unfold concourseref01_Thread.f
  by_cases h1 : s = (⟨#[]⟩ : ByteArray)
  · exact ⟨_, Ev.bind (event2 hs) (Ev.ct (decide_eq_true h1) Ev.pure)⟩
  · by_cases h2 : s = (⟨#[109, 97, 105, 110]⟩ : ByteArray)
    · exact ⟨_, Ev.bind (event2 hs) (Ev.cf (decide_eq_false h1) (Ev.ct (decide_eq_true h2) Ev.pure))⟩
    · exact ⟨_, Ev.bind (event2 hs) (Ev.cf (decide_eq_false h1) (Ev.cf (decide_eq_false h2) Ev.pure))⟩
theorem ml40 {n : Nat} (h : n ≤ 40) : n ≤ maxLen := Nat.le_trans h (by decide)
theorem ex_cond {c : Bool} {x y : Option Bool} (hx : ∃ b, x = some b) (hy : ∃ b, y = some b) : ∃ b, cond c x y = some b := by cases c; exact hy; exact hx
/-- What the document says of the parts. -/
def refL (e : Edu) (u r v t : Bool) : Option Bool := (cond (!u) (some false) (cond (decide (e.fTick < 0)) (some false) (cond (decide (1099511627776 < e.fTick)) (some false) (cond (decide (e.fStamp < 0)) (some false) (cond (decide (1099511627776 < e.fStamp)) (some false) (cond (e.fKind == 1) (cond r (cond v (cond t (cond (!e.fOn) (cond (e.fSpan == 0) (some (e.fState == 0)) (some false)) (some false)) (some false)) (some false)) (some false)) (cond (e.fKind == 2) (cond e.fOn (cond (decide (1 ≤ e.fSpan)) (cond (decide (e.fSpan ≤ 60)) (cond r (cond (decide (e.fEvent = (⟨#[]⟩ : ByteArray))) (cond (decide (e.fThread = (⟨#[]⟩ : ByteArray))) (cond (e.fState == 0) (some (!e.fPrivate)) (some false)) (some false)) (some false)) (some false)) (cond (!e.fOn) (cond r (cond (e.fSpan == 0) (cond (decide (e.fEvent = (⟨#[]⟩ : ByteArray))) (cond (decide (e.fThread = (⟨#[]⟩ : ByteArray))) (cond (e.fState == 0) (some (!e.fPrivate)) (some false)) (some false)) (some false)) (some false)) (some false)) (cond r (some false) (some false)))) (cond (!e.fOn) (cond r (cond (e.fSpan == 0) (cond (decide (e.fEvent = (⟨#[]⟩ : ByteArray))) (cond (decide (e.fThread = (⟨#[]⟩ : ByteArray))) (cond (e.fState == 0) (some (!e.fPrivate)) (some false)) (some false)) (some false)) (some false)) (some false)) (cond r (some false) (some false)))) (cond (!e.fOn) (cond r (cond (e.fSpan == 0) (cond (decide (e.fEvent = (⟨#[]⟩ : ByteArray))) (cond (decide (e.fThread = (⟨#[]⟩ : ByteArray))) (cond (e.fState == 0) (some (!e.fPrivate)) (some false)) (some false)) (some false)) (some false)) (some false)) (cond r (some false) (some false)))) (cond (e.fKind == 3) (cond (decide (e.fRoom = (⟨#[]⟩ : ByteArray))) (cond (decide (e.fEvent = (⟨#[]⟩ : ByteArray))) (cond (decide (e.fThread = (⟨#[]⟩ : ByteArray))) (cond (!e.fOn) (cond (e.fSpan == 0) (cond (!e.fPrivate) (cond (decide (0 ≤ e.fState)) (some (decide (e.fState ≤ 2))) (some false)) (some false)) (some false)) (some false)) (some false)) (some false)) (some false)) (some false)))))))))
theorem refL_ex (e : Edu) (u r v t : Bool) : ∃ b, refL e u r v t = some b := by
  unfold refL
  repeat' (first | exact ⟨_, rfl⟩ | refine ex_cond ?_ ?_)
theorem refmay_ev {e : Edu} (z : Sz e) : ∃ t b, refL e (namedB e.fUser 64) (namedB e.fRoom 33) (eventB e.fEvent) t = some b ∧ Ev (fun k => concourseref03_May.f k e) (cond b (!e.fPrivate) false) := by
  obtain ⟨t, ht⟩ := thread_ex (ml40 z.thread)
  obtain ⟨b, hb⟩ := refL_ex e (namedB e.fUser 64) (namedB e.fRoom 33) (eventB e.fEvent) t
  refine ⟨t, b, hb, ?_⟩
  unfold concourseref03_May.f concourseref03_Local.f
  refine Ev.bind (Ev.bind (named2 (c := 64) (by decide) (ml40 z.user)) (Ev.bind (named2 (c := 33) (by decide) (ml40 z.room)) (Ev.bind (event2 (ml40 z.event)) (Ev.bind ht (Ev.of hb))))) ?_
  cases b <;> exact Ev.pure
theorem refmay2 {e : Edu} (z : Sz e) (hk : e.fKind = 2) : Ev (fun k => concourseref03_May.f k e) (typB e) := by
  obtain ⟨t, b, hb, h⟩ := refmay_ev z
  have e1 : cond b (!e.fPrivate) false = typB e := by
    have k1 : (e.fKind == 1) = false := by rw [hk]; rfl
    have k2 : (e.fKind == 2) = true := by rw [hk]; rfl
    unfold refL at hb
    rw [k1, k2] at hb
    unfold typB okC
    simp only [cond_some', Option.some.injEq] at hb
    rw [← hb]
    generalize namedB e.fUser 64 = a1
    generalize namedB e.fRoom 33 = a2
    generalize decide (e.fTick < 0) = a3
    generalize decide (1099511627776 < e.fTick) = a4
    generalize decide (e.fStamp < 0) = a5
    generalize decide (1099511627776 < e.fStamp) = a6
    generalize decide (e.fEvent = (⟨#[]⟩ : ByteArray)) = a7
    generalize decide (e.fThread = (⟨#[]⟩ : ByteArray)) = a8
    generalize (e.fState == 0) = a9
    generalize (e.fSpan == 0) = a10
    generalize decide (1 ≤ e.fSpan) = a11
    generalize decide (e.fSpan ≤ 60) = a12
    generalize e.fPrivate = a13
    generalize e.fOn = a14
    cases a1 <;> cases a3 <;> cases a4 <;> cases a5 <;> cases a6 <;> try rfl
    cases a2 <;> cases a7 <;> cases a8 <;> cases a9 <;> cases a14 <;> try rfl
    all_goals (cases a10 <;> cases a11 <;> cases a12 <;> cases a13 <;> rfl)
  rw [← e1]; exact h
theorem refmay3 {e : Edu} (z : Sz e) (hk : e.fKind = 3) : Ev (fun k => concourseref03_May.f k e) (preB e) := by
  obtain ⟨t, b, hb, h⟩ := refmay_ev z
  have e1 : cond b (!e.fPrivate) false = preB e := by
    have k1 : (e.fKind == 1) = false := by rw [hk]; rfl
    have k2 : (e.fKind == 2) = false := by rw [hk]; rfl
    have k3 : (e.fKind == 3) = true := by rw [hk]; rfl
    unfold refL at hb
    rw [k1, k2, k3] at hb
    unfold preB okC
    simp only [cond_some', Option.some.injEq] at hb
    rw [← hb]
    generalize namedB e.fUser 64 = a1
    generalize decide (e.fRoom = (⟨#[]⟩ : ByteArray)) = a2
    generalize decide (e.fTick < 0) = a3
    generalize decide (1099511627776 < e.fTick) = a4
    generalize decide (e.fStamp < 0) = a5
    generalize decide (1099511627776 < e.fStamp) = a6
    generalize decide (e.fEvent = (⟨#[]⟩ : ByteArray)) = a7
    generalize decide (e.fThread = (⟨#[]⟩ : ByteArray)) = a8
    generalize decide (0 ≤ e.fState) = a9
    generalize (e.fSpan == 0) = a10
    generalize decide (e.fState ≤ 2) = a12
    generalize e.fPrivate = a13
    generalize e.fOn = a14
    cases a1 <;> cases a3 <;> cases a4 <;> cases a5 <;> cases a6 <;> try rfl
    cases a2 <;> cases a7 <;> cases a8 <;> cases a9 <;> cases a14 <;> try rfl
    all_goals (cases a10 <;> cases a12 <;> cases a13 <;> rfl)
  rw [← e1]; exact h
theorem dle {x y : Int} : decide (x ≤ y) = !decide (y < x) := by
  rw [Bool.eq_iff_iff]; simp
/-- The program's, of a typing one. -/
theorem may2 {e : Edu} (z : Sz e) (hk : e.fKind = 2) : Ev (fun k => edu_May.f k e) (typB e) := by
  obtain ⟨n1, h1⟩ := nroom1 (ml40 z.room)
  obtain ⟨n2, h2⟩ := nuser1 (ml40 z.user)
  refine ⟨max n1 n2, fun k hk' => ?_⟩
  have r := h1 k (by omega)
  have u := h2 k (by omega)
  obtain ⟨K, ro, us, ev, th, pr, on, sp, st, ti, sm⟩ := e
  simp only at hk r u
  subst hk
  have e4 : fK_api_Edu_bool.at [edu_asks_2.f, edu_asks_3.f k, fun a0_ => edu_asks_4.f k a0_ edu_asks_1.f, fun a0_ => edu_asks_5.f a0_ edu_asks_1.f] 2 = fun a0_ => edu_asks_4.f k a0_ edu_asks_1.f := rfl
  have eq1 : ∀ (s : Int), decide ((⟨2, ro, us, ev, th, pr, on, sp, st, ti, sm⟩ : Edu) = ⟨2, ro, us, ⟨#[]⟩, ⟨#[]⟩, false, on, s, 0, ti, sm⟩) = ((decide (ev = ⟨#[]⟩) && decide (th = ⟨#[]⟩) && (st == 0) && !pr) && (sp == s)) := fun s => by
    rw [Bool.eq_iff_iff]
    simp only [decide_eq_true_eq, Edu.mk.injEq, true_and, and_true, Bool.and_eq_true, beq_iff_eq, Bool.not_eq_true']
    constructor
    · rintro ⟨h1, h2, h3, h4, h5⟩; exact ⟨⟨⟨⟨h1, h2⟩, h5⟩, h3⟩, h4⟩
    · rintro ⟨⟨⟨⟨h1, h2⟩, h5⟩, h3⟩, h4⟩; exact ⟨h1, h2, h3, h4, h5⟩
  have g1 : (0 : Int) ≤ 2 ∧ (2 : Int) < (([edu_asks_2.f, edu_asks_3.f k, fun a0_ => edu_asks_4.f k a0_ edu_asks_1.f, fun a0_ => edu_asks_5.f a0_ edu_asks_1.f] : List (Edu → Option Bool)).length : Int) := ⟨by decide, by simp⟩
  have d1 : decide ((2 : Int) < 0) = false := rfl
  have d2 : decide ((3 : Int) < 2) = false := rfl
  have d3 : ((2 : Int) == 1) = false := rfl
  have d4 : ((2 : Int) == 2) = true := rfl
  simp only [edu_May.f, edu_Local.f, edu_asks.f, Option.bind_some, d1, d2, cond_false]
  simp only [e4, grd]
  rw [if_pos g1]
  simp only [Option.bind_some, edu_asks_4.f, r, edu_named.f, edu_Local_1.f, edu_asks_1.f, d1, d2, d3, d4, cond_true, cond_false]
  unfold typB okC
  simp only [dle]
  cases on with
  | true =>
    simp only [cond_true, eq1, beq_self_eq_true, Bool.and_true, Bool.not_true, Option.bind_some, u]
    generalize namedB us 64 = a1
    generalize namedB ro 33 = a2
    generalize decide (ti < 0) = a3
    generalize decide (1099511627776 < ti) = a4
    generalize decide (sm < 0) = a5
    generalize decide (1099511627776 < sm) = a6
    generalize decide (ev = (⟨#[]⟩ : ByteArray)) = a7
    generalize decide (th = (⟨#[]⟩ : ByteArray)) = a8
    generalize (st == 0) = a9
    generalize decide (sp < 1) = a11
    generalize decide (60 < sp) = a12
    cases a2 <;> cases a11 <;> cases a12 <;> cases a1 <;> cases a7 <;> cases a8 <;> cases a9 <;> cases pr <;> try rfl
    all_goals (cases a3 <;> cases a4 <;> cases a5 <;> cases a6 <;> rfl)
  | false =>
    simp only [cond_false, eq1, Bool.and_true, Bool.not_false, Option.bind_some, u]
    generalize namedB us 64 = a1
    generalize namedB ro 33 = a2
    generalize decide (ti < 0) = a3
    generalize decide (1099511627776 < ti) = a4
    generalize decide (sm < 0) = a5
    generalize decide (1099511627776 < sm) = a6
    generalize decide (ev = (⟨#[]⟩ : ByteArray)) = a7
    generalize decide (th = (⟨#[]⟩ : ByteArray)) = a8
    generalize (st == 0) = a9
    generalize (sp == 0) = a10
    cases a2 <;> cases a10 <;> cases a1 <;> cases a7 <;> cases a8 <;> cases a9 <;> cases pr <;> try rfl
    all_goals (cases a3 <;> cases a4 <;> cases a5 <;> cases a6 <;> rfl)
/-- The program's, of a presence one. -/
theorem may3 {e : Edu} (z : Sz e) (hk : e.fKind = 3) : Ev (fun k => edu_May.f k e) (preB e) := by
  obtain ⟨n2, h2⟩ := nuser1 (ml40 z.user)
  refine ⟨n2, fun k hk' => ?_⟩
  have u := h2 k (by omega)
  obtain ⟨K, ro, us, ev, th, pr, on, sp, st, ti, sm⟩ := e
  simp only at hk u
  subst hk
  have e4 : fK_api_Edu_bool.at [edu_asks_2.f, edu_asks_3.f k, fun a0_ => edu_asks_4.f k a0_ edu_asks_1.f, fun a0_ => edu_asks_5.f a0_ edu_asks_1.f] 3 = fun a0_ => edu_asks_5.f a0_ edu_asks_1.f := rfl
  have eq1 : decide ((⟨3, ro, us, ev, th, pr, on, sp, st, ti, sm⟩ : Edu) = ⟨3, ⟨#[]⟩, us, ⟨#[]⟩, ⟨#[]⟩, false, false, 0, st, ti, sm⟩) = ((decide (ro = ⟨#[]⟩) && decide (ev = ⟨#[]⟩) && decide (th = ⟨#[]⟩)) && (!on && (sp == 0) && !pr)) := by
    rw [Bool.eq_iff_iff]
    simp only [decide_eq_true_eq, Edu.mk.injEq, true_and, and_true, Bool.and_eq_true, beq_iff_eq, Bool.not_eq_true']
    constructor
    · rintro ⟨h0, h1, h2, h3, h4, h5⟩; exact ⟨⟨⟨h0, h1⟩, h2⟩, ⟨h4, h5⟩, h3⟩
    · rintro ⟨⟨⟨h0, h1⟩, h2⟩, ⟨h4, h5⟩, h3⟩; exact ⟨h0, h1, h2, h3, h4, h5⟩
  have g1 : (0 : Int) ≤ 3 ∧ (3 : Int) < (([edu_asks_2.f, edu_asks_3.f k, fun a0_ => edu_asks_4.f k a0_ edu_asks_1.f, fun a0_ => edu_asks_5.f a0_ edu_asks_1.f] : List (Edu → Option Bool)).length : Int) := ⟨by decide, by simp⟩
  have d1 : decide ((3 : Int) < 0) = false := rfl
  have d2 : decide ((3 : Int) < 3) = false := rfl
  have d3 : ((3 : Int) == 1) = false := rfl
  have d4 : ((3 : Int) == 2) = false := rfl
  have d5 : ((3 : Int) == 3) = true := rfl
  simp only [edu_May.f, edu_Local.f, edu_asks.f, Option.bind_some, d1, d2, cond_false]
  simp only [e4, grd]
  rw [if_pos g1]
  simp only [Option.bind_some, edu_asks_5.f, edu_named.f, edu_Local_1.f, edu_asks_1.f, d1, d2, d3, d4, d5, cond_true, cond_false, eq1, u]
  unfold preB okC
  simp only [dle]
  generalize namedB us 64 = a1
  generalize decide (ro = (⟨#[]⟩ : ByteArray)) = a2
  generalize decide (ti < 0) = a3
  generalize decide (1099511627776 < ti) = a4
  generalize decide (sm < 0) = a5
  generalize decide (1099511627776 < sm) = a6
  generalize decide (ev = (⟨#[]⟩ : ByteArray)) = a7
  generalize decide (th = (⟨#[]⟩ : ByteArray)) = a8
  generalize (sp == 0) = a9
  generalize decide (st < 0) = a11
  generalize decide (2 < st) = a12
  cases a11 <;> cases a12 <;> cases a2 <;> cases a1 <;> cases a7 <;> cases a8 <;> cases a9 <;> cases pr <;> cases on <;> try rfl
  all_goals (cases a3 <;> cases a4 <;> cases a5 <;> cases a6 <;> rfl)
end Go.Proofs.YtmbodanckhidiaaGreat
