/- Plain: a later EDU that is not On ends it at once, an earlier one does nothing. -/
import Derived.Test.YtmbodanckhidiaaZPK
set_option linter.all false
set_option maxRecDepth 10000
namespace Go.Proofs.Ytmbodanckhidiaa
open Go Go.Sp
theorem at_nil {e : Edu} {p : Nat} (h : At [] e p) : p = 0 := by have := h.le; simpa using this
theorem at_one {x e : Edu} {p : Nat} (h : At [x] e p) (hs : same x e) : p = 0 := by
  have h1 := h.le
  rcases Nat.eq_zero_or_pos p with h2 | h2
  · exact h2
  · exact absurd hs (ltK_not_same (h.lo 0 h2))
theorem cmpE_zero_of {a b : Edu} (h : cmpE a b = 0) : a.fStamp = b.fStamp ∧ ofNums (eduB a) = ofNums (eduB b) := by
  unfold cmpE at h
  by_cases h1 : a.fStamp < b.fStamp
  · simp [h1] at h
  · by_cases h2 : b.fStamp < a.fStamp
    · simp [h1, h2] at h
    · simp only [if_neg h1, if_neg h2] at h
      exact ⟨by omega, cmpS_eq.1 h⟩
theorem next_eq (t : TTab) : ∃ n, typing_Table_Next.f t = some (n, decide (t.fends.fl ≠ [])) := by
  unfold typing_Table_Next.f heap_Heap_First.f
  cases h : t.fends.fl with
  | nil => exact ⟨0, rfl⟩
  | cons x l =>
    refine ⟨x.fAt, ?_⟩
    have e1 : (((x :: l).length : Int) == 0) = false := by
      simp; omega
    rw [e1]
    simp only [cond_false, grd]
    rw [if_pos ⟨by decide, by simp⟩]
    simp
theorem TypingStops_pure (a0 : Edu) (a1 : Int) (a2 : Int) (a3 : Int) (k0 : Edu.ok a0) (k1 : (fun n => (Lit.int .i64 n).wf = true) a1) (k2 : (fun n => (Lit.int .i64 n).wf = true) a2) (k3 : (fun n => (Lit.int .i64 n).wf = true) a3) : ∃ k, concourselaw14_TypingStops.f k a0 a1 a2 a3 = some true := by
  have hw0 := wf_of k0
  have hw : Wf (⟨a0.fKind, a0.fRoom, a0.fUser, a0.fEvent, a0.fThread, a0.fPrivate, true, a0.fSpan, a0.fState, a0.fTick, a0.fStamp⟩ : Edu) := ⟨hw0.kind, hw0.span, hw0.state, hw0.tick, hw0.stamp⟩
  obtain ⟨x, hx, hon, hm⟩ := made_ok hw
  simp only at hon
  obtain ⟨s, hs, s0, s1⟩ := around_ev (m := 9) (i64_of k1) (by decide) (by decide)
  obtain ⟨r, hr, r0, r1⟩ := around_ev (m := 9) (i64_of k2) (by decide) (by decide)
  have X : OkE (⟨x.fKind, x.fRoom, x.fUser, x.fEvent, x.fThread, x.fPrivate, x.fOn, x.fSpan, x.fState, x.fTick, s⟩ : Edu) := ⟨hx.kind, hx.room, hx.user, hx.event, hx.thread, hx.priv, hx.span1, hx.span0, hx.state, hx.tick, ⟨s0, s1⟩⟩
  have Y : OkE (⟨x.fKind, x.fRoom, x.fUser, x.fEvent, x.fThread, x.fPrivate, false, 0, x.fState, x.fTick, r⟩ : Edu) := ⟨hx.kind, hx.room, hx.user, hx.event, hx.thread, hx.priv, nofun, fun _ => rfl, hx.state, hx.tick, ⟨r0, r1⟩⟩
  have hspan := hx.span1 hon
  have htick := hx.tick
  generalize hX : (⟨x.fKind, x.fRoom, x.fUser, x.fEvent, x.fThread, x.fPrivate, x.fOn, x.fSpan, x.fState, x.fTick, s⟩ : Edu) = xx at X
  generalize hY : (⟨x.fKind, x.fRoom, x.fUser, x.fEvent, x.fThread, x.fPrivate, false, 0, x.fState, x.fTick, r⟩ : Edu) = yy at Y
  have xr : xx.fRoom = x.fRoom := by rw [← hX]
  have xu : xx.fUser = x.fUser := by rw [← hX]
  have yr : yy.fRoom = x.fRoom := by rw [← hY]
  have yu : yy.fUser = x.fUser := by rw [← hY]
  have xo : xx.fOn = true := by rw [← hX]; exact hon
  have yo : yy.fOn = false := by rw [← hY]
  have hsame : same xx yy := ⟨xr.trans yr.symm, xu.trans yu.symm⟩
  obtain ⟨p, hp, _, t1, q1, R1⟩ := put_both rel_new (by omega) X
  obtain rfl := at_nil hp
  have o1 : old ([] : List Edu) xx 0 = false := decide_eq_false (fun h => by simp at h)
  have n1 : newZ [] xx 0 = [(xx, false)] := by simp [newZ]
  rw [show (List.map (fun q : Edu × Bool => q.1) []) = ([] : List Edu) from rfl, o1] at q1 R1
  rw [if_neg (by simp), n1] at R1
  obtain ⟨p, hp, _, t2, q2, R2⟩ := put_both R1 (by omega) Y
  rw [show (List.map (fun q : Edu × Bool => q.1) [(xx, false)]) = [xx] from rfl] at hp q2 R2
  obtain rfl := at_one hp hsame
  have cy := refcmp_ev Y.sm X.sm
  have hcut : cut [xx] yy 0 = 1 := if_pos ⟨by simp, hsame⟩
  have n2 : newZ [(xx, false)] yy 0 = [(yy, false)] := by
    unfold newZ
    rw [show (List.map (fun q : Edu × Bool => q.1) [(xx, false)]) = [xx] from rfl, hcut]; rfl
  rw [n2] at R2
  have ho : old [xx] yy 0 = !decide (0 < cmpE yy xx) := by
    unfold old
    by_cases h : 0 < cmpE yy xx
    · rw [decide_eq_true h]
      exact decide_eq_false (fun k => by have : cmpE yy xx ≤ 0 := k.2.2; omega)
    · rw [decide_eq_false h]
      exact decide_eq_true ⟨by simp, hsame, by show cmpE yy xx ≤ 0; omega⟩
  rw [ho] at q2 R2
  obtain ⟨nx, hnx⟩ := next_eq t2
  have hall : t2.fl.length = 1 := by
    rw [R2.fl]; split <;> rfl
  have hall2 : typing_Table_All.f t2 = some t2.fl := all_eq (by omega)
  obtain ⟨b, v1, v2, _⟩ := types_val (L := (if (!decide (0 < cmpE yy xx)) = true then [(xx, false)] else [(yy, false)]).map (·.1)) (T := []) (h := t2.fends) (by split <;> simp) R2.srt x.fRoom x.fUser a3
  have ht : t2 = ⟨(if (!decide (0 < cmpE yy xx)) = true then [(xx, false)] else [(yy, false)]).map (·.1), t2.fends⟩ := by rw [← R2.fl]
  rw [← ht] at v2
  have H : Ev (fun k => concourselaw14_TypingStops.f k a0 a1 a2 a3) true := by
    unfold concourselaw14_TypingStops.f
    refine Ev.bind ⟨0, fun k _ => hm k⟩ (Ev.bind (Ev.of hs) (Ev.bind (Ev.of hr) (Ev.bind (Ev.of new_eq) ?_)))
    rw [hX, hY]
    refine Ev.bind q1 (Ev.bind q2 (Ev.bind cy (Ev.bind v2 (Ev.bind (Ev.of hnx) (Ev.ct rfl (Ev.ct (by simp) ?_))))))
    by_cases h : 0 < cmpE yy xx
    · rw [decide_eq_true h] at R2 v1 ⊢
      have hb : b = false := by
        rcases v1 with ⟨z, z1, _, _, z4⟩ | ⟨_, z2⟩
        · have : z = yy := by simpa using z1
          rw [z4, this, yo]; rfl
        · exact z2
      have hends : t2.fends.fl = [] := by
        apply List.eq_nil_iff_forall_not_mem.2
        intro z hz
        obtain ⟨q, z1, z2, z3, _⟩ := (R2.cont z).1 hz
        have : q = (yy, false) := by simpa using z1
        rw [this, yo] at z3; cases z3
      rw [hb, hends]
      exact Ev.cf rfl (Ev.ct rfl (Ev.ct (by simp) (Ev.bind (Ev.of hall2) (Ev.ct (by rw [hall]; rfl) (Ev.bind lives_ev Ev.pure)))))
    · rw [decide_eq_false h] at R2 v1 ⊢
      have hb : b = decide (a3 < w64 (x.fTick + x.fSpan)) := by
        rcases v1 with ⟨z, z1, _, _, z4⟩ | ⟨z1, _⟩
        · have : z = xx := by simpa using z1
          rw [z4, this, xo, Bool.true_and, ← hX]
        · exact absurd ⟨xr, xu⟩ (z1 xx (by simp))
      have hends : t2.fends.fl ≠ [] := by
        intro hz
        have := (R2.cont (entOf xx)).2 ⟨(xx, false), by simp, rfl, xo, rfl⟩
        rw [hz] at this; cases this
      rw [hb, decide_eq_true hends]
      exact Ev.ct rfl (Ev.ct (by simp) (Ev.ct rfl (Ev.bind (Ev.of hall2) (Ev.ct (by rw [hall]; rfl) (Ev.bind lives_ev Ev.pure)))))
  exact H.ex
end Go.Proofs.Ytmbodanckhidiaa
