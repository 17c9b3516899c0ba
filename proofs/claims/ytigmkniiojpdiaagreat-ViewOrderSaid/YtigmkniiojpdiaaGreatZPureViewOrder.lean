/- Plain: in whatever row events come, views are the same. -/
import Derived.Test.YtigmkniiojpdiaaGreatZWS
set_option linter.all false
set_option maxRecDepth 10000
namespace Go.Proofs.YtigmkniiojpdiaaGreat
open Go Go.Sp
section
variable {F : ByteArray → List Event} (hF : ∀ room, Chain room (F room)) (hFl : ∀ room, (F room).length ≤ 9) (hS : ∀ room, F room ≠ [] → room ∈ [roomR, roomQ])
include hF hFl hS
/-- How far back in the list an event of a room stands. -/
def pl (F : ByteArray → List Event) (room : ByteArray) (r : Nat) : Nat := if room = roomR then r else (F roomR).length + r
theorem at_l {x : Nat} (hx : x < (F roomR ++ F roomQ).length) : ∃ room i, i < (F room).length ∧ (F roomR ++ F roomQ).getD x default = ev (F room) i ∧ pl F room i = x ∧ (room = roomR ∨ room = roomQ) := by
  rw [List.length_append] at hx
  by_cases h : x < (F roomR).length
  · refine ⟨roomR, x, h, ?_, by unfold pl; rw [if_pos rfl], .inl rfl⟩
    unfold ev
    rw [List.getD_eq_getElem?_getD, List.getD_eq_getElem?_getD, List.getElem?_append_left h]
  · refine ⟨roomQ, x - (F roomR).length, by omega, ?_, by unfold pl; rw [if_neg (show roomQ ≠ roomR by decide)]; omega, .inr rfl⟩
    unfold ev
    rw [List.getD_eq_getElem?_getD, List.getD_eq_getElem?_getD, List.getElem?_append_right (by omega)]
theorem vround {r : Nat} : ∀ x : Nat, x ≤ (F roomR ++ F roomQ).length → ∀ v w, VS F v w → (∀ room j, j < r → j < (F room).length → ev (F room) j ∈ (ofR w room).fL) → (∀ room, r < (F room).length → x ≤ pl F room r → ev (F room) r ∈ (ofR w room).fL) →
    ∃ v' w', El (fun k j => concourselaw10_ViewOrder.l1 k (F roomR ++ F roomQ) j ((x : Int) - 1) v) (.inl (-1, false, v')) ∧ VS F v' w' ∧ ∀ room j, j < r + 1 → j < (F room).length → ev (F room) j ∈ (ofR w' room).fL := by
  intro x
  induction x with
  | zero =>
    intro hx v w hv h1 h2
    refine ⟨v, w, ?_, hv, fun room j hj hj2 => ?_⟩
    · refine El.step (fun _ _ => by rw [concourselaw10_ViewOrder.l1]) ?_
      exact El.cf rfl El.pure
    · rcases Nat.lt_or_ge j r with k | k
      · exact h1 room j k hj2
      · obtain rfl : j = r := by omega
        exact h2 room hj2 (Nat.zero_le _)
  | succ x ih =>
    intro hx v w hv h1 h2
    have hx2 : x < (F roomR ++ F roomQ).length := by omega
    have hll : (F roomR ++ F roomQ).length ≤ 18 := by rw [List.length_append]; have := hFl roomR; have := hFl roomQ; omega
    obtain ⟨room, i, hi, he, hpl, hrq⟩ := at_l hF hFl hS hx2
    obtain ⟨c, v1, w1, a1, a2, a3, a4, a5⟩ := vs_add hF hFl hS (by simp) hv hi
    obtain ⟨v', w', b1, b2⟩ := ih (by omega) v1 w1 a3 (fun ro j h3 h4 => a4 _ _ (h1 ro j h3 h4)) (fun ro h3 h4 => by
      by_cases e : x = pl F ro r
      · -- this is the one
        have hro : ro = roomR ∨ ro = roomQ := by
          have := hS ro (fun h0 => by rw [h0] at h3; simp at h3)
          simpa using this
        have hne : roomQ ≠ roomR := by decide
        have hsame : ro = room ∧ i = r := by
          unfold pl at hpl e
          rcases hro with rfl | rfl <;> rcases hrq with rfl | rfl
          · rw [if_pos rfl] at hpl e; exact ⟨rfl, by omega⟩
          · rw [if_pos rfl] at e; rw [if_neg hne] at hpl; omega
          · rw [if_neg hne] at e; rw [if_pos rfl] at hpl; omega
          · rw [if_neg hne] at hpl e; exact ⟨rfl, by omega⟩
        obtain ⟨e1, e2⟩ := hsame
        subst e1 e2
        exact a5 fun j hj => h1 ro j hj (by omega)
      · exact a4 _ _ (h2 ro h3 (by omega)))
    refine ⟨v', w', ?_, b2⟩
    have e1 : (((x + 1 : Nat) : Int) - 1) = (x : Int) := by omega
    rw [e1]
    refine El.step (fun _ _ => by rw [concourselaw10_ViewOrder.l1]) ?_
    rw [Int.toNat_natCast, he, w64_id (x := (x : Int) - 1) (by omega) (by omega)]
    refine El.ct (decide_eq_true (by omega)) (El.grd ⟨by omega, by omega⟩ (El.bind a1.el ?_))
    rcases a2 with rfl | rfl | rfl
    · exact El.cf rfl b1
    · exact El.ct rfl (El.ct rfl (El.cf rfl b1))
    · exact El.ct rfl (El.cf rfl b1)
theorem vrounds : ∀ n r : Nat, 9 - r = n → r ≤ 9 → ∀ v w, VS F v w → (∀ room j, j < r → j < (F room).length → ev (F room) j ∈ (ofR w room).fL) →
    ∃ v' w', El (fun k j => concourselaw10_ViewOrder.l0 k (F roomR ++ F roomQ) j (r : Int) v) (.inl (9, false, v')) ∧ VS F v' w' ∧ ∀ room j, j < 9 → j < (F room).length → ev (F room) j ∈ (ofR w' room).fL := by
  intro n
  induction n with
  | zero =>
    intro r hd hr v w hv h1
    obtain rfl : r = 9 := by omega
    refine ⟨v, w, ?_, hv, h1⟩
    refine El.step (fun _ _ => by rw [concourselaw10_ViewOrder.l0]) ?_
    exact El.cf rfl El.pure
  | succ n ih =>
    intro r hd hr v w hv h1
    have hll : (F roomR ++ F roomQ).length ≤ 18 := by rw [List.length_append]; have := hFl roomR; have := hFl roomQ; omega
    obtain ⟨v1, w1, a1, a2, a3⟩ := vround hF hFl hS (r := r) (F roomR ++ F roomQ).length (Nat.le_refl _) v w hv h1 (fun room h3 h4 => by
      exfalso
      unfold pl at h4
      rw [List.length_append] at h4
      split at h4
      · rename_i e; rw [e] at h3; omega
      · rename_i e
        have := hS room (fun h0 => by rw [h0] at h3; simp at h3)
        have : room = roomQ := by simp at this; exact this.resolve_left e
        rw [this] at h3
        omega)
    obtain ⟨v', w', b1, b2⟩ := ih (r + 1) (by omega) (by omega) v1 w1 a2 a3
    refine ⟨v', w', ?_, b2⟩
    refine El.step (fun _ _ => by rw [concourselaw10_ViewOrder.l0]) ?_
    rw [rp_inc (show r ≤ 1000000 by omega), w64_id (x := ((F roomR ++ F roomQ).length : Int) - 1) (by omega) (by omega)]
    exact El.ct (decide_eq_true (by omega)) (El.bind a1.diag.el b1)
end
theorem lives_ev : Ev (fun k => concourselaw10_lives.f k) true := Ev.add 40 fun m => by kernel_rfl
theorem ViewOrder_pure (a0 : List GMade) (a1 : List GMade) (k0 : (fun xs : List GMade => xs.length ≤ maxLen ∧ ∀ x ∈ xs, GMade.ok x) a0) (k1 : (fun xs : List GMade => xs.length ≤ maxLen ∧ ∀ x ∈ xs, GMade.ok x) a1) : ∃ k, concourselaw10_ViewOrder.f k a0 a1 = some true := by
  suffices h : Ev (fun k => concourselaw10_ViewOrder.f k a0 a1) true from h.ex
  obtain ⟨v, w, A, B, h1, h2, h3, h4, h5, h6, h7, h8, h9, h10, hmade⟩ := build_ev2 k0 k1
  have hne : roomQ ≠ roomR := by decide
  obtain ⟨F, hFd⟩ : ∃ F : ByteArray → List Event, F = fun room => (ofR w room).fL := ⟨_, rfl⟩
  have fR : F roomR = A := by rw [hFd]; show (ofR w roomR).fL = A; rw [h8]
  have fQ : F roomQ = B := by rw [hFd]; show (ofR w roomQ).fL = B; rw [h9]
  have fO : ∀ room, room ≠ roomR → room ≠ roomQ → F room = [] := fun room e1 e2 => by rw [hFd]; show (ofR w room).fL = []; rw [h10 room e1 e2]
  have hF : ∀ room, Chain room (F room) := fun room => by
    by_cases e1 : room = roomR
    · subst e1; rw [fR]; exact h5
    · by_cases e2 : room = roomQ
      · subst e2; rw [fQ]; exact h7
      · rw [fO room e1 e2]; exact fun i hi => by simp at hi
  have hFl : ∀ room, (F room).length ≤ 9 := fun room => by
    by_cases e1 : room = roomR
    · subst e1; rw [fR]; exact h4.len
    · by_cases e2 : room = roomQ
      · subst e2; rw [fQ]; exact h6.len
      · rw [fO room e1 e2]; simp
  have hS : ∀ room, F room ≠ [] → room ∈ [roomR, roomQ] := fun room h => by
    by_cases e1 : room = roomR
    · simp [e1]
    · by_cases e2 : room = roomQ
      · simp [e2]
      · exact absurd (fO room e1 e2) h
  have h0 : ∀ room, ofR (⟨[]⟩ : RView) room = ⟨room, []⟩ := fun room => by simp [ofR]
  obtain ⟨x, z, b1, b2, b3⟩ := vrounds hF hFl hS _ 0 rfl (by omega) ⟨[]⟩ ⟨[]⟩ ⟨relV_new, fun room e he => (by rw [h0] at he; cases he), fun room i hi => (by rw [h0] at hi; simp at hi)⟩ (fun room j hj => by omega)
  rw [fR, fQ] at b1
  obtain ⟨l1, l2⟩ := vs_len hF hFl hS (by simp) b2
  have hm : ∀ room e, e ∈ (ofR z room).fL ↔ e ∈ (ofR w room).fL := fun room e => by
    have hw : (ofR w room).fL = F room := by rw [hFd]
    rw [hw]
    exact ⟨b2.sub room e, fun he => by obtain ⟨i, hi, rfl⟩ := mem_ev he; exact b3 room i (by have := hFl room; omega) hi⟩
  have hwl : ∀ room, (ofR w room).fL.length ≤ 1000 := fun room => by have := hFl room; rw [hFd] at this; exact Nat.le_trans this (by omega)
  have hzl : ∀ room, (ofR z room).fL.length ≤ 1000 := fun room => by have := l2 room; omega
  have hgw : ∀ room, Good (ofR w room).fL := fun room => by have := chain_good (hF room); rw [hFd] at this; exact this
  have hA : ∀ room, allE (tb (ofR z room).fL) = allE (tb (ofR w room).fL) := fun room => allE_same (hgw room) (chain_good (b2.ch room)) (hm room)
  have hR : rms z = rms w := srtT_ext b2.rel.srt h2.srt fun room => by
    rw [rms_iff b2.rel, rms_iff h2]
    have hh := hm room
    constructor
    · intro k q
      cases hL : (ofR z room).fL with
      | nil => exact k hL
      | cons e l => have := (hh e).1 (by rw [hL]; exact List.mem_cons_self ..); rw [q] at this; cases this
    · intro k q
      cases hL : (ofR w room).fL with
      | nil => exact k hL
      | cons e l => have := (hh e).2 (by rw [hL]; exact List.mem_cons_self ..); rw [q] at this; cases this
  have s1 := same_true h2 b2.rel (by omega) (by omega) hR hwl hzl hA
  have s2 := same_true b2.rel h2 (by omega) (by omega) hR.symm hzl hwl (fun room => (hA room).symm)
  unfold concourselaw10_ViewOrder.f
  refine Ev.bind h1 (Ev.bind (Ev.of rfl) (Ev.cf rfl (Ev.bind hmade (Ev.bind b1.diag ?_))))
  simp only [fall]
  exact Ev.bind s1 (Ev.ct rfl (Ev.bind s2 (Ev.ct rfl (Ev.bind lives_ev Ev.pure))))
end Go.Proofs.YtigmkniiojpdiaaGreat
