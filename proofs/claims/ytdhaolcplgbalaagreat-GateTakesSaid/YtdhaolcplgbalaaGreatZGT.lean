/- Plain: what the gate's laws begin with; to which servers an EDU goes, as the document's. -/
import Derived.Test.YtdhaolcplgbalaaGreatZGS
set_option linter.all false
set_option maxRecDepth 10000
namespace Go.Proofs.YtdhaolcplgbalaaGreat
open Go Go.Sp
theorem gbuild {a0 a1 : List GMade} (k0 : a0.length ≤ maxLen ∧ ∀ x ∈ a0, GMade.ok x) (k1 : a1.length ≤ maxLen ∧ ∀ x ∈ a1, GMade.ok x) :
    ∃ v w, Ev (fun k => concourselaw16_build.f k a0 a1) (some v, w) ∧ RelV v w ∧ w.fD.length ≤ 50 ∧ ∀ room, (ofR w room).fL.length ≤ 1000 := by
  obtain ⟨v, w, A, B, h1, h2, h3, h4, h5, h6, h7, h8, h9, h10⟩ := build_ev k0 k1
  refine ⟨v, w, h1, h2, by omega, fun room => ?_⟩
  by_cases e1 : room = roomR
  · subst e1; rw [h8]; have := h4.len; show A.length ≤ _; omega
  · by_cases e2 : room = roomQ
    · subst e2; rw [h9]; have := h6.len; show B.length ≤ _; omega
    · rw [h10 room e1 e2]; simp
section
variable {v : VView} {w : RView} (hr : RelV v w) (hl : w.fD.length ≤ 50) (hd : ∀ room, (ofR w room).fL.length ≤ 1000)
include hr hl hd
theorem reach_ev {e : Edu} (z : Zz e) : ∃ b P, P.length ≤ 100000 ∧ Ev (fun k => gate_reached.f k v e) (cond b P []) ∧ (e.fPrivate = true → b = false) ∧
    (∃ S, Ev (fun k => concourseref10_Servers.f k w e.fRoom) S ∧ Ev (fun k => cond (e.fKind == 3) ((concourseref10_Peers.f k w e.fUser).bind fun t => some t) (some S)) P) ∧
    ∀ to, Ev (fun k => gate_Passes.f k v to e) (b && inB P to) ∧ Ev (fun k => concourseref16_Passes.f k w to e) (b && inB P to) := by
  obtain ⟨b, l1, l2, l3⟩ := may_both z
  obtain ⟨S, s1, s2, _, s3⟩ := sv hr hl hd e.fRoom
  obtain ⟨Q, p1, p2, p3⟩ := peers_both hr hl hd e.fUser
  unfold gate_Passes.f gate_reached.f concourseref16_Passes.f
  cases k3 : e.fKind == 3 with
  | true =>
    refine ⟨b, Q, p3, ?_, l3, ⟨S, s2, Ev.ct rfl (Ev.bind p2 Ev.pure)⟩, fun to => ?_⟩
    · cases b with
      | false => exact Ev.bind l1 Ev.pure
      | true => exact Ev.bind l1 (Ev.cf rfl (Ev.ct rfl (Ev.bind p1 Ev.pure)))
    · cases b with
      | false => exact ⟨Ev.bind (a := []) (Ev.bind l1 Ev.pure) (Ev.bind (contains2 (l := []) (by simp)) Ev.pure), Ev.bind l2 Ev.pure⟩
      | true => exact ⟨Ev.bind (a := Q) (Ev.bind l1 (Ev.cf rfl (Ev.ct rfl (Ev.bind p1 Ev.pure)))) (Ev.bind (contains2 p3) Ev.pure), Ev.bind l2 (Ev.cf rfl (Ev.ct rfl (Ev.bind p2 (Ev.bind (has2 p3) Ev.pure))))⟩
  | false =>
    refine ⟨b, S, by omega, ?_, l3, ⟨S, s2, Ev.cf rfl Ev.pure⟩, fun to => ?_⟩
    · cases b with
      | false => exact Ev.bind l1 Ev.pure
      | true => exact Ev.bind l1 (Ev.cf rfl (Ev.cf rfl (Ev.bind s1 Ev.pure)))
    · cases b with
      | false => exact ⟨Ev.bind (a := []) (Ev.bind l1 Ev.pure) (Ev.bind (contains2 (l := []) (by simp)) Ev.pure), Ev.bind l2 Ev.pure⟩
      | true => exact ⟨Ev.bind (a := S) (Ev.bind l1 (Ev.cf rfl (Ev.cf rfl (Ev.bind s1 Ev.pure)))) (Ev.bind (contains2 (by omega)) Ev.pure), Ev.bind l2 (Ev.cf rfl (Ev.cf rfl (Ev.bind s2 (Ev.bind (has2 (by omega)) Ev.pure))))⟩
theorem targets1_ev (self : ByteArray) {e : Edu} {L : List ByteArray} (hL : L.length ≤ 100000) (h : Ev (fun k => gate_reached.f k v e) L) : Ev (fun k => gate_Targets.f k v self e) (L.filter fun x => !decide (x = self)) := by
  have h2 := deleteF_ev (p := fun k x => gate_Targets_1.f x self) (b := fun x => decide (x = self)) (fun x => Ev.of rfl) hL
  unfold gate_Targets.f
  exact Ev.bind h (Ev.bind h2 Ev.pure)
theorem targets2_ev (self : ByteArray) {e : Edu} {b : Bool} {P S : List ByteArray} (hP : P.length ≤ 100000) (hS : Ev (fun k => concourseref10_Servers.f k w e.fRoom) S) (hQ : Ev (fun k => cond (e.fKind == 3) ((concourseref10_Peers.f k w e.fUser).bind fun t => some t) (some S)) P)
    (hp : ∀ to, Ev (fun k => concourseref16_Passes.f k w to e) (b && inB P to)) : Ev (fun k => concourseref16_Targets.f k w self e) ((cond b P []).filter fun x => !decide (x = self)) := by
  have key : ∀ n x : Nat, P.length - x = n → x ≤ P.length → ∀ out : List ByteArray, out.length ≤ x → El (fun k j => concourseref16_Targets.l0 k w self e P j (x : Int) out) ((P.length : Int), false, out ++ (cond b (P.drop x) []).filter fun x => !decide (x = self)) := by
    intro n
    induction n with
    | zero =>
      intro x hn hx out ho
      obtain rfl : x = P.length := by omega
      refine El.step (fun _ _ => by rw [concourseref16_Targets.l0]) ?_
      rw [List.drop_length]
      exact El.cf (by simp) (by cases b <;> simpa using El.pure)
    | succ n ih =>
      intro x hn hx out ho
      have hx2 : x < P.length := by omega
      have hin : inB P (P.getD x default) = true := inB_iff.2 (getD_mem hx2)
      have hpx := hp (P.getD x default)
      rw [hin, Bool.and_true] at hpx
      have hdr : P.drop x = P.getD x default :: P.drop (x + 1) := drop_at hx2
      refine El.step (fun _ _ => by rw [concourseref16_Targets.l0]) ?_
      rw [rp_inc (show x ≤ 1000000 by omega), Int.toNat_natCast]
      refine El.ct (decide_eq_true (by omega)) (El.grd ⟨by omega, by omega⟩ (El.bind hpx.el ?_))
      cases b with
      | false => exact ih (x + 1) (by omega) (by omega) out (by omega)
      | true =>
        rw [hdr]
        by_cases he : P.getD x default = self
        · refine El.ct rfl (El.grd ⟨by omega, by omega⟩ (El.cf (by rw [decide_eq_true he]; rfl) ?_))
          have := ih (x + 1) (by omega) (by omega) out (by omega)
          simp only [cond_true, List.filter_cons, he, decide_true, Bool.not_true] at this ⊢
          exact this
        · refine El.ct rfl (El.grd ⟨by omega, by omega⟩ (El.ct (by rw [decide_eq_false he]; rfl) (El.grd ⟨by omega, by omega⟩ (El.grd ⟨by rw [List.length_singleton]; omega, by rw [List.length_singleton]; omega⟩ ?_))))
          have := ih (x + 1) (by omega) (by omega) (out ++ [P.getD x default]) (by rw [List.length_append, List.length_singleton]; omega)
          simp only [cond_true, List.filter_cons, decide_eq_false he, Bool.not_false, if_true] at this ⊢
          rw [List.append_assoc] at this
          exact this
  unfold concourseref16_Targets.f
  exact Ev.bind hS (Ev.bind hQ (Ev.bind (key _ 0 rfl (by omega) [] (by simp)).diag (Ev.of (by rw [List.drop_zero]; rfl))))
theorem targets_both (self : ByteArray) {e : Edu} (z : Zz e) : ∃ l, Ev (fun k => gate_Targets.f k v self e) l ∧ Ev (fun k => concourseref16_Targets.f k w self e) l ∧ l.length ≤ 100000 := by
  obtain ⟨b, P, hP, h1, _, ⟨S, hS, hQ⟩, hp⟩ := reach_ev hr hl hd z
  have hc : (cond b P []).length ≤ 100000 := by cases b <;> simp [hP]
  exact ⟨_, targets1_ev hr hl hd self hc h1, targets2_ev hr hl hd self hP hS hQ fun to => (hp to).2, Nat.le_trans (List.length_filter_le _ _) hc⟩
end
end Go.Proofs.YtdhaolcplgbalaaGreat
