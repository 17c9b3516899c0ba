/- Plain: how one is there, as the document tells. -/
import Derived.Test.YtegmafgodoikiaaGreatZPJ
set_option linter.all false
set_option maxRecDepth 10000
namespace Go.Proofs.YtegmafgodoikiaaGreat
open Go Go.Sp
theorem of_eq {e : Edu} (h : OkE e) (at_ : Int) : concourseref15_Of.f e at_ = some (stateV e at_) := by
  have h1 := h.state
  have h2 := h.tick
  have w1 : w64 (e.fTick + 30) = e.fTick + 30 := w64_id (by omega) (by omega)
  have w2 : w64 (e.fTick + 90) = e.fTick + 90 := w64_id (by omega) (by omega)
  unfold concourseref15_Of.f stateV
  rw [w1, w2]
  have h3 : e.fState = 0 ∨ e.fState = 1 ∨ e.fState = 2 := by omega
  rcases h3 with h3 | h3 | h3 <;> rw [h3] <;> by_cases a : at_ < e.fTick + 30 <;> by_cases b : at_ < e.fTick + 90 <;> simp [a, b]
section
variable {L : List Edu} {T : List Int} {user : ByteArray} {at_ : Int}
theorem refstate_val (hb : L.length ≤ 100000) (ok : ∀ x ∈ L, OkE x) (user : ByteArray) (at_ : Int) : ∃ b, Val L user at_ b ∧ Ev (fun k => concourseref15_State.f k ⟨L, T⟩ user at_) b := by
  have key : ∀ d m : Nat, L.length - m ≤ d → m ≤ L.length → (∀ i, i < m → (L.getD i default).fUser ≠ user) → (∃ b, Val L user at_ b ∧ El (fun k j => concourseref15_State.l0 k ⟨L, T⟩ user at_ j (m : Int)) (.inr b)) ∨ (Val L user at_ 0 ∧ El (fun k j => concourseref15_State.l0 k ⟨L, T⟩ user at_ j (m : Int)) (.inl ((L.length : Int), false))) := by
    intro d
    induction d with
    | zero =>
      intro m hd hm hno
      obtain rfl : m = L.length := by omega
      have : ¬ ((L.length : Int) < (L.length : Int)) := by omega
      refine .inr ⟨.inr ⟨fun x hx => ?_, rfl⟩, ?_⟩
      · obtain ⟨i, i1, rfl⟩ := mem_get default hx
        exact hno i i1
      · refine El.step (fun _ _ => by rw [concourseref15_State.l0]) ?_
        dsimp only
        rw [decide_eq_false this]
        exact El.cf rfl El.pure
    | succ d ih =>
      intro m hd hm hno
      by_cases hlt : m < L.length
      · by_cases hu : (L.getD m default).fUser = user
        · refine .inl ⟨stateV (L.getD m default) at_, .inl ⟨_, getD_mem hlt, hu, rfl⟩, ?_⟩
          refine El.step (fun _ _ => by rw [concourseref15_State.l0]) ?_
          simp only [at_nat]
          exact El.ct (decide_eq_true (by omega)) (El.grd ⟨by omega, by omega⟩ (El.ct (decide_eq_true hu) (El.grd ⟨by omega, by omega⟩ (El.bind (Ev.el (Ev.of (of_eq (ok _ (getD_mem hlt)) at_))) El.pure))))
        · have step : ∀ {v}, El (fun k j => concourseref15_State.l0 k ⟨L, T⟩ user at_ j ((m + 1 : Nat) : Int)) v → El (fun k j => concourseref15_State.l0 k ⟨L, T⟩ user at_ j (m : Int)) v := fun G => by
            refine El.step (fun _ _ => by rw [concourseref15_State.l0]) ?_
            simp only [inc_nat (show m ≤ 1000000 by omega), at_nat]
            exact El.ct (decide_eq_true (by omega)) (El.grd ⟨by omega, by omega⟩ (El.cf (decide_eq_false hu) G))
          rcases ih (m + 1) (by omega) (by omega) (fun i hi => by
            rcases Nat.lt_or_ge i m with h | h
            · exact hno i h
            · obtain rfl : i = m := by omega
              exact hu) with ⟨b, h1, h2⟩ | ⟨h1, h2⟩
          · exact .inl ⟨b, h1, step h2⟩
          · exact .inr ⟨h1, step h2⟩
      · exact ih m (by omega) hm hno
  unfold concourseref15_State.f
  rcases key L.length 0 (by omega) (by omega) (fun i hi => by omega) with ⟨b, h1, h2⟩ | ⟨h1, h2⟩
  · exact ⟨b, h1, Ev.bind h2.diag Ev.pure⟩
  · exact ⟨0, h1, Ev.bind h2.diag Ev.pure⟩
theorem stateV_nn (e : Edu) (x : Int) : 0 ≤ stateV e x := by unfold stateV; split <;> (try split) <;> decide
theorem refthere_ev (hb : L.length ≤ 100000) (ok : ∀ x ∈ L, OkE x) : Ev (fun k => concourseref15_There.f k ⟨L, T⟩ at_) (thereV L at_) := by
  have key : ∀ (d m : Nat) (us : List ByteArray), L.length - m ≤ d → m ≤ L.length → us.length ≤ m → El (fun k j => concourseref15_There.l0 k ⟨L, T⟩ at_ j (m : Int) us) ((L.length : Int), false, us ++ thereV (L.drop m) at_) := by
    intro d
    induction d with
    | zero =>
      intro m us hd hm hus
      obtain rfl : m = L.length := by omega
      have : ¬ ((L.length : Int) < (L.length : Int)) := by omega
      have e : us ++ thereV (L.drop L.length) at_ = us := by simp [thereV]
      rw [e]
      refine El.step (fun _ _ => by rw [concourseref15_There.l0]) ?_
      dsimp only
      rw [decide_eq_false this]
      exact El.cf rfl El.pure
    | succ d ih =>
      intro m us hd hm hus
      by_cases hlt : m < L.length
      · have hs := of_eq (ok _ (getD_mem (d := default) hlt)) at_
        have nn := stateV_nn (L.getD m default) at_
        refine El.step (fun _ _ => by rw [concourseref15_There.l0]) ?_
        simp only [inc_nat (show m ≤ 1000000 by omega), at_nat]
        refine El.ct (decide_eq_true (by omega)) (El.grd ⟨by omega, by omega⟩ (El.bind (Ev.el (Ev.of hs)) ?_))
        by_cases hz : 0 < stateV (L.getD m default) at_
        · have hz2 : (stateV (L.getD m default) at_ != 0) = true := by rw [bne_iff_ne]; omega
          have e : us ++ thereV (L.drop m) at_ = (us ++ [(L.getD m default).fUser]) ++ thereV (L.drop (m + 1)) at_ := by
            rw [drop_getD hlt]; unfold thereV; rw [List.filter_cons, if_pos hz2]; simp
          rw [e]
          exact El.ct (decide_eq_true hz) (El.grd ⟨by omega, by omega⟩ (El.grd ⟨by simp; omega, by simp; omega⟩ (ih (m + 1) _ (by omega) (by omega) (by simp; omega))))
        · have hz2 : ¬ (stateV (L.getD m default) at_ != 0) = true := by rw [bne_iff_ne]; omega
          have e : us ++ thereV (L.drop m) at_ = us ++ thereV (L.drop (m + 1)) at_ := by
            rw [drop_getD hlt]; unfold thereV; rw [List.filter_cons, if_neg hz2]
          rw [e]
          exact El.cf (decide_eq_false hz) (ih (m + 1) _ (by omega) (by omega) (by omega))
      · exact ih m us (by omega) hm hus
  have := key L.length 0 [] (by omega) (by omega) (by simp)
  exact Ev.bind this.diag Ev.pure
end
theorem thereV_le {L : List Edu} {x : Int} : (thereV L x).length ≤ L.length := by unfold thereV; rw [List.length_map]; exact List.length_filter_le ..
end Go.Proofs.YtegmafgodoikiaaGreat
