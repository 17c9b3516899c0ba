/- Plain: how each user is there at which tick, and who is, is told as the document says. -/
import Derived.Test.YtegmafgodoikiaaGreatZPM
import Derived.Test.YtegmafgodoikiaaGreatZPU
set_option linter.all false
set_option maxRecDepth 10000
namespace Go.Proofs.YtegmafgodoikiaaGreat
open Go Go.Sp
section
variable {a0 : List Edu}
theorem states_put (hw : ∀ x ∈ a0, Wf x) (hlen : a0.length ≤ 9223372036854775807) : ∀ (d i : Nat) (t : PTab) (Z : List (Edu × Int)), Rel t Z i → 10 - i ≤ d → i ≤ 10 →
    ∃ i' q t' Z', Rel t' Z' 10 ∧ El (fun k j => concourselaw15_PresenceStates.l2 k a0 j (i : Int) (Z.map (·.1)) (Z.map (·.2)) t) (i', q, Z'.map (·.1), Z'.map (·.2), t') := by
  intro d
  induction d with
  | zero =>
    intro i t Z R hd hi
    obtain rfl : i = 10 := by omega
    by_cases h1 : 10 < a0.length
    · refine ⟨((10 : Nat) : Int), decide (((10 : Nat) : Int) < 10), t, Z, R, ?_⟩
      refine El.step (fun _ _ => by rw [concourselaw15_PresenceStates.l2]) ?_
      exact El.ct (decide_eq_true (by omega)) (El.cf (by decide) El.pure)
    · refine ⟨((10 : Nat) : Int), false, t, Z, R, ?_⟩
      refine El.step (fun _ _ => by rw [concourselaw15_PresenceStates.l2]) ?_
      exact El.cf (decide_eq_false (by omega)) El.pure
  | succ d ih =>
    intro i t Z R hd hi
    by_cases h1 : i < a0.length
    · by_cases h2 : i < 10
      · obtain ⟨e, he, hm⟩ := made_ok (hw _ (getD_mem (d := default) h1))
        obtain ⟨Z', b, t', p1, p2, R'⟩ := put_next R (by omega) he
        obtain ⟨i', q, t2, Z2, R2, G⟩ := ih (i + 1) t' Z' R' (by omega) (by omega)
        refine ⟨i', q, t2, Z2, R2, ?_⟩
        refine El.step (fun _ _ => by rw [concourselaw15_PresenceStates.l2]) ?_
        simp only [inc_nat (show i ≤ 1000000 by omega), at_nat]
        exact El.ct (decide_eq_true (by omega)) (El.ct (decide_eq_true (by omega)) (El.grd ⟨by omega, by omega⟩ (El.bind (Ev.el ⟨0, fun k _ => hm k⟩) (El.bind p1.el (El.grd ⟨by omega, by omega⟩ (El.bind (Ev.el ⟨0, fun k _ => hm k⟩) (El.bind p2.el G)))))))
      · obtain rfl : i = 10 := by omega
        exact ih 10 t Z R (by omega) (by omega)
    · refine ⟨(i : Int), false, t, Z, rel_mono R hi, ?_⟩
      refine El.step (fun _ _ => by rw [concourselaw15_PresenceStates.l2]) ?_
      exact El.cf (decide_eq_false (by omega)) El.pure
end
section
variable {t : PTab} {Z : List (Edu × Int)} {a1 i' : Int} {q : Bool} {t903 : ByteArray} {t905 : Int}
theorem both_state (R : Rel t Z 10) (user : ByteArray) (at_ : Int) : ∃ b, Ev (fun k => presence_Table_State.f k t user at_) b ∧ Ev (fun k => concourseref15_State.f k ⟨Z.map (·.1), Z.map (·.2)⟩ user at_) b := by
  have hl : (Z.map (·.1)).length ≤ 100000 := by rw [List.length_map]; have := R.ln; omega
  obtain ⟨b, v1, e1⟩ := state_val (L := Z.map (·.1)) (h := t.fturns) hl R.srt (rel_ok R) user at_
  obtain ⟨b', v2, e2⟩ := refstate_val (L := Z.map (·.1)) (T := Z.map (·.2)) hl (rel_ok R) user at_
  obtain rfl := Val.uniq R.srt v1 v2
  have ht : t = ⟨Z.map (·.1), t.fturns⟩ := by rw [← R.fl]
  rw [← ht] at e1
  exact ⟨b, e1, e2⟩
theorem states_l1 (R : Rel t Z 10) (b : Int) {i : Nat} (hi : i < 2) : ∀ d x : Nat, 9 - x ≤ d → x ≤ 9 → El (fun k j => concourselaw15_PresenceStates.l1 k a1 (i', q, Z.map (·.1), Z.map (·.2), t) t905 (i : Int) b b j (x : Int)) (.inl (((9 : Nat) : Int), (b != b), false)) := by
  intro d
  induction d with
  | zero =>
    intro x hd hx
    obtain rfl : x = 9 := by omega
    refine El.step (fun _ _ => by rw [concourselaw15_PresenceStates.l1]) ?_
    exact El.cf (by decide) El.pure
  | succ d ih =>
    intro x hd hx
    by_cases h : x < 9
    · obtain ⟨u, hu, _⟩ := userOf_at x h
      obtain ⟨v, k1, k2⟩ := both_state R u ((intK .i64).at ([a1, t905] : List Int) (i : Int))
      refine El.step (fun _ _ => by rw [concourselaw15_PresenceStates.l1]) ?_
      simp only [inc_nat (show x ≤ 1000000 by omega)]
      have gi : (0 : Int) ≤ (i : Int) ∧ (i : Int) < (([a1, t905] : List Int).length : Int) := ⟨by omega, by show (i : Int) < 2; omega⟩
      exact El.ct (decide_eq_true (by omega)) (El.bind (Ev.el (Ev.of hu)) (El.grd gi (El.bind k1.el (El.grd gi (El.bind k2.el (El.cf (by simp) (ih (x + 1) (by omega) (by omega))))))))
    · obtain rfl : x = 9 := by omega
      exact ih 9 (by omega) (by omega)
theorem states_l0 (R : Rel t Z 10) : ∀ d x : Nat, 2 - x ≤ d → x ≤ 2 → El (fun k j => concourselaw15_PresenceStates.l0 k a1 (i', q, Z.map (·.1), Z.map (·.2), t) t903 t905 j (x : Int)) (.inl (((2 : Nat) : Int), false)) := by
  intro d
  induction d with
  | zero =>
    intro x hd hx
    obtain rfl : x = 2 := by omega
    refine El.step (fun _ _ => by rw [concourselaw15_PresenceStates.l0]) ?_
    exact El.cf (by decide) El.pure
  | succ d ih =>
    intro x hd hx
    by_cases h : x < 2
    · have hl : (Z.map (·.1)).length ≤ 100000 := by rw [List.length_map]; have := R.ln; omega
      obtain ⟨b, k1, k2⟩ := both_state R t903 ((intK .i64).at ([a1, t905] : List Int) (x : Int))
      have G2 := (states_l1 (a1 := a1) (i' := i') (q := q) (t905 := t905) R b h 9 0 (by omega) (by omega)).diag
      have v1 := there_ev (L := Z.map (·.1)) (h := t.fturns) (at_ := (intK .i64).at ([a1, t905] : List Int) (x : Int)) hl (rel_ok R)
      have v2 := refthere_ev (L := Z.map (·.1)) (T := Z.map (·.2)) (at_ := (intK .i64).at ([a1, t905] : List Int) (x : Int)) hl (rel_ok R)
      have ht : t = ⟨Z.map (·.1), t.fturns⟩ := by rw [← R.fl]
      rw [← ht] at v1
      have v0 := thereV_le (L := Z.map (·.1)) (x := (intK .i64).at ([a1, t905] : List Int) (x : Int))
      refine El.step (fun _ _ => by rw [concourselaw15_PresenceStates.l0]) ?_
      simp only [inc_nat (show x ≤ 1000000 by omega)]
      have gi : (0 : Int) ≤ (x : Int) ∧ (x : Int) < (([a1, t905] : List Int).length : Int) := ⟨by omega, by show (x : Int) < 2; omega⟩
      exact El.ct (decide_eq_true (by omega)) (El.bind (a := .inl (((9 : Nat) : Int), (b != b), false)) (El.grd gi (El.grd gi (El.bind v1.el (El.bind v2.el (El.bind (Ev.el (sametexts_refl (by omega))) (El.cf rfl (El.grd gi (El.bind k1.el (El.grd gi (El.bind k2.el (El.cf (by simp) G2.el))))))))))) (ih (x + 1) (by omega) (by omega)))
    · obtain rfl : x = 2 := by omega
      exact ih 2 (by omega) (by omega)
end
theorem few8 (s : ByteArray) : ∃ r, concourseref01_Few.f s 8 = some r := by
  unfold concourseref01_Few.f
  by_cases h : (8 : Int) < (s.size : Int)
  · rw [decide_eq_true h]
    simp only [cond_true, grd]
    rw [if_pos ⟨by omega, by omega, by omega⟩]
    exact ⟨_, rfl⟩
  · rw [decide_eq_false h]; exact ⟨_, rfl⟩
theorem PresenceStates_pure (a0 : List Edu) (a1 : Int) (a2 : ByteArray) (k0 : (fun xs : List Edu => xs.length ≤ maxLen ∧ ∀ x ∈ xs, Edu.ok x) a0) (k1 : (fun n => (Lit.int .i64 n).wf = true) a1) (k2 : (fun s : ByteArray => s.size ≤ maxLen) a2) : ∃ k, concourselaw15_PresenceStates.f k a0 a1 a2 = some true := by
  obtain ⟨hlen, hok⟩ := k0
  obtain ⟨i', q, t', Z', R, G⟩ := states_put (fun x hx => wf_of (hok x hx)) hlen 10 0 _ [] rel_new (by omega) (by omega)
  obtain ⟨s, hs⟩ := few8 a2
  obtain ⟨w, hw, _⟩ := around_ev (m := 201) (i64_of k1) (by decide) (by decide)
  have H : Ev (fun k => concourselaw15_PresenceStates.f k a0 a1 a2) true := by
    unfold concourselaw15_PresenceStates.f
    exact Ev.bind (Ev.of new_eq) (Ev.bind G.diag (Ev.bind (Ev.of hs) (Ev.bind (Ev.of hw) (Ev.bind (states_l0 R 2 0 (by omega) (by omega)).diag (Ev.bind lives_ev Ev.pure)))))
  exact H.ex
end Go.Proofs.YtegmafgodoikiaaGreat
