/- Plain: as time goes on nobody is there more than ahead. -/
import Derived.Test.YtegmafgodoikiaaZPJ
set_option linter.all false
set_option maxRecDepth 10000
namespace Go.Proofs.Ytegmafgodoikiaa
open Go Go.Sp
section
variable {a0 : List Edu}
theorem falls_put (hw : ∀ x ∈ a0, Wf x) : ∀ (d i : Nat) (t : PTab) (Z : List (Edu × Int)), Rel t Z i → 10 - i ≤ d → i ≤ 10 →
    ∃ i' q t' Z', Rel t' Z' 10 ∧ El (fun k j => concourselaw15_PresenceFalls.l1 k a0 j (i : Int) t) (i', q, t') := by
  intro d
  induction d with
  | zero =>
    intro i t Z R hd hi
    obtain rfl : i = 10 := by omega
    by_cases h1 : 10 < a0.length
    · refine ⟨((10 : Nat) : Int), decide (((10 : Nat) : Int) < 10), t, Z, R, ?_⟩
      refine El.step (fun _ _ => by rw [concourselaw15_PresenceFalls.l1]) ?_
      exact El.ct (decide_eq_true (by omega)) (El.cf (by decide) El.pure)
    · refine ⟨((10 : Nat) : Int), false, t, Z, R, ?_⟩
      refine El.step (fun _ _ => by rw [concourselaw15_PresenceFalls.l1]) ?_
      exact El.cf (decide_eq_false (by omega)) El.pure
  | succ d ih =>
    intro i t Z R hd hi
    by_cases h1 : i < a0.length
    · by_cases h2 : i < 10
      · obtain ⟨e, he, hm⟩ := made_ok (hw _ (getD_mem (d := default) h1))
        obtain ⟨Z', b, t', p1, p2, R'⟩ := put_next R (by omega) he
        obtain ⟨i', q, t2, Z2, R2, G⟩ := ih (i + 1) t' Z' R' (by omega) (by omega)
        refine ⟨i', q, t2, Z2, R2, ?_⟩
        refine El.step (fun _ _ => by rw [concourselaw15_PresenceFalls.l1]) ?_
        simp only [inc_nat (show i ≤ 1000000 by omega), at_nat]
        exact El.ct (decide_eq_true (by omega)) (El.ct (decide_eq_true (by omega)) (El.grd ⟨by omega, by omega⟩ (El.bind (Ev.el ⟨0, fun k _ => hm k⟩) (El.bind p2.el G))))
      · obtain rfl : i = 10 := by omega
        exact ih 10 t Z R (by omega) (by omega)
    · refine ⟨(i : Int), false, t, Z, rel_mono R hi, ?_⟩
      refine El.step (fun _ _ => by rw [concourselaw15_PresenceFalls.l1]) ?_
      exact El.cf (decide_eq_false (by omega)) El.pure
end
theorem stateV_mono (e : Edu) {x y : Int} (h : x ≤ y) : stateV e y ≤ stateV e x := by
  unfold stateV
  by_cases a : e.fState = 2 ∧ y < e.fTick + 30
  · rw [if_pos a, if_pos ⟨a.1, by omega⟩]; exact Int.le_refl _
  · rw [if_neg a]
    by_cases b : 0 < e.fState ∧ y < e.fTick + 90
    · rw [if_pos b]
      split
      · decide
      · rw [if_pos ⟨b.1, by omega⟩]; exact Int.le_refl _
    · rw [if_neg b]
      split
      · decide
      · split <;> decide
theorem stateV_nn (e : Edu) (x : Int) : 0 ≤ stateV e x := by unfold stateV; split <;> (try split) <;> decide
theorem stateV_end {e : Edu} (h : OkE e) : stateV e 190 = 0 := by
  have := h.tick
  unfold stateV
  rw [if_neg (by omega), if_neg (by omega)]
theorem thereV_end {L : List Edu} (ok : ∀ x ∈ L, OkE x) : thereV L 190 = [] := by
  unfold thereV
  rw [List.filter_eq_nil_iff.2]; rfl
  intro x hx
  rw [stateV_end (ok x hx)]; decide
theorem thereV_len {L : List Edu} {x y : Int} (h : x ≤ y) : (thereV L y).length ≤ (thereV L x).length := by
  unfold thereV
  rw [List.length_map, List.length_map]
  induction L with
  | nil => exact Nat.le_refl _
  | cons e L ih =>
    rw [List.filter_cons, List.filter_cons]
    have a := stateV_mono e h
    have b := stateV_nn e y
    by_cases c : (stateV e y != 0) = true
    · have d : (stateV e x != 0) = true := by
        rw [bne_iff_ne] at c ⊢; omega
      rw [if_pos c, if_pos d]; simp; exact ih
    · rw [if_neg c]
      split
      · simp; omega
      · exact ih
theorem thereV_le {L : List Edu} {x : Int} : (thereV L x).length ≤ L.length := by unfold thereV; rw [List.length_map]; exact List.length_filter_le ..
section
variable {t : PTab} {Z : List (Edu × Int)} {n : Nat} {i' x y : Int} {q : Bool}
theorem falls_now (R : Rel t Z n) (hn : n ≤ 1000) : ∀ (d i : Nat), 9 - i ≤ d → i ≤ 9 → El (fun k j => concourselaw15_PresenceFalls.l0 k (i', q, t) x y j (i : Int)) (.inl (((9 : Nat) : Int), false)) := by
  intro d
  induction d with
  | zero =>
    intro i hd hi
    obtain rfl : i = 9 := by omega
    refine El.step (fun _ _ => by rw [concourselaw15_PresenceFalls.l0]) ?_
    exact El.cf (by decide) El.pure
  | succ d ih =>
    intro i hd hi
    by_cases h : i < 9
    · obtain ⟨user, hu, _⟩ := userOf_at i h
      have hl : (Z.map (·.1)).length ≤ 100000 := by rw [List.length_map]; have := R.ln; omega
      have ok := rel_ok R
      have ht : t = ⟨Z.map (·.1), t.fturns⟩ := by rw [← R.fl]
      obtain ⟨b1, v1, e1⟩ := state_val (L := Z.map (·.1)) (h := t.fturns) hl R.srt ok user (min x y)
      obtain ⟨b2, v2, e2⟩ := state_val (L := Z.map (·.1)) (h := t.fturns) hl R.srt ok user (max x y)
      obtain ⟨b3, v3, e3⟩ := state_val (L := Z.map (·.1)) (h := t.fturns) hl R.srt ok user 190
      rw [← ht] at e1 e2 e3
      have c1 : ¬ b1 < b2 := by
        rcases v1 with ⟨z, z1, z2, z3⟩ | ⟨z1, z2⟩
        · have : Val (Z.map (·.1)) user (max x y) (stateV z (max x y)) := .inl ⟨z, z1, z2, rfl⟩
          rw [Val.uniq R.srt v2 this, z3]
          have := stateV_mono z (x := min x y) (y := max x y) (by omega)
          omega
        · rw [Val.uniq R.srt v2 (.inr ⟨z1, rfl⟩), z2]; decide
      have c3 : b3 = 0 := by
        rcases v3 with ⟨z, z1, z2, z3⟩ | ⟨_, z2⟩
        · rw [z3, stateV_end (ok z z1)]
        · exact z2
      refine El.step (fun _ _ => by rw [concourselaw15_PresenceFalls.l0]) ?_
      simp only [inc_nat (show i ≤ 1000000 by omega)]
      exact El.ct (decide_eq_true (by omega)) (El.bind (Ev.el (Ev.of hu)) (El.bind e1.el (El.bind e2.el (El.cf (decide_eq_false c1) (El.bind e3.el (El.cf (by rw [c3]; rfl) (ih (i + 1) (by omega) (by omega))))))))
    · obtain rfl : i = 9 := by omega
      exact ih 9 (by omega) (by omega)
end
theorem PresenceFalls_pure (a0 : List Edu) (a1 : Int) (a2 : Int) (k0 : (fun xs : List Edu => xs.length ≤ maxLen ∧ ∀ x ∈ xs, Edu.ok x) a0) (k1 : (fun n => (Lit.int .i64 n).wf = true) a1) (k2 : (fun n => (Lit.int .i64 n).wf = true) a2) : ∃ k, concourselaw15_PresenceFalls.f k a0 a1 a2 = some true := by
  obtain ⟨_, hok⟩ := k0
  obtain ⟨i', q, t, Z, R, G⟩ := falls_put (fun x hx => wf_of (hok x hx)) 10 0 _ [] rel_new (by omega) (by omega)
  obtain ⟨x, hx, _⟩ := around_ev (m := 251) (i64_of k1) (by decide) (by decide)
  obtain ⟨y, hy, _⟩ := around_ev (m := 251) (i64_of k2) (by decide) (by decide)
  have hl : (Z.map (·.1)).length ≤ 100000 := by rw [List.length_map]; have := R.ln; omega
  have ok := rel_ok R
  have ht : t = ⟨Z.map (·.1), t.fturns⟩ := by rw [← R.fl]
  have th := fun z => there_ev (L := Z.map (·.1)) (h := t.fturns) (at_ := z) hl ok
  rw [← ht] at th
  have H : Ev (fun k => concourselaw15_PresenceFalls.f k a0 a1 a2) true := by
    unfold concourselaw15_PresenceFalls.f
    refine Ev.bind (Ev.of new_eq) (Ev.bind G.diag (Ev.bind (Ev.of hx) (Ev.bind (Ev.of hy) (Ev.bind (falls_now (i' := i') (q := q) (x := x) (y := y) R (by omega) 9 0 (by omega) (by omega)).diag (Ev.bind (th 190) (Ev.ct ?_ (Ev.bind (th _) (Ev.bind (th _) (Ev.ct (decide_eq_true ?_) (Ev.bind lives_ev Ev.pure))))))))))
    · rw [thereV_end ok]; rfl
    · have := thereV_len (L := Z.map (·.1)) (x := min x y) (y := max x y) (by omega)
      omega
  exact H.ex
end Go.Proofs.Ytegmafgodoikiaa
