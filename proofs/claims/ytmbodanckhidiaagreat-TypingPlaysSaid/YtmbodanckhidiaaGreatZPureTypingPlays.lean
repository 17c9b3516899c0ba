/- Plain: which is the latest, what ended, what ends next. -/
import Derived.Test.YtmbodanckhidiaaGreatZGP
set_option linter.all false
set_option maxRecDepth 10000
namespace Go.Proofs.YtmbodanckhidiaaGreat
open Go Go.Sp
section
variable {a0 : List Edu} {a1 : List Bool} {a2 : List Int}
/-- The EDU that is put. -/
theorem which_ev (hw : ∀ x ∈ a0, Wf x) (hb : a1.length ≤ maxLen) {i : Nat} (h1 : i < a0.length) (h2 : i < 16) : ∃ (q : Bool) (e : Edu), Sz e ∧ ∀ {β : Type} {F : Nat → Nat → (Bool × Int × ByteArray × ByteArray × ByteArray × ByteArray × Bool × Bool × Int × Int × Int × Int) → Option β} {v : β},
    El (fun k j => F k j (q, e.fKind, e.fRoom, e.fUser, e.fEvent, e.fThread, e.fPrivate, e.fOn, e.fSpan, e.fState, e.fTick, e.fStamp)) v →
    El (fun k j => (concourseref14_Made.f k (a0.getD i default)).bind fun t1180 => (cond (decide ((i : Int) < (a1.length : Int))) (grd ((0 : Int) ≤ (min (i : Int) (w64 ((a1.length : Int) - 1))) ∧ (min (i : Int) (w64 ((a1.length : Int) - 1))) < (a1.length : Int)) (cond (boolK.at a1 (min (i : Int) (w64 ((a1.length : Int) - 1)))) (grd ((0 : Int) ≤ (i : Int) ∧ (i : Int) < (a0.length : Int)) ((concourseref03_Few.f (a0.getD i default)).bind fun t1225 => some (boolK.at a1 (min (i : Int) (w64 ((a1.length : Int) - 1))), t1225.fKind, t1225.fRoom, t1225.fUser, t1225.fEvent, t1225.fThread, t1225.fPrivate, t1225.fOn, t1225.fSpan, t1225.fState, t1225.fTick, t1225.fStamp))) (some (boolK.at a1 (min (i : Int) (w64 ((a1.length : Int) - 1))), t1180.fKind, t1180.fRoom, t1180.fUser, t1180.fEvent, t1180.fThread, t1180.fPrivate, t1180.fOn, t1180.fSpan, t1180.fState, t1180.fTick, t1180.fStamp)))) (some (false, t1180.fKind, t1180.fRoom, t1180.fUser, t1180.fEvent, t1180.fThread, t1180.fPrivate, t1180.fOn, t1180.fSpan, t1180.fState, t1180.fTick, t1180.fStamp))).bind (F k j)) v := by
  obtain ⟨e, he, _, hm⟩ := made_ok (hw _ (getD_mem (d := default) h1))
  obtain ⟨e', he', z'⟩ := fewE_ev (a0.getD i default)
  have hb2 : a1.length ≤ 9223372036854775807 := hb
  by_cases c1 : i < a1.length
  · have hmin : min (i : Int) (w64 ((a1.length : Int) - 1)) = (i : Int) := by rw [w64_id (by omega) (by omega)]; omega
    rw [hmin]
    cases c2 : boolK.at a1 (i : Int) with
    | true =>
      refine ⟨true, e', z', fun {β F v} G => ?_⟩
      exact El.bind (Ev.el ⟨0, fun k _ => hm k⟩) (El.bind (El.ct (decide_eq_true (by omega)) (El.grd ⟨by omega, by omega⟩ (El.ct rfl (El.grd ⟨by omega, by omega⟩ (El.bind (Ev.of he').el El.pure))))) G)
    | false =>
      refine ⟨false, e, he.sz, fun {β F v} G => ?_⟩
      exact El.bind (Ev.el ⟨0, fun k _ => hm k⟩) (El.bind (El.ct (decide_eq_true (by omega)) (El.grd ⟨by omega, by omega⟩ (El.cf rfl El.pure))) G)
  · refine ⟨false, e, he.sz, fun {β F v} G => ?_⟩
    exact El.bind (Ev.el ⟨0, fun k _ => hm k⟩) (El.bind (El.cf (decide_eq_false (by omega)) El.pure) G)
theorem plays_loop (hw : ∀ x ∈ a0, Wf x) (hb : a1.length ≤ maxLen) (hb2 : a2.length ≤ maxLen) : ∀ (d i : Nat) (t : TTab) (Z : List (Edu × Bool)), Rel t Z i → 16 - i ≤ d → i ≤ 16 →
    ∃ r, El (fun k j => concourselaw14_TypingPlays.l0 k a0 a1 a2 j (i : Int) (Z.map (·.1)) (Z.map (·.2)) t) (.inl r) := by
  intro d
  induction d with
  | zero =>
    intro i t Z R hd hi
    obtain rfl : i = 16 := by omega
    by_cases h1 : 16 < a0.length
    · refine ⟨_, El.step (fun _ _ => by rw [concourselaw14_TypingPlays.l0]) (El.ct (decide_eq_true (by omega)) (El.cf (by decide) El.pure))⟩
    · refine ⟨_, El.step (fun _ _ => by rw [concourselaw14_TypingPlays.l0]) (El.cf (decide_eq_false (by omega)) El.pure)⟩
  | succ d ih =>
    intro i t Z R hd hi
    by_cases h1 : i < a0.length
    · by_cases h2 : i < 16
      · obtain ⟨q, e, z, W⟩ := which_ev (a1 := a1) hw hb h1 h2
        obtain ⟨Z', b, f, t', p1, p2, R'⟩ := put_any R (by omega) z
        -- what is asked behind it
        have A : ∃ t2 Z2, Rel t2 Z2 (i + 1) ∧ ∀ {F : Nat → Nat → (List Edu) × (List Bool) × TTab → Option (((Int × Bool × (List Edu) × (List Bool) × TTab)) ⊕ Bool)} {v},
            El (fun k j => F k j (Z2.map (·.1), Z2.map (·.2), t2)) v →
            El (fun k j => (cond (decide ((i : Int) < (a2.length : Int))) (grd ((0 : Int) ≤ (min (i : Int) (w64 ((a2.length : Int) - 1))) ∧ (min (i : Int) (w64 ((a2.length : Int) - 1))) < (a2.length : Int)) ((concourseref14_Ended.f k ⟨Z'.map (·.1), Z'.map (·.2)⟩ ((intK .i64).at a2 (min (i : Int) (w64 ((a2.length : Int) - 1))))).bind fun t1211 => (typing_Table_Ended.f k t' ((intK .i64).at a2 (min (i : Int) (w64 ((a2.length : Int) - 1))))).bind fun t1215 => (concourseref01_SameTexts.f k t1215.1 t1211.2).bind fun t1218 => cond (!t1218) (some (.inr (.inr false))) (some (.inl (t1211.1.fL, t1211.1.fTold, t1215.2))))) (some (.inl (Z'.map (·.1), Z'.map (·.2), t'))) : Option (((List Edu) × (List Bool) × TTab) ⊕ ((Int × Bool × (List Edu) × (List Bool) × TTab) ⊕ Bool))).bind (fall (F k j))) v := by
          have hb3 : a2.length ≤ 9223372036854775807 := hb2
          by_cases c1 : i < a2.length
          · have hmin : min (i : Int) (w64 ((a2.length : Int) - 1)) = (i : Int) := by rw [w64_id (by omega) (by omega)]; omega
            rw [hmin]
            obtain ⟨rs, t2, e1, e2, e3, R2⟩ := ended_both R' (by omega) ((intK .i64).at a2 (i : Int))
            refine ⟨t2, _, R2, fun {F v} G => ?_⟩
            exact El.bind (El.ct (decide_eq_true (by omega)) (El.grd ⟨by omega, by omega⟩ (El.bind e1.el (El.bind e3.el (El.bind (sametexts_refl e2).el (El.cf rfl El.pure)))))) G
          · exact ⟨t', Z', R', fun {F v} G => El.bind (El.cf (decide_eq_false (by omega)) El.pure) G⟩
        obtain ⟨t2, Z2, R2, A⟩ := A
        obtain ⟨v, hh, n1, n2⟩ := next_both R2 (by omega)
        obtain ⟨r, G⟩ := ih (i + 1) t2 Z2 R2 (by omega) (by omega)
        refine ⟨r, ?_⟩
        refine El.step (fun _ _ => by rw [concourselaw14_TypingPlays.l0]) ?_
        simp only [inc_nat (show i ≤ 1000000 by omega), at_nat]
        have hl : t2.fl.length ≤ 100000 := by rw [R2.fl, List.length_map]; have := R2.ln; omega
        refine El.ct (decide_eq_true (by omega)) (El.ct (decide_eq_true (by omega)) (El.grd ⟨by omega, by omega⟩ (W (F := fun k j p1183 => _) ?_)))
        refine El.bind p1.el (El.bind p2.el (El.cf (by simp) (El.cf (by simp) (A (F := fun k j p1192 => _) ?_))))
        refine El.bind (Ev.of n2).el (El.bind n1.el (El.cf (by simp) (El.cf (by simp) (El.bind (Ev.of (all_eq hl)).el ?_))))
        rw [R2.fl]
        exact El.bind (sameedus_refl (by rw [List.length_map]; have := R2.ln; omega)).el (El.cf rfl G)
      · refine ⟨_, El.step (fun _ _ => by rw [concourselaw14_TypingPlays.l0]) (El.ct (decide_eq_true (by omega)) (El.cf (decide_eq_false (by omega)) El.pure))⟩
    · refine ⟨_, El.step (fun _ _ => by rw [concourselaw14_TypingPlays.l0]) (El.cf (decide_eq_false (by omega)) El.pure)⟩
end
theorem TypingPlays_pure (a0 : List Edu) (a1 : List Bool) (a2 : List Int) (k0 : (fun xs : List Edu => xs.length ≤ maxLen ∧ ∀ x ∈ xs, Edu.ok x) a0) (k1 : (fun xs : List Bool => xs.length ≤ maxLen ∧ ∀ x ∈ xs, (fun _ => True) x) a1) (k2 : (fun xs : List Int => xs.length ≤ maxLen ∧ ∀ x ∈ xs, (fun n => (Lit.int .i64 n).wf = true) x) a2) : ∃ k, concourselaw14_TypingPlays.f k a0 a1 a2 = some true := by
  obtain ⟨r, G⟩ := plays_loop (a0 := a0) (a1 := a1) (a2 := a2) (fun x hx => wf_of (k0.2 x hx)) k1.1 k2.1 16 0 ⟨[], ⟨[], []⟩⟩ [] rel_new (by omega) (by omega)
  refine Ev.ex (F := fun k => concourselaw14_TypingPlays.f k a0 a1 a2) ?_
  unfold concourselaw14_TypingPlays.f
  exact Ev.bind (Ev.of new_eq) (Ev.bind G.diag (Ev.bind lives_ev Ev.pure))
end Go.Proofs.YtmbodanckhidiaaGreat
