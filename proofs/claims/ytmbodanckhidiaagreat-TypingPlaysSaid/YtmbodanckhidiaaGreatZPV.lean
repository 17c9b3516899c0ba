/- Plain: lists of EDUs that are the same. -/
import Derived.Test.YtmbodanckhidiaaGreatZPC
set_option linter.all false
set_option maxRecDepth 10000
namespace Go.Proofs.YtmbodanckhidiaaGreat
open Go Go.Sp
theorem sameedus_refl {l : List Edu} (hb : l.length ≤ 100000) : Ev (fun k => concourseref04_SameEdus.f k l l) true := by
  have key : ∀ d m : Nat, l.length - m ≤ d → m ≤ l.length → El (fun k j => concourseref04_SameEdus.l0 k l l j (m : Int)) (.inl ((l.length : Int), false)) := by
    intro d
    induction d with
    | zero =>
      intro m hd hm
      obtain rfl : m = l.length := by omega
      have : ¬ ((l.length : Int) < (l.length : Int)) := by omega
      refine El.step (fun _ _ => by rw [concourseref04_SameEdus.l0]) ?_
      rw [decide_eq_false this]
      exact El.cf rfl El.pure
    | succ d ih =>
      intro m hd hm
      by_cases hlt : m < l.length
      · refine El.step (fun _ _ => by rw [concourseref04_SameEdus.l0]) ?_
        simp only [inc_nat (show m ≤ 1000000 by omega)]
        exact El.ct (decide_eq_true (by omega)) (El.grd ⟨by omega, by omega⟩ (El.grd ⟨by omega, by omega⟩ (El.cf (by simp) (ih (m + 1) (by omega) (by omega)))))
      · exact ih m (by omega) hm
  unfold concourseref04_SameEdus.f
  exact Ev.cf (by simp) (Ev.bind (key l.length 0 (by omega) (by omega)).diag Ev.pure)
end Go.Proofs.YtmbodanckhidiaaGreat
