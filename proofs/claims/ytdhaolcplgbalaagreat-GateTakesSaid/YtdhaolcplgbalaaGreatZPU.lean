/- Plain: lists of texts that are the same. -/
import Derived.Test.YtdhaolcplgbalaaGreatZRP
set_option linter.all false
set_option maxRecDepth 10000
namespace Go.Proofs.YtdhaolcplgbalaaGreat
open Go Go.Sp
theorem sametexts_refl {vs : List ByteArray} (hb : vs.length ≤ 100000) : Ev (fun k => concourseref01_SameTexts.f k vs vs) true := by
  have key : ∀ d m : Nat, vs.length - m ≤ d → m ≤ vs.length → El (fun k j => concourseref01_SameTexts.l0 k vs vs j (m : Int)) (.inl ((vs.length : Int), false)) := by
    intro d
    induction d with
    | zero =>
      intro m hd hm
      obtain rfl : m = vs.length := by omega
      have : ¬ ((vs.length : Int) < (vs.length : Int)) := by omega
      refine El.step (fun _ _ => by rw [concourseref01_SameTexts.l0]) ?_
      rw [decide_eq_false this]
      exact El.cf rfl El.pure
    | succ d ih =>
      intro m hd hm
      by_cases hlt : m < vs.length
      · refine El.step (fun _ _ => by rw [concourseref01_SameTexts.l0]) ?_
        simp only [rp_inc (show m ≤ 1000000 by omega)]
        exact El.ct (decide_eq_true (by omega)) (El.grd ⟨by omega, by omega⟩ (El.grd ⟨by omega, by omega⟩ (El.cf (by simp) (ih (m + 1) (by omega) (by omega)))))
      · exact ih m (by omega) hm
  unfold concourseref01_SameTexts.f
  exact Ev.cf (by simp) (Ev.bind (key vs.length 0 (by omega) (by omega)).diag Ev.pure)
end Go.Proofs.YtdhaolcplgbalaaGreat
