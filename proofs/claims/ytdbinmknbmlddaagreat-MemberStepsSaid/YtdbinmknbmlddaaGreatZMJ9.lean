/- Plain: a dag is built, in layer 9. -/
import Derived.Test.YtdbinmknbmlddaaGreatZMJ
import Derived.Test.YtdbinmknbmlddaaGreatZML
set_option linter.all false
set_option maxRecDepth 10000
namespace Go.Proofs.YtdbinmknbmlddaaGreat
open Go Go.Sp
theorem dag_run {room : ByteArray} {L : List Event} (hc : Chain room L) (hl : L.length ≤ 1000) : ∀ n x : Nat, L.length - x = n → x ≤ L.length → ∀ m, Rel m ⟨room, L.take x⟩ → T m = tb (L.take x) →
    ∃ m', El (fun k j => concourselaw09_build.l0 k ⟨room, L⟩ j (x : Int) m) (.inl ((L.length : Int), false, m')) ∧ Rel m' ⟨room, L⟩ ∧ T m' = tb L := by
  intro n
  induction n with
  | zero =>
    intro x hd hx m hr hT
    obtain rfl : x = L.length := by omega
    rw [List.take_length] at hr hT
    refine ⟨m, ?_, hr, hT⟩
    refine El.step (fun _ _ => by rw [concourselaw09_build.l0]) ?_
    exact El.cf (by simp) (by simpa using El.pure)
  | succ n ih =>
    intro x hd hx m hr hT
    have hx2 : x < L.length := by omega
    obtain ⟨h1, _, h3⟩ := hc x hx2
    obtain ⟨m1, a1, a2, a3⟩ := dag_more hr hT (by rw [List.length_take]; omega) h1 h3
    rw [← take_ev hx2] at a2 a3
    obtain ⟨m', b1, b2⟩ := ih (x + 1) (by omega) (by omega) m1 a2 a3
    refine ⟨m', ?_, b2⟩
    refine El.step (fun _ _ => by rw [concourselaw09_build.l0]) ?_
    refine El.ct (decide_eq_true (by show (x : Int) < (L.length : Int); omega)) (El.grd ⟨by omega, by show (x : Int) < (L.length : Int); omega⟩ ?_)
    rw [ev_at (l := L) hx2]
    refine El.bind a1.el (El.cf rfl ?_)
    rw [rp_inc (show x ≤ 1000000 by omega)]
    exact b1
def roomR : ByteArray := ⟨#[33, 114, 58, 115, 49]⟩
theorem build_ev {l : List GMade} (hl : l.length ≤ maxLen ∧ ∀ x ∈ l, GMade.ok x) : ∃ m L, Ev (fun k => concourselaw09_build.f k l) (some m, ⟨roomR, L⟩) ∧ Rel m ⟨roomR, L⟩ ∧ T m = tb L ∧ MI roomR L ∧ Chain roomR L := by
  obtain ⟨L, a1, a2, a3⟩ := made_ev (room := roomR) (List.mem_of_getElem? (i := 0) rfl) hl.1 hl.2
  have la := a2.len
  obtain ⟨m, b1, b2, b3⟩ := dag_run a3 (by omega) _ 0 rfl (by omega) ⟨roomR, []⟩ (rel_new roomR) rfl
  refine ⟨m, L, ?_, b2, b3, a2, a3⟩
  unfold concourselaw09_build.f
  exact Ev.bind a1 (Ev.bind (Ev.of rfl) (Ev.bind b1.diag Ev.pure))
end Go.Proofs.YtdbinmknbmlddaaGreat
