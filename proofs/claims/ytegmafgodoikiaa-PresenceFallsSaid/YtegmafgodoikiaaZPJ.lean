/- Plain: who is there. -/
import Derived.Test.YtegmafgodoikiaaZPI
set_option linter.all false
set_option maxRecDepth 10000
namespace Go.Proofs.Ytegmafgodoikiaa
open Go Go.Sp
/-- All who are there. -/
def thereV (L : List Edu) (at_ : Int) : List ByteArray := (L.filter fun x => stateV x at_ != 0).map (·.fUser)
theorem drop_getD {L : List Edu} {m : Nat} (h : m < L.length) : L.drop m = L.getD m default :: L.drop (m + 1) := by
  rw [List.drop_eq_getElem_cons h, List.getD_eq_getElem?_getD, List.getElem?_eq_getElem h]; rfl
theorem there_ev {L : List Edu} {h : HHeap} {at_ : Int} (hb : L.length ≤ 100000) (ok : ∀ x ∈ L, OkE x) : Ev (fun k => presence_Table_There.f k ⟨L, h⟩ at_) (thereV L at_) := by
  have key : ∀ (d m : Nat) (us : List ByteArray), L.length - m ≤ d → m ≤ L.length → us.length ≤ m → El (fun k j => presence_Table_There.l0 k ⟨L, h⟩ at_ j (m : Int) us) ((L.length : Int), false, us ++ thereV (L.drop m) at_) := by
    intro d
    induction d with
    | zero =>
      intro m us hd hm hus
      obtain rfl : m = L.length := by omega
      have : ¬ ((L.length : Int) < (L.length : Int)) := by omega
      have e : us ++ thereV (L.drop L.length) at_ = us := by simp [thereV]
      rw [e]
      refine El.step (fun _ _ => by rw [presence_Table_There.l0]) ?_
      dsimp only
      rw [decide_eq_false this]
      exact El.cf rfl El.pure
    | succ d ih =>
      intro m us hd hm hus
      by_cases hlt : m < L.length
      · have hs := state_eq (ok _ (getD_mem (d := default) hlt)) at_
        refine El.step (fun _ _ => by rw [presence_Table_There.l0]) ?_
        simp only [inc_nat (show m ≤ 1000000 by omega), Int.toNat_natCast]
        refine El.ct (decide_eq_true (by omega)) (El.grd ⟨by omega, by omega⟩ (El.bind (Ev.el (Ev.of hs)) ?_))
        cases hz : stateV (L.getD m default) at_ != 0 with
        | true =>
          have e : us ++ thereV (L.drop m) at_ = (us ++ [(L.getD m default).fUser]) ++ thereV (L.drop (m + 1)) at_ := by
            rw [drop_getD hlt]; unfold thereV; rw [List.filter_cons, if_pos hz]; simp
          rw [e]
          exact El.ct rfl (El.grd ⟨by simp; omega, by simp; omega⟩ (ih (m + 1) _ (by omega) (by omega) (by simp; omega)))
        | false =>
          have e : us ++ thereV (L.drop m) at_ = us ++ thereV (L.drop (m + 1)) at_ := by
            rw [drop_getD hlt]; unfold thereV; rw [List.filter_cons, if_neg (by rw [hz]; simp)]
          rw [e]
          exact El.cf rfl (ih (m + 1) _ (by omega) (by omega) (by omega))
      · exact ih m us (by omega) hm hus
  have := key L.length 0 [] (by omega) (by omega) (by simp)
  exact Ev.bind this.diag Ev.pure
end Go.Proofs.Ytegmafgodoikiaa
