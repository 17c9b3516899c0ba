/- Plain: who types, in the program alone. -/
import Derived.Test.YtmbodanckhidiaaGreatZPH
set_option linter.all false
set_option maxRecDepth 10000
namespace Go.Proofs.YtmbodanckhidiaaGreat
open Go Go.Sp
section
variable {L : List Edu}
/-- What is told of one: by the EDU of its key. -/
def Val (L : List Edu) (room user : ByteArray) (at_ : Int) (b : Bool) : Prop := (∃ x, x ∈ L ∧ x.fRoom = room ∧ x.fUser = user ∧ b = (x.fOn && decide (at_ < w64 (x.fTick + x.fSpan)))) ∨ ((∀ x, x ∈ L → ¬ (x.fRoom = room ∧ x.fUser = user)) ∧ b = false)
theorem types_val {h : HHeap} (hb : L.length ≤ 100000) (hs : Srt L) (room user : ByteArray) (at_ : Int) : ∃ b, Val L room user at_ b ∧ Ev (fun k => typing_Table_Types.f k ⟨L, h⟩ room user at_) b := by
  obtain ⟨p, hp, hev⟩ := at_ex (l := L) (by omega) hs (⟨0, room, user, ⟨#[]⟩, ⟨#[]⟩, false, false, 0, 0, 0, 0⟩ : Edu) h
  have hlo : ∀ m, m < p → ¬ ((L.getD m default).fRoom = room ∧ (L.getD m default).fUser = user) := fun m hm h => ltK_not_same (hp.lo m hm) h
  unfold typing_Table_Types.f
  dsimp only
  by_cases hh : p < L.length ∧ same (L.getD p default) (⟨0, room, user, ⟨#[]⟩, ⟨#[]⟩, false, false, 0, 0, 0, 0⟩ : Edu)
  · have hhas : (decide (p < L.length) && decide (same (L.getD p default) (⟨0, room, user, ⟨#[]⟩, ⟨#[]⟩, false, false, 0, 0, 0, 0⟩ : Edu))) = true := by rw [decide_eq_true hh.1, decide_eq_true hh.2]; rfl
    rw [hhas] at hev
    have h1 := hh.1
    have hr : (L.getD p default).fRoom = room := hh.2.1
    have hu : (L.getD p default).fUser = user := hh.2.2
    cases ho : (L.getD p default).fOn with
    | true =>
      refine ⟨_, .inl ⟨L.getD p default, getD_mem h1, hr, hu, by rw [ho]; rfl⟩, Ev.bind hev (Ev.ct rfl (Ev.grd ⟨by omega, by show (p : Int) < _; omega⟩ (Ev.ct ?_ (Ev.grd ⟨by omega, by show (p : Int) < _; omega⟩ (Ev.bind (Ev.of rfl) Ev.pure)))))⟩
      show (L.getD (p : Int).toNat default).fOn = true
      rw [Int.toNat_natCast]; exact ho
    | false =>
      refine ⟨false, .inl ⟨L.getD p default, getD_mem h1, hr, hu, by rw [ho]; rfl⟩, Ev.bind hev (Ev.ct rfl (Ev.grd ⟨by omega, by show (p : Int) < _; omega⟩ (Ev.cf ?_ Ev.pure)))⟩
      show (L.getD (p : Int).toNat default).fOn = false
      rw [Int.toNat_natCast]; exact ho
  · have hhas : (decide (p < L.length) && decide (same (L.getD p default) (⟨0, room, user, ⟨#[]⟩, ⟨#[]⟩, false, false, 0, 0, 0, 0⟩ : Edu))) = false := by
      rw [Bool.and_eq_false_iff]
      by_cases h : p < L.length
      · exact .inr (decide_eq_false fun h2 => hh ⟨h, h2⟩)
      · exact .inl (decide_eq_false h)
    rw [hhas] at hev
    have hcut : cut L (⟨0, room, user, ⟨#[]⟩, ⟨#[]⟩, false, false, 0, 0, 0, 0⟩ : Edu) p = p := if_neg hh
    have hgt := hp.gt hs
    rw [hcut] at hgt
    have hno : ∀ m, m < L.length → ¬ ((L.getD m default).fRoom = room ∧ (L.getD m default).fUser = user) := fun m hm h => by
      rcases Nat.lt_or_ge m p with h1 | h1
      · exact hlo m h1 h
      · exact ltK_not_same (hgt m h1 hm) ⟨h.1.symm, h.2.symm⟩
    exact ⟨false, .inr ⟨fun x hx h => (by obtain ⟨m, m1, rfl⟩ := mem_get default hx; exact hno m m1 h), rfl⟩, Ev.bind hev (Ev.cf rfl Ev.pure)⟩
/-- Nobody types. -/
theorem users_none {h : HHeap} (hb : L.length ≤ 100000) (hs : Srt L) (room : ByteArray) (at_ : Int) (hn : ∀ x ∈ L, ¬ at_ < w64 (x.fTick + x.fSpan)) : Ev (fun k => typing_Table_Users.f k ⟨L, h⟩ room at_) [] := by
  have key : ∀ d m : Nat, L.length - m = d → m ≤ L.length → El (fun k j => typing_Table_Users.l0 k ⟨L, h⟩ room at_ j (m : Int) []) ((L.length : Int), false, []) := by
    intro d
    induction d with
    | zero =>
      intro m hd hm
      obtain rfl : m = L.length := by omega
      have : ¬ ((L.length : Int) < (L.length : Int)) := by omega
      refine El.step (fun _ _ => by rw [typing_Table_Users.l0]) ?_
      dsimp only
      rw [decide_eq_false this]
      exact El.cf rfl El.pure
    | succ d ih =>
      intro m hd hm
      have hlt : m < L.length := by omega
      obtain ⟨b, bv, b1⟩ := types_val (h := h) hb hs room (L.getD m default).fUser at_
      have hb2 : b = false := by
        rcases bv with ⟨x, x1, _, _, x4⟩ | ⟨_, h2⟩
        · rw [x4, decide_eq_false (hn x x1), Bool.and_false]
        · exact h2
      subst hb2
      refine El.step (fun _ _ => by rw [typing_Table_Users.l0]) ?_
      simp only [inc_nat (show m ≤ 1000000 by omega), Int.toNat_natCast]
      refine El.ct (decide_eq_true (by omega)) (El.grd ⟨by omega, by omega⟩ (El.cond (fun _ => El.bind b1.el (El.cf rfl (ih (m + 1) (by omega) (by omega)))) fun _ => ih (m + 1) (by omega) (by omega)))
  exact Ev.bind (key _ 0 rfl (by omega)).diag Ev.pure
end
end Go.Proofs.YtmbodanckhidiaaGreat
