/- Plain: who types, told by both. -/
import Derived.Test.YtmbodanckhidiaaZPH
set_option linter.all false
set_option maxRecDepth 10000
namespace Go.Proofs.Ytmbodanckhidiaa
open Go Go.Sp
section
variable {L : List Edu} {T : List Bool} {room user : ByteArray} {at_ : Int}
theorem inc_nat {m : Nat} (h : m ≤ 1000000) : w64 ((m : Int) + 1) = ((m + 1 : Nat) : Int) := by rw [w64_id (by omega) (by omega)]; omega
theorem reftypes_skip {m : Nat} (hb : L.length ≤ 100000) (hm : m < L.length) (hs : ¬ ((L.getD m default).fRoom = room ∧ (L.getD m default).fUser = user)) {v} (G : El (fun k j => concourseref14_Types.l0 k ⟨L, T⟩ room user at_ j ((m + 1 : Nat) : Int)) v) : El (fun k j => concourseref14_Types.l0 k ⟨L, T⟩ room user at_ j (m : Int)) v := by
  refine El.step (fun _ _ => by rw [concourseref14_Types.l0]) ?_
  simp only [inc_nat (show m ≤ 1000000 by omega), at_nat]
  refine El.ct (decide_eq_true (by omega)) (El.grd ⟨by omega, by omega⟩ ?_)
  by_cases hr : (L.getD m default).fRoom = room
  · exact El.ct (decide_eq_true hr) (El.grd ⟨by omega, by omega⟩ (El.cf (decide_eq_false fun h => hs ⟨hr, h⟩) G))
  · exact El.cf (decide_eq_false hr) G
theorem reftypes_upto {p : Nat} (hb : L.length ≤ 100000) (hp : p ≤ L.length) (hs : ∀ m, m < p → ¬ ((L.getD m default).fRoom = room ∧ (L.getD m default).fUser = user)) {v} (G : El (fun k j => concourseref14_Types.l0 k ⟨L, T⟩ room user at_ j (p : Int)) v) : ∀ d m, p - m ≤ d → m ≤ p → El (fun k j => concourseref14_Types.l0 k ⟨L, T⟩ room user at_ j (m : Int)) v := by
  intro d
  induction d with
  | zero => intro m hd hm; obtain rfl : m = p := by omega
            exact G
  | succ d ih =>
    intro m hd hm
    by_cases hlt : m < p
    · exact reftypes_skip hb (by omega) (hs m hlt) (ih (m + 1) (by omega) (by omega))
    · obtain rfl : m = p := by omega
      exact G
/-- What is told of one: by the EDU of its key. -/
def Val (L : List Edu) (room user : ByteArray) (at_ : Int) (b : Bool) : Prop := (∃ x, x ∈ L ∧ x.fRoom = room ∧ x.fUser = user ∧ b = (x.fOn && decide (at_ < w64 (x.fTick + x.fSpan)))) ∨ ((∀ x, x ∈ L → ¬ (x.fRoom = room ∧ x.fUser = user)) ∧ b = false)
theorem types_val {h : HHeap} (hb : L.length ≤ 100000) (hs : Srt L) (room user : ByteArray) (at_ : Int) : ∃ b, Val L room user at_ b ∧ Ev (fun k => typing_Table_Types.f k ⟨L, h⟩ room user at_) b ∧ Ev (fun k => concourseref14_Types.f k ⟨L, T⟩ room user at_) b := by
  obtain ⟨p, hp, hev⟩ := at_ex (l := L) (by omega) hs (⟨0, room, user, ⟨#[]⟩, ⟨#[]⟩, false, false, 0, 0, 0, 0⟩ : Edu) h
  have hlo : ∀ m, m < p → ¬ ((L.getD m default).fRoom = room ∧ (L.getD m default).fUser = user) := fun m hm h => ltK_not_same (hp.lo m hm) h
  have up : ∀ {v}, El (fun k j => concourseref14_Types.l0 k ⟨L, T⟩ room user at_ j (p : Int)) v → El (fun k j => concourseref14_Types.l0 k ⟨L, T⟩ room user at_ j 0) v := fun G => reftypes_upto hb hp.le hlo G p 0 (by omega) (by omega)
  unfold typing_Table_Types.f concourseref14_Types.f
  dsimp only
  by_cases hh : p < L.length ∧ same (L.getD p default) (⟨0, room, user, ⟨#[]⟩, ⟨#[]⟩, false, false, 0, 0, 0, 0⟩ : Edu)
  · have hhas : (decide (p < L.length) && decide (same (L.getD p default) (⟨0, room, user, ⟨#[]⟩, ⟨#[]⟩, false, false, 0, 0, 0, 0⟩ : Edu))) = true := by rw [decide_eq_true hh.1, decide_eq_true hh.2]; rfl
    rw [hhas] at hev
    have h1 := hh.1
    have hr : (L.getD p default).fRoom = room := hh.2.1
    have hu : (L.getD p default).fUser = user := hh.2.2
    cases ho : (L.getD p default).fOn with
    | true =>
      have G : El (fun k j => concourseref14_Types.l0 k ⟨L, T⟩ room user at_ j (p : Int)) (.inr (decide (at_ < w64 ((L.getD p default).fTick + (L.getD p default).fSpan)))) := by
        refine El.step (fun _ _ => by rw [concourseref14_Types.l0]) ?_
        simp only [at_nat]
        exact El.ct (decide_eq_true (by omega)) (El.grd ⟨by omega, by omega⟩ (El.ct (decide_eq_true hr) (El.grd ⟨by omega, by omega⟩ (El.ct (decide_eq_true hu) (El.grd ⟨by omega, by omega⟩ (El.ct ho (El.grd ⟨by omega, by omega⟩ (El.grd ⟨by omega, by omega⟩ El.pure))))))))
      refine ⟨_, .inl ⟨L.getD p default, getD_mem h1, hr, hu, by rw [ho]; rfl⟩, Ev.bind hev (Ev.ct rfl (Ev.grd ⟨by omega, by show (p : Int) < _; omega⟩ (Ev.ct ?_ (Ev.grd ⟨by omega, by show (p : Int) < _; omega⟩ (Ev.bind (Ev.of rfl) Ev.pure))))), Ev.bind (up G).diag Ev.pure⟩
      show (L.getD (p : Int).toNat default).fOn = true
      rw [Int.toNat_natCast]; exact ho
    | false =>
      have G : El (fun k j => concourseref14_Types.l0 k ⟨L, T⟩ room user at_ j (p : Int)) (.inr false) := by
        refine El.step (fun _ _ => by rw [concourseref14_Types.l0]) ?_
        simp only [at_nat]
        exact El.ct (decide_eq_true (by omega)) (El.grd ⟨by omega, by omega⟩ (El.ct (decide_eq_true hr) (El.grd ⟨by omega, by omega⟩ (El.ct (decide_eq_true hu) (El.grd ⟨by omega, by omega⟩ (El.cf ho El.pure))))))
      refine ⟨false, .inl ⟨L.getD p default, getD_mem h1, hr, hu, by rw [ho]; rfl⟩, Ev.bind hev (Ev.ct rfl (Ev.grd ⟨by omega, by show (p : Int) < _; omega⟩ (Ev.cf ?_ Ev.pure))), Ev.bind (up G).diag Ev.pure⟩
      show (L.getD (p : Int).toNat default).fOn = false
      rw [Int.toNat_natCast]; exact ho
  · have hhas : (decide (p < L.length) && decide (same (L.getD p default) (⟨0, room, user, ⟨#[]⟩, ⟨#[]⟩, false, false, 0, 0, 0, 0⟩ : Edu))) = false := by
      rw [Bool.and_eq_false_iff]
      by_cases h : p < L.length
      · exact .inr (decide_eq_false fun h2 => hh ⟨h, h2⟩)
      · exact .inl (decide_eq_false h)
    rw [hhas] at hev
    have hcut : cut L (⟨0, room, user, ⟨#[]⟩, ⟨#[]⟩, false, false, 0, 0, 0, 0⟩ : Edu) p = p := if_neg hh
    have hgt := hp.gt hs
    rw [hcut] at hgt
    have G : El (fun k j => concourseref14_Types.l0 k ⟨L, T⟩ room user at_ j (L.length : Int)) (.inl ((L.length : Int), false)) := by
      refine El.step (fun _ _ => by rw [concourseref14_Types.l0]) ?_
      have : ¬ ((L.length : Int) < (L.length : Int)) := by omega
      dsimp only
      rw [decide_eq_false this]
      exact El.cf rfl El.pure
    have hno : ∀ m, m < L.length → ¬ ((L.getD m default).fRoom = room ∧ (L.getD m default).fUser = user) := fun m hm h => by
      rcases Nat.lt_or_ge m p with h1 | h1
      · exact hlo m h1 h
      · exact ltK_not_same (hgt m h1 hm) ⟨h.1.symm, h.2.symm⟩
    have G2 := reftypes_upto (T := T) (at_ := at_) hb (Nat.le_refl _) hno G L.length 0 (by omega) (by omega)
    exact ⟨false, .inr ⟨fun x hx h => (by obtain ⟨m, m1, rfl⟩ := mem_get default hx; exact hno m m1 h), rfl⟩, Ev.bind hev (Ev.cf rfl Ev.pure), Ev.bind G2.diag Ev.pure⟩
theorem types_both {h : HHeap} (hb : L.length ≤ 100000) (hs : Srt L) (room user : ByteArray) (at_ : Int) : ∃ b, Ev (fun k => typing_Table_Types.f k ⟨L, h⟩ room user at_) b ∧ Ev (fun k => concourseref14_Types.f k ⟨L, T⟩ room user at_) b := by
  obtain ⟨b, _, h1, h2⟩ := types_val (T := T) (h := h) hb hs room user at_
  exact ⟨b, h1, h2⟩
theorem users_loop {h : HHeap} (hb : L.length ≤ 100000) (hs : Srt L) (room : ByteArray) (at_ : Int) : ∀ (d m : Nat) (us : List ByteArray), L.length - m ≤ d → m ≤ L.length → us.length ≤ m →
    ∃ vs, vs.length ≤ L.length ∧ El (fun k j => typing_Table_Users.l0 k ⟨L, h⟩ room at_ j (m : Int) us) ((L.length : Int), false, vs) ∧ El (fun k j => concourseref14_Users.l0 k ⟨L, T⟩ room at_ j (m : Int) us) ((L.length : Int), false, vs) := by
  intro d
  induction d with
  | zero =>
    intro m us hd hm hus
    obtain rfl : m = L.length := by omega
    have : ¬ ((L.length : Int) < (L.length : Int)) := by omega
    refine ⟨us, hus, ?_, ?_⟩
    · refine El.step (fun _ _ => by rw [typing_Table_Users.l0]) ?_
      dsimp only
      rw [decide_eq_false this]
      exact El.cf rfl El.pure
    · refine El.step (fun _ _ => by rw [concourseref14_Users.l0]) ?_
      dsimp only
      rw [decide_eq_false this]
      exact El.cf rfl El.pure
  | succ d ih =>
    intro m us hd hm hus
    by_cases hlt : m < L.length
    · obtain ⟨b, b1, b2⟩ := types_both (T := T) (h := h) hb hs room (L.getD m default).fUser at_
      by_cases hr : (L.getD m default).fRoom = room
      · cases b with
        | true =>
          obtain ⟨vs, v0, v1, v2⟩ := ih (m + 1) (us ++ [(L.getD m default).fUser]) (by omega) (by omega) (by simp; omega)
          refine ⟨vs, v0, ?_, ?_⟩
          · refine El.step (fun _ _ => by rw [typing_Table_Users.l0]) ?_
            simp only [inc_nat (show m ≤ 1000000 by omega), Int.toNat_natCast]
            exact El.ct (decide_eq_true (by omega)) (El.grd ⟨by omega, by omega⟩ (El.ct (decide_eq_true hr) (El.bind b1.el (El.ct rfl (El.grd ⟨by simp; omega, by simp; omega⟩ v1)))))
          · refine El.step (fun _ _ => by rw [concourseref14_Users.l0]) ?_
            simp only [inc_nat (show m ≤ 1000000 by omega), at_nat]
            exact El.ct (decide_eq_true (by omega)) (El.grd ⟨by omega, by omega⟩ (El.bind b2.el (El.grd ⟨by omega, by omega⟩ (El.ct (decide_eq_true hr) (El.ct rfl (El.grd ⟨by omega, by omega⟩ (El.grd ⟨by simp; omega, by simp; omega⟩ v2)))))))
        | false =>
          obtain ⟨vs, v0, v1, v2⟩ := ih (m + 1) us (by omega) (by omega) (by omega)
          refine ⟨vs, v0, ?_, ?_⟩
          · refine El.step (fun _ _ => by rw [typing_Table_Users.l0]) ?_
            simp only [inc_nat (show m ≤ 1000000 by omega), Int.toNat_natCast]
            exact El.ct (decide_eq_true (by omega)) (El.grd ⟨by omega, by omega⟩ (El.ct (decide_eq_true hr) (El.bind b1.el (El.cf rfl v1))))
          · refine El.step (fun _ _ => by rw [concourseref14_Users.l0]) ?_
            simp only [inc_nat (show m ≤ 1000000 by omega), at_nat]
            exact El.ct (decide_eq_true (by omega)) (El.grd ⟨by omega, by omega⟩ (El.bind b2.el (El.grd ⟨by omega, by omega⟩ (El.ct (decide_eq_true hr) (El.cf rfl v2)))))
      · obtain ⟨vs, v0, v1, v2⟩ := ih (m + 1) us (by omega) (by omega) (by omega)
        refine ⟨vs, v0, ?_, ?_⟩
        · refine El.step (fun _ _ => by rw [typing_Table_Users.l0]) ?_
          simp only [inc_nat (show m ≤ 1000000 by omega), Int.toNat_natCast]
          exact El.ct (decide_eq_true (by omega)) (El.grd ⟨by omega, by omega⟩ (El.cf (decide_eq_false hr) v1))
        · refine El.step (fun _ _ => by rw [concourseref14_Users.l0]) ?_
          simp only [inc_nat (show m ≤ 1000000 by omega), at_nat]
          exact El.ct (decide_eq_true (by omega)) (El.grd ⟨by omega, by omega⟩ (El.bind b2.el (El.grd ⟨by omega, by omega⟩ (El.cf (decide_eq_false hr) v2))))
    · exact ih m us (by omega) hm hus
theorem users_both {h : HHeap} (hb : L.length ≤ 100000) (hs : Srt L) (room : ByteArray) (at_ : Int) : ∃ vs, vs.length ≤ L.length ∧ Ev (fun k => typing_Table_Users.f k ⟨L, h⟩ room at_) vs ∧ Ev (fun k => concourseref14_Users.f k ⟨L, T⟩ room at_) vs := by
  obtain ⟨vs, v0, v1, v2⟩ := users_loop (T := T) (h := h) hb hs room at_ L.length 0 [] (by omega) (by omega) (by simp)
  exact ⟨vs, v0, Ev.bind v1.diag Ev.pure, Ev.bind v2.diag Ev.pure⟩
theorem str_nat (l : List ByteArray) (m : Nat) : strK.at l (m : Int) = l.getD m ⟨#[]⟩ := by unfold Kd.at; rw [Int.toNat_natCast]; rfl
theorem sametexts_refl {vs : List ByteArray} (hb : vs.length ≤ 100000) : Ev (fun k => concourseref01_SameTexts.f k vs vs) true := by
  have key : ∀ d m : Nat, vs.length - m ≤ d → m ≤ vs.length → El (fun k j => concourseref01_SameTexts.l0 k vs vs j (m : Int)) (.inl ((vs.length : Int), false)) := by
    intro d
    induction d with
    | zero =>
      intro m hd hm
      obtain rfl : m = vs.length := by omega
      have : ¬ ((vs.length : Int) < (vs.length : Int)) := by omega
      refine El.step (fun _ _ => by rw [concourseref01_SameTexts.l0]) ?_
      rw [decide_eq_false this]
      exact El.cf rfl El.pure
    | succ d ih =>
      intro m hd hm
      by_cases hlt : m < vs.length
      · refine El.step (fun _ _ => by rw [concourseref01_SameTexts.l0]) ?_
        simp only [inc_nat (show m ≤ 1000000 by omega)]
        exact El.ct (decide_eq_true (by omega)) (El.grd ⟨by omega, by omega⟩ (El.grd ⟨by omega, by omega⟩ (El.cf (by simp) (ih (m + 1) (by omega) (by omega)))))
      · exact ih m (by omega) hm
  unfold concourseref01_SameTexts.f
  exact Ev.cf (by simp) (Ev.bind (key vs.length 0 (by omega) (by omega)).diag Ev.pure)
end
end Go.Proofs.Ytmbodanckhidiaa
