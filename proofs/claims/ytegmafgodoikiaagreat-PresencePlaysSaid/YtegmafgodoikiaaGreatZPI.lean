/- Plain: how one is there. -/
import Derived.Test.YtegmafgodoikiaaGreatZPH
set_option linter.all false
set_option maxRecDepth 10000
namespace Go.Proofs.YtegmafgodoikiaaGreat
open Go Go.Sp
theorem put_next {t : PTab} {Z : List (Edu × Int)} {n : Nat} {e : Edu} (R : Rel t Z n) (hn : n ≤ 1000) (he : OkE e) : ∃ Z' b t', Ev (fun k => concourseref15_Put.f k ⟨Z.map (·.1), Z.map (·.2)⟩ e) (⟨Z'.map (·.1), Z'.map (·.2)⟩, b, 0) ∧ Ev (fun k => presence_Table_Put.f k t e) (b, 0, t') ∧ Rel t' Z' (n + 1) := by
  obtain ⟨p, hp, h1, t', h2, h3⟩ := put_both R hn he
  cases ho : old (Z.map (·.1)) e p with
  | true => rw [ho] at h1 h2 h3; exact ⟨Z, false, t', h1, h2, h3⟩
  | false => rw [ho] at h1 h2 h3; exact ⟨newZ Z e p, true, t', h1, h2, h3⟩
theorem rel_mono {t : PTab} {Z : List (Edu × Int)} {n m : Nat} (R : Rel t Z n) (h : n ≤ m) : Rel t Z m := ⟨R.fl, R.srt, R.ok, R.idx, R.ord, by have := R.ln; omega, by have := R.hn; omega, R.cont⟩
theorem rel_ok {t : PTab} {Z : List (Edu × Int)} {n : Nat} (R : Rel t Z n) : ∀ x ∈ Z.map (·.1), OkE x := fun x hx => by obtain ⟨q, hq, rfl⟩ := List.mem_map.1 hx; exact R.ok q hq
theorem new_eq : presence_New.f = some ⟨[], ⟨[], []⟩⟩ := rfl
section
variable {L : List Edu} {e : Edu} {p : Nat} {user : ByteArray} {at_ : Int}
/-- What is told of one: by the EDU of its key. -/
def Val (L : List Edu) (user : ByteArray) (at_ : Int) (b : Int) : Prop := (∃ x, x ∈ L ∧ x.fUser = user ∧ b = stateV x at_) ∨ ((∀ x, x ∈ L → x.fUser ≠ user) ∧ b = 0)
theorem state_val {h : HHeap} (hb : L.length ≤ 100000) (hs : Srt L) (ok : ∀ x ∈ L, OkE x) (user : ByteArray) (at_ : Int) : ∃ b, Val L user at_ b ∧ Ev (fun k => presence_Table_State.f k ⟨L, h⟩ user at_) b := by
  obtain ⟨p, hp, hev⟩ := at_ex (l := L) (by omega) hs (⟨0, ⟨#[]⟩, user, ⟨#[]⟩, ⟨#[]⟩, false, false, 0, 0, 0, 0⟩ : Edu) h
  unfold presence_Table_State.f
  dsimp only at hev ⊢
  by_cases hh : p < L.length ∧ same (L.getD p default) (⟨0, ⟨#[]⟩, user, ⟨#[]⟩, ⟨#[]⟩, false, false, 0, 0, 0, 0⟩ : Edu)
  · have hhas : (decide (p < L.length) && decide (same (L.getD p default) (⟨0, ⟨#[]⟩, user, ⟨#[]⟩, ⟨#[]⟩, false, false, 0, 0, 0, 0⟩ : Edu))) = true := by rw [decide_eq_true hh.1, decide_eq_true hh.2]; rfl
    rw [hhas] at hev
    have h1 := hh.1
    refine ⟨stateV (L.getD p default) at_, .inl ⟨L.getD p default, getD_mem h1, hh.2.1, rfl⟩, Ev.bind hev (Ev.cf rfl (Ev.grd ⟨by omega, by show (p : Int) < _; omega⟩ (Ev.bind (a := stateV (L.getD p default) at_) (Ev.of ?_) Ev.pure)))⟩
    show presence_state.f (L.getD (p : Int).toNat default) at_ = _
    rw [Int.toNat_natCast]; exact state_eq (ok _ (getD_mem h1)) at_
  · have hhas : (decide (p < L.length) && decide (same (L.getD p default) (⟨0, ⟨#[]⟩, user, ⟨#[]⟩, ⟨#[]⟩, false, false, 0, 0, 0, 0⟩ : Edu))) = false := by
      rw [Bool.and_eq_false_iff]
      by_cases h : p < L.length
      · exact .inr (decide_eq_false fun h2 => hh ⟨h, h2⟩)
      · exact .inl (decide_eq_false h)
    rw [hhas] at hev
    have hcut : cut L (⟨0, ⟨#[]⟩, user, ⟨#[]⟩, ⟨#[]⟩, false, false, 0, 0, 0, 0⟩ : Edu) p = p := if_neg hh
    have hgt := hp.gt hs
    rw [hcut] at hgt
    refine ⟨0, .inr ⟨fun x hx h => ?_, rfl⟩, Ev.bind hev (Ev.ct rfl Ev.pure)⟩
    obtain ⟨m, m1, rfl⟩ := mem_get default hx
    rcases Nat.lt_or_ge m p with h1 | h1
    · exact ltK_not_same (hp.lo m h1) ⟨h, h⟩
    · exact ltK_not_same (hgt m h1 m1) ⟨h.symm, h.symm⟩
theorem Val.uniq (hs : Srt L) {b b' : Int} (h : Val L user at_ b) (h' : Val L user at_ b') : b = b' := by
  rcases h with ⟨x, x1, x2, x4⟩ | ⟨h1, h2⟩ <;> rcases h' with ⟨y, y1, y2, y4⟩ | ⟨h3, h4⟩
  · obtain rfl := srt_same hs x1 y1 ⟨x2.trans y2.symm, x2.trans y2.symm⟩
    rw [x4, y4]
  · exact absurd x2 (h3 x x1)
  · exact absurd y2 (h1 y y1)
  · rw [h2, h4]
theorem Val.other (hs : Srt L) (hp : At L e p) {b : Int} (hne : e.fUser ≠ user) : Val (L.take p ++ e :: L.drop (cut L e p)) user at_ b ↔ Val L user at_ b := by
  unfold Val
  have key : ∀ x : Edu, x.fUser = user → (x ∈ L.take p ++ e :: L.drop (cut L e p) ↔ x ∈ L) := fun x hx => by
    rw [mem_new hs hp]
    constructor
    · rintro (rfl | h)
      · exact absurd hx hne
      · exact h.1
    · intro h
      exact .inr ⟨h, fun k => hne (k.1.symm.trans hx)⟩
  constructor
  · rintro (⟨x, x1, x2, x4⟩ | ⟨h1, h2⟩)
    · exact .inl ⟨x, (key x x2).1 x1, x2, x4⟩
    · exact .inr ⟨fun x hx k => h1 x ((key x k).2 hx) k, h2⟩
  · rintro (⟨x, x1, x2, x4⟩ | ⟨h1, h2⟩)
    · exact .inl ⟨x, (key x x2).2 x1, x2, x4⟩
    · exact .inr ⟨fun x hx k => h1 x ((key x k).1 hx) k, h2⟩
end
end Go.Proofs.YtegmafgodoikiaaGreat
