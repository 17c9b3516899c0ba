/- Plain: what a table holds behind what was put. -/
import Derived.Test.YtmbodanckhidiaaGreatZPI2
set_option linter.all false
set_option maxRecDepth 10000
namespace Go.Proofs.YtmbodanckhidiaaGreat
open Go Go.Sp
/-- Both, of one EDU: what comes. -/
theorem put_next {t : TTab} {Z : List (Edu × Bool)} {n : Nat} {e : Edu} (R : Rel t Z n) (hn : n ≤ 1000) (he : OkE e) : ∃ Z' b t', Ev (fun k => concourseref14_Put.f k ⟨Z.map (·.1), Z.map (·.2)⟩ e) (⟨Z'.map (·.1), Z'.map (·.2)⟩, b, 0) ∧ Ev (fun k => typing_Table_Put.f k t e) (b, 0, t') ∧ Rel t' Z' (n + 1) := by
  obtain ⟨p, hp, h1, t', h2, h3⟩ := put_both R hn he
  cases ho : old (Z.map (·.1)) e p with
  | true => rw [ho] at h1 h2 h3; exact ⟨Z, false, t', h1, h2, h3⟩
  | false => rw [ho] at h1 h2 h3; exact ⟨newZ Z e p, true, t', h1, h2, h3⟩
theorem rel_mono {t : TTab} {Z : List (Edu × Bool)} {n m : Nat} (R : Rel t Z n) (h : n ≤ m) : Rel t Z m := ⟨R.fl, R.srt, R.ok, R.idx, R.ord, by have := R.ln; omega, by have := R.hn; omega, R.cont⟩
theorem new_eq : typing_New.f = some ⟨[], ⟨[], []⟩⟩ := rfl
section
variable {L : List Edu} {e : Edu} {p : Nat}
theorem Val.uniq (hs : Srt L) {room user : ByteArray} {at_ : Int} {b b' : Bool} (h : Val L room user at_ b) (h' : Val L room user at_ b') : b = b' := by
  rcases h with ⟨x, x1, x2, x3, x4⟩ | ⟨h1, h2⟩ <;> rcases h' with ⟨y, y1, y2, y3, y4⟩ | ⟨h3, h4⟩
  · obtain rfl := srt_same hs x1 y1 ⟨x2.trans y2.symm, x3.trans y3.symm⟩
    rw [x4, y4]
  · exact absurd ⟨x2, x3⟩ (h3 x x1)
  · exact absurd ⟨y2, y3⟩ (h1 y y1)
  · rw [h2, h4]
theorem Val.other (hs : Srt L) (hp : At L e p) {room user : ByteArray} {at_ : Int} {b : Bool} (hne : ¬ (e.fRoom = room ∧ e.fUser = user)) : Val (L.take p ++ e :: L.drop (cut L e p)) room user at_ b ↔ Val L room user at_ b := by
  unfold Val
  have key : ∀ x : Edu, x.fRoom = room ∧ x.fUser = user → (x ∈ L.take p ++ e :: L.drop (cut L e p) ↔ x ∈ L) := fun x hx => by
    rw [mem_new hs hp]
    constructor
    · rintro (rfl | h)
      · exact absurd hx hne
      · exact h.1
    · intro h
      exact .inr ⟨h, fun k => hne ⟨k.1.symm.trans hx.1, k.2.symm.trans hx.2⟩⟩
  constructor
  · rintro (⟨x, x1, x2, x3, x4⟩ | ⟨h1, h2⟩)
    · exact .inl ⟨x, (key x ⟨x2, x3⟩).1 x1, x2, x3, x4⟩
    · exact .inr ⟨fun x hx k => h1 x ((key x k).2 hx) k, h2⟩
  · rintro (⟨x, x1, x2, x3, x4⟩ | ⟨h1, h2⟩)
    · exact .inl ⟨x, (key x ⟨x2, x3⟩).2 x1, x2, x3, x4⟩
    · exact .inr ⟨fun x hx k => h1 x ((key x k).1 hx) k, h2⟩
end
theorem all_eq {t : TTab} (h : t.fl.length ≤ 100000) : typing_Table_All.f t = some t.fl := by
  unfold typing_Table_All.f slices_Clone_Edu.f
  simp only [grd]
  rw [if_pos ⟨by omega, by omega⟩]; rfl
end Go.Proofs.YtmbodanckhidiaaGreat
