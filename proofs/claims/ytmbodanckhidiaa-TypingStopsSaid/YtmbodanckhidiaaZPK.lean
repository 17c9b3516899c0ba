/- Plain: what a table holds behind what was put. -/
import Derived.Test.YtmbodanckhidiaaZPI
import Derived.Test.YtmbodanckhidiaaZOk
set_option linter.all false
set_option maxRecDepth 10000
namespace Go.Proofs.Ytmbodanckhidiaa
open Go Go.Sp
theorem i64_of {n : Int} (h : (Lit.int .i64 n).wf = true) : I64 n := by
  have h' : IntKind.i64.min ≤ n ∧ n ≤ 9223372036854775807 := by simpa [Lit.wf] using h
  have e : IntKind.i64.min = -9223372036854775808 := by decide
  unfold I64
  omega
theorem wf_of {e : Edu} (h : Edu.ok e) : Wf e := by
  obtain ⟨h1, h2, h3, h4, h5, h6, h7, h8, h9, h10, h11, _⟩ := h
  exact ⟨i64_of h1, i64_of h8, i64_of h9, i64_of h10, i64_of h11⟩
/-- Both, of one EDU: what comes. -/
theorem put_next {t : TTab} {Z : List (Edu × Bool)} {n : Nat} {e : Edu} (R : Rel t Z n) (hn : n ≤ 1000) (he : OkE e) : ∃ Z' b t', Ev (fun k => concourseref14_Put.f k ⟨Z.map (·.1), Z.map (·.2)⟩ e) (⟨Z'.map (·.1), Z'.map (·.2)⟩, b, 0) ∧ Ev (fun k => typing_Table_Put.f k t e) (b, 0, t') ∧ Rel t' Z' (n + 1) := by
  obtain ⟨p, hp, h1, t', h2, h3⟩ := put_both R hn he
  cases ho : old (Z.map (·.1)) e p with
  | true => rw [ho] at h1 h2 h3; exact ⟨Z, false, t', h1, h2, h3⟩
  | false => rw [ho] at h1 h2 h3; exact ⟨newZ Z e p, true, t', h1, h2, h3⟩
theorem rel_mono {t : TTab} {Z : List (Edu × Bool)} {n m : Nat} (R : Rel t Z n) (h : n ≤ m) : Rel t Z m := ⟨R.fl, R.srt, R.ok, R.idx, by have := R.ln; omega, by have := R.hn; omega, R.cont⟩
theorem new_eq : typing_New.f = some ⟨[], ⟨[], []⟩⟩ := rfl
section
variable {L : List Edu} {e : Edu} {p : Nat}
theorem mem_new (hs : Srt L) (hp : At L e p) (x : Edu) : x ∈ L.take p ++ e :: L.drop (cut L e p) ↔ x = e ∨ (x ∈ L ∧ ¬ same x e) := by
  have hc := cut_le hp
  constructor
  · intro h
    rcases List.mem_append.1 h with h | h
    · obtain ⟨m, m1, m2, rfl⟩ := mem_take (d := default) h
      exact .inr ⟨getD_mem m2, ltK_not_same (hp.lo m m1)⟩
    · rcases List.mem_cons.1 h with h | h
      · exact .inl h
      · obtain ⟨m, m1, m2, rfl⟩ := mem_drop (d := default) h
        exact .inr ⟨getD_mem m2, fun k => ltK_not_same (hp.gt hs m m1 m2) ⟨k.1.symm, k.2.symm⟩⟩
  · rintro (rfl | ⟨h, k⟩)
    · exact List.mem_append_right _ (List.mem_cons_self ..)
    · obtain ⟨m, m1, rfl⟩ := mem_get default h
      rcases Nat.lt_or_ge m p with h1 | h1
      · refine List.mem_append_left _ ?_
        rw [List.mem_iff_getElem]
        exact ⟨m, by rw [List.length_take]; omega, by rw [List.getElem_take, List.getD_eq_getElem?_getD, List.getElem?_eq_getElem m1]; rfl⟩
      · refine List.mem_append_right _ (List.mem_cons_of_mem _ ?_)
        have hcm : cut L e p ≤ m := by
          unfold cut
          split
          · rename_i hh
            rcases Nat.lt_or_ge p m with h3 | h3
            · exact h3
            · obtain rfl : m = p := by omega
              exact absurd hh.2 k
          · exact h1
        rw [List.mem_iff_getElem]
        refine ⟨m - cut L e p, by rw [List.length_drop]; omega, ?_⟩
        rw [List.getElem_drop, List.getD_eq_getElem?_getD, List.getElem?_eq_getElem m1]
        simp only [Option.getD_some]
        congr 1; omega
theorem srt_same (hs : Srt L) {x y : Edu} (hx : x ∈ L) (hy : y ∈ L) (h : same x y) : x = y := by
  obtain ⟨i, i1, rfl⟩ := mem_get default hx
  obtain ⟨j, j1, rfl⟩ := mem_get default hy
  rcases Nat.lt_trichotomy i j with k | rfl | k
  · exact absurd h (ltK_not_same (hs i j k j1))
  · rfl
  · exact absurd ⟨h.1.symm, h.2.symm⟩ (ltK_not_same (hs j i k i1))
theorem Val.uniq (hs : Srt L) {room user : ByteArray} {at_ : Int} {b b' : Bool} (h : Val L room user at_ b) (h' : Val L room user at_ b') : b = b' := by
  rcases h with ⟨x, x1, x2, x3, x4⟩ | ⟨h1, h2⟩ <;> rcases h' with ⟨y, y1, y2, y3, y4⟩ | ⟨h3, h4⟩
  · obtain rfl := srt_same hs x1 y1 ⟨x2.trans y2.symm, x3.trans y3.symm⟩
    rw [x4, y4]
  · exact absurd ⟨x2, x3⟩ (h3 x x1)
  · exact absurd ⟨y2, y3⟩ (h1 y y1)
  · rw [h2, h4]
theorem Val.other (hs : Srt L) (hp : At L e p) {room user : ByteArray} {at_ : Int} {b : Bool} (hne : ¬ (e.fRoom = room ∧ e.fUser = user)) : Val (L.take p ++ e :: L.drop (cut L e p)) room user at_ b ↔ Val L room user at_ b := by
  unfold Val
  have key : ∀ x : Edu, x.fRoom = room ∧ x.fUser = user → (x ∈ L.take p ++ e :: L.drop (cut L e p) ↔ x ∈ L) := fun x hx => by
    rw [mem_new hs hp]
    constructor
    · rintro (rfl | h)
      · exact absurd hx hne
      · exact h.1
    · intro h
      exact .inr ⟨h, fun k => hne ⟨k.1.symm.trans hx.1, k.2.symm.trans hx.2⟩⟩
  constructor
  · rintro (⟨x, x1, x2, x3, x4⟩ | ⟨h1, h2⟩)
    · exact .inl ⟨x, (key x ⟨x2, x3⟩).1 x1, x2, x3, x4⟩
    · exact .inr ⟨fun x hx k => h1 x ((key x k).2 hx) k, h2⟩
  · rintro (⟨x, x1, x2, x3, x4⟩ | ⟨h1, h2⟩)
    · exact .inl ⟨x, (key x ⟨x2, x3⟩).2 x1, x2, x3, x4⟩
    · exact .inr ⟨fun x hx k => h1 x ((key x k).1 hx) k, h2⟩
theorem new_len (hp : At L e p) : L.length ≤ (L.take p ++ e :: L.drop (cut L e p)).length ∧ (L.take p ++ e :: L.drop (cut L e p)).length ≤ L.length + 1 := by
  have h1 := cut_le hp
  have h2 : cut L e p ≤ p + 1 := by unfold cut; split <;> omega
  simp only [List.length_append, List.length_take, List.length_cons, List.length_drop]
  omega
end
theorem all_eq {t : TTab} (h : t.fl.length ≤ 100000) : typing_Table_All.f t = some t.fl := by
  unfold typing_Table_All.f slices_Clone.f
  simp only [grd]
  rw [if_pos ⟨by omega, by omega⟩]; rfl
end Go.Proofs.Ytmbodanckhidiaa
