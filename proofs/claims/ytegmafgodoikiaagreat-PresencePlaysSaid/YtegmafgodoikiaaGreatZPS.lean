/- Plain: rows by their keys. -/
import Derived.Test.YtegmafgodoikiaaGreatZPD
set_option linter.all false
set_option maxRecDepth 10000
namespace Go.Proofs.YtegmafgodoikiaaGreat
open Go Go.Sp
/-- In a row by room and user, each once. -/
def Srt (l : List Edu) : Prop := ∀ i j, i < j → j < l.length → ltK (l.getD i default) (l.getD j default) = true
/-- Where one belongs. -/
structure At (l : List Edu) (e : Edu) (p : Nat) : Prop where
  le : p ≤ l.length
  lo : ∀ m, m < p → ltK (l.getD m default) e = true
  hi : ∀ m, p ≤ m → m < l.length → ltK (l.getD m default) e = false
/-- Where it stands behind, it is laid in. -/
def cut (L : List Edu) (e : Edu) (p : Nat) : Nat := if p < L.length ∧ same (L.getD p default) e then p + 1 else p
def old (L : List Edu) (e : Edu) (p : Nat) : Bool := decide (p < L.length ∧ same (L.getD p default) e ∧ cmpE e (L.getD p default) ≤ 0)
theorem srt_pw {l : List Edu} : Srt l ↔ l.Pairwise (fun a b => ltK a b = true) := by
  rw [List.pairwise_iff_getElem]
  constructor
  · intro h i j hi hj hij
    have := h i j hij hj
    rw [List.getD_eq_getElem?_getD, List.getD_eq_getElem?_getD, List.getElem?_eq_getElem hi, List.getElem?_eq_getElem hj] at this
    exact this
  · intro h i j hij hj
    rw [List.getD_eq_getElem?_getD, List.getD_eq_getElem?_getD, List.getElem?_eq_getElem (by omega : i < l.length), List.getElem?_eq_getElem hj]
    exact h i j (by omega) hj hij
section
variable {L : List Edu} {e : Edu} {p : Nat}
theorem At.gt (hs : Srt L) (hp : At L e p) : ∀ j, cut L e p ≤ j → j < L.length → ltK e (L.getD j default) = true := by
  intro j hj1 hj2
  by_cases hh : p < L.length ∧ same (L.getD p default) e
  · rw [show cut L e p = p + 1 from if_pos hh] at hj1
    rw [same_ltK ⟨hh.2.1.symm, hh.2.2.symm⟩]; exact hs p j hj1 hj2
  · rw [show cut L e p = p from if_neg hh] at hj1
    have hpl : p < L.length := by omega
    have h1 := hp.hi p (Nat.le_refl _) hpl
    have h2 : ¬ same (L.getD p default) e := fun h => hh ⟨hpl, h⟩
    have h3 : ltK e (L.getD p default) = true := by
      have a := keyC_lt (a := L.getD p default) (b := e)
      have b := keyC_eq (a := L.getD p default) (b := e)
      rw [← keyC_gt]
      rw [h1] at a
      rw [← b] at h2
      have : ¬ keyC (L.getD p default) e < 0 := fun h => by have := a.1 h; cases this
      omega
    rcases Nat.lt_or_ge p j with h | h
    · exact ltK_trans h3 (hs p j h hj2)
    · obtain rfl : j = p := by omega
      exact h3
theorem cut_le (hp : At L e p) : p ≤ cut L e p ∧ cut L e p ≤ L.length := by
  unfold cut
  split
  · rename_i h; exact ⟨by omega, h.1⟩
  · exact ⟨Nat.le_refl _, hp.le⟩
theorem Srt.ins (hs : Srt L) (hp : At L e p) : Srt (L.take p ++ e :: L.drop (cut L e p)) := by
  have hc := cut_le hp
  rw [srt_pw] at *
  have hs' : Srt L := srt_pw.2 hs
  rw [List.pairwise_append, List.pairwise_cons]
  refine ⟨hs.sublist (List.take_sublist _ _), ⟨fun x hx => ?_, hs.sublist (List.drop_sublist _ _)⟩, fun x hx y hy => ?_⟩
  · obtain ⟨m, m1, m2, rfl⟩ := mem_drop (d := default) hx
    exact hp.gt hs' m m1 m2
  · obtain ⟨m, m1, m2, rfl⟩ := mem_take (d := default) hx
    rcases List.mem_cons.1 hy with rfl | hy
    · exact hp.lo m m1
    · obtain ⟨q, q1, q2, rfl⟩ := mem_drop (d := default) hy
      exact hs' m q (by omega) q2
theorem mem_new (hs : Srt L) (hp : At L e p) (x : Edu) : x ∈ L.take p ++ e :: L.drop (cut L e p) ↔ x = e ∨ (x ∈ L ∧ ¬ same x e) := by
  have hc := cut_le hp
  constructor
  · intro h
    rcases List.mem_append.1 h with h | h
    · obtain ⟨m, m1, m2, rfl⟩ := mem_take (d := default) h
      exact .inr ⟨getD_mem m2, ltK_not_same (hp.lo m m1)⟩
    · rcases List.mem_cons.1 h with h | h
      · exact .inl h
      · obtain ⟨m, m1, m2, rfl⟩ := mem_drop (d := default) h
        exact .inr ⟨getD_mem m2, fun k => ltK_not_same (hp.gt hs m m1 m2) ⟨k.1.symm, k.2.symm⟩⟩
  · rintro (rfl | ⟨h, k⟩)
    · exact List.mem_append_right _ (List.mem_cons_self ..)
    · obtain ⟨m, m1, rfl⟩ := mem_get default h
      rcases Nat.lt_or_ge m p with h1 | h1
      · refine List.mem_append_left _ ?_
        rw [List.mem_iff_getElem]
        exact ⟨m, by rw [List.length_take]; omega, by rw [List.getElem_take, List.getD_eq_getElem?_getD, List.getElem?_eq_getElem m1]; rfl⟩
      · refine List.mem_append_right _ (List.mem_cons_of_mem _ ?_)
        have hcm : cut L e p ≤ m := by
          unfold cut
          split
          · rename_i hh
            rcases Nat.lt_or_ge p m with h3 | h3
            · exact h3
            · obtain rfl : m = p := by omega
              exact absurd hh.2 k
          · exact h1
        rw [List.mem_iff_getElem]
        refine ⟨m - cut L e p, by rw [List.length_drop]; omega, ?_⟩
        rw [List.getElem_drop, List.getD_eq_getElem?_getD, List.getElem?_eq_getElem m1]
        simp only [Option.getD_some]
        congr 1; omega
theorem srt_same (hs : Srt L) {x y : Edu} (hx : x ∈ L) (hy : y ∈ L) (h : same x y) : x = y := by
  obtain ⟨i, i1, rfl⟩ := mem_get default hx
  obtain ⟨j, j1, rfl⟩ := mem_get default hy
  rcases Nat.lt_trichotomy i j with k | rfl | k
  · exact absurd h (ltK_not_same (hs i j k j1))
  · rfl
  · exact absurd ⟨h.1.symm, h.2.symm⟩ (ltK_not_same (hs j i k i1))
theorem new_len (hp : At L e p) : L.length ≤ (L.take p ++ e :: L.drop (cut L e p)).length ∧ (L.take p ++ e :: L.drop (cut L e p)).length ≤ L.length + 1 := by
  have h1 := cut_le hp
  have h2 : cut L e p ≤ p + 1 := by unfold cut; split <;> omega
  simp only [List.length_append, List.length_take, List.length_cons, List.length_drop]
  omega
end
end Go.Proofs.YtegmafgodoikiaaGreat
