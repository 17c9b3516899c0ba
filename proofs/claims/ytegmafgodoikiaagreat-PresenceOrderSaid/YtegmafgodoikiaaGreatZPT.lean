/- Plain: of all that was put, of each key the latest one. -/
import Derived.Test.YtegmafgodoikiaaGreatZPS
set_option linter.all false
set_option maxRecDepth 10000
namespace Go.Proofs.YtegmafgodoikiaaGreat
open Go Go.Sp
/-- Of all that was put, of each key the latest one. -/
structure Spec (L : List Edu) (S : Edu → Prop) : Prop where
  sub : ∀ x, x ∈ L → S x
  cov : ∀ y, S y → ∃ q, q ∈ L ∧ same q y ∧ cmpE y q ≤ 0
theorem Spec.step {L : List Edu} {S S' : Edu → Prop} {e : Edu} {p : Nat} (H : Spec L S) (hs : Srt L) (hp : At L e p) (hS : ∀ x, S' x ↔ x = e ∨ S x) : Spec (if old L e p then L else L.take p ++ e :: L.drop (cut L e p)) S' := by
  cases ho : old L e p with
  | true =>
    have h := of_decide_eq_true ho
    rw [if_pos rfl]
    refine ⟨fun x hx => (hS x).2 (.inr (H.sub x hx)), fun y hy => ?_⟩
    rcases (hS y).1 hy with rfl | hy
    · exact ⟨_, getD_mem h.1, h.2.1, h.2.2⟩
    · exact H.cov y hy
  | false =>
    have h := of_decide_eq_false ho
    rw [if_neg (by simp)]
    have hgt : ∀ q, q ∈ L → same q e → cmpE q e ≤ 0 := fun q hq hk => by
      obtain ⟨m, m1, rfl⟩ := mem_get default hq
      refine cmpE_total fun hc => ?_
      rcases Nat.lt_trichotomy m p with k | rfl | k
      · exact ltK_not_same (hp.lo m k) hk
      · exact h ⟨m1, hk, hc⟩
      · have hcut : cut L e p ≤ m := by unfold cut; split <;> omega
        exact ltK_not_same (hp.gt hs m hcut m1) ⟨hk.1.symm, hk.2.symm⟩
    refine ⟨fun x hx => ?_, fun y hy => ?_⟩
    · rcases (mem_new hs hp x).1 hx with rfl | ⟨hx, _⟩
      · exact (hS _).2 (.inl rfl)
      · exact (hS _).2 (.inr (H.sub x hx))
    · rcases (hS y).1 hy with rfl | hy
      · exact ⟨y, (mem_new hs hp y).2 (.inl rfl), ⟨rfl, rfl⟩, by rw [cmpE_self]; exact Int.le_refl _⟩
      · obtain ⟨q, q1, q2, q3⟩ := H.cov y hy
        by_cases hk : same q e
        · exact ⟨e, (mem_new hs hp e).2 (.inl rfl), ⟨hk.1.symm.trans q2.1, hk.2.symm.trans q2.2⟩, cmpE_trans q3 (hgt q q1 hk)⟩
        · exact ⟨q, (mem_new hs hp q).2 (.inr ⟨q1, hk⟩), q2, q3⟩
theorem srt_ext : ∀ {L L' : List Edu}, L.Pairwise (fun a b => ltK a b = true) → L'.Pairwise (fun a b => ltK a b = true) → (∀ x, x ∈ L ↔ x ∈ L') → L = L'
  | [], [], _, _, _ => rfl
  | [], b :: l', _, _, h => by have := (h b).2 (List.mem_cons_self ..); cases this
  | a :: l, [], _, _, h => by have := (h a).1 (List.mem_cons_self ..); cases this
  | a :: l, b :: l', h1, h2, h => by
    rw [List.pairwise_cons] at h1 h2
    have ir : ∀ x : Edu, ltK x x = false := fun x => by
      cases e : ltK x x with
      | false => rfl
      | true => have := ltK_asymm e; rw [e] at this; cases this
    have e : a = b := by
      rcases List.mem_cons.1 ((h a).1 (List.mem_cons_self ..)) with e | h3
      · exact e
      · rcases List.mem_cons.1 ((h b).2 (List.mem_cons_self ..)) with e | h4
        · exact e.symm
        · have k1 := h2.1 a h3
          have k2 := ltK_asymm (h1.1 b h4)
          rw [k1] at k2; cases k2
    subst e
    congr 1
    refine srt_ext h1.2 h2.2 fun x => ⟨fun hx => ?_, fun hx => ?_⟩
    · rcases List.mem_cons.1 ((h x).1 (List.mem_cons_of_mem _ hx)) with rfl | h3
      · have := h1.1 x hx; rw [ir] at this; cases this
      · exact h3
    · rcases List.mem_cons.1 ((h x).2 (List.mem_cons_of_mem _ hx)) with rfl | h3
      · have := h2.1 x hx; rw [ir] at this; cases this
      · exact h3
theorem Spec.uniq {L L' : List Edu} {S : Edu → Prop} (h : Spec L S) (h' : Spec L' S) (s : Srt L) (s' : Srt L') (ok : ∀ x ∈ L, OkE x) (ok' : ∀ x ∈ L', OkE x) : L = L' := by
  have key : ∀ {A B : List Edu}, Spec A S → Spec B S → Srt A → (∀ x ∈ A, OkE x) → (∀ x ∈ B, OkE x) → ∀ x, x ∈ A → x ∈ B := by
    intro A B hA hB sA oA oB x hx
    obtain ⟨q, q1, q2, q3⟩ := hB.cov x (hA.sub x hx)
    obtain ⟨z, z1, z2, z3⟩ := hA.cov q (hB.sub q q1)
    have e : z = x := srt_same sA z1 hx ⟨z2.1.trans q2.1, z2.2.trans q2.2⟩
    subst e
    have := cmpE_anti (oB q q1) (oA z hx) q2 z3 q3
    rw [← this]; exact q1
  exact srt_ext (srt_pw.1 s) (srt_pw.1 s') fun x => ⟨key h h' s ok ok' x, key h' h s' ok' ok x⟩
theorem spec_nil : Spec [] (fun _ => False) := ⟨fun x hx => (by cases hx), fun y hy => hy.elim⟩
end Go.Proofs.YtegmafgodoikiaaGreat
