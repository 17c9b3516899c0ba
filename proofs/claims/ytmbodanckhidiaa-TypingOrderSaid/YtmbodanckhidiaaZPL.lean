/- Plain: what a table holds hangs on what was put, not on the row. -/
import Derived.Test.YtmbodanckhidiaaZPK
set_option linter.all false
set_option maxRecDepth 10000
namespace Go.Proofs.Ytmbodanckhidiaa
open Go Go.Sp
theorem cmpS_le {x y : ByteArray} : cmpS x y ≤ 0 ↔ sLt y x = false := by
  have h := cmpS_gt (x := x) (y := y)
  cases k : sLt y x with
  | true => rw [k] at h; simp; have := h.2 rfl; omega
  | false => rw [k] at h; simp at h; simp; exact h
theorem sLt_ntrans {x y z : ByteArray} (h : sLt y x = false) (k : sLt z y = false) : sLt z x = false := by
  cases e : sLt z x with
  | false => rfl
  | true =>
    cases e2 : sLt x y with
    | true => have := sLt_trans e e2; rw [k] at this; cases this
    | false => have := sLt_conn e2 h; subst this; rw [k] at e; cases e
theorem cmpE_le {a b : Edu} : cmpE a b ≤ 0 ↔ a.fStamp < b.fStamp ∨ (a.fStamp = b.fStamp ∧ sLt (ofNums (eduB b)) (ofNums (eduB a)) = false) := by
  unfold cmpE
  by_cases h1 : a.fStamp < b.fStamp
  · simp [h1]
  · by_cases h2 : b.fStamp < a.fStamp
    · have h3 : ¬ a.fStamp = b.fStamp := by omega
      simp [h1, h2, h3]
    · have h3 : a.fStamp = b.fStamp := by omega
      rw [if_neg h1, if_neg h2, cmpS_le]
      simp [h1, h3]
theorem cmpE_trans {a b c : Edu} (h : cmpE a b ≤ 0) (k : cmpE b c ≤ 0) : cmpE a c ≤ 0 := by
  rw [cmpE_le] at *
  rcases h with h | ⟨h, h'⟩ <;> rcases k with k | ⟨k, k'⟩
  · exact .inl (by omega)
  · exact .inl (by omega)
  · exact .inl (by omega)
  · exact .inr ⟨by omega, sLt_ntrans h' k'⟩
theorem cmpE_total {a b : Edu} (h : ¬ cmpE a b ≤ 0) : cmpE b a ≤ 0 := by
  rw [cmpE_le] at *
  rcases Nat.lt_or_ge 0 1 with _ | h0
  · by_cases h1 : b.fStamp < a.fStamp
    · exact .inl h1
    · have h2 : a.fStamp = b.fStamp := by
        by_cases h3 : a.fStamp < b.fStamp
        · exact absurd (.inl h3) h
        · omega
      refine .inr ⟨h2.symm, ?_⟩
      cases e : sLt (ofNums (eduB b)) (ofNums (eduB a)) with
      | false => exact absurd (.inr ⟨h2, e⟩) h
      | true => exact sLt_asymm e
  · omega
theorem ofNums_inj : ∀ {xs ys : List Int}, (∀ x ∈ xs, 0 ≤ x ∧ x ≤ 255) → (∀ x ∈ ys, 0 ≤ x ∧ x ≤ 255) → ofNums xs = ofNums ys → xs = ys := by
  intro xs ys h1 h2 h
  have h3 : xs.map (fun n => UInt8.ofNat n.toNat) = ys.map (fun n => UInt8.ofNat n.toNat) := by
    have := congrArg (fun s : ByteArray => s.data.toList) h
    simpa [ofNums] using this
  clear h
  induction xs generalizing ys with
  | nil => cases ys with
    | nil => rfl
    | cons y ys => simp at h3
  | cons x xs ih => cases ys with
    | nil => simp at h3
    | cons y ys =>
      rw [List.map_cons, List.map_cons, List.cons.injEq] at h3
      have a := h1 x (List.mem_cons_self ..)
      have b := h2 y (List.mem_cons_self ..)
      have c := congrArg UInt8.toNat h3.1
      rw [UInt8.toNat_ofNat', UInt8.toNat_ofNat'] at c
      have d : x = y := by omega
      rw [d, ih (fun z hz => h1 z (List.mem_cons_of_mem _ hz)) (fun z hz => h2 z (List.mem_cons_of_mem _ hz)) h3.2]
theorem eduB_bytes {e : Edu} (h : Sm e) : ∀ x ∈ eduB e, 0 ≤ x ∧ x ≤ 255 := by
  obtain ⟨h1, h2, h3, h4, h5, h6, h7, h8, h9⟩ := h
  have ht : ∀ s : ByteArray, s.size < 128 → ∀ x ∈ txtB s, 0 ≤ x ∧ x ≤ 255 := by
    intro s hs x hx
    rcases List.mem_cons.1 hx with rfl | hx
    · omega
    · obtain ⟨b, _, rfl⟩ := List.mem_map.1 hx
      have := b.toNat_lt
      omega
  have hf : 0 ≤ flagN e.fOn ∧ flagN e.fOn ≤ 255 := by cases e.fOn <;> decide
  intro x hx
  unfold eduB at hx
  simp only [List.mem_cons, List.mem_append, List.not_mem_nil, or_false] at hx
  rcases hx with rfl | (((hx | hx) | hx) | hx) | rfl | rfl | rfl | rfl | rfl
  · omega
  · exact ht _ h2 x hx
  · exact ht _ h3 x hx
  · exact ht _ h4 x hx
  · exact ht _ h5 x hx
  · exact hf
  · omega
  · omega
  · omega
  · omega
theorem flagN_inj {a b : Bool} (h : flagN a = flagN b) : a = b := by revert h; cases a <;> cases b <;> decide
theorem cmpE_anti {a b : Edu} (ha : OkE a) (hb : OkE b) (hs : same a b) (h : cmpE a b ≤ 0) (k : cmpE b a ≤ 0) : a = b := by
  rw [cmpE_le] at h k
  have h1 : a.fStamp = b.fStamp := by rcases h with h | h <;> rcases k with k | k <;> omega
  have h2 : ofNums (eduB a) = ofNums (eduB b) := by
    rcases h with h | ⟨_, h⟩
    · omega
    · rcases k with k | ⟨_, k⟩
      · omega
      · exact sLt_conn k h
  have h3 := ofNums_inj (eduB_bytes ha.sm) (eduB_bytes hb.sm) h2
  unfold eduB at h3
  rw [hs.1, hs.2, ha.event, hb.event, ha.thread, hb.thread, ha.kind, hb.kind, List.cons.injEq] at h3
  have h4 := List.append_cancel_left h3.2
  simp only [List.cons.injEq, and_true] at h4
  obtain ⟨k1, k2, k3, k4, k5⟩ := h4
  have k6 := flagN_inj k1
  obtain ⟨a1, a2, a3, a4, a5, a6, a7, a8, a9, a10, a11⟩ := a
  obtain ⟨b1, b2, b3, b4, b5, b6, b7, b8, b9, b10, b11⟩ := b
  obtain ⟨e1, e2⟩ := hs
  have e3 := ha.kind.trans hb.kind.symm
  have e4 := ha.event.trans hb.event.symm
  have e5 := ha.thread.trans hb.thread.symm
  have e6 := ha.priv.trans hb.priv.symm
  simp only at e1 e2 e3 e4 e5 e6 k2 k3 k4 k5 k6
  subst e1 e2 e3 e4 e5 e6 k2 k3 k4 k5 k6
  rfl
/-- Of all that was put, of each key the latest one. -/
structure Spec (L : List Edu) (S : Edu → Prop) : Prop where
  sub : ∀ x, x ∈ L → S x
  cov : ∀ y, S y → ∃ q, q ∈ L ∧ same q y ∧ cmpE y q ≤ 0
theorem Spec.step {L : List Edu} {S S' : Edu → Prop} {e : Edu} {p : Nat} (H : Spec L S) (hs : Srt L) (hp : At L e p) (hS : ∀ x, S' x ↔ x = e ∨ S x) : Spec (if old L e p then L else L.take p ++ e :: L.drop (cut L e p)) S' := by
  cases ho : old L e p with
  | true =>
    have h := of_decide_eq_true ho
    rw [if_pos rfl]
    refine ⟨fun x hx => (hS x).2 (.inr (H.sub x hx)), fun y hy => ?_⟩
    rcases (hS y).1 hy with rfl | hy
    · exact ⟨_, getD_mem h.1, h.2.1, h.2.2⟩
    · exact H.cov y hy
  | false =>
    have h := of_decide_eq_false ho
    rw [if_neg (by simp)]
    have hgt : ∀ q, q ∈ L → same q e → cmpE q e ≤ 0 := fun q hq hk => by
      obtain ⟨m, m1, rfl⟩ := mem_get default hq
      refine cmpE_total fun hc => ?_
      rcases Nat.lt_trichotomy m p with k | rfl | k
      · exact ltK_not_same (hp.lo m k) hk
      · exact h ⟨m1, hk, hc⟩
      · have hcut : cut L e p ≤ m := by unfold cut; split <;> omega
        exact ltK_not_same (hp.gt hs m hcut m1) ⟨hk.1.symm, hk.2.symm⟩
    refine ⟨fun x hx => ?_, fun y hy => ?_⟩
    · rcases (mem_new hs hp x).1 hx with rfl | ⟨hx, _⟩
      · exact (hS _).2 (.inl rfl)
      · exact (hS _).2 (.inr (H.sub x hx))
    · rcases (hS y).1 hy with rfl | hy
      · exact ⟨y, (mem_new hs hp y).2 (.inl rfl), ⟨rfl, rfl⟩, by rw [cmpE_self]; exact Int.le_refl _⟩
      · obtain ⟨q, q1, q2, q3⟩ := H.cov y hy
        by_cases hk : same q e
        · exact ⟨e, (mem_new hs hp e).2 (.inl rfl), ⟨hk.1.symm.trans q2.1, hk.2.symm.trans q2.2⟩, cmpE_trans q3 (hgt q q1 hk)⟩
        · exact ⟨q, (mem_new hs hp q).2 (.inr ⟨q1, hk⟩), q2, q3⟩
theorem srt_ext : ∀ {L L' : List Edu}, L.Pairwise (fun a b => ltK a b = true) → L'.Pairwise (fun a b => ltK a b = true) → (∀ x, x ∈ L ↔ x ∈ L') → L = L'
  | [], [], _, _, _ => rfl
  | [], b :: l', _, _, h => by have := (h b).2 (List.mem_cons_self ..); cases this
  | a :: l, [], _, _, h => by have := (h a).1 (List.mem_cons_self ..); cases this
  | a :: l, b :: l', h1, h2, h => by
    rw [List.pairwise_cons] at h1 h2
    have ir : ∀ x : Edu, ltK x x = false := fun x => by
      cases e : ltK x x with
      | false => rfl
      | true => have := ltK_asymm e; rw [e] at this; cases this
    have e : a = b := by
      rcases List.mem_cons.1 ((h a).1 (List.mem_cons_self ..)) with e | h3
      · exact e
      · rcases List.mem_cons.1 ((h b).2 (List.mem_cons_self ..)) with e | h4
        · exact e.symm
        · have k1 := h2.1 a h3
          have k2 := ltK_asymm (h1.1 b h4)
          rw [k1] at k2; cases k2
    subst e
    congr 1
    refine srt_ext h1.2 h2.2 fun x => ⟨fun hx => ?_, fun hx => ?_⟩
    · rcases List.mem_cons.1 ((h x).1 (List.mem_cons_of_mem _ hx)) with rfl | h3
      · have := h1.1 x hx; rw [ir] at this; cases this
      · exact h3
    · rcases List.mem_cons.1 ((h x).2 (List.mem_cons_of_mem _ hx)) with rfl | h3
      · have := h2.1 x hx; rw [ir] at this; cases this
      · exact h3
theorem Spec.uniq {L L' : List Edu} {S : Edu → Prop} (h : Spec L S) (h' : Spec L' S) (s : Srt L) (s' : Srt L') (ok : ∀ x ∈ L, OkE x) (ok' : ∀ x ∈ L', OkE x) : L = L' := by
  have key : ∀ {A B : List Edu}, Spec A S → Spec B S → Srt A → (∀ x ∈ A, OkE x) → (∀ x ∈ B, OkE x) → ∀ x, x ∈ A → x ∈ B := by
    intro A B hA hB sA oA oB x hx
    obtain ⟨q, q1, q2, q3⟩ := hB.cov x (hA.sub x hx)
    obtain ⟨z, z1, z2, z3⟩ := hA.cov q (hB.sub q q1)
    have e : z = x := srt_same sA z1 hx ⟨z2.1.trans q2.1, z2.2.trans q2.2⟩
    subst e
    have := cmpE_anti (oB q q1) (oA z hx) q2 z3 q3
    rw [← this]; exact q1
  exact srt_ext (srt_pw.1 s) (srt_pw.1 s') fun x => ⟨key h h' s ok ok' x, key h' h s' ok' ok x⟩
theorem spec_nil : Spec [] (fun _ => False) := ⟨fun x hx => (by cases hx), fun y hy => hy.elim⟩
/-- A put, told of what was put. -/
theorem put_spec {t : TTab} {Z : List (Edu × Bool)} {n : Nat} {e : Edu} {S S' : Edu → Prop} (R : Rel t Z n) (hn : n ≤ 1000) (he : OkE e) (H : Spec (Z.map (·.1)) S) (hS : ∀ x, S' x ↔ x = e ∨ S x) : ∃ Z' b t', Ev (fun k => concourseref14_Put.f k ⟨Z.map (·.1), Z.map (·.2)⟩ e) (⟨Z'.map (·.1), Z'.map (·.2)⟩, b, 0) ∧ Ev (fun k => typing_Table_Put.f k t e) (b, 0, t') ∧ Rel t' Z' (n + 1) ∧ Spec (Z'.map (·.1)) S' := by
  obtain ⟨p, hp, h1, t', h2, h3⟩ := put_both R hn he
  have h4 := H.step R.srt hp hS
  cases ho : old (Z.map (·.1)) e p with
  | true => rw [ho] at h1 h2 h3 h4; exact ⟨Z, false, t', h1, h2, h3, h4⟩
  | false => rw [ho] at h1 h2 h3 h4; exact ⟨newZ Z e p, true, t', h1, h2, h3, by rw [newZ_map]; exact h4⟩
end Go.Proofs.Ytmbodanckhidiaa
