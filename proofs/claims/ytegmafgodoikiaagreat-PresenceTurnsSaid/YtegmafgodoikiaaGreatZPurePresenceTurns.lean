/- Plain: just those are told whose state is another one. -/
import Derived.Test.YtegmafgodoikiaaGreatZQW
import Derived.Test.YtegmafgodoikiaaGreatZPU
set_option linter.all false
set_option maxRecDepth 10000
namespace Go.Proofs.YtegmafgodoikiaaGreat
open Go Go.Sp
theorem turns_put {a0 : List Edu} (hw : ∀ x ∈ a0, Wf x) : ∀ (d i : Nat) (t : PTab) (Z : List (Edu × Int)), Rel t Z i → (∀ q ∈ Z, q.2 = -1) → 10 - i ≤ d → i ≤ 10 →
    ∃ i' q t' Z', Rel t' Z' 10 ∧ (∀ q ∈ Z', q.2 = -1) ∧ El (fun k j => concourselaw15_PresenceTurns.l2 k a0 j (i : Int) t) (i', q, t') := by
  intro d
  induction d with
  | zero =>
    intro i t Z R hz hd hi
    obtain rfl : i = 10 := by omega
    by_cases h1 : 10 < a0.length
    · refine ⟨((10 : Nat) : Int), decide (((10 : Nat) : Int) < 10), t, Z, R, hz, ?_⟩
      refine El.step (fun _ _ => by rw [concourselaw15_PresenceTurns.l2]) ?_
      exact El.ct (decide_eq_true (by omega)) (El.cf (by decide) El.pure)
    · refine ⟨((10 : Nat) : Int), false, t, Z, R, hz, ?_⟩
      refine El.step (fun _ _ => by rw [concourselaw15_PresenceTurns.l2]) ?_
      exact El.cf (decide_eq_false (by omega)) El.pure
  | succ d ih =>
    intro i t Z R hz hd hi
    by_cases h1 : i < a0.length
    · by_cases h2 : i < 10
      · obtain ⟨e, he, hm⟩ := made_ok (hw _ (getD_mem (d := default) h1))
        obtain ⟨p, hp, _, t', p2, R'⟩ := put_both R (by omega) he
        obtain ⟨b, Z', p3, R3, hz3⟩ : ∃ b Z', Ev (fun k => presence_Table_Put.f k t e) (b, 0, t') ∧ Rel t' Z' (i + 1) ∧ ∀ q ∈ Z', q.2 = -1 := by
          cases ho : old (Z.map (·.1)) e p with
          | true => rw [ho] at p2 R'; exact ⟨_, _, p2, R', hz⟩
          | false =>
            rw [ho] at p2 R'
            refine ⟨_, _, p2, R', fun q hq => ?_⟩
            simp only [Bool.false_eq_true, if_false] at hq
            unfold newZ at hq
            rcases List.mem_append.1 hq with hq | hq
            · exact hz q (List.mem_of_mem_take hq)
            · rcases List.mem_cons.1 hq with rfl | hq
              · rfl
              · exact hz q (List.mem_of_mem_drop hq)
        obtain ⟨i', q, t2, Z2, R2, hz2, G⟩ := ih (i + 1) t' Z' R3 hz3 (by omega) (by omega)
        refine ⟨i', q, t2, Z2, R2, hz2, ?_⟩
        refine El.step (fun _ _ => by rw [concourselaw15_PresenceTurns.l2]) ?_
        simp only [inc_nat (show i ≤ 1000000 by omega), at_nat]
        exact El.ct (decide_eq_true (by omega)) (El.ct (decide_eq_true (by omega)) (El.grd ⟨by omega, by omega⟩ (El.bind (Ev.el ⟨0, fun k _ => hm k⟩) (El.bind p3.el G))))
      · obtain rfl : i = 10 := by omega
        exact ih 10 t Z R hz (by omega) (by omega)
    · refine ⟨(i : Int), false, t, Z, rel_mono R hi, hz, ?_⟩
      refine El.step (fun _ _ => by rw [concourselaw15_PresenceTurns.l2]) ?_
      exact El.cf (decide_eq_false (by omega)) El.pure
/-- A turn lies between two ticks just if the states are others. -/
theorem turn_iff {e : Edu} (h : OkE e) {s s' : Int} (hs : s ≤ s') : (∃ a, turnV e s = some a ∧ a ≤ s') ↔ stateV e s ≠ stateV e s' := by
  have h1 := h.state
  have h3 : e.fState = 0 ∨ e.fState = 1 ∨ e.fState = 2 := by omega
  unfold turnV stateV
  rcases h3 with h3 | h3 | h3
  · simp [h3]
  · by_cases b : s < e.fTick + 90 <;> by_cases d : s' < e.fTick + 90 <;> simp [h3, b, d] <;> omega
  · by_cases a : s < e.fTick + 30 <;> by_cases b : s < e.fTick + 90 <;> by_cases c : s' < e.fTick + 30 <;> by_cases d : s' < e.fTick + 90 <;> simp [h3, a, b, c, d] <;> omega
def chg (L : List Edu) (s s' : Int) (u : ByteArray) : Bool := L.any fun x => decide (x.fUser = u) && (stateV x s != stateV x s')
theorem chg_ev {L : List Edu} {h : HHeap} (hb : L.length ≤ 100000) (hs : Srt L) (ok : ∀ x ∈ L, OkE x) (u : ByteArray) (s s' : Int) : ∃ b b', Ev (fun k => presence_Table_State.f k ⟨L, h⟩ u s) b ∧ Ev (fun k => presence_Table_State.f k ⟨L, h⟩ u s') b' ∧ (b != b') = chg L s s' u := by
  obtain ⟨b, bv, b1⟩ := state_val (h := h) hb hs ok u s
  obtain ⟨c, cv, c1⟩ := state_val (h := h) hb hs ok u s'
  refine ⟨b, c, b1, c1, ?_⟩
  unfold chg
  rw [Bool.eq_iff_iff, List.any_eq_true]
  rcases bv with ⟨x, x1, x2, x3⟩ | ⟨h1, h2⟩
  · have hc := Val.uniq hs cv (.inl ⟨x, x1, x2, rfl⟩)
    subst x3 hc
    constructor
    · intro g; exact ⟨x, x1, by simp [x2]; simpa using g⟩
    · rintro ⟨y, y1, y2⟩
      simp only [Bool.and_eq_true, decide_eq_true_eq] at y2
      have := srt_same hs x1 y1 ⟨x2.trans y2.1.symm, x2.trans y2.1.symm⟩
      subst this
      exact y2.2
  · have hc := Val.uniq hs cv (.inr ⟨h1, rfl⟩)
    subst h2 hc
    constructor
    · intro g; simp at g
    · rintro ⟨y, y1, y2⟩
      simp only [Bool.and_eq_true, decide_eq_true_eq] at y2
      exact absurd y2.1 (h1 y y1)
theorem users_srt : SrtT users := by unfold SrtT; decide +kernel
theorem want_loop {t : PTab} {L : List Edu} (hL : t.fl = L) (hb : L.length ≤ 100000) (hs : Srt L) (ok : ∀ x ∈ L, OkE x) (s r : Int) : ∀ d x : Nat, 9 - x = d → x ≤ 9 →
    El (fun k j => concourselaw15_PresenceTurns.l1 k s t r j (x : Int) ((users.take x).filter (chg L s (max s r)))) (9, false, users.filter (chg L s (max s r))) := by
  intro d
  induction d with
  | zero =>
    intro x hd hx
    obtain rfl : x = 9 := by omega
    refine El.step (fun _ _ => by rw [concourselaw15_PresenceTurns.l1]) ?_
    exact El.cf rfl El.pure
  | succ d ih =>
    intro x hd hx
    have hlt : x < 9 := by omega
    obtain ⟨u, hu, hg⟩ := userOf_at x hlt
    have hxu : x < users.length := hlt
    have e0 : users[x] = u := by rw [List.getElem?_eq_getElem hxu] at hg; exact Option.some.inj hg
    have ht : t = ⟨L, t.fturns⟩ := by rw [← hL]
    obtain ⟨b, b', b1, b2, b3⟩ := chg_ev (h := t.fturns) hb hs ok u s (max s r)
    rw [← ht] at b1 b2
    have ew : w64 (w64 (w64 ((x : Int).tdiv 3) * 3) + (x : Int).tmod 3) = (x : Int) := by
      have : x = 0 ∨ x = 1 ∨ x = 2 ∨ x = 3 ∨ x = 4 ∨ x = 5 ∨ x = 6 ∨ x = 7 ∨ x = 8 := by omega
      rcases this with rfl | rfl | rfl | rfl | rfl | rfl | rfl | rfl | rfl <;> rfl
    have ih2 := ih (x + 1) (by omega) (by omega)
    rw [List.take_succ_eq_append_getElem hxu, List.filter_append, e0] at ih2
    have hl9 : ((users.take x).filter (chg L s (max s r))).length ≤ 9 := Nat.le_trans (List.length_filter_le _ _) (by rw [List.length_take]; omega)
    refine El.step (fun _ _ => by rw [concourselaw15_PresenceTurns.l1]) ?_
    simp only [inc_nat (show x ≤ 1000000 by omega), ew]
    refine El.ct (decide_eq_true (by omega)) (El.bind (Ev.of hu).el (El.bind b1.el (El.bind b2.el ?_)))
    rw [b3]
    cases hc : chg L s (max s r) u with
    | true =>
      rw [List.filter_cons_of_pos hc] at ih2
      exact El.ct rfl (El.grd ⟨by simp only [List.length_singleton]; omega, by simp only [List.length_singleton]; omega⟩ ih2)
    | false =>
      rw [List.filter_cons_of_neg (by rw [hc]; simp), List.filter_nil, List.append_nil] at ih2
      exact El.cf rfl ih2
theorem turns_loop {a1 : List Int} (hw : ∀ x ∈ a1, I64 x) : ∀ (d i : Nat) (last : Int) (t : PTab) (Z : List (Edu × Int)), Rel t Z 10 → (∀ q ∈ Z, q.2 = last) → 0 ≤ last → last ≤ 251 → 6 - i ≤ d → i ≤ 6 →
    ∃ a, El (fun k j => concourselaw15_PresenceTurns.l0 k a1 j last (i : Int) t) (.inl a) := by
  intro d
  induction d with
  | zero =>
    intro i last t Z R hz h0 hm hd hi
    obtain rfl : i = 6 := by omega
    by_cases h1 : 6 < a1.length
    · refine ⟨(last, ((6 : Nat) : Int), decide (((6 : Nat) : Int) < 6), t), ?_⟩
      refine El.step (fun _ _ => by rw [concourselaw15_PresenceTurns.l0]) ?_
      exact El.ct (decide_eq_true (by omega)) (El.cf (by decide) El.pure)
    · refine ⟨(last, ((6 : Nat) : Int), false, t), ?_⟩
      refine El.step (fun _ _ => by rw [concourselaw15_PresenceTurns.l0]) ?_
      exact El.cf (decide_eq_false (by omega)) El.pure
  | succ d ih =>
    intro i last t Z R hz h0 hm hd hi
    by_cases h1 : i < a1.length
    · by_cases h2 : i < 6
      · obtain ⟨r, hr, r0, r1⟩ := around_ev (m := 251) (hw _ (getD_mem (d := 0) h1)) (by decide) (by decide)
        have hlen : t.fl.length ≤ 10 := by rw [R.fl, List.length_map]; exact R.ln
        have srt : Srt t.fl := by rw [R.fl]; exact R.srt
        have ok : ∀ x ∈ t.fl, OkE x := fun x hx => by rw [R.fl] at hx; exact rel_ok R x hx
        have hwant := want_loop (t := t) rfl (by omega) srt ok last r _ 0 rfl (by omega)
        obtain ⟨t', vs, v1, R', v2, v3⟩ := turned_ev R (by omega) (max last r)
        have hz' : ∀ q ∈ Z.map (fun q => (q.1, max q.2 (max last r))), q.2 = max last r := fun q hq => by
          obtain ⟨y, hy, rfl⟩ := List.mem_map.1 hq
          show max y.2 (max last r) = _
          rw [hz y hy]; omega
        obtain ⟨a, ha⟩ := ih (i + 1) (max last r) t' _ R' hz' (by omega) (by omega) (by omega) (by omega)
        have heq : srtS vs = users.filter (chg t.fl last (max last r)) := by
          refine srtT_ext (srtS_nodup v2) (users_srt.filter _) fun u => ?_
          rw [srtS_mem, v3, List.mem_filter]
          unfold chg
          rw [List.any_eq_true]
          constructor
          · rintro ⟨q, q1, q2, hq⟩
            rw [hz q q1, turn_iff (R.ok q q1) (by omega)] at hq
            have : q.1 ∈ t.fl := by rw [R.fl]; exact List.mem_map.2 ⟨q, q1, rfl⟩
            refine ⟨by rw [← q2]; exact (R.ok q q1).user, q.1, this, ?_⟩
            simp [q2]; exact hq
          · rintro ⟨_, x, x1, x2⟩
            rw [R.fl] at x1
            obtain ⟨q, q1, rfl⟩ := List.mem_map.1 x1
            simp only [Bool.and_eq_true, decide_eq_true_eq] at x2
            refine ⟨q, q1, x2.1, ?_⟩
            rw [hz q q1, turn_iff (R.ok q q1) (by omega)]
            simpa using x2.2
        have hfl : (users.filter (chg t.fl last (max last r))).length ≤ 9 := List.length_filter_le _ _
        have hsame := sametexts_refl (vs := users.filter (chg t.fl last (max last r))) (by omega)
        rw [heq] at v1
        refine ⟨a, ?_⟩
        refine El.step (fun _ _ => by rw [concourselaw15_PresenceTurns.l0]) ?_
        simp only [inc_nat (show i ≤ 1000000 by omega)]
        have e0 : (intK .i64).at a1 (i : Int) = a1.getD i 0 := int_nat a1 i
        rw [e0]
        have gi : (0 : Int) ≤ (i : Int) ∧ (i : Int) < (a1.length : Int) := ⟨by omega, by omega⟩
        rcases next_ev (t := t') R'.ord with ⟨_, n1⟩ | ⟨x, x1, n1, n2⟩
        · refine El.ct (decide_eq_true (by omega)) (El.ct (decide_eq_true (by omega)) (El.bind (El.grd gi (El.bind (Ev.of hr).el (El.bind hwant.diag.el (El.bind v1.el (El.bind hsame.el (El.cf rfl (El.bind (Ev.of n1).el (El.cf rfl El.pure)))))))) ?_))
          simp only [fall]
          exact ha
        · have hgt : ¬ x.fAt ≤ max last r := by
            obtain ⟨q, q1, q2, _⟩ := (R'.cont x).1 x1
            have := turn_gt q2
            rw [hz' q q1] at this
            omega
          refine El.ct (decide_eq_true (by omega)) (El.ct (decide_eq_true (by omega)) (El.bind (El.grd gi (El.bind (Ev.of hr).el (El.bind hwant.diag.el (El.bind v1.el (El.bind hsame.el (El.cf rfl (El.bind (Ev.of n1).el (El.ct rfl (El.cf (decide_eq_false hgt) El.pure))))))))) ?_))
          simp only [fall]
          exact ha
      · obtain rfl : i = 6 := by omega
        exact ih 6 last t Z R hz h0 hm (by omega) (by omega)
    · refine ⟨(last, (i : Int), false, t), ?_⟩
      refine El.step (fun _ _ => by rw [concourselaw15_PresenceTurns.l0]) ?_
      exact El.cf (decide_eq_false (by omega)) El.pure
theorem PresenceTurns_pure (a0 : List Edu) (a1 : List Int) (k0 : (fun xs : List Edu => xs.length ≤ maxLen ∧ ∀ x ∈ xs, Edu.ok x) a0) (k1 : (fun xs : List Int => xs.length ≤ maxLen ∧ ∀ x ∈ xs, (fun n => (Lit.int .i64 n).wf = true) x) a1) : ∃ k, concourselaw15_PresenceTurns.f k a0 a1 = some true := by
  suffices h : Ev (fun k => concourselaw15_PresenceTurns.f k a0 a1) true from h.ex
  obtain ⟨i', q, t, Z, R, hz, G⟩ := turns_put (a0 := a0) (fun x hx => wf_of (k0.2 x hx)) 10 0 ⟨[], ⟨[], []⟩⟩ [] rel_new (by simp) (by omega) (by omega)
  obtain ⟨t', vs, v1, R', v2, v3⟩ := turned_ev R (by omega) 0
  obtain ⟨a, ha⟩ := turns_loop (a1 := a1) (fun x hx => i64_of (k1.2 x hx)) 6 0 0 t' _ R' (fun q hq => by
    obtain ⟨y, hy, rfl⟩ := List.mem_map.1 hq
    show max y.2 0 = 0
    rw [hz y hy]; rfl) (by omega) (by omega) (by omega) (by omega)
  unfold concourselaw15_PresenceTurns.f
  refine Ev.bind (Ev.of new_eq) (Ev.bind G.diag (Ev.bind v1 (Ev.bind ha.diag ?_)))
  simp only [fall]
  exact Ev.bind lives_ev Ev.pure
end Go.Proofs.YtegmafgodoikiaaGreat
