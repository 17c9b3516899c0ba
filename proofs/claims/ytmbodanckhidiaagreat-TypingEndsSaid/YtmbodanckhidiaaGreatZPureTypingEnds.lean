/- Plain: at its end one does not type any more. -/
import Derived.Test.YtmbodanckhidiaaGreatZPY
set_option linter.all false
set_option maxRecDepth 10000
namespace Go.Proofs.YtmbodanckhidiaaGreat
open Go Go.Sp
theorem ends_put {a0 : List Edu} (hw : ∀ x ∈ a0, Wf x) : ∀ (d i : Nat) (t : TTab) (Z : List (Edu × Bool)), Rel t Z i → (∀ q ∈ Z, q.2 = false) → 10 - i ≤ d → i ≤ 10 →
    ∃ i' q t' Z', Rel t' Z' 10 ∧ (∀ q ∈ Z', q.2 = false) ∧ El (fun k j => concourselaw14_TypingEnds.l1 k a0 j (i : Int) t) (i', q, t') := by
  intro d
  induction d with
  | zero =>
    intro i t Z R hz hd hi
    obtain rfl : i = 10 := by omega
    by_cases h1 : 10 < a0.length
    · refine ⟨((10 : Nat) : Int), decide (((10 : Nat) : Int) < 10), t, Z, R, hz, ?_⟩
      refine El.step (fun _ _ => by rw [concourselaw14_TypingEnds.l1]) ?_
      exact El.ct (decide_eq_true (by omega)) (El.cf (by decide) El.pure)
    · refine ⟨((10 : Nat) : Int), false, t, Z, R, hz, ?_⟩
      refine El.step (fun _ _ => by rw [concourselaw14_TypingEnds.l1]) ?_
      exact El.cf (decide_eq_false (by omega)) El.pure
  | succ d ih =>
    intro i t Z R hz hd hi
    by_cases h1 : i < a0.length
    · by_cases h2 : i < 10
      · obtain ⟨e, he, _, hm⟩ := made_ok (hw _ (getD_mem (d := default) h1))
        obtain ⟨p, hp, _, t', p2, R'⟩ := put_both R (by omega) he
        obtain ⟨b, Z', p3, R3, hz3⟩ : ∃ b Z', Ev (fun k => typing_Table_Put.f k t e) (b, 0, t') ∧ Rel t' Z' (i + 1) ∧ ∀ q ∈ Z', q.2 = false := by
          cases ho : old (Z.map (·.1)) e p with
          | true => rw [ho] at p2 R'; exact ⟨_, _, p2, R', hz⟩
          | false =>
            rw [ho] at p2 R'
            refine ⟨_, _, p2, R', fun q hq => ?_⟩
            unfold newZ at hq
            rcases List.mem_append.1 hq with hq | hq
            · exact hz q (List.mem_of_mem_take hq)
            · rcases List.mem_cons.1 hq with rfl | hq
              · rfl
              · exact hz q (List.mem_of_mem_drop hq)
        obtain ⟨i', q, t2, Z2, R2, hz2, G⟩ := ih (i + 1) t' Z' R3 hz3 (by omega) (by omega)
        refine ⟨i', q, t2, Z2, R2, hz2, ?_⟩
        refine El.step (fun _ _ => by rw [concourselaw14_TypingEnds.l1]) ?_
        simp only [inc_nat (show i ≤ 1000000 by omega), at_nat]
        exact El.ct (decide_eq_true (by omega)) (El.ct (decide_eq_true (by omega)) (El.grd ⟨by omega, by omega⟩ (El.bind (Ev.el ⟨0, fun k _ => hm k⟩) (El.bind p3.el G))))
      · obtain rfl : i = 10 := by omega
        exact ih 10 t Z R hz (by omega) (by omega)
    · refine ⟨(i : Int), false, t, Z, rel_mono R hi, hz, ?_⟩
      refine El.step (fun _ _ => by rw [concourselaw14_TypingEnds.l1]) ?_
      exact El.cf (decide_eq_false (by omega)) El.pure
theorem end_id {e : Edu} (h : OkE e) : w64 (e.fTick + e.fSpan) = e.fTick + e.fSpan ∧ 0 ≤ e.fTick + e.fSpan ∧ e.fTick + e.fSpan ≤ 160 := by
  have h1 := h.tick
  have h2 : 0 ≤ e.fSpan ∧ e.fSpan ≤ 60 := by
    cases ho : e.fOn with
    | true => have := h.span1 ho; omega
    | false => have := h.span0 ho; omega
  exact ⟨w64_id (by omega) (by omega), by omega, by omega⟩
theorem val_all {L : List Edu} (hs : Srt L) {x : Edu} (hx : x ∈ L) {at_ : Int} {b : Bool} (h : Val L x.fRoom x.fUser at_ b) : b = (x.fOn && decide (at_ < w64 (x.fTick + x.fSpan))) :=
  Val.uniq hs h (.inl ⟨x, hx, rfl, rfl, rfl⟩)
theorem ends_all {p : Int × Bool × TTab} {L : List Edu} (hL : p.2.2.fl = L) (hb : L.length ≤ 100000) (hs : Srt L) (ok : ∀ x ∈ L, OkE x) : ∀ d m : Nat, L.length - m = d → m ≤ L.length → El (fun k j => concourselaw14_TypingEnds.l0 k p L j (m : Int)) (.inl ((L.length : Int), false)) := by
  intro d
  induction d with
  | zero =>
    intro m hd hm
    obtain rfl : m = L.length := by omega
    refine El.step (fun _ _ => by rw [concourselaw14_TypingEnds.l0]) ?_
    exact El.cf (by simp) (by simpa using El.pure)
  | succ d ih =>
    intro m hd hm
    have hlt : m < L.length := by omega
    have hx := getD_mem (d := default) hlt
    have g : (0 : Int) ≤ (m : Int) ∧ (m : Int) < (L.length : Int) := ⟨by omega, by omega⟩
    obtain ⟨e1, e2, e3⟩ := end_id (ok _ hx)
    have hp : p.2.2 = ⟨L, p.2.2.fends⟩ := by rw [← hL]
    obtain ⟨b, bv, b1⟩ := types_val (h := p.2.2.fends) hb hs (L.getD m default).fRoom (L.getD m default).fUser ((L.getD m default).fTick + (L.getD m default).fSpan)
    obtain ⟨c, cv, c1⟩ := types_val (h := p.2.2.fends) hb hs (L.getD m default).fRoom (L.getD m default).fUser ((L.getD m default).fTick + (L.getD m default).fSpan - 1)
    rw [← hp] at b1 c1
    have hb2 := val_all hs hx bv
    have hc2 := val_all hs hx cv
    rw [e1, decide_eq_false (by omega), Bool.and_false] at hb2
    rw [e1, decide_eq_true (by omega), Bool.and_true] at hc2
    subst hb2 hc2
    refine El.step (fun _ _ => by rw [concourselaw14_TypingEnds.l0]) ?_
    simp only [inc_nat (show m ≤ 1000000 by omega), Int.toNat_natCast, e1]
    rw [w64_id (x := (L.getD m default).fTick + (L.getD m default).fSpan - 1) (by omega) (by omega)]
    exact El.ct (decide_eq_true (by omega)) (El.grd g (El.grd g (El.grd g (El.grd g (El.bind b1.el (El.cf rfl (El.grd g (El.grd g (El.bind c1.el (El.grd g (El.cf (by simp) (ih (m + 1) (by omega) (by omega)))))))))))))
theorem TypingEnds_pure (a0 : List Edu) (k0 : (fun xs : List Edu => xs.length ≤ maxLen ∧ ∀ x ∈ xs, Edu.ok x) a0) : ∃ k, concourselaw14_TypingEnds.f k a0 = some true := by
  suffices h : Ev (fun k => concourselaw14_TypingEnds.f k a0) true from h.ex
  obtain ⟨i', q, t, Z, R, hz, G⟩ := ends_put (a0 := a0) (fun x hx => wf_of (k0.2 x hx)) 10 0 ⟨[], ⟨[], []⟩⟩ [] rel_new (by simp) (by omega) (by omega)
  have hlen : t.fl.length ≤ 10 := by rw [R.fl, List.length_map]; exact R.ln
  have srt : Srt t.fl := by rw [R.fl]; exact R.srt
  have ok : ∀ x ∈ t.fl, OkE x := fun x hx => by
    rw [R.fl] at hx
    obtain ⟨y, hy, rfl⟩ := List.mem_map.1 hx
    exact R.ok y hy
  have hks : ∀ x ∈ t.fends.fl, x.fKey.size ≤ maxLen ∧ x.fAt ≤ 160 ∧ 0 ≤ x.fAt := fun x hx => by
    obtain ⟨y, hy, _, _, rfl⟩ := (R.cont x).1 hx
    have h1 := end_id (R.ok y hy)
    have h2 := keyOf_size (R.ok y hy)
    refine ⟨?_, h1.2.2, h1.2.1⟩
    show ((y.1.fRoom ++ (⟨#[32]⟩ : ByteArray)) ++ y.1.fUser).size ≤ 9223372036854775807
    rw [ByteArray.size_append]; omega
  have hn := R.hn
  -- what comes behind all ends
  have tail : ∀ h : HHeap, Idx h → Ord h.fl → h.fl.length ≤ 10 → (∀ x ∈ h.fl, x ∈ t.fends.fl) → Ev (fun k => (typing_Table_Ended.f k ⟨t.fl, h⟩ 160).bind fun t633 => (typing_Table_Next.f t633.2).bind fun t636 => cond (!t636.2) ((typing_Table_Ended.f k t633.2 1000).bind fun t639 => cond ((t639.1.length : Int) == 0) ((concourseref01_RoomOf.f 0).bind fun t643 => (typing_Table_Users.f k t639.2 t643 160).bind fun t647 => cond ((t647.length : Int) == 0) ((concourseref01_RoomOf.f 1).bind fun t651 => (typing_Table_Users.f k t639.2 t651 160).bind fun t653 => cond ((t653.length : Int) == 0) ((concourselaw14_lives.f k).bind fun t657 => some t657) (some false)) (some false)) (some false)) (some false)) true := fun h H O hl hsub => by
    obtain ⟨h1, v1, a1, a2, a3, a4, a5, a6⟩ := ended_ev (t := ⟨t.fl, h⟩) H O (by show h.fl.length ≤ 100000; omega) (fun x hx => (hks x (hsub x hx)).1) 160
    have e1 : h1.fl = [] := by
      apply List.eq_nil_iff_forall_not_mem.2
      intro x hx
      have h6 := (a5 x).1 hx
      have := (hks x (hsub x h6.1)).2.1
      omega
    obtain ⟨h2, v2, b1, b2, b3, b4, b5, b6⟩ := ended_ev (t := ⟨t.fl, h1⟩) a2 a3 (by show h1.fl.length ≤ 100000; rw [e1]; simp) (fun x hx => by change x ∈ h1.fl at hx; rw [e1] at hx; cases hx) 1000
    have e2 : v2 = [] := List.eq_nil_of_length_eq_zero (by change h2.fl.length + v2.length = h1.fl.length at b4; rw [e1] at b4; simp at b4; simp [b4])
    rw [e2, ended_nil] at b1
    have hnx : typing_Table_Next.f ⟨t.fl, h1⟩ = some (0, false) := by
      rcases next_ev (t := ⟨t.fl, h1⟩) a3 with ⟨_, h3⟩ | ⟨x, h3, _⟩
      · exact h3
      · change x ∈ h1.fl at h3; rw [e1] at h3; cases h3
    have hu : ∀ room, Ev (fun k => typing_Table_Users.f k ⟨t.fl, h2⟩ room 160) [] := fun room => users_none (by omega) srt room 160 fun x hx => by
      have h3 := end_id (ok x hx)
      rw [h3.1]; omega
    have r0 : concourseref01_RoomOf.f 0 = some ⟨#[33, 114, 58, 115, 49]⟩ := rfl
    have r1 : concourseref01_RoomOf.f 1 = some ⟨#[33, 113, 58, 115, 50]⟩ := rfl
    exact Ev.bind a1 (Ev.bind (Ev.of hnx) (Ev.ct rfl (Ev.bind b1 (Ev.ct rfl (Ev.bind (Ev.of r0) (Ev.bind (hu _) (Ev.ct rfl (Ev.bind (Ev.of r1) (Ev.bind (hu _) (Ev.ct rfl (Ev.bind lives_ev Ev.pure)))))))))))
  have ht : t = ⟨t.fl, t.fends⟩ := rfl
  unfold concourselaw14_TypingEnds.f
  refine Ev.bind (Ev.of new_eq) (Ev.bind G.diag (Ev.bind (Ev.of (all_eq (t := t) (by omega))) (Ev.bind (ends_all (p := (i', q, t)) (L := t.fl) rfl (by omega) srt ok _ 0 rfl (by omega)).diag ?_)))
  simp only [fall]
  rcases next_ev R.ord with ⟨h1, h2⟩ | ⟨x, h1, h2, h3⟩
  · exact Ev.bind (Ev.of h2) (Ev.cf rfl (tail t.fends R.idx R.ord (by omega) fun x hx => hx))
  · refine Ev.bind (Ev.of h2) (Ev.ct rfl ?_)
    have hx := hks x h1
    rw [w64_id (x := x.fAt - 1) (by omega) (by omega)]
    obtain ⟨s1, v1, a1, a2, a3, a4, a5, a6⟩ := ended_ev R.idx R.ord (by omega) (fun y hy => (hks y hy).1) (x.fAt - 1)
    have e1 : v1 = [] := List.eq_nil_iff_forall_not_mem.2 fun key hk => by
      obtain ⟨y, y1, y2, _⟩ := (a6 key).1 hk
      have := h3 y y1
      omega
    rw [e1, ended_nil] at a1
    refine Ev.bind a1 (Ev.cf rfl ?_)
    obtain ⟨s2, v2, b1, b2, b3, b4, b5, b6⟩ := ended_ev (t := ⟨t.fl, s1⟩) a2 a3 (by show s1.fl.length ≤ 100000; omega) (fun y hy => (hks y ((a5 y).1 hy).1).1) x.fAt
    refine Ev.bind b1 (Ev.cf ?_ ?_)
    · have hx1 : x ∈ s1.fl := (a5 x).2 ⟨h1, by omega⟩
      have hv : x.fKey ∈ v2 := (b6 _).2 ⟨x, hx1, by omega, rfl⟩
      have hm : rmK x.fKey ∈ cmpctS (srtS (v2.map rmK)) := by rw [cmpctS_mem, srtS_mem]; exact List.mem_map.2 ⟨_, hv, rfl⟩
      have := List.length_pos_of_mem hm
      simp; exact List.ne_nil_of_length_pos this
    · exact tail s2 b2 b3 (by change s2.fl.length + v2.length = s1.fl.length at b4; omega) fun y hy => ((a5 y).1 ((b5 y).1 hy).1).1
end Go.Proofs.YtmbodanckhidiaaGreat
