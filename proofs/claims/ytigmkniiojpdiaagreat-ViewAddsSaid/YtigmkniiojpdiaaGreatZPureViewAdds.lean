/- Plain: what comes of events that are added is told alike. -/
import Derived.Test.YtigmkniiojpdiaaGreatZWA
set_option linter.all false
set_option maxRecDepth 10000
namespace Go.Proofs.YtigmkniiojpdiaaGreat
open Go Go.Sp
theorem few30 (s : ByteArray) : ∃ r, concourseref01_Few.f s 30 = some r ∧ r.size ≤ 30 := by
  unfold concourseref01_Few.f
  by_cases h : (30 : Int) < (s.size : Int)
  · rw [decide_eq_true h]
    simp only [cond_true, grd]
    rw [if_pos ⟨by omega, by omega, by omega⟩]
    exact ⟨_, rfl, by rw [size_ext (by omega)]; omega⟩
  · rw [decide_eq_false h]; exact ⟨_, rfl, by omega⟩
theorem few_loop {e : Event} : ∀ n m : Nat, 6 - m = n → m ≤ 6 → m ≤ e.fParents.length → ∀ out : List ByteArray, out.length ≤ 6 → (∀ u ∈ out, u.size ≤ 30) → out.length = m →
    ∃ r : Int × Bool × List ByteArray, El (fun k j => concourseref07_Few.l0 k e j (m : Int) out) r ∧ r.2.2.length ≤ 6 ∧ ∀ u ∈ r.2.2, u.size ≤ 30 := by
  intro n
  induction n with
  | zero =>
    intro m hd hm hma out ho hu hom
    obtain rfl : m = 6 := by omega
    by_cases h : ((6 : Nat) : Int) < (e.fParents.length : Int)
    · refine ⟨(((6 : Nat) : Int), false, out), ?_, ho, hu⟩
      refine El.step (fun _ _ => by rw [concourseref07_Few.l0]) ?_
      exact El.ct (decide_eq_true h) (El.cf rfl El.pure)
    · refine ⟨(((6 : Nat) : Int), false, out), ?_, ho, hu⟩
      refine El.step (fun _ _ => by rw [concourseref07_Few.l0]) ?_
      exact El.cf (decide_eq_false h) El.pure
  | succ n ih =>
    intro m hd hm hma out ho hu hom
    by_cases h : (m : Int) < (e.fParents.length : Int)
    · obtain ⟨t, t1, t2⟩ := few30 (e.fParents.getD m ⟨#[]⟩)
      obtain ⟨r, r1, r2⟩ := ih (m + 1) (by omega) (by omega) (by omega) (out ++ [t]) (by simp; omega) (fun u hu2 => by
        rcases List.mem_append.1 hu2 with h2 | h2
        · exact hu u h2
        · rw [List.mem_singleton.1 h2]; omega) (by simp; omega)
      refine ⟨r, ?_, r2⟩
      refine El.step (fun _ _ => by rw [concourseref07_Few.l0]) ?_
      simp only [rp_inc (show m ≤ 1000000 by omega), rp_at]
      exact El.ct (decide_eq_true h) (El.ct (decide_eq_true (by omega)) (El.grd ⟨by omega, by omega⟩ (El.bind (Ev.of t1).el (El.grd ⟨by simp only [List.length_singleton]; omega, by simp only [List.length_singleton]; omega⟩ r1))))
    · refine ⟨((m : Int), false, out), ?_, ho, hu⟩
      refine El.step (fun _ _ => by rw [concourseref07_Few.l0]) ?_
      exact El.cf (decide_eq_false h) El.pure
theorem few7 {e : Event} (he : Event.ok e) : ∃ r, Ev (fun k => concourseref07_Few.f k e) r ∧ Event.ok r := by
  obtain ⟨a, a1, a2⟩ := few30 e.fID
  obtain ⟨b, b1, b2⟩ := few30 e.fRoom
  obtain ⟨c, c1, c2⟩ := few30 e.fUser
  obtain ⟨d, d1, d2⟩ := few30 e.fThread
  obtain ⟨p, p1, p2, p3⟩ := few_loop (e := e) _ 0 rfl (by omega) (by omega) [] (by simp) (by simp) rfl
  refine ⟨⟨a, b, p.2.2, d, c, e.fDoes⟩, ?_, ?_⟩
  · unfold concourseref07_Few.f
    exact Ev.bind (Ev.of a1) (Ev.bind (Ev.of b1) (Ev.bind (Ev.of c1) (Ev.bind (Ev.of d1) (Ev.bind p1.diag Ev.pure))))
  · have w : ∀ {n : Nat}, n ≤ 30 → n ≤ maxLen := fun h => by show _ ≤ 9223372036854775807; omega
    exact ⟨w a2, w b2, ⟨w (show p.2.2.length ≤ 30 by omega), fun u hu => w (p3 u hu)⟩, w d2, w c2, he.2.2.2.2.2.1, trivial⟩
theorem eventOf_ev {n : Int} (hn : I64 n) : ∃ r, Ev (fun k => concourseref01_EventOf.f k n) r ∧ r.size ≤ maxLen := by
  obtain ⟨m, h1, h2, h3⟩ := around_ev (m := 9) hn (by decide) (by decide)
  obtain ⟨k, hk, rfl⟩ := int_lt (n := 9) h2 h3
  refine ⟨evs k, ?_, evs_size k⟩
  have h := eventOf_at k hk
  unfold concourseref01_EventOf.f at h ⊢
  rw [show (9 : Int) = ((9 : Nat) : Int) from rfl, around_small hk (by decide)] at h
  rw [h1]
  exact h
theorem small_len {n : Nat} (h : Nat.ble n 100 = true) : n ≤ maxLen := by have := Nat.le_of_ble_eq_true h; show _ ≤ 9223372036854775807; omega
theorem odd_ev {d : RDag} (hok : ∀ e ∈ d.fL, Event.ok e) (hr : d.fRoom.size ≤ maxLen) (hl : d.fL.length ≤ 1000) {a b : Int} (ha : I64 a) (hb : I64 b) {e : Event} (he : Event.ok e) : ∃ r, Ev (fun k => concourseref07_Odd.f k d a b e) r ∧ Event.ok r := by
  have first : ∃ p : ByteArray × ByteArray × (List ByteArray) × ByteArray × ByteArray × Int, (cond (decide (0 < (d.fL.length : Int))) ((concourseref01_Around.f a (d.fL.length : Int)).bind fun t681 => grd ((0 : Int) ≤ t681 ∧ t681 < (d.fL.length : Int)) (some ((Event.K.at d.fL t681).fID, (Event.K.at d.fL t681).fRoom, (Event.K.at d.fL t681).fParents, (Event.K.at d.fL t681).fThread, (Event.K.at d.fL t681).fUser, (Event.K.at d.fL t681).fDoes))) (some ((⟨#[36, 120]⟩ : ByteArray), d.fRoom, ([] : List ByteArray), (⟨#[]⟩ : ByteArray), (⟨#[64, 97, 58, 115, 49]⟩ : ByteArray), 0))) = some p ∧ Event.ok ⟨p.1, p.2.1, p.2.2.1, p.2.2.2.1, p.2.2.2.2.1, p.2.2.2.2.2⟩ := by
    by_cases h : 0 < d.fL.length
    · obtain ⟨m, h1, h2, h3⟩ := around_ev (m := (d.fL.length : Int)) ha (by omega) (by omega)
      obtain ⟨k, hk, rfl⟩ := int_lt (n := d.fL.length) h2 h3
      rw [decide_eq_true (show 0 < (d.fL.length : Int) by omega), h1]
      simp only [cond_true, Option.bind_some, grd]
      rw [if_pos ⟨by omega, by omega⟩, ev_at hk]
      exact ⟨_, rfl, hok _ (ev_mem hk)⟩
    · rw [decide_eq_false (show ¬ 0 < (d.fL.length : Int) by omega)]
      exact ⟨_, rfl, small_len rfl, hr, ⟨small_len rfl, fun x hx => by cases hx⟩, small_len rfl, small_len rfl, rfl, trivial⟩
  obtain ⟨p, p1, p2⟩ := first
  obtain ⟨f, f1, f2⟩ := few7 he
  obtain ⟨q, q1, q2, q3⟩ := around_ev (m := 8) hb (by decide) (by decide)
  obtain ⟨y, y1, y2⟩ := eventOf_ev (i64_of f2.2.2.2.2.2.1)
  obtain ⟨g1, g2, g3, g4, g5, g6, _⟩ := f2
  obtain ⟨o1, o2, o3, o4, o5, o6, _⟩ := p2
  unfold concourseref07_Odd.f
  rw [p1, q1]
  simp only [Option.bind_some]
  by_cases c0 : q = 0
  · exact ⟨_, Ev.bind f1 (Ev.ct (by simp [c0]) Ev.pure), g1, o2, o3, o4, o5, o6, trivial⟩
  by_cases c1 : q = 1
  · exact ⟨_, Ev.bind f1 (Ev.cf (by simp [c0]) (Ev.ct (by simp [c1]) Ev.pure)), o1, g2, o3, o4, o5, o6, trivial⟩
  by_cases c2 : q = 2
  · exact ⟨_, Ev.bind f1 (Ev.cf (by simp [c0]) (Ev.cf (by simp [c1]) (Ev.ct (by simp [c2]) Ev.pure))), o1, o2, o3, o4, g5, o6, trivial⟩
  by_cases c3 : q = 3
  · exact ⟨_, Ev.bind f1 (Ev.cf (by simp [c0]) (Ev.cf (by simp [c1]) (Ev.cf (by simp [c2]) (Ev.ct (by simp [c3]) Ev.pure)))), o1, o2, o3, g4, o5, o6, trivial⟩
  by_cases c4 : q = 4
  · exact ⟨_, Ev.bind f1 (Ev.cf (by simp [c0]) (Ev.cf (by simp [c1]) (Ev.cf (by simp [c2]) (Ev.cf (by simp [c3]) (Ev.ct (by simp [c4]) Ev.pure))))), o1, o2, o3, o4, o5, g6, trivial⟩
  by_cases c5 : q = 5
  · exact ⟨_, Ev.bind f1 (Ev.cf (by simp [c0]) (Ev.cf (by simp [c1]) (Ev.cf (by simp [c2]) (Ev.cf (by simp [c3]) (Ev.cf (by simp [c4]) (Ev.ct (by simp [c5]) Ev.pure)))))), o1, o2, g3, o4, o5, o6, trivial⟩
  by_cases c6 : q = 6
  · exact ⟨_, Ev.bind f1 (Ev.cf (by simp [c0]) (Ev.cf (by simp [c1]) (Ev.cf (by simp [c2]) (Ev.cf (by simp [c3]) (Ev.cf (by simp [c4]) (Ev.cf (by simp [c5]) (Ev.ct (by simp [c6]) (Ev.bind y1 Ev.pure)))))))), small_len rfl, o2, o3, y2, o5, rfl, trivial⟩
  · exact ⟨_, Ev.bind f1 (Ev.cf (by simp [c0]) (Ev.cf (by simp [c1]) (Ev.cf (by simp [c2]) (Ev.cf (by simp [c3]) (Ev.cf (by simp [c4]) (Ev.cf (by simp [c5]) (Ev.cf (by simp [c6]) (Ev.bind y1 Ev.pure)))))))), small_len rfl, o2, ⟨small_len rfl, fun x hx => by rw [List.mem_singleton.1 hx]; exact y2⟩, o4, o5, o6, trivial⟩
theorem lives_ev : Ev (fun k => concourselaw10_lives.f k) true := Ev.add 40 fun m => by kernel_rfl
/-- What is known of a view, as events are added. -/
structure VI (n : Nat) (v : VView) (w : RView) : Prop where
  rel : RelV v w
  len : w.fD.length ≤ 18 + n
  rl : ∀ room, (ofR w room).fL.length ≤ 9 + n
  ok : ∀ room, ∀ e ∈ (ofR w room).fL, Event.ok e
section
variable {es : List Event} {ns : List Int} (hes : ∀ x ∈ es, Event.ok x) (hns : ∀ x ∈ ns, I64 x)
include hes hns
theorem adds_loop : ∀ n x : Nat, 4 - x = n → x ≤ 4 → ∀ v w, VI x v w →
    ∃ (i : Int) (b : Bool) (v' : VView) (w' : RView), El (fun k j => concourselaw10_ViewAdds.l1 k es ns j (x : Int) w.fD v) (.inl (i, b, w'.fD, v')) ∧ VI 4 v' w' := by
  intro n
  induction n with
  | zero =>
    intro x hd hx v w hv
    obtain rfl : x = 4 := by omega
    by_cases h1 : ((4 : Nat) : Int) < (es.length : Int)
    · by_cases h2 : ((4 : Nat) : Int) < (ns.length : Int)
      · refine ⟨((4 : Nat) : Int), false, v, w, ?_, hv⟩
        refine El.step (fun _ _ => by rw [concourselaw10_ViewAdds.l1]) ?_
        exact El.ct (decide_eq_true h1) (El.ct (decide_eq_true h2) (El.cf rfl El.pure))
      · refine ⟨((4 : Nat) : Int), false, v, w, ?_, hv⟩
        refine El.step (fun _ _ => by rw [concourselaw10_ViewAdds.l1]) ?_
        exact El.ct (decide_eq_true h1) (El.cf (decide_eq_false h2) El.pure)
    · refine ⟨((4 : Nat) : Int), false, v, w, ?_, hv⟩
      refine El.step (fun _ _ => by rw [concourselaw10_ViewAdds.l1]) ?_
      exact El.cf (decide_eq_false h1) El.pure
  | succ n ih =>
    intro x hd hx v w hv
    have up : ∀ {v w}, VI x v w → VI 4 v w := fun h => ⟨h.rel, by have := h.len; omega, fun r => by have := h.rl r; omega, h.ok⟩
    by_cases h1 : (x : Int) < (es.length : Int)
    · by_cases h2 : (x : Int) < (ns.length : Int)
      · have hx1 : x < es.length := by omega
        have hx2 : x < ns.length := by omega
        obtain ⟨ro, r1, r2⟩ := roomOf_ev (n := (x : Int)) ⟨by omega, by omega⟩
        have en : (intK .i64).at ns (x : Int) = ns.getD x 0 := kat _ _ _ hx2
        have hn : I64 (ns.getD x 0) := hns _ (by rw [List.getD_eq_getElem?_getD, List.getElem?_eq_getElem hx2]; exact List.getElem_mem hx2)
        have he : Event.ok (ev es x) := hes _ (ev_mem hx1)
        obtain ⟨o, o1, o2⟩ := odd_ev (d := ofR w ro) (hv.ok ro) (by rw [ofR_room]; exact room_size r2) (by have := hv.rl ro; omega) (a := (x : Int)) (b := ns.getD x 0) ⟨by omega, by omega⟩ hn he
        -- its room
        obtain ⟨rm, m1, m2⟩ : ∃ rm, El (fun (k j : Nat) => grd ((0 : Int) ≤ (x : Int) ∧ (x : Int) < (ns.length : Int)) (cond (((ns.getD x 0).tmod 5) == 0) (grd ((0 : Int) ≤ (x : Int) ∧ (x : Int) < (ns.length : Int)) ((concourseref01_RoomOf.f (w64 ((ns.getD x 0).tdiv 5))).bind fun t1042 => some t1042)) (some o.fRoom))) rm ∧ rm.size ≤ maxLen := by
          by_cases h5 : ((ns.getD x 0).tmod 5) = 0
          · have hq : I64 ((ns.getD x 0).tdiv 5) := by
              unfold I64 at hn ⊢
              rcases Int.le_total 0 (ns.getD x 0) with h | h
              · rw [Int.tdiv_eq_ediv_of_nonneg h]; omega
              · have e9 : (ns.getD x 0).tdiv 5 = -((-(ns.getD x 0)).tdiv 5) := by rw [Int.neg_tdiv]; omega
                rw [e9, Int.tdiv_eq_ediv_of_nonneg (by omega)]; omega
            obtain ⟨ry, y1, y2⟩ := roomOf_ev hq
            exact ⟨ry, El.grd ⟨by omega, h2⟩ (El.ct (by rw [h5]; rfl) (El.grd ⟨by omega, h2⟩ (El.bind (Ev.of (by rw [w64_id hq.1 hq.2]; exact y1)).el El.pure))), room_size y2⟩
          · exact ⟨o.fRoom, El.grd ⟨by omega, h2⟩ (El.cf (beq_eq_false_iff_ne.2 h5) El.pure), o2.2.1⟩
        have oe : Event.ok ⟨o.fID, rm, o.fParents, o.fThread, o.fUser, o.fDoes⟩ := ⟨o2.1, m2, o2.2.2.1, o2.2.2.2.1, o2.2.2.2.2.1, o2.2.2.2.2.2.1, trivial⟩
        obtain ⟨v', w', a1, a2, a3, a4, a5⟩ := viewAdd hv.rel oe (by have := hv.len; omega) (by have := hv.rl rm; show (ofR w rm).fL.length ≤ _; omega)
        have hv' : VI (x + 1) v' w' := by
          by_cases hc : code (ofR w rm) ⟨o.fID, rm, o.fParents, o.fThread, o.fUser, o.fDoes⟩ = 0
          · obtain ⟨b1, b2⟩ := a5 hc
            refine ⟨a3, by have := hv.len; omega, fun r => ?_, fun r e' he' => ?_⟩
            · rw [b1]
              split
              · have := hv.rl rm; show ((ofR w rm).fL ++ [_]).length ≤ _; rw [List.length_append, List.length_singleton]; omega
              · have := hv.rl r; omega
            · rw [b1] at he'
              split at he'
              · rcases List.mem_append.1 he' with k | k
                · exact hv.ok rm _ k
                · rw [List.mem_singleton.1 k]; exact oe
              · exact hv.ok r _ he'
          · obtain ⟨b1, b2⟩ := a4 hc
            rw [b1, b2]
            exact ⟨hv.rel, by have := hv.len; omega, fun r => by have := hv.rl r; omega, hv.ok⟩
        obtain ⟨i, b, v2, w2, c1, c2⟩ := ih (x + 1) (by omega) (by omega) v' w' hv'
        refine ⟨i, b, v2, w2, ?_, c2⟩
        refine El.step (fun _ _ => by rw [concourselaw10_ViewAdds.l1]) ?_
        rw [en, ev_at (l := es) hx1, rp_inc (show x ≤ 1000000 by omega)]
        exact El.ct (decide_eq_true h1) (El.ct (decide_eq_true h2) (El.ct (decide_eq_true (by omega)) (El.bind (Ev.of r1).el (El.bind (of_ev (w := w) (by have := hv.len; omega)).el (El.grd ⟨by omega, h2⟩ (El.grd ⟨by omega, h1⟩ (El.bind o1.el (El.bind m1 (El.bind a2.el (El.bind a1.el (El.cf (by simp) c1)))))))))))
      · refine ⟨(x : Int), false, v, w, ?_, up hv⟩
        refine El.step (fun _ _ => by rw [concourselaw10_ViewAdds.l1]) ?_
        exact El.ct (decide_eq_true h1) (El.cf (decide_eq_false h2) El.pure)
    · refine ⟨(x : Int), false, v, w, ?_, up hv⟩
      refine El.step (fun _ _ => by rw [concourselaw10_ViewAdds.l1]) ?_
      exact El.cf (decide_eq_false h1) El.pure
end
theorem ViewAdds_pure (a0 : List GMade) (a1 : List GMade) (a2 : List Event) (a3 : List Int) (k0 : (fun xs : List GMade => xs.length ≤ maxLen ∧ ∀ x ∈ xs, GMade.ok x) a0) (k1 : (fun xs : List GMade => xs.length ≤ maxLen ∧ ∀ x ∈ xs, GMade.ok x) a1) (k2 : (fun xs : List Event => xs.length ≤ maxLen ∧ ∀ x ∈ xs, Event.ok x) a2) (k3 : (fun xs : List Int => xs.length ≤ maxLen ∧ ∀ x ∈ xs, (fun n => (Lit.int .i64 n).wf = true) x) a3) : ∃ k, concourselaw10_ViewAdds.f k a0 a1 a2 a3 = some true := by
  suffices h : Ev (fun k => concourselaw10_ViewAdds.f k a0 a1 a2 a3) true from h.ex
  obtain ⟨v, w, A, B, h1, h2, h3, h4, h5, h6, h7, h8, h9, h10⟩ := build_ev k0 k1
  have hv : VI 0 v w := ⟨h2, by omega, fun room => by
      by_cases e1 : room = roomR
      · subst e1; rw [h8]; exact h4.len
      · by_cases e2 : room = roomQ
        · subst e2; rw [h9]; exact h6.len
        · rw [h10 room e1 e2]; simp, fun room e he => by
      by_cases e1 : room = roomR
      · subst e1; rw [h8] at he; obtain ⟨i, hi, rfl⟩ := mem_ev he; exact (h5 i hi).1
      · by_cases e2 : room = roomQ
        · subst e2; rw [h9] at he; obtain ⟨i, hi, rfl⟩ := mem_ev he; exact (h7 i hi).1
        · rw [h10 room e1 e2] at he; cases he⟩
  obtain ⟨i, b, v', w', c1, c2⟩ := adds_loop k2.2 (fun x hx => i64_of (k3.2 x hx)) _ 0 rfl (by omega) v w hv
  have hl := c2.len
  have round : ∀ n x : Nat, 2 - x = n → x ≤ 2 → El (fun k j => concourselaw10_ViewAdds.l0 k (i, b, w'.fD, v') j (x : Int)) (.inl (2, false)) := by
    intro n
    induction n with
    | zero =>
      intro x hd hx
      obtain rfl : x = 2 := by omega
      refine El.step (fun _ _ => by rw [concourselaw10_ViewAdds.l0]) ?_
      exact El.cf rfl El.pure
    | succ n ih =>
      intro x hd hx
      obtain ⟨ro, r1, r2⟩ := roomOf_ev (n := (x : Int)) ⟨by omega, by omega⟩
      have hd := c2.rl ro
      have hg := rg_room c2.rel (by omega) ro (by omega)
      have hA : (allE (tb (ofR w' ro).fL)).length ≤ 1000 := by rw [(all_perm hg.good).length_eq]; omega
      have hH : (headsE (ofR w' ro).fL (allE (tb (ofR w' ro).fL))).length ≤ 1000 := by
        unfold headsE; rw [List.length_map]; exact Nat.le_trans (List.length_filter_le _ _) hA
      refine El.step (fun _ _ => by rw [concourselaw10_ViewAdds.l0]) ?_
      rw [rp_inc (show x ≤ 1000000 by omega)]
      refine El.ct (decide_eq_true (by omega)) (El.bind (Ev.of r1).el (El.bind (of_ev (w := w') (by omega)).el (El.bind (vevents_ev c2.rel (by omega) ro (by omega)).el (El.bind (rall_ev hg).el (El.bind (sameall_ev hA fun e he => hg.par _ ((all_perm hg.good).mem_iff.1 he)).el (El.cf rfl ?_))))))
      exact El.bind (Ev.of (vheads_ev c2.rel (by omega) ro (by omega))).el (El.bind (rheads_ev hg).el (El.bind (sametexts_refl (by omega)).el (El.cf rfl (ih (x + 1) (by omega) (by omega)))))
  unfold concourselaw10_ViewAdds.f
  refine Ev.bind h1 (Ev.cf rfl (Ev.bind c1.diag ?_))
  simp only [fall]
  refine Ev.bind (round _ 0 rfl (by omega)).diag ?_
  simp only [fall]
  refine Ev.bind (Ev.of (vrooms_ev c2.rel (by omega))) (Ev.bind (rrooms_ev (w := w') (by omega)) (Ev.bind (sametexts_refl (by unfold rms; rw [List.length_map]; omega)) (Ev.ct rfl (Ev.bind lives_ev Ev.pure))))
end Go.Proofs.YtigmkniiojpdiaaGreat
