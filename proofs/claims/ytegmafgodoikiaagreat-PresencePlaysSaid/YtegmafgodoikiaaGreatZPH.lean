/- Plain: a table and the document, beside each other. -/
import Derived.Test.YtegmafgodoikiaaGreatZPG
set_option linter.all false
set_option maxRecDepth 10000
namespace Go.Proofs.YtegmafgodoikiaaGreat
open Go Go.Sp
/-- The first turn above a tick. -/
def turnV (e : Edu) (above : Int) : Option Int :=
  if e.fState = 2 then (if above < e.fTick + 30 then some (e.fTick + 30) else if above < e.fTick + 90 then some (e.fTick + 90) else none)
  else if e.fState = 1 then (if above < e.fTick + 90 then some (e.fTick + 90) else none) else none
def stateV (e : Edu) (at_ : Int) : Int := if e.fState = 2 ∧ at_ < e.fTick + 30 then 2 else if 0 < e.fState ∧ at_ < e.fTick + 90 then 1 else 0
theorem state_eq {e : Edu} (h : OkE e) (at_ : Int) : presence_state.f e at_ = some (stateV e at_) := by
  have h1 := h.state
  have h2 := h.tick
  have w1 : w64 (e.fTick + 30) = e.fTick + 30 := w64_id (by omega) (by omega)
  have w2 : w64 (e.fTick + 90) = e.fTick + 90 := w64_id (by omega) (by omega)
  unfold presence_state.f stateV
  rw [w1, w2]
  have h3 : e.fState = 0 ∨ e.fState = 1 ∨ e.fState = 2 := by omega
  rcases h3 with h3 | h3 | h3 <;> rw [h3] <;> by_cases a : at_ < e.fTick + 30 <;> by_cases b : at_ < e.fTick + 90 <;> simp [a, b]
theorem turn_ev {e : Edu} (h : OkE e) {above : Int} (ha : -1 ≤ above) : Ev (fun k => presence_turn.f k e above) ((turnV e above).getD 0, (turnV e above).isSome) := by
  have h1 := h.state
  have h2 := h.tick
  have h3 : e.fState = 0 ∨ e.fState = 1 ∨ e.fState = 2 := by omega
  have w1 : w64 (e.fTick + (intK .i64).at ([30, 90] : List Int) 0) = e.fTick + 30 := w64_id (x := e.fTick + 30) (by omega) (by omega)
  have w2 : w64 (e.fTick + (intK .i64).at ([30, 90] : List Int) 1) = e.fTick + 90 := w64_id (x := e.fTick + 90) (by omega) (by omega)
  have w3 : w64 (e.fTick + 30 - 1) = e.fTick + 29 := by rw [w64_id (by omega) (by omega)]; omega
  have w4 : w64 (e.fTick + 90 - 1) = e.fTick + 89 := by rw [w64_id (by omega) (by omega)]; omega
  have s1 : stateV e (e.fTick + 29) = e.fState := by unfold stateV; rcases h3 with h3 | h3 | h3 <;> rw [h3] <;> simp <;> omega
  have s2 : stateV e (e.fTick + 30) = (if e.fState = 0 then 0 else 1) := by unfold stateV; rcases h3 with h3 | h3 | h3 <;> rw [h3] <;> simp <;> omega
  have s3 : stateV e (e.fTick + 89) = (if e.fState = 0 then 0 else 1) := by unfold stateV; rcases h3 with h3 | h3 | h3 <;> rw [h3] <;> simp <;> omega
  have s4 : stateV e (e.fTick + 90) = 0 := by unfold stateV; rcases h3 with h3 | h3 | h3 <;> rw [h3] <;> simp
  unfold presence_turn.f
  have e1 : w64 (0 + 1) = 1 := rfl
  have e2 : w64 (1 + 1) = 2 := rfl
  have fin : El (fun k j => presence_turn.l0 k e above j 2) (.inl (2, false)) := by
    refine El.step (fun _ _ => by rw [presence_turn.l0]) ?_
    exact El.cf (by decide) El.pure
  have second : ∀ {v}, (above < e.fTick + 90 → 0 < e.fState → v = .inr (e.fTick + 90, true)) → (¬ (above < e.fTick + 90 ∧ 0 < e.fState) → v = .inl (2, false)) → El (fun k j => presence_turn.l0 k e above j 1) v := by
    intro v v1 v2
    refine El.step (fun _ _ => by rw [presence_turn.l0]) ?_
    simp only [w2, w4, e2]
    refine El.ct (by decide) (El.grd (by decide) ?_)
    by_cases k1 : above < e.fTick + 90
    · refine El.ct (decide_eq_true k1) (El.bind (Ev.el (Ev.of (state_eq h _))) (El.bind (Ev.el (Ev.of (state_eq h _))) ?_))
      rw [s3, s4]
      by_cases k2 : e.fState = 0
      · rw [v2 (fun k => by omega), if_pos k2]
        exact El.cf (by decide) fin
      · rw [v1 k1 (by omega), if_neg k2]
        exact El.ct (by decide) El.pure
    · rw [v2 (fun k => k1 k.1)]
      exact El.cf (decide_eq_false k1) fin
  by_cases k1 : above < e.fTick + 30 ∧ e.fState = 2
  · have hv : turnV e above = some (e.fTick + 30) := by unfold turnV; rw [if_pos k1.2, if_pos k1.1]
    rw [hv]
    have L : El (fun k j => presence_turn.l0 k e above j 0) (.inr (e.fTick + 30, true)) := by
      refine El.step (fun _ _ => by rw [presence_turn.l0]) ?_
      simp only [w1, w3, e1]
      refine El.ct (by decide) (El.grd (by decide) (El.ct (decide_eq_true k1.1) (El.bind (Ev.el (Ev.of (state_eq h _))) (El.bind (Ev.el (Ev.of (state_eq h _))) ?_))))
      rw [s1, s2, k1.2]
      exact El.ct (by decide) El.pure
    exact Ev.bind L.diag Ev.pure
  · have first : ∀ {v}, El (fun k j => presence_turn.l0 k e above j 1) v → El (fun k j => presence_turn.l0 k e above j 0) v := by
      intro v G
      refine El.step (fun _ _ => by rw [presence_turn.l0]) ?_
      simp only [w1, w3, e1]
      refine El.ct (by decide) (El.grd (by decide) ?_)
      by_cases k2 : above < e.fTick + 30
      · refine El.ct (decide_eq_true k2) (El.bind (Ev.el (Ev.of (state_eq h _))) (El.bind (Ev.el (Ev.of (state_eq h _))) (El.cf ?_ G)))
        rw [s1, s2]
        have k3 : ¬ e.fState = 2 := fun k => k1 ⟨k2, k⟩
        apply decide_eq_false
        split <;> omega
      · exact El.cf (decide_eq_false k2) G
    by_cases k2 : above < e.fTick + 90 ∧ 0 < e.fState
    · have hv : turnV e above = some (e.fTick + 90) := by
        unfold turnV
        rcases h3 with h3 | h3 | h3
        · omega
        · rw [h3, if_neg (by decide), if_pos rfl, if_pos k2.1]
        · rw [h3, if_pos rfl, if_neg (fun k => k1 ⟨k, h3⟩), if_pos k2.1]
      rw [hv]
      exact Ev.bind (first (second (fun _ _ => rfl) (fun k => absurd k2 k))).diag Ev.pure
    · have hv : turnV e above = none := by
        unfold turnV
        rcases h3 with h3 | h3 | h3
        · rw [h3, if_neg (by decide), if_neg (by decide)]
        · rw [h3, if_neg (by decide), if_pos rfl, if_neg (fun k => k2 ⟨k, by omega⟩)]
        · have : ¬ above < e.fTick + 90 := fun k => k2 ⟨k, by omega⟩
          rw [h3, if_pos rfl, if_neg (by omega), if_neg this]
      rw [hv]
      exact Ev.bind (first (second (fun a b => absurd ⟨a, b⟩ k2) (fun _ => rfl))).diag Ev.pure
/-- A table beside what the document has: each EDU, and whether its end was told. -/
structure Rel (t : PTab) (Z : List (Edu × Int)) (n : Nat) : Prop where
  fl : t.fl = Z.map (·.1)
  srt : Srt (Z.map (·.1))
  ok : ∀ q ∈ Z, OkE q.1
  idx : Idx t.fturns
  ord : Ord t.fturns.fl
  ln : Z.length ≤ n
  hn : t.fturns.fl.length ≤ n
  cont : ∀ x, x ∈ t.fturns.fl ↔ ∃ q ∈ Z, turnV q.1 q.2 = some x.fAt ∧ x.fKey = q.1.fUser
def newZ (Z : List (Edu × Int)) (e : Edu) (p : Nat) : List (Edu × Int) := Z.take p ++ (e, -1) :: Z.drop (cut (Z.map (·.1)) e p)
theorem rel_new : Rel ⟨[], ⟨[], []⟩⟩ [] 0 := ⟨rfl, fun i j _ h => by simp at h, fun q hq => (by cases hq), idx_new, ord_nil, Nat.le_refl _, Nat.le_refl _, fun x => by simp⟩
theorem newZ_map {Z : List (Edu × Int)} {e : Edu} {p : Nat} : (newZ Z e p).map (·.1) = (Z.map (·.1)).take p ++ e :: (Z.map (·.1)).drop (cut (Z.map (·.1)) e p) := by
  simp [newZ, List.map_take, List.map_drop]
theorem newZ_map2 {Z : List (Edu × Int)} {e : Edu} {p : Nat} : (newZ Z e p).map (·.2) = (Z.map (·.2)).take p ++ (-1) :: (Z.map (·.2)).drop (cut (Z.map (·.1)) e p) := by
  simp [newZ, List.map_take, List.map_drop]
theorem newZ_rel {t : PTab} {Z : List (Edu × Int)} {n p : Nat} {e : Edu} {h' : HHeap} (R : Rel t Z n) (he : OkE e) (hp : At (Z.map (·.1)) e p) (hi : Idx h') (hor : Ord h'.fl) (hl : h'.fl.length ≤ n + 1) (hc : ∀ x, x ∈ h'.fl ↔ (turnV e (-1) = some x.fAt ∧ x.fKey = e.fUser) ∨ (x ∈ t.fturns.fl ∧ x.fKey ≠ e.fUser)) :
    Rel ⟨(newZ Z e p).map (·.1), h'⟩ (newZ Z e p) (n + 1) := by
  have hcut := cut_le hp
  rw [List.length_map] at hcut
  have hg : ∀ m, (Z.map (·.1)).getD m default = (Z.getD m default).1 := fun m => by
    simp only [List.getD_eq_getElem?_getD, List.getElem?_map]
    cases Z[m]? <;> rfl
  refine ⟨rfl, ?_, fun q hq => ?_, hi, hor, ?_, hl, fun x => ?_⟩
  · rw [newZ_map]; exact R.srt.ins hp
  · unfold newZ at hq
    rcases List.mem_append.1 hq with hq | hq
    · exact R.ok q (List.mem_of_mem_take hq)
    · rcases List.mem_cons.1 hq with rfl | hq
      · exact he
      · exact R.ok q (List.mem_of_mem_drop hq)
  · unfold newZ
    have := R.ln
    simp only [List.length_append, List.length_take, List.length_cons, List.length_drop]; omega
  · rw [hc, R.cont]
    unfold newZ
    constructor
    · rintro (⟨h1, h2⟩ | ⟨⟨q, q1, q2, q3⟩, h2⟩)
      · exact ⟨(e, -1), List.mem_append_right _ (List.mem_cons_self ..), h1, h2⟩
      · refine ⟨q, ?_, q2, q3⟩
        obtain ⟨m, m1, rfl⟩ := mem_get default q1
        rcases Nat.lt_or_ge m p with h | h
        · refine List.mem_append_left _ ?_
          rw [List.mem_iff_getElem]
          exact ⟨m, by rw [List.length_take]; omega, by rw [List.getElem_take, List.getD_eq_getElem?_getD, List.getElem?_eq_getElem m1]; rfl⟩
        · refine List.mem_append_right _ (List.mem_cons_of_mem _ ?_)
          have hcm : cut (Z.map (·.1)) e p ≤ m := by
            unfold cut
            split
            · rename_i hh
              rcases Nat.lt_or_ge p m with h3 | h3
              · exact h3
              · obtain rfl : m = p := by omega
                rw [hg] at hh
                exact absurd (by rw [q3]; exact hh.2.1) h2
            · exact h
          rw [List.mem_iff_getElem]
          refine ⟨m - cut (Z.map (·.1)) e p, by rw [List.length_drop]; omega, ?_⟩
          rw [List.getElem_drop, List.getD_eq_getElem?_getD, List.getElem?_eq_getElem m1]
          simp only [Option.getD_some]
          congr 1; omega
    · rintro ⟨q, q1, q2, q3⟩
      rcases List.mem_append.1 q1 with q1 | q1
      · obtain ⟨m, m1, m2, rfl⟩ := mem_take (d := default) q1
        refine .inr ⟨⟨_, getD_mem m2, q2, q3⟩, fun h => ?_⟩
        rw [q3] at h
        exact ltK_not_same (hp.lo m m1) (by rw [hg]; exact ⟨h, h⟩)
      · rcases List.mem_cons.1 q1 with rfl | q1
        · exact .inl ⟨q2, q3⟩
        · obtain ⟨m, m1, m2, rfl⟩ := mem_drop (d := default) q1
          refine .inr ⟨⟨_, getD_mem m2, q2, q3⟩, fun h => ?_⟩
          rw [q3] at h
          have h3 := hp.gt R.srt m m1 (by rw [List.length_map]; exact m2)
          rw [hg] at h3
          exact ltK_not_same h3 ⟨h.symm, h.symm⟩
theorem later_ev {a b : Edu} (ha : OkE a) (hb : OkE b) (h : same b a) : Ev (fun k => edu_Later.f k a b) (decide (0 < cmpE a b)) := by
  unfold edu_Later.f edu_Of.f
  refine Ev.bind Ev.pure (Ev.bind Ev.pure (Ev.ct (decide_eq_true ?_) (Ev.bind (cmp_ev ha.sm hb.sm) Ev.pure)))
  rw [ha.kind, hb.kind, ha.room, hb.room, ha.thread, hb.thread, ha.priv, hb.priv, h.1]
/-- Both, of one EDU. -/
theorem put_both {t : PTab} {Z : List (Edu × Int)} {n : Nat} {e : Edu} (R : Rel t Z n) (hn : n ≤ 1000) (he : OkE e) : ∃ p, At (Z.map (·.1)) e p ∧
    Ev (fun k => concourseref15_Put.f k ⟨Z.map (·.1), Z.map (·.2)⟩ e) (if old (Z.map (·.1)) e p then (⟨Z.map (·.1), Z.map (·.2)⟩, false, 0) else (⟨(newZ Z e p).map (·.1), (newZ Z e p).map (·.2)⟩, true, 0)) ∧
    ∃ t', Ev (fun k => presence_Table_Put.f k t e) (!old (Z.map (·.1)) e p, 0, t') ∧ Rel t' (if old (Z.map (·.1)) e p then Z else newZ Z e p) (n + 1) := by
  obtain ⟨p, hp, hev⟩ := at_ex (l := Z.map (·.1)) (by rw [List.length_map]; have := R.ln; omega) R.srt e t.fturns
  refine ⟨p, hp, ?_, ?_⟩
  · have := refput_ev (T := Z.map (·.2)) he (fun x hx => by obtain ⟨q, hq, rfl⟩ := List.mem_map.1 hx; exact R.ok q hq) R.srt (by simp) (by rw [List.length_map]; have := R.ln; omega) hp
    rw [newZ_map, newZ_map2]
    exact this
  · obtain ⟨fl, fturns⟩ := t
    obtain ⟨r1, r2, r3, r4, ro, r5, r6, r7⟩ := R
    simp only at r1 r4 ro r6 r7 hev
    subst r1
    have hlen : (Z.map (·.1)).length ≤ n := by rw [List.length_map]; exact r5
    generalize hL : Z.map (·.1) = L at *
    have hk : (e.fKind != 3) = false := by rw [he.kind]; rfl
    -- behind the row
    have tail : old L e p = false → ∀ (fl' : List Edu) , fl' = (newZ Z e p).map (·.1) → ∃ t', Ev (fun k => (heap_Heap_Drop.f k fturns e.fUser).bind fun t785 => (presence_turn.f k e (-1)).bind fun t787 => cond t787.2 ((heap_Heap_Put.f k t785.2 t787.1 e.fUser).bind fun t790 => some (true, (0 : Int), (⟨fl', t790⟩ : PTab))) (some (true, 0, (⟨fl', t785.2⟩ : PTab)))) (true, 0, t') ∧ Rel t' (newZ Z e p) (n + 1) := by
      intro _ fl' hfl
      obtain ⟨h1, d1, d2, d3, d4, d5⟩ := drop_ev r4 ro (by omega) e.fUser
      have R0 : Rel ⟨L, fturns⟩ Z n := ⟨hL.symm, by rw [hL]; exact r2, r3, r4, ro, r5, r6, r7⟩
      have tv := turn_ev he (above := -1) (by omega)
      cases ho : turnV e (-1) with
      | some v =>
        rw [ho] at tv
        obtain ⟨h2, u1, u2, u3, u4, u5⟩ := put_ev d2 d5 (by omega) v e.fUser
        refine ⟨⟨fl', h2⟩, Ev.bind d1 (Ev.bind tv (Ev.ct rfl (Ev.bind u1 Ev.pure))), ?_⟩
        rw [hfl]
        refine newZ_rel R0 he (by rw [hL]; exact hp) u2 u5 ?_ (fun x => ?_)
        · have : (mget h1.fat e.fUser) = none := by
            cases hm : mget h1.fat e.fUser with
            | none => rfl
            | some v => obtain ⟨i, _, hi, hk⟩ := d2.bw _ _ hm; exact absurd hk ((d4 _).1 (getD_mem hi)).2
          rw [this] at u3
          simp at u3
          omega
        · rw [u4, d4, ho]
          constructor
          · rintro (rfl | ⟨⟨a, _⟩, b⟩)
            · exact .inl ⟨rfl, rfl⟩
            · exact .inr ⟨a, b⟩
          · rintro (⟨a, b⟩ | ⟨a, b⟩)
            · obtain ⟨x1, x2⟩ := x
              simp only [Option.some.injEq] at a b
              subst a b
              exact .inl rfl
            · exact .inr ⟨⟨a, b⟩, b⟩
      | none =>
        rw [ho] at tv
        refine ⟨⟨fl', h1⟩, Ev.bind d1 (Ev.bind tv (Ev.cf rfl Ev.pure)), ?_⟩
        rw [hfl]
        refine newZ_rel R0 he (by rw [hL]; exact hp) d2 d5 (by show h1.fl.length ≤ _; omega) (fun x => ?_)
        rw [d4, ho]
        constructor
        · rintro ⟨a, b⟩; exact .inr ⟨a, b⟩
        · rintro (⟨a, _⟩ | ⟨a, b⟩)
          · cases a
          · exact ⟨a, b⟩
    have hmap : (newZ Z e p).map (·.1) = L.take p ++ e :: L.drop (cut L e p) := by rw [newZ_map, hL]
    unfold presence_Table_Put.f
    dsimp only
    by_cases hh : p < L.length ∧ same (L.getD p default) e
    · have hcut : cut L e p = p + 1 := if_pos hh
      have hx : OkE (L.getD p default) := by
        obtain ⟨q, hq, e1⟩ := List.mem_map.1 (by rw [hL]; exact getD_mem (d := default) hh.1 : L.getD p default ∈ Z.map (·.1))
        rw [← e1]; exact r3 q hq
      have hhas : (decide (p < L.length) && decide (same (L.getD p default) e)) = true := by rw [decide_eq_true hh.1, decide_eq_true hh.2]; rfl
      rw [hhas] at hev
      by_cases hc : cmpE e (L.getD p default) ≤ 0
      · have ho : old L e p = true := decide_eq_true ⟨hh.1, hh.2, hc⟩
        rw [ho]
        show ∃ t', Ev _ (false, 0, t') ∧ Rel t' Z (n + 1)
        refine ⟨⟨L, fturns⟩, Ev.cf hk (Ev.bind (may_ev he) (Ev.cf rfl (Ev.bind hev (Ev.bind (a := (.inr (false, 0, ⟨L, fturns⟩) : (Bool × Bool × Bool × PTab) ⊕ (Bool × Int × PTab))) (Ev.ct rfl (Ev.grd ⟨by omega, by have := hh.1; omega⟩ (Ev.bind (later_ev he hx hh.2) (Ev.ct ?_ Ev.pure)))) Ev.pure)))), ?_⟩
        · show (!decide (0 < cmpE e (L.getD p default))) = _; rw [decide_eq_false (by omega)]; rfl
        · exact ⟨hL.symm, by rw [hL]; exact r2, r3, r4, ro, by omega, by show fturns.fl.length ≤ _; omega, r7⟩
      · have ho : old L e p = false := decide_eq_false (fun h => hc h.2.2)
        obtain ⟨t', k1, k2⟩ := tail ho (L.set p e) (by rw [hmap, hcut, List.set_eq_take_append_cons_drop, if_pos hh.1])
        rw [ho]
        show ∃ t', Ev _ (true, 0, t') ∧ Rel t' (newZ Z e p) (n + 1)
        refine ⟨t', Ev.cf hk (Ev.bind (may_ev he) (Ev.cf rfl (Ev.bind hev (Ev.bind (a := (.inl (true, !decide (0 < cmpE e (L.getD p default)), true, ⟨L.set p e, fturns⟩) : (Bool × Bool × Bool × PTab) ⊕ (Bool × Int × PTab))) (Ev.ct rfl (Ev.grd ⟨by omega, by have := hh.1; omega⟩ (Ev.bind (later_ev he hx hh.2) (Ev.cf ?_ (Ev.grd ⟨by omega, by have := hh.1; omega⟩ ?_))))) k1)))), k2⟩
        · show (!decide (0 < cmpE e (L.getD p default))) = _; rw [decide_eq_true (by omega)]; rfl
        · rw [Int.toNat_natCast]; exact Ev.pure
    · have hcut : cut L e p = p := if_neg hh
      have ho : old L e p = false := decide_eq_false (fun h => hh ⟨h.1, h.2.1⟩)
      have hhas : (decide (p < L.length) && decide (same (L.getD p default) e)) = false := by
        rw [Bool.and_eq_false_iff]
        by_cases h : p < L.length
        · exact .inr (decide_eq_false fun h2 => hh ⟨h, h2⟩)
        · exact .inl (decide_eq_false h)
      rw [hhas] at hev
      obtain ⟨t', k1, k2⟩ := tail ho (L.take p ++ [e] ++ L.drop p) (by rw [hmap, hcut]; simp)
      have hins : slices_Insert_Edu.f L (p : Int) [e] = some (L.take p ++ [e] ++ L.drop p) := by
        unfold slices_Insert_Edu.f
        have h1 := hp.le
        simp only [grd, Int.toNat_natCast, List.length_singleton]
        rw [if_pos ⟨by omega, by omega, by omega, by omega, by omega⟩]
      rw [ho]
      show ∃ t', Ev _ (true, 0, t') ∧ Rel t' (newZ Z e p) (n + 1)
      exact ⟨t', Ev.cf hk (Ev.bind (may_ev he) (Ev.cf rfl (Ev.bind hev (Ev.bind (a := (.inl (false, false, false, ⟨L.take p ++ [e] ++ L.drop p, fturns⟩) : (Bool × Bool × Bool × PTab) ⊕ (Bool × Int × PTab))) (Ev.cf rfl (Ev.bind (Ev.of hins) Ev.pure)) k1)))), k2⟩
end Go.Proofs.YtegmafgodoikiaaGreat
