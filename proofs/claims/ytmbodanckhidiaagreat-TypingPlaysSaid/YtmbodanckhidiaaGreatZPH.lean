/- Plain: a table and the document, beside each other. -/
import Derived.Test.YtmbodanckhidiaaGreatZPG
set_option linter.all false
set_option maxRecDepth 10000
namespace Go.Proofs.YtmbodanckhidiaaGreat
open Go Go.Sp
def keyOf (e : Edu) : ByteArray := (e.fRoom ++ (⟨#[32]⟩ : ByteArray)) ++ e.fUser
def entOf (e : Edu) : HEnt := ⟨e.fTick + e.fSpan, keyOf e⟩
theorem keyOf_inj {a b : Edu} (ha : OkE a) (hb : OkE b) (h : keyOf a = keyOf b) : same a b := keys_injE ha hb h
theorem keyOf_same {a b : Edu} (h : same a b) : keyOf a = keyOf b := by unfold keyOf; rw [h.1, h.2]
/-- A table beside what the document has: each EDU, and whether its end was told. -/
structure Rel (t : TTab) (Z : List (Edu × Bool)) (n : Nat) : Prop where
  fl : t.fl = Z.map (·.1)
  srt : Srt (Z.map (·.1))
  ok : ∀ q ∈ Z, OkE q.1
  idx : Idx t.fends
  ord : Ord t.fends.fl
  ln : Z.length ≤ n
  hn : t.fends.fl.length ≤ n
  cont : ∀ x, x ∈ t.fends.fl ↔ ∃ q ∈ Z, q.2 = false ∧ q.1.fOn = true ∧ x = entOf q.1
def newZ (Z : List (Edu × Bool)) (e : Edu) (p : Nat) : List (Edu × Bool) := Z.take p ++ (e, false) :: Z.drop (cut (Z.map (·.1)) e p)
theorem rel_new : Rel ⟨[], ⟨[], []⟩⟩ [] 0 := ⟨rfl, fun i j _ h => by simp at h, fun q hq => (by cases hq), idx_new, ord_nil, Nat.le_refl _, Nat.le_refl _, fun x => by simp⟩
theorem newZ_map {Z : List (Edu × Bool)} {e : Edu} {p : Nat} : (newZ Z e p).map (·.1) = (Z.map (·.1)).take p ++ e :: (Z.map (·.1)).drop (cut (Z.map (·.1)) e p) := by
  simp [newZ, List.map_take, List.map_drop]
theorem newZ_map2 {Z : List (Edu × Bool)} {e : Edu} {p : Nat} : (newZ Z e p).map (·.2) = (Z.map (·.2)).take p ++ false :: (Z.map (·.2)).drop (cut (Z.map (·.1)) e p) := by
  simp [newZ, List.map_take, List.map_drop]
theorem newZ_rel {t : TTab} {Z : List (Edu × Bool)} {n p : Nat} {e : Edu} {h' : HHeap} (R : Rel t Z n) (he : OkE e) (hp : At (Z.map (·.1)) e p) (hi : Idx h') (hor : Ord h'.fl) (hl : h'.fl.length ≤ n + 1) (hc : ∀ x, x ∈ h'.fl ↔ (e.fOn = true ∧ x = entOf e) ∨ (x ∈ t.fends.fl ∧ x.fKey ≠ keyOf e)) :
    Rel ⟨(newZ Z e p).map (·.1), h'⟩ (newZ Z e p) (n + 1) := by
  have hcut := cut_le hp
  rw [List.length_map] at hcut
  have hg : ∀ m, (Z.map (·.1)).getD m default = (Z.getD m default).1 := fun m => by
    simp only [List.getD_eq_getElem?_getD, List.getElem?_map]
    cases Z[m]? <;> rfl
  refine ⟨rfl, ?_, fun q hq => ?_, hi, hor, ?_, hl, fun x => ?_⟩
  · rw [newZ_map]; exact R.srt.ins hp
  · unfold newZ at hq
    rcases List.mem_append.1 hq with hq | hq
    · exact R.ok q (List.mem_of_mem_take hq)
    · rcases List.mem_cons.1 hq with rfl | hq
      · exact he
      · exact R.ok q (List.mem_of_mem_drop hq)
  · unfold newZ
    have := R.ln
    simp only [List.length_append, List.length_take, List.length_cons, List.length_drop]; omega
  · rw [hc, R.cont]
    unfold newZ
    constructor
    · rintro (⟨h1, h2⟩ | ⟨⟨q, q1, q2, q3, q4⟩, h2⟩)
      · exact ⟨(e, false), List.mem_append_right _ (List.mem_cons_self ..), rfl, h1, h2⟩
      · refine ⟨q, ?_, q2, q3, q4⟩
        obtain ⟨m, m1, rfl⟩ := mem_get default q1
        rcases Nat.lt_or_ge m p with h | h
        · refine List.mem_append_left _ ?_
          rw [List.mem_iff_getElem]
          exact ⟨m, by rw [List.length_take]; omega, by rw [List.getElem_take, List.getD_eq_getElem?_getD, List.getElem?_eq_getElem m1]; rfl⟩
        · refine List.mem_append_right _ (List.mem_cons_of_mem _ ?_)
          have hcm : cut (Z.map (·.1)) e p ≤ m := by
            unfold cut
            split
            · rename_i hh
              rcases Nat.lt_or_ge p m with h3 | h3
              · exact h3
              · obtain rfl : m = p := by omega
                rw [hg] at hh
                exact absurd (by rw [q4]; exact keyOf_same hh.2) h2
            · exact h
          rw [List.mem_iff_getElem]
          refine ⟨m - cut (Z.map (·.1)) e p, by rw [List.length_drop]; omega, ?_⟩
          rw [List.getElem_drop, List.getD_eq_getElem?_getD, List.getElem?_eq_getElem m1]
          simp only [Option.getD_some]
          congr 1; omega
    · rintro ⟨q, q1, q2, q3, q4⟩
      rcases List.mem_append.1 q1 with q1 | q1
      · obtain ⟨m, m1, m2, rfl⟩ := mem_take (d := default) q1
        refine .inr ⟨⟨_, getD_mem m2, q2, q3, q4⟩, fun h => ?_⟩
        rw [q4] at h
        have := keyOf_inj (R.ok _ (getD_mem m2)) he h
        exact ltK_not_same (hp.lo m m1) (by rw [hg]; exact this)
      · rcases List.mem_cons.1 q1 with rfl | q1
        · exact .inl ⟨q3, q4⟩
        · obtain ⟨m, m1, m2, rfl⟩ := mem_drop (d := default) q1
          refine .inr ⟨⟨_, getD_mem m2, q2, q3, q4⟩, fun h => ?_⟩
          rw [q4] at h
          have := keyOf_inj (R.ok _ (getD_mem m2)) he h
          have h3 := hp.gt R.srt m m1 (by rw [List.length_map]; exact m2)
          rw [hg] at h3
          exact ltK_not_same h3 ⟨this.1.symm, this.2.symm⟩
theorem later_ev {a b : Edu} (ha : OkE a) (hb : OkE b) (h : same b a) : Ev (fun k => edu_Later.f k a b) (decide (0 < cmpE a b)) := by
  unfold edu_Later.f edu_Of.f
  refine Ev.bind Ev.pure (Ev.bind Ev.pure (Ev.ct (decide_eq_true ?_) (Ev.bind (cmp_ev ha.sm hb.sm) Ev.pure)))
  rw [ha.kind, hb.kind, ha.thread, hb.thread, ha.priv, hb.priv, h.1, h.2]
theorem keyOf_size {e : Edu} (h : OkE e) : e.fRoom.size + (⟨#[32]⟩ : ByteArray).size ≤ 9223372036854775807 ∧ (e.fRoom ++ (⟨#[32]⟩ : ByteArray)).size + e.fUser.size ≤ 9223372036854775807 := by
  have h1 := h.sm.room
  have h2 := h.sm.user
  rw [ByteArray.size_append, show (⟨#[32]⟩ : ByteArray).size = 1 from rfl]
  omega
/-- Both, of one EDU. -/
theorem put_both {t : TTab} {Z : List (Edu × Bool)} {n : Nat} {e : Edu} (R : Rel t Z n) (hn : n ≤ 1000) (he : OkE e) : ∃ p, At (Z.map (·.1)) e p ∧
    Ev (fun k => concourseref14_Put.f k ⟨Z.map (·.1), Z.map (·.2)⟩ e) (if old (Z.map (·.1)) e p then (⟨Z.map (·.1), Z.map (·.2)⟩, false, 0) else (⟨(newZ Z e p).map (·.1), (newZ Z e p).map (·.2)⟩, true, 0)) ∧
    ∃ t', Ev (fun k => typing_Table_Put.f k t e) (!old (Z.map (·.1)) e p, 0, t') ∧ Rel t' (if old (Z.map (·.1)) e p then Z else newZ Z e p) (n + 1) := by
  obtain ⟨p, hp, hev⟩ := at_ex (l := Z.map (·.1)) (by rw [List.length_map]; have := R.ln; omega) R.srt e t.fends
  refine ⟨p, hp, ?_, ?_⟩
  · have := refput_ev (T := Z.map (·.2)) he (fun x hx => by obtain ⟨q, hq, rfl⟩ := List.mem_map.1 hx; exact R.ok q hq) R.srt (by simp) (by rw [List.length_map]; have := R.ln; omega) hp
    rw [newZ_map, newZ_map2]
    exact this
  · obtain ⟨fl, fends⟩ := t
    obtain ⟨r1, r2, r3, r4, ro, r5, r6, r7⟩ := R
    simp only at r1 r4 ro r6 r7 hev
    subst r1
    have hlen : (Z.map (·.1)).length ≤ n := by rw [List.length_map]; exact r5
    generalize hL : Z.map (·.1) = L at *
    have hk : (e.fKind != 2) = false := by rw [he.kind]; rfl
    -- behind the row
    have tail : old L e p = false → ∀ (fl' : List Edu) , fl' = (newZ Z e p).map (·.1) → ∃ t', Ev (fun k => grd (e.fRoom.size + (⟨#[32]⟩ : ByteArray).size ≤ 9223372036854775807) (grd ((e.fRoom ++ (⟨#[32]⟩ : ByteArray)).size + e.fUser.size ≤ 9223372036854775807) ((heap_Heap_Drop.f k fends ((e.fRoom ++ (⟨#[32]⟩ : ByteArray)) ++ e.fUser)).bind fun t809 => cond e.fOn ((typing_end.f e).bind fun t812 => (heap_Heap_Put.f k t809.2 t812 ((e.fRoom ++ (⟨#[32]⟩ : ByteArray)) ++ e.fUser)).bind fun t814 => some (true, (0 : Int), (⟨fl', t814⟩ : TTab))) (some (true, 0, (⟨fl', t809.2⟩ : TTab)))))) (true, 0, t') ∧ Rel t' (newZ Z e p) (n + 1) := by
      intro _ fl' hfl
      obtain ⟨h1, d1, d2, d3, d4, d5⟩ := drop_ev r4 ro (by omega) (keyOf e)
      have hs := keyOf_size he
      have R0 : Rel ⟨L, fends⟩ Z n := ⟨hL.symm, by rw [hL]; exact r2, r3, r4, ro, r5, r6, r7⟩
      cases ho : e.fOn with
      | true =>
        obtain ⟨h2, u1, u2, u3, u4, u5⟩ := put_ev d2 d5 (by omega) (e.fTick + e.fSpan) (keyOf e)
        have hw : w64 (e.fTick + e.fSpan) = e.fTick + e.fSpan := by have a := he.tick; have b := he.span1 ho; rw [w64_id (by omega) (by omega)]
        have hend : typing_end.f e = some (e.fTick + e.fSpan) := by unfold typing_end.f; rw [hw]
        refine ⟨⟨fl', h2⟩, Ev.grd hs.1 (Ev.grd hs.2 (Ev.bind d1 (Ev.ct rfl (Ev.bind (Ev.of hend) (Ev.bind u1 Ev.pure))))), ?_⟩
        rw [hfl]
        refine newZ_rel R0 he (by rw [hL]; exact hp) u2 u5 ?_ (fun x => ?_)
        · have : (mget h1.fat (keyOf e)) = none := by
            cases hm : mget h1.fat (keyOf e) with
            | none => rfl
            | some v => obtain ⟨i, _, hi, hk⟩ := d2.bw _ _ hm; exact absurd hk ((d4 _).1 (getD_mem hi)).2
          rw [this] at u3
          simp at u3
          omega
        · rw [u4, d4]
          constructor
          · rintro (rfl | ⟨⟨a, _⟩, b⟩)
            · exact .inl ⟨ho, rfl⟩
            · exact .inr ⟨a, b⟩
          · rintro (⟨_, rfl⟩ | ⟨a, b⟩)
            · exact .inl rfl
            · exact .inr ⟨⟨a, b⟩, b⟩
      | false =>
        refine ⟨⟨fl', h1⟩, Ev.grd hs.1 (Ev.grd hs.2 (Ev.bind d1 (Ev.cf rfl Ev.pure))), ?_⟩
        rw [hfl]
        refine newZ_rel R0 he (by rw [hL]; exact hp) d2 d5 (by show h1.fl.length ≤ _; omega) (fun x => ?_)
        rw [d4]
        constructor
        · rintro ⟨a, b⟩; exact .inr ⟨a, b⟩
        · rintro (⟨a, _⟩ | ⟨a, b⟩)
          · rw [ho] at a; cases a
          · exact ⟨a, b⟩
    have hmap : (newZ Z e p).map (·.1) = L.take p ++ e :: L.drop (cut L e p) := by rw [newZ_map, hL]
    unfold typing_Table_Put.f
    dsimp only
    by_cases hh : p < L.length ∧ same (L.getD p default) e
    · have hcut : cut L e p = p + 1 := if_pos hh
      have hx : OkE (L.getD p default) := by
        obtain ⟨q, hq, e1⟩ := List.mem_map.1 (by rw [hL]; exact getD_mem (d := default) hh.1 : L.getD p default ∈ Z.map (·.1))
        rw [← e1]; exact r3 q hq
      have hhas : (decide (p < L.length) && decide (same (L.getD p default) e)) = true := by rw [decide_eq_true hh.1, decide_eq_true hh.2]; rfl
      rw [hhas] at hev
      by_cases heq : L.getD p default = e
      · have ho : old L e p = true := decide_eq_true ⟨hh.1, hh.2, by rw [heq, cmpE_self]; exact Int.le_refl _⟩
        rw [ho]
        show ∃ t', Ev _ (false, 0, t') ∧ Rel t' Z (n + 1)
        refine ⟨⟨L, fends⟩, Ev.cf hk (Ev.bind (may_ev he) (Ev.cf rfl (Ev.bind hev (Ev.bind (a := (.inr (false, 0, ⟨L, fends⟩) : (Bool × Bool × Bool × TTab) ⊕ (Bool × Int × TTab))) (Ev.ct rfl (Ev.grd ⟨by omega, by have := hh.1; omega⟩ (Ev.ct ?_ Ev.pure))) Ev.pure)))), ?_⟩
        · rw [Int.toNat_natCast]; exact decide_eq_true heq
        · exact ⟨hL.symm, by rw [hL]; exact r2, r3, r4, ro, by omega, by show fends.fl.length ≤ _; omega, r7⟩
      · by_cases hc : cmpE e (L.getD p default) ≤ 0
        · have ho : old L e p = true := decide_eq_true ⟨hh.1, hh.2, hc⟩
          rw [ho]
          show ∃ t', Ev _ (false, 0, t') ∧ Rel t' Z (n + 1)
          refine ⟨⟨L, fends⟩, Ev.cf hk (Ev.bind (may_ev he) (Ev.cf rfl (Ev.bind hev (Ev.bind (a := (.inr (false, 0, ⟨L, fends⟩) : (Bool × Bool × Bool × TTab) ⊕ (Bool × Int × TTab))) (Ev.ct rfl (Ev.grd ⟨by omega, by have := hh.1; omega⟩ (Ev.cf ?_ (Ev.grd ⟨by omega, by have := hh.1; omega⟩ (Ev.bind (later_ev he hx hh.2) (Ev.ct ?_ Ev.pure)))))) Ev.pure)))), ?_⟩
          · rw [Int.toNat_natCast]; exact decide_eq_false heq
          · show (!decide (0 < cmpE e (L.getD p default))) = _; rw [decide_eq_false (by omega)]; rfl
          · exact ⟨hL.symm, by rw [hL]; exact r2, r3, r4, ro, by omega, by show fends.fl.length ≤ _; omega, r7⟩
        · have ho : old L e p = false := decide_eq_false (fun h => hc h.2.2)
          obtain ⟨t', k1, k2⟩ := tail ho (L.set p e) (by rw [hmap, hcut, List.set_eq_take_append_cons_drop, if_pos hh.1])
          rw [ho]
          show ∃ t', Ev _ (true, 0, t') ∧ Rel t' (newZ Z e p) (n + 1)
          refine ⟨t', Ev.cf hk (Ev.bind (may_ev he) (Ev.cf rfl (Ev.bind hev (Ev.bind (a := (.inl (true, !decide (0 < cmpE e (L.getD p default)), true, ⟨L.set p e, fends⟩) : (Bool × Bool × Bool × TTab) ⊕ (Bool × Int × TTab))) (Ev.ct rfl (Ev.grd ⟨by omega, by have := hh.1; omega⟩ (Ev.cf ?_ (Ev.grd ⟨by omega, by have := hh.1; omega⟩ (Ev.bind (later_ev he hx hh.2) (Ev.cf ?_ (Ev.grd ⟨by omega, by have := hh.1; omega⟩ ?_))))))) k1)))), k2⟩
          · rw [Int.toNat_natCast]; exact decide_eq_false heq
          · show (!decide (0 < cmpE e (L.getD p default))) = _; rw [decide_eq_true (by omega)]; rfl
          · rw [Int.toNat_natCast]; exact Ev.pure
    · have hcut : cut L e p = p := if_neg hh
      have ho : old L e p = false := decide_eq_false (fun h => hh ⟨h.1, h.2.1⟩)
      have hhas : (decide (p < L.length) && decide (same (L.getD p default) e)) = false := by
        rw [Bool.and_eq_false_iff]
        by_cases h : p < L.length
        · exact .inr (decide_eq_false fun h2 => hh ⟨h, h2⟩)
        · exact .inl (decide_eq_false h)
      rw [hhas] at hev
      obtain ⟨t', k1, k2⟩ := tail ho (L.take p ++ [e] ++ L.drop p) (by rw [hmap, hcut]; simp)
      have hins : slices_Insert_Edu.f L (p : Int) [e] = some (L.take p ++ [e] ++ L.drop p) := by
        unfold slices_Insert_Edu.f
        have h1 := hp.le
        simp only [grd, Int.toNat_natCast, List.length_singleton]
        rw [if_pos ⟨by omega, by omega, by omega, by omega, by omega⟩]
      rw [ho]
      show ∃ t', Ev _ (true, 0, t') ∧ Rel t' (newZ Z e p) (n + 1)
      exact ⟨t', Ev.cf hk (Ev.bind (may_ev he) (Ev.cf rfl (Ev.bind hev (Ev.bind (a := (.inl (false, false, false, ⟨L.take p ++ [e] ++ L.drop p, fends⟩) : (Bool × Bool × Bool × TTab) ⊕ (Bool × Int × TTab))) (Ev.cf rfl (Ev.bind (Ev.of hins) Ev.pure)) k1)))), k2⟩
end Go.Proofs.YtmbodanckhidiaaGreat
