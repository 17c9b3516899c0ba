/- Plain: who turns, and when the next turn is. -/
import Derived.Test.YtegmafgodoikiaaGreatZPW
import Derived.Test.YtegmafgodoikiaaGreatZPI
set_option linter.all false
set_option maxRecDepth 10000
namespace Go.Proofs.YtegmafgodoikiaaGreat
open Go Go.Sp
theorem turn_gt {e : Edu} {s a : Int} (h : turnV e s = some a) : s < a := by
  unfold turnV at h
  split at h
  · split at h
    · cases h; omega
    · split at h
      · cases h; omega
      · cases h
  · split at h
    · split at h
      · cases h; omega
      · cases h
    · cases h
theorem turn_late {e : Edu} {s s' a : Int} (h : turnV e s = some a) (h1 : s ≤ s') (h2 : s' < a) : turnV e s' = some a := by
  unfold turnV at h ⊢
  split at h
  · rename_i c; rw [if_pos c]
    split at h
    · cases h; rw [if_pos h2]
    · rename_i d
      split at h
      · cases h; rw [if_neg (by omega), if_pos h2]
      · cases h
  · rename_i c; rw [if_neg c]
    split at h
    · rename_i d; rw [if_pos d]
      split at h
      · cases h; rw [if_pos h2]
      · cases h
    · cases h
theorem turn_none {e : Edu} {s s' : Int} (h : turnV e s = none) (h1 : s ≤ s') : turnV e s' = none := by
  cases k : turnV e s' with
  | none => rfl
  | some a =>
    exfalso
    unfold turnV at h k
    split at h
    · rename_i c; rw [if_pos c] at k
      split at h
      · cases h
      · rename_i d
        rw [if_neg (by omega)] at k
        split at h
        · cases h
        · rw [if_neg (by omega)] at k; cases k
    · rename_i c; rw [if_neg c] at k
      split at h
      · rename_i d; rw [if_pos d] at k
        split at h
        · cases h
        · rw [if_neg (by omega)] at k; cases k
      · rename_i d; rw [if_neg d] at k; cases k
theorem turn_ge {e : Edu} (h : OkE e) {s a : Int} (k : turnV e s = some a) : 30 ≤ a := by
  have := h.tick
  unfold turnV at k
  split at k
  · split at k
    · cases k; omega
    · split at k
      · cases k; omega
      · cases k
  · split at k
    · split at k
      · cases k; omega
      · cases k
    · cases k
section
variable {t : PTab} {Z : List (Edu × Int)} {n : Nat}
theorem rel_one (R : Rel t Z n) {q q' : Edu × Int} (h : q ∈ Z) (h' : q' ∈ Z) (e : q.1.fUser = q'.1.fUser) : q = q' := by
  obtain ⟨i, hi, rfl⟩ := List.mem_iff_getElem.1 h
  obtain ⟨j, hj, rfl⟩ := List.mem_iff_getElem.1 h'
  have key : ∀ i j, (hi : i < Z.length) → (hj : j < Z.length) → i < j → Z[i].1.fUser = Z[j].1.fUser → False := fun i j hi hj hij e => by
    have := R.srt i j hij (by simpa using hj)
    rw [List.getD_eq_getElem?_getD, List.getD_eq_getElem?_getD, List.getElem?_map, List.getElem?_map, List.getElem?_eq_getElem hi, List.getElem?_eq_getElem hj] at this
    exact ltK_not_same this ⟨e, e⟩
  rcases Nat.lt_trichotomy i j with h1 | h1 | h1
  · exact (key i j hi hj h1 e).elim
  · subst h1; rfl
  · exact (key j i hj hi h1 e.symm).elim
/-- Where a user's EDU stands. -/
theorem place_ev (R : Rel t Z n) (hn : n ≤ 1000) (h : HHeap) {q : Edu × Int} (hq : q ∈ Z) : ∃ p : Nat, p < t.fl.length ∧ t.fl.getD p default = q.1 ∧ Ev (fun k => presence_Table_place.f k ⟨t.fl, h⟩ q.1.fUser) ((p : Int), true) := by
  have hl : t.fl.length ≤ 1000 := by rw [R.fl, List.length_map]; have := R.ln; omega
  have hs : Srt t.fl := by rw [R.fl]; exact R.srt
  obtain ⟨p, hp, hev⟩ := at_ex (l := t.fl) (by omega) hs q.1 h
  have hm : q.1 ∈ t.fl := by rw [R.fl]; exact List.mem_map.2 ⟨q, hq, rfl⟩
  obtain ⟨m, m1, m2⟩ := mem_get default hm
  have e : m = p := by
    rcases Nat.lt_trichotomy m p with h1 | h1 | h1
    · have := hp.lo m h1; rw [m2] at this; exact (ltK_not_same this ⟨rfl, rfl⟩).elim
    · exact h1
    · have h2 := hs p m h1 m1
      have h3 := hp.hi p (Nat.le_refl _) (by omega)
      rw [m2] at h2; rw [h2] at h3; cases h3
  subst e
  refine ⟨m, m1, m2, ?_⟩
  rw [decide_eq_true m1, m2, decide_eq_true (show same q.1 q.1 from ⟨rfl, rfl⟩)] at hev
  exact hev
theorem turned_loop (R : Rel t Z n) (hn : n ≤ 1000) {at_ : Int} {d : List ByteArray × HHeap} (hat : d.1 ≠ [] → -1 ≤ at_) (hd : d.1.length ≤ 1000) (hnd : d.1.Nodup) (hus : ∀ u ∈ d.1, ∃ q ∈ Z, q.1.fUser = u) (hne : ∀ x ∈ d.2.fl, x.fKey ∉ d.1) :
    ∀ k m : Nat, d.1.length - m = k → m ≤ d.1.length → ∀ h : HHeap, Idx h → Ord h.fl → h.fl.length ≤ 1000 + m →
      (∀ x, x ∈ h.fl ↔ x ∈ d.2.fl ∨ ∃ q ∈ Z, q.1.fUser ∈ d.1.take m ∧ x.fKey = q.1.fUser ∧ turnV q.1 at_ = some x.fAt) →
      ∃ a h', El (fun k j => presence_Table_Turned.l0 k at_ d j (m : Int) ⟨t.fl, h⟩) a ∧ a.2.2 = ⟨t.fl, h'⟩ ∧ Idx h' ∧ Ord h'.fl ∧
        (∀ x, x ∈ h'.fl ↔ x ∈ d.2.fl ∨ ∃ q ∈ Z, q.1.fUser ∈ d.1 ∧ x.fKey = q.1.fUser ∧ turnV q.1 at_ = some x.fAt) := by
  intro k
  induction k with
  | zero =>
    intro m hk hm h H O hl hc
    obtain rfl : m = d.1.length := by omega
    rw [List.take_length] at hc
    refine ⟨((d.1.length : Int), false, ⟨t.fl, h⟩), h, ?_, rfl, H, O, hc⟩
    refine El.step (fun _ _ => by rw [presence_Table_Turned.l0]) ?_
    exact El.cf (by simp) (by simpa using El.pure)
  | succ k ih =>
    intro m hk hm h H O hl hc
    have hlt : m < d.1.length := by omega
    have hu : d.1.getD m default ∈ d.1 := getD_mem hlt
    have hu2 : d.1.getD m default = d.1[m] := by rw [List.getD_eq_getElem?_getD, List.getElem?_eq_getElem hlt]; rfl
    have htake : d.1.take (m + 1) = d.1.take m ++ [d.1.getD m default] := by rw [List.take_succ_eq_append_getElem hlt, hu2]
    obtain ⟨q, hq, hqu⟩ := hus _ hu
    obtain ⟨p, p1, p2, p3⟩ := place_ev R hn h hq
    rw [hqu] at p3
    have hok := R.ok q hq
    have hat' := hat (List.ne_nil_of_length_pos (by omega))
    have ht := turn_ev hok (above := at_) hat'
    have one : ∀ q' ∈ Z, q'.1.fUser = d.1.getD m default → q' = q := fun q' h1 h2 => rel_one R h1 hq (h2.trans hqu.symm)
    have step : ∀ {h2 : HHeap} {a}, Ev (fun k => cond (turnV q.1 at_).isSome ((heap_Heap_Put.f k h ((turnV q.1 at_).getD 0) (d.1.getD m default)).bind fun t589 => some t589) (some h)) h2 → El (fun k j => presence_Table_Turned.l0 k at_ d j ((m + 1 : Nat) : Int) ⟨t.fl, h2⟩) a → El (fun k j => presence_Table_Turned.l0 k at_ d j (m : Int) ⟨t.fl, h⟩) a := fun {h2 a} g1 g2 => by
      refine El.step (fun _ _ => by rw [presence_Table_Turned.l0]) ?_
      simp only [inc_nat (show m ≤ 1000000 by omega), Int.toNat_natCast]
      refine El.ct (decide_eq_true (by omega)) (El.grd ⟨by omega, by omega⟩ (El.bind p3.el (El.grd ⟨by omega, by show (p : Int) < _; omega⟩ ?_)))
      show El (fun k j => (presence_turn.f k (t.fl.getD (p : Int).toNat default) at_).bind _) _
      rw [Int.toNat_natCast, p2]
      refine El.bind ht.el ?_
      cases hs : (turnV q.1 at_).isSome with
      | false =>
        rw [hs] at g1
        have := g1.uniq (Ev.cf rfl Ev.pure)
        subst this
        exact El.cf rfl g2
      | true =>
        rw [hs] at g1
        obtain ⟨K, hK⟩ := g1
        refine El.ct rfl (El.bind (Ev.el ⟨K, fun k hk => ?_⟩) g2)
        have := hK k hk
        simpa using this
    have base : ∀ {h2 : HHeap}, (∀ x, x ∈ h2.fl ↔ x ∈ h.fl ∨ (x.fKey = d.1.getD m default ∧ turnV q.1 at_ = some x.fAt)) → ∀ x, x ∈ h2.fl ↔ x ∈ d.2.fl ∨ ∃ q ∈ Z, q.1.fUser ∈ d.1.take (m + 1) ∧ x.fKey = q.1.fUser ∧ turnV q.1 at_ = some x.fAt := fun hh x => by
      rw [hh, hc, htake]
      constructor
      · rintro ((h1 | ⟨q', a, b, c, e⟩) | ⟨a, b⟩)
        · exact .inl h1
        · exact .inr ⟨q', a, List.mem_append_left _ b, c, e⟩
        · exact .inr ⟨q, hq, List.mem_append_right _ (by rw [hqu]; exact List.mem_singleton_self _), a.trans hqu.symm, b⟩
      · rintro (h1 | ⟨q', a, b, c, e⟩)
        · exact .inl (.inl h1)
        · rcases List.mem_append.1 b with b | b
          · exact .inl (.inr ⟨q', a, b, c, e⟩)
          · have := one q' a (List.mem_singleton.1 b)
            subst this
            exact .inr ⟨c.trans hqu, e⟩
    cases hs : turnV q.1 at_ with
    | none =>
      obtain ⟨a, h', r1, r2⟩ := ih (m + 1) (by omega) (by omega) h H O (by omega) (base fun x => by rw [hs]; simp)
      exact ⟨a, h', step (by rw [hs]; exact Ev.cf rfl Ev.pure) r1, r2⟩
    | some b =>
      obtain ⟨h2, u1, u2, u3, u4, u5⟩ := put_ev H O (by omega) b (d.1.getD m default)
      have hlen : h2.fl.length ≤ 1000 + (m + 1) := by rw [u3]; omega
      obtain ⟨a, h', r1, r2⟩ := ih (m + 1) (by omega) (by omega) h2 u2 u5 hlen (base fun x => by
        rw [u4, hs]
        constructor
        · rintro (rfl | ⟨a, _⟩)
          · exact .inr ⟨rfl, rfl⟩
          · exact .inl a
        · rintro (a | ⟨a, c⟩)
          · refine .inr ⟨a, fun e => ?_⟩
            rcases (hc x).1 a with g | ⟨q', g1, g2, g3, _⟩
            · exact hne x g (by rw [e]; exact hu)
            · rw [← g3, e, hu2] at g2
              obtain ⟨i, hi, e2⟩ := List.mem_iff_getElem.1 g2
              rw [List.length_take] at hi
              rw [List.getElem_take] at e2
              exact absurd e2 (List.pairwise_iff_getElem.1 hnd i m (by omega) hlt (by omega))
          · left
            have c2 : b = x.fAt := Option.some.inj c
            rw [c2, ← a])
      exact ⟨a, h', step (by rw [hs]; exact Ev.ct rfl (Ev.bind u1 Ev.pure)) r1, r2⟩
theorem turned_ev (R : Rel t Z n) (hn : n ≤ 1000) (at_ : Int) : ∃ (t' : PTab) (vs : List ByteArray), Ev (fun k => presence_Table_Turned.f k t at_) (srtS vs, t') ∧ Rel t' (Z.map fun q => (q.1, max q.2 at_)) n ∧ vs.Nodup ∧ (∀ u, u ∈ vs ↔ ∃ q ∈ Z, q.1.fUser = u ∧ ∃ a, turnV q.1 q.2 = some a ∧ a ≤ at_) := by
  have hh := R.hn
  obtain ⟨h0, vs, d1, d2, d3, d4, d5, d6, d7⟩ := due_ev R.idx R.ord (by omega) at_
  have hmem : ∀ u, u ∈ vs ↔ ∃ q ∈ Z, q.1.fUser = u ∧ ∃ a, turnV q.1 q.2 = some a ∧ a ≤ at_ := fun u => by
    rw [d6]
    constructor
    · rintro ⟨x, a, b, c⟩
      obtain ⟨q, q1, q2, q3⟩ := (R.cont x).1 a
      exact ⟨q, q1, q3.symm.trans c, x.fAt, q2, b⟩
    · rintro ⟨q, q1, q2, a, a1, a2⟩
      exact ⟨⟨a, u⟩, (R.cont _).2 ⟨q, q1, a1, q2.symm⟩, a2, rfl⟩
  obtain ⟨a, h', r1, r2, r3, r4, r5⟩ := turned_loop R hn (at_ := at_) (d := (vs, h0)) (fun hv => by
    obtain ⟨u, hu⟩ := List.exists_mem_of_ne_nil _ hv
    obtain ⟨q, q1, _, b, b1, b2⟩ := (hmem u).1 hu
    have := turn_ge (R.ok q q1) b1
    omega) (by show vs.length ≤ 1000; omega) d7 (fun u hu => by obtain ⟨q, q1, q2, _⟩ := (hmem u).1 hu; exact ⟨q, q1, q2⟩) (fun x hx hk => by
    obtain ⟨x1, x2⟩ := (d5 x).1 hx
    obtain ⟨y, y1, y2, y3⟩ := (d6 _).1 hk
    obtain ⟨i, i1, rfl⟩ := mem_getD.1 x1
    obtain ⟨j, j1, rfl⟩ := mem_getD.1 y1
    have := R.idx.inj j1 i1 y3
    subst this
    omega) _ 0 rfl (by omega) h0 d2 d3 (by omega) (fun x => by simp)
  refine ⟨⟨t.fl, h'⟩, vs, ?_, ?_, d7, hmem⟩
  · unfold presence_Table_Turned.f slices_Sort_string.f
    refine Ev.bind d1 (Ev.bind r1.diag ?_)
    rw [r2]
    exact Ev.bind (Ev.grd (by show vs.length < _; omega) Ev.pure) Ev.pure
  · have hcont : ∀ x, x ∈ h'.fl ↔ ∃ q ∈ Z.map (fun q => (q.1, max q.2 at_)), turnV q.1 q.2 = some x.fAt ∧ x.fKey = q.1.fUser := fun x => by
      rw [r5]
      constructor
      · rintro (hx | ⟨q, q1, q2, q3, q4⟩)
        · obtain ⟨x1, x2⟩ := (d5 x).1 hx
          obtain ⟨q, q1, q2, q3⟩ := (R.cont x).1 x1
          have := turn_gt q2
          exact ⟨_, List.mem_map.2 ⟨q, q1, rfl⟩, turn_late q2 (by omega) (by omega), q3⟩
        · obtain ⟨q', g1, g2, a, a1, a2⟩ := (hmem _).1 q2
          have := rel_one R g1 q1 g2
          subst this
          have := turn_gt a1
          exact ⟨_, List.mem_map.2 ⟨q', q1, rfl⟩, by show turnV q'.1 (max q'.2 at_) = _; rw [show max q'.2 at_ = at_ by omega]; exact q4, q3⟩
      · rintro ⟨q, hq, q2, q3⟩
        obtain ⟨q, q1, rfl⟩ := List.mem_map.1 hq
        change turnV q.1 (max q.2 at_) = some x.fAt at q2
        change x.fKey = q.1.fUser at q3
        cases ht : turnV q.1 q.2 with
        | none => rw [turn_none ht (by omega)] at q2; cases q2
        | some a =>
          have hg := turn_gt ht
          by_cases ha : a ≤ at_
          · rw [show max q.2 at_ = at_ by omega] at q2
            exact .inr ⟨q, q1, (hmem _).2 ⟨q, q1, rfl, a, ht, ha⟩, q3, q2⟩
          · rw [turn_late ht (show q.2 ≤ max q.2 at_ by omega) (by omega)] at q2
            cases q2
            exact .inl ((d5 x).2 ⟨(R.cont x).2 ⟨q, q1, ht, q3⟩, by omega⟩)
    have e1 : (Z.map fun q => (q.1, max q.2 at_)).map (·.1) = Z.map (·.1) := by rw [List.map_map]; rfl
    refine ⟨by rw [e1]; exact R.fl, by rw [e1]; exact R.srt, fun q hq => ?_, r3, r4, by rw [List.length_map]; exact R.ln, ?_, hcont⟩
    · obtain ⟨q, q1, rfl⟩ := List.mem_map.1 hq; exact R.ok q q1
    · -- each entry is of another user
      have hk : (h'.fl.map (·.fKey)).Nodup := by
        rw [List.nodup_iff_pairwise_ne, List.pairwise_map, List.pairwise_iff_getElem]
        intro i j hi hj hij e
        have := r3.inj hi hj (by rw [List.getD_eq_getElem?_getD, List.getD_eq_getElem?_getD, List.getElem?_eq_getElem hi, List.getElem?_eq_getElem hj]; exact e)
        omega
      have hsub : ∀ u ∈ h'.fl.map (·.fKey), u ∈ Z.map (fun q => q.1.fUser) := fun u hu => by
        obtain ⟨x, hx, rfl⟩ := List.mem_map.1 hu
        obtain ⟨q, hq, _, q3⟩ := (hcont x).1 hx
        obtain ⟨q, q1, rfl⟩ := List.mem_map.1 hq
        exact List.mem_map.2 ⟨q, q1, q3.symm⟩
      have hle : ∀ {l S : List ByteArray}, l.Nodup → (∀ x ∈ l, x ∈ S) → l.length ≤ S.length := fun {l} => by
        induction l with
        | nil => intro S _ _; simp
        | cons a l ih =>
          intro S hn hs
          rw [List.nodup_cons] at hn
          have ha := hs a (List.mem_cons_self ..)
          have h1 := ih (S := S.filter fun x => decide (x ≠ a)) hn.2 fun x hx => List.mem_filter.2 ⟨hs x (List.mem_cons_of_mem _ hx), decide_eq_true fun e => hn.1 (by rw [← e]; exact hx)⟩
          have h2 : (S.filter fun x => decide (x ≠ a)).length < S.length := List.length_filter_lt_length_iff_exists.2 ⟨a, ha, by simp⟩
          simp only [List.length_cons]; omega
      have h1 := hle hk hsub
      rw [List.length_map, List.length_map] at h1
      have := R.ln
      show h'.fl.length ≤ n
      omega
theorem next_ev (O : Ord t.fturns.fl) : (t.fturns.fl = [] ∧ presence_Table_Next.f t = some (0, false)) ∨ ∃ x, x ∈ t.fturns.fl ∧ presence_Table_Next.f t = some (x.fAt, true) ∧ ∀ y ∈ t.fturns.fl, x.fAt ≤ y.fAt := by
  unfold presence_Table_Next.f
  rcases first_ev O with ⟨h1, h2⟩ | ⟨x, h1, h2, h3⟩
  · exact .inl ⟨h1, by rw [h2]; rfl⟩
  · exact .inr ⟨x, h1, by rw [h2]; rfl, h3⟩
end
end Go.Proofs.YtegmafgodoikiaaGreat
