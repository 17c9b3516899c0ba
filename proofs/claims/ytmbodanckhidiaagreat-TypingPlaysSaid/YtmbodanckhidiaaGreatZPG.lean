/- Plain: what is put, as the document tells. -/
import Derived.Test.YtmbodanckhidiaaGreatZPF
import Derived.Test.YtmbodanckhidiaaGreatZPS
set_option linter.all false
set_option maxRecDepth 10000
namespace Go.Proofs.YtmbodanckhidiaaGreat
open Go Go.Sp
theorem at_ex {l : List Edu} (hl : l.length ≤ 1000000) (hs : Srt l) (e : Edu) (d : HHeap) : ∃ p, At l e p ∧ Ev (fun k => typing_Table_place.f k ⟨l, d⟩ e) ((p : Int), decide (p < l.length) && decide (same (l.getD p default) e)) := by
  obtain ⟨p, k1, k2, k3, k4⟩ := search_ev (l := l) (e := e) (c := fun x => keyC x e) (g := typing_Table_place_1.f) (fun x => place1_ev x e) hl (fun i j h1 h2 h3 => keyC_lt.2 (ltK_trans (hs i j h1 h2) (keyC_lt.1 h3)))
  refine ⟨p, ⟨k1, fun m hm => keyC_lt.1 (k2 m hm), fun m h1 h2 => ?_⟩, ?_⟩
  · have := k3 m h1 h2
    cases h : ltK (l.getD m default) e with
    | false => rfl
    | true => have := keyC_lt.2 h; omega
  · unfold typing_Table_place.f
    have e2 : (keyC (l.getD p default) e == 0) = decide (same (l.getD p default) e) := by
      rw [Bool.eq_iff_iff]; simp [keyC_eq]
    rw [← e2]
    exact Ev.bind k4 Ev.pure
section
variable {L : List Edu} {T : List Bool} {e : Edu}
theorem bool_nat (l : List Bool) (m : Nat) : boolK.at l (m : Int) = l.getD m false := by unfold Kd.at; rw [Int.toNat_natCast] <;> rfl
/-- An element of another key. -/
theorem ref_ne (hT : T.length = L.length) {m : Nat} (hm : m < L.length) {d : Bool} {L' : List Edu} {T' : List Bool} (hL' : L'.length ≤ 100000) (hT' : T'.length ≤ 100000) (hbig : L.length ≤ 100000) (hs : ¬ same (L.getD m default) e) {v}
    (G : El (fun k j => concourseref14_Put.l0 k ⟨L, T⟩ e j (d || ltK e (L.getD m default)) ((m + 1 : Nat) : Int) ((if !d && ltK e (L.getD m default) then L' ++ [e] else L') ++ [L.getD m default]) ((if !d && ltK e (L.getD m default) then T' ++ [false] else T') ++ [T.getD m false])) v) :
    El (fun k j => concourseref14_Put.l0 k ⟨L, T⟩ e j d (m : Int) L' T') v := by
  have hw : w64 ((m : Int) + 1) = ((m + 1 : Nat) : Int) := by rw [w64_id (by omega) (by omega)]; omega
  refine El.step (fun _ _ => by rw [concourseref14_Put.l0]) ?_
  simp only [hw, at_nat, bool_nat]
  generalize hx : L.getD m default = x at *
  refine El.ct (decide_eq_true (by omega)) (El.grd ⟨by omega, by omega⟩ ?_)
  have A : ∀ (d' : Bool) (q : Bool) (L'' : List Edu) (T'' : List Bool), d' = (d || ltK e x) → L'' = (if !d && ltK e x then L' ++ [e] else L') → T'' = (if !d && ltK e x then T' ++ [false] else T') → L''.length ≤ 100001 → T''.length ≤ 100001 →
      El (fun k j => grd (L''.length + ([x] : List Edu).length ≤ 9223372036854775807 ∧ (L''.length + ([x] : List Edu).length) * 112 ≤ 140737488355328) (grd ((0 : Int) ≤ (m : Int) ∧ (m : Int) < (T.length : Int)) (grd (T''.length + ([T.getD m false] : List Bool).length ≤ 9223372036854775807 ∧ (T''.length + ([T.getD m false] : List Bool).length) * 1 ≤ 140737488355328) (concourseref14_Put.l0 k ⟨L, T⟩ e j d' ((m + 1 : Nat) : Int) (L'' ++ ([x] : List Edu)) (T'' ++ ([T.getD m false] : List Bool)))))) v := by
    intro d' q L'' T'' e1 e2 e3 b1 b2
    subst e1
    refine El.grd ⟨by simp only [List.length_singleton]; omega, by simp only [List.length_singleton]; omega⟩ (El.grd ⟨by omega, by omega⟩ (El.grd ⟨by simp only [List.length_singleton]; omega, by simp only [List.length_singleton]; omega⟩ ?_))
    rw [e2, e3]
    exact G
  have X : El (fun k j => (cond (!d) (cond (sLt e.fRoom x.fRoom) (grd (L'.length + ([e] : List Edu).length ≤ 9223372036854775807 ∧ (L'.length + ([e] : List Edu).length) * 112 ≤ 140737488355328) (grd (T'.length + ([false] : List Bool).length ≤ 9223372036854775807 ∧ (T'.length + ([false] : List Bool).length) * 1 ≤ 140737488355328) (some (true, true, L' ++ ([e] : List Edu), T' ++ ([false] : List Bool))))) (cond (decide (e.fRoom = x.fRoom)) (cond (sLt e.fUser x.fUser) (grd (L'.length + ([e] : List Edu).length ≤ 9223372036854775807 ∧ (L'.length + ([e] : List Edu).length) * 112 ≤ 140737488355328) (grd (T'.length + ([false] : List Bool).length ≤ 9223372036854775807 ∧ (T'.length + ([false] : List Bool).length) * 1 ≤ 140737488355328) (some (true, sLt e.fUser x.fUser, L' ++ ([e] : List Edu), T' ++ ([false] : List Bool))))) (some (d, sLt e.fUser x.fUser, L', T'))) (some (d, false, L', T')))) (some (d, false, L', T'))).bind fun (p285 : Bool × Bool × (List Edu) × (List Bool)) => grd (p285.2.2.1.length + ([x] : List Edu).length ≤ 9223372036854775807 ∧ (p285.2.2.1.length + ([x] : List Edu).length) * 112 ≤ 140737488355328) (grd ((0 : Int) ≤ (m : Int) ∧ (m : Int) < (T.length : Int)) (grd (p285.2.2.2.length + ([T.getD m false] : List Bool).length ≤ 9223372036854775807 ∧ (p285.2.2.2.length + ([T.getD m false] : List Bool).length) * 1 ≤ 140737488355328) (concourseref14_Put.l0 k ⟨L, T⟩ e j p285.1 ((m + 1 : Nat) : Int) (p285.2.2.1 ++ ([x] : List Edu)) (p285.2.2.2 ++ ([T.getD m false] : List Bool)))))) v := by
    have g1 : L'.length + ([e] : List Edu).length ≤ 9223372036854775807 ∧ (L'.length + ([e] : List Edu).length) * 112 ≤ 140737488355328 := by simp only [List.length_singleton]; omega
    have g2 : T'.length + ([false] : List Bool).length ≤ 9223372036854775807 ∧ (T'.length + ([false] : List Bool).length) * 1 ≤ 140737488355328 := by simp only [List.length_singleton]; omega
    cases d with
    | true => exact El.bind (a := (true, false, L', T')) (El.cf rfl El.pure) (A true false L' T' (by simp) (by simp) (by simp) (by omega) (by omega))
    | false =>
      cases h1 : sLt e.fRoom x.fRoom with
      | true =>
        have hk : ltK e x = true := by simp [ltK, h1]
        exact El.bind (a := (true, true, L' ++ [e], T' ++ [false])) (El.ct rfl (El.ct rfl (El.grd g1 (El.grd g2 El.pure)))) (A true true _ _ (by simp [hk]) (by simp [hk]) (by simp [hk]) (by simp; omega) (by simp; omega))
      | false =>
        by_cases h2 : e.fRoom = x.fRoom
        · cases h3 : sLt e.fUser x.fUser with
          | true =>
            have hk : ltK e x = true := by simp [ltK, h2, h3]
            exact El.bind (a := (true, true, L' ++ [e], T' ++ [false])) (El.ct rfl (El.cf rfl (El.ct (decide_eq_true h2) (El.ct rfl (El.grd g1 (El.grd g2 El.pure)))))) (A true true _ _ (by simp [hk]) (by simp [hk]) (by simp [hk]) (by simp; omega) (by simp; omega))
          | false =>
            have hk : ltK e x = false := by simp [ltK, h1, h3]
            exact El.bind (a := (false, false, L', T')) (El.ct rfl (El.cf rfl (El.ct (decide_eq_true h2) (El.cf rfl El.pure)))) (A false false L' T' (by simp [hk]) (by simp [hk]) (by simp [hk]) (by omega) (by omega))
        · have hk : ltK e x = false := by simp [ltK, h1, h2]
          exact El.bind (a := (false, false, L', T')) (El.ct rfl (El.cf rfl (El.cf (decide_eq_false h2) El.pure))) (A false false L' T' (by simp [hk]) (by simp [hk]) (by simp [hk]) (by omega) (by omega))
  by_cases hr : x.fRoom = e.fRoom
  · have hu : ¬ x.fUser = e.fUser := fun h => hs ⟨hr, h⟩
    exact El.ct (decide_eq_true hr) (El.cf (decide_eq_false hu) X)
  · exact El.cf (decide_eq_false hr) X
/-- What stands behind, once it is laid in. -/
theorem ref_C (hT : T.length = L.length) (hbig : L.length ≤ 50000) : ∀ (d m : Nat) (L' : List Edu) (T' : List Bool), L.length - m ≤ d → m ≤ L.length → (∀ j, m ≤ j → j < L.length → ltK e (L.getD j default) = true) → L'.length + (L.length - m) ≤ 100000 → T'.length + (L.length - m) ≤ 100000 →
    El (fun k j => concourseref14_Put.l0 k ⟨L, T⟩ e j true (m : Int) L' T') (.inl (true, (L.length : Int), false, L' ++ L.drop m, T' ++ T.drop m)) := by
  intro d
  induction d with
  | zero =>
    intro m L' T' hd hm _ _ _
    obtain rfl : m = L.length := by omega
    refine El.step (fun _ _ => by rw [concourseref14_Put.l0]) ?_
    have : ¬ ((L.length : Int) < (L.length : Int)) := by omega
    have e1 : L' ++ L.drop L.length = L' := by simp
    have e2 : T' ++ T.drop L.length = T' := by simp [← hT]
    rw [decide_eq_false this, e1, e2]
    exact El.cf rfl El.pure
  | succ d ih =>
    intro m L' T' hd hm h1 hL' hT'
    by_cases hlt : m < L.length
    · have hk := h1 m (Nat.le_refl _) hlt
      refine ref_ne hT hlt (by omega) (by omega) (by omega) (fun h => ltK_not_same hk ⟨h.1.symm, h.2.symm⟩) ?_
      have := ih (m + 1) (L' ++ [L.getD m default]) (T' ++ [T.getD m false]) (by omega) (by omega) (fun j hj hj2 => h1 j (by omega) hj2) (by simp; omega) (by simp; omega)
      have e1 : L' ++ [L.getD m default] ++ L.drop (m + 1) = L' ++ L.drop m := by
        rw [List.drop_eq_getElem_cons hlt, List.getD_eq_getElem?_getD, List.getElem?_eq_getElem hlt]; simp
      have e2 : T' ++ [T.getD m false] ++ T.drop (m + 1) = T' ++ T.drop m := by
        rw [List.drop_eq_getElem_cons (by omega : m < T.length), List.getD_eq_getElem?_getD, List.getElem?_eq_getElem (by omega : m < T.length)]; simp
      rw [e1, e2] at this
      simpa using this
    · exact ih m L' T' (by omega) hm h1 hL' hT'
/-- Behind the place: it is laid in ahead of the next one, or it is still to come. -/
theorem ref_B (hT : T.length = L.length) (hbig : L.length ≤ 50000) (m : Nat) (L' : List Edu) (T' : List Bool) (hm : m ≤ L.length) (h1 : ∀ j, m ≤ j → j < L.length → ltK e (L.getD j default) = true) (hL' : L'.length + (L.length - m) ≤ 99990) (hT' : T'.length + (L.length - m) ≤ 99990) :
    ∃ d L'' T'', El (fun k j => concourseref14_Put.l0 k ⟨L, T⟩ e j false (m : Int) L' T') (.inl (d, (L.length : Int), false, L'', T'')) ∧ L''.length ≤ 100000 ∧ T''.length ≤ 100000 ∧ (if d then L'' else L'' ++ [e]) = L' ++ e :: L.drop m ∧ (if d then T'' else T'' ++ [false]) = T' ++ false :: T.drop m := by
  by_cases hlt : m < L.length
  · have hk := h1 m (Nat.le_refl _) hlt
    have := ref_C (e := e) hT hbig L.length (m + 1) (L' ++ [e] ++ [L.getD m default]) (T' ++ [false] ++ [T.getD m false]) (by omega) (by omega) (fun j hj hj2 => h1 j (by omega) hj2) (by simp; omega) (by simp; omega)
    have e1 : L' ++ [e] ++ [L.getD m default] ++ L.drop (m + 1) = L' ++ e :: L.drop m := by
      rw [List.drop_eq_getElem_cons hlt, List.getD_eq_getElem?_getD, List.getElem?_eq_getElem hlt]; simp
    have e2 : T' ++ [false] ++ [T.getD m false] ++ T.drop (m + 1) = T' ++ false :: T.drop m := by
      rw [List.drop_eq_getElem_cons (by omega : m < T.length), List.getD_eq_getElem?_getD, List.getElem?_eq_getElem (by omega : m < T.length)]; simp
    rw [e1, e2] at this
    refine ⟨true, _, _, ref_ne hT hlt (by omega) (by omega) (by omega) (fun h => ltK_not_same hk ⟨h.1.symm, h.2.symm⟩) (by rw [hk]; exact this), by simp; omega, by simp; omega, rfl, rfl⟩
  · obtain rfl : m = L.length := by omega
    refine ⟨false, L', T', ?_, by omega, by omega, by simp, by simp [← hT]⟩
    refine El.step (fun _ _ => by rw [concourseref14_Put.l0]) ?_
    have : ¬ ((L.length : Int) < (L.length : Int)) := by omega
    rw [decide_eq_false this]
    exact El.cf rfl El.pure
/-- Up to the place. -/
theorem ref_A (hT : T.length = L.length) (hbig : L.length ≤ 50000) {p : Nat} (hp : p ≤ L.length) (h1 : ∀ m, m < p → ltK (L.getD m default) e = true) {v} (G : El (fun k j => concourseref14_Put.l0 k ⟨L, T⟩ e j false (p : Int) (L.take p) (T.take p)) v) : ∀ d m, p - m ≤ d → m ≤ p → El (fun k j => concourseref14_Put.l0 k ⟨L, T⟩ e j false (m : Int) (L.take m) (T.take m)) v := by
  intro d
  induction d with
  | zero => intro m hd hm; obtain rfl : m = p := by omega
            exact G
  | succ d ih =>
    intro m hd hm
    by_cases hlt : m < p
    · have hk := h1 m hlt
      have hn := ltK_asymm hk
      have := ih (m + 1) (by omega) (by omega)
      have e1 : L.take (m + 1) = L.take m ++ [L.getD m default] := by
        rw [List.take_succ_eq_append_getElem (by omega : m < L.length), List.getD_eq_getElem?_getD, List.getElem?_eq_getElem (by omega : m < L.length)]; simp
      have e2 : T.take (m + 1) = T.take m ++ [T.getD m false] := by
        rw [List.take_succ_eq_append_getElem (by omega : m < T.length), List.getD_eq_getElem?_getD, List.getElem?_eq_getElem (by omega : m < T.length)]; simp
      rw [e1, e2] at this
      exact ref_ne hT (by omega) (by simp; omega) (by simp; omega) (by omega) (ltK_not_same hk) (by rw [hn]; exact this)
    · obtain rfl : m = p := by omega
      exact G
theorem refput_ev (he : OkE e) (hL : ∀ x ∈ L, OkE x) (hs : Srt L) (hT : T.length = L.length) (hbig : L.length ≤ 50000) {p : Nat} (hp : At L e p) :
    Ev (fun k => concourseref14_Put.f k ⟨L, T⟩ e) (if old L e p then (⟨L, T⟩, false, 0) else (⟨L.take p ++ e :: L.drop (cut L e p), T.take p ++ false :: T.drop (cut L e p)⟩, true, 0)) := by
  unfold concourseref14_Put.f
  have hk : (e.fKind != 2) = false := by rw [he.kind]; rfl
  refine Ev.bind (may_ref he) (Ev.cf hk (Ev.cf rfl ?_))
  have start : ∀ {v}, El (fun k j => concourseref14_Put.l0 k ⟨L, T⟩ e j false (p : Int) (L.take p) (T.take p)) v → El (fun k j => concourseref14_Put.l0 k ⟨L, T⟩ e j false 0 [] []) v := fun G => by
    have := ref_A hT hbig hp.le hp.lo G p 0 (by omega) (by omega)
    simpa using this
  have fin : ∀ {c : Nat}, p ≤ c → c ≤ L.length → (∀ j, c ≤ j → j < L.length → ltK e (L.getD j default) = true) → (El (fun k j => concourseref14_Put.l0 k ⟨L, T⟩ e j false (c : Int) (L.take p) (T.take p)) = El (fun k j => concourseref14_Put.l0 k ⟨L, T⟩ e j false (c : Int) (L.take p) (T.take p))) →
      (∀ v, El (fun k j => concourseref14_Put.l0 k ⟨L, T⟩ e j false (c : Int) (L.take p) (T.take p)) v → El (fun k j => concourseref14_Put.l0 k ⟨L, T⟩ e j false 0 [] []) v) →
      Ev (fun k => (concourseref14_Put.l0 k (⟨L, T⟩ : TRef) e k false 0 ([] : List Edu) ([] : List Bool)).bind (fall fun (p263 : Bool × Int × Bool × (List Edu) × (List Bool)) => cond (!p263.1) (grd (p263.2.2.2.1.length + ([e] : List Edu).length ≤ 9223372036854775807 ∧ (p263.2.2.2.1.length + ([e] : List Edu).length) * 112 ≤ 140737488355328) (grd (p263.2.2.2.2.length + ([false] : List Bool).length ≤ 9223372036854775807 ∧ (p263.2.2.2.2.length + ([false] : List Bool).length) * 1 ≤ 140737488355328) (some ((⟨p263.2.2.2.1 ++ ([e] : List Edu), p263.2.2.2.2 ++ ([false] : List Bool)⟩ : TRef), true, 0)))) (some ((⟨p263.2.2.2.1, p263.2.2.2.2⟩ : TRef), true, 0))))
        (⟨L.take p ++ e :: L.drop c, T.take p ++ false :: T.drop c⟩, true, 0) := by
    intro c hc1 hc2 h1 _ st
    obtain ⟨d, L'', T'', k1, k2, k3, k4, k5⟩ := ref_B (e := e) hT hbig c (L.take p) (T.take p) hc2 h1 (by simp; omega) (by simp; omega)
    refine Ev.bind (st _ k1).diag ?_
    cases d with
    | true =>
      simp only [if_true] at k4 k5
      rw [← k4, ← k5]
      exact Ev.pure
    | false =>
      simp only [if_false, Bool.false_eq_true] at k4 k5
      rw [← k4, ← k5]
      refine Ev.of ?_
      show grd (L''.length + 1 ≤ 9223372036854775807 ∧ (L''.length + 1) * 112 ≤ 140737488355328) (grd (T''.length + 1 ≤ 9223372036854775807 ∧ (T''.length + 1) * 1 ≤ 140737488355328) (some _)) = _
      simp only [grd]
      rw [if_pos ⟨by omega, by omega⟩, if_pos ⟨by omega, by omega⟩]
  by_cases hh : p < L.length ∧ same (L.getD p default) e
  · have hcut : cut L e p = p + 1 := if_pos hh
    have hsm : OkE (L.getD p default) := hL _ (by rw [List.getD_eq_getElem?_getD, List.getElem?_eq_getElem hh.1]; exact List.getElem_mem hh.1)
    have hw : w64 ((p : Int) + 1) = ((p + 1 : Nat) : Int) := by rw [w64_id (by omega) (by omega)]; omega
    by_cases hc : cmpE e (L.getD p default) ≤ 0
    · have ho : old L e p = true := decide_eq_true ⟨hh.1, hh.2, hc⟩
      rw [ho, if_pos rfl]
      have G : El (fun k j => concourseref14_Put.l0 k ⟨L, T⟩ e j false (p : Int) (L.take p) (T.take p)) (.inr (⟨L, T⟩, false, 0)) := by
        refine El.step (fun _ _ => by rw [concourseref14_Put.l0]) ?_
        simp only [at_nat]
        exact El.ct (decide_eq_true (by omega)) (El.grd ⟨by omega, by omega⟩ (El.ct (decide_eq_true hh.2.1) (El.ct (decide_eq_true hh.2.2) (El.bind (refcmp_ev he.sm hsm.sm).el (El.ct (decide_eq_true hc) El.pure)))))
      exact Ev.bind (start G).diag Ev.pure
    · have ho : old L e p = false := decide_eq_false (fun h => hc h.2.2)
      rw [ho, hcut, if_neg (by simp)]
      refine fin (Nat.le_succ _) hh.1 (fun j hj1 hj2 => ?_) rfl (fun v G => start ?_)
      · rw [same_ltK ⟨hh.2.1.symm, hh.2.2.symm⟩]; exact hs p j hj1 hj2
      · refine El.step (fun _ _ => by rw [concourseref14_Put.l0]) ?_
        simp only [at_nat, hw]
        exact El.ct (decide_eq_true (by omega)) (El.grd ⟨by omega, by omega⟩ (El.ct (decide_eq_true hh.2.1) (El.ct (decide_eq_true hh.2.2) (El.bind (refcmp_ev he.sm hsm.sm).el (El.cf (decide_eq_false hc) G)))))
  · have hcut : cut L e p = p := if_neg hh
    have ho : old L e p = false := decide_eq_false (fun h => hh ⟨h.1, h.2.1⟩)
    rw [ho, hcut, if_neg (by simp)]
    refine fin (Nat.le_refl _) hp.le (fun j hj1 hj2 => ?_) rfl (fun v G => start G)
    have hpl : p < L.length := by omega
    have h1 := hp.hi p (Nat.le_refl _) hpl
    have h2 : ¬ same (L.getD p default) e := fun h => hh ⟨hpl, h⟩
    have h3 : ltK e (L.getD p default) = true := by
      have a := keyC_lt (a := L.getD p default) (b := e)
      have b := keyC_eq (a := L.getD p default) (b := e)
      rw [← keyC_gt]
      rw [h1] at a
      rw [← b] at h2
      have : ¬ keyC (L.getD p default) e < 0 := fun h => by have := a.1 h; cases this
      omega
    rcases Nat.lt_or_ge p j with h | h
    · exact ltK_trans h3 (hs p j h hj2)
    · obtain rfl : j = p := by omega
      exact h3
end
end Go.Proofs.YtmbodanckhidiaaGreat
