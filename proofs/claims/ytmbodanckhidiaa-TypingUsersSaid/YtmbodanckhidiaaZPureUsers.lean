/- Plain: who types at which tick is told as the document says. -/
import Derived.Test.YtmbodanckhidiaaZPI
import Derived.Test.YtmbodanckhidiaaZOk
set_option linter.all false
set_option maxRecDepth 10000
namespace Go.Proofs.Ytmbodanckhidiaa
open Go Go.Sp
theorem i64_of {n : Int} (h : (Lit.int .i64 n).wf = true) : I64 n := by
  have h' : IntKind.i64.min ≤ n ∧ n ≤ 9223372036854775807 := by simpa [Lit.wf] using h
  have e : IntKind.i64.min = -9223372036854775808 := by decide
  unfold I64
  omega
theorem wf_of {e : Edu} (h : Edu.ok e) : Wf e := by
  obtain ⟨h1, h2, h3, h4, h5, h6, h7, h8, h9, h10, h11, _⟩ := h
  exact ⟨i64_of h1, i64_of h8, i64_of h9, i64_of h10, i64_of h11⟩
/-- Both, of one EDU: what comes. -/
theorem put_next {t : TTab} {Z : List (Edu × Bool)} {n : Nat} {e : Edu} (R : Rel t Z n) (hn : n ≤ 1000) (he : OkE e) : ∃ Z' b t', Ev (fun k => concourseref14_Put.f k ⟨Z.map (·.1), Z.map (·.2)⟩ e) (⟨Z'.map (·.1), Z'.map (·.2)⟩, b, 0) ∧ Ev (fun k => typing_Table_Put.f k t e) (b, 0, t') ∧ Rel t' Z' (n + 1) := by
  obtain ⟨p, hp, h1, t', h2, h3⟩ := put_both R hn he
  cases ho : old (Z.map (·.1)) e p with
  | true => rw [ho] at h1 h2 h3; exact ⟨Z, false, t', h1, h2, h3⟩
  | false => rw [ho] at h1 h2 h3; exact ⟨newZ Z e p, true, t', h1, h2, h3⟩
theorem rel_mono {t : TTab} {Z : List (Edu × Bool)} {n m : Nat} (R : Rel t Z n) (h : n ≤ m) : Rel t Z m := ⟨R.fl, R.srt, R.ok, R.idx, by have := R.ln; omega, by have := R.hn; omega, R.cont⟩
theorem new_eq : typing_New.f = some ⟨[], ⟨[], []⟩⟩ := rfl
section
variable {a0 : List Edu}
theorem users_put (hw : ∀ x ∈ a0, Wf x) (hlen : a0.length ≤ 9223372036854775807) : ∀ (d i : Nat) (t : TTab) (Z : List (Edu × Bool)), Rel t Z i → 10 - i ≤ d → i ≤ 10 →
    ∃ i' q t' Z', Rel t' Z' 10 ∧ El (fun k j => concourselaw14_TypingUsers.l3 k a0 j (i : Int) (Z.map (·.1)) (Z.map (·.2)) t) (i', q, Z'.map (·.1), Z'.map (·.2), t') := by
  intro d
  induction d with
  | zero =>
    intro i t Z R hd hi
    obtain rfl : i = 10 := by omega
    by_cases h1 : 10 < a0.length
    · refine ⟨((10 : Nat) : Int), decide (((10 : Nat) : Int) < 10), t, Z, R, ?_⟩
      refine El.step (fun _ _ => by rw [concourselaw14_TypingUsers.l3]) ?_
      exact El.ct (decide_eq_true (by omega)) (El.cf (by decide) El.pure)
    · refine ⟨((10 : Nat) : Int), false, t, Z, R, ?_⟩
      refine El.step (fun _ _ => by rw [concourselaw14_TypingUsers.l3]) ?_
      exact El.cf (decide_eq_false (by omega)) El.pure
  | succ d ih =>
    intro i t Z R hd hi
    by_cases h1 : i < a0.length
    · by_cases h2 : i < 10
      · obtain ⟨e, he, _, hm⟩ := made_ok (hw _ (getD_mem (d := default) h1))
        obtain ⟨Z', b, t', p1, p2, R'⟩ := put_next R (by omega) he
        obtain ⟨i', q, t2, Z2, R2, G⟩ := ih (i + 1) t' Z' R' (by omega) (by omega)
        refine ⟨i', q, t2, Z2, R2, ?_⟩
        refine El.step (fun _ _ => by rw [concourselaw14_TypingUsers.l3]) ?_
        simp only [inc_nat (show i ≤ 1000000 by omega), at_nat]
        exact El.ct (decide_eq_true (by omega)) (El.ct (decide_eq_true (by omega)) (El.grd ⟨by omega, by omega⟩ (El.bind (Ev.el ⟨0, fun k _ => hm k⟩) (El.bind p1.el (El.grd ⟨by omega, by omega⟩ (El.bind (Ev.el ⟨0, fun k _ => hm k⟩) (El.bind p2.el G)))))))
      · obtain rfl : i = 10 := by omega
        exact ih 10 t Z R (by omega) (by omega)
    · refine ⟨(i : Int), false, t, Z, rel_mono R hi, ?_⟩
      refine El.step (fun _ _ => by rw [concourselaw14_TypingUsers.l3]) ?_
      exact El.cf (decide_eq_false (by omega)) El.pure
end
section
variable {t : TTab} {Z : List (Edu × Bool)} {a1 i' : Int} {q : Bool} {t930 t934 t936 : ByteArray} {t932 : Int}
theorem users_l2 (R : Rel t Z 10) (b1 b2 : Bool) {i m : Nat} (hi : i < 2) (hm : m < 3) : ∀ d x : Nat, 9 - x ≤ d → x ≤ 9 → El (fun k j => concourselaw14_TypingUsers.l2 k a1 (i', q, Z.map (·.1), Z.map (·.2), t) t930 t932 t934 t936 (i : Int) (m : Int) b1 b2 j (x : Int)) (.inl (((9 : Nat) : Int), (b1 != b2), false)) := by
  intro d
  induction d with
  | zero =>
    intro x hd hx
    obtain rfl : x = 9 := by omega
    refine El.step (fun _ _ => by rw [concourselaw14_TypingUsers.l2]) ?_
    exact El.cf (by decide) El.pure
  | succ d ih =>
    intro x hd hx
    by_cases h : x < 9
    · obtain ⟨u, hu, _⟩ := userOf_at x h
      obtain ⟨fl, fe⟩ := t
      obtain rfl : fl = Z.map (·.1) := R.fl
      obtain ⟨b, k1, k2⟩ := types_both (L := Z.map (·.1)) (T := Z.map (·.2)) (h := fe) (by rw [List.length_map]; have := R.ln; omega) R.srt (strK.at ([t934, t936, t930] : List ByteArray) (m : Int)) u ((intK .i64).at ([a1, t932] : List Int) (i : Int))
      refine El.step (fun _ _ => by rw [concourselaw14_TypingUsers.l2]) ?_
      simp only [inc_nat (show x ≤ 1000000 by omega)]
      have gm : (0 : Int) ≤ (m : Int) ∧ (m : Int) < (([t934, t936, t930] : List ByteArray).length : Int) := ⟨by omega, by show (m : Int) < 3; omega⟩
      have gi : (0 : Int) ≤ (i : Int) ∧ (i : Int) < (([a1, t932] : List Int).length : Int) := ⟨by omega, by show (i : Int) < 2; omega⟩
      exact El.ct (decide_eq_true (by omega)) (El.bind (Ev.el (Ev.of hu)) (El.grd gm (El.grd gi (El.bind k1.el (El.grd gm (El.grd gi (El.bind k2.el (El.cf (by simp) (ih (x + 1) (by omega) (by omega))))))))))
    · obtain rfl : x = 9 := by omega
      exact ih 9 (by omega) (by omega)
theorem users_l1 (R : Rel t Z 10) {i : Nat} (hi : i < 2) : ∀ d x : Nat, 3 - x ≤ d → x ≤ 3 → El (fun k j => concourselaw14_TypingUsers.l1 k a1 (i', q, Z.map (·.1), Z.map (·.2), t) t930 t932 t934 t936 (i : Int) j (x : Int)) (.inl (((3 : Nat) : Int), false)) := by
  intro d
  induction d with
  | zero =>
    intro x hd hx
    obtain rfl : x = 3 := by omega
    refine El.step (fun _ _ => by rw [concourselaw14_TypingUsers.l1]) ?_
    exact El.cf (by decide) El.pure
  | succ d ih =>
    intro x hd hx
    by_cases h : x < 3
    · have hl : (Z.map (·.1)).length ≤ 100000 := by rw [List.length_map]; have := R.ln; omega
      have G2 := fun b => (users_l2 (a1 := a1) (i' := i') (q := q) (t930 := t930) (t934 := t934) (t936 := t936) (t932 := t932) R b b hi h 9 0 (by omega) (by omega)).diag
      obtain ⟨fl, fe⟩ := t
      obtain rfl : fl = Z.map (·.1) := R.fl
      obtain ⟨vs, v0, v1, v2⟩ := users_both (L := Z.map (·.1)) (T := Z.map (·.2)) (h := fe) hl R.srt (strK.at ([t934, t936, t930] : List ByteArray) (x : Int)) ((intK .i64).at ([a1, t932] : List Int) (i : Int))
      obtain ⟨b, k1, k2⟩ := types_both (L := Z.map (·.1)) (T := Z.map (·.2)) (h := fe) hl R.srt (strK.at ([t934, t936, t930] : List ByteArray) (x : Int)) t930 ((intK .i64).at ([a1, t932] : List Int) (i : Int))
      refine El.step (fun _ _ => by rw [concourselaw14_TypingUsers.l1]) ?_
      simp only [inc_nat (show x ≤ 1000000 by omega)]
      have gm : (0 : Int) ≤ (x : Int) ∧ (x : Int) < (([t934, t936, t930] : List ByteArray).length : Int) := ⟨by omega, by show (x : Int) < 3; omega⟩
      have gi : (0 : Int) ≤ (i : Int) ∧ (i : Int) < (([a1, t932] : List Int).length : Int) := ⟨by omega, by show (i : Int) < 2; omega⟩
      refine El.ct (decide_eq_true (by omega)) (El.bind (a := .inl (((9 : Nat) : Int), (b != b), false)) (El.grd gm (El.grd gi (El.grd gm (El.grd gi (El.bind v1.el (El.bind v2.el (El.bind (Ev.el (sametexts_refl (by omega))) (El.cf rfl (El.grd gm (El.grd gi (El.bind k1.el (El.grd gm (El.grd gi (El.bind k2.el (El.cf (by simp) (G2 b).el))))))))))))))) (ih (x + 1) (by omega) (by omega)))
    · obtain rfl : x = 3 := by omega
      exact ih 3 (by omega) (by omega)
theorem users_l0 (R : Rel t Z 10) : ∀ d x : Nat, 2 - x ≤ d → x ≤ 2 → El (fun k j => concourselaw14_TypingUsers.l0 k a1 (i', q, Z.map (·.1), Z.map (·.2), t) t930 t932 t934 t936 j (x : Int)) (.inl (((2 : Nat) : Int), false)) := by
  intro d
  induction d with
  | zero =>
    intro x hd hx
    obtain rfl : x = 2 := by omega
    refine El.step (fun _ _ => by rw [concourselaw14_TypingUsers.l0]) ?_
    exact El.cf (by decide) El.pure
  | succ d ih =>
    intro x hd hx
    by_cases h : x < 2
    · have G1 := (users_l1 (a1 := a1) (i' := i') (q := q) (t930 := t930) (t934 := t934) (t936 := t936) (t932 := t932) R h 3 0 (by omega) (by omega)).diag
      refine El.step (fun _ _ => by rw [concourselaw14_TypingUsers.l0]) ?_
      simp only [inc_nat (show x ≤ 1000000 by omega)]
      exact El.ct (decide_eq_true (by omega)) (El.bind G1.el (ih (x + 1) (by omega) (by omega)))
    · obtain rfl : x = 2 := by omega
      exact ih 2 (by omega) (by omega)
end
theorem few6 (s : ByteArray) : ∃ r, concourseref01_Few.f s 6 = some r := by
  unfold concourseref01_Few.f
  by_cases h : (6 : Int) < (s.size : Int)
  · rw [decide_eq_true h]
    simp only [cond_true, grd]
    rw [if_pos ⟨by omega, by omega, by omega⟩]
    exact ⟨_, rfl⟩
  · rw [decide_eq_false h]; exact ⟨_, rfl⟩
theorem TypingUsers_pure (a0 : List Edu) (a1 : Int) (a2 : ByteArray) (k0 : (fun xs : List Edu => xs.length ≤ maxLen ∧ ∀ x ∈ xs, Edu.ok x) a0) (k1 : (fun n => (Lit.int .i64 n).wf = true) a1) (k2 : (fun s : ByteArray => s.size ≤ maxLen) a2) : ∃ k, concourselaw14_TypingUsers.f k a0 a1 a2 = some true := by
  obtain ⟨hlen, hok⟩ := k0
  have hlen' : a0.length ≤ 9223372036854775807 := hlen
  obtain ⟨i', q, t', Z', R, G⟩ := users_put (fun x hx => wf_of (hok x hx)) hlen' 10 0 _ [] rel_new (by omega) (by omega)
  obtain ⟨s, hs⟩ := few6 a2
  obtain ⟨w, hw, _⟩ := around_ev (m := 171) (i64_of k1) (by decide) (by decide)
  obtain ⟨r0, hr0, _⟩ := roomOf_ev (n := 0) ⟨by decide, by decide⟩
  obtain ⟨r1, hr1, _⟩ := roomOf_ev (n := 1) ⟨by decide, by decide⟩
  have H : Ev (fun k => concourselaw14_TypingUsers.f k a0 a1 a2) true := by
    unfold concourselaw14_TypingUsers.f
    exact Ev.bind (Ev.of new_eq) (Ev.bind G.diag (Ev.bind (Ev.of hs) (Ev.bind (Ev.of hw) (Ev.bind (Ev.of hr0) (Ev.bind (Ev.of hr1) (Ev.bind (users_l0 R 2 0 (by omega) (by omega)).diag (Ev.bind lives_ev Ev.pure)))))))
  exact H.ex
end Go.Proofs.Ytmbodanckhidiaa
