/- Plain: users' homes are told alike. -/
import Derived.Test.YtdbinmknbmlddaaZMA
import Derived.Test.YtdbinmknbmlddaaZV0
import Derived.Test.YtdbinmknbmlddaaZML
set_option linter.all false
set_option maxRecDepth 10000
namespace Go.Proofs.Ytdbinmknbmlddaa
open Go Go.Sp
theorem kat12 {α : Type} {K : Kd α} (l : List α) (i : Nat) (d : α) (hi : i < l.length) : K.at l (i : Int) = l.getD i d := by
  unfold Kd.at
  rw [Int.toNat_natCast, List.getD_eq_getElem?_getD, List.getD_eq_getElem?_getD, List.getElem?_eq_getElem hi]
  rfl
theorem few12 (s : ByteArray) : ∃ r, concourseref01_Few.f s 12 = some r ∧ r.size ≤ 12 := by
  unfold concourseref01_Few.f
  by_cases h : (12 : Int) < (s.size : Int)
  · rw [decide_eq_true h]
    simp only [cond_true, grd]
    rw [if_pos ⟨by omega, by omega, by omega⟩]
    exact ⟨_, rfl, by rw [size_ext (by omega)]; omega⟩
  · rw [decide_eq_false h]; exact ⟨_, rfl, by omega⟩
theorem texts_loop {a : List ByteArray} : ∀ n m : Nat, 6 - m = n → m ≤ 6 → m ≤ a.length → ∀ out : List ByteArray, out.length ≤ 6 → (∀ u ∈ out, u.size ≤ 20) → out.length = m →
    ∃ r : Int × Bool × List ByteArray, El (fun k j => concourselaw09_MemberHomes.l1 k a j (m : Int) out) r ∧ r.2.2.length ≤ 6 ∧ ∀ u ∈ r.2.2, u.size ≤ 20 := by
  intro n
  induction n with
  | zero =>
    intro m hd hm hma out ho hu hom
    obtain rfl : m = 6 := by omega
    by_cases h : ((6 : Nat) : Int) < (a.length : Int)
    · refine ⟨(((6 : Nat) : Int), false, out), ?_, ho, hu⟩
      refine El.step (fun _ _ => by rw [concourselaw09_MemberHomes.l1]) ?_
      exact El.ct (decide_eq_true h) (El.cf rfl El.pure)
    · refine ⟨(((6 : Nat) : Int), false, out), ?_, ho, hu⟩
      refine El.step (fun _ _ => by rw [concourselaw09_MemberHomes.l1]) ?_
      exact El.cf (decide_eq_false h) El.pure
  | succ n ih =>
    intro m hd hm hma out ho hu hom
    by_cases h : (m : Int) < (a.length : Int)
    · obtain ⟨t, t1, t2⟩ := few12 (a.getD m ⟨#[]⟩)
      obtain ⟨r, r1, r2⟩ := ih (m + 1) (by omega) (by omega) (by omega) (out ++ [t]) (by simp; omega) (fun u hu2 => by
        rcases List.mem_append.1 hu2 with h2 | h2
        · exact hu u h2
        · rw [List.mem_singleton.1 h2]; omega) (by simp; omega)
      refine ⟨r, ?_, r2⟩
      refine El.step (fun _ _ => by rw [concourselaw09_MemberHomes.l1]) ?_
      simp only [rp_inc (show m ≤ 1000000 by omega), rp_at]
      exact El.ct (decide_eq_true h) (El.ct (decide_eq_true (by omega)) (El.grd ⟨by omega, by omega⟩ (El.bind (Ev.of t1).el (El.grd ⟨by simp only [List.length_singleton]; omega, by simp only [List.length_singleton]; omega⟩ r1))))
    · refine ⟨((m : Int), false, out), ?_, ho, hu⟩
      refine El.step (fun _ _ => by rw [concourselaw09_MemberHomes.l1]) ?_
      exact El.cf (decide_eq_false h) El.pure
theorem users_small {u : ByteArray} (h : u ∈ users) : u.size ≤ 20 := by
  have : users.all (fun u => decide (u.size ≤ 20)) = true := by kernel_rfl
  exact of_decide_eq_true (List.all_eq_true.1 this u h)
theorem nums_loop {a : List Int} (ha : ∀ x ∈ a, I64 x) : ∀ n m : Nat, 6 - m = n → m ≤ 6 → m ≤ a.length → ∀ out : List ByteArray, out.length ≤ 6 + m → (∀ u ∈ out, u.size ≤ 20) →
    ∃ r : Int × Bool × List ByteArray, El (fun k j => concourselaw09_MemberHomes.l0 k a j (m : Int) out) r ∧ r.2.2.length ≤ 12 ∧ ∀ u ∈ r.2.2, u.size ≤ 20 := by
  intro n
  induction n with
  | zero =>
    intro m hd hm hma out ho hu
    obtain rfl : m = 6 := by omega
    by_cases h : ((6 : Nat) : Int) < (a.length : Int)
    · refine ⟨(((6 : Nat) : Int), false, out), ?_, ho, hu⟩
      refine El.step (fun _ _ => by rw [concourselaw09_MemberHomes.l0]) ?_
      exact El.ct (decide_eq_true h) (El.cf rfl El.pure)
    · refine ⟨(((6 : Nat) : Int), false, out), ?_, ho, hu⟩
      refine El.step (fun _ _ => by rw [concourselaw09_MemberHomes.l0]) ?_
      exact El.cf (decide_eq_false h) El.pure
  | succ n ih =>
    intro m hd hm hma out ho hu
    by_cases h : (m : Int) < (a.length : Int)
    · have hlt : m < a.length := by omega
      have e : (intK .i64).at a (m : Int) = a.getD m 0 := kat12 _ _ _ hlt
      have hi : I64 (a.getD m 0) := ha _ (by rw [List.getD_eq_getElem?_getD, List.getElem?_eq_getElem hlt]; exact List.getElem_mem hlt)
      obtain ⟨t, t1, t2⟩ := userOf_ev hi
      obtain ⟨r, r1, r2⟩ := ih (m + 1) (by omega) (by omega) (by omega) (out ++ [t]) (by simp; omega) (fun u hu2 => by
        rcases List.mem_append.1 hu2 with h2 | h2
        · exact hu u h2
        · rw [List.mem_singleton.1 h2]; exact users_small t2)
      refine ⟨r, ?_, r2⟩
      refine El.step (fun _ _ => by rw [concourselaw09_MemberHomes.l0]) ?_
      simp only [rp_inc (show m ≤ 1000000 by omega), e]
      exact El.ct (decide_eq_true h) (El.ct (decide_eq_true (by omega)) (El.grd ⟨by omega, by omega⟩ (El.bind (Ev.of t1).el (El.grd ⟨by simp only [List.length_singleton]; omega, by simp only [List.length_singleton]; omega⟩ r1))))
    · refine ⟨((m : Int), false, out), ?_, by show out.length ≤ 12; omega, hu⟩
      refine El.step (fun _ _ => by rw [concourselaw09_MemberHomes.l0]) ?_
      exact El.cf (decide_eq_false h) El.pure
theorem MemberHomes_pure (a0 : List ByteArray) (a1 : List Int) (k0 : (fun xs : List ByteArray => xs.length ≤ maxLen ∧ ∀ x ∈ xs, (fun s : ByteArray => s.size ≤ maxLen) x) a0) (k1 : (fun xs : List Int => xs.length ≤ maxLen ∧ ∀ x ∈ xs, (fun n => (Lit.int .i64 n).wf = true) x) a1) : ∃ k, concourselaw09_MemberHomes.f k a0 a1 = some true := by
  suffices h : Ev (fun k => concourselaw09_MemberHomes.f k a0 a1) true from h.ex
  obtain ⟨p, p1, p2, p3⟩ := texts_loop (a := a0) _ 0 rfl (by omega) (by omega) [] (by simp) (by simp) rfl
  obtain ⟨q, q1, q2, q3⟩ := nums_loop (a := a1) (fun x hx => i64_of (k1.2 x hx)) _ 0 rfl (by omega) (by omega) p.2.2 (by omega) p3
  obtain ⟨r, r1, r2, r3, r4, r5⟩ := homes_both (us := q.2.2) (fun u hu => by have := q3 u hu; show _ ≤ 9223372036854775807; omega) (by omega)
  unfold concourselaw09_MemberHomes.f
  exact Ev.bind p1.diag (Ev.bind q1.diag (Ev.bind r1 (Ev.bind r2 (Ev.bind (sametexts_refl (by omega)) (Ev.ct rfl (Ev.bind lives_ev Ev.pure))))))
end Go.Proofs.Ytdbinmknbmlddaa
