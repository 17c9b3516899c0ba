/- Plain: who turned, and who turns next, beside the document. -/
import Derived.Test.YtegmafgodoikiaaGreatZQW
import Derived.Test.YtegmafgodoikiaaGreatZPU
import Derived.Test.YtegmafgodoikiaaGreatZPV
set_option linter.all false
set_option maxRecDepth 10000
namespace Go.Proofs.YtegmafgodoikiaaGreat
open Go Go.Sp
/-- An EDU's turns. -/
def trns (e : Edu) : List Int := if e.fState = 2 then [e.fTick + 30, e.fTick + 90] else if e.fState = 1 then [e.fTick + 90] else []
theorem turns_eq {e : Edu} (h : OkE e) : concourseref15_turns.f e = some (trns e) := by
  have h2 := h.tick
  have w1 : w64 (e.fTick + 30) = e.fTick + 30 := w64_id (by omega) (by omega)
  have w2 : w64 (e.fTick + 90) = e.fTick + 90 := w64_id (by omega) (by omega)
  unfold concourseref15_turns.f trns
  rw [w1, w2]
  by_cases a : e.fState = 2
  · simp [a]
  · have a' : (e.fState == 2) = false := by simpa using a
    by_cases b : e.fState = 1
    · simp [b]
    · have b' : (e.fState == 1) = false := by simpa using b
      simp [a, b, a', b']
theorem trns_len (e : Edu) : (trns e).length ≤ 2 := by unfold trns; split <;> (try split) <;> simp
/-- The first turn above a tick is the least one. -/
theorem trns_turn {e : Edu} {s : Int} : (∀ a, turnV e s = some a → a ∈ trns e ∧ s < a ∧ ∀ b ∈ trns e, s < b → a ≤ b) ∧ (turnV e s = none → ∀ b ∈ trns e, ¬ s < b) := by
  unfold turnV trns
  by_cases c : e.fState = 2
  · rw [if_pos c, if_pos c]
    by_cases d : s < e.fTick + 30
    · rw [if_pos d]
      refine ⟨fun a h => ?_, fun h => by cases h⟩
      cases h
      exact ⟨by simp, d, fun b hb _ => by simp at hb; omega⟩
    · rw [if_neg d]
      by_cases f : s < e.fTick + 90
      · rw [if_pos f]
        refine ⟨fun a h => ?_, fun h => by cases h⟩
        cases h
        exact ⟨by simp, f, fun b hb hs => by simp at hb; omega⟩
      · rw [if_neg f]
        exact ⟨fun a h => (by cases h), fun _ b hb => by simp at hb; omega⟩
  · rw [if_neg c, if_neg c]
    by_cases d : e.fState = 1
    · rw [if_pos d, if_pos d]
      by_cases f : s < e.fTick + 90
      · rw [if_pos f]
        refine ⟨fun a h => ?_, fun h => by cases h⟩
        cases h
        exact ⟨by simp, f, fun b hb hs => by simp at hb; omega⟩
      · rw [if_neg f]
        exact ⟨fun a h => (by cases h), fun _ b hb => by simp at hb; omega⟩
    · rw [if_neg d, if_neg d]
      exact ⟨fun a h => (by cases h), fun _ b hb => (by cases hb)⟩
theorem i64_nat (l : List Int) (m : Nat) : (intK .i64).at l (m : Int) = l.getD m 0 := by unfold Kd.at; rw [Int.toNat_natCast] <;> rfl
def turnedB (T : List Int) (s at_ : Int) : Bool := T.any fun a => decide (a ≤ at_) && decide (s < a)
theorem turnedB_iff {e : Edu} {s at_ : Int} : turnedB (trns e) s at_ = true ↔ ∃ a, turnV e s = some a ∧ a ≤ at_ := by
  unfold turnedB
  rw [List.any_eq_true]
  obtain ⟨h1, h2⟩ := trns_turn (e := e) (s := s)
  constructor
  · rintro ⟨b, hb, h⟩
    simp only [Bool.and_eq_true, decide_eq_true_eq] at h
    cases ht : turnV e s with
    | none => exact absurd h.2 (h2 ht b hb)
    | some a => exact ⟨a, rfl, by have := (h1 a ht).2.2 b hb h.2; omega⟩
  · rintro ⟨a, ha, h⟩
    obtain ⟨k1, k2, _⟩ := h1 a ha
    exact ⟨a, k1, by simp [h, k2]⟩
section
variable {A : TRef} {at_ : Int} {x : Nat} {T : List Int} {s : Int}
theorem is_loop (hx : x < A.fTold.length) (hs : A.fTold.getD x 0 = s) (hT : T.length ≤ 10) : ∀ (n m : Nat) (b : Bool), T.length - m = n → m ≤ T.length →
    El (fun k j => concourseref15_Turned.l1 k A at_ (x : Int) T j b (m : Int)) (b || turnedB (T.drop m) s at_, (T.length : Int), false) := by
  intro n
  induction n with
  | zero =>
    intro m b hd hm
    obtain rfl : m = T.length := by omega
    refine El.step (fun _ _ => by rw [concourseref15_Turned.l1]) ?_
    rw [List.drop_length]
    exact El.cf (decide_eq_false (by omega)) (by simpa [turnedB] using El.pure)
  | succ n ih =>
    intro m b hd hm
    have hlt : m < T.length := by omega
    have hdr : T.drop m = T.getD m 0 :: T.drop (m + 1) := by
      rw [List.drop_eq_getElem_cons hlt, List.getD_eq_getElem?_getD, List.getElem?_eq_getElem hlt]; rfl
    have g1 : (0 : Int) ≤ (m : Int) ∧ (m : Int) < (T.length : Int) := ⟨by omega, by omega⟩
    have g2 : (0 : Int) ≤ (x : Int) ∧ (x : Int) < (A.fTold.length : Int) := ⟨by omega, by omega⟩
    refine El.step (fun _ _ => by rw [concourseref15_Turned.l1]) ?_
    simp only [inc_nat (show m ≤ 1000000 by omega), i64_nat, hs]
    rw [hdr]
    generalize T.getD m 0 = a at *
    refine El.ct (decide_eq_true g1.2) ?_
    cases b with
    | true =>
      have := ih (m + 1) true (by omega) (by omega)
      exact El.ct rfl (by simpa using this)
    | false =>
      refine El.cf rfl (El.grd g1 ?_)
      by_cases c : a ≤ at_
      · have := ih (m + 1) (decide (s < a)) (by omega) (by omega)
        refine El.ct (decide_eq_true c) (El.grd g1 (El.grd g2 ?_))
        have e : (false || turnedB (a :: T.drop (m + 1)) s at_) = (decide (s < a) || turnedB (T.drop (m + 1)) s at_) := by simp [turnedB, c]
        rw [e]; exact this
      · have := ih (m + 1) false (by omega) (by omega)
        refine El.cf (decide_eq_false c) ?_
        have e : (false || turnedB (a :: T.drop (m + 1)) s at_) = (false || turnedB (T.drop (m + 1)) s at_) := by simp [turnedB, c]
        rw [e]; exact this
end
section
variable {Z : List (Edu × Int)} {at_ : Int}
def dueQ (at_ : Int) (q : Edu × Int) : Bool := turnedB (trns q.1) q.2 at_
theorem mapP1 (m : Nat) : (Z.map (·.1)).getD m default = (Z.getD m default).1 := by
  simp only [List.getD_eq_getElem?_getD, List.getElem?_map]
  cases Z[m]? <;> rfl
theorem mapP2 (m : Nat) : (Z.map (·.2)).getD m 0 = (Z.getD m default).2 := by
  simp only [List.getD_eq_getElem?_getD, List.getElem?_map]
  cases Z[m]? <;> rfl
theorem reft_loop (hb : Z.length ≤ 1000) (hok : ∀ q ∈ Z, OkE q.1) : ∀ (n m : Nat), Z.length - m = n → m ≤ Z.length →
    El (fun k j => concourseref15_Turned.l0 k ⟨Z.map (·.1), Z.map (·.2)⟩ at_ j (m : Int) ((Z.take m).map (fun q : Edu × Int => max q.2 at_) ++ List.replicate (Z.length - m) 0) (((Z.take m).filter (dueQ at_)).map (·.1.fUser))) ((Z.length : Int), false, Z.map (fun q : Edu × Int => max q.2 at_), (Z.filter (dueQ at_)).map (·.1.fUser)) := by
  intro n
  induction n with
  | zero =>
    intro m hd hm
    obtain rfl : m = Z.length := by omega
    rw [List.take_length]
    refine El.step (fun _ _ => by rw [concourseref15_Turned.l0]) ?_
    simp only [List.length_map, Nat.sub_self, List.replicate_zero, List.append_nil]
    exact El.cf (decide_eq_false (by omega)) (by simpa using El.pure)
  | succ n ih =>
    intro m hd hm
    have hlt : m < Z.length := by omega
    have htk : Z.take (m + 1) = Z.take m ++ [Z.getD m default] := by
      rw [List.take_succ_eq_append_getElem hlt, List.getD_eq_getElem?_getD, List.getElem?_eq_getElem hlt]; rfl
    have hq : OkE (Z.getD m default).1 := hok _ (getD_mem hlt)
    have e1 : Edu.K.at (Z.map (·.1)) (m : Int) = (Z.getD m default).1 := by rw [at_nat, mapP1]
    have e2 : (intK .i64).at (Z.map (·.2)) (m : Int) = (Z.getD m default).2 := by rw [i64_nat, mapP2]
    have e3 : (Z.map (·.2)).getD m 0 = (Z.getD m default).2 := mapP2 m
    generalize hz : Z.getD m default = z at *
    have hle : ((Z.take m).map (fun q : Edu × Int => max q.2 at_)).length = m := by rw [List.length_map, List.length_take]; omega
    have hset : ((Z.take m).map (fun q : Edu × Int => max q.2 at_) ++ List.replicate (Z.length - m) 0).set m (max z.2 at_) = (Z.take (m + 1)).map (fun q : Edu × Int => max q.2 at_) ++ List.replicate (Z.length - (m + 1)) 0 := by
      rw [show Z.length - m = (Z.length - (m + 1)) + 1 by omega, List.replicate_succ, List.set_append_right _ _ (by omega), hle, Nat.sub_self, List.set_cons_zero, htk]
      simp
    have hout : ((Z.take m).filter (dueQ at_)).length ≤ m := Nat.le_trans (List.length_filter_le ..) (by rw [List.length_take]; omega)
    have hol : (((Z.take m).filter (dueQ at_)).map (·.1.fUser)).length ≤ m := by rw [List.length_map]; exact hout
    have hfil : ((Z.take (m + 1)).filter (dueQ at_)).map (·.1.fUser) = ((Z.take m).filter (dueQ at_)).map (·.1.fUser) ++ (if dueQ at_ z then [z.1.fUser] else []) := by
      rw [htk, List.filter_append, List.map_append]
      by_cases h : dueQ at_ z <;> simp [h]
    have G := ih (m + 1) (by omega) (by omega)
    rw [← hset, hfil] at G
    have g1 : (0 : Int) ≤ (m : Int) ∧ (m : Int) < ((Z.map (·.1)).length : Int) := ⟨by omega, by rw [List.length_map]; omega⟩
    have g2 : (0 : Int) ≤ (m : Int) ∧ (m : Int) < ((Z.map (·.2)).length : Int) := ⟨by omega, by rw [List.length_map]; omega⟩
    have g3 : (0 : Int) ≤ (m : Int) ∧ (m : Int) < (((Z.take m).map (fun q : Edu × Int => max q.2 at_) ++ List.replicate (Z.length - m) 0).length : Int) := by
      rw [List.length_append, hle, List.length_replicate]; omega
    have L := is_loop (A := ⟨Z.map (·.1), Z.map (·.2)⟩) (at_ := at_) (x := m) (T := trns z.1) (s := z.2) (by rw [List.length_map]; exact hlt) e3 (by have := trns_len z.1; omega) _ 0 false rfl (by omega)
    rw [List.drop_zero, Bool.false_or] at L
    refine El.step (fun _ _ => by rw [concourseref15_Turned.l0]) ?_
    simp only [inc_nat (show m ≤ 1000000 by omega), e1, e2, Int.toNat_natCast]
    refine El.ct (decide_eq_true g1.2) ?_
    generalize hO : ((Z.take m).filter (dueQ at_)).map (·.1.fUser) = O at *
    generalize hA : (Z.take m).map (fun q : Edu × Int => max q.2 at_) ++ List.replicate (Z.length - m) 0 = AA at *
    cases hd : dueQ at_ z with
    | true =>
      rw [hd, if_pos rfl] at G
      refine El.bind (a := (trns z.1, true, ((trns z.1).length : Int), false, true, O ++ [z.1.fUser])) ?_ G
      refine El.grd g2 (El.grd g3 (El.grd g1 (El.bind (Ev.of (turns_eq hq)).el (El.bind (show El (fun k j => concourseref15_Turned.l1 k ⟨Z.map (·.1), Z.map (·.2)⟩ at_ (m : Int) (trns z.1) k false ((0 : Nat) : Int)) _ from (show Ev _ _ from L.diag).el) ?_))))
      rw [show turnedB (trns z.1) z.2 at_ = true from hd]
      exact El.ct rfl (El.grd g1 (El.grd ⟨by simp only [List.length_singleton]; omega, by simp only [List.length_singleton]; omega⟩ El.pure))
    | false =>
      rw [hd] at G
      simp only [Bool.false_eq_true, if_false, List.append_nil] at G
      refine El.bind (a := (trns z.1, false, ((trns z.1).length : Int), false, false, O)) ?_ G
      refine El.grd g2 (El.grd g3 (El.grd g1 (El.bind (Ev.of (turns_eq hq)).el (El.bind (show El (fun k j => concourseref15_Turned.l1 k ⟨Z.map (·.1), Z.map (·.2)⟩ at_ (m : Int) (trns z.1) k false ((0 : Nat) : Int)) _ from (show Ev _ _ from L.diag).el) ?_))))
      rw [show turnedB (trns z.1) z.2 at_ = false from hd]
      exact El.cf rfl El.pure
theorem reft_ev (hb : Z.length ≤ 1000) (hok : ∀ q ∈ Z, OkE q.1) (at_ : Int) : Ev (fun k => concourseref15_Turned.f k ⟨Z.map (·.1), Z.map (·.2)⟩ at_) (⟨Z.map (·.1), Z.map (fun q : Edu × Int => max q.2 at_)⟩, (Z.filter (dueQ at_)).map (·.1.fUser)) := by
  have k1 := reft_loop (at_ := at_) hb hok Z.length 0 (by omega) (by omega)
  unfold concourseref15_Turned.f
  simp only [List.length_map, Int.toNat_natCast]
  rw [List.take_zero, List.map_nil, List.nil_append, Nat.sub_zero] at k1
  exact Ev.grd ⟨by omega, by omega, by omega⟩ (Ev.bind k1.diag Ev.pure)
end
/-- The least of a kind, if there is one. -/
def Best (S : Int → Prop) (v : Int) (h : Bool) : Prop := (h = false ∧ v = 0 ∧ ∀ a, ¬ S a) ∨ (h = true ∧ S v ∧ ∀ a, S a → v ≤ a)
theorem Best.congr {S S' : Int → Prop} {v : Int} {h : Bool} (H : Best S v h) (e : ∀ a, S a ↔ S' a) : Best S' v h := by
  rcases H with ⟨a, b, c⟩ | ⟨a, b, c⟩
  · exact .inl ⟨a, b, fun x hx => c x ((e x).2 hx)⟩
  · exact .inr ⟨a, (e v).1 b, fun x hx => c x ((e x).2 hx)⟩
theorem Best.uniq {S : Int → Prop} {v v' : Int} {h h' : Bool} (H : Best S v h) (H' : Best S v' h') : v = v' ∧ h = h' := by
  rcases H with ⟨a, b, c⟩ | ⟨a, b, c⟩ <;> rcases H' with ⟨a', b', c'⟩ | ⟨a', b', c'⟩
  · exact ⟨b.trans b'.symm, a.trans a'.symm⟩
  · exact absurd b' (c _)
  · exact absurd b (c' _)
  · have := c _ b'; have := c' _ b; exact ⟨by omega, a.trans a'.symm⟩
section
variable {A : TRef} {x : Nat} {T : List Int} {s : Int}
theorem best_loop (hx : x < A.fTold.length) (hs : A.fTold.getD x 0 = s) (hT : T.length ≤ 10) : ∀ (n m : Nat) (v : Int) (h : Bool) (S : Int → Prop), T.length - m = n → m ≤ T.length → Best S v h →
    ∃ v' h', El (fun k j => concourseref15_Next.l1 k A (x : Int) T j v h (m : Int)) (v', h', T, (T.length : Int), false) ∧ Best (fun a => S a ∨ (a ∈ T.drop m ∧ s < a)) v' h' := by
  intro n
  induction n with
  | zero =>
    intro m v h S hd hm B
    obtain rfl : m = T.length := by omega
    refine ⟨v, h, ?_, B.congr fun a => by simp⟩
    refine El.step (fun _ _ => by rw [concourseref15_Next.l1]) ?_
    exact El.cf (decide_eq_false (by omega)) (by simpa using El.pure)
  | succ n ih =>
    intro m v h S hd hm B
    have hlt : m < T.length := by omega
    have hd' : T.length - (m + 1) = n := by omega
    have hdr : T.drop m = T.getD m 0 :: T.drop (m + 1) := by
      rw [List.drop_eq_getElem_cons hlt, List.getD_eq_getElem?_getD, List.getElem?_eq_getElem hlt]; rfl
    have g1 : (0 : Int) ≤ (m : Int) ∧ (m : Int) < (T.length : Int) := ⟨by omega, by omega⟩
    have g2 : (0 : Int) ≤ (x : Int) ∧ (x : Int) < (A.fTold.length : Int) := ⟨by omega, by omega⟩
    rw [hdr]
    have start : ∀ {w}, El (fun k j => cond (decide (s < T.getD m 0)) (cond (!h) (grd ((0 : Int) ≤ (m : Int) ∧ (m : Int) < (T.length : Int)) (concourseref15_Next.l1 k A (x : Int) T j (T.getD m 0) true ((m + 1 : Nat) : Int))) (grd ((0 : Int) ≤ (m : Int) ∧ (m : Int) < (T.length : Int)) (cond (decide (T.getD m 0 < v)) (grd ((0 : Int) ≤ (m : Int) ∧ (m : Int) < (T.length : Int)) (concourseref15_Next.l1 k A (x : Int) T j (T.getD m 0) true ((m + 1 : Nat) : Int))) (concourseref15_Next.l1 k A (x : Int) T j v h ((m + 1 : Nat) : Int))))) (concourseref15_Next.l1 k A (x : Int) T j v h ((m + 1 : Nat) : Int))) w → El (fun k j => concourseref15_Next.l1 k A (x : Int) T j v h (m : Int)) w := fun G => by
      refine El.step (fun _ _ => by rw [concourseref15_Next.l1]) ?_
      simp only [inc_nat (show m ≤ 1000000 by omega), i64_nat, hs]
      exact El.ct (decide_eq_true g1.2) (El.grd g1 (El.grd g2 G))
    generalize T.getD m 0 = a at *
    by_cases c : s < a
    · rcases B with ⟨b1, b2, b3⟩ | ⟨b1, b2, b3⟩
      · obtain ⟨v', h', k1, k2⟩ := ih (m + 1) a true (fun y => y = a) hd' hlt (.inr ⟨rfl, rfl, fun y hy => by rw [hy]; exact Int.le_refl _⟩)
        refine ⟨v', h', start (El.ct (decide_eq_true c) (El.ct (by rw [b1]; rfl) (El.grd g1 k1))), k2.congr fun y => ?_⟩
        simp only [List.mem_cons]
        constructor
        · rintro (rfl | ⟨q1, q2⟩)
          · exact .inr ⟨.inl rfl, c⟩
          · exact .inr ⟨.inr q1, q2⟩
        · rintro (q | ⟨rfl | q1, q2⟩)
          · exact absurd q (b3 y)
          · exact .inl rfl
          · exact .inr ⟨q1, q2⟩
      · by_cases c2 : a < v
        · obtain ⟨v', h', k1, k2⟩ := ih (m + 1) a true (fun y => S y ∨ y = a) hd' hlt (.inr ⟨rfl, .inr rfl, fun y hy => by rcases hy with hy | hy; have := b3 y hy; omega; omega⟩)
          refine ⟨v', h', start (El.ct (decide_eq_true c) (El.cf (by rw [b1]; rfl) (El.grd g1 (El.ct (decide_eq_true c2) (El.grd g1 k1))))), k2.congr fun y => ?_⟩
          simp only [List.mem_cons]
          constructor
          · rintro ((q | rfl) | ⟨q1, q2⟩)
            · exact .inl q
            · exact .inr ⟨.inl rfl, c⟩
            · exact .inr ⟨.inr q1, q2⟩
          · rintro (q | ⟨rfl | q1, q2⟩)
            · exact .inl (.inl q)
            · exact .inl (.inr rfl)
            · exact .inr ⟨q1, q2⟩
        · obtain ⟨v', h', k1, k2⟩ := ih (m + 1) v h (fun y => S y ∨ y = a) hd' hlt (.inr ⟨b1, .inl b2, fun y hy => by rcases hy with hy | hy; exact b3 y hy; omega⟩)
          refine ⟨v', h', start (El.ct (decide_eq_true c) (El.cf (by rw [b1]; rfl) (El.grd g1 (El.cf (decide_eq_false c2) k1)))), k2.congr fun y => ?_⟩
          simp only [List.mem_cons]
          constructor
          · rintro ((q | rfl) | ⟨q1, q2⟩)
            · exact .inl q
            · exact .inr ⟨.inl rfl, c⟩
            · exact .inr ⟨.inr q1, q2⟩
          · rintro (q | ⟨rfl | q1, q2⟩)
            · exact .inl (.inl q)
            · exact .inl (.inr rfl)
            · exact .inr ⟨q1, q2⟩
    · obtain ⟨v', h', k1, k2⟩ := ih (m + 1) v h S hd' hlt B
      refine ⟨v', h', start (El.cf (decide_eq_false c) k1), k2.congr fun y => ?_⟩
      simp only [List.mem_cons]
      constructor
      · rintro (q | ⟨q1, q2⟩)
        · exact .inl q
        · exact .inr ⟨.inr q1, q2⟩
      · rintro (q | ⟨rfl | q1, q2⟩)
        · exact .inl q
        · exact absurd q2 c
        · exact .inr ⟨q1, q2⟩
end
section
variable {Z : List (Edu × Int)}
theorem refn_loop (hb : Z.length ≤ 1000) (hok : ∀ q ∈ Z, OkE q.1) : ∀ (n m : Nat) (v : Int) (h : Bool), Z.length - m = n → m ≤ Z.length → Best (fun a => ∃ q ∈ Z.take m, a ∈ trns q.1 ∧ q.2 < a) v h →
    ∃ v' h', El (fun k j => concourseref15_Next.l0 k ⟨Z.map (·.1), Z.map (·.2)⟩ j v h (m : Int)) (v', h', (Z.length : Int), false) ∧ Best (fun a => ∃ q ∈ Z, a ∈ trns q.1 ∧ q.2 < a) v' h' := by
  intro n
  induction n with
  | zero =>
    intro m v h hd hm B
    obtain rfl : m = Z.length := by omega
    rw [List.take_length] at B
    refine ⟨v, h, ?_, B⟩
    refine El.step (fun _ _ => by rw [concourseref15_Next.l0]) ?_
    simp only [List.length_map]
    exact El.cf (decide_eq_false (by omega)) (by simpa using El.pure)
  | succ n ih =>
    intro m v h hd hm B
    have hlt : m < Z.length := by omega
    have hd' : Z.length - (m + 1) = n := by omega
    have htk : Z.take (m + 1) = Z.take m ++ [Z.getD m default] := by
      rw [List.take_succ_eq_append_getElem hlt, List.getD_eq_getElem?_getD, List.getElem?_eq_getElem hlt]; rfl
    have hq : OkE (Z.getD m default).1 := hok _ (getD_mem hlt)
    have e1 : Edu.K.at (Z.map (·.1)) (m : Int) = (Z.getD m default).1 := by rw [at_nat, mapP1]
    have e3 : (Z.map (·.2)).getD m 0 = (Z.getD m default).2 := mapP2 m
    generalize hz : Z.getD m default = z at *
    have g1 : (0 : Int) ≤ (m : Int) ∧ (m : Int) < ((Z.map (·.1)).length : Int) := ⟨by omega, by rw [List.length_map]; omega⟩
    obtain ⟨v1, h1, L, B1⟩ := best_loop (A := ⟨Z.map (·.1), Z.map (·.2)⟩) (x := m) (T := trns z.1) (s := z.2) (by rw [List.length_map]; exact hlt) e3 (by have := trns_len z.1; omega) _ 0 v h _ rfl (by omega) B
    obtain ⟨v', h', k1, k2⟩ := ih (m + 1) v1 h1 hd' hlt (B1.congr fun a => by
      rw [htk, List.drop_zero]
      constructor
      · rintro (⟨q, q1, q2⟩ | q)
        · exact ⟨q, List.mem_append_left _ q1, q2⟩
        · exact ⟨z, List.mem_append_right _ (List.mem_singleton.2 rfl), q⟩
      · rintro ⟨q, q1, q2⟩
        rcases List.mem_append.1 q1 with q1 | q1
        · exact .inl ⟨q, q1, q2⟩
        · rw [List.mem_singleton] at q1; subst q1; exact .inr q2)
    refine ⟨v', h', ?_, k2⟩
    refine El.step (fun _ _ => by rw [concourseref15_Next.l0]) ?_
    simp only [inc_nat (show m ≤ 1000000 by omega), e1]
    refine El.ct (decide_eq_true g1.2) (El.bind (El.grd g1 (El.bind (Ev.of (turns_eq hq)).el (show El (fun k j => concourseref15_Next.l1 k ⟨Z.map (·.1), Z.map (·.2)⟩ (m : Int) (trns z.1) k v h ((0 : Nat) : Int)) _ from (show Ev _ _ from L.diag).el))) k1)
theorem refn_ev (hb : Z.length ≤ 1000) (hok : ∀ q ∈ Z, OkE q.1) : ∃ v h, Ev (fun k => concourseref15_Next.f k ⟨Z.map (·.1), Z.map (·.2)⟩) (v, h) ∧ Best (fun a => ∃ q ∈ Z, a ∈ trns q.1 ∧ q.2 < a) v h := by
  obtain ⟨v, h, k1, k2⟩ := refn_loop hb hok Z.length 0 0 false (by omega) (by omega) (.inl ⟨rfl, rfl, fun a => by simp⟩)
  exact ⟨v, h, Ev.bind k1.diag Ev.pure, k2⟩
end
/-! both, beside each other -/
theorem turned_both {t : PTab} {Z : List (Edu × Int)} {n : Nat} (R : Rel t Z n) (hn : n ≤ 1000) (at_ : Int) : ∃ rs t', Ev (fun k => concourseref15_Turned.f k ⟨Z.map (·.1), Z.map (·.2)⟩ at_) (⟨(Z.map fun q : Edu × Int => (q.1, max q.2 at_)).map (·.1), (Z.map fun q : Edu × Int => (q.1, max q.2 at_)).map (·.2)⟩, rs) ∧ rs.length ≤ 100000 ∧
    Ev (fun k => presence_Table_Turned.f k t at_) (rs, t') ∧ Rel t' (Z.map fun q : Edu × Int => (q.1, max q.2 at_)) n := by
  have hZ : Z.length ≤ 1000 := Nat.le_trans R.ln hn
  obtain ⟨t', vs, p1, p2, p3, p4⟩ := turned_ev R hn at_
  have e1 : (Z.map fun q : Edu × Int => (q.1, max q.2 at_)).map (·.1) = Z.map (·.1) := by rw [List.map_map]; rfl
  have e2 : (Z.map fun q : Edu × Int => (q.1, max q.2 at_)).map (·.2) = Z.map (fun q : Edu × Int => max q.2 at_) := by rw [List.map_map]; rfl
  have hsz : SrtT (Z.map (·.1.fUser)) := by
    have := srt_pw.1 R.srt
    unfold SrtT
    rw [List.pairwise_map] at this ⊢
    exact this
  have eo : srtS vs = (Z.filter (dueQ at_)).map (·.1.fUser) := by
    refine srtT_ext (srtS_nodup p3) ?_ (fun u => ?_)
    · exact hsz.sublist (List.filter_sublist.map _)
    · rw [srtS_mem, p4, List.mem_map]
      constructor
      · rintro ⟨q, q1, q2, q3⟩
        exact ⟨q, List.mem_filter.2 ⟨q1, turnedB_iff.2 q3⟩, q2⟩
      · rintro ⟨q, q1, q2⟩
        obtain ⟨q3, q4⟩ := List.mem_filter.1 q1
        exact ⟨q, q3, q2, turnedB_iff.1 q4⟩
  refine ⟨_, t', by rw [e1, e2]; exact reft_ev hZ R.ok at_, ?_, by rw [← eo]; exact p1, p2⟩
  rw [List.length_map]
  have := List.length_filter_le (dueQ at_) Z
  omega
theorem next_both {t : PTab} {Z : List (Edu × Int)} {n : Nat} (R : Rel t Z n) (hn : n ≤ 1000) : ∃ v h, Ev (fun k => concourseref15_Next.f k ⟨Z.map (·.1), Z.map (·.2)⟩) (v, h) ∧ presence_Table_Next.f t = some (v, h) := by
  obtain ⟨v, h, r1, r2⟩ := refn_ev (Nat.le_trans R.ln hn) R.ok
  refine ⟨v, h, r1, ?_⟩
  have key : ∀ x, x ∈ t.fturns.fl → ∃ q ∈ Z, x.fAt ∈ trns q.1 ∧ q.2 < x.fAt := fun x hx => by
    obtain ⟨q, q1, q2, q3⟩ := (R.cont x).1 hx
    have := (trns_turn (e := q.1) (s := q.2)).1 _ q2
    exact ⟨q, q1, this.1, this.2.1⟩
  have key2 : ∀ a, (∃ q ∈ Z, a ∈ trns q.1 ∧ q.2 < a) → ∃ x, x ∈ t.fturns.fl ∧ x.fAt ≤ a := by
    rintro a ⟨q, q1, q2, q3⟩
    have hh := trns_turn (e := q.1) (s := q.2)
    cases ht : turnV q.1 q.2 with
    | none => exact absurd q3 (hh.2 ht a q2)
    | some b => exact ⟨⟨b, q.1.fUser⟩, (R.cont _).2 ⟨q, q1, ht, rfl⟩, (hh.1 b ht).2.2 a q2 q3⟩
  rcases next_ev R.ord with ⟨a, b⟩ | ⟨x, x1, x2, x3⟩
  · have B : Best (fun a => ∃ q ∈ Z, a ∈ trns q.1 ∧ q.2 < a) 0 false := .inl ⟨rfl, rfl, fun c hc => by
      obtain ⟨y, y1, _⟩ := key2 c hc
      rw [a] at y1; cases y1⟩
    obtain ⟨rfl, rfl⟩ := r2.uniq B
    exact b
  · have B : Best (fun a => ∃ q ∈ Z, a ∈ trns q.1 ∧ q.2 < a) x.fAt true := .inr ⟨rfl, key x x1, fun c hc => by
      obtain ⟨y, y1, y2⟩ := key2 c hc
      have := x3 y y1
      omega⟩
    obtain ⟨rfl, rfl⟩ := r2.uniq B
    exact x2
theorem put_any {t : PTab} {Z : List (Edu × Int)} {n : Nat} {e : Edu} (R : Rel t Z n) (hn : n ≤ 1000) (z : Sz e) : ∃ Z' b f t', Ev (fun k => concourseref15_Put.f k ⟨Z.map (·.1), Z.map (·.2)⟩ e) (⟨Z'.map (·.1), Z'.map (·.2)⟩, b, f) ∧ Ev (fun k => presence_Table_Put.f k t e) (b, f, t') ∧ Rel t' Z' (n + 1) := by
  by_cases he : OkE e
  · obtain ⟨p, hp, h1, t', h2, h3⟩ := put_both R hn he
    cases ho : old (Z.map (·.1)) e p with
    | true => rw [ho] at h1 h2 h3; exact ⟨Z, false, 0, t', h1, h2, h3⟩
    | false => rw [ho] at h1 h2 h3; exact ⟨newZ Z e p, true, 0, t', h1, h2, h3⟩
  · obtain ⟨h1, h2⟩ := not_ok z he ⟨Z.map (·.1), Z.map (·.2)⟩ t
    exact ⟨Z, false, 1, t, h1, h2, rel_mono R (by omega)⟩
theorem all_eq {t : PTab} (h : t.fl.length ≤ 100000) : presence_Table_All.f t = some t.fl := by
  unfold presence_Table_All.f slices_Clone_Edu.f
  simp only [grd]
  rw [if_pos ⟨by omega, by omega⟩]; rfl
end Go.Proofs.YtegmafgodoikiaaGreat
