/- Plain: what is put of one room and user changes nothing of another one. -/
import Derived.Test.YtmbodanckhidiaaZPK
set_option linter.all false
set_option maxRecDepth 10000
namespace Go.Proofs.Ytmbodanckhidiaa
open Go Go.Sp
section
variable {a0 : List Edu}
theorem apart_put (hw : ∀ x ∈ a0, Wf x) : ∀ (d i : Nat) (t : TTab) (Z : List (Edu × Bool)), Rel t Z i → 8 - i ≤ d → i ≤ 8 →
    ∃ i' q t' Z', Rel t' Z' 8 ∧ El (fun k j => concourselaw14_TypingApart.l2 k a0 j (i : Int) t) (i', q, t') := by
  intro d
  induction d with
  | zero =>
    intro i t Z R hd hi
    obtain rfl : i = 8 := by omega
    by_cases h1 : 8 < a0.length
    · refine ⟨((8 : Nat) : Int), decide (((8 : Nat) : Int) < 8), t, Z, R, ?_⟩
      refine El.step (fun _ _ => by rw [concourselaw14_TypingApart.l2]) ?_
      exact El.ct (decide_eq_true (by omega)) (El.cf (by decide) El.pure)
    · refine ⟨((8 : Nat) : Int), false, t, Z, R, ?_⟩
      refine El.step (fun _ _ => by rw [concourselaw14_TypingApart.l2]) ?_
      exact El.cf (decide_eq_false (by omega)) El.pure
  | succ d ih =>
    intro i t Z R hd hi
    by_cases h1 : i < a0.length
    · by_cases h2 : i < 8
      · obtain ⟨e, he, _, hm⟩ := made_ok (hw _ (getD_mem (d := default) h1))
        obtain ⟨Z', b, t', p1, p2, R'⟩ := put_next R (by omega) he
        obtain ⟨i', q, t2, Z2, R2, G⟩ := ih (i + 1) t' Z' R' (by omega) (by omega)
        refine ⟨i', q, t2, Z2, R2, ?_⟩
        refine El.step (fun _ _ => by rw [concourselaw14_TypingApart.l2]) ?_
        simp only [inc_nat (show i ≤ 1000000 by omega), at_nat]
        exact El.ct (decide_eq_true (by omega)) (El.ct (decide_eq_true (by omega)) (El.grd ⟨by omega, by omega⟩ (El.bind (Ev.el ⟨0, fun k _ => hm k⟩) (El.bind p2.el G))))
      · obtain rfl : i = 8 := by omega
        exact ih 8 t Z R (by omega) (by omega)
    · refine ⟨(i : Int), false, t, Z, rel_mono R hi, ?_⟩
      refine El.step (fun _ _ => by rw [concourselaw14_TypingApart.l2]) ?_
      exact El.cf (decide_eq_false (by omega)) El.pure
end
theorem apart_names {i : Nat} (hi : i < 18) : ∃ room user, concourseref01_RoomOf.f (w64 ((i : Int).tdiv 9)) = some room ∧ concourseref01_UserOf.f ((i : Int).tmod 9) = some user := by
  have e1 : w64 ((i : Int).tdiv 9) = ((i / 9 : Nat) : Int) := by
    rw [Int.tdiv_eq_ediv_of_nonneg (by omega), w64_id (by omega) (by omega)]; omega
  have e2 : (i : Int).tmod 9 = ((i % 9 : Nat) : Int) := by
    rw [Int.tmod_eq_emod_of_nonneg (by omega)]; omega
  rw [e1, e2]
  obtain ⟨r, hr, _⟩ := roomOf_ev (n := ((i / 9 : Nat) : Int)) ⟨by omega, by omega⟩
  obtain ⟨u, hu, _⟩ := userOf_ev (n := ((i % 9 : Nat) : Int)) ⟨by omega, by omega⟩
  exact ⟨r, u, hr, hu⟩
section
variable {t : TTab} {Z : List (Edu × Bool)} {n : Nat} {a2 i' : Int} {q : Bool}
def Was (L : List Edu) (a2 : Int) (ws : List Bool) : Prop := ∀ i, i < ws.length → ∀ room user, concourseref01_RoomOf.f (w64 ((i : Int).tdiv 9)) = some room → concourseref01_UserOf.f ((i : Int).tmod 9) = some user → Val L room user a2 (ws.getD i default)
theorem apart_was (R : Rel t Z n) (hn : n ≤ 1000) : ∀ (d i : Nat) (ws : List Bool), ws.length = i → Was (Z.map (·.1)) a2 ws → 18 - i ≤ d → i ≤ 18 →
    ∃ q2 ws', ws'.length = 18 ∧ Was (Z.map (·.1)) a2 ws' ∧ El (fun k j => concourselaw14_TypingApart.l1 k a2 (i', q, t) j (i : Int) ws) (((18 : Nat) : Int), q2, ws') := by
  intro d
  induction d with
  | zero =>
    intro i ws h1 h2 hd hi
    obtain rfl : i = 18 := by omega
    refine ⟨false, ws, h1, h2, ?_⟩
    refine El.step (fun _ _ => by rw [concourselaw14_TypingApart.l1]) ?_
    exact El.cf (by decide) El.pure
  | succ d ih =>
    intro i ws h1 h2 hd hi
    by_cases h : i < 18
    · obtain ⟨room, user, hr, hu⟩ := apart_names h
      have hl : (Z.map (·.1)).length ≤ 100000 := by rw [List.length_map]; have := R.ln; omega
      obtain ⟨b, v1, v2, _⟩ := types_val (L := Z.map (·.1)) (T := []) (h := t.fends) hl R.srt room user a2
      have ht : t = ⟨Z.map (·.1), t.fends⟩ := by rw [← R.fl]
      rw [← ht] at v2
      obtain ⟨q2, ws', w1, w2, G⟩ := ih (i + 1) (ws ++ [b]) (by simp [h1]) (fun m hm room' user' hr' hu' => by
        rw [List.length_append, List.length_singleton] at hm
        by_cases hmi : m < i
        · have := h2 m (by omega) room' user' hr' hu'
          rw [List.getD_eq_getElem?_getD, List.getElem?_append_left (by omega), ← List.getD_eq_getElem?_getD]
          exact this
        · obtain rfl : m = i := by omega
          rw [hr] at hr'
          rw [hu] at hu'
          cases hr'
          cases hu'
          rw [List.getD_eq_getElem?_getD, List.getElem?_append_right (by omega), h1, Nat.sub_self]
          exact v1) (by omega) (by omega)
      refine ⟨q2, ws', w1, w2, ?_⟩
      refine El.step (fun _ _ => by rw [concourselaw14_TypingApart.l1]) ?_
      simp only [inc_nat (show i ≤ 1000000 by omega)]
      exact El.ct (decide_eq_true (by omega)) (El.bind (Ev.el (Ev.of hr)) (El.bind (Ev.el (Ev.of hu)) (El.bind v2.el (El.grd ⟨by simp; omega, by simp; omega⟩ G))))
    · obtain rfl : i = 18 := by omega
      exact ih 18 ws h1 h2 (by omega) (by omega)
theorem apart_now {t' : TTab} {Z' : List (Edu × Bool)} {m : Nat} {e : Edu} {ws : List Bool} {b2 : Bool} {f2 : Int} {j' : Int} {q2 : Bool} (R : Rel t' Z' m) (hm : m ≤ 1000) (hs : Srt (Z.map (·.1))) (hws : ws.length = 18) (W : Was (Z.map (·.1)) a2 ws)
    (ho : ∀ room user b, ¬ (e.fRoom = room ∧ e.fUser = user) → Val (Z'.map (·.1)) room user a2 b → Val (Z.map (·.1)) room user a2 b) : ∀ (d i : Nat), 18 - i ≤ d → i ≤ 18 →
    El (fun k j => concourselaw14_TypingApart.l0 k a2 e (j', q2, ws) (b2, f2, t') j (i : Int)) (.inl (((18 : Nat) : Int), false)) := by
  intro d
  induction d with
  | zero =>
    intro i hd hi
    obtain rfl : i = 18 := by omega
    refine El.step (fun _ _ => by rw [concourselaw14_TypingApart.l0]) ?_
    exact El.cf (by decide) El.pure
  | succ d ih =>
    intro i hd hi
    by_cases h : i < 18
    · obtain ⟨room, user, hr, hu⟩ := apart_names h
      have hl : (Z'.map (·.1)).length ≤ 100000 := by rw [List.length_map]; have := R.ln; omega
      obtain ⟨b, v1, v2, _⟩ := types_val (L := Z'.map (·.1)) (T := []) (h := t'.fends) hl R.srt room user a2
      have ht : t' = ⟨Z'.map (·.1), t'.fends⟩ := by rw [← R.fl]
      rw [← ht] at v2
      have w := W i (by omega) room user hr hu
      have eqb : ¬ (e.fRoom = room ∧ e.fUser = user) → (b != ws.getD (i : Int).toNat default) = false := fun hne => by
        rw [Int.toNat_natCast, Val.uniq hs (ho room user b hne v1) w]; simp
      have G := ih (i + 1) (by omega) (by omega)
      refine El.step (fun _ _ => by rw [concourselaw14_TypingApart.l0]) ?_
      simp only [inc_nat (show i ≤ 1000000 by omega)]
      refine El.ct (decide_eq_true (by omega)) (El.bind (Ev.el (Ev.of hr)) (El.bind (Ev.el (Ev.of hu)) ?_))
      by_cases h1 : room = e.fRoom
      · refine El.cf (by rw [decide_eq_true h1]; rfl) ?_
        by_cases h2 : user = e.fUser
        · exact El.cf (by rw [decide_eq_true h2]; rfl) G
        · exact El.ct (by rw [decide_eq_false h2]; rfl) (El.bind v2.el (El.grd ⟨by omega, by omega⟩ (El.cf (eqb fun k => h2 k.2.symm) G)))
      · exact El.ct (by rw [decide_eq_false h1]; rfl) (El.bind v2.el (El.grd ⟨by omega, by omega⟩ (El.cf (eqb fun k => h1 k.1.symm) G)))
    · obtain rfl : i = 18 := by omega
      exact ih 18 (by omega) (by omega)
end
theorem TypingApart_pure (a0 : List Edu) (a1 : Edu) (a2 : Int) (k0 : (fun xs : List Edu => xs.length ≤ maxLen ∧ ∀ x ∈ xs, Edu.ok x) a0) (k1 : Edu.ok a1) (k2 : (fun n => (Lit.int .i64 n).wf = true) a2) : ∃ k, concourselaw14_TypingApart.f k a0 a1 a2 = some true := by
  obtain ⟨_, hok⟩ := k0
  obtain ⟨i', q, t, Z, R, G⟩ := apart_put (fun x hx => wf_of (hok x hx)) 8 0 _ [] rel_new (by omega) (by omega)
  obtain ⟨e, he, _, hm⟩ := made_ok (wf_of k1)
  obtain ⟨q2, ws, w1, w2, Gw⟩ := apart_was (a2 := a2) (i' := i') (q := q) R (by omega) 18 0 [] rfl (fun i hi => by simp at hi) (by omega) (by omega)
  obtain ⟨p, hp, _, t', p2, R'⟩ := put_both R (by omega) he
  have hlen := R.ln
  have hL : t.fl.length = Z.length := by rw [R.fl, List.length_map]
  have hall : typing_Table_All.f t = some t.fl := all_eq (by omega)
  have hL' : t'.fl.length = (if old (Z.map (·.1)) e p then Z else newZ Z e p).length := by rw [R'.fl, List.length_map]
  have hb : Z.length ≤ (if old (Z.map (·.1)) e p then Z else newZ Z e p).length ∧ (if old (Z.map (·.1)) e p then Z else newZ Z e p).length ≤ Z.length + 1 := by
    split
    · omega
    · have := new_len hp
      rw [← newZ_map, List.length_map, List.length_map] at this
      exact this
  have hall' : typing_Table_All.f t' = some t'.fl := all_eq (by omega)
  have Gn := apart_now (a2 := a2) (e := e) (b2 := !old (Z.map (·.1)) e p) (f2 := 0) (j' := ((18 : Nat) : Int)) (q2 := q2) R' (by omega) R.srt w1 w2 (fun room user b hne v => by
    cases ho : old (Z.map (·.1)) e p with
    | true => rw [ho] at v; exact v
    | false => rw [ho, if_neg (by simp), newZ_map] at v; exact (Val.other R.srt hp hne).1 v) 18 0 (by omega) (by omega)
  have H : Ev (fun k => concourselaw14_TypingApart.f k a0 a1 a2) true := by
    unfold concourselaw14_TypingApart.f
    refine Ev.bind (Ev.of new_eq) (Ev.bind G.diag (Ev.bind ⟨0, fun k _ => hm k⟩ (Ev.bind Gw.diag (Ev.bind (Ev.of hall) (Ev.bind p2 (Ev.bind Gn.diag (Ev.bind (Ev.of hall') (Ev.ct (decide_eq_true (by omega)) (Ev.bind (Ev.of hall') (Ev.ct (decide_eq_true ?_) (Ev.bind lives_ev Ev.pure)))))))))))
    rw [w64_id (by omega) (by omega)]; omega
  exact H.ex
end Go.Proofs.Ytmbodanckhidiaa
