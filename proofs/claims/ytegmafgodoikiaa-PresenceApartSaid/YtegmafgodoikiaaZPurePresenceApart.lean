/- Plain: what is put of one user changes nothing of another one. -/
import Derived.Test.YtegmafgodoikiaaZPI
set_option linter.all false
set_option maxRecDepth 10000
namespace Go.Proofs.Ytegmafgodoikiaa
open Go Go.Sp
theorem of_eq {e : Edu} (h : OkE e) (at_ : Int) : concourseref15_Of.f e at_ = some (stateV e at_) := by
  have h1 := h.state
  have h2 := h.tick
  have w1 : w64 (e.fTick + 30) = e.fTick + 30 := w64_id (by omega) (by omega)
  have w2 : w64 (e.fTick + 90) = e.fTick + 90 := w64_id (by omega) (by omega)
  unfold concourseref15_Of.f stateV
  rw [w1, w2]
  have h3 : e.fState = 0 ∨ e.fState = 1 ∨ e.fState = 2 := by omega
  rcases h3 with h3 | h3 | h3 <;> rw [h3] <;> by_cases a : at_ < e.fTick + 30 <;> by_cases b : at_ < e.fTick + 90 <;> simp [a, b]
section
variable {a0 : List Edu}
theorem apart_put (hw : ∀ x ∈ a0, Wf x) : ∀ (d i : Nat) (t : PTab) (Z : List (Edu × Int)), Rel t Z i → 8 - i ≤ d → i ≤ 8 →
    ∃ i' q t' Z', Rel t' Z' 8 ∧ El (fun k j => concourselaw15_PresenceApart.l2 k a0 j (i : Int) (Z.map (·.1)) (Z.map (·.2)) t) (i', q, Z'.map (·.1), Z'.map (·.2), t') := by
  intro d
  induction d with
  | zero =>
    intro i t Z R hd hi
    obtain rfl : i = 8 := by omega
    by_cases h1 : 8 < a0.length
    · refine ⟨((8 : Nat) : Int), decide (((8 : Nat) : Int) < 8), t, Z, R, ?_⟩
      refine El.step (fun _ _ => by rw [concourselaw15_PresenceApart.l2]) ?_
      exact El.ct (decide_eq_true (by omega)) (El.cf (by decide) El.pure)
    · refine ⟨((8 : Nat) : Int), false, t, Z, R, ?_⟩
      refine El.step (fun _ _ => by rw [concourselaw15_PresenceApart.l2]) ?_
      exact El.cf (decide_eq_false (by omega)) El.pure
  | succ d ih =>
    intro i t Z R hd hi
    by_cases h1 : i < a0.length
    · by_cases h2 : i < 8
      · obtain ⟨e, he, hm⟩ := made_ok (hw _ (getD_mem (d := default) h1))
        obtain ⟨Z', b, t', p1, p2, R'⟩ := put_next R (by omega) he
        obtain ⟨i', q, t2, Z2, R2, G⟩ := ih (i + 1) t' Z' R' (by omega) (by omega)
        refine ⟨i', q, t2, Z2, R2, ?_⟩
        refine El.step (fun _ _ => by rw [concourselaw15_PresenceApart.l2]) ?_
        simp only [inc_nat (show i ≤ 1000000 by omega), at_nat]
        exact El.ct (decide_eq_true (by omega)) (El.ct (decide_eq_true (by omega)) (El.grd ⟨by omega, by omega⟩ (El.bind (Ev.el ⟨0, fun k _ => hm k⟩) (El.bind p1.el (El.grd ⟨by omega, by omega⟩ (El.bind (Ev.el ⟨0, fun k _ => hm k⟩) (El.bind p2.el G)))))))
      · obtain rfl : i = 8 := by omega
        exact ih 8 t Z R (by omega) (by omega)
    · refine ⟨(i : Int), false, t, Z, rel_mono R hi, ?_⟩
      refine El.step (fun _ _ => by rw [concourselaw15_PresenceApart.l2]) ?_
      exact El.cf (decide_eq_false (by omega)) El.pure
end
section
variable {t : PTab} {Z : List (Edu × Int)} {n : Nat} {a2 i' : Int} {q : Bool} {L0 : List Edu} {T0 : List Int}
def Was (L : List Edu) (a2 : Int) (ws : List Int) : Prop := ∀ i, i < ws.length → ∀ user, concourseref01_UserOf.f (i : Int) = some user → Val L user a2 (ws.getD i default)
theorem apart_was (R : Rel t Z n) (hn : n ≤ 1000) : ∀ (d i : Nat) (ws : List Int), ws.length = i → Was (Z.map (·.1)) a2 ws → 9 - i ≤ d → i ≤ 9 →
    ∃ q2 ws', ws'.length = 9 ∧ Was (Z.map (·.1)) a2 ws' ∧ El (fun k j => concourselaw15_PresenceApart.l1 k a2 (i', q, L0, T0, t) j (i : Int) ws) (((9 : Nat) : Int), q2, ws') := by
  intro d
  induction d with
  | zero =>
    intro i ws h1 h2 hd hi
    obtain rfl : i = 9 := by omega
    refine ⟨false, ws, h1, h2, ?_⟩
    refine El.step (fun _ _ => by rw [concourselaw15_PresenceApart.l1]) ?_
    exact El.cf (by decide) El.pure
  | succ d ih =>
    intro i ws h1 h2 hd hi
    by_cases h : i < 9
    · obtain ⟨user, hu, _⟩ := userOf_at i h
      have hl : (Z.map (·.1)).length ≤ 100000 := by rw [List.length_map]; have := R.ln; omega
      obtain ⟨b, v1, v2⟩ := state_val (L := Z.map (·.1)) (h := t.fturns) hl R.srt (rel_ok R) user a2
      have ht : t = ⟨Z.map (·.1), t.fturns⟩ := by rw [← R.fl]
      rw [← ht] at v2
      obtain ⟨q2, ws', w1, w2, G⟩ := ih (i + 1) (ws ++ [b]) (by simp [h1]) (fun m hm user' hu' => by
        rw [List.length_append, List.length_singleton] at hm
        by_cases hmi : m < i
        · have := h2 m (by omega) user' hu'
          rw [List.getD_eq_getElem?_getD, List.getElem?_append_left (by omega), ← List.getD_eq_getElem?_getD]
          exact this
        · obtain rfl : m = i := by omega
          rw [hu] at hu'
          cases hu'
          rw [List.getD_eq_getElem?_getD, List.getElem?_append_right (by omega), h1, Nat.sub_self]
          exact v1) (by omega) (by omega)
      refine ⟨q2, ws', w1, w2, ?_⟩
      refine El.step (fun _ _ => by rw [concourselaw15_PresenceApart.l1]) ?_
      simp only [inc_nat (show i ≤ 1000000 by omega)]
      exact El.ct (decide_eq_true (by omega)) (El.bind (Ev.el (Ev.of hu)) (El.bind v2.el (El.grd ⟨by simp; omega, by simp; omega⟩ G)))
    · obtain rfl : i = 9 := by omega
      exact ih 9 ws h1 h2 (by omega) (by omega)
theorem apart_now {t' : PTab} {Z' : List (Edu × Int)} {m : Nat} {e : Edu} {ws : List Int} {b2 later : Bool} {f2 f3 : Int} {j' : Int} {q2 : Bool} {w3 : TRef} (he : OkE e) (R : Rel t' Z' m) (hm : m ≤ 1000) (hs : Srt (Z.map (·.1))) (hws : ws.length = 9) (W : Was (Z.map (·.1)) a2 ws)
    (ho : ∀ user b, ¬ (user = e.fUser ∧ later = true) → Val (Z'.map (·.1)) user a2 b → Val (Z.map (·.1)) user a2 b) (hl : later = true → e ∈ Z'.map (·.1)) : ∀ (d i : Nat), 9 - i ≤ d → i ≤ 9 →
    El (fun k j => concourselaw15_PresenceApart.l0 k a2 e (j', q2, ws) (w3, later, f3) (b2, f2, t') j (i : Int)) (.inl (((9 : Nat) : Int), false)) := by
  intro d
  induction d with
  | zero =>
    intro i hd hi
    obtain rfl : i = 9 := by omega
    refine El.step (fun _ _ => by rw [concourselaw15_PresenceApart.l0]) ?_
    exact El.cf (by decide) El.pure
  | succ d ih =>
    intro i hd hi
    by_cases h : i < 9
    · obtain ⟨user, hu, _⟩ := userOf_at i h
      have hll : (Z'.map (·.1)).length ≤ 100000 := by rw [List.length_map]; have := R.ln; omega
      obtain ⟨b, v1, v2⟩ := state_val (L := Z'.map (·.1)) (h := t'.fturns) hll R.srt (rel_ok R) user a2
      have ht : t' = ⟨Z'.map (·.1), t'.fturns⟩ := by rw [← R.fl]
      rw [← ht] at v2
      have w := W i (by omega) user hu
      have eqb : ¬ (user = e.fUser ∧ later = true) → (b != ws.getD (i : Int).toNat default) = false := fun hne => by
        rw [Int.toNat_natCast, Val.uniq hs (ho user b hne v1) w]; simp
      have G := ih (i + 1) (by omega) (by omega)
      refine El.step (fun _ _ => by rw [concourselaw15_PresenceApart.l0]) ?_
      simp only [inc_nat (show i ≤ 1000000 by omega)]
      refine El.ct (decide_eq_true (by omega)) (El.bind (Ev.el (Ev.of hu)) (El.grd ⟨by omega, by omega⟩ ?_))
      by_cases h1 : user = e.fUser
      · refine El.ct (decide_eq_true h1) ?_
        cases h2 : later with
        | true =>
          have hb : (b != stateV e a2) = false := by
            have : Val (Z'.map (·.1)) user a2 (stateV e a2) := .inl ⟨e, hl h2, h1.symm, rfl⟩
            rw [Val.uniq R.srt v1 this]; simp
          rw [h2] at G
          exact El.ct rfl (El.bind (Ev.el (Ev.of (of_eq he a2))) (El.bind v2.el (El.cf hb G)))
        | false =>
          rw [h2] at G
          exact El.cf rfl (El.bind v2.el (El.cf (eqb fun k => by rw [h2] at k; cases k.2) G))
      · exact El.cf (decide_eq_false h1) (El.bind v2.el (El.cf (eqb fun k => h1 k.1) G))
    · obtain rfl : i = 9 := by omega
      exact ih 9 (by omega) (by omega)
end
theorem PresenceApart_pure (a0 : List Edu) (a1 : Edu) (a2 : Int) (k0 : (fun xs : List Edu => xs.length ≤ maxLen ∧ ∀ x ∈ xs, Edu.ok x) a0) (k1 : Edu.ok a1) (k2 : (fun n => (Lit.int .i64 n).wf = true) a2) : ∃ k, concourselaw15_PresenceApart.f k a0 a1 a2 = some true := by
  obtain ⟨_, hok⟩ := k0
  obtain ⟨i', q, t, Z, R, G⟩ := apart_put (fun x hx => wf_of (hok x hx)) 8 0 _ [] rel_new (by omega) (by omega)
  obtain ⟨e, he, hm⟩ := made_ok (wf_of k1)
  obtain ⟨q2, ws, w1, w2, Gw⟩ := apart_was (a2 := a2) (i' := i') (q := q) (L0 := Z.map (·.1)) (T0 := Z.map (·.2)) R (by omega) 9 0 [] rfl (fun i hi => by simp at hi) (by omega) (by omega)
  obtain ⟨p, hp, p1, t', p2, R'⟩ := put_both R (by omega) he
  cases ho : old (Z.map (·.1)) e p with
  | true =>
    rw [ho] at p1 p2 R'
    change Ev _ ((⟨Z.map (·.1), Z.map (·.2)⟩ : TRef), false, (0 : Int)) at p1
    change Ev _ (false, (0 : Int), t') at p2
    change Rel t' Z (8 + 1) at R'
    have Gn := apart_now (a2 := a2) (e := e) (b2 := false) (later := false) (f2 := 0) (f3 := 0) (w3 := ⟨Z.map (·.1), Z.map (·.2)⟩) (j' := ((9 : Nat) : Int)) (q2 := q2) he R' (by omega) R.srt w1 w2 (fun user b _ v => v) nofun 9 0 (by omega) (by omega)
    have H : Ev (fun k => concourselaw15_PresenceApart.f k a0 a1 a2) true := by
      unfold concourselaw15_PresenceApart.f
      refine Ev.bind (Ev.of new_eq) (Ev.bind G.diag (Ev.bind ⟨0, fun k _ => hm k⟩ (Ev.bind Gw.diag (Ev.bind p1 (Ev.bind p2 (Ev.bind Gn.diag ?_))))))
      show Ev (fun k => cond ((0 : Int) == 0) (cond (false == false) ((concourselaw15_lives.f k).bind fun t => some t) (some false)) (some false)) true
      exact Ev.ct rfl (Ev.ct rfl (Ev.bind lives_ev Ev.pure))
    exact H.ex
  | false =>
    rw [ho] at p1 p2 R'
    change Ev _ ((⟨(newZ Z e p).map (·.1), (newZ Z e p).map (·.2)⟩ : TRef), true, (0 : Int)) at p1
    change Ev _ (true, (0 : Int), t') at p2
    have R2 : Rel t' (newZ Z e p) (8 + 1) := R'
    have Gn := apart_now (a2 := a2) (e := e) (b2 := true) (later := true) (f2 := 0) (f3 := 0) (w3 := ⟨(newZ Z e p).map (·.1), (newZ Z e p).map (·.2)⟩) (j' := ((9 : Nat) : Int)) (q2 := q2) he R2 (by omega) R.srt w1 w2 (fun user b hne v => by
      rw [newZ_map] at v
      exact (Val.other R.srt hp (fun k => hne ⟨k.symm, rfl⟩)).1 v) (fun _ => by rw [newZ_map]; exact List.mem_append_right _ (List.mem_cons_self ..)) 9 0 (by omega) (by omega)
    have H : Ev (fun k => concourselaw15_PresenceApart.f k a0 a1 a2) true := by
      unfold concourselaw15_PresenceApart.f
      refine Ev.bind (Ev.of new_eq) (Ev.bind G.diag (Ev.bind ⟨0, fun k _ => hm k⟩ (Ev.bind Gw.diag (Ev.bind p1 (Ev.bind p2 (Ev.bind Gn.diag ?_))))))
      show Ev (fun k => cond ((0 : Int) == 0) (cond (true == true) ((concourselaw15_lives.f k).bind fun t => some t) (some false)) (some false)) true
      exact Ev.ct rfl (Ev.ct rfl (Ev.bind lives_ev Ev.pure))
    exact H.ex
end Go.Proofs.Ytegmafgodoikiaa
