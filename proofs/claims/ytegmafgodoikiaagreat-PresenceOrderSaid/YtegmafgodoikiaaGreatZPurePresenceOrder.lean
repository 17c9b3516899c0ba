/- Plain: in whatever row EDUs are put, and however often, the same users are there. -/
import Derived.Test.YtegmafgodoikiaaGreatZPM
import Derived.Test.YtegmafgodoikiaaGreatZPT
import Derived.Test.YtegmafgodoikiaaGreatZPU
import Derived.Test.YtegmafgodoikiaaGreatZPV
set_option linter.all false
set_option maxRecDepth 10000
namespace Go.Proofs.YtegmafgodoikiaaGreat
open Go Go.Sp
/-- A put, told of what was put. -/
theorem put_spec {t : PTab} {Z : List (Edu × Int)} {n : Nat} {e : Edu} {S S' : Edu → Prop} (R : Rel t Z n) (hn : n ≤ 1000) (he : OkE e) (H : Spec (Z.map (·.1)) S) (hS : ∀ x, S' x ↔ x = e ∨ S x) : ∃ Z' b t', Ev (fun k => concourseref15_Put.f k ⟨Z.map (·.1), Z.map (·.2)⟩ e) (⟨Z'.map (·.1), Z'.map (·.2)⟩, b, 0) ∧ Ev (fun k => presence_Table_Put.f k t e) (b, 0, t') ∧ Rel t' Z' (n + 1) ∧ Spec (Z'.map (·.1)) S' := by
  obtain ⟨p, hp, h1, t', h2, h3⟩ := put_both R hn he
  have h4 := H.step R.srt hp hS
  cases ho : old (Z.map (·.1)) e p with
  | true => rw [ho] at h1 h2 h3 h4; exact ⟨Z, false, t', h1, h2, h3, h4⟩
  | false => rw [ho] at h1 h2 h3 h4; exact ⟨newZ Z e p, true, t', h1, h2, h3, by rw [newZ_map]; exact h4⟩
theorem all_eq {t : PTab} (h : t.fl.length ≤ 100000) : presence_Table_All.f t = some t.fl := by
  unfold presence_Table_All.f slices_Clone_Edu.f
  simp only [grd]
  rw [if_pos ⟨by omega, by omega⟩]; rfl
section
variable {a0 : List Edu} {md : Nat → Edu} {n : Nat}
theorem order_l1 (hn : n ≤ 10) (hnl : n ≤ a0.length) (hmin : min (a0.length : Int) 10 = (n : Int)) (hmd : ∀ i, i < a0.length → OkE (md i) ∧ ∀ k, concourseref15_Made.f k (a0.getD i default) = some (md i)) : ∀ (d i : Nat) (ta tb : PTab) (Za Zb : List (Edu × Int)), Rel ta Za i → Rel tb Zb i → Spec (Za.map (·.1)) (fun x => ∃ j, j < i ∧ x = md j) → Spec (Zb.map (·.1)) (fun x => ∃ j, j < i ∧ x = md (n - 1 - j)) → n - i ≤ d → i ≤ n →
    ∃ q ta' tb' Za' Zb', Rel ta' Za' n ∧ Rel tb' Zb' n ∧ Spec (Za'.map (·.1)) (fun x => ∃ j, j < n ∧ x = md j) ∧ Spec (Zb'.map (·.1)) (fun x => ∃ j, j < n ∧ x = md (n - 1 - j)) ∧ El (fun k j => concourselaw15_PresenceOrder.l1 k a0 j (i : Int) (Za.map (·.1)) (Za.map (·.2)) tb ta) ((n : Int), q, Za'.map (·.1), Za'.map (·.2), tb', ta') := by
  intro d
  induction d with
  | zero =>
    intro i ta tb Za Zb Ra Rb Sa Sb hd hi
    obtain rfl : i = n := by omega
    refine ⟨decide ((i : Int) < min (a0.length : Int) 10), ta, tb, Za, Zb, Ra, Rb, Sa, Sb, ?_⟩
    refine El.step (fun _ _ => by rw [concourselaw15_PresenceOrder.l1]) ?_
    exact El.cf (decide_eq_false (by omega)) El.pure
  | succ d ih =>
    intro i ta tb Za Zb Ra Rb Sa Sb hd hi
    by_cases h : i < n
    · obtain ⟨he, hm⟩ := hmd i (by omega)
      obtain ⟨he2, hm2⟩ := hmd (n - 1 - i) (by omega)
      obtain ⟨Za', b, ta', p1, p2, Ra', Sa'⟩ := put_spec (S' := fun x => ∃ j, j < i + 1 ∧ x = md j) Ra (by omega) he Sa (fun x => by
        constructor
        · rintro ⟨j, j1, j2⟩
          rcases Nat.lt_or_ge j i with k | k
          · exact .inr ⟨j, k, j2⟩
          · obtain rfl : j = i := by omega
            exact .inl j2
        · rintro (e | ⟨j, j1, j2⟩)
          · exact ⟨i, by omega, e⟩
          · exact ⟨j, by omega, j2⟩)
      obtain ⟨Zb', b2, tb', _, p3, Rb', Sb'⟩ := put_spec (S' := fun x => ∃ j, j < i + 1 ∧ x = md (n - 1 - j)) Rb (by omega) he2 Sb (fun x => by
        constructor
        · rintro ⟨j, j1, j2⟩
          rcases Nat.lt_or_ge j i with k | k
          · exact .inr ⟨j, k, j2⟩
          · obtain rfl : j = i := by omega
            exact .inl j2
        · rintro (e | ⟨j, j1, j2⟩)
          · exact ⟨i, by omega, e⟩
          · exact ⟨j, by omega, j2⟩)
      obtain ⟨q, ta2, tb2, Za2, Zb2, r1, r2, r3, r4, G⟩ := ih (i + 1) ta' tb' Za' Zb' Ra' Rb' Sa' Sb' (by omega) (by omega)
      refine ⟨q, ta2, tb2, Za2, Zb2, r1, r2, r3, r4, ?_⟩
      have w1 : w64 ((w64 ((n : Int) - 1)) - (i : Int)) = ((n - 1 - i : Nat) : Int) := by rw [w64_id (x := (n : Int) - 1) (by omega) (by omega), w64_id (by omega) (by omega)]; omega
      refine El.step (fun _ _ => by rw [concourselaw15_PresenceOrder.l1]) ?_
      simp only [hmin, w1, inc_nat (show i ≤ 1000000 by omega), at_nat]
      exact El.ct (decide_eq_true (by omega)) (El.grd ⟨by omega, by omega⟩ (El.bind (Ev.el ⟨0, fun k _ => hm k⟩) (El.bind p1.el (El.grd ⟨by omega, by omega⟩ (El.bind (Ev.el ⟨0, fun k _ => hm k⟩) (El.bind p2.el (El.grd ⟨by omega, by omega⟩ (El.bind (Ev.el ⟨0, fun k _ => hm2 k⟩) (El.bind p3.el G))))))))) 
    · obtain rfl : i = n := by omega
      exact ih i ta tb Za Zb Ra Rb Sa Sb (by omega) (by omega)
theorem order_l0 {a1 : Int} {f : Nat} (hn : n ≤ 10) (hnl : n ≤ a0.length) (hmin : min (a0.length : Int) 10 = (n : Int)) (hf : 0 < n → f < n ∧ concourseref01_Around.f a1 (n : Int) = some (f : Int)) (hmd : ∀ i, i < a0.length → OkE (md i) ∧ ∀ k, concourseref15_Made.f k (a0.getD i default) = some (md i)) : ∀ (d i : Nat) (t : PTab) (Z : List (Edu × Int)), Rel t Z i → Spec (Z.map (·.1)) (fun x => ∃ j, j < i ∧ x = md ((f + j) % n)) → 2 * n - i ≤ d → i ≤ 2 * n →
    ∃ q t' Z', Rel t' Z' (2 * n) ∧ Spec (Z'.map (·.1)) (fun x => ∃ j, j < 2 * n ∧ x = md ((f + j) % n)) ∧ El (fun k j => concourselaw15_PresenceOrder.l0 k a0 a1 j (i : Int) t) (((2 * n : Nat) : Int), q, t') := by
  have w0 : w64 (2 * (n : Int)) = ((2 * n : Nat) : Int) := by rw [w64_id (by omega) (by omega)]; omega
  intro d
  induction d with
  | zero =>
    intro i t Z R S hd hi
    obtain rfl : i = 2 * n := by omega
    refine ⟨decide (((2 * n : Nat) : Int) < w64 (2 * (min (a0.length : Int) 10))), t, Z, R, S, ?_⟩
    refine El.step (fun _ _ => by rw [concourselaw15_PresenceOrder.l0]) ?_
    refine El.cf (decide_eq_false ?_) El.pure
    rw [hmin, w0]; omega
  | succ d ih =>
    intro i t Z R S hd hi
    by_cases h : i < 2 * n
    · obtain ⟨hf1, hf2⟩ := hf (by omega)
      have hlt : (f + i) % n < n := Nat.mod_lt _ (by omega)
      obtain ⟨he, hm⟩ := hmd ((f + i) % n) (by omega)
      obtain ⟨Z', b, t', _, p2, R', S'⟩ := put_spec (S' := fun x => ∃ j, j < i + 1 ∧ x = md ((f + j) % n)) R (by omega) he S (fun x => by
        constructor
        · rintro ⟨j, j1, j2⟩
          rcases Nat.lt_or_ge j i with k | k
          · exact .inr ⟨j, k, j2⟩
          · obtain rfl : j = i := by omega
            exact .inl j2
        · rintro (e | ⟨j, j1, j2⟩)
          · exact ⟨i, by omega, e⟩
          · exact ⟨j, by omega, j2⟩)
      obtain ⟨q, t2, Z2, r1, r2, G⟩ := ih (i + 1) t' Z' R' S' (by omega) (by omega)
      refine ⟨q, t2, Z2, r1, r2, ?_⟩
      have w1 : (w64 ((f : Int) + (i : Int))).tmod (n : Int) = (((f + i) % n : Nat) : Int) := by
        rw [w64_id (by omega) (by omega), Int.tmod_eq_emod_of_nonneg (by omega), ← Int.natCast_add, ← Int.natCast_emod]
      refine El.step (fun _ _ => by rw [concourselaw15_PresenceOrder.l0]) ?_
      simp only [hmin, w0, inc_nat (show i ≤ 1000000 by omega)]
      refine El.ct (decide_eq_true (by omega)) (El.bind (Ev.el (Ev.of hf2)) (El.grd (by omega) ?_))
      simp only [w1, at_nat]
      exact El.grd ⟨by omega, by omega⟩ (El.bind (Ev.el ⟨0, fun k _ => hm k⟩) (El.bind p2.el G))
    · obtain rfl : i = 2 * n := by omega
      exact ih (2 * n) t Z R S (by omega) (by omega)
end
theorem PresenceOrder_pure (a0 : List Edu) (a1 : Int) (a2 : Int) (k0 : (fun xs : List Edu => xs.length ≤ maxLen ∧ ∀ x ∈ xs, Edu.ok x) a0) (k1 : (fun n => (Lit.int .i64 n).wf = true) a1) (k2 : (fun n => (Lit.int .i64 n).wf = true) a2) : ∃ k, concourselaw15_PresenceOrder.f k a0 a1 a2 = some true := by
  obtain ⟨_, hok⟩ := k0
  have hex : ∀ i, ∃ e, i < a0.length → OkE e ∧ ∀ k, concourseref15_Made.f k (a0.getD i default) = some e := fun i => by
    by_cases h : i < a0.length
    · obtain ⟨e, h1, h2⟩ := made_ok (wf_of (hok _ (getD_mem (d := default) h)))
      exact ⟨e, fun _ => ⟨h1, h2⟩⟩
    · exact ⟨default, fun k => absurd k h⟩
  obtain ⟨md, hmd⟩ := Classical.axiomOfChoice hex
  obtain ⟨n, hn⟩ : ∃ n, n = min a0.length 10 := ⟨_, rfl⟩
  have hmin : min (a0.length : Int) 10 = (n : Int) := by omega
  have hf : ∃ f : Nat, 0 < n → f < n ∧ concourseref01_Around.f a1 (n : Int) = some (f : Int) := by
    by_cases h : 0 < n
    · obtain ⟨r, r1, r2, r3⟩ := around_ev (m := (n : Int)) (i64_of k1) (by omega) (by omega)
      exact ⟨r.toNat, fun _ => ⟨by omega, by rw [r1]; congr 1; omega⟩⟩
    · exact ⟨0, fun k => absurd k h⟩
  obtain ⟨f, hf⟩ := hf
  obtain ⟨q1, ta, tb, Za, Zb, Ra, Rb, Sa, Sb, G1⟩ := order_l1 (n := n) (by omega) (by omega) hmin hmd n 0 _ _ [] [] rel_new rel_new (by refine ⟨fun x hx => (by cases hx), fun y ⟨j, h, _⟩ => ?_⟩; omega) (by refine ⟨fun x hx => (by cases hx), fun y ⟨j, h, _⟩ => ?_⟩; omega) (by omega) (by omega)
  obtain ⟨q2, tc, Zc, Rc, Sc, G2⟩ := order_l0 (n := n) (by omega) (by omega) hmin hf hmd (2 * n) 0 _ [] rel_new (by refine ⟨fun x hx => (by cases hx), fun y ⟨j, h, _⟩ => ?_⟩; omega) (by omega) (by omega)
  have ok : ∀ {t : PTab} {Z : List (Edu × Int)} {m : Nat}, Rel t Z m → ∀ x ∈ Z.map (·.1), OkE x := fun R x hx => by obtain ⟨q, hq, rfl⟩ := List.mem_map.1 hx; exact R.ok q hq
  have eb : Zb.map (·.1) = Za.map (·.1) := by
    refine Spec.uniq (S := fun x => ∃ j, j < n ∧ x = md j) ?_ Sa Rb.srt Ra.srt (ok Rb) (ok Ra)
    have e : (fun x => ∃ j, j < n ∧ x = md (n - 1 - j)) = fun x => ∃ j, j < n ∧ x = md j := by
      funext x
      refine propext ⟨fun ⟨j, j1, j2⟩ => ⟨n - 1 - j, by omega, j2⟩, fun ⟨j, j1, j2⟩ => ⟨n - 1 - j, by omega, ?_⟩⟩
      rw [j2]; congr 1; omega
    rw [← e]; exact Sb
  have ec : Zc.map (·.1) = Za.map (·.1) := by
    refine Spec.uniq (S := fun x => ∃ j, j < n ∧ x = md j) ?_ Sa Rc.srt Ra.srt (ok Rc) (ok Ra)
    have e : (fun x => ∃ j, j < 2 * n ∧ x = md ((f + j) % n)) = fun x => ∃ j, j < n ∧ x = md j := by
      funext x
      refine propext ⟨fun ⟨j, j1, j2⟩ => ⟨(f + j) % n, Nat.mod_lt _ (by omega), j2⟩, fun ⟨j, j1, j2⟩ => ?_⟩
      have hfn := (hf (by omega)).1
      refine ⟨if f ≤ j then j - f else j + n - f, by split <;> omega, ?_⟩
      rw [j2]
      congr 1
      split
      · rw [show f + (j - f) = j by omega, Nat.mod_eq_of_lt j1]
      · rw [show f + (j + n - f) = j + n by omega, Nat.add_mod_right, Nat.mod_eq_of_lt j1]
    rw [← e]; exact Sc
  have la : (Za.map (·.1)).length ≤ 100 := by rw [List.length_map]; have := Ra.ln; omega
  have alla : presence_Table_All.f ta = some (Za.map (·.1)) := by rw [← Ra.fl]; exact all_eq (by rw [Ra.fl]; omega)
  have allb : presence_Table_All.f tb = some (Za.map (·.1)) := by rw [← eb, ← Rb.fl]; exact all_eq (by rw [Rb.fl, eb]; omega)
  have allc : presence_Table_All.f tc = some (Za.map (·.1)) := by rw [← ec, ← Rc.fl]; exact all_eq (by rw [Rc.fl, ec]; omega)
  have hsame := sameedus_refl (l := Za.map (·.1)) (by omega)
  have v0 := thereV_le (L := Za.map (·.1)) (x := a2)
  have hst := sametexts_refl (vs := thereV (Za.map (·.1)) a2) (by omega)
  have v2 := refthere_ev (L := Za.map (·.1)) (T := Za.map (·.2)) (at_ := a2) (by omega) (rel_ok Ra)
  have th : ∀ h : HHeap, Ev (fun k => presence_Table_There.f k ⟨Za.map (·.1), h⟩ a2) (thereV (Za.map (·.1)) a2) := fun h => there_ev (by omega) (rel_ok Ra)
  obtain ⟨fa, ha⟩ := ta
  obtain ⟨fb, hb⟩ := tb
  obtain ⟨fc, hc⟩ := tc
  obtain rfl : fa = Za.map (·.1) := Ra.fl
  obtain rfl : fb = Za.map (·.1) := Rb.fl.trans eb
  obtain rfl : fc = Za.map (·.1) := Rc.fl.trans ec
  have H : Ev (fun k => concourselaw15_PresenceOrder.f k a0 a1 a2) true := by
    unfold concourselaw15_PresenceOrder.f
    exact Ev.bind (Ev.of new_eq) (Ev.bind (Ev.of new_eq) (Ev.bind (Ev.of new_eq) (Ev.bind G1.diag (Ev.bind G2.diag (Ev.bind (Ev.of alla) (Ev.bind hsame (Ev.ct rfl (Ev.bind (Ev.of allb) (Ev.bind hsame (Ev.ct rfl (Ev.bind (Ev.of allc) (Ev.bind hsame (Ev.ct rfl (Ev.bind (th ha) (Ev.bind v2 (Ev.bind hst (Ev.ct rfl (Ev.bind (th hb) (Ev.bind (th ha) (Ev.bind hst (Ev.ct rfl (Ev.bind (th hc) (Ev.bind (th ha) (Ev.bind hst (Ev.ct rfl (Ev.bind lives_ev Ev.pure))))))))))))))))))))))))))
  exact H.ex
end Go.Proofs.YtegmafgodoikiaaGreat
