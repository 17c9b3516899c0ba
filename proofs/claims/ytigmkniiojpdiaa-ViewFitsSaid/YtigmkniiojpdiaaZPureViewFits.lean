/- Plain: whether an event is of a thread is told alike. -/
import Derived.Test.YtigmkniiojpdiaaZVH
set_option linter.all false
set_option maxRecDepth 10000
namespace Go.Proofs.Ytigmkniiojpdiaa
open Go Go.Sp
theorem fits_ev {v : VView} {w : RView} (hr : RelV v w) (hl : w.fD.length ≤ 18) {room : ByteArray} (hd : (ofR w room).fL.length ≤ 9) (hp : ∀ i, i < (ofR w room).fL.length → (ev (ofR w room).fL i).fParents.length ≤ 4) (id th : ByteArray) :
    ∃ c, Ev (fun _ => view_View_Fits.f v room id th) c ∧ Ev (fun k => concourseref10_Fits.f k w room id th) c := by
  obtain ⟨m, h1, h2, _⟩ := relV_of hr room
  have hat := at_ix (d := ofR w room) id (by show _ ≤ 9223372036854775807; omega)
  unfold view_View_Fits.f concourseref10_Fits.f dag_Dag_Event.f dag_Dag_Has.f
  rcases rel_ix h2 id with ⟨q, h⟩ | ⟨j, q, hj, he, nd, h, hnd⟩
  · refine ⟨4, Ev.bind (Ev.of h1) (Ev.bind (Ev.of (by rw [h]; rfl)) (Ev.ct rfl Ev.pure)), Ev.bind (of_ev (by omega)) (Ev.bind hat (Ev.ct (by rw [q]; rfl) Ev.pure))⟩
  · have hev : dag_own.f (((mget m.fnodes id).getD default).fe) = some (ev (ofR w room).fL j) := by
      have h4 := hp j hj
      rw [h]
      show dag_own.f nd.fe = _
      rw [hnd]
      unfold dag_own.f slices_Clone_string.f
      simp only [grd]
      rw [if_pos ⟨by omega, by omega⟩]; rfl
    have e1 : (some (!(mget m.fnodes id).isNone)) = some true := by rw [h]; rfl
    have pre : ∀ {y : Int}, Ev (fun _ : Nat => (fun t656 : Event × Bool => cond (!t656.2) (some 4) (cond (decide (th = (⟨#[]⟩ : ByteArray))) (cond (decide (th = (⟨#[]⟩ : ByteArray))) (some 0) (some 7)) (cond (decide (th = (⟨#[109, 97, 105, 110]⟩ : ByteArray))) (cond (decide (t656.1.fThread = (⟨#[]⟩ : ByteArray))) (cond (decide (t656.1.fThread = (⟨#[]⟩ : ByteArray))) (some 0) (some 7)) (cond (decide (th = id)) (cond (decide (th = id)) (some 0) (some 7)) (cond (decide (th = t656.1.fThread)) (some 0) (some 7)))) (cond (decide (th = id)) (cond (decide (th = id)) (some 0) (some 7)) (cond (decide (th = t656.1.fThread)) (some 0) (some 7)))))) (ev (ofR w room).fL j, true)) y → Ev (fun _ : Nat => (view_View_room.f v room).bind fun t651 => ((some (!(mget t651.fnodes id).isNone)).bind fun t641 => cond (!t641) (some ((⟨(⟨#[]⟩ : ByteArray), (⟨#[]⟩ : ByteArray), ([] : List ByteArray), (⟨#[]⟩ : ByteArray), (⟨#[]⟩ : ByteArray), 0⟩ : Event), false)) (grd ((mget t651.fnodes id).isSome = true) ((dag_own.f (((mget t651.fnodes id).getD default).fe)).bind fun t649 => some (t649, true)))).bind fun t656 => cond (!t656.2) (some 4) (cond (decide (th = (⟨#[]⟩ : ByteArray))) (cond (decide (th = (⟨#[]⟩ : ByteArray))) (some 0) (some 7)) (cond (decide (th = (⟨#[109, 97, 105, 110]⟩ : ByteArray))) (cond (decide (t656.1.fThread = (⟨#[]⟩ : ByteArray))) (cond (decide (t656.1.fThread = (⟨#[]⟩ : ByteArray))) (some 0) (some 7)) (cond (decide (th = id)) (cond (decide (th = id)) (some 0) (some 7)) (cond (decide (th = t656.1.fThread)) (some 0) (some 7)))) (cond (decide (th = id)) (cond (decide (th = id)) (some 0) (some 7)) (cond (decide (th = t656.1.fThread)) (some 0) (some 7)))))) y := fun hy =>
      Ev.bind (Ev.of h1) (Ev.bind (Ev.bind (Ev.of e1) (Ev.cf rfl (Ev.grd (by rw [h]; rfl) (Ev.bind (Ev.of hev) Ev.pure)))) hy)
    have pre2 : ∀ {y : Int} {G : Nat → Option Int}, Ev G y → Ev (fun k => (concourseref10_Of.f k w room).bind fun t673 => (concourseref07_At.f k t673 id).bind fun t676 => cond (decide (t676 < 0)) (some 4) (grd ((0 : Int) ≤ t676 ∧ t676 < (t673.fL.length : Int)) (G k))) y := fun hy =>
      Ev.bind (of_ev (by omega)) (Ev.bind hat (Ev.cf (by rw [q]; exact decide_eq_false (by omega)) (Ev.grd ⟨by omega, by omega⟩ hy)))
    -- the two say the same
    have hk : Event.K.at (ofR w room).fL (ix (ofR w room).fL id) = ev (ofR w room).fL j := by rw [q]; exact ev_at hj
    generalize ht : (ev (ofR w room).fL j).fThread = own at *
    refine ⟨if th = ⟨#[]⟩ ∨ th = id ∨ (th = ⟨#[109, 97, 105, 110]⟩ ∧ own = ⟨#[]⟩) ∨ (own ≠ ⟨#[]⟩ ∧ th = own) then 0 else 7, pre (Ev.of ?_), Ev.bind (of_ev (by omega)) (Ev.bind hat (Ev.cf (by rw [q]; exact decide_eq_false (by omega)) (Ev.grd ⟨by omega, by omega⟩ (Ev.of ?_))))⟩
    · simp only [ht]
      by_cases c1 : th = ⟨#[]⟩
      · simp [c1]
      · by_cases c2 : th = id
        · by_cases c3 : th = ⟨#[109, 97, 105, 110]⟩ <;> by_cases c4 : own = ⟨#[]⟩ <;> simp [c1, ← c2, c3, c4] <;> simp_all
        · by_cases c3 : th = ⟨#[109, 97, 105, 110]⟩
          · by_cases c4 : own = ⟨#[]⟩
            · simp [c1, c2, c3, c4]
            · by_cases c5 : th = own <;> simp_all
          · by_cases c5 : th = own
            · have c4 : ¬ own = ⟨#[]⟩ := fun h => c1 (c5.trans h)
              simp_all
            · simp [c1, c2, c3, c5]
    · rw [hk, ht]
      by_cases c1 : th = ⟨#[]⟩
      · simp [c1]
      · by_cases c2 : th = id
        · simp [c1, c2]
        · by_cases c3 : th = ⟨#[109, 97, 105, 110]⟩
          · by_cases c4 : own = ⟨#[]⟩
            · simp [c1, c2, c3, c4]
            · by_cases c5 : th = own <;> simp_all
          · by_cases c4 : own = ⟨#[]⟩ <;> by_cases c5 : th = own <;> simp_all
theorem chain_par {room : ByteArray} {L : List Event} (hc : Chain room L) {i : Nat} (hi : i < L.length) : (ev L i).fParents.length ≤ 4 := by
  have h := (hc i hi).2.2
  unfold code at h
  cases hm : mayB7 (ev L i) with
  | false => rw [hm] at h; simp at h
  | true => unfold mayB7 at hm; simp at hm; exact hm.2.2.2.1
theorem few_ev (s : ByteArray) : ∃ r, concourseref01_Few.f s 6 = some r := by
  unfold concourseref01_Few.f
  by_cases h : (6 : Int) < (s.size : Int)
  · rw [decide_eq_true h]
    simp only [cond_true, grd]
    rw [if_pos ⟨by omega, by omega, by omega⟩]
    exact ⟨_, rfl⟩
  · rw [decide_eq_false h]; exact ⟨_, rfl⟩
theorem threadOf_at (k : Nat) (hk : k < 11) : ∃ r, Ev (fun n => concourseref01_ThreadOf.f n (k : Int)) r := by
  have h1 : concourseref01_Around.f (k : Int) 11 = some (k : Int) := around_small hk (by decide)
  unfold concourseref01_ThreadOf.f
  rw [h1]
  simp only [Option.bind_some]
  by_cases h9 : k = 9
  · exact ⟨_, Ev.ct (by subst h9; rfl) Ev.pure⟩
  · by_cases h10 : k = 10
    · exact ⟨_, Ev.cf (by subst h10; rfl) (Ev.ct (by subst h10; rfl) Ev.pure)⟩
    · exact ⟨_, Ev.cf (by simp; omega) (Ev.cf (by simp; omega) (Ev.bind (eventOf_at k (by omega)) Ev.pure))⟩
theorem tmod_small {x m : Nat} : ((x : Int).tmod (m : Int)) = ((x % m : Nat) : Int) := by
  rw [Int.tmod_eq_emod_of_nonneg (by omega)]; rfl
section
variable {v : VView} {w : RView} (hf : ∀ room id th : ByteArray, ∃ c, Ev (fun _ => view_View_Fits.f v room id th) c ∧ Ev (fun k => concourseref10_Fits.f k w room id th) c) (s : ByteArray)
include hf
theorem law2 (room id : ByteArray) : ∀ n x : Nat, 12 - x = n → x ≤ 12 → El (fun k j => concourselaw10_ViewFits.l2 k (some v, w) s room id j (x : Int)) (.inl (id, 12, false)) := by
  intro n
  induction n with
  | zero =>
    intro x hd hx
    obtain rfl : x = 12 := by omega
    refine El.step (fun _ _ => by rw [concourselaw10_ViewFits.l2]) ?_
    exact El.cf rfl El.pure
  | succ n ih =>
    intro x hd hx
    have ih2 := ih (x + 1) (by omega) (by omega)
    obtain ⟨th, hth⟩ := threadOf_at (x % 11) (Nat.mod_lt _ (by decide))
    refine El.step (fun _ _ => by rw [concourselaw10_ViewFits.l2]) ?_
    rw [show (11 : Int) = ((11 : Nat) : Int) from rfl, tmod_small, w64_id (x := (x : Int) + 1) (by omega) (by omega)]
    refine El.ct (decide_eq_true (by omega)) (El.bind hth.el (El.cond (fun _ => ?_) fun _ => ?_))
    · obtain ⟨c, c1, c2⟩ := hf room id s
      exact El.bind c1.el (El.bind c2.el (El.cf (by simp) ih2))
    · obtain ⟨c, c1, c2⟩ := hf room id th
      exact El.bind c1.el (El.bind c2.el (El.cf (by simp) ih2))
theorem law1 (room : ByteArray) : ∀ n x : Nat, 10 - x = n → x ≤ 10 → El (fun k j => concourselaw10_ViewFits.l1 k (some v, w) s room j (x : Int)) (.inl (room, 10, false)) := by
  intro n
  induction n with
  | zero =>
    intro x hd hx
    obtain rfl : x = 10 := by omega
    refine El.step (fun _ _ => by rw [concourselaw10_ViewFits.l1]) ?_
    exact El.cf rfl El.pure
  | succ n ih =>
    intro x hd hx
    have ih2 := ih (x + 1) (by omega) (by omega)
    refine El.step (fun _ _ => by rw [concourselaw10_ViewFits.l1]) ?_
    rw [w64_id (x := (x : Int) + 1) (by omega) (by omega)]
    refine El.ct (decide_eq_true (by omega)) (El.bind (a := .inl ((if x = 9 then s else evs (x % 9)), (12 : Int), false)) ?_ (by simp only [fall]; exact ih2))
    rw [show (9 : Int) = ((9 : Nat) : Int) from rfl, tmod_small]
    refine El.bind (eventOf_at (x % 9) (Nat.mod_lt _ (by decide))).el ?_
    refine El.bind (a := if x = 9 then s else evs (x % 9)) ?_ (law2 hf s room _ _ 0 rfl (by omega)).diag.el
    by_cases h9 : x = 9
    · rw [if_pos h9]; exact El.ct (by subst h9; rfl) El.pure
    · rw [if_neg h9]; exact El.cf (by simp; omega) El.pure
theorem law0 : El (fun k j => concourselaw10_ViewFits.l0 k (some v, w) s j 0) (.inl (2, false)) := by
  have r0 : concourseref01_RoomOf.f 0 = some roomR := rfl
  have r1 : concourseref01_RoomOf.f 1 = some roomQ := rfl
  refine El.step (fun _ _ => by rw [concourselaw10_ViewFits.l0]) ?_
  refine El.ct rfl (El.bind (El.bind (Ev.of r0).el (law1 hf s roomR _ 0 rfl (by omega)).diag.el) ?_)
  simp only [fall]
  refine El.step (fun _ _ => by rw [concourselaw10_ViewFits.l0]) ?_
  refine El.ct rfl (El.bind (El.bind (Ev.of r1).el (law1 hf s roomQ _ 0 rfl (by omega)).diag.el) ?_)
  simp only [fall]
  refine El.step (fun _ _ => by rw [concourselaw10_ViewFits.l0]) ?_
  exact El.cf rfl El.pure
end
theorem lives_ev : Ev (fun k => concourselaw10_lives.f k) true := Ev.add 40 fun m => by kernel_rfl
theorem ViewFits_pure (a0 : List GMade) (a1 : List GMade) (a2 : ByteArray) (k0 : (fun xs : List GMade => xs.length ≤ maxLen ∧ ∀ x ∈ xs, GMade.ok x) a0) (k1 : (fun xs : List GMade => xs.length ≤ maxLen ∧ ∀ x ∈ xs, GMade.ok x) a1) (k2 : (fun s : ByteArray => s.size ≤ maxLen) a2) : ∃ k, concourselaw10_ViewFits.f k a0 a1 a2 = some true := by
  suffices h : Ev (fun k => concourselaw10_ViewFits.f k a0 a1 a2) true from h.ex
  obtain ⟨v, w, A, B, h1, h2, h3, h4, h5, h6, h7, h8, h9, h10⟩ := build_ev k0 k1
  have hf : ∀ room id th : ByteArray, ∃ c, Ev (fun _ => view_View_Fits.f v room id th) c ∧ Ev (fun k => concourseref10_Fits.f k w room id th) c := fun room id th => by
    have : (ofR w room).fL.length ≤ 9 ∧ ∀ i, i < (ofR w room).fL.length → (ev (ofR w room).fL i).fParents.length ≤ 4 := by
      by_cases e1 : room = roomR
      · subst e1; rw [h8]; exact ⟨h4.len, fun i hi => chain_par h5 hi⟩
      · by_cases e2 : room = roomQ
        · subst e2; rw [h9]; exact ⟨h6.len, fun i hi => chain_par h7 hi⟩
        · rw [h10 room e1 e2]; exact ⟨by simp, fun i hi => by simp at hi⟩
    exact fits_ev h2 h3 this.1 this.2 id th
  obtain ⟨s, hs⟩ := few_ev a2
  obtain ⟨c, c1, c2⟩ := hf s (evs 0) ⟨#[]⟩
  unfold concourselaw10_ViewFits.f
  refine Ev.bind h1 (Ev.cf rfl (Ev.bind (Ev.of hs) (Ev.bind (law0 hf s).diag ?_)))
  simp only [fall]
  refine Ev.bind (eventOf_at 0 (by decide)) (Ev.bind c1 (Ev.bind (eventOf_at 0 (by decide)) (Ev.bind c2 (Ev.ct (by simp) (Ev.bind lives_ev Ev.pure)))))
end Go.Proofs.Ytigmkniiojpdiaa
