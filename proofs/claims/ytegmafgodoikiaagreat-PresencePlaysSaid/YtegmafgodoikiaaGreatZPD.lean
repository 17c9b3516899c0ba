/- Plain: where an EDU stands. -/
import Derived.Test.YtegmafgodoikiaaGreatZPB
set_option linter.all false
set_option maxRecDepth 10000
namespace Go.Proofs.YtegmafgodoikiaaGreat
open Go Go.Sp
/-- Users, in their row. -/
def keyC (a b : Edu) : Int := cmpS a.fUser b.fUser
def same (a b : Edu) : Prop := a.fUser = b.fUser ∧ a.fUser = b.fUser
instance sameD (a b : Edu) : Decidable (same a b) := inferInstanceAs (Decidable (_ ∧ _))
def ltK (a b : Edu) : Bool := sLt a.fUser b.fUser
theorem keyC_eq {a b : Edu} : keyC a b = 0 ↔ same a b := by unfold keyC same; rw [cmpS_eq]; simp
theorem keyC_lt {a b : Edu} : keyC a b < 0 ↔ ltK a b = true := cmpS_lt
theorem keyC_gt {a b : Edu} : 0 < keyC a b ↔ ltK b a = true := cmpS_gt
theorem ltK_trans {a b c : Edu} (h : ltK a b = true) (k : ltK b c = true) : ltK a c = true := sLt_trans h k
theorem ltK_asymm {a b : Edu} (h : ltK a b = true) : ltK b a = false := sLt_asymm h
theorem ltK_not_same {a b : Edu} (h : ltK a b = true) : ¬ same a b := fun k => sLt_ne h k.1
theorem same_ltK {a b c : Edu} (h : same a b) : ltK a c = ltK b c := by unfold ltK; rw [h.1]
theorem place1_eq (a : Edu) (u : ByteArray) : presence_Table_place_1.f a u = some (cmpS a.fUser u) := by
  unfold presence_Table_place_1.f; rw [cmpstr]; rfl
section
variable {l : List Edu} {e : ByteArray} {c : Edu → Int} {g : Nat → Edu → ByteArray → Option Int}
theorem search_loop (hg : ∀ x, Ev (fun k => g k x e) (c x)) (hl : l.length ≤ 1000000) (hs : ∀ i j, i < j → j < l.length → c (l.getD j default) < 0 → c (l.getD i default) < 0) : ∀ d i j : Nat, j - i ≤ d → i ≤ j → j ≤ l.length → (∀ m, m < i → c (l.getD m default) < 0) → (∀ m, j ≤ m → m < l.length → 0 ≤ c (l.getD m default)) →
    ∃ p : Nat, p ≤ l.length ∧ (∀ m, m < p → c (l.getD m default) < 0) ∧ (∀ m, p ≤ m → m < l.length → 0 ≤ c (l.getD m default)) ∧ El (fun k q => slices_BinarySearchFunc_Edu_string.l0 k l e (g k) q (i : Int) (j : Int)) ((p : Int), (p : Int), false) := by
  intro d
  induction d with
  | zero =>
    intro i j hd hij hj h1 h2
    obtain rfl : i = j := by omega
    refine ⟨i, hj, h1, h2, ?_⟩
    refine El.step (fun _ _ => by rw [slices_BinarySearchFunc_Edu_string.l0]) ?_
    have : ¬ ((i : Int) < (i : Int)) := by omega
    rw [decide_eq_false this]
    exact El.cf rfl El.pure
  | succ d ih =>
    intro i j hd hij hj h1 h2
    by_cases hlt : i < j
    · have hm : w64 ((IntKind.u64.wrap (w64 ((i : Int) + (j : Int)))).fdiv 2) = (((i + j) / 2 : Nat) : Int) := by rw [mid_id (by omega) (by omega) (by omega)]; omega
      have hw : w64 ((((i + j) / 2 : Nat) : Int) + 1) = (((i + j) / 2 + 1 : Nat) : Int) := by rw [w64_id (by omega) (by omega)]; omega
      by_cases hc : c (l.getD ((i + j) / 2) default) < 0
      · obtain ⟨p, k1, k2, k3, k4⟩ := ih ((i + j) / 2 + 1) j (by omega) (by omega) hj (fun m hm => by
          rcases Nat.lt_or_ge m ((i + j) / 2) with h | h
          · exact hs m _ h (by omega) hc
          · obtain rfl : m = (i + j) / 2 := by omega
            exact hc) h2
        refine ⟨p, k1, k2, k3, ?_⟩
        refine El.step (fun _ _ => by rw [slices_BinarySearchFunc_Edu_string.l0]) ?_
        simp only [hm, hw]
        refine El.ct (by simpa using hlt) (El.grd ⟨by omega, by omega⟩ (El.bind (a := c (l.getD ((i + j) / 2) default)) ?_ (El.ct (by simpa using hc) k4)))
        rw [at_nat]
        exact (hg _).el
      · obtain ⟨p, k1, k2, k3, k4⟩ := ih i ((i + j) / 2) (by omega) (by omega) (by omega) h1 (fun m hm1 hm2 => by
          rcases Nat.lt_or_ge ((i + j) / 2) m with h | h
          · by_cases hcm : c (l.getD m default) < 0
            · exact absurd (hs _ m h hm2 hcm) hc
            · omega
          · obtain rfl : m = (i + j) / 2 := by omega
            omega)
        refine ⟨p, k1, k2, k3, ?_⟩
        refine El.step (fun _ _ => by rw [slices_BinarySearchFunc_Edu_string.l0]) ?_
        simp only [hm, hw]
        refine El.ct (by simpa using hlt) (El.grd ⟨by omega, by omega⟩ (El.bind (a := c (l.getD ((i + j) / 2) default)) ?_ (El.cf (by simpa using hc) k4)))
        rw [at_nat]
        exact (hg _).el
    · exact ih i j (by omega) hij hj h1 h2
theorem search_ev (hg : ∀ x, Ev (fun k => g k x e) (c x)) (hl : l.length ≤ 1000000) (hs : ∀ i j, i < j → j < l.length → c (l.getD j default) < 0 → c (l.getD i default) < 0) :
    ∃ p : Nat, p ≤ l.length ∧ (∀ m, m < p → c (l.getD m default) < 0) ∧ (∀ m, p ≤ m → m < l.length → 0 ≤ c (l.getD m default)) ∧ Ev (fun k => slices_BinarySearchFunc_Edu_string.f k l e (g k)) ((p : Int), decide (p < l.length) && (c (l.getD p default) == 0)) := by
  obtain ⟨p, k1, k2, k3, k4⟩ := search_loop hg hl hs l.length 0 l.length (by omega) (by omega) (Nat.le_refl _) (fun m hm => by omega) (fun m h1 h2 => by omega)
  refine ⟨p, k1, k2, k3, ?_⟩
  unfold slices_BinarySearchFunc_Edu_string.f
  refine Ev.bind k4.diag ?_
  by_cases hp : p < l.length
  · rw [decide_eq_true hp]
    refine Ev.ct (by simpa using hp) (Ev.grd ⟨by omega, by show (p : Int) < _; omega⟩ (Ev.bind (a := c (l.getD p default)) ?_ ?_))
    · rw [at_nat]; exact hg _
    · rw [Bool.true_and]; exact Ev.pure
  · rw [decide_eq_false hp, Bool.false_and]
    exact Ev.cf (by simpa using hp) Ev.pure
end
theorem cmpE_anti {a b : Edu} (ha : OkE a) (hb : OkE b) (hs : same a b) (h : cmpE a b ≤ 0) (k : cmpE b a ≤ 0) : a = b := by
  rw [cmpE_le] at h k
  have h1 : a.fStamp = b.fStamp := by rcases h with h | h <;> rcases k with k | k <;> omega
  have h2 : ofNums (eduB a) = ofNums (eduB b) := by
    rcases h with h | ⟨_, h⟩
    · omega
    · rcases k with k | ⟨_, k⟩
      · omega
      · exact sLt_conn k h
  have h3 := ofNums_inj (eduB_bytes ha.sm) (eduB_bytes hb.sm) h2
  obtain ⟨k6, k2, k3, k4⟩ := eduB_tail ha.sm hb.sm h1 h3 (ha.room.trans hb.room.symm) hs.1 (ha.event.trans hb.event.symm) (ha.thread.trans hb.thread.symm)
  have k5 := h1
  obtain ⟨a1, a2, a3, a4, a5, a6, a7, a8, a9, a10, a11⟩ := a
  obtain ⟨b1, b2, b3, b4, b5, b6, b7, b8, b9, b10, b11⟩ := b
  obtain ⟨e2, _⟩ := hs
  have e1 := ha.room.trans hb.room.symm
  have e3 := ha.kind.trans hb.kind.symm
  have e4 := ha.event.trans hb.event.symm
  have e5 := ha.thread.trans hb.thread.symm
  have e6 := ha.priv.trans hb.priv.symm
  simp only at e1 e2 e3 e4 e5 e6 k2 k3 k4 k5 k6
  subst e1 e2 e3 e4 e5 e6 k2 k3 k4 k5 k6
  rfl
end Go.Proofs.YtegmafgodoikiaaGreat
