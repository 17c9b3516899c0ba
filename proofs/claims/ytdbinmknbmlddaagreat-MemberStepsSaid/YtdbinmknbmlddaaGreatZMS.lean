/- Plain: events that are put behind all others. -/
import Derived.Test.YtdbinmknbmlddaaGreatZMO
import Derived.Test.YtdbinmknbmlddaaGreatZMH
set_option linter.all false
set_option maxRecDepth 10000
namespace Go.Proofs.YtdbinmknbmlddaaGreat
open Go Go.Sp
theorem dOf_up {t : Tab} : ∀ (ps : List ByteArray) (d : Int), d ≤ dOf t ps d
  | [], d => Int.le_refl _
  | p :: ps, d => by
    have := dOf_up (t := t) ps (max d (dpt t p + 1))
    show d ≤ dOf t ps (max d (dpt t p + 1))
    omega
theorem dOf_ge {t : Tab} {p : ByteArray} : ∀ (ps : List ByteArray) (d : Int), p ∈ ps → dpt t p + 1 ≤ dOf t ps d
  | [], d, h => by cases h
  | q :: ps, d, h => by
    show _ ≤ dOf t ps (max d (dpt t q + 1))
    rcases List.mem_cons.1 h with rfl | h
    · have := dOf_up (t := t) ps (max d (dpt t p + 1)); omega
    · exact dOf_ge ps _ h
theorem dep_child {L : List Event} (h : Good L) {c : Event} (hc : c ∈ L) {p : ByteArray} (hp : p ∈ c.fParents) : dpt (tb L) p + 1 ≤ dpt (tb L) c.fID := by
  obtain ⟨i, hi, rfl⟩ := mem_ev hc
  rw [dep_rec h hi]
  exact dOf_ge _ _ hp
theorem dpt_pre {A B : List Event} (h : Good A) {e : Event} (he : e ∈ A) : dpt (tb (A ++ B)) e.fID = dpt (tb A) e.fID := by
  obtain ⟨i, hi, rfl⟩ := mem_ev he
  obtain ⟨Z, hz⟩ := tb_pre A B
  have := tb_get h hi
  unfold dpt
  rw [hz, mget_app (by rw [this]; rfl)]
/-- Every event is no deeper than some head. -/
theorem head_deep {L : List Event} (hg : Good L) : ∀ n : Nat, ∀ e ∈ L, (L.length : Int) - dpt (tb L) e.fID ≤ n → ∃ h ∈ headsE L (allE (tb L)), dpt (tb L) e.fID ≤ dpt (tb L) h := by
  intro n
  induction n with
  | zero =>
    intro e he hn
    have hb := dpt_l L e.fID
    refine ⟨e.fID, ?_, Int.le_refl _⟩
    unfold headsE
    refine List.mem_map.2 ⟨e, List.mem_filter.2 ⟨(all_perm hg).mem_iff.2 he, ?_⟩, rfl⟩
    cases hp : isPar L e.fID with
    | false => rfl
    | true =>
      exfalso
      unfold isPar at hp
      obtain ⟨c, hc, hc2⟩ := List.any_eq_true.1 hp
      have := dep_child hg hc (inB_iff.1 hc2)
      have := dpt_l L c.fID
      omega
  | succ n ih =>
    intro e he hn
    cases hp : isPar L e.fID with
    | false =>
      refine ⟨e.fID, ?_, Int.le_refl _⟩
      unfold headsE
      exact List.mem_map.2 ⟨e, List.mem_filter.2 ⟨(all_perm hg).mem_iff.2 he, by rw [hp]; rfl⟩, rfl⟩
    | true =>
      unfold isPar at hp
      obtain ⟨c, hc, hc2⟩ := List.any_eq_true.1 hp
      have h1 := dep_child hg hc (inB_iff.1 hc2)
      obtain ⟨h, hh, hle⟩ := ih c hc (by omega)
      exact ⟨h, hh, by omega⟩
theorem heads_in {L : List Event} (hg : Good L) {h : ByteArray} (hh : h ∈ headsE L (allE (tb L))) : ∃ e ∈ L, e.fID = h := by
  unfold headsE at hh
  obtain ⟨e, he, rfl⟩ := List.mem_map.1 hh
  exact ⟨e, (all_perm hg).mem_iff.1 (List.mem_filter.1 he).1, rfl⟩
/-! names of the new ones -/
def dg (j : Nat) : ByteArray := ⟨#[UInt8.ofNat (48 + j)]⟩
def ys (j : Nat) : ByteArray := (⟨#[36, 121]⟩ : ByteArray) ++ dg j
def zs : ByteArray := ⟨#[36, 122]⟩
theorem decimal_at : ∀ k : Nat, k < 9 → Ev (fun n => concourseref01_Decimal.f n (k : Int)) (dg k) := by
  intro k hk
  refine Ev.add 2 fun m => ?_
  match k, hk with
  | 0, _ => rfl
  | 1, _ => rfl
  | 2, _ => rfl
  | 3, _ => rfl
  | 4, _ => rfl
  | 5, _ => rfl
  | 6, _ => rfl
  | 7, _ => rfl
  | 8, _ => rfl
theorem all9 {p : Nat → Bool} (h : (List.range 9).all p = true) {k : Nat} (hk : k < 9) : p k = true := List.all_eq_true.1 h k (List.mem_range.2 hk)
theorem ys_ok {j : Nat} (h : j < 9) : eventB (ys j) = true := all9 (p := fun j => eventB (ys j)) (by kernel_rfl) h
theorem evs_ys {q j : Nat} (hq : q < 9) (hj : j < 9) : sLt (evs q) (ys j) = true :=
  all9 (p := fun j => sLt (evs q) (ys j)) (all9 (p := fun q => (List.range 9).all fun j => sLt (evs q) (ys j)) (by kernel_rfl) hq) hj
theorem ys_ne {i j : Nat} (hi : i < 9) (hj : j < 9) (h : i ≠ j) : ys i ≠ ys j := fun e => by
  have := all9 (p := fun j => (i == j) || !decide (ys i = ys j)) (all9 (p := fun i => (List.range 9).all fun j => (i == j) || !decide (ys i = ys j)) (by kernel_rfl) hi) hj
  simp [e, h] at this
theorem zs_ok : eventB zs = true := by kernel_rfl
theorem zs_evs {q : Nat} (hq : q < 9) : evs q ≠ zs := fun e => by
  have := all9 (p := fun q => !decide (evs q = zs)) (by kernel_rfl) hq
  simp [e] at this
theorem zs_ys {q : Nat} (hq : q < 9) : ys q ≠ zs := fun e => by
  have := all9 (p := fun q => !decide (ys q = zs)) (by kernel_rfl) hq
  simp [e] at this
theorem ys_nil {q : Nat} (hq : q < 9) : ys q ≠ ⟨#[]⟩ := fun e => by
  have := all9 (p := fun q => !decide (ys q = (⟨#[]⟩ : ByteArray))) (by kernel_rfl) hq
  simp [e] at this
theorem ys_size {q : Nat} (hq : q < 9) : (ys q).size ≤ maxLen := by
  have := all9 (p := fun q => decide ((ys q).size ≤ 10)) (by kernel_rfl) hq
  have := of_decide_eq_true this
  show _ ≤ 9223372036854775807; omega
/-- An event without a thread may be added. -/
theorem code_zero {room : ByteArray} {L : List Event} {e : Event} (hm : mayB7 e = true) (hr : e.fRoom = room) (hn : ∀ x ∈ L, x.fID ≠ e.fID) (hp : ∀ p ∈ e.fParents, ∃ x ∈ L, x.fID = p) (ht : e.fThread = ⟨#[]⟩) : code ⟨room, L⟩ e = 0 := by
  unfold code
  rw [if_neg (by rw [hm]; exact fun h => by cases h), if_neg (fun h => h hr)]
  have h9 : ¬ 0 ≤ ix L e.fID := fun h => by
    rcases ix_rng L e.fID with ⟨k, _⟩ | ⟨j, _, hj, he⟩
    · omega
    · exact hn _ (ev_mem hj) he
  rw [if_neg h9]
  have ha : allp (fun i => decide (0 ≤ ix L (par e i))) 0 e.fParents.length = true := by
    rw [allp_iff]
    intro i _ hi
    have hpi : par e i ∈ e.fParents := by unfold par; rw [List.getD_eq_getElem?_getD, List.getElem?_eq_getElem hi]; exact List.getElem_mem hi
    obtain ⟨x, hx, hxe⟩ := hp _ hpi
    refine decide_eq_true ?_
    rcases ix_rng L (par e i) with ⟨_, k⟩ | ⟨j, k, _⟩
    · obtain ⟨q, hq, rfl⟩ := mem_ev hx
      exact absurd hxe (k q hq)
    · omega
  have ha' : ¬ (allp (fun i => decide (0 ≤ ix (⟨room, L⟩ : RDag).fL (par e i))) 0 e.fParents.length = false) := by
    show ¬ (allp (fun i => decide (0 ≤ ix L (par e i))) 0 e.fParents.length = false)
    rw [ha]; exact fun h => by cases h
  rw [if_neg ha', if_pos ht]
theorem may_simple {id room user : ByteArray} {ps : List ByteArray} {does : Int} (h1 : eventB id = true) (h2 : namedB room 33 = true) (h3 : namedB user 64 = true) (h4 : ps.length ≤ 4) (h5 : 0 ≤ does ∧ does ≤ 2) (h6 : ∀ p ∈ ps, eventB p = true ∧ p ≠ id) (h7 : SrtT ps) : mayB7 ⟨id, room, ps, ⟨#[]⟩, user, does⟩ = true := by
  unfold mayB7
  simp only [h1, h2, h3, Bool.true_and, Bool.and_eq_true, decide_eq_true_eq, allp_iff]
  refine ⟨h4, h5.1, h5.2, by unfold thrB; simp, fun i _ hi => ?_⟩
  have hpi : ∀ q, (hq : q < ps.length) → par ⟨id, room, ps, ⟨#[]⟩, user, does⟩ q = ps[q] := fun q hq => by unfold par; rw [List.getD_eq_getElem?_getD, List.getElem?_eq_getElem hq]; rfl
  unfold parB
  obtain ⟨a, b⟩ := h6 _ (List.getElem_mem hi)
  rw [hpi i hi]
  simp only [a, Bool.true_and, Bool.and_eq_true, Bool.not_eq_true', decide_eq_false_iff_not, Bool.or_eq_true, decide_eq_true_eq]
  refine ⟨b, ?_⟩
  by_cases h0 : i = 0
  · exact .inl h0
  · right
    rw [hpi (i - 1) (by omega)]
    exact List.pairwise_iff_getElem.1 h7 (i - 1) i (by omega) hi (by omega)
end Go.Proofs.YtdbinmknbmlddaaGreat
