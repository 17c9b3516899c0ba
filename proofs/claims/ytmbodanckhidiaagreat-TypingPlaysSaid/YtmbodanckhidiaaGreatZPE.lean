/- Plain: the heap's places, and its order. -/
import Derived.Test.YtmbodanckhidiaaGreatZPX
set_option linter.all false
set_option maxRecDepth 10000
namespace Go.Proofs.YtmbodanckhidiaaGreat
open Go Go.Sp
/-- Each entry's place is told, and no other. -/
structure Idx (h : HHeap) : Prop where
  fw : ∀ i, i < h.fl.length → mget h.fat (h.fl.getD i default).fKey = some (i : Int)
  bw : ∀ key v, mget h.fat key = some v → ∃ i : Nat, v = i ∧ i < h.fl.length ∧ (h.fl.getD i default).fKey = key
  nd : Nd h.fat
/-- So it is, but for a place i, where e belongs. -/
structure Hole (h : HHeap) (i : Nat) (e : HEnt) (n : Nat) (M : HEnt → Prop) : Prop where
  len : h.fl.length = n
  lt : i < n
  fw : ∀ m, m < n → m ≠ i → mget h.fat (h.fl.getD m default).fKey = some (m : Int)
  bw : ∀ key v, key ≠ e.fKey → mget h.fat key = some v → ∃ m : Nat, v = m ∧ m < n ∧ m ≠ i ∧ (h.fl.getD m default).fKey = key
  ne : ∀ m, m < n → m ≠ i → (h.fl.getD m default).fKey ≠ e.fKey
  nd : Nd h.fat
  mem : ∀ x, (x = e ∨ ∃ m, m < n ∧ m ≠ i ∧ h.fl.getD m default = x) ↔ M x
def setH (h : HHeap) (i : Nat) (x : HEnt) : HHeap := ⟨h.fl.set i x, mput h.fat x.fKey (i : Int)⟩
theorem set_ev {h : HHeap} {i : Nat} {x : HEnt} (hi : i < h.fl.length) : heap_Heap_set.f h (i : Int) x = some (setH h i x) := by
  unfold heap_Heap_set.f setH
  simp only [grd, Int.toNat_natCast]
  rw [if_pos ⟨by omega, by omega⟩]
theorem mem_getD {l : List HEnt} {x : HEnt} : x ∈ l ↔ ∃ m, m < l.length ∧ l.getD m default = x := by
  rw [List.mem_iff_getElem?]
  constructor
  · rintro ⟨i, hi⟩
    obtain ⟨h1, h2⟩ := List.getElem?_eq_some_iff.1 hi
    exact ⟨i, h1, by rw [List.getD_eq_getElem?_getD, hi]; rfl⟩
  · rintro ⟨m, h1, h2⟩
    refine ⟨m, ?_⟩
    rw [List.getD_eq_getElem?_getD, List.getElem?_eq_getElem h1] at h2
    rw [List.getElem?_eq_getElem h1]; exact congrArg some h2
theorem Hole.close {h : HHeap} {i n : Nat} {e : HEnt} {M : HEnt → Prop} (H : Hole h i e n M) : Idx (setH h i e) ∧ (setH h i e).fl.length = n ∧ (∀ x, x ∈ (setH h i e).fl ↔ M x) ∧ (setH h i e).fl.getD i default = e := by
  obtain ⟨h1, h2, h3, h4, h5, h6, h7⟩ := H
  have hl : (setH h i e).fl.length = n := by simp [setH, h1]
  have hg : ∀ m, (setH h i e).fl.getD m default = if m = i then e else h.fl.getD m default := fun m => getD_set' (by omega)
  refine ⟨⟨fun m hm => ?_, fun key v hv => ?_, nd_put h6⟩, hl, fun x => ?_, by rw [hg, if_pos rfl]⟩
  · rw [hl] at hm
    rw [hg]
    show mget (mput h.fat e.fKey (i : Int)) _ = _
    rw [mget_put]
    by_cases e1 : m = i
    · subst e1; simp
    · rw [if_neg e1, if_neg (fun x => h5 m hm e1 x.symm)]; exact h3 m hm e1
  · change mget (mput h.fat e.fKey (i : Int)) key = some v at hv
    rw [mget_put] at hv
    by_cases e1 : e.fKey = key
    · rw [if_pos e1] at hv
      cases hv
      exact ⟨i, rfl, by omega, by rw [hg, if_pos rfl]; exact e1⟩
    · rw [if_neg e1] at hv
      obtain ⟨m, k1, k2, k3, k4⟩ := h4 key v (fun x => e1 x.symm) hv
      exact ⟨m, k1, by omega, by rw [hg, if_neg k3]; exact k4⟩
  · rw [mem_getD, hl, ← h7]
    constructor
    · rintro ⟨m, k1, k2⟩
      rw [hg] at k2
      by_cases e1 : m = i
      · rw [if_pos e1] at k2; exact .inl k2.symm
      · rw [if_neg e1] at k2; exact .inr ⟨m, k1, e1, k2⟩
    · rintro (rfl | ⟨m, k1, k2, k3⟩)
      · exact ⟨i, h2, by rw [hg, if_pos rfl]⟩
      · exact ⟨m, k1, by rw [hg, if_neg k2]; exact k3⟩
theorem Hole.move {h : HHeap} {i n p : Nat} {e : HEnt} {M : HEnt → Prop} (H : Hole h i e n M) (hp : p < n) (hpi : p ≠ i) : Hole (setH h i (h.fl.getD p default)) p e n M := by
  obtain ⟨h1, h2, h3, h4, h5, h6, h7⟩ := H
  have hg : ∀ m, (setH h i (h.fl.getD p default)).fl.getD m default = if m = i then h.fl.getD p default else h.fl.getD m default := fun m => getD_set' (by omega)
  refine ⟨by simp [setH, h1], hp, fun m hm hmp => ?_, fun key v hk hv => ?_, fun m hm hmp => ?_, nd_put h6, fun x => ?_⟩
  · rw [hg]
    show mget (mput h.fat (h.fl.getD p default).fKey (i : Int)) _ = _
    rw [mget_put]
    by_cases e1 : m = i
    · subst e1; simp
    · rw [if_neg e1, if_neg, h3 m hm e1]
      intro e2
      have k1 := h3 m hm e1
      rw [← e2, h3 p hp hpi] at k1
      have := Option.some.inj k1
      omega
  · change mget (mput h.fat (h.fl.getD p default).fKey (i : Int)) key = some v at hv
    rw [mget_put] at hv
    by_cases e1 : (h.fl.getD p default).fKey = key
    · rw [if_pos e1] at hv
      cases hv
      exact ⟨i, rfl, h2, fun x => hpi x.symm, by rw [hg, if_pos rfl]; exact e1⟩
    · rw [if_neg e1] at hv
      obtain ⟨m, k1, k2, k3, k4⟩ := h4 key v hk hv
      exact ⟨m, k1, k2, fun x => by subst x; exact e1 k4, by rw [hg, if_neg k3]; exact k4⟩
  · rw [hg]
    by_cases e1 : m = i
    · rw [if_pos e1]; exact h5 p hp hpi
    · rw [if_neg e1]; exact h5 m hm e1
  · rw [← h7]
    constructor
    · rintro (h8 | ⟨m, k1, k2, k3⟩)
      · exact .inl h8
      · rw [hg] at k3
        by_cases e1 : m = i
        · rw [if_pos e1] at k3; exact .inr ⟨p, hp, hpi, k3⟩
        · rw [if_neg e1] at k3; exact .inr ⟨m, k1, e1, k3⟩
    · rintro (h8 | ⟨m, k1, k2, k3⟩)
      · exact .inl h8
      · by_cases e1 : m = p
        · subst e1; exact .inr ⟨i, h2, fun x => k2 x.symm, by rw [hg, if_pos rfl]; exact k3⟩
        · exact .inr ⟨m, k1, e1, by rw [hg, if_neg k2]; exact k3⟩
theorem Idx.inj {h : HHeap} (H : Idx h) {i j : Nat} (hi : i < h.fl.length) (hj : j < h.fl.length) (e : (h.fl.getD i default).fKey = (h.fl.getD j default).fKey) : i = j := by
  have h1 := H.fw i hi
  rw [e, H.fw j hj] at h1
  have := Option.some.inj h1
  omega
theorem Idx.hole {h : HHeap} (H : Idx h) {i : Nat} (hi : i < h.fl.length) : Hole h i (h.fl.getD i default) h.fl.length (· ∈ h.fl) := by
  refine ⟨rfl, hi, fun m hm _ => H.fw m hm, fun key v hk hv => ?_, fun m hm hmi e => hmi (H.inj hm hi e), H.nd, fun x => ?_⟩
  · obtain ⟨m, k1, k2, k3⟩ := H.bw key v hv
    exact ⟨m, k1, k2, fun e => by subst e; exact hk k3.symm, k3⟩
  · rw [mem_getD]
    constructor
    · rintro (rfl | ⟨m, k1, _, k3⟩)
      · exact ⟨i, hi, rfl⟩
      · exact ⟨m, k1, k3⟩
    · rintro ⟨m, k1, k2⟩
      by_cases e : m = i
      · subst e; exact .inl k2.symm
      · exact .inr ⟨m, k1, e, k2⟩
def cmpH (a b : HEnt) : Int := if cmpI a.fAt b.fAt = 0 then cmpS a.fKey b.fKey else cmpI a.fAt b.fAt
theorem ahead_ev (a b : HEnt) : Ev (fun k => heap_ahead.f k a b) (cmpH a b) := by
  unfold heap_ahead.f
  exact Ev.bind (Ev.of (cmpint _ _)) (Ev.bind (Ev.of (cmpstr _ _)) (Ev.bind (or_ev _ _) Ev.pure))
theorem cmpI_le {x y : Int} : cmpI x y ≤ 0 ↔ x ≤ y := by unfold cmpI; split <;> (try split) <;> omega
theorem cmpI_eq {x y : Int} : cmpI x y = 0 ↔ x = y := by unfold cmpI; split <;> (try split) <;> omega
/-- Not behind. -/
def leH (a b : HEnt) : Prop := cmpH a b ≤ 0
theorem leH_iff {a b : HEnt} : leH a b ↔ a.fAt < b.fAt ∨ (a.fAt = b.fAt ∧ sLt b.fKey a.fKey = false) := by
  unfold leH cmpH
  by_cases h : cmpI a.fAt b.fAt = 0
  · have e := cmpI_eq.1 h
    rw [if_pos h, cmpS_le]
    constructor
    · intro k; exact .inr ⟨e, k⟩
    · rintro (k | ⟨_, k⟩)
      · omega
      · exact k
  · have e : ¬ a.fAt = b.fAt := fun k => h (cmpI_eq.2 k)
    rw [if_neg h, cmpI_le]
    constructor
    · intro k; exact .inl (by omega)
    · rintro (k | ⟨k, _⟩)
      · omega
      · exact absurd k e
theorem leH_refl (a : HEnt) : leH a a := leH_iff.2 (.inr ⟨rfl, sLt_irrefl _⟩)
theorem leH_trans {a b c : HEnt} (h : leH a b) (k : leH b c) : leH a c := by
  rw [leH_iff] at *
  rcases h with h | ⟨h, h'⟩ <;> rcases k with k | ⟨k, k'⟩
  · exact .inl (by omega)
  · exact .inl (by omega)
  · exact .inl (by omega)
  · exact .inr ⟨by omega, sLt_ntrans h' k'⟩
theorem leH_lt {a b : HEnt} (h : cmpH a b < 0) : leH a b := by unfold leH; omega
theorem leH_ge {a b : HEnt} (h : ¬ cmpH a b < 0) : leH b a := by
  rw [leH_iff]
  by_cases h1 : b.fAt < a.fAt
  · exact .inl h1
  · have h2 : ¬ a.fAt < b.fAt := fun k => by
      have e : ¬ cmpI a.fAt b.fAt = 0 := fun k2 => by have := cmpI_eq.1 k2; omega
      have e2 : cmpI a.fAt b.fAt = -1 := by unfold cmpI; rw [if_pos k]
      apply h; unfold cmpH; rw [if_neg e, e2]; decide
    have h3 : a.fAt = b.fAt := by omega
    refine .inr ⟨h3.symm, ?_⟩
    cases e : sLt a.fKey b.fKey with
    | false => rfl
    | true =>
      exfalso; apply h; unfold cmpH
      rw [if_pos (cmpI_eq.2 h3), cmpS_lt]; exact e
/-- None is ahead of the one above it. -/
def Ord (l : List HEnt) : Prop := ∀ m, 0 < m → m < l.length → leH (l.getD ((m - 1) / 2) default) (l.getD m default)
/-- So it is, but around a place. -/
structure Hord (l : List HEnt) (i : Nat) : Prop where
  u1 : ∀ m, 0 < m → m < l.length → m ≠ i → (m - 1) / 2 ≠ i → leH (l.getD ((m - 1) / 2) default) (l.getD m default)
  u2 : 0 < i → ∀ c, 0 < c → c < l.length → (c - 1) / 2 = i → leH (l.getD ((i - 1) / 2) default) (l.getD c default)
/-- All below it is not ahead of e. -/
def Over (l : List HEnt) (i : Nat) (e : HEnt) : Prop := ∀ c, 0 < c → c < l.length → (c - 1) / 2 = i → leH e (l.getD c default)
def Under (l : List HEnt) (i : Nat) (e : HEnt) : Prop := 0 < i → leH (l.getD ((i - 1) / 2) default) e
theorem Ord.hord {l : List HEnt} (H : Ord l) (i : Nat) : Hord l i := ⟨fun m h1 h2 _ _ => H m h1 h2, fun h1 c h2 h3 h4 => by
  have a := H c h2 h3
  rw [h4] at a
  rcases Nat.lt_or_ge i l.length with h | h
  · exact leH_trans (H i h1 h) a
  · omega⟩
theorem Hord.close {l : List HEnt} {i : Nat} {e : HEnt} (H : Hord l i) (hi : i < l.length) (ho : Over l i e) (hu : Under l i e) : Ord (l.set i e) := by
  intro m h1 h2
  rw [List.length_set] at h2
  rw [getD_set' hi, getD_set' hi]
  by_cases e1 : m = i
  · subst e1
    rw [if_pos rfl, if_neg (by omega)]
    exact hu h1
  · rw [if_neg e1]
    by_cases e2 : (m - 1) / 2 = i
    · rw [if_pos e2]; exact ho m h1 h2 e2
    · rw [if_neg e2]; exact H.u1 m h1 h2 e1 e2
theorem Hord.set {l : List HEnt} {i : Nat} {e : HEnt} (H : Hord l i) (hi : i < l.length) : Hord (l.set i e) i := by
  refine ⟨fun m h1 h2 h3 h4 => ?_, fun h1 c h2 h3 h4 => ?_⟩
  · rw [List.length_set] at h2
    rw [getD_set' hi, getD_set' hi, if_neg h3, if_neg h4]; exact H.u1 m h1 h2 h3 h4
  · rw [List.length_set] at h3
    rw [getD_set' hi, getD_set' hi, if_neg (by omega), if_neg (by omega)]; exact H.u2 h1 c h2 h3 h4
theorem Over.set {l : List HEnt} {i : Nat} {e x : HEnt} (H : Over l i e) (hi : i < l.length) : Over (l.set i x) i e := fun c h1 h2 h3 => by
  rw [List.length_set] at h2
  rw [getD_set' hi, if_neg (by omega)]; exact H c h1 h2 h3
theorem Hord.up {l : List HEnt} {i : Nat} {e : HEnt} (H : Hord l i) (hi : i < l.length) (h0 : 0 < i) (ho : Over l i e) (hl : leH e (l.getD ((i - 1) / 2) default)) : Hord (l.set i (l.getD ((i - 1) / 2) default)) ((i - 1) / 2) ∧ Over (l.set i (l.getD ((i - 1) / 2) default)) ((i - 1) / 2) e := by
  refine ⟨⟨fun m h1 h2 h3 h4 => ?_, fun h1 c h2 h3 h4 => ?_⟩, fun c h2 h3 h4 => ?_⟩
  · rw [List.length_set] at h2
    rw [getD_set' hi, getD_set' hi]
    have e1 : m ≠ i := fun e => by subst e; exact h4 rfl
    rw [if_neg e1]
    by_cases e2 : (m - 1) / 2 = i
    · rw [if_pos e2]; exact H.u2 h0 m h1 h2 e2
    · rw [if_neg e2]; exact H.u1 m h1 h2 e1 e2
  · rw [List.length_set] at h3
    rw [getD_set' hi, getD_set' hi, if_neg (by omega)]
    have hp := H.u1 ((i - 1) / 2) h1 (by omega) (by omega) (by omega)
    by_cases e1 : c = i
    · rw [if_pos e1]; exact hp
    · rw [if_neg e1]
      have := H.u1 c h2 h3 e1 (by omega)
      rw [h4] at this
      exact leH_trans hp this
  · rw [List.length_set] at h3
    rw [getD_set' hi]
    by_cases e1 : c = i
    · rw [if_pos e1]; exact hl
    · rw [if_neg e1]
      have := H.u1 c h2 h3 e1 (by omega)
      rw [h4] at this
      exact leH_trans hl this
theorem Hord.down {l : List HEnt} {i k : Nat} {e : HEnt} (H : Hord l i) (hi : i < l.length) (hk : k < l.length) (hki : k = 2 * i + 1 ∨ k = 2 * i + 2) (hmin : ∀ c, c < l.length → (c = 2 * i + 1 ∨ c = 2 * i + 2) → leH (l.getD k default) (l.getD c default)) : Hord (l.set i (l.getD k default)) k := by
  refine ⟨fun m h1 h2 h3 h4 => ?_, fun h1 c h2 h3 h4 => ?_⟩
  · rw [List.length_set] at h2
    rw [getD_set' hi, getD_set' hi]
    by_cases e1 : m = i
    · subst e1
      rw [if_pos rfl, if_neg (by omega)]
      exact H.u2 h1 k (by omega) hk (by omega)
    · rw [if_neg e1]
      by_cases e2 : (m - 1) / 2 = i
      · rw [if_pos e2]; exact hmin m h2 (by omega)
      · rw [if_neg e2]; exact H.u1 m h1 h2 e1 e2
  · rw [List.length_set] at h3
    rw [getD_set' hi, getD_set' hi, if_pos (by omega), if_neg (by omega)]
    have := H.u1 c h2 h3 (by omega) (by omega)
    rw [h4] at this
    exact this
section
variable {a0 : HHeap} {a1 : Int} {n : Nat} {M : HEnt → Prop}
theorem down_loop (hn : n ≤ 1000000) : ∀ (d i : Nat) (h : HHeap), n - i ≤ d → Hole h i (a0.fl.getD a1.toNat default) n M → Hord h.fl i → ∃ i' h' q1 q2 q3, Hole h' i' (a0.fl.getD a1.toNat default) n M ∧ Hord h'.fl i' ∧ Over h'.fl i' (a0.fl.getD a1.toNat default) ∧ El (fun k j => heap_Heap_down.l0 k a0 a1 j (i : Int) h) ((i' : Int), q1, q2, q3, h') := by
  intro d
  induction d with
  | zero => intro i h hd H; have := H.lt; omega
  | succ d ih =>
    intro i h hd H O
    have hlen := H.len
    have hlt := H.lt
    have w1 : w64 (2 * (i : Int)) = ((2 * i : Nat) : Int) := by rw [w64_id (by omega) (by omega)]; omega
    have w2 : w64 (((2 * i : Nat) : Int) + 1) = ((2 * i + 1 : Nat) : Int) := by rw [w64_id (by omega) (by omega)]; omega
    have w3 : w64 (((2 * i + 1 : Nat) : Int) + 1) = ((2 * i + 2 : Nat) : Int) := by rw [w64_id (by omega) (by omega)]; omega
    -- which of the two below
    have hk : ∃ (kk : Nat) (q : Bool), (kk = 2 * i + 1 ∨ (kk = 2 * i + 2 ∧ kk < n)) ∧ (kk < n → ∀ c, c < n → (c = 2 * i + 1 ∨ c = 2 * i + 2) → leH (h.fl.getD kk default) (h.fl.getD c default)) ∧ Ev (fun k => cond (decide (((2 * i + 2 : Nat) : Int) < (h.fl.length : Int))) (grd ((0 : Int) ≤ ((2 * i + 2 : Nat) : Int) ∧ ((2 * i + 2 : Nat) : Int) < (h.fl.length : Int)) (grd ((0 : Int) ≤ ((2 * i + 1 : Nat) : Int) ∧ ((2 * i + 1 : Nat) : Int) < (h.fl.length : Int)) ((heap_ahead.f k (h.fl.getD (((2 * i + 2 : Nat) : Int).toNat) default) (h.fl.getD (((2 * i + 1 : Nat) : Int).toNat) default)).bind fun t737 => cond (decide (t737 < 0)) (some (((2 * i + 2 : Nat) : Int), decide (t737 < 0))) (some (((2 * i + 1 : Nat) : Int), decide (t737 < 0)))))) (some (((2 * i + 1 : Nat) : Int), false))) ((kk : Int), q) := by
      by_cases h1 : 2 * i + 2 < n
      · by_cases h2 : cmpH (h.fl.getD (((2 * i + 2 : Nat) : Int).toNat) default) (h.fl.getD (((2 * i + 1 : Nat) : Int).toNat) default) < 0
        · refine ⟨2 * i + 2, decide (_ < 0), .inr ⟨rfl, h1⟩, fun _ c hc hc2 => ?_, Ev.ct (decide_eq_true (by omega)) (Ev.grd ⟨by omega, by omega⟩ (Ev.grd ⟨by omega, by omega⟩ (Ev.bind (ahead_ev _ _) (Ev.ct (decide_eq_true h2) Ev.pure))))⟩
          rcases hc2 with rfl | rfl
          · exact leH_lt h2
          · exact leH_refl _
        · refine ⟨2 * i + 1, decide (_ < 0), .inl rfl, fun _ c hc hc2 => ?_, Ev.ct (decide_eq_true (by omega)) (Ev.grd ⟨by omega, by omega⟩ (Ev.grd ⟨by omega, by omega⟩ (Ev.bind (ahead_ev _ _) (Ev.cf (decide_eq_false h2) Ev.pure))))⟩
          rcases hc2 with rfl | rfl
          · exact leH_refl _
          · exact leH_ge h2
      · refine ⟨2 * i + 1, false, .inl rfl, fun _ c hc hc2 => ?_, Ev.cf (decide_eq_false (by omega)) Ev.pure⟩
        rcases hc2 with rfl | rfl
        · exact leH_refl _
        · omega
    obtain ⟨kk, q, hkk, hmin, hev⟩ := hk
    by_cases h1 : n ≤ kk
    · refine ⟨i, h, (kk : Int), q, true, H, O, fun c c1 c2 c3 => by omega, ?_⟩
      refine El.step (fun _ _ => by rw [heap_Heap_down.l0]) ?_
      simp only [w1, w2, w3]
      exact El.bind hev.el (El.ct (decide_eq_true (by omega)) El.pure)
    · by_cases h2 : cmpH (a0.fl.getD a1.toNat default) (h.fl.getD ((kk : Int).toNat) default) < 0
      · refine ⟨i, h, (kk : Int), q, decide (cmpH (a0.fl.getD a1.toNat default) (h.fl.getD ((kk : Int).toNat) default) < 0), H, O, fun c c1 c2 c3 => leH_trans (leH_lt h2) (hmin (by omega) c (by omega) (by omega)), ?_⟩
        refine El.step (fun _ _ => by rw [heap_Heap_down.l0]) ?_
        simp only [w1, w2, w3]
        exact El.bind hev.el (El.cf (decide_eq_false (by omega)) (El.grd ⟨by omega, by omega⟩ (El.bind (ahead_ev _ _).el (El.ct (decide_eq_true h2) El.pure))))
      · have H2 := H.move (p := kk) (by omega) (by omega)
        have O2 := O.down (e := default) (by omega) (k := kk) (by omega) (by omega) (fun c c1 c2 => hmin (by omega) c (by omega) c2)
        obtain ⟨i', h', q1, q2, q3, k1, k2, k3, k4⟩ := ih kk _ (by omega) H2 O2
        refine ⟨i', h', q1, q2, q3, k1, k2, k3, ?_⟩
        refine El.step (fun _ _ => by rw [heap_Heap_down.l0]) ?_
        simp only [w1, w2, w3]
        refine El.bind hev.el (El.cf (decide_eq_false (by omega)) (El.grd ⟨by omega, by omega⟩ (El.bind (ahead_ev _ _).el (El.cf (decide_eq_false h2) (El.grd ⟨by omega, by omega⟩ (El.bind (Ev.el (Ev.of (set_ev (by omega)))) ?_))))))
        rw [Int.toNat_natCast]
        exact k4
theorem up_loop (hn : n ≤ 1000000) : ∀ (i : Nat) (h : HHeap), Hole h i (a0.fl.getD a1.toNat default) n M → Hord h.fl i → Over h.fl i (a0.fl.getD a1.toNat default) → ∃ i' h' q1, Hole h' i' (a0.fl.getD a1.toNat default) n M ∧ Ord (setH h' i' (a0.fl.getD a1.toNat default)).fl ∧ El (fun k j => heap_Heap_up.l0 k a0 a1 j (i : Int) h) ((i' : Int), q1, h') := by
  intro i
  induction i using Nat.strongRecOn with
  | _ i ih =>
    intro h H O V
    have hlen := H.len
    have hlt := H.lt
    by_cases h0 : 0 < i
    · have w1 : w64 ((w64 ((i : Int) - 1)).tdiv 2) = (((i - 1) / 2 : Nat) : Int) := by
        rw [w64_id (x := (i : Int) - 1) (by omega) (by omega), Int.tdiv_eq_ediv_of_nonneg (by omega), w64_id (by omega) (by omega)]; omega
      by_cases h2 : cmpH (a0.fl.getD a1.toNat default) (h.fl.getD ((((i - 1) / 2 : Nat) : Int).toNat) default) < 0
      · have H2 := H.move (p := (i - 1) / 2) (by omega) (by omega)
        have O2 := O.up (by omega) h0 V (leH_lt h2)
        obtain ⟨i', h', q1, k1, k2, k3⟩ := ih ((i - 1) / 2) (by omega) _ H2 O2.1 O2.2
        refine ⟨i', h', q1, k1, k2, ?_⟩
        refine El.step (fun _ _ => by rw [heap_Heap_up.l0]) ?_
        simp only [w1]
        refine El.ct (decide_eq_true (by omega)) (El.grd ⟨by omega, by omega⟩ (El.bind (ahead_ev _ _).el (El.ct (decide_eq_true h2) (El.grd ⟨by omega, by omega⟩ (El.bind (Ev.el (Ev.of (set_ev (by omega)))) ?_)))))
        rw [Int.toNat_natCast]
        exact k3
      · refine ⟨i, h, decide (cmpH (a0.fl.getD a1.toNat default) (h.fl.getD ((((i - 1) / 2 : Nat) : Int).toNat) default) < 0), H, O.close (by omega) V (fun _ => leH_ge h2), ?_⟩
        refine El.step (fun _ _ => by rw [heap_Heap_up.l0]) ?_
        simp only [w1]
        exact El.ct (decide_eq_true (by omega)) (El.grd ⟨by omega, by omega⟩ (El.bind (ahead_ev _ _).el (El.cf (decide_eq_false h2) El.pure)))
    · refine ⟨i, h, false, H, O.close (by omega) V (fun k => absurd k h0), ?_⟩
      refine El.step (fun _ _ => by rw [heap_Heap_up.l0]) ?_
      exact El.cf (decide_eq_false (by omega)) El.pure
end
/-- What is brought down stands where nothing below is ahead of it. -/
theorem down_ev {h : HHeap} {i : Nat} (H : Idx h) (hn : h.fl.length ≤ 1000000) (hi : i < h.fl.length) (O : Hord h.fl i) : ∃ h' j, Ev (fun k => heap_Heap_down.f k h (i : Int)) h' ∧ Idx h' ∧ h'.fl.length = h.fl.length ∧ (∀ x, x ∈ h'.fl ↔ x ∈ h.fl) ∧ j < h'.fl.length ∧ h'.fl.getD j default = h.fl.getD i default ∧ Hord h'.fl j ∧ Over h'.fl j (h.fl.getD i default) := by
  have H1 := H.hole hi
  obtain ⟨i', h', q1, q2, q3, k1, o1, o2, k2⟩ := down_loop (a0 := h) (a1 := (i : Int)) hn h.fl.length i h (by omega) (by rw [Int.toNat_natCast]; exact H1) O
  obtain ⟨c1, c2, c3, c4⟩ := k1.close
  have hl := k1.len
  have hlt := k1.lt
  refine ⟨_, i', ?_, c1, c2, c3, by omega, c4, o1.set (by omega), o2.set (by omega)⟩
  unfold heap_Heap_down.f
  exact Ev.grd ⟨by omega, by omega⟩ (Ev.bind k2.diag (Ev.bind (Ev.of (set_ev (h := h') (i := i') (by omega))) Ev.pure))
theorem up_ev {h : HHeap} {i : Nat} {e : HEnt} {n : Nat} {M : HEnt → Prop} (he : h.fl.getD i default = e) (H1 : Hole h i e n M) (hn : n ≤ 1000000) (O : Hord h.fl i) (V : Over h.fl i e) : ∃ h', Ev (fun k => heap_Heap_up.f k h (i : Int)) h' ∧ Idx h' ∧ h'.fl.length = n ∧ (∀ x, x ∈ h'.fl ↔ M x) ∧ Ord h'.fl := by
  subst he
  obtain ⟨i', h', q1, k1, o1, k2⟩ := up_loop (a0 := h) (a1 := (i : Int)) hn i h (by rw [Int.toNat_natCast]; exact H1) O (by rw [Int.toNat_natCast]; exact V)
  obtain ⟨c1, c2, c3, _⟩ := k1.close
  refine ⟨_, ?_, c1, c2, c3, o1⟩
  unfold heap_Heap_up.f
  have hl := k1.len
  have hlt := k1.lt
  have hl1 := H1.len
  have hlt1 := H1.lt
  exact Ev.grd ⟨by omega, by omega⟩ (Ev.bind k2.diag (Ev.bind (Ev.of (set_ev (h := h') (i := i') (by omega))) Ev.pure))
end Go.Proofs.YtmbodanckhidiaaGreat
