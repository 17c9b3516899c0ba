/- Plain: the heap's places. -/
import Derived.Test.YtmbodanckhidiaaZPD
set_option linter.all false
set_option maxRecDepth 10000
namespace Go.Proofs.Ytmbodanckhidiaa
open Go Go.Sp
/-- Each entry's place is told, and no other. -/
structure Idx (h : HHeap) : Prop where
  fw : ∀ i, i < h.fl.length → mget h.fat (h.fl.getD i default).fKey = some (i : Int)
  bw : ∀ key v, mget h.fat key = some v → ∃ i : Nat, v = i ∧ i < h.fl.length ∧ (h.fl.getD i default).fKey = key
  nd : Nd h.fat
/-- So it is, but for a place i, where e belongs. -/
structure Hole (h : HHeap) (i : Nat) (e : HEnt) (n : Nat) (M : HEnt → Prop) : Prop where
  len : h.fl.length = n
  lt : i < n
  fw : ∀ m, m < n → m ≠ i → mget h.fat (h.fl.getD m default).fKey = some (m : Int)
  bw : ∀ key v, key ≠ e.fKey → mget h.fat key = some v → ∃ m : Nat, v = m ∧ m < n ∧ m ≠ i ∧ (h.fl.getD m default).fKey = key
  ne : ∀ m, m < n → m ≠ i → (h.fl.getD m default).fKey ≠ e.fKey
  nd : Nd h.fat
  mem : ∀ x, (x = e ∨ ∃ m, m < n ∧ m ≠ i ∧ h.fl.getD m default = x) ↔ M x
def setH (h : HHeap) (i : Nat) (x : HEnt) : HHeap := ⟨h.fl.set i x, mput h.fat x.fKey (i : Int)⟩
theorem set_ev {h : HHeap} {i : Nat} {x : HEnt} (hi : i < h.fl.length) : heap_Heap_set.f h (i : Int) x = some (setH h i x) := by
  unfold heap_Heap_set.f setH
  simp only [grd, Int.toNat_natCast]
  rw [if_pos ⟨by omega, by omega⟩]
theorem mem_getD {l : List HEnt} {x : HEnt} : x ∈ l ↔ ∃ m, m < l.length ∧ l.getD m default = x := by
  rw [List.mem_iff_getElem?]
  constructor
  · rintro ⟨i, hi⟩
    obtain ⟨h1, h2⟩ := List.getElem?_eq_some_iff.1 hi
    exact ⟨i, h1, by rw [List.getD_eq_getElem?_getD, hi]; rfl⟩
  · rintro ⟨m, h1, h2⟩
    refine ⟨m, ?_⟩
    rw [List.getD_eq_getElem?_getD, List.getElem?_eq_getElem h1] at h2
    rw [List.getElem?_eq_getElem h1]; exact congrArg some h2
theorem Hole.close {h : HHeap} {i n : Nat} {e : HEnt} {M : HEnt → Prop} (H : Hole h i e n M) : Idx (setH h i e) ∧ (setH h i e).fl.length = n ∧ (∀ x, x ∈ (setH h i e).fl ↔ M x) ∧ (setH h i e).fl.getD i default = e := by
  obtain ⟨h1, h2, h3, h4, h5, h6, h7⟩ := H
  have hl : (setH h i e).fl.length = n := by simp [setH, h1]
  have hg : ∀ m, (setH h i e).fl.getD m default = if m = i then e else h.fl.getD m default := fun m => getD_set' (by omega)
  refine ⟨⟨fun m hm => ?_, fun key v hv => ?_, nd_put h6⟩, hl, fun x => ?_, by rw [hg, if_pos rfl]⟩
  · rw [hl] at hm
    rw [hg]
    show mget (mput h.fat e.fKey (i : Int)) _ = _
    rw [mget_put]
    by_cases e1 : m = i
    · subst e1; simp
    · rw [if_neg e1, if_neg (fun x => h5 m hm e1 x.symm)]; exact h3 m hm e1
  · change mget (mput h.fat e.fKey (i : Int)) key = some v at hv
    rw [mget_put] at hv
    by_cases e1 : e.fKey = key
    · rw [if_pos e1] at hv
      cases hv
      exact ⟨i, rfl, by omega, by rw [hg, if_pos rfl]; exact e1⟩
    · rw [if_neg e1] at hv
      obtain ⟨m, k1, k2, k3, k4⟩ := h4 key v (fun x => e1 x.symm) hv
      exact ⟨m, k1, by omega, by rw [hg, if_neg k3]; exact k4⟩
  · rw [mem_getD, hl, ← h7]
    constructor
    · rintro ⟨m, k1, k2⟩
      rw [hg] at k2
      by_cases e1 : m = i
      · rw [if_pos e1] at k2; exact .inl k2.symm
      · rw [if_neg e1] at k2; exact .inr ⟨m, k1, e1, k2⟩
    · rintro (rfl | ⟨m, k1, k2, k3⟩)
      · exact ⟨i, h2, by rw [hg, if_pos rfl]⟩
      · exact ⟨m, k1, by rw [hg, if_neg k2]; exact k3⟩
theorem Hole.move {h : HHeap} {i n p : Nat} {e : HEnt} {M : HEnt → Prop} (H : Hole h i e n M) (hp : p < n) (hpi : p ≠ i) : Hole (setH h i (h.fl.getD p default)) p e n M := by
  obtain ⟨h1, h2, h3, h4, h5, h6, h7⟩ := H
  have hg : ∀ m, (setH h i (h.fl.getD p default)).fl.getD m default = if m = i then h.fl.getD p default else h.fl.getD m default := fun m => getD_set' (by omega)
  refine ⟨by simp [setH, h1], hp, fun m hm hmp => ?_, fun key v hk hv => ?_, fun m hm hmp => ?_, nd_put h6, fun x => ?_⟩
  · rw [hg]
    show mget (mput h.fat (h.fl.getD p default).fKey (i : Int)) _ = _
    rw [mget_put]
    by_cases e1 : m = i
    · subst e1; simp
    · rw [if_neg e1, if_neg, h3 m hm e1]
      intro e2
      have k1 := h3 m hm e1
      rw [← e2, h3 p hp hpi] at k1
      have := Option.some.inj k1
      omega
  · change mget (mput h.fat (h.fl.getD p default).fKey (i : Int)) key = some v at hv
    rw [mget_put] at hv
    by_cases e1 : (h.fl.getD p default).fKey = key
    · rw [if_pos e1] at hv
      cases hv
      exact ⟨i, rfl, h2, fun x => hpi x.symm, by rw [hg, if_pos rfl]; exact e1⟩
    · rw [if_neg e1] at hv
      obtain ⟨m, k1, k2, k3, k4⟩ := h4 key v hk hv
      exact ⟨m, k1, k2, fun x => by subst x; exact e1 k4, by rw [hg, if_neg k3]; exact k4⟩
  · rw [hg]
    by_cases e1 : m = i
    · rw [if_pos e1]; exact h5 p hp hpi
    · rw [if_neg e1]; exact h5 m hm e1
  · rw [← h7]
    constructor
    · rintro (h8 | ⟨m, k1, k2, k3⟩)
      · exact .inl h8
      · rw [hg] at k3
        by_cases e1 : m = i
        · rw [if_pos e1] at k3; exact .inr ⟨p, hp, hpi, k3⟩
        · rw [if_neg e1] at k3; exact .inr ⟨m, k1, e1, k3⟩
    · rintro (h8 | ⟨m, k1, k2, k3⟩)
      · exact .inl h8
      · by_cases e1 : m = p
        · subst e1; exact .inr ⟨i, h2, fun x => k2 x.symm, by rw [hg, if_pos rfl]; exact k3⟩
        · exact .inr ⟨m, k1, e1, by rw [hg, if_neg k2]; exact k3⟩
theorem Idx.inj {h : HHeap} (H : Idx h) {i j : Nat} (hi : i < h.fl.length) (hj : j < h.fl.length) (e : (h.fl.getD i default).fKey = (h.fl.getD j default).fKey) : i = j := by
  have h1 := H.fw i hi
  rw [e, H.fw j hj] at h1
  have := Option.some.inj h1
  omega
theorem Idx.hole {h : HHeap} (H : Idx h) {i : Nat} (hi : i < h.fl.length) : Hole h i (h.fl.getD i default) h.fl.length (· ∈ h.fl) := by
  refine ⟨rfl, hi, fun m hm _ => H.fw m hm, fun key v hk hv => ?_, fun m hm hmi e => hmi (H.inj hm hi e), H.nd, fun x => ?_⟩
  · obtain ⟨m, k1, k2, k3⟩ := H.bw key v hv
    exact ⟨m, k1, k2, fun e => by subst e; exact hk k3.symm, k3⟩
  · rw [mem_getD]
    constructor
    · rintro (rfl | ⟨m, k1, _, k3⟩)
      · exact ⟨i, hi, rfl⟩
      · exact ⟨m, k1, k3⟩
    · rintro ⟨m, k1, k2⟩
      by_cases e : m = i
      · subst e; exact .inl k2.symm
      · exact .inr ⟨m, k1, e, k2⟩
def cmpH (a b : HEnt) : Int := if cmpI a.fAt b.fAt = 0 then cmpS a.fKey b.fKey else cmpI a.fAt b.fAt
theorem ahead_ev (a b : HEnt) : Ev (fun k => heap_ahead.f k a b) (cmpH a b) := by
  unfold heap_ahead.f
  exact Ev.bind (Ev.of (cmpint _ _)) (Ev.bind (Ev.of (cmpstr _ _)) (Ev.bind (or_ev _ _) Ev.pure))
section
variable {a0 : HHeap} {a1 : Int} {n : Nat} {M : HEnt → Prop}
theorem down_loop (hn : n ≤ 1000000) : ∀ (d i : Nat) (h : HHeap), n - i ≤ d → Hole h i (a0.fl.getD a1.toNat default) n M → ∃ i' h' q1 q2 q3, Hole h' i' (a0.fl.getD a1.toNat default) n M ∧ El (fun k j => heap_Heap_down.l0 k a0 a1 j (i : Int) h) ((i' : Int), q1, q2, q3, h') := by
  intro d
  induction d with
  | zero => intro i h hd H; have := H.lt; omega
  | succ d ih =>
    intro i h hd H
    have hlen := H.len
    have hlt := H.lt
    have w1 : w64 (2 * (i : Int)) = ((2 * i : Nat) : Int) := by rw [w64_id (by omega) (by omega)]; omega
    have w2 : w64 (((2 * i : Nat) : Int) + 1) = ((2 * i + 1 : Nat) : Int) := by rw [w64_id (by omega) (by omega)]; omega
    have w3 : w64 (((2 * i + 1 : Nat) : Int) + 1) = ((2 * i + 2 : Nat) : Int) := by rw [w64_id (by omega) (by omega)]; omega
    -- which of the two below
    have hk : ∃ (kk : Nat) (q : Bool), (kk = 2 * i + 1 ∨ (kk = 2 * i + 2 ∧ kk < n)) ∧ Ev (fun k => cond (decide (((2 * i + 2 : Nat) : Int) < (h.fl.length : Int))) (grd ((0 : Int) ≤ ((2 * i + 2 : Nat) : Int) ∧ ((2 * i + 2 : Nat) : Int) < (h.fl.length : Int)) (grd ((0 : Int) ≤ ((2 * i + 1 : Nat) : Int) ∧ ((2 * i + 1 : Nat) : Int) < (h.fl.length : Int)) ((heap_ahead.f k (h.fl.getD (((2 * i + 2 : Nat) : Int).toNat) default) (h.fl.getD (((2 * i + 1 : Nat) : Int).toNat) default)).bind fun t737 => cond (decide (t737 < 0)) (some (((2 * i + 2 : Nat) : Int), decide (t737 < 0))) (some (((2 * i + 1 : Nat) : Int), decide (t737 < 0)))))) (some (((2 * i + 1 : Nat) : Int), false))) ((kk : Int), q) := by
      by_cases h1 : 2 * i + 2 < n
      · by_cases h2 : cmpH (h.fl.getD (((2 * i + 2 : Nat) : Int).toNat) default) (h.fl.getD (((2 * i + 1 : Nat) : Int).toNat) default) < 0
        · exact ⟨2 * i + 2, decide (_ < 0), .inr ⟨rfl, h1⟩, Ev.ct (decide_eq_true (by omega)) (Ev.grd ⟨by omega, by omega⟩ (Ev.grd ⟨by omega, by omega⟩ (Ev.bind (ahead_ev _ _) (Ev.ct (decide_eq_true h2) Ev.pure))))⟩
        · exact ⟨2 * i + 1, decide (_ < 0), .inl rfl, Ev.ct (decide_eq_true (by omega)) (Ev.grd ⟨by omega, by omega⟩ (Ev.grd ⟨by omega, by omega⟩ (Ev.bind (ahead_ev _ _) (Ev.cf (decide_eq_false h2) Ev.pure))))⟩
      · exact ⟨2 * i + 1, false, .inl rfl, Ev.cf (decide_eq_false (by omega)) Ev.pure⟩
    obtain ⟨kk, q, hkk, hev⟩ := hk
    by_cases h1 : n ≤ kk
    · refine ⟨i, h, (kk : Int), q, true, H, ?_⟩
      refine El.step (fun _ _ => by rw [heap_Heap_down.l0]) ?_
      simp only [w1, w2, w3]
      exact El.bind hev.el (El.ct (decide_eq_true (by omega)) El.pure)
    · by_cases h2 : cmpH (a0.fl.getD a1.toNat default) (h.fl.getD ((kk : Int).toNat) default) < 0
      · refine ⟨i, h, (kk : Int), q, decide (cmpH (a0.fl.getD a1.toNat default) (h.fl.getD ((kk : Int).toNat) default) < 0), H, ?_⟩
        refine El.step (fun _ _ => by rw [heap_Heap_down.l0]) ?_
        simp only [w1, w2, w3]
        exact El.bind hev.el (El.cf (decide_eq_false (by omega)) (El.grd ⟨by omega, by omega⟩ (El.bind (ahead_ev _ _).el (El.ct (decide_eq_true h2) El.pure))))
      · have H2 := H.move (p := kk) (by omega) (by omega)
        obtain ⟨i', h', q1, q2, q3, k1, k2⟩ := ih kk _ (by omega) H2
        refine ⟨i', h', q1, q2, q3, k1, ?_⟩
        refine El.step (fun _ _ => by rw [heap_Heap_down.l0]) ?_
        simp only [w1, w2, w3]
        refine El.bind hev.el (El.cf (decide_eq_false (by omega)) (El.grd ⟨by omega, by omega⟩ (El.bind (ahead_ev _ _).el (El.cf (decide_eq_false h2) (El.grd ⟨by omega, by omega⟩ (El.bind (Ev.el (Ev.of (set_ev (by omega)))) ?_))))))
        rw [Int.toNat_natCast]
        exact k2
theorem up_loop (hn : n ≤ 1000000) : ∀ (i : Nat) (h : HHeap), Hole h i (a0.fl.getD a1.toNat default) n M → ∃ i' h' q1, Hole h' i' (a0.fl.getD a1.toNat default) n M ∧ El (fun k j => heap_Heap_up.l0 k a0 a1 j (i : Int) h) ((i' : Int), q1, h') := by
  intro i
  induction i using Nat.strongRecOn with
  | _ i ih =>
    intro h H
    have hlen := H.len
    have hlt := H.lt
    by_cases h0 : 0 < i
    · have w1 : w64 ((w64 ((i : Int) - 1)).tdiv 2) = (((i - 1) / 2 : Nat) : Int) := by
        rw [w64_id (x := (i : Int) - 1) (by omega) (by omega), Int.tdiv_eq_ediv_of_nonneg (by omega), w64_id (by omega) (by omega)]; omega
      by_cases h2 : cmpH (a0.fl.getD a1.toNat default) (h.fl.getD ((((i - 1) / 2 : Nat) : Int).toNat) default) < 0
      · have H2 := H.move (p := (i - 1) / 2) (by omega) (by omega)
        obtain ⟨i', h', q1, k1, k2⟩ := ih ((i - 1) / 2) (by omega) _ H2
        refine ⟨i', h', q1, k1, ?_⟩
        refine El.step (fun _ _ => by rw [heap_Heap_up.l0]) ?_
        simp only [w1]
        refine El.ct (decide_eq_true (by omega)) (El.grd ⟨by omega, by omega⟩ (El.bind (ahead_ev _ _).el (El.ct (decide_eq_true h2) (El.grd ⟨by omega, by omega⟩ (El.bind (Ev.el (Ev.of (set_ev (by omega)))) ?_)))))
        rw [Int.toNat_natCast]
        exact k2
      · refine ⟨i, h, decide (cmpH (a0.fl.getD a1.toNat default) (h.fl.getD ((((i - 1) / 2 : Nat) : Int).toNat) default) < 0), H, ?_⟩
        refine El.step (fun _ _ => by rw [heap_Heap_up.l0]) ?_
        simp only [w1]
        exact El.ct (decide_eq_true (by omega)) (El.grd ⟨by omega, by omega⟩ (El.bind (ahead_ev _ _).el (El.cf (decide_eq_false h2) El.pure)))
    · refine ⟨i, h, false, H, ?_⟩
      refine El.step (fun _ _ => by rw [heap_Heap_up.l0]) ?_
      exact El.cf (decide_eq_false (by omega)) El.pure
end
theorem down_ev {h : HHeap} {i : Nat} (H : Idx h) (hn : h.fl.length ≤ 1000000) (hi : i < h.fl.length) : ∃ h', Ev (fun k => heap_Heap_down.f k h (i : Int)) h' ∧ Idx h' ∧ h'.fl.length = h.fl.length ∧ ∀ x, x ∈ h'.fl ↔ x ∈ h.fl := by
  have H1 := H.hole hi
  obtain ⟨i', h', q1, q2, q3, k1, k2⟩ := down_loop (a0 := h) (a1 := (i : Int)) hn h.fl.length i h (by omega) (by rw [Int.toNat_natCast]; exact H1)
  obtain ⟨c1, c2, c3, _⟩ := k1.close
  refine ⟨_, ?_, c1, c2, c3⟩
  unfold heap_Heap_down.f
  have hl := k1.len
  have hlt := k1.lt
  exact Ev.grd ⟨by omega, by omega⟩ (Ev.bind k2.diag (Ev.bind (Ev.of (set_ev (h := h') (i := i') (by omega))) Ev.pure))
theorem up_ev {h : HHeap} {i : Nat} {e : HEnt} {n : Nat} {M : HEnt → Prop} (he : h.fl.getD i default = e) (H1 : Hole h i e n M) (hn : n ≤ 1000000) : ∃ h', Ev (fun k => heap_Heap_up.f k h (i : Int)) h' ∧ Idx h' ∧ h'.fl.length = n ∧ ∀ x, x ∈ h'.fl ↔ M x := by
  subst he
  obtain ⟨i', h', q1, k1, k2⟩ := up_loop (a0 := h) (a1 := (i : Int)) hn i h (by rw [Int.toNat_natCast]; exact H1)
  obtain ⟨c1, c2, c3, _⟩ := k1.close
  refine ⟨_, ?_, c1, c2, c3⟩
  unfold heap_Heap_up.f
  have hl := k1.len
  have hlt := k1.lt
  have hl1 := H1.len
  have hlt1 := H1.lt
  exact Ev.grd ⟨by omega, by omega⟩ (Ev.bind k2.diag (Ev.bind (Ev.of (set_ev (h := h') (i := i') (by omega))) Ev.pure))
end Go.Proofs.Ytmbodanckhidiaa
