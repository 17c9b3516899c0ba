/- Plain: the heap's entries. -/
import Derived.Test.YtmbodanckhidiaaGreatZPE
set_option linter.all false
set_option maxRecDepth 10000
namespace Go.Proofs.YtmbodanckhidiaaGreat
open Go Go.Sp
theorem getD_take' {l : List HEnt} {n m : Nat} (h : m < n) : (l.take n).getD m default = l.getD m default := by
  simp [List.getD_eq_getElem?_getD, List.getElem?_take, h]
theorem Ord.take {l : List HEnt} (O : Ord l) (n : Nat) : Ord (l.take n) := fun m h1 h2 => by
  rw [List.length_take] at h2
  rw [getD_take' (by omega), getD_take' (by omega)]; exact O m h1 (by omega)
theorem drop_ev {h : HHeap} (H : Idx h) (O : Ord h.fl) (hn : h.fl.length ≤ 1000000) (key : ByteArray) :
    ∃ h', Ev (fun k => heap_Heap_Drop.f k h key) ((mget h.fat key).isSome, h') ∧ Idx h' ∧ h'.fl.length = h.fl.length - (if (mget h.fat key).isSome then 1 else 0) ∧ (∀ x, x ∈ h'.fl ↔ x ∈ h.fl ∧ x.fKey ≠ key) ∧ Ord h'.fl := by
  cases hk : mget h.fat key with
  | none =>
    refine ⟨h, ?_, H, by simp, fun x => ⟨fun hx => ⟨hx, fun e => ?_⟩, fun hx => hx.1⟩, O⟩
    · unfold heap_Heap_Drop.f
      rw [hk]
      exact Ev.ct rfl Ev.pure
    · obtain ⟨m, h1, h2⟩ := mem_getD.1 hx
      have := H.fw m h1
      rw [h2, e, hk] at this; cases this
  | some v =>
    obtain ⟨i, rfl, hi, hik⟩ := H.bw key v hk
    generalize hN : h.fl.length = n at hn hi ⊢
    have w1 : w64 ((n : Int) - 1) = ((n - 1 : Nat) : Int) := by rw [w64_id (by omega) (by omega)]; omega
    have e1 : (h.fl.take (n - 1)).drop 0 = h.fl.take (n - 1) := List.drop_zero
    have hl : (h.fl.take (n - 1)).length = n - 1 := by rw [List.length_take, hN]; omega
    have hinj : ∀ {p q : Nat}, p < n → q < n → (h.fl.getD p default).fKey = (h.fl.getD q default).fKey → p = q := fun hp hq e => H.inj (by omega) (by omega) e
    unfold heap_Heap_Drop.f
    rw [hk, hN, w1, Int.toNat_natCast, e1]
    by_cases hlt : i < n - 1
    · have Ho : Hole ⟨h.fl.take (n - 1), mdel h.fat key⟩ i (h.fl.getD (n - 1) default) (n - 1) (fun x => x ∈ h.fl ∧ x.fKey ≠ key) := by
        refine ⟨hl, hlt, fun m hm hmi => ?_, fun key' v hk' hv => ?_, fun m hm hmi e => ?_, nd_del H.nd, fun x => ?_⟩
        · show mget (mdel h.fat key) ((h.fl.take (n - 1)).getD m default).fKey = _
          rw [getD_take' hm, mget_del H.nd, if_neg (fun e => hmi (hinj (by omega) hi (by rw [← e, hik])))]
          exact H.fw m (by omega)
        · change mget (mdel h.fat key) key' = some v at hv
          rw [mget_del H.nd] at hv
          by_cases e2 : key = key'
          · rw [if_pos e2] at hv; cases hv
          · rw [if_neg e2] at hv
            obtain ⟨m, k1, k2, k3⟩ := H.bw key' v hv
            have k4 : m ≠ n - 1 := fun e => hk' (by rw [← k3, e])
            refine ⟨m, k1, by omega, fun e => e2 (by rw [← hik, ← k3, e]), ?_⟩
            show ((h.fl.take (n - 1)).getD m default).fKey = _
            rw [getD_take' (by omega)]; exact k3
        · change ((h.fl.take (n - 1)).getD m default).fKey = _ at e
          rw [getD_take' hm] at e
          have := hinj (by omega) (by omega) e
          omega
        · show (_ ∨ ∃ m, m < n - 1 ∧ m ≠ i ∧ (h.fl.take (n - 1)).getD m default = x) ↔ _
          rw [mem_getD, hN]
          constructor
          · rintro (rfl | ⟨m, k1, k2, k3⟩)
            · exact ⟨⟨n - 1, by omega, rfl⟩, fun e => by have := hinj (by omega) hi (e.trans hik.symm); omega⟩
            · rw [getD_take' k1] at k3
              exact ⟨⟨m, by omega, k3⟩, fun e => k2 (hinj (by omega) hi (by rw [k3, e, hik]))⟩
          · rintro ⟨⟨m, k1, k2⟩, k3⟩
            by_cases e2 : m = n - 1
            · subst e2; exact .inl k2.symm
            · exact .inr ⟨m, by omega, fun e => k3 (by rw [← k2, e, hik]), by rw [getD_take' (by omega)]; exact k2⟩
      obtain ⟨c1, c2, c3, c4⟩ := Ho.close
      obtain ⟨h2, j, d1, d2, d3, d4, j1, j2, o1, o2⟩ := down_ev c1 (by omega) (i := i) (by omega) (((O.take (n - 1)).hord i).set (by omega))
      rw [c4] at j2 o2
      have j3 := d2.fw j j1
      rw [j2] at j3
      obtain ⟨h3, u1, u2, u3, u4, u5⟩ := up_ev rfl (d2.hole j1) (by omega) o1 (by rw [j2]; exact o2)
      refine ⟨h3, ?_, u2, by simp only [Option.isSome_some, if_true]; omega, fun x => by rw [u4, d4, c3], u5⟩
      refine Ev.cf rfl (Ev.grd ⟨by omega, by omega⟩ (Ev.grd ⟨by omega, by omega, by omega⟩ (Ev.ct (decide_eq_true (by simp only [Option.getD_some]; omega)) ?_)))
      simp only [Option.getD_some]
      refine Ev.bind (Ev.of (set_ev (by rw [hl]; exact hlt))) (Ev.bind d1 ?_)
      rw [j3]
      exact Ev.bind u1 Ev.pure
    · obtain rfl : i = n - 1 := by omega
      refine ⟨⟨h.fl.take (n - 1), mdel h.fat key⟩, Ev.cf rfl (Ev.grd ⟨by omega, by omega⟩ (Ev.grd ⟨by omega, by omega, by omega⟩ (Ev.cf (decide_eq_false (by simp only [Option.getD_some]; omega)) Ev.pure))), ⟨fun m hm => ?_, fun key' v hv => ?_, nd_del H.nd⟩, by rw [hl]; simp, fun x => ?_, O.take _⟩
      · change m < (h.fl.take (n - 1)).length at hm
        rw [hl] at hm
        show mget (mdel h.fat key) ((h.fl.take (n - 1)).getD m default).fKey = _
        rw [getD_take' hm, mget_del H.nd, if_neg (fun e => by have := hinj (p := m) (q := n - 1) (by omega) hi (by rw [← e, hik]); omega)]
        exact H.fw m (by omega)
      · change mget (mdel h.fat key) key' = some v at hv
        rw [mget_del H.nd] at hv
        by_cases e2 : key = key'
        · rw [if_pos e2] at hv; cases hv
        · rw [if_neg e2] at hv
          obtain ⟨m, k1, k2, k3⟩ := H.bw key' v hv
          have k4 : m ≠ n - 1 := fun e => e2 (by rw [← hik, ← k3, e])
          refine ⟨m, k1, by show m < (h.fl.take (n - 1)).length; omega, ?_⟩
          show ((h.fl.take (n - 1)).getD m default).fKey = _
          rw [getD_take' (by omega)]; exact k3
      · show x ∈ h.fl.take (n - 1) ↔ _
        rw [mem_getD, mem_getD, hl, hN]
        constructor
        · rintro ⟨m, k1, k2⟩
          rw [getD_take' k1] at k2
          exact ⟨⟨m, by omega, k2⟩, fun e => by have := hinj (p := m) (q := n - 1) (by omega) hi (by rw [k2, e, hik]); omega⟩
        · rintro ⟨⟨m, k1, k2⟩, k3⟩
          have k4 : m ≠ n - 1 := fun e => k3 (by rw [← k2, e, hik])
          exact ⟨m, by omega, by rw [getD_take' (by omega)]; exact k2⟩
theorem getD_app {l : List HEnt} {x : HEnt} {m : Nat} : (l ++ [x]).getD m default = if m < l.length then l.getD m default else if m = l.length then x else default := by
  simp only [List.getD_eq_getElem?_getD, List.getElem?_append]
  by_cases h : m < l.length
  · simp [h]
  · rw [if_neg h, if_neg h]
    by_cases h2 : m = l.length
    · subst h2; simp
    · rw [if_neg h2, List.getElem?_eq_none (by simp; omega)]; rfl
theorem put_ev {h : HHeap} (H : Idx h) (O : Ord h.fl) (hn : h.fl.length ≤ 100000) (at_ : Int) (key : ByteArray) :
    ∃ h', Ev (fun k => heap_Heap_Put.f k h at_ key) h' ∧ Idx h' ∧ h'.fl.length = h.fl.length + 1 - (if (mget h.fat key).isSome then 1 else 0) ∧ (∀ x, x ∈ h'.fl ↔ x = ⟨at_, key⟩ ∨ (x ∈ h.fl ∧ x.fKey ≠ key)) ∧ Ord h'.fl := by
  obtain ⟨h1, d1, d2, d3, d4, d5⟩ := drop_ev H O (by omega) key
  have hl : h1.fl.length ≤ h.fl.length := by omega
  have hd : (if (mget h.fat key).isSome then 1 else 0) ≤ h.fl.length := by
    cases hk : mget h.fat key with
    | none => simp
    | some v => obtain ⟨i, _, hi, _⟩ := H.bw key v hk; simp; omega
  have w1 : w64 (((h1.fl ++ ([(⟨at_, key⟩ : HEnt)] : List HEnt)).length : Int) - 1) = ((h1.fl.length : Nat) : Int) := by
    rw [List.length_append, List.length_singleton, w64_id (by omega) (by omega)]; omega
  have hne : ∀ m, m < h1.fl.length → (h1.fl.getD m default).fKey ≠ key := fun m hm => ((d4 _).1 (mem_getD.2 ⟨m, hm, rfl⟩)).2
  have Ho : Hole ⟨h1.fl ++ [⟨at_, key⟩], h1.fat⟩ h1.fl.length ⟨at_, key⟩ (h1.fl.length + 1) (fun x => x = ⟨at_, key⟩ ∨ (x ∈ h.fl ∧ x.fKey ≠ key)) := by
    refine ⟨by simp, by omega, fun m hm hmi => ?_, fun key' v hk' hv => ?_, fun m hm hmi => ?_, d2.nd, fun x => ?_⟩
    · show mget h1.fat ((h1.fl ++ [_]).getD m default).fKey = _
      rw [getD_app, if_pos (by omega)]; exact d2.fw m (by omega)
    · obtain ⟨m, k1, k2, k3⟩ := d2.bw key' v hv
      refine ⟨m, k1, by omega, by omega, ?_⟩
      show ((h1.fl ++ [_]).getD m default).fKey = _
      rw [getD_app, if_pos k2]; exact k3
    · show ((h1.fl ++ [_]).getD m default).fKey ≠ _
      rw [getD_app, if_pos (by omega)]; exact hne m (by omega)
    · rw [← d4, mem_getD]
      constructor
      · rintro (h8 | ⟨m, k1, k2, k3⟩)
        · exact .inl h8
        · change (h1.fl ++ [_]).getD m default = x at k3
          rw [getD_app, if_pos (by omega)] at k3
          exact .inr ⟨m, by omega, k3⟩
      · rintro (h8 | ⟨m, k1, k2⟩)
        · exact .inl h8
        · refine .inr ⟨m, by omega, by omega, ?_⟩
          show (h1.fl ++ [_]).getD m default = x
          rw [getD_app, if_pos k1]; exact k2
  have O2 : Hord (h1.fl ++ [⟨at_, key⟩]) h1.fl.length := by
    refine ⟨fun m m1 m2 m3 m4 => ?_, fun m1 c c1 c2 c3 => ?_⟩
    · rw [List.length_append, List.length_singleton] at m2
      rw [getD_app, getD_app, if_pos (by omega), if_pos (by omega)]
      exact d5 m m1 (by omega)
    · rw [List.length_append, List.length_singleton] at c2; omega
  have V2 : Over (h1.fl ++ [⟨at_, key⟩]) h1.fl.length ⟨at_, key⟩ := fun c c1 c2 c3 => by
    rw [List.length_append, List.length_singleton] at c2; omega
  obtain ⟨h2, u1, u2, u3, u4, u5⟩ := up_ev (by show (h1.fl ++ [_]).getD _ default = _; rw [getD_app, if_neg (by omega), if_pos rfl]) Ho (by omega) O2 V2
  refine ⟨h2, ?_, u2, by omega, u4, u5⟩
  unfold heap_Heap_Put.f
  refine Ev.bind d1 (Ev.grd ⟨by simp; omega, by simp; omega⟩ ?_)
  rw [w1]
  exact Ev.bind u1 Ev.pure
theorem ord_nil : Ord [] := fun m h1 h2 => by simp at h2
theorem idx_new : Idx ⟨[], []⟩ := ⟨fun i hi => by simp at hi, fun key v hv => (by cases hv), nd_nil⟩
end Go.Proofs.YtmbodanckhidiaaGreat
