/- Plain: what is due is taken. -/
import Derived.Test.YtmbodanckhidiaaGreatZPF
import Derived.Test.YtmbodanckhidiaaGreatConS
set_option linter.all false
set_option maxRecDepth 10000
namespace Go.Proofs.YtmbodanckhidiaaGreat
open Go Go.Sp
theorem ord_min {l : List HEnt} (O : Ord l) : ∀ m, m < l.length → leH (l.getD 0 default) (l.getD m default) := by
  intro m
  induction m using Nat.strongRecOn with
  | _ m ih =>
    intro hm
    by_cases h0 : m = 0
    · subst h0; exact leH_refl _
    · exact leH_trans (ih ((m - 1) / 2) (by omega) (by omega)) (O m (by omega) hm)
theorem ord_at {l : List HEnt} (O : Ord l) {x : HEnt} (hx : x ∈ l) : (l.getD 0 default).fAt ≤ x.fAt := by
  obtain ⟨m, h1, h2⟩ := mem_getD.1 hx
  have := leH_iff.1 (ord_min O m h1)
  rw [h2] at this
  omega
theorem due_loop (t : Int) : ∀ (n : Nat) (h : HHeap) (out : List ByteArray), h.fl.length = n → Idx h → Ord h.fl → n + out.length ≤ 100000 →
    ∃ b h' vs, El (fun k j => heap_Heap_Due.l0 k t j h out) (b, h', out ++ vs) ∧ Idx h' ∧ Ord h'.fl ∧ h'.fl.length + vs.length = n ∧ (∀ x, x ∈ h'.fl ↔ x ∈ h.fl ∧ t < x.fAt) ∧ (∀ key, key ∈ vs ↔ ∃ x ∈ h.fl, x.fAt ≤ t ∧ x.fKey = key) ∧ vs.Nodup := by
  intro n
  induction n with
  | zero =>
    intro h out hl H O hb
    have e : h.fl = [] := List.eq_nil_of_length_eq_zero hl
    refine ⟨false, h, [], ?_, H, O, by rw [hl]; rfl, fun x => by rw [e]; simp, fun key => by rw [e]; simp, List.nodup_nil⟩
    refine El.step (fun _ _ => by rw [heap_Heap_Due.l0]) ?_
    rw [List.append_nil]
    exact El.cf (by rw [hl]; rfl) El.pure
  | succ n ih =>
    intro h out hl H O hb
    have h0 : 0 < h.fl.length := by omega
    have e0 : ((0 : Int).toNat) = 0 := rfl
    have gz : (0 : Int) ≤ 0 ∧ (0 : Int) < (h.fl.length : Int) := ⟨by omega, by omega⟩
    by_cases hd : (h.fl.getD 0 default).fAt ≤ t
    · have hm : mget h.fat (h.fl.getD 0 default).fKey = some ((0 : Nat) : Int) := H.fw 0 h0
      obtain ⟨h1, d1, d2, d3, d4, d5⟩ := drop_ev H O (by omega) (h.fl.getD 0 default).fKey
      rw [hm] at d1 d3
      simp only [Option.isSome_some, if_true] at d1 d3
      obtain ⟨b, h', vs, q1, q2, q3, q4, q5, q6, q7⟩ := ih h1 (out ++ [(h.fl.getD 0 default).fKey]) (by omega) d2 d5 (by simp; omega)
      have hx0 : h.fl.getD 0 default ∈ h.fl := getD_mem h0
      refine ⟨b, h', (h.fl.getD 0 default).fKey :: vs, ?_, q2, q3, by simp only [List.length_cons]; omega, fun x => ?_, fun key => ?_, List.nodup_cons.2 ⟨fun hk => ?_, q7⟩⟩
      · refine El.step (fun _ _ => by rw [heap_Heap_Due.l0]) ?_
        rw [e0]
        refine El.ct (decide_eq_true (by omega)) (El.grd gz (El.ct (decide_eq_true hd) (El.grd gz (El.grd ⟨by simp; omega, by simp; omega⟩ (El.grd gz (El.bind d1.el ?_))))))
        rw [List.append_assoc] at q1
        exact q1
      · rw [q5, d4]
        constructor
        · rintro ⟨⟨a, _⟩, c⟩; exact ⟨a, c⟩
        · rintro ⟨a, c⟩
          refine ⟨⟨a, fun e => ?_⟩, c⟩
          obtain ⟨m, m1, m2⟩ := mem_getD.1 a
          have : m = 0 := H.inj m1 h0 (by rw [m2]; exact e)
          subst this
          rw [m2] at hd; omega
      · rw [List.mem_cons, q6]
        constructor
        · rintro (rfl | ⟨x, a, c, rfl⟩)
          · exact ⟨_, hx0, hd, rfl⟩
          · exact ⟨x, ((d4 x).1 a).1, c, rfl⟩
        · rintro ⟨x, a, c, rfl⟩
          by_cases e : x.fKey = (h.fl.getD 0 default).fKey
          · exact .inl e
          · exact .inr ⟨x, (d4 x).2 ⟨a, e⟩, c, rfl⟩
      · obtain ⟨x, a, _, e⟩ := (q6 _).1 hk
        exact ((d4 x).1 a).2 e
    · refine ⟨false, h, [], ?_, H, O, by rw [hl]; rfl, fun x => ⟨fun a => ⟨a, by have := ord_at O a; omega⟩, fun a => a.1⟩, fun key => ?_, List.nodup_nil⟩
      · refine El.step (fun _ _ => by rw [heap_Heap_Due.l0]) ?_
        rw [e0, List.append_nil]
        refine El.ct (decide_eq_true (by omega)) (El.grd gz (El.cf (decide_eq_false hd) ?_))
        rw [decide_eq_false hd]; exact El.pure
      · constructor
        · intro k; cases k
        · rintro ⟨x, a, c, _⟩; have := ord_at O a; omega
theorem due_ev {h : HHeap} (H : Idx h) (O : Ord h.fl) (hn : h.fl.length ≤ 100000) (t : Int) :
    ∃ h' vs, Ev (fun k => heap_Heap_Due.f k h t) (vs, h') ∧ Idx h' ∧ Ord h'.fl ∧ h'.fl.length + vs.length = h.fl.length ∧ (∀ x, x ∈ h'.fl ↔ x ∈ h.fl ∧ t < x.fAt) ∧ (∀ key, key ∈ vs ↔ ∃ x ∈ h.fl, x.fAt ≤ t ∧ x.fKey = key) ∧ vs.Nodup := by
  obtain ⟨b, h', vs, q1, q2⟩ := due_loop t _ h [] rfl H O (by simpa using hn)
  refine ⟨h', vs, ?_, q2⟩
  unfold heap_Heap_Due.f
  exact Ev.bind q1.diag (Ev.of (by simp))
theorem first_ev {h : HHeap} (O : Ord h.fl) : (h.fl = [] ∧ heap_Heap_First.f h = some (⟨0, ⟨#[]⟩⟩, false)) ∨ ∃ x, x ∈ h.fl ∧ heap_Heap_First.f h = some (x, true) ∧ ∀ y ∈ h.fl, x.fAt ≤ y.fAt := by
  unfold heap_Heap_First.f
  by_cases h0 : h.fl = []
  · left; rw [h0]; exact ⟨rfl, rfl⟩
  · right
    have hl : 0 < h.fl.length := List.length_pos_iff.2 h0
    refine ⟨h.fl.getD 0 default, getD_mem hl, ?_, fun y hy => ord_at O hy⟩
    have : ((h.fl.length : Int) == 0) = false := by simp; omega
    rw [this]
    simp only [cond_false, grd]
    rw [if_pos ⟨by omega, by omega⟩]; rfl
end Go.Proofs.YtmbodanckhidiaaGreat
