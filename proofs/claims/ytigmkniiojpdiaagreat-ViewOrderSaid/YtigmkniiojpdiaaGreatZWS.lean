/- Plain: views of the same events. -/
import Derived.Test.YtigmkniiojpdiaaGreatZWA
import Derived.Test.YtigmkniiojpdiaaGreatZMO
import Derived.Test.YtigmkniiojpdiaaGreatZWH
set_option linter.all false
set_option maxRecDepth 10000
namespace Go.Proofs.YtigmkniiojpdiaaGreat
open Go Go.Sp
theorem equal_refl {vs : List ByteArray} (hb : vs.length ≤ 100000) : Ev (fun k => slices_Equal_string.f k vs vs) true := by
  have key : ∀ d m : Nat, vs.length - m = d → m ≤ vs.length → El (fun k j => slices_Equal_string.l0 k vs vs j (m : Int)) (.inl ((vs.length : Int), false)) := by
    intro d
    induction d with
    | zero =>
      intro m hd hm
      obtain rfl : m = vs.length := by omega
      refine El.step (fun _ _ => by rw [slices_Equal_string.l0]) ?_
      exact El.cf (by simp) (by simpa using El.pure)
    | succ d ih =>
      intro m hd hm
      refine El.step (fun _ _ => by rw [slices_Equal_string.l0]) ?_
      rw [rp_inc (show m ≤ 1000000 by omega)]
      exact El.ct (decide_eq_true (by omega)) (El.grd ⟨by omega, by omega⟩ (El.grd ⟨by omega, by omega⟩ (El.cf (by simp) (ih (m + 1) (by omega) (by omega)))))
  unfold slices_Equal_string.f
  exact Ev.cf (by simp) (Ev.bind (key _ 0 rfl (by omega)).diag (Ev.of rfl))
theorem dsame_refl {e : Event} (h : e.fParents.length ≤ 100000) : Ev (fun k => dag_Same.f k e e) true := by
  unfold dag_Same.f
  exact Ev.ct (by simp) (Ev.ct (by simp) (Ev.bind (equal_refl h) (Ev.ct rfl (Ev.ct (by simp) (Ev.ct (by simp) (Ev.of (by simp)))))))
theorem eqfunc_refl {A : List Event} (hl : A.length ≤ 1000) (hp : ∀ e ∈ A, e.fParents.length ≤ 4) : Ev (fun k => slices_EqualFunc_Event_Event.f k A A (dag_Same.f k)) true := by
  have key : ∀ n x : Nat, A.length - x = n → x ≤ A.length → El (fun k j => slices_EqualFunc_Event_Event.l0 k A A (dag_Same.f k) j (x : Int)) (.inl ((A.length : Int), false)) := by
    intro n
    induction n with
    | zero =>
      intro x hd hx
      obtain rfl : x = A.length := by omega
      refine El.step (fun _ _ => by rw [slices_EqualFunc_Event_Event.l0]) ?_
      exact El.cf (by simp) (by simpa using El.pure)
    | succ n ih =>
      intro x hd hx
      have hx2 : x < A.length := by omega
      refine El.step (fun _ _ => by rw [slices_EqualFunc_Event_Event.l0]) ?_
      rw [rp_inc (show x ≤ 1000000 by omega), ev_at (l := A) hx2]
      exact El.ct (decide_eq_true (by omega)) (El.grd ⟨by omega, by omega⟩ (El.grd ⟨by omega, by omega⟩ (El.bind (dsame_refl (by have := hp _ (ev_mem hx2); omega)).el (El.cf rfl (ih (x + 1) (by omega) (by omega))))))
  unfold slices_EqualFunc_Event_Event.f
  exact Ev.cf (by simp) (Ev.bind (key _ 0 rfl (by omega)).diag (Ev.of rfl))
/-- Two views whose rooms and events are the same. -/
theorem same_true {v x : VView} {w z : RView} (hr : RelV v w) (hz : RelV x z) (hl : w.fD.length ≤ 1000) (hl2 : z.fD.length ≤ 1000) (hR : rms z = rms w) (hd : ∀ room, (ofR w room).fL.length ≤ 1000) (hd2 : ∀ room, (ofR z room).fL.length ≤ 1000) (hA : ∀ room, allE (tb (ofR z room).fL) = allE (tb (ofR w room).fL)) : Ev (fun k => view_View_Same.f k v x) true := by
  have pred : ∀ room, Ev (fun k => view_View_Same_1.f k room v x) false := fun room => by
    have hg := rg_room hr hl room (hd room)
    have e2 := vevents_ev hz hl2 room (hd2 room)
    rw [hA room] at e2
    have hAl : (allE (tb (ofR w room).fL)).length ≤ 1000 := by rw [(all_perm hg.good).length_eq]; exact hd room
    unfold view_View_Same_1.f
    exact Ev.bind (vevents_ev hr hl room (hd room)) (Ev.bind e2 (Ev.bind (eqfunc_refl hAl fun e he => hg.par _ ((all_perm hg.good).mem_iff.1 he)) (Ev.of rfl)))
  have key : ∀ n m : Nat, (rms w).length - m = n → m ≤ (rms w).length → El (fun k j => slices_IndexFunc_string_xw.l0 k (rms w) (fun a0_ => view_View_Same_1.f k a0_ v x) j (m : Int)) (.inl (((rms w).length : Int), false)) := by
    have hrl : (rms w).length ≤ 1000 := by unfold rms; rw [List.length_map]; exact hl
    intro n
    induction n with
    | zero =>
      intro m hd hm
      obtain rfl : m = (rms w).length := by omega
      refine El.step (fun _ _ => by rw [slices_IndexFunc_string_xw.l0]) ?_
      exact El.cf (by simp) (by simpa using El.pure)
    | succ n ih =>
      intro m hd hm
      refine El.step (fun _ _ => by rw [slices_IndexFunc_string_xw.l0]) ?_
      rw [rp_inc (show m ≤ 1000000 by omega)]
      exact El.ct (decide_eq_true (by omega)) (El.grd ⟨by omega, by omega⟩ (El.bind (pred _).el (El.cf rfl (ih (m + 1) (by omega) (by omega)))))
  have hrl : (rms w).length ≤ 100000 := by unfold rms; rw [List.length_map]; omega
  have vz := vrooms_ev hz hl2
  rw [hR] at vz
  unfold view_View_Same.f
  refine Ev.bind (Ev.of (vrooms_ev hr hl)) (Ev.bind (Ev.of vz) (Ev.bind (equal_refl hrl) (Ev.ct rfl (Ev.bind (Ev.of (vrooms_ev hr hl)) (Ev.bind (a := false) ?_ (Ev.of rfl))))))
  unfold slices_ContainsFunc_string_xw.f slices_IndexFunc_string_xw.f
  exact Ev.bind (Ev.bind (key _ 0 rfl (by omega)).diag (Ev.of rfl)) (Ev.of rfl)
theorem rms_iff {v : VView} {w : RView} (hr : RelV v w) (room : ByteArray) : room ∈ rms w ↔ (ofR w room).fL ≠ [] := by
  unfold rms ofR
  cases h : w.fD.find? fun d => decide (d.fRoom = room) with
  | none =>
    have h2 := List.find?_eq_none.1 h
    exact ⟨fun k => by obtain ⟨d, hd, he⟩ := List.mem_map.1 k; exact absurd (by simpa using he) (h2 d hd), fun k => absurd rfl k⟩
  | some d =>
    have h1 := List.mem_of_find?_eq_some h
    have h3 : d.fRoom = room := by simpa using List.find?_some h
    exact ⟨fun _ => hr.ne d h1, fun _ => List.mem_map.2 ⟨d, h1, h3⟩⟩
/-- Of a room's events one comes to a part of them: it is taken, or is there, or something is not known yet. -/
theorem code_sub {room : ByteArray} {L L' : List Event} (hc : Chain room L) (hs : ∀ e ∈ L', e ∈ L) {i : Nat} (hi : i < L.length) : code ⟨room, L'⟩ (ev L i) = 0 ∨ code ⟨room, L'⟩ (ev L i) = 4 ∨ code ⟨room, L'⟩ (ev L i) = 9 := by
  have h := (hc i hi).2.2
  have hg := chain_good hc
  have hl : (L.take i).length = i := by rw [List.length_take]; omega
  have e : ∀ j, j < i → ev (L.take i) j = ev L j := fun j hj => by
    unfold ev; rw [List.getD_eq_getElem?_getD, List.getD_eq_getElem?_getD, List.getElem?_take, if_pos hj]
  unfold code at h ⊢
  split at h
  · cases h
  · rename_i c1
    rw [if_neg c1]
    split at h
    · cases h
    · rename_i c2
      rw [if_neg c2]
      split at h
      · cases h
      · split at h
        · cases h
        · by_cases c3 : 0 ≤ ix (⟨room, L'⟩ : RDag).fL (ev L i).fID
          · rw [if_pos c3]; exact .inr (.inr rfl)
          · rw [if_neg c3]
            by_cases c4 : allp (fun x => decide (0 ≤ ix (⟨room, L'⟩ : RDag).fL (par (ev L i) x))) 0 (ev L i).fParents.length = false
            · rw [if_pos c4]; exact .inr (.inl rfl)
            · rw [if_neg c4]
              split at h
              · rename_i c5; rw [if_pos c5]; exact .inl rfl
              · rename_i c5
                rw [if_neg c5]
                split at h
                · cases h
                · rename_i c6
                  by_cases c7 : ix (⟨room, L'⟩ : RDag).fL (ev L i).fThread < 0
                  · rw [if_pos c7]; exact .inr (.inl rfl)
                  · rw [if_neg c7]
                    -- the root is the same event
                    have h1 : ev L' (ix L' (ev L i).fThread).toNat = ev (L.take i) (ix (L.take i) (ev L i).fThread).toNat := by
                      rcases ix_rng L' (ev L i).fThread with ⟨q, _⟩ | ⟨j, q, hj, he⟩
                      · exact absurd (show ix L' (ev L i).fThread < 0 by omega) c7
                      · rcases ix_rng (L.take i) (ev L i).fThread with ⟨q2, _⟩ | ⟨j2, q2, hj2, he2⟩
                        · exact absurd (show ix (L.take i) (ev L i).fThread < 0 by omega) c6
                        · rw [q, q2, Int.toNat_natCast, Int.toNat_natCast]
                          rw [hl] at hj2
                          refine good_same hg (hs _ (ev_mem hj)) (by rw [e j2 hj2]; exact ev_mem (by omega)) (he.trans he2.symm)
                    have h7 : ev (⟨room, L'⟩ : RDag).fL (ix (⟨room, L'⟩ : RDag).fL (ev L i).fThread).toNat = ev (⟨room, L.take i⟩ : RDag).fL (ix (⟨room, L.take i⟩ : RDag).fL (ev L i).fThread).toNat := h1
                    rw [h7]
                    exact .inl h
theorem code9_in {room : ByteArray} {L L' : List Event} (hg : Good L) (hs : ∀ e ∈ L', e ∈ L) {i : Nat} (hi : i < L.length) (k : code ⟨room, L'⟩ (ev L i) = 9) : ev L i ∈ L' := by
  have h9 : 0 ≤ ix L' (ev L i).fID := by
    unfold code at k
    split at k
    · cases k
    · split at k
      · cases k
      · split at k
        · assumption
        · split at k
          · cases k
          · split at k
            · cases k
            · split at k
              · cases k
              · split at k
                · cases k
                · split at k <;> cases k
  rcases ix_rng L' (ev L i).fID with ⟨q, _⟩ | ⟨j, q, hj, he⟩
  · omega
  · have := good_same hg (hs _ (ev_mem hj)) (ev_mem hi) he
    rw [← this]; exact ev_mem hj
/-- A view of some of the events of rooms. -/
structure VS (F : ByteArray → List Event) (x : VView) (w : RView) : Prop where
  rel : RelV x w
  sub : ∀ room, ∀ e ∈ (ofR w room).fL, e ∈ F room
  ch : ∀ room, Chain room (ofR w room).fL
section
variable {F : ByteArray → List Event} (hF : ∀ room, Chain room (F room)) (hFl : ∀ room, (F room).length ≤ 9) {S : List ByteArray} (hS : ∀ room, F room ≠ [] → room ∈ S) (hSl : S.length ≤ 10)
include hF hFl hS hSl
theorem vs_len {x : VView} {w : RView} (h : VS F x w) : w.fD.length ≤ 10 ∧ ∀ room, (ofR w room).fL.length ≤ 9 := by
  constructor
  · have h1 : (rms w).length ≤ S.length := len_sub h.rel.nd fun room hr => by
      refine hS room fun h0 => ?_
      have := (rms_iff h.rel room).1 hr
      cases hL : (ofR w room).fL with
      | nil => exact this hL
      | cons e l => have := h.sub room e (by rw [hL]; exact List.mem_cons_self ..); rw [h0] at this; cases this
    unfold rms at h1
    rw [List.length_map] at h1
    omega
  · intro room
    exact Nat.le_trans (len_sub (good_nodup (chain_good (h.ch room))) (h.sub room)) (hFl room)
theorem vs_add {x : VView} {w : RView} (h : VS F x w) {room : ByteArray} {i : Nat} (hi : i < (F room).length) :
    ∃ c x' w', Ev (fun k => view_View_Add.f k x (ev (F room) i)) (c, x') ∧ (c = 0 ∨ c = 4 ∨ c = 9) ∧ VS F x' w' ∧ (∀ r e, e ∈ (ofR w r).fL → e ∈ (ofR w' r).fL) ∧ ((∀ j, j < i → ev (F room) j ∈ (ofR w room).fL) → ev (F room) i ∈ (ofR w' room).fL) := by
  obtain ⟨l1, l2⟩ := vs_len hF hFl hS hSl h
  obtain ⟨h1, h2, _⟩ := hF room i hi
  obtain ⟨x', w', a1, a2, a3, a4, a5⟩ := viewAdd h.rel h1 (by omega) (by have := l2 (ev (F room) i).fRoom; omega)
  rw [h2] at a1 a2 a4 a5
  have hR : ofR w room = ⟨room, (ofR w room).fL⟩ := by
    have := ofR_room w room
    cases hh : ofR w room with
    | mk r l => rw [hh] at this; simp only at this; rw [this]
  have hcs := code_sub (hF room) (h.sub room) hi
  rw [← hR] at hcs
  refine ⟨_, x', w', a1, hcs, ?_⟩
  by_cases h0 : code (ofR w room) (ev (F room) i) = 0
  · obtain ⟨b1, _⟩ := a5 h0
    have h0' : code ⟨room, (ofR w room).fL⟩ (ev (F room) i) = 0 := by rw [← hR]; exact h0
    refine ⟨⟨a3, fun r e he => ?_, fun r => ?_⟩, fun r e he => ?_, fun _ => ?_⟩
    · rw [b1] at he
      split at he
      · rename_i hr
        rw [hr]
        rcases List.mem_append.1 he with k | k
        · exact h.sub room e k
        · rw [List.mem_singleton.1 k]; exact ev_mem hi
      · exact h.sub r e he
    · rw [b1]
      split
      · rename_i hr
        rw [hr]
        exact chain_app (h.ch room) h1 h2 h0'
      · exact h.ch r
    · rw [b1]
      split
      · rename_i hr; rw [hr] at he; exact List.mem_append.2 (.inl he)
      · exact he
    · rw [b1, if_pos rfl]; simp
  · obtain ⟨b1, b2⟩ := a4 h0
    rw [b1, b2]
    refine ⟨h, fun _ _ he => he, fun hp => ?_⟩
    rcases code_in (hF room) (chain_good (h.ch room)) (h.sub room) hi hp with k | k
    · rw [← hR] at k; exact absurd k h0
    · exact code9_in (chain_good (hF room)) (h.sub room) hi k
end
end Go.Proofs.YtigmkniiojpdiaaGreat
