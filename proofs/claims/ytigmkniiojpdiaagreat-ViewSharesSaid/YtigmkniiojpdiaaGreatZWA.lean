/- Plain: heads, rooms, and all events of a room, in the view. -/
import Derived.Test.YtigmkniiojpdiaaGreatZVH
import Derived.Test.YtigmkniiojpdiaaGreatZMH
set_option linter.all false
set_option maxRecDepth 10000
namespace Go.Proofs.YtigmkniiojpdiaaGreat
open Go Go.Sp
theorem rg_of {m : DDag} {d : RDag} (h : RelT m d) (hl : d.fL.length ≤ 1000) : RG d.fL := ⟨h.good, h.par, h.does, h.usr, hl⟩
theorem srtF_filter {α : Type} {cf : α → α → Int} (hO : Go.Sort.SWO (ltOf cf)) (hT : ∀ x y, ltOf cf x y = false → ltOf cf y x = false → x = y) (q : α → Bool) (xs : List α) : srtF cf (xs.filter q) = (srtF cf xs).filter q :=
  perm_unique (fun x y h1 h2 => hT x y h2 h1) ((srtF_p _).trans ((srtF_p xs).filter q).symm) (srtF_pw hO _) ((srtF_pw hO xs).filter q)
theorem heads_flg {L : List Event} : ∀ fs : List (ByteArray × DNode), (∀ x ∈ fs, x.2.fparent = isPar L x.1) → fs.filterMap dag_Dag_ids_Heads.g = (fs.map fun x => (⟨x.2.fdepth, x.1⟩ : Pos)).filter fun p => !isPar L p.fID
  | [], _ => rfl
  | x :: fs, h => by
    have ih := heads_flg fs fun y hy => h y (List.mem_cons_of_mem _ hy)
    have hx := h x (List.mem_cons_self ..)
    rw [List.filterMap_cons, List.map_cons, List.filter_cons, ih]
    unfold dag_Dag_ids_Heads.g
    rw [hx]
    cases isPar L x.1 <;> rfl
theorem heads_map {t : Tab} {L : List Event} : ∀ S : List Pos, (∀ p ∈ S, (evOf t p.fID).fID = p.fID) → (S.filter fun p => !isPar L p.fID).map (·.fID) = headsE L (S.map fun p => evOf t p.fID)
  | [], _ => rfl
  | p :: S, h => by
    have ih := heads_map (t := t) (L := L) S fun q hq => h q (List.mem_cons_of_mem _ hq)
    have hp := h p (List.mem_cons_self ..)
    unfold headsE at ih ⊢
    rw [List.map_cons, List.filter_cons, List.filter_cons, hp]
    cases isPar L p.fID with
    | true => simpa using ih
    | false => simp only [Bool.not_false, if_true, List.map_cons, hp]; rw [ih]
/-- The heads of a dag. -/
theorem dheads_ev {m : DDag} {d : RDag} (h : RelT m d) (hl : d.fL.length ≤ 1000) : dag_Dag_Heads.f m = some (headsE d.fL (allE (tb d.fL))) := by
  have hfn : m.fnodes.length = d.fL.length := by
    have := congrArg List.length h.tab
    unfold T at this
    rw [List.length_map, tb_len] at this; exact this
  have e1 : (m.fnodes.map fun x => (⟨x.2.fdepth, x.1⟩ : Pos)) = PL (tb d.fL) := by
    unfold PL; rw [← h.tab]; unfold T; rw [List.map_map]; rfl
  unfold dag_Dag_Heads.f dag_Dag_ids_Heads.f
  rw [heads_flg _ h.flg, e1, srtF_filter posC_swo posC_tot]
  simp only [grd]
  rw [if_pos (by omega)]
  show some _ = some _
  congr 1
  refine heads_map (t := tb d.fL) _ fun p hp => ?_
  obtain ⟨x, hx, rfl⟩ := List.mem_map.1 ((srtF_p _).mem_iff.1 hp)
  show (evOf (tb d.fL) x.1).fID = x.1
  rw [evOf_in (good_nd h.good) hx]
  exact tb_id _ x hx
theorem same_ev {e : Event} (h : e.fParents.length ≤ 100000) : Ev (fun k => concourseref07_Same.f k e e) true := by
  unfold concourseref07_Same.f
  refine Ev.bind (sametexts_refl h) (Ev.ct rfl (Ev.ct (by simp) (Ev.ct (by simp) (Ev.ct (by simp) (Ev.ct (by simp) (Ev.of (by simp)))))))
theorem sameall_ev {A : List Event} (hl : A.length ≤ 1000) (hp : ∀ e ∈ A, e.fParents.length ≤ 4) : Ev (fun k => concourseref07_SameAll.f k A A) true := by
  have key : ∀ n x : Nat, A.length - x = n → x ≤ A.length → El (fun k j => concourseref07_SameAll.l0 k A A j (x : Int)) (.inl ((A.length : Int), false)) := by
    intro n
    induction n with
    | zero =>
      intro x hd hx
      obtain rfl : x = A.length := by omega
      refine El.step (fun _ _ => by rw [concourseref07_SameAll.l0]) ?_
      exact El.cf (by simp) (by simpa using El.pure)
    | succ n ih =>
      intro x hd hx
      have hx2 : x < A.length := by omega
      refine El.step (fun _ _ => by rw [concourseref07_SameAll.l0]) ?_
      rw [rp_inc (show x ≤ 1000000 by omega), ev_at (l := A) hx2]
      exact El.ct (decide_eq_true (by omega)) (El.grd ⟨by omega, by omega⟩ (El.grd ⟨by omega, by omega⟩ (El.bind (same_ev (by have := hp _ (ev_mem hx2); omega)).el (El.cf rfl (ih (x + 1) (by omega) (by omega))))))
  unfold concourseref07_SameAll.f
  exact Ev.cf (by simp) (Ev.bind (key _ 0 rfl (by omega)).diag (Ev.of rfl))
def rms (w : RView) : List ByteArray := w.fD.map (·.fRoom)
theorem rrooms_ev {w : RView} (hl : w.fD.length ≤ 1000) : Ev (fun k => concourseref10_Rooms.f k w) (rms w) := by
  have key : ∀ n x : Nat, w.fD.length - x = n → x ≤ w.fD.length → ∀ out : List ByteArray, out.length = x → El (fun k j => concourseref10_Rooms.l0 k w j (x : Int) out) ((w.fD.length : Int), false, out ++ (w.fD.drop x).map (·.fRoom)) := by
    intro n
    induction n with
    | zero =>
      intro x hd hx out ho
      obtain rfl : x = w.fD.length := by omega
      refine El.step (fun _ _ => by rw [concourseref10_Rooms.l0]) ?_
      rw [List.drop_length]
      exact El.cf (by simp) (by simpa using El.pure)
    | succ n ih =>
      intro x hd hx out ho
      have hx2 : x < w.fD.length := by omega
      have e1 : RDag.K.at w.fD (x : Int) = w.fD[x] := by rw [kat _ _ default hx2, List.getD_eq_getElem?_getD, List.getElem?_eq_getElem hx2]; rfl
      have := ih (x + 1) (by omega) (by omega) (out ++ [w.fD[x].fRoom]) (by rw [List.length_append, List.length_singleton]; omega)
      refine El.step (fun _ _ => by rw [concourseref10_Rooms.l0]) ?_
      rw [rp_inc (show x ≤ 1000000 by omega), e1, List.drop_eq_getElem_cons hx2, List.map_cons]
      rw [List.append_assoc] at this
      exact El.ct (decide_eq_true (by omega)) (El.grd ⟨by omega, by omega⟩ (El.grd ⟨by rw [List.length_singleton]; omega, by rw [List.length_singleton]; omega⟩ this))
  unfold concourseref10_Rooms.f
  exact Ev.bind (key _ 0 rfl (by omega) [] rfl).diag (Ev.of (by rw [List.drop_zero]; rfl))
theorem vkeys {v : VView} {w : RView} (hr : RelV v w) (u : ByteArray) : u ∈ v.fdags.map (·.1) ↔ u ∈ rms w := by
  rw [mget_some]
  by_cases h : ∃ d ∈ w.fD, d.fRoom = u
  · obtain ⟨d, hd, rfl⟩ := h
    obtain ⟨m, h1, _⟩ := hr.got d hd
    rw [h1]
    exact ⟨fun _ => List.mem_map.2 ⟨d, hd, rfl⟩, fun _ => rfl⟩
  · have h2 := hr.non u fun d hd he => h ⟨d, hd, he⟩
    rw [h2]
    exact ⟨fun k => (by cases k), fun k => by obtain ⟨d, hd, he⟩ := List.mem_map.1 k; exact absurd ⟨d, hd, he⟩ h⟩
theorem vrooms_ev {v : VView} {w : RView} (hr : RelV v w) (hl : w.fD.length ≤ 1000) : view_View_Rooms.f v = some (rms w) := by
  have hp : (v.fdags.map (·.1)).Perm (rms w) := (List.perm_ext_iff_of_nodup hr.ndv hr.nd).2 (vkeys hr)
  have hlen : v.fdags.length = w.fD.length := by have := hp.length_eq; unfold rms at this; rwa [List.length_map, List.length_map] at this
  have e : srtS (v.fdags.map (·.1)) = rms w := srtT_ext (srtS_nodup hr.ndv) hr.srt fun u => by rw [srtS_mem, vkeys hr]
  unfold view_View_Rooms.f
  simp only [grd]
  rw [if_pos (by omega), e]
section
variable {v : VView} {w : RView} (hr : RelV v w) (hl : w.fD.length ≤ 1000)
include hr hl
theorem vevents_ev (room : ByteArray) (hd : (ofR w room).fL.length ≤ 1000) : Ev (fun k => view_View_Events.f k v room) (allE (tb (ofR w room).fL)) := by
  obtain ⟨m, h1, h2, _⟩ := relV_of hr room
  unfold view_View_Events.f
  exact Ev.bind (Ev.of h1) (Ev.bind (all_ev (rt_of (rg_of h2 hd) h2.tab)) Ev.pure)
theorem vheads_ev (room : ByteArray) (hd : (ofR w room).fL.length ≤ 1000) : view_View_Heads.f v room = some (headsE (ofR w room).fL (allE (tb (ofR w room).fL))) := by
  obtain ⟨m, h1, h2, _⟩ := relV_of hr room
  unfold view_View_Heads.f
  rw [h1]
  show ((dag_Dag_Heads.f m).bind fun t862 => some t862) = _
  rw [dheads_ev h2 hd]; rfl
theorem rg_room (room : ByteArray) (hd : (ofR w room).fL.length ≤ 1000) : RG (ofR w room).fL := by
  obtain ⟨m, h1, h2, _⟩ := relV_of hr room
  exact rg_of h2 hd
end
end Go.Proofs.YtigmkniiojpdiaaGreat
