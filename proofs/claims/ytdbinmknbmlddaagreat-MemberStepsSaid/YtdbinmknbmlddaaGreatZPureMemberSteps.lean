/- Plain: a step behind all others settles it. -/
import Derived.Test.YtdbinmknbmlddaaGreatZMS
import Derived.Test.YtdbinmknbmlddaaGreatZMJ9
set_option linter.all false
set_option maxRecDepth 10000
namespace Go.Proofs.YtdbinmknbmlddaaGreat
open Go Go.Sp
def prev (i : Nat) : ByteArray := if i = 0 then ⟨#[]⟩ else ys (i - 1)
def parY (hs : List ByteArray) (j : Nat) : List ByteArray := if j = 0 then [hs.getD j default] else [hs.getD j default, ys (j - 1)]
def Y (hs : List ByteArray) (user : ByteArray) (j : Nat) : Event := ⟨ys j, roomR, parY hs j, ⟨#[]⟩, user, 0⟩
def Ys (hs : List ByteArray) (user : ByteArray) (i : Nat) : List Event := (List.range i).map (Y hs user)
theorem Ys_succ (hs : List ByteArray) (user : ByteArray) (i : Nat) : Ys hs user (i + 1) = Ys hs user i ++ [Y hs user i] := by
  unfold Ys; rw [List.range_succ, List.map_append]; rfl
theorem roomR_in : roomR ∈ rooms := List.mem_of_getElem? (i := 0) rfl
theorem getD_of {hs : List ByteArray} {j : Nat} (h : j < hs.length) : hs.getD j default ∈ hs := by
  rw [List.getD_eq_getElem?_getD, List.getElem?_eq_getElem h]; exact List.getElem_mem h
section
variable {L : List Event} (hmi : MI roomR L) (hc : Chain roomR L) {user : ByteArray} (hu : user ∈ users) {hs : List ByteArray} (hh : ∀ h ∈ hs, ∃ q, q < L.length ∧ h = evs q) (hl : hs.length ≤ 9)
include hmi hc hu hh hl
theorem Y_ok {j : Nat} (hj : j < hs.length) : Event.ok (Y hs user j) := by
  have hlen := hmi.len
  obtain ⟨q, q1, q2⟩ := hh _ (getD_of hj)
  refine ⟨ys_size (by omega), room_size roomR_in, ⟨?_, fun x hx => ?_⟩, ?_, user_size hu, rfl, trivial⟩
  · show (parY hs j).length ≤ 9223372036854775807
    unfold parY; split <;> simp
  · have hx : x ∈ parY hs j := hx
    unfold parY at hx
    split at hx
    · rw [List.mem_singleton.1 hx, q2]; exact evs_size q
    · rcases List.mem_cons.1 hx with h | h
      · rw [h, q2]; exact evs_size q
      · rw [List.mem_singleton.1 h]; exact ys_size (by omega)
  · show (0 : Nat) ≤ 9223372036854775807; omega
theorem Y_code {j : Nat} (hj : j < hs.length) : code ⟨roomR, L ++ Ys hs user j⟩ (Y hs user j) = 0 := by
  have hlen := hmi.len
  obtain ⟨q, q1, q2⟩ := hh _ (getD_of hj)
  have hq9 : q < 9 := by omega
  refine code_zero ?_ rfl (fun x hx => ?_) (fun p hp => ?_) rfl
  · refine may_simple (ys_ok (by omega)) (roomB roomR_in) (userB hu) ?_ ⟨by omega, by omega⟩ (fun p hp => ?_) ?_
    · unfold parY; split <;> simp
    · unfold parY at hp
      have hfirst : eventB (hs.getD j default) = true ∧ hs.getD j default ≠ ys j := by
        rw [q2]; exact ⟨evs_ok q hq9, sLt_ne (evs_ys hq9 (by omega))⟩
      split at hp
      · rw [List.mem_singleton.1 hp]; exact hfirst
      · rcases List.mem_cons.1 hp with h | h
        · rw [h]; exact hfirst
        · rw [List.mem_singleton.1 h]; exact ⟨ys_ok (by omega), ys_ne (by omega) (by omega) (by omega)⟩
    · unfold parY SrtT
      split
      · exact List.pairwise_singleton _ _
      · refine List.pairwise_cons.2 ⟨fun y hy => ?_, List.pairwise_singleton _ _⟩
        rw [List.mem_singleton.1 hy, q2]; exact evs_ys hq9 (by omega)
  · show x.fID ≠ ys j
    rcases List.mem_append.1 hx with h | h
    · obtain ⟨i, hi, rfl⟩ := mem_ev h
      rw [hmi.ids i hi]; exact sLt_ne (evs_ys (by omega) (by omega))
    · unfold Ys at h
      obtain ⟨i, hi, rfl⟩ := List.mem_map.1 h
      have hi := List.mem_range.1 hi
      exact ys_ne (by omega) (by omega) (by omega)
  · have hp : p ∈ parY hs j := hp
    unfold parY at hp
    have hfirst : ∃ x ∈ L ++ Ys hs user j, x.fID = hs.getD j default := ⟨ev L q, List.mem_append.2 (.inl (ev_mem q1)), by rw [hmi.ids q q1, q2]⟩
    split at hp
    · rw [List.mem_singleton.1 hp]; exact hfirst
    · rcases List.mem_cons.1 hp with h | h
      · rw [h]; exact hfirst
      · rw [List.mem_singleton.1 h]
        exact ⟨Y hs user (j - 1), List.mem_append.2 (.inr (List.mem_map.2 ⟨j - 1, List.mem_range.2 (by omega), rfl⟩)), rfl⟩
theorem steps_loop {t : (Option DDag) × RDag} (ht : t.2.fRoom = roomR) : ∀ n i : Nat, hs.length - i = n → i ≤ hs.length → ∀ m, Rel m ⟨roomR, L ++ Ys hs user i⟩ → T m = tb (L ++ Ys hs user i) → Chain roomR (L ++ Ys hs user i) →
    ∃ m', El (fun k j => concourselaw09_MemberSteps.l1 k t user hs j (prev i) (i : Int) m) (.inl (prev hs.length, (hs.length : Int), false, m')) ∧ Rel m' ⟨roomR, L ++ Ys hs user hs.length⟩ ∧ T m' = tb (L ++ Ys hs user hs.length) ∧ Chain roomR (L ++ Ys hs user hs.length) := by
  have hlen := hmi.len
  intro n
  induction n with
  | zero =>
    intro i hd hi m h1 h2 h3
    obtain rfl : i = hs.length := by omega
    refine ⟨m, ?_, h1, h2, h3⟩
    refine El.step (fun _ _ => by rw [concourselaw09_MemberSteps.l1]) ?_
    exact El.cf (by simp) (by simpa using El.pure)
  | succ n ih =>
    intro i hd hi m h1 h2 h3
    have hi2 : i < hs.length := by omega
    obtain ⟨q, q1, q2⟩ := hh _ (getD_of hi2)
    have hYl : (L ++ Ys hs user i).length ≤ 1000 := by rw [List.length_append]; unfold Ys; rw [List.length_map, List.length_range]; omega
    have hok := Y_ok hmi hc hu hh hl hi2
    have hcode := Y_code hmi hc hu hh hl hi2
    obtain ⟨m1, a1, a2, a3⟩ := dag_more h1 h2 hYl hok hcode
    rw [List.append_assoc, ← Ys_succ] at a2 a3
    have h3' := chain_app h3 hok rfl hcode
    rw [List.append_assoc, ← Ys_succ] at h3'
    obtain ⟨m', b1, b2⟩ := ih (i + 1) (by omega) (by omega) m1 a2 a3 h3'
    refine ⟨m', ?_, b2⟩
    refine El.step (fun _ _ => by rw [concourselaw09_MemberSteps.l1]) ?_
    rw [Int.toNat_natCast, ht, rp_inc (show i ≤ 1000000 by omega)]
    have hdg : (dg i).size = 1 := rfl
    have g : (0 : Int) ≤ (i : Int) ∧ (i : Int) < (hs.length : Int) := ⟨by omega, by omega⟩
    refine El.ct (decide_eq_true (by omega)) (El.bind (decimal_at i (by omega)).el (El.grd (by rw [hdg]; show (2 : Nat) + 1 ≤ _; omega) (El.grd g ?_)))
    have hb1 : El (fun k j => concourselaw09_MemberSteps.l1 k t user hs j (ys i) ((i + 1 : Nat) : Int) m1) (.inl (prev hs.length, (hs.length : Int), false, m')) := by
      have : prev (i + 1) = ys i := by unfold prev; rw [if_neg (by omega)]; rfl
      rw [this] at b1; exact b1
    by_cases h0 : i = 0
    · subst h0
      refine El.cf rfl (El.bind (a := (0, m1)) ?_ (El.cf rfl hb1))
      exact a1.el
    · refine El.ct (decide_eq_true (by omega)) (El.grd g ?_)
      have p1 : putG (hs.getD i default) false [] = [hs.getD i default] := rfl
      have p2 : putG (prev i) false [hs.getD i default] = parY hs i := by
        have hlt : sLt (hs.getD i default) (ys (i - 1)) = true := by rw [q2]; exact evs_ys (by omega) (by omega)
        have hne : hs.getD i default ≠ ys (i - 1) := sLt_ne hlt
        unfold prev parY
        rw [if_neg h0, if_neg h0]
        generalize hs.getD i default = hd at hlt hne
        simp [putG, hlt, hne]
      refine El.bind (putR_ev [] _ (by simp)).el ?_
      rw [p1]
      refine El.bind (putR_ev _ _ (by simp)).el ?_
      rw [p2]
      exact El.bind (a := (0, m1)) a1.el (El.cf rfl hb1)
end
theorem was_loop {us : List ByteArray} {user : ByteArray} (hl : us.length ≤ 1000) : ∀ n x : Nat, us.length - x = n → x ≤ us.length → ∀ out : List ByteArray, out.length ≤ x →
    ∃ r : Int × Bool × List ByteArray, El (fun k j => concourselaw09_MemberSteps.l0 k user us j (x : Int) out) r ∧ r.2.2 = out ++ (us.drop x).filter (fun u => !decide (u = user)) := by
  intro n
  induction n with
  | zero =>
    intro x hd hx out ho
    obtain rfl : x = us.length := by omega
    refine ⟨((us.length : Int), false, out), ?_, by rw [List.drop_length]; simp⟩
    refine El.step (fun _ _ => by rw [concourselaw09_MemberSteps.l0]) ?_
    exact El.cf (by simp) (by simpa using El.pure)
  | succ n ih =>
    intro x hd hx out ho
    have hx2 : x < us.length := by omega
    have hat : us.getD x default = us[x] := by rw [List.getD_eq_getElem?_getD, List.getElem?_eq_getElem hx2]; rfl
    rw [List.drop_eq_getElem_cons hx2, List.filter_cons]
    by_cases h : us[x] = user
    · obtain ⟨r, r1, r2⟩ := ih (x + 1) (by omega) (by omega) out (by omega)
      refine ⟨r, ?_, by rw [r2, decide_eq_true h]; rfl⟩
      refine El.step (fun _ _ => by rw [concourselaw09_MemberSteps.l0]) ?_
      rw [Int.toNat_natCast, hat, rp_inc (show x ≤ 1000000 by omega)]
      exact El.ct (decide_eq_true (by omega)) (El.grd ⟨by omega, by omega⟩ (El.cf (by rw [decide_eq_true h]; rfl) r1))
    · obtain ⟨r, r1, r2⟩ := ih (x + 1) (by omega) (by omega) (out ++ [us[x]]) (by rw [List.length_append, List.length_singleton]; omega)
      refine ⟨r, ?_, by rw [r2, decide_eq_false h]; simp⟩
      refine El.step (fun _ _ => by rw [concourselaw09_MemberSteps.l0]) ?_
      rw [Int.toNat_natCast, hat, rp_inc (show x ≤ 1000000 by omega)]
      exact El.ct (decide_eq_true (by omega)) (El.grd ⟨by omega, by omega⟩ (El.ct (by rw [decide_eq_false h]; rfl) (El.grd ⟨by omega, by omega⟩ (El.grd ⟨by rw [List.length_singleton]; omega, by rw [List.length_singleton]; omega⟩ r1))))
theorem MemberSteps_pure (a0 : List GMade) (a1 : Int) (a2 : Bool) (k0 : (fun xs : List GMade => xs.length ≤ maxLen ∧ ∀ x ∈ xs, GMade.ok x) a0) (k1 : (fun n => (Lit.int .i64 n).wf = true) a1) (k2 : (fun _ => True) a2) : ∃ k, concourselaw09_MemberSteps.f k a0 a1 a2 = some true := by
  suffices h : Ev (fun k => concourselaw09_MemberSteps.f k a0 a1 a2) true from h.ex
  obtain ⟨m, L, h1, h2, h3, h4, h5⟩ := build_ev k0
  have hl9 := h4.len
  have hg := chain_rg h5 (by omega)
  obtain ⟨user, u1, u2⟩ := userOf_ev (i64_of k1)
  obtain ⟨us, v1, v2, v3, v4, v5, v6⟩ := users_both hg h3 (room := roomR)
  have hrh := rheads_ev (d := ⟨roomR, L⟩) hg
  have hdeep := fun e he => head_deep hg.good (L.length) e he (by have := dpt_l L e.fID; omega)
  have hhin : ∀ h ∈ headsE L (allE (tb L)), ∃ q, q < L.length ∧ h = evs q := fun h hh => by
    obtain ⟨e, he, rfl⟩ := heads_in hg.good hh
    obtain ⟨i, hi, rfl⟩ := mem_ev he
    exact ⟨i, hi, h4.ids i hi⟩
  have hhl : (headsE L (allE (tb L))).length ≤ 9 := by
    unfold headsE; rw [List.length_map]
    refine Nat.le_trans (List.length_filter_le _ _) ?_
    rw [(all_perm hg.good).length_eq]; exact hl9
  have hrh : Ev (fun k => concourseref07_Heads.f k ⟨roomR, L⟩) (headsE L (allE (tb L))) := hrh
  generalize headsE L (allE (tb L)) = hs at hrh hdeep hhin hhl
  obtain ⟨m1, s1, s2, s3, s4⟩ := steps_loop h4 h5 u2 hhin hhl (t := (some m, ⟨roomR, L⟩)) rfl _ 0 rfl (by omega) m (by simpa [Ys] using h2) (by simpa [Ys] using h3) (by simpa [Ys] using h5)
  -- the step
  obtain ⟨does, hdoes⟩ : ∃ d : Int, d = if a2 = true then 1 else 2 := ⟨_, rfl⟩
  have hd : does = 1 ∨ does = 2 := by rw [hdoes]; split <;> simp
  have hd1 : (does == 1) = a2 := by rw [hdoes]; cases a2 <;> rfl
  obtain ⟨ps, hps⟩ : ∃ ps : List ByteArray, ps = if hs.length = 0 then [] else [ys (hs.length - 1)] := ⟨_, rfl⟩
  obtain ⟨E, hE⟩ : ∃ E : Event, E = ⟨zs, roomR, ps, ⟨#[]⟩, user, does⟩ := ⟨_, rfl⟩
  have hpsl : ps.length ≤ 1 := by rw [hps]; split <;> simp
  have hpsm : ∀ p ∈ ps, hs.length ≠ 0 ∧ p = ys (hs.length - 1) := fun p hp => by
    rw [hps] at hp
    split at hp
    · cases hp
    · exact ⟨by assumption, List.mem_singleton.1 hp⟩
  have hEok : Event.ok E := by
    rw [hE]
    refine ⟨by show (2 : Nat) ≤ 9223372036854775807; omega, room_size roomR_in, ⟨by show ps.length ≤ 9223372036854775807; omega, fun p hp => ?_⟩, by show (0 : Nat) ≤ 9223372036854775807; omega, user_size u2, ?_, trivial⟩
    · obtain ⟨q1, q2⟩ := hpsm p hp
      rw [q2]; exact ys_size (by omega)
    · rcases hd with h | h <;> rw [h] <;> rfl
  have hEn : ∀ x ∈ L ++ Ys hs user hs.length, x.fID ≠ zs := fun x hx => by
    rcases List.mem_append.1 hx with h | h
    · obtain ⟨i, hi, rfl⟩ := mem_ev h
      rw [h4.ids i hi]; exact zs_evs (by omega)
    · unfold Ys at h
      obtain ⟨i, hi, rfl⟩ := List.mem_map.1 h
      have hi := List.mem_range.1 hi
      exact zs_ys (by omega)
  have hEc : code ⟨roomR, L ++ Ys hs user hs.length⟩ E = 0 := by
    rw [hE]
    refine code_zero ?_ rfl hEn (fun p hp => ?_) rfl
    · refine may_simple zs_ok (roomB roomR_in) (userB u2) (by omega) (by omega) (fun p hp => ?_) ?_
      · obtain ⟨q1, q2⟩ := hpsm p hp
        rw [q2]; exact ⟨ys_ok (by omega), zs_ys (by omega)⟩
      · rw [hps]; unfold SrtT; split <;> simp
    · obtain ⟨q1, q2⟩ := hpsm p hp
      rw [q2]
      exact ⟨Y hs user (hs.length - 1), List.mem_append.2 (.inr (List.mem_map.2 ⟨hs.length - 1, List.mem_range.2 (by omega), rfl⟩)), rfl⟩
  have hYl : (Ys hs user hs.length).length = hs.length := by unfold Ys; rw [List.length_map, List.length_range]
  obtain ⟨m2, e1, e2, e3⟩ := dag_more s2 s3 (by rw [List.length_append]; omega) hEok hEc
  have hcn := chain_app s4 hEok (by rw [hE]) hEc
  obtain ⟨Ln, hLn⟩ : ∃ Ln : List Event, Ln = L ++ Ys hs user hs.length ++ [E] := ⟨_, rfl⟩
  rw [← hLn] at e2 e3 hcn
  have hgn := chain_rg hcn (by rw [hLn, List.length_append, List.length_append, hYl, List.length_singleton]; omega)
  have hEin : E ∈ Ln := by rw [hLn]; simp
  have hLin : ∀ e ∈ L, e ∈ Ln := fun e he => by rw [hLn]; simp [he]
  have hYin : ∀ j, j < hs.length → Y hs user j ∈ Ln := fun j hj => by
    rw [hLn]; exact List.mem_append.2 (.inl (List.mem_append.2 (.inr (List.mem_map.2 ⟨j, List.mem_range.2 hj, rfl⟩))))
  have hcases : ∀ e ∈ Ln, e ∈ L ∨ (∃ j, j < hs.length ∧ e = Y hs user j) ∨ e = E := fun e he => by
    rw [hLn] at he
    rcases List.mem_append.1 he with h | h
    · rcases List.mem_append.1 h with h | h
      · exact .inl h
      · unfold Ys at h
        obtain ⟨j, hj, rfl⟩ := List.mem_map.1 h
        exact .inr (.inl ⟨j, List.mem_range.1 hj, rfl⟩)
    · exact .inr (.inr (List.mem_singleton.1 h))
  have hpre : ∀ e ∈ L, dpt (tb Ln) e.fID = dpt (tb L) e.fID := fun e he => by rw [hLn, List.append_assoc]; exact dpt_pre hg.good he
  -- the step stands behind all others
  have hYE : ∀ n j, hs.length - 1 - j = n → j < hs.length → dpt (tb Ln) (ys j) < dpt (tb Ln) zs := by
    intro n
    induction n with
    | zero =>
      intro j hn hj
      have : ys j ∈ E.fParents := by rw [hE, hps]; show ys j ∈ (if hs.length = 0 then [] else [ys (hs.length - 1)]); rw [if_neg (by omega), show hs.length - 1 = j by omega]; simp
      have := dep_child hgn.good hEin this
      rw [hE] at this
      show _ < dpt (tb Ln) zs
      have : dpt (tb Ln) (ys j) + 1 ≤ dpt (tb Ln) zs := this
      omega
    | succ n ih =>
      intro j hn hj
      have h6 := ih (j + 1) (by omega) (by omega)
      have : ys j ∈ (Y hs user (j + 1)).fParents := by show ys j ∈ parY hs (j + 1); unfold parY; rw [if_neg (by omega)]; simp
      have := dep_child hgn.good (hYin (j + 1) (by omega)) this
      have : dpt (tb Ln) (ys j) + 1 ≤ dpt (tb Ln) (ys (j + 1)) := this
      omega
  have hLE : ∀ e ∈ L, dpt (tb Ln) e.fID < dpt (tb Ln) zs := fun e he => by
    obtain ⟨h, hh, hle⟩ := hdeep e he
    obtain ⟨q, q1, q2⟩ := hhin h hh
    obtain ⟨j, hj, hje⟩ := List.mem_iff_getElem.1 hh
    have hp : h ∈ (Y hs user j).fParents := by
      show h ∈ parY hs j
      have : hs.getD j default = h := by rw [List.getD_eq_getElem?_getD, List.getElem?_eq_getElem hj]; exact hje
      unfold parY; split <;> rw [this] <;> simp
    have h7 := dep_child hgn.good (hYin j hj) hp
    have h8 := hYE _ j rfl hj
    have h9 : dpt (tb Ln) h + 1 ≤ dpt (tb Ln) (ys j) := h7
    have h10 := hpre (ev L q) (ev_mem q1)
    rw [h4.ids q q1, ← q2] at h10
    rw [hpre e he]
    omega
  have hlt : ∀ e ∈ Ln, e = E ∨ lt (tb Ln) e E := fun e he => by
    have mk : dpt (tb Ln) e.fID < dpt (tb Ln) zs → lt (tb Ln) e E := fun h => by
      unfold lt
      rw [posC_lt]
      left
      rw [hE]; exact h
    rcases hcases e he with h | ⟨j, hj, h⟩ | h
    · exact .inr (mk (hLE e h))
    · rw [h] at mk ⊢; exact .inr (mk (hYE _ j rfl hj))
    · exact .inl h
  have hEu : E.fUser = user := by rw [hE]
  have hEd : E.fDoes = does := by rw [hE]
  have hou : lastR user (allE (tb Ln)) none = some E := mx_uniq (last_all hgn.good user) ⟨hEin, by unfold isRel; rw [hEu, hEd]; rcases hd with h | h <;> rw [h] <;> simp, fun e he _ => hlt e he⟩
  have hother : ∀ u, u ≠ user → lastR u (allE (tb Ln)) none = lastR u (allE (tb L)) none := fun u hu => by
    refine mx_uniq (last_all hgn.good u) ?_
    have hmx := last_all hg.good u
    have hno : ∀ e ∈ Ln, isRel u e = true → e ∈ L := fun e he hr => by
      rcases hcases e he with h | ⟨j, _, h⟩ | h
      · exact h
      · rw [h] at hr
        have : isRel u (Y hs user j) = false := by unfold isRel Y; simp
        rw [this] at hr; cases hr
      · rw [h] at hr
        have : isRel u E = false := by unfold isRel; rw [hEu, decide_eq_false (fun h => hu h.symm)]; rfl
        rw [this] at hr; cases hr
    cases ho : lastR u (allE (tb L)) none with
    | none =>
      rw [ho] at hmx
      intro e he
      cases hr : isRel u e with
      | false => rfl
      | true => have := hmx e (hno e he hr); rw [hr] at this; cases this
    | some x =>
      rw [ho] at hmx
      refine ⟨hLin x hmx.1, hmx.2.1, fun e' he' hr => ?_⟩
      have hin := hno e' he' hr
      rcases hmx.2.2 e' hin hr with k | k
      · exact .inl k
      · right
        unfold lt pos at k ⊢
        rw [hpre e' hin, hpre x hmx.1]; exact k
  obtain ⟨us2, w1, w2, w3, w4, w5, w6⟩ := users_both hgn e3 (room := roomR)
  have hjo := mjoined_ev hgn e3 user
  have hjE : isJ (some E) = a2 := by show (E.fDoes == 1) = a2; rw [hEd]; exact hd1
  rw [hou, hjE] at hjo
  obtain ⟨r, r1, r2⟩ := was_loop (user := user) v4 _ 0 rfl (by omega) [] (by simp)
  rw [List.nil_append, List.drop_zero] at r2
  have hW : SrtT r.2.2 := by rw [r2]; exact v3.sublist List.filter_sublist
  have hWl : r.2.2.length ≤ 1000 := by rw [r2]; exact Nat.le_trans (List.length_filter_le _ _) v4
  obtain ⟨want, hwant⟩ : ∃ want : List ByteArray, want = if a2 = true then putG user false r.2.2 else r.2.2 := ⟨_, rfl⟩
  have hus2 : us2 = want := by
    refine srtT_ext w3 (by rw [hwant]; split; exact putG_srt hW; exact hW) fun u => ?_
    rw [w6, hwant]
    have hin : u ∈ r.2.2 ↔ u ∈ us ∧ u ≠ user := by rw [r2, List.mem_filter]; simp
    by_cases h : u = user
    · rw [h, hou, hjE]
      cases a2 with
      | true => rw [if_pos rfl, putG_mem]; simp
      | false => rw [if_neg (by simp), ← h, hin]; simp [h]
    · rw [hother u h, ← v6]
      cases a2 with
      | true => rw [if_pos rfl, putG_mem, hin]; simp [h]
      | false => rw [if_neg (by simp), hin]; simp [h]
  unfold concourselaw09_MemberSteps.f
  refine Ev.bind h1 (Ev.cf rfl (Ev.bind (Ev.of u1) (Ev.bind v1 (Ev.bind (a := does) ?_ (Ev.bind hrh ?_)))))
  · cases a2 with
    | true => exact Ev.ct rfl (Ev.of (by rw [hdoes]; rfl))
    | false => exact Ev.cf rfl (Ev.of (by rw [hdoes]; rfl))
  · have s0 : prev 0 = ⟨#[]⟩ := rfl
    rw [s0] at s1
    have s5 : Ev (fun n => concourselaw09_MemberSteps.l1 n (some m, ⟨roomR, L⟩) user hs n ⟨#[]⟩ 0 ((some m, (⟨roomR, L⟩ : RDag)).1.getD default)) (.inl (prev hs.length, (hs.length : Int), false, m1)) := s1.diag
    refine Ev.bind s5 ?_
    simp only [fall]
    refine Ev.bind (a := ps) ?_ (Ev.bind (a := (0, m2)) ?_ (Ev.cf rfl (Ev.bind r1.diag (Ev.bind (a := want) ?_ (Ev.bind hjo (Ev.ct (by simp) (Ev.bind w1 (Ev.bind (a := true) ?_ (Ev.ct rfl (Ev.bind lives_ev Ev.pure))))))))))
    · unfold prev
      rw [hps]
      by_cases h0 : hs.length = 0
      · rw [if_pos h0, if_pos h0]; exact Ev.cf rfl Ev.pure
      · rw [if_neg h0, if_neg h0]; exact Ev.ct (by rw [decide_eq_false (ys_nil (by omega))]; rfl) Ev.pure
    · rw [hE] at e1; exact e1
    · rw [hwant]
      cases a2 with
      | true => exact Ev.ct rfl (Ev.bind (putR_ev _ _ (by omega)) Ev.pure)
      | false => exact Ev.cf rfl Ev.pure
    · rw [hus2]; exact sametexts_refl (by rw [← hus2]; omega)
end Go.Proofs.YtdbinmknbmlddaaGreat
