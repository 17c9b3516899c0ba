/- Plain: an EDU's bytes, and which of two is later. -/
import Derived.Test.YtegmafgodoikiaaGreatZPA
import Derived.Test.YtegmafgodoikiaaGreatZPX
set_option linter.all false
set_option maxRecDepth 10000
namespace Go.Proofs.YtegmafgodoikiaaGreat
open Go Go.Sp
section
variable {b : List Int} {n : Int} {s : ByteArray} {e : Edu}
theorem number_ev (h0 : 0 ≤ n) (h1 : n < 128) (hb : b.length ≤ 1000000) : Ev (fun k => lay_Number.f k b n) (b ++ [n]) := by
  unfold lay_Number.f
  refine Ev.grd ⟨by omega, by omega, by omega⟩ ?_
  have e1 : ((b.take ((b.length : Int).toNat)).drop 0) = b := by simp
  have e2 : max n 0 = n := by omega
  rw [e1, e2]
  have t : El (fun k j => lay_Number.l0 k j n b) (n, false, b) := by
    refine El.step (fun _ _ => by rw [lay_Number.l0]) ?_
    rw [decide_eq_false (by omega)]
    exact El.cf rfl El.pure
  refine Ev.bind t.diag ?_
  · rw [u8_id h0 (by omega)]
    exact Ev.grd (by simp; omega) Ev.pure
theorem refnum_ev (h0 : 0 ≤ n) (h1 : n < 128) : Ev (fun k => concourseref02_Number.f k n) [n] := by
  refine Ev.step (fun _ => by rw [concourseref02_Number.f]) ?_
  refine Ev.bind (a := n) (Ev.cf (by simpa using h0) Ev.pure) ?_
  refine Ev.ct (by simpa using h1) ?_
  rw [u8_id h0 (by omega)]
  exact Ev.pure
def txtB (s : ByteArray) : List Int := (s.size : Int) :: strBs s
theorem strBs_len : (strBs s).length = s.size := by simp [strBs]
theorem txtB_len : (txtB s).length = s.size + 1 := by simp [txtB, strBs_len]
theorem text_ev (h1 : s.size < 128) (hb : b.length ≤ 500000) : Ev (fun k => lay_Text.f k b s) (b ++ txtB s) := by
  unfold lay_Text.f
  refine Ev.bind (number_ev (by omega) (by omega) (by omega)) ?_
  refine Ev.grd (by rw [strBs_len]; simp; omega) ?_
  have e : b ++ txtB s = b ++ [(s.size : Int)] ++ strBs s := by simp [txtB]
  rw [e]
  exact Ev.pure
theorem reftext_ev (h1 : s.size < 128) : Ev (fun k => concourseref02_Text.f k s) (txtB s) := by
  unfold concourseref02_Text.f
  refine Ev.bind (refnum_ev (by omega) (by omega)) ?_
  refine Ev.grd (by rw [strBs_len]; simp; omega) ?_
  exact Ev.pure
def flagN (o : Bool) : Int := cond o 1 0
theorem flag_ev {o : Bool} (hb : b.length ≤ 1000000) : Ev (fun k => lay_Flag.f k b o) (b ++ [flagN o]) := by
  unfold lay_Flag.f
  cases o
  · exact Ev.cf rfl (Ev.bind (number_ev (by decide) (by decide) hb) Ev.pure)
  · exact Ev.ct rfl (Ev.bind (number_ev (by decide) (by decide) hb) Ev.pure)
/-- One whose parts are small. -/
structure Sm (e : Edu) : Prop where
  kind : 0 ≤ e.fKind ∧ e.fKind < 128
  room : e.fRoom.size < 128
  user : e.fUser.size < 128
  event : e.fEvent.size < 128
  thread : e.fThread.size < 128
  span : 0 ≤ e.fSpan ∧ e.fSpan < 128
  state : 0 ≤ e.fState ∧ e.fState < 128
  tick : 0 ≤ e.fTick ∧ e.fTick < 128
  stamp : 0 ≤ e.fStamp ∧ e.fStamp < 128
def eduB (e : Edu) : List Int := e.fKind :: (txtB e.fRoom ++ txtB e.fUser ++ txtB e.fEvent ++ txtB e.fThread ++ [flagN e.fOn, e.fSpan, e.fState, e.fTick, e.fStamp])
theorem laid_ev (h : Sm e) : Ev (fun k => edu_laid.f k e) (eduB e) := by
  obtain ⟨h1, h2, h3, h4, h5, h6, h7, h8, h9⟩ := h
  unfold edu_laid.f
  refine Ev.bind (number_ev h1.1 h1.2 (by simp)) ?_
  have t1 : El (fun k j => edu_laid.l1 k e j 0 ([] ++ [e.fKind])) (4, false, [] ++ [e.fKind] ++ txtB e.fRoom ++ txtB e.fUser ++ txtB e.fEvent ++ txtB e.fThread) := by
    refine El.step (fun _ _ => by rw [edu_laid.l1]) ?_
    refine El.ct rfl (El.grd (of_decide_eq_true rfl) (El.bind (Ev.el (text_ev (s := e.fRoom) h2 (by simp))) ?_))
    refine El.step (fun _ _ => by rw [edu_laid.l1]) ?_
    refine El.ct rfl (El.grd (of_decide_eq_true rfl) (El.bind (Ev.el (text_ev (s := e.fUser) h3 (by simp [txtB_len]; omega))) ?_))
    refine El.step (fun _ _ => by rw [edu_laid.l1]) ?_
    refine El.ct rfl (El.grd (of_decide_eq_true rfl) (El.bind (Ev.el (text_ev (s := e.fEvent) h4 (by simp [txtB_len]; omega))) ?_))
    refine El.step (fun _ _ => by rw [edu_laid.l1]) ?_
    refine El.ct rfl (El.grd (of_decide_eq_true rfl) (El.bind (Ev.el (text_ev (s := e.fThread) h5 (by simp [txtB_len]; omega))) ?_))
    refine El.step (fun _ _ => by rw [edu_laid.l1]) ?_
    exact El.cf rfl El.pure
  refine Ev.bind t1.diag ?_
  have hl : ([] ++ [e.fKind] ++ txtB e.fRoom ++ txtB e.fUser ++ txtB e.fEvent ++ txtB e.fThread).length ≤ 1000 := by simp [txtB_len]; omega
  have he : eduB e = [] ++ [e.fKind] ++ txtB e.fRoom ++ txtB e.fUser ++ txtB e.fEvent ++ txtB e.fThread ++ [flagN e.fOn] ++ [e.fSpan] ++ [e.fState] ++ [e.fTick] ++ [e.fStamp] := by simp [eduB]
  rw [he]
  generalize [] ++ [e.fKind] ++ txtB e.fRoom ++ txtB e.fUser ++ txtB e.fEvent ++ txtB e.fThread = bb at hl ⊢
  refine Ev.bind (flag_ev (b := bb) (by omega)) ?_
  have t2 : El (fun k j => edu_laid.l0 k e j 0 (bb ++ [flagN e.fOn])) (4, false, bb ++ [flagN e.fOn] ++ [e.fSpan] ++ [e.fState] ++ [e.fTick] ++ [e.fStamp]) := by
    refine El.step (fun _ _ => by rw [edu_laid.l0]) ?_
    refine El.ct rfl (El.grd (of_decide_eq_true rfl) (El.bind (Ev.el (number_ev (n := e.fSpan) h6.1 h6.2 (by simp; omega))) ?_))
    refine El.step (fun _ _ => by rw [edu_laid.l0]) ?_
    refine El.ct rfl (El.grd (of_decide_eq_true rfl) (El.bind (Ev.el (number_ev (n := e.fState) h7.1 h7.2 (by simp; omega))) ?_))
    refine El.step (fun _ _ => by rw [edu_laid.l0]) ?_
    refine El.ct rfl (El.grd (of_decide_eq_true rfl) (El.bind (Ev.el (number_ev (n := e.fTick) h8.1 h8.2 (by simp; omega))) ?_))
    refine El.step (fun _ _ => by rw [edu_laid.l0]) ?_
    refine El.ct rfl (El.grd (of_decide_eq_true rfl) (El.bind (Ev.el (number_ev (n := e.fStamp) h9.1 h9.2 (by simp; omega))) ?_))
    refine El.step (fun _ _ => by rw [edu_laid.l0]) ?_
    exact El.cf rfl El.pure
  exact Ev.bind t2.diag Ev.pure
theorem refbytes_ev (h : Sm e) : Ev (fun k => concourseref03_Bytes.f k e) (eduB e) := by
  obtain ⟨h1, h2, h3, h4, h5, h6, h7, h8, h9⟩ := h
  unfold concourseref03_Bytes.f
  have hf : ∀ o, concourseref02_Flag.f o = some [flagN o] := fun o => by cases o <;> rfl
  have he : eduB e = [e.fKind] ++ txtB e.fRoom ++ txtB e.fUser ++ txtB e.fEvent ++ txtB e.fThread ++ [flagN e.fOn] ++ [e.fSpan] ++ [e.fState] ++ [e.fTick] ++ [e.fStamp] := by simp [eduB]
  rw [he]
  refine Ev.bind (refnum_ev h1.1 h1.2) (Ev.bind (reftext_ev h2) (Ev.grd ?_ (Ev.bind (reftext_ev h3) (Ev.grd ?_ (Ev.bind (reftext_ev h4) (Ev.grd ?_ (Ev.bind (reftext_ev h5) (Ev.grd ?_ (Ev.bind (Ev.of (hf _)) (Ev.grd ?_ (Ev.bind (refnum_ev h6.1 h6.2) (Ev.grd ?_ (Ev.bind (refnum_ev h7.1 h7.2) (Ev.grd ?_ (Ev.bind (refnum_ev h8.1 h8.2) (Ev.grd ?_ (Ev.bind (refnum_ev h9.1 h9.2) (Ev.grd ?_ Ev.pure)))))))))))))))))) <;> simp [txtB_len] <;> omega
/-- Which of two is later: above 0 the first. -/
def cmpE (a b : Edu) : Int := if a.fStamp < b.fStamp then -1 else if b.fStamp < a.fStamp then 1 else cmpS (ofNums (eduB a)) (ofNums (eduB b))
theorem refcmp_ev {a b : Edu} (ha : Sm a) (hb : Sm b) : Ev (fun k => concourseref03_Compare.f k a b) (cmpE a b) := by
  unfold concourseref03_Compare.f cmpE
  by_cases h1 : a.fStamp < b.fStamp
  · rw [if_pos h1]; exact Ev.ct (by simpa using h1) Ev.pure
  rw [if_neg h1]
  refine Ev.cf (by simpa using h1) ?_
  by_cases h2 : b.fStamp < a.fStamp
  · rw [if_pos h2]; exact Ev.ct (by simpa using h2) Ev.pure
  rw [if_neg h2]
  refine Ev.cf (by simpa using h2) (Ev.bind (refbytes_ev ha) (Ev.bind (refbytes_ev hb) ?_))
  unfold cmpS
  cases h3 : sLt (ofNums (eduB a)) (ofNums (eduB b)) with
  | true => exact Ev.ct rfl Ev.pure
  | false =>
    refine Ev.cf rfl ?_
    cases h4 : sLt (ofNums (eduB b)) (ofNums (eduB a)) with
    | true => exact Ev.ct rfl Ev.pure
    | false => exact Ev.cf rfl Ev.pure
theorem cmp_ev {a b : Edu} (ha : Sm a) (hb : Sm b) : Ev (fun k => edu_Compare.f k a b) (cmpE a b) := by
  unfold edu_Compare.f bytes_Compare.f
  refine Ev.bind (Ev.of (cmpint _ _)) (Ev.bind (laid_ev ha) (Ev.bind (laid_ev hb) (Ev.bind Ev.pure (Ev.bind (or_ev _ _) ?_))))
  have e : (if cmpI a.fStamp b.fStamp = 0 then cmpB (eduB a) (eduB b) else cmpI a.fStamp b.fStamp) = cmpE a b := by
    rw [cmpB_eq]
    unfold cmpE cmpI
    by_cases h1 : a.fStamp < b.fStamp
    · simp [h1]
    · by_cases h2 : b.fStamp < a.fStamp <;> simp [h1, h2]
  rw [e]
  exact Ev.pure
end
theorem cmpE_le {a b : Edu} : cmpE a b ≤ 0 ↔ a.fStamp < b.fStamp ∨ (a.fStamp = b.fStamp ∧ sLt (ofNums (eduB b)) (ofNums (eduB a)) = false) := by
  unfold cmpE
  by_cases h1 : a.fStamp < b.fStamp
  · simp [h1]
  · by_cases h2 : b.fStamp < a.fStamp
    · have h3 : ¬ a.fStamp = b.fStamp := by omega
      simp [h1, h2, h3]
    · have h3 : a.fStamp = b.fStamp := by omega
      rw [if_neg h1, if_neg h2, cmpS_le]
      simp [h1, h3]
theorem cmpE_trans {a b c : Edu} (h : cmpE a b ≤ 0) (k : cmpE b c ≤ 0) : cmpE a c ≤ 0 := by
  rw [cmpE_le] at *
  rcases h with h | ⟨h, h'⟩ <;> rcases k with k | ⟨k, k'⟩
  · exact .inl (by omega)
  · exact .inl (by omega)
  · exact .inl (by omega)
  · exact .inr ⟨by omega, sLt_ntrans h' k'⟩
theorem cmpE_total {a b : Edu} (h : ¬ cmpE a b ≤ 0) : cmpE b a ≤ 0 := by
  rw [cmpE_le] at *
  rcases Nat.lt_or_ge 0 1 with _ | h0
  · by_cases h1 : b.fStamp < a.fStamp
    · exact .inl h1
    · have h2 : a.fStamp = b.fStamp := by
        by_cases h3 : a.fStamp < b.fStamp
        · exact absurd (.inl h3) h
        · omega
      refine .inr ⟨h2.symm, ?_⟩
      cases e : sLt (ofNums (eduB b)) (ofNums (eduB a)) with
      | false => exact absurd (.inr ⟨h2, e⟩) h
      | true => exact sLt_asymm e
  · omega
theorem eduB_bytes {e : Edu} (h : Sm e) : ∀ x ∈ eduB e, 0 ≤ x ∧ x ≤ 255 := by
  obtain ⟨h1, h2, h3, h4, h5, h6, h7, h8, h9⟩ := h
  have ht : ∀ s : ByteArray, s.size < 128 → ∀ x ∈ txtB s, 0 ≤ x ∧ x ≤ 255 := by
    intro s hs x hx
    rcases List.mem_cons.1 hx with rfl | hx
    · omega
    · obtain ⟨b, _, rfl⟩ := List.mem_map.1 hx
      have := b.toNat_lt
      omega
  have hf : 0 ≤ flagN e.fOn ∧ flagN e.fOn ≤ 255 := by cases e.fOn <;> decide
  intro x hx
  unfold eduB at hx
  simp only [List.mem_cons, List.mem_append, List.not_mem_nil, or_false] at hx
  rcases hx with rfl | (((hx | hx) | hx) | hx) | rfl | rfl | rfl | rfl | rfl
  · omega
  · exact ht _ h2 x hx
  · exact ht _ h3 x hx
  · exact ht _ h4 x hx
  · exact ht _ h5 x hx
  · exact hf
  · omega
  · omega
  · omega
  · omega
theorem flagN_inj {a b : Bool} (h : flagN a = flagN b) : a = b := by revert h; cases a <;> cases b <;> decide
theorem cmpE_self (a : Edu) : cmpE a a = 0 := by unfold cmpE; simp [cmpS_eq.2 rfl]
theorem inc_nat {m : Nat} (h : m ≤ 1000000) : w64 ((m : Int) + 1) = ((m + 1 : Nat) : Int) := by rw [w64_id (by omega) (by omega)]; omega
theorem at_nat (l : List Edu) (m : Nat) : Edu.K.at l (m : Int) = l.getD m default := by unfold Kd.at; rw [Int.toNat_natCast]; rfl
theorem str_nat (l : List ByteArray) (m : Nat) : strK.at l (m : Int) = l.getD m ⟨#[]⟩ := by unfold Kd.at; rw [Int.toNat_natCast]; rfl
end Go.Proofs.YtegmafgodoikiaaGreat
