/- Plain: what ended, and what ends next, beside the document. -/
import Derived.Test.YtmbodanckhidiaaGreatZPW
import Derived.Test.YtmbodanckhidiaaGreatZPH
import Derived.Test.YtmbodanckhidiaaGreatZRP
import Derived.Test.YtmbodanckhidiaaGreatZPU
import Derived.Test.YtmbodanckhidiaaGreatZPV
set_option linter.all false
set_option maxRecDepth 10000
namespace Go.Proofs.YtmbodanckhidiaaGreat
open Go Go.Sp
/-- The room of a key. -/
def rmK (s : ByteArray) : ByteArray := if 0 ≤ idxB s 32 then s.extract 0 (idxB s 32).toNat else s
theorem rmK_ev {s : ByteArray} (hs : s.size ≤ maxLen) : ∃ y, strings_Cut.f s ⟨#[32]⟩ = some (rmK s, y) := by
  have := cut_gen (s := s) 32 hs
  rw [this]
  unfold rmK
  by_cases h : 0 ≤ idxB s 32
  · exact ⟨_, by rw [if_pos h, if_pos (show 0 ≤ idxB s (((32 : UInt8).toNat : Nat) : Int) from h)]; rfl⟩
  · exact ⟨_, by rw [if_neg h, if_neg (show ¬ 0 ≤ idxB s (((32 : UInt8).toNat : Nat) : Int) from h)]⟩
theorem bt_mem {s : ByteArray} {i : Nat} (h : i < s.size) : bt s (i : Int) = ((s.data.toList[i]'(by simpa using h)).toNat : Int) := by
  unfold bt
  have h' : i < s.data.size := h
  rw [Int.toNat_natCast, Array.getD_eq_getD_getElem?, Array.getElem?_eq_getElem h']
  simp
/-- Of a key the room is told. -/
theorem rmK_key {r u : ByteArray} (hr : Nosp r) : rmK ((r ++ (⟨#[32]⟩ : ByteArray)) ++ u) = r := by
  have hl := key_list r u
  generalize hs : (r ++ (⟨#[32]⟩ : ByteArray)) ++ u = s at hl
  have hlen : s.size = r.size + 1 + u.size := by
    rw [← hs, ByteArray.size_append, ByteArray.size_append]; rfl
  have hrl : r.data.toList.length = r.size := by simp
  have hf : FI s 32 (r.size : Int) := by
    refine .inr ⟨r.size, rfl, by omega, ?_, fun i hi e => ?_⟩
    · rw [bt_mem (by omega)]
      simp only [hl]
      rw [List.getElem_append_right (by rw [hrl]; exact Nat.le_refl _)]
      simp [hrl]
    · rw [bt_mem (by omega)] at e
      simp only [hl] at e
      rw [List.getElem_append_left (by rw [hrl]; exact hi)] at e
      have hm : r.data.toList[i]'(by rw [hrl]; exact hi) ∈ r.data.toList := List.getElem_mem _
      exact hr _ hm (UInt8.toNat_inj.1 (by exact_mod_cast e))
  have he := fi_uniq (fi_idx s 32) hf
  rw [show (((32 : UInt8).toNat : Nat) : Int) = 32 from rfl] at he
  unfold rmK
  rw [he, if_pos (by omega), Int.toNat_natCast]
  apply ba_ext
  rw [ByteArray.data_extract, Array.toList_extract, hl]
  simp [List.take_append_of_le_length, hrl]
theorem ended_loop {t : TTab} {q : List ByteArray × HHeap} (hq : q.1.length ≤ 100000) (hs : ∀ s ∈ q.1, s.size ≤ maxLen) : ∀ n m : Nat, q.1.length - m = n → m ≤ q.1.length →
    ∃ a, El (fun k j => typing_Table_Ended.l0 k t q j (m : Int) ((q.1.take m).map rmK)) a ∧ a.2.2.2.1 = ⟨t.fl, q.2⟩ ∧ a.2.2.2.2.1 = q.1.map rmK := by
  intro n
  induction n with
  | zero =>
    intro m hd hm
    obtain rfl : m = q.1.length := by omega
    rw [List.take_length]
    refine ⟨((q.1.length : Int), (q.1.length : Int), false, ⟨t.fl, q.2⟩, q.1.map rmK, q.1), ?_, rfl, rfl⟩
    refine El.step (fun _ _ => by rw [typing_Table_Ended.l0]) ?_
    exact El.cf (by simp) (by simpa using El.pure)
  | succ n ih =>
    intro m hd hm
    have hlt : m < q.1.length := by omega
    obtain ⟨a, a1, a2⟩ := ih (m + 1) (by omega) (by omega)
    refine ⟨a, ?_, a2⟩
    obtain ⟨y, hy⟩ := rmK_ev (hs _ (getD_mem (d := default) hlt))
    refine El.step (fun _ _ => by rw [typing_Table_Ended.l0]) ?_
    simp only [inc_nat (show m ≤ 1000000 by omega), Int.toNat_natCast]
    refine El.ct (decide_eq_true (by omega)) (El.grd ⟨by omega, by omega⟩ (El.bind (Ev.of hy).el (El.grd ⟨by simp; omega, by simp; omega⟩ ?_)))
    have e : (q.1.take (m + 1)).map rmK = (q.1.take m).map rmK ++ [rmK (q.1.getD m default)] := by
      rw [List.take_succ_eq_append_getElem hlt, List.map_append, List.getD_eq_getElem?_getD, List.getElem?_eq_getElem hlt]; rfl
    rw [e] at a1
    exact a1
theorem ended_ev {t : TTab} (H : Idx t.fends) (O : Ord t.fends.fl) (hn : t.fends.fl.length ≤ 100000) (hs : ∀ x ∈ t.fends.fl, x.fKey.size ≤ maxLen) (at_ : Int) :
    ∃ (h' : HHeap) (vs : List ByteArray), Ev (fun k => typing_Table_Ended.f k t at_) (cmpctS (srtS (vs.map rmK)), ⟨t.fl, h'⟩) ∧ Idx h' ∧ Ord h'.fl ∧ h'.fl.length + vs.length = t.fends.fl.length ∧ (∀ x, x ∈ h'.fl ↔ x ∈ t.fends.fl ∧ at_ < x.fAt) ∧ (∀ key, key ∈ vs ↔ ∃ x ∈ t.fends.fl, x.fAt ≤ at_ ∧ x.fKey = key) := by
  obtain ⟨h', vs, d1, d2, d3, d4, d5, d6, _⟩ := due_ev H O hn at_
  obtain ⟨a, a1, a2, a3⟩ := ended_loop (t := t) (q := (vs, h')) (by show vs.length ≤ 100000; omega) (fun s hm => by
    obtain ⟨x, x1, _, x3⟩ := (d6 s).1 hm
    rw [← x3]; exact hs x x1) _ 0 rfl (by omega)
  refine ⟨h', vs, ?_, d2, d3, d4, d5, d6⟩
  unfold typing_Table_Ended.f slices_Sort_string.f slices_Compact_string.f
  refine Ev.bind (Ev.bind d1 a1.diag) ?_
  rw [a2, a3]
  refine Ev.bind (Ev.grd (by simp; omega) Ev.pure) (Ev.bind (Ev.grd (by rw [srtS_len]; simp; omega) Ev.pure) Ev.pure)
theorem next_ev {t : TTab} (O : Ord t.fends.fl) : (t.fends.fl = [] ∧ typing_Table_Next.f t = some (0, false)) ∨ ∃ x, x ∈ t.fends.fl ∧ typing_Table_Next.f t = some (x.fAt, true) ∧ ∀ y ∈ t.fends.fl, x.fAt ≤ y.fAt := by
  unfold typing_Table_Next.f
  rcases first_ev O with ⟨h1, h2⟩ | ⟨x, h1, h2, h3⟩
  · exact .inl ⟨h1, by rw [h2]; rfl⟩
  · exact .inr ⟨x, h1, by rw [h2]; rfl, h3⟩
/-! what the document says -/
theorem end_id {e : Edu} (h : OkE e) : w64 (e.fTick + e.fSpan) = e.fTick + e.fSpan := by
  have a := h.tick
  have b : 0 ≤ e.fSpan ∧ e.fSpan ≤ 60 := by
    cases ho : e.fOn with
    | true => have := h.span1 ho; omega
    | false => have := h.span0 ho; omega
  exact w64_id (by omega) (by omega)
/-- Told, behind an ask. -/
def tellZ (at_ : Int) (q : Edu × Bool) : Edu × Bool := (q.1, q.2 || (q.1.fOn && decide (q.1.fTick + q.1.fSpan ≤ at_)))
def dueZ (at_ : Int) (q : Edu × Bool) : Prop := q.2 = false ∧ q.1.fOn = true ∧ q.1.fTick + q.1.fSpan ≤ at_
section
variable {Z : List (Edu × Bool)} {at_ : Int}
theorem map_getD1 (m : Nat) : (Z.map (·.1)).getD m default = (Z.getD m default).1 := by
  simp only [List.getD_eq_getElem?_getD, List.getElem?_map]
  cases Z[m]? <;> rfl
theorem map_getD2 (m : Nat) : (Z.map (·.2)).getD m false = (Z.getD m default).2 := by
  simp only [List.getD_eq_getElem?_getD, List.getElem?_map]
  cases Z[m]? <;> rfl
theorem refend_loop (hb : Z.length ≤ 1000) (hok : ∀ q ∈ Z, OkE q.1) : ∀ (n m : Nat) (out : List ByteArray), Z.length - m = n → m ≤ Z.length → SrtT out → out.length ≤ m → (∀ x, x ∈ out ↔ ∃ q ∈ Z.take m, dueZ at_ q ∧ q.1.fRoom = x) →
    ∃ out', El (fun k j => concourseref14_Ended.l0 k ⟨Z.map (·.1), Z.map (·.2)⟩ at_ j (m : Int) ((Z.take m).map (fun q => (tellZ at_ q).2) ++ List.replicate (Z.length - m) false) out) ((Z.length : Int), false, Z.map (fun q => (tellZ at_ q).2), out') ∧ SrtT out' ∧ (∀ x, x ∈ out' ↔ ∃ q ∈ Z, dueZ at_ q ∧ q.1.fRoom = x) := by
  intro n
  induction n with
  | zero =>
    intro m out hd hm h1 h2 h3
    obtain rfl : m = Z.length := by omega
    rw [List.take_length] at *
    refine ⟨out, ?_, h1, h3⟩
    refine El.step (fun _ _ => by rw [concourseref14_Ended.l0]) ?_
    simp only [List.length_map, Nat.sub_self, List.replicate_zero, List.append_nil]
    exact El.cf (decide_eq_false (by omega)) (by simpa using El.pure)
  | succ n ih =>
    intro m out hd hm h1 h2 h3
    have hlt : m < Z.length := by omega
    have htk : Z.take (m + 1) = Z.take m ++ [Z.getD m default] := by
      rw [List.take_succ_eq_append_getElem hlt, List.getD_eq_getElem?_getD, List.getElem?_eq_getElem hlt]; rfl
    have hq : OkE (Z.getD m default).1 := hok _ (getD_mem hlt)
    generalize hz : Z.getD m default = z at *
    have hle : ((Z.take m).map (fun q => (tellZ at_ q).2)).length = m := by rw [List.length_map, List.length_take]; omega
    have hset : ∀ (b c : Bool), ((Z.take m).map (fun q => (tellZ at_ q).2) ++ List.replicate (Z.length - m) false).set m b = (Z.take m).map (fun q => (tellZ at_ q).2) ++ b :: List.replicate (Z.length - (m + 1)) false := fun b c => by
      rw [show Z.length - m = (Z.length - (m + 1)) + 1 by omega, List.replicate_succ, List.set_append_right _ _ (by omega), hle, Nat.sub_self, List.set_cons_zero]
    have hset2 : ∀ (b c : Bool), ((Z.take m).map (fun q => (tellZ at_ q).2) ++ c :: List.replicate (Z.length - (m + 1)) false).set m b = (Z.take m).map (fun q => (tellZ at_ q).2) ++ b :: List.replicate (Z.length - (m + 1)) false := fun b c => by
      rw [List.set_append_right _ _ (by omega), hle, Nat.sub_self, List.set_cons_zero]
    have hlen : ∀ b, ((Z.take m).map (fun q => (tellZ at_ q).2) ++ b :: List.replicate (Z.length - (m + 1)) false).length = Z.length := fun b => by
      rw [List.length_append, hle, List.length_cons, List.length_replicate]; omega
    have nxt : ∀ out', SrtT out' → out'.length ≤ m + 1 → (∀ x, x ∈ out' ↔ (x ∈ out ∨ (dueZ at_ z ∧ z.1.fRoom = x))) → ∃ o2, El (fun k j => concourseref14_Ended.l0 k ⟨Z.map (·.1), Z.map (·.2)⟩ at_ j ((m + 1 : Nat) : Int) ((Z.take m).map (fun q => (tellZ at_ q).2) ++ (tellZ at_ z).2 :: List.replicate (Z.length - (m + 1)) false) out') ((Z.length : Int), false, Z.map (fun q => (tellZ at_ q).2), o2) ∧ SrtT o2 ∧ (∀ x, x ∈ o2 ↔ ∃ q ∈ Z, dueZ at_ q ∧ q.1.fRoom = x) := by
      intro out' k1 k2 k3
      have := ih (m + 1) out' (by omega) (by omega) k1 k2 (fun x => by
        rw [k3, h3, htk]
        constructor
        · rintro (⟨q, q1, q2⟩ | h)
          · exact ⟨q, List.mem_append_left _ q1, q2⟩
          · exact ⟨z, List.mem_append_right _ (List.mem_singleton.2 rfl), h⟩
        · rintro ⟨q, q1, q2⟩
          rcases List.mem_append.1 q1 with q1 | q1
          · exact .inl ⟨q, q1, q2⟩
          · rw [List.mem_singleton] at q1; subst q1; exact .inr q2)
      rw [htk, List.map_append, List.map_singleton, List.append_assoc, List.singleton_append] at this
      exact this
    have g1 : (0 : Int) ≤ (m : Int) ∧ (m : Int) < ((Z.map (·.1)).length : Int) := ⟨by omega, by rw [List.length_map]; omega⟩
    have g2 : (0 : Int) ≤ (m : Int) ∧ (m : Int) < ((Z.map (·.2)).length : Int) := ⟨by omega, by rw [List.length_map]; omega⟩
    have g3 : (0 : Int) ≤ (m : Int) ∧ (m : Int) < (((Z.take m).map (fun q => (tellZ at_ q).2) ++ List.replicate (Z.length - m) false).length : Int) := by
      rw [List.length_append, hle, List.length_replicate]; omega
    have e1 : Edu.K.at (Z.map (·.1)) (m : Int) = z.1 := by rw [at_nat, map_getD1, hz]
    have e2 : boolK.at (Z.map (·.2)) (m : Int) = z.2 := by rw [bool_nat, map_getD2, hz]
    have hnd : ∀ h : ¬ dueZ at_ z, (tellZ at_ z).2 = z.2 → ∃ o2, El (fun k j => concourseref14_Ended.l0 k ⟨Z.map (·.1), Z.map (·.2)⟩ at_ j ((m + 1 : Nat) : Int) ((Z.take m).map (fun q => (tellZ at_ q).2) ++ z.2 :: List.replicate (Z.length - (m + 1)) false) out) ((Z.length : Int), false, Z.map (fun q => (tellZ at_ q).2), o2) ∧ SrtT o2 ∧ (∀ x, x ∈ o2 ↔ ∃ q ∈ Z, dueZ at_ q ∧ q.1.fRoom = x) := fun h e => by
      have := nxt out h1 (by omega) (fun x => ⟨.inl, fun g => g.elim id fun g => absurd g.1 h⟩)
      rwa [e] at this
    have start : ∀ {v}, El (fun k j => cond z.1.fOn (grd ((0 : Int) ≤ (m : Int) ∧ (m : Int) < ((Z.map (·.2)).length : Int)) (cond (!z.2) (grd ((0 : Int) ≤ (m : Int) ∧ (m : Int) < ((Z.map (·.1)).length : Int)) (grd ((0 : Int) ≤ (m : Int) ∧ (m : Int) < ((Z.map (·.1)).length : Int)) (cond (decide (z.1.fTick + z.1.fSpan ≤ at_)) (grd ((0 : Int) ≤ (m : Int) ∧ (m : Int) < (((Z.take m).map (fun q => (tellZ at_ q).2) ++ z.2 :: List.replicate (Z.length - (m + 1)) false).length : Int)) (grd ((0 : Int) ≤ (m : Int) ∧ (m : Int) < ((Z.map (·.1)).length : Int)) ((concourseref09_Put.f k out z.1.fRoom).bind fun t1120 => concourseref14_Ended.l0 k ⟨Z.map (·.1), Z.map (·.2)⟩ at_ j ((m + 1 : Nat) : Int) ((Z.take m).map (fun q => (tellZ at_ q).2) ++ true :: List.replicate (Z.length - (m + 1)) false) t1120))) (concourseref14_Ended.l0 k ⟨Z.map (·.1), Z.map (·.2)⟩ at_ j ((m + 1 : Nat) : Int) ((Z.take m).map (fun q => (tellZ at_ q).2) ++ z.2 :: List.replicate (Z.length - (m + 1)) false) out)))) (concourseref14_Ended.l0 k ⟨Z.map (·.1), Z.map (·.2)⟩ at_ j ((m + 1 : Nat) : Int) ((Z.take m).map (fun q => (tellZ at_ q).2) ++ z.2 :: List.replicate (Z.length - (m + 1)) false) out))) (concourseref14_Ended.l0 k ⟨Z.map (·.1), Z.map (·.2)⟩ at_ j ((m + 1 : Nat) : Int) ((Z.take m).map (fun q => (tellZ at_ q).2) ++ z.2 :: List.replicate (Z.length - (m + 1)) false) out)) v →
        El (fun k j => concourseref14_Ended.l0 k ⟨Z.map (·.1), Z.map (·.2)⟩ at_ j (m : Int) ((Z.take m).map (fun q => (tellZ at_ q).2) ++ List.replicate (Z.length - m) false) out) v := fun G => by
      refine El.step (fun _ _ => by rw [concourseref14_Ended.l0]) ?_
      simp only [inc_nat (show m ≤ 1000000 by omega), e1, e2, end_id hq, Int.toNat_natCast, hset _ false, hset2 _ z.2]
      exact El.ct (decide_eq_true g1.2) (El.grd g2 (El.grd g3 (El.grd g1 G)))
    cases c1 : z.1.fOn with
    | false =>
      obtain ⟨o2, k1, k2⟩ := hnd (fun h => by rw [h.2.1] at c1; cases c1) (by simp [tellZ, c1])
      exact ⟨o2, start (El.cf c1 k1), k2⟩
    | true =>
      cases c2 : z.2 with
      | true =>
        obtain ⟨o2, k1, k2⟩ := hnd (fun h => by rw [h.1] at c2; cases c2) (by simp [tellZ, c2])
        exact ⟨o2, start (El.ct c1 (El.grd g2 (El.cf (by rw [c2]; rfl) k1))), k2⟩
      | false =>
        by_cases c3 : z.1.fTick + z.1.fSpan ≤ at_
        · have hdu : dueZ at_ z := ⟨c2, c1, c3⟩
          have ht : (tellZ at_ z).2 = true := by simp [tellZ, c1, c3]
          obtain ⟨o2, k1, k2⟩ := nxt (putG z.1.fRoom false out) (putG_srt h1) (by have := putG_len z.1.fRoom out false; omega) (fun x => by
            rw [putG_mem]
            constructor
            · rintro (⟨a, _⟩ | ⟨a, _⟩)
              · exact .inl a
              · exact .inr ⟨hdu, a.symm⟩
            · rintro (a | ⟨_, a⟩)
              · by_cases hx : x = z.1.fRoom
                · exact .inr ⟨hx, rfl⟩
                · exact .inl ⟨a, hx⟩
              · exact .inr ⟨a.symm, rfl⟩)
          rw [ht] at k1
          refine ⟨o2, start (El.ct c1 (El.grd g2 (El.ct (by rw [c2]; rfl) (El.grd g1 (El.grd g1 (El.ct (decide_eq_true c3) (El.grd ?_ (El.grd g1 (El.bind (putR_ev out z.1.fRoom (by omega)).el k1))))))))), k2⟩
          rw [hlen]; omega
        · obtain ⟨o2, k1, k2⟩ := hnd (fun h => c3 h.2.2) (by simp [tellZ, c3])
          exact ⟨o2, start (El.ct c1 (El.grd g2 (El.ct (by rw [c2]; rfl) (El.grd g1 (El.grd g1 (El.cf (decide_eq_false c3) k1)))))), k2⟩
theorem refend_ev (hb : Z.length ≤ 1000) (hok : ∀ q ∈ Z, OkE q.1) (at_ : Int) : ∃ out, Ev (fun k => concourseref14_Ended.f k ⟨Z.map (·.1), Z.map (·.2)⟩ at_) (⟨Z.map (·.1), Z.map (fun q => (tellZ at_ q).2)⟩, out) ∧ SrtT out ∧ (∀ x, x ∈ out ↔ ∃ q ∈ Z, dueZ at_ q ∧ q.1.fRoom = x) := by
  obtain ⟨o, k1, k2, k3⟩ := refend_loop (at_ := at_) hb hok Z.length 0 [] (by omega) (by omega) .nil (by simp) (fun x => by simp)
  refine ⟨o, ?_, k2, k3⟩
  unfold concourseref14_Ended.f
  simp only [List.length_map, Int.toNat_natCast]
  rw [List.take_zero, List.map_nil, List.nil_append, Nat.sub_zero] at k1
  exact Ev.grd ⟨by omega, by omega, by omega⟩ (Ev.bind k1.diag Ev.pure)
theorem refnext_loop (hb : Z.length ≤ 1000) (hok : ∀ q ∈ Z, OkE q.1) : ∀ (n m : Nat) (v : Int) (h : Bool), Z.length - m = n → m ≤ Z.length →
    ((h = false ∧ v = 0 ∧ ∀ q ∈ Z.take m, ¬ (q.2 = false ∧ q.1.fOn = true)) ∨ (h = true ∧ (∃ q ∈ Z.take m, q.2 = false ∧ q.1.fOn = true ∧ q.1.fTick + q.1.fSpan = v) ∧ ∀ q ∈ Z.take m, q.2 = false → q.1.fOn = true → v ≤ q.1.fTick + q.1.fSpan)) →
    ∃ v' h', El (fun k j => concourseref14_Next.l0 k ⟨Z.map (·.1), Z.map (·.2)⟩ j v h (m : Int)) (v', h', (Z.length : Int), false) ∧
    ((h' = false ∧ v' = 0 ∧ ∀ q ∈ Z, ¬ (q.2 = false ∧ q.1.fOn = true)) ∨ (h' = true ∧ (∃ q ∈ Z, q.2 = false ∧ q.1.fOn = true ∧ q.1.fTick + q.1.fSpan = v') ∧ ∀ q ∈ Z, q.2 = false → q.1.fOn = true → v' ≤ q.1.fTick + q.1.fSpan)) := by
  intro n
  induction n with
  | zero =>
    intro m v h hd hm hv
    obtain rfl : m = Z.length := by omega
    rw [List.take_length] at hv
    refine ⟨v, h, ?_, hv⟩
    refine El.step (fun _ _ => by rw [concourseref14_Next.l0]) ?_
    simp only [List.length_map]
    exact El.cf (decide_eq_false (by omega)) (by simpa using El.pure)
  | succ n ih =>
    intro m v h hd hm hv
    have hlt : m < Z.length := by clear hv; omega
    have hd' : Z.length - (m + 1) = n := by clear hv; omega
    have htk : Z.take (m + 1) = Z.take m ++ [Z.getD m default] := by
      rw [List.take_succ_eq_append_getElem hlt, List.getD_eq_getElem?_getD, List.getElem?_eq_getElem hlt]; rfl
    have hq : OkE (Z.getD m default).1 := hok _ (getD_mem hlt)
    generalize hz : Z.getD m default = z at *
    have g1 : (0 : Int) ≤ (m : Int) ∧ (m : Int) < ((Z.map (·.1)).length : Int) := ⟨by omega, by rw [List.length_map]; omega⟩
    have g2 : (0 : Int) ≤ (m : Int) ∧ (m : Int) < ((Z.map (·.2)).length : Int) := ⟨by omega, by rw [List.length_map]; omega⟩
    have e1 : Edu.K.at (Z.map (·.1)) (m : Int) = z.1 := by rw [at_nat, map_getD1, hz]
    have e2 : boolK.at (Z.map (·.2)) (m : Int) = z.2 := by rw [bool_nat, map_getD2, hz]
    have mem : ∀ q, q ∈ Z.take (m + 1) ↔ q ∈ Z.take m ∨ q = z := fun q => by rw [htk, List.mem_append, List.mem_singleton]
    have same : ¬ (z.2 = false ∧ z.1.fOn = true) → ∃ v' h', El (fun k j => concourseref14_Next.l0 k ⟨Z.map (·.1), Z.map (·.2)⟩ j v h ((m + 1 : Nat) : Int)) (v', h', (Z.length : Int), false) ∧ ((h' = false ∧ v' = 0 ∧ ∀ q ∈ Z, ¬ (q.2 = false ∧ q.1.fOn = true)) ∨ (h' = true ∧ (∃ q ∈ Z, q.2 = false ∧ q.1.fOn = true ∧ q.1.fTick + q.1.fSpan = v') ∧ ∀ q ∈ Z, q.2 = false → q.1.fOn = true → v' ≤ q.1.fTick + q.1.fSpan)) := fun hn => ih (m + 1) v h hd' hlt (by
      rcases hv with ⟨a, b, c⟩ | ⟨a, ⟨q, q1, q2⟩, c⟩
      · exact .inl ⟨a, b, fun q hq' => ((mem q).1 hq').elim (c q) fun e => e ▸ hn⟩
      · exact .inr ⟨a, ⟨q, (mem q).2 (.inl q1), q2⟩, fun q hq' h1 h2 => ((mem q).1 hq').elim (fun g => c q g h1 h2) fun e => absurd ⟨e ▸ h1, e ▸ h2⟩ hn⟩)
    have start : ∀ {w}, El (fun k j => cond z.1.fOn (grd ((0 : Int) ≤ (m : Int) ∧ (m : Int) < ((Z.map (·.2)).length : Int)) (cond (!z.2) (cond (!h) (concourseref14_Next.l0 k ⟨Z.map (·.1), Z.map (·.2)⟩ j (z.1.fTick + z.1.fSpan) true ((m + 1 : Nat) : Int)) (cond (decide (z.1.fTick + z.1.fSpan < v)) (concourseref14_Next.l0 k ⟨Z.map (·.1), Z.map (·.2)⟩ j (z.1.fTick + z.1.fSpan) true ((m + 1 : Nat) : Int)) (concourseref14_Next.l0 k ⟨Z.map (·.1), Z.map (·.2)⟩ j v h ((m + 1 : Nat) : Int)))) (concourseref14_Next.l0 k ⟨Z.map (·.1), Z.map (·.2)⟩ j v h ((m + 1 : Nat) : Int)))) (concourseref14_Next.l0 k ⟨Z.map (·.1), Z.map (·.2)⟩ j v h ((m + 1 : Nat) : Int))) w →
        El (fun k j => concourseref14_Next.l0 k ⟨Z.map (·.1), Z.map (·.2)⟩ j v h (m : Int)) w := fun G => by
      refine El.step (fun _ _ => by rw [concourseref14_Next.l0]) ?_
      simp only [inc_nat (show m ≤ 1000000 by omega), e1, e2, end_id hq]
      exact El.ct (decide_eq_true g1.2) (El.grd g1 (El.grd g1 (El.grd g1 G)))
    cases c1 : z.1.fOn with
    | false =>
      obtain ⟨v', h', k1, k2⟩ := same (fun h => by rw [c1] at h; cases h.2)
      exact ⟨v', h', start (El.cf c1 k1), k2⟩
    | true =>
      cases c2 : z.2 with
      | true =>
        obtain ⟨v', h', k1, k2⟩ := same (fun h => by rw [c2] at h; cases h.1)
        exact ⟨v', h', start (El.ct c1 (El.grd g2 (El.cf (by rw [c2]; rfl) k1))), k2⟩
      | false =>
        rcases hv with ⟨a, b, c⟩ | ⟨a, ⟨q, q1, q2, q3, q4⟩, c⟩
        · obtain ⟨v', h', k1, k2⟩ := ih (m + 1) (z.1.fTick + z.1.fSpan) true hd' hlt (.inr ⟨rfl, ⟨z, (mem z).2 (.inr rfl), c2, c1, rfl⟩, fun q hq' h1 h2 => ((mem q).1 hq').elim (fun g => absurd ⟨h1, h2⟩ (c q g)) fun e => by rw [e]; exact Int.le_refl _⟩)
          exact ⟨v', h', start (El.ct c1 (El.grd g2 (El.ct (by rw [c2]; rfl) (El.ct (by rw [a]; rfl) k1)))), k2⟩
        · by_cases c3 : z.1.fTick + z.1.fSpan < v
          · obtain ⟨v', h', k1, k2⟩ := ih (m + 1) (z.1.fTick + z.1.fSpan) true hd' hlt (.inr ⟨rfl, ⟨z, (mem z).2 (.inr rfl), c2, c1, rfl⟩, fun q hq' h1 h2 => ((mem q).1 hq').elim (fun g => by have := c q g h1 h2; omega) fun e => by rw [e]; exact Int.le_refl _⟩)
            exact ⟨v', h', start (El.ct c1 (El.grd g2 (El.ct (by rw [c2]; rfl) (El.cf (by rw [a]; rfl) (El.ct (decide_eq_true c3) k1))))), k2⟩
          · obtain ⟨v', h', k1, k2⟩ := ih (m + 1) v h hd' hlt (.inr ⟨a, ⟨q, (mem q).2 (.inl q1), q2, q3, q4⟩, fun q hq' h1 h2 => ((mem q).1 hq').elim (fun g => c q g h1 h2) fun e => by rw [e]; omega⟩)
            exact ⟨v', h', start (El.ct c1 (El.grd g2 (El.ct (by rw [c2]; rfl) (El.cf (by rw [a]; rfl) (El.cf (decide_eq_false c3) k1))))), k2⟩
theorem refnext_ev (hb : Z.length ≤ 1000) (hok : ∀ q ∈ Z, OkE q.1) : ∃ v h, Ev (fun k => concourseref14_Next.f k ⟨Z.map (·.1), Z.map (·.2)⟩) (v, h) ∧
    ((h = false ∧ v = 0 ∧ ∀ q ∈ Z, ¬ (q.2 = false ∧ q.1.fOn = true)) ∨ (h = true ∧ (∃ q ∈ Z, q.2 = false ∧ q.1.fOn = true ∧ q.1.fTick + q.1.fSpan = v) ∧ ∀ q ∈ Z, q.2 = false → q.1.fOn = true → v ≤ q.1.fTick + q.1.fSpan)) := by
  obtain ⟨v, h, k1, k2⟩ := refnext_loop hb hok Z.length 0 0 false (by omega) (by omega) (.inl ⟨rfl, rfl, by simp⟩)
  exact ⟨v, h, Ev.bind k1.diag Ev.pure, k2⟩
end
/-! both, beside each other -/
theorem cmpctS_len (xs : List ByteArray) : (cmpctS xs).length ≤ xs.length := by
  unfold cmpctS Lib.compact Lib.compactUpTo
  rw [List.length_map, List.length_map]
  refine Nat.le_trans (List.length_filter_le ..) ?_
  simp
theorem keyOf_le {e : Edu} (h : OkE e) : (keyOf e).size ≤ maxLen := by
  have a := h.room.2
  have b := h.user.2
  have : (keyOf e).size ≤ 100 := by
    unfold keyOf
    rw [ByteArray.size_append, ByteArray.size_append, show (⟨#[32]⟩ : ByteArray).size = 1 from rfl]; omega
  exact Nat.le_trans this (by decide)
theorem ended_both {t : TTab} {Z : List (Edu × Bool)} {n : Nat} (R : Rel t Z n) (hn : n ≤ 1000) (at_ : Int) : ∃ rs t', Ev (fun k => concourseref14_Ended.f k ⟨Z.map (·.1), Z.map (·.2)⟩ at_) (⟨(Z.map (tellZ at_)).map (·.1), (Z.map (tellZ at_)).map (·.2)⟩, rs) ∧ rs.length ≤ 100000 ∧
    Ev (fun k => typing_Table_Ended.f k t at_) (rs, t') ∧ Rel t' (Z.map (tellZ at_)) n := by
  have hZ : Z.length ≤ 1000 := Nat.le_trans R.ln hn
  obtain ⟨out, r1, r2, r3⟩ := refend_ev hZ R.ok at_
  obtain ⟨h', vs, p1, p2, p3, p4, p5, p6⟩ := ended_ev R.idx R.ord (by have := R.hn; omega) (fun x hx => by
    obtain ⟨q, q1, _, _, q4⟩ := (R.cont x).1 hx
    rw [q4]; exact keyOf_le (R.ok q q1)) at_
  have e1 : (Z.map (tellZ at_)).map (·.1) = Z.map (·.1) := by rw [List.map_map]; rfl
  have e2 : (Z.map (tellZ at_)).map (·.2) = Z.map (fun q => (tellZ at_ q).2) := by rw [List.map_map]; rfl
  have eo : cmpctS (srtS (vs.map rmK)) = out := by
    refine srtT_ext (cmpctS_srt (srtS_srt _)) r2 (fun x => ?_)
    rw [cmpctS_mem, srtS_mem, List.mem_map, r3]
    constructor
    · rintro ⟨key, k1, k2⟩
      obtain ⟨y, y1, y2, y3⟩ := (p6 key).1 k1
      obtain ⟨q, q1, q2, q3, q4⟩ := (R.cont y).1 y1
      subst q4
      refine ⟨q, q1, ⟨q2, q3, y2⟩, ?_⟩
      rw [← k2, ← y3]
      exact (rmK_key (named_nosp (by decide) (R.ok q q1).room.1)).symm
    · rintro ⟨q, q1, ⟨q2, q3, q4⟩, q5⟩
      refine ⟨keyOf q.1, (p6 _).2 ⟨entOf q.1, (R.cont _).2 ⟨q, q1, q2, q3, rfl⟩, q4, rfl⟩, ?_⟩
      rw [← q5]
      exact rmK_key (named_nosp (by decide) (R.ok q q1).room.1)
  refine ⟨out, ⟨t.fl, h'⟩, by rw [e1, e2]; exact r1, ?_, by rw [← eo]; exact p1, ?_⟩
  · have h1 : (cmpctS (srtS (vs.map rmK))).length ≤ vs.length := by
      have := cmpctS_len (srtS (vs.map rmK))
      rw [srtS_len, List.length_map] at this
      exact this
    rw [← eo]; have := R.hn; omega
  · refine ⟨by rw [e1]; exact R.fl, by rw [e1]; exact R.srt, fun q hq => ?_, p2, p3, by rw [List.length_map]; exact R.ln, by have := R.hn; show h'.fl.length ≤ n; omega, fun x => ?_⟩
    · obtain ⟨p, hp, rfl⟩ := List.mem_map.1 hq; exact R.ok p hp
    · show x ∈ h'.fl ↔ _
      rw [p5, R.cont]
      constructor
      · rintro ⟨⟨q, q1, q2, q3, q4⟩, h2⟩
        refine ⟨tellZ at_ q, List.mem_map.2 ⟨q, q1, rfl⟩, ?_, q3, q4⟩
        rw [q4] at h2
        have : ¬ q.1.fTick + q.1.fSpan ≤ at_ := by have h3 : at_ < q.1.fTick + q.1.fSpan := h2; omega
        simp [tellZ, q2, this]
      · rintro ⟨q, q1, q2, q3, q4⟩
        obtain ⟨p, hp, rfl⟩ := List.mem_map.1 q1
        have h3 : p.1.fOn = true := q3
        simp only [tellZ, Bool.or_eq_false_iff, h3, Bool.true_and, decide_eq_false_iff_not] at q2
        refine ⟨⟨p, hp, q2.1, h3, q4⟩, ?_⟩
        rw [q4]; show at_ < p.1.fTick + p.1.fSpan; omega
theorem next_both {t : TTab} {Z : List (Edu × Bool)} {n : Nat} (R : Rel t Z n) (hn : n ≤ 1000) : ∃ v h, Ev (fun k => concourseref14_Next.f k ⟨Z.map (·.1), Z.map (·.2)⟩) (v, h) ∧ typing_Table_Next.f t = some (v, h) := by
  obtain ⟨v, h, r1, r2⟩ := refnext_ev (Nat.le_trans R.ln hn) R.ok
  refine ⟨v, h, r1, ?_⟩
  rcases next_ev R.ord with ⟨a, b⟩ | ⟨x, x1, x2, x3⟩
  · rcases r2 with ⟨rfl, rfl, _⟩ | ⟨_, ⟨q, q1, q2, q3, _⟩, _⟩
    · exact b
    · have := (R.cont (entOf q.1)).2 ⟨q, q1, q2, q3, rfl⟩
      rw [a] at this; cases this
  · obtain ⟨q, q1, q2, q3, q4⟩ := (R.cont x).1 x1
    rcases r2 with ⟨_, _, c⟩ | ⟨rfl, ⟨p, p1, p2, p3, p4⟩, c⟩
    · exact absurd ⟨q2, q3⟩ (c q q1)
    · rw [x2]
      have h1 := x3 _ ((R.cont (entOf p.1)).2 ⟨p, p1, p2, p3, rfl⟩)
      have h2 := c q q1 q2 q3
      have h3 : x.fAt = q.1.fTick + q.1.fSpan := by rw [q4]; rfl
      have h4 : (entOf p.1).fAt = v := p4
      have : x.fAt = v := by omega
      rw [this]
theorem put_any {t : TTab} {Z : List (Edu × Bool)} {n : Nat} {e : Edu} (R : Rel t Z n) (hn : n ≤ 1000) (z : Sz e) : ∃ Z' b f t', Ev (fun k => concourseref14_Put.f k ⟨Z.map (·.1), Z.map (·.2)⟩ e) (⟨Z'.map (·.1), Z'.map (·.2)⟩, b, f) ∧ Ev (fun k => typing_Table_Put.f k t e) (b, f, t') ∧ Rel t' Z' (n + 1) := by
  by_cases he : OkE e
  · obtain ⟨p, hp, h1, t', h2, h3⟩ := put_both R hn he
    cases ho : old (Z.map (·.1)) e p with
    | true => rw [ho] at h1 h2 h3; exact ⟨Z, false, 0, t', h1, h2, h3⟩
    | false => rw [ho] at h1 h2 h3; exact ⟨newZ Z e p, true, 0, t', h1, h2, h3⟩
  · obtain ⟨h1, h2⟩ := not_ok z he ⟨Z.map (·.1), Z.map (·.2)⟩ t
    exact ⟨Z, false, 1, t, h1, h2, R.fl, R.srt, R.ok, R.idx, R.ord, by have := R.ln; omega, by have := R.hn; omega, R.cont⟩
theorem all_eq {t : TTab} (h : t.fl.length ≤ 100000) : typing_Table_All.f t = some t.fl := by
  unfold typing_Table_All.f slices_Clone_Edu.f
  simp only [grd]
  rw [if_pos ⟨by omega, by omega⟩]; rfl
theorem new_eq : typing_New.f = some ⟨[], ⟨[], []⟩⟩ := rfl
end Go.Proofs.YtmbodanckhidiaaGreat
