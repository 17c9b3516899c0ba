/- Plain: what ended is told. -/
import Derived.Test.YtmbodanckhidiaaGreatZPW
import Derived.Test.YtmbodanckhidiaaGreatZPK
import Derived.Test.YtmbodanckhidiaaGreatZVB
set_option linter.all false
set_option maxRecDepth 10000
namespace Go.Proofs.YtmbodanckhidiaaGreat
open Go Go.Sp
/-- The room of a key. -/
def rmK (s : ByteArray) : ByteArray := if 0 ≤ idxB s 32 then s.extract 0 (idxB s 32).toNat else s
theorem rmK_ev {s : ByteArray} (hs : s.size ≤ maxLen) : ∃ y, strings_Cut.f s ⟨#[32]⟩ = some (rmK s, y) := by
  have := cut_gen (s := s) 32 hs
  rw [this]
  unfold rmK
  by_cases h : 0 ≤ idxB s 32
  · exact ⟨_, by rw [if_pos h, if_pos (show 0 ≤ idxB s (((32 : UInt8).toNat : Nat) : Int) from h)]; rfl⟩
  · exact ⟨_, by rw [if_neg h, if_neg (show ¬ 0 ≤ idxB s (((32 : UInt8).toNat : Nat) : Int) from h)]⟩
theorem ended_loop {t : TTab} {q : List ByteArray × HHeap} (hq : q.1.length ≤ 100000) (hs : ∀ s ∈ q.1, s.size ≤ maxLen) : ∀ n m : Nat, q.1.length - m = n → m ≤ q.1.length →
    ∃ a, El (fun k j => typing_Table_Ended.l0 k t q j (m : Int) ((q.1.take m).map rmK)) a ∧ a.2.2.2.1 = ⟨t.fl, q.2⟩ ∧ a.2.2.2.2.1 = q.1.map rmK := by
  intro n
  induction n with
  | zero =>
    intro m hd hm
    obtain rfl : m = q.1.length := by omega
    rw [List.take_length]
    refine ⟨((q.1.length : Int), (q.1.length : Int), false, ⟨t.fl, q.2⟩, q.1.map rmK, q.1), ?_, rfl, rfl⟩
    refine El.step (fun _ _ => by rw [typing_Table_Ended.l0]) ?_
    exact El.cf (by simp) (by simpa using El.pure)
  | succ n ih =>
    intro m hd hm
    have hlt : m < q.1.length := by omega
    obtain ⟨a, a1, a2⟩ := ih (m + 1) (by omega) (by omega)
    refine ⟨a, ?_, a2⟩
    obtain ⟨y, hy⟩ := rmK_ev (hs _ (getD_mem (d := default) hlt))
    refine El.step (fun _ _ => by rw [typing_Table_Ended.l0]) ?_
    simp only [inc_nat (show m ≤ 1000000 by omega), Int.toNat_natCast]
    refine El.ct (decide_eq_true (by omega)) (El.grd ⟨by omega, by omega⟩ (El.bind (Ev.of hy).el (El.grd ⟨by simp; omega, by simp; omega⟩ ?_)))
    have e : (q.1.take (m + 1)).map rmK = (q.1.take m).map rmK ++ [rmK (q.1.getD m default)] := by
      rw [List.take_succ_eq_append_getElem hlt, List.map_append, List.getD_eq_getElem?_getD, List.getElem?_eq_getElem hlt]; rfl
    rw [e] at a1
    exact a1
theorem ended_ev {t : TTab} (H : Idx t.fends) (O : Ord t.fends.fl) (hn : t.fends.fl.length ≤ 100000) (hs : ∀ x ∈ t.fends.fl, x.fKey.size ≤ maxLen) (at_ : Int) :
    ∃ (h' : HHeap) (vs : List ByteArray), Ev (fun k => typing_Table_Ended.f k t at_) (cmpctS (srtS (vs.map rmK)), ⟨t.fl, h'⟩) ∧ Idx h' ∧ Ord h'.fl ∧ h'.fl.length + vs.length = t.fends.fl.length ∧ (∀ x, x ∈ h'.fl ↔ x ∈ t.fends.fl ∧ at_ < x.fAt) ∧ (∀ key, key ∈ vs ↔ ∃ x ∈ t.fends.fl, x.fAt ≤ at_ ∧ x.fKey = key) := by
  obtain ⟨h', vs, d1, d2, d3, d4, d5, d6, _⟩ := due_ev H O hn at_
  obtain ⟨a, a1, a2, a3⟩ := ended_loop (t := t) (q := (vs, h')) (by show vs.length ≤ 100000; omega) (fun s hm => by
    obtain ⟨x, x1, _, x3⟩ := (d6 s).1 hm
    rw [← x3]; exact hs x x1) _ 0 rfl (by omega)
  refine ⟨h', vs, ?_, d2, d3, d4, d5, d6⟩
  unfold typing_Table_Ended.f slices_Sort_string.f slices_Compact_string.f
  refine Ev.bind (Ev.bind d1 a1.diag) ?_
  rw [a2, a3]
  refine Ev.bind (Ev.grd (by simp; omega) Ev.pure) (Ev.bind (Ev.grd (by rw [srtS_len]; simp; omega) Ev.pure) Ev.pure)
theorem ended_nil : cmpctS (srtS (([] : List ByteArray).map rmK)) = [] := by simp [cmpctS, srtS, Lib.compact, Lib.compactUpTo]
theorem next_ev {t : TTab} (O : Ord t.fends.fl) : (t.fends.fl = [] ∧ typing_Table_Next.f t = some (0, false)) ∨ ∃ x, x ∈ t.fends.fl ∧ typing_Table_Next.f t = some (x.fAt, true) ∧ ∀ y ∈ t.fends.fl, x.fAt ≤ y.fAt := by
  unfold typing_Table_Next.f
  rcases first_ev O with ⟨h1, h2⟩ | ⟨x, h1, h2, h3⟩
  · exact .inl ⟨h1, by rw [h2]; rfl⟩
  · exact .inr ⟨x, h1, by rw [h2]; rfl, h3⟩
end Go.Proofs.YtmbodanckhidiaaGreat
