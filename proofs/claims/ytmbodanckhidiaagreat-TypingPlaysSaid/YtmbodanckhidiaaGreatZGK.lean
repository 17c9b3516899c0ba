/- Plain: names hold no space; keys of a room and a user. -/
import Derived.Test.YtmbodanckhidiaaGreatZVB
set_option linter.all false
set_option maxRecDepth 10000
namespace Go.Proofs.YtmbodanckhidiaaGreat
open Go Go.Sp
theorem app_toList (a b : ByteArray) : (a ++ b).data.toList = a.data.toList ++ b.data.toList := by simp [ByteArray.data_append]
theorem ba_ext {a b : ByteArray} (h : a.data.toList = b.data.toList) : a = b := by
  obtain ⟨⟨a⟩⟩ := a; obtain ⟨⟨b⟩⟩ := b; simp at h; subst h; rfl
/-- No byte of a text is a space. -/
def Nosp (s : ByteArray) : Prop := ∀ x ∈ s.data.toList, x ≠ 32
theorem nosp_of {s : ByteArray} (h : ∀ i : Nat, i < s.size → bt s (i : Int) ≠ 32) : Nosp s := fun x hx e => by
  obtain ⟨i, hi, hx⟩ := List.mem_iff_getElem.1 hx
  have hi' : i < s.data.size := by simpa using hi
  refine h i hi' ?_
  unfold bt
  rw [Int.toNat_natCast, Array.getD_eq_getD_getElem?, Array.getElem?_eq_getElem hi']
  have : s.data[i] = x := by rw [← hx]; simp
  simp only [Option.getD_some, this, e]
  rfl
theorem sp_inj : ∀ {L L' M M' : List UInt8}, (∀ x ∈ L, x ≠ 32) → (∀ x ∈ L', x ≠ 32) → L ++ 32 :: M = L' ++ 32 :: M' → L = L' ∧ M = M'
  | [], [], M, M', _, _, h => by simpa using h
  | [], y :: L', M, M', _, h2, h => by simp at h; exact absurd h.1.symm (h2 y (List.mem_cons_self ..))
  | x :: L, [], M, M', h1, _, h => by simp at h; exact absurd h.1 (h1 x (List.mem_cons_self ..))
  | x :: L, y :: L', M, M', h1, h2, h => by
    simp only [List.cons_append, List.cons.injEq] at h
    obtain ⟨a, b⟩ := sp_inj (fun z hz => h1 z (List.mem_cons_of_mem _ hz)) (fun z hz => h2 z (List.mem_cons_of_mem _ hz)) h.2
    exact ⟨by rw [h.1, a], b⟩
theorem key_list (a b : ByteArray) : ((a ++ (⟨#[32]⟩ : ByteArray)) ++ b).data.toList = a.data.toList ++ 32 :: b.data.toList := by
  rw [app_toList, app_toList]; simp
theorem key_inj {a b a' b' : ByteArray} (ha : Nosp a) (ha' : Nosp a') (h : (a ++ (⟨#[32]⟩ : ByteArray)) ++ b = (a' ++ (⟨#[32]⟩ : ByteArray)) ++ b') : a = a' ∧ b = b' := by
  have h1 := congrArg (fun s : ByteArray => s.data.toList) h
  simp only [key_list] at h1
  obtain ⟨e1, e2⟩ := sp_inj ha ha' h1
  exact ⟨ba_ext e1, ba_ext e2⟩
/-- A name of a sign holds no space. -/
theorem named_nosp {s : ByteArray} {c : UInt8} (hc : c ≠ 32) (h : namedB s c = true) : Nosp s := nosp_of fun i hi => by
  have hcc : (c.toNat : Int) ≠ 32 := fun h => hc (UInt8.toNat_inj.1 (by exact_mod_cast h))
  unfold namedB at h
  split at h
  · rename_i h0
    simp only at h
    split at h
    · rename_i h1
      have hft := fi_idx (s.extract 1 s.size) 58
      rw [show (((58 : UInt8).toNat : Int)) = 58 from rfl] at hft
      rcases hft with ⟨e, _⟩ | ⟨j, e, j1, j2, _⟩
      · omega
      · rw [e, Int.toNat_natCast, Bool.and_eq_true] at h
        obtain ⟨p1, p2⟩ := h
        have hsz : (s.extract 1 s.size).size = s.size - 1 := size_ext (Nat.le_refl _)
        have cP : ∀ x : Int, chP x = true → x ≠ 32 := fun x hx e => by subst e; exact absurd hx (by decide)
        have cS : ∀ x : Int, chS x = true → x ≠ 32 := fun x hx e => by subst e; exact absurd hx (by decide)
        rcases Nat.eq_zero_or_pos i with rfl | hpos
        · rw [show ((0 : Nat) : Int) = 0 from rfl, h0.2]; exact hcc
        · obtain ⟨m, rfl⟩ : ∃ m, i = 1 + m := ⟨i - 1, by omega⟩
          have hb : bt (s.extract 1 s.size) (m : Int) = bt s ((1 + m : Nat) : Int) := bt_ext (by omega) (Nat.le_refl _)
          rw [← hb]
          rcases Nat.lt_trichotomy m j with hm | hm | hm
          · unfold mayB at p1
            rw [Bool.and_eq_true] at p1
            have := allp_iff.1 p1.1 m (Nat.zero_le _) (by rw [size_ext (by omega)]; omega)
            have := cP _ this
            rwa [bt_ext (by omega) (by omega), Nat.zero_add] at this
          · subst hm; rw [j2]; decide
          · unfold serverB mayB at p2
            rw [Bool.and_eq_true, Bool.and_eq_true] at p2
            have := allp_iff.1 p2.1.1 (m - (j + 1)) (Nat.zero_le _) (by rw [size_ext (Nat.le_refl _)]; omega)
            have := cS _ this
            rwa [bt_ext (by omega) (Nat.le_refl _), show j + 1 + (m - (j + 1)) = m by omega] at this
    · cases h
  · cases h
end Go.Proofs.YtmbodanckhidiaaGreat
