/- Maps whose values are things behind pointers. -/
import Derived.Test.YtigmkniiojpdiaaGreatConU
set_option linter.all false
namespace Go.Sp
open Go
theorem Bs.permL {R : Fz} {l l' : List As} (h : l.Perm l') : ∀ {m : Mem}, Bs R m l → Bs R m l' := by
  induction h with
  | nil => exact fun h => h
  | cons A _ ih => exact fun ⟨m1, m2, h1, h2, hp⟩ => ⟨m1, m2, h1, ih h2, hp⟩
  | swap A B l =>
    rintro m ⟨m1, m2, h1, ⟨m3, m4, h3, h4, hq⟩, hp⟩
    refine ⟨m3, m1 ++ m4, h3, ⟨m1, m4, h1, h4, List.Perm.refl _⟩, hp.trans ((hq.append_left m1).trans ?_)⟩
    rw [← List.append_assoc, ← List.append_assoc]
    exact List.perm_append_comm.append_right _
  | trans _ _ ih1 ih2 => exact fun h => ih2 (ih1 h)
section
variable {κ α : Type} [DecidableEq κ]
def nilP : OV := ⟨.pointer none, rfl⟩
def zipK (m : List (κ × α)) (ps : List OV) : List (κ × OV) := List.zipWith (fun e p => (e.1, p)) m ps
def zipO (O : OV → α → As) (m : List (κ × α)) (ps : List OV) : List As := List.zipWith (fun e p => O p e.2) m ps
def others (O : OV → α → As) : List (κ × α) → List OV → κ → List As
  | e :: m, p :: ps, k => if e.1 = k then zipO O m ps else O p e.2 :: others O m ps k
  | _, _, _ => []
def pput : List (κ × α) → List OV → κ → OV → List OV
  | e :: m, q :: ps, k, p => if e.1 = k then p :: ps else q :: pput m ps k p
  | _, _, _, p => [p]
/-- The things of a map, each behind its pointer. -/
def thg (O : OV → α → As) (m : List (κ × α)) (ps : List OV) : As := ⟨fun R mem => Bs R mem (zipO O m ps), fun hR h => h.mono hR⟩
/-- All but the one of a key. -/
def thgB (O : OV → α → As) (m : List (κ × α)) (ps : List OV) (k : κ) : As := ⟨fun R mem => Bs R mem (others O m ps k), fun hR h => h.mono hR⟩
def okP (m : List (κ × α)) (ps : List OV) : Prop := ps.length = m.length ∧ ∀ p ∈ ps, ∃ a, p.1 = .pointer (some a)
/-- A map of things. -/
def mpo (kv : κ → Value) (O : OV → α → As) (v : Value) (m : List (κ × α)) : As := exA (okP m) (fun ps => [mp kv (fun p : OV => eq p.1) v (zipK m ps), thg O m ps])
variable {kv : κ → Value} {O : OV → α → As} {v : Value} {m : List (κ × α)} {ps : List OV} {k : κ} {a : α} {p : OV} {l r : List As}
theorem zipK_len (h : ps.length = m.length) : (zipK m ps).length = m.length := by simp [zipK, h]
theorem zipK_none : ∀ {m : List (κ × α)} {ps : List OV}, mget m k = none → mget (zipK m ps) k = none
  | [], _, _ => by cases ‹List OV› <;> rfl
  | _ :: _, [], _ => rfl
  | e :: m, p :: ps, h => by
    simp only [mget] at h
    split at h
    · cases h
    · rename_i hn
      show mget ((e.1, p) :: zipK m ps) k = none
      simp only [mget, if_neg hn]
      exact zipK_none h
theorem zipK_some : ∀ {m : List (κ × α)} {ps : List OV}, ps.length = m.length → mget m k = some a → ∃ p, p ∈ ps ∧ mget (zipK m ps) k = some p ∧ (zipO O m ps).Perm (O p a :: others O m ps k)
  | [], _, _, h => by cases h
  | _ :: _, [], h, _ => by simp at h
  | e :: m, p :: ps, hl, h => by
    simp only [mget] at h
    split at h
    · rename_i hk
      cases h
      refine ⟨p, List.mem_cons_self .., ?_, ?_⟩
      · show mget ((e.1, p) :: zipK m ps) k = _
        simp only [mget, if_pos hk]
      · show (O p e.2 :: zipO O m ps).Perm _
        simp only [others, if_pos hk]
        exact List.Perm.refl _
    · rename_i hn
      obtain ⟨q, h1, h2, h3⟩ := zipK_some (by simpa using hl) h
      refine ⟨q, List.mem_cons_of_mem _ h1, ?_, ?_⟩
      · show mget ((e.1, p) :: zipK m ps) k = _
        simp only [mget, if_neg hn]; exact h2
      · show (O p e.2 :: zipO O m ps).Perm _
        simp only [others, if_neg hn]
        exact (h3.cons _).trans (List.Perm.swap _ _ _)
theorem zipK_put : ∀ {m : List (κ × α)} {ps : List OV}, (mget m k).isSome = true → zipK (mput m k a) ps = zipK m ps
  | [], _, h => by simp [mget] at h
  | e :: m, [], h => by unfold zipK; rw [List.zipWith_nil_right, List.zipWith_nil_right]
  | e :: m, p :: ps, h => by
    simp only [mget] at h
    simp only [mput]
    split
    · rename_i hk; show (k, p) :: zipK m ps = (e.1, p) :: zipK m ps; rw [hk]
    · rename_i hn
      rw [if_neg hn] at h
      show (e.1, p) :: zipK (mput m k a) ps = (e.1, p) :: zipK m ps
      rw [zipK_put h]
theorem others_put : ∀ {m : List (κ × α)} {ps : List OV}, (mget m k).isSome = true → others O (mput m k a) ps k = others O m ps k
  | [], _, h => by simp [mget] at h
  | e :: m, [], h => by simp only [mput]; split <;> rfl
  | e :: m, p :: ps, h => by
    simp only [mget] at h
    simp only [mput]
    split
    · rename_i hk; simp only [others, if_pos hk, if_true]
    · rename_i hn
      rw [if_neg hn] at h
      simp only [others, if_neg hn]
      rw [others_put h]
theorem mput_len : ∀ {m : List (κ × α)}, (mget m k).isSome = true → (mput m k a).length = m.length
  | [], h => by simp [mget] at h
  | e :: m, h => by
    simp only [mget] at h
    simp only [mput]
    split
    · rfl
    · rename_i hn
      rw [if_neg hn] at h
      simp [mput_len h]
theorem mget_mput : ∀ {m : List (κ × α)}, mget (mput m k a) k = some a
  | [] => by simp [mput, mget]
  | e :: m => by
    simp only [mput]
    split
    · simp [mget]
    · rename_i hn; simp only [mget, if_neg hn]; exact mget_mput
theorem pput_zip : ∀ {m : List (κ × α)} {ps : List OV}, ps.length = m.length → zipK (mput m k a) (pput m ps k p) = mput (zipK m ps) k p ∧ (pput m ps k p).length = (mput m k a).length ∧ (∀ q ∈ pput m ps k p, q = p ∨ q ∈ ps) ∧ ∃ A, (O p a :: zipO O m ps).Perm (A ++ zipO O (mput m k a) (pput m ps k p))
  | [], [], _ => ⟨rfl, rfl, fun q hq => .inl (by simpa [pput] using hq), [], List.Perm.refl _⟩
  | [], _ :: _, h => by simp at h
  | _ :: _, [], h => by simp at h
  | e :: m, q :: ps, hl => by
    by_cases hk : e.1 = k
    · simp only [mput, pput, if_pos hk]
      refine ⟨?_, by simpa using hl, fun z hz => ?_, [O q e.2], ?_⟩
      · show (k, p) :: zipK m ps = mput ((e.1, q) :: zipK m ps) k p
        simp only [mput, if_pos hk]
      · rcases List.mem_cons.1 hz with h | h
        · exact .inl h
        · exact .inr (List.mem_cons_of_mem _ h)
      · show (O p a :: O q e.2 :: zipO O m ps).Perm (O q e.2 :: O p a :: zipO O m ps)
        exact List.Perm.swap _ _ _
    · simp only [mput, pput, if_neg hk]
      obtain ⟨h1, h2, h3, A, h4⟩ := pput_zip (m := m) (ps := ps) (by simpa using hl)
      refine ⟨?_, by simpa using h2, fun z hz => ?_, A, ?_⟩
      · show (e.1, q) :: zipK (mput m k a) (pput m ps k p) = mput ((e.1, q) :: zipK m ps) k p
        simp only [mput, if_neg hk, h1]
      · rcases List.mem_cons.1 hz with h | h
        · exact .inr (by rw [h]; exact List.mem_cons_self ..)
        · exact (h3 z h).imp id (List.mem_cons_of_mem _)
      · show (O p a :: O q e.2 :: zipO O m ps).Perm (A ++ O q e.2 :: zipO O (mput m k a) (pput m ps k p))
        exact (List.Perm.swap _ _ _).trans ((h4.cons _).trans (List.perm_middle.symm))
variable {Z : List (κ × OV)}
theorem pm_nil (ho : okP m ps) (hZ : Z = zipK m ps) : ((mget m k).isNone = false → ∃ a, ((mget Z k).getD nilP).1 = .pointer (some a)) ∧ ((mget m k).isNone = true → ((mget Z k).getD nilP).1 = .pointer none) := by
  subst hZ
  cases h : mget m k with
  | none => rw [zipK_none h]; exact ⟨fun k => (by cases k), fun _ => rfl⟩
  | some a =>
    obtain ⟨p, h1, h2, _⟩ := zipK_some (O := fun _ _ => ⟨fun _ _ => True, fun _ h => h⟩) ho.1 h
    rw [h2]
    exact ⟨fun _ => ho.2 p h1, fun k => (by cases k)⟩
theorem some_of [Inhabited α] (h : (mget m k).isSome = true) : mget m k = some ((mget m k).getD default) := by
  cases e : mget m k with
  | none => rw [e] at h; cases h
  | some a => rfl
theorem zipK_put' (hZ : Z = zipK m ps) (hk : (mget m k).isSome = true) : Z = zipK (mput m k a) ps := by rw [zipK_put hk]; exact hZ
theorem mpo_opn (j : Nat) (hj : l[j]? = some (mpo kv O v m)) : ∀ R w, St R l w → ∃ ps, okP m ps ∧ St R ([mp kv (fun p : OV => eq p.1) v (zipK m ps), thg O m ps] ++ l.eraseIdx j) w := st_open j hj
theorem mpo_shut (ho : okP m ps) (hZ : Z = zipK m ps) (hp : l.Perm ([mp kv (fun p : OV => eq p.1) v Z, thg O m ps] ++ r)) : ∀ R w, St R l w → ∃ _ : Unit, True ∧ St R (mpo kv O v m :: r) w := by
  subst hZ; exact st_shut _ _ ps ho hp
/-- The thing of a key is taken out. -/
theorem mpo_foc [Inhabited α] (ho : okP m ps) (hZ : Z = zipK m ps) (hk : (mget m k).isSome = true) (hp : l.Perm (thg O m ps :: r)) : ∀ R w, St R l w → ∃ _ : Unit, True ∧ St R (O ((mget Z k).getD nilP) ((mget m k).getD default) :: thgB O m ps k :: r) w := fun R w h => by
  subst hZ
  obtain ⟨mem, hb, hw⟩ := (h.permL hp).to_bs
  obtain ⟨m1, m2, h1, h2, hq⟩ := hb
  obtain ⟨p, _, e, hperm⟩ := zipK_some (O := O) ho.1 (some_of hk)
  obtain ⟨m3, m4, h3, h4, hq2⟩ := Bs.permL hperm h1
  rw [e]
  refine ⟨(), trivial, St.of_bs (m := m3 ++ (m4 ++ m2)) ⟨m3, m4 ++ m2, h3, ⟨m4, m2, h4, h2, List.Perm.refl _⟩, List.Perm.refl _⟩ (hw.perm ?_)⟩
  rw [← List.append_assoc]
  exact hq.trans (hq2.append_right _)
/-- It is put back, turned. -/
theorem mpo_unf (ho : okP m ps) (hZ : Z = zipK m ps) (hk : (mget m k).isSome = true) (hp : l.Perm (O ((mget Z k).getD nilP) a :: thgB O m ps k :: r)) : ∀ R w, St R l w → ∃ _ : Unit, okP (mput m k a) ps ∧ St R (thg O (mput m k a) ps :: r) w := fun R w h => by
  subst hZ
  obtain ⟨mem, hb, hw⟩ := (h.permL hp).to_bs
  obtain ⟨m1, m2, h1, ⟨m3, m4, h3, h4, hq2⟩, hq⟩ := hb
  have hl : ps.length = (mput m k a).length := ho.1.trans (mput_len hk).symm
  obtain ⟨p, _, e, hperm⟩ := zipK_some (O := O) (k := k) hl (mget_mput (a := a))
  rw [zipK_put hk] at e
  rw [others_put hk] at hperm
  rw [e] at h1
  refine ⟨(), ⟨hl, ho.2⟩, St.of_bs (m := (m1 ++ m3) ++ m4) ⟨m1 ++ m3, m4, Bs.permL hperm.symm ⟨m1, m3, h1, h3, List.Perm.refl _⟩, h4, List.Perm.refl _⟩ (hw.perm ?_)⟩
  rw [List.append_assoc]
  exact hq.trans (hq2.append_left _)
/-- It is put back as it was. -/
theorem mpo_unf0 [Inhabited α] (ho : okP m ps) (hZ : Z = zipK m ps) (hk : (mget m k).isSome = true) (hp : l.Perm (O ((mget Z k).getD nilP) ((mget m k).getD default) :: thgB O m ps k :: r)) : ∀ R w, St R l w → ∃ _ : Unit, True ∧ St R (thg O m ps :: r) w := fun R w h => by
  subst hZ
  obtain ⟨mem, hb, hw⟩ := (h.permL hp).to_bs
  obtain ⟨m1, m2, h1, ⟨m3, m4, h3, h4, hq2⟩, hq⟩ := hb
  obtain ⟨p, _, e, hperm⟩ := zipK_some (O := O) ho.1 (some_of hk)
  rw [e] at h1
  refine ⟨(), trivial, St.of_bs (m := (m1 ++ m3) ++ m4) ⟨m1 ++ m3, m4, Bs.permL hperm.symm ⟨m1, m3, h1, h3, List.Perm.refl _⟩, h4, List.Perm.refl _⟩ (hw.perm ?_)⟩
  rw [List.append_assoc]
  exact hq.trans (hq2.append_left _)
/-- One more, or another one in its place. -/
theorem mpo_add (hn : NN (O p a) p.1) (ho : okP m ps) (hZ : Z = zipK m ps) (hp : l.Perm (mp kv (fun p : OV => eq p.1) v (mput Z k p) :: thg O m ps :: O p a :: r)) : ∀ R w, St R l w → ∃ _ : Unit, True ∧ St R (mpo kv O v (mput m k a) :: r) w := fun R w h => by
  subst hZ
  obtain ⟨mem, hb, hw⟩ := (h.permL hp).to_bs
  obtain ⟨m1, m2, h1, ⟨m3, m4, h3, ⟨m5, m6, h5, h6, hq3⟩, hq2⟩, hq⟩ := hb
  obtain ⟨e1, e2, e3, A, e4⟩ := pput_zip (k := k) (a := a) (p := p) (O := O) (m := m) (ps := ps) ho.1
  obtain ⟨m7, m8, h7, h8, hq4⟩ := Bs.split (Bs.permL e4 ⟨m5, m3, h5, h3, List.Perm.refl _⟩)
  have hnn := hn R m5 h5
  have key : St R (mpo kv O v (mput m k a) :: r) w := by
    have hs : St R (⟨fun R mem => Bs R mem A, fun hR h => h.mono hR⟩ :: mpo kv O v (mput m k a) :: r) w := by
      refine St.of_bs (m := m7 ++ ((m1 ++ m8) ++ m6)) ⟨m7, (m1 ++ m8) ++ m6, h7, ⟨m1 ++ m8, m6, ⟨pput m ps k p, ⟨e2, fun q hq => ?_⟩, m1, m8, by rw [e1]; exact h1, ⟨m8, [], h8, rfl, by simp⟩, List.Perm.refl _⟩, h6, List.Perm.refl _⟩, List.Perm.refl _⟩ (hw.perm ?_)
      · rcases e3 q hq with rfl | hq
        · exact hnn
        · exact ho.2 q hq
      · refine hq.trans (((hq2.trans (hq3.append_left m3)).append_left m1).trans ?_)
        have h9 : (m3 ++ (m5 ++ m6)).Perm ((m7 ++ m8) ++ m6) := by
          rw [← List.append_assoc]
          exact (List.perm_append_comm.trans hq4).append_right _
        refine (h9.append_left m1).trans ?_
        have h10 : (m1 ++ (m7 ++ m8 ++ m6)).Perm (m7 ++ (m1 ++ (m8 ++ m6))) := by
          rw [List.append_assoc m7, ← List.append_assoc, ← List.append_assoc m7]
          exact List.perm_append_comm.append_right _
        rw [List.append_assoc m1]
        exact h10
    exact hs.drop
  exact ⟨(), trivial, key⟩
theorem mput_same {m : List (κ × α)} {a : α} (h : mget m k = some a) : mput m k a = m := by
  induction m with
  | nil => cases h
  | cons e m ih =>
    simp only [mget] at h
    simp only [mput]
    split
    · rename_i hk; rw [if_pos hk] at h; cases h; rw [← hk]
    · rename_i hn; rw [if_neg hn] at h; rw [ih h]
/-- The same pointer again. -/
theorem mpo_same (ho : okP m ps) (hZ : Z = zipK m ps) (hk : (mget m k).isSome = true) : mput Z k ((mget Z k).getD nilP) = Z := by
  obtain ⟨a, h⟩ := Option.isSome_iff_exists.1 hk
  obtain ⟨p, _, e, _⟩ := zipK_some (O := fun _ _ => ⟨fun _ _ => True, fun _ h => h⟩) ho.1 h
  rw [← hZ] at e
  rw [e]; exact mput_same e
theorem mpo_new (Oc : OV → α → As) : ∀ R w, St R (mp kv (fun p : OV => eq p.1) v [] :: l) w → ∃ _ : Unit, True ∧ St R (mpo (α := α) kv Oc v [] :: l) w := fun R w h => by
  obtain ⟨mem, ⟨m1, m2, h1, h2, hq⟩, hw⟩ := h.to_bs
  exact ⟨(), trivial, St.of_bs (m := m1 ++ m2) ⟨m1, m2, ⟨[], ⟨rfl, fun p hp => by cases hp⟩, m1, [], h1, ⟨[], [], rfl, rfl, by simp⟩, by simp⟩, h2, List.Perm.refl _⟩ (hw.perm hq)⟩
end
section
variable {P : Program} {ops : Array Oper} {n : Nat} {dr : Bool} {R0 : Fz} {K : Act → World → Prop} {E : Env} {l : List As} {pend : List (Nat × (List As → Prop))} {rest : List (Nat × Bool)} {i d : Nat}
variable {T : TypeId} {ps : String} {af : Array Edge} {g : Option (Nat × Bool)} {x y : Operand}
/-- Is it nil? -/
theorem Dv.pm0 {p : Value} {b : Bool} {t td yT : TypeId} (hn : (b = false → ∃ a, p = .pointer (some a)) ∧ (b = true → p = .pointer none)) (ho : opAt ops.toList i = some ⟨some d, .binOp .eql t x y yT, T, ps, af, g⟩) (hg : GOn ops E g) (hx : opv E x = some (eq p)) (hy : opv E y = some (eq (.pointer none))) (hu : P.underlying t = some (.pointer td))
    (k : Dv P ops n dr R0 K ((d, eq (.bool b)) :: E) l ((i, tt) :: pend) rest) : Dv P ops n dr R0 K E l pend ((i, false) :: rest) := by
  obtain ⟨m, hm⟩ : ∃ m, Op.maxDepth = m + 1 := ⟨9999, rfl⟩
  refine Dv.bin ho hg hx hy (fun w => ?_) k
  cases b with
  | true => rw [hn.2 rfl]; simp [eqGuard, binOp, Op.equal, hm, Op.equalIn, underlying, hu]
  | false => obtain ⟨a, e⟩ := hn.1 rfl; rw [e]; simp [eqGuard, binOp, Op.equal, hm, Op.equalIn, underlying, hu]
theorem Dv.pm1 {p : Value} {b : Bool} {t td yT : TypeId} (hn : (b = false → ∃ a, p = .pointer (some a)) ∧ (b = true → p = .pointer none)) (ho : opAt ops.toList i = some ⟨some d, .binOp .neq t x y yT, T, ps, af, g⟩) (hg : GOn ops E g) (hx : opv E x = some (eq p)) (hy : opv E y = some (eq (.pointer none))) (hu : P.underlying t = some (.pointer td))
    (k : Dv P ops n dr R0 K ((d, eq (.bool !b)) :: E) l ((i, tt) :: pend) rest) : Dv P ops n dr R0 K E l pend ((i, false) :: rest) := by
  obtain ⟨m, hm⟩ : ∃ m, Op.maxDepth = m + 1 := ⟨9999, rfl⟩
  refine Dv.bin ho hg hx hy (fun w => ?_) k
  cases b with
  | true => rw [hn.2 rfl]; simp [eqGuard, binOp, Op.equal, hm, Op.equalIn, underlying, hu]
  | false => obtain ⟨a, e⟩ := hn.1 rfl; rw [e]; simp [eqGuard, binOp, Op.equal, hm, Op.equalIn, underlying, hu]
end
end Go.Sp
