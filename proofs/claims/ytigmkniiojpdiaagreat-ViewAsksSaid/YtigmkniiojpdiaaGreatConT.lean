/- What goes in between: the pieces of slices.Insert. -/
import Derived.Test.YtigmkniiojpdiaaGreatConP
set_option linter.all false
namespace Go.Sp
open Go
section
variable {P : Program} {ops : Array Oper} {n : Nat} {dr : Bool} {R0 : Fz} {K : Act → World → Prop} {E : Env} {l : List As} {pend : List (Nat × (List As → Prop))} {rest : List (Nat × Bool)} {i d : Nat}
variable {T : TypeId} {ps : String} {af : Array Edge} {g : Option (Nat × Bool)} {x y : Operand} {α : Type} {Kd : Kd α} {w : World} {xT : TypeId}
theorem wrap_nat {a : Nat} (h : a ≤ 9223372036854775807) : IntKind.i64.wrap (a : Int) = (a : Int) := by
  simp only [IntKind.wrap, IntKind.signed, IntKind.bits]
  simp
  omega
theorem run_addn {a b : Nat} (h : a + b ≤ 9223372036854775807) : (do eqGuard .add xT x y (.int .i64 (a : Int)) (.int .i64 (b : Int)); binOp .add xT (.int .i64 (a : Int)) (.int .i64 (b : Int)) : Sem Value).run P w = .ok (.int .i64 ((a + b : Nat) : Int)) w := by
  have := wrap_nat h
  rw [Int.natCast_add] at this
  rw [run_add, this, Int.natCast_add]
theorem run_subn {a b : Nat} (hb : b ≤ a) (h : a ≤ 9223372036854775807) : (do eqGuard .sub xT x y (.int .i64 (a : Int)) (.int .i64 (b : Int)); binOp .sub xT (.int .i64 (a : Int)) (.int .i64 (b : Int)) : Sem Value).run P w = .ok (.int .i64 ((a - b : Nat) : Int)) w := by
  have e : (a : Int) - b = ((a - b : Nat) : Int) := by omega
  rw [run_sub, e, wrap_nat (by omega)]
theorem bdE_nat {E : Env} {d : Nat} {x : Operand} {m : Nat} (h : opv E x = some (eq (.int .i64 (m : Int)))) : bdE E d (some x) m := ⟨_, _, h, Int.natCast_nonneg m, Int.toNat_natCast m⟩
theorem Dv.slkn {t e : TypeId} {ed : TypeDesc} {lo hi : Option Operand} {b off m c p q sz : Nat} (ho : opAt ops.toList i = some ⟨some d, .slice t x lo hi none, T, ps, af, g⟩) (hg : GOn ops E g) (hx : opv E x = some (eq (.slice (some ⟨b, off, none⟩) m c))) (hu : P.underlying t = some (.slice e)) (hv : P.underlying e = some ed) (hz : P.cellsOf e = sz)
    (hl : bdE E 0 lo p) (hh : bdE E m hi q) (h1 : p ≤ q) (h2 : q ≤ c) (h3 : p < c ∨ p = 0)
    (k : Dv P ops n dr R0 K ((d, eq (.slice (some ⟨b, off + p * sz, none⟩) (q - p) (c - p))) :: E) l ((i, tt) :: pend) rest) : Dv P ops n dr R0 K E l pend ((i, false) :: rest) :=
  Dv.slk ho hg hx hu hv hz hl hh h1 h2 (by
    have e : (if c = p then off else off + p * sz) = off + p * sz := by
      rcases h3 with h | h
      · rw [if_neg (by omega)]
      · subst h; simp
    rw [e]; exact k)
end
section
variable {R : Fz} {l : List As} {α : Type} {Kd : Kd α} {v : Value} {xs : List α}
theorem st_own_blk (j : Nat) (hj : l[j]? = some (own Kd v xs)) (h0 : xs ≠ []) : ∀ R w, St R l w → ∃ g : Nat × Nat × Nat × TypeId × Cs × Cs, (v = .slice (some ⟨g.1, g.2.1, none⟩) xs.length g.2.2.1 ∧ xs.length ≤ g.2.2.1 ∧ g.2.2.2.2.1.length = g.2.1 ∧ g.2.1 + g.2.2.1 * Kd.sz ≤ (g.2.2.2.2.1 ++ xs.flatMap Kd.enc ++ g.2.2.2.2.2).length) ∧
    St R (l.set j (blk g.1 g.2.2.2.1 (g.2.2.2.2.1 ++ xs.flatMap Kd.enc ++ g.2.2.2.2.2))) w := fun R w h => by
  obtain ⟨b, off, c, T, A, C, h1, h2, h3, h4, h5⟩ := own_blk j hj h0 h
  exact ⟨(b, off, c, T, A, C), ⟨h1, h2, h3, h4⟩, h5⟩
/-- A block that tells of a row is one. -/
theorem st_blk_own {b off n c : Nat} {T : TypeId} {ps : Cs} {zs : List α} (j : Nat) (hj : l[j]? = some (blk b T ps)) (hn : zs.length = n) (hl : n ≤ c) (hc : off + c * Kd.sz ≤ ps.length) (hh : (ps.drop off).take (n * Kd.sz) = zs.flatMap Kd.enc) :
    ∀ R w, St R l w → ∃ _ : Unit, True ∧ St R (l.set j (own Kd (.slice (some ⟨b, off, none⟩) n c) zs)) w := fun R w h => by
  obtain ⟨m, ⟨cs, hm, hcs⟩, hk⟩ := h.opn hj
  have e := All2.length hcs
  subst hn
  refine ⟨(), trivial, St.shut hj (.inr ⟨b, off, c, T, (0, 0), cs, rfl, hl, hm, by omega, rfl, ?_⟩) hk⟩
  rw [← hh]
  exact All2.take (All2.drop hcs _) _
end
theorem spl_at {A Z q : Cs} {k : Nat} (h : A.length = k) : spl (A ++ Z) k q = A ++ q ++ Z.drop q.length := by
  subst h
  unfold spl
  rw [List.take_left', List.drop_length_add_append]; rfl
section
variable {α : Type} {Kd : Kd α} {xs ys : List α} {A C : Cs} {i off : Nat}
theorem enc_take (k : Nat) (xs : List α) (hk : k ≤ xs.length) : (xs.flatMap Kd.enc).take (k * Kd.sz) = (xs.take k).flatMap Kd.enc ∧ (xs.flatMap Kd.enc).drop (k * Kd.sz) = (xs.drop k).flatMap Kd.enc := by
  have e : xs.flatMap Kd.enc = (xs.take k).flatMap Kd.enc ++ (xs.drop k).flatMap Kd.enc := by rw [← List.flatMap_append, List.take_append_drop]
  have h : ((xs.take k).flatMap Kd.enc).length = k * Kd.sz := by rw [flatMap_len, List.length_take, Nat.min_eq_left hk]
  rw [e]
  exact ⟨List.take_left' h, List.drop_left' h⟩
/-- What is read of the block. -/
theorem ins_src (hi : i ≤ xs.length) (hA : A.length = off) : (((A ++ xs.flatMap Kd.enc ++ C).drop (off + i * Kd.sz)).take ((xs.length - i) * Kd.sz)) = (xs.drop i).flatMap Kd.enc := by
  subst hA
  rw [List.append_assoc, List.drop_length_add_append]
  have h1 := (enc_take (Kd := Kd) i xs hi)
  have hl : i * Kd.sz ≤ (xs.flatMap Kd.enc).length := by rw [flatMap_len]; exact Nat.mul_le_mul_right _ hi
  rw [List.drop_append_of_le_length hl, h1.2]
  exact List.take_left' (by rw [flatMap_len, List.length_drop])
theorem ins_pre (hi : i ≤ xs.length) (hA : A.length = off) : (((A ++ xs.flatMap Kd.enc ++ C).drop off).take (i * Kd.sz)) = (xs.take i).flatMap Kd.enc := by
  subst hA
  rw [List.append_assoc, List.drop_left]
  have h1 := (enc_take (Kd := Kd) i xs hi)
  have hl : i * Kd.sz ≤ (xs.flatMap Kd.enc).length := by rw [flatMap_len]; exact Nat.mul_le_mul_right _ hi
  rw [List.take_append_of_le_length hl, h1.1]
/-- In a new block. -/
theorem ins_new {Z : Cs} (hi : i ≤ xs.length) : ((spl (spl ((xs.take i).flatMap Kd.enc ++ Z) (i * Kd.sz) (ys.flatMap Kd.enc)) ((i + ys.length) * Kd.sz) ((xs.drop i).flatMap Kd.enc)).drop 0).take ((xs.length + ys.length) * Kd.sz) = (xs.take i ++ ys ++ xs.drop i).flatMap Kd.enc := by
  have h1 : ((xs.take i).flatMap Kd.enc).length = i * Kd.sz := by rw [flatMap_len, List.length_take, Nat.min_eq_left hi]
  rw [spl_at h1, spl_at (by rw [List.length_append, h1, flatMap_len, Nat.add_mul]), List.drop_zero, List.flatMap_append, List.flatMap_append]
  refine List.take_left' ?_
  simp only [List.length_append, flatMap_len, List.length_drop, h1]
  rw [← Nat.add_mul, ← Nat.add_mul]
  congr 1; omega
/-- In place. -/
theorem ins_old (hi : i ≤ xs.length) (hA : A.length = off) (hlen : off + (xs.length + ys.length) * Kd.sz ≤ (A ++ xs.flatMap Kd.enc ++ C).length) :
    ((spl (spl (A ++ xs.flatMap Kd.enc ++ C) (off + (i + ys.length) * Kd.sz) ((xs.drop i).flatMap Kd.enc)) (off + i * Kd.sz) (ys.flatMap Kd.enc)).drop off).take ((xs.length + ys.length) * Kd.sz) = (xs.take i ++ ys ++ xs.drop i).flatMap Kd.enc := by
  subst hA
  have h1 : ((xs.take i).flatMap Kd.enc).length = i * Kd.sz := by rw [flatMap_len, List.length_take, Nat.min_eq_left hi]
  have e1 : A ++ xs.flatMap Kd.enc ++ C = (A ++ (xs.take i).flatMap Kd.enc) ++ ((xs.drop i).flatMap Kd.enc ++ C) := by
    have e : xs.flatMap Kd.enc = (xs.take i).flatMap Kd.enc ++ (xs.drop i).flatMap Kd.enc := by rw [← List.flatMap_append, List.take_append_drop]
    rw [e]; simp
  rw [e1] at hlen ⊢
  generalize hZ : (xs.drop i).flatMap Kd.enc ++ C = Z at hlen ⊢
  have hB : (A ++ (xs.take i).flatMap Kd.enc).length = A.length + i * Kd.sz := by rw [List.length_append, h1]
  generalize hBe : A ++ (xs.take i).flatMap Kd.enc = B at hlen hB ⊢
  have hd : ((xs.drop i).flatMap Kd.enc).length = (xs.length - i) * Kd.sz := by rw [flatMap_len, List.length_drop]
  generalize hD : (xs.drop i).flatMap Kd.enc = D at hd ⊢
  have hy : (ys.flatMap Kd.enc).length = ys.length * Kd.sz := flatMap_len _
  generalize hY : ys.flatMap Kd.enc = Y at hy ⊢
  have e2 : (xs.length + ys.length) * Kd.sz = i * Kd.sz + ys.length * Kd.sz + (xs.length - i) * Kd.sz := by rw [← Nat.add_mul, ← Nat.add_mul]; congr 1; omega
  have e3 : (i + ys.length) * Kd.sz = i * Kd.sz + ys.length * Kd.sz := Nat.add_mul ..
  rw [List.length_append, hB] at hlen
  have e4 : spl (B ++ Z) (A.length + (i + ys.length) * Kd.sz) D = B ++ (Z.take (ys.length * Kd.sz) ++ D ++ Z.drop (ys.length * Kd.sz + D.length)) := by
    rw [e3, ← Nat.add_assoc, ← hB, spl_add]; rfl
  have hz : (Z.take (ys.length * Kd.sz)).length = Y.length := by rw [List.length_take, hy]; omega
  rw [e4, ← hB]
  rw [spl_at rfl, List.append_assoc (Z.take _) D, List.drop_left' hz, ← hBe]
  rw [List.append_assoc, List.append_assoc, List.append_assoc, List.drop_left, List.flatMap_append, List.flatMap_append, hD, hY]
  have e5 : (xs.take i).flatMap Kd.enc ++ (Y ++ (D ++ Z.drop (ys.length * Kd.sz + D.length))) = (xs.take i).flatMap Kd.enc ++ Y ++ D ++ Z.drop (ys.length * Kd.sz + D.length) := by simp
  rw [e5, ← List.append_assoc (List.flatMap Kd.enc (List.take i xs)) Y D]
  refine List.take_left' ?_
  simp only [List.length_append, h1, hy, hd]
  omega
end
end Go.Sp
