/- Rows collected off a map, in whatever row its entries came, and sorted then. -/
import Derived.Test.YtdhaolcplgbalaaGreatConA2
import Derived.Test.YtdhaolcplgbalaaGreatConV
import Derived.Test.YtdhaolcplgbalaaGreatConS
set_option linter.all false
namespace Go.Sp
open Go Go.Proofs Go.Sort
section
variable {γ β : Type}
def selM (m : List γ) (f : γ → Option β) (is : List Nat) : List β := is.filterMap fun i => (m[i]?).bind f
theorem selM_app {m : List γ} {f : γ → Option β} {is : List Nat} {j : Nat} {e : γ} (h : m[j]? = some e) : selM m f (is ++ [j]) = selM m f is ++ (f e).toList := by
  unfold selM
  rw [List.filterMap_append]
  congr 1
  simp only [List.filterMap_cons, h, Option.bind_some, List.filterMap_nil]
  cases f e <;> rfl
theorem selM_some {m : List γ} {f : γ → Option β} {is : List Nat} {j : Nat} {e : γ} {b : β} (h : m[j]? = some e) (hb : f e = some b) : selM m f is ++ [b] = selM m f (is ++ [j]) := by rw [selM_app h, hb]; rfl
theorem selM_none {m : List γ} {f : γ → Option β} {is : List Nat} {j : Nat} {e : γ} (h : m[j]? = some e) (hb : f e = none) : selM m f is = selM m f (is ++ [j]) := by rw [selM_app h, hb]; simp
theorem selM_len {m : List γ} {f : γ → Option β} {is : List Nat} : (selM m f is).length ≤ is.length := List.length_filterMap_le _ _
theorem selM_all : ∀ {m : List γ} {f : γ → Option β}, selM m f (List.range m.length) = m.filterMap f
  | [], _ => rfl
  | e :: m, f => by
    rw [List.length_cons, List.range_succ_eq_map]
    have h := selM_all (m := m) (f := f)
    unfold selM at h ⊢
    rw [List.filterMap_cons, List.filterMap_map]
    simp only [List.getElem?_cons_zero, Option.bind_some]
    have e2 : ((fun i => ((e :: m)[i]?).bind f) ∘ Nat.succ) = fun i => (m[i]?).bind f := by funext i; simp
    rw [e2, h, List.filterMap_cons]
theorem selM_perm {m : List γ} {f : γ → Option β} {is : List Nat} (h : is.Perm (List.range m.length)) : (selM m f is).Perm (m.filterMap f) := by
  rw [← selM_all]; exact h.filterMap _
end
section
variable {α : Type}
theorem perm_unique {le : α → α → Prop} (ha : ∀ x y, le x y → le y x → x = y) : ∀ {xs ys : List α}, xs.Perm ys → xs.Pairwise le → ys.Pairwise le → xs = ys
  | [], ys, h, _, _ => (List.nil_perm.1 h).symm
  | x :: xs, [], h, _, _ => by simpa using h.length_eq
  | x :: xs, y :: ys, h, h1, h2 => by
    rw [List.pairwise_cons] at h1 h2
    have e : x = y := by
      have m1 : x ∈ y :: ys := h.mem_iff.1 (List.mem_cons_self ..)
      have m2 : y ∈ x :: xs := h.mem_iff.2 (List.mem_cons_self ..)
      rcases List.mem_cons.1 m1 with e | m1
      · exact e
      · rcases List.mem_cons.1 m2 with e | m2
        · exact e.symm
        · exact ha _ _ (h1.1 _ m2) (h2.1 _ m1)
    subst e
    rw [perm_unique ha (List.Perm.cons_inv h) h1.2 h2.2]
variable {cf : α → α → Int}
theorem srtF_pw (hO : SWO (ltOf cf)) (xs : List α) : (srtF cf xs).Pairwise (fun x y => ltOf cf y x = false) := by
  have h := List.pairwise_mergeSort (le := fun x y => !ltOf cf y x) (fun a b c h1 h2 => by
    simp only [Bool.not_eq_true'] at h1 h2 ⊢
    exact hO.ntrans c b a h2 h1) (fun a b => by
    cases h1 : ltOf cf b a with
    | false => simp
    | true =>
      have : ltOf cf a b = false := by
        cases h2 : ltOf cf a b with
        | false => rfl
        | true => have h3 := hO.trans _ _ _ h1 h2; rw [hO.irrefl] at h3; cases h3
      rw [this]; rfl) xs
  exact h.imp fun {a b} h => by simpa using h
theorem srtF_p (xs : List α) : (srtF cf xs).Perm xs := List.mergeSort_perm _ _
theorem srtF_perm (hO : SWO (ltOf cf)) (hT : ∀ x y, ltOf cf x y = false → ltOf cf y x = false → x = y) {xs ys : List α} (h : xs.Perm ys) : srtF cf xs = srtF cf ys :=
  perm_unique (fun x y h1 h2 => hT x y h2 h1) ((srtF_p xs).trans (h.trans (srtF_p ys).symm)) (srtF_pw hO xs) (srtF_pw hO ys)
end
theorem sLt_total {x y : ByteArray} (h1 : sLt x y = false) (h2 : sLt y x = false) : x = y := sLt_conn h1 h2
theorem srtS_eq {xs ys : List ByteArray} (h : xs.Perm ys) : srtS xs = srtS ys :=
  perm_unique (fun _ _ h1 h2 => sLt_total h2 h1) ((srtS_perm xs).trans (h.trans (srtS_perm ys).symm)) (srtS_srt xs) (srtS_srt ys)
section
variable {κ α : Type} [DecidableEq κ] {kv : κ → Value} {O : OV → α → As} {v : Value} {m : List (κ × α)} {ps : List OV} {k : κ} {p : OV} {l r : List As} {e : κ × α} {j : Nat}
def thgX (O : OV → α → As) (m : List (κ × α)) (ps : List OV) (j : Nat) : As := ⟨fun R mem => Bs R mem ((zipO O m ps).eraseIdx j), fun hR h => h.mono hR⟩
theorem zipO_at (hj : m[j]? = some e) (hp : ps[j]? = some p) : (zipO O m ps)[j]? = some (O p e.2) := by
  unfold zipO; rw [List.getElem?_zipWith, hj, hp]
theorem zipK_at (hj : m[j]? = some e) (hp : ps[j]? = some p) : (zipK m ps)[j]? = some (e.1, p) := by
  unfold zipK; rw [List.getElem?_zipWith, hj, hp]
theorem zipK_get (h : okP m ps) (hj : j < (zipK m ps).length) : ∃ e p, m[j]? = some e ∧ ps[j]? = some p ∧ (zipK m ps)[j]? = some (e.1, p) := by
  rw [zipK_len h.1] at hj
  have h2 : j < ps.length := by rw [h.1]; exact hj
  exact ⟨m[j], ps[j], List.getElem?_eq_getElem hj, List.getElem?_eq_getElem h2, zipK_at (List.getElem?_eq_getElem hj) (List.getElem?_eq_getElem h2)⟩
/-- The thing of a place is taken out, and put back. -/
theorem thg_foc (hj : m[j]? = some e) (hp : ps[j]? = some p) (hl : l.Perm (thg O m ps :: r)) : ∀ R w, St R l w → ∃ _ : Unit, True ∧ St R (O p e.2 :: thgX O m ps j :: r) w := fun R w h => by
  obtain ⟨mem, hb, hw⟩ := (h.permL hl).to_bs
  obtain ⟨m1, m2, h1, h2, hq⟩ := hb
  obtain ⟨m3, m4, h3, h4, hq2⟩ := Bs.permL (perm_idx (zipO_at (O := O) hj hp)) h1
  refine ⟨(), trivial, St.of_bs (m := m3 ++ (m4 ++ m2)) ⟨m3, m4 ++ m2, h3, ⟨m4, m2, h4, h2, List.Perm.refl _⟩, List.Perm.refl _⟩ (hw.perm ?_)⟩
  rw [← List.append_assoc]
  exact hq.trans (hq2.append_right _)
theorem thg_unf (hj : m[j]? = some e) (hp : ps[j]? = some p) (hl : l.Perm (O p e.2 :: thgX O m ps j :: r)) : ∀ R w, St R l w → ∃ _ : Unit, True ∧ St R (thg O m ps :: r) w := fun R w h => by
  obtain ⟨mem, hb, hw⟩ := (h.permL hl).to_bs
  obtain ⟨m1, m2, h1, ⟨m3, m4, h3, h4, hq2⟩, hq⟩ := hb
  refine ⟨(), trivial, St.of_bs (m := (m1 ++ m3) ++ m4) ⟨m1 ++ m3, m4, Bs.permL (perm_idx (zipO_at (O := O) hj hp)).symm ⟨m1, m3, h1, h3, List.Perm.refl _⟩, h4, List.Perm.refl _⟩ (hw.perm ?_)⟩
  rw [List.append_assoc]
  exact hq.trans (hq2.append_left _)
end
end Go.Sp
/- What a function value reads, laid apart at a call. -/
namespace Go.Sp
open Go
theorem Tr.unpkr {P : Program} {f : FuncId} {vs : List VP} {A L : List As} {ret : VP} (h : Tr P f vs (A ++ [pk L]) (γ := Unit) (fun _ => True) (fun _ => ret) (fun _ => A ++ [pk L])) : Tr P f vs (A ++ L) (γ := Unit) (fun _ => True) (fun _ => ret) (fun _ => A ++ L) := fun R F w us hu hst => by
  have h1 : (A ++ L ++ F).Perm (L ++ (A ++ F)) := by
    rw [List.append_assoc, ← List.append_assoc L A F, ← List.append_assoc]
    exact List.perm_append_comm.append_right _
  obtain ⟨_, _, hs⟩ := st_pk h1 R w hst
  have h2 : (pk L :: (A ++ F)).Perm (A ++ [pk L] ++ F) := by
    rw [List.append_assoc]
    exact List.perm_middle.symm
  refine (h R F w us hu (hs.permL h2)).mono ?_
  rintro e w' ⟨g, R', v, hg, hR, he, hv, hst'⟩
  refine ⟨g, R', v, hg, hR, he, hv, ?_⟩
  obtain ⟨_, _, hs2⟩ := st_unpk (L := L) (l := pk L :: (A ++ F)) 0 rfl R' w' (hst'.permL h2.symm)
  exact hs2.permL h1.symm
end Go.Sp
/- The tail of an owned row is cleared. -/
namespace Go.Sp
open Go
section
variable {R : Fz} {l : List As} {α : Type} {Kd : Kd α} {v : Value} {xs : List α}
/-- What a row's value is, where the row has elements. -/
theorem st_own_form (j : Nat) (hj : l[j]? = some (own Kd v xs)) (h0 : xs ≠ []) : ∀ R w, St R l w → ∃ g : Nat × Nat × Nat, (v = .slice (some ⟨g.1, g.2.1, none⟩) xs.length g.2.2 ∧ xs.length ≤ g.2.2) ∧ St R l w := fun R w h => by
  obtain ⟨mm, hm, _⟩ := h.opn hj
  rcases hm with ⟨_, _, e3, _⟩ | ⟨b, off, c, bT, fr, cs, e3, hlc, _⟩
  · exact absurd e3 h0
  · exact ⟨(b, off, c), ⟨e3, hlc⟩, h⟩
end
theorem Tr.unpko {P : Program} {f : FuncId} {vs : List VP} {A L : List As} {γ : Type} {ok : γ → Prop} {ret : γ → VP} {B : γ → List As} (h : Tr P f vs (A ++ [pk L]) ok ret (fun g => [pk L] ++ B g)) : Tr P f vs (A ++ L) ok ret (fun g => L ++ B g) := fun R F w us hu hst => by
  have h1 : (A ++ L ++ F).Perm (L ++ (A ++ F)) := by
    rw [List.append_assoc, ← List.append_assoc L A F, ← List.append_assoc]
    exact List.perm_append_comm.append_right _
  obtain ⟨_, _, hs⟩ := st_pk h1 R w hst
  have h2 : (pk L :: (A ++ F)).Perm (A ++ [pk L] ++ F) := by
    rw [List.append_assoc]
    exact List.perm_middle.symm
  refine (h R F w us hu (hs.permL h2)).mono ?_
  rintro e w' ⟨g, R', v, hg, hR, he, hv, hst'⟩
  refine ⟨g, R', v, hg, hR, he, hv, ?_⟩
  obtain ⟨_, _, hs2⟩ := st_unpk (L := L) (l := [pk L] ++ B g ++ F) 0 rfl R' w' hst'
  rw [List.append_assoc]
  exact hs2
theorem zeroC_len (z : Array Value) (n : Nat) : (Builtin.zeroCells z n).toList.length = n * z.size := by
  rw [Array.length_toList]; simp [Builtin.zeroCells]
theorem zeroC_succ (z : Array Value) (n : Nat) : (Builtin.zeroCells z (n + 1)).toList = z.toList ++ (Builtin.zeroCells z n).toList := by
  rw [Nat.add_comm, ← zeroCells_add, Array.toList_append]
  congr 1
  unfold Builtin.zeroCells
  rw [Nat.one_mul]
  apply List.ext_getElem
  · simp
  · intro i h1 h2
    simp only [Array.toList_map, Array.toList_range, List.getElem_map, List.getElem_range]
    simp at h1
    rw [Nat.mod_eq_of_lt h1, getElem!_pos z i h1]; rfl
theorem zeroC_one {z : Array Value} (h : ∀ u ∈ z.toList, u.oneCell' = true) : ∀ m : Nat, ∀ u ∈ (Builtin.zeroCells z m).toList, u.oneCell' = true
  | 0, u, hu => by simp [Builtin.zeroCells] at hu
  | m + 1, u, hu => by
    rw [zeroC_succ] at hu
    rcases List.mem_append.1 hu with q | q
    · exact h u q
    · exact zeroC_one h m u q
section
variable {P : Program} {ops : Array Oper} {n : Nat} {dr : Bool} {R0 : Fz} {K : Act → World → Prop} {E : Env} {l : List As} {pend : List (Nat × (List As → Prop))} {rest : List (Nat × Bool)} {i d : Nat}
variable {T : TypeId} {ps : String} {af : Array Edge} {g : Option (Nat × Bool)} {x y : Operand} {α : Type} {Kd : Kd α} {v : Value} {xs : List α}
theorem repl_h {R : Fz} {z : Value} {z0 : α} (hz : Kd.enc z0 = z.cells.toList.map eq) : ∀ k : Nat, Cs.h R ((List.replicate k z0).flatMap Kd.enc) (Builtin.zeroCells z.cells k).toList
  | 0 => by simp [Builtin.zeroCells]; exact .nil
  | k + 1 => by
    rw [zeroC_succ, List.replicate_succ, List.flatMap_cons, hz]
    exact (eqs_self _).append (repl_h hz k)
/-- The elements behind a place become zero. -/
theorem Dv.clrw {t e : TypeId} {z : Value} {b off p m c c' jj : Nat} (z0 : α) (ho : opAt ops.toList i = some ⟨none, .call ⟨.builtin .clear, #[x], #[t]⟩, T, ps, af, g⟩) (hg : GOn ops E g) (hx : opv E x = some (eq (.slice (some ⟨b, off + p * Kd.sz, none⟩) m c')))
    (hu : P.underlying t = some (.slice e)) (hz : zer P e = some z) (hzs : z.cells.size = Kd.sz) (hz0 : Kd.enc z0 = z.cells.toList.map eq) (h1c : ∀ u ∈ z.cells.toList, u.oneCell' = true) (hv : v = .slice (some ⟨b, off, none⟩) xs.length c) (hm : xs.length - p = m) (hp0 : p < xs.length) (hjj : l[jj]? = some (own Kd v xs))
    (hp : dr = true → ∀ z ∈ pend, ((Region.before ops).getD i 0).testBit z.1 = true ∨ ∀ _ : Unit, z.2 (l.set jj (own Kd v (xs.take p ++ List.replicate m z0))))
    (k : Dv P ops n dr R0 K E (l.set jj (own Kd v (xs.take p ++ List.replicate m z0))) pend rest) : Dv P ops n dr R0 K E l pend ((i, true) :: rest) :=
  .bar _ (γ := Unit) (fun _ => True) (fun _ => eq (.tuple #[])) (fun _ => l.set jj (own Kd v (xs.take p ++ List.replicate m z0))) (at_of ho) (OpBar.val hg fun R a w h hst => by
    have e1 := h x (by simp [Op.operands, Call.operands]) _ hx
    simp only [eq_p] at e1
    obtain ⟨mm, hm2, hk⟩ := hst.opn hjj
    rcases hm2 with ⟨_, _, e3, _⟩ | ⟨b', off', c2, bT, fr, cs, e3, hlc, hmm, hcs, hfr, hh⟩
    · subst e3; simp at hp0
    rw [hv] at e3
    cases e3
    subst hmm
    have hb := (Stm.base hk).get
    have hlen : (Builtin.zeroCells z.cells m).toList.length = m * Kd.sz := by rw [zeroC_len, hzs]
    have h4 : p * Kd.sz + m * Kd.sz = xs.length * Kd.sz := by rw [← Nat.add_mul]; congr 1; omega
    have h5 := Nat.mul_le_mul_right Kd.sz hlc
    have hone := zeroC_one h1c m
    obtain ⟨w', hr, hb2⟩ := run_stores (P := P) (Builtin.zeroCells z.cells m).toList (off + p * Kd.sz) 0 hb hone (by omega) (nofr hfr)
    have hl2 : (xs.take p ++ List.replicate m z0).length = xs.length := by rw [List.length_append, List.length_take, List.length_replicate]; omega
    refine ⟨(), R, .tuple #[], w', trivial, Fz.le_refl R, rfl, St.shut hjj (.inr ⟨b, off, c, bT, fr, _, by rw [hl2]; exact hv, by rw [hl2]; exact hlc, rfl, by rw [splice_len (by omega)]; exact hcs, hfr, ?_⟩) (Stm.to (Fz.le_refl R) (fun x hx => hb2 R x hx) hk), ?_⟩
    · rw [hl2, Nat.add_zero, splice_in (by omega) (by omega)]
      have hc := Cs.splice (off := p * Kd.sz) hh (repl_h (R := R) hz0 m)
      have e5 : spl (xs.flatMap Kd.enc) (p * Kd.sz) ((List.replicate m z0).flatMap Kd.enc) = (xs.take p ++ List.replicate m z0).flatMap Kd.enc := by
        have h6 : xs.flatMap Kd.enc = (xs.take p).flatMap Kd.enc ++ (xs.drop p).flatMap Kd.enc := by rw [← List.flatMap_append, List.take_append_drop]
        have h7 : ((xs.take p).flatMap Kd.enc).length = p * Kd.sz := by rw [flatMap_len, List.length_take, Nat.min_eq_left (by omega)]
        have h8 : ((List.replicate m z0).flatMap Kd.enc).length = m * Kd.sz := by rw [flatMap_len, List.length_replicate]
        unfold spl
        rw [List.flatMap_append, h8, h4, List.drop_of_length_le (by rw [flatMap_len]; exact Nat.le_refl _), List.append_nil, h6, List.take_left' h7]
      rw [← e5]; exact hc
    · have hm0 : m ≠ 0 := by omega
      have hzr := run_zero (P := P) (w := w) hz
      obtain ⟨m', rfl⟩ := Nat.exists_eq_succ_of_ne_zero hm0
      simp [execOp, resolve, invoke, builtin, Builtin.clear_, e1, run_underlying hu, hzr, hr]) (fun e z hz => (hp e z hz).imp id fun h b _ => h b) (fun _ _ => k)
end
end Go.Sp
