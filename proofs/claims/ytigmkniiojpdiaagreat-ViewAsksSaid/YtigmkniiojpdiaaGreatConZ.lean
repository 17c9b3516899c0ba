/- Rows of texts that the library sorts and compacts: the kit's contracts, as our walks want them. -/
import Derived.Test.YtigmkniiojpdiaaGreatConY
import Derived.Sort.Grow
import Derived.Sort.EncStr
import Derived.Lib.SlicesCompact
set_option linter.all false
namespace Go.Sp
open Go Go.Proofs
theorem base_grow {R : Fz} {m : Mem} {w : World} (os : Array Obj) (h : Base R m w) : Base R m (Sort.grow w os) := by
  have hg : ∀ b o, w.heap[b]? = some o → (Sort.grow w os).heap[b]? = some o := fun b o hb => by
    have := lt_of_some hb
    show (w.heap ++ os)[b]? = _
    rw [Array.getElem?_append_left this]; exact hb
  exact ⟨h.os, h.tape, h.output, by have := h.size; show _ ≤ (w.heap ++ os).size; rw [Array.size_append]; omega, fun b o hb => hg b o (h.frz b o hb), h.nd, fun x hx => hg _ _ (h.own x hx), h.dis, h.drw⟩
/-- The cells behind a row that was put. -/
def putL (off : Nat) (ds : List (List UInt8)) (cs : List Value) : List Value := (Sort.putCells encStr off ds.toArray cs.toArray).toList
theorem putL_len {off : Nat} {ds : List (List UInt8)} {cs : List Value} : (putL off ds cs).length = cs.length := by simp [putL, Sort.putCells]
theorem putL_get {off : Nat} {ds : List (List UInt8)} {cs : List Value} {j : Nat} (hj : j < ds.length) (hc : off + ds.length ≤ cs.length) : (putL off ds cs)[off + j]? = some (.string ⟨(ds.getD j []).toArray⟩) := by
  have h1 : off + j < cs.length := by omega
  unfold putL Sort.putCells
  rw [Array.getElem?_toList, Array.getElem?_mapIdx]
  simp only [List.getElem?_toArray, List.getElem?_eq_getElem h1, Option.map_some]
  rw [if_pos ⟨by omega, by simp; omega⟩, Nat.add_sub_cancel_left]
  congr 2
  rw [List.getElem!_toArray, List.getD_eq_getElem?_getD, List.getElem!_eq_getElem?_getD]; rfl
theorem strs_h {R : Fz} : ∀ zs : List ByteArray, Cs.h R (zs.flatMap strK.enc) (zs.map Value.string)
  | [] => .nil
  | z :: zs => .cons rfl (strs_h zs)
theorem h_strs {R : Fz} : ∀ {zs : List ByteArray} {vs : List Value}, Cs.h R (zs.flatMap strK.enc) vs → vs = zs.map Value.string
  | [], _, h => by cases h; rfl
  | z :: zs, _, h => by
    cases h with
    | cons a b =>
      have := h_strs (zs := zs) b
      rw [this]
      have a : _ = Value.string z := a
      rw [a]; rfl
/-- What is known of a row of texts: its block, its cells; and what becomes of it when another row is put there. -/
theorem row_put {R : Fz} {F : List As} {w : World} {v : Value} {xs : List ByteArray} (hst : St R (own strK v xs :: F) w) :
    (∃ a, v = .slice a 0 0 ∧ xs = []) ∨ ∃ b off c, v = .slice (some ⟨b, off, none⟩) xs.length c ∧ xs.length ≤ c ∧ b < w.heap.size ∧ Sort.Holds encStr w b off (xs.map (·.data.toList)).toArray ∧
      ∀ (ds : List (List UInt8)) (n : Nat) (os : Array Obj) (zs : List ByteArray), ds.length = xs.length → zs.length ≤ ds.length → (∀ j, j < zs.length → zs.getD j ⟨#[]⟩ = ⟨(ds.getD j []).toArray⟩) →
        St R (own strK (.slice (some ⟨b, off, none⟩) zs.length c) zs :: F) (Sort.grow (Sort.putRow encStr (Sort.ahead w n) b off ds.toArray) os) := by
  obtain ⟨m, hm, hk⟩ := hst
  rcases hm with ⟨a, e1, e2, _⟩ | ⟨b, off, c, T, fr, cs, e, hl, rfl, hc, hf, hh⟩
  · exact .inl ⟨a, e1, e2⟩
  have hb : w.heap[b]? = some (.cells cs.toArray T fr) := hk.base.own (b, _) (List.mem_append_left _ (List.mem_singleton_self _))
  have h1 : strK.sz = 1 := rfl
  rw [h1] at hc hh
  simp only [Nat.mul_one] at hc hh
  have hv := h_strs hh
  have hcs : off + xs.length ≤ cs.length := by omega
  refine .inr ⟨b, off, c, e, hl, lt_of_some hb, fun j hj => ?_, fun ds n os zs hd hz hzs => ?_⟩
  · have hj : j < xs.length := by simpa using hj
    have h2 : cs[off + j]? = some (.string xs[j]) := by
      have := congrArg (fun l : List Value => l[j]?) hv
      simp only [List.getElem?_map, List.getElem?_eq_getElem hj, Option.map_some] at this
      rw [List.getElem?_take, if_pos hj, List.getElem?_drop] at this
      exact this
    constructor
    · unfold World.cell?
      rw [hb]
      show (if (none : Option _).isSome then none else cs.toArray[off + j]?) = _
      simp only [Option.isSome_none, Bool.false_eq_true, if_false, List.getElem?_toArray, h2]
      congr 1
      rw [List.getElem!_toArray, List.getElem!_eq_getElem?_getD, List.getElem?_map, List.getElem?_eq_getElem hj]
      rfl
    · unfold World.frozen?
      rw [hb]
      subst hf
      simp
  · have hb' : ∀ k, (Sort.putRow encStr (Sort.ahead w n) b off ds.toArray).heap[k]? = if k = b then some (.cells (putL off ds cs).toArray T fr) else w.heap[k]? := fun k => by
      show (w.heap.modify b _)[k]? = _
      rw [Array.getElem?_modify]
      by_cases hkb : k = b
      · subst hkb
        rw [if_pos rfl, if_pos rfl, hb]
        simp [Sort.onCells, putL]
      · rw [if_neg (fun e => hkb e.symm), if_neg hkb]
    have hput : Stm R ([(b, .cells (putL off ds cs).toArray T fr)] ++ []) F (Sort.grow (Sort.putRow encStr (Sort.ahead w n) b off ds.toArray) os) := by
      refine Stm.upd (Fz.le_refl R) (fun x hx => base_grow os ?_) hk
      refine Base.set (o := .cells cs.toArray T fr) (w := w) (by simpa using hx) rfl rfl rfl (Nat.le_add_right _ _) (by show (w.heap.modify b _).size = _; rw [Array.size_modify]) (by rw [hb', if_pos rfl]) (fun k hne => by rw [hb', if_neg hne])
    refine ⟨_, .inr ⟨b, off, c, T, fr, putL off ds cs, rfl, by omega, rfl, by rw [putL_len, h1, Nat.mul_one]; exact hc, hf, ?_⟩, hput⟩
    rw [h1, Nat.mul_one]
    have e3 : ((putL off ds cs).drop off).take zs.length = zs.map Value.string := by
      apply List.ext_getElem?
      intro j
      by_cases hj : j < zs.length
      · rw [List.getElem?_take, if_pos hj, List.getElem?_drop, putL_get (by omega) (by omega), List.getElem?_map, List.getElem?_eq_getElem hj]
        have := hzs j hj
        rw [List.getD_eq_getElem?_getD, List.getElem?_eq_getElem hj] at this
        simp only [Option.map_some]
        rw [← this]; rfl
      · rw [List.getElem?_take, if_neg hj, List.getElem?_map, List.getElem?_eq_none (by omega)]; rfl
    rw [e3]
    exact strs_h zs
/-- Texts, sorted. -/
def srtS (xs : List ByteArray) : List ByteArray := ((xs.map (·.data.toList)).mergeSort fun x y => decide (x ≤ y)).map fun l => ⟨l.toArray⟩
theorem srtS_len (xs : List ByteArray) : (srtS xs).length = xs.length := by simp [srtS, List.length_mergeSort]
theorem sort_tr {P : Program} {f : FuncId} {p : OV} {xs : List ByteArray}
    (h : ∀ (blk off cap : Nat) (ss : List (List UInt8)) (w : World), Sort.Holds encStr w blk off ss.toArray → blk < w.heap.size → ss.length < 4611686018427387904 →
      Calls P f #[.slice (some ⟨blk, off, none⟩) ss.length cap] w fun e w' => e = .returned (.tuple #[]) ∧ ∃ n os, w' = Sort.grow (Sort.putRow encStr (Sort.ahead w n) blk off (ss.mergeSort fun x y => decide (x ≤ y)).toArray) os)
    (h0 : ∀ (q : Option Addr) (cap : Nat) (w : World), Calls P f #[.slice q 0 cap] w fun e w' => e = .returned (.tuple #[]) ∧ w' = w) (hl : xs.length < 4611686018427387904) :
    Tr P f [eq p.1] [own strK p.1 xs] (γ := Unit) (fun _ => True) (fun _ => tup []) (fun _ => [own strK p.1 (srtS xs)]) := fun R F w us hu hst => by
  cases hu with
  | cons ha hu =>
    cases hu
    simp only [eq_p] at ha
    subst ha
    rcases row_put hst with ⟨a, e, hx⟩ | ⟨b, off, c, e, hc, hb, hH, hput⟩
    · have e2 : #[p.1] = #[Value.slice a 0 0] := by rw [e]
      show Calls P f #[p.1] w _
      rw [e2]
      refine (h0 a 0 w).mono ?_
      rintro e1 w' ⟨rfl, rfl⟩
      subst hx
      have e3 : srtS [] = [] := by simp [srtS]
      exact ⟨(), R, _, trivial, Fz.le_refl R, rfl, ⟨[], rfl, .nil⟩, by rw [e3]; exact hst⟩
    · have hlen : (xs.map (·.data.toList)).length = xs.length := by simp
      have e2 : #[p.1] = #[Value.slice (some ⟨b, off, none⟩) (xs.map (·.data.toList)).length c] := by rw [hlen, e]
      show Calls P f #[p.1] w _
      rw [e2]
      refine (h b off c (xs.map (·.data.toList)) w hH hb (by rw [hlen]; exact hl)).mono ?_
      rintro e1 w' ⟨rfl, n, os, rfl⟩
      refine ⟨(), R, _, trivial, Fz.le_refl R, rfl, ⟨[], rfl, .nil⟩, ?_⟩
      have := hput ((xs.map (·.data.toList)).mergeSort fun x y => decide (x ≤ y)) n os (srtS xs) (by rw [List.length_mergeSort, hlen]) (by rw [srtS_len, List.length_mergeSort, hlen]; exact Nat.le_refl _) (fun j hj => by
        rw [srtS_len] at hj
        unfold srtS
        rw [List.getD_eq_getElem?_getD, List.getD_eq_getElem?_getD, List.getElem?_map, List.getElem?_eq_getElem (by rw [List.length_mergeSort, hlen]; exact hj)]; rfl)
      rw [srtS_len, ← e] at this
      exact this
/-- Texts, those that are alike and beside each other once. -/
def cmpctS (xs : List ByteArray) : List ByteArray := (Lib.compact (xs.map (·.data.toList))).map fun l => ⟨l.toArray⟩
theorem compact_le {α : Type} [Inhabited α] [DecidableEq α] (zs : List α) : (Lib.compact zs).length ≤ zs.length := by
  unfold Lib.compact Lib.compactUpTo
  rw [List.length_map]
  exact Nat.le_trans (List.length_filter_le _ _) (by simp)
theorem compact_tr {P : Program} {f : FuncId} {p : OV} {xs : List ByteArray}
    (h : ∀ (blk off cap : Nat) (zs : List (List UInt8)) (w : World), Sort.Holds encStr w blk off zs.toArray → zs.length ≤ 9223372036854775807 → zs.length ≤ cap →
      Calls P f #[.slice (some ⟨blk, off, none⟩) zs.length cap] w fun e w' => e = .returned (.slice (some ⟨blk, off, none⟩) (Lib.compact zs).length cap) ∧ ∃ q, w' = Sort.putRow encStr (Sort.ahead w q) blk off (Lib.compact zs ++ List.replicate (zs.length - (Lib.compact zs).length) []).toArray)
    (h0 : ∀ (q : Option Addr) (cap : Nat) (w : World), Calls P f #[.slice q 0 cap] w fun e w' => e = .returned (.slice q 0 cap) ∧ w' = w) (hl : xs.length ≤ 9223372036854775807) :
    Tr P f [eq p.1] [own strK p.1 xs] (γ := OV) (fun _ => True) (fun g => eq g.1) (fun g => [own strK g.1 (cmpctS xs)]) := fun R F w us hu hst => by
  cases hu with
  | cons ha hu =>
    cases hu
    simp only [eq_p] at ha
    subst ha
    rcases row_put hst with ⟨a, e, hx⟩ | ⟨b, off, c, e, hc, hb, hH, hput⟩
    · have e2 : #[p.1] = #[Value.slice a 0 0] := by rw [e]
      show Calls P f #[p.1] w _
      rw [e2]
      refine (h0 a 0 w).mono ?_
      rintro e1 w' ⟨rfl, rfl⟩
      subst hx
      have e3 : cmpctS [] = [] := by simp [cmpctS, Lib.compact, Lib.compactUpTo]
      exact ⟨p, R, _, trivial, Fz.le_refl R, by rw [e], rfl, by rw [e3]; exact hst⟩
    · have hlen : (xs.map (·.data.toList)).length = xs.length := by simp
      have e2 : #[p.1] = #[Value.slice (some ⟨b, off, none⟩) (xs.map (·.data.toList)).length c] := by rw [hlen, e]
      show Calls P f #[p.1] w _
      rw [e2]
      refine (h b off c (xs.map (·.data.toList)) w hH (by rw [hlen]; exact hl) (by rw [hlen]; exact hc)).mono ?_
      rintro e1 w' ⟨rfl, n, rfl⟩
      have hcl := compact_le (xs.map (·.data.toList))
      have hzl : (cmpctS xs).length = (Lib.compact (xs.map (·.data.toList))).length := by simp [cmpctS]
      have := hput (Lib.compact (xs.map (·.data.toList)) ++ List.replicate ((xs.map (·.data.toList)).length - (Lib.compact (xs.map (·.data.toList))).length) []) n #[] (cmpctS xs) (by rw [List.length_append, List.length_replicate]; omega) (by rw [List.length_append, hzl]; omega) (fun j hj => by
        rw [hzl] at hj
        unfold cmpctS
        rw [List.getD_eq_getElem?_getD, List.getD_eq_getElem?_getD, List.getElem?_map, List.getElem?_append_left hj, List.getElem?_eq_getElem hj]; rfl)
      rw [Sort.grow_empty] at this
      refine ⟨⟨.slice (some ⟨b, off, none⟩) (cmpctS xs).length c, rfl⟩, R, _, trivial, Fz.le_refl R, rfl, ?_, this⟩
      rw [hzl]; rfl
end Go.Sp
