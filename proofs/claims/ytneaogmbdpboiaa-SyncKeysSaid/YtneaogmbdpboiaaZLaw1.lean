/- Keys are the documents, and no two of different things the same. -/
import Derived.Test.YtneaogmbdpboiaaZPure1
import Derived.Test.YtneaogmbdpboiaaRows
import Derived.Test.YtneaogmbdpboiaaConR
set_option linter.all false
set_option maxRecDepth 10000
namespace Go.Proofs.Ytneaogmbdpboiaa
open Go Go.Sp Go.ChangeShapes Go.WideShapes Go.ChangeAt Go.RowKit
open Go.ChangeMaps (open_string shut_string)
theorem rd23 (W : World) : Rdr Try.prog W 23 SRooUseThrPri.K SRooUseThrPri.ok := fun H enc fuel cs y h => by
  obtain ⟨xs, n, _, _, hlen, hxl, hf⟩ := DataW.trod_struct Try.underlying23 h
  obtain ⟨y0, hy0⟩ : ∃ y, xs[0]? = some y := ⟨xs[0]'(by rw [hxl]; decide), List.getElem?_eq_getElem (by rw [hxl]; decide)⟩
  have h0 := (hf 0 _ rfl).trans hy0
  obtain ⟨x0, k0, c0⟩ := (rd_str Try.underlying9) H enc n _ _ h0
  replace c0 : Cs.h (full W) (strK.enc x0) ((cs.drop 0).take (Try.prog.cellsOf 9)) := c0
  rw [c9] at c0
  obtain ⟨y1, hy1⟩ : ∃ y, xs[1]? = some y := ⟨xs[1]'(by rw [hxl]; decide), List.getElem?_eq_getElem (by rw [hxl]; decide)⟩
  have h1 := (hf 1 _ rfl).trans hy1
  obtain ⟨x1, k1, c1⟩ := (rd_str Try.underlying9) H enc n _ _ h1
  replace c1 : Cs.h (full W) (strK.enc x1) ((cs.drop 1).take (Try.prog.cellsOf 9)) := c1
  rw [c9] at c1
  obtain ⟨y2, hy2⟩ : ∃ y, xs[2]? = some y := ⟨xs[2]'(by rw [hxl]; decide), List.getElem?_eq_getElem (by rw [hxl]; decide)⟩
  have h2 := (hf 2 _ rfl).trans hy2
  obtain ⟨x2, k2, c2⟩ := (rd_str Try.underlying9) H enc n _ _ h2
  replace c2 : Cs.h (full W) (strK.enc x2) ((cs.drop 2).take (Try.prog.cellsOf 9)) := c2
  rw [c9] at c2
  obtain ⟨y3, hy3⟩ : ∃ y, xs[3]? = some y := ⟨xs[3]'(by rw [hxl]; decide), List.getElem?_eq_getElem (by rw [hxl]; decide)⟩
  have h3 := (hf 3 _ rfl).trans hy3
  obtain ⟨x3, k3, c3⟩ := (rd_bool Try.underlying4) H enc n _ _ h3
  replace c3 : Cs.h (full W) (boolK.enc x3) ((cs.drop 3).take (Try.prog.cellsOf 4)) := c3
  rw [c4] at c3
  exact ⟨⟨x0, x1, x2, x3⟩, ⟨k0, k1, k2, k3, trivial⟩, (show Cs.h (full W) (strK.enc x0 ++ (strK.enc x1 ++ (strK.enc x2 ++ (boolK.enc x3 ++ [])))) (cs.drop 0) from (Cs.at_ (s := 1) c0 (Cs.at_ (s := 1) c1 (Cs.at_ (s := 1) c2 (Cs.at_ (s := 1) c3 (Cs.end_ (Nat.le_of_eq (hlen.trans c23))))))))⟩
theorem rd25 (W : World) : Rdr Try.prog W 25 SDepID.K SDepID.ok := fun H enc fuel cs y h => by
  obtain ⟨xs, n, _, _, hlen, hxl, hf⟩ := DataW.trod_struct Try.underlying25 h
  obtain ⟨y0, hy0⟩ : ∃ y, xs[0]? = some y := ⟨xs[0]'(by rw [hxl]; decide), List.getElem?_eq_getElem (by rw [hxl]; decide)⟩
  have h0 := (hf 0 _ rfl).trans hy0
  obtain ⟨x0, k0, c0⟩ := (rd_int Try.underlying3) H enc n _ _ h0
  replace c0 : Cs.h (full W) ((intK .i64).enc x0) ((cs.drop 0).take (Try.prog.cellsOf 3)) := c0
  rw [c3] at c0
  obtain ⟨y1, hy1⟩ : ∃ y, xs[1]? = some y := ⟨xs[1]'(by rw [hxl]; decide), List.getElem?_eq_getElem (by rw [hxl]; decide)⟩
  have h1 := (hf 1 _ rfl).trans hy1
  obtain ⟨x1, k1, c1⟩ := (rd_str Try.underlying9) H enc n _ _ h1
  replace c1 : Cs.h (full W) (strK.enc x1) ((cs.drop 1).take (Try.prog.cellsOf 9)) := c1
  rw [c9] at c1
  exact ⟨⟨x0, x1⟩, ⟨k0, k1, trivial⟩, (show Cs.h (full W) ((intK .i64).enc x0 ++ (strK.enc x1 ++ [])) (cs.drop 0) from (Cs.at_ (s := 1) c0 (Cs.at_ (s := 1) c1 (Cs.end_ (Nat.le_of_eq (hlen.trans c25))))))⟩
theorem rd27 (W : World) : Rdr Try.prog W 27 SKAt.K SKAt.ok := fun H enc fuel cs y h => by
  obtain ⟨xs, n, _, _, hlen, hxl, hf⟩ := DataW.trod_struct Try.underlying27 h
  obtain ⟨y0, hy0⟩ : ∃ y, xs[0]? = some y := ⟨xs[0]'(by rw [hxl]; decide), List.getElem?_eq_getElem (by rw [hxl]; decide)⟩
  have h0 := (hf 0 _ rfl).trans hy0
  obtain ⟨x0, k0, c0⟩ := (rd23 _) H enc n _ _ h0
  replace c0 : Cs.h (full W) (SRooUseThrPri.K.enc x0) ((cs.drop 0).take (Try.prog.cellsOf 23)) := c0
  rw [c23] at c0
  obtain ⟨y1, hy1⟩ : ∃ y, xs[1]? = some y := ⟨xs[1]'(by rw [hxl]; decide), List.getElem?_eq_getElem (by rw [hxl]; decide)⟩
  have h1 := (hf 1 _ rfl).trans hy1
  obtain ⟨x1, k1, c1⟩ := (rd25 _) H enc n _ _ h1
  replace c1 : Cs.h (full W) (SDepID.K.enc x1) ((cs.drop 4).take (Try.prog.cellsOf 25)) := c1
  rw [c25] at c1
  exact ⟨⟨x0, x1⟩, ⟨k0, k1, trivial⟩, (show Cs.h (full W) (SRooUseThrPri.K.enc x0 ++ (SDepID.K.enc x1 ++ [])) (cs.drop 0) from (Cs.at_ (s := 4) c0 (Cs.at_ (s := 2) c1 (Cs.end_ (Nat.le_of_eq (hlen.trans c27))))))⟩
theorem syncKeys_own : ownKnob Try.prog.godebug = none := by kernel_rfl
theorem syncKeys_laid : laidOutB Try.prog = true := by kernel_rfl
set_option maxRecDepth 100000 in
theorem syncKeys_lifted (os : Os) (started : os.Started) (H : Type) (enc : TypeId × Value → H) :
    ReturnsInHanded {} Try.checked os 3 .any (Rows.syncKeysSpec.pre6 enc Try.prog Try.f3 Rows.syncKeysRow.domain false) (Rows.syncKeysSpec.post enc Try.prog Try.f3 false true false false) := by
  refine returnsInHanded_of_change_sized (C := Try.checked) syncKeys_own started (by kernel_rfl) Try.func3
    (ChangeSpec.witness6 (enc := enc) (C := Try.checked) false ⟨#[], #[.agg #[.string ⟨#[]⟩, .string ⟨#[]⟩, .string ⟨#[]⟩, .bool false, .int .i64 0, .string ⟨#[]⟩], .agg #[.string ⟨#[]⟩, .string ⟨#[]⟩, .string ⟨#[]⟩, .bool false, .int .i64 0, .string ⟨#[]⟩], .int .i64 0], []⟩ 8 (by kernel_rfl) (by kernel_rfl) (by kernel_rfl) (by kernel_rfl)) ?_
  intro W base args ds gs before hval0 hW hcnd hsz0 _
  have hval : ∀ (j : Nat) t v, Try.f3.params[j]? = some t → args[j]? = some v → Value.okWide Try.prog W .any base t v := hval0
  have hW' := hW
  obtain ⟨p, q, hA0, hV, rfl, hfz, hnd⟩ := hW
  have hA : DataW.TrodAll enc Try.prog W 0 (fun _ => true) true Try.f3.params.toList args.toList ds p := hA0
  rw [Try.params3] at hA hval
  obtain ⟨v0, vs0, d0, ds0, p0, q0, hargs, rfl, rfl, h0, r0⟩ := trodAll_cons hA
  obtain ⟨v1, vs1, d1, ds1, p1, q1, rfl, rfl, rfl, h1, r1⟩ := trodAll_cons r0
  obtain ⟨v2, vs2, d2, ds2, p2, q2, rfl, rfl, rfl, h2, r2⟩ := trodAll_cons r1
  obtain ⟨rfl, rfl, rfl⟩ := trodAll_nil r2
  obtain rfl : args = #[v0, v1, v2] := by cases args; simp_all
  obtain ⟨rfl, rfl⟩ := trodVars_none hV
  have z0 := h0
  have lt0 : ∀ x ∈ p0, x.block < W.heap.size := by obtain ⟨m, hm⟩ := z0; exact DataW.trod_lt m _ _ _ hm
  obtain ⟨a0, k0, c0⟩ := trodAny (rd27 _) h0
  have z1 := h1
  have lt1 : ∀ x ∈ p1, x.block < W.heap.size := by obtain ⟨m, hm⟩ := z1; exact DataW.trod_lt m _ _ _ hm
  obtain ⟨a1, k1, c1⟩ := trodAny (rd27 _) h1
  have z2 := h2
  have lt2 : ∀ x ∈ p2, x.block < W.heap.size := by obtain ⟨m, hm⟩ := z2; exact DataW.trod_lt m _ _ _ hm
  obtain ⟨a2, rfl, e2, rfl, k2⟩ := open_int Try.underlying3 (hval 2 3 v2 rfl rfl) h2
  obtain ⟨k, hk⟩ := SyncKeys_pure a0 a1 a2 k0 k1 k2
  refine (law_walk (concourselaw21_SyncKeys.c hk) (us := [v0, v1, _]) (.cons (arg_agg Try.underlying27 (hval 0 27 v0 rfl rfl) c0) (.cons (arg_agg Try.underlying27 (hval 1 27 v1 rfl rfl) c1) (.cons rfl .nil)))).mono fun e W' ⟨he, bel⟩ => ?_
  subst he
  exact ⟨_, rfl, _, _, _, [], _, [], hW', trodAll_mk1 (shut_bool Try.underlying4 _), (trodAll_cons_mk (Below.trod syncKeys_laid (by kernel_rfl) (of_decide_eq_true (by kernel_rfl)) z0 bel lt0) (trodAll_cons_mk (Below.trod syncKeys_laid (by kernel_rfl) (of_decide_eq_true (by kernel_rfl)) z1 bel lt1) (trodAll_cons_mk (Below.trod syncKeys_laid (by kernel_rfl) (of_decide_eq_true (by kernel_rfl)) z2 bel lt2) trodAll_mk0))), rfl, bel.frame _, fun h => by cases h⟩
/-- The statement. -/
theorem syncKeys_holds : Rows.SyncKeysSaid :=
  OpenClaim.holds_of_wide 3 Try.f3 rfl rfl rfl rfl rfl rfl rfl ⟨rfl, rfl, rfl, rfl, rfl⟩ rfl rfl rfl rfl rfl (by kernel_rfl) Try.func3 (by kernel_rfl)
    (of_decide_eq_true (by kernel_rfl)) (by unfold Func.isWrapper; first | (rw [if_pos (by decide +kernel)]; kernel_rfl) | (rw [if_neg (by decide +kernel)]; exact ⟨rfl, rfl⟩))
    (fun os started H enc _ => syncKeys_lifted os started H enc)
#print axioms syncKeys_holds
end Go.Proofs.Ytneaogmbdpboiaa
