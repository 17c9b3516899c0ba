/- MemberHomes, for every input. No condition. -/
import Derived.Test.YtdbinmknbmlddaaZLawMemberHomes
import Derived.Test.YtdbinmknbmlddaaZPureMemberHomes
import Derived.Test.YtdbinmknbmlddaaRows
import Derived.Test.YtdbinmknbmlddaaConR
set_option linter.all false
set_option maxRecDepth 10000
namespace Go.Proofs.Ytdbinmknbmlddaa
open Go Go.Sp Go.ChangeShapes Go.WideShapes Go.ChangeAt Go.RowKit
open Go.ChangeMaps (open_string shut_string)

theorem memberHomes_own : ownKnob Try.prog.godebug = none := by kernel_rfl
theorem memberHomes_laid : laidOutB Try.prog = true := by kernel_rfl
set_option maxRecDepth 100000 in
theorem memberHomes_lifted (os : Os) (started : os.Started) (H : Type) (enc : TypeId × Value → H) :
    ReturnsInHanded {} Try.checked os 3 .any (Rows.memberHomesSpec.pre6 enc Try.prog Try.f3 Rows.memberHomesRow.domain false) (Rows.memberHomesSpec.post enc Try.prog Try.f3 false true false false) := by
  refine returnsInHanded_of_change_sized (C := Try.checked) memberHomes_own started (by kernel_rfl) Try.func3
    (ChangeSpec.witness6 (enc := enc) (C := Try.checked) false ⟨#[], #[.slice none 0 0, .slice none 0 0], []⟩ 8 (by kernel_rfl) (by kernel_rfl) (by kernel_rfl) (by kernel_rfl)) ?_
  intro W base args ds gs before hval0 hW hcnd hsz0 _
  have hval : ∀ (j : Nat) t v, Try.f3.params[j]? = some t → args[j]? = some v → Value.okWide Try.prog W .any base t v := hval0
  have hW' := hW
  obtain ⟨p, q, hA0, hV, rfl, hfz, hnd⟩ := hW
  have hA : DataW.TrodAll enc Try.prog W 0 (fun _ => true) true Try.f3.params.toList args.toList ds p := hA0
  rw [Try.params3] at hA hval
  obtain ⟨v0, vs0, d0, ds0, p0, q0, hargs, rfl, rfl, h0, r0⟩ := trodAll_cons hA
  obtain ⟨v1, vs1, d1, ds1, p1, q1, rfl, rfl, rfl, h1, r1⟩ := trodAll_cons r0
  obtain ⟨rfl, rfl, rfl⟩ := trodAll_nil r1
  obtain rfl : args = #[v0, v1] := by cases args; simp_all
  obtain ⟨rfl, rfl⟩ := trodVars_none hV
  have z0 := h0
  have lt0 : ∀ x ∈ p0, x.block < W.heap.size := by obtain ⟨m, hm⟩ := z0; exact DataW.trod_lt m _ _ _ hm
  obtain ⟨a0, k0, c0⟩ := trodAny (rd_slice Try.underlying22 c9 (by decide) (rd_str Try.underlying9)) h0
  obtain ⟨ad0, ln0, cp0, rfl⟩ := okWide_slice Try.underlying22 (hval 0 22 v0 rfl rfl)
  have z1 := h1
  have lt1 : ∀ x ∈ p1, x.block < W.heap.size := by obtain ⟨m, hm⟩ := z1; exact DataW.trod_lt m _ _ _ hm
  obtain ⟨a1, k1, c1⟩ := trodAny (rd_slice Try.underlying23 c3 (by decide) (rd_int Try.underlying3)) h1
  obtain ⟨ad1, ln1, cp1, rfl⟩ := okWide_slice Try.underlying23 (hval 1 23 v1 rfl rfl)
  obtain ⟨k, hk⟩ := MemberHomes_pure a0 a1 k0 k1
  refine (law_walk (concourselaw09_MemberHomes.c hk) (us := [_, _]) (.cons (arg_one rfl c0) (.cons (arg_one rfl c1) .nil))).mono fun e W' ⟨he, bel⟩ => ?_
  subst he
  exact ⟨_, rfl, _, _, _, [], _, [], hW', trodAll_mk1 (shut_bool Try.underlying4 _), (trodAll_cons_mk (Below.trod memberHomes_laid (by kernel_rfl) (of_decide_eq_true (by kernel_rfl)) z0 bel lt0) (trodAll_cons_mk (Below.trod memberHomes_laid (by kernel_rfl) (of_decide_eq_true (by kernel_rfl)) z1 bel lt1) trodAll_mk0)), rfl, bel.frame _, fun h => by cases h⟩
/-- The statement. -/
theorem memberHomes_holds : Rows.MemberHomesSaid :=
  OpenClaim.holds_of_wide 3 Try.f3 rfl rfl rfl rfl rfl rfl rfl ⟨rfl, rfl, rfl, rfl, rfl⟩ rfl rfl rfl rfl rfl (by kernel_rfl) Try.func3 (by kernel_rfl)
    (of_decide_eq_true (by kernel_rfl)) (by unfold Func.isWrapper; first | (rw [if_pos (by decide +kernel)]; kernel_rfl) | (rw [if_neg (by decide +kernel)]; exact ⟨rfl, rfl⟩))
    (fun os started H enc _ => memberHomes_lifted os started H enc)
#print axioms memberHomes_holds
end Go.Proofs.Ytdbinmknbmlddaa
