/- The walks. -/
import Derived.Test.YtdbinmknbmlddaaZMir
import Derived.Test.YtdbinmknbmlddaaConQ
import Derived.Test.YtdbinmknbmlddaaConA3
import Derived.Eval
import Derived.Test.YtdbinmknbmlddaaZShelf
set_option linter.all false
set_option maxRecDepth 10000
set_option maxHeartbeats 20000000
namespace Go.Proofs.Ytdbinmknbmlddaa
open Go Go.Sp
theorem concourseref01_Few.c {a0 : ByteArray} {a1 : Int} {r : ByteArray} (h : concourseref01_Few.f a0 a1 = some r) : Pt Try.prog 4 [vS a0, vI a1] (vS r) := by
 unfold concourseref01_Few.f at h
 refine (Tr.body Try.func4 (c := _) rfl Try.ntmps4 (Nat.le_of_ble_eq_true rfl) fun R0 F => ?_).pt
 replace h := Gets.of h
 have H := h
 clear h
 refine WP.seq <| rg 1 0 <| as0 rfl rfl <| .fin <| WP.seq <| WP.seq <| rg 4 0 <| mv0 rfl rfl <| Dv.lens rfl trivial rfl Try.underlying9 <| mv0 rfl rfl <| bn0 rfl rfl rfl run_gt <| .fin <| cd H rfl (fun _ H => ?_) (fun _ H => ?_)
 rotate_left
 ·
  refine WP.skip <| WP.seq <| rg 2 0 <| mv0 rfl rfl <| as0 rfl rfl <| .fin ?_
  obtain rfl := Gets.out H
  exact rt i2 rfl () 0 [] 0 (.cons (res_tmp rfl) .nil)
 refine WP.seq <| rg 4 0 <| mv0 rfl rfl <| mv0 rfl rfl <| gr H fun g2 H => Dv.sss rfl trivial rfl Try.underlying9 bdE_none (bdE_some rfl g2.1) g2.2.1 g2.2.2 <| as0 rfl rfl <| .fin ?_
 obtain rfl := Gets.out H
 exact rt i2 rfl () 0 [] 0 (.cons (res_tmp rfl) .nil)
theorem concourseref01_Around.c {a0 : Int} {a1 : Int} {r : Int} (h : concourseref01_Around.f a0 a1 = some r) : Pt Try.prog 10 [vI a0, vI a1] (vI r) := by
 unfold concourseref01_Around.f at h
 refine (Tr.body Try.func10 (c := _) rfl Try.ntmps10 (Nat.le_of_ble_eq_true rfl) fun R0 F => ?_).pt
 replace h := Gets.of h
 have H := h
 clear h
 refine WP.seq <| rg 1 0 <| as0 rfl rfl <| .fin <| WP.seq <| WP.seq <| rg 2 0 <| mv0 rfl rfl <| bn0 rfl rfl rfl run_lt <| .fin <| cd H rfl (fun _ H => ?_) (fun _ H => ?_)
 rotate_left
 ·
  refine WP.skip <| WP.seq <| rg 4 0 <| mv0 rfl rfl <| mv0 rfl rfl <| gr H fun g5 H => bn0 rfl rfl rfl (run_rem g5) <| as0 rfl rfl <| .fin ?_
  obtain rfl := Gets.out H
  exact rt i2 rfl () 0 [] 0 (.cons (res_tmp rfl) .nil)
 refine rg 4 0 <| mv0 rfl rfl <| bn0 rfl rfl rfl run_add <| un0 rfl rfl (run_neg _ _) <| as0 rfl rfl <| .fin <| WP.seq <| rg 4 0 <| mv0 rfl rfl <| mv0 rfl rfl <| gr H fun g4 H => bn0 rfl rfl rfl (run_rem g4) <| as0 rfl rfl <| .fin ?_
 obtain rfl := Gets.out H
 exact rt i2 rfl () 0 [] 0 (.cons (res_tmp rfl) .nil)
theorem concourseref01_ServerOf.c {a0 : Int} {r : ByteArray} (h : concourseref01_ServerOf.f a0 = some r) : Pt Try.prog 11 [vI a0] (vS r) := by
 unfold concourseref01_ServerOf.f at h
 refine (Tr.body Try.func11 (c := _) rfl Try.ntmps11 (Nat.le_of_ble_eq_true rfl) fun R0 F => ?_).pt
 replace h := Gets.of h
 have H := h
 clear h
 refine WP.seq <| rg 1 0 <| as0 rfl rfl <| .fin <| WP.seq <| rg 6 0 <| Dv.lit strK ([(⟨#[115, 49]⟩ : ByteArray), (⟨#[115, 50]⟩ : ByteArray), (⟨#[115, 51]⟩ : ByteArray)] : List ByteArray) (css := [[vS (⟨#[115, 49]⟩ : ByteArray)], [vS (⟨#[115, 50]⟩ : ByteArray)], [vS (⟨#[115, 51]⟩ : ByteArray)]]) rfl trivial Try.underlying22 Try.underlying9 c9 z9 rfl (by decide) (by decide) rfl ⟨(cells_one (one_eq rfl)), ⟨(cells_one (one_eq rfl)), ⟨(cells_one (one_eq rfl)), trivial⟩⟩⟩ rfl rfl rfl <| mv0 rfl rfl <| el H fun t6 h7 H => cl rfl cal10 rfl (concourseref01_Around.c h7) <| gr H fun g8 H => Dv.ixr rfl trivial rfl rfl Try.underlying22 Try.underlying9 c9 g8.1 g8.2 <| ldR rfl trivial rfl sc9 rfl <| as0 rfl rfl <| .fin ?_
 obtain rfl := Gets.out H
 exact rt i2 rfl () 0 [] 0 (.cons (res_tmp rfl) .nil)
theorem concourseref01_UserOf.c {a0 : Int} {r : ByteArray} (h : concourseref01_UserOf.f a0 = some r) : Pt Try.prog 5 [vI a0] (vS r) := by
 unfold concourseref01_UserOf.f at h
 refine (Tr.body Try.func5 (c := _) rfl Try.ntmps5 (Nat.le_of_ble_eq_true rfl) fun R0 F => ?_).pt
 replace h := Gets.of h
 have H := h
 clear h
 refine WP.seq <| rg 1 0 <| as0 rfl rfl <| .fin <| WP.seq <| rg 3 0 <| mv0 rfl rfl <| el H fun t9 h10 H => cl rfl cal10 rfl (concourseref01_Around.c h10) <| as0 rfl rfl <| .fin <| WP.seq <| dg Try.checked.mixed 10 0 <| Dv.lit strK ([(⟨#[64, 97, 58]⟩ : ByteArray), (⟨#[64, 98, 58]⟩ : ByteArray), (⟨#[64, 99, 58]⟩ : ByteArray)] : List ByteArray) (css := [[vS (⟨#[64, 97, 58]⟩ : ByteArray)], [vS (⟨#[64, 98, 58]⟩ : ByteArray)], [vS (⟨#[64, 99, 58]⟩ : ByteArray)]]) rfl trivial Try.underlying22 Try.underlying9 c9 z9 rfl (by decide) (by decide) rfl ⟨(cells_one (one_eq rfl)), ⟨(cells_one (one_eq rfl)), ⟨(cells_one (one_eq rfl)), trivial⟩⟩⟩ rfl rfl rfl <| mv0 rfl rfl <| bn0 rfl rfl rfl (run_quo (by decide)) <| gr H fun g11 H => Dv.ixr rfl trivial rfl rfl Try.underlying22 Try.underlying9 c9 g11.1 g11.2 <| ldR rfl trivial rfl sc9 rfl <| mv0 rfl rfl <| bn0 rfl rfl rfl (run_rem (by decide)) <| el H fun t12 h13 H => cl rfl cal11 rfl (concourseref01_ServerOf.c h13) <| gr H fun g14 H => bn0 rfl rfl rfl (run_cat g14) <| as0 rfl rfl <| .fin ?_
 obtain rfl := Gets.out H
 exact rt i2 rfl () 0 [] 0 (.cons (res_tmp rfl) .nil)
theorem concourseref01_SameTexts.c {k : Nat} {a0 : List ByteArray} {a1 : List ByteArray} {r : Bool} (h : concourseref01_SameTexts.f k a0 a1 = some r) : Pt Try.prog 6 [sl strK a0, sl strK a1] (vB r) := by
 unfold concourseref01_SameTexts.f at h
 refine (Tr.body Try.func6 (c := _) rfl Try.ntmps6 (Nat.le_of_ble_eq_true rfl) fun R0 F => ?_).pt
 replace h := Gets.of h
 have H := h
 clear h
 refine WP.seq <| rg 1 0 <| as0 rfl rfl <| .fin <| WP.seq <| WP.seq <| rg 5 0 <| mv0 rfl rfl <| Dv.lenl rfl trivial rfl Try.underlying22 <| mv0 rfl rfl <| Dv.lenl rfl trivial rfl Try.underlying22 <| bn0 rfl rfl rfl run_ne <| .fin <| cd H rfl (fun _ H => ?_) (fun _ H => ?_)
 ·
  refine WP.seq <| rg 1 0 <| as0 rfl rfl <| .fin ?_
  obtain rfl := Gets.out H
  exact rt i2 rfl () 0 [] 0 (.cons (res_tmp rfl) .nil)
 refine WP.skip <| WP.seqr H id (fun p16 : Int × Bool => [(0, sl strK a0), (1, sl strK a1), (4, vB false), (5, vI p16.1), (10, vB ((a0.length : Int) != (a1.length : Int))), (14, vB p16.2)]) (fun p16 : Int × Bool => F) (fun p16 H => ?_) (fun H => ?_)
 ·
  refine WP.seq <| rg 1 0 <| as0 rfl rfl <| .fin ?_
  obtain rfl := Gets.out H
  exact rt i2 rfl () 0 [] 0 (.cons (res_tmp rfl) .nil)
 refine WP.seq <| rg 1 0 <| as0 rfl rfl <| .fin <| WP.block <| wg (sg 0 [] 0) fun _ _ => ?_
 refine lp (fun j_ (p23 : Int) => concourseref01_SameTexts.l0 k a0 a1 j_ p23) 0 H (fun p23 => [(0, sl strK a0), (1, sl strK a1), (4, vB false), (5, vI p23), (10, vB ((a0.length : Int) != (a1.length : Int)))]) (fun p23 => F) ?_
 rintro j_ x17 H
 rcases j_ with _ | j22
 ·
  exact (Gets.no H).elim
 replace H : Gets (concourseref01_SameTexts.l0 k a0 a1 (j22 + 1) x17) _ := H
 rw [concourseref01_SameTexts.l0] at H
 refine WP.seq <| WP.seq <| rg 4 0 <| mv0 rfl rfl <| mv0 rfl rfl <| Dv.lenl rfl trivial rfl Try.underlying22 <| bn0 rfl rfl rfl run_lt <| .fin <| cd H rfl (fun _ H => ?_) (fun _ H => ?_)
 rotate_left
 ·
  refine WP.exit ?_
  replace H := Gets.out H
  exact jn (x17, decide (x17 < (a0.length : Int))) H
 refine WP.skip <| WP.seq <| WP.block <| WP.seq <| dg Try.checked.mixed 9 0 <| mv0 rfl rfl <| mv0 rfl rfl <| gr H fun g19 H => Dv.ixr rfl trivial rfl rfl Try.underlying22 Try.underlying9 c9 g19.1 g19.2 <| ldR rfl trivial rfl sc9 rfl <| mv0 rfl rfl <| mv0 rfl rfl <| gr H fun g20 H => Dv.ixr rfl trivial rfl rfl Try.underlying22 Try.underlying9 c9 g20.1 g20.2 <| ldR rfl trivial rfl sc9 rfl <| bn0 rfl rfl rfl run_sne <| .fin <| cd H rfl (fun _ H => ?_) (fun _ H => ?_)
 rotate_left
 ·
  exact WP.skip <| rg 3 0 <| mv0 rfl rfl <| bn0 rfl rfl rfl run_add <| as0 rfl rfl <| .fin <| bk j22 (w64 (x17 + 1)) H
 refine WP.seq <| rg 1 0 <| as0 rfl rfl <| .fin ?_
 replace H := Gets.outr H
 obtain rfl := Gets.out H
 exact rt i2 rfl () 0 [] 0 (.cons (res_tmp rfl) .nil)
theorem stringslite_IndexByte.c {a0 : ByteArray} {a1 : Int} {r : Int} (h : stringslite_IndexByte.f a0 a1 = some r) : Pt Try.prog 73 [vS a0, eq (.int .u8 a1)] (vI r) := by
 unfold stringslite_IndexByte.f at h
 refine (Tr.body Try.func73 (c := _) rfl Try.ntmps73 (Nat.le_of_ble_eq_true rfl) fun R0 F => ?_).pt
 replace h := Gets.of h
 have H := h
 clear h
 refine WP.seq <| rg 1 0 <| as0 rfl rfl <| .fin <| WP.seq <| rg 4 0 <| mv0 rfl rfl <| mv0 rfl rfl <| Dv.cext rfl trivial rfl (xt_index Try.func83 (by kernel_rfl) rfl xf83 xg83) <| as0 rfl rfl <| .fin ?_
 obtain rfl := Gets.out H
 exact rt i2 rfl () 0 [] 0 (.cons (res_tmp rfl) .nil)
theorem bytealg_Cutover.c {a0 : Int} {r : Int} (h : bytealg_Cutover.f a0 = some r) : Pt Try.prog 75 [vI a0] (vI r) := by
 unfold bytealg_Cutover.f at h
 refine (Tr.body Try.func75 (c := _) rfl Try.ntmps75 (Nat.le_of_ble_eq_true rfl) fun R0 F => ?_).pt
 replace h := Gets.of h
 have H := h
 clear h
 refine WP.seq <| rg 1 0 <| as0 rfl rfl <| .fin <| WP.seq <| rg 4 0 <| mv0 rfl rfl <| bn0 rfl rfl rfl run_add <| bn0 rfl rfl rfl (run_quo (by decide)) <| as0 rfl rfl <| .fin ?_
 obtain rfl := Gets.out H
 exact rt i2 rfl () 0 [] 0 (.cons (res_tmp rfl) .nil)
theorem stringslite_Index.c {a0 : ByteArray} {a1 : ByteArray} {r : Int} (h : stringslite_Index.f a0 a1 = some r) : Pt Try.prog 60 [vS a0, vS a1] (vI r) := by
 unfold stringslite_Index.f at h
 refine (Tr.body Try.func60 (c := _) rfl Try.ntmps60 (Nat.le_of_ble_eq_true rfl) fun R0 F => ?_).pt
 replace h := Gets.of h
 have H := h
 clear h
 refine WP.seq <| rg 1 0 <| as0 rfl rfl <| .fin <| WP.seq <| rg 3 0 <| mv0 rfl rfl <| Dv.lens rfl trivial rfl Try.underlying9 <| as0 rfl rfl <| .fin <| WP.seq <| WP.block <| WP.seq <| rg 8 0 <| mv0 rfl rfl <| bn0 rfl rfl rfl run_eq <| mv0 rfl rfl ?_
 cases c26 : ((a1.size : Int) == 0)
 rotate_left
 ·
  replace H := Gets.ct H c26
  refine sk rfl rfl <| sk rfl rfl <| sk rfl rfl <| pt0 rfl rfl rfl <| as0 rfl rfl <| .fin <| WP.cond rfl (fun _ => ?_) nofun
  refine WP.seq <| rg 1 0 <| as0 rfl rfl <| .fin ?_
  obtain rfl := Gets.out H
  exact rt i2 rfl () 0 [] 0 (.cons (res_tmp rfl) .nil)
 replace H := Gets.cf H c26
 refine mvg rfl rfl rfl <| mvg rfl rfl rfl <| bng rfl rfl rfl rfl run_seq <| pf0 rfl rfl rfl <| as0 rfl rfl <| .fin <| cd H rfl (fun _ H => ?_) (fun _ H => ?_)
 ·
  refine WP.seq <| rg 1 0 <| as0 rfl rfl <| .fin ?_
  obtain rfl := Gets.out H
  exact rt i2 rfl () 0 [] 0 (.cons (res_tmp rfl) .nil)
 refine WP.seq <| rg 3 0 <| mv0 rfl rfl <| bn0 rfl rfl rfl run_eq <| as0 rfl rfl <| .fin <| cd H rfl (fun _ H => ?_) (fun _ H => ?_)
 ·
  refine WP.seq <| rg 5 0 <| mv0 rfl rfl <| mv0 rfl rfl <| gr H fun g30 H => Dv.ixs rfl trivial rfl rfl Try.underlying9 g30.1 g30.2 <| el H fun t31 h32 H => cl rfl cal73 rfl (stringslite_IndexByte.c h32) <| as0 rfl rfl <| .fin ?_
  obtain rfl := Gets.out H
  exact rt i2 rfl () 0 [] 0 (.cons (res_tmp rfl) .nil)
 refine WP.seq <| rg 5 0 <| mv0 rfl rfl <| mv0 rfl rfl <| Dv.lens rfl trivial rfl Try.underlying9 <| bn0 rfl rfl rfl run_ge <| as0 rfl rfl <| .fin <| cd H rfl (fun _ H => ?_) (fun _ H => ?_)
 rotate_left
 ·
  exact (Gets.no H).elim
 refine WP.seq <| rg 1 0 <| as0 rfl rfl <| .fin ?_
 obtain rfl := Gets.out H
 exact rt i2 rfl () 0 [] 0 (.cons (res_tmp rfl) .nil)
theorem stringslite_Cut.c {a0 : ByteArray} {a1 : ByteArray} {r : ByteArray × ByteArray × Bool} (h : stringslite_Cut.f a0 a1 = some r) : Pt Try.prog 37 [vS a0, vS a1] (tup [vS r.1, vS r.2.1, vB r.2.2]) := by
 unfold stringslite_Cut.f at h
 refine (Tr.body Try.func37 (c := _) rfl Try.ntmps37 (Nat.le_of_ble_eq_true rfl) fun R0 F => ?_).pt
 replace h := Gets.of h
 have H := h
 clear h
 refine WP.seq <| rg 3 0 <| as0 rfl rfl <| as0 rfl rfl <| as0 rfl rfl <| .fin <| WP.seq <| WP.seq <| rg 4 0 <| mv0 rfl rfl <| mv0 rfl rfl <| el H fun t34 h35 H => cl rfl cal60 rfl (stringslite_Index.c h35) <| as0 rfl rfl <| .fin <| WP.seq <| rg 2 0 <| mv0 rfl rfl <| bn0 rfl rfl rfl run_ge <| .fin <| cd H rfl (fun _ H => ?_) (fun _ H => ?_)
 rotate_left
 ·
  refine WP.skip <| WP.seq <| rg 4 0 <| mv0 rfl rfl <| as0 rfl rfl <| as0 rfl rfl <| as0 rfl rfl <| .fin ?_
  obtain rfl := Gets.out H
  exact rt i2 rfl () 0 [] 0 (.cons (res_tmp rfl) (.cons (res_tmp rfl) (.cons (res_tmp rfl) .nil)))
 refine WP.seq <| dg Try.checked.mixed 12 0 <| mv0 rfl rfl <| mv0 rfl rfl <| gr H fun g37 H => Dv.sss rfl trivial rfl Try.underlying9 bdE_none (bdE_some rfl g37.1) g37.2.1 g37.2.2 <| mv0 rfl rfl <| mv0 rfl rfl <| mv0 rfl rfl <| Dv.lens rfl trivial rfl Try.underlying9 <| bn0 rfl rfl rfl run_add <| gr H fun g38 H => Dv.sss rfl trivial rfl Try.underlying9 (bdE_some rfl g38.1) bdE_none g38.2.1 g38.2.2 <| as0 rfl rfl <| as0 rfl rfl <| as0 rfl rfl <| .fin ?_
 obtain rfl := Gets.out H
 exact rt i2 rfl () 0 [] 0 (.cons (res_tmp rfl) (.cons (res_tmp rfl) (.cons (res_tmp rfl) .nil)))
theorem strings_Cut.c {a0 : ByteArray} {a1 : ByteArray} {r : ByteArray × ByteArray × Bool} (h : strings_Cut.f a0 a1 = some r) : Pt Try.prog 23 [vS a0, vS a1] (tup [vS r.1, vS r.2.1, vB r.2.2]) := by
 unfold strings_Cut.f at h
 refine (Tr.body Try.func23 (c := _) rfl Try.ntmps23 (Nat.le_of_ble_eq_true rfl) fun R0 F => ?_).pt
 replace h := Gets.of h
 have H := h
 clear h
 refine WP.seq <| rg 3 0 <| as0 rfl rfl <| as0 rfl rfl <| as0 rfl rfl <| .fin <| WP.seq <| rg 9 0 <| mv0 rfl rfl <| mv0 rfl rfl <| el H fun t39 h40 H => cl rfl cal37 rfl (stringslite_Cut.c h40) <| ex0 rfl trivial rfl rfl <| ex0 rfl trivial rfl rfl <| ex0 rfl trivial rfl rfl <| as0 rfl rfl <| as0 rfl rfl <| as0 rfl rfl <| .fin ?_
 obtain rfl := Gets.out H
 exact rt i2 rfl () 0 [] 0 (.cons (res_tmp rfl) (.cons (res_tmp rfl) (.cons (res_tmp rfl) .nil)))
theorem stringslite_HasPrefix.c {a0 : ByteArray} {a1 : ByteArray} {r : Bool} (h : stringslite_HasPrefix.f a0 a1 = some r) : Pt Try.prog 80 [vS a0, vS a1] (vB r) := by
 unfold stringslite_HasPrefix.f at h
 refine (Tr.body Try.func80 (c := _) rfl Try.ntmps80 (Nat.le_of_ble_eq_true rfl) fun R0 F => ?_).pt
 replace h := Gets.of h
 have H := h
 clear h
 refine WP.seq <| rg 1 0 <| as0 rfl rfl <| .fin <| WP.seq <| rg 14 0 <| mv0 rfl rfl <| Dv.lens rfl trivial rfl Try.underlying9 <| mv0 rfl rfl <| Dv.lens rfl trivial rfl Try.underlying9 <| bn0 rfl rfl rfl run_ge <| mv0 rfl rfl ?_
 cases c41 : decide ((a1.size : Int) ≤ (a0.size : Int))
 ·
  replace H := Gets.cf H c41
  refine sk rfl rfl <| sk rfl rfl <| sk rfl rfl <| sk rfl rfl <| sk rfl rfl <| sk rfl rfl <| pf0 rfl rfl rfl <| as0 rfl rfl <| .fin ?_
  obtain rfl := Gets.out H
  exact rt i2 rfl () 0 [] 0 (.cons (res_tmp rfl) .nil)
 replace H := Gets.ct H c41
 refine mvg rfl rfl rfl <| mvg rfl rfl rfl <| Dv.lens rfl (gg rfl) rfl Try.underlying9 <| gr H fun g42 H => Dv.sss rfl (gg rfl) rfl Try.underlying9 bdE_none (bdE_some rfl g42.1) g42.2.1 g42.2.2 <| mvg rfl rfl rfl <| bng rfl rfl rfl rfl run_seq <| pt0 rfl rfl rfl <| as0 rfl rfl <| .fin ?_
 obtain rfl := Gets.out H
 exact rt i2 rfl () 0 [] 0 (.cons (res_tmp rfl) .nil)
theorem stringslite_CutPrefix.c {a0 : ByteArray} {a1 : ByteArray} {r : ByteArray × Bool} (h : stringslite_CutPrefix.f a0 a1 = some r) : Pt Try.prog 70 [vS a0, vS a1] (tup [vS r.1, vB r.2]) := by
 unfold stringslite_CutPrefix.f at h
 refine (Tr.body Try.func70 (c := _) rfl Try.ntmps70 (Nat.le_of_ble_eq_true rfl) fun R0 F => ?_).pt
 replace h := Gets.of h
 have H := h
 clear h
 refine WP.seq <| rg 2 0 <| as0 rfl rfl <| as0 rfl rfl <| .fin <| WP.seq <| WP.seq <| rg 4 0 <| mv0 rfl rfl <| mv0 rfl rfl <| el H fun t43 h44 H => cl rfl cal80 rfl (stringslite_HasPrefix.c h44) <| un0 rfl rfl (run_not _) <| .fin <| cd H rfl (fun _ H => ?_) (fun _ H => ?_)
 ·
  refine WP.seq <| rg 3 0 <| mv0 rfl rfl <| as0 rfl rfl <| as0 rfl rfl <| .fin ?_
  obtain rfl := Gets.out H
  exact rt i2 rfl () 0 [] 0 (.cons (res_tmp rfl) (.cons (res_tmp rfl) .nil))
 refine WP.skip <| WP.seq <| rg 6 0 <| mv0 rfl rfl <| mv0 rfl rfl <| Dv.lens rfl trivial rfl Try.underlying9 <| gr H fun g46 H => Dv.sss rfl trivial rfl Try.underlying9 (bdE_some rfl g46.1) bdE_none g46.2.1 g46.2.2 <| as0 rfl rfl <| as0 rfl rfl <| .fin ?_
 obtain rfl := Gets.out H
 exact rt i2 rfl () 0 [] 0 (.cons (res_tmp rfl) (.cons (res_tmp rfl) .nil))
theorem strings_CutPrefix.c {a0 : ByteArray} {a1 : ByteArray} {r : ByteArray × Bool} (h : strings_CutPrefix.f a0 a1 = some r) : Pt Try.prog 57 [vS a0, vS a1] (tup [vS r.1, vB r.2]) := by
 unfold strings_CutPrefix.f at h
 refine (Tr.body Try.func57 (c := _) rfl Try.ntmps57 (Nat.le_of_ble_eq_true rfl) fun R0 F => ?_).pt
 replace h := Gets.of h
 have H := h
 clear h
 refine WP.seq <| rg 2 0 <| as0 rfl rfl <| as0 rfl rfl <| .fin <| WP.seq <| rg 7 0 <| mv0 rfl rfl <| mv0 rfl rfl <| el H fun t47 h48 H => cl rfl cal70 rfl (stringslite_CutPrefix.c h48) <| ex0 rfl trivial rfl rfl <| ex0 rfl trivial rfl rfl <| as0 rfl rfl <| as0 rfl rfl <| .fin ?_
 obtain rfl := Gets.out H
 exact rt i2 rfl () 0 [] 0 (.cons (res_tmp rfl) (.cons (res_tmp rfl) .nil))
theorem name_small.c {a0 : Int} {r : Bool} (h : name_small.f a0 = some r) : Pt Try.prog 72 [eq (.int .u8 a0)] (vB r) := by
 unfold name_small.f at h
 refine (Tr.body Try.func72 (c := _) rfl Try.ntmps72 (Nat.le_of_ble_eq_true rfl) fun R0 F => ?_).pt
 replace h := Gets.of h
 have H := h
 clear h
 refine WP.seq <| rg 1 0 <| as0 rfl rfl <| .fin <| WP.seq <| rg 15 0 <| mv0 rfl rfl <| bn0 rfl rfl rfl run_ge <| mv0 rfl rfl ?_
 cases c49 : decide (97 ≤ a0)
 ·
  replace H := Gets.cf H c49
  refine sk rfl rfl <| sk rfl rfl <| pf0 rfl rfl rfl <| mv0 rfl rfl <| mvg rfl rfl rfl <| bng rfl rfl rfl rfl run_ge <| mvg rfl rfl rfl ?_
  cases c52 : decide (48 ≤ a0)
  ·
   replace H := Gets.cf H c52
   refine sk rfl rfl <| sk rfl rfl <| pfg rfl rfl rfl rfl <| pf0 rfl rfl rfl <| as0 rfl rfl <| .fin ?_
   obtain rfl := Gets.out H
   exact rt i2 rfl () 0 [] 0 (.cons (res_tmp rfl) .nil)
  replace H := Gets.ct H c52
  refine mvg rfl rfl rfl <| bng rfl rfl rfl rfl run_le <| ptg rfl rfl rfl rfl <| pf0 rfl rfl rfl <| as0 rfl rfl <| .fin ?_
  obtain rfl := Gets.out H
  exact rt i2 rfl () 0 [] 0 (.cons (res_tmp rfl) .nil)
 replace H := Gets.ct H c49
 refine mvg rfl rfl rfl <| bng rfl rfl rfl rfl run_le <| pt0 rfl rfl rfl <| mv0 rfl rfl ?_
 cases c50 : decide (a0 ≤ 122)
 rotate_left
 ·
  replace H := Gets.ct H c50
  refine sk rfl rfl <| sk rfl rfl <| sk rfl rfl <| sku rfl rfl <| sku rfl rfl <| sk rfl rfl <| pt0 rfl rfl rfl <| as0 rfl rfl <| .fin ?_
  obtain rfl := Gets.out H
  exact rt i2 rfl () 0 [] 0 (.cons (res_tmp rfl) .nil)
 replace H := Gets.cf H c50
 refine mvg rfl rfl rfl <| bng rfl rfl rfl rfl run_ge <| mvg rfl rfl rfl ?_
 cases c51 : decide (48 ≤ a0)
 ·
  replace H := Gets.cf H c51
  refine sk rfl rfl <| sk rfl rfl <| pfg rfl rfl rfl rfl <| pf0 rfl rfl rfl <| as0 rfl rfl <| .fin ?_
  obtain rfl := Gets.out H
  exact rt i2 rfl () 0 [] 0 (.cons (res_tmp rfl) .nil)
 replace H := Gets.ct H c51
 refine mvg rfl rfl rfl <| bng rfl rfl rfl rfl run_le <| ptg rfl rfl rfl rfl <| pf0 rfl rfl rfl <| as0 rfl rfl <| .fin ?_
 obtain rfl := Gets.out H
 exact rt i2 rfl () 0 [] 0 (.cons (res_tmp rfl) .nil)
theorem strings_IndexByte.c {a0 : ByteArray} {a1 : Int} {r : Int} (h : strings_IndexByte.f a0 a1 = some r) : Pt Try.prog 82 [vS a0, eq (.int .u8 a1)] (vI r) := by
 unfold strings_IndexByte.f at h
 refine (Tr.body Try.func82 (c := _) rfl Try.ntmps82 (Nat.le_of_ble_eq_true rfl) fun R0 F => ?_).pt
 replace h := Gets.of h
 have H := h
 clear h
 refine WP.seq <| rg 1 0 <| as0 rfl rfl <| .fin <| WP.seq <| rg 4 0 <| mv0 rfl rfl <| mv0 rfl rfl <| el H fun t53 h54 H => cl rfl cal73 rfl (stringslite_IndexByte.c h54) <| as0 rfl rfl <| .fin ?_
 obtain rfl := Gets.out H
 exact rt i2 rfl () 0 [] 0 (.cons (res_tmp rfl) .nil)
theorem name_among_1.c {a0 : Int} {c0 : ByteArray} {r : Bool} (h : name_among_1.f a0 c0 = some r) : Pt Try.prog 81 [eq (.int .u8 a0), rp [vS c0]] (vB r) := by
 unfold name_among_1.f at h
 refine (Tr.body Try.func81 (c := _) rfl Try.ntmps81 (Nat.le_of_ble_eq_true rfl) fun R0 F => ?_).pt
 replace h := Gets.of h
 have H := h
 clear h
 refine WP.seq <| rg 1 0 <| as0 rfl rfl <| .fin <| WP.seq <| rg 9 0 <| mv0 rfl rfl <| el H fun t55 h56 H => cl rfl cal72 rfl (name_small.c h56) <| mv0 rfl rfl ?_
 cases c57 : t55
 rotate_left
 ·
  replace H := Gets.ct H c57
  refine sk rfl rfl <| sk rfl rfl <| sk rfl rfl <| sk rfl rfl <| pt0 rfl rfl rfl <| as0 rfl rfl <| .fin ?_
  obtain rfl := Gets.out H
  exact rt i2 rfl () 0 [] 0 (.cons (res_tmp rfl) .nil)
 replace H := Gets.cf H c57
 refine ldR rfl (gg rfl) rfl sc9 rfl <| mvg rfl rfl rfl <| el H fun t58 h59 H => Dv.call rfl (gg rfl) cal82 rfl (strings_IndexByte.c h59) <| bng rfl rfl rfl rfl run_ge <| pf0 rfl rfl rfl <| as0 rfl rfl <| .fin ?_
 obtain rfl := Gets.out H
 exact rt i2 rfl () 0 [] 0 (.cons (res_tmp rfl) .nil)
theorem name_among.c {a0 : ByteArray} {r : (Int → Option Bool)} (h : name_among.f a0 = some r) : Pt Try.prog 71 [vS a0] (fq_uint8_bool r) := by
 unfold name_among.f at h
 refine (Tr.body Try.func71 (c := _) rfl Try.ntmps71 (Nat.le_of_ble_eq_true rfl) fun R0 F => ?_).pt
 replace h := Gets.of h
 have H := h
 clear h
 refine WP.seq <| rg 2 1 <| Dv.box rfl trivial rfl cE nofun fun b60 => as0 rfl rfl <| .fin <| WP.seq <| rg 2 0 <| Dv.gh (gh_frzb (E' := [(0, vS a0), (1, rp [vS a0]), (2, eq .nilFunc)]) (l' := F) 0 rfl (cve_cons rfl cv_id (cve_cons rfl cv_eq (cve_cons rfl cv_id cve_nil))) (all2_app .nil fun _ => cva_id)) (fun _ _ => ?_)
 refine Dv.mkf (Q := fqQ_uint8_bool (fun a0_ => name_among_1.f a0_ a0)) cal81 (by rintro _ _ ⟨a0_, r_, h_, rfl, rfl⟩; exact name_among_1.c h_) rfl trivial rfl rfl <| as0 rfl rfl <| .fin ?_
 obtain rfl := Gets.out H
 exact rt i2 rfl () 0 [] 0 (.cons (res_tmp rfl) .nil)
theorem name_may.c {k : Nat} {a0 : ByteArray} {a1 : Int} {r : Bool} (h : name_may.f k a0 a1 = some r) : Pt Try.prog 58 [vS a0, vI a1] (vB r) := by
 unfold name_may.f at h
 refine (Tr.body Try.func58 (c := _) rfl Try.ntmps58 (Nat.le_of_ble_eq_true rfl) fun R0 F => ?_).pt
 replace h := Gets.of h
 have H := h
 clear h
 refine WP.seq <| rg 1 0 <| as0 rfl rfl <| .fin <| WP.seq <| rg 7 0 <| el H fun t61 h62 H => cl rfl cal71 rfl (name_among.c h62) <| el H fun t63 h64 H => cl rfl cal71 rfl (name_among.c h64) <| el H fun t65 h66 H => cl rfl cal71 rfl (name_among.c h66) <| Dv.blda (qs := [fq_uint8_bool t61, fq_uint8_bool t63, fq_uint8_bool t65]) (css := [[fq_uint8_bool t61], [fq_uint8_bool t63], [fq_uint8_bool t65]]) rfl trivial Try.underlying93 Try.underlying89 c89 z93 rfl ⟨(cells_one one_fnq), ⟨(cells_one one_fnq), ⟨(cells_one one_fnq), trivial⟩⟩⟩ rfl rfl <| mv0 rfl rfl <| gr H fun g67 H => Dv.ixa (Kd := fK_uint8_bool) (xs := ([t61, t63, t65] : List (Int → Option Bool))) rfl trivial rfl rfl rfl Try.underlying93 Try.underlying89 rfl c89 rfl rfl g67.1 g67.2 rfl <| as0 rfl rfl <| .fin <| WP.seqr H id (fun p68 : Int × Bool => [(0, vS a0), (1, vI a1), (4, vB false), (5, fq_uint8_bool (fK_uint8_bool.at ([t61, t63, t65] : List (Int → Option Bool)) a1)), (14, vI (a0.size : Int)), (15, vI p68.1), (16, vB p68.2)]) (fun p68 : Int × Bool => F) (fun p68 H => ?_) (fun H => ?_)
 ·
  refine WP.seq <| rg 8 0 <| mv0 rfl rfl <| bn0 rfl rfl rfl run_sne <| mv0 rfl rfl ?_
  cases c69 : !decide (a0 = (⟨#[]⟩ : ByteArray))
  ·
   replace H := Gets.cf H c69
   refine sk rfl rfl <| sk rfl rfl <| sk rfl rfl <| pf0 rfl rfl rfl <| as0 rfl rfl <| .fin ?_
   obtain rfl := Gets.out H
   exact rt i2 rfl () 0 [] 0 (.cons (res_tmp rfl) .nil)
  replace H := Gets.ct H c69
  refine mvg rfl rfl rfl <| Dv.lens rfl (gg rfl) rfl Try.underlying9 <| bng rfl rfl rfl rfl run_le <| pt0 rfl rfl rfl <| as0 rfl rfl <| .fin ?_
  obtain rfl := Gets.out H
  exact rt i2 rfl () 0 [] 0 (.cons (res_tmp rfl) .nil)
 refine WP.seq <| rg 3 0 <| mv0 rfl rfl <| Dv.lens rfl trivial rfl Try.underlying9 <| mv0 rfl rfl <| .fin <| WP.block <| wg (sg 0 [] 0) fun _ _ => ?_
 refine lp (fun j_ (p77 : Int) => name_may.l0 k a0 a1 t61 t63 t65 j_ p77) 0 H (fun p77 => [(0, vS a0), (1, vI a1), (4, vB false), (5, fq_uint8_bool (fK_uint8_bool.at ([t61, t63, t65] : List (Int → Option Bool)) a1)), (14, vI (a0.size : Int)), (15, vI p77)]) (fun p77 => F) ?_
 rintro j_ x70 H
 rcases j_ with _ | j76
 ·
  exact (Gets.no H).elim
 replace H : Gets (name_may.l0 k a0 a1 t61 t63 t65 (j76 + 1) x70) _ := H
 rw [name_may.l0] at H
 refine WP.seq <| rg 1 0 <| bn0 rfl rfl rfl run_lt <| .fin <| WP.seq <| cd H rfl (fun _ H => ?_) (fun _ H => ?_)
 rotate_left
 ·
  refine WP.exit ?_
  replace H := Gets.out H
  exact jn (x70, decide (x70 < (a0.size : Int))) H
 refine WP.skip <| WP.seq <| WP.block <| WP.seq <| rg 2 0 <| mv0 rfl rfl <| as0 rfl rfl <| .fin <| WP.seq <| rg 6 0 <| mv0 rfl rfl <| mv0 rfl rfl <| mv0 rfl rfl <| gr H fun g72 H => Dv.ixs rfl trivial rfl rfl Try.underlying9 g72.1 g72.2 <| el H fun t73 h74 H => Dv.callq (ret := vB t73) rfl trivial rfl rfl ⟨_, _, h74, rfl, rfl⟩ <| un0 rfl rfl (run_not _) <| .fin <| cd H rfl (fun _ H => ?_) (fun _ H => ?_)
 rotate_left
 ·
  exact WP.skip <| rg 2 0 <| bn0 rfl rfl rfl run_add <| mv0 rfl rfl <| .fin <| bk j76 (w64 (x70 + 1)) H
 refine WP.seq <| rg 1 0 <| as0 rfl rfl <| .fin ?_
 replace H := Gets.outr H
 obtain rfl := Gets.out H
 exact rt i2 rfl () 0 [] 0 (.cons (res_tmp rfl) .nil)
theorem name_Server.c {k : Nat} {a0 : ByteArray} {r : Bool} (h : name_Server.f k a0 = some r) : Pt Try.prog 59 [vS a0] (vB r) := by
 unfold name_Server.f at h
 refine (Tr.body Try.func59 (c := _) rfl Try.ntmps59 (Nat.le_of_ble_eq_true rfl) fun R0 F => ?_).pt
 replace h := Gets.of h
 have H := h
 clear h
 refine WP.seq <| rg 1 0 <| as0 rfl rfl <| .fin <| WP.seq <| rg 16 0 <| mv0 rfl rfl <| el H fun t78 h79 H => cl rfl cal58 rfl (name_may.c h79) <| mv0 rfl rfl ?_
 cases c80 : t78
 ·
  replace H := Gets.cf H c80
  refine sk rfl rfl <| sk rfl rfl <| sk rfl rfl <| pf0 rfl rfl rfl <| mv0 rfl rfl <| sk rfl rfl <| sk rfl rfl <| sk rfl rfl <| sk rfl rfl <| sk rfl rfl <| sk rfl rfl <| pf0 rfl rfl rfl <| as0 rfl rfl <| .fin ?_
  obtain rfl := Gets.out H
  exact rt i2 rfl () 0 [] 0 (.cons (res_tmp rfl) .nil)
 replace H := Gets.ct H c80
 refine mvg rfl rfl rfl <| gr H fun g81 H => Dv.ixs rfl (gg rfl) rfl rfl Try.underlying9 g81.1 g81.2 <| el H fun t82 h83 H => Dv.call rfl (gg rfl) cal72 rfl (name_small.c h83) <| pt0 rfl rfl rfl <| mv0 rfl rfl ?_
 cases c84 : t82
 ·
  replace H := Gets.cf H c84
  refine sk rfl rfl <| sk rfl rfl <| sk rfl rfl <| sk rfl rfl <| sk rfl rfl <| sk rfl rfl <| pf0 rfl rfl rfl <| as0 rfl rfl <| .fin ?_
  obtain rfl := Gets.out H
  exact rt i2 rfl () 0 [] 0 (.cons (res_tmp rfl) .nil)
 replace H := Gets.ct H c84
 refine mvg rfl rfl rfl <| mvg rfl rfl rfl <| Dv.lens rfl (gg rfl) rfl Try.underlying9 <| bng rfl rfl rfl rfl run_sub <| gr H fun g85 H => Dv.ixs rfl (gg rfl) rfl rfl Try.underlying9 g85.1 g85.2 <| el H fun t86 h87 H => Dv.call rfl (gg rfl) cal72 rfl (name_small.c h87) <| pt0 rfl rfl rfl <| as0 rfl rfl <| .fin ?_
 obtain rfl := Gets.out H
 exact rt i2 rfl () 0 [] 0 (.cons (res_tmp rfl) .nil)
theorem name_split.c {k : Nat} {a0 : ByteArray} {a1 : ByteArray} {r : ByteArray × ByteArray × Bool} (h : name_split.f k a0 a1 = some r) : Pt Try.prog 36 [vS a0, vS a1] (tup [vS r.1, vS r.2.1, vB r.2.2]) := by
 unfold name_split.f at h
 refine (Tr.body Try.func36 (c := _) rfl Try.ntmps36 (Nat.le_of_ble_eq_true rfl) fun R0 F => ?_).pt
 replace h := Gets.of h
 have H := h
 clear h
 refine WP.seq <| rg 3 0 <| as0 rfl rfl <| as0 rfl rfl <| as0 rfl rfl <| .fin <| WP.seq <| rg 8 0 <| mv0 rfl rfl <| mv0 rfl rfl <| el H fun t88 h89 H => cl rfl cal57 rfl (strings_CutPrefix.c h89) <| mv0 rfl rfl <| ex0 rfl trivial rfl rfl <| ex0 rfl trivial rfl rfl <| as0 rfl rfl <| as0 rfl rfl <| .fin <| WP.seq <| rg 9 0 <| mv0 rfl rfl <| el H fun t90 h91 H => cl rfl cal23 rfl (strings_Cut.c h91) <| mv0 rfl rfl <| ex0 rfl trivial rfl rfl <| ex0 rfl trivial rfl rfl <| ex0 rfl trivial rfl rfl <| as0 rfl rfl <| as0 rfl rfl <| as0 rfl rfl <| .fin <| WP.seq <| rg 17 0 <| mv0 rfl rfl <| mv0 rfl rfl <| mv0 rfl rfl <| mv0 rfl rfl ?_
 cases c92 : t88.2
 ·
  replace H := Gets.cf H c92
  refine sk rfl rfl <| pf0 rfl rfl rfl <| mv0 rfl rfl <| sk rfl rfl <| sk rfl rfl <| pf0 rfl rfl rfl <| mv0 rfl rfl <| sk rfl rfl <| sk rfl rfl <| pf0 rfl rfl rfl <| as0 rfl rfl <| as0 rfl rfl <| as0 rfl rfl <| .fin ?_
  obtain rfl := Gets.out H
  exact rt i2 rfl () 0 [] 0 (.cons (res_tmp rfl) (.cons (res_tmp rfl) (.cons (res_tmp rfl) .nil)))
 replace H := Gets.ct H c92
 refine mvg rfl rfl rfl <| pt0 rfl rfl rfl <| mv0 rfl rfl ?_
 cases c93 : t90.2.2
 ·
  replace H := Gets.cf H c93
  refine sk rfl rfl <| sk rfl rfl <| pf0 rfl rfl rfl <| mv0 rfl rfl <| sk rfl rfl <| sk rfl rfl <| pf0 rfl rfl rfl <| as0 rfl rfl <| as0 rfl rfl <| as0 rfl rfl <| .fin ?_
  obtain rfl := Gets.out H
  exact rt i2 rfl () 0 [] 0 (.cons (res_tmp rfl) (.cons (res_tmp rfl) (.cons (res_tmp rfl) .nil)))
 replace H := Gets.ct H c93
 refine mvg rfl rfl rfl <| el H fun t94 h95 H => Dv.call rfl (gg rfl) cal58 rfl (name_may.c h95) <| pt0 rfl rfl rfl <| mv0 rfl rfl ?_
 cases c96 : t94
 ·
  replace H := Gets.cf H c96
  refine sk rfl rfl <| sk rfl rfl <| pf0 rfl rfl rfl <| as0 rfl rfl <| as0 rfl rfl <| as0 rfl rfl <| .fin ?_
  obtain rfl := Gets.out H
  exact rt i2 rfl () 0 [] 0 (.cons (res_tmp rfl) (.cons (res_tmp rfl) (.cons (res_tmp rfl) .nil)))
 replace H := Gets.ct H c96
 refine mvg rfl rfl rfl <| el H fun t97 h98 H => Dv.call rfl (gg rfl) cal59 rfl (name_Server.c h98) <| pt0 rfl rfl rfl <| as0 rfl rfl <| as0 rfl rfl <| as0 rfl rfl <| .fin ?_
 obtain rfl := Gets.out H
 exact rt i2 rfl () 0 [] 0 (.cons (res_tmp rfl) (.cons (res_tmp rfl) (.cons (res_tmp rfl) .nil)))
theorem name_User.c {k : Nat} {a0 : ByteArray} {r : Bool} (h : name_User.f k a0 = some r) : Pt Try.prog 21 [vS a0] (vB r) := by
 unfold name_User.f at h
 refine (Tr.body Try.func21 (c := _) rfl Try.ntmps21 (Nat.le_of_ble_eq_true rfl) fun R0 F => ?_).pt
 replace h := Gets.of h
 have H := h
 clear h
 refine WP.seq <| rg 1 0 <| as0 rfl rfl <| .fin <| WP.seq <| rg 9 0 <| mv0 rfl rfl <| el H fun t99 h100 H => cl rfl cal36 rfl (name_split.c h100) <| mv0 rfl rfl <| ex0 rfl trivial rfl rfl <| ex0 rfl trivial rfl rfl <| ex0 rfl trivial rfl rfl <| as0 rfl rfl <| as0 rfl rfl <| as0 rfl rfl <| .fin <| WP.seq <| rg 2 0 <| mv0 rfl rfl <| as0 rfl rfl <| .fin ?_
 obtain rfl := Gets.out H
 exact rt i2 rfl () 0 [] 0 (.cons (res_tmp rfl) .nil)
theorem name_Room.c {k : Nat} {a0 : ByteArray} {r : Bool} (h : name_Room.f k a0 = some r) : Pt Try.prog 22 [vS a0] (vB r) := by
 unfold name_Room.f at h
 refine (Tr.body Try.func22 (c := _) rfl Try.ntmps22 (Nat.le_of_ble_eq_true rfl) fun R0 F => ?_).pt
 replace h := Gets.of h
 have H := h
 clear h
 refine WP.seq <| rg 1 0 <| as0 rfl rfl <| .fin <| WP.seq <| rg 9 0 <| mv0 rfl rfl <| el H fun t101 h102 H => cl rfl cal36 rfl (name_split.c h102) <| mv0 rfl rfl <| ex0 rfl trivial rfl rfl <| ex0 rfl trivial rfl rfl <| ex0 rfl trivial rfl rfl <| as0 rfl rfl <| as0 rfl rfl <| as0 rfl rfl <| .fin <| WP.seq <| rg 2 0 <| mv0 rfl rfl <| as0 rfl rfl <| .fin ?_
 obtain rfl := Gets.out H
 exact rt i2 rfl () 0 [] 0 (.cons (res_tmp rfl) .nil)
theorem name_Home.c {k : Nat} {a0 : ByteArray} {r : ByteArray} (h : name_Home.f k a0 = some r) : Pt Try.prog 12 [vS a0] (vS r) := by
 unfold name_Home.f at h
 refine (Tr.body Try.func12 (c := _) rfl Try.ntmps12 (Nat.le_of_ble_eq_true rfl) fun R0 F => ?_).pt
 replace h := Gets.of h
 have H := h
 clear h
 refine WP.seq <| rg 1 0 <| as0 rfl rfl <| .fin <| WP.seq <| WP.seq <| rg 8 0 <| mv0 rfl rfl <| el H fun t103 h104 H => cl rfl cal21 rfl (name_User.c h104) <| un0 rfl rfl (run_not _) <| mv0 rfl rfl ?_
 cases c105 : !t103
 ·
  replace H := Gets.cf H c105
  refine sk rfl rfl <| sk rfl rfl <| sk rfl rfl <| pf0 rfl rfl rfl <| .fin <| WP.cond rfl nofun (fun _ => ?_)
  refine WP.skip <| WP.seq <| rg 9 0 <| mv0 rfl rfl <| el H fun t112 h113 H => cl rfl cal23 rfl (strings_Cut.c h113) <| mv0 rfl rfl <| ex0 rfl trivial rfl rfl <| ex0 rfl trivial rfl rfl <| ex0 rfl trivial rfl rfl <| as0 rfl rfl <| as0 rfl rfl <| as0 rfl rfl <| .fin <| WP.seq <| rg 2 0 <| mv0 rfl rfl <| as0 rfl rfl <| .fin ?_
  obtain rfl := Gets.out H
  exact rt i2 rfl () 0 [] 0 (.cons (res_tmp rfl) .nil)
 replace H := Gets.ct H c105
 refine mvg rfl rfl rfl <| el H fun t106 h107 H => Dv.call rfl (gg rfl) cal22 rfl (name_Room.c h107) <| ung rfl rfl rfl (run_not _) <| pt0 rfl rfl rfl <| .fin <| cd H rfl (fun _ H => ?_) (fun _ H => ?_)
 ·
  refine WP.seq <| rg 1 0 <| as0 rfl rfl <| .fin ?_
  obtain rfl := Gets.out H
  exact rt i2 rfl () 0 [] 0 (.cons (res_tmp rfl) .nil)
 refine WP.skip <| WP.seq <| rg 9 0 <| mv0 rfl rfl <| el H fun t109 h110 H => cl rfl cal23 rfl (strings_Cut.c h110) <| mv0 rfl rfl <| ex0 rfl trivial rfl rfl <| ex0 rfl trivial rfl rfl <| ex0 rfl trivial rfl rfl <| as0 rfl rfl <| as0 rfl rfl <| as0 rfl rfl <| .fin <| WP.seq <| rg 2 0 <| mv0 rfl rfl <| as0 rfl rfl <| .fin ?_
 obtain rfl := Gets.out H
 exact rt i2 rfl () 0 [] 0 (.cons (res_tmp rfl) .nil)
theorem slices_Sort_string.c {a0 : List ByteArray} {p0_ : OV} {r : List ByteArray} (h : slices_Sort_string.f a0 = some r) : Tr Try.prog 13 [eq p0_.1] [own strK p0_.1 a0] (γ := Unit) (fun _ => True) (fun g => tup []) (fun g => [own strK p0_.1 r]) := by
 unfold slices_Sort_string.f at h
 obtain ⟨h0, h5⟩ := (Gets.of h).grd
 obtain rfl := Gets.out h5
 exact sort_tr (fun blk off cap ss w => Go.Proofs.Any.slices_Sort_string Try.lays190 blk off cap ss w) (fun q cap w => Go.Proofs.Any.slices_Sort_string_none Try.lays190 q cap w) h0

theorem slices_Compact_string.c {a0 : List ByteArray} {p0_ : OV} {r : List ByteArray} (h : slices_Compact_string.f a0 = some r) : Tr Try.prog 14 [eq p0_.1] [own strK p0_.1 a0] (γ := OV) (fun _ => True) (fun g => eq g.1) (fun g => [own strK g.1 r]) := by
 unfold slices_Compact_string.f at h
 obtain ⟨h0, h5⟩ := (Gets.of h).grd
 obtain rfl := Gets.out h5
 exact compact_tr (fun blk off cap ss w => Go.Proofs.Any.slices_Compact_string Try.lays194 blk off cap ss w) (fun q cap w => Go.Proofs.Any.slices_Compact_string_empty Try.lays194 q cap w) h0

theorem member_Homes.c {k : Nat} {a0 : List ByteArray} {r : (List ByteArray)} (h : member_Homes.f k a0 = some r) : Tr Try.prog 7 [sl strK a0] [] (γ := OV) (fun _ => True) (fun g => eq g.1) (fun g => [own strK g.1 r]) := by
 unfold member_Homes.f at h
 refine Tr.body Try.func7 (c := _) rfl Try.ntmps7 (Nat.le_of_ble_eq_true rfl) fun R0 F => ?_
 replace h := Gets.of h
 have H := h
 clear h
 refine WP.seq <| rg 1 0 <| as0 rfl rfl <| .fin <| WP.seq <| rg 1 0 <| as0 rfl rfl <| .fin <| WP.seqn H (fun q133 : (Int × Bool × (List ByteArray)) × OV => q133.1) (fun q133 : (Int × Bool × (List ByteArray)) × OV => [(0, sl strK a0), (2, eq (.slice none 0 0)), (3, eq q133.2.1), (7, sl strK a0), (8, vI (a0.length : Int)), (9, vI q133.1.1), (10, vB q133.1.2.1)]) (fun q133 : (Int × Bool × (List ByteArray)) × OV => [own strK q133.2.1 q133.1.2.2] ++ F) (fun q133 H => ?_) (fun H => ?_)
 ·
  obtain ⟨p114, v115⟩ := q133
  refine WP.seq <| rg 2 2 <| mv0 rfl rfl <| el H fun t116 h117 H => cx 1 [0] cal13 (slices_Sort_string.c h117 (p0_ := v115)) nofun fun _ _ => ?_
  refine .fin <| WP.seq <| rg 3 2 <| mv0 rfl rfl <| el H fun t118 h119 H => cx 1 [0] cal14 (slices_Compact_string.c h119 (p0_ := v115)) nofun fun g120 _ => ?_
  refine as0 rfl rfl <| .fin ?_
  obtain rfl := Gets.out H
  exact rt i2 rfl g120 1 [0] 0 (.cons (res_tmp rfl) .nil)
 refine WP.seq <| rg 3 0 <| mv0 rfl rfl <| Dv.lenl rfl trivial rfl Try.underlying22 <| mv0 rfl rfl <| .fin <| WP.block <| wg (st_nil strK none) fun _ _ => ?_
 refine wg (sg 1 [0] 0) fun _ _ => ?_
 refine lp (fun j_ (p132 : Int × (List ByteArray) × OV) => member_Homes.l0 k a0 j_ p132.1 p132.2.1) (0, ([] : List ByteArray), nilV) H (fun p132 => [(0, sl strK a0), (2, eq (.slice none 0 0)), (3, eq p132.2.2.1), (7, sl strK a0), (8, vI (a0.length : Int)), (9, vI p132.1)]) (fun p132 => [own strK p132.2.2.1 p132.2.1] ++ F) ?_
 rintro j_ ⟨x121, x122, v123⟩ H
 rcases j_ with _ | j131
 ·
  exact (Gets.no H).elim
 replace H : Gets (member_Homes.l0 k a0 (j131 + 1) x121 x122) _ := H
 rw [member_Homes.l0] at H
 refine WP.seq <| rg 1 0 <| bn0 rfl rfl rfl run_lt <| .fin <| WP.seq <| cd H rfl (fun _ H => ?_) (fun _ H => ?_)
 rotate_left
 ·
  refine WP.exit ?_
  replace H := Gets.out H
  exact jn ((x121, decide (x121 < (a0.length : Int)), x122), v123) H
 refine WP.skip <| WP.seq <| WP.block <| WP.seq <| rg 3 0 <| gr H fun g125 H => Dv.ixr rfl trivial rfl rfl Try.underlying22 Try.underlying9 c9 g125.1 g125.2 <| ldR rfl trivial rfl sc9 rfl <| as0 rfl rfl <| .fin <| WP.seq <| rg 3 0 <| mv0 rfl rfl <| el H fun t126 h127 H => cl rfl cal12 rfl (name_Home.c h127) <| as0 rfl rfl <| .fin <| WP.seq <| rg 2 0 <| mv0 rfl rfl <| bn0 rfl rfl rfl run_sne <| .fin <| cd H rfl (fun _ H => ?_) (fun _ H => ?_)
 rotate_left
 ·
  exact WP.skip <| rg 2 0 <| bn0 rfl rfl rfl run_add <| mv0 rfl rfl <| .fin <| bk j131 (w64 (x121 + 1), x122, v123) H
 refine rg 5 8 <| mv0 rfl rfl <| mv0 rfl rfl <| Dv.lit strK ([t126] : List ByteArray) (css := [[vS t126]]) rfl trivial Try.underlying22 Try.underlying9 c9 z9 rfl (by decide) (by decide) rfl ⟨(cells_one (one_eq rfl)), trivial⟩ rfl rfl rfl <| gr H fun g129 H => ap strK 0 ([t126] : List ByteArray) src_sl Try.underlying22 (.inr ⟨_, Try.underlying22⟩) inf9 g129 nofun fun v130 => ?_
 exact as0 rfl rfl <| .fin <| rg 2 0 <| bn0 rfl rfl rfl run_add <| mv0 rfl rfl <| .fin <| bk j131 (w64 (x121 + 1), x122 ++ ([t126] : List ByteArray), v130) H
theorem concourseref01_colon.c {k : Nat} {a0 : ByteArray} {r : Int} (h : concourseref01_colon.f k a0 = some r) : Pt Try.prog 27 [vS a0] (vI r) := by
 unfold concourseref01_colon.f at h
 refine (Tr.body Try.func27 (c := _) rfl Try.ntmps27 (Nat.le_of_ble_eq_true rfl) fun R0 F => ?_).pt
 replace h := Gets.of h
 have H := h
 clear h
 refine WP.seq <| rg 1 0 <| as0 rfl rfl <| .fin <| WP.seqr H id (fun p134 : Int × Bool => [(0, vS a0), (2, vI 0), (3, vI p134.1), (7, vB p134.2)]) (fun p134 : Int × Bool => F) (fun p134 H => ?_) (fun H => ?_)
 ·
  refine WP.seq <| rg 1 0 <| as0 rfl rfl <| .fin ?_
  obtain rfl := Gets.out H
  exact rt i2 rfl () 0 [] 0 (.cons (res_tmp rfl) .nil)
 refine WP.seq <| rg 1 0 <| as0 rfl rfl <| .fin <| WP.block <| wg (sg 0 [] 0) fun _ _ => ?_
 refine lp (fun j_ (p140 : Int) => concourseref01_colon.l0 k a0 j_ p140) 0 H (fun p140 => [(0, vS a0), (2, vI 0), (3, vI p140)]) (fun p140 => F) ?_
 rintro j_ x135 H
 rcases j_ with _ | j139
 ·
  exact (Gets.no H).elim
 replace H : Gets (concourseref01_colon.l0 k a0 (j139 + 1) x135) _ := H
 rw [concourseref01_colon.l0] at H
 refine WP.seq <| WP.seq <| rg 4 0 <| mv0 rfl rfl <| mv0 rfl rfl <| Dv.lens rfl trivial rfl Try.underlying9 <| bn0 rfl rfl rfl run_lt <| .fin <| cd H rfl (fun _ H => ?_) (fun _ H => ?_)
 rotate_left
 ·
  refine WP.exit ?_
  replace H := Gets.out H
  exact jn (x135, decide (x135 < (a0.size : Int))) H
 refine WP.skip <| WP.seq <| WP.block <| WP.seq <| rg 4 0 <| mv0 rfl rfl <| mv0 rfl rfl <| gr H fun g137 H => Dv.ixs rfl trivial rfl rfl Try.underlying9 g137.1 g137.2 <| bn0 rfl rfl rfl run_eq <| .fin <| cd H rfl (fun _ H => ?_) (fun _ H => ?_)
 rotate_left
 ·
  exact WP.skip <| rg 3 0 <| mv0 rfl rfl <| bn0 rfl rfl rfl run_add <| as0 rfl rfl <| .fin <| bk j139 (w64 (x135 + 1)) H
 refine WP.seq <| rg 2 0 <| mv0 rfl rfl <| as0 rfl rfl <| .fin ?_
 replace H := Gets.outr H
 obtain rfl := Gets.out H
 exact rt i2 rfl () 0 [] 0 (.cons (res_tmp rfl) .nil)
theorem concourseref01_low.c {a0 : Int} {r : Bool} (h : concourseref01_low.f a0 = some r) : Pt Try.prog 67 [eq (.int .u8 a0)] (vB r) := by
 unfold concourseref01_low.f at h
 refine (Tr.body Try.func67 (c := _) rfl Try.ntmps67 (Nat.le_of_ble_eq_true rfl) fun R0 F => ?_).pt
 replace h := Gets.of h
 have H := h
 clear h
 refine WP.seq <| rg 1 0 <| as0 rfl rfl <| .fin <| WP.seq <| rg 15 0 <| mv0 rfl rfl <| bn0 rfl rfl rfl run_ge <| mv0 rfl rfl ?_
 cases c141 : decide (97 ≤ a0)
 ·
  replace H := Gets.cf H c141
  refine sk rfl rfl <| sk rfl rfl <| pf0 rfl rfl rfl <| mv0 rfl rfl <| mvg rfl rfl rfl <| bng rfl rfl rfl rfl run_ge <| mvg rfl rfl rfl ?_
  cases c144 : decide (48 ≤ a0)
  ·
   replace H := Gets.cf H c144
   refine sk rfl rfl <| sk rfl rfl <| pfg rfl rfl rfl rfl <| pf0 rfl rfl rfl <| as0 rfl rfl <| .fin ?_
   obtain rfl := Gets.out H
   exact rt i2 rfl () 0 [] 0 (.cons (res_tmp rfl) .nil)
  replace H := Gets.ct H c144
  refine mvg rfl rfl rfl <| bng rfl rfl rfl rfl run_le <| ptg rfl rfl rfl rfl <| pf0 rfl rfl rfl <| as0 rfl rfl <| .fin ?_
  obtain rfl := Gets.out H
  exact rt i2 rfl () 0 [] 0 (.cons (res_tmp rfl) .nil)
 replace H := Gets.ct H c141
 refine mvg rfl rfl rfl <| bng rfl rfl rfl rfl run_le <| pt0 rfl rfl rfl <| mv0 rfl rfl ?_
 cases c142 : decide (a0 ≤ 122)
 rotate_left
 ·
  replace H := Gets.ct H c142
  refine sk rfl rfl <| sk rfl rfl <| sk rfl rfl <| sku rfl rfl <| sku rfl rfl <| sk rfl rfl <| pt0 rfl rfl rfl <| as0 rfl rfl <| .fin ?_
  obtain rfl := Gets.out H
  exact rt i2 rfl () 0 [] 0 (.cons (res_tmp rfl) .nil)
 replace H := Gets.cf H c142
 refine mvg rfl rfl rfl <| bng rfl rfl rfl rfl run_ge <| mvg rfl rfl rfl ?_
 cases c143 : decide (48 ≤ a0)
 ·
  replace H := Gets.cf H c143
  refine sk rfl rfl <| sk rfl rfl <| pfg rfl rfl rfl rfl <| pf0 rfl rfl rfl <| as0 rfl rfl <| .fin ?_
  obtain rfl := Gets.out H
  exact rt i2 rfl () 0 [] 0 (.cons (res_tmp rfl) .nil)
 replace H := Gets.ct H c143
 refine mvg rfl rfl rfl <| bng rfl rfl rfl rfl run_le <| ptg rfl rfl rfl rfl <| pf0 rfl rfl rfl <| as0 rfl rfl <| .fin ?_
 obtain rfl := Gets.out H
 exact rt i2 rfl () 0 [] 0 (.cons (res_tmp rfl) .nil)
theorem concourseref01_Part.c {k : Nat} {a0 : ByteArray} {r : Bool} (h : concourseref01_Part.f k a0 = some r) : Pt Try.prog 49 [vS a0] (vB r) := by
 unfold concourseref01_Part.f at h
 refine (Tr.body Try.func49 (c := _) rfl Try.ntmps49 (Nat.le_of_ble_eq_true rfl) fun R0 F => ?_).pt
 replace h := Gets.of h
 have H := h
 clear h
 refine WP.seq <| rg 1 0 <| as0 rfl rfl <| .fin <| WP.seqr H id (fun p145 : Int × Bool => [(0, vS a0), (2, vB false), (3, vI p145.1), (8, vB p145.2)]) (fun p145 : Int × Bool => F) (fun p145 H => ?_) (fun H => ?_)
 ·
  refine WP.seq <| rg 9 0 <| mv0 rfl rfl <| Dv.lens rfl trivial rfl Try.underlying9 <| bn0 rfl rfl rfl run_gt <| mv0 rfl rfl ?_
  cases c146 : decide (0 < (a0.size : Int))
  ·
   replace H := Gets.cf H c146
   refine sk rfl rfl <| sk rfl rfl <| sk rfl rfl <| pf0 rfl rfl rfl <| as0 rfl rfl <| .fin ?_
   obtain rfl := Gets.out H
   exact rt i2 rfl () 0 [] 0 (.cons (res_tmp rfl) .nil)
  replace H := Gets.ct H c146
  refine mvg rfl rfl rfl <| Dv.lens rfl (gg rfl) rfl Try.underlying9 <| bng rfl rfl rfl rfl run_lt <| pt0 rfl rfl rfl <| as0 rfl rfl <| .fin ?_
  obtain rfl := Gets.out H
  exact rt i2 rfl () 0 [] 0 (.cons (res_tmp rfl) .nil)
 refine WP.seq <| rg 1 0 <| as0 rfl rfl <| .fin <| WP.block <| wg (sg 0 [] 0) fun _ _ => ?_
 refine lp (fun j_ (p163 : Int) => concourseref01_Part.l0 k a0 j_ p163) 0 H (fun p163 => [(0, vS a0), (2, vB false), (3, vI p163)]) (fun p163 => F) ?_
 rintro j_ x147 H
 rcases j_ with _ | j162
 ·
  exact (Gets.no H).elim
 replace H : Gets (concourseref01_Part.l0 k a0 (j162 + 1) x147) _ := H
 rw [concourseref01_Part.l0] at H
 refine WP.seq <| WP.seq <| rg 4 0 <| mv0 rfl rfl <| mv0 rfl rfl <| Dv.lens rfl trivial rfl Try.underlying9 <| bn0 rfl rfl rfl run_lt <| .fin <| cd H rfl (fun _ H => ?_) (fun _ H => ?_)
 rotate_left
 ·
  refine WP.exit ?_
  replace H := Gets.out H
  exact jn (x147, decide (x147 < (a0.size : Int))) H
 refine WP.skip <| WP.seq <| WP.block <| WP.seq <| rg 5 0 <| mv0 rfl rfl <| mv0 rfl rfl <| gr H fun g149 H => Dv.ixs rfl trivial rfl rfl Try.underlying9 g149.1 g149.2 <| el H fun t150 h151 H => cl rfl cal67 rfl (concourseref01_low.c h151) <| as0 rfl rfl <| .fin <| WP.seq <| rg 20 0 <| mv0 rfl rfl <| un0 rfl rfl (run_not _) <| mv0 rfl rfl ?_
 cases c152 : !t150
 ·
  replace H := Gets.cf H c152
  refine sk rfl rfl <| sk rfl rfl <| sk rfl rfl <| sk rfl rfl <| pf0 rfl rfl rfl <| mv0 rfl rfl <| sk rfl rfl <| sk rfl rfl <| sk rfl rfl <| sk rfl rfl <| pf0 rfl rfl rfl <| mv0 rfl rfl <| sk rfl rfl <| sk rfl rfl <| sk rfl rfl <| sk rfl rfl <| pf0 rfl rfl rfl <| .fin <| WP.cond rfl nofun (fun _ => ?_)
  exact WP.skip <| rg 3 0 <| mv0 rfl rfl <| bn0 rfl rfl rfl run_add <| as0 rfl rfl <| .fin <| bk j162 (w64 (x147 + 1)) H
 replace H := Gets.ct H c152
 refine mvg rfl rfl rfl <| mvg rfl rfl rfl <| gr H fun g153 H => Dv.ixs rfl (gg rfl) rfl rfl Try.underlying9 g153.1 g153.2 <| bng rfl rfl rfl rfl run_ne <| pt0 rfl rfl rfl <| mv0 rfl rfl ?_
 cases c154 : ((bt a0 x147) != 46)
 ·
  replace H := Gets.cf H c154
  refine sk rfl rfl <| sk rfl rfl <| sk rfl rfl <| sk rfl rfl <| pf0 rfl rfl rfl <| mv0 rfl rfl <| sk rfl rfl <| sk rfl rfl <| sk rfl rfl <| sk rfl rfl <| pf0 rfl rfl rfl <| .fin <| WP.cond rfl nofun (fun _ => ?_)
  exact WP.skip <| rg 3 0 <| mv0 rfl rfl <| bn0 rfl rfl rfl run_add <| as0 rfl rfl <| .fin <| bk j162 (w64 (x147 + 1)) H
 replace H := Gets.ct H c154
 refine mvg rfl rfl rfl <| mvg rfl rfl rfl <| gr H fun g155 H => Dv.ixs rfl (gg rfl) rfl rfl Try.underlying9 g155.1 g155.2 <| bng rfl rfl rfl rfl run_ne <| pt0 rfl rfl rfl <| mv0 rfl rfl ?_
 cases c156 : ((bt a0 x147) != 45)
 ·
  replace H := Gets.cf H c156
  refine sk rfl rfl <| sk rfl rfl <| sk rfl rfl <| sk rfl rfl <| pf0 rfl rfl rfl <| .fin <| WP.cond rfl nofun (fun _ => ?_)
  exact WP.skip <| rg 3 0 <| mv0 rfl rfl <| bn0 rfl rfl rfl run_add <| as0 rfl rfl <| .fin <| bk j162 (w64 (x147 + 1)) H
 replace H := Gets.ct H c156
 refine mvg rfl rfl rfl <| mvg rfl rfl rfl <| gr H fun g157 H => Dv.ixs rfl (gg rfl) rfl rfl Try.underlying9 g157.1 g157.2 <| bng rfl rfl rfl rfl run_ne <| pt0 rfl rfl rfl <| .fin <| cd H rfl (fun _ H => ?_) (fun _ H => ?_)
 rotate_left
 ·
  exact WP.skip <| rg 3 0 <| mv0 rfl rfl <| bn0 rfl rfl rfl run_add <| as0 rfl rfl <| .fin <| bk j162 (w64 (x147 + 1)) H
 refine WP.seq <| rg 1 0 <| as0 rfl rfl <| .fin ?_
 replace H := Gets.outr H
 obtain rfl := Gets.out H
 exact rt i2 rfl () 0 [] 0 (.cons (res_tmp rfl) .nil)
theorem concourseref01_Server.c {k : Nat} {a0 : ByteArray} {r : Bool} (h : concourseref01_Server.f k a0 = some r) : Pt Try.prog 50 [vS a0] (vB r) := by
 unfold concourseref01_Server.f at h
 refine (Tr.body Try.func50 (c := _) rfl Try.ntmps50 (Nat.le_of_ble_eq_true rfl) fun R0 F => ?_).pt
 replace h := Gets.of h
 have H := h
 clear h
 refine WP.seq <| rg 1 0 <| as0 rfl rfl <| .fin <| WP.seqr H id (fun p164 : Int × Bool => [(0, vS a0), (2, vB false), (3, vI p164.1), (9, vB p164.2)]) (fun p164 : Int × Bool => F) (fun p164 H => ?_) (fun H => ?_)
 ·
  refine WP.seq <| rg 9 0 <| mv0 rfl rfl <| Dv.lens rfl trivial rfl Try.underlying9 <| bn0 rfl rfl rfl run_gt <| mv0 rfl rfl ?_
  cases c165 : decide (0 < (a0.size : Int))
  ·
   replace H := Gets.cf H c165
   refine sk rfl rfl <| sk rfl rfl <| sk rfl rfl <| pf0 rfl rfl rfl <| as0 rfl rfl <| .fin ?_
   obtain rfl := Gets.out H
   exact rt i2 rfl () 0 [] 0 (.cons (res_tmp rfl) .nil)
  replace H := Gets.ct H c165
  refine mvg rfl rfl rfl <| Dv.lens rfl (gg rfl) rfl Try.underlying9 <| bng rfl rfl rfl rfl run_lt <| pt0 rfl rfl rfl <| as0 rfl rfl <| .fin ?_
  obtain rfl := Gets.out H
  exact rt i2 rfl () 0 [] 0 (.cons (res_tmp rfl) .nil)
 refine WP.seq <| rg 1 0 <| as0 rfl rfl <| .fin <| WP.block <| wg (sg 0 [] 0) fun _ _ => ?_
 refine lp (fun j_ (p189 : Int) => concourseref01_Server.l0 k a0 j_ p189) 0 H (fun p189 => [(0, vS a0), (2, vB false), (3, vI p189)]) (fun p189 => F) ?_
 rintro j_ x166 H
 rcases j_ with _ | j188
 ·
  exact (Gets.no H).elim
 replace H : Gets (concourseref01_Server.l0 k a0 (j188 + 1) x166) _ := H
 rw [concourseref01_Server.l0] at H
 refine WP.seq <| WP.seq <| rg 4 0 <| mv0 rfl rfl <| mv0 rfl rfl <| Dv.lens rfl trivial rfl Try.underlying9 <| bn0 rfl rfl rfl run_lt <| .fin <| cd H rfl (fun _ H => ?_) (fun _ H => ?_)
 rotate_left
 ·
  refine WP.exit ?_
  replace H := Gets.out H
  exact jn (x166, decide (x166 < (a0.size : Int))) H
 refine WP.skip <| WP.seq <| WP.block <| WP.seq <| rg 5 0 <| mv0 rfl rfl <| mv0 rfl rfl <| gr H fun g168 H => Dv.ixs rfl trivial rfl rfl Try.underlying9 g168.1 g168.2 <| el H fun t169 h170 H => cl rfl cal67 rfl (concourseref01_low.c h170) <| as0 rfl rfl <| .fin <| WP.seq <| rg 22 0 <| mv0 rfl rfl <| bn0 rfl rfl rfl run_gt <| mv0 rfl rfl ?_
 cases c171 : decide (0 < x166)
 ·
  replace H := Gets.cf H c171
  refine sk rfl rfl <| sk rfl rfl <| sk rfl rfl <| sk rfl rfl <| sk rfl rfl <| pf0 rfl rfl rfl <| mv0 rfl rfl <| sk rfl rfl <| sk rfl rfl <| sk rfl rfl <| sk rfl rfl <| sk rfl rfl <| sku rfl rfl <| sku rfl rfl <| sku rfl rfl <| sku rfl rfl <| sk rfl rfl <| pf0 rfl rfl rfl <| as0 rfl rfl <| .fin <| WP.seq <| rg 6 0 <| mv0 rfl rfl <| un0 rfl rfl (run_not _) <| mv0 rfl rfl ?_
  cases c185 : !t169
  ·
   replace H := Gets.cf H c185
   refine sk rfl rfl <| sk rfl rfl <| pf0 rfl rfl rfl <| .fin <| WP.cond rfl nofun (fun _ => ?_)
   exact WP.skip <| rg 3 0 <| mv0 rfl rfl <| bn0 rfl rfl rfl run_add <| as0 rfl rfl <| .fin <| bk j188 (w64 (x166 + 1)) H
  replace H := Gets.ct H c185
  refine mvg rfl rfl rfl <| ung rfl rfl rfl (run_not _) <| pt0 rfl rfl rfl <| .fin <| WP.cond rfl (fun _ => ?_) nofun
  refine WP.seq <| rg 1 0 <| as0 rfl rfl <| .fin ?_
  replace H := Gets.outr H
  obtain rfl := Gets.out H
  exact rt i2 rfl () 0 [] 0 (.cons (res_tmp rfl) .nil)
 replace H := Gets.ct H c171
 refine mvg rfl rfl rfl <| mvg rfl rfl rfl <| Dv.lens rfl (gg rfl) rfl Try.underlying9 <| bng rfl rfl rfl rfl run_sub <| bng rfl rfl rfl rfl run_lt <| pt0 rfl rfl rfl <| mv0 rfl rfl ?_
 cases c172 : decide (x166 < (w64 ((a0.size : Int) - 1)))
 ·
  replace H := Gets.cf H c172
  refine sk rfl rfl <| sk rfl rfl <| sk rfl rfl <| sk rfl rfl <| sk rfl rfl <| sku rfl rfl <| sku rfl rfl <| sku rfl rfl <| sku rfl rfl <| sk rfl rfl <| pf0 rfl rfl rfl <| as0 rfl rfl <| .fin <| WP.seq <| rg 6 0 <| mv0 rfl rfl <| un0 rfl rfl (run_not _) <| mv0 rfl rfl ?_
  cases c182 : !t169
  ·
   replace H := Gets.cf H c182
   refine sk rfl rfl <| sk rfl rfl <| pf0 rfl rfl rfl <| .fin <| WP.cond rfl nofun (fun _ => ?_)
   exact WP.skip <| rg 3 0 <| mv0 rfl rfl <| bn0 rfl rfl rfl run_add <| as0 rfl rfl <| .fin <| bk j188 (w64 (x166 + 1)) H
  replace H := Gets.ct H c182
  refine mvg rfl rfl rfl <| ung rfl rfl rfl (run_not _) <| pt0 rfl rfl rfl <| .fin <| WP.cond rfl (fun _ => ?_) nofun
  refine WP.seq <| rg 1 0 <| as0 rfl rfl <| .fin ?_
  replace H := Gets.outr H
  obtain rfl := Gets.out H
  exact rt i2 rfl () 0 [] 0 (.cons (res_tmp rfl) .nil)
 replace H := Gets.ct H c172
 refine mvg rfl rfl rfl <| mvg rfl rfl rfl <| gr H fun g173 H => Dv.ixs rfl (gg rfl) rfl rfl Try.underlying9 g173.1 g173.2 <| bng rfl rfl rfl rfl run_eq <| mvg rfl rfl rfl ?_
 cases c174 : ((bt a0 x166) == 46)
 rotate_left
 ·
  replace H := Gets.ct H c174
  refine sk rfl rfl <| sk rfl rfl <| sk rfl rfl <| sk rfl rfl <| ptg rfl rfl rfl rfl <| pt0 rfl rfl rfl <| as0 rfl rfl <| .fin <| WP.seq <| rg 6 0 <| mv0 rfl rfl <| un0 rfl rfl (run_not _) <| mv0 rfl rfl ?_
  cases c175 : !t169
  ·
   replace H := Gets.cf H c175
   refine sk rfl rfl <| sk rfl rfl <| pf0 rfl rfl rfl <| .fin <| WP.cond rfl nofun (fun _ => ?_)
   exact WP.skip <| rg 3 0 <| mv0 rfl rfl <| bn0 rfl rfl rfl run_add <| as0 rfl rfl <| .fin <| bk j188 (w64 (x166 + 1)) H
  replace H := Gets.ct H c175
  refine mvg rfl rfl rfl <| ung rfl rfl rfl (run_not _) <| pt0 rfl rfl rfl <| .fin <| WP.cond rfl nofun (fun _ => ?_)
  exact WP.skip <| rg 3 0 <| mv0 rfl rfl <| bn0 rfl rfl rfl run_add <| as0 rfl rfl <| .fin <| bk j188 (w64 (x166 + 1)) H
 replace H := Gets.cf H c174
 refine mvg rfl rfl rfl <| mvg rfl rfl rfl <| gr H fun g178 H => Dv.ixs rfl (gg rfl) rfl rfl Try.underlying9 g178.1 g178.2 <| bng rfl rfl rfl rfl run_eq <| pfg rfl rfl rfl rfl <| pt0 rfl rfl rfl <| as0 rfl rfl <| .fin <| WP.seq <| rg 6 0 <| mv0 rfl rfl <| un0 rfl rfl (run_not _) <| mv0 rfl rfl ?_
 cases c179 : !t169
 ·
  replace H := Gets.cf H c179
  refine sk rfl rfl <| sk rfl rfl <| pf0 rfl rfl rfl <| .fin <| WP.cond rfl nofun (fun _ => ?_)
  exact WP.skip <| rg 3 0 <| mv0 rfl rfl <| bn0 rfl rfl rfl run_add <| as0 rfl rfl <| .fin <| bk j188 (w64 (x166 + 1)) H
 replace H := Gets.ct H c179
 refine mvg rfl rfl rfl <| ung rfl rfl rfl (run_not _) <| pt0 rfl rfl rfl <| .fin <| cd H rfl (fun _ H => ?_) (fun _ H => ?_)
 rotate_left
 ·
  exact WP.skip <| rg 3 0 <| mv0 rfl rfl <| bn0 rfl rfl rfl run_add <| as0 rfl rfl <| .fin <| bk j188 (w64 (x166 + 1)) H
 refine WP.seq <| rg 1 0 <| as0 rfl rfl <| .fin ?_
 replace H := Gets.outr H
 obtain rfl := Gets.out H
 exact rt i2 rfl () 0 [] 0 (.cons (res_tmp rfl) .nil)
theorem concourseref01_Named.c {k : Nat} {a0 : ByteArray} {a1 : Int} {r : Bool} (h : concourseref01_Named.f k a0 a1 = some r) : Pt Try.prog 26 [vS a0, eq (.int .u8 a1)] (vB r) := by
 unfold concourseref01_Named.f at h
 refine (Tr.body Try.func26 (c := _) rfl Try.ntmps26 (Nat.le_of_ble_eq_true rfl) fun R0 F => ?_).pt
 replace h := Gets.of h
 have H := h
 clear h
 refine WP.seq <| rg 1 0 <| as0 rfl rfl <| .fin <| WP.seq <| rg 3 0 <| mv0 rfl rfl <| el H fun t190 h191 H => cl rfl cal27 rfl (concourseref01_colon.c h191) <| as0 rfl rfl <| .fin <| WP.seq <| WP.seq <| rg 8 0 <| mv0 rfl rfl <| bn0 rfl rfl rfl run_lt <| mv0 rfl rfl ?_
 cases c192 : decide (t190 < 1)
 rotate_left
 ·
  replace H := Gets.ct H c192
  refine sk rfl rfl <| sk rfl rfl <| sk rfl rfl <| sk rfl rfl <| pt0 rfl rfl rfl <| .fin <| WP.cond rfl (fun _ => ?_) nofun
  refine WP.seq <| rg 1 0 <| as0 rfl rfl <| .fin ?_
  obtain rfl := Gets.out H
  exact rt i2 rfl () 0 [] 0 (.cons (res_tmp rfl) .nil)
 replace H := Gets.cf H c192
 refine mvg rfl rfl rfl <| gr H fun g194 H => Dv.ixs rfl (gg rfl) rfl rfl Try.underlying9 g194.1 g194.2 <| mvg rfl rfl rfl <| bng rfl rfl rfl rfl run_ne <| pf0 rfl rfl rfl <| .fin <| cd H rfl (fun _ H => ?_) (fun _ H => ?_)
 ·
  refine WP.seq <| rg 1 0 <| as0 rfl rfl <| .fin ?_
  obtain rfl := Gets.out H
  exact rt i2 rfl () 0 [] 0 (.cons (res_tmp rfl) .nil)
 refine WP.skip <| WP.seq <| rg 5 0 <| mv0 rfl rfl <| mv0 rfl rfl <| gr H fun g196 H => Dv.sss rfl trivial rfl Try.underlying9 (bdE_some rfl g196.1) (bdE_some rfl g196.2.1) g196.2.2.1 g196.2.2.2 <| el H fun t197 h198 H => cl rfl cal49 rfl (concourseref01_Part.c h198) <| as0 rfl rfl <| .fin <| WP.seq <| rg 6 0 <| mv0 rfl rfl <| mv0 rfl rfl <| bn0 rfl rfl rfl run_add <| gr H fun g199 H => Dv.sss rfl trivial rfl Try.underlying9 (bdE_some rfl g199.1) bdE_none g199.2.1 g199.2.2 <| el H fun t200 h201 H => cl rfl cal50 rfl (concourseref01_Server.c h201) <| as0 rfl rfl <| .fin <| WP.seq <| rg 5 0 <| mv0 rfl rfl <| mv0 rfl rfl ?_
 cases c202 : t197
 ·
  replace H := Gets.cf H c202
  refine sk rfl rfl <| pf0 rfl rfl rfl <| as0 rfl rfl <| .fin ?_
  obtain rfl := Gets.out H
  exact rt i2 rfl () 0 [] 0 (.cons (res_tmp rfl) .nil)
 replace H := Gets.ct H c202
 refine mvg rfl rfl rfl <| pt0 rfl rfl rfl <| as0 rfl rfl <| .fin ?_
 obtain rfl := Gets.out H
 exact rt i2 rfl () 0 [] 0 (.cons (res_tmp rfl) .nil)
theorem concourseref01_Home.c {k : Nat} {a0 : ByteArray} {r : ByteArray} (h : concourseref01_Home.f k a0 = some r) : Pt Try.prog 15 [vS a0] (vS r) := by
 unfold concourseref01_Home.f at h
 refine (Tr.body Try.func15 (c := _) rfl Try.ntmps15 (Nat.le_of_ble_eq_true rfl) fun R0 F => ?_).pt
 replace h := Gets.of h
 have H := h
 clear h
 refine WP.seq <| rg 1 0 <| as0 rfl rfl <| .fin <| WP.seq <| rg 3 0 <| mv0 rfl rfl <| el H fun t203 h204 H => cl rfl cal26 rfl (concourseref01_Named.c h204) <| as0 rfl rfl <| .fin <| WP.seq <| rg 3 0 <| mv0 rfl rfl <| el H fun t205 h206 H => cl rfl cal26 rfl (concourseref01_Named.c h206) <| as0 rfl rfl <| .fin <| WP.seq <| WP.seq <| rg 6 0 <| mv0 rfl rfl <| un0 rfl rfl (run_not _) <| mv0 rfl rfl ?_
 cases c207 : !t203
 ·
  replace H := Gets.cf H c207
  refine sk rfl rfl <| sk rfl rfl <| pf0 rfl rfl rfl <| .fin <| WP.cond rfl nofun (fun _ => ?_)
  refine WP.skip <| WP.seq <| rg 6 0 <| mv0 rfl rfl <| mv0 rfl rfl <| el H fun t213 h214 H => cl rfl cal27 rfl (concourseref01_colon.c h214) <| bn0 rfl rfl rfl run_add <| gr H fun g215 H => Dv.sss rfl trivial rfl Try.underlying9 (bdE_some rfl g215.1) bdE_none g215.2.1 g215.2.2 <| as0 rfl rfl <| .fin ?_
  obtain rfl := Gets.out H
  exact rt i2 rfl () 0 [] 0 (.cons (res_tmp rfl) .nil)
 replace H := Gets.ct H c207
 refine mvg rfl rfl rfl <| ung rfl rfl rfl (run_not _) <| pt0 rfl rfl rfl <| .fin <| cd H rfl (fun _ H => ?_) (fun _ H => ?_)
 ·
  refine WP.seq <| rg 1 0 <| as0 rfl rfl <| .fin ?_
  obtain rfl := Gets.out H
  exact rt i2 rfl () 0 [] 0 (.cons (res_tmp rfl) .nil)
 refine WP.skip <| WP.seq <| rg 6 0 <| mv0 rfl rfl <| mv0 rfl rfl <| el H fun t209 h210 H => cl rfl cal27 rfl (concourseref01_colon.c h210) <| bn0 rfl rfl rfl run_add <| gr H fun g211 H => Dv.sss rfl trivial rfl Try.underlying9 (bdE_some rfl g211.1) bdE_none g211.2.1 g211.2.2 <| as0 rfl rfl <| .fin ?_
 obtain rfl := Gets.out H
 exact rt i2 rfl () 0 [] 0 (.cons (res_tmp rfl) .nil)
theorem concourseref09_Put.c {k : Nat} {a0 : List ByteArray} {a1 : ByteArray} {r : (List ByteArray)} (h : concourseref09_Put.f k a0 a1 = some r) : Tr Try.prog 16 [sl strK a0, vS a1] [] (γ := OV) (fun _ => True) (fun g => eq g.1) (fun g => [own strK g.1 r]) := by
 unfold concourseref09_Put.f at h
 refine Tr.body Try.func16 (c := _) rfl Try.ntmps16 (Nat.le_of_ble_eq_true rfl) fun R0 F => ?_
 replace h := Gets.of h
 have H := h
 clear h
 refine WP.seq <| rg 1 0 <| as0 rfl rfl <| .fin <| WP.seq <| rg 1 0 <| as0 rfl rfl <| .fin <| WP.seq <| rg 1 0 <| as0 rfl rfl <| .fin <| WP.seqn H (fun q242 : (Bool × Int × Bool × (List ByteArray)) × OV => q242.1) (fun q242 : (Bool × Int × Bool × (List ByteArray)) × OV => [(0, sl strK a0), (1, vS a1), (4, eq (.slice none 0 0)), (5, eq q242.2.1), (6, vB q242.1.1), (7, vI q242.1.2.1), (11, vB q242.1.2.2.1)]) (fun q242 : (Bool × Int × Bool × (List ByteArray)) × OV => [own strK q242.2.1 q242.1.2.2.2] ++ F) (fun q242 H => ?_) (fun H => ?_)
 ·
  obtain ⟨p216, v217⟩ := q242
  refine WP.seq <| WP.seq <| rg 2 0 <| mv0 rfl rfl <| un0 rfl rfl (run_not _) <| .fin <| cd H rfl (fun _ H => ?_) (fun _ H => ?_)
  rotate_left
  ·
   refine WP.skip <| WP.seq <| rg 2 0 <| mv0 rfl rfl <| as0 rfl rfl <| .fin ?_
   obtain rfl := Gets.out H
   exact rt i2 rfl v217 1 [0] 0 (.cons (res_tmp rfl) .nil)
  refine rg 5 8 <| mv0 rfl rfl <| mv0 rfl rfl <| Dv.lit strK ([a1] : List ByteArray) (css := [[vS a1]]) rfl trivial Try.underlying22 Try.underlying9 c9 z9 rfl (by decide) (by decide) rfl ⟨(cells_one (one_eq rfl)), trivial⟩ rfl rfl rfl <| gr H fun g219 H => ap strK 0 ([a1] : List ByteArray) src_sl Try.underlying22 (.inr ⟨_, Try.underlying22⟩) inf9 g219 nofun fun v220 => ?_
  refine as0 rfl rfl <| .fin <| WP.seq <| rg 2 0 <| mv0 rfl rfl <| as0 rfl rfl <| .fin ?_
  obtain rfl := Gets.out H
  exact rt i2 rfl v220 1 [0] 0 (.cons (res_tmp rfl) .nil)
 refine WP.seq <| rg 1 0 <| as0 rfl rfl <| .fin <| WP.block <| wg (st_nil strK none) fun _ _ => ?_
 refine wg (sg 1 [0] 0) fun _ _ => ?_
 refine lp (fun j_ (p241 : Bool × Int × (List ByteArray) × OV) => concourseref09_Put.l0 k a0 a1 j_ p241.1 p241.2.1 p241.2.2.1) (false, 0, ([] : List ByteArray), nilV) H (fun p241 => [(0, sl strK a0), (1, vS a1), (4, eq (.slice none 0 0)), (5, eq p241.2.2.2.1), (6, vB p241.1), (7, vI p241.2.1)]) (fun p241 => [own strK p241.2.2.2.1 p241.2.2.1] ++ F) ?_
 rintro j_ ⟨x221, x222, x223, v224⟩ H
 rcases j_ with _ | j240
 ·
  exact (Gets.no H).elim
 replace H : Gets (concourseref09_Put.l0 k a0 a1 (j240 + 1) x221 x222 x223) _ := H
 rw [concourseref09_Put.l0] at H
 refine WP.seq <| WP.seq <| rg 4 0 <| mv0 rfl rfl <| mv0 rfl rfl <| Dv.lenl rfl trivial rfl Try.underlying22 <| bn0 rfl rfl rfl run_lt <| .fin <| cd H rfl (fun _ H => ?_) (fun _ H => ?_)
 rotate_left
 ·
  refine WP.exit ?_
  replace H := Gets.out H
  exact jn ((x221, x222, decide (x222 < (a0.length : Int)), x223), v224) H
 refine WP.skip <| WP.seq <| WP.block <| WP.seqn H (fun q239 : (Bool × Bool × (List ByteArray)) × OV => q239.1) (fun q239 : (Bool × Bool × (List ByteArray)) × OV => [(0, sl strK a0), (1, vS a1), (4, eq (.slice none 0 0)), (5, eq q239.2.1), (6, vB q239.1.1), (7, vI x222), (11, vB (decide (x222 < (a0.length : Int)))), (23, vB q239.1.2.1)]) (fun q239 : (Bool × Bool × (List ByteArray)) × OV => [own strK q239.2.1 q239.1.2.2] ++ F) (fun q239 H => ?_) (fun H => ?_)
 ·
  obtain ⟨p226, v227⟩ := q239
  refine WP.seq <| rg 6 0 <| mv0 rfl rfl <| mv0 rfl rfl <| gr H fun g228 H => Dv.ixr rfl trivial rfl rfl Try.underlying22 Try.underlying9 c9 g228.1 g228.2 <| ldR rfl trivial rfl sc9 rfl <| mv0 rfl rfl <| bn0 rfl rfl rfl run_sne <| .fin <| cd H rfl (fun _ H => ?_) (fun _ H => ?_)
  rotate_left
  ·
   exact WP.skip <| rg 3 0 <| mv0 rfl rfl <| bn0 rfl rfl rfl run_add <| as0 rfl rfl <| .fin <| bk j240 (p226.1, w64 (x222 + 1), p226.2.2, v227) H
  refine rg 8 64 <| mv0 rfl rfl <| mv0 rfl rfl <| mv0 rfl rfl <| gr H fun g230 H => Dv.ixr rfl trivial rfl rfl Try.underlying22 Try.underlying9 c9 g230.1 g230.2 <| ldR rfl trivial rfl sc9 rfl <| Dv.lit strK ([strK.at a0 x222] : List ByteArray) (css := [[vS (strK.at a0 x222)]]) rfl trivial Try.underlying22 Try.underlying9 c9 z9 rfl (by decide) (by decide) rfl ⟨(cells_one (one_eq rfl)), trivial⟩ rfl rfl rfl <| gr H fun g231 H => ap strK 0 ([strK.at a0 x222] : List ByteArray) src_sl Try.underlying22 (.inr ⟨_, Try.underlying22⟩) inf9 g231 nofun fun v232 => ?_
  exact as0 rfl rfl <| .fin <| rg 3 0 <| mv0 rfl rfl <| bn0 rfl rfl rfl run_add <| as0 rfl rfl <| .fin <| bk j240 (p226.1, w64 (x222 + 1), p226.2.2 ++ ([strK.at a0 x222] : List ByteArray), v232) H
 refine WP.seq <| rg 10 0 <| mv0 rfl rfl <| un0 rfl rfl (run_not _) <| mv0 rfl rfl ?_
 cases c233 : !x221
 ·
  replace H := Gets.cf H c233
  refine sk rfl rfl <| sk rfl rfl <| sk rfl rfl <| sk rfl rfl <| sk rfl rfl <| sk rfl rfl <| pf0 rfl rfl rfl <| .fin <| WP.cond rfl nofun (fun _ => ?_)
  refine WP.skip ?_
  replace H := Gets.out H
  exact jn ((x221, false, x223), v224) H
 replace H := Gets.ct H c233
 refine mvg rfl rfl rfl <| mvg rfl rfl rfl <| mvg rfl rfl rfl <| gr H fun g234 H => Dv.ixr rfl (gg rfl) rfl rfl Try.underlying22 Try.underlying9 c9 g234.1 g234.2 <| ldR rfl (gg rfl) rfl sc9 rfl <| bng rfl rfl rfl rfl run_sle <| pt0 rfl rfl rfl <| .fin <| cd H rfl (fun _ H => ?_) (fun _ H => ?_)
 rotate_left
 ·
  refine WP.skip ?_
  replace H := Gets.out H
  exact jn ((x221, !sLt (strK.at a0 x222) a1, x223), v224) H
 refine WP.seq <| rg 5 8 <| mv0 rfl rfl <| mv0 rfl rfl <| Dv.lit strK ([a1] : List ByteArray) (css := [[vS a1]]) rfl trivial Try.underlying22 Try.underlying9 c9 z9 rfl (by decide) (by decide) rfl ⟨(cells_one (one_eq rfl)), trivial⟩ rfl rfl rfl <| gr H fun g236 H => ap strK 0 ([a1] : List ByteArray) src_sl Try.underlying22 (.inr ⟨_, Try.underlying22⟩) inf9 g236 nofun fun v237 => ?_
 refine as0 rfl rfl <| .fin <| rg 1 0 <| as0 rfl rfl <| .fin ?_
 replace H := Gets.out H
 exact jn ((true, !sLt (strK.at a0 x222) a1, x223 ++ ([a1] : List ByteArray)), v237) H
theorem concourseref09_Homes.c {k : Nat} {a0 : List ByteArray} {r : (List ByteArray)} (h : concourseref09_Homes.f k a0 = some r) : Tr Try.prog 8 [sl strK a0] [] (γ := OV) (fun _ => True) (fun g => eq g.1) (fun g => [own strK g.1 r]) := by
 unfold concourseref09_Homes.f at h
 refine Tr.body Try.func8 (c := _) rfl Try.ntmps8 (Nat.le_of_ble_eq_true rfl) fun R0 F => ?_
 replace h := Gets.of h
 have H := h
 clear h
 refine WP.seq <| rg 1 0 <| as0 rfl rfl <| .fin <| WP.seq <| rg 1 0 <| as0 rfl rfl <| .fin <| WP.seqn H (fun q258 : (Int × Bool × (List ByteArray)) × OV => q258.1) (fun q258 : (Int × Bool × (List ByteArray)) × OV => [(0, sl strK a0), (2, eq (.slice none 0 0)), (3, eq q258.2.1), (4, vI q258.1.1), (9, vB q258.1.2.1)]) (fun q258 : (Int × Bool × (List ByteArray)) × OV => [own strK q258.2.1 q258.1.2.2] ++ F) (fun q258 H => ?_) (fun H => ?_)
 ·
  obtain ⟨p243, v244⟩ := q258
  refine WP.seq <| rg 2 0 <| mv0 rfl rfl <| as0 rfl rfl <| .fin ?_
  obtain rfl := Gets.out H
  exact rt i2 rfl v244 1 [0] 0 (.cons (res_tmp rfl) .nil)
 refine WP.seq <| rg 1 0 <| as0 rfl rfl <| .fin <| WP.block <| wg (st_nil strK none) fun _ _ => ?_
 refine wg (sg 1 [0] 0) fun _ _ => ?_
 refine lp (fun j_ (p257 : Int × (List ByteArray) × OV) => concourseref09_Homes.l0 k a0 j_ p257.1 p257.2.1) (0, ([] : List ByteArray), nilV) H (fun p257 => [(0, sl strK a0), (2, eq (.slice none 0 0)), (3, eq p257.2.2.1), (4, vI p257.1)]) (fun p257 => [own strK p257.2.2.1 p257.2.1] ++ F) ?_
 rintro j_ ⟨x245, x246, v247⟩ H
 rcases j_ with _ | j256
 ·
  exact (Gets.no H).elim
 replace H : Gets (concourseref09_Homes.l0 k a0 (j256 + 1) x245 x246) _ := H
 rw [concourseref09_Homes.l0] at H
 refine WP.seq <| WP.seq <| rg 4 0 <| mv0 rfl rfl <| mv0 rfl rfl <| Dv.lenl rfl trivial rfl Try.underlying22 <| bn0 rfl rfl rfl run_lt <| .fin <| cd H rfl (fun _ H => ?_) (fun _ H => ?_)
 rotate_left
 ·
  refine WP.exit ?_
  replace H := Gets.out H
  exact jn ((x245, decide (x245 < (a0.length : Int)), x246), v247) H
 refine WP.skip <| WP.seq <| WP.block <| WP.seq <| rg 6 0 <| mv0 rfl rfl <| mv0 rfl rfl <| gr H fun g249 H => Dv.ixr rfl trivial rfl rfl Try.underlying22 Try.underlying9 c9 g249.1 g249.2 <| ldR rfl trivial rfl sc9 rfl <| el H fun t250 h251 H => cl rfl cal15 rfl (concourseref01_Home.c h251) <| as0 rfl rfl <| .fin <| WP.seq <| rg 2 0 <| mv0 rfl rfl <| bn0 rfl rfl rfl run_sne <| .fin <| cd H rfl (fun _ H => ?_) (fun _ H => ?_)
 rotate_left
 ·
  exact WP.skip <| rg 3 0 <| mv0 rfl rfl <| bn0 rfl rfl rfl run_add <| as0 rfl rfl <| .fin <| bk j256 (w64 (x245 + 1), x246, v247) H
 refine rg 4 4 <| mv0 rfl rfl <| mv0 rfl rfl <| el H fun t253 h254 H => cx 1 [0] cal16 (Tr.lend [own strK v247.1 x246] (concourseref09_Put.c h254) (.cons (lt_own (mem_at 0 rfl)) (.cons lt_id .nil)) (fun _ => flat_eq) (fun _ => (flatAs_cons (flatA_own flatK_str) flatAs_nil))) nofun fun g255 _ => ?_
 refine as0 rfl rfl <| .fin <| rg 3 0 <| mv0 rfl rfl <| bn0 rfl rfl rfl run_add <| as0 rfl rfl <| .fin <| ng (sg 2 [0,1] 1) fun _ _ => ?_
 exact bk j256 (w64 (x245 + 1), t253, g255) H
theorem dag_New.c {a0 : ByteArray} {r : DDag} (h : dag_New.f a0 = some r) : Tr Try.prog 17 [vS a0] [] (γ := OV) (fun _ => True) (fun g => eq g.1) (fun g => [DDag.O g r]) := by
 unfold dag_New.f at h
 refine Tr.body Try.func17 (c := _) rfl Try.ntmps17 (Nat.le_of_ble_eq_true rfl) fun R0 F => ?_
 replace h := Gets.of h
 have H := h
 clear h
 refine WP.seq <| rg 1 0 <| as0 rfl rfl <| .fin <| WP.seq <| rg 5 10 <| mv0 rfl rfl <| Dv.mmk Value.string (fun p : OV => eq p.1) rfl trivial nofun (fun v259 => ?_)
 refine vg (mpo_new DNode.O) fun _ _ => ?_
 refine Dv.bld (qs := [vS a0, eq v259.1]) (css := [[vS a0], [eq v259.1]]) rfl trivial Try.underlying51 pl51 z51 rfl ⟨(cells_one (one_eq rfl)), ⟨(cells_one one_ov), trivial⟩⟩ rfl rfl <| Dv.box rfl trivial rfl cA nofun fun b260 => as0 rfl rfl <| .fin <| wg (DDag.shut (p := (⟨.pointer (some ⟨b260, 0, none⟩), rfl⟩ : OV)) (m := (⟨a0, ([] : List (ByteArray × DNode))⟩ : DDag)) (b260, v259) rfl (pm 2 [0,1])) fun _ _ => ?_
 obtain rfl := Gets.out H
 exact rt i2 rfl (⟨.pointer (some ⟨b260, 0, none⟩), rfl⟩ : OV) 1 [0] 0 (.cons (res_tmp rfl) .nil)
theorem name_Event.c {k : Nat} {a0 : ByteArray} {r : Bool} (h : name_Event.f k a0 = some r) : Pt Try.prog 51 [vS a0] (vB r) := by
 unfold name_Event.f at h
 refine (Tr.body Try.func51 (c := _) rfl Try.ntmps51 (Nat.le_of_ble_eq_true rfl) fun R0 F => ?_).pt
 replace h := Gets.of h
 have H := h
 clear h
 refine WP.seq <| rg 1 0 <| as0 rfl rfl <| .fin <| WP.seq <| rg 7 0 <| mv0 rfl rfl <| el H fun t261 h262 H => cl rfl cal57 rfl (strings_CutPrefix.c h262) <| mv0 rfl rfl <| ex0 rfl trivial rfl rfl <| ex0 rfl trivial rfl rfl <| as0 rfl rfl <| as0 rfl rfl <| .fin <| WP.seq <| rg 6 0 <| mv0 rfl rfl <| mv0 rfl rfl ?_
 cases c263 : t261.2
 ·
  replace H := Gets.cf H c263
  refine sk rfl rfl <| sk rfl rfl <| pf0 rfl rfl rfl <| as0 rfl rfl <| .fin ?_
  obtain rfl := Gets.out H
  exact rt i2 rfl () 0 [] 0 (.cons (res_tmp rfl) .nil)
 replace H := Gets.ct H c263
 refine mvg rfl rfl rfl <| el H fun t264 h265 H => Dv.call rfl (gg rfl) cal58 rfl (name_may.c h265) <| pt0 rfl rfl rfl <| as0 rfl rfl <| .fin ?_
 obtain rfl := Gets.out H
 exact rt i2 rfl () 0 [] 0 (.cons (res_tmp rfl) .nil)
theorem dag_May.c {k : Nat} {a0 : Event} {r : Bool} (h : dag_May.f k a0 = some r) : Pt Try.prog 28 [agg (Event.enc a0)] (vB r) := by
 unfold dag_May.f at h
 refine (Tr.body Try.func28 (c := _) rfl Try.ntmps28 (Nat.le_of_ble_eq_true rfl) fun R0 F => ?_).pt
 replace h := Gets.of h
 have H := h
 clear h
 refine WP.seq <| rg 2 1 <| Dv.box rfl trivial rfl cA nofun fun b266 => as0 rfl rfl <| .fin <| WP.scope <| WP.seq <| WP.seq <| rg 32 0 <| fb rfl trivial rfl fa39_0 <| ld 0 rfl trivial rfl sc9 rfl rfl <| el H fun t267 h268 H => cl rfl cal51 rfl (name_Event.c h268) <| un0 rfl rfl (run_not _) <| mv0 rfl rfl ?_
 cases c269 : !t267
 rotate_left
 ·
  replace H := Gets.ct H c269
  refine sk rfl rfl <| sk rfl rfl <| sk rfl rfl <| sk rfl rfl <| pt0 rfl rfl rfl <| mv0 rfl rfl <| sk rfl rfl <| sk rfl rfl <| sk rfl rfl <| sk rfl rfl <| pt0 rfl rfl rfl <| mv0 rfl rfl <| sk rfl rfl <| sk rfl rfl <| sk rfl rfl <| sk rfl rfl <| pt0 rfl rfl rfl <| mv0 rfl rfl <| sk rfl rfl <| sk rfl rfl <| sk rfl rfl <| pt0 rfl rfl rfl <| mv0 rfl rfl <| sk rfl rfl <| sk rfl rfl <| sk rfl rfl <| pt0 rfl rfl rfl <| .fin <| WP.cond rfl (fun _ => ?_) nofun
  refine WP.seq <| rg 1 0 <| as0 rfl rfl <| .fin ?_
  obtain rfl := Gets.out H
  exact rt i2 rfl () 1 [0] 1 (.cons (res_tmp rfl) .nil)
 replace H := Gets.cf H c269
 refine fb rfl (gg rfl) rfl fa39_1 <| ld 0 rfl (gg rfl) rfl sc9 rfl rfl <| el H fun t271 h272 H => Dv.call rfl (gg rfl) cal22 rfl (name_Room.c h272) <| ung rfl rfl rfl (run_not _) <| pf0 rfl rfl rfl <| mv0 rfl rfl ?_
 cases c273 : !t271
 rotate_left
 ·
  replace H := Gets.ct H c273
  refine sk rfl rfl <| sk rfl rfl <| sk rfl rfl <| sk rfl rfl <| pt0 rfl rfl rfl <| mv0 rfl rfl <| sk rfl rfl <| sk rfl rfl <| sk rfl rfl <| sk rfl rfl <| pt0 rfl rfl rfl <| mv0 rfl rfl <| sk rfl rfl <| sk rfl rfl <| sk rfl rfl <| pt0 rfl rfl rfl <| mv0 rfl rfl <| sk rfl rfl <| sk rfl rfl <| sk rfl rfl <| pt0 rfl rfl rfl <| .fin <| WP.cond rfl (fun _ => ?_) nofun
  refine WP.seq <| rg 1 0 <| as0 rfl rfl <| .fin ?_
  obtain rfl := Gets.out H
  exact rt i2 rfl () 1 [0] 1 (.cons (res_tmp rfl) .nil)
 replace H := Gets.cf H c273
 refine fb rfl (gg rfl) rfl fa39_4 <| ld 0 rfl (gg rfl) rfl sc9 rfl rfl <| el H fun t275 h276 H => Dv.call rfl (gg rfl) cal21 rfl (name_User.c h276) <| ung rfl rfl rfl (run_not _) <| pf0 rfl rfl rfl <| mv0 rfl rfl ?_
 cases c277 : !t275
 rotate_left
 ·
  replace H := Gets.ct H c277
  refine sk rfl rfl <| sk rfl rfl <| sk rfl rfl <| sk rfl rfl <| pt0 rfl rfl rfl <| mv0 rfl rfl <| sk rfl rfl <| sk rfl rfl <| sk rfl rfl <| pt0 rfl rfl rfl <| mv0 rfl rfl <| sk rfl rfl <| sk rfl rfl <| sk rfl rfl <| pt0 rfl rfl rfl <| .fin <| WP.cond rfl (fun _ => ?_) nofun
  refine WP.seq <| rg 1 0 <| as0 rfl rfl <| .fin ?_
  obtain rfl := Gets.out H
  exact rt i2 rfl () 1 [0] 1 (.cons (res_tmp rfl) .nil)
 replace H := Gets.cf H c277
 refine fb rfl (gg rfl) rfl fa39_2 <| ld 0 rfl (gg rfl) rfl sc22 rfl rfl <| Dv.lenl rfl (gg rfl) rfl Try.underlying22 <| bng rfl rfl rfl rfl run_gt <| pf0 rfl rfl rfl <| mv0 rfl rfl ?_
 cases c279 : decide (4 < (a0.fParents.length : Int))
 rotate_left
 ·
  replace H := Gets.ct H c279
  refine sk rfl rfl <| sk rfl rfl <| sk rfl rfl <| pt0 rfl rfl rfl <| mv0 rfl rfl <| sk rfl rfl <| sk rfl rfl <| sk rfl rfl <| pt0 rfl rfl rfl <| .fin <| WP.cond rfl (fun _ => ?_) nofun
  refine WP.seq <| rg 1 0 <| as0 rfl rfl <| .fin ?_
  obtain rfl := Gets.out H
  exact rt i2 rfl () 1 [0] 1 (.cons (res_tmp rfl) .nil)
 replace H := Gets.cf H c279
 refine fb rfl (gg rfl) rfl fa39_5 <| ld 0 rfl (gg rfl) rfl sc3 rfl rfl <| bng rfl rfl rfl rfl run_lt <| pf0 rfl rfl rfl <| mv0 rfl rfl ?_
 cases c281 : decide (a0.fDoes < 0)
 rotate_left
 ·
  replace H := Gets.ct H c281
  refine sk rfl rfl <| sk rfl rfl <| sk rfl rfl <| pt0 rfl rfl rfl <| .fin <| WP.cond rfl (fun _ => ?_) nofun
  refine WP.seq <| rg 1 0 <| as0 rfl rfl <| .fin ?_
  obtain rfl := Gets.out H
  exact rt i2 rfl () 1 [0] 1 (.cons (res_tmp rfl) .nil)
 replace H := Gets.cf H c281
 refine fb rfl (gg rfl) rfl fa39_5 <| ld 0 rfl (gg rfl) rfl sc3 rfl rfl <| bng rfl rfl rfl rfl run_gt <| pf0 rfl rfl rfl <| .fin <| cd H rfl (fun _ H => ?_) (fun _ H => ?_)
 ·
  refine WP.seq <| rg 1 0 <| as0 rfl rfl <| .fin ?_
  obtain rfl := Gets.out H
  exact rt i2 rfl () 1 [0] 1 (.cons (res_tmp rfl) .nil)
 refine WP.skip <| WP.seq <| WP.seq <| rg 21 0 <| fb rfl trivial rfl fa39_3 <| ld 0 rfl trivial rfl sc9 rfl rfl <| bn0 rfl rfl rfl run_sne <| mv0 rfl rfl ?_
 cases c284 : !decide (a0.fThread = (⟨#[]⟩ : ByteArray))
 ·
  replace H := Gets.cf H c284
  refine sk rfl rfl <| sk rfl rfl <| sk rfl rfl <| sk rfl rfl <| sk rfl rfl <| sku rfl rfl <| sku rfl rfl <| sku rfl rfl <| sku rfl rfl <| sku rfl rfl <| sk rfl rfl <| sk rfl rfl <| sku rfl rfl <| sku rfl rfl <| sku rfl rfl <| sk rfl rfl <| pf0 rfl rfl rfl <| .fin <| WP.cond rfl nofun (fun _ => ?_)
  refine WP.skip <| WP.seq <| rg 1 0 <| as0 rfl rfl <| .fin <| WP.seq <| WP.label <| WP.seqn H id (fun p309 : Bool × Int × Bool => [(0, agg (Event.enc a0)), (1, eq (.pointer (some ⟨b266, 0, none⟩))), (2, vB false), (3, vB p309.1), (37, vB (decide (2 < a0.fDoes))), (58, vB false), (60, sl strK a0.fParents), (61, vI (a0.fParents.length : Int)), (62, vI p309.2.1), (63, vB p309.2.2)]) (fun p309 : Bool × Int × Bool => [blk b266 39 (Event.enc a0)] ++ F) (fun p309 H => ?_) (fun H => ?_)
  ·
   refine WP.seq <| rg 2 0 <| mv0 rfl rfl <| as0 rfl rfl <| .fin ?_
   obtain rfl := Gets.out H
   exact rt i2 rfl () 1 [0] 1 (.cons (res_tmp rfl) .nil)
  refine WP.seq <| rg 4 0 <| fb rfl trivial rfl fa39_2 <| ld 0 rfl trivial rfl sc22 rfl rfl <| Dv.lenl rfl trivial rfl Try.underlying22 <| mv0 rfl rfl <| .fin <| WP.block <| wg (sg 1 [0] 0) fun _ _ => ?_
  refine lp (fun j_ (p324 : Int) => dag_May.l1 k a0 j_ p324) 0 H (fun p324 => [(0, agg (Event.enc a0)), (1, eq (.pointer (some ⟨b266, 0, none⟩))), (2, vB false), (3, vB true), (37, vB (decide (2 < a0.fDoes))), (58, vB false), (60, sl strK a0.fParents), (61, vI (a0.fParents.length : Int)), (62, vI p324)]) (fun p324 => [blk b266 39 (Event.enc a0)] ++ F) ?_
  rintro j_ x310 H
  rcases j_ with _ | j323
  ·
   exact (Gets.no H).elim
  replace H : Gets (dag_May.l1 k a0 (j323 + 1) x310) _ := H
  rw [dag_May.l1] at H
  refine WP.seq <| rg 1 0 <| bn0 rfl rfl rfl run_lt <| .fin <| WP.seq <| cd H rfl (fun _ H => ?_) (fun _ H => ?_)
  rotate_left
  ·
   refine WP.exit ?_
   replace H := Gets.out H
   exact jn (true, x310, decide (x310 < (a0.fParents.length : Int))) H
  refine WP.skip <| WP.seq <| WP.block <| WP.seq <| rg 5 0 <| mv0 rfl rfl <| gr H fun g312 H => Dv.ixr rfl trivial rfl rfl Try.underlying22 Try.underlying9 c9 g312.1 g312.2 <| ldR rfl trivial rfl sc9 rfl <| as0 rfl rfl <| as0 rfl rfl <| .fin <| WP.seq <| rg 23 0 <| mv0 rfl rfl <| el H fun t313 h314 H => cl rfl cal51 rfl (name_Event.c h314) <| un0 rfl rfl (run_not _) <| mv0 rfl rfl ?_
  cases c315 : !t313
  rotate_left
  ·
   replace H := Gets.ct H c315
   refine sk rfl rfl <| sk rfl rfl <| sk rfl rfl <| sk rfl rfl <| pt0 rfl rfl rfl <| mv0 rfl rfl <| sk rfl rfl <| sk rfl rfl <| sk rfl rfl <| sku rfl rfl <| sku rfl rfl <| sku rfl rfl <| sku rfl rfl <| sku rfl rfl <| sku rfl rfl <| sku rfl rfl <| sku rfl rfl <| sk rfl rfl <| pt0 rfl rfl rfl <| .fin <| WP.cond rfl (fun _ => ?_) nofun
   refine WP.seq <| rg 1 0 <| as0 rfl rfl <| .fin <| WP.exit ?_
   replace H := Gets.out H
   exact jn (false, x310, decide (x310 < (a0.fParents.length : Int))) H
  replace H := Gets.cf H c315
  refine mvg rfl rfl rfl <| fb rfl (gg rfl) rfl fa39_0 <| ld 0 rfl (gg rfl) rfl sc9 rfl rfl <| bng rfl rfl rfl rfl run_seq <| pf0 rfl rfl rfl <| mv0 rfl rfl ?_
  cases c317 : decide ((strK.at a0.fParents x310) = a0.fID)
  rotate_left
  ·
   replace H := Gets.ct H c317
   refine sk rfl rfl <| sk rfl rfl <| sk rfl rfl <| sku rfl rfl <| sku rfl rfl <| sku rfl rfl <| sku rfl rfl <| sku rfl rfl <| sku rfl rfl <| sku rfl rfl <| sku rfl rfl <| sk rfl rfl <| pt0 rfl rfl rfl <| .fin <| WP.cond rfl (fun _ => ?_) nofun
   refine WP.seq <| rg 1 0 <| as0 rfl rfl <| .fin <| WP.exit ?_
   replace H := Gets.out H
   exact jn (false, x310, decide (x310 < (a0.fParents.length : Int))) H
  replace H := Gets.cf H c317
  refine mvg rfl rfl rfl <| bng rfl rfl rfl rfl run_gt <| mvg rfl rfl rfl ?_
  cases c319 : decide (0 < x310)
  ·
   replace H := Gets.cf H c319
   refine sk rfl rfl <| sk rfl rfl <| sk rfl rfl <| sk rfl rfl <| sk rfl rfl <| sk rfl rfl <| sk rfl rfl <| sk rfl rfl <| pfg rfl rfl rfl rfl <| pf0 rfl rfl rfl <| .fin <| WP.cond rfl nofun (fun _ => ?_)
   exact WP.skip <| rg 2 0 <| bn0 rfl rfl rfl run_add <| mv0 rfl rfl <| .fin <| bk j323 (w64 (x310 + 1)) H
  replace H := Gets.ct H c319
  refine mvg rfl rfl rfl <| fb rfl (gg rfl) rfl fa39_2 <| ld 0 rfl (gg rfl) rfl sc22 rfl rfl <| mvg rfl rfl rfl <| bng rfl rfl rfl rfl run_sub <| gr H fun g320 H => Dv.ixr rfl (gg rfl) rfl rfl Try.underlying22 Try.underlying9 c9 g320.1 g320.2 <| ldR rfl (gg rfl) rfl sc9 rfl <| bng rfl rfl rfl rfl run_sle <| ptg rfl rfl rfl rfl <| pf0 rfl rfl rfl <| .fin <| cd H rfl (fun _ H => ?_) (fun _ H => ?_)
  rotate_left
  ·
   exact WP.skip <| rg 2 0 <| bn0 rfl rfl rfl run_add <| mv0 rfl rfl <| .fin <| bk j323 (w64 (x310 + 1)) H
  refine WP.seq <| rg 1 0 <| as0 rfl rfl <| .fin <| WP.exit ?_
  replace H := Gets.out H
  exact jn (false, x310, decide (x310 < (a0.fParents.length : Int))) H
 replace H := Gets.ct H c284
 refine fb rfl (gg rfl) rfl fa39_3 <| ld 0 rfl (gg rfl) rfl sc9 rfl rfl <| el H fun t285 h286 H => Dv.call rfl (gg rfl) cal51 rfl (name_Event.c h286) <| ung rfl rfl rfl (run_not _) <| mvg rfl rfl rfl ?_
 cases c287 : !t285
 rotate_left
 ·
  replace H := Gets.ct H c287
  refine sk rfl rfl <| sk rfl rfl <| sk rfl rfl <| sk rfl rfl <| sk rfl rfl <| ptg rfl rfl rfl rfl <| mvg rfl rfl rfl <| sk rfl rfl <| sk rfl rfl <| sk rfl rfl <| ptg rfl rfl rfl rfl <| pt0 rfl rfl rfl <| .fin <| WP.cond rfl (fun _ => ?_) nofun
  refine WP.seq <| rg 1 0 <| as0 rfl rfl <| .fin ?_
  obtain rfl := Gets.out H
  exact rt i2 rfl () 1 [0] 1 (.cons (res_tmp rfl) .nil)
 replace H := Gets.cf H c287
 refine fb rfl (gg rfl) rfl fa39_3 <| ld 0 rfl (gg rfl) rfl sc9 rfl rfl <| fb rfl (gg rfl) rfl fa39_0 <| ld 0 rfl (gg rfl) rfl sc9 rfl rfl <| bng rfl rfl rfl rfl run_seq <| pfg rfl rfl rfl rfl <| mvg rfl rfl rfl ?_
 cases c289 : decide (a0.fThread = a0.fID)
 rotate_left
 ·
  replace H := Gets.ct H c289
  refine sk rfl rfl <| sk rfl rfl <| sk rfl rfl <| ptg rfl rfl rfl rfl <| pt0 rfl rfl rfl <| .fin <| WP.cond rfl (fun _ => ?_) nofun
  refine WP.seq <| rg 1 0 <| as0 rfl rfl <| .fin ?_
  obtain rfl := Gets.out H
  exact rt i2 rfl () 1 [0] 1 (.cons (res_tmp rfl) .nil)
 replace H := Gets.cf H c289
 refine fb rfl (gg rfl) rfl fa39_5 <| ld 0 rfl (gg rfl) rfl sc3 rfl rfl <| bng rfl rfl rfl rfl run_ne <| pfg rfl rfl rfl rfl <| pt0 rfl rfl rfl <| .fin <| cd H rfl (fun _ H => ?_) (fun _ H => ?_)
 ·
  refine WP.seq <| rg 1 0 <| as0 rfl rfl <| .fin ?_
  obtain rfl := Gets.out H
  exact rt i2 rfl () 1 [0] 1 (.cons (res_tmp rfl) .nil)
 refine WP.skip <| WP.seq <| rg 1 0 <| as0 rfl rfl <| .fin <| WP.seq <| WP.label <| WP.seqn H id (fun p292 : Bool × Int × Bool => [(0, agg (Event.enc a0)), (1, eq (.pointer (some ⟨b266, 0, none⟩))), (2, vB false), (3, vB p292.1), (37, vB (decide (2 < a0.fDoes))), (58, vB (a0.fDoes != 0)), (60, sl strK a0.fParents), (61, vI (a0.fParents.length : Int)), (62, vI p292.2.1), (63, vB p292.2.2)]) (fun p292 : Bool × Int × Bool => [blk b266 39 (Event.enc a0)] ++ F) (fun p292 H => ?_) (fun H => ?_)
 ·
  refine WP.seq <| rg 2 0 <| mv0 rfl rfl <| as0 rfl rfl <| .fin ?_
  obtain rfl := Gets.out H
  exact rt i2 rfl () 1 [0] 1 (.cons (res_tmp rfl) .nil)
 refine WP.seq <| rg 4 0 <| fb rfl trivial rfl fa39_2 <| ld 0 rfl trivial rfl sc22 rfl rfl <| Dv.lenl rfl trivial rfl Try.underlying22 <| mv0 rfl rfl <| .fin <| WP.block <| wg (sg 1 [0] 0) fun _ _ => ?_
 refine lp (fun j_ (p307 : Int) => dag_May.l0 k a0 j_ p307) 0 H (fun p307 => [(0, agg (Event.enc a0)), (1, eq (.pointer (some ⟨b266, 0, none⟩))), (2, vB false), (3, vB true), (37, vB (decide (2 < a0.fDoes))), (58, vB (a0.fDoes != 0)), (60, sl strK a0.fParents), (61, vI (a0.fParents.length : Int)), (62, vI p307)]) (fun p307 => [blk b266 39 (Event.enc a0)] ++ F) ?_
 rintro j_ x293 H
 rcases j_ with _ | j306
 ·
  exact (Gets.no H).elim
 replace H : Gets (dag_May.l0 k a0 (j306 + 1) x293) _ := H
 rw [dag_May.l0] at H
 refine WP.seq <| rg 1 0 <| bn0 rfl rfl rfl run_lt <| .fin <| WP.seq <| cd H rfl (fun _ H => ?_) (fun _ H => ?_)
 rotate_left
 ·
  refine WP.exit ?_
  replace H := Gets.out H
  exact jn (true, x293, decide (x293 < (a0.fParents.length : Int))) H
 refine WP.skip <| WP.seq <| WP.block <| WP.seq <| rg 5 0 <| mv0 rfl rfl <| gr H fun g295 H => Dv.ixr rfl trivial rfl rfl Try.underlying22 Try.underlying9 c9 g295.1 g295.2 <| ldR rfl trivial rfl sc9 rfl <| as0 rfl rfl <| as0 rfl rfl <| .fin <| WP.seq <| rg 23 0 <| mv0 rfl rfl <| el H fun t296 h297 H => cl rfl cal51 rfl (name_Event.c h297) <| un0 rfl rfl (run_not _) <| mv0 rfl rfl ?_
 cases c298 : !t296
 rotate_left
 ·
  replace H := Gets.ct H c298
  refine sk rfl rfl <| sk rfl rfl <| sk rfl rfl <| sk rfl rfl <| pt0 rfl rfl rfl <| mv0 rfl rfl <| sk rfl rfl <| sk rfl rfl <| sk rfl rfl <| sku rfl rfl <| sku rfl rfl <| sku rfl rfl <| sku rfl rfl <| sku rfl rfl <| sku rfl rfl <| sku rfl rfl <| sku rfl rfl <| sk rfl rfl <| pt0 rfl rfl rfl <| .fin <| WP.cond rfl (fun _ => ?_) nofun
  refine WP.seq <| rg 1 0 <| as0 rfl rfl <| .fin <| WP.exit ?_
  replace H := Gets.out H
  exact jn (false, x293, decide (x293 < (a0.fParents.length : Int))) H
 replace H := Gets.cf H c298
 refine mvg rfl rfl rfl <| fb rfl (gg rfl) rfl fa39_0 <| ld 0 rfl (gg rfl) rfl sc9 rfl rfl <| bng rfl rfl rfl rfl run_seq <| pf0 rfl rfl rfl <| mv0 rfl rfl ?_
 cases c300 : decide ((strK.at a0.fParents x293) = a0.fID)
 rotate_left
 ·
  replace H := Gets.ct H c300
  refine sk rfl rfl <| sk rfl rfl <| sk rfl rfl <| sku rfl rfl <| sku rfl rfl <| sku rfl rfl <| sku rfl rfl <| sku rfl rfl <| sku rfl rfl <| sku rfl rfl <| sku rfl rfl <| sk rfl rfl <| pt0 rfl rfl rfl <| .fin <| WP.cond rfl (fun _ => ?_) nofun
  refine WP.seq <| rg 1 0 <| as0 rfl rfl <| .fin <| WP.exit ?_
  replace H := Gets.out H
  exact jn (false, x293, decide (x293 < (a0.fParents.length : Int))) H
 replace H := Gets.cf H c300
 refine mvg rfl rfl rfl <| bng rfl rfl rfl rfl run_gt <| mvg rfl rfl rfl ?_
 cases c302 : decide (0 < x293)
 ·
  replace H := Gets.cf H c302
  refine sk rfl rfl <| sk rfl rfl <| sk rfl rfl <| sk rfl rfl <| sk rfl rfl <| sk rfl rfl <| sk rfl rfl <| sk rfl rfl <| pfg rfl rfl rfl rfl <| pf0 rfl rfl rfl <| .fin <| WP.cond rfl nofun (fun _ => ?_)
  exact WP.skip <| rg 2 0 <| bn0 rfl rfl rfl run_add <| mv0 rfl rfl <| .fin <| bk j306 (w64 (x293 + 1)) H
 replace H := Gets.ct H c302
 refine mvg rfl rfl rfl <| fb rfl (gg rfl) rfl fa39_2 <| ld 0 rfl (gg rfl) rfl sc22 rfl rfl <| mvg rfl rfl rfl <| bng rfl rfl rfl rfl run_sub <| gr H fun g303 H => Dv.ixr rfl (gg rfl) rfl rfl Try.underlying22 Try.underlying9 c9 g303.1 g303.2 <| ldR rfl (gg rfl) rfl sc9 rfl <| bng rfl rfl rfl rfl run_sle <| ptg rfl rfl rfl rfl <| pf0 rfl rfl rfl <| .fin <| cd H rfl (fun _ H => ?_) (fun _ H => ?_)
 rotate_left
 ·
  exact WP.skip <| rg 2 0 <| bn0 rfl rfl rfl run_add <| mv0 rfl rfl <| .fin <| bk j306 (w64 (x293 + 1)) H
 refine WP.seq <| rg 1 0 <| as0 rfl rfl <| .fin <| WP.exit ?_
 replace H := Gets.out H
 exact jn (false, x293, decide (x293 < (a0.fParents.length : Int))) H
theorem dag_Dag_Has.c {a0 : DDag} {a1 : ByteArray} {v0_0 : OV} {b0_ : Nat} {r : Bool} (h : dag_Dag_Has.f a0 a1 = some r) : Tr Try.prog 29 [eq (.pointer (some ⟨b0_, 0, none⟩)), vS a1] [blk b0_ 51 [vS a0.froom, eq v0_0.1], mpo Value.string DNode.O v0_0.1 a0.fnodes] (γ := Unit) (fun _ => True) (fun g => vB r) (fun g => [blk b0_ 51 [vS a0.froom, eq v0_0.1], mpo Value.string DNode.O v0_0.1 a0.fnodes]) := by
 unfold dag_Dag_Has.f at h
 refine Tr.body Try.func29 (c := _) rfl Try.ntmps29 (Nat.le_of_ble_eq_true rfl) fun R0 F => ?_
 replace h := Gets.of h
 have H := h
 clear h
 refine WP.seq <| rg 1 0 <| as0 rfl rfl <| .fin <| WP.seq <| rg 8 0 <| mv0 rfl rfl <| Dv.nilp rfl trivial rfl <| fb rfl trivial rfl fa51_1 <| ld 0 rfl trivial rfl sc49 rfl rfl <| mv0 rfl rfl <| vg (mpo_opn 1 rfl) fun z325 h326 => ?_
 refine Dv.mlv nilP rfl trivial rfl (mem_at 0 rfl) rfl Try.underlying49 (keyOk_str Try.underlying9) z54 (fun _ => rfl) <| Dv.pm1 (pm_nil h326 rfl) rfl trivial rfl rfl Try.underlying54 <| as0 rfl rfl <| .fin <| wg (mpo_shut h326 rfl (pm 3 [0,1,2])) fun _ _ => ?_
 obtain rfl := Gets.out H
 exact rt i2 rfl () 2 [1,0] 0 (.cons (res_tmp rfl) .nil)
theorem slices_IndexFunc_string_x.c {k : Nat} {a0 : List ByteArray} {a1 : (ByteArray → Option Bool)} {X1_ : As} {r : Int} (h : slices_IndexFunc_string_x.f k a0 a1 = some r) : Tr Try.prog 52 [sl strK a0, fx_string_bool X1_ a1] [X1_] (γ := Unit) (fun _ => True) (fun g => vI r) (fun g => [X1_]) := by
 unfold slices_IndexFunc_string_x.f at h
 refine Tr.body Try.func52 (c := _) rfl Try.ntmps52 (Nat.le_of_ble_eq_true rfl) fun R0 F => ?_
 replace h := Gets.of h
 have H := h
 clear h
 refine WP.seq <| rg 1 0 <| as0 rfl rfl <| .fin <| WP.seqr H id (fun p327 : Int × Bool => [(0, sl strK a0), (1, fx_string_bool X1_ a1), (4, vI 0), (7, vI (a0.length : Int)), (8, vI p327.1), (9, vB p327.2)]) (fun p327 : Int × Bool => [X1_] ++ F) (fun p327 H => ?_) (fun H => ?_)
 ·
  refine WP.seq <| rg 1 0 <| as0 rfl rfl <| .fin ?_
  obtain rfl := Gets.out H
  exact rt i2 rfl () 1 [0] 0 (.cons (res_tmp rfl) .nil)
 refine WP.seq <| rg 3 0 <| mv0 rfl rfl <| Dv.lenl rfl trivial rfl Try.underlying22 <| mv0 rfl rfl <| .fin <| WP.block <| wg (sg 1 [0] 0) fun _ _ => ?_
 refine lp (fun j_ (p335 : Int) => slices_IndexFunc_string_x.l0 k a0 a1 j_ p335) 0 H (fun p335 => [(0, sl strK a0), (1, fx_string_bool X1_ a1), (4, vI 0), (7, vI (a0.length : Int)), (8, vI p335)]) (fun p335 => [X1_] ++ F) ?_
 rintro j_ x328 H
 rcases j_ with _ | j334
 ·
  exact (Gets.no H).elim
 replace H : Gets (slices_IndexFunc_string_x.l0 k a0 a1 (j334 + 1) x328) _ := H
 rw [slices_IndexFunc_string_x.l0] at H
 refine WP.seq <| rg 1 0 <| bn0 rfl rfl rfl run_lt <| .fin <| WP.seq <| cd H rfl (fun _ H => ?_) (fun _ H => ?_)
 rotate_left
 ·
  refine WP.exit ?_
  replace H := Gets.out H
  exact jn (x328, decide (x328 < (a0.length : Int))) H
 refine WP.skip <| WP.seq <| WP.block <| WP.seq <| rg 2 0 <| mv0 rfl rfl <| as0 rfl rfl <| .fin <| WP.seq <| rg 6 0 <| mv0 rfl rfl <| mv0 rfl rfl <| mv0 rfl rfl <| gr H fun g330 H => Dv.ixr rfl trivial rfl rfl Try.underlying22 Try.underlying9 c9 g330.1 g330.2 <| ldR rfl trivial rfl sc9 rfl <| el H fun t331 h332 H => Dv.callfx (ret := vB t331) (X := X1_) (F := F) rfl trivial rfl rfl ⟨_, _, h332, rfl, rfl⟩ (perm_to (L := [X1_]) (F := F) [0] rfl rfl rfl) <| .fin <| cd H rfl (fun _ H => ?_) (fun _ H => ?_)
 rotate_left
 ·
  exact WP.skip <| rg 2 0 <| bn0 rfl rfl rfl run_add <| mv0 rfl rfl <| .fin <| bk j334 (w64 (x328 + 1)) H
 refine WP.seq <| rg 2 0 <| mv0 rfl rfl <| as0 rfl rfl <| .fin ?_
 replace H := Gets.outr H
 obtain rfl := Gets.out H
 exact rt i2 rfl () 1 [0] 0 (.cons (res_tmp rfl) .nil)
theorem slices_ContainsFunc_string_x.c {k : Nat} {a0 : List ByteArray} {a1 : (ByteArray → Option Bool)} {X1_ : As} {r : Bool} (h : slices_ContainsFunc_string_x.f k a0 a1 = some r) : Tr Try.prog 30 [sl strK a0, fx_string_bool X1_ a1] [X1_] (γ := Unit) (fun _ => True) (fun g => vB r) (fun g => [X1_]) := by
 unfold slices_ContainsFunc_string_x.f at h
 refine Tr.body Try.func30 (c := _) rfl Try.ntmps30 (Nat.le_of_ble_eq_true rfl) fun R0 F => ?_
 replace h := Gets.of h
 have H := h
 clear h
 refine WP.seq <| rg 1 0 <| as0 rfl rfl <| .fin <| WP.seq <| rg 5 0 <| mv0 rfl rfl <| mv0 rfl rfl <| el H fun t336 h337 H => cll 1 [0] cal52 (slices_IndexFunc_string_x.c h337 (X1_ := X1_)) ?_
 refine bn0 rfl rfl rfl run_ge <| as0 rfl rfl <| .fin ?_
 obtain rfl := Gets.out H
 exact rt i2 rfl () 1 [0] 0 (.cons (res_tmp rfl) .nil)
theorem dag_Dag_Add_1.c {a0 : ByteArray} {cb0_ cd0_ : Nat} {cq0_ cv0_0 : OV} {ch0_ : cq0_.1 = .pointer (some ⟨cd0_, 0, none⟩)} {c0 : DDag} {r : Bool} (h : dag_Dag_Add_1.f a0 c0 = some r) : Tr Try.prog 31 [vS a0, eq (.pointer (some ⟨cb0_, 0, none⟩))] [blk cb0_ 34 [eq cq0_.1], blk cd0_ 51 [vS c0.froom, eq cv0_0.1], mpo Value.string DNode.O cv0_0.1 c0.fnodes] (γ := Unit) (fun _ => True) (fun g => vB r) (fun g => [blk cb0_ 34 [eq cq0_.1], blk cd0_ 51 [vS c0.froom, eq cv0_0.1], mpo Value.string DNode.O cv0_0.1 c0.fnodes]) := by
 unfold dag_Dag_Add_1.f at h
 refine Tr.body Try.func31 (c := _) rfl Try.ntmps31 (Nat.le_of_ble_eq_true rfl) fun R0 F => ?_
 replace h := Gets.of h
 have H := h
 clear h
 refine WP.seq <| rg 1 0 <| as0 rfl rfl <| .fin <| WP.seq <| rg 5 0 <| ld 0 rfl trivial rfl sc34 rfl rfl <| mv0 rfl rfl <| el H fun t338 h339 H => cll 3 [1,2,0] cal29 (Tr.weak (dag_Dag_Has.c h339 (b0_ := cd0_) (v0_0 := cv0_0)) (.cons (wk_ptr ch0_) (.cons wk_id .nil))) ?_
 refine un0 rfl rfl (run_not _) <| as0 rfl rfl <| .fin ?_
 obtain rfl := Gets.out H
 exact rt i2 rfl () 3 [0,1,2] 0 (.cons (res_tmp rfl) .nil)
theorem slices_Clone_string.c {a0 : List ByteArray} {r : List ByteArray} (h : slices_Clone_string.f a0 = some r) : Tr Try.prog 53 [sl strK a0] [] (γ := OV) (fun _ => True) (fun g => eq g.1) (fun g => [own strK g.1 r]) := by
 unfold slices_Clone_string.f at h
 obtain ⟨h0, h5⟩ := (Gets.of h).grd
 obtain rfl := Gets.out h5
 clear h h5
 refine (Tr.body Try.func53 (c := _) rfl Try.ntmps53 (Nat.le_of_ble_eq_true rfl) fun R0 F => ?_)
 refine WP.seq <| WP.reg [(0, false)] (by kernel_rfl) <| as0 rfl rfl <| .fin <| WP.seq <| WP.seq <| WP.reg [(0, false), (1, true)] (by kernel_rfl) <| mv0 rfl rfl <| Dv.snil rfl trivial rfl rfl Try.underlying22 nofun (fun b hb => ?_)
 refine .fin <| WP.cond rfl (fun c0 => ?_) (fun c0 => ?_)
 ·
  obtain rfl := hb c0
  refine WP.seq <| WP.reg [(0, false)] (by kernel_rfl) <| as0 rfl rfl <| .fin <| wg (st_nil strK none) fun _ _ => ?_
  exact rt i2 rfl nilV 1 [0] 0 (.cons (res_tmp rfl) .nil)
 refine WP.skip <| WP.seq <| WP.reg [(0, true), (1, false), (2, true), (3, false)] (by kernel_rfl) <| Dv.lit0 strK rfl trivial Try.underlying22 Try.underlying9 c9 z9 nofun (fun v1 => ?_)
 refine mv0 rfl rfl <| Dv.appx (Kd := strK) (xs := []) (v := v1.1) (jj := 0) (ys := a0) (fun v2 : OV => [own strK v2.1 a0] ++ F) rfl trivial rfl rfl rfl src_sl Try.underlying22 (.inr ⟨_, Try.underlying22⟩) inf9 rfl (by decide) (by simpa using h0) rfl nofun (fun v2 => ?_)
 exact as0 rfl rfl <| .fin <| rt i2 rfl v2 1 [0] 0 (.cons (res_tmp rfl) .nil)
theorem dag_own.c {a0 : Event} {r : Event} (h : dag_own.f a0 = some r) : Pt Try.prog 32 [agg (Event.enc a0)] (agg (Event.enc r)) := by
 unfold dag_own.f at h
 refine (Tr.body Try.func32 (c := _) rfl Try.ntmps32 (Nat.le_of_ble_eq_true rfl) fun R0 F => ?_).pt
 replace h := Gets.of h
 have H := h
 clear h
 refine WP.seq <| rg 2 3 <| Dv.box rfl trivial rfl cA nofun fun b340 => al rfl trivial zc39 nofun fun b341 => .fin <| WP.seq <| rg 5 20 <| fb rfl trivial rfl fa39_2 <| ld 1 rfl trivial rfl sc22 rfl rfl <| el H fun t342 h343 H => cx 2 [0,1] cal53 (slices_Clone_string.c h343) nofun fun g344 _ => ?_
 refine fb rfl trivial rfl fa39_2 <| sx 2 rfl trivial rfl rfl (cells_one one_ov) sz22 rfl rfl rfl nofun ?_
 refine .fin <| WP.seq <| rg 2 2 <| lds 2 rfl trivial rfl sg39 rfl rfl <| sx 1 rfl trivial rfl rfl cA sz39 rfl rfl rfl nofun ?_
 refine .fin <| WP.gh (gh_frz (E' := [(2, eq (.pointer (some ⟨b341, 0, none⟩)))]) (l' := [blk b341 39 [vS a0.fID, vS a0.fRoom, sl strK t342, vS a0.fThread, vS a0.fUser, vI a0.fDoes], blk b340 39 [vS a0.fID, vS a0.fRoom, sl strK t342, vS a0.fThread, vS a0.fUser, vI a0.fDoes]] ++ F) 0 rfl (cve_cons rfl cv_id cve_nil) (all2_app (.cons (cva_blk (.cons cv_id (.cons cv_id (.cons cv_eq (.cons cv_id (.cons cv_id (.cons cv_id .nil))))))) (.cons (cva_blk (.cons cv_id (.cons cv_id (.cons cv_eq (.cons cv_id (.cons cv_id (.cons cv_id .nil))))))) .nil)) fun _ => cva_id)) (fun _ _ => ?_)
 obtain rfl := Gets.out H
 exact rt i2 rfl () 2 [0,1] 2 (.cons (res_cells rfl Try.underlying39 rfl c39 (mem_at 0 rfl) rfl) .nil)
theorem dag_Dag_Add.c {k : Nat} {a0 : DDag} {a1 : Event} {p0_ : OV} {r : Int × DDag} (h : dag_Dag_Add.f k a0 a1 = some r) : Tr Try.prog 18 [eq p0_.1, agg (Event.enc a1)] [DDag.O p0_ a0] (γ := Unit) (fun _ => True) (fun g => vI r.1) (fun g => [DDag.O p0_ r.2]) := by
 unfold dag_Dag_Add.f at h
 refine Tr.body Try.func18 (c := _) rfl Try.ntmps18 (Nat.le_of_ble_eq_true rfl) fun R0 F => ?_
 replace h := Gets.of h
 have H := h
 clear h
 refine WP.seq <| rg 3 3 <| Dv.box rfl trivial rfl (cells_one one_ov) nofun fun b345 => Dv.box rfl trivial rfl cA nofun fun b346 => as0 rfl rfl <| .fin <| WP.seq <| WP.block <| WP.seq <| wg (DDag.opn 2 rfl) fun g347 h348 => ?_
 refine dg Try.checked.mixed 13 0 <| lds 2 rfl trivial rfl sg39 rfl rfl <| el H fun t349 h350 H => cl rfl cal28 rfl (dag_May.c h350) <| un0 rfl rfl (run_not _) <| mv0 rfl rfl ?_
 cases c351 : !t349
 rotate_left
 ·
  replace H := Gets.ct H c351
  refine sk rfl rfl <| sk rfl rfl <| sk rfl rfl <| sk rfl rfl <| sk rfl rfl <| sk rfl rfl <| sk rfl rfl <| pt0 rfl rfl rfl <| as0 rfl rfl <| .fin <| WP.cond rfl (fun _ => ?_) nofun
  refine WP.seq <| rg 1 0 <| as0 rfl rfl <| .fin <| wg (DDag.shut (p := p0_) (m := a0) (g347.1, g347.2) h348 (pm 4 [0,1,2,3])) fun _ _ => ?_
  obtain rfl := Gets.out H
  exact rt i2 rfl () 3 [1,2,0] 2 (.cons (res_tmp rfl) .nil)
 replace H := Gets.cf H c351
 refine fb rfl (gg rfl) rfl fa39_1 <| ld 2 rfl (gg rfl) rfl sc9 rfl rfl <| ld 3 rfl (gg rfl) rfl sc34 rfl rfl <| Dv.nilpp h348 rfl (gg rfl) rfl <| fp h348 rfl (gg rfl) rfl fa51_0 <| ld 0 rfl (gg rfl) rfl sc9 rfl rfl <| bng rfl rfl rfl rfl run_sne <| pf0 rfl rfl rfl <| as0 rfl rfl <| .fin <| cd H rfl (fun _ H => ?_) (fun _ H => ?_)
 ·
  refine WP.seq <| rg 1 0 <| as0 rfl rfl <| .fin <| wg (DDag.shut (p := p0_) (m := a0) (g347.1, g347.2) h348 (pm 4 [0,1,2,3])) fun _ _ => ?_
  obtain rfl := Gets.out H
  exact rt i2 rfl () 3 [1,2,0] 2 (.cons (res_tmp rfl) .nil)
 refine WP.seq <| rg 5 0 <| ld 3 rfl trivial rfl sc34 rfl rfl <| fb rfl trivial rfl fa39_0 <| ld 2 rfl trivial rfl sc9 rfl rfl <| el H fun t354 h355 H => cll 4 [0,1,2,3] cal29 (Tr.weak (dag_Dag_Has.c h355 (b0_ := g347.1) (v0_0 := g347.2)) (.cons (wk_ptr h348) (.cons wk_id .nil))) ?_
 refine as0 rfl rfl <| .fin <| cd H rfl (fun _ H => ?_) (fun _ H => ?_)
 ·
  refine WP.seq <| rg 1 0 <| as0 rfl rfl <| .fin <| wg (DDag.shut (p := p0_) (m := a0) (g347.1, g347.2) h348 (pm 4 [0,1,2,3])) fun _ _ => ?_
  obtain rfl := Gets.out H
  exact rt i2 rfl () 3 [1,2,0] 2 (.cons (res_tmp rfl) .nil)
 refine WP.seq <| rg 5 0 <| fb rfl trivial rfl fa39_2 <| ld 2 rfl trivial rfl sc22 rfl rfl <| Dv.mkx (Q := fqQ_string_bool (fun a0_ => dag_Dag_Add_1.f a0_ a0)) (L := [blk b345 34 [eq p0_.1], blk g347.1 51 [vS a0.froom, eq g347.2.1], mpo Value.string DNode.O g347.2.1 a0.fnodes]) cal31 (by rintro _ _ ⟨a0_, r_, h_, rfl, rfl⟩; exact dag_Dag_Add_1.c h_ (cb0_ := b345) (cq0_ := p0_) (cd0_ := g347.1) (ch0_ := h348) (cv0_0 := g347.2)) rfl trivial rfl rfl <| Dv.gh (l' := fun _ : Unit => [(pk [blk b345 34 [eq p0_.1], blk g347.1 51 [vS a0.froom, eq g347.2.1], mpo Value.string DNode.O g347.2.1 a0.fnodes]), blk b346 39 (Event.enc a1)] ++ F) (gh_of (st_pk (perm_to (L := [blk g347.1 51 [vS a0.froom, eq g347.2.1], mpo Value.string DNode.O g347.2.1 a0.fnodes, blk b346 39 (Event.enc a1), blk b345 34 [eq p0_.1]]) (F := F) [3, 0, 1, 2] rfl rfl rfl))) (fun _ _ => ?_)
 refine el H fun t357 h358 H => cll 2 [0,1] cal30 (slices_ContainsFunc_string_x.c h358 (X1_ := (pk [blk b345 34 [eq p0_.1], blk g347.1 51 [vS a0.froom, eq g347.2.1], mpo Value.string DNode.O g347.2.1 a0.fnodes]))) ?_
 refine vg (st_unpk (L := [blk b345 34 [eq p0_.1], blk g347.1 51 [vS a0.froom, eq g347.2.1], mpo Value.string DNode.O g347.2.1 a0.fnodes]) 0 rfl) fun _ _ => ?_
 refine as0 rfl rfl <| .fin <| cd H rfl (fun _ H => ?_) (fun _ H => ?_)
 ·
  refine WP.seq <| rg 1 0 <| as0 rfl rfl <| .fin <| wg (DDag.shut (p := p0_) (m := a0) (g347.1, g347.2) h348 (pm 4 [1,2,0,3])) fun _ _ => ?_
  obtain rfl := Gets.out H
  exact rt i2 rfl () 3 [1,2,0] 2 (.cons (res_tmp rfl) .nil)
 refine WP.skip <| WP.seqr H id (fun p360 : Unit => [(0, eq p0_.1), (1, agg (Event.enc a1)), (2, eq (.pointer (some ⟨b345, 0, none⟩))), (3, eq (.pointer (some ⟨b346, 0, none⟩))), (4, vI 0), (9, vB (!decide (a1.fRoom = a0.froom))), (22, vB t354), (27, vB t357), (34, vB (!decide (a1.fThread = (⟨#[]⟩ : ByteArray))))]) (fun p360 : Unit => [blk b345 34 [eq p0_.1], blk b346 39 (Event.enc a1), DDag.O p0_ a0] ++ F) (fun p360 H => ?_) (fun H => ?_)
 rotate_left
 ·
  refine WP.seq <| rg 3 0 <| fb rfl trivial rfl fa39_3 <| ld 3 rfl trivial rfl sc9 rfl rfl <| bn0 rfl rfl rfl run_sne <| .fin <| cd H rfl (fun _ H => ?_) (fun _ H => ?_)
  rotate_left
  ·
   refine WP.skip ?_
   replace H := Gets.out H
   refine ng (DDag.shut (p := p0_) (m := a0) (g347.1, g347.2) h348 (pm 4 [1,2,0,3])) fun _ _ => ?_
   refine ng (sg 3 [1,2,0] 0) fun _ _ => ?_
   exact jn () H
  refine WP.seq <| wg (mpo_opn 2 rfl) fun z385 h386 => ?_
  refine dg Try.checked.mixed 8 0 <| ld 2 rfl trivial rfl sc34 rfl rfl <| Dv.nilpp h348 rfl trivial rfl <| fp h348 rfl trivial rfl fa51_1 <| ld 3 rfl trivial rfl sc49 rfl rfl <| fb rfl trivial rfl fa39_3 <| ld 4 rfl trivial rfl sc9 rfl rfl <| Dv.mlv nilP rfl trivial rfl (mem_at 0 rfl) rfl Try.underlying49 (keyOk_str Try.underlying9) z54 (fun _ => rfl) <| as0 rfl rfl <| .fin <| WP.seq <| WP.seq <| rg 2 0 <| mv0 rfl rfl <| Dv.pm0 (pm_nil h386 rfl) rfl trivial rfl rfl Try.underlying54 <| .fin <| cd H rfl (fun _ H => ?_) (fun _ H => ?_)
  ·
   refine WP.seq <| rg 1 0 <| as0 rfl rfl <| .fin <| wg (mpo_shut h386 rfl (pm 5 [0,1,2,3,4])) fun _ _ => ?_
   refine wg (DDag.shut (p := p0_) (m := a0) (g347.1, g347.2) h348 (pm 4 [2,0,1,3])) fun _ _ => ?_
   replace H := Gets.outr H
   obtain rfl := Gets.out H
   exact rt i2 rfl () 3 [1,2,0] 2 (.cons (res_tmp rfl) .nil)
  refine WP.skip <| WP.seq <| rg 14 0 <| mv0 rfl rfl <| gr H fun g388 H => vg (mpo_foc h386 rfl g388 (pm 5 [1,0,2,3,4])) fun _ _ => ?_
  refine Dv.nilA DNode.nn rfl trivial rfl (mem_at 0 rfl) <| vg (DNode.opn 0 rfl) fun g389 h390 => ?_
  refine fp h390 rfl trivial rfl fa56_0 <| fb rfl trivial rfl fa39_3 <| ld 0 rfl trivial rfl sc9 rfl rfl <| bn0 rfl rfl rfl run_sne <| mv0 rfl rfl ?_
  cases c391 : !decide (((((mget a0.fnodes a1.fThread).getD default).fe).fThread) = (⟨#[]⟩ : ByteArray))
  rotate_left
  ·
   replace H := Gets.ct H c391
   refine sk rfl rfl <| sk rfl rfl <| sk rfl rfl <| sk rfl rfl <| sk rfl rfl <| sk rfl rfl <| pt0 rfl rfl rfl <| .fin <| WP.cond rfl (fun _ => ?_) nofun
   refine WP.seq <| rg 1 0 <| as0 rfl rfl <| .fin <| wg (DNode.shut (p := ((mget (zipK a0.fnodes z385) a1.fThread).getD nilP)) (m := (mget a0.fnodes a1.fThread).getD default) g389 h390 (pm 6 [0,1,2,3,4,5])) fun _ _ => ?_
   refine wg (mpo_unf0 h386 rfl g388 (pm 6 [0,1,2,3,4,5])) fun _ _ => ?_
   refine wg (mpo_shut h386 rfl (pm 5 [1,0,2,3,4])) fun _ _ => ?_
   refine wg (DDag.shut (p := p0_) (m := a0) (g347.1, g347.2) h348 (pm 4 [2,0,1,3])) fun _ _ => ?_
   replace H := Gets.outr H
   obtain rfl := Gets.out H
   exact rt i2 rfl () 3 [1,2,0] 2 (.cons (res_tmp rfl) .nil)
  replace H := Gets.cf H c391
  refine mvg rfl rfl rfl <| Dv.nilpp h390 rfl (gg rfl) rfl <| fp h390 rfl (gg rfl) rfl fa56_0 <| fb rfl (gg rfl) rfl fa39_5 <| ld 0 rfl (gg rfl) rfl sc3 rfl rfl <| bng rfl rfl rfl rfl run_ne <| pf0 rfl rfl rfl <| .fin <| cd H rfl (fun _ H => ?_) (fun _ H => ?_)
  rotate_left
  ·
   refine WP.skip ?_
   replace H := Gets.out H
   refine ng (DNode.shut (p := ((mget (zipK a0.fnodes z385) a1.fThread).getD nilP)) (m := (mget a0.fnodes a1.fThread).getD default) g389 h390 (pm 6 [0,1,2,3,4,5])) fun _ _ => ?_
   refine ng (mpo_unf0 h386 rfl g388 (pm 6 [0,1,2,3,4,5])) fun _ _ => ?_
   refine ng (mpo_shut h386 rfl (pm 5 [1,0,2,3,4])) fun _ _ => ?_
   refine ng (DDag.shut (p := p0_) (m := a0) (g347.1, g347.2) h348 (pm 4 [2,0,1,3])) fun _ _ => ?_
   refine ng (sg 3 [1,2,0] 0) fun _ _ => ?_
   exact jn () H
  refine WP.seq <| rg 1 0 <| as0 rfl rfl <| .fin <| wg (DNode.shut (p := ((mget (zipK a0.fnodes z385) a1.fThread).getD nilP)) (m := (mget a0.fnodes a1.fThread).getD default) g389 h390 (pm 6 [0,1,2,3,4,5])) fun _ _ => ?_
  refine wg (mpo_unf0 h386 rfl g388 (pm 6 [0,1,2,3,4,5])) fun _ _ => ?_
  refine wg (mpo_shut h386 rfl (pm 5 [1,0,2,3,4])) fun _ _ => ?_
  refine wg (DDag.shut (p := p0_) (m := a0) (g347.1, g347.2) h348 (pm 4 [2,0,1,3])) fun _ _ => ?_
  replace H := Gets.outr H
  obtain rfl := Gets.out H
  exact rt i2 rfl () 3 [1,2,0] 2 (.cons (res_tmp rfl) .nil)
 refine WP.seq <| rg 5 8 <| lds 1 rfl trivial rfl sg39 rfl rfl <| el H fun t361 h362 H => cl rfl cal32 rfl (dag_own.c h362) <| Dv.bld (css := [Event.enc t361]) rfl trivial Try.underlying56 pl56 z56 rfl ⟨(cells_agg (Event.K.one _)), trivial⟩ rfl rfl <| Dv.box rfl trivial rfl cA nofun fun b363 => as0 rfl rfl <| .fin <| WP.seqn H id (fun p364 : Int × Bool × Int × DDag => [(0, eq p0_.1), (1, agg (Event.enc a1)), (2, eq (.pointer (some ⟨b345, 0, none⟩))), (3, eq (.pointer (some ⟨b346, 0, none⟩))), (4, vI 0), (6, eq (.pointer (some ⟨b363, 0, none⟩))), (9, vB (!decide (a1.fRoom = a0.froom))), (22, vB t354), (27, vB t357), (34, vB (!decide (a1.fThread = (⟨#[]⟩ : ByteArray)))), (63, sl strK a1.fParents), (64, vI (a1.fParents.length : Int)), (65, vI p364.1), (66, vB p364.2.1)]) (fun p364 : Int × Bool × Int × DDag => [blk b363 56 [vS t361.fID, vS t361.fRoom, sl strK t361.fParents, vS t361.fThread, vS t361.fUser, vI t361.fDoes, vI p364.2.2.1, vB false], blk b345 34 [eq p0_.1], blk b346 39 (Event.enc a1), DDag.O p0_ p364.2.2.2] ++ F) (fun p364 H => ?_) (fun H => ?_)
 ·
  refine WP.seq <| wg (DDag.opn 3 rfl) fun g365 h366 => ?_
  refine wg (DNode.shut (p := (⟨.pointer (some ⟨b363, 0, none⟩), rfl⟩ : OV)) (m := (⟨t361, p364.2.2.1, false⟩ : DNode)) b363 rfl (pm 5 [2,0,1,3,4])) fun _ _ => ?_
  refine wg (mpo_opn 2 rfl) fun z367 h368 => ?_
  refine dg Try.checked.mixed 8 128 <| ld 4 rfl trivial rfl sc34 rfl rfl <| Dv.nilpp h366 rfl trivial rfl <| fp h366 rfl trivial rfl fa51_1 <| ld 3 rfl trivial rfl sc49 rfl rfl <| fb rfl trivial rfl fa39_0 <| ld 5 rfl trivial rfl sc9 rfl rfl <| mv0 rfl rfl <| Dv.mup (vp := fun p : OV => eq p.1) (jj := 0) (⟨.pointer (some ⟨b363, 0, none⟩), rfl⟩ : OV) rfl trivial rfl rfl rfl rfl Try.underlying49 (keyOk_str Try.underlying9) (fun _ => pend_bits (by kernel_rfl)) <| .fin <| WP.seq <| rg 1 0 <| as0 rfl rfl <| .fin <| wg (mpo_add DNode.nn h368 rfl (pm 6 [0,1,2,3,4,5])) fun _ _ => ?_
  refine wg (DDag.shut (p := p0_) (m := (⟨p364.2.2.2.froom, mput p364.2.2.2.fnodes a1.fID (⟨t361, p364.2.2.1, false⟩ : DNode)⟩ : DDag)) (g365.1, g365.2) h366 (pm 4 [1,0,2,3])) fun _ _ => ?_
  obtain rfl := Gets.out H
  exact rt i2 rfl () 3 [1,2,0] 2 (.cons (res_tmp rfl) .nil)
 refine WP.seq <| rg 4 0 <| fb rfl trivial rfl fa39_2 <| ld 2 rfl trivial rfl sc22 rfl rfl <| Dv.lenl rfl trivial rfl Try.underlying22 <| mv0 rfl rfl <| .fin <| WP.block <| wg (sg 4 [0,1,2,3] 0) fun _ _ => ?_
 refine lp (fun j_ (p383 : Int × Int × DDag) => dag_Dag_Add.l0 k a1 j_ p383.1 p383.2.1 p383.2.2) (0, 0, a0) H (fun p383 => [(0, eq p0_.1), (1, agg (Event.enc a1)), (2, eq (.pointer (some ⟨b345, 0, none⟩))), (3, eq (.pointer (some ⟨b346, 0, none⟩))), (4, vI 0), (6, eq (.pointer (some ⟨b363, 0, none⟩))), (9, vB (!decide (a1.fRoom = a0.froom))), (22, vB t354), (27, vB t357), (34, vB (!decide (a1.fThread = (⟨#[]⟩ : ByteArray)))), (63, sl strK a1.fParents), (64, vI (a1.fParents.length : Int)), (65, vI p383.1)]) (fun p383 => [blk b363 56 [vS t361.fID, vS t361.fRoom, sl strK t361.fParents, vS t361.fThread, vS t361.fUser, vI t361.fDoes, vI p383.2.1, vB false], blk b345 34 [eq p0_.1], blk b346 39 (Event.enc a1), DDag.O p0_ p383.2.2] ++ F) ?_
 rintro j_ ⟨x369, x370, x371⟩ H
 rcases j_ with _ | j382
 ·
  exact (Gets.no H).elim
 replace H : Gets (dag_Dag_Add.l0 k a1 (j382 + 1) x369 x370 x371) _ := H
 rw [dag_Dag_Add.l0] at H
 refine WP.seq <| rg 1 0 <| bn0 rfl rfl rfl run_lt <| .fin <| WP.seq <| cd H rfl (fun _ H => ?_) (fun _ H => ?_)
 rotate_left
 ·
  refine WP.exit ?_
  replace H := Gets.out H
  exact jn (x369, decide (x369 < (a1.fParents.length : Int)), x370, x371) H
 refine WP.skip <| WP.seq <| WP.block <| WP.seq <| rg 3 0 <| gr H fun g373 H => Dv.ixr rfl trivial rfl rfl Try.underlying22 Try.underlying9 c9 g373.1 g373.2 <| ldR rfl trivial rfl sc9 rfl <| as0 rfl rfl <| .fin <| WP.seq <| wg (DDag.opn 3 rfl) fun g374 h375 => ?_
 refine wg (mpo_opn 1 rfl) fun z376 h377 => ?_
 refine gr H fun g378 H => wg (mpo_foc h377 rfl g378 (pm 6 [1,0,2,3,4,5])) fun _ _ => ?_
 refine wg (DNode.opn 0 rfl) fun g379 h380 => ?_
 refine dg Try.checked.mixed 19 262144 <| mv0 rfl rfl <| mv0 rfl rfl <| Dv.nilp rfl trivial rfl <| fb rfl trivial rfl fa56_1 <| ld 4 rfl trivial rfl sc3 rfl rfl <| ld 5 rfl trivial rfl sc34 rfl rfl <| Dv.nilpp h375 rfl trivial rfl <| fp h375 rfl trivial rfl fa51_1 <| ld 3 rfl trivial rfl sc49 rfl rfl <| mv0 rfl rfl <| Dv.mlv nilP rfl trivial rfl (mem_at 2 rfl) rfl Try.underlying49 (keyOk_str Try.underlying9) z54 (fun _ => rfl) <| Dv.nilpp h380 rfl trivial rfl <| fp h380 rfl trivial rfl fa56_1 <| ld 0 rfl trivial rfl sc3 rfl rfl <| bn0 rfl rfl rfl run_add <| Dv.maxi rfl trivial rfl rfl <| Dv.nilp rfl trivial rfl <| fb rfl trivial rfl fa56_1 <| sx 4 rfl trivial rfl rfl cE sz3 rfl rfl rfl pB ?_
 refine .fin <| rg 9 256 <| ld 5 rfl trivial rfl sc34 rfl rfl <| Dv.nilpp h375 rfl trivial rfl <| fp h375 rfl trivial rfl fa51_1 <| ld 3 rfl trivial rfl sc49 rfl rfl <| mv0 rfl rfl <| Dv.mlv nilP rfl trivial rfl (mem_at 2 rfl) rfl Try.underlying49 (keyOk_str Try.underlying9) z54 (fun _ => rfl) <| Dv.nilpp h380 rfl trivial rfl <| fp h380 rfl trivial rfl fa56_2 <| sx 0 rfl trivial rfl rfl cE sz4 rfl rfl rfl nofun ?_
 refine .fin <| rg 2 0 <| bn0 rfl rfl rfl run_add <| mv0 rfl rfl <| .fin <| ng (DNode.shut (p := ((mget (zipK x371.fnodes z376) (strK.at a1.fParents x369)).getD nilP)) (m := (⟨((mget x371.fnodes (strK.at a1.fParents x369)).getD default).fe, ((mget x371.fnodes (strK.at a1.fParents x369)).getD default).fdepth, true⟩ : DNode)) g379 h380 (pm 7 [0,1,2,3,4,5,6])) fun _ _ => ?_
 refine ng (mpo_unf h377 rfl g378 (pm 7 [0,1,2,3,4,5,6])) fun _ h381 => ?_
 refine ng (mpo_shut h381 (zipK_put' rfl g378) (pm 6 [1,0,2,3,4,5])) fun _ _ => ?_
 refine ng (DDag.shut (p := p0_) (m := (⟨x371.froom, mput x371.fnodes (strK.at a1.fParents x369) (⟨((mget x371.fnodes (strK.at a1.fParents x369)).getD default).fe, ((mget x371.fnodes (strK.at a1.fParents x369)).getD default).fdepth, true⟩ : DNode)⟩ : DDag)) (g374.1, g374.2) h375 (pm 5 [1,0,2,3,4])) fun _ _ => ?_
 refine ng (sg 4 [1,2,3,0] 0) fun _ _ => ?_
 exact bk j382 (w64 (x369 + 1), max x370 (w64 ((((mget x371.fnodes (strK.at a1.fParents x369)).getD default).fdepth) + 1)), (⟨x371.froom, mput x371.fnodes (strK.at a1.fParents x369) (⟨((mget x371.fnodes (strK.at a1.fParents x369)).getD default).fe, ((mget x371.fnodes (strK.at a1.fParents x369)).getD default).fdepth, true⟩ : DNode)⟩ : DDag)) H
theorem cmp_Or_int.c {k : Nat} {a0 : List Int} {r : Int} (h : cmp_Or_int.f k a0 = some r) : Pt Try.prog 86 [sl (intK .i64) a0] (vI r) := by
 unfold cmp_Or_int.f at h
 refine (Tr.body Try.func86 (c := _) rfl Try.ntmps86 (Nat.le_of_ble_eq_true rfl) fun R0 F => ?_).pt
 replace h := Gets.of h
 have H := h
 clear h
 refine WP.seq <| rg 1 0 <| as0 rfl rfl <| .fin <| WP.seq <| rg 1 0 <| as0 rfl rfl <| .fin <| WP.seqr H id (fun p394 : Int × Bool => [(0, sl (intK .i64) a0), (2, vI 0), (3, vI 0), (6, sl (intK .i64) a0), (7, vI (a0.length : Int)), (8, vI p394.1), (9, vB p394.2)]) (fun p394 : Int × Bool => F) (fun p394 H => ?_) (fun H => ?_)
 ·
  refine WP.seq <| rg 2 0 <| mv0 rfl rfl <| as0 rfl rfl <| .fin ?_
  obtain rfl := Gets.out H
  exact rt i2 rfl () 0 [] 0 (.cons (res_tmp rfl) .nil)
 refine WP.seq <| rg 3 0 <| mv0 rfl rfl <| Dv.lenl rfl trivial rfl Try.underlying23 <| mv0 rfl rfl <| .fin <| WP.block <| wg (sg 0 [] 0) fun _ _ => ?_
 refine lp (fun j_ (p400 : Int) => cmp_Or_int.l0 k a0 j_ p400) 0 H (fun p400 => [(0, sl (intK .i64) a0), (2, vI 0), (3, vI 0), (6, sl (intK .i64) a0), (7, vI (a0.length : Int)), (8, vI p400)]) (fun p400 => F) ?_
 rintro j_ x395 H
 rcases j_ with _ | j399
 ·
  exact (Gets.no H).elim
 replace H : Gets (cmp_Or_int.l0 k a0 (j399 + 1) x395) _ := H
 rw [cmp_Or_int.l0] at H
 refine WP.seq <| rg 1 0 <| bn0 rfl rfl rfl run_lt <| .fin <| WP.seq <| cd H rfl (fun _ H => ?_) (fun _ H => ?_)
 rotate_left
 ·
  refine WP.exit ?_
  replace H := Gets.out H
  exact jn (x395, decide (x395 < (a0.length : Int))) H
 refine WP.skip <| WP.seq <| WP.block <| WP.seq <| rg 3 0 <| gr H fun g397 H => Dv.ixr rfl trivial rfl rfl Try.underlying23 Try.underlying3 c3 g397.1 g397.2 <| ldR rfl trivial rfl sc3 rfl <| as0 rfl rfl <| .fin <| WP.seq <| rg 3 0 <| mv0 rfl rfl <| mv0 rfl rfl <| bn0 rfl rfl rfl run_ne <| .fin <| cd H rfl (fun _ H => ?_) (fun _ H => ?_)
 rotate_left
 ·
  exact WP.skip <| rg 2 0 <| bn0 rfl rfl rfl run_add <| mv0 rfl rfl <| .fin <| bk j399 (w64 (x395 + 1)) H
 refine WP.seq <| rg 2 0 <| mv0 rfl rfl <| as0 rfl rfl <| .fin ?_
 replace H := Gets.outr H
 obtain rfl := Gets.out H
 exact rt i2 rfl () 0 [] 0 (.cons (res_tmp rfl) .nil)
theorem cmp_isNaN_int.c {a0 : Int} {r : Bool} (h : cmp_isNaN_int.f a0 = some r) : Pt Try.prog 97 [vI a0] (vB r) := by
 unfold cmp_isNaN_int.f at h
 refine (Tr.body Try.func97 (c := _) rfl Try.ntmps97 (Nat.le_of_ble_eq_true rfl) fun R0 F => ?_).pt
 replace h := Gets.of h
 have H := h
 clear h
 refine WP.seq <| rg 1 0 <| as0 rfl rfl <| .fin <| WP.seq <| rg 4 0 <| mv0 rfl rfl <| mv0 rfl rfl <| bn0 rfl rfl rfl run_ne <| as0 rfl rfl <| .fin ?_
 obtain rfl := Gets.out H
 exact rt i2 rfl () 0 [] 0 (.cons (res_tmp rfl) .nil)
theorem cmp_Compare_int.c {a0 : Int} {a1 : Int} {r : Int} (h : cmp_Compare_int.f a0 a1 = some r) : Pt Try.prog 87 [vI a0, vI a1] (vI r) := by
 unfold cmp_Compare_int.f at h
 refine (Tr.body Try.func87 (c := _) rfl Try.ntmps87 (Nat.le_of_ble_eq_true rfl) fun R0 F => ?_).pt
 replace h := Gets.of h
 have H := h
 clear h
 refine WP.seq <| rg 1 0 <| as0 rfl rfl <| .fin <| WP.seq <| rg 3 0 <| mv0 rfl rfl <| el H fun t401 h402 H => cl rfl cal97 rfl (cmp_isNaN_int.c h402) <| as0 rfl rfl <| .fin <| WP.seq <| rg 3 0 <| mv0 rfl rfl <| el H fun t403 h404 H => cl rfl cal97 rfl (cmp_isNaN_int.c h404) <| as0 rfl rfl <| .fin <| WP.seq <| WP.seq <| rg 1 0 <| mv0 rfl rfl <| .fin <| cd H rfl (fun _ H => ?_) (fun _ H => ?_)
 ·
  refine WP.seq <| WP.seq <| rg 1 0 <| mv0 rfl rfl <| .fin <| cd H rfl (fun _ H => ?_) (fun _ H => ?_)
  ·
   refine WP.seq <| rg 1 0 <| as0 rfl rfl <| .fin ?_
   obtain rfl := Gets.out H
   exact rt i2 rfl () 0 [] 0 (.cons (res_tmp rfl) .nil)
  refine WP.skip <| WP.seq <| rg 1 0 <| as0 rfl rfl <| .fin ?_
  obtain rfl := Gets.out H
  exact rt i2 rfl () 0 [] 0 (.cons (res_tmp rfl) .nil)
 refine WP.skip <| WP.seq <| WP.seq <| rg 1 0 <| mv0 rfl rfl <| .fin <| cd H rfl (fun _ H => ?_) (fun _ H => ?_)
 ·
  refine WP.seq <| rg 1 0 <| as0 rfl rfl <| .fin ?_
  obtain rfl := Gets.out H
  exact rt i2 rfl () 0 [] 0 (.cons (res_tmp rfl) .nil)
 refine WP.skip <| WP.seq <| WP.seq <| rg 3 0 <| mv0 rfl rfl <| mv0 rfl rfl <| bn0 rfl rfl rfl run_lt <| .fin <| cd H rfl (fun _ H => ?_) (fun _ H => ?_)
 ·
  refine WP.seq <| rg 1 0 <| as0 rfl rfl <| .fin ?_
  obtain rfl := Gets.out H
  exact rt i2 rfl () 0 [] 0 (.cons (res_tmp rfl) .nil)
 refine WP.skip <| WP.seq <| WP.seq <| rg 3 0 <| mv0 rfl rfl <| mv0 rfl rfl <| bn0 rfl rfl rfl run_gt <| .fin <| cd H rfl (fun _ H => ?_) (fun _ H => ?_)
 ·
  refine WP.seq <| rg 1 0 <| as0 rfl rfl <| .fin ?_
  obtain rfl := Gets.out H
  exact rt i2 rfl () 0 [] 0 (.cons (res_tmp rfl) .nil)
 refine WP.skip <| WP.seq <| rg 1 0 <| as0 rfl rfl <| .fin ?_
 obtain rfl := Gets.out H
 exact rt i2 rfl () 0 [] 0 (.cons (res_tmp rfl) .nil)
theorem cmp_isNaN_string.c {a0 : ByteArray} {r : Bool} (h : cmp_isNaN_string.f a0 = some r) : Pt Try.prog 66 [vS a0] (vB r) := by
 unfold cmp_isNaN_string.f at h
 refine (Tr.body Try.func66 (c := _) rfl Try.ntmps66 (Nat.le_of_ble_eq_true rfl) fun R0 F => ?_).pt
 replace h := Gets.of h
 have H := h
 clear h
 refine WP.seq <| rg 1 0 <| as0 rfl rfl <| .fin <| WP.seq <| rg 4 0 <| mv0 rfl rfl <| mv0 rfl rfl <| bn0 rfl rfl rfl run_sne <| as0 rfl rfl <| .fin ?_
 obtain rfl := Gets.out H
 exact rt i2 rfl () 0 [] 0 (.cons (res_tmp rfl) .nil)
theorem cmp_Compare_string.c {a0 : ByteArray} {a1 : ByteArray} {r : Int} (h : cmp_Compare_string.f a0 a1 = some r) : Pt Try.prog 88 [vS a0, vS a1] (vI r) := by
 unfold cmp_Compare_string.f at h
 refine (Tr.body Try.func88 (c := _) rfl Try.ntmps88 (Nat.le_of_ble_eq_true rfl) fun R0 F => ?_).pt
 replace h := Gets.of h
 have H := h
 clear h
 refine WP.seq <| rg 1 0 <| as0 rfl rfl <| .fin <| WP.seq <| rg 3 0 <| mv0 rfl rfl <| el H fun t410 h411 H => cl rfl cal66 rfl (cmp_isNaN_string.c h411) <| as0 rfl rfl <| .fin <| WP.seq <| rg 3 0 <| mv0 rfl rfl <| el H fun t412 h413 H => cl rfl cal66 rfl (cmp_isNaN_string.c h413) <| as0 rfl rfl <| .fin <| WP.seq <| WP.seq <| rg 1 0 <| mv0 rfl rfl <| .fin <| cd H rfl (fun _ H => ?_) (fun _ H => ?_)
 ·
  refine WP.seq <| WP.seq <| rg 1 0 <| mv0 rfl rfl <| .fin <| cd H rfl (fun _ H => ?_) (fun _ H => ?_)
  ·
   refine WP.seq <| rg 1 0 <| as0 rfl rfl <| .fin ?_
   obtain rfl := Gets.out H
   exact rt i2 rfl () 0 [] 0 (.cons (res_tmp rfl) .nil)
  refine WP.skip <| WP.seq <| rg 1 0 <| as0 rfl rfl <| .fin ?_
  obtain rfl := Gets.out H
  exact rt i2 rfl () 0 [] 0 (.cons (res_tmp rfl) .nil)
 refine WP.skip <| WP.seq <| WP.seq <| rg 1 0 <| mv0 rfl rfl <| .fin <| cd H rfl (fun _ H => ?_) (fun _ H => ?_)
 ·
  refine WP.seq <| rg 1 0 <| as0 rfl rfl <| .fin ?_
  obtain rfl := Gets.out H
  exact rt i2 rfl () 0 [] 0 (.cons (res_tmp rfl) .nil)
 refine WP.skip <| WP.seq <| WP.seq <| rg 3 0 <| mv0 rfl rfl <| mv0 rfl rfl <| bn0 rfl rfl rfl run_slt <| .fin <| cd H rfl (fun _ H => ?_) (fun _ H => ?_)
 ·
  refine WP.seq <| rg 1 0 <| as0 rfl rfl <| .fin ?_
  obtain rfl := Gets.out H
  exact rt i2 rfl () 0 [] 0 (.cons (res_tmp rfl) .nil)
 refine WP.skip <| WP.seq <| WP.seq <| rg 3 0 <| mv0 rfl rfl <| mv0 rfl rfl <| bn0 rfl rfl rfl run_sgt <| .fin <| cd H rfl (fun _ H => ?_) (fun _ H => ?_)
 ·
  refine WP.seq <| rg 1 0 <| as0 rfl rfl <| .fin ?_
  obtain rfl := Gets.out H
  exact rt i2 rfl () 0 [] 0 (.cons (res_tmp rfl) .nil)
 refine WP.skip <| WP.seq <| rg 1 0 <| as0 rfl rfl <| .fin ?_
 obtain rfl := Gets.out H
 exact rt i2 rfl () 0 [] 0 (.cons (res_tmp rfl) .nil)
theorem dag_Compare.c {k : Nat} {a0 : Pos} {a1 : Pos} {r : Int} (h : dag_Compare.f k a0 a1 = some r) : Pt Try.prog 79 [agg (Pos.enc a0), agg (Pos.enc a1)] (vI r) := by
 unfold dag_Compare.f at h
 refine (Tr.body Try.func79 (c := _) rfl Try.ntmps79 (Nat.le_of_ble_eq_true rfl) fun R0 F => ?_).pt
 replace h := Gets.of h
 have H := h
 clear h
 refine WP.seq <| rg 3 3 <| Dv.box rfl trivial rfl cA nofun fun b419 => Dv.box rfl trivial rfl cA nofun fun b420 => as0 rfl rfl <| .fin <| WP.seq <| dg Try.checked.mixed 13 0 <| fb rfl trivial rfl fa101_0 <| ld 1 rfl trivial rfl sc3 rfl rfl <| fb rfl trivial rfl fa101_0 <| ld 0 rfl trivial rfl sc3 rfl rfl <| el H fun t421 h422 H => cl rfl cal87 rfl (cmp_Compare_int.c h422) <| fb rfl trivial rfl fa101_1 <| ld 1 rfl trivial rfl sc9 rfl rfl <| fb rfl trivial rfl fa101_1 <| ld 0 rfl trivial rfl sc9 rfl rfl <| el H fun t423 h424 H => cl rfl cal88 rfl (cmp_Compare_string.c h424) <| Dv.lit (intK .i64) ([t421, t423] : List Int) (css := [[vI t421], [vI t423]]) rfl trivial Try.underlying23 Try.underlying3 c3 z3 rfl (by decide) (by decide) rfl ⟨(cells_one (one_eq rfl)), ⟨(cells_one (one_eq rfl)), trivial⟩⟩ rfl rfl rfl <| el H fun t425 h426 H => cl rfl cal86 rfl (cmp_Or_int.c h426) <| as0 rfl rfl <| .fin ?_
 obtain rfl := Gets.out H
 exact rt i2 rfl () 2 [0,1] 2 (.cons (res_tmp rfl) .nil)
theorem posC_f (x y : Pos) : dag_Compare.f 8 x y = some (posC x y) := by
 unfold dag_Compare.f cmp_Compare_int.f cmp_Compare_string.f cmp_isNaN_int.f cmp_isNaN_string.f cmp_Or_int.f posC cmpS
 simp only [Option.bind_some, bne_self_eq_false, decide_true, Bool.not_true, cond_false]
 rcases Int.lt_trichotomy x.fDepth y.fDepth with h | h | h
 ·
  have h2 : ¬ y.fDepth < x.fDepth := by omega
  simp only [h, decide_true, cond_true, Option.bind_some, if_true]
  cases sLt x.fID y.fID <;> cases sLt y.fID x.fID <;> rfl
 rotate_left
 ·
  have h1 : ¬ x.fDepth < y.fDepth := by omega
  simp only [h, h1, decide_true, decide_false, cond_true, cond_false, Option.bind_some, if_true, if_false]
  cases sLt x.fID y.fID <;> cases sLt y.fID x.fID <;> rfl
 have h1 : ¬ x.fDepth < y.fDepth := by omega
 have h2 : ¬ y.fDepth < x.fDepth := by omega
 simp only [h1, h2, decide_false, cond_false, Option.bind_some, if_false]
 cases sLt x.fID y.fID <;> cases sLt y.fID x.fID <;> rfl
theorem posC_lt (x y : Pos) : ltOf posC x y = true ↔ x.fDepth < y.fDepth ∨ (x.fDepth = y.fDepth ∧ sLt x.fID y.fID = true) := by
 unfold ltOf posC
 rw [decide_eq_true_eq]
 by_cases h : x.fDepth < y.fDepth
 ·
  simp [h]
 by_cases h2 : y.fDepth < x.fDepth
 ·
  rw [if_neg h, if_pos h2]; constructor
  ·
   intro k; omega
  rintro (k | ⟨k, _⟩) <;> omega
 rw [if_neg h, if_neg h2, cmpS_lt]; constructor
 ·
  intro k; exact .inr ⟨by omega, k⟩
 rintro (k | ⟨_, k⟩)
 ·
  omega
 exact k
theorem posC_nlt (x y : Pos) : ltOf posC x y = false ↔ y.fDepth < x.fDepth ∨ (x.fDepth = y.fDepth ∧ sLt x.fID y.fID = false) := by
  have h := posC_lt x y
  cases e : ltOf posC x y with
  | true =>
    have h := h.1 e
    refine ⟨fun k => (by cases k), fun k => ?_⟩
    rcases h with h | ⟨h1, h2⟩ <;> rcases k with k | ⟨k1, k2⟩
    · omega
    · omega
    · omega
    · rw [h2] at k2; cases k2
  | false =>
    refine ⟨fun _ => ?_, fun _ => rfl⟩
    rw [e] at h
    have h : ¬ _ := fun k => by have := h.2 k; cases this
    rcases Int.lt_trichotomy x.fDepth y.fDepth with k | k | k
    · exact (h (.inl k)).elim
    · cases e2 : sLt x.fID y.fID with
      | true => exact (h (.inr ⟨k, e2⟩)).elim
      | false => exact .inr ⟨k, rfl⟩
    · exact .inl k
theorem posC_swo : Go.Sort.SWO (ltOf posC) where
  irrefl x := by rw [posC_nlt]; exact .inr ⟨rfl, sLt_irrefl _⟩
  trans x y z h1 h2 := by
    rw [posC_lt] at *
    rcases h1 with h1 | ⟨h1, k1⟩ <;> rcases h2 with h2 | ⟨h2, k2⟩
    · exact .inl (by omega)
    · exact .inl (by omega)
    · exact .inl (by omega)
    · exact .inr ⟨by omega, sLt_trans k1 k2⟩
  ntrans x y z h1 h2 := by
    rw [posC_nlt] at *
    rcases h1 with h1 | ⟨h1, k1⟩ <;> rcases h2 with h2 | ⟨h2, k2⟩
    · exact .inl (by omega)
    · exact .inl (by omega)
    · exact .inl (by omega)
    · exact .inr ⟨by omega, sLt_ntrans k2 k1⟩
theorem posC_tot (x y : Pos) (h1 : ltOf posC x y = false) (h2 : ltOf posC y x = false) : x = y := by
 rw [posC_nlt] at *
 rcases h1 with h1 | ⟨h1, k1⟩ <;> rcases h2 with h2 | ⟨h2, k2⟩
 ·
  omega
 ·
  omega
 ·
  omega
 obtain ⟨a, b⟩ := x; obtain ⟨c, d⟩ := y
 simp only at h1 k1 k2
 rw [h1, sLt_conn k1 k2]
theorem slices_SortFunc_Position.c {a0 : List Pos} {p0_ : OV} {r : List Pos} (h : slices_SortFunc_Position.f a0 = some r) : Tr Try.prog 78 [eq p0_.1, eq (.func (.func 79) #[] #[])] [own Pos.K p0_.1 a0] (γ := Unit) (fun _ => True) (fun g => tup []) (fun g => [own Pos.K p0_.1 r]) := by
 unfold slices_SortFunc_Position.f at h
 obtain ⟨h0, h5⟩ := (Gets.of h).grd
 obtain rfl := Gets.out h5
 exact sortf_tr (K := Pos.K) (ev := fun x => [.int .i64 x.fDepth, .string x.fID]) (fun _ => rfl) (by decide) (fun x y => dag_Compare.c (posC_f x y)) (fun blk off cap d w hc hH hb hs => AnyQ.slices_SortFunc_total Try.lays6 2 Try.isAgg101 Try.sizeOf101 _ (fun _ => rfl) (fun x v hv => by simp at hv; rcases hv with rfl | rfl <;> rfl) posC posC_swo 79 #[] blk off cap d w (enters_of Try.func79 (by kernel_rfl) rfl) hc hH hb hs posC_tot) (fun q cap w => AnyF.slices_SortFunc_none Try.lays6 q cap _ w) (by omega)

theorem dag_Dag_All_1.c {a0 : DNode} {b0_ : Nat} {r : Bool} (h : dag_Dag_All_1.f a0 = some r) : Tr Try.prog 69 [eq (.pointer (some ⟨b0_, 0, none⟩))] [blk b0_ 56 [vS a0.fe.fID, vS a0.fe.fRoom, sl strK a0.fe.fParents, vS a0.fe.fThread, vS a0.fe.fUser, vI a0.fe.fDoes, vI a0.fdepth, vB a0.fparent]] (γ := Unit) (fun _ => True) (fun g => vB r) (fun g => [blk b0_ 56 [vS a0.fe.fID, vS a0.fe.fRoom, sl strK a0.fe.fParents, vS a0.fe.fThread, vS a0.fe.fUser, vI a0.fe.fDoes, vI a0.fdepth, vB a0.fparent]]) := by
 unfold dag_Dag_All_1.f at h
 refine Tr.body Try.func69 (c := _) rfl Try.ntmps69 (Nat.le_of_ble_eq_true rfl) fun R0 F => ?_
 replace h := Gets.of h
 have H := h
 clear h
 refine WP.seq <| rg 1 0 <| as0 rfl rfl <| .fin <| WP.seq <| rg 1 0 <| as0 rfl rfl <| .fin ?_
 obtain rfl := Gets.out H
 exact rt i2 rfl () 1 [0] 0 (.cons (res_tmp rfl) .nil)
theorem dag_Dag_ids_All.c {a0 : DDag} {b0_ : Nat} {v0_0 : OV} {r : List ByteArray} (h : dag_Dag_ids_All.f a0 = some r) : Tr Try.prog 68 [eq (.pointer (some ⟨b0_, 0, none⟩)), eq (.func (.func 69) #[] #[])] [blk b0_ 51 [vS a0.froom, eq v0_0.1], mpo Value.string DNode.O v0_0.1 a0.fnodes] (γ := OV) (fun _ => True) (fun g => eq g.1) (fun g => [blk b0_ 51 [vS a0.froom, eq v0_0.1], mpo Value.string DNode.O v0_0.1 a0.fnodes, own strK g.1 r]) := by
  unfold dag_Dag_ids_All.f at h
  obtain ⟨h0, h5⟩ := (Gets.of h).grd
  obtain rfl := Gets.out h5
  clear h h5
  refine Tr.body Try.func68 (c := _) rfl Try.ntmps68 (Nat.le_of_ble_eq_true rfl) fun R0 F => ?_
  refine WP.seq <| rg 1 0 <| as0 rfl rfl <| .fin <| WP.seq <| rg 1 0 <| as0 rfl rfl <| .fin ?_
  refine WP.seqj (β := List Nat × OV) (fun b => b.1.Perm (List.range a0.fnodes.length)) (fun b => [(5, eq b.2.1), (1, eq (.func (.func 69) #[] #[]))]) (fun b => [own Pos.K b.2.1 (selM a0.fnodes dag_Dag_ids_All.g b.1), mpo Value.string DNode.O v0_0.1 a0.fnodes, blk b0_ 51 [vS a0.froom, eq v0_0.1]] ++ F) (fun b hb => ?_) ?_
  rotate_left
  · refine WP.seq <| rg 5 16 <| mv0 rfl rfl <| Dv.nilp rfl trivial rfl <| fb rfl trivial rfl fa51_1 <| ld 0 rfl trivial rfl sc49 rfl rfl ?_
    refine Dv.gh (l' := fun ps : List OV => [mp Value.string (fun p : OV => eq p.1) v0_0.1 (zipK a0.fnodes ps), thg DNode.O a0.fnodes ps, blk b0_ 51 [vS a0.froom, eq v0_0.1]] ++ F) (gh_of (mpo_opn 1 rfl)) (fun ps hps => ?_)
    refine Dv.rgb (jj := 0) rfl trivial rfl rfl Try.underlying49 nofun (fun q => .fin ?_)
    refine WP.gh (l' := fun _ : Unit => [rng Value.string (fun p : OV => eq p.1) v0_0.1 q.1 (zipK a0.fnodes ps) [], thg DNode.O a0.fnodes ps, blk b0_ 51 [vS a0.froom, eq v0_0.1]] ++ F) (gh_of (ok := fun _ => True) fun R w k => ⟨(), trivial, k⟩) (fun _ _ => ?_)
    refine WP.gh (l' := fun _ : Unit => [own Pos.K nilV.1 [], rng Value.string (fun p : OV => eq p.1) v0_0.1 q.1 (zipK a0.fnodes ps) [], thg DNode.O a0.fnodes ps, blk b0_ 51 [vS a0.froom, eq v0_0.1]] ++ F) (gh_of (st_nil Pos.K none)) (fun _ _ => ?_)
    refine WP.block ?_
    refine WP.weak (E' := (fun b : List Nat × OV => [(5, eq b.2.1), (15, eq q.1), (1, eq (.func (.func 69) #[] #[]))]) ([], nilV)) (weak_cons rfl (weak_cons rfl (weak_cons rfl weak_nil))) (WP.loop (β := List Nat × OV) (fun k b => b.1.length + k = a0.fnodes.length) (fun b => [(5, eq b.2.1), (15, eq q.1), (1, eq (.func (.func 69) #[] #[]))]) (fun b => [own Pos.K b.2.1 (selM a0.fnodes dag_Dag_ids_All.g b.1), rng Value.string (fun p : OV => eq p.1) v0_0.1 q.1 (zipK a0.fnodes ps) b.1, thg DNode.O a0.fnodes ps, blk b0_ 51 [vS a0.froom, eq v0_0.1]] ++ F) ?_ (k := a0.fnodes.length) (b := ([], nilV)) (Nat.zero_add _))
    rintro k ⟨is, v⟩ hk
    replace hk : is.length + k = a0.fnodes.length := hk
    refine WP.seq <| rg 2 1 <| Dv.rgn (jj := 1) rfl trivial rfl rfl nofun (fun z hz => ?_)
    rcases z with _ | j
    · have hz : is.Perm (List.range (zipK a0.fnodes ps).length) := hz
      rw [zipK_len hps.1] at hz
      refine ex0 rfl trivial rfl rfl <| .fin <| WP.seq <| WP.cond rfl nofun (fun _ => WP.exit ?_)
      refine Dn.gh (l' := fun _ : Unit => [own Pos.K v.1 (selM a0.fnodes dag_Dag_ids_All.g is), rng Value.string (fun p : OV => eq p.1) v0_0.1 q.1 (zipK a0.fnodes ps) is, thg DNode.O a0.fnodes ps, blk b0_ 51 [vS a0.froom, eq v0_0.1]] ++ F) (gh_of (ok := fun _ => True) fun R w k => ⟨(), trivial, k⟩) (fun _ _ => ?_)
      refine Dn.gh (l' := fun _ : Unit => [mp Value.string (fun p : OV => eq p.1) v0_0.1 (zipK a0.fnodes ps), own Pos.K v.1 (selM a0.fnodes dag_Dag_ids_All.g is), thg DNode.O a0.fnodes ps, blk b0_ 51 [vS a0.froom, eq v0_0.1]] ++ F) (gh_of (st_rge (pm 4 [1,0,2,3]))) (fun _ _ => ?_)
      refine Dn.gh (l' := fun _ : Unit => [mpo Value.string DNode.O v0_0.1 a0.fnodes, own Pos.K v.1 (selM a0.fnodes dag_Dag_ids_All.g is), blk b0_ 51 [vS a0.froom, eq v0_0.1]] ++ F) (gh_of (mpo_shut hps rfl (pm 4 [0,2,1,3]))) (fun _ _ => ?_)
      exact Jn.mk (is, v) hz (weak_cons rfl (weak_cons rfl weak_nil)) (perm_ton 3 [1,0,2] (by kernel_rfl) rfl rfl)
    have hz : j < (zipK a0.fnodes ps).length ∧ j ∉ is ∧ is.length < (zipK a0.fnodes ps).length := hz
    obtain ⟨e, p, he, hp, hep⟩ := zipK_get hps hz.1
    have hlt : is.length < a0.fnodes.length := by rw [← zipK_len hps.1]; exact hz.2.2
    have hsl := Nat.le_trans (selM_len (m := a0.fnodes) (f := dag_Dag_ids_All.g) (is := is)) (Nat.le_of_lt hlt)
    have e1 : nxV Value.string (fun p : OV => eq p.1) (zipK a0.fnodes ps) (some j) = tup [vB true, vS e.1, eq p.1] := by simp only [nxV, hep]
    rw [e1]
    refine ex0 rfl trivial rfl rfl <| .fin <| WP.seq <| WP.cond rfl (fun _ => WP.skip ?_) nofun
    refine WP.gh (l' := fun _ : Unit => [own Pos.K v.1 (selM a0.fnodes dag_Dag_ids_All.g is), rng Value.string (fun p : OV => eq p.1) v0_0.1 q.1 (zipK a0.fnodes ps) (is ++ [j]), thg DNode.O a0.fnodes ps, blk b0_ 51 [vS a0.froom, eq v0_0.1]] ++ F) (gh_of (ok := fun _ => True) fun R w k => ⟨(), trivial, k⟩) (fun _ _ => ?_)
    refine WP.block <| WP.seq <| rg 5 0 <| Dv.rge 1 rfl trivial rfl rfl hep ?_
    refine ex0 rfl trivial rfl rfl <| ex0 rfl trivial rfl rfl <| as0 rfl rfl <| as0 rfl rfl <| .fin ?_
    refine WP.gh (l' := fun _ : Unit => [DNode.O p e.2, thgX DNode.O a0.fnodes ps j, own Pos.K v.1 (selM a0.fnodes dag_Dag_ids_All.g is), rng Value.string (fun p : OV => eq p.1) v0_0.1 q.1 (zipK a0.fnodes ps) (is ++ [j]), blk b0_ 51 [vS a0.froom, eq v0_0.1]] ++ F) (gh_of (thg_foc he hp (pm 4 [2,0,1,3]))) (fun _ _ => ?_)
    refine WP.gh (l' := fun b : Nat => [blk b 56 [vS e.2.fe.fID, vS e.2.fe.fRoom, sl strK e.2.fe.fParents, vS e.2.fe.fThread, vS e.2.fe.fUser, vI e.2.fe.fDoes, vI e.2.fdepth, vB e.2.fparent], thgX DNode.O a0.fnodes ps j, own Pos.K v.1 (selM a0.fnodes dag_Dag_ids_All.g is), rng Value.string (fun p : OV => eq p.1) v0_0.1 q.1 (zipK a0.fnodes ps) (is ++ [j]), blk b0_ 51 [vS a0.froom, eq v0_0.1]] ++ F) (gh_of (DNode.opn 0 rfl)) (fun b hb => ?_)
    refine WP.seq <| rg 3 0 <| mv0 rfl rfl <| mv0 rfl rfl <| Dv.callc (fst := #[]) (B := [blk b 56 [vS e.2.fe.fID, vS e.2.fe.fRoom, sl strK e.2.fe.fParents, vS e.2.fe.fThread, vS e.2.fe.fUser, vI e.2.fe.fDoes, vI e.2.fdepth, vB e.2.fparent]]) (F := [thgX DNode.O a0.fnodes ps j, own Pos.K v.1 (selM a0.fnodes dag_Dag_ids_All.g is), rng Value.string (fun p : OV => eq p.1) v0_0.1 q.1 (zipK a0.fnodes ps) (is ++ [j]), blk b0_ 51 [vS a0.froom, eq v0_0.1]] ++ F) rfl trivial rfl cal69 rfl (Tr.weak (dag_Dag_All_1.c (a0 := e.2) (b0_ := b) (r := true) rfl) (.cons (wk_ptr hb) .nil)) (List.Perm.refl _) <| .fin ?_
    refine WP.cond rfl (fun c1 => ?_) (fun c1 => ?_)
    · have hg : dag_Dag_ids_All.g e = some ⟨e.2.fdepth, e.1⟩ := by unfold dag_Dag_ids_All.g; rw [c1]; rfl
      have e6 := selM_some (f := dag_Dag_ids_All.g) (is := is) he hg
      have hbd : (selM a0.fnodes dag_Dag_ids_All.g is).length + ([⟨e.2.fdepth, e.1⟩] : List Pos).length ≤ 9223372036854775807 ∧ ((selM a0.fnodes dag_Dag_ids_All.g is).length + ([⟨e.2.fdepth, e.1⟩] : List Pos).length) * 24 ≤ 140737488355328 := by rw [List.length_singleton]; omega
      refine rg 10 256 <| mv0 rfl rfl <| mv0 rfl rfl <| Dv.nilpp hb rfl trivial rfl <| fp hb rfl trivial rfl fa56_1 <| ld 0 rfl trivial rfl sc3 rfl rfl <| mv0 rfl rfl <| Dv.bld (css := [[vI e.2.fdepth], [vS e.1]]) rfl trivial Try.underlying101 pl101 z101 rfl ⟨(cells_one (one_eq rfl)), ⟨(cells_one (one_eq rfl)), trivial⟩⟩ rfl rfl <| Dv.lit Pos.K ([⟨e.2.fdepth, e.1⟩] : List Pos) (css := [[vI e.2.fdepth, vS e.1]]) rfl trivial Try.underlying99 Try.underlying101 c101 z101 rfl (by decide) (by decide) rfl ⟨cA, trivial⟩ rfl rfl rfl <| ap Pos.K 2 ([⟨e.2.fdepth, e.1⟩] : List Pos) src_sl Try.underlying99 (.inr ⟨_, Try.underlying99⟩) inf101 hbd nofun fun v9 => as0 rfl rfl <| .fin ?_
      refine Dn.gh (l' := fun _ : Unit => [DNode.O p e.2, thgX DNode.O a0.fnodes ps j, own Pos.K v9.1 ((selM a0.fnodes dag_Dag_ids_All.g is) ++ ([⟨e.2.fdepth, e.1⟩] : List Pos)), rng Value.string (fun p : OV => eq p.1) v0_0.1 q.1 (zipK a0.fnodes ps) (is ++ [j]), blk b0_ 51 [vS a0.froom, eq v0_0.1]] ++ F) (gh_of (DNode.shut (p := p) (m := e.2) b hb (List.Perm.refl _))) (fun _ _ => ?_)
      refine Dn.gh (l' := fun _ : Unit => [thg DNode.O a0.fnodes ps, own Pos.K v9.1 ((selM a0.fnodes dag_Dag_ids_All.g is) ++ ([⟨e.2.fdepth, e.1⟩] : List Pos)), rng Value.string (fun p : OV => eq p.1) v0_0.1 q.1 (zipK a0.fnodes ps) (is ++ [j]), blk b0_ 51 [vS a0.froom, eq v0_0.1]] ++ F) (gh_of (thg_unf he hp (List.Perm.refl _))) (fun _ _ => ?_)
      rw [e6]
      exact Back.mk (k - 1) (is ++ [j], v9) (by omega) (by show (is ++ [j]).length + (k - 1) = _; rw [List.length_append, List.length_singleton]; omega) (weak_cons rfl (weak_cons rfl (weak_cons rfl weak_nil))) (perm_ton 4 [1,2,0,3] (by kernel_rfl) rfl rfl)
    cases c1
  obtain ⟨is, v5⟩ := b
  replace hb : is.Perm (List.range a0.fnodes.length) := hb
  have hp := selM_perm (f := dag_Dag_ids_All.g) hb
  have hs : slices_SortFunc_Position.f (selM a0.fnodes dag_Dag_ids_All.g is) = some (srtF posC (a0.fnodes.filterMap dag_Dag_ids_All.g)) := by
    unfold slices_SortFunc_Position.f Sp.grd
    rw [if_pos (by rw [hp.length_eq]; exact Nat.le_trans (List.length_filterMap_le _ _) h0), srtF_perm posC_swo posC_tot hp]
  have hS : (srtF posC (a0.fnodes.filterMap dag_Dag_ids_All.g)).length ≤ 1000000 := by unfold srtF; rw [List.length_mergeSort]; exact Nat.le_trans (List.length_filterMap_le _ _) h0
  refine WP.seq <| rg 2 2 <| mv0 rfl rfl <| cx 3 [0,1,2] cal78 (slices_SortFunc_Position.c hs (p0_ := v5)) nofun fun _ _ => .fin ?_
  generalize srtF posC (a0.fnodes.filterMap dag_Dag_ids_All.g) = S at hS
  refine WP.seq <| rg 1 0 <| as0 rfl rfl <| .fin ?_
  refine WP.seqj (β := OV) (fun _ => True) (fun v => [(8, eq v.1)]) (fun v => [own strK v.1 (S.map (·.fID)), own Pos.K v5.1 S, mpo Value.string DNode.O v0_0.1 a0.fnodes, blk b0_ 51 [vS a0.froom, eq v0_0.1]] ++ F) (fun v _ => ?_) ?_
  · refine WP.seq <| rg 2 0 <| mv0 rfl rfl <| as0 rfl rfl <| .fin <| rt i2 rfl v 4 [1,3,2,0] 1 (.cons (res_tmp rfl) .nil)
  refine WP.seq <| rg 3 0 <| mv0 rfl rfl <| Dv.lenw (Kd := Pos.K) (xs := S) (v := v5.1) rfl trivial rfl (mem_at 0 rfl) Try.underlying99 <| mv0 rfl rfl <| .fin ?_
  refine WP.gh (l' := fun _ : Unit => [own strK nilV.1 [], own Pos.K v5.1 S, mpo Value.string DNode.O v0_0.1 a0.fnodes, blk b0_ 51 [vS a0.froom, eq v0_0.1]] ++ F) (gh_of (st_nil strK none)) (fun _ _ => ?_)
  refine WP.block ?_
  refine WP.weak (E' := (fun b : Nat × OV => [(8, eq b.2.1), (35, eq v5.1), (36, vI (S.length : Int)), (37, vI (b.1 : Int))]) (0, nilV)) (weak_cons rfl (weak_cons rfl (weak_cons rfl (weak_cons rfl weak_nil)))) (WP.loop (β := Nat × OV) (fun k b => b.1 + k = S.length) (fun b => [(8, eq b.2.1), (35, eq v5.1), (36, vI (S.length : Int)), (37, vI (b.1 : Int))]) (fun b => [own strK b.2.1 ((S.take b.1).map (·.fID)), own Pos.K v5.1 S, mpo Value.string DNode.O v0_0.1 a0.fnodes, blk b0_ 51 [vS a0.froom, eq v0_0.1]] ++ F) ?_ (k := S.length) (b := (0, nilV)) (Nat.zero_add _))
  rintro k ⟨j, v8⟩ hk
  replace hk : j + k = S.length := hk
  refine WP.seq <| rg 1 0 <| bn0 rfl rfl rfl run_lt <| .fin <| WP.seq <| WP.cond rfl (fun c2 => WP.skip ?_) (fun c2 => WP.exit ?_)
  rotate_left
  · have c3 : ¬ ((j : Int) < (S.length : Int)) := of_decide_eq_false c2
    have e3 : S.take j = S := List.take_of_length_le (by omega)
    change ∀ R a w, R0.le R → Agr _ R a _ → St R ([own strK v8.1 ((S.take j).map (·.fID)), own Pos.K v5.1 S, mpo Value.string DNode.O v0_0.1 a0.fnodes, blk b0_ 51 [vS a0.froom, eq v0_0.1]] ++ F) w → _
    rw [e3]
    exact Jn.mk v8 trivial (weak_cons rfl weak_nil) (List.Perm.refl _)
  have c3 : (j : Int) < (S.length : Int) := of_decide_eq_true c2
  have hj : j < S.length := by omega
  refine WP.seq <| WP.block <| WP.seq <| rg 4 12 <| Dv.ixw rfl trivial rfl (mem_at 1 rfl) rfl Try.underlying99 Try.underlying101 c101 (by omega) c3 <| Dv.ldws (j := j) (f := 0) rfl trivial rfl (mem_at 1 rfl) hj Try.underlying101 rfl c101 (Nat.le_of_ble_eq_true rfl) <| al rfl trivial zc101 nofun fun b => sx 0 rfl trivial rfl rfl cA sz101 rfl rfl rfl nofun <| .fin ?_
  have hbd : ((S.take j).map (·.fID)).length + ([(S.getD j default).fID] : List ByteArray).length ≤ 9223372036854775807 ∧ (((S.take j).map (·.fID)).length + ([(S.getD j default).fID] : List ByteArray).length) * 16 ≤ 140737488355328 := by rw [List.length_singleton, List.length_map, List.length_take]; omega
  refine rg 6 16 <| mv0 rfl rfl <| fb rfl trivial rfl fa101_1 <| ld 0 rfl trivial rfl sc9 rfl rfl <| Dv.lit strK ([(S.getD j default).fID] : List ByteArray) (css := [[vS ((S.getD j default).fID)]]) rfl trivial Try.underlying22 Try.underlying9 c9 z9 rfl (by decide) (by decide) rfl ⟨(cells_one (one_eq rfl)), trivial⟩ rfl rfl rfl <| ap strK 1 ([(S.getD j default).fID] : List ByteArray) src_sl Try.underlying22 (.inr ⟨_, Try.underlying22⟩) inf9 hbd nofun fun v9 => as0 rfl rfl <| .fin ?_
  refine WP.gh (l' := fun _ : Unit => [own strK v9.1 ((S.take j).map (·.fID) ++ ([(S.getD j default).fID] : List ByteArray)), own Pos.K v5.1 S, mpo Value.string DNode.O v0_0.1 a0.fnodes, blk b0_ 51 [vS a0.froom, eq v0_0.1]] ++ F) (gh_of (st_selgn 5 [0,1,2,3,4] 1 (by kernel_rfl) rfl rfl)) (fun _ _ => ?_)
  have e4 : (S.take j).map (·.fID) ++ ([(S.getD j default).fID] : List ByteArray) = (S.take (j + 1)).map (·.fID) := by rw [List.take_add_one, List.map_append, List.getD_eq_getElem?_getD, List.getElem?_eq_getElem hj]; rfl
  rw [e4]
  refine rg 2 0 <| bn0 rfl rfl rfl (run_addn (a := j) (b := 1) (by omega)) <| mv0 rfl rfl <| .fin ?_
  exact Back.mk (k - 1) (j + 1, v9) (by omega) (by show j + 1 + (k - 1) = S.length; omega) (weak_cons rfl (weak_cons rfl (weak_cons rfl (weak_cons rfl weak_nil)))) (List.Perm.refl _)
theorem dag_Dag_All.c {k : Nat} {a0 : DDag} {v0_0 : OV} {b0_ : Nat} {r : (List Event)} (h : dag_Dag_All.f k a0 = some r) : Tr Try.prog 54 [eq (.pointer (some ⟨b0_, 0, none⟩))] [blk b0_ 51 [vS a0.froom, eq v0_0.1], mpo Value.string DNode.O v0_0.1 a0.fnodes] (γ := OV) (fun _ => True) (fun g => eq g.1) (fun g => [blk b0_ 51 [vS a0.froom, eq v0_0.1], mpo Value.string DNode.O v0_0.1 a0.fnodes, own Event.K g.1 r]) := by
 unfold dag_Dag_All.f at h
 refine Tr.body Try.func54 (c := _) rfl Try.ntmps54 (Nat.le_of_ble_eq_true rfl) fun R0 F => ?_
 replace h := Gets.of h
 have H := h
 clear h
 refine WP.seq <| rg 1 0 <| as0 rfl rfl <| .fin <| WP.seq <| rg 1 0 <| as0 rfl rfl <| .fin <| WP.seqn H (fun q450 : (Int × Int × Bool × (List Event) × (List ByteArray)) × OV × OV => q450.1) (fun q450 : (Int × Int × Bool × (List Event) × (List ByteArray)) × OV × OV => [(0, eq (.pointer (some ⟨b0_, 0, none⟩))), (2, eq (.slice none 0 0)), (3, eq q450.2.1.1), (7, eq q450.2.2.1), (8, vI q450.1.1), (9, vI q450.1.2.1), (10, vB q450.1.2.2.1)]) (fun q450 : (Int × Int × Bool × (List Event) × (List ByteArray)) × OV × OV => [blk b0_ 51 [vS a0.froom, eq v0_0.1], mpo Value.string DNode.O v0_0.1 a0.fnodes, own Event.K q450.2.1.1 q450.1.2.2.2.1, own strK q450.2.2.1 q450.1.2.2.2.2] ++ F) (fun q450 H => ?_) (fun H => ?_)
 ·
  obtain ⟨p427, v428, v429⟩ := q450
  refine WP.seq <| rg 2 0 <| mv0 rfl rfl <| as0 rfl rfl <| .fin ?_
  obtain rfl := Gets.out H
  exact rt i2 rfl v428 4 [3,0,1,2] 1 (.cons (res_tmp rfl) .nil)
 refine WP.seq <| rg 4 2 <| mv0 rfl rfl <| el H fun t430 h431 H => cx 2 [0,1] cal68 (dag_Dag_ids_All.c h431 (b0_ := b0_) (v0_0 := v0_0)) nofun fun g432 _ => ?_
 refine Dv.lenw rfl trivial rfl (mem_at 2 rfl) Try.underlying22 <| mv0 rfl rfl <| .fin <| WP.block <| wg (st_nil Event.K none) fun _ _ => ?_
 refine wg (sg 4 [1,2,3,0] 0) fun _ _ => ?_
 refine lp (fun j_ (p449 : Int × (List Event) × OV) => dag_Dag_All.l0 k a0 t430 j_ p449.1 p449.2.1) (0, ([] : List Event), nilV) H (fun p449 => [(0, eq (.pointer (some ⟨b0_, 0, none⟩))), (2, eq (.slice none 0 0)), (3, eq p449.2.2.1), (7, eq g432.1), (8, vI (t430.length : Int)), (9, vI p449.1)]) (fun p449 => [blk b0_ 51 [vS a0.froom, eq v0_0.1], mpo Value.string DNode.O v0_0.1 a0.fnodes, own strK g432.1 t430, own Event.K p449.2.2.1 p449.2.1] ++ F) ?_
 rintro j_ ⟨x433, x434, v435⟩ H
 rcases j_ with _ | j448
 ·
  exact (Gets.no H).elim
 replace H : Gets (dag_Dag_All.l0 k a0 t430 (j448 + 1) x433 x434) _ := H
 rw [dag_Dag_All.l0] at H
 refine WP.seq <| rg 1 0 <| bn0 rfl rfl rfl run_lt <| .fin <| WP.seq <| cd H rfl (fun _ H => ?_) (fun _ H => ?_)
 rotate_left
 ·
  refine WP.exit ?_
  replace H := Gets.out H
  refine ng (sg 4 [0,1,3,2] 0) fun _ _ => ?_
  exact jn (((t430.length : Int), x433, decide (x433 < (t430.length : Int)), x434, t430), v435, g432) H
 refine WP.skip <| WP.seq <| WP.block <| WP.seq <| rg 3 0 <| gr H fun g437 H => ?_
 have h438 : x433.toNat < t430.length := idx_lt g437
 refine Dv.ixw rfl trivial rfl (mem_at 2 rfl) rfl Try.underlying22 Try.underlying9 c9 g437.1 g437.2 <| Dv.ldw (j := x433.toNat) (f := 0) (p := vS (t430.getD x433.toNat default)) rfl trivial rfl (mem_at 2 rfl) h438 Try.underlying9 rfl rfl <| as0 rfl rfl <| .fin <| rg 14 4096 <| mv0 rfl rfl <| mv0 rfl rfl <| Dv.nilp rfl trivial rfl <| fb rfl trivial rfl fa51_1 <| ld 0 rfl trivial rfl sc49 rfl rfl <| mv0 rfl rfl <| vg (mpo_opn 1 rfl) fun z439 h440 => ?_
 refine Dv.mlv nilP rfl trivial rfl (mem_at 0 rfl) rfl Try.underlying49 (keyOk_str Try.underlying9) z54 (fun _ => rfl) <| gr H fun g441 H => vg (mpo_foc h440 rfl g441 (pm 5 [1,0,2,3,4])) fun _ _ => ?_
 refine Dv.nilA DNode.nn rfl trivial rfl (mem_at 0 rfl) <| vg (DNode.opn 0 rfl) fun g442 h443 => ?_
 refine fp h443 rfl trivial rfl fa56_0 <| lds 0 rfl trivial rfl sg39 rfl rfl <| el H fun t444 h445 H => cl rfl cal32 rfl (dag_own.c h445) <| Dv.lit Event.K ([t444] : List Event) (css := [Event.enc t444]) rfl trivial Try.underlying76 Try.underlying39 c39 z39 rfl (by decide) (by decide) rfl ⟨(cells_agg (Event.K.one _)), trivial⟩ rfl rfl rfl <| gr H fun g446 H => ap Event.K 5 ([t444] : List Event) src_sl Try.underlying76 (.inr ⟨_, Try.underlying76⟩) inf39 g446 nofun fun v447 => ?_
 refine as0 rfl rfl <| .fin <| rg 2 0 <| bn0 rfl rfl rfl run_add <| mv0 rfl rfl <| .fin <| ng (DNode.shut (p := ((mget (zipK a0.fnodes z439) (t430.getD x433.toNat default)).getD nilP)) (m := (mget a0.fnodes (t430.getD x433.toNat default)).getD default) g442 h443 (pm 6 [0,1,2,3,4,5])) fun _ _ => ?_
 refine ng (mpo_unf0 h440 rfl g441 (pm 6 [0,1,2,3,4,5])) fun _ _ => ?_
 refine ng (mpo_shut h440 rfl (pm 5 [1,0,2,3,4])) fun _ _ => ?_
 refine ng (sg 4 [1,0,2,3] 0) fun _ _ => ?_
 exact bk j448 (w64 (x433 + 1), x434 ++ ([t444] : List Event), v447) H
theorem member_joined.c {k : Nat} {a0 : DDag} {v0_0 : OV} {b0_ : Nat} {r : (List (ByteArray × Int))} (h : member_joined.f k a0 = some r) : Tr Try.prog 33 [eq (.pointer (some ⟨b0_, 0, none⟩))] [blk b0_ 51 [vS a0.froom, eq v0_0.1], mpo Value.string DNode.O v0_0.1 a0.fnodes] (γ := OV) (fun _ => True) (fun g => eq g.1) (fun g => [blk b0_ 51 [vS a0.froom, eq v0_0.1], mpo Value.string DNode.O v0_0.1 a0.fnodes, mp Value.string (fun x : Int => vI x) g.1 r]) := by
 unfold member_joined.f at h
 refine Tr.body Try.func33 (c := _) rfl Try.ntmps33 (Nat.le_of_ble_eq_true rfl) fun R0 F => ?_
 replace h := Gets.of h
 have H := h
 clear h
 refine WP.seq <| rg 1 0 <| as0 rfl rfl <| .fin <| WP.seq <| rg 2 1 <| Dv.mmk Value.string (fun x : Int => vI x) rfl trivial nofun (fun v451 => ?_)
 refine as0 rfl rfl <| .fin <| WP.seqn H (fun q467 : (Int × Int × Bool × (List (ByteArray × Int)) × (List Event)) × OV => q467.1) (fun q467 : (Int × Int × Bool × (List (ByteArray × Int)) × (List Event)) × OV => [(0, eq (.pointer (some ⟨b0_, 0, none⟩))), (2, eq (.map none)), (3, eq v451.1), (8, eq q467.2.1), (9, vI q467.1.1), (10, vI q467.1.2.1), (11, vB q467.1.2.2.1)]) (fun q467 : (Int × Int × Bool × (List (ByteArray × Int)) × (List Event)) × OV => [blk b0_ 51 [vS a0.froom, eq v0_0.1], mpo Value.string DNode.O v0_0.1 a0.fnodes, mp Value.string (fun x : Int => vI x) v451.1 q467.1.2.2.2.1, own Event.K q467.2.1 q467.1.2.2.2.2] ++ F) (fun q467 H => ?_) (fun H => ?_)
 ·
  obtain ⟨p452, v453⟩ := q467
  refine WP.seq <| rg 2 0 <| mv0 rfl rfl <| as0 rfl rfl <| .fin ?_
  obtain rfl := Gets.out H
  exact rt i2 rfl v451 4 [3,0,1,2] 1 (.cons (res_tmp rfl) .nil)
 refine WP.seq <| rg 4 2 <| mv0 rfl rfl <| el H fun t454 h455 H => cx 3 [1,2,0] cal54 (dag_Dag_All.c h455 (b0_ := b0_) (v0_0 := v0_0)) nofun fun g456 _ => ?_
 refine Dv.lenw rfl trivial rfl (mem_at 2 rfl) Try.underlying76 <| mv0 rfl rfl <| .fin <| WP.block <| wg (sg 4 [0,1,2,3] 0) fun _ _ => ?_
 refine lp (fun j_ (p466 : Int × (List (ByteArray × Int))) => member_joined.l0 k t454 j_ p466.1 p466.2) (0, ([] : List (ByteArray × Int))) H (fun p466 => [(0, eq (.pointer (some ⟨b0_, 0, none⟩))), (2, eq (.map none)), (3, eq v451.1), (8, eq g456.1), (9, vI (t454.length : Int)), (10, vI p466.1)]) (fun p466 => [blk b0_ 51 [vS a0.froom, eq v0_0.1], mpo Value.string DNode.O v0_0.1 a0.fnodes, own Event.K g456.1 t454, mp Value.string (fun x : Int => vI x) v451.1 p466.2] ++ F) ?_
 rintro j_ ⟨x457, x458⟩ H
 rcases j_ with _ | j465
 ·
  exact (Gets.no H).elim
 replace H : Gets (member_joined.l0 k t454 (j465 + 1) x457 x458) _ := H
 rw [member_joined.l0] at H
 refine WP.seq <| rg 1 0 <| bn0 rfl rfl rfl run_lt <| .fin <| WP.seq <| cd H rfl (fun _ H => ?_) (fun _ H => ?_)
 rotate_left
 ·
  refine WP.exit ?_
  replace H := Gets.out H
  refine ng (sg 4 [0,1,3,2] 0) fun _ _ => ?_
  exact jn (((t454.length : Int), x457, decide (x457 < (t454.length : Int)), x458, t454), g456) H
 refine WP.skip <| WP.seq <| WP.block <| WP.seq <| rg 4 12 <| gr H fun g460 H => ?_
 have h461 : x457.toNat < t454.length := idx_lt g460
 refine Dv.ixw rfl trivial rfl (mem_at 2 rfl) rfl Try.underlying76 Try.underlying39 c39 g460.1 g460.2 <| Dv.ldws (j := x457.toNat) (f := 0) rfl trivial rfl (mem_at 2 rfl) h461 Try.underlying39 rfl c39 (Nat.le_of_ble_eq_true rfl) <| al rfl trivial zc39 nofun fun b462 => sx 0 rfl trivial rfl rfl cA sz39 rfl rfl rfl nofun ?_
 refine .fin <| WP.seq <| rg 2 0 <| fb rfl trivial rfl fa39_5 <| ld 0 rfl trivial rfl sc3 rfl rfl <| .fin <| WP.block <| WP.seq <| rg 2 0 <| bn0 rfl rfl rfl run_eq <| as0 rfl rfl <| .fin <| cd H rfl (fun _ H => ?_) (fun _ H => ?_)
 ·
  refine rg 4 8 <| mv0 rfl rfl <| fb rfl trivial rfl fa39_4 <| ld 0 rfl trivial rfl sc9 rfl rfl <| Dv.mup (jj := 4) 1 rfl trivial rfl rfl rfl rfl Try.underlying58 (keyOk_str Try.underlying9) nofun <| .fin <| rg 2 0 <| bn0 rfl rfl rfl run_add <| mv0 rfl rfl <| .fin <| ng (sg 5 [0,1,2,3,4] 1) fun _ _ => ?_
  exact bk j465 (w64 (x457 + 1), mput x458 ((t454.getD x457.toNat default).fUser) 1) H
 refine WP.seq <| rg 2 0 <| bn0 rfl rfl rfl run_eq <| as0 rfl rfl <| .fin <| cd H rfl (fun _ H => ?_) (fun _ H => ?_)
 rotate_left
 ·
  refine WP.skip <| rg 2 0 <| bn0 rfl rfl rfl run_add <| mv0 rfl rfl <| .fin <| ng (sg 5 [0,1,2,3,4] 1) fun _ _ => ?_
  exact bk j465 (w64 (x457 + 1), x458) H
 refine rg 4 8 <| mv0 rfl rfl <| fb rfl trivial rfl fa39_4 <| ld 0 rfl trivial rfl sc9 rfl rfl <| Dv.mdl (jj := 4) rfl trivial rfl rfl rfl Try.underlying58 (keyOk_str Try.underlying9) nofun <| .fin <| rg 2 0 <| bn0 rfl rfl rfl run_add <| mv0 rfl rfl <| .fin <| ng (sg 5 [0,1,2,3,4] 1) fun _ _ => ?_
 exact bk j465 (w64 (x457 + 1), mdel x458 ((t454.getD x457.toNat default).fUser)) H
theorem member_Joined.c {k : Nat} {a0 : DDag} {a1 : ByteArray} {v0_0 : OV} {b0_ : Nat} {r : Bool} (h : member_Joined.f k a0 a1 = some r) : Tr Try.prog 19 [eq (.pointer (some ⟨b0_, 0, none⟩)), vS a1] [blk b0_ 51 [vS a0.froom, eq v0_0.1], mpo Value.string DNode.O v0_0.1 a0.fnodes] (γ := Unit) (fun _ => True) (fun g => vB r) (fun g => [blk b0_ 51 [vS a0.froom, eq v0_0.1], mpo Value.string DNode.O v0_0.1 a0.fnodes]) := by
 unfold member_Joined.f at h
 refine Tr.body Try.func19 (c := _) rfl Try.ntmps19 (Nat.le_of_ble_eq_true rfl) fun R0 F => ?_
 replace h := Gets.of h
 have H := h
 clear h
 refine WP.seq <| rg 1 0 <| as0 rfl rfl <| .fin <| WP.seq <| rg 6 2 <| mv0 rfl rfl <| el H fun t468 h469 H => cx 2 [0,1] cal33 (member_joined.c h469 (b0_ := b0_) (v0_0 := v0_0)) nofun fun g470 _ => ?_
 refine mv0 rfl rfl <| Dv.mlv 0 rfl trivial rfl (mem_at 2 rfl) rfl Try.underlying58 (keyOk_str Try.underlying9) z3 (fun _ => rfl) <| bn0 rfl rfl rfl run_gt <| as0 rfl rfl <| .fin ?_
 obtain rfl := Gets.out H
 exact rt i2 rfl () 3 [2,0,1] 1 (.cons (res_tmp rfl) .nil)
theorem slices_Index_string.c {k : Nat} {a0 : List ByteArray} {a1 : ByteArray} {r : Int} (h : slices_Index_string.f k a0 a1 = some r) : Pt Try.prog 55 [sl strK a0, vS a1] (vI r) := by
 unfold slices_Index_string.f at h
 refine (Tr.body Try.func55 (c := _) rfl Try.ntmps55 (Nat.le_of_ble_eq_true rfl) fun R0 F => ?_).pt
 replace h := Gets.of h
 have H := h
 clear h
 refine WP.seq <| rg 1 0 <| as0 rfl rfl <| .fin <| WP.seqr H id (fun p471 : Int × Bool => [(0, sl strK a0), (1, vS a1), (4, vI 0), (7, vI (a0.length : Int)), (8, vI p471.1), (9, vB p471.2)]) (fun p471 : Int × Bool => F) (fun p471 H => ?_) (fun H => ?_)
 ·
  refine WP.seq <| rg 1 0 <| as0 rfl rfl <| .fin ?_
  obtain rfl := Gets.out H
  exact rt i2 rfl () 0 [] 0 (.cons (res_tmp rfl) .nil)
 refine WP.seq <| rg 3 0 <| mv0 rfl rfl <| Dv.lenl rfl trivial rfl Try.underlying22 <| mv0 rfl rfl <| .fin <| WP.block <| wg (sg 0 [] 0) fun _ _ => ?_
 refine lp (fun j_ (p477 : Int) => slices_Index_string.l0 k a0 a1 j_ p477) 0 H (fun p477 => [(0, sl strK a0), (1, vS a1), (4, vI 0), (7, vI (a0.length : Int)), (8, vI p477)]) (fun p477 => F) ?_
 rintro j_ x472 H
 rcases j_ with _ | j476
 ·
  exact (Gets.no H).elim
 replace H : Gets (slices_Index_string.l0 k a0 a1 (j476 + 1) x472) _ := H
 rw [slices_Index_string.l0] at H
 refine WP.seq <| rg 1 0 <| bn0 rfl rfl rfl run_lt <| .fin <| WP.seq <| cd H rfl (fun _ H => ?_) (fun _ H => ?_)
 rotate_left
 ·
  refine WP.exit ?_
  replace H := Gets.out H
  exact jn (x472, decide (x472 < (a0.length : Int))) H
 refine WP.skip <| WP.seq <| WP.block <| WP.seq <| rg 2 0 <| mv0 rfl rfl <| as0 rfl rfl <| .fin <| WP.seq <| rg 6 0 <| mv0 rfl rfl <| mv0 rfl rfl <| mv0 rfl rfl <| gr H fun g474 H => Dv.ixr rfl trivial rfl rfl Try.underlying22 Try.underlying9 c9 g474.1 g474.2 <| ldR rfl trivial rfl sc9 rfl <| bn0 rfl rfl rfl run_seq <| .fin <| cd H rfl (fun _ H => ?_) (fun _ H => ?_)
 rotate_left
 ·
  exact WP.skip <| rg 2 0 <| bn0 rfl rfl rfl run_add <| mv0 rfl rfl <| .fin <| bk j476 (w64 (x472 + 1)) H
 refine WP.seq <| rg 2 0 <| mv0 rfl rfl <| as0 rfl rfl <| .fin ?_
 replace H := Gets.outr H
 obtain rfl := Gets.out H
 exact rt i2 rfl () 0 [] 0 (.cons (res_tmp rfl) .nil)
theorem slices_Contains_string.c {k : Nat} {a0 : List ByteArray} {a1 : ByteArray} {r : Bool} (h : slices_Contains_string.f k a0 a1 = some r) : Pt Try.prog 34 [sl strK a0, vS a1] (vB r) := by
 unfold slices_Contains_string.f at h
 refine (Tr.body Try.func34 (c := _) rfl Try.ntmps34 (Nat.le_of_ble_eq_true rfl) fun R0 F => ?_).pt
 replace h := Gets.of h
 have H := h
 clear h
 refine WP.seq <| rg 1 0 <| as0 rfl rfl <| .fin <| WP.seq <| rg 5 0 <| mv0 rfl rfl <| mv0 rfl rfl <| el H fun t478 h479 H => cl rfl cal55 rfl (slices_Index_string.c h479) <| bn0 rfl rfl rfl run_ge <| as0 rfl rfl <| .fin ?_
 obtain rfl := Gets.out H
 exact rt i2 rfl () 0 [] 0 (.cons (res_tmp rfl) .nil)
theorem member_Users.c {k : Nat} {a0 : DDag} {b0_ : Nat} {v0_0 : OV} {r : List ByteArray} (h : member_Users.f k a0 = some r) : Tr Try.prog 56 [eq (.pointer (some ⟨b0_, 0, none⟩))] [blk b0_ 51 [vS a0.froom, eq v0_0.1], mpo Value.string DNode.O v0_0.1 a0.fnodes] (γ := OV) (fun _ => True) (fun g => eq g.1) (fun g => [blk b0_ 51 [vS a0.froom, eq v0_0.1], mpo Value.string DNode.O v0_0.1 a0.fnodes, own strK g.1 r]) := by
  unfold member_Users.f at h
  obtain ⟨m, hm, h1⟩ := (Gets.of h).call
  obtain ⟨h0, h5⟩ := h1.grd
  obtain rfl := Gets.out h5
  clear h h5
  refine Tr.body Try.func56 (c := _) rfl Try.ntmps56 (Nat.le_of_ble_eq_true rfl) fun R0 F => ?_
  refine WP.seq <| rg 1 0 <| as0 rfl rfl <| .fin <| WP.seq <| rg 1 0 <| as0 rfl rfl <| .fin ?_
  refine WP.seqj (β := List Nat × OV) (fun b => b.1.Perm (List.range m.length)) (fun b => [(3, eq b.2.1)]) (fun b => [own strK b.2.1 (selM m (fun e => some e.1) b.1), blk b0_ 51 [vS a0.froom, eq v0_0.1], mpo Value.string DNode.O v0_0.1 a0.fnodes] ++ F) (fun b hb => ?_) ?_
  rotate_left
  · refine WP.seq <| rg 3 6 <| mv0 rfl rfl <| cx 2 [0,1] cal33 (member_joined.c hm (b0_ := b0_) (v0_0 := v0_0)) nofun fun gm _ => ?_
    refine Dv.gh (l' := fun _ : Unit => [blk b0_ 51 [vS a0.froom, eq v0_0.1], mpo Value.string DNode.O v0_0.1 a0.fnodes, mp Value.string (fun x : Int => vI x) gm.1 m] ++ F) (gh_of (ok := fun _ => True) fun R w k => ⟨(), trivial, k⟩) (fun _ _ => ?_)
    refine Dv.gh (l' := fun _ : Unit => [mp Value.string (fun x : Int => vI x) gm.1 m, blk b0_ 51 [vS a0.froom, eq v0_0.1], mpo Value.string DNode.O v0_0.1 a0.fnodes] ++ F) (gh_of (st_selgn 3 [2,0,1] 0 (by kernel_rfl) rfl rfl)) (fun _ _ => ?_)
    refine Dv.rgb (jj := 0) rfl trivial rfl rfl Try.underlying58 nofun (fun q => .fin ?_)
    refine WP.gh (l' := fun _ : Unit => [rng Value.string (fun x : Int => vI x) gm.1 q.1 m [], blk b0_ 51 [vS a0.froom, eq v0_0.1], mpo Value.string DNode.O v0_0.1 a0.fnodes] ++ F) (gh_of (ok := fun _ => True) fun R w k => ⟨(), trivial, k⟩) (fun _ _ => ?_)
    refine WP.gh (l' := fun _ : Unit => [own strK nilV.1 [], rng Value.string (fun x : Int => vI x) gm.1 q.1 m [], blk b0_ 51 [vS a0.froom, eq v0_0.1], mpo Value.string DNode.O v0_0.1 a0.fnodes] ++ F) (gh_of (st_nil strK none)) (fun _ _ => ?_)
    refine WP.block ?_
    refine WP.weak (E' := (fun b : List Nat × OV => [(3, eq b.2.1), (7, eq q.1)]) ([], nilV)) (weak_cons rfl (weak_cons rfl weak_nil)) (WP.loop (β := List Nat × OV) (fun k b => b.1.length + k = m.length) (fun b => [(3, eq b.2.1), (7, eq q.1)]) (fun b => [own strK b.2.1 (selM m (fun e => some e.1) b.1), rng Value.string (fun x : Int => vI x) gm.1 q.1 m b.1, blk b0_ 51 [vS a0.froom, eq v0_0.1], mpo Value.string DNode.O v0_0.1 a0.fnodes] ++ F) ?_ (k := m.length) (b := ([], nilV)) (Nat.zero_add _))
    rintro k ⟨is, v⟩ hk
    replace hk : is.length + k = m.length := hk
    refine WP.seq <| rg 2 1 <| Dv.rgn (jj := 1) rfl trivial rfl rfl nofun (fun z hz => ?_)
    rcases z with _ | j
    · have hz : is.Perm (List.range m.length) := hz
      refine ex0 rfl trivial rfl rfl <| .fin <| WP.seq <| WP.cond rfl nofun (fun _ => WP.exit ?_)
      refine Dn.gh (l' := fun _ : Unit => [own strK v.1 (selM m (fun e => some e.1) is), rng Value.string (fun x : Int => vI x) gm.1 q.1 m is, blk b0_ 51 [vS a0.froom, eq v0_0.1], mpo Value.string DNode.O v0_0.1 a0.fnodes] ++ F) (gh_of (ok := fun _ => True) fun R w k => ⟨(), trivial, k⟩) (fun _ _ => ?_)
      refine Dn.gh (l' := fun _ : Unit => [mp Value.string (fun x : Int => vI x) gm.1 m, own strK v.1 (selM m (fun e => some e.1) is), blk b0_ 51 [vS a0.froom, eq v0_0.1], mpo Value.string DNode.O v0_0.1 a0.fnodes] ++ F) (gh_of (st_rge (pm 4 [1,0,2,3]))) (fun _ _ => ?_)
      refine Dn.gh (l' := fun _ : Unit => [own strK v.1 (selM m (fun e => some e.1) is), blk b0_ 51 [vS a0.froom, eq v0_0.1], mpo Value.string DNode.O v0_0.1 a0.fnodes] ++ F) (gh_of (st_selgn 4 [0,1,2,3] 1 (by kernel_rfl) rfl rfl)) (fun _ _ => ?_)
      exact Jn.mk (is, v) hz (weak_cons rfl weak_nil) (List.Perm.refl _)
    have hz : j < m.length ∧ j ∉ is ∧ is.length < m.length := hz
    obtain ⟨e, he⟩ : ∃ e, m[j]? = some e := ⟨_, List.getElem?_eq_getElem hz.1⟩
    have hep := he
    have hlt := hz.2.2
    have hsl := Nat.le_trans (selM_len (m := m) (f := (fun e => some e.1)) (is := is)) (Nat.le_of_lt hlt)
    have e1 : nxV Value.string (fun x : Int => vI x) m (some j) = tup [vB true, vS e.1, vI e.2] := by simp only [nxV, hep]
    rw [e1]
    refine ex0 rfl trivial rfl rfl <| .fin <| WP.seq <| WP.cond rfl (fun _ => WP.skip ?_) nofun
    refine WP.gh (l' := fun _ : Unit => [own strK v.1 (selM m (fun e => some e.1) is), rng Value.string (fun x : Int => vI x) gm.1 q.1 m (is ++ [j]), blk b0_ 51 [vS a0.froom, eq v0_0.1], mpo Value.string DNode.O v0_0.1 a0.fnodes] ++ F) (gh_of (ok := fun _ => True) fun R w k => ⟨(), trivial, k⟩) (fun _ _ => ?_)
    refine WP.block <| WP.seq <| rg 3 0 <| Dv.rge 1 rfl trivial rfl rfl hep ?_
    refine ex0 rfl trivial rfl rfl <| as0 rfl rfl <| .fin ?_
    have e6 := selM_some (f := (fun e => some e.1)) (is := is) he rfl
    have hbd : (selM m (fun e => some e.1) is).length + ([e.1] : List ByteArray).length ≤ 9223372036854775807 ∧ ((selM m (fun e => some e.1) is).length + ([e.1] : List ByteArray).length) * 16 ≤ 140737488355328 := by rw [List.length_singleton]; omega
    refine rg 5 8 <| mv0 rfl rfl <| mv0 rfl rfl <| Dv.lit strK ([e.1] : List ByteArray) (css := [[vS e.1]]) rfl trivial Try.underlying22 Try.underlying9 c9 z9 rfl (by decide) (by decide) rfl ⟨(cells_one (one_eq rfl)), trivial⟩ rfl rfl rfl <| ap strK 0 ([e.1] : List ByteArray) src_sl Try.underlying22 (.inr ⟨_, Try.underlying22⟩) inf9 hbd nofun fun v9 => as0 rfl rfl <| .fin ?_
    rw [e6]
    exact Back.mk (k - 1) (is ++ [j], v9) (by omega) (by show (is ++ [j]).length + (k - 1) = _; rw [List.length_append, List.length_singleton]; omega) (weak_cons rfl (weak_cons rfl weak_nil)) (List.Perm.refl _)
  obtain ⟨is, v3⟩ := b
  replace hb : is.Perm (List.range m.length) := hb
  have hp := selM_perm (f := (fun e => some e.1)) hb
  have hs : slices_Sort_string.f (selM m (fun e => some e.1) is) = some (srtS (m.map (·.1))) := by
    have e7 : m.filterMap (fun e => some e.1) = m.map (·.1) := by rw [← List.filterMap_eq_map]; rfl
    rw [e7] at hp
    unfold slices_Sort_string.f Sp.grd
    rw [if_pos (by rw [hp.length_eq, List.length_map]; omega), srtS_eq hp]
  refine WP.seq <| rg 2 2 <| mv0 rfl rfl <| cx 3 [0,1,2] cal13 (slices_Sort_string.c hs (p0_ := v3)) nofun fun _ _ => .fin ?_
  refine WP.seq <| rg 2 0 <| mv0 rfl rfl <| as0 rfl rfl <| .fin <| rt i2 rfl v3 3 [1,2,0] 0 (.cons (res_tmp rfl) .nil)
theorem member_Servers.c {k : Nat} {a0 : DDag} {v0_0 : OV} {b0_ : Nat} {r : (List ByteArray)} (h : member_Servers.f k a0 = some r) : Tr Try.prog 35 [eq (.pointer (some ⟨b0_, 0, none⟩))] [blk b0_ 51 [vS a0.froom, eq v0_0.1], mpo Value.string DNode.O v0_0.1 a0.fnodes] (γ := OV) (fun _ => True) (fun g => eq g.1) (fun g => [blk b0_ 51 [vS a0.froom, eq v0_0.1], mpo Value.string DNode.O v0_0.1 a0.fnodes, own strK g.1 r]) := by
 unfold member_Servers.f at h
 refine Tr.body Try.func35 (c := _) rfl Try.ntmps35 (Nat.le_of_ble_eq_true rfl) fun R0 F => ?_
 replace h := Gets.of h
 have H := h
 clear h
 refine WP.seq <| rg 1 0 <| as0 rfl rfl <| .fin <| WP.seq <| rg 4 6 <| mv0 rfl rfl <| el H fun t480 h481 H => cx 2 [0,1] cal56 (member_Users.c h481 (b0_ := b0_) (v0_0 := v0_0)) nofun fun g482 _ => ?_
 refine el H fun t483 h484 H => cx 3 [2,0,1] cal7 (Tr.lend [own strK g482.1 t480] (member_Homes.c h484) (.cons (lt_own (mem_at 0 rfl)) .nil) (fun _ => flat_eq) (fun _ => (flatAs_cons (flatA_own flatK_str) flatAs_nil))) nofun fun g485 _ => ?_
 refine as0 rfl rfl <| .fin ?_
 obtain rfl := Gets.out H
 exact rt i2 rfl g485 4 [0,2,3,1] 1 (.cons (res_tmp rfl) .nil)
theorem member_In.c {k : Nat} {a0 : DDag} {a1 : ByteArray} {v0_0 : OV} {b0_ : Nat} {r : Bool} (h : member_In.f k a0 a1 = some r) : Tr Try.prog 20 [eq (.pointer (some ⟨b0_, 0, none⟩)), vS a1] [blk b0_ 51 [vS a0.froom, eq v0_0.1], mpo Value.string DNode.O v0_0.1 a0.fnodes] (γ := Unit) (fun _ => True) (fun g => vB r) (fun g => [blk b0_ 51 [vS a0.froom, eq v0_0.1], mpo Value.string DNode.O v0_0.1 a0.fnodes]) := by
 unfold member_In.f at h
 refine Tr.body Try.func20 (c := _) rfl Try.ntmps20 (Nat.le_of_ble_eq_true rfl) fun R0 F => ?_
 replace h := Gets.of h
 have H := h
 clear h
 refine WP.seq <| rg 1 0 <| as0 rfl rfl <| .fin <| WP.seq <| rg 5 2 <| mv0 rfl rfl <| el H fun t486 h487 H => cx 2 [0,1] cal35 (member_Servers.c h487 (b0_ := b0_) (v0_0 := v0_0)) nofun fun g488 _ => ?_
 refine mv0 rfl rfl <| el H fun t489 h490 H => cll (B := [own strK g488.1 t486]) 3 [2,0,1] cal34 (Pt.lend _ (slices_Contains_string.c h490) (.cons (lt_own (mem_at 0 rfl)) (.cons lt_id .nil)) flat_eq) ?_
 refine as0 rfl rfl <| .fin ?_
 obtain rfl := Gets.out H
 exact rt i2 rfl () 3 [2,0,1] 1 (.cons (res_tmp rfl) .nil)
theorem concourselaw09_lives.c {k : Nat} {r : Bool} (h : concourselaw09_lives.f k = some r) : Pt Try.prog 9 [] (vB r) := by
 unfold concourselaw09_lives.f at h
 refine (Tr.body Try.func9 (c := _) rfl Try.ntmps9 (Nat.le_of_ble_eq_true rfl) fun R0 F => ?_).pt
 replace h := Gets.of h
 have H := h
 clear h
 refine WP.seq <| rg 1 0 <| as0 rfl rfl <| .fin <| WP.seq <| rg 2 1 <| el H fun t491 h492 H => cx 0 [] cal17 (dag_New.c h492) nofun fun g493 _ => ?_
 refine as0 rfl rfl <| .fin <| WP.seq <| WP.seq <| rg 2 0 <| mv0 rfl rfl <| Dv.peq0 DDag.nn rfl trivial rfl rfl Try.underlying34 (mem_at 0 rfl) <| .fin <| WP.cond rfl nofun (fun _ => ?_)
 refine WP.skip <| WP.seq <| rg 3 4 <| mv0 rfl rfl <| Dv.bld (css := [[vS (⟨#[36, 97]⟩ : ByteArray)], [vS (⟨#[33, 114, 58, 115]⟩ : ByteArray)], [vS (⟨#[64, 97, 58, 115]⟩ : ByteArray)], [vI 1]]) rfl trivial Try.underlying39 pl39 z39 rfl ⟨(cells_one (one_eq rfl)), ⟨(cells_one (one_eq rfl)), ⟨(cells_one (one_eq rfl)), ⟨(cells_one (one_eq rfl)), trivial⟩⟩⟩⟩ rfl rfl <| el H fun t495 h496 H => cx 1 [0] cal18 (Tr.weak (dag_Dag_Add.c h496 (p0_ := g493)) (.cons wk_id (.cons (wk_agg (.cons wk_id (.cons wk_id (.cons wk_nil (.cons wk_id (.cons wk_id (.cons wk_id .nil))))))) .nil))) nofun fun _ _ => ?_
 refine .fin <| WP.seq <| rg 4 8 <| mv0 rfl rfl <| Dv.lit strK ([(⟨#[36, 97]⟩ : ByteArray)] : List ByteArray) (css := [[vS (⟨#[36, 97]⟩ : ByteArray)]]) rfl trivial Try.underlying22 Try.underlying9 c9 z9 rfl (by decide) (by decide) rfl ⟨(cells_one (one_eq rfl)), trivial⟩ rfl rfl rfl <| Dv.bld (css := [[vS (⟨#[36, 98]⟩ : ByteArray)], [vS (⟨#[33, 114, 58, 115]⟩ : ByteArray)], [vS (⟨#[64, 97, 58, 115]⟩ : ByteArray)], [vI 2], [sl strK ([(⟨#[36, 97]⟩ : ByteArray)] : List ByteArray)]]) rfl trivial Try.underlying39 pl39 z39 rfl ⟨(cells_one (one_eq rfl)), ⟨(cells_one (one_eq rfl)), ⟨(cells_one (one_eq rfl)), ⟨(cells_one (one_eq rfl)), ⟨(cells_one one_sl), trivial⟩⟩⟩⟩⟩ rfl rfl <| el H fun t497 h498 H => cx 1 [0] cal18 (dag_Dag_Add.c h498 (p0_ := g493)) nofun fun _ _ => ?_
 refine .fin <| WP.seq <| rg 3 0 <| mv0 rfl rfl <| vg (DDag.opn 0 rfl) fun g499 h500 => ?_
 refine el H fun t501 h502 H => cll 2 [0,1] cal19 (Tr.weak (member_Joined.c h502 (b0_ := g499.1) (v0_0 := g499.2)) (.cons (wk_ptr h500) (.cons wk_id .nil))) ?_
 refine as0 rfl rfl <| .fin <| WP.seq <| rg 4 8 <| mv0 rfl rfl <| Dv.lit strK ([(⟨#[36, 98]⟩ : ByteArray)] : List ByteArray) (css := [[vS (⟨#[36, 98]⟩ : ByteArray)]]) rfl trivial Try.underlying22 Try.underlying9 c9 z9 rfl (by decide) (by decide) rfl ⟨(cells_one (one_eq rfl)), trivial⟩ rfl rfl rfl <| Dv.bld (css := [[vS (⟨#[36, 99]⟩ : ByteArray)], [vS (⟨#[33, 114, 58, 115]⟩ : ByteArray)], [vS (⟨#[64, 97, 58, 115]⟩ : ByteArray)], [vI 1], [sl strK ([(⟨#[36, 98]⟩ : ByteArray)] : List ByteArray)]]) rfl trivial Try.underlying39 pl39 z39 rfl ⟨(cells_one (one_eq rfl)), ⟨(cells_one (one_eq rfl)), ⟨(cells_one (one_eq rfl)), ⟨(cells_one (one_eq rfl)), ⟨(cells_one one_sl), trivial⟩⟩⟩⟩⟩ rfl rfl <| vg (DDag.shut (p := g493) (m := t497.2) (g499.1, g499.2) h500 (pm 2 [0,1])) fun _ _ => ?_
 refine el H fun t503 h504 H => cx 1 [0] cal18 (dag_Dag_Add.c h504 (p0_ := g493)) nofun fun _ _ => ?_
 refine .fin <| WP.seq <| rg 11 0 <| mv0 rfl rfl <| un0 rfl rfl (run_not _) <| mv0 rfl rfl ?_
 cases c505 : !t501
 ·
  replace H := Gets.cf H c505
  refine sk rfl rfl <| sk rfl rfl <| pf0 rfl rfl rfl <| mv0 rfl rfl <| sk rfl rfl <| sk rfl rfl <| pf0 rfl rfl rfl <| as0 rfl rfl <| .fin ?_
  obtain rfl := Gets.out H
  exact rt i2 rfl () 1 [0] 1 (.cons (res_tmp rfl) .nil)
 replace H := Gets.ct H c505
 refine mvg rfl rfl rfl <| vg (DDag.opn 0 rfl) fun g506 h507 => ?_
 refine el H fun t508 h509 H => cll 2 [0,1] cal19 (Tr.weak (member_Joined.c h509 (b0_ := g506.1) (v0_0 := g506.2)) (.cons (wk_ptr h507) (.cons wk_id .nil))) ?_
 refine pt0 rfl rfl rfl <| mv0 rfl rfl ?_
 cases c510 : t508
 ·
  replace H := Gets.cf H c510
  refine sk rfl rfl <| sk rfl rfl <| pf0 rfl rfl rfl <| as0 rfl rfl <| .fin <| wg (DDag.shut (p := g493) (m := t503.2) (g506.1, g506.2) h507 (pm 2 [0,1])) fun _ _ => ?_
  obtain rfl := Gets.out H
  exact rt i2 rfl () 1 [0] 1 (.cons (res_tmp rfl) .nil)
 replace H := Gets.ct H c510
 refine mvg rfl rfl rfl <| el H fun t511 h512 H => cll 2 [0,1] cal20 (Tr.weak (member_In.c h512 (b0_ := g506.1) (v0_0 := g506.2)) (.cons (wk_ptr h507) (.cons wk_id .nil))) ?_
 refine pt0 rfl rfl rfl <| as0 rfl rfl <| .fin <| wg (DDag.shut (p := g493) (m := t503.2) (g506.1, g506.2) h507 (pm 2 [0,1])) fun _ _ => ?_
 obtain rfl := Gets.out H
 exact rt i2 rfl () 1 [0] 1 (.cons (res_tmp rfl) .nil)
end Go.Proofs.Ytdbinmknbmlddaa
