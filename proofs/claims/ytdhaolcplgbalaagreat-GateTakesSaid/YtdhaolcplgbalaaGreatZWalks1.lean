/- The walks. -/
import Derived.Test.YtdhaolcplgbalaaGreatZMir
import Derived.Test.YtdhaolcplgbalaaGreatConQ
import Derived.Test.YtdhaolcplgbalaaGreatConA5
import Derived.Eval
import Derived.Test.YtdhaolcplgbalaaGreatZShelf
set_option linter.all false
set_option maxRecDepth 10000
set_option maxHeartbeats 20000000
namespace Go.Proofs.YtdhaolcplgbalaaGreat
open Go Go.Sp
theorem concourseref01_Around.c {a0 : Int} {a1 : Int} {r : Int} (h : concourseref01_Around.f a0 a1 = some r) : Pt Tryz.prog 36 [vI a0, vI a1] (vI r) := by
 unfold concourseref01_Around.f at h
 refine (Tr.body Tryz.func36 (c := _) rfl Tryz.ntmps36 (Nat.le_of_ble_eq_true rfl) fun R0 F => ?_).pt
 replace h := Gets.of h
 have H := h
 clear h
 refine WP.seq <| rg 1 0 <| as0 rfl rfl <| .fin <| WP.seq <| WP.seq <| rg 2 0 <| mv0 rfl rfl <| bn0 rfl rfl rfl run_lt <| .fin <| cd H rfl (fun _ H => ?_) (fun _ H => ?_)
 rotate_left
 ·
  refine WP.skip <| WP.seq <| rg 4 0 <| mv0 rfl rfl <| mv0 rfl rfl <| gr H fun g3 H => bn0 rfl rfl rfl (run_rem g3) <| as0 rfl rfl <| .fin ?_
  obtain rfl := Gets.out H
  exact rt i2 rfl () 0 [] 0 (.cons (res_tmp rfl) .nil)
 refine rg 4 0 <| mv0 rfl rfl <| bn0 rfl rfl rfl run_add <| un0 rfl rfl (run_neg _ _) <| as0 rfl rfl <| .fin <| WP.seq <| rg 4 0 <| mv0 rfl rfl <| mv0 rfl rfl <| gr H fun g2 H => bn0 rfl rfl rfl (run_rem g2) <| as0 rfl rfl <| .fin ?_
 obtain rfl := Gets.out H
 exact rt i2 rfl () 0 [] 0 (.cons (res_tmp rfl) .nil)
theorem concourseref01_RoomOf.c {a0 : Int} {r : ByteArray} (h : concourseref01_RoomOf.f a0 = some r) : Pt Tryz.prog 57 [vI a0] (vS r) := by
 unfold concourseref01_RoomOf.f at h
 refine (Tr.body Tryz.func57 (c := _) rfl Tryz.ntmps57 (Nat.le_of_ble_eq_true rfl) fun R0 F => ?_).pt
 replace h := Gets.of h
 have H := h
 clear h
 refine WP.seq <| rg 1 0 <| as0 rfl rfl <| .fin <| WP.seq <| rg 6 0 <| Dv.lit strK ([(⟨#[33, 114, 58, 115, 49]⟩ : ByteArray), (⟨#[33, 113, 58, 115, 50]⟩ : ByteArray)] : List ByteArray) (css := [[vS (⟨#[33, 114, 58, 115, 49]⟩ : ByteArray)], [vS (⟨#[33, 113, 58, 115, 50]⟩ : ByteArray)]]) rfl trivial Tryz.underlying35 Tryz.underlying9 c9 z9 rfl (by decide) (by decide) rfl ⟨(cells_one (one_eq rfl)), ⟨(cells_one (one_eq rfl)), trivial⟩⟩ rfl rfl rfl <| mv0 rfl rfl <| el H fun t4 h5 H => cl rfl cal36 rfl (concourseref01_Around.c h5) <| gr H fun g6 H => Dv.ixr rfl trivial rfl rfl Tryz.underlying35 Tryz.underlying9 c9 g6.1 g6.2 <| ldR rfl trivial rfl sc9 rfl <| as0 rfl rfl <| .fin ?_
 obtain rfl := Gets.out H
 exact rt i2 rfl () 0 [] 0 (.cons (res_tmp rfl) .nil)
theorem concourseref01_ServerOf.c {a0 : Int} {r : ByteArray} (h : concourseref01_ServerOf.f a0 = some r) : Pt Tryz.prog 11 [vI a0] (vS r) := by
 unfold concourseref01_ServerOf.f at h
 refine (Tr.body Tryz.func11 (c := _) rfl Tryz.ntmps11 (Nat.le_of_ble_eq_true rfl) fun R0 F => ?_).pt
 replace h := Gets.of h
 have H := h
 clear h
 refine WP.seq <| rg 1 0 <| as0 rfl rfl <| .fin <| WP.seq <| rg 6 0 <| Dv.lit strK ([(⟨#[115, 49]⟩ : ByteArray), (⟨#[115, 50]⟩ : ByteArray), (⟨#[115, 51]⟩ : ByteArray)] : List ByteArray) (css := [[vS (⟨#[115, 49]⟩ : ByteArray)], [vS (⟨#[115, 50]⟩ : ByteArray)], [vS (⟨#[115, 51]⟩ : ByteArray)]]) rfl trivial Tryz.underlying35 Tryz.underlying9 c9 z9 rfl (by decide) (by decide) rfl ⟨(cells_one (one_eq rfl)), ⟨(cells_one (one_eq rfl)), ⟨(cells_one (one_eq rfl)), trivial⟩⟩⟩ rfl rfl rfl <| mv0 rfl rfl <| el H fun t7 h8 H => cl rfl cal36 rfl (concourseref01_Around.c h8) <| gr H fun g9 H => Dv.ixr rfl trivial rfl rfl Tryz.underlying35 Tryz.underlying9 c9 g9.1 g9.2 <| ldR rfl trivial rfl sc9 rfl <| as0 rfl rfl <| .fin ?_
 obtain rfl := Gets.out H
 exact rt i2 rfl () 0 [] 0 (.cons (res_tmp rfl) .nil)
theorem concourseref01_UserOf.c {a0 : Int} {r : ByteArray} (h : concourseref01_UserOf.f a0 = some r) : Pt Tryz.prog 24 [vI a0] (vS r) := by
 unfold concourseref01_UserOf.f at h
 refine (Tr.body Tryz.func24 (c := _) rfl Tryz.ntmps24 (Nat.le_of_ble_eq_true rfl) fun R0 F => ?_).pt
 replace h := Gets.of h
 have H := h
 clear h
 refine WP.seq <| rg 1 0 <| as0 rfl rfl <| .fin <| WP.seq <| rg 3 0 <| mv0 rfl rfl <| el H fun t10 h11 H => cl rfl cal36 rfl (concourseref01_Around.c h11) <| as0 rfl rfl <| .fin <| WP.seq <| dg Tryz.checked.mixed 10 0 <| Dv.lit strK ([(⟨#[64, 97, 58]⟩ : ByteArray), (⟨#[64, 98, 58]⟩ : ByteArray), (⟨#[64, 99, 58]⟩ : ByteArray)] : List ByteArray) (css := [[vS (⟨#[64, 97, 58]⟩ : ByteArray)], [vS (⟨#[64, 98, 58]⟩ : ByteArray)], [vS (⟨#[64, 99, 58]⟩ : ByteArray)]]) rfl trivial Tryz.underlying35 Tryz.underlying9 c9 z9 rfl (by decide) (by decide) rfl ⟨(cells_one (one_eq rfl)), ⟨(cells_one (one_eq rfl)), ⟨(cells_one (one_eq rfl)), trivial⟩⟩⟩ rfl rfl rfl <| mv0 rfl rfl <| bn0 rfl rfl rfl (run_quo (by decide)) <| gr H fun g12 H => Dv.ixr rfl trivial rfl rfl Tryz.underlying35 Tryz.underlying9 c9 g12.1 g12.2 <| ldR rfl trivial rfl sc9 rfl <| mv0 rfl rfl <| bn0 rfl rfl rfl (run_rem (by decide)) <| el H fun t13 h14 H => cl rfl cal11 rfl (concourseref01_ServerOf.c h14) <| gr H fun g15 H => bn0 rfl rfl rfl (run_cat g15) <| as0 rfl rfl <| .fin ?_
 obtain rfl := Gets.out H
 exact rt i2 rfl () 0 [] 0 (.cons (res_tmp rfl) .nil)
theorem concourseref01_Decimal.c : ∀ (k : Nat) {a0 : Int} {r : ByteArray} (h : concourseref01_Decimal.f k a0 = some r), Pt Tryz.prog 88 [vI a0] (vS r)
  | 0, _, _, h => by cases h
  | k + 1, a0, r, h => by
    rw [concourseref01_Decimal.f] at h
    refine (Tr.body Tryz.func88 (c := _) rfl Tryz.ntmps88 (Nat.le_of_ble_eq_true rfl) fun R0 F => ?_).pt
    replace h := Gets.of h
    have H := h
    clear h
    refine WP.seq <| rg 1 0 <| as0 rfl rfl <| .fin <| WP.seq <| rg 3 0 <| mv0 rfl rfl <| bn0 rfl rfl rfl (run_rem (by decide)) <| as0 rfl rfl <| .fin <| WP.seqn H id (fun p16 : Int => [(0, vI a0), (2, vS (⟨#[]⟩ : ByteArray)), (3, vI p16), (8, vB (decide ((a0.tmod 10) < 0)))]) (fun p16 : Int => F) (fun p16 H => ?_) (fun H => ?_)
    rotate_left
    ·
     refine WP.seq <| rg 2 0 <| mv0 rfl rfl <| bn0 rfl rfl rfl run_lt <| .fin <| cd H rfl (fun _ H => ?_) (fun _ H => ?_)
     rotate_left
     ·
      refine WP.skip ?_
      replace H := Gets.out H
      exact jn (a0.tmod 10) H
     refine rg 3 0 <| mv0 rfl rfl <| un0 rfl rfl (run_neg _ _) <| as0 rfl rfl <| .fin ?_
     replace H := Gets.out H
     exact jn (w64 (0 - (a0.tmod 10))) H
    refine WP.seq <| rg 6 0 <| mv0 rfl rfl <| bn0 rfl rfl rfl run_add <| Dv.cvi rfl trivial rfl Tryz.underlying3 Tryz.underlying5 <| Dv.lit (intK .u8) ([IntKind.u8.wrap (w64 (48 + p16))] : List Int) (css := [[eq (.int .u8 (IntKind.u8.wrap (w64 (48 + p16))))]]) rfl trivial Tryz.underlying122 Tryz.underlying5 c5 z5 rfl (by decide) (by decide) rfl ⟨(cells_one (one_eq rfl)), trivial⟩ rfl rfl rfl <| Dv.cvbs rfl trivial rfl Tryz.underlying122 Tryz.underlying5 Tryz.underlying9 <| as0 rfl rfl <| .fin <| WP.seq <| WP.seq <| rg 6 0 <| mv0 rfl rfl <| bn0 rfl rfl rfl run_gt <| mv0 rfl rfl ?_
    cases c17 : decide ((-10) < a0)
    ·
     replace H := Gets.cf H c17
     refine sk rfl rfl <| sk rfl rfl <| pf0 rfl rfl rfl <| .fin <| WP.cond rfl nofun (fun _ => ?_)
     refine WP.skip <| WP.seq <| rg 6 0 <| mv0 rfl rfl <| bn0 rfl rfl rfl (run_quo (by decide)) <| el H fun t25 h26 H => cl rfl cal88 rfl (concourseref01_Decimal.c k h26) <| mv0 rfl rfl <| gr H fun g27 H => bn0 rfl rfl rfl (run_cat g27) <| as0 rfl rfl <| .fin ?_
     obtain rfl := Gets.out H
     exact rt i2 rfl () 0 [] 0 (.cons (res_tmp rfl) .nil)
    replace H := Gets.ct H c17
    refine mvg rfl rfl rfl <| bng rfl rfl rfl rfl run_lt <| pt0 rfl rfl rfl <| .fin <| cd H rfl (fun _ H => ?_) (fun _ H => ?_)
    rotate_left
    ·
     refine WP.skip <| WP.seq <| rg 6 0 <| mv0 rfl rfl <| bn0 rfl rfl rfl (run_quo (by decide)) <| el H fun t21 h22 H => cl rfl cal88 rfl (concourseref01_Decimal.c k h22) <| mv0 rfl rfl <| gr H fun g23 H => bn0 rfl rfl rfl (run_cat g23) <| as0 rfl rfl <| .fin ?_
     obtain rfl := Gets.out H
     exact rt i2 rfl () 0 [] 0 (.cons (res_tmp rfl) .nil)
    refine WP.seq <| WP.seq <| rg 2 0 <| mv0 rfl rfl <| bn0 rfl rfl rfl run_lt <| .fin <| cd H rfl (fun _ H => ?_) (fun _ H => ?_)
    rotate_left
    ·
     refine WP.skip <| WP.seq <| rg 2 0 <| mv0 rfl rfl <| as0 rfl rfl <| .fin ?_
     obtain rfl := Gets.out H
     exact rt i2 rfl () 0 [] 0 (.cons (res_tmp rfl) .nil)
    refine WP.seq <| rg 3 0 <| mv0 rfl rfl <| gr H fun g20 H => bn0 rfl rfl rfl (run_cat g20) <| as0 rfl rfl <| .fin ?_
    obtain rfl := Gets.out H
    exact rt i2 rfl () 0 [] 0 (.cons (res_tmp rfl) .nil)
theorem concourseref01_EventOf.c {k : Nat} {a0 : Int} {r : ByteArray} (h : concourseref01_EventOf.f k a0 = some r) : Pt Tryz.prog 58 [vI a0] (vS r) := by
 unfold concourseref01_EventOf.f at h
 refine (Tr.body Tryz.func58 (c := _) rfl Tryz.ntmps58 (Nat.le_of_ble_eq_true rfl) fun R0 F => ?_).pt
 replace h := Gets.of h
 have H := h
 clear h
 refine WP.seq <| rg 1 0 <| as0 rfl rfl <| .fin <| WP.seq <| rg 5 0 <| mv0 rfl rfl <| el H fun t29 h30 H => cl rfl cal36 rfl (concourseref01_Around.c h30) <| el H fun t31 h32 H => cl rfl cal88 rfl (concourseref01_Decimal.c _ h32) <| gr H fun g33 H => bn0 rfl rfl rfl (run_cat g33) <| as0 rfl rfl <| .fin ?_
 obtain rfl := Gets.out H
 exact rt i2 rfl () 0 [] 0 (.cons (res_tmp rfl) .nil)
theorem concourseref01_colon.c {k : Nat} {a0 : ByteArray} {r : Int} (h : concourseref01_colon.f k a0 = some r) : Pt Tryz.prog 63 [vS a0] (vI r) := by
 unfold concourseref01_colon.f at h
 refine (Tr.body Tryz.func63 (c := _) rfl Tryz.ntmps63 (Nat.le_of_ble_eq_true rfl) fun R0 F => ?_).pt
 replace h := Gets.of h
 have H := h
 clear h
 refine WP.seq <| rg 1 0 <| as0 rfl rfl <| .fin <| WP.seqr H id (fun p34 : Int × Bool => [(0, vS a0), (2, vI 0), (3, vI p34.1), (7, vB p34.2)]) (fun p34 : Int × Bool => F) (fun p34 H => ?_) (fun H => ?_)
 ·
  refine WP.seq <| rg 1 0 <| as0 rfl rfl <| .fin ?_
  obtain rfl := Gets.out H
  exact rt i2 rfl () 0 [] 0 (.cons (res_tmp rfl) .nil)
 refine WP.seq <| rg 1 0 <| as0 rfl rfl <| .fin <| WP.block <| wg (sg 0 [] 0) fun _ _ => ?_
 refine lp (fun j_ (p40 : Int) => concourseref01_colon.l0 k a0 j_ p40) 0 H (fun p40 => [(0, vS a0), (2, vI 0), (3, vI p40)]) (fun p40 => F) ?_
 rintro j_ x35 H
 rcases j_ with _ | j39
 ·
  exact (Gets.no H).elim
 replace H : Gets (concourseref01_colon.l0 k a0 (j39 + 1) x35) _ := H
 rw [concourseref01_colon.l0] at H
 refine WP.seq <| WP.seq <| rg 4 0 <| mv0 rfl rfl <| mv0 rfl rfl <| Dv.lens rfl trivial rfl Tryz.underlying9 <| bn0 rfl rfl rfl run_lt <| .fin <| cd H rfl (fun _ H => ?_) (fun _ H => ?_)
 rotate_left
 ·
  refine WP.exit ?_
  replace H := Gets.out H
  exact jn (x35, decide (x35 < (a0.size : Int))) H
 refine WP.skip <| WP.seq <| WP.block <| WP.seq <| rg 4 0 <| mv0 rfl rfl <| mv0 rfl rfl <| gr H fun g37 H => Dv.ixs rfl trivial rfl rfl Tryz.underlying9 g37.1 g37.2 <| bn0 rfl rfl rfl run_eq <| .fin <| cd H rfl (fun _ H => ?_) (fun _ H => ?_)
 rotate_left
 ·
  exact WP.skip <| rg 3 0 <| mv0 rfl rfl <| bn0 rfl rfl rfl run_add <| as0 rfl rfl <| .fin <| bk j39 (w64 (x35 + 1)) H
 refine WP.seq <| rg 2 0 <| mv0 rfl rfl <| as0 rfl rfl <| .fin ?_
 replace H := Gets.outr H
 obtain rfl := Gets.out H
 exact rt i2 rfl () 0 [] 0 (.cons (res_tmp rfl) .nil)
theorem concourseref01_low.c {a0 : Int} {r : Bool} (h : concourseref01_low.f a0 = some r) : Pt Tryz.prog 113 [eq (.int .u8 a0)] (vB r) := by
 unfold concourseref01_low.f at h
 refine (Tr.body Tryz.func113 (c := _) rfl Tryz.ntmps113 (Nat.le_of_ble_eq_true rfl) fun R0 F => ?_).pt
 replace h := Gets.of h
 have H := h
 clear h
 refine WP.seq <| rg 1 0 <| as0 rfl rfl <| .fin <| WP.seq <| rg 15 0 <| mv0 rfl rfl <| bn0 rfl rfl rfl run_ge <| mv0 rfl rfl ?_
 cases c41 : decide (97 ≤ a0)
 ·
  replace H := Gets.cf H c41
  refine sk rfl rfl <| sk rfl rfl <| pf0 rfl rfl rfl <| mv0 rfl rfl <| mvg rfl rfl rfl <| bng rfl rfl rfl rfl run_ge <| mvg rfl rfl rfl ?_
  cases c44 : decide (48 ≤ a0)
  ·
   replace H := Gets.cf H c44
   refine sk rfl rfl <| sk rfl rfl <| pfg rfl rfl rfl rfl <| pf0 rfl rfl rfl <| as0 rfl rfl <| .fin ?_
   obtain rfl := Gets.out H
   exact rt i2 rfl () 0 [] 0 (.cons (res_tmp rfl) .nil)
  replace H := Gets.ct H c44
  refine mvg rfl rfl rfl <| bng rfl rfl rfl rfl run_le <| ptg rfl rfl rfl rfl <| pf0 rfl rfl rfl <| as0 rfl rfl <| .fin ?_
  obtain rfl := Gets.out H
  exact rt i2 rfl () 0 [] 0 (.cons (res_tmp rfl) .nil)
 replace H := Gets.ct H c41
 refine mvg rfl rfl rfl <| bng rfl rfl rfl rfl run_le <| pt0 rfl rfl rfl <| mv0 rfl rfl ?_
 cases c42 : decide (a0 ≤ 122)
 rotate_left
 ·
  replace H := Gets.ct H c42
  refine sk rfl rfl <| sk rfl rfl <| sk rfl rfl <| sku rfl rfl <| sku rfl rfl <| sk rfl rfl <| pt0 rfl rfl rfl <| as0 rfl rfl <| .fin ?_
  obtain rfl := Gets.out H
  exact rt i2 rfl () 0 [] 0 (.cons (res_tmp rfl) .nil)
 replace H := Gets.cf H c42
 refine mvg rfl rfl rfl <| bng rfl rfl rfl rfl run_ge <| mvg rfl rfl rfl ?_
 cases c43 : decide (48 ≤ a0)
 ·
  replace H := Gets.cf H c43
  refine sk rfl rfl <| sk rfl rfl <| pfg rfl rfl rfl rfl <| pf0 rfl rfl rfl <| as0 rfl rfl <| .fin ?_
  obtain rfl := Gets.out H
  exact rt i2 rfl () 0 [] 0 (.cons (res_tmp rfl) .nil)
 replace H := Gets.ct H c43
 refine mvg rfl rfl rfl <| bng rfl rfl rfl rfl run_le <| ptg rfl rfl rfl rfl <| pf0 rfl rfl rfl <| as0 rfl rfl <| .fin ?_
 obtain rfl := Gets.out H
 exact rt i2 rfl () 0 [] 0 (.cons (res_tmp rfl) .nil)
theorem concourseref01_Part.c {k : Nat} {a0 : ByteArray} {r : Bool} (h : concourseref01_Part.f k a0 = some r) : Pt Tryz.prog 90 [vS a0] (vB r) := by
 unfold concourseref01_Part.f at h
 refine (Tr.body Tryz.func90 (c := _) rfl Tryz.ntmps90 (Nat.le_of_ble_eq_true rfl) fun R0 F => ?_).pt
 replace h := Gets.of h
 have H := h
 clear h
 refine WP.seq <| rg 1 0 <| as0 rfl rfl <| .fin <| WP.seqr H id (fun p45 : Int × Bool => [(0, vS a0), (2, vB false), (3, vI p45.1), (8, vB p45.2)]) (fun p45 : Int × Bool => F) (fun p45 H => ?_) (fun H => ?_)
 ·
  refine WP.seq <| rg 9 0 <| mv0 rfl rfl <| Dv.lens rfl trivial rfl Tryz.underlying9 <| bn0 rfl rfl rfl run_gt <| mv0 rfl rfl ?_
  cases c46 : decide (0 < (a0.size : Int))
  ·
   replace H := Gets.cf H c46
   refine sk rfl rfl <| sk rfl rfl <| sk rfl rfl <| pf0 rfl rfl rfl <| as0 rfl rfl <| .fin ?_
   obtain rfl := Gets.out H
   exact rt i2 rfl () 0 [] 0 (.cons (res_tmp rfl) .nil)
  replace H := Gets.ct H c46
  refine mvg rfl rfl rfl <| Dv.lens rfl (gg rfl) rfl Tryz.underlying9 <| bng rfl rfl rfl rfl run_lt <| pt0 rfl rfl rfl <| as0 rfl rfl <| .fin ?_
  obtain rfl := Gets.out H
  exact rt i2 rfl () 0 [] 0 (.cons (res_tmp rfl) .nil)
 refine WP.seq <| rg 1 0 <| as0 rfl rfl <| .fin <| WP.block <| wg (sg 0 [] 0) fun _ _ => ?_
 refine lp (fun j_ (p63 : Int) => concourseref01_Part.l0 k a0 j_ p63) 0 H (fun p63 => [(0, vS a0), (2, vB false), (3, vI p63)]) (fun p63 => F) ?_
 rintro j_ x47 H
 rcases j_ with _ | j62
 ·
  exact (Gets.no H).elim
 replace H : Gets (concourseref01_Part.l0 k a0 (j62 + 1) x47) _ := H
 rw [concourseref01_Part.l0] at H
 refine WP.seq <| WP.seq <| rg 4 0 <| mv0 rfl rfl <| mv0 rfl rfl <| Dv.lens rfl trivial rfl Tryz.underlying9 <| bn0 rfl rfl rfl run_lt <| .fin <| cd H rfl (fun _ H => ?_) (fun _ H => ?_)
 rotate_left
 ·
  refine WP.exit ?_
  replace H := Gets.out H
  exact jn (x47, decide (x47 < (a0.size : Int))) H
 refine WP.skip <| WP.seq <| WP.block <| WP.seq <| rg 5 0 <| mv0 rfl rfl <| mv0 rfl rfl <| gr H fun g49 H => Dv.ixs rfl trivial rfl rfl Tryz.underlying9 g49.1 g49.2 <| el H fun t50 h51 H => cl rfl cal113 rfl (concourseref01_low.c h51) <| as0 rfl rfl <| .fin <| WP.seq <| rg 20 0 <| mv0 rfl rfl <| un0 rfl rfl (run_not _) <| mv0 rfl rfl ?_
 cases c52 : !t50
 ·
  replace H := Gets.cf H c52
  refine sk rfl rfl <| sk rfl rfl <| sk rfl rfl <| sk rfl rfl <| pf0 rfl rfl rfl <| mv0 rfl rfl <| sk rfl rfl <| sk rfl rfl <| sk rfl rfl <| sk rfl rfl <| pf0 rfl rfl rfl <| mv0 rfl rfl <| sk rfl rfl <| sk rfl rfl <| sk rfl rfl <| sk rfl rfl <| pf0 rfl rfl rfl <| .fin <| WP.cond rfl nofun (fun _ => ?_)
  exact WP.skip <| rg 3 0 <| mv0 rfl rfl <| bn0 rfl rfl rfl run_add <| as0 rfl rfl <| .fin <| bk j62 (w64 (x47 + 1)) H
 replace H := Gets.ct H c52
 refine mvg rfl rfl rfl <| mvg rfl rfl rfl <| gr H fun g53 H => Dv.ixs rfl (gg rfl) rfl rfl Tryz.underlying9 g53.1 g53.2 <| bng rfl rfl rfl rfl run_ne <| pt0 rfl rfl rfl <| mv0 rfl rfl ?_
 cases c54 : ((bt a0 x47) != 46)
 ·
  replace H := Gets.cf H c54
  refine sk rfl rfl <| sk rfl rfl <| sk rfl rfl <| sk rfl rfl <| pf0 rfl rfl rfl <| mv0 rfl rfl <| sk rfl rfl <| sk rfl rfl <| sk rfl rfl <| sk rfl rfl <| pf0 rfl rfl rfl <| .fin <| WP.cond rfl nofun (fun _ => ?_)
  exact WP.skip <| rg 3 0 <| mv0 rfl rfl <| bn0 rfl rfl rfl run_add <| as0 rfl rfl <| .fin <| bk j62 (w64 (x47 + 1)) H
 replace H := Gets.ct H c54
 refine mvg rfl rfl rfl <| mvg rfl rfl rfl <| gr H fun g55 H => Dv.ixs rfl (gg rfl) rfl rfl Tryz.underlying9 g55.1 g55.2 <| bng rfl rfl rfl rfl run_ne <| pt0 rfl rfl rfl <| mv0 rfl rfl ?_
 cases c56 : ((bt a0 x47) != 45)
 ·
  replace H := Gets.cf H c56
  refine sk rfl rfl <| sk rfl rfl <| sk rfl rfl <| sk rfl rfl <| pf0 rfl rfl rfl <| .fin <| WP.cond rfl nofun (fun _ => ?_)
  exact WP.skip <| rg 3 0 <| mv0 rfl rfl <| bn0 rfl rfl rfl run_add <| as0 rfl rfl <| .fin <| bk j62 (w64 (x47 + 1)) H
 replace H := Gets.ct H c56
 refine mvg rfl rfl rfl <| mvg rfl rfl rfl <| gr H fun g57 H => Dv.ixs rfl (gg rfl) rfl rfl Tryz.underlying9 g57.1 g57.2 <| bng rfl rfl rfl rfl run_ne <| pt0 rfl rfl rfl <| .fin <| cd H rfl (fun _ H => ?_) (fun _ H => ?_)
 rotate_left
 ·
  exact WP.skip <| rg 3 0 <| mv0 rfl rfl <| bn0 rfl rfl rfl run_add <| as0 rfl rfl <| .fin <| bk j62 (w64 (x47 + 1)) H
 refine WP.seq <| rg 1 0 <| as0 rfl rfl <| .fin ?_
 replace H := Gets.outr H
 obtain rfl := Gets.out H
 exact rt i2 rfl () 0 [] 0 (.cons (res_tmp rfl) .nil)
theorem concourseref01_Server.c {k : Nat} {a0 : ByteArray} {r : Bool} (h : concourseref01_Server.f k a0 = some r) : Pt Tryz.prog 91 [vS a0] (vB r) := by
 unfold concourseref01_Server.f at h
 refine (Tr.body Tryz.func91 (c := _) rfl Tryz.ntmps91 (Nat.le_of_ble_eq_true rfl) fun R0 F => ?_).pt
 replace h := Gets.of h
 have H := h
 clear h
 refine WP.seq <| rg 1 0 <| as0 rfl rfl <| .fin <| WP.seqr H id (fun p64 : Int × Bool => [(0, vS a0), (2, vB false), (3, vI p64.1), (9, vB p64.2)]) (fun p64 : Int × Bool => F) (fun p64 H => ?_) (fun H => ?_)
 ·
  refine WP.seq <| rg 9 0 <| mv0 rfl rfl <| Dv.lens rfl trivial rfl Tryz.underlying9 <| bn0 rfl rfl rfl run_gt <| mv0 rfl rfl ?_
  cases c65 : decide (0 < (a0.size : Int))
  ·
   replace H := Gets.cf H c65
   refine sk rfl rfl <| sk rfl rfl <| sk rfl rfl <| pf0 rfl rfl rfl <| as0 rfl rfl <| .fin ?_
   obtain rfl := Gets.out H
   exact rt i2 rfl () 0 [] 0 (.cons (res_tmp rfl) .nil)
  replace H := Gets.ct H c65
  refine mvg rfl rfl rfl <| Dv.lens rfl (gg rfl) rfl Tryz.underlying9 <| bng rfl rfl rfl rfl run_lt <| pt0 rfl rfl rfl <| as0 rfl rfl <| .fin ?_
  obtain rfl := Gets.out H
  exact rt i2 rfl () 0 [] 0 (.cons (res_tmp rfl) .nil)
 refine WP.seq <| rg 1 0 <| as0 rfl rfl <| .fin <| WP.block <| wg (sg 0 [] 0) fun _ _ => ?_
 refine lp (fun j_ (p89 : Int) => concourseref01_Server.l0 k a0 j_ p89) 0 H (fun p89 => [(0, vS a0), (2, vB false), (3, vI p89)]) (fun p89 => F) ?_
 rintro j_ x66 H
 rcases j_ with _ | j88
 ·
  exact (Gets.no H).elim
 replace H : Gets (concourseref01_Server.l0 k a0 (j88 + 1) x66) _ := H
 rw [concourseref01_Server.l0] at H
 refine WP.seq <| WP.seq <| rg 4 0 <| mv0 rfl rfl <| mv0 rfl rfl <| Dv.lens rfl trivial rfl Tryz.underlying9 <| bn0 rfl rfl rfl run_lt <| .fin <| cd H rfl (fun _ H => ?_) (fun _ H => ?_)
 rotate_left
 ·
  refine WP.exit ?_
  replace H := Gets.out H
  exact jn (x66, decide (x66 < (a0.size : Int))) H
 refine WP.skip <| WP.seq <| WP.block <| WP.seq <| rg 5 0 <| mv0 rfl rfl <| mv0 rfl rfl <| gr H fun g68 H => Dv.ixs rfl trivial rfl rfl Tryz.underlying9 g68.1 g68.2 <| el H fun t69 h70 H => cl rfl cal113 rfl (concourseref01_low.c h70) <| as0 rfl rfl <| .fin <| WP.seq <| rg 22 0 <| mv0 rfl rfl <| bn0 rfl rfl rfl run_gt <| mv0 rfl rfl ?_
 cases c71 : decide (0 < x66)
 ·
  replace H := Gets.cf H c71
  refine sk rfl rfl <| sk rfl rfl <| sk rfl rfl <| sk rfl rfl <| sk rfl rfl <| pf0 rfl rfl rfl <| mv0 rfl rfl <| sk rfl rfl <| sk rfl rfl <| sk rfl rfl <| sk rfl rfl <| sk rfl rfl <| sku rfl rfl <| sku rfl rfl <| sku rfl rfl <| sku rfl rfl <| sk rfl rfl <| pf0 rfl rfl rfl <| as0 rfl rfl <| .fin <| WP.seq <| rg 6 0 <| mv0 rfl rfl <| un0 rfl rfl (run_not _) <| mv0 rfl rfl ?_
  cases c85 : !t69
  ·
   replace H := Gets.cf H c85
   refine sk rfl rfl <| sk rfl rfl <| pf0 rfl rfl rfl <| .fin <| WP.cond rfl nofun (fun _ => ?_)
   exact WP.skip <| rg 3 0 <| mv0 rfl rfl <| bn0 rfl rfl rfl run_add <| as0 rfl rfl <| .fin <| bk j88 (w64 (x66 + 1)) H
  replace H := Gets.ct H c85
  refine mvg rfl rfl rfl <| ung rfl rfl rfl (run_not _) <| pt0 rfl rfl rfl <| .fin <| WP.cond rfl (fun _ => ?_) nofun
  refine WP.seq <| rg 1 0 <| as0 rfl rfl <| .fin ?_
  replace H := Gets.outr H
  obtain rfl := Gets.out H
  exact rt i2 rfl () 0 [] 0 (.cons (res_tmp rfl) .nil)
 replace H := Gets.ct H c71
 refine mvg rfl rfl rfl <| mvg rfl rfl rfl <| Dv.lens rfl (gg rfl) rfl Tryz.underlying9 <| bng rfl rfl rfl rfl run_sub <| bng rfl rfl rfl rfl run_lt <| pt0 rfl rfl rfl <| mv0 rfl rfl ?_
 cases c72 : decide (x66 < (w64 ((a0.size : Int) - 1)))
 ·
  replace H := Gets.cf H c72
  refine sk rfl rfl <| sk rfl rfl <| sk rfl rfl <| sk rfl rfl <| sk rfl rfl <| sku rfl rfl <| sku rfl rfl <| sku rfl rfl <| sku rfl rfl <| sk rfl rfl <| pf0 rfl rfl rfl <| as0 rfl rfl <| .fin <| WP.seq <| rg 6 0 <| mv0 rfl rfl <| un0 rfl rfl (run_not _) <| mv0 rfl rfl ?_
  cases c82 : !t69
  ·
   replace H := Gets.cf H c82
   refine sk rfl rfl <| sk rfl rfl <| pf0 rfl rfl rfl <| .fin <| WP.cond rfl nofun (fun _ => ?_)
   exact WP.skip <| rg 3 0 <| mv0 rfl rfl <| bn0 rfl rfl rfl run_add <| as0 rfl rfl <| .fin <| bk j88 (w64 (x66 + 1)) H
  replace H := Gets.ct H c82
  refine mvg rfl rfl rfl <| ung rfl rfl rfl (run_not _) <| pt0 rfl rfl rfl <| .fin <| WP.cond rfl (fun _ => ?_) nofun
  refine WP.seq <| rg 1 0 <| as0 rfl rfl <| .fin ?_
  replace H := Gets.outr H
  obtain rfl := Gets.out H
  exact rt i2 rfl () 0 [] 0 (.cons (res_tmp rfl) .nil)
 replace H := Gets.ct H c72
 refine mvg rfl rfl rfl <| mvg rfl rfl rfl <| gr H fun g73 H => Dv.ixs rfl (gg rfl) rfl rfl Tryz.underlying9 g73.1 g73.2 <| bng rfl rfl rfl rfl run_eq <| mvg rfl rfl rfl ?_
 cases c74 : ((bt a0 x66) == 46)
 rotate_left
 ·
  replace H := Gets.ct H c74
  refine sk rfl rfl <| sk rfl rfl <| sk rfl rfl <| sk rfl rfl <| ptg rfl rfl rfl rfl <| pt0 rfl rfl rfl <| as0 rfl rfl <| .fin <| WP.seq <| rg 6 0 <| mv0 rfl rfl <| un0 rfl rfl (run_not _) <| mv0 rfl rfl ?_
  cases c75 : !t69
  ·
   replace H := Gets.cf H c75
   refine sk rfl rfl <| sk rfl rfl <| pf0 rfl rfl rfl <| .fin <| WP.cond rfl nofun (fun _ => ?_)
   exact WP.skip <| rg 3 0 <| mv0 rfl rfl <| bn0 rfl rfl rfl run_add <| as0 rfl rfl <| .fin <| bk j88 (w64 (x66 + 1)) H
  replace H := Gets.ct H c75
  refine mvg rfl rfl rfl <| ung rfl rfl rfl (run_not _) <| pt0 rfl rfl rfl <| .fin <| WP.cond rfl nofun (fun _ => ?_)
  exact WP.skip <| rg 3 0 <| mv0 rfl rfl <| bn0 rfl rfl rfl run_add <| as0 rfl rfl <| .fin <| bk j88 (w64 (x66 + 1)) H
 replace H := Gets.cf H c74
 refine mvg rfl rfl rfl <| mvg rfl rfl rfl <| gr H fun g78 H => Dv.ixs rfl (gg rfl) rfl rfl Tryz.underlying9 g78.1 g78.2 <| bng rfl rfl rfl rfl run_eq <| pfg rfl rfl rfl rfl <| pt0 rfl rfl rfl <| as0 rfl rfl <| .fin <| WP.seq <| rg 6 0 <| mv0 rfl rfl <| un0 rfl rfl (run_not _) <| mv0 rfl rfl ?_
 cases c79 : !t69
 ·
  replace H := Gets.cf H c79
  refine sk rfl rfl <| sk rfl rfl <| pf0 rfl rfl rfl <| .fin <| WP.cond rfl nofun (fun _ => ?_)
  exact WP.skip <| rg 3 0 <| mv0 rfl rfl <| bn0 rfl rfl rfl run_add <| as0 rfl rfl <| .fin <| bk j88 (w64 (x66 + 1)) H
 replace H := Gets.ct H c79
 refine mvg rfl rfl rfl <| ung rfl rfl rfl (run_not _) <| pt0 rfl rfl rfl <| .fin <| cd H rfl (fun _ H => ?_) (fun _ H => ?_)
 rotate_left
 ·
  exact WP.skip <| rg 3 0 <| mv0 rfl rfl <| bn0 rfl rfl rfl run_add <| as0 rfl rfl <| .fin <| bk j88 (w64 (x66 + 1)) H
 refine WP.seq <| rg 1 0 <| as0 rfl rfl <| .fin ?_
 replace H := Gets.outr H
 obtain rfl := Gets.out H
 exact rt i2 rfl () 0 [] 0 (.cons (res_tmp rfl) .nil)
theorem concourseref01_Named.c {k : Nat} {a0 : ByteArray} {a1 : Int} {r : Bool} (h : concourseref01_Named.f k a0 a1 = some r) : Pt Tryz.prog 62 [vS a0, eq (.int .u8 a1)] (vB r) := by
 unfold concourseref01_Named.f at h
 refine (Tr.body Tryz.func62 (c := _) rfl Tryz.ntmps62 (Nat.le_of_ble_eq_true rfl) fun R0 F => ?_).pt
 replace h := Gets.of h
 have H := h
 clear h
 refine WP.seq <| rg 1 0 <| as0 rfl rfl <| .fin <| WP.seq <| rg 3 0 <| mv0 rfl rfl <| el H fun t90 h91 H => cl rfl cal63 rfl (concourseref01_colon.c h91) <| as0 rfl rfl <| .fin <| WP.seq <| WP.seq <| rg 8 0 <| mv0 rfl rfl <| bn0 rfl rfl rfl run_lt <| mv0 rfl rfl ?_
 cases c92 : decide (t90 < 1)
 rotate_left
 ·
  replace H := Gets.ct H c92
  refine sk rfl rfl <| sk rfl rfl <| sk rfl rfl <| sk rfl rfl <| pt0 rfl rfl rfl <| .fin <| WP.cond rfl (fun _ => ?_) nofun
  refine WP.seq <| rg 1 0 <| as0 rfl rfl <| .fin ?_
  obtain rfl := Gets.out H
  exact rt i2 rfl () 0 [] 0 (.cons (res_tmp rfl) .nil)
 replace H := Gets.cf H c92
 refine mvg rfl rfl rfl <| gr H fun g94 H => Dv.ixs rfl (gg rfl) rfl rfl Tryz.underlying9 g94.1 g94.2 <| mvg rfl rfl rfl <| bng rfl rfl rfl rfl run_ne <| pf0 rfl rfl rfl <| .fin <| cd H rfl (fun _ H => ?_) (fun _ H => ?_)
 ·
  refine WP.seq <| rg 1 0 <| as0 rfl rfl <| .fin ?_
  obtain rfl := Gets.out H
  exact rt i2 rfl () 0 [] 0 (.cons (res_tmp rfl) .nil)
 refine WP.skip <| WP.seq <| rg 5 0 <| mv0 rfl rfl <| mv0 rfl rfl <| gr H fun g96 H => Dv.sss rfl trivial rfl Tryz.underlying9 (bdE_some rfl g96.1) (bdE_some rfl g96.2.1) g96.2.2.1 g96.2.2.2 <| el H fun t97 h98 H => cl rfl cal90 rfl (concourseref01_Part.c h98) <| as0 rfl rfl <| .fin <| WP.seq <| rg 6 0 <| mv0 rfl rfl <| mv0 rfl rfl <| bn0 rfl rfl rfl run_add <| gr H fun g99 H => Dv.sss rfl trivial rfl Tryz.underlying9 (bdE_some rfl g99.1) bdE_none g99.2.1 g99.2.2 <| el H fun t100 h101 H => cl rfl cal91 rfl (concourseref01_Server.c h101) <| as0 rfl rfl <| .fin <| WP.seq <| rg 5 0 <| mv0 rfl rfl <| mv0 rfl rfl ?_
 cases c102 : t97
 ·
  replace H := Gets.cf H c102
  refine sk rfl rfl <| pf0 rfl rfl rfl <| as0 rfl rfl <| .fin ?_
  obtain rfl := Gets.out H
  exact rt i2 rfl () 0 [] 0 (.cons (res_tmp rfl) .nil)
 replace H := Gets.ct H c102
 refine mvg rfl rfl rfl <| pt0 rfl rfl rfl <| as0 rfl rfl <| .fin ?_
 obtain rfl := Gets.out H
 exact rt i2 rfl () 0 [] 0 (.cons (res_tmp rfl) .nil)
theorem concourseref01_Event.c {k : Nat} {a0 : ByteArray} {r : Bool} (h : concourseref01_Event.f k a0 = some r) : Pt Tryz.prog 86 [vS a0] (vB r) := by
 unfold concourseref01_Event.f at h
 refine (Tr.body Tryz.func86 (c := _) rfl Tryz.ntmps86 (Nat.le_of_ble_eq_true rfl) fun R0 F => ?_).pt
 replace h := Gets.of h
 have H := h
 clear h
 refine WP.seq <| rg 1 0 <| as0 rfl rfl <| .fin <| WP.seq <| WP.seq <| rg 13 0 <| mv0 rfl rfl <| Dv.lens rfl trivial rfl Tryz.underlying9 <| bn0 rfl rfl rfl run_lt <| mv0 rfl rfl ?_
 cases c103 : decide ((a0.size : Int) < 2)
 rotate_left
 ·
  replace H := Gets.ct H c103
  refine sk rfl rfl <| sk rfl rfl <| sk rfl rfl <| pt0 rfl rfl rfl <| mv0 rfl rfl <| sk rfl rfl <| sk rfl rfl <| sk rfl rfl <| pt0 rfl rfl rfl <| .fin <| WP.cond rfl (fun _ => ?_) nofun
  refine WP.seq <| rg 1 0 <| as0 rfl rfl <| .fin ?_
  obtain rfl := Gets.out H
  exact rt i2 rfl () 0 [] 0 (.cons (res_tmp rfl) .nil)
 replace H := Gets.cf H c103
 refine mvg rfl rfl rfl <| Dv.lens rfl (gg rfl) rfl Tryz.underlying9 <| bng rfl rfl rfl rfl run_gt <| pf0 rfl rfl rfl <| mv0 rfl rfl ?_
 cases c105 : decide (17 < (a0.size : Int))
 rotate_left
 ·
  replace H := Gets.ct H c105
  refine sk rfl rfl <| sk rfl rfl <| sk rfl rfl <| pt0 rfl rfl rfl <| .fin <| WP.cond rfl (fun _ => ?_) nofun
  refine WP.seq <| rg 1 0 <| as0 rfl rfl <| .fin ?_
  obtain rfl := Gets.out H
  exact rt i2 rfl () 0 [] 0 (.cons (res_tmp rfl) .nil)
 replace H := Gets.cf H c105
 refine mvg rfl rfl rfl <| gr H fun g107 H => Dv.ixs rfl (gg rfl) rfl rfl Tryz.underlying9 g107.1 g107.2 <| bng rfl rfl rfl rfl run_ne <| pf0 rfl rfl rfl <| .fin <| cd H rfl (fun _ H => ?_) (fun _ H => ?_)
 ·
  refine WP.seq <| rg 1 0 <| as0 rfl rfl <| .fin ?_
  obtain rfl := Gets.out H
  exact rt i2 rfl () 0 [] 0 (.cons (res_tmp rfl) .nil)
 refine WP.skip <| WP.seqr H id (fun p109 : Int × Bool => [(0, vS a0), (2, vB false), (3, vI p109.1), (18, vB ((bt a0 0) != 36)), (22, vB p109.2)]) (fun p109 : Int × Bool => F) (fun p109 H => ?_) (fun H => ?_)
 ·
  refine WP.seq <| rg 1 0 <| as0 rfl rfl <| .fin ?_
  obtain rfl := Gets.out H
  exact rt i2 rfl () 0 [] 0 (.cons (res_tmp rfl) .nil)
 refine WP.seq <| rg 1 0 <| as0 rfl rfl <| .fin <| WP.block <| wg (sg 0 [] 0) fun _ _ => ?_
 refine lp (fun j_ (p135 : Int) => concourseref01_Event.l0 k a0 j_ p135) 1 H (fun p135 => [(0, vS a0), (2, vB false), (3, vI p135), (18, vB ((bt a0 0) != 36))]) (fun p135 => F) ?_
 rintro j_ x110 H
 rcases j_ with _ | j134
 ·
  exact (Gets.no H).elim
 replace H : Gets (concourseref01_Event.l0 k a0 (j134 + 1) x110) _ := H
 rw [concourseref01_Event.l0] at H
 refine WP.seq <| WP.seq <| rg 4 0 <| mv0 rfl rfl <| mv0 rfl rfl <| Dv.lens rfl trivial rfl Tryz.underlying9 <| bn0 rfl rfl rfl run_lt <| .fin <| cd H rfl (fun _ H => ?_) (fun _ H => ?_)
 rotate_left
 ·
  refine WP.exit ?_
  replace H := Gets.out H
  exact jn (x110, decide (x110 < (a0.size : Int))) H
 refine WP.skip <| WP.seq <| WP.block <| WP.seq <| rg 5 0 <| mv0 rfl rfl <| mv0 rfl rfl <| gr H fun g112 H => Dv.ixs rfl trivial rfl rfl Tryz.underlying9 g112.1 g112.2 <| el H fun t113 h114 H => cl rfl cal113 rfl (concourseref01_low.c h114) <| as0 rfl rfl <| .fin <| WP.seq <| rg 11 0 <| mv0 rfl rfl <| mv0 rfl rfl <| gr H fun g115 H => Dv.ixs rfl trivial rfl rfl Tryz.underlying9 g115.1 g115.2 <| bn0 rfl rfl rfl run_ge <| mv0 rfl rfl ?_
 cases c116 : decide (65 ≤ (bt a0 x110))
 ·
  replace H := Gets.cf H c116
  refine sk rfl rfl <| sk rfl rfl <| sk rfl rfl <| sk rfl rfl <| pf0 rfl rfl rfl <| as0 rfl rfl <| .fin <| WP.seq <| rg 18 0 <| mv0 rfl rfl <| un0 rfl rfl (run_not _) <| mv0 rfl rfl ?_
  cases c127 : !t113
  ·
   replace H := Gets.cf H c127
   refine sk rfl rfl <| sk rfl rfl <| pf0 rfl rfl rfl <| mv0 rfl rfl <| sk rfl rfl <| sk rfl rfl <| sk rfl rfl <| sk rfl rfl <| pf0 rfl rfl rfl <| mv0 rfl rfl <| sk rfl rfl <| sk rfl rfl <| sk rfl rfl <| sk rfl rfl <| pf0 rfl rfl rfl <| .fin <| WP.cond rfl nofun (fun _ => ?_)
   exact WP.skip <| rg 3 0 <| mv0 rfl rfl <| bn0 rfl rfl rfl run_add <| as0 rfl rfl <| .fin <| bk j134 (w64 (x110 + 1)) H
  replace H := Gets.ct H c127
  refine mvg rfl rfl rfl <| ung rfl rfl rfl (run_not _) <| pt0 rfl rfl rfl <| mv0 rfl rfl <| mvg rfl rfl rfl <| mvg rfl rfl rfl <| gr H fun g128 H => Dv.ixs rfl (gg rfl) rfl rfl Tryz.underlying9 g128.1 g128.2 <| bng rfl rfl rfl rfl run_ne <| pt0 rfl rfl rfl <| mv0 rfl rfl ?_
  cases c129 : ((bt a0 x110) != 45)
  ·
   replace H := Gets.cf H c129
   refine sk rfl rfl <| sk rfl rfl <| sk rfl rfl <| sk rfl rfl <| pf0 rfl rfl rfl <| .fin <| WP.cond rfl nofun (fun _ => ?_)
   exact WP.skip <| rg 3 0 <| mv0 rfl rfl <| bn0 rfl rfl rfl run_add <| as0 rfl rfl <| .fin <| bk j134 (w64 (x110 + 1)) H
  replace H := Gets.ct H c129
  refine mvg rfl rfl rfl <| mvg rfl rfl rfl <| gr H fun g130 H => Dv.ixs rfl (gg rfl) rfl rfl Tryz.underlying9 g130.1 g130.2 <| bng rfl rfl rfl rfl run_ne <| pt0 rfl rfl rfl <| .fin <| cd H rfl (fun _ H => ?_) (fun _ H => ?_)
  rotate_left
  ·
   exact WP.skip <| rg 3 0 <| mv0 rfl rfl <| bn0 rfl rfl rfl run_add <| as0 rfl rfl <| .fin <| bk j134 (w64 (x110 + 1)) H
  refine WP.seq <| rg 1 0 <| as0 rfl rfl <| .fin ?_
  replace H := Gets.outr H
  obtain rfl := Gets.out H
  exact rt i2 rfl () 0 [] 0 (.cons (res_tmp rfl) .nil)
 replace H := Gets.ct H c116
 refine mvg rfl rfl rfl <| mvg rfl rfl rfl <| gr H fun g117 H => Dv.ixs rfl (gg rfl) rfl rfl Tryz.underlying9 g117.1 g117.2 <| bng rfl rfl rfl rfl run_le <| pt0 rfl rfl rfl <| as0 rfl rfl <| .fin <| WP.seq <| rg 18 0 <| mv0 rfl rfl <| un0 rfl rfl (run_not _) <| mv0 rfl rfl ?_
 cases c118 : !t113
 ·
  replace H := Gets.cf H c118
  refine sk rfl rfl <| sk rfl rfl <| pf0 rfl rfl rfl <| mv0 rfl rfl <| sk rfl rfl <| sk rfl rfl <| sk rfl rfl <| sk rfl rfl <| pf0 rfl rfl rfl <| mv0 rfl rfl <| sk rfl rfl <| sk rfl rfl <| sk rfl rfl <| sk rfl rfl <| pf0 rfl rfl rfl <| .fin <| WP.cond rfl nofun (fun _ => ?_)
  exact WP.skip <| rg 3 0 <| mv0 rfl rfl <| bn0 rfl rfl rfl run_add <| as0 rfl rfl <| .fin <| bk j134 (w64 (x110 + 1)) H
 replace H := Gets.ct H c118
 refine mvg rfl rfl rfl <| ung rfl rfl rfl (run_not _) <| pt0 rfl rfl rfl <| mv0 rfl rfl ?_
 cases c119 : !(decide ((bt a0 x110) ≤ 90))
 ·
  replace H := Gets.cf H c119
  refine sk rfl rfl <| sk rfl rfl <| sk rfl rfl <| sk rfl rfl <| pf0 rfl rfl rfl <| mv0 rfl rfl <| sk rfl rfl <| sk rfl rfl <| sk rfl rfl <| sk rfl rfl <| pf0 rfl rfl rfl <| .fin <| WP.cond rfl nofun (fun _ => ?_)
  exact WP.skip <| rg 3 0 <| mv0 rfl rfl <| bn0 rfl rfl rfl run_add <| as0 rfl rfl <| .fin <| bk j134 (w64 (x110 + 1)) H
 replace H := Gets.ct H c119
 refine mvg rfl rfl rfl <| mvg rfl rfl rfl <| gr H fun g120 H => Dv.ixs rfl (gg rfl) rfl rfl Tryz.underlying9 g120.1 g120.2 <| bng rfl rfl rfl rfl run_ne <| pt0 rfl rfl rfl <| mv0 rfl rfl ?_
 cases c121 : ((bt a0 x110) != 45)
 ·
  replace H := Gets.cf H c121
  refine sk rfl rfl <| sk rfl rfl <| sk rfl rfl <| sk rfl rfl <| pf0 rfl rfl rfl <| .fin <| WP.cond rfl nofun (fun _ => ?_)
  exact WP.skip <| rg 3 0 <| mv0 rfl rfl <| bn0 rfl rfl rfl run_add <| as0 rfl rfl <| .fin <| bk j134 (w64 (x110 + 1)) H
 replace H := Gets.ct H c121
 refine mvg rfl rfl rfl <| mvg rfl rfl rfl <| gr H fun g122 H => Dv.ixs rfl (gg rfl) rfl rfl Tryz.underlying9 g122.1 g122.2 <| bng rfl rfl rfl rfl run_ne <| pt0 rfl rfl rfl <| .fin <| cd H rfl (fun _ H => ?_) (fun _ H => ?_)
 rotate_left
 ·
  exact WP.skip <| rg 3 0 <| mv0 rfl rfl <| bn0 rfl rfl rfl run_add <| as0 rfl rfl <| .fin <| bk j134 (w64 (x110 + 1)) H
 refine WP.seq <| rg 1 0 <| as0 rfl rfl <| .fin ?_
 replace H := Gets.outr H
 obtain rfl := Gets.out H
 exact rt i2 rfl () 0 [] 0 (.cons (res_tmp rfl) .nil)
theorem concourseref07_May.c {k : Nat} {a0 : Event} {r : Bool} (h : concourseref07_May.f k a0 = some r) : Pt Tryz.prog 116 [agg (Event.enc a0)] (vB r) := by
 unfold concourseref07_May.f at h
 refine (Tr.body Tryz.func116 (c := _) rfl Tryz.ntmps116 (Nat.le_of_ble_eq_true rfl) fun R0 F => ?_).pt
 replace h := Gets.of h
 have H := h
 clear h
 refine WP.seq <| rg 2 1 <| Dv.box rfl trivial rfl cA nofun fun b136 => as0 rfl rfl <| .fin <| WP.seq <| rg 4 0 <| fb rfl trivial rfl fa59_0 <| ld 0 rfl trivial rfl sc9 rfl rfl <| el H fun t137 h138 H => cl rfl cal86 rfl (concourseref01_Event.c h138) <| as0 rfl rfl <| .fin <| WP.seq <| rg 4 0 <| fb rfl trivial rfl fa59_1 <| ld 0 rfl trivial rfl sc9 rfl rfl <| el H fun t139 h140 H => cl rfl cal62 rfl (concourseref01_Named.c h140) <| as0 rfl rfl <| .fin <| WP.seq <| rg 4 0 <| fb rfl trivial rfl fa59_4 <| ld 0 rfl trivial rfl sc9 rfl rfl <| el H fun t141 h142 H => cl rfl cal62 rfl (concourseref01_Named.c h142) <| as0 rfl rfl <| .fin <| WP.seq <| WP.seq <| rg 26 0 <| mv0 rfl rfl <| un0 rfl rfl (run_not _) <| mv0 rfl rfl ?_
 cases c143 : !t137
 rotate_left
 ·
  replace H := Gets.ct H c143
  refine sk rfl rfl <| sk rfl rfl <| pt0 rfl rfl rfl <| mv0 rfl rfl <| sk rfl rfl <| sk rfl rfl <| pt0 rfl rfl rfl <| mv0 rfl rfl <| sk rfl rfl <| sk rfl rfl <| sk rfl rfl <| sk rfl rfl <| pt0 rfl rfl rfl <| mv0 rfl rfl <| sk rfl rfl <| sk rfl rfl <| sk rfl rfl <| pt0 rfl rfl rfl <| mv0 rfl rfl <| sk rfl rfl <| sk rfl rfl <| sk rfl rfl <| pt0 rfl rfl rfl <| .fin <| WP.cond rfl (fun _ => ?_) nofun
  refine WP.seq <| rg 1 0 <| as0 rfl rfl <| .fin ?_
  obtain rfl := Gets.out H
  exact rt i2 rfl () 1 [0] 1 (.cons (res_tmp rfl) .nil)
 replace H := Gets.cf H c143
 refine mvg rfl rfl rfl <| ung rfl rfl rfl (run_not _) <| pf0 rfl rfl rfl <| mv0 rfl rfl ?_
 cases c145 : !t139
 rotate_left
 ·
  replace H := Gets.ct H c145
  refine sk rfl rfl <| sk rfl rfl <| pt0 rfl rfl rfl <| mv0 rfl rfl <| sk rfl rfl <| sk rfl rfl <| sk rfl rfl <| sk rfl rfl <| pt0 rfl rfl rfl <| mv0 rfl rfl <| sk rfl rfl <| sk rfl rfl <| sk rfl rfl <| pt0 rfl rfl rfl <| mv0 rfl rfl <| sk rfl rfl <| sk rfl rfl <| sk rfl rfl <| pt0 rfl rfl rfl <| .fin <| WP.cond rfl (fun _ => ?_) nofun
  refine WP.seq <| rg 1 0 <| as0 rfl rfl <| .fin ?_
  obtain rfl := Gets.out H
  exact rt i2 rfl () 1 [0] 1 (.cons (res_tmp rfl) .nil)
 replace H := Gets.cf H c145
 refine mvg rfl rfl rfl <| ung rfl rfl rfl (run_not _) <| pf0 rfl rfl rfl <| mv0 rfl rfl ?_
 cases c147 : !t141
 rotate_left
 ·
  replace H := Gets.ct H c147
  refine sk rfl rfl <| sk rfl rfl <| sk rfl rfl <| sk rfl rfl <| pt0 rfl rfl rfl <| mv0 rfl rfl <| sk rfl rfl <| sk rfl rfl <| sk rfl rfl <| pt0 rfl rfl rfl <| mv0 rfl rfl <| sk rfl rfl <| sk rfl rfl <| sk rfl rfl <| pt0 rfl rfl rfl <| .fin <| WP.cond rfl (fun _ => ?_) nofun
  refine WP.seq <| rg 1 0 <| as0 rfl rfl <| .fin ?_
  obtain rfl := Gets.out H
  exact rt i2 rfl () 1 [0] 1 (.cons (res_tmp rfl) .nil)
 replace H := Gets.cf H c147
 refine fb rfl (gg rfl) rfl fa59_2 <| ld 0 rfl (gg rfl) rfl sc35 rfl rfl <| Dv.lenl rfl (gg rfl) rfl Tryz.underlying35 <| bng rfl rfl rfl rfl run_gt <| pf0 rfl rfl rfl <| mv0 rfl rfl ?_
 cases c149 : decide (4 < (a0.fParents.length : Int))
 rotate_left
 ·
  replace H := Gets.ct H c149
  refine sk rfl rfl <| sk rfl rfl <| sk rfl rfl <| pt0 rfl rfl rfl <| mv0 rfl rfl <| sk rfl rfl <| sk rfl rfl <| sk rfl rfl <| pt0 rfl rfl rfl <| .fin <| WP.cond rfl (fun _ => ?_) nofun
  refine WP.seq <| rg 1 0 <| as0 rfl rfl <| .fin ?_
  obtain rfl := Gets.out H
  exact rt i2 rfl () 1 [0] 1 (.cons (res_tmp rfl) .nil)
 replace H := Gets.cf H c149
 refine fb rfl (gg rfl) rfl fa59_5 <| ld 0 rfl (gg rfl) rfl sc3 rfl rfl <| bng rfl rfl rfl rfl run_lt <| pf0 rfl rfl rfl <| mv0 rfl rfl ?_
 cases c151 : decide (a0.fDoes < 0)
 rotate_left
 ·
  replace H := Gets.ct H c151
  refine sk rfl rfl <| sk rfl rfl <| sk rfl rfl <| pt0 rfl rfl rfl <| .fin <| WP.cond rfl (fun _ => ?_) nofun
  refine WP.seq <| rg 1 0 <| as0 rfl rfl <| .fin ?_
  obtain rfl := Gets.out H
  exact rt i2 rfl () 1 [0] 1 (.cons (res_tmp rfl) .nil)
 replace H := Gets.cf H c151
 refine fb rfl (gg rfl) rfl fa59_5 <| ld 0 rfl (gg rfl) rfl sc3 rfl rfl <| bng rfl rfl rfl rfl run_gt <| pf0 rfl rfl rfl <| .fin <| cd H rfl (fun _ H => ?_) (fun _ H => ?_)
 ·
  refine WP.seq <| rg 1 0 <| as0 rfl rfl <| .fin ?_
  obtain rfl := Gets.out H
  exact rt i2 rfl () 1 [0] 1 (.cons (res_tmp rfl) .nil)
 refine WP.skip <| WP.seqr H id (fun p154 : Unit => [(0, agg (Event.enc a0)), (1, eq (.pointer (some ⟨b136, 0, none⟩))), (2, vB false), (3, vB t137), (4, vB t139), (5, vB t141), (43, vB (decide (2 < a0.fDoes))), (46, vB (!decide (a0.fThread = (⟨#[]⟩ : ByteArray))))]) (fun p154 : Unit => [blk b136 59 (Event.enc a0)] ++ F) (fun p154 H => ?_) (fun H => ?_)
 rotate_left
 ·
  refine WP.seq <| rg 3 0 <| fb rfl trivial rfl fa59_3 <| ld 0 rfl trivial rfl sc9 rfl rfl <| bn0 rfl rfl rfl run_sne <| .fin <| cd H rfl (fun _ H => ?_) (fun _ H => ?_)
  rotate_left
  ·
   refine WP.skip ?_
   replace H := Gets.out H
   exact jn () H
  refine WP.seq <| rg 4 0 <| fb rfl trivial rfl fa59_3 <| ld 0 rfl trivial rfl sc9 rfl rfl <| el H fun t173 h174 H => cl rfl cal86 rfl (concourseref01_Event.c h174) <| as0 rfl rfl <| .fin <| WP.seq <| rg 14 0 <| mv0 rfl rfl <| un0 rfl rfl (run_not _) <| mv0 rfl rfl ?_
  cases c175 : !t173
  rotate_left
  ·
   replace H := Gets.ct H c175
   refine sk rfl rfl <| sk rfl rfl <| sk rfl rfl <| sk rfl rfl <| sk rfl rfl <| pt0 rfl rfl rfl <| mv0 rfl rfl <| sk rfl rfl <| sk rfl rfl <| sk rfl rfl <| pt0 rfl rfl rfl <| .fin <| WP.cond rfl (fun _ => ?_) nofun
   refine WP.seq <| rg 1 0 <| as0 rfl rfl <| .fin ?_
   replace H := Gets.outr H
   obtain rfl := Gets.out H
   exact rt i2 rfl () 1 [0] 1 (.cons (res_tmp rfl) .nil)
  replace H := Gets.cf H c175
  refine fb rfl (gg rfl) rfl fa59_3 <| ld 0 rfl (gg rfl) rfl sc9 rfl rfl <| fb rfl (gg rfl) rfl fa59_0 <| ld 0 rfl (gg rfl) rfl sc9 rfl rfl <| bng rfl rfl rfl rfl run_seq <| pf0 rfl rfl rfl <| mv0 rfl rfl ?_
  cases c177 : decide (a0.fThread = a0.fID)
  rotate_left
  ·
   replace H := Gets.ct H c177
   refine sk rfl rfl <| sk rfl rfl <| sk rfl rfl <| pt0 rfl rfl rfl <| .fin <| WP.cond rfl (fun _ => ?_) nofun
   refine WP.seq <| rg 1 0 <| as0 rfl rfl <| .fin ?_
   replace H := Gets.outr H
   obtain rfl := Gets.out H
   exact rt i2 rfl () 1 [0] 1 (.cons (res_tmp rfl) .nil)
  replace H := Gets.cf H c177
  refine fb rfl (gg rfl) rfl fa59_5 <| ld 0 rfl (gg rfl) rfl sc3 rfl rfl <| bng rfl rfl rfl rfl run_ne <| pf0 rfl rfl rfl <| .fin <| cd H rfl (fun _ H => ?_) (fun _ H => ?_)
  rotate_left
  ·
   refine WP.skip ?_
   replace H := Gets.out H
   exact jn () H
  refine WP.seq <| rg 1 0 <| as0 rfl rfl <| .fin ?_
  replace H := Gets.outr H
  obtain rfl := Gets.out H
  exact rt i2 rfl () 1 [0] 1 (.cons (res_tmp rfl) .nil)
 refine WP.seqr H id (fun p155 : Int × Bool => [(0, agg (Event.enc a0)), (1, eq (.pointer (some ⟨b136, 0, none⟩))), (2, vB false), (3, vB t137), (4, vB t139), (5, vB t141), (7, vI p155.1), (43, vB (decide (2 < a0.fDoes))), (46, vB (!decide (a0.fThread = (⟨#[]⟩ : ByteArray)))), (68, vB p155.2)]) (fun p155 : Int × Bool => [blk b136 59 (Event.enc a0)] ++ F) (fun p155 H => ?_) (fun H => ?_)
 ·
  refine WP.seq <| rg 1 0 <| as0 rfl rfl <| .fin ?_
  obtain rfl := Gets.out H
  exact rt i2 rfl () 1 [0] 1 (.cons (res_tmp rfl) .nil)
 refine WP.seq <| rg 1 0 <| as0 rfl rfl <| .fin <| WP.block <| wg (sg 1 [0] 0) fun _ _ => ?_
 refine lp (fun j_ (p171 : Int) => concourseref07_May.l0 k a0 j_ p171) 0 H (fun p171 => [(0, agg (Event.enc a0)), (1, eq (.pointer (some ⟨b136, 0, none⟩))), (2, vB false), (3, vB t137), (4, vB t139), (5, vB t141), (7, vI p171), (43, vB (decide (2 < a0.fDoes))), (46, vB (!decide (a0.fThread = (⟨#[]⟩ : ByteArray))))]) (fun p171 => [blk b136 59 (Event.enc a0)] ++ F) ?_
 rintro j_ x156 H
 rcases j_ with _ | j170
 ·
  exact (Gets.no H).elim
 replace H : Gets (concourseref07_May.l0 k a0 (j170 + 1) x156) _ := H
 rw [concourseref07_May.l0] at H
 refine WP.seq <| WP.seq <| rg 5 0 <| mv0 rfl rfl <| fb rfl trivial rfl fa59_2 <| ld 0 rfl trivial rfl sc35 rfl rfl <| Dv.lenl rfl trivial rfl Tryz.underlying35 <| bn0 rfl rfl rfl run_lt <| .fin <| cd H rfl (fun _ H => ?_) (fun _ H => ?_)
 rotate_left
 ·
  refine WP.exit ?_
  replace H := Gets.out H
  exact jn (x156, decide (x156 < (a0.fParents.length : Int))) H
 refine WP.skip <| WP.seq <| WP.block <| WP.seq <| rg 7 0 <| fb rfl trivial rfl fa59_2 <| ld 0 rfl trivial rfl sc35 rfl rfl <| mv0 rfl rfl <| gr H fun g158 H => Dv.ixr rfl trivial rfl rfl Tryz.underlying35 Tryz.underlying9 c9 g158.1 g158.2 <| ldR rfl trivial rfl sc9 rfl <| el H fun t159 h160 H => cl rfl cal86 rfl (concourseref01_Event.c h160) <| as0 rfl rfl <| .fin <| WP.seq <| WP.seq <| dg Tryz.checked.mixed 12 0 <| mv0 rfl rfl <| un0 rfl rfl (run_not _) <| mv0 rfl rfl ?_
 cases c161 : !t159
 rotate_left
 ·
  replace H := Gets.ct H c161
  refine sk rfl rfl <| sk rfl rfl <| sk rfl rfl <| sk rfl rfl <| sk rfl rfl <| sk rfl rfl <| sk rfl rfl <| sk rfl rfl <| pt0 rfl rfl rfl <| .fin <| WP.cond rfl (fun _ => ?_) nofun
  refine WP.seq <| rg 1 0 <| as0 rfl rfl <| .fin ?_
  replace H := Gets.outr H
  obtain rfl := Gets.out H
  exact rt i2 rfl () 1 [0] 1 (.cons (res_tmp rfl) .nil)
 replace H := Gets.cf H c161
 refine fb rfl (gg rfl) rfl fa59_2 <| ld 0 rfl (gg rfl) rfl sc35 rfl rfl <| mvg rfl rfl rfl <| gr H fun g163 H => Dv.ixr rfl (gg rfl) rfl rfl Tryz.underlying35 Tryz.underlying9 c9 g163.1 g163.2 <| ldR rfl (gg rfl) rfl sc9 rfl <| fb rfl (gg rfl) rfl fa59_0 <| ld 0 rfl (gg rfl) rfl sc9 rfl rfl <| bng rfl rfl rfl rfl run_seq <| pf0 rfl rfl rfl <| .fin <| cd H rfl (fun _ H => ?_) (fun _ H => ?_)
 ·
  refine WP.seq <| rg 1 0 <| as0 rfl rfl <| .fin ?_
  replace H := Gets.outr H
  obtain rfl := Gets.out H
  exact rt i2 rfl () 1 [0] 1 (.cons (res_tmp rfl) .nil)
 refine WP.skip <| WP.seq <| dg Tryz.checked.mixed 17 0 <| mv0 rfl rfl <| bn0 rfl rfl rfl run_gt <| mv0 rfl rfl ?_
 cases c165 : decide (0 < x156)
 ·
  replace H := Gets.cf H c165
  refine sk rfl rfl <| sk rfl rfl <| sk rfl rfl <| sk rfl rfl <| sk rfl rfl <| sk rfl rfl <| sk rfl rfl <| sk rfl rfl <| sk rfl rfl <| sk rfl rfl <| sk rfl rfl <| sk rfl rfl <| sk rfl rfl <| pf0 rfl rfl rfl <| .fin <| WP.cond rfl nofun (fun _ => ?_)
  exact WP.skip <| rg 3 0 <| mv0 rfl rfl <| bn0 rfl rfl rfl run_add <| as0 rfl rfl <| .fin <| bk j170 (w64 (x156 + 1)) H
 replace H := Gets.ct H c165
 refine fb rfl (gg rfl) rfl fa59_2 <| ld 0 rfl (gg rfl) rfl sc35 rfl rfl <| mvg rfl rfl rfl <| bng rfl rfl rfl rfl run_sub <| Dv.maxi rfl (gg rfl) rfl rfl <| gr H fun g166 H => Dv.ixr rfl (gg rfl) rfl rfl Tryz.underlying35 Tryz.underlying9 c9 g166.1 g166.2 <| ldR rfl (gg rfl) rfl sc9 rfl <| fb rfl (gg rfl) rfl fa59_2 <| ld 0 rfl (gg rfl) rfl sc35 rfl rfl <| mvg rfl rfl rfl <| gr H fun g167 H => Dv.ixr rfl (gg rfl) rfl rfl Tryz.underlying35 Tryz.underlying9 c9 g167.1 g167.2 <| ldR rfl (gg rfl) rfl sc9 rfl <| bng rfl rfl rfl rfl run_sge <| pt0 rfl rfl rfl <| .fin <| cd H rfl (fun _ H => ?_) (fun _ H => ?_)
 rotate_left
 ·
  exact WP.skip <| rg 3 0 <| mv0 rfl rfl <| bn0 rfl rfl rfl run_add <| as0 rfl rfl <| .fin <| bk j170 (w64 (x156 + 1)) H
 refine WP.seq <| rg 1 0 <| as0 rfl rfl <| .fin ?_
 replace H := Gets.outr H
 obtain rfl := Gets.out H
 exact rt i2 rfl () 1 [0] 1 (.cons (res_tmp rfl) .nil)
theorem concourseref07_At.c {k : Nat} {a0 : RDag} {a1 : ByteArray} {r : Int} (h : concourseref07_At.f k a0 a1 = some r) : Pt Tryz.prog 117 [agg (RDag.enc a0), vS a1] (vI r) := by
 unfold concourseref07_At.f at h
 refine (Tr.body Tryz.func117 (c := _) rfl Tryz.ntmps117 (Nat.le_of_ble_eq_true rfl) fun R0 F => ?_).pt
 replace h := Gets.of h
 have H := h
 clear h
 refine WP.seq <| rg 2 1 <| Dv.box rfl trivial rfl cA nofun fun b180 => as0 rfl rfl <| .fin <| WP.seqr H id (fun p181 : Int × Bool => [(0, agg (RDag.enc a0)), (1, vS a1), (2, eq (.pointer (some ⟨b180, 0, none⟩))), (4, vI 0), (5, vI p181.1), (10, vB p181.2)]) (fun p181 : Int × Bool => [blk b180 74 (RDag.enc a0)] ++ F) (fun p181 H => ?_) (fun H => ?_)
 ·
  refine WP.seq <| rg 1 0 <| as0 rfl rfl <| .fin ?_
  obtain rfl := Gets.out H
  exact rt i2 rfl () 1 [0] 1 (.cons (res_tmp rfl) .nil)
 refine WP.seq <| rg 1 0 <| as0 rfl rfl <| .fin <| WP.block <| wg (sg 1 [0] 0) fun _ _ => ?_
 refine lp (fun j_ (p187 : Int) => concourseref07_At.l0 k a0 a1 j_ p187) 0 H (fun p187 => [(0, agg (RDag.enc a0)), (1, vS a1), (2, eq (.pointer (some ⟨b180, 0, none⟩))), (4, vI 0), (5, vI p187)]) (fun p187 => [blk b180 74 (RDag.enc a0)] ++ F) ?_
 rintro j_ x182 H
 rcases j_ with _ | j186
 ·
  exact (Gets.no H).elim
 replace H : Gets (concourseref07_At.l0 k a0 a1 (j186 + 1) x182) _ := H
 rw [concourseref07_At.l0] at H
 refine WP.seq <| WP.seq <| rg 5 0 <| mv0 rfl rfl <| fb rfl trivial rfl fa74_1 <| ld 0 rfl trivial rfl sc54 rfl rfl <| Dv.lenl rfl trivial rfl Tryz.underlying54 <| bn0 rfl rfl rfl run_lt <| .fin <| cd H rfl (fun _ H => ?_) (fun _ H => ?_)
 rotate_left
 ·
  refine WP.exit ?_
  replace H := Gets.out H
  exact jn (x182, decide (x182 < (a0.fL.length : Int))) H
 refine WP.skip <| WP.seq <| WP.block <| WP.seq <| rg 8 0 <| fb rfl trivial rfl fa74_1 <| ld 0 rfl trivial rfl sc54 rfl rfl <| mv0 rfl rfl <| gr H fun g184 H => Dv.ixr rfl trivial rfl rfl Tryz.underlying54 Tryz.underlying59 c59 g184.1 g184.2 <| fr rfl trivial rfl fa59_0 rfl <| ldR rfl trivial rfl sc9 rfl <| mv0 rfl rfl <| bn0 rfl rfl rfl run_seq <| .fin <| cd H rfl (fun _ H => ?_) (fun _ H => ?_)
 rotate_left
 ·
  exact WP.skip <| rg 3 0 <| mv0 rfl rfl <| bn0 rfl rfl rfl run_add <| as0 rfl rfl <| .fin <| bk j186 (w64 (x182 + 1)) H
 refine WP.seq <| rg 2 0 <| mv0 rfl rfl <| as0 rfl rfl <| .fin ?_
 replace H := Gets.outr H
 obtain rfl := Gets.out H
 exact rt i2 rfl () 1 [0] 1 (.cons (res_tmp rfl) .nil)
theorem concourseref07_Add.c {k : Nat} {a0 : RDag} {a1 : Event} {r : RDag × Int} (h : concourseref07_Add.f k a0 a1 = some r) : Pt Tryz.prog 92 [agg (RDag.enc a0), agg (Event.enc a1)] (tup [agg (RDag.enc r.1), vI r.2]) := by
 unfold concourseref07_Add.f at h
 refine (Tr.body Tryz.func92 (c := _) rfl Tryz.ntmps92 (Nat.le_of_ble_eq_true rfl) fun R0 F => ?_).pt
 replace h := Gets.of h
 have H := h
 clear h
 refine WP.seq <| rg 4 7 <| Dv.box rfl trivial rfl cA nofun fun b188 => Dv.box rfl trivial rfl cA nofun fun b189 => al rfl trivial zc74 nofun fun b190 => as0 rfl rfl <| .fin <| WP.seq <| rg 3 0 <| lds 1 rfl trivial rfl sg59 rfl rfl <| el H fun t191 h192 H => cl rfl cal116 rfl (concourseref07_May.c h192) <| as0 rfl rfl <| .fin <| WP.seq <| WP.seq <| rg 9 0 <| mv0 rfl rfl <| un0 rfl rfl (run_not _) <| mv0 rfl rfl ?_
 cases c193 : !t191
 rotate_left
 ·
  replace H := Gets.ct H c193
  refine sk rfl rfl <| sk rfl rfl <| sk rfl rfl <| sk rfl rfl <| sk rfl rfl <| pt0 rfl rfl rfl <| .fin <| WP.cond rfl (fun _ => ?_) nofun
  refine WP.seq <| rg 3 2 <| lds 2 rfl trivial rfl sg74 rfl rfl <| sx 0 rfl trivial rfl rfl cA sz74 rfl rfl rfl nofun ?_
  refine as0 rfl rfl <| .fin ?_
  obtain rfl := Gets.out H
  exact rt i2 rfl () 3 [0,1,2] 3 (.cons (res_cells rfl Tryz.underlying74 rfl c74 (mem_at 0 rfl) rfl) (.cons (res_tmp rfl) .nil))
 replace H := Gets.cf H c193
 refine fb rfl (gg rfl) rfl fa59_1 <| ld 1 rfl (gg rfl) rfl sc9 rfl rfl <| fb rfl (gg rfl) rfl fa74_0 <| ld 2 rfl (gg rfl) rfl sc9 rfl rfl <| bng rfl rfl rfl rfl run_sne <| pf0 rfl rfl rfl <| .fin <| cd H rfl (fun _ H => ?_) (fun _ H => ?_)
 ·
  refine WP.seq <| rg 3 2 <| lds 2 rfl trivial rfl sg74 rfl rfl <| sx 0 rfl trivial rfl rfl cA sz74 rfl rfl rfl nofun ?_
  refine as0 rfl rfl <| .fin ?_
  obtain rfl := Gets.out H
  exact rt i2 rfl () 3 [0,1,2] 3 (.cons (res_cells rfl Tryz.underlying74 rfl c74 (mem_at 0 rfl) rfl) (.cons (res_tmp rfl) .nil))
 refine WP.skip <| WP.seq <| WP.seq <| rg 5 0 <| lds 2 rfl trivial rfl sg74 rfl rfl <| fb rfl trivial rfl fa59_0 <| ld 1 rfl trivial rfl sc9 rfl rfl <| el H fun t196 h197 H => cl rfl cal117 rfl (concourseref07_At.c h197) <| bn0 rfl rfl rfl run_ge <| .fin <| cd H rfl (fun _ H => ?_) (fun _ H => ?_)
 ·
  refine WP.seq <| rg 3 2 <| lds 2 rfl trivial rfl sg74 rfl rfl <| sx 0 rfl trivial rfl rfl cA sz74 rfl rfl rfl nofun ?_
  refine as0 rfl rfl <| .fin ?_
  obtain rfl := Gets.out H
  exact rt i2 rfl () 3 [0,1,2] 3 (.cons (res_cells rfl Tryz.underlying74 rfl c74 (mem_at 0 rfl) rfl) (.cons (res_tmp rfl) .nil))
 refine WP.skip <| WP.seqr H id (fun p199 : Int × Bool => [(0, agg (RDag.enc a0)), (1, agg (Event.enc a1)), (2, eq (.pointer (some ⟨b188, 0, none⟩))), (3, eq (.pointer (some ⟨b189, 0, none⟩))), (4, eq (.pointer (some ⟨b190, 0, none⟩))), (5, vI 0), (6, vB t191), (7, vI p199.1), (20, vB (!decide (a1.fRoom = a0.fRoom))), (26, vB (decide (0 ≤ t196))), (32, vB p199.2)]) (fun p199 : Int × Bool => [blk b190 74 [vS (⟨#[]⟩ : ByteArray), eq (.slice none 0 0)], blk b189 59 (Event.enc a1), blk b188 74 (RDag.enc a0)] ++ F) (fun p199 H => ?_) (fun H => ?_)
 rotate_left
 ·
  refine WP.seq <| rg 1 0 <| as0 rfl rfl <| .fin <| WP.block <| wg (sg 3 [0,1,2] 0) fun _ _ => ?_
  refine lp (fun j_ (p221 : Int) => concourseref07_Add.l0 k a0 a1 j_ p221) 0 H (fun p221 => [(0, agg (RDag.enc a0)), (1, agg (Event.enc a1)), (2, eq (.pointer (some ⟨b188, 0, none⟩))), (3, eq (.pointer (some ⟨b189, 0, none⟩))), (4, eq (.pointer (some ⟨b190, 0, none⟩))), (5, vI 0), (6, vB t191), (7, vI p221), (20, vB (!decide (a1.fRoom = a0.fRoom))), (26, vB (decide (0 ≤ t196)))]) (fun p221 => [blk b190 74 [vS (⟨#[]⟩ : ByteArray), eq (.slice none 0 0)], blk b189 59 (Event.enc a1), blk b188 74 (RDag.enc a0)] ++ F) ?_
  rintro j_ x214 H
  rcases j_ with _ | j220
  ·
   exact (Gets.no H).elim
  replace H : Gets (concourseref07_Add.l0 k a0 a1 (j220 + 1) x214) _ := H
  rw [concourseref07_Add.l0] at H
  refine WP.seq <| WP.seq <| rg 5 0 <| mv0 rfl rfl <| fb rfl trivial rfl fa59_2 <| ld 1 rfl trivial rfl sc35 rfl rfl <| Dv.lenl rfl trivial rfl Tryz.underlying35 <| bn0 rfl rfl rfl run_lt <| .fin <| cd H rfl (fun _ H => ?_) (fun _ H => ?_)
  rotate_left
  ·
   refine WP.exit ?_
   replace H := Gets.out H
   exact jn (x214, decide (x214 < (a1.fParents.length : Int))) H
  refine WP.skip <| WP.seq <| WP.block <| WP.seq <| dg Tryz.checked.mixed 8 0 <| lds 2 rfl trivial rfl sg74 rfl rfl <| fb rfl trivial rfl fa59_2 <| ld 1 rfl trivial rfl sc35 rfl rfl <| mv0 rfl rfl <| gr H fun g216 H => Dv.ixr rfl trivial rfl rfl Tryz.underlying35 Tryz.underlying9 c9 g216.1 g216.2 <| ldR rfl trivial rfl sc9 rfl <| el H fun t217 h218 H => cl rfl cal117 rfl (concourseref07_At.c h218) <| bn0 rfl rfl rfl run_lt <| .fin <| cd H rfl (fun _ H => ?_) (fun _ H => ?_)
  rotate_left
  ·
   exact WP.skip <| rg 3 0 <| mv0 rfl rfl <| bn0 rfl rfl rfl run_add <| as0 rfl rfl <| .fin <| bk j220 (w64 (x214 + 1)) H
  refine WP.seq <| rg 3 2 <| lds 2 rfl trivial rfl sg74 rfl rfl <| sx 0 rfl trivial rfl rfl cA sz74 rfl rfl rfl nofun ?_
  refine as0 rfl rfl <| .fin ?_
  replace H := Gets.outr H
  obtain rfl := Gets.out H
  exact rt i2 rfl () 3 [0,1,2] 3 (.cons (res_cells rfl Tryz.underlying74 rfl c74 (mem_at 0 rfl) rfl) (.cons (res_tmp rfl) .nil))
 refine WP.seqr H id (fun p200 : Unit => [(0, agg (RDag.enc a0)), (1, agg (Event.enc a1)), (2, eq (.pointer (some ⟨b188, 0, none⟩))), (3, eq (.pointer (some ⟨b189, 0, none⟩))), (4, eq (.pointer (some ⟨b190, 0, none⟩))), (5, vI 0), (6, vB t191), (7, vI p199.1), (20, vB (!decide (a1.fRoom = a0.fRoom))), (26, vB (decide (0 ≤ t196))), (32, vB p199.2), (46, vB (!decide (a1.fThread = (⟨#[]⟩ : ByteArray))))]) (fun p200 : Unit => [blk b190 74 [vS (⟨#[]⟩ : ByteArray), eq (.slice none 0 0)], blk b189 59 (Event.enc a1), blk b188 74 (RDag.enc a0)] ++ F) (fun p200 H => ?_) (fun H => ?_)
 ·
  refine WP.seq <| rg 1 0 <| as0 rfl rfl <| .fin <| WP.seq <| rg 5 8 <| mv0 rfl rfl <| fb rfl trivial rfl fa74_1 <| ld 2 rfl trivial rfl sc54 rfl rfl <| vg (st_nil Event.K none) fun _ _ => ?_
  refine gr H fun g201 H => ap Event.K 0 a0.fL src_sl Tryz.underlying54 (.inr ⟨_, Tryz.underlying54⟩) inf59 g201 nofun fun v202 => ?_
  refine as0 rfl rfl <| .fin <| WP.seq <| dg Tryz.checked.mixed 9 160 <| fb rfl trivial rfl fa74_0 <| ld 3 rfl trivial rfl sc9 rfl rfl <| mv0 rfl rfl <| lds 2 rfl trivial rfl sg59 rfl rfl <| Dv.lit Event.K ([a1] : List Event) (css := [Event.enc a1]) rfl trivial Tryz.underlying54 Tryz.underlying59 c59 z59 rfl (by decide) (by decide) rfl ⟨(cells_agg (Event.K.one _)), trivial⟩ rfl rfl rfl <| gr H fun g203 H => Dv.appx (Kd := Event.K) (jj := 0) (ys := ([a1] : List Event)) (fun v204 : OV => [own Event.K v204.1 ((([] : List Event) ++ a0.fL) ++ ([a1] : List Event)), blk b190 74 [vS (⟨#[]⟩ : ByteArray), eq (.slice none 0 0)], blk b189 59 (Event.enc a1), blk b188 74 (RDag.enc a0)] ++ F) rfl trivial rfl rfl rfl src_sl Tryz.underlying54 (.inr ⟨_, Tryz.underlying54⟩) inf59 rfl (by decide) g203 rfl (fun _ => (pend_by (by kernel_rfl) (pend_by (by kernel_rfl) (pend_by (by kernel_rfl) (pend_in (fun _ => (mem_at 3 rfl)) (pend_in (fun _ => trivial) pend_nil)))))) (fun v204 => ?_)
  refine Dv.bld (css := [[vS a0.fRoom], [eq v204.1]]) rfl trivial Tryz.underlying74 pl74 z74 rfl ⟨(cells_one (one_eq rfl)), ⟨(cells_one one_ov), trivial⟩⟩ rfl rfl <| sx 1 rfl trivial rfl rfl cA sz74 rfl rfl rfl pB ?_
  refine as0 rfl rfl <| .fin <| WP.gh (gh_frz (E' := [(4, eq (.pointer (some ⟨b190, 0, none⟩))), (5, vI 0)]) (l' := [blk b190 74 [vS a0.fRoom, sl Event.K ((([] : List Event) ++ a0.fL) ++ ([a1] : List Event))], blk b189 59 (Event.enc a1), blk b188 74 (RDag.enc a0)] ++ F) 0 rfl (cve_cons rfl cv_id (cve_cons rfl cv_id cve_nil)) (all2_app (.cons (cva_blk (.cons cv_id (.cons cv_eq .nil))) (.cons cva_id (.cons cva_id .nil))) fun _ => cva_id)) (fun _ _ => ?_)
  obtain rfl := Gets.out H
  exact rt i2 rfl () 3 [0,1,2] 3 (.cons (res_cells rfl Tryz.underlying74 rfl c74 (mem_at 0 rfl) rfl) (.cons (res_tmp rfl) .nil))
 refine WP.seq <| rg 3 0 <| fb rfl trivial rfl fa59_3 <| ld 1 rfl trivial rfl sc9 rfl rfl <| bn0 rfl rfl rfl run_sne <| .fin <| cd H rfl (fun _ H => ?_) (fun _ H => ?_)
 rotate_left
 ·
  refine WP.skip ?_
  replace H := Gets.out H
  exact jn () H
 refine WP.seq <| rg 5 0 <| lds 2 rfl trivial rfl sg74 rfl rfl <| fb rfl trivial rfl fa59_3 <| ld 1 rfl trivial rfl sc9 rfl rfl <| el H fun t206 h207 H => cl rfl cal117 rfl (concourseref07_At.c h207) <| as0 rfl rfl <| .fin <| WP.seq <| WP.seq <| rg 2 0 <| mv0 rfl rfl <| bn0 rfl rfl rfl run_lt <| .fin <| cd H rfl (fun _ H => ?_) (fun _ H => ?_)
 ·
  refine WP.seq <| rg 3 2 <| lds 2 rfl trivial rfl sg74 rfl rfl <| sx 0 rfl trivial rfl rfl cA sz74 rfl rfl rfl nofun ?_
  refine as0 rfl rfl <| .fin ?_
  replace H := Gets.outr H
  obtain rfl := Gets.out H
  exact rt i2 rfl () 3 [0,1,2] 3 (.cons (res_cells rfl Tryz.underlying74 rfl c74 (mem_at 0 rfl) rfl) (.cons (res_tmp rfl) .nil))
 refine WP.skip <| WP.seq <| rg 16 0 <| fb rfl trivial rfl fa74_1 <| ld 2 rfl trivial rfl sc54 rfl rfl <| mv0 rfl rfl <| gr H fun g209 H => Dv.ixr rfl trivial rfl rfl Tryz.underlying54 Tryz.underlying59 c59 g209.1 g209.2 <| fr rfl trivial rfl fa59_3 rfl <| ldR rfl trivial rfl sc9 rfl <| bn0 rfl rfl rfl run_sne <| mv0 rfl rfl ?_
 cases c210 : !decide (((Event.K.at a0.fL t206).fThread) = (⟨#[]⟩ : ByteArray))
 rotate_left
 ·
  replace H := Gets.ct H c210
  refine sk rfl rfl <| sk rfl rfl <| sk rfl rfl <| sk rfl rfl <| sk rfl rfl <| sk rfl rfl <| sk rfl rfl <| pt0 rfl rfl rfl <| .fin <| WP.cond rfl (fun _ => ?_) nofun
  refine WP.seq <| rg 3 2 <| lds 2 rfl trivial rfl sg74 rfl rfl <| sx 0 rfl trivial rfl rfl cA sz74 rfl rfl rfl nofun ?_
  refine as0 rfl rfl <| .fin ?_
  replace H := Gets.outr H
  obtain rfl := Gets.out H
  exact rt i2 rfl () 3 [0,1,2] 3 (.cons (res_cells rfl Tryz.underlying74 rfl c74 (mem_at 0 rfl) rfl) (.cons (res_tmp rfl) .nil))
 replace H := Gets.cf H c210
 refine fb rfl (gg rfl) rfl fa74_1 <| ld 2 rfl (gg rfl) rfl sc54 rfl rfl <| mvg rfl rfl rfl <| gr H fun g212 H => Dv.ixr rfl (gg rfl) rfl rfl Tryz.underlying54 Tryz.underlying59 c59 g212.1 g212.2 <| fr rfl (gg rfl) rfl fa59_5 rfl <| ldR rfl (gg rfl) rfl sc3 rfl <| bng rfl rfl rfl rfl run_ne <| pf0 rfl rfl rfl <| .fin <| cd H rfl (fun _ H => ?_) (fun _ H => ?_)
 rotate_left
 ·
  refine WP.skip ?_
  replace H := Gets.out H
  exact jn () H
 refine WP.seq <| rg 3 2 <| lds 2 rfl trivial rfl sg74 rfl rfl <| sx 0 rfl trivial rfl rfl cA sz74 rfl rfl rfl nofun ?_
 refine as0 rfl rfl <| .fin ?_
 replace H := Gets.outr H
 obtain rfl := Gets.out H
 exact rt i2 rfl () 3 [0,1,2] 3 (.cons (res_cells rfl Tryz.underlying74 rfl c74 (mem_at 0 rfl) rfl) (.cons (res_tmp rfl) .nil))
theorem concourseref07_Made.c {k : Nat} {a0 : ByteArray} {a1 : List GMade} {r : RDag} (h : concourseref07_Made.f k a0 a1 = some r) : Pt Tryz.prog 64 [vS a0, sl GMade.K a1] (agg (RDag.enc r)) := by
 unfold concourseref07_Made.f at h
 refine (Tr.body Tryz.func64 (c := _) rfl Tryz.ntmps64 (Nat.le_of_ble_eq_true rfl) fun R0 F => ?_).pt
 replace h := Gets.of h
 have H := h
 clear h
 refine WP.seq <| rg 1 1 <| al rfl trivial zc74 nofun fun b222 => .fin <| WP.seq <| rg 4 12 <| mv0 rfl rfl <| Dv.bld (css := [[vS a0]]) rfl trivial Tryz.underlying74 pl74 z74 rfl ⟨(cells_one (one_eq rfl)), trivial⟩ rfl rfl <| al rfl trivial zc74 nofun fun b223 => sx 0 rfl trivial rfl rfl cA sz74 rfl rfl rfl nofun ?_
 refine .fin <| WP.seqn H id (fun p224 : Int × Bool × ByteArray × (List Event) => [(0, vS a0), (1, sl GMade.K a1), (4, eq (.pointer (some ⟨b222, 0, none⟩))), (5, eq (.pointer (some ⟨b223, 0, none⟩))), (6, vI p224.1), (23, vB p224.2.1)]) (fun p224 : Int × Bool × ByteArray × (List Event) => [blk b223 74 [vS p224.2.2.1, sl Event.K p224.2.2.2], blk b222 74 [vS (⟨#[]⟩ : ByteArray), eq (.slice none 0 0)]] ++ F) (fun p224 H => ?_) (fun H => ?_)
 ·
  refine WP.seq <| rg 2 2 <| lds 0 rfl trivial rfl sg74 rfl rfl <| sx 1 rfl trivial rfl rfl cA sz74 rfl rfl rfl nofun ?_
  refine .fin ?_
  obtain rfl := Gets.out H
  exact rt i2 rfl () 2 [0,1] 2 (.cons (res_cells rfl Tryz.underlying74 rfl c74 (mem_at 1 rfl) rfl) .nil)
 refine WP.seq <| rg 1 0 <| as0 rfl rfl <| .fin <| WP.block <| WP.gh (gh_wk (E' := [(0, vS a0), (1, sl GMade.K a1), (4, eq (.pointer (some ⟨b222, 0, none⟩))), (5, eq (.pointer (some ⟨b223, 0, none⟩))), (6, vI 0)]) (l' := [blk b223 74 [vS a0, sl Event.K ([] : List Event)], blk b222 74 [vS (⟨#[]⟩ : ByteArray), eq (.slice none 0 0)]] ++ F) (wke_cons rfl wk_id (wke_cons rfl wk_id (wke_cons rfl wk_id (wke_cons rfl wk_id (wke_cons rfl wk_id wke_nil))))) (all2_app (.cons (wka_blk (.cons wk_id (.cons wk_nil .nil))) (.cons wka_id .nil)) fun _ => wka_id)) (fun _ _ => ?_)
 refine wg (sg 2 [0,1] 0) fun _ _ => ?_
 refine lp (fun j_ (p313 : Int × ByteArray × (List Event)) => concourseref07_Made.l0 k a0 a1 j_ p313.1 p313.2.1 p313.2.2) (0, a0, ([] : List Event)) H (fun p313 => [(0, vS a0), (1, sl GMade.K a1), (4, eq (.pointer (some ⟨b222, 0, none⟩))), (5, eq (.pointer (some ⟨b223, 0, none⟩))), (6, vI p313.1)]) (fun p313 => [blk b223 74 [vS p313.2.1, sl Event.K p313.2.2], blk b222 74 [vS (⟨#[]⟩ : ByteArray), eq (.slice none 0 0)]] ++ F) ?_
 rintro j_ ⟨x225, x226, x227⟩ H
 rcases j_ with _ | j312
 ·
  exact (Gets.no H).elim
 replace H : Gets (concourseref07_Made.l0 k a0 a1 (j312 + 1) x225 x226 x227) _ := H
 rw [concourseref07_Made.l0] at H
 refine WP.seq <| WP.seq <| rg 8 0 <| mv0 rfl rfl <| mv0 rfl rfl <| Dv.lenl rfl trivial rfl Tryz.underlying22 <| bn0 rfl rfl rfl run_lt <| mv0 rfl rfl ?_
 cases c228 : decide (x225 < (a1.length : Int))
 ·
  replace H := Gets.cf H c228
  refine sk rfl rfl <| sk rfl rfl <| pf0 rfl rfl rfl <| .fin <| WP.cond rfl nofun (fun _ => ?_)
  refine WP.exit ?_
  replace H := Gets.out H
  exact jn (x225, false, x226, x227) H
 replace H := Gets.ct H c228
 refine mvg rfl rfl rfl <| bng rfl rfl rfl rfl run_lt <| pt0 rfl rfl rfl <| .fin <| cd H rfl (fun _ H => ?_) (fun _ H => ?_)
 rotate_left
 ·
  refine WP.exit ?_
  replace H := Gets.out H
  exact jn (x225, decide (x225 < 9), x226, x227) H
 refine WP.skip <| WP.seqn H (fun q310 : (Int × Int × Bool × Bool × Bool × ByteArray × (List Event) × (List Bool)) × OV => q310.1) (fun q310 : (Int × Int × Bool × Bool × Bool × ByteArray × (List Event) × (List Bool)) × OV => [(0, vS a0), (1, sl GMade.K a1), (4, eq (.pointer (some ⟨b222, 0, none⟩))), (5, eq (.pointer (some ⟨b223, 0, none⟩))), (6, vI x225), (8, eq q310.2.1), (9, vI q310.1.1), (10, vI q310.1.2.1), (23, vB (decide (x225 < 9))), (58, vB q310.1.2.2.1), (75, vB q310.1.2.2.2.1), (95, vB q310.1.2.2.2.2.1)]) (fun q310 : (Int × Int × Bool × Bool × Bool × ByteArray × (List Event) × (List Bool)) × OV => [blk b223 74 [vS q310.1.2.2.2.2.2.1, sl Event.K q310.1.2.2.2.2.2.2.1], blk b222 74 [vS (⟨#[]⟩ : ByteArray), eq (.slice none 0 0)], own boolK q310.2.1 q310.1.2.2.2.2.2.2.2] ++ F) (fun q310 H => ?_) (fun H => ?_)
 ·
  obtain ⟨p230, v231⟩ := q310
  refine rg 3 0 <| mv0 rfl rfl <| bn0 rfl rfl rfl run_add <| as0 rfl rfl <| .fin <| ng (sg 3 [2,0,1] 1) fun _ _ => ?_
  exact bk j312 (w64 (x225 + 1), p230.2.2.2.2.2.1, p230.2.2.2.2.2.2.1) H
 refine WP.block <| WP.seq <| dg Tryz.checked.mixed 18 196608 <| mv0 rfl rfl <| el H fun t232 h233 H => cl rfl cal58 rfl (concourseref01_EventOf.c h233) <| mv0 rfl rfl <| mv0 rfl rfl <| mv0 rfl rfl <| gr H fun g234 H => Dv.ixr rfl trivial rfl rfl Tryz.underlying22 Tryz.underlying103 c103 g234.1 g234.2 <| fr rfl trivial rfl fa103_0 rfl <| ldR rfl trivial rfl sc3 rfl <| el H fun t235 h236 H => cl rfl cal24 rfl (concourseref01_UserOf.c h236) <| mv0 rfl rfl <| mv0 rfl rfl <| gr H fun g237 H => Dv.ixr rfl trivial rfl rfl Tryz.underlying22 Tryz.underlying103 c103 g237.1 g237.2 <| fr rfl trivial rfl fa103_1 rfl <| ldR rfl trivial rfl sc3 rfl <| el H fun t238 h239 H => cl rfl cal36 rfl (concourseref01_Around.c h239) <| Dv.bld (css := [[vS t232], [vS a0], [vS t235], [vI t238]]) rfl trivial Tryz.underlying59 pl59 z59 rfl ⟨(cells_one (one_eq rfl)), ⟨(cells_one (one_eq rfl)), ⟨(cells_one (one_eq rfl)), ⟨(cells_one (one_eq rfl)), trivial⟩⟩⟩⟩ rfl rfl <| al rfl trivial zc59 (fun _ => (pend_in (fun _ => trivial) (pend_in (fun _ => trivial) (pend_in (fun _ => trivial) (pend_in (fun _ => trivial) (pend_in (fun _ => trivial) (pend_in (fun _ => trivial) (pend_in (fun _ => trivial) (pend_in (fun _ => trivial) (pend_in (fun _ => trivial) (pend_in (fun _ => trivial) (pend_in (fun _ => trivial) (pend_in (fun _ => trivial) (pend_in (fun _ => trivial) (pend_in (fun _ => trivial) (pend_in (fun _ => trivial) (pend_in (fun _ => trivial) pend_nil))))))))))))))))) fun b240 => sx 0 rfl trivial rfl rfl cA sz59 rfl rfl rfl pB ?_
 refine .fin <| WP.seq <| rg 2 1 <| gr H fun g241 H => ?_
 obtain ⟨ti242, ti242a, ti242b, ti242c, ti242d⟩ := inf4
 refine Dv.mks (Kd := boolK) (false : Bool) rfl trivial rfl rfl Tryz.underlying104 ti242a ti242b ti242c ti242d rfl (by decide) rfl g241 nofun (fun v243 => ?_)
 refine as0 rfl rfl <| .fin <| WP.seqn H id (fun p244 : Int × Bool × (List Bool) => [(0, vS a0), (1, sl GMade.K a1), (4, eq (.pointer (some ⟨b222, 0, none⟩))), (5, eq (.pointer (some ⟨b223, 0, none⟩))), (6, vI x225), (7, eq (.pointer (some ⟨b240, 0, none⟩))), (8, eq v243.1), (9, vI p244.1), (23, vB (decide (x225 < 9))), (58, vB p244.2.1)]) (fun p244 : Int × Bool × (List Bool) => [blk b240 59 [vS t232, vS a0, eq (.slice none 0 0), vS (⟨#[]⟩ : ByteArray), vS t235, vI t238], blk b223 74 [vS x226, sl Event.K x227], blk b222 74 [vS (⟨#[]⟩ : ByteArray), eq (.slice none 0 0)], own boolK v243.1 p244.2.2] ++ F) (fun p244 H => ?_) (fun H => ?_)
 rotate_left
 ·
  refine WP.seq <| rg 1 0 <| as0 rfl rfl <| .fin <| WP.block <| wg (sg 4 [1,2,3,0] 0) fun _ _ => ?_
  refine lp (fun j_ (p309 : Int × (List Bool)) => concourseref07_Made.l2 k a1 x225 j_ p309.1 p309.2) (0, List.replicate (9 : Int).toNat (false : Bool)) H (fun p309 => [(0, vS a0), (1, sl GMade.K a1), (4, eq (.pointer (some ⟨b222, 0, none⟩))), (5, eq (.pointer (some ⟨b223, 0, none⟩))), (6, vI x225), (7, eq (.pointer (some ⟨b240, 0, none⟩))), (8, eq v243.1), (9, vI p309.1), (23, vB (decide (x225 < 9)))]) (fun p309 => [blk b240 59 [vS t232, vS a0, eq (.slice none 0 0), vS (⟨#[]⟩ : ByteArray), vS t235, vI t238], blk b223 74 [vS x226, sl Event.K x227], blk b222 74 [vS (⟨#[]⟩ : ByteArray), eq (.slice none 0 0)], own boolK v243.1 p309.2] ++ F) ?_
  rintro j_ ⟨x294, x295⟩ H
  rcases j_ with _ | j308
  ·
   exact (Gets.no H).elim
  replace H : Gets (concourseref07_Made.l2 k a1 x225 (j308 + 1) x294 x295) _ := H
  rw [concourseref07_Made.l2] at H
  refine WP.seq <| WP.seq <| rg 16 0 <| mv0 rfl rfl <| mv0 rfl rfl <| mv0 rfl rfl <| gr H fun g296 H => Dv.ixr rfl trivial rfl rfl Tryz.underlying22 Tryz.underlying103 c103 g296.1 g296.2 <| fr rfl trivial rfl fa103_2 rfl <| ldR rfl trivial rfl sc101 rfl <| Dv.lenl rfl trivial rfl Tryz.underlying101 <| bn0 rfl rfl rfl run_lt <| mv0 rfl rfl ?_
  cases c297 : decide (x294 < (((GMade.K.at a1 x225).fParents).length : Int))
  ·
   replace H := Gets.cf H c297
   refine sk rfl rfl <| sk rfl rfl <| pf0 rfl rfl rfl <| mv0 rfl rfl <| sk rfl rfl <| sk rfl rfl <| pf0 rfl rfl rfl <| .fin <| WP.cond rfl nofun (fun _ => ?_)
   refine WP.exit ?_
   replace H := Gets.out H
   exact jn (x294, false, x295) H
  replace H := Gets.ct H c297
  refine mvg rfl rfl rfl <| bng rfl rfl rfl rfl run_lt <| pt0 rfl rfl rfl <| mv0 rfl rfl ?_
  cases c298 : decide (x294 < 3)
  ·
   replace H := Gets.cf H c298
   refine sk rfl rfl <| sk rfl rfl <| pf0 rfl rfl rfl <| .fin <| WP.cond rfl nofun (fun _ => ?_)
   refine WP.exit ?_
   replace H := Gets.out H
   exact jn (x294, false, x295) H
  replace H := Gets.ct H c298
  refine mvg rfl rfl rfl <| bng rfl rfl rfl rfl run_gt <| pt0 rfl rfl rfl <| .fin <| cd H rfl (fun _ H => ?_) (fun _ H => ?_)
  rotate_left
  ·
   refine WP.exit ?_
   replace H := Gets.out H
   exact jn (x294, decide (0 < x225), x295) H
  refine WP.skip <| WP.seq <| WP.block <| rg 13 4096 <| mv0 rfl rfl <| mv0 rfl rfl <| mv0 rfl rfl <| gr H fun g300 H => Dv.ixr rfl trivial rfl rfl Tryz.underlying22 Tryz.underlying103 c103 g300.1 g300.2 <| fr rfl trivial rfl fa103_2 rfl <| ldR rfl trivial rfl sc101 rfl <| mv0 rfl rfl <| gr H fun g301 H => Dv.ixr rfl trivial rfl rfl Tryz.underlying101 Tryz.underlying3 c3 g301.1 g301.2 <| ldR rfl trivial rfl sc3 rfl <| mv0 rfl rfl <| el H fun t302 h303 H => cl rfl cal36 rfl (concourseref01_Around.c h303) <| gr H fun g304 H => ?_
  have h305 : t302.toNat < x295.length := idx_lt g304
  exact Dv.ixw rfl trivial rfl (mem_at 3 rfl) rfl Tryz.underlying104 Tryz.underlying4 c4 g304.1 g304.2 <| Dv.stw (j := t302.toNat) (f := 0) (jj := 3) true rfl trivial rfl rfl (cells_one (one_eq rfl)) Tryz.underlying4 c4 rfl rfl h305 (Nat.le_of_ble_eq_true rfl) rfl nofun <| .fin <| rg 3 0 <| mv0 rfl rfl <| bn0 rfl rfl rfl run_add <| as0 rfl rfl <| .fin <| bk j308 (w64 (x294 + 1), x295.set t302.toNat true) H
 refine WP.seqn H (fun q293 : (Int × Bool × (List ByteArray)) × OV => q293.1) (fun q293 : (Int × Bool × (List ByteArray)) × OV => [(0, vS a0), (1, sl GMade.K a1), (4, eq (.pointer (some ⟨b222, 0, none⟩))), (5, eq (.pointer (some ⟨b223, 0, none⟩))), (6, vI x225), (7, eq (.pointer (some ⟨b240, 0, none⟩))), (8, eq v243.1), (9, vI p244.1), (10, vI q293.1.1), (23, vB (decide (x225 < 9))), (58, vB p244.2.1), (75, vB q293.1.2.1)]) (fun q293 : (Int × Bool × (List ByteArray)) × OV => [blk b240 59 [vS t232, vS a0, eq q293.2.1, vS (⟨#[]⟩ : ByteArray), vS t235, vI t238], blk b223 74 [vS x226, sl Event.K x227], blk b222 74 [vS (⟨#[]⟩ : ByteArray), eq (.slice none 0 0)], own boolK v243.1 p244.2.2, own strK q293.2.1 q293.1.2.2] ++ F) (fun q293 H => ?_) (fun H => ?_)
 rotate_left
 ·
  refine WP.seq <| rg 1 0 <| as0 rfl rfl <| .fin <| WP.block <| wg (st_nil strK none) fun _ _ => ?_
  refine wg (sg 5 [1,2,3,4,0] 0) fun _ _ => ?_
  refine lp (fun j_ (p292 : Int × (List ByteArray) × OV) => concourseref07_Made.l1 k x225 p244 j_ p292.1 p292.2.1) (0, ([] : List ByteArray), nilV) H (fun p292 => [(0, vS a0), (1, sl GMade.K a1), (4, eq (.pointer (some ⟨b222, 0, none⟩))), (5, eq (.pointer (some ⟨b223, 0, none⟩))), (6, vI x225), (7, eq (.pointer (some ⟨b240, 0, none⟩))), (8, eq v243.1), (9, vI p244.1), (10, vI p292.1), (23, vB (decide (x225 < 9))), (58, vB p244.2.1)]) (fun p292 => [blk b240 59 [vS t232, vS a0, eq p292.2.2.1, vS (⟨#[]⟩ : ByteArray), vS t235, vI t238], blk b223 74 [vS x226, sl Event.K x227], blk b222 74 [vS (⟨#[]⟩ : ByteArray), eq (.slice none 0 0)], own boolK v243.1 p244.2.2, own strK p292.2.2.1 p292.2.1] ++ F) ?_
  rintro j_ ⟨x280, x281, v282⟩ H
  rcases j_ with _ | j291
  ·
   exact (Gets.no H).elim
  replace H : Gets (concourseref07_Made.l1 k x225 p244 (j291 + 1) x280 x281) _ := H
  rw [concourseref07_Made.l1] at H
  refine WP.seq <| WP.seq <| rg 3 0 <| mv0 rfl rfl <| mv0 rfl rfl <| bn0 rfl rfl rfl run_lt <| .fin <| cd H rfl (fun _ H => ?_) (fun _ H => ?_)
  rotate_left
  ·
   refine WP.exit ?_
   replace H := Gets.out H
   exact jn ((x280, decide (x280 < x225), x281), v282) H
  refine WP.skip <| WP.seq <| WP.block <| WP.seq <| rg 4 0 <| mv0 rfl rfl <| mv0 rfl rfl <| gr H fun g284 H => ?_
  have h285 : x280.toNat < p244.2.2.length := idx_lt g284
  refine Dv.ixw rfl trivial rfl (mem_at 3 rfl) rfl Tryz.underlying104 Tryz.underlying4 c4 g284.1 g284.2 <| Dv.ldw (j := x280.toNat) (f := 0) (p := vB (p244.2.2.getD x280.toNat default)) rfl trivial rfl (mem_at 3 rfl) h285 Tryz.underlying4 rfl rfl <| .fin <| cd H rfl (fun _ H => ?_) (fun _ H => ?_)
  rotate_left
  ·
   exact WP.skip <| rg 3 0 <| mv0 rfl rfl <| bn0 rfl rfl rfl run_add <| as0 rfl rfl <| .fin <| bk j291 (w64 (x280 + 1), x281, v282) H
  refine dg Tryz.checked.mixed 8 160 <| fb rfl trivial rfl fa59_2 <| ld 0 rfl trivial rfl sc35 rfl rfl <| mv0 rfl rfl <| el H fun t287 h288 H => cl rfl cal58 rfl (concourseref01_EventOf.c h288) <| Dv.lit strK ([t287] : List ByteArray) (css := [[vS t287]]) rfl trivial Tryz.underlying35 Tryz.underlying9 c9 z9 rfl (by decide) (by decide) rfl ⟨(cells_one (one_eq rfl)), trivial⟩ rfl rfl rfl <| gr H fun g289 H => ap strK 4 ([t287] : List ByteArray) src_sl Tryz.underlying35 (.inr ⟨_, Tryz.underlying35⟩) inf9 g289 pB fun v290 => ?_
  refine fb rfl trivial rfl fa59_2 <| sx 0 rfl trivial rfl rfl (cells_one one_ov) sz35 rfl rfl rfl pB ?_
  exact .fin <| rg 3 0 <| mv0 rfl rfl <| bn0 rfl rfl rfl run_add <| as0 rfl rfl <| .fin <| bk j291 (w64 (x280 + 1), x281 ++ ([t287] : List ByteArray), v290) H
 obtain ⟨p245, v246⟩ := q293
 refine WP.seq <| WP.seq <| rg 7 0 <| fb rfl trivial rfl fa59_5 <| ld 0 rfl trivial rfl sc3 rfl rfl <| bn0 rfl rfl rfl run_eq <| mv0 rfl rfl ?_
 cases c247 : (t238 == 0)
 ·
  replace H := Gets.cf H c247
  refine sk rfl rfl <| sk rfl rfl <| pf0 rfl rfl rfl <| .fin <| WP.cond rfl nofun (fun _ => ?_)
  refine WP.skip <| WP.seq <| rg 9 192 <| lds 1 rfl trivial rfl sg74 rfl rfl <| lds 0 rfl trivial rfl sg59 rfl rfl <| Dv.gh (gh_frz (E' := [(0, vS a0), (1, sl GMade.K a1), (4, eq (.pointer (some ⟨b222, 0, none⟩))), (5, eq (.pointer (some ⟨b223, 0, none⟩))), (6, vI x225), (7, eq (.pointer (some ⟨b240, 0, none⟩))), (8, eq v243.1), (9, vI p244.1), (10, vI p245.1), (23, vB (decide (x225 < 9))), (58, vB p244.2.1), (75, vB p245.2.1), (95, vB false), (129, agg [vS x226, sl Event.K x227]), (130, agg [vS t232, vS a0, sl strK p245.2.2, vS (⟨#[]⟩ : ByteArray), vS t235, vI t238])]) (l' := [blk b240 59 [vS t232, vS a0, sl strK p245.2.2, vS (⟨#[]⟩ : ByteArray), vS t235, vI t238], blk b223 74 [vS x226, sl Event.K x227], blk b222 74 [vS (⟨#[]⟩ : ByteArray), eq (.slice none 0 0)], own boolK v243.1 p244.2.2] ++ F) 4 rfl (cve_cons rfl cv_id (cve_cons rfl cv_id (cve_cons rfl cv_id (cve_cons rfl cv_id (cve_cons rfl cv_id (cve_cons rfl cv_id (cve_cons rfl cv_id (cve_cons rfl cv_id (cve_cons rfl cv_id (cve_cons rfl cv_id (cve_cons rfl cv_id (cve_cons rfl cv_id (cve_cons rfl cv_id (cve_cons rfl cv_id (cve_cons rfl (cv_agg (.cons cv_id (.cons cv_id (.cons cv_eq (.cons cv_id (.cons cv_id (.cons cv_id .nil))))))) cve_nil))))))))))))))) (all2_app (.cons (cva_blk (.cons cv_id (.cons cv_id (.cons cv_eq (.cons cv_id (.cons cv_id (.cons cv_id .nil))))))) (.cons cva_id (.cons cva_id (.cons cva_id .nil)))) fun _ => cva_id)) (fun _ _ => ?_)
  refine el H fun t277 h278 H => cl rfl cal92 rfl (concourseref07_Add.c h278) <| mv0 rfl rfl <| ex0 rfl trivial rfl rfl <| ex0 rfl trivial rfl rfl <| al rfl trivial zc74 nofun fun b279 => sx 0 rfl trivial rfl rfl cA sz74 rfl rfl rfl nofun ?_
  refine as0 rfl rfl <| .fin <| rg 2 2 <| lds 0 rfl trivial rfl sg74 rfl rfl <| sx 2 rfl trivial rfl rfl cA sz74 rfl rfl rfl nofun ?_
  refine .fin ?_
  replace H := Gets.out H
  refine ng (sg 5 [0,1,2,3,4] 2) fun _ _ => ?_
  exact jn ((p244.1, p245.1, p244.2.1, p245.2.1, false, t277.1.fRoom, t277.1.fL, p244.2.2), v243) H
 replace H := Gets.ct H c247
 refine mvg rfl rfl rfl <| bng rfl rfl rfl rfl run_gt <| pt0 rfl rfl rfl <| .fin <| cd H rfl (fun _ H => ?_) (fun _ H => ?_)
 rotate_left
 ·
  refine WP.skip <| WP.seq <| rg 9 192 <| lds 1 rfl trivial rfl sg74 rfl rfl <| lds 0 rfl trivial rfl sg59 rfl rfl <| Dv.gh (gh_frz (E' := [(0, vS a0), (1, sl GMade.K a1), (4, eq (.pointer (some ⟨b222, 0, none⟩))), (5, eq (.pointer (some ⟨b223, 0, none⟩))), (6, vI x225), (7, eq (.pointer (some ⟨b240, 0, none⟩))), (8, eq v243.1), (9, vI p244.1), (10, vI p245.1), (23, vB (decide (x225 < 9))), (58, vB p244.2.1), (75, vB p245.2.1), (95, vB (decide (0 < x225))), (129, agg [vS x226, sl Event.K x227]), (130, agg [vS t232, vS a0, sl strK p245.2.2, vS (⟨#[]⟩ : ByteArray), vS t235, vI t238])]) (l' := [blk b240 59 [vS t232, vS a0, sl strK p245.2.2, vS (⟨#[]⟩ : ByteArray), vS t235, vI t238], blk b223 74 [vS x226, sl Event.K x227], blk b222 74 [vS (⟨#[]⟩ : ByteArray), eq (.slice none 0 0)], own boolK v243.1 p244.2.2] ++ F) 4 rfl (cve_cons rfl cv_id (cve_cons rfl cv_id (cve_cons rfl cv_id (cve_cons rfl cv_id (cve_cons rfl cv_id (cve_cons rfl cv_id (cve_cons rfl cv_id (cve_cons rfl cv_id (cve_cons rfl cv_id (cve_cons rfl cv_id (cve_cons rfl cv_id (cve_cons rfl cv_id (cve_cons rfl cv_id (cve_cons rfl cv_id (cve_cons rfl (cv_agg (.cons cv_id (.cons cv_id (.cons cv_eq (.cons cv_id (.cons cv_id (.cons cv_id .nil))))))) cve_nil))))))))))))))) (all2_app (.cons (cva_blk (.cons cv_id (.cons cv_id (.cons cv_eq (.cons cv_id (.cons cv_id (.cons cv_id .nil))))))) (.cons cva_id (.cons cva_id (.cons cva_id .nil)))) fun _ => cva_id)) (fun _ _ => ?_)
  refine el H fun t273 h274 H => cl rfl cal92 rfl (concourseref07_Add.c h274) <| mv0 rfl rfl <| ex0 rfl trivial rfl rfl <| ex0 rfl trivial rfl rfl <| al rfl trivial zc74 nofun fun b275 => sx 0 rfl trivial rfl rfl cA sz74 rfl rfl rfl nofun ?_
  refine as0 rfl rfl <| .fin <| rg 2 2 <| lds 0 rfl trivial rfl sg74 rfl rfl <| sx 2 rfl trivial rfl rfl cA sz74 rfl rfl rfl nofun ?_
  refine .fin ?_
  replace H := Gets.out H
  refine ng (sg 5 [0,1,2,3,4] 2) fun _ _ => ?_
  exact jn ((p244.1, p245.1, p244.2.1, p245.2.1, decide (0 < x225), t273.1.fRoom, t273.1.fL, p244.2.2), v243) H
 refine WP.seq <| rg 9 0 <| mv0 rfl rfl <| mv0 rfl rfl <| gr H fun g249 H => Dv.ixr rfl trivial rfl rfl Tryz.underlying22 Tryz.underlying103 c103 g249.1 g249.2 <| fr rfl trivial rfl fa103_3 rfl <| ldR rfl trivial rfl sc3 rfl <| mv0 rfl rfl <| bn0 rfl rfl rfl run_mul <| el H fun t250 h251 H => cl rfl cal36 rfl (concourseref01_Around.c h251) <| as0 rfl rfl <| .fin <| WP.seq <| rg 21 0 <| mv0 rfl rfl <| mv0 rfl rfl <| bn0 rfl rfl rfl run_lt <| mv0 rfl rfl ?_
 cases c252 : decide (t250 < x225)
 ·
  replace H := Gets.cf H c252
  refine sk rfl rfl <| sk rfl rfl <| sk rfl rfl <| sk rfl rfl <| sk rfl rfl <| sk rfl rfl <| sk rfl rfl <| pf0 rfl rfl rfl <| mv0 rfl rfl <| sk rfl rfl <| sk rfl rfl <| sk rfl rfl <| sk rfl rfl <| sk rfl rfl <| sk rfl rfl <| sk rfl rfl <| pf0 rfl rfl rfl <| .fin <| WP.cond rfl nofun (fun _ => ?_)
  refine WP.skip <| WP.seq <| rg 9 192 <| lds 1 rfl trivial rfl sg74 rfl rfl <| lds 0 rfl trivial rfl sg59 rfl rfl <| Dv.gh (gh_frz (E' := [(0, vS a0), (1, sl GMade.K a1), (4, eq (.pointer (some ⟨b222, 0, none⟩))), (5, eq (.pointer (some ⟨b223, 0, none⟩))), (6, vI x225), (7, eq (.pointer (some ⟨b240, 0, none⟩))), (8, eq v243.1), (9, vI p244.1), (10, vI p245.1), (11, vI t250), (23, vB (decide (x225 < 9))), (58, vB p244.2.1), (75, vB p245.2.1), (95, vB (decide (0 < x225))), (124, vB false), (129, agg [vS x226, sl Event.K x227]), (130, agg [vS t232, vS a0, sl strK p245.2.2, vS (⟨#[]⟩ : ByteArray), vS t235, vI t238])]) (l' := [blk b240 59 [vS t232, vS a0, sl strK p245.2.2, vS (⟨#[]⟩ : ByteArray), vS t235, vI t238], blk b223 74 [vS x226, sl Event.K x227], blk b222 74 [vS (⟨#[]⟩ : ByteArray), eq (.slice none 0 0)], own boolK v243.1 p244.2.2] ++ F) 4 rfl (cve_cons rfl cv_id (cve_cons rfl cv_id (cve_cons rfl cv_id (cve_cons rfl cv_id (cve_cons rfl cv_id (cve_cons rfl cv_id (cve_cons rfl cv_id (cve_cons rfl cv_id (cve_cons rfl cv_id (cve_cons rfl cv_id (cve_cons rfl cv_id (cve_cons rfl cv_id (cve_cons rfl cv_id (cve_cons rfl cv_id (cve_cons rfl cv_id (cve_cons rfl cv_id (cve_cons rfl (cv_agg (.cons cv_id (.cons cv_id (.cons cv_eq (.cons cv_id (.cons cv_id (.cons cv_id .nil))))))) cve_nil))))))))))))))))) (all2_app (.cons (cva_blk (.cons cv_id (.cons cv_id (.cons cv_eq (.cons cv_id (.cons cv_id (.cons cv_id .nil))))))) (.cons cva_id (.cons cva_id (.cons cva_id .nil)))) fun _ => cva_id)) (fun _ _ => ?_)
  refine el H fun t270 h271 H => cl rfl cal92 rfl (concourseref07_Add.c h271) <| mv0 rfl rfl <| ex0 rfl trivial rfl rfl <| ex0 rfl trivial rfl rfl <| al rfl trivial zc74 nofun fun b272 => sx 0 rfl trivial rfl rfl cA sz74 rfl rfl rfl nofun ?_
  refine as0 rfl rfl <| .fin <| rg 2 2 <| lds 0 rfl trivial rfl sg74 rfl rfl <| sx 2 rfl trivial rfl rfl cA sz74 rfl rfl rfl nofun ?_
  refine .fin ?_
  replace H := Gets.out H
  refine ng (sg 5 [0,1,2,3,4] 2) fun _ _ => ?_
  exact jn ((p244.1, p245.1, p244.2.1, p245.2.1, decide (0 < x225), t270.1.fRoom, t270.1.fL, p244.2.2), v243) H
 replace H := Gets.ct H c252
 refine fb rfl (gg rfl) rfl fa74_1 <| ld 1 rfl (gg rfl) rfl sc54 rfl rfl <| mvg rfl rfl rfl <| gr H fun g253 H => Dv.ixr rfl (gg rfl) rfl rfl Tryz.underlying54 Tryz.underlying59 c59 g253.1 g253.2 <| fr rfl (gg rfl) rfl fa59_5 rfl <| ldR rfl (gg rfl) rfl sc3 rfl <| bng rfl rfl rfl rfl run_eq <| pt0 rfl rfl rfl <| mv0 rfl rfl ?_
 cases c254 : (((Event.K.at x227 t250).fDoes) == 0)
 ·
  replace H := Gets.cf H c254
  refine sk rfl rfl <| sk rfl rfl <| sk rfl rfl <| sk rfl rfl <| sk rfl rfl <| sk rfl rfl <| sk rfl rfl <| pf0 rfl rfl rfl <| .fin <| WP.cond rfl nofun (fun _ => ?_)
  refine WP.skip <| WP.seq <| rg 9 192 <| lds 1 rfl trivial rfl sg74 rfl rfl <| lds 0 rfl trivial rfl sg59 rfl rfl <| Dv.gh (gh_frz (E' := [(0, vS a0), (1, sl GMade.K a1), (4, eq (.pointer (some ⟨b222, 0, none⟩))), (5, eq (.pointer (some ⟨b223, 0, none⟩))), (6, vI x225), (7, eq (.pointer (some ⟨b240, 0, none⟩))), (8, eq v243.1), (9, vI p244.1), (10, vI p245.1), (11, vI t250), (23, vB (decide (x225 < 9))), (58, vB p244.2.1), (75, vB p245.2.1), (95, vB (decide (0 < x225))), (124, vB false), (129, agg [vS x226, sl Event.K x227]), (130, agg [vS t232, vS a0, sl strK p245.2.2, vS (⟨#[]⟩ : ByteArray), vS t235, vI t238])]) (l' := [blk b240 59 [vS t232, vS a0, sl strK p245.2.2, vS (⟨#[]⟩ : ByteArray), vS t235, vI t238], blk b223 74 [vS x226, sl Event.K x227], blk b222 74 [vS (⟨#[]⟩ : ByteArray), eq (.slice none 0 0)], own boolK v243.1 p244.2.2] ++ F) 4 rfl (cve_cons rfl cv_id (cve_cons rfl cv_id (cve_cons rfl cv_id (cve_cons rfl cv_id (cve_cons rfl cv_id (cve_cons rfl cv_id (cve_cons rfl cv_id (cve_cons rfl cv_id (cve_cons rfl cv_id (cve_cons rfl cv_id (cve_cons rfl cv_id (cve_cons rfl cv_id (cve_cons rfl cv_id (cve_cons rfl cv_id (cve_cons rfl cv_id (cve_cons rfl cv_id (cve_cons rfl (cv_agg (.cons cv_id (.cons cv_id (.cons cv_eq (.cons cv_id (.cons cv_id (.cons cv_id .nil))))))) cve_nil))))))))))))))))) (all2_app (.cons (cva_blk (.cons cv_id (.cons cv_id (.cons cv_eq (.cons cv_id (.cons cv_id (.cons cv_id .nil))))))) (.cons cva_id (.cons cva_id (.cons cva_id .nil)))) fun _ => cva_id)) (fun _ _ => ?_)
  refine el H fun t266 h267 H => cl rfl cal92 rfl (concourseref07_Add.c h267) <| mv0 rfl rfl <| ex0 rfl trivial rfl rfl <| ex0 rfl trivial rfl rfl <| al rfl trivial zc74 nofun fun b268 => sx 0 rfl trivial rfl rfl cA sz74 rfl rfl rfl nofun ?_
  refine as0 rfl rfl <| .fin <| rg 2 2 <| lds 0 rfl trivial rfl sg74 rfl rfl <| sx 2 rfl trivial rfl rfl cA sz74 rfl rfl rfl nofun ?_
  refine .fin ?_
  replace H := Gets.out H
  refine ng (sg 5 [0,1,2,3,4] 2) fun _ _ => ?_
  exact jn ((p244.1, p245.1, p244.2.1, p245.2.1, decide (0 < x225), t266.1.fRoom, t266.1.fL, p244.2.2), v243) H
 replace H := Gets.ct H c254
 refine fb rfl (gg rfl) rfl fa74_1 <| ld 1 rfl (gg rfl) rfl sc54 rfl rfl <| mvg rfl rfl rfl <| gr H fun g255 H => Dv.ixr rfl (gg rfl) rfl rfl Tryz.underlying54 Tryz.underlying59 c59 g255.1 g255.2 <| fr rfl (gg rfl) rfl fa59_3 rfl <| ldR rfl (gg rfl) rfl sc9 rfl <| bng rfl rfl rfl rfl run_seq <| pt0 rfl rfl rfl <| .fin <| cd H rfl (fun _ H => ?_) (fun _ H => ?_)
 rotate_left
 ·
  refine WP.skip <| WP.seq <| rg 9 192 <| lds 1 rfl trivial rfl sg74 rfl rfl <| lds 0 rfl trivial rfl sg59 rfl rfl <| Dv.gh (gh_frz (E' := [(0, vS a0), (1, sl GMade.K a1), (4, eq (.pointer (some ⟨b222, 0, none⟩))), (5, eq (.pointer (some ⟨b223, 0, none⟩))), (6, vI x225), (7, eq (.pointer (some ⟨b240, 0, none⟩))), (8, eq v243.1), (9, vI p244.1), (10, vI p245.1), (11, vI t250), (23, vB (decide (x225 < 9))), (58, vB p244.2.1), (75, vB p245.2.1), (95, vB (decide (0 < x225))), (124, vB (decide (((Event.K.at x227 t250).fThread) = (⟨#[]⟩ : ByteArray)))), (129, agg [vS x226, sl Event.K x227]), (130, agg [vS t232, vS a0, sl strK p245.2.2, vS (⟨#[]⟩ : ByteArray), vS t235, vI t238])]) (l' := [blk b240 59 [vS t232, vS a0, sl strK p245.2.2, vS (⟨#[]⟩ : ByteArray), vS t235, vI t238], blk b223 74 [vS x226, sl Event.K x227], blk b222 74 [vS (⟨#[]⟩ : ByteArray), eq (.slice none 0 0)], own boolK v243.1 p244.2.2] ++ F) 4 rfl (cve_cons rfl cv_id (cve_cons rfl cv_id (cve_cons rfl cv_id (cve_cons rfl cv_id (cve_cons rfl cv_id (cve_cons rfl cv_id (cve_cons rfl cv_id (cve_cons rfl cv_id (cve_cons rfl cv_id (cve_cons rfl cv_id (cve_cons rfl cv_id (cve_cons rfl cv_id (cve_cons rfl cv_id (cve_cons rfl cv_id (cve_cons rfl cv_id (cve_cons rfl cv_id (cve_cons rfl (cv_agg (.cons cv_id (.cons cv_id (.cons cv_eq (.cons cv_id (.cons cv_id (.cons cv_id .nil))))))) cve_nil))))))))))))))))) (all2_app (.cons (cva_blk (.cons cv_id (.cons cv_id (.cons cv_eq (.cons cv_id (.cons cv_id (.cons cv_id .nil))))))) (.cons cva_id (.cons cva_id (.cons cva_id .nil)))) fun _ => cva_id)) (fun _ _ => ?_)
  refine el H fun t262 h263 H => cl rfl cal92 rfl (concourseref07_Add.c h263) <| mv0 rfl rfl <| ex0 rfl trivial rfl rfl <| ex0 rfl trivial rfl rfl <| al rfl trivial zc74 nofun fun b264 => sx 0 rfl trivial rfl rfl cA sz74 rfl rfl rfl nofun ?_
  refine as0 rfl rfl <| .fin <| rg 2 2 <| lds 0 rfl trivial rfl sg74 rfl rfl <| sx 2 rfl trivial rfl rfl cA sz74 rfl rfl rfl nofun ?_
  refine .fin ?_
  replace H := Gets.out H
  refine ng (sg 5 [0,1,2,3,4] 2) fun _ _ => ?_
  exact jn ((p244.1, p245.1, p244.2.1, p245.2.1, decide (0 < x225), t262.1.fRoom, t262.1.fL, p244.2.2), v243) H
 refine rg 4 8 <| mv0 rfl rfl <| el H fun t257 h258 H => cl rfl cal58 rfl (concourseref01_EventOf.c h258) <| fb rfl trivial rfl fa59_3 <| sx 0 rfl trivial rfl rfl cE sz9 rfl rfl rfl nofun ?_
 refine .fin <| WP.seq <| rg 9 192 <| lds 1 rfl trivial rfl sg74 rfl rfl <| lds 0 rfl trivial rfl sg59 rfl rfl <| Dv.gh (gh_frz (E' := [(0, vS a0), (1, sl GMade.K a1), (4, eq (.pointer (some ⟨b222, 0, none⟩))), (5, eq (.pointer (some ⟨b223, 0, none⟩))), (6, vI x225), (7, eq (.pointer (some ⟨b240, 0, none⟩))), (8, eq v243.1), (9, vI p244.1), (10, vI p245.1), (11, vI t250), (23, vB (decide (x225 < 9))), (58, vB p244.2.1), (75, vB p245.2.1), (95, vB (decide (0 < x225))), (124, vB (decide (((Event.K.at x227 t250).fThread) = (⟨#[]⟩ : ByteArray)))), (129, agg [vS x226, sl Event.K x227]), (130, agg [vS t232, vS a0, sl strK p245.2.2, vS t257, vS t235, vI t238])]) (l' := [blk b240 59 [vS t232, vS a0, sl strK p245.2.2, vS t257, vS t235, vI t238], blk b223 74 [vS x226, sl Event.K x227], blk b222 74 [vS (⟨#[]⟩ : ByteArray), eq (.slice none 0 0)], own boolK v243.1 p244.2.2] ++ F) 4 rfl (cve_cons rfl cv_id (cve_cons rfl cv_id (cve_cons rfl cv_id (cve_cons rfl cv_id (cve_cons rfl cv_id (cve_cons rfl cv_id (cve_cons rfl cv_id (cve_cons rfl cv_id (cve_cons rfl cv_id (cve_cons rfl cv_id (cve_cons rfl cv_id (cve_cons rfl cv_id (cve_cons rfl cv_id (cve_cons rfl cv_id (cve_cons rfl cv_id (cve_cons rfl cv_id (cve_cons rfl (cv_agg (.cons cv_id (.cons cv_id (.cons cv_eq (.cons cv_id (.cons cv_id (.cons cv_id .nil))))))) cve_nil))))))))))))))))) (all2_app (.cons (cva_blk (.cons cv_id (.cons cv_id (.cons cv_eq (.cons cv_id (.cons cv_id (.cons cv_id .nil))))))) (.cons cva_id (.cons cva_id (.cons cva_id .nil)))) fun _ => cva_id)) (fun _ _ => ?_)
 refine el H fun t259 h260 H => cl rfl cal92 rfl (concourseref07_Add.c h260) <| mv0 rfl rfl <| ex0 rfl trivial rfl rfl <| ex0 rfl trivial rfl rfl <| al rfl trivial zc74 nofun fun b261 => sx 0 rfl trivial rfl rfl cA sz74 rfl rfl rfl nofun ?_
 refine as0 rfl rfl <| .fin <| rg 2 2 <| lds 0 rfl trivial rfl sg74 rfl rfl <| sx 2 rfl trivial rfl rfl cA sz74 rfl rfl rfl nofun ?_
 refine .fin ?_
 replace H := Gets.out H
 refine ng (sg 5 [0,1,2,3,4] 2) fun _ _ => ?_
 exact jn ((p244.1, p245.1, p244.2.1, p245.2.1, decide (0 < x225), t259.1.fRoom, t259.1.fL, p244.2.2), v243) H
theorem concourseref10_Made.c {k : Nat} {a0 : List GMade} {a1 : List GMade} {r : (List Event)} (h : concourseref10_Made.f k a0 a1 = some r) : Tr Tryz.prog 31 [sl GMade.K a0, sl GMade.K a1] [] (γ := OV) (fun _ => True) (fun g => eq g.1) (fun g => [own Event.K g.1 r]) := by
 unfold concourseref10_Made.f at h
 refine Tr.body Tryz.func31 (c := _) rfl Tryz.ntmps31 (Nat.le_of_ble_eq_true rfl) fun R0 F => ?_
 replace h := Gets.of h
 have H := h
 clear h
 refine WP.seq <| rg 1 0 <| as0 rfl rfl <| .fin <| WP.seq <| rg 1 0 <| as0 rfl rfl <| .fin <| WP.seq <| rg 7 32 <| mv0 rfl rfl <| el H fun t314 h315 H => cl rfl cal57 rfl (concourseref01_RoomOf.c h315) <| mv0 rfl rfl <| el H fun t316 h317 H => cl rfl cal64 rfl (concourseref07_Made.c h317) <| Dv.fld rfl trivial rfl Tryz.underlying74 rfl Tryz.underlying54 rfl rfl <| vg (st_nil Event.K none) fun _ _ => ?_
 refine gr H fun g318 H => ap Event.K 0 t316.fL src_sl Tryz.underlying54 (.inr ⟨_, Tryz.underlying54⟩) inf59 g318 nofun fun v319 => ?_
 refine as0 rfl rfl <| .fin <| WP.seq <| rg 7 32 <| mv0 rfl rfl <| el H fun t320 h321 H => cl rfl cal57 rfl (concourseref01_RoomOf.c h321) <| mv0 rfl rfl <| el H fun t322 h323 H => cl rfl cal64 rfl (concourseref07_Made.c h323) <| Dv.fld rfl trivial rfl Tryz.underlying74 rfl Tryz.underlying54 rfl rfl <| gr H fun g324 H => ap Event.K 0 t322.fL src_sl Tryz.underlying54 (.inr ⟨_, Tryz.underlying54⟩) inf59 g324 nofun fun v325 => ?_
 refine as0 rfl rfl <| .fin ?_
 obtain rfl := Gets.out H
 exact rt i2 rfl v325 1 [0] 0 (.cons (res_tmp rfl) .nil)
theorem view_New.c {r : VView} (h : view_New.f = some r) : Tr Tryz.prog 32 [] [] (γ := OV) (fun _ => True) (fun g => eq g.1) (fun g => [VView.O g r]) := by
 unfold view_New.f at h
 refine Tr.body Tryz.func32 (c := _) rfl Tryz.ntmps32 (Nat.le_of_ble_eq_true rfl) fun R0 F => ?_
 replace h := Gets.of h
 have H := h
 clear h
 refine WP.seq <| rg 1 0 <| as0 rfl rfl <| .fin <| WP.seq <| rg 4 5 <| Dv.mmk Value.string (fun p : OV => eq p.1) rfl trivial nofun (fun v326 => ?_)
 refine vg (mpo_new DDag.O) fun _ _ => ?_
 refine Dv.bld (qs := [eq v326.1]) (css := [[eq v326.1]]) rfl trivial Tryz.underlying81 pl81 z81 rfl ⟨(cells_one one_ov), trivial⟩ rfl rfl <| Dv.box rfl trivial rfl cA nofun fun b327 => as0 rfl rfl <| .fin <| wg (VView.shut (p := (⟨.pointer (some ⟨b327, 0, none⟩), rfl⟩ : OV)) (m := (⟨([] : List (ByteArray × DDag))⟩ : VView)) (b327, v326) rfl (pm 2 [0,1])) fun _ _ => ?_
 obtain rfl := Gets.out H
 exact rt i2 rfl (⟨.pointer (some ⟨b327, 0, none⟩), rfl⟩ : OV) 1 [0] 0 (.cons (res_tmp rfl) .nil)
theorem dag_New.c {a0 : ByteArray} {r : DDag} (h : dag_New.f a0 = some r) : Tr Tryz.prog 93 [vS a0] [] (γ := OV) (fun _ => True) (fun g => eq g.1) (fun g => [DDag.O g r]) := by
 unfold dag_New.f at h
 refine Tr.body Tryz.func93 (c := _) rfl Tryz.ntmps93 (Nat.le_of_ble_eq_true rfl) fun R0 F => ?_
 replace h := Gets.of h
 have H := h
 clear h
 refine WP.seq <| rg 1 0 <| as0 rfl rfl <| .fin <| WP.seq <| rg 5 10 <| mv0 rfl rfl <| Dv.mmk Value.string (fun p : OV => eq p.1) rfl trivial nofun (fun v328 => ?_)
 refine vg (mpo_new DNode.O) fun _ _ => ?_
 refine Dv.bld (qs := [vS a0, eq v328.1]) (css := [[vS a0], [eq v328.1]]) rfl trivial Tryz.underlying110 pl110 z110 rfl ⟨(cells_one (one_eq rfl)), ⟨(cells_one one_ov), trivial⟩⟩ rfl rfl <| Dv.box rfl trivial rfl cA nofun fun b329 => as0 rfl rfl <| .fin <| wg (DDag.shut (p := (⟨.pointer (some ⟨b329, 0, none⟩), rfl⟩ : OV)) (m := (⟨a0, ([] : List (ByteArray × DNode))⟩ : DDag)) (b329, v328) rfl (pm 2 [0,1])) fun _ _ => ?_
 obtain rfl := Gets.out H
 exact rt i2 rfl (⟨.pointer (some ⟨b329, 0, none⟩), rfl⟩ : OV) 1 [0] 0 (.cons (res_tmp rfl) .nil)
theorem view_View_room.r {a0 : VView} {a1 : ByteArray} {r : DDag} (h : view_View_room.f a0 a1 = some r) : ∀ x, mget a0.fdags a1 = some x → x = r := fun x e => by
 unfold view_View_room.f at h; rw [e] at h; exact Option.some.inj h
theorem view_View_room.c {a0 : VView} {a1 : ByteArray} {b0_ : Nat} {v0_0 : OV} {r : DDag} (h : view_View_room.f a0 a1 = some r) : Tr Tryz.prog 65 [eq (.pointer (some ⟨b0_, 0, none⟩)), vS a1] [blk b0_ 81 [eq v0_0.1], mpo Value.string DDag.O v0_0.1 a0.fdags] (γ := OV) (fun _ => True) (fun g => eq g.1) (fun g => [blk b0_ 81 [eq v0_0.1], mpl Value.string DDag.O v0_0.1 a0.fdags a1 g, DDag.O g r]) := by
 unfold view_View_room.f at h
 refine Tr.body Tryz.func65 (c := _) rfl Tryz.ntmps65 (Nat.le_of_ble_eq_true rfl) fun R0 F => ?_
 replace h := Gets.of h
 have H := h
 clear h
 refine WP.seq <| WP.reg [(0, false)] (by kernel_rfl) <| as0 rfl rfl <| .fin <| WP.seq <| WP.seq <| WP.reg [(0, false), (1, false), (2, false), (3, false), (4, false), (5, false), (6, false)] (by kernel_rfl) <| mv0 rfl rfl <| Dv.nilp rfl trivial rfl <| Dv.fab rfl trivial rfl Tryz.underlying81 rfl Tryz.underlying79 c79 (by decide) <| Dv.ldb rfl trivial rfl Tryz.underlying79 rfl (mem_at 0 rfl) rfl <| mv0 rfl rfl <| vg (mpo_opn 1 rfl) fun z1 h1 => ?_
 refine Dv.mlv nilP rfl trivial rfl (mem_at 0 rfl) rfl Tryz.underlying79 (keyOk_str Tryz.underlying9) z82 (fun _ => rfl) <| as0 rfl rfl <| .fin <| WP.seq <| WP.reg [(0, false), (1, false)] (by kernel_rfl) <| mv0 rfl rfl <| Dv.pm1 (pm_nil h1 rfl) rfl trivial rfl rfl Tryz.underlying82 <| .fin <| WP.cond rfl (fun c1 => ?_) (fun c1 => ?_)
 ·
  have e1 : (mget a0.fdags a1).isSome = true := by cases e : mget a0.fdags a1 with | none => rw [e] at c1; cases c1 | some _ => rfl
  replace H := Gets.ct H e1
  obtain rfl := Gets.out H
  refine WP.seq <| WP.reg [(0, false), (1, false)] (by kernel_rfl) <| mv0 rfl rfl <| as0 rfl rfl <| .fin <| wg (mpl_some h1 rfl e1 (pm 3 [0,1,2])) fun _ _ => ?_
  exact rt i2 rfl ((mget (zipK a0.fdags z1) a1).getD nilP) 3 [2,0,1] 0 (.cons (res_tmp rfl) .nil)
 have e1 : (mget a0.fdags a1).isSome = false := by cases e : mget a0.fdags a1 with | none => rfl | some _ => rw [e] at c1; cases c1
 replace H := Gets.cf H e1
 refine WP.skip <| WP.seq <| WP.reg [(0, false), (1, true), (2, false)] (by kernel_rfl) <| mv0 rfl rfl <| cx 0 [] cal93 (dag_New.c (by obtain ⟨_, e, rfl⟩ := H; exact e)) nofun fun g2 _ => ?_
 refine as0 rfl rfl <| .fin <| wg (mpl_none g2 h1 rfl e1 (pm 4 [1,2,0,3])) fun _ _ => ?_
 exact rt i2 rfl g2 3 [2,0,1] 0 (.cons (res_tmp rfl) .nil)
theorem slices_IndexFunc_string_x.c {k : Nat} {a0 : List ByteArray} {a1 : (ByteArray → Option Bool)} {X1_ : As} {r : Int} (h : slices_IndexFunc_string_x.f k a0 a1 = some r) : Tr Tryz.prog 79 [sl strK a0, fx_string_bool X1_ a1] [X1_] (γ := Unit) (fun _ => True) (fun g => vI r) (fun g => [X1_]) := by
 unfold slices_IndexFunc_string_x.f at h
 refine Tr.body Tryz.func79 (c := _) rfl Tryz.ntmps79 (Nat.le_of_ble_eq_true rfl) fun R0 F => ?_
 replace h := Gets.of h
 have H := h
 clear h
 refine WP.seq <| rg 1 0 <| as0 rfl rfl <| .fin <| WP.seqr H id (fun p330 : Int × Bool => [(0, sl strK a0), (1, fx_string_bool X1_ a1), (4, vI 0), (7, vI (a0.length : Int)), (8, vI p330.1), (9, vB p330.2)]) (fun p330 : Int × Bool => [X1_] ++ F) (fun p330 H => ?_) (fun H => ?_)
 ·
  refine WP.seq <| rg 1 0 <| as0 rfl rfl <| .fin ?_
  obtain rfl := Gets.out H
  exact rt i2 rfl () 1 [0] 0 (.cons (res_tmp rfl) .nil)
 refine WP.seq <| rg 3 0 <| mv0 rfl rfl <| Dv.lenl rfl trivial rfl Tryz.underlying35 <| mv0 rfl rfl <| .fin <| WP.block <| wg (sg 1 [0] 0) fun _ _ => ?_
 refine lp (fun j_ (p338 : Int) => slices_IndexFunc_string_x.l0 k a0 a1 j_ p338) 0 H (fun p338 => [(0, sl strK a0), (1, fx_string_bool X1_ a1), (4, vI 0), (7, vI (a0.length : Int)), (8, vI p338)]) (fun p338 => [X1_] ++ F) ?_
 rintro j_ x331 H
 rcases j_ with _ | j337
 ·
  exact (Gets.no H).elim
 replace H : Gets (slices_IndexFunc_string_x.l0 k a0 a1 (j337 + 1) x331) _ := H
 rw [slices_IndexFunc_string_x.l0] at H
 refine WP.seq <| rg 1 0 <| bn0 rfl rfl rfl run_lt <| .fin <| WP.seq <| cd H rfl (fun _ H => ?_) (fun _ H => ?_)
 rotate_left
 ·
  refine WP.exit ?_
  replace H := Gets.out H
  exact jn (x331, decide (x331 < (a0.length : Int))) H
 refine WP.skip <| WP.seq <| WP.block <| WP.seq <| rg 2 0 <| mv0 rfl rfl <| as0 rfl rfl <| .fin <| WP.seq <| rg 6 0 <| mv0 rfl rfl <| mv0 rfl rfl <| mv0 rfl rfl <| gr H fun g333 H => Dv.ixr rfl trivial rfl rfl Tryz.underlying35 Tryz.underlying9 c9 g333.1 g333.2 <| ldR rfl trivial rfl sc9 rfl <| el H fun t334 h335 H => Dv.callfx (ret := vB t334) (X := X1_) (F := F) rfl trivial rfl rfl ⟨_, _, h335, rfl, rfl⟩ (perm_to (L := [X1_]) (F := F) [0] rfl rfl rfl) <| .fin <| cd H rfl (fun _ H => ?_) (fun _ H => ?_)
 rotate_left
 ·
  exact WP.skip <| rg 2 0 <| bn0 rfl rfl rfl run_add <| mv0 rfl rfl <| .fin <| bk j337 (w64 (x331 + 1)) H
 refine WP.seq <| rg 2 0 <| mv0 rfl rfl <| as0 rfl rfl <| .fin ?_
 replace H := Gets.outr H
 obtain rfl := Gets.out H
 exact rt i2 rfl () 1 [0] 0 (.cons (res_tmp rfl) .nil)
theorem slices_IndexFunc_string_xw.c {k : Nat} {a0 : List ByteArray} {a1 : (ByteArray → Option Bool)} {X1_ : As} {p0_ : OV} {r : Int} (h : slices_IndexFunc_string_xw.f k a0 a1 = some r) : Tr Tryz.prog 79 [eq p0_.1, fx_string_bool X1_ a1] [own strK p0_.1 a0, X1_] (γ := Unit) (fun _ => True) (fun g => vI r) (fun g => [own strK p0_.1 a0, X1_]) := by
 unfold slices_IndexFunc_string_xw.f at h
 refine Tr.body Tryz.func79 (c := _) rfl Tryz.ntmps79 (Nat.le_of_ble_eq_true rfl) fun R0 F => ?_
 replace h := Gets.of h
 have H := h
 clear h
 refine WP.seq <| rg 1 0 <| as0 rfl rfl <| .fin <| WP.seqr H id (fun p339 : Int × Bool => [(0, eq p0_.1), (1, fx_string_bool X1_ a1), (4, vI 0), (7, vI (a0.length : Int)), (8, vI p339.1), (9, vB p339.2)]) (fun p339 : Int × Bool => [own strK p0_.1 a0, X1_] ++ F) (fun p339 H => ?_) (fun H => ?_)
 ·
  refine WP.seq <| rg 1 0 <| as0 rfl rfl <| .fin ?_
  obtain rfl := Gets.out H
  exact rt i2 rfl () 2 [0,1] 0 (.cons (res_tmp rfl) .nil)
 refine WP.seq <| rg 3 0 <| mv0 rfl rfl <| Dv.lenw rfl trivial rfl (mem_at 0 rfl) Tryz.underlying35 <| mv0 rfl rfl <| .fin <| WP.block <| wg (sg 2 [0,1] 0) fun _ _ => ?_
 refine lp (fun j_ (p348 : Int) => slices_IndexFunc_string_xw.l0 k a0 a1 j_ p348) 0 H (fun p348 => [(0, eq p0_.1), (1, fx_string_bool X1_ a1), (4, vI 0), (7, vI (a0.length : Int)), (8, vI p348)]) (fun p348 => [own strK p0_.1 a0, X1_] ++ F) ?_
 rintro j_ x340 H
 rcases j_ with _ | j347
 ·
  exact (Gets.no H).elim
 replace H : Gets (slices_IndexFunc_string_xw.l0 k a0 a1 (j347 + 1) x340) _ := H
 rw [slices_IndexFunc_string_xw.l0] at H
 refine WP.seq <| rg 1 0 <| bn0 rfl rfl rfl run_lt <| .fin <| WP.seq <| cd H rfl (fun _ H => ?_) (fun _ H => ?_)
 rotate_left
 ·
  refine WP.exit ?_
  replace H := Gets.out H
  exact jn (x340, decide (x340 < (a0.length : Int))) H
 refine WP.skip <| WP.seq <| WP.block <| WP.seq <| rg 2 0 <| mv0 rfl rfl <| as0 rfl rfl <| .fin <| WP.seq <| rg 6 0 <| mv0 rfl rfl <| mv0 rfl rfl <| mv0 rfl rfl <| gr H fun g342 H => ?_
 have h343 : x340.toNat < a0.length := idx_lt g342
 refine Dv.ixw rfl trivial rfl (mem_at 0 rfl) rfl Tryz.underlying35 Tryz.underlying9 c9 g342.1 g342.2 <| Dv.ldw (j := x340.toNat) (f := 0) (p := vS (a0.getD x340.toNat default)) rfl trivial rfl (mem_at 0 rfl) h343 Tryz.underlying9 rfl rfl <| el H fun t344 h345 H => Dv.callfx (ret := vB t344) (X := X1_) (F := [own strK p0_.1 a0] ++ F) rfl trivial rfl rfl ⟨_, _, h345, rfl, rfl⟩ (perm_to (L := [own strK p0_.1 a0, X1_]) (F := F) [1, 0] rfl rfl rfl) <| .fin <| cd H rfl (fun _ H => ?_) (fun _ H => ?_)
 rotate_left
 ·
  exact WP.skip <| rg 2 0 <| bn0 rfl rfl rfl run_add <| mv0 rfl rfl <| .fin <| bk j347 (w64 (x340 + 1)) H
 refine WP.seq <| rg 2 0 <| mv0 rfl rfl <| as0 rfl rfl <| .fin ?_
 replace H := Gets.outr H
 obtain rfl := Gets.out H
 exact rt i2 rfl () 2 [0,1] 0 (.cons (res_tmp rfl) .nil)
theorem slices_ContainsFunc_string_x.c {k : Nat} {a0 : List ByteArray} {a1 : (ByteArray → Option Bool)} {X1_ : As} {r : Bool} (h : slices_ContainsFunc_string_x.f k a0 a1 = some r) : Tr Tryz.prog 84 [sl strK a0, fx_string_bool X1_ a1] [X1_] (γ := Unit) (fun _ => True) (fun g => vB r) (fun g => [X1_]) := by
 unfold slices_ContainsFunc_string_x.f at h
 refine Tr.body Tryz.func84 (c := _) rfl Tryz.ntmps84 (Nat.le_of_ble_eq_true rfl) fun R0 F => ?_
 replace h := Gets.of h
 have H := h
 clear h
 refine WP.seq <| rg 1 0 <| as0 rfl rfl <| .fin <| WP.seq <| rg 5 0 <| mv0 rfl rfl <| mv0 rfl rfl <| el H fun t349 h350 H => cll 1 [0] cal79 (slices_IndexFunc_string_x.c h350 (X1_ := X1_)) ?_
 refine bn0 rfl rfl rfl run_ge <| as0 rfl rfl <| .fin ?_
 obtain rfl := Gets.out H
 exact rt i2 rfl () 1 [0] 0 (.cons (res_tmp rfl) .nil)
theorem slices_ContainsFunc_string_xw.c {k : Nat} {a0 : List ByteArray} {a1 : (ByteArray → Option Bool)} {X1_ : As} {p0_ : OV} {r : Bool} (h : slices_ContainsFunc_string_xw.f k a0 a1 = some r) : Tr Tryz.prog 84 [eq p0_.1, fx_string_bool X1_ a1] [own strK p0_.1 a0, X1_] (γ := Unit) (fun _ => True) (fun g => vB r) (fun g => [own strK p0_.1 a0, X1_]) := by
 unfold slices_ContainsFunc_string_xw.f at h
 refine Tr.body Tryz.func84 (c := _) rfl Tryz.ntmps84 (Nat.le_of_ble_eq_true rfl) fun R0 F => ?_
 replace h := Gets.of h
 have H := h
 clear h
 refine WP.seq <| rg 1 0 <| as0 rfl rfl <| .fin <| WP.seq <| rg 5 0 <| mv0 rfl rfl <| mv0 rfl rfl <| el H fun t351 h352 H => cll 2 [0,1] cal79 (slices_IndexFunc_string_xw.c h352 (p0_ := p0_) (X1_ := X1_)) ?_
 refine bn0 rfl rfl rfl run_ge <| as0 rfl rfl <| .fin ?_
 obtain rfl := Gets.out H
 exact rt i2 rfl () 2 [0,1] 0 (.cons (res_tmp rfl) .nil)
theorem stringslite_IndexByte.c {a0 : ByteArray} {a1 : Int} {r : Int} (h : stringslite_IndexByte.f a0 a1 = some r) : Pt Tryz.prog 132 [vS a0, eq (.int .u8 a1)] (vI r) := by
 unfold stringslite_IndexByte.f at h
 refine (Tr.body Tryz.func132 (c := _) rfl Tryz.ntmps132 (Nat.le_of_ble_eq_true rfl) fun R0 F => ?_).pt
 replace h := Gets.of h
 have H := h
 clear h
 refine WP.seq <| rg 1 0 <| as0 rfl rfl <| .fin <| WP.seq <| rg 4 0 <| mv0 rfl rfl <| mv0 rfl rfl <| Dv.cext rfl trivial rfl (xt_index Tryz.func152 (by kernel_rfl) rfl xf152 xg152) <| as0 rfl rfl <| .fin ?_
 obtain rfl := Gets.out H
 exact rt i2 rfl () 0 [] 0 (.cons (res_tmp rfl) .nil)
theorem bytealg_Cutover.c {a0 : Int} {r : Int} (h : bytealg_Cutover.f a0 = some r) : Pt Tryz.prog 134 [vI a0] (vI r) := by
 unfold bytealg_Cutover.f at h
 refine (Tr.body Tryz.func134 (c := _) rfl Tryz.ntmps134 (Nat.le_of_ble_eq_true rfl) fun R0 F => ?_).pt
 replace h := Gets.of h
 have H := h
 clear h
 refine WP.seq <| rg 1 0 <| as0 rfl rfl <| .fin <| WP.seq <| rg 4 0 <| mv0 rfl rfl <| bn0 rfl rfl rfl run_add <| bn0 rfl rfl rfl (run_quo (by decide)) <| as0 rfl rfl <| .fin ?_
 obtain rfl := Gets.out H
 exact rt i2 rfl () 0 [] 0 (.cons (res_tmp rfl) .nil)
theorem stringslite_Index.c {a0 : ByteArray} {a1 : ByteArray} {r : Int} (h : stringslite_Index.f a0 a1 = some r) : Pt Tryz.prog 122 [vS a0, vS a1] (vI r) := by
 unfold stringslite_Index.f at h
 refine (Tr.body Tryz.func122 (c := _) rfl Tryz.ntmps122 (Nat.le_of_ble_eq_true rfl) fun R0 F => ?_).pt
 replace h := Gets.of h
 have H := h
 clear h
 refine WP.seq <| rg 1 0 <| as0 rfl rfl <| .fin <| WP.seq <| rg 3 0 <| mv0 rfl rfl <| Dv.lens rfl trivial rfl Tryz.underlying9 <| as0 rfl rfl <| .fin <| WP.seq <| WP.block <| WP.seq <| rg 8 0 <| mv0 rfl rfl <| bn0 rfl rfl rfl run_eq <| mv0 rfl rfl ?_
 cases c355 : ((a1.size : Int) == 0)
 rotate_left
 ·
  replace H := Gets.ct H c355
  refine sk rfl rfl <| sk rfl rfl <| sk rfl rfl <| pt0 rfl rfl rfl <| as0 rfl rfl <| .fin <| WP.cond rfl (fun _ => ?_) nofun
  refine WP.seq <| rg 1 0 <| as0 rfl rfl <| .fin ?_
  obtain rfl := Gets.out H
  exact rt i2 rfl () 0 [] 0 (.cons (res_tmp rfl) .nil)
 replace H := Gets.cf H c355
 refine mvg rfl rfl rfl <| mvg rfl rfl rfl <| bng rfl rfl rfl rfl run_seq <| pf0 rfl rfl rfl <| as0 rfl rfl <| .fin <| cd H rfl (fun _ H => ?_) (fun _ H => ?_)
 ·
  refine WP.seq <| rg 1 0 <| as0 rfl rfl <| .fin ?_
  obtain rfl := Gets.out H
  exact rt i2 rfl () 0 [] 0 (.cons (res_tmp rfl) .nil)
 refine WP.seq <| rg 3 0 <| mv0 rfl rfl <| bn0 rfl rfl rfl run_eq <| as0 rfl rfl <| .fin <| cd H rfl (fun _ H => ?_) (fun _ H => ?_)
 ·
  refine WP.seq <| rg 5 0 <| mv0 rfl rfl <| mv0 rfl rfl <| gr H fun g359 H => Dv.ixs rfl trivial rfl rfl Tryz.underlying9 g359.1 g359.2 <| el H fun t360 h361 H => cl rfl cal132 rfl (stringslite_IndexByte.c h361) <| as0 rfl rfl <| .fin ?_
  obtain rfl := Gets.out H
  exact rt i2 rfl () 0 [] 0 (.cons (res_tmp rfl) .nil)
 refine WP.seq <| rg 5 0 <| mv0 rfl rfl <| mv0 rfl rfl <| Dv.lens rfl trivial rfl Tryz.underlying9 <| bn0 rfl rfl rfl run_ge <| as0 rfl rfl <| .fin <| cd H rfl (fun _ H => ?_) (fun _ H => ?_)
 rotate_left
 ·
  exact (Gets.no H).elim
 refine WP.seq <| rg 1 0 <| as0 rfl rfl <| .fin ?_
 obtain rfl := Gets.out H
 exact rt i2 rfl () 0 [] 0 (.cons (res_tmp rfl) .nil)
theorem stringslite_Cut.c {a0 : ByteArray} {a1 : ByteArray} {r : ByteArray × ByteArray × Bool} (h : stringslite_Cut.f a0 a1 = some r) : Pt Tryz.prog 99 [vS a0, vS a1] (tup [vS r.1, vS r.2.1, vB r.2.2]) := by
 unfold stringslite_Cut.f at h
 refine (Tr.body Tryz.func99 (c := _) rfl Tryz.ntmps99 (Nat.le_of_ble_eq_true rfl) fun R0 F => ?_).pt
 replace h := Gets.of h
 have H := h
 clear h
 refine WP.seq <| rg 3 0 <| as0 rfl rfl <| as0 rfl rfl <| as0 rfl rfl <| .fin <| WP.seq <| WP.seq <| rg 4 0 <| mv0 rfl rfl <| mv0 rfl rfl <| el H fun t363 h364 H => cl rfl cal122 rfl (stringslite_Index.c h364) <| as0 rfl rfl <| .fin <| WP.seq <| rg 2 0 <| mv0 rfl rfl <| bn0 rfl rfl rfl run_ge <| .fin <| cd H rfl (fun _ H => ?_) (fun _ H => ?_)
 rotate_left
 ·
  refine WP.skip <| WP.seq <| rg 4 0 <| mv0 rfl rfl <| as0 rfl rfl <| as0 rfl rfl <| as0 rfl rfl <| .fin ?_
  obtain rfl := Gets.out H
  exact rt i2 rfl () 0 [] 0 (.cons (res_tmp rfl) (.cons (res_tmp rfl) (.cons (res_tmp rfl) .nil)))
 refine WP.seq <| dg Tryz.checked.mixed 12 0 <| mv0 rfl rfl <| mv0 rfl rfl <| gr H fun g366 H => Dv.sss rfl trivial rfl Tryz.underlying9 bdE_none (bdE_some rfl g366.1) g366.2.1 g366.2.2 <| mv0 rfl rfl <| mv0 rfl rfl <| mv0 rfl rfl <| Dv.lens rfl trivial rfl Tryz.underlying9 <| bn0 rfl rfl rfl run_add <| gr H fun g367 H => Dv.sss rfl trivial rfl Tryz.underlying9 (bdE_some rfl g367.1) bdE_none g367.2.1 g367.2.2 <| as0 rfl rfl <| as0 rfl rfl <| as0 rfl rfl <| .fin ?_
 obtain rfl := Gets.out H
 exact rt i2 rfl () 0 [] 0 (.cons (res_tmp rfl) (.cons (res_tmp rfl) (.cons (res_tmp rfl) .nil)))
theorem strings_Cut.c {a0 : ByteArray} {a1 : ByteArray} {r : ByteArray × ByteArray × Bool} (h : strings_Cut.f a0 a1 = some r) : Pt Tryz.prog 70 [vS a0, vS a1] (tup [vS r.1, vS r.2.1, vB r.2.2]) := by
 unfold strings_Cut.f at h
 refine (Tr.body Tryz.func70 (c := _) rfl Tryz.ntmps70 (Nat.le_of_ble_eq_true rfl) fun R0 F => ?_).pt
 replace h := Gets.of h
 have H := h
 clear h
 refine WP.seq <| rg 3 0 <| as0 rfl rfl <| as0 rfl rfl <| as0 rfl rfl <| .fin <| WP.seq <| rg 9 0 <| mv0 rfl rfl <| mv0 rfl rfl <| el H fun t368 h369 H => cl rfl cal99 rfl (stringslite_Cut.c h369) <| ex0 rfl trivial rfl rfl <| ex0 rfl trivial rfl rfl <| ex0 rfl trivial rfl rfl <| as0 rfl rfl <| as0 rfl rfl <| as0 rfl rfl <| .fin ?_
 obtain rfl := Gets.out H
 exact rt i2 rfl () 0 [] 0 (.cons (res_tmp rfl) (.cons (res_tmp rfl) (.cons (res_tmp rfl) .nil)))
theorem stringslite_HasPrefix.c {a0 : ByteArray} {a1 : ByteArray} {r : Bool} (h : stringslite_HasPrefix.f a0 a1 = some r) : Pt Tryz.prog 149 [vS a0, vS a1] (vB r) := by
 unfold stringslite_HasPrefix.f at h
 refine (Tr.body Tryz.func149 (c := _) rfl Tryz.ntmps149 (Nat.le_of_ble_eq_true rfl) fun R0 F => ?_).pt
 replace h := Gets.of h
 have H := h
 clear h
 refine WP.seq <| rg 1 0 <| as0 rfl rfl <| .fin <| WP.seq <| rg 14 0 <| mv0 rfl rfl <| Dv.lens rfl trivial rfl Tryz.underlying9 <| mv0 rfl rfl <| Dv.lens rfl trivial rfl Tryz.underlying9 <| bn0 rfl rfl rfl run_ge <| mv0 rfl rfl ?_
 cases c370 : decide ((a1.size : Int) ≤ (a0.size : Int))
 ·
  replace H := Gets.cf H c370
  refine sk rfl rfl <| sk rfl rfl <| sk rfl rfl <| sk rfl rfl <| sk rfl rfl <| sk rfl rfl <| pf0 rfl rfl rfl <| as0 rfl rfl <| .fin ?_
  obtain rfl := Gets.out H
  exact rt i2 rfl () 0 [] 0 (.cons (res_tmp rfl) .nil)
 replace H := Gets.ct H c370
 refine mvg rfl rfl rfl <| mvg rfl rfl rfl <| Dv.lens rfl (gg rfl) rfl Tryz.underlying9 <| gr H fun g371 H => Dv.sss rfl (gg rfl) rfl Tryz.underlying9 bdE_none (bdE_some rfl g371.1) g371.2.1 g371.2.2 <| mvg rfl rfl rfl <| bng rfl rfl rfl rfl run_seq <| pt0 rfl rfl rfl <| as0 rfl rfl <| .fin ?_
 obtain rfl := Gets.out H
 exact rt i2 rfl () 0 [] 0 (.cons (res_tmp rfl) .nil)
theorem stringslite_CutPrefix.c {a0 : ByteArray} {a1 : ByteArray} {r : ByteArray × Bool} (h : stringslite_CutPrefix.f a0 a1 = some r) : Pt Tryz.prog 129 [vS a0, vS a1] (tup [vS r.1, vB r.2]) := by
 unfold stringslite_CutPrefix.f at h
 refine (Tr.body Tryz.func129 (c := _) rfl Tryz.ntmps129 (Nat.le_of_ble_eq_true rfl) fun R0 F => ?_).pt
 replace h := Gets.of h
 have H := h
 clear h
 refine WP.seq <| rg 2 0 <| as0 rfl rfl <| as0 rfl rfl <| .fin <| WP.seq <| WP.seq <| rg 4 0 <| mv0 rfl rfl <| mv0 rfl rfl <| el H fun t372 h373 H => cl rfl cal149 rfl (stringslite_HasPrefix.c h373) <| un0 rfl rfl (run_not _) <| .fin <| cd H rfl (fun _ H => ?_) (fun _ H => ?_)
 ·
  refine WP.seq <| rg 3 0 <| mv0 rfl rfl <| as0 rfl rfl <| as0 rfl rfl <| .fin ?_
  obtain rfl := Gets.out H
  exact rt i2 rfl () 0 [] 0 (.cons (res_tmp rfl) (.cons (res_tmp rfl) .nil))
 refine WP.skip <| WP.seq <| rg 6 0 <| mv0 rfl rfl <| mv0 rfl rfl <| Dv.lens rfl trivial rfl Tryz.underlying9 <| gr H fun g375 H => Dv.sss rfl trivial rfl Tryz.underlying9 (bdE_some rfl g375.1) bdE_none g375.2.1 g375.2.2 <| as0 rfl rfl <| as0 rfl rfl <| .fin ?_
 obtain rfl := Gets.out H
 exact rt i2 rfl () 0 [] 0 (.cons (res_tmp rfl) (.cons (res_tmp rfl) .nil))
theorem strings_CutPrefix.c {a0 : ByteArray} {a1 : ByteArray} {r : ByteArray × Bool} (h : strings_CutPrefix.f a0 a1 = some r) : Pt Tryz.prog 119 [vS a0, vS a1] (tup [vS r.1, vB r.2]) := by
 unfold strings_CutPrefix.f at h
 refine (Tr.body Tryz.func119 (c := _) rfl Tryz.ntmps119 (Nat.le_of_ble_eq_true rfl) fun R0 F => ?_).pt
 replace h := Gets.of h
 have H := h
 clear h
 refine WP.seq <| rg 2 0 <| as0 rfl rfl <| as0 rfl rfl <| .fin <| WP.seq <| rg 7 0 <| mv0 rfl rfl <| mv0 rfl rfl <| el H fun t376 h377 H => cl rfl cal129 rfl (stringslite_CutPrefix.c h377) <| ex0 rfl trivial rfl rfl <| ex0 rfl trivial rfl rfl <| as0 rfl rfl <| as0 rfl rfl <| .fin ?_
 obtain rfl := Gets.out H
 exact rt i2 rfl () 0 [] 0 (.cons (res_tmp rfl) (.cons (res_tmp rfl) .nil))
theorem name_small.c {a0 : Int} {r : Bool} (h : name_small.f a0 = some r) : Pt Tryz.prog 131 [eq (.int .u8 a0)] (vB r) := by
 unfold name_small.f at h
 refine (Tr.body Tryz.func131 (c := _) rfl Tryz.ntmps131 (Nat.le_of_ble_eq_true rfl) fun R0 F => ?_).pt
 replace h := Gets.of h
 have H := h
 clear h
 refine WP.seq <| rg 1 0 <| as0 rfl rfl <| .fin <| WP.seq <| rg 15 0 <| mv0 rfl rfl <| bn0 rfl rfl rfl run_ge <| mv0 rfl rfl ?_
 cases c378 : decide (97 ≤ a0)
 ·
  replace H := Gets.cf H c378
  refine sk rfl rfl <| sk rfl rfl <| pf0 rfl rfl rfl <| mv0 rfl rfl <| mvg rfl rfl rfl <| bng rfl rfl rfl rfl run_ge <| mvg rfl rfl rfl ?_
  cases c381 : decide (48 ≤ a0)
  ·
   replace H := Gets.cf H c381
   refine sk rfl rfl <| sk rfl rfl <| pfg rfl rfl rfl rfl <| pf0 rfl rfl rfl <| as0 rfl rfl <| .fin ?_
   obtain rfl := Gets.out H
   exact rt i2 rfl () 0 [] 0 (.cons (res_tmp rfl) .nil)
  replace H := Gets.ct H c381
  refine mvg rfl rfl rfl <| bng rfl rfl rfl rfl run_le <| ptg rfl rfl rfl rfl <| pf0 rfl rfl rfl <| as0 rfl rfl <| .fin ?_
  obtain rfl := Gets.out H
  exact rt i2 rfl () 0 [] 0 (.cons (res_tmp rfl) .nil)
 replace H := Gets.ct H c378
 refine mvg rfl rfl rfl <| bng rfl rfl rfl rfl run_le <| pt0 rfl rfl rfl <| mv0 rfl rfl ?_
 cases c379 : decide (a0 ≤ 122)
 rotate_left
 ·
  replace H := Gets.ct H c379
  refine sk rfl rfl <| sk rfl rfl <| sk rfl rfl <| sku rfl rfl <| sku rfl rfl <| sk rfl rfl <| pt0 rfl rfl rfl <| as0 rfl rfl <| .fin ?_
  obtain rfl := Gets.out H
  exact rt i2 rfl () 0 [] 0 (.cons (res_tmp rfl) .nil)
 replace H := Gets.cf H c379
 refine mvg rfl rfl rfl <| bng rfl rfl rfl rfl run_ge <| mvg rfl rfl rfl ?_
 cases c380 : decide (48 ≤ a0)
 ·
  replace H := Gets.cf H c380
  refine sk rfl rfl <| sk rfl rfl <| pfg rfl rfl rfl rfl <| pf0 rfl rfl rfl <| as0 rfl rfl <| .fin ?_
  obtain rfl := Gets.out H
  exact rt i2 rfl () 0 [] 0 (.cons (res_tmp rfl) .nil)
 replace H := Gets.ct H c380
 refine mvg rfl rfl rfl <| bng rfl rfl rfl rfl run_le <| ptg rfl rfl rfl rfl <| pf0 rfl rfl rfl <| as0 rfl rfl <| .fin ?_
 obtain rfl := Gets.out H
 exact rt i2 rfl () 0 [] 0 (.cons (res_tmp rfl) .nil)
theorem strings_IndexByte.c {a0 : ByteArray} {a1 : Int} {r : Int} (h : strings_IndexByte.f a0 a1 = some r) : Pt Tryz.prog 151 [vS a0, eq (.int .u8 a1)] (vI r) := by
 unfold strings_IndexByte.f at h
 refine (Tr.body Tryz.func151 (c := _) rfl Tryz.ntmps151 (Nat.le_of_ble_eq_true rfl) fun R0 F => ?_).pt
 replace h := Gets.of h
 have H := h
 clear h
 refine WP.seq <| rg 1 0 <| as0 rfl rfl <| .fin <| WP.seq <| rg 4 0 <| mv0 rfl rfl <| mv0 rfl rfl <| el H fun t382 h383 H => cl rfl cal132 rfl (stringslite_IndexByte.c h383) <| as0 rfl rfl <| .fin ?_
 obtain rfl := Gets.out H
 exact rt i2 rfl () 0 [] 0 (.cons (res_tmp rfl) .nil)
theorem name_among_1.c {a0 : Int} {c0 : ByteArray} {r : Bool} (h : name_among_1.f a0 c0 = some r) : Pt Tryz.prog 150 [eq (.int .u8 a0), rp [vS c0]] (vB r) := by
 unfold name_among_1.f at h
 refine (Tr.body Tryz.func150 (c := _) rfl Tryz.ntmps150 (Nat.le_of_ble_eq_true rfl) fun R0 F => ?_).pt
 replace h := Gets.of h
 have H := h
 clear h
 refine WP.seq <| rg 1 0 <| as0 rfl rfl <| .fin <| WP.seq <| rg 9 0 <| mv0 rfl rfl <| el H fun t384 h385 H => cl rfl cal131 rfl (name_small.c h385) <| mv0 rfl rfl ?_
 cases c386 : t384
 rotate_left
 ·
  replace H := Gets.ct H c386
  refine sk rfl rfl <| sk rfl rfl <| sk rfl rfl <| sk rfl rfl <| pt0 rfl rfl rfl <| as0 rfl rfl <| .fin ?_
  obtain rfl := Gets.out H
  exact rt i2 rfl () 0 [] 0 (.cons (res_tmp rfl) .nil)
 replace H := Gets.cf H c386
 refine ldR rfl (gg rfl) rfl sc9 rfl <| mvg rfl rfl rfl <| el H fun t387 h388 H => Dv.call rfl (gg rfl) cal151 rfl (strings_IndexByte.c h388) <| bng rfl rfl rfl rfl run_ge <| pf0 rfl rfl rfl <| as0 rfl rfl <| .fin ?_
 obtain rfl := Gets.out H
 exact rt i2 rfl () 0 [] 0 (.cons (res_tmp rfl) .nil)
theorem name_among.c {a0 : ByteArray} {r : (Int → Option Bool)} (h : name_among.f a0 = some r) : Pt Tryz.prog 130 [vS a0] (fq_uint8_bool r) := by
 unfold name_among.f at h
 refine (Tr.body Tryz.func130 (c := _) rfl Tryz.ntmps130 (Nat.le_of_ble_eq_true rfl) fun R0 F => ?_).pt
 replace h := Gets.of h
 have H := h
 clear h
 refine WP.seq <| rg 2 1 <| Dv.box rfl trivial rfl cE nofun fun b389 => as0 rfl rfl <| .fin <| WP.seq <| rg 2 0 <| Dv.gh (gh_frzb (E' := [(0, vS a0), (1, rp [vS a0]), (2, eq .nilFunc)]) (l' := F) 0 rfl (cve_cons rfl cv_id (cve_cons rfl cv_eq (cve_cons rfl cv_id cve_nil))) (all2_app .nil fun _ => cva_id)) (fun _ _ => ?_)
 refine Dv.mkf (Q := fqQ_uint8_bool (fun a0_ => name_among_1.f a0_ a0)) cal150 (by rintro _ _ ⟨a0_, r_, h_, rfl, rfl⟩; exact name_among_1.c h_) rfl trivial rfl rfl <| as0 rfl rfl <| .fin ?_
 obtain rfl := Gets.out H
 exact rt i2 rfl () 0 [] 0 (.cons (res_tmp rfl) .nil)
theorem name_may.c {k : Nat} {a0 : ByteArray} {a1 : Int} {r : Bool} (h : name_may.f k a0 a1 = some r) : Pt Tryz.prog 120 [vS a0, vI a1] (vB r) := by
 unfold name_may.f at h
 refine (Tr.body Tryz.func120 (c := _) rfl Tryz.ntmps120 (Nat.le_of_ble_eq_true rfl) fun R0 F => ?_).pt
 replace h := Gets.of h
 have H := h
 clear h
 refine WP.seq <| rg 1 0 <| as0 rfl rfl <| .fin <| WP.seq <| rg 7 0 <| el H fun t390 h391 H => cl rfl cal130 rfl (name_among.c h391) <| el H fun t392 h393 H => cl rfl cal130 rfl (name_among.c h393) <| el H fun t394 h395 H => cl rfl cal130 rfl (name_among.c h395) <| Dv.blda (qs := [fq_uint8_bool t390, fq_uint8_bool t392, fq_uint8_bool t394]) (css := [[fq_uint8_bool t390], [fq_uint8_bool t392], [fq_uint8_bool t394]]) rfl trivial Tryz.underlying137 Tryz.underlying121 c121 z137 rfl ⟨(cells_one one_fnq), ⟨(cells_one one_fnq), ⟨(cells_one one_fnq), trivial⟩⟩⟩ rfl rfl <| mv0 rfl rfl <| gr H fun g396 H => Dv.ixa (Kd := fK_uint8_bool) (xs := ([t390, t392, t394] : List (Int → Option Bool))) rfl trivial rfl rfl rfl Tryz.underlying137 Tryz.underlying121 rfl c121 rfl rfl g396.1 g396.2 rfl <| as0 rfl rfl <| .fin <| WP.seqr H id (fun p397 : Int × Bool => [(0, vS a0), (1, vI a1), (4, vB false), (5, fq_uint8_bool (fK_uint8_bool.at ([t390, t392, t394] : List (Int → Option Bool)) a1)), (14, vI (a0.size : Int)), (15, vI p397.1), (16, vB p397.2)]) (fun p397 : Int × Bool => F) (fun p397 H => ?_) (fun H => ?_)
 ·
  refine WP.seq <| rg 8 0 <| mv0 rfl rfl <| bn0 rfl rfl rfl run_sne <| mv0 rfl rfl ?_
  cases c398 : !decide (a0 = (⟨#[]⟩ : ByteArray))
  ·
   replace H := Gets.cf H c398
   refine sk rfl rfl <| sk rfl rfl <| sk rfl rfl <| pf0 rfl rfl rfl <| as0 rfl rfl <| .fin ?_
   obtain rfl := Gets.out H
   exact rt i2 rfl () 0 [] 0 (.cons (res_tmp rfl) .nil)
  replace H := Gets.ct H c398
  refine mvg rfl rfl rfl <| Dv.lens rfl (gg rfl) rfl Tryz.underlying9 <| bng rfl rfl rfl rfl run_le <| pt0 rfl rfl rfl <| as0 rfl rfl <| .fin ?_
  obtain rfl := Gets.out H
  exact rt i2 rfl () 0 [] 0 (.cons (res_tmp rfl) .nil)
 refine WP.seq <| rg 3 0 <| mv0 rfl rfl <| Dv.lens rfl trivial rfl Tryz.underlying9 <| mv0 rfl rfl <| .fin <| WP.block <| wg (sg 0 [] 0) fun _ _ => ?_
 refine lp (fun j_ (p406 : Int) => name_may.l0 k a0 a1 t390 t392 t394 j_ p406) 0 H (fun p406 => [(0, vS a0), (1, vI a1), (4, vB false), (5, fq_uint8_bool (fK_uint8_bool.at ([t390, t392, t394] : List (Int → Option Bool)) a1)), (14, vI (a0.size : Int)), (15, vI p406)]) (fun p406 => F) ?_
 rintro j_ x399 H
 rcases j_ with _ | j405
 ·
  exact (Gets.no H).elim
 replace H : Gets (name_may.l0 k a0 a1 t390 t392 t394 (j405 + 1) x399) _ := H
 rw [name_may.l0] at H
 refine WP.seq <| rg 1 0 <| bn0 rfl rfl rfl run_lt <| .fin <| WP.seq <| cd H rfl (fun _ H => ?_) (fun _ H => ?_)
 rotate_left
 ·
  refine WP.exit ?_
  replace H := Gets.out H
  exact jn (x399, decide (x399 < (a0.size : Int))) H
 refine WP.skip <| WP.seq <| WP.block <| WP.seq <| rg 2 0 <| mv0 rfl rfl <| as0 rfl rfl <| .fin <| WP.seq <| rg 6 0 <| mv0 rfl rfl <| mv0 rfl rfl <| mv0 rfl rfl <| gr H fun g401 H => Dv.ixs rfl trivial rfl rfl Tryz.underlying9 g401.1 g401.2 <| el H fun t402 h403 H => Dv.callq (ret := vB t402) rfl trivial rfl rfl ⟨_, _, h403, rfl, rfl⟩ <| un0 rfl rfl (run_not _) <| .fin <| cd H rfl (fun _ H => ?_) (fun _ H => ?_)
 rotate_left
 ·
  exact WP.skip <| rg 2 0 <| bn0 rfl rfl rfl run_add <| mv0 rfl rfl <| .fin <| bk j405 (w64 (x399 + 1)) H
 refine WP.seq <| rg 1 0 <| as0 rfl rfl <| .fin ?_
 replace H := Gets.outr H
 obtain rfl := Gets.out H
 exact rt i2 rfl () 0 [] 0 (.cons (res_tmp rfl) .nil)
theorem name_Server.c {k : Nat} {a0 : ByteArray} {r : Bool} (h : name_Server.f k a0 = some r) : Pt Tryz.prog 121 [vS a0] (vB r) := by
 unfold name_Server.f at h
 refine (Tr.body Tryz.func121 (c := _) rfl Tryz.ntmps121 (Nat.le_of_ble_eq_true rfl) fun R0 F => ?_).pt
 replace h := Gets.of h
 have H := h
 clear h
 refine WP.seq <| rg 1 0 <| as0 rfl rfl <| .fin <| WP.seq <| rg 16 0 <| mv0 rfl rfl <| el H fun t407 h408 H => cl rfl cal120 rfl (name_may.c h408) <| mv0 rfl rfl ?_
 cases c409 : t407
 ·
  replace H := Gets.cf H c409
  refine sk rfl rfl <| sk rfl rfl <| sk rfl rfl <| pf0 rfl rfl rfl <| mv0 rfl rfl <| sk rfl rfl <| sk rfl rfl <| sk rfl rfl <| sk rfl rfl <| sk rfl rfl <| sk rfl rfl <| pf0 rfl rfl rfl <| as0 rfl rfl <| .fin ?_
  obtain rfl := Gets.out H
  exact rt i2 rfl () 0 [] 0 (.cons (res_tmp rfl) .nil)
 replace H := Gets.ct H c409
 refine mvg rfl rfl rfl <| gr H fun g410 H => Dv.ixs rfl (gg rfl) rfl rfl Tryz.underlying9 g410.1 g410.2 <| el H fun t411 h412 H => Dv.call rfl (gg rfl) cal131 rfl (name_small.c h412) <| pt0 rfl rfl rfl <| mv0 rfl rfl ?_
 cases c413 : t411
 ·
  replace H := Gets.cf H c413
  refine sk rfl rfl <| sk rfl rfl <| sk rfl rfl <| sk rfl rfl <| sk rfl rfl <| sk rfl rfl <| pf0 rfl rfl rfl <| as0 rfl rfl <| .fin ?_
  obtain rfl := Gets.out H
  exact rt i2 rfl () 0 [] 0 (.cons (res_tmp rfl) .nil)
 replace H := Gets.ct H c413
 refine mvg rfl rfl rfl <| mvg rfl rfl rfl <| Dv.lens rfl (gg rfl) rfl Tryz.underlying9 <| bng rfl rfl rfl rfl run_sub <| gr H fun g414 H => Dv.ixs rfl (gg rfl) rfl rfl Tryz.underlying9 g414.1 g414.2 <| el H fun t415 h416 H => Dv.call rfl (gg rfl) cal131 rfl (name_small.c h416) <| pt0 rfl rfl rfl <| as0 rfl rfl <| .fin ?_
 obtain rfl := Gets.out H
 exact rt i2 rfl () 0 [] 0 (.cons (res_tmp rfl) .nil)
theorem name_split.c {k : Nat} {a0 : ByteArray} {a1 : ByteArray} {r : ByteArray × ByteArray × Bool} (h : name_split.f k a0 a1 = some r) : Pt Tryz.prog 98 [vS a0, vS a1] (tup [vS r.1, vS r.2.1, vB r.2.2]) := by
 unfold name_split.f at h
 refine (Tr.body Tryz.func98 (c := _) rfl Tryz.ntmps98 (Nat.le_of_ble_eq_true rfl) fun R0 F => ?_).pt
 replace h := Gets.of h
 have H := h
 clear h
 refine WP.seq <| rg 3 0 <| as0 rfl rfl <| as0 rfl rfl <| as0 rfl rfl <| .fin <| WP.seq <| rg 8 0 <| mv0 rfl rfl <| mv0 rfl rfl <| el H fun t417 h418 H => cl rfl cal119 rfl (strings_CutPrefix.c h418) <| mv0 rfl rfl <| ex0 rfl trivial rfl rfl <| ex0 rfl trivial rfl rfl <| as0 rfl rfl <| as0 rfl rfl <| .fin <| WP.seq <| rg 9 0 <| mv0 rfl rfl <| el H fun t419 h420 H => cl rfl cal70 rfl (strings_Cut.c h420) <| mv0 rfl rfl <| ex0 rfl trivial rfl rfl <| ex0 rfl trivial rfl rfl <| ex0 rfl trivial rfl rfl <| as0 rfl rfl <| as0 rfl rfl <| as0 rfl rfl <| .fin <| WP.seq <| rg 17 0 <| mv0 rfl rfl <| mv0 rfl rfl <| mv0 rfl rfl <| mv0 rfl rfl ?_
 cases c421 : t417.2
 ·
  replace H := Gets.cf H c421
  refine sk rfl rfl <| pf0 rfl rfl rfl <| mv0 rfl rfl <| sk rfl rfl <| sk rfl rfl <| pf0 rfl rfl rfl <| mv0 rfl rfl <| sk rfl rfl <| sk rfl rfl <| pf0 rfl rfl rfl <| as0 rfl rfl <| as0 rfl rfl <| as0 rfl rfl <| .fin ?_
  obtain rfl := Gets.out H
  exact rt i2 rfl () 0 [] 0 (.cons (res_tmp rfl) (.cons (res_tmp rfl) (.cons (res_tmp rfl) .nil)))
 replace H := Gets.ct H c421
 refine mvg rfl rfl rfl <| pt0 rfl rfl rfl <| mv0 rfl rfl ?_
 cases c422 : t419.2.2
 ·
  replace H := Gets.cf H c422
  refine sk rfl rfl <| sk rfl rfl <| pf0 rfl rfl rfl <| mv0 rfl rfl <| sk rfl rfl <| sk rfl rfl <| pf0 rfl rfl rfl <| as0 rfl rfl <| as0 rfl rfl <| as0 rfl rfl <| .fin ?_
  obtain rfl := Gets.out H
  exact rt i2 rfl () 0 [] 0 (.cons (res_tmp rfl) (.cons (res_tmp rfl) (.cons (res_tmp rfl) .nil)))
 replace H := Gets.ct H c422
 refine mvg rfl rfl rfl <| el H fun t423 h424 H => Dv.call rfl (gg rfl) cal120 rfl (name_may.c h424) <| pt0 rfl rfl rfl <| mv0 rfl rfl ?_
 cases c425 : t423
 ·
  replace H := Gets.cf H c425
  refine sk rfl rfl <| sk rfl rfl <| pf0 rfl rfl rfl <| as0 rfl rfl <| as0 rfl rfl <| as0 rfl rfl <| .fin ?_
  obtain rfl := Gets.out H
  exact rt i2 rfl () 0 [] 0 (.cons (res_tmp rfl) (.cons (res_tmp rfl) (.cons (res_tmp rfl) .nil)))
 replace H := Gets.ct H c425
 refine mvg rfl rfl rfl <| el H fun t426 h427 H => Dv.call rfl (gg rfl) cal121 rfl (name_Server.c h427) <| pt0 rfl rfl rfl <| as0 rfl rfl <| as0 rfl rfl <| as0 rfl rfl <| .fin ?_
 obtain rfl := Gets.out H
 exact rt i2 rfl () 0 [] 0 (.cons (res_tmp rfl) (.cons (res_tmp rfl) (.cons (res_tmp rfl) .nil)))
theorem name_User.c {k : Nat} {a0 : ByteArray} {r : Bool} (h : name_User.f k a0 = some r) : Pt Tryz.prog 68 [vS a0] (vB r) := by
 unfold name_User.f at h
 refine (Tr.body Tryz.func68 (c := _) rfl Tryz.ntmps68 (Nat.le_of_ble_eq_true rfl) fun R0 F => ?_).pt
 replace h := Gets.of h
 have H := h
 clear h
 refine WP.seq <| rg 1 0 <| as0 rfl rfl <| .fin <| WP.seq <| rg 9 0 <| mv0 rfl rfl <| el H fun t428 h429 H => cl rfl cal98 rfl (name_split.c h429) <| mv0 rfl rfl <| ex0 rfl trivial rfl rfl <| ex0 rfl trivial rfl rfl <| ex0 rfl trivial rfl rfl <| as0 rfl rfl <| as0 rfl rfl <| as0 rfl rfl <| .fin <| WP.seq <| rg 2 0 <| mv0 rfl rfl <| as0 rfl rfl <| .fin ?_
 obtain rfl := Gets.out H
 exact rt i2 rfl () 0 [] 0 (.cons (res_tmp rfl) .nil)
theorem name_Room.c {k : Nat} {a0 : ByteArray} {r : Bool} (h : name_Room.f k a0 = some r) : Pt Tryz.prog 69 [vS a0] (vB r) := by
 unfold name_Room.f at h
 refine (Tr.body Tryz.func69 (c := _) rfl Tryz.ntmps69 (Nat.le_of_ble_eq_true rfl) fun R0 F => ?_).pt
 replace h := Gets.of h
 have H := h
 clear h
 refine WP.seq <| rg 1 0 <| as0 rfl rfl <| .fin <| WP.seq <| rg 9 0 <| mv0 rfl rfl <| el H fun t430 h431 H => cl rfl cal98 rfl (name_split.c h431) <| mv0 rfl rfl <| ex0 rfl trivial rfl rfl <| ex0 rfl trivial rfl rfl <| ex0 rfl trivial rfl rfl <| as0 rfl rfl <| as0 rfl rfl <| as0 rfl rfl <| .fin <| WP.seq <| rg 2 0 <| mv0 rfl rfl <| as0 rfl rfl <| .fin ?_
 obtain rfl := Gets.out H
 exact rt i2 rfl () 0 [] 0 (.cons (res_tmp rfl) .nil)
theorem name_Event.c {k : Nat} {a0 : ByteArray} {r : Bool} (h : name_Event.f k a0 = some r) : Pt Tryz.prog 109 [vS a0] (vB r) := by
 unfold name_Event.f at h
 refine (Tr.body Tryz.func109 (c := _) rfl Tryz.ntmps109 (Nat.le_of_ble_eq_true rfl) fun R0 F => ?_).pt
 replace h := Gets.of h
 have H := h
 clear h
 refine WP.seq <| rg 1 0 <| as0 rfl rfl <| .fin <| WP.seq <| rg 7 0 <| mv0 rfl rfl <| el H fun t432 h433 H => cl rfl cal119 rfl (strings_CutPrefix.c h433) <| mv0 rfl rfl <| ex0 rfl trivial rfl rfl <| ex0 rfl trivial rfl rfl <| as0 rfl rfl <| as0 rfl rfl <| .fin <| WP.seq <| rg 6 0 <| mv0 rfl rfl <| mv0 rfl rfl ?_
 cases c434 : t432.2
 ·
  replace H := Gets.cf H c434
  refine sk rfl rfl <| sk rfl rfl <| pf0 rfl rfl rfl <| as0 rfl rfl <| .fin ?_
  obtain rfl := Gets.out H
  exact rt i2 rfl () 0 [] 0 (.cons (res_tmp rfl) .nil)
 replace H := Gets.ct H c434
 refine mvg rfl rfl rfl <| el H fun t435 h436 H => Dv.call rfl (gg rfl) cal120 rfl (name_may.c h436) <| pt0 rfl rfl rfl <| as0 rfl rfl <| .fin ?_
 obtain rfl := Gets.out H
 exact rt i2 rfl () 0 [] 0 (.cons (res_tmp rfl) .nil)
theorem dag_May.c {k : Nat} {a0 : Event} {r : Bool} (h : dag_May.f k a0 = some r) : Pt Tryz.prog 94 [agg (Event.enc a0)] (vB r) := by
 unfold dag_May.f at h
 refine (Tr.body Tryz.func94 (c := _) rfl Tryz.ntmps94 (Nat.le_of_ble_eq_true rfl) fun R0 F => ?_).pt
 replace h := Gets.of h
 have H := h
 clear h
 refine WP.seq <| rg 2 1 <| Dv.box rfl trivial rfl cA nofun fun b437 => as0 rfl rfl <| .fin <| WP.scope <| WP.seq <| WP.seq <| rg 32 0 <| fb rfl trivial rfl fa59_0 <| ld 0 rfl trivial rfl sc9 rfl rfl <| el H fun t438 h439 H => cl rfl cal109 rfl (name_Event.c h439) <| un0 rfl rfl (run_not _) <| mv0 rfl rfl ?_
 cases c440 : !t438
 rotate_left
 ·
  replace H := Gets.ct H c440
  refine sk rfl rfl <| sk rfl rfl <| sk rfl rfl <| sk rfl rfl <| pt0 rfl rfl rfl <| mv0 rfl rfl <| sk rfl rfl <| sk rfl rfl <| sk rfl rfl <| sk rfl rfl <| pt0 rfl rfl rfl <| mv0 rfl rfl <| sk rfl rfl <| sk rfl rfl <| sk rfl rfl <| sk rfl rfl <| pt0 rfl rfl rfl <| mv0 rfl rfl <| sk rfl rfl <| sk rfl rfl <| sk rfl rfl <| pt0 rfl rfl rfl <| mv0 rfl rfl <| sk rfl rfl <| sk rfl rfl <| sk rfl rfl <| pt0 rfl rfl rfl <| .fin <| WP.cond rfl (fun _ => ?_) nofun
  refine WP.seq <| rg 1 0 <| as0 rfl rfl <| .fin ?_
  obtain rfl := Gets.out H
  exact rt i2 rfl () 1 [0] 1 (.cons (res_tmp rfl) .nil)
 replace H := Gets.cf H c440
 refine fb rfl (gg rfl) rfl fa59_1 <| ld 0 rfl (gg rfl) rfl sc9 rfl rfl <| el H fun t442 h443 H => Dv.call rfl (gg rfl) cal69 rfl (name_Room.c h443) <| ung rfl rfl rfl (run_not _) <| pf0 rfl rfl rfl <| mv0 rfl rfl ?_
 cases c444 : !t442
 rotate_left
 ·
  replace H := Gets.ct H c444
  refine sk rfl rfl <| sk rfl rfl <| sk rfl rfl <| sk rfl rfl <| pt0 rfl rfl rfl <| mv0 rfl rfl <| sk rfl rfl <| sk rfl rfl <| sk rfl rfl <| sk rfl rfl <| pt0 rfl rfl rfl <| mv0 rfl rfl <| sk rfl rfl <| sk rfl rfl <| sk rfl rfl <| pt0 rfl rfl rfl <| mv0 rfl rfl <| sk rfl rfl <| sk rfl rfl <| sk rfl rfl <| pt0 rfl rfl rfl <| .fin <| WP.cond rfl (fun _ => ?_) nofun
  refine WP.seq <| rg 1 0 <| as0 rfl rfl <| .fin ?_
  obtain rfl := Gets.out H
  exact rt i2 rfl () 1 [0] 1 (.cons (res_tmp rfl) .nil)
 replace H := Gets.cf H c444
 refine fb rfl (gg rfl) rfl fa59_4 <| ld 0 rfl (gg rfl) rfl sc9 rfl rfl <| el H fun t446 h447 H => Dv.call rfl (gg rfl) cal68 rfl (name_User.c h447) <| ung rfl rfl rfl (run_not _) <| pf0 rfl rfl rfl <| mv0 rfl rfl ?_
 cases c448 : !t446
 rotate_left
 ·
  replace H := Gets.ct H c448
  refine sk rfl rfl <| sk rfl rfl <| sk rfl rfl <| sk rfl rfl <| pt0 rfl rfl rfl <| mv0 rfl rfl <| sk rfl rfl <| sk rfl rfl <| sk rfl rfl <| pt0 rfl rfl rfl <| mv0 rfl rfl <| sk rfl rfl <| sk rfl rfl <| sk rfl rfl <| pt0 rfl rfl rfl <| .fin <| WP.cond rfl (fun _ => ?_) nofun
  refine WP.seq <| rg 1 0 <| as0 rfl rfl <| .fin ?_
  obtain rfl := Gets.out H
  exact rt i2 rfl () 1 [0] 1 (.cons (res_tmp rfl) .nil)
 replace H := Gets.cf H c448
 refine fb rfl (gg rfl) rfl fa59_2 <| ld 0 rfl (gg rfl) rfl sc35 rfl rfl <| Dv.lenl rfl (gg rfl) rfl Tryz.underlying35 <| bng rfl rfl rfl rfl run_gt <| pf0 rfl rfl rfl <| mv0 rfl rfl ?_
 cases c450 : decide (4 < (a0.fParents.length : Int))
 rotate_left
 ·
  replace H := Gets.ct H c450
  refine sk rfl rfl <| sk rfl rfl <| sk rfl rfl <| pt0 rfl rfl rfl <| mv0 rfl rfl <| sk rfl rfl <| sk rfl rfl <| sk rfl rfl <| pt0 rfl rfl rfl <| .fin <| WP.cond rfl (fun _ => ?_) nofun
  refine WP.seq <| rg 1 0 <| as0 rfl rfl <| .fin ?_
  obtain rfl := Gets.out H
  exact rt i2 rfl () 1 [0] 1 (.cons (res_tmp rfl) .nil)
 replace H := Gets.cf H c450
 refine fb rfl (gg rfl) rfl fa59_5 <| ld 0 rfl (gg rfl) rfl sc3 rfl rfl <| bng rfl rfl rfl rfl run_lt <| pf0 rfl rfl rfl <| mv0 rfl rfl ?_
 cases c452 : decide (a0.fDoes < 0)
 rotate_left
 ·
  replace H := Gets.ct H c452
  refine sk rfl rfl <| sk rfl rfl <| sk rfl rfl <| pt0 rfl rfl rfl <| .fin <| WP.cond rfl (fun _ => ?_) nofun
  refine WP.seq <| rg 1 0 <| as0 rfl rfl <| .fin ?_
  obtain rfl := Gets.out H
  exact rt i2 rfl () 1 [0] 1 (.cons (res_tmp rfl) .nil)
 replace H := Gets.cf H c452
 refine fb rfl (gg rfl) rfl fa59_5 <| ld 0 rfl (gg rfl) rfl sc3 rfl rfl <| bng rfl rfl rfl rfl run_gt <| pf0 rfl rfl rfl <| .fin <| cd H rfl (fun _ H => ?_) (fun _ H => ?_)
 ·
  refine WP.seq <| rg 1 0 <| as0 rfl rfl <| .fin ?_
  obtain rfl := Gets.out H
  exact rt i2 rfl () 1 [0] 1 (.cons (res_tmp rfl) .nil)
 refine WP.skip <| WP.seq <| WP.seq <| rg 21 0 <| fb rfl trivial rfl fa59_3 <| ld 0 rfl trivial rfl sc9 rfl rfl <| bn0 rfl rfl rfl run_sne <| mv0 rfl rfl ?_
 cases c455 : !decide (a0.fThread = (⟨#[]⟩ : ByteArray))
 ·
  replace H := Gets.cf H c455
  refine sk rfl rfl <| sk rfl rfl <| sk rfl rfl <| sk rfl rfl <| sk rfl rfl <| sku rfl rfl <| sku rfl rfl <| sku rfl rfl <| sku rfl rfl <| sku rfl rfl <| sk rfl rfl <| sk rfl rfl <| sku rfl rfl <| sku rfl rfl <| sku rfl rfl <| sk rfl rfl <| pf0 rfl rfl rfl <| .fin <| WP.cond rfl nofun (fun _ => ?_)
  refine WP.skip <| WP.seq <| rg 1 0 <| as0 rfl rfl <| .fin <| WP.seq <| WP.label <| WP.seqn H id (fun p480 : Bool × Int × Bool => [(0, agg (Event.enc a0)), (1, eq (.pointer (some ⟨b437, 0, none⟩))), (2, vB false), (3, vB p480.1), (37, vB (decide (2 < a0.fDoes))), (58, vB false), (60, sl strK a0.fParents), (61, vI (a0.fParents.length : Int)), (62, vI p480.2.1), (63, vB p480.2.2)]) (fun p480 : Bool × Int × Bool => [blk b437 59 (Event.enc a0)] ++ F) (fun p480 H => ?_) (fun H => ?_)
  ·
   refine WP.seq <| rg 2 0 <| mv0 rfl rfl <| as0 rfl rfl <| .fin ?_
   obtain rfl := Gets.out H
   exact rt i2 rfl () 1 [0] 1 (.cons (res_tmp rfl) .nil)
  refine WP.seq <| rg 4 0 <| fb rfl trivial rfl fa59_2 <| ld 0 rfl trivial rfl sc35 rfl rfl <| Dv.lenl rfl trivial rfl Tryz.underlying35 <| mv0 rfl rfl <| .fin <| WP.block <| wg (sg 1 [0] 0) fun _ _ => ?_
  refine lp (fun j_ (p495 : Int) => dag_May.l1 k a0 j_ p495) 0 H (fun p495 => [(0, agg (Event.enc a0)), (1, eq (.pointer (some ⟨b437, 0, none⟩))), (2, vB false), (3, vB true), (37, vB (decide (2 < a0.fDoes))), (58, vB false), (60, sl strK a0.fParents), (61, vI (a0.fParents.length : Int)), (62, vI p495)]) (fun p495 => [blk b437 59 (Event.enc a0)] ++ F) ?_
  rintro j_ x481 H
  rcases j_ with _ | j494
  ·
   exact (Gets.no H).elim
  replace H : Gets (dag_May.l1 k a0 (j494 + 1) x481) _ := H
  rw [dag_May.l1] at H
  refine WP.seq <| rg 1 0 <| bn0 rfl rfl rfl run_lt <| .fin <| WP.seq <| cd H rfl (fun _ H => ?_) (fun _ H => ?_)
  rotate_left
  ·
   refine WP.exit ?_
   replace H := Gets.out H
   exact jn (true, x481, decide (x481 < (a0.fParents.length : Int))) H
  refine WP.skip <| WP.seq <| WP.block <| WP.seq <| rg 5 0 <| mv0 rfl rfl <| gr H fun g483 H => Dv.ixr rfl trivial rfl rfl Tryz.underlying35 Tryz.underlying9 c9 g483.1 g483.2 <| ldR rfl trivial rfl sc9 rfl <| as0 rfl rfl <| as0 rfl rfl <| .fin <| WP.seq <| rg 23 0 <| mv0 rfl rfl <| el H fun t484 h485 H => cl rfl cal109 rfl (name_Event.c h485) <| un0 rfl rfl (run_not _) <| mv0 rfl rfl ?_
  cases c486 : !t484
  rotate_left
  ·
   replace H := Gets.ct H c486
   refine sk rfl rfl <| sk rfl rfl <| sk rfl rfl <| sk rfl rfl <| pt0 rfl rfl rfl <| mv0 rfl rfl <| sk rfl rfl <| sk rfl rfl <| sk rfl rfl <| sku rfl rfl <| sku rfl rfl <| sku rfl rfl <| sku rfl rfl <| sku rfl rfl <| sku rfl rfl <| sku rfl rfl <| sku rfl rfl <| sk rfl rfl <| pt0 rfl rfl rfl <| .fin <| WP.cond rfl (fun _ => ?_) nofun
   refine WP.seq <| rg 1 0 <| as0 rfl rfl <| .fin <| WP.exit ?_
   replace H := Gets.out H
   exact jn (false, x481, decide (x481 < (a0.fParents.length : Int))) H
  replace H := Gets.cf H c486
  refine mvg rfl rfl rfl <| fb rfl (gg rfl) rfl fa59_0 <| ld 0 rfl (gg rfl) rfl sc9 rfl rfl <| bng rfl rfl rfl rfl run_seq <| pf0 rfl rfl rfl <| mv0 rfl rfl ?_
  cases c488 : decide ((strK.at a0.fParents x481) = a0.fID)
  rotate_left
  ·
   replace H := Gets.ct H c488
   refine sk rfl rfl <| sk rfl rfl <| sk rfl rfl <| sku rfl rfl <| sku rfl rfl <| sku rfl rfl <| sku rfl rfl <| sku rfl rfl <| sku rfl rfl <| sku rfl rfl <| sku rfl rfl <| sk rfl rfl <| pt0 rfl rfl rfl <| .fin <| WP.cond rfl (fun _ => ?_) nofun
   refine WP.seq <| rg 1 0 <| as0 rfl rfl <| .fin <| WP.exit ?_
   replace H := Gets.out H
   exact jn (false, x481, decide (x481 < (a0.fParents.length : Int))) H
  replace H := Gets.cf H c488
  refine mvg rfl rfl rfl <| bng rfl rfl rfl rfl run_gt <| mvg rfl rfl rfl ?_
  cases c490 : decide (0 < x481)
  ·
   replace H := Gets.cf H c490
   refine sk rfl rfl <| sk rfl rfl <| sk rfl rfl <| sk rfl rfl <| sk rfl rfl <| sk rfl rfl <| sk rfl rfl <| sk rfl rfl <| pfg rfl rfl rfl rfl <| pf0 rfl rfl rfl <| .fin <| WP.cond rfl nofun (fun _ => ?_)
   exact WP.skip <| rg 2 0 <| bn0 rfl rfl rfl run_add <| mv0 rfl rfl <| .fin <| bk j494 (w64 (x481 + 1)) H
  replace H := Gets.ct H c490
  refine mvg rfl rfl rfl <| fb rfl (gg rfl) rfl fa59_2 <| ld 0 rfl (gg rfl) rfl sc35 rfl rfl <| mvg rfl rfl rfl <| bng rfl rfl rfl rfl run_sub <| gr H fun g491 H => Dv.ixr rfl (gg rfl) rfl rfl Tryz.underlying35 Tryz.underlying9 c9 g491.1 g491.2 <| ldR rfl (gg rfl) rfl sc9 rfl <| bng rfl rfl rfl rfl run_sle <| ptg rfl rfl rfl rfl <| pf0 rfl rfl rfl <| .fin <| cd H rfl (fun _ H => ?_) (fun _ H => ?_)
  rotate_left
  ·
   exact WP.skip <| rg 2 0 <| bn0 rfl rfl rfl run_add <| mv0 rfl rfl <| .fin <| bk j494 (w64 (x481 + 1)) H
  refine WP.seq <| rg 1 0 <| as0 rfl rfl <| .fin <| WP.exit ?_
  replace H := Gets.out H
  exact jn (false, x481, decide (x481 < (a0.fParents.length : Int))) H
 replace H := Gets.ct H c455
 refine fb rfl (gg rfl) rfl fa59_3 <| ld 0 rfl (gg rfl) rfl sc9 rfl rfl <| el H fun t456 h457 H => Dv.call rfl (gg rfl) cal109 rfl (name_Event.c h457) <| ung rfl rfl rfl (run_not _) <| mvg rfl rfl rfl ?_
 cases c458 : !t456
 rotate_left
 ·
  replace H := Gets.ct H c458
  refine sk rfl rfl <| sk rfl rfl <| sk rfl rfl <| sk rfl rfl <| sk rfl rfl <| ptg rfl rfl rfl rfl <| mvg rfl rfl rfl <| sk rfl rfl <| sk rfl rfl <| sk rfl rfl <| ptg rfl rfl rfl rfl <| pt0 rfl rfl rfl <| .fin <| WP.cond rfl (fun _ => ?_) nofun
  refine WP.seq <| rg 1 0 <| as0 rfl rfl <| .fin ?_
  obtain rfl := Gets.out H
  exact rt i2 rfl () 1 [0] 1 (.cons (res_tmp rfl) .nil)
 replace H := Gets.cf H c458
 refine fb rfl (gg rfl) rfl fa59_3 <| ld 0 rfl (gg rfl) rfl sc9 rfl rfl <| fb rfl (gg rfl) rfl fa59_0 <| ld 0 rfl (gg rfl) rfl sc9 rfl rfl <| bng rfl rfl rfl rfl run_seq <| pfg rfl rfl rfl rfl <| mvg rfl rfl rfl ?_
 cases c460 : decide (a0.fThread = a0.fID)
 rotate_left
 ·
  replace H := Gets.ct H c460
  refine sk rfl rfl <| sk rfl rfl <| sk rfl rfl <| ptg rfl rfl rfl rfl <| pt0 rfl rfl rfl <| .fin <| WP.cond rfl (fun _ => ?_) nofun
  refine WP.seq <| rg 1 0 <| as0 rfl rfl <| .fin ?_
  obtain rfl := Gets.out H
  exact rt i2 rfl () 1 [0] 1 (.cons (res_tmp rfl) .nil)
 replace H := Gets.cf H c460
 refine fb rfl (gg rfl) rfl fa59_5 <| ld 0 rfl (gg rfl) rfl sc3 rfl rfl <| bng rfl rfl rfl rfl run_ne <| pfg rfl rfl rfl rfl <| pt0 rfl rfl rfl <| .fin <| cd H rfl (fun _ H => ?_) (fun _ H => ?_)
 ·
  refine WP.seq <| rg 1 0 <| as0 rfl rfl <| .fin ?_
  obtain rfl := Gets.out H
  exact rt i2 rfl () 1 [0] 1 (.cons (res_tmp rfl) .nil)
 refine WP.skip <| WP.seq <| rg 1 0 <| as0 rfl rfl <| .fin <| WP.seq <| WP.label <| WP.seqn H id (fun p463 : Bool × Int × Bool => [(0, agg (Event.enc a0)), (1, eq (.pointer (some ⟨b437, 0, none⟩))), (2, vB false), (3, vB p463.1), (37, vB (decide (2 < a0.fDoes))), (58, vB (a0.fDoes != 0)), (60, sl strK a0.fParents), (61, vI (a0.fParents.length : Int)), (62, vI p463.2.1), (63, vB p463.2.2)]) (fun p463 : Bool × Int × Bool => [blk b437 59 (Event.enc a0)] ++ F) (fun p463 H => ?_) (fun H => ?_)
 ·
  refine WP.seq <| rg 2 0 <| mv0 rfl rfl <| as0 rfl rfl <| .fin ?_
  obtain rfl := Gets.out H
  exact rt i2 rfl () 1 [0] 1 (.cons (res_tmp rfl) .nil)
 refine WP.seq <| rg 4 0 <| fb rfl trivial rfl fa59_2 <| ld 0 rfl trivial rfl sc35 rfl rfl <| Dv.lenl rfl trivial rfl Tryz.underlying35 <| mv0 rfl rfl <| .fin <| WP.block <| wg (sg 1 [0] 0) fun _ _ => ?_
 refine lp (fun j_ (p478 : Int) => dag_May.l0 k a0 j_ p478) 0 H (fun p478 => [(0, agg (Event.enc a0)), (1, eq (.pointer (some ⟨b437, 0, none⟩))), (2, vB false), (3, vB true), (37, vB (decide (2 < a0.fDoes))), (58, vB (a0.fDoes != 0)), (60, sl strK a0.fParents), (61, vI (a0.fParents.length : Int)), (62, vI p478)]) (fun p478 => [blk b437 59 (Event.enc a0)] ++ F) ?_
 rintro j_ x464 H
 rcases j_ with _ | j477
 ·
  exact (Gets.no H).elim
 replace H : Gets (dag_May.l0 k a0 (j477 + 1) x464) _ := H
 rw [dag_May.l0] at H
 refine WP.seq <| rg 1 0 <| bn0 rfl rfl rfl run_lt <| .fin <| WP.seq <| cd H rfl (fun _ H => ?_) (fun _ H => ?_)
 rotate_left
 ·
  refine WP.exit ?_
  replace H := Gets.out H
  exact jn (true, x464, decide (x464 < (a0.fParents.length : Int))) H
 refine WP.skip <| WP.seq <| WP.block <| WP.seq <| rg 5 0 <| mv0 rfl rfl <| gr H fun g466 H => Dv.ixr rfl trivial rfl rfl Tryz.underlying35 Tryz.underlying9 c9 g466.1 g466.2 <| ldR rfl trivial rfl sc9 rfl <| as0 rfl rfl <| as0 rfl rfl <| .fin <| WP.seq <| rg 23 0 <| mv0 rfl rfl <| el H fun t467 h468 H => cl rfl cal109 rfl (name_Event.c h468) <| un0 rfl rfl (run_not _) <| mv0 rfl rfl ?_
 cases c469 : !t467
 rotate_left
 ·
  replace H := Gets.ct H c469
  refine sk rfl rfl <| sk rfl rfl <| sk rfl rfl <| sk rfl rfl <| pt0 rfl rfl rfl <| mv0 rfl rfl <| sk rfl rfl <| sk rfl rfl <| sk rfl rfl <| sku rfl rfl <| sku rfl rfl <| sku rfl rfl <| sku rfl rfl <| sku rfl rfl <| sku rfl rfl <| sku rfl rfl <| sku rfl rfl <| sk rfl rfl <| pt0 rfl rfl rfl <| .fin <| WP.cond rfl (fun _ => ?_) nofun
  refine WP.seq <| rg 1 0 <| as0 rfl rfl <| .fin <| WP.exit ?_
  replace H := Gets.out H
  exact jn (false, x464, decide (x464 < (a0.fParents.length : Int))) H
 replace H := Gets.cf H c469
 refine mvg rfl rfl rfl <| fb rfl (gg rfl) rfl fa59_0 <| ld 0 rfl (gg rfl) rfl sc9 rfl rfl <| bng rfl rfl rfl rfl run_seq <| pf0 rfl rfl rfl <| mv0 rfl rfl ?_
 cases c471 : decide ((strK.at a0.fParents x464) = a0.fID)
 rotate_left
 ·
  replace H := Gets.ct H c471
  refine sk rfl rfl <| sk rfl rfl <| sk rfl rfl <| sku rfl rfl <| sku rfl rfl <| sku rfl rfl <| sku rfl rfl <| sku rfl rfl <| sku rfl rfl <| sku rfl rfl <| sku rfl rfl <| sk rfl rfl <| pt0 rfl rfl rfl <| .fin <| WP.cond rfl (fun _ => ?_) nofun
  refine WP.seq <| rg 1 0 <| as0 rfl rfl <| .fin <| WP.exit ?_
  replace H := Gets.out H
  exact jn (false, x464, decide (x464 < (a0.fParents.length : Int))) H
 replace H := Gets.cf H c471
 refine mvg rfl rfl rfl <| bng rfl rfl rfl rfl run_gt <| mvg rfl rfl rfl ?_
 cases c473 : decide (0 < x464)
 ·
  replace H := Gets.cf H c473
  refine sk rfl rfl <| sk rfl rfl <| sk rfl rfl <| sk rfl rfl <| sk rfl rfl <| sk rfl rfl <| sk rfl rfl <| sk rfl rfl <| pfg rfl rfl rfl rfl <| pf0 rfl rfl rfl <| .fin <| WP.cond rfl nofun (fun _ => ?_)
  exact WP.skip <| rg 2 0 <| bn0 rfl rfl rfl run_add <| mv0 rfl rfl <| .fin <| bk j477 (w64 (x464 + 1)) H
 replace H := Gets.ct H c473
 refine mvg rfl rfl rfl <| fb rfl (gg rfl) rfl fa59_2 <| ld 0 rfl (gg rfl) rfl sc35 rfl rfl <| mvg rfl rfl rfl <| bng rfl rfl rfl rfl run_sub <| gr H fun g474 H => Dv.ixr rfl (gg rfl) rfl rfl Tryz.underlying35 Tryz.underlying9 c9 g474.1 g474.2 <| ldR rfl (gg rfl) rfl sc9 rfl <| bng rfl rfl rfl rfl run_sle <| ptg rfl rfl rfl rfl <| pf0 rfl rfl rfl <| .fin <| cd H rfl (fun _ H => ?_) (fun _ H => ?_)
 rotate_left
 ·
  exact WP.skip <| rg 2 0 <| bn0 rfl rfl rfl run_add <| mv0 rfl rfl <| .fin <| bk j477 (w64 (x464 + 1)) H
 refine WP.seq <| rg 1 0 <| as0 rfl rfl <| .fin <| WP.exit ?_
 replace H := Gets.out H
 exact jn (false, x464, decide (x464 < (a0.fParents.length : Int))) H
theorem dag_Dag_Has.c {a0 : DDag} {a1 : ByteArray} {v0_0 : OV} {b0_ : Nat} {r : Bool} (h : dag_Dag_Has.f a0 a1 = some r) : Tr Tryz.prog 95 [eq (.pointer (some ⟨b0_, 0, none⟩)), vS a1] [blk b0_ 110 [vS a0.froom, eq v0_0.1], mpo Value.string DNode.O v0_0.1 a0.fnodes] (γ := Unit) (fun _ => True) (fun g => vB r) (fun g => [blk b0_ 110 [vS a0.froom, eq v0_0.1], mpo Value.string DNode.O v0_0.1 a0.fnodes]) := by
 unfold dag_Dag_Has.f at h
 refine Tr.body Tryz.func95 (c := _) rfl Tryz.ntmps95 (Nat.le_of_ble_eq_true rfl) fun R0 F => ?_
 replace h := Gets.of h
 have H := h
 clear h
 refine WP.seq <| rg 1 0 <| as0 rfl rfl <| .fin <| WP.seq <| rg 8 0 <| mv0 rfl rfl <| Dv.nilp rfl trivial rfl <| fb rfl trivial rfl fa110_1 <| ld 0 rfl trivial rfl sc108 rfl rfl <| mv0 rfl rfl <| vg (mpo_opn 1 rfl) fun z496 h497 => ?_
 refine Dv.mlv nilP rfl trivial rfl (mem_at 0 rfl) rfl Tryz.underlying108 (keyOk_str Tryz.underlying9) z111 (fun _ => rfl) <| Dv.pm1 (pm_nil h497 rfl) rfl trivial rfl rfl Tryz.underlying111 <| as0 rfl rfl <| .fin <| wg (mpo_shut h497 rfl (pm 3 [0,1,2])) fun _ _ => ?_
 obtain rfl := Gets.out H
 exact rt i2 rfl () 2 [1,0] 0 (.cons (res_tmp rfl) .nil)
theorem dag_Dag_Add_1.c {a0 : ByteArray} {cb0_ cd0_ : Nat} {cq0_ cv0_0 : OV} {ch0_ : cq0_.1 = .pointer (some ⟨cd0_, 0, none⟩)} {c0 : DDag} {r : Bool} (h : dag_Dag_Add_1.f a0 c0 = some r) : Tr Tryz.prog 96 [vS a0, eq (.pointer (some ⟨cb0_, 0, none⟩))] [blk cb0_ 82 [eq cq0_.1], blk cd0_ 110 [vS c0.froom, eq cv0_0.1], mpo Value.string DNode.O cv0_0.1 c0.fnodes] (γ := Unit) (fun _ => True) (fun g => vB r) (fun g => [blk cb0_ 82 [eq cq0_.1], blk cd0_ 110 [vS c0.froom, eq cv0_0.1], mpo Value.string DNode.O cv0_0.1 c0.fnodes]) := by
 unfold dag_Dag_Add_1.f at h
 refine Tr.body Tryz.func96 (c := _) rfl Tryz.ntmps96 (Nat.le_of_ble_eq_true rfl) fun R0 F => ?_
 replace h := Gets.of h
 have H := h
 clear h
 refine WP.seq <| rg 1 0 <| as0 rfl rfl <| .fin <| WP.seq <| rg 5 0 <| ld 0 rfl trivial rfl sc82 rfl rfl <| mv0 rfl rfl <| el H fun t498 h499 H => cll 3 [1,2,0] cal95 (Tr.weak (dag_Dag_Has.c h499 (b0_ := cd0_) (v0_0 := cv0_0)) (.cons (wk_ptr ch0_) (.cons wk_id .nil))) ?_
 refine un0 rfl rfl (run_not _) <| as0 rfl rfl <| .fin ?_
 obtain rfl := Gets.out H
 exact rt i2 rfl () 3 [0,1,2] 0 (.cons (res_tmp rfl) .nil)
theorem slices_Clone_string.c {a0 : List ByteArray} {r : List ByteArray} (h : slices_Clone_string.f a0 = some r) : Tr Tryz.prog 118 [sl strK a0] [] (γ := OV) (fun _ => True) (fun g => eq g.1) (fun g => [own strK g.1 r]) := by
 unfold slices_Clone_string.f at h
 obtain ⟨h0, h5⟩ := (Gets.of h).grd
 obtain rfl := Gets.out h5
 clear h h5
 refine (Tr.body Tryz.func118 (c := _) rfl Tryz.ntmps118 (Nat.le_of_ble_eq_true rfl) fun R0 F => ?_)
 refine WP.seq <| WP.reg [(0, false)] (by kernel_rfl) <| as0 rfl rfl <| .fin <| WP.seq <| WP.seq <| WP.reg [(0, false), (1, true)] (by kernel_rfl) <| mv0 rfl rfl <| Dv.snil rfl trivial rfl rfl Tryz.underlying35 nofun (fun b hb => ?_)
 refine .fin <| WP.cond rfl (fun c0 => ?_) (fun c0 => ?_)
 ·
  obtain rfl := hb c0
  refine WP.seq <| WP.reg [(0, false)] (by kernel_rfl) <| as0 rfl rfl <| .fin <| wg (st_nil strK none) fun _ _ => ?_
  exact rt i2 rfl nilV 1 [0] 0 (.cons (res_tmp rfl) .nil)
 refine WP.skip <| WP.seq <| WP.reg [(0, true), (1, false), (2, true), (3, false)] (by kernel_rfl) <| Dv.lit0 strK rfl trivial Tryz.underlying35 Tryz.underlying9 c9 z9 nofun (fun v1 => ?_)
 refine mv0 rfl rfl <| Dv.appx (Kd := strK) (xs := []) (v := v1.1) (jj := 0) (ys := a0) (fun v2 : OV => [own strK v2.1 a0] ++ F) rfl trivial rfl rfl rfl src_sl Tryz.underlying35 (.inr ⟨_, Tryz.underlying35⟩) inf9 rfl (by decide) (by simpa using h0) rfl nofun (fun v2 => ?_)
 exact as0 rfl rfl <| .fin <| rt i2 rfl v2 1 [0] 0 (.cons (res_tmp rfl) .nil)
theorem dag_own.c {a0 : Event} {r : Event} (h : dag_own.f a0 = some r) : Pt Tryz.prog 97 [agg (Event.enc a0)] (agg (Event.enc r)) := by
 unfold dag_own.f at h
 refine (Tr.body Tryz.func97 (c := _) rfl Tryz.ntmps97 (Nat.le_of_ble_eq_true rfl) fun R0 F => ?_).pt
 replace h := Gets.of h
 have H := h
 clear h
 refine WP.seq <| rg 2 3 <| Dv.box rfl trivial rfl cA nofun fun b500 => al rfl trivial zc59 nofun fun b501 => .fin <| WP.seq <| rg 5 20 <| fb rfl trivial rfl fa59_2 <| ld 1 rfl trivial rfl sc35 rfl rfl <| el H fun t502 h503 H => cx 2 [0,1] cal118 (slices_Clone_string.c h503) nofun fun g504 _ => ?_
 refine fb rfl trivial rfl fa59_2 <| sx 2 rfl trivial rfl rfl (cells_one one_ov) sz35 rfl rfl rfl nofun ?_
 refine .fin <| WP.seq <| rg 2 2 <| lds 2 rfl trivial rfl sg59 rfl rfl <| sx 1 rfl trivial rfl rfl cA sz59 rfl rfl rfl nofun ?_
 refine .fin <| WP.gh (gh_frz (E' := [(2, eq (.pointer (some ⟨b501, 0, none⟩)))]) (l' := [blk b501 59 [vS a0.fID, vS a0.fRoom, sl strK t502, vS a0.fThread, vS a0.fUser, vI a0.fDoes], blk b500 59 [vS a0.fID, vS a0.fRoom, sl strK t502, vS a0.fThread, vS a0.fUser, vI a0.fDoes]] ++ F) 0 rfl (cve_cons rfl cv_id cve_nil) (all2_app (.cons (cva_blk (.cons cv_id (.cons cv_id (.cons cv_eq (.cons cv_id (.cons cv_id (.cons cv_id .nil))))))) (.cons (cva_blk (.cons cv_id (.cons cv_id (.cons cv_eq (.cons cv_id (.cons cv_id (.cons cv_id .nil))))))) .nil)) fun _ => cva_id)) (fun _ _ => ?_)
 obtain rfl := Gets.out H
 exact rt i2 rfl () 2 [0,1] 2 (.cons (res_cells rfl Tryz.underlying59 rfl c59 (mem_at 0 rfl) rfl) .nil)
theorem dag_Dag_Add.c {k : Nat} {a0 : DDag} {a1 : Event} {p0_ : OV} {r : Int × DDag} (h : dag_Dag_Add.f k a0 a1 = some r) : Tr Tryz.prog 66 [eq p0_.1, agg (Event.enc a1)] [DDag.O p0_ a0] (γ := Unit) (fun _ => True) (fun g => vI r.1) (fun g => [DDag.O p0_ r.2]) := by
 unfold dag_Dag_Add.f at h
 refine Tr.body Tryz.func66 (c := _) rfl Tryz.ntmps66 (Nat.le_of_ble_eq_true rfl) fun R0 F => ?_
 replace h := Gets.of h
 have H := h
 clear h
 refine WP.seq <| rg 3 3 <| Dv.box rfl trivial rfl (cells_one one_ov) nofun fun b505 => Dv.box rfl trivial rfl cA nofun fun b506 => as0 rfl rfl <| .fin <| WP.seq <| WP.block <| WP.seq <| wg (DDag.opn 2 rfl) fun g507 h508 => ?_
 refine dg Tryz.checked.mixed 13 0 <| lds 2 rfl trivial rfl sg59 rfl rfl <| el H fun t509 h510 H => cl rfl cal94 rfl (dag_May.c h510) <| un0 rfl rfl (run_not _) <| mv0 rfl rfl ?_
 cases c511 : !t509
 rotate_left
 ·
  replace H := Gets.ct H c511
  refine sk rfl rfl <| sk rfl rfl <| sk rfl rfl <| sk rfl rfl <| sk rfl rfl <| sk rfl rfl <| sk rfl rfl <| pt0 rfl rfl rfl <| as0 rfl rfl <| .fin <| WP.cond rfl (fun _ => ?_) nofun
  refine WP.seq <| rg 1 0 <| as0 rfl rfl <| .fin <| wg (DDag.shut (p := p0_) (m := a0) (g507.1, g507.2) h508 (pm 4 [0,1,2,3])) fun _ _ => ?_
  obtain rfl := Gets.out H
  exact rt i2 rfl () 3 [1,2,0] 2 (.cons (res_tmp rfl) .nil)
 replace H := Gets.cf H c511
 refine fb rfl (gg rfl) rfl fa59_1 <| ld 2 rfl (gg rfl) rfl sc9 rfl rfl <| ld 3 rfl (gg rfl) rfl sc82 rfl rfl <| Dv.nilpp h508 rfl (gg rfl) rfl <| fp h508 rfl (gg rfl) rfl fa110_0 <| ld 0 rfl (gg rfl) rfl sc9 rfl rfl <| bng rfl rfl rfl rfl run_sne <| pf0 rfl rfl rfl <| as0 rfl rfl <| .fin <| cd H rfl (fun _ H => ?_) (fun _ H => ?_)
 ·
  refine WP.seq <| rg 1 0 <| as0 rfl rfl <| .fin <| wg (DDag.shut (p := p0_) (m := a0) (g507.1, g507.2) h508 (pm 4 [0,1,2,3])) fun _ _ => ?_
  obtain rfl := Gets.out H
  exact rt i2 rfl () 3 [1,2,0] 2 (.cons (res_tmp rfl) .nil)
 refine WP.seq <| rg 5 0 <| ld 3 rfl trivial rfl sc82 rfl rfl <| fb rfl trivial rfl fa59_0 <| ld 2 rfl trivial rfl sc9 rfl rfl <| el H fun t514 h515 H => cll 4 [0,1,2,3] cal95 (Tr.weak (dag_Dag_Has.c h515 (b0_ := g507.1) (v0_0 := g507.2)) (.cons (wk_ptr h508) (.cons wk_id .nil))) ?_
 refine as0 rfl rfl <| .fin <| cd H rfl (fun _ H => ?_) (fun _ H => ?_)
 ·
  refine WP.seq <| rg 1 0 <| as0 rfl rfl <| .fin <| wg (DDag.shut (p := p0_) (m := a0) (g507.1, g507.2) h508 (pm 4 [0,1,2,3])) fun _ _ => ?_
  obtain rfl := Gets.out H
  exact rt i2 rfl () 3 [1,2,0] 2 (.cons (res_tmp rfl) .nil)
 refine WP.seq <| rg 5 0 <| fb rfl trivial rfl fa59_2 <| ld 2 rfl trivial rfl sc35 rfl rfl <| Dv.mkx (Q := fqQ_string_bool (fun a0_ => dag_Dag_Add_1.f a0_ a0)) (L := [blk b505 82 [eq p0_.1], blk g507.1 110 [vS a0.froom, eq g507.2.1], mpo Value.string DNode.O g507.2.1 a0.fnodes]) cal96 (by rintro _ _ ⟨a0_, r_, h_, rfl, rfl⟩; exact dag_Dag_Add_1.c h_ (cb0_ := b505) (cq0_ := p0_) (cd0_ := g507.1) (ch0_ := h508) (cv0_0 := g507.2)) rfl trivial rfl rfl <| el H fun t517 h518 H => cll 4 [3,0,1,2] cal84 (Tr.unpkr (A := []) (L := [blk b505 82 [eq p0_.1], blk g507.1 110 [vS a0.froom, eq g507.2.1], mpo Value.string DNode.O g507.2.1 a0.fnodes]) (slices_ContainsFunc_string_x.c h518 (X1_ := (pk [blk b505 82 [eq p0_.1], blk g507.1 110 [vS a0.froom, eq g507.2.1], mpo Value.string DNode.O g507.2.1 a0.fnodes])))) ?_
 refine as0 rfl rfl <| .fin <| cd H rfl (fun _ H => ?_) (fun _ H => ?_)
 ·
  refine WP.seq <| rg 1 0 <| as0 rfl rfl <| .fin <| wg (DDag.shut (p := p0_) (m := a0) (g507.1, g507.2) h508 (pm 4 [0,1,2,3])) fun _ _ => ?_
  obtain rfl := Gets.out H
  exact rt i2 rfl () 3 [1,2,0] 2 (.cons (res_tmp rfl) .nil)
 refine WP.skip <| WP.seqr H id (fun p520 : Unit => [(0, eq p0_.1), (1, agg (Event.enc a1)), (2, eq (.pointer (some ⟨b505, 0, none⟩))), (3, eq (.pointer (some ⟨b506, 0, none⟩))), (4, vI 0), (9, vB (!decide (a1.fRoom = a0.froom))), (22, vB t514), (27, vB t517), (34, vB (!decide (a1.fThread = (⟨#[]⟩ : ByteArray))))]) (fun p520 : Unit => [blk b506 59 (Event.enc a1), blk b505 82 [eq p0_.1], DDag.O p0_ a0] ++ F) (fun p520 H => ?_) (fun H => ?_)
 rotate_left
 ·
  refine WP.seq <| rg 3 0 <| fb rfl trivial rfl fa59_3 <| ld 2 rfl trivial rfl sc9 rfl rfl <| bn0 rfl rfl rfl run_sne <| .fin <| cd H rfl (fun _ H => ?_) (fun _ H => ?_)
  rotate_left
  ·
   refine WP.skip ?_
   replace H := Gets.out H
   refine ng (DDag.shut (p := p0_) (m := a0) (g507.1, g507.2) h508 (pm 4 [0,1,2,3])) fun _ _ => ?_
   refine ng (sg 3 [1,2,0] 0) fun _ _ => ?_
   exact jn () H
  refine WP.seq <| wg (mpo_opn 1 rfl) fun z545 h546 => ?_
  refine dg Tryz.checked.mixed 8 0 <| ld 4 rfl trivial rfl sc82 rfl rfl <| Dv.nilpp h508 rfl trivial rfl <| fp h508 rfl trivial rfl fa110_1 <| ld 2 rfl trivial rfl sc108 rfl rfl <| fb rfl trivial rfl fa59_3 <| ld 3 rfl trivial rfl sc9 rfl rfl <| Dv.mlv nilP rfl trivial rfl (mem_at 0 rfl) rfl Tryz.underlying108 (keyOk_str Tryz.underlying9) z111 (fun _ => rfl) <| as0 rfl rfl <| .fin <| WP.seq <| WP.seq <| rg 2 0 <| mv0 rfl rfl <| Dv.pm0 (pm_nil h546 rfl) rfl trivial rfl rfl Tryz.underlying111 <| .fin <| cd H rfl (fun _ H => ?_) (fun _ H => ?_)
  ·
   refine WP.seq <| rg 1 0 <| as0 rfl rfl <| .fin <| wg (mpo_shut h546 rfl (pm 5 [0,1,2,3,4])) fun _ _ => ?_
   refine wg (DDag.shut (p := p0_) (m := a0) (g507.1, g507.2) h508 (pm 4 [1,0,2,3])) fun _ _ => ?_
   replace H := Gets.outr H
   obtain rfl := Gets.out H
   exact rt i2 rfl () 3 [1,2,0] 2 (.cons (res_tmp rfl) .nil)
  refine WP.skip <| WP.seq <| rg 14 0 <| mv0 rfl rfl <| gr H fun g548 H => vg (mpo_foc h546 rfl g548 (pm 5 [1,0,2,3,4])) fun _ _ => ?_
  refine Dv.nilA DNode.nn rfl trivial rfl (mem_at 0 rfl) <| vg (DNode.opn 0 rfl) fun g549 h550 => ?_
  refine fp h550 rfl trivial rfl fa113_0 <| fb rfl trivial rfl fa59_3 <| ld 0 rfl trivial rfl sc9 rfl rfl <| bn0 rfl rfl rfl run_sne <| mv0 rfl rfl ?_
  cases c551 : !decide (((((mget a0.fnodes a1.fThread).getD default).fe).fThread) = (⟨#[]⟩ : ByteArray))
  rotate_left
  ·
   replace H := Gets.ct H c551
   refine sk rfl rfl <| sk rfl rfl <| sk rfl rfl <| sk rfl rfl <| sk rfl rfl <| sk rfl rfl <| pt0 rfl rfl rfl <| .fin <| WP.cond rfl (fun _ => ?_) nofun
   refine WP.seq <| rg 1 0 <| as0 rfl rfl <| .fin <| wg (DNode.shut (p := ((mget (zipK a0.fnodes z545) a1.fThread).getD nilP)) (m := (mget a0.fnodes a1.fThread).getD default) g549 h550 (pm 6 [0,1,2,3,4,5])) fun _ _ => ?_
   refine wg (mpo_unf0 h546 rfl g548 (pm 6 [0,1,2,3,4,5])) fun _ _ => ?_
   refine wg (mpo_shut h546 rfl (pm 5 [1,0,2,3,4])) fun _ _ => ?_
   refine wg (DDag.shut (p := p0_) (m := a0) (g507.1, g507.2) h508 (pm 4 [1,0,2,3])) fun _ _ => ?_
   replace H := Gets.outr H
   obtain rfl := Gets.out H
   exact rt i2 rfl () 3 [1,2,0] 2 (.cons (res_tmp rfl) .nil)
  replace H := Gets.cf H c551
  refine mvg rfl rfl rfl <| Dv.nilpp h550 rfl (gg rfl) rfl <| fp h550 rfl (gg rfl) rfl fa113_0 <| fb rfl (gg rfl) rfl fa59_5 <| ld 0 rfl (gg rfl) rfl sc3 rfl rfl <| bng rfl rfl rfl rfl run_ne <| pf0 rfl rfl rfl <| .fin <| cd H rfl (fun _ H => ?_) (fun _ H => ?_)
  rotate_left
  ·
   refine WP.skip ?_
   replace H := Gets.out H
   refine ng (DNode.shut (p := ((mget (zipK a0.fnodes z545) a1.fThread).getD nilP)) (m := (mget a0.fnodes a1.fThread).getD default) g549 h550 (pm 6 [0,1,2,3,4,5])) fun _ _ => ?_
   refine ng (mpo_unf0 h546 rfl g548 (pm 6 [0,1,2,3,4,5])) fun _ _ => ?_
   refine ng (mpo_shut h546 rfl (pm 5 [1,0,2,3,4])) fun _ _ => ?_
   refine ng (DDag.shut (p := p0_) (m := a0) (g507.1, g507.2) h508 (pm 4 [1,0,2,3])) fun _ _ => ?_
   refine ng (sg 3 [1,2,0] 0) fun _ _ => ?_
   exact jn () H
  refine WP.seq <| rg 1 0 <| as0 rfl rfl <| .fin <| wg (DNode.shut (p := ((mget (zipK a0.fnodes z545) a1.fThread).getD nilP)) (m := (mget a0.fnodes a1.fThread).getD default) g549 h550 (pm 6 [0,1,2,3,4,5])) fun _ _ => ?_
  refine wg (mpo_unf0 h546 rfl g548 (pm 6 [0,1,2,3,4,5])) fun _ _ => ?_
  refine wg (mpo_shut h546 rfl (pm 5 [1,0,2,3,4])) fun _ _ => ?_
  refine wg (DDag.shut (p := p0_) (m := a0) (g507.1, g507.2) h508 (pm 4 [1,0,2,3])) fun _ _ => ?_
  replace H := Gets.outr H
  obtain rfl := Gets.out H
  exact rt i2 rfl () 3 [1,2,0] 2 (.cons (res_tmp rfl) .nil)
 refine WP.seq <| rg 5 8 <| lds 0 rfl trivial rfl sg59 rfl rfl <| el H fun t521 h522 H => cl rfl cal97 rfl (dag_own.c h522) <| Dv.bld (css := [Event.enc t521]) rfl trivial Tryz.underlying113 pl113 z113 rfl ⟨(cells_agg (Event.K.one _)), trivial⟩ rfl rfl <| Dv.box rfl trivial rfl cA nofun fun b523 => as0 rfl rfl <| .fin <| WP.seqn H id (fun p524 : Int × Bool × Int × DDag => [(0, eq p0_.1), (1, agg (Event.enc a1)), (2, eq (.pointer (some ⟨b505, 0, none⟩))), (3, eq (.pointer (some ⟨b506, 0, none⟩))), (4, vI 0), (6, eq (.pointer (some ⟨b523, 0, none⟩))), (9, vB (!decide (a1.fRoom = a0.froom))), (22, vB t514), (27, vB t517), (34, vB (!decide (a1.fThread = (⟨#[]⟩ : ByteArray)))), (63, sl strK a1.fParents), (64, vI (a1.fParents.length : Int)), (65, vI p524.1), (66, vB p524.2.1)]) (fun p524 : Int × Bool × Int × DDag => [blk b523 113 [vS t521.fID, vS t521.fRoom, sl strK t521.fParents, vS t521.fThread, vS t521.fUser, vI t521.fDoes, vI p524.2.2.1, vB false], blk b506 59 (Event.enc a1), blk b505 82 [eq p0_.1], DDag.O p0_ p524.2.2.2] ++ F) (fun p524 H => ?_) (fun H => ?_)
 ·
  refine WP.seq <| wg (DDag.opn 3 rfl) fun g525 h526 => ?_
  refine wg (DNode.shut (p := (⟨.pointer (some ⟨b523, 0, none⟩), rfl⟩ : OV)) (m := (⟨t521, p524.2.2.1, false⟩ : DNode)) b523 rfl (pm 5 [2,0,1,3,4])) fun _ _ => ?_
  refine wg (mpo_opn 2 rfl) fun z527 h528 => ?_
  refine dg Tryz.checked.mixed 8 128 <| ld 5 rfl trivial rfl sc82 rfl rfl <| Dv.nilpp h526 rfl trivial rfl <| fp h526 rfl trivial rfl fa110_1 <| ld 3 rfl trivial rfl sc108 rfl rfl <| fb rfl trivial rfl fa59_0 <| ld 4 rfl trivial rfl sc9 rfl rfl <| mv0 rfl rfl <| Dv.mup (vp := fun p : OV => eq p.1) (jj := 0) (⟨.pointer (some ⟨b523, 0, none⟩), rfl⟩ : OV) rfl trivial rfl rfl rfl rfl Tryz.underlying108 (keyOk_str Tryz.underlying9) (fun _ => pend_bits (by kernel_rfl)) <| .fin <| WP.seq <| rg 1 0 <| as0 rfl rfl <| .fin <| wg (mpo_add DNode.nn h528 rfl (pm 6 [0,1,2,3,4,5])) fun _ _ => ?_
  refine wg (DDag.shut (p := p0_) (m := (⟨p524.2.2.2.froom, mput p524.2.2.2.fnodes a1.fID (⟨t521, p524.2.2.1, false⟩ : DNode)⟩ : DDag)) (g525.1, g525.2) h526 (pm 4 [1,0,2,3])) fun _ _ => ?_
  obtain rfl := Gets.out H
  exact rt i2 rfl () 3 [1,2,0] 2 (.cons (res_tmp rfl) .nil)
 refine WP.seq <| rg 4 0 <| fb rfl trivial rfl fa59_2 <| ld 1 rfl trivial rfl sc35 rfl rfl <| Dv.lenl rfl trivial rfl Tryz.underlying35 <| mv0 rfl rfl <| .fin <| WP.block <| wg (sg 4 [0,1,2,3] 0) fun _ _ => ?_
 refine lp (fun j_ (p543 : Int × Int × DDag) => dag_Dag_Add.l0 k a1 j_ p543.1 p543.2.1 p543.2.2) (0, 0, a0) H (fun p543 => [(0, eq p0_.1), (1, agg (Event.enc a1)), (2, eq (.pointer (some ⟨b505, 0, none⟩))), (3, eq (.pointer (some ⟨b506, 0, none⟩))), (4, vI 0), (6, eq (.pointer (some ⟨b523, 0, none⟩))), (9, vB (!decide (a1.fRoom = a0.froom))), (22, vB t514), (27, vB t517), (34, vB (!decide (a1.fThread = (⟨#[]⟩ : ByteArray)))), (63, sl strK a1.fParents), (64, vI (a1.fParents.length : Int)), (65, vI p543.1)]) (fun p543 => [blk b523 113 [vS t521.fID, vS t521.fRoom, sl strK t521.fParents, vS t521.fThread, vS t521.fUser, vI t521.fDoes, vI p543.2.1, vB false], blk b506 59 (Event.enc a1), blk b505 82 [eq p0_.1], DDag.O p0_ p543.2.2] ++ F) ?_
 rintro j_ ⟨x529, x530, x531⟩ H
 rcases j_ with _ | j542
 ·
  exact (Gets.no H).elim
 replace H : Gets (dag_Dag_Add.l0 k a1 (j542 + 1) x529 x530 x531) _ := H
 rw [dag_Dag_Add.l0] at H
 refine WP.seq <| rg 1 0 <| bn0 rfl rfl rfl run_lt <| .fin <| WP.seq <| cd H rfl (fun _ H => ?_) (fun _ H => ?_)
 rotate_left
 ·
  refine WP.exit ?_
  replace H := Gets.out H
  exact jn (x529, decide (x529 < (a1.fParents.length : Int)), x530, x531) H
 refine WP.skip <| WP.seq <| WP.block <| WP.seq <| rg 3 0 <| gr H fun g533 H => Dv.ixr rfl trivial rfl rfl Tryz.underlying35 Tryz.underlying9 c9 g533.1 g533.2 <| ldR rfl trivial rfl sc9 rfl <| as0 rfl rfl <| .fin <| WP.seq <| wg (DDag.opn 3 rfl) fun g534 h535 => ?_
 refine wg (mpo_opn 1 rfl) fun z536 h537 => ?_
 refine gr H fun g538 H => wg (mpo_foc h537 rfl g538 (pm 6 [1,0,2,3,4,5])) fun _ _ => ?_
 refine wg (DNode.opn 0 rfl) fun g539 h540 => ?_
 refine dg Tryz.checked.mixed 19 262144 <| mv0 rfl rfl <| mv0 rfl rfl <| Dv.nilp rfl trivial rfl <| fb rfl trivial rfl fa113_1 <| ld 4 rfl trivial rfl sc3 rfl rfl <| ld 6 rfl trivial rfl sc82 rfl rfl <| Dv.nilpp h535 rfl trivial rfl <| fp h535 rfl trivial rfl fa110_1 <| ld 3 rfl trivial rfl sc108 rfl rfl <| mv0 rfl rfl <| Dv.mlv nilP rfl trivial rfl (mem_at 2 rfl) rfl Tryz.underlying108 (keyOk_str Tryz.underlying9) z111 (fun _ => rfl) <| Dv.nilpp h540 rfl trivial rfl <| fp h540 rfl trivial rfl fa113_1 <| ld 0 rfl trivial rfl sc3 rfl rfl <| bn0 rfl rfl rfl run_add <| Dv.maxi rfl trivial rfl rfl <| Dv.nilp rfl trivial rfl <| fb rfl trivial rfl fa113_1 <| sx 4 rfl trivial rfl rfl cE sz3 rfl rfl rfl pB ?_
 refine .fin <| rg 9 256 <| ld 6 rfl trivial rfl sc82 rfl rfl <| Dv.nilpp h535 rfl trivial rfl <| fp h535 rfl trivial rfl fa110_1 <| ld 3 rfl trivial rfl sc108 rfl rfl <| mv0 rfl rfl <| Dv.mlv nilP rfl trivial rfl (mem_at 2 rfl) rfl Tryz.underlying108 (keyOk_str Tryz.underlying9) z111 (fun _ => rfl) <| Dv.nilpp h540 rfl trivial rfl <| fp h540 rfl trivial rfl fa113_2 <| sx 0 rfl trivial rfl rfl cE sz4 rfl rfl rfl nofun ?_
 refine .fin <| rg 2 0 <| bn0 rfl rfl rfl run_add <| mv0 rfl rfl <| .fin <| ng (DNode.shut (p := ((mget (zipK x531.fnodes z536) (strK.at a1.fParents x529)).getD nilP)) (m := (⟨((mget x531.fnodes (strK.at a1.fParents x529)).getD default).fe, ((mget x531.fnodes (strK.at a1.fParents x529)).getD default).fdepth, true⟩ : DNode)) g539 h540 (pm 7 [0,1,2,3,4,5,6])) fun _ _ => ?_
 refine ng (mpo_unf h537 rfl g538 (pm 7 [0,1,2,3,4,5,6])) fun _ h541 => ?_
 refine ng (mpo_shut h541 (zipK_put' rfl g538) (pm 6 [1,0,2,3,4,5])) fun _ _ => ?_
 refine ng (DDag.shut (p := p0_) (m := (⟨x531.froom, mput x531.fnodes (strK.at a1.fParents x529) (⟨((mget x531.fnodes (strK.at a1.fParents x529)).getD default).fe, ((mget x531.fnodes (strK.at a1.fParents x529)).getD default).fdepth, true⟩ : DNode)⟩ : DDag)) (g534.1, g534.2) h535 (pm 5 [1,0,2,3,4])) fun _ _ => ?_
 refine ng (sg 4 [1,2,3,0] 0) fun _ _ => ?_
 exact bk j542 (w64 (x529 + 1), max x530 (w64 ((((mget x531.fnodes (strK.at a1.fParents x529)).getD default).fdepth) + 1)), (⟨x531.froom, mput x531.fnodes (strK.at a1.fParents x529) (⟨((mget x531.fnodes (strK.at a1.fParents x529)).getD default).fe, ((mget x531.fnodes (strK.at a1.fParents x529)).getD default).fdepth, true⟩ : DNode)⟩ : DDag)) H
theorem view_View_Add.c {k : Nat} {a0 : VView} {a1 : Event} {p0_ : OV} {r : Int × VView} (h : view_View_Add.f k a0 a1 = some r) : Tr Tryz.prog 33 [eq p0_.1, agg (Event.enc a1)] [VView.O p0_ a0] (γ := Unit) (fun _ => True) (fun g => vI r.1) (fun g => [VView.O p0_ r.2]) := by
 unfold view_View_Add.f at h
 refine Tr.body Tryz.func33 (c := _) rfl Tryz.ntmps33 (Nat.le_of_ble_eq_true rfl) fun R0 F => ?_
 replace h := Gets.of h
 have H := h
 clear h
 refine WP.seq <| rg 2 1 <| Dv.box rfl trivial rfl cA nofun fun b554 => as0 rfl rfl <| .fin <| WP.seq <| rg 5 8 <| mv0 rfl rfl <| fb rfl trivial rfl fa59_1 <| ld 0 rfl trivial rfl sc9 rfl rfl <| vg (VView.opn 1 rfl) fun g555 h556 => ?_
 refine el H fun t557 h558 H => cx 3 [0,1,2] cal65 (Tr.weak (view_View_room.c h558 (b0_ := g555.1) (v0_0 := g555.2)) (.cons (wk_ptr h556) (.cons wk_id .nil))) nofun fun v559 _ => ?_
 refine as0 rfl rfl <| .fin <| WP.seq <| WP.seq <| rg 4 4 <| mv0 rfl rfl <| lds 3 rfl trivial rfl sg59 rfl rfl <| el H fun t560 h561 H => cx 4 [2,0,1,3] cal66 (dag_Dag_Add.c h561 (p0_ := v559)) nofun fun _ _ => ?_
 refine as0 rfl rfl <| .fin <| WP.seq <| rg 2 0 <| mv0 rfl rfl <| bn0 rfl rfl rfl run_ne <| .fin <| cd H rfl (fun _ H => ?_) (fun _ H => ?_)
 ·
  refine WP.seq <| rg 2 0 <| mv0 rfl rfl <| as0 rfl rfl <| .fin <| wg (mpl_back (pm 4 [2,0,1,3])) fun _ _ => ?_
  refine wg (VView.shut (p := p0_) (m := (⟨mres a0.fdags a1.fRoom t560.2⟩ : VView)) (g555.1, g555.2) h556 (pm 3 [1,0,2])) fun _ _ => ?_
  obtain rfl := Gets.out H
  exact rt i2 rfl () 2 [1,0] 1 (.cons (res_tmp rfl) .nil)
 refine WP.skip <| WP.seq <| wg (mpl_opn 2 rfl) fun z563 h564 => ?_
 refine dg Tryz.checked.mixed 8 128 <| mv0 rfl rfl <| Dv.nilpp h556 rfl trivial rfl <| fp h556 rfl trivial rfl fa81_0 <| ld 3 rfl trivial rfl sc79 rfl rfl <| fb rfl trivial rfl fa59_1 <| ld 4 rfl trivial rfl sc9 rfl rfl <| mv0 rfl rfl <| Dv.mup (vp := fun p : OV => eq p.1) (jj := 0) v559 rfl trivial rfl rfl rfl rfl Tryz.underlying79 (keyOk_str Tryz.underlying9) (fun _ => pend_bits (by kernel_rfl)) <| .fin <| WP.seq <| rg 1 0 <| as0 rfl rfl <| .fin <| wg (mpl_add DDag.nn h564 (pm 5 [0,1,2,3,4])) fun _ _ => ?_
 refine wg (VView.shut (p := p0_) (m := (⟨mput a0.fdags a1.fRoom t560.2⟩ : VView)) (g555.1, g555.2) h556 (pm 3 [1,0,2])) fun _ _ => ?_
 obtain rfl := Gets.out H
 exact rt i2 rfl () 2 [1,0] 1 (.cons (res_tmp rfl) .nil)
theorem concourseref10_Of.c {k : Nat} {a0 : RView} {a1 : ByteArray} {r : RDag} (h : concourseref10_Of.f k a0 a1 = some r) : Pt Tryz.prog 61 [agg (RView.enc a0), vS a1] (agg (RDag.enc r)) := by
 unfold concourseref10_Of.f at h
 refine (Tr.body Tryz.func61 (c := _) rfl Tryz.ntmps61 (Nat.le_of_ble_eq_true rfl) fun R0 F => ?_).pt
 replace h := Gets.of h
 have H := h
 clear h
 refine WP.seq <| rg 2 3 <| Dv.box rfl trivial rfl cA nofun fun b565 => al rfl trivial zc74 nofun fun b566 => .fin <| WP.seqr H id (fun p567 : Int × Bool => [(0, agg (RView.enc a0)), (1, vS a1), (2, eq (.pointer (some ⟨b565, 0, none⟩))), (4, eq (.pointer (some ⟨b566, 0, none⟩))), (5, vI p567.1), (10, vB p567.2)]) (fun p567 : Int × Bool => [blk b566 74 [vS (⟨#[]⟩ : ByteArray), eq (.slice none 0 0)], blk b565 28 (RView.enc a0)] ++ F) (fun p567 H => ?_) (fun H => ?_)
 ·
  refine WP.seq <| rg 3 4 <| mv0 rfl rfl <| Dv.bld (css := [[vS a1]]) rfl trivial Tryz.underlying74 pl74 z74 rfl ⟨(cells_one (one_eq rfl)), trivial⟩ rfl rfl <| sx 0 rfl trivial rfl rfl cA sz74 rfl rfl rfl nofun ?_
  refine .fin ?_
  obtain rfl := Gets.out H
  exact rt i2 rfl () 2 [0,1] 2 (.cons (res_wk (res_cells rfl Tryz.underlying74 rfl c74 (mem_at 0 rfl) rfl) (wk_agg (.cons wk_id (.cons wk_nil .nil)))) .nil)
 refine WP.seq <| rg 1 0 <| as0 rfl rfl <| .fin <| WP.block <| wg (sg 2 [0,1] 0) fun _ _ => ?_
 refine lp (fun j_ (p574 : Int) => concourseref10_Of.l0 k a0 a1 j_ p574) 0 H (fun p574 => [(0, agg (RView.enc a0)), (1, vS a1), (2, eq (.pointer (some ⟨b565, 0, none⟩))), (4, eq (.pointer (some ⟨b566, 0, none⟩))), (5, vI p574)]) (fun p574 => [blk b566 74 [vS (⟨#[]⟩ : ByteArray), eq (.slice none 0 0)], blk b565 28 (RView.enc a0)] ++ F) ?_
 rintro j_ x568 H
 rcases j_ with _ | j573
 ·
  exact (Gets.no H).elim
 replace H : Gets (concourseref10_Of.l0 k a0 a1 (j573 + 1) x568) _ := H
 rw [concourseref10_Of.l0] at H
 refine WP.seq <| WP.seq <| rg 5 0 <| mv0 rfl rfl <| fb rfl trivial rfl fa28_0 <| ld 1 rfl trivial rfl sc26 rfl rfl <| Dv.lenl rfl trivial rfl Tryz.underlying26 <| bn0 rfl rfl rfl run_lt <| .fin <| cd H rfl (fun _ H => ?_) (fun _ H => ?_)
 rotate_left
 ·
  refine WP.exit ?_
  replace H := Gets.out H
  exact jn (x568, decide (x568 < (a0.fD.length : Int))) H
 refine WP.skip <| WP.seq <| WP.block <| WP.seq <| rg 8 0 <| fb rfl trivial rfl fa28_0 <| ld 1 rfl trivial rfl sc26 rfl rfl <| mv0 rfl rfl <| gr H fun g570 H => Dv.ixr rfl trivial rfl rfl Tryz.underlying26 Tryz.underlying74 c74 g570.1 g570.2 <| fr rfl trivial rfl fa74_0 rfl <| ldR rfl trivial rfl sc9 rfl <| mv0 rfl rfl <| bn0 rfl rfl rfl run_seq <| .fin <| cd H rfl (fun _ H => ?_) (fun _ H => ?_)
 rotate_left
 ·
  exact WP.skip <| rg 3 0 <| mv0 rfl rfl <| bn0 rfl rfl rfl run_add <| as0 rfl rfl <| .fin <| bk j573 (w64 (x568 + 1)) H
 refine WP.seq <| rg 6 32 <| fb rfl trivial rfl fa28_0 <| ld 1 rfl trivial rfl sc26 rfl rfl <| mv0 rfl rfl <| gr H fun g572 H => Dv.ixr rfl trivial rfl rfl Tryz.underlying26 Tryz.underlying74 c74 g572.1 g572.2 <| ldsR rfl trivial rfl sg74 rfl <| sx 0 rfl trivial rfl rfl cA sz74 rfl rfl rfl nofun ?_
 refine .fin ?_
 replace H := Gets.outr H
 obtain rfl := Gets.out H
 exact rt i2 rfl () 2 [0,1] 2 (.cons (res_cells rfl Tryz.underlying74 rfl c74 (mem_at 0 rfl) rfl) .nil)
theorem concourseref10_Add.c {k : Nat} {a0 : RView} {a1 : Event} {r : RView × Int} (h : concourseref10_Add.f k a0 a1 = some r) : Pt Tryz.prog 67 [agg (RView.enc a0), agg (Event.enc a1)] (tup [agg (RView.enc r.1), vI r.2]) := by
 unfold concourseref10_Add.f at h
 refine (Tr.body Tryz.func67 (c := _) rfl Tryz.ntmps67 (Nat.le_of_ble_eq_true rfl) fun R0 F => ?_).pt
 replace h := Gets.of h
 have H := h
 clear h
 refine WP.seq <| rg 4 7 <| Dv.box rfl trivial rfl cA nofun fun b575 => Dv.box rfl trivial rfl cA nofun fun b576 => al rfl trivial zc28 nofun fun b577 => as0 rfl rfl <| .fin <| WP.seq <| dg Tryz.checked.mixed 12 1536 <| lds 2 rfl trivial rfl sg28 rfl rfl <| fb rfl trivial rfl fa59_1 <| ld 1 rfl trivial rfl sc9 rfl rfl <| el H fun t578 h579 H => cl rfl cal61 rfl (concourseref10_Of.c h579) <| lds 1 rfl trivial rfl sg59 rfl rfl <| el H fun t580 h581 H => cl rfl cal92 rfl (concourseref07_Add.c h581) <| mv0 rfl rfl <| ex0 rfl trivial rfl rfl <| ex0 rfl trivial rfl rfl <| al rfl trivial zc74 (fun _ => (pend_in (fun _ => trivial) (pend_in (fun _ => trivial) (pend_in (fun _ => trivial) (pend_in (fun _ => trivial) (pend_in (fun _ => (mem_at 2 rfl)) (pend_in (fun _ => trivial) (pend_in (fun _ => (mem_at 2 rfl)) (pend_in (fun _ => trivial) (pend_in (fun _ => (mem_at 3 rfl)) pend_nil)))))))))) fun b582 => sx 0 rfl trivial rfl rfl cA sz74 rfl rfl rfl (fun _ => (pend_in (fun _ => trivial) (pend_by (by kernel_rfl) (pend_by (by kernel_rfl) (pend_by (by kernel_rfl) (pend_by (by kernel_rfl) (pend_by (by kernel_rfl) (pend_by (by kernel_rfl) (pend_by (by kernel_rfl) (pend_by (by kernel_rfl) pend_nil)))))))))) ?_
 refine as0 rfl rfl <| .fin <| WP.seq <| WP.seq <| rg 2 0 <| mv0 rfl rfl <| bn0 rfl rfl rfl run_ne <| .fin <| cd H rfl (fun _ H => ?_) (fun _ H => ?_)
 ·
  refine WP.seq <| rg 4 4 <| lds 3 rfl trivial rfl sg28 rfl rfl <| mv0 rfl rfl <| sx 1 rfl trivial rfl rfl cA sz28 rfl rfl rfl nofun ?_
  refine as0 rfl rfl <| .fin ?_
  obtain rfl := Gets.out H
  exact rt i2 rfl () 4 [0,1,2,3] 4 (.cons (res_cells rfl Tryz.underlying28 rfl c28 (mem_at 1 rfl) rfl) (.cons (res_tmp rfl) .nil))
 refine WP.skip <| WP.seq <| rg 1 0 <| as0 rfl rfl <| .fin <| WP.seq <| rg 1 0 <| as0 rfl rfl <| .fin <| WP.seqn H (fun q610 : (Bool × Int × Bool × (List RDag)) × OV => q610.1) (fun q610 : (Bool × Int × Bool × (List RDag)) × OV => [(0, agg (RView.enc a0)), (1, agg (Event.enc a1)), (2, eq (.pointer (some ⟨b575, 0, none⟩))), (3, eq (.pointer (some ⟨b576, 0, none⟩))), (4, eq (.pointer (some ⟨b577, 0, none⟩))), (5, vI 0), (6, eq (.pointer (some ⟨b582, 0, none⟩))), (7, vI t580.2), (8, eq q610.2.1), (9, vB q610.1.1), (10, vI q610.1.2.1), (21, vB (t580.2 != 0)), (28, vB q610.1.2.2.1)]) (fun q610 : (Bool × Int × Bool × (List RDag)) × OV => [blk b582 74 (RDag.enc t580.1), blk b577 28 [eq (.slice none 0 0)], blk b576 59 (Event.enc a1), blk b575 28 (RView.enc a0), own RDag.K q610.2.1 q610.1.2.2.2] ++ F) (fun q610 H => ?_) (fun H => ?_)
 ·
  obtain ⟨p584, v585⟩ := q610
  refine WP.seq <| WP.seq <| rg 2 0 <| mv0 rfl rfl <| un0 rfl rfl (run_not _) <| .fin <| cd H rfl (fun _ H => ?_) (fun _ H => ?_)
  rotate_left
  ·
   refine WP.skip <| WP.seq <| rg 4 4 <| mv0 rfl rfl <| Dv.bld (css := [[eq v585.1]]) rfl trivial Tryz.underlying28 pl28 z28 rfl ⟨(cells_one one_ov), trivial⟩ rfl rfl <| sx 1 rfl trivial rfl rfl cA sz28 rfl rfl rfl nofun ?_
   refine as0 rfl rfl <| .fin <| WP.gh (gh_frz (E' := [(4, eq (.pointer (some ⟨b577, 0, none⟩))), (5, vI 0)]) (l' := [blk b582 74 (RDag.enc t580.1), blk b577 28 [sl RDag.K p584.2.2.2], blk b576 59 (Event.enc a1), blk b575 28 (RView.enc a0)] ++ F) 4 rfl (cve_cons rfl cv_id (cve_cons rfl cv_id cve_nil)) (all2_app (.cons cva_id (.cons (cva_blk (.cons cv_eq .nil)) (.cons cva_id (.cons cva_id .nil)))) fun _ => cva_id)) (fun _ _ => ?_)
   obtain rfl := Gets.out H
   exact rt i2 rfl () 4 [0,1,2,3] 4 (.cons (res_cells rfl Tryz.underlying28 rfl c28 (mem_at 1 rfl) rfl) (.cons (res_tmp rfl) .nil))
  refine rg 5 8 <| mv0 rfl rfl <| lds 0 rfl trivial rfl sg74 rfl rfl <| Dv.lit RDag.K ([t580.1] : List RDag) (css := [RDag.enc t580.1]) rfl trivial Tryz.underlying26 Tryz.underlying74 c74 z74 rfl (by decide) (by decide) rfl ⟨(cells_agg (RDag.K.one _)), trivial⟩ rfl rfl rfl <| gr H fun g587 H => ap RDag.K 4 ([t580.1] : List RDag) src_sl Tryz.underlying26 (.inr ⟨_, Tryz.underlying26⟩) inf74 g587 nofun fun v588 => ?_
  refine as0 rfl rfl <| .fin <| WP.seq <| rg 4 4 <| mv0 rfl rfl <| Dv.bld (css := [[eq v588.1]]) rfl trivial Tryz.underlying28 pl28 z28 rfl ⟨(cells_one one_ov), trivial⟩ rfl rfl <| sx 1 rfl trivial rfl rfl cA sz28 rfl rfl rfl nofun ?_
  refine as0 rfl rfl <| .fin <| WP.gh (gh_frz (E' := [(4, eq (.pointer (some ⟨b577, 0, none⟩))), (5, vI 0)]) (l' := [blk b582 74 (RDag.enc t580.1), blk b577 28 [sl RDag.K (p584.2.2.2 ++ ([t580.1] : List RDag))], blk b576 59 (Event.enc a1), blk b575 28 (RView.enc a0)] ++ F) 4 rfl (cve_cons rfl cv_id (cve_cons rfl cv_id cve_nil)) (all2_app (.cons cva_id (.cons (cva_blk (.cons cv_eq .nil)) (.cons cva_id (.cons cva_id .nil)))) fun _ => cva_id)) (fun _ _ => ?_)
  obtain rfl := Gets.out H
  exact rt i2 rfl () 4 [0,1,2,3] 4 (.cons (res_cells rfl Tryz.underlying28 rfl c28 (mem_at 1 rfl) rfl) (.cons (res_tmp rfl) .nil))
 refine WP.seq <| rg 1 0 <| as0 rfl rfl <| .fin <| WP.block <| wg (st_nil RDag.K none) fun _ _ => ?_
 refine wg (sg 5 [1,2,3,4,0] 0) fun _ _ => ?_
 refine lp (fun j_ (p609 : Bool × Int × (List RDag) × OV) => concourseref10_Add.l0 k a0 a1 t580 j_ p609.1 p609.2.1 p609.2.2.1) (false, 0, ([] : List RDag), nilV) H (fun p609 => [(0, agg (RView.enc a0)), (1, agg (Event.enc a1)), (2, eq (.pointer (some ⟨b575, 0, none⟩))), (3, eq (.pointer (some ⟨b576, 0, none⟩))), (4, eq (.pointer (some ⟨b577, 0, none⟩))), (5, vI 0), (6, eq (.pointer (some ⟨b582, 0, none⟩))), (7, vI t580.2), (8, eq p609.2.2.2.1), (9, vB p609.1), (10, vI p609.2.1), (21, vB (t580.2 != 0))]) (fun p609 => [blk b582 74 (RDag.enc t580.1), blk b577 28 [eq (.slice none 0 0)], blk b576 59 (Event.enc a1), blk b575 28 (RView.enc a0), own RDag.K p609.2.2.2.1 p609.2.2.1] ++ F) ?_
 rintro j_ ⟨x589, x590, x591, v592⟩ H
 rcases j_ with _ | j608
 ·
  exact (Gets.no H).elim
 replace H : Gets (concourseref10_Add.l0 k a0 a1 t580 (j608 + 1) x589 x590 x591) _ := H
 rw [concourseref10_Add.l0] at H
 refine WP.seq <| WP.seq <| rg 5 0 <| mv0 rfl rfl <| fb rfl trivial rfl fa28_0 <| ld 3 rfl trivial rfl sc26 rfl rfl <| Dv.lenl rfl trivial rfl Tryz.underlying26 <| bn0 rfl rfl rfl run_lt <| .fin <| cd H rfl (fun _ H => ?_) (fun _ H => ?_)
 rotate_left
 ·
  refine WP.exit ?_
  replace H := Gets.out H
  exact jn ((x589, x590, decide (x590 < (a0.fD.length : Int)), x591), v592) H
 refine WP.skip <| WP.seq <| WP.block <| WP.seqn H (fun q607 : (Bool × Bool × (List RDag)) × OV => q607.1) (fun q607 : (Bool × Bool × (List RDag)) × OV => [(0, agg (RView.enc a0)), (1, agg (Event.enc a1)), (2, eq (.pointer (some ⟨b575, 0, none⟩))), (3, eq (.pointer (some ⟨b576, 0, none⟩))), (4, eq (.pointer (some ⟨b577, 0, none⟩))), (5, vI 0), (6, eq (.pointer (some ⟨b582, 0, none⟩))), (7, vI t580.2), (8, eq q607.2.1), (9, vB q607.1.1), (10, vI x590), (21, vB (t580.2 != 0)), (28, vB (decide (x590 < (a0.fD.length : Int)))), (43, vB q607.1.2.1)]) (fun q607 : (Bool × Bool × (List RDag)) × OV => [blk b582 74 (RDag.enc t580.1), blk b577 28 [eq (.slice none 0 0)], blk b576 59 (Event.enc a1), blk b575 28 (RView.enc a0), own RDag.K q607.2.1 q607.1.2.2] ++ F) (fun q607 H => ?_) (fun H => ?_)
 ·
  obtain ⟨p594, v595⟩ := q607
  refine WP.seq <| dg Tryz.checked.mixed 9 0 <| fb rfl trivial rfl fa28_0 <| ld 3 rfl trivial rfl sc26 rfl rfl <| mv0 rfl rfl <| gr H fun g596 H => Dv.ixr rfl trivial rfl rfl Tryz.underlying26 Tryz.underlying74 c74 g596.1 g596.2 <| fr rfl trivial rfl fa74_0 rfl <| ldR rfl trivial rfl sc9 rfl <| fb rfl trivial rfl fa59_1 <| ld 2 rfl trivial rfl sc9 rfl rfl <| bn0 rfl rfl rfl run_sne <| .fin <| cd H rfl (fun _ H => ?_) (fun _ H => ?_)
  rotate_left
  ·
   exact WP.skip <| rg 3 0 <| mv0 rfl rfl <| bn0 rfl rfl rfl run_add <| as0 rfl rfl <| .fin <| bk j608 (p594.1, w64 (x590 + 1), p594.2.2, v595) H
  refine rg 9 128 <| mv0 rfl rfl <| fb rfl trivial rfl fa28_0 <| ld 3 rfl trivial rfl sc26 rfl rfl <| mv0 rfl rfl <| gr H fun g598 H => Dv.ixr rfl trivial rfl rfl Tryz.underlying26 Tryz.underlying74 c74 g598.1 g598.2 <| ldsR rfl trivial rfl sg74 rfl <| Dv.lit RDag.K ([RDag.K.at a0.fD x590] : List RDag) (css := [RDag.enc (RDag.K.at a0.fD x590)]) rfl trivial Tryz.underlying26 Tryz.underlying74 c74 z74 rfl (by decide) (by decide) rfl ⟨(cells_agg (RDag.K.one _)), trivial⟩ rfl rfl rfl <| gr H fun g599 H => ap RDag.K 4 ([RDag.K.at a0.fD x590] : List RDag) src_sl Tryz.underlying26 (.inr ⟨_, Tryz.underlying26⟩) inf74 g599 nofun fun v600 => ?_
  exact as0 rfl rfl <| .fin <| rg 3 0 <| mv0 rfl rfl <| bn0 rfl rfl rfl run_add <| as0 rfl rfl <| .fin <| bk j608 (p594.1, w64 (x590 + 1), p594.2.2 ++ ([RDag.K.at a0.fD x590] : List RDag), v600) H
 refine WP.seq <| dg Tryz.checked.mixed 13 0 <| mv0 rfl rfl <| un0 rfl rfl (run_not _) <| mv0 rfl rfl ?_
 cases c601 : !x589
 ·
  replace H := Gets.cf H c601
  refine sk rfl rfl <| sk rfl rfl <| sk rfl rfl <| sk rfl rfl <| sk rfl rfl <| sk rfl rfl <| sk rfl rfl <| sk rfl rfl <| sk rfl rfl <| pf0 rfl rfl rfl <| .fin <| WP.cond rfl nofun (fun _ => ?_)
  refine WP.skip ?_
  replace H := Gets.out H
  exact jn ((x589, false, x591), v592) H
 replace H := Gets.ct H c601
 refine fb rfl (gg rfl) rfl fa59_1 <| ld 2 rfl (gg rfl) rfl sc9 rfl rfl <| fb rfl (gg rfl) rfl fa28_0 <| ld 3 rfl (gg rfl) rfl sc26 rfl rfl <| mvg rfl rfl rfl <| gr H fun g602 H => Dv.ixr rfl (gg rfl) rfl rfl Tryz.underlying26 Tryz.underlying74 c74 g602.1 g602.2 <| fr rfl (gg rfl) rfl fa74_0 rfl <| ldR rfl (gg rfl) rfl sc9 rfl <| bng rfl rfl rfl rfl run_sle <| pt0 rfl rfl rfl <| .fin <| cd H rfl (fun _ H => ?_) (fun _ H => ?_)
 rotate_left
 ·
  refine WP.skip ?_
  replace H := Gets.out H
  exact jn ((x589, !sLt ((RDag.K.at a0.fD x590).fRoom) a1.fRoom, x591), v592) H
 refine WP.seq <| rg 5 8 <| mv0 rfl rfl <| lds 0 rfl trivial rfl sg74 rfl rfl <| Dv.lit RDag.K ([t580.1] : List RDag) (css := [RDag.enc t580.1]) rfl trivial Tryz.underlying26 Tryz.underlying74 c74 z74 rfl (by decide) (by decide) rfl ⟨(cells_agg (RDag.K.one _)), trivial⟩ rfl rfl rfl <| gr H fun g604 H => ap RDag.K 4 ([t580.1] : List RDag) src_sl Tryz.underlying26 (.inr ⟨_, Tryz.underlying26⟩) inf74 g604 nofun fun v605 => ?_
 refine as0 rfl rfl <| .fin <| rg 1 0 <| as0 rfl rfl <| .fin ?_
 replace H := Gets.out H
 exact jn ((true, !sLt ((RDag.K.at a0.fD x590).fRoom) a1.fRoom, x591 ++ ([t580.1] : List RDag)), v605) H
theorem concourseref10_Build.c {k : Nat} {a0 : List Event} {r : RView} (h : concourseref10_Build.f k a0 = some r) : Pt Tryz.prog 34 [sl Event.K a0] (agg (RView.enc r)) := by
 unfold concourseref10_Build.f at h
 refine (Tr.body Tryz.func34 (c := _) rfl Tryz.ntmps34 (Nat.le_of_ble_eq_true rfl) fun R0 F => ?_).pt
 replace h := Gets.of h
 have H := h
 clear h
 refine WP.seq <| rg 1 1 <| al rfl trivial zc28 nofun fun b611 => .fin <| WP.seq <| rg 1 1 <| al rfl trivial zc28 nofun fun b612 => .fin <| WP.seqn H id (fun p613 : Int × Bool × (List RDag) => [(0, sl Event.K a0), (2, eq (.pointer (some ⟨b611, 0, none⟩))), (3, eq (.pointer (some ⟨b612, 0, none⟩))), (4, vI p613.1), (10, vB p613.2.1)]) (fun p613 : Int × Bool × (List RDag) => [blk b612 28 [sl RDag.K p613.2.2], blk b611 28 [eq (.slice none 0 0)]] ++ F) (fun p613 H => ?_) (fun H => ?_)
 ·
  refine WP.seq <| rg 2 2 <| lds 0 rfl trivial rfl sg28 rfl rfl <| sx 1 rfl trivial rfl rfl cA sz28 rfl rfl rfl nofun ?_
  refine .fin ?_
  obtain rfl := Gets.out H
  exact rt i2 rfl () 2 [0,1] 2 (.cons (res_cells rfl Tryz.underlying28 rfl c28 (mem_at 1 rfl) rfl) .nil)
 refine WP.seq <| rg 1 0 <| as0 rfl rfl <| .fin <| WP.block <| WP.gh (gh_wk (E' := [(0, sl Event.K a0), (2, eq (.pointer (some ⟨b611, 0, none⟩))), (3, eq (.pointer (some ⟨b612, 0, none⟩))), (4, vI 0)]) (l' := [blk b612 28 [sl RDag.K ([] : List RDag)], blk b611 28 [eq (.slice none 0 0)]] ++ F) (wke_cons rfl wk_id (wke_cons rfl wk_id (wke_cons rfl wk_id (wke_cons rfl wk_id wke_nil)))) (all2_app (.cons (wka_blk (.cons wk_nil .nil)) (.cons wka_id .nil)) fun _ => wka_id)) (fun _ _ => ?_)
 refine wg (sg 2 [0,1] 0) fun _ _ => ?_
 refine lp (fun j_ (p622 : Int × (List RDag)) => concourseref10_Build.l0 k a0 j_ p622.1 p622.2) (0, ([] : List RDag)) H (fun p622 => [(0, sl Event.K a0), (2, eq (.pointer (some ⟨b611, 0, none⟩))), (3, eq (.pointer (some ⟨b612, 0, none⟩))), (4, vI p622.1)]) (fun p622 => [blk b612 28 [sl RDag.K p622.2], blk b611 28 [eq (.slice none 0 0)]] ++ F) ?_
 rintro j_ ⟨x614, x615⟩ H
 rcases j_ with _ | j621
 ·
  exact (Gets.no H).elim
 replace H : Gets (concourseref10_Build.l0 k a0 (j621 + 1) x614 x615) _ := H
 rw [concourseref10_Build.l0] at H
 refine WP.seq <| WP.seq <| rg 4 0 <| mv0 rfl rfl <| mv0 rfl rfl <| Dv.lenl rfl trivial rfl Tryz.underlying54 <| bn0 rfl rfl rfl run_lt <| .fin <| cd H rfl (fun _ H => ?_) (fun _ H => ?_)
 rotate_left
 ·
  refine WP.exit ?_
  replace H := Gets.out H
  exact jn (x614, decide (x614 < (a0.length : Int)), x615) H
 refine WP.skip <| WP.seq <| WP.block <| WP.seq <| dg Tryz.checked.mixed 12 1536 <| lds 0 rfl trivial rfl sg28 rfl rfl <| mv0 rfl rfl <| mv0 rfl rfl <| gr H fun g617 H => Dv.ixr rfl trivial rfl rfl Tryz.underlying54 Tryz.underlying59 c59 g617.1 g617.2 <| ldsR rfl trivial rfl sg59 rfl <| el H fun t618 h619 H => cl rfl cal67 rfl (concourseref10_Add.c h619) <| mv0 rfl rfl <| ex0 rfl trivial rfl rfl <| ex0 rfl trivial rfl rfl <| al rfl trivial zc28 (fun _ => (pend_in (fun _ => trivial) (pend_in (fun _ => trivial) (pend_in (fun _ => trivial) (pend_in (fun _ => trivial) (pend_in (fun _ => trivial) (pend_in (fun _ => trivial) (pend_in (fun _ => trivial) (pend_in (fun _ => trivial) (pend_in (fun _ => (mem_at 1 rfl)) pend_nil)))))))))) fun b620 => sx 0 rfl trivial rfl rfl cA sz28 rfl rfl rfl (fun _ => (pend_in (fun _ => trivial) (pend_by (by kernel_rfl) (pend_by (by kernel_rfl) (pend_by (by kernel_rfl) (pend_by (by kernel_rfl) (pend_by (by kernel_rfl) (pend_by (by kernel_rfl) (pend_by (by kernel_rfl) (pend_by (by kernel_rfl) pend_nil)))))))))) ?_
 refine as0 rfl rfl <| .fin <| rg 2 2 <| lds 0 rfl trivial rfl sg28 rfl rfl <| sx 1 rfl trivial rfl rfl cA sz28 rfl rfl rfl nofun ?_
 refine .fin <| rg 3 0 <| mv0 rfl rfl <| bn0 rfl rfl rfl run_add <| as0 rfl rfl <| .fin <| ng (sg 3 [0,1,2] 1) fun _ _ => ?_
 exact bk j621 (w64 (x614 + 1), t618.1.fD) H
theorem concourselaw16_build.c {k : Nat} {a0 : List GMade} {a1 : List GMade} {r : (Option VView) × RView} (h : concourselaw16_build.f k a0 a1 = some r) : Tr Tryz.prog 9 [sl GMade.K a0, sl GMade.K a1] [] (γ := OV) (fun _ => True) (fun g => tup [eq g.1, agg (RView.enc r.2)]) (fun g => [optO VView.O g r.1]) := by
 unfold concourselaw16_build.f at h
 refine Tr.body Tryz.func9 (c := _) rfl Tryz.ntmps9 (Nat.le_of_ble_eq_true rfl) fun R0 F => ?_
 replace h := Gets.of h
 have H := h
 clear h
 refine WP.seq <| rg 2 2 <| as0 rfl rfl <| al rfl trivial zc28 nofun fun b623 => .fin <| WP.seq <| rg 4 4 <| mv0 rfl rfl <| mv0 rfl rfl <| el H fun t624 h625 H => cx 1 [0] cal31 (concourseref10_Made.c h625) nofun fun g626 _ => ?_
 refine as0 rfl rfl <| .fin <| WP.seq <| rg 2 1 <| el H fun t627 h628 H => cx 2 [0,1] cal32 (view_New.c h628) nofun fun g629 _ => ?_
 refine as0 rfl rfl <| .fin <| WP.seq <| WP.seq <| rg 2 0 <| mv0 rfl rfl <| Dv.peq0 VView.nn rfl trivial rfl rfl Tryz.underlying25 (mem_at 0 rfl) <| .fin <| WP.cond rfl nofun (fun _ => ?_)
 refine WP.skip <| WP.seqr H id (fun p631 : Int × Bool × VView => [(0, sl GMade.K a0), (1, sl GMade.K a1), (4, eq (.pointer none)), (5, eq (.pointer (some ⟨b623, 0, none⟩))), (6, eq g626.1), (7, eq g629.1), (8, vI p631.1), (14, vB false), (19, vB p631.2.1)]) (fun p631 : Int × Bool × VView => [blk b623 28 [eq (.slice none 0 0)], VView.O g629 p631.2.2, own Event.K g626.1 t624] ++ F) (fun p631 H => ?_) (fun H => ?_)
 ·
  refine WP.seq <| rg 5 16 <| mv0 rfl rfl <| mv0 rfl rfl <| Dv.gh (gh_frz (E' := [(0, sl GMade.K a0), (1, sl GMade.K a1), (4, eq (.pointer none)), (5, eq (.pointer (some ⟨b623, 0, none⟩))), (6, sl Event.K t624), (7, eq g629.1), (8, vI p631.1), (14, vB false), (19, vB p631.2.1), (30, eq g629.1), (31, sl Event.K t624)]) (l' := [blk b623 28 [eq (.slice none 0 0)], VView.O g629 p631.2.2] ++ F) 2 rfl (cve_cons rfl cv_id (cve_cons rfl cv_id (cve_cons rfl cv_id (cve_cons rfl cv_id (cve_cons rfl cv_eq (cve_cons rfl cv_id (cve_cons rfl cv_id (cve_cons rfl cv_id (cve_cons rfl cv_id (cve_cons rfl cv_id (cve_cons rfl cv_eq cve_nil))))))))))) (all2_app (.cons cva_id (.cons cva_id .nil)) fun _ => cva_id)) (fun _ _ => ?_)
  refine el H fun t632 h633 H => cl rfl cal34 rfl (concourseref10_Build.c h633) <| as0 rfl rfl <| sx 0 rfl trivial rfl rfl cA sz28 rfl rfl rfl nofun ?_
  refine .fin ?_
  obtain rfl := Gets.out H
  exact rt i2 rfl g629 2 [0,1] 1 (.cons (res_tmp rfl) (.cons (res_cells rfl Tryz.underlying28 rfl c28 (mem_at 0 rfl) rfl) .nil))
 refine WP.seq <| rg 1 0 <| as0 rfl rfl <| .fin <| WP.block <| wg (sg 3 [2,0,1] 0) fun _ _ => ?_
 refine lp (fun j_ (p643 : Int × VView) => concourselaw16_build.l0 k t624 j_ p643.1 p643.2) (0, t627) H (fun p643 => [(0, sl GMade.K a0), (1, sl GMade.K a1), (4, eq (.pointer none)), (5, eq (.pointer (some ⟨b623, 0, none⟩))), (6, eq g626.1), (7, eq g629.1), (8, vI p643.1), (14, vB false)]) (fun p643 => [blk b623 28 [eq (.slice none 0 0)], VView.O g629 p643.2, own Event.K g626.1 t624] ++ F) ?_
 rintro j_ ⟨x634, x635⟩ H
 rcases j_ with _ | j642
 ·
  exact (Gets.no H).elim
 replace H : Gets (concourselaw16_build.l0 k t624 (j642 + 1) x634 x635) _ := H
 rw [concourselaw16_build.l0] at H
 refine WP.seq <| WP.seq <| rg 4 0 <| mv0 rfl rfl <| mv0 rfl rfl <| Dv.lenw rfl trivial rfl (mem_at 2 rfl) Tryz.underlying54 <| bn0 rfl rfl rfl run_lt <| .fin <| cd H rfl (fun _ H => ?_) (fun _ H => ?_)
 rotate_left
 ·
  refine WP.exit ?_
  replace H := Gets.out H
  exact jn (x634, decide (x634 < (t624.length : Int)), x635) H
 refine WP.skip <| WP.seq <| WP.block <| WP.seq <| rg 7 32 <| mv0 rfl rfl <| mv0 rfl rfl <| mv0 rfl rfl <| gr H fun g637 H => ?_
 have h638 : x634.toNat < t624.length := idx_lt g637
 refine Dv.ixw rfl trivial rfl (mem_at 2 rfl) rfl Tryz.underlying54 Tryz.underlying59 c59 g637.1 g637.2 <| Dv.ldws (j := x634.toNat) (f := 0) rfl trivial rfl (mem_at 2 rfl) h638 Tryz.underlying59 rfl c59 (Nat.le_of_ble_eq_true rfl) <| el H fun t639 h640 H => cx 3 [1,0,2] cal33 (view_View_Add.c h640 (p0_ := g629)) nofun fun _ _ => ?_
 refine bn0 rfl rfl rfl run_ne <| .fin <| cd H rfl (fun _ H => ?_) (fun _ H => ?_)
 rotate_left
 ·
  refine WP.skip <| rg 3 0 <| mv0 rfl rfl <| bn0 rfl rfl rfl run_add <| as0 rfl rfl <| .fin <| ng (sg 3 [1,0,2] 0) fun _ _ => ?_
  exact bk j642 (w64 (x634 + 1), t639.2) H
 refine WP.seq <| rg 3 4 <| Dv.bld (css := []) rfl trivial Tryz.underlying28 pl28 z28 rfl trivial rfl rfl <| as0 rfl rfl <| sx 1 rfl trivial rfl rfl cA sz28 rfl rfl rfl nofun ?_
 refine .fin <| wg (st_nilP (O := VView.O)) fun _ _ => ?_
 replace H := Gets.outr H
 obtain rfl := Gets.out H
 exact rt i2 rfl nilP 4 [1,2,3,0] 3 (.cons (res_tmp rfl) (.cons (res_wk (res_cells rfl Tryz.underlying28 rfl c28 (mem_at 2 rfl) rfl) (wk_agg (.cons wk_nil .nil))) .nil))
theorem concourseref01_ThreadOf.c {k : Nat} {a0 : Int} {r : ByteArray} (h : concourseref01_ThreadOf.f k a0 = some r) : Pt Tryz.prog 59 [vI a0] (vS r) := by
 unfold concourseref01_ThreadOf.f at h
 refine (Tr.body Tryz.func59 (c := _) rfl Tryz.ntmps59 (Nat.le_of_ble_eq_true rfl) fun R0 F => ?_).pt
 replace h := Gets.of h
 have H := h
 clear h
 refine WP.seq <| rg 1 0 <| as0 rfl rfl <| .fin <| WP.seq <| rg 3 0 <| mv0 rfl rfl <| el H fun t644 h645 H => cl rfl cal36 rfl (concourseref01_Around.c h645) <| as0 rfl rfl <| .fin <| WP.seq <| WP.seq <| rg 2 0 <| mv0 rfl rfl <| bn0 rfl rfl rfl run_eq <| .fin <| cd H rfl (fun _ H => ?_) (fun _ H => ?_)
 ·
  refine WP.seq <| rg 1 0 <| as0 rfl rfl <| .fin ?_
  obtain rfl := Gets.out H
  exact rt i2 rfl () 0 [] 0 (.cons (res_tmp rfl) .nil)
 refine WP.skip <| WP.seq <| WP.seq <| rg 2 0 <| mv0 rfl rfl <| bn0 rfl rfl rfl run_eq <| .fin <| cd H rfl (fun _ H => ?_) (fun _ H => ?_)
 ·
  refine WP.seq <| rg 1 0 <| as0 rfl rfl <| .fin ?_
  obtain rfl := Gets.out H
  exact rt i2 rfl () 0 [] 0 (.cons (res_tmp rfl) .nil)
 refine WP.skip <| WP.seq <| rg 3 0 <| mv0 rfl rfl <| el H fun t648 h649 H => cl rfl cal58 rfl (concourseref01_EventOf.c h649) <| as0 rfl rfl <| .fin ?_
 obtain rfl := Gets.out H
 exact rt i2 rfl () 0 [] 0 (.cons (res_tmp rfl) .nil)
theorem concourseref03_Good.c {k : Nat} {a0 : Edu} {r : Edu} (h : concourseref03_Good.f k a0 = some r) : Pt Tryz.prog 27 [agg (Edu.enc a0)] (agg (Edu.enc r)) := by
 unfold concourseref03_Good.f at h
 refine (Tr.body Tryz.func27 (c := _) rfl Tryz.ntmps27 (Nat.le_of_ble_eq_true rfl) fun R0 F => ?_).pt
 replace h := Gets.of h
 have H := h
 clear h
 refine WP.seq <| rg 2 3 <| Dv.box rfl trivial rfl cA nofun fun b650 => al rfl trivial zc24 nofun fun b651 => .fin <| WP.seq <| dg Tryz.checked.mixed 16 49152 <| fb rfl trivial rfl fa24_0 <| ld 1 rfl trivial rfl sc3 rfl rfl <| el H fun t652 h653 H => cl rfl cal36 rfl (concourseref01_Around.c h653) <| bn0 rfl rfl rfl run_add <| fb rfl trivial rfl fa24_8 <| ld 1 rfl trivial rfl sc3 rfl rfl <| el H fun t654 h655 H => cl rfl cal24 rfl (concourseref01_UserOf.c h655) <| fb rfl trivial rfl fa24_9 <| ld 1 rfl trivial rfl sc3 rfl rfl <| el H fun t656 h657 H => cl rfl cal36 rfl (concourseref01_Around.c h657) <| fb rfl trivial rfl fa24_10 <| ld 1 rfl trivial rfl sc3 rfl rfl <| el H fun t658 h659 H => cl rfl cal36 rfl (concourseref01_Around.c h659) <| Dv.bld (css := [[vI (w64 (1 + t652))], [vS t654], [vI t656], [vI t658]]) rfl trivial Tryz.underlying24 pl24 z24 rfl ⟨(cells_one (one_eq rfl)), ⟨(cells_one (one_eq rfl)), ⟨(cells_one (one_eq rfl)), ⟨(cells_one (one_eq rfl)), trivial⟩⟩⟩⟩ rfl rfl <| al rfl trivial zc24 (fun _ => (pend_in (fun _ => trivial) (pend_in (fun _ => trivial) (pend_in (fun _ => (mem_at 2 rfl)) (pend_in (fun _ => trivial) (pend_in (fun _ => trivial) (pend_in (fun _ => (mem_at 2 rfl)) (pend_in (fun _ => trivial) (pend_in (fun _ => trivial) (pend_in (fun _ => (mem_at 2 rfl)) (pend_in (fun _ => trivial) (pend_in (fun _ => trivial) (pend_in (fun _ => trivial) (pend_in (fun _ => (mem_at 2 rfl)) (pend_in (fun _ => trivial) pend_nil))))))))))))))) fun b660 => sx 0 rfl trivial rfl rfl cA sz24 rfl rfl rfl pB ?_
 refine .fin <| WP.seq <| WP.seq <| rg 2 0 <| fb rfl trivial rfl fa24_0 <| ld 0 rfl trivial rfl sc3 rfl rfl <| .fin <| WP.block <| WP.seq <| rg 2 0 <| bn0 rfl rfl rfl run_eq <| as0 rfl rfl <| .fin <| cd H rfl (fun _ H => ?_) (fun _ H => ?_)
 ·
  refine WP.seq <| rg 5 16 <| fb rfl trivial rfl fa24_7 <| ld 2 rfl trivial rfl sc3 rfl rfl <| el H fun t662 h663 H => cl rfl cal57 rfl (concourseref01_RoomOf.c h663) <| fb rfl trivial rfl fa24_1 <| sx 0 rfl trivial rfl rfl cE sz9 rfl rfl rfl nofun ?_
  refine .fin <| WP.seq <| dg Tryz.checked.mixed 10 512 <| fb rfl trivial rfl fa24_3 <| ld 2 rfl trivial rfl sc9 rfl rfl <| Dv.lens rfl trivial rfl Tryz.underlying9 <| fb rfl trivial rfl fa24_9 <| ld 2 rfl trivial rfl sc3 rfl rfl <| el H fun t664 h665 H => cl rfl cal36 rfl (concourseref01_Around.c h665) <| bn0 rfl rfl rfl run_add <| el H fun t666 h667 H => cl rfl cal58 rfl (concourseref01_EventOf.c h667) <| fb rfl trivial rfl fa24_3 <| sx 0 rfl trivial rfl rfl cE sz9 rfl rfl rfl pB ?_
  refine .fin <| WP.seq <| rg 6 32 <| fb rfl trivial rfl fa24_4 <| ld 2 rfl trivial rfl sc9 rfl rfl <| Dv.lens rfl trivial rfl Tryz.underlying9 <| el H fun t668 h669 H => cl rfl cal59 rfl (concourseref01_ThreadOf.c h669) <| fb rfl trivial rfl fa24_4 <| sx 0 rfl trivial rfl rfl cE sz9 rfl rfl rfl nofun ?_
  refine .fin <| rg 4 8 <| fb rfl trivial rfl fa24_5 <| ld 2 rfl trivial rfl sc4 rfl rfl <| fb rfl trivial rfl fa24_5 <| sx 0 rfl trivial rfl rfl cE sz4 rfl rfl rfl nofun ?_
  refine .fin <| WP.seq <| rg 2 2 <| lds 0 rfl trivial rfl sg24 rfl rfl <| sx 1 rfl trivial rfl rfl cA sz24 rfl rfl rfl nofun ?_
  refine .fin ?_
  obtain rfl := Gets.out H
  exact rt i2 rfl () 3 [0,1,2] 3 (.cons (res_cells rfl Tryz.underlying24 rfl c24 (mem_at 1 rfl) rfl) .nil)
 refine WP.seq <| rg 2 0 <| bn0 rfl rfl rfl run_eq <| as0 rfl rfl <| .fin <| cd H rfl (fun _ H => ?_) (fun _ H => ?_)
 rotate_left
 ·
  refine rg 5 16 <| fb rfl trivial rfl fa24_7 <| ld 2 rfl trivial rfl sc3 rfl rfl <| el H fun t676 h677 H => cl rfl cal36 rfl (concourseref01_Around.c h677) <| fb rfl trivial rfl fa24_8 <| sx 0 rfl trivial rfl rfl cE sz3 rfl rfl rfl nofun ?_
  refine .fin <| WP.seq <| rg 2 2 <| lds 0 rfl trivial rfl sg24 rfl rfl <| sx 1 rfl trivial rfl rfl cA sz24 rfl rfl rfl nofun ?_
  refine .fin ?_
  obtain rfl := Gets.out H
  exact rt i2 rfl () 3 [0,1,2] 3 (.cons (res_cells rfl Tryz.underlying24 rfl c24 (mem_at 1 rfl) rfl) .nil)
 refine WP.seq <| rg 5 16 <| fb rfl trivial rfl fa24_7 <| ld 2 rfl trivial rfl sc3 rfl rfl <| el H fun t671 h672 H => cl rfl cal57 rfl (concourseref01_RoomOf.c h672) <| fb rfl trivial rfl fa24_1 <| sx 0 rfl trivial rfl rfl cE sz9 rfl rfl rfl nofun ?_
 refine .fin <| WP.seq <| rg 4 8 <| fb rfl trivial rfl fa24_6 <| ld 2 rfl trivial rfl sc4 rfl rfl <| fb rfl trivial rfl fa24_6 <| sx 0 rfl trivial rfl rfl cE sz4 rfl rfl rfl nofun ?_
 refine .fin <| WP.seq <| rg 2 0 <| fb rfl trivial rfl fa24_6 <| ld 2 rfl trivial rfl sc4 rfl rfl <| .fin <| cd H rfl (fun _ H => ?_) (fun _ H => ?_)
 rotate_left
 ·
  refine WP.skip <| WP.seq <| rg 2 2 <| lds 0 rfl trivial rfl sg24 rfl rfl <| sx 1 rfl trivial rfl rfl cA sz24 rfl rfl rfl nofun ?_
  refine .fin ?_
  obtain rfl := Gets.out H
  exact rt i2 rfl () 3 [0,1,2] 3 (.cons (res_cells rfl Tryz.underlying24 rfl c24 (mem_at 1 rfl) rfl) .nil)
 refine rg 6 32 <| fb rfl trivial rfl fa24_7 <| ld 2 rfl trivial rfl sc3 rfl rfl <| el H fun t674 h675 H => cl rfl cal36 rfl (concourseref01_Around.c h675) <| bn0 rfl rfl rfl run_add <| fb rfl trivial rfl fa24_7 <| sx 0 rfl trivial rfl rfl cE sz3 rfl rfl rfl nofun ?_
 refine .fin <| WP.seq <| rg 2 2 <| lds 0 rfl trivial rfl sg24 rfl rfl <| sx 1 rfl trivial rfl rfl cA sz24 rfl rfl rfl nofun ?_
 refine .fin ?_
 obtain rfl := Gets.out H
 exact rt i2 rfl () 3 [0,1,2] 3 (.cons (res_cells rfl Tryz.underlying24 rfl c24 (mem_at 1 rfl) rfl) .nil)
theorem concourseref03_Public.c {k : Nat} {a0 : Edu} {r : Edu} (h : concourseref03_Public.f k a0 = some r) : Pt Tryz.prog 29 [agg (Edu.enc a0)] (agg (Edu.enc r)) := by
 unfold concourseref03_Public.f at h
 refine (Tr.body Tryz.func29 (c := _) rfl Tryz.ntmps29 (Nat.le_of_ble_eq_true rfl) fun R0 F => ?_).pt
 replace h := Gets.of h
 have H := h
 clear h
 refine WP.seq <| rg 2 3 <| Dv.box rfl trivial rfl cA nofun fun b678 => al rfl trivial zc24 nofun fun b679 => .fin <| WP.seq <| rg 4 12 <| lds 1 rfl trivial rfl sg24 rfl rfl <| el H fun t680 h681 H => cl rfl cal27 rfl (concourseref03_Good.c h681) <| al rfl trivial zc24 nofun fun b682 => sx 0 rfl trivial rfl rfl cA sz24 rfl rfl rfl nofun ?_
 refine .fin <| WP.seq <| rg 2 2 <| fb rfl trivial rfl fa24_5 <| sx 0 rfl trivial rfl rfl cE sz4 rfl rfl rfl nofun ?_
 refine .fin <| WP.seq <| rg 2 2 <| lds 0 rfl trivial rfl sg24 rfl rfl <| sx 1 rfl trivial rfl rfl cA sz24 rfl rfl rfl nofun ?_
 refine .fin ?_
 obtain rfl := Gets.out H
 exact rt i2 rfl () 3 [0,1,2] 3 (.cons (res_cells rfl Tryz.underlying24 rfl c24 (mem_at 1 rfl) rfl) .nil)
theorem concourseref01_Few.c {a0 : ByteArray} {a1 : Int} {r : ByteArray} (h : concourseref01_Few.f a0 a1 = some r) : Pt Tryz.prog 12 [vS a0, vI a1] (vS r) := by
 unfold concourseref01_Few.f at h
 refine (Tr.body Tryz.func12 (c := _) rfl Tryz.ntmps12 (Nat.le_of_ble_eq_true rfl) fun R0 F => ?_).pt
 replace h := Gets.of h
 have H := h
 clear h
 refine WP.seq <| rg 1 0 <| as0 rfl rfl <| .fin <| WP.seq <| WP.seq <| rg 4 0 <| mv0 rfl rfl <| Dv.lens rfl trivial rfl Tryz.underlying9 <| mv0 rfl rfl <| bn0 rfl rfl rfl run_gt <| .fin <| cd H rfl (fun _ H => ?_) (fun _ H => ?_)
 rotate_left
 ·
  refine WP.skip <| WP.seq <| rg 2 0 <| mv0 rfl rfl <| as0 rfl rfl <| .fin ?_
  obtain rfl := Gets.out H
  exact rt i2 rfl () 0 [] 0 (.cons (res_tmp rfl) .nil)
 refine WP.seq <| rg 4 0 <| mv0 rfl rfl <| mv0 rfl rfl <| gr H fun g684 H => Dv.sss rfl trivial rfl Tryz.underlying9 bdE_none (bdE_some rfl g684.1) g684.2.1 g684.2.2 <| as0 rfl rfl <| .fin ?_
 obtain rfl := Gets.out H
 exact rt i2 rfl () 0 [] 0 (.cons (res_tmp rfl) .nil)
theorem concourseref03_Few.c {a0 : Edu} {r : Edu} (h : concourseref03_Few.f a0 = some r) : Pt Tryz.prog 35 [agg (Edu.enc a0)] (agg (Edu.enc r)) := by
 unfold concourseref03_Few.f at h
 refine (Tr.body Tryz.func35 (c := _) rfl Tryz.ntmps35 (Nat.le_of_ble_eq_true rfl) fun R0 F => ?_).pt
 replace h := Gets.of h
 have H := h
 clear h
 refine WP.seq <| rg 2 3 <| Dv.box rfl trivial rfl cA nofun fun b685 => al rfl trivial zc24 nofun fun b686 => .fin <| WP.seq <| rg 5 16 <| fb rfl trivial rfl fa24_1 <| ld 1 rfl trivial rfl sc9 rfl rfl <| el H fun t687 h688 H => cl rfl cal12 rfl (concourseref01_Few.c h688) <| fb rfl trivial rfl fa24_1 <| sx 1 rfl trivial rfl rfl cE sz9 rfl rfl rfl nofun ?_
 refine .fin <| WP.seq <| rg 5 16 <| fb rfl trivial rfl fa24_2 <| ld 1 rfl trivial rfl sc9 rfl rfl <| el H fun t689 h690 H => cl rfl cal12 rfl (concourseref01_Few.c h690) <| fb rfl trivial rfl fa24_2 <| sx 1 rfl trivial rfl rfl cE sz9 rfl rfl rfl nofun ?_
 refine .fin <| WP.seq <| rg 5 16 <| fb rfl trivial rfl fa24_3 <| ld 1 rfl trivial rfl sc9 rfl rfl <| el H fun t691 h692 H => cl rfl cal12 rfl (concourseref01_Few.c h692) <| fb rfl trivial rfl fa24_3 <| sx 1 rfl trivial rfl rfl cE sz9 rfl rfl rfl nofun ?_
 refine .fin <| WP.seq <| rg 5 16 <| fb rfl trivial rfl fa24_4 <| ld 1 rfl trivial rfl sc9 rfl rfl <| el H fun t693 h694 H => cl rfl cal12 rfl (concourseref01_Few.c h694) <| fb rfl trivial rfl fa24_4 <| sx 1 rfl trivial rfl rfl cE sz9 rfl rfl rfl nofun ?_
 refine .fin <| WP.seq <| rg 2 2 <| lds 1 rfl trivial rfl sg24 rfl rfl <| sx 0 rfl trivial rfl rfl cA sz24 rfl rfl rfl nofun ?_
 refine .fin ?_
 obtain rfl := Gets.out H
 exact rt i2 rfl () 2 [0,1] 2 (.cons (res_cells rfl Tryz.underlying24 rfl c24 (mem_at 0 rfl) rfl) .nil)
theorem concourselaw16_some.c {k : Nat} {a0 : Edu} {r : (List Edu)} (h : concourselaw16_some.f k a0 = some r) : Pt Tryz.prog 10 [agg (Edu.enc a0)] (sl Edu.K r) := by
 unfold concourselaw16_some.f at h
 refine (Tr.body Tryz.func10 (c := _) rfl Tryz.ntmps10 (Nat.le_of_ble_eq_true rfl) fun R0 F => ?_).pt
 replace h := Gets.of h
 have H := h
 clear h
 refine WP.seq <| rg 2 1 <| Dv.box rfl trivial rfl cA nofun fun b695 => as0 rfl rfl <| .fin <| WP.seq <| dg Tryz.checked.mixed 8 0 <| lds 0 rfl trivial rfl sg24 rfl rfl <| el H fun t696 h697 H => cl rfl cal27 rfl (concourseref03_Good.c h697) <| lds 0 rfl trivial rfl sg24 rfl rfl <| el H fun t698 h699 H => cl rfl cal35 rfl (concourseref03_Few.c h699) <| lds 0 rfl trivial rfl sg24 rfl rfl <| el H fun t700 h701 H => cl rfl cal29 rfl (concourseref03_Public.c h701) <| Dv.lit Edu.K ([t696, t698, t700] : List Edu) (css := [Edu.enc t696, Edu.enc t698, Edu.enc t700]) rfl trivial Tryz.underlying31 Tryz.underlying24 c24 z24 rfl (by decide) (by decide) rfl ⟨(cells_agg (Edu.K.one _)), ⟨(cells_agg (Edu.K.one _)), ⟨(cells_agg (Edu.K.one _)), trivial⟩⟩⟩ rfl rfl rfl <| as0 rfl rfl <| .fin ?_
 obtain rfl := Gets.out H
 exact rt i2 rfl () 1 [0] 1 (.cons (res_tmp rfl) .nil)
theorem edu_asks_1.c {a0 : Int} {a1 : Int} {a2 : Int} {r : Bool} (h : edu_asks_1.f a0 a1 a2 = some r) : Pt Tryz.prog 106 [vI a0, vI a1, vI a2] (vB r) := by
 unfold edu_asks_1.f at h
 refine (Tr.body Tryz.func106 (c := _) rfl Tryz.ntmps106 (Nat.le_of_ble_eq_true rfl) fun R0 F => ?_).pt
 replace h := Gets.of h
 have H := h
 clear h
 refine WP.seq <| rg 1 0 <| as0 rfl rfl <| .fin <| WP.seq <| rg 9 0 <| mv0 rfl rfl <| mv0 rfl rfl <| bn0 rfl rfl rfl run_ge <| mv0 rfl rfl ?_
 cases c702 : decide (a1 ≤ a0)
 ·
  replace H := Gets.cf H c702
  refine sk rfl rfl <| sk rfl rfl <| sk rfl rfl <| pf0 rfl rfl rfl <| as0 rfl rfl <| .fin ?_
  obtain rfl := Gets.out H
  exact rt i2 rfl () 0 [] 0 (.cons (res_tmp rfl) .nil)
 replace H := Gets.ct H c702
 refine mvg rfl rfl rfl <| mvg rfl rfl rfl <| bng rfl rfl rfl rfl run_le <| pt0 rfl rfl rfl <| as0 rfl rfl <| .fin ?_
 obtain rfl := Gets.out H
 exact rt i2 rfl () 0 [] 0 (.cons (res_tmp rfl) .nil)
theorem edu_asks_2.c {a0 : Edu} {r : Bool} (h : edu_asks_2.f a0 = some r) : Pt Tryz.prog 107 [agg (Edu.enc a0)] (vB r) := by
 unfold edu_asks_2.f at h
 refine (Tr.body Tryz.func107 (c := _) rfl Tryz.ntmps107 (Nat.le_of_ble_eq_true rfl) fun R0 F => ?_).pt
 replace h := Gets.of h
 have H := h
 clear h
 refine WP.seq <| rg 2 1 <| Dv.box rfl trivial rfl cA nofun fun b703 => as0 rfl rfl <| .fin <| WP.seq <| rg 1 0 <| as0 rfl rfl <| .fin ?_
 obtain rfl := Gets.out H
 exact rt i2 rfl () 1 [0] 1 (.cons (res_tmp rfl) .nil)
theorem name_Thread.c {k : Nat} {a0 : ByteArray} {r : Bool} (h : name_Thread.f k a0 = some r) : Pt Tryz.prog 110 [vS a0] (vB r) := by
 unfold name_Thread.f at h
 refine (Tr.body Tryz.func110 (c := _) rfl Tryz.ntmps110 (Nat.le_of_ble_eq_true rfl) fun R0 F => ?_).pt
 replace h := Gets.of h
 have H := h
 clear h
 refine WP.seq <| rg 1 0 <| as0 rfl rfl <| .fin <| WP.seq <| rg 11 0 <| mv0 rfl rfl <| bn0 rfl rfl rfl run_seq <| mv0 rfl rfl ?_
 cases c704 : decide (a0 = (⟨#[]⟩ : ByteArray))
 rotate_left
 ·
  replace H := Gets.ct H c704
  refine sk rfl rfl <| sk rfl rfl <| pt0 rfl rfl rfl <| mv0 rfl rfl <| sk rfl rfl <| sk rfl rfl <| pt0 rfl rfl rfl <| as0 rfl rfl <| .fin ?_
  obtain rfl := Gets.out H
  exact rt i2 rfl () 0 [] 0 (.cons (res_tmp rfl) .nil)
 replace H := Gets.cf H c704
 refine mvg rfl rfl rfl <| bng rfl rfl rfl rfl run_seq <| pf0 rfl rfl rfl <| mv0 rfl rfl ?_
 cases c705 : decide (a0 = (⟨#[109, 97, 105, 110]⟩ : ByteArray))
 rotate_left
 ·
  replace H := Gets.ct H c705
  refine sk rfl rfl <| sk rfl rfl <| pt0 rfl rfl rfl <| as0 rfl rfl <| .fin ?_
  obtain rfl := Gets.out H
  exact rt i2 rfl () 0 [] 0 (.cons (res_tmp rfl) .nil)
 replace H := Gets.cf H c705
 refine mvg rfl rfl rfl <| el H fun t706 h707 H => Dv.call rfl (gg rfl) cal109 rfl (name_Event.c h707) <| pf0 rfl rfl rfl <| as0 rfl rfl <| .fin ?_
 obtain rfl := Gets.out H
 exact rt i2 rfl () 0 [] 0 (.cons (res_tmp rfl) .nil)
theorem edu_asks_3.c {k : Nat} {a0 : Edu} {r : Bool} (h : edu_asks_3.f k a0 = some r) : Pt Tryz.prog 108 [agg (Edu.enc a0)] (vB r) := by
 unfold edu_asks_3.f at h
 refine (Tr.body Tryz.func108 (c := _) rfl Tryz.ntmps108 (Nat.le_of_ble_eq_true rfl) fun R0 F => ?_).pt
 replace h := Gets.of h
 have H := h
 clear h
 refine WP.seq <| rg 2 1 <| Dv.box rfl trivial rfl cA nofun fun b708 => as0 rfl rfl <| .fin <| WP.seq <| rg 14 0 <| fb rfl trivial rfl fa24_1 <| ld 0 rfl trivial rfl sc9 rfl rfl <| el H fun t709 h710 H => cl rfl cal69 rfl (name_Room.c h710) <| mv0 rfl rfl ?_
 cases c711 : t709
 ·
  replace H := Gets.cf H c711
  refine sk rfl rfl <| sk rfl rfl <| sk rfl rfl <| pf0 rfl rfl rfl <| mv0 rfl rfl <| sk rfl rfl <| sk rfl rfl <| sk rfl rfl <| pf0 rfl rfl rfl <| as0 rfl rfl <| .fin ?_
  obtain rfl := Gets.out H
  exact rt i2 rfl () 1 [0] 1 (.cons (res_tmp rfl) .nil)
 replace H := Gets.ct H c711
 refine fb rfl (gg rfl) rfl fa24_3 <| ld 0 rfl (gg rfl) rfl sc9 rfl rfl <| el H fun t712 h713 H => Dv.call rfl (gg rfl) cal109 rfl (name_Event.c h713) <| pt0 rfl rfl rfl <| mv0 rfl rfl ?_
 cases c714 : t712
 ·
  replace H := Gets.cf H c714
  refine sk rfl rfl <| sk rfl rfl <| sk rfl rfl <| pf0 rfl rfl rfl <| as0 rfl rfl <| .fin ?_
  obtain rfl := Gets.out H
  exact rt i2 rfl () 1 [0] 1 (.cons (res_tmp rfl) .nil)
 replace H := Gets.ct H c714
 refine fb rfl (gg rfl) rfl fa24_4 <| ld 0 rfl (gg rfl) rfl sc9 rfl rfl <| el H fun t715 h716 H => Dv.call rfl (gg rfl) cal110 rfl (name_Thread.c h716) <| pt0 rfl rfl rfl <| as0 rfl rfl <| .fin ?_
 obtain rfl := Gets.out H
 exact rt i2 rfl () 1 [0] 1 (.cons (res_tmp rfl) .nil)
theorem edu_asks_4.c {k : Nat} {a0 : Edu} {c0 : Int → Int → Int → Option Bool} {r : Bool} (h : edu_asks_4.f k a0 c0 = some r) : Pt Tryz.prog 111 [agg (Edu.enc a0), rp [fq_int_int_int_bool c0]] (vB r) := by
 unfold edu_asks_4.f at h
 refine (Tr.body Tryz.func111 (c := _) rfl Tryz.ntmps111 (Nat.le_of_ble_eq_true rfl) fun R0 F => ?_).pt
 replace h := Gets.of h
 have H := h
 clear h
 refine WP.seq <| rg 2 1 <| Dv.box rfl trivial rfl cA nofun fun b717 => as0 rfl rfl <| .fin <| WP.seq <| rg 15 0 <| fb rfl trivial rfl fa24_1 <| ld 0 rfl trivial rfl sc9 rfl rfl <| el H fun t718 h719 H => cl rfl cal69 rfl (name_Room.c h719) <| mv0 rfl rfl ?_
 cases c720 : t718
 ·
  replace H := Gets.cf H c720
  refine sk rfl rfl <| sk rfl rfl <| sk rfl rfl <| sk rfl rfl <| sku rfl rfl <| sku rfl rfl <| sku rfl rfl <| sku rfl rfl <| sk rfl rfl <| pf0 rfl rfl rfl <| as0 rfl rfl <| .fin ?_
  obtain rfl := Gets.out H
  exact rt i2 rfl () 1 [0] 1 (.cons (res_tmp rfl) .nil)
 replace H := Gets.ct H c720
 refine fb rfl (gg rfl) rfl fa24_6 <| ld 0 rfl (gg rfl) rfl sc4 rfl rfl <| ung rfl rfl rfl (run_not _) <| mvg rfl rfl rfl ?_
 cases c721 : !a0.fOn
 rotate_left
 ·
  replace H := Gets.ct H c721
  refine sk rfl rfl <| sk rfl rfl <| sk rfl rfl <| sk rfl rfl <| ptg rfl rfl rfl rfl <| pt0 rfl rfl rfl <| as0 rfl rfl <| .fin ?_
  obtain rfl := Gets.out H
  exact rt i2 rfl () 1 [0] 1 (.cons (res_tmp rfl) .nil)
 replace H := Gets.cf H c721
 refine ldR rfl (gg rfl) rfl sc120 rfl <| fb rfl (gg rfl) rfl fa24_7 <| ld 0 rfl (gg rfl) rfl sc3 rfl rfl <| el H fun t722 h723 H => Dv.callq (ret := vB t722) rfl (gg rfl) rfl rfl ⟨_, _, _, _, h723, rfl, rfl⟩ <| pfg rfl rfl rfl rfl <| pt0 rfl rfl rfl <| as0 rfl rfl <| .fin ?_
 obtain rfl := Gets.out H
 exact rt i2 rfl () 1 [0] 1 (.cons (res_tmp rfl) .nil)
theorem edu_asks_5.c {a0 : Edu} {c0 : Int → Int → Int → Option Bool} {r : Bool} (h : edu_asks_5.f a0 c0 = some r) : Pt Tryz.prog 112 [agg (Edu.enc a0), rp [fq_int_int_int_bool c0]] (vB r) := by
 unfold edu_asks_5.f at h
 refine (Tr.body Tryz.func112 (c := _) rfl Tryz.ntmps112 (Nat.le_of_ble_eq_true rfl) fun R0 F => ?_).pt
 replace h := Gets.of h
 have H := h
 clear h
 refine WP.seq <| rg 2 1 <| Dv.box rfl trivial rfl cA nofun fun b724 => as0 rfl rfl <| .fin <| WP.seq <| rg 5 0 <| ldR rfl trivial rfl sc120 rfl <| fb rfl trivial rfl fa24_8 <| ld 0 rfl trivial rfl sc3 rfl rfl <| el H fun t725 h726 H => Dv.callq (ret := vB t725) rfl trivial rfl rfl ⟨_, _, _, _, h726, rfl, rfl⟩ <| as0 rfl rfl <| .fin ?_
 obtain rfl := Gets.out H
 exact rt i2 rfl () 1 [0] 1 (.cons (res_tmp rfl) .nil)
theorem edu_asks.c {k : Nat} {r : (List (Edu → Option Bool))} (h : edu_asks.f k = some r) : Pt Tryz.prog 81 [] (sl fK_api_Edu_bool r) := by
 unfold edu_asks.f at h
 refine (Tr.body Tryz.func81 (c := _) rfl Tryz.ntmps81 (Nat.le_of_ble_eq_true rfl) fun R0 F => ?_).pt
 replace h := Gets.of h
 have H := h
 clear h
 refine WP.seq <| rg 1 0 <| as0 rfl rfl <| .fin <| WP.seq <| rg 2 3 <| al rfl trivial zc120 nofun fun b727 => sx 0 rfl trivial rfl rfl cE sz120 rfl rfl rfl nofun ?_
 refine .fin <| WP.seq <| rg 4 0 <| Dv.gh (gh_frzb (E' := [(0, eq (.slice none 0 0)), (1, rp [eq (.func (.func 106) #[] #[])])]) (l' := F) 0 rfl (cve_cons rfl cv_id (cve_cons rfl cv_eq cve_nil)) (all2_app .nil fun _ => cva_id)) (fun _ _ => ?_)
 refine Dv.mkf (Q := fqQ_api_Edu_bool (fun a0_ => edu_asks_4.f k a0_ edu_asks_1.f)) cal111 (by rintro _ _ ⟨a0_, r_, h_, rfl, rfl⟩; exact Pt.weak (edu_asks_4.c h_) (.cons wk_id (.cons (wk_rp (.cons (wk_fn cal106 (by rintro _ _ ⟨a0_, a1_, a2_, r_, h_, rfl, rfl⟩; exact edu_asks_1.c h_)) .nil)) .nil))) rfl trivial rfl rfl <| Dv.mkf (Q := fqQ_api_Edu_bool (fun a0_ => edu_asks_5.f a0_ edu_asks_1.f)) cal112 (by rintro _ _ ⟨a0_, r_, h_, rfl, rfl⟩; exact Pt.weak (edu_asks_5.c h_) (.cons wk_id (.cons (wk_rp (.cons (wk_fn cal106 (by rintro _ _ ⟨a0_, a1_, a2_, r_, h_, rfl, rfl⟩; exact edu_asks_1.c h_)) .nil)) .nil))) rfl trivial rfl rfl <| Dv.lit fK_api_Edu_bool ([edu_asks_2.f, edu_asks_3.f k, fun a0_ => edu_asks_4.f k a0_ edu_asks_1.f, fun a0_ => edu_asks_5.f a0_ edu_asks_1.f] : List (Edu → Option Bool)) (css := [[fq_api_Edu_bool edu_asks_2.f], [fq_api_Edu_bool (edu_asks_3.f k)], [fq_api_Edu_bool (fun a0_ => edu_asks_4.f k a0_ edu_asks_1.f)], [fq_api_Edu_bool (fun a0_ => edu_asks_5.f a0_ edu_asks_1.f)]]) rfl trivial Tryz.underlying95 Tryz.underlying62 c62 z62 rfl (by decide) (by decide) rfl ⟨(cells_wk (wk_fn cal107 (by rintro _ _ ⟨a0_, r_, h_, rfl, rfl⟩; exact edu_asks_2.c h_)) (one_eq rfl)), ⟨(cells_wk (wk_fn cal108 (by rintro _ _ ⟨a0_, r_, h_, rfl, rfl⟩; exact edu_asks_3.c h_)) (one_eq rfl)), ⟨(cells_one one_fnq), ⟨(cells_one one_fnq), trivial⟩⟩⟩⟩ rfl rfl rfl <| as0 rfl rfl <| .fin ?_
 obtain rfl := Gets.out H
 exact rt i2 rfl () 0 [] 0 (.cons (res_tmp rfl) .nil)
theorem edu_Local_1.c {a0 : Int} {r : Bool} (h : edu_Local_1.f a0 = some r) : Pt Tryz.prog 82 [vI a0] (vB r) := by
 unfold edu_Local_1.f at h
 refine (Tr.body Tryz.func82 (c := _) rfl Tryz.ntmps82 (Nat.le_of_ble_eq_true rfl) fun R0 F => ?_).pt
 replace h := Gets.of h
 have H := h
 clear h
 refine WP.seq <| rg 1 0 <| as0 rfl rfl <| .fin <| WP.seq <| rg 7 0 <| mv0 rfl rfl <| bn0 rfl rfl rfl run_ge <| mv0 rfl rfl ?_
 cases c728 : decide (0 ≤ a0)
 ·
  replace H := Gets.cf H c728
  refine sk rfl rfl <| sk rfl rfl <| pf0 rfl rfl rfl <| as0 rfl rfl <| .fin ?_
  obtain rfl := Gets.out H
  exact rt i2 rfl () 0 [] 0 (.cons (res_tmp rfl) .nil)
 replace H := Gets.ct H c728
 refine mvg rfl rfl rfl <| bng rfl rfl rfl rfl run_le <| pt0 rfl rfl rfl <| as0 rfl rfl <| .fin ?_
 obtain rfl := Gets.out H
 exact rt i2 rfl () 0 [] 0 (.cons (res_tmp rfl) .nil)
theorem edu_named.c {a0 : Edu} {r : Edu} (h : edu_named.f a0 = some r) : Pt Tryz.prog 83 [agg (Edu.enc a0)] (agg (Edu.enc r)) := by
 unfold edu_named.f at h
 refine (Tr.body Tryz.func83 (c := _) rfl Tryz.ntmps83 (Nat.le_of_ble_eq_true rfl) fun R0 F => ?_).pt
 replace h := Gets.of h
 have H := h
 clear h
 refine WP.seq <| rg 2 3 <| Dv.box rfl trivial rfl cA nofun fun b729 => al rfl trivial zc24 nofun fun b730 => .fin <| WP.seq <| rg 11 1536 <| fb rfl trivial rfl fa24_0 <| ld 1 rfl trivial rfl sc3 rfl rfl <| fb rfl trivial rfl fa24_2 <| ld 1 rfl trivial rfl sc9 rfl rfl <| fb rfl trivial rfl fa24_9 <| ld 1 rfl trivial rfl sc3 rfl rfl <| fb rfl trivial rfl fa24_10 <| ld 1 rfl trivial rfl sc3 rfl rfl <| Dv.bld (css := [[vI a0.fKind], [vS a0.fUser], [vI a0.fTick], [vI a0.fStamp]]) rfl trivial Tryz.underlying24 pl24 z24 rfl ⟨(cells_one (one_eq rfl)), ⟨(cells_one (one_eq rfl)), ⟨(cells_one (one_eq rfl)), ⟨(cells_one (one_eq rfl)), trivial⟩⟩⟩⟩ rfl rfl <| al rfl trivial zc24 nofun fun b731 => sx 0 rfl trivial rfl rfl cA sz24 rfl rfl rfl nofun ?_
 refine .fin <| WP.seq <| WP.seq <| rg 2 0 <| fb rfl trivial rfl fa24_0 <| ld 2 rfl trivial rfl sc3 rfl rfl <| .fin <| WP.block <| WP.seq <| rg 2 0 <| bn0 rfl rfl rfl run_eq <| as0 rfl rfl <| .fin <| cd H rfl (fun _ H => ?_) (fun _ H => ?_)
 ·
  refine dg Tryz.checked.mixed 16 43520 <| fb rfl trivial rfl fa24_1 <| ld 2 rfl trivial rfl sc9 rfl rfl <| fb rfl trivial rfl fa24_3 <| ld 2 rfl trivial rfl sc9 rfl rfl <| fb rfl trivial rfl fa24_4 <| ld 2 rfl trivial rfl sc9 rfl rfl <| fb rfl trivial rfl fa24_5 <| ld 2 rfl trivial rfl sc4 rfl rfl <| fb rfl trivial rfl fa24_1 <| sx 0 rfl trivial rfl rfl cE sz9 rfl rfl rfl (fun _ => (pend_by (by kernel_rfl) (pend_in (fun _ => (mem_at 2 rfl)) (pend_in (fun _ => trivial) (pend_in (fun _ => (mem_at 2 rfl)) (pend_in (fun _ => trivial) (pend_in (fun _ => (mem_at 2 rfl)) (pend_in (fun _ => trivial) (pend_by (by kernel_rfl) (pend_by (by kernel_rfl) pend_nil)))))))))) ?_
  refine fb rfl trivial rfl fa24_3 <| sx 0 rfl trivial rfl rfl cE sz9 rfl rfl rfl (fun _ => (pend_by (by kernel_rfl) (pend_by (by kernel_rfl) (pend_in (fun _ => (mem_at 2 rfl)) (pend_in (fun _ => trivial) (pend_in (fun _ => (mem_at 2 rfl)) (pend_in (fun _ => trivial) (pend_by (by kernel_rfl) (pend_by (by kernel_rfl) (pend_by (by kernel_rfl) (pend_by (by kernel_rfl) pend_nil))))))))))) ?_
  refine fb rfl trivial rfl fa24_4 <| sx 0 rfl trivial rfl rfl cE sz9 rfl rfl rfl (fun _ => (pend_by (by kernel_rfl) (pend_by (by kernel_rfl) (pend_by (by kernel_rfl) (pend_in (fun _ => (mem_at 2 rfl)) (pend_in (fun _ => trivial) (pend_by (by kernel_rfl) (pend_by (by kernel_rfl) (pend_by (by kernel_rfl) (pend_by (by kernel_rfl) (pend_by (by kernel_rfl) (pend_by (by kernel_rfl) pend_nil)))))))))))) ?_
  refine fb rfl trivial rfl fa24_5 <| sx 0 rfl trivial rfl rfl cE sz4 rfl rfl rfl pB ?_
  refine .fin <| WP.seq <| rg 2 2 <| lds 0 rfl trivial rfl sg24 rfl rfl <| sx 1 rfl trivial rfl rfl cA sz24 rfl rfl rfl nofun ?_
  refine .fin ?_
  obtain rfl := Gets.out H
  exact rt i2 rfl () 3 [0,1,2] 3 (.cons (res_cells rfl Tryz.underlying24 rfl c24 (mem_at 1 rfl) rfl) .nil)
 refine WP.seq <| rg 2 0 <| bn0 rfl rfl rfl run_eq <| as0 rfl rfl <| .fin <| cd H rfl (fun _ H => ?_) (fun _ H => ?_)
 rotate_left
 ·
  refine WP.seq <| rg 2 0 <| bn0 rfl rfl rfl run_eq <| as0 rfl rfl <| .fin <| cd H rfl (fun _ H => ?_) (fun _ H => ?_)
  rotate_left
  ·
   refine WP.skip <| WP.seq <| rg 2 2 <| lds 0 rfl trivial rfl sg24 rfl rfl <| sx 1 rfl trivial rfl rfl cA sz24 rfl rfl rfl nofun ?_
   refine .fin ?_
   obtain rfl := Gets.out H
   exact rt i2 rfl () 3 [0,1,2] 3 (.cons (res_cells rfl Tryz.underlying24 rfl c24 (mem_at 1 rfl) rfl) .nil)
  refine rg 4 8 <| fb rfl trivial rfl fa24_8 <| ld 2 rfl trivial rfl sc3 rfl rfl <| fb rfl trivial rfl fa24_8 <| sx 0 rfl trivial rfl rfl cE sz3 rfl rfl rfl nofun ?_
  refine .fin <| WP.seq <| rg 2 2 <| lds 0 rfl trivial rfl sg24 rfl rfl <| sx 1 rfl trivial rfl rfl cA sz24 rfl rfl rfl nofun ?_
  refine .fin ?_
  obtain rfl := Gets.out H
  exact rt i2 rfl () 3 [0,1,2] 3 (.cons (res_cells rfl Tryz.underlying24 rfl c24 (mem_at 1 rfl) rfl) .nil)
 refine WP.seq <| dg Tryz.checked.mixed 8 160 <| fb rfl trivial rfl fa24_1 <| ld 2 rfl trivial rfl sc9 rfl rfl <| fb rfl trivial rfl fa24_6 <| ld 2 rfl trivial rfl sc4 rfl rfl <| fb rfl trivial rfl fa24_1 <| sx 0 rfl trivial rfl rfl cE sz9 rfl rfl rfl (fun _ => (pend_by (by kernel_rfl) (pend_in (fun _ => (mem_at 2 rfl)) (pend_in (fun _ => trivial) (pend_by (by kernel_rfl) (pend_by (by kernel_rfl) pend_nil)))))) ?_
 refine fb rfl trivial rfl fa24_6 <| sx 0 rfl trivial rfl rfl cE sz4 rfl rfl rfl pB ?_
 refine .fin <| WP.seq <| rg 2 0 <| fb rfl trivial rfl fa24_6 <| ld 2 rfl trivial rfl sc4 rfl rfl <| .fin <| cd H rfl (fun _ H => ?_) (fun _ H => ?_)
 rotate_left
 ·
  refine WP.skip <| WP.seq <| rg 2 2 <| lds 0 rfl trivial rfl sg24 rfl rfl <| sx 1 rfl trivial rfl rfl cA sz24 rfl rfl rfl nofun ?_
  refine .fin ?_
  obtain rfl := Gets.out H
  exact rt i2 rfl () 3 [0,1,2] 3 (.cons (res_cells rfl Tryz.underlying24 rfl c24 (mem_at 1 rfl) rfl) .nil)
 refine rg 4 8 <| fb rfl trivial rfl fa24_7 <| ld 2 rfl trivial rfl sc3 rfl rfl <| fb rfl trivial rfl fa24_7 <| sx 0 rfl trivial rfl rfl cE sz3 rfl rfl rfl nofun ?_
 refine .fin <| WP.seq <| rg 2 2 <| lds 0 rfl trivial rfl sg24 rfl rfl <| sx 1 rfl trivial rfl rfl cA sz24 rfl rfl rfl nofun ?_
 refine .fin ?_
 obtain rfl := Gets.out H
 exact rt i2 rfl () 3 [0,1,2] 3 (.cons (res_cells rfl Tryz.underlying24 rfl c24 (mem_at 1 rfl) rfl) .nil)
theorem edu_Local.c {k : Nat} {a0 : Edu} {r : Bool} (h : edu_Local.f k a0 = some r) : Pt Tryz.prog 53 [agg (Edu.enc a0)] (vB r) := by
 unfold edu_Local.f at h
 refine (Tr.body Tryz.func53 (c := _) rfl Tryz.ntmps53 (Nat.le_of_ble_eq_true rfl) fun R0 F => ?_).pt
 replace h := Gets.of h
 have H := h
 clear h
 refine WP.seq <| rg 2 1 <| Dv.box rfl trivial rfl cA nofun fun b736 => as0 rfl rfl <| .fin <| WP.seq <| WP.seq <| dg Tryz.checked.mixed 18 0 <| fb rfl trivial rfl fa24_0 <| ld 0 rfl trivial rfl sc3 rfl rfl <| bn0 rfl rfl rfl run_lt <| mv0 rfl rfl ?_
 cases c737 : decide (a0.fKind < 0)
 rotate_left
 ·
  replace H := Gets.ct H c737
  refine sk rfl rfl <| sk rfl rfl <| sk rfl rfl <| pt0 rfl rfl rfl <| mv0 rfl rfl <| sk rfl rfl <| sk rfl rfl <| sk rfl rfl <| sk rfl rfl <| sk rfl rfl <| sk rfl rfl <| sk rfl rfl <| sk rfl rfl <| pt0 rfl rfl rfl <| .fin <| WP.cond rfl (fun _ => ?_) nofun
  refine WP.seq <| rg 1 0 <| as0 rfl rfl <| .fin ?_
  obtain rfl := Gets.out H
  exact rt i2 rfl () 1 [0] 1 (.cons (res_tmp rfl) .nil)
 replace H := Gets.cf H c737
 refine fb rfl (gg rfl) rfl fa24_0 <| ld 0 rfl (gg rfl) rfl sc3 rfl rfl <| bng rfl rfl rfl rfl run_gt <| pf0 rfl rfl rfl <| mv0 rfl rfl ?_
 cases c739 : decide (3 < a0.fKind)
 rotate_left
 ·
  replace H := Gets.ct H c739
  refine sk rfl rfl <| sk rfl rfl <| sk rfl rfl <| sk rfl rfl <| sk rfl rfl <| sk rfl rfl <| sk rfl rfl <| sk rfl rfl <| pt0 rfl rfl rfl <| .fin <| WP.cond rfl (fun _ => ?_) nofun
  refine WP.seq <| rg 1 0 <| as0 rfl rfl <| .fin ?_
  obtain rfl := Gets.out H
  exact rt i2 rfl () 1 [0] 1 (.cons (res_tmp rfl) .nil)
 replace H := Gets.cf H c739
 refine el H fun t741 h742 H => Dv.call rfl (gg rfl) cal81 rfl (edu_asks.c h742) <| fb rfl (gg rfl) rfl fa24_0 <| ld 0 rfl (gg rfl) rfl sc3 rfl rfl <| gr H fun g743 H => Dv.ixr rfl (gg rfl) rfl rfl Tryz.underlying95 Tryz.underlying62 c62 g743.1 g743.2 <| ldR rfl (gg rfl) rfl sc62 rfl <| lds 0 rfl (gg rfl) rfl sg24 rfl rfl <| el H fun t744 h745 H => Dv.callq (ret := vB t744) rfl (gg rfl) rfl rfl ⟨_, _, h745, rfl, rfl⟩ <| ung rfl rfl rfl (run_not _) <| pf0 rfl rfl rfl <| .fin <| cd H rfl (fun _ H => ?_) (fun _ H => ?_)
 ·
  refine WP.seq <| rg 1 0 <| as0 rfl rfl <| .fin ?_
  obtain rfl := Gets.out H
  exact rt i2 rfl () 1 [0] 1 (.cons (res_tmp rfl) .nil)
 refine WP.skip <| WP.seq <| rg 1 0 <| as0 rfl rfl <| .fin <| WP.seq <| dg Tryz.checked.mixed 22 0 <| lds 0 rfl trivial rfl sg24 rfl rfl <| lds 0 rfl trivial rfl sg24 rfl rfl <| el H fun t747 h748 H => cl rfl cal83 rfl (edu_named.c h748) <| Dv.eqs [.int .i64 a0.fKind, .string a0.fRoom, .string a0.fUser, .string a0.fEvent, .string a0.fThread, .bool a0.fPrivate, .bool a0.fOn, .int .i64 a0.fSpan, .int .i64 a0.fState, .int .i64 a0.fTick, .int .i64 a0.fStamp] [.int .i64 t747.fKind, .string t747.fRoom, .string t747.fUser, .string t747.fEvent, .string t747.fThread, .bool t747.fPrivate, .bool t747.fOn, .int .i64 t747.fSpan, .int .i64 t747.fState, .int .i64 t747.fTick, .int .i64 t747.fStamp] rfl trivial rfl rfl rfl rfl eg24 (fun _ => equal_of 2 (by decide) (fun _ => eqt24 a0 t747)) <| mv0 rfl rfl ?_
 cases c749 : decide (a0 = t747)
 ·
  replace H := Gets.cf H c749
  refine sk rfl rfl <| sk rfl rfl <| sk rfl rfl <| pf0 rfl rfl rfl <| mv0 rfl rfl <| sk rfl rfl <| sk rfl rfl <| sk rfl rfl <| sk rfl rfl <| pf0 rfl rfl rfl <| mv0 rfl rfl <| sk rfl rfl <| sk rfl rfl <| sk rfl rfl <| sk rfl rfl <| pf0 rfl rfl rfl <| as0 rfl rfl <| .fin ?_
  obtain rfl := Gets.out H
  exact rt i2 rfl () 1 [0] 1 (.cons (res_tmp rfl) .nil)
 replace H := Gets.ct H c749
 refine fb rfl (gg rfl) rfl fa24_2 <| ld 0 rfl (gg rfl) rfl sc9 rfl rfl <| el H fun t750 h751 H => Dv.call rfl (gg rfl) cal68 rfl (name_User.c h751) <| pt0 rfl rfl rfl <| mv0 rfl rfl ?_
 cases c752 : t750
 ·
  replace H := Gets.cf H c752
  refine sk rfl rfl <| sk rfl rfl <| sk rfl rfl <| sk rfl rfl <| pf0 rfl rfl rfl <| mv0 rfl rfl <| sk rfl rfl <| sk rfl rfl <| sk rfl rfl <| sk rfl rfl <| pf0 rfl rfl rfl <| as0 rfl rfl <| .fin ?_
  obtain rfl := Gets.out H
  exact rt i2 rfl () 1 [0] 1 (.cons (res_tmp rfl) .nil)
 replace H := Gets.ct H c752
 refine mvg rfl rfl rfl <| fb rfl (gg rfl) rfl fa24_9 <| ld 0 rfl (gg rfl) rfl sc3 rfl rfl <| el H fun t753 h754 H => Dv.callk rfl (gg rfl) rfl cal82 rfl (edu_Local_1.c h754) <| pt0 rfl rfl rfl <| mv0 rfl rfl ?_
 cases c755 : t753
 ·
  replace H := Gets.cf H c755
  refine sk rfl rfl <| sk rfl rfl <| sk rfl rfl <| sk rfl rfl <| pf0 rfl rfl rfl <| as0 rfl rfl <| .fin ?_
  obtain rfl := Gets.out H
  exact rt i2 rfl () 1 [0] 1 (.cons (res_tmp rfl) .nil)
 replace H := Gets.ct H c755
 refine mvg rfl rfl rfl <| fb rfl (gg rfl) rfl fa24_10 <| ld 0 rfl (gg rfl) rfl sc3 rfl rfl <| el H fun t756 h757 H => Dv.callk rfl (gg rfl) rfl cal82 rfl (edu_Local_1.c h757) <| pt0 rfl rfl rfl <| as0 rfl rfl <| .fin ?_
 obtain rfl := Gets.out H
 exact rt i2 rfl () 1 [0] 1 (.cons (res_tmp rfl) .nil)
theorem edu_May.c {k : Nat} {a0 : Edu} {r : Bool} (h : edu_May.f k a0 = some r) : Pt Tryz.prog 37 [agg (Edu.enc a0)] (vB r) := by
 unfold edu_May.f at h
 refine (Tr.body Tryz.func37 (c := _) rfl Tryz.ntmps37 (Nat.le_of_ble_eq_true rfl) fun R0 F => ?_).pt
 replace h := Gets.of h
 have H := h
 clear h
 refine WP.seq <| rg 2 1 <| Dv.box rfl trivial rfl cA nofun fun b758 => as0 rfl rfl <| .fin <| WP.seq <| rg 8 0 <| lds 0 rfl trivial rfl sg24 rfl rfl <| el H fun t759 h760 H => cl rfl cal53 rfl (edu_Local.c h760) <| mv0 rfl rfl ?_
 cases c761 : t759
 ·
  replace H := Gets.cf H c761
  refine sk rfl rfl <| sk rfl rfl <| sk rfl rfl <| pf0 rfl rfl rfl <| as0 rfl rfl <| .fin ?_
  obtain rfl := Gets.out H
  exact rt i2 rfl () 1 [0] 1 (.cons (res_tmp rfl) .nil)
 replace H := Gets.ct H c761
 refine fb rfl (gg rfl) rfl fa24_5 <| ld 0 rfl (gg rfl) rfl sc4 rfl rfl <| ung rfl rfl rfl (run_not _) <| pt0 rfl rfl rfl <| as0 rfl rfl <| .fin ?_
 obtain rfl := Gets.out H
 exact rt i2 rfl () 1 [0] 1 (.cons (res_tmp rfl) .nil)
theorem name_Home.c {k : Nat} {a0 : ByteArray} {r : ByteArray} (h : name_Home.f k a0 = some r) : Pt Tryz.prog 38 [vS a0] (vS r) := by
 unfold name_Home.f at h
 refine (Tr.body Tryz.func38 (c := _) rfl Tryz.ntmps38 (Nat.le_of_ble_eq_true rfl) fun R0 F => ?_).pt
 replace h := Gets.of h
 have H := h
 clear h
 refine WP.seq <| rg 1 0 <| as0 rfl rfl <| .fin <| WP.seq <| WP.seq <| rg 8 0 <| mv0 rfl rfl <| el H fun t762 h763 H => cl rfl cal68 rfl (name_User.c h763) <| un0 rfl rfl (run_not _) <| mv0 rfl rfl ?_
 cases c764 : !t762
 ·
  replace H := Gets.cf H c764
  refine sk rfl rfl <| sk rfl rfl <| sk rfl rfl <| pf0 rfl rfl rfl <| .fin <| WP.cond rfl nofun (fun _ => ?_)
  refine WP.skip <| WP.seq <| rg 9 0 <| mv0 rfl rfl <| el H fun t771 h772 H => cl rfl cal70 rfl (strings_Cut.c h772) <| mv0 rfl rfl <| ex0 rfl trivial rfl rfl <| ex0 rfl trivial rfl rfl <| ex0 rfl trivial rfl rfl <| as0 rfl rfl <| as0 rfl rfl <| as0 rfl rfl <| .fin <| WP.seq <| rg 2 0 <| mv0 rfl rfl <| as0 rfl rfl <| .fin ?_
  obtain rfl := Gets.out H
  exact rt i2 rfl () 0 [] 0 (.cons (res_tmp rfl) .nil)
 replace H := Gets.ct H c764
 refine mvg rfl rfl rfl <| el H fun t765 h766 H => Dv.call rfl (gg rfl) cal69 rfl (name_Room.c h766) <| ung rfl rfl rfl (run_not _) <| pt0 rfl rfl rfl <| .fin <| cd H rfl (fun _ H => ?_) (fun _ H => ?_)
 ·
  refine WP.seq <| rg 1 0 <| as0 rfl rfl <| .fin ?_
  obtain rfl := Gets.out H
  exact rt i2 rfl () 0 [] 0 (.cons (res_tmp rfl) .nil)
 refine WP.skip <| WP.seq <| rg 9 0 <| mv0 rfl rfl <| el H fun t768 h769 H => cl rfl cal70 rfl (strings_Cut.c h769) <| mv0 rfl rfl <| ex0 rfl trivial rfl rfl <| ex0 rfl trivial rfl rfl <| ex0 rfl trivial rfl rfl <| as0 rfl rfl <| as0 rfl rfl <| as0 rfl rfl <| .fin <| WP.seq <| rg 2 0 <| mv0 rfl rfl <| as0 rfl rfl <| .fin ?_
 obtain rfl := Gets.out H
 exact rt i2 rfl () 0 [] 0 (.cons (res_tmp rfl) .nil)
theorem slices_DeleteFunc_string_xo.c {k : Nat} {a0 : List ByteArray} {a1 : (ByteArray → Option Bool)} {X1_ : As} {p0_ : OV} {r : (List ByteArray)} (h : slices_DeleteFunc_string_xo.f k a0 a1 = some r) : Tr Tryz.prog 48 [eq p0_.1, fx_string_bool X1_ a1] [own strK p0_.1 a0, X1_] (γ := OV) (fun _ => True) (fun g => eq g.1) (fun g => [X1_, own strK g.1 r]) := by
 unfold slices_DeleteFunc_string_xo.f at h
 refine Tr.body Tryz.func48 (c := _) rfl Tryz.ntmps48 (Nat.le_of_ble_eq_true rfl) fun R0 F => ?_
 replace h := Gets.of h
 have H := h
 clear h
 refine WP.seq <| rg 1 0 <| as0 rfl rfl <| .fin <| WP.seq <| rg 4 0 <| mv0 rfl rfl <| mv0 rfl rfl <| el H fun t773 h774 H => cll 2 [0,1] cal79 (slices_IndexFunc_string_xw.c h774 (p0_ := p0_) (X1_ := X1_)) ?_
 refine as0 rfl rfl <| .fin <| WP.seq <| WP.seq <| rg 2 0 <| mv0 rfl rfl <| bn0 rfl rfl rfl run_eq <| .fin <| cd H rfl (fun _ H => ?_) (fun _ H => ?_)
 ·
  refine WP.seq <| rg 2 0 <| mv0 rfl rfl <| as0 rfl rfl <| .fin ?_
  obtain rfl := Gets.out H
  exact rt i2 rfl p0_ 2 [1,0] 0 (.cons (res_tmp rfl) .nil)
 refine WP.skip <| WP.seqn H id (fun p776 : Int × Int × Bool × (List ByteArray) => [(0, eq p0_.1), (1, fx_string_bool X1_ a1), (4, eq (.slice none 0 0)), (5, vI p776.1), (6, vI p776.2.1), (12, vB (t773 == (-1))), (19, vB p776.2.2.1)]) (fun p776 : Int × Int × Bool × (List ByteArray) => [own strK p0_.1 p776.2.2.2, X1_] ++ F) (fun p776 H => ?_) (fun H => ?_)
 ·
  refine WP.seq <| rg 4 8 <| mv0 rfl rfl <| mv0 rfl rfl <| gr H fun g777 H => vg (st_own_form 0 rfl (List.length_pos_iff.1 (Nat.lt_of_le_of_lt (Nat.zero_le _) g777.2))) fun g778 h779 => ?_
  refine Dv.slkm (o' := g778.2.1 + p776.1.toNat * strK.sz) (m' := p776.2.2.2.length - p776.1.toNat) (c' := g778.2.2 - p776.1.toNat) rfl trivial ((show opv _ _ = some (eq p0_.1) from rfl).trans (congrArg (fun z => some (eq z)) h779.1)) Tryz.underlying35 Tryz.underlying9 c9 (bdE_some rfl g777.1) bdE_none (Nat.le_of_lt g777.2) h779.2 (.inl (Nat.lt_of_lt_of_le g777.2 h779.2)) rfl rfl rfl <| Dv.clrw (jj := 0) (⟨#[]⟩ : ByteArray) rfl trivial rfl Tryz.underlying35 z9 rfl rfl (fun u hu => by simp [Value.cells] at hu; subst hu; rfl) h779.1 rfl g777.2 rfl nofun <| .fin <| WP.seq <| rg 4 4 <| mv0 rfl rfl <| mv0 rfl rfl <| gr H fun g780 H => Dv.slo (jj := 0) rfl trivial rfl rfl Tryz.underlying35 Tryz.underlying9 c9 bdE_none (bdE_some rfl g780.1) (.inl rfl) g780.2.1 g780.2.2 nofun (fun v781 => ?_)
  refine as0 rfl rfl <| .fin ?_
  obtain rfl := Gets.out H
  exact rt i2 rfl v781 2 [1,0] 0 (.cons (res_tmp rfl) .nil)
 refine WP.seq <| rg 3 0 <| mv0 rfl rfl <| bn0 rfl rfl rfl run_add <| as0 rfl rfl <| .fin <| WP.block <| wg (sg 2 [0,1] 0) fun _ _ => ?_
 refine lp (fun j_ (p794 : Int × Int × (List ByteArray)) => slices_DeleteFunc_string_xo.l0 k a1 j_ p794.1 p794.2.1 p794.2.2) (t773, w64 (t773 + 1), a0) H (fun p794 => [(0, eq p0_.1), (1, fx_string_bool X1_ a1), (4, eq (.slice none 0 0)), (5, vI p794.1), (6, vI p794.2.1), (12, vB (t773 == (-1)))]) (fun p794 => [own strK p0_.1 p794.2.2, X1_] ++ F) ?_
 rintro j_ ⟨x782, x783, x784⟩ H
 rcases j_ with _ | j793
 ·
  exact (Gets.no H).elim
 replace H : Gets (slices_DeleteFunc_string_xo.l0 k a1 (j793 + 1) x782 x783 x784) _ := H
 rw [slices_DeleteFunc_string_xo.l0] at H
 refine WP.seq <| WP.seq <| rg 4 0 <| mv0 rfl rfl <| mv0 rfl rfl <| Dv.lenw rfl trivial rfl (mem_at 0 rfl) Tryz.underlying35 <| bn0 rfl rfl rfl run_lt <| .fin <| cd H rfl (fun _ H => ?_) (fun _ H => ?_)
 rotate_left
 ·
  refine WP.exit ?_
  replace H := Gets.out H
  exact jn (x782, x783, decide (x783 < (x784.length : Int)), x784) H
 refine WP.skip <| WP.seq <| WP.block <| WP.seq <| rg 5 0 <| mv0 rfl rfl <| mv0 rfl rfl <| gr H fun g786 H => ?_
 have h787 : x783.toNat < x784.length := idx_lt g786
 refine Dv.ixw rfl trivial rfl (mem_at 0 rfl) rfl Tryz.underlying35 Tryz.underlying9 c9 g786.1 g786.2 <| Dv.ldw (j := x783.toNat) (f := 0) (p := vS (x784.getD x783.toNat default)) rfl trivial rfl (mem_at 0 rfl) h787 Tryz.underlying9 rfl rfl <| as0 rfl rfl <| .fin <| WP.seq <| rg 4 0 <| mv0 rfl rfl <| mv0 rfl rfl <| el H fun t788 h789 H => Dv.callfx (ret := vB t788) (X := X1_) (F := [own strK p0_.1 x784] ++ F) rfl trivial rfl rfl ⟨_, _, h789, rfl, rfl⟩ (perm_to (L := [own strK p0_.1 x784, X1_]) (F := F) [1, 0] rfl rfl rfl) <| un0 rfl rfl (run_not _) <| .fin <| cd H rfl (fun _ H => ?_) (fun _ H => ?_)
 rotate_left
 ·
  exact WP.skip <| rg 3 0 <| mv0 rfl rfl <| bn0 rfl rfl rfl run_add <| as0 rfl rfl <| .fin <| bk j793 (x782, w64 (x783 + 1), x784) H
 refine WP.seq <| rg 5 16 <| mv0 rfl rfl <| mv0 rfl rfl <| mv0 rfl rfl <| gr H fun g791 H => ?_
 have h792 : x782.toNat < x784.length := idx_lt g791
 exact Dv.ixw rfl trivial rfl (mem_at 0 rfl) rfl Tryz.underlying35 Tryz.underlying9 c9 g791.1 g791.2 <| Dv.stw (j := x782.toNat) (f := 0) (jj := 0) (x784.getD x783.toNat default) rfl trivial rfl rfl (cells_one (one_eq rfl)) Tryz.underlying9 c9 rfl rfl h792 (Nat.le_of_ble_eq_true rfl) rfl nofun <| .fin <| rg 3 0 <| mv0 rfl rfl <| bn0 rfl rfl rfl run_add <| as0 rfl rfl <| .fin <| rg 3 0 <| mv0 rfl rfl <| bn0 rfl rfl rfl run_add <| as0 rfl rfl <| .fin <| bk j793 (w64 (x782 + 1), w64 (x783 + 1), x784.set x782.toNat (x784.getD x783.toNat default)) H
theorem slices_Sort_string.c {a0 : List ByteArray} {p0_ : OV} {r : List ByteArray} (h : slices_Sort_string.f a0 = some r) : Tr Tryz.prog 100 [eq p0_.1] [own strK p0_.1 a0] (γ := Unit) (fun _ => True) (fun g => tup []) (fun g => [own strK p0_.1 r]) := by
 unfold slices_Sort_string.f at h
 obtain ⟨h0, h5⟩ := (Gets.of h).grd
 obtain rfl := Gets.out h5
 exact sort_tr (fun blk off cap ss w => Go.Proofs.Any.slices_Sort_string Tryz.lays190 blk off cap ss w) (fun q cap w => Go.Proofs.Any.slices_Sort_string_none Tryz.lays190 q cap w) h0

theorem view_View_Rooms.c {a0 : VView} {b0_ : Nat} {v0_0 : OV} {r : List ByteArray} (h : view_View_Rooms.f a0 = some r) : Tr Tryz.prog 71 [eq (.pointer (some ⟨b0_, 0, none⟩))] [blk b0_ 81 [eq v0_0.1], mpo Value.string DDag.O v0_0.1 a0.fdags] (γ := OV) (fun _ => True) (fun g => eq g.1) (fun g => [blk b0_ 81 [eq v0_0.1], mpo Value.string DDag.O v0_0.1 a0.fdags, own strK g.1 r]) := by
  unfold view_View_Rooms.f at h
  obtain ⟨h0, h5⟩ := (Gets.of h).grd
  obtain rfl := Gets.out h5
  clear h h5
  refine Tr.body Tryz.func71 (c := _) rfl Tryz.ntmps71 (Nat.le_of_ble_eq_true rfl) fun R0 F => ?_
  refine WP.seq <| rg 1 0 <| as0 rfl rfl <| .fin <| WP.seq <| rg 1 0 <| as0 rfl rfl <| .fin ?_
  refine WP.seqj (β := List Nat × OV) (fun b => b.1.Perm (List.range a0.fdags.length)) (fun b => [(3, eq b.2.1)]) (fun b => [own strK b.2.1 (selM a0.fdags (fun e => some e.1) b.1), blk b0_ 81 [eq v0_0.1], mpo Value.string DDag.O v0_0.1 a0.fdags] ++ F) (fun b hb => ?_) ?_
  rotate_left
  · refine WP.seq <| rg 5 16 <| mv0 rfl rfl <| Dv.nilp rfl trivial rfl <| fb rfl trivial rfl fa81_0 <| ld 0 rfl trivial rfl sc79 rfl rfl ?_
    refine Dv.gh (l' := fun ps : List OV => [mp Value.string (fun p : OV => eq p.1) v0_0.1 (zipK a0.fdags ps), thg DDag.O a0.fdags ps, blk b0_ 81 [eq v0_0.1]] ++ F) (gh_of (mpo_opn 1 rfl)) (fun ps hps => ?_)
    refine Dv.rgb (jj := 0) rfl trivial rfl rfl Tryz.underlying79 nofun (fun q => .fin ?_)
    refine WP.gh (l' := fun _ : Unit => [rng Value.string (fun p : OV => eq p.1) v0_0.1 q.1 (zipK a0.fdags ps) [], thg DDag.O a0.fdags ps, blk b0_ 81 [eq v0_0.1]] ++ F) (gh_of (ok := fun _ => True) fun R w k => ⟨(), trivial, k⟩) (fun _ _ => ?_)
    refine WP.gh (l' := fun _ : Unit => [own strK nilV.1 [], rng Value.string (fun p : OV => eq p.1) v0_0.1 q.1 (zipK a0.fdags ps) [], thg DDag.O a0.fdags ps, blk b0_ 81 [eq v0_0.1]] ++ F) (gh_of (st_nil strK none)) (fun _ _ => ?_)
    refine WP.block ?_
    refine WP.weak (E' := (fun b : List Nat × OV => [(3, eq b.2.1), (9, eq q.1)]) ([], nilV)) (weak_cons rfl (weak_cons rfl weak_nil)) (WP.loop (β := List Nat × OV) (fun k b => b.1.length + k = a0.fdags.length) (fun b => [(3, eq b.2.1), (9, eq q.1)]) (fun b => [own strK b.2.1 (selM a0.fdags (fun e => some e.1) b.1), rng Value.string (fun p : OV => eq p.1) v0_0.1 q.1 (zipK a0.fdags ps) b.1, thg DDag.O a0.fdags ps, blk b0_ 81 [eq v0_0.1]] ++ F) ?_ (k := a0.fdags.length) (b := ([], nilV)) (Nat.zero_add _))
    rintro k ⟨is, v⟩ hk
    replace hk : is.length + k = a0.fdags.length := hk
    refine WP.seq <| rg 2 1 <| Dv.rgn (jj := 1) rfl trivial rfl rfl nofun (fun z hz => ?_)
    rcases z with _ | j
    · have hz : is.Perm (List.range (zipK a0.fdags ps).length) := hz
      rw [zipK_len hps.1] at hz
      refine ex0 rfl trivial rfl rfl <| .fin <| WP.seq <| WP.cond rfl nofun (fun _ => WP.exit ?_)
      refine Dn.gh (l' := fun _ : Unit => [own strK v.1 (selM a0.fdags (fun e => some e.1) is), rng Value.string (fun p : OV => eq p.1) v0_0.1 q.1 (zipK a0.fdags ps) is, thg DDag.O a0.fdags ps, blk b0_ 81 [eq v0_0.1]] ++ F) (gh_of (ok := fun _ => True) fun R w k => ⟨(), trivial, k⟩) (fun _ _ => ?_)
      refine Dn.gh (l' := fun _ : Unit => [mp Value.string (fun p : OV => eq p.1) v0_0.1 (zipK a0.fdags ps), own strK v.1 (selM a0.fdags (fun e => some e.1) is), thg DDag.O a0.fdags ps, blk b0_ 81 [eq v0_0.1]] ++ F) (gh_of (st_rge (pm 4 [1,0,2,3]))) (fun _ _ => ?_)
      refine Dn.gh (l' := fun _ : Unit => [mpo Value.string DDag.O v0_0.1 a0.fdags, own strK v.1 (selM a0.fdags (fun e => some e.1) is), blk b0_ 81 [eq v0_0.1]] ++ F) (gh_of (mpo_shut hps rfl (pm 4 [0,2,1,3]))) (fun _ _ => ?_)
      exact Jn.mk (is, v) hz (weak_cons rfl weak_nil) (perm_ton 3 [1,2,0] (by kernel_rfl) rfl rfl)
    have hz : j < (zipK a0.fdags ps).length ∧ j ∉ is ∧ is.length < (zipK a0.fdags ps).length := hz
    obtain ⟨e, p, he, hp, hep⟩ := zipK_get hps hz.1
    have hlt : is.length < a0.fdags.length := by rw [← zipK_len hps.1]; exact hz.2.2
    have hsl := Nat.le_trans (selM_len (m := a0.fdags) (f := (fun e => some e.1)) (is := is)) (Nat.le_of_lt hlt)
    have e1 : nxV Value.string (fun p : OV => eq p.1) (zipK a0.fdags ps) (some j) = tup [vB true, vS e.1, eq p.1] := by simp only [nxV, hep]
    rw [e1]
    refine ex0 rfl trivial rfl rfl <| .fin <| WP.seq <| WP.cond rfl (fun _ => WP.skip ?_) nofun
    refine WP.gh (l' := fun _ : Unit => [own strK v.1 (selM a0.fdags (fun e => some e.1) is), rng Value.string (fun p : OV => eq p.1) v0_0.1 q.1 (zipK a0.fdags ps) (is ++ [j]), thg DDag.O a0.fdags ps, blk b0_ 81 [eq v0_0.1]] ++ F) (gh_of (ok := fun _ => True) fun R w k => ⟨(), trivial, k⟩) (fun _ _ => ?_)
    refine WP.block <| WP.seq <| rg 3 0 <| Dv.rge 1 rfl trivial rfl rfl hep ?_
    refine ex0 rfl trivial rfl rfl <| as0 rfl rfl <| .fin ?_
    have e6 := selM_some (f := (fun e => some e.1)) (is := is) he rfl
    have hbd : (selM a0.fdags (fun e => some e.1) is).length + ([e.1] : List ByteArray).length ≤ 9223372036854775807 ∧ ((selM a0.fdags (fun e => some e.1) is).length + ([e.1] : List ByteArray).length) * 16 ≤ 140737488355328 := by rw [List.length_singleton]; omega
    refine rg 5 8 <| mv0 rfl rfl <| mv0 rfl rfl <| Dv.lit strK ([e.1] : List ByteArray) (css := [[vS e.1]]) rfl trivial Tryz.underlying35 Tryz.underlying9 c9 z9 rfl (by decide) (by decide) rfl ⟨(cells_one (one_eq rfl)), trivial⟩ rfl rfl rfl <| ap strK 0 ([e.1] : List ByteArray) src_sl Tryz.underlying35 (.inr ⟨_, Tryz.underlying35⟩) inf9 hbd nofun fun v9 => as0 rfl rfl <| .fin ?_
    rw [e6]
    exact Back.mk (k - 1) (is ++ [j], v9) (by omega) (by show (is ++ [j]).length + (k - 1) = _; rw [List.length_append, List.length_singleton]; omega) (weak_cons rfl (weak_cons rfl weak_nil)) (List.Perm.refl _)
  obtain ⟨is, v3⟩ := b
  replace hb : is.Perm (List.range a0.fdags.length) := hb
  have hp := selM_perm (f := (fun e => some e.1)) hb
  have hs : slices_Sort_string.f (selM a0.fdags (fun e => some e.1) is) = some (srtS (a0.fdags.map (·.1))) := by
    have e7 : a0.fdags.filterMap (fun e => some e.1) = a0.fdags.map (·.1) := by rw [← List.filterMap_eq_map]; rfl
    rw [e7] at hp
    unfold slices_Sort_string.f Sp.grd
    rw [if_pos (by rw [hp.length_eq, List.length_map]; omega), srtS_eq hp]
  refine WP.seq <| rg 2 2 <| mv0 rfl rfl <| cx 3 [0,1,2] cal100 (slices_Sort_string.c hs (p0_ := v3)) nofun fun _ _ => .fin ?_
  refine WP.seq <| rg 2 0 <| mv0 rfl rfl <| as0 rfl rfl <| .fin <| rt i2 rfl v3 3 [1,2,0] 0 (.cons (res_tmp rfl) .nil)
theorem cmp_Or_int.c {k : Nat} {a0 : List Int} {r : Int} (h : cmp_Or_int.f k a0 = some r) : Pt Tryz.prog 164 [sl (intK .i64) a0] (vI r) := by
 unfold cmp_Or_int.f at h
 refine (Tr.body Tryz.func164 (c := _) rfl Tryz.ntmps164 (Nat.le_of_ble_eq_true rfl) fun R0 F => ?_).pt
 replace h := Gets.of h
 have H := h
 clear h
 refine WP.seq <| rg 1 0 <| as0 rfl rfl <| .fin <| WP.seq <| rg 1 0 <| as0 rfl rfl <| .fin <| WP.seqr H id (fun p795 : Int × Bool => [(0, sl (intK .i64) a0), (2, vI 0), (3, vI 0), (6, sl (intK .i64) a0), (7, vI (a0.length : Int)), (8, vI p795.1), (9, vB p795.2)]) (fun p795 : Int × Bool => F) (fun p795 H => ?_) (fun H => ?_)
 ·
  refine WP.seq <| rg 2 0 <| mv0 rfl rfl <| as0 rfl rfl <| .fin ?_
  obtain rfl := Gets.out H
  exact rt i2 rfl () 0 [] 0 (.cons (res_tmp rfl) .nil)
 refine WP.seq <| rg 3 0 <| mv0 rfl rfl <| Dv.lenl rfl trivial rfl Tryz.underlying101 <| mv0 rfl rfl <| .fin <| WP.block <| wg (sg 0 [] 0) fun _ _ => ?_
 refine lp (fun j_ (p801 : Int) => cmp_Or_int.l0 k a0 j_ p801) 0 H (fun p801 => [(0, sl (intK .i64) a0), (2, vI 0), (3, vI 0), (6, sl (intK .i64) a0), (7, vI (a0.length : Int)), (8, vI p801)]) (fun p801 => F) ?_
 rintro j_ x796 H
 rcases j_ with _ | j800
 ·
  exact (Gets.no H).elim
 replace H : Gets (cmp_Or_int.l0 k a0 (j800 + 1) x796) _ := H
 rw [cmp_Or_int.l0] at H
 refine WP.seq <| rg 1 0 <| bn0 rfl rfl rfl run_lt <| .fin <| WP.seq <| cd H rfl (fun _ H => ?_) (fun _ H => ?_)
 rotate_left
 ·
  refine WP.exit ?_
  replace H := Gets.out H
  exact jn (x796, decide (x796 < (a0.length : Int))) H
 refine WP.skip <| WP.seq <| WP.block <| WP.seq <| rg 3 0 <| gr H fun g798 H => Dv.ixr rfl trivial rfl rfl Tryz.underlying101 Tryz.underlying3 c3 g798.1 g798.2 <| ldR rfl trivial rfl sc3 rfl <| as0 rfl rfl <| .fin <| WP.seq <| rg 3 0 <| mv0 rfl rfl <| mv0 rfl rfl <| bn0 rfl rfl rfl run_ne <| .fin <| cd H rfl (fun _ H => ?_) (fun _ H => ?_)
 rotate_left
 ·
  exact WP.skip <| rg 2 0 <| bn0 rfl rfl rfl run_add <| mv0 rfl rfl <| .fin <| bk j800 (w64 (x796 + 1)) H
 refine WP.seq <| rg 2 0 <| mv0 rfl rfl <| as0 rfl rfl <| .fin ?_
 replace H := Gets.outr H
 obtain rfl := Gets.out H
 exact rt i2 rfl () 0 [] 0 (.cons (res_tmp rfl) .nil)
theorem cmp_isNaN_int.c {a0 : Int} {r : Bool} (h : cmp_isNaN_int.f a0 = some r) : Pt Tryz.prog 175 [vI a0] (vB r) := by
 unfold cmp_isNaN_int.f at h
 refine (Tr.body Tryz.func175 (c := _) rfl Tryz.ntmps175 (Nat.le_of_ble_eq_true rfl) fun R0 F => ?_).pt
 replace h := Gets.of h
 have H := h
 clear h
 refine WP.seq <| rg 1 0 <| as0 rfl rfl <| .fin <| WP.seq <| rg 4 0 <| mv0 rfl rfl <| mv0 rfl rfl <| bn0 rfl rfl rfl run_ne <| as0 rfl rfl <| .fin ?_
 obtain rfl := Gets.out H
 exact rt i2 rfl () 0 [] 0 (.cons (res_tmp rfl) .nil)
theorem cmp_Compare_int.c {a0 : Int} {a1 : Int} {r : Int} (h : cmp_Compare_int.f a0 a1 = some r) : Pt Tryz.prog 165 [vI a0, vI a1] (vI r) := by
 unfold cmp_Compare_int.f at h
 refine (Tr.body Tryz.func165 (c := _) rfl Tryz.ntmps165 (Nat.le_of_ble_eq_true rfl) fun R0 F => ?_).pt
 replace h := Gets.of h
 have H := h
 clear h
 refine WP.seq <| rg 1 0 <| as0 rfl rfl <| .fin <| WP.seq <| rg 3 0 <| mv0 rfl rfl <| el H fun t802 h803 H => cl rfl cal175 rfl (cmp_isNaN_int.c h803) <| as0 rfl rfl <| .fin <| WP.seq <| rg 3 0 <| mv0 rfl rfl <| el H fun t804 h805 H => cl rfl cal175 rfl (cmp_isNaN_int.c h805) <| as0 rfl rfl <| .fin <| WP.seq <| WP.seq <| rg 1 0 <| mv0 rfl rfl <| .fin <| cd H rfl (fun _ H => ?_) (fun _ H => ?_)
 ·
  refine WP.seq <| WP.seq <| rg 1 0 <| mv0 rfl rfl <| .fin <| cd H rfl (fun _ H => ?_) (fun _ H => ?_)
  ·
   refine WP.seq <| rg 1 0 <| as0 rfl rfl <| .fin ?_
   obtain rfl := Gets.out H
   exact rt i2 rfl () 0 [] 0 (.cons (res_tmp rfl) .nil)
  refine WP.skip <| WP.seq <| rg 1 0 <| as0 rfl rfl <| .fin ?_
  obtain rfl := Gets.out H
  exact rt i2 rfl () 0 [] 0 (.cons (res_tmp rfl) .nil)
 refine WP.skip <| WP.seq <| WP.seq <| rg 1 0 <| mv0 rfl rfl <| .fin <| cd H rfl (fun _ H => ?_) (fun _ H => ?_)
 ·
  refine WP.seq <| rg 1 0 <| as0 rfl rfl <| .fin ?_
  obtain rfl := Gets.out H
  exact rt i2 rfl () 0 [] 0 (.cons (res_tmp rfl) .nil)
 refine WP.skip <| WP.seq <| WP.seq <| rg 3 0 <| mv0 rfl rfl <| mv0 rfl rfl <| bn0 rfl rfl rfl run_lt <| .fin <| cd H rfl (fun _ H => ?_) (fun _ H => ?_)
 ·
  refine WP.seq <| rg 1 0 <| as0 rfl rfl <| .fin ?_
  obtain rfl := Gets.out H
  exact rt i2 rfl () 0 [] 0 (.cons (res_tmp rfl) .nil)
 refine WP.skip <| WP.seq <| WP.seq <| rg 3 0 <| mv0 rfl rfl <| mv0 rfl rfl <| bn0 rfl rfl rfl run_gt <| .fin <| cd H rfl (fun _ H => ?_) (fun _ H => ?_)
 ·
  refine WP.seq <| rg 1 0 <| as0 rfl rfl <| .fin ?_
  obtain rfl := Gets.out H
  exact rt i2 rfl () 0 [] 0 (.cons (res_tmp rfl) .nil)
 refine WP.skip <| WP.seq <| rg 1 0 <| as0 rfl rfl <| .fin ?_
 obtain rfl := Gets.out H
 exact rt i2 rfl () 0 [] 0 (.cons (res_tmp rfl) .nil)
theorem cmp_isNaN_string.c {a0 : ByteArray} {r : Bool} (h : cmp_isNaN_string.f a0 = some r) : Pt Tryz.prog 159 [vS a0] (vB r) := by
 unfold cmp_isNaN_string.f at h
 refine (Tr.body Tryz.func159 (c := _) rfl Tryz.ntmps159 (Nat.le_of_ble_eq_true rfl) fun R0 F => ?_).pt
 replace h := Gets.of h
 have H := h
 clear h
 refine WP.seq <| rg 1 0 <| as0 rfl rfl <| .fin <| WP.seq <| rg 4 0 <| mv0 rfl rfl <| mv0 rfl rfl <| bn0 rfl rfl rfl run_sne <| as0 rfl rfl <| .fin ?_
 obtain rfl := Gets.out H
 exact rt i2 rfl () 0 [] 0 (.cons (res_tmp rfl) .nil)
theorem cmp_Compare_string.c {a0 : ByteArray} {a1 : ByteArray} {r : Int} (h : cmp_Compare_string.f a0 a1 = some r) : Pt Tryz.prog 166 [vS a0, vS a1] (vI r) := by
 unfold cmp_Compare_string.f at h
 refine (Tr.body Tryz.func166 (c := _) rfl Tryz.ntmps166 (Nat.le_of_ble_eq_true rfl) fun R0 F => ?_).pt
 replace h := Gets.of h
 have H := h
 clear h
 refine WP.seq <| rg 1 0 <| as0 rfl rfl <| .fin <| WP.seq <| rg 3 0 <| mv0 rfl rfl <| el H fun t811 h812 H => cl rfl cal159 rfl (cmp_isNaN_string.c h812) <| as0 rfl rfl <| .fin <| WP.seq <| rg 3 0 <| mv0 rfl rfl <| el H fun t813 h814 H => cl rfl cal159 rfl (cmp_isNaN_string.c h814) <| as0 rfl rfl <| .fin <| WP.seq <| WP.seq <| rg 1 0 <| mv0 rfl rfl <| .fin <| cd H rfl (fun _ H => ?_) (fun _ H => ?_)
 ·
  refine WP.seq <| WP.seq <| rg 1 0 <| mv0 rfl rfl <| .fin <| cd H rfl (fun _ H => ?_) (fun _ H => ?_)
  ·
   refine WP.seq <| rg 1 0 <| as0 rfl rfl <| .fin ?_
   obtain rfl := Gets.out H
   exact rt i2 rfl () 0 [] 0 (.cons (res_tmp rfl) .nil)
  refine WP.skip <| WP.seq <| rg 1 0 <| as0 rfl rfl <| .fin ?_
  obtain rfl := Gets.out H
  exact rt i2 rfl () 0 [] 0 (.cons (res_tmp rfl) .nil)
 refine WP.skip <| WP.seq <| WP.seq <| rg 1 0 <| mv0 rfl rfl <| .fin <| cd H rfl (fun _ H => ?_) (fun _ H => ?_)
 ·
  refine WP.seq <| rg 1 0 <| as0 rfl rfl <| .fin ?_
  obtain rfl := Gets.out H
  exact rt i2 rfl () 0 [] 0 (.cons (res_tmp rfl) .nil)
 refine WP.skip <| WP.seq <| WP.seq <| rg 3 0 <| mv0 rfl rfl <| mv0 rfl rfl <| bn0 rfl rfl rfl run_slt <| .fin <| cd H rfl (fun _ H => ?_) (fun _ H => ?_)
 ·
  refine WP.seq <| rg 1 0 <| as0 rfl rfl <| .fin ?_
  obtain rfl := Gets.out H
  exact rt i2 rfl () 0 [] 0 (.cons (res_tmp rfl) .nil)
 refine WP.skip <| WP.seq <| WP.seq <| rg 3 0 <| mv0 rfl rfl <| mv0 rfl rfl <| bn0 rfl rfl rfl run_sgt <| .fin <| cd H rfl (fun _ H => ?_) (fun _ H => ?_)
 ·
  refine WP.seq <| rg 1 0 <| as0 rfl rfl <| .fin ?_
  obtain rfl := Gets.out H
  exact rt i2 rfl () 0 [] 0 (.cons (res_tmp rfl) .nil)
 refine WP.skip <| WP.seq <| rg 1 0 <| as0 rfl rfl <| .fin ?_
 obtain rfl := Gets.out H
 exact rt i2 rfl () 0 [] 0 (.cons (res_tmp rfl) .nil)
theorem dag_Compare.c {k : Nat} {a0 : Pos} {a1 : Pos} {r : Int} (h : dag_Compare.f k a0 a1 = some r) : Pt Tryz.prog 161 [agg (Pos.enc a0), agg (Pos.enc a1)] (vI r) := by
 unfold dag_Compare.f at h
 refine (Tr.body Tryz.func161 (c := _) rfl Tryz.ntmps161 (Nat.le_of_ble_eq_true rfl) fun R0 F => ?_).pt
 replace h := Gets.of h
 have H := h
 clear h
 refine WP.seq <| rg 3 3 <| Dv.box rfl trivial rfl cA nofun fun b820 => Dv.box rfl trivial rfl cA nofun fun b821 => as0 rfl rfl <| .fin <| WP.seq <| dg Tryz.checked.mixed 13 0 <| fb rfl trivial rfl fa125_0 <| ld 1 rfl trivial rfl sc3 rfl rfl <| fb rfl trivial rfl fa125_0 <| ld 0 rfl trivial rfl sc3 rfl rfl <| el H fun t822 h823 H => cl rfl cal165 rfl (cmp_Compare_int.c h823) <| fb rfl trivial rfl fa125_1 <| ld 1 rfl trivial rfl sc9 rfl rfl <| fb rfl trivial rfl fa125_1 <| ld 0 rfl trivial rfl sc9 rfl rfl <| el H fun t824 h825 H => cl rfl cal166 rfl (cmp_Compare_string.c h825) <| Dv.lit (intK .i64) ([t822, t824] : List Int) (css := [[vI t822], [vI t824]]) rfl trivial Tryz.underlying101 Tryz.underlying3 c3 z3 rfl (by decide) (by decide) rfl ⟨(cells_one (one_eq rfl)), ⟨(cells_one (one_eq rfl)), trivial⟩⟩ rfl rfl rfl <| el H fun t826 h827 H => cl rfl cal164 rfl (cmp_Or_int.c h827) <| as0 rfl rfl <| .fin ?_
 obtain rfl := Gets.out H
 exact rt i2 rfl () 2 [0,1] 2 (.cons (res_tmp rfl) .nil)
theorem posC_f (x y : Pos) : dag_Compare.f 8 x y = some (posC x y) := by
 unfold dag_Compare.f cmp_Compare_int.f cmp_Compare_string.f cmp_isNaN_int.f cmp_isNaN_string.f cmp_Or_int.f posC cmpS
 simp only [Option.bind_some, bne_self_eq_false, decide_true, Bool.not_true, cond_false]
 rcases Int.lt_trichotomy x.fDepth y.fDepth with h | h | h
 ·
  have h2 : ¬ y.fDepth < x.fDepth := by omega
  simp only [h, decide_true, cond_true, Option.bind_some, if_true]
  cases sLt x.fID y.fID <;> cases sLt y.fID x.fID <;> rfl
 rotate_left
 ·
  have h1 : ¬ x.fDepth < y.fDepth := by omega
  simp only [h, h1, decide_true, decide_false, cond_true, cond_false, Option.bind_some, if_true, if_false]
  cases sLt x.fID y.fID <;> cases sLt y.fID x.fID <;> rfl
 have h1 : ¬ x.fDepth < y.fDepth := by omega
 have h2 : ¬ y.fDepth < x.fDepth := by omega
 simp only [h1, h2, decide_false, cond_false, Option.bind_some, if_false]
 cases sLt x.fID y.fID <;> cases sLt y.fID x.fID <;> rfl
theorem posC_lt (x y : Pos) : ltOf posC x y = true ↔ x.fDepth < y.fDepth ∨ (x.fDepth = y.fDepth ∧ sLt x.fID y.fID = true) := by
 unfold ltOf posC
 rw [decide_eq_true_eq]
 by_cases h : x.fDepth < y.fDepth
 ·
  simp [h]
 by_cases h2 : y.fDepth < x.fDepth
 ·
  rw [if_neg h, if_pos h2]; constructor
  ·
   intro k; omega
  rintro (k | ⟨k, _⟩) <;> omega
 rw [if_neg h, if_neg h2, cmpS_lt]; constructor
 ·
  intro k; exact .inr ⟨by omega, k⟩
 rintro (k | ⟨_, k⟩)
 ·
  omega
 exact k
theorem posC_nlt (x y : Pos) : ltOf posC x y = false ↔ y.fDepth < x.fDepth ∨ (x.fDepth = y.fDepth ∧ sLt x.fID y.fID = false) := by
  have h := posC_lt x y
  cases e : ltOf posC x y with
  | true =>
    have h := h.1 e
    refine ⟨fun k => (by cases k), fun k => ?_⟩
    rcases h with h | ⟨h1, h2⟩ <;> rcases k with k | ⟨k1, k2⟩
    · omega
    · omega
    · omega
    · rw [h2] at k2; cases k2
  | false =>
    refine ⟨fun _ => ?_, fun _ => rfl⟩
    rw [e] at h
    have h : ¬ _ := fun k => by have := h.2 k; cases this
    rcases Int.lt_trichotomy x.fDepth y.fDepth with k | k | k
    · exact (h (.inl k)).elim
    · cases e2 : sLt x.fID y.fID with
      | true => exact (h (.inr ⟨k, e2⟩)).elim
      | false => exact .inr ⟨k, rfl⟩
    · exact .inl k
theorem posC_swo : Go.Sort.SWO (ltOf posC) where
  irrefl x := by rw [posC_nlt]; exact .inr ⟨rfl, sLt_irrefl _⟩
  trans x y z h1 h2 := by
    rw [posC_lt] at *
    rcases h1 with h1 | ⟨h1, k1⟩ <;> rcases h2 with h2 | ⟨h2, k2⟩
    · exact .inl (by omega)
    · exact .inl (by omega)
    · exact .inl (by omega)
    · exact .inr ⟨by omega, sLt_trans k1 k2⟩
  ntrans x y z h1 h2 := by
    rw [posC_nlt] at *
    rcases h1 with h1 | ⟨h1, k1⟩ <;> rcases h2 with h2 | ⟨h2, k2⟩
    · exact .inl (by omega)
    · exact .inl (by omega)
    · exact .inl (by omega)
    · exact .inr ⟨by omega, sLt_ntrans k2 k1⟩
theorem posC_tot (x y : Pos) (h1 : ltOf posC x y = false) (h2 : ltOf posC y x = false) : x = y := by
 rw [posC_nlt] at *
 rcases h1 with h1 | ⟨h1, k1⟩ <;> rcases h2 with h2 | ⟨h2, k2⟩
 ·
  omega
 ·
  omega
 ·
  omega
 obtain ⟨a, b⟩ := x; obtain ⟨c, d⟩ := y
 simp only at h1 k1 k2
 rw [h1, sLt_conn k1 k2]
theorem slices_SortFunc_Position.c {a0 : List Pos} {p0_ : OV} {r : List Pos} (h : slices_SortFunc_Position.f a0 = some r) : Tr Tryz.prog 160 [eq p0_.1, eq (.func (.func 161) #[] #[])] [own Pos.K p0_.1 a0] (γ := Unit) (fun _ => True) (fun g => tup []) (fun g => [own Pos.K p0_.1 r]) := by
 unfold slices_SortFunc_Position.f at h
 obtain ⟨h0, h5⟩ := (Gets.of h).grd
 obtain rfl := Gets.out h5
 exact sortf_tr (K := Pos.K) (ev := fun x => [.int .i64 x.fDepth, .string x.fID]) (fun _ => rfl) (by decide) (fun x y => dag_Compare.c (posC_f x y)) (fun blk off cap d w hc hH hb hs => AnyQ.slices_SortFunc_total Tryz.lays6 2 Tryz.isAgg125 Tryz.sizeOf125 _ (fun _ => rfl) (fun x v hv => by simp at hv; rcases hv with rfl | rfl <;> rfl) posC posC_swo 161 #[] blk off cap d w (enters_of Tryz.func161 (by kernel_rfl) rfl) hc hH hb hs posC_tot) (fun q cap w => AnyF.slices_SortFunc_none Tryz.lays6 q cap _ w) (by omega)

theorem dag_Dag_All_1.c {a0 : DNode} {b0_ : Nat} {r : Bool} (h : dag_Dag_All_1.f a0 = some r) : Tr Tryz.prog 148 [eq (.pointer (some ⟨b0_, 0, none⟩))] [blk b0_ 113 [vS a0.fe.fID, vS a0.fe.fRoom, sl strK a0.fe.fParents, vS a0.fe.fThread, vS a0.fe.fUser, vI a0.fe.fDoes, vI a0.fdepth, vB a0.fparent]] (γ := Unit) (fun _ => True) (fun g => vB r) (fun g => [blk b0_ 113 [vS a0.fe.fID, vS a0.fe.fRoom, sl strK a0.fe.fParents, vS a0.fe.fThread, vS a0.fe.fUser, vI a0.fe.fDoes, vI a0.fdepth, vB a0.fparent]]) := by
 unfold dag_Dag_All_1.f at h
 refine Tr.body Tryz.func148 (c := _) rfl Tryz.ntmps148 (Nat.le_of_ble_eq_true rfl) fun R0 F => ?_
 replace h := Gets.of h
 have H := h
 clear h
 refine WP.seq <| rg 1 0 <| as0 rfl rfl <| .fin <| WP.seq <| rg 1 0 <| as0 rfl rfl <| .fin ?_
 obtain rfl := Gets.out H
 exact rt i2 rfl () 1 [0] 0 (.cons (res_tmp rfl) .nil)
theorem dag_Dag_ids_All.c {a0 : DDag} {b0_ : Nat} {v0_0 : OV} {r : List ByteArray} (h : dag_Dag_ids_All.f a0 = some r) : Tr Tryz.prog 147 [eq (.pointer (some ⟨b0_, 0, none⟩)), eq (.func (.func 148) #[] #[])] [blk b0_ 110 [vS a0.froom, eq v0_0.1], mpo Value.string DNode.O v0_0.1 a0.fnodes] (γ := OV) (fun _ => True) (fun g => eq g.1) (fun g => [blk b0_ 110 [vS a0.froom, eq v0_0.1], mpo Value.string DNode.O v0_0.1 a0.fnodes, own strK g.1 r]) := by
  unfold dag_Dag_ids_All.f at h
  obtain ⟨h0, h5⟩ := (Gets.of h).grd
  obtain rfl := Gets.out h5
  clear h h5
  refine Tr.body Tryz.func147 (c := _) rfl Tryz.ntmps147 (Nat.le_of_ble_eq_true rfl) fun R0 F => ?_
  refine WP.seq <| rg 1 0 <| as0 rfl rfl <| .fin <| WP.seq <| rg 1 0 <| as0 rfl rfl <| .fin ?_
  refine WP.seqj (β := List Nat × OV) (fun b => b.1.Perm (List.range a0.fnodes.length)) (fun b => [(5, eq b.2.1), (1, eq (.func (.func 148) #[] #[]))]) (fun b => [own Pos.K b.2.1 (selM a0.fnodes dag_Dag_ids_All.g b.1), mpo Value.string DNode.O v0_0.1 a0.fnodes, blk b0_ 110 [vS a0.froom, eq v0_0.1]] ++ F) (fun b hb => ?_) ?_
  rotate_left
  · refine WP.seq <| rg 5 16 <| mv0 rfl rfl <| Dv.nilp rfl trivial rfl <| fb rfl trivial rfl fa110_1 <| ld 0 rfl trivial rfl sc108 rfl rfl ?_
    refine Dv.gh (l' := fun ps : List OV => [mp Value.string (fun p : OV => eq p.1) v0_0.1 (zipK a0.fnodes ps), thg DNode.O a0.fnodes ps, blk b0_ 110 [vS a0.froom, eq v0_0.1]] ++ F) (gh_of (mpo_opn 1 rfl)) (fun ps hps => ?_)
    refine Dv.rgb (jj := 0) rfl trivial rfl rfl Tryz.underlying108 nofun (fun q => .fin ?_)
    refine WP.gh (l' := fun _ : Unit => [rng Value.string (fun p : OV => eq p.1) v0_0.1 q.1 (zipK a0.fnodes ps) [], thg DNode.O a0.fnodes ps, blk b0_ 110 [vS a0.froom, eq v0_0.1]] ++ F) (gh_of (ok := fun _ => True) fun R w k => ⟨(), trivial, k⟩) (fun _ _ => ?_)
    refine WP.gh (l' := fun _ : Unit => [own Pos.K nilV.1 [], rng Value.string (fun p : OV => eq p.1) v0_0.1 q.1 (zipK a0.fnodes ps) [], thg DNode.O a0.fnodes ps, blk b0_ 110 [vS a0.froom, eq v0_0.1]] ++ F) (gh_of (st_nil Pos.K none)) (fun _ _ => ?_)
    refine WP.block ?_
    refine WP.weak (E' := (fun b : List Nat × OV => [(5, eq b.2.1), (15, eq q.1), (1, eq (.func (.func 148) #[] #[]))]) ([], nilV)) (weak_cons rfl (weak_cons rfl (weak_cons rfl weak_nil))) (WP.loop (β := List Nat × OV) (fun k b => b.1.length + k = a0.fnodes.length) (fun b => [(5, eq b.2.1), (15, eq q.1), (1, eq (.func (.func 148) #[] #[]))]) (fun b => [own Pos.K b.2.1 (selM a0.fnodes dag_Dag_ids_All.g b.1), rng Value.string (fun p : OV => eq p.1) v0_0.1 q.1 (zipK a0.fnodes ps) b.1, thg DNode.O a0.fnodes ps, blk b0_ 110 [vS a0.froom, eq v0_0.1]] ++ F) ?_ (k := a0.fnodes.length) (b := ([], nilV)) (Nat.zero_add _))
    rintro k ⟨is, v⟩ hk
    replace hk : is.length + k = a0.fnodes.length := hk
    refine WP.seq <| rg 2 1 <| Dv.rgn (jj := 1) rfl trivial rfl rfl nofun (fun z hz => ?_)
    rcases z with _ | j
    · have hz : is.Perm (List.range (zipK a0.fnodes ps).length) := hz
      rw [zipK_len hps.1] at hz
      refine ex0 rfl trivial rfl rfl <| .fin <| WP.seq <| WP.cond rfl nofun (fun _ => WP.exit ?_)
      refine Dn.gh (l' := fun _ : Unit => [own Pos.K v.1 (selM a0.fnodes dag_Dag_ids_All.g is), rng Value.string (fun p : OV => eq p.1) v0_0.1 q.1 (zipK a0.fnodes ps) is, thg DNode.O a0.fnodes ps, blk b0_ 110 [vS a0.froom, eq v0_0.1]] ++ F) (gh_of (ok := fun _ => True) fun R w k => ⟨(), trivial, k⟩) (fun _ _ => ?_)
      refine Dn.gh (l' := fun _ : Unit => [mp Value.string (fun p : OV => eq p.1) v0_0.1 (zipK a0.fnodes ps), own Pos.K v.1 (selM a0.fnodes dag_Dag_ids_All.g is), thg DNode.O a0.fnodes ps, blk b0_ 110 [vS a0.froom, eq v0_0.1]] ++ F) (gh_of (st_rge (pm 4 [1,0,2,3]))) (fun _ _ => ?_)
      refine Dn.gh (l' := fun _ : Unit => [mpo Value.string DNode.O v0_0.1 a0.fnodes, own Pos.K v.1 (selM a0.fnodes dag_Dag_ids_All.g is), blk b0_ 110 [vS a0.froom, eq v0_0.1]] ++ F) (gh_of (mpo_shut hps rfl (pm 4 [0,2,1,3]))) (fun _ _ => ?_)
      exact Jn.mk (is, v) hz (weak_cons rfl (weak_cons rfl weak_nil)) (perm_ton 3 [1,0,2] (by kernel_rfl) rfl rfl)
    have hz : j < (zipK a0.fnodes ps).length ∧ j ∉ is ∧ is.length < (zipK a0.fnodes ps).length := hz
    obtain ⟨e, p, he, hp, hep⟩ := zipK_get hps hz.1
    have hlt : is.length < a0.fnodes.length := by rw [← zipK_len hps.1]; exact hz.2.2
    have hsl := Nat.le_trans (selM_len (m := a0.fnodes) (f := dag_Dag_ids_All.g) (is := is)) (Nat.le_of_lt hlt)
    have e1 : nxV Value.string (fun p : OV => eq p.1) (zipK a0.fnodes ps) (some j) = tup [vB true, vS e.1, eq p.1] := by simp only [nxV, hep]
    rw [e1]
    refine ex0 rfl trivial rfl rfl <| .fin <| WP.seq <| WP.cond rfl (fun _ => WP.skip ?_) nofun
    refine WP.gh (l' := fun _ : Unit => [own Pos.K v.1 (selM a0.fnodes dag_Dag_ids_All.g is), rng Value.string (fun p : OV => eq p.1) v0_0.1 q.1 (zipK a0.fnodes ps) (is ++ [j]), thg DNode.O a0.fnodes ps, blk b0_ 110 [vS a0.froom, eq v0_0.1]] ++ F) (gh_of (ok := fun _ => True) fun R w k => ⟨(), trivial, k⟩) (fun _ _ => ?_)
    refine WP.block <| WP.seq <| rg 5 0 <| Dv.rge 1 rfl trivial rfl rfl hep ?_
    refine ex0 rfl trivial rfl rfl <| ex0 rfl trivial rfl rfl <| as0 rfl rfl <| as0 rfl rfl <| .fin ?_
    refine WP.gh (l' := fun _ : Unit => [DNode.O p e.2, thgX DNode.O a0.fnodes ps j, own Pos.K v.1 (selM a0.fnodes dag_Dag_ids_All.g is), rng Value.string (fun p : OV => eq p.1) v0_0.1 q.1 (zipK a0.fnodes ps) (is ++ [j]), blk b0_ 110 [vS a0.froom, eq v0_0.1]] ++ F) (gh_of (thg_foc he hp (pm 4 [2,0,1,3]))) (fun _ _ => ?_)
    refine WP.gh (l' := fun b : Nat => [blk b 113 [vS e.2.fe.fID, vS e.2.fe.fRoom, sl strK e.2.fe.fParents, vS e.2.fe.fThread, vS e.2.fe.fUser, vI e.2.fe.fDoes, vI e.2.fdepth, vB e.2.fparent], thgX DNode.O a0.fnodes ps j, own Pos.K v.1 (selM a0.fnodes dag_Dag_ids_All.g is), rng Value.string (fun p : OV => eq p.1) v0_0.1 q.1 (zipK a0.fnodes ps) (is ++ [j]), blk b0_ 110 [vS a0.froom, eq v0_0.1]] ++ F) (gh_of (DNode.opn 0 rfl)) (fun b hb => ?_)
    refine WP.seq <| rg 3 0 <| mv0 rfl rfl <| mv0 rfl rfl <| Dv.callc (fst := #[]) (B := [blk b 113 [vS e.2.fe.fID, vS e.2.fe.fRoom, sl strK e.2.fe.fParents, vS e.2.fe.fThread, vS e.2.fe.fUser, vI e.2.fe.fDoes, vI e.2.fdepth, vB e.2.fparent]]) (F := [thgX DNode.O a0.fnodes ps j, own Pos.K v.1 (selM a0.fnodes dag_Dag_ids_All.g is), rng Value.string (fun p : OV => eq p.1) v0_0.1 q.1 (zipK a0.fnodes ps) (is ++ [j]), blk b0_ 110 [vS a0.froom, eq v0_0.1]] ++ F) rfl trivial rfl cal148 rfl (Tr.weak (dag_Dag_All_1.c (a0 := e.2) (b0_ := b) (r := true) rfl) (.cons (wk_ptr hb) .nil)) (List.Perm.refl _) <| .fin ?_
    refine WP.cond rfl (fun c1 => ?_) (fun c1 => ?_)
    · have hg : dag_Dag_ids_All.g e = some ⟨e.2.fdepth, e.1⟩ := by unfold dag_Dag_ids_All.g; rw [c1]; rfl
      have e6 := selM_some (f := dag_Dag_ids_All.g) (is := is) he hg
      have hbd : (selM a0.fnodes dag_Dag_ids_All.g is).length + ([⟨e.2.fdepth, e.1⟩] : List Pos).length ≤ 9223372036854775807 ∧ ((selM a0.fnodes dag_Dag_ids_All.g is).length + ([⟨e.2.fdepth, e.1⟩] : List Pos).length) * 24 ≤ 140737488355328 := by rw [List.length_singleton]; omega
      refine rg 10 256 <| mv0 rfl rfl <| mv0 rfl rfl <| Dv.nilpp hb rfl trivial rfl <| fp hb rfl trivial rfl fa113_1 <| ld 0 rfl trivial rfl sc3 rfl rfl <| mv0 rfl rfl <| Dv.bld (css := [[vI e.2.fdepth], [vS e.1]]) rfl trivial Tryz.underlying125 pl125 z125 rfl ⟨(cells_one (one_eq rfl)), ⟨(cells_one (one_eq rfl)), trivial⟩⟩ rfl rfl <| Dv.lit Pos.K ([⟨e.2.fdepth, e.1⟩] : List Pos) (css := [[vI e.2.fdepth, vS e.1]]) rfl trivial Tryz.underlying162 Tryz.underlying125 c125 z125 rfl (by decide) (by decide) rfl ⟨cA, trivial⟩ rfl rfl rfl <| ap Pos.K 2 ([⟨e.2.fdepth, e.1⟩] : List Pos) src_sl Tryz.underlying162 (.inr ⟨_, Tryz.underlying162⟩) inf125 hbd nofun fun v9 => as0 rfl rfl <| .fin ?_
      refine Dn.gh (l' := fun _ : Unit => [DNode.O p e.2, thgX DNode.O a0.fnodes ps j, own Pos.K v9.1 ((selM a0.fnodes dag_Dag_ids_All.g is) ++ ([⟨e.2.fdepth, e.1⟩] : List Pos)), rng Value.string (fun p : OV => eq p.1) v0_0.1 q.1 (zipK a0.fnodes ps) (is ++ [j]), blk b0_ 110 [vS a0.froom, eq v0_0.1]] ++ F) (gh_of (DNode.shut (p := p) (m := e.2) b hb (List.Perm.refl _))) (fun _ _ => ?_)
      refine Dn.gh (l' := fun _ : Unit => [thg DNode.O a0.fnodes ps, own Pos.K v9.1 ((selM a0.fnodes dag_Dag_ids_All.g is) ++ ([⟨e.2.fdepth, e.1⟩] : List Pos)), rng Value.string (fun p : OV => eq p.1) v0_0.1 q.1 (zipK a0.fnodes ps) (is ++ [j]), blk b0_ 110 [vS a0.froom, eq v0_0.1]] ++ F) (gh_of (thg_unf he hp (List.Perm.refl _))) (fun _ _ => ?_)
      rw [e6]
      exact Back.mk (k - 1) (is ++ [j], v9) (by omega) (by show (is ++ [j]).length + (k - 1) = _; rw [List.length_append, List.length_singleton]; omega) (weak_cons rfl (weak_cons rfl (weak_cons rfl weak_nil))) (perm_ton 4 [1,2,0,3] (by kernel_rfl) rfl rfl)
    cases c1
  obtain ⟨is, v5⟩ := b
  replace hb : is.Perm (List.range a0.fnodes.length) := hb
  have hp := selM_perm (f := dag_Dag_ids_All.g) hb
  have hs : slices_SortFunc_Position.f (selM a0.fnodes dag_Dag_ids_All.g is) = some (srtF posC (a0.fnodes.filterMap dag_Dag_ids_All.g)) := by
    unfold slices_SortFunc_Position.f Sp.grd
    rw [if_pos (by rw [hp.length_eq]; exact Nat.le_trans (List.length_filterMap_le _ _) h0), srtF_perm posC_swo posC_tot hp]
  have hS : (srtF posC (a0.fnodes.filterMap dag_Dag_ids_All.g)).length ≤ 1000000 := by unfold srtF; rw [List.length_mergeSort]; exact Nat.le_trans (List.length_filterMap_le _ _) h0
  refine WP.seq <| rg 2 2 <| mv0 rfl rfl <| cx 3 [0,1,2] cal160 (slices_SortFunc_Position.c hs (p0_ := v5)) nofun fun _ _ => .fin ?_
  generalize srtF posC (a0.fnodes.filterMap dag_Dag_ids_All.g) = S at hS
  refine WP.seq <| rg 1 0 <| as0 rfl rfl <| .fin ?_
  refine WP.seqj (β := OV) (fun _ => True) (fun v => [(8, eq v.1)]) (fun v => [own strK v.1 (S.map (·.fID)), own Pos.K v5.1 S, mpo Value.string DNode.O v0_0.1 a0.fnodes, blk b0_ 110 [vS a0.froom, eq v0_0.1]] ++ F) (fun v _ => ?_) ?_
  · refine WP.seq <| rg 2 0 <| mv0 rfl rfl <| as0 rfl rfl <| .fin <| rt i2 rfl v 4 [1,3,2,0] 1 (.cons (res_tmp rfl) .nil)
  refine WP.seq <| rg 3 0 <| mv0 rfl rfl <| Dv.lenw (Kd := Pos.K) (xs := S) (v := v5.1) rfl trivial rfl (mem_at 0 rfl) Tryz.underlying162 <| mv0 rfl rfl <| .fin ?_
  refine WP.gh (l' := fun _ : Unit => [own strK nilV.1 [], own Pos.K v5.1 S, mpo Value.string DNode.O v0_0.1 a0.fnodes, blk b0_ 110 [vS a0.froom, eq v0_0.1]] ++ F) (gh_of (st_nil strK none)) (fun _ _ => ?_)
  refine WP.block ?_
  refine WP.weak (E' := (fun b : Nat × OV => [(8, eq b.2.1), (35, eq v5.1), (36, vI (S.length : Int)), (37, vI (b.1 : Int))]) (0, nilV)) (weak_cons rfl (weak_cons rfl (weak_cons rfl (weak_cons rfl weak_nil)))) (WP.loop (β := Nat × OV) (fun k b => b.1 + k = S.length) (fun b => [(8, eq b.2.1), (35, eq v5.1), (36, vI (S.length : Int)), (37, vI (b.1 : Int))]) (fun b => [own strK b.2.1 ((S.take b.1).map (·.fID)), own Pos.K v5.1 S, mpo Value.string DNode.O v0_0.1 a0.fnodes, blk b0_ 110 [vS a0.froom, eq v0_0.1]] ++ F) ?_ (k := S.length) (b := (0, nilV)) (Nat.zero_add _))
  rintro k ⟨j, v8⟩ hk
  replace hk : j + k = S.length := hk
  refine WP.seq <| rg 1 0 <| bn0 rfl rfl rfl run_lt <| .fin <| WP.seq <| WP.cond rfl (fun c2 => WP.skip ?_) (fun c2 => WP.exit ?_)
  rotate_left
  · have c3 : ¬ ((j : Int) < (S.length : Int)) := of_decide_eq_false c2
    have e3 : S.take j = S := List.take_of_length_le (by omega)
    change ∀ R a w, R0.le R → Agr _ R a _ → St R ([own strK v8.1 ((S.take j).map (·.fID)), own Pos.K v5.1 S, mpo Value.string DNode.O v0_0.1 a0.fnodes, blk b0_ 110 [vS a0.froom, eq v0_0.1]] ++ F) w → _
    rw [e3]
    exact Jn.mk v8 trivial (weak_cons rfl weak_nil) (List.Perm.refl _)
  have c3 : (j : Int) < (S.length : Int) := of_decide_eq_true c2
  have hj : j < S.length := by omega
  refine WP.seq <| WP.block <| WP.seq <| rg 4 12 <| Dv.ixw rfl trivial rfl (mem_at 1 rfl) rfl Tryz.underlying162 Tryz.underlying125 c125 (by omega) c3 <| Dv.ldws (j := j) (f := 0) rfl trivial rfl (mem_at 1 rfl) hj Tryz.underlying125 rfl c125 (Nat.le_of_ble_eq_true rfl) <| al rfl trivial zc125 nofun fun b => sx 0 rfl trivial rfl rfl cA sz125 rfl rfl rfl nofun <| .fin ?_
  have hbd : ((S.take j).map (·.fID)).length + ([(S.getD j default).fID] : List ByteArray).length ≤ 9223372036854775807 ∧ (((S.take j).map (·.fID)).length + ([(S.getD j default).fID] : List ByteArray).length) * 16 ≤ 140737488355328 := by rw [List.length_singleton, List.length_map, List.length_take]; omega
  refine rg 6 16 <| mv0 rfl rfl <| fb rfl trivial rfl fa125_1 <| ld 0 rfl trivial rfl sc9 rfl rfl <| Dv.lit strK ([(S.getD j default).fID] : List ByteArray) (css := [[vS ((S.getD j default).fID)]]) rfl trivial Tryz.underlying35 Tryz.underlying9 c9 z9 rfl (by decide) (by decide) rfl ⟨(cells_one (one_eq rfl)), trivial⟩ rfl rfl rfl <| ap strK 1 ([(S.getD j default).fID] : List ByteArray) src_sl Tryz.underlying35 (.inr ⟨_, Tryz.underlying35⟩) inf9 hbd nofun fun v9 => as0 rfl rfl <| .fin ?_
  refine WP.gh (l' := fun _ : Unit => [own strK v9.1 ((S.take j).map (·.fID) ++ ([(S.getD j default).fID] : List ByteArray)), own Pos.K v5.1 S, mpo Value.string DNode.O v0_0.1 a0.fnodes, blk b0_ 110 [vS a0.froom, eq v0_0.1]] ++ F) (gh_of (st_selgn 5 [0,1,2,3,4] 1 (by kernel_rfl) rfl rfl)) (fun _ _ => ?_)
  have e4 : (S.take j).map (·.fID) ++ ([(S.getD j default).fID] : List ByteArray) = (S.take (j + 1)).map (·.fID) := by rw [List.take_add_one, List.map_append, List.getD_eq_getElem?_getD, List.getElem?_eq_getElem hj]; rfl
  rw [e4]
  refine rg 2 0 <| bn0 rfl rfl rfl (run_addn (a := j) (b := 1) (by omega)) <| mv0 rfl rfl <| .fin ?_
  exact Back.mk (k - 1) (j + 1, v9) (by omega) (by show j + 1 + (k - 1) = S.length; omega) (weak_cons rfl (weak_cons rfl (weak_cons rfl (weak_cons rfl weak_nil)))) (List.Perm.refl _)
theorem dag_Dag_All.c {k : Nat} {a0 : DDag} {v0_0 : OV} {b0_ : Nat} {r : (List Event)} (h : dag_Dag_All.f k a0 = some r) : Tr Tryz.prog 125 [eq (.pointer (some ⟨b0_, 0, none⟩))] [blk b0_ 110 [vS a0.froom, eq v0_0.1], mpo Value.string DNode.O v0_0.1 a0.fnodes] (γ := OV) (fun _ => True) (fun g => eq g.1) (fun g => [blk b0_ 110 [vS a0.froom, eq v0_0.1], mpo Value.string DNode.O v0_0.1 a0.fnodes, own Event.K g.1 r]) := by
 unfold dag_Dag_All.f at h
 refine Tr.body Tryz.func125 (c := _) rfl Tryz.ntmps125 (Nat.le_of_ble_eq_true rfl) fun R0 F => ?_
 replace h := Gets.of h
 have H := h
 clear h
 refine WP.seq <| rg 1 0 <| as0 rfl rfl <| .fin <| WP.seq <| rg 1 0 <| as0 rfl rfl <| .fin <| WP.seqn H (fun q851 : (Int × Int × Bool × (List Event) × (List ByteArray)) × OV × OV => q851.1) (fun q851 : (Int × Int × Bool × (List Event) × (List ByteArray)) × OV × OV => [(0, eq (.pointer (some ⟨b0_, 0, none⟩))), (2, eq (.slice none 0 0)), (3, eq q851.2.1.1), (7, eq q851.2.2.1), (8, vI q851.1.1), (9, vI q851.1.2.1), (10, vB q851.1.2.2.1)]) (fun q851 : (Int × Int × Bool × (List Event) × (List ByteArray)) × OV × OV => [blk b0_ 110 [vS a0.froom, eq v0_0.1], mpo Value.string DNode.O v0_0.1 a0.fnodes, own Event.K q851.2.1.1 q851.1.2.2.2.1, own strK q851.2.2.1 q851.1.2.2.2.2] ++ F) (fun q851 H => ?_) (fun H => ?_)
 ·
  obtain ⟨p828, v829, v830⟩ := q851
  refine WP.seq <| rg 2 0 <| mv0 rfl rfl <| as0 rfl rfl <| .fin ?_
  obtain rfl := Gets.out H
  exact rt i2 rfl v829 4 [3,0,1,2] 1 (.cons (res_tmp rfl) .nil)
 refine WP.seq <| rg 4 2 <| mv0 rfl rfl <| el H fun t831 h832 H => cx 2 [0,1] cal147 (dag_Dag_ids_All.c h832 (b0_ := b0_) (v0_0 := v0_0)) nofun fun g833 _ => ?_
 refine Dv.lenw rfl trivial rfl (mem_at 2 rfl) Tryz.underlying35 <| mv0 rfl rfl <| .fin <| WP.block <| wg (st_nil Event.K none) fun _ _ => ?_
 refine wg (sg 4 [1,2,3,0] 0) fun _ _ => ?_
 refine lp (fun j_ (p850 : Int × (List Event) × OV) => dag_Dag_All.l0 k a0 t831 j_ p850.1 p850.2.1) (0, ([] : List Event), nilV) H (fun p850 => [(0, eq (.pointer (some ⟨b0_, 0, none⟩))), (2, eq (.slice none 0 0)), (3, eq p850.2.2.1), (7, eq g833.1), (8, vI (t831.length : Int)), (9, vI p850.1)]) (fun p850 => [blk b0_ 110 [vS a0.froom, eq v0_0.1], mpo Value.string DNode.O v0_0.1 a0.fnodes, own strK g833.1 t831, own Event.K p850.2.2.1 p850.2.1] ++ F) ?_
 rintro j_ ⟨x834, x835, v836⟩ H
 rcases j_ with _ | j849
 ·
  exact (Gets.no H).elim
 replace H : Gets (dag_Dag_All.l0 k a0 t831 (j849 + 1) x834 x835) _ := H
 rw [dag_Dag_All.l0] at H
 refine WP.seq <| rg 1 0 <| bn0 rfl rfl rfl run_lt <| .fin <| WP.seq <| cd H rfl (fun _ H => ?_) (fun _ H => ?_)
 rotate_left
 ·
  refine WP.exit ?_
  replace H := Gets.out H
  refine ng (sg 4 [0,1,3,2] 0) fun _ _ => ?_
  exact jn (((t831.length : Int), x834, decide (x834 < (t831.length : Int)), x835, t831), v836, g833) H
 refine WP.skip <| WP.seq <| WP.block <| WP.seq <| rg 3 0 <| gr H fun g838 H => ?_
 have h839 : x834.toNat < t831.length := idx_lt g838
 refine Dv.ixw rfl trivial rfl (mem_at 2 rfl) rfl Tryz.underlying35 Tryz.underlying9 c9 g838.1 g838.2 <| Dv.ldw (j := x834.toNat) (f := 0) (p := vS (t831.getD x834.toNat default)) rfl trivial rfl (mem_at 2 rfl) h839 Tryz.underlying9 rfl rfl <| as0 rfl rfl <| .fin <| rg 14 4096 <| mv0 rfl rfl <| mv0 rfl rfl <| Dv.nilp rfl trivial rfl <| fb rfl trivial rfl fa110_1 <| ld 0 rfl trivial rfl sc108 rfl rfl <| mv0 rfl rfl <| vg (mpo_opn 1 rfl) fun z840 h841 => ?_
 refine Dv.mlv nilP rfl trivial rfl (mem_at 0 rfl) rfl Tryz.underlying108 (keyOk_str Tryz.underlying9) z111 (fun _ => rfl) <| gr H fun g842 H => vg (mpo_foc h841 rfl g842 (pm 5 [1,0,2,3,4])) fun _ _ => ?_
 refine Dv.nilA DNode.nn rfl trivial rfl (mem_at 0 rfl) <| vg (DNode.opn 0 rfl) fun g843 h844 => ?_
 refine fp h844 rfl trivial rfl fa113_0 <| lds 0 rfl trivial rfl sg59 rfl rfl <| el H fun t845 h846 H => cl rfl cal97 rfl (dag_own.c h846) <| Dv.lit Event.K ([t845] : List Event) (css := [Event.enc t845]) rfl trivial Tryz.underlying54 Tryz.underlying59 c59 z59 rfl (by decide) (by decide) rfl ⟨(cells_agg (Event.K.one _)), trivial⟩ rfl rfl rfl <| gr H fun g847 H => ap Event.K 5 ([t845] : List Event) src_sl Tryz.underlying54 (.inr ⟨_, Tryz.underlying54⟩) inf59 g847 nofun fun v848 => ?_
 refine as0 rfl rfl <| .fin <| rg 2 0 <| bn0 rfl rfl rfl run_add <| mv0 rfl rfl <| .fin <| ng (DNode.shut (p := ((mget (zipK a0.fnodes z840) (t831.getD x834.toNat default)).getD nilP)) (m := (mget a0.fnodes (t831.getD x834.toNat default)).getD default) g843 h844 (pm 6 [0,1,2,3,4,5])) fun _ _ => ?_
 refine ng (mpo_unf0 h841 rfl g842 (pm 6 [0,1,2,3,4,5])) fun _ _ => ?_
 refine ng (mpo_shut h841 rfl (pm 5 [1,0,2,3,4])) fun _ _ => ?_
 refine ng (sg 4 [1,0,2,3] 0) fun _ _ => ?_
 exact bk j849 (w64 (x834 + 1), x835 ++ ([t845] : List Event), v848) H
end Go.Proofs.YtdhaolcplgbalaaGreat
