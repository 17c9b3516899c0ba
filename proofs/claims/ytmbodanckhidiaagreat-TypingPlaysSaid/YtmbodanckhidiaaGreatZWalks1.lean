/- The walks. -/
import Derived.Test.YtmbodanckhidiaaGreatZMir
import Derived.Test.YtmbodanckhidiaaGreatConQ
import Derived.Eval
import Derived.Test.YtmbodanckhidiaaGreatZShelf
set_option linter.all false
set_option maxRecDepth 10000
set_option maxHeartbeats 20000000
namespace Go.Proofs.YtmbodanckhidiaaGreat
open Go Go.Sp
theorem heap_New.c {r : HHeap} (h : heap_New.f = some r) : Tr Tryz.prog 21 [] [] (γ := OV) (fun _ => True) (fun g => eq g.1) (fun g => [HHeap.O g r]) := by
 unfold heap_New.f at h
 refine Tr.body Tryz.func21 (c := _) rfl Tryz.ntmps21 (Nat.le_of_ble_eq_true rfl) fun R0 F => ?_
 replace h := Gets.of h
 have H := h
 clear h
 refine WP.seq <| rg 1 0 <| as0 rfl rfl <| .fin <| WP.seq <| rg 4 5 <| Dv.mmk Value.string (fun x : Int => vI x) rfl trivial nofun (fun v1 => ?_)
 refine Dv.bld (qs := [eq (.slice none 0 0), eq v1.1]) (css := [[eq v1.1]]) rfl trivial Tryz.underlying80 pl80 z80 rfl ⟨(cells_one one_ov), trivial⟩ rfl rfl <| Dv.box rfl trivial rfl cA nofun fun b2 => as0 rfl rfl <| .fin <| wg (st_nil HEnt.K none) fun _ _ => ?_
 refine wg (HHeap.shut (p := (⟨.pointer (some ⟨b2, 0, none⟩), rfl⟩ : OV)) (m := (⟨([] : List HEnt), ([] : List (ByteArray × Int))⟩ : HHeap)) (b2, nilV, v1) rfl (pm 3 [1,0,2])) fun _ _ => ?_
 obtain rfl := Gets.out H
 exact rt i2 rfl (⟨.pointer (some ⟨b2, 0, none⟩), rfl⟩ : OV) 1 [0] 0 (.cons (res_tmp rfl) .nil)
theorem typing_New.c {r : TTab} (h : typing_New.f = some r) : Tr Tryz.prog 5 [] [] (γ := OV) (fun _ => True) (fun g => eq g.1) (fun g => [TTab.O g r]) := by
 unfold typing_New.f at h
 refine Tr.body Tryz.func5 (c := _) rfl Tryz.ntmps5 (Nat.le_of_ble_eq_true rfl) fun R0 F => ?_
 replace h := Gets.of h
 have H := h
 clear h
 refine WP.seq <| rg 1 0 <| as0 rfl rfl <| .fin <| WP.seq <| rg 4 5 <| el H fun t3 h4 H => cx 0 [] cal21 (heap_New.c h4) nofun fun g5 _ => ?_
 refine Dv.bld (qs := [eq (.slice none 0 0), eq g5.1]) (css := [[eq g5.1]]) rfl trivial Tryz.underlying56 pl56 z56 rfl ⟨(cells_one one_ov), trivial⟩ rfl rfl <| Dv.box rfl trivial rfl cA nofun fun b6 => as0 rfl rfl <| .fin <| wg (st_nil Edu.K none) fun _ _ => ?_
 refine wg (TTab.shut (p := (⟨.pointer (some ⟨b6, 0, none⟩), rfl⟩ : OV)) (m := (⟨([] : List Edu), t3⟩ : TTab)) (b6, nilV, g5) rfl (pm 3 [1,0,2])) fun _ _ => ?_
 obtain rfl := Gets.out H
 exact rt i2 rfl (⟨.pointer (some ⟨b6, 0, none⟩), rfl⟩ : OV) 1 [0] 0 (.cons (res_tmp rfl) .nil)
theorem concourseref01_Around.c {a0 : Int} {a1 : Int} {r : Int} (h : concourseref01_Around.f a0 a1 = some r) : Pt Tryz.prog 40 [vI a0, vI a1] (vI r) := by
 unfold concourseref01_Around.f at h
 refine (Tr.body Tryz.func40 (c := _) rfl Tryz.ntmps40 (Nat.le_of_ble_eq_true rfl) fun R0 F => ?_).pt
 replace h := Gets.of h
 have H := h
 clear h
 refine WP.seq <| rg 1 0 <| as0 rfl rfl <| .fin <| WP.seq <| WP.seq <| rg 2 0 <| mv0 rfl rfl <| bn0 rfl rfl rfl run_lt <| .fin <| cd H rfl (fun _ H => ?_) (fun _ H => ?_)
 rotate_left
 ·
  refine WP.skip <| WP.seq <| rg 4 0 <| mv0 rfl rfl <| mv0 rfl rfl <| gr H fun g9 H => bn0 rfl rfl rfl (run_rem g9) <| as0 rfl rfl <| .fin ?_
  obtain rfl := Gets.out H
  exact rt i2 rfl () 0 [] 0 (.cons (res_tmp rfl) .nil)
 refine rg 4 0 <| mv0 rfl rfl <| bn0 rfl rfl rfl run_add <| un0 rfl rfl (run_neg _ _) <| as0 rfl rfl <| .fin <| WP.seq <| rg 4 0 <| mv0 rfl rfl <| mv0 rfl rfl <| gr H fun g8 H => bn0 rfl rfl rfl (run_rem g8) <| as0 rfl rfl <| .fin ?_
 obtain rfl := Gets.out H
 exact rt i2 rfl () 0 [] 0 (.cons (res_tmp rfl) .nil)
theorem concourseref01_RoomOf.c {a0 : Int} {r : ByteArray} (h : concourseref01_RoomOf.f a0 = some r) : Pt Tryz.prog 20 [vI a0] (vS r) := by
 unfold concourseref01_RoomOf.f at h
 refine (Tr.body Tryz.func20 (c := _) rfl Tryz.ntmps20 (Nat.le_of_ble_eq_true rfl) fun R0 F => ?_).pt
 replace h := Gets.of h
 have H := h
 clear h
 refine WP.seq <| rg 1 0 <| as0 rfl rfl <| .fin <| WP.seq <| rg 6 0 <| Dv.lit strK ([(⟨#[33, 114, 58, 115, 49]⟩ : ByteArray), (⟨#[33, 113, 58, 115, 50]⟩ : ByteArray)] : List ByteArray) (css := [[vS (⟨#[33, 114, 58, 115, 49]⟩ : ByteArray)], [vS (⟨#[33, 113, 58, 115, 50]⟩ : ByteArray)]]) rfl trivial Tryz.underlying37 Tryz.underlying9 c9 z9 rfl (by decide) (by decide) rfl ⟨(cells_one (one_eq rfl)), ⟨(cells_one (one_eq rfl)), trivial⟩⟩ rfl rfl rfl <| mv0 rfl rfl <| el H fun t10 h11 H => cl rfl cal40 rfl (concourseref01_Around.c h11) <| gr H fun g12 H => Dv.ixr rfl trivial rfl rfl Tryz.underlying37 Tryz.underlying9 c9 g12.1 g12.2 <| ldR rfl trivial rfl sc9 rfl <| as0 rfl rfl <| .fin ?_
 obtain rfl := Gets.out H
 exact rt i2 rfl () 0 [] 0 (.cons (res_tmp rfl) .nil)
theorem concourseref01_ServerOf.c {a0 : Int} {r : ByteArray} (h : concourseref01_ServerOf.f a0 = some r) : Pt Tryz.prog 61 [vI a0] (vS r) := by
 unfold concourseref01_ServerOf.f at h
 refine (Tr.body Tryz.func61 (c := _) rfl Tryz.ntmps61 (Nat.le_of_ble_eq_true rfl) fun R0 F => ?_).pt
 replace h := Gets.of h
 have H := h
 clear h
 refine WP.seq <| rg 1 0 <| as0 rfl rfl <| .fin <| WP.seq <| rg 6 0 <| Dv.lit strK ([(⟨#[115, 49]⟩ : ByteArray), (⟨#[115, 50]⟩ : ByteArray), (⟨#[115, 51]⟩ : ByteArray)] : List ByteArray) (css := [[vS (⟨#[115, 49]⟩ : ByteArray)], [vS (⟨#[115, 50]⟩ : ByteArray)], [vS (⟨#[115, 51]⟩ : ByteArray)]]) rfl trivial Tryz.underlying37 Tryz.underlying9 c9 z9 rfl (by decide) (by decide) rfl ⟨(cells_one (one_eq rfl)), ⟨(cells_one (one_eq rfl)), ⟨(cells_one (one_eq rfl)), trivial⟩⟩⟩ rfl rfl rfl <| mv0 rfl rfl <| el H fun t13 h14 H => cl rfl cal40 rfl (concourseref01_Around.c h14) <| gr H fun g15 H => Dv.ixr rfl trivial rfl rfl Tryz.underlying37 Tryz.underlying9 c9 g15.1 g15.2 <| ldR rfl trivial rfl sc9 rfl <| as0 rfl rfl <| .fin ?_
 obtain rfl := Gets.out H
 exact rt i2 rfl () 0 [] 0 (.cons (res_tmp rfl) .nil)
theorem concourseref01_UserOf.c {a0 : Int} {r : ByteArray} (h : concourseref01_UserOf.f a0 = some r) : Pt Tryz.prog 41 [vI a0] (vS r) := by
 unfold concourseref01_UserOf.f at h
 refine (Tr.body Tryz.func41 (c := _) rfl Tryz.ntmps41 (Nat.le_of_ble_eq_true rfl) fun R0 F => ?_).pt
 replace h := Gets.of h
 have H := h
 clear h
 refine WP.seq <| rg 1 0 <| as0 rfl rfl <| .fin <| WP.seq <| rg 3 0 <| mv0 rfl rfl <| el H fun t16 h17 H => cl rfl cal40 rfl (concourseref01_Around.c h17) <| as0 rfl rfl <| .fin <| WP.seq <| dg Tryz.checked.mixed 10 0 <| Dv.lit strK ([(⟨#[64, 97, 58]⟩ : ByteArray), (⟨#[64, 98, 58]⟩ : ByteArray), (⟨#[64, 99, 58]⟩ : ByteArray)] : List ByteArray) (css := [[vS (⟨#[64, 97, 58]⟩ : ByteArray)], [vS (⟨#[64, 98, 58]⟩ : ByteArray)], [vS (⟨#[64, 99, 58]⟩ : ByteArray)]]) rfl trivial Tryz.underlying37 Tryz.underlying9 c9 z9 rfl (by decide) (by decide) rfl ⟨(cells_one (one_eq rfl)), ⟨(cells_one (one_eq rfl)), ⟨(cells_one (one_eq rfl)), trivial⟩⟩⟩ rfl rfl rfl <| mv0 rfl rfl <| bn0 rfl rfl rfl (run_quo (by decide)) <| gr H fun g18 H => Dv.ixr rfl trivial rfl rfl Tryz.underlying37 Tryz.underlying9 c9 g18.1 g18.2 <| ldR rfl trivial rfl sc9 rfl <| mv0 rfl rfl <| bn0 rfl rfl rfl (run_rem (by decide)) <| el H fun t19 h20 H => cl rfl cal61 rfl (concourseref01_ServerOf.c h20) <| gr H fun g21 H => bn0 rfl rfl rfl (run_cat g21) <| as0 rfl rfl <| .fin ?_
 obtain rfl := Gets.out H
 exact rt i2 rfl () 0 [] 0 (.cons (res_tmp rfl) .nil)
theorem concourseref01_Decimal.c : ∀ (k : Nat) {a0 : Int} {r : ByteArray} (h : concourseref01_Decimal.f k a0 = some r), Pt Tryz.prog 62 [vI a0] (vS r)
  | 0, _, _, h => by cases h
  | k + 1, a0, r, h => by
    rw [concourseref01_Decimal.f] at h
    refine (Tr.body Tryz.func62 (c := _) rfl Tryz.ntmps62 (Nat.le_of_ble_eq_true rfl) fun R0 F => ?_).pt
    replace h := Gets.of h
    have H := h
    clear h
    refine WP.seq <| rg 1 0 <| as0 rfl rfl <| .fin <| WP.seq <| rg 3 0 <| mv0 rfl rfl <| bn0 rfl rfl rfl (run_rem (by decide)) <| as0 rfl rfl <| .fin <| WP.seqn H id (fun p22 : Int => [(0, vI a0), (2, vS (⟨#[]⟩ : ByteArray)), (3, vI p22), (8, vB (decide ((a0.tmod 10) < 0)))]) (fun p22 : Int => F) (fun p22 H => ?_) (fun H => ?_)
    rotate_left
    ·
     refine WP.seq <| rg 2 0 <| mv0 rfl rfl <| bn0 rfl rfl rfl run_lt <| .fin <| cd H rfl (fun _ H => ?_) (fun _ H => ?_)
     rotate_left
     ·
      refine WP.skip ?_
      replace H := Gets.out H
      exact jn (a0.tmod 10) H
     refine rg 3 0 <| mv0 rfl rfl <| un0 rfl rfl (run_neg _ _) <| as0 rfl rfl <| .fin ?_
     replace H := Gets.out H
     exact jn (w64 (0 - (a0.tmod 10))) H
    refine WP.seq <| rg 6 0 <| mv0 rfl rfl <| bn0 rfl rfl rfl run_add <| Dv.cvi rfl trivial rfl Tryz.underlying3 Tryz.underlying5 <| Dv.lit (intK .u8) ([IntKind.u8.wrap (w64 (48 + p22))] : List Int) (css := [[eq (.int .u8 (IntKind.u8.wrap (w64 (48 + p22))))]]) rfl trivial Tryz.underlying81 Tryz.underlying5 c5 z5 rfl (by decide) (by decide) rfl ⟨(cells_one (one_eq rfl)), trivial⟩ rfl rfl rfl <| Dv.cvbs rfl trivial rfl Tryz.underlying81 Tryz.underlying5 Tryz.underlying9 <| as0 rfl rfl <| .fin <| WP.seq <| WP.seq <| rg 6 0 <| mv0 rfl rfl <| bn0 rfl rfl rfl run_gt <| mv0 rfl rfl ?_
    cases c23 : decide ((-10) < a0)
    ·
     replace H := Gets.cf H c23
     refine sk rfl rfl <| sk rfl rfl <| pf0 rfl rfl rfl <| .fin <| WP.cond rfl nofun (fun _ => ?_)
     refine WP.skip <| WP.seq <| rg 6 0 <| mv0 rfl rfl <| bn0 rfl rfl rfl (run_quo (by decide)) <| el H fun t31 h32 H => cl rfl cal62 rfl (concourseref01_Decimal.c k h32) <| mv0 rfl rfl <| gr H fun g33 H => bn0 rfl rfl rfl (run_cat g33) <| as0 rfl rfl <| .fin ?_
     obtain rfl := Gets.out H
     exact rt i2 rfl () 0 [] 0 (.cons (res_tmp rfl) .nil)
    replace H := Gets.ct H c23
    refine mvg rfl rfl rfl <| bng rfl rfl rfl rfl run_lt <| pt0 rfl rfl rfl <| .fin <| cd H rfl (fun _ H => ?_) (fun _ H => ?_)
    rotate_left
    ·
     refine WP.skip <| WP.seq <| rg 6 0 <| mv0 rfl rfl <| bn0 rfl rfl rfl (run_quo (by decide)) <| el H fun t27 h28 H => cl rfl cal62 rfl (concourseref01_Decimal.c k h28) <| mv0 rfl rfl <| gr H fun g29 H => bn0 rfl rfl rfl (run_cat g29) <| as0 rfl rfl <| .fin ?_
     obtain rfl := Gets.out H
     exact rt i2 rfl () 0 [] 0 (.cons (res_tmp rfl) .nil)
    refine WP.seq <| WP.seq <| rg 2 0 <| mv0 rfl rfl <| bn0 rfl rfl rfl run_lt <| .fin <| cd H rfl (fun _ H => ?_) (fun _ H => ?_)
    rotate_left
    ·
     refine WP.skip <| WP.seq <| rg 2 0 <| mv0 rfl rfl <| as0 rfl rfl <| .fin ?_
     obtain rfl := Gets.out H
     exact rt i2 rfl () 0 [] 0 (.cons (res_tmp rfl) .nil)
    refine WP.seq <| rg 3 0 <| mv0 rfl rfl <| gr H fun g26 H => bn0 rfl rfl rfl (run_cat g26) <| as0 rfl rfl <| .fin ?_
    obtain rfl := Gets.out H
    exact rt i2 rfl () 0 [] 0 (.cons (res_tmp rfl) .nil)
theorem concourseref01_EventOf.c {k : Nat} {a0 : Int} {r : ByteArray} (h : concourseref01_EventOf.f k a0 = some r) : Pt Tryz.prog 42 [vI a0] (vS r) := by
 unfold concourseref01_EventOf.f at h
 refine (Tr.body Tryz.func42 (c := _) rfl Tryz.ntmps42 (Nat.le_of_ble_eq_true rfl) fun R0 F => ?_).pt
 replace h := Gets.of h
 have H := h
 clear h
 refine WP.seq <| rg 1 0 <| as0 rfl rfl <| .fin <| WP.seq <| rg 5 0 <| mv0 rfl rfl <| el H fun t35 h36 H => cl rfl cal40 rfl (concourseref01_Around.c h36) <| el H fun t37 h38 H => cl rfl cal62 rfl (concourseref01_Decimal.c _ h38) <| gr H fun g39 H => bn0 rfl rfl rfl (run_cat g39) <| as0 rfl rfl <| .fin ?_
 obtain rfl := Gets.out H
 exact rt i2 rfl () 0 [] 0 (.cons (res_tmp rfl) .nil)
theorem concourseref01_ThreadOf.c {k : Nat} {a0 : Int} {r : ByteArray} (h : concourseref01_ThreadOf.f k a0 = some r) : Pt Tryz.prog 43 [vI a0] (vS r) := by
 unfold concourseref01_ThreadOf.f at h
 refine (Tr.body Tryz.func43 (c := _) rfl Tryz.ntmps43 (Nat.le_of_ble_eq_true rfl) fun R0 F => ?_).pt
 replace h := Gets.of h
 have H := h
 clear h
 refine WP.seq <| rg 1 0 <| as0 rfl rfl <| .fin <| WP.seq <| rg 3 0 <| mv0 rfl rfl <| el H fun t40 h41 H => cl rfl cal40 rfl (concourseref01_Around.c h41) <| as0 rfl rfl <| .fin <| WP.seq <| WP.seq <| rg 2 0 <| mv0 rfl rfl <| bn0 rfl rfl rfl run_eq <| .fin <| cd H rfl (fun _ H => ?_) (fun _ H => ?_)
 ·
  refine WP.seq <| rg 1 0 <| as0 rfl rfl <| .fin ?_
  obtain rfl := Gets.out H
  exact rt i2 rfl () 0 [] 0 (.cons (res_tmp rfl) .nil)
 refine WP.skip <| WP.seq <| WP.seq <| rg 2 0 <| mv0 rfl rfl <| bn0 rfl rfl rfl run_eq <| .fin <| cd H rfl (fun _ H => ?_) (fun _ H => ?_)
 ·
  refine WP.seq <| rg 1 0 <| as0 rfl rfl <| .fin ?_
  obtain rfl := Gets.out H
  exact rt i2 rfl () 0 [] 0 (.cons (res_tmp rfl) .nil)
 refine WP.skip <| WP.seq <| rg 3 0 <| mv0 rfl rfl <| el H fun t44 h45 H => cl rfl cal42 rfl (concourseref01_EventOf.c h45) <| as0 rfl rfl <| .fin ?_
 obtain rfl := Gets.out H
 exact rt i2 rfl () 0 [] 0 (.cons (res_tmp rfl) .nil)
theorem concourseref03_Good.c {k : Nat} {a0 : Edu} {r : Edu} (h : concourseref03_Good.f k a0 = some r) : Pt Tryz.prog 22 [agg (Edu.enc a0)] (agg (Edu.enc r)) := by
 unfold concourseref03_Good.f at h
 refine (Tr.body Tryz.func22 (c := _) rfl Tryz.ntmps22 (Nat.le_of_ble_eq_true rfl) fun R0 F => ?_).pt
 replace h := Gets.of h
 have H := h
 clear h
 refine WP.seq <| rg 2 3 <| Dv.box rfl trivial rfl cA nofun fun b46 => al rfl trivial zc30 nofun fun b47 => .fin <| WP.seq <| dg Tryz.checked.mixed 16 49152 <| fb rfl trivial rfl fa30_0 <| ld 1 rfl trivial rfl sc3 rfl rfl <| el H fun t48 h49 H => cl rfl cal40 rfl (concourseref01_Around.c h49) <| bn0 rfl rfl rfl run_add <| fb rfl trivial rfl fa30_8 <| ld 1 rfl trivial rfl sc3 rfl rfl <| el H fun t50 h51 H => cl rfl cal41 rfl (concourseref01_UserOf.c h51) <| fb rfl trivial rfl fa30_9 <| ld 1 rfl trivial rfl sc3 rfl rfl <| el H fun t52 h53 H => cl rfl cal40 rfl (concourseref01_Around.c h53) <| fb rfl trivial rfl fa30_10 <| ld 1 rfl trivial rfl sc3 rfl rfl <| el H fun t54 h55 H => cl rfl cal40 rfl (concourseref01_Around.c h55) <| Dv.bld (css := [[vI (w64 (1 + t48))], [vS t50], [vI t52], [vI t54]]) rfl trivial Tryz.underlying30 pl30 z30 rfl ⟨(cells_one (one_eq rfl)), ⟨(cells_one (one_eq rfl)), ⟨(cells_one (one_eq rfl)), ⟨(cells_one (one_eq rfl)), trivial⟩⟩⟩⟩ rfl rfl <| al rfl trivial zc30 (fun _ => (pend_in (fun _ => trivial) (pend_in (fun _ => trivial) (pend_in (fun _ => (mem_at 2 rfl)) (pend_in (fun _ => trivial) (pend_in (fun _ => trivial) (pend_in (fun _ => (mem_at 2 rfl)) (pend_in (fun _ => trivial) (pend_in (fun _ => trivial) (pend_in (fun _ => (mem_at 2 rfl)) (pend_in (fun _ => trivial) (pend_in (fun _ => trivial) (pend_in (fun _ => trivial) (pend_in (fun _ => (mem_at 2 rfl)) (pend_in (fun _ => trivial) pend_nil))))))))))))))) fun b56 => sx 0 rfl trivial rfl rfl cA sz30 rfl rfl rfl pB ?_
 refine .fin <| WP.seq <| WP.seq <| rg 2 0 <| fb rfl trivial rfl fa30_0 <| ld 0 rfl trivial rfl sc3 rfl rfl <| .fin <| WP.block <| WP.seq <| rg 2 0 <| bn0 rfl rfl rfl run_eq <| as0 rfl rfl <| .fin <| cd H rfl (fun _ H => ?_) (fun _ H => ?_)
 ·
  refine WP.seq <| rg 5 16 <| fb rfl trivial rfl fa30_7 <| ld 2 rfl trivial rfl sc3 rfl rfl <| el H fun t58 h59 H => cl rfl cal20 rfl (concourseref01_RoomOf.c h59) <| fb rfl trivial rfl fa30_1 <| sx 0 rfl trivial rfl rfl cE sz9 rfl rfl rfl nofun ?_
  refine .fin <| WP.seq <| dg Tryz.checked.mixed 10 512 <| fb rfl trivial rfl fa30_3 <| ld 2 rfl trivial rfl sc9 rfl rfl <| Dv.lens rfl trivial rfl Tryz.underlying9 <| fb rfl trivial rfl fa30_9 <| ld 2 rfl trivial rfl sc3 rfl rfl <| el H fun t60 h61 H => cl rfl cal40 rfl (concourseref01_Around.c h61) <| bn0 rfl rfl rfl run_add <| el H fun t62 h63 H => cl rfl cal42 rfl (concourseref01_EventOf.c h63) <| fb rfl trivial rfl fa30_3 <| sx 0 rfl trivial rfl rfl cE sz9 rfl rfl rfl pB ?_
  refine .fin <| WP.seq <| rg 6 32 <| fb rfl trivial rfl fa30_4 <| ld 2 rfl trivial rfl sc9 rfl rfl <| Dv.lens rfl trivial rfl Tryz.underlying9 <| el H fun t64 h65 H => cl rfl cal43 rfl (concourseref01_ThreadOf.c h65) <| fb rfl trivial rfl fa30_4 <| sx 0 rfl trivial rfl rfl cE sz9 rfl rfl rfl nofun ?_
  refine .fin <| rg 4 8 <| fb rfl trivial rfl fa30_5 <| ld 2 rfl trivial rfl sc4 rfl rfl <| fb rfl trivial rfl fa30_5 <| sx 0 rfl trivial rfl rfl cE sz4 rfl rfl rfl nofun ?_
  refine .fin <| WP.seq <| rg 2 2 <| lds 0 rfl trivial rfl sg30 rfl rfl <| sx 1 rfl trivial rfl rfl cA sz30 rfl rfl rfl nofun ?_
  refine .fin ?_
  obtain rfl := Gets.out H
  exact rt i2 rfl () 3 [0,1,2] 3 (.cons (res_cells rfl Tryz.underlying30 rfl c30 (mem_at 1 rfl) rfl) .nil)
 refine WP.seq <| rg 2 0 <| bn0 rfl rfl rfl run_eq <| as0 rfl rfl <| .fin <| cd H rfl (fun _ H => ?_) (fun _ H => ?_)
 rotate_left
 ·
  refine rg 5 16 <| fb rfl trivial rfl fa30_7 <| ld 2 rfl trivial rfl sc3 rfl rfl <| el H fun t72 h73 H => cl rfl cal40 rfl (concourseref01_Around.c h73) <| fb rfl trivial rfl fa30_8 <| sx 0 rfl trivial rfl rfl cE sz3 rfl rfl rfl nofun ?_
  refine .fin <| WP.seq <| rg 2 2 <| lds 0 rfl trivial rfl sg30 rfl rfl <| sx 1 rfl trivial rfl rfl cA sz30 rfl rfl rfl nofun ?_
  refine .fin ?_
  obtain rfl := Gets.out H
  exact rt i2 rfl () 3 [0,1,2] 3 (.cons (res_cells rfl Tryz.underlying30 rfl c30 (mem_at 1 rfl) rfl) .nil)
 refine WP.seq <| rg 5 16 <| fb rfl trivial rfl fa30_7 <| ld 2 rfl trivial rfl sc3 rfl rfl <| el H fun t67 h68 H => cl rfl cal20 rfl (concourseref01_RoomOf.c h68) <| fb rfl trivial rfl fa30_1 <| sx 0 rfl trivial rfl rfl cE sz9 rfl rfl rfl nofun ?_
 refine .fin <| WP.seq <| rg 4 8 <| fb rfl trivial rfl fa30_6 <| ld 2 rfl trivial rfl sc4 rfl rfl <| fb rfl trivial rfl fa30_6 <| sx 0 rfl trivial rfl rfl cE sz4 rfl rfl rfl nofun ?_
 refine .fin <| WP.seq <| rg 2 0 <| fb rfl trivial rfl fa30_6 <| ld 2 rfl trivial rfl sc4 rfl rfl <| .fin <| cd H rfl (fun _ H => ?_) (fun _ H => ?_)
 rotate_left
 ·
  refine WP.skip <| WP.seq <| rg 2 2 <| lds 0 rfl trivial rfl sg30 rfl rfl <| sx 1 rfl trivial rfl rfl cA sz30 rfl rfl rfl nofun ?_
  refine .fin ?_
  obtain rfl := Gets.out H
  exact rt i2 rfl () 3 [0,1,2] 3 (.cons (res_cells rfl Tryz.underlying30 rfl c30 (mem_at 1 rfl) rfl) .nil)
 refine rg 6 32 <| fb rfl trivial rfl fa30_7 <| ld 2 rfl trivial rfl sc3 rfl rfl <| el H fun t70 h71 H => cl rfl cal40 rfl (concourseref01_Around.c h71) <| bn0 rfl rfl rfl run_add <| fb rfl trivial rfl fa30_7 <| sx 0 rfl trivial rfl rfl cE sz3 rfl rfl rfl nofun ?_
 refine .fin <| WP.seq <| rg 2 2 <| lds 0 rfl trivial rfl sg30 rfl rfl <| sx 1 rfl trivial rfl rfl cA sz30 rfl rfl rfl nofun ?_
 refine .fin ?_
 obtain rfl := Gets.out H
 exact rt i2 rfl () 3 [0,1,2] 3 (.cons (res_cells rfl Tryz.underlying30 rfl c30 (mem_at 1 rfl) rfl) .nil)
theorem concourseref14_Made.c {k : Nat} {a0 : Edu} {r : Edu} (h : concourseref14_Made.f k a0 = some r) : Pt Tryz.prog 6 [agg (Edu.enc a0)] (agg (Edu.enc r)) := by
 unfold concourseref14_Made.f at h
 refine (Tr.body Tryz.func6 (c := _) rfl Tryz.ntmps6 (Nat.le_of_ble_eq_true rfl) fun R0 F => ?_).pt
 replace h := Gets.of h
 have H := h
 clear h
 refine WP.seq <| rg 2 3 <| Dv.box rfl trivial rfl cA nofun fun b74 => al rfl trivial zc30 nofun fun b75 => .fin <| WP.seq <| rg 2 2 <| fb rfl trivial rfl fa30_0 <| sx 1 rfl trivial rfl rfl cE sz3 rfl rfl rfl nofun ?_
 refine .fin <| WP.seq <| rg 3 4 <| lds 1 rfl trivial rfl sg30 rfl rfl <| el H fun t76 h77 H => cl rfl cal22 rfl (concourseref03_Good.c h77) <| sx 0 rfl trivial rfl rfl cA sz30 rfl rfl rfl nofun ?_
 refine .fin ?_
 obtain rfl := Gets.out H
 exact rt i2 rfl () 2 [0,1] 2 (.cons (res_cells rfl Tryz.underlying30 rfl c30 (mem_at 0 rfl) rfl) .nil)
theorem edu_asks_1.c {a0 : Int} {a1 : Int} {a2 : Int} {r : Bool} (h : edu_asks_1.f a0 a1 a2 = some r) : Pt Tryz.prog 95 [vI a0, vI a1, vI a2] (vB r) := by
 unfold edu_asks_1.f at h
 refine (Tr.body Tryz.func95 (c := _) rfl Tryz.ntmps95 (Nat.le_of_ble_eq_true rfl) fun R0 F => ?_).pt
 replace h := Gets.of h
 have H := h
 clear h
 refine WP.seq <| rg 1 0 <| as0 rfl rfl <| .fin <| WP.seq <| rg 9 0 <| mv0 rfl rfl <| mv0 rfl rfl <| bn0 rfl rfl rfl run_ge <| mv0 rfl rfl ?_
 cases c78 : decide (a1 ≤ a0)
 ·
  replace H := Gets.cf H c78
  refine sk rfl rfl <| sk rfl rfl <| sk rfl rfl <| pf0 rfl rfl rfl <| as0 rfl rfl <| .fin ?_
  obtain rfl := Gets.out H
  exact rt i2 rfl () 0 [] 0 (.cons (res_tmp rfl) .nil)
 replace H := Gets.ct H c78
 refine mvg rfl rfl rfl <| mvg rfl rfl rfl <| bng rfl rfl rfl rfl run_le <| pt0 rfl rfl rfl <| as0 rfl rfl <| .fin ?_
 obtain rfl := Gets.out H
 exact rt i2 rfl () 0 [] 0 (.cons (res_tmp rfl) .nil)
theorem edu_asks_2.c {a0 : Edu} {r : Bool} (h : edu_asks_2.f a0 = some r) : Pt Tryz.prog 96 [agg (Edu.enc a0)] (vB r) := by
 unfold edu_asks_2.f at h
 refine (Tr.body Tryz.func96 (c := _) rfl Tryz.ntmps96 (Nat.le_of_ble_eq_true rfl) fun R0 F => ?_).pt
 replace h := Gets.of h
 have H := h
 clear h
 refine WP.seq <| rg 2 1 <| Dv.box rfl trivial rfl cA nofun fun b79 => as0 rfl rfl <| .fin <| WP.seq <| rg 1 0 <| as0 rfl rfl <| .fin ?_
 obtain rfl := Gets.out H
 exact rt i2 rfl () 1 [0] 1 (.cons (res_tmp rfl) .nil)
theorem stringslite_IndexByte.c {a0 : ByteArray} {a1 : Int} {r : Int} (h : stringslite_IndexByte.f a0 a1 = some r) : Pt Tryz.prog 110 [vS a0, eq (.int .u8 a1)] (vI r) := by
 unfold stringslite_IndexByte.f at h
 refine (Tr.body Tryz.func110 (c := _) rfl Tryz.ntmps110 (Nat.le_of_ble_eq_true rfl) fun R0 F => ?_).pt
 replace h := Gets.of h
 have H := h
 clear h
 refine WP.seq <| rg 1 0 <| as0 rfl rfl <| .fin <| WP.seq <| rg 4 0 <| mv0 rfl rfl <| mv0 rfl rfl <| Dv.cext rfl trivial rfl (xt_index Tryz.func122 (by kernel_rfl) rfl xf122 xg122) <| as0 rfl rfl <| .fin ?_
 obtain rfl := Gets.out H
 exact rt i2 rfl () 0 [] 0 (.cons (res_tmp rfl) .nil)
theorem bytealg_Cutover.c {a0 : Int} {r : Int} (h : bytealg_Cutover.f a0 = some r) : Pt Tryz.prog 112 [vI a0] (vI r) := by
 unfold bytealg_Cutover.f at h
 refine (Tr.body Tryz.func112 (c := _) rfl Tryz.ntmps112 (Nat.le_of_ble_eq_true rfl) fun R0 F => ?_).pt
 replace h := Gets.of h
 have H := h
 clear h
 refine WP.seq <| rg 1 0 <| as0 rfl rfl <| .fin <| WP.seq <| rg 4 0 <| mv0 rfl rfl <| bn0 rfl rfl rfl run_add <| bn0 rfl rfl rfl (run_quo (by decide)) <| as0 rfl rfl <| .fin ?_
 obtain rfl := Gets.out H
 exact rt i2 rfl () 0 [] 0 (.cons (res_tmp rfl) .nil)
theorem stringslite_Index.c {a0 : ByteArray} {a1 : ByteArray} {r : Int} (h : stringslite_Index.f a0 a1 = some r) : Pt Tryz.prog 79 [vS a0, vS a1] (vI r) := by
 unfold stringslite_Index.f at h
 refine (Tr.body Tryz.func79 (c := _) rfl Tryz.ntmps79 (Nat.le_of_ble_eq_true rfl) fun R0 F => ?_).pt
 replace h := Gets.of h
 have H := h
 clear h
 refine WP.seq <| rg 1 0 <| as0 rfl rfl <| .fin <| WP.seq <| rg 3 0 <| mv0 rfl rfl <| Dv.lens rfl trivial rfl Tryz.underlying9 <| as0 rfl rfl <| .fin <| WP.seq <| WP.block <| WP.seq <| rg 8 0 <| mv0 rfl rfl <| bn0 rfl rfl rfl run_eq <| mv0 rfl rfl ?_
 cases c82 : ((a1.size : Int) == 0)
 rotate_left
 ·
  replace H := Gets.ct H c82
  refine sk rfl rfl <| sk rfl rfl <| sk rfl rfl <| pt0 rfl rfl rfl <| as0 rfl rfl <| .fin <| WP.cond rfl (fun _ => ?_) nofun
  refine WP.seq <| rg 1 0 <| as0 rfl rfl <| .fin ?_
  obtain rfl := Gets.out H
  exact rt i2 rfl () 0 [] 0 (.cons (res_tmp rfl) .nil)
 replace H := Gets.cf H c82
 refine mvg rfl rfl rfl <| mvg rfl rfl rfl <| bng rfl rfl rfl rfl run_seq <| pf0 rfl rfl rfl <| as0 rfl rfl <| .fin <| cd H rfl (fun _ H => ?_) (fun _ H => ?_)
 ·
  refine WP.seq <| rg 1 0 <| as0 rfl rfl <| .fin ?_
  obtain rfl := Gets.out H
  exact rt i2 rfl () 0 [] 0 (.cons (res_tmp rfl) .nil)
 refine WP.seq <| rg 3 0 <| mv0 rfl rfl <| bn0 rfl rfl rfl run_eq <| as0 rfl rfl <| .fin <| cd H rfl (fun _ H => ?_) (fun _ H => ?_)
 ·
  refine WP.seq <| rg 5 0 <| mv0 rfl rfl <| mv0 rfl rfl <| gr H fun g86 H => Dv.ixs rfl trivial rfl rfl Tryz.underlying9 g86.1 g86.2 <| el H fun t87 h88 H => cl rfl cal110 rfl (stringslite_IndexByte.c h88) <| as0 rfl rfl <| .fin ?_
  obtain rfl := Gets.out H
  exact rt i2 rfl () 0 [] 0 (.cons (res_tmp rfl) .nil)
 refine WP.seq <| rg 5 0 <| mv0 rfl rfl <| mv0 rfl rfl <| Dv.lens rfl trivial rfl Tryz.underlying9 <| bn0 rfl rfl rfl run_ge <| as0 rfl rfl <| .fin <| cd H rfl (fun _ H => ?_) (fun _ H => ?_)
 rotate_left
 ·
  exact (Gets.no H).elim
 refine WP.seq <| rg 1 0 <| as0 rfl rfl <| .fin ?_
 obtain rfl := Gets.out H
 exact rt i2 rfl () 0 [] 0 (.cons (res_tmp rfl) .nil)
theorem stringslite_Cut.c {a0 : ByteArray} {a1 : ByteArray} {r : ByteArray × ByteArray × Bool} (h : stringslite_Cut.f a0 a1 = some r) : Pt Tryz.prog 58 [vS a0, vS a1] (tup [vS r.1, vS r.2.1, vB r.2.2]) := by
 unfold stringslite_Cut.f at h
 refine (Tr.body Tryz.func58 (c := _) rfl Tryz.ntmps58 (Nat.le_of_ble_eq_true rfl) fun R0 F => ?_).pt
 replace h := Gets.of h
 have H := h
 clear h
 refine WP.seq <| rg 3 0 <| as0 rfl rfl <| as0 rfl rfl <| as0 rfl rfl <| .fin <| WP.seq <| WP.seq <| rg 4 0 <| mv0 rfl rfl <| mv0 rfl rfl <| el H fun t90 h91 H => cl rfl cal79 rfl (stringslite_Index.c h91) <| as0 rfl rfl <| .fin <| WP.seq <| rg 2 0 <| mv0 rfl rfl <| bn0 rfl rfl rfl run_ge <| .fin <| cd H rfl (fun _ H => ?_) (fun _ H => ?_)
 rotate_left
 ·
  refine WP.skip <| WP.seq <| rg 4 0 <| mv0 rfl rfl <| as0 rfl rfl <| as0 rfl rfl <| as0 rfl rfl <| .fin ?_
  obtain rfl := Gets.out H
  exact rt i2 rfl () 0 [] 0 (.cons (res_tmp rfl) (.cons (res_tmp rfl) (.cons (res_tmp rfl) .nil)))
 refine WP.seq <| dg Tryz.checked.mixed 12 0 <| mv0 rfl rfl <| mv0 rfl rfl <| gr H fun g93 H => Dv.sss rfl trivial rfl Tryz.underlying9 bdE_none (bdE_some rfl g93.1) g93.2.1 g93.2.2 <| mv0 rfl rfl <| mv0 rfl rfl <| mv0 rfl rfl <| Dv.lens rfl trivial rfl Tryz.underlying9 <| bn0 rfl rfl rfl run_add <| gr H fun g94 H => Dv.sss rfl trivial rfl Tryz.underlying9 (bdE_some rfl g94.1) bdE_none g94.2.1 g94.2.2 <| as0 rfl rfl <| as0 rfl rfl <| as0 rfl rfl <| .fin ?_
 obtain rfl := Gets.out H
 exact rt i2 rfl () 0 [] 0 (.cons (res_tmp rfl) (.cons (res_tmp rfl) (.cons (res_tmp rfl) .nil)))
theorem strings_Cut.c {a0 : ByteArray} {a1 : ByteArray} {r : ByteArray × ByteArray × Bool} (h : strings_Cut.f a0 a1 = some r) : Pt Tryz.prog 35 [vS a0, vS a1] (tup [vS r.1, vS r.2.1, vB r.2.2]) := by
 unfold strings_Cut.f at h
 refine (Tr.body Tryz.func35 (c := _) rfl Tryz.ntmps35 (Nat.le_of_ble_eq_true rfl) fun R0 F => ?_).pt
 replace h := Gets.of h
 have H := h
 clear h
 refine WP.seq <| rg 3 0 <| as0 rfl rfl <| as0 rfl rfl <| as0 rfl rfl <| .fin <| WP.seq <| rg 9 0 <| mv0 rfl rfl <| mv0 rfl rfl <| el H fun t95 h96 H => cl rfl cal58 rfl (stringslite_Cut.c h96) <| ex0 rfl trivial rfl rfl <| ex0 rfl trivial rfl rfl <| ex0 rfl trivial rfl rfl <| as0 rfl rfl <| as0 rfl rfl <| as0 rfl rfl <| .fin ?_
 obtain rfl := Gets.out H
 exact rt i2 rfl () 0 [] 0 (.cons (res_tmp rfl) (.cons (res_tmp rfl) (.cons (res_tmp rfl) .nil)))
theorem stringslite_HasPrefix.c {a0 : ByteArray} {a1 : ByteArray} {r : Bool} (h : stringslite_HasPrefix.f a0 a1 = some r) : Pt Tryz.prog 128 [vS a0, vS a1] (vB r) := by
 unfold stringslite_HasPrefix.f at h
 refine (Tr.body Tryz.func128 (c := _) rfl Tryz.ntmps128 (Nat.le_of_ble_eq_true rfl) fun R0 F => ?_).pt
 replace h := Gets.of h
 have H := h
 clear h
 refine WP.seq <| rg 1 0 <| as0 rfl rfl <| .fin <| WP.seq <| rg 14 0 <| mv0 rfl rfl <| Dv.lens rfl trivial rfl Tryz.underlying9 <| mv0 rfl rfl <| Dv.lens rfl trivial rfl Tryz.underlying9 <| bn0 rfl rfl rfl run_ge <| mv0 rfl rfl ?_
 cases c97 : decide ((a1.size : Int) ≤ (a0.size : Int))
 ·
  replace H := Gets.cf H c97
  refine sk rfl rfl <| sk rfl rfl <| sk rfl rfl <| sk rfl rfl <| sk rfl rfl <| sk rfl rfl <| pf0 rfl rfl rfl <| as0 rfl rfl <| .fin ?_
  obtain rfl := Gets.out H
  exact rt i2 rfl () 0 [] 0 (.cons (res_tmp rfl) .nil)
 replace H := Gets.ct H c97
 refine mvg rfl rfl rfl <| mvg rfl rfl rfl <| Dv.lens rfl (gg rfl) rfl Tryz.underlying9 <| gr H fun g98 H => Dv.sss rfl (gg rfl) rfl Tryz.underlying9 bdE_none (bdE_some rfl g98.1) g98.2.1 g98.2.2 <| mvg rfl rfl rfl <| bng rfl rfl rfl rfl run_seq <| pt0 rfl rfl rfl <| as0 rfl rfl <| .fin ?_
 obtain rfl := Gets.out H
 exact rt i2 rfl () 0 [] 0 (.cons (res_tmp rfl) .nil)
theorem stringslite_CutPrefix.c {a0 : ByteArray} {a1 : ByteArray} {r : ByteArray × Bool} (h : stringslite_CutPrefix.f a0 a1 = some r) : Pt Tryz.prog 125 [vS a0, vS a1] (tup [vS r.1, vB r.2]) := by
 unfold stringslite_CutPrefix.f at h
 refine (Tr.body Tryz.func125 (c := _) rfl Tryz.ntmps125 (Nat.le_of_ble_eq_true rfl) fun R0 F => ?_).pt
 replace h := Gets.of h
 have H := h
 clear h
 refine WP.seq <| rg 2 0 <| as0 rfl rfl <| as0 rfl rfl <| .fin <| WP.seq <| WP.seq <| rg 4 0 <| mv0 rfl rfl <| mv0 rfl rfl <| el H fun t99 h100 H => cl rfl cal128 rfl (stringslite_HasPrefix.c h100) <| un0 rfl rfl (run_not _) <| .fin <| cd H rfl (fun _ H => ?_) (fun _ H => ?_)
 ·
  refine WP.seq <| rg 3 0 <| mv0 rfl rfl <| as0 rfl rfl <| as0 rfl rfl <| .fin ?_
  obtain rfl := Gets.out H
  exact rt i2 rfl () 0 [] 0 (.cons (res_tmp rfl) (.cons (res_tmp rfl) .nil))
 refine WP.skip <| WP.seq <| rg 6 0 <| mv0 rfl rfl <| mv0 rfl rfl <| Dv.lens rfl trivial rfl Tryz.underlying9 <| gr H fun g102 H => Dv.sss rfl trivial rfl Tryz.underlying9 (bdE_some rfl g102.1) bdE_none g102.2.1 g102.2.2 <| as0 rfl rfl <| as0 rfl rfl <| .fin ?_
 obtain rfl := Gets.out H
 exact rt i2 rfl () 0 [] 0 (.cons (res_tmp rfl) (.cons (res_tmp rfl) .nil))
theorem strings_CutPrefix.c {a0 : ByteArray} {a1 : ByteArray} {r : ByteArray × Bool} (h : strings_CutPrefix.f a0 a1 = some r) : Pt Tryz.prog 119 [vS a0, vS a1] (tup [vS r.1, vB r.2]) := by
 unfold strings_CutPrefix.f at h
 refine (Tr.body Tryz.func119 (c := _) rfl Tryz.ntmps119 (Nat.le_of_ble_eq_true rfl) fun R0 F => ?_).pt
 replace h := Gets.of h
 have H := h
 clear h
 refine WP.seq <| rg 2 0 <| as0 rfl rfl <| as0 rfl rfl <| .fin <| WP.seq <| rg 7 0 <| mv0 rfl rfl <| mv0 rfl rfl <| el H fun t103 h104 H => cl rfl cal125 rfl (stringslite_CutPrefix.c h104) <| ex0 rfl trivial rfl rfl <| ex0 rfl trivial rfl rfl <| as0 rfl rfl <| as0 rfl rfl <| .fin ?_
 obtain rfl := Gets.out H
 exact rt i2 rfl () 0 [] 0 (.cons (res_tmp rfl) (.cons (res_tmp rfl) .nil))
theorem name_small.c {a0 : Int} {r : Bool} (h : name_small.f a0 = some r) : Pt Tryz.prog 127 [eq (.int .u8 a0)] (vB r) := by
 unfold name_small.f at h
 refine (Tr.body Tryz.func127 (c := _) rfl Tryz.ntmps127 (Nat.le_of_ble_eq_true rfl) fun R0 F => ?_).pt
 replace h := Gets.of h
 have H := h
 clear h
 refine WP.seq <| rg 1 0 <| as0 rfl rfl <| .fin <| WP.seq <| rg 15 0 <| mv0 rfl rfl <| bn0 rfl rfl rfl run_ge <| mv0 rfl rfl ?_
 cases c105 : decide (97 ≤ a0)
 ·
  replace H := Gets.cf H c105
  refine sk rfl rfl <| sk rfl rfl <| pf0 rfl rfl rfl <| mv0 rfl rfl <| mvg rfl rfl rfl <| bng rfl rfl rfl rfl run_ge <| mvg rfl rfl rfl ?_
  cases c108 : decide (48 ≤ a0)
  ·
   replace H := Gets.cf H c108
   refine sk rfl rfl <| sk rfl rfl <| pfg rfl rfl rfl rfl <| pf0 rfl rfl rfl <| as0 rfl rfl <| .fin ?_
   obtain rfl := Gets.out H
   exact rt i2 rfl () 0 [] 0 (.cons (res_tmp rfl) .nil)
  replace H := Gets.ct H c108
  refine mvg rfl rfl rfl <| bng rfl rfl rfl rfl run_le <| ptg rfl rfl rfl rfl <| pf0 rfl rfl rfl <| as0 rfl rfl <| .fin ?_
  obtain rfl := Gets.out H
  exact rt i2 rfl () 0 [] 0 (.cons (res_tmp rfl) .nil)
 replace H := Gets.ct H c105
 refine mvg rfl rfl rfl <| bng rfl rfl rfl rfl run_le <| pt0 rfl rfl rfl <| mv0 rfl rfl ?_
 cases c106 : decide (a0 ≤ 122)
 rotate_left
 ·
  replace H := Gets.ct H c106
  refine sk rfl rfl <| sk rfl rfl <| sk rfl rfl <| sku rfl rfl <| sku rfl rfl <| sk rfl rfl <| pt0 rfl rfl rfl <| as0 rfl rfl <| .fin ?_
  obtain rfl := Gets.out H
  exact rt i2 rfl () 0 [] 0 (.cons (res_tmp rfl) .nil)
 replace H := Gets.cf H c106
 refine mvg rfl rfl rfl <| bng rfl rfl rfl rfl run_ge <| mvg rfl rfl rfl ?_
 cases c107 : decide (48 ≤ a0)
 ·
  replace H := Gets.cf H c107
  refine sk rfl rfl <| sk rfl rfl <| pfg rfl rfl rfl rfl <| pf0 rfl rfl rfl <| as0 rfl rfl <| .fin ?_
  obtain rfl := Gets.out H
  exact rt i2 rfl () 0 [] 0 (.cons (res_tmp rfl) .nil)
 replace H := Gets.ct H c107
 refine mvg rfl rfl rfl <| bng rfl rfl rfl rfl run_le <| ptg rfl rfl rfl rfl <| pf0 rfl rfl rfl <| as0 rfl rfl <| .fin ?_
 obtain rfl := Gets.out H
 exact rt i2 rfl () 0 [] 0 (.cons (res_tmp rfl) .nil)
theorem strings_IndexByte.c {a0 : ByteArray} {a1 : Int} {r : Int} (h : strings_IndexByte.f a0 a1 = some r) : Pt Tryz.prog 130 [vS a0, eq (.int .u8 a1)] (vI r) := by
 unfold strings_IndexByte.f at h
 refine (Tr.body Tryz.func130 (c := _) rfl Tryz.ntmps130 (Nat.le_of_ble_eq_true rfl) fun R0 F => ?_).pt
 replace h := Gets.of h
 have H := h
 clear h
 refine WP.seq <| rg 1 0 <| as0 rfl rfl <| .fin <| WP.seq <| rg 4 0 <| mv0 rfl rfl <| mv0 rfl rfl <| el H fun t109 h110 H => cl rfl cal110 rfl (stringslite_IndexByte.c h110) <| as0 rfl rfl <| .fin ?_
 obtain rfl := Gets.out H
 exact rt i2 rfl () 0 [] 0 (.cons (res_tmp rfl) .nil)
theorem name_among_1.c {a0 : Int} {c0 : ByteArray} {r : Bool} (h : name_among_1.f a0 c0 = some r) : Pt Tryz.prog 129 [eq (.int .u8 a0), rp [vS c0]] (vB r) := by
 unfold name_among_1.f at h
 refine (Tr.body Tryz.func129 (c := _) rfl Tryz.ntmps129 (Nat.le_of_ble_eq_true rfl) fun R0 F => ?_).pt
 replace h := Gets.of h
 have H := h
 clear h
 refine WP.seq <| rg 1 0 <| as0 rfl rfl <| .fin <| WP.seq <| rg 9 0 <| mv0 rfl rfl <| el H fun t111 h112 H => cl rfl cal127 rfl (name_small.c h112) <| mv0 rfl rfl ?_
 cases c113 : t111
 rotate_left
 ·
  replace H := Gets.ct H c113
  refine sk rfl rfl <| sk rfl rfl <| sk rfl rfl <| sk rfl rfl <| pt0 rfl rfl rfl <| as0 rfl rfl <| .fin ?_
  obtain rfl := Gets.out H
  exact rt i2 rfl () 0 [] 0 (.cons (res_tmp rfl) .nil)
 replace H := Gets.cf H c113
 refine ldR rfl (gg rfl) rfl sc9 rfl <| mvg rfl rfl rfl <| el H fun t114 h115 H => Dv.call rfl (gg rfl) cal130 rfl (strings_IndexByte.c h115) <| bng rfl rfl rfl rfl run_ge <| pf0 rfl rfl rfl <| as0 rfl rfl <| .fin ?_
 obtain rfl := Gets.out H
 exact rt i2 rfl () 0 [] 0 (.cons (res_tmp rfl) .nil)
theorem name_among.c {a0 : ByteArray} {r : (Int → Option Bool)} (h : name_among.f a0 = some r) : Pt Tryz.prog 126 [vS a0] (fq_uint8_bool r) := by
 unfold name_among.f at h
 refine (Tr.body Tryz.func126 (c := _) rfl Tryz.ntmps126 (Nat.le_of_ble_eq_true rfl) fun R0 F => ?_).pt
 replace h := Gets.of h
 have H := h
 clear h
 refine WP.seq <| rg 2 1 <| Dv.box rfl trivial rfl cE nofun fun b116 => as0 rfl rfl <| .fin <| WP.seq <| rg 2 0 <| Dv.gh (gh_frzb (E' := [(0, vS a0), (1, rp [vS a0]), (2, eq .nilFunc)]) (l' := F) 0 rfl (cve_cons rfl cv_id (cve_cons rfl cv_eq (cve_cons rfl cv_id cve_nil))) (all2_app .nil fun _ => cva_id)) (fun _ _ => ?_)
 refine Dv.mkf (Q := fqQ_uint8_bool (fun a0_ => name_among_1.f a0_ a0)) cal129 (by rintro _ _ ⟨a0_, r_, h_, rfl, rfl⟩; exact name_among_1.c h_) rfl trivial rfl rfl <| as0 rfl rfl <| .fin ?_
 obtain rfl := Gets.out H
 exact rt i2 rfl () 0 [] 0 (.cons (res_tmp rfl) .nil)
theorem name_may.c {k : Nat} {a0 : ByteArray} {a1 : Int} {r : Bool} (h : name_may.f k a0 a1 = some r) : Pt Tryz.prog 120 [vS a0, vI a1] (vB r) := by
 unfold name_may.f at h
 refine (Tr.body Tryz.func120 (c := _) rfl Tryz.ntmps120 (Nat.le_of_ble_eq_true rfl) fun R0 F => ?_).pt
 replace h := Gets.of h
 have H := h
 clear h
 refine WP.seq <| rg 1 0 <| as0 rfl rfl <| .fin <| WP.seq <| rg 7 0 <| el H fun t117 h118 H => cl rfl cal126 rfl (name_among.c h118) <| el H fun t119 h120 H => cl rfl cal126 rfl (name_among.c h120) <| el H fun t121 h122 H => cl rfl cal126 rfl (name_among.c h122) <| Dv.blda (qs := [fq_uint8_bool t117, fq_uint8_bool t119, fq_uint8_bool t121]) (css := [[fq_uint8_bool t117], [fq_uint8_bool t119], [fq_uint8_bool t121]]) rfl trivial Tryz.underlying140 Tryz.underlying117 c117 z140 rfl ⟨(cells_one one_fnq), ⟨(cells_one one_fnq), ⟨(cells_one one_fnq), trivial⟩⟩⟩ rfl rfl <| mv0 rfl rfl <| gr H fun g123 H => Dv.ixa (Kd := fK_uint8_bool) (xs := ([t117, t119, t121] : List (Int → Option Bool))) rfl trivial rfl rfl rfl Tryz.underlying140 Tryz.underlying117 rfl c117 rfl rfl g123.1 g123.2 rfl <| as0 rfl rfl <| .fin <| WP.seqr H id (fun p124 : Int × Bool => [(0, vS a0), (1, vI a1), (4, vB false), (5, fq_uint8_bool (fK_uint8_bool.at ([t117, t119, t121] : List (Int → Option Bool)) a1)), (14, vI (a0.size : Int)), (15, vI p124.1), (16, vB p124.2)]) (fun p124 : Int × Bool => F) (fun p124 H => ?_) (fun H => ?_)
 ·
  refine WP.seq <| rg 8 0 <| mv0 rfl rfl <| bn0 rfl rfl rfl run_sne <| mv0 rfl rfl ?_
  cases c125 : !decide (a0 = (⟨#[]⟩ : ByteArray))
  ·
   replace H := Gets.cf H c125
   refine sk rfl rfl <| sk rfl rfl <| sk rfl rfl <| pf0 rfl rfl rfl <| as0 rfl rfl <| .fin ?_
   obtain rfl := Gets.out H
   exact rt i2 rfl () 0 [] 0 (.cons (res_tmp rfl) .nil)
  replace H := Gets.ct H c125
  refine mvg rfl rfl rfl <| Dv.lens rfl (gg rfl) rfl Tryz.underlying9 <| bng rfl rfl rfl rfl run_le <| pt0 rfl rfl rfl <| as0 rfl rfl <| .fin ?_
  obtain rfl := Gets.out H
  exact rt i2 rfl () 0 [] 0 (.cons (res_tmp rfl) .nil)
 refine WP.seq <| rg 3 0 <| mv0 rfl rfl <| Dv.lens rfl trivial rfl Tryz.underlying9 <| mv0 rfl rfl <| .fin <| WP.block <| wg (sg 0 [] 0) fun _ _ => ?_
 refine lp (fun j_ (p133 : Int) => name_may.l0 k a0 a1 t117 t119 t121 j_ p133) 0 H (fun p133 => [(0, vS a0), (1, vI a1), (4, vB false), (5, fq_uint8_bool (fK_uint8_bool.at ([t117, t119, t121] : List (Int → Option Bool)) a1)), (14, vI (a0.size : Int)), (15, vI p133)]) (fun p133 => F) ?_
 rintro j_ x126 H
 rcases j_ with _ | j132
 ·
  exact (Gets.no H).elim
 replace H : Gets (name_may.l0 k a0 a1 t117 t119 t121 (j132 + 1) x126) _ := H
 rw [name_may.l0] at H
 refine WP.seq <| rg 1 0 <| bn0 rfl rfl rfl run_lt <| .fin <| WP.seq <| cd H rfl (fun _ H => ?_) (fun _ H => ?_)
 rotate_left
 ·
  refine WP.exit ?_
  replace H := Gets.out H
  exact jn (x126, decide (x126 < (a0.size : Int))) H
 refine WP.skip <| WP.seq <| WP.block <| WP.seq <| rg 2 0 <| mv0 rfl rfl <| as0 rfl rfl <| .fin <| WP.seq <| rg 6 0 <| mv0 rfl rfl <| mv0 rfl rfl <| mv0 rfl rfl <| gr H fun g128 H => Dv.ixs rfl trivial rfl rfl Tryz.underlying9 g128.1 g128.2 <| el H fun t129 h130 H => Dv.callq (ret := vB t129) rfl trivial rfl rfl ⟨_, _, h130, rfl, rfl⟩ <| un0 rfl rfl (run_not _) <| .fin <| cd H rfl (fun _ H => ?_) (fun _ H => ?_)
 rotate_left
 ·
  exact WP.skip <| rg 2 0 <| bn0 rfl rfl rfl run_add <| mv0 rfl rfl <| .fin <| bk j132 (w64 (x126 + 1)) H
 refine WP.seq <| rg 1 0 <| as0 rfl rfl <| .fin ?_
 replace H := Gets.outr H
 obtain rfl := Gets.out H
 exact rt i2 rfl () 0 [] 0 (.cons (res_tmp rfl) .nil)
theorem name_Server.c {k : Nat} {a0 : ByteArray} {r : Bool} (h : name_Server.f k a0 = some r) : Pt Tryz.prog 121 [vS a0] (vB r) := by
 unfold name_Server.f at h
 refine (Tr.body Tryz.func121 (c := _) rfl Tryz.ntmps121 (Nat.le_of_ble_eq_true rfl) fun R0 F => ?_).pt
 replace h := Gets.of h
 have H := h
 clear h
 refine WP.seq <| rg 1 0 <| as0 rfl rfl <| .fin <| WP.seq <| rg 16 0 <| mv0 rfl rfl <| el H fun t134 h135 H => cl rfl cal120 rfl (name_may.c h135) <| mv0 rfl rfl ?_
 cases c136 : t134
 ·
  replace H := Gets.cf H c136
  refine sk rfl rfl <| sk rfl rfl <| sk rfl rfl <| pf0 rfl rfl rfl <| mv0 rfl rfl <| sk rfl rfl <| sk rfl rfl <| sk rfl rfl <| sk rfl rfl <| sk rfl rfl <| sk rfl rfl <| pf0 rfl rfl rfl <| as0 rfl rfl <| .fin ?_
  obtain rfl := Gets.out H
  exact rt i2 rfl () 0 [] 0 (.cons (res_tmp rfl) .nil)
 replace H := Gets.ct H c136
 refine mvg rfl rfl rfl <| gr H fun g137 H => Dv.ixs rfl (gg rfl) rfl rfl Tryz.underlying9 g137.1 g137.2 <| el H fun t138 h139 H => Dv.call rfl (gg rfl) cal127 rfl (name_small.c h139) <| pt0 rfl rfl rfl <| mv0 rfl rfl ?_
 cases c140 : t138
 ·
  replace H := Gets.cf H c140
  refine sk rfl rfl <| sk rfl rfl <| sk rfl rfl <| sk rfl rfl <| sk rfl rfl <| sk rfl rfl <| pf0 rfl rfl rfl <| as0 rfl rfl <| .fin ?_
  obtain rfl := Gets.out H
  exact rt i2 rfl () 0 [] 0 (.cons (res_tmp rfl) .nil)
 replace H := Gets.ct H c140
 refine mvg rfl rfl rfl <| mvg rfl rfl rfl <| Dv.lens rfl (gg rfl) rfl Tryz.underlying9 <| bng rfl rfl rfl rfl run_sub <| gr H fun g141 H => Dv.ixs rfl (gg rfl) rfl rfl Tryz.underlying9 g141.1 g141.2 <| el H fun t142 h143 H => Dv.call rfl (gg rfl) cal127 rfl (name_small.c h143) <| pt0 rfl rfl rfl <| as0 rfl rfl <| .fin ?_
 obtain rfl := Gets.out H
 exact rt i2 rfl () 0 [] 0 (.cons (res_tmp rfl) .nil)
theorem name_split.c {k : Nat} {a0 : ByteArray} {a1 : ByteArray} {r : ByteArray × ByteArray × Bool} (h : name_split.f k a0 a1 = some r) : Pt Tryz.prog 103 [vS a0, vS a1] (tup [vS r.1, vS r.2.1, vB r.2.2]) := by
 unfold name_split.f at h
 refine (Tr.body Tryz.func103 (c := _) rfl Tryz.ntmps103 (Nat.le_of_ble_eq_true rfl) fun R0 F => ?_).pt
 replace h := Gets.of h
 have H := h
 clear h
 refine WP.seq <| rg 3 0 <| as0 rfl rfl <| as0 rfl rfl <| as0 rfl rfl <| .fin <| WP.seq <| rg 8 0 <| mv0 rfl rfl <| mv0 rfl rfl <| el H fun t144 h145 H => cl rfl cal119 rfl (strings_CutPrefix.c h145) <| mv0 rfl rfl <| ex0 rfl trivial rfl rfl <| ex0 rfl trivial rfl rfl <| as0 rfl rfl <| as0 rfl rfl <| .fin <| WP.seq <| rg 9 0 <| mv0 rfl rfl <| el H fun t146 h147 H => cl rfl cal35 rfl (strings_Cut.c h147) <| mv0 rfl rfl <| ex0 rfl trivial rfl rfl <| ex0 rfl trivial rfl rfl <| ex0 rfl trivial rfl rfl <| as0 rfl rfl <| as0 rfl rfl <| as0 rfl rfl <| .fin <| WP.seq <| rg 17 0 <| mv0 rfl rfl <| mv0 rfl rfl <| mv0 rfl rfl <| mv0 rfl rfl ?_
 cases c148 : t144.2
 ·
  replace H := Gets.cf H c148
  refine sk rfl rfl <| pf0 rfl rfl rfl <| mv0 rfl rfl <| sk rfl rfl <| sk rfl rfl <| pf0 rfl rfl rfl <| mv0 rfl rfl <| sk rfl rfl <| sk rfl rfl <| pf0 rfl rfl rfl <| as0 rfl rfl <| as0 rfl rfl <| as0 rfl rfl <| .fin ?_
  obtain rfl := Gets.out H
  exact rt i2 rfl () 0 [] 0 (.cons (res_tmp rfl) (.cons (res_tmp rfl) (.cons (res_tmp rfl) .nil)))
 replace H := Gets.ct H c148
 refine mvg rfl rfl rfl <| pt0 rfl rfl rfl <| mv0 rfl rfl ?_
 cases c149 : t146.2.2
 ·
  replace H := Gets.cf H c149
  refine sk rfl rfl <| sk rfl rfl <| pf0 rfl rfl rfl <| mv0 rfl rfl <| sk rfl rfl <| sk rfl rfl <| pf0 rfl rfl rfl <| as0 rfl rfl <| as0 rfl rfl <| as0 rfl rfl <| .fin ?_
  obtain rfl := Gets.out H
  exact rt i2 rfl () 0 [] 0 (.cons (res_tmp rfl) (.cons (res_tmp rfl) (.cons (res_tmp rfl) .nil)))
 replace H := Gets.ct H c149
 refine mvg rfl rfl rfl <| el H fun t150 h151 H => Dv.call rfl (gg rfl) cal120 rfl (name_may.c h151) <| pt0 rfl rfl rfl <| mv0 rfl rfl ?_
 cases c152 : t150
 ·
  replace H := Gets.cf H c152
  refine sk rfl rfl <| sk rfl rfl <| pf0 rfl rfl rfl <| as0 rfl rfl <| as0 rfl rfl <| as0 rfl rfl <| .fin ?_
  obtain rfl := Gets.out H
  exact rt i2 rfl () 0 [] 0 (.cons (res_tmp rfl) (.cons (res_tmp rfl) (.cons (res_tmp rfl) .nil)))
 replace H := Gets.ct H c152
 refine mvg rfl rfl rfl <| el H fun t153 h154 H => Dv.call rfl (gg rfl) cal121 rfl (name_Server.c h154) <| pt0 rfl rfl rfl <| as0 rfl rfl <| as0 rfl rfl <| as0 rfl rfl <| .fin ?_
 obtain rfl := Gets.out H
 exact rt i2 rfl () 0 [] 0 (.cons (res_tmp rfl) (.cons (res_tmp rfl) (.cons (res_tmp rfl) .nil)))
theorem name_Room.c {k : Nat} {a0 : ByteArray} {r : Bool} (h : name_Room.f k a0 = some r) : Pt Tryz.prog 98 [vS a0] (vB r) := by
 unfold name_Room.f at h
 refine (Tr.body Tryz.func98 (c := _) rfl Tryz.ntmps98 (Nat.le_of_ble_eq_true rfl) fun R0 F => ?_).pt
 replace h := Gets.of h
 have H := h
 clear h
 refine WP.seq <| rg 1 0 <| as0 rfl rfl <| .fin <| WP.seq <| rg 9 0 <| mv0 rfl rfl <| el H fun t155 h156 H => cl rfl cal103 rfl (name_split.c h156) <| mv0 rfl rfl <| ex0 rfl trivial rfl rfl <| ex0 rfl trivial rfl rfl <| ex0 rfl trivial rfl rfl <| as0 rfl rfl <| as0 rfl rfl <| as0 rfl rfl <| .fin <| WP.seq <| rg 2 0 <| mv0 rfl rfl <| as0 rfl rfl <| .fin ?_
 obtain rfl := Gets.out H
 exact rt i2 rfl () 0 [] 0 (.cons (res_tmp rfl) .nil)
theorem name_Event.c {k : Nat} {a0 : ByteArray} {r : Bool} (h : name_Event.f k a0 = some r) : Pt Tryz.prog 99 [vS a0] (vB r) := by
 unfold name_Event.f at h
 refine (Tr.body Tryz.func99 (c := _) rfl Tryz.ntmps99 (Nat.le_of_ble_eq_true rfl) fun R0 F => ?_).pt
 replace h := Gets.of h
 have H := h
 clear h
 refine WP.seq <| rg 1 0 <| as0 rfl rfl <| .fin <| WP.seq <| rg 7 0 <| mv0 rfl rfl <| el H fun t157 h158 H => cl rfl cal119 rfl (strings_CutPrefix.c h158) <| mv0 rfl rfl <| ex0 rfl trivial rfl rfl <| ex0 rfl trivial rfl rfl <| as0 rfl rfl <| as0 rfl rfl <| .fin <| WP.seq <| rg 6 0 <| mv0 rfl rfl <| mv0 rfl rfl ?_
 cases c159 : t157.2
 ·
  replace H := Gets.cf H c159
  refine sk rfl rfl <| sk rfl rfl <| pf0 rfl rfl rfl <| as0 rfl rfl <| .fin ?_
  obtain rfl := Gets.out H
  exact rt i2 rfl () 0 [] 0 (.cons (res_tmp rfl) .nil)
 replace H := Gets.ct H c159
 refine mvg rfl rfl rfl <| el H fun t160 h161 H => Dv.call rfl (gg rfl) cal120 rfl (name_may.c h161) <| pt0 rfl rfl rfl <| as0 rfl rfl <| .fin ?_
 obtain rfl := Gets.out H
 exact rt i2 rfl () 0 [] 0 (.cons (res_tmp rfl) .nil)
theorem name_Thread.c {k : Nat} {a0 : ByteArray} {r : Bool} (h : name_Thread.f k a0 = some r) : Pt Tryz.prog 100 [vS a0] (vB r) := by
 unfold name_Thread.f at h
 refine (Tr.body Tryz.func100 (c := _) rfl Tryz.ntmps100 (Nat.le_of_ble_eq_true rfl) fun R0 F => ?_).pt
 replace h := Gets.of h
 have H := h
 clear h
 refine WP.seq <| rg 1 0 <| as0 rfl rfl <| .fin <| WP.seq <| rg 11 0 <| mv0 rfl rfl <| bn0 rfl rfl rfl run_seq <| mv0 rfl rfl ?_
 cases c162 : decide (a0 = (⟨#[]⟩ : ByteArray))
 rotate_left
 ·
  replace H := Gets.ct H c162
  refine sk rfl rfl <| sk rfl rfl <| pt0 rfl rfl rfl <| mv0 rfl rfl <| sk rfl rfl <| sk rfl rfl <| pt0 rfl rfl rfl <| as0 rfl rfl <| .fin ?_
  obtain rfl := Gets.out H
  exact rt i2 rfl () 0 [] 0 (.cons (res_tmp rfl) .nil)
 replace H := Gets.cf H c162
 refine mvg rfl rfl rfl <| bng rfl rfl rfl rfl run_seq <| pf0 rfl rfl rfl <| mv0 rfl rfl ?_
 cases c163 : decide (a0 = (⟨#[109, 97, 105, 110]⟩ : ByteArray))
 rotate_left
 ·
  replace H := Gets.ct H c163
  refine sk rfl rfl <| sk rfl rfl <| pt0 rfl rfl rfl <| as0 rfl rfl <| .fin ?_
  obtain rfl := Gets.out H
  exact rt i2 rfl () 0 [] 0 (.cons (res_tmp rfl) .nil)
 replace H := Gets.cf H c163
 refine mvg rfl rfl rfl <| el H fun t164 h165 H => Dv.call rfl (gg rfl) cal99 rfl (name_Event.c h165) <| pf0 rfl rfl rfl <| as0 rfl rfl <| .fin ?_
 obtain rfl := Gets.out H
 exact rt i2 rfl () 0 [] 0 (.cons (res_tmp rfl) .nil)
theorem edu_asks_3.c {k : Nat} {a0 : Edu} {r : Bool} (h : edu_asks_3.f k a0 = some r) : Pt Tryz.prog 97 [agg (Edu.enc a0)] (vB r) := by
 unfold edu_asks_3.f at h
 refine (Tr.body Tryz.func97 (c := _) rfl Tryz.ntmps97 (Nat.le_of_ble_eq_true rfl) fun R0 F => ?_).pt
 replace h := Gets.of h
 have H := h
 clear h
 refine WP.seq <| rg 2 1 <| Dv.box rfl trivial rfl cA nofun fun b166 => as0 rfl rfl <| .fin <| WP.seq <| rg 14 0 <| fb rfl trivial rfl fa30_1 <| ld 0 rfl trivial rfl sc9 rfl rfl <| el H fun t167 h168 H => cl rfl cal98 rfl (name_Room.c h168) <| mv0 rfl rfl ?_
 cases c169 : t167
 ·
  replace H := Gets.cf H c169
  refine sk rfl rfl <| sk rfl rfl <| sk rfl rfl <| pf0 rfl rfl rfl <| mv0 rfl rfl <| sk rfl rfl <| sk rfl rfl <| sk rfl rfl <| pf0 rfl rfl rfl <| as0 rfl rfl <| .fin ?_
  obtain rfl := Gets.out H
  exact rt i2 rfl () 1 [0] 1 (.cons (res_tmp rfl) .nil)
 replace H := Gets.ct H c169
 refine fb rfl (gg rfl) rfl fa30_3 <| ld 0 rfl (gg rfl) rfl sc9 rfl rfl <| el H fun t170 h171 H => Dv.call rfl (gg rfl) cal99 rfl (name_Event.c h171) <| pt0 rfl rfl rfl <| mv0 rfl rfl ?_
 cases c172 : t170
 ·
  replace H := Gets.cf H c172
  refine sk rfl rfl <| sk rfl rfl <| sk rfl rfl <| pf0 rfl rfl rfl <| as0 rfl rfl <| .fin ?_
  obtain rfl := Gets.out H
  exact rt i2 rfl () 1 [0] 1 (.cons (res_tmp rfl) .nil)
 replace H := Gets.ct H c172
 refine fb rfl (gg rfl) rfl fa30_4 <| ld 0 rfl (gg rfl) rfl sc9 rfl rfl <| el H fun t173 h174 H => Dv.call rfl (gg rfl) cal100 rfl (name_Thread.c h174) <| pt0 rfl rfl rfl <| as0 rfl rfl <| .fin ?_
 obtain rfl := Gets.out H
 exact rt i2 rfl () 1 [0] 1 (.cons (res_tmp rfl) .nil)
theorem edu_asks_4.c {k : Nat} {a0 : Edu} {c0 : Int → Int → Int → Option Bool} {r : Bool} (h : edu_asks_4.f k a0 c0 = some r) : Pt Tryz.prog 101 [agg (Edu.enc a0), rp [fq_int_int_int_bool c0]] (vB r) := by
 unfold edu_asks_4.f at h
 refine (Tr.body Tryz.func101 (c := _) rfl Tryz.ntmps101 (Nat.le_of_ble_eq_true rfl) fun R0 F => ?_).pt
 replace h := Gets.of h
 have H := h
 clear h
 refine WP.seq <| rg 2 1 <| Dv.box rfl trivial rfl cA nofun fun b175 => as0 rfl rfl <| .fin <| WP.seq <| rg 15 0 <| fb rfl trivial rfl fa30_1 <| ld 0 rfl trivial rfl sc9 rfl rfl <| el H fun t176 h177 H => cl rfl cal98 rfl (name_Room.c h177) <| mv0 rfl rfl ?_
 cases c178 : t176
 ·
  replace H := Gets.cf H c178
  refine sk rfl rfl <| sk rfl rfl <| sk rfl rfl <| sk rfl rfl <| sku rfl rfl <| sku rfl rfl <| sku rfl rfl <| sku rfl rfl <| sk rfl rfl <| pf0 rfl rfl rfl <| as0 rfl rfl <| .fin ?_
  obtain rfl := Gets.out H
  exact rt i2 rfl () 1 [0] 1 (.cons (res_tmp rfl) .nil)
 replace H := Gets.ct H c178
 refine fb rfl (gg rfl) rfl fa30_6 <| ld 0 rfl (gg rfl) rfl sc4 rfl rfl <| ung rfl rfl rfl (run_not _) <| mvg rfl rfl rfl ?_
 cases c179 : !a0.fOn
 rotate_left
 ·
  replace H := Gets.ct H c179
  refine sk rfl rfl <| sk rfl rfl <| sk rfl rfl <| sk rfl rfl <| ptg rfl rfl rfl rfl <| pt0 rfl rfl rfl <| as0 rfl rfl <| .fin ?_
  obtain rfl := Gets.out H
  exact rt i2 rfl () 1 [0] 1 (.cons (res_tmp rfl) .nil)
 replace H := Gets.cf H c179
 refine ldR rfl (gg rfl) rfl sc118 rfl <| fb rfl (gg rfl) rfl fa30_7 <| ld 0 rfl (gg rfl) rfl sc3 rfl rfl <| el H fun t180 h181 H => Dv.callq (ret := vB t180) rfl (gg rfl) rfl rfl ⟨_, _, _, _, h181, rfl, rfl⟩ <| pfg rfl rfl rfl rfl <| pt0 rfl rfl rfl <| as0 rfl rfl <| .fin ?_
 obtain rfl := Gets.out H
 exact rt i2 rfl () 1 [0] 1 (.cons (res_tmp rfl) .nil)
theorem edu_asks_5.c {a0 : Edu} {c0 : Int → Int → Int → Option Bool} {r : Bool} (h : edu_asks_5.f a0 c0 = some r) : Pt Tryz.prog 102 [agg (Edu.enc a0), rp [fq_int_int_int_bool c0]] (vB r) := by
 unfold edu_asks_5.f at h
 refine (Tr.body Tryz.func102 (c := _) rfl Tryz.ntmps102 (Nat.le_of_ble_eq_true rfl) fun R0 F => ?_).pt
 replace h := Gets.of h
 have H := h
 clear h
 refine WP.seq <| rg 2 1 <| Dv.box rfl trivial rfl cA nofun fun b182 => as0 rfl rfl <| .fin <| WP.seq <| rg 5 0 <| ldR rfl trivial rfl sc118 rfl <| fb rfl trivial rfl fa30_8 <| ld 0 rfl trivial rfl sc3 rfl rfl <| el H fun t183 h184 H => Dv.callq (ret := vB t183) rfl trivial rfl rfl ⟨_, _, _, _, h184, rfl, rfl⟩ <| as0 rfl rfl <| .fin ?_
 obtain rfl := Gets.out H
 exact rt i2 rfl () 1 [0] 1 (.cons (res_tmp rfl) .nil)
theorem edu_asks.c {k : Nat} {r : (List (Edu → Option Bool))} (h : edu_asks.f k = some r) : Pt Tryz.prog 69 [] (sl fK_api_Edu_bool r) := by
 unfold edu_asks.f at h
 refine (Tr.body Tryz.func69 (c := _) rfl Tryz.ntmps69 (Nat.le_of_ble_eq_true rfl) fun R0 F => ?_).pt
 replace h := Gets.of h
 have H := h
 clear h
 refine WP.seq <| rg 1 0 <| as0 rfl rfl <| .fin <| WP.seq <| rg 2 3 <| al rfl trivial zc118 nofun fun b185 => sx 0 rfl trivial rfl rfl cE sz118 rfl rfl rfl nofun ?_
 refine .fin <| WP.seq <| rg 4 0 <| Dv.gh (gh_frzb (E' := [(0, eq (.slice none 0 0)), (1, rp [eq (.func (.func 95) #[] #[])])]) (l' := F) 0 rfl (cve_cons rfl cv_id (cve_cons rfl cv_eq cve_nil)) (all2_app .nil fun _ => cva_id)) (fun _ _ => ?_)
 refine Dv.mkf (Q := fqQ_api_Edu_bool (fun a0_ => edu_asks_4.f k a0_ edu_asks_1.f)) cal101 (by rintro _ _ ⟨a0_, r_, h_, rfl, rfl⟩; exact Pt.weak (edu_asks_4.c h_) (.cons wk_id (.cons (wk_rp (.cons (wk_fn cal95 (by rintro _ _ ⟨a0_, a1_, a2_, r_, h_, rfl, rfl⟩; exact edu_asks_1.c h_)) .nil)) .nil))) rfl trivial rfl rfl <| Dv.mkf (Q := fqQ_api_Edu_bool (fun a0_ => edu_asks_5.f a0_ edu_asks_1.f)) cal102 (by rintro _ _ ⟨a0_, r_, h_, rfl, rfl⟩; exact Pt.weak (edu_asks_5.c h_) (.cons wk_id (.cons (wk_rp (.cons (wk_fn cal95 (by rintro _ _ ⟨a0_, a1_, a2_, r_, h_, rfl, rfl⟩; exact edu_asks_1.c h_)) .nil)) .nil))) rfl trivial rfl rfl <| Dv.lit fK_api_Edu_bool ([edu_asks_2.f, edu_asks_3.f k, fun a0_ => edu_asks_4.f k a0_ edu_asks_1.f, fun a0_ => edu_asks_5.f a0_ edu_asks_1.f] : List (Edu → Option Bool)) (css := [[fq_api_Edu_bool edu_asks_2.f], [fq_api_Edu_bool (edu_asks_3.f k)], [fq_api_Edu_bool (fun a0_ => edu_asks_4.f k a0_ edu_asks_1.f)], [fq_api_Edu_bool (fun a0_ => edu_asks_5.f a0_ edu_asks_1.f)]]) rfl trivial Tryz.underlying99 Tryz.underlying58 c58 z58 rfl (by decide) (by decide) rfl ⟨(cells_wk (wk_fn cal96 (by rintro _ _ ⟨a0_, r_, h_, rfl, rfl⟩; exact edu_asks_2.c h_)) (one_eq rfl)), ⟨(cells_wk (wk_fn cal97 (by rintro _ _ ⟨a0_, r_, h_, rfl, rfl⟩; exact edu_asks_3.c h_)) (one_eq rfl)), ⟨(cells_one one_fnq), ⟨(cells_one one_fnq), trivial⟩⟩⟩⟩ rfl rfl rfl <| as0 rfl rfl <| .fin ?_
 obtain rfl := Gets.out H
 exact rt i2 rfl () 0 [] 0 (.cons (res_tmp rfl) .nil)
theorem edu_Local_1.c {a0 : Int} {r : Bool} (h : edu_Local_1.f a0 = some r) : Pt Tryz.prog 70 [vI a0] (vB r) := by
 unfold edu_Local_1.f at h
 refine (Tr.body Tryz.func70 (c := _) rfl Tryz.ntmps70 (Nat.le_of_ble_eq_true rfl) fun R0 F => ?_).pt
 replace h := Gets.of h
 have H := h
 clear h
 refine WP.seq <| rg 1 0 <| as0 rfl rfl <| .fin <| WP.seq <| rg 7 0 <| mv0 rfl rfl <| bn0 rfl rfl rfl run_ge <| mv0 rfl rfl ?_
 cases c186 : decide (0 ≤ a0)
 ·
  replace H := Gets.cf H c186
  refine sk rfl rfl <| sk rfl rfl <| pf0 rfl rfl rfl <| as0 rfl rfl <| .fin ?_
  obtain rfl := Gets.out H
  exact rt i2 rfl () 0 [] 0 (.cons (res_tmp rfl) .nil)
 replace H := Gets.ct H c186
 refine mvg rfl rfl rfl <| bng rfl rfl rfl rfl run_le <| pt0 rfl rfl rfl <| as0 rfl rfl <| .fin ?_
 obtain rfl := Gets.out H
 exact rt i2 rfl () 0 [] 0 (.cons (res_tmp rfl) .nil)
theorem edu_named.c {a0 : Edu} {r : Edu} (h : edu_named.f a0 = some r) : Pt Tryz.prog 71 [agg (Edu.enc a0)] (agg (Edu.enc r)) := by
 unfold edu_named.f at h
 refine (Tr.body Tryz.func71 (c := _) rfl Tryz.ntmps71 (Nat.le_of_ble_eq_true rfl) fun R0 F => ?_).pt
 replace h := Gets.of h
 have H := h
 clear h
 refine WP.seq <| rg 2 3 <| Dv.box rfl trivial rfl cA nofun fun b187 => al rfl trivial zc30 nofun fun b188 => .fin <| WP.seq <| rg 11 1536 <| fb rfl trivial rfl fa30_0 <| ld 1 rfl trivial rfl sc3 rfl rfl <| fb rfl trivial rfl fa30_2 <| ld 1 rfl trivial rfl sc9 rfl rfl <| fb rfl trivial rfl fa30_9 <| ld 1 rfl trivial rfl sc3 rfl rfl <| fb rfl trivial rfl fa30_10 <| ld 1 rfl trivial rfl sc3 rfl rfl <| Dv.bld (css := [[vI a0.fKind], [vS a0.fUser], [vI a0.fTick], [vI a0.fStamp]]) rfl trivial Tryz.underlying30 pl30 z30 rfl ⟨(cells_one (one_eq rfl)), ⟨(cells_one (one_eq rfl)), ⟨(cells_one (one_eq rfl)), ⟨(cells_one (one_eq rfl)), trivial⟩⟩⟩⟩ rfl rfl <| al rfl trivial zc30 nofun fun b189 => sx 0 rfl trivial rfl rfl cA sz30 rfl rfl rfl nofun ?_
 refine .fin <| WP.seq <| WP.seq <| rg 2 0 <| fb rfl trivial rfl fa30_0 <| ld 2 rfl trivial rfl sc3 rfl rfl <| .fin <| WP.block <| WP.seq <| rg 2 0 <| bn0 rfl rfl rfl run_eq <| as0 rfl rfl <| .fin <| cd H rfl (fun _ H => ?_) (fun _ H => ?_)
 ·
  refine dg Tryz.checked.mixed 16 43520 <| fb rfl trivial rfl fa30_1 <| ld 2 rfl trivial rfl sc9 rfl rfl <| fb rfl trivial rfl fa30_3 <| ld 2 rfl trivial rfl sc9 rfl rfl <| fb rfl trivial rfl fa30_4 <| ld 2 rfl trivial rfl sc9 rfl rfl <| fb rfl trivial rfl fa30_5 <| ld 2 rfl trivial rfl sc4 rfl rfl <| fb rfl trivial rfl fa30_1 <| sx 0 rfl trivial rfl rfl cE sz9 rfl rfl rfl (fun _ => (pend_by (by kernel_rfl) (pend_in (fun _ => (mem_at 2 rfl)) (pend_in (fun _ => trivial) (pend_in (fun _ => (mem_at 2 rfl)) (pend_in (fun _ => trivial) (pend_in (fun _ => (mem_at 2 rfl)) (pend_in (fun _ => trivial) (pend_by (by kernel_rfl) (pend_by (by kernel_rfl) pend_nil)))))))))) ?_
  refine fb rfl trivial rfl fa30_3 <| sx 0 rfl trivial rfl rfl cE sz9 rfl rfl rfl (fun _ => (pend_by (by kernel_rfl) (pend_by (by kernel_rfl) (pend_in (fun _ => (mem_at 2 rfl)) (pend_in (fun _ => trivial) (pend_in (fun _ => (mem_at 2 rfl)) (pend_in (fun _ => trivial) (pend_by (by kernel_rfl) (pend_by (by kernel_rfl) (pend_by (by kernel_rfl) (pend_by (by kernel_rfl) pend_nil))))))))))) ?_
  refine fb rfl trivial rfl fa30_4 <| sx 0 rfl trivial rfl rfl cE sz9 rfl rfl rfl (fun _ => (pend_by (by kernel_rfl) (pend_by (by kernel_rfl) (pend_by (by kernel_rfl) (pend_in (fun _ => (mem_at 2 rfl)) (pend_in (fun _ => trivial) (pend_by (by kernel_rfl) (pend_by (by kernel_rfl) (pend_by (by kernel_rfl) (pend_by (by kernel_rfl) (pend_by (by kernel_rfl) (pend_by (by kernel_rfl) pend_nil)))))))))))) ?_
  refine fb rfl trivial rfl fa30_5 <| sx 0 rfl trivial rfl rfl cE sz4 rfl rfl rfl pB ?_
  refine .fin <| WP.seq <| rg 2 2 <| lds 0 rfl trivial rfl sg30 rfl rfl <| sx 1 rfl trivial rfl rfl cA sz30 rfl rfl rfl nofun ?_
  refine .fin ?_
  obtain rfl := Gets.out H
  exact rt i2 rfl () 3 [0,1,2] 3 (.cons (res_cells rfl Tryz.underlying30 rfl c30 (mem_at 1 rfl) rfl) .nil)
 refine WP.seq <| rg 2 0 <| bn0 rfl rfl rfl run_eq <| as0 rfl rfl <| .fin <| cd H rfl (fun _ H => ?_) (fun _ H => ?_)
 rotate_left
 ·
  refine WP.seq <| rg 2 0 <| bn0 rfl rfl rfl run_eq <| as0 rfl rfl <| .fin <| cd H rfl (fun _ H => ?_) (fun _ H => ?_)
  rotate_left
  ·
   refine WP.skip <| WP.seq <| rg 2 2 <| lds 0 rfl trivial rfl sg30 rfl rfl <| sx 1 rfl trivial rfl rfl cA sz30 rfl rfl rfl nofun ?_
   refine .fin ?_
   obtain rfl := Gets.out H
   exact rt i2 rfl () 3 [0,1,2] 3 (.cons (res_cells rfl Tryz.underlying30 rfl c30 (mem_at 1 rfl) rfl) .nil)
  refine rg 4 8 <| fb rfl trivial rfl fa30_8 <| ld 2 rfl trivial rfl sc3 rfl rfl <| fb rfl trivial rfl fa30_8 <| sx 0 rfl trivial rfl rfl cE sz3 rfl rfl rfl nofun ?_
  refine .fin <| WP.seq <| rg 2 2 <| lds 0 rfl trivial rfl sg30 rfl rfl <| sx 1 rfl trivial rfl rfl cA sz30 rfl rfl rfl nofun ?_
  refine .fin ?_
  obtain rfl := Gets.out H
  exact rt i2 rfl () 3 [0,1,2] 3 (.cons (res_cells rfl Tryz.underlying30 rfl c30 (mem_at 1 rfl) rfl) .nil)
 refine WP.seq <| dg Tryz.checked.mixed 8 160 <| fb rfl trivial rfl fa30_1 <| ld 2 rfl trivial rfl sc9 rfl rfl <| fb rfl trivial rfl fa30_6 <| ld 2 rfl trivial rfl sc4 rfl rfl <| fb rfl trivial rfl fa30_1 <| sx 0 rfl trivial rfl rfl cE sz9 rfl rfl rfl (fun _ => (pend_by (by kernel_rfl) (pend_in (fun _ => (mem_at 2 rfl)) (pend_in (fun _ => trivial) (pend_by (by kernel_rfl) (pend_by (by kernel_rfl) pend_nil)))))) ?_
 refine fb rfl trivial rfl fa30_6 <| sx 0 rfl trivial rfl rfl cE sz4 rfl rfl rfl pB ?_
 refine .fin <| WP.seq <| rg 2 0 <| fb rfl trivial rfl fa30_6 <| ld 2 rfl trivial rfl sc4 rfl rfl <| .fin <| cd H rfl (fun _ H => ?_) (fun _ H => ?_)
 rotate_left
 ·
  refine WP.skip <| WP.seq <| rg 2 2 <| lds 0 rfl trivial rfl sg30 rfl rfl <| sx 1 rfl trivial rfl rfl cA sz30 rfl rfl rfl nofun ?_
  refine .fin ?_
  obtain rfl := Gets.out H
  exact rt i2 rfl () 3 [0,1,2] 3 (.cons (res_cells rfl Tryz.underlying30 rfl c30 (mem_at 1 rfl) rfl) .nil)
 refine rg 4 8 <| fb rfl trivial rfl fa30_7 <| ld 2 rfl trivial rfl sc3 rfl rfl <| fb rfl trivial rfl fa30_7 <| sx 0 rfl trivial rfl rfl cE sz3 rfl rfl rfl nofun ?_
 refine .fin <| WP.seq <| rg 2 2 <| lds 0 rfl trivial rfl sg30 rfl rfl <| sx 1 rfl trivial rfl rfl cA sz30 rfl rfl rfl nofun ?_
 refine .fin ?_
 obtain rfl := Gets.out H
 exact rt i2 rfl () 3 [0,1,2] 3 (.cons (res_cells rfl Tryz.underlying30 rfl c30 (mem_at 1 rfl) rfl) .nil)
theorem name_User.c {k : Nat} {a0 : ByteArray} {r : Bool} (h : name_User.f k a0 = some r) : Pt Tryz.prog 72 [vS a0] (vB r) := by
 unfold name_User.f at h
 refine (Tr.body Tryz.func72 (c := _) rfl Tryz.ntmps72 (Nat.le_of_ble_eq_true rfl) fun R0 F => ?_).pt
 replace h := Gets.of h
 have H := h
 clear h
 refine WP.seq <| rg 1 0 <| as0 rfl rfl <| .fin <| WP.seq <| rg 9 0 <| mv0 rfl rfl <| el H fun t194 h195 H => cl rfl cal103 rfl (name_split.c h195) <| mv0 rfl rfl <| ex0 rfl trivial rfl rfl <| ex0 rfl trivial rfl rfl <| ex0 rfl trivial rfl rfl <| as0 rfl rfl <| as0 rfl rfl <| as0 rfl rfl <| .fin <| WP.seq <| rg 2 0 <| mv0 rfl rfl <| as0 rfl rfl <| .fin ?_
 obtain rfl := Gets.out H
 exact rt i2 rfl () 0 [] 0 (.cons (res_tmp rfl) .nil)
theorem edu_Local.c {k : Nat} {a0 : Edu} {r : Bool} (h : edu_Local.f k a0 = some r) : Pt Tryz.prog 46 [agg (Edu.enc a0)] (vB r) := by
 unfold edu_Local.f at h
 refine (Tr.body Tryz.func46 (c := _) rfl Tryz.ntmps46 (Nat.le_of_ble_eq_true rfl) fun R0 F => ?_).pt
 replace h := Gets.of h
 have H := h
 clear h
 refine WP.seq <| rg 2 1 <| Dv.box rfl trivial rfl cA nofun fun b196 => as0 rfl rfl <| .fin <| WP.seq <| WP.seq <| dg Tryz.checked.mixed 18 0 <| fb rfl trivial rfl fa30_0 <| ld 0 rfl trivial rfl sc3 rfl rfl <| bn0 rfl rfl rfl run_lt <| mv0 rfl rfl ?_
 cases c197 : decide (a0.fKind < 0)
 rotate_left
 ·
  replace H := Gets.ct H c197
  refine sk rfl rfl <| sk rfl rfl <| sk rfl rfl <| pt0 rfl rfl rfl <| mv0 rfl rfl <| sk rfl rfl <| sk rfl rfl <| sk rfl rfl <| sk rfl rfl <| sk rfl rfl <| sk rfl rfl <| sk rfl rfl <| sk rfl rfl <| pt0 rfl rfl rfl <| .fin <| WP.cond rfl (fun _ => ?_) nofun
  refine WP.seq <| rg 1 0 <| as0 rfl rfl <| .fin ?_
  obtain rfl := Gets.out H
  exact rt i2 rfl () 1 [0] 1 (.cons (res_tmp rfl) .nil)
 replace H := Gets.cf H c197
 refine fb rfl (gg rfl) rfl fa30_0 <| ld 0 rfl (gg rfl) rfl sc3 rfl rfl <| bng rfl rfl rfl rfl run_gt <| pf0 rfl rfl rfl <| mv0 rfl rfl ?_
 cases c199 : decide (3 < a0.fKind)
 rotate_left
 ·
  replace H := Gets.ct H c199
  refine sk rfl rfl <| sk rfl rfl <| sk rfl rfl <| sk rfl rfl <| sk rfl rfl <| sk rfl rfl <| sk rfl rfl <| sk rfl rfl <| pt0 rfl rfl rfl <| .fin <| WP.cond rfl (fun _ => ?_) nofun
  refine WP.seq <| rg 1 0 <| as0 rfl rfl <| .fin ?_
  obtain rfl := Gets.out H
  exact rt i2 rfl () 1 [0] 1 (.cons (res_tmp rfl) .nil)
 replace H := Gets.cf H c199
 refine el H fun t201 h202 H => Dv.call rfl (gg rfl) cal69 rfl (edu_asks.c h202) <| fb rfl (gg rfl) rfl fa30_0 <| ld 0 rfl (gg rfl) rfl sc3 rfl rfl <| gr H fun g203 H => Dv.ixr rfl (gg rfl) rfl rfl Tryz.underlying99 Tryz.underlying58 c58 g203.1 g203.2 <| ldR rfl (gg rfl) rfl sc58 rfl <| lds 0 rfl (gg rfl) rfl sg30 rfl rfl <| el H fun t204 h205 H => Dv.callq (ret := vB t204) rfl (gg rfl) rfl rfl ⟨_, _, h205, rfl, rfl⟩ <| ung rfl rfl rfl (run_not _) <| pf0 rfl rfl rfl <| .fin <| cd H rfl (fun _ H => ?_) (fun _ H => ?_)
 ·
  refine WP.seq <| rg 1 0 <| as0 rfl rfl <| .fin ?_
  obtain rfl := Gets.out H
  exact rt i2 rfl () 1 [0] 1 (.cons (res_tmp rfl) .nil)
 refine WP.skip <| WP.seq <| rg 1 0 <| as0 rfl rfl <| .fin <| WP.seq <| dg Tryz.checked.mixed 22 0 <| lds 0 rfl trivial rfl sg30 rfl rfl <| lds 0 rfl trivial rfl sg30 rfl rfl <| el H fun t207 h208 H => cl rfl cal71 rfl (edu_named.c h208) <| Dv.eqs [.int .i64 a0.fKind, .string a0.fRoom, .string a0.fUser, .string a0.fEvent, .string a0.fThread, .bool a0.fPrivate, .bool a0.fOn, .int .i64 a0.fSpan, .int .i64 a0.fState, .int .i64 a0.fTick, .int .i64 a0.fStamp] [.int .i64 t207.fKind, .string t207.fRoom, .string t207.fUser, .string t207.fEvent, .string t207.fThread, .bool t207.fPrivate, .bool t207.fOn, .int .i64 t207.fSpan, .int .i64 t207.fState, .int .i64 t207.fTick, .int .i64 t207.fStamp] rfl trivial rfl rfl rfl rfl eg30 (fun _ => equal_of 2 (by decide) (fun _ => eqt30 a0 t207)) <| mv0 rfl rfl ?_
 cases c209 : decide (a0 = t207)
 ·
  replace H := Gets.cf H c209
  refine sk rfl rfl <| sk rfl rfl <| sk rfl rfl <| pf0 rfl rfl rfl <| mv0 rfl rfl <| sk rfl rfl <| sk rfl rfl <| sk rfl rfl <| sk rfl rfl <| pf0 rfl rfl rfl <| mv0 rfl rfl <| sk rfl rfl <| sk rfl rfl <| sk rfl rfl <| sk rfl rfl <| pf0 rfl rfl rfl <| as0 rfl rfl <| .fin ?_
  obtain rfl := Gets.out H
  exact rt i2 rfl () 1 [0] 1 (.cons (res_tmp rfl) .nil)
 replace H := Gets.ct H c209
 refine fb rfl (gg rfl) rfl fa30_2 <| ld 0 rfl (gg rfl) rfl sc9 rfl rfl <| el H fun t210 h211 H => Dv.call rfl (gg rfl) cal72 rfl (name_User.c h211) <| pt0 rfl rfl rfl <| mv0 rfl rfl ?_
 cases c212 : t210
 ·
  replace H := Gets.cf H c212
  refine sk rfl rfl <| sk rfl rfl <| sk rfl rfl <| sk rfl rfl <| pf0 rfl rfl rfl <| mv0 rfl rfl <| sk rfl rfl <| sk rfl rfl <| sk rfl rfl <| sk rfl rfl <| pf0 rfl rfl rfl <| as0 rfl rfl <| .fin ?_
  obtain rfl := Gets.out H
  exact rt i2 rfl () 1 [0] 1 (.cons (res_tmp rfl) .nil)
 replace H := Gets.ct H c212
 refine mvg rfl rfl rfl <| fb rfl (gg rfl) rfl fa30_9 <| ld 0 rfl (gg rfl) rfl sc3 rfl rfl <| el H fun t213 h214 H => Dv.callk rfl (gg rfl) rfl cal70 rfl (edu_Local_1.c h214) <| pt0 rfl rfl rfl <| mv0 rfl rfl ?_
 cases c215 : t213
 ·
  replace H := Gets.cf H c215
  refine sk rfl rfl <| sk rfl rfl <| sk rfl rfl <| sk rfl rfl <| pf0 rfl rfl rfl <| as0 rfl rfl <| .fin ?_
  obtain rfl := Gets.out H
  exact rt i2 rfl () 1 [0] 1 (.cons (res_tmp rfl) .nil)
 replace H := Gets.ct H c215
 refine mvg rfl rfl rfl <| fb rfl (gg rfl) rfl fa30_10 <| ld 0 rfl (gg rfl) rfl sc3 rfl rfl <| el H fun t216 h217 H => Dv.callk rfl (gg rfl) rfl cal70 rfl (edu_Local_1.c h217) <| pt0 rfl rfl rfl <| as0 rfl rfl <| .fin ?_
 obtain rfl := Gets.out H
 exact rt i2 rfl () 1 [0] 1 (.cons (res_tmp rfl) .nil)
theorem edu_May.c {k : Nat} {a0 : Edu} {r : Bool} (h : edu_May.f k a0 = some r) : Pt Tryz.prog 26 [agg (Edu.enc a0)] (vB r) := by
 unfold edu_May.f at h
 refine (Tr.body Tryz.func26 (c := _) rfl Tryz.ntmps26 (Nat.le_of_ble_eq_true rfl) fun R0 F => ?_).pt
 replace h := Gets.of h
 have H := h
 clear h
 refine WP.seq <| rg 2 1 <| Dv.box rfl trivial rfl cA nofun fun b218 => as0 rfl rfl <| .fin <| WP.seq <| rg 8 0 <| lds 0 rfl trivial rfl sg30 rfl rfl <| el H fun t219 h220 H => cl rfl cal46 rfl (edu_Local.c h220) <| mv0 rfl rfl ?_
 cases c221 : t219
 ·
  replace H := Gets.cf H c221
  refine sk rfl rfl <| sk rfl rfl <| sk rfl rfl <| pf0 rfl rfl rfl <| as0 rfl rfl <| .fin ?_
  obtain rfl := Gets.out H
  exact rt i2 rfl () 1 [0] 1 (.cons (res_tmp rfl) .nil)
 replace H := Gets.ct H c221
 refine fb rfl (gg rfl) rfl fa30_5 <| ld 0 rfl (gg rfl) rfl sc4 rfl rfl <| ung rfl rfl rfl (run_not _) <| pt0 rfl rfl rfl <| as0 rfl rfl <| .fin ?_
 obtain rfl := Gets.out H
 exact rt i2 rfl () 1 [0] 1 (.cons (res_tmp rfl) .nil)
theorem slices_BinarySearchFunc_Edu_Edu.c {k : Nat} {a0 : List Edu} {a1 : Edu} {a2 : Edu → Edu → Option Int} {r : Int × Bool} (h : slices_BinarySearchFunc_Edu_Edu.f k a0 a1 a2 = some r) : Pt Tryz.prog 47 [sl Edu.K a0, agg (Edu.enc a1), fq_api_Edu_api_Edu_int a2] (tup [vI r.1, vB r.2]) := by
 unfold slices_BinarySearchFunc_Edu_Edu.f at h
 refine (Tr.body Tryz.func47 (c := _) rfl Tryz.ntmps47 (Nat.le_of_ble_eq_true rfl) fun R0 F => ?_).pt
 replace h := Gets.of h
 have H := h
 clear h
 refine WP.seq <| rg 3 1 <| Dv.box rfl trivial rfl cA nofun fun b222 => as0 rfl rfl <| as0 rfl rfl <| .fin <| WP.seq <| rg 3 0 <| mv0 rfl rfl <| Dv.lenl rfl trivial rfl Tryz.underlying22 <| as0 rfl rfl <| .fin <| WP.seq <| rg 3 0 <| mv0 rfl rfl <| as0 rfl rfl <| as0 rfl rfl <| .fin <| WP.seqn H id (fun p223 : Int × Int × Bool => [(0, sl Edu.K a0), (1, agg (Edu.enc a1)), (2, fq_api_Edu_api_Edu_int a2), (4, eq (.pointer (some ⟨b222, 0, none⟩))), (6, vI 0), (7, vB false), (8, vI (a0.length : Int)), (9, vI p223.1), (10, vI p223.2.1), (17, vB p223.2.2)]) (fun p223 : Int × Int × Bool => [blk b222 30 (Edu.enc a1)] ++ F) (fun p223 H => ?_) (fun H => ?_)
 ·
  refine WP.seq <| dg Tryz.checked.mixed 16 0 <| mv0 rfl rfl <| mv0 rfl rfl <| mv0 rfl rfl <| bn0 rfl rfl rfl run_lt <| mv0 rfl rfl ?_
  cases c224 : decide (p223.1 < (a0.length : Int))
  ·
   replace H := Gets.cf H c224
   refine sk rfl rfl <| sk rfl rfl <| sk rfl rfl <| sk rfl rfl <| sk rfl rfl <| sk rfl rfl <| sk rfl rfl <| sk rfl rfl <| pf0 rfl rfl rfl <| as0 rfl rfl <| as0 rfl rfl <| .fin ?_
   obtain rfl := Gets.out H
   exact rt i2 rfl () 1 [0] 1 (.cons (res_tmp rfl) (.cons (res_tmp rfl) .nil))
  replace H := Gets.ct H c224
  refine mvg rfl rfl rfl <| mvg rfl rfl rfl <| mvg rfl rfl rfl <| gr H fun g225 H => Dv.ixr rfl (gg rfl) rfl rfl Tryz.underlying22 Tryz.underlying30 c30 g225.1 g225.2 <| ldsR rfl (gg rfl) rfl sg30 rfl <| lds 0 rfl (gg rfl) rfl sg30 rfl rfl <| el H fun t226 h227 H => Dv.callq (ret := vI t226) rfl (gg rfl) rfl rfl ⟨_, _, _, h227, rfl, rfl⟩ <| bng rfl rfl rfl rfl run_eq <| pt0 rfl rfl rfl <| as0 rfl rfl <| as0 rfl rfl <| .fin ?_
  obtain rfl := Gets.out H
  exact rt i2 rfl () 1 [0] 1 (.cons (res_tmp rfl) (.cons (res_tmp rfl) .nil))
 refine WP.block <| wg (sg 1 [0] 0) fun _ _ => ?_
 refine lp (fun j_ (p236 : Int × Int) => slices_BinarySearchFunc_Edu_Edu.l0 k a0 a1 a2 j_ p236.1 p236.2) (0, (a0.length : Int)) H (fun p236 => [(0, sl Edu.K a0), (1, agg (Edu.enc a1)), (2, fq_api_Edu_api_Edu_int a2), (4, eq (.pointer (some ⟨b222, 0, none⟩))), (6, vI 0), (7, vB false), (8, vI (a0.length : Int)), (9, vI p236.1), (10, vI p236.2)]) (fun p236 => [blk b222 30 (Edu.enc a1)] ++ F) ?_
 rintro j_ ⟨x228, x229⟩ H
 rcases j_ with _ | j235
 ·
  exact (Gets.no H).elim
 replace H : Gets (slices_BinarySearchFunc_Edu_Edu.l0 k a0 a1 a2 (j235 + 1) x228 x229) _ := H
 rw [slices_BinarySearchFunc_Edu_Edu.l0] at H
 refine WP.seq <| WP.seq <| rg 3 0 <| mv0 rfl rfl <| mv0 rfl rfl <| bn0 rfl rfl rfl run_lt <| .fin <| cd H rfl (fun _ H => ?_) (fun _ H => ?_)
 rotate_left
 ·
  refine WP.exit ?_
  replace H := Gets.out H
  exact jn (x228, x229, decide (x228 < x229)) H
 refine WP.skip <| WP.block <| WP.seq <| rg 7 0 <| mv0 rfl rfl <| mv0 rfl rfl <| bn0 rfl rfl rfl run_add <| Dv.cvi rfl trivial rfl Tryz.underlying3 Tryz.underlying94 <| bn0 rfl rfl rfl (run_shr (by decide)) <| Dv.cvi rfl trivial rfl Tryz.underlying94 Tryz.underlying3 <| as0 rfl rfl <| .fin <| WP.seq <| dg Tryz.checked.mixed 8 0 <| mv0 rfl rfl <| mv0 rfl rfl <| mv0 rfl rfl <| gr H fun g231 H => Dv.ixr rfl trivial rfl rfl Tryz.underlying22 Tryz.underlying30 c30 g231.1 g231.2 <| ldsR rfl trivial rfl sg30 rfl <| lds 0 rfl trivial rfl sg30 rfl rfl <| el H fun t232 h233 H => Dv.callq (ret := vI t232) rfl trivial rfl rfl ⟨_, _, _, h233, rfl, rfl⟩ <| bn0 rfl rfl rfl run_lt <| .fin <| cd H rfl (fun _ H => ?_) (fun _ H => ?_)
 rotate_left
 ·
  exact rg 2 0 <| mv0 rfl rfl <| as0 rfl rfl <| .fin <| bk j235 (x228, w64 ((IntKind.u64.wrap (w64 (x228 + x229))).fdiv 2)) H
 exact rg 3 0 <| mv0 rfl rfl <| bn0 rfl rfl rfl run_add <| as0 rfl rfl <| .fin <| bk j235 (w64 ((w64 ((IntKind.u64.wrap (w64 (x228 + x229))).fdiv 2)) + 1), x229) H
theorem cmp_Or_int.c {k : Nat} {a0 : List Int} {r : Int} (h : cmp_Or_int.f k a0 = some r) : Pt Tryz.prog 49 [sl (intK .i64) a0] (vI r) := by
 unfold cmp_Or_int.f at h
 refine (Tr.body Tryz.func49 (c := _) rfl Tryz.ntmps49 (Nat.le_of_ble_eq_true rfl) fun R0 F => ?_).pt
 replace h := Gets.of h
 have H := h
 clear h
 refine WP.seq <| rg 1 0 <| as0 rfl rfl <| .fin <| WP.seq <| rg 1 0 <| as0 rfl rfl <| .fin <| WP.seqr H id (fun p237 : Int × Bool => [(0, sl (intK .i64) a0), (2, vI 0), (3, vI 0), (6, sl (intK .i64) a0), (7, vI (a0.length : Int)), (8, vI p237.1), (9, vB p237.2)]) (fun p237 : Int × Bool => F) (fun p237 H => ?_) (fun H => ?_)
 ·
  refine WP.seq <| rg 2 0 <| mv0 rfl rfl <| as0 rfl rfl <| .fin ?_
  obtain rfl := Gets.out H
  exact rt i2 rfl () 0 [] 0 (.cons (res_tmp rfl) .nil)
 refine WP.seq <| rg 3 0 <| mv0 rfl rfl <| Dv.lenl rfl trivial rfl Tryz.underlying24 <| mv0 rfl rfl <| .fin <| WP.block <| wg (sg 0 [] 0) fun _ _ => ?_
 refine lp (fun j_ (p243 : Int) => cmp_Or_int.l0 k a0 j_ p243) 0 H (fun p243 => [(0, sl (intK .i64) a0), (2, vI 0), (3, vI 0), (6, sl (intK .i64) a0), (7, vI (a0.length : Int)), (8, vI p243)]) (fun p243 => F) ?_
 rintro j_ x238 H
 rcases j_ with _ | j242
 ·
  exact (Gets.no H).elim
 replace H : Gets (cmp_Or_int.l0 k a0 (j242 + 1) x238) _ := H
 rw [cmp_Or_int.l0] at H
 refine WP.seq <| rg 1 0 <| bn0 rfl rfl rfl run_lt <| .fin <| WP.seq <| cd H rfl (fun _ H => ?_) (fun _ H => ?_)
 rotate_left
 ·
  refine WP.exit ?_
  replace H := Gets.out H
  exact jn (x238, decide (x238 < (a0.length : Int))) H
 refine WP.skip <| WP.seq <| WP.block <| WP.seq <| rg 3 0 <| gr H fun g240 H => Dv.ixr rfl trivial rfl rfl Tryz.underlying24 Tryz.underlying3 c3 g240.1 g240.2 <| ldR rfl trivial rfl sc3 rfl <| as0 rfl rfl <| .fin <| WP.seq <| rg 3 0 <| mv0 rfl rfl <| mv0 rfl rfl <| bn0 rfl rfl rfl run_ne <| .fin <| cd H rfl (fun _ H => ?_) (fun _ H => ?_)
 rotate_left
 ·
  exact WP.skip <| rg 2 0 <| bn0 rfl rfl rfl run_add <| mv0 rfl rfl <| .fin <| bk j242 (w64 (x238 + 1)) H
 refine WP.seq <| rg 2 0 <| mv0 rfl rfl <| as0 rfl rfl <| .fin ?_
 replace H := Gets.outr H
 obtain rfl := Gets.out H
 exact rt i2 rfl () 0 [] 0 (.cons (res_tmp rfl) .nil)
theorem cmp_isNaN_string.c {a0 : ByteArray} {r : Bool} (h : cmp_isNaN_string.f a0 = some r) : Pt Tryz.prog 73 [vS a0] (vB r) := by
 unfold cmp_isNaN_string.f at h
 refine (Tr.body Tryz.func73 (c := _) rfl Tryz.ntmps73 (Nat.le_of_ble_eq_true rfl) fun R0 F => ?_).pt
 replace h := Gets.of h
 have H := h
 clear h
 refine WP.seq <| rg 1 0 <| as0 rfl rfl <| .fin <| WP.seq <| rg 4 0 <| mv0 rfl rfl <| mv0 rfl rfl <| bn0 rfl rfl rfl run_sne <| as0 rfl rfl <| .fin ?_
 obtain rfl := Gets.out H
 exact rt i2 rfl () 0 [] 0 (.cons (res_tmp rfl) .nil)
theorem cmp_Compare_string.c {a0 : ByteArray} {a1 : ByteArray} {r : Int} (h : cmp_Compare_string.f a0 a1 = some r) : Pt Tryz.prog 50 [vS a0, vS a1] (vI r) := by
 unfold cmp_Compare_string.f at h
 refine (Tr.body Tryz.func50 (c := _) rfl Tryz.ntmps50 (Nat.le_of_ble_eq_true rfl) fun R0 F => ?_).pt
 replace h := Gets.of h
 have H := h
 clear h
 refine WP.seq <| rg 1 0 <| as0 rfl rfl <| .fin <| WP.seq <| rg 3 0 <| mv0 rfl rfl <| el H fun t244 h245 H => cl rfl cal73 rfl (cmp_isNaN_string.c h245) <| as0 rfl rfl <| .fin <| WP.seq <| rg 3 0 <| mv0 rfl rfl <| el H fun t246 h247 H => cl rfl cal73 rfl (cmp_isNaN_string.c h247) <| as0 rfl rfl <| .fin <| WP.seq <| WP.seq <| rg 1 0 <| mv0 rfl rfl <| .fin <| cd H rfl (fun _ H => ?_) (fun _ H => ?_)
 ·
  refine WP.seq <| WP.seq <| rg 1 0 <| mv0 rfl rfl <| .fin <| cd H rfl (fun _ H => ?_) (fun _ H => ?_)
  ·
   refine WP.seq <| rg 1 0 <| as0 rfl rfl <| .fin ?_
   obtain rfl := Gets.out H
   exact rt i2 rfl () 0 [] 0 (.cons (res_tmp rfl) .nil)
  refine WP.skip <| WP.seq <| rg 1 0 <| as0 rfl rfl <| .fin ?_
  obtain rfl := Gets.out H
  exact rt i2 rfl () 0 [] 0 (.cons (res_tmp rfl) .nil)
 refine WP.skip <| WP.seq <| WP.seq <| rg 1 0 <| mv0 rfl rfl <| .fin <| cd H rfl (fun _ H => ?_) (fun _ H => ?_)
 ·
  refine WP.seq <| rg 1 0 <| as0 rfl rfl <| .fin ?_
  obtain rfl := Gets.out H
  exact rt i2 rfl () 0 [] 0 (.cons (res_tmp rfl) .nil)
 refine WP.skip <| WP.seq <| WP.seq <| rg 3 0 <| mv0 rfl rfl <| mv0 rfl rfl <| bn0 rfl rfl rfl run_slt <| .fin <| cd H rfl (fun _ H => ?_) (fun _ H => ?_)
 ·
  refine WP.seq <| rg 1 0 <| as0 rfl rfl <| .fin ?_
  obtain rfl := Gets.out H
  exact rt i2 rfl () 0 [] 0 (.cons (res_tmp rfl) .nil)
 refine WP.skip <| WP.seq <| WP.seq <| rg 3 0 <| mv0 rfl rfl <| mv0 rfl rfl <| bn0 rfl rfl rfl run_sgt <| .fin <| cd H rfl (fun _ H => ?_) (fun _ H => ?_)
 ·
  refine WP.seq <| rg 1 0 <| as0 rfl rfl <| .fin ?_
  obtain rfl := Gets.out H
  exact rt i2 rfl () 0 [] 0 (.cons (res_tmp rfl) .nil)
 refine WP.skip <| WP.seq <| rg 1 0 <| as0 rfl rfl <| .fin ?_
 obtain rfl := Gets.out H
 exact rt i2 rfl () 0 [] 0 (.cons (res_tmp rfl) .nil)
theorem typing_Table_place_1.c {k : Nat} {a0 : Edu} {a1 : Edu} {r : Int} (h : typing_Table_place_1.f k a0 a1 = some r) : Pt Tryz.prog 48 [agg (Edu.enc a0), agg (Edu.enc a1)] (vI r) := by
 unfold typing_Table_place_1.f at h
 refine (Tr.body Tryz.func48 (c := _) rfl Tryz.ntmps48 (Nat.le_of_ble_eq_true rfl) fun R0 F => ?_).pt
 replace h := Gets.of h
 have H := h
 clear h
 refine WP.seq <| rg 3 3 <| Dv.box rfl trivial rfl cA nofun fun b253 => Dv.box rfl trivial rfl cA nofun fun b254 => as0 rfl rfl <| .fin <| WP.seq <| dg Tryz.checked.mixed 13 0 <| fb rfl trivial rfl fa30_1 <| ld 1 rfl trivial rfl sc9 rfl rfl <| fb rfl trivial rfl fa30_1 <| ld 0 rfl trivial rfl sc9 rfl rfl <| el H fun t255 h256 H => cl rfl cal50 rfl (cmp_Compare_string.c h256) <| fb rfl trivial rfl fa30_2 <| ld 1 rfl trivial rfl sc9 rfl rfl <| fb rfl trivial rfl fa30_2 <| ld 0 rfl trivial rfl sc9 rfl rfl <| el H fun t257 h258 H => cl rfl cal50 rfl (cmp_Compare_string.c h258) <| Dv.lit (intK .i64) ([t255, t257] : List Int) (css := [[vI t255], [vI t257]]) rfl trivial Tryz.underlying24 Tryz.underlying3 c3 z3 rfl (by decide) (by decide) rfl ⟨(cells_one (one_eq rfl)), ⟨(cells_one (one_eq rfl)), trivial⟩⟩ rfl rfl rfl <| el H fun t259 h260 H => cl rfl cal49 rfl (cmp_Or_int.c h260) <| as0 rfl rfl <| .fin ?_
 obtain rfl := Gets.out H
 exact rt i2 rfl () 2 [0,1] 2 (.cons (res_tmp rfl) .nil)
theorem typing_Table_place.c {k : Nat} {a0 : TTab} {a1 : Edu} {v0_0 v0_1 : OV} {b0_ : Nat} {r : Int × Bool} (h : typing_Table_place.f k a0 a1 = some r) : Tr Tryz.prog 27 [eq (.pointer (some ⟨b0_, 0, none⟩)), agg (Edu.enc a1)] [blk b0_ 56 [eq v0_0.1, eq v0_1.1], own Edu.K v0_0.1 a0.fl] (γ := Unit) (fun _ => True) (fun g => tup [vI r.1, vB r.2]) (fun g => [blk b0_ 56 [eq v0_0.1, eq v0_1.1], own Edu.K v0_0.1 a0.fl]) := by
 unfold typing_Table_place.f at h
 refine Tr.body Tryz.func27 (c := _) rfl Tryz.ntmps27 (Nat.le_of_ble_eq_true rfl) fun R0 F => ?_
 replace h := Gets.of h
 have H := h
 clear h
 refine WP.seq <| rg 3 1 <| Dv.box rfl trivial rfl cA nofun fun b261 => as0 rfl rfl <| as0 rfl rfl <| .fin <| WP.seq <| dg Tryz.checked.mixed 10 0 <| mv0 rfl rfl <| Dv.nilp rfl trivial rfl <| fb rfl trivial rfl fa56_0 <| ld 1 rfl trivial rfl sc22 rfl rfl <| lds 0 rfl trivial rfl sg30 rfl rfl <| el H fun t262 h263 H => cll (B := [own Edu.K v0_0.1 a0.fl]) 3 [2,0,1] cal47 (Pt.lend _ (Pt.weak (slices_BinarySearchFunc_Edu_Edu.c h263) (.cons wk_id (.cons wk_id (.cons (wk_fn cal48 (by rintro _ _ ⟨a0_, a1_, r_, h_, rfl, rfl⟩; exact typing_Table_place_1.c h_)) .nil)))) (.cons (lt_own (mem_at 0 rfl)) (.cons lt_id (.cons lt_id .nil))) (flat_tup (flats_cons flat_eq (flats_cons flat_eq flats_nil)))) ?_
 refine ex0 rfl trivial rfl rfl <| ex0 rfl trivial rfl rfl <| as0 rfl rfl <| as0 rfl rfl <| .fin ?_
 obtain rfl := Gets.out H
 exact rt i2 rfl () 3 [0,1,2] 1 (.cons (res_tmp rfl) (.cons (res_tmp rfl) .nil))
theorem edu_Of.c {a0 : Edu} {r : EKey} (h : edu_Of.f a0 = some r) : Pt Tryz.prog 51 [agg (Edu.enc a0)] (agg (EKey.enc r)) := by
 unfold edu_Of.f at h
 refine (Tr.body Tryz.func51 (c := _) rfl Tryz.ntmps51 (Nat.le_of_ble_eq_true rfl) fun R0 F => ?_).pt
 replace h := Gets.of h
 have H := h
 clear h
 refine WP.seq <| rg 2 3 <| Dv.box rfl trivial rfl cA nofun fun b264 => al rfl trivial zc87 nofun fun b265 => .fin <| WP.seq <| rg 12 2048 <| fb rfl trivial rfl fa30_0 <| ld 1 rfl trivial rfl sc3 rfl rfl <| fb rfl trivial rfl fa30_1 <| ld 1 rfl trivial rfl sc9 rfl rfl <| fb rfl trivial rfl fa30_2 <| ld 1 rfl trivial rfl sc9 rfl rfl <| fb rfl trivial rfl fa30_4 <| ld 1 rfl trivial rfl sc9 rfl rfl <| fb rfl trivial rfl fa30_5 <| ld 1 rfl trivial rfl sc4 rfl rfl <| Dv.bld (css := [[vI a0.fKind], [vS a0.fRoom], [vS a0.fUser], [vS a0.fThread], [vB a0.fPrivate]]) rfl trivial Tryz.underlying87 pl87 z87 rfl ⟨(cells_one (one_eq rfl)), ⟨(cells_one (one_eq rfl)), ⟨(cells_one (one_eq rfl)), ⟨(cells_one (one_eq rfl)), ⟨(cells_one (one_eq rfl)), trivial⟩⟩⟩⟩⟩ rfl rfl <| sx 0 rfl trivial rfl rfl cA sz87 rfl rfl rfl nofun ?_
 refine .fin ?_
 obtain rfl := Gets.out H
 exact rt i2 rfl () 2 [0,1] 2 (.cons (res_cells rfl Tryz.underlying87 rfl c87 (mem_at 0 rfl) rfl) .nil)
theorem cmp_isNaN_int.c {a0 : Int} {r : Bool} (h : cmp_isNaN_int.f a0 = some r) : Pt Tryz.prog 104 [vI a0] (vB r) := by
 unfold cmp_isNaN_int.f at h
 refine (Tr.body Tryz.func104 (c := _) rfl Tryz.ntmps104 (Nat.le_of_ble_eq_true rfl) fun R0 F => ?_).pt
 replace h := Gets.of h
 have H := h
 clear h
 refine WP.seq <| rg 1 0 <| as0 rfl rfl <| .fin <| WP.seq <| rg 4 0 <| mv0 rfl rfl <| mv0 rfl rfl <| bn0 rfl rfl rfl run_ne <| as0 rfl rfl <| .fin ?_
 obtain rfl := Gets.out H
 exact rt i2 rfl () 0 [] 0 (.cons (res_tmp rfl) .nil)
theorem cmp_Compare_int.c {a0 : Int} {a1 : Int} {r : Int} (h : cmp_Compare_int.f a0 a1 = some r) : Pt Tryz.prog 74 [vI a0, vI a1] (vI r) := by
 unfold cmp_Compare_int.f at h
 refine (Tr.body Tryz.func74 (c := _) rfl Tryz.ntmps74 (Nat.le_of_ble_eq_true rfl) fun R0 F => ?_).pt
 replace h := Gets.of h
 have H := h
 clear h
 refine WP.seq <| rg 1 0 <| as0 rfl rfl <| .fin <| WP.seq <| rg 3 0 <| mv0 rfl rfl <| el H fun t266 h267 H => cl rfl cal104 rfl (cmp_isNaN_int.c h267) <| as0 rfl rfl <| .fin <| WP.seq <| rg 3 0 <| mv0 rfl rfl <| el H fun t268 h269 H => cl rfl cal104 rfl (cmp_isNaN_int.c h269) <| as0 rfl rfl <| .fin <| WP.seq <| WP.seq <| rg 1 0 <| mv0 rfl rfl <| .fin <| cd H rfl (fun _ H => ?_) (fun _ H => ?_)
 ·
  refine WP.seq <| WP.seq <| rg 1 0 <| mv0 rfl rfl <| .fin <| cd H rfl (fun _ H => ?_) (fun _ H => ?_)
  ·
   refine WP.seq <| rg 1 0 <| as0 rfl rfl <| .fin ?_
   obtain rfl := Gets.out H
   exact rt i2 rfl () 0 [] 0 (.cons (res_tmp rfl) .nil)
  refine WP.skip <| WP.seq <| rg 1 0 <| as0 rfl rfl <| .fin ?_
  obtain rfl := Gets.out H
  exact rt i2 rfl () 0 [] 0 (.cons (res_tmp rfl) .nil)
 refine WP.skip <| WP.seq <| WP.seq <| rg 1 0 <| mv0 rfl rfl <| .fin <| cd H rfl (fun _ H => ?_) (fun _ H => ?_)
 ·
  refine WP.seq <| rg 1 0 <| as0 rfl rfl <| .fin ?_
  obtain rfl := Gets.out H
  exact rt i2 rfl () 0 [] 0 (.cons (res_tmp rfl) .nil)
 refine WP.skip <| WP.seq <| WP.seq <| rg 3 0 <| mv0 rfl rfl <| mv0 rfl rfl <| bn0 rfl rfl rfl run_lt <| .fin <| cd H rfl (fun _ H => ?_) (fun _ H => ?_)
 ·
  refine WP.seq <| rg 1 0 <| as0 rfl rfl <| .fin ?_
  obtain rfl := Gets.out H
  exact rt i2 rfl () 0 [] 0 (.cons (res_tmp rfl) .nil)
 refine WP.skip <| WP.seq <| WP.seq <| rg 3 0 <| mv0 rfl rfl <| mv0 rfl rfl <| bn0 rfl rfl rfl run_gt <| .fin <| cd H rfl (fun _ H => ?_) (fun _ H => ?_)
 ·
  refine WP.seq <| rg 1 0 <| as0 rfl rfl <| .fin ?_
  obtain rfl := Gets.out H
  exact rt i2 rfl () 0 [] 0 (.cons (res_tmp rfl) .nil)
 refine WP.skip <| WP.seq <| rg 1 0 <| as0 rfl rfl <| .fin ?_
 obtain rfl := Gets.out H
 exact rt i2 rfl () 0 [] 0 (.cons (res_tmp rfl) .nil)
theorem bytes_Compare.c {a0 : List Int} {a1 : List Int} {r : Int} (h : bytes_Compare.f a0 a1 = some r) : Pt Tryz.prog 75 [sl (intK .u8) a0, sl (intK .u8) a1] (vI r) := by
 unfold bytes_Compare.f at h
 refine (Tr.body Tryz.func75 (c := _) rfl Tryz.ntmps75 (Nat.le_of_ble_eq_true rfl) fun R0 F => ?_).pt
 replace h := Gets.of h
 have H := h
 clear h
 refine WP.seq <| rg 1 0 <| as0 rfl rfl <| .fin <| WP.seq <| rg 4 0 <| mv0 rfl rfl <| mv0 rfl rfl <| Dv.cext rfl trivial rfl (xt_cmp Tryz.func105 (by kernel_rfl) rfl xf105 xg105) <| as0 rfl rfl <| .fin ?_
 obtain rfl := Gets.out H
 exact rt i2 rfl () 0 [] 0 (.cons (res_tmp rfl) .nil)
theorem lay_Number.c {k : Nat} {a0 : List Int} {a1 : Int} {p0_ : OV} {r : (List Int)} (h : lay_Number.f k a0 a1 = some r) : Tr Tryz.prog 106 [eq p0_.1, vI a1] [own (intK .u8) p0_.1 a0] (γ := OV) (fun _ => True) (fun g => eq g.1) (fun g => [own (intK .u8) g.1 r]) := by
 unfold lay_Number.f at h
 refine Tr.body Tryz.func106 (c := _) rfl Tryz.ntmps106 (Nat.le_of_ble_eq_true rfl) fun R0 F => ?_
 replace h := Gets.of h
 have H := h
 clear h
 refine WP.seq <| rg 1 0 <| as0 rfl rfl <| .fin <| WP.seq <| rg 3 0 <| mv0 rfl rfl <| Dv.maxi rfl trivial rfl rfl <| as0 rfl rfl <| .fin <| WP.seq <| rg 7 32 <| mv0 rfl rfl <| mv0 rfl rfl <| Dv.lenw rfl trivial rfl (mem_at 0 rfl) Tryz.underlying81 <| mv0 rfl rfl <| Dv.lenw rfl trivial rfl (mem_at 0 rfl) Tryz.underlying81 <| gr H fun g275 H => Dv.slo (jj := 0) rfl trivial rfl rfl Tryz.underlying81 Tryz.underlying5 c5 bdE_none (bdE_some rfl g275.1) (.inr ⟨⟨_, _, rfl, g275.1, rfl⟩, rfl, rfl⟩) g275.2.1 g275.2.2 nofun (fun v276 => ?_)
 refine as0 rfl rfl <| .fin <| WP.seqn H (fun q289 : (Int × Bool × (List Int)) × OV => q289.1) (fun q289 : (Int × Bool × (List Int)) × OV => [(0, eq q289.2.1), (1, vI q289.1.1), (4, eq (.slice none 0 0)), (14, vB q289.1.2.1)]) (fun q289 : (Int × Bool × (List Int)) × OV => [own (intK .u8) q289.2.1 q289.1.2.2] ++ F) (fun q289 H => ?_) (fun H => ?_)
 ·
  obtain ⟨p277, v278⟩ := q289
  refine WP.seq <| rg 6 16 <| mv0 rfl rfl <| mv0 rfl rfl <| Dv.cvi rfl trivial rfl Tryz.underlying3 Tryz.underlying5 <| Dv.lit (intK .u8) ([IntKind.u8.wrap (p277.1)] : List Int) (css := [[eq (.int .u8 (IntKind.u8.wrap (p277.1)))]]) rfl trivial Tryz.underlying81 Tryz.underlying5 c5 z5 rfl (by decide) (by decide) rfl ⟨(cells_one (one_eq rfl)), trivial⟩ rfl rfl rfl <| gr H fun g279 H => ap (intK .u8) 0 ([IntKind.u8.wrap (p277.1)] : List Int) src_sl Tryz.underlying81 (.inr ⟨_, Tryz.underlying81⟩) inf5 g279 nofun fun v280 => ?_
  refine as0 rfl rfl <| .fin ?_
  obtain rfl := Gets.out H
  exact rt i2 rfl v280 1 [0] 0 (.cons (res_tmp rfl) .nil)
 refine WP.block <| wg (sg 1 [0] 0) fun _ _ => ?_
 refine lp (fun j_ (p288 : Int × (List Int) × OV) => lay_Number.l0 k j_ p288.1 p288.2.1) (max a1 0, (a0.take ((a0.length : Int).toNat)).drop 0, v276) H (fun p288 => [(0, eq p288.2.2.1), (1, vI p288.1), (4, eq (.slice none 0 0))]) (fun p288 => [own (intK .u8) p288.2.2.1 p288.2.1] ++ F) ?_
 rintro j_ ⟨x281, x282, v283⟩ H
 rcases j_ with _ | j287
 ·
  exact (Gets.no H).elim
 replace H : Gets (lay_Number.l0 k (j287 + 1) x281 x282) _ := H
 rw [lay_Number.l0] at H
 refine WP.seq <| WP.seq <| rg 2 0 <| mv0 rfl rfl <| bn0 rfl rfl rfl run_ge <| .fin <| cd H rfl (fun _ H => ?_) (fun _ H => ?_)
 rotate_left
 ·
  refine WP.exit ?_
  replace H := Gets.out H
  exact jn ((x281, decide (128 ≤ x281), x282), v283) H
 refine WP.skip <| WP.seq <| WP.block <| rg 8 64 <| mv0 rfl rfl <| mv0 rfl rfl <| bn0 rfl rfl rfl (run_rem (by decide)) <| bn0 rfl rfl rfl run_add <| Dv.cvi rfl trivial rfl Tryz.underlying3 Tryz.underlying5 <| Dv.lit (intK .u8) ([IntKind.u8.wrap (w64 ((x281.tmod 128) + 128))] : List Int) (css := [[eq (.int .u8 (IntKind.u8.wrap (w64 ((x281.tmod 128) + 128))))]]) rfl trivial Tryz.underlying81 Tryz.underlying5 c5 z5 rfl (by decide) (by decide) rfl ⟨(cells_one (one_eq rfl)), trivial⟩ rfl rfl rfl <| gr H fun g285 H => ap (intK .u8) 0 ([IntKind.u8.wrap (w64 ((x281.tmod 128) + 128))] : List Int) src_sl Tryz.underlying81 (.inr ⟨_, Tryz.underlying81⟩) inf5 g285 nofun fun v286 => ?_
 exact as0 rfl rfl <| .fin <| rg 3 0 <| mv0 rfl rfl <| bn0 rfl rfl rfl (run_quo (by decide)) <| as0 rfl rfl <| .fin <| bk j287 (w64 (x281.tdiv 128), x282 ++ ([IntKind.u8.wrap (w64 ((x281.tmod 128) + 128))] : List Int), v286) H
theorem lay_Text.c {k : Nat} {a0 : List Int} {a1 : ByteArray} {p0_ : OV} {r : (List Int)} (h : lay_Text.f k a0 a1 = some r) : Tr Tryz.prog 107 [eq p0_.1, vS a1] [own (intK .u8) p0_.1 a0] (γ := OV) (fun _ => True) (fun g => eq g.1) (fun g => [own (intK .u8) g.1 r]) := by
 unfold lay_Text.f at h
 refine Tr.body Tryz.func107 (c := _) rfl Tryz.ntmps107 (Nat.le_of_ble_eq_true rfl) fun R0 F => ?_
 replace h := Gets.of h
 have H := h
 clear h
 refine WP.seq <| rg 1 0 <| as0 rfl rfl <| .fin <| WP.seq <| rg 7 40 <| mv0 rfl rfl <| mv0 rfl rfl <| Dv.lens rfl trivial rfl Tryz.underlying9 <| el H fun t290 h291 H => cx 1 [0] cal106 (lay_Number.c h291 (p0_ := p0_)) nofun fun g292 _ => ?_
 refine mv0 rfl rfl <| gr H fun g293 H => ap (intK .u8) 0 (strBs a1) src_str Tryz.underlying81 (.inl Tryz.underlying9) inf5 g293 nofun fun v294 => ?_
 refine as0 rfl rfl <| .fin ?_
 obtain rfl := Gets.out H
 exact rt i2 rfl v294 1 [0] 0 (.cons (res_tmp rfl) .nil)
theorem lay_Flag.c {k : Nat} {a0 : List Int} {a1 : Bool} {p0_ : OV} {r : (List Int)} (h : lay_Flag.f k a0 a1 = some r) : Tr Tryz.prog 108 [eq p0_.1, vB a1] [own (intK .u8) p0_.1 a0] (γ := OV) (fun _ => True) (fun g => eq g.1) (fun g => [own (intK .u8) g.1 r]) := by
 unfold lay_Flag.f at h
 refine Tr.body Tryz.func108 (c := _) rfl Tryz.ntmps108 (Nat.le_of_ble_eq_true rfl) fun R0 F => ?_
 replace h := Gets.of h
 have H := h
 clear h
 refine WP.seq <| rg 1 0 <| as0 rfl rfl <| .fin <| WP.seq <| WP.seq <| rg 1 0 <| mv0 rfl rfl <| .fin <| cd H rfl (fun _ H => ?_) (fun _ H => ?_)
 ·
  refine WP.seq <| rg 3 2 <| mv0 rfl rfl <| el H fun t296 h297 H => cx 1 [0] cal106 (lay_Number.c h297 (p0_ := p0_)) nofun fun g298 _ => ?_
  refine as0 rfl rfl <| .fin ?_
  obtain rfl := Gets.out H
  exact rt i2 rfl g298 1 [0] 0 (.cons (res_tmp rfl) .nil)
 refine WP.skip <| WP.seq <| rg 3 2 <| mv0 rfl rfl <| el H fun t299 h300 H => cx 1 [0] cal106 (lay_Number.c h300 (p0_ := p0_)) nofun fun g301 _ => ?_
 refine as0 rfl rfl <| .fin ?_
 obtain rfl := Gets.out H
 exact rt i2 rfl g301 1 [0] 0 (.cons (res_tmp rfl) .nil)
theorem edu_laid.c {k : Nat} {a0 : Edu} {r : (List Int)} (h : edu_laid.f k a0 = some r) : Tr Tryz.prog 76 [agg (Edu.enc a0)] [] (γ := OV) (fun _ => True) (fun g => eq g.1) (fun g => [own (intK .u8) g.1 r]) := by
 unfold edu_laid.f at h
 refine Tr.body Tryz.func76 (c := _) rfl Tryz.ntmps76 (Nat.le_of_ble_eq_true rfl) fun R0 F => ?_
 replace h := Gets.of h
 have H := h
 clear h
 refine WP.seq <| rg 2 1 <| Dv.box rfl trivial rfl cA nofun fun b302 => as0 rfl rfl <| .fin <| WP.seq <| rg 4 4 <| fb rfl trivial rfl fa30_0 <| ld 0 rfl trivial rfl sc3 rfl rfl <| vg (st_nil (intK .u8) none) fun _ _ => ?_
 refine el H fun t303 h304 H => cx 2 [0,1] cal106 (lay_Number.c h304 (p0_ := nilV)) nofun fun g305 _ => ?_
 refine as0 rfl rfl <| .fin <| WP.seqn H (fun q334 : (Int × Bool × (List Int)) × OV => q334.1) (fun q334 : (Int × Bool × (List Int)) × OV => [(0, agg (Edu.enc a0)), (1, eq (.pointer (some ⟨b302, 0, none⟩))), (2, eq (.slice none 0 0)), (3, eq q334.2.1), (19, sl strK ([a0.fRoom, a0.fUser, a0.fEvent, a0.fThread] : List ByteArray)), (20, vI (([a0.fRoom, a0.fUser, a0.fEvent, a0.fThread] : List ByteArray).length : Int)), (21, vI q334.1.1), (22, vB q334.1.2.1)]) (fun q334 : (Int × Bool × (List Int)) × OV => [blk b302 30 (Edu.enc a0), own (intK .u8) q334.2.1 q334.1.2.2] ++ F) (fun q334 H => ?_) (fun H => ?_)
 rotate_left
 ·
  refine WP.seq <| rg 11 0 <| fb rfl trivial rfl fa30_1 <| ld 1 rfl trivial rfl sc9 rfl rfl <| fb rfl trivial rfl fa30_2 <| ld 1 rfl trivial rfl sc9 rfl rfl <| fb rfl trivial rfl fa30_3 <| ld 1 rfl trivial rfl sc9 rfl rfl <| fb rfl trivial rfl fa30_4 <| ld 1 rfl trivial rfl sc9 rfl rfl <| Dv.lit strK ([a0.fRoom, a0.fUser, a0.fEvent, a0.fThread] : List ByteArray) (css := [[vS a0.fRoom], [vS a0.fUser], [vS a0.fEvent], [vS a0.fThread]]) rfl trivial Tryz.underlying37 Tryz.underlying9 c9 z9 rfl (by decide) (by decide) rfl ⟨(cells_one (one_eq rfl)), ⟨(cells_one (one_eq rfl)), ⟨(cells_one (one_eq rfl)), ⟨(cells_one (one_eq rfl)), trivial⟩⟩⟩⟩ rfl rfl rfl <| Dv.lenl rfl trivial rfl Tryz.underlying37 <| mv0 rfl rfl <| .fin <| WP.block <| wg (sg 2 [1,0] 0) fun _ _ => ?_
  refine lp (fun j_ (p333 : Int × (List Int) × OV) => edu_laid.l1 k a0 j_ p333.1 p333.2.1) (0, t303, g305) H (fun p333 => [(0, agg (Edu.enc a0)), (1, eq (.pointer (some ⟨b302, 0, none⟩))), (2, eq (.slice none 0 0)), (3, eq p333.2.2.1), (19, sl strK ([a0.fRoom, a0.fUser, a0.fEvent, a0.fThread] : List ByteArray)), (20, vI (([a0.fRoom, a0.fUser, a0.fEvent, a0.fThread] : List ByteArray).length : Int)), (21, vI p333.1)]) (fun p333 => [blk b302 30 (Edu.enc a0), own (intK .u8) p333.2.2.1 p333.2.1] ++ F) ?_
  rintro j_ ⟨x324, x325, v326⟩ H
  rcases j_ with _ | j332
  ·
   exact (Gets.no H).elim
  replace H : Gets (edu_laid.l1 k a0 (j332 + 1) x324 x325) _ := H
  rw [edu_laid.l1] at H
  refine WP.seq <| rg 1 0 <| bn0 rfl rfl rfl run_lt <| .fin <| WP.seq <| cd H rfl (fun _ H => ?_) (fun _ H => ?_)
  rotate_left
  ·
   refine WP.exit ?_
   replace H := Gets.out H
   exact jn ((x324, decide (x324 < (([a0.fRoom, a0.fUser, a0.fEvent, a0.fThread] : List ByteArray).length : Int)), x325), v326) H
  refine WP.skip <| WP.seq <| WP.block <| WP.seq <| rg 3 0 <| gr H fun g328 H => Dv.ixr rfl trivial rfl rfl Tryz.underlying37 Tryz.underlying9 c9 g328.1 g328.2 <| ldR rfl trivial rfl sc9 rfl <| as0 rfl rfl <| .fin <| rg 4 4 <| mv0 rfl rfl <| mv0 rfl rfl <| el H fun t329 h330 H => cx 2 [1,0] cal107 (lay_Text.c h330 (p0_ := v326)) nofun fun g331 _ => ?_
  refine as0 rfl rfl <| .fin <| rg 2 0 <| bn0 rfl rfl rfl run_add <| mv0 rfl rfl <| .fin <| ng (sg 2 [1,0] 0) fun _ _ => ?_
  exact bk j332 (w64 (x324 + 1), t329, g331) H
 obtain ⟨p306, v307⟩ := q334
 refine WP.seq <| rg 5 8 <| mv0 rfl rfl <| fb rfl trivial rfl fa30_6 <| ld 0 rfl trivial rfl sc4 rfl rfl <| el H fun t308 h309 H => cx 2 [1,0] cal108 (lay_Flag.c h309 (p0_ := v307)) nofun fun g310 _ => ?_
 refine as0 rfl rfl <| .fin <| WP.seqn H (fun q323 : (Int × Bool × (List Int)) × OV => q323.1) (fun q323 : (Int × Bool × (List Int)) × OV => [(0, agg (Edu.enc a0)), (1, eq (.pointer (some ⟨b302, 0, none⟩))), (2, eq (.slice none 0 0)), (3, eq q323.2.1), (19, sl strK ([a0.fRoom, a0.fUser, a0.fEvent, a0.fThread] : List ByteArray)), (20, vI (([a0.fRoom, a0.fUser, a0.fEvent, a0.fThread] : List ByteArray).length : Int)), (21, vI p306.1), (22, vB p306.2.1), (41, sl (intK .i64) ([a0.fSpan, a0.fState, a0.fTick, a0.fStamp] : List Int)), (42, vI (([a0.fSpan, a0.fState, a0.fTick, a0.fStamp] : List Int).length : Int)), (43, vI q323.1.1), (44, vB q323.1.2.1)]) (fun q323 : (Int × Bool × (List Int)) × OV => [blk b302 30 (Edu.enc a0), own (intK .u8) q323.2.1 q323.1.2.2] ++ F) (fun q323 H => ?_) (fun H => ?_)
 ·
  obtain ⟨p311, v312⟩ := q323
  refine WP.seq <| rg 2 0 <| mv0 rfl rfl <| as0 rfl rfl <| .fin ?_
  obtain rfl := Gets.out H
  exact rt i2 rfl v312 2 [0,1] 1 (.cons (res_tmp rfl) .nil)
 refine WP.seq <| rg 11 0 <| fb rfl trivial rfl fa30_7 <| ld 1 rfl trivial rfl sc3 rfl rfl <| fb rfl trivial rfl fa30_8 <| ld 1 rfl trivial rfl sc3 rfl rfl <| fb rfl trivial rfl fa30_9 <| ld 1 rfl trivial rfl sc3 rfl rfl <| fb rfl trivial rfl fa30_10 <| ld 1 rfl trivial rfl sc3 rfl rfl <| Dv.lit (intK .i64) ([a0.fSpan, a0.fState, a0.fTick, a0.fStamp] : List Int) (css := [[vI a0.fSpan], [vI a0.fState], [vI a0.fTick], [vI a0.fStamp]]) rfl trivial Tryz.underlying24 Tryz.underlying3 c3 z3 rfl (by decide) (by decide) rfl ⟨(cells_one (one_eq rfl)), ⟨(cells_one (one_eq rfl)), ⟨(cells_one (one_eq rfl)), ⟨(cells_one (one_eq rfl)), trivial⟩⟩⟩⟩ rfl rfl rfl <| Dv.lenl rfl trivial rfl Tryz.underlying24 <| mv0 rfl rfl <| .fin <| WP.block <| wg (sg 2 [1,0] 0) fun _ _ => ?_
 refine lp (fun j_ (p322 : Int × (List Int) × OV) => edu_laid.l0 k a0 j_ p322.1 p322.2.1) (0, t308, g310) H (fun p322 => [(0, agg (Edu.enc a0)), (1, eq (.pointer (some ⟨b302, 0, none⟩))), (2, eq (.slice none 0 0)), (3, eq p322.2.2.1), (19, sl strK ([a0.fRoom, a0.fUser, a0.fEvent, a0.fThread] : List ByteArray)), (20, vI (([a0.fRoom, a0.fUser, a0.fEvent, a0.fThread] : List ByteArray).length : Int)), (21, vI p306.1), (22, vB p306.2.1), (41, sl (intK .i64) ([a0.fSpan, a0.fState, a0.fTick, a0.fStamp] : List Int)), (42, vI (([a0.fSpan, a0.fState, a0.fTick, a0.fStamp] : List Int).length : Int)), (43, vI p322.1)]) (fun p322 => [blk b302 30 (Edu.enc a0), own (intK .u8) p322.2.2.1 p322.2.1] ++ F) ?_
 rintro j_ ⟨x313, x314, v315⟩ H
 rcases j_ with _ | j321
 ·
  exact (Gets.no H).elim
 replace H : Gets (edu_laid.l0 k a0 (j321 + 1) x313 x314) _ := H
 rw [edu_laid.l0] at H
 refine WP.seq <| rg 1 0 <| bn0 rfl rfl rfl run_lt <| .fin <| WP.seq <| cd H rfl (fun _ H => ?_) (fun _ H => ?_)
 rotate_left
 ·
  refine WP.exit ?_
  replace H := Gets.out H
  exact jn ((x313, decide (x313 < (([a0.fSpan, a0.fState, a0.fTick, a0.fStamp] : List Int).length : Int)), x314), v315) H
 refine WP.skip <| WP.seq <| WP.block <| WP.seq <| rg 3 0 <| gr H fun g317 H => Dv.ixr rfl trivial rfl rfl Tryz.underlying24 Tryz.underlying3 c3 g317.1 g317.2 <| ldR rfl trivial rfl sc3 rfl <| as0 rfl rfl <| .fin <| rg 4 4 <| mv0 rfl rfl <| mv0 rfl rfl <| el H fun t318 h319 H => cx 2 [1,0] cal106 (lay_Number.c h319 (p0_ := v315)) nofun fun g320 _ => ?_
 refine as0 rfl rfl <| .fin <| rg 2 0 <| bn0 rfl rfl rfl run_add <| mv0 rfl rfl <| .fin <| ng (sg 2 [1,0] 0) fun _ _ => ?_
 exact bk j321 (w64 (x313 + 1), t318, g320) H
theorem edu_Compare.c {k : Nat} {a0 : Edu} {a1 : Edu} {r : Int} (h : edu_Compare.f k a0 a1 = some r) : Pt Tryz.prog 52 [agg (Edu.enc a0), agg (Edu.enc a1)] (vI r) := by
 unfold edu_Compare.f at h
 refine (Tr.body Tryz.func52 (c := _) rfl Tryz.ntmps52 (Nat.le_of_ble_eq_true rfl) fun R0 F => ?_).pt
 replace h := Gets.of h
 have H := h
 clear h
 refine WP.seq <| rg 3 3 <| Dv.box rfl trivial rfl cA nofun fun b335 => Dv.box rfl trivial rfl cA nofun fun b336 => as0 rfl rfl <| .fin <| WP.seq <| dgo Tryz.checked.mixed [0, 1, 2, 3, 4, 5, 7, 6, 8, 9, 10, 11, 12] [6, 8] <| fb rfl trivial rfl fa30_10 <| ld 1 rfl trivial rfl sc3 rfl rfl <| fb rfl trivial rfl fa30_10 <| ld 0 rfl trivial rfl sc3 rfl rfl <| el H fun t337 h338 H => cl rfl cal74 rfl (cmp_Compare_int.c h338) <| lds 1 rfl trivial rfl sg30 rfl rfl <| lds 0 rfl trivial rfl sg30 rfl rfl <| el H fun t339 h340 H => Dv.callx (pre := []) (F := [blk b336 30 (Edu.enc a1), blk b335 30 (Edu.enc a0)] ++ F) (fun g341 : OV => [own (intK .u8) g341.1 t339, blk b336 30 (Edu.enc a1), blk b335 30 (Edu.enc a0)] ++ F) rfl trivial cal76 rfl (edu_laid.c h340) (perm_to (L := [blk b336 30 (Edu.enc a1), blk b335 30 (Edu.enc a0)]) (F := F) [0, 1] rfl rfl rfl) rfl (fun _ => pendc (pend_in (fun _ => (mem_at 1 rfl)) (pend_by (by kernel_rfl) (pend_by (by kernel_rfl) (pend_by (by kernel_rfl) (pend_by (by kernel_rfl) (pend_by (by kernel_rfl) (pend_by (by kernel_rfl) pend_nil)))))))) (fun g341 _ => ?_)
 refine el H fun t342 h343 H => cx 3 [0,1,2] cal76 (edu_laid.c h343) pC fun g344 _ => ?_
 refine el H fun t345 h346 H => cll (B := [own (intK .u8) g341.1 t339, own (intK .u8) g344.1 t342]) 4 [1,0,2,3] cal75 (Pt.lend _ (bytes_Compare.c h346) (.cons (lt_own (mem_at 0 rfl)) (.cons (lt_own (mem_at 1 rfl)) .nil)) flat_eq) ?_
 refine Dv.lit (intK .i64) ([t337, t345] : List Int) (css := [[vI t337], [vI t345]]) rfl trivial Tryz.underlying24 Tryz.underlying3 c3 z3 rfl (by decide) (by decide) rfl ⟨(cells_one (one_eq rfl)), ⟨(cells_one (one_eq rfl)), trivial⟩⟩ rfl rfl rfl <| el H fun t347 h348 H => cl rfl cal49 rfl (cmp_Or_int.c h348) <| as0 rfl rfl <| .fin ?_
 obtain rfl := Gets.out H
 exact rt i2 rfl () 4 [0,1,2,3] 4 (.cons (res_tmp rfl) .nil)
theorem edu_Later.c {k : Nat} {a0 : Edu} {a1 : Edu} {r : Bool} (h : edu_Later.f k a0 a1 = some r) : Pt Tryz.prog 28 [agg (Edu.enc a0), agg (Edu.enc a1)] (vB r) := by
 unfold edu_Later.f at h
 refine (Tr.body Tryz.func28 (c := _) rfl Tryz.ntmps28 (Nat.le_of_ble_eq_true rfl) fun R0 F => ?_).pt
 replace h := Gets.of h
 have H := h
 clear h
 refine WP.seq <| rg 3 3 <| Dv.box rfl trivial rfl cA nofun fun b349 => Dv.box rfl trivial rfl cA nofun fun b350 => as0 rfl rfl <| .fin <| WP.seq <| dg Tryz.checked.mixed 12 0 <| lds 1 rfl trivial rfl sg30 rfl rfl <| el H fun t351 h352 H => cl rfl cal51 rfl (edu_Of.c h352) <| lds 0 rfl trivial rfl sg30 rfl rfl <| el H fun t353 h354 H => cl rfl cal51 rfl (edu_Of.c h354) <| Dv.eqs [.int .i64 t351.fKind, .string t351.fRoom, .string t351.fUser, .string t351.fThread, .bool t351.fPrivate] [.int .i64 t353.fKind, .string t353.fRoom, .string t353.fUser, .string t353.fThread, .bool t353.fPrivate] rfl trivial rfl rfl rfl rfl eg87 (fun _ => equal_of 2 (by decide) (fun _ => eqt87 t351 t353)) <| mv0 rfl rfl ?_
 cases c355 : decide (t351 = t353)
 ·
  replace H := Gets.cf H c355
  refine sk rfl rfl <| sk rfl rfl <| sk rfl rfl <| sk rfl rfl <| pf0 rfl rfl rfl <| as0 rfl rfl <| .fin ?_
  obtain rfl := Gets.out H
  exact rt i2 rfl () 2 [0,1] 2 (.cons (res_tmp rfl) .nil)
 replace H := Gets.ct H c355
 refine lds 1 rfl (gg rfl) rfl sg30 rfl rfl <| lds 0 rfl (gg rfl) rfl sg30 rfl rfl <| el H fun t356 h357 H => Dv.call rfl (gg rfl) cal52 rfl (edu_Compare.c h357) <| bng rfl rfl rfl rfl run_gt <| pt0 rfl rfl rfl <| as0 rfl rfl <| .fin ?_
 obtain rfl := Gets.out H
 exact rt i2 rfl () 2 [0,1] 2 (.cons (res_tmp rfl) .nil)
theorem slices_Insert_Edu.c {a0 : List Edu} {a1 : Int} {a2 : List Edu} {p0_ : OV} {r : List Edu} (h : slices_Insert_Edu.f a0 a1 a2 = some r) : Tr Tryz.prog 29 [eq p0_.1, vI a1, sl Edu.K a2] [own Edu.K p0_.1 a0] (γ := OV) (fun _ => True) (fun g => eq g.1) (fun g => [own Edu.K g.1 r]) := by
  unfold slices_Insert_Edu.f at h
  obtain ⟨⟨h0, h1, h2, h3, h4⟩, h5⟩ := (Gets.of h).grd
  obtain rfl := Gets.out h5
  clear h h5
  obtain ⟨i, rfl⟩ := Int.eq_ofNat_of_zero_le h0
  have hi : i ≤ a0.length := by omega
  obtain ⟨v, hv⟩ := p0_
  obtain ⟨ti, i1, i2, i3, i4⟩ := inf30
  refine Tr.body Tryz.func29 (c := _) rfl Tryz.ntmps29 (Nat.le_of_ble_eq_true rfl) fun R0 F => ?_
  refine WP.seq ?_
  refine WP.reg [(0, false)] (by kernel_rfl) ?_
  refine Dv.asg rfl trivial rfl ?_
  refine .fin ?_
  refine WP.seq ?_
  refine WP.reg [(0, false), (1, false), (2, false)] (by kernel_rfl) ?_
  refine Dv.mv rfl trivial rfl ?_
  refine Dv.mv rfl trivial rfl ?_
  refine Dv.sloa (Kd := Edu.K) (xs := a0) (v := v) rfl trivial rfl (mem_at 0 rfl) Tryz.underlying22 Tryz.underlying30 c30 (bdE_nat (m := i) rfl) hi ?_
  refine .fin ?_
  refine WP.seq ?_
  refine WP.reg [(0, false), (1, false), (2, false)] (by kernel_rfl) ?_
  refine Dv.mv rfl trivial rfl ?_
  refine Dv.lenl rfl trivial rfl Tryz.underlying22 ?_
  refine Dv.asg rfl trivial rfl ?_
  refine .fin ?_
  refine WP.seq ?_
  refine WP.seq ?_
  refine WP.reg [(0, false), (1, false)] (by kernel_rfl) ?_
  refine Dv.mv rfl trivial rfl ?_
  refine Dv.bin rfl trivial rfl rfl (fun _ => run_eq) ?_
  refine .fin ?_
  refine WP.cond rfl (fun c0 => ?_) (fun c0 => ?_)
  · exfalso; have := beq_iff_eq.1 c0; omega
  refine WP.skip ?_
  refine WP.seq ?_
  refine WP.reg [(0, false), (1, false), (2, false)] (by kernel_rfl) ?_
  refine Dv.mv rfl trivial rfl ?_
  refine Dv.lenw (Kd := Edu.K) (xs := a0) (v := v) rfl trivial rfl (mem_at 0 rfl) Tryz.underlying22 ?_
  refine Dv.asg rfl trivial rfl ?_
  refine .fin ?_
  refine WP.seq ?_
  refine WP.seq ?_
  refine WP.reg [(0, false), (1, false), (2, false)] (by kernel_rfl) ?_
  refine Dv.mv rfl trivial rfl ?_
  refine Dv.mv rfl trivial rfl ?_
  refine Dv.bin rfl trivial rfl rfl (fun _ => run_eq) ?_
  refine .fin ?_
  refine WP.cond rfl (fun c1 => ?_) (fun c1 => ?_)
  · have e1 : i = a0.length := by have := beq_iff_eq.1 c1; omega
    subst e1
    refine WP.seq ?_
    refine WP.reg [(0, false), (1, false), (2, true), (3, false)] (by kernel_rfl) ?_
    refine Dv.mv rfl trivial rfl ?_
    refine Dv.mv rfl trivial rfl ?_
    refine Dv.appx (Kd := Edu.K) (xs := a0) (v := v) (jj := 0) (ys := a2) (fun v1 : OV => [own Edu.K v1.1 (a0 ++ a2)] ++ F) rfl trivial rfl rfl rfl src_sl Tryz.underlying22 (.inr ⟨_, Tryz.underlying22⟩) inf30 rfl (by decide) (by omega) rfl nofun (fun v1 => ?_)
    refine Dv.asg rfl trivial rfl ?_
    refine .fin ?_
    have e2 : a0.take (a0.length : Int).toNat ++ a2 ++ a0.drop (a0.length : Int).toNat = a0 ++ a2 := by simp
    rw [e2]
    exact WP.retL (fun _ _ h => h) rfl v1 trivial (.cons (res_tmp rfl) .nil) rfl (st_sel (L := [own Edu.K v1.1 (a0 ++ a2)]) (F := F) [0] 0 rfl rfl rfl)
  refine WP.skip ?_
  have hlt : i < a0.length := by have : ¬ ((i : Int) = (a0.length : Int)) := by simpa using c1
                                 omega
  have hne : a0 ≠ [] := by intro e; subst e; simp at hlt
  rw [Int.toNat_natCast]
  refine WP.gh (gh_of (st_own_blk 0 rfl hne)) (fun g hg => ?_)
  rcases g with ⟨b, off, c, bT, A, C⟩
  change v = .slice (some ⟨b, off, none⟩) a0.length c ∧ a0.length ≤ c ∧ A.length = off ∧ off + c * Edu.K.sz ≤ (A ++ a0.flatMap Edu.K.enc ++ C).length at hg
  obtain ⟨rfl, hc, hA, hlen⟩ := hg
  change WP _ _ _ _ _ _ (blk b bT (A ++ a0.flatMap Edu.K.enc ++ C) :: F)
  have hsz : 0 < Edu.K.sz := by decide
  have ml : ∀ {p q : Nat}, p ≤ q → p * Edu.K.sz ≤ q * Edu.K.sz := fun h => Nat.mul_le_mul_right _ h
  have fl : (A ++ a0.flatMap Edu.K.enc ++ C).length = off + a0.length * Edu.K.sz + C.length := by rw [List.length_append, List.length_append, flatMap_len, hA]
  have fd : ((a0.drop i).flatMap Edu.K.enc).length = (a0.length - i) * Edu.K.sz := by rw [flatMap_len, List.length_drop]
  have fy : (a2.flatMap Edu.K.enc).length = a2.length * Edu.K.sz := flatMap_len _
  have s1 : i * Edu.K.sz + a2.length * Edu.K.sz + (a0.length - i) * Edu.K.sz = (a0.length + a2.length) * Edu.K.sz := by rw [← Nat.add_mul, ← Nat.add_mul]; congr 1; omega
  have s2 : (i + a2.length) * Edu.K.sz = i * Edu.K.sz + a2.length * Edu.K.sz := Nat.add_mul ..
  have zl : (a0.take i ++ a2 ++ a0.drop i).length = a0.length + a2.length := by simp only [List.length_append, List.length_take, List.length_drop]; omega
  refine WP.seq ?_
  refine WP.seq ?_
  refine WP.reg [(0, false), (1, false), (2, false), (3, false), (4, false), (5, false)] (by kernel_rfl) ?_
  refine Dv.mv rfl trivial rfl ?_
  refine Dv.mv rfl trivial rfl ?_
  refine Dv.bin rfl trivial rfl rfl (fun _ => run_addn (a := a0.length) (b := a2.length) (by omega)) ?_
  refine Dv.mv rfl trivial rfl ?_
  refine Dv.capk rfl trivial rfl Tryz.underlying22 ?_
  refine Dv.bin rfl trivial rfl rfl (fun _ => run_gt) ?_
  refine .fin ?_
  refine WP.cond rfl (fun c2 => ?_) (fun c2 => ?_)
  · have hg : c < a0.length + a2.length := by have := of_decide_eq_true c2; omega
    refine WP.seq ?_
    refine WP.reg [(0, false), (1, false), (2, false), (3, false), (4, false), (5, false), (6, false), (7, false), (8, true), (9, false)] (by kernel_rfl) ?_
    refine Dv.mv rfl trivial rfl ?_
    refine Dv.mv rfl trivial rfl ?_
    refine Dv.slkm (o' := off) (m' := i) (c' := c) rfl trivial rfl Tryz.underlying22 Tryz.underlying30 c30 bdE_none (bdE_nat (m := i) rfl) (Nat.zero_le _) (by omega) (.inr rfl) (by simp) (by simp) (by simp) ?_
    refine Dv.mv rfl trivial rfl ?_
    refine Dv.mv rfl trivial rfl ?_
    refine Dv.bin rfl trivial rfl rfl (fun _ => run_addn (a := a0.length) (b := a2.length) (by omega)) ?_
    refine Dv.mv rfl trivial rfl ?_
    refine Dv.bin rfl trivial rfl rfl (fun _ => run_subn (a := a0.length + a2.length) (b := i) (by omega) (by omega)) ?_
    refine Dv.apmn (sz := Edu.K.sz) (jj := 0) (k1 := a0.length + a2.length - i) (N := a0.length + a2.length) (Q := (a0.take i).flatMap Edu.K.enc) rfl trivial rfl rfl Tryz.underlying22 Tryz.underlying3 i1 i2 i3 i4 rfl (by decide) (by omega) (by omega) hg (by omega) h4 rfl ?_ (ins_pre (Kd := Edu.K) hi hA) nofun (fun w hw => ?_)
    · rw [fl]; have := ml (Nat.le_of_lt hlt); omega
    rcases w with ⟨b2, nc⟩
    replace hw : a0.length + a2.length ≤ nc := hw
    refine Dv.asg rfl trivial rfl ?_
    refine .fin ?_
    generalize hZ : (Builtin.zeroCells (Value.cells _) ((b2, nc).2 - i)).toList.map eq = Z
    have zz : Z.length = (nc - i) * Edu.K.sz := by rw [← hZ, List.length_map, Array.length_toList, Builtin.zeroCells, Array.size_map, Array.size_range]; rfl
    have ft : ((a0.take i).flatMap Edu.K.enc ++ Z).length = nc * Edu.K.sz := by rw [List.length_append, flatMap_len, List.length_take, Nat.min_eq_left hi, zz, ← Nat.add_mul]; congr 1; omega
    have s3 := ml hw
    have s4 : i * Edu.K.sz + (a0.length - i) * Edu.K.sz = a0.length * Edu.K.sz := by rw [← Nat.add_mul]; congr 1; omega
    refine WP.seq ?_
    refine WP.reg [(0, false), (1, false), (2, false), (3, false), (4, true)] (by kernel_rfl) ?_
    refine Dv.mv rfl trivial rfl ?_
    refine Dv.mv rfl trivial rfl ?_
    refine Dv.slkm (o' := i * Edu.K.sz) (m' := a0.length + a2.length - i) (c' := nc - i) rfl trivial rfl Tryz.underlying22 Tryz.underlying30 c30 (bdE_nat (m := i) rfl) bdE_none (by omega) hw (.inl (Nat.lt_of_lt_of_le (by omega) hw)) (Nat.zero_add _) rfl rfl ?_
    refine Dv.mv rfl trivial rfl ?_
    refine Dv.cpkn (jj := 0) (kk := a2.length) rfl trivial rfl rfl Tryz.underlying22 Tryz.underlying30 c30 srcN_all (by omega) rfl ?_ nofun ?_
    · rw [ft, fy]; omega
    refine .fin ?_
    have l1 : (spl ((a0.take i).flatMap Edu.K.enc ++ Z) (i * Edu.K.sz) (a2.flatMap Edu.K.enc)).length = nc * Edu.K.sz := by rw [spl_len (by rw [ft, fy]; omega), ft]
    refine WP.seq ?_
    refine WP.dreg Tryz.checked.mixed [(0, false), (1, false), (2, false), (3, false), (4, false), (5, false), (6, false), (7, false), (8, true)] (by kernel_rfl) ?_
    refine Dv.mv rfl trivial rfl ?_
    refine Dv.mv rfl trivial rfl ?_
    refine Dv.mv rfl trivial rfl ?_
    refine Dv.bin rfl trivial rfl rfl (fun _ => run_addn (a := i) (b := a2.length) (by omega)) ?_
    refine Dv.slkm (o' := (i + a2.length) * Edu.K.sz) (m' := a0.length - i) (c' := nc - (i + a2.length)) rfl trivial rfl Tryz.underlying22 Tryz.underlying30 c30 (bdE_nat (m := i + a2.length) rfl) bdE_none (by omega) hw (.inl (Nat.lt_of_lt_of_le (by omega) hw)) (Nat.zero_add _) (by omega) rfl ?_
    refine Dv.mv rfl trivial rfl ?_
    refine Dv.mv rfl trivial rfl ?_
    refine Dv.slkm (o' := off + i * Edu.K.sz) (m' := a0.length - i) (c' := c - i) rfl trivial rfl Tryz.underlying22 Tryz.underlying30 c30 (bdE_nat (m := i) rfl) bdE_none hi hc (.inl (by omega)) rfl rfl rfl ?_
    refine Dv.cpkn (jj := 0) (kk := a0.length - i) rfl trivial rfl rfl Tryz.underlying22 Tryz.underlying30 c30 (srcN_own (mem_at 1 rfl) hi hA) (Nat.min_self _) rfl ?_ (fun _ => pend_bits (by kernel_rfl)) ?_
    · rw [l1, fd]; omega
    refine .fin ?_
    have l2 : (spl (spl ((a0.take i).flatMap Edu.K.enc ++ Z) (i * Edu.K.sz) (a2.flatMap Edu.K.enc)) ((i + a2.length) * Edu.K.sz) ((a0.drop i).flatMap Edu.K.enc)).length = nc * Edu.K.sz := by rw [spl_len (by rw [l1, fd]; omega), l1]
    refine WP.seq ?_
    refine WP.reg [(0, false), (1, false)] (by kernel_rfl) ?_
    refine Dv.mv rfl trivial rfl ?_
    refine Dv.asg rfl trivial rfl ?_
    refine .fin ?_
    refine WP.gh (gh_of (st_blk_own (Kd := Edu.K) (off := 0) (n := a0.length + a2.length) (c := nc) (zs := a0.take i ++ a2 ++ a0.drop i) 0 rfl zl hw (by rw [l2]; omega) (ins_new hi))) (fun _ _ => ?_)
    exact WP.retL (fun _ _ h => h) rfl (⟨.slice (some ⟨b2, 0, none⟩) (a0.length + a2.length) nc, rfl⟩ : OV) trivial (.cons (res_tmp rfl) .nil) rfl (st_sel (L := [own Edu.K (.slice (some ⟨b2, 0, none⟩) (a0.length + a2.length) nc) (a0.take i ++ a2 ++ a0.drop i), blk b bT (A ++ a0.flatMap Edu.K.enc ++ C)]) (F := F) [1, 0] 1 rfl rfl rfl)
  have hg : a0.length + a2.length ≤ c := by have := of_decide_eq_false c2; omega
  refine WP.skip ?_
  have s3 := ml hg
  refine WP.seq ?_
  refine WP.reg [(0, false), (1, false), (2, false), (3, false), (4, false), (5, false)] (by kernel_rfl) ?_
  refine Dv.mv rfl trivial rfl ?_
  refine Dv.mv rfl trivial rfl ?_
  refine Dv.mv rfl trivial rfl ?_
  refine Dv.bin rfl trivial rfl rfl (fun _ => run_addn (a := a0.length) (b := a2.length) (by omega)) ?_
  refine Dv.slkm (o' := off) (m' := a0.length + a2.length) (c' := c) rfl trivial rfl Tryz.underlying22 Tryz.underlying30 c30 bdE_none (bdE_nat (m := a0.length + a2.length) rfl) (Nat.zero_le _) hg (.inr rfl) (by simp) (by simp) (by simp) ?_
  refine Dv.asg rfl trivial rfl ?_
  refine .fin ?_
  refine WP.seq ?_
  refine WP.seq ?_
  refine WP.reg [(0, false), (1, false), (2, false), (3, false), (4, false), (5, false), (6, false), (7, false)] (by kernel_rfl) ?_
  refine Dv.mv rfl trivial rfl ?_
  refine Dv.mv rfl trivial rfl ?_
  refine Dv.mv rfl trivial rfl ?_
  refine Dv.mv rfl trivial rfl ?_
  refine Dv.bin rfl trivial rfl rfl (fun _ => run_addn (a := i) (b := a2.length) (by omega)) ?_
  refine Dv.slkm (o' := off + (i + a2.length) * Edu.K.sz) (m' := a0.length - i) (c' := c - (i + a2.length)) rfl trivial rfl Tryz.underlying22 Tryz.underlying30 c30 (bdE_nat (m := i + a2.length) rfl) bdE_none (by omega) hg (.inl (Nat.lt_of_lt_of_le (by omega) hg)) rfl (by omega) rfl ?_
  refine Dv.ovl rfl trivial rfl rfl (mem_at 0 rfl) h2 hsz Tryz.func53 (by kernel_rfl) rfl xf53 xg53 rfl Tryz.underlying22 Tryz.underlying30 ?_
  refine Dv.un rfl trivial rfl (fun _ => run_not _) ?_
  refine .fin ?_
  refine WP.cond rfl (fun c3 => ?_) (fun c3 => by cases c3)
  refine WP.seq ?_
  refine WP.dreg Tryz.checked.mixed [(0, false), (1, false), (2, false), (3, false), (4, false), (5, false), (6, false), (7, false), (8, true)] (by kernel_rfl) ?_
  refine Dv.mv rfl trivial rfl ?_
  refine Dv.mv rfl trivial rfl ?_
  refine Dv.mv rfl trivial rfl ?_
  refine Dv.bin rfl trivial rfl rfl (fun _ => run_addn (a := i) (b := a2.length) (by omega)) ?_
  refine Dv.slkm (o' := off + (i + a2.length) * Edu.K.sz) (m' := a0.length - i) (c' := c - (i + a2.length)) rfl trivial rfl Tryz.underlying22 Tryz.underlying30 c30 (bdE_nat (m := i + a2.length) rfl) bdE_none (by omega) hg (.inl (Nat.lt_of_lt_of_le (by omega) hg)) rfl (by omega) rfl ?_
  refine Dv.mv rfl trivial rfl ?_
  refine Dv.mv rfl trivial rfl ?_
  refine Dv.slkm (o' := off + i * Edu.K.sz) (m' := a0.length + a2.length - i) (c' := c - i) rfl trivial rfl Tryz.underlying22 Tryz.underlying30 c30 (bdE_nat (m := i) rfl) bdE_none (by omega) hg (.inl (by omega)) rfl rfl rfl ?_
  refine Dv.cpkn (jj := 0) (kk := a0.length - i) rfl trivial rfl rfl Tryz.underlying22 Tryz.underlying30 c30 (srcN_own (mem_at 0 rfl) hi hA) (by omega) rfl ?_ (fun _ => pend_bits (by kernel_rfl)) ?_
  · rw [fd]; omega
  refine .fin ?_
  have l1 : (spl (A ++ a0.flatMap Edu.K.enc ++ C) (off + (i + a2.length) * Edu.K.sz) ((a0.drop i).flatMap Edu.K.enc)).length = (A ++ a0.flatMap Edu.K.enc ++ C).length := spl_len (by rw [fd]; omega)
  refine WP.seq ?_
  refine WP.reg [(0, false), (1, false), (2, false), (3, false), (4, true)] (by kernel_rfl) ?_
  refine Dv.mv rfl trivial rfl ?_
  refine Dv.mv rfl trivial rfl ?_
  refine Dv.slkm (o' := off + i * Edu.K.sz) (m' := a0.length + a2.length - i) (c' := c - i) rfl trivial rfl Tryz.underlying22 Tryz.underlying30 c30 (bdE_nat (m := i) rfl) bdE_none (by omega) hg (.inl (by omega)) rfl rfl rfl ?_
  refine Dv.mv rfl trivial rfl ?_
  refine Dv.cpkn (jj := 0) (kk := a2.length) rfl trivial rfl rfl Tryz.underlying22 Tryz.underlying30 c30 srcN_all (by omega) rfl ?_ nofun ?_
  · rw [l1, fy]; omega
  refine .fin ?_
  refine WP.seq ?_
  refine WP.reg [(0, false), (1, false)] (by kernel_rfl) ?_
  refine Dv.mv rfl trivial rfl ?_
  refine Dv.asg rfl trivial rfl ?_
  refine .fin ?_
  refine WP.gh (gh_of (st_blk_own (Kd := Edu.K) (off := off) (n := a0.length + a2.length) (c := c) (zs := a0.take i ++ a2 ++ a0.drop i) 0 rfl zl hg (by rw [spl_len (by rw [l1, fy]; omega), l1]; exact hlen) (ins_old hi hA (by omega)))) (fun _ _ => ?_)
  exact WP.retL (fun _ _ h => h) rfl (⟨.slice (some ⟨b, off, none⟩) (a0.length + a2.length) c, rfl⟩ : OV) trivial (.cons (res_tmp rfl) .nil) rfl (st_sel (L := [own Edu.K (.slice (some ⟨b, off, none⟩) (a0.length + a2.length) c) (a0.take i ++ a2 ++ a0.drop i)]) (F := F) [0] 0 rfl rfl rfl)
theorem heap_Heap_set.c {a0 : HHeap} {a1 : Int} {a2 : HEnt} {p0_ : OV} {r : HHeap} (h : heap_Heap_set.f a0 a1 a2 = some r) : Tr Tryz.prog 55 [eq p0_.1, vI a1, agg (HEnt.enc a2)] [HHeap.O p0_ a0] (γ := Unit) (fun _ => True) (fun g => tup []) (fun g => [HHeap.O p0_ r]) := by
 unfold heap_Heap_set.f at h
 refine Tr.body Tryz.func55 (c := _) rfl Tryz.ntmps55 (Nat.le_of_ble_eq_true rfl) fun R0 F => ?_
 replace h := Gets.of h
 have H := h
 clear h
 refine WP.seq <| rg 1 1 <| Dv.box rfl trivial rfl cA nofun fun b363 => .fin <| WP.seq <| wg (HHeap.opn 1 rfl) fun g364 h365 => ?_
 refine dg Tryz.checked.mixed 8 128 <| mv0 rfl rfl <| Dv.nilpp h365 rfl trivial rfl <| fp h365 rfl trivial rfl fa80_0 <| ld 0 rfl trivial rfl sc78 rfl rfl <| mv0 rfl rfl <| lds 3 rfl trivial rfl sg72 rfl rfl <| gr H fun g366 H => ?_
 have h367 : a1.toNat < a0.fl.length := idx_lt g366
 refine Dv.ixw rfl trivial rfl (mem_at 1 rfl) rfl Tryz.underlying78 Tryz.underlying72 c72 g366.1 g366.2 <| Dv.stw (j := a1.toNat) (f := 0) (jj := 1) a2 rfl trivial rfl rfl (cells_agg (HEnt.K.one _)) Tryz.underlying72 c72 rfl rfl h367 (Nat.le_of_ble_eq_true rfl) rfl (fun _ => pend_bits (by kernel_rfl)) <| .fin <| dg Tryz.checked.mixed 8 128 <| mv0 rfl rfl <| Dv.nilpp h365 rfl trivial rfl <| fp h365 rfl trivial rfl fa80_1 <| ld 0 rfl trivial rfl sc77 rfl rfl <| fb rfl trivial rfl fa72_1 <| ld 3 rfl trivial rfl sc9 rfl rfl <| mv0 rfl rfl <| Dv.mup (jj := 2) a1 rfl trivial rfl rfl rfl rfl Tryz.underlying77 (keyOk_str Tryz.underlying9) (fun _ => pend_bits (by kernel_rfl)) <| .fin <| ng (HHeap.shut (p := p0_) (m := (⟨a0.fl.set a1.toNat a2, mput a0.fat a2.fKey a1⟩ : HHeap)) (g364.1, g364.2.1, g364.2.2) h365 (pm 4 [0,1,2,3])) fun _ _ => ?_
 obtain rfl := Gets.out H
 exact re rfl () 2 [1,0] 1 .nil
theorem heap_ahead.c {k : Nat} {a0 : HEnt} {a1 : HEnt} {r : Int} (h : heap_ahead.f k a0 a1 = some r) : Pt Tryz.prog 78 [agg (HEnt.enc a0), agg (HEnt.enc a1)] (vI r) := by
 unfold heap_ahead.f at h
 refine (Tr.body Tryz.func78 (c := _) rfl Tryz.ntmps78 (Nat.le_of_ble_eq_true rfl) fun R0 F => ?_).pt
 replace h := Gets.of h
 have H := h
 clear h
 refine WP.seq <| rg 3 3 <| Dv.box rfl trivial rfl cA nofun fun b368 => Dv.box rfl trivial rfl cA nofun fun b369 => as0 rfl rfl <| .fin <| WP.seq <| dg Tryz.checked.mixed 13 0 <| fb rfl trivial rfl fa72_0 <| ld 1 rfl trivial rfl sc3 rfl rfl <| fb rfl trivial rfl fa72_0 <| ld 0 rfl trivial rfl sc3 rfl rfl <| el H fun t370 h371 H => cl rfl cal74 rfl (cmp_Compare_int.c h371) <| fb rfl trivial rfl fa72_1 <| ld 1 rfl trivial rfl sc9 rfl rfl <| fb rfl trivial rfl fa72_1 <| ld 0 rfl trivial rfl sc9 rfl rfl <| el H fun t372 h373 H => cl rfl cal50 rfl (cmp_Compare_string.c h373) <| Dv.lit (intK .i64) ([t370, t372] : List Int) (css := [[vI t370], [vI t372]]) rfl trivial Tryz.underlying24 Tryz.underlying3 c3 z3 rfl (by decide) (by decide) rfl ⟨(cells_one (one_eq rfl)), ⟨(cells_one (one_eq rfl)), trivial⟩⟩ rfl rfl rfl <| el H fun t374 h375 H => cl rfl cal49 rfl (cmp_Or_int.c h375) <| as0 rfl rfl <| .fin ?_
 obtain rfl := Gets.out H
 exact rt i2 rfl () 2 [0,1] 2 (.cons (res_tmp rfl) .nil)
theorem heap_Heap_down.c {k : Nat} {a0 : HHeap} {a1 : Int} {p0_ : OV} {r : HHeap} (h : heap_Heap_down.f k a0 a1 = some r) : Tr Tryz.prog 56 [eq p0_.1, vI a1] [HHeap.O p0_ a0] (γ := Unit) (fun _ => True) (fun g => tup []) (fun g => [HHeap.O p0_ r]) := by
 unfold heap_Heap_down.f at h
 refine Tr.body Tryz.func56 (c := _) rfl Tryz.ntmps56 (Nat.le_of_ble_eq_true rfl) fun R0 F => ?_
 replace h := Gets.of h
 have H := h
 clear h
 refine WP.seq <| rg 9 384 <| mv0 rfl rfl <| Dv.nilA HHeap.nn rfl trivial rfl (mem_at 0 rfl) <| vg (HHeap.opn 0 rfl) fun g376 h377 => ?_
 refine fp h377 rfl trivial rfl fa80_0 <| ld 0 rfl trivial rfl sc78 rfl rfl <| mv0 rfl rfl <| gr H fun g378 H => ?_
 have h379 : a1.toNat < a0.fl.length := idx_lt g378
 refine Dv.ixw rfl trivial rfl (mem_at 1 rfl) rfl Tryz.underlying78 Tryz.underlying72 c72 g378.1 g378.2 <| Dv.ldws (j := a1.toNat) (f := 0) rfl trivial rfl (mem_at 1 rfl) h379 Tryz.underlying72 rfl c72 (Nat.le_of_ble_eq_true rfl) <| al rfl trivial zc72 nofun fun b380 => sx 0 rfl trivial rfl rfl cA sz72 rfl rfl rfl nofun ?_
 refine .fin <| WP.seqn H id (fun p381 : Int × Int × Bool × Bool × HHeap => [(0, eq p0_.1), (1, vI p381.1), (4, eq (.pointer (some ⟨b380, 0, none⟩))), (5, vI p381.2.1), (42, vB p381.2.2.1), (63, vB p381.2.2.2.1)]) (fun p381 : Int × Int × Bool × Bool × HHeap => [blk b380 72 (HEnt.enc (a0.fl.getD a1.toNat default)), HHeap.O p0_ p381.2.2.2.2] ++ F) (fun p381 H => ?_) (fun H => ?_)
 ·
  refine rg 4 8 <| mv0 rfl rfl <| mv0 rfl rfl <| lds 0 rfl trivial rfl sg72 rfl rfl <| el H fun t382 h383 H => cx 2 [1,0] cal55 (heap_Heap_set.c h383 (p0_ := p0_)) nofun fun _ _ => ?_
  refine .fin ?_
  obtain rfl := Gets.out H
  exact re rfl () 2 [1,0] 1 .nil
 refine WP.block <| wg (HHeap.shut (p := p0_) (m := a0) (g376.1, g376.2.1, g376.2.2) h377 (pm 4 [1,2,3,0])) fun _ _ => ?_
 refine wg (sg 2 [1,0] 0) fun _ _ => ?_
 refine lp (fun j_ (p412 : Int × HHeap) => heap_Heap_down.l0 k a0 a1 j_ p412.1 p412.2) (a1, a0) H (fun p412 => [(0, eq p0_.1), (1, vI p412.1), (4, eq (.pointer (some ⟨b380, 0, none⟩)))]) (fun p412 => [blk b380 72 (HEnt.enc (a0.fl.getD a1.toNat default)), HHeap.O p0_ p412.2] ++ F) ?_
 rintro j_ ⟨x384, x385⟩ H
 rcases j_ with _ | j411
 ·
  exact (Gets.no H).elim
 replace H : Gets (heap_Heap_down.l0 k a0 a1 (j411 + 1) x384 x385) _ := H
 rw [heap_Heap_down.l0] at H
 refine WP.block <| WP.seq <| rg 4 0 <| mv0 rfl rfl <| bn0 rfl rfl rfl run_mul <| bn0 rfl rfl rfl run_add <| as0 rfl rfl <| .fin <| WP.seqn H id (fun p386 : Int × Bool => [(0, eq p0_.1), (1, vI x384), (4, eq (.pointer (some ⟨b380, 0, none⟩))), (5, vI p386.1), (42, vB p386.2)]) (fun p386 : Int × Bool => [blk b380 72 (HEnt.enc (a0.fl.getD a1.toNat default)), HHeap.O p0_ x385] ++ F) (fun p386 H => ?_) (fun H => ?_)
 ·
  refine WP.seq <| WP.seq <| wg (HHeap.opn 1 rfl) fun g387 h388 => ?_
  refine dg Tryz.checked.mixed 19 0 <| mv0 rfl rfl <| mv0 rfl rfl <| Dv.nilpp h388 rfl trivial rfl <| fp h388 rfl trivial rfl fa80_0 <| ld 0 rfl trivial rfl sc78 rfl rfl <| Dv.lenw rfl trivial rfl (mem_at 1 rfl) Tryz.underlying78 <| bn0 rfl rfl rfl run_ge <| mv0 rfl rfl ?_
  cases c389 : decide ((x385.fl.length : Int) ≤ p386.1)
  rotate_left
  ·
   replace H := Gets.ct H c389
   refine sk rfl rfl <| sk rfl rfl <| sk rfl rfl <| sk rfl rfl <| sk rfl rfl <| sk rfl rfl <| sk rfl rfl <| sk rfl rfl <| sk rfl rfl <| sk rfl rfl <| pt0 rfl rfl rfl <| .fin <| WP.cond rfl (fun _ => ?_) nofun
   refine WP.exit ?_
   replace H := Gets.out H
   refine ng (HHeap.shut (p := p0_) (m := x385) (g387.1, g387.2.1, g387.2.2) h388 (pm 4 [0,1,2,3])) fun _ _ => ?_
   refine ng (sg 2 [1,0] 0) fun _ _ => ?_
   exact jn (x384, p386.1, p386.2, true, x385) H
  replace H := Gets.cf H c389
  refine lds 3 rfl (gg rfl) rfl sg72 rfl rfl <| mvg rfl rfl rfl <| Dv.nilpp h388 rfl (gg rfl) rfl <| fp h388 rfl (gg rfl) rfl fa80_0 <| ld 0 rfl (gg rfl) rfl sc78 rfl rfl <| mvg rfl rfl rfl <| gr H fun g391 H => ?_
  have h392 : p386.1.toNat < x385.fl.length := idx_lt g391
  refine Dv.ixw rfl (gg rfl) rfl (mem_at 1 rfl) rfl Tryz.underlying78 Tryz.underlying72 c72 g391.1 g391.2 <| Dv.ldws (j := p386.1.toNat) (f := 0) rfl (gg rfl) rfl (mem_at 1 rfl) h392 Tryz.underlying72 rfl c72 (Nat.le_of_ble_eq_true rfl) <| el H fun t393 h394 H => Dv.call rfl (gg rfl) cal78 rfl (heap_ahead.c h394) <| bng rfl rfl rfl rfl run_lt <| pf0 rfl rfl rfl <| .fin <| cd H rfl (fun _ H => ?_) (fun _ H => ?_)
  ·
   refine WP.exit ?_
   replace H := Gets.out H
   refine ng (HHeap.shut (p := p0_) (m := x385) (g387.1, g387.2.1, g387.2.2) h388 (pm 4 [0,1,2,3])) fun _ _ => ?_
   refine ng (sg 2 [1,0] 0) fun _ _ => ?_
   exact jn (x384, p386.1, p386.2, decide (t393 < 0), x385) H
  refine WP.skip <| WP.seq <| rg 10 512 <| mv0 rfl rfl <| mv0 rfl rfl <| mv0 rfl rfl <| Dv.nilpp h388 rfl trivial rfl <| fp h388 rfl trivial rfl fa80_0 <| ld 0 rfl trivial rfl sc78 rfl rfl <| mv0 rfl rfl <| gr H fun g396 H => ?_
  have h397 : p386.1.toNat < x385.fl.length := idx_lt g396
  refine Dv.ixw rfl trivial rfl (mem_at 1 rfl) rfl Tryz.underlying78 Tryz.underlying72 c72 g396.1 g396.2 <| Dv.ldws (j := p386.1.toNat) (f := 0) rfl trivial rfl (mem_at 1 rfl) h397 Tryz.underlying72 rfl c72 (Nat.le_of_ble_eq_true rfl) <| vg (HHeap.shut (p := p0_) (m := x385) (g387.1, g387.2.1, g387.2.2) h388 (pm 4 [0,1,2,3])) fun _ _ => ?_
  refine el H fun t398 h399 H => cx 2 [0,1] cal55 (heap_Heap_set.c h399 (p0_ := p0_)) nofun fun _ _ => ?_
  refine .fin <| rg 2 0 <| mv0 rfl rfl <| as0 rfl rfl <| .fin <| ng (sg 2 [1,0] 0) fun _ _ => ?_
  exact bk j411 (p386.1, t398) H
 refine WP.seq <| wg (HHeap.opn 1 rfl) fun g400 h401 => ?_
 refine dg Tryz.checked.mixed 27 0 <| mv0 rfl rfl <| bn0 rfl rfl rfl run_add <| mv0 rfl rfl <| Dv.nilpp h401 rfl trivial rfl <| fp h401 rfl trivial rfl fa80_0 <| ld 0 rfl trivial rfl sc78 rfl rfl <| Dv.lenw rfl trivial rfl (mem_at 1 rfl) Tryz.underlying78 <| bn0 rfl rfl rfl run_lt <| mv0 rfl rfl ?_
 cases c402 : decide ((w64 ((w64 ((w64 (2 * x384)) + 1)) + 1)) < (x385.fl.length : Int))
 ·
  replace H := Gets.cf H c402
  refine sk rfl rfl <| sk rfl rfl <| sk rfl rfl <| sk rfl rfl <| sk rfl rfl <| sk rfl rfl <| sk rfl rfl <| sk rfl rfl <| sk rfl rfl <| sk rfl rfl <| sk rfl rfl <| sk rfl rfl <| sk rfl rfl <| sk rfl rfl <| sk rfl rfl <| sk rfl rfl <| sk rfl rfl <| pf0 rfl rfl rfl <| .fin <| WP.cond rfl nofun (fun _ => ?_)
  refine WP.skip ?_
  replace H := Gets.out H
  refine ng (HHeap.shut (p := p0_) (m := x385) (g400.1, g400.2.1, g400.2.2) h401 (pm 4 [0,1,2,3])) fun _ _ => ?_
  refine ng (sg 2 [1,0] 0) fun _ _ => ?_
  exact jn (w64 ((w64 (2 * x384)) + 1), false) H
 replace H := Gets.ct H c402
 refine mvg rfl rfl rfl <| Dv.nilpp h401 rfl (gg rfl) rfl <| fp h401 rfl (gg rfl) rfl fa80_0 <| ld 0 rfl (gg rfl) rfl sc78 rfl rfl <| mvg rfl rfl rfl <| bng rfl rfl rfl rfl run_add <| gr H fun g403 H => ?_
 have h404 : (w64 ((w64 ((w64 (2 * x384)) + 1)) + 1)).toNat < x385.fl.length := idx_lt g403
 refine Dv.ixw rfl (gg rfl) rfl (mem_at 1 rfl) rfl Tryz.underlying78 Tryz.underlying72 c72 g403.1 g403.2 <| Dv.ldws (j := ((w64 ((w64 ((w64 (2 * x384)) + 1)) + 1)).toNat)) (f := 0) rfl (gg rfl) rfl (mem_at 1 rfl) h404 Tryz.underlying72 rfl c72 (Nat.le_of_ble_eq_true rfl) <| mvg rfl rfl rfl <| Dv.nilpp h401 rfl (gg rfl) rfl <| fp h401 rfl (gg rfl) rfl fa80_0 <| ld 0 rfl (gg rfl) rfl sc78 rfl rfl <| mvg rfl rfl rfl <| gr H fun g405 H => ?_
 have h406 : (w64 ((w64 (2 * x384)) + 1)).toNat < x385.fl.length := idx_lt g405
 refine Dv.ixw rfl (gg rfl) rfl (mem_at 1 rfl) rfl Tryz.underlying78 Tryz.underlying72 c72 g405.1 g405.2 <| Dv.ldws (j := ((w64 ((w64 (2 * x384)) + 1)).toNat)) (f := 0) rfl (gg rfl) rfl (mem_at 1 rfl) h406 Tryz.underlying72 rfl c72 (Nat.le_of_ble_eq_true rfl) <| el H fun t407 h408 H => Dv.call rfl (gg rfl) cal78 rfl (heap_ahead.c h408) <| bng rfl rfl rfl rfl run_lt <| pt0 rfl rfl rfl <| .fin <| cd H rfl (fun _ H => ?_) (fun _ H => ?_)
 rotate_left
 ·
  refine WP.skip ?_
  replace H := Gets.out H
  refine ng (HHeap.shut (p := p0_) (m := x385) (g400.1, g400.2.1, g400.2.2) h401 (pm 4 [0,1,2,3])) fun _ _ => ?_
  refine ng (sg 2 [1,0] 0) fun _ _ => ?_
  exact jn (w64 ((w64 (2 * x384)) + 1), decide (t407 < 0)) H
 refine rg 3 0 <| mv0 rfl rfl <| bn0 rfl rfl rfl run_add <| as0 rfl rfl <| .fin ?_
 replace H := Gets.out H
 refine ng (HHeap.shut (p := p0_) (m := x385) (g400.1, g400.2.1, g400.2.2) h401 (pm 4 [0,1,2,3])) fun _ _ => ?_
 refine ng (sg 2 [1,0] 0) fun _ _ => ?_
 exact jn (w64 ((w64 ((w64 (2 * x384)) + 1)) + 1), decide (t407 < 0)) H
theorem heap_Heap_up.c {k : Nat} {a0 : HHeap} {a1 : Int} {p0_ : OV} {r : HHeap} (h : heap_Heap_up.f k a0 a1 = some r) : Tr Tryz.prog 57 [eq p0_.1, vI a1] [HHeap.O p0_ a0] (γ := Unit) (fun _ => True) (fun g => tup []) (fun g => [HHeap.O p0_ r]) := by
 unfold heap_Heap_up.f at h
 refine Tr.body Tryz.func57 (c := _) rfl Tryz.ntmps57 (Nat.le_of_ble_eq_true rfl) fun R0 F => ?_
 replace h := Gets.of h
 have H := h
 clear h
 refine WP.seq <| rg 9 384 <| mv0 rfl rfl <| Dv.nilA HHeap.nn rfl trivial rfl (mem_at 0 rfl) <| vg (HHeap.opn 0 rfl) fun g413 h414 => ?_
 refine fp h414 rfl trivial rfl fa80_0 <| ld 0 rfl trivial rfl sc78 rfl rfl <| mv0 rfl rfl <| gr H fun g415 H => ?_
 have h416 : a1.toNat < a0.fl.length := idx_lt g415
 refine Dv.ixw rfl trivial rfl (mem_at 1 rfl) rfl Tryz.underlying78 Tryz.underlying72 c72 g415.1 g415.2 <| Dv.ldws (j := a1.toNat) (f := 0) rfl trivial rfl (mem_at 1 rfl) h416 Tryz.underlying72 rfl c72 (Nat.le_of_ble_eq_true rfl) <| al rfl trivial zc72 nofun fun b417 => sx 0 rfl trivial rfl rfl cA sz72 rfl rfl rfl nofun ?_
 refine .fin <| WP.seqn H id (fun p418 : Int × Bool × HHeap => [(0, eq p0_.1), (1, vI p418.1), (4, eq (.pointer (some ⟨b417, 0, none⟩))), (27, vB p418.2.1)]) (fun p418 : Int × Bool × HHeap => [blk b417 72 (HEnt.enc (a0.fl.getD a1.toNat default)), HHeap.O p0_ p418.2.2] ++ F) (fun p418 H => ?_) (fun H => ?_)
 ·
  refine rg 4 8 <| mv0 rfl rfl <| mv0 rfl rfl <| lds 0 rfl trivial rfl sg72 rfl rfl <| el H fun t419 h420 H => cx 2 [1,0] cal55 (heap_Heap_set.c h420 (p0_ := p0_)) nofun fun _ _ => ?_
  refine .fin ?_
  obtain rfl := Gets.out H
  exact re rfl () 2 [1,0] 1 .nil
 refine WP.block <| wg (HHeap.shut (p := p0_) (m := a0) (g413.1, g413.2.1, g413.2.2) h414 (pm 4 [1,2,3,0])) fun _ _ => ?_
 refine wg (sg 2 [1,0] 0) fun _ _ => ?_
 refine lp (fun j_ (p437 : Int × HHeap) => heap_Heap_up.l0 k a0 a1 j_ p437.1 p437.2) (a1, a0) H (fun p437 => [(0, eq p0_.1), (1, vI p437.1), (4, eq (.pointer (some ⟨b417, 0, none⟩)))]) (fun p437 => [blk b417 72 (HEnt.enc (a0.fl.getD a1.toNat default)), HHeap.O p0_ p437.2] ++ F) ?_
 rintro j_ ⟨x421, x422⟩ H
 rcases j_ with _ | j436
 ·
  exact (Gets.no H).elim
 replace H : Gets (heap_Heap_up.l0 k a0 a1 (j436 + 1) x421 x422) _ := H
 rw [heap_Heap_up.l0] at H
 refine WP.seq <| WP.seq <| wg (HHeap.opn 1 rfl) fun g423 h424 => ?_
 refine dg Tryz.checked.mixed 16 0 <| mv0 rfl rfl <| bn0 rfl rfl rfl run_gt <| mv0 rfl rfl ?_
 cases c425 : decide (0 < x421)
 ·
  replace H := Gets.cf H c425
  refine sk rfl rfl <| sk rfl rfl <| sk rfl rfl <| sk rfl rfl <| sk rfl rfl <| sk rfl rfl <| sk rfl rfl <| sk rfl rfl <| sk rfl rfl <| sk rfl rfl <| sk rfl rfl <| sk rfl rfl <| pf0 rfl rfl rfl <| .fin <| WP.cond rfl nofun (fun _ => ?_)
  refine WP.exit ?_
  replace H := Gets.out H
  refine ng (HHeap.shut (p := p0_) (m := x422) (g423.1, g423.2.1, g423.2.2) h424 (pm 4 [0,1,2,3])) fun _ _ => ?_
  refine ng (sg 2 [1,0] 0) fun _ _ => ?_
  exact jn (x421, false, x422) H
 replace H := Gets.ct H c425
 refine lds 3 rfl (gg rfl) rfl sg72 rfl rfl <| mvg rfl rfl rfl <| Dv.nilpp h424 rfl (gg rfl) rfl <| fp h424 rfl (gg rfl) rfl fa80_0 <| ld 0 rfl (gg rfl) rfl sc78 rfl rfl <| mvg rfl rfl rfl <| bng rfl rfl rfl rfl run_sub <| bng rfl rfl rfl rfl (run_quo (by decide)) <| gr H fun g426 H => ?_
 have h427 : (w64 ((w64 (x421 - 1)).tdiv 2)).toNat < x422.fl.length := idx_lt g426
 refine Dv.ixw rfl (gg rfl) rfl (mem_at 1 rfl) rfl Tryz.underlying78 Tryz.underlying72 c72 g426.1 g426.2 <| Dv.ldws (j := ((w64 ((w64 (x421 - 1)).tdiv 2)).toNat)) (f := 0) rfl (gg rfl) rfl (mem_at 1 rfl) h427 Tryz.underlying72 rfl c72 (Nat.le_of_ble_eq_true rfl) <| el H fun t428 h429 H => Dv.call rfl (gg rfl) cal78 rfl (heap_ahead.c h429) <| bng rfl rfl rfl rfl run_lt <| pt0 rfl rfl rfl <| .fin <| cd H rfl (fun _ H => ?_) (fun _ H => ?_)
 rotate_left
 ·
  refine WP.exit ?_
  replace H := Gets.out H
  refine ng (HHeap.shut (p := p0_) (m := x422) (g423.1, g423.2.1, g423.2.2) h424 (pm 4 [0,1,2,3])) fun _ _ => ?_
  refine ng (sg 2 [1,0] 0) fun _ _ => ?_
  exact jn (x421, decide (t428 < 0), x422) H
 refine WP.skip <| WP.block <| WP.seq <| rg 12 2048 <| mv0 rfl rfl <| mv0 rfl rfl <| mv0 rfl rfl <| Dv.nilpp h424 rfl trivial rfl <| fp h424 rfl trivial rfl fa80_0 <| ld 0 rfl trivial rfl sc78 rfl rfl <| mv0 rfl rfl <| bn0 rfl rfl rfl run_sub <| bn0 rfl rfl rfl (run_quo (by decide)) <| gr H fun g431 H => ?_
 have h432 : (w64 ((w64 (x421 - 1)).tdiv 2)).toNat < x422.fl.length := idx_lt g431
 refine Dv.ixw rfl trivial rfl (mem_at 1 rfl) rfl Tryz.underlying78 Tryz.underlying72 c72 g431.1 g431.2 <| Dv.ldws (j := ((w64 ((w64 (x421 - 1)).tdiv 2)).toNat)) (f := 0) rfl trivial rfl (mem_at 1 rfl) h432 Tryz.underlying72 rfl c72 (Nat.le_of_ble_eq_true rfl) <| vg (HHeap.shut (p := p0_) (m := x422) (g423.1, g423.2.1, g423.2.2) h424 (pm 4 [0,1,2,3])) fun _ _ => ?_
 refine el H fun t433 h434 H => cx 2 [0,1] cal55 (heap_Heap_set.c h434 (p0_ := p0_)) nofun fun _ _ => ?_
 refine .fin <| rg 4 0 <| mv0 rfl rfl <| bn0 rfl rfl rfl run_sub <| bn0 rfl rfl rfl (run_quo (by decide)) <| as0 rfl rfl <| .fin <| ng (sg 2 [1,0] 0) fun _ _ => ?_
 exact bk j436 (w64 ((w64 (x421 - 1)).tdiv 2), t433) H
theorem heap_Heap_Drop.c {k : Nat} {a0 : HHeap} {a1 : ByteArray} {p0_ : OV} {r : Bool × HHeap} (h : heap_Heap_Drop.f k a0 a1 = some r) : Tr Tryz.prog 30 [eq p0_.1, vS a1] [HHeap.O p0_ a0] (γ := Unit) (fun _ => True) (fun g => vB r.1) (fun g => [HHeap.O p0_ r.2]) := by
 unfold heap_Heap_Drop.f at h
 refine Tr.body Tryz.func30 (c := _) rfl Tryz.ntmps30 (Nat.le_of_ble_eq_true rfl) fun R0 F => ?_
 replace h := Gets.of h
 have H := h
 clear h
 refine WP.seq <| rg 1 0 <| as0 rfl rfl <| .fin <| WP.seq <| rg 11 0 <| mv0 rfl rfl <| Dv.nilA HHeap.nn rfl trivial rfl (mem_at 0 rfl) <| vg (HHeap.opn 0 rfl) fun g438 h439 => ?_
 refine fp h439 rfl trivial rfl fa80_1 <| ld 0 rfl trivial rfl sc77 rfl rfl <| mv0 rfl rfl <| Dv.mlk 0 rfl trivial rfl (mem_at 2 rfl) rfl Tryz.underlying77 (keyOk_str Tryz.underlying9) z3 (fun _ => rfl) <| mv0 rfl rfl <| ex0 rfl trivial rfl rfl <| ex0 rfl trivial rfl rfl <| as0 rfl rfl <| as0 rfl rfl <| .fin <| WP.seq <| WP.seq <| rg 2 0 <| mv0 rfl rfl <| un0 rfl rfl (run_not _) <| .fin <| cd H rfl (fun _ H => ?_) (fun _ H => ?_)
 ·
  refine WP.seq <| rg 1 0 <| as0 rfl rfl <| .fin <| wg (HHeap.shut (p := p0_) (m := a0) (g438.1, g438.2.1, g438.2.2) h439 (pm 3 [0,1,2])) fun _ _ => ?_
  obtain rfl := Gets.out H
  exact rt i2 rfl () 1 [0] 0 (.cons (res_tmp rfl) .nil)
 refine WP.skip <| WP.seq <| rg 6 32 <| mv0 rfl rfl <| Dv.nilpp h439 rfl trivial rfl <| fp h439 rfl trivial rfl fa80_1 <| ld 0 rfl trivial rfl sc77 rfl rfl <| mv0 rfl rfl <| Dv.mdl (jj := 2) rfl trivial rfl rfl rfl Tryz.underlying77 (keyOk_str Tryz.underlying9) nofun <| .fin <| WP.seq <| rg 7 0 <| mv0 rfl rfl <| Dv.nilpp h439 rfl trivial rfl <| fp h439 rfl trivial rfl fa80_0 <| ld 0 rfl trivial rfl sc78 rfl rfl <| Dv.lenw rfl trivial rfl (mem_at 1 rfl) Tryz.underlying78 <| bn0 rfl rfl rfl run_sub <| as0 rfl rfl <| .fin <| WP.seq <| rg 9 384 <| mv0 rfl rfl <| Dv.nilpp h439 rfl trivial rfl <| fp h439 rfl trivial rfl fa80_0 <| ld 0 rfl trivial rfl sc78 rfl rfl <| mv0 rfl rfl <| gr H fun g441 H => ?_
 have h442 : (w64 ((a0.fl.length : Int) - 1)).toNat < a0.fl.length := idx_lt g441
 refine Dv.ixw rfl trivial rfl (mem_at 1 rfl) rfl Tryz.underlying78 Tryz.underlying72 c72 g441.1 g441.2 <| Dv.ldws (j := ((w64 ((a0.fl.length : Int) - 1)).toNat)) (f := 0) rfl trivial rfl (mem_at 1 rfl) h442 Tryz.underlying72 rfl c72 (Nat.le_of_ble_eq_true rfl) <| al rfl trivial zc72 nofun fun b443 => sx 0 rfl trivial rfl rfl cA sz72 rfl rfl rfl nofun ?_
 refine .fin <| WP.seq <| rg 10 576 <| mv0 rfl rfl <| mv0 rfl rfl <| Dv.nilpp h439 rfl trivial rfl <| fp h439 rfl trivial rfl fa80_0 <| ld 1 rfl trivial rfl sc78 rfl rfl <| mv0 rfl rfl <| gr H fun g444 H => Dv.slo (jj := 2) rfl trivial rfl rfl Tryz.underlying78 Tryz.underlying72 c72 bdE_none (bdE_some rfl g444.1) (.inl rfl) g444.2.1 g444.2.2 nofun (fun v445 => ?_)
 refine Dv.nilpp h439 rfl trivial rfl <| fp h439 rfl trivial rfl fa80_0 <| sx 1 rfl trivial rfl rfl (cells_one one_ov) sz78 rfl rfl rfl nofun ?_
 refine .fin <| WP.seq <| WP.seq <| rg 3 0 <| mv0 rfl rfl <| mv0 rfl rfl <| bn0 rfl rfl rfl run_lt <| .fin <| cd H rfl (fun _ H => ?_) (fun _ H => ?_)
 rotate_left
 ·
  refine WP.skip <| WP.seq <| rg 1 0 <| as0 rfl rfl <| .fin <| wg (HHeap.shut (p := p0_) (m := (⟨(a0.fl.take ((w64 ((a0.fl.length : Int) - 1)).toNat)).drop 0, mdel a0.fat a1⟩ : HHeap)) (g438.1, v445, g438.2.2) h439 (pm 4 [1,2,3,0])) fun _ _ => ?_
  obtain rfl := Gets.out H
  exact rt i2 rfl () 2 [1,0] 1 (.cons (res_tmp rfl) .nil)
 refine WP.seq <| rg 4 8 <| mv0 rfl rfl <| mv0 rfl rfl <| lds 0 rfl trivial rfl sg72 rfl rfl <| vg (HHeap.shut (p := p0_) (m := (⟨(a0.fl.take ((w64 ((a0.fl.length : Int) - 1)).toNat)).drop 0, mdel a0.fat a1⟩ : HHeap)) (g438.1, v445, g438.2.2) h439 (pm 4 [1,2,3,0])) fun _ _ => ?_
 refine el H fun t447 h448 H => cx 2 [0,1] cal55 (heap_Heap_set.c h448 (p0_ := p0_)) nofun fun _ _ => ?_
 refine .fin <| WP.seq <| rg 3 4 <| mv0 rfl rfl <| mv0 rfl rfl <| el H fun t449 h450 H => cx 2 [0,1] cal56 (heap_Heap_down.c h450 (p0_ := p0_)) nofun fun _ _ => ?_
 refine .fin <| wg (HHeap.opn 0 rfl) fun g451 h452 => ?_
 refine dg Tryz.checked.mixed 9 256 <| mv0 rfl rfl <| mv0 rfl rfl <| Dv.nilpp h452 rfl trivial rfl <| fp h452 rfl trivial rfl fa80_1 <| ld 0 rfl trivial rfl sc77 rfl rfl <| fb rfl trivial rfl fa72_1 <| ld 3 rfl trivial rfl sc9 rfl rfl <| Dv.mlv 0 rfl trivial rfl (mem_at 2 rfl) rfl Tryz.underlying77 (keyOk_str Tryz.underlying9) z3 (fun _ => rfl) <| el H fun t453 h454 H => cx 4 [0,1,2,3] cal57 (Tr.pre (pre' := [blk g451.1 80 [eq g451.2.1.1, eq g451.2.2.1], own HEnt.K g451.2.1.1 t449.fl, mp Value.string (fun x : Int => vI x) g451.2.2.1 t449.fat]) (heap_Heap_up.c h454 (p0_ := p0_)) (fun F R w => HHeap.shut (p := p0_) (m := t449) (r := F) (g451.1, g451.2.1, g451.2.2) h452 (List.Perm.refl _) R w)) pC fun _ _ => ?_
 refine .fin <| WP.seq <| rg 1 0 <| as0 rfl rfl <| .fin ?_
 obtain rfl := Gets.out H
 exact rt i2 rfl () 2 [1,0] 1 (.cons (res_tmp rfl) .nil)
theorem heap_Heap_Put.c {k : Nat} {a0 : HHeap} {a1 : Int} {a2 : ByteArray} {p0_ : OV} {r : HHeap} (h : heap_Heap_Put.f k a0 a1 a2 = some r) : Tr Tryz.prog 31 [eq p0_.1, vI a1, vS a2] [HHeap.O p0_ a0] (γ := Unit) (fun _ => True) (fun g => tup []) (fun g => [HHeap.O p0_ r]) := by
 unfold heap_Heap_Put.f at h
 refine Tr.body Tryz.func31 (c := _) rfl Tryz.ntmps31 (Nat.le_of_ble_eq_true rfl) fun R0 F => ?_
 replace h := Gets.of h
 have H := h
 clear h
 refine WP.seq <| rg 3 4 <| mv0 rfl rfl <| mv0 rfl rfl <| el H fun t455 h456 H => cx 1 [0] cal30 (heap_Heap_Drop.c h456 (p0_ := p0_)) nofun fun _ _ => ?_
 refine .fin <| WP.seq <| rg 13 4608 <| mv0 rfl rfl <| mv0 rfl rfl <| Dv.nilA HHeap.nn rfl trivial rfl (mem_at 0 rfl) <| vg (HHeap.opn 0 rfl) fun g457 h458 => ?_
 refine fp h458 rfl trivial rfl fa80_0 <| ld 0 rfl trivial rfl sc78 rfl rfl <| mv0 rfl rfl <| mv0 rfl rfl <| Dv.bld (css := [[vI a1], [vS a2]]) rfl trivial Tryz.underlying72 pl72 z72 rfl ⟨(cells_one (one_eq rfl)), ⟨(cells_one (one_eq rfl)), trivial⟩⟩ rfl rfl <| Dv.lit HEnt.K ([(⟨a1, a2⟩ : HEnt)] : List HEnt) (css := [[vI a1, vS a2]]) rfl trivial Tryz.underlying78 Tryz.underlying72 c72 z72 rfl (by decide) (by decide) rfl ⟨(cells_agg (ones_cons (one_eq rfl) (ones_cons (one_eq rfl) ones_nil))), trivial⟩ rfl rfl rfl <| gr H fun g459 H => ap HEnt.K 1 ([(⟨a1, a2⟩ : HEnt)] : List HEnt) src_sl Tryz.underlying78 (.inr ⟨_, Tryz.underlying78⟩) inf72 g459 nofun fun v460 => ?_
 refine Dv.nilpp h458 rfl trivial rfl <| fp h458 rfl trivial rfl fa80_0 <| sx 0 rfl trivial rfl rfl (cells_one one_ov) sz78 rfl rfl rfl nofun ?_
 refine .fin <| rg 8 128 <| mv0 rfl rfl <| mv0 rfl rfl <| Dv.nilpp h458 rfl trivial rfl <| fp h458 rfl trivial rfl fa80_0 <| ld 0 rfl trivial rfl sc78 rfl rfl <| Dv.lenw rfl trivial rfl (mem_at 1 rfl) Tryz.underlying78 <| bn0 rfl rfl rfl run_sub <| vg (HHeap.shut (p := p0_) (m := (⟨t455.2.fl ++ ([(⟨a1, a2⟩ : HEnt)] : List HEnt), t455.2.fat⟩ : HHeap)) (g457.1, v460, g457.2.2) h458 (pm 3 [0,1,2])) fun _ _ => ?_
 refine el H fun t461 h462 H => cx 1 [0] cal57 (heap_Heap_up.c h462 (p0_ := p0_)) nofun fun _ _ => ?_
 refine .fin ?_
 obtain rfl := Gets.out H
 exact re rfl () 1 [0] 0 .nil
theorem typing_end.c {a0 : Edu} {r : Int} (h : typing_end.f a0 = some r) : Pt Tryz.prog 32 [agg (Edu.enc a0)] (vI r) := by
 unfold typing_end.f at h
 refine (Tr.body Tryz.func32 (c := _) rfl Tryz.ntmps32 (Nat.le_of_ble_eq_true rfl) fun R0 F => ?_).pt
 replace h := Gets.of h
 have H := h
 clear h
 refine WP.seq <| rg 2 1 <| Dv.box rfl trivial rfl cA nofun fun b463 => as0 rfl rfl <| .fin <| WP.seq <| rg 6 0 <| fb rfl trivial rfl fa30_9 <| ld 0 rfl trivial rfl sc3 rfl rfl <| fb rfl trivial rfl fa30_7 <| ld 0 rfl trivial rfl sc3 rfl rfl <| bn0 rfl rfl rfl run_add <| as0 rfl rfl <| .fin ?_
 obtain rfl := Gets.out H
 exact rt i2 rfl () 1 [0] 1 (.cons (res_tmp rfl) .nil)
theorem typing_Table_Put.c {k : Nat} {a0 : TTab} {a1 : Edu} {p0_ : OV} {r : Bool × Int × TTab} (h : typing_Table_Put.f k a0 a1 = some r) : Tr Tryz.prog 9 [eq p0_.1, agg (Edu.enc a1)] [TTab.O p0_ a0] (γ := Unit) (fun _ => True) (fun g => tup [vB r.1, vI r.2.1]) (fun g => [TTab.O p0_ r.2.2]) := by
 unfold typing_Table_Put.f at h
 refine Tr.body Tryz.func9 (c := _) rfl Tryz.ntmps9 (Nat.le_of_ble_eq_true rfl) fun R0 F => ?_
 replace h := Gets.of h
 have H := h
 clear h
 refine WP.seq <| rg 3 1 <| Dv.box rfl trivial rfl cA nofun fun b464 => as0 rfl rfl <| as0 rfl rfl <| .fin <| WP.seq <| WP.seq <| rg 8 0 <| fb rfl trivial rfl fa30_0 <| ld 0 rfl trivial rfl sc3 rfl rfl <| bn0 rfl rfl rfl run_ne <| mv0 rfl rfl ?_
 cases c465 : (a1.fKind != 2)
 rotate_left
 ·
  replace H := Gets.ct H c465
  refine sk rfl rfl <| sk rfl rfl <| sk rfl rfl <| pt0 rfl rfl rfl <| .fin <| WP.cond rfl (fun _ => ?_) nofun
  refine WP.seq <| rg 2 0 <| as0 rfl rfl <| as0 rfl rfl <| .fin ?_
  obtain rfl := Gets.out H
  exact rt i2 rfl () 2 [0,1] 1 (.cons (res_tmp rfl) (.cons (res_tmp rfl) .nil))
 replace H := Gets.cf H c465
 refine lds 0 rfl (gg rfl) rfl sg30 rfl rfl <| el H fun t467 h468 H => Dv.call rfl (gg rfl) cal26 rfl (edu_May.c h468) <| ung rfl rfl rfl (run_not _) <| pf0 rfl rfl rfl <| .fin <| cd H rfl (fun _ H => ?_) (fun _ H => ?_)
 ·
  refine WP.seq <| rg 2 0 <| as0 rfl rfl <| as0 rfl rfl <| .fin ?_
  obtain rfl := Gets.out H
  exact rt i2 rfl () 2 [0,1] 1 (.cons (res_tmp rfl) (.cons (res_tmp rfl) .nil))
 refine WP.skip <| WP.seq <| rg 8 0 <| mv0 rfl rfl <| lds 0 rfl trivial rfl sg30 rfl rfl <| vg (TTab.opn 1 rfl) fun g470 h471 => ?_
 refine el H fun t472 h473 H => cll 4 [0,1,2,3] cal27 (Tr.weak (typing_Table_place.c h473 (b0_ := g470.1) (v0_0 := g470.2.1) (v0_1 := g470.2.2)) (.cons (wk_ptr h471) (.cons wk_id .nil))) ?_
 refine mv0 rfl rfl <| ex0 rfl trivial rfl rfl <| ex0 rfl trivial rfl rfl <| as0 rfl rfl <| as0 rfl rfl <| .fin <| WP.seqr H id (fun p474 : Bool × Bool × Bool × TTab => [(0, eq p0_.1), (1, agg (Edu.enc a1)), (3, eq (.pointer (some ⟨b464, 0, none⟩))), (4, vB false), (5, vI 0), (6, vI t472.1), (7, vB p474.1), (16, vB (!t467)), (34, vB p474.2.1), (59, vB p474.2.2.1)]) (fun p474 : Bool × Bool × Bool × TTab => [blk b464 30 (Edu.enc a1), TTab.O p0_ p474.2.2.2] ++ F) (fun p474 H => ?_) (fun H => ?_)
 ·
  refine WP.seq <| rg 7 0 <| fb rfl trivial rfl fa30_1 <| ld 0 rfl trivial rfl sc9 rfl rfl <| gr H fun g475 H => bn0 rfl rfl rfl (run_cat g475) <| fb rfl trivial rfl fa30_2 <| ld 0 rfl trivial rfl sc9 rfl rfl <| gr H fun g476 H => bn0 rfl rfl rfl (run_cat g476) <| as0 rfl rfl <| .fin <| WP.seq <| rg 6 32 <| mv0 rfl rfl <| Dv.nilA TTab.nn rfl trivial rfl (mem_at 1 rfl) <| vg (TTab.opn 1 rfl) fun g477 h478 => ?_
  refine fp h478 rfl trivial rfl fa56_1 <| ld 0 rfl trivial rfl sc53 rfl rfl <| mv0 rfl rfl <| el H fun t479 h480 H => cx 4 [2,0,1,3] cal30 (heap_Heap_Drop.c h480 (p0_ := g477.2.2)) nofun fun _ _ => ?_
  refine .fin <| WP.seq <| WP.seq <| rg 2 0 <| fb rfl trivial rfl fa30_6 <| ld 3 rfl trivial rfl sc4 rfl rfl <| .fin <| cd H rfl (fun _ H => ?_) (fun _ H => ?_)
  rotate_left
  ·
   refine WP.skip <| WP.seq <| rg 2 0 <| as0 rfl rfl <| as0 rfl rfl <| .fin <| wg (TTab.shut (p := p0_) (m := (⟨p474.2.2.2.fl, t479.2⟩ : TTab)) (g477.1, g477.2.1, g477.2.2) h478 (pm 4 [1,2,0,3])) fun _ _ => ?_
   obtain rfl := Gets.out H
   exact rt i2 rfl () 2 [1,0] 1 (.cons (res_tmp rfl) (.cons (res_tmp rfl) .nil))
  refine dg Tryz.checked.mixed 8 128 <| mv0 rfl rfl <| Dv.nilpp h478 rfl trivial rfl <| fp h478 rfl trivial rfl fa56_1 <| ld 1 rfl trivial rfl sc53 rfl rfl <| lds 3 rfl trivial rfl sg30 rfl rfl <| el H fun t482 h483 H => cl rfl cal32 rfl (typing_end.c h483) <| mv0 rfl rfl <| el H fun t484 h485 H => cx 4 [0,1,2,3] cal31 (heap_Heap_Put.c h485 (p0_ := g477.2.2)) pC fun _ _ => ?_
  refine .fin <| WP.seq <| rg 2 0 <| as0 rfl rfl <| as0 rfl rfl <| .fin <| wg (TTab.shut (p := p0_) (m := (⟨p474.2.2.2.fl, t484⟩ : TTab)) (g477.1, g477.2.1, g477.2.2) h478 (pm 4 [1,2,0,3])) fun _ _ => ?_
  obtain rfl := Gets.out H
  exact rt i2 rfl () 2 [1,0] 1 (.cons (res_tmp rfl) (.cons (res_tmp rfl) .nil))
 refine WP.block <| WP.seq <| dg Tryz.checked.mixed 25 0 <| mv0 rfl rfl <| mv0 rfl rfl ?_
 cases c486 : t472.2
 ·
  replace H := Gets.cf H c486
  refine sk rfl rfl <| sk rfl rfl <| sk rfl rfl <| sk rfl rfl <| sk rfl rfl <| sk rfl rfl <| sk rfl rfl <| sk rfl rfl <| sk rfl rfl <| sk rfl rfl <| sku rfl rfl <| sku rfl rfl <| sku rfl rfl <| sku rfl rfl <| sku rfl rfl <| sku rfl rfl <| sku rfl rfl <| sku rfl rfl <| sku rfl rfl <| sku rfl rfl <| sk rfl rfl <| pf0 rfl rfl rfl <| as0 rfl rfl <| .fin <| WP.cond rfl nofun (fun _ => ?_)
  refine WP.seq <| rg 2 0 <| mv0 rfl rfl <| as0 rfl rfl <| .fin <| WP.cond rfl nofun (fun _ => ?_)
  refine dg Tryz.checked.mixed 12 2304 <| mv0 rfl rfl <| mv0 rfl rfl <| Dv.nilpp h471 rfl trivial rfl <| fp h471 rfl trivial rfl fa56_0 <| ld 0 rfl trivial rfl sc22 rfl rfl <| mv0 rfl rfl <| lds 3 rfl trivial rfl sg30 rfl rfl <| Dv.lit Edu.K ([a1] : List Edu) (css := [Edu.enc a1]) rfl trivial Tryz.underlying22 Tryz.underlying30 c30 z30 rfl (by decide) (by decide) rfl ⟨(cells_agg (Edu.K.one _)), trivial⟩ rfl rfl rfl <| el H fun t501 h502 H => Dv.callx (pre := [own Edu.K g470.2.1.1 a0.fl]) (F := [blk g470.1 56 [eq g470.2.1.1, eq g470.2.2.1], HHeap.O g470.2.2 a0.fends, blk b464 30 (Edu.enc a1)] ++ F) (fun g503 : OV => [own Edu.K g503.1 t501, blk g470.1 56 [eq g470.2.1.1, eq g470.2.2.1], HHeap.O g470.2.2 a0.fends, blk b464 30 (Edu.enc a1)] ++ F) rfl trivial cal29 rfl (slices_Insert_Edu.c h502 (p0_ := g470.2.1)) (perm_to (L := [blk g470.1 56 [eq g470.2.1.1, eq g470.2.2.1], own Edu.K g470.2.1.1 a0.fl, HHeap.O g470.2.2 a0.fends, blk b464 30 (Edu.enc a1)]) (F := F) [1, 0, 2, 3] rfl rfl rfl) rfl (fun _ => pendc (pend_by (by kernel_rfl) (pend_by (by kernel_rfl) (pend_by (by kernel_rfl) (pend_by (by kernel_rfl) (pend_by (by kernel_rfl) (pend_by (by kernel_rfl) (pend_by (by kernel_rfl) (pend_in (fun _ => trivial) pend_nil))))))))) (fun g503 _ => ?_)
  refine Dv.nilpp h471 rfl trivial rfl <| fp h471 rfl trivial rfl fa56_0 <| sx 1 rfl trivial rfl rfl (cells_one one_ov) sz22 rfl rfl rfl pB ?_
  refine .fin ?_
  replace H := Gets.out H
  refine ng (TTab.shut (p := p0_) (m := (⟨t501, a0.fends⟩ : TTab)) (g470.1, g503, g470.2.2) h471 (pm 4 [1,0,2,3])) fun _ _ => ?_
  refine ng (sg 2 [1,0] 0) fun _ _ => ?_
  exact jn (false, false, false, (⟨t501, a0.fends⟩ : TTab)) H
 replace H := Gets.ct H c486
 refine mvg rfl rfl rfl <| Dv.nilpp h471 rfl (gg rfl) rfl <| fp h471 rfl (gg rfl) rfl fa56_0 <| ld 0 rfl (gg rfl) rfl sc22 rfl rfl <| mvg rfl rfl rfl <| gr H fun g487 H => ?_
 have h488 : t472.1.toNat < a0.fl.length := idx_lt g487
 refine Dv.ixw rfl (gg rfl) rfl (mem_at 1 rfl) rfl Tryz.underlying22 Tryz.underlying30 c30 g487.1 g487.2 <| Dv.ldws (j := t472.1.toNat) (f := 0) rfl (gg rfl) rfl (mem_at 1 rfl) h488 Tryz.underlying30 rfl c30 (Nat.le_of_ble_eq_true rfl) <| lds 3 rfl (gg rfl) rfl sg30 rfl rfl <| Dv.eqs [.int .i64 ((a0.fl.getD t472.1.toNat default).fKind), .string ((a0.fl.getD t472.1.toNat default).fRoom), .string ((a0.fl.getD t472.1.toNat default).fUser), .string ((a0.fl.getD t472.1.toNat default).fEvent), .string ((a0.fl.getD t472.1.toNat default).fThread), .bool ((a0.fl.getD t472.1.toNat default).fPrivate), .bool ((a0.fl.getD t472.1.toNat default).fOn), .int .i64 ((a0.fl.getD t472.1.toNat default).fSpan), .int .i64 ((a0.fl.getD t472.1.toNat default).fState), .int .i64 ((a0.fl.getD t472.1.toNat default).fTick), .int .i64 ((a0.fl.getD t472.1.toNat default).fStamp)] [.int .i64 a1.fKind, .string a1.fRoom, .string a1.fUser, .string a1.fEvent, .string a1.fThread, .bool a1.fPrivate, .bool a1.fOn, .int .i64 a1.fSpan, .int .i64 a1.fState, .int .i64 a1.fTick, .int .i64 a1.fStamp] rfl (gg rfl) rfl rfl rfl rfl eg30 (fun _ => equal_of 2 (by decide) (fun _ => eqt30 (a0.fl.getD t472.1.toNat default) a1)) <| mvg rfl rfl rfl ?_
 cases c489 : decide (a0.fl.getD t472.1.toNat default = a1)
 rotate_left
 ·
  replace H := Gets.ct H c489
  refine sk rfl rfl <| sk rfl rfl <| sk rfl rfl <| sk rfl rfl <| sk rfl rfl <| sk rfl rfl <| sk rfl rfl <| sk rfl rfl <| sk rfl rfl <| sk rfl rfl <| ptg rfl rfl rfl rfl <| pt0 rfl rfl rfl <| as0 rfl rfl <| .fin <| WP.cond rfl (fun _ => ?_) nofun
  refine WP.seq <| rg 2 0 <| as0 rfl rfl <| as0 rfl rfl <| .fin <| wg (TTab.shut (p := p0_) (m := a0) (g470.1, g470.2.1, g470.2.2) h471 (pm 4 [0,1,2,3])) fun _ _ => ?_
  replace H := Gets.outr H
  obtain rfl := Gets.out H
  exact rt i2 rfl () 2 [1,0] 1 (.cons (res_tmp rfl) (.cons (res_tmp rfl) .nil))
 replace H := Gets.cf H c489
 refine lds 3 rfl (gg rfl) rfl sg30 rfl rfl <| mvg rfl rfl rfl <| Dv.nilpp h471 rfl (gg rfl) rfl <| fp h471 rfl (gg rfl) rfl fa56_0 <| ld 0 rfl (gg rfl) rfl sc22 rfl rfl <| mvg rfl rfl rfl <| gr H fun g491 H => ?_
 have h492 : t472.1.toNat < a0.fl.length := idx_lt g491
 refine Dv.ixw rfl (gg rfl) rfl (mem_at 1 rfl) rfl Tryz.underlying22 Tryz.underlying30 c30 g491.1 g491.2 <| Dv.ldws (j := t472.1.toNat) (f := 0) rfl (gg rfl) rfl (mem_at 1 rfl) h492 Tryz.underlying30 rfl c30 (Nat.le_of_ble_eq_true rfl) <| el H fun t493 h494 H => Dv.call rfl (gg rfl) cal28 rfl (edu_Later.c h494) <| ung rfl rfl rfl (run_not _) <| pfg rfl rfl rfl rfl <| pt0 rfl rfl rfl <| as0 rfl rfl <| .fin <| cd H rfl (fun _ H => ?_) (fun _ H => ?_)
 ·
  refine WP.seq <| rg 2 0 <| as0 rfl rfl <| as0 rfl rfl <| .fin <| wg (TTab.shut (p := p0_) (m := a0) (g470.1, g470.2.1, g470.2.2) h471 (pm 4 [0,1,2,3])) fun _ _ => ?_
  replace H := Gets.outr H
  obtain rfl := Gets.out H
  exact rt i2 rfl () 2 [1,0] 1 (.cons (res_tmp rfl) (.cons (res_tmp rfl) .nil))
 refine WP.seq <| rg 2 0 <| mv0 rfl rfl <| as0 rfl rfl <| .fin <| WP.cond rfl (fun _ => ?_) nofun
 refine dg Tryz.checked.mixed 8 128 <| mv0 rfl rfl <| Dv.nilpp h471 rfl trivial rfl <| fp h471 rfl trivial rfl fa56_0 <| ld 0 rfl trivial rfl sc22 rfl rfl <| mv0 rfl rfl <| lds 3 rfl trivial rfl sg30 rfl rfl <| gr H fun g497 H => ?_
 have h498 : t472.1.toNat < a0.fl.length := idx_lt g497
 refine Dv.ixw rfl trivial rfl (mem_at 1 rfl) rfl Tryz.underlying22 Tryz.underlying30 c30 g497.1 g497.2 <| Dv.stw (j := t472.1.toNat) (f := 0) (jj := 1) a1 rfl trivial rfl rfl (cells_agg (Edu.K.one _)) Tryz.underlying30 c30 rfl rfl h498 (Nat.le_of_ble_eq_true rfl) rfl (fun _ => pend_bits (by kernel_rfl)) <| .fin ?_
 replace H := Gets.out H
 refine ng (TTab.shut (p := p0_) (m := (⟨a0.fl.set t472.1.toNat a1, a0.fends⟩ : TTab)) (g470.1, g470.2.1, g470.2.2) h471 (pm 4 [0,1,2,3])) fun _ _ => ?_
 refine ng (sg 2 [1,0] 0) fun _ _ => ?_
 exact jn (true, !t493, true, (⟨a0.fl.set t472.1.toNat a1, a0.fends⟩ : TTab)) H
theorem heap_Heap_Due.c {k : Nat} {a0 : HHeap} {a1 : Int} {p0_ : OV} {r : (List ByteArray) × HHeap} (h : heap_Heap_Due.f k a0 a1 = some r) : Tr Tryz.prog 34 [eq p0_.1, vI a1] [HHeap.O p0_ a0] (γ := OV) (fun _ => True) (fun g => eq g.1) (fun g => [HHeap.O p0_ r.2, own strK g.1 r.1]) := by
 unfold heap_Heap_Due.f at h
 refine Tr.body Tryz.func34 (c := _) rfl Tryz.ntmps34 (Nat.le_of_ble_eq_true rfl) fun R0 F => ?_
 replace h := Gets.of h
 have H := h
 clear h
 refine WP.seq <| rg 1 0 <| as0 rfl rfl <| .fin <| WP.seq <| rg 1 0 <| as0 rfl rfl <| .fin <| WP.seqn H (fun q526 : (Bool × HHeap × (List ByteArray)) × OV => q526.1) (fun q526 : (Bool × HHeap × (List ByteArray)) × OV => [(0, eq p0_.1), (1, vI a1), (4, eq (.slice none 0 0)), (5, eq q526.2.1), (22, vB q526.1.1)]) (fun q526 : (Bool × HHeap × (List ByteArray)) × OV => [HHeap.O p0_ q526.1.2.1, own strK q526.2.1 q526.1.2.2] ++ F) (fun q526 H => ?_) (fun H => ?_)
 ·
  obtain ⟨p504, v505⟩ := q526
  refine WP.seq <| rg 2 0 <| mv0 rfl rfl <| as0 rfl rfl <| .fin ?_
  obtain rfl := Gets.out H
  exact rt i2 rfl v505 2 [0,1] 0 (.cons (res_tmp rfl) .nil)
 refine WP.block <| wg (st_nil strK none) fun _ _ => ?_
 refine wg (sg 2 [1,0] 0) fun _ _ => ?_
 refine lp (fun j_ (p525 : HHeap × (List ByteArray) × OV) => heap_Heap_Due.l0 k a1 j_ p525.1 p525.2.1) (a0, ([] : List ByteArray), nilV) H (fun p525 => [(0, eq p0_.1), (1, vI a1), (4, eq (.slice none 0 0)), (5, eq p525.2.2.1)]) (fun p525 => [HHeap.O p0_ p525.1, own strK p525.2.2.1 p525.2.1] ++ F) ?_
 rintro j_ ⟨x506, x507, v508⟩ H
 rcases j_ with _ | j524
 ·
  exact (Gets.no H).elim
 replace H : Gets (heap_Heap_Due.l0 k a1 (j524 + 1) x506 x507) _ := H
 rw [heap_Heap_Due.l0] at H
 refine WP.seq <| WP.seq <| rg 17 0 <| mv0 rfl rfl <| Dv.nilA HHeap.nn rfl trivial rfl (mem_at 0 rfl) <| vg (HHeap.opn 0 rfl) fun g509 h510 => ?_
 refine fp h510 rfl trivial rfl fa80_0 <| ld 0 rfl trivial rfl sc78 rfl rfl <| Dv.lenw rfl trivial rfl (mem_at 1 rfl) Tryz.underlying78 <| bn0 rfl rfl rfl run_gt <| mv0 rfl rfl ?_
 cases c511 : decide (0 < (x506.fl.length : Int))
 ·
  replace H := Gets.cf H c511
  refine sk rfl rfl <| sk rfl rfl <| sk rfl rfl <| sk rfl rfl <| sk rfl rfl <| sk rfl rfl <| sk rfl rfl <| sk rfl rfl <| sk rfl rfl <| pf0 rfl rfl rfl <| .fin <| WP.cond rfl nofun (fun _ => ?_)
  refine WP.exit ?_
  replace H := Gets.out H
  refine ng (HHeap.shut (p := p0_) (m := x506) (g509.1, g509.2.1, g509.2.2) h510 (pm 4 [0,1,2,3])) fun _ _ => ?_
  exact jn ((false, x506, x507), v508) H
 replace H := Gets.ct H c511
 refine mvg rfl rfl rfl <| Dv.nilpp h510 rfl (gg rfl) rfl <| fp h510 rfl (gg rfl) rfl fa80_0 <| ld 0 rfl (gg rfl) rfl sc78 rfl rfl <| gr H fun g512 H => ?_
 have h513 : (0 : Int).toNat < x506.fl.length := idx_lt g512
 refine Dv.ixw rfl (gg rfl) rfl (mem_at 1 rfl) rfl Tryz.underlying78 Tryz.underlying72 c72 g512.1 g512.2 <| fw rfl (gg rfl) rfl fa72_0 <| Dv.ldw (j := ((0 : Int).toNat)) (f := 0) (p := vI ((x506.fl.getD ((0 : Int).toNat) default).fAt)) rfl (gg rfl) rfl (mem_at 1 rfl) h513 Tryz.underlying3 rfl rfl <| mvg rfl rfl rfl <| bng rfl rfl rfl rfl run_le <| pt0 rfl rfl rfl <| .fin <| cd H rfl (fun _ H => ?_) (fun _ H => ?_)
 rotate_left
 ·
  refine WP.exit ?_
  replace H := Gets.out H
  refine ng (HHeap.shut (p := p0_) (m := x506) (g509.1, g509.2.1, g509.2.2) h510 (pm 4 [0,1,2,3])) fun _ _ => ?_
  exact jn ((decide (((x506.fl.getD ((0 : Int).toNat) default).fAt) ≤ a1), x506, x507), v508) H
 refine WP.skip <| WP.block <| WP.seq <| rg 11 512 <| mv0 rfl rfl <| mv0 rfl rfl <| Dv.nilpp h510 rfl trivial rfl <| fp h510 rfl trivial rfl fa80_0 <| ld 0 rfl trivial rfl sc78 rfl rfl <| gr H fun g515 H => ?_
 have h516 : (0 : Int).toNat < x506.fl.length := idx_lt g515
 refine Dv.ixw rfl trivial rfl (mem_at 1 rfl) rfl Tryz.underlying78 Tryz.underlying72 c72 g515.1 g515.2 <| fw rfl trivial rfl fa72_1 <| Dv.ldw (j := ((0 : Int).toNat)) (f := 1) (p := vS ((x506.fl.getD ((0 : Int).toNat) default).fKey)) rfl trivial rfl (mem_at 1 rfl) h516 Tryz.underlying9 rfl rfl <| Dv.lit strK ([(x506.fl.getD ((0 : Int).toNat) default).fKey] : List ByteArray) (css := [[vS ((x506.fl.getD ((0 : Int).toNat) default).fKey)]]) rfl trivial Tryz.underlying37 Tryz.underlying9 c9 z9 rfl (by decide) (by decide) rfl ⟨(cells_one (one_eq rfl)), trivial⟩ rfl rfl rfl <| gr H fun g517 H => ap strK 3 ([(x506.fl.getD ((0 : Int).toNat) default).fKey] : List ByteArray) src_sl Tryz.underlying37 (.inr ⟨_, Tryz.underlying37⟩) inf9 g517 nofun fun v518 => ?_
 refine as0 rfl rfl <| .fin <| rg 9 256 <| mv0 rfl rfl <| mv0 rfl rfl <| Dv.nilpp h510 rfl trivial rfl <| fp h510 rfl trivial rfl fa80_0 <| ld 0 rfl trivial rfl sc78 rfl rfl <| gr H fun g519 H => ?_
 have h520 : (0 : Int).toNat < x506.fl.length := idx_lt g519
 refine Dv.ixw rfl trivial rfl (mem_at 1 rfl) rfl Tryz.underlying78 Tryz.underlying72 c72 g519.1 g519.2 <| fw rfl trivial rfl fa72_1 <| Dv.ldw (j := ((0 : Int).toNat)) (f := 1) (p := vS ((x506.fl.getD ((0 : Int).toNat) default).fKey)) rfl trivial rfl (mem_at 1 rfl) h520 Tryz.underlying9 rfl rfl <| vg (HHeap.shut (p := p0_) (m := x506) (g509.1, g509.2.1, g509.2.2) h510 (pm 4 [0,1,2,3])) fun _ _ => ?_
 refine el H fun t521 h522 H => cx 2 [0,1] cal30 (heap_Heap_Drop.c h522 (p0_ := p0_)) nofun fun _ _ => ?_
 exact .fin <| bk j524 (t521.2, x507 ++ ([(x506.fl.getD ((0 : Int).toNat) default).fKey] : List ByteArray), v518) H
theorem slices_Sort_string.c {a0 : List ByteArray} {p0_ : OV} {r : List ByteArray} (h : slices_Sort_string.f a0 = some r) : Tr Tryz.prog 36 [eq p0_.1] [own strK p0_.1 a0] (γ := Unit) (fun _ => True) (fun g => tup []) (fun g => [own strK p0_.1 r]) := by
 unfold slices_Sort_string.f at h
 obtain ⟨h0, h5⟩ := (Gets.of h).grd
 obtain rfl := Gets.out h5
 exact sort_tr (fun blk off cap ss w => Go.Proofs.Any.slices_Sort_string Tryz.lays190 blk off cap ss w) (fun q cap w => Go.Proofs.Any.slices_Sort_string_none Tryz.lays190 q cap w) h0

theorem slices_Compact_string.c {a0 : List ByteArray} {p0_ : OV} {r : List ByteArray} (h : slices_Compact_string.f a0 = some r) : Tr Tryz.prog 37 [eq p0_.1] [own strK p0_.1 a0] (γ := OV) (fun _ => True) (fun g => eq g.1) (fun g => [own strK g.1 r]) := by
 unfold slices_Compact_string.f at h
 obtain ⟨h0, h5⟩ := (Gets.of h).grd
 obtain rfl := Gets.out h5
 exact compact_tr (fun blk off cap ss w => Go.Proofs.Any.slices_Compact_string Tryz.lays194 blk off cap ss w) (fun q cap w => Go.Proofs.Any.slices_Compact_string_empty Tryz.lays194 q cap w) h0

theorem typing_Table_Ended.c {k : Nat} {a0 : TTab} {a1 : Int} {p0_ : OV} {r : (List ByteArray) × TTab} (h : typing_Table_Ended.f k a0 a1 = some r) : Tr Tryz.prog 12 [eq p0_.1, vI a1] [TTab.O p0_ a0] (γ := OV) (fun _ => True) (fun g => eq g.1) (fun g => [TTab.O p0_ r.2, own strK g.1 r.1]) := by
 unfold typing_Table_Ended.f at h
 refine Tr.body Tryz.func12 (c := _) rfl Tryz.ntmps12 (Nat.le_of_ble_eq_true rfl) fun R0 F => ?_
 replace h := Gets.of h
 have H := h
 clear h
 refine WP.seq <| rg 1 0 <| as0 rfl rfl <| .fin <| WP.seq <| rg 1 0 <| as0 rfl rfl <| .fin <| WP.seqn H (fun q552 : (Int × Int × Bool × TTab × (List ByteArray) × (List ByteArray)) × OV × OV => q552.1) (fun q552 : (Int × Int × Bool × TTab × (List ByteArray) × (List ByteArray)) × OV × OV => [(0, eq p0_.1), (1, vI a1), (4, eq (.slice none 0 0)), (5, eq q552.2.1.1), (16, eq q552.2.2.1), (17, vI q552.1.1), (18, vI q552.1.2.1), (19, vB q552.1.2.2.1)]) (fun q552 : (Int × Int × Bool × TTab × (List ByteArray) × (List ByteArray)) × OV × OV => [TTab.O p0_ q552.1.2.2.2.1, own strK q552.2.1.1 q552.1.2.2.2.2.1, own strK q552.2.2.1 q552.1.2.2.2.2.2] ++ F) (fun q552 H => ?_) (fun H => ?_)
 ·
  obtain ⟨p527, v528, v529⟩ := q552
  refine WP.seq <| rg 2 2 <| mv0 rfl rfl <| el H fun t530 h531 H => cx 3 [1,0,2] cal36 (slices_Sort_string.c h531 (p0_ := v528)) nofun fun _ _ => ?_
  refine .fin <| WP.seq <| rg 3 2 <| mv0 rfl rfl <| el H fun t532 h533 H => cx 3 [0,1,2] cal37 (slices_Compact_string.c h533 (p0_ := v528)) nofun fun g534 _ => ?_
  refine as0 rfl rfl <| .fin ?_
  obtain rfl := Gets.out H
  exact rt i2 rfl g534 3 [2,1,0] 1 (.cons (res_tmp rfl) .nil)
 refine WP.seq <| rg 8 32 <| mv0 rfl rfl <| Dv.nilA TTab.nn rfl trivial rfl (mem_at 0 rfl) <| vg (TTab.opn 0 rfl) fun g535 h536 => ?_
 refine fp h536 rfl trivial rfl fa56_1 <| ld 0 rfl trivial rfl sc53 rfl rfl <| mv0 rfl rfl <| el H fun t537 h538 H => cx 3 [2,0,1] cal34 (heap_Heap_Due.c h538 (p0_ := g535.2.2)) nofun fun g539 _ => ?_
 refine Dv.lenw rfl trivial rfl (mem_at 1 rfl) Tryz.underlying37 <| mv0 rfl rfl <| .fin <| WP.block <| wg (TTab.shut (p := p0_) (m := (⟨a0.fl, t537.2⟩ : TTab)) (g535.1, g535.2.1, g535.2.2) h536 (pm 4 [2,3,0,1])) fun _ _ => ?_
 refine wg (st_nil strK none) fun _ _ => ?_
 refine wg (sg 3 [1,2,0] 0) fun _ _ => ?_
 refine lp (fun j_ (p551 : Int × (List ByteArray) × OV) => typing_Table_Ended.l0 k a0 t537 j_ p551.1 p551.2.1) (0, ([] : List ByteArray), nilV) H (fun p551 => [(0, eq p0_.1), (1, vI a1), (4, eq (.slice none 0 0)), (5, eq p551.2.2.1), (16, eq g539.1), (17, vI (t537.1.length : Int)), (18, vI p551.1)]) (fun p551 => [TTab.O p0_ (⟨a0.fl, t537.2⟩ : TTab), own strK g539.1 t537.1, own strK p551.2.2.1 p551.2.1] ++ F) ?_
 rintro j_ ⟨x540, x541, v542⟩ H
 rcases j_ with _ | j550
 ·
  exact (Gets.no H).elim
 replace H : Gets (typing_Table_Ended.l0 k a0 t537 (j550 + 1) x540 x541) _ := H
 rw [typing_Table_Ended.l0] at H
 refine WP.seq <| rg 1 0 <| bn0 rfl rfl rfl run_lt <| .fin <| WP.seq <| cd H rfl (fun _ H => ?_) (fun _ H => ?_)
 rotate_left
 ·
  refine WP.exit ?_
  replace H := Gets.out H
  refine ng (sg 3 [0,2,1] 0) fun _ _ => ?_
  exact jn (((t537.1.length : Int), x540, decide (x540 < (t537.1.length : Int)), (⟨a0.fl, t537.2⟩ : TTab), x541, t537.1), v542, g539) H
 refine WP.skip <| WP.seq <| WP.block <| WP.seq <| rg 3 0 <| gr H fun g544 H => ?_
 have h545 : x540.toNat < t537.1.length := idx_lt g544
 refine Dv.ixw rfl trivial rfl (mem_at 1 rfl) rfl Tryz.underlying37 Tryz.underlying9 c9 g544.1 g544.2 <| Dv.ldw (j := x540.toNat) (f := 0) (p := vS (t537.1.getD x540.toNat default)) rfl trivial rfl (mem_at 1 rfl) h545 Tryz.underlying9 rfl rfl <| as0 rfl rfl <| .fin <| WP.seq <| rg 9 0 <| mv0 rfl rfl <| el H fun t546 h547 H => cl rfl cal35 rfl (strings_Cut.c h547) <| mv0 rfl rfl <| ex0 rfl trivial rfl rfl <| ex0 rfl trivial rfl rfl <| ex0 rfl trivial rfl rfl <| as0 rfl rfl <| as0 rfl rfl <| as0 rfl rfl <| .fin <| rg 5 8 <| mv0 rfl rfl <| mv0 rfl rfl <| Dv.lit strK ([t546.1] : List ByteArray) (css := [[vS t546.1]]) rfl trivial Tryz.underlying37 Tryz.underlying9 c9 z9 rfl (by decide) (by decide) rfl ⟨(cells_one (one_eq rfl)), trivial⟩ rfl rfl rfl <| gr H fun g548 H => ap strK 2 ([t546.1] : List ByteArray) src_sl Tryz.underlying37 (.inr ⟨_, Tryz.underlying37⟩) inf9 g548 nofun fun v549 => ?_
 exact as0 rfl rfl <| .fin <| rg 2 0 <| bn0 rfl rfl rfl run_add <| mv0 rfl rfl <| .fin <| bk j550 (w64 (x540 + 1), x541 ++ ([t546.1] : List ByteArray), v549) H
theorem heap_Heap_First.c {a0 : HHeap} {p0_ : OV} {r : HEnt × Bool} (h : heap_Heap_First.f a0 = some r) : Tr Tryz.prog 38 [eq p0_.1] [HHeap.O p0_ a0] (γ := Unit) (fun _ => True) (fun g => tup [agg (HEnt.enc r.1), vB r.2]) (fun g => [HHeap.O p0_ a0]) := by
 unfold heap_Heap_First.f at h
 refine Tr.body Tryz.func38 (c := _) rfl Tryz.ntmps38 (Nat.le_of_ble_eq_true rfl) fun R0 F => ?_
 replace h := Gets.of h
 have H := h
 clear h
 refine WP.seq <| rg 2 1 <| al rfl trivial zc72 nofun fun b553 => as0 rfl rfl <| .fin <| WP.seq <| WP.seq <| rg 6 0 <| mv0 rfl rfl <| Dv.nilA HHeap.nn rfl trivial rfl (mem_at 1 rfl) <| vg (HHeap.opn 1 rfl) fun g554 h555 => ?_
 refine fp h555 rfl trivial rfl fa80_0 <| ld 0 rfl trivial rfl sc78 rfl rfl <| Dv.lenw rfl trivial rfl (mem_at 1 rfl) Tryz.underlying78 <| bn0 rfl rfl rfl run_eq <| .fin <| cd H rfl (fun _ H => ?_) (fun _ H => ?_)
 ·
  refine WP.seq <| rg 3 2 <| Dv.bld (css := []) rfl trivial Tryz.underlying72 pl72 z72 rfl trivial rfl rfl <| sx 3 rfl trivial rfl rfl cA sz72 rfl rfl rfl nofun ?_
  refine as0 rfl rfl <| .fin <| wg (HHeap.shut (p := p0_) (m := a0) (g554.1, g554.2.1, g554.2.2) h555 (pm 4 [0,1,2,3])) fun _ _ => ?_
  obtain rfl := Gets.out H
  exact rt i2 rfl () 2 [1,0] 1 (.cons (res_cells rfl Tryz.underlying72 rfl c72 (mem_at 1 rfl) rfl) (.cons (res_tmp rfl) .nil))
 refine WP.skip <| WP.seq <| rg 8 64 <| mv0 rfl rfl <| Dv.nilpp h555 rfl trivial rfl <| fp h555 rfl trivial rfl fa80_0 <| ld 0 rfl trivial rfl sc78 rfl rfl <| gr H fun g557 H => ?_
 have h558 : (0 : Int).toNat < a0.fl.length := idx_lt g557
 refine Dv.ixw rfl trivial rfl (mem_at 1 rfl) rfl Tryz.underlying78 Tryz.underlying72 c72 g557.1 g557.2 <| Dv.ldws (j := ((0 : Int).toNat)) (f := 0) rfl trivial rfl (mem_at 1 rfl) h558 Tryz.underlying72 rfl c72 (Nat.le_of_ble_eq_true rfl) <| sx 3 rfl trivial rfl rfl cA sz72 rfl rfl rfl nofun ?_
 refine as0 rfl rfl <| .fin <| wg (HHeap.shut (p := p0_) (m := a0) (g554.1, g554.2.1, g554.2.2) h555 (pm 4 [0,1,2,3])) fun _ _ => ?_
 obtain rfl := Gets.out H
 exact rt i2 rfl () 2 [1,0] 1 (.cons (res_cells rfl Tryz.underlying72 rfl c72 (mem_at 1 rfl) rfl) (.cons (res_tmp rfl) .nil))
theorem typing_Table_Next.c {a0 : TTab} {p0_ : OV} {r : Int × Bool} (h : typing_Table_Next.f a0 = some r) : Tr Tryz.prog 13 [eq p0_.1] [TTab.O p0_ a0] (γ := Unit) (fun _ => True) (fun g => tup [vI r.1, vB r.2]) (fun g => [TTab.O p0_ a0]) := by
 unfold typing_Table_Next.f at h
 refine Tr.body Tryz.func13 (c := _) rfl Tryz.ntmps13 (Nat.le_of_ble_eq_true rfl) fun R0 F => ?_
 replace h := Gets.of h
 have H := h
 clear h
 refine WP.seq <| rg 2 0 <| as0 rfl rfl <| as0 rfl rfl <| .fin <| WP.seq <| rg 11 784 <| mv0 rfl rfl <| Dv.nilA TTab.nn rfl trivial rfl (mem_at 0 rfl) <| vg (TTab.opn 0 rfl) fun g559 h560 => ?_
 refine fp h560 rfl trivial rfl fa56_1 <| ld 0 rfl trivial rfl sc53 rfl rfl <| el H fun t561 h562 H => cx 3 [2,0,1] cal38 (heap_Heap_First.c h562 (p0_ := g559.2.2)) nofun fun _ _ => ?_
 refine mv0 rfl rfl <| ex0 rfl trivial rfl rfl <| ex0 rfl trivial rfl rfl <| al rfl trivial zc72 nofun fun b563 => sx 0 rfl trivial rfl rfl cA sz72 rfl rfl rfl nofun ?_
 refine as0 rfl rfl <| .fin <| WP.seq <| rg 5 0 <| fb rfl trivial rfl fa72_0 <| ld 0 rfl trivial rfl sc3 rfl rfl <| mv0 rfl rfl <| as0 rfl rfl <| as0 rfl rfl <| .fin <| wg (TTab.shut (p := p0_) (m := a0) (g559.1, g559.2.1, g559.2.2) h560 (pm 4 [2,3,1,0])) fun _ _ => ?_
 obtain rfl := Gets.out H
 exact rt i2 rfl () 2 [1,0] 1 (.cons (res_tmp rfl) (.cons (res_tmp rfl) .nil))
theorem slices_Clone_Edu.c {a0 : List Edu} {r : List Edu} (h : slices_Clone_Edu.f a0 = some r) : Tr Tryz.prog 39 [sl Edu.K a0] [] (γ := OV) (fun _ => True) (fun g => eq g.1) (fun g => [own Edu.K g.1 r]) := by
 unfold slices_Clone_Edu.f at h
 obtain ⟨h0, h5⟩ := (Gets.of h).grd
 obtain rfl := Gets.out h5
 clear h h5
 refine (Tr.body Tryz.func39 (c := _) rfl Tryz.ntmps39 (Nat.le_of_ble_eq_true rfl) fun R0 F => ?_)
 refine WP.seq <| WP.reg [(0, false)] (by kernel_rfl) <| as0 rfl rfl <| .fin <| WP.seq <| WP.seq <| WP.reg [(0, false), (1, true)] (by kernel_rfl) <| mv0 rfl rfl <| Dv.snil rfl trivial rfl rfl Tryz.underlying22 nofun (fun b hb => ?_)
 refine .fin <| WP.cond rfl (fun c0 => ?_) (fun c0 => ?_)
 ·
  obtain rfl := hb c0
  refine WP.seq <| WP.reg [(0, false)] (by kernel_rfl) <| as0 rfl rfl <| .fin <| wg (st_nil Edu.K none) fun _ _ => ?_
  exact rt i2 rfl nilV 1 [0] 0 (.cons (res_tmp rfl) .nil)
 refine WP.skip <| WP.seq <| WP.reg [(0, true), (1, false), (2, true), (3, false)] (by kernel_rfl) <| Dv.lit0 Edu.K rfl trivial Tryz.underlying22 Tryz.underlying30 c30 z30 nofun (fun v1 => ?_)
 refine mv0 rfl rfl <| Dv.appx (Kd := Edu.K) (xs := []) (v := v1.1) (jj := 0) (ys := a0) (fun v2 : OV => [own Edu.K v2.1 a0] ++ F) rfl trivial rfl rfl rfl src_sl Tryz.underlying22 (.inr ⟨_, Tryz.underlying22⟩) inf30 rfl (by decide) (by simpa using h0) rfl nofun (fun v2 => ?_)
 exact as0 rfl rfl <| .fin <| rt i2 rfl v2 1 [0] 0 (.cons (res_tmp rfl) .nil)
theorem typing_Table_All.c {a0 : TTab} {v0_0 v0_1 : OV} {b0_ : Nat} {r : (List Edu)} (h : typing_Table_All.f a0 = some r) : Tr Tryz.prog 16 [eq (.pointer (some ⟨b0_, 0, none⟩))] [blk b0_ 56 [eq v0_0.1, eq v0_1.1], own Edu.K v0_0.1 a0.fl] (γ := OV) (fun _ => True) (fun g => eq g.1) (fun g => [blk b0_ 56 [eq v0_0.1, eq v0_1.1], own Edu.K v0_0.1 a0.fl, own Edu.K g.1 r]) := by
 unfold typing_Table_All.f at h
 refine Tr.body Tryz.func16 (c := _) rfl Tryz.ntmps16 (Nat.le_of_ble_eq_true rfl) fun R0 F => ?_
 replace h := Gets.of h
 have H := h
 clear h
 refine WP.seq <| rg 1 0 <| as0 rfl rfl <| .fin <| WP.seq <| rg 6 16 <| mv0 rfl rfl <| Dv.nilp rfl trivial rfl <| fb rfl trivial rfl fa56_0 <| ld 0 rfl trivial rfl sc22 rfl rfl <| el H fun t564 h565 H => cx 2 [1,0] cal39 (Tr.lend [own Edu.K v0_0.1 a0.fl] (slices_Clone_Edu.c h565) (.cons (lt_own (mem_at 0 rfl)) .nil) (fun _ => flat_eq) (fun _ => (flatAs_cons (flatA_own (fun _ => (flats_cons flat_eq (flats_cons flat_eq (flats_cons flat_eq (flats_cons flat_eq (flats_cons flat_eq (flats_cons flat_eq (flats_cons flat_eq (flats_cons flat_eq (flats_cons flat_eq (flats_cons flat_eq (flats_cons flat_eq flats_nil))))))))))))) flatAs_nil))) nofun fun g566 _ => ?_
 refine as0 rfl rfl <| .fin ?_
 obtain rfl := Gets.out H
 exact rt i2 rfl g566 3 [2,0,1] 0 (.cons (res_tmp rfl) .nil)
theorem typing_Table_Types.c {k : Nat} {a0 : TTab} {a1 : ByteArray} {a2 : ByteArray} {a3 : Int} {v0_0 v0_1 : OV} {b0_ : Nat} {r : Bool} (h : typing_Table_Types.f k a0 a1 a2 a3 = some r) : Tr Tryz.prog 18 [eq (.pointer (some ⟨b0_, 0, none⟩)), vS a1, vS a2, vI a3] [blk b0_ 56 [eq v0_0.1, eq v0_1.1], own Edu.K v0_0.1 a0.fl] (γ := Unit) (fun _ => True) (fun g => vB r) (fun g => [blk b0_ 56 [eq v0_0.1, eq v0_1.1], own Edu.K v0_0.1 a0.fl]) := by
 unfold typing_Table_Types.f at h
 refine Tr.body Tryz.func18 (c := _) rfl Tryz.ntmps18 (Nat.le_of_ble_eq_true rfl) fun R0 F => ?_
 replace h := Gets.of h
 have H := h
 clear h
 refine WP.seq <| rg 1 0 <| as0 rfl rfl <| .fin <| WP.seq <| rg 10 0 <| mv0 rfl rfl <| mv0 rfl rfl <| mv0 rfl rfl <| Dv.bld (css := [[vS a1], [vS a2]]) rfl trivial Tryz.underlying30 pl30 z30 rfl ⟨(cells_one (one_eq rfl)), ⟨(cells_one (one_eq rfl)), trivial⟩⟩ rfl rfl <| el H fun t567 h568 H => cll 2 [0,1] cal27 (typing_Table_place.c h568 (b0_ := b0_) (v0_0 := v0_0) (v0_1 := v0_1)) ?_
 refine mv0 rfl rfl <| ex0 rfl trivial rfl rfl <| ex0 rfl trivial rfl rfl <| as0 rfl rfl <| as0 rfl rfl <| .fin <| WP.seq <| rg 24 0 <| mv0 rfl rfl <| mv0 rfl rfl ?_
 cases c569 : t567.2
 ·
  replace H := Gets.cf H c569
  refine sk rfl rfl <| sk rfl rfl <| sk rfl rfl <| sk rfl rfl <| sk rfl rfl <| sk rfl rfl <| sk rfl rfl <| sk rfl rfl <| pf0 rfl rfl rfl <| mv0 rfl rfl <| sk rfl rfl <| sk rfl rfl <| sk rfl rfl <| sk rfl rfl <| sk rfl rfl <| sk rfl rfl <| sk rfl rfl <| sk rfl rfl <| sk rfl rfl <| sk rfl rfl <| pf0 rfl rfl rfl <| as0 rfl rfl <| .fin ?_
  obtain rfl := Gets.out H
  exact rt i2 rfl () 2 [0,1] 0 (.cons (res_tmp rfl) .nil)
 replace H := Gets.ct H c569
 refine mvg rfl rfl rfl <| Dv.nilp rfl (gg rfl) rfl <| fb rfl (gg rfl) rfl fa56_0 <| ld 0 rfl (gg rfl) rfl sc22 rfl rfl <| mvg rfl rfl rfl <| gr H fun g570 H => ?_
 have h571 : t567.1.toNat < a0.fl.length := idx_lt g570
 refine Dv.ixw rfl (gg rfl) rfl (mem_at 1 rfl) rfl Tryz.underlying22 Tryz.underlying30 c30 g570.1 g570.2 <| fw rfl (gg rfl) rfl fa30_6 <| Dv.ldw (j := t567.1.toNat) (f := 6) (p := vB ((a0.fl.getD t567.1.toNat default).fOn)) rfl (gg rfl) rfl (mem_at 1 rfl) h571 Tryz.underlying4 rfl rfl <| pt0 rfl rfl rfl <| mv0 rfl rfl ?_
 cases c572 : (a0.fl.getD t567.1.toNat default).fOn
 ·
  replace H := Gets.cf H c572
  refine sk rfl rfl <| sk rfl rfl <| sk rfl rfl <| sk rfl rfl <| sk rfl rfl <| sk rfl rfl <| sk rfl rfl <| sk rfl rfl <| sk rfl rfl <| sk rfl rfl <| pf0 rfl rfl rfl <| as0 rfl rfl <| .fin ?_
  obtain rfl := Gets.out H
  exact rt i2 rfl () 2 [0,1] 0 (.cons (res_tmp rfl) .nil)
 replace H := Gets.ct H c572
 refine mvg rfl rfl rfl <| mvg rfl rfl rfl <| Dv.nilp rfl (gg rfl) rfl <| fb rfl (gg rfl) rfl fa56_0 <| ld 0 rfl (gg rfl) rfl sc22 rfl rfl <| mvg rfl rfl rfl <| gr H fun g573 H => ?_
 have h574 : t567.1.toNat < a0.fl.length := idx_lt g573
 refine Dv.ixw rfl (gg rfl) rfl (mem_at 1 rfl) rfl Tryz.underlying22 Tryz.underlying30 c30 g573.1 g573.2 <| Dv.ldws (j := t567.1.toNat) (f := 0) rfl (gg rfl) rfl (mem_at 1 rfl) h574 Tryz.underlying30 rfl c30 (Nat.le_of_ble_eq_true rfl) <| el H fun t575 h576 H => Dv.call rfl (gg rfl) cal32 rfl (typing_end.c h576) <| bng rfl rfl rfl rfl run_lt <| pt0 rfl rfl rfl <| as0 rfl rfl <| .fin ?_
 obtain rfl := Gets.out H
 exact rt i2 rfl () 2 [0,1] 0 (.cons (res_tmp rfl) .nil)
theorem concourselaw14_lives.c {k : Nat} {r : Bool} (h : concourselaw14_lives.f k = some r) : Pt Tryz.prog 17 [] (vB r) := by
 unfold concourselaw14_lives.f at h
 refine (Tr.body Tryz.func17 (c := _) rfl Tryz.ntmps17 (Nat.le_of_ble_eq_true rfl) fun R0 F => ?_).pt
 replace h := Gets.of h
 have H := h
 clear h
 refine WP.seq <| rg 1 0 <| as0 rfl rfl <| .fin <| WP.seq <| rg 2 1 <| el H fun t577 h578 H => cx 0 [] cal5 (typing_New.c h578) nofun fun g579 _ => ?_
 refine as0 rfl rfl <| .fin <| WP.seq <| WP.seq <| rg 2 0 <| mv0 rfl rfl <| Dv.peq0 TTab.nn rfl trivial rfl rfl Tryz.underlying25 (mem_at 0 rfl) <| .fin <| WP.cond rfl nofun (fun _ => ?_)
 refine WP.skip <| WP.seq <| rg 8 4 <| mv0 rfl rfl <| Dv.bld (css := [[vI 2], [vS (⟨#[33, 114, 58, 115]⟩ : ByteArray)], [vS (⟨#[64, 97, 58, 115]⟩ : ByteArray)], [vB true], [vI 5], [vI 10]]) rfl trivial Tryz.underlying30 pl30 z30 rfl ⟨(cells_one (one_eq rfl)), ⟨(cells_one (one_eq rfl)), ⟨(cells_one (one_eq rfl)), ⟨(cells_one (one_eq rfl)), ⟨(cells_one (one_eq rfl)), ⟨(cells_one (one_eq rfl)), trivial⟩⟩⟩⟩⟩⟩ rfl rfl <| el H fun t581 h582 H => cx 1 [0] cal9 (typing_Table_Put.c h582 (p0_ := g579)) nofun fun _ _ => ?_
 refine mv0 rfl rfl <| ex0 rfl trivial rfl rfl <| ex0 rfl trivial rfl rfl <| as0 rfl rfl <| as0 rfl rfl <| .fin <| WP.seq <| rg 15 0 <| mv0 rfl rfl <| mv0 rfl rfl ?_
 cases c583 : t581.1
 ·
  replace H := Gets.cf H c583
  refine sk rfl rfl <| sk rfl rfl <| pf0 rfl rfl rfl <| mv0 rfl rfl <| sk rfl rfl <| sk rfl rfl <| pf0 rfl rfl rfl <| mv0 rfl rfl <| sk rfl rfl <| sk rfl rfl <| sk rfl rfl <| pf0 rfl rfl rfl <| as0 rfl rfl <| .fin ?_
  obtain rfl := Gets.out H
  exact rt i2 rfl () 1 [0] 1 (.cons (res_tmp rfl) .nil)
 replace H := Gets.ct H c583
 refine mvg rfl rfl rfl <| bng rfl rfl rfl rfl run_eq <| pt0 rfl rfl rfl <| mv0 rfl rfl ?_
 cases c584 : (t581.2.1 == 0)
 ·
  replace H := Gets.cf H c584
  refine sk rfl rfl <| sk rfl rfl <| pf0 rfl rfl rfl <| mv0 rfl rfl <| sk rfl rfl <| sk rfl rfl <| sk rfl rfl <| pf0 rfl rfl rfl <| as0 rfl rfl <| .fin ?_
  obtain rfl := Gets.out H
  exact rt i2 rfl () 1 [0] 1 (.cons (res_tmp rfl) .nil)
 replace H := Gets.ct H c584
 refine mvg rfl rfl rfl <| vg (TTab.opn 0 rfl) fun g585 h586 => ?_
 refine el H fun t587 h588 H => cll 3 [0,1,2] cal18 (Tr.weak (typing_Table_Types.c h588 (b0_ := g585.1) (v0_0 := g585.2.1) (v0_1 := g585.2.2)) (.cons (wk_ptr h586) (.cons wk_id (.cons wk_id (.cons wk_id .nil))))) ?_
 refine pt0 rfl rfl rfl <| mv0 rfl rfl ?_
 cases c589 : t587
 ·
  replace H := Gets.cf H c589
  refine sk rfl rfl <| sk rfl rfl <| sk rfl rfl <| pf0 rfl rfl rfl <| as0 rfl rfl <| .fin <| wg (TTab.shut (p := g579) (m := t581.2.2) (g585.1, g585.2.1, g585.2.2) h586 (pm 3 [0,1,2])) fun _ _ => ?_
  obtain rfl := Gets.out H
  exact rt i2 rfl () 1 [0] 1 (.cons (res_tmp rfl) .nil)
 replace H := Gets.ct H c589
 refine mvg rfl rfl rfl <| el H fun t590 h591 H => cll 3 [0,1,2] cal18 (Tr.weak (typing_Table_Types.c h591 (b0_ := g585.1) (v0_0 := g585.2.1) (v0_1 := g585.2.2)) (.cons (wk_ptr h586) (.cons wk_id (.cons wk_id (.cons wk_id .nil))))) ?_
 refine ung rfl rfl rfl (run_not _) <| pt0 rfl rfl rfl <| as0 rfl rfl <| .fin <| wg (TTab.shut (p := g579) (m := t581.2.2) (g585.1, g585.2.1, g585.2.2) h586 (pm 3 [0,1,2])) fun _ _ => ?_
 obtain rfl := Gets.out H
 exact rt i2 rfl () 1 [0] 1 (.cons (res_tmp rfl) .nil)
theorem typing_Table_Users.c {k : Nat} {a0 : TTab} {a1 : ByteArray} {a2 : Int} {v0_0 v0_1 : OV} {b0_ : Nat} {r : (List ByteArray)} (h : typing_Table_Users.f k a0 a1 a2 = some r) : Tr Tryz.prog 19 [eq (.pointer (some ⟨b0_, 0, none⟩)), vS a1, vI a2] [blk b0_ 56 [eq v0_0.1, eq v0_1.1], own Edu.K v0_0.1 a0.fl] (γ := OV) (fun _ => True) (fun g => eq g.1) (fun g => [blk b0_ 56 [eq v0_0.1, eq v0_1.1], own Edu.K v0_0.1 a0.fl, own strK g.1 r]) := by
 unfold typing_Table_Users.f at h
 refine Tr.body Tryz.func19 (c := _) rfl Tryz.ntmps19 (Nat.le_of_ble_eq_true rfl) fun R0 F => ?_
 replace h := Gets.of h
 have H := h
 clear h
 refine WP.seq <| rg 1 0 <| as0 rfl rfl <| .fin <| WP.seq <| rg 1 0 <| as0 rfl rfl <| .fin <| WP.seq <| rg 3 0 <| mv0 rfl rfl <| Dv.mkc (fst := #[.pointer (some ⟨b0_, 0, none⟩)]) rfl trivial rfl <| as0 rfl rfl <| .fin <| WP.seqn H (fun q610 : (Int × Bool × (List ByteArray)) × OV => q610.1) (fun q610 : (Int × Bool × (List ByteArray)) × OV => [(0, eq (.pointer (some ⟨b0_, 0, none⟩))), (1, vS a1), (2, vI a2), (6, eq (.slice none 0 0)), (7, eq q610.2.1), (8, eq (.func (.func 18) #[.pointer (some ⟨b0_, 0, none⟩)] #[])), (16, eq v0_0.1), (17, vI (a0.fl.length : Int)), (18, vI q610.1.1), (19, vB q610.1.2.1)]) (fun q610 : (Int × Bool × (List ByteArray)) × OV => [blk b0_ 56 [eq v0_0.1, eq v0_1.1], own Edu.K v0_0.1 a0.fl, own strK q610.2.1 q610.1.2.2] ++ F) (fun q610 H => ?_) (fun H => ?_)
 ·
  obtain ⟨p592, v593⟩ := q610
  refine WP.seq <| rg 2 0 <| mv0 rfl rfl <| as0 rfl rfl <| .fin ?_
  obtain rfl := Gets.out H
  exact rt i2 rfl v593 3 [0,1,2] 0 (.cons (res_tmp rfl) .nil)
 refine WP.seq <| rg 6 0 <| mv0 rfl rfl <| Dv.nilp rfl trivial rfl <| fb rfl trivial rfl fa56_0 <| ld 0 rfl trivial rfl sc22 rfl rfl <| Dv.lenw rfl trivial rfl (mem_at 1 rfl) Tryz.underlying22 <| mv0 rfl rfl <| .fin <| WP.block <| wg (st_nil strK none) fun _ _ => ?_
 refine wg (sg 3 [1,2,0] 0) fun _ _ => ?_
 refine lp (fun j_ (p609 : Int × (List ByteArray) × OV) => typing_Table_Users.l0 k a0 a1 a2 j_ p609.1 p609.2.1) (0, ([] : List ByteArray), nilV) H (fun p609 => [(0, eq (.pointer (some ⟨b0_, 0, none⟩))), (1, vS a1), (2, vI a2), (6, eq (.slice none 0 0)), (7, eq p609.2.2.1), (8, eq (.func (.func 18) #[.pointer (some ⟨b0_, 0, none⟩)] #[])), (16, eq v0_0.1), (17, vI (a0.fl.length : Int)), (18, vI p609.1)]) (fun p609 => [blk b0_ 56 [eq v0_0.1, eq v0_1.1], own Edu.K v0_0.1 a0.fl, own strK p609.2.2.1 p609.2.1] ++ F) ?_
 rintro j_ ⟨x594, x595, v596⟩ H
 rcases j_ with _ | j608
 ·
  exact (Gets.no H).elim
 replace H : Gets (typing_Table_Users.l0 k a0 a1 a2 (j608 + 1) x594 x595) _ := H
 rw [typing_Table_Users.l0] at H
 refine WP.seq <| rg 1 0 <| bn0 rfl rfl rfl run_lt <| .fin <| WP.seq <| cd H rfl (fun _ H => ?_) (fun _ H => ?_)
 rotate_left
 ·
  refine WP.exit ?_
  replace H := Gets.out H
  exact jn ((x594, decide (x594 < (a0.fl.length : Int)), x595), v596) H
 refine WP.skip <| WP.seq <| WP.block <| WP.seq <| rg 4 12 <| gr H fun g598 H => ?_
 have h599 : x594.toNat < a0.fl.length := idx_lt g598
 refine Dv.ixw rfl trivial rfl (mem_at 1 rfl) rfl Tryz.underlying22 Tryz.underlying30 c30 g598.1 g598.2 <| Dv.ldws (j := x594.toNat) (f := 0) rfl trivial rfl (mem_at 1 rfl) h599 Tryz.underlying30 rfl c30 (Nat.le_of_ble_eq_true rfl) <| al rfl trivial zc30 nofun fun b600 => sx 0 rfl trivial rfl rfl cA sz30 rfl rfl rfl nofun ?_
 refine .fin <| WP.seq <| rg 12 0 <| fb rfl trivial rfl fa30_1 <| ld 0 rfl trivial rfl sc9 rfl rfl <| mv0 rfl rfl <| bn0 rfl rfl rfl run_seq <| mv0 rfl rfl ?_
 cases c601 : decide (((a0.fl.getD x594.toNat default).fRoom) = a1)
 ·
  replace H := Gets.cf H c601
  refine sk rfl rfl <| sk rfl rfl <| sk rfl rfl <| sk rfl rfl <| sk rfl rfl <| sk rfl rfl <| pf0 rfl rfl rfl <| .fin <| WP.cond rfl nofun (fun _ => ?_)
  refine WP.skip <| rg 2 0 <| bn0 rfl rfl rfl run_add <| mv0 rfl rfl <| .fin <| ng (sg 4 [0,1,2,3] 1) fun _ _ => ?_
  exact bk j608 (w64 (x594 + 1), x595, v596) H
 replace H := Gets.ct H c601
 refine mvg rfl rfl rfl <| mvg rfl rfl rfl <| fb rfl (gg rfl) rfl fa30_2 <| ld 0 rfl (gg rfl) rfl sc9 rfl rfl <| mvg rfl rfl rfl <| el H fun t602 h603 H => Dv.callc (fst := #[.pointer (some ⟨b0_, 0, none⟩)]) (B := [blk b0_ 56 [eq v0_0.1, eq v0_1.1], own Edu.K v0_0.1 a0.fl]) (F := [blk b600 30 (Edu.enc (a0.fl.getD x594.toNat default)), own strK v596.1 x595] ++ F) rfl (gg rfl) rfl cal18 rfl (typing_Table_Types.c h603 (b0_ := b0_) (v0_0 := v0_0) (v0_1 := v0_1)) (perm_to (L := [blk b600 30 (Edu.enc (a0.fl.getD x594.toNat default)), blk b0_ 56 [eq v0_0.1, eq v0_1.1], own Edu.K v0_0.1 a0.fl, own strK v596.1 x595]) (F := F) [1, 2, 0, 3] rfl rfl rfl) <| pt0 rfl rfl rfl <| .fin <| cd H rfl (fun _ H => ?_) (fun _ H => ?_)
 rotate_left
 ·
  refine WP.skip <| rg 2 0 <| bn0 rfl rfl rfl run_add <| mv0 rfl rfl <| .fin <| ng (sg 4 [0,1,2,3] 1) fun _ _ => ?_
  exact bk j608 (w64 (x594 + 1), x595, v596) H
 refine rg 6 16 <| mv0 rfl rfl <| fb rfl trivial rfl fa30_2 <| ld 0 rfl trivial rfl sc9 rfl rfl <| Dv.lit strK ([(a0.fl.getD x594.toNat default).fUser] : List ByteArray) (css := [[vS ((a0.fl.getD x594.toNat default).fUser)]]) rfl trivial Tryz.underlying37 Tryz.underlying9 c9 z9 rfl (by decide) (by decide) rfl ⟨(cells_one (one_eq rfl)), trivial⟩ rfl rfl rfl <| gr H fun g605 H => ap strK 3 ([(a0.fl.getD x594.toNat default).fUser] : List ByteArray) src_sl Tryz.underlying37 (.inr ⟨_, Tryz.underlying37⟩) inf9 g605 nofun fun v606 => ?_
 refine as0 rfl rfl <| .fin <| rg 2 0 <| bn0 rfl rfl rfl run_add <| mv0 rfl rfl <| .fin <| ng (sg 4 [0,1,2,3] 1) fun _ _ => ?_
 exact bk j608 (w64 (x594 + 1), x595 ++ ([(a0.fl.getD x594.toNat default).fUser] : List ByteArray), v606) H
theorem concourseref01_Few.c {a0 : ByteArray} {a1 : Int} {r : ByteArray} (h : concourseref01_Few.f a0 a1 = some r) : Pt Tryz.prog 23 [vS a0, vI a1] (vS r) := by
 unfold concourseref01_Few.f at h
 refine (Tr.body Tryz.func23 (c := _) rfl Tryz.ntmps23 (Nat.le_of_ble_eq_true rfl) fun R0 F => ?_).pt
 replace h := Gets.of h
 have H := h
 clear h
 refine WP.seq <| rg 1 0 <| as0 rfl rfl <| .fin <| WP.seq <| WP.seq <| rg 4 0 <| mv0 rfl rfl <| Dv.lens rfl trivial rfl Tryz.underlying9 <| mv0 rfl rfl <| bn0 rfl rfl rfl run_gt <| .fin <| cd H rfl (fun _ H => ?_) (fun _ H => ?_)
 rotate_left
 ·
  refine WP.skip <| WP.seq <| rg 2 0 <| mv0 rfl rfl <| as0 rfl rfl <| .fin ?_
  obtain rfl := Gets.out H
  exact rt i2 rfl () 0 [] 0 (.cons (res_tmp rfl) .nil)
 refine WP.seq <| rg 4 0 <| mv0 rfl rfl <| mv0 rfl rfl <| gr H fun g727 H => Dv.sss rfl trivial rfl Tryz.underlying9 bdE_none (bdE_some rfl g727.1) g727.2.1 g727.2.2 <| as0 rfl rfl <| .fin ?_
 obtain rfl := Gets.out H
 exact rt i2 rfl () 0 [] 0 (.cons (res_tmp rfl) .nil)
theorem concourseref03_Few.c {a0 : Edu} {r : Edu} (h : concourseref03_Few.f a0 = some r) : Pt Tryz.prog 7 [agg (Edu.enc a0)] (agg (Edu.enc r)) := by
 unfold concourseref03_Few.f at h
 refine (Tr.body Tryz.func7 (c := _) rfl Tryz.ntmps7 (Nat.le_of_ble_eq_true rfl) fun R0 F => ?_).pt
 replace h := Gets.of h
 have H := h
 clear h
 refine WP.seq <| rg 2 3 <| Dv.box rfl trivial rfl cA nofun fun b728 => al rfl trivial zc30 nofun fun b729 => .fin <| WP.seq <| rg 5 16 <| fb rfl trivial rfl fa30_1 <| ld 1 rfl trivial rfl sc9 rfl rfl <| el H fun t730 h731 H => cl rfl cal23 rfl (concourseref01_Few.c h731) <| fb rfl trivial rfl fa30_1 <| sx 1 rfl trivial rfl rfl cE sz9 rfl rfl rfl nofun ?_
 refine .fin <| WP.seq <| rg 5 16 <| fb rfl trivial rfl fa30_2 <| ld 1 rfl trivial rfl sc9 rfl rfl <| el H fun t732 h733 H => cl rfl cal23 rfl (concourseref01_Few.c h733) <| fb rfl trivial rfl fa30_2 <| sx 1 rfl trivial rfl rfl cE sz9 rfl rfl rfl nofun ?_
 refine .fin <| WP.seq <| rg 5 16 <| fb rfl trivial rfl fa30_3 <| ld 1 rfl trivial rfl sc9 rfl rfl <| el H fun t734 h735 H => cl rfl cal23 rfl (concourseref01_Few.c h735) <| fb rfl trivial rfl fa30_3 <| sx 1 rfl trivial rfl rfl cE sz9 rfl rfl rfl nofun ?_
 refine .fin <| WP.seq <| rg 5 16 <| fb rfl trivial rfl fa30_4 <| ld 1 rfl trivial rfl sc9 rfl rfl <| el H fun t736 h737 H => cl rfl cal23 rfl (concourseref01_Few.c h737) <| fb rfl trivial rfl fa30_4 <| sx 1 rfl trivial rfl rfl cE sz9 rfl rfl rfl nofun ?_
 refine .fin <| WP.seq <| rg 2 2 <| lds 1 rfl trivial rfl sg30 rfl rfl <| sx 0 rfl trivial rfl rfl cA sz30 rfl rfl rfl nofun ?_
 refine .fin ?_
 obtain rfl := Gets.out H
 exact rt i2 rfl () 2 [0,1] 2 (.cons (res_cells rfl Tryz.underlying30 rfl c30 (mem_at 0 rfl) rfl) .nil)
theorem concourseref01_colon.c {k : Nat} {a0 : ByteArray} {r : Int} (h : concourseref01_colon.f k a0 = some r) : Pt Tryz.prog 91 [vS a0] (vI r) := by
 unfold concourseref01_colon.f at h
 refine (Tr.body Tryz.func91 (c := _) rfl Tryz.ntmps91 (Nat.le_of_ble_eq_true rfl) fun R0 F => ?_).pt
 replace h := Gets.of h
 have H := h
 clear h
 refine WP.seq <| rg 1 0 <| as0 rfl rfl <| .fin <| WP.seqr H id (fun p738 : Int × Bool => [(0, vS a0), (2, vI 0), (3, vI p738.1), (7, vB p738.2)]) (fun p738 : Int × Bool => F) (fun p738 H => ?_) (fun H => ?_)
 ·
  refine WP.seq <| rg 1 0 <| as0 rfl rfl <| .fin ?_
  obtain rfl := Gets.out H
  exact rt i2 rfl () 0 [] 0 (.cons (res_tmp rfl) .nil)
 refine WP.seq <| rg 1 0 <| as0 rfl rfl <| .fin <| WP.block <| wg (sg 0 [] 0) fun _ _ => ?_
 refine lp (fun j_ (p744 : Int) => concourseref01_colon.l0 k a0 j_ p744) 0 H (fun p744 => [(0, vS a0), (2, vI 0), (3, vI p744)]) (fun p744 => F) ?_
 rintro j_ x739 H
 rcases j_ with _ | j743
 ·
  exact (Gets.no H).elim
 replace H : Gets (concourseref01_colon.l0 k a0 (j743 + 1) x739) _ := H
 rw [concourseref01_colon.l0] at H
 refine WP.seq <| WP.seq <| rg 4 0 <| mv0 rfl rfl <| mv0 rfl rfl <| Dv.lens rfl trivial rfl Tryz.underlying9 <| bn0 rfl rfl rfl run_lt <| .fin <| cd H rfl (fun _ H => ?_) (fun _ H => ?_)
 rotate_left
 ·
  refine WP.exit ?_
  replace H := Gets.out H
  exact jn (x739, decide (x739 < (a0.size : Int))) H
 refine WP.skip <| WP.seq <| WP.block <| WP.seq <| rg 4 0 <| mv0 rfl rfl <| mv0 rfl rfl <| gr H fun g741 H => Dv.ixs rfl trivial rfl rfl Tryz.underlying9 g741.1 g741.2 <| bn0 rfl rfl rfl run_eq <| .fin <| cd H rfl (fun _ H => ?_) (fun _ H => ?_)
 rotate_left
 ·
  exact WP.skip <| rg 3 0 <| mv0 rfl rfl <| bn0 rfl rfl rfl run_add <| as0 rfl rfl <| .fin <| bk j743 (w64 (x739 + 1)) H
 refine WP.seq <| rg 2 0 <| mv0 rfl rfl <| as0 rfl rfl <| .fin ?_
 replace H := Gets.outr H
 obtain rfl := Gets.out H
 exact rt i2 rfl () 0 [] 0 (.cons (res_tmp rfl) .nil)
theorem concourseref01_low.c {a0 : Int} {r : Bool} (h : concourseref01_low.f a0 = some r) : Pt Tryz.prog 94 [eq (.int .u8 a0)] (vB r) := by
 unfold concourseref01_low.f at h
 refine (Tr.body Tryz.func94 (c := _) rfl Tryz.ntmps94 (Nat.le_of_ble_eq_true rfl) fun R0 F => ?_).pt
 replace h := Gets.of h
 have H := h
 clear h
 refine WP.seq <| rg 1 0 <| as0 rfl rfl <| .fin <| WP.seq <| rg 15 0 <| mv0 rfl rfl <| bn0 rfl rfl rfl run_ge <| mv0 rfl rfl ?_
 cases c745 : decide (97 ≤ a0)
 ·
  replace H := Gets.cf H c745
  refine sk rfl rfl <| sk rfl rfl <| pf0 rfl rfl rfl <| mv0 rfl rfl <| mvg rfl rfl rfl <| bng rfl rfl rfl rfl run_ge <| mvg rfl rfl rfl ?_
  cases c748 : decide (48 ≤ a0)
  ·
   replace H := Gets.cf H c748
   refine sk rfl rfl <| sk rfl rfl <| pfg rfl rfl rfl rfl <| pf0 rfl rfl rfl <| as0 rfl rfl <| .fin ?_
   obtain rfl := Gets.out H
   exact rt i2 rfl () 0 [] 0 (.cons (res_tmp rfl) .nil)
  replace H := Gets.ct H c748
  refine mvg rfl rfl rfl <| bng rfl rfl rfl rfl run_le <| ptg rfl rfl rfl rfl <| pf0 rfl rfl rfl <| as0 rfl rfl <| .fin ?_
  obtain rfl := Gets.out H
  exact rt i2 rfl () 0 [] 0 (.cons (res_tmp rfl) .nil)
 replace H := Gets.ct H c745
 refine mvg rfl rfl rfl <| bng rfl rfl rfl rfl run_le <| pt0 rfl rfl rfl <| mv0 rfl rfl ?_
 cases c746 : decide (a0 ≤ 122)
 rotate_left
 ·
  replace H := Gets.ct H c746
  refine sk rfl rfl <| sk rfl rfl <| sk rfl rfl <| sku rfl rfl <| sku rfl rfl <| sk rfl rfl <| pt0 rfl rfl rfl <| as0 rfl rfl <| .fin ?_
  obtain rfl := Gets.out H
  exact rt i2 rfl () 0 [] 0 (.cons (res_tmp rfl) .nil)
 replace H := Gets.cf H c746
 refine mvg rfl rfl rfl <| bng rfl rfl rfl rfl run_ge <| mvg rfl rfl rfl ?_
 cases c747 : decide (48 ≤ a0)
 ·
  replace H := Gets.cf H c747
  refine sk rfl rfl <| sk rfl rfl <| pfg rfl rfl rfl rfl <| pf0 rfl rfl rfl <| as0 rfl rfl <| .fin ?_
  obtain rfl := Gets.out H
  exact rt i2 rfl () 0 [] 0 (.cons (res_tmp rfl) .nil)
 replace H := Gets.ct H c747
 refine mvg rfl rfl rfl <| bng rfl rfl rfl rfl run_le <| ptg rfl rfl rfl rfl <| pf0 rfl rfl rfl <| as0 rfl rfl <| .fin ?_
 obtain rfl := Gets.out H
 exact rt i2 rfl () 0 [] 0 (.cons (res_tmp rfl) .nil)
theorem concourseref01_Part.c {k : Nat} {a0 : ByteArray} {r : Bool} (h : concourseref01_Part.f k a0 = some r) : Pt Tryz.prog 92 [vS a0] (vB r) := by
 unfold concourseref01_Part.f at h
 refine (Tr.body Tryz.func92 (c := _) rfl Tryz.ntmps92 (Nat.le_of_ble_eq_true rfl) fun R0 F => ?_).pt
 replace h := Gets.of h
 have H := h
 clear h
 refine WP.seq <| rg 1 0 <| as0 rfl rfl <| .fin <| WP.seqr H id (fun p749 : Int × Bool => [(0, vS a0), (2, vB false), (3, vI p749.1), (8, vB p749.2)]) (fun p749 : Int × Bool => F) (fun p749 H => ?_) (fun H => ?_)
 ·
  refine WP.seq <| rg 9 0 <| mv0 rfl rfl <| Dv.lens rfl trivial rfl Tryz.underlying9 <| bn0 rfl rfl rfl run_gt <| mv0 rfl rfl ?_
  cases c750 : decide (0 < (a0.size : Int))
  ·
   replace H := Gets.cf H c750
   refine sk rfl rfl <| sk rfl rfl <| sk rfl rfl <| pf0 rfl rfl rfl <| as0 rfl rfl <| .fin ?_
   obtain rfl := Gets.out H
   exact rt i2 rfl () 0 [] 0 (.cons (res_tmp rfl) .nil)
  replace H := Gets.ct H c750
  refine mvg rfl rfl rfl <| Dv.lens rfl (gg rfl) rfl Tryz.underlying9 <| bng rfl rfl rfl rfl run_lt <| pt0 rfl rfl rfl <| as0 rfl rfl <| .fin ?_
  obtain rfl := Gets.out H
  exact rt i2 rfl () 0 [] 0 (.cons (res_tmp rfl) .nil)
 refine WP.seq <| rg 1 0 <| as0 rfl rfl <| .fin <| WP.block <| wg (sg 0 [] 0) fun _ _ => ?_
 refine lp (fun j_ (p767 : Int) => concourseref01_Part.l0 k a0 j_ p767) 0 H (fun p767 => [(0, vS a0), (2, vB false), (3, vI p767)]) (fun p767 => F) ?_
 rintro j_ x751 H
 rcases j_ with _ | j766
 ·
  exact (Gets.no H).elim
 replace H : Gets (concourseref01_Part.l0 k a0 (j766 + 1) x751) _ := H
 rw [concourseref01_Part.l0] at H
 refine WP.seq <| WP.seq <| rg 4 0 <| mv0 rfl rfl <| mv0 rfl rfl <| Dv.lens rfl trivial rfl Tryz.underlying9 <| bn0 rfl rfl rfl run_lt <| .fin <| cd H rfl (fun _ H => ?_) (fun _ H => ?_)
 rotate_left
 ·
  refine WP.exit ?_
  replace H := Gets.out H
  exact jn (x751, decide (x751 < (a0.size : Int))) H
 refine WP.skip <| WP.seq <| WP.block <| WP.seq <| rg 5 0 <| mv0 rfl rfl <| mv0 rfl rfl <| gr H fun g753 H => Dv.ixs rfl trivial rfl rfl Tryz.underlying9 g753.1 g753.2 <| el H fun t754 h755 H => cl rfl cal94 rfl (concourseref01_low.c h755) <| as0 rfl rfl <| .fin <| WP.seq <| rg 20 0 <| mv0 rfl rfl <| un0 rfl rfl (run_not _) <| mv0 rfl rfl ?_
 cases c756 : !t754
 ·
  replace H := Gets.cf H c756
  refine sk rfl rfl <| sk rfl rfl <| sk rfl rfl <| sk rfl rfl <| pf0 rfl rfl rfl <| mv0 rfl rfl <| sk rfl rfl <| sk rfl rfl <| sk rfl rfl <| sk rfl rfl <| pf0 rfl rfl rfl <| mv0 rfl rfl <| sk rfl rfl <| sk rfl rfl <| sk rfl rfl <| sk rfl rfl <| pf0 rfl rfl rfl <| .fin <| WP.cond rfl nofun (fun _ => ?_)
  exact WP.skip <| rg 3 0 <| mv0 rfl rfl <| bn0 rfl rfl rfl run_add <| as0 rfl rfl <| .fin <| bk j766 (w64 (x751 + 1)) H
 replace H := Gets.ct H c756
 refine mvg rfl rfl rfl <| mvg rfl rfl rfl <| gr H fun g757 H => Dv.ixs rfl (gg rfl) rfl rfl Tryz.underlying9 g757.1 g757.2 <| bng rfl rfl rfl rfl run_ne <| pt0 rfl rfl rfl <| mv0 rfl rfl ?_
 cases c758 : ((bt a0 x751) != 46)
 ·
  replace H := Gets.cf H c758
  refine sk rfl rfl <| sk rfl rfl <| sk rfl rfl <| sk rfl rfl <| pf0 rfl rfl rfl <| mv0 rfl rfl <| sk rfl rfl <| sk rfl rfl <| sk rfl rfl <| sk rfl rfl <| pf0 rfl rfl rfl <| .fin <| WP.cond rfl nofun (fun _ => ?_)
  exact WP.skip <| rg 3 0 <| mv0 rfl rfl <| bn0 rfl rfl rfl run_add <| as0 rfl rfl <| .fin <| bk j766 (w64 (x751 + 1)) H
 replace H := Gets.ct H c758
 refine mvg rfl rfl rfl <| mvg rfl rfl rfl <| gr H fun g759 H => Dv.ixs rfl (gg rfl) rfl rfl Tryz.underlying9 g759.1 g759.2 <| bng rfl rfl rfl rfl run_ne <| pt0 rfl rfl rfl <| mv0 rfl rfl ?_
 cases c760 : ((bt a0 x751) != 45)
 ·
  replace H := Gets.cf H c760
  refine sk rfl rfl <| sk rfl rfl <| sk rfl rfl <| sk rfl rfl <| pf0 rfl rfl rfl <| .fin <| WP.cond rfl nofun (fun _ => ?_)
  exact WP.skip <| rg 3 0 <| mv0 rfl rfl <| bn0 rfl rfl rfl run_add <| as0 rfl rfl <| .fin <| bk j766 (w64 (x751 + 1)) H
 replace H := Gets.ct H c760
 refine mvg rfl rfl rfl <| mvg rfl rfl rfl <| gr H fun g761 H => Dv.ixs rfl (gg rfl) rfl rfl Tryz.underlying9 g761.1 g761.2 <| bng rfl rfl rfl rfl run_ne <| pt0 rfl rfl rfl <| .fin <| cd H rfl (fun _ H => ?_) (fun _ H => ?_)
 rotate_left
 ·
  exact WP.skip <| rg 3 0 <| mv0 rfl rfl <| bn0 rfl rfl rfl run_add <| as0 rfl rfl <| .fin <| bk j766 (w64 (x751 + 1)) H
 refine WP.seq <| rg 1 0 <| as0 rfl rfl <| .fin ?_
 replace H := Gets.outr H
 obtain rfl := Gets.out H
 exact rt i2 rfl () 0 [] 0 (.cons (res_tmp rfl) .nil)
theorem concourseref01_Server.c {k : Nat} {a0 : ByteArray} {r : Bool} (h : concourseref01_Server.f k a0 = some r) : Pt Tryz.prog 93 [vS a0] (vB r) := by
 unfold concourseref01_Server.f at h
 refine (Tr.body Tryz.func93 (c := _) rfl Tryz.ntmps93 (Nat.le_of_ble_eq_true rfl) fun R0 F => ?_).pt
 replace h := Gets.of h
 have H := h
 clear h
 refine WP.seq <| rg 1 0 <| as0 rfl rfl <| .fin <| WP.seqr H id (fun p768 : Int × Bool => [(0, vS a0), (2, vB false), (3, vI p768.1), (9, vB p768.2)]) (fun p768 : Int × Bool => F) (fun p768 H => ?_) (fun H => ?_)
 ·
  refine WP.seq <| rg 9 0 <| mv0 rfl rfl <| Dv.lens rfl trivial rfl Tryz.underlying9 <| bn0 rfl rfl rfl run_gt <| mv0 rfl rfl ?_
  cases c769 : decide (0 < (a0.size : Int))
  ·
   replace H := Gets.cf H c769
   refine sk rfl rfl <| sk rfl rfl <| sk rfl rfl <| pf0 rfl rfl rfl <| as0 rfl rfl <| .fin ?_
   obtain rfl := Gets.out H
   exact rt i2 rfl () 0 [] 0 (.cons (res_tmp rfl) .nil)
  replace H := Gets.ct H c769
  refine mvg rfl rfl rfl <| Dv.lens rfl (gg rfl) rfl Tryz.underlying9 <| bng rfl rfl rfl rfl run_lt <| pt0 rfl rfl rfl <| as0 rfl rfl <| .fin ?_
  obtain rfl := Gets.out H
  exact rt i2 rfl () 0 [] 0 (.cons (res_tmp rfl) .nil)
 refine WP.seq <| rg 1 0 <| as0 rfl rfl <| .fin <| WP.block <| wg (sg 0 [] 0) fun _ _ => ?_
 refine lp (fun j_ (p793 : Int) => concourseref01_Server.l0 k a0 j_ p793) 0 H (fun p793 => [(0, vS a0), (2, vB false), (3, vI p793)]) (fun p793 => F) ?_
 rintro j_ x770 H
 rcases j_ with _ | j792
 ·
  exact (Gets.no H).elim
 replace H : Gets (concourseref01_Server.l0 k a0 (j792 + 1) x770) _ := H
 rw [concourseref01_Server.l0] at H
 refine WP.seq <| WP.seq <| rg 4 0 <| mv0 rfl rfl <| mv0 rfl rfl <| Dv.lens rfl trivial rfl Tryz.underlying9 <| bn0 rfl rfl rfl run_lt <| .fin <| cd H rfl (fun _ H => ?_) (fun _ H => ?_)
 rotate_left
 ·
  refine WP.exit ?_
  replace H := Gets.out H
  exact jn (x770, decide (x770 < (a0.size : Int))) H
 refine WP.skip <| WP.seq <| WP.block <| WP.seq <| rg 5 0 <| mv0 rfl rfl <| mv0 rfl rfl <| gr H fun g772 H => Dv.ixs rfl trivial rfl rfl Tryz.underlying9 g772.1 g772.2 <| el H fun t773 h774 H => cl rfl cal94 rfl (concourseref01_low.c h774) <| as0 rfl rfl <| .fin <| WP.seq <| rg 22 0 <| mv0 rfl rfl <| bn0 rfl rfl rfl run_gt <| mv0 rfl rfl ?_
 cases c775 : decide (0 < x770)
 ·
  replace H := Gets.cf H c775
  refine sk rfl rfl <| sk rfl rfl <| sk rfl rfl <| sk rfl rfl <| sk rfl rfl <| pf0 rfl rfl rfl <| mv0 rfl rfl <| sk rfl rfl <| sk rfl rfl <| sk rfl rfl <| sk rfl rfl <| sk rfl rfl <| sku rfl rfl <| sku rfl rfl <| sku rfl rfl <| sku rfl rfl <| sk rfl rfl <| pf0 rfl rfl rfl <| as0 rfl rfl <| .fin <| WP.seq <| rg 6 0 <| mv0 rfl rfl <| un0 rfl rfl (run_not _) <| mv0 rfl rfl ?_
  cases c789 : !t773
  ·
   replace H := Gets.cf H c789
   refine sk rfl rfl <| sk rfl rfl <| pf0 rfl rfl rfl <| .fin <| WP.cond rfl nofun (fun _ => ?_)
   exact WP.skip <| rg 3 0 <| mv0 rfl rfl <| bn0 rfl rfl rfl run_add <| as0 rfl rfl <| .fin <| bk j792 (w64 (x770 + 1)) H
  replace H := Gets.ct H c789
  refine mvg rfl rfl rfl <| ung rfl rfl rfl (run_not _) <| pt0 rfl rfl rfl <| .fin <| WP.cond rfl (fun _ => ?_) nofun
  refine WP.seq <| rg 1 0 <| as0 rfl rfl <| .fin ?_
  replace H := Gets.outr H
  obtain rfl := Gets.out H
  exact rt i2 rfl () 0 [] 0 (.cons (res_tmp rfl) .nil)
 replace H := Gets.ct H c775
 refine mvg rfl rfl rfl <| mvg rfl rfl rfl <| Dv.lens rfl (gg rfl) rfl Tryz.underlying9 <| bng rfl rfl rfl rfl run_sub <| bng rfl rfl rfl rfl run_lt <| pt0 rfl rfl rfl <| mv0 rfl rfl ?_
 cases c776 : decide (x770 < (w64 ((a0.size : Int) - 1)))
 ·
  replace H := Gets.cf H c776
  refine sk rfl rfl <| sk rfl rfl <| sk rfl rfl <| sk rfl rfl <| sk rfl rfl <| sku rfl rfl <| sku rfl rfl <| sku rfl rfl <| sku rfl rfl <| sk rfl rfl <| pf0 rfl rfl rfl <| as0 rfl rfl <| .fin <| WP.seq <| rg 6 0 <| mv0 rfl rfl <| un0 rfl rfl (run_not _) <| mv0 rfl rfl ?_
  cases c786 : !t773
  ·
   replace H := Gets.cf H c786
   refine sk rfl rfl <| sk rfl rfl <| pf0 rfl rfl rfl <| .fin <| WP.cond rfl nofun (fun _ => ?_)
   exact WP.skip <| rg 3 0 <| mv0 rfl rfl <| bn0 rfl rfl rfl run_add <| as0 rfl rfl <| .fin <| bk j792 (w64 (x770 + 1)) H
  replace H := Gets.ct H c786
  refine mvg rfl rfl rfl <| ung rfl rfl rfl (run_not _) <| pt0 rfl rfl rfl <| .fin <| WP.cond rfl (fun _ => ?_) nofun
  refine WP.seq <| rg 1 0 <| as0 rfl rfl <| .fin ?_
  replace H := Gets.outr H
  obtain rfl := Gets.out H
  exact rt i2 rfl () 0 [] 0 (.cons (res_tmp rfl) .nil)
 replace H := Gets.ct H c776
 refine mvg rfl rfl rfl <| mvg rfl rfl rfl <| gr H fun g777 H => Dv.ixs rfl (gg rfl) rfl rfl Tryz.underlying9 g777.1 g777.2 <| bng rfl rfl rfl rfl run_eq <| mvg rfl rfl rfl ?_
 cases c778 : ((bt a0 x770) == 46)
 rotate_left
 ·
  replace H := Gets.ct H c778
  refine sk rfl rfl <| sk rfl rfl <| sk rfl rfl <| sk rfl rfl <| ptg rfl rfl rfl rfl <| pt0 rfl rfl rfl <| as0 rfl rfl <| .fin <| WP.seq <| rg 6 0 <| mv0 rfl rfl <| un0 rfl rfl (run_not _) <| mv0 rfl rfl ?_
  cases c779 : !t773
  ·
   replace H := Gets.cf H c779
   refine sk rfl rfl <| sk rfl rfl <| pf0 rfl rfl rfl <| .fin <| WP.cond rfl nofun (fun _ => ?_)
   exact WP.skip <| rg 3 0 <| mv0 rfl rfl <| bn0 rfl rfl rfl run_add <| as0 rfl rfl <| .fin <| bk j792 (w64 (x770 + 1)) H
  replace H := Gets.ct H c779
  refine mvg rfl rfl rfl <| ung rfl rfl rfl (run_not _) <| pt0 rfl rfl rfl <| .fin <| WP.cond rfl nofun (fun _ => ?_)
  exact WP.skip <| rg 3 0 <| mv0 rfl rfl <| bn0 rfl rfl rfl run_add <| as0 rfl rfl <| .fin <| bk j792 (w64 (x770 + 1)) H
 replace H := Gets.cf H c778
 refine mvg rfl rfl rfl <| mvg rfl rfl rfl <| gr H fun g782 H => Dv.ixs rfl (gg rfl) rfl rfl Tryz.underlying9 g782.1 g782.2 <| bng rfl rfl rfl rfl run_eq <| pfg rfl rfl rfl rfl <| pt0 rfl rfl rfl <| as0 rfl rfl <| .fin <| WP.seq <| rg 6 0 <| mv0 rfl rfl <| un0 rfl rfl (run_not _) <| mv0 rfl rfl ?_
 cases c783 : !t773
 ·
  replace H := Gets.cf H c783
  refine sk rfl rfl <| sk rfl rfl <| pf0 rfl rfl rfl <| .fin <| WP.cond rfl nofun (fun _ => ?_)
  exact WP.skip <| rg 3 0 <| mv0 rfl rfl <| bn0 rfl rfl rfl run_add <| as0 rfl rfl <| .fin <| bk j792 (w64 (x770 + 1)) H
 replace H := Gets.ct H c783
 refine mvg rfl rfl rfl <| ung rfl rfl rfl (run_not _) <| pt0 rfl rfl rfl <| .fin <| cd H rfl (fun _ H => ?_) (fun _ H => ?_)
 rotate_left
 ·
  exact WP.skip <| rg 3 0 <| mv0 rfl rfl <| bn0 rfl rfl rfl run_add <| as0 rfl rfl <| .fin <| bk j792 (w64 (x770 + 1)) H
 refine WP.seq <| rg 1 0 <| as0 rfl rfl <| .fin ?_
 replace H := Gets.outr H
 obtain rfl := Gets.out H
 exact rt i2 rfl () 0 [] 0 (.cons (res_tmp rfl) .nil)
theorem concourseref01_Named.c {k : Nat} {a0 : ByteArray} {a1 : Int} {r : Bool} (h : concourseref01_Named.f k a0 a1 = some r) : Pt Tryz.prog 63 [vS a0, eq (.int .u8 a1)] (vB r) := by
 unfold concourseref01_Named.f at h
 refine (Tr.body Tryz.func63 (c := _) rfl Tryz.ntmps63 (Nat.le_of_ble_eq_true rfl) fun R0 F => ?_).pt
 replace h := Gets.of h
 have H := h
 clear h
 refine WP.seq <| rg 1 0 <| as0 rfl rfl <| .fin <| WP.seq <| rg 3 0 <| mv0 rfl rfl <| el H fun t794 h795 H => cl rfl cal91 rfl (concourseref01_colon.c h795) <| as0 rfl rfl <| .fin <| WP.seq <| WP.seq <| rg 8 0 <| mv0 rfl rfl <| bn0 rfl rfl rfl run_lt <| mv0 rfl rfl ?_
 cases c796 : decide (t794 < 1)
 rotate_left
 ·
  replace H := Gets.ct H c796
  refine sk rfl rfl <| sk rfl rfl <| sk rfl rfl <| sk rfl rfl <| pt0 rfl rfl rfl <| .fin <| WP.cond rfl (fun _ => ?_) nofun
  refine WP.seq <| rg 1 0 <| as0 rfl rfl <| .fin ?_
  obtain rfl := Gets.out H
  exact rt i2 rfl () 0 [] 0 (.cons (res_tmp rfl) .nil)
 replace H := Gets.cf H c796
 refine mvg rfl rfl rfl <| gr H fun g798 H => Dv.ixs rfl (gg rfl) rfl rfl Tryz.underlying9 g798.1 g798.2 <| mvg rfl rfl rfl <| bng rfl rfl rfl rfl run_ne <| pf0 rfl rfl rfl <| .fin <| cd H rfl (fun _ H => ?_) (fun _ H => ?_)
 ·
  refine WP.seq <| rg 1 0 <| as0 rfl rfl <| .fin ?_
  obtain rfl := Gets.out H
  exact rt i2 rfl () 0 [] 0 (.cons (res_tmp rfl) .nil)
 refine WP.skip <| WP.seq <| rg 5 0 <| mv0 rfl rfl <| mv0 rfl rfl <| gr H fun g800 H => Dv.sss rfl trivial rfl Tryz.underlying9 (bdE_some rfl g800.1) (bdE_some rfl g800.2.1) g800.2.2.1 g800.2.2.2 <| el H fun t801 h802 H => cl rfl cal92 rfl (concourseref01_Part.c h802) <| as0 rfl rfl <| .fin <| WP.seq <| rg 6 0 <| mv0 rfl rfl <| mv0 rfl rfl <| bn0 rfl rfl rfl run_add <| gr H fun g803 H => Dv.sss rfl trivial rfl Tryz.underlying9 (bdE_some rfl g803.1) bdE_none g803.2.1 g803.2.2 <| el H fun t804 h805 H => cl rfl cal93 rfl (concourseref01_Server.c h805) <| as0 rfl rfl <| .fin <| WP.seq <| rg 5 0 <| mv0 rfl rfl <| mv0 rfl rfl ?_
 cases c806 : t801
 ·
  replace H := Gets.cf H c806
  refine sk rfl rfl <| pf0 rfl rfl rfl <| as0 rfl rfl <| .fin ?_
  obtain rfl := Gets.out H
  exact rt i2 rfl () 0 [] 0 (.cons (res_tmp rfl) .nil)
 replace H := Gets.ct H c806
 refine mvg rfl rfl rfl <| pt0 rfl rfl rfl <| as0 rfl rfl <| .fin ?_
 obtain rfl := Gets.out H
 exact rt i2 rfl () 0 [] 0 (.cons (res_tmp rfl) .nil)
theorem concourseref01_Event.c {k : Nat} {a0 : ByteArray} {r : Bool} (h : concourseref01_Event.f k a0 = some r) : Pt Tryz.prog 64 [vS a0] (vB r) := by
 unfold concourseref01_Event.f at h
 refine (Tr.body Tryz.func64 (c := _) rfl Tryz.ntmps64 (Nat.le_of_ble_eq_true rfl) fun R0 F => ?_).pt
 replace h := Gets.of h
 have H := h
 clear h
 refine WP.seq <| rg 1 0 <| as0 rfl rfl <| .fin <| WP.seq <| WP.seq <| rg 13 0 <| mv0 rfl rfl <| Dv.lens rfl trivial rfl Tryz.underlying9 <| bn0 rfl rfl rfl run_lt <| mv0 rfl rfl ?_
 cases c807 : decide ((a0.size : Int) < 2)
 rotate_left
 ·
  replace H := Gets.ct H c807
  refine sk rfl rfl <| sk rfl rfl <| sk rfl rfl <| pt0 rfl rfl rfl <| mv0 rfl rfl <| sk rfl rfl <| sk rfl rfl <| sk rfl rfl <| pt0 rfl rfl rfl <| .fin <| WP.cond rfl (fun _ => ?_) nofun
  refine WP.seq <| rg 1 0 <| as0 rfl rfl <| .fin ?_
  obtain rfl := Gets.out H
  exact rt i2 rfl () 0 [] 0 (.cons (res_tmp rfl) .nil)
 replace H := Gets.cf H c807
 refine mvg rfl rfl rfl <| Dv.lens rfl (gg rfl) rfl Tryz.underlying9 <| bng rfl rfl rfl rfl run_gt <| pf0 rfl rfl rfl <| mv0 rfl rfl ?_
 cases c809 : decide (17 < (a0.size : Int))
 rotate_left
 ·
  replace H := Gets.ct H c809
  refine sk rfl rfl <| sk rfl rfl <| sk rfl rfl <| pt0 rfl rfl rfl <| .fin <| WP.cond rfl (fun _ => ?_) nofun
  refine WP.seq <| rg 1 0 <| as0 rfl rfl <| .fin ?_
  obtain rfl := Gets.out H
  exact rt i2 rfl () 0 [] 0 (.cons (res_tmp rfl) .nil)
 replace H := Gets.cf H c809
 refine mvg rfl rfl rfl <| gr H fun g811 H => Dv.ixs rfl (gg rfl) rfl rfl Tryz.underlying9 g811.1 g811.2 <| bng rfl rfl rfl rfl run_ne <| pf0 rfl rfl rfl <| .fin <| cd H rfl (fun _ H => ?_) (fun _ H => ?_)
 ·
  refine WP.seq <| rg 1 0 <| as0 rfl rfl <| .fin ?_
  obtain rfl := Gets.out H
  exact rt i2 rfl () 0 [] 0 (.cons (res_tmp rfl) .nil)
 refine WP.skip <| WP.seqr H id (fun p813 : Int × Bool => [(0, vS a0), (2, vB false), (3, vI p813.1), (18, vB ((bt a0 0) != 36)), (22, vB p813.2)]) (fun p813 : Int × Bool => F) (fun p813 H => ?_) (fun H => ?_)
 ·
  refine WP.seq <| rg 1 0 <| as0 rfl rfl <| .fin ?_
  obtain rfl := Gets.out H
  exact rt i2 rfl () 0 [] 0 (.cons (res_tmp rfl) .nil)
 refine WP.seq <| rg 1 0 <| as0 rfl rfl <| .fin <| WP.block <| wg (sg 0 [] 0) fun _ _ => ?_
 refine lp (fun j_ (p839 : Int) => concourseref01_Event.l0 k a0 j_ p839) 1 H (fun p839 => [(0, vS a0), (2, vB false), (3, vI p839), (18, vB ((bt a0 0) != 36))]) (fun p839 => F) ?_
 rintro j_ x814 H
 rcases j_ with _ | j838
 ·
  exact (Gets.no H).elim
 replace H : Gets (concourseref01_Event.l0 k a0 (j838 + 1) x814) _ := H
 rw [concourseref01_Event.l0] at H
 refine WP.seq <| WP.seq <| rg 4 0 <| mv0 rfl rfl <| mv0 rfl rfl <| Dv.lens rfl trivial rfl Tryz.underlying9 <| bn0 rfl rfl rfl run_lt <| .fin <| cd H rfl (fun _ H => ?_) (fun _ H => ?_)
 rotate_left
 ·
  refine WP.exit ?_
  replace H := Gets.out H
  exact jn (x814, decide (x814 < (a0.size : Int))) H
 refine WP.skip <| WP.seq <| WP.block <| WP.seq <| rg 5 0 <| mv0 rfl rfl <| mv0 rfl rfl <| gr H fun g816 H => Dv.ixs rfl trivial rfl rfl Tryz.underlying9 g816.1 g816.2 <| el H fun t817 h818 H => cl rfl cal94 rfl (concourseref01_low.c h818) <| as0 rfl rfl <| .fin <| WP.seq <| rg 11 0 <| mv0 rfl rfl <| mv0 rfl rfl <| gr H fun g819 H => Dv.ixs rfl trivial rfl rfl Tryz.underlying9 g819.1 g819.2 <| bn0 rfl rfl rfl run_ge <| mv0 rfl rfl ?_
 cases c820 : decide (65 ≤ (bt a0 x814))
 ·
  replace H := Gets.cf H c820
  refine sk rfl rfl <| sk rfl rfl <| sk rfl rfl <| sk rfl rfl <| pf0 rfl rfl rfl <| as0 rfl rfl <| .fin <| WP.seq <| rg 18 0 <| mv0 rfl rfl <| un0 rfl rfl (run_not _) <| mv0 rfl rfl ?_
  cases c831 : !t817
  ·
   replace H := Gets.cf H c831
   refine sk rfl rfl <| sk rfl rfl <| pf0 rfl rfl rfl <| mv0 rfl rfl <| sk rfl rfl <| sk rfl rfl <| sk rfl rfl <| sk rfl rfl <| pf0 rfl rfl rfl <| mv0 rfl rfl <| sk rfl rfl <| sk rfl rfl <| sk rfl rfl <| sk rfl rfl <| pf0 rfl rfl rfl <| .fin <| WP.cond rfl nofun (fun _ => ?_)
   exact WP.skip <| rg 3 0 <| mv0 rfl rfl <| bn0 rfl rfl rfl run_add <| as0 rfl rfl <| .fin <| bk j838 (w64 (x814 + 1)) H
  replace H := Gets.ct H c831
  refine mvg rfl rfl rfl <| ung rfl rfl rfl (run_not _) <| pt0 rfl rfl rfl <| mv0 rfl rfl <| mvg rfl rfl rfl <| mvg rfl rfl rfl <| gr H fun g832 H => Dv.ixs rfl (gg rfl) rfl rfl Tryz.underlying9 g832.1 g832.2 <| bng rfl rfl rfl rfl run_ne <| pt0 rfl rfl rfl <| mv0 rfl rfl ?_
  cases c833 : ((bt a0 x814) != 45)
  ·
   replace H := Gets.cf H c833
   refine sk rfl rfl <| sk rfl rfl <| sk rfl rfl <| sk rfl rfl <| pf0 rfl rfl rfl <| .fin <| WP.cond rfl nofun (fun _ => ?_)
   exact WP.skip <| rg 3 0 <| mv0 rfl rfl <| bn0 rfl rfl rfl run_add <| as0 rfl rfl <| .fin <| bk j838 (w64 (x814 + 1)) H
  replace H := Gets.ct H c833
  refine mvg rfl rfl rfl <| mvg rfl rfl rfl <| gr H fun g834 H => Dv.ixs rfl (gg rfl) rfl rfl Tryz.underlying9 g834.1 g834.2 <| bng rfl rfl rfl rfl run_ne <| pt0 rfl rfl rfl <| .fin <| cd H rfl (fun _ H => ?_) (fun _ H => ?_)
  rotate_left
  ·
   exact WP.skip <| rg 3 0 <| mv0 rfl rfl <| bn0 rfl rfl rfl run_add <| as0 rfl rfl <| .fin <| bk j838 (w64 (x814 + 1)) H
  refine WP.seq <| rg 1 0 <| as0 rfl rfl <| .fin ?_
  replace H := Gets.outr H
  obtain rfl := Gets.out H
  exact rt i2 rfl () 0 [] 0 (.cons (res_tmp rfl) .nil)
 replace H := Gets.ct H c820
 refine mvg rfl rfl rfl <| mvg rfl rfl rfl <| gr H fun g821 H => Dv.ixs rfl (gg rfl) rfl rfl Tryz.underlying9 g821.1 g821.2 <| bng rfl rfl rfl rfl run_le <| pt0 rfl rfl rfl <| as0 rfl rfl <| .fin <| WP.seq <| rg 18 0 <| mv0 rfl rfl <| un0 rfl rfl (run_not _) <| mv0 rfl rfl ?_
 cases c822 : !t817
 ·
  replace H := Gets.cf H c822
  refine sk rfl rfl <| sk rfl rfl <| pf0 rfl rfl rfl <| mv0 rfl rfl <| sk rfl rfl <| sk rfl rfl <| sk rfl rfl <| sk rfl rfl <| pf0 rfl rfl rfl <| mv0 rfl rfl <| sk rfl rfl <| sk rfl rfl <| sk rfl rfl <| sk rfl rfl <| pf0 rfl rfl rfl <| .fin <| WP.cond rfl nofun (fun _ => ?_)
  exact WP.skip <| rg 3 0 <| mv0 rfl rfl <| bn0 rfl rfl rfl run_add <| as0 rfl rfl <| .fin <| bk j838 (w64 (x814 + 1)) H
 replace H := Gets.ct H c822
 refine mvg rfl rfl rfl <| ung rfl rfl rfl (run_not _) <| pt0 rfl rfl rfl <| mv0 rfl rfl ?_
 cases c823 : !(decide ((bt a0 x814) ≤ 90))
 ·
  replace H := Gets.cf H c823
  refine sk rfl rfl <| sk rfl rfl <| sk rfl rfl <| sk rfl rfl <| pf0 rfl rfl rfl <| mv0 rfl rfl <| sk rfl rfl <| sk rfl rfl <| sk rfl rfl <| sk rfl rfl <| pf0 rfl rfl rfl <| .fin <| WP.cond rfl nofun (fun _ => ?_)
  exact WP.skip <| rg 3 0 <| mv0 rfl rfl <| bn0 rfl rfl rfl run_add <| as0 rfl rfl <| .fin <| bk j838 (w64 (x814 + 1)) H
 replace H := Gets.ct H c823
 refine mvg rfl rfl rfl <| mvg rfl rfl rfl <| gr H fun g824 H => Dv.ixs rfl (gg rfl) rfl rfl Tryz.underlying9 g824.1 g824.2 <| bng rfl rfl rfl rfl run_ne <| pt0 rfl rfl rfl <| mv0 rfl rfl ?_
 cases c825 : ((bt a0 x814) != 45)
 ·
  replace H := Gets.cf H c825
  refine sk rfl rfl <| sk rfl rfl <| sk rfl rfl <| sk rfl rfl <| pf0 rfl rfl rfl <| .fin <| WP.cond rfl nofun (fun _ => ?_)
  exact WP.skip <| rg 3 0 <| mv0 rfl rfl <| bn0 rfl rfl rfl run_add <| as0 rfl rfl <| .fin <| bk j838 (w64 (x814 + 1)) H
 replace H := Gets.ct H c825
 refine mvg rfl rfl rfl <| mvg rfl rfl rfl <| gr H fun g826 H => Dv.ixs rfl (gg rfl) rfl rfl Tryz.underlying9 g826.1 g826.2 <| bng rfl rfl rfl rfl run_ne <| pt0 rfl rfl rfl <| .fin <| cd H rfl (fun _ H => ?_) (fun _ H => ?_)
 rotate_left
 ·
  exact WP.skip <| rg 3 0 <| mv0 rfl rfl <| bn0 rfl rfl rfl run_add <| as0 rfl rfl <| .fin <| bk j838 (w64 (x814 + 1)) H
 refine WP.seq <| rg 1 0 <| as0 rfl rfl <| .fin ?_
 replace H := Gets.outr H
 obtain rfl := Gets.out H
 exact rt i2 rfl () 0 [] 0 (.cons (res_tmp rfl) .nil)
theorem concourseref01_Thread.c {k : Nat} {a0 : ByteArray} {r : Bool} (h : concourseref01_Thread.f k a0 = some r) : Pt Tryz.prog 65 [vS a0] (vB r) := by
 unfold concourseref01_Thread.f at h
 refine (Tr.body Tryz.func65 (c := _) rfl Tryz.ntmps65 (Nat.le_of_ble_eq_true rfl) fun R0 F => ?_).pt
 replace h := Gets.of h
 have H := h
 clear h
 refine WP.seq <| rg 1 0 <| as0 rfl rfl <| .fin <| WP.seq <| rg 3 0 <| mv0 rfl rfl <| el H fun t840 h841 H => cl rfl cal64 rfl (concourseref01_Event.c h841) <| as0 rfl rfl <| .fin <| WP.seq <| rg 10 0 <| mv0 rfl rfl <| bn0 rfl rfl rfl run_seq <| mv0 rfl rfl ?_
 cases c842 : decide (a0 = (⟨#[]⟩ : ByteArray))
 rotate_left
 ·
  replace H := Gets.ct H c842
  refine sk rfl rfl <| sk rfl rfl <| pt0 rfl rfl rfl <| mv0 rfl rfl <| sk rfl rfl <| pt0 rfl rfl rfl <| as0 rfl rfl <| .fin ?_
  obtain rfl := Gets.out H
  exact rt i2 rfl () 0 [] 0 (.cons (res_tmp rfl) .nil)
 replace H := Gets.cf H c842
 refine mvg rfl rfl rfl <| bng rfl rfl rfl rfl run_seq <| pf0 rfl rfl rfl <| mv0 rfl rfl ?_
 cases c843 : decide (a0 = (⟨#[109, 97, 105, 110]⟩ : ByteArray))
 rotate_left
 ·
  replace H := Gets.ct H c843
  refine sk rfl rfl <| pt0 rfl rfl rfl <| as0 rfl rfl <| .fin ?_
  obtain rfl := Gets.out H
  exact rt i2 rfl () 0 [] 0 (.cons (res_tmp rfl) .nil)
 replace H := Gets.cf H c843
 refine mvg rfl rfl rfl <| pf0 rfl rfl rfl <| as0 rfl rfl <| .fin ?_
 obtain rfl := Gets.out H
 exact rt i2 rfl () 0 [] 0 (.cons (res_tmp rfl) .nil)
theorem concourseref03_Local.c {k : Nat} {a0 : Edu} {r : Bool} (h : concourseref03_Local.f k a0 = some r) : Pt Tryz.prog 44 [agg (Edu.enc a0)] (vB r) := by
 unfold concourseref03_Local.f at h
 refine (Tr.body Tryz.func44 (c := _) rfl Tryz.ntmps44 (Nat.le_of_ble_eq_true rfl) fun R0 F => ?_).pt
 replace h := Gets.of h
 have H := h
 clear h
 refine WP.seq <| rg 2 1 <| Dv.box rfl trivial rfl cA nofun fun b844 => as0 rfl rfl <| .fin <| WP.seq <| rg 4 0 <| fb rfl trivial rfl fa30_2 <| ld 0 rfl trivial rfl sc9 rfl rfl <| el H fun t845 h846 H => cl rfl cal63 rfl (concourseref01_Named.c h846) <| as0 rfl rfl <| .fin <| WP.seq <| rg 4 0 <| fb rfl trivial rfl fa30_1 <| ld 0 rfl trivial rfl sc9 rfl rfl <| el H fun t847 h848 H => cl rfl cal63 rfl (concourseref01_Named.c h848) <| as0 rfl rfl <| .fin <| WP.seq <| rg 4 0 <| fb rfl trivial rfl fa30_3 <| ld 0 rfl trivial rfl sc9 rfl rfl <| el H fun t849 h850 H => cl rfl cal64 rfl (concourseref01_Event.c h850) <| as0 rfl rfl <| .fin <| WP.seq <| rg 4 0 <| fb rfl trivial rfl fa30_4 <| ld 0 rfl trivial rfl sc9 rfl rfl <| el H fun t851 h852 H => cl rfl cal65 rfl (concourseref01_Thread.c h852) <| as0 rfl rfl <| .fin <| WP.seq <| WP.seq <| rg 22 0 <| mv0 rfl rfl <| un0 rfl rfl (run_not _) <| mv0 rfl rfl ?_
 cases c853 : !t845
 rotate_left
 ·
  replace H := Gets.ct H c853
  refine sk rfl rfl <| sk rfl rfl <| sk rfl rfl <| pt0 rfl rfl rfl <| mv0 rfl rfl <| sk rfl rfl <| sk rfl rfl <| sk rfl rfl <| pt0 rfl rfl rfl <| mv0 rfl rfl <| sk rfl rfl <| sk rfl rfl <| sk rfl rfl <| pt0 rfl rfl rfl <| mv0 rfl rfl <| sk rfl rfl <| sk rfl rfl <| sk rfl rfl <| pt0 rfl rfl rfl <| .fin <| WP.cond rfl (fun _ => ?_) nofun
  refine WP.seq <| rg 1 0 <| as0 rfl rfl <| .fin ?_
  obtain rfl := Gets.out H
  exact rt i2 rfl () 1 [0] 1 (.cons (res_tmp rfl) .nil)
 replace H := Gets.cf H c853
 refine fb rfl (gg rfl) rfl fa30_9 <| ld 0 rfl (gg rfl) rfl sc3 rfl rfl <| bng rfl rfl rfl rfl run_lt <| pf0 rfl rfl rfl <| mv0 rfl rfl ?_
 cases c855 : decide (a0.fTick < 0)
 rotate_left
 ·
  replace H := Gets.ct H c855
  refine sk rfl rfl <| sk rfl rfl <| sk rfl rfl <| pt0 rfl rfl rfl <| mv0 rfl rfl <| sk rfl rfl <| sk rfl rfl <| sk rfl rfl <| pt0 rfl rfl rfl <| mv0 rfl rfl <| sk rfl rfl <| sk rfl rfl <| sk rfl rfl <| pt0 rfl rfl rfl <| .fin <| WP.cond rfl (fun _ => ?_) nofun
  refine WP.seq <| rg 1 0 <| as0 rfl rfl <| .fin ?_
  obtain rfl := Gets.out H
  exact rt i2 rfl () 1 [0] 1 (.cons (res_tmp rfl) .nil)
 replace H := Gets.cf H c855
 refine fb rfl (gg rfl) rfl fa30_9 <| ld 0 rfl (gg rfl) rfl sc3 rfl rfl <| bng rfl rfl rfl rfl run_gt <| pf0 rfl rfl rfl <| mv0 rfl rfl ?_
 cases c857 : decide (1099511627776 < a0.fTick)
 rotate_left
 ·
  replace H := Gets.ct H c857
  refine sk rfl rfl <| sk rfl rfl <| sk rfl rfl <| pt0 rfl rfl rfl <| mv0 rfl rfl <| sk rfl rfl <| sk rfl rfl <| sk rfl rfl <| pt0 rfl rfl rfl <| .fin <| WP.cond rfl (fun _ => ?_) nofun
  refine WP.seq <| rg 1 0 <| as0 rfl rfl <| .fin ?_
  obtain rfl := Gets.out H
  exact rt i2 rfl () 1 [0] 1 (.cons (res_tmp rfl) .nil)
 replace H := Gets.cf H c857
 refine fb rfl (gg rfl) rfl fa30_10 <| ld 0 rfl (gg rfl) rfl sc3 rfl rfl <| bng rfl rfl rfl rfl run_lt <| pf0 rfl rfl rfl <| mv0 rfl rfl ?_
 cases c859 : decide (a0.fStamp < 0)
 rotate_left
 ·
  replace H := Gets.ct H c859
  refine sk rfl rfl <| sk rfl rfl <| sk rfl rfl <| pt0 rfl rfl rfl <| .fin <| WP.cond rfl (fun _ => ?_) nofun
  refine WP.seq <| rg 1 0 <| as0 rfl rfl <| .fin ?_
  obtain rfl := Gets.out H
  exact rt i2 rfl () 1 [0] 1 (.cons (res_tmp rfl) .nil)
 replace H := Gets.cf H c859
 refine fb rfl (gg rfl) rfl fa30_10 <| ld 0 rfl (gg rfl) rfl sc3 rfl rfl <| bng rfl rfl rfl rfl run_gt <| pf0 rfl rfl rfl <| .fin <| cd H rfl (fun _ H => ?_) (fun _ H => ?_)
 ·
  refine WP.seq <| rg 1 0 <| as0 rfl rfl <| .fin ?_
  obtain rfl := Gets.out H
  exact rt i2 rfl () 1 [0] 1 (.cons (res_tmp rfl) .nil)
 refine WP.skip <| WP.seq <| WP.seq <| rg 2 0 <| fb rfl trivial rfl fa30_0 <| ld 0 rfl trivial rfl sc3 rfl rfl <| .fin <| WP.block <| WP.seq <| rg 2 0 <| bn0 rfl rfl rfl run_eq <| as0 rfl rfl <| .fin <| cd H rfl (fun _ H => ?_) (fun _ H => ?_)
 ·
  refine WP.seq <| rg 23 0 <| mv0 rfl rfl <| mv0 rfl rfl ?_
  cases c863 : t847
  ·
   replace H := Gets.cf H c863
   refine sk rfl rfl <| pf0 rfl rfl rfl <| mv0 rfl rfl <| sk rfl rfl <| pf0 rfl rfl rfl <| mv0 rfl rfl <| sk rfl rfl <| sk rfl rfl <| sk rfl rfl <| pf0 rfl rfl rfl <| mv0 rfl rfl <| sk rfl rfl <| sk rfl rfl <| sk rfl rfl <| pf0 rfl rfl rfl <| mv0 rfl rfl <| sk rfl rfl <| sk rfl rfl <| sk rfl rfl <| pf0 rfl rfl rfl <| as0 rfl rfl <| .fin ?_
   obtain rfl := Gets.out H
   exact rt i2 rfl () 1 [0] 1 (.cons (res_tmp rfl) .nil)
  replace H := Gets.ct H c863
  refine mvg rfl rfl rfl <| pt0 rfl rfl rfl <| mv0 rfl rfl ?_
  cases c864 : t849
  ·
   replace H := Gets.cf H c864
   refine sk rfl rfl <| pf0 rfl rfl rfl <| mv0 rfl rfl <| sk rfl rfl <| sk rfl rfl <| sk rfl rfl <| pf0 rfl rfl rfl <| mv0 rfl rfl <| sk rfl rfl <| sk rfl rfl <| sk rfl rfl <| pf0 rfl rfl rfl <| mv0 rfl rfl <| sk rfl rfl <| sk rfl rfl <| sk rfl rfl <| pf0 rfl rfl rfl <| as0 rfl rfl <| .fin ?_
   obtain rfl := Gets.out H
   exact rt i2 rfl () 1 [0] 1 (.cons (res_tmp rfl) .nil)
  replace H := Gets.ct H c864
  refine mvg rfl rfl rfl <| pt0 rfl rfl rfl <| mv0 rfl rfl ?_
  cases c865 : t851
  ·
   replace H := Gets.cf H c865
   refine sk rfl rfl <| sk rfl rfl <| sk rfl rfl <| pf0 rfl rfl rfl <| mv0 rfl rfl <| sk rfl rfl <| sk rfl rfl <| sk rfl rfl <| pf0 rfl rfl rfl <| mv0 rfl rfl <| sk rfl rfl <| sk rfl rfl <| sk rfl rfl <| pf0 rfl rfl rfl <| as0 rfl rfl <| .fin ?_
   obtain rfl := Gets.out H
   exact rt i2 rfl () 1 [0] 1 (.cons (res_tmp rfl) .nil)
  replace H := Gets.ct H c865
  refine fb rfl (gg rfl) rfl fa30_6 <| ld 0 rfl (gg rfl) rfl sc4 rfl rfl <| ung rfl rfl rfl (run_not _) <| pt0 rfl rfl rfl <| mv0 rfl rfl ?_
  cases c866 : !a0.fOn
  ·
   replace H := Gets.cf H c866
   refine sk rfl rfl <| sk rfl rfl <| sk rfl rfl <| pf0 rfl rfl rfl <| mv0 rfl rfl <| sk rfl rfl <| sk rfl rfl <| sk rfl rfl <| pf0 rfl rfl rfl <| as0 rfl rfl <| .fin ?_
   obtain rfl := Gets.out H
   exact rt i2 rfl () 1 [0] 1 (.cons (res_tmp rfl) .nil)
  replace H := Gets.ct H c866
  refine fb rfl (gg rfl) rfl fa30_7 <| ld 0 rfl (gg rfl) rfl sc3 rfl rfl <| bng rfl rfl rfl rfl run_eq <| pt0 rfl rfl rfl <| mv0 rfl rfl ?_
  cases c867 : (a0.fSpan == 0)
  ·
   replace H := Gets.cf H c867
   refine sk rfl rfl <| sk rfl rfl <| sk rfl rfl <| pf0 rfl rfl rfl <| as0 rfl rfl <| .fin ?_
   obtain rfl := Gets.out H
   exact rt i2 rfl () 1 [0] 1 (.cons (res_tmp rfl) .nil)
  replace H := Gets.ct H c867
  refine fb rfl (gg rfl) rfl fa30_8 <| ld 0 rfl (gg rfl) rfl sc3 rfl rfl <| bng rfl rfl rfl rfl run_eq <| pt0 rfl rfl rfl <| as0 rfl rfl <| .fin ?_
  obtain rfl := Gets.out H
  exact rt i2 rfl () 1 [0] 1 (.cons (res_tmp rfl) .nil)
 refine WP.seq <| rg 2 0 <| bn0 rfl rfl rfl run_eq <| as0 rfl rfl <| .fin <| cd H rfl (fun _ H => ?_) (fun _ H => ?_)
 rotate_left
 ·
  refine WP.seq <| rg 2 0 <| bn0 rfl rfl rfl run_eq <| as0 rfl rfl <| .fin <| cd H rfl (fun _ H => ?_) (fun _ H => ?_)
  rotate_left
  ·
   refine WP.skip <| WP.seq <| rg 1 0 <| as0 rfl rfl <| .fin ?_
   obtain rfl := Gets.out H
   exact rt i2 rfl () 1 [0] 1 (.cons (res_tmp rfl) .nil)
  refine WP.seq <| rg 39 0 <| fb rfl trivial rfl fa30_1 <| ld 0 rfl trivial rfl sc9 rfl rfl <| bn0 rfl rfl rfl run_seq <| mv0 rfl rfl ?_
  cases c898 : decide (a0.fRoom = (⟨#[]⟩ : ByteArray))
  ·
   replace H := Gets.cf H c898
   refine sk rfl rfl <| sk rfl rfl <| sk rfl rfl <| pf0 rfl rfl rfl <| mv0 rfl rfl <| sk rfl rfl <| sk rfl rfl <| sk rfl rfl <| pf0 rfl rfl rfl <| mv0 rfl rfl <| sk rfl rfl <| sk rfl rfl <| sk rfl rfl <| pf0 rfl rfl rfl <| mv0 rfl rfl <| sk rfl rfl <| sk rfl rfl <| sk rfl rfl <| pf0 rfl rfl rfl <| mv0 rfl rfl <| sk rfl rfl <| sk rfl rfl <| sk rfl rfl <| pf0 rfl rfl rfl <| mv0 rfl rfl <| sk rfl rfl <| sk rfl rfl <| sk rfl rfl <| pf0 rfl rfl rfl <| mv0 rfl rfl <| sk rfl rfl <| sk rfl rfl <| sk rfl rfl <| pf0 rfl rfl rfl <| as0 rfl rfl <| .fin ?_
   obtain rfl := Gets.out H
   exact rt i2 rfl () 1 [0] 1 (.cons (res_tmp rfl) .nil)
  replace H := Gets.ct H c898
  refine fb rfl (gg rfl) rfl fa30_3 <| ld 0 rfl (gg rfl) rfl sc9 rfl rfl <| bng rfl rfl rfl rfl run_seq <| pt0 rfl rfl rfl <| mv0 rfl rfl ?_
  cases c899 : decide (a0.fEvent = (⟨#[]⟩ : ByteArray))
  ·
   replace H := Gets.cf H c899
   refine sk rfl rfl <| sk rfl rfl <| sk rfl rfl <| pf0 rfl rfl rfl <| mv0 rfl rfl <| sk rfl rfl <| sk rfl rfl <| sk rfl rfl <| pf0 rfl rfl rfl <| mv0 rfl rfl <| sk rfl rfl <| sk rfl rfl <| sk rfl rfl <| pf0 rfl rfl rfl <| mv0 rfl rfl <| sk rfl rfl <| sk rfl rfl <| sk rfl rfl <| pf0 rfl rfl rfl <| mv0 rfl rfl <| sk rfl rfl <| sk rfl rfl <| sk rfl rfl <| pf0 rfl rfl rfl <| mv0 rfl rfl <| sk rfl rfl <| sk rfl rfl <| sk rfl rfl <| pf0 rfl rfl rfl <| as0 rfl rfl <| .fin ?_
   obtain rfl := Gets.out H
   exact rt i2 rfl () 1 [0] 1 (.cons (res_tmp rfl) .nil)
  replace H := Gets.ct H c899
  refine fb rfl (gg rfl) rfl fa30_4 <| ld 0 rfl (gg rfl) rfl sc9 rfl rfl <| bng rfl rfl rfl rfl run_seq <| pt0 rfl rfl rfl <| mv0 rfl rfl ?_
  cases c900 : decide (a0.fThread = (⟨#[]⟩ : ByteArray))
  ·
   replace H := Gets.cf H c900
   refine sk rfl rfl <| sk rfl rfl <| sk rfl rfl <| pf0 rfl rfl rfl <| mv0 rfl rfl <| sk rfl rfl <| sk rfl rfl <| sk rfl rfl <| pf0 rfl rfl rfl <| mv0 rfl rfl <| sk rfl rfl <| sk rfl rfl <| sk rfl rfl <| pf0 rfl rfl rfl <| mv0 rfl rfl <| sk rfl rfl <| sk rfl rfl <| sk rfl rfl <| pf0 rfl rfl rfl <| mv0 rfl rfl <| sk rfl rfl <| sk rfl rfl <| sk rfl rfl <| pf0 rfl rfl rfl <| as0 rfl rfl <| .fin ?_
   obtain rfl := Gets.out H
   exact rt i2 rfl () 1 [0] 1 (.cons (res_tmp rfl) .nil)
  replace H := Gets.ct H c900
  refine fb rfl (gg rfl) rfl fa30_6 <| ld 0 rfl (gg rfl) rfl sc4 rfl rfl <| ung rfl rfl rfl (run_not _) <| pt0 rfl rfl rfl <| mv0 rfl rfl ?_
  cases c901 : !a0.fOn
  ·
   replace H := Gets.cf H c901
   refine sk rfl rfl <| sk rfl rfl <| sk rfl rfl <| pf0 rfl rfl rfl <| mv0 rfl rfl <| sk rfl rfl <| sk rfl rfl <| sk rfl rfl <| pf0 rfl rfl rfl <| mv0 rfl rfl <| sk rfl rfl <| sk rfl rfl <| sk rfl rfl <| pf0 rfl rfl rfl <| mv0 rfl rfl <| sk rfl rfl <| sk rfl rfl <| sk rfl rfl <| pf0 rfl rfl rfl <| as0 rfl rfl <| .fin ?_
   obtain rfl := Gets.out H
   exact rt i2 rfl () 1 [0] 1 (.cons (res_tmp rfl) .nil)
  replace H := Gets.ct H c901
  refine fb rfl (gg rfl) rfl fa30_7 <| ld 0 rfl (gg rfl) rfl sc3 rfl rfl <| bng rfl rfl rfl rfl run_eq <| pt0 rfl rfl rfl <| mv0 rfl rfl ?_
  cases c902 : (a0.fSpan == 0)
  ·
   replace H := Gets.cf H c902
   refine sk rfl rfl <| sk rfl rfl <| sk rfl rfl <| pf0 rfl rfl rfl <| mv0 rfl rfl <| sk rfl rfl <| sk rfl rfl <| sk rfl rfl <| pf0 rfl rfl rfl <| mv0 rfl rfl <| sk rfl rfl <| sk rfl rfl <| sk rfl rfl <| pf0 rfl rfl rfl <| as0 rfl rfl <| .fin ?_
   obtain rfl := Gets.out H
   exact rt i2 rfl () 1 [0] 1 (.cons (res_tmp rfl) .nil)
  replace H := Gets.ct H c902
  refine fb rfl (gg rfl) rfl fa30_5 <| ld 0 rfl (gg rfl) rfl sc4 rfl rfl <| ung rfl rfl rfl (run_not _) <| pt0 rfl rfl rfl <| mv0 rfl rfl ?_
  cases c903 : !a0.fPrivate
  ·
   replace H := Gets.cf H c903
   refine sk rfl rfl <| sk rfl rfl <| sk rfl rfl <| pf0 rfl rfl rfl <| mv0 rfl rfl <| sk rfl rfl <| sk rfl rfl <| sk rfl rfl <| pf0 rfl rfl rfl <| as0 rfl rfl <| .fin ?_
   obtain rfl := Gets.out H
   exact rt i2 rfl () 1 [0] 1 (.cons (res_tmp rfl) .nil)
  replace H := Gets.ct H c903
  refine fb rfl (gg rfl) rfl fa30_8 <| ld 0 rfl (gg rfl) rfl sc3 rfl rfl <| bng rfl rfl rfl rfl run_ge <| pt0 rfl rfl rfl <| mv0 rfl rfl ?_
  cases c904 : decide (0 ≤ a0.fState)
  ·
   replace H := Gets.cf H c904
   refine sk rfl rfl <| sk rfl rfl <| sk rfl rfl <| pf0 rfl rfl rfl <| as0 rfl rfl <| .fin ?_
   obtain rfl := Gets.out H
   exact rt i2 rfl () 1 [0] 1 (.cons (res_tmp rfl) .nil)
  replace H := Gets.ct H c904
  refine fb rfl (gg rfl) rfl fa30_8 <| ld 0 rfl (gg rfl) rfl sc3 rfl rfl <| bng rfl rfl rfl rfl run_le <| pt0 rfl rfl rfl <| as0 rfl rfl <| .fin ?_
  obtain rfl := Gets.out H
  exact rt i2 rfl () 1 [0] 1 (.cons (res_tmp rfl) .nil)
 refine WP.seq <| rg 23 0 <| fb rfl trivial rfl fa30_6 <| ld 0 rfl trivial rfl sc4 rfl rfl <| mv0 rfl rfl ?_
 cases c869 : a0.fOn
 ·
  replace H := Gets.cf H c869
  refine sk rfl rfl <| sk rfl rfl <| sk rfl rfl <| pf0 rfl rfl rfl <| mv0 rfl rfl <| sk rfl rfl <| sk rfl rfl <| sk rfl rfl <| pf0 rfl rfl rfl <| mv0 rfl rfl <| fb rfl (gg rfl) rfl fa30_6 <| ld 0 rfl (gg rfl) rfl sc4 rfl rfl <| ung rfl rfl rfl (run_not _) <| mvg rfl rfl rfl ?_
  cases c890 : !a0.fOn
  ·
   replace H := Gets.cf H c890
   refine sk rfl rfl <| sk rfl rfl <| sk rfl rfl <| pfg rfl rfl rfl rfl <| pf0 rfl rfl rfl <| as0 rfl rfl <| .fin <| WP.seq <| rg 25 0 <| mv0 rfl rfl <| mv0 rfl rfl ?_
   cases c896 : t847
   ·
    replace H := Gets.cf H c896
    refine sk rfl rfl <| pf0 rfl rfl rfl <| mv0 rfl rfl <| sk rfl rfl <| sk rfl rfl <| sk rfl rfl <| pf0 rfl rfl rfl <| mv0 rfl rfl <| sk rfl rfl <| sk rfl rfl <| sk rfl rfl <| pf0 rfl rfl rfl <| mv0 rfl rfl <| sk rfl rfl <| sk rfl rfl <| sk rfl rfl <| pf0 rfl rfl rfl <| mv0 rfl rfl <| sk rfl rfl <| sk rfl rfl <| sk rfl rfl <| pf0 rfl rfl rfl <| as0 rfl rfl <| .fin ?_
    obtain rfl := Gets.out H
    exact rt i2 rfl () 1 [0] 1 (.cons (res_tmp rfl) .nil)
   replace H := Gets.ct H c896
   refine mvg rfl rfl rfl <| pt0 rfl rfl rfl <| mv0 rfl rfl <| sk rfl rfl <| sk rfl rfl <| sk rfl rfl <| pf0 rfl rfl rfl <| mv0 rfl rfl <| sk rfl rfl <| sk rfl rfl <| sk rfl rfl <| pf0 rfl rfl rfl <| mv0 rfl rfl <| sk rfl rfl <| sk rfl rfl <| sk rfl rfl <| pf0 rfl rfl rfl <| mv0 rfl rfl <| sk rfl rfl <| sk rfl rfl <| sk rfl rfl <| pf0 rfl rfl rfl <| as0 rfl rfl <| .fin ?_
   obtain rfl := Gets.out H
   exact rt i2 rfl () 1 [0] 1 (.cons (res_tmp rfl) .nil)
  replace H := Gets.ct H c890
  refine fb rfl (gg rfl) rfl fa30_7 <| ld 0 rfl (gg rfl) rfl sc3 rfl rfl <| bng rfl rfl rfl rfl run_eq <| ptg rfl rfl rfl rfl <| pf0 rfl rfl rfl <| as0 rfl rfl <| .fin <| WP.seq <| rg 25 0 <| mv0 rfl rfl <| mv0 rfl rfl ?_
  cases c891 : t847
  ·
   replace H := Gets.cf H c891
   refine sk rfl rfl <| pf0 rfl rfl rfl <| mv0 rfl rfl <| sk rfl rfl <| sk rfl rfl <| sk rfl rfl <| pf0 rfl rfl rfl <| mv0 rfl rfl <| sk rfl rfl <| sk rfl rfl <| sk rfl rfl <| pf0 rfl rfl rfl <| mv0 rfl rfl <| sk rfl rfl <| sk rfl rfl <| sk rfl rfl <| pf0 rfl rfl rfl <| mv0 rfl rfl <| sk rfl rfl <| sk rfl rfl <| sk rfl rfl <| pf0 rfl rfl rfl <| as0 rfl rfl <| .fin ?_
   obtain rfl := Gets.out H
   exact rt i2 rfl () 1 [0] 1 (.cons (res_tmp rfl) .nil)
  replace H := Gets.ct H c891
  refine mvg rfl rfl rfl <| pt0 rfl rfl rfl <| mv0 rfl rfl ?_
  cases c892 : (a0.fSpan == 0)
  ·
   replace H := Gets.cf H c892
   refine sk rfl rfl <| sk rfl rfl <| sk rfl rfl <| pf0 rfl rfl rfl <| mv0 rfl rfl <| sk rfl rfl <| sk rfl rfl <| sk rfl rfl <| pf0 rfl rfl rfl <| mv0 rfl rfl <| sk rfl rfl <| sk rfl rfl <| sk rfl rfl <| pf0 rfl rfl rfl <| mv0 rfl rfl <| sk rfl rfl <| sk rfl rfl <| sk rfl rfl <| pf0 rfl rfl rfl <| as0 rfl rfl <| .fin ?_
   obtain rfl := Gets.out H
   exact rt i2 rfl () 1 [0] 1 (.cons (res_tmp rfl) .nil)
  replace H := Gets.ct H c892
  refine fb rfl (gg rfl) rfl fa30_3 <| ld 0 rfl (gg rfl) rfl sc9 rfl rfl <| bng rfl rfl rfl rfl run_seq <| pt0 rfl rfl rfl <| mv0 rfl rfl ?_
  cases c893 : decide (a0.fEvent = (⟨#[]⟩ : ByteArray))
  ·
   replace H := Gets.cf H c893
   refine sk rfl rfl <| sk rfl rfl <| sk rfl rfl <| pf0 rfl rfl rfl <| mv0 rfl rfl <| sk rfl rfl <| sk rfl rfl <| sk rfl rfl <| pf0 rfl rfl rfl <| mv0 rfl rfl <| sk rfl rfl <| sk rfl rfl <| sk rfl rfl <| pf0 rfl rfl rfl <| as0 rfl rfl <| .fin ?_
   obtain rfl := Gets.out H
   exact rt i2 rfl () 1 [0] 1 (.cons (res_tmp rfl) .nil)
  replace H := Gets.ct H c893
  refine fb rfl (gg rfl) rfl fa30_4 <| ld 0 rfl (gg rfl) rfl sc9 rfl rfl <| bng rfl rfl rfl rfl run_seq <| pt0 rfl rfl rfl <| mv0 rfl rfl ?_
  cases c894 : decide (a0.fThread = (⟨#[]⟩ : ByteArray))
  ·
   replace H := Gets.cf H c894
   refine sk rfl rfl <| sk rfl rfl <| sk rfl rfl <| pf0 rfl rfl rfl <| mv0 rfl rfl <| sk rfl rfl <| sk rfl rfl <| sk rfl rfl <| pf0 rfl rfl rfl <| as0 rfl rfl <| .fin ?_
   obtain rfl := Gets.out H
   exact rt i2 rfl () 1 [0] 1 (.cons (res_tmp rfl) .nil)
  replace H := Gets.ct H c894
  refine fb rfl (gg rfl) rfl fa30_8 <| ld 0 rfl (gg rfl) rfl sc3 rfl rfl <| bng rfl rfl rfl rfl run_eq <| pt0 rfl rfl rfl <| mv0 rfl rfl ?_
  cases c895 : (a0.fState == 0)
  ·
   replace H := Gets.cf H c895
   refine sk rfl rfl <| sk rfl rfl <| sk rfl rfl <| pf0 rfl rfl rfl <| as0 rfl rfl <| .fin ?_
   obtain rfl := Gets.out H
   exact rt i2 rfl () 1 [0] 1 (.cons (res_tmp rfl) .nil)
  replace H := Gets.ct H c895
  refine fb rfl (gg rfl) rfl fa30_5 <| ld 0 rfl (gg rfl) rfl sc4 rfl rfl <| ung rfl rfl rfl (run_not _) <| pt0 rfl rfl rfl <| as0 rfl rfl <| .fin ?_
  obtain rfl := Gets.out H
  exact rt i2 rfl () 1 [0] 1 (.cons (res_tmp rfl) .nil)
 replace H := Gets.ct H c869
 refine fb rfl (gg rfl) rfl fa30_7 <| ld 0 rfl (gg rfl) rfl sc3 rfl rfl <| bng rfl rfl rfl rfl run_ge <| pt0 rfl rfl rfl <| mv0 rfl rfl ?_
 cases c870 : decide (1 ≤ a0.fSpan)
 ·
  replace H := Gets.cf H c870
  refine sk rfl rfl <| sk rfl rfl <| sk rfl rfl <| pf0 rfl rfl rfl <| mv0 rfl rfl <| fb rfl (gg rfl) rfl fa30_6 <| ld 0 rfl (gg rfl) rfl sc4 rfl rfl <| ung rfl rfl rfl (run_not _) <| mvg rfl rfl rfl ?_
  cases c883 : !a0.fOn
  ·
   replace H := Gets.cf H c883
   refine sk rfl rfl <| sk rfl rfl <| sk rfl rfl <| pfg rfl rfl rfl rfl <| pf0 rfl rfl rfl <| as0 rfl rfl <| .fin <| WP.seq <| rg 25 0 <| mv0 rfl rfl <| mv0 rfl rfl ?_
   cases c889 : t847
   ·
    replace H := Gets.cf H c889
    refine sk rfl rfl <| pf0 rfl rfl rfl <| mv0 rfl rfl <| sk rfl rfl <| sk rfl rfl <| sk rfl rfl <| pf0 rfl rfl rfl <| mv0 rfl rfl <| sk rfl rfl <| sk rfl rfl <| sk rfl rfl <| pf0 rfl rfl rfl <| mv0 rfl rfl <| sk rfl rfl <| sk rfl rfl <| sk rfl rfl <| pf0 rfl rfl rfl <| mv0 rfl rfl <| sk rfl rfl <| sk rfl rfl <| sk rfl rfl <| pf0 rfl rfl rfl <| as0 rfl rfl <| .fin ?_
    obtain rfl := Gets.out H
    exact rt i2 rfl () 1 [0] 1 (.cons (res_tmp rfl) .nil)
   replace H := Gets.ct H c889
   refine mvg rfl rfl rfl <| pt0 rfl rfl rfl <| mv0 rfl rfl <| sk rfl rfl <| sk rfl rfl <| sk rfl rfl <| pf0 rfl rfl rfl <| mv0 rfl rfl <| sk rfl rfl <| sk rfl rfl <| sk rfl rfl <| pf0 rfl rfl rfl <| mv0 rfl rfl <| sk rfl rfl <| sk rfl rfl <| sk rfl rfl <| pf0 rfl rfl rfl <| mv0 rfl rfl <| sk rfl rfl <| sk rfl rfl <| sk rfl rfl <| pf0 rfl rfl rfl <| as0 rfl rfl <| .fin ?_
   obtain rfl := Gets.out H
   exact rt i2 rfl () 1 [0] 1 (.cons (res_tmp rfl) .nil)
  replace H := Gets.ct H c883
  refine fb rfl (gg rfl) rfl fa30_7 <| ld 0 rfl (gg rfl) rfl sc3 rfl rfl <| bng rfl rfl rfl rfl run_eq <| ptg rfl rfl rfl rfl <| pf0 rfl rfl rfl <| as0 rfl rfl <| .fin <| WP.seq <| rg 25 0 <| mv0 rfl rfl <| mv0 rfl rfl ?_
  cases c884 : t847
  ·
   replace H := Gets.cf H c884
   refine sk rfl rfl <| pf0 rfl rfl rfl <| mv0 rfl rfl <| sk rfl rfl <| sk rfl rfl <| sk rfl rfl <| pf0 rfl rfl rfl <| mv0 rfl rfl <| sk rfl rfl <| sk rfl rfl <| sk rfl rfl <| pf0 rfl rfl rfl <| mv0 rfl rfl <| sk rfl rfl <| sk rfl rfl <| sk rfl rfl <| pf0 rfl rfl rfl <| mv0 rfl rfl <| sk rfl rfl <| sk rfl rfl <| sk rfl rfl <| pf0 rfl rfl rfl <| as0 rfl rfl <| .fin ?_
   obtain rfl := Gets.out H
   exact rt i2 rfl () 1 [0] 1 (.cons (res_tmp rfl) .nil)
  replace H := Gets.ct H c884
  refine mvg rfl rfl rfl <| pt0 rfl rfl rfl <| mv0 rfl rfl ?_
  cases c885 : (a0.fSpan == 0)
  ·
   replace H := Gets.cf H c885
   refine sk rfl rfl <| sk rfl rfl <| sk rfl rfl <| pf0 rfl rfl rfl <| mv0 rfl rfl <| sk rfl rfl <| sk rfl rfl <| sk rfl rfl <| pf0 rfl rfl rfl <| mv0 rfl rfl <| sk rfl rfl <| sk rfl rfl <| sk rfl rfl <| pf0 rfl rfl rfl <| mv0 rfl rfl <| sk rfl rfl <| sk rfl rfl <| sk rfl rfl <| pf0 rfl rfl rfl <| as0 rfl rfl <| .fin ?_
   obtain rfl := Gets.out H
   exact rt i2 rfl () 1 [0] 1 (.cons (res_tmp rfl) .nil)
  replace H := Gets.ct H c885
  refine fb rfl (gg rfl) rfl fa30_3 <| ld 0 rfl (gg rfl) rfl sc9 rfl rfl <| bng rfl rfl rfl rfl run_seq <| pt0 rfl rfl rfl <| mv0 rfl rfl ?_
  cases c886 : decide (a0.fEvent = (⟨#[]⟩ : ByteArray))
  ·
   replace H := Gets.cf H c886
   refine sk rfl rfl <| sk rfl rfl <| sk rfl rfl <| pf0 rfl rfl rfl <| mv0 rfl rfl <| sk rfl rfl <| sk rfl rfl <| sk rfl rfl <| pf0 rfl rfl rfl <| mv0 rfl rfl <| sk rfl rfl <| sk rfl rfl <| sk rfl rfl <| pf0 rfl rfl rfl <| as0 rfl rfl <| .fin ?_
   obtain rfl := Gets.out H
   exact rt i2 rfl () 1 [0] 1 (.cons (res_tmp rfl) .nil)
  replace H := Gets.ct H c886
  refine fb rfl (gg rfl) rfl fa30_4 <| ld 0 rfl (gg rfl) rfl sc9 rfl rfl <| bng rfl rfl rfl rfl run_seq <| pt0 rfl rfl rfl <| mv0 rfl rfl ?_
  cases c887 : decide (a0.fThread = (⟨#[]⟩ : ByteArray))
  ·
   replace H := Gets.cf H c887
   refine sk rfl rfl <| sk rfl rfl <| sk rfl rfl <| pf0 rfl rfl rfl <| mv0 rfl rfl <| sk rfl rfl <| sk rfl rfl <| sk rfl rfl <| pf0 rfl rfl rfl <| as0 rfl rfl <| .fin ?_
   obtain rfl := Gets.out H
   exact rt i2 rfl () 1 [0] 1 (.cons (res_tmp rfl) .nil)
  replace H := Gets.ct H c887
  refine fb rfl (gg rfl) rfl fa30_8 <| ld 0 rfl (gg rfl) rfl sc3 rfl rfl <| bng rfl rfl rfl rfl run_eq <| pt0 rfl rfl rfl <| mv0 rfl rfl ?_
  cases c888 : (a0.fState == 0)
  ·
   replace H := Gets.cf H c888
   refine sk rfl rfl <| sk rfl rfl <| sk rfl rfl <| pf0 rfl rfl rfl <| as0 rfl rfl <| .fin ?_
   obtain rfl := Gets.out H
   exact rt i2 rfl () 1 [0] 1 (.cons (res_tmp rfl) .nil)
  replace H := Gets.ct H c888
  refine fb rfl (gg rfl) rfl fa30_5 <| ld 0 rfl (gg rfl) rfl sc4 rfl rfl <| ung rfl rfl rfl (run_not _) <| pt0 rfl rfl rfl <| as0 rfl rfl <| .fin ?_
  obtain rfl := Gets.out H
  exact rt i2 rfl () 1 [0] 1 (.cons (res_tmp rfl) .nil)
 replace H := Gets.ct H c870
 refine fb rfl (gg rfl) rfl fa30_7 <| ld 0 rfl (gg rfl) rfl sc3 rfl rfl <| bng rfl rfl rfl rfl run_le <| pt0 rfl rfl rfl <| mv0 rfl rfl ?_
 cases c871 : decide (a0.fSpan ≤ 60)
 rotate_left
 ·
  replace H := Gets.ct H c871
  refine sk rfl rfl <| sk rfl rfl <| sk rfl rfl <| sk rfl rfl <| sku rfl rfl <| sku rfl rfl <| sku rfl rfl <| sk rfl rfl <| pt0 rfl rfl rfl <| as0 rfl rfl <| .fin <| WP.seq <| rg 25 0 <| mv0 rfl rfl <| mv0 rfl rfl ?_
  cases c872 : t847
  ·
   replace H := Gets.cf H c872
   refine sk rfl rfl <| pf0 rfl rfl rfl <| mv0 rfl rfl <| sk rfl rfl <| sk rfl rfl <| sk rfl rfl <| pf0 rfl rfl rfl <| mv0 rfl rfl <| sk rfl rfl <| sk rfl rfl <| sk rfl rfl <| pf0 rfl rfl rfl <| mv0 rfl rfl <| sk rfl rfl <| sk rfl rfl <| sk rfl rfl <| pf0 rfl rfl rfl <| mv0 rfl rfl <| sk rfl rfl <| sk rfl rfl <| sk rfl rfl <| pf0 rfl rfl rfl <| as0 rfl rfl <| .fin ?_
   obtain rfl := Gets.out H
   exact rt i2 rfl () 1 [0] 1 (.cons (res_tmp rfl) .nil)
  replace H := Gets.ct H c872
  refine mvg rfl rfl rfl <| pt0 rfl rfl rfl <| mv0 rfl rfl <| fb rfl (gg rfl) rfl fa30_3 <| ld 0 rfl (gg rfl) rfl sc9 rfl rfl <| bng rfl rfl rfl rfl run_seq <| pt0 rfl rfl rfl <| mv0 rfl rfl ?_
  cases c873 : decide (a0.fEvent = (⟨#[]⟩ : ByteArray))
  ·
   replace H := Gets.cf H c873
   refine sk rfl rfl <| sk rfl rfl <| sk rfl rfl <| pf0 rfl rfl rfl <| mv0 rfl rfl <| sk rfl rfl <| sk rfl rfl <| sk rfl rfl <| pf0 rfl rfl rfl <| mv0 rfl rfl <| sk rfl rfl <| sk rfl rfl <| sk rfl rfl <| pf0 rfl rfl rfl <| as0 rfl rfl <| .fin ?_
   obtain rfl := Gets.out H
   exact rt i2 rfl () 1 [0] 1 (.cons (res_tmp rfl) .nil)
  replace H := Gets.ct H c873
  refine fb rfl (gg rfl) rfl fa30_4 <| ld 0 rfl (gg rfl) rfl sc9 rfl rfl <| bng rfl rfl rfl rfl run_seq <| pt0 rfl rfl rfl <| mv0 rfl rfl ?_
  cases c874 : decide (a0.fThread = (⟨#[]⟩ : ByteArray))
  ·
   replace H := Gets.cf H c874
   refine sk rfl rfl <| sk rfl rfl <| sk rfl rfl <| pf0 rfl rfl rfl <| mv0 rfl rfl <| sk rfl rfl <| sk rfl rfl <| sk rfl rfl <| pf0 rfl rfl rfl <| as0 rfl rfl <| .fin ?_
   obtain rfl := Gets.out H
   exact rt i2 rfl () 1 [0] 1 (.cons (res_tmp rfl) .nil)
  replace H := Gets.ct H c874
  refine fb rfl (gg rfl) rfl fa30_8 <| ld 0 rfl (gg rfl) rfl sc3 rfl rfl <| bng rfl rfl rfl rfl run_eq <| pt0 rfl rfl rfl <| mv0 rfl rfl ?_
  cases c875 : (a0.fState == 0)
  ·
   replace H := Gets.cf H c875
   refine sk rfl rfl <| sk rfl rfl <| sk rfl rfl <| pf0 rfl rfl rfl <| as0 rfl rfl <| .fin ?_
   obtain rfl := Gets.out H
   exact rt i2 rfl () 1 [0] 1 (.cons (res_tmp rfl) .nil)
  replace H := Gets.ct H c875
  refine fb rfl (gg rfl) rfl fa30_5 <| ld 0 rfl (gg rfl) rfl sc4 rfl rfl <| ung rfl rfl rfl (run_not _) <| pt0 rfl rfl rfl <| as0 rfl rfl <| .fin ?_
  obtain rfl := Gets.out H
  exact rt i2 rfl () 1 [0] 1 (.cons (res_tmp rfl) .nil)
 replace H := Gets.cf H c871
 refine fb rfl (gg rfl) rfl fa30_6 <| ld 0 rfl (gg rfl) rfl sc4 rfl rfl <| ung rfl rfl rfl (run_not _) <| mvg rfl rfl rfl ?_
 cases c876 : !a0.fOn
 ·
  replace H := Gets.cf H c876
  refine sk rfl rfl <| sk rfl rfl <| sk rfl rfl <| pfg rfl rfl rfl rfl <| pf0 rfl rfl rfl <| as0 rfl rfl <| .fin <| WP.seq <| rg 25 0 <| mv0 rfl rfl <| mv0 rfl rfl ?_
  cases c882 : t847
  ·
   replace H := Gets.cf H c882
   refine sk rfl rfl <| pf0 rfl rfl rfl <| mv0 rfl rfl <| sk rfl rfl <| sk rfl rfl <| sk rfl rfl <| pf0 rfl rfl rfl <| mv0 rfl rfl <| sk rfl rfl <| sk rfl rfl <| sk rfl rfl <| pf0 rfl rfl rfl <| mv0 rfl rfl <| sk rfl rfl <| sk rfl rfl <| sk rfl rfl <| pf0 rfl rfl rfl <| mv0 rfl rfl <| sk rfl rfl <| sk rfl rfl <| sk rfl rfl <| pf0 rfl rfl rfl <| as0 rfl rfl <| .fin ?_
   obtain rfl := Gets.out H
   exact rt i2 rfl () 1 [0] 1 (.cons (res_tmp rfl) .nil)
  replace H := Gets.ct H c882
  refine mvg rfl rfl rfl <| pt0 rfl rfl rfl <| mv0 rfl rfl <| sk rfl rfl <| sk rfl rfl <| sk rfl rfl <| pf0 rfl rfl rfl <| mv0 rfl rfl <| sk rfl rfl <| sk rfl rfl <| sk rfl rfl <| pf0 rfl rfl rfl <| mv0 rfl rfl <| sk rfl rfl <| sk rfl rfl <| sk rfl rfl <| pf0 rfl rfl rfl <| mv0 rfl rfl <| sk rfl rfl <| sk rfl rfl <| sk rfl rfl <| pf0 rfl rfl rfl <| as0 rfl rfl <| .fin ?_
  obtain rfl := Gets.out H
  exact rt i2 rfl () 1 [0] 1 (.cons (res_tmp rfl) .nil)
 replace H := Gets.ct H c876
 refine fb rfl (gg rfl) rfl fa30_7 <| ld 0 rfl (gg rfl) rfl sc3 rfl rfl <| bng rfl rfl rfl rfl run_eq <| ptg rfl rfl rfl rfl <| pf0 rfl rfl rfl <| as0 rfl rfl <| .fin <| WP.seq <| rg 25 0 <| mv0 rfl rfl <| mv0 rfl rfl ?_
 cases c877 : t847
 ·
  replace H := Gets.cf H c877
  refine sk rfl rfl <| pf0 rfl rfl rfl <| mv0 rfl rfl <| sk rfl rfl <| sk rfl rfl <| sk rfl rfl <| pf0 rfl rfl rfl <| mv0 rfl rfl <| sk rfl rfl <| sk rfl rfl <| sk rfl rfl <| pf0 rfl rfl rfl <| mv0 rfl rfl <| sk rfl rfl <| sk rfl rfl <| sk rfl rfl <| pf0 rfl rfl rfl <| mv0 rfl rfl <| sk rfl rfl <| sk rfl rfl <| sk rfl rfl <| pf0 rfl rfl rfl <| as0 rfl rfl <| .fin ?_
  obtain rfl := Gets.out H
  exact rt i2 rfl () 1 [0] 1 (.cons (res_tmp rfl) .nil)
 replace H := Gets.ct H c877
 refine mvg rfl rfl rfl <| pt0 rfl rfl rfl <| mv0 rfl rfl ?_
 cases c878 : (a0.fSpan == 0)
 ·
  replace H := Gets.cf H c878
  refine sk rfl rfl <| sk rfl rfl <| sk rfl rfl <| pf0 rfl rfl rfl <| mv0 rfl rfl <| sk rfl rfl <| sk rfl rfl <| sk rfl rfl <| pf0 rfl rfl rfl <| mv0 rfl rfl <| sk rfl rfl <| sk rfl rfl <| sk rfl rfl <| pf0 rfl rfl rfl <| mv0 rfl rfl <| sk rfl rfl <| sk rfl rfl <| sk rfl rfl <| pf0 rfl rfl rfl <| as0 rfl rfl <| .fin ?_
  obtain rfl := Gets.out H
  exact rt i2 rfl () 1 [0] 1 (.cons (res_tmp rfl) .nil)
 replace H := Gets.ct H c878
 refine fb rfl (gg rfl) rfl fa30_3 <| ld 0 rfl (gg rfl) rfl sc9 rfl rfl <| bng rfl rfl rfl rfl run_seq <| pt0 rfl rfl rfl <| mv0 rfl rfl ?_
 cases c879 : decide (a0.fEvent = (⟨#[]⟩ : ByteArray))
 ·
  replace H := Gets.cf H c879
  refine sk rfl rfl <| sk rfl rfl <| sk rfl rfl <| pf0 rfl rfl rfl <| mv0 rfl rfl <| sk rfl rfl <| sk rfl rfl <| sk rfl rfl <| pf0 rfl rfl rfl <| mv0 rfl rfl <| sk rfl rfl <| sk rfl rfl <| sk rfl rfl <| pf0 rfl rfl rfl <| as0 rfl rfl <| .fin ?_
  obtain rfl := Gets.out H
  exact rt i2 rfl () 1 [0] 1 (.cons (res_tmp rfl) .nil)
 replace H := Gets.ct H c879
 refine fb rfl (gg rfl) rfl fa30_4 <| ld 0 rfl (gg rfl) rfl sc9 rfl rfl <| bng rfl rfl rfl rfl run_seq <| pt0 rfl rfl rfl <| mv0 rfl rfl ?_
 cases c880 : decide (a0.fThread = (⟨#[]⟩ : ByteArray))
 ·
  replace H := Gets.cf H c880
  refine sk rfl rfl <| sk rfl rfl <| sk rfl rfl <| pf0 rfl rfl rfl <| mv0 rfl rfl <| sk rfl rfl <| sk rfl rfl <| sk rfl rfl <| pf0 rfl rfl rfl <| as0 rfl rfl <| .fin ?_
  obtain rfl := Gets.out H
  exact rt i2 rfl () 1 [0] 1 (.cons (res_tmp rfl) .nil)
 replace H := Gets.ct H c880
 refine fb rfl (gg rfl) rfl fa30_8 <| ld 0 rfl (gg rfl) rfl sc3 rfl rfl <| bng rfl rfl rfl rfl run_eq <| pt0 rfl rfl rfl <| mv0 rfl rfl ?_
 cases c881 : (a0.fState == 0)
 ·
  replace H := Gets.cf H c881
  refine sk rfl rfl <| sk rfl rfl <| sk rfl rfl <| pf0 rfl rfl rfl <| as0 rfl rfl <| .fin ?_
  obtain rfl := Gets.out H
  exact rt i2 rfl () 1 [0] 1 (.cons (res_tmp rfl) .nil)
 replace H := Gets.ct H c881
 refine fb rfl (gg rfl) rfl fa30_5 <| ld 0 rfl (gg rfl) rfl sc4 rfl rfl <| ung rfl rfl rfl (run_not _) <| pt0 rfl rfl rfl <| as0 rfl rfl <| .fin ?_
 obtain rfl := Gets.out H
 exact rt i2 rfl () 1 [0] 1 (.cons (res_tmp rfl) .nil)
theorem concourseref03_May.c {k : Nat} {a0 : Edu} {r : Bool} (h : concourseref03_May.f k a0 = some r) : Pt Tryz.prog 24 [agg (Edu.enc a0)] (vB r) := by
 unfold concourseref03_May.f at h
 refine (Tr.body Tryz.func24 (c := _) rfl Tryz.ntmps24 (Nat.le_of_ble_eq_true rfl) fun R0 F => ?_).pt
 replace h := Gets.of h
 have H := h
 clear h
 refine WP.seq <| rg 2 1 <| Dv.box rfl trivial rfl cA nofun fun b905 => as0 rfl rfl <| .fin <| WP.seq <| rg 3 0 <| lds 0 rfl trivial rfl sg30 rfl rfl <| el H fun t906 h907 H => cl rfl cal44 rfl (concourseref03_Local.c h907) <| as0 rfl rfl <| .fin <| WP.seq <| rg 7 0 <| mv0 rfl rfl <| mv0 rfl rfl ?_
 cases c908 : t906
 ·
  replace H := Gets.cf H c908
  refine sk rfl rfl <| sk rfl rfl <| sk rfl rfl <| pf0 rfl rfl rfl <| as0 rfl rfl <| .fin ?_
  obtain rfl := Gets.out H
  exact rt i2 rfl () 1 [0] 1 (.cons (res_tmp rfl) .nil)
 replace H := Gets.ct H c908
 refine fb rfl (gg rfl) rfl fa30_5 <| ld 0 rfl (gg rfl) rfl sc4 rfl rfl <| ung rfl rfl rfl (run_not _) <| pt0 rfl rfl rfl <| as0 rfl rfl <| .fin ?_
 obtain rfl := Gets.out H
 exact rt i2 rfl () 1 [0] 1 (.cons (res_tmp rfl) .nil)
theorem concourseref02_Number.c : ∀ (k : Nat) {a0 : Int} {r : (List Int)} (h : concourseref02_Number.f k a0 = some r), Tr Tryz.prog 66 [vI a0] [] (γ := OV) (fun _ => True) (fun g => eq g.1) (fun g => [own (intK .u8) g.1 r])
  | 0, _, _, h => by cases h
  | k + 1, a0, r, h => by
    rw [concourseref02_Number.f] at h
    refine Tr.body Tryz.func66 (c := _) rfl Tryz.ntmps66 (Nat.le_of_ble_eq_true rfl) fun R0 F => ?_
    replace h := Gets.of h
    have H := h
    clear h
    refine WP.seq <| rg 1 0 <| as0 rfl rfl <| .fin <| WP.seqn H id (fun p909 : Int => [(0, vI p909), (2, eq (.slice none 0 0)), (5, vB (decide (a0 < 0)))]) (fun p909 : Int => F) (fun p909 H => ?_) (fun H => ?_)
    rotate_left
    ·
     refine WP.seq <| rg 2 0 <| mv0 rfl rfl <| bn0 rfl rfl rfl run_lt <| .fin <| cd H rfl (fun _ H => ?_) (fun _ H => ?_)
     rotate_left
     ·
      refine WP.skip ?_
      replace H := Gets.out H
      exact jn a0 H
     refine rg 1 0 <| as0 rfl rfl <| .fin ?_
     replace H := Gets.out H
     exact jn 0 H
    refine WP.seq <| WP.seq <| rg 2 0 <| mv0 rfl rfl <| bn0 rfl rfl rfl run_lt <| .fin <| cd H rfl (fun _ H => ?_) (fun _ H => ?_)
    ·
     refine WP.seq <| rg 4 4 <| mv0 rfl rfl <| Dv.cvi rfl trivial rfl Tryz.underlying3 Tryz.underlying5 <| Dv.lito (intK .u8) ([IntKind.u8.wrap (p909)] : List Int) (css := [[eq (.int .u8 (IntKind.u8.wrap (p909)))]]) rfl trivial Tryz.underlying81 Tryz.underlying5 c5 z5 rfl (by decide) (by decide) rfl ⟨(cells_one (one_eq rfl)), trivial⟩ rfl rfl rfl nofun (fun v911 => ?_)
     refine as0 rfl rfl <| .fin ?_
     obtain rfl := Gets.out H
     exact rt i2 rfl v911 1 [0] 0 (.cons (res_tmp rfl) .nil)
    refine WP.skip <| WP.seq <| rg 6 16 <| mv0 rfl rfl <| bn0 rfl rfl rfl (run_rem (by decide)) <| bn0 rfl rfl rfl run_add <| Dv.cvi rfl trivial rfl Tryz.underlying3 Tryz.underlying5 <| Dv.lito (intK .u8) ([IntKind.u8.wrap (w64 (128 + (p909.tmod 128)))] : List Int) (css := [[eq (.int .u8 (IntKind.u8.wrap (w64 (128 + (p909.tmod 128)))))]]) rfl trivial Tryz.underlying81 Tryz.underlying5 c5 z5 rfl (by decide) (by decide) rfl ⟨(cells_one (one_eq rfl)), trivial⟩ rfl rfl rfl nofun (fun v912 => ?_)
    refine as0 rfl rfl <| .fin <| WP.seq <| rg 6 24 <| mv0 rfl rfl <| mv0 rfl rfl <| bn0 rfl rfl rfl (run_quo (by decide)) <| el H fun t913 h914 H => cx 1 [0] cal66 (concourseref02_Number.c k h914) nofun fun g915 _ => ?_
    refine gr H fun g916 H => ap (intK .u8) 1 t913 (src_own (mem_at 0 rfl)) Tryz.underlying81 (.inr ⟨_, Tryz.underlying81⟩) inf5 g916 nofun fun v917 => ?_
    refine as0 rfl rfl <| .fin ?_
    obtain rfl := Gets.out H
    exact rt i2 rfl v917 2 [0,1] 1 (.cons (res_tmp rfl) .nil)
theorem concourseref02_Text.c {k : Nat} {a0 : ByteArray} {r : (List Int)} (h : concourseref02_Text.f k a0 = some r) : Tr Tryz.prog 67 [vS a0] [] (γ := OV) (fun _ => True) (fun g => eq g.1) (fun g => [own (intK .u8) g.1 r]) := by
 unfold concourseref02_Text.f at h
 refine Tr.body Tryz.func67 (c := _) rfl Tryz.ntmps67 (Nat.le_of_ble_eq_true rfl) fun R0 F => ?_
 replace h := Gets.of h
 have H := h
 clear h
 refine WP.seq <| rg 1 0 <| as0 rfl rfl <| .fin <| WP.seq <| rg 6 20 <| mv0 rfl rfl <| Dv.lens rfl trivial rfl Tryz.underlying9 <| el H fun t919 h920 H => cx 0 [] cal66 (concourseref02_Number.c _ h920) nofun fun g921 _ => ?_
 refine mv0 rfl rfl <| gr H fun g922 H => ap (intK .u8) 0 (strBs a0) src_str Tryz.underlying81 (.inl Tryz.underlying9) inf5 g922 nofun fun v923 => ?_
 refine as0 rfl rfl <| .fin ?_
 obtain rfl := Gets.out H
 exact rt i2 rfl v923 1 [0] 0 (.cons (res_tmp rfl) .nil)
theorem concourseref02_Flag.c {a0 : Bool} {r : (List Int)} (h : concourseref02_Flag.f a0 = some r) : Pt Tryz.prog 68 [vB a0] (sl (intK .u8) r) := by
 unfold concourseref02_Flag.f at h
 refine (Tr.body Tryz.func68 (c := _) rfl Tryz.ntmps68 (Nat.le_of_ble_eq_true rfl) fun R0 F => ?_).pt
 replace h := Gets.of h
 have H := h
 clear h
 refine WP.seq <| rg 1 0 <| as0 rfl rfl <| .fin <| WP.seq <| WP.seq <| rg 1 0 <| mv0 rfl rfl <| .fin <| cd H rfl (fun _ H => ?_) (fun _ H => ?_)
 ·
  refine WP.seq <| rg 2 0 <| Dv.lit (intK .u8) ([1] : List Int) (css := [[eq (.int .u8 1)]]) rfl trivial Tryz.underlying81 Tryz.underlying5 c5 z5 rfl (by decide) (by decide) rfl ⟨(cells_one (one_eq rfl)), trivial⟩ rfl rfl rfl <| as0 rfl rfl <| .fin ?_
  obtain rfl := Gets.out H
  exact rt i2 rfl () 0 [] 0 (.cons (res_tmp rfl) .nil)
 refine WP.skip <| WP.seq <| rg 2 0 <| Dv.lit (intK .u8) ([0] : List Int) (css := [[eq (.int .u8 0)]]) rfl trivial Tryz.underlying81 Tryz.underlying5 c5 z5 rfl (by decide) (by decide) rfl ⟨(cells_one (one_eq rfl)), trivial⟩ rfl rfl rfl <| as0 rfl rfl <| .fin ?_
 obtain rfl := Gets.out H
 exact rt i2 rfl () 0 [] 0 (.cons (res_tmp rfl) .nil)
theorem concourseref03_Bytes.c {k : Nat} {a0 : Edu} {r : (List Int)} (h : concourseref03_Bytes.f k a0 = some r) : Tr Tryz.prog 45 [agg (Edu.enc a0)] [] (γ := OV) (fun _ => True) (fun g => eq g.1) (fun g => [own (intK .u8) g.1 r]) := by
 unfold concourseref03_Bytes.f at h
 refine Tr.body Tryz.func45 (c := _) rfl Tryz.ntmps45 (Nat.le_of_ble_eq_true rfl) fun R0 F => ?_
 replace h := Gets.of h
 have H := h
 clear h
 refine WP.seq <| rg 2 1 <| Dv.box rfl trivial rfl cA nofun fun b925 => as0 rfl rfl <| .fin <| WP.seq <| rg 4 4 <| fb rfl trivial rfl fa30_0 <| ld 0 rfl trivial rfl sc3 rfl rfl <| el H fun t926 h927 H => cx 1 [0] cal66 (concourseref02_Number.c _ h927) nofun fun g928 _ => ?_
 refine as0 rfl rfl <| .fin <| WP.seq <| rg 6 24 <| mv0 rfl rfl <| fb rfl trivial rfl fa30_1 <| ld 1 rfl trivial rfl sc9 rfl rfl <| el H fun t929 h930 H => cx 2 [0,1] cal67 (concourseref02_Text.c h930) nofun fun g931 _ => ?_
 refine gr H fun g932 H => ap (intK .u8) 1 t929 (src_own (mem_at 0 rfl)) Tryz.underlying81 (.inr ⟨_, Tryz.underlying81⟩) inf5 g932 nofun fun v933 => ?_
 refine as0 rfl rfl <| .fin <| WP.seq <| rg 6 24 <| mv0 rfl rfl <| fb rfl trivial rfl fa30_2 <| ld 2 rfl trivial rfl sc9 rfl rfl <| el H fun t934 h935 H => cx 3 [0,1,2] cal67 (concourseref02_Text.c h935) nofun fun g936 _ => ?_
 refine gr H fun g937 H => ap (intK .u8) 2 t934 (src_own (mem_at 0 rfl)) Tryz.underlying81 (.inr ⟨_, Tryz.underlying81⟩) inf5 g937 nofun fun v938 => ?_
 refine as0 rfl rfl <| .fin <| WP.seq <| rg 6 24 <| mv0 rfl rfl <| fb rfl trivial rfl fa30_3 <| ld 3 rfl trivial rfl sc9 rfl rfl <| el H fun t939 h940 H => cx 4 [0,1,2,3] cal67 (concourseref02_Text.c h940) nofun fun g941 _ => ?_
 refine gr H fun g942 H => ap (intK .u8) 3 t939 (src_own (mem_at 0 rfl)) Tryz.underlying81 (.inr ⟨_, Tryz.underlying81⟩) inf5 g942 nofun fun v943 => ?_
 refine as0 rfl rfl <| .fin <| WP.seq <| rg 6 24 <| mv0 rfl rfl <| fb rfl trivial rfl fa30_4 <| ld 4 rfl trivial rfl sc9 rfl rfl <| el H fun t944 h945 H => cx 5 [0,1,2,3,4] cal67 (concourseref02_Text.c h945) nofun fun g946 _ => ?_
 refine gr H fun g947 H => ap (intK .u8) 4 t944 (src_own (mem_at 0 rfl)) Tryz.underlying81 (.inr ⟨_, Tryz.underlying81⟩) inf5 g947 nofun fun v948 => ?_
 refine as0 rfl rfl <| .fin <| WP.seq <| rg 6 16 <| mv0 rfl rfl <| fb rfl trivial rfl fa30_6 <| ld 5 rfl trivial rfl sc4 rfl rfl <| el H fun t949 h950 H => cl rfl cal68 rfl (concourseref02_Flag.c h950) <| gr H fun g951 H => ap (intK .u8) 4 t949 src_sl Tryz.underlying81 (.inr ⟨_, Tryz.underlying81⟩) inf5 g951 nofun fun v952 => ?_
 refine as0 rfl rfl <| .fin <| WP.seq <| rg 6 24 <| mv0 rfl rfl <| fb rfl trivial rfl fa30_7 <| ld 5 rfl trivial rfl sc3 rfl rfl <| el H fun t953 h954 H => cx 6 [0,1,2,3,4,5] cal66 (concourseref02_Number.c _ h954) nofun fun g955 _ => ?_
 refine gr H fun g956 H => ap (intK .u8) 5 t953 (src_own (mem_at 0 rfl)) Tryz.underlying81 (.inr ⟨_, Tryz.underlying81⟩) inf5 g956 nofun fun v957 => ?_
 refine as0 rfl rfl <| .fin <| WP.seq <| rg 6 24 <| mv0 rfl rfl <| fb rfl trivial rfl fa30_8 <| ld 6 rfl trivial rfl sc3 rfl rfl <| el H fun t958 h959 H => cx 7 [0,1,2,3,4,5,6] cal66 (concourseref02_Number.c _ h959) nofun fun g960 _ => ?_
 refine gr H fun g961 H => ap (intK .u8) 6 t958 (src_own (mem_at 0 rfl)) Tryz.underlying81 (.inr ⟨_, Tryz.underlying81⟩) inf5 g961 nofun fun v962 => ?_
 refine as0 rfl rfl <| .fin <| WP.seq <| rg 6 24 <| mv0 rfl rfl <| fb rfl trivial rfl fa30_9 <| ld 7 rfl trivial rfl sc3 rfl rfl <| el H fun t963 h964 H => cx 8 [0,1,2,3,4,5,6,7] cal66 (concourseref02_Number.c _ h964) nofun fun g965 _ => ?_
 refine gr H fun g966 H => ap (intK .u8) 7 t963 (src_own (mem_at 0 rfl)) Tryz.underlying81 (.inr ⟨_, Tryz.underlying81⟩) inf5 g966 nofun fun v967 => ?_
 refine as0 rfl rfl <| .fin <| WP.seq <| rg 6 24 <| mv0 rfl rfl <| fb rfl trivial rfl fa30_10 <| ld 8 rfl trivial rfl sc3 rfl rfl <| el H fun t968 h969 H => cx 9 [0,1,2,3,4,5,6,7,8] cal66 (concourseref02_Number.c _ h969) nofun fun g970 _ => ?_
 refine gr H fun g971 H => ap (intK .u8) 8 t968 (src_own (mem_at 0 rfl)) Tryz.underlying81 (.inr ⟨_, Tryz.underlying81⟩) inf5 g971 nofun fun v972 => ?_
 refine as0 rfl rfl <| .fin ?_
 obtain rfl := Gets.out H
 exact rt i2 rfl v972 10 [0,1,2,3,4,5,6,7,9,8] 9 (.cons (res_tmp rfl) .nil)
theorem concourseref03_Compare.c {k : Nat} {a0 : Edu} {a1 : Edu} {r : Int} (h : concourseref03_Compare.f k a0 a1 = some r) : Pt Tryz.prog 25 [agg (Edu.enc a0), agg (Edu.enc a1)] (vI r) := by
 unfold concourseref03_Compare.f at h
 refine (Tr.body Tryz.func25 (c := _) rfl Tryz.ntmps25 (Nat.le_of_ble_eq_true rfl) fun R0 F => ?_).pt
 replace h := Gets.of h
 have H := h
 clear h
 refine WP.seq <| rg 3 3 <| Dv.box rfl trivial rfl cA nofun fun b973 => Dv.box rfl trivial rfl cA nofun fun b974 => as0 rfl rfl <| .fin <| WP.seq <| WP.seq <| rg 5 0 <| fb rfl trivial rfl fa30_10 <| ld 1 rfl trivial rfl sc3 rfl rfl <| fb rfl trivial rfl fa30_10 <| ld 0 rfl trivial rfl sc3 rfl rfl <| bn0 rfl rfl rfl run_lt <| .fin <| cd H rfl (fun _ H => ?_) (fun _ H => ?_)
 ·
  refine WP.seq <| rg 1 0 <| as0 rfl rfl <| .fin ?_
  obtain rfl := Gets.out H
  exact rt i2 rfl () 2 [0,1] 2 (.cons (res_tmp rfl) .nil)
 refine WP.skip <| WP.seq <| WP.seq <| rg 5 0 <| fb rfl trivial rfl fa30_10 <| ld 1 rfl trivial rfl sc3 rfl rfl <| fb rfl trivial rfl fa30_10 <| ld 0 rfl trivial rfl sc3 rfl rfl <| bn0 rfl rfl rfl run_gt <| .fin <| cd H rfl (fun _ H => ?_) (fun _ H => ?_)
 ·
  refine WP.seq <| rg 1 0 <| as0 rfl rfl <| .fin ?_
  obtain rfl := Gets.out H
  exact rt i2 rfl () 2 [0,1] 2 (.cons (res_tmp rfl) .nil)
 refine WP.skip <| WP.seq <| rg 4 2 <| lds 1 rfl trivial rfl sg30 rfl rfl <| el H fun t977 h978 H => cx 2 [0,1] cal45 (concourseref03_Bytes.c h978) nofun fun g979 _ => ?_
 refine Dv.gh (gh_frz (E' := [(0, agg (Edu.enc a0)), (1, agg (Edu.enc a1)), (2, eq (.pointer (some ⟨b973, 0, none⟩))), (3, eq (.pointer (some ⟨b974, 0, none⟩))), (4, vI 0), (11, vB (decide (a0.fStamp < a1.fStamp))), (16, vB (decide (a1.fStamp < a0.fStamp))), (18, sl (intK .u8) t977)]) (l' := [blk b974 30 (Edu.enc a1), blk b973 30 (Edu.enc a0)] ++ F) 0 rfl (cve_cons rfl cv_id (cve_cons rfl cv_id (cve_cons rfl cv_id (cve_cons rfl cv_id (cve_cons rfl cv_id (cve_cons rfl cv_id (cve_cons rfl cv_id (cve_cons rfl cv_eq cve_nil)))))))) (all2_app (.cons cva_id (.cons cva_id .nil)) fun _ => cva_id)) (fun _ _ => ?_)
 refine Dv.cvbs rfl trivial rfl Tryz.underlying81 Tryz.underlying5 Tryz.underlying9 <| as0 rfl rfl <| .fin <| WP.seq <| rg 4 2 <| lds 0 rfl trivial rfl sg30 rfl rfl <| el H fun t980 h981 H => cx 2 [0,1] cal45 (concourseref03_Bytes.c h981) nofun fun g982 _ => ?_
 refine Dv.gh (gh_frz (E' := [(0, agg (Edu.enc a0)), (1, agg (Edu.enc a1)), (2, eq (.pointer (some ⟨b973, 0, none⟩))), (3, eq (.pointer (some ⟨b974, 0, none⟩))), (4, vI 0), (5, vS (ofNums t977)), (11, vB (decide (a0.fStamp < a1.fStamp))), (16, vB (decide (a1.fStamp < a0.fStamp))), (21, sl (intK .u8) t980)]) (l' := [blk b974 30 (Edu.enc a1), blk b973 30 (Edu.enc a0)] ++ F) 0 rfl (cve_cons rfl cv_id (cve_cons rfl cv_id (cve_cons rfl cv_id (cve_cons rfl cv_id (cve_cons rfl cv_id (cve_cons rfl cv_id (cve_cons rfl cv_id (cve_cons rfl cv_id (cve_cons rfl cv_eq cve_nil))))))))) (all2_app (.cons cva_id (.cons cva_id .nil)) fun _ => cva_id)) (fun _ _ => ?_)
 refine Dv.cvbs rfl trivial rfl Tryz.underlying81 Tryz.underlying5 Tryz.underlying9 <| as0 rfl rfl <| .fin <| WP.seq <| WP.seq <| rg 3 0 <| mv0 rfl rfl <| mv0 rfl rfl <| bn0 rfl rfl rfl run_slt <| .fin <| cd H rfl (fun _ H => ?_) (fun _ H => ?_)
 ·
  refine WP.seq <| rg 1 0 <| as0 rfl rfl <| .fin ?_
  obtain rfl := Gets.out H
  exact rt i2 rfl () 2 [0,1] 2 (.cons (res_tmp rfl) .nil)
 refine WP.skip <| WP.seq <| WP.seq <| rg 3 0 <| mv0 rfl rfl <| mv0 rfl rfl <| bn0 rfl rfl rfl run_sgt <| .fin <| cd H rfl (fun _ H => ?_) (fun _ H => ?_)
 ·
  refine WP.seq <| rg 1 0 <| as0 rfl rfl <| .fin ?_
  obtain rfl := Gets.out H
  exact rt i2 rfl () 2 [0,1] 2 (.cons (res_tmp rfl) .nil)
 refine WP.skip <| WP.seq <| rg 1 0 <| as0 rfl rfl <| .fin ?_
 obtain rfl := Gets.out H
 exact rt i2 rfl () 2 [0,1] 2 (.cons (res_tmp rfl) .nil)
end Go.Proofs.YtmbodanckhidiaaGreat
