/- The walks. -/
import Derived.Test.YtegmafgodoikiaaGreatZMir
import Derived.Test.YtegmafgodoikiaaGreatConQ
import Derived.Eval
import Derived.Test.YtegmafgodoikiaaGreatZShelf
set_option linter.all false
set_option maxRecDepth 10000
set_option maxHeartbeats 20000000
namespace Go.Proofs.YtegmafgodoikiaaGreat
open Go Go.Sp
theorem heap_New.c {r : HHeap} (h : heap_New.f = some r) : Tr Tryz.prog 27 [] [] (γ := OV) (fun _ => True) (fun g => eq g.1) (fun g => [HHeap.O g r]) := by
 unfold heap_New.f at h
 refine Tr.body Tryz.func27 (c := _) rfl Tryz.ntmps27 (Nat.le_of_ble_eq_true rfl) fun R0 F => ?_
 replace h := Gets.of h
 have H := h
 clear h
 refine WP.seq <| rg 1 0 <| as0 rfl rfl <| .fin <| WP.seq <| rg 4 5 <| Dv.mmk Value.string (fun x : Int => vI x) rfl trivial nofun (fun v1 => ?_)
 refine Dv.bld (qs := [eq (.slice none 0 0), eq v1.1]) (css := [[eq v1.1]]) rfl trivial Tryz.underlying81 pl81 z81 rfl ⟨(cells_one one_ov), trivial⟩ rfl rfl <| Dv.box rfl trivial rfl cA nofun fun b2 => as0 rfl rfl <| .fin <| wg (st_nil HEnt.K none) fun _ _ => ?_
 refine wg (HHeap.shut (p := (⟨.pointer (some ⟨b2, 0, none⟩), rfl⟩ : OV)) (m := (⟨([] : List HEnt), ([] : List (ByteArray × Int))⟩ : HHeap)) (b2, nilV, v1) rfl (pm 3 [1,0,2])) fun _ _ => ?_
 obtain rfl := Gets.out H
 exact rt i2 rfl (⟨.pointer (some ⟨b2, 0, none⟩), rfl⟩ : OV) 1 [0] 0 (.cons (res_tmp rfl) .nil)
theorem presence_New.c {r : PTab} (h : presence_New.f = some r) : Tr Tryz.prog 7 [] [] (γ := OV) (fun _ => True) (fun g => eq g.1) (fun g => [PTab.O g r]) := by
 unfold presence_New.f at h
 refine Tr.body Tryz.func7 (c := _) rfl Tryz.ntmps7 (Nat.le_of_ble_eq_true rfl) fun R0 F => ?_
 replace h := Gets.of h
 have H := h
 clear h
 refine WP.seq <| rg 1 0 <| as0 rfl rfl <| .fin <| WP.seq <| rg 4 5 <| el H fun t3 h4 H => cx 0 [] cal27 (heap_New.c h4) nofun fun g5 _ => ?_
 refine Dv.bld (qs := [eq (.slice none 0 0), eq g5.1]) (css := [[eq g5.1]]) rfl trivial Tryz.underlying61 pl61 z61 rfl ⟨(cells_one one_ov), trivial⟩ rfl rfl <| Dv.box rfl trivial rfl cA nofun fun b6 => as0 rfl rfl <| .fin <| wg (st_nil Edu.K none) fun _ _ => ?_
 refine wg (PTab.shut (p := (⟨.pointer (some ⟨b6, 0, none⟩), rfl⟩ : OV)) (m := (⟨([] : List Edu), t3⟩ : PTab)) (b6, nilV, g5) rfl (pm 3 [1,0,2])) fun _ _ => ?_
 obtain rfl := Gets.out H
 exact rt i2 rfl (⟨.pointer (some ⟨b6, 0, none⟩), rfl⟩ : OV) 1 [0] 0 (.cons (res_tmp rfl) .nil)
theorem concourseref01_colon.c {k : Nat} {a0 : ByteArray} {r : Int} (h : concourseref01_colon.f k a0 = some r) : Pt Tryz.prog 93 [vS a0] (vI r) := by
 unfold concourseref01_colon.f at h
 refine (Tr.body Tryz.func93 (c := _) rfl Tryz.ntmps93 (Nat.le_of_ble_eq_true rfl) fun R0 F => ?_).pt
 replace h := Gets.of h
 have H := h
 clear h
 refine WP.seq <| rg 1 0 <| as0 rfl rfl <| .fin <| WP.seqr H id (fun p7 : Int × Bool => [(0, vS a0), (2, vI 0), (3, vI p7.1), (7, vB p7.2)]) (fun p7 : Int × Bool => F) (fun p7 H => ?_) (fun H => ?_)
 ·
  refine WP.seq <| rg 1 0 <| as0 rfl rfl <| .fin ?_
  obtain rfl := Gets.out H
  exact rt i2 rfl () 0 [] 0 (.cons (res_tmp rfl) .nil)
 refine WP.seq <| rg 1 0 <| as0 rfl rfl <| .fin <| WP.block <| wg (sg 0 [] 0) fun _ _ => ?_
 refine lp (fun j_ (p13 : Int) => concourseref01_colon.l0 k a0 j_ p13) 0 H (fun p13 => [(0, vS a0), (2, vI 0), (3, vI p13)]) (fun p13 => F) ?_
 rintro j_ x8 H
 rcases j_ with _ | j12
 ·
  exact (Gets.no H).elim
 replace H : Gets (concourseref01_colon.l0 k a0 (j12 + 1) x8) _ := H
 rw [concourseref01_colon.l0] at H
 refine WP.seq <| WP.seq <| rg 4 0 <| mv0 rfl rfl <| mv0 rfl rfl <| Dv.lens rfl trivial rfl Tryz.underlying9 <| bn0 rfl rfl rfl run_lt <| .fin <| cd H rfl (fun _ H => ?_) (fun _ H => ?_)
 rotate_left
 ·
  refine WP.exit ?_
  replace H := Gets.out H
  exact jn (x8, decide (x8 < (a0.size : Int))) H
 refine WP.skip <| WP.seq <| WP.block <| WP.seq <| rg 4 0 <| mv0 rfl rfl <| mv0 rfl rfl <| gr H fun g10 H => Dv.ixs rfl trivial rfl rfl Tryz.underlying9 g10.1 g10.2 <| bn0 rfl rfl rfl run_eq <| .fin <| cd H rfl (fun _ H => ?_) (fun _ H => ?_)
 rotate_left
 ·
  exact WP.skip <| rg 3 0 <| mv0 rfl rfl <| bn0 rfl rfl rfl run_add <| as0 rfl rfl <| .fin <| bk j12 (w64 (x8 + 1)) H
 refine WP.seq <| rg 2 0 <| mv0 rfl rfl <| as0 rfl rfl <| .fin ?_
 replace H := Gets.outr H
 obtain rfl := Gets.out H
 exact rt i2 rfl () 0 [] 0 (.cons (res_tmp rfl) .nil)
theorem concourseref01_low.c {a0 : Int} {r : Bool} (h : concourseref01_low.f a0 = some r) : Pt Tryz.prog 96 [eq (.int .u8 a0)] (vB r) := by
 unfold concourseref01_low.f at h
 refine (Tr.body Tryz.func96 (c := _) rfl Tryz.ntmps96 (Nat.le_of_ble_eq_true rfl) fun R0 F => ?_).pt
 replace h := Gets.of h
 have H := h
 clear h
 refine WP.seq <| rg 1 0 <| as0 rfl rfl <| .fin <| WP.seq <| rg 15 0 <| mv0 rfl rfl <| bn0 rfl rfl rfl run_ge <| mv0 rfl rfl ?_
 cases c14 : decide (97 ≤ a0)
 ·
  replace H := Gets.cf H c14
  refine sk rfl rfl <| sk rfl rfl <| pf0 rfl rfl rfl <| mv0 rfl rfl <| mvg rfl rfl rfl <| bng rfl rfl rfl rfl run_ge <| mvg rfl rfl rfl ?_
  cases c17 : decide (48 ≤ a0)
  ·
   replace H := Gets.cf H c17
   refine sk rfl rfl <| sk rfl rfl <| pfg rfl rfl rfl rfl <| pf0 rfl rfl rfl <| as0 rfl rfl <| .fin ?_
   obtain rfl := Gets.out H
   exact rt i2 rfl () 0 [] 0 (.cons (res_tmp rfl) .nil)
  replace H := Gets.ct H c17
  refine mvg rfl rfl rfl <| bng rfl rfl rfl rfl run_le <| ptg rfl rfl rfl rfl <| pf0 rfl rfl rfl <| as0 rfl rfl <| .fin ?_
  obtain rfl := Gets.out H
  exact rt i2 rfl () 0 [] 0 (.cons (res_tmp rfl) .nil)
 replace H := Gets.ct H c14
 refine mvg rfl rfl rfl <| bng rfl rfl rfl rfl run_le <| pt0 rfl rfl rfl <| mv0 rfl rfl ?_
 cases c15 : decide (a0 ≤ 122)
 rotate_left
 ·
  replace H := Gets.ct H c15
  refine sk rfl rfl <| sk rfl rfl <| sk rfl rfl <| sku rfl rfl <| sku rfl rfl <| sk rfl rfl <| pt0 rfl rfl rfl <| as0 rfl rfl <| .fin ?_
  obtain rfl := Gets.out H
  exact rt i2 rfl () 0 [] 0 (.cons (res_tmp rfl) .nil)
 replace H := Gets.cf H c15
 refine mvg rfl rfl rfl <| bng rfl rfl rfl rfl run_ge <| mvg rfl rfl rfl ?_
 cases c16 : decide (48 ≤ a0)
 ·
  replace H := Gets.cf H c16
  refine sk rfl rfl <| sk rfl rfl <| pfg rfl rfl rfl rfl <| pf0 rfl rfl rfl <| as0 rfl rfl <| .fin ?_
  obtain rfl := Gets.out H
  exact rt i2 rfl () 0 [] 0 (.cons (res_tmp rfl) .nil)
 replace H := Gets.ct H c16
 refine mvg rfl rfl rfl <| bng rfl rfl rfl rfl run_le <| ptg rfl rfl rfl rfl <| pf0 rfl rfl rfl <| as0 rfl rfl <| .fin ?_
 obtain rfl := Gets.out H
 exact rt i2 rfl () 0 [] 0 (.cons (res_tmp rfl) .nil)
theorem concourseref01_Part.c {k : Nat} {a0 : ByteArray} {r : Bool} (h : concourseref01_Part.f k a0 = some r) : Pt Tryz.prog 94 [vS a0] (vB r) := by
 unfold concourseref01_Part.f at h
 refine (Tr.body Tryz.func94 (c := _) rfl Tryz.ntmps94 (Nat.le_of_ble_eq_true rfl) fun R0 F => ?_).pt
 replace h := Gets.of h
 have H := h
 clear h
 refine WP.seq <| rg 1 0 <| as0 rfl rfl <| .fin <| WP.seqr H id (fun p18 : Int × Bool => [(0, vS a0), (2, vB false), (3, vI p18.1), (8, vB p18.2)]) (fun p18 : Int × Bool => F) (fun p18 H => ?_) (fun H => ?_)
 ·
  refine WP.seq <| rg 9 0 <| mv0 rfl rfl <| Dv.lens rfl trivial rfl Tryz.underlying9 <| bn0 rfl rfl rfl run_gt <| mv0 rfl rfl ?_
  cases c19 : decide (0 < (a0.size : Int))
  ·
   replace H := Gets.cf H c19
   refine sk rfl rfl <| sk rfl rfl <| sk rfl rfl <| pf0 rfl rfl rfl <| as0 rfl rfl <| .fin ?_
   obtain rfl := Gets.out H
   exact rt i2 rfl () 0 [] 0 (.cons (res_tmp rfl) .nil)
  replace H := Gets.ct H c19
  refine mvg rfl rfl rfl <| Dv.lens rfl (gg rfl) rfl Tryz.underlying9 <| bng rfl rfl rfl rfl run_lt <| pt0 rfl rfl rfl <| as0 rfl rfl <| .fin ?_
  obtain rfl := Gets.out H
  exact rt i2 rfl () 0 [] 0 (.cons (res_tmp rfl) .nil)
 refine WP.seq <| rg 1 0 <| as0 rfl rfl <| .fin <| WP.block <| wg (sg 0 [] 0) fun _ _ => ?_
 refine lp (fun j_ (p36 : Int) => concourseref01_Part.l0 k a0 j_ p36) 0 H (fun p36 => [(0, vS a0), (2, vB false), (3, vI p36)]) (fun p36 => F) ?_
 rintro j_ x20 H
 rcases j_ with _ | j35
 ·
  exact (Gets.no H).elim
 replace H : Gets (concourseref01_Part.l0 k a0 (j35 + 1) x20) _ := H
 rw [concourseref01_Part.l0] at H
 refine WP.seq <| WP.seq <| rg 4 0 <| mv0 rfl rfl <| mv0 rfl rfl <| Dv.lens rfl trivial rfl Tryz.underlying9 <| bn0 rfl rfl rfl run_lt <| .fin <| cd H rfl (fun _ H => ?_) (fun _ H => ?_)
 rotate_left
 ·
  refine WP.exit ?_
  replace H := Gets.out H
  exact jn (x20, decide (x20 < (a0.size : Int))) H
 refine WP.skip <| WP.seq <| WP.block <| WP.seq <| rg 5 0 <| mv0 rfl rfl <| mv0 rfl rfl <| gr H fun g22 H => Dv.ixs rfl trivial rfl rfl Tryz.underlying9 g22.1 g22.2 <| el H fun t23 h24 H => cl rfl cal96 rfl (concourseref01_low.c h24) <| as0 rfl rfl <| .fin <| WP.seq <| rg 20 0 <| mv0 rfl rfl <| un0 rfl rfl (run_not _) <| mv0 rfl rfl ?_
 cases c25 : !t23
 ·
  replace H := Gets.cf H c25
  refine sk rfl rfl <| sk rfl rfl <| sk rfl rfl <| sk rfl rfl <| pf0 rfl rfl rfl <| mv0 rfl rfl <| sk rfl rfl <| sk rfl rfl <| sk rfl rfl <| sk rfl rfl <| pf0 rfl rfl rfl <| mv0 rfl rfl <| sk rfl rfl <| sk rfl rfl <| sk rfl rfl <| sk rfl rfl <| pf0 rfl rfl rfl <| .fin <| WP.cond rfl nofun (fun _ => ?_)
  exact WP.skip <| rg 3 0 <| mv0 rfl rfl <| bn0 rfl rfl rfl run_add <| as0 rfl rfl <| .fin <| bk j35 (w64 (x20 + 1)) H
 replace H := Gets.ct H c25
 refine mvg rfl rfl rfl <| mvg rfl rfl rfl <| gr H fun g26 H => Dv.ixs rfl (gg rfl) rfl rfl Tryz.underlying9 g26.1 g26.2 <| bng rfl rfl rfl rfl run_ne <| pt0 rfl rfl rfl <| mv0 rfl rfl ?_
 cases c27 : ((bt a0 x20) != 46)
 ·
  replace H := Gets.cf H c27
  refine sk rfl rfl <| sk rfl rfl <| sk rfl rfl <| sk rfl rfl <| pf0 rfl rfl rfl <| mv0 rfl rfl <| sk rfl rfl <| sk rfl rfl <| sk rfl rfl <| sk rfl rfl <| pf0 rfl rfl rfl <| .fin <| WP.cond rfl nofun (fun _ => ?_)
  exact WP.skip <| rg 3 0 <| mv0 rfl rfl <| bn0 rfl rfl rfl run_add <| as0 rfl rfl <| .fin <| bk j35 (w64 (x20 + 1)) H
 replace H := Gets.ct H c27
 refine mvg rfl rfl rfl <| mvg rfl rfl rfl <| gr H fun g28 H => Dv.ixs rfl (gg rfl) rfl rfl Tryz.underlying9 g28.1 g28.2 <| bng rfl rfl rfl rfl run_ne <| pt0 rfl rfl rfl <| mv0 rfl rfl ?_
 cases c29 : ((bt a0 x20) != 45)
 ·
  replace H := Gets.cf H c29
  refine sk rfl rfl <| sk rfl rfl <| sk rfl rfl <| sk rfl rfl <| pf0 rfl rfl rfl <| .fin <| WP.cond rfl nofun (fun _ => ?_)
  exact WP.skip <| rg 3 0 <| mv0 rfl rfl <| bn0 rfl rfl rfl run_add <| as0 rfl rfl <| .fin <| bk j35 (w64 (x20 + 1)) H
 replace H := Gets.ct H c29
 refine mvg rfl rfl rfl <| mvg rfl rfl rfl <| gr H fun g30 H => Dv.ixs rfl (gg rfl) rfl rfl Tryz.underlying9 g30.1 g30.2 <| bng rfl rfl rfl rfl run_ne <| pt0 rfl rfl rfl <| .fin <| cd H rfl (fun _ H => ?_) (fun _ H => ?_)
 rotate_left
 ·
  exact WP.skip <| rg 3 0 <| mv0 rfl rfl <| bn0 rfl rfl rfl run_add <| as0 rfl rfl <| .fin <| bk j35 (w64 (x20 + 1)) H
 refine WP.seq <| rg 1 0 <| as0 rfl rfl <| .fin ?_
 replace H := Gets.outr H
 obtain rfl := Gets.out H
 exact rt i2 rfl () 0 [] 0 (.cons (res_tmp rfl) .nil)
theorem concourseref01_Server.c {k : Nat} {a0 : ByteArray} {r : Bool} (h : concourseref01_Server.f k a0 = some r) : Pt Tryz.prog 95 [vS a0] (vB r) := by
 unfold concourseref01_Server.f at h
 refine (Tr.body Tryz.func95 (c := _) rfl Tryz.ntmps95 (Nat.le_of_ble_eq_true rfl) fun R0 F => ?_).pt
 replace h := Gets.of h
 have H := h
 clear h
 refine WP.seq <| rg 1 0 <| as0 rfl rfl <| .fin <| WP.seqr H id (fun p37 : Int × Bool => [(0, vS a0), (2, vB false), (3, vI p37.1), (9, vB p37.2)]) (fun p37 : Int × Bool => F) (fun p37 H => ?_) (fun H => ?_)
 ·
  refine WP.seq <| rg 9 0 <| mv0 rfl rfl <| Dv.lens rfl trivial rfl Tryz.underlying9 <| bn0 rfl rfl rfl run_gt <| mv0 rfl rfl ?_
  cases c38 : decide (0 < (a0.size : Int))
  ·
   replace H := Gets.cf H c38
   refine sk rfl rfl <| sk rfl rfl <| sk rfl rfl <| pf0 rfl rfl rfl <| as0 rfl rfl <| .fin ?_
   obtain rfl := Gets.out H
   exact rt i2 rfl () 0 [] 0 (.cons (res_tmp rfl) .nil)
  replace H := Gets.ct H c38
  refine mvg rfl rfl rfl <| Dv.lens rfl (gg rfl) rfl Tryz.underlying9 <| bng rfl rfl rfl rfl run_lt <| pt0 rfl rfl rfl <| as0 rfl rfl <| .fin ?_
  obtain rfl := Gets.out H
  exact rt i2 rfl () 0 [] 0 (.cons (res_tmp rfl) .nil)
 refine WP.seq <| rg 1 0 <| as0 rfl rfl <| .fin <| WP.block <| wg (sg 0 [] 0) fun _ _ => ?_
 refine lp (fun j_ (p62 : Int) => concourseref01_Server.l0 k a0 j_ p62) 0 H (fun p62 => [(0, vS a0), (2, vB false), (3, vI p62)]) (fun p62 => F) ?_
 rintro j_ x39 H
 rcases j_ with _ | j61
 ·
  exact (Gets.no H).elim
 replace H : Gets (concourseref01_Server.l0 k a0 (j61 + 1) x39) _ := H
 rw [concourseref01_Server.l0] at H
 refine WP.seq <| WP.seq <| rg 4 0 <| mv0 rfl rfl <| mv0 rfl rfl <| Dv.lens rfl trivial rfl Tryz.underlying9 <| bn0 rfl rfl rfl run_lt <| .fin <| cd H rfl (fun _ H => ?_) (fun _ H => ?_)
 rotate_left
 ·
  refine WP.exit ?_
  replace H := Gets.out H
  exact jn (x39, decide (x39 < (a0.size : Int))) H
 refine WP.skip <| WP.seq <| WP.block <| WP.seq <| rg 5 0 <| mv0 rfl rfl <| mv0 rfl rfl <| gr H fun g41 H => Dv.ixs rfl trivial rfl rfl Tryz.underlying9 g41.1 g41.2 <| el H fun t42 h43 H => cl rfl cal96 rfl (concourseref01_low.c h43) <| as0 rfl rfl <| .fin <| WP.seq <| rg 22 0 <| mv0 rfl rfl <| bn0 rfl rfl rfl run_gt <| mv0 rfl rfl ?_
 cases c44 : decide (0 < x39)
 ·
  replace H := Gets.cf H c44
  refine sk rfl rfl <| sk rfl rfl <| sk rfl rfl <| sk rfl rfl <| sk rfl rfl <| pf0 rfl rfl rfl <| mv0 rfl rfl <| sk rfl rfl <| sk rfl rfl <| sk rfl rfl <| sk rfl rfl <| sk rfl rfl <| sku rfl rfl <| sku rfl rfl <| sku rfl rfl <| sku rfl rfl <| sk rfl rfl <| pf0 rfl rfl rfl <| as0 rfl rfl <| .fin <| WP.seq <| rg 6 0 <| mv0 rfl rfl <| un0 rfl rfl (run_not _) <| mv0 rfl rfl ?_
  cases c58 : !t42
  ·
   replace H := Gets.cf H c58
   refine sk rfl rfl <| sk rfl rfl <| pf0 rfl rfl rfl <| .fin <| WP.cond rfl nofun (fun _ => ?_)
   exact WP.skip <| rg 3 0 <| mv0 rfl rfl <| bn0 rfl rfl rfl run_add <| as0 rfl rfl <| .fin <| bk j61 (w64 (x39 + 1)) H
  replace H := Gets.ct H c58
  refine mvg rfl rfl rfl <| ung rfl rfl rfl (run_not _) <| pt0 rfl rfl rfl <| .fin <| WP.cond rfl (fun _ => ?_) nofun
  refine WP.seq <| rg 1 0 <| as0 rfl rfl <| .fin ?_
  replace H := Gets.outr H
  obtain rfl := Gets.out H
  exact rt i2 rfl () 0 [] 0 (.cons (res_tmp rfl) .nil)
 replace H := Gets.ct H c44
 refine mvg rfl rfl rfl <| mvg rfl rfl rfl <| Dv.lens rfl (gg rfl) rfl Tryz.underlying9 <| bng rfl rfl rfl rfl run_sub <| bng rfl rfl rfl rfl run_lt <| pt0 rfl rfl rfl <| mv0 rfl rfl ?_
 cases c45 : decide (x39 < (w64 ((a0.size : Int) - 1)))
 ·
  replace H := Gets.cf H c45
  refine sk rfl rfl <| sk rfl rfl <| sk rfl rfl <| sk rfl rfl <| sk rfl rfl <| sku rfl rfl <| sku rfl rfl <| sku rfl rfl <| sku rfl rfl <| sk rfl rfl <| pf0 rfl rfl rfl <| as0 rfl rfl <| .fin <| WP.seq <| rg 6 0 <| mv0 rfl rfl <| un0 rfl rfl (run_not _) <| mv0 rfl rfl ?_
  cases c55 : !t42
  ·
   replace H := Gets.cf H c55
   refine sk rfl rfl <| sk rfl rfl <| pf0 rfl rfl rfl <| .fin <| WP.cond rfl nofun (fun _ => ?_)
   exact WP.skip <| rg 3 0 <| mv0 rfl rfl <| bn0 rfl rfl rfl run_add <| as0 rfl rfl <| .fin <| bk j61 (w64 (x39 + 1)) H
  replace H := Gets.ct H c55
  refine mvg rfl rfl rfl <| ung rfl rfl rfl (run_not _) <| pt0 rfl rfl rfl <| .fin <| WP.cond rfl (fun _ => ?_) nofun
  refine WP.seq <| rg 1 0 <| as0 rfl rfl <| .fin ?_
  replace H := Gets.outr H
  obtain rfl := Gets.out H
  exact rt i2 rfl () 0 [] 0 (.cons (res_tmp rfl) .nil)
 replace H := Gets.ct H c45
 refine mvg rfl rfl rfl <| mvg rfl rfl rfl <| gr H fun g46 H => Dv.ixs rfl (gg rfl) rfl rfl Tryz.underlying9 g46.1 g46.2 <| bng rfl rfl rfl rfl run_eq <| mvg rfl rfl rfl ?_
 cases c47 : ((bt a0 x39) == 46)
 rotate_left
 ·
  replace H := Gets.ct H c47
  refine sk rfl rfl <| sk rfl rfl <| sk rfl rfl <| sk rfl rfl <| ptg rfl rfl rfl rfl <| pt0 rfl rfl rfl <| as0 rfl rfl <| .fin <| WP.seq <| rg 6 0 <| mv0 rfl rfl <| un0 rfl rfl (run_not _) <| mv0 rfl rfl ?_
  cases c48 : !t42
  ·
   replace H := Gets.cf H c48
   refine sk rfl rfl <| sk rfl rfl <| pf0 rfl rfl rfl <| .fin <| WP.cond rfl nofun (fun _ => ?_)
   exact WP.skip <| rg 3 0 <| mv0 rfl rfl <| bn0 rfl rfl rfl run_add <| as0 rfl rfl <| .fin <| bk j61 (w64 (x39 + 1)) H
  replace H := Gets.ct H c48
  refine mvg rfl rfl rfl <| ung rfl rfl rfl (run_not _) <| pt0 rfl rfl rfl <| .fin <| WP.cond rfl nofun (fun _ => ?_)
  exact WP.skip <| rg 3 0 <| mv0 rfl rfl <| bn0 rfl rfl rfl run_add <| as0 rfl rfl <| .fin <| bk j61 (w64 (x39 + 1)) H
 replace H := Gets.cf H c47
 refine mvg rfl rfl rfl <| mvg rfl rfl rfl <| gr H fun g51 H => Dv.ixs rfl (gg rfl) rfl rfl Tryz.underlying9 g51.1 g51.2 <| bng rfl rfl rfl rfl run_eq <| pfg rfl rfl rfl rfl <| pt0 rfl rfl rfl <| as0 rfl rfl <| .fin <| WP.seq <| rg 6 0 <| mv0 rfl rfl <| un0 rfl rfl (run_not _) <| mv0 rfl rfl ?_
 cases c52 : !t42
 ·
  replace H := Gets.cf H c52
  refine sk rfl rfl <| sk rfl rfl <| pf0 rfl rfl rfl <| .fin <| WP.cond rfl nofun (fun _ => ?_)
  exact WP.skip <| rg 3 0 <| mv0 rfl rfl <| bn0 rfl rfl rfl run_add <| as0 rfl rfl <| .fin <| bk j61 (w64 (x39 + 1)) H
 replace H := Gets.ct H c52
 refine mvg rfl rfl rfl <| ung rfl rfl rfl (run_not _) <| pt0 rfl rfl rfl <| .fin <| cd H rfl (fun _ H => ?_) (fun _ H => ?_)
 rotate_left
 ·
  exact WP.skip <| rg 3 0 <| mv0 rfl rfl <| bn0 rfl rfl rfl run_add <| as0 rfl rfl <| .fin <| bk j61 (w64 (x39 + 1)) H
 refine WP.seq <| rg 1 0 <| as0 rfl rfl <| .fin ?_
 replace H := Gets.outr H
 obtain rfl := Gets.out H
 exact rt i2 rfl () 0 [] 0 (.cons (res_tmp rfl) .nil)
theorem concourseref01_Named.c {k : Nat} {a0 : ByteArray} {a1 : Int} {r : Bool} (h : concourseref01_Named.f k a0 a1 = some r) : Pt Tryz.prog 64 [vS a0, eq (.int .u8 a1)] (vB r) := by
 unfold concourseref01_Named.f at h
 refine (Tr.body Tryz.func64 (c := _) rfl Tryz.ntmps64 (Nat.le_of_ble_eq_true rfl) fun R0 F => ?_).pt
 replace h := Gets.of h
 have H := h
 clear h
 refine WP.seq <| rg 1 0 <| as0 rfl rfl <| .fin <| WP.seq <| rg 3 0 <| mv0 rfl rfl <| el H fun t63 h64 H => cl rfl cal93 rfl (concourseref01_colon.c h64) <| as0 rfl rfl <| .fin <| WP.seq <| WP.seq <| rg 8 0 <| mv0 rfl rfl <| bn0 rfl rfl rfl run_lt <| mv0 rfl rfl ?_
 cases c65 : decide (t63 < 1)
 rotate_left
 ·
  replace H := Gets.ct H c65
  refine sk rfl rfl <| sk rfl rfl <| sk rfl rfl <| sk rfl rfl <| pt0 rfl rfl rfl <| .fin <| WP.cond rfl (fun _ => ?_) nofun
  refine WP.seq <| rg 1 0 <| as0 rfl rfl <| .fin ?_
  obtain rfl := Gets.out H
  exact rt i2 rfl () 0 [] 0 (.cons (res_tmp rfl) .nil)
 replace H := Gets.cf H c65
 refine mvg rfl rfl rfl <| gr H fun g67 H => Dv.ixs rfl (gg rfl) rfl rfl Tryz.underlying9 g67.1 g67.2 <| mvg rfl rfl rfl <| bng rfl rfl rfl rfl run_ne <| pf0 rfl rfl rfl <| .fin <| cd H rfl (fun _ H => ?_) (fun _ H => ?_)
 ·
  refine WP.seq <| rg 1 0 <| as0 rfl rfl <| .fin ?_
  obtain rfl := Gets.out H
  exact rt i2 rfl () 0 [] 0 (.cons (res_tmp rfl) .nil)
 refine WP.skip <| WP.seq <| rg 5 0 <| mv0 rfl rfl <| mv0 rfl rfl <| gr H fun g69 H => Dv.sss rfl trivial rfl Tryz.underlying9 (bdE_some rfl g69.1) (bdE_some rfl g69.2.1) g69.2.2.1 g69.2.2.2 <| el H fun t70 h71 H => cl rfl cal94 rfl (concourseref01_Part.c h71) <| as0 rfl rfl <| .fin <| WP.seq <| rg 6 0 <| mv0 rfl rfl <| mv0 rfl rfl <| bn0 rfl rfl rfl run_add <| gr H fun g72 H => Dv.sss rfl trivial rfl Tryz.underlying9 (bdE_some rfl g72.1) bdE_none g72.2.1 g72.2.2 <| el H fun t73 h74 H => cl rfl cal95 rfl (concourseref01_Server.c h74) <| as0 rfl rfl <| .fin <| WP.seq <| rg 5 0 <| mv0 rfl rfl <| mv0 rfl rfl ?_
 cases c75 : t70
 ·
  replace H := Gets.cf H c75
  refine sk rfl rfl <| pf0 rfl rfl rfl <| as0 rfl rfl <| .fin ?_
  obtain rfl := Gets.out H
  exact rt i2 rfl () 0 [] 0 (.cons (res_tmp rfl) .nil)
 replace H := Gets.ct H c75
 refine mvg rfl rfl rfl <| pt0 rfl rfl rfl <| as0 rfl rfl <| .fin ?_
 obtain rfl := Gets.out H
 exact rt i2 rfl () 0 [] 0 (.cons (res_tmp rfl) .nil)
theorem concourseref01_Event.c {k : Nat} {a0 : ByteArray} {r : Bool} (h : concourseref01_Event.f k a0 = some r) : Pt Tryz.prog 65 [vS a0] (vB r) := by
 unfold concourseref01_Event.f at h
 refine (Tr.body Tryz.func65 (c := _) rfl Tryz.ntmps65 (Nat.le_of_ble_eq_true rfl) fun R0 F => ?_).pt
 replace h := Gets.of h
 have H := h
 clear h
 refine WP.seq <| rg 1 0 <| as0 rfl rfl <| .fin <| WP.seq <| WP.seq <| rg 13 0 <| mv0 rfl rfl <| Dv.lens rfl trivial rfl Tryz.underlying9 <| bn0 rfl rfl rfl run_lt <| mv0 rfl rfl ?_
 cases c76 : decide ((a0.size : Int) < 2)
 rotate_left
 ·
  replace H := Gets.ct H c76
  refine sk rfl rfl <| sk rfl rfl <| sk rfl rfl <| pt0 rfl rfl rfl <| mv0 rfl rfl <| sk rfl rfl <| sk rfl rfl <| sk rfl rfl <| pt0 rfl rfl rfl <| .fin <| WP.cond rfl (fun _ => ?_) nofun
  refine WP.seq <| rg 1 0 <| as0 rfl rfl <| .fin ?_
  obtain rfl := Gets.out H
  exact rt i2 rfl () 0 [] 0 (.cons (res_tmp rfl) .nil)
 replace H := Gets.cf H c76
 refine mvg rfl rfl rfl <| Dv.lens rfl (gg rfl) rfl Tryz.underlying9 <| bng rfl rfl rfl rfl run_gt <| pf0 rfl rfl rfl <| mv0 rfl rfl ?_
 cases c78 : decide (17 < (a0.size : Int))
 rotate_left
 ·
  replace H := Gets.ct H c78
  refine sk rfl rfl <| sk rfl rfl <| sk rfl rfl <| pt0 rfl rfl rfl <| .fin <| WP.cond rfl (fun _ => ?_) nofun
  refine WP.seq <| rg 1 0 <| as0 rfl rfl <| .fin ?_
  obtain rfl := Gets.out H
  exact rt i2 rfl () 0 [] 0 (.cons (res_tmp rfl) .nil)
 replace H := Gets.cf H c78
 refine mvg rfl rfl rfl <| gr H fun g80 H => Dv.ixs rfl (gg rfl) rfl rfl Tryz.underlying9 g80.1 g80.2 <| bng rfl rfl rfl rfl run_ne <| pf0 rfl rfl rfl <| .fin <| cd H rfl (fun _ H => ?_) (fun _ H => ?_)
 ·
  refine WP.seq <| rg 1 0 <| as0 rfl rfl <| .fin ?_
  obtain rfl := Gets.out H
  exact rt i2 rfl () 0 [] 0 (.cons (res_tmp rfl) .nil)
 refine WP.skip <| WP.seqr H id (fun p82 : Int × Bool => [(0, vS a0), (2, vB false), (3, vI p82.1), (18, vB ((bt a0 0) != 36)), (22, vB p82.2)]) (fun p82 : Int × Bool => F) (fun p82 H => ?_) (fun H => ?_)
 ·
  refine WP.seq <| rg 1 0 <| as0 rfl rfl <| .fin ?_
  obtain rfl := Gets.out H
  exact rt i2 rfl () 0 [] 0 (.cons (res_tmp rfl) .nil)
 refine WP.seq <| rg 1 0 <| as0 rfl rfl <| .fin <| WP.block <| wg (sg 0 [] 0) fun _ _ => ?_
 refine lp (fun j_ (p108 : Int) => concourseref01_Event.l0 k a0 j_ p108) 1 H (fun p108 => [(0, vS a0), (2, vB false), (3, vI p108), (18, vB ((bt a0 0) != 36))]) (fun p108 => F) ?_
 rintro j_ x83 H
 rcases j_ with _ | j107
 ·
  exact (Gets.no H).elim
 replace H : Gets (concourseref01_Event.l0 k a0 (j107 + 1) x83) _ := H
 rw [concourseref01_Event.l0] at H
 refine WP.seq <| WP.seq <| rg 4 0 <| mv0 rfl rfl <| mv0 rfl rfl <| Dv.lens rfl trivial rfl Tryz.underlying9 <| bn0 rfl rfl rfl run_lt <| .fin <| cd H rfl (fun _ H => ?_) (fun _ H => ?_)
 rotate_left
 ·
  refine WP.exit ?_
  replace H := Gets.out H
  exact jn (x83, decide (x83 < (a0.size : Int))) H
 refine WP.skip <| WP.seq <| WP.block <| WP.seq <| rg 5 0 <| mv0 rfl rfl <| mv0 rfl rfl <| gr H fun g85 H => Dv.ixs rfl trivial rfl rfl Tryz.underlying9 g85.1 g85.2 <| el H fun t86 h87 H => cl rfl cal96 rfl (concourseref01_low.c h87) <| as0 rfl rfl <| .fin <| WP.seq <| rg 11 0 <| mv0 rfl rfl <| mv0 rfl rfl <| gr H fun g88 H => Dv.ixs rfl trivial rfl rfl Tryz.underlying9 g88.1 g88.2 <| bn0 rfl rfl rfl run_ge <| mv0 rfl rfl ?_
 cases c89 : decide (65 ≤ (bt a0 x83))
 ·
  replace H := Gets.cf H c89
  refine sk rfl rfl <| sk rfl rfl <| sk rfl rfl <| sk rfl rfl <| pf0 rfl rfl rfl <| as0 rfl rfl <| .fin <| WP.seq <| rg 18 0 <| mv0 rfl rfl <| un0 rfl rfl (run_not _) <| mv0 rfl rfl ?_
  cases c100 : !t86
  ·
   replace H := Gets.cf H c100
   refine sk rfl rfl <| sk rfl rfl <| pf0 rfl rfl rfl <| mv0 rfl rfl <| sk rfl rfl <| sk rfl rfl <| sk rfl rfl <| sk rfl rfl <| pf0 rfl rfl rfl <| mv0 rfl rfl <| sk rfl rfl <| sk rfl rfl <| sk rfl rfl <| sk rfl rfl <| pf0 rfl rfl rfl <| .fin <| WP.cond rfl nofun (fun _ => ?_)
   exact WP.skip <| rg 3 0 <| mv0 rfl rfl <| bn0 rfl rfl rfl run_add <| as0 rfl rfl <| .fin <| bk j107 (w64 (x83 + 1)) H
  replace H := Gets.ct H c100
  refine mvg rfl rfl rfl <| ung rfl rfl rfl (run_not _) <| pt0 rfl rfl rfl <| mv0 rfl rfl <| mvg rfl rfl rfl <| mvg rfl rfl rfl <| gr H fun g101 H => Dv.ixs rfl (gg rfl) rfl rfl Tryz.underlying9 g101.1 g101.2 <| bng rfl rfl rfl rfl run_ne <| pt0 rfl rfl rfl <| mv0 rfl rfl ?_
  cases c102 : ((bt a0 x83) != 45)
  ·
   replace H := Gets.cf H c102
   refine sk rfl rfl <| sk rfl rfl <| sk rfl rfl <| sk rfl rfl <| pf0 rfl rfl rfl <| .fin <| WP.cond rfl nofun (fun _ => ?_)
   exact WP.skip <| rg 3 0 <| mv0 rfl rfl <| bn0 rfl rfl rfl run_add <| as0 rfl rfl <| .fin <| bk j107 (w64 (x83 + 1)) H
  replace H := Gets.ct H c102
  refine mvg rfl rfl rfl <| mvg rfl rfl rfl <| gr H fun g103 H => Dv.ixs rfl (gg rfl) rfl rfl Tryz.underlying9 g103.1 g103.2 <| bng rfl rfl rfl rfl run_ne <| pt0 rfl rfl rfl <| .fin <| cd H rfl (fun _ H => ?_) (fun _ H => ?_)
  rotate_left
  ·
   exact WP.skip <| rg 3 0 <| mv0 rfl rfl <| bn0 rfl rfl rfl run_add <| as0 rfl rfl <| .fin <| bk j107 (w64 (x83 + 1)) H
  refine WP.seq <| rg 1 0 <| as0 rfl rfl <| .fin ?_
  replace H := Gets.outr H
  obtain rfl := Gets.out H
  exact rt i2 rfl () 0 [] 0 (.cons (res_tmp rfl) .nil)
 replace H := Gets.ct H c89
 refine mvg rfl rfl rfl <| mvg rfl rfl rfl <| gr H fun g90 H => Dv.ixs rfl (gg rfl) rfl rfl Tryz.underlying9 g90.1 g90.2 <| bng rfl rfl rfl rfl run_le <| pt0 rfl rfl rfl <| as0 rfl rfl <| .fin <| WP.seq <| rg 18 0 <| mv0 rfl rfl <| un0 rfl rfl (run_not _) <| mv0 rfl rfl ?_
 cases c91 : !t86
 ·
  replace H := Gets.cf H c91
  refine sk rfl rfl <| sk rfl rfl <| pf0 rfl rfl rfl <| mv0 rfl rfl <| sk rfl rfl <| sk rfl rfl <| sk rfl rfl <| sk rfl rfl <| pf0 rfl rfl rfl <| mv0 rfl rfl <| sk rfl rfl <| sk rfl rfl <| sk rfl rfl <| sk rfl rfl <| pf0 rfl rfl rfl <| .fin <| WP.cond rfl nofun (fun _ => ?_)
  exact WP.skip <| rg 3 0 <| mv0 rfl rfl <| bn0 rfl rfl rfl run_add <| as0 rfl rfl <| .fin <| bk j107 (w64 (x83 + 1)) H
 replace H := Gets.ct H c91
 refine mvg rfl rfl rfl <| ung rfl rfl rfl (run_not _) <| pt0 rfl rfl rfl <| mv0 rfl rfl ?_
 cases c92 : !(decide ((bt a0 x83) ≤ 90))
 ·
  replace H := Gets.cf H c92
  refine sk rfl rfl <| sk rfl rfl <| sk rfl rfl <| sk rfl rfl <| pf0 rfl rfl rfl <| mv0 rfl rfl <| sk rfl rfl <| sk rfl rfl <| sk rfl rfl <| sk rfl rfl <| pf0 rfl rfl rfl <| .fin <| WP.cond rfl nofun (fun _ => ?_)
  exact WP.skip <| rg 3 0 <| mv0 rfl rfl <| bn0 rfl rfl rfl run_add <| as0 rfl rfl <| .fin <| bk j107 (w64 (x83 + 1)) H
 replace H := Gets.ct H c92
 refine mvg rfl rfl rfl <| mvg rfl rfl rfl <| gr H fun g93 H => Dv.ixs rfl (gg rfl) rfl rfl Tryz.underlying9 g93.1 g93.2 <| bng rfl rfl rfl rfl run_ne <| pt0 rfl rfl rfl <| mv0 rfl rfl ?_
 cases c94 : ((bt a0 x83) != 45)
 ·
  replace H := Gets.cf H c94
  refine sk rfl rfl <| sk rfl rfl <| sk rfl rfl <| sk rfl rfl <| pf0 rfl rfl rfl <| .fin <| WP.cond rfl nofun (fun _ => ?_)
  exact WP.skip <| rg 3 0 <| mv0 rfl rfl <| bn0 rfl rfl rfl run_add <| as0 rfl rfl <| .fin <| bk j107 (w64 (x83 + 1)) H
 replace H := Gets.ct H c94
 refine mvg rfl rfl rfl <| mvg rfl rfl rfl <| gr H fun g95 H => Dv.ixs rfl (gg rfl) rfl rfl Tryz.underlying9 g95.1 g95.2 <| bng rfl rfl rfl rfl run_ne <| pt0 rfl rfl rfl <| .fin <| cd H rfl (fun _ H => ?_) (fun _ H => ?_)
 rotate_left
 ·
  exact WP.skip <| rg 3 0 <| mv0 rfl rfl <| bn0 rfl rfl rfl run_add <| as0 rfl rfl <| .fin <| bk j107 (w64 (x83 + 1)) H
 refine WP.seq <| rg 1 0 <| as0 rfl rfl <| .fin ?_
 replace H := Gets.outr H
 obtain rfl := Gets.out H
 exact rt i2 rfl () 0 [] 0 (.cons (res_tmp rfl) .nil)
theorem concourseref01_Thread.c {k : Nat} {a0 : ByteArray} {r : Bool} (h : concourseref01_Thread.f k a0 = some r) : Pt Tryz.prog 66 [vS a0] (vB r) := by
 unfold concourseref01_Thread.f at h
 refine (Tr.body Tryz.func66 (c := _) rfl Tryz.ntmps66 (Nat.le_of_ble_eq_true rfl) fun R0 F => ?_).pt
 replace h := Gets.of h
 have H := h
 clear h
 refine WP.seq <| rg 1 0 <| as0 rfl rfl <| .fin <| WP.seq <| rg 3 0 <| mv0 rfl rfl <| el H fun t109 h110 H => cl rfl cal65 rfl (concourseref01_Event.c h110) <| as0 rfl rfl <| .fin <| WP.seq <| rg 10 0 <| mv0 rfl rfl <| bn0 rfl rfl rfl run_seq <| mv0 rfl rfl ?_
 cases c111 : decide (a0 = (⟨#[]⟩ : ByteArray))
 rotate_left
 ·
  replace H := Gets.ct H c111
  refine sk rfl rfl <| sk rfl rfl <| pt0 rfl rfl rfl <| mv0 rfl rfl <| sk rfl rfl <| pt0 rfl rfl rfl <| as0 rfl rfl <| .fin ?_
  obtain rfl := Gets.out H
  exact rt i2 rfl () 0 [] 0 (.cons (res_tmp rfl) .nil)
 replace H := Gets.cf H c111
 refine mvg rfl rfl rfl <| bng rfl rfl rfl rfl run_seq <| pf0 rfl rfl rfl <| mv0 rfl rfl ?_
 cases c112 : decide (a0 = (⟨#[109, 97, 105, 110]⟩ : ByteArray))
 rotate_left
 ·
  replace H := Gets.ct H c112
  refine sk rfl rfl <| pt0 rfl rfl rfl <| as0 rfl rfl <| .fin ?_
  obtain rfl := Gets.out H
  exact rt i2 rfl () 0 [] 0 (.cons (res_tmp rfl) .nil)
 replace H := Gets.cf H c112
 refine mvg rfl rfl rfl <| pf0 rfl rfl rfl <| as0 rfl rfl <| .fin ?_
 obtain rfl := Gets.out H
 exact rt i2 rfl () 0 [] 0 (.cons (res_tmp rfl) .nil)
theorem concourseref03_Local.c {k : Nat} {a0 : Edu} {r : Bool} (h : concourseref03_Local.f k a0 = some r) : Pt Tryz.prog 46 [agg (Edu.enc a0)] (vB r) := by
 unfold concourseref03_Local.f at h
 refine (Tr.body Tryz.func46 (c := _) rfl Tryz.ntmps46 (Nat.le_of_ble_eq_true rfl) fun R0 F => ?_).pt
 replace h := Gets.of h
 have H := h
 clear h
 refine WP.seq <| rg 2 1 <| Dv.box rfl trivial rfl cA nofun fun b113 => as0 rfl rfl <| .fin <| WP.seq <| rg 4 0 <| fb rfl trivial rfl fa32_2 <| ld 0 rfl trivial rfl sc9 rfl rfl <| el H fun t114 h115 H => cl rfl cal64 rfl (concourseref01_Named.c h115) <| as0 rfl rfl <| .fin <| WP.seq <| rg 4 0 <| fb rfl trivial rfl fa32_1 <| ld 0 rfl trivial rfl sc9 rfl rfl <| el H fun t116 h117 H => cl rfl cal64 rfl (concourseref01_Named.c h117) <| as0 rfl rfl <| .fin <| WP.seq <| rg 4 0 <| fb rfl trivial rfl fa32_3 <| ld 0 rfl trivial rfl sc9 rfl rfl <| el H fun t118 h119 H => cl rfl cal65 rfl (concourseref01_Event.c h119) <| as0 rfl rfl <| .fin <| WP.seq <| rg 4 0 <| fb rfl trivial rfl fa32_4 <| ld 0 rfl trivial rfl sc9 rfl rfl <| el H fun t120 h121 H => cl rfl cal66 rfl (concourseref01_Thread.c h121) <| as0 rfl rfl <| .fin <| WP.seq <| WP.seq <| rg 22 0 <| mv0 rfl rfl <| un0 rfl rfl (run_not _) <| mv0 rfl rfl ?_
 cases c122 : !t114
 rotate_left
 ·
  replace H := Gets.ct H c122
  refine sk rfl rfl <| sk rfl rfl <| sk rfl rfl <| pt0 rfl rfl rfl <| mv0 rfl rfl <| sk rfl rfl <| sk rfl rfl <| sk rfl rfl <| pt0 rfl rfl rfl <| mv0 rfl rfl <| sk rfl rfl <| sk rfl rfl <| sk rfl rfl <| pt0 rfl rfl rfl <| mv0 rfl rfl <| sk rfl rfl <| sk rfl rfl <| sk rfl rfl <| pt0 rfl rfl rfl <| .fin <| WP.cond rfl (fun _ => ?_) nofun
  refine WP.seq <| rg 1 0 <| as0 rfl rfl <| .fin ?_
  obtain rfl := Gets.out H
  exact rt i2 rfl () 1 [0] 1 (.cons (res_tmp rfl) .nil)
 replace H := Gets.cf H c122
 refine fb rfl (gg rfl) rfl fa32_9 <| ld 0 rfl (gg rfl) rfl sc3 rfl rfl <| bng rfl rfl rfl rfl run_lt <| pf0 rfl rfl rfl <| mv0 rfl rfl ?_
 cases c124 : decide (a0.fTick < 0)
 rotate_left
 ·
  replace H := Gets.ct H c124
  refine sk rfl rfl <| sk rfl rfl <| sk rfl rfl <| pt0 rfl rfl rfl <| mv0 rfl rfl <| sk rfl rfl <| sk rfl rfl <| sk rfl rfl <| pt0 rfl rfl rfl <| mv0 rfl rfl <| sk rfl rfl <| sk rfl rfl <| sk rfl rfl <| pt0 rfl rfl rfl <| .fin <| WP.cond rfl (fun _ => ?_) nofun
  refine WP.seq <| rg 1 0 <| as0 rfl rfl <| .fin ?_
  obtain rfl := Gets.out H
  exact rt i2 rfl () 1 [0] 1 (.cons (res_tmp rfl) .nil)
 replace H := Gets.cf H c124
 refine fb rfl (gg rfl) rfl fa32_9 <| ld 0 rfl (gg rfl) rfl sc3 rfl rfl <| bng rfl rfl rfl rfl run_gt <| pf0 rfl rfl rfl <| mv0 rfl rfl ?_
 cases c126 : decide (1099511627776 < a0.fTick)
 rotate_left
 ·
  replace H := Gets.ct H c126
  refine sk rfl rfl <| sk rfl rfl <| sk rfl rfl <| pt0 rfl rfl rfl <| mv0 rfl rfl <| sk rfl rfl <| sk rfl rfl <| sk rfl rfl <| pt0 rfl rfl rfl <| .fin <| WP.cond rfl (fun _ => ?_) nofun
  refine WP.seq <| rg 1 0 <| as0 rfl rfl <| .fin ?_
  obtain rfl := Gets.out H
  exact rt i2 rfl () 1 [0] 1 (.cons (res_tmp rfl) .nil)
 replace H := Gets.cf H c126
 refine fb rfl (gg rfl) rfl fa32_10 <| ld 0 rfl (gg rfl) rfl sc3 rfl rfl <| bng rfl rfl rfl rfl run_lt <| pf0 rfl rfl rfl <| mv0 rfl rfl ?_
 cases c128 : decide (a0.fStamp < 0)
 rotate_left
 ·
  replace H := Gets.ct H c128
  refine sk rfl rfl <| sk rfl rfl <| sk rfl rfl <| pt0 rfl rfl rfl <| .fin <| WP.cond rfl (fun _ => ?_) nofun
  refine WP.seq <| rg 1 0 <| as0 rfl rfl <| .fin ?_
  obtain rfl := Gets.out H
  exact rt i2 rfl () 1 [0] 1 (.cons (res_tmp rfl) .nil)
 replace H := Gets.cf H c128
 refine fb rfl (gg rfl) rfl fa32_10 <| ld 0 rfl (gg rfl) rfl sc3 rfl rfl <| bng rfl rfl rfl rfl run_gt <| pf0 rfl rfl rfl <| .fin <| cd H rfl (fun _ H => ?_) (fun _ H => ?_)
 ·
  refine WP.seq <| rg 1 0 <| as0 rfl rfl <| .fin ?_
  obtain rfl := Gets.out H
  exact rt i2 rfl () 1 [0] 1 (.cons (res_tmp rfl) .nil)
 refine WP.skip <| WP.seq <| WP.seq <| rg 2 0 <| fb rfl trivial rfl fa32_0 <| ld 0 rfl trivial rfl sc3 rfl rfl <| .fin <| WP.block <| WP.seq <| rg 2 0 <| bn0 rfl rfl rfl run_eq <| as0 rfl rfl <| .fin <| cd H rfl (fun _ H => ?_) (fun _ H => ?_)
 ·
  refine WP.seq <| rg 23 0 <| mv0 rfl rfl <| mv0 rfl rfl ?_
  cases c132 : t116
  ·
   replace H := Gets.cf H c132
   refine sk rfl rfl <| pf0 rfl rfl rfl <| mv0 rfl rfl <| sk rfl rfl <| pf0 rfl rfl rfl <| mv0 rfl rfl <| sk rfl rfl <| sk rfl rfl <| sk rfl rfl <| pf0 rfl rfl rfl <| mv0 rfl rfl <| sk rfl rfl <| sk rfl rfl <| sk rfl rfl <| pf0 rfl rfl rfl <| mv0 rfl rfl <| sk rfl rfl <| sk rfl rfl <| sk rfl rfl <| pf0 rfl rfl rfl <| as0 rfl rfl <| .fin ?_
   obtain rfl := Gets.out H
   exact rt i2 rfl () 1 [0] 1 (.cons (res_tmp rfl) .nil)
  replace H := Gets.ct H c132
  refine mvg rfl rfl rfl <| pt0 rfl rfl rfl <| mv0 rfl rfl ?_
  cases c133 : t118
  ·
   replace H := Gets.cf H c133
   refine sk rfl rfl <| pf0 rfl rfl rfl <| mv0 rfl rfl <| sk rfl rfl <| sk rfl rfl <| sk rfl rfl <| pf0 rfl rfl rfl <| mv0 rfl rfl <| sk rfl rfl <| sk rfl rfl <| sk rfl rfl <| pf0 rfl rfl rfl <| mv0 rfl rfl <| sk rfl rfl <| sk rfl rfl <| sk rfl rfl <| pf0 rfl rfl rfl <| as0 rfl rfl <| .fin ?_
   obtain rfl := Gets.out H
   exact rt i2 rfl () 1 [0] 1 (.cons (res_tmp rfl) .nil)
  replace H := Gets.ct H c133
  refine mvg rfl rfl rfl <| pt0 rfl rfl rfl <| mv0 rfl rfl ?_
  cases c134 : t120
  ·
   replace H := Gets.cf H c134
   refine sk rfl rfl <| sk rfl rfl <| sk rfl rfl <| pf0 rfl rfl rfl <| mv0 rfl rfl <| sk rfl rfl <| sk rfl rfl <| sk rfl rfl <| pf0 rfl rfl rfl <| mv0 rfl rfl <| sk rfl rfl <| sk rfl rfl <| sk rfl rfl <| pf0 rfl rfl rfl <| as0 rfl rfl <| .fin ?_
   obtain rfl := Gets.out H
   exact rt i2 rfl () 1 [0] 1 (.cons (res_tmp rfl) .nil)
  replace H := Gets.ct H c134
  refine fb rfl (gg rfl) rfl fa32_6 <| ld 0 rfl (gg rfl) rfl sc4 rfl rfl <| ung rfl rfl rfl (run_not _) <| pt0 rfl rfl rfl <| mv0 rfl rfl ?_
  cases c135 : !a0.fOn
  ·
   replace H := Gets.cf H c135
   refine sk rfl rfl <| sk rfl rfl <| sk rfl rfl <| pf0 rfl rfl rfl <| mv0 rfl rfl <| sk rfl rfl <| sk rfl rfl <| sk rfl rfl <| pf0 rfl rfl rfl <| as0 rfl rfl <| .fin ?_
   obtain rfl := Gets.out H
   exact rt i2 rfl () 1 [0] 1 (.cons (res_tmp rfl) .nil)
  replace H := Gets.ct H c135
  refine fb rfl (gg rfl) rfl fa32_7 <| ld 0 rfl (gg rfl) rfl sc3 rfl rfl <| bng rfl rfl rfl rfl run_eq <| pt0 rfl rfl rfl <| mv0 rfl rfl ?_
  cases c136 : (a0.fSpan == 0)
  ·
   replace H := Gets.cf H c136
   refine sk rfl rfl <| sk rfl rfl <| sk rfl rfl <| pf0 rfl rfl rfl <| as0 rfl rfl <| .fin ?_
   obtain rfl := Gets.out H
   exact rt i2 rfl () 1 [0] 1 (.cons (res_tmp rfl) .nil)
  replace H := Gets.ct H c136
  refine fb rfl (gg rfl) rfl fa32_8 <| ld 0 rfl (gg rfl) rfl sc3 rfl rfl <| bng rfl rfl rfl rfl run_eq <| pt0 rfl rfl rfl <| as0 rfl rfl <| .fin ?_
  obtain rfl := Gets.out H
  exact rt i2 rfl () 1 [0] 1 (.cons (res_tmp rfl) .nil)
 refine WP.seq <| rg 2 0 <| bn0 rfl rfl rfl run_eq <| as0 rfl rfl <| .fin <| cd H rfl (fun _ H => ?_) (fun _ H => ?_)
 rotate_left
 ·
  refine WP.seq <| rg 2 0 <| bn0 rfl rfl rfl run_eq <| as0 rfl rfl <| .fin <| cd H rfl (fun _ H => ?_) (fun _ H => ?_)
  rotate_left
  ·
   refine WP.skip <| WP.seq <| rg 1 0 <| as0 rfl rfl <| .fin ?_
   obtain rfl := Gets.out H
   exact rt i2 rfl () 1 [0] 1 (.cons (res_tmp rfl) .nil)
  refine WP.seq <| rg 39 0 <| fb rfl trivial rfl fa32_1 <| ld 0 rfl trivial rfl sc9 rfl rfl <| bn0 rfl rfl rfl run_seq <| mv0 rfl rfl ?_
  cases c167 : decide (a0.fRoom = (⟨#[]⟩ : ByteArray))
  ·
   replace H := Gets.cf H c167
   refine sk rfl rfl <| sk rfl rfl <| sk rfl rfl <| pf0 rfl rfl rfl <| mv0 rfl rfl <| sk rfl rfl <| sk rfl rfl <| sk rfl rfl <| pf0 rfl rfl rfl <| mv0 rfl rfl <| sk rfl rfl <| sk rfl rfl <| sk rfl rfl <| pf0 rfl rfl rfl <| mv0 rfl rfl <| sk rfl rfl <| sk rfl rfl <| sk rfl rfl <| pf0 rfl rfl rfl <| mv0 rfl rfl <| sk rfl rfl <| sk rfl rfl <| sk rfl rfl <| pf0 rfl rfl rfl <| mv0 rfl rfl <| sk rfl rfl <| sk rfl rfl <| sk rfl rfl <| pf0 rfl rfl rfl <| mv0 rfl rfl <| sk rfl rfl <| sk rfl rfl <| sk rfl rfl <| pf0 rfl rfl rfl <| as0 rfl rfl <| .fin ?_
   obtain rfl := Gets.out H
   exact rt i2 rfl () 1 [0] 1 (.cons (res_tmp rfl) .nil)
  replace H := Gets.ct H c167
  refine fb rfl (gg rfl) rfl fa32_3 <| ld 0 rfl (gg rfl) rfl sc9 rfl rfl <| bng rfl rfl rfl rfl run_seq <| pt0 rfl rfl rfl <| mv0 rfl rfl ?_
  cases c168 : decide (a0.fEvent = (⟨#[]⟩ : ByteArray))
  ·
   replace H := Gets.cf H c168
   refine sk rfl rfl <| sk rfl rfl <| sk rfl rfl <| pf0 rfl rfl rfl <| mv0 rfl rfl <| sk rfl rfl <| sk rfl rfl <| sk rfl rfl <| pf0 rfl rfl rfl <| mv0 rfl rfl <| sk rfl rfl <| sk rfl rfl <| sk rfl rfl <| pf0 rfl rfl rfl <| mv0 rfl rfl <| sk rfl rfl <| sk rfl rfl <| sk rfl rfl <| pf0 rfl rfl rfl <| mv0 rfl rfl <| sk rfl rfl <| sk rfl rfl <| sk rfl rfl <| pf0 rfl rfl rfl <| mv0 rfl rfl <| sk rfl rfl <| sk rfl rfl <| sk rfl rfl <| pf0 rfl rfl rfl <| as0 rfl rfl <| .fin ?_
   obtain rfl := Gets.out H
   exact rt i2 rfl () 1 [0] 1 (.cons (res_tmp rfl) .nil)
  replace H := Gets.ct H c168
  refine fb rfl (gg rfl) rfl fa32_4 <| ld 0 rfl (gg rfl) rfl sc9 rfl rfl <| bng rfl rfl rfl rfl run_seq <| pt0 rfl rfl rfl <| mv0 rfl rfl ?_
  cases c169 : decide (a0.fThread = (⟨#[]⟩ : ByteArray))
  ·
   replace H := Gets.cf H c169
   refine sk rfl rfl <| sk rfl rfl <| sk rfl rfl <| pf0 rfl rfl rfl <| mv0 rfl rfl <| sk rfl rfl <| sk rfl rfl <| sk rfl rfl <| pf0 rfl rfl rfl <| mv0 rfl rfl <| sk rfl rfl <| sk rfl rfl <| sk rfl rfl <| pf0 rfl rfl rfl <| mv0 rfl rfl <| sk rfl rfl <| sk rfl rfl <| sk rfl rfl <| pf0 rfl rfl rfl <| mv0 rfl rfl <| sk rfl rfl <| sk rfl rfl <| sk rfl rfl <| pf0 rfl rfl rfl <| as0 rfl rfl <| .fin ?_
   obtain rfl := Gets.out H
   exact rt i2 rfl () 1 [0] 1 (.cons (res_tmp rfl) .nil)
  replace H := Gets.ct H c169
  refine fb rfl (gg rfl) rfl fa32_6 <| ld 0 rfl (gg rfl) rfl sc4 rfl rfl <| ung rfl rfl rfl (run_not _) <| pt0 rfl rfl rfl <| mv0 rfl rfl ?_
  cases c170 : !a0.fOn
  ·
   replace H := Gets.cf H c170
   refine sk rfl rfl <| sk rfl rfl <| sk rfl rfl <| pf0 rfl rfl rfl <| mv0 rfl rfl <| sk rfl rfl <| sk rfl rfl <| sk rfl rfl <| pf0 rfl rfl rfl <| mv0 rfl rfl <| sk rfl rfl <| sk rfl rfl <| sk rfl rfl <| pf0 rfl rfl rfl <| mv0 rfl rfl <| sk rfl rfl <| sk rfl rfl <| sk rfl rfl <| pf0 rfl rfl rfl <| as0 rfl rfl <| .fin ?_
   obtain rfl := Gets.out H
   exact rt i2 rfl () 1 [0] 1 (.cons (res_tmp rfl) .nil)
  replace H := Gets.ct H c170
  refine fb rfl (gg rfl) rfl fa32_7 <| ld 0 rfl (gg rfl) rfl sc3 rfl rfl <| bng rfl rfl rfl rfl run_eq <| pt0 rfl rfl rfl <| mv0 rfl rfl ?_
  cases c171 : (a0.fSpan == 0)
  ·
   replace H := Gets.cf H c171
   refine sk rfl rfl <| sk rfl rfl <| sk rfl rfl <| pf0 rfl rfl rfl <| mv0 rfl rfl <| sk rfl rfl <| sk rfl rfl <| sk rfl rfl <| pf0 rfl rfl rfl <| mv0 rfl rfl <| sk rfl rfl <| sk rfl rfl <| sk rfl rfl <| pf0 rfl rfl rfl <| as0 rfl rfl <| .fin ?_
   obtain rfl := Gets.out H
   exact rt i2 rfl () 1 [0] 1 (.cons (res_tmp rfl) .nil)
  replace H := Gets.ct H c171
  refine fb rfl (gg rfl) rfl fa32_5 <| ld 0 rfl (gg rfl) rfl sc4 rfl rfl <| ung rfl rfl rfl (run_not _) <| pt0 rfl rfl rfl <| mv0 rfl rfl ?_
  cases c172 : !a0.fPrivate
  ·
   replace H := Gets.cf H c172
   refine sk rfl rfl <| sk rfl rfl <| sk rfl rfl <| pf0 rfl rfl rfl <| mv0 rfl rfl <| sk rfl rfl <| sk rfl rfl <| sk rfl rfl <| pf0 rfl rfl rfl <| as0 rfl rfl <| .fin ?_
   obtain rfl := Gets.out H
   exact rt i2 rfl () 1 [0] 1 (.cons (res_tmp rfl) .nil)
  replace H := Gets.ct H c172
  refine fb rfl (gg rfl) rfl fa32_8 <| ld 0 rfl (gg rfl) rfl sc3 rfl rfl <| bng rfl rfl rfl rfl run_ge <| pt0 rfl rfl rfl <| mv0 rfl rfl ?_
  cases c173 : decide (0 ≤ a0.fState)
  ·
   replace H := Gets.cf H c173
   refine sk rfl rfl <| sk rfl rfl <| sk rfl rfl <| pf0 rfl rfl rfl <| as0 rfl rfl <| .fin ?_
   obtain rfl := Gets.out H
   exact rt i2 rfl () 1 [0] 1 (.cons (res_tmp rfl) .nil)
  replace H := Gets.ct H c173
  refine fb rfl (gg rfl) rfl fa32_8 <| ld 0 rfl (gg rfl) rfl sc3 rfl rfl <| bng rfl rfl rfl rfl run_le <| pt0 rfl rfl rfl <| as0 rfl rfl <| .fin ?_
  obtain rfl := Gets.out H
  exact rt i2 rfl () 1 [0] 1 (.cons (res_tmp rfl) .nil)
 refine WP.seq <| rg 23 0 <| fb rfl trivial rfl fa32_6 <| ld 0 rfl trivial rfl sc4 rfl rfl <| mv0 rfl rfl ?_
 cases c138 : a0.fOn
 ·
  replace H := Gets.cf H c138
  refine sk rfl rfl <| sk rfl rfl <| sk rfl rfl <| pf0 rfl rfl rfl <| mv0 rfl rfl <| sk rfl rfl <| sk rfl rfl <| sk rfl rfl <| pf0 rfl rfl rfl <| mv0 rfl rfl <| fb rfl (gg rfl) rfl fa32_6 <| ld 0 rfl (gg rfl) rfl sc4 rfl rfl <| ung rfl rfl rfl (run_not _) <| mvg rfl rfl rfl ?_
  cases c159 : !a0.fOn
  ·
   replace H := Gets.cf H c159
   refine sk rfl rfl <| sk rfl rfl <| sk rfl rfl <| pfg rfl rfl rfl rfl <| pf0 rfl rfl rfl <| as0 rfl rfl <| .fin <| WP.seq <| rg 25 0 <| mv0 rfl rfl <| mv0 rfl rfl ?_
   cases c165 : t116
   ·
    replace H := Gets.cf H c165
    refine sk rfl rfl <| pf0 rfl rfl rfl <| mv0 rfl rfl <| sk rfl rfl <| sk rfl rfl <| sk rfl rfl <| pf0 rfl rfl rfl <| mv0 rfl rfl <| sk rfl rfl <| sk rfl rfl <| sk rfl rfl <| pf0 rfl rfl rfl <| mv0 rfl rfl <| sk rfl rfl <| sk rfl rfl <| sk rfl rfl <| pf0 rfl rfl rfl <| mv0 rfl rfl <| sk rfl rfl <| sk rfl rfl <| sk rfl rfl <| pf0 rfl rfl rfl <| as0 rfl rfl <| .fin ?_
    obtain rfl := Gets.out H
    exact rt i2 rfl () 1 [0] 1 (.cons (res_tmp rfl) .nil)
   replace H := Gets.ct H c165
   refine mvg rfl rfl rfl <| pt0 rfl rfl rfl <| mv0 rfl rfl <| sk rfl rfl <| sk rfl rfl <| sk rfl rfl <| pf0 rfl rfl rfl <| mv0 rfl rfl <| sk rfl rfl <| sk rfl rfl <| sk rfl rfl <| pf0 rfl rfl rfl <| mv0 rfl rfl <| sk rfl rfl <| sk rfl rfl <| sk rfl rfl <| pf0 rfl rfl rfl <| mv0 rfl rfl <| sk rfl rfl <| sk rfl rfl <| sk rfl rfl <| pf0 rfl rfl rfl <| as0 rfl rfl <| .fin ?_
   obtain rfl := Gets.out H
   exact rt i2 rfl () 1 [0] 1 (.cons (res_tmp rfl) .nil)
  replace H := Gets.ct H c159
  refine fb rfl (gg rfl) rfl fa32_7 <| ld 0 rfl (gg rfl) rfl sc3 rfl rfl <| bng rfl rfl rfl rfl run_eq <| ptg rfl rfl rfl rfl <| pf0 rfl rfl rfl <| as0 rfl rfl <| .fin <| WP.seq <| rg 25 0 <| mv0 rfl rfl <| mv0 rfl rfl ?_
  cases c160 : t116
  ·
   replace H := Gets.cf H c160
   refine sk rfl rfl <| pf0 rfl rfl rfl <| mv0 rfl rfl <| sk rfl rfl <| sk rfl rfl <| sk rfl rfl <| pf0 rfl rfl rfl <| mv0 rfl rfl <| sk rfl rfl <| sk rfl rfl <| sk rfl rfl <| pf0 rfl rfl rfl <| mv0 rfl rfl <| sk rfl rfl <| sk rfl rfl <| sk rfl rfl <| pf0 rfl rfl rfl <| mv0 rfl rfl <| sk rfl rfl <| sk rfl rfl <| sk rfl rfl <| pf0 rfl rfl rfl <| as0 rfl rfl <| .fin ?_
   obtain rfl := Gets.out H
   exact rt i2 rfl () 1 [0] 1 (.cons (res_tmp rfl) .nil)
  replace H := Gets.ct H c160
  refine mvg rfl rfl rfl <| pt0 rfl rfl rfl <| mv0 rfl rfl ?_
  cases c161 : (a0.fSpan == 0)
  ·
   replace H := Gets.cf H c161
   refine sk rfl rfl <| sk rfl rfl <| sk rfl rfl <| pf0 rfl rfl rfl <| mv0 rfl rfl <| sk rfl rfl <| sk rfl rfl <| sk rfl rfl <| pf0 rfl rfl rfl <| mv0 rfl rfl <| sk rfl rfl <| sk rfl rfl <| sk rfl rfl <| pf0 rfl rfl rfl <| mv0 rfl rfl <| sk rfl rfl <| sk rfl rfl <| sk rfl rfl <| pf0 rfl rfl rfl <| as0 rfl rfl <| .fin ?_
   obtain rfl := Gets.out H
   exact rt i2 rfl () 1 [0] 1 (.cons (res_tmp rfl) .nil)
  replace H := Gets.ct H c161
  refine fb rfl (gg rfl) rfl fa32_3 <| ld 0 rfl (gg rfl) rfl sc9 rfl rfl <| bng rfl rfl rfl rfl run_seq <| pt0 rfl rfl rfl <| mv0 rfl rfl ?_
  cases c162 : decide (a0.fEvent = (⟨#[]⟩ : ByteArray))
  ·
   replace H := Gets.cf H c162
   refine sk rfl rfl <| sk rfl rfl <| sk rfl rfl <| pf0 rfl rfl rfl <| mv0 rfl rfl <| sk rfl rfl <| sk rfl rfl <| sk rfl rfl <| pf0 rfl rfl rfl <| mv0 rfl rfl <| sk rfl rfl <| sk rfl rfl <| sk rfl rfl <| pf0 rfl rfl rfl <| as0 rfl rfl <| .fin ?_
   obtain rfl := Gets.out H
   exact rt i2 rfl () 1 [0] 1 (.cons (res_tmp rfl) .nil)
  replace H := Gets.ct H c162
  refine fb rfl (gg rfl) rfl fa32_4 <| ld 0 rfl (gg rfl) rfl sc9 rfl rfl <| bng rfl rfl rfl rfl run_seq <| pt0 rfl rfl rfl <| mv0 rfl rfl ?_
  cases c163 : decide (a0.fThread = (⟨#[]⟩ : ByteArray))
  ·
   replace H := Gets.cf H c163
   refine sk rfl rfl <| sk rfl rfl <| sk rfl rfl <| pf0 rfl rfl rfl <| mv0 rfl rfl <| sk rfl rfl <| sk rfl rfl <| sk rfl rfl <| pf0 rfl rfl rfl <| as0 rfl rfl <| .fin ?_
   obtain rfl := Gets.out H
   exact rt i2 rfl () 1 [0] 1 (.cons (res_tmp rfl) .nil)
  replace H := Gets.ct H c163
  refine fb rfl (gg rfl) rfl fa32_8 <| ld 0 rfl (gg rfl) rfl sc3 rfl rfl <| bng rfl rfl rfl rfl run_eq <| pt0 rfl rfl rfl <| mv0 rfl rfl ?_
  cases c164 : (a0.fState == 0)
  ·
   replace H := Gets.cf H c164
   refine sk rfl rfl <| sk rfl rfl <| sk rfl rfl <| pf0 rfl rfl rfl <| as0 rfl rfl <| .fin ?_
   obtain rfl := Gets.out H
   exact rt i2 rfl () 1 [0] 1 (.cons (res_tmp rfl) .nil)
  replace H := Gets.ct H c164
  refine fb rfl (gg rfl) rfl fa32_5 <| ld 0 rfl (gg rfl) rfl sc4 rfl rfl <| ung rfl rfl rfl (run_not _) <| pt0 rfl rfl rfl <| as0 rfl rfl <| .fin ?_
  obtain rfl := Gets.out H
  exact rt i2 rfl () 1 [0] 1 (.cons (res_tmp rfl) .nil)
 replace H := Gets.ct H c138
 refine fb rfl (gg rfl) rfl fa32_7 <| ld 0 rfl (gg rfl) rfl sc3 rfl rfl <| bng rfl rfl rfl rfl run_ge <| pt0 rfl rfl rfl <| mv0 rfl rfl ?_
 cases c139 : decide (1 ≤ a0.fSpan)
 ·
  replace H := Gets.cf H c139
  refine sk rfl rfl <| sk rfl rfl <| sk rfl rfl <| pf0 rfl rfl rfl <| mv0 rfl rfl <| fb rfl (gg rfl) rfl fa32_6 <| ld 0 rfl (gg rfl) rfl sc4 rfl rfl <| ung rfl rfl rfl (run_not _) <| mvg rfl rfl rfl ?_
  cases c152 : !a0.fOn
  ·
   replace H := Gets.cf H c152
   refine sk rfl rfl <| sk rfl rfl <| sk rfl rfl <| pfg rfl rfl rfl rfl <| pf0 rfl rfl rfl <| as0 rfl rfl <| .fin <| WP.seq <| rg 25 0 <| mv0 rfl rfl <| mv0 rfl rfl ?_
   cases c158 : t116
   ·
    replace H := Gets.cf H c158
    refine sk rfl rfl <| pf0 rfl rfl rfl <| mv0 rfl rfl <| sk rfl rfl <| sk rfl rfl <| sk rfl rfl <| pf0 rfl rfl rfl <| mv0 rfl rfl <| sk rfl rfl <| sk rfl rfl <| sk rfl rfl <| pf0 rfl rfl rfl <| mv0 rfl rfl <| sk rfl rfl <| sk rfl rfl <| sk rfl rfl <| pf0 rfl rfl rfl <| mv0 rfl rfl <| sk rfl rfl <| sk rfl rfl <| sk rfl rfl <| pf0 rfl rfl rfl <| as0 rfl rfl <| .fin ?_
    obtain rfl := Gets.out H
    exact rt i2 rfl () 1 [0] 1 (.cons (res_tmp rfl) .nil)
   replace H := Gets.ct H c158
   refine mvg rfl rfl rfl <| pt0 rfl rfl rfl <| mv0 rfl rfl <| sk rfl rfl <| sk rfl rfl <| sk rfl rfl <| pf0 rfl rfl rfl <| mv0 rfl rfl <| sk rfl rfl <| sk rfl rfl <| sk rfl rfl <| pf0 rfl rfl rfl <| mv0 rfl rfl <| sk rfl rfl <| sk rfl rfl <| sk rfl rfl <| pf0 rfl rfl rfl <| mv0 rfl rfl <| sk rfl rfl <| sk rfl rfl <| sk rfl rfl <| pf0 rfl rfl rfl <| as0 rfl rfl <| .fin ?_
   obtain rfl := Gets.out H
   exact rt i2 rfl () 1 [0] 1 (.cons (res_tmp rfl) .nil)
  replace H := Gets.ct H c152
  refine fb rfl (gg rfl) rfl fa32_7 <| ld 0 rfl (gg rfl) rfl sc3 rfl rfl <| bng rfl rfl rfl rfl run_eq <| ptg rfl rfl rfl rfl <| pf0 rfl rfl rfl <| as0 rfl rfl <| .fin <| WP.seq <| rg 25 0 <| mv0 rfl rfl <| mv0 rfl rfl ?_
  cases c153 : t116
  ·
   replace H := Gets.cf H c153
   refine sk rfl rfl <| pf0 rfl rfl rfl <| mv0 rfl rfl <| sk rfl rfl <| sk rfl rfl <| sk rfl rfl <| pf0 rfl rfl rfl <| mv0 rfl rfl <| sk rfl rfl <| sk rfl rfl <| sk rfl rfl <| pf0 rfl rfl rfl <| mv0 rfl rfl <| sk rfl rfl <| sk rfl rfl <| sk rfl rfl <| pf0 rfl rfl rfl <| mv0 rfl rfl <| sk rfl rfl <| sk rfl rfl <| sk rfl rfl <| pf0 rfl rfl rfl <| as0 rfl rfl <| .fin ?_
   obtain rfl := Gets.out H
   exact rt i2 rfl () 1 [0] 1 (.cons (res_tmp rfl) .nil)
  replace H := Gets.ct H c153
  refine mvg rfl rfl rfl <| pt0 rfl rfl rfl <| mv0 rfl rfl ?_
  cases c154 : (a0.fSpan == 0)
  ·
   replace H := Gets.cf H c154
   refine sk rfl rfl <| sk rfl rfl <| sk rfl rfl <| pf0 rfl rfl rfl <| mv0 rfl rfl <| sk rfl rfl <| sk rfl rfl <| sk rfl rfl <| pf0 rfl rfl rfl <| mv0 rfl rfl <| sk rfl rfl <| sk rfl rfl <| sk rfl rfl <| pf0 rfl rfl rfl <| mv0 rfl rfl <| sk rfl rfl <| sk rfl rfl <| sk rfl rfl <| pf0 rfl rfl rfl <| as0 rfl rfl <| .fin ?_
   obtain rfl := Gets.out H
   exact rt i2 rfl () 1 [0] 1 (.cons (res_tmp rfl) .nil)
  replace H := Gets.ct H c154
  refine fb rfl (gg rfl) rfl fa32_3 <| ld 0 rfl (gg rfl) rfl sc9 rfl rfl <| bng rfl rfl rfl rfl run_seq <| pt0 rfl rfl rfl <| mv0 rfl rfl ?_
  cases c155 : decide (a0.fEvent = (⟨#[]⟩ : ByteArray))
  ·
   replace H := Gets.cf H c155
   refine sk rfl rfl <| sk rfl rfl <| sk rfl rfl <| pf0 rfl rfl rfl <| mv0 rfl rfl <| sk rfl rfl <| sk rfl rfl <| sk rfl rfl <| pf0 rfl rfl rfl <| mv0 rfl rfl <| sk rfl rfl <| sk rfl rfl <| sk rfl rfl <| pf0 rfl rfl rfl <| as0 rfl rfl <| .fin ?_
   obtain rfl := Gets.out H
   exact rt i2 rfl () 1 [0] 1 (.cons (res_tmp rfl) .nil)
  replace H := Gets.ct H c155
  refine fb rfl (gg rfl) rfl fa32_4 <| ld 0 rfl (gg rfl) rfl sc9 rfl rfl <| bng rfl rfl rfl rfl run_seq <| pt0 rfl rfl rfl <| mv0 rfl rfl ?_
  cases c156 : decide (a0.fThread = (⟨#[]⟩ : ByteArray))
  ·
   replace H := Gets.cf H c156
   refine sk rfl rfl <| sk rfl rfl <| sk rfl rfl <| pf0 rfl rfl rfl <| mv0 rfl rfl <| sk rfl rfl <| sk rfl rfl <| sk rfl rfl <| pf0 rfl rfl rfl <| as0 rfl rfl <| .fin ?_
   obtain rfl := Gets.out H
   exact rt i2 rfl () 1 [0] 1 (.cons (res_tmp rfl) .nil)
  replace H := Gets.ct H c156
  refine fb rfl (gg rfl) rfl fa32_8 <| ld 0 rfl (gg rfl) rfl sc3 rfl rfl <| bng rfl rfl rfl rfl run_eq <| pt0 rfl rfl rfl <| mv0 rfl rfl ?_
  cases c157 : (a0.fState == 0)
  ·
   replace H := Gets.cf H c157
   refine sk rfl rfl <| sk rfl rfl <| sk rfl rfl <| pf0 rfl rfl rfl <| as0 rfl rfl <| .fin ?_
   obtain rfl := Gets.out H
   exact rt i2 rfl () 1 [0] 1 (.cons (res_tmp rfl) .nil)
  replace H := Gets.ct H c157
  refine fb rfl (gg rfl) rfl fa32_5 <| ld 0 rfl (gg rfl) rfl sc4 rfl rfl <| ung rfl rfl rfl (run_not _) <| pt0 rfl rfl rfl <| as0 rfl rfl <| .fin ?_
  obtain rfl := Gets.out H
  exact rt i2 rfl () 1 [0] 1 (.cons (res_tmp rfl) .nil)
 replace H := Gets.ct H c139
 refine fb rfl (gg rfl) rfl fa32_7 <| ld 0 rfl (gg rfl) rfl sc3 rfl rfl <| bng rfl rfl rfl rfl run_le <| pt0 rfl rfl rfl <| mv0 rfl rfl ?_
 cases c140 : decide (a0.fSpan ≤ 60)
 rotate_left
 ·
  replace H := Gets.ct H c140
  refine sk rfl rfl <| sk rfl rfl <| sk rfl rfl <| sk rfl rfl <| sku rfl rfl <| sku rfl rfl <| sku rfl rfl <| sk rfl rfl <| pt0 rfl rfl rfl <| as0 rfl rfl <| .fin <| WP.seq <| rg 25 0 <| mv0 rfl rfl <| mv0 rfl rfl ?_
  cases c141 : t116
  ·
   replace H := Gets.cf H c141
   refine sk rfl rfl <| pf0 rfl rfl rfl <| mv0 rfl rfl <| sk rfl rfl <| sk rfl rfl <| sk rfl rfl <| pf0 rfl rfl rfl <| mv0 rfl rfl <| sk rfl rfl <| sk rfl rfl <| sk rfl rfl <| pf0 rfl rfl rfl <| mv0 rfl rfl <| sk rfl rfl <| sk rfl rfl <| sk rfl rfl <| pf0 rfl rfl rfl <| mv0 rfl rfl <| sk rfl rfl <| sk rfl rfl <| sk rfl rfl <| pf0 rfl rfl rfl <| as0 rfl rfl <| .fin ?_
   obtain rfl := Gets.out H
   exact rt i2 rfl () 1 [0] 1 (.cons (res_tmp rfl) .nil)
  replace H := Gets.ct H c141
  refine mvg rfl rfl rfl <| pt0 rfl rfl rfl <| mv0 rfl rfl <| fb rfl (gg rfl) rfl fa32_3 <| ld 0 rfl (gg rfl) rfl sc9 rfl rfl <| bng rfl rfl rfl rfl run_seq <| pt0 rfl rfl rfl <| mv0 rfl rfl ?_
  cases c142 : decide (a0.fEvent = (⟨#[]⟩ : ByteArray))
  ·
   replace H := Gets.cf H c142
   refine sk rfl rfl <| sk rfl rfl <| sk rfl rfl <| pf0 rfl rfl rfl <| mv0 rfl rfl <| sk rfl rfl <| sk rfl rfl <| sk rfl rfl <| pf0 rfl rfl rfl <| mv0 rfl rfl <| sk rfl rfl <| sk rfl rfl <| sk rfl rfl <| pf0 rfl rfl rfl <| as0 rfl rfl <| .fin ?_
   obtain rfl := Gets.out H
   exact rt i2 rfl () 1 [0] 1 (.cons (res_tmp rfl) .nil)
  replace H := Gets.ct H c142
  refine fb rfl (gg rfl) rfl fa32_4 <| ld 0 rfl (gg rfl) rfl sc9 rfl rfl <| bng rfl rfl rfl rfl run_seq <| pt0 rfl rfl rfl <| mv0 rfl rfl ?_
  cases c143 : decide (a0.fThread = (⟨#[]⟩ : ByteArray))
  ·
   replace H := Gets.cf H c143
   refine sk rfl rfl <| sk rfl rfl <| sk rfl rfl <| pf0 rfl rfl rfl <| mv0 rfl rfl <| sk rfl rfl <| sk rfl rfl <| sk rfl rfl <| pf0 rfl rfl rfl <| as0 rfl rfl <| .fin ?_
   obtain rfl := Gets.out H
   exact rt i2 rfl () 1 [0] 1 (.cons (res_tmp rfl) .nil)
  replace H := Gets.ct H c143
  refine fb rfl (gg rfl) rfl fa32_8 <| ld 0 rfl (gg rfl) rfl sc3 rfl rfl <| bng rfl rfl rfl rfl run_eq <| pt0 rfl rfl rfl <| mv0 rfl rfl ?_
  cases c144 : (a0.fState == 0)
  ·
   replace H := Gets.cf H c144
   refine sk rfl rfl <| sk rfl rfl <| sk rfl rfl <| pf0 rfl rfl rfl <| as0 rfl rfl <| .fin ?_
   obtain rfl := Gets.out H
   exact rt i2 rfl () 1 [0] 1 (.cons (res_tmp rfl) .nil)
  replace H := Gets.ct H c144
  refine fb rfl (gg rfl) rfl fa32_5 <| ld 0 rfl (gg rfl) rfl sc4 rfl rfl <| ung rfl rfl rfl (run_not _) <| pt0 rfl rfl rfl <| as0 rfl rfl <| .fin ?_
  obtain rfl := Gets.out H
  exact rt i2 rfl () 1 [0] 1 (.cons (res_tmp rfl) .nil)
 replace H := Gets.cf H c140
 refine fb rfl (gg rfl) rfl fa32_6 <| ld 0 rfl (gg rfl) rfl sc4 rfl rfl <| ung rfl rfl rfl (run_not _) <| mvg rfl rfl rfl ?_
 cases c145 : !a0.fOn
 ·
  replace H := Gets.cf H c145
  refine sk rfl rfl <| sk rfl rfl <| sk rfl rfl <| pfg rfl rfl rfl rfl <| pf0 rfl rfl rfl <| as0 rfl rfl <| .fin <| WP.seq <| rg 25 0 <| mv0 rfl rfl <| mv0 rfl rfl ?_
  cases c151 : t116
  ·
   replace H := Gets.cf H c151
   refine sk rfl rfl <| pf0 rfl rfl rfl <| mv0 rfl rfl <| sk rfl rfl <| sk rfl rfl <| sk rfl rfl <| pf0 rfl rfl rfl <| mv0 rfl rfl <| sk rfl rfl <| sk rfl rfl <| sk rfl rfl <| pf0 rfl rfl rfl <| mv0 rfl rfl <| sk rfl rfl <| sk rfl rfl <| sk rfl rfl <| pf0 rfl rfl rfl <| mv0 rfl rfl <| sk rfl rfl <| sk rfl rfl <| sk rfl rfl <| pf0 rfl rfl rfl <| as0 rfl rfl <| .fin ?_
   obtain rfl := Gets.out H
   exact rt i2 rfl () 1 [0] 1 (.cons (res_tmp rfl) .nil)
  replace H := Gets.ct H c151
  refine mvg rfl rfl rfl <| pt0 rfl rfl rfl <| mv0 rfl rfl <| sk rfl rfl <| sk rfl rfl <| sk rfl rfl <| pf0 rfl rfl rfl <| mv0 rfl rfl <| sk rfl rfl <| sk rfl rfl <| sk rfl rfl <| pf0 rfl rfl rfl <| mv0 rfl rfl <| sk rfl rfl <| sk rfl rfl <| sk rfl rfl <| pf0 rfl rfl rfl <| mv0 rfl rfl <| sk rfl rfl <| sk rfl rfl <| sk rfl rfl <| pf0 rfl rfl rfl <| as0 rfl rfl <| .fin ?_
  obtain rfl := Gets.out H
  exact rt i2 rfl () 1 [0] 1 (.cons (res_tmp rfl) .nil)
 replace H := Gets.ct H c145
 refine fb rfl (gg rfl) rfl fa32_7 <| ld 0 rfl (gg rfl) rfl sc3 rfl rfl <| bng rfl rfl rfl rfl run_eq <| ptg rfl rfl rfl rfl <| pf0 rfl rfl rfl <| as0 rfl rfl <| .fin <| WP.seq <| rg 25 0 <| mv0 rfl rfl <| mv0 rfl rfl ?_
 cases c146 : t116
 ·
  replace H := Gets.cf H c146
  refine sk rfl rfl <| pf0 rfl rfl rfl <| mv0 rfl rfl <| sk rfl rfl <| sk rfl rfl <| sk rfl rfl <| pf0 rfl rfl rfl <| mv0 rfl rfl <| sk rfl rfl <| sk rfl rfl <| sk rfl rfl <| pf0 rfl rfl rfl <| mv0 rfl rfl <| sk rfl rfl <| sk rfl rfl <| sk rfl rfl <| pf0 rfl rfl rfl <| mv0 rfl rfl <| sk rfl rfl <| sk rfl rfl <| sk rfl rfl <| pf0 rfl rfl rfl <| as0 rfl rfl <| .fin ?_
  obtain rfl := Gets.out H
  exact rt i2 rfl () 1 [0] 1 (.cons (res_tmp rfl) .nil)
 replace H := Gets.ct H c146
 refine mvg rfl rfl rfl <| pt0 rfl rfl rfl <| mv0 rfl rfl ?_
 cases c147 : (a0.fSpan == 0)
 ·
  replace H := Gets.cf H c147
  refine sk rfl rfl <| sk rfl rfl <| sk rfl rfl <| pf0 rfl rfl rfl <| mv0 rfl rfl <| sk rfl rfl <| sk rfl rfl <| sk rfl rfl <| pf0 rfl rfl rfl <| mv0 rfl rfl <| sk rfl rfl <| sk rfl rfl <| sk rfl rfl <| pf0 rfl rfl rfl <| mv0 rfl rfl <| sk rfl rfl <| sk rfl rfl <| sk rfl rfl <| pf0 rfl rfl rfl <| as0 rfl rfl <| .fin ?_
  obtain rfl := Gets.out H
  exact rt i2 rfl () 1 [0] 1 (.cons (res_tmp rfl) .nil)
 replace H := Gets.ct H c147
 refine fb rfl (gg rfl) rfl fa32_3 <| ld 0 rfl (gg rfl) rfl sc9 rfl rfl <| bng rfl rfl rfl rfl run_seq <| pt0 rfl rfl rfl <| mv0 rfl rfl ?_
 cases c148 : decide (a0.fEvent = (⟨#[]⟩ : ByteArray))
 ·
  replace H := Gets.cf H c148
  refine sk rfl rfl <| sk rfl rfl <| sk rfl rfl <| pf0 rfl rfl rfl <| mv0 rfl rfl <| sk rfl rfl <| sk rfl rfl <| sk rfl rfl <| pf0 rfl rfl rfl <| mv0 rfl rfl <| sk rfl rfl <| sk rfl rfl <| sk rfl rfl <| pf0 rfl rfl rfl <| as0 rfl rfl <| .fin ?_
  obtain rfl := Gets.out H
  exact rt i2 rfl () 1 [0] 1 (.cons (res_tmp rfl) .nil)
 replace H := Gets.ct H c148
 refine fb rfl (gg rfl) rfl fa32_4 <| ld 0 rfl (gg rfl) rfl sc9 rfl rfl <| bng rfl rfl rfl rfl run_seq <| pt0 rfl rfl rfl <| mv0 rfl rfl ?_
 cases c149 : decide (a0.fThread = (⟨#[]⟩ : ByteArray))
 ·
  replace H := Gets.cf H c149
  refine sk rfl rfl <| sk rfl rfl <| sk rfl rfl <| pf0 rfl rfl rfl <| mv0 rfl rfl <| sk rfl rfl <| sk rfl rfl <| sk rfl rfl <| pf0 rfl rfl rfl <| as0 rfl rfl <| .fin ?_
  obtain rfl := Gets.out H
  exact rt i2 rfl () 1 [0] 1 (.cons (res_tmp rfl) .nil)
 replace H := Gets.ct H c149
 refine fb rfl (gg rfl) rfl fa32_8 <| ld 0 rfl (gg rfl) rfl sc3 rfl rfl <| bng rfl rfl rfl rfl run_eq <| pt0 rfl rfl rfl <| mv0 rfl rfl ?_
 cases c150 : (a0.fState == 0)
 ·
  replace H := Gets.cf H c150
  refine sk rfl rfl <| sk rfl rfl <| sk rfl rfl <| pf0 rfl rfl rfl <| as0 rfl rfl <| .fin ?_
  obtain rfl := Gets.out H
  exact rt i2 rfl () 1 [0] 1 (.cons (res_tmp rfl) .nil)
 replace H := Gets.ct H c150
 refine fb rfl (gg rfl) rfl fa32_5 <| ld 0 rfl (gg rfl) rfl sc4 rfl rfl <| ung rfl rfl rfl (run_not _) <| pt0 rfl rfl rfl <| as0 rfl rfl <| .fin ?_
 obtain rfl := Gets.out H
 exact rt i2 rfl () 1 [0] 1 (.cons (res_tmp rfl) .nil)
theorem concourseref03_May.c {k : Nat} {a0 : Edu} {r : Bool} (h : concourseref03_May.f k a0 = some r) : Pt Tryz.prog 28 [agg (Edu.enc a0)] (vB r) := by
 unfold concourseref03_May.f at h
 refine (Tr.body Tryz.func28 (c := _) rfl Tryz.ntmps28 (Nat.le_of_ble_eq_true rfl) fun R0 F => ?_).pt
 replace h := Gets.of h
 have H := h
 clear h
 refine WP.seq <| rg 2 1 <| Dv.box rfl trivial rfl cA nofun fun b174 => as0 rfl rfl <| .fin <| WP.seq <| rg 3 0 <| lds 0 rfl trivial rfl sg32 rfl rfl <| el H fun t175 h176 H => cl rfl cal46 rfl (concourseref03_Local.c h176) <| as0 rfl rfl <| .fin <| WP.seq <| rg 7 0 <| mv0 rfl rfl <| mv0 rfl rfl ?_
 cases c177 : t175
 ·
  replace H := Gets.cf H c177
  refine sk rfl rfl <| sk rfl rfl <| sk rfl rfl <| pf0 rfl rfl rfl <| as0 rfl rfl <| .fin ?_
  obtain rfl := Gets.out H
  exact rt i2 rfl () 1 [0] 1 (.cons (res_tmp rfl) .nil)
 replace H := Gets.ct H c177
 refine fb rfl (gg rfl) rfl fa32_5 <| ld 0 rfl (gg rfl) rfl sc4 rfl rfl <| ung rfl rfl rfl (run_not _) <| pt0 rfl rfl rfl <| as0 rfl rfl <| .fin ?_
 obtain rfl := Gets.out H
 exact rt i2 rfl () 1 [0] 1 (.cons (res_tmp rfl) .nil)
theorem concourseref02_Number.c : ∀ (k : Nat) {a0 : Int} {r : (List Int)} (h : concourseref02_Number.f k a0 = some r), Tr Tryz.prog 67 [vI a0] [] (γ := OV) (fun _ => True) (fun g => eq g.1) (fun g => [own (intK .u8) g.1 r])
  | 0, _, _, h => by cases h
  | k + 1, a0, r, h => by
    rw [concourseref02_Number.f] at h
    refine Tr.body Tryz.func67 (c := _) rfl Tryz.ntmps67 (Nat.le_of_ble_eq_true rfl) fun R0 F => ?_
    replace h := Gets.of h
    have H := h
    clear h
    refine WP.seq <| rg 1 0 <| as0 rfl rfl <| .fin <| WP.seqn H id (fun p178 : Int => [(0, vI p178), (2, eq (.slice none 0 0)), (5, vB (decide (a0 < 0)))]) (fun p178 : Int => F) (fun p178 H => ?_) (fun H => ?_)
    rotate_left
    ·
     refine WP.seq <| rg 2 0 <| mv0 rfl rfl <| bn0 rfl rfl rfl run_lt <| .fin <| cd H rfl (fun _ H => ?_) (fun _ H => ?_)
     rotate_left
     ·
      refine WP.skip ?_
      replace H := Gets.out H
      exact jn a0 H
     refine rg 1 0 <| as0 rfl rfl <| .fin ?_
     replace H := Gets.out H
     exact jn 0 H
    refine WP.seq <| WP.seq <| rg 2 0 <| mv0 rfl rfl <| bn0 rfl rfl rfl run_lt <| .fin <| cd H rfl (fun _ H => ?_) (fun _ H => ?_)
    ·
     refine WP.seq <| rg 4 4 <| mv0 rfl rfl <| Dv.cvi rfl trivial rfl Tryz.underlying3 Tryz.underlying5 <| Dv.lito (intK .u8) ([IntKind.u8.wrap (p178)] : List Int) (css := [[eq (.int .u8 (IntKind.u8.wrap (p178)))]]) rfl trivial Tryz.underlying82 Tryz.underlying5 c5 z5 rfl (by decide) (by decide) rfl ⟨(cells_one (one_eq rfl)), trivial⟩ rfl rfl rfl nofun (fun v180 => ?_)
     refine as0 rfl rfl <| .fin ?_
     obtain rfl := Gets.out H
     exact rt i2 rfl v180 1 [0] 0 (.cons (res_tmp rfl) .nil)
    refine WP.skip <| WP.seq <| rg 6 16 <| mv0 rfl rfl <| bn0 rfl rfl rfl (run_rem (by decide)) <| bn0 rfl rfl rfl run_add <| Dv.cvi rfl trivial rfl Tryz.underlying3 Tryz.underlying5 <| Dv.lito (intK .u8) ([IntKind.u8.wrap (w64 (128 + (p178.tmod 128)))] : List Int) (css := [[eq (.int .u8 (IntKind.u8.wrap (w64 (128 + (p178.tmod 128)))))]]) rfl trivial Tryz.underlying82 Tryz.underlying5 c5 z5 rfl (by decide) (by decide) rfl ⟨(cells_one (one_eq rfl)), trivial⟩ rfl rfl rfl nofun (fun v181 => ?_)
    refine as0 rfl rfl <| .fin <| WP.seq <| rg 6 24 <| mv0 rfl rfl <| mv0 rfl rfl <| bn0 rfl rfl rfl (run_quo (by decide)) <| el H fun t182 h183 H => cx 1 [0] cal67 (concourseref02_Number.c k h183) nofun fun g184 _ => ?_
    refine gr H fun g185 H => ap (intK .u8) 1 t182 (src_own (mem_at 0 rfl)) Tryz.underlying82 (.inr ⟨_, Tryz.underlying82⟩) inf5 g185 nofun fun v186 => ?_
    refine as0 rfl rfl <| .fin ?_
    obtain rfl := Gets.out H
    exact rt i2 rfl v186 2 [0,1] 1 (.cons (res_tmp rfl) .nil)
theorem concourseref02_Text.c {k : Nat} {a0 : ByteArray} {r : (List Int)} (h : concourseref02_Text.f k a0 = some r) : Tr Tryz.prog 68 [vS a0] [] (γ := OV) (fun _ => True) (fun g => eq g.1) (fun g => [own (intK .u8) g.1 r]) := by
 unfold concourseref02_Text.f at h
 refine Tr.body Tryz.func68 (c := _) rfl Tryz.ntmps68 (Nat.le_of_ble_eq_true rfl) fun R0 F => ?_
 replace h := Gets.of h
 have H := h
 clear h
 refine WP.seq <| rg 1 0 <| as0 rfl rfl <| .fin <| WP.seq <| rg 6 20 <| mv0 rfl rfl <| Dv.lens rfl trivial rfl Tryz.underlying9 <| el H fun t188 h189 H => cx 0 [] cal67 (concourseref02_Number.c _ h189) nofun fun g190 _ => ?_
 refine mv0 rfl rfl <| gr H fun g191 H => ap (intK .u8) 0 (strBs a0) src_str Tryz.underlying82 (.inl Tryz.underlying9) inf5 g191 nofun fun v192 => ?_
 refine as0 rfl rfl <| .fin ?_
 obtain rfl := Gets.out H
 exact rt i2 rfl v192 1 [0] 0 (.cons (res_tmp rfl) .nil)
theorem concourseref02_Flag.c {a0 : Bool} {r : (List Int)} (h : concourseref02_Flag.f a0 = some r) : Pt Tryz.prog 69 [vB a0] (sl (intK .u8) r) := by
 unfold concourseref02_Flag.f at h
 refine (Tr.body Tryz.func69 (c := _) rfl Tryz.ntmps69 (Nat.le_of_ble_eq_true rfl) fun R0 F => ?_).pt
 replace h := Gets.of h
 have H := h
 clear h
 refine WP.seq <| rg 1 0 <| as0 rfl rfl <| .fin <| WP.seq <| WP.seq <| rg 1 0 <| mv0 rfl rfl <| .fin <| cd H rfl (fun _ H => ?_) (fun _ H => ?_)
 ·
  refine WP.seq <| rg 2 0 <| Dv.lit (intK .u8) ([1] : List Int) (css := [[eq (.int .u8 1)]]) rfl trivial Tryz.underlying82 Tryz.underlying5 c5 z5 rfl (by decide) (by decide) rfl ⟨(cells_one (one_eq rfl)), trivial⟩ rfl rfl rfl <| as0 rfl rfl <| .fin ?_
  obtain rfl := Gets.out H
  exact rt i2 rfl () 0 [] 0 (.cons (res_tmp rfl) .nil)
 refine WP.skip <| WP.seq <| rg 2 0 <| Dv.lit (intK .u8) ([0] : List Int) (css := [[eq (.int .u8 0)]]) rfl trivial Tryz.underlying82 Tryz.underlying5 c5 z5 rfl (by decide) (by decide) rfl ⟨(cells_one (one_eq rfl)), trivial⟩ rfl rfl rfl <| as0 rfl rfl <| .fin ?_
 obtain rfl := Gets.out H
 exact rt i2 rfl () 0 [] 0 (.cons (res_tmp rfl) .nil)
theorem concourseref03_Bytes.c {k : Nat} {a0 : Edu} {r : (List Int)} (h : concourseref03_Bytes.f k a0 = some r) : Tr Tryz.prog 47 [agg (Edu.enc a0)] [] (γ := OV) (fun _ => True) (fun g => eq g.1) (fun g => [own (intK .u8) g.1 r]) := by
 unfold concourseref03_Bytes.f at h
 refine Tr.body Tryz.func47 (c := _) rfl Tryz.ntmps47 (Nat.le_of_ble_eq_true rfl) fun R0 F => ?_
 replace h := Gets.of h
 have H := h
 clear h
 refine WP.seq <| rg 2 1 <| Dv.box rfl trivial rfl cA nofun fun b194 => as0 rfl rfl <| .fin <| WP.seq <| rg 4 4 <| fb rfl trivial rfl fa32_0 <| ld 0 rfl trivial rfl sc3 rfl rfl <| el H fun t195 h196 H => cx 1 [0] cal67 (concourseref02_Number.c _ h196) nofun fun g197 _ => ?_
 refine as0 rfl rfl <| .fin <| WP.seq <| rg 6 24 <| mv0 rfl rfl <| fb rfl trivial rfl fa32_1 <| ld 1 rfl trivial rfl sc9 rfl rfl <| el H fun t198 h199 H => cx 2 [0,1] cal68 (concourseref02_Text.c h199) nofun fun g200 _ => ?_
 refine gr H fun g201 H => ap (intK .u8) 1 t198 (src_own (mem_at 0 rfl)) Tryz.underlying82 (.inr ⟨_, Tryz.underlying82⟩) inf5 g201 nofun fun v202 => ?_
 refine as0 rfl rfl <| .fin <| WP.seq <| rg 6 24 <| mv0 rfl rfl <| fb rfl trivial rfl fa32_2 <| ld 2 rfl trivial rfl sc9 rfl rfl <| el H fun t203 h204 H => cx 3 [0,1,2] cal68 (concourseref02_Text.c h204) nofun fun g205 _ => ?_
 refine gr H fun g206 H => ap (intK .u8) 2 t203 (src_own (mem_at 0 rfl)) Tryz.underlying82 (.inr ⟨_, Tryz.underlying82⟩) inf5 g206 nofun fun v207 => ?_
 refine as0 rfl rfl <| .fin <| WP.seq <| rg 6 24 <| mv0 rfl rfl <| fb rfl trivial rfl fa32_3 <| ld 3 rfl trivial rfl sc9 rfl rfl <| el H fun t208 h209 H => cx 4 [0,1,2,3] cal68 (concourseref02_Text.c h209) nofun fun g210 _ => ?_
 refine gr H fun g211 H => ap (intK .u8) 3 t208 (src_own (mem_at 0 rfl)) Tryz.underlying82 (.inr ⟨_, Tryz.underlying82⟩) inf5 g211 nofun fun v212 => ?_
 refine as0 rfl rfl <| .fin <| WP.seq <| rg 6 24 <| mv0 rfl rfl <| fb rfl trivial rfl fa32_4 <| ld 4 rfl trivial rfl sc9 rfl rfl <| el H fun t213 h214 H => cx 5 [0,1,2,3,4] cal68 (concourseref02_Text.c h214) nofun fun g215 _ => ?_
 refine gr H fun g216 H => ap (intK .u8) 4 t213 (src_own (mem_at 0 rfl)) Tryz.underlying82 (.inr ⟨_, Tryz.underlying82⟩) inf5 g216 nofun fun v217 => ?_
 refine as0 rfl rfl <| .fin <| WP.seq <| rg 6 16 <| mv0 rfl rfl <| fb rfl trivial rfl fa32_6 <| ld 5 rfl trivial rfl sc4 rfl rfl <| el H fun t218 h219 H => cl rfl cal69 rfl (concourseref02_Flag.c h219) <| gr H fun g220 H => ap (intK .u8) 4 t218 src_sl Tryz.underlying82 (.inr ⟨_, Tryz.underlying82⟩) inf5 g220 nofun fun v221 => ?_
 refine as0 rfl rfl <| .fin <| WP.seq <| rg 6 24 <| mv0 rfl rfl <| fb rfl trivial rfl fa32_7 <| ld 5 rfl trivial rfl sc3 rfl rfl <| el H fun t222 h223 H => cx 6 [0,1,2,3,4,5] cal67 (concourseref02_Number.c _ h223) nofun fun g224 _ => ?_
 refine gr H fun g225 H => ap (intK .u8) 5 t222 (src_own (mem_at 0 rfl)) Tryz.underlying82 (.inr ⟨_, Tryz.underlying82⟩) inf5 g225 nofun fun v226 => ?_
 refine as0 rfl rfl <| .fin <| WP.seq <| rg 6 24 <| mv0 rfl rfl <| fb rfl trivial rfl fa32_8 <| ld 6 rfl trivial rfl sc3 rfl rfl <| el H fun t227 h228 H => cx 7 [0,1,2,3,4,5,6] cal67 (concourseref02_Number.c _ h228) nofun fun g229 _ => ?_
 refine gr H fun g230 H => ap (intK .u8) 6 t227 (src_own (mem_at 0 rfl)) Tryz.underlying82 (.inr ⟨_, Tryz.underlying82⟩) inf5 g230 nofun fun v231 => ?_
 refine as0 rfl rfl <| .fin <| WP.seq <| rg 6 24 <| mv0 rfl rfl <| fb rfl trivial rfl fa32_9 <| ld 7 rfl trivial rfl sc3 rfl rfl <| el H fun t232 h233 H => cx 8 [0,1,2,3,4,5,6,7] cal67 (concourseref02_Number.c _ h233) nofun fun g234 _ => ?_
 refine gr H fun g235 H => ap (intK .u8) 7 t232 (src_own (mem_at 0 rfl)) Tryz.underlying82 (.inr ⟨_, Tryz.underlying82⟩) inf5 g235 nofun fun v236 => ?_
 refine as0 rfl rfl <| .fin <| WP.seq <| rg 6 24 <| mv0 rfl rfl <| fb rfl trivial rfl fa32_10 <| ld 8 rfl trivial rfl sc3 rfl rfl <| el H fun t237 h238 H => cx 9 [0,1,2,3,4,5,6,7,8] cal67 (concourseref02_Number.c _ h238) nofun fun g239 _ => ?_
 refine gr H fun g240 H => ap (intK .u8) 8 t237 (src_own (mem_at 0 rfl)) Tryz.underlying82 (.inr ⟨_, Tryz.underlying82⟩) inf5 g240 nofun fun v241 => ?_
 refine as0 rfl rfl <| .fin ?_
 obtain rfl := Gets.out H
 exact rt i2 rfl v241 10 [0,1,2,3,4,5,6,7,9,8] 9 (.cons (res_tmp rfl) .nil)
theorem concourseref03_Compare.c {k : Nat} {a0 : Edu} {a1 : Edu} {r : Int} (h : concourseref03_Compare.f k a0 a1 = some r) : Pt Tryz.prog 29 [agg (Edu.enc a0), agg (Edu.enc a1)] (vI r) := by
 unfold concourseref03_Compare.f at h
 refine (Tr.body Tryz.func29 (c := _) rfl Tryz.ntmps29 (Nat.le_of_ble_eq_true rfl) fun R0 F => ?_).pt
 replace h := Gets.of h
 have H := h
 clear h
 refine WP.seq <| rg 3 3 <| Dv.box rfl trivial rfl cA nofun fun b242 => Dv.box rfl trivial rfl cA nofun fun b243 => as0 rfl rfl <| .fin <| WP.seq <| WP.seq <| rg 5 0 <| fb rfl trivial rfl fa32_10 <| ld 1 rfl trivial rfl sc3 rfl rfl <| fb rfl trivial rfl fa32_10 <| ld 0 rfl trivial rfl sc3 rfl rfl <| bn0 rfl rfl rfl run_lt <| .fin <| cd H rfl (fun _ H => ?_) (fun _ H => ?_)
 ·
  refine WP.seq <| rg 1 0 <| as0 rfl rfl <| .fin ?_
  obtain rfl := Gets.out H
  exact rt i2 rfl () 2 [0,1] 2 (.cons (res_tmp rfl) .nil)
 refine WP.skip <| WP.seq <| WP.seq <| rg 5 0 <| fb rfl trivial rfl fa32_10 <| ld 1 rfl trivial rfl sc3 rfl rfl <| fb rfl trivial rfl fa32_10 <| ld 0 rfl trivial rfl sc3 rfl rfl <| bn0 rfl rfl rfl run_gt <| .fin <| cd H rfl (fun _ H => ?_) (fun _ H => ?_)
 ·
  refine WP.seq <| rg 1 0 <| as0 rfl rfl <| .fin ?_
  obtain rfl := Gets.out H
  exact rt i2 rfl () 2 [0,1] 2 (.cons (res_tmp rfl) .nil)
 refine WP.skip <| WP.seq <| rg 4 2 <| lds 1 rfl trivial rfl sg32 rfl rfl <| el H fun t246 h247 H => cx 2 [0,1] cal47 (concourseref03_Bytes.c h247) nofun fun g248 _ => ?_
 refine Dv.gh (gh_frz (E' := [(0, agg (Edu.enc a0)), (1, agg (Edu.enc a1)), (2, eq (.pointer (some ⟨b242, 0, none⟩))), (3, eq (.pointer (some ⟨b243, 0, none⟩))), (4, vI 0), (11, vB (decide (a0.fStamp < a1.fStamp))), (16, vB (decide (a1.fStamp < a0.fStamp))), (18, sl (intK .u8) t246)]) (l' := [blk b243 32 (Edu.enc a1), blk b242 32 (Edu.enc a0)] ++ F) 0 rfl (cve_cons rfl cv_id (cve_cons rfl cv_id (cve_cons rfl cv_id (cve_cons rfl cv_id (cve_cons rfl cv_id (cve_cons rfl cv_id (cve_cons rfl cv_id (cve_cons rfl cv_eq cve_nil)))))))) (all2_app (.cons cva_id (.cons cva_id .nil)) fun _ => cva_id)) (fun _ _ => ?_)
 refine Dv.cvbs rfl trivial rfl Tryz.underlying82 Tryz.underlying5 Tryz.underlying9 <| as0 rfl rfl <| .fin <| WP.seq <| rg 4 2 <| lds 0 rfl trivial rfl sg32 rfl rfl <| el H fun t249 h250 H => cx 2 [0,1] cal47 (concourseref03_Bytes.c h250) nofun fun g251 _ => ?_
 refine Dv.gh (gh_frz (E' := [(0, agg (Edu.enc a0)), (1, agg (Edu.enc a1)), (2, eq (.pointer (some ⟨b242, 0, none⟩))), (3, eq (.pointer (some ⟨b243, 0, none⟩))), (4, vI 0), (5, vS (ofNums t246)), (11, vB (decide (a0.fStamp < a1.fStamp))), (16, vB (decide (a1.fStamp < a0.fStamp))), (21, sl (intK .u8) t249)]) (l' := [blk b243 32 (Edu.enc a1), blk b242 32 (Edu.enc a0)] ++ F) 0 rfl (cve_cons rfl cv_id (cve_cons rfl cv_id (cve_cons rfl cv_id (cve_cons rfl cv_id (cve_cons rfl cv_id (cve_cons rfl cv_id (cve_cons rfl cv_id (cve_cons rfl cv_id (cve_cons rfl cv_eq cve_nil))))))))) (all2_app (.cons cva_id (.cons cva_id .nil)) fun _ => cva_id)) (fun _ _ => ?_)
 refine Dv.cvbs rfl trivial rfl Tryz.underlying82 Tryz.underlying5 Tryz.underlying9 <| as0 rfl rfl <| .fin <| WP.seq <| WP.seq <| rg 3 0 <| mv0 rfl rfl <| mv0 rfl rfl <| bn0 rfl rfl rfl run_slt <| .fin <| cd H rfl (fun _ H => ?_) (fun _ H => ?_)
 ·
  refine WP.seq <| rg 1 0 <| as0 rfl rfl <| .fin ?_
  obtain rfl := Gets.out H
  exact rt i2 rfl () 2 [0,1] 2 (.cons (res_tmp rfl) .nil)
 refine WP.skip <| WP.seq <| WP.seq <| rg 3 0 <| mv0 rfl rfl <| mv0 rfl rfl <| bn0 rfl rfl rfl run_sgt <| .fin <| cd H rfl (fun _ H => ?_) (fun _ H => ?_)
 ·
  refine WP.seq <| rg 1 0 <| as0 rfl rfl <| .fin ?_
  obtain rfl := Gets.out H
  exact rt i2 rfl () 2 [0,1] 2 (.cons (res_tmp rfl) .nil)
 refine WP.skip <| WP.seq <| rg 1 0 <| as0 rfl rfl <| .fin ?_
 obtain rfl := Gets.out H
 exact rt i2 rfl () 2 [0,1] 2 (.cons (res_tmp rfl) .nil)
theorem concourseref15_Put.c {k : Nat} {a0 : TRef} {a1 : Edu} {r : TRef × Bool × Int} (h : concourseref15_Put.f k a0 a1 = some r) : Pt Tryz.prog 8 [agg (TRef.enc a0), agg (Edu.enc a1)] (tup [agg (TRef.enc r.1), vB r.2.1, vI r.2.2]) := by
 unfold concourseref15_Put.f at h
 refine (Tr.body Tryz.func8 (c := _) rfl Tryz.ntmps8 (Nat.le_of_ble_eq_true rfl) fun R0 F => ?_).pt
 replace h := Gets.of h
 have H := h
 clear h
 refine WP.seq <| rg 5 7 <| Dv.box rfl trivial rfl cA nofun fun b254 => Dv.box rfl trivial rfl cA nofun fun b255 => al rfl trivial zc27 nofun fun b256 => as0 rfl rfl <| as0 rfl rfl <| .fin <| WP.seq <| rg 3 0 <| lds 1 rfl trivial rfl sg32 rfl rfl <| el H fun t257 h258 H => cl rfl cal28 rfl (concourseref03_May.c h258) <| as0 rfl rfl <| .fin <| WP.seq <| WP.seq <| rg 7 0 <| fb rfl trivial rfl fa32_0 <| ld 1 rfl trivial rfl sc3 rfl rfl <| bn0 rfl rfl rfl run_ne <| mv0 rfl rfl ?_
 cases c259 : (a1.fKind != 3)
 rotate_left
 ·
  replace H := Gets.ct H c259
  refine sk rfl rfl <| sk rfl rfl <| pt0 rfl rfl rfl <| .fin <| WP.cond rfl (fun _ => ?_) nofun
  refine WP.seq <| rg 4 2 <| lds 2 rfl trivial rfl sg27 rfl rfl <| sx 0 rfl trivial rfl rfl cA sz27 rfl rfl rfl nofun ?_
  refine as0 rfl rfl <| as0 rfl rfl <| .fin ?_
  obtain rfl := Gets.out H
  exact rt i2 rfl () 3 [0,1,2] 3 (.cons (res_cells rfl Tryz.underlying27 rfl c27 (mem_at 0 rfl) rfl) (.cons (res_tmp rfl) (.cons (res_tmp rfl) .nil)))
 replace H := Gets.cf H c259
 refine mvg rfl rfl rfl <| ung rfl rfl rfl (run_not _) <| pf0 rfl rfl rfl <| .fin <| cd H rfl (fun _ H => ?_) (fun _ H => ?_)
 ·
  refine WP.seq <| rg 4 2 <| lds 2 rfl trivial rfl sg27 rfl rfl <| sx 0 rfl trivial rfl rfl cA sz27 rfl rfl rfl nofun ?_
  refine as0 rfl rfl <| as0 rfl rfl <| .fin ?_
  obtain rfl := Gets.out H
  exact rt i2 rfl () 3 [0,1,2] 3 (.cons (res_cells rfl Tryz.underlying27 rfl c27 (mem_at 0 rfl) rfl) (.cons (res_tmp rfl) (.cons (res_tmp rfl) .nil)))
 refine WP.skip <| WP.seq <| rg 1 1 <| al rfl trivial zc27 nofun fun b262 => .fin <| WP.seq <| rg 1 0 <| as0 rfl rfl <| .fin <| WP.seqr H (fun q302 : (Bool × Int × Bool × (List Edu) × (List Int)) × OV × OV => q302.1) (fun q302 : (Bool × Int × Bool × (List Edu) × (List Int)) × OV × OV => [(0, agg (TRef.enc a0)), (1, agg (Edu.enc a1)), (2, eq (.pointer (some ⟨b254, 0, none⟩))), (3, eq (.pointer (some ⟨b255, 0, none⟩))), (4, eq (.pointer (some ⟨b256, 0, none⟩))), (5, vB false), (6, vI 0), (7, vB t257), (8, eq (.pointer (some ⟨b262, 0, none⟩))), (9, vB q302.1.1), (10, vI q302.1.2.1), (20, vB (!t257)), (26, vB q302.1.2.2.1)]) (fun q302 : (Bool × Int × Bool × (List Edu) × (List Int)) × OV × OV => [blk b262 27 [eq q302.2.1.1, eq q302.2.2.1], blk b256 27 [eq (.slice none 0 0), eq (.slice none 0 0)], blk b255 32 (Edu.enc a1), blk b254 27 (TRef.enc a0), own Edu.K q302.2.1.1 q302.1.2.2.2.1, own (intK .i64) q302.2.2.1 q302.1.2.2.2.2] ++ F) (fun q302 H => ?_) (fun H => ?_)
 ·
  obtain ⟨p263, v264, v265⟩ := q302
  refine WP.seq <| WP.seq <| rg 2 0 <| mv0 rfl rfl <| un0 rfl rfl (run_not _) <| .fin <| cd H rfl (fun _ H => ?_) (fun _ H => ?_)
  rotate_left
  ·
   refine WP.skip <| WP.seq <| rg 4 2 <| lds 0 rfl trivial rfl sg27 rfl rfl <| sx 1 rfl trivial rfl rfl cA sz27 rfl rfl rfl nofun ?_
   refine as0 rfl rfl <| as0 rfl rfl <| .fin <| WP.gh (gh_frz (E' := [(4, eq (.pointer (some ⟨b256, 0, none⟩))), (5, vB true), (6, vI 0)]) (l' := [blk b262 27 [sl Edu.K p263.2.2.2.1, eq v265.1], blk b256 27 [sl Edu.K p263.2.2.2.1, eq v265.1], blk b255 32 (Edu.enc a1), blk b254 27 (TRef.enc a0), own (intK .i64) v265.1 p263.2.2.2.2] ++ F) 4 rfl (cve_cons rfl cv_id (cve_cons rfl cv_id (cve_cons rfl cv_id cve_nil))) (all2_app (.cons (cva_blk (.cons cv_eq (.cons cv_id .nil))) (.cons (cva_blk (.cons cv_eq (.cons cv_id .nil))) (.cons cva_id (.cons cva_id (.cons cva_id .nil))))) fun _ => cva_id)) (fun _ _ => ?_)
   refine WP.gh (gh_frz (E' := [(4, eq (.pointer (some ⟨b256, 0, none⟩))), (5, vB true), (6, vI 0)]) (l' := [blk b262 27 [sl Edu.K p263.2.2.2.1, sl (intK .i64) p263.2.2.2.2], blk b256 27 [sl Edu.K p263.2.2.2.1, sl (intK .i64) p263.2.2.2.2], blk b255 32 (Edu.enc a1), blk b254 27 (TRef.enc a0)] ++ F) 4 rfl (cve_cons rfl cv_id (cve_cons rfl cv_id (cve_cons rfl cv_id cve_nil))) (all2_app (.cons (cva_blk (.cons cv_id (.cons cv_eq .nil))) (.cons (cva_blk (.cons cv_id (.cons cv_eq .nil))) (.cons cva_id (.cons cva_id .nil)))) fun _ => cva_id)) (fun _ _ => ?_)
   obtain rfl := Gets.out H
   exact rt i2 rfl () 4 [0,1,2,3] 4 (.cons (res_cells rfl Tryz.underlying27 rfl c27 (mem_at 1 rfl) rfl) (.cons (res_tmp rfl) (.cons (res_tmp rfl) .nil)))
  refine WP.seq <| rg 7 80 <| fb rfl trivial rfl fa27_0 <| ld 0 rfl trivial rfl sc22 rfl rfl <| lds 2 rfl trivial rfl sg32 rfl rfl <| Dv.lit Edu.K ([a1] : List Edu) (css := [Edu.enc a1]) rfl trivial Tryz.underlying22 Tryz.underlying32 c32 z32 rfl (by decide) (by decide) rfl ⟨(cells_agg (Edu.K.one _)), trivial⟩ rfl rfl rfl <| gr H fun g267 H => ap Edu.K 4 ([a1] : List Edu) src_sl Tryz.underlying22 (.inr ⟨_, Tryz.underlying22⟩) inf32 g267 nofun fun v268 => ?_
  refine fb rfl trivial rfl fa27_0 <| sx 0 rfl trivial rfl rfl (cells_one one_ov) sz22 rfl rfl rfl nofun ?_
  refine .fin <| rg 6 40 <| fb rfl trivial rfl fa27_1 <| ld 0 rfl trivial rfl sc25 rfl rfl <| Dv.lit (intK .i64) ([(-1)] : List Int) (css := [[vI (-1)]]) rfl trivial Tryz.underlying25 Tryz.underlying3 c3 z3 rfl (by decide) (by decide) rfl ⟨(cells_one (one_eq rfl)), trivial⟩ rfl rfl rfl <| gr H fun g269 H => ap (intK .i64) 5 ([(-1)] : List Int) src_sl Tryz.underlying25 (.inr ⟨_, Tryz.underlying25⟩) inf3 g269 nofun fun v270 => ?_
  refine fb rfl trivial rfl fa27_1 <| sx 0 rfl trivial rfl rfl (cells_one one_ov) sz25 rfl rfl rfl nofun ?_
  refine .fin <| WP.seq <| rg 4 2 <| lds 0 rfl trivial rfl sg27 rfl rfl <| sx 1 rfl trivial rfl rfl cA sz27 rfl rfl rfl nofun ?_
  refine as0 rfl rfl <| as0 rfl rfl <| .fin <| WP.gh (gh_frz (E' := [(4, eq (.pointer (some ⟨b256, 0, none⟩))), (5, vB true), (6, vI 0)]) (l' := [blk b262 27 [sl Edu.K (p263.2.2.2.1 ++ ([a1] : List Edu)), eq v270.1], blk b256 27 [sl Edu.K (p263.2.2.2.1 ++ ([a1] : List Edu)), eq v270.1], blk b255 32 (Edu.enc a1), blk b254 27 (TRef.enc a0), own (intK .i64) v270.1 (p263.2.2.2.2 ++ ([(-1)] : List Int))] ++ F) 4 rfl (cve_cons rfl cv_id (cve_cons rfl cv_id (cve_cons rfl cv_id cve_nil))) (all2_app (.cons (cva_blk (.cons cv_eq (.cons cv_id .nil))) (.cons (cva_blk (.cons cv_eq (.cons cv_id .nil))) (.cons cva_id (.cons cva_id (.cons cva_id .nil))))) fun _ => cva_id)) (fun _ _ => ?_)
  refine WP.gh (gh_frz (E' := [(4, eq (.pointer (some ⟨b256, 0, none⟩))), (5, vB true), (6, vI 0)]) (l' := [blk b262 27 [sl Edu.K (p263.2.2.2.1 ++ ([a1] : List Edu)), sl (intK .i64) (p263.2.2.2.2 ++ ([(-1)] : List Int))], blk b256 27 [sl Edu.K (p263.2.2.2.1 ++ ([a1] : List Edu)), sl (intK .i64) (p263.2.2.2.2 ++ ([(-1)] : List Int))], blk b255 32 (Edu.enc a1), blk b254 27 (TRef.enc a0)] ++ F) 4 rfl (cve_cons rfl cv_id (cve_cons rfl cv_id (cve_cons rfl cv_id cve_nil))) (all2_app (.cons (cva_blk (.cons cv_id (.cons cv_eq .nil))) (.cons (cva_blk (.cons cv_id (.cons cv_eq .nil))) (.cons cva_id (.cons cva_id .nil)))) fun _ => cva_id)) (fun _ _ => ?_)
  obtain rfl := Gets.out H
  exact rt i2 rfl () 4 [0,1,2,3] 4 (.cons (res_cells rfl Tryz.underlying27 rfl c27 (mem_at 1 rfl) rfl) (.cons (res_tmp rfl) (.cons (res_tmp rfl) .nil)))
 refine WP.seq <| rg 1 0 <| as0 rfl rfl <| .fin <| WP.block <| wg (st_nil Edu.K none) fun _ _ => ?_
 refine wg (st_nil (intK .i64) none) fun _ _ => ?_
 refine wg (sg 6 [2,3,4,5,1,0] 0) fun _ _ => ?_
 refine lp (fun j_ (p301 : Bool × Int × (List Edu) × (List Int) × OV × OV) => concourseref15_Put.l0 k a0 a1 j_ p301.1 p301.2.1 p301.2.2.1 p301.2.2.2.1) (false, 0, ([] : List Edu), ([] : List Int), nilV, nilV1) H (fun p301 => [(0, agg (TRef.enc a0)), (1, agg (Edu.enc a1)), (2, eq (.pointer (some ⟨b254, 0, none⟩))), (3, eq (.pointer (some ⟨b255, 0, none⟩))), (4, eq (.pointer (some ⟨b256, 0, none⟩))), (5, vB false), (6, vI 0), (7, vB t257), (8, eq (.pointer (some ⟨b262, 0, none⟩))), (9, vB p301.1), (10, vI p301.2.1), (20, vB (!t257))]) (fun p301 => [blk b262 27 [eq p301.2.2.2.2.1.1, eq p301.2.2.2.2.2.1], blk b256 27 [eq (.slice none 0 0), eq (.slice none 0 0)], blk b255 32 (Edu.enc a1), blk b254 27 (TRef.enc a0), own Edu.K p301.2.2.2.2.1.1 p301.2.2.1, own (intK .i64) p301.2.2.2.2.2.1 p301.2.2.2.1] ++ F) ?_
 rintro j_ ⟨x271, x272, x273, x274, v275, v276⟩ H
 rcases j_ with _ | j300
 ·
  exact (Gets.no H).elim
 replace H : Gets (concourseref15_Put.l0 k a0 a1 (j300 + 1) x271 x272 x273 x274) _ := H
 rw [concourseref15_Put.l0] at H
 refine WP.seq <| WP.seq <| rg 5 0 <| mv0 rfl rfl <| fb rfl trivial rfl fa27_0 <| ld 3 rfl trivial rfl sc22 rfl rfl <| Dv.lenl rfl trivial rfl Tryz.underlying22 <| bn0 rfl rfl rfl run_lt <| .fin <| cd H rfl (fun _ H => ?_) (fun _ H => ?_)
 rotate_left
 ·
  refine WP.exit ?_
  replace H := Gets.out H
  exact jn ((x271, x272, decide (x272 < (a0.fL.length : Int)), x273, x274), v275, v276) H
 refine WP.skip <| WP.seq <| WP.block <| WP.seq <| rg 7 96 <| fb rfl trivial rfl fa27_0 <| ld 3 rfl trivial rfl sc22 rfl rfl <| mv0 rfl rfl <| gr H fun g278 H => Dv.ixr rfl trivial rfl rfl Tryz.underlying22 Tryz.underlying32 c32 g278.1 g278.2 <| ldsR rfl trivial rfl sg32 rfl <| al rfl trivial zc32 nofun fun b279 => sx 0 rfl trivial rfl rfl cA sz32 rfl rfl rfl nofun ?_
 refine .fin <| WP.seq <| WP.seq <| rg 5 0 <| fb rfl trivial rfl fa32_2 <| ld 0 rfl trivial rfl sc9 rfl rfl <| fb rfl trivial rfl fa32_2 <| ld 3 rfl trivial rfl sc9 rfl rfl <| bn0 rfl rfl rfl run_seq <| .fin <| cd H rfl (fun _ H => ?_) (fun _ H => ?_)
 ·
  refine WP.seq <| WP.seq <| rg 4 0 <| lds 3 rfl trivial rfl sg32 rfl rfl <| lds 0 rfl trivial rfl sg32 rfl rfl <| el H fun t281 h282 H => cl rfl cal29 rfl (concourseref03_Compare.c h282) <| bn0 rfl rfl rfl run_le <| .fin <| cd H rfl (fun _ H => ?_) (fun _ H => ?_)
  rotate_left
  ·
   refine WP.skip <| WP.exit <| rg 3 0 <| mv0 rfl rfl <| bn0 rfl rfl rfl run_add <| as0 rfl rfl <| .fin <| ng (sg 7 [0,1,2,3,4,5,6] 1) fun _ _ => ?_
   exact bk j300 (x271, w64 (x272 + 1), x273, x274, v275, v276) H
  refine WP.seq <| rg 4 2 <| lds 4 rfl trivial rfl sg27 rfl rfl <| sx 2 rfl trivial rfl rfl cA sz27 rfl rfl rfl nofun ?_
  refine as0 rfl rfl <| as0 rfl rfl <| .fin ?_
  replace H := Gets.outr H
  obtain rfl := Gets.out H
  exact rt i2 rfl () 7 [0,1,2,3,4,5,6] 7 (.cons (res_cells rfl Tryz.underlying27 rfl c27 (mem_at 2 rfl) rfl) (.cons (res_tmp rfl) (.cons (res_tmp rfl) .nil)))
 refine WP.skip <| WP.seqn H (fun q299 : (Bool × Bool × (List Edu) × (List Int)) × OV × OV => q299.1) (fun q299 : (Bool × Bool × (List Edu) × (List Int)) × OV × OV => [(0, agg (TRef.enc a0)), (1, agg (Edu.enc a1)), (2, eq (.pointer (some ⟨b254, 0, none⟩))), (3, eq (.pointer (some ⟨b255, 0, none⟩))), (4, eq (.pointer (some ⟨b256, 0, none⟩))), (5, vB false), (6, vI 0), (7, vB t257), (8, eq (.pointer (some ⟨b262, 0, none⟩))), (9, vB q299.1.1), (10, vI x272), (11, eq (.pointer (some ⟨b279, 0, none⟩))), (20, vB (!t257)), (26, vB (decide (x272 < (a0.fL.length : Int)))), (38, vB (decide (((Edu.K.at a0.fL x272).fUser) = a1.fUser))), (52, vB q299.1.2.1)]) (fun q299 : (Bool × Bool × (List Edu) × (List Int)) × OV × OV => [blk b279 32 (Edu.enc (Edu.K.at a0.fL x272)), blk b262 27 [eq q299.2.1.1, eq q299.2.2.1], blk b256 27 [eq (.slice none 0 0), eq (.slice none 0 0)], blk b255 32 (Edu.enc a1), blk b254 27 (TRef.enc a0), own Edu.K q299.2.1.1 q299.1.2.2.1, own (intK .i64) q299.2.2.1 q299.1.2.2.2] ++ F) (fun q299 H => ?_) (fun H => ?_)
 ·
  obtain ⟨p284, v285, v286⟩ := q299
  refine WP.seq <| rg 7 80 <| fb rfl trivial rfl fa27_0 <| ld 1 rfl trivial rfl sc22 rfl rfl <| lds 0 rfl trivial rfl sg32 rfl rfl <| Dv.lit Edu.K ([Edu.K.at a0.fL x272] : List Edu) (css := [Edu.enc (Edu.K.at a0.fL x272)]) rfl trivial Tryz.underlying22 Tryz.underlying32 c32 z32 rfl (by decide) (by decide) rfl ⟨(cells_agg (Edu.K.one _)), trivial⟩ rfl rfl rfl <| gr H fun g287 H => ap Edu.K 5 ([Edu.K.at a0.fL x272] : List Edu) src_sl Tryz.underlying22 (.inr ⟨_, Tryz.underlying22⟩) inf32 g287 nofun fun v288 => ?_
  refine fb rfl trivial rfl fa27_0 <| sx 1 rfl trivial rfl rfl (cells_one one_ov) sz22 rfl rfl rfl nofun ?_
  refine .fin <| dg Tryz.checked.mixed 11 1280 <| fb rfl trivial rfl fa27_1 <| ld 1 rfl trivial rfl sc25 rfl rfl <| fb rfl trivial rfl fa27_1 <| ld 4 rfl trivial rfl sc25 rfl rfl <| mv0 rfl rfl <| gr H fun g289 H => Dv.ixr rfl trivial rfl rfl Tryz.underlying25 Tryz.underlying3 c3 g289.1 g289.2 <| ldR rfl trivial rfl sc3 rfl <| Dv.lit (intK .i64) ([(intK .i64).at a0.fTold x272] : List Int) (css := [[vI ((intK .i64).at a0.fTold x272)]]) rfl trivial Tryz.underlying25 Tryz.underlying3 c3 z3 rfl (by decide) (by decide) rfl ⟨(cells_one (one_eq rfl)), trivial⟩ rfl rfl rfl <| gr H fun g290 H => ap (intK .i64) 6 ([(intK .i64).at a0.fTold x272] : List Int) src_sl Tryz.underlying25 (.inr ⟨_, Tryz.underlying25⟩) inf3 g290 pB fun v291 => ?_
  refine fb rfl trivial rfl fa27_1 <| sx 1 rfl trivial rfl rfl (cells_one one_ov) sz25 rfl rfl rfl pB ?_
  refine .fin <| rg 3 0 <| mv0 rfl rfl <| bn0 rfl rfl rfl run_add <| as0 rfl rfl <| .fin <| ng (sg 7 [0,1,2,3,4,5,6] 1) fun _ _ => ?_
  exact bk j300 (p284.1, w64 (x272 + 1), p284.2.2.1 ++ ([Edu.K.at a0.fL x272] : List Edu), p284.2.2.2 ++ ([(intK .i64).at a0.fTold x272] : List Int), v288, v291) H
 refine WP.seq <| rg 9 0 <| mv0 rfl rfl <| un0 rfl rfl (run_not _) <| mv0 rfl rfl ?_
 cases c292 : !x271
 ·
  replace H := Gets.cf H c292
  refine sk rfl rfl <| sk rfl rfl <| sk rfl rfl <| sk rfl rfl <| sk rfl rfl <| pf0 rfl rfl rfl <| .fin <| WP.cond rfl nofun (fun _ => ?_)
  refine WP.skip ?_
  replace H := Gets.out H
  exact jn ((x271, false, x273, x274), v275, v276) H
 replace H := Gets.ct H c292
 refine fb rfl (gg rfl) rfl fa32_2 <| ld 3 rfl (gg rfl) rfl sc9 rfl rfl <| fb rfl (gg rfl) rfl fa32_2 <| ld 0 rfl (gg rfl) rfl sc9 rfl rfl <| bng rfl rfl rfl rfl run_slt <| pt0 rfl rfl rfl <| .fin <| cd H rfl (fun _ H => ?_) (fun _ H => ?_)
 rotate_left
 ·
  refine WP.skip ?_
  replace H := Gets.out H
  exact jn ((x271, sLt a1.fUser ((Edu.K.at a0.fL x272).fUser), x273, x274), v275, v276) H
 refine WP.seq <| rg 7 80 <| fb rfl trivial rfl fa27_0 <| ld 1 rfl trivial rfl sc22 rfl rfl <| lds 3 rfl trivial rfl sg32 rfl rfl <| Dv.lit Edu.K ([a1] : List Edu) (css := [Edu.enc a1]) rfl trivial Tryz.underlying22 Tryz.underlying32 c32 z32 rfl (by decide) (by decide) rfl ⟨(cells_agg (Edu.K.one _)), trivial⟩ rfl rfl rfl <| gr H fun g294 H => ap Edu.K 5 ([a1] : List Edu) src_sl Tryz.underlying22 (.inr ⟨_, Tryz.underlying22⟩) inf32 g294 nofun fun v295 => ?_
 refine fb rfl trivial rfl fa27_0 <| sx 1 rfl trivial rfl rfl (cells_one one_ov) sz22 rfl rfl rfl nofun ?_
 refine .fin <| WP.seq <| rg 6 40 <| fb rfl trivial rfl fa27_1 <| ld 1 rfl trivial rfl sc25 rfl rfl <| Dv.lit (intK .i64) ([(-1)] : List Int) (css := [[vI (-1)]]) rfl trivial Tryz.underlying25 Tryz.underlying3 c3 z3 rfl (by decide) (by decide) rfl ⟨(cells_one (one_eq rfl)), trivial⟩ rfl rfl rfl <| gr H fun g296 H => ap (intK .i64) 6 ([(-1)] : List Int) src_sl Tryz.underlying25 (.inr ⟨_, Tryz.underlying25⟩) inf3 g296 nofun fun v297 => ?_
 refine fb rfl trivial rfl fa27_1 <| sx 1 rfl trivial rfl rfl (cells_one one_ov) sz25 rfl rfl rfl nofun ?_
 refine .fin <| rg 1 0 <| as0 rfl rfl <| .fin ?_
 replace H := Gets.out H
 exact jn ((true, sLt a1.fUser ((Edu.K.at a0.fL x272).fUser), x273 ++ ([a1] : List Edu), x274 ++ ([(-1)] : List Int)), v295, v297) H
theorem concourseref01_Around.c {a0 : Int} {a1 : Int} {r : Int} (h : concourseref01_Around.f a0 a1 = some r) : Pt Tryz.prog 12 [vI a0, vI a1] (vI r) := by
 unfold concourseref01_Around.f at h
 refine (Tr.body Tryz.func12 (c := _) rfl Tryz.ntmps12 (Nat.le_of_ble_eq_true rfl) fun R0 F => ?_).pt
 replace h := Gets.of h
 have H := h
 clear h
 refine WP.seq <| rg 1 0 <| as0 rfl rfl <| .fin <| WP.seq <| WP.seq <| rg 2 0 <| mv0 rfl rfl <| bn0 rfl rfl rfl run_lt <| .fin <| cd H rfl (fun _ H => ?_) (fun _ H => ?_)
 rotate_left
 ·
  refine WP.skip <| WP.seq <| rg 4 0 <| mv0 rfl rfl <| mv0 rfl rfl <| gr H fun g305 H => bn0 rfl rfl rfl (run_rem g305) <| as0 rfl rfl <| .fin ?_
  obtain rfl := Gets.out H
  exact rt i2 rfl () 0 [] 0 (.cons (res_tmp rfl) .nil)
 refine rg 4 0 <| mv0 rfl rfl <| bn0 rfl rfl rfl run_add <| un0 rfl rfl (run_neg _ _) <| as0 rfl rfl <| .fin <| WP.seq <| rg 4 0 <| mv0 rfl rfl <| mv0 rfl rfl <| gr H fun g304 H => bn0 rfl rfl rfl (run_rem g304) <| as0 rfl rfl <| .fin ?_
 obtain rfl := Gets.out H
 exact rt i2 rfl () 0 [] 0 (.cons (res_tmp rfl) .nil)
theorem concourseref01_ServerOf.c {a0 : Int} {r : ByteArray} (h : concourseref01_ServerOf.f a0 = some r) : Pt Tryz.prog 40 [vI a0] (vS r) := by
 unfold concourseref01_ServerOf.f at h
 refine (Tr.body Tryz.func40 (c := _) rfl Tryz.ntmps40 (Nat.le_of_ble_eq_true rfl) fun R0 F => ?_).pt
 replace h := Gets.of h
 have H := h
 clear h
 refine WP.seq <| rg 1 0 <| as0 rfl rfl <| .fin <| WP.seq <| rg 6 0 <| Dv.lit strK ([(⟨#[115, 49]⟩ : ByteArray), (⟨#[115, 50]⟩ : ByteArray), (⟨#[115, 51]⟩ : ByteArray)] : List ByteArray) (css := [[vS (⟨#[115, 49]⟩ : ByteArray)], [vS (⟨#[115, 50]⟩ : ByteArray)], [vS (⟨#[115, 51]⟩ : ByteArray)]]) rfl trivial Tryz.underlying39 Tryz.underlying9 c9 z9 rfl (by decide) (by decide) rfl ⟨(cells_one (one_eq rfl)), ⟨(cells_one (one_eq rfl)), ⟨(cells_one (one_eq rfl)), trivial⟩⟩⟩ rfl rfl rfl <| mv0 rfl rfl <| el H fun t306 h307 H => cl rfl cal12 rfl (concourseref01_Around.c h307) <| gr H fun g308 H => Dv.ixr rfl trivial rfl rfl Tryz.underlying39 Tryz.underlying9 c9 g308.1 g308.2 <| ldR rfl trivial rfl sc9 rfl <| as0 rfl rfl <| .fin ?_
 obtain rfl := Gets.out H
 exact rt i2 rfl () 0 [] 0 (.cons (res_tmp rfl) .nil)
theorem concourseref01_UserOf.c {a0 : Int} {r : ByteArray} (h : concourseref01_UserOf.f a0 = some r) : Pt Tryz.prog 18 [vI a0] (vS r) := by
 unfold concourseref01_UserOf.f at h
 refine (Tr.body Tryz.func18 (c := _) rfl Tryz.ntmps18 (Nat.le_of_ble_eq_true rfl) fun R0 F => ?_).pt
 replace h := Gets.of h
 have H := h
 clear h
 refine WP.seq <| rg 1 0 <| as0 rfl rfl <| .fin <| WP.seq <| rg 3 0 <| mv0 rfl rfl <| el H fun t309 h310 H => cl rfl cal12 rfl (concourseref01_Around.c h310) <| as0 rfl rfl <| .fin <| WP.seq <| dg Tryz.checked.mixed 10 0 <| Dv.lit strK ([(⟨#[64, 97, 58]⟩ : ByteArray), (⟨#[64, 98, 58]⟩ : ByteArray), (⟨#[64, 99, 58]⟩ : ByteArray)] : List ByteArray) (css := [[vS (⟨#[64, 97, 58]⟩ : ByteArray)], [vS (⟨#[64, 98, 58]⟩ : ByteArray)], [vS (⟨#[64, 99, 58]⟩ : ByteArray)]]) rfl trivial Tryz.underlying39 Tryz.underlying9 c9 z9 rfl (by decide) (by decide) rfl ⟨(cells_one (one_eq rfl)), ⟨(cells_one (one_eq rfl)), ⟨(cells_one (one_eq rfl)), trivial⟩⟩⟩ rfl rfl rfl <| mv0 rfl rfl <| bn0 rfl rfl rfl (run_quo (by decide)) <| gr H fun g311 H => Dv.ixr rfl trivial rfl rfl Tryz.underlying39 Tryz.underlying9 c9 g311.1 g311.2 <| ldR rfl trivial rfl sc9 rfl <| mv0 rfl rfl <| bn0 rfl rfl rfl (run_rem (by decide)) <| el H fun t312 h313 H => cl rfl cal40 rfl (concourseref01_ServerOf.c h313) <| gr H fun g314 H => bn0 rfl rfl rfl (run_cat g314) <| as0 rfl rfl <| .fin ?_
 obtain rfl := Gets.out H
 exact rt i2 rfl () 0 [] 0 (.cons (res_tmp rfl) .nil)
theorem concourseref01_RoomOf.c {a0 : Int} {r : ByteArray} (h : concourseref01_RoomOf.f a0 = some r) : Pt Tryz.prog 48 [vI a0] (vS r) := by
 unfold concourseref01_RoomOf.f at h
 refine (Tr.body Tryz.func48 (c := _) rfl Tryz.ntmps48 (Nat.le_of_ble_eq_true rfl) fun R0 F => ?_).pt
 replace h := Gets.of h
 have H := h
 clear h
 refine WP.seq <| rg 1 0 <| as0 rfl rfl <| .fin <| WP.seq <| rg 6 0 <| Dv.lit strK ([(⟨#[33, 114, 58, 115, 49]⟩ : ByteArray), (⟨#[33, 113, 58, 115, 50]⟩ : ByteArray)] : List ByteArray) (css := [[vS (⟨#[33, 114, 58, 115, 49]⟩ : ByteArray)], [vS (⟨#[33, 113, 58, 115, 50]⟩ : ByteArray)]]) rfl trivial Tryz.underlying39 Tryz.underlying9 c9 z9 rfl (by decide) (by decide) rfl ⟨(cells_one (one_eq rfl)), ⟨(cells_one (one_eq rfl)), trivial⟩⟩ rfl rfl rfl <| mv0 rfl rfl <| el H fun t315 h316 H => cl rfl cal12 rfl (concourseref01_Around.c h316) <| gr H fun g317 H => Dv.ixr rfl trivial rfl rfl Tryz.underlying39 Tryz.underlying9 c9 g317.1 g317.2 <| ldR rfl trivial rfl sc9 rfl <| as0 rfl rfl <| .fin ?_
 obtain rfl := Gets.out H
 exact rt i2 rfl () 0 [] 0 (.cons (res_tmp rfl) .nil)
theorem concourseref01_Decimal.c : ∀ (k : Nat) {a0 : Int} {r : ByteArray} (h : concourseref01_Decimal.f k a0 = some r), Pt Tryz.prog 70 [vI a0] (vS r)
  | 0, _, _, h => by cases h
  | k + 1, a0, r, h => by
    rw [concourseref01_Decimal.f] at h
    refine (Tr.body Tryz.func70 (c := _) rfl Tryz.ntmps70 (Nat.le_of_ble_eq_true rfl) fun R0 F => ?_).pt
    replace h := Gets.of h
    have H := h
    clear h
    refine WP.seq <| rg 1 0 <| as0 rfl rfl <| .fin <| WP.seq <| rg 3 0 <| mv0 rfl rfl <| bn0 rfl rfl rfl (run_rem (by decide)) <| as0 rfl rfl <| .fin <| WP.seqn H id (fun p318 : Int => [(0, vI a0), (2, vS (⟨#[]⟩ : ByteArray)), (3, vI p318), (8, vB (decide ((a0.tmod 10) < 0)))]) (fun p318 : Int => F) (fun p318 H => ?_) (fun H => ?_)
    rotate_left
    ·
     refine WP.seq <| rg 2 0 <| mv0 rfl rfl <| bn0 rfl rfl rfl run_lt <| .fin <| cd H rfl (fun _ H => ?_) (fun _ H => ?_)
     rotate_left
     ·
      refine WP.skip ?_
      replace H := Gets.out H
      exact jn (a0.tmod 10) H
     refine rg 3 0 <| mv0 rfl rfl <| un0 rfl rfl (run_neg _ _) <| as0 rfl rfl <| .fin ?_
     replace H := Gets.out H
     exact jn (w64 (0 - (a0.tmod 10))) H
    refine WP.seq <| rg 6 0 <| mv0 rfl rfl <| bn0 rfl rfl rfl run_add <| Dv.cvi rfl trivial rfl Tryz.underlying3 Tryz.underlying5 <| Dv.lit (intK .u8) ([IntKind.u8.wrap (w64 (48 + p318))] : List Int) (css := [[eq (.int .u8 (IntKind.u8.wrap (w64 (48 + p318))))]]) rfl trivial Tryz.underlying82 Tryz.underlying5 c5 z5 rfl (by decide) (by decide) rfl ⟨(cells_one (one_eq rfl)), trivial⟩ rfl rfl rfl <| Dv.cvbs rfl trivial rfl Tryz.underlying82 Tryz.underlying5 Tryz.underlying9 <| as0 rfl rfl <| .fin <| WP.seq <| WP.seq <| rg 6 0 <| mv0 rfl rfl <| bn0 rfl rfl rfl run_gt <| mv0 rfl rfl ?_
    cases c319 : decide ((-10) < a0)
    ·
     replace H := Gets.cf H c319
     refine sk rfl rfl <| sk rfl rfl <| pf0 rfl rfl rfl <| .fin <| WP.cond rfl nofun (fun _ => ?_)
     refine WP.skip <| WP.seq <| rg 6 0 <| mv0 rfl rfl <| bn0 rfl rfl rfl (run_quo (by decide)) <| el H fun t327 h328 H => cl rfl cal70 rfl (concourseref01_Decimal.c k h328) <| mv0 rfl rfl <| gr H fun g329 H => bn0 rfl rfl rfl (run_cat g329) <| as0 rfl rfl <| .fin ?_
     obtain rfl := Gets.out H
     exact rt i2 rfl () 0 [] 0 (.cons (res_tmp rfl) .nil)
    replace H := Gets.ct H c319
    refine mvg rfl rfl rfl <| bng rfl rfl rfl rfl run_lt <| pt0 rfl rfl rfl <| .fin <| cd H rfl (fun _ H => ?_) (fun _ H => ?_)
    rotate_left
    ·
     refine WP.skip <| WP.seq <| rg 6 0 <| mv0 rfl rfl <| bn0 rfl rfl rfl (run_quo (by decide)) <| el H fun t323 h324 H => cl rfl cal70 rfl (concourseref01_Decimal.c k h324) <| mv0 rfl rfl <| gr H fun g325 H => bn0 rfl rfl rfl (run_cat g325) <| as0 rfl rfl <| .fin ?_
     obtain rfl := Gets.out H
     exact rt i2 rfl () 0 [] 0 (.cons (res_tmp rfl) .nil)
    refine WP.seq <| WP.seq <| rg 2 0 <| mv0 rfl rfl <| bn0 rfl rfl rfl run_lt <| .fin <| cd H rfl (fun _ H => ?_) (fun _ H => ?_)
    rotate_left
    ·
     refine WP.skip <| WP.seq <| rg 2 0 <| mv0 rfl rfl <| as0 rfl rfl <| .fin ?_
     obtain rfl := Gets.out H
     exact rt i2 rfl () 0 [] 0 (.cons (res_tmp rfl) .nil)
    refine WP.seq <| rg 3 0 <| mv0 rfl rfl <| gr H fun g322 H => bn0 rfl rfl rfl (run_cat g322) <| as0 rfl rfl <| .fin ?_
    obtain rfl := Gets.out H
    exact rt i2 rfl () 0 [] 0 (.cons (res_tmp rfl) .nil)
theorem concourseref01_EventOf.c {k : Nat} {a0 : Int} {r : ByteArray} (h : concourseref01_EventOf.f k a0 = some r) : Pt Tryz.prog 49 [vI a0] (vS r) := by
 unfold concourseref01_EventOf.f at h
 refine (Tr.body Tryz.func49 (c := _) rfl Tryz.ntmps49 (Nat.le_of_ble_eq_true rfl) fun R0 F => ?_).pt
 replace h := Gets.of h
 have H := h
 clear h
 refine WP.seq <| rg 1 0 <| as0 rfl rfl <| .fin <| WP.seq <| rg 5 0 <| mv0 rfl rfl <| el H fun t331 h332 H => cl rfl cal12 rfl (concourseref01_Around.c h332) <| el H fun t333 h334 H => cl rfl cal70 rfl (concourseref01_Decimal.c _ h334) <| gr H fun g335 H => bn0 rfl rfl rfl (run_cat g335) <| as0 rfl rfl <| .fin ?_
 obtain rfl := Gets.out H
 exact rt i2 rfl () 0 [] 0 (.cons (res_tmp rfl) .nil)
theorem concourseref01_ThreadOf.c {k : Nat} {a0 : Int} {r : ByteArray} (h : concourseref01_ThreadOf.f k a0 = some r) : Pt Tryz.prog 50 [vI a0] (vS r) := by
 unfold concourseref01_ThreadOf.f at h
 refine (Tr.body Tryz.func50 (c := _) rfl Tryz.ntmps50 (Nat.le_of_ble_eq_true rfl) fun R0 F => ?_).pt
 replace h := Gets.of h
 have H := h
 clear h
 refine WP.seq <| rg 1 0 <| as0 rfl rfl <| .fin <| WP.seq <| rg 3 0 <| mv0 rfl rfl <| el H fun t336 h337 H => cl rfl cal12 rfl (concourseref01_Around.c h337) <| as0 rfl rfl <| .fin <| WP.seq <| WP.seq <| rg 2 0 <| mv0 rfl rfl <| bn0 rfl rfl rfl run_eq <| .fin <| cd H rfl (fun _ H => ?_) (fun _ H => ?_)
 ·
  refine WP.seq <| rg 1 0 <| as0 rfl rfl <| .fin ?_
  obtain rfl := Gets.out H
  exact rt i2 rfl () 0 [] 0 (.cons (res_tmp rfl) .nil)
 refine WP.skip <| WP.seq <| WP.seq <| rg 2 0 <| mv0 rfl rfl <| bn0 rfl rfl rfl run_eq <| .fin <| cd H rfl (fun _ H => ?_) (fun _ H => ?_)
 ·
  refine WP.seq <| rg 1 0 <| as0 rfl rfl <| .fin ?_
  obtain rfl := Gets.out H
  exact rt i2 rfl () 0 [] 0 (.cons (res_tmp rfl) .nil)
 refine WP.skip <| WP.seq <| rg 3 0 <| mv0 rfl rfl <| el H fun t340 h341 H => cl rfl cal49 rfl (concourseref01_EventOf.c h341) <| as0 rfl rfl <| .fin ?_
 obtain rfl := Gets.out H
 exact rt i2 rfl () 0 [] 0 (.cons (res_tmp rfl) .nil)
theorem concourseref03_Good.c {k : Nat} {a0 : Edu} {r : Edu} (h : concourseref03_Good.f k a0 = some r) : Pt Tryz.prog 30 [agg (Edu.enc a0)] (agg (Edu.enc r)) := by
 unfold concourseref03_Good.f at h
 refine (Tr.body Tryz.func30 (c := _) rfl Tryz.ntmps30 (Nat.le_of_ble_eq_true rfl) fun R0 F => ?_).pt
 replace h := Gets.of h
 have H := h
 clear h
 refine WP.seq <| rg 2 3 <| Dv.box rfl trivial rfl cA nofun fun b342 => al rfl trivial zc32 nofun fun b343 => .fin <| WP.seq <| dg Tryz.checked.mixed 16 49152 <| fb rfl trivial rfl fa32_0 <| ld 1 rfl trivial rfl sc3 rfl rfl <| el H fun t344 h345 H => cl rfl cal12 rfl (concourseref01_Around.c h345) <| bn0 rfl rfl rfl run_add <| fb rfl trivial rfl fa32_8 <| ld 1 rfl trivial rfl sc3 rfl rfl <| el H fun t346 h347 H => cl rfl cal18 rfl (concourseref01_UserOf.c h347) <| fb rfl trivial rfl fa32_9 <| ld 1 rfl trivial rfl sc3 rfl rfl <| el H fun t348 h349 H => cl rfl cal12 rfl (concourseref01_Around.c h349) <| fb rfl trivial rfl fa32_10 <| ld 1 rfl trivial rfl sc3 rfl rfl <| el H fun t350 h351 H => cl rfl cal12 rfl (concourseref01_Around.c h351) <| Dv.bld (css := [[vI (w64 (1 + t344))], [vS t346], [vI t348], [vI t350]]) rfl trivial Tryz.underlying32 pl32 z32 rfl ⟨(cells_one (one_eq rfl)), ⟨(cells_one (one_eq rfl)), ⟨(cells_one (one_eq rfl)), ⟨(cells_one (one_eq rfl)), trivial⟩⟩⟩⟩ rfl rfl <| al rfl trivial zc32 (fun _ => (pend_in (fun _ => trivial) (pend_in (fun _ => trivial) (pend_in (fun _ => (mem_at 2 rfl)) (pend_in (fun _ => trivial) (pend_in (fun _ => trivial) (pend_in (fun _ => (mem_at 2 rfl)) (pend_in (fun _ => trivial) (pend_in (fun _ => trivial) (pend_in (fun _ => (mem_at 2 rfl)) (pend_in (fun _ => trivial) (pend_in (fun _ => trivial) (pend_in (fun _ => trivial) (pend_in (fun _ => (mem_at 2 rfl)) (pend_in (fun _ => trivial) pend_nil))))))))))))))) fun b352 => sx 0 rfl trivial rfl rfl cA sz32 rfl rfl rfl pB ?_
 refine .fin <| WP.seq <| WP.seq <| rg 2 0 <| fb rfl trivial rfl fa32_0 <| ld 0 rfl trivial rfl sc3 rfl rfl <| .fin <| WP.block <| WP.seq <| rg 2 0 <| bn0 rfl rfl rfl run_eq <| as0 rfl rfl <| .fin <| cd H rfl (fun _ H => ?_) (fun _ H => ?_)
 ·
  refine WP.seq <| rg 5 16 <| fb rfl trivial rfl fa32_7 <| ld 2 rfl trivial rfl sc3 rfl rfl <| el H fun t354 h355 H => cl rfl cal48 rfl (concourseref01_RoomOf.c h355) <| fb rfl trivial rfl fa32_1 <| sx 0 rfl trivial rfl rfl cE sz9 rfl rfl rfl nofun ?_
  refine .fin <| WP.seq <| dg Tryz.checked.mixed 10 512 <| fb rfl trivial rfl fa32_3 <| ld 2 rfl trivial rfl sc9 rfl rfl <| Dv.lens rfl trivial rfl Tryz.underlying9 <| fb rfl trivial rfl fa32_9 <| ld 2 rfl trivial rfl sc3 rfl rfl <| el H fun t356 h357 H => cl rfl cal12 rfl (concourseref01_Around.c h357) <| bn0 rfl rfl rfl run_add <| el H fun t358 h359 H => cl rfl cal49 rfl (concourseref01_EventOf.c h359) <| fb rfl trivial rfl fa32_3 <| sx 0 rfl trivial rfl rfl cE sz9 rfl rfl rfl pB ?_
  refine .fin <| WP.seq <| rg 6 32 <| fb rfl trivial rfl fa32_4 <| ld 2 rfl trivial rfl sc9 rfl rfl <| Dv.lens rfl trivial rfl Tryz.underlying9 <| el H fun t360 h361 H => cl rfl cal50 rfl (concourseref01_ThreadOf.c h361) <| fb rfl trivial rfl fa32_4 <| sx 0 rfl trivial rfl rfl cE sz9 rfl rfl rfl nofun ?_
  refine .fin <| rg 4 8 <| fb rfl trivial rfl fa32_5 <| ld 2 rfl trivial rfl sc4 rfl rfl <| fb rfl trivial rfl fa32_5 <| sx 0 rfl trivial rfl rfl cE sz4 rfl rfl rfl nofun ?_
  refine .fin <| WP.seq <| rg 2 2 <| lds 0 rfl trivial rfl sg32 rfl rfl <| sx 1 rfl trivial rfl rfl cA sz32 rfl rfl rfl nofun ?_
  refine .fin ?_
  obtain rfl := Gets.out H
  exact rt i2 rfl () 3 [0,1,2] 3 (.cons (res_cells rfl Tryz.underlying32 rfl c32 (mem_at 1 rfl) rfl) .nil)
 refine WP.seq <| rg 2 0 <| bn0 rfl rfl rfl run_eq <| as0 rfl rfl <| .fin <| cd H rfl (fun _ H => ?_) (fun _ H => ?_)
 rotate_left
 ·
  refine rg 5 16 <| fb rfl trivial rfl fa32_7 <| ld 2 rfl trivial rfl sc3 rfl rfl <| el H fun t368 h369 H => cl rfl cal12 rfl (concourseref01_Around.c h369) <| fb rfl trivial rfl fa32_8 <| sx 0 rfl trivial rfl rfl cE sz3 rfl rfl rfl nofun ?_
  refine .fin <| WP.seq <| rg 2 2 <| lds 0 rfl trivial rfl sg32 rfl rfl <| sx 1 rfl trivial rfl rfl cA sz32 rfl rfl rfl nofun ?_
  refine .fin ?_
  obtain rfl := Gets.out H
  exact rt i2 rfl () 3 [0,1,2] 3 (.cons (res_cells rfl Tryz.underlying32 rfl c32 (mem_at 1 rfl) rfl) .nil)
 refine WP.seq <| rg 5 16 <| fb rfl trivial rfl fa32_7 <| ld 2 rfl trivial rfl sc3 rfl rfl <| el H fun t363 h364 H => cl rfl cal48 rfl (concourseref01_RoomOf.c h364) <| fb rfl trivial rfl fa32_1 <| sx 0 rfl trivial rfl rfl cE sz9 rfl rfl rfl nofun ?_
 refine .fin <| WP.seq <| rg 4 8 <| fb rfl trivial rfl fa32_6 <| ld 2 rfl trivial rfl sc4 rfl rfl <| fb rfl trivial rfl fa32_6 <| sx 0 rfl trivial rfl rfl cE sz4 rfl rfl rfl nofun ?_
 refine .fin <| WP.seq <| rg 2 0 <| fb rfl trivial rfl fa32_6 <| ld 2 rfl trivial rfl sc4 rfl rfl <| .fin <| cd H rfl (fun _ H => ?_) (fun _ H => ?_)
 rotate_left
 ·
  refine WP.skip <| WP.seq <| rg 2 2 <| lds 0 rfl trivial rfl sg32 rfl rfl <| sx 1 rfl trivial rfl rfl cA sz32 rfl rfl rfl nofun ?_
  refine .fin ?_
  obtain rfl := Gets.out H
  exact rt i2 rfl () 3 [0,1,2] 3 (.cons (res_cells rfl Tryz.underlying32 rfl c32 (mem_at 1 rfl) rfl) .nil)
 refine rg 6 32 <| fb rfl trivial rfl fa32_7 <| ld 2 rfl trivial rfl sc3 rfl rfl <| el H fun t366 h367 H => cl rfl cal12 rfl (concourseref01_Around.c h367) <| bn0 rfl rfl rfl run_add <| fb rfl trivial rfl fa32_7 <| sx 0 rfl trivial rfl rfl cE sz3 rfl rfl rfl nofun ?_
 refine .fin <| WP.seq <| rg 2 2 <| lds 0 rfl trivial rfl sg32 rfl rfl <| sx 1 rfl trivial rfl rfl cA sz32 rfl rfl rfl nofun ?_
 refine .fin ?_
 obtain rfl := Gets.out H
 exact rt i2 rfl () 3 [0,1,2] 3 (.cons (res_cells rfl Tryz.underlying32 rfl c32 (mem_at 1 rfl) rfl) .nil)
theorem concourseref15_Made.c {k : Nat} {a0 : Edu} {r : Edu} (h : concourseref15_Made.f k a0 = some r) : Pt Tryz.prog 9 [agg (Edu.enc a0)] (agg (Edu.enc r)) := by
 unfold concourseref15_Made.f at h
 refine (Tr.body Tryz.func9 (c := _) rfl Tryz.ntmps9 (Nat.le_of_ble_eq_true rfl) fun R0 F => ?_).pt
 replace h := Gets.of h
 have H := h
 clear h
 refine WP.seq <| rg 2 3 <| Dv.box rfl trivial rfl cA nofun fun b370 => al rfl trivial zc32 nofun fun b371 => .fin <| WP.seq <| rg 2 2 <| fb rfl trivial rfl fa32_0 <| sx 1 rfl trivial rfl rfl cE sz3 rfl rfl rfl nofun ?_
 refine .fin <| WP.seq <| rg 3 4 <| lds 1 rfl trivial rfl sg32 rfl rfl <| el H fun t372 h373 H => cl rfl cal30 rfl (concourseref03_Good.c h373) <| sx 0 rfl trivial rfl rfl cA sz32 rfl rfl rfl nofun ?_
 refine .fin ?_
 obtain rfl := Gets.out H
 exact rt i2 rfl () 2 [0,1] 2 (.cons (res_cells rfl Tryz.underlying32 rfl c32 (mem_at 0 rfl) rfl) .nil)
theorem edu_asks_1.c {a0 : Int} {a1 : Int} {a2 : Int} {r : Bool} (h : edu_asks_1.f a0 a1 a2 = some r) : Pt Tryz.prog 97 [vI a0, vI a1, vI a2] (vB r) := by
 unfold edu_asks_1.f at h
 refine (Tr.body Tryz.func97 (c := _) rfl Tryz.ntmps97 (Nat.le_of_ble_eq_true rfl) fun R0 F => ?_).pt
 replace h := Gets.of h
 have H := h
 clear h
 refine WP.seq <| rg 1 0 <| as0 rfl rfl <| .fin <| WP.seq <| rg 9 0 <| mv0 rfl rfl <| mv0 rfl rfl <| bn0 rfl rfl rfl run_ge <| mv0 rfl rfl ?_
 cases c374 : decide (a1 ≤ a0)
 ·
  replace H := Gets.cf H c374
  refine sk rfl rfl <| sk rfl rfl <| sk rfl rfl <| pf0 rfl rfl rfl <| as0 rfl rfl <| .fin ?_
  obtain rfl := Gets.out H
  exact rt i2 rfl () 0 [] 0 (.cons (res_tmp rfl) .nil)
 replace H := Gets.ct H c374
 refine mvg rfl rfl rfl <| mvg rfl rfl rfl <| bng rfl rfl rfl rfl run_le <| pt0 rfl rfl rfl <| as0 rfl rfl <| .fin ?_
 obtain rfl := Gets.out H
 exact rt i2 rfl () 0 [] 0 (.cons (res_tmp rfl) .nil)
theorem edu_asks_2.c {a0 : Edu} {r : Bool} (h : edu_asks_2.f a0 = some r) : Pt Tryz.prog 98 [agg (Edu.enc a0)] (vB r) := by
 unfold edu_asks_2.f at h
 refine (Tr.body Tryz.func98 (c := _) rfl Tryz.ntmps98 (Nat.le_of_ble_eq_true rfl) fun R0 F => ?_).pt
 replace h := Gets.of h
 have H := h
 clear h
 refine WP.seq <| rg 2 1 <| Dv.box rfl trivial rfl cA nofun fun b375 => as0 rfl rfl <| .fin <| WP.seq <| rg 1 0 <| as0 rfl rfl <| .fin ?_
 obtain rfl := Gets.out H
 exact rt i2 rfl () 1 [0] 1 (.cons (res_tmp rfl) .nil)
theorem stringslite_HasPrefix.c {a0 : ByteArray} {a1 : ByteArray} {r : Bool} (h : stringslite_HasPrefix.f a0 a1 = some r) : Pt Tryz.prog 126 [vS a0, vS a1] (vB r) := by
 unfold stringslite_HasPrefix.f at h
 refine (Tr.body Tryz.func126 (c := _) rfl Tryz.ntmps126 (Nat.le_of_ble_eq_true rfl) fun R0 F => ?_).pt
 replace h := Gets.of h
 have H := h
 clear h
 refine WP.seq <| rg 1 0 <| as0 rfl rfl <| .fin <| WP.seq <| rg 14 0 <| mv0 rfl rfl <| Dv.lens rfl trivial rfl Tryz.underlying9 <| mv0 rfl rfl <| Dv.lens rfl trivial rfl Tryz.underlying9 <| bn0 rfl rfl rfl run_ge <| mv0 rfl rfl ?_
 cases c376 : decide ((a1.size : Int) ≤ (a0.size : Int))
 ·
  replace H := Gets.cf H c376
  refine sk rfl rfl <| sk rfl rfl <| sk rfl rfl <| sk rfl rfl <| sk rfl rfl <| sk rfl rfl <| pf0 rfl rfl rfl <| as0 rfl rfl <| .fin ?_
  obtain rfl := Gets.out H
  exact rt i2 rfl () 0 [] 0 (.cons (res_tmp rfl) .nil)
 replace H := Gets.ct H c376
 refine mvg rfl rfl rfl <| mvg rfl rfl rfl <| Dv.lens rfl (gg rfl) rfl Tryz.underlying9 <| gr H fun g377 H => Dv.sss rfl (gg rfl) rfl Tryz.underlying9 bdE_none (bdE_some rfl g377.1) g377.2.1 g377.2.2 <| mvg rfl rfl rfl <| bng rfl rfl rfl rfl run_seq <| pt0 rfl rfl rfl <| as0 rfl rfl <| .fin ?_
 obtain rfl := Gets.out H
 exact rt i2 rfl () 0 [] 0 (.cons (res_tmp rfl) .nil)
theorem stringslite_CutPrefix.c {a0 : ByteArray} {a1 : ByteArray} {r : ByteArray × Bool} (h : stringslite_CutPrefix.f a0 a1 = some r) : Pt Tryz.prog 122 [vS a0, vS a1] (tup [vS r.1, vB r.2]) := by
 unfold stringslite_CutPrefix.f at h
 refine (Tr.body Tryz.func122 (c := _) rfl Tryz.ntmps122 (Nat.le_of_ble_eq_true rfl) fun R0 F => ?_).pt
 replace h := Gets.of h
 have H := h
 clear h
 refine WP.seq <| rg 2 0 <| as0 rfl rfl <| as0 rfl rfl <| .fin <| WP.seq <| WP.seq <| rg 4 0 <| mv0 rfl rfl <| mv0 rfl rfl <| el H fun t378 h379 H => cl rfl cal126 rfl (stringslite_HasPrefix.c h379) <| un0 rfl rfl (run_not _) <| .fin <| cd H rfl (fun _ H => ?_) (fun _ H => ?_)
 ·
  refine WP.seq <| rg 3 0 <| mv0 rfl rfl <| as0 rfl rfl <| as0 rfl rfl <| .fin ?_
  obtain rfl := Gets.out H
  exact rt i2 rfl () 0 [] 0 (.cons (res_tmp rfl) (.cons (res_tmp rfl) .nil))
 refine WP.skip <| WP.seq <| rg 6 0 <| mv0 rfl rfl <| mv0 rfl rfl <| Dv.lens rfl trivial rfl Tryz.underlying9 <| gr H fun g381 H => Dv.sss rfl trivial rfl Tryz.underlying9 (bdE_some rfl g381.1) bdE_none g381.2.1 g381.2.2 <| as0 rfl rfl <| as0 rfl rfl <| .fin ?_
 obtain rfl := Gets.out H
 exact rt i2 rfl () 0 [] 0 (.cons (res_tmp rfl) (.cons (res_tmp rfl) .nil))
theorem strings_CutPrefix.c {a0 : ByteArray} {a1 : ByteArray} {r : ByteArray × Bool} (h : strings_CutPrefix.f a0 a1 = some r) : Pt Tryz.prog 117 [vS a0, vS a1] (tup [vS r.1, vB r.2]) := by
 unfold strings_CutPrefix.f at h
 refine (Tr.body Tryz.func117 (c := _) rfl Tryz.ntmps117 (Nat.le_of_ble_eq_true rfl) fun R0 F => ?_).pt
 replace h := Gets.of h
 have H := h
 clear h
 refine WP.seq <| rg 2 0 <| as0 rfl rfl <| as0 rfl rfl <| .fin <| WP.seq <| rg 7 0 <| mv0 rfl rfl <| mv0 rfl rfl <| el H fun t382 h383 H => cl rfl cal122 rfl (stringslite_CutPrefix.c h383) <| ex0 rfl trivial rfl rfl <| ex0 rfl trivial rfl rfl <| as0 rfl rfl <| as0 rfl rfl <| .fin ?_
 obtain rfl := Gets.out H
 exact rt i2 rfl () 0 [] 0 (.cons (res_tmp rfl) (.cons (res_tmp rfl) .nil))
theorem name_small.c {a0 : Int} {r : Bool} (h : name_small.f a0 = some r) : Pt Tryz.prog 125 [eq (.int .u8 a0)] (vB r) := by
 unfold name_small.f at h
 refine (Tr.body Tryz.func125 (c := _) rfl Tryz.ntmps125 (Nat.le_of_ble_eq_true rfl) fun R0 F => ?_).pt
 replace h := Gets.of h
 have H := h
 clear h
 refine WP.seq <| rg 1 0 <| as0 rfl rfl <| .fin <| WP.seq <| rg 15 0 <| mv0 rfl rfl <| bn0 rfl rfl rfl run_ge <| mv0 rfl rfl ?_
 cases c384 : decide (97 ≤ a0)
 ·
  replace H := Gets.cf H c384
  refine sk rfl rfl <| sk rfl rfl <| pf0 rfl rfl rfl <| mv0 rfl rfl <| mvg rfl rfl rfl <| bng rfl rfl rfl rfl run_ge <| mvg rfl rfl rfl ?_
  cases c387 : decide (48 ≤ a0)
  ·
   replace H := Gets.cf H c387
   refine sk rfl rfl <| sk rfl rfl <| pfg rfl rfl rfl rfl <| pf0 rfl rfl rfl <| as0 rfl rfl <| .fin ?_
   obtain rfl := Gets.out H
   exact rt i2 rfl () 0 [] 0 (.cons (res_tmp rfl) .nil)
  replace H := Gets.ct H c387
  refine mvg rfl rfl rfl <| bng rfl rfl rfl rfl run_le <| ptg rfl rfl rfl rfl <| pf0 rfl rfl rfl <| as0 rfl rfl <| .fin ?_
  obtain rfl := Gets.out H
  exact rt i2 rfl () 0 [] 0 (.cons (res_tmp rfl) .nil)
 replace H := Gets.ct H c384
 refine mvg rfl rfl rfl <| bng rfl rfl rfl rfl run_le <| pt0 rfl rfl rfl <| mv0 rfl rfl ?_
 cases c385 : decide (a0 ≤ 122)
 rotate_left
 ·
  replace H := Gets.ct H c385
  refine sk rfl rfl <| sk rfl rfl <| sk rfl rfl <| sku rfl rfl <| sku rfl rfl <| sk rfl rfl <| pt0 rfl rfl rfl <| as0 rfl rfl <| .fin ?_
  obtain rfl := Gets.out H
  exact rt i2 rfl () 0 [] 0 (.cons (res_tmp rfl) .nil)
 replace H := Gets.cf H c385
 refine mvg rfl rfl rfl <| bng rfl rfl rfl rfl run_ge <| mvg rfl rfl rfl ?_
 cases c386 : decide (48 ≤ a0)
 ·
  replace H := Gets.cf H c386
  refine sk rfl rfl <| sk rfl rfl <| pfg rfl rfl rfl rfl <| pf0 rfl rfl rfl <| as0 rfl rfl <| .fin ?_
  obtain rfl := Gets.out H
  exact rt i2 rfl () 0 [] 0 (.cons (res_tmp rfl) .nil)
 replace H := Gets.ct H c386
 refine mvg rfl rfl rfl <| bng rfl rfl rfl rfl run_le <| ptg rfl rfl rfl rfl <| pf0 rfl rfl rfl <| as0 rfl rfl <| .fin ?_
 obtain rfl := Gets.out H
 exact rt i2 rfl () 0 [] 0 (.cons (res_tmp rfl) .nil)
theorem stringslite_IndexByte.c {a0 : ByteArray} {a1 : Int} {r : Int} (h : stringslite_IndexByte.f a0 a1 = some r) : Pt Tryz.prog 130 [vS a0, eq (.int .u8 a1)] (vI r) := by
 unfold stringslite_IndexByte.f at h
 refine (Tr.body Tryz.func130 (c := _) rfl Tryz.ntmps130 (Nat.le_of_ble_eq_true rfl) fun R0 F => ?_).pt
 replace h := Gets.of h
 have H := h
 clear h
 refine WP.seq <| rg 1 0 <| as0 rfl rfl <| .fin <| WP.seq <| rg 4 0 <| mv0 rfl rfl <| mv0 rfl rfl <| Dv.cext rfl trivial rfl (xt_index Tryz.func134 (by kernel_rfl) rfl xf134 xg134) <| as0 rfl rfl <| .fin ?_
 obtain rfl := Gets.out H
 exact rt i2 rfl () 0 [] 0 (.cons (res_tmp rfl) .nil)
theorem strings_IndexByte.c {a0 : ByteArray} {a1 : Int} {r : Int} (h : strings_IndexByte.f a0 a1 = some r) : Pt Tryz.prog 128 [vS a0, eq (.int .u8 a1)] (vI r) := by
 unfold strings_IndexByte.f at h
 refine (Tr.body Tryz.func128 (c := _) rfl Tryz.ntmps128 (Nat.le_of_ble_eq_true rfl) fun R0 F => ?_).pt
 replace h := Gets.of h
 have H := h
 clear h
 refine WP.seq <| rg 1 0 <| as0 rfl rfl <| .fin <| WP.seq <| rg 4 0 <| mv0 rfl rfl <| mv0 rfl rfl <| el H fun t388 h389 H => cl rfl cal130 rfl (stringslite_IndexByte.c h389) <| as0 rfl rfl <| .fin ?_
 obtain rfl := Gets.out H
 exact rt i2 rfl () 0 [] 0 (.cons (res_tmp rfl) .nil)
theorem name_among_1.c {a0 : Int} {c0 : ByteArray} {r : Bool} (h : name_among_1.f a0 c0 = some r) : Pt Tryz.prog 127 [eq (.int .u8 a0), rp [vS c0]] (vB r) := by
 unfold name_among_1.f at h
 refine (Tr.body Tryz.func127 (c := _) rfl Tryz.ntmps127 (Nat.le_of_ble_eq_true rfl) fun R0 F => ?_).pt
 replace h := Gets.of h
 have H := h
 clear h
 refine WP.seq <| rg 1 0 <| as0 rfl rfl <| .fin <| WP.seq <| rg 9 0 <| mv0 rfl rfl <| el H fun t390 h391 H => cl rfl cal125 rfl (name_small.c h391) <| mv0 rfl rfl ?_
 cases c392 : t390
 rotate_left
 ·
  replace H := Gets.ct H c392
  refine sk rfl rfl <| sk rfl rfl <| sk rfl rfl <| sk rfl rfl <| pt0 rfl rfl rfl <| as0 rfl rfl <| .fin ?_
  obtain rfl := Gets.out H
  exact rt i2 rfl () 0 [] 0 (.cons (res_tmp rfl) .nil)
 replace H := Gets.cf H c392
 refine ldR rfl (gg rfl) rfl sc9 rfl <| mvg rfl rfl rfl <| el H fun t393 h394 H => Dv.call rfl (gg rfl) cal128 rfl (strings_IndexByte.c h394) <| bng rfl rfl rfl rfl run_ge <| pf0 rfl rfl rfl <| as0 rfl rfl <| .fin ?_
 obtain rfl := Gets.out H
 exact rt i2 rfl () 0 [] 0 (.cons (res_tmp rfl) .nil)
theorem name_among.c {a0 : ByteArray} {r : (Int → Option Bool)} (h : name_among.f a0 = some r) : Pt Tryz.prog 123 [vS a0] (fq_uint8_bool r) := by
 unfold name_among.f at h
 refine (Tr.body Tryz.func123 (c := _) rfl Tryz.ntmps123 (Nat.le_of_ble_eq_true rfl) fun R0 F => ?_).pt
 replace h := Gets.of h
 have H := h
 clear h
 refine WP.seq <| rg 2 1 <| Dv.box rfl trivial rfl cE nofun fun b395 => as0 rfl rfl <| .fin <| WP.seq <| rg 2 0 <| Dv.gh (gh_frzb (E' := [(0, vS a0), (1, rp [vS a0]), (2, eq .nilFunc)]) (l' := F) 0 rfl (cve_cons rfl cv_id (cve_cons rfl cv_eq (cve_cons rfl cv_id cve_nil))) (all2_app .nil fun _ => cva_id)) (fun _ _ => ?_)
 refine Dv.mkf (Q := fqQ_uint8_bool (fun a0_ => name_among_1.f a0_ a0)) cal127 (by rintro _ _ ⟨a0_, r_, h_, rfl, rfl⟩; exact name_among_1.c h_) rfl trivial rfl rfl <| as0 rfl rfl <| .fin ?_
 obtain rfl := Gets.out H
 exact rt i2 rfl () 0 [] 0 (.cons (res_tmp rfl) .nil)
theorem name_may.c {k : Nat} {a0 : ByteArray} {a1 : Int} {r : Bool} (h : name_may.f k a0 a1 = some r) : Pt Tryz.prog 118 [vS a0, vI a1] (vB r) := by
 unfold name_may.f at h
 refine (Tr.body Tryz.func118 (c := _) rfl Tryz.ntmps118 (Nat.le_of_ble_eq_true rfl) fun R0 F => ?_).pt
 replace h := Gets.of h
 have H := h
 clear h
 refine WP.seq <| rg 1 0 <| as0 rfl rfl <| .fin <| WP.seq <| rg 7 0 <| el H fun t396 h397 H => cl rfl cal123 rfl (name_among.c h397) <| el H fun t398 h399 H => cl rfl cal123 rfl (name_among.c h399) <| el H fun t400 h401 H => cl rfl cal123 rfl (name_among.c h401) <| Dv.blda (qs := [fq_uint8_bool t396, fq_uint8_bool t398, fq_uint8_bool t400]) (css := [[fq_uint8_bool t396], [fq_uint8_bool t398], [fq_uint8_bool t400]]) rfl trivial Tryz.underlying141 Tryz.underlying120 c120 z141 rfl ⟨(cells_one one_fnq), ⟨(cells_one one_fnq), ⟨(cells_one one_fnq), trivial⟩⟩⟩ rfl rfl <| mv0 rfl rfl <| gr H fun g402 H => Dv.ixa (Kd := fK_uint8_bool) (xs := ([t396, t398, t400] : List (Int → Option Bool))) rfl trivial rfl rfl rfl Tryz.underlying141 Tryz.underlying120 rfl c120 rfl rfl g402.1 g402.2 rfl <| as0 rfl rfl <| .fin <| WP.seqr H id (fun p403 : Int × Bool => [(0, vS a0), (1, vI a1), (4, vB false), (5, fq_uint8_bool (fK_uint8_bool.at ([t396, t398, t400] : List (Int → Option Bool)) a1)), (14, vI (a0.size : Int)), (15, vI p403.1), (16, vB p403.2)]) (fun p403 : Int × Bool => F) (fun p403 H => ?_) (fun H => ?_)
 ·
  refine WP.seq <| rg 8 0 <| mv0 rfl rfl <| bn0 rfl rfl rfl run_sne <| mv0 rfl rfl ?_
  cases c404 : !decide (a0 = (⟨#[]⟩ : ByteArray))
  ·
   replace H := Gets.cf H c404
   refine sk rfl rfl <| sk rfl rfl <| sk rfl rfl <| pf0 rfl rfl rfl <| as0 rfl rfl <| .fin ?_
   obtain rfl := Gets.out H
   exact rt i2 rfl () 0 [] 0 (.cons (res_tmp rfl) .nil)
  replace H := Gets.ct H c404
  refine mvg rfl rfl rfl <| Dv.lens rfl (gg rfl) rfl Tryz.underlying9 <| bng rfl rfl rfl rfl run_le <| pt0 rfl rfl rfl <| as0 rfl rfl <| .fin ?_
  obtain rfl := Gets.out H
  exact rt i2 rfl () 0 [] 0 (.cons (res_tmp rfl) .nil)
 refine WP.seq <| rg 3 0 <| mv0 rfl rfl <| Dv.lens rfl trivial rfl Tryz.underlying9 <| mv0 rfl rfl <| .fin <| WP.block <| wg (sg 0 [] 0) fun _ _ => ?_
 refine lp (fun j_ (p412 : Int) => name_may.l0 k a0 a1 t396 t398 t400 j_ p412) 0 H (fun p412 => [(0, vS a0), (1, vI a1), (4, vB false), (5, fq_uint8_bool (fK_uint8_bool.at ([t396, t398, t400] : List (Int → Option Bool)) a1)), (14, vI (a0.size : Int)), (15, vI p412)]) (fun p412 => F) ?_
 rintro j_ x405 H
 rcases j_ with _ | j411
 ·
  exact (Gets.no H).elim
 replace H : Gets (name_may.l0 k a0 a1 t396 t398 t400 (j411 + 1) x405) _ := H
 rw [name_may.l0] at H
 refine WP.seq <| rg 1 0 <| bn0 rfl rfl rfl run_lt <| .fin <| WP.seq <| cd H rfl (fun _ H => ?_) (fun _ H => ?_)
 rotate_left
 ·
  refine WP.exit ?_
  replace H := Gets.out H
  exact jn (x405, decide (x405 < (a0.size : Int))) H
 refine WP.skip <| WP.seq <| WP.block <| WP.seq <| rg 2 0 <| mv0 rfl rfl <| as0 rfl rfl <| .fin <| WP.seq <| rg 6 0 <| mv0 rfl rfl <| mv0 rfl rfl <| mv0 rfl rfl <| gr H fun g407 H => Dv.ixs rfl trivial rfl rfl Tryz.underlying9 g407.1 g407.2 <| el H fun t408 h409 H => Dv.callq (ret := vB t408) rfl trivial rfl rfl ⟨_, _, h409, rfl, rfl⟩ <| un0 rfl rfl (run_not _) <| .fin <| cd H rfl (fun _ H => ?_) (fun _ H => ?_)
 rotate_left
 ·
  exact WP.skip <| rg 2 0 <| bn0 rfl rfl rfl run_add <| mv0 rfl rfl <| .fin <| bk j411 (w64 (x405 + 1)) H
 refine WP.seq <| rg 1 0 <| as0 rfl rfl <| .fin ?_
 replace H := Gets.outr H
 obtain rfl := Gets.out H
 exact rt i2 rfl () 0 [] 0 (.cons (res_tmp rfl) .nil)
theorem bytealg_Cutover.c {a0 : Int} {r : Int} (h : bytealg_Cutover.f a0 = some r) : Pt Tryz.prog 132 [vI a0] (vI r) := by
 unfold bytealg_Cutover.f at h
 refine (Tr.body Tryz.func132 (c := _) rfl Tryz.ntmps132 (Nat.le_of_ble_eq_true rfl) fun R0 F => ?_).pt
 replace h := Gets.of h
 have H := h
 clear h
 refine WP.seq <| rg 1 0 <| as0 rfl rfl <| .fin <| WP.seq <| rg 4 0 <| mv0 rfl rfl <| bn0 rfl rfl rfl run_add <| bn0 rfl rfl rfl (run_quo (by decide)) <| as0 rfl rfl <| .fin ?_
 obtain rfl := Gets.out H
 exact rt i2 rfl () 0 [] 0 (.cons (res_tmp rfl) .nil)
theorem stringslite_Index.c {a0 : ByteArray} {a1 : ByteArray} {r : Int} (h : stringslite_Index.f a0 a1 = some r) : Pt Tryz.prog 129 [vS a0, vS a1] (vI r) := by
 unfold stringslite_Index.f at h
 refine (Tr.body Tryz.func129 (c := _) rfl Tryz.ntmps129 (Nat.le_of_ble_eq_true rfl) fun R0 F => ?_).pt
 replace h := Gets.of h
 have H := h
 clear h
 refine WP.seq <| rg 1 0 <| as0 rfl rfl <| .fin <| WP.seq <| rg 3 0 <| mv0 rfl rfl <| Dv.lens rfl trivial rfl Tryz.underlying9 <| as0 rfl rfl <| .fin <| WP.seq <| WP.block <| WP.seq <| rg 8 0 <| mv0 rfl rfl <| bn0 rfl rfl rfl run_eq <| mv0 rfl rfl ?_
 cases c415 : ((a1.size : Int) == 0)
 rotate_left
 ·
  replace H := Gets.ct H c415
  refine sk rfl rfl <| sk rfl rfl <| sk rfl rfl <| pt0 rfl rfl rfl <| as0 rfl rfl <| .fin <| WP.cond rfl (fun _ => ?_) nofun
  refine WP.seq <| rg 1 0 <| as0 rfl rfl <| .fin ?_
  obtain rfl := Gets.out H
  exact rt i2 rfl () 0 [] 0 (.cons (res_tmp rfl) .nil)
 replace H := Gets.cf H c415
 refine mvg rfl rfl rfl <| mvg rfl rfl rfl <| bng rfl rfl rfl rfl run_seq <| pf0 rfl rfl rfl <| as0 rfl rfl <| .fin <| cd H rfl (fun _ H => ?_) (fun _ H => ?_)
 ·
  refine WP.seq <| rg 1 0 <| as0 rfl rfl <| .fin ?_
  obtain rfl := Gets.out H
  exact rt i2 rfl () 0 [] 0 (.cons (res_tmp rfl) .nil)
 refine WP.seq <| rg 3 0 <| mv0 rfl rfl <| bn0 rfl rfl rfl run_eq <| as0 rfl rfl <| .fin <| cd H rfl (fun _ H => ?_) (fun _ H => ?_)
 ·
  refine WP.seq <| rg 5 0 <| mv0 rfl rfl <| mv0 rfl rfl <| gr H fun g419 H => Dv.ixs rfl trivial rfl rfl Tryz.underlying9 g419.1 g419.2 <| el H fun t420 h421 H => cl rfl cal130 rfl (stringslite_IndexByte.c h421) <| as0 rfl rfl <| .fin ?_
  obtain rfl := Gets.out H
  exact rt i2 rfl () 0 [] 0 (.cons (res_tmp rfl) .nil)
 refine WP.seq <| rg 5 0 <| mv0 rfl rfl <| mv0 rfl rfl <| Dv.lens rfl trivial rfl Tryz.underlying9 <| bn0 rfl rfl rfl run_ge <| as0 rfl rfl <| .fin <| cd H rfl (fun _ H => ?_) (fun _ H => ?_)
 rotate_left
 ·
  exact (Gets.no H).elim
 refine WP.seq <| rg 1 0 <| as0 rfl rfl <| .fin ?_
 obtain rfl := Gets.out H
 exact rt i2 rfl () 0 [] 0 (.cons (res_tmp rfl) .nil)
theorem stringslite_Cut.c {a0 : ByteArray} {a1 : ByteArray} {r : ByteArray × ByteArray × Bool} (h : stringslite_Cut.f a0 a1 = some r) : Pt Tryz.prog 124 [vS a0, vS a1] (tup [vS r.1, vS r.2.1, vB r.2.2]) := by
 unfold stringslite_Cut.f at h
 refine (Tr.body Tryz.func124 (c := _) rfl Tryz.ntmps124 (Nat.le_of_ble_eq_true rfl) fun R0 F => ?_).pt
 replace h := Gets.of h
 have H := h
 clear h
 refine WP.seq <| rg 3 0 <| as0 rfl rfl <| as0 rfl rfl <| as0 rfl rfl <| .fin <| WP.seq <| WP.seq <| rg 4 0 <| mv0 rfl rfl <| mv0 rfl rfl <| el H fun t423 h424 H => cl rfl cal129 rfl (stringslite_Index.c h424) <| as0 rfl rfl <| .fin <| WP.seq <| rg 2 0 <| mv0 rfl rfl <| bn0 rfl rfl rfl run_ge <| .fin <| cd H rfl (fun _ H => ?_) (fun _ H => ?_)
 rotate_left
 ·
  refine WP.skip <| WP.seq <| rg 4 0 <| mv0 rfl rfl <| as0 rfl rfl <| as0 rfl rfl <| as0 rfl rfl <| .fin ?_
  obtain rfl := Gets.out H
  exact rt i2 rfl () 0 [] 0 (.cons (res_tmp rfl) (.cons (res_tmp rfl) (.cons (res_tmp rfl) .nil)))
 refine WP.seq <| dg Tryz.checked.mixed 12 0 <| mv0 rfl rfl <| mv0 rfl rfl <| gr H fun g426 H => Dv.sss rfl trivial rfl Tryz.underlying9 bdE_none (bdE_some rfl g426.1) g426.2.1 g426.2.2 <| mv0 rfl rfl <| mv0 rfl rfl <| mv0 rfl rfl <| Dv.lens rfl trivial rfl Tryz.underlying9 <| bn0 rfl rfl rfl run_add <| gr H fun g427 H => Dv.sss rfl trivial rfl Tryz.underlying9 (bdE_some rfl g427.1) bdE_none g427.2.1 g427.2.2 <| as0 rfl rfl <| as0 rfl rfl <| as0 rfl rfl <| .fin ?_
 obtain rfl := Gets.out H
 exact rt i2 rfl () 0 [] 0 (.cons (res_tmp rfl) (.cons (res_tmp rfl) (.cons (res_tmp rfl) .nil)))
theorem strings_Cut.c {a0 : ByteArray} {a1 : ByteArray} {r : ByteArray × ByteArray × Bool} (h : strings_Cut.f a0 a1 = some r) : Pt Tryz.prog 119 [vS a0, vS a1] (tup [vS r.1, vS r.2.1, vB r.2.2]) := by
 unfold strings_Cut.f at h
 refine (Tr.body Tryz.func119 (c := _) rfl Tryz.ntmps119 (Nat.le_of_ble_eq_true rfl) fun R0 F => ?_).pt
 replace h := Gets.of h
 have H := h
 clear h
 refine WP.seq <| rg 3 0 <| as0 rfl rfl <| as0 rfl rfl <| as0 rfl rfl <| .fin <| WP.seq <| rg 9 0 <| mv0 rfl rfl <| mv0 rfl rfl <| el H fun t428 h429 H => cl rfl cal124 rfl (stringslite_Cut.c h429) <| ex0 rfl trivial rfl rfl <| ex0 rfl trivial rfl rfl <| ex0 rfl trivial rfl rfl <| as0 rfl rfl <| as0 rfl rfl <| as0 rfl rfl <| .fin ?_
 obtain rfl := Gets.out H
 exact rt i2 rfl () 0 [] 0 (.cons (res_tmp rfl) (.cons (res_tmp rfl) (.cons (res_tmp rfl) .nil)))
theorem name_Server.c {k : Nat} {a0 : ByteArray} {r : Bool} (h : name_Server.f k a0 = some r) : Pt Tryz.prog 120 [vS a0] (vB r) := by
 unfold name_Server.f at h
 refine (Tr.body Tryz.func120 (c := _) rfl Tryz.ntmps120 (Nat.le_of_ble_eq_true rfl) fun R0 F => ?_).pt
 replace h := Gets.of h
 have H := h
 clear h
 refine WP.seq <| rg 1 0 <| as0 rfl rfl <| .fin <| WP.seq <| rg 16 0 <| mv0 rfl rfl <| el H fun t430 h431 H => cl rfl cal118 rfl (name_may.c h431) <| mv0 rfl rfl ?_
 cases c432 : t430
 ·
  replace H := Gets.cf H c432
  refine sk rfl rfl <| sk rfl rfl <| sk rfl rfl <| pf0 rfl rfl rfl <| mv0 rfl rfl <| sk rfl rfl <| sk rfl rfl <| sk rfl rfl <| sk rfl rfl <| sk rfl rfl <| sk rfl rfl <| pf0 rfl rfl rfl <| as0 rfl rfl <| .fin ?_
  obtain rfl := Gets.out H
  exact rt i2 rfl () 0 [] 0 (.cons (res_tmp rfl) .nil)
 replace H := Gets.ct H c432
 refine mvg rfl rfl rfl <| gr H fun g433 H => Dv.ixs rfl (gg rfl) rfl rfl Tryz.underlying9 g433.1 g433.2 <| el H fun t434 h435 H => Dv.call rfl (gg rfl) cal125 rfl (name_small.c h435) <| pt0 rfl rfl rfl <| mv0 rfl rfl ?_
 cases c436 : t434
 ·
  replace H := Gets.cf H c436
  refine sk rfl rfl <| sk rfl rfl <| sk rfl rfl <| sk rfl rfl <| sk rfl rfl <| sk rfl rfl <| pf0 rfl rfl rfl <| as0 rfl rfl <| .fin ?_
  obtain rfl := Gets.out H
  exact rt i2 rfl () 0 [] 0 (.cons (res_tmp rfl) .nil)
 replace H := Gets.ct H c436
 refine mvg rfl rfl rfl <| mvg rfl rfl rfl <| Dv.lens rfl (gg rfl) rfl Tryz.underlying9 <| bng rfl rfl rfl rfl run_sub <| gr H fun g437 H => Dv.ixs rfl (gg rfl) rfl rfl Tryz.underlying9 g437.1 g437.2 <| el H fun t438 h439 H => Dv.call rfl (gg rfl) cal125 rfl (name_small.c h439) <| pt0 rfl rfl rfl <| as0 rfl rfl <| .fin ?_
 obtain rfl := Gets.out H
 exact rt i2 rfl () 0 [] 0 (.cons (res_tmp rfl) .nil)
theorem name_split.c {k : Nat} {a0 : ByteArray} {a1 : ByteArray} {r : ByteArray × ByteArray × Bool} (h : name_split.f k a0 a1 = some r) : Pt Tryz.prog 105 [vS a0, vS a1] (tup [vS r.1, vS r.2.1, vB r.2.2]) := by
 unfold name_split.f at h
 refine (Tr.body Tryz.func105 (c := _) rfl Tryz.ntmps105 (Nat.le_of_ble_eq_true rfl) fun R0 F => ?_).pt
 replace h := Gets.of h
 have H := h
 clear h
 refine WP.seq <| rg 3 0 <| as0 rfl rfl <| as0 rfl rfl <| as0 rfl rfl <| .fin <| WP.seq <| rg 8 0 <| mv0 rfl rfl <| mv0 rfl rfl <| el H fun t440 h441 H => cl rfl cal117 rfl (strings_CutPrefix.c h441) <| mv0 rfl rfl <| ex0 rfl trivial rfl rfl <| ex0 rfl trivial rfl rfl <| as0 rfl rfl <| as0 rfl rfl <| .fin <| WP.seq <| rg 9 0 <| mv0 rfl rfl <| el H fun t442 h443 H => cl rfl cal119 rfl (strings_Cut.c h443) <| mv0 rfl rfl <| ex0 rfl trivial rfl rfl <| ex0 rfl trivial rfl rfl <| ex0 rfl trivial rfl rfl <| as0 rfl rfl <| as0 rfl rfl <| as0 rfl rfl <| .fin <| WP.seq <| rg 17 0 <| mv0 rfl rfl <| mv0 rfl rfl <| mv0 rfl rfl <| mv0 rfl rfl ?_
 cases c444 : t440.2
 ·
  replace H := Gets.cf H c444
  refine sk rfl rfl <| pf0 rfl rfl rfl <| mv0 rfl rfl <| sk rfl rfl <| sk rfl rfl <| pf0 rfl rfl rfl <| mv0 rfl rfl <| sk rfl rfl <| sk rfl rfl <| pf0 rfl rfl rfl <| as0 rfl rfl <| as0 rfl rfl <| as0 rfl rfl <| .fin ?_
  obtain rfl := Gets.out H
  exact rt i2 rfl () 0 [] 0 (.cons (res_tmp rfl) (.cons (res_tmp rfl) (.cons (res_tmp rfl) .nil)))
 replace H := Gets.ct H c444
 refine mvg rfl rfl rfl <| pt0 rfl rfl rfl <| mv0 rfl rfl ?_
 cases c445 : t442.2.2
 ·
  replace H := Gets.cf H c445
  refine sk rfl rfl <| sk rfl rfl <| pf0 rfl rfl rfl <| mv0 rfl rfl <| sk rfl rfl <| sk rfl rfl <| pf0 rfl rfl rfl <| as0 rfl rfl <| as0 rfl rfl <| as0 rfl rfl <| .fin ?_
  obtain rfl := Gets.out H
  exact rt i2 rfl () 0 [] 0 (.cons (res_tmp rfl) (.cons (res_tmp rfl) (.cons (res_tmp rfl) .nil)))
 replace H := Gets.ct H c445
 refine mvg rfl rfl rfl <| el H fun t446 h447 H => Dv.call rfl (gg rfl) cal118 rfl (name_may.c h447) <| pt0 rfl rfl rfl <| mv0 rfl rfl ?_
 cases c448 : t446
 ·
  replace H := Gets.cf H c448
  refine sk rfl rfl <| sk rfl rfl <| pf0 rfl rfl rfl <| as0 rfl rfl <| as0 rfl rfl <| as0 rfl rfl <| .fin ?_
  obtain rfl := Gets.out H
  exact rt i2 rfl () 0 [] 0 (.cons (res_tmp rfl) (.cons (res_tmp rfl) (.cons (res_tmp rfl) .nil)))
 replace H := Gets.ct H c448
 refine mvg rfl rfl rfl <| el H fun t449 h450 H => Dv.call rfl (gg rfl) cal120 rfl (name_Server.c h450) <| pt0 rfl rfl rfl <| as0 rfl rfl <| as0 rfl rfl <| as0 rfl rfl <| .fin ?_
 obtain rfl := Gets.out H
 exact rt i2 rfl () 0 [] 0 (.cons (res_tmp rfl) (.cons (res_tmp rfl) (.cons (res_tmp rfl) .nil)))
theorem name_Room.c {k : Nat} {a0 : ByteArray} {r : Bool} (h : name_Room.f k a0 = some r) : Pt Tryz.prog 100 [vS a0] (vB r) := by
 unfold name_Room.f at h
 refine (Tr.body Tryz.func100 (c := _) rfl Tryz.ntmps100 (Nat.le_of_ble_eq_true rfl) fun R0 F => ?_).pt
 replace h := Gets.of h
 have H := h
 clear h
 refine WP.seq <| rg 1 0 <| as0 rfl rfl <| .fin <| WP.seq <| rg 9 0 <| mv0 rfl rfl <| el H fun t451 h452 H => cl rfl cal105 rfl (name_split.c h452) <| mv0 rfl rfl <| ex0 rfl trivial rfl rfl <| ex0 rfl trivial rfl rfl <| ex0 rfl trivial rfl rfl <| as0 rfl rfl <| as0 rfl rfl <| as0 rfl rfl <| .fin <| WP.seq <| rg 2 0 <| mv0 rfl rfl <| as0 rfl rfl <| .fin ?_
 obtain rfl := Gets.out H
 exact rt i2 rfl () 0 [] 0 (.cons (res_tmp rfl) .nil)
theorem name_Event.c {k : Nat} {a0 : ByteArray} {r : Bool} (h : name_Event.f k a0 = some r) : Pt Tryz.prog 101 [vS a0] (vB r) := by
 unfold name_Event.f at h
 refine (Tr.body Tryz.func101 (c := _) rfl Tryz.ntmps101 (Nat.le_of_ble_eq_true rfl) fun R0 F => ?_).pt
 replace h := Gets.of h
 have H := h
 clear h
 refine WP.seq <| rg 1 0 <| as0 rfl rfl <| .fin <| WP.seq <| rg 7 0 <| mv0 rfl rfl <| el H fun t453 h454 H => cl rfl cal117 rfl (strings_CutPrefix.c h454) <| mv0 rfl rfl <| ex0 rfl trivial rfl rfl <| ex0 rfl trivial rfl rfl <| as0 rfl rfl <| as0 rfl rfl <| .fin <| WP.seq <| rg 6 0 <| mv0 rfl rfl <| mv0 rfl rfl ?_
 cases c455 : t453.2
 ·
  replace H := Gets.cf H c455
  refine sk rfl rfl <| sk rfl rfl <| pf0 rfl rfl rfl <| as0 rfl rfl <| .fin ?_
  obtain rfl := Gets.out H
  exact rt i2 rfl () 0 [] 0 (.cons (res_tmp rfl) .nil)
 replace H := Gets.ct H c455
 refine mvg rfl rfl rfl <| el H fun t456 h457 H => Dv.call rfl (gg rfl) cal118 rfl (name_may.c h457) <| pt0 rfl rfl rfl <| as0 rfl rfl <| .fin ?_
 obtain rfl := Gets.out H
 exact rt i2 rfl () 0 [] 0 (.cons (res_tmp rfl) .nil)
theorem name_Thread.c {k : Nat} {a0 : ByteArray} {r : Bool} (h : name_Thread.f k a0 = some r) : Pt Tryz.prog 102 [vS a0] (vB r) := by
 unfold name_Thread.f at h
 refine (Tr.body Tryz.func102 (c := _) rfl Tryz.ntmps102 (Nat.le_of_ble_eq_true rfl) fun R0 F => ?_).pt
 replace h := Gets.of h
 have H := h
 clear h
 refine WP.seq <| rg 1 0 <| as0 rfl rfl <| .fin <| WP.seq <| rg 11 0 <| mv0 rfl rfl <| bn0 rfl rfl rfl run_seq <| mv0 rfl rfl ?_
 cases c458 : decide (a0 = (⟨#[]⟩ : ByteArray))
 rotate_left
 ·
  replace H := Gets.ct H c458
  refine sk rfl rfl <| sk rfl rfl <| pt0 rfl rfl rfl <| mv0 rfl rfl <| sk rfl rfl <| sk rfl rfl <| pt0 rfl rfl rfl <| as0 rfl rfl <| .fin ?_
  obtain rfl := Gets.out H
  exact rt i2 rfl () 0 [] 0 (.cons (res_tmp rfl) .nil)
 replace H := Gets.cf H c458
 refine mvg rfl rfl rfl <| bng rfl rfl rfl rfl run_seq <| pf0 rfl rfl rfl <| mv0 rfl rfl ?_
 cases c459 : decide (a0 = (⟨#[109, 97, 105, 110]⟩ : ByteArray))
 rotate_left
 ·
  replace H := Gets.ct H c459
  refine sk rfl rfl <| sk rfl rfl <| pt0 rfl rfl rfl <| as0 rfl rfl <| .fin ?_
  obtain rfl := Gets.out H
  exact rt i2 rfl () 0 [] 0 (.cons (res_tmp rfl) .nil)
 replace H := Gets.cf H c459
 refine mvg rfl rfl rfl <| el H fun t460 h461 H => Dv.call rfl (gg rfl) cal101 rfl (name_Event.c h461) <| pf0 rfl rfl rfl <| as0 rfl rfl <| .fin ?_
 obtain rfl := Gets.out H
 exact rt i2 rfl () 0 [] 0 (.cons (res_tmp rfl) .nil)
theorem edu_asks_3.c {k : Nat} {a0 : Edu} {r : Bool} (h : edu_asks_3.f k a0 = some r) : Pt Tryz.prog 99 [agg (Edu.enc a0)] (vB r) := by
 unfold edu_asks_3.f at h
 refine (Tr.body Tryz.func99 (c := _) rfl Tryz.ntmps99 (Nat.le_of_ble_eq_true rfl) fun R0 F => ?_).pt
 replace h := Gets.of h
 have H := h
 clear h
 refine WP.seq <| rg 2 1 <| Dv.box rfl trivial rfl cA nofun fun b462 => as0 rfl rfl <| .fin <| WP.seq <| rg 14 0 <| fb rfl trivial rfl fa32_1 <| ld 0 rfl trivial rfl sc9 rfl rfl <| el H fun t463 h464 H => cl rfl cal100 rfl (name_Room.c h464) <| mv0 rfl rfl ?_
 cases c465 : t463
 ·
  replace H := Gets.cf H c465
  refine sk rfl rfl <| sk rfl rfl <| sk rfl rfl <| pf0 rfl rfl rfl <| mv0 rfl rfl <| sk rfl rfl <| sk rfl rfl <| sk rfl rfl <| pf0 rfl rfl rfl <| as0 rfl rfl <| .fin ?_
  obtain rfl := Gets.out H
  exact rt i2 rfl () 1 [0] 1 (.cons (res_tmp rfl) .nil)
 replace H := Gets.ct H c465
 refine fb rfl (gg rfl) rfl fa32_3 <| ld 0 rfl (gg rfl) rfl sc9 rfl rfl <| el H fun t466 h467 H => Dv.call rfl (gg rfl) cal101 rfl (name_Event.c h467) <| pt0 rfl rfl rfl <| mv0 rfl rfl ?_
 cases c468 : t466
 ·
  replace H := Gets.cf H c468
  refine sk rfl rfl <| sk rfl rfl <| sk rfl rfl <| pf0 rfl rfl rfl <| as0 rfl rfl <| .fin ?_
  obtain rfl := Gets.out H
  exact rt i2 rfl () 1 [0] 1 (.cons (res_tmp rfl) .nil)
 replace H := Gets.ct H c468
 refine fb rfl (gg rfl) rfl fa32_4 <| ld 0 rfl (gg rfl) rfl sc9 rfl rfl <| el H fun t469 h470 H => Dv.call rfl (gg rfl) cal102 rfl (name_Thread.c h470) <| pt0 rfl rfl rfl <| as0 rfl rfl <| .fin ?_
 obtain rfl := Gets.out H
 exact rt i2 rfl () 1 [0] 1 (.cons (res_tmp rfl) .nil)
theorem edu_asks_4.c {k : Nat} {a0 : Edu} {c0 : Int → Int → Int → Option Bool} {r : Bool} (h : edu_asks_4.f k a0 c0 = some r) : Pt Tryz.prog 103 [agg (Edu.enc a0), rp [fq_int_int_int_bool c0]] (vB r) := by
 unfold edu_asks_4.f at h
 refine (Tr.body Tryz.func103 (c := _) rfl Tryz.ntmps103 (Nat.le_of_ble_eq_true rfl) fun R0 F => ?_).pt
 replace h := Gets.of h
 have H := h
 clear h
 refine WP.seq <| rg 2 1 <| Dv.box rfl trivial rfl cA nofun fun b471 => as0 rfl rfl <| .fin <| WP.seq <| rg 15 0 <| fb rfl trivial rfl fa32_1 <| ld 0 rfl trivial rfl sc9 rfl rfl <| el H fun t472 h473 H => cl rfl cal100 rfl (name_Room.c h473) <| mv0 rfl rfl ?_
 cases c474 : t472
 ·
  replace H := Gets.cf H c474
  refine sk rfl rfl <| sk rfl rfl <| sk rfl rfl <| sk rfl rfl <| sku rfl rfl <| sku rfl rfl <| sku rfl rfl <| sku rfl rfl <| sk rfl rfl <| pf0 rfl rfl rfl <| as0 rfl rfl <| .fin ?_
  obtain rfl := Gets.out H
  exact rt i2 rfl () 1 [0] 1 (.cons (res_tmp rfl) .nil)
 replace H := Gets.ct H c474
 refine fb rfl (gg rfl) rfl fa32_6 <| ld 0 rfl (gg rfl) rfl sc4 rfl rfl <| ung rfl rfl rfl (run_not _) <| mvg rfl rfl rfl ?_
 cases c475 : !a0.fOn
 rotate_left
 ·
  replace H := Gets.ct H c475
  refine sk rfl rfl <| sk rfl rfl <| sk rfl rfl <| sk rfl rfl <| ptg rfl rfl rfl rfl <| pt0 rfl rfl rfl <| as0 rfl rfl <| .fin ?_
  obtain rfl := Gets.out H
  exact rt i2 rfl () 1 [0] 1 (.cons (res_tmp rfl) .nil)
 replace H := Gets.cf H c475
 refine ldR rfl (gg rfl) rfl sc121 rfl <| fb rfl (gg rfl) rfl fa32_7 <| ld 0 rfl (gg rfl) rfl sc3 rfl rfl <| el H fun t476 h477 H => Dv.callq (ret := vB t476) rfl (gg rfl) rfl rfl ⟨_, _, _, _, h477, rfl, rfl⟩ <| pfg rfl rfl rfl rfl <| pt0 rfl rfl rfl <| as0 rfl rfl <| .fin ?_
 obtain rfl := Gets.out H
 exact rt i2 rfl () 1 [0] 1 (.cons (res_tmp rfl) .nil)
theorem edu_asks_5.c {a0 : Edu} {c0 : Int → Int → Int → Option Bool} {r : Bool} (h : edu_asks_5.f a0 c0 = some r) : Pt Tryz.prog 104 [agg (Edu.enc a0), rp [fq_int_int_int_bool c0]] (vB r) := by
 unfold edu_asks_5.f at h
 refine (Tr.body Tryz.func104 (c := _) rfl Tryz.ntmps104 (Nat.le_of_ble_eq_true rfl) fun R0 F => ?_).pt
 replace h := Gets.of h
 have H := h
 clear h
 refine WP.seq <| rg 2 1 <| Dv.box rfl trivial rfl cA nofun fun b478 => as0 rfl rfl <| .fin <| WP.seq <| rg 5 0 <| ldR rfl trivial rfl sc121 rfl <| fb rfl trivial rfl fa32_8 <| ld 0 rfl trivial rfl sc3 rfl rfl <| el H fun t479 h480 H => Dv.callq (ret := vB t479) rfl trivial rfl rfl ⟨_, _, _, _, h480, rfl, rfl⟩ <| as0 rfl rfl <| .fin ?_
 obtain rfl := Gets.out H
 exact rt i2 rfl () 1 [0] 1 (.cons (res_tmp rfl) .nil)
theorem edu_asks.c {k : Nat} {r : (List (Edu → Option Bool))} (h : edu_asks.f k = some r) : Pt Tryz.prog 71 [] (sl fK_api_Edu_bool r) := by
 unfold edu_asks.f at h
 refine (Tr.body Tryz.func71 (c := _) rfl Tryz.ntmps71 (Nat.le_of_ble_eq_true rfl) fun R0 F => ?_).pt
 replace h := Gets.of h
 have H := h
 clear h
 refine WP.seq <| rg 1 0 <| as0 rfl rfl <| .fin <| WP.seq <| rg 2 3 <| al rfl trivial zc121 nofun fun b481 => sx 0 rfl trivial rfl rfl cE sz121 rfl rfl rfl nofun ?_
 refine .fin <| WP.seq <| rg 4 0 <| Dv.gh (gh_frzb (E' := [(0, eq (.slice none 0 0)), (1, rp [eq (.func (.func 97) #[] #[])])]) (l' := F) 0 rfl (cve_cons rfl cv_id (cve_cons rfl cv_eq cve_nil)) (all2_app .nil fun _ => cva_id)) (fun _ _ => ?_)
 refine Dv.mkf (Q := fqQ_api_Edu_bool (fun a0_ => edu_asks_4.f k a0_ edu_asks_1.f)) cal103 (by rintro _ _ ⟨a0_, r_, h_, rfl, rfl⟩; exact Pt.weak (edu_asks_4.c h_) (.cons wk_id (.cons (wk_rp (.cons (wk_fn cal97 (by rintro _ _ ⟨a0_, a1_, a2_, r_, h_, rfl, rfl⟩; exact edu_asks_1.c h_)) .nil)) .nil))) rfl trivial rfl rfl <| Dv.mkf (Q := fqQ_api_Edu_bool (fun a0_ => edu_asks_5.f a0_ edu_asks_1.f)) cal104 (by rintro _ _ ⟨a0_, r_, h_, rfl, rfl⟩; exact Pt.weak (edu_asks_5.c h_) (.cons wk_id (.cons (wk_rp (.cons (wk_fn cal97 (by rintro _ _ ⟨a0_, a1_, a2_, r_, h_, rfl, rfl⟩; exact edu_asks_1.c h_)) .nil)) .nil))) rfl trivial rfl rfl <| Dv.lit fK_api_Edu_bool ([edu_asks_2.f, edu_asks_3.f k, fun a0_ => edu_asks_4.f k a0_ edu_asks_1.f, fun a0_ => edu_asks_5.f a0_ edu_asks_1.f] : List (Edu → Option Bool)) (css := [[fq_api_Edu_bool edu_asks_2.f], [fq_api_Edu_bool (edu_asks_3.f k)], [fq_api_Edu_bool (fun a0_ => edu_asks_4.f k a0_ edu_asks_1.f)], [fq_api_Edu_bool (fun a0_ => edu_asks_5.f a0_ edu_asks_1.f)]]) rfl trivial Tryz.underlying101 Tryz.underlying62 c62 z62 rfl (by decide) (by decide) rfl ⟨(cells_wk (wk_fn cal98 (by rintro _ _ ⟨a0_, r_, h_, rfl, rfl⟩; exact edu_asks_2.c h_)) (one_eq rfl)), ⟨(cells_wk (wk_fn cal99 (by rintro _ _ ⟨a0_, r_, h_, rfl, rfl⟩; exact edu_asks_3.c h_)) (one_eq rfl)), ⟨(cells_one one_fnq), ⟨(cells_one one_fnq), trivial⟩⟩⟩⟩ rfl rfl rfl <| as0 rfl rfl <| .fin ?_
 obtain rfl := Gets.out H
 exact rt i2 rfl () 0 [] 0 (.cons (res_tmp rfl) .nil)
theorem edu_Local_1.c {a0 : Int} {r : Bool} (h : edu_Local_1.f a0 = some r) : Pt Tryz.prog 72 [vI a0] (vB r) := by
 unfold edu_Local_1.f at h
 refine (Tr.body Tryz.func72 (c := _) rfl Tryz.ntmps72 (Nat.le_of_ble_eq_true rfl) fun R0 F => ?_).pt
 replace h := Gets.of h
 have H := h
 clear h
 refine WP.seq <| rg 1 0 <| as0 rfl rfl <| .fin <| WP.seq <| rg 7 0 <| mv0 rfl rfl <| bn0 rfl rfl rfl run_ge <| mv0 rfl rfl ?_
 cases c482 : decide (0 ≤ a0)
 ·
  replace H := Gets.cf H c482
  refine sk rfl rfl <| sk rfl rfl <| pf0 rfl rfl rfl <| as0 rfl rfl <| .fin ?_
  obtain rfl := Gets.out H
  exact rt i2 rfl () 0 [] 0 (.cons (res_tmp rfl) .nil)
 replace H := Gets.ct H c482
 refine mvg rfl rfl rfl <| bng rfl rfl rfl rfl run_le <| pt0 rfl rfl rfl <| as0 rfl rfl <| .fin ?_
 obtain rfl := Gets.out H
 exact rt i2 rfl () 0 [] 0 (.cons (res_tmp rfl) .nil)
theorem edu_named.c {a0 : Edu} {r : Edu} (h : edu_named.f a0 = some r) : Pt Tryz.prog 73 [agg (Edu.enc a0)] (agg (Edu.enc r)) := by
 unfold edu_named.f at h
 refine (Tr.body Tryz.func73 (c := _) rfl Tryz.ntmps73 (Nat.le_of_ble_eq_true rfl) fun R0 F => ?_).pt
 replace h := Gets.of h
 have H := h
 clear h
 refine WP.seq <| rg 2 3 <| Dv.box rfl trivial rfl cA nofun fun b483 => al rfl trivial zc32 nofun fun b484 => .fin <| WP.seq <| rg 11 1536 <| fb rfl trivial rfl fa32_0 <| ld 1 rfl trivial rfl sc3 rfl rfl <| fb rfl trivial rfl fa32_2 <| ld 1 rfl trivial rfl sc9 rfl rfl <| fb rfl trivial rfl fa32_9 <| ld 1 rfl trivial rfl sc3 rfl rfl <| fb rfl trivial rfl fa32_10 <| ld 1 rfl trivial rfl sc3 rfl rfl <| Dv.bld (css := [[vI a0.fKind], [vS a0.fUser], [vI a0.fTick], [vI a0.fStamp]]) rfl trivial Tryz.underlying32 pl32 z32 rfl ⟨(cells_one (one_eq rfl)), ⟨(cells_one (one_eq rfl)), ⟨(cells_one (one_eq rfl)), ⟨(cells_one (one_eq rfl)), trivial⟩⟩⟩⟩ rfl rfl <| al rfl trivial zc32 nofun fun b485 => sx 0 rfl trivial rfl rfl cA sz32 rfl rfl rfl nofun ?_
 refine .fin <| WP.seq <| WP.seq <| rg 2 0 <| fb rfl trivial rfl fa32_0 <| ld 2 rfl trivial rfl sc3 rfl rfl <| .fin <| WP.block <| WP.seq <| rg 2 0 <| bn0 rfl rfl rfl run_eq <| as0 rfl rfl <| .fin <| cd H rfl (fun _ H => ?_) (fun _ H => ?_)
 ·
  refine dg Tryz.checked.mixed 16 43520 <| fb rfl trivial rfl fa32_1 <| ld 2 rfl trivial rfl sc9 rfl rfl <| fb rfl trivial rfl fa32_3 <| ld 2 rfl trivial rfl sc9 rfl rfl <| fb rfl trivial rfl fa32_4 <| ld 2 rfl trivial rfl sc9 rfl rfl <| fb rfl trivial rfl fa32_5 <| ld 2 rfl trivial rfl sc4 rfl rfl <| fb rfl trivial rfl fa32_1 <| sx 0 rfl trivial rfl rfl cE sz9 rfl rfl rfl (fun _ => (pend_by (by kernel_rfl) (pend_in (fun _ => (mem_at 2 rfl)) (pend_in (fun _ => trivial) (pend_in (fun _ => (mem_at 2 rfl)) (pend_in (fun _ => trivial) (pend_in (fun _ => (mem_at 2 rfl)) (pend_in (fun _ => trivial) (pend_by (by kernel_rfl) (pend_by (by kernel_rfl) pend_nil)))))))))) ?_
  refine fb rfl trivial rfl fa32_3 <| sx 0 rfl trivial rfl rfl cE sz9 rfl rfl rfl (fun _ => (pend_by (by kernel_rfl) (pend_by (by kernel_rfl) (pend_in (fun _ => (mem_at 2 rfl)) (pend_in (fun _ => trivial) (pend_in (fun _ => (mem_at 2 rfl)) (pend_in (fun _ => trivial) (pend_by (by kernel_rfl) (pend_by (by kernel_rfl) (pend_by (by kernel_rfl) (pend_by (by kernel_rfl) pend_nil))))))))))) ?_
  refine fb rfl trivial rfl fa32_4 <| sx 0 rfl trivial rfl rfl cE sz9 rfl rfl rfl (fun _ => (pend_by (by kernel_rfl) (pend_by (by kernel_rfl) (pend_by (by kernel_rfl) (pend_in (fun _ => (mem_at 2 rfl)) (pend_in (fun _ => trivial) (pend_by (by kernel_rfl) (pend_by (by kernel_rfl) (pend_by (by kernel_rfl) (pend_by (by kernel_rfl) (pend_by (by kernel_rfl) (pend_by (by kernel_rfl) pend_nil)))))))))))) ?_
  refine fb rfl trivial rfl fa32_5 <| sx 0 rfl trivial rfl rfl cE sz4 rfl rfl rfl pB ?_
  refine .fin <| WP.seq <| rg 2 2 <| lds 0 rfl trivial rfl sg32 rfl rfl <| sx 1 rfl trivial rfl rfl cA sz32 rfl rfl rfl nofun ?_
  refine .fin ?_
  obtain rfl := Gets.out H
  exact rt i2 rfl () 3 [0,1,2] 3 (.cons (res_cells rfl Tryz.underlying32 rfl c32 (mem_at 1 rfl) rfl) .nil)
 refine WP.seq <| rg 2 0 <| bn0 rfl rfl rfl run_eq <| as0 rfl rfl <| .fin <| cd H rfl (fun _ H => ?_) (fun _ H => ?_)
 rotate_left
 ·
  refine WP.seq <| rg 2 0 <| bn0 rfl rfl rfl run_eq <| as0 rfl rfl <| .fin <| cd H rfl (fun _ H => ?_) (fun _ H => ?_)
  rotate_left
  ·
   refine WP.skip <| WP.seq <| rg 2 2 <| lds 0 rfl trivial rfl sg32 rfl rfl <| sx 1 rfl trivial rfl rfl cA sz32 rfl rfl rfl nofun ?_
   refine .fin ?_
   obtain rfl := Gets.out H
   exact rt i2 rfl () 3 [0,1,2] 3 (.cons (res_cells rfl Tryz.underlying32 rfl c32 (mem_at 1 rfl) rfl) .nil)
  refine rg 4 8 <| fb rfl trivial rfl fa32_8 <| ld 2 rfl trivial rfl sc3 rfl rfl <| fb rfl trivial rfl fa32_8 <| sx 0 rfl trivial rfl rfl cE sz3 rfl rfl rfl nofun ?_
  refine .fin <| WP.seq <| rg 2 2 <| lds 0 rfl trivial rfl sg32 rfl rfl <| sx 1 rfl trivial rfl rfl cA sz32 rfl rfl rfl nofun ?_
  refine .fin ?_
  obtain rfl := Gets.out H
  exact rt i2 rfl () 3 [0,1,2] 3 (.cons (res_cells rfl Tryz.underlying32 rfl c32 (mem_at 1 rfl) rfl) .nil)
 refine WP.seq <| dg Tryz.checked.mixed 8 160 <| fb rfl trivial rfl fa32_1 <| ld 2 rfl trivial rfl sc9 rfl rfl <| fb rfl trivial rfl fa32_6 <| ld 2 rfl trivial rfl sc4 rfl rfl <| fb rfl trivial rfl fa32_1 <| sx 0 rfl trivial rfl rfl cE sz9 rfl rfl rfl (fun _ => (pend_by (by kernel_rfl) (pend_in (fun _ => (mem_at 2 rfl)) (pend_in (fun _ => trivial) (pend_by (by kernel_rfl) (pend_by (by kernel_rfl) pend_nil)))))) ?_
 refine fb rfl trivial rfl fa32_6 <| sx 0 rfl trivial rfl rfl cE sz4 rfl rfl rfl pB ?_
 refine .fin <| WP.seq <| rg 2 0 <| fb rfl trivial rfl fa32_6 <| ld 2 rfl trivial rfl sc4 rfl rfl <| .fin <| cd H rfl (fun _ H => ?_) (fun _ H => ?_)
 rotate_left
 ·
  refine WP.skip <| WP.seq <| rg 2 2 <| lds 0 rfl trivial rfl sg32 rfl rfl <| sx 1 rfl trivial rfl rfl cA sz32 rfl rfl rfl nofun ?_
  refine .fin ?_
  obtain rfl := Gets.out H
  exact rt i2 rfl () 3 [0,1,2] 3 (.cons (res_cells rfl Tryz.underlying32 rfl c32 (mem_at 1 rfl) rfl) .nil)
 refine rg 4 8 <| fb rfl trivial rfl fa32_7 <| ld 2 rfl trivial rfl sc3 rfl rfl <| fb rfl trivial rfl fa32_7 <| sx 0 rfl trivial rfl rfl cE sz3 rfl rfl rfl nofun ?_
 refine .fin <| WP.seq <| rg 2 2 <| lds 0 rfl trivial rfl sg32 rfl rfl <| sx 1 rfl trivial rfl rfl cA sz32 rfl rfl rfl nofun ?_
 refine .fin ?_
 obtain rfl := Gets.out H
 exact rt i2 rfl () 3 [0,1,2] 3 (.cons (res_cells rfl Tryz.underlying32 rfl c32 (mem_at 1 rfl) rfl) .nil)
theorem name_User.c {k : Nat} {a0 : ByteArray} {r : Bool} (h : name_User.f k a0 = some r) : Pt Tryz.prog 74 [vS a0] (vB r) := by
 unfold name_User.f at h
 refine (Tr.body Tryz.func74 (c := _) rfl Tryz.ntmps74 (Nat.le_of_ble_eq_true rfl) fun R0 F => ?_).pt
 replace h := Gets.of h
 have H := h
 clear h
 refine WP.seq <| rg 1 0 <| as0 rfl rfl <| .fin <| WP.seq <| rg 9 0 <| mv0 rfl rfl <| el H fun t490 h491 H => cl rfl cal105 rfl (name_split.c h491) <| mv0 rfl rfl <| ex0 rfl trivial rfl rfl <| ex0 rfl trivial rfl rfl <| ex0 rfl trivial rfl rfl <| as0 rfl rfl <| as0 rfl rfl <| as0 rfl rfl <| .fin <| WP.seq <| rg 2 0 <| mv0 rfl rfl <| as0 rfl rfl <| .fin ?_
 obtain rfl := Gets.out H
 exact rt i2 rfl () 0 [] 0 (.cons (res_tmp rfl) .nil)
theorem edu_Local.c {k : Nat} {a0 : Edu} {r : Bool} (h : edu_Local.f k a0 = some r) : Pt Tryz.prog 51 [agg (Edu.enc a0)] (vB r) := by
 unfold edu_Local.f at h
 refine (Tr.body Tryz.func51 (c := _) rfl Tryz.ntmps51 (Nat.le_of_ble_eq_true rfl) fun R0 F => ?_).pt
 replace h := Gets.of h
 have H := h
 clear h
 refine WP.seq <| rg 2 1 <| Dv.box rfl trivial rfl cA nofun fun b492 => as0 rfl rfl <| .fin <| WP.seq <| WP.seq <| dg Tryz.checked.mixed 18 0 <| fb rfl trivial rfl fa32_0 <| ld 0 rfl trivial rfl sc3 rfl rfl <| bn0 rfl rfl rfl run_lt <| mv0 rfl rfl ?_
 cases c493 : decide (a0.fKind < 0)
 rotate_left
 ·
  replace H := Gets.ct H c493
  refine sk rfl rfl <| sk rfl rfl <| sk rfl rfl <| pt0 rfl rfl rfl <| mv0 rfl rfl <| sk rfl rfl <| sk rfl rfl <| sk rfl rfl <| sk rfl rfl <| sk rfl rfl <| sk rfl rfl <| sk rfl rfl <| sk rfl rfl <| pt0 rfl rfl rfl <| .fin <| WP.cond rfl (fun _ => ?_) nofun
  refine WP.seq <| rg 1 0 <| as0 rfl rfl <| .fin ?_
  obtain rfl := Gets.out H
  exact rt i2 rfl () 1 [0] 1 (.cons (res_tmp rfl) .nil)
 replace H := Gets.cf H c493
 refine fb rfl (gg rfl) rfl fa32_0 <| ld 0 rfl (gg rfl) rfl sc3 rfl rfl <| bng rfl rfl rfl rfl run_gt <| pf0 rfl rfl rfl <| mv0 rfl rfl ?_
 cases c495 : decide (3 < a0.fKind)
 rotate_left
 ·
  replace H := Gets.ct H c495
  refine sk rfl rfl <| sk rfl rfl <| sk rfl rfl <| sk rfl rfl <| sk rfl rfl <| sk rfl rfl <| sk rfl rfl <| sk rfl rfl <| pt0 rfl rfl rfl <| .fin <| WP.cond rfl (fun _ => ?_) nofun
  refine WP.seq <| rg 1 0 <| as0 rfl rfl <| .fin ?_
  obtain rfl := Gets.out H
  exact rt i2 rfl () 1 [0] 1 (.cons (res_tmp rfl) .nil)
 replace H := Gets.cf H c495
 refine el H fun t497 h498 H => Dv.call rfl (gg rfl) cal71 rfl (edu_asks.c h498) <| fb rfl (gg rfl) rfl fa32_0 <| ld 0 rfl (gg rfl) rfl sc3 rfl rfl <| gr H fun g499 H => Dv.ixr rfl (gg rfl) rfl rfl Tryz.underlying101 Tryz.underlying62 c62 g499.1 g499.2 <| ldR rfl (gg rfl) rfl sc62 rfl <| lds 0 rfl (gg rfl) rfl sg32 rfl rfl <| el H fun t500 h501 H => Dv.callq (ret := vB t500) rfl (gg rfl) rfl rfl ⟨_, _, h501, rfl, rfl⟩ <| ung rfl rfl rfl (run_not _) <| pf0 rfl rfl rfl <| .fin <| cd H rfl (fun _ H => ?_) (fun _ H => ?_)
 ·
  refine WP.seq <| rg 1 0 <| as0 rfl rfl <| .fin ?_
  obtain rfl := Gets.out H
  exact rt i2 rfl () 1 [0] 1 (.cons (res_tmp rfl) .nil)
 refine WP.skip <| WP.seq <| rg 1 0 <| as0 rfl rfl <| .fin <| WP.seq <| dg Tryz.checked.mixed 22 0 <| lds 0 rfl trivial rfl sg32 rfl rfl <| lds 0 rfl trivial rfl sg32 rfl rfl <| el H fun t503 h504 H => cl rfl cal73 rfl (edu_named.c h504) <| Dv.eqs [.int .i64 a0.fKind, .string a0.fRoom, .string a0.fUser, .string a0.fEvent, .string a0.fThread, .bool a0.fPrivate, .bool a0.fOn, .int .i64 a0.fSpan, .int .i64 a0.fState, .int .i64 a0.fTick, .int .i64 a0.fStamp] [.int .i64 t503.fKind, .string t503.fRoom, .string t503.fUser, .string t503.fEvent, .string t503.fThread, .bool t503.fPrivate, .bool t503.fOn, .int .i64 t503.fSpan, .int .i64 t503.fState, .int .i64 t503.fTick, .int .i64 t503.fStamp] rfl trivial rfl rfl rfl rfl eg32 (fun _ => equal_of 2 (by decide) (fun _ => eqt32 a0 t503)) <| mv0 rfl rfl ?_
 cases c505 : decide (a0 = t503)
 ·
  replace H := Gets.cf H c505
  refine sk rfl rfl <| sk rfl rfl <| sk rfl rfl <| pf0 rfl rfl rfl <| mv0 rfl rfl <| sk rfl rfl <| sk rfl rfl <| sk rfl rfl <| sk rfl rfl <| pf0 rfl rfl rfl <| mv0 rfl rfl <| sk rfl rfl <| sk rfl rfl <| sk rfl rfl <| sk rfl rfl <| pf0 rfl rfl rfl <| as0 rfl rfl <| .fin ?_
  obtain rfl := Gets.out H
  exact rt i2 rfl () 1 [0] 1 (.cons (res_tmp rfl) .nil)
 replace H := Gets.ct H c505
 refine fb rfl (gg rfl) rfl fa32_2 <| ld 0 rfl (gg rfl) rfl sc9 rfl rfl <| el H fun t506 h507 H => Dv.call rfl (gg rfl) cal74 rfl (name_User.c h507) <| pt0 rfl rfl rfl <| mv0 rfl rfl ?_
 cases c508 : t506
 ·
  replace H := Gets.cf H c508
  refine sk rfl rfl <| sk rfl rfl <| sk rfl rfl <| sk rfl rfl <| pf0 rfl rfl rfl <| mv0 rfl rfl <| sk rfl rfl <| sk rfl rfl <| sk rfl rfl <| sk rfl rfl <| pf0 rfl rfl rfl <| as0 rfl rfl <| .fin ?_
  obtain rfl := Gets.out H
  exact rt i2 rfl () 1 [0] 1 (.cons (res_tmp rfl) .nil)
 replace H := Gets.ct H c508
 refine mvg rfl rfl rfl <| fb rfl (gg rfl) rfl fa32_9 <| ld 0 rfl (gg rfl) rfl sc3 rfl rfl <| el H fun t509 h510 H => Dv.callk rfl (gg rfl) rfl cal72 rfl (edu_Local_1.c h510) <| pt0 rfl rfl rfl <| mv0 rfl rfl ?_
 cases c511 : t509
 ·
  replace H := Gets.cf H c511
  refine sk rfl rfl <| sk rfl rfl <| sk rfl rfl <| sk rfl rfl <| pf0 rfl rfl rfl <| as0 rfl rfl <| .fin ?_
  obtain rfl := Gets.out H
  exact rt i2 rfl () 1 [0] 1 (.cons (res_tmp rfl) .nil)
 replace H := Gets.ct H c511
 refine mvg rfl rfl rfl <| fb rfl (gg rfl) rfl fa32_10 <| ld 0 rfl (gg rfl) rfl sc3 rfl rfl <| el H fun t512 h513 H => Dv.callk rfl (gg rfl) rfl cal72 rfl (edu_Local_1.c h513) <| pt0 rfl rfl rfl <| as0 rfl rfl <| .fin ?_
 obtain rfl := Gets.out H
 exact rt i2 rfl () 1 [0] 1 (.cons (res_tmp rfl) .nil)
theorem edu_May.c {k : Nat} {a0 : Edu} {r : Bool} (h : edu_May.f k a0 = some r) : Pt Tryz.prog 31 [agg (Edu.enc a0)] (vB r) := by
 unfold edu_May.f at h
 refine (Tr.body Tryz.func31 (c := _) rfl Tryz.ntmps31 (Nat.le_of_ble_eq_true rfl) fun R0 F => ?_).pt
 replace h := Gets.of h
 have H := h
 clear h
 refine WP.seq <| rg 2 1 <| Dv.box rfl trivial rfl cA nofun fun b514 => as0 rfl rfl <| .fin <| WP.seq <| rg 8 0 <| lds 0 rfl trivial rfl sg32 rfl rfl <| el H fun t515 h516 H => cl rfl cal51 rfl (edu_Local.c h516) <| mv0 rfl rfl ?_
 cases c517 : t515
 ·
  replace H := Gets.cf H c517
  refine sk rfl rfl <| sk rfl rfl <| sk rfl rfl <| pf0 rfl rfl rfl <| as0 rfl rfl <| .fin ?_
  obtain rfl := Gets.out H
  exact rt i2 rfl () 1 [0] 1 (.cons (res_tmp rfl) .nil)
 replace H := Gets.ct H c517
 refine fb rfl (gg rfl) rfl fa32_5 <| ld 0 rfl (gg rfl) rfl sc4 rfl rfl <| ung rfl rfl rfl (run_not _) <| pt0 rfl rfl rfl <| as0 rfl rfl <| .fin ?_
 obtain rfl := Gets.out H
 exact rt i2 rfl () 1 [0] 1 (.cons (res_tmp rfl) .nil)
theorem slices_BinarySearchFunc_Edu_string.c {k : Nat} {a0 : List Edu} {a1 : ByteArray} {a2 : Edu → ByteArray → Option Int} {r : Int × Bool} (h : slices_BinarySearchFunc_Edu_string.f k a0 a1 a2 = some r) : Pt Tryz.prog 52 [sl Edu.K a0, vS a1, fq_api_Edu_string_int a2] (tup [vI r.1, vB r.2]) := by
 unfold slices_BinarySearchFunc_Edu_string.f at h
 refine (Tr.body Tryz.func52 (c := _) rfl Tryz.ntmps52 (Nat.le_of_ble_eq_true rfl) fun R0 F => ?_).pt
 replace h := Gets.of h
 have H := h
 clear h
 refine WP.seq <| rg 2 0 <| as0 rfl rfl <| as0 rfl rfl <| .fin <| WP.seq <| rg 3 0 <| mv0 rfl rfl <| Dv.lenl rfl trivial rfl Tryz.underlying22 <| as0 rfl rfl <| .fin <| WP.seq <| rg 3 0 <| mv0 rfl rfl <| as0 rfl rfl <| as0 rfl rfl <| .fin <| WP.seqn H id (fun p518 : Int × Int × Bool => [(0, sl Edu.K a0), (1, vS a1), (2, fq_api_Edu_string_int a2), (6, vI 0), (7, vB false), (8, vI (a0.length : Int)), (9, vI p518.1), (10, vI p518.2.1), (17, vB p518.2.2)]) (fun p518 : Int × Int × Bool => F) (fun p518 H => ?_) (fun H => ?_)
 ·
  refine WP.seq <| rg 16 0 <| mv0 rfl rfl <| mv0 rfl rfl <| mv0 rfl rfl <| bn0 rfl rfl rfl run_lt <| mv0 rfl rfl ?_
  cases c519 : decide (p518.1 < (a0.length : Int))
  ·
   replace H := Gets.cf H c519
   refine sk rfl rfl <| sk rfl rfl <| sk rfl rfl <| sk rfl rfl <| sk rfl rfl <| sk rfl rfl <| sk rfl rfl <| sk rfl rfl <| pf0 rfl rfl rfl <| as0 rfl rfl <| as0 rfl rfl <| .fin ?_
   obtain rfl := Gets.out H
   exact rt i2 rfl () 0 [] 0 (.cons (res_tmp rfl) (.cons (res_tmp rfl) .nil))
  replace H := Gets.ct H c519
  refine mvg rfl rfl rfl <| mvg rfl rfl rfl <| mvg rfl rfl rfl <| gr H fun g520 H => Dv.ixr rfl (gg rfl) rfl rfl Tryz.underlying22 Tryz.underlying32 c32 g520.1 g520.2 <| ldsR rfl (gg rfl) rfl sg32 rfl <| mvg rfl rfl rfl <| el H fun t521 h522 H => Dv.callq (ret := vI t521) rfl (gg rfl) rfl rfl ⟨_, _, _, h522, rfl, rfl⟩ <| bng rfl rfl rfl rfl run_eq <| pt0 rfl rfl rfl <| as0 rfl rfl <| as0 rfl rfl <| .fin ?_
  obtain rfl := Gets.out H
  exact rt i2 rfl () 0 [] 0 (.cons (res_tmp rfl) (.cons (res_tmp rfl) .nil))
 refine WP.block <| wg (sg 0 [] 0) fun _ _ => ?_
 refine lp (fun j_ (p531 : Int × Int) => slices_BinarySearchFunc_Edu_string.l0 k a0 a1 a2 j_ p531.1 p531.2) (0, (a0.length : Int)) H (fun p531 => [(0, sl Edu.K a0), (1, vS a1), (2, fq_api_Edu_string_int a2), (6, vI 0), (7, vB false), (8, vI (a0.length : Int)), (9, vI p531.1), (10, vI p531.2)]) (fun p531 => F) ?_
 rintro j_ ⟨x523, x524⟩ H
 rcases j_ with _ | j530
 ·
  exact (Gets.no H).elim
 replace H : Gets (slices_BinarySearchFunc_Edu_string.l0 k a0 a1 a2 (j530 + 1) x523 x524) _ := H
 rw [slices_BinarySearchFunc_Edu_string.l0] at H
 refine WP.seq <| WP.seq <| rg 3 0 <| mv0 rfl rfl <| mv0 rfl rfl <| bn0 rfl rfl rfl run_lt <| .fin <| cd H rfl (fun _ H => ?_) (fun _ H => ?_)
 rotate_left
 ·
  refine WP.exit ?_
  replace H := Gets.out H
  exact jn (x523, x524, decide (x523 < x524)) H
 refine WP.skip <| WP.block <| WP.seq <| rg 7 0 <| mv0 rfl rfl <| mv0 rfl rfl <| bn0 rfl rfl rfl run_add <| Dv.cvi rfl trivial rfl Tryz.underlying3 Tryz.underlying96 <| bn0 rfl rfl rfl (run_shr (by decide)) <| Dv.cvi rfl trivial rfl Tryz.underlying96 Tryz.underlying3 <| as0 rfl rfl <| .fin <| WP.seq <| rg 8 0 <| mv0 rfl rfl <| mv0 rfl rfl <| mv0 rfl rfl <| gr H fun g526 H => Dv.ixr rfl trivial rfl rfl Tryz.underlying22 Tryz.underlying32 c32 g526.1 g526.2 <| ldsR rfl trivial rfl sg32 rfl <| mv0 rfl rfl <| el H fun t527 h528 H => Dv.callq (ret := vI t527) rfl trivial rfl rfl ⟨_, _, _, h528, rfl, rfl⟩ <| bn0 rfl rfl rfl run_lt <| .fin <| cd H rfl (fun _ H => ?_) (fun _ H => ?_)
 rotate_left
 ·
  exact rg 2 0 <| mv0 rfl rfl <| as0 rfl rfl <| .fin <| bk j530 (x523, w64 ((IntKind.u64.wrap (w64 (x523 + x524))).fdiv 2)) H
 exact rg 3 0 <| mv0 rfl rfl <| bn0 rfl rfl rfl run_add <| as0 rfl rfl <| .fin <| bk j530 (w64 ((w64 ((IntKind.u64.wrap (w64 (x523 + x524))).fdiv 2)) + 1), x524) H
theorem cmp_isNaN_string.c {a0 : ByteArray} {r : Bool} (h : cmp_isNaN_string.f a0 = some r) : Pt Tryz.prog 75 [vS a0] (vB r) := by
 unfold cmp_isNaN_string.f at h
 refine (Tr.body Tryz.func75 (c := _) rfl Tryz.ntmps75 (Nat.le_of_ble_eq_true rfl) fun R0 F => ?_).pt
 replace h := Gets.of h
 have H := h
 clear h
 refine WP.seq <| rg 1 0 <| as0 rfl rfl <| .fin <| WP.seq <| rg 4 0 <| mv0 rfl rfl <| mv0 rfl rfl <| bn0 rfl rfl rfl run_sne <| as0 rfl rfl <| .fin ?_
 obtain rfl := Gets.out H
 exact rt i2 rfl () 0 [] 0 (.cons (res_tmp rfl) .nil)
theorem cmp_Compare_string.c {a0 : ByteArray} {a1 : ByteArray} {r : Int} (h : cmp_Compare_string.f a0 a1 = some r) : Pt Tryz.prog 54 [vS a0, vS a1] (vI r) := by
 unfold cmp_Compare_string.f at h
 refine (Tr.body Tryz.func54 (c := _) rfl Tryz.ntmps54 (Nat.le_of_ble_eq_true rfl) fun R0 F => ?_).pt
 replace h := Gets.of h
 have H := h
 clear h
 refine WP.seq <| rg 1 0 <| as0 rfl rfl <| .fin <| WP.seq <| rg 3 0 <| mv0 rfl rfl <| el H fun t532 h533 H => cl rfl cal75 rfl (cmp_isNaN_string.c h533) <| as0 rfl rfl <| .fin <| WP.seq <| rg 3 0 <| mv0 rfl rfl <| el H fun t534 h535 H => cl rfl cal75 rfl (cmp_isNaN_string.c h535) <| as0 rfl rfl <| .fin <| WP.seq <| WP.seq <| rg 1 0 <| mv0 rfl rfl <| .fin <| cd H rfl (fun _ H => ?_) (fun _ H => ?_)
 ·
  refine WP.seq <| WP.seq <| rg 1 0 <| mv0 rfl rfl <| .fin <| cd H rfl (fun _ H => ?_) (fun _ H => ?_)
  ·
   refine WP.seq <| rg 1 0 <| as0 rfl rfl <| .fin ?_
   obtain rfl := Gets.out H
   exact rt i2 rfl () 0 [] 0 (.cons (res_tmp rfl) .nil)
  refine WP.skip <| WP.seq <| rg 1 0 <| as0 rfl rfl <| .fin ?_
  obtain rfl := Gets.out H
  exact rt i2 rfl () 0 [] 0 (.cons (res_tmp rfl) .nil)
 refine WP.skip <| WP.seq <| WP.seq <| rg 1 0 <| mv0 rfl rfl <| .fin <| cd H rfl (fun _ H => ?_) (fun _ H => ?_)
 ·
  refine WP.seq <| rg 1 0 <| as0 rfl rfl <| .fin ?_
  obtain rfl := Gets.out H
  exact rt i2 rfl () 0 [] 0 (.cons (res_tmp rfl) .nil)
 refine WP.skip <| WP.seq <| WP.seq <| rg 3 0 <| mv0 rfl rfl <| mv0 rfl rfl <| bn0 rfl rfl rfl run_slt <| .fin <| cd H rfl (fun _ H => ?_) (fun _ H => ?_)
 ·
  refine WP.seq <| rg 1 0 <| as0 rfl rfl <| .fin ?_
  obtain rfl := Gets.out H
  exact rt i2 rfl () 0 [] 0 (.cons (res_tmp rfl) .nil)
 refine WP.skip <| WP.seq <| WP.seq <| rg 3 0 <| mv0 rfl rfl <| mv0 rfl rfl <| bn0 rfl rfl rfl run_sgt <| .fin <| cd H rfl (fun _ H => ?_) (fun _ H => ?_)
 ·
  refine WP.seq <| rg 1 0 <| as0 rfl rfl <| .fin ?_
  obtain rfl := Gets.out H
  exact rt i2 rfl () 0 [] 0 (.cons (res_tmp rfl) .nil)
 refine WP.skip <| WP.seq <| rg 1 0 <| as0 rfl rfl <| .fin ?_
 obtain rfl := Gets.out H
 exact rt i2 rfl () 0 [] 0 (.cons (res_tmp rfl) .nil)
theorem presence_Table_place_1.c {a0 : Edu} {a1 : ByteArray} {r : Int} (h : presence_Table_place_1.f a0 a1 = some r) : Pt Tryz.prog 53 [agg (Edu.enc a0), vS a1] (vI r) := by
 unfold presence_Table_place_1.f at h
 refine (Tr.body Tryz.func53 (c := _) rfl Tryz.ntmps53 (Nat.le_of_ble_eq_true rfl) fun R0 F => ?_).pt
 replace h := Gets.of h
 have H := h
 clear h
 refine WP.seq <| rg 2 1 <| Dv.box rfl trivial rfl cA nofun fun b541 => as0 rfl rfl <| .fin <| WP.seq <| rg 5 0 <| fb rfl trivial rfl fa32_2 <| ld 0 rfl trivial rfl sc9 rfl rfl <| mv0 rfl rfl <| el H fun t542 h543 H => cl rfl cal54 rfl (cmp_Compare_string.c h543) <| as0 rfl rfl <| .fin ?_
 obtain rfl := Gets.out H
 exact rt i2 rfl () 1 [0] 1 (.cons (res_tmp rfl) .nil)
theorem presence_Table_place.c {k : Nat} {a0 : PTab} {a1 : ByteArray} {v0_0 v0_1 : OV} {b0_ : Nat} {r : Int × Bool} (h : presence_Table_place.f k a0 a1 = some r) : Tr Tryz.prog 32 [eq (.pointer (some ⟨b0_, 0, none⟩)), vS a1] [blk b0_ 61 [eq v0_0.1, eq v0_1.1], own Edu.K v0_0.1 a0.fl] (γ := Unit) (fun _ => True) (fun g => tup [vI r.1, vB r.2]) (fun g => [blk b0_ 61 [eq v0_0.1, eq v0_1.1], own Edu.K v0_0.1 a0.fl]) := by
 unfold presence_Table_place.f at h
 refine Tr.body Tryz.func32 (c := _) rfl Tryz.ntmps32 (Nat.le_of_ble_eq_true rfl) fun R0 F => ?_
 replace h := Gets.of h
 have H := h
 clear h
 refine WP.seq <| rg 2 0 <| as0 rfl rfl <| as0 rfl rfl <| .fin <| WP.seq <| rg 10 0 <| mv0 rfl rfl <| Dv.nilp rfl trivial rfl <| fb rfl trivial rfl fa61_0 <| ld 0 rfl trivial rfl sc22 rfl rfl <| mv0 rfl rfl <| el H fun t544 h545 H => cll (B := [own Edu.K v0_0.1 a0.fl]) 2 [1,0] cal52 (Pt.lend _ (Pt.weak (slices_BinarySearchFunc_Edu_string.c h545) (.cons wk_id (.cons wk_id (.cons (wk_fn cal53 (by rintro _ _ ⟨a0_, a1_, r_, h_, rfl, rfl⟩; exact presence_Table_place_1.c h_)) .nil)))) (.cons (lt_own (mem_at 0 rfl)) (.cons lt_id (.cons lt_id .nil))) (flat_tup (flats_cons flat_eq (flats_cons flat_eq flats_nil)))) ?_
 refine ex0 rfl trivial rfl rfl <| ex0 rfl trivial rfl rfl <| as0 rfl rfl <| as0 rfl rfl <| .fin ?_
 obtain rfl := Gets.out H
 exact rt i2 rfl () 2 [0,1] 0 (.cons (res_tmp rfl) (.cons (res_tmp rfl) .nil))
theorem edu_Of.c {a0 : Edu} {r : EKey} (h : edu_Of.f a0 = some r) : Pt Tryz.prog 55 [agg (Edu.enc a0)] (agg (EKey.enc r)) := by
 unfold edu_Of.f at h
 refine (Tr.body Tryz.func55 (c := _) rfl Tryz.ntmps55 (Nat.le_of_ble_eq_true rfl) fun R0 F => ?_).pt
 replace h := Gets.of h
 have H := h
 clear h
 refine WP.seq <| rg 2 3 <| Dv.box rfl trivial rfl cA nofun fun b546 => al rfl trivial zc88 nofun fun b547 => .fin <| WP.seq <| rg 12 2048 <| fb rfl trivial rfl fa32_0 <| ld 1 rfl trivial rfl sc3 rfl rfl <| fb rfl trivial rfl fa32_1 <| ld 1 rfl trivial rfl sc9 rfl rfl <| fb rfl trivial rfl fa32_2 <| ld 1 rfl trivial rfl sc9 rfl rfl <| fb rfl trivial rfl fa32_4 <| ld 1 rfl trivial rfl sc9 rfl rfl <| fb rfl trivial rfl fa32_5 <| ld 1 rfl trivial rfl sc4 rfl rfl <| Dv.bld (css := [[vI a0.fKind], [vS a0.fRoom], [vS a0.fUser], [vS a0.fThread], [vB a0.fPrivate]]) rfl trivial Tryz.underlying88 pl88 z88 rfl ⟨(cells_one (one_eq rfl)), ⟨(cells_one (one_eq rfl)), ⟨(cells_one (one_eq rfl)), ⟨(cells_one (one_eq rfl)), ⟨(cells_one (one_eq rfl)), trivial⟩⟩⟩⟩⟩ rfl rfl <| sx 0 rfl trivial rfl rfl cA sz88 rfl rfl rfl nofun ?_
 refine .fin ?_
 obtain rfl := Gets.out H
 exact rt i2 rfl () 2 [0,1] 2 (.cons (res_cells rfl Tryz.underlying88 rfl c88 (mem_at 0 rfl) rfl) .nil)
theorem cmp_Or_int.c {k : Nat} {a0 : List Int} {r : Int} (h : cmp_Or_int.f k a0 = some r) : Pt Tryz.prog 76 [sl (intK .i64) a0] (vI r) := by
 unfold cmp_Or_int.f at h
 refine (Tr.body Tryz.func76 (c := _) rfl Tryz.ntmps76 (Nat.le_of_ble_eq_true rfl) fun R0 F => ?_).pt
 replace h := Gets.of h
 have H := h
 clear h
 refine WP.seq <| rg 1 0 <| as0 rfl rfl <| .fin <| WP.seq <| rg 1 0 <| as0 rfl rfl <| .fin <| WP.seqr H id (fun p548 : Int × Bool => [(0, sl (intK .i64) a0), (2, vI 0), (3, vI 0), (6, sl (intK .i64) a0), (7, vI (a0.length : Int)), (8, vI p548.1), (9, vB p548.2)]) (fun p548 : Int × Bool => F) (fun p548 H => ?_) (fun H => ?_)
 ·
  refine WP.seq <| rg 2 0 <| mv0 rfl rfl <| as0 rfl rfl <| .fin ?_
  obtain rfl := Gets.out H
  exact rt i2 rfl () 0 [] 0 (.cons (res_tmp rfl) .nil)
 refine WP.seq <| rg 3 0 <| mv0 rfl rfl <| Dv.lenl rfl trivial rfl Tryz.underlying25 <| mv0 rfl rfl <| .fin <| WP.block <| wg (sg 0 [] 0) fun _ _ => ?_
 refine lp (fun j_ (p554 : Int) => cmp_Or_int.l0 k a0 j_ p554) 0 H (fun p554 => [(0, sl (intK .i64) a0), (2, vI 0), (3, vI 0), (6, sl (intK .i64) a0), (7, vI (a0.length : Int)), (8, vI p554)]) (fun p554 => F) ?_
 rintro j_ x549 H
 rcases j_ with _ | j553
 ·
  exact (Gets.no H).elim
 replace H : Gets (cmp_Or_int.l0 k a0 (j553 + 1) x549) _ := H
 rw [cmp_Or_int.l0] at H
 refine WP.seq <| rg 1 0 <| bn0 rfl rfl rfl run_lt <| .fin <| WP.seq <| cd H rfl (fun _ H => ?_) (fun _ H => ?_)
 rotate_left
 ·
  refine WP.exit ?_
  replace H := Gets.out H
  exact jn (x549, decide (x549 < (a0.length : Int))) H
 refine WP.skip <| WP.seq <| WP.block <| WP.seq <| rg 3 0 <| gr H fun g551 H => Dv.ixr rfl trivial rfl rfl Tryz.underlying25 Tryz.underlying3 c3 g551.1 g551.2 <| ldR rfl trivial rfl sc3 rfl <| as0 rfl rfl <| .fin <| WP.seq <| rg 3 0 <| mv0 rfl rfl <| mv0 rfl rfl <| bn0 rfl rfl rfl run_ne <| .fin <| cd H rfl (fun _ H => ?_) (fun _ H => ?_)
 rotate_left
 ·
  exact WP.skip <| rg 2 0 <| bn0 rfl rfl rfl run_add <| mv0 rfl rfl <| .fin <| bk j553 (w64 (x549 + 1)) H
 refine WP.seq <| rg 2 0 <| mv0 rfl rfl <| as0 rfl rfl <| .fin ?_
 replace H := Gets.outr H
 obtain rfl := Gets.out H
 exact rt i2 rfl () 0 [] 0 (.cons (res_tmp rfl) .nil)
theorem cmp_isNaN_int.c {a0 : Int} {r : Bool} (h : cmp_isNaN_int.f a0 = some r) : Pt Tryz.prog 106 [vI a0] (vB r) := by
 unfold cmp_isNaN_int.f at h
 refine (Tr.body Tryz.func106 (c := _) rfl Tryz.ntmps106 (Nat.le_of_ble_eq_true rfl) fun R0 F => ?_).pt
 replace h := Gets.of h
 have H := h
 clear h
 refine WP.seq <| rg 1 0 <| as0 rfl rfl <| .fin <| WP.seq <| rg 4 0 <| mv0 rfl rfl <| mv0 rfl rfl <| bn0 rfl rfl rfl run_ne <| as0 rfl rfl <| .fin ?_
 obtain rfl := Gets.out H
 exact rt i2 rfl () 0 [] 0 (.cons (res_tmp rfl) .nil)
theorem cmp_Compare_int.c {a0 : Int} {a1 : Int} {r : Int} (h : cmp_Compare_int.f a0 a1 = some r) : Pt Tryz.prog 77 [vI a0, vI a1] (vI r) := by
 unfold cmp_Compare_int.f at h
 refine (Tr.body Tryz.func77 (c := _) rfl Tryz.ntmps77 (Nat.le_of_ble_eq_true rfl) fun R0 F => ?_).pt
 replace h := Gets.of h
 have H := h
 clear h
 refine WP.seq <| rg 1 0 <| as0 rfl rfl <| .fin <| WP.seq <| rg 3 0 <| mv0 rfl rfl <| el H fun t555 h556 H => cl rfl cal106 rfl (cmp_isNaN_int.c h556) <| as0 rfl rfl <| .fin <| WP.seq <| rg 3 0 <| mv0 rfl rfl <| el H fun t557 h558 H => cl rfl cal106 rfl (cmp_isNaN_int.c h558) <| as0 rfl rfl <| .fin <| WP.seq <| WP.seq <| rg 1 0 <| mv0 rfl rfl <| .fin <| cd H rfl (fun _ H => ?_) (fun _ H => ?_)
 ·
  refine WP.seq <| WP.seq <| rg 1 0 <| mv0 rfl rfl <| .fin <| cd H rfl (fun _ H => ?_) (fun _ H => ?_)
  ·
   refine WP.seq <| rg 1 0 <| as0 rfl rfl <| .fin ?_
   obtain rfl := Gets.out H
   exact rt i2 rfl () 0 [] 0 (.cons (res_tmp rfl) .nil)
  refine WP.skip <| WP.seq <| rg 1 0 <| as0 rfl rfl <| .fin ?_
  obtain rfl := Gets.out H
  exact rt i2 rfl () 0 [] 0 (.cons (res_tmp rfl) .nil)
 refine WP.skip <| WP.seq <| WP.seq <| rg 1 0 <| mv0 rfl rfl <| .fin <| cd H rfl (fun _ H => ?_) (fun _ H => ?_)
 ·
  refine WP.seq <| rg 1 0 <| as0 rfl rfl <| .fin ?_
  obtain rfl := Gets.out H
  exact rt i2 rfl () 0 [] 0 (.cons (res_tmp rfl) .nil)
 refine WP.skip <| WP.seq <| WP.seq <| rg 3 0 <| mv0 rfl rfl <| mv0 rfl rfl <| bn0 rfl rfl rfl run_lt <| .fin <| cd H rfl (fun _ H => ?_) (fun _ H => ?_)
 ·
  refine WP.seq <| rg 1 0 <| as0 rfl rfl <| .fin ?_
  obtain rfl := Gets.out H
  exact rt i2 rfl () 0 [] 0 (.cons (res_tmp rfl) .nil)
 refine WP.skip <| WP.seq <| WP.seq <| rg 3 0 <| mv0 rfl rfl <| mv0 rfl rfl <| bn0 rfl rfl rfl run_gt <| .fin <| cd H rfl (fun _ H => ?_) (fun _ H => ?_)
 ·
  refine WP.seq <| rg 1 0 <| as0 rfl rfl <| .fin ?_
  obtain rfl := Gets.out H
  exact rt i2 rfl () 0 [] 0 (.cons (res_tmp rfl) .nil)
 refine WP.skip <| WP.seq <| rg 1 0 <| as0 rfl rfl <| .fin ?_
 obtain rfl := Gets.out H
 exact rt i2 rfl () 0 [] 0 (.cons (res_tmp rfl) .nil)
theorem bytes_Compare.c {a0 : List Int} {a1 : List Int} {r : Int} (h : bytes_Compare.f a0 a1 = some r) : Pt Tryz.prog 78 [sl (intK .u8) a0, sl (intK .u8) a1] (vI r) := by
 unfold bytes_Compare.f at h
 refine (Tr.body Tryz.func78 (c := _) rfl Tryz.ntmps78 (Nat.le_of_ble_eq_true rfl) fun R0 F => ?_).pt
 replace h := Gets.of h
 have H := h
 clear h
 refine WP.seq <| rg 1 0 <| as0 rfl rfl <| .fin <| WP.seq <| rg 4 0 <| mv0 rfl rfl <| mv0 rfl rfl <| Dv.cext rfl trivial rfl (xt_cmp Tryz.func107 (by kernel_rfl) rfl xf107 xg107) <| as0 rfl rfl <| .fin ?_
 obtain rfl := Gets.out H
 exact rt i2 rfl () 0 [] 0 (.cons (res_tmp rfl) .nil)
theorem lay_Number.c {k : Nat} {a0 : List Int} {a1 : Int} {p0_ : OV} {r : (List Int)} (h : lay_Number.f k a0 a1 = some r) : Tr Tryz.prog 108 [eq p0_.1, vI a1] [own (intK .u8) p0_.1 a0] (γ := OV) (fun _ => True) (fun g => eq g.1) (fun g => [own (intK .u8) g.1 r]) := by
 unfold lay_Number.f at h
 refine Tr.body Tryz.func108 (c := _) rfl Tryz.ntmps108 (Nat.le_of_ble_eq_true rfl) fun R0 F => ?_
 replace h := Gets.of h
 have H := h
 clear h
 refine WP.seq <| rg 1 0 <| as0 rfl rfl <| .fin <| WP.seq <| rg 3 0 <| mv0 rfl rfl <| Dv.maxi rfl trivial rfl rfl <| as0 rfl rfl <| .fin <| WP.seq <| rg 7 32 <| mv0 rfl rfl <| mv0 rfl rfl <| Dv.lenw rfl trivial rfl (mem_at 0 rfl) Tryz.underlying82 <| mv0 rfl rfl <| Dv.lenw rfl trivial rfl (mem_at 0 rfl) Tryz.underlying82 <| gr H fun g564 H => Dv.slo (jj := 0) rfl trivial rfl rfl Tryz.underlying82 Tryz.underlying5 c5 bdE_none (bdE_some rfl g564.1) (.inr ⟨⟨_, _, rfl, g564.1, rfl⟩, rfl, rfl⟩) g564.2.1 g564.2.2 nofun (fun v565 => ?_)
 refine as0 rfl rfl <| .fin <| WP.seqn H (fun q578 : (Int × Bool × (List Int)) × OV => q578.1) (fun q578 : (Int × Bool × (List Int)) × OV => [(0, eq q578.2.1), (1, vI q578.1.1), (4, eq (.slice none 0 0)), (14, vB q578.1.2.1)]) (fun q578 : (Int × Bool × (List Int)) × OV => [own (intK .u8) q578.2.1 q578.1.2.2] ++ F) (fun q578 H => ?_) (fun H => ?_)
 ·
  obtain ⟨p566, v567⟩ := q578
  refine WP.seq <| rg 6 16 <| mv0 rfl rfl <| mv0 rfl rfl <| Dv.cvi rfl trivial rfl Tryz.underlying3 Tryz.underlying5 <| Dv.lit (intK .u8) ([IntKind.u8.wrap (p566.1)] : List Int) (css := [[eq (.int .u8 (IntKind.u8.wrap (p566.1)))]]) rfl trivial Tryz.underlying82 Tryz.underlying5 c5 z5 rfl (by decide) (by decide) rfl ⟨(cells_one (one_eq rfl)), trivial⟩ rfl rfl rfl <| gr H fun g568 H => ap (intK .u8) 0 ([IntKind.u8.wrap (p566.1)] : List Int) src_sl Tryz.underlying82 (.inr ⟨_, Tryz.underlying82⟩) inf5 g568 nofun fun v569 => ?_
  refine as0 rfl rfl <| .fin ?_
  obtain rfl := Gets.out H
  exact rt i2 rfl v569 1 [0] 0 (.cons (res_tmp rfl) .nil)
 refine WP.block <| wg (sg 1 [0] 0) fun _ _ => ?_
 refine lp (fun j_ (p577 : Int × (List Int) × OV) => lay_Number.l0 k j_ p577.1 p577.2.1) (max a1 0, (a0.take ((a0.length : Int).toNat)).drop 0, v565) H (fun p577 => [(0, eq p577.2.2.1), (1, vI p577.1), (4, eq (.slice none 0 0))]) (fun p577 => [own (intK .u8) p577.2.2.1 p577.2.1] ++ F) ?_
 rintro j_ ⟨x570, x571, v572⟩ H
 rcases j_ with _ | j576
 ·
  exact (Gets.no H).elim
 replace H : Gets (lay_Number.l0 k (j576 + 1) x570 x571) _ := H
 rw [lay_Number.l0] at H
 refine WP.seq <| WP.seq <| rg 2 0 <| mv0 rfl rfl <| bn0 rfl rfl rfl run_ge <| .fin <| cd H rfl (fun _ H => ?_) (fun _ H => ?_)
 rotate_left
 ·
  refine WP.exit ?_
  replace H := Gets.out H
  exact jn ((x570, decide (128 ≤ x570), x571), v572) H
 refine WP.skip <| WP.seq <| WP.block <| rg 8 64 <| mv0 rfl rfl <| mv0 rfl rfl <| bn0 rfl rfl rfl (run_rem (by decide)) <| bn0 rfl rfl rfl run_add <| Dv.cvi rfl trivial rfl Tryz.underlying3 Tryz.underlying5 <| Dv.lit (intK .u8) ([IntKind.u8.wrap (w64 ((x570.tmod 128) + 128))] : List Int) (css := [[eq (.int .u8 (IntKind.u8.wrap (w64 ((x570.tmod 128) + 128))))]]) rfl trivial Tryz.underlying82 Tryz.underlying5 c5 z5 rfl (by decide) (by decide) rfl ⟨(cells_one (one_eq rfl)), trivial⟩ rfl rfl rfl <| gr H fun g574 H => ap (intK .u8) 0 ([IntKind.u8.wrap (w64 ((x570.tmod 128) + 128))] : List Int) src_sl Tryz.underlying82 (.inr ⟨_, Tryz.underlying82⟩) inf5 g574 nofun fun v575 => ?_
 exact as0 rfl rfl <| .fin <| rg 3 0 <| mv0 rfl rfl <| bn0 rfl rfl rfl (run_quo (by decide)) <| as0 rfl rfl <| .fin <| bk j576 (w64 (x570.tdiv 128), x571 ++ ([IntKind.u8.wrap (w64 ((x570.tmod 128) + 128))] : List Int), v575) H
theorem lay_Text.c {k : Nat} {a0 : List Int} {a1 : ByteArray} {p0_ : OV} {r : (List Int)} (h : lay_Text.f k a0 a1 = some r) : Tr Tryz.prog 109 [eq p0_.1, vS a1] [own (intK .u8) p0_.1 a0] (γ := OV) (fun _ => True) (fun g => eq g.1) (fun g => [own (intK .u8) g.1 r]) := by
 unfold lay_Text.f at h
 refine Tr.body Tryz.func109 (c := _) rfl Tryz.ntmps109 (Nat.le_of_ble_eq_true rfl) fun R0 F => ?_
 replace h := Gets.of h
 have H := h
 clear h
 refine WP.seq <| rg 1 0 <| as0 rfl rfl <| .fin <| WP.seq <| rg 7 40 <| mv0 rfl rfl <| mv0 rfl rfl <| Dv.lens rfl trivial rfl Tryz.underlying9 <| el H fun t579 h580 H => cx 1 [0] cal108 (lay_Number.c h580 (p0_ := p0_)) nofun fun g581 _ => ?_
 refine mv0 rfl rfl <| gr H fun g582 H => ap (intK .u8) 0 (strBs a1) src_str Tryz.underlying82 (.inl Tryz.underlying9) inf5 g582 nofun fun v583 => ?_
 refine as0 rfl rfl <| .fin ?_
 obtain rfl := Gets.out H
 exact rt i2 rfl v583 1 [0] 0 (.cons (res_tmp rfl) .nil)
theorem lay_Flag.c {k : Nat} {a0 : List Int} {a1 : Bool} {p0_ : OV} {r : (List Int)} (h : lay_Flag.f k a0 a1 = some r) : Tr Tryz.prog 110 [eq p0_.1, vB a1] [own (intK .u8) p0_.1 a0] (γ := OV) (fun _ => True) (fun g => eq g.1) (fun g => [own (intK .u8) g.1 r]) := by
 unfold lay_Flag.f at h
 refine Tr.body Tryz.func110 (c := _) rfl Tryz.ntmps110 (Nat.le_of_ble_eq_true rfl) fun R0 F => ?_
 replace h := Gets.of h
 have H := h
 clear h
 refine WP.seq <| rg 1 0 <| as0 rfl rfl <| .fin <| WP.seq <| WP.seq <| rg 1 0 <| mv0 rfl rfl <| .fin <| cd H rfl (fun _ H => ?_) (fun _ H => ?_)
 ·
  refine WP.seq <| rg 3 2 <| mv0 rfl rfl <| el H fun t585 h586 H => cx 1 [0] cal108 (lay_Number.c h586 (p0_ := p0_)) nofun fun g587 _ => ?_
  refine as0 rfl rfl <| .fin ?_
  obtain rfl := Gets.out H
  exact rt i2 rfl g587 1 [0] 0 (.cons (res_tmp rfl) .nil)
 refine WP.skip <| WP.seq <| rg 3 2 <| mv0 rfl rfl <| el H fun t588 h589 H => cx 1 [0] cal108 (lay_Number.c h589 (p0_ := p0_)) nofun fun g590 _ => ?_
 refine as0 rfl rfl <| .fin ?_
 obtain rfl := Gets.out H
 exact rt i2 rfl g590 1 [0] 0 (.cons (res_tmp rfl) .nil)
theorem edu_laid.c {k : Nat} {a0 : Edu} {r : (List Int)} (h : edu_laid.f k a0 = some r) : Tr Tryz.prog 79 [agg (Edu.enc a0)] [] (γ := OV) (fun _ => True) (fun g => eq g.1) (fun g => [own (intK .u8) g.1 r]) := by
 unfold edu_laid.f at h
 refine Tr.body Tryz.func79 (c := _) rfl Tryz.ntmps79 (Nat.le_of_ble_eq_true rfl) fun R0 F => ?_
 replace h := Gets.of h
 have H := h
 clear h
 refine WP.seq <| rg 2 1 <| Dv.box rfl trivial rfl cA nofun fun b591 => as0 rfl rfl <| .fin <| WP.seq <| rg 4 4 <| fb rfl trivial rfl fa32_0 <| ld 0 rfl trivial rfl sc3 rfl rfl <| vg (st_nil (intK .u8) none) fun _ _ => ?_
 refine el H fun t592 h593 H => cx 2 [0,1] cal108 (lay_Number.c h593 (p0_ := nilV)) nofun fun g594 _ => ?_
 refine as0 rfl rfl <| .fin <| WP.seqn H (fun q623 : (Int × Bool × (List Int)) × OV => q623.1) (fun q623 : (Int × Bool × (List Int)) × OV => [(0, agg (Edu.enc a0)), (1, eq (.pointer (some ⟨b591, 0, none⟩))), (2, eq (.slice none 0 0)), (3, eq q623.2.1), (19, sl strK ([a0.fRoom, a0.fUser, a0.fEvent, a0.fThread] : List ByteArray)), (20, vI (([a0.fRoom, a0.fUser, a0.fEvent, a0.fThread] : List ByteArray).length : Int)), (21, vI q623.1.1), (22, vB q623.1.2.1)]) (fun q623 : (Int × Bool × (List Int)) × OV => [blk b591 32 (Edu.enc a0), own (intK .u8) q623.2.1 q623.1.2.2] ++ F) (fun q623 H => ?_) (fun H => ?_)
 rotate_left
 ·
  refine WP.seq <| rg 11 0 <| fb rfl trivial rfl fa32_1 <| ld 1 rfl trivial rfl sc9 rfl rfl <| fb rfl trivial rfl fa32_2 <| ld 1 rfl trivial rfl sc9 rfl rfl <| fb rfl trivial rfl fa32_3 <| ld 1 rfl trivial rfl sc9 rfl rfl <| fb rfl trivial rfl fa32_4 <| ld 1 rfl trivial rfl sc9 rfl rfl <| Dv.lit strK ([a0.fRoom, a0.fUser, a0.fEvent, a0.fThread] : List ByteArray) (css := [[vS a0.fRoom], [vS a0.fUser], [vS a0.fEvent], [vS a0.fThread]]) rfl trivial Tryz.underlying39 Tryz.underlying9 c9 z9 rfl (by decide) (by decide) rfl ⟨(cells_one (one_eq rfl)), ⟨(cells_one (one_eq rfl)), ⟨(cells_one (one_eq rfl)), ⟨(cells_one (one_eq rfl)), trivial⟩⟩⟩⟩ rfl rfl rfl <| Dv.lenl rfl trivial rfl Tryz.underlying39 <| mv0 rfl rfl <| .fin <| WP.block <| wg (sg 2 [1,0] 0) fun _ _ => ?_
  refine lp (fun j_ (p622 : Int × (List Int) × OV) => edu_laid.l1 k a0 j_ p622.1 p622.2.1) (0, t592, g594) H (fun p622 => [(0, agg (Edu.enc a0)), (1, eq (.pointer (some ⟨b591, 0, none⟩))), (2, eq (.slice none 0 0)), (3, eq p622.2.2.1), (19, sl strK ([a0.fRoom, a0.fUser, a0.fEvent, a0.fThread] : List ByteArray)), (20, vI (([a0.fRoom, a0.fUser, a0.fEvent, a0.fThread] : List ByteArray).length : Int)), (21, vI p622.1)]) (fun p622 => [blk b591 32 (Edu.enc a0), own (intK .u8) p622.2.2.1 p622.2.1] ++ F) ?_
  rintro j_ ⟨x613, x614, v615⟩ H
  rcases j_ with _ | j621
  ·
   exact (Gets.no H).elim
  replace H : Gets (edu_laid.l1 k a0 (j621 + 1) x613 x614) _ := H
  rw [edu_laid.l1] at H
  refine WP.seq <| rg 1 0 <| bn0 rfl rfl rfl run_lt <| .fin <| WP.seq <| cd H rfl (fun _ H => ?_) (fun _ H => ?_)
  rotate_left
  ·
   refine WP.exit ?_
   replace H := Gets.out H
   exact jn ((x613, decide (x613 < (([a0.fRoom, a0.fUser, a0.fEvent, a0.fThread] : List ByteArray).length : Int)), x614), v615) H
  refine WP.skip <| WP.seq <| WP.block <| WP.seq <| rg 3 0 <| gr H fun g617 H => Dv.ixr rfl trivial rfl rfl Tryz.underlying39 Tryz.underlying9 c9 g617.1 g617.2 <| ldR rfl trivial rfl sc9 rfl <| as0 rfl rfl <| .fin <| rg 4 4 <| mv0 rfl rfl <| mv0 rfl rfl <| el H fun t618 h619 H => cx 2 [1,0] cal109 (lay_Text.c h619 (p0_ := v615)) nofun fun g620 _ => ?_
  refine as0 rfl rfl <| .fin <| rg 2 0 <| bn0 rfl rfl rfl run_add <| mv0 rfl rfl <| .fin <| ng (sg 2 [1,0] 0) fun _ _ => ?_
  exact bk j621 (w64 (x613 + 1), t618, g620) H
 obtain ⟨p595, v596⟩ := q623
 refine WP.seq <| rg 5 8 <| mv0 rfl rfl <| fb rfl trivial rfl fa32_6 <| ld 0 rfl trivial rfl sc4 rfl rfl <| el H fun t597 h598 H => cx 2 [1,0] cal110 (lay_Flag.c h598 (p0_ := v596)) nofun fun g599 _ => ?_
 refine as0 rfl rfl <| .fin <| WP.seqn H (fun q612 : (Int × Bool × (List Int)) × OV => q612.1) (fun q612 : (Int × Bool × (List Int)) × OV => [(0, agg (Edu.enc a0)), (1, eq (.pointer (some ⟨b591, 0, none⟩))), (2, eq (.slice none 0 0)), (3, eq q612.2.1), (19, sl strK ([a0.fRoom, a0.fUser, a0.fEvent, a0.fThread] : List ByteArray)), (20, vI (([a0.fRoom, a0.fUser, a0.fEvent, a0.fThread] : List ByteArray).length : Int)), (21, vI p595.1), (22, vB p595.2.1), (41, sl (intK .i64) ([a0.fSpan, a0.fState, a0.fTick, a0.fStamp] : List Int)), (42, vI (([a0.fSpan, a0.fState, a0.fTick, a0.fStamp] : List Int).length : Int)), (43, vI q612.1.1), (44, vB q612.1.2.1)]) (fun q612 : (Int × Bool × (List Int)) × OV => [blk b591 32 (Edu.enc a0), own (intK .u8) q612.2.1 q612.1.2.2] ++ F) (fun q612 H => ?_) (fun H => ?_)
 ·
  obtain ⟨p600, v601⟩ := q612
  refine WP.seq <| rg 2 0 <| mv0 rfl rfl <| as0 rfl rfl <| .fin ?_
  obtain rfl := Gets.out H
  exact rt i2 rfl v601 2 [0,1] 1 (.cons (res_tmp rfl) .nil)
 refine WP.seq <| rg 11 0 <| fb rfl trivial rfl fa32_7 <| ld 1 rfl trivial rfl sc3 rfl rfl <| fb rfl trivial rfl fa32_8 <| ld 1 rfl trivial rfl sc3 rfl rfl <| fb rfl trivial rfl fa32_9 <| ld 1 rfl trivial rfl sc3 rfl rfl <| fb rfl trivial rfl fa32_10 <| ld 1 rfl trivial rfl sc3 rfl rfl <| Dv.lit (intK .i64) ([a0.fSpan, a0.fState, a0.fTick, a0.fStamp] : List Int) (css := [[vI a0.fSpan], [vI a0.fState], [vI a0.fTick], [vI a0.fStamp]]) rfl trivial Tryz.underlying25 Tryz.underlying3 c3 z3 rfl (by decide) (by decide) rfl ⟨(cells_one (one_eq rfl)), ⟨(cells_one (one_eq rfl)), ⟨(cells_one (one_eq rfl)), ⟨(cells_one (one_eq rfl)), trivial⟩⟩⟩⟩ rfl rfl rfl <| Dv.lenl rfl trivial rfl Tryz.underlying25 <| mv0 rfl rfl <| .fin <| WP.block <| wg (sg 2 [1,0] 0) fun _ _ => ?_
 refine lp (fun j_ (p611 : Int × (List Int) × OV) => edu_laid.l0 k a0 j_ p611.1 p611.2.1) (0, t597, g599) H (fun p611 => [(0, agg (Edu.enc a0)), (1, eq (.pointer (some ⟨b591, 0, none⟩))), (2, eq (.slice none 0 0)), (3, eq p611.2.2.1), (19, sl strK ([a0.fRoom, a0.fUser, a0.fEvent, a0.fThread] : List ByteArray)), (20, vI (([a0.fRoom, a0.fUser, a0.fEvent, a0.fThread] : List ByteArray).length : Int)), (21, vI p595.1), (22, vB p595.2.1), (41, sl (intK .i64) ([a0.fSpan, a0.fState, a0.fTick, a0.fStamp] : List Int)), (42, vI (([a0.fSpan, a0.fState, a0.fTick, a0.fStamp] : List Int).length : Int)), (43, vI p611.1)]) (fun p611 => [blk b591 32 (Edu.enc a0), own (intK .u8) p611.2.2.1 p611.2.1] ++ F) ?_
 rintro j_ ⟨x602, x603, v604⟩ H
 rcases j_ with _ | j610
 ·
  exact (Gets.no H).elim
 replace H : Gets (edu_laid.l0 k a0 (j610 + 1) x602 x603) _ := H
 rw [edu_laid.l0] at H
 refine WP.seq <| rg 1 0 <| bn0 rfl rfl rfl run_lt <| .fin <| WP.seq <| cd H rfl (fun _ H => ?_) (fun _ H => ?_)
 rotate_left
 ·
  refine WP.exit ?_
  replace H := Gets.out H
  exact jn ((x602, decide (x602 < (([a0.fSpan, a0.fState, a0.fTick, a0.fStamp] : List Int).length : Int)), x603), v604) H
 refine WP.skip <| WP.seq <| WP.block <| WP.seq <| rg 3 0 <| gr H fun g606 H => Dv.ixr rfl trivial rfl rfl Tryz.underlying25 Tryz.underlying3 c3 g606.1 g606.2 <| ldR rfl trivial rfl sc3 rfl <| as0 rfl rfl <| .fin <| rg 4 4 <| mv0 rfl rfl <| mv0 rfl rfl <| el H fun t607 h608 H => cx 2 [1,0] cal108 (lay_Number.c h608 (p0_ := v604)) nofun fun g609 _ => ?_
 refine as0 rfl rfl <| .fin <| rg 2 0 <| bn0 rfl rfl rfl run_add <| mv0 rfl rfl <| .fin <| ng (sg 2 [1,0] 0) fun _ _ => ?_
 exact bk j610 (w64 (x602 + 1), t607, g609) H
theorem edu_Compare.c {k : Nat} {a0 : Edu} {a1 : Edu} {r : Int} (h : edu_Compare.f k a0 a1 = some r) : Pt Tryz.prog 56 [agg (Edu.enc a0), agg (Edu.enc a1)] (vI r) := by
 unfold edu_Compare.f at h
 refine (Tr.body Tryz.func56 (c := _) rfl Tryz.ntmps56 (Nat.le_of_ble_eq_true rfl) fun R0 F => ?_).pt
 replace h := Gets.of h
 have H := h
 clear h
 refine WP.seq <| rg 3 3 <| Dv.box rfl trivial rfl cA nofun fun b624 => Dv.box rfl trivial rfl cA nofun fun b625 => as0 rfl rfl <| .fin <| WP.seq <| dgo Tryz.checked.mixed [0, 1, 2, 3, 4, 5, 7, 6, 8, 9, 10, 11, 12] [6, 8] <| fb rfl trivial rfl fa32_10 <| ld 1 rfl trivial rfl sc3 rfl rfl <| fb rfl trivial rfl fa32_10 <| ld 0 rfl trivial rfl sc3 rfl rfl <| el H fun t626 h627 H => cl rfl cal77 rfl (cmp_Compare_int.c h627) <| lds 1 rfl trivial rfl sg32 rfl rfl <| lds 0 rfl trivial rfl sg32 rfl rfl <| el H fun t628 h629 H => Dv.callx (pre := []) (F := [blk b625 32 (Edu.enc a1), blk b624 32 (Edu.enc a0)] ++ F) (fun g630 : OV => [own (intK .u8) g630.1 t628, blk b625 32 (Edu.enc a1), blk b624 32 (Edu.enc a0)] ++ F) rfl trivial cal79 rfl (edu_laid.c h629) (perm_to (L := [blk b625 32 (Edu.enc a1), blk b624 32 (Edu.enc a0)]) (F := F) [0, 1] rfl rfl rfl) rfl (fun _ => pendc (pend_in (fun _ => (mem_at 1 rfl)) (pend_by (by kernel_rfl) (pend_by (by kernel_rfl) (pend_by (by kernel_rfl) (pend_by (by kernel_rfl) (pend_by (by kernel_rfl) (pend_by (by kernel_rfl) pend_nil)))))))) (fun g630 _ => ?_)
 refine el H fun t631 h632 H => cx 3 [0,1,2] cal79 (edu_laid.c h632) pC fun g633 _ => ?_
 refine el H fun t634 h635 H => cll (B := [own (intK .u8) g630.1 t628, own (intK .u8) g633.1 t631]) 4 [1,0,2,3] cal78 (Pt.lend _ (bytes_Compare.c h635) (.cons (lt_own (mem_at 0 rfl)) (.cons (lt_own (mem_at 1 rfl)) .nil)) flat_eq) ?_
 refine Dv.lit (intK .i64) ([t626, t634] : List Int) (css := [[vI t626], [vI t634]]) rfl trivial Tryz.underlying25 Tryz.underlying3 c3 z3 rfl (by decide) (by decide) rfl ⟨(cells_one (one_eq rfl)), ⟨(cells_one (one_eq rfl)), trivial⟩⟩ rfl rfl rfl <| el H fun t636 h637 H => cl rfl cal76 rfl (cmp_Or_int.c h637) <| as0 rfl rfl <| .fin ?_
 obtain rfl := Gets.out H
 exact rt i2 rfl () 4 [0,1,2,3] 4 (.cons (res_tmp rfl) .nil)
theorem edu_Later.c {k : Nat} {a0 : Edu} {a1 : Edu} {r : Bool} (h : edu_Later.f k a0 a1 = some r) : Pt Tryz.prog 33 [agg (Edu.enc a0), agg (Edu.enc a1)] (vB r) := by
 unfold edu_Later.f at h
 refine (Tr.body Tryz.func33 (c := _) rfl Tryz.ntmps33 (Nat.le_of_ble_eq_true rfl) fun R0 F => ?_).pt
 replace h := Gets.of h
 have H := h
 clear h
 refine WP.seq <| rg 3 3 <| Dv.box rfl trivial rfl cA nofun fun b638 => Dv.box rfl trivial rfl cA nofun fun b639 => as0 rfl rfl <| .fin <| WP.seq <| dg Tryz.checked.mixed 12 0 <| lds 1 rfl trivial rfl sg32 rfl rfl <| el H fun t640 h641 H => cl rfl cal55 rfl (edu_Of.c h641) <| lds 0 rfl trivial rfl sg32 rfl rfl <| el H fun t642 h643 H => cl rfl cal55 rfl (edu_Of.c h643) <| Dv.eqs [.int .i64 t640.fKind, .string t640.fRoom, .string t640.fUser, .string t640.fThread, .bool t640.fPrivate] [.int .i64 t642.fKind, .string t642.fRoom, .string t642.fUser, .string t642.fThread, .bool t642.fPrivate] rfl trivial rfl rfl rfl rfl eg88 (fun _ => equal_of 2 (by decide) (fun _ => eqt88 t640 t642)) <| mv0 rfl rfl ?_
 cases c644 : decide (t640 = t642)
 ·
  replace H := Gets.cf H c644
  refine sk rfl rfl <| sk rfl rfl <| sk rfl rfl <| sk rfl rfl <| pf0 rfl rfl rfl <| as0 rfl rfl <| .fin ?_
  obtain rfl := Gets.out H
  exact rt i2 rfl () 2 [0,1] 2 (.cons (res_tmp rfl) .nil)
 replace H := Gets.ct H c644
 refine lds 1 rfl (gg rfl) rfl sg32 rfl rfl <| lds 0 rfl (gg rfl) rfl sg32 rfl rfl <| el H fun t645 h646 H => Dv.call rfl (gg rfl) cal56 rfl (edu_Compare.c h646) <| bng rfl rfl rfl rfl run_gt <| pt0 rfl rfl rfl <| as0 rfl rfl <| .fin ?_
 obtain rfl := Gets.out H
 exact rt i2 rfl () 2 [0,1] 2 (.cons (res_tmp rfl) .nil)
theorem slices_Insert_Edu.c {a0 : List Edu} {a1 : Int} {a2 : List Edu} {p0_ : OV} {r : List Edu} (h : slices_Insert_Edu.f a0 a1 a2 = some r) : Tr Tryz.prog 34 [eq p0_.1, vI a1, sl Edu.K a2] [own Edu.K p0_.1 a0] (γ := OV) (fun _ => True) (fun g => eq g.1) (fun g => [own Edu.K g.1 r]) := by
  unfold slices_Insert_Edu.f at h
  obtain ⟨⟨h0, h1, h2, h3, h4⟩, h5⟩ := (Gets.of h).grd
  obtain rfl := Gets.out h5
  clear h h5
  obtain ⟨i, rfl⟩ := Int.eq_ofNat_of_zero_le h0
  have hi : i ≤ a0.length := by omega
  obtain ⟨v, hv⟩ := p0_
  obtain ⟨ti, i1, i2, i3, i4⟩ := inf32
  refine Tr.body Tryz.func34 (c := _) rfl Tryz.ntmps34 (Nat.le_of_ble_eq_true rfl) fun R0 F => ?_
  refine WP.seq ?_
  refine WP.reg [(0, false)] (by kernel_rfl) ?_
  refine Dv.asg rfl trivial rfl ?_
  refine .fin ?_
  refine WP.seq ?_
  refine WP.reg [(0, false), (1, false), (2, false)] (by kernel_rfl) ?_
  refine Dv.mv rfl trivial rfl ?_
  refine Dv.mv rfl trivial rfl ?_
  refine Dv.sloa (Kd := Edu.K) (xs := a0) (v := v) rfl trivial rfl (mem_at 0 rfl) Tryz.underlying22 Tryz.underlying32 c32 (bdE_nat (m := i) rfl) hi ?_
  refine .fin ?_
  refine WP.seq ?_
  refine WP.reg [(0, false), (1, false), (2, false)] (by kernel_rfl) ?_
  refine Dv.mv rfl trivial rfl ?_
  refine Dv.lenl rfl trivial rfl Tryz.underlying22 ?_
  refine Dv.asg rfl trivial rfl ?_
  refine .fin ?_
  refine WP.seq ?_
  refine WP.seq ?_
  refine WP.reg [(0, false), (1, false)] (by kernel_rfl) ?_
  refine Dv.mv rfl trivial rfl ?_
  refine Dv.bin rfl trivial rfl rfl (fun _ => run_eq) ?_
  refine .fin ?_
  refine WP.cond rfl (fun c0 => ?_) (fun c0 => ?_)
  · exfalso; have := beq_iff_eq.1 c0; omega
  refine WP.skip ?_
  refine WP.seq ?_
  refine WP.reg [(0, false), (1, false), (2, false)] (by kernel_rfl) ?_
  refine Dv.mv rfl trivial rfl ?_
  refine Dv.lenw (Kd := Edu.K) (xs := a0) (v := v) rfl trivial rfl (mem_at 0 rfl) Tryz.underlying22 ?_
  refine Dv.asg rfl trivial rfl ?_
  refine .fin ?_
  refine WP.seq ?_
  refine WP.seq ?_
  refine WP.reg [(0, false), (1, false), (2, false)] (by kernel_rfl) ?_
  refine Dv.mv rfl trivial rfl ?_
  refine Dv.mv rfl trivial rfl ?_
  refine Dv.bin rfl trivial rfl rfl (fun _ => run_eq) ?_
  refine .fin ?_
  refine WP.cond rfl (fun c1 => ?_) (fun c1 => ?_)
  · have e1 : i = a0.length := by have := beq_iff_eq.1 c1; omega
    subst e1
    refine WP.seq ?_
    refine WP.reg [(0, false), (1, false), (2, true), (3, false)] (by kernel_rfl) ?_
    refine Dv.mv rfl trivial rfl ?_
    refine Dv.mv rfl trivial rfl ?_
    refine Dv.appx (Kd := Edu.K) (xs := a0) (v := v) (jj := 0) (ys := a2) (fun v1 : OV => [own Edu.K v1.1 (a0 ++ a2)] ++ F) rfl trivial rfl rfl rfl src_sl Tryz.underlying22 (.inr ⟨_, Tryz.underlying22⟩) inf32 rfl (by decide) (by omega) rfl nofun (fun v1 => ?_)
    refine Dv.asg rfl trivial rfl ?_
    refine .fin ?_
    have e2 : a0.take (a0.length : Int).toNat ++ a2 ++ a0.drop (a0.length : Int).toNat = a0 ++ a2 := by simp
    rw [e2]
    exact WP.retL (fun _ _ h => h) rfl v1 trivial (.cons (res_tmp rfl) .nil) rfl (st_sel (L := [own Edu.K v1.1 (a0 ++ a2)]) (F := F) [0] 0 rfl rfl rfl)
  refine WP.skip ?_
  have hlt : i < a0.length := by have : ¬ ((i : Int) = (a0.length : Int)) := by simpa using c1
                                 omega
  have hne : a0 ≠ [] := by intro e; subst e; simp at hlt
  rw [Int.toNat_natCast]
  refine WP.gh (gh_of (st_own_blk 0 rfl hne)) (fun g hg => ?_)
  rcases g with ⟨b, off, c, bT, A, C⟩
  change v = .slice (some ⟨b, off, none⟩) a0.length c ∧ a0.length ≤ c ∧ A.length = off ∧ off + c * Edu.K.sz ≤ (A ++ a0.flatMap Edu.K.enc ++ C).length at hg
  obtain ⟨rfl, hc, hA, hlen⟩ := hg
  change WP _ _ _ _ _ _ (blk b bT (A ++ a0.flatMap Edu.K.enc ++ C) :: F)
  have hsz : 0 < Edu.K.sz := by decide
  have ml : ∀ {p q : Nat}, p ≤ q → p * Edu.K.sz ≤ q * Edu.K.sz := fun h => Nat.mul_le_mul_right _ h
  have fl : (A ++ a0.flatMap Edu.K.enc ++ C).length = off + a0.length * Edu.K.sz + C.length := by rw [List.length_append, List.length_append, flatMap_len, hA]
  have fd : ((a0.drop i).flatMap Edu.K.enc).length = (a0.length - i) * Edu.K.sz := by rw [flatMap_len, List.length_drop]
  have fy : (a2.flatMap Edu.K.enc).length = a2.length * Edu.K.sz := flatMap_len _
  have s1 : i * Edu.K.sz + a2.length * Edu.K.sz + (a0.length - i) * Edu.K.sz = (a0.length + a2.length) * Edu.K.sz := by rw [← Nat.add_mul, ← Nat.add_mul]; congr 1; omega
  have s2 : (i + a2.length) * Edu.K.sz = i * Edu.K.sz + a2.length * Edu.K.sz := Nat.add_mul ..
  have zl : (a0.take i ++ a2 ++ a0.drop i).length = a0.length + a2.length := by simp only [List.length_append, List.length_take, List.length_drop]; omega
  refine WP.seq ?_
  refine WP.seq ?_
  refine WP.reg [(0, false), (1, false), (2, false), (3, false), (4, false), (5, false)] (by kernel_rfl) ?_
  refine Dv.mv rfl trivial rfl ?_
  refine Dv.mv rfl trivial rfl ?_
  refine Dv.bin rfl trivial rfl rfl (fun _ => run_addn (a := a0.length) (b := a2.length) (by omega)) ?_
  refine Dv.mv rfl trivial rfl ?_
  refine Dv.capk rfl trivial rfl Tryz.underlying22 ?_
  refine Dv.bin rfl trivial rfl rfl (fun _ => run_gt) ?_
  refine .fin ?_
  refine WP.cond rfl (fun c2 => ?_) (fun c2 => ?_)
  · have hg : c < a0.length + a2.length := by have := of_decide_eq_true c2; omega
    refine WP.seq ?_
    refine WP.reg [(0, false), (1, false), (2, false), (3, false), (4, false), (5, false), (6, false), (7, false), (8, true), (9, false)] (by kernel_rfl) ?_
    refine Dv.mv rfl trivial rfl ?_
    refine Dv.mv rfl trivial rfl ?_
    refine Dv.slkm (o' := off) (m' := i) (c' := c) rfl trivial rfl Tryz.underlying22 Tryz.underlying32 c32 bdE_none (bdE_nat (m := i) rfl) (Nat.zero_le _) (by omega) (.inr rfl) (by simp) (by simp) (by simp) ?_
    refine Dv.mv rfl trivial rfl ?_
    refine Dv.mv rfl trivial rfl ?_
    refine Dv.bin rfl trivial rfl rfl (fun _ => run_addn (a := a0.length) (b := a2.length) (by omega)) ?_
    refine Dv.mv rfl trivial rfl ?_
    refine Dv.bin rfl trivial rfl rfl (fun _ => run_subn (a := a0.length + a2.length) (b := i) (by omega) (by omega)) ?_
    refine Dv.apmn (sz := Edu.K.sz) (jj := 0) (k1 := a0.length + a2.length - i) (N := a0.length + a2.length) (Q := (a0.take i).flatMap Edu.K.enc) rfl trivial rfl rfl Tryz.underlying22 Tryz.underlying3 i1 i2 i3 i4 rfl (by decide) (by omega) (by omega) hg (by omega) h4 rfl ?_ (ins_pre (Kd := Edu.K) hi hA) nofun (fun w hw => ?_)
    · rw [fl]; have := ml (Nat.le_of_lt hlt); omega
    rcases w with ⟨b2, nc⟩
    replace hw : a0.length + a2.length ≤ nc := hw
    refine Dv.asg rfl trivial rfl ?_
    refine .fin ?_
    generalize hZ : (Builtin.zeroCells (Value.cells _) ((b2, nc).2 - i)).toList.map eq = Z
    have zz : Z.length = (nc - i) * Edu.K.sz := by rw [← hZ, List.length_map, Array.length_toList, Builtin.zeroCells, Array.size_map, Array.size_range]; rfl
    have ft : ((a0.take i).flatMap Edu.K.enc ++ Z).length = nc * Edu.K.sz := by rw [List.length_append, flatMap_len, List.length_take, Nat.min_eq_left hi, zz, ← Nat.add_mul]; congr 1; omega
    have s3 := ml hw
    have s4 : i * Edu.K.sz + (a0.length - i) * Edu.K.sz = a0.length * Edu.K.sz := by rw [← Nat.add_mul]; congr 1; omega
    refine WP.seq ?_
    refine WP.reg [(0, false), (1, false), (2, false), (3, false), (4, true)] (by kernel_rfl) ?_
    refine Dv.mv rfl trivial rfl ?_
    refine Dv.mv rfl trivial rfl ?_
    refine Dv.slkm (o' := i * Edu.K.sz) (m' := a0.length + a2.length - i) (c' := nc - i) rfl trivial rfl Tryz.underlying22 Tryz.underlying32 c32 (bdE_nat (m := i) rfl) bdE_none (by omega) hw (.inl (Nat.lt_of_lt_of_le (by omega) hw)) (Nat.zero_add _) rfl rfl ?_
    refine Dv.mv rfl trivial rfl ?_
    refine Dv.cpkn (jj := 0) (kk := a2.length) rfl trivial rfl rfl Tryz.underlying22 Tryz.underlying32 c32 srcN_all (by omega) rfl ?_ nofun ?_
    · rw [ft, fy]; omega
    refine .fin ?_
    have l1 : (spl ((a0.take i).flatMap Edu.K.enc ++ Z) (i * Edu.K.sz) (a2.flatMap Edu.K.enc)).length = nc * Edu.K.sz := by rw [spl_len (by rw [ft, fy]; omega), ft]
    refine WP.seq ?_
    refine WP.dreg Tryz.checked.mixed [(0, false), (1, false), (2, false), (3, false), (4, false), (5, false), (6, false), (7, false), (8, true)] (by kernel_rfl) ?_
    refine Dv.mv rfl trivial rfl ?_
    refine Dv.mv rfl trivial rfl ?_
    refine Dv.mv rfl trivial rfl ?_
    refine Dv.bin rfl trivial rfl rfl (fun _ => run_addn (a := i) (b := a2.length) (by omega)) ?_
    refine Dv.slkm (o' := (i + a2.length) * Edu.K.sz) (m' := a0.length - i) (c' := nc - (i + a2.length)) rfl trivial rfl Tryz.underlying22 Tryz.underlying32 c32 (bdE_nat (m := i + a2.length) rfl) bdE_none (by omega) hw (.inl (Nat.lt_of_lt_of_le (by omega) hw)) (Nat.zero_add _) (by omega) rfl ?_
    refine Dv.mv rfl trivial rfl ?_
    refine Dv.mv rfl trivial rfl ?_
    refine Dv.slkm (o' := off + i * Edu.K.sz) (m' := a0.length - i) (c' := c - i) rfl trivial rfl Tryz.underlying22 Tryz.underlying32 c32 (bdE_nat (m := i) rfl) bdE_none hi hc (.inl (by omega)) rfl rfl rfl ?_
    refine Dv.cpkn (jj := 0) (kk := a0.length - i) rfl trivial rfl rfl Tryz.underlying22 Tryz.underlying32 c32 (srcN_own (mem_at 1 rfl) hi hA) (Nat.min_self _) rfl ?_ (fun _ => pend_bits (by kernel_rfl)) ?_
    · rw [l1, fd]; omega
    refine .fin ?_
    have l2 : (spl (spl ((a0.take i).flatMap Edu.K.enc ++ Z) (i * Edu.K.sz) (a2.flatMap Edu.K.enc)) ((i + a2.length) * Edu.K.sz) ((a0.drop i).flatMap Edu.K.enc)).length = nc * Edu.K.sz := by rw [spl_len (by rw [l1, fd]; omega), l1]
    refine WP.seq ?_
    refine WP.reg [(0, false), (1, false)] (by kernel_rfl) ?_
    refine Dv.mv rfl trivial rfl ?_
    refine Dv.asg rfl trivial rfl ?_
    refine .fin ?_
    refine WP.gh (gh_of (st_blk_own (Kd := Edu.K) (off := 0) (n := a0.length + a2.length) (c := nc) (zs := a0.take i ++ a2 ++ a0.drop i) 0 rfl zl hw (by rw [l2]; omega) (ins_new hi))) (fun _ _ => ?_)
    exact WP.retL (fun _ _ h => h) rfl (⟨.slice (some ⟨b2, 0, none⟩) (a0.length + a2.length) nc, rfl⟩ : OV) trivial (.cons (res_tmp rfl) .nil) rfl (st_sel (L := [own Edu.K (.slice (some ⟨b2, 0, none⟩) (a0.length + a2.length) nc) (a0.take i ++ a2 ++ a0.drop i), blk b bT (A ++ a0.flatMap Edu.K.enc ++ C)]) (F := F) [1, 0] 1 rfl rfl rfl)
  have hg : a0.length + a2.length ≤ c := by have := of_decide_eq_false c2; omega
  refine WP.skip ?_
  have s3 := ml hg
  refine WP.seq ?_
  refine WP.reg [(0, false), (1, false), (2, false), (3, false), (4, false), (5, false)] (by kernel_rfl) ?_
  refine Dv.mv rfl trivial rfl ?_
  refine Dv.mv rfl trivial rfl ?_
  refine Dv.mv rfl trivial rfl ?_
  refine Dv.bin rfl trivial rfl rfl (fun _ => run_addn (a := a0.length) (b := a2.length) (by omega)) ?_
  refine Dv.slkm (o' := off) (m' := a0.length + a2.length) (c' := c) rfl trivial rfl Tryz.underlying22 Tryz.underlying32 c32 bdE_none (bdE_nat (m := a0.length + a2.length) rfl) (Nat.zero_le _) hg (.inr rfl) (by simp) (by simp) (by simp) ?_
  refine Dv.asg rfl trivial rfl ?_
  refine .fin ?_
  refine WP.seq ?_
  refine WP.seq ?_
  refine WP.reg [(0, false), (1, false), (2, false), (3, false), (4, false), (5, false), (6, false), (7, false)] (by kernel_rfl) ?_
  refine Dv.mv rfl trivial rfl ?_
  refine Dv.mv rfl trivial rfl ?_
  refine Dv.mv rfl trivial rfl ?_
  refine Dv.mv rfl trivial rfl ?_
  refine Dv.bin rfl trivial rfl rfl (fun _ => run_addn (a := i) (b := a2.length) (by omega)) ?_
  refine Dv.slkm (o' := off + (i + a2.length) * Edu.K.sz) (m' := a0.length - i) (c' := c - (i + a2.length)) rfl trivial rfl Tryz.underlying22 Tryz.underlying32 c32 (bdE_nat (m := i + a2.length) rfl) bdE_none (by omega) hg (.inl (Nat.lt_of_lt_of_le (by omega) hg)) rfl (by omega) rfl ?_
  refine Dv.ovl rfl trivial rfl rfl (mem_at 0 rfl) h2 hsz Tryz.func57 (by kernel_rfl) rfl xf57 xg57 rfl Tryz.underlying22 Tryz.underlying32 ?_
  refine Dv.un rfl trivial rfl (fun _ => run_not _) ?_
  refine .fin ?_
  refine WP.cond rfl (fun c3 => ?_) (fun c3 => by cases c3)
  refine WP.seq ?_
  refine WP.dreg Tryz.checked.mixed [(0, false), (1, false), (2, false), (3, false), (4, false), (5, false), (6, false), (7, false), (8, true)] (by kernel_rfl) ?_
  refine Dv.mv rfl trivial rfl ?_
  refine Dv.mv rfl trivial rfl ?_
  refine Dv.mv rfl trivial rfl ?_
  refine Dv.bin rfl trivial rfl rfl (fun _ => run_addn (a := i) (b := a2.length) (by omega)) ?_
  refine Dv.slkm (o' := off + (i + a2.length) * Edu.K.sz) (m' := a0.length - i) (c' := c - (i + a2.length)) rfl trivial rfl Tryz.underlying22 Tryz.underlying32 c32 (bdE_nat (m := i + a2.length) rfl) bdE_none (by omega) hg (.inl (Nat.lt_of_lt_of_le (by omega) hg)) rfl (by omega) rfl ?_
  refine Dv.mv rfl trivial rfl ?_
  refine Dv.mv rfl trivial rfl ?_
  refine Dv.slkm (o' := off + i * Edu.K.sz) (m' := a0.length + a2.length - i) (c' := c - i) rfl trivial rfl Tryz.underlying22 Tryz.underlying32 c32 (bdE_nat (m := i) rfl) bdE_none (by omega) hg (.inl (by omega)) rfl rfl rfl ?_
  refine Dv.cpkn (jj := 0) (kk := a0.length - i) rfl trivial rfl rfl Tryz.underlying22 Tryz.underlying32 c32 (srcN_own (mem_at 0 rfl) hi hA) (by omega) rfl ?_ (fun _ => pend_bits (by kernel_rfl)) ?_
  · rw [fd]; omega
  refine .fin ?_
  have l1 : (spl (A ++ a0.flatMap Edu.K.enc ++ C) (off + (i + a2.length) * Edu.K.sz) ((a0.drop i).flatMap Edu.K.enc)).length = (A ++ a0.flatMap Edu.K.enc ++ C).length := spl_len (by rw [fd]; omega)
  refine WP.seq ?_
  refine WP.reg [(0, false), (1, false), (2, false), (3, false), (4, true)] (by kernel_rfl) ?_
  refine Dv.mv rfl trivial rfl ?_
  refine Dv.mv rfl trivial rfl ?_
  refine Dv.slkm (o' := off + i * Edu.K.sz) (m' := a0.length + a2.length - i) (c' := c - i) rfl trivial rfl Tryz.underlying22 Tryz.underlying32 c32 (bdE_nat (m := i) rfl) bdE_none (by omega) hg (.inl (by omega)) rfl rfl rfl ?_
  refine Dv.mv rfl trivial rfl ?_
  refine Dv.cpkn (jj := 0) (kk := a2.length) rfl trivial rfl rfl Tryz.underlying22 Tryz.underlying32 c32 srcN_all (by omega) rfl ?_ nofun ?_
  · rw [l1, fy]; omega
  refine .fin ?_
  refine WP.seq ?_
  refine WP.reg [(0, false), (1, false)] (by kernel_rfl) ?_
  refine Dv.mv rfl trivial rfl ?_
  refine Dv.asg rfl trivial rfl ?_
  refine .fin ?_
  refine WP.gh (gh_of (st_blk_own (Kd := Edu.K) (off := off) (n := a0.length + a2.length) (c := c) (zs := a0.take i ++ a2 ++ a0.drop i) 0 rfl zl hg (by rw [spl_len (by rw [l1, fy]; omega), l1]; exact hlen) (ins_old hi hA (by omega)))) (fun _ _ => ?_)
  exact WP.retL (fun _ _ h => h) rfl (⟨.slice (some ⟨b, off, none⟩) (a0.length + a2.length) c, rfl⟩ : OV) trivial (.cons (res_tmp rfl) .nil) rfl (st_sel (L := [own Edu.K (.slice (some ⟨b, off, none⟩) (a0.length + a2.length) c) (a0.take i ++ a2 ++ a0.drop i)]) (F := F) [0] 0 rfl rfl rfl)
theorem heap_Heap_set.c {a0 : HHeap} {a1 : Int} {a2 : HEnt} {p0_ : OV} {r : HHeap} (h : heap_Heap_set.f a0 a1 a2 = some r) : Tr Tryz.prog 59 [eq p0_.1, vI a1, agg (HEnt.enc a2)] [HHeap.O p0_ a0] (γ := Unit) (fun _ => True) (fun g => tup []) (fun g => [HHeap.O p0_ r]) := by
 unfold heap_Heap_set.f at h
 refine Tr.body Tryz.func59 (c := _) rfl Tryz.ntmps59 (Nat.le_of_ble_eq_true rfl) fun R0 F => ?_
 replace h := Gets.of h
 have H := h
 clear h
 refine WP.seq <| rg 1 1 <| Dv.box rfl trivial rfl cA nofun fun b652 => .fin <| WP.seq <| wg (HHeap.opn 1 rfl) fun g653 h654 => ?_
 refine dg Tryz.checked.mixed 8 128 <| mv0 rfl rfl <| Dv.nilpp h654 rfl trivial rfl <| fp h654 rfl trivial rfl fa81_0 <| ld 0 rfl trivial rfl sc79 rfl rfl <| mv0 rfl rfl <| lds 3 rfl trivial rfl sg74 rfl rfl <| gr H fun g655 H => ?_
 have h656 : a1.toNat < a0.fl.length := idx_lt g655
 refine Dv.ixw rfl trivial rfl (mem_at 1 rfl) rfl Tryz.underlying79 Tryz.underlying74 c74 g655.1 g655.2 <| Dv.stw (j := a1.toNat) (f := 0) (jj := 1) a2 rfl trivial rfl rfl (cells_agg (HEnt.K.one _)) Tryz.underlying74 c74 rfl rfl h656 (Nat.le_of_ble_eq_true rfl) rfl (fun _ => pend_bits (by kernel_rfl)) <| .fin <| dg Tryz.checked.mixed 8 128 <| mv0 rfl rfl <| Dv.nilpp h654 rfl trivial rfl <| fp h654 rfl trivial rfl fa81_1 <| ld 0 rfl trivial rfl sc78 rfl rfl <| fb rfl trivial rfl fa74_1 <| ld 3 rfl trivial rfl sc9 rfl rfl <| mv0 rfl rfl <| Dv.mup (jj := 2) a1 rfl trivial rfl rfl rfl rfl Tryz.underlying78 (keyOk_str Tryz.underlying9) (fun _ => pend_bits (by kernel_rfl)) <| .fin <| ng (HHeap.shut (p := p0_) (m := (⟨a0.fl.set a1.toNat a2, mput a0.fat a2.fKey a1⟩ : HHeap)) (g653.1, g653.2.1, g653.2.2) h654 (pm 4 [0,1,2,3])) fun _ _ => ?_
 obtain rfl := Gets.out H
 exact re rfl () 2 [1,0] 1 .nil
theorem heap_ahead.c {k : Nat} {a0 : HEnt} {a1 : HEnt} {r : Int} (h : heap_ahead.f k a0 a1 = some r) : Pt Tryz.prog 81 [agg (HEnt.enc a0), agg (HEnt.enc a1)] (vI r) := by
 unfold heap_ahead.f at h
 refine (Tr.body Tryz.func81 (c := _) rfl Tryz.ntmps81 (Nat.le_of_ble_eq_true rfl) fun R0 F => ?_).pt
 replace h := Gets.of h
 have H := h
 clear h
 refine WP.seq <| rg 3 3 <| Dv.box rfl trivial rfl cA nofun fun b657 => Dv.box rfl trivial rfl cA nofun fun b658 => as0 rfl rfl <| .fin <| WP.seq <| dg Tryz.checked.mixed 13 0 <| fb rfl trivial rfl fa74_0 <| ld 1 rfl trivial rfl sc3 rfl rfl <| fb rfl trivial rfl fa74_0 <| ld 0 rfl trivial rfl sc3 rfl rfl <| el H fun t659 h660 H => cl rfl cal77 rfl (cmp_Compare_int.c h660) <| fb rfl trivial rfl fa74_1 <| ld 1 rfl trivial rfl sc9 rfl rfl <| fb rfl trivial rfl fa74_1 <| ld 0 rfl trivial rfl sc9 rfl rfl <| el H fun t661 h662 H => cl rfl cal54 rfl (cmp_Compare_string.c h662) <| Dv.lit (intK .i64) ([t659, t661] : List Int) (css := [[vI t659], [vI t661]]) rfl trivial Tryz.underlying25 Tryz.underlying3 c3 z3 rfl (by decide) (by decide) rfl ⟨(cells_one (one_eq rfl)), ⟨(cells_one (one_eq rfl)), trivial⟩⟩ rfl rfl rfl <| el H fun t663 h664 H => cl rfl cal76 rfl (cmp_Or_int.c h664) <| as0 rfl rfl <| .fin ?_
 obtain rfl := Gets.out H
 exact rt i2 rfl () 2 [0,1] 2 (.cons (res_tmp rfl) .nil)
theorem heap_Heap_down.c {k : Nat} {a0 : HHeap} {a1 : Int} {p0_ : OV} {r : HHeap} (h : heap_Heap_down.f k a0 a1 = some r) : Tr Tryz.prog 60 [eq p0_.1, vI a1] [HHeap.O p0_ a0] (γ := Unit) (fun _ => True) (fun g => tup []) (fun g => [HHeap.O p0_ r]) := by
 unfold heap_Heap_down.f at h
 refine Tr.body Tryz.func60 (c := _) rfl Tryz.ntmps60 (Nat.le_of_ble_eq_true rfl) fun R0 F => ?_
 replace h := Gets.of h
 have H := h
 clear h
 refine WP.seq <| rg 9 384 <| mv0 rfl rfl <| Dv.nilA HHeap.nn rfl trivial rfl (mem_at 0 rfl) <| vg (HHeap.opn 0 rfl) fun g665 h666 => ?_
 refine fp h666 rfl trivial rfl fa81_0 <| ld 0 rfl trivial rfl sc79 rfl rfl <| mv0 rfl rfl <| gr H fun g667 H => ?_
 have h668 : a1.toNat < a0.fl.length := idx_lt g667
 refine Dv.ixw rfl trivial rfl (mem_at 1 rfl) rfl Tryz.underlying79 Tryz.underlying74 c74 g667.1 g667.2 <| Dv.ldws (j := a1.toNat) (f := 0) rfl trivial rfl (mem_at 1 rfl) h668 Tryz.underlying74 rfl c74 (Nat.le_of_ble_eq_true rfl) <| al rfl trivial zc74 nofun fun b669 => sx 0 rfl trivial rfl rfl cA sz74 rfl rfl rfl nofun ?_
 refine .fin <| WP.seqn H id (fun p670 : Int × Int × Bool × Bool × HHeap => [(0, eq p0_.1), (1, vI p670.1), (4, eq (.pointer (some ⟨b669, 0, none⟩))), (5, vI p670.2.1), (42, vB p670.2.2.1), (63, vB p670.2.2.2.1)]) (fun p670 : Int × Int × Bool × Bool × HHeap => [blk b669 74 (HEnt.enc (a0.fl.getD a1.toNat default)), HHeap.O p0_ p670.2.2.2.2] ++ F) (fun p670 H => ?_) (fun H => ?_)
 ·
  refine rg 4 8 <| mv0 rfl rfl <| mv0 rfl rfl <| lds 0 rfl trivial rfl sg74 rfl rfl <| el H fun t671 h672 H => cx 2 [1,0] cal59 (heap_Heap_set.c h672 (p0_ := p0_)) nofun fun _ _ => ?_
  refine .fin ?_
  obtain rfl := Gets.out H
  exact re rfl () 2 [1,0] 1 .nil
 refine WP.block <| wg (HHeap.shut (p := p0_) (m := a0) (g665.1, g665.2.1, g665.2.2) h666 (pm 4 [1,2,3,0])) fun _ _ => ?_
 refine wg (sg 2 [1,0] 0) fun _ _ => ?_
 refine lp (fun j_ (p701 : Int × HHeap) => heap_Heap_down.l0 k a0 a1 j_ p701.1 p701.2) (a1, a0) H (fun p701 => [(0, eq p0_.1), (1, vI p701.1), (4, eq (.pointer (some ⟨b669, 0, none⟩)))]) (fun p701 => [blk b669 74 (HEnt.enc (a0.fl.getD a1.toNat default)), HHeap.O p0_ p701.2] ++ F) ?_
 rintro j_ ⟨x673, x674⟩ H
 rcases j_ with _ | j700
 ·
  exact (Gets.no H).elim
 replace H : Gets (heap_Heap_down.l0 k a0 a1 (j700 + 1) x673 x674) _ := H
 rw [heap_Heap_down.l0] at H
 refine WP.block <| WP.seq <| rg 4 0 <| mv0 rfl rfl <| bn0 rfl rfl rfl run_mul <| bn0 rfl rfl rfl run_add <| as0 rfl rfl <| .fin <| WP.seqn H id (fun p675 : Int × Bool => [(0, eq p0_.1), (1, vI x673), (4, eq (.pointer (some ⟨b669, 0, none⟩))), (5, vI p675.1), (42, vB p675.2)]) (fun p675 : Int × Bool => [blk b669 74 (HEnt.enc (a0.fl.getD a1.toNat default)), HHeap.O p0_ x674] ++ F) (fun p675 H => ?_) (fun H => ?_)
 ·
  refine WP.seq <| WP.seq <| wg (HHeap.opn 1 rfl) fun g676 h677 => ?_
  refine dg Tryz.checked.mixed 19 0 <| mv0 rfl rfl <| mv0 rfl rfl <| Dv.nilpp h677 rfl trivial rfl <| fp h677 rfl trivial rfl fa81_0 <| ld 0 rfl trivial rfl sc79 rfl rfl <| Dv.lenw rfl trivial rfl (mem_at 1 rfl) Tryz.underlying79 <| bn0 rfl rfl rfl run_ge <| mv0 rfl rfl ?_
  cases c678 : decide ((x674.fl.length : Int) ≤ p675.1)
  rotate_left
  ·
   replace H := Gets.ct H c678
   refine sk rfl rfl <| sk rfl rfl <| sk rfl rfl <| sk rfl rfl <| sk rfl rfl <| sk rfl rfl <| sk rfl rfl <| sk rfl rfl <| sk rfl rfl <| sk rfl rfl <| pt0 rfl rfl rfl <| .fin <| WP.cond rfl (fun _ => ?_) nofun
   refine WP.exit ?_
   replace H := Gets.out H
   refine ng (HHeap.shut (p := p0_) (m := x674) (g676.1, g676.2.1, g676.2.2) h677 (pm 4 [0,1,2,3])) fun _ _ => ?_
   refine ng (sg 2 [1,0] 0) fun _ _ => ?_
   exact jn (x673, p675.1, p675.2, true, x674) H
  replace H := Gets.cf H c678
  refine lds 3 rfl (gg rfl) rfl sg74 rfl rfl <| mvg rfl rfl rfl <| Dv.nilpp h677 rfl (gg rfl) rfl <| fp h677 rfl (gg rfl) rfl fa81_0 <| ld 0 rfl (gg rfl) rfl sc79 rfl rfl <| mvg rfl rfl rfl <| gr H fun g680 H => ?_
  have h681 : p675.1.toNat < x674.fl.length := idx_lt g680
  refine Dv.ixw rfl (gg rfl) rfl (mem_at 1 rfl) rfl Tryz.underlying79 Tryz.underlying74 c74 g680.1 g680.2 <| Dv.ldws (j := p675.1.toNat) (f := 0) rfl (gg rfl) rfl (mem_at 1 rfl) h681 Tryz.underlying74 rfl c74 (Nat.le_of_ble_eq_true rfl) <| el H fun t682 h683 H => Dv.call rfl (gg rfl) cal81 rfl (heap_ahead.c h683) <| bng rfl rfl rfl rfl run_lt <| pf0 rfl rfl rfl <| .fin <| cd H rfl (fun _ H => ?_) (fun _ H => ?_)
  ·
   refine WP.exit ?_
   replace H := Gets.out H
   refine ng (HHeap.shut (p := p0_) (m := x674) (g676.1, g676.2.1, g676.2.2) h677 (pm 4 [0,1,2,3])) fun _ _ => ?_
   refine ng (sg 2 [1,0] 0) fun _ _ => ?_
   exact jn (x673, p675.1, p675.2, decide (t682 < 0), x674) H
  refine WP.skip <| WP.seq <| rg 10 512 <| mv0 rfl rfl <| mv0 rfl rfl <| mv0 rfl rfl <| Dv.nilpp h677 rfl trivial rfl <| fp h677 rfl trivial rfl fa81_0 <| ld 0 rfl trivial rfl sc79 rfl rfl <| mv0 rfl rfl <| gr H fun g685 H => ?_
  have h686 : p675.1.toNat < x674.fl.length := idx_lt g685
  refine Dv.ixw rfl trivial rfl (mem_at 1 rfl) rfl Tryz.underlying79 Tryz.underlying74 c74 g685.1 g685.2 <| Dv.ldws (j := p675.1.toNat) (f := 0) rfl trivial rfl (mem_at 1 rfl) h686 Tryz.underlying74 rfl c74 (Nat.le_of_ble_eq_true rfl) <| vg (HHeap.shut (p := p0_) (m := x674) (g676.1, g676.2.1, g676.2.2) h677 (pm 4 [0,1,2,3])) fun _ _ => ?_
  refine el H fun t687 h688 H => cx 2 [0,1] cal59 (heap_Heap_set.c h688 (p0_ := p0_)) nofun fun _ _ => ?_
  refine .fin <| rg 2 0 <| mv0 rfl rfl <| as0 rfl rfl <| .fin <| ng (sg 2 [1,0] 0) fun _ _ => ?_
  exact bk j700 (p675.1, t687) H
 refine WP.seq <| wg (HHeap.opn 1 rfl) fun g689 h690 => ?_
 refine dg Tryz.checked.mixed 27 0 <| mv0 rfl rfl <| bn0 rfl rfl rfl run_add <| mv0 rfl rfl <| Dv.nilpp h690 rfl trivial rfl <| fp h690 rfl trivial rfl fa81_0 <| ld 0 rfl trivial rfl sc79 rfl rfl <| Dv.lenw rfl trivial rfl (mem_at 1 rfl) Tryz.underlying79 <| bn0 rfl rfl rfl run_lt <| mv0 rfl rfl ?_
 cases c691 : decide ((w64 ((w64 ((w64 (2 * x673)) + 1)) + 1)) < (x674.fl.length : Int))
 ·
  replace H := Gets.cf H c691
  refine sk rfl rfl <| sk rfl rfl <| sk rfl rfl <| sk rfl rfl <| sk rfl rfl <| sk rfl rfl <| sk rfl rfl <| sk rfl rfl <| sk rfl rfl <| sk rfl rfl <| sk rfl rfl <| sk rfl rfl <| sk rfl rfl <| sk rfl rfl <| sk rfl rfl <| sk rfl rfl <| sk rfl rfl <| pf0 rfl rfl rfl <| .fin <| WP.cond rfl nofun (fun _ => ?_)
  refine WP.skip ?_
  replace H := Gets.out H
  refine ng (HHeap.shut (p := p0_) (m := x674) (g689.1, g689.2.1, g689.2.2) h690 (pm 4 [0,1,2,3])) fun _ _ => ?_
  refine ng (sg 2 [1,0] 0) fun _ _ => ?_
  exact jn (w64 ((w64 (2 * x673)) + 1), false) H
 replace H := Gets.ct H c691
 refine mvg rfl rfl rfl <| Dv.nilpp h690 rfl (gg rfl) rfl <| fp h690 rfl (gg rfl) rfl fa81_0 <| ld 0 rfl (gg rfl) rfl sc79 rfl rfl <| mvg rfl rfl rfl <| bng rfl rfl rfl rfl run_add <| gr H fun g692 H => ?_
 have h693 : (w64 ((w64 ((w64 (2 * x673)) + 1)) + 1)).toNat < x674.fl.length := idx_lt g692
 refine Dv.ixw rfl (gg rfl) rfl (mem_at 1 rfl) rfl Tryz.underlying79 Tryz.underlying74 c74 g692.1 g692.2 <| Dv.ldws (j := ((w64 ((w64 ((w64 (2 * x673)) + 1)) + 1)).toNat)) (f := 0) rfl (gg rfl) rfl (mem_at 1 rfl) h693 Tryz.underlying74 rfl c74 (Nat.le_of_ble_eq_true rfl) <| mvg rfl rfl rfl <| Dv.nilpp h690 rfl (gg rfl) rfl <| fp h690 rfl (gg rfl) rfl fa81_0 <| ld 0 rfl (gg rfl) rfl sc79 rfl rfl <| mvg rfl rfl rfl <| gr H fun g694 H => ?_
 have h695 : (w64 ((w64 (2 * x673)) + 1)).toNat < x674.fl.length := idx_lt g694
 refine Dv.ixw rfl (gg rfl) rfl (mem_at 1 rfl) rfl Tryz.underlying79 Tryz.underlying74 c74 g694.1 g694.2 <| Dv.ldws (j := ((w64 ((w64 (2 * x673)) + 1)).toNat)) (f := 0) rfl (gg rfl) rfl (mem_at 1 rfl) h695 Tryz.underlying74 rfl c74 (Nat.le_of_ble_eq_true rfl) <| el H fun t696 h697 H => Dv.call rfl (gg rfl) cal81 rfl (heap_ahead.c h697) <| bng rfl rfl rfl rfl run_lt <| pt0 rfl rfl rfl <| .fin <| cd H rfl (fun _ H => ?_) (fun _ H => ?_)
 rotate_left
 ·
  refine WP.skip ?_
  replace H := Gets.out H
  refine ng (HHeap.shut (p := p0_) (m := x674) (g689.1, g689.2.1, g689.2.2) h690 (pm 4 [0,1,2,3])) fun _ _ => ?_
  refine ng (sg 2 [1,0] 0) fun _ _ => ?_
  exact jn (w64 ((w64 (2 * x673)) + 1), decide (t696 < 0)) H
 refine rg 3 0 <| mv0 rfl rfl <| bn0 rfl rfl rfl run_add <| as0 rfl rfl <| .fin ?_
 replace H := Gets.out H
 refine ng (HHeap.shut (p := p0_) (m := x674) (g689.1, g689.2.1, g689.2.2) h690 (pm 4 [0,1,2,3])) fun _ _ => ?_
 refine ng (sg 2 [1,0] 0) fun _ _ => ?_
 exact jn (w64 ((w64 ((w64 (2 * x673)) + 1)) + 1), decide (t696 < 0)) H
theorem heap_Heap_up.c {k : Nat} {a0 : HHeap} {a1 : Int} {p0_ : OV} {r : HHeap} (h : heap_Heap_up.f k a0 a1 = some r) : Tr Tryz.prog 61 [eq p0_.1, vI a1] [HHeap.O p0_ a0] (γ := Unit) (fun _ => True) (fun g => tup []) (fun g => [HHeap.O p0_ r]) := by
 unfold heap_Heap_up.f at h
 refine Tr.body Tryz.func61 (c := _) rfl Tryz.ntmps61 (Nat.le_of_ble_eq_true rfl) fun R0 F => ?_
 replace h := Gets.of h
 have H := h
 clear h
 refine WP.seq <| rg 9 384 <| mv0 rfl rfl <| Dv.nilA HHeap.nn rfl trivial rfl (mem_at 0 rfl) <| vg (HHeap.opn 0 rfl) fun g702 h703 => ?_
 refine fp h703 rfl trivial rfl fa81_0 <| ld 0 rfl trivial rfl sc79 rfl rfl <| mv0 rfl rfl <| gr H fun g704 H => ?_
 have h705 : a1.toNat < a0.fl.length := idx_lt g704
 refine Dv.ixw rfl trivial rfl (mem_at 1 rfl) rfl Tryz.underlying79 Tryz.underlying74 c74 g704.1 g704.2 <| Dv.ldws (j := a1.toNat) (f := 0) rfl trivial rfl (mem_at 1 rfl) h705 Tryz.underlying74 rfl c74 (Nat.le_of_ble_eq_true rfl) <| al rfl trivial zc74 nofun fun b706 => sx 0 rfl trivial rfl rfl cA sz74 rfl rfl rfl nofun ?_
 refine .fin <| WP.seqn H id (fun p707 : Int × Bool × HHeap => [(0, eq p0_.1), (1, vI p707.1), (4, eq (.pointer (some ⟨b706, 0, none⟩))), (27, vB p707.2.1)]) (fun p707 : Int × Bool × HHeap => [blk b706 74 (HEnt.enc (a0.fl.getD a1.toNat default)), HHeap.O p0_ p707.2.2] ++ F) (fun p707 H => ?_) (fun H => ?_)
 ·
  refine rg 4 8 <| mv0 rfl rfl <| mv0 rfl rfl <| lds 0 rfl trivial rfl sg74 rfl rfl <| el H fun t708 h709 H => cx 2 [1,0] cal59 (heap_Heap_set.c h709 (p0_ := p0_)) nofun fun _ _ => ?_
  refine .fin ?_
  obtain rfl := Gets.out H
  exact re rfl () 2 [1,0] 1 .nil
 refine WP.block <| wg (HHeap.shut (p := p0_) (m := a0) (g702.1, g702.2.1, g702.2.2) h703 (pm 4 [1,2,3,0])) fun _ _ => ?_
 refine wg (sg 2 [1,0] 0) fun _ _ => ?_
 refine lp (fun j_ (p726 : Int × HHeap) => heap_Heap_up.l0 k a0 a1 j_ p726.1 p726.2) (a1, a0) H (fun p726 => [(0, eq p0_.1), (1, vI p726.1), (4, eq (.pointer (some ⟨b706, 0, none⟩)))]) (fun p726 => [blk b706 74 (HEnt.enc (a0.fl.getD a1.toNat default)), HHeap.O p0_ p726.2] ++ F) ?_
 rintro j_ ⟨x710, x711⟩ H
 rcases j_ with _ | j725
 ·
  exact (Gets.no H).elim
 replace H : Gets (heap_Heap_up.l0 k a0 a1 (j725 + 1) x710 x711) _ := H
 rw [heap_Heap_up.l0] at H
 refine WP.seq <| WP.seq <| wg (HHeap.opn 1 rfl) fun g712 h713 => ?_
 refine dg Tryz.checked.mixed 16 0 <| mv0 rfl rfl <| bn0 rfl rfl rfl run_gt <| mv0 rfl rfl ?_
 cases c714 : decide (0 < x710)
 ·
  replace H := Gets.cf H c714
  refine sk rfl rfl <| sk rfl rfl <| sk rfl rfl <| sk rfl rfl <| sk rfl rfl <| sk rfl rfl <| sk rfl rfl <| sk rfl rfl <| sk rfl rfl <| sk rfl rfl <| sk rfl rfl <| sk rfl rfl <| pf0 rfl rfl rfl <| .fin <| WP.cond rfl nofun (fun _ => ?_)
  refine WP.exit ?_
  replace H := Gets.out H
  refine ng (HHeap.shut (p := p0_) (m := x711) (g712.1, g712.2.1, g712.2.2) h713 (pm 4 [0,1,2,3])) fun _ _ => ?_
  refine ng (sg 2 [1,0] 0) fun _ _ => ?_
  exact jn (x710, false, x711) H
 replace H := Gets.ct H c714
 refine lds 3 rfl (gg rfl) rfl sg74 rfl rfl <| mvg rfl rfl rfl <| Dv.nilpp h713 rfl (gg rfl) rfl <| fp h713 rfl (gg rfl) rfl fa81_0 <| ld 0 rfl (gg rfl) rfl sc79 rfl rfl <| mvg rfl rfl rfl <| bng rfl rfl rfl rfl run_sub <| bng rfl rfl rfl rfl (run_quo (by decide)) <| gr H fun g715 H => ?_
 have h716 : (w64 ((w64 (x710 - 1)).tdiv 2)).toNat < x711.fl.length := idx_lt g715
 refine Dv.ixw rfl (gg rfl) rfl (mem_at 1 rfl) rfl Tryz.underlying79 Tryz.underlying74 c74 g715.1 g715.2 <| Dv.ldws (j := ((w64 ((w64 (x710 - 1)).tdiv 2)).toNat)) (f := 0) rfl (gg rfl) rfl (mem_at 1 rfl) h716 Tryz.underlying74 rfl c74 (Nat.le_of_ble_eq_true rfl) <| el H fun t717 h718 H => Dv.call rfl (gg rfl) cal81 rfl (heap_ahead.c h718) <| bng rfl rfl rfl rfl run_lt <| pt0 rfl rfl rfl <| .fin <| cd H rfl (fun _ H => ?_) (fun _ H => ?_)
 rotate_left
 ·
  refine WP.exit ?_
  replace H := Gets.out H
  refine ng (HHeap.shut (p := p0_) (m := x711) (g712.1, g712.2.1, g712.2.2) h713 (pm 4 [0,1,2,3])) fun _ _ => ?_
  refine ng (sg 2 [1,0] 0) fun _ _ => ?_
  exact jn (x710, decide (t717 < 0), x711) H
 refine WP.skip <| WP.block <| WP.seq <| rg 12 2048 <| mv0 rfl rfl <| mv0 rfl rfl <| mv0 rfl rfl <| Dv.nilpp h713 rfl trivial rfl <| fp h713 rfl trivial rfl fa81_0 <| ld 0 rfl trivial rfl sc79 rfl rfl <| mv0 rfl rfl <| bn0 rfl rfl rfl run_sub <| bn0 rfl rfl rfl (run_quo (by decide)) <| gr H fun g720 H => ?_
 have h721 : (w64 ((w64 (x710 - 1)).tdiv 2)).toNat < x711.fl.length := idx_lt g720
 refine Dv.ixw rfl trivial rfl (mem_at 1 rfl) rfl Tryz.underlying79 Tryz.underlying74 c74 g720.1 g720.2 <| Dv.ldws (j := ((w64 ((w64 (x710 - 1)).tdiv 2)).toNat)) (f := 0) rfl trivial rfl (mem_at 1 rfl) h721 Tryz.underlying74 rfl c74 (Nat.le_of_ble_eq_true rfl) <| vg (HHeap.shut (p := p0_) (m := x711) (g712.1, g712.2.1, g712.2.2) h713 (pm 4 [0,1,2,3])) fun _ _ => ?_
 refine el H fun t722 h723 H => cx 2 [0,1] cal59 (heap_Heap_set.c h723 (p0_ := p0_)) nofun fun _ _ => ?_
 refine .fin <| rg 4 0 <| mv0 rfl rfl <| bn0 rfl rfl rfl run_sub <| bn0 rfl rfl rfl (run_quo (by decide)) <| as0 rfl rfl <| .fin <| ng (sg 2 [1,0] 0) fun _ _ => ?_
 exact bk j725 (w64 ((w64 (x710 - 1)).tdiv 2), t722) H
theorem heap_Heap_Drop.c {k : Nat} {a0 : HHeap} {a1 : ByteArray} {p0_ : OV} {r : Bool × HHeap} (h : heap_Heap_Drop.f k a0 a1 = some r) : Tr Tryz.prog 35 [eq p0_.1, vS a1] [HHeap.O p0_ a0] (γ := Unit) (fun _ => True) (fun g => vB r.1) (fun g => [HHeap.O p0_ r.2]) := by
 unfold heap_Heap_Drop.f at h
 refine Tr.body Tryz.func35 (c := _) rfl Tryz.ntmps35 (Nat.le_of_ble_eq_true rfl) fun R0 F => ?_
 replace h := Gets.of h
 have H := h
 clear h
 refine WP.seq <| rg 1 0 <| as0 rfl rfl <| .fin <| WP.seq <| rg 11 0 <| mv0 rfl rfl <| Dv.nilA HHeap.nn rfl trivial rfl (mem_at 0 rfl) <| vg (HHeap.opn 0 rfl) fun g727 h728 => ?_
 refine fp h728 rfl trivial rfl fa81_1 <| ld 0 rfl trivial rfl sc78 rfl rfl <| mv0 rfl rfl <| Dv.mlk 0 rfl trivial rfl (mem_at 2 rfl) rfl Tryz.underlying78 (keyOk_str Tryz.underlying9) z3 (fun _ => rfl) <| mv0 rfl rfl <| ex0 rfl trivial rfl rfl <| ex0 rfl trivial rfl rfl <| as0 rfl rfl <| as0 rfl rfl <| .fin <| WP.seq <| WP.seq <| rg 2 0 <| mv0 rfl rfl <| un0 rfl rfl (run_not _) <| .fin <| cd H rfl (fun _ H => ?_) (fun _ H => ?_)
 ·
  refine WP.seq <| rg 1 0 <| as0 rfl rfl <| .fin <| wg (HHeap.shut (p := p0_) (m := a0) (g727.1, g727.2.1, g727.2.2) h728 (pm 3 [0,1,2])) fun _ _ => ?_
  obtain rfl := Gets.out H
  exact rt i2 rfl () 1 [0] 0 (.cons (res_tmp rfl) .nil)
 refine WP.skip <| WP.seq <| rg 6 32 <| mv0 rfl rfl <| Dv.nilpp h728 rfl trivial rfl <| fp h728 rfl trivial rfl fa81_1 <| ld 0 rfl trivial rfl sc78 rfl rfl <| mv0 rfl rfl <| Dv.mdl (jj := 2) rfl trivial rfl rfl rfl Tryz.underlying78 (keyOk_str Tryz.underlying9) nofun <| .fin <| WP.seq <| rg 7 0 <| mv0 rfl rfl <| Dv.nilpp h728 rfl trivial rfl <| fp h728 rfl trivial rfl fa81_0 <| ld 0 rfl trivial rfl sc79 rfl rfl <| Dv.lenw rfl trivial rfl (mem_at 1 rfl) Tryz.underlying79 <| bn0 rfl rfl rfl run_sub <| as0 rfl rfl <| .fin <| WP.seq <| rg 9 384 <| mv0 rfl rfl <| Dv.nilpp h728 rfl trivial rfl <| fp h728 rfl trivial rfl fa81_0 <| ld 0 rfl trivial rfl sc79 rfl rfl <| mv0 rfl rfl <| gr H fun g730 H => ?_
 have h731 : (w64 ((a0.fl.length : Int) - 1)).toNat < a0.fl.length := idx_lt g730
 refine Dv.ixw rfl trivial rfl (mem_at 1 rfl) rfl Tryz.underlying79 Tryz.underlying74 c74 g730.1 g730.2 <| Dv.ldws (j := ((w64 ((a0.fl.length : Int) - 1)).toNat)) (f := 0) rfl trivial rfl (mem_at 1 rfl) h731 Tryz.underlying74 rfl c74 (Nat.le_of_ble_eq_true rfl) <| al rfl trivial zc74 nofun fun b732 => sx 0 rfl trivial rfl rfl cA sz74 rfl rfl rfl nofun ?_
 refine .fin <| WP.seq <| rg 10 576 <| mv0 rfl rfl <| mv0 rfl rfl <| Dv.nilpp h728 rfl trivial rfl <| fp h728 rfl trivial rfl fa81_0 <| ld 1 rfl trivial rfl sc79 rfl rfl <| mv0 rfl rfl <| gr H fun g733 H => Dv.slo (jj := 2) rfl trivial rfl rfl Tryz.underlying79 Tryz.underlying74 c74 bdE_none (bdE_some rfl g733.1) (.inl rfl) g733.2.1 g733.2.2 nofun (fun v734 => ?_)
 refine Dv.nilpp h728 rfl trivial rfl <| fp h728 rfl trivial rfl fa81_0 <| sx 1 rfl trivial rfl rfl (cells_one one_ov) sz79 rfl rfl rfl nofun ?_
 refine .fin <| WP.seq <| WP.seq <| rg 3 0 <| mv0 rfl rfl <| mv0 rfl rfl <| bn0 rfl rfl rfl run_lt <| .fin <| cd H rfl (fun _ H => ?_) (fun _ H => ?_)
 rotate_left
 ·
  refine WP.skip <| WP.seq <| rg 1 0 <| as0 rfl rfl <| .fin <| wg (HHeap.shut (p := p0_) (m := (⟨(a0.fl.take ((w64 ((a0.fl.length : Int) - 1)).toNat)).drop 0, mdel a0.fat a1⟩ : HHeap)) (g727.1, v734, g727.2.2) h728 (pm 4 [1,2,3,0])) fun _ _ => ?_
  obtain rfl := Gets.out H
  exact rt i2 rfl () 2 [1,0] 1 (.cons (res_tmp rfl) .nil)
 refine WP.seq <| rg 4 8 <| mv0 rfl rfl <| mv0 rfl rfl <| lds 0 rfl trivial rfl sg74 rfl rfl <| vg (HHeap.shut (p := p0_) (m := (⟨(a0.fl.take ((w64 ((a0.fl.length : Int) - 1)).toNat)).drop 0, mdel a0.fat a1⟩ : HHeap)) (g727.1, v734, g727.2.2) h728 (pm 4 [1,2,3,0])) fun _ _ => ?_
 refine el H fun t736 h737 H => cx 2 [0,1] cal59 (heap_Heap_set.c h737 (p0_ := p0_)) nofun fun _ _ => ?_
 refine .fin <| WP.seq <| rg 3 4 <| mv0 rfl rfl <| mv0 rfl rfl <| el H fun t738 h739 H => cx 2 [0,1] cal60 (heap_Heap_down.c h739 (p0_ := p0_)) nofun fun _ _ => ?_
 refine .fin <| wg (HHeap.opn 0 rfl) fun g740 h741 => ?_
 refine dg Tryz.checked.mixed 9 256 <| mv0 rfl rfl <| mv0 rfl rfl <| Dv.nilpp h741 rfl trivial rfl <| fp h741 rfl trivial rfl fa81_1 <| ld 0 rfl trivial rfl sc78 rfl rfl <| fb rfl trivial rfl fa74_1 <| ld 3 rfl trivial rfl sc9 rfl rfl <| Dv.mlv 0 rfl trivial rfl (mem_at 2 rfl) rfl Tryz.underlying78 (keyOk_str Tryz.underlying9) z3 (fun _ => rfl) <| el H fun t742 h743 H => cx 4 [0,1,2,3] cal61 (Tr.pre (pre' := [blk g740.1 81 [eq g740.2.1.1, eq g740.2.2.1], own HEnt.K g740.2.1.1 t738.fl, mp Value.string (fun x : Int => vI x) g740.2.2.1 t738.fat]) (heap_Heap_up.c h743 (p0_ := p0_)) (fun F R w => HHeap.shut (p := p0_) (m := t738) (r := F) (g740.1, g740.2.1, g740.2.2) h741 (List.Perm.refl _) R w)) pC fun _ _ => ?_
 refine .fin <| WP.seq <| rg 1 0 <| as0 rfl rfl <| .fin ?_
 obtain rfl := Gets.out H
 exact rt i2 rfl () 2 [1,0] 1 (.cons (res_tmp rfl) .nil)
theorem presence_state.c {a0 : Edu} {a1 : Int} {r : Int} (h : presence_state.f a0 a1 = some r) : Pt Tryz.prog 38 [agg (Edu.enc a0), vI a1] (vI r) := by
 unfold presence_state.f at h
 refine (Tr.body Tryz.func38 (c := _) rfl Tryz.ntmps38 (Nat.le_of_ble_eq_true rfl) fun R0 F => ?_).pt
 replace h := Gets.of h
 have H := h
 clear h
 refine WP.seq <| rg 2 1 <| Dv.box rfl trivial rfl cA nofun fun b744 => as0 rfl rfl <| .fin <| WP.seq <| WP.seq <| rg 2 0 <| fb rfl trivial rfl fa32_8 <| ld 0 rfl trivial rfl sc3 rfl rfl <| .fin <| WP.block <| WP.seq <| WP.block <| WP.seq <| WP.block <| WP.seq <| WP.seq <| WP.seq <| rg 2 0 <| bn0 rfl rfl rfl run_eq <| as0 rfl rfl <| .fin <| cd H rfl (fun _ H => ?_) (fun _ H => ?_)
 rotate_left
 ·
  refine WP.skip <| WP.seq <| rg 2 0 <| bn0 rfl rfl rfl run_eq <| as0 rfl rfl <| .fin <| cd H rfl (fun _ H => ?_) (fun _ H => ?_)
  rotate_left
  ·
   refine WP.skip <| WP.exit <| WP.seq <| rg 1 0 <| as0 rfl rfl <| .fin ?_
   obtain rfl := Gets.out H
   exact rt i2 rfl () 1 [0] 1 (.cons (res_tmp rfl) .nil)
  refine WP.exit <| WP.seq <| WP.seq <| rg 5 0 <| mv0 rfl rfl <| fb rfl trivial rfl fa32_9 <| ld 0 rfl trivial rfl sc3 rfl rfl <| bn0 rfl rfl rfl run_add <| bn0 rfl rfl rfl run_lt <| .fin <| cd H rfl (fun _ H => ?_) (fun _ H => ?_)
  ·
   refine WP.seq <| rg 1 0 <| as0 rfl rfl <| .fin ?_
   obtain rfl := Gets.out H
   exact rt i2 rfl () 1 [0] 1 (.cons (res_tmp rfl) .nil)
  refine WP.skip <| WP.exit <| WP.seq <| rg 1 0 <| as0 rfl rfl <| .fin ?_
  obtain rfl := Gets.out H
  exact rt i2 rfl () 1 [0] 1 (.cons (res_tmp rfl) .nil)
 refine WP.exit <| WP.seq <| rg 5 0 <| mv0 rfl rfl <| fb rfl trivial rfl fa32_9 <| ld 0 rfl trivial rfl sc3 rfl rfl <| bn0 rfl rfl rfl run_add <| bn0 rfl rfl rfl run_lt <| .fin <| cd H rfl (fun _ H => ?_) (fun _ H => ?_)
 ·
  refine WP.seq <| rg 1 0 <| as0 rfl rfl <| .fin ?_
  obtain rfl := Gets.out H
  exact rt i2 rfl () 1 [0] 1 (.cons (res_tmp rfl) .nil)
 refine WP.skip <| WP.seq <| WP.seq <| rg 5 0 <| mv0 rfl rfl <| fb rfl trivial rfl fa32_9 <| ld 0 rfl trivial rfl sc3 rfl rfl <| bn0 rfl rfl rfl run_add <| bn0 rfl rfl rfl run_lt <| .fin <| cd H rfl (fun _ H => ?_) (fun _ H => ?_)
 ·
  refine WP.seq <| rg 1 0 <| as0 rfl rfl <| .fin ?_
  obtain rfl := Gets.out H
  exact rt i2 rfl () 1 [0] 1 (.cons (res_tmp rfl) .nil)
 refine WP.skip <| WP.exit <| WP.seq <| rg 1 0 <| as0 rfl rfl <| .fin ?_
 obtain rfl := Gets.out H
 exact rt i2 rfl () 1 [0] 1 (.cons (res_tmp rfl) .nil)
theorem presence_turn.c {k : Nat} {a0 : Edu} {a1 : Int} {r : Int × Bool} (h : presence_turn.f k a0 a1 = some r) : Pt Tryz.prog 36 [agg (Edu.enc a0), vI a1] (tup [vI r.1, vB r.2]) := by
 unfold presence_turn.f at h
 refine (Tr.body Tryz.func36 (c := _) rfl Tryz.ntmps36 (Nat.le_of_ble_eq_true rfl) fun R0 F => ?_).pt
 replace h := Gets.of h
 have H := h
 clear h
 refine WP.seq <| rg 3 1 <| Dv.box rfl trivial rfl cA nofun fun b750 => as0 rfl rfl <| as0 rfl rfl <| .fin <| WP.seqr H id (fun p751 : Int × Bool => [(0, agg (Edu.enc a0)), (1, vI a1), (2, eq (.pointer (some ⟨b750, 0, none⟩))), (4, vI 0), (5, vB false), (9, agg [vI 30, vI 90]), (10, vI p751.1), (11, vB p751.2)]) (fun p751 : Int × Bool => [blk b750 32 (Edu.enc a0)] ++ F) (fun p751 H => ?_) (fun H => ?_)
 ·
  refine WP.seq <| rg 2 0 <| as0 rfl rfl <| as0 rfl rfl <| .fin ?_
  obtain rfl := Gets.out H
  exact rt i2 rfl () 1 [0] 1 (.cons (res_tmp rfl) (.cons (res_tmp rfl) .nil))
 refine WP.seq <| rg 2 0 <| Dv.blda (qs := [vI 30, vI 90]) (css := [[vI 30], [vI 90]]) rfl trivial Tryz.underlying93 Tryz.underlying3 c3 z93 rfl ⟨(cells_one (one_eq rfl)), ⟨(cells_one (one_eq rfl)), trivial⟩⟩ rfl rfl <| mv0 rfl rfl <| .fin <| WP.block <| wg (sg 1 [0] 0) fun _ _ => ?_
 refine lp (fun j_ (p763 : Int) => presence_turn.l0 k a0 a1 j_ p763) 0 H (fun p763 => [(0, agg (Edu.enc a0)), (1, vI a1), (2, eq (.pointer (some ⟨b750, 0, none⟩))), (4, vI 0), (5, vB false), (9, agg [vI 30, vI 90]), (10, vI p763)]) (fun p763 => [blk b750 32 (Edu.enc a0)] ++ F) ?_
 rintro j_ x752 H
 rcases j_ with _ | j762
 ·
  exact (Gets.no H).elim
 replace H : Gets (presence_turn.l0 k a0 a1 (j762 + 1) x752) _ := H
 rw [presence_turn.l0] at H
 refine WP.seq <| rg 1 0 <| bn0 rfl rfl rfl run_lt <| .fin <| WP.seq <| cd H rfl (fun _ H => ?_) (fun _ H => ?_)
 rotate_left
 ·
  refine WP.exit ?_
  replace H := Gets.out H
  exact jn (x752, decide (x752 < 2)) H
 refine WP.skip <| WP.seq <| WP.block <| WP.seq <| rg 2 0 <| gr H fun g754 H => Dv.ixa (Kd := (intK .i64)) (xs := ([30, 90] : List Int)) rfl trivial rfl rfl rfl Tryz.underlying93 Tryz.underlying3 rfl c3 rfl rfl g754.1 g754.2 rfl <| as0 rfl rfl <| .fin <| WP.seq <| rg 5 0 <| fb rfl trivial rfl fa32_9 <| ld 0 rfl trivial rfl sc3 rfl rfl <| mv0 rfl rfl <| bn0 rfl rfl rfl run_add <| as0 rfl rfl <| .fin <| WP.seq <| dg Tryz.checked.mixed 13 0 <| mv0 rfl rfl <| mv0 rfl rfl <| bn0 rfl rfl rfl run_gt <| mv0 rfl rfl ?_
 cases c755 : decide (a1 < (w64 (a0.fTick + ((intK .i64).at ([30, 90] : List Int) x752))))
 ·
  replace H := Gets.cf H c755
  refine sk rfl rfl <| sk rfl rfl <| sk rfl rfl <| sk rfl rfl <| sk rfl rfl <| sk rfl rfl <| sk rfl rfl <| sk rfl rfl <| pf0 rfl rfl rfl <| .fin <| WP.cond rfl nofun (fun _ => ?_)
  exact WP.skip <| rg 2 0 <| bn0 rfl rfl rfl run_add <| mv0 rfl rfl <| .fin <| bk j762 (w64 (x752 + 1)) H
 replace H := Gets.ct H c755
 refine lds 0 rfl (gg rfl) rfl sg32 rfl rfl <| mvg rfl rfl rfl <| bng rfl rfl rfl rfl run_sub <| el H fun t756 h757 H => Dv.call rfl (gg rfl) cal38 rfl (presence_state.c h757) <| lds 0 rfl (gg rfl) rfl sg32 rfl rfl <| mvg rfl rfl rfl <| el H fun t758 h759 H => Dv.call rfl (gg rfl) cal38 rfl (presence_state.c h759) <| bng rfl rfl rfl rfl run_gt <| pt0 rfl rfl rfl <| .fin <| cd H rfl (fun _ H => ?_) (fun _ H => ?_)
 rotate_left
 ·
  exact WP.skip <| rg 2 0 <| bn0 rfl rfl rfl run_add <| mv0 rfl rfl <| .fin <| bk j762 (w64 (x752 + 1)) H
 refine WP.seq <| rg 3 0 <| mv0 rfl rfl <| as0 rfl rfl <| as0 rfl rfl <| .fin ?_
 replace H := Gets.outr H
 obtain rfl := Gets.out H
 exact rt i2 rfl () 1 [0] 1 (.cons (res_tmp rfl) (.cons (res_tmp rfl) .nil))
theorem heap_Heap_Put.c {k : Nat} {a0 : HHeap} {a1 : Int} {a2 : ByteArray} {p0_ : OV} {r : HHeap} (h : heap_Heap_Put.f k a0 a1 a2 = some r) : Tr Tryz.prog 37 [eq p0_.1, vI a1, vS a2] [HHeap.O p0_ a0] (γ := Unit) (fun _ => True) (fun g => tup []) (fun g => [HHeap.O p0_ r]) := by
 unfold heap_Heap_Put.f at h
 refine Tr.body Tryz.func37 (c := _) rfl Tryz.ntmps37 (Nat.le_of_ble_eq_true rfl) fun R0 F => ?_
 replace h := Gets.of h
 have H := h
 clear h
 refine WP.seq <| rg 3 4 <| mv0 rfl rfl <| mv0 rfl rfl <| el H fun t764 h765 H => cx 1 [0] cal35 (heap_Heap_Drop.c h765 (p0_ := p0_)) nofun fun _ _ => ?_
 refine .fin <| WP.seq <| rg 13 4608 <| mv0 rfl rfl <| mv0 rfl rfl <| Dv.nilA HHeap.nn rfl trivial rfl (mem_at 0 rfl) <| vg (HHeap.opn 0 rfl) fun g766 h767 => ?_
 refine fp h767 rfl trivial rfl fa81_0 <| ld 0 rfl trivial rfl sc79 rfl rfl <| mv0 rfl rfl <| mv0 rfl rfl <| Dv.bld (css := [[vI a1], [vS a2]]) rfl trivial Tryz.underlying74 pl74 z74 rfl ⟨(cells_one (one_eq rfl)), ⟨(cells_one (one_eq rfl)), trivial⟩⟩ rfl rfl <| Dv.lit HEnt.K ([(⟨a1, a2⟩ : HEnt)] : List HEnt) (css := [[vI a1, vS a2]]) rfl trivial Tryz.underlying79 Tryz.underlying74 c74 z74 rfl (by decide) (by decide) rfl ⟨(cells_agg (ones_cons (one_eq rfl) (ones_cons (one_eq rfl) ones_nil))), trivial⟩ rfl rfl rfl <| gr H fun g768 H => ap HEnt.K 1 ([(⟨a1, a2⟩ : HEnt)] : List HEnt) src_sl Tryz.underlying79 (.inr ⟨_, Tryz.underlying79⟩) inf74 g768 nofun fun v769 => ?_
 refine Dv.nilpp h767 rfl trivial rfl <| fp h767 rfl trivial rfl fa81_0 <| sx 0 rfl trivial rfl rfl (cells_one one_ov) sz79 rfl rfl rfl nofun ?_
 refine .fin <| rg 8 128 <| mv0 rfl rfl <| mv0 rfl rfl <| Dv.nilpp h767 rfl trivial rfl <| fp h767 rfl trivial rfl fa81_0 <| ld 0 rfl trivial rfl sc79 rfl rfl <| Dv.lenw rfl trivial rfl (mem_at 1 rfl) Tryz.underlying79 <| bn0 rfl rfl rfl run_sub <| vg (HHeap.shut (p := p0_) (m := (⟨t764.2.fl ++ ([(⟨a1, a2⟩ : HEnt)] : List HEnt), t764.2.fat⟩ : HHeap)) (g766.1, v769, g766.2.2) h767 (pm 3 [0,1,2])) fun _ _ => ?_
 refine el H fun t770 h771 H => cx 1 [0] cal61 (heap_Heap_up.c h771 (p0_ := p0_)) nofun fun _ _ => ?_
 refine .fin ?_
 obtain rfl := Gets.out H
 exact re rfl () 1 [0] 0 .nil
theorem presence_Table_Put.c {k : Nat} {a0 : PTab} {a1 : Edu} {p0_ : OV} {r : Bool × Int × PTab} (h : presence_Table_Put.f k a0 a1 = some r) : Tr Tryz.prog 10 [eq p0_.1, agg (Edu.enc a1)] [PTab.O p0_ a0] (γ := Unit) (fun _ => True) (fun g => tup [vB r.1, vI r.2.1]) (fun g => [PTab.O p0_ r.2.2]) := by
 unfold presence_Table_Put.f at h
 refine Tr.body Tryz.func10 (c := _) rfl Tryz.ntmps10 (Nat.le_of_ble_eq_true rfl) fun R0 F => ?_
 replace h := Gets.of h
 have H := h
 clear h
 refine WP.seq <| rg 3 1 <| Dv.box rfl trivial rfl cA nofun fun b772 => as0 rfl rfl <| as0 rfl rfl <| .fin <| WP.seq <| WP.seq <| rg 8 0 <| fb rfl trivial rfl fa32_0 <| ld 0 rfl trivial rfl sc3 rfl rfl <| bn0 rfl rfl rfl run_ne <| mv0 rfl rfl ?_
 cases c773 : (a1.fKind != 3)
 rotate_left
 ·
  replace H := Gets.ct H c773
  refine sk rfl rfl <| sk rfl rfl <| sk rfl rfl <| pt0 rfl rfl rfl <| .fin <| WP.cond rfl (fun _ => ?_) nofun
  refine WP.seq <| rg 2 0 <| as0 rfl rfl <| as0 rfl rfl <| .fin ?_
  obtain rfl := Gets.out H
  exact rt i2 rfl () 2 [0,1] 1 (.cons (res_tmp rfl) (.cons (res_tmp rfl) .nil))
 replace H := Gets.cf H c773
 refine lds 0 rfl (gg rfl) rfl sg32 rfl rfl <| el H fun t775 h776 H => Dv.call rfl (gg rfl) cal31 rfl (edu_May.c h776) <| ung rfl rfl rfl (run_not _) <| pf0 rfl rfl rfl <| .fin <| cd H rfl (fun _ H => ?_) (fun _ H => ?_)
 ·
  refine WP.seq <| rg 2 0 <| as0 rfl rfl <| as0 rfl rfl <| .fin ?_
  obtain rfl := Gets.out H
  exact rt i2 rfl () 2 [0,1] 1 (.cons (res_tmp rfl) (.cons (res_tmp rfl) .nil))
 refine WP.skip <| WP.seq <| rg 9 0 <| mv0 rfl rfl <| fb rfl trivial rfl fa32_2 <| ld 0 rfl trivial rfl sc9 rfl rfl <| vg (PTab.opn 1 rfl) fun g778 h779 => ?_
 refine el H fun t780 h781 H => cll 4 [0,1,2,3] cal32 (Tr.weak (presence_Table_place.c h781 (b0_ := g778.1) (v0_0 := g778.2.1) (v0_1 := g778.2.2)) (.cons (wk_ptr h779) (.cons wk_id .nil))) ?_
 refine mv0 rfl rfl <| ex0 rfl trivial rfl rfl <| ex0 rfl trivial rfl rfl <| as0 rfl rfl <| as0 rfl rfl <| .fin <| WP.seqr H id (fun p782 : Bool × Bool × Bool × PTab => [(0, eq p0_.1), (1, agg (Edu.enc a1)), (3, eq (.pointer (some ⟨b772, 0, none⟩))), (4, vB false), (5, vI 0), (6, vI t780.1), (7, vB p782.1), (17, vB (!t775)), (36, vB p782.2.1), (50, vB p782.2.2.1)]) (fun p782 : Bool × Bool × Bool × PTab => [blk b772 32 (Edu.enc a1), PTab.O p0_ p782.2.2.2] ++ F) (fun p782 H => ?_) (fun H => ?_)
 ·
  refine WP.seq <| wg (PTab.opn 1 rfl) fun g783 h784 => ?_
  refine dg Tryz.checked.mixed 7 64 <| mv0 rfl rfl <| Dv.nilpp h784 rfl trivial rfl <| fp h784 rfl trivial rfl fa61_1 <| ld 0 rfl trivial rfl sc58 rfl rfl <| fb rfl trivial rfl fa32_2 <| ld 3 rfl trivial rfl sc9 rfl rfl <| el H fun t785 h786 H => cx 4 [2,0,1,3] cal35 (heap_Heap_Drop.c h786 (p0_ := g783.2.2)) pC fun _ _ => ?_
  refine .fin <| WP.seq <| WP.seq <| rg 7 0 <| lds 3 rfl trivial rfl sg32 rfl rfl <| el H fun t787 h788 H => cl rfl cal36 rfl (presence_turn.c h788) <| mv0 rfl rfl <| ex0 rfl trivial rfl rfl <| ex0 rfl trivial rfl rfl <| as0 rfl rfl <| as0 rfl rfl <| .fin <| WP.seq <| rg 1 0 <| mv0 rfl rfl <| .fin <| cd H rfl (fun _ H => ?_) (fun _ H => ?_)
  rotate_left
  ·
   refine WP.skip <| WP.seq <| rg 2 0 <| as0 rfl rfl <| as0 rfl rfl <| .fin <| wg (PTab.shut (p := p0_) (m := (⟨p782.2.2.2.fl, t785.2⟩ : PTab)) (g783.1, g783.2.1, g783.2.2) h784 (pm 4 [1,2,0,3])) fun _ _ => ?_
   obtain rfl := Gets.out H
   exact rt i2 rfl () 2 [1,0] 1 (.cons (res_tmp rfl) (.cons (res_tmp rfl) .nil))
  refine dg Tryz.checked.mixed 8 128 <| mv0 rfl rfl <| Dv.nilpp h784 rfl trivial rfl <| fp h784 rfl trivial rfl fa61_1 <| ld 1 rfl trivial rfl sc58 rfl rfl <| mv0 rfl rfl <| fb rfl trivial rfl fa32_2 <| ld 3 rfl trivial rfl sc9 rfl rfl <| el H fun t790 h791 H => cx 4 [0,1,2,3] cal37 (heap_Heap_Put.c h791 (p0_ := g783.2.2)) pC fun _ _ => ?_
  refine .fin <| WP.seq <| rg 2 0 <| as0 rfl rfl <| as0 rfl rfl <| .fin <| wg (PTab.shut (p := p0_) (m := (⟨p782.2.2.2.fl, t790⟩ : PTab)) (g783.1, g783.2.1, g783.2.2) h784 (pm 4 [1,2,0,3])) fun _ _ => ?_
  obtain rfl := Gets.out H
  exact rt i2 rfl () 2 [1,0] 1 (.cons (res_tmp rfl) (.cons (res_tmp rfl) .nil))
 refine WP.block <| WP.seq <| dg Tryz.checked.mixed 14 0 <| mv0 rfl rfl <| mv0 rfl rfl ?_
 cases c792 : t780.2
 ·
  replace H := Gets.cf H c792
  refine sk rfl rfl <| sk rfl rfl <| sk rfl rfl <| sk rfl rfl <| sk rfl rfl <| sk rfl rfl <| sk rfl rfl <| sk rfl rfl <| sk rfl rfl <| sk rfl rfl <| pf0 rfl rfl rfl <| as0 rfl rfl <| .fin <| WP.cond rfl nofun (fun _ => ?_)
  refine WP.seq <| rg 2 0 <| mv0 rfl rfl <| as0 rfl rfl <| .fin <| WP.cond rfl nofun (fun _ => ?_)
  refine dg Tryz.checked.mixed 12 2304 <| mv0 rfl rfl <| mv0 rfl rfl <| Dv.nilpp h779 rfl trivial rfl <| fp h779 rfl trivial rfl fa61_0 <| ld 0 rfl trivial rfl sc22 rfl rfl <| mv0 rfl rfl <| lds 3 rfl trivial rfl sg32 rfl rfl <| Dv.lit Edu.K ([a1] : List Edu) (css := [Edu.enc a1]) rfl trivial Tryz.underlying22 Tryz.underlying32 c32 z32 rfl (by decide) (by decide) rfl ⟨(cells_agg (Edu.K.one _)), trivial⟩ rfl rfl rfl <| el H fun t803 h804 H => Dv.callx (pre := [own Edu.K g778.2.1.1 a0.fl]) (F := [blk g778.1 61 [eq g778.2.1.1, eq g778.2.2.1], HHeap.O g778.2.2 a0.fturns, blk b772 32 (Edu.enc a1)] ++ F) (fun g805 : OV => [own Edu.K g805.1 t803, blk g778.1 61 [eq g778.2.1.1, eq g778.2.2.1], HHeap.O g778.2.2 a0.fturns, blk b772 32 (Edu.enc a1)] ++ F) rfl trivial cal34 rfl (slices_Insert_Edu.c h804 (p0_ := g778.2.1)) (perm_to (L := [blk g778.1 61 [eq g778.2.1.1, eq g778.2.2.1], own Edu.K g778.2.1.1 a0.fl, HHeap.O g778.2.2 a0.fturns, blk b772 32 (Edu.enc a1)]) (F := F) [1, 0, 2, 3] rfl rfl rfl) rfl (fun _ => pendc (pend_by (by kernel_rfl) (pend_by (by kernel_rfl) (pend_by (by kernel_rfl) (pend_by (by kernel_rfl) (pend_by (by kernel_rfl) (pend_by (by kernel_rfl) (pend_by (by kernel_rfl) (pend_in (fun _ => trivial) pend_nil))))))))) (fun g805 _ => ?_)
  refine Dv.nilpp h779 rfl trivial rfl <| fp h779 rfl trivial rfl fa61_0 <| sx 1 rfl trivial rfl rfl (cells_one one_ov) sz22 rfl rfl rfl pB ?_
  refine .fin ?_
  replace H := Gets.out H
  refine ng (PTab.shut (p := p0_) (m := (⟨t803, a0.fturns⟩ : PTab)) (g778.1, g805, g778.2.2) h779 (pm 4 [1,0,2,3])) fun _ _ => ?_
  refine ng (sg 2 [1,0] 0) fun _ _ => ?_
  exact jn (false, false, false, (⟨t803, a0.fturns⟩ : PTab)) H
 replace H := Gets.ct H c792
 refine lds 3 rfl (gg rfl) rfl sg32 rfl rfl <| mvg rfl rfl rfl <| Dv.nilpp h779 rfl (gg rfl) rfl <| fp h779 rfl (gg rfl) rfl fa61_0 <| ld 0 rfl (gg rfl) rfl sc22 rfl rfl <| mvg rfl rfl rfl <| gr H fun g793 H => ?_
 have h794 : t780.1.toNat < a0.fl.length := idx_lt g793
 refine Dv.ixw rfl (gg rfl) rfl (mem_at 1 rfl) rfl Tryz.underlying22 Tryz.underlying32 c32 g793.1 g793.2 <| Dv.ldws (j := t780.1.toNat) (f := 0) rfl (gg rfl) rfl (mem_at 1 rfl) h794 Tryz.underlying32 rfl c32 (Nat.le_of_ble_eq_true rfl) <| el H fun t795 h796 H => Dv.call rfl (gg rfl) cal33 rfl (edu_Later.c h796) <| ung rfl rfl rfl (run_not _) <| pt0 rfl rfl rfl <| as0 rfl rfl <| .fin <| cd H rfl (fun _ H => ?_) (fun _ H => ?_)
 ·
  refine WP.seq <| rg 2 0 <| as0 rfl rfl <| as0 rfl rfl <| .fin <| wg (PTab.shut (p := p0_) (m := a0) (g778.1, g778.2.1, g778.2.2) h779 (pm 4 [0,1,2,3])) fun _ _ => ?_
  replace H := Gets.outr H
  obtain rfl := Gets.out H
  exact rt i2 rfl () 2 [1,0] 1 (.cons (res_tmp rfl) (.cons (res_tmp rfl) .nil))
 refine WP.seq <| rg 2 0 <| mv0 rfl rfl <| as0 rfl rfl <| .fin <| WP.cond rfl (fun _ => ?_) nofun
 refine dg Tryz.checked.mixed 8 128 <| mv0 rfl rfl <| Dv.nilpp h779 rfl trivial rfl <| fp h779 rfl trivial rfl fa61_0 <| ld 0 rfl trivial rfl sc22 rfl rfl <| mv0 rfl rfl <| lds 3 rfl trivial rfl sg32 rfl rfl <| gr H fun g799 H => ?_
 have h800 : t780.1.toNat < a0.fl.length := idx_lt g799
 refine Dv.ixw rfl trivial rfl (mem_at 1 rfl) rfl Tryz.underlying22 Tryz.underlying32 c32 g799.1 g799.2 <| Dv.stw (j := t780.1.toNat) (f := 0) (jj := 1) a1 rfl trivial rfl rfl (cells_agg (Edu.K.one _)) Tryz.underlying32 c32 rfl rfl h800 (Nat.le_of_ble_eq_true rfl) rfl (fun _ => pend_bits (by kernel_rfl)) <| .fin ?_
 replace H := Gets.out H
 refine ng (PTab.shut (p := p0_) (m := (⟨a0.fl.set t780.1.toNat a1, a0.fturns⟩ : PTab)) (g778.1, g778.2.1, g778.2.2) h779 (pm 4 [0,1,2,3])) fun _ _ => ?_
 refine ng (sg 2 [1,0] 0) fun _ _ => ?_
 exact jn (true, !t795, true, (⟨a0.fl.set t780.1.toNat a1, a0.fturns⟩ : PTab)) H
theorem concourseref01_SameTexts.c {k : Nat} {a0 : List ByteArray} {a1 : List ByteArray} {r : Bool} (h : concourseref01_SameTexts.f k a0 a1 = some r) : Pt Tryz.prog 13 [sl strK a0, sl strK a1] (vB r) := by
 unfold concourseref01_SameTexts.f at h
 refine (Tr.body Tryz.func13 (c := _) rfl Tryz.ntmps13 (Nat.le_of_ble_eq_true rfl) fun R0 F => ?_).pt
 replace h := Gets.of h
 have H := h
 clear h
 refine WP.seq <| rg 1 0 <| as0 rfl rfl <| .fin <| WP.seq <| WP.seq <| rg 5 0 <| mv0 rfl rfl <| Dv.lenl rfl trivial rfl Tryz.underlying39 <| mv0 rfl rfl <| Dv.lenl rfl trivial rfl Tryz.underlying39 <| bn0 rfl rfl rfl run_ne <| .fin <| cd H rfl (fun _ H => ?_) (fun _ H => ?_)
 ·
  refine WP.seq <| rg 1 0 <| as0 rfl rfl <| .fin ?_
  obtain rfl := Gets.out H
  exact rt i2 rfl () 0 [] 0 (.cons (res_tmp rfl) .nil)
 refine WP.skip <| WP.seqr H id (fun p807 : Int × Bool => [(0, sl strK a0), (1, sl strK a1), (4, vB false), (5, vI p807.1), (10, vB ((a0.length : Int) != (a1.length : Int))), (14, vB p807.2)]) (fun p807 : Int × Bool => F) (fun p807 H => ?_) (fun H => ?_)
 ·
  refine WP.seq <| rg 1 0 <| as0 rfl rfl <| .fin ?_
  obtain rfl := Gets.out H
  exact rt i2 rfl () 0 [] 0 (.cons (res_tmp rfl) .nil)
 refine WP.seq <| rg 1 0 <| as0 rfl rfl <| .fin <| WP.block <| wg (sg 0 [] 0) fun _ _ => ?_
 refine lp (fun j_ (p814 : Int) => concourseref01_SameTexts.l0 k a0 a1 j_ p814) 0 H (fun p814 => [(0, sl strK a0), (1, sl strK a1), (4, vB false), (5, vI p814), (10, vB ((a0.length : Int) != (a1.length : Int)))]) (fun p814 => F) ?_
 rintro j_ x808 H
 rcases j_ with _ | j813
 ·
  exact (Gets.no H).elim
 replace H : Gets (concourseref01_SameTexts.l0 k a0 a1 (j813 + 1) x808) _ := H
 rw [concourseref01_SameTexts.l0] at H
 refine WP.seq <| WP.seq <| rg 4 0 <| mv0 rfl rfl <| mv0 rfl rfl <| Dv.lenl rfl trivial rfl Tryz.underlying39 <| bn0 rfl rfl rfl run_lt <| .fin <| cd H rfl (fun _ H => ?_) (fun _ H => ?_)
 rotate_left
 ·
  refine WP.exit ?_
  replace H := Gets.out H
  exact jn (x808, decide (x808 < (a0.length : Int))) H
 refine WP.skip <| WP.seq <| WP.block <| WP.seq <| dg Tryz.checked.mixed 9 0 <| mv0 rfl rfl <| mv0 rfl rfl <| gr H fun g810 H => Dv.ixr rfl trivial rfl rfl Tryz.underlying39 Tryz.underlying9 c9 g810.1 g810.2 <| ldR rfl trivial rfl sc9 rfl <| mv0 rfl rfl <| mv0 rfl rfl <| gr H fun g811 H => Dv.ixr rfl trivial rfl rfl Tryz.underlying39 Tryz.underlying9 c9 g811.1 g811.2 <| ldR rfl trivial rfl sc9 rfl <| bn0 rfl rfl rfl run_sne <| .fin <| cd H rfl (fun _ H => ?_) (fun _ H => ?_)
 rotate_left
 ·
  exact WP.skip <| rg 3 0 <| mv0 rfl rfl <| bn0 rfl rfl rfl run_add <| as0 rfl rfl <| .fin <| bk j813 (w64 (x808 + 1)) H
 refine WP.seq <| rg 1 0 <| as0 rfl rfl <| .fin ?_
 replace H := Gets.outr H
 obtain rfl := Gets.out H
 exact rt i2 rfl () 0 [] 0 (.cons (res_tmp rfl) .nil)
theorem presence_Table_State.c {k : Nat} {a0 : PTab} {a1 : ByteArray} {a2 : Int} {v0_0 v0_1 : OV} {b0_ : Nat} {r : Int} (h : presence_Table_State.f k a0 a1 a2 = some r) : Tr Tryz.prog 16 [eq (.pointer (some ⟨b0_, 0, none⟩)), vS a1, vI a2] [blk b0_ 61 [eq v0_0.1, eq v0_1.1], own Edu.K v0_0.1 a0.fl] (γ := Unit) (fun _ => True) (fun g => vI r) (fun g => [blk b0_ 61 [eq v0_0.1, eq v0_1.1], own Edu.K v0_0.1 a0.fl]) := by
 unfold presence_Table_State.f at h
 refine Tr.body Tryz.func16 (c := _) rfl Tryz.ntmps16 (Nat.le_of_ble_eq_true rfl) fun R0 F => ?_
 replace h := Gets.of h
 have H := h
 clear h
 refine WP.seq <| rg 1 0 <| as0 rfl rfl <| .fin <| WP.seq <| rg 8 0 <| mv0 rfl rfl <| mv0 rfl rfl <| el H fun t815 h816 H => cll 2 [0,1] cal32 (presence_Table_place.c h816 (b0_ := b0_) (v0_0 := v0_0) (v0_1 := v0_1)) ?_
 refine mv0 rfl rfl <| ex0 rfl trivial rfl rfl <| ex0 rfl trivial rfl rfl <| as0 rfl rfl <| as0 rfl rfl <| .fin <| WP.seq <| WP.seq <| rg 2 0 <| mv0 rfl rfl <| un0 rfl rfl (run_not _) <| .fin <| cd H rfl (fun _ H => ?_) (fun _ H => ?_)
 ·
  refine WP.seq <| rg 1 0 <| as0 rfl rfl <| .fin ?_
  obtain rfl := Gets.out H
  exact rt i2 rfl () 2 [0,1] 0 (.cons (res_tmp rfl) .nil)
 refine WP.skip <| WP.seq <| rg 10 0 <| mv0 rfl rfl <| Dv.nilp rfl trivial rfl <| fb rfl trivial rfl fa61_0 <| ld 0 rfl trivial rfl sc22 rfl rfl <| mv0 rfl rfl <| gr H fun g818 H => ?_
 have h819 : t815.1.toNat < a0.fl.length := idx_lt g818
 refine Dv.ixw rfl trivial rfl (mem_at 1 rfl) rfl Tryz.underlying22 Tryz.underlying32 c32 g818.1 g818.2 <| Dv.ldws (j := t815.1.toNat) (f := 0) rfl trivial rfl (mem_at 1 rfl) h819 Tryz.underlying32 rfl c32 (Nat.le_of_ble_eq_true rfl) <| mv0 rfl rfl <| el H fun t820 h821 H => cl rfl cal38 rfl (presence_state.c h821) <| as0 rfl rfl <| .fin ?_
 obtain rfl := Gets.out H
 exact rt i2 rfl () 2 [0,1] 0 (.cons (res_tmp rfl) .nil)
theorem concourselaw15_lives.c {k : Nat} {r : Bool} (h : concourselaw15_lives.f k = some r) : Pt Tryz.prog 19 [] (vB r) := by
 unfold concourselaw15_lives.f at h
 refine (Tr.body Tryz.func19 (c := _) rfl Tryz.ntmps19 (Nat.le_of_ble_eq_true rfl) fun R0 F => ?_).pt
 replace h := Gets.of h
 have H := h
 clear h
 refine WP.seq <| rg 1 0 <| as0 rfl rfl <| .fin <| WP.seq <| rg 2 1 <| el H fun t822 h823 H => cx 0 [] cal7 (presence_New.c h823) nofun fun g824 _ => ?_
 refine as0 rfl rfl <| .fin <| WP.seq <| WP.seq <| rg 2 0 <| mv0 rfl rfl <| Dv.peq0 PTab.nn rfl trivial rfl rfl Tryz.underlying23 (mem_at 0 rfl) <| .fin <| WP.cond rfl nofun (fun _ => ?_)
 refine WP.skip <| WP.seq <| rg 8 4 <| mv0 rfl rfl <| Dv.bld (css := [[vI 3], [vS (⟨#[64, 97, 58, 115]⟩ : ByteArray)], [vI 2], [vI 10]]) rfl trivial Tryz.underlying32 pl32 z32 rfl ⟨(cells_one (one_eq rfl)), ⟨(cells_one (one_eq rfl)), ⟨(cells_one (one_eq rfl)), ⟨(cells_one (one_eq rfl)), trivial⟩⟩⟩⟩ rfl rfl <| el H fun t826 h827 H => cx 1 [0] cal10 (presence_Table_Put.c h827 (p0_ := g824)) nofun fun _ _ => ?_
 refine mv0 rfl rfl <| ex0 rfl trivial rfl rfl <| ex0 rfl trivial rfl rfl <| as0 rfl rfl <| as0 rfl rfl <| .fin <| WP.seq <| rg 21 0 <| mv0 rfl rfl <| mv0 rfl rfl ?_
 cases c828 : t826.1
 ·
  replace H := Gets.cf H c828
  refine sk rfl rfl <| sk rfl rfl <| pf0 rfl rfl rfl <| mv0 rfl rfl <| sk rfl rfl <| sk rfl rfl <| sk rfl rfl <| pf0 rfl rfl rfl <| mv0 rfl rfl <| sk rfl rfl <| sk rfl rfl <| sk rfl rfl <| pf0 rfl rfl rfl <| mv0 rfl rfl <| sk rfl rfl <| sk rfl rfl <| sk rfl rfl <| pf0 rfl rfl rfl <| as0 rfl rfl <| .fin ?_
  obtain rfl := Gets.out H
  exact rt i2 rfl () 1 [0] 1 (.cons (res_tmp rfl) .nil)
 replace H := Gets.ct H c828
 refine mvg rfl rfl rfl <| bng rfl rfl rfl rfl run_eq <| pt0 rfl rfl rfl <| mv0 rfl rfl ?_
 cases c829 : (t826.2.1 == 0)
 ·
  replace H := Gets.cf H c829
  refine sk rfl rfl <| sk rfl rfl <| sk rfl rfl <| pf0 rfl rfl rfl <| mv0 rfl rfl <| sk rfl rfl <| sk rfl rfl <| sk rfl rfl <| pf0 rfl rfl rfl <| mv0 rfl rfl <| sk rfl rfl <| sk rfl rfl <| sk rfl rfl <| pf0 rfl rfl rfl <| as0 rfl rfl <| .fin ?_
  obtain rfl := Gets.out H
  exact rt i2 rfl () 1 [0] 1 (.cons (res_tmp rfl) .nil)
 replace H := Gets.ct H c829
 refine mvg rfl rfl rfl <| vg (PTab.opn 0 rfl) fun g830 h831 => ?_
 refine el H fun t832 h833 H => cll 3 [0,1,2] cal16 (Tr.weak (presence_Table_State.c h833 (b0_ := g830.1) (v0_0 := g830.2.1) (v0_1 := g830.2.2)) (.cons (wk_ptr h831) (.cons wk_id (.cons wk_id .nil)))) ?_
 refine bng rfl rfl rfl rfl run_eq <| pt0 rfl rfl rfl <| mv0 rfl rfl ?_
 cases c834 : (t832 == 2)
 ·
  replace H := Gets.cf H c834
  refine sk rfl rfl <| sk rfl rfl <| sk rfl rfl <| pf0 rfl rfl rfl <| mv0 rfl rfl <| sk rfl rfl <| sk rfl rfl <| sk rfl rfl <| pf0 rfl rfl rfl <| as0 rfl rfl <| .fin <| wg (PTab.shut (p := g824) (m := t826.2.2) (g830.1, g830.2.1, g830.2.2) h831 (pm 3 [0,1,2])) fun _ _ => ?_
  obtain rfl := Gets.out H
  exact rt i2 rfl () 1 [0] 1 (.cons (res_tmp rfl) .nil)
 replace H := Gets.ct H c834
 refine mvg rfl rfl rfl <| el H fun t835 h836 H => cll 3 [0,1,2] cal16 (Tr.weak (presence_Table_State.c h836 (b0_ := g830.1) (v0_0 := g830.2.1) (v0_1 := g830.2.2)) (.cons (wk_ptr h831) (.cons wk_id (.cons wk_id .nil)))) ?_
 refine bng rfl rfl rfl rfl run_eq <| pt0 rfl rfl rfl <| mv0 rfl rfl ?_
 cases c837 : (t835 == 1)
 ·
  replace H := Gets.cf H c837
  refine sk rfl rfl <| sk rfl rfl <| sk rfl rfl <| pf0 rfl rfl rfl <| as0 rfl rfl <| .fin <| wg (PTab.shut (p := g824) (m := t826.2.2) (g830.1, g830.2.1, g830.2.2) h831 (pm 3 [0,1,2])) fun _ _ => ?_
  obtain rfl := Gets.out H
  exact rt i2 rfl () 1 [0] 1 (.cons (res_tmp rfl) .nil)
 replace H := Gets.ct H c837
 refine mvg rfl rfl rfl <| el H fun t838 h839 H => cll 3 [0,1,2] cal16 (Tr.weak (presence_Table_State.c h839 (b0_ := g830.1) (v0_0 := g830.2.1) (v0_1 := g830.2.2)) (.cons (wk_ptr h831) (.cons wk_id (.cons wk_id .nil)))) ?_
 refine bng rfl rfl rfl rfl run_eq <| pt0 rfl rfl rfl <| as0 rfl rfl <| .fin <| wg (PTab.shut (p := g824) (m := t826.2.2) (g830.1, g830.2.1, g830.2.2) h831 (pm 3 [0,1,2])) fun _ _ => ?_
 obtain rfl := Gets.out H
 exact rt i2 rfl () 1 [0] 1 (.cons (res_tmp rfl) .nil)
theorem concourseref04_SameEdus.c {k : Nat} {a0 : List Edu} {a1 : List Edu} {r : Bool} (h : concourseref04_SameEdus.f k a0 a1 = some r) : Pt Tryz.prog 20 [sl Edu.K a0, sl Edu.K a1] (vB r) := by
 unfold concourseref04_SameEdus.f at h
 refine (Tr.body Tryz.func20 (c := _) rfl Tryz.ntmps20 (Nat.le_of_ble_eq_true rfl) fun R0 F => ?_).pt
 replace h := Gets.of h
 have H := h
 clear h
 refine WP.seq <| rg 1 0 <| as0 rfl rfl <| .fin <| WP.seq <| WP.seq <| rg 5 0 <| mv0 rfl rfl <| Dv.lenl rfl trivial rfl Tryz.underlying22 <| mv0 rfl rfl <| Dv.lenl rfl trivial rfl Tryz.underlying22 <| bn0 rfl rfl rfl run_ne <| .fin <| cd H rfl (fun _ H => ?_) (fun _ H => ?_)
 ·
  refine WP.seq <| rg 1 0 <| as0 rfl rfl <| .fin ?_
  obtain rfl := Gets.out H
  exact rt i2 rfl () 0 [] 0 (.cons (res_tmp rfl) .nil)
 refine WP.skip <| WP.seqr H id (fun p841 : Int × Bool => [(0, sl Edu.K a0), (1, sl Edu.K a1), (4, vB false), (5, vI p841.1), (10, vB ((a0.length : Int) != (a1.length : Int))), (14, vB p841.2)]) (fun p841 : Int × Bool => F) (fun p841 H => ?_) (fun H => ?_)
 ·
  refine WP.seq <| rg 1 0 <| as0 rfl rfl <| .fin ?_
  obtain rfl := Gets.out H
  exact rt i2 rfl () 0 [] 0 (.cons (res_tmp rfl) .nil)
 refine WP.seq <| rg 1 0 <| as0 rfl rfl <| .fin <| WP.block <| wg (sg 0 [] 0) fun _ _ => ?_
 refine lp (fun j_ (p848 : Int) => concourseref04_SameEdus.l0 k a0 a1 j_ p848) 0 H (fun p848 => [(0, sl Edu.K a0), (1, sl Edu.K a1), (4, vB false), (5, vI p848), (10, vB ((a0.length : Int) != (a1.length : Int)))]) (fun p848 => F) ?_
 rintro j_ x842 H
 rcases j_ with _ | j847
 ·
  exact (Gets.no H).elim
 replace H : Gets (concourseref04_SameEdus.l0 k a0 a1 (j847 + 1) x842) _ := H
 rw [concourseref04_SameEdus.l0] at H
 refine WP.seq <| WP.seq <| rg 4 0 <| mv0 rfl rfl <| mv0 rfl rfl <| Dv.lenl rfl trivial rfl Tryz.underlying22 <| bn0 rfl rfl rfl run_lt <| .fin <| cd H rfl (fun _ H => ?_) (fun _ H => ?_)
 rotate_left
 ·
  refine WP.exit ?_
  replace H := Gets.out H
  exact jn (x842, decide (x842 < (a0.length : Int))) H
 refine WP.skip <| WP.seq <| WP.block <| WP.seq <| dg Tryz.checked.mixed 9 0 <| mv0 rfl rfl <| mv0 rfl rfl <| gr H fun g844 H => Dv.ixr rfl trivial rfl rfl Tryz.underlying22 Tryz.underlying32 c32 g844.1 g844.2 <| ldsR rfl trivial rfl sg32 rfl <| mv0 rfl rfl <| mv0 rfl rfl <| gr H fun g845 H => Dv.ixr rfl trivial rfl rfl Tryz.underlying22 Tryz.underlying32 c32 g845.1 g845.2 <| ldsR rfl trivial rfl sg32 rfl <| Dv.nes [.int .i64 ((Edu.K.at a0 x842).fKind), .string ((Edu.K.at a0 x842).fRoom), .string ((Edu.K.at a0 x842).fUser), .string ((Edu.K.at a0 x842).fEvent), .string ((Edu.K.at a0 x842).fThread), .bool ((Edu.K.at a0 x842).fPrivate), .bool ((Edu.K.at a0 x842).fOn), .int .i64 ((Edu.K.at a0 x842).fSpan), .int .i64 ((Edu.K.at a0 x842).fState), .int .i64 ((Edu.K.at a0 x842).fTick), .int .i64 ((Edu.K.at a0 x842).fStamp)] [.int .i64 ((Edu.K.at a1 x842).fKind), .string ((Edu.K.at a1 x842).fRoom), .string ((Edu.K.at a1 x842).fUser), .string ((Edu.K.at a1 x842).fEvent), .string ((Edu.K.at a1 x842).fThread), .bool ((Edu.K.at a1 x842).fPrivate), .bool ((Edu.K.at a1 x842).fOn), .int .i64 ((Edu.K.at a1 x842).fSpan), .int .i64 ((Edu.K.at a1 x842).fState), .int .i64 ((Edu.K.at a1 x842).fTick), .int .i64 ((Edu.K.at a1 x842).fStamp)] rfl trivial rfl rfl rfl rfl eg32 (fun _ => equal_of 2 (by decide) (fun _ => eqt32 (Edu.K.at a0 x842) (Edu.K.at a1 x842))) <| .fin <| cd H rfl (fun _ H => ?_) (fun _ H => ?_)
 rotate_left
 ·
  exact WP.skip <| rg 3 0 <| mv0 rfl rfl <| bn0 rfl rfl rfl run_add <| as0 rfl rfl <| .fin <| bk j847 (w64 (x842 + 1)) H
 refine WP.seq <| rg 1 0 <| as0 rfl rfl <| .fin ?_
 replace H := Gets.outr H
 obtain rfl := Gets.out H
 exact rt i2 rfl () 0 [] 0 (.cons (res_tmp rfl) .nil)
theorem slices_Clone_Edu.c {a0 : List Edu} {r : List Edu} (h : slices_Clone_Edu.f a0 = some r) : Tr Tryz.prog 41 [sl Edu.K a0] [] (γ := OV) (fun _ => True) (fun g => eq g.1) (fun g => [own Edu.K g.1 r]) := by
 unfold slices_Clone_Edu.f at h
 obtain ⟨h0, h5⟩ := (Gets.of h).grd
 obtain rfl := Gets.out h5
 clear h h5
 refine (Tr.body Tryz.func41 (c := _) rfl Tryz.ntmps41 (Nat.le_of_ble_eq_true rfl) fun R0 F => ?_)
 refine WP.seq <| WP.reg [(0, false)] (by kernel_rfl) <| as0 rfl rfl <| .fin <| WP.seq <| WP.seq <| WP.reg [(0, false), (1, true)] (by kernel_rfl) <| mv0 rfl rfl <| Dv.snil rfl trivial rfl rfl Tryz.underlying22 nofun (fun b hb => ?_)
 refine .fin <| WP.cond rfl (fun c0 => ?_) (fun c0 => ?_)
 ·
  obtain rfl := hb c0
  refine WP.seq <| WP.reg [(0, false)] (by kernel_rfl) <| as0 rfl rfl <| .fin <| wg (st_nil Edu.K none) fun _ _ => ?_
  exact rt i2 rfl nilV 1 [0] 0 (.cons (res_tmp rfl) .nil)
 refine WP.skip <| WP.seq <| WP.reg [(0, true), (1, false), (2, true), (3, false)] (by kernel_rfl) <| Dv.lit0 Edu.K rfl trivial Tryz.underlying22 Tryz.underlying32 c32 z32 nofun (fun v1 => ?_)
 refine mv0 rfl rfl <| Dv.appx (Kd := Edu.K) (xs := []) (v := v1.1) (jj := 0) (ys := a0) (fun v2 : OV => [own Edu.K v2.1 a0] ++ F) rfl trivial rfl rfl rfl src_sl Tryz.underlying22 (.inr ⟨_, Tryz.underlying22⟩) inf32 rfl (by decide) (by simpa using h0) rfl nofun (fun v2 => ?_)
 exact as0 rfl rfl <| .fin <| rt i2 rfl v2 1 [0] 0 (.cons (res_tmp rfl) .nil)
theorem presence_Table_All.c {a0 : PTab} {v0_0 v0_1 : OV} {b0_ : Nat} {r : (List Edu)} (h : presence_Table_All.f a0 = some r) : Tr Tryz.prog 21 [eq (.pointer (some ⟨b0_, 0, none⟩))] [blk b0_ 61 [eq v0_0.1, eq v0_1.1], own Edu.K v0_0.1 a0.fl] (γ := OV) (fun _ => True) (fun g => eq g.1) (fun g => [blk b0_ 61 [eq v0_0.1, eq v0_1.1], own Edu.K v0_0.1 a0.fl, own Edu.K g.1 r]) := by
 unfold presence_Table_All.f at h
 refine Tr.body Tryz.func21 (c := _) rfl Tryz.ntmps21 (Nat.le_of_ble_eq_true rfl) fun R0 F => ?_
 replace h := Gets.of h
 have H := h
 clear h
 refine WP.seq <| rg 1 0 <| as0 rfl rfl <| .fin <| WP.seq <| rg 6 16 <| mv0 rfl rfl <| Dv.nilp rfl trivial rfl <| fb rfl trivial rfl fa61_0 <| ld 0 rfl trivial rfl sc22 rfl rfl <| el H fun t849 h850 H => cx 2 [1,0] cal41 (Tr.lend [own Edu.K v0_0.1 a0.fl] (slices_Clone_Edu.c h850) (.cons (lt_own (mem_at 0 rfl)) .nil) (fun _ => flat_eq) (fun _ => (flatAs_cons (flatA_own (fun _ => (flats_cons flat_eq (flats_cons flat_eq (flats_cons flat_eq (flats_cons flat_eq (flats_cons flat_eq (flats_cons flat_eq (flats_cons flat_eq (flats_cons flat_eq (flats_cons flat_eq (flats_cons flat_eq (flats_cons flat_eq flats_nil))))))))))))) flatAs_nil))) nofun fun g851 _ => ?_
 refine as0 rfl rfl <| .fin ?_
 obtain rfl := Gets.out H
 exact rt i2 rfl g851 3 [2,0,1] 0 (.cons (res_tmp rfl) .nil)
theorem heap_Heap_Due.c {k : Nat} {a0 : HHeap} {a1 : Int} {p0_ : OV} {r : (List ByteArray) × HHeap} (h : heap_Heap_Due.f k a0 a1 = some r) : Tr Tryz.prog 42 [eq p0_.1, vI a1] [HHeap.O p0_ a0] (γ := OV) (fun _ => True) (fun g => eq g.1) (fun g => [HHeap.O p0_ r.2, own strK g.1 r.1]) := by
 unfold heap_Heap_Due.f at h
 refine Tr.body Tryz.func42 (c := _) rfl Tryz.ntmps42 (Nat.le_of_ble_eq_true rfl) fun R0 F => ?_
 replace h := Gets.of h
 have H := h
 clear h
 refine WP.seq <| rg 1 0 <| as0 rfl rfl <| .fin <| WP.seq <| rg 1 0 <| as0 rfl rfl <| .fin <| WP.seqn H (fun q874 : (Bool × HHeap × (List ByteArray)) × OV => q874.1) (fun q874 : (Bool × HHeap × (List ByteArray)) × OV => [(0, eq p0_.1), (1, vI a1), (4, eq (.slice none 0 0)), (5, eq q874.2.1), (22, vB q874.1.1)]) (fun q874 : (Bool × HHeap × (List ByteArray)) × OV => [HHeap.O p0_ q874.1.2.1, own strK q874.2.1 q874.1.2.2] ++ F) (fun q874 H => ?_) (fun H => ?_)
 ·
  obtain ⟨p852, v853⟩ := q874
  refine WP.seq <| rg 2 0 <| mv0 rfl rfl <| as0 rfl rfl <| .fin ?_
  obtain rfl := Gets.out H
  exact rt i2 rfl v853 2 [0,1] 0 (.cons (res_tmp rfl) .nil)
 refine WP.block <| wg (st_nil strK none) fun _ _ => ?_
 refine wg (sg 2 [1,0] 0) fun _ _ => ?_
 refine lp (fun j_ (p873 : HHeap × (List ByteArray) × OV) => heap_Heap_Due.l0 k a1 j_ p873.1 p873.2.1) (a0, ([] : List ByteArray), nilV) H (fun p873 => [(0, eq p0_.1), (1, vI a1), (4, eq (.slice none 0 0)), (5, eq p873.2.2.1)]) (fun p873 => [HHeap.O p0_ p873.1, own strK p873.2.2.1 p873.2.1] ++ F) ?_
 rintro j_ ⟨x854, x855, v856⟩ H
 rcases j_ with _ | j872
 ·
  exact (Gets.no H).elim
 replace H : Gets (heap_Heap_Due.l0 k a1 (j872 + 1) x854 x855) _ := H
 rw [heap_Heap_Due.l0] at H
 refine WP.seq <| WP.seq <| rg 17 0 <| mv0 rfl rfl <| Dv.nilA HHeap.nn rfl trivial rfl (mem_at 0 rfl) <| vg (HHeap.opn 0 rfl) fun g857 h858 => ?_
 refine fp h858 rfl trivial rfl fa81_0 <| ld 0 rfl trivial rfl sc79 rfl rfl <| Dv.lenw rfl trivial rfl (mem_at 1 rfl) Tryz.underlying79 <| bn0 rfl rfl rfl run_gt <| mv0 rfl rfl ?_
 cases c859 : decide (0 < (x854.fl.length : Int))
 ·
  replace H := Gets.cf H c859
  refine sk rfl rfl <| sk rfl rfl <| sk rfl rfl <| sk rfl rfl <| sk rfl rfl <| sk rfl rfl <| sk rfl rfl <| sk rfl rfl <| sk rfl rfl <| pf0 rfl rfl rfl <| .fin <| WP.cond rfl nofun (fun _ => ?_)
  refine WP.exit ?_
  replace H := Gets.out H
  refine ng (HHeap.shut (p := p0_) (m := x854) (g857.1, g857.2.1, g857.2.2) h858 (pm 4 [0,1,2,3])) fun _ _ => ?_
  exact jn ((false, x854, x855), v856) H
 replace H := Gets.ct H c859
 refine mvg rfl rfl rfl <| Dv.nilpp h858 rfl (gg rfl) rfl <| fp h858 rfl (gg rfl) rfl fa81_0 <| ld 0 rfl (gg rfl) rfl sc79 rfl rfl <| gr H fun g860 H => ?_
 have h861 : (0 : Int).toNat < x854.fl.length := idx_lt g860
 refine Dv.ixw rfl (gg rfl) rfl (mem_at 1 rfl) rfl Tryz.underlying79 Tryz.underlying74 c74 g860.1 g860.2 <| fw rfl (gg rfl) rfl fa74_0 <| Dv.ldw (j := ((0 : Int).toNat)) (f := 0) (p := vI ((x854.fl.getD ((0 : Int).toNat) default).fAt)) rfl (gg rfl) rfl (mem_at 1 rfl) h861 Tryz.underlying3 rfl rfl <| mvg rfl rfl rfl <| bng rfl rfl rfl rfl run_le <| pt0 rfl rfl rfl <| .fin <| cd H rfl (fun _ H => ?_) (fun _ H => ?_)
 rotate_left
 ·
  refine WP.exit ?_
  replace H := Gets.out H
  refine ng (HHeap.shut (p := p0_) (m := x854) (g857.1, g857.2.1, g857.2.2) h858 (pm 4 [0,1,2,3])) fun _ _ => ?_
  exact jn ((decide (((x854.fl.getD ((0 : Int).toNat) default).fAt) ≤ a1), x854, x855), v856) H
 refine WP.skip <| WP.block <| WP.seq <| rg 11 512 <| mv0 rfl rfl <| mv0 rfl rfl <| Dv.nilpp h858 rfl trivial rfl <| fp h858 rfl trivial rfl fa81_0 <| ld 0 rfl trivial rfl sc79 rfl rfl <| gr H fun g863 H => ?_
 have h864 : (0 : Int).toNat < x854.fl.length := idx_lt g863
 refine Dv.ixw rfl trivial rfl (mem_at 1 rfl) rfl Tryz.underlying79 Tryz.underlying74 c74 g863.1 g863.2 <| fw rfl trivial rfl fa74_1 <| Dv.ldw (j := ((0 : Int).toNat)) (f := 1) (p := vS ((x854.fl.getD ((0 : Int).toNat) default).fKey)) rfl trivial rfl (mem_at 1 rfl) h864 Tryz.underlying9 rfl rfl <| Dv.lit strK ([(x854.fl.getD ((0 : Int).toNat) default).fKey] : List ByteArray) (css := [[vS ((x854.fl.getD ((0 : Int).toNat) default).fKey)]]) rfl trivial Tryz.underlying39 Tryz.underlying9 c9 z9 rfl (by decide) (by decide) rfl ⟨(cells_one (one_eq rfl)), trivial⟩ rfl rfl rfl <| gr H fun g865 H => ap strK 3 ([(x854.fl.getD ((0 : Int).toNat) default).fKey] : List ByteArray) src_sl Tryz.underlying39 (.inr ⟨_, Tryz.underlying39⟩) inf9 g865 nofun fun v866 => ?_
 refine as0 rfl rfl <| .fin <| rg 9 256 <| mv0 rfl rfl <| mv0 rfl rfl <| Dv.nilpp h858 rfl trivial rfl <| fp h858 rfl trivial rfl fa81_0 <| ld 0 rfl trivial rfl sc79 rfl rfl <| gr H fun g867 H => ?_
 have h868 : (0 : Int).toNat < x854.fl.length := idx_lt g867
 refine Dv.ixw rfl trivial rfl (mem_at 1 rfl) rfl Tryz.underlying79 Tryz.underlying74 c74 g867.1 g867.2 <| fw rfl trivial rfl fa74_1 <| Dv.ldw (j := ((0 : Int).toNat)) (f := 1) (p := vS ((x854.fl.getD ((0 : Int).toNat) default).fKey)) rfl trivial rfl (mem_at 1 rfl) h868 Tryz.underlying9 rfl rfl <| vg (HHeap.shut (p := p0_) (m := x854) (g857.1, g857.2.1, g857.2.2) h858 (pm 4 [0,1,2,3])) fun _ _ => ?_
 refine el H fun t869 h870 H => cx 2 [0,1] cal35 (heap_Heap_Drop.c h870 (p0_ := p0_)) nofun fun _ _ => ?_
 exact .fin <| bk j872 (t869.2, x855 ++ ([(x854.fl.getD ((0 : Int).toNat) default).fKey] : List ByteArray), v866) H
theorem slices_Sort_string.c {a0 : List ByteArray} {p0_ : OV} {r : List ByteArray} (h : slices_Sort_string.f a0 = some r) : Tr Tryz.prog 43 [eq p0_.1] [own strK p0_.1 a0] (γ := Unit) (fun _ => True) (fun g => tup []) (fun g => [own strK p0_.1 r]) := by
 unfold slices_Sort_string.f at h
 obtain ⟨h0, h5⟩ := (Gets.of h).grd
 obtain rfl := Gets.out h5
 exact sort_tr (fun blk off cap ss w => Go.Proofs.Any.slices_Sort_string Tryz.lays190 blk off cap ss w) (fun q cap w => Go.Proofs.Any.slices_Sort_string_none Tryz.lays190 q cap w) h0

theorem presence_Table_Turned.c {k : Nat} {a0 : PTab} {a1 : Int} {p0_ : OV} {r : (List ByteArray) × PTab} (h : presence_Table_Turned.f k a0 a1 = some r) : Tr Tryz.prog 22 [eq p0_.1, vI a1] [PTab.O p0_ a0] (γ := OV) (fun _ => True) (fun g => eq g.1) (fun g => [PTab.O p0_ r.2, own strK g.1 r.1]) := by
 unfold presence_Table_Turned.f at h
 refine Tr.body Tryz.func22 (c := _) rfl Tryz.ntmps22 (Nat.le_of_ble_eq_true rfl) fun R0 F => ?_
 replace h := Gets.of h
 have H := h
 clear h
 refine WP.seq <| rg 1 0 <| as0 rfl rfl <| .fin <| WP.seq <| rg 7 32 <| mv0 rfl rfl <| Dv.nilA PTab.nn rfl trivial rfl (mem_at 0 rfl) <| vg (PTab.opn 0 rfl) fun g875 h876 => ?_
 refine fp h876 rfl trivial rfl fa61_1 <| ld 0 rfl trivial rfl sc58 rfl rfl <| mv0 rfl rfl <| el H fun t877 h878 H => cx 3 [2,0,1] cal42 (heap_Heap_Due.c h878 (p0_ := g875.2.2)) nofun fun g879 _ => ?_
 refine as0 rfl rfl <| .fin <| WP.seqn H id (fun p880 : Int × Bool × PTab => [(0, eq p0_.1), (1, vI a1), (4, eq (.slice none 0 0)), (5, eq g879.1), (18, eq g879.1), (19, vI (t877.1.length : Int)), (20, vI p880.1), (21, vB p880.2.1)]) (fun p880 : Int × Bool × PTab => [PTab.O p0_ p880.2.2, own strK g879.1 t877.1] ++ F) (fun p880 H => ?_) (fun H => ?_)
 ·
  refine WP.seq <| rg 2 2 <| mv0 rfl rfl <| el H fun t881 h882 H => cx 2 [1,0] cal43 (slices_Sort_string.c h882 (p0_ := g879)) nofun fun _ _ => ?_
  refine .fin <| WP.seq <| rg 2 0 <| mv0 rfl rfl <| as0 rfl rfl <| .fin ?_
  obtain rfl := Gets.out H
  exact rt i2 rfl g879 2 [1,0] 0 (.cons (res_tmp rfl) .nil)
 refine WP.seq <| rg 3 0 <| mv0 rfl rfl <| Dv.lenw rfl trivial rfl (mem_at 1 rfl) Tryz.underlying39 <| mv0 rfl rfl <| .fin <| WP.block <| wg (PTab.shut (p := p0_) (m := (⟨a0.fl, t877.2⟩ : PTab)) (g875.1, g875.2.1, g875.2.2) h876 (pm 4 [2,3,0,1])) fun _ _ => ?_
 refine wg (sg 2 [0,1] 0) fun _ _ => ?_
 refine lp (fun j_ (p900 : Int × PTab) => presence_Table_Turned.l0 k a1 t877 j_ p900.1 p900.2) (0, (⟨a0.fl, t877.2⟩ : PTab)) H (fun p900 => [(0, eq p0_.1), (1, vI a1), (4, eq (.slice none 0 0)), (5, eq g879.1), (18, eq g879.1), (19, vI (t877.1.length : Int)), (20, vI p900.1)]) (fun p900 => [PTab.O p0_ p900.2, own strK g879.1 t877.1] ++ F) ?_
 rintro j_ ⟨x883, x884⟩ H
 rcases j_ with _ | j899
 ·
  exact (Gets.no H).elim
 replace H : Gets (presence_Table_Turned.l0 k a1 t877 (j899 + 1) x883 x884) _ := H
 rw [presence_Table_Turned.l0] at H
 refine WP.seq <| rg 1 0 <| bn0 rfl rfl rfl run_lt <| .fin <| WP.seq <| cd H rfl (fun _ H => ?_) (fun _ H => ?_)
 rotate_left
 ·
  refine WP.exit ?_
  replace H := Gets.out H
  exact jn (x883, decide (x883 < (t877.1.length : Int)), x884) H
 refine WP.skip <| WP.seq <| WP.block <| WP.seq <| rg 3 0 <| gr H fun g886 H => ?_
 have h887 : x883.toNat < t877.1.length := idx_lt g886
 refine Dv.ixw rfl trivial rfl (mem_at 1 rfl) rfl Tryz.underlying39 Tryz.underlying9 c9 g886.1 g886.2 <| Dv.ldw (j := x883.toNat) (f := 0) (p := vS (t877.1.getD x883.toNat default)) rfl trivial rfl (mem_at 1 rfl) h887 Tryz.underlying9 rfl rfl <| as0 rfl rfl <| .fin <| WP.seq <| rg 8 0 <| mv0 rfl rfl <| mv0 rfl rfl <| vg (PTab.opn 0 rfl) fun g888 h889 => ?_
 refine el H fun t890 h891 H => cll 4 [0,1,2,3] cal32 (Tr.weak (presence_Table_place.c h891 (b0_ := g888.1) (v0_0 := g888.2.1) (v0_1 := g888.2.2)) (.cons (wk_ptr h889) (.cons wk_id .nil))) ?_
 refine mv0 rfl rfl <| ex0 rfl trivial rfl rfl <| ex0 rfl trivial rfl rfl <| as0 rfl rfl <| as0 rfl rfl <| .fin <| WP.seq <| rg 14 0 <| mv0 rfl rfl <| Dv.nilpp h889 rfl trivial rfl <| fp h889 rfl trivial rfl fa61_0 <| ld 0 rfl trivial rfl sc22 rfl rfl <| mv0 rfl rfl <| gr H fun g892 H => ?_
 have h893 : t890.1.toNat < x884.fl.length := idx_lt g892
 refine Dv.ixw rfl trivial rfl (mem_at 1 rfl) rfl Tryz.underlying22 Tryz.underlying32 c32 g892.1 g892.2 <| Dv.ldws (j := t890.1.toNat) (f := 0) rfl trivial rfl (mem_at 1 rfl) h893 Tryz.underlying32 rfl c32 (Nat.le_of_ble_eq_true rfl) <| mv0 rfl rfl <| el H fun t894 h895 H => cl rfl cal36 rfl (presence_turn.c h895) <| mv0 rfl rfl <| ex0 rfl trivial rfl rfl <| ex0 rfl trivial rfl rfl <| as0 rfl rfl <| as0 rfl rfl <| .fin <| WP.seq <| rg 1 0 <| mv0 rfl rfl <| .fin <| cd H rfl (fun _ H => ?_) (fun _ H => ?_)
 rotate_left
 ·
  refine WP.skip <| rg 2 0 <| bn0 rfl rfl rfl run_add <| mv0 rfl rfl <| .fin <| ng (PTab.shut (p := p0_) (m := x884) (g888.1, g888.2.1, g888.2.2) h889 (pm 4 [0,1,2,3])) fun _ _ => ?_
  exact bk j899 (w64 (x883 + 1), x884) H
 refine rg 7 64 <| mv0 rfl rfl <| Dv.nilpp h889 rfl trivial rfl <| fp h889 rfl trivial rfl fa61_1 <| ld 0 rfl trivial rfl sc58 rfl rfl <| mv0 rfl rfl <| mv0 rfl rfl <| el H fun t897 h898 H => cx 4 [2,0,1,3] cal37 (heap_Heap_Put.c h898 (p0_ := g888.2.2)) nofun fun _ _ => ?_
 refine .fin <| rg 2 0 <| bn0 rfl rfl rfl run_add <| mv0 rfl rfl <| .fin <| ng (PTab.shut (p := p0_) (m := (⟨x884.fl, t897⟩ : PTab)) (g888.1, g888.2.1, g888.2.2) h889 (pm 4 [1,2,0,3])) fun _ _ => ?_
 exact bk j899 (w64 (x883 + 1), (⟨x884.fl, t897⟩ : PTab)) H
theorem heap_Heap_First.c {a0 : HHeap} {p0_ : OV} {r : HEnt × Bool} (h : heap_Heap_First.f a0 = some r) : Tr Tryz.prog 44 [eq p0_.1] [HHeap.O p0_ a0] (γ := Unit) (fun _ => True) (fun g => tup [agg (HEnt.enc r.1), vB r.2]) (fun g => [HHeap.O p0_ a0]) := by
 unfold heap_Heap_First.f at h
 refine Tr.body Tryz.func44 (c := _) rfl Tryz.ntmps44 (Nat.le_of_ble_eq_true rfl) fun R0 F => ?_
 replace h := Gets.of h
 have H := h
 clear h
 refine WP.seq <| rg 2 1 <| al rfl trivial zc74 nofun fun b901 => as0 rfl rfl <| .fin <| WP.seq <| WP.seq <| rg 6 0 <| mv0 rfl rfl <| Dv.nilA HHeap.nn rfl trivial rfl (mem_at 1 rfl) <| vg (HHeap.opn 1 rfl) fun g902 h903 => ?_
 refine fp h903 rfl trivial rfl fa81_0 <| ld 0 rfl trivial rfl sc79 rfl rfl <| Dv.lenw rfl trivial rfl (mem_at 1 rfl) Tryz.underlying79 <| bn0 rfl rfl rfl run_eq <| .fin <| cd H rfl (fun _ H => ?_) (fun _ H => ?_)
 ·
  refine WP.seq <| rg 3 2 <| Dv.bld (css := []) rfl trivial Tryz.underlying74 pl74 z74 rfl trivial rfl rfl <| sx 3 rfl trivial rfl rfl cA sz74 rfl rfl rfl nofun ?_
  refine as0 rfl rfl <| .fin <| wg (HHeap.shut (p := p0_) (m := a0) (g902.1, g902.2.1, g902.2.2) h903 (pm 4 [0,1,2,3])) fun _ _ => ?_
  obtain rfl := Gets.out H
  exact rt i2 rfl () 2 [1,0] 1 (.cons (res_cells rfl Tryz.underlying74 rfl c74 (mem_at 1 rfl) rfl) (.cons (res_tmp rfl) .nil))
 refine WP.skip <| WP.seq <| rg 8 64 <| mv0 rfl rfl <| Dv.nilpp h903 rfl trivial rfl <| fp h903 rfl trivial rfl fa81_0 <| ld 0 rfl trivial rfl sc79 rfl rfl <| gr H fun g905 H => ?_
 have h906 : (0 : Int).toNat < a0.fl.length := idx_lt g905
 refine Dv.ixw rfl trivial rfl (mem_at 1 rfl) rfl Tryz.underlying79 Tryz.underlying74 c74 g905.1 g905.2 <| Dv.ldws (j := ((0 : Int).toNat)) (f := 0) rfl trivial rfl (mem_at 1 rfl) h906 Tryz.underlying74 rfl c74 (Nat.le_of_ble_eq_true rfl) <| sx 3 rfl trivial rfl rfl cA sz74 rfl rfl rfl nofun ?_
 refine as0 rfl rfl <| .fin <| wg (HHeap.shut (p := p0_) (m := a0) (g902.1, g902.2.1, g902.2.2) h903 (pm 4 [0,1,2,3])) fun _ _ => ?_
 obtain rfl := Gets.out H
 exact rt i2 rfl () 2 [1,0] 1 (.cons (res_cells rfl Tryz.underlying74 rfl c74 (mem_at 1 rfl) rfl) (.cons (res_tmp rfl) .nil))
theorem presence_Table_Next.c {a0 : PTab} {p0_ : OV} {r : Int × Bool} (h : presence_Table_Next.f a0 = some r) : Tr Tryz.prog 23 [eq p0_.1] [PTab.O p0_ a0] (γ := Unit) (fun _ => True) (fun g => tup [vI r.1, vB r.2]) (fun g => [PTab.O p0_ a0]) := by
 unfold presence_Table_Next.f at h
 refine Tr.body Tryz.func23 (c := _) rfl Tryz.ntmps23 (Nat.le_of_ble_eq_true rfl) fun R0 F => ?_
 replace h := Gets.of h
 have H := h
 clear h
 refine WP.seq <| rg 2 0 <| as0 rfl rfl <| as0 rfl rfl <| .fin <| WP.seq <| rg 11 784 <| mv0 rfl rfl <| Dv.nilA PTab.nn rfl trivial rfl (mem_at 0 rfl) <| vg (PTab.opn 0 rfl) fun g907 h908 => ?_
 refine fp h908 rfl trivial rfl fa61_1 <| ld 0 rfl trivial rfl sc58 rfl rfl <| el H fun t909 h910 H => cx 3 [2,0,1] cal44 (heap_Heap_First.c h910 (p0_ := g907.2.2)) nofun fun _ _ => ?_
 refine mv0 rfl rfl <| ex0 rfl trivial rfl rfl <| ex0 rfl trivial rfl rfl <| al rfl trivial zc74 nofun fun b911 => sx 0 rfl trivial rfl rfl cA sz74 rfl rfl rfl nofun ?_
 refine as0 rfl rfl <| .fin <| WP.seq <| rg 5 0 <| fb rfl trivial rfl fa74_0 <| ld 0 rfl trivial rfl sc3 rfl rfl <| mv0 rfl rfl <| as0 rfl rfl <| as0 rfl rfl <| .fin <| wg (PTab.shut (p := p0_) (m := a0) (g907.1, g907.2.1, g907.2.2) h908 (pm 4 [2,3,1,0])) fun _ _ => ?_
 obtain rfl := Gets.out H
 exact rt i2 rfl () 2 [1,0] 1 (.cons (res_tmp rfl) (.cons (res_tmp rfl) .nil))
theorem concourseref01_Few.c {a0 : ByteArray} {a1 : Int} {r : ByteArray} (h : concourseref01_Few.f a0 a1 = some r) : Pt Tryz.prog 11 [vS a0, vI a1] (vS r) := by
 unfold concourseref01_Few.f at h
 refine (Tr.body Tryz.func11 (c := _) rfl Tryz.ntmps11 (Nat.le_of_ble_eq_true rfl) fun R0 F => ?_).pt
 replace h := Gets.of h
 have H := h
 clear h
 refine WP.seq <| rg 1 0 <| as0 rfl rfl <| .fin <| WP.seq <| WP.seq <| rg 4 0 <| mv0 rfl rfl <| Dv.lens rfl trivial rfl Tryz.underlying9 <| mv0 rfl rfl <| bn0 rfl rfl rfl run_gt <| .fin <| cd H rfl (fun _ H => ?_) (fun _ H => ?_)
 rotate_left
 ·
  refine WP.skip <| WP.seq <| rg 2 0 <| mv0 rfl rfl <| as0 rfl rfl <| .fin ?_
  obtain rfl := Gets.out H
  exact rt i2 rfl () 0 [] 0 (.cons (res_tmp rfl) .nil)
 refine WP.seq <| rg 4 0 <| mv0 rfl rfl <| mv0 rfl rfl <| gr H fun g913 H => Dv.sss rfl trivial rfl Tryz.underlying9 bdE_none (bdE_some rfl g913.1) g913.2.1 g913.2.2 <| as0 rfl rfl <| .fin ?_
 obtain rfl := Gets.out H
 exact rt i2 rfl () 0 [] 0 (.cons (res_tmp rfl) .nil)
theorem concourseref03_Few.c {a0 : Edu} {r : Edu} (h : concourseref03_Few.f a0 = some r) : Pt Tryz.prog 24 [agg (Edu.enc a0)] (agg (Edu.enc r)) := by
 unfold concourseref03_Few.f at h
 refine (Tr.body Tryz.func24 (c := _) rfl Tryz.ntmps24 (Nat.le_of_ble_eq_true rfl) fun R0 F => ?_).pt
 replace h := Gets.of h
 have H := h
 clear h
 refine WP.seq <| rg 2 3 <| Dv.box rfl trivial rfl cA nofun fun b914 => al rfl trivial zc32 nofun fun b915 => .fin <| WP.seq <| rg 5 16 <| fb rfl trivial rfl fa32_1 <| ld 1 rfl trivial rfl sc9 rfl rfl <| el H fun t916 h917 H => cl rfl cal11 rfl (concourseref01_Few.c h917) <| fb rfl trivial rfl fa32_1 <| sx 1 rfl trivial rfl rfl cE sz9 rfl rfl rfl nofun ?_
 refine .fin <| WP.seq <| rg 5 16 <| fb rfl trivial rfl fa32_2 <| ld 1 rfl trivial rfl sc9 rfl rfl <| el H fun t918 h919 H => cl rfl cal11 rfl (concourseref01_Few.c h919) <| fb rfl trivial rfl fa32_2 <| sx 1 rfl trivial rfl rfl cE sz9 rfl rfl rfl nofun ?_
 refine .fin <| WP.seq <| rg 5 16 <| fb rfl trivial rfl fa32_3 <| ld 1 rfl trivial rfl sc9 rfl rfl <| el H fun t920 h921 H => cl rfl cal11 rfl (concourseref01_Few.c h921) <| fb rfl trivial rfl fa32_3 <| sx 1 rfl trivial rfl rfl cE sz9 rfl rfl rfl nofun ?_
 refine .fin <| WP.seq <| rg 5 16 <| fb rfl trivial rfl fa32_4 <| ld 1 rfl trivial rfl sc9 rfl rfl <| el H fun t922 h923 H => cl rfl cal11 rfl (concourseref01_Few.c h923) <| fb rfl trivial rfl fa32_4 <| sx 1 rfl trivial rfl rfl cE sz9 rfl rfl rfl nofun ?_
 refine .fin <| WP.seq <| rg 2 2 <| lds 1 rfl trivial rfl sg32 rfl rfl <| sx 0 rfl trivial rfl rfl cA sz32 rfl rfl rfl nofun ?_
 refine .fin ?_
 obtain rfl := Gets.out H
 exact rt i2 rfl () 2 [0,1] 2 (.cons (res_cells rfl Tryz.underlying32 rfl c32 (mem_at 0 rfl) rfl) .nil)
theorem concourseref15_turns.c {a0 : Edu} {r : (List Int)} (h : concourseref15_turns.f a0 = some r) : Pt Tryz.prog 45 [agg (Edu.enc a0)] (sl (intK .i64) r) := by
 unfold concourseref15_turns.f at h
 refine (Tr.body Tryz.func45 (c := _) rfl Tryz.ntmps45 (Nat.le_of_ble_eq_true rfl) fun R0 F => ?_).pt
 replace h := Gets.of h
 have H := h
 clear h
 refine WP.seq <| rg 2 1 <| Dv.box rfl trivial rfl cA nofun fun b924 => as0 rfl rfl <| .fin <| WP.seq <| WP.seq <| rg 3 0 <| fb rfl trivial rfl fa32_8 <| ld 0 rfl trivial rfl sc3 rfl rfl <| bn0 rfl rfl rfl run_eq <| .fin <| cd H rfl (fun _ H => ?_) (fun _ H => ?_)
 ·
  refine WP.seq <| rg 8 0 <| fb rfl trivial rfl fa32_9 <| ld 0 rfl trivial rfl sc3 rfl rfl <| bn0 rfl rfl rfl run_add <| fb rfl trivial rfl fa32_9 <| ld 0 rfl trivial rfl sc3 rfl rfl <| bn0 rfl rfl rfl run_add <| Dv.lit (intK .i64) ([w64 (a0.fTick + 30), w64 (a0.fTick + 90)] : List Int) (css := [[vI (w64 (a0.fTick + 30))], [vI (w64 (a0.fTick + 90))]]) rfl trivial Tryz.underlying25 Tryz.underlying3 c3 z3 rfl (by decide) (by decide) rfl ⟨(cells_one (one_eq rfl)), ⟨(cells_one (one_eq rfl)), trivial⟩⟩ rfl rfl rfl <| as0 rfl rfl <| .fin ?_
  obtain rfl := Gets.out H
  exact rt i2 rfl () 1 [0] 1 (.cons (res_tmp rfl) .nil)
 refine WP.skip <| WP.seq <| WP.seq <| rg 3 0 <| fb rfl trivial rfl fa32_8 <| ld 0 rfl trivial rfl sc3 rfl rfl <| bn0 rfl rfl rfl run_eq <| .fin <| cd H rfl (fun _ H => ?_) (fun _ H => ?_)
 rotate_left
 ·
  refine WP.skip <| WP.seq <| rg 1 0 <| as0 rfl rfl <| .fin ?_
  obtain rfl := Gets.out H
  exact rt i2 rfl () 1 [0] 1 (.cons (res_wk (res_tmp rfl) wk_nil) .nil)
 refine WP.seq <| rg 5 0 <| fb rfl trivial rfl fa32_9 <| ld 0 rfl trivial rfl sc3 rfl rfl <| bn0 rfl rfl rfl run_add <| Dv.lit (intK .i64) ([w64 (a0.fTick + 90)] : List Int) (css := [[vI (w64 (a0.fTick + 90))]]) rfl trivial Tryz.underlying25 Tryz.underlying3 c3 z3 rfl (by decide) (by decide) rfl ⟨(cells_one (one_eq rfl)), trivial⟩ rfl rfl rfl <| as0 rfl rfl <| .fin ?_
 obtain rfl := Gets.out H
 exact rt i2 rfl () 1 [0] 1 (.cons (res_tmp rfl) .nil)
end Go.Proofs.YtegmafgodoikiaaGreat
