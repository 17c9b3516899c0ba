/- The walks. -/
import Derived.Test.YtegmafgodoikiaaGreatZMir
import Derived.Test.YtegmafgodoikiaaGreatConQ
import Derived.Eval
import Derived.Test.YtegmafgodoikiaaGreatZShelf
set_option linter.all false
set_option maxRecDepth 10000
set_option maxHeartbeats 20000000
namespace Go.Proofs.YtegmafgodoikiaaGreat
open Go Go.Sp
theorem heap_New.c {r : HHeap} (h : heap_New.f = some r) : Tr Tryz.prog 27 [] [] (γ := OV) (fun _ => True) (fun g => eq g.1) (fun g => [HHeap.O g r]) := by
  unfold heap_New.f at h
  refine Tr.body Tryz.func27 (c := _) rfl Tryz.ntmps27 (Nat.le_of_ble_eq_true rfl) fun R0 F => ?_
  replace h := Gets.of h
  have H := h
  clear h
  refine WP.seq ?_
  refine WP.reg [(0, false)] (by kernel_rfl) ?_
  refine as0 rfl rfl ?_
  refine .fin ?_
  refine WP.seq ?_
  refine WP.reg [(0, true), (1, false), (2, true), (3, false)] (by kernel_rfl) ?_
  refine Dv.mmk Value.string (fun x : Int => eq (.int .i64 x)) rfl trivial nofun (fun v1 => ?_)
  refine Dv.bld (qs := [eq (.slice none 0 0), eq v1.1]) (css := [[eq v1.1]]) rfl trivial Tryz.underlying81 pl81 z81 rfl ⟨(cells_one one_ov), trivial⟩ rfl rfl ?_
  refine Dv.box (qs := [eq (.slice none 0 0), eq v1.1]) rfl trivial rfl (cells_agg (ones_cons (one_eq rfl) (ones_cons one_ov ones_nil))) nofun (fun b2 => ?_)
  refine as0 rfl rfl ?_
  refine .fin ?_
  refine WP.gh (l' := fun _ : Unit => [own HEnt.K nilV.1 ([] : List HEnt), blk b2 81 [eq nilV.1, eq v1.1], mp Value.string (fun x : Int => eq (.int .i64 x)) v1.1 ([] : List (ByteArray × Int))] ++ F) (gh_of (st_nil HEnt.K none)) (fun _ _ => ?_)
  refine WP.gh (l' := fun _ : Unit => [HHeap.O (⟨.pointer (some ⟨b2, 0, none⟩), rfl⟩ : OV) (⟨([] : List HEnt), ([] : List (ByteArray × Int))⟩ : HHeap)] ++ F) (gh_of (HHeap.shut (p := (⟨.pointer (some ⟨b2, 0, none⟩), rfl⟩ : OV)) (m := (⟨([] : List HEnt), ([] : List (ByteArray × Int))⟩ : HHeap)) (r := F) (b2, nilV, v1) rfl (perm_ton 3 [1, 0, 2] rfl rfl rfl))) (fun _ _ => ?_)
  obtain rfl := Gets.out H
  exact WP.retL (fun _ _ h => h) rfl (⟨.pointer (some ⟨b2, 0, none⟩), rfl⟩ : OV) trivial (.cons (res_tmp rfl) .nil) rfl (st_seln 1 [0] 0 rfl rfl rfl)
theorem presence_New.c {r : PTab} (h : presence_New.f = some r) : Tr Tryz.prog 7 [] [] (γ := OV) (fun _ => True) (fun g => eq g.1) (fun g => [PTab.O g r]) := by
  unfold presence_New.f at h
  refine Tr.body Tryz.func7 (c := _) rfl Tryz.ntmps7 (Nat.le_of_ble_eq_true rfl) fun R0 F => ?_
  replace h := Gets.of h
  have H := h
  clear h
  refine WP.seq ?_
  refine WP.reg [(0, false)] (by kernel_rfl) ?_
  refine as0 rfl rfl ?_
  refine .fin ?_
  refine WP.seq ?_
  refine WP.reg [(0, true), (1, false), (2, true), (3, false)] (by kernel_rfl) ?_
  obtain ⟨t3, h4, H⟩ := Gets.call H
  refine Dv.callx (pre := []) (F := [] ++ F) (fun g5 : OV => [HHeap.O g5 t3] ++ F) rfl trivial cal27 rfl (heap_New.c h4) (perm_ton 0 [] rfl rfl rfl) rfl nofun (fun g5 _ => ?_)
  refine Dv.bld (qs := [eq (.slice none 0 0), eq g5.1]) (css := [[eq g5.1]]) rfl trivial Tryz.underlying61 pl61 z61 rfl ⟨(cells_one one_ov), trivial⟩ rfl rfl ?_
  refine Dv.box (qs := [eq (.slice none 0 0), eq g5.1]) rfl trivial rfl (cells_agg (ones_cons (one_eq rfl) (ones_cons one_ov ones_nil))) nofun (fun b6 => ?_)
  refine as0 rfl rfl ?_
  refine .fin ?_
  refine WP.gh (l' := fun _ : Unit => [own Edu.K nilV.1 ([] : List Edu), blk b6 61 [eq nilV.1, eq g5.1], HHeap.O g5 t3] ++ F) (gh_of (st_nil Edu.K none)) (fun _ _ => ?_)
  refine WP.gh (l' := fun _ : Unit => [PTab.O (⟨.pointer (some ⟨b6, 0, none⟩), rfl⟩ : OV) (⟨([] : List Edu), t3⟩ : PTab)] ++ F) (gh_of (PTab.shut (p := (⟨.pointer (some ⟨b6, 0, none⟩), rfl⟩ : OV)) (m := (⟨([] : List Edu), t3⟩ : PTab)) (r := F) (b6, nilV, g5) rfl (perm_ton 3 [1, 0, 2] rfl rfl rfl))) (fun _ _ => ?_)
  obtain rfl := Gets.out H
  exact WP.retL (fun _ _ h => h) rfl (⟨.pointer (some ⟨b6, 0, none⟩), rfl⟩ : OV) trivial (.cons (res_tmp rfl) .nil) rfl (st_seln 1 [0] 0 rfl rfl rfl)
theorem concourseref01_Around.c {a0 : Int} {a1 : Int} {r : Int} (h : concourseref01_Around.f a0 a1 = some r) : Pt Tryz.prog 12 [eq (.int .i64 a0), eq (.int .i64 a1)] (eq (.int .i64 r)) := by
  unfold concourseref01_Around.f at h
  refine (Tr.body Tryz.func12 (c := _) rfl Tryz.ntmps12 (Nat.le_of_ble_eq_true rfl) fun R0 F => ?_).pt
  replace h := Gets.of h
  have H := h
  clear h
  refine WP.seq ?_
  refine WP.reg [(0, false)] (by kernel_rfl) ?_
  refine as0 rfl rfl ?_
  refine .fin ?_
  refine WP.seq ?_
  refine WP.seq ?_
  refine WP.reg [(0, false), (1, false)] (by kernel_rfl) ?_
  refine mv0 rfl rfl ?_
  refine Dv.bin rfl trivial rfl rfl (fun _ => run_lt) ?_
  refine .fin ?_
  refine WP.cond rfl (fun c7 => ?_) (fun c7 => ?_)
  · replace H := Gets.ct H c7
    refine WP.reg [(0, false), (1, false), (2, false), (3, false)] (by kernel_rfl) ?_
    refine mv0 rfl rfl ?_
    refine Dv.bin rfl trivial rfl rfl (fun _ => run_add) ?_
    refine Dv.un rfl trivial rfl (fun _ => run_neg _ _) ?_
    refine as0 rfl rfl ?_
    refine .fin ?_
    refine WP.seq ?_
    refine WP.reg [(0, false), (1, false), (2, false), (3, false)] (by kernel_rfl) ?_
    refine mv0 rfl rfl ?_
    refine mv0 rfl rfl ?_
    obtain ⟨g8, H⟩ := Gets.grd H
    refine Dv.bin rfl trivial rfl rfl (fun _ => run_rem g8) ?_
    refine as0 rfl rfl ?_
    refine .fin ?_
    obtain rfl := Gets.out H
    exact WP.retL (fun _ _ h => h) rfl () trivial (.cons (res_tmp rfl) .nil) rfl (st_seln 0 [] 0 rfl rfl rfl)
  · replace H := Gets.cf H c7
    refine WP.skip ?_
    refine WP.seq ?_
    refine WP.reg [(0, false), (1, false), (2, false), (3, false)] (by kernel_rfl) ?_
    refine mv0 rfl rfl ?_
    refine mv0 rfl rfl ?_
    obtain ⟨g9, H⟩ := Gets.grd H
    refine Dv.bin rfl trivial rfl rfl (fun _ => run_rem g9) ?_
    refine as0 rfl rfl ?_
    refine .fin ?_
    obtain rfl := Gets.out H
    exact WP.retL (fun _ _ h => h) rfl () trivial (.cons (res_tmp rfl) .nil) rfl (st_seln 0 [] 0 rfl rfl rfl)
theorem concourseref01_ServerOf.c {a0 : Int} {r : ByteArray} (h : concourseref01_ServerOf.f a0 = some r) : Pt Tryz.prog 40 [eq (.int .i64 a0)] (eq (.string r)) := by
  unfold concourseref01_ServerOf.f at h
  refine (Tr.body Tryz.func40 (c := _) rfl Tryz.ntmps40 (Nat.le_of_ble_eq_true rfl) fun R0 F => ?_).pt
  replace h := Gets.of h
  have H := h
  clear h
  refine WP.seq ?_
  refine WP.reg [(0, false)] (by kernel_rfl) ?_
  refine as0 rfl rfl ?_
  refine .fin ?_
  refine WP.seq ?_
  refine WP.reg [(0, false), (1, false), (2, false), (3, false), (4, false), (5, false)] (by kernel_rfl) ?_
  refine Dv.lit strK ([(⟨#[115, 49]⟩ : ByteArray), (⟨#[115, 50]⟩ : ByteArray), (⟨#[115, 51]⟩ : ByteArray)] : List ByteArray) (css := [[eq (.string (⟨#[115, 49]⟩ : ByteArray))], [eq (.string (⟨#[115, 50]⟩ : ByteArray))], [eq (.string (⟨#[115, 51]⟩ : ByteArray))]]) rfl trivial Tryz.underlying39 Tryz.underlying9 c9 z9 rfl (by decide) (by decide) rfl ⟨(cells_one (one_eq rfl)), ⟨(cells_one (one_eq rfl)), ⟨(cells_one (one_eq rfl)), trivial⟩⟩⟩ rfl rfl rfl ?_
  refine mv0 rfl rfl ?_
  obtain ⟨t10, h11, H⟩ := Gets.call H
  refine Dv.call rfl trivial cal12 rfl (concourseref01_Around.c h11) ?_
  obtain ⟨g12, H⟩ := Gets.grd H
  refine Dv.ixr rfl trivial rfl rfl Tryz.underlying39 Tryz.underlying9 c9 g12.1 g12.2 ?_
  refine Dv.ldr rfl trivial rfl Tryz.underlying9 rfl rfl ?_
  refine as0 rfl rfl ?_
  refine .fin ?_
  obtain rfl := Gets.out H
  exact WP.retL (fun _ _ h => h) rfl () trivial (.cons (res_tmp rfl) .nil) rfl (st_seln 0 [] 0 rfl rfl rfl)
theorem concourseref01_UserOf.c {a0 : Int} {r : ByteArray} (h : concourseref01_UserOf.f a0 = some r) : Pt Tryz.prog 18 [eq (.int .i64 a0)] (eq (.string r)) := by
  unfold concourseref01_UserOf.f at h
  refine (Tr.body Tryz.func18 (c := _) rfl Tryz.ntmps18 (Nat.le_of_ble_eq_true rfl) fun R0 F => ?_).pt
  replace h := Gets.of h
  have H := h
  clear h
  refine WP.seq ?_
  refine WP.reg [(0, false)] (by kernel_rfl) ?_
  refine as0 rfl rfl ?_
  refine .fin ?_
  refine WP.seq ?_
  refine WP.reg [(0, false), (1, false), (2, false)] (by kernel_rfl) ?_
  refine mv0 rfl rfl ?_
  obtain ⟨t13, h14, H⟩ := Gets.call H
  refine Dv.call rfl trivial cal12 rfl (concourseref01_Around.c h14) ?_
  refine as0 rfl rfl ?_
  refine .fin ?_
  refine WP.seq ?_
  refine WP.dreg Tryz.checked.mixed [(0, false), (1, false), (2, false), (3, false), (4, false), (5, false), (6, false), (7, false), (8, false), (9, false)] (by kernel_rfl) ?_
  refine Dv.lit strK ([(⟨#[64, 97, 58]⟩ : ByteArray), (⟨#[64, 98, 58]⟩ : ByteArray), (⟨#[64, 99, 58]⟩ : ByteArray)] : List ByteArray) (css := [[eq (.string (⟨#[64, 97, 58]⟩ : ByteArray))], [eq (.string (⟨#[64, 98, 58]⟩ : ByteArray))], [eq (.string (⟨#[64, 99, 58]⟩ : ByteArray))]]) rfl trivial Tryz.underlying39 Tryz.underlying9 c9 z9 rfl (by decide) (by decide) rfl ⟨(cells_one (one_eq rfl)), ⟨(cells_one (one_eq rfl)), ⟨(cells_one (one_eq rfl)), trivial⟩⟩⟩ rfl rfl rfl ?_
  refine mv0 rfl rfl ?_
  refine Dv.bin rfl trivial rfl rfl (fun _ => run_quo (by decide)) ?_
  obtain ⟨g15, H⟩ := Gets.grd H
  refine Dv.ixr rfl trivial rfl rfl Tryz.underlying39 Tryz.underlying9 c9 g15.1 g15.2 ?_
  refine Dv.ldr rfl trivial rfl Tryz.underlying9 rfl rfl ?_
  refine mv0 rfl rfl ?_
  refine Dv.bin rfl trivial rfl rfl (fun _ => run_rem (by decide)) ?_
  obtain ⟨t16, h17, H⟩ := Gets.call H
  refine Dv.call rfl trivial cal40 rfl (concourseref01_ServerOf.c h17) ?_
  obtain ⟨g18, H⟩ := Gets.grd H
  refine Dv.bin rfl trivial rfl rfl (fun _ => run_cat g18) ?_
  refine as0 rfl rfl ?_
  refine .fin ?_
  obtain rfl := Gets.out H
  exact WP.retL (fun _ _ h => h) rfl () trivial (.cons (res_tmp rfl) .nil) rfl (st_seln 0 [] 0 rfl rfl rfl)
theorem concourseref01_RoomOf.c {a0 : Int} {r : ByteArray} (h : concourseref01_RoomOf.f a0 = some r) : Pt Tryz.prog 48 [eq (.int .i64 a0)] (eq (.string r)) := by
  unfold concourseref01_RoomOf.f at h
  refine (Tr.body Tryz.func48 (c := _) rfl Tryz.ntmps48 (Nat.le_of_ble_eq_true rfl) fun R0 F => ?_).pt
  replace h := Gets.of h
  have H := h
  clear h
  refine WP.seq ?_
  refine WP.reg [(0, false)] (by kernel_rfl) ?_
  refine as0 rfl rfl ?_
  refine .fin ?_
  refine WP.seq ?_
  refine WP.reg [(0, false), (1, false), (2, false), (3, false), (4, false), (5, false)] (by kernel_rfl) ?_
  refine Dv.lit strK ([(⟨#[33, 114, 58, 115, 49]⟩ : ByteArray), (⟨#[33, 113, 58, 115, 50]⟩ : ByteArray)] : List ByteArray) (css := [[eq (.string (⟨#[33, 114, 58, 115, 49]⟩ : ByteArray))], [eq (.string (⟨#[33, 113, 58, 115, 50]⟩ : ByteArray))]]) rfl trivial Tryz.underlying39 Tryz.underlying9 c9 z9 rfl (by decide) (by decide) rfl ⟨(cells_one (one_eq rfl)), ⟨(cells_one (one_eq rfl)), trivial⟩⟩ rfl rfl rfl ?_
  refine mv0 rfl rfl ?_
  obtain ⟨t19, h20, H⟩ := Gets.call H
  refine Dv.call rfl trivial cal12 rfl (concourseref01_Around.c h20) ?_
  obtain ⟨g21, H⟩ := Gets.grd H
  refine Dv.ixr rfl trivial rfl rfl Tryz.underlying39 Tryz.underlying9 c9 g21.1 g21.2 ?_
  refine Dv.ldr rfl trivial rfl Tryz.underlying9 rfl rfl ?_
  refine as0 rfl rfl ?_
  refine .fin ?_
  obtain rfl := Gets.out H
  exact WP.retL (fun _ _ h => h) rfl () trivial (.cons (res_tmp rfl) .nil) rfl (st_seln 0 [] 0 rfl rfl rfl)
theorem concourseref01_Decimal.c : ∀ (k : Nat) {a0 : Int} {r : ByteArray} (h : concourseref01_Decimal.f k a0 = some r), Pt Tryz.prog 70 [eq (.int .i64 a0)] (eq (.string r))
  | 0, _, _, h => by cases h
  | k + 1, a0, r, h => by
    rw [concourseref01_Decimal.f] at h
    refine (Tr.body Tryz.func70 (c := _) rfl Tryz.ntmps70 (Nat.le_of_ble_eq_true rfl) fun R0 F => ?_).pt
    replace h := Gets.of h
    have H := h
    clear h
    refine WP.seq ?_
    refine WP.reg [(0, false)] (by kernel_rfl) ?_
    refine as0 rfl rfl ?_
    refine .fin ?_
    refine WP.seq ?_
    refine WP.reg [(0, false), (1, false), (2, false)] (by kernel_rfl) ?_
    refine mv0 rfl rfl ?_
    refine Dv.bin rfl trivial rfl rfl (fun _ => run_rem (by decide)) ?_
    refine as0 rfl rfl ?_
    refine .fin ?_
    refine WP.seqn H id (fun p22 : Int => [(0, eq (.int .i64 a0)), (2, eq (.string (⟨#[]⟩ : ByteArray))), (3, eq (.int .i64 p22)), (8, eq (.bool (decide ((a0.tmod 10) < 0))))]) (fun p22 : Int => [] ++ F) (fun p22 H => ?_) (fun H => ?_)
    · refine WP.seq ?_
      refine WP.reg [(0, false), (1, false), (2, false), (3, false), (4, false), (5, false)] (by kernel_rfl) ?_
      refine mv0 rfl rfl ?_
      refine Dv.bin rfl trivial rfl rfl (fun _ => run_add) ?_
      refine Dv.cvi rfl trivial rfl Tryz.underlying3 Tryz.underlying5 ?_
      refine Dv.lit (intK .u8) ([IntKind.u8.wrap (w64 (48 + p22))] : List Int) (css := [[eq (.int .u8 (IntKind.u8.wrap (w64 (48 + p22))))]]) rfl trivial Tryz.underlying82 Tryz.underlying5 c5 z5 rfl (by decide) (by decide) rfl ⟨(cells_one (one_eq rfl)), trivial⟩ rfl rfl rfl ?_
      refine Dv.cvbs rfl trivial rfl Tryz.underlying82 Tryz.underlying5 Tryz.underlying9 ?_
      refine as0 rfl rfl ?_
      refine .fin ?_
      refine WP.seq ?_
      refine WP.seq ?_
      refine WP.reg [(0, false), (1, false), (2, false), (3, false), (4, false), (5, false)] (by kernel_rfl) ?_
      refine mv0 rfl rfl ?_
      refine Dv.bin rfl trivial rfl rfl (fun _ => run_gt) ?_
      refine mv0 rfl rfl ?_
      cases c23 : decide ((-10) < a0)
      · replace H := Gets.cf H c23
        refine sk rfl rfl rfl rfl rfl ?_
        refine sk rfl rfl rfl rfl rfl ?_
        refine Dv.pickF rfl trivial rfl rfl ?_
        refine .fin ?_
        refine WP.cond rfl nofun (fun _ => ?_)
        refine WP.skip ?_
        refine WP.seq ?_
        refine WP.reg [(0, false), (1, false), (2, false), (3, false), (4, false), (5, false)] (by kernel_rfl) ?_
        refine mv0 rfl rfl ?_
        refine Dv.bin rfl trivial rfl rfl (fun _ => run_quo (by decide)) ?_
        obtain ⟨t31, h32, H⟩ := Gets.call H
        refine Dv.call rfl trivial cal70 rfl (concourseref01_Decimal.c k h32) ?_
        refine mv0 rfl rfl ?_
        obtain ⟨g33, H⟩ := Gets.grd H
        refine Dv.bin rfl trivial rfl rfl (fun _ => run_cat g33) ?_
        refine as0 rfl rfl ?_
        refine .fin ?_
        obtain rfl := Gets.out H
        exact WP.retL (fun _ _ h => h) rfl () trivial (.cons (res_tmp rfl) .nil) rfl (st_seln 0 [] 0 rfl rfl rfl)
      · replace H := Gets.ct H c23
        refine Dv.mv rfl ⟨_, _, rfl, rfl, rfl⟩ rfl ?_
        refine Dv.bin rfl ⟨_, _, rfl, rfl, rfl⟩ rfl rfl (fun _ => run_lt) ?_
        refine Dv.pickT rfl trivial rfl rfl ?_
        refine .fin ?_
        refine WP.cond rfl (fun c24 => ?_) (fun c24 => ?_)
        · replace H := Gets.ct H c24
          refine WP.seq ?_
          refine WP.seq ?_
          refine WP.reg [(0, false), (1, false)] (by kernel_rfl) ?_
          refine mv0 rfl rfl ?_
          refine Dv.bin rfl trivial rfl rfl (fun _ => run_lt) ?_
          refine .fin ?_
          refine WP.cond rfl (fun c25 => ?_) (fun c25 => ?_)
          · replace H := Gets.ct H c25
            refine WP.seq ?_
            refine WP.reg [(0, false), (1, false), (2, false)] (by kernel_rfl) ?_
            refine mv0 rfl rfl ?_
            obtain ⟨g26, H⟩ := Gets.grd H
            refine Dv.bin rfl trivial rfl rfl (fun _ => run_cat g26) ?_
            refine as0 rfl rfl ?_
            refine .fin ?_
            obtain rfl := Gets.out H
            exact WP.retL (fun _ _ h => h) rfl () trivial (.cons (res_tmp rfl) .nil) rfl (st_seln 0 [] 0 rfl rfl rfl)
          · replace H := Gets.cf H c25
            refine WP.skip ?_
            refine WP.seq ?_
            refine WP.reg [(0, false), (1, false)] (by kernel_rfl) ?_
            refine mv0 rfl rfl ?_
            refine as0 rfl rfl ?_
            refine .fin ?_
            obtain rfl := Gets.out H
            exact WP.retL (fun _ _ h => h) rfl () trivial (.cons (res_tmp rfl) .nil) rfl (st_seln 0 [] 0 rfl rfl rfl)
        · replace H := Gets.cf H c24
          refine WP.skip ?_
          refine WP.seq ?_
          refine WP.reg [(0, false), (1, false), (2, false), (3, false), (4, false), (5, false)] (by kernel_rfl) ?_
          refine mv0 rfl rfl ?_
          refine Dv.bin rfl trivial rfl rfl (fun _ => run_quo (by decide)) ?_
          obtain ⟨t27, h28, H⟩ := Gets.call H
          refine Dv.call rfl trivial cal70 rfl (concourseref01_Decimal.c k h28) ?_
          refine mv0 rfl rfl ?_
          obtain ⟨g29, H⟩ := Gets.grd H
          refine Dv.bin rfl trivial rfl rfl (fun _ => run_cat g29) ?_
          refine as0 rfl rfl ?_
          refine .fin ?_
          obtain rfl := Gets.out H
          exact WP.retL (fun _ _ h => h) rfl () trivial (.cons (res_tmp rfl) .nil) rfl (st_seln 0 [] 0 rfl rfl rfl)
    · refine WP.seq ?_
      refine WP.reg [(0, false), (1, false)] (by kernel_rfl) ?_
      refine mv0 rfl rfl ?_
      refine Dv.bin rfl trivial rfl rfl (fun _ => run_lt) ?_
      refine .fin ?_
      refine WP.cond rfl (fun c34 => ?_) (fun c34 => ?_)
      · replace H := Gets.ct H c34
        refine WP.reg [(0, false), (1, false), (2, false)] (by kernel_rfl) ?_
        refine mv0 rfl rfl ?_
        refine Dv.un rfl trivial rfl (fun _ => run_neg _ _) ?_
        refine as0 rfl rfl ?_
        refine .fin ?_
        replace H := Gets.out H
        exact Jn.mk (w64 (0 - (a0.tmod 10))) H (weak_cons rfl (weak_cons rfl (weak_cons rfl (weak_cons rfl weak_nil)))) (List.Perm.refl _)
      · replace H := Gets.cf H c34
        refine WP.skip ?_
        replace H := Gets.out H
        exact Jn.mk (a0.tmod 10) H (weak_cons rfl (weak_cons rfl (weak_cons rfl (weak_cons rfl weak_nil)))) (List.Perm.refl _)
theorem concourseref01_EventOf.c {k : Nat} {a0 : Int} {r : ByteArray} (h : concourseref01_EventOf.f k a0 = some r) : Pt Tryz.prog 49 [eq (.int .i64 a0)] (eq (.string r)) := by
  unfold concourseref01_EventOf.f at h
  refine (Tr.body Tryz.func49 (c := _) rfl Tryz.ntmps49 (Nat.le_of_ble_eq_true rfl) fun R0 F => ?_).pt
  replace h := Gets.of h
  have H := h
  clear h
  refine WP.seq ?_
  refine WP.reg [(0, false)] (by kernel_rfl) ?_
  refine as0 rfl rfl ?_
  refine .fin ?_
  refine WP.seq ?_
  refine WP.reg [(0, false), (1, false), (2, false), (3, false), (4, false)] (by kernel_rfl) ?_
  refine mv0 rfl rfl ?_
  obtain ⟨t35, h36, H⟩ := Gets.call H
  refine Dv.call rfl trivial cal12 rfl (concourseref01_Around.c h36) ?_
  obtain ⟨t37, h38, H⟩ := Gets.call H
  refine Dv.call rfl trivial cal70 rfl (concourseref01_Decimal.c _ h38) ?_
  obtain ⟨g39, H⟩ := Gets.grd H
  refine Dv.bin rfl trivial rfl rfl (fun _ => run_cat g39) ?_
  refine as0 rfl rfl ?_
  refine .fin ?_
  obtain rfl := Gets.out H
  exact WP.retL (fun _ _ h => h) rfl () trivial (.cons (res_tmp rfl) .nil) rfl (st_seln 0 [] 0 rfl rfl rfl)
theorem concourseref01_ThreadOf.c {k : Nat} {a0 : Int} {r : ByteArray} (h : concourseref01_ThreadOf.f k a0 = some r) : Pt Tryz.prog 50 [eq (.int .i64 a0)] (eq (.string r)) := by
  unfold concourseref01_ThreadOf.f at h
  refine (Tr.body Tryz.func50 (c := _) rfl Tryz.ntmps50 (Nat.le_of_ble_eq_true rfl) fun R0 F => ?_).pt
  replace h := Gets.of h
  have H := h
  clear h
  refine WP.seq ?_
  refine WP.reg [(0, false)] (by kernel_rfl) ?_
  refine as0 rfl rfl ?_
  refine .fin ?_
  refine WP.seq ?_
  refine WP.reg [(0, false), (1, false), (2, false)] (by kernel_rfl) ?_
  refine mv0 rfl rfl ?_
  obtain ⟨t40, h41, H⟩ := Gets.call H
  refine Dv.call rfl trivial cal12 rfl (concourseref01_Around.c h41) ?_
  refine as0 rfl rfl ?_
  refine .fin ?_
  refine WP.seq ?_
  refine WP.seq ?_
  refine WP.reg [(0, false), (1, false)] (by kernel_rfl) ?_
  refine mv0 rfl rfl ?_
  refine Dv.bin rfl trivial rfl rfl (fun _ => run_eq) ?_
  refine .fin ?_
  refine WP.cond rfl (fun c42 => ?_) (fun c42 => ?_)
  · replace H := Gets.ct H c42
    refine WP.seq ?_
    refine WP.reg [(0, false)] (by kernel_rfl) ?_
    refine as0 rfl rfl ?_
    refine .fin ?_
    obtain rfl := Gets.out H
    exact WP.retL (fun _ _ h => h) rfl () trivial (.cons (res_tmp rfl) .nil) rfl (st_seln 0 [] 0 rfl rfl rfl)
  · replace H := Gets.cf H c42
    refine WP.skip ?_
    refine WP.seq ?_
    refine WP.seq ?_
    refine WP.reg [(0, false), (1, false)] (by kernel_rfl) ?_
    refine mv0 rfl rfl ?_
    refine Dv.bin rfl trivial rfl rfl (fun _ => run_eq) ?_
    refine .fin ?_
    refine WP.cond rfl (fun c43 => ?_) (fun c43 => ?_)
    · replace H := Gets.ct H c43
      refine WP.seq ?_
      refine WP.reg [(0, false)] (by kernel_rfl) ?_
      refine as0 rfl rfl ?_
      refine .fin ?_
      obtain rfl := Gets.out H
      exact WP.retL (fun _ _ h => h) rfl () trivial (.cons (res_tmp rfl) .nil) rfl (st_seln 0 [] 0 rfl rfl rfl)
    · replace H := Gets.cf H c43
      refine WP.skip ?_
      refine WP.seq ?_
      refine WP.reg [(0, false), (1, false), (2, false)] (by kernel_rfl) ?_
      refine mv0 rfl rfl ?_
      obtain ⟨t44, h45, H⟩ := Gets.call H
      refine Dv.call rfl trivial cal49 rfl (concourseref01_EventOf.c h45) ?_
      refine as0 rfl rfl ?_
      refine .fin ?_
      obtain rfl := Gets.out H
      exact WP.retL (fun _ _ h => h) rfl () trivial (.cons (res_tmp rfl) .nil) rfl (st_seln 0 [] 0 rfl rfl rfl)
theorem concourseref03_Good.c {k : Nat} {a0 : Edu} {r : Edu} (h : concourseref03_Good.f k a0 = some r) : Pt Tryz.prog 30 [agg (Edu.enc a0)] (agg (Edu.enc r)) := by
  unfold concourseref03_Good.f at h
  refine (Tr.body Tryz.func30 (c := _) rfl Tryz.ntmps30 (Nat.le_of_ble_eq_true rfl) fun R0 F => ?_).pt
  replace h := Gets.of h
  have H := h
  clear h
  refine WP.seq ?_
  refine WP.reg [(0, true), (1, true)] (by kernel_rfl) ?_
  refine Dv.box rfl trivial rfl (cells_agg (Edu.K.one _)) nofun (fun b46 => ?_)
  refine Dv.alloc (z := .agg #[.int .i64 0, .string ⟨#[]⟩, .string ⟨#[]⟩, .string ⟨#[]⟩, .string ⟨#[]⟩, .bool false, .bool false, .int .i64 0, .int .i64 0, .int .i64 0, .int .i64 0]) (qs := [eq (.int .i64 0), eq (.string (⟨#[]⟩ : ByteArray)), eq (.string (⟨#[]⟩ : ByteArray)), eq (.string (⟨#[]⟩ : ByteArray)), eq (.string (⟨#[]⟩ : ByteArray)), eq (.bool false), eq (.bool false), eq (.int .i64 0), eq (.int .i64 0), eq (.int .i64 0), eq (.int .i64 0)]) rfl trivial z32 rfl nofun (fun b47 => ?_)
  refine .fin ?_
  refine WP.seq ?_
  refine WP.dreg Tryz.checked.mixed [(0, false), (1, false), (2, false), (3, false), (4, false), (5, false), (6, false), (7, false), (8, false), (9, false), (10, false), (11, false), (12, false), (13, false), (14, true), (15, true)] (by kernel_rfl) ?_
  refine Dv.fab rfl trivial rfl Tryz.underlying32 rfl Tryz.underlying3 c3 (by decide) ?_
  refine Dv.ldb rfl trivial rfl Tryz.underlying3 rfl (mem_at 1 rfl) rfl ?_
  obtain ⟨t48, h49, H⟩ := Gets.call H
  refine Dv.call rfl trivial cal12 rfl (concourseref01_Around.c h49) ?_
  refine Dv.bin rfl trivial rfl rfl (fun _ => run_add) ?_
  refine Dv.fab rfl trivial rfl Tryz.underlying32 rfl Tryz.underlying3 c3 (by decide) ?_
  refine Dv.ldb rfl trivial rfl Tryz.underlying3 rfl (mem_at 1 rfl) rfl ?_
  obtain ⟨t50, h51, H⟩ := Gets.call H
  refine Dv.call rfl trivial cal18 rfl (concourseref01_UserOf.c h51) ?_
  refine Dv.fab rfl trivial rfl Tryz.underlying32 rfl Tryz.underlying3 c3 (by decide) ?_
  refine Dv.ldb rfl trivial rfl Tryz.underlying3 rfl (mem_at 1 rfl) rfl ?_
  obtain ⟨t52, h53, H⟩ := Gets.call H
  refine Dv.call rfl trivial cal12 rfl (concourseref01_Around.c h53) ?_
  refine Dv.fab rfl trivial rfl Tryz.underlying32 rfl Tryz.underlying3 c3 (by decide) ?_
  refine Dv.ldb rfl trivial rfl Tryz.underlying3 rfl (mem_at 1 rfl) rfl ?_
  obtain ⟨t54, h55, H⟩ := Gets.call H
  refine Dv.call rfl trivial cal12 rfl (concourseref01_Around.c h55) ?_
  refine Dv.bld (css := [[eq (.int .i64 (w64 (1 + t48)))], [eq (.string t50)], [eq (.int .i64 t52)], [eq (.int .i64 t54)]]) rfl trivial Tryz.underlying32 pl32 z32 rfl ⟨(cells_one (one_eq rfl)), ⟨(cells_one (one_eq rfl)), ⟨(cells_one (one_eq rfl)), ⟨(cells_one (one_eq rfl)), trivial⟩⟩⟩⟩ rfl rfl ?_
  refine Dv.alloc (z := .agg #[.int .i64 0, .string ⟨#[]⟩, .string ⟨#[]⟩, .string ⟨#[]⟩, .string ⟨#[]⟩, .bool false, .bool false, .int .i64 0, .int .i64 0, .int .i64 0, .int .i64 0]) (qs := [eq (.int .i64 0), eq (.string (⟨#[]⟩ : ByteArray)), eq (.string (⟨#[]⟩ : ByteArray)), eq (.string (⟨#[]⟩ : ByteArray)), eq (.string (⟨#[]⟩ : ByteArray)), eq (.bool false), eq (.bool false), eq (.int .i64 0), eq (.int .i64 0), eq (.int .i64 0), eq (.int .i64 0)]) rfl trivial z32 rfl (fun _ => (pend_in (fun _ => trivial) (pend_in (fun _ => trivial) (pend_in (fun _ => (mem_at 2 rfl)) (pend_in (fun _ => trivial) (pend_in (fun _ => trivial) (pend_in (fun _ => (mem_at 2 rfl)) (pend_in (fun _ => trivial) (pend_in (fun _ => trivial) (pend_in (fun _ => (mem_at 2 rfl)) (pend_in (fun _ => trivial) (pend_in (fun _ => trivial) (pend_in (fun _ => trivial) (pend_in (fun _ => (mem_at 2 rfl)) (pend_in (fun _ => trivial) pend_nil))))))))))))))) (fun b56 => ?_)
  refine Dv.stx ([blk b56 32 [eq (.int .i64 (w64 (1 + t48))), eq (.string (⟨#[]⟩ : ByteArray)), eq (.string t50), eq (.string (⟨#[]⟩ : ByteArray)), eq (.string (⟨#[]⟩ : ByteArray)), eq (.bool false), eq (.bool false), eq (.int .i64 0), eq (.int .i64 0), eq (.int .i64 t52), eq (.int .i64 t54)], blk b47 32 [eq (.int .i64 0), eq (.string (⟨#[]⟩ : ByteArray)), eq (.string (⟨#[]⟩ : ByteArray)), eq (.string (⟨#[]⟩ : ByteArray)), eq (.string (⟨#[]⟩ : ByteArray)), eq (.bool false), eq (.bool false), eq (.int .i64 0), eq (.int .i64 0), eq (.int .i64 0), eq (.int .i64 0)], blk b46 32 [eq (.int .i64 a0.fKind), eq (.string a0.fRoom), eq (.string a0.fUser), eq (.string a0.fEvent), eq (.string a0.fThread), eq (.bool a0.fPrivate), eq (.bool a0.fOn), eq (.int .i64 a0.fSpan), eq (.int .i64 a0.fState), eq (.int .i64 a0.fTick), eq (.int .i64 a0.fStamp)]] ++ F) rfl trivial rfl rfl (cells_agg (ones_cons (one_eq rfl) (ones_cons (one_eq rfl) (ones_cons (one_eq rfl) (ones_cons (one_eq rfl) (ones_cons (one_eq rfl) (ones_cons (one_eq rfl) (ones_cons (one_eq rfl) (ones_cons (one_eq rfl) (ones_cons (one_eq rfl) (ones_cons (one_eq rfl) (ones_cons (one_eq rfl) ones_nil)))))))))))) Tryz.underlying32 c32 rfl (j := 0) rfl (Nat.le_of_ble_eq_true rfl) rfl (fun _ => pend_bits (by kernel_rfl)) ?_
  refine .fin ?_
  refine WP.seq ?_
  refine WP.seq ?_
  refine WP.reg [(0, false), (1, false)] (by kernel_rfl) ?_
  refine Dv.fab rfl trivial rfl Tryz.underlying32 rfl Tryz.underlying3 c3 (by decide) ?_
  refine Dv.ldb rfl trivial rfl Tryz.underlying3 rfl (mem_at 0 rfl) rfl ?_
  refine .fin ?_
  refine WP.block ?_
  refine WP.seq ?_
  refine WP.reg [(0, false), (1, false)] (by kernel_rfl) ?_
  refine Dv.bin rfl trivial rfl rfl (fun _ => run_eq) ?_
  refine as0 rfl rfl ?_
  refine .fin ?_
  refine WP.cond rfl (fun c57 => ?_) (fun c57 => ?_)
  · replace H := Gets.ct H c57
    refine WP.seq ?_
    refine WP.reg [(0, false), (1, false), (2, false), (3, false), (4, true)] (by kernel_rfl) ?_
    refine Dv.fab rfl trivial rfl Tryz.underlying32 rfl Tryz.underlying3 c3 (by decide) ?_
    refine Dv.ldb rfl trivial rfl Tryz.underlying3 rfl (mem_at 2 rfl) rfl ?_
    obtain ⟨t58, h59, H⟩ := Gets.call H
    refine Dv.call rfl trivial cal48 rfl (concourseref01_RoomOf.c h59) ?_
    refine Dv.fab rfl trivial rfl Tryz.underlying32 rfl Tryz.underlying9 c9 (by decide) ?_
    refine Dv.stx ([blk b56 32 [eq (.int .i64 (w64 (1 + t48))), eq (.string t58), eq (.string t50), eq (.string (⟨#[]⟩ : ByteArray)), eq (.string (⟨#[]⟩ : ByteArray)), eq (.bool false), eq (.bool false), eq (.int .i64 0), eq (.int .i64 0), eq (.int .i64 t52), eq (.int .i64 t54)], blk b47 32 [eq (.int .i64 0), eq (.string (⟨#[]⟩ : ByteArray)), eq (.string (⟨#[]⟩ : ByteArray)), eq (.string (⟨#[]⟩ : ByteArray)), eq (.string (⟨#[]⟩ : ByteArray)), eq (.bool false), eq (.bool false), eq (.int .i64 0), eq (.int .i64 0), eq (.int .i64 0), eq (.int .i64 0)], blk b46 32 [eq (.int .i64 a0.fKind), eq (.string a0.fRoom), eq (.string a0.fUser), eq (.string a0.fEvent), eq (.string a0.fThread), eq (.bool a0.fPrivate), eq (.bool a0.fOn), eq (.int .i64 a0.fSpan), eq (.int .i64 a0.fState), eq (.int .i64 a0.fTick), eq (.int .i64 a0.fStamp)]] ++ F) rfl trivial rfl rfl (cells_one (one_eq rfl)) Tryz.underlying9 c9 rfl (j := 0) rfl (Nat.le_of_ble_eq_true rfl) rfl nofun ?_
    refine .fin ?_
    refine WP.seq ?_
    refine WP.dreg Tryz.checked.mixed [(0, false), (1, false), (2, false), (3, false), (4, false), (5, false), (6, false), (7, false), (8, false), (9, true)] (by kernel_rfl) ?_
    refine Dv.fab rfl trivial rfl Tryz.underlying32 rfl Tryz.underlying9 c9 (by decide) ?_
    refine Dv.ldb rfl trivial rfl Tryz.underlying9 rfl (mem_at 2 rfl) rfl ?_
    refine Dv.lens rfl trivial rfl Tryz.underlying9 ?_
    refine Dv.fab rfl trivial rfl Tryz.underlying32 rfl Tryz.underlying3 c3 (by decide) ?_
    refine Dv.ldb rfl trivial rfl Tryz.underlying3 rfl (mem_at 2 rfl) rfl ?_
    obtain ⟨t60, h61, H⟩ := Gets.call H
    refine Dv.call rfl trivial cal12 rfl (concourseref01_Around.c h61) ?_
    refine Dv.bin rfl trivial rfl rfl (fun _ => run_add) ?_
    obtain ⟨t62, h63, H⟩ := Gets.call H
    refine Dv.call rfl trivial cal49 rfl (concourseref01_EventOf.c h63) ?_
    refine Dv.fab rfl trivial rfl Tryz.underlying32 rfl Tryz.underlying9 c9 (by decide) ?_
    refine Dv.stx ([blk b56 32 [eq (.int .i64 (w64 (1 + t48))), eq (.string t58), eq (.string t50), eq (.string t62), eq (.string (⟨#[]⟩ : ByteArray)), eq (.bool false), eq (.bool false), eq (.int .i64 0), eq (.int .i64 0), eq (.int .i64 t52), eq (.int .i64 t54)], blk b47 32 [eq (.int .i64 0), eq (.string (⟨#[]⟩ : ByteArray)), eq (.string (⟨#[]⟩ : ByteArray)), eq (.string (⟨#[]⟩ : ByteArray)), eq (.string (⟨#[]⟩ : ByteArray)), eq (.bool false), eq (.bool false), eq (.int .i64 0), eq (.int .i64 0), eq (.int .i64 0), eq (.int .i64 0)], blk b46 32 [eq (.int .i64 a0.fKind), eq (.string a0.fRoom), eq (.string a0.fUser), eq (.string a0.fEvent), eq (.string a0.fThread), eq (.bool a0.fPrivate), eq (.bool a0.fOn), eq (.int .i64 a0.fSpan), eq (.int .i64 a0.fState), eq (.int .i64 a0.fTick), eq (.int .i64 a0.fStamp)]] ++ F) rfl trivial rfl rfl (cells_one (one_eq rfl)) Tryz.underlying9 c9 rfl (j := 0) rfl (Nat.le_of_ble_eq_true rfl) rfl (fun _ => pend_bits (by kernel_rfl)) ?_
    refine .fin ?_
    refine WP.seq ?_
    refine WP.reg [(0, false), (1, false), (2, false), (3, false), (4, false), (5, true)] (by kernel_rfl) ?_
    refine Dv.fab rfl trivial rfl Tryz.underlying32 rfl Tryz.underlying9 c9 (by decide) ?_
    refine Dv.ldb rfl trivial rfl Tryz.underlying9 rfl (mem_at 2 rfl) rfl ?_
    refine Dv.lens rfl trivial rfl Tryz.underlying9 ?_
    obtain ⟨t64, h65, H⟩ := Gets.call H
    refine Dv.call rfl trivial cal50 rfl (concourseref01_ThreadOf.c h65) ?_
    refine Dv.fab rfl trivial rfl Tryz.underlying32 rfl Tryz.underlying9 c9 (by decide) ?_
    refine Dv.stx ([blk b56 32 [eq (.int .i64 (w64 (1 + t48))), eq (.string t58), eq (.string t50), eq (.string t62), eq (.string t64), eq (.bool false), eq (.bool false), eq (.int .i64 0), eq (.int .i64 0), eq (.int .i64 t52), eq (.int .i64 t54)], blk b47 32 [eq (.int .i64 0), eq (.string (⟨#[]⟩ : ByteArray)), eq (.string (⟨#[]⟩ : ByteArray)), eq (.string (⟨#[]⟩ : ByteArray)), eq (.string (⟨#[]⟩ : ByteArray)), eq (.bool false), eq (.bool false), eq (.int .i64 0), eq (.int .i64 0), eq (.int .i64 0), eq (.int .i64 0)], blk b46 32 [eq (.int .i64 a0.fKind), eq (.string a0.fRoom), eq (.string a0.fUser), eq (.string a0.fEvent), eq (.string a0.fThread), eq (.bool a0.fPrivate), eq (.bool a0.fOn), eq (.int .i64 a0.fSpan), eq (.int .i64 a0.fState), eq (.int .i64 a0.fTick), eq (.int .i64 a0.fStamp)]] ++ F) rfl trivial rfl rfl (cells_one (one_eq rfl)) Tryz.underlying9 c9 rfl (j := 0) rfl (Nat.le_of_ble_eq_true rfl) rfl nofun ?_
    refine .fin ?_
    refine WP.reg [(0, false), (1, false), (2, false), (3, true)] (by kernel_rfl) ?_
    refine Dv.fab rfl trivial rfl Tryz.underlying32 rfl Tryz.underlying4 c4 (by decide) ?_
    refine Dv.ldb rfl trivial rfl Tryz.underlying4 rfl (mem_at 2 rfl) rfl ?_
    refine Dv.fab rfl trivial rfl Tryz.underlying32 rfl Tryz.underlying4 c4 (by decide) ?_
    refine Dv.stx ([blk b56 32 [eq (.int .i64 (w64 (1 + t48))), eq (.string t58), eq (.string t50), eq (.string t62), eq (.string t64), eq (.bool a0.fPrivate), eq (.bool false), eq (.int .i64 0), eq (.int .i64 0), eq (.int .i64 t52), eq (.int .i64 t54)], blk b47 32 [eq (.int .i64 0), eq (.string (⟨#[]⟩ : ByteArray)), eq (.string (⟨#[]⟩ : ByteArray)), eq (.string (⟨#[]⟩ : ByteArray)), eq (.string (⟨#[]⟩ : ByteArray)), eq (.bool false), eq (.bool false), eq (.int .i64 0), eq (.int .i64 0), eq (.int .i64 0), eq (.int .i64 0)], blk b46 32 [eq (.int .i64 a0.fKind), eq (.string a0.fRoom), eq (.string a0.fUser), eq (.string a0.fEvent), eq (.string a0.fThread), eq (.bool a0.fPrivate), eq (.bool a0.fOn), eq (.int .i64 a0.fSpan), eq (.int .i64 a0.fState), eq (.int .i64 a0.fTick), eq (.int .i64 a0.fStamp)]] ++ F) rfl trivial rfl rfl (cells_one (one_eq rfl)) Tryz.underlying4 c4 rfl (j := 0) rfl (Nat.le_of_ble_eq_true rfl) rfl nofun ?_
    refine .fin ?_
    refine WP.seq ?_
    refine WP.reg [(0, false), (1, true)] (by kernel_rfl) ?_
    refine Dv.ldbs rfl trivial rfl Tryz.underlying32 rfl c32 (mem_at 0 rfl) (Nat.le_of_ble_eq_true rfl) ?_
    refine Dv.stx ([blk b56 32 [eq (.int .i64 (w64 (1 + t48))), eq (.string t58), eq (.string t50), eq (.string t62), eq (.string t64), eq (.bool a0.fPrivate), eq (.bool false), eq (.int .i64 0), eq (.int .i64 0), eq (.int .i64 t52), eq (.int .i64 t54)], blk b47 32 [eq (.int .i64 (w64 (1 + t48))), eq (.string t58), eq (.string t50), eq (.string t62), eq (.string t64), eq (.bool a0.fPrivate), eq (.bool false), eq (.int .i64 0), eq (.int .i64 0), eq (.int .i64 t52), eq (.int .i64 t54)], blk b46 32 [eq (.int .i64 a0.fKind), eq (.string a0.fRoom), eq (.string a0.fUser), eq (.string a0.fEvent), eq (.string a0.fThread), eq (.bool a0.fPrivate), eq (.bool a0.fOn), eq (.int .i64 a0.fSpan), eq (.int .i64 a0.fState), eq (.int .i64 a0.fTick), eq (.int .i64 a0.fStamp)]] ++ F) rfl trivial rfl rfl (cells_agg (ones_cons (one_eq rfl) (ones_cons (one_eq rfl) (ones_cons (one_eq rfl) (ones_cons (one_eq rfl) (ones_cons (one_eq rfl) (ones_cons (one_eq rfl) (ones_cons (one_eq rfl) (ones_cons (one_eq rfl) (ones_cons (one_eq rfl) (ones_cons (one_eq rfl) (ones_cons (one_eq rfl) ones_nil)))))))))))) Tryz.underlying32 c32 rfl (j := 1) rfl (Nat.le_of_ble_eq_true rfl) rfl nofun ?_
    refine .fin ?_
    obtain rfl := Gets.out H
    exact WP.retL (fun _ _ h => h) rfl () trivial (.cons (res_cells rfl Tryz.underlying32 rfl c32 (mem_at 1 rfl) rfl) .nil) rfl (st_seln 3 [0, 1, 2] 3 rfl rfl rfl)
  · replace H := Gets.cf H c57
    refine WP.seq ?_
    refine WP.reg [(0, false), (1, false)] (by kernel_rfl) ?_
    refine Dv.bin rfl trivial rfl rfl (fun _ => run_eq) ?_
    refine as0 rfl rfl ?_
    refine .fin ?_
    refine WP.cond rfl (fun c66 => ?_) (fun c66 => ?_)
    · replace H := Gets.ct H c66
      refine WP.seq ?_
      refine WP.reg [(0, false), (1, false), (2, false), (3, false), (4, true)] (by kernel_rfl) ?_
      refine Dv.fab rfl trivial rfl Tryz.underlying32 rfl Tryz.underlying3 c3 (by decide) ?_
      refine Dv.ldb rfl trivial rfl Tryz.underlying3 rfl (mem_at 2 rfl) rfl ?_
      obtain ⟨t67, h68, H⟩ := Gets.call H
      refine Dv.call rfl trivial cal48 rfl (concourseref01_RoomOf.c h68) ?_
      refine Dv.fab rfl trivial rfl Tryz.underlying32 rfl Tryz.underlying9 c9 (by decide) ?_
      refine Dv.stx ([blk b56 32 [eq (.int .i64 (w64 (1 + t48))), eq (.string t67), eq (.string t50), eq (.string (⟨#[]⟩ : ByteArray)), eq (.string (⟨#[]⟩ : ByteArray)), eq (.bool false), eq (.bool false), eq (.int .i64 0), eq (.int .i64 0), eq (.int .i64 t52), eq (.int .i64 t54)], blk b47 32 [eq (.int .i64 0), eq (.string (⟨#[]⟩ : ByteArray)), eq (.string (⟨#[]⟩ : ByteArray)), eq (.string (⟨#[]⟩ : ByteArray)), eq (.string (⟨#[]⟩ : ByteArray)), eq (.bool false), eq (.bool false), eq (.int .i64 0), eq (.int .i64 0), eq (.int .i64 0), eq (.int .i64 0)], blk b46 32 [eq (.int .i64 a0.fKind), eq (.string a0.fRoom), eq (.string a0.fUser), eq (.string a0.fEvent), eq (.string a0.fThread), eq (.bool a0.fPrivate), eq (.bool a0.fOn), eq (.int .i64 a0.fSpan), eq (.int .i64 a0.fState), eq (.int .i64 a0.fTick), eq (.int .i64 a0.fStamp)]] ++ F) rfl trivial rfl rfl (cells_one (one_eq rfl)) Tryz.underlying9 c9 rfl (j := 0) rfl (Nat.le_of_ble_eq_true rfl) rfl nofun ?_
      refine .fin ?_
      refine WP.seq ?_
      refine WP.reg [(0, false), (1, false), (2, false), (3, true)] (by kernel_rfl) ?_
      refine Dv.fab rfl trivial rfl Tryz.underlying32 rfl Tryz.underlying4 c4 (by decide) ?_
      refine Dv.ldb rfl trivial rfl Tryz.underlying4 rfl (mem_at 2 rfl) rfl ?_
      refine Dv.fab rfl trivial rfl Tryz.underlying32 rfl Tryz.underlying4 c4 (by decide) ?_
      refine Dv.stx ([blk b56 32 [eq (.int .i64 (w64 (1 + t48))), eq (.string t67), eq (.string t50), eq (.string (⟨#[]⟩ : ByteArray)), eq (.string (⟨#[]⟩ : ByteArray)), eq (.bool false), eq (.bool a0.fOn), eq (.int .i64 0), eq (.int .i64 0), eq (.int .i64 t52), eq (.int .i64 t54)], blk b47 32 [eq (.int .i64 0), eq (.string (⟨#[]⟩ : ByteArray)), eq (.string (⟨#[]⟩ : ByteArray)), eq (.string (⟨#[]⟩ : ByteArray)), eq (.string (⟨#[]⟩ : ByteArray)), eq (.bool false), eq (.bool false), eq (.int .i64 0), eq (.int .i64 0), eq (.int .i64 0), eq (.int .i64 0)], blk b46 32 [eq (.int .i64 a0.fKind), eq (.string a0.fRoom), eq (.string a0.fUser), eq (.string a0.fEvent), eq (.string a0.fThread), eq (.bool a0.fPrivate), eq (.bool a0.fOn), eq (.int .i64 a0.fSpan), eq (.int .i64 a0.fState), eq (.int .i64 a0.fTick), eq (.int .i64 a0.fStamp)]] ++ F) rfl trivial rfl rfl (cells_one (one_eq rfl)) Tryz.underlying4 c4 rfl (j := 0) rfl (Nat.le_of_ble_eq_true rfl) rfl nofun ?_
      refine .fin ?_
      refine WP.seq ?_
      refine WP.reg [(0, false), (1, false)] (by kernel_rfl) ?_
      refine Dv.fab rfl trivial rfl Tryz.underlying32 rfl Tryz.underlying4 c4 (by decide) ?_
      refine Dv.ldb rfl trivial rfl Tryz.underlying4 rfl (mem_at 2 rfl) rfl ?_
      refine .fin ?_
      refine WP.cond rfl (fun c69 => ?_) (fun c69 => ?_)
      · replace H := Gets.ct H c69
        refine WP.reg [(0, false), (1, false), (2, false), (3, false), (4, false), (5, true)] (by kernel_rfl) ?_
        refine Dv.fab rfl trivial rfl Tryz.underlying32 rfl Tryz.underlying3 c3 (by decide) ?_
        refine Dv.ldb rfl trivial rfl Tryz.underlying3 rfl (mem_at 2 rfl) rfl ?_
        obtain ⟨t70, h71, H⟩ := Gets.call H
        refine Dv.call rfl trivial cal12 rfl (concourseref01_Around.c h71) ?_
        refine Dv.bin rfl trivial rfl rfl (fun _ => run_add) ?_
        refine Dv.fab rfl trivial rfl Tryz.underlying32 rfl Tryz.underlying3 c3 (by decide) ?_
        refine Dv.stx ([blk b56 32 [eq (.int .i64 (w64 (1 + t48))), eq (.string t67), eq (.string t50), eq (.string (⟨#[]⟩ : ByteArray)), eq (.string (⟨#[]⟩ : ByteArray)), eq (.bool false), eq (.bool a0.fOn), eq (.int .i64 (w64 (1 + t70))), eq (.int .i64 0), eq (.int .i64 t52), eq (.int .i64 t54)], blk b47 32 [eq (.int .i64 0), eq (.string (⟨#[]⟩ : ByteArray)), eq (.string (⟨#[]⟩ : ByteArray)), eq (.string (⟨#[]⟩ : ByteArray)), eq (.string (⟨#[]⟩ : ByteArray)), eq (.bool false), eq (.bool false), eq (.int .i64 0), eq (.int .i64 0), eq (.int .i64 0), eq (.int .i64 0)], blk b46 32 [eq (.int .i64 a0.fKind), eq (.string a0.fRoom), eq (.string a0.fUser), eq (.string a0.fEvent), eq (.string a0.fThread), eq (.bool a0.fPrivate), eq (.bool a0.fOn), eq (.int .i64 a0.fSpan), eq (.int .i64 a0.fState), eq (.int .i64 a0.fTick), eq (.int .i64 a0.fStamp)]] ++ F) rfl trivial rfl rfl (cells_one (one_eq rfl)) Tryz.underlying3 c3 rfl (j := 0) rfl (Nat.le_of_ble_eq_true rfl) rfl nofun ?_
        refine .fin ?_
        refine WP.seq ?_
        refine WP.reg [(0, false), (1, true)] (by kernel_rfl) ?_
        refine Dv.ldbs rfl trivial rfl Tryz.underlying32 rfl c32 (mem_at 0 rfl) (Nat.le_of_ble_eq_true rfl) ?_
        refine Dv.stx ([blk b56 32 [eq (.int .i64 (w64 (1 + t48))), eq (.string t67), eq (.string t50), eq (.string (⟨#[]⟩ : ByteArray)), eq (.string (⟨#[]⟩ : ByteArray)), eq (.bool false), eq (.bool a0.fOn), eq (.int .i64 (w64 (1 + t70))), eq (.int .i64 0), eq (.int .i64 t52), eq (.int .i64 t54)], blk b47 32 [eq (.int .i64 (w64 (1 + t48))), eq (.string t67), eq (.string t50), eq (.string (⟨#[]⟩ : ByteArray)), eq (.string (⟨#[]⟩ : ByteArray)), eq (.bool false), eq (.bool a0.fOn), eq (.int .i64 (w64 (1 + t70))), eq (.int .i64 0), eq (.int .i64 t52), eq (.int .i64 t54)], blk b46 32 [eq (.int .i64 a0.fKind), eq (.string a0.fRoom), eq (.string a0.fUser), eq (.string a0.fEvent), eq (.string a0.fThread), eq (.bool a0.fPrivate), eq (.bool a0.fOn), eq (.int .i64 a0.fSpan), eq (.int .i64 a0.fState), eq (.int .i64 a0.fTick), eq (.int .i64 a0.fStamp)]] ++ F) rfl trivial rfl rfl (cells_agg (ones_cons (one_eq rfl) (ones_cons (one_eq rfl) (ones_cons (one_eq rfl) (ones_cons (one_eq rfl) (ones_cons (one_eq rfl) (ones_cons (one_eq rfl) (ones_cons (one_eq rfl) (ones_cons (one_eq rfl) (ones_cons (one_eq rfl) (ones_cons (one_eq rfl) (ones_cons (one_eq rfl) ones_nil)))))))))))) Tryz.underlying32 c32 rfl (j := 1) rfl (Nat.le_of_ble_eq_true rfl) rfl nofun ?_
        refine .fin ?_
        obtain rfl := Gets.out H
        exact WP.retL (fun _ _ h => h) rfl () trivial (.cons (res_cells rfl Tryz.underlying32 rfl c32 (mem_at 1 rfl) rfl) .nil) rfl (st_seln 3 [0, 1, 2] 3 rfl rfl rfl)
      · replace H := Gets.cf H c69
        refine WP.skip ?_
        refine WP.seq ?_
        refine WP.reg [(0, false), (1, true)] (by kernel_rfl) ?_
        refine Dv.ldbs rfl trivial rfl Tryz.underlying32 rfl c32 (mem_at 0 rfl) (Nat.le_of_ble_eq_true rfl) ?_
        refine Dv.stx ([blk b56 32 [eq (.int .i64 (w64 (1 + t48))), eq (.string t67), eq (.string t50), eq (.string (⟨#[]⟩ : ByteArray)), eq (.string (⟨#[]⟩ : ByteArray)), eq (.bool false), eq (.bool a0.fOn), eq (.int .i64 0), eq (.int .i64 0), eq (.int .i64 t52), eq (.int .i64 t54)], blk b47 32 [eq (.int .i64 (w64 (1 + t48))), eq (.string t67), eq (.string t50), eq (.string (⟨#[]⟩ : ByteArray)), eq (.string (⟨#[]⟩ : ByteArray)), eq (.bool false), eq (.bool a0.fOn), eq (.int .i64 0), eq (.int .i64 0), eq (.int .i64 t52), eq (.int .i64 t54)], blk b46 32 [eq (.int .i64 a0.fKind), eq (.string a0.fRoom), eq (.string a0.fUser), eq (.string a0.fEvent), eq (.string a0.fThread), eq (.bool a0.fPrivate), eq (.bool a0.fOn), eq (.int .i64 a0.fSpan), eq (.int .i64 a0.fState), eq (.int .i64 a0.fTick), eq (.int .i64 a0.fStamp)]] ++ F) rfl trivial rfl rfl (cells_agg (ones_cons (one_eq rfl) (ones_cons (one_eq rfl) (ones_cons (one_eq rfl) (ones_cons (one_eq rfl) (ones_cons (one_eq rfl) (ones_cons (one_eq rfl) (ones_cons (one_eq rfl) (ones_cons (one_eq rfl) (ones_cons (one_eq rfl) (ones_cons (one_eq rfl) (ones_cons (one_eq rfl) ones_nil)))))))))))) Tryz.underlying32 c32 rfl (j := 1) rfl (Nat.le_of_ble_eq_true rfl) rfl nofun ?_
        refine .fin ?_
        obtain rfl := Gets.out H
        exact WP.retL (fun _ _ h => h) rfl () trivial (.cons (res_cells rfl Tryz.underlying32 rfl c32 (mem_at 1 rfl) rfl) .nil) rfl (st_seln 3 [0, 1, 2] 3 rfl rfl rfl)
    · replace H := Gets.cf H c66
      refine WP.reg [(0, false), (1, false), (2, false), (3, false), (4, true)] (by kernel_rfl) ?_
      refine Dv.fab rfl trivial rfl Tryz.underlying32 rfl Tryz.underlying3 c3 (by decide) ?_
      refine Dv.ldb rfl trivial rfl Tryz.underlying3 rfl (mem_at 2 rfl) rfl ?_
      obtain ⟨t72, h73, H⟩ := Gets.call H
      refine Dv.call rfl trivial cal12 rfl (concourseref01_Around.c h73) ?_
      refine Dv.fab rfl trivial rfl Tryz.underlying32 rfl Tryz.underlying3 c3 (by decide) ?_
      refine Dv.stx ([blk b56 32 [eq (.int .i64 (w64 (1 + t48))), eq (.string (⟨#[]⟩ : ByteArray)), eq (.string t50), eq (.string (⟨#[]⟩ : ByteArray)), eq (.string (⟨#[]⟩ : ByteArray)), eq (.bool false), eq (.bool false), eq (.int .i64 0), eq (.int .i64 t72), eq (.int .i64 t52), eq (.int .i64 t54)], blk b47 32 [eq (.int .i64 0), eq (.string (⟨#[]⟩ : ByteArray)), eq (.string (⟨#[]⟩ : ByteArray)), eq (.string (⟨#[]⟩ : ByteArray)), eq (.string (⟨#[]⟩ : ByteArray)), eq (.bool false), eq (.bool false), eq (.int .i64 0), eq (.int .i64 0), eq (.int .i64 0), eq (.int .i64 0)], blk b46 32 [eq (.int .i64 a0.fKind), eq (.string a0.fRoom), eq (.string a0.fUser), eq (.string a0.fEvent), eq (.string a0.fThread), eq (.bool a0.fPrivate), eq (.bool a0.fOn), eq (.int .i64 a0.fSpan), eq (.int .i64 a0.fState), eq (.int .i64 a0.fTick), eq (.int .i64 a0.fStamp)]] ++ F) rfl trivial rfl rfl (cells_one (one_eq rfl)) Tryz.underlying3 c3 rfl (j := 0) rfl (Nat.le_of_ble_eq_true rfl) rfl nofun ?_
      refine .fin ?_
      refine WP.seq ?_
      refine WP.reg [(0, false), (1, true)] (by kernel_rfl) ?_
      refine Dv.ldbs rfl trivial rfl Tryz.underlying32 rfl c32 (mem_at 0 rfl) (Nat.le_of_ble_eq_true rfl) ?_
      refine Dv.stx ([blk b56 32 [eq (.int .i64 (w64 (1 + t48))), eq (.string (⟨#[]⟩ : ByteArray)), eq (.string t50), eq (.string (⟨#[]⟩ : ByteArray)), eq (.string (⟨#[]⟩ : ByteArray)), eq (.bool false), eq (.bool false), eq (.int .i64 0), eq (.int .i64 t72), eq (.int .i64 t52), eq (.int .i64 t54)], blk b47 32 [eq (.int .i64 (w64 (1 + t48))), eq (.string (⟨#[]⟩ : ByteArray)), eq (.string t50), eq (.string (⟨#[]⟩ : ByteArray)), eq (.string (⟨#[]⟩ : ByteArray)), eq (.bool false), eq (.bool false), eq (.int .i64 0), eq (.int .i64 t72), eq (.int .i64 t52), eq (.int .i64 t54)], blk b46 32 [eq (.int .i64 a0.fKind), eq (.string a0.fRoom), eq (.string a0.fUser), eq (.string a0.fEvent), eq (.string a0.fThread), eq (.bool a0.fPrivate), eq (.bool a0.fOn), eq (.int .i64 a0.fSpan), eq (.int .i64 a0.fState), eq (.int .i64 a0.fTick), eq (.int .i64 a0.fStamp)]] ++ F) rfl trivial rfl rfl (cells_agg (ones_cons (one_eq rfl) (ones_cons (one_eq rfl) (ones_cons (one_eq rfl) (ones_cons (one_eq rfl) (ones_cons (one_eq rfl) (ones_cons (one_eq rfl) (ones_cons (one_eq rfl) (ones_cons (one_eq rfl) (ones_cons (one_eq rfl) (ones_cons (one_eq rfl) (ones_cons (one_eq rfl) ones_nil)))))))))))) Tryz.underlying32 c32 rfl (j := 1) rfl (Nat.le_of_ble_eq_true rfl) rfl nofun ?_
      refine .fin ?_
      obtain rfl := Gets.out H
      exact WP.retL (fun _ _ h => h) rfl () trivial (.cons (res_cells rfl Tryz.underlying32 rfl c32 (mem_at 1 rfl) rfl) .nil) rfl (st_seln 3 [0, 1, 2] 3 rfl rfl rfl)
theorem concourseref15_Made.c {k : Nat} {a0 : Edu} {r : Edu} (h : concourseref15_Made.f k a0 = some r) : Pt Tryz.prog 9 [agg (Edu.enc a0)] (agg (Edu.enc r)) := by
  unfold concourseref15_Made.f at h
  refine (Tr.body Tryz.func9 (c := _) rfl Tryz.ntmps9 (Nat.le_of_ble_eq_true rfl) fun R0 F => ?_).pt
  replace h := Gets.of h
  have H := h
  clear h
  refine WP.seq ?_
  refine WP.reg [(0, true), (1, true)] (by kernel_rfl) ?_
  refine Dv.box rfl trivial rfl (cells_agg (Edu.K.one _)) nofun (fun b74 => ?_)
  refine Dv.alloc (z := .agg #[.int .i64 0, .string ⟨#[]⟩, .string ⟨#[]⟩, .string ⟨#[]⟩, .string ⟨#[]⟩, .bool false, .bool false, .int .i64 0, .int .i64 0, .int .i64 0, .int .i64 0]) (qs := [eq (.int .i64 0), eq (.string (⟨#[]⟩ : ByteArray)), eq (.string (⟨#[]⟩ : ByteArray)), eq (.string (⟨#[]⟩ : ByteArray)), eq (.string (⟨#[]⟩ : ByteArray)), eq (.bool false), eq (.bool false), eq (.int .i64 0), eq (.int .i64 0), eq (.int .i64 0), eq (.int .i64 0)]) rfl trivial z32 rfl nofun (fun b75 => ?_)
  refine .fin ?_
  refine WP.seq ?_
  refine WP.reg [(0, false), (1, true)] (by kernel_rfl) ?_
  refine Dv.fab rfl trivial rfl Tryz.underlying32 rfl Tryz.underlying3 c3 (by decide) ?_
  refine Dv.stx ([blk b75 32 [eq (.int .i64 0), eq (.string (⟨#[]⟩ : ByteArray)), eq (.string (⟨#[]⟩ : ByteArray)), eq (.string (⟨#[]⟩ : ByteArray)), eq (.string (⟨#[]⟩ : ByteArray)), eq (.bool false), eq (.bool false), eq (.int .i64 0), eq (.int .i64 0), eq (.int .i64 0), eq (.int .i64 0)], blk b74 32 [eq (.int .i64 2), eq (.string a0.fRoom), eq (.string a0.fUser), eq (.string a0.fEvent), eq (.string a0.fThread), eq (.bool a0.fPrivate), eq (.bool a0.fOn), eq (.int .i64 a0.fSpan), eq (.int .i64 a0.fState), eq (.int .i64 a0.fTick), eq (.int .i64 a0.fStamp)]] ++ F) rfl trivial rfl rfl (cells_one (one_eq rfl)) Tryz.underlying3 c3 rfl (j := 1) rfl (Nat.le_of_ble_eq_true rfl) rfl nofun ?_
  refine .fin ?_
  refine WP.seq ?_
  refine WP.reg [(0, false), (1, false), (2, true)] (by kernel_rfl) ?_
  refine Dv.ldbs rfl trivial rfl Tryz.underlying32 rfl c32 (mem_at 1 rfl) (Nat.le_of_ble_eq_true rfl) ?_
  obtain ⟨t76, h77, H⟩ := Gets.call H
  refine Dv.call rfl trivial cal30 rfl (concourseref03_Good.c h77) ?_
  refine Dv.stx ([blk b75 32 [eq (.int .i64 t76.fKind), eq (.string t76.fRoom), eq (.string t76.fUser), eq (.string t76.fEvent), eq (.string t76.fThread), eq (.bool t76.fPrivate), eq (.bool t76.fOn), eq (.int .i64 t76.fSpan), eq (.int .i64 t76.fState), eq (.int .i64 t76.fTick), eq (.int .i64 t76.fStamp)], blk b74 32 [eq (.int .i64 2), eq (.string a0.fRoom), eq (.string a0.fUser), eq (.string a0.fEvent), eq (.string a0.fThread), eq (.bool a0.fPrivate), eq (.bool a0.fOn), eq (.int .i64 a0.fSpan), eq (.int .i64 a0.fState), eq (.int .i64 a0.fTick), eq (.int .i64 a0.fStamp)]] ++ F) rfl trivial rfl rfl (cells_agg (Edu.K.one _)) Tryz.underlying32 c32 rfl (j := 0) rfl (Nat.le_of_ble_eq_true rfl) rfl nofun ?_
  refine .fin ?_
  obtain rfl := Gets.out H
  exact WP.retL (fun _ _ h => h) rfl () trivial (.cons (res_cells rfl Tryz.underlying32 rfl c32 (mem_at 0 rfl) rfl) .nil) rfl (st_seln 2 [0, 1] 2 rfl rfl rfl)
theorem edu_asks_1.c {a0 : Int} {a1 : Int} {a2 : Int} {r : Bool} (h : edu_asks_1.f a0 a1 a2 = some r) : Pt Tryz.prog 97 [eq (.int .i64 a0), eq (.int .i64 a1), eq (.int .i64 a2)] (eq (.bool r)) := by
  unfold edu_asks_1.f at h
  refine (Tr.body Tryz.func97 (c := _) rfl Tryz.ntmps97 (Nat.le_of_ble_eq_true rfl) fun R0 F => ?_).pt
  replace h := Gets.of h
  have H := h
  clear h
  refine WP.seq ?_
  refine WP.reg [(0, false)] (by kernel_rfl) ?_
  refine as0 rfl rfl ?_
  refine .fin ?_
  refine WP.seq ?_
  refine WP.reg [(0, false), (1, false), (2, false), (3, false), (4, false), (5, false), (6, false), (7, false), (8, false)] (by kernel_rfl) ?_
  refine mv0 rfl rfl ?_
  refine mv0 rfl rfl ?_
  refine Dv.bin rfl trivial rfl rfl (fun _ => run_ge) ?_
  refine mv0 rfl rfl ?_
  cases c78 : decide (a1 ≤ a0)
  · replace H := Gets.cf H c78
    refine sk rfl rfl rfl rfl rfl ?_
    refine sk rfl rfl rfl rfl rfl ?_
    refine sk rfl rfl rfl rfl rfl ?_
    refine Dv.pickF rfl trivial rfl rfl ?_
    refine as0 rfl rfl ?_
    refine .fin ?_
    obtain rfl := Gets.out H
    exact WP.retL (fun _ _ h => h) rfl () trivial (.cons (res_tmp rfl) .nil) rfl (st_seln 0 [] 0 rfl rfl rfl)
  · replace H := Gets.ct H c78
    refine Dv.mv rfl ⟨_, _, rfl, rfl, rfl⟩ rfl ?_
    refine Dv.mv rfl ⟨_, _, rfl, rfl, rfl⟩ rfl ?_
    refine Dv.bin rfl ⟨_, _, rfl, rfl, rfl⟩ rfl rfl (fun _ => run_le) ?_
    refine Dv.pickT rfl trivial rfl rfl ?_
    refine as0 rfl rfl ?_
    refine .fin ?_
    obtain rfl := Gets.out H
    exact WP.retL (fun _ _ h => h) rfl () trivial (.cons (res_tmp rfl) .nil) rfl (st_seln 0 [] 0 rfl rfl rfl)
theorem edu_asks_2.c {a0 : Edu} {r : Bool} (h : edu_asks_2.f a0 = some r) : Pt Tryz.prog 98 [agg (Edu.enc a0)] (eq (.bool r)) := by
  unfold edu_asks_2.f at h
  refine (Tr.body Tryz.func98 (c := _) rfl Tryz.ntmps98 (Nat.le_of_ble_eq_true rfl) fun R0 F => ?_).pt
  replace h := Gets.of h
  have H := h
  clear h
  refine WP.seq ?_
  refine WP.reg [(0, true), (1, false)] (by kernel_rfl) ?_
  refine Dv.box rfl trivial rfl (cells_agg (Edu.K.one _)) nofun (fun b79 => ?_)
  refine as0 rfl rfl ?_
  refine .fin ?_
  refine WP.seq ?_
  refine WP.reg [(0, false)] (by kernel_rfl) ?_
  refine as0 rfl rfl ?_
  refine .fin ?_
  obtain rfl := Gets.out H
  exact WP.retL (fun _ _ h => h) rfl () trivial (.cons (res_tmp rfl) .nil) rfl (st_seln 1 [0] 1 rfl rfl rfl)
theorem stringslite_HasPrefix.c {a0 : ByteArray} {a1 : ByteArray} {r : Bool} (h : stringslite_HasPrefix.f a0 a1 = some r) : Pt Tryz.prog 126 [eq (.string a0), eq (.string a1)] (eq (.bool r)) := by
  unfold stringslite_HasPrefix.f at h
  refine (Tr.body Tryz.func126 (c := _) rfl Tryz.ntmps126 (Nat.le_of_ble_eq_true rfl) fun R0 F => ?_).pt
  replace h := Gets.of h
  have H := h
  clear h
  refine WP.seq ?_
  refine WP.reg [(0, false)] (by kernel_rfl) ?_
  refine as0 rfl rfl ?_
  refine .fin ?_
  refine WP.seq ?_
  refine WP.reg [(0, false), (1, false), (2, false), (3, false), (4, false), (5, false), (6, false), (7, false), (8, false), (9, false), (10, false), (11, false), (12, false), (13, false)] (by kernel_rfl) ?_
  refine mv0 rfl rfl ?_
  refine Dv.lens rfl trivial rfl Tryz.underlying9 ?_
  refine mv0 rfl rfl ?_
  refine Dv.lens rfl trivial rfl Tryz.underlying9 ?_
  refine Dv.bin rfl trivial rfl rfl (fun _ => run_ge) ?_
  refine mv0 rfl rfl ?_
  cases c80 : decide ((a1.size : Int) ≤ (a0.size : Int))
  · replace H := Gets.cf H c80
    refine sk rfl rfl rfl rfl rfl ?_
    refine sk rfl rfl rfl rfl rfl ?_
    refine sk rfl rfl rfl rfl rfl ?_
    refine sk rfl rfl rfl rfl rfl ?_
    refine sk rfl rfl rfl rfl rfl ?_
    refine sk rfl rfl rfl rfl rfl ?_
    refine Dv.pickF rfl trivial rfl rfl ?_
    refine as0 rfl rfl ?_
    refine .fin ?_
    obtain rfl := Gets.out H
    exact WP.retL (fun _ _ h => h) rfl () trivial (.cons (res_tmp rfl) .nil) rfl (st_seln 0 [] 0 rfl rfl rfl)
  · replace H := Gets.ct H c80
    refine Dv.mv rfl ⟨_, _, rfl, rfl, rfl⟩ rfl ?_
    refine Dv.mv rfl ⟨_, _, rfl, rfl, rfl⟩ rfl ?_
    refine Dv.lens rfl ⟨_, _, rfl, rfl, rfl⟩ rfl Tryz.underlying9 ?_
    obtain ⟨g81, H⟩ := Gets.grd H
    refine Dv.sss rfl ⟨_, _, rfl, rfl, rfl⟩ rfl Tryz.underlying9 bdE_none (bdE_some rfl g81.1) g81.2.1 g81.2.2 ?_
    refine Dv.mv rfl ⟨_, _, rfl, rfl, rfl⟩ rfl ?_
    refine Dv.bin rfl ⟨_, _, rfl, rfl, rfl⟩ rfl rfl (fun _ => run_seq) ?_
    refine Dv.pickT rfl trivial rfl rfl ?_
    refine as0 rfl rfl ?_
    refine .fin ?_
    obtain rfl := Gets.out H
    exact WP.retL (fun _ _ h => h) rfl () trivial (.cons (res_tmp rfl) .nil) rfl (st_seln 0 [] 0 rfl rfl rfl)
theorem stringslite_CutPrefix.c {a0 : ByteArray} {a1 : ByteArray} {r : ByteArray × Bool} (h : stringslite_CutPrefix.f a0 a1 = some r) : Pt Tryz.prog 122 [eq (.string a0), eq (.string a1)] (tup [eq (.string r.1), eq (.bool r.2)]) := by
  unfold stringslite_CutPrefix.f at h
  refine (Tr.body Tryz.func122 (c := _) rfl Tryz.ntmps122 (Nat.le_of_ble_eq_true rfl) fun R0 F => ?_).pt
  replace h := Gets.of h
  have H := h
  clear h
  refine WP.seq ?_
  refine WP.reg [(0, false), (1, false)] (by kernel_rfl) ?_
  refine as0 rfl rfl ?_
  refine as0 rfl rfl ?_
  refine .fin ?_
  refine WP.seq ?_
  refine WP.seq ?_
  refine WP.reg [(0, false), (1, false), (2, false), (3, false)] (by kernel_rfl) ?_
  refine mv0 rfl rfl ?_
  refine mv0 rfl rfl ?_
  obtain ⟨t82, h83, H⟩ := Gets.call H
  refine Dv.call rfl trivial cal126 rfl (stringslite_HasPrefix.c h83) ?_
  refine Dv.un rfl trivial rfl (fun _ => run_not _) ?_
  refine .fin ?_
  refine WP.cond rfl (fun c84 => ?_) (fun c84 => ?_)
  · replace H := Gets.ct H c84
    refine WP.seq ?_
    refine WP.reg [(0, false), (1, false), (2, false)] (by kernel_rfl) ?_
    refine mv0 rfl rfl ?_
    refine as0 rfl rfl ?_
    refine as0 rfl rfl ?_
    refine .fin ?_
    obtain rfl := Gets.out H
    exact WP.retL (fun _ _ h => h) rfl () trivial (.cons (res_tmp rfl) (.cons (res_tmp rfl) .nil)) rfl (st_seln 0 [] 0 rfl rfl rfl)
  · replace H := Gets.cf H c84
    refine WP.skip ?_
    refine WP.seq ?_
    refine WP.reg [(0, false), (1, false), (2, false), (3, false), (4, false), (5, false)] (by kernel_rfl) ?_
    refine mv0 rfl rfl ?_
    refine mv0 rfl rfl ?_
    refine Dv.lens rfl trivial rfl Tryz.underlying9 ?_
    obtain ⟨g85, H⟩ := Gets.grd H
    refine Dv.sss rfl trivial rfl Tryz.underlying9 (bdE_some rfl g85.1) bdE_none g85.2.1 g85.2.2 ?_
    refine as0 rfl rfl ?_
    refine as0 rfl rfl ?_
    refine .fin ?_
    obtain rfl := Gets.out H
    exact WP.retL (fun _ _ h => h) rfl () trivial (.cons (res_tmp rfl) (.cons (res_tmp rfl) .nil)) rfl (st_seln 0 [] 0 rfl rfl rfl)
theorem strings_CutPrefix.c {a0 : ByteArray} {a1 : ByteArray} {r : ByteArray × Bool} (h : strings_CutPrefix.f a0 a1 = some r) : Pt Tryz.prog 117 [eq (.string a0), eq (.string a1)] (tup [eq (.string r.1), eq (.bool r.2)]) := by
  unfold strings_CutPrefix.f at h
  refine (Tr.body Tryz.func117 (c := _) rfl Tryz.ntmps117 (Nat.le_of_ble_eq_true rfl) fun R0 F => ?_).pt
  replace h := Gets.of h
  have H := h
  clear h
  refine WP.seq ?_
  refine WP.reg [(0, false), (1, false)] (by kernel_rfl) ?_
  refine as0 rfl rfl ?_
  refine as0 rfl rfl ?_
  refine .fin ?_
  refine WP.seq ?_
  refine WP.reg [(0, false), (1, false), (2, false), (3, false), (4, false), (5, false), (6, false)] (by kernel_rfl) ?_
  refine mv0 rfl rfl ?_
  refine mv0 rfl rfl ?_
  obtain ⟨t86, h87, H⟩ := Gets.call H
  refine Dv.call rfl trivial cal122 rfl (stringslite_CutPrefix.c h87) ?_
  refine Dv.ext rfl trivial rfl rfl ?_
  refine Dv.ext rfl trivial rfl rfl ?_
  refine as0 rfl rfl ?_
  refine as0 rfl rfl ?_
  refine .fin ?_
  obtain rfl := Gets.out H
  exact WP.retL (fun _ _ h => h) rfl () trivial (.cons (res_tmp rfl) (.cons (res_tmp rfl) .nil)) rfl (st_seln 0 [] 0 rfl rfl rfl)
theorem name_small.c {a0 : Int} {r : Bool} (h : name_small.f a0 = some r) : Pt Tryz.prog 125 [eq (.int .u8 a0)] (eq (.bool r)) := by
  unfold name_small.f at h
  refine (Tr.body Tryz.func125 (c := _) rfl Tryz.ntmps125 (Nat.le_of_ble_eq_true rfl) fun R0 F => ?_).pt
  replace h := Gets.of h
  have H := h
  clear h
  refine WP.seq ?_
  refine WP.reg [(0, false)] (by kernel_rfl) ?_
  refine as0 rfl rfl ?_
  refine .fin ?_
  refine WP.seq ?_
  refine WP.reg [(0, false), (1, false), (2, false), (3, false), (4, false), (5, false), (6, false), (7, false), (8, false), (9, false), (10, false), (11, false), (12, false), (13, false), (14, false)] (by kernel_rfl) ?_
  refine mv0 rfl rfl ?_
  refine Dv.bin rfl trivial rfl rfl (fun _ => run_ge) ?_
  refine mv0 rfl rfl ?_
  cases c88 : decide (97 ≤ a0)
  · replace H := Gets.cf H c88
    refine sk rfl rfl rfl rfl rfl ?_
    refine sk rfl rfl rfl rfl rfl ?_
    refine Dv.pickF rfl trivial rfl rfl ?_
    refine mv0 rfl rfl ?_
    refine Dv.mv rfl ⟨_, _, rfl, rfl, rfl⟩ rfl ?_
    refine Dv.bin rfl ⟨_, _, rfl, rfl, rfl⟩ rfl rfl (fun _ => run_ge) ?_
    refine Dv.mv rfl ⟨_, _, rfl, rfl, rfl⟩ rfl ?_
    cases c91 : decide (48 ≤ a0)
    · replace H := Gets.cf H c91
      refine sk rfl rfl rfl rfl rfl ?_
      refine sk rfl rfl rfl rfl rfl ?_
      refine Dv.pickF rfl ⟨_, _, rfl, rfl, rfl⟩ rfl rfl ?_
      refine Dv.pickF rfl trivial rfl rfl ?_
      refine as0 rfl rfl ?_
      refine .fin ?_
      obtain rfl := Gets.out H
      exact WP.retL (fun _ _ h => h) rfl () trivial (.cons (res_tmp rfl) .nil) rfl (st_seln 0 [] 0 rfl rfl rfl)
    · replace H := Gets.ct H c91
      refine Dv.mv rfl ⟨_, _, rfl, rfl, rfl⟩ rfl ?_
      refine Dv.bin rfl ⟨_, _, rfl, rfl, rfl⟩ rfl rfl (fun _ => run_le) ?_
      refine Dv.pickT rfl ⟨_, _, rfl, rfl, rfl⟩ rfl rfl ?_
      refine Dv.pickF rfl trivial rfl rfl ?_
      refine as0 rfl rfl ?_
      refine .fin ?_
      obtain rfl := Gets.out H
      exact WP.retL (fun _ _ h => h) rfl () trivial (.cons (res_tmp rfl) .nil) rfl (st_seln 0 [] 0 rfl rfl rfl)
  · replace H := Gets.ct H c88
    refine Dv.mv rfl ⟨_, _, rfl, rfl, rfl⟩ rfl ?_
    refine Dv.bin rfl ⟨_, _, rfl, rfl, rfl⟩ rfl rfl (fun _ => run_le) ?_
    refine Dv.pickT rfl trivial rfl rfl ?_
    refine mv0 rfl rfl ?_
    cases c89 : decide (a0 ≤ 122)
    · replace H := Gets.cf H c89
      refine Dv.mv rfl ⟨_, _, rfl, rfl, rfl⟩ rfl ?_
      refine Dv.bin rfl ⟨_, _, rfl, rfl, rfl⟩ rfl rfl (fun _ => run_ge) ?_
      refine Dv.mv rfl ⟨_, _, rfl, rfl, rfl⟩ rfl ?_
      cases c90 : decide (48 ≤ a0)
      · replace H := Gets.cf H c90
        refine sk rfl rfl rfl rfl rfl ?_
        refine sk rfl rfl rfl rfl rfl ?_
        refine Dv.pickF rfl ⟨_, _, rfl, rfl, rfl⟩ rfl rfl ?_
        refine Dv.pickF rfl trivial rfl rfl ?_
        refine as0 rfl rfl ?_
        refine .fin ?_
        obtain rfl := Gets.out H
        exact WP.retL (fun _ _ h => h) rfl () trivial (.cons (res_tmp rfl) .nil) rfl (st_seln 0 [] 0 rfl rfl rfl)
      · replace H := Gets.ct H c90
        refine Dv.mv rfl ⟨_, _, rfl, rfl, rfl⟩ rfl ?_
        refine Dv.bin rfl ⟨_, _, rfl, rfl, rfl⟩ rfl rfl (fun _ => run_le) ?_
        refine Dv.pickT rfl ⟨_, _, rfl, rfl, rfl⟩ rfl rfl ?_
        refine Dv.pickF rfl trivial rfl rfl ?_
        refine as0 rfl rfl ?_
        refine .fin ?_
        obtain rfl := Gets.out H
        exact WP.retL (fun _ _ h => h) rfl () trivial (.cons (res_tmp rfl) .nil) rfl (st_seln 0 [] 0 rfl rfl rfl)
    · replace H := Gets.ct H c89
      refine sk rfl rfl rfl rfl rfl ?_
      refine sk rfl rfl rfl rfl rfl ?_
      refine sk rfl rfl rfl rfl rfl ?_
      refine Dv.skip rfl ⟨_, _, rfl, rfl, .inr rfl⟩ ?_
      refine Dv.skip rfl ⟨_, _, rfl, rfl, .inr rfl⟩ ?_
      refine sk rfl rfl rfl rfl rfl ?_
      refine Dv.pickT rfl trivial rfl rfl ?_
      refine as0 rfl rfl ?_
      refine .fin ?_
      obtain rfl := Gets.out H
      exact WP.retL (fun _ _ h => h) rfl () trivial (.cons (res_tmp rfl) .nil) rfl (st_seln 0 [] 0 rfl rfl rfl)
theorem stringslite_IndexByte.c {a0 : ByteArray} {a1 : Int} {r : Int} (h : stringslite_IndexByte.f a0 a1 = some r) : Pt Tryz.prog 130 [eq (.string a0), eq (.int .u8 a1)] (eq (.int .i64 r)) := by
  unfold stringslite_IndexByte.f at h
  refine (Tr.body Tryz.func130 (c := _) rfl Tryz.ntmps130 (Nat.le_of_ble_eq_true rfl) fun R0 F => ?_).pt
  replace h := Gets.of h
  have H := h
  clear h
  refine WP.seq ?_
  refine WP.reg [(0, false)] (by kernel_rfl) ?_
  refine as0 rfl rfl ?_
  refine .fin ?_
  refine WP.seq ?_
  refine WP.reg [(0, false), (1, false), (2, false), (3, false)] (by kernel_rfl) ?_
  refine mv0 rfl rfl ?_
  refine mv0 rfl rfl ?_
  refine Dv.cext rfl trivial rfl (xt_index Tryz.func134 (by kernel_rfl) rfl xf134 xg134) ?_
  refine as0 rfl rfl ?_
  refine .fin ?_
  obtain rfl := Gets.out H
  exact WP.retL (fun _ _ h => h) rfl () trivial (.cons (res_tmp rfl) .nil) rfl (st_seln 0 [] 0 rfl rfl rfl)
theorem strings_IndexByte.c {a0 : ByteArray} {a1 : Int} {r : Int} (h : strings_IndexByte.f a0 a1 = some r) : Pt Tryz.prog 128 [eq (.string a0), eq (.int .u8 a1)] (eq (.int .i64 r)) := by
  unfold strings_IndexByte.f at h
  refine (Tr.body Tryz.func128 (c := _) rfl Tryz.ntmps128 (Nat.le_of_ble_eq_true rfl) fun R0 F => ?_).pt
  replace h := Gets.of h
  have H := h
  clear h
  refine WP.seq ?_
  refine WP.reg [(0, false)] (by kernel_rfl) ?_
  refine as0 rfl rfl ?_
  refine .fin ?_
  refine WP.seq ?_
  refine WP.reg [(0, false), (1, false), (2, false), (3, false)] (by kernel_rfl) ?_
  refine mv0 rfl rfl ?_
  refine mv0 rfl rfl ?_
  obtain ⟨t92, h93, H⟩ := Gets.call H
  refine Dv.call rfl trivial cal130 rfl (stringslite_IndexByte.c h93) ?_
  refine as0 rfl rfl ?_
  refine .fin ?_
  obtain rfl := Gets.out H
  exact WP.retL (fun _ _ h => h) rfl () trivial (.cons (res_tmp rfl) .nil) rfl (st_seln 0 [] 0 rfl rfl rfl)
theorem name_among_1.c {a0 : Int} {c0 : ByteArray} {r : Bool} (h : name_among_1.f a0 c0 = some r) : Pt Tryz.prog 127 [eq (.int .u8 a0), rp [eq (.string c0)]] (eq (.bool r)) := by
  unfold name_among_1.f at h
  refine (Tr.body Tryz.func127 (c := _) rfl Tryz.ntmps127 (Nat.le_of_ble_eq_true rfl) fun R0 F => ?_).pt
  replace h := Gets.of h
  have H := h
  clear h
  refine WP.seq ?_
  refine WP.reg [(0, false)] (by kernel_rfl) ?_
  refine as0 rfl rfl ?_
  refine .fin ?_
  refine WP.seq ?_
  refine WP.reg [(0, false), (1, false), (2, false), (3, false), (4, false), (5, false), (6, false), (7, false), (8, false)] (by kernel_rfl) ?_
  refine mv0 rfl rfl ?_
  obtain ⟨t94, h95, H⟩ := Gets.call H
  refine Dv.call rfl trivial cal125 rfl (name_small.c h95) ?_
  refine mv0 rfl rfl ?_
  cases c96 : t94
  · replace H := Gets.cf H c96
    refine Dv.ldr rfl ⟨_, _, rfl, rfl, rfl⟩ rfl Tryz.underlying9 rfl rfl ?_
    refine Dv.mv rfl ⟨_, _, rfl, rfl, rfl⟩ rfl ?_
    obtain ⟨t97, h98, H⟩ := Gets.call H
    refine Dv.call rfl ⟨_, _, rfl, rfl, rfl⟩ cal128 rfl (strings_IndexByte.c h98) ?_
    refine Dv.bin rfl ⟨_, _, rfl, rfl, rfl⟩ rfl rfl (fun _ => run_ge) ?_
    refine Dv.pickF rfl trivial rfl rfl ?_
    refine as0 rfl rfl ?_
    refine .fin ?_
    obtain rfl := Gets.out H
    exact WP.retL (fun _ _ h => h) rfl () trivial (.cons (res_tmp rfl) .nil) rfl (st_seln 0 [] 0 rfl rfl rfl)
  · replace H := Gets.ct H c96
    refine sk rfl rfl rfl rfl rfl ?_
    refine sk rfl rfl rfl rfl rfl ?_
    refine sk rfl rfl rfl rfl rfl ?_
    refine sk rfl rfl rfl rfl rfl ?_
    refine Dv.pickT rfl trivial rfl rfl ?_
    refine as0 rfl rfl ?_
    refine .fin ?_
    obtain rfl := Gets.out H
    exact WP.retL (fun _ _ h => h) rfl () trivial (.cons (res_tmp rfl) .nil) rfl (st_seln 0 [] 0 rfl rfl rfl)
theorem name_among.c {a0 : ByteArray} {r : (Int → Option Bool)} (h : name_among.f a0 = some r) : Pt Tryz.prog 123 [eq (.string a0)] (fq_uint8_bool r) := by
  unfold name_among.f at h
  refine (Tr.body Tryz.func123 (c := _) rfl Tryz.ntmps123 (Nat.le_of_ble_eq_true rfl) fun R0 F => ?_).pt
  replace h := Gets.of h
  have H := h
  clear h
  refine WP.seq ?_
  refine WP.reg [(0, true), (1, false)] (by kernel_rfl) ?_
  refine Dv.box rfl trivial rfl (cells_one (one_eq rfl)) nofun (fun b99 => ?_)
  refine as0 rfl rfl ?_
  refine .fin ?_
  refine WP.seq ?_
  refine WP.reg [(0, false), (1, false)] (by kernel_rfl) ?_
  refine Dv.gh (gh_frzb (E' := [(0, eq (.string a0)), (1, rp [eq (.string a0)]), (2, eq .nilFunc)]) (l' := [] ++ F) 0 rfl (cve_cons rfl cv_id (cve_cons rfl cv_eq (cve_cons rfl cv_id cve_nil))) (all2_app .nil fun _ => cva_id)) (fun _ _ => ?_)
  refine Dv.mkf (Q := fqQ_uint8_bool (fun a0_ => name_among_1.f a0_ a0)) cal127 (by rintro _ _ ⟨a0_, r_, h_, rfl, rfl⟩; exact name_among_1.c h_) rfl trivial rfl rfl ?_
  refine as0 rfl rfl ?_
  refine .fin ?_
  obtain rfl := Gets.out H
  exact WP.retL (fun _ _ h => h) rfl () trivial (.cons (res_tmp rfl) .nil) rfl (st_seln 0 [] 0 rfl rfl rfl)
theorem name_may.c {k : Nat} {a0 : ByteArray} {a1 : Int} {r : Bool} (h : name_may.f k a0 a1 = some r) : Pt Tryz.prog 118 [eq (.string a0), eq (.int .i64 a1)] (eq (.bool r)) := by
  unfold name_may.f at h
  refine (Tr.body Tryz.func118 (c := _) rfl Tryz.ntmps118 (Nat.le_of_ble_eq_true rfl) fun R0 F => ?_).pt
  replace h := Gets.of h
  have H := h
  clear h
  refine WP.seq ?_
  refine WP.reg [(0, false)] (by kernel_rfl) ?_
  refine as0 rfl rfl ?_
  refine .fin ?_
  refine WP.seq ?_
  refine WP.reg [(0, false), (1, false), (2, false), (3, false), (4, false), (5, false), (6, false)] (by kernel_rfl) ?_
  obtain ⟨t100, h101, H⟩ := Gets.call H
  refine Dv.call rfl trivial cal123 rfl (name_among.c h101) ?_
  obtain ⟨t102, h103, H⟩ := Gets.call H
  refine Dv.call rfl trivial cal123 rfl (name_among.c h103) ?_
  obtain ⟨t104, h105, H⟩ := Gets.call H
  refine Dv.call rfl trivial cal123 rfl (name_among.c h105) ?_
  refine Dv.blda (qs := [fq_uint8_bool t100, fq_uint8_bool t102, fq_uint8_bool t104]) (css := [[fq_uint8_bool t100], [fq_uint8_bool t102], [fq_uint8_bool t104]]) rfl trivial Tryz.underlying141 Tryz.underlying120 c120 z141 rfl ⟨(cells_one one_fnq), ⟨(cells_one one_fnq), ⟨(cells_one one_fnq), trivial⟩⟩⟩ rfl rfl ?_
  refine mv0 rfl rfl ?_
  obtain ⟨g106, H⟩ := Gets.grd H
  refine Dv.ixa (Kd := fK_uint8_bool) (xs := ([t100, t102, t104] : List (Int → Option Bool))) rfl trivial rfl rfl rfl Tryz.underlying141 Tryz.underlying120 rfl c120 rfl rfl g106.1 g106.2 rfl ?_
  refine as0 rfl rfl ?_
  refine .fin ?_
  refine WP.seqr H id (fun p107 : Int × Bool => [(0, eq (.string a0)), (1, eq (.int .i64 a1)), (4, eq (.bool false)), (5, fq_uint8_bool (fK_uint8_bool.at ([t100, t102, t104] : List (Int → Option Bool)) a1)), (14, eq (.int .i64 (a0.size : Int))), (15, eq (.int .i64 p107.1)), (16, eq (.bool p107.2))]) (fun p107 : Int × Bool => [] ++ F) (fun p107 H => ?_) (fun H => ?_)
  · refine WP.seq ?_
    refine WP.reg [(0, false), (1, false), (2, false), (3, false), (4, false), (5, false), (6, false), (7, false)] (by kernel_rfl) ?_
    refine mv0 rfl rfl ?_
    refine Dv.bin rfl trivial rfl rfl (fun _ => run_sne) ?_
    refine mv0 rfl rfl ?_
    cases c108 : !decide (a0 = (⟨#[]⟩ : ByteArray))
    · replace H := Gets.cf H c108
      refine sk rfl rfl rfl rfl rfl ?_
      refine sk rfl rfl rfl rfl rfl ?_
      refine sk rfl rfl rfl rfl rfl ?_
      refine Dv.pickF rfl trivial rfl rfl ?_
      refine as0 rfl rfl ?_
      refine .fin ?_
      obtain rfl := Gets.out H
      exact WP.retL (fun _ _ h => h) rfl () trivial (.cons (res_tmp rfl) .nil) rfl (st_seln 0 [] 0 rfl rfl rfl)
    · replace H := Gets.ct H c108
      refine Dv.mv rfl ⟨_, _, rfl, rfl, rfl⟩ rfl ?_
      refine Dv.lens rfl ⟨_, _, rfl, rfl, rfl⟩ rfl Tryz.underlying9 ?_
      refine Dv.bin rfl ⟨_, _, rfl, rfl, rfl⟩ rfl rfl (fun _ => run_le) ?_
      refine Dv.pickT rfl trivial rfl rfl ?_
      refine as0 rfl rfl ?_
      refine .fin ?_
      obtain rfl := Gets.out H
      exact WP.retL (fun _ _ h => h) rfl () trivial (.cons (res_tmp rfl) .nil) rfl (st_seln 0 [] 0 rfl rfl rfl)
  · refine WP.seq ?_
    refine WP.reg [(0, false), (1, false), (2, false)] (by kernel_rfl) ?_
    refine mv0 rfl rfl ?_
    refine Dv.lens rfl trivial rfl Tryz.underlying9 ?_
    refine mv0 rfl rfl ?_
    refine .fin ?_
    refine WP.block ?_
    refine WP.gh (l' := fun _ => [] ++ F) (gh_of (st_selgn 0 [] 0 rfl rfl rfl)) (fun _ _ => ?_)
    refine WP.loopg (fun j_ (p116 : Int) => name_may.l0 k a0 a1 t100 t102 t104 j_ p116) 0 H (fun p116 => [(0, eq (.string a0)), (1, eq (.int .i64 a1)), (4, eq (.bool false)), (5, fq_uint8_bool (fK_uint8_bool.at ([t100, t102, t104] : List (Int → Option Bool)) a1)), (14, eq (.int .i64 (a0.size : Int))), (15, eq (.int .i64 p116))]) (fun p116 => [] ++ F) (weak_cons rfl (weak_cons rfl (weak_cons rfl (weak_cons rfl (weak_cons rfl (weak_cons rfl weak_nil)))))) (List.Perm.refl _) ?_
    rintro j_ x109 H
    rcases j_ with _ | j115
    · exact (Gets.no H).elim
    replace H : Gets (name_may.l0 k a0 a1 t100 t102 t104 (j115 + 1) x109) _ := H
    rw [name_may.l0] at H
    refine WP.seq ?_
    refine WP.reg [(0, false)] (by kernel_rfl) ?_
    refine Dv.bin rfl trivial rfl rfl (fun _ => run_lt) ?_
    refine .fin ?_
    refine WP.seq ?_
    refine WP.cond rfl (fun c110 => ?_) (fun c110 => ?_)
    · replace H := Gets.ct H c110
      refine WP.skip ?_
      refine WP.seq ?_
      refine WP.block ?_
      refine WP.seq ?_
      refine WP.reg [(0, false), (1, false)] (by kernel_rfl) ?_
      refine mv0 rfl rfl ?_
      refine as0 rfl rfl ?_
      refine .fin ?_
      refine WP.seq ?_
      refine WP.reg [(0, false), (1, false), (2, false), (3, false), (4, false), (5, false)] (by kernel_rfl) ?_
      refine mv0 rfl rfl ?_
      refine mv0 rfl rfl ?_
      refine mv0 rfl rfl ?_
      obtain ⟨g111, H⟩ := Gets.grd H
      refine Dv.ixs rfl trivial rfl rfl Tryz.underlying9 g111.1 g111.2 ?_
      obtain ⟨t112, h113, H⟩ := Gets.call H
      refine Dv.callq (ret := eq (.bool t112)) rfl trivial rfl rfl ⟨_, _, h113, rfl, rfl⟩ ?_
      refine Dv.un rfl trivial rfl (fun _ => run_not _) ?_
      refine .fin ?_
      refine WP.cond rfl (fun c114 => ?_) (fun c114 => ?_)
      · replace H := Gets.ct H c114
        refine WP.seq ?_
        refine WP.reg [(0, false)] (by kernel_rfl) ?_
        refine as0 rfl rfl ?_
        refine .fin ?_
        replace H := Gets.outr H
        obtain rfl := Gets.out H
        exact WP.retL (fun _ _ h => h) rfl () trivial (.cons (res_tmp rfl) .nil) rfl (st_seln 0 [] 0 rfl rfl rfl)
      · replace H := Gets.cf H c114
        refine WP.skip ?_
        refine WP.reg [(0, false), (1, false)] (by kernel_rfl) ?_
        refine Dv.bin rfl trivial rfl rfl (fun _ => run_add) ?_
        refine mv0 rfl rfl ?_
        refine .fin ?_
        exact Back.mk j115 (w64 (x109 + 1)) (Nat.lt_succ_self _) H (weak_cons rfl (weak_cons rfl (weak_cons rfl (weak_cons rfl (weak_cons rfl (weak_cons rfl weak_nil)))))) (List.Perm.refl _)
    · replace H := Gets.cf H c110
      refine WP.exit ?_
      replace H := Gets.out H
      exact Jn.mk (x109, decide (x109 < (a0.size : Int))) H (weak_cons rfl (weak_cons rfl (weak_cons rfl (weak_cons rfl (weak_cons rfl (weak_cons rfl (weak_cons rfl weak_nil))))))) (List.Perm.refl _)
theorem bytealg_Cutover.c {a0 : Int} {r : Int} (h : bytealg_Cutover.f a0 = some r) : Pt Tryz.prog 132 [eq (.int .i64 a0)] (eq (.int .i64 r)) := by
  unfold bytealg_Cutover.f at h
  refine (Tr.body Tryz.func132 (c := _) rfl Tryz.ntmps132 (Nat.le_of_ble_eq_true rfl) fun R0 F => ?_).pt
  replace h := Gets.of h
  have H := h
  clear h
  refine WP.seq ?_
  refine WP.reg [(0, false)] (by kernel_rfl) ?_
  refine as0 rfl rfl ?_
  refine .fin ?_
  refine WP.seq ?_
  refine WP.reg [(0, false), (1, false), (2, false), (3, false)] (by kernel_rfl) ?_
  refine mv0 rfl rfl ?_
  refine Dv.bin rfl trivial rfl rfl (fun _ => run_add) ?_
  refine Dv.bin rfl trivial rfl rfl (fun _ => run_quo (by decide)) ?_
  refine as0 rfl rfl ?_
  refine .fin ?_
  obtain rfl := Gets.out H
  exact WP.retL (fun _ _ h => h) rfl () trivial (.cons (res_tmp rfl) .nil) rfl (st_seln 0 [] 0 rfl rfl rfl)
theorem stringslite_Index.c {a0 : ByteArray} {a1 : ByteArray} {r : Int} (h : stringslite_Index.f a0 a1 = some r) : Pt Tryz.prog 129 [eq (.string a0), eq (.string a1)] (eq (.int .i64 r)) := by
  unfold stringslite_Index.f at h
  refine (Tr.body Tryz.func129 (c := _) rfl Tryz.ntmps129 (Nat.le_of_ble_eq_true rfl) fun R0 F => ?_).pt
  replace h := Gets.of h
  have H := h
  clear h
  refine WP.seq ?_
  refine WP.reg [(0, false)] (by kernel_rfl) ?_
  refine as0 rfl rfl ?_
  refine .fin ?_
  refine WP.seq ?_
  refine WP.reg [(0, false), (1, false), (2, false)] (by kernel_rfl) ?_
  refine mv0 rfl rfl ?_
  refine Dv.lens rfl trivial rfl Tryz.underlying9 ?_
  refine as0 rfl rfl ?_
  refine .fin ?_
  refine WP.seq ?_
  refine WP.block ?_
  refine WP.seq ?_
  refine WP.reg [(0, false), (1, false), (2, false), (3, false), (4, false), (5, false), (6, false), (7, false)] (by kernel_rfl) ?_
  refine mv0 rfl rfl ?_
  refine Dv.bin rfl trivial rfl rfl (fun _ => run_eq) ?_
  refine mv0 rfl rfl ?_
  cases c119 : ((a1.size : Int) == 0)
  · replace H := Gets.cf H c119
    refine Dv.mv rfl ⟨_, _, rfl, rfl, rfl⟩ rfl ?_
    refine Dv.mv rfl ⟨_, _, rfl, rfl, rfl⟩ rfl ?_
    refine Dv.bin rfl ⟨_, _, rfl, rfl, rfl⟩ rfl rfl (fun _ => run_seq) ?_
    refine Dv.pickF rfl trivial rfl rfl ?_
    refine as0 rfl rfl ?_
    refine .fin ?_
    refine WP.cond rfl (fun c121 => ?_) (fun c121 => ?_)
    · replace H := Gets.ct H c121
      refine WP.seq ?_
      refine WP.reg [(0, false)] (by kernel_rfl) ?_
      refine as0 rfl rfl ?_
      refine .fin ?_
      obtain rfl := Gets.out H
      exact WP.retL (fun _ _ h => h) rfl () trivial (.cons (res_tmp rfl) .nil) rfl (st_seln 0 [] 0 rfl rfl rfl)
    · replace H := Gets.cf H c121
      refine WP.seq ?_
      refine WP.reg [(0, false), (1, false), (2, false)] (by kernel_rfl) ?_
      refine mv0 rfl rfl ?_
      refine Dv.bin rfl trivial rfl rfl (fun _ => run_eq) ?_
      refine as0 rfl rfl ?_
      refine .fin ?_
      refine WP.cond rfl (fun c122 => ?_) (fun c122 => ?_)
      · replace H := Gets.ct H c122
        refine WP.seq ?_
        refine WP.reg [(0, false), (1, false), (2, false), (3, false), (4, false)] (by kernel_rfl) ?_
        refine mv0 rfl rfl ?_
        refine mv0 rfl rfl ?_
        obtain ⟨g123, H⟩ := Gets.grd H
        refine Dv.ixs rfl trivial rfl rfl Tryz.underlying9 g123.1 g123.2 ?_
        obtain ⟨t124, h125, H⟩ := Gets.call H
        refine Dv.call rfl trivial cal130 rfl (stringslite_IndexByte.c h125) ?_
        refine as0 rfl rfl ?_
        refine .fin ?_
        obtain rfl := Gets.out H
        exact WP.retL (fun _ _ h => h) rfl () trivial (.cons (res_tmp rfl) .nil) rfl (st_seln 0 [] 0 rfl rfl rfl)
      · replace H := Gets.cf H c122
        refine WP.seq ?_
        refine WP.reg [(0, false), (1, false), (2, false), (3, false), (4, false)] (by kernel_rfl) ?_
        refine mv0 rfl rfl ?_
        refine mv0 rfl rfl ?_
        refine Dv.lens rfl trivial rfl Tryz.underlying9 ?_
        refine Dv.bin rfl trivial rfl rfl (fun _ => run_ge) ?_
        refine as0 rfl rfl ?_
        refine .fin ?_
        refine WP.cond rfl (fun c126 => ?_) (fun c126 => ?_)
        · replace H := Gets.ct H c126
          refine WP.seq ?_
          refine WP.reg [(0, false)] (by kernel_rfl) ?_
          refine as0 rfl rfl ?_
          refine .fin ?_
          obtain rfl := Gets.out H
          exact WP.retL (fun _ _ h => h) rfl () trivial (.cons (res_tmp rfl) .nil) rfl (st_seln 0 [] 0 rfl rfl rfl)
        · replace H := Gets.cf H c126
          exact (Gets.no H).elim
  · replace H := Gets.ct H c119
    refine sk rfl rfl rfl rfl rfl ?_
    refine sk rfl rfl rfl rfl rfl ?_
    refine sk rfl rfl rfl rfl rfl ?_
    refine Dv.pickT rfl trivial rfl rfl ?_
    refine as0 rfl rfl ?_
    refine .fin ?_
    refine WP.cond rfl (fun _ => ?_) nofun
    refine WP.seq ?_
    refine WP.reg [(0, false)] (by kernel_rfl) ?_
    refine as0 rfl rfl ?_
    refine .fin ?_
    obtain rfl := Gets.out H
    exact WP.retL (fun _ _ h => h) rfl () trivial (.cons (res_tmp rfl) .nil) rfl (st_seln 0 [] 0 rfl rfl rfl)
theorem stringslite_Cut.c {a0 : ByteArray} {a1 : ByteArray} {r : ByteArray × ByteArray × Bool} (h : stringslite_Cut.f a0 a1 = some r) : Pt Tryz.prog 124 [eq (.string a0), eq (.string a1)] (tup [eq (.string r.1), eq (.string r.2.1), eq (.bool r.2.2)]) := by
  unfold stringslite_Cut.f at h
  refine (Tr.body Tryz.func124 (c := _) rfl Tryz.ntmps124 (Nat.le_of_ble_eq_true rfl) fun R0 F => ?_).pt
  replace h := Gets.of h
  have H := h
  clear h
  refine WP.seq ?_
  refine WP.reg [(0, false), (1, false), (2, false)] (by kernel_rfl) ?_
  refine as0 rfl rfl ?_
  refine as0 rfl rfl ?_
  refine as0 rfl rfl ?_
  refine .fin ?_
  refine WP.seq ?_
  refine WP.seq ?_
  refine WP.reg [(0, false), (1, false), (2, false), (3, false)] (by kernel_rfl) ?_
  refine mv0 rfl rfl ?_
  refine mv0 rfl rfl ?_
  obtain ⟨t127, h128, H⟩ := Gets.call H
  refine Dv.call rfl trivial cal129 rfl (stringslite_Index.c h128) ?_
  refine as0 rfl rfl ?_
  refine .fin ?_
  refine WP.seq ?_
  refine WP.reg [(0, false), (1, false)] (by kernel_rfl) ?_
  refine mv0 rfl rfl ?_
  refine Dv.bin rfl trivial rfl rfl (fun _ => run_ge) ?_
  refine .fin ?_
  refine WP.cond rfl (fun c129 => ?_) (fun c129 => ?_)
  · replace H := Gets.ct H c129
    refine WP.seq ?_
    refine WP.dreg Tryz.checked.mixed [(0, false), (1, false), (2, false), (3, false), (4, false), (5, false), (6, false), (7, false), (8, false), (9, false), (10, false), (11, false)] (by kernel_rfl) ?_
    refine mv0 rfl rfl ?_
    refine mv0 rfl rfl ?_
    obtain ⟨g130, H⟩ := Gets.grd H
    refine Dv.sss rfl trivial rfl Tryz.underlying9 bdE_none (bdE_some rfl g130.1) g130.2.1 g130.2.2 ?_
    refine mv0 rfl rfl ?_
    refine mv0 rfl rfl ?_
    refine mv0 rfl rfl ?_
    refine Dv.lens rfl trivial rfl Tryz.underlying9 ?_
    refine Dv.bin rfl trivial rfl rfl (fun _ => run_add) ?_
    obtain ⟨g131, H⟩ := Gets.grd H
    refine Dv.sss rfl trivial rfl Tryz.underlying9 (bdE_some rfl g131.1) bdE_none g131.2.1 g131.2.2 ?_
    refine as0 rfl rfl ?_
    refine as0 rfl rfl ?_
    refine as0 rfl rfl ?_
    refine .fin ?_
    obtain rfl := Gets.out H
    exact WP.retL (fun _ _ h => h) rfl () trivial (.cons (res_tmp rfl) (.cons (res_tmp rfl) (.cons (res_tmp rfl) .nil))) rfl (st_seln 0 [] 0 rfl rfl rfl)
  · replace H := Gets.cf H c129
    refine WP.skip ?_
    refine WP.seq ?_
    refine WP.reg [(0, false), (1, false), (2, false), (3, false)] (by kernel_rfl) ?_
    refine mv0 rfl rfl ?_
    refine as0 rfl rfl ?_
    refine as0 rfl rfl ?_
    refine as0 rfl rfl ?_
    refine .fin ?_
    obtain rfl := Gets.out H
    exact WP.retL (fun _ _ h => h) rfl () trivial (.cons (res_tmp rfl) (.cons (res_tmp rfl) (.cons (res_tmp rfl) .nil))) rfl (st_seln 0 [] 0 rfl rfl rfl)
theorem strings_Cut.c {a0 : ByteArray} {a1 : ByteArray} {r : ByteArray × ByteArray × Bool} (h : strings_Cut.f a0 a1 = some r) : Pt Tryz.prog 119 [eq (.string a0), eq (.string a1)] (tup [eq (.string r.1), eq (.string r.2.1), eq (.bool r.2.2)]) := by
  unfold strings_Cut.f at h
  refine (Tr.body Tryz.func119 (c := _) rfl Tryz.ntmps119 (Nat.le_of_ble_eq_true rfl) fun R0 F => ?_).pt
  replace h := Gets.of h
  have H := h
  clear h
  refine WP.seq ?_
  refine WP.reg [(0, false), (1, false), (2, false)] (by kernel_rfl) ?_
  refine as0 rfl rfl ?_
  refine as0 rfl rfl ?_
  refine as0 rfl rfl ?_
  refine .fin ?_
  refine WP.seq ?_
  refine WP.reg [(0, false), (1, false), (2, false), (3, false), (4, false), (5, false), (6, false), (7, false), (8, false)] (by kernel_rfl) ?_
  refine mv0 rfl rfl ?_
  refine mv0 rfl rfl ?_
  obtain ⟨t132, h133, H⟩ := Gets.call H
  refine Dv.call rfl trivial cal124 rfl (stringslite_Cut.c h133) ?_
  refine Dv.ext rfl trivial rfl rfl ?_
  refine Dv.ext rfl trivial rfl rfl ?_
  refine Dv.ext rfl trivial rfl rfl ?_
  refine as0 rfl rfl ?_
  refine as0 rfl rfl ?_
  refine as0 rfl rfl ?_
  refine .fin ?_
  obtain rfl := Gets.out H
  exact WP.retL (fun _ _ h => h) rfl () trivial (.cons (res_tmp rfl) (.cons (res_tmp rfl) (.cons (res_tmp rfl) .nil))) rfl (st_seln 0 [] 0 rfl rfl rfl)
theorem name_Server.c {k : Nat} {a0 : ByteArray} {r : Bool} (h : name_Server.f k a0 = some r) : Pt Tryz.prog 120 [eq (.string a0)] (eq (.bool r)) := by
  unfold name_Server.f at h
  refine (Tr.body Tryz.func120 (c := _) rfl Tryz.ntmps120 (Nat.le_of_ble_eq_true rfl) fun R0 F => ?_).pt
  replace h := Gets.of h
  have H := h
  clear h
  refine WP.seq ?_
  refine WP.reg [(0, false)] (by kernel_rfl) ?_
  refine as0 rfl rfl ?_
  refine .fin ?_
  refine WP.seq ?_
  refine WP.reg [(0, false), (1, false), (2, false), (3, false), (4, false), (5, false), (6, false), (7, false), (8, false), (9, false), (10, false), (11, false), (12, false), (13, false), (14, false), (15, false)] (by kernel_rfl) ?_
  refine mv0 rfl rfl ?_
  obtain ⟨t134, h135, H⟩ := Gets.call H
  refine Dv.call rfl trivial cal118 rfl (name_may.c h135) ?_
  refine mv0 rfl rfl ?_
  cases c136 : t134
  · replace H := Gets.cf H c136
    refine sk rfl rfl rfl rfl rfl ?_
    refine sk rfl rfl rfl rfl rfl ?_
    refine sk rfl rfl rfl rfl rfl ?_
    refine Dv.pickF rfl trivial rfl rfl ?_
    refine mv0 rfl rfl ?_
    refine sk rfl rfl rfl rfl rfl ?_
    refine sk rfl rfl rfl rfl rfl ?_
    refine sk rfl rfl rfl rfl rfl ?_
    refine sk rfl rfl rfl rfl rfl ?_
    refine sk rfl rfl rfl rfl rfl ?_
    refine sk rfl rfl rfl rfl rfl ?_
    refine Dv.pickF rfl trivial rfl rfl ?_
    refine as0 rfl rfl ?_
    refine .fin ?_
    obtain rfl := Gets.out H
    exact WP.retL (fun _ _ h => h) rfl () trivial (.cons (res_tmp rfl) .nil) rfl (st_seln 0 [] 0 rfl rfl rfl)
  · replace H := Gets.ct H c136
    refine Dv.mv rfl ⟨_, _, rfl, rfl, rfl⟩ rfl ?_
    obtain ⟨g137, H⟩ := Gets.grd H
    refine Dv.ixs rfl ⟨_, _, rfl, rfl, rfl⟩ rfl rfl Tryz.underlying9 g137.1 g137.2 ?_
    obtain ⟨t138, h139, H⟩ := Gets.call H
    refine Dv.call rfl ⟨_, _, rfl, rfl, rfl⟩ cal125 rfl (name_small.c h139) ?_
    refine Dv.pickT rfl trivial rfl rfl ?_
    refine mv0 rfl rfl ?_
    cases c140 : t138
    · replace H := Gets.cf H c140
      refine sk rfl rfl rfl rfl rfl ?_
      refine sk rfl rfl rfl rfl rfl ?_
      refine sk rfl rfl rfl rfl rfl ?_
      refine sk rfl rfl rfl rfl rfl ?_
      refine sk rfl rfl rfl rfl rfl ?_
      refine sk rfl rfl rfl rfl rfl ?_
      refine Dv.pickF rfl trivial rfl rfl ?_
      refine as0 rfl rfl ?_
      refine .fin ?_
      obtain rfl := Gets.out H
      exact WP.retL (fun _ _ h => h) rfl () trivial (.cons (res_tmp rfl) .nil) rfl (st_seln 0 [] 0 rfl rfl rfl)
    · replace H := Gets.ct H c140
      refine Dv.mv rfl ⟨_, _, rfl, rfl, rfl⟩ rfl ?_
      refine Dv.mv rfl ⟨_, _, rfl, rfl, rfl⟩ rfl ?_
      refine Dv.lens rfl ⟨_, _, rfl, rfl, rfl⟩ rfl Tryz.underlying9 ?_
      refine Dv.bin rfl ⟨_, _, rfl, rfl, rfl⟩ rfl rfl (fun _ => run_sub) ?_
      obtain ⟨g141, H⟩ := Gets.grd H
      refine Dv.ixs rfl ⟨_, _, rfl, rfl, rfl⟩ rfl rfl Tryz.underlying9 g141.1 g141.2 ?_
      obtain ⟨t142, h143, H⟩ := Gets.call H
      refine Dv.call rfl ⟨_, _, rfl, rfl, rfl⟩ cal125 rfl (name_small.c h143) ?_
      refine Dv.pickT rfl trivial rfl rfl ?_
      refine as0 rfl rfl ?_
      refine .fin ?_
      obtain rfl := Gets.out H
      exact WP.retL (fun _ _ h => h) rfl () trivial (.cons (res_tmp rfl) .nil) rfl (st_seln 0 [] 0 rfl rfl rfl)
theorem name_split.c {k : Nat} {a0 : ByteArray} {a1 : ByteArray} {r : ByteArray × ByteArray × Bool} (h : name_split.f k a0 a1 = some r) : Pt Tryz.prog 105 [eq (.string a0), eq (.string a1)] (tup [eq (.string r.1), eq (.string r.2.1), eq (.bool r.2.2)]) := by
  unfold name_split.f at h
  refine (Tr.body Tryz.func105 (c := _) rfl Tryz.ntmps105 (Nat.le_of_ble_eq_true rfl) fun R0 F => ?_).pt
  replace h := Gets.of h
  have H := h
  clear h
  refine WP.seq ?_
  refine WP.reg [(0, false), (1, false), (2, false)] (by kernel_rfl) ?_
  refine as0 rfl rfl ?_
  refine as0 rfl rfl ?_
  refine as0 rfl rfl ?_
  refine .fin ?_
  refine WP.seq ?_
  refine WP.reg [(0, false), (1, false), (2, false), (3, false), (4, false), (5, false), (6, false), (7, false)] (by kernel_rfl) ?_
  refine mv0 rfl rfl ?_
  refine mv0 rfl rfl ?_
  obtain ⟨t144, h145, H⟩ := Gets.call H
  refine Dv.call rfl trivial cal117 rfl (strings_CutPrefix.c h145) ?_
  refine mv0 rfl rfl ?_
  refine Dv.ext rfl trivial rfl rfl ?_
  refine Dv.ext rfl trivial rfl rfl ?_
  refine as0 rfl rfl ?_
  refine as0 rfl rfl ?_
  refine .fin ?_
  refine WP.seq ?_
  refine WP.reg [(0, false), (1, false), (2, false), (3, false), (4, false), (5, false), (6, false), (7, false), (8, false)] (by kernel_rfl) ?_
  refine mv0 rfl rfl ?_
  obtain ⟨t146, h147, H⟩ := Gets.call H
  refine Dv.call rfl trivial cal119 rfl (strings_Cut.c h147) ?_
  refine mv0 rfl rfl ?_
  refine Dv.ext rfl trivial rfl rfl ?_
  refine Dv.ext rfl trivial rfl rfl ?_
  refine Dv.ext rfl trivial rfl rfl ?_
  refine as0 rfl rfl ?_
  refine as0 rfl rfl ?_
  refine as0 rfl rfl ?_
  refine .fin ?_
  refine WP.seq ?_
  refine WP.reg [(0, false), (1, false), (2, false), (3, false), (4, false), (5, false), (6, false), (7, false), (8, false), (9, false), (10, false), (11, false), (12, false), (13, false), (14, false), (15, false), (16, false)] (by kernel_rfl) ?_
  refine mv0 rfl rfl ?_
  refine mv0 rfl rfl ?_
  refine mv0 rfl rfl ?_
  refine mv0 rfl rfl ?_
  cases c148 : t144.2
  · replace H := Gets.cf H c148
    refine sk rfl rfl rfl rfl rfl ?_
    refine Dv.pickF rfl trivial rfl rfl ?_
    refine mv0 rfl rfl ?_
    refine sk rfl rfl rfl rfl rfl ?_
    refine sk rfl rfl rfl rfl rfl ?_
    refine Dv.pickF rfl trivial rfl rfl ?_
    refine mv0 rfl rfl ?_
    refine sk rfl rfl rfl rfl rfl ?_
    refine sk rfl rfl rfl rfl rfl ?_
    refine Dv.pickF rfl trivial rfl rfl ?_
    refine as0 rfl rfl ?_
    refine as0 rfl rfl ?_
    refine as0 rfl rfl ?_
    refine .fin ?_
    obtain rfl := Gets.out H
    exact WP.retL (fun _ _ h => h) rfl () trivial (.cons (res_tmp rfl) (.cons (res_tmp rfl) (.cons (res_tmp rfl) .nil))) rfl (st_seln 0 [] 0 rfl rfl rfl)
  · replace H := Gets.ct H c148
    refine Dv.mv rfl ⟨_, _, rfl, rfl, rfl⟩ rfl ?_
    refine Dv.pickT rfl trivial rfl rfl ?_
    refine mv0 rfl rfl ?_
    cases c149 : t146.2.2
    · replace H := Gets.cf H c149
      refine sk rfl rfl rfl rfl rfl ?_
      refine sk rfl rfl rfl rfl rfl ?_
      refine Dv.pickF rfl trivial rfl rfl ?_
      refine mv0 rfl rfl ?_
      refine sk rfl rfl rfl rfl rfl ?_
      refine sk rfl rfl rfl rfl rfl ?_
      refine Dv.pickF rfl trivial rfl rfl ?_
      refine as0 rfl rfl ?_
      refine as0 rfl rfl ?_
      refine as0 rfl rfl ?_
      refine .fin ?_
      obtain rfl := Gets.out H
      exact WP.retL (fun _ _ h => h) rfl () trivial (.cons (res_tmp rfl) (.cons (res_tmp rfl) (.cons (res_tmp rfl) .nil))) rfl (st_seln 0 [] 0 rfl rfl rfl)
    · replace H := Gets.ct H c149
      refine Dv.mv rfl ⟨_, _, rfl, rfl, rfl⟩ rfl ?_
      obtain ⟨t150, h151, H⟩ := Gets.call H
      refine Dv.call rfl ⟨_, _, rfl, rfl, rfl⟩ cal118 rfl (name_may.c h151) ?_
      refine Dv.pickT rfl trivial rfl rfl ?_
      refine mv0 rfl rfl ?_
      cases c152 : t150
      · replace H := Gets.cf H c152
        refine sk rfl rfl rfl rfl rfl ?_
        refine sk rfl rfl rfl rfl rfl ?_
        refine Dv.pickF rfl trivial rfl rfl ?_
        refine as0 rfl rfl ?_
        refine as0 rfl rfl ?_
        refine as0 rfl rfl ?_
        refine .fin ?_
        obtain rfl := Gets.out H
        exact WP.retL (fun _ _ h => h) rfl () trivial (.cons (res_tmp rfl) (.cons (res_tmp rfl) (.cons (res_tmp rfl) .nil))) rfl (st_seln 0 [] 0 rfl rfl rfl)
      · replace H := Gets.ct H c152
        refine Dv.mv rfl ⟨_, _, rfl, rfl, rfl⟩ rfl ?_
        obtain ⟨t153, h154, H⟩ := Gets.call H
        refine Dv.call rfl ⟨_, _, rfl, rfl, rfl⟩ cal120 rfl (name_Server.c h154) ?_
        refine Dv.pickT rfl trivial rfl rfl ?_
        refine as0 rfl rfl ?_
        refine as0 rfl rfl ?_
        refine as0 rfl rfl ?_
        refine .fin ?_
        obtain rfl := Gets.out H
        exact WP.retL (fun _ _ h => h) rfl () trivial (.cons (res_tmp rfl) (.cons (res_tmp rfl) (.cons (res_tmp rfl) .nil))) rfl (st_seln 0 [] 0 rfl rfl rfl)
theorem name_Room.c {k : Nat} {a0 : ByteArray} {r : Bool} (h : name_Room.f k a0 = some r) : Pt Tryz.prog 100 [eq (.string a0)] (eq (.bool r)) := by
  unfold name_Room.f at h
  refine (Tr.body Tryz.func100 (c := _) rfl Tryz.ntmps100 (Nat.le_of_ble_eq_true rfl) fun R0 F => ?_).pt
  replace h := Gets.of h
  have H := h
  clear h
  refine WP.seq ?_
  refine WP.reg [(0, false)] (by kernel_rfl) ?_
  refine as0 rfl rfl ?_
  refine .fin ?_
  refine WP.seq ?_
  refine WP.reg [(0, false), (1, false), (2, false), (3, false), (4, false), (5, false), (6, false), (7, false), (8, false)] (by kernel_rfl) ?_
  refine mv0 rfl rfl ?_
  obtain ⟨t155, h156, H⟩ := Gets.call H
  refine Dv.call rfl trivial cal105 rfl (name_split.c h156) ?_
  refine mv0 rfl rfl ?_
  refine Dv.ext rfl trivial rfl rfl ?_
  refine Dv.ext rfl trivial rfl rfl ?_
  refine Dv.ext rfl trivial rfl rfl ?_
  refine as0 rfl rfl ?_
  refine as0 rfl rfl ?_
  refine as0 rfl rfl ?_
  refine .fin ?_
  refine WP.seq ?_
  refine WP.reg [(0, false), (1, false)] (by kernel_rfl) ?_
  refine mv0 rfl rfl ?_
  refine as0 rfl rfl ?_
  refine .fin ?_
  obtain rfl := Gets.out H
  exact WP.retL (fun _ _ h => h) rfl () trivial (.cons (res_tmp rfl) .nil) rfl (st_seln 0 [] 0 rfl rfl rfl)
theorem name_Event.c {k : Nat} {a0 : ByteArray} {r : Bool} (h : name_Event.f k a0 = some r) : Pt Tryz.prog 101 [eq (.string a0)] (eq (.bool r)) := by
  unfold name_Event.f at h
  refine (Tr.body Tryz.func101 (c := _) rfl Tryz.ntmps101 (Nat.le_of_ble_eq_true rfl) fun R0 F => ?_).pt
  replace h := Gets.of h
  have H := h
  clear h
  refine WP.seq ?_
  refine WP.reg [(0, false)] (by kernel_rfl) ?_
  refine as0 rfl rfl ?_
  refine .fin ?_
  refine WP.seq ?_
  refine WP.reg [(0, false), (1, false), (2, false), (3, false), (4, false), (5, false), (6, false)] (by kernel_rfl) ?_
  refine mv0 rfl rfl ?_
  obtain ⟨t157, h158, H⟩ := Gets.call H
  refine Dv.call rfl trivial cal117 rfl (strings_CutPrefix.c h158) ?_
  refine mv0 rfl rfl ?_
  refine Dv.ext rfl trivial rfl rfl ?_
  refine Dv.ext rfl trivial rfl rfl ?_
  refine as0 rfl rfl ?_
  refine as0 rfl rfl ?_
  refine .fin ?_
  refine WP.seq ?_
  refine WP.reg [(0, false), (1, false), (2, false), (3, false), (4, false), (5, false)] (by kernel_rfl) ?_
  refine mv0 rfl rfl ?_
  refine mv0 rfl rfl ?_
  cases c159 : t157.2
  · replace H := Gets.cf H c159
    refine sk rfl rfl rfl rfl rfl ?_
    refine sk rfl rfl rfl rfl rfl ?_
    refine Dv.pickF rfl trivial rfl rfl ?_
    refine as0 rfl rfl ?_
    refine .fin ?_
    obtain rfl := Gets.out H
    exact WP.retL (fun _ _ h => h) rfl () trivial (.cons (res_tmp rfl) .nil) rfl (st_seln 0 [] 0 rfl rfl rfl)
  · replace H := Gets.ct H c159
    refine Dv.mv rfl ⟨_, _, rfl, rfl, rfl⟩ rfl ?_
    obtain ⟨t160, h161, H⟩ := Gets.call H
    refine Dv.call rfl ⟨_, _, rfl, rfl, rfl⟩ cal118 rfl (name_may.c h161) ?_
    refine Dv.pickT rfl trivial rfl rfl ?_
    refine as0 rfl rfl ?_
    refine .fin ?_
    obtain rfl := Gets.out H
    exact WP.retL (fun _ _ h => h) rfl () trivial (.cons (res_tmp rfl) .nil) rfl (st_seln 0 [] 0 rfl rfl rfl)
theorem name_Thread.c {k : Nat} {a0 : ByteArray} {r : Bool} (h : name_Thread.f k a0 = some r) : Pt Tryz.prog 102 [eq (.string a0)] (eq (.bool r)) := by
  unfold name_Thread.f at h
  refine (Tr.body Tryz.func102 (c := _) rfl Tryz.ntmps102 (Nat.le_of_ble_eq_true rfl) fun R0 F => ?_).pt
  replace h := Gets.of h
  have H := h
  clear h
  refine WP.seq ?_
  refine WP.reg [(0, false)] (by kernel_rfl) ?_
  refine as0 rfl rfl ?_
  refine .fin ?_
  refine WP.seq ?_
  refine WP.reg [(0, false), (1, false), (2, false), (3, false), (4, false), (5, false), (6, false), (7, false), (8, false), (9, false), (10, false)] (by kernel_rfl) ?_
  refine mv0 rfl rfl ?_
  refine Dv.bin rfl trivial rfl rfl (fun _ => run_seq) ?_
  refine mv0 rfl rfl ?_
  cases c162 : decide (a0 = (⟨#[]⟩ : ByteArray))
  · replace H := Gets.cf H c162
    refine Dv.mv rfl ⟨_, _, rfl, rfl, rfl⟩ rfl ?_
    refine Dv.bin rfl ⟨_, _, rfl, rfl, rfl⟩ rfl rfl (fun _ => run_seq) ?_
    refine Dv.pickF rfl trivial rfl rfl ?_
    refine mv0 rfl rfl ?_
    cases c163 : decide (a0 = (⟨#[109, 97, 105, 110]⟩ : ByteArray))
    · replace H := Gets.cf H c163
      refine Dv.mv rfl ⟨_, _, rfl, rfl, rfl⟩ rfl ?_
      obtain ⟨t164, h165, H⟩ := Gets.call H
      refine Dv.call rfl ⟨_, _, rfl, rfl, rfl⟩ cal101 rfl (name_Event.c h165) ?_
      refine Dv.pickF rfl trivial rfl rfl ?_
      refine as0 rfl rfl ?_
      refine .fin ?_
      obtain rfl := Gets.out H
      exact WP.retL (fun _ _ h => h) rfl () trivial (.cons (res_tmp rfl) .nil) rfl (st_seln 0 [] 0 rfl rfl rfl)
    · replace H := Gets.ct H c163
      refine sk rfl rfl rfl rfl rfl ?_
      refine sk rfl rfl rfl rfl rfl ?_
      refine Dv.pickT rfl trivial rfl rfl ?_
      refine as0 rfl rfl ?_
      refine .fin ?_
      obtain rfl := Gets.out H
      exact WP.retL (fun _ _ h => h) rfl () trivial (.cons (res_tmp rfl) .nil) rfl (st_seln 0 [] 0 rfl rfl rfl)
  · replace H := Gets.ct H c162
    refine sk rfl rfl rfl rfl rfl ?_
    refine sk rfl rfl rfl rfl rfl ?_
    refine Dv.pickT rfl trivial rfl rfl ?_
    refine mv0 rfl rfl ?_
    refine sk rfl rfl rfl rfl rfl ?_
    refine sk rfl rfl rfl rfl rfl ?_
    refine Dv.pickT rfl trivial rfl rfl ?_
    refine as0 rfl rfl ?_
    refine .fin ?_
    obtain rfl := Gets.out H
    exact WP.retL (fun _ _ h => h) rfl () trivial (.cons (res_tmp rfl) .nil) rfl (st_seln 0 [] 0 rfl rfl rfl)
theorem edu_asks_3.c {k : Nat} {a0 : Edu} {r : Bool} (h : edu_asks_3.f k a0 = some r) : Pt Tryz.prog 99 [agg (Edu.enc a0)] (eq (.bool r)) := by
  unfold edu_asks_3.f at h
  refine (Tr.body Tryz.func99 (c := _) rfl Tryz.ntmps99 (Nat.le_of_ble_eq_true rfl) fun R0 F => ?_).pt
  replace h := Gets.of h
  have H := h
  clear h
  refine WP.seq ?_
  refine WP.reg [(0, true), (1, false)] (by kernel_rfl) ?_
  refine Dv.box rfl trivial rfl (cells_agg (Edu.K.one _)) nofun (fun b166 => ?_)
  refine as0 rfl rfl ?_
  refine .fin ?_
  refine WP.seq ?_
  refine WP.reg [(0, false), (1, false), (2, false), (3, false), (4, false), (5, false), (6, false), (7, false), (8, false), (9, false), (10, false), (11, false), (12, false), (13, false)] (by kernel_rfl) ?_
  refine Dv.fab rfl trivial rfl Tryz.underlying32 rfl Tryz.underlying9 c9 (by decide) ?_
  refine Dv.ldb rfl trivial rfl Tryz.underlying9 rfl (mem_at 0 rfl) rfl ?_
  obtain ⟨t167, h168, H⟩ := Gets.call H
  refine Dv.call rfl trivial cal100 rfl (name_Room.c h168) ?_
  refine mv0 rfl rfl ?_
  cases c169 : t167
  · replace H := Gets.cf H c169
    refine sk rfl rfl rfl rfl rfl ?_
    refine sk rfl rfl rfl rfl rfl ?_
    refine sk rfl rfl rfl rfl rfl ?_
    refine Dv.pickF rfl trivial rfl rfl ?_
    refine mv0 rfl rfl ?_
    refine sk rfl rfl rfl rfl rfl ?_
    refine sk rfl rfl rfl rfl rfl ?_
    refine sk rfl rfl rfl rfl rfl ?_
    refine Dv.pickF rfl trivial rfl rfl ?_
    refine as0 rfl rfl ?_
    refine .fin ?_
    obtain rfl := Gets.out H
    exact WP.retL (fun _ _ h => h) rfl () trivial (.cons (res_tmp rfl) .nil) rfl (st_seln 1 [0] 1 rfl rfl rfl)
  · replace H := Gets.ct H c169
    refine Dv.fab rfl ⟨_, _, rfl, rfl, rfl⟩ rfl Tryz.underlying32 rfl Tryz.underlying9 c9 (by decide) ?_
    refine Dv.ldb rfl ⟨_, _, rfl, rfl, rfl⟩ rfl Tryz.underlying9 rfl (mem_at 0 rfl) rfl ?_
    obtain ⟨t170, h171, H⟩ := Gets.call H
    refine Dv.call rfl ⟨_, _, rfl, rfl, rfl⟩ cal101 rfl (name_Event.c h171) ?_
    refine Dv.pickT rfl trivial rfl rfl ?_
    refine mv0 rfl rfl ?_
    cases c172 : t170
    · replace H := Gets.cf H c172
      refine sk rfl rfl rfl rfl rfl ?_
      refine sk rfl rfl rfl rfl rfl ?_
      refine sk rfl rfl rfl rfl rfl ?_
      refine Dv.pickF rfl trivial rfl rfl ?_
      refine as0 rfl rfl ?_
      refine .fin ?_
      obtain rfl := Gets.out H
      exact WP.retL (fun _ _ h => h) rfl () trivial (.cons (res_tmp rfl) .nil) rfl (st_seln 1 [0] 1 rfl rfl rfl)
    · replace H := Gets.ct H c172
      refine Dv.fab rfl ⟨_, _, rfl, rfl, rfl⟩ rfl Tryz.underlying32 rfl Tryz.underlying9 c9 (by decide) ?_
      refine Dv.ldb rfl ⟨_, _, rfl, rfl, rfl⟩ rfl Tryz.underlying9 rfl (mem_at 0 rfl) rfl ?_
      obtain ⟨t173, h174, H⟩ := Gets.call H
      refine Dv.call rfl ⟨_, _, rfl, rfl, rfl⟩ cal102 rfl (name_Thread.c h174) ?_
      refine Dv.pickT rfl trivial rfl rfl ?_
      refine as0 rfl rfl ?_
      refine .fin ?_
      obtain rfl := Gets.out H
      exact WP.retL (fun _ _ h => h) rfl () trivial (.cons (res_tmp rfl) .nil) rfl (st_seln 1 [0] 1 rfl rfl rfl)
theorem edu_asks_4.c {k : Nat} {a0 : Edu} {c0 : Int → Int → Int → Option Bool} {r : Bool} (h : edu_asks_4.f k a0 c0 = some r) : Pt Tryz.prog 103 [agg (Edu.enc a0), rp [fq_int_int_int_bool c0]] (eq (.bool r)) := by
  unfold edu_asks_4.f at h
  refine (Tr.body Tryz.func103 (c := _) rfl Tryz.ntmps103 (Nat.le_of_ble_eq_true rfl) fun R0 F => ?_).pt
  replace h := Gets.of h
  have H := h
  clear h
  refine WP.seq ?_
  refine WP.reg [(0, true), (1, false)] (by kernel_rfl) ?_
  refine Dv.box rfl trivial rfl (cells_agg (Edu.K.one _)) nofun (fun b175 => ?_)
  refine as0 rfl rfl ?_
  refine .fin ?_
  refine WP.seq ?_
  refine WP.reg [(0, false), (1, false), (2, false), (3, false), (4, false), (5, false), (6, false), (7, false), (8, false), (9, false), (10, false), (11, false), (12, false), (13, false), (14, false)] (by kernel_rfl) ?_
  refine Dv.fab rfl trivial rfl Tryz.underlying32 rfl Tryz.underlying9 c9 (by decide) ?_
  refine Dv.ldb rfl trivial rfl Tryz.underlying9 rfl (mem_at 0 rfl) rfl ?_
  obtain ⟨t176, h177, H⟩ := Gets.call H
  refine Dv.call rfl trivial cal100 rfl (name_Room.c h177) ?_
  refine mv0 rfl rfl ?_
  cases c178 : t176
  · replace H := Gets.cf H c178
    refine sk rfl rfl rfl rfl rfl ?_
    refine sk rfl rfl rfl rfl rfl ?_
    refine sk rfl rfl rfl rfl rfl ?_
    refine sk rfl rfl rfl rfl rfl ?_
    refine Dv.skip rfl ⟨_, _, rfl, rfl, .inr rfl⟩ ?_
    refine Dv.skip rfl ⟨_, _, rfl, rfl, .inr rfl⟩ ?_
    refine Dv.skip rfl ⟨_, _, rfl, rfl, .inr rfl⟩ ?_
    refine Dv.skip rfl ⟨_, _, rfl, rfl, .inr rfl⟩ ?_
    refine sk rfl rfl rfl rfl rfl ?_
    refine Dv.pickF rfl trivial rfl rfl ?_
    refine as0 rfl rfl ?_
    refine .fin ?_
    obtain rfl := Gets.out H
    exact WP.retL (fun _ _ h => h) rfl () trivial (.cons (res_tmp rfl) .nil) rfl (st_seln 1 [0] 1 rfl rfl rfl)
  · replace H := Gets.ct H c178
    refine Dv.fab rfl ⟨_, _, rfl, rfl, rfl⟩ rfl Tryz.underlying32 rfl Tryz.underlying4 c4 (by decide) ?_
    refine Dv.ldb rfl ⟨_, _, rfl, rfl, rfl⟩ rfl Tryz.underlying4 rfl (mem_at 0 rfl) rfl ?_
    refine Dv.un rfl ⟨_, _, rfl, rfl, rfl⟩ rfl (fun _ => run_not _) ?_
    refine Dv.mv rfl ⟨_, _, rfl, rfl, rfl⟩ rfl ?_
    cases c179 : !a0.fOn
    · replace H := Gets.cf H c179
      refine Dv.ldr rfl ⟨_, _, rfl, rfl, rfl⟩ rfl Tryz.underlying121 rfl rfl ?_
      refine Dv.fab rfl ⟨_, _, rfl, rfl, rfl⟩ rfl Tryz.underlying32 rfl Tryz.underlying3 c3 (by decide) ?_
      refine Dv.ldb rfl ⟨_, _, rfl, rfl, rfl⟩ rfl Tryz.underlying3 rfl (mem_at 0 rfl) rfl ?_
      obtain ⟨t180, h181, H⟩ := Gets.call H
      refine Dv.callq (ret := eq (.bool t180)) rfl ⟨_, _, rfl, rfl, rfl⟩ rfl rfl ⟨_, _, _, _, h181, rfl, rfl⟩ ?_
      refine Dv.pickF rfl ⟨_, _, rfl, rfl, rfl⟩ rfl rfl ?_
      refine Dv.pickT rfl trivial rfl rfl ?_
      refine as0 rfl rfl ?_
      refine .fin ?_
      obtain rfl := Gets.out H
      exact WP.retL (fun _ _ h => h) rfl () trivial (.cons (res_tmp rfl) .nil) rfl (st_seln 1 [0] 1 rfl rfl rfl)
    · replace H := Gets.ct H c179
      refine sk rfl rfl rfl rfl rfl ?_
      refine sk rfl rfl rfl rfl rfl ?_
      refine sk rfl rfl rfl rfl rfl ?_
      refine sk rfl rfl rfl rfl rfl ?_
      refine Dv.pickT rfl ⟨_, _, rfl, rfl, rfl⟩ rfl rfl ?_
      refine Dv.pickT rfl trivial rfl rfl ?_
      refine as0 rfl rfl ?_
      refine .fin ?_
      obtain rfl := Gets.out H
      exact WP.retL (fun _ _ h => h) rfl () trivial (.cons (res_tmp rfl) .nil) rfl (st_seln 1 [0] 1 rfl rfl rfl)
theorem edu_asks_5.c {a0 : Edu} {c0 : Int → Int → Int → Option Bool} {r : Bool} (h : edu_asks_5.f a0 c0 = some r) : Pt Tryz.prog 104 [agg (Edu.enc a0), rp [fq_int_int_int_bool c0]] (eq (.bool r)) := by
  unfold edu_asks_5.f at h
  refine (Tr.body Tryz.func104 (c := _) rfl Tryz.ntmps104 (Nat.le_of_ble_eq_true rfl) fun R0 F => ?_).pt
  replace h := Gets.of h
  have H := h
  clear h
  refine WP.seq ?_
  refine WP.reg [(0, true), (1, false)] (by kernel_rfl) ?_
  refine Dv.box rfl trivial rfl (cells_agg (Edu.K.one _)) nofun (fun b182 => ?_)
  refine as0 rfl rfl ?_
  refine .fin ?_
  refine WP.seq ?_
  refine WP.reg [(0, false), (1, false), (2, false), (3, false), (4, false)] (by kernel_rfl) ?_
  refine Dv.ldr rfl trivial rfl Tryz.underlying121 rfl rfl ?_
  refine Dv.fab rfl trivial rfl Tryz.underlying32 rfl Tryz.underlying3 c3 (by decide) ?_
  refine Dv.ldb rfl trivial rfl Tryz.underlying3 rfl (mem_at 0 rfl) rfl ?_
  obtain ⟨t183, h184, H⟩ := Gets.call H
  refine Dv.callq (ret := eq (.bool t183)) rfl trivial rfl rfl ⟨_, _, _, _, h184, rfl, rfl⟩ ?_
  refine as0 rfl rfl ?_
  refine .fin ?_
  obtain rfl := Gets.out H
  exact WP.retL (fun _ _ h => h) rfl () trivial (.cons (res_tmp rfl) .nil) rfl (st_seln 1 [0] 1 rfl rfl rfl)
theorem edu_asks.c {k : Nat} {r : (List (Edu → Option Bool))} (h : edu_asks.f k = some r) : Pt Tryz.prog 71 [] (sl fK_api_Edu_bool r) := by
  unfold edu_asks.f at h
  refine (Tr.body Tryz.func71 (c := _) rfl Tryz.ntmps71 (Nat.le_of_ble_eq_true rfl) fun R0 F => ?_).pt
  replace h := Gets.of h
  have H := h
  clear h
  refine WP.seq ?_
  refine WP.reg [(0, false)] (by kernel_rfl) ?_
  refine as0 rfl rfl ?_
  refine .fin ?_
  refine WP.seq ?_
  refine WP.reg [(0, true), (1, true)] (by kernel_rfl) ?_
  refine Dv.alloc (z := .nilFunc) (qs := [eq .nilFunc]) rfl trivial z121 rfl nofun (fun b185 => ?_)
  refine Dv.stx ([blk b185 121 [eq (.func (.func 97) #[] #[])]] ++ F) rfl trivial rfl rfl (cells_one (one_eq rfl)) Tryz.underlying121 c121 rfl (j := 0) rfl (Nat.le_of_ble_eq_true rfl) rfl nofun ?_
  refine .fin ?_
  refine WP.seq ?_
  refine WP.reg [(0, false), (1, false), (2, false), (3, false)] (by kernel_rfl) ?_
  refine Dv.gh (gh_frzb (E' := [(0, eq (.slice none 0 0)), (1, rp [eq (.func (.func 97) #[] #[])])]) (l' := [] ++ F) 0 rfl (cve_cons rfl cv_id (cve_cons rfl cv_eq cve_nil)) (all2_app .nil fun _ => cva_id)) (fun _ _ => ?_)
  refine Dv.mkf (Q := fqQ_api_Edu_bool (fun a0_ => edu_asks_4.f k a0_ edu_asks_1.f)) cal103 (by rintro _ _ ⟨a0_, r_, h_, rfl, rfl⟩; exact Pt.weak (edu_asks_4.c h_) (.cons wk_id (.cons (wk_rp (.cons (wk_fn cal97 (by rintro _ _ ⟨a0_, a1_, a2_, r_, h_, rfl, rfl⟩; exact edu_asks_1.c h_)) .nil)) .nil))) rfl trivial rfl rfl ?_
  refine Dv.mkf (Q := fqQ_api_Edu_bool (fun a0_ => edu_asks_5.f a0_ edu_asks_1.f)) cal104 (by rintro _ _ ⟨a0_, r_, h_, rfl, rfl⟩; exact Pt.weak (edu_asks_5.c h_) (.cons wk_id (.cons (wk_rp (.cons (wk_fn cal97 (by rintro _ _ ⟨a0_, a1_, a2_, r_, h_, rfl, rfl⟩; exact edu_asks_1.c h_)) .nil)) .nil))) rfl trivial rfl rfl ?_
  refine Dv.lit fK_api_Edu_bool ([edu_asks_2.f, edu_asks_3.f k, fun a0_ => edu_asks_4.f k a0_ edu_asks_1.f, fun a0_ => edu_asks_5.f a0_ edu_asks_1.f] : List (Edu → Option Bool)) (css := [[fq_api_Edu_bool edu_asks_2.f], [fq_api_Edu_bool (edu_asks_3.f k)], [fq_api_Edu_bool (fun a0_ => edu_asks_4.f k a0_ edu_asks_1.f)], [fq_api_Edu_bool (fun a0_ => edu_asks_5.f a0_ edu_asks_1.f)]]) rfl trivial Tryz.underlying101 Tryz.underlying62 c62 z62 rfl (by decide) (by decide) rfl ⟨(cells_wk (wk_fn cal98 (by rintro _ _ ⟨a0_, r_, h_, rfl, rfl⟩; exact edu_asks_2.c h_)) (one_eq rfl)), ⟨(cells_wk (wk_fn cal99 (by rintro _ _ ⟨a0_, r_, h_, rfl, rfl⟩; exact edu_asks_3.c h_)) (one_eq rfl)), ⟨(cells_one one_fnq), ⟨(cells_one one_fnq), trivial⟩⟩⟩⟩ rfl rfl rfl ?_
  refine as0 rfl rfl ?_
  refine .fin ?_
  obtain rfl := Gets.out H
  exact WP.retL (fun _ _ h => h) rfl () trivial (.cons (res_tmp rfl) .nil) rfl (st_seln 0 [] 0 rfl rfl rfl)
theorem edu_Local_1.c {a0 : Int} {r : Bool} (h : edu_Local_1.f a0 = some r) : Pt Tryz.prog 72 [eq (.int .i64 a0)] (eq (.bool r)) := by
  unfold edu_Local_1.f at h
  refine (Tr.body Tryz.func72 (c := _) rfl Tryz.ntmps72 (Nat.le_of_ble_eq_true rfl) fun R0 F => ?_).pt
  replace h := Gets.of h
  have H := h
  clear h
  refine WP.seq ?_
  refine WP.reg [(0, false)] (by kernel_rfl) ?_
  refine as0 rfl rfl ?_
  refine .fin ?_
  refine WP.seq ?_
  refine WP.reg [(0, false), (1, false), (2, false), (3, false), (4, false), (5, false), (6, false)] (by kernel_rfl) ?_
  refine mv0 rfl rfl ?_
  refine Dv.bin rfl trivial rfl rfl (fun _ => run_ge) ?_
  refine mv0 rfl rfl ?_
  cases c186 : decide (0 ≤ a0)
  · replace H := Gets.cf H c186
    refine sk rfl rfl rfl rfl rfl ?_
    refine sk rfl rfl rfl rfl rfl ?_
    refine Dv.pickF rfl trivial rfl rfl ?_
    refine as0 rfl rfl ?_
    refine .fin ?_
    obtain rfl := Gets.out H
    exact WP.retL (fun _ _ h => h) rfl () trivial (.cons (res_tmp rfl) .nil) rfl (st_seln 0 [] 0 rfl rfl rfl)
  · replace H := Gets.ct H c186
    refine Dv.mv rfl ⟨_, _, rfl, rfl, rfl⟩ rfl ?_
    refine Dv.bin rfl ⟨_, _, rfl, rfl, rfl⟩ rfl rfl (fun _ => run_le) ?_
    refine Dv.pickT rfl trivial rfl rfl ?_
    refine as0 rfl rfl ?_
    refine .fin ?_
    obtain rfl := Gets.out H
    exact WP.retL (fun _ _ h => h) rfl () trivial (.cons (res_tmp rfl) .nil) rfl (st_seln 0 [] 0 rfl rfl rfl)
theorem edu_named.c {a0 : Edu} {r : Edu} (h : edu_named.f a0 = some r) : Pt Tryz.prog 73 [agg (Edu.enc a0)] (agg (Edu.enc r)) := by
  unfold edu_named.f at h
  refine (Tr.body Tryz.func73 (c := _) rfl Tryz.ntmps73 (Nat.le_of_ble_eq_true rfl) fun R0 F => ?_).pt
  replace h := Gets.of h
  have H := h
  clear h
  refine WP.seq ?_
  refine WP.reg [(0, true), (1, true)] (by kernel_rfl) ?_
  refine Dv.box rfl trivial rfl (cells_agg (Edu.K.one _)) nofun (fun b187 => ?_)
  refine Dv.alloc (z := .agg #[.int .i64 0, .string ⟨#[]⟩, .string ⟨#[]⟩, .string ⟨#[]⟩, .string ⟨#[]⟩, .bool false, .bool false, .int .i64 0, .int .i64 0, .int .i64 0, .int .i64 0]) (qs := [eq (.int .i64 0), eq (.string (⟨#[]⟩ : ByteArray)), eq (.string (⟨#[]⟩ : ByteArray)), eq (.string (⟨#[]⟩ : ByteArray)), eq (.string (⟨#[]⟩ : ByteArray)), eq (.bool false), eq (.bool false), eq (.int .i64 0), eq (.int .i64 0), eq (.int .i64 0), eq (.int .i64 0)]) rfl trivial z32 rfl nofun (fun b188 => ?_)
  refine .fin ?_
  refine WP.seq ?_
  refine WP.reg [(0, false), (1, false), (2, false), (3, false), (4, false), (5, false), (6, false), (7, false), (8, false), (9, true), (10, true)] (by kernel_rfl) ?_
  refine Dv.fab rfl trivial rfl Tryz.underlying32 rfl Tryz.underlying3 c3 (by decide) ?_
  refine Dv.ldb rfl trivial rfl Tryz.underlying3 rfl (mem_at 1 rfl) rfl ?_
  refine Dv.fab rfl trivial rfl Tryz.underlying32 rfl Tryz.underlying9 c9 (by decide) ?_
  refine Dv.ldb rfl trivial rfl Tryz.underlying9 rfl (mem_at 1 rfl) rfl ?_
  refine Dv.fab rfl trivial rfl Tryz.underlying32 rfl Tryz.underlying3 c3 (by decide) ?_
  refine Dv.ldb rfl trivial rfl Tryz.underlying3 rfl (mem_at 1 rfl) rfl ?_
  refine Dv.fab rfl trivial rfl Tryz.underlying32 rfl Tryz.underlying3 c3 (by decide) ?_
  refine Dv.ldb rfl trivial rfl Tryz.underlying3 rfl (mem_at 1 rfl) rfl ?_
  refine Dv.bld (css := [[eq (.int .i64 a0.fKind)], [eq (.string a0.fUser)], [eq (.int .i64 a0.fTick)], [eq (.int .i64 a0.fStamp)]]) rfl trivial Tryz.underlying32 pl32 z32 rfl ⟨(cells_one (one_eq rfl)), ⟨(cells_one (one_eq rfl)), ⟨(cells_one (one_eq rfl)), ⟨(cells_one (one_eq rfl)), trivial⟩⟩⟩⟩ rfl rfl ?_
  refine Dv.alloc (z := .agg #[.int .i64 0, .string ⟨#[]⟩, .string ⟨#[]⟩, .string ⟨#[]⟩, .string ⟨#[]⟩, .bool false, .bool false, .int .i64 0, .int .i64 0, .int .i64 0, .int .i64 0]) (qs := [eq (.int .i64 0), eq (.string (⟨#[]⟩ : ByteArray)), eq (.string (⟨#[]⟩ : ByteArray)), eq (.string (⟨#[]⟩ : ByteArray)), eq (.string (⟨#[]⟩ : ByteArray)), eq (.bool false), eq (.bool false), eq (.int .i64 0), eq (.int .i64 0), eq (.int .i64 0), eq (.int .i64 0)]) rfl trivial z32 rfl nofun (fun b189 => ?_)
  refine Dv.stx ([blk b189 32 [eq (.int .i64 a0.fKind), eq (.string (⟨#[]⟩ : ByteArray)), eq (.string a0.fUser), eq (.string (⟨#[]⟩ : ByteArray)), eq (.string (⟨#[]⟩ : ByteArray)), eq (.bool false), eq (.bool false), eq (.int .i64 0), eq (.int .i64 0), eq (.int .i64 a0.fTick), eq (.int .i64 a0.fStamp)], blk b188 32 [eq (.int .i64 0), eq (.string (⟨#[]⟩ : ByteArray)), eq (.string (⟨#[]⟩ : ByteArray)), eq (.string (⟨#[]⟩ : ByteArray)), eq (.string (⟨#[]⟩ : ByteArray)), eq (.bool false), eq (.bool false), eq (.int .i64 0), eq (.int .i64 0), eq (.int .i64 0), eq (.int .i64 0)], blk b187 32 [eq (.int .i64 a0.fKind), eq (.string a0.fRoom), eq (.string a0.fUser), eq (.string a0.fEvent), eq (.string a0.fThread), eq (.bool a0.fPrivate), eq (.bool a0.fOn), eq (.int .i64 a0.fSpan), eq (.int .i64 a0.fState), eq (.int .i64 a0.fTick), eq (.int .i64 a0.fStamp)]] ++ F) rfl trivial rfl rfl (cells_agg (ones_cons (one_eq rfl) (ones_cons (one_eq rfl) (ones_cons (one_eq rfl) (ones_cons (one_eq rfl) (ones_cons (one_eq rfl) (ones_cons (one_eq rfl) (ones_cons (one_eq rfl) (ones_cons (one_eq rfl) (ones_cons (one_eq rfl) (ones_cons (one_eq rfl) (ones_cons (one_eq rfl) ones_nil)))))))))))) Tryz.underlying32 c32 rfl (j := 0) rfl (Nat.le_of_ble_eq_true rfl) rfl nofun ?_
  refine .fin ?_
  refine WP.seq ?_
  refine WP.seq ?_
  refine WP.reg [(0, false), (1, false)] (by kernel_rfl) ?_
  refine Dv.fab rfl trivial rfl Tryz.underlying32 rfl Tryz.underlying3 c3 (by decide) ?_
  refine Dv.ldb rfl trivial rfl Tryz.underlying3 rfl (mem_at 2 rfl) rfl ?_
  refine .fin ?_
  refine WP.block ?_
  refine WP.seq ?_
  refine WP.reg [(0, false), (1, false)] (by kernel_rfl) ?_
  refine Dv.bin rfl trivial rfl rfl (fun _ => run_eq) ?_
  refine as0 rfl rfl ?_
  refine .fin ?_
  refine WP.cond rfl (fun c190 => ?_) (fun c190 => ?_)
  · replace H := Gets.ct H c190
    refine WP.dreg Tryz.checked.mixed [(0, false), (1, false), (2, false), (3, false), (4, false), (5, false), (6, false), (7, false), (8, false), (9, true), (10, false), (11, true), (12, false), (13, true), (14, false), (15, true)] (by kernel_rfl) ?_
    refine Dv.fab rfl trivial rfl Tryz.underlying32 rfl Tryz.underlying9 c9 (by decide) ?_
    refine Dv.ldb rfl trivial rfl Tryz.underlying9 rfl (mem_at 2 rfl) rfl ?_
    refine Dv.fab rfl trivial rfl Tryz.underlying32 rfl Tryz.underlying9 c9 (by decide) ?_
    refine Dv.ldb rfl trivial rfl Tryz.underlying9 rfl (mem_at 2 rfl) rfl ?_
    refine Dv.fab rfl trivial rfl Tryz.underlying32 rfl Tryz.underlying9 c9 (by decide) ?_
    refine Dv.ldb rfl trivial rfl Tryz.underlying9 rfl (mem_at 2 rfl) rfl ?_
    refine Dv.fab rfl trivial rfl Tryz.underlying32 rfl Tryz.underlying4 c4 (by decide) ?_
    refine Dv.ldb rfl trivial rfl Tryz.underlying4 rfl (mem_at 2 rfl) rfl ?_
    refine Dv.fab rfl trivial rfl Tryz.underlying32 rfl Tryz.underlying9 c9 (by decide) ?_
    refine Dv.stx ([blk b189 32 [eq (.int .i64 a0.fKind), eq (.string a0.fRoom), eq (.string a0.fUser), eq (.string (⟨#[]⟩ : ByteArray)), eq (.string (⟨#[]⟩ : ByteArray)), eq (.bool false), eq (.bool false), eq (.int .i64 0), eq (.int .i64 0), eq (.int .i64 a0.fTick), eq (.int .i64 a0.fStamp)], blk b188 32 [eq (.int .i64 0), eq (.string (⟨#[]⟩ : ByteArray)), eq (.string (⟨#[]⟩ : ByteArray)), eq (.string (⟨#[]⟩ : ByteArray)), eq (.string (⟨#[]⟩ : ByteArray)), eq (.bool false), eq (.bool false), eq (.int .i64 0), eq (.int .i64 0), eq (.int .i64 0), eq (.int .i64 0)], blk b187 32 [eq (.int .i64 a0.fKind), eq (.string a0.fRoom), eq (.string a0.fUser), eq (.string a0.fEvent), eq (.string a0.fThread), eq (.bool a0.fPrivate), eq (.bool a0.fOn), eq (.int .i64 a0.fSpan), eq (.int .i64 a0.fState), eq (.int .i64 a0.fTick), eq (.int .i64 a0.fStamp)]] ++ F) rfl trivial rfl rfl (cells_one (one_eq rfl)) Tryz.underlying9 c9 rfl (j := 0) rfl (Nat.le_of_ble_eq_true rfl) rfl (fun _ => (pend_by (by kernel_rfl) (pend_in (fun _ => (mem_at 2 rfl)) (pend_in (fun _ => trivial) (pend_in (fun _ => (mem_at 2 rfl)) (pend_in (fun _ => trivial) (pend_in (fun _ => (mem_at 2 rfl)) (pend_in (fun _ => trivial) (pend_by (by kernel_rfl) (pend_by (by kernel_rfl) pend_nil)))))))))) ?_
    refine Dv.fab rfl trivial rfl Tryz.underlying32 rfl Tryz.underlying9 c9 (by decide) ?_
    refine Dv.stx ([blk b189 32 [eq (.int .i64 a0.fKind), eq (.string a0.fRoom), eq (.string a0.fUser), eq (.string a0.fEvent), eq (.string (⟨#[]⟩ : ByteArray)), eq (.bool false), eq (.bool false), eq (.int .i64 0), eq (.int .i64 0), eq (.int .i64 a0.fTick), eq (.int .i64 a0.fStamp)], blk b188 32 [eq (.int .i64 0), eq (.string (⟨#[]⟩ : ByteArray)), eq (.string (⟨#[]⟩ : ByteArray)), eq (.string (⟨#[]⟩ : ByteArray)), eq (.string (⟨#[]⟩ : ByteArray)), eq (.bool false), eq (.bool false), eq (.int .i64 0), eq (.int .i64 0), eq (.int .i64 0), eq (.int .i64 0)], blk b187 32 [eq (.int .i64 a0.fKind), eq (.string a0.fRoom), eq (.string a0.fUser), eq (.string a0.fEvent), eq (.string a0.fThread), eq (.bool a0.fPrivate), eq (.bool a0.fOn), eq (.int .i64 a0.fSpan), eq (.int .i64 a0.fState), eq (.int .i64 a0.fTick), eq (.int .i64 a0.fStamp)]] ++ F) rfl trivial rfl rfl (cells_one (one_eq rfl)) Tryz.underlying9 c9 rfl (j := 0) rfl (Nat.le_of_ble_eq_true rfl) rfl (fun _ => (pend_by (by kernel_rfl) (pend_by (by kernel_rfl) (pend_in (fun _ => (mem_at 2 rfl)) (pend_in (fun _ => trivial) (pend_in (fun _ => (mem_at 2 rfl)) (pend_in (fun _ => trivial) (pend_by (by kernel_rfl) (pend_by (by kernel_rfl) (pend_by (by kernel_rfl) (pend_by (by kernel_rfl) pend_nil))))))))))) ?_
    refine Dv.fab rfl trivial rfl Tryz.underlying32 rfl Tryz.underlying9 c9 (by decide) ?_
    refine Dv.stx ([blk b189 32 [eq (.int .i64 a0.fKind), eq (.string a0.fRoom), eq (.string a0.fUser), eq (.string a0.fEvent), eq (.string a0.fThread), eq (.bool false), eq (.bool false), eq (.int .i64 0), eq (.int .i64 0), eq (.int .i64 a0.fTick), eq (.int .i64 a0.fStamp)], blk b188 32 [eq (.int .i64 0), eq (.string (⟨#[]⟩ : ByteArray)), eq (.string (⟨#[]⟩ : ByteArray)), eq (.string (⟨#[]⟩ : ByteArray)), eq (.string (⟨#[]⟩ : ByteArray)), eq (.bool false), eq (.bool false), eq (.int .i64 0), eq (.int .i64 0), eq (.int .i64 0), eq (.int .i64 0)], blk b187 32 [eq (.int .i64 a0.fKind), eq (.string a0.fRoom), eq (.string a0.fUser), eq (.string a0.fEvent), eq (.string a0.fThread), eq (.bool a0.fPrivate), eq (.bool a0.fOn), eq (.int .i64 a0.fSpan), eq (.int .i64 a0.fState), eq (.int .i64 a0.fTick), eq (.int .i64 a0.fStamp)]] ++ F) rfl trivial rfl rfl (cells_one (one_eq rfl)) Tryz.underlying9 c9 rfl (j := 0) rfl (Nat.le_of_ble_eq_true rfl) rfl (fun _ => (pend_by (by kernel_rfl) (pend_by (by kernel_rfl) (pend_by (by kernel_rfl) (pend_in (fun _ => (mem_at 2 rfl)) (pend_in (fun _ => trivial) (pend_by (by kernel_rfl) (pend_by (by kernel_rfl) (pend_by (by kernel_rfl) (pend_by (by kernel_rfl) (pend_by (by kernel_rfl) (pend_by (by kernel_rfl) pend_nil)))))))))))) ?_
    refine Dv.fab rfl trivial rfl Tryz.underlying32 rfl Tryz.underlying4 c4 (by decide) ?_
    refine Dv.stx ([blk b189 32 [eq (.int .i64 a0.fKind), eq (.string a0.fRoom), eq (.string a0.fUser), eq (.string a0.fEvent), eq (.string a0.fThread), eq (.bool a0.fPrivate), eq (.bool false), eq (.int .i64 0), eq (.int .i64 0), eq (.int .i64 a0.fTick), eq (.int .i64 a0.fStamp)], blk b188 32 [eq (.int .i64 0), eq (.string (⟨#[]⟩ : ByteArray)), eq (.string (⟨#[]⟩ : ByteArray)), eq (.string (⟨#[]⟩ : ByteArray)), eq (.string (⟨#[]⟩ : ByteArray)), eq (.bool false), eq (.bool false), eq (.int .i64 0), eq (.int .i64 0), eq (.int .i64 0), eq (.int .i64 0)], blk b187 32 [eq (.int .i64 a0.fKind), eq (.string a0.fRoom), eq (.string a0.fUser), eq (.string a0.fEvent), eq (.string a0.fThread), eq (.bool a0.fPrivate), eq (.bool a0.fOn), eq (.int .i64 a0.fSpan), eq (.int .i64 a0.fState), eq (.int .i64 a0.fTick), eq (.int .i64 a0.fStamp)]] ++ F) rfl trivial rfl rfl (cells_one (one_eq rfl)) Tryz.underlying4 c4 rfl (j := 0) rfl (Nat.le_of_ble_eq_true rfl) rfl (fun _ => pend_bits (by kernel_rfl)) ?_
    refine .fin ?_
    refine WP.seq ?_
    refine WP.reg [(0, false), (1, true)] (by kernel_rfl) ?_
    refine Dv.ldbs rfl trivial rfl Tryz.underlying32 rfl c32 (mem_at 0 rfl) (Nat.le_of_ble_eq_true rfl) ?_
    refine Dv.stx ([blk b189 32 [eq (.int .i64 a0.fKind), eq (.string a0.fRoom), eq (.string a0.fUser), eq (.string a0.fEvent), eq (.string a0.fThread), eq (.bool a0.fPrivate), eq (.bool false), eq (.int .i64 0), eq (.int .i64 0), eq (.int .i64 a0.fTick), eq (.int .i64 a0.fStamp)], blk b188 32 [eq (.int .i64 a0.fKind), eq (.string a0.fRoom), eq (.string a0.fUser), eq (.string a0.fEvent), eq (.string a0.fThread), eq (.bool a0.fPrivate), eq (.bool false), eq (.int .i64 0), eq (.int .i64 0), eq (.int .i64 a0.fTick), eq (.int .i64 a0.fStamp)], blk b187 32 [eq (.int .i64 a0.fKind), eq (.string a0.fRoom), eq (.string a0.fUser), eq (.string a0.fEvent), eq (.string a0.fThread), eq (.bool a0.fPrivate), eq (.bool a0.fOn), eq (.int .i64 a0.fSpan), eq (.int .i64 a0.fState), eq (.int .i64 a0.fTick), eq (.int .i64 a0.fStamp)]] ++ F) rfl trivial rfl rfl (cells_agg (ones_cons (one_eq rfl) (ones_cons (one_eq rfl) (ones_cons (one_eq rfl) (ones_cons (one_eq rfl) (ones_cons (one_eq rfl) (ones_cons (one_eq rfl) (ones_cons (one_eq rfl) (ones_cons (one_eq rfl) (ones_cons (one_eq rfl) (ones_cons (one_eq rfl) (ones_cons (one_eq rfl) ones_nil)))))))))))) Tryz.underlying32 c32 rfl (j := 1) rfl (Nat.le_of_ble_eq_true rfl) rfl nofun ?_
    refine .fin ?_
    obtain rfl := Gets.out H
    exact WP.retL (fun _ _ h => h) rfl () trivial (.cons (res_cells rfl Tryz.underlying32 rfl c32 (mem_at 1 rfl) rfl) .nil) rfl (st_seln 3 [0, 1, 2] 3 rfl rfl rfl)
  · replace H := Gets.cf H c190
    refine WP.seq ?_
    refine WP.reg [(0, false), (1, false)] (by kernel_rfl) ?_
    refine Dv.bin rfl trivial rfl rfl (fun _ => run_eq) ?_
    refine as0 rfl rfl ?_
    refine .fin ?_
    refine WP.cond rfl (fun c191 => ?_) (fun c191 => ?_)
    · replace H := Gets.ct H c191
      refine WP.seq ?_
      refine WP.dreg Tryz.checked.mixed [(0, false), (1, false), (2, false), (3, false), (4, false), (5, true), (6, false), (7, true)] (by kernel_rfl) ?_
      refine Dv.fab rfl trivial rfl Tryz.underlying32 rfl Tryz.underlying9 c9 (by decide) ?_
      refine Dv.ldb rfl trivial rfl Tryz.underlying9 rfl (mem_at 2 rfl) rfl ?_
      refine Dv.fab rfl trivial rfl Tryz.underlying32 rfl Tryz.underlying4 c4 (by decide) ?_
      refine Dv.ldb rfl trivial rfl Tryz.underlying4 rfl (mem_at 2 rfl) rfl ?_
      refine Dv.fab rfl trivial rfl Tryz.underlying32 rfl Tryz.underlying9 c9 (by decide) ?_
      refine Dv.stx ([blk b189 32 [eq (.int .i64 a0.fKind), eq (.string a0.fRoom), eq (.string a0.fUser), eq (.string (⟨#[]⟩ : ByteArray)), eq (.string (⟨#[]⟩ : ByteArray)), eq (.bool false), eq (.bool false), eq (.int .i64 0), eq (.int .i64 0), eq (.int .i64 a0.fTick), eq (.int .i64 a0.fStamp)], blk b188 32 [eq (.int .i64 0), eq (.string (⟨#[]⟩ : ByteArray)), eq (.string (⟨#[]⟩ : ByteArray)), eq (.string (⟨#[]⟩ : ByteArray)), eq (.string (⟨#[]⟩ : ByteArray)), eq (.bool false), eq (.bool false), eq (.int .i64 0), eq (.int .i64 0), eq (.int .i64 0), eq (.int .i64 0)], blk b187 32 [eq (.int .i64 a0.fKind), eq (.string a0.fRoom), eq (.string a0.fUser), eq (.string a0.fEvent), eq (.string a0.fThread), eq (.bool a0.fPrivate), eq (.bool a0.fOn), eq (.int .i64 a0.fSpan), eq (.int .i64 a0.fState), eq (.int .i64 a0.fTick), eq (.int .i64 a0.fStamp)]] ++ F) rfl trivial rfl rfl (cells_one (one_eq rfl)) Tryz.underlying9 c9 rfl (j := 0) rfl (Nat.le_of_ble_eq_true rfl) rfl (fun _ => (pend_by (by kernel_rfl) (pend_in (fun _ => (mem_at 2 rfl)) (pend_in (fun _ => trivial) (pend_by (by kernel_rfl) (pend_by (by kernel_rfl) pend_nil)))))) ?_
      refine Dv.fab rfl trivial rfl Tryz.underlying32 rfl Tryz.underlying4 c4 (by decide) ?_
      refine Dv.stx ([blk b189 32 [eq (.int .i64 a0.fKind), eq (.string a0.fRoom), eq (.string a0.fUser), eq (.string (⟨#[]⟩ : ByteArray)), eq (.string (⟨#[]⟩ : ByteArray)), eq (.bool false), eq (.bool a0.fOn), eq (.int .i64 0), eq (.int .i64 0), eq (.int .i64 a0.fTick), eq (.int .i64 a0.fStamp)], blk b188 32 [eq (.int .i64 0), eq (.string (⟨#[]⟩ : ByteArray)), eq (.string (⟨#[]⟩ : ByteArray)), eq (.string (⟨#[]⟩ : ByteArray)), eq (.string (⟨#[]⟩ : ByteArray)), eq (.bool false), eq (.bool false), eq (.int .i64 0), eq (.int .i64 0), eq (.int .i64 0), eq (.int .i64 0)], blk b187 32 [eq (.int .i64 a0.fKind), eq (.string a0.fRoom), eq (.string a0.fUser), eq (.string a0.fEvent), eq (.string a0.fThread), eq (.bool a0.fPrivate), eq (.bool a0.fOn), eq (.int .i64 a0.fSpan), eq (.int .i64 a0.fState), eq (.int .i64 a0.fTick), eq (.int .i64 a0.fStamp)]] ++ F) rfl trivial rfl rfl (cells_one (one_eq rfl)) Tryz.underlying4 c4 rfl (j := 0) rfl (Nat.le_of_ble_eq_true rfl) rfl (fun _ => pend_bits (by kernel_rfl)) ?_
      refine .fin ?_
      refine WP.seq ?_
      refine WP.reg [(0, false), (1, false)] (by kernel_rfl) ?_
      refine Dv.fab rfl trivial rfl Tryz.underlying32 rfl Tryz.underlying4 c4 (by decide) ?_
      refine Dv.ldb rfl trivial rfl Tryz.underlying4 rfl (mem_at 2 rfl) rfl ?_
      refine .fin ?_
      refine WP.cond rfl (fun c192 => ?_) (fun c192 => ?_)
      · replace H := Gets.ct H c192
        refine WP.reg [(0, false), (1, false), (2, false), (3, true)] (by kernel_rfl) ?_
        refine Dv.fab rfl trivial rfl Tryz.underlying32 rfl Tryz.underlying3 c3 (by decide) ?_
        refine Dv.ldb rfl trivial rfl Tryz.underlying3 rfl (mem_at 2 rfl) rfl ?_
        refine Dv.fab rfl trivial rfl Tryz.underlying32 rfl Tryz.underlying3 c3 (by decide) ?_
        refine Dv.stx ([blk b189 32 [eq (.int .i64 a0.fKind), eq (.string a0.fRoom), eq (.string a0.fUser), eq (.string (⟨#[]⟩ : ByteArray)), eq (.string (⟨#[]⟩ : ByteArray)), eq (.bool false), eq (.bool a0.fOn), eq (.int .i64 a0.fSpan), eq (.int .i64 0), eq (.int .i64 a0.fTick), eq (.int .i64 a0.fStamp)], blk b188 32 [eq (.int .i64 0), eq (.string (⟨#[]⟩ : ByteArray)), eq (.string (⟨#[]⟩ : ByteArray)), eq (.string (⟨#[]⟩ : ByteArray)), eq (.string (⟨#[]⟩ : ByteArray)), eq (.bool false), eq (.bool false), eq (.int .i64 0), eq (.int .i64 0), eq (.int .i64 0), eq (.int .i64 0)], blk b187 32 [eq (.int .i64 a0.fKind), eq (.string a0.fRoom), eq (.string a0.fUser), eq (.string a0.fEvent), eq (.string a0.fThread), eq (.bool a0.fPrivate), eq (.bool a0.fOn), eq (.int .i64 a0.fSpan), eq (.int .i64 a0.fState), eq (.int .i64 a0.fTick), eq (.int .i64 a0.fStamp)]] ++ F) rfl trivial rfl rfl (cells_one (one_eq rfl)) Tryz.underlying3 c3 rfl (j := 0) rfl (Nat.le_of_ble_eq_true rfl) rfl nofun ?_
        refine .fin ?_
        refine WP.seq ?_
        refine WP.reg [(0, false), (1, true)] (by kernel_rfl) ?_
        refine Dv.ldbs rfl trivial rfl Tryz.underlying32 rfl c32 (mem_at 0 rfl) (Nat.le_of_ble_eq_true rfl) ?_
        refine Dv.stx ([blk b189 32 [eq (.int .i64 a0.fKind), eq (.string a0.fRoom), eq (.string a0.fUser), eq (.string (⟨#[]⟩ : ByteArray)), eq (.string (⟨#[]⟩ : ByteArray)), eq (.bool false), eq (.bool a0.fOn), eq (.int .i64 a0.fSpan), eq (.int .i64 0), eq (.int .i64 a0.fTick), eq (.int .i64 a0.fStamp)], blk b188 32 [eq (.int .i64 a0.fKind), eq (.string a0.fRoom), eq (.string a0.fUser), eq (.string (⟨#[]⟩ : ByteArray)), eq (.string (⟨#[]⟩ : ByteArray)), eq (.bool false), eq (.bool a0.fOn), eq (.int .i64 a0.fSpan), eq (.int .i64 0), eq (.int .i64 a0.fTick), eq (.int .i64 a0.fStamp)], blk b187 32 [eq (.int .i64 a0.fKind), eq (.string a0.fRoom), eq (.string a0.fUser), eq (.string a0.fEvent), eq (.string a0.fThread), eq (.bool a0.fPrivate), eq (.bool a0.fOn), eq (.int .i64 a0.fSpan), eq (.int .i64 a0.fState), eq (.int .i64 a0.fTick), eq (.int .i64 a0.fStamp)]] ++ F) rfl trivial rfl rfl (cells_agg (ones_cons (one_eq rfl) (ones_cons (one_eq rfl) (ones_cons (one_eq rfl) (ones_cons (one_eq rfl) (ones_cons (one_eq rfl) (ones_cons (one_eq rfl) (ones_cons (one_eq rfl) (ones_cons (one_eq rfl) (ones_cons (one_eq rfl) (ones_cons (one_eq rfl) (ones_cons (one_eq rfl) ones_nil)))))))))))) Tryz.underlying32 c32 rfl (j := 1) rfl (Nat.le_of_ble_eq_true rfl) rfl nofun ?_
        refine .fin ?_
        obtain rfl := Gets.out H
        exact WP.retL (fun _ _ h => h) rfl () trivial (.cons (res_cells rfl Tryz.underlying32 rfl c32 (mem_at 1 rfl) rfl) .nil) rfl (st_seln 3 [0, 1, 2] 3 rfl rfl rfl)
      · replace H := Gets.cf H c192
        refine WP.skip ?_
        refine WP.seq ?_
        refine WP.reg [(0, false), (1, true)] (by kernel_rfl) ?_
        refine Dv.ldbs rfl trivial rfl Tryz.underlying32 rfl c32 (mem_at 0 rfl) (Nat.le_of_ble_eq_true rfl) ?_
        refine Dv.stx ([blk b189 32 [eq (.int .i64 a0.fKind), eq (.string a0.fRoom), eq (.string a0.fUser), eq (.string (⟨#[]⟩ : ByteArray)), eq (.string (⟨#[]⟩ : ByteArray)), eq (.bool false), eq (.bool a0.fOn), eq (.int .i64 0), eq (.int .i64 0), eq (.int .i64 a0.fTick), eq (.int .i64 a0.fStamp)], blk b188 32 [eq (.int .i64 a0.fKind), eq (.string a0.fRoom), eq (.string a0.fUser), eq (.string (⟨#[]⟩ : ByteArray)), eq (.string (⟨#[]⟩ : ByteArray)), eq (.bool false), eq (.bool a0.fOn), eq (.int .i64 0), eq (.int .i64 0), eq (.int .i64 a0.fTick), eq (.int .i64 a0.fStamp)], blk b187 32 [eq (.int .i64 a0.fKind), eq (.string a0.fRoom), eq (.string a0.fUser), eq (.string a0.fEvent), eq (.string a0.fThread), eq (.bool a0.fPrivate), eq (.bool a0.fOn), eq (.int .i64 a0.fSpan), eq (.int .i64 a0.fState), eq (.int .i64 a0.fTick), eq (.int .i64 a0.fStamp)]] ++ F) rfl trivial rfl rfl (cells_agg (ones_cons (one_eq rfl) (ones_cons (one_eq rfl) (ones_cons (one_eq rfl) (ones_cons (one_eq rfl) (ones_cons (one_eq rfl) (ones_cons (one_eq rfl) (ones_cons (one_eq rfl) (ones_cons (one_eq rfl) (ones_cons (one_eq rfl) (ones_cons (one_eq rfl) (ones_cons (one_eq rfl) ones_nil)))))))))))) Tryz.underlying32 c32 rfl (j := 1) rfl (Nat.le_of_ble_eq_true rfl) rfl nofun ?_
        refine .fin ?_
        obtain rfl := Gets.out H
        exact WP.retL (fun _ _ h => h) rfl () trivial (.cons (res_cells rfl Tryz.underlying32 rfl c32 (mem_at 1 rfl) rfl) .nil) rfl (st_seln 3 [0, 1, 2] 3 rfl rfl rfl)
    · replace H := Gets.cf H c191
      refine WP.seq ?_
      refine WP.reg [(0, false), (1, false)] (by kernel_rfl) ?_
      refine Dv.bin rfl trivial rfl rfl (fun _ => run_eq) ?_
      refine as0 rfl rfl ?_
      refine .fin ?_
      refine WP.cond rfl (fun c193 => ?_) (fun c193 => ?_)
      · replace H := Gets.ct H c193
        refine WP.reg [(0, false), (1, false), (2, false), (3, true)] (by kernel_rfl) ?_
        refine Dv.fab rfl trivial rfl Tryz.underlying32 rfl Tryz.underlying3 c3 (by decide) ?_
        refine Dv.ldb rfl trivial rfl Tryz.underlying3 rfl (mem_at 2 rfl) rfl ?_
        refine Dv.fab rfl trivial rfl Tryz.underlying32 rfl Tryz.underlying3 c3 (by decide) ?_
        refine Dv.stx ([blk b189 32 [eq (.int .i64 a0.fKind), eq (.string (⟨#[]⟩ : ByteArray)), eq (.string a0.fUser), eq (.string (⟨#[]⟩ : ByteArray)), eq (.string (⟨#[]⟩ : ByteArray)), eq (.bool false), eq (.bool false), eq (.int .i64 0), eq (.int .i64 a0.fState), eq (.int .i64 a0.fTick), eq (.int .i64 a0.fStamp)], blk b188 32 [eq (.int .i64 0), eq (.string (⟨#[]⟩ : ByteArray)), eq (.string (⟨#[]⟩ : ByteArray)), eq (.string (⟨#[]⟩ : ByteArray)), eq (.string (⟨#[]⟩ : ByteArray)), eq (.bool false), eq (.bool false), eq (.int .i64 0), eq (.int .i64 0), eq (.int .i64 0), eq (.int .i64 0)], blk b187 32 [eq (.int .i64 a0.fKind), eq (.string a0.fRoom), eq (.string a0.fUser), eq (.string a0.fEvent), eq (.string a0.fThread), eq (.bool a0.fPrivate), eq (.bool a0.fOn), eq (.int .i64 a0.fSpan), eq (.int .i64 a0.fState), eq (.int .i64 a0.fTick), eq (.int .i64 a0.fStamp)]] ++ F) rfl trivial rfl rfl (cells_one (one_eq rfl)) Tryz.underlying3 c3 rfl (j := 0) rfl (Nat.le_of_ble_eq_true rfl) rfl nofun ?_
        refine .fin ?_
        refine WP.seq ?_
        refine WP.reg [(0, false), (1, true)] (by kernel_rfl) ?_
        refine Dv.ldbs rfl trivial rfl Tryz.underlying32 rfl c32 (mem_at 0 rfl) (Nat.le_of_ble_eq_true rfl) ?_
        refine Dv.stx ([blk b189 32 [eq (.int .i64 a0.fKind), eq (.string (⟨#[]⟩ : ByteArray)), eq (.string a0.fUser), eq (.string (⟨#[]⟩ : ByteArray)), eq (.string (⟨#[]⟩ : ByteArray)), eq (.bool false), eq (.bool false), eq (.int .i64 0), eq (.int .i64 a0.fState), eq (.int .i64 a0.fTick), eq (.int .i64 a0.fStamp)], blk b188 32 [eq (.int .i64 a0.fKind), eq (.string (⟨#[]⟩ : ByteArray)), eq (.string a0.fUser), eq (.string (⟨#[]⟩ : ByteArray)), eq (.string (⟨#[]⟩ : ByteArray)), eq (.bool false), eq (.bool false), eq (.int .i64 0), eq (.int .i64 a0.fState), eq (.int .i64 a0.fTick), eq (.int .i64 a0.fStamp)], blk b187 32 [eq (.int .i64 a0.fKind), eq (.string a0.fRoom), eq (.string a0.fUser), eq (.string a0.fEvent), eq (.string a0.fThread), eq (.bool a0.fPrivate), eq (.bool a0.fOn), eq (.int .i64 a0.fSpan), eq (.int .i64 a0.fState), eq (.int .i64 a0.fTick), eq (.int .i64 a0.fStamp)]] ++ F) rfl trivial rfl rfl (cells_agg (ones_cons (one_eq rfl) (ones_cons (one_eq rfl) (ones_cons (one_eq rfl) (ones_cons (one_eq rfl) (ones_cons (one_eq rfl) (ones_cons (one_eq rfl) (ones_cons (one_eq rfl) (ones_cons (one_eq rfl) (ones_cons (one_eq rfl) (ones_cons (one_eq rfl) (ones_cons (one_eq rfl) ones_nil)))))))))))) Tryz.underlying32 c32 rfl (j := 1) rfl (Nat.le_of_ble_eq_true rfl) rfl nofun ?_
        refine .fin ?_
        obtain rfl := Gets.out H
        exact WP.retL (fun _ _ h => h) rfl () trivial (.cons (res_cells rfl Tryz.underlying32 rfl c32 (mem_at 1 rfl) rfl) .nil) rfl (st_seln 3 [0, 1, 2] 3 rfl rfl rfl)
      · replace H := Gets.cf H c193
        refine WP.skip ?_
        refine WP.seq ?_
        refine WP.reg [(0, false), (1, true)] (by kernel_rfl) ?_
        refine Dv.ldbs rfl trivial rfl Tryz.underlying32 rfl c32 (mem_at 0 rfl) (Nat.le_of_ble_eq_true rfl) ?_
        refine Dv.stx ([blk b189 32 [eq (.int .i64 a0.fKind), eq (.string (⟨#[]⟩ : ByteArray)), eq (.string a0.fUser), eq (.string (⟨#[]⟩ : ByteArray)), eq (.string (⟨#[]⟩ : ByteArray)), eq (.bool false), eq (.bool false), eq (.int .i64 0), eq (.int .i64 0), eq (.int .i64 a0.fTick), eq (.int .i64 a0.fStamp)], blk b188 32 [eq (.int .i64 a0.fKind), eq (.string (⟨#[]⟩ : ByteArray)), eq (.string a0.fUser), eq (.string (⟨#[]⟩ : ByteArray)), eq (.string (⟨#[]⟩ : ByteArray)), eq (.bool false), eq (.bool false), eq (.int .i64 0), eq (.int .i64 0), eq (.int .i64 a0.fTick), eq (.int .i64 a0.fStamp)], blk b187 32 [eq (.int .i64 a0.fKind), eq (.string a0.fRoom), eq (.string a0.fUser), eq (.string a0.fEvent), eq (.string a0.fThread), eq (.bool a0.fPrivate), eq (.bool a0.fOn), eq (.int .i64 a0.fSpan), eq (.int .i64 a0.fState), eq (.int .i64 a0.fTick), eq (.int .i64 a0.fStamp)]] ++ F) rfl trivial rfl rfl (cells_agg (ones_cons (one_eq rfl) (ones_cons (one_eq rfl) (ones_cons (one_eq rfl) (ones_cons (one_eq rfl) (ones_cons (one_eq rfl) (ones_cons (one_eq rfl) (ones_cons (one_eq rfl) (ones_cons (one_eq rfl) (ones_cons (one_eq rfl) (ones_cons (one_eq rfl) (ones_cons (one_eq rfl) ones_nil)))))))))))) Tryz.underlying32 c32 rfl (j := 1) rfl (Nat.le_of_ble_eq_true rfl) rfl nofun ?_
        refine .fin ?_
        obtain rfl := Gets.out H
        exact WP.retL (fun _ _ h => h) rfl () trivial (.cons (res_cells rfl Tryz.underlying32 rfl c32 (mem_at 1 rfl) rfl) .nil) rfl (st_seln 3 [0, 1, 2] 3 rfl rfl rfl)
theorem name_User.c {k : Nat} {a0 : ByteArray} {r : Bool} (h : name_User.f k a0 = some r) : Pt Tryz.prog 74 [eq (.string a0)] (eq (.bool r)) := by
  unfold name_User.f at h
  refine (Tr.body Tryz.func74 (c := _) rfl Tryz.ntmps74 (Nat.le_of_ble_eq_true rfl) fun R0 F => ?_).pt
  replace h := Gets.of h
  have H := h
  clear h
  refine WP.seq ?_
  refine WP.reg [(0, false)] (by kernel_rfl) ?_
  refine as0 rfl rfl ?_
  refine .fin ?_
  refine WP.seq ?_
  refine WP.reg [(0, false), (1, false), (2, false), (3, false), (4, false), (5, false), (6, false), (7, false), (8, false)] (by kernel_rfl) ?_
  refine mv0 rfl rfl ?_
  obtain ⟨t194, h195, H⟩ := Gets.call H
  refine Dv.call rfl trivial cal105 rfl (name_split.c h195) ?_
  refine mv0 rfl rfl ?_
  refine Dv.ext rfl trivial rfl rfl ?_
  refine Dv.ext rfl trivial rfl rfl ?_
  refine Dv.ext rfl trivial rfl rfl ?_
  refine as0 rfl rfl ?_
  refine as0 rfl rfl ?_
  refine as0 rfl rfl ?_
  refine .fin ?_
  refine WP.seq ?_
  refine WP.reg [(0, false), (1, false)] (by kernel_rfl) ?_
  refine mv0 rfl rfl ?_
  refine as0 rfl rfl ?_
  refine .fin ?_
  obtain rfl := Gets.out H
  exact WP.retL (fun _ _ h => h) rfl () trivial (.cons (res_tmp rfl) .nil) rfl (st_seln 0 [] 0 rfl rfl rfl)
theorem edu_Local.c {k : Nat} {a0 : Edu} {r : Bool} (h : edu_Local.f k a0 = some r) : Pt Tryz.prog 51 [agg (Edu.enc a0)] (eq (.bool r)) := by
  unfold edu_Local.f at h
  refine (Tr.body Tryz.func51 (c := _) rfl Tryz.ntmps51 (Nat.le_of_ble_eq_true rfl) fun R0 F => ?_).pt
  replace h := Gets.of h
  have H := h
  clear h
  refine WP.seq ?_
  refine WP.reg [(0, true), (1, false)] (by kernel_rfl) ?_
  refine Dv.box rfl trivial rfl (cells_agg (Edu.K.one _)) nofun (fun b196 => ?_)
  refine as0 rfl rfl ?_
  refine .fin ?_
  refine WP.seq ?_
  refine WP.seq ?_
  refine WP.dreg Tryz.checked.mixed [(0, false), (1, false), (2, false), (3, false), (4, false), (5, false), (6, false), (7, false), (8, false), (9, false), (10, false), (11, false), (12, false), (13, false), (14, false), (15, false), (16, false), (17, false)] (by kernel_rfl) ?_
  refine Dv.fab rfl trivial rfl Tryz.underlying32 rfl Tryz.underlying3 c3 (by decide) ?_
  refine Dv.ldb rfl trivial rfl Tryz.underlying3 rfl (mem_at 0 rfl) rfl ?_
  refine Dv.bin rfl trivial rfl rfl (fun _ => run_lt) ?_
  refine mv0 rfl rfl ?_
  cases c197 : decide (a0.fKind < 0)
  · replace H := Gets.cf H c197
    refine Dv.fab rfl ⟨_, _, rfl, rfl, rfl⟩ rfl Tryz.underlying32 rfl Tryz.underlying3 c3 (by decide) ?_
    refine Dv.ldb rfl ⟨_, _, rfl, rfl, rfl⟩ rfl Tryz.underlying3 rfl (mem_at 0 rfl) rfl ?_
    refine Dv.bin rfl ⟨_, _, rfl, rfl, rfl⟩ rfl rfl (fun _ => run_gt) ?_
    refine Dv.pickF rfl trivial rfl rfl ?_
    refine mv0 rfl rfl ?_
    cases c199 : decide (3 < a0.fKind)
    · replace H := Gets.cf H c199
      obtain ⟨t201, h202, H⟩ := Gets.call H
      refine Dv.call rfl ⟨_, _, rfl, rfl, rfl⟩ cal71 rfl (edu_asks.c h202) ?_
      refine Dv.fab rfl ⟨_, _, rfl, rfl, rfl⟩ rfl Tryz.underlying32 rfl Tryz.underlying3 c3 (by decide) ?_
      refine Dv.ldb rfl ⟨_, _, rfl, rfl, rfl⟩ rfl Tryz.underlying3 rfl (mem_at 0 rfl) rfl ?_
      obtain ⟨g203, H⟩ := Gets.grd H
      refine Dv.ixr rfl ⟨_, _, rfl, rfl, rfl⟩ rfl rfl Tryz.underlying101 Tryz.underlying62 c62 g203.1 g203.2 ?_
      refine Dv.ldr rfl ⟨_, _, rfl, rfl, rfl⟩ rfl Tryz.underlying62 rfl rfl ?_
      refine Dv.ldbs rfl ⟨_, _, rfl, rfl, rfl⟩ rfl Tryz.underlying32 rfl c32 (mem_at 0 rfl) (Nat.le_of_ble_eq_true rfl) ?_
      obtain ⟨t204, h205, H⟩ := Gets.call H
      refine Dv.callq (ret := eq (.bool t204)) rfl ⟨_, _, rfl, rfl, rfl⟩ rfl rfl ⟨_, _, h205, rfl, rfl⟩ ?_
      refine Dv.un rfl ⟨_, _, rfl, rfl, rfl⟩ rfl (fun _ => run_not _) ?_
      refine Dv.pickF rfl trivial rfl rfl ?_
      refine .fin ?_
      refine WP.cond rfl (fun c206 => ?_) (fun c206 => ?_)
      · replace H := Gets.ct H c206
        refine WP.seq ?_
        refine WP.reg [(0, false)] (by kernel_rfl) ?_
        refine as0 rfl rfl ?_
        refine .fin ?_
        obtain rfl := Gets.out H
        exact WP.retL (fun _ _ h => h) rfl () trivial (.cons (res_tmp rfl) .nil) rfl (st_seln 1 [0] 1 rfl rfl rfl)
      · replace H := Gets.cf H c206
        refine WP.skip ?_
        refine WP.seq ?_
        refine WP.reg [(0, false)] (by kernel_rfl) ?_
        refine as0 rfl rfl ?_
        refine .fin ?_
        refine WP.seq ?_
        refine WP.dreg Tryz.checked.mixed [(0, false), (1, false), (2, false), (3, false), (4, false), (5, false), (6, false), (7, false), (8, false), (9, false), (10, false), (11, false), (12, false), (13, false), (14, false), (15, false), (16, false), (17, false), (18, false), (19, false), (20, false), (21, false)] (by kernel_rfl) ?_
        refine Dv.ldbs rfl trivial rfl Tryz.underlying32 rfl c32 (mem_at 0 rfl) (Nat.le_of_ble_eq_true rfl) ?_
        refine Dv.ldbs rfl trivial rfl Tryz.underlying32 rfl c32 (mem_at 0 rfl) (Nat.le_of_ble_eq_true rfl) ?_
        obtain ⟨t207, h208, H⟩ := Gets.call H
        refine Dv.call rfl trivial cal73 rfl (edu_named.c h208) ?_
        refine Dv.eqs [.int .i64 a0.fKind, .string a0.fRoom, .string a0.fUser, .string a0.fEvent, .string a0.fThread, .bool a0.fPrivate, .bool a0.fOn, .int .i64 a0.fSpan, .int .i64 a0.fState, .int .i64 a0.fTick, .int .i64 a0.fStamp] [.int .i64 t207.fKind, .string t207.fRoom, .string t207.fUser, .string t207.fEvent, .string t207.fThread, .bool t207.fPrivate, .bool t207.fOn, .int .i64 t207.fSpan, .int .i64 t207.fState, .int .i64 t207.fTick, .int .i64 t207.fStamp] rfl trivial rfl rfl rfl rfl eg32 (fun _ => equal_of 2 (by decide) (fun _ => eqt32 a0 t207)) ?_
        refine mv0 rfl rfl ?_
        cases c209 : decide (a0 = t207)
        · replace H := Gets.cf H c209
          refine sk rfl rfl rfl rfl rfl ?_
          refine sk rfl rfl rfl rfl rfl ?_
          refine sk rfl rfl rfl rfl rfl ?_
          refine Dv.pickF rfl trivial rfl rfl ?_
          refine mv0 rfl rfl ?_
          refine sk rfl rfl rfl rfl rfl ?_
          refine sk rfl rfl rfl rfl rfl ?_
          refine sk rfl rfl rfl rfl rfl ?_
          refine sk rfl rfl rfl rfl rfl ?_
          refine Dv.pickF rfl trivial rfl rfl ?_
          refine mv0 rfl rfl ?_
          refine sk rfl rfl rfl rfl rfl ?_
          refine sk rfl rfl rfl rfl rfl ?_
          refine sk rfl rfl rfl rfl rfl ?_
          refine sk rfl rfl rfl rfl rfl ?_
          refine Dv.pickF rfl trivial rfl rfl ?_
          refine as0 rfl rfl ?_
          refine .fin ?_
          obtain rfl := Gets.out H
          exact WP.retL (fun _ _ h => h) rfl () trivial (.cons (res_tmp rfl) .nil) rfl (st_seln 1 [0] 1 rfl rfl rfl)
        · replace H := Gets.ct H c209
          refine Dv.fab rfl ⟨_, _, rfl, rfl, rfl⟩ rfl Tryz.underlying32 rfl Tryz.underlying9 c9 (by decide) ?_
          refine Dv.ldb rfl ⟨_, _, rfl, rfl, rfl⟩ rfl Tryz.underlying9 rfl (mem_at 0 rfl) rfl ?_
          obtain ⟨t210, h211, H⟩ := Gets.call H
          refine Dv.call rfl ⟨_, _, rfl, rfl, rfl⟩ cal74 rfl (name_User.c h211) ?_
          refine Dv.pickT rfl trivial rfl rfl ?_
          refine mv0 rfl rfl ?_
          cases c212 : t210
          · replace H := Gets.cf H c212
            refine sk rfl rfl rfl rfl rfl ?_
            refine sk rfl rfl rfl rfl rfl ?_
            refine sk rfl rfl rfl rfl rfl ?_
            refine sk rfl rfl rfl rfl rfl ?_
            refine Dv.pickF rfl trivial rfl rfl ?_
            refine mv0 rfl rfl ?_
            refine sk rfl rfl rfl rfl rfl ?_
            refine sk rfl rfl rfl rfl rfl ?_
            refine sk rfl rfl rfl rfl rfl ?_
            refine sk rfl rfl rfl rfl rfl ?_
            refine Dv.pickF rfl trivial rfl rfl ?_
            refine as0 rfl rfl ?_
            refine .fin ?_
            obtain rfl := Gets.out H
            exact WP.retL (fun _ _ h => h) rfl () trivial (.cons (res_tmp rfl) .nil) rfl (st_seln 1 [0] 1 rfl rfl rfl)
          · replace H := Gets.ct H c212
            refine Dv.mv rfl ⟨_, _, rfl, rfl, rfl⟩ rfl ?_
            refine Dv.fab rfl ⟨_, _, rfl, rfl, rfl⟩ rfl Tryz.underlying32 rfl Tryz.underlying3 c3 (by decide) ?_
            refine Dv.ldb rfl ⟨_, _, rfl, rfl, rfl⟩ rfl Tryz.underlying3 rfl (mem_at 0 rfl) rfl ?_
            obtain ⟨t213, h214, H⟩ := Gets.call H
            refine Dv.callk rfl ⟨_, _, rfl, rfl, rfl⟩ rfl cal72 rfl (edu_Local_1.c h214) ?_
            refine Dv.pickT rfl trivial rfl rfl ?_
            refine mv0 rfl rfl ?_
            cases c215 : t213
            · replace H := Gets.cf H c215
              refine sk rfl rfl rfl rfl rfl ?_
              refine sk rfl rfl rfl rfl rfl ?_
              refine sk rfl rfl rfl rfl rfl ?_
              refine sk rfl rfl rfl rfl rfl ?_
              refine Dv.pickF rfl trivial rfl rfl ?_
              refine as0 rfl rfl ?_
              refine .fin ?_
              obtain rfl := Gets.out H
              exact WP.retL (fun _ _ h => h) rfl () trivial (.cons (res_tmp rfl) .nil) rfl (st_seln 1 [0] 1 rfl rfl rfl)
            · replace H := Gets.ct H c215
              refine Dv.mv rfl ⟨_, _, rfl, rfl, rfl⟩ rfl ?_
              refine Dv.fab rfl ⟨_, _, rfl, rfl, rfl⟩ rfl Tryz.underlying32 rfl Tryz.underlying3 c3 (by decide) ?_
              refine Dv.ldb rfl ⟨_, _, rfl, rfl, rfl⟩ rfl Tryz.underlying3 rfl (mem_at 0 rfl) rfl ?_
              obtain ⟨t216, h217, H⟩ := Gets.call H
              refine Dv.callk rfl ⟨_, _, rfl, rfl, rfl⟩ rfl cal72 rfl (edu_Local_1.c h217) ?_
              refine Dv.pickT rfl trivial rfl rfl ?_
              refine as0 rfl rfl ?_
              refine .fin ?_
              obtain rfl := Gets.out H
              exact WP.retL (fun _ _ h => h) rfl () trivial (.cons (res_tmp rfl) .nil) rfl (st_seln 1 [0] 1 rfl rfl rfl)
    · replace H := Gets.ct H c199
      refine sk rfl rfl rfl rfl rfl ?_
      refine sk rfl rfl rfl rfl rfl ?_
      refine sk rfl rfl rfl rfl rfl ?_
      refine sk rfl rfl rfl rfl rfl ?_
      refine sk rfl rfl rfl rfl rfl ?_
      refine sk rfl rfl rfl rfl rfl ?_
      refine sk rfl rfl rfl rfl rfl ?_
      refine sk rfl rfl rfl rfl rfl ?_
      refine Dv.pickT rfl trivial rfl rfl ?_
      refine .fin ?_
      refine WP.cond rfl (fun _ => ?_) nofun
      refine WP.seq ?_
      refine WP.reg [(0, false)] (by kernel_rfl) ?_
      refine as0 rfl rfl ?_
      refine .fin ?_
      obtain rfl := Gets.out H
      exact WP.retL (fun _ _ h => h) rfl () trivial (.cons (res_tmp rfl) .nil) rfl (st_seln 1 [0] 1 rfl rfl rfl)
  · replace H := Gets.ct H c197
    refine sk rfl rfl rfl rfl rfl ?_
    refine sk rfl rfl rfl rfl rfl ?_
    refine sk rfl rfl rfl rfl rfl ?_
    refine Dv.pickT rfl trivial rfl rfl ?_
    refine mv0 rfl rfl ?_
    refine sk rfl rfl rfl rfl rfl ?_
    refine sk rfl rfl rfl rfl rfl ?_
    refine sk rfl rfl rfl rfl rfl ?_
    refine sk rfl rfl rfl rfl rfl ?_
    refine sk rfl rfl rfl rfl rfl ?_
    refine sk rfl rfl rfl rfl rfl ?_
    refine sk rfl rfl rfl rfl rfl ?_
    refine sk rfl rfl rfl rfl rfl ?_
    refine Dv.pickT rfl trivial rfl rfl ?_
    refine .fin ?_
    refine WP.cond rfl (fun _ => ?_) nofun
    refine WP.seq ?_
    refine WP.reg [(0, false)] (by kernel_rfl) ?_
    refine as0 rfl rfl ?_
    refine .fin ?_
    obtain rfl := Gets.out H
    exact WP.retL (fun _ _ h => h) rfl () trivial (.cons (res_tmp rfl) .nil) rfl (st_seln 1 [0] 1 rfl rfl rfl)
theorem edu_May.c {k : Nat} {a0 : Edu} {r : Bool} (h : edu_May.f k a0 = some r) : Pt Tryz.prog 31 [agg (Edu.enc a0)] (eq (.bool r)) := by
  unfold edu_May.f at h
  refine (Tr.body Tryz.func31 (c := _) rfl Tryz.ntmps31 (Nat.le_of_ble_eq_true rfl) fun R0 F => ?_).pt
  replace h := Gets.of h
  have H := h
  clear h
  refine WP.seq ?_
  refine WP.reg [(0, true), (1, false)] (by kernel_rfl) ?_
  refine Dv.box rfl trivial rfl (cells_agg (Edu.K.one _)) nofun (fun b218 => ?_)
  refine as0 rfl rfl ?_
  refine .fin ?_
  refine WP.seq ?_
  refine WP.reg [(0, false), (1, false), (2, false), (3, false), (4, false), (5, false), (6, false), (7, false)] (by kernel_rfl) ?_
  refine Dv.ldbs rfl trivial rfl Tryz.underlying32 rfl c32 (mem_at 0 rfl) (Nat.le_of_ble_eq_true rfl) ?_
  obtain ⟨t219, h220, H⟩ := Gets.call H
  refine Dv.call rfl trivial cal51 rfl (edu_Local.c h220) ?_
  refine mv0 rfl rfl ?_
  cases c221 : t219
  · replace H := Gets.cf H c221
    refine sk rfl rfl rfl rfl rfl ?_
    refine sk rfl rfl rfl rfl rfl ?_
    refine sk rfl rfl rfl rfl rfl ?_
    refine Dv.pickF rfl trivial rfl rfl ?_
    refine as0 rfl rfl ?_
    refine .fin ?_
    obtain rfl := Gets.out H
    exact WP.retL (fun _ _ h => h) rfl () trivial (.cons (res_tmp rfl) .nil) rfl (st_seln 1 [0] 1 rfl rfl rfl)
  · replace H := Gets.ct H c221
    refine Dv.fab rfl ⟨_, _, rfl, rfl, rfl⟩ rfl Tryz.underlying32 rfl Tryz.underlying4 c4 (by decide) ?_
    refine Dv.ldb rfl ⟨_, _, rfl, rfl, rfl⟩ rfl Tryz.underlying4 rfl (mem_at 0 rfl) rfl ?_
    refine Dv.un rfl ⟨_, _, rfl, rfl, rfl⟩ rfl (fun _ => run_not _) ?_
    refine Dv.pickT rfl trivial rfl rfl ?_
    refine as0 rfl rfl ?_
    refine .fin ?_
    obtain rfl := Gets.out H
    exact WP.retL (fun _ _ h => h) rfl () trivial (.cons (res_tmp rfl) .nil) rfl (st_seln 1 [0] 1 rfl rfl rfl)
theorem slices_BinarySearchFunc_Edu_string.c {k : Nat} {a0 : List Edu} {a1 : ByteArray} {a2 : Edu → ByteArray → Option Int} {r : Int × Bool} (h : slices_BinarySearchFunc_Edu_string.f k a0 a1 a2 = some r) : Pt Tryz.prog 52 [sl Edu.K a0, eq (.string a1), fq_api_Edu_string_int a2] (tup [eq (.int .i64 r.1), eq (.bool r.2)]) := by
  unfold slices_BinarySearchFunc_Edu_string.f at h
  refine (Tr.body Tryz.func52 (c := _) rfl Tryz.ntmps52 (Nat.le_of_ble_eq_true rfl) fun R0 F => ?_).pt
  replace h := Gets.of h
  have H := h
  clear h
  refine WP.seq ?_
  refine WP.reg [(0, false), (1, false)] (by kernel_rfl) ?_
  refine as0 rfl rfl ?_
  refine as0 rfl rfl ?_
  refine .fin ?_
  refine WP.seq ?_
  refine WP.reg [(0, false), (1, false), (2, false)] (by kernel_rfl) ?_
  refine mv0 rfl rfl ?_
  refine Dv.lenl rfl trivial rfl Tryz.underlying22 ?_
  refine as0 rfl rfl ?_
  refine .fin ?_
  refine WP.seq ?_
  refine WP.reg [(0, false), (1, false), (2, false)] (by kernel_rfl) ?_
  refine mv0 rfl rfl ?_
  refine as0 rfl rfl ?_
  refine as0 rfl rfl ?_
  refine .fin ?_
  refine WP.seqn H id (fun p222 : Int × Int × Bool => [(0, sl Edu.K a0), (1, eq (.string a1)), (2, fq_api_Edu_string_int a2), (6, eq (.int .i64 0)), (7, eq (.bool false)), (8, eq (.int .i64 (a0.length : Int))), (9, eq (.int .i64 p222.1)), (10, eq (.int .i64 p222.2.1)), (17, eq (.bool p222.2.2))]) (fun p222 : Int × Int × Bool => [] ++ F) (fun p222 H => ?_) (fun H => ?_)
  · refine WP.seq ?_
    refine WP.reg [(0, false), (1, false), (2, false), (3, false), (4, false), (5, false), (6, false), (7, false), (8, false), (9, false), (10, false), (11, false), (12, false), (13, false), (14, false), (15, false)] (by kernel_rfl) ?_
    refine mv0 rfl rfl ?_
    refine mv0 rfl rfl ?_
    refine mv0 rfl rfl ?_
    refine Dv.bin rfl trivial rfl rfl (fun _ => run_lt) ?_
    refine mv0 rfl rfl ?_
    cases c223 : decide (p222.1 < (a0.length : Int))
    · replace H := Gets.cf H c223
      refine sk rfl rfl rfl rfl rfl ?_
      refine sk rfl rfl rfl rfl rfl ?_
      refine sk rfl rfl rfl rfl rfl ?_
      refine sk rfl rfl rfl rfl rfl ?_
      refine sk rfl rfl rfl rfl rfl ?_
      refine sk rfl rfl rfl rfl rfl ?_
      refine sk rfl rfl rfl rfl rfl ?_
      refine sk rfl rfl rfl rfl rfl ?_
      refine Dv.pickF rfl trivial rfl rfl ?_
      refine as0 rfl rfl ?_
      refine as0 rfl rfl ?_
      refine .fin ?_
      obtain rfl := Gets.out H
      exact WP.retL (fun _ _ h => h) rfl () trivial (.cons (res_tmp rfl) (.cons (res_tmp rfl) .nil)) rfl (st_seln 0 [] 0 rfl rfl rfl)
    · replace H := Gets.ct H c223
      refine Dv.mv rfl ⟨_, _, rfl, rfl, rfl⟩ rfl ?_
      refine Dv.mv rfl ⟨_, _, rfl, rfl, rfl⟩ rfl ?_
      refine Dv.mv rfl ⟨_, _, rfl, rfl, rfl⟩ rfl ?_
      obtain ⟨g224, H⟩ := Gets.grd H
      refine Dv.ixr rfl ⟨_, _, rfl, rfl, rfl⟩ rfl rfl Tryz.underlying22 Tryz.underlying32 c32 g224.1 g224.2 ?_
      refine Dv.ldrs rfl ⟨_, _, rfl, rfl, rfl⟩ rfl Tryz.underlying32 rfl c32 (Nat.le_of_ble_eq_true rfl) ?_
      refine Dv.mv rfl ⟨_, _, rfl, rfl, rfl⟩ rfl ?_
      obtain ⟨t225, h226, H⟩ := Gets.call H
      refine Dv.callq (ret := eq (.int .i64 t225)) rfl ⟨_, _, rfl, rfl, rfl⟩ rfl rfl ⟨_, _, _, h226, rfl, rfl⟩ ?_
      refine Dv.bin rfl ⟨_, _, rfl, rfl, rfl⟩ rfl rfl (fun _ => run_eq) ?_
      refine Dv.pickT rfl trivial rfl rfl ?_
      refine as0 rfl rfl ?_
      refine as0 rfl rfl ?_
      refine .fin ?_
      obtain rfl := Gets.out H
      exact WP.retL (fun _ _ h => h) rfl () trivial (.cons (res_tmp rfl) (.cons (res_tmp rfl) .nil)) rfl (st_seln 0 [] 0 rfl rfl rfl)
  · refine WP.block ?_
    refine WP.gh (l' := fun _ => [] ++ F) (gh_of (st_selgn 0 [] 0 rfl rfl rfl)) (fun _ _ => ?_)
    refine WP.loopg (fun j_ (p235 : Int × Int) => slices_BinarySearchFunc_Edu_string.l0 k a0 a1 a2 j_ p235.1 p235.2) (0, (a0.length : Int)) H (fun p235 => [(0, sl Edu.K a0), (1, eq (.string a1)), (2, fq_api_Edu_string_int a2), (6, eq (.int .i64 0)), (7, eq (.bool false)), (8, eq (.int .i64 (a0.length : Int))), (9, eq (.int .i64 p235.1)), (10, eq (.int .i64 p235.2))]) (fun p235 => [] ++ F) (weak_cons rfl (weak_cons rfl (weak_cons rfl (weak_cons rfl (weak_cons rfl (weak_cons rfl (weak_cons rfl (weak_cons rfl weak_nil)))))))) (List.Perm.refl _) ?_
    rintro j_ ⟨x227, x228⟩ H
    rcases j_ with _ | j234
    · exact (Gets.no H).elim
    replace H : Gets (slices_BinarySearchFunc_Edu_string.l0 k a0 a1 a2 (j234 + 1) x227 x228) _ := H
    rw [slices_BinarySearchFunc_Edu_string.l0] at H
    refine WP.seq ?_
    refine WP.seq ?_
    refine WP.reg [(0, false), (1, false), (2, false)] (by kernel_rfl) ?_
    refine mv0 rfl rfl ?_
    refine mv0 rfl rfl ?_
    refine Dv.bin rfl trivial rfl rfl (fun _ => run_lt) ?_
    refine .fin ?_
    refine WP.cond rfl (fun c229 => ?_) (fun c229 => ?_)
    · replace H := Gets.ct H c229
      refine WP.skip ?_
      refine WP.block ?_
      refine WP.seq ?_
      refine WP.reg [(0, false), (1, false), (2, false), (3, false), (4, false), (5, false), (6, false)] (by kernel_rfl) ?_
      refine mv0 rfl rfl ?_
      refine mv0 rfl rfl ?_
      refine Dv.bin rfl trivial rfl rfl (fun _ => run_add) ?_
      refine Dv.cvi rfl trivial rfl Tryz.underlying3 Tryz.underlying96 ?_
      refine Dv.bin rfl trivial rfl rfl (fun _ => run_shr (by decide)) ?_
      refine Dv.cvi rfl trivial rfl Tryz.underlying96 Tryz.underlying3 ?_
      refine as0 rfl rfl ?_
      refine .fin ?_
      refine WP.seq ?_
      refine WP.reg [(0, false), (1, false), (2, false), (3, false), (4, false), (5, false), (6, false), (7, false)] (by kernel_rfl) ?_
      refine mv0 rfl rfl ?_
      refine mv0 rfl rfl ?_
      refine mv0 rfl rfl ?_
      obtain ⟨g230, H⟩ := Gets.grd H
      refine Dv.ixr rfl trivial rfl rfl Tryz.underlying22 Tryz.underlying32 c32 g230.1 g230.2 ?_
      refine Dv.ldrs rfl trivial rfl Tryz.underlying32 rfl c32 (Nat.le_of_ble_eq_true rfl) ?_
      refine mv0 rfl rfl ?_
      obtain ⟨t231, h232, H⟩ := Gets.call H
      refine Dv.callq (ret := eq (.int .i64 t231)) rfl trivial rfl rfl ⟨_, _, _, h232, rfl, rfl⟩ ?_
      refine Dv.bin rfl trivial rfl rfl (fun _ => run_lt) ?_
      refine .fin ?_
      refine WP.cond rfl (fun c233 => ?_) (fun c233 => ?_)
      · replace H := Gets.ct H c233
        refine WP.reg [(0, false), (1, false), (2, false)] (by kernel_rfl) ?_
        refine mv0 rfl rfl ?_
        refine Dv.bin rfl trivial rfl rfl (fun _ => run_add) ?_
        refine as0 rfl rfl ?_
        refine .fin ?_
        exact Back.mk j234 (w64 ((w64 ((IntKind.u64.wrap (w64 (x227 + x228))).fdiv 2)) + 1), x228) (Nat.lt_succ_self _) H (weak_cons rfl (weak_cons rfl (weak_cons rfl (weak_cons rfl (weak_cons rfl (weak_cons rfl (weak_cons rfl (weak_cons rfl weak_nil)))))))) (List.Perm.refl _)
      · replace H := Gets.cf H c233
        refine WP.reg [(0, false), (1, false)] (by kernel_rfl) ?_
        refine mv0 rfl rfl ?_
        refine as0 rfl rfl ?_
        refine .fin ?_
        exact Back.mk j234 (x227, w64 ((IntKind.u64.wrap (w64 (x227 + x228))).fdiv 2)) (Nat.lt_succ_self _) H (weak_cons rfl (weak_cons rfl (weak_cons rfl (weak_cons rfl (weak_cons rfl (weak_cons rfl (weak_cons rfl (weak_cons rfl weak_nil)))))))) (List.Perm.refl _)
    · replace H := Gets.cf H c229
      refine WP.exit ?_
      replace H := Gets.out H
      exact Jn.mk (x227, x228, decide (x227 < x228)) H (weak_cons rfl (weak_cons rfl (weak_cons rfl (weak_cons rfl (weak_cons rfl (weak_cons rfl (weak_cons rfl (weak_cons rfl (weak_cons rfl weak_nil))))))))) (List.Perm.refl _)
theorem cmp_isNaN_string.c {a0 : ByteArray} {r : Bool} (h : cmp_isNaN_string.f a0 = some r) : Pt Tryz.prog 75 [eq (.string a0)] (eq (.bool r)) := by
  unfold cmp_isNaN_string.f at h
  refine (Tr.body Tryz.func75 (c := _) rfl Tryz.ntmps75 (Nat.le_of_ble_eq_true rfl) fun R0 F => ?_).pt
  replace h := Gets.of h
  have H := h
  clear h
  refine WP.seq ?_
  refine WP.reg [(0, false)] (by kernel_rfl) ?_
  refine as0 rfl rfl ?_
  refine .fin ?_
  refine WP.seq ?_
  refine WP.reg [(0, false), (1, false), (2, false), (3, false)] (by kernel_rfl) ?_
  refine mv0 rfl rfl ?_
  refine mv0 rfl rfl ?_
  refine Dv.bin rfl trivial rfl rfl (fun _ => run_sne) ?_
  refine as0 rfl rfl ?_
  refine .fin ?_
  obtain rfl := Gets.out H
  exact WP.retL (fun _ _ h => h) rfl () trivial (.cons (res_tmp rfl) .nil) rfl (st_seln 0 [] 0 rfl rfl rfl)
theorem cmp_Compare_string.c {a0 : ByteArray} {a1 : ByteArray} {r : Int} (h : cmp_Compare_string.f a0 a1 = some r) : Pt Tryz.prog 54 [eq (.string a0), eq (.string a1)] (eq (.int .i64 r)) := by
  unfold cmp_Compare_string.f at h
  refine (Tr.body Tryz.func54 (c := _) rfl Tryz.ntmps54 (Nat.le_of_ble_eq_true rfl) fun R0 F => ?_).pt
  replace h := Gets.of h
  have H := h
  clear h
  refine WP.seq ?_
  refine WP.reg [(0, false)] (by kernel_rfl) ?_
  refine as0 rfl rfl ?_
  refine .fin ?_
  refine WP.seq ?_
  refine WP.reg [(0, false), (1, false), (2, false)] (by kernel_rfl) ?_
  refine mv0 rfl rfl ?_
  obtain ⟨t236, h237, H⟩ := Gets.call H
  refine Dv.call rfl trivial cal75 rfl (cmp_isNaN_string.c h237) ?_
  refine as0 rfl rfl ?_
  refine .fin ?_
  refine WP.seq ?_
  refine WP.reg [(0, false), (1, false), (2, false)] (by kernel_rfl) ?_
  refine mv0 rfl rfl ?_
  obtain ⟨t238, h239, H⟩ := Gets.call H
  refine Dv.call rfl trivial cal75 rfl (cmp_isNaN_string.c h239) ?_
  refine as0 rfl rfl ?_
  refine .fin ?_
  refine WP.seq ?_
  refine WP.seq ?_
  refine WP.reg [(0, false)] (by kernel_rfl) ?_
  refine mv0 rfl rfl ?_
  refine .fin ?_
  refine WP.cond rfl (fun c240 => ?_) (fun c240 => ?_)
  · replace H := Gets.ct H c240
    refine WP.seq ?_
    refine WP.seq ?_
    refine WP.reg [(0, false)] (by kernel_rfl) ?_
    refine mv0 rfl rfl ?_
    refine .fin ?_
    refine WP.cond rfl (fun c241 => ?_) (fun c241 => ?_)
    · replace H := Gets.ct H c241
      refine WP.seq ?_
      refine WP.reg [(0, false)] (by kernel_rfl) ?_
      refine as0 rfl rfl ?_
      refine .fin ?_
      obtain rfl := Gets.out H
      exact WP.retL (fun _ _ h => h) rfl () trivial (.cons (res_tmp rfl) .nil) rfl (st_seln 0 [] 0 rfl rfl rfl)
    · replace H := Gets.cf H c241
      refine WP.skip ?_
      refine WP.seq ?_
      refine WP.reg [(0, false)] (by kernel_rfl) ?_
      refine as0 rfl rfl ?_
      refine .fin ?_
      obtain rfl := Gets.out H
      exact WP.retL (fun _ _ h => h) rfl () trivial (.cons (res_tmp rfl) .nil) rfl (st_seln 0 [] 0 rfl rfl rfl)
  · replace H := Gets.cf H c240
    refine WP.skip ?_
    refine WP.seq ?_
    refine WP.seq ?_
    refine WP.reg [(0, false)] (by kernel_rfl) ?_
    refine mv0 rfl rfl ?_
    refine .fin ?_
    refine WP.cond rfl (fun c242 => ?_) (fun c242 => ?_)
    · replace H := Gets.ct H c242
      refine WP.seq ?_
      refine WP.reg [(0, false)] (by kernel_rfl) ?_
      refine as0 rfl rfl ?_
      refine .fin ?_
      obtain rfl := Gets.out H
      exact WP.retL (fun _ _ h => h) rfl () trivial (.cons (res_tmp rfl) .nil) rfl (st_seln 0 [] 0 rfl rfl rfl)
    · replace H := Gets.cf H c242
      refine WP.skip ?_
      refine WP.seq ?_
      refine WP.seq ?_
      refine WP.reg [(0, false), (1, false), (2, false)] (by kernel_rfl) ?_
      refine mv0 rfl rfl ?_
      refine mv0 rfl rfl ?_
      refine Dv.bin rfl trivial rfl rfl (fun _ => run_slt) ?_
      refine .fin ?_
      refine WP.cond rfl (fun c243 => ?_) (fun c243 => ?_)
      · replace H := Gets.ct H c243
        refine WP.seq ?_
        refine WP.reg [(0, false)] (by kernel_rfl) ?_
        refine as0 rfl rfl ?_
        refine .fin ?_
        obtain rfl := Gets.out H
        exact WP.retL (fun _ _ h => h) rfl () trivial (.cons (res_tmp rfl) .nil) rfl (st_seln 0 [] 0 rfl rfl rfl)
      · replace H := Gets.cf H c243
        refine WP.skip ?_
        refine WP.seq ?_
        refine WP.seq ?_
        refine WP.reg [(0, false), (1, false), (2, false)] (by kernel_rfl) ?_
        refine mv0 rfl rfl ?_
        refine mv0 rfl rfl ?_
        refine Dv.bin rfl trivial rfl rfl (fun _ => run_sgt) ?_
        refine .fin ?_
        refine WP.cond rfl (fun c244 => ?_) (fun c244 => ?_)
        · replace H := Gets.ct H c244
          refine WP.seq ?_
          refine WP.reg [(0, false)] (by kernel_rfl) ?_
          refine as0 rfl rfl ?_
          refine .fin ?_
          obtain rfl := Gets.out H
          exact WP.retL (fun _ _ h => h) rfl () trivial (.cons (res_tmp rfl) .nil) rfl (st_seln 0 [] 0 rfl rfl rfl)
        · replace H := Gets.cf H c244
          refine WP.skip ?_
          refine WP.seq ?_
          refine WP.reg [(0, false)] (by kernel_rfl) ?_
          refine as0 rfl rfl ?_
          refine .fin ?_
          obtain rfl := Gets.out H
          exact WP.retL (fun _ _ h => h) rfl () trivial (.cons (res_tmp rfl) .nil) rfl (st_seln 0 [] 0 rfl rfl rfl)
theorem presence_Table_place_1.c {a0 : Edu} {a1 : ByteArray} {r : Int} (h : presence_Table_place_1.f a0 a1 = some r) : Pt Tryz.prog 53 [agg (Edu.enc a0), eq (.string a1)] (eq (.int .i64 r)) := by
  unfold presence_Table_place_1.f at h
  refine (Tr.body Tryz.func53 (c := _) rfl Tryz.ntmps53 (Nat.le_of_ble_eq_true rfl) fun R0 F => ?_).pt
  replace h := Gets.of h
  have H := h
  clear h
  refine WP.seq ?_
  refine WP.reg [(0, true), (1, false)] (by kernel_rfl) ?_
  refine Dv.box rfl trivial rfl (cells_agg (Edu.K.one _)) nofun (fun b245 => ?_)
  refine as0 rfl rfl ?_
  refine .fin ?_
  refine WP.seq ?_
  refine WP.reg [(0, false), (1, false), (2, false), (3, false), (4, false)] (by kernel_rfl) ?_
  refine Dv.fab rfl trivial rfl Tryz.underlying32 rfl Tryz.underlying9 c9 (by decide) ?_
  refine Dv.ldb rfl trivial rfl Tryz.underlying9 rfl (mem_at 0 rfl) rfl ?_
  refine mv0 rfl rfl ?_
  obtain ⟨t246, h247, H⟩ := Gets.call H
  refine Dv.call rfl trivial cal54 rfl (cmp_Compare_string.c h247) ?_
  refine as0 rfl rfl ?_
  refine .fin ?_
  obtain rfl := Gets.out H
  exact WP.retL (fun _ _ h => h) rfl () trivial (.cons (res_tmp rfl) .nil) rfl (st_seln 1 [0] 1 rfl rfl rfl)
theorem presence_Table_place.c {k : Nat} {a0 : PTab} {a1 : ByteArray} {v0_0 v0_1 : OV} {b0_ : Nat} {r : Int × Bool} (h : presence_Table_place.f k a0 a1 = some r) : Tr Tryz.prog 32 [eq (.pointer (some ⟨b0_, 0, none⟩)), eq (.string a1)] [blk b0_ 61 [eq v0_0.1, eq v0_1.1], own Edu.K v0_0.1 a0.fl] (γ := Unit) (fun _ => True) (fun g => tup [eq (.int .i64 r.1), eq (.bool r.2)]) (fun g => [blk b0_ 61 [eq v0_0.1, eq v0_1.1], own Edu.K v0_0.1 a0.fl]) := by
  unfold presence_Table_place.f at h
  refine Tr.body Tryz.func32 (c := _) rfl Tryz.ntmps32 (Nat.le_of_ble_eq_true rfl) fun R0 F => ?_
  replace h := Gets.of h
  have H := h
  clear h
  refine WP.seq ?_
  refine WP.reg [(0, false), (1, false)] (by kernel_rfl) ?_
  refine as0 rfl rfl ?_
  refine as0 rfl rfl ?_
  refine .fin ?_
  refine WP.seq ?_
  refine WP.reg [(0, false), (1, false), (2, false), (3, false), (4, false), (5, false), (6, false), (7, false), (8, false), (9, false)] (by kernel_rfl) ?_
  refine mv0 rfl rfl ?_
  refine Dv.nilp rfl trivial rfl ?_
  refine Dv.fab rfl trivial rfl Tryz.underlying61 rfl Tryz.underlying22 c22 (by decide) ?_
  refine Dv.ldb rfl trivial rfl Tryz.underlying22 rfl (mem_at 0 rfl) rfl ?_
  refine mv0 rfl rfl ?_
  obtain ⟨t248, h249, H⟩ := Gets.call H
  refine Dv.calll (B := [own Edu.K v0_0.1 a0.fl]) (F := [blk b0_ 61 [eq v0_0.1, eq v0_1.1]] ++ F) rfl trivial cal52 rfl (Pt.lend _ (Pt.weak (slices_BinarySearchFunc_Edu_string.c h249) (.cons wk_id (.cons wk_id (.cons (wk_fn cal53 (by rintro _ _ ⟨a0_, a1_, r_, h_, rfl, rfl⟩; exact presence_Table_place_1.c h_)) .nil)))) (.cons (lt_own (mem_at 0 rfl)) (.cons lt_id (.cons lt_id .nil))) (flat_tup (flats_cons flat_eq (flats_cons flat_eq flats_nil)))) (perm_ton 2 [1, 0] rfl rfl rfl) ?_
  refine Dv.ext rfl trivial rfl rfl ?_
  refine Dv.ext rfl trivial rfl rfl ?_
  refine as0 rfl rfl ?_
  refine as0 rfl rfl ?_
  refine .fin ?_
  obtain rfl := Gets.out H
  exact WP.retL (fun _ _ h => h) rfl () trivial (.cons (res_tmp rfl) (.cons (res_tmp rfl) .nil)) rfl (st_seln 2 [0, 1] 0 rfl rfl rfl)
theorem edu_Of.c {a0 : Edu} {r : EKey} (h : edu_Of.f a0 = some r) : Pt Tryz.prog 55 [agg (Edu.enc a0)] (agg (EKey.enc r)) := by
  unfold edu_Of.f at h
  refine (Tr.body Tryz.func55 (c := _) rfl Tryz.ntmps55 (Nat.le_of_ble_eq_true rfl) fun R0 F => ?_).pt
  replace h := Gets.of h
  have H := h
  clear h
  refine WP.seq ?_
  refine WP.reg [(0, true), (1, true)] (by kernel_rfl) ?_
  refine Dv.box rfl trivial rfl (cells_agg (Edu.K.one _)) nofun (fun b250 => ?_)
  refine Dv.alloc (z := .agg #[.int .i64 0, .string ⟨#[]⟩, .string ⟨#[]⟩, .string ⟨#[]⟩, .bool false]) (qs := [eq (.int .i64 0), eq (.string (⟨#[]⟩ : ByteArray)), eq (.string (⟨#[]⟩ : ByteArray)), eq (.string (⟨#[]⟩ : ByteArray)), eq (.bool false)]) rfl trivial z88 rfl nofun (fun b251 => ?_)
  refine .fin ?_
  refine WP.seq ?_
  refine WP.reg [(0, false), (1, false), (2, false), (3, false), (4, false), (5, false), (6, false), (7, false), (8, false), (9, false), (10, false), (11, true)] (by kernel_rfl) ?_
  refine Dv.fab rfl trivial rfl Tryz.underlying32 rfl Tryz.underlying3 c3 (by decide) ?_
  refine Dv.ldb rfl trivial rfl Tryz.underlying3 rfl (mem_at 1 rfl) rfl ?_
  refine Dv.fab rfl trivial rfl Tryz.underlying32 rfl Tryz.underlying9 c9 (by decide) ?_
  refine Dv.ldb rfl trivial rfl Tryz.underlying9 rfl (mem_at 1 rfl) rfl ?_
  refine Dv.fab rfl trivial rfl Tryz.underlying32 rfl Tryz.underlying9 c9 (by decide) ?_
  refine Dv.ldb rfl trivial rfl Tryz.underlying9 rfl (mem_at 1 rfl) rfl ?_
  refine Dv.fab rfl trivial rfl Tryz.underlying32 rfl Tryz.underlying9 c9 (by decide) ?_
  refine Dv.ldb rfl trivial rfl Tryz.underlying9 rfl (mem_at 1 rfl) rfl ?_
  refine Dv.fab rfl trivial rfl Tryz.underlying32 rfl Tryz.underlying4 c4 (by decide) ?_
  refine Dv.ldb rfl trivial rfl Tryz.underlying4 rfl (mem_at 1 rfl) rfl ?_
  refine Dv.bld (css := [[eq (.int .i64 a0.fKind)], [eq (.string a0.fRoom)], [eq (.string a0.fUser)], [eq (.string a0.fThread)], [eq (.bool a0.fPrivate)]]) rfl trivial Tryz.underlying88 pl88 z88 rfl ⟨(cells_one (one_eq rfl)), ⟨(cells_one (one_eq rfl)), ⟨(cells_one (one_eq rfl)), ⟨(cells_one (one_eq rfl)), ⟨(cells_one (one_eq rfl)), trivial⟩⟩⟩⟩⟩ rfl rfl ?_
  refine Dv.stx ([blk b251 88 [eq (.int .i64 a0.fKind), eq (.string a0.fRoom), eq (.string a0.fUser), eq (.string a0.fThread), eq (.bool a0.fPrivate)], blk b250 32 [eq (.int .i64 a0.fKind), eq (.string a0.fRoom), eq (.string a0.fUser), eq (.string a0.fEvent), eq (.string a0.fThread), eq (.bool a0.fPrivate), eq (.bool a0.fOn), eq (.int .i64 a0.fSpan), eq (.int .i64 a0.fState), eq (.int .i64 a0.fTick), eq (.int .i64 a0.fStamp)]] ++ F) rfl trivial rfl rfl (cells_agg (ones_cons (one_eq rfl) (ones_cons (one_eq rfl) (ones_cons (one_eq rfl) (ones_cons (one_eq rfl) (ones_cons (one_eq rfl) ones_nil)))))) Tryz.underlying88 c88 rfl (j := 0) rfl (Nat.le_of_ble_eq_true rfl) rfl nofun ?_
  refine .fin ?_
  obtain rfl := Gets.out H
  exact WP.retL (fun _ _ h => h) rfl () trivial (.cons (res_cells rfl Tryz.underlying88 rfl c88 (mem_at 0 rfl) rfl) .nil) rfl (st_seln 2 [0, 1] 2 rfl rfl rfl)
theorem cmp_Or_int.c {k : Nat} {a0 : List Int} {r : Int} (h : cmp_Or_int.f k a0 = some r) : Pt Tryz.prog 76 [sl (intK .i64) a0] (eq (.int .i64 r)) := by
  unfold cmp_Or_int.f at h
  refine (Tr.body Tryz.func76 (c := _) rfl Tryz.ntmps76 (Nat.le_of_ble_eq_true rfl) fun R0 F => ?_).pt
  replace h := Gets.of h
  have H := h
  clear h
  refine WP.seq ?_
  refine WP.reg [(0, false)] (by kernel_rfl) ?_
  refine as0 rfl rfl ?_
  refine .fin ?_
  refine WP.seq ?_
  refine WP.reg [(0, false)] (by kernel_rfl) ?_
  refine as0 rfl rfl ?_
  refine .fin ?_
  refine WP.seqr H id (fun p252 : Int × Bool => [(0, sl (intK .i64) a0), (2, eq (.int .i64 0)), (3, eq (.int .i64 0)), (6, sl (intK .i64) a0), (7, eq (.int .i64 (a0.length : Int))), (8, eq (.int .i64 p252.1)), (9, eq (.bool p252.2))]) (fun p252 : Int × Bool => [] ++ F) (fun p252 H => ?_) (fun H => ?_)
  · refine WP.seq ?_
    refine WP.reg [(0, false), (1, false)] (by kernel_rfl) ?_
    refine mv0 rfl rfl ?_
    refine as0 rfl rfl ?_
    refine .fin ?_
    obtain rfl := Gets.out H
    exact WP.retL (fun _ _ h => h) rfl () trivial (.cons (res_tmp rfl) .nil) rfl (st_seln 0 [] 0 rfl rfl rfl)
  · refine WP.seq ?_
    refine WP.reg [(0, false), (1, false), (2, false)] (by kernel_rfl) ?_
    refine mv0 rfl rfl ?_
    refine Dv.lenl rfl trivial rfl Tryz.underlying25 ?_
    refine mv0 rfl rfl ?_
    refine .fin ?_
    refine WP.block ?_
    refine WP.gh (l' := fun _ => [] ++ F) (gh_of (st_selgn 0 [] 0 rfl rfl rfl)) (fun _ _ => ?_)
    refine WP.loopg (fun j_ (p258 : Int) => cmp_Or_int.l0 k a0 j_ p258) 0 H (fun p258 => [(0, sl (intK .i64) a0), (2, eq (.int .i64 0)), (3, eq (.int .i64 0)), (6, sl (intK .i64) a0), (7, eq (.int .i64 (a0.length : Int))), (8, eq (.int .i64 p258))]) (fun p258 => [] ++ F) (weak_cons rfl (weak_cons rfl (weak_cons rfl (weak_cons rfl (weak_cons rfl (weak_cons rfl weak_nil)))))) (List.Perm.refl _) ?_
    rintro j_ x253 H
    rcases j_ with _ | j257
    · exact (Gets.no H).elim
    replace H : Gets (cmp_Or_int.l0 k a0 (j257 + 1) x253) _ := H
    rw [cmp_Or_int.l0] at H
    refine WP.seq ?_
    refine WP.reg [(0, false)] (by kernel_rfl) ?_
    refine Dv.bin rfl trivial rfl rfl (fun _ => run_lt) ?_
    refine .fin ?_
    refine WP.seq ?_
    refine WP.cond rfl (fun c254 => ?_) (fun c254 => ?_)
    · replace H := Gets.ct H c254
      refine WP.skip ?_
      refine WP.seq ?_
      refine WP.block ?_
      refine WP.seq ?_
      refine WP.reg [(0, false), (1, false), (2, false)] (by kernel_rfl) ?_
      obtain ⟨g255, H⟩ := Gets.grd H
      refine Dv.ixr rfl trivial rfl rfl Tryz.underlying25 Tryz.underlying3 c3 g255.1 g255.2 ?_
      refine Dv.ldr rfl trivial rfl Tryz.underlying3 rfl rfl ?_
      refine as0 rfl rfl ?_
      refine .fin ?_
      refine WP.seq ?_
      refine WP.reg [(0, false), (1, false), (2, false)] (by kernel_rfl) ?_
      refine mv0 rfl rfl ?_
      refine mv0 rfl rfl ?_
      refine Dv.bin rfl trivial rfl rfl (fun _ => run_ne) ?_
      refine .fin ?_
      refine WP.cond rfl (fun c256 => ?_) (fun c256 => ?_)
      · replace H := Gets.ct H c256
        refine WP.seq ?_
        refine WP.reg [(0, false), (1, false)] (by kernel_rfl) ?_
        refine mv0 rfl rfl ?_
        refine as0 rfl rfl ?_
        refine .fin ?_
        replace H := Gets.outr H
        obtain rfl := Gets.out H
        exact WP.retL (fun _ _ h => h) rfl () trivial (.cons (res_tmp rfl) .nil) rfl (st_seln 0 [] 0 rfl rfl rfl)
      · replace H := Gets.cf H c256
        refine WP.skip ?_
        refine WP.reg [(0, false), (1, false)] (by kernel_rfl) ?_
        refine Dv.bin rfl trivial rfl rfl (fun _ => run_add) ?_
        refine mv0 rfl rfl ?_
        refine .fin ?_
        exact Back.mk j257 (w64 (x253 + 1)) (Nat.lt_succ_self _) H (weak_cons rfl (weak_cons rfl (weak_cons rfl (weak_cons rfl (weak_cons rfl (weak_cons rfl weak_nil)))))) (List.Perm.refl _)
    · replace H := Gets.cf H c254
      refine WP.exit ?_
      replace H := Gets.out H
      exact Jn.mk (x253, decide (x253 < (a0.length : Int))) H (weak_cons rfl (weak_cons rfl (weak_cons rfl (weak_cons rfl (weak_cons rfl (weak_cons rfl (weak_cons rfl weak_nil))))))) (List.Perm.refl _)
theorem cmp_isNaN_int.c {a0 : Int} {r : Bool} (h : cmp_isNaN_int.f a0 = some r) : Pt Tryz.prog 106 [eq (.int .i64 a0)] (eq (.bool r)) := by
  unfold cmp_isNaN_int.f at h
  refine (Tr.body Tryz.func106 (c := _) rfl Tryz.ntmps106 (Nat.le_of_ble_eq_true rfl) fun R0 F => ?_).pt
  replace h := Gets.of h
  have H := h
  clear h
  refine WP.seq ?_
  refine WP.reg [(0, false)] (by kernel_rfl) ?_
  refine as0 rfl rfl ?_
  refine .fin ?_
  refine WP.seq ?_
  refine WP.reg [(0, false), (1, false), (2, false), (3, false)] (by kernel_rfl) ?_
  refine mv0 rfl rfl ?_
  refine mv0 rfl rfl ?_
  refine Dv.bin rfl trivial rfl rfl (fun _ => run_ne) ?_
  refine as0 rfl rfl ?_
  refine .fin ?_
  obtain rfl := Gets.out H
  exact WP.retL (fun _ _ h => h) rfl () trivial (.cons (res_tmp rfl) .nil) rfl (st_seln 0 [] 0 rfl rfl rfl)
theorem cmp_Compare_int.c {a0 : Int} {a1 : Int} {r : Int} (h : cmp_Compare_int.f a0 a1 = some r) : Pt Tryz.prog 77 [eq (.int .i64 a0), eq (.int .i64 a1)] (eq (.int .i64 r)) := by
  unfold cmp_Compare_int.f at h
  refine (Tr.body Tryz.func77 (c := _) rfl Tryz.ntmps77 (Nat.le_of_ble_eq_true rfl) fun R0 F => ?_).pt
  replace h := Gets.of h
  have H := h
  clear h
  refine WP.seq ?_
  refine WP.reg [(0, false)] (by kernel_rfl) ?_
  refine as0 rfl rfl ?_
  refine .fin ?_
  refine WP.seq ?_
  refine WP.reg [(0, false), (1, false), (2, false)] (by kernel_rfl) ?_
  refine mv0 rfl rfl ?_
  obtain ⟨t259, h260, H⟩ := Gets.call H
  refine Dv.call rfl trivial cal106 rfl (cmp_isNaN_int.c h260) ?_
  refine as0 rfl rfl ?_
  refine .fin ?_
  refine WP.seq ?_
  refine WP.reg [(0, false), (1, false), (2, false)] (by kernel_rfl) ?_
  refine mv0 rfl rfl ?_
  obtain ⟨t261, h262, H⟩ := Gets.call H
  refine Dv.call rfl trivial cal106 rfl (cmp_isNaN_int.c h262) ?_
  refine as0 rfl rfl ?_
  refine .fin ?_
  refine WP.seq ?_
  refine WP.seq ?_
  refine WP.reg [(0, false)] (by kernel_rfl) ?_
  refine mv0 rfl rfl ?_
  refine .fin ?_
  refine WP.cond rfl (fun c263 => ?_) (fun c263 => ?_)
  · replace H := Gets.ct H c263
    refine WP.seq ?_
    refine WP.seq ?_
    refine WP.reg [(0, false)] (by kernel_rfl) ?_
    refine mv0 rfl rfl ?_
    refine .fin ?_
    refine WP.cond rfl (fun c264 => ?_) (fun c264 => ?_)
    · replace H := Gets.ct H c264
      refine WP.seq ?_
      refine WP.reg [(0, false)] (by kernel_rfl) ?_
      refine as0 rfl rfl ?_
      refine .fin ?_
      obtain rfl := Gets.out H
      exact WP.retL (fun _ _ h => h) rfl () trivial (.cons (res_tmp rfl) .nil) rfl (st_seln 0 [] 0 rfl rfl rfl)
    · replace H := Gets.cf H c264
      refine WP.skip ?_
      refine WP.seq ?_
      refine WP.reg [(0, false)] (by kernel_rfl) ?_
      refine as0 rfl rfl ?_
      refine .fin ?_
      obtain rfl := Gets.out H
      exact WP.retL (fun _ _ h => h) rfl () trivial (.cons (res_tmp rfl) .nil) rfl (st_seln 0 [] 0 rfl rfl rfl)
  · replace H := Gets.cf H c263
    refine WP.skip ?_
    refine WP.seq ?_
    refine WP.seq ?_
    refine WP.reg [(0, false)] (by kernel_rfl) ?_
    refine mv0 rfl rfl ?_
    refine .fin ?_
    refine WP.cond rfl (fun c265 => ?_) (fun c265 => ?_)
    · replace H := Gets.ct H c265
      refine WP.seq ?_
      refine WP.reg [(0, false)] (by kernel_rfl) ?_
      refine as0 rfl rfl ?_
      refine .fin ?_
      obtain rfl := Gets.out H
      exact WP.retL (fun _ _ h => h) rfl () trivial (.cons (res_tmp rfl) .nil) rfl (st_seln 0 [] 0 rfl rfl rfl)
    · replace H := Gets.cf H c265
      refine WP.skip ?_
      refine WP.seq ?_
      refine WP.seq ?_
      refine WP.reg [(0, false), (1, false), (2, false)] (by kernel_rfl) ?_
      refine mv0 rfl rfl ?_
      refine mv0 rfl rfl ?_
      refine Dv.bin rfl trivial rfl rfl (fun _ => run_lt) ?_
      refine .fin ?_
      refine WP.cond rfl (fun c266 => ?_) (fun c266 => ?_)
      · replace H := Gets.ct H c266
        refine WP.seq ?_
        refine WP.reg [(0, false)] (by kernel_rfl) ?_
        refine as0 rfl rfl ?_
        refine .fin ?_
        obtain rfl := Gets.out H
        exact WP.retL (fun _ _ h => h) rfl () trivial (.cons (res_tmp rfl) .nil) rfl (st_seln 0 [] 0 rfl rfl rfl)
      · replace H := Gets.cf H c266
        refine WP.skip ?_
        refine WP.seq ?_
        refine WP.seq ?_
        refine WP.reg [(0, false), (1, false), (2, false)] (by kernel_rfl) ?_
        refine mv0 rfl rfl ?_
        refine mv0 rfl rfl ?_
        refine Dv.bin rfl trivial rfl rfl (fun _ => run_gt) ?_
        refine .fin ?_
        refine WP.cond rfl (fun c267 => ?_) (fun c267 => ?_)
        · replace H := Gets.ct H c267
          refine WP.seq ?_
          refine WP.reg [(0, false)] (by kernel_rfl) ?_
          refine as0 rfl rfl ?_
          refine .fin ?_
          obtain rfl := Gets.out H
          exact WP.retL (fun _ _ h => h) rfl () trivial (.cons (res_tmp rfl) .nil) rfl (st_seln 0 [] 0 rfl rfl rfl)
        · replace H := Gets.cf H c267
          refine WP.skip ?_
          refine WP.seq ?_
          refine WP.reg [(0, false)] (by kernel_rfl) ?_
          refine as0 rfl rfl ?_
          refine .fin ?_
          obtain rfl := Gets.out H
          exact WP.retL (fun _ _ h => h) rfl () trivial (.cons (res_tmp rfl) .nil) rfl (st_seln 0 [] 0 rfl rfl rfl)
theorem bytes_Compare.c {a0 : List Int} {a1 : List Int} {r : Int} (h : bytes_Compare.f a0 a1 = some r) : Pt Tryz.prog 78 [sl (intK .u8) a0, sl (intK .u8) a1] (eq (.int .i64 r)) := by
  unfold bytes_Compare.f at h
  refine (Tr.body Tryz.func78 (c := _) rfl Tryz.ntmps78 (Nat.le_of_ble_eq_true rfl) fun R0 F => ?_).pt
  replace h := Gets.of h
  have H := h
  clear h
  refine WP.seq ?_
  refine WP.reg [(0, false)] (by kernel_rfl) ?_
  refine as0 rfl rfl ?_
  refine .fin ?_
  refine WP.seq ?_
  refine WP.reg [(0, false), (1, false), (2, false), (3, false)] (by kernel_rfl) ?_
  refine mv0 rfl rfl ?_
  refine mv0 rfl rfl ?_
  refine Dv.cext rfl trivial rfl (xt_cmp Tryz.func107 (by kernel_rfl) rfl xf107 xg107) ?_
  refine as0 rfl rfl ?_
  refine .fin ?_
  obtain rfl := Gets.out H
  exact WP.retL (fun _ _ h => h) rfl () trivial (.cons (res_tmp rfl) .nil) rfl (st_seln 0 [] 0 rfl rfl rfl)
theorem lay_Number.c {k : Nat} {a0 : List Int} {a1 : Int} {p0_ : OV} {r : (List Int)} (h : lay_Number.f k a0 a1 = some r) : Tr Tryz.prog 108 [eq p0_.1, eq (.int .i64 a1)] [own (intK .u8) p0_.1 a0] (γ := OV) (fun _ => True) (fun g => eq g.1) (fun g => [own (intK .u8) g.1 r]) := by
  unfold lay_Number.f at h
  refine Tr.body Tryz.func108 (c := _) rfl Tryz.ntmps108 (Nat.le_of_ble_eq_true rfl) fun R0 F => ?_
  replace h := Gets.of h
  have H := h
  clear h
  refine WP.seq ?_
  refine WP.reg [(0, false)] (by kernel_rfl) ?_
  refine as0 rfl rfl ?_
  refine .fin ?_
  refine WP.seq ?_
  refine WP.reg [(0, false), (1, false), (2, false)] (by kernel_rfl) ?_
  refine mv0 rfl rfl ?_
  refine Dv.maxi rfl trivial rfl rfl ?_
  refine as0 rfl rfl ?_
  refine .fin ?_
  refine WP.seq ?_
  refine WP.reg [(0, false), (1, false), (2, false), (3, false), (4, false), (5, true), (6, false)] (by kernel_rfl) ?_
  refine mv0 rfl rfl ?_
  refine mv0 rfl rfl ?_
  refine Dv.lenw rfl trivial rfl (mem_at 0 rfl) Tryz.underlying82 ?_
  refine mv0 rfl rfl ?_
  refine Dv.lenw rfl trivial rfl (mem_at 0 rfl) Tryz.underlying82 ?_
  obtain ⟨g268, H⟩ := Gets.grd H
  refine Dv.slo (jj := 0) rfl trivial rfl rfl Tryz.underlying82 Tryz.underlying5 c5 bdE_none (bdE_some rfl g268.1) (.inr ⟨⟨_, _, rfl, g268.1, rfl⟩, rfl, rfl⟩) g268.2.1 g268.2.2 nofun (fun v269 => ?_)
  refine as0 rfl rfl ?_
  refine .fin ?_
  refine WP.seqn H (fun q282 : (Int × Bool × (List Int)) × OV => q282.1) (fun q282 : (Int × Bool × (List Int)) × OV => [(0, eq q282.2.1), (1, eq (.int .i64 q282.1.1)), (4, eq (.slice none 0 0)), (14, eq (.bool q282.1.2.1))]) (fun q282 : (Int × Bool × (List Int)) × OV => [own (intK .u8) q282.2.1 q282.1.2.2] ++ F) (fun q282 H => ?_) (fun H => ?_)
  · obtain ⟨p270, v271⟩ := q282
    refine WP.seq ?_
    refine WP.reg [(0, false), (1, false), (2, false), (3, false), (4, true), (5, false)] (by kernel_rfl) ?_
    refine mv0 rfl rfl ?_
    refine mv0 rfl rfl ?_
    refine Dv.cvi rfl trivial rfl Tryz.underlying3 Tryz.underlying5 ?_
    refine Dv.lit (intK .u8) ([IntKind.u8.wrap (p270.1)] : List Int) (css := [[eq (.int .u8 (IntKind.u8.wrap (p270.1)))]]) rfl trivial Tryz.underlying82 Tryz.underlying5 c5 z5 rfl (by decide) (by decide) rfl ⟨(cells_one (one_eq rfl)), trivial⟩ rfl rfl rfl ?_
    obtain ⟨g272, H⟩ := Gets.grd H
    refine Dv.appx (jj := 0) (ys := ([IntKind.u8.wrap (p270.1)] : List Int)) (fun v273 : OV => [own (intK .u8) v273.1 (p270.2.2 ++ ([IntKind.u8.wrap (p270.1)] : List Int))] ++ F) rfl trivial rfl rfl rfl src_sl Tryz.underlying82 (.inr ⟨_, Tryz.underlying82⟩) inf5 rfl (by decide) g272 rfl nofun (fun v273 => ?_)
    refine as0 rfl rfl ?_
    refine .fin ?_
    obtain rfl := Gets.out H
    exact WP.retL (fun _ _ h => h) rfl v273 trivial (.cons (res_tmp rfl) .nil) rfl (st_seln 1 [0] 0 rfl rfl rfl)
  · refine WP.block ?_
    refine WP.gh (l' := fun _ => [own (intK .u8) v269.1 ((a0.take ((a0.length : Int).toNat)).drop 0)] ++ F) (gh_of (st_selgn 1 [0] 0 rfl rfl rfl)) (fun _ _ => ?_)
    refine WP.loopg (fun j_ (p281 : Int × (List Int) × OV) => lay_Number.l0 k j_ p281.1 p281.2.1) (max a1 0, (a0.take ((a0.length : Int).toNat)).drop 0, v269) H (fun p281 => [(0, eq p281.2.2.1), (1, eq (.int .i64 p281.1)), (4, eq (.slice none 0 0))]) (fun p281 => [own (intK .u8) p281.2.2.1 p281.2.1] ++ F) (weak_cons rfl (weak_cons rfl (weak_cons rfl weak_nil))) (List.Perm.refl _) ?_
    rintro j_ ⟨x274, x275, v276⟩ H
    rcases j_ with _ | j280
    · exact (Gets.no H).elim
    replace H : Gets (lay_Number.l0 k (j280 + 1) x274 x275) _ := H
    rw [lay_Number.l0] at H
    refine WP.seq ?_
    refine WP.seq ?_
    refine WP.reg [(0, false), (1, false)] (by kernel_rfl) ?_
    refine mv0 rfl rfl ?_
    refine Dv.bin rfl trivial rfl rfl (fun _ => run_ge) ?_
    refine .fin ?_
    refine WP.cond rfl (fun c277 => ?_) (fun c277 => ?_)
    · replace H := Gets.ct H c277
      refine WP.skip ?_
      refine WP.seq ?_
      refine WP.block ?_
      refine WP.reg [(0, false), (1, false), (2, false), (3, false), (4, false), (5, false), (6, true), (7, false)] (by kernel_rfl) ?_
      refine mv0 rfl rfl ?_
      refine mv0 rfl rfl ?_
      refine Dv.bin rfl trivial rfl rfl (fun _ => run_rem (by decide)) ?_
      refine Dv.bin rfl trivial rfl rfl (fun _ => run_add) ?_
      refine Dv.cvi rfl trivial rfl Tryz.underlying3 Tryz.underlying5 ?_
      refine Dv.lit (intK .u8) ([IntKind.u8.wrap (w64 ((x274.tmod 128) + 128))] : List Int) (css := [[eq (.int .u8 (IntKind.u8.wrap (w64 ((x274.tmod 128) + 128))))]]) rfl trivial Tryz.underlying82 Tryz.underlying5 c5 z5 rfl (by decide) (by decide) rfl ⟨(cells_one (one_eq rfl)), trivial⟩ rfl rfl rfl ?_
      obtain ⟨g278, H⟩ := Gets.grd H
      refine Dv.appx (jj := 0) (ys := ([IntKind.u8.wrap (w64 ((x274.tmod 128) + 128))] : List Int)) (fun v279 : OV => [own (intK .u8) v279.1 (x275 ++ ([IntKind.u8.wrap (w64 ((x274.tmod 128) + 128))] : List Int))] ++ F) rfl trivial rfl rfl rfl src_sl Tryz.underlying82 (.inr ⟨_, Tryz.underlying82⟩) inf5 rfl (by decide) g278 rfl nofun (fun v279 => ?_)
      refine as0 rfl rfl ?_
      refine .fin ?_
      refine WP.reg [(0, false), (1, false), (2, false)] (by kernel_rfl) ?_
      refine mv0 rfl rfl ?_
      refine Dv.bin rfl trivial rfl rfl (fun _ => run_quo (by decide)) ?_
      refine as0 rfl rfl ?_
      refine .fin ?_
      exact Back.mk j280 (w64 (x274.tdiv 128), x275 ++ ([IntKind.u8.wrap (w64 ((x274.tmod 128) + 128))] : List Int), v279) (Nat.lt_succ_self _) H (weak_cons rfl (weak_cons rfl (weak_cons rfl weak_nil))) (List.Perm.refl _)
    · replace H := Gets.cf H c277
      refine WP.exit ?_
      replace H := Gets.out H
      exact Jn.mk ((x274, decide (128 ≤ x274), x275), v276) H (weak_cons rfl (weak_cons rfl (weak_cons rfl (weak_cons rfl weak_nil)))) (List.Perm.refl _)
theorem lay_Text.c {k : Nat} {a0 : List Int} {a1 : ByteArray} {p0_ : OV} {r : (List Int)} (h : lay_Text.f k a0 a1 = some r) : Tr Tryz.prog 109 [eq p0_.1, eq (.string a1)] [own (intK .u8) p0_.1 a0] (γ := OV) (fun _ => True) (fun g => eq g.1) (fun g => [own (intK .u8) g.1 r]) := by
  unfold lay_Text.f at h
  refine Tr.body Tryz.func109 (c := _) rfl Tryz.ntmps109 (Nat.le_of_ble_eq_true rfl) fun R0 F => ?_
  replace h := Gets.of h
  have H := h
  clear h
  refine WP.seq ?_
  refine WP.reg [(0, false)] (by kernel_rfl) ?_
  refine as0 rfl rfl ?_
  refine .fin ?_
  refine WP.seq ?_
  refine WP.reg [(0, false), (1, false), (2, false), (3, true), (4, false), (5, true), (6, false)] (by kernel_rfl) ?_
  refine mv0 rfl rfl ?_
  refine mv0 rfl rfl ?_
  refine Dv.lens rfl trivial rfl Tryz.underlying9 ?_
  obtain ⟨t283, h284, H⟩ := Gets.call H
  refine Dv.callx (pre := [own (intK .u8) p0_.1 a0]) (F := [] ++ F) (fun g285 : OV => [own (intK .u8) g285.1 t283] ++ F) rfl trivial cal108 rfl (lay_Number.c h284 (p0_ := p0_)) (perm_ton 1 [0] rfl rfl rfl) rfl nofun (fun g285 _ => ?_)
  refine mv0 rfl rfl ?_
  obtain ⟨g286, H⟩ := Gets.grd H
  refine Dv.appx (jj := 0) (ys := strBs a1) (fun v287 : OV => [own (intK .u8) v287.1 (t283 ++ (strBs a1))] ++ F) rfl trivial rfl rfl rfl src_str Tryz.underlying82 (.inl Tryz.underlying9) inf5 rfl (by decide) g286 rfl nofun (fun v287 => ?_)
  refine as0 rfl rfl ?_
  refine .fin ?_
  obtain rfl := Gets.out H
  exact WP.retL (fun _ _ h => h) rfl v287 trivial (.cons (res_tmp rfl) .nil) rfl (st_seln 1 [0] 0 rfl rfl rfl)
theorem lay_Flag.c {k : Nat} {a0 : List Int} {a1 : Bool} {p0_ : OV} {r : (List Int)} (h : lay_Flag.f k a0 a1 = some r) : Tr Tryz.prog 110 [eq p0_.1, eq (.bool a1)] [own (intK .u8) p0_.1 a0] (γ := OV) (fun _ => True) (fun g => eq g.1) (fun g => [own (intK .u8) g.1 r]) := by
  unfold lay_Flag.f at h
  refine Tr.body Tryz.func110 (c := _) rfl Tryz.ntmps110 (Nat.le_of_ble_eq_true rfl) fun R0 F => ?_
  replace h := Gets.of h
  have H := h
  clear h
  refine WP.seq ?_
  refine WP.reg [(0, false)] (by kernel_rfl) ?_
  refine as0 rfl rfl ?_
  refine .fin ?_
  refine WP.seq ?_
  refine WP.seq ?_
  refine WP.reg [(0, false)] (by kernel_rfl) ?_
  refine mv0 rfl rfl ?_
  refine .fin ?_
  refine WP.cond rfl (fun c288 => ?_) (fun c288 => ?_)
  · replace H := Gets.ct H c288
    refine WP.seq ?_
    refine WP.reg [(0, false), (1, true), (2, false)] (by kernel_rfl) ?_
    refine mv0 rfl rfl ?_
    obtain ⟨t289, h290, H⟩ := Gets.call H
    refine Dv.callx (pre := [own (intK .u8) p0_.1 a0]) (F := [] ++ F) (fun g291 : OV => [own (intK .u8) g291.1 t289] ++ F) rfl trivial cal108 rfl (lay_Number.c h290 (p0_ := p0_)) (perm_ton 1 [0] rfl rfl rfl) rfl nofun (fun g291 _ => ?_)
    refine as0 rfl rfl ?_
    refine .fin ?_
    obtain rfl := Gets.out H
    exact WP.retL (fun _ _ h => h) rfl g291 trivial (.cons (res_tmp rfl) .nil) rfl (st_seln 1 [0] 0 rfl rfl rfl)
  · replace H := Gets.cf H c288
    refine WP.skip ?_
    refine WP.seq ?_
    refine WP.reg [(0, false), (1, true), (2, false)] (by kernel_rfl) ?_
    refine mv0 rfl rfl ?_
    obtain ⟨t292, h293, H⟩ := Gets.call H
    refine Dv.callx (pre := [own (intK .u8) p0_.1 a0]) (F := [] ++ F) (fun g294 : OV => [own (intK .u8) g294.1 t292] ++ F) rfl trivial cal108 rfl (lay_Number.c h293 (p0_ := p0_)) (perm_ton 1 [0] rfl rfl rfl) rfl nofun (fun g294 _ => ?_)
    refine as0 rfl rfl ?_
    refine .fin ?_
    obtain rfl := Gets.out H
    exact WP.retL (fun _ _ h => h) rfl g294 trivial (.cons (res_tmp rfl) .nil) rfl (st_seln 1 [0] 0 rfl rfl rfl)
theorem edu_laid.c {k : Nat} {a0 : Edu} {r : (List Int)} (h : edu_laid.f k a0 = some r) : Tr Tryz.prog 79 [agg (Edu.enc a0)] [] (γ := OV) (fun _ => True) (fun g => eq g.1) (fun g => [own (intK .u8) g.1 r]) := by
  unfold edu_laid.f at h
  refine Tr.body Tryz.func79 (c := _) rfl Tryz.ntmps79 (Nat.le_of_ble_eq_true rfl) fun R0 F => ?_
  replace h := Gets.of h
  have H := h
  clear h
  refine WP.seq ?_
  refine WP.reg [(0, true), (1, false)] (by kernel_rfl) ?_
  refine Dv.box rfl trivial rfl (cells_agg (Edu.K.one _)) nofun (fun b295 => ?_)
  refine as0 rfl rfl ?_
  refine .fin ?_
  refine WP.seq ?_
  refine WP.reg [(0, false), (1, false), (2, true), (3, false)] (by kernel_rfl) ?_
  refine Dv.fab rfl trivial rfl Tryz.underlying32 rfl Tryz.underlying3 c3 (by decide) ?_
  refine Dv.ldb rfl trivial rfl Tryz.underlying3 rfl (mem_at 0 rfl) rfl ?_
  refine Dv.gh (gh_of (st_nil (intK .u8) none)) (fun _ _ => ?_)
  obtain ⟨t296, h297, H⟩ := Gets.call H
  refine Dv.callx (pre := [own (intK .u8) nilV.1 ([] : List Int)]) (F := [blk b295 32 [eq (.int .i64 a0.fKind), eq (.string a0.fRoom), eq (.string a0.fUser), eq (.string a0.fEvent), eq (.string a0.fThread), eq (.bool a0.fPrivate), eq (.bool a0.fOn), eq (.int .i64 a0.fSpan), eq (.int .i64 a0.fState), eq (.int .i64 a0.fTick), eq (.int .i64 a0.fStamp)]] ++ F) (fun g298 : OV => [own (intK .u8) g298.1 t296, blk b295 32 [eq (.int .i64 a0.fKind), eq (.string a0.fRoom), eq (.string a0.fUser), eq (.string a0.fEvent), eq (.string a0.fThread), eq (.bool a0.fPrivate), eq (.bool a0.fOn), eq (.int .i64 a0.fSpan), eq (.int .i64 a0.fState), eq (.int .i64 a0.fTick), eq (.int .i64 a0.fStamp)]] ++ F) rfl trivial cal108 rfl (lay_Number.c h297 (p0_ := nilV)) (perm_ton 2 [0, 1] rfl rfl rfl) rfl nofun (fun g298 _ => ?_)
  refine as0 rfl rfl ?_
  refine .fin ?_
  refine WP.seqn H (fun q327 : (Int × Bool × (List Int)) × OV => q327.1) (fun q327 : (Int × Bool × (List Int)) × OV => [(0, agg (Edu.enc a0)), (1, eq (.pointer (some ⟨b295, 0, none⟩))), (2, eq (.slice none 0 0)), (3, eq q327.2.1), (19, sl strK ([a0.fRoom, a0.fUser, a0.fEvent, a0.fThread] : List ByteArray)), (20, eq (.int .i64 (([a0.fRoom, a0.fUser, a0.fEvent, a0.fThread] : List ByteArray).length : Int))), (21, eq (.int .i64 q327.1.1)), (22, eq (.bool q327.1.2.1))]) (fun q327 : (Int × Bool × (List Int)) × OV => [blk b295 32 [eq (.int .i64 a0.fKind), eq (.string a0.fRoom), eq (.string a0.fUser), eq (.string a0.fEvent), eq (.string a0.fThread), eq (.bool a0.fPrivate), eq (.bool a0.fOn), eq (.int .i64 a0.fSpan), eq (.int .i64 a0.fState), eq (.int .i64 a0.fTick), eq (.int .i64 a0.fStamp)], own (intK .u8) q327.2.1 q327.1.2.2] ++ F) (fun q327 H => ?_) (fun H => ?_)
  · obtain ⟨p299, v300⟩ := q327
    refine WP.seq ?_
    refine WP.reg [(0, false), (1, false), (2, false), (3, true), (4, false)] (by kernel_rfl) ?_
    refine mv0 rfl rfl ?_
    refine Dv.fab rfl trivial rfl Tryz.underlying32 rfl Tryz.underlying4 c4 (by decide) ?_
    refine Dv.ldb rfl trivial rfl Tryz.underlying4 rfl (mem_at 0 rfl) rfl ?_
    obtain ⟨t301, h302, H⟩ := Gets.call H
    refine Dv.callx (pre := [own (intK .u8) v300.1 p299.2.2]) (F := [blk b295 32 [eq (.int .i64 a0.fKind), eq (.string a0.fRoom), eq (.string a0.fUser), eq (.string a0.fEvent), eq (.string a0.fThread), eq (.bool a0.fPrivate), eq (.bool a0.fOn), eq (.int .i64 a0.fSpan), eq (.int .i64 a0.fState), eq (.int .i64 a0.fTick), eq (.int .i64 a0.fStamp)]] ++ F) (fun g303 : OV => [own (intK .u8) g303.1 t301, blk b295 32 [eq (.int .i64 a0.fKind), eq (.string a0.fRoom), eq (.string a0.fUser), eq (.string a0.fEvent), eq (.string a0.fThread), eq (.bool a0.fPrivate), eq (.bool a0.fOn), eq (.int .i64 a0.fSpan), eq (.int .i64 a0.fState), eq (.int .i64 a0.fTick), eq (.int .i64 a0.fStamp)]] ++ F) rfl trivial cal110 rfl (lay_Flag.c h302 (p0_ := v300)) (perm_ton 2 [1, 0] rfl rfl rfl) rfl nofun (fun g303 _ => ?_)
    refine as0 rfl rfl ?_
    refine .fin ?_
    refine WP.seqn H (fun q316 : (Int × Bool × (List Int)) × OV => q316.1) (fun q316 : (Int × Bool × (List Int)) × OV => [(0, agg (Edu.enc a0)), (1, eq (.pointer (some ⟨b295, 0, none⟩))), (2, eq (.slice none 0 0)), (3, eq q316.2.1), (19, sl strK ([a0.fRoom, a0.fUser, a0.fEvent, a0.fThread] : List ByteArray)), (20, eq (.int .i64 (([a0.fRoom, a0.fUser, a0.fEvent, a0.fThread] : List ByteArray).length : Int))), (21, eq (.int .i64 p299.1)), (22, eq (.bool p299.2.1)), (41, sl (intK .i64) ([a0.fSpan, a0.fState, a0.fTick, a0.fStamp] : List Int)), (42, eq (.int .i64 (([a0.fSpan, a0.fState, a0.fTick, a0.fStamp] : List Int).length : Int))), (43, eq (.int .i64 q316.1.1)), (44, eq (.bool q316.1.2.1))]) (fun q316 : (Int × Bool × (List Int)) × OV => [blk b295 32 [eq (.int .i64 a0.fKind), eq (.string a0.fRoom), eq (.string a0.fUser), eq (.string a0.fEvent), eq (.string a0.fThread), eq (.bool a0.fPrivate), eq (.bool a0.fOn), eq (.int .i64 a0.fSpan), eq (.int .i64 a0.fState), eq (.int .i64 a0.fTick), eq (.int .i64 a0.fStamp)], own (intK .u8) q316.2.1 q316.1.2.2] ++ F) (fun q316 H => ?_) (fun H => ?_)
    · obtain ⟨p304, v305⟩ := q316
      refine WP.seq ?_
      refine WP.reg [(0, false), (1, false)] (by kernel_rfl) ?_
      refine mv0 rfl rfl ?_
      refine as0 rfl rfl ?_
      refine .fin ?_
      obtain rfl := Gets.out H
      exact WP.retL (fun _ _ h => h) rfl v305 trivial (.cons (res_tmp rfl) .nil) rfl (st_seln 2 [0, 1] 1 rfl rfl rfl)
    · refine WP.seq ?_
      refine WP.reg [(0, false), (1, false), (2, false), (3, false), (4, false), (5, false), (6, false), (7, false), (8, false), (9, false), (10, false)] (by kernel_rfl) ?_
      refine Dv.fab rfl trivial rfl Tryz.underlying32 rfl Tryz.underlying3 c3 (by decide) ?_
      refine Dv.ldb rfl trivial rfl Tryz.underlying3 rfl (mem_at 1 rfl) rfl ?_
      refine Dv.fab rfl trivial rfl Tryz.underlying32 rfl Tryz.underlying3 c3 (by decide) ?_
      refine Dv.ldb rfl trivial rfl Tryz.underlying3 rfl (mem_at 1 rfl) rfl ?_
      refine Dv.fab rfl trivial rfl Tryz.underlying32 rfl Tryz.underlying3 c3 (by decide) ?_
      refine Dv.ldb rfl trivial rfl Tryz.underlying3 rfl (mem_at 1 rfl) rfl ?_
      refine Dv.fab rfl trivial rfl Tryz.underlying32 rfl Tryz.underlying3 c3 (by decide) ?_
      refine Dv.ldb rfl trivial rfl Tryz.underlying3 rfl (mem_at 1 rfl) rfl ?_
      refine Dv.lit (intK .i64) ([a0.fSpan, a0.fState, a0.fTick, a0.fStamp] : List Int) (css := [[eq (.int .i64 a0.fSpan)], [eq (.int .i64 a0.fState)], [eq (.int .i64 a0.fTick)], [eq (.int .i64 a0.fStamp)]]) rfl trivial Tryz.underlying25 Tryz.underlying3 c3 z3 rfl (by decide) (by decide) rfl ⟨(cells_one (one_eq rfl)), ⟨(cells_one (one_eq rfl)), ⟨(cells_one (one_eq rfl)), ⟨(cells_one (one_eq rfl)), trivial⟩⟩⟩⟩ rfl rfl rfl ?_
      refine Dv.lenl rfl trivial rfl Tryz.underlying25 ?_
      refine mv0 rfl rfl ?_
      refine .fin ?_
      refine WP.block ?_
      refine WP.gh (l' := fun _ => [blk b295 32 [eq (.int .i64 a0.fKind), eq (.string a0.fRoom), eq (.string a0.fUser), eq (.string a0.fEvent), eq (.string a0.fThread), eq (.bool a0.fPrivate), eq (.bool a0.fOn), eq (.int .i64 a0.fSpan), eq (.int .i64 a0.fState), eq (.int .i64 a0.fTick), eq (.int .i64 a0.fStamp)], own (intK .u8) g303.1 t301] ++ F) (gh_of (st_selgn 2 [1, 0] 0 rfl rfl rfl)) (fun _ _ => ?_)
      refine WP.loopg (fun j_ (p315 : Int × (List Int) × OV) => edu_laid.l0 k a0 j_ p315.1 p315.2.1) (0, t301, g303) H (fun p315 => [(0, agg (Edu.enc a0)), (1, eq (.pointer (some ⟨b295, 0, none⟩))), (2, eq (.slice none 0 0)), (3, eq p315.2.2.1), (19, sl strK ([a0.fRoom, a0.fUser, a0.fEvent, a0.fThread] : List ByteArray)), (20, eq (.int .i64 (([a0.fRoom, a0.fUser, a0.fEvent, a0.fThread] : List ByteArray).length : Int))), (21, eq (.int .i64 p299.1)), (22, eq (.bool p299.2.1)), (41, sl (intK .i64) ([a0.fSpan, a0.fState, a0.fTick, a0.fStamp] : List Int)), (42, eq (.int .i64 (([a0.fSpan, a0.fState, a0.fTick, a0.fStamp] : List Int).length : Int))), (43, eq (.int .i64 p315.1))]) (fun p315 => [blk b295 32 [eq (.int .i64 a0.fKind), eq (.string a0.fRoom), eq (.string a0.fUser), eq (.string a0.fEvent), eq (.string a0.fThread), eq (.bool a0.fPrivate), eq (.bool a0.fOn), eq (.int .i64 a0.fSpan), eq (.int .i64 a0.fState), eq (.int .i64 a0.fTick), eq (.int .i64 a0.fStamp)], own (intK .u8) p315.2.2.1 p315.2.1] ++ F) (weak_cons rfl (weak_cons rfl (weak_cons rfl (weak_cons rfl (weak_cons rfl (weak_cons rfl (weak_cons rfl (weak_cons rfl (weak_cons rfl (weak_cons rfl (weak_cons rfl weak_nil))))))))))) (List.Perm.refl _) ?_
      rintro j_ ⟨x306, x307, v308⟩ H
      rcases j_ with _ | j314
      · exact (Gets.no H).elim
      replace H : Gets (edu_laid.l0 k a0 (j314 + 1) x306 x307) _ := H
      rw [edu_laid.l0] at H
      refine WP.seq ?_
      refine WP.reg [(0, false)] (by kernel_rfl) ?_
      refine Dv.bin rfl trivial rfl rfl (fun _ => run_lt) ?_
      refine .fin ?_
      refine WP.seq ?_
      refine WP.cond rfl (fun c309 => ?_) (fun c309 => ?_)
      · replace H := Gets.ct H c309
        refine WP.skip ?_
        refine WP.seq ?_
        refine WP.block ?_
        refine WP.seq ?_
        refine WP.reg [(0, false), (1, false), (2, false)] (by kernel_rfl) ?_
        obtain ⟨g310, H⟩ := Gets.grd H
        refine Dv.ixr rfl trivial rfl rfl Tryz.underlying25 Tryz.underlying3 c3 g310.1 g310.2 ?_
        refine Dv.ldr rfl trivial rfl Tryz.underlying3 rfl rfl ?_
        refine as0 rfl rfl ?_
        refine .fin ?_
        refine WP.reg [(0, false), (1, false), (2, true), (3, false)] (by kernel_rfl) ?_
        refine mv0 rfl rfl ?_
        refine mv0 rfl rfl ?_
        obtain ⟨t311, h312, H⟩ := Gets.call H
        refine Dv.callx (pre := [own (intK .u8) v308.1 x307]) (F := [blk b295 32 [eq (.int .i64 a0.fKind), eq (.string a0.fRoom), eq (.string a0.fUser), eq (.string a0.fEvent), eq (.string a0.fThread), eq (.bool a0.fPrivate), eq (.bool a0.fOn), eq (.int .i64 a0.fSpan), eq (.int .i64 a0.fState), eq (.int .i64 a0.fTick), eq (.int .i64 a0.fStamp)]] ++ F) (fun g313 : OV => [own (intK .u8) g313.1 t311, blk b295 32 [eq (.int .i64 a0.fKind), eq (.string a0.fRoom), eq (.string a0.fUser), eq (.string a0.fEvent), eq (.string a0.fThread), eq (.bool a0.fPrivate), eq (.bool a0.fOn), eq (.int .i64 a0.fSpan), eq (.int .i64 a0.fState), eq (.int .i64 a0.fTick), eq (.int .i64 a0.fStamp)]] ++ F) rfl trivial cal108 rfl (lay_Number.c h312 (p0_ := v308)) (perm_ton 2 [1, 0] rfl rfl rfl) rfl nofun (fun g313 _ => ?_)
        refine as0 rfl rfl ?_
        refine .fin ?_
        refine WP.reg [(0, false), (1, false)] (by kernel_rfl) ?_
        refine Dv.bin rfl trivial rfl rfl (fun _ => run_add) ?_
        refine mv0 rfl rfl ?_
        refine .fin ?_
        refine Dn.gh (l' := fun _ : Unit => [blk b295 32 [eq (.int .i64 a0.fKind), eq (.string a0.fRoom), eq (.string a0.fUser), eq (.string a0.fEvent), eq (.string a0.fThread), eq (.bool a0.fPrivate), eq (.bool a0.fOn), eq (.int .i64 a0.fSpan), eq (.int .i64 a0.fState), eq (.int .i64 a0.fTick), eq (.int .i64 a0.fStamp)], own (intK .u8) g313.1 t311] ++ F) (gh_of (st_selgn 2 [1, 0] 0 rfl rfl rfl)) (fun _ _ => ?_)
        exact Back.mk j314 (w64 (x306 + 1), t311, g313) (Nat.lt_succ_self _) H (weak_cons rfl (weak_cons rfl (weak_cons rfl (weak_cons rfl (weak_cons rfl (weak_cons rfl (weak_cons rfl (weak_cons rfl (weak_cons rfl (weak_cons rfl (weak_cons rfl weak_nil))))))))))) (List.Perm.refl _)
      · replace H := Gets.cf H c309
        refine WP.exit ?_
        replace H := Gets.out H
        exact Jn.mk ((x306, decide (x306 < (([a0.fSpan, a0.fState, a0.fTick, a0.fStamp] : List Int).length : Int)), x307), v308) H (weak_cons rfl (weak_cons rfl (weak_cons rfl (weak_cons rfl (weak_cons rfl (weak_cons rfl (weak_cons rfl (weak_cons rfl (weak_cons rfl (weak_cons rfl (weak_cons rfl (weak_cons rfl weak_nil)))))))))))) (List.Perm.refl _)
  · refine WP.seq ?_
    refine WP.reg [(0, false), (1, false), (2, false), (3, false), (4, false), (5, false), (6, false), (7, false), (8, false), (9, false), (10, false)] (by kernel_rfl) ?_
    refine Dv.fab rfl trivial rfl Tryz.underlying32 rfl Tryz.underlying9 c9 (by decide) ?_
    refine Dv.ldb rfl trivial rfl Tryz.underlying9 rfl (mem_at 1 rfl) rfl ?_
    refine Dv.fab rfl trivial rfl Tryz.underlying32 rfl Tryz.underlying9 c9 (by decide) ?_
    refine Dv.ldb rfl trivial rfl Tryz.underlying9 rfl (mem_at 1 rfl) rfl ?_
    refine Dv.fab rfl trivial rfl Tryz.underlying32 rfl Tryz.underlying9 c9 (by decide) ?_
    refine Dv.ldb rfl trivial rfl Tryz.underlying9 rfl (mem_at 1 rfl) rfl ?_
    refine Dv.fab rfl trivial rfl Tryz.underlying32 rfl Tryz.underlying9 c9 (by decide) ?_
    refine Dv.ldb rfl trivial rfl Tryz.underlying9 rfl (mem_at 1 rfl) rfl ?_
    refine Dv.lit strK ([a0.fRoom, a0.fUser, a0.fEvent, a0.fThread] : List ByteArray) (css := [[eq (.string a0.fRoom)], [eq (.string a0.fUser)], [eq (.string a0.fEvent)], [eq (.string a0.fThread)]]) rfl trivial Tryz.underlying39 Tryz.underlying9 c9 z9 rfl (by decide) (by decide) rfl ⟨(cells_one (one_eq rfl)), ⟨(cells_one (one_eq rfl)), ⟨(cells_one (one_eq rfl)), ⟨(cells_one (one_eq rfl)), trivial⟩⟩⟩⟩ rfl rfl rfl ?_
    refine Dv.lenl rfl trivial rfl Tryz.underlying39 ?_
    refine mv0 rfl rfl ?_
    refine .fin ?_
    refine WP.block ?_
    refine WP.gh (l' := fun _ => [blk b295 32 [eq (.int .i64 a0.fKind), eq (.string a0.fRoom), eq (.string a0.fUser), eq (.string a0.fEvent), eq (.string a0.fThread), eq (.bool a0.fPrivate), eq (.bool a0.fOn), eq (.int .i64 a0.fSpan), eq (.int .i64 a0.fState), eq (.int .i64 a0.fTick), eq (.int .i64 a0.fStamp)], own (intK .u8) g298.1 t296] ++ F) (gh_of (st_selgn 2 [1, 0] 0 rfl rfl rfl)) (fun _ _ => ?_)
    refine WP.loopg (fun j_ (p326 : Int × (List Int) × OV) => edu_laid.l1 k a0 j_ p326.1 p326.2.1) (0, t296, g298) H (fun p326 => [(0, agg (Edu.enc a0)), (1, eq (.pointer (some ⟨b295, 0, none⟩))), (2, eq (.slice none 0 0)), (3, eq p326.2.2.1), (19, sl strK ([a0.fRoom, a0.fUser, a0.fEvent, a0.fThread] : List ByteArray)), (20, eq (.int .i64 (([a0.fRoom, a0.fUser, a0.fEvent, a0.fThread] : List ByteArray).length : Int))), (21, eq (.int .i64 p326.1))]) (fun p326 => [blk b295 32 [eq (.int .i64 a0.fKind), eq (.string a0.fRoom), eq (.string a0.fUser), eq (.string a0.fEvent), eq (.string a0.fThread), eq (.bool a0.fPrivate), eq (.bool a0.fOn), eq (.int .i64 a0.fSpan), eq (.int .i64 a0.fState), eq (.int .i64 a0.fTick), eq (.int .i64 a0.fStamp)], own (intK .u8) p326.2.2.1 p326.2.1] ++ F) (weak_cons rfl (weak_cons rfl (weak_cons rfl (weak_cons rfl (weak_cons rfl (weak_cons rfl (weak_cons rfl weak_nil))))))) (List.Perm.refl _) ?_
    rintro j_ ⟨x317, x318, v319⟩ H
    rcases j_ with _ | j325
    · exact (Gets.no H).elim
    replace H : Gets (edu_laid.l1 k a0 (j325 + 1) x317 x318) _ := H
    rw [edu_laid.l1] at H
    refine WP.seq ?_
    refine WP.reg [(0, false)] (by kernel_rfl) ?_
    refine Dv.bin rfl trivial rfl rfl (fun _ => run_lt) ?_
    refine .fin ?_
    refine WP.seq ?_
    refine WP.cond rfl (fun c320 => ?_) (fun c320 => ?_)
    · replace H := Gets.ct H c320
      refine WP.skip ?_
      refine WP.seq ?_
      refine WP.block ?_
      refine WP.seq ?_
      refine WP.reg [(0, false), (1, false), (2, false)] (by kernel_rfl) ?_
      obtain ⟨g321, H⟩ := Gets.grd H
      refine Dv.ixr rfl trivial rfl rfl Tryz.underlying39 Tryz.underlying9 c9 g321.1 g321.2 ?_
      refine Dv.ldr rfl trivial rfl Tryz.underlying9 rfl rfl ?_
      refine as0 rfl rfl ?_
      refine .fin ?_
      refine WP.reg [(0, false), (1, false), (2, true), (3, false)] (by kernel_rfl) ?_
      refine mv0 rfl rfl ?_
      refine mv0 rfl rfl ?_
      obtain ⟨t322, h323, H⟩ := Gets.call H
      refine Dv.callx (pre := [own (intK .u8) v319.1 x318]) (F := [blk b295 32 [eq (.int .i64 a0.fKind), eq (.string a0.fRoom), eq (.string a0.fUser), eq (.string a0.fEvent), eq (.string a0.fThread), eq (.bool a0.fPrivate), eq (.bool a0.fOn), eq (.int .i64 a0.fSpan), eq (.int .i64 a0.fState), eq (.int .i64 a0.fTick), eq (.int .i64 a0.fStamp)]] ++ F) (fun g324 : OV => [own (intK .u8) g324.1 t322, blk b295 32 [eq (.int .i64 a0.fKind), eq (.string a0.fRoom), eq (.string a0.fUser), eq (.string a0.fEvent), eq (.string a0.fThread), eq (.bool a0.fPrivate), eq (.bool a0.fOn), eq (.int .i64 a0.fSpan), eq (.int .i64 a0.fState), eq (.int .i64 a0.fTick), eq (.int .i64 a0.fStamp)]] ++ F) rfl trivial cal109 rfl (lay_Text.c h323 (p0_ := v319)) (perm_ton 2 [1, 0] rfl rfl rfl) rfl nofun (fun g324 _ => ?_)
      refine as0 rfl rfl ?_
      refine .fin ?_
      refine WP.reg [(0, false), (1, false)] (by kernel_rfl) ?_
      refine Dv.bin rfl trivial rfl rfl (fun _ => run_add) ?_
      refine mv0 rfl rfl ?_
      refine .fin ?_
      refine Dn.gh (l' := fun _ : Unit => [blk b295 32 [eq (.int .i64 a0.fKind), eq (.string a0.fRoom), eq (.string a0.fUser), eq (.string a0.fEvent), eq (.string a0.fThread), eq (.bool a0.fPrivate), eq (.bool a0.fOn), eq (.int .i64 a0.fSpan), eq (.int .i64 a0.fState), eq (.int .i64 a0.fTick), eq (.int .i64 a0.fStamp)], own (intK .u8) g324.1 t322] ++ F) (gh_of (st_selgn 2 [1, 0] 0 rfl rfl rfl)) (fun _ _ => ?_)
      exact Back.mk j325 (w64 (x317 + 1), t322, g324) (Nat.lt_succ_self _) H (weak_cons rfl (weak_cons rfl (weak_cons rfl (weak_cons rfl (weak_cons rfl (weak_cons rfl (weak_cons rfl weak_nil))))))) (List.Perm.refl _)
    · replace H := Gets.cf H c320
      refine WP.exit ?_
      replace H := Gets.out H
      exact Jn.mk ((x317, decide (x317 < (([a0.fRoom, a0.fUser, a0.fEvent, a0.fThread] : List ByteArray).length : Int)), x318), v319) H (weak_cons rfl (weak_cons rfl (weak_cons rfl (weak_cons rfl (weak_cons rfl (weak_cons rfl (weak_cons rfl (weak_cons rfl weak_nil)))))))) (List.Perm.refl _)
theorem edu_Compare.c {k : Nat} {a0 : Edu} {a1 : Edu} {r : Int} (h : edu_Compare.f k a0 a1 = some r) : Pt Tryz.prog 56 [agg (Edu.enc a0), agg (Edu.enc a1)] (eq (.int .i64 r)) := by
  unfold edu_Compare.f at h
  refine (Tr.body Tryz.func56 (c := _) rfl Tryz.ntmps56 (Nat.le_of_ble_eq_true rfl) fun R0 F => ?_).pt
  replace h := Gets.of h
  have H := h
  clear h
  refine WP.seq ?_
  refine WP.reg [(0, true), (1, true), (2, false)] (by kernel_rfl) ?_
  refine Dv.box rfl trivial rfl (cells_agg (Edu.K.one _)) nofun (fun b328 => ?_)
  refine Dv.box rfl trivial rfl (cells_agg (Edu.K.one _)) nofun (fun b329 => ?_)
  refine as0 rfl rfl ?_
  refine .fin ?_
  refine WP.seq ?_
  refine WP.dreg Tryz.checked.mixed [(0, false), (1, false), (2, false), (3, false), (4, false), (5, false), (7, false), (6, true), (8, true), (9, false), (10, false), (11, false), (12, false)] (by kernel_rfl) ?_
  refine Dv.fab rfl trivial rfl Tryz.underlying32 rfl Tryz.underlying3 c3 (by decide) ?_
  refine Dv.ldb rfl trivial rfl Tryz.underlying3 rfl (mem_at 1 rfl) rfl ?_
  refine Dv.fab rfl trivial rfl Tryz.underlying32 rfl Tryz.underlying3 c3 (by decide) ?_
  refine Dv.ldb rfl trivial rfl Tryz.underlying3 rfl (mem_at 0 rfl) rfl ?_
  obtain ⟨t330, h331, H⟩ := Gets.call H
  refine Dv.call rfl trivial cal77 rfl (cmp_Compare_int.c h331) ?_
  refine Dv.ldbs rfl trivial rfl Tryz.underlying32 rfl c32 (mem_at 1 rfl) (Nat.le_of_ble_eq_true rfl) ?_
  refine Dv.ldbs rfl trivial rfl Tryz.underlying32 rfl c32 (mem_at 0 rfl) (Nat.le_of_ble_eq_true rfl) ?_
  obtain ⟨t332, h333, H⟩ := Gets.call H
  refine Dv.callx (pre := []) (F := [blk b329 32 [eq (.int .i64 a1.fKind), eq (.string a1.fRoom), eq (.string a1.fUser), eq (.string a1.fEvent), eq (.string a1.fThread), eq (.bool a1.fPrivate), eq (.bool a1.fOn), eq (.int .i64 a1.fSpan), eq (.int .i64 a1.fState), eq (.int .i64 a1.fTick), eq (.int .i64 a1.fStamp)], blk b328 32 [eq (.int .i64 a0.fKind), eq (.string a0.fRoom), eq (.string a0.fUser), eq (.string a0.fEvent), eq (.string a0.fThread), eq (.bool a0.fPrivate), eq (.bool a0.fOn), eq (.int .i64 a0.fSpan), eq (.int .i64 a0.fState), eq (.int .i64 a0.fTick), eq (.int .i64 a0.fStamp)]] ++ F) (fun g334 : OV => [own (intK .u8) g334.1 t332, blk b329 32 [eq (.int .i64 a1.fKind), eq (.string a1.fRoom), eq (.string a1.fUser), eq (.string a1.fEvent), eq (.string a1.fThread), eq (.bool a1.fPrivate), eq (.bool a1.fOn), eq (.int .i64 a1.fSpan), eq (.int .i64 a1.fState), eq (.int .i64 a1.fTick), eq (.int .i64 a1.fStamp)], blk b328 32 [eq (.int .i64 a0.fKind), eq (.string a0.fRoom), eq (.string a0.fUser), eq (.string a0.fEvent), eq (.string a0.fThread), eq (.bool a0.fPrivate), eq (.bool a0.fOn), eq (.int .i64 a0.fSpan), eq (.int .i64 a0.fState), eq (.int .i64 a0.fTick), eq (.int .i64 a0.fStamp)]] ++ F) rfl trivial cal79 rfl (edu_laid.c h333) (perm_ton 2 [0, 1] rfl rfl rfl) rfl (fun _ => pendc (pend_in (fun _ => (mem_at 1 rfl)) (pend_by (by kernel_rfl) (pend_by (by kernel_rfl) (pend_by (by kernel_rfl) (pend_by (by kernel_rfl) (pend_by (by kernel_rfl) (pend_by (by kernel_rfl) pend_nil)))))))) (fun g334 _ => ?_)
  obtain ⟨t335, h336, H⟩ := Gets.call H
  refine Dv.callx (pre := []) (F := [own (intK .u8) g334.1 t332, blk b329 32 [eq (.int .i64 a1.fKind), eq (.string a1.fRoom), eq (.string a1.fUser), eq (.string a1.fEvent), eq (.string a1.fThread), eq (.bool a1.fPrivate), eq (.bool a1.fOn), eq (.int .i64 a1.fSpan), eq (.int .i64 a1.fState), eq (.int .i64 a1.fTick), eq (.int .i64 a1.fStamp)], blk b328 32 [eq (.int .i64 a0.fKind), eq (.string a0.fRoom), eq (.string a0.fUser), eq (.string a0.fEvent), eq (.string a0.fThread), eq (.bool a0.fPrivate), eq (.bool a0.fOn), eq (.int .i64 a0.fSpan), eq (.int .i64 a0.fState), eq (.int .i64 a0.fTick), eq (.int .i64 a0.fStamp)]] ++ F) (fun g337 : OV => [own (intK .u8) g337.1 t335, own (intK .u8) g334.1 t332, blk b329 32 [eq (.int .i64 a1.fKind), eq (.string a1.fRoom), eq (.string a1.fUser), eq (.string a1.fEvent), eq (.string a1.fThread), eq (.bool a1.fPrivate), eq (.bool a1.fOn), eq (.int .i64 a1.fSpan), eq (.int .i64 a1.fState), eq (.int .i64 a1.fTick), eq (.int .i64 a1.fStamp)], blk b328 32 [eq (.int .i64 a0.fKind), eq (.string a0.fRoom), eq (.string a0.fUser), eq (.string a0.fEvent), eq (.string a0.fThread), eq (.bool a0.fPrivate), eq (.bool a0.fOn), eq (.int .i64 a0.fSpan), eq (.int .i64 a0.fState), eq (.int .i64 a0.fTick), eq (.int .i64 a0.fStamp)]] ++ F) rfl trivial cal79 rfl (edu_laid.c h336) (perm_ton 3 [0, 1, 2] rfl rfl rfl) rfl (fun _ => pendc (pend_bits (by kernel_rfl))) (fun g337 _ => ?_)
  obtain ⟨t338, h339, H⟩ := Gets.call H
  refine Dv.calll (B := [own (intK .u8) g334.1 t332, own (intK .u8) g337.1 t335]) (F := [blk b329 32 [eq (.int .i64 a1.fKind), eq (.string a1.fRoom), eq (.string a1.fUser), eq (.string a1.fEvent), eq (.string a1.fThread), eq (.bool a1.fPrivate), eq (.bool a1.fOn), eq (.int .i64 a1.fSpan), eq (.int .i64 a1.fState), eq (.int .i64 a1.fTick), eq (.int .i64 a1.fStamp)], blk b328 32 [eq (.int .i64 a0.fKind), eq (.string a0.fRoom), eq (.string a0.fUser), eq (.string a0.fEvent), eq (.string a0.fThread), eq (.bool a0.fPrivate), eq (.bool a0.fOn), eq (.int .i64 a0.fSpan), eq (.int .i64 a0.fState), eq (.int .i64 a0.fTick), eq (.int .i64 a0.fStamp)]] ++ F) rfl trivial cal78 rfl (Pt.lend _ (bytes_Compare.c h339) (.cons (lt_own (mem_at 0 rfl)) (.cons (lt_own (mem_at 1 rfl)) .nil)) flat_eq) (perm_ton 4 [1, 0, 2, 3] rfl rfl rfl) ?_
  refine Dv.lit (intK .i64) ([t330, t338] : List Int) (css := [[eq (.int .i64 t330)], [eq (.int .i64 t338)]]) rfl trivial Tryz.underlying25 Tryz.underlying3 c3 z3 rfl (by decide) (by decide) rfl ⟨(cells_one (one_eq rfl)), ⟨(cells_one (one_eq rfl)), trivial⟩⟩ rfl rfl rfl ?_
  obtain ⟨t340, h341, H⟩ := Gets.call H
  refine Dv.call rfl trivial cal76 rfl (cmp_Or_int.c h341) ?_
  refine as0 rfl rfl ?_
  refine .fin ?_
  obtain rfl := Gets.out H
  exact WP.retL (fun _ _ h => h) rfl () trivial (.cons (res_tmp rfl) .nil) rfl (st_seln 4 [0, 1, 2, 3] 4 rfl rfl rfl)
theorem edu_Later.c {k : Nat} {a0 : Edu} {a1 : Edu} {r : Bool} (h : edu_Later.f k a0 a1 = some r) : Pt Tryz.prog 33 [agg (Edu.enc a0), agg (Edu.enc a1)] (eq (.bool r)) := by
  unfold edu_Later.f at h
  refine (Tr.body Tryz.func33 (c := _) rfl Tryz.ntmps33 (Nat.le_of_ble_eq_true rfl) fun R0 F => ?_).pt
  replace h := Gets.of h
  have H := h
  clear h
  refine WP.seq ?_
  refine WP.reg [(0, true), (1, true), (2, false)] (by kernel_rfl) ?_
  refine Dv.box rfl trivial rfl (cells_agg (Edu.K.one _)) nofun (fun b342 => ?_)
  refine Dv.box rfl trivial rfl (cells_agg (Edu.K.one _)) nofun (fun b343 => ?_)
  refine as0 rfl rfl ?_
  refine .fin ?_
  refine WP.seq ?_
  refine WP.dreg Tryz.checked.mixed [(0, false), (1, false), (2, false), (3, false), (4, false), (5, false), (6, false), (7, false), (8, false), (9, false), (10, false), (11, false)] (by kernel_rfl) ?_
  refine Dv.ldbs rfl trivial rfl Tryz.underlying32 rfl c32 (mem_at 1 rfl) (Nat.le_of_ble_eq_true rfl) ?_
  obtain ⟨t344, h345, H⟩ := Gets.call H
  refine Dv.call rfl trivial cal55 rfl (edu_Of.c h345) ?_
  refine Dv.ldbs rfl trivial rfl Tryz.underlying32 rfl c32 (mem_at 0 rfl) (Nat.le_of_ble_eq_true rfl) ?_
  obtain ⟨t346, h347, H⟩ := Gets.call H
  refine Dv.call rfl trivial cal55 rfl (edu_Of.c h347) ?_
  refine Dv.eqs [.int .i64 t344.fKind, .string t344.fRoom, .string t344.fUser, .string t344.fThread, .bool t344.fPrivate] [.int .i64 t346.fKind, .string t346.fRoom, .string t346.fUser, .string t346.fThread, .bool t346.fPrivate] rfl trivial rfl rfl rfl rfl eg88 (fun _ => equal_of 2 (by decide) (fun _ => eqt88 t344 t346)) ?_
  refine mv0 rfl rfl ?_
  cases c348 : decide (t344 = t346)
  · replace H := Gets.cf H c348
    refine sk rfl rfl rfl rfl rfl ?_
    refine sk rfl rfl rfl rfl rfl ?_
    refine sk rfl rfl rfl rfl rfl ?_
    refine sk rfl rfl rfl rfl rfl ?_
    refine Dv.pickF rfl trivial rfl rfl ?_
    refine as0 rfl rfl ?_
    refine .fin ?_
    obtain rfl := Gets.out H
    exact WP.retL (fun _ _ h => h) rfl () trivial (.cons (res_tmp rfl) .nil) rfl (st_seln 2 [0, 1] 2 rfl rfl rfl)
  · replace H := Gets.ct H c348
    refine Dv.ldbs rfl ⟨_, _, rfl, rfl, rfl⟩ rfl Tryz.underlying32 rfl c32 (mem_at 1 rfl) (Nat.le_of_ble_eq_true rfl) ?_
    refine Dv.ldbs rfl ⟨_, _, rfl, rfl, rfl⟩ rfl Tryz.underlying32 rfl c32 (mem_at 0 rfl) (Nat.le_of_ble_eq_true rfl) ?_
    obtain ⟨t349, h350, H⟩ := Gets.call H
    refine Dv.call rfl ⟨_, _, rfl, rfl, rfl⟩ cal56 rfl (edu_Compare.c h350) ?_
    refine Dv.bin rfl ⟨_, _, rfl, rfl, rfl⟩ rfl rfl (fun _ => run_gt) ?_
    refine Dv.pickT rfl trivial rfl rfl ?_
    refine as0 rfl rfl ?_
    refine .fin ?_
    obtain rfl := Gets.out H
    exact WP.retL (fun _ _ h => h) rfl () trivial (.cons (res_tmp rfl) .nil) rfl (st_seln 2 [0, 1] 2 rfl rfl rfl)
theorem slices_Insert_Edu.c {a0 : List Edu} {a1 : Int} {a2 : List Edu} {p0_ : OV} {r : List Edu} (h : slices_Insert_Edu.f a0 a1 a2 = some r) : Tr Tryz.prog 34 [eq p0_.1, eq (.int .i64 a1), sl Edu.K a2] [own Edu.K p0_.1 a0] (γ := OV) (fun _ => True) (fun g => eq g.1) (fun g => [own Edu.K g.1 r]) := by
  unfold slices_Insert_Edu.f at h
  obtain ⟨⟨h0, h1, h2, h3, h4⟩, h5⟩ := (Gets.of h).grd
  obtain rfl := Gets.out h5
  clear h h5
  obtain ⟨i, rfl⟩ := Int.eq_ofNat_of_zero_le h0
  have hi : i ≤ a0.length := by omega
  obtain ⟨v, hv⟩ := p0_
  obtain ⟨ti, i1, i2, i3, i4⟩ := inf32
  refine Tr.body Tryz.func34 (c := _) rfl Tryz.ntmps34 (Nat.le_of_ble_eq_true rfl) fun R0 F => ?_
  refine WP.seq ?_
  refine WP.reg [(0, false)] (by kernel_rfl) ?_
  refine as0 rfl rfl ?_
  refine .fin ?_
  refine WP.seq ?_
  refine WP.reg [(0, false), (1, false), (2, false)] (by kernel_rfl) ?_
  refine mv0 rfl rfl ?_
  refine mv0 rfl rfl ?_
  refine Dv.sloa (Kd := Edu.K) (xs := a0) (v := v) rfl trivial rfl (mem_at 0 rfl) Tryz.underlying22 Tryz.underlying32 c32 (bdE_nat (m := i) rfl) hi ?_
  refine .fin ?_
  refine WP.seq ?_
  refine WP.reg [(0, false), (1, false), (2, false)] (by kernel_rfl) ?_
  refine mv0 rfl rfl ?_
  refine Dv.lenl rfl trivial rfl Tryz.underlying22 ?_
  refine as0 rfl rfl ?_
  refine .fin ?_
  refine WP.seq ?_
  refine WP.seq ?_
  refine WP.reg [(0, false), (1, false)] (by kernel_rfl) ?_
  refine mv0 rfl rfl ?_
  refine Dv.bin rfl trivial rfl rfl (fun _ => run_eq) ?_
  refine .fin ?_
  refine WP.cond rfl (fun c0 => ?_) (fun c0 => ?_)
  · exfalso; have := beq_iff_eq.1 c0; omega
  refine WP.skip ?_
  refine WP.seq ?_
  refine WP.reg [(0, false), (1, false), (2, false)] (by kernel_rfl) ?_
  refine mv0 rfl rfl ?_
  refine Dv.lenw (Kd := Edu.K) (xs := a0) (v := v) rfl trivial rfl (mem_at 0 rfl) Tryz.underlying22 ?_
  refine as0 rfl rfl ?_
  refine .fin ?_
  refine WP.seq ?_
  refine WP.seq ?_
  refine WP.reg [(0, false), (1, false), (2, false)] (by kernel_rfl) ?_
  refine mv0 rfl rfl ?_
  refine mv0 rfl rfl ?_
  refine Dv.bin rfl trivial rfl rfl (fun _ => run_eq) ?_
  refine .fin ?_
  refine WP.cond rfl (fun c1 => ?_) (fun c1 => ?_)
  · have e1 : i = a0.length := by have := beq_iff_eq.1 c1; omega
    subst e1
    refine WP.seq ?_
    refine WP.reg [(0, false), (1, false), (2, true), (3, false)] (by kernel_rfl) ?_
    refine mv0 rfl rfl ?_
    refine mv0 rfl rfl ?_
    refine Dv.appx (Kd := Edu.K) (xs := a0) (v := v) (jj := 0) (ys := a2) (fun v1 : OV => [own Edu.K v1.1 (a0 ++ a2)] ++ F) rfl trivial rfl rfl rfl src_sl Tryz.underlying22 (.inr ⟨_, Tryz.underlying22⟩) inf32 rfl (by decide) (by omega) rfl nofun (fun v1 => ?_)
    refine as0 rfl rfl ?_
    refine .fin ?_
    have e2 : a0.take (a0.length : Int).toNat ++ a2 ++ a0.drop (a0.length : Int).toNat = a0 ++ a2 := by simp
    rw [e2]
    exact WP.retL (fun _ _ h => h) rfl v1 trivial (.cons (res_tmp rfl) .nil) rfl (st_seln 1 [0] 0 rfl rfl rfl)
  refine WP.skip ?_
  have hlt : i < a0.length := by have : ¬ ((i : Int) = (a0.length : Int)) := by simpa using c1
                                 omega
  have hne : a0 ≠ [] := by intro e; subst e; simp at hlt
  rw [Int.toNat_natCast]
  refine WP.gh (gh_of (st_own_blk 0 rfl hne)) (fun g hg => ?_)
  rcases g with ⟨b, off, c, bT, A, C⟩
  change v = .slice (some ⟨b, off, none⟩) a0.length c ∧ a0.length ≤ c ∧ A.length = off ∧ off + c * Edu.K.sz ≤ (A ++ a0.flatMap Edu.K.enc ++ C).length at hg
  obtain ⟨rfl, hc, hA, hlen⟩ := hg
  change WP _ _ _ _ _ _ (blk b bT (A ++ a0.flatMap Edu.K.enc ++ C) :: F)
  have hsz : 0 < Edu.K.sz := by decide
  have ml : ∀ {p q : Nat}, p ≤ q → p * Edu.K.sz ≤ q * Edu.K.sz := fun h => Nat.mul_le_mul_right _ h
  have fl : (A ++ a0.flatMap Edu.K.enc ++ C).length = off + a0.length * Edu.K.sz + C.length := by rw [List.length_append, List.length_append, flatMap_len, hA]
  have fd : ((a0.drop i).flatMap Edu.K.enc).length = (a0.length - i) * Edu.K.sz := by rw [flatMap_len, List.length_drop]
  have fy : (a2.flatMap Edu.K.enc).length = a2.length * Edu.K.sz := flatMap_len _
  have s1 : i * Edu.K.sz + a2.length * Edu.K.sz + (a0.length - i) * Edu.K.sz = (a0.length + a2.length) * Edu.K.sz := by rw [← Nat.add_mul, ← Nat.add_mul]; congr 1; omega
  have s2 : (i + a2.length) * Edu.K.sz = i * Edu.K.sz + a2.length * Edu.K.sz := Nat.add_mul ..
  have zl : (a0.take i ++ a2 ++ a0.drop i).length = a0.length + a2.length := by simp only [List.length_append, List.length_take, List.length_drop]; omega
  refine WP.seq ?_
  refine WP.seq ?_
  refine WP.reg [(0, false), (1, false), (2, false), (3, false), (4, false), (5, false)] (by kernel_rfl) ?_
  refine mv0 rfl rfl ?_
  refine mv0 rfl rfl ?_
  refine Dv.bin rfl trivial rfl rfl (fun _ => run_addn (a := a0.length) (b := a2.length) (by omega)) ?_
  refine mv0 rfl rfl ?_
  refine Dv.capk rfl trivial rfl Tryz.underlying22 ?_
  refine Dv.bin rfl trivial rfl rfl (fun _ => run_gt) ?_
  refine .fin ?_
  refine WP.cond rfl (fun c2 => ?_) (fun c2 => ?_)
  · have hg : c < a0.length + a2.length := by have := of_decide_eq_true c2; omega
    refine WP.seq ?_
    refine WP.reg [(0, false), (1, false), (2, false), (3, false), (4, false), (5, false), (6, false), (7, false), (8, true), (9, false)] (by kernel_rfl) ?_
    refine mv0 rfl rfl ?_
    refine mv0 rfl rfl ?_
    refine Dv.slkm (o' := off) (m' := i) (c' := c) rfl trivial rfl Tryz.underlying22 Tryz.underlying32 c32 bdE_none (bdE_nat (m := i) rfl) (Nat.zero_le _) (by omega) (.inr rfl) (by simp) (by simp) (by simp) ?_
    refine mv0 rfl rfl ?_
    refine mv0 rfl rfl ?_
    refine Dv.bin rfl trivial rfl rfl (fun _ => run_addn (a := a0.length) (b := a2.length) (by omega)) ?_
    refine mv0 rfl rfl ?_
    refine Dv.bin rfl trivial rfl rfl (fun _ => run_subn (a := a0.length + a2.length) (b := i) (by omega) (by omega)) ?_
    refine Dv.apmn (sz := Edu.K.sz) (jj := 0) (k1 := a0.length + a2.length - i) (N := a0.length + a2.length) (Q := (a0.take i).flatMap Edu.K.enc) rfl trivial rfl rfl Tryz.underlying22 Tryz.underlying3 i1 i2 i3 i4 rfl (by decide) (by omega) (by omega) hg (by omega) h4 rfl ?_ (ins_pre (Kd := Edu.K) hi hA) nofun (fun w hw => ?_)
    · rw [fl]; have := ml (Nat.le_of_lt hlt); omega
    rcases w with ⟨b2, nc⟩
    replace hw : a0.length + a2.length ≤ nc := hw
    refine as0 rfl rfl ?_
    refine .fin ?_
    generalize hZ : (Builtin.zeroCells (Value.cells _) ((b2, nc).2 - i)).toList.map eq = Z
    have zz : Z.length = (nc - i) * Edu.K.sz := by rw [← hZ, List.length_map, Array.length_toList, Builtin.zeroCells, Array.size_map, Array.size_range]; rfl
    have ft : ((a0.take i).flatMap Edu.K.enc ++ Z).length = nc * Edu.K.sz := by rw [List.length_append, flatMap_len, List.length_take, Nat.min_eq_left hi, zz, ← Nat.add_mul]; congr 1; omega
    have s3 := ml hw
    have s4 : i * Edu.K.sz + (a0.length - i) * Edu.K.sz = a0.length * Edu.K.sz := by rw [← Nat.add_mul]; congr 1; omega
    refine WP.seq ?_
    refine WP.reg [(0, false), (1, false), (2, false), (3, false), (4, true)] (by kernel_rfl) ?_
    refine mv0 rfl rfl ?_
    refine mv0 rfl rfl ?_
    refine Dv.slkm (o' := i * Edu.K.sz) (m' := a0.length + a2.length - i) (c' := nc - i) rfl trivial rfl Tryz.underlying22 Tryz.underlying32 c32 (bdE_nat (m := i) rfl) bdE_none (by omega) hw (.inl (Nat.lt_of_lt_of_le (by omega) hw)) (Nat.zero_add _) rfl rfl ?_
    refine mv0 rfl rfl ?_
    refine Dv.cpkn (jj := 0) (kk := a2.length) rfl trivial rfl rfl Tryz.underlying22 Tryz.underlying32 c32 srcN_all (by omega) rfl ?_ nofun ?_
    · rw [ft, fy]; omega
    refine .fin ?_
    have l1 : (spl ((a0.take i).flatMap Edu.K.enc ++ Z) (i * Edu.K.sz) (a2.flatMap Edu.K.enc)).length = nc * Edu.K.sz := by rw [spl_len (by rw [ft, fy]; omega), ft]
    refine WP.seq ?_
    refine WP.dreg Tryz.checked.mixed [(0, false), (1, false), (2, false), (3, false), (4, false), (5, false), (6, false), (7, false), (8, true)] (by kernel_rfl) ?_
    refine mv0 rfl rfl ?_
    refine mv0 rfl rfl ?_
    refine mv0 rfl rfl ?_
    refine Dv.bin rfl trivial rfl rfl (fun _ => run_addn (a := i) (b := a2.length) (by omega)) ?_
    refine Dv.slkm (o' := (i + a2.length) * Edu.K.sz) (m' := a0.length - i) (c' := nc - (i + a2.length)) rfl trivial rfl Tryz.underlying22 Tryz.underlying32 c32 (bdE_nat (m := i + a2.length) rfl) bdE_none (by omega) hw (.inl (Nat.lt_of_lt_of_le (by omega) hw)) (Nat.zero_add _) (by omega) rfl ?_
    refine mv0 rfl rfl ?_
    refine mv0 rfl rfl ?_
    refine Dv.slkm (o' := off + i * Edu.K.sz) (m' := a0.length - i) (c' := c - i) rfl trivial rfl Tryz.underlying22 Tryz.underlying32 c32 (bdE_nat (m := i) rfl) bdE_none hi hc (.inl (by omega)) rfl rfl rfl ?_
    refine Dv.cpkn (jj := 0) (kk := a0.length - i) rfl trivial rfl rfl Tryz.underlying22 Tryz.underlying32 c32 (srcN_own (mem_at 1 rfl) hi hA) (Nat.min_self _) rfl ?_ (fun _ => pend_bits (by kernel_rfl)) ?_
    · rw [l1, fd]; omega
    refine .fin ?_
    have l2 : (spl (spl ((a0.take i).flatMap Edu.K.enc ++ Z) (i * Edu.K.sz) (a2.flatMap Edu.K.enc)) ((i + a2.length) * Edu.K.sz) ((a0.drop i).flatMap Edu.K.enc)).length = nc * Edu.K.sz := by rw [spl_len (by rw [l1, fd]; omega), l1]
    refine WP.seq ?_
    refine WP.reg [(0, false), (1, false)] (by kernel_rfl) ?_
    refine mv0 rfl rfl ?_
    refine as0 rfl rfl ?_
    refine .fin ?_
    refine WP.gh (gh_of (st_blk_own (Kd := Edu.K) (off := 0) (n := a0.length + a2.length) (c := nc) (zs := a0.take i ++ a2 ++ a0.drop i) 0 rfl zl hw (by rw [l2]; omega) (ins_new hi))) (fun _ _ => ?_)
    exact WP.retL (fun _ _ h => h) rfl (⟨.slice (some ⟨b2, 0, none⟩) (a0.length + a2.length) nc, rfl⟩ : OV) trivial (.cons (res_tmp rfl) .nil) rfl (st_seln 2 [1, 0] 1 rfl rfl rfl)
  have hg : a0.length + a2.length ≤ c := by have := of_decide_eq_false c2; omega
  refine WP.skip ?_
  have s3 := ml hg
  refine WP.seq ?_
  refine WP.reg [(0, false), (1, false), (2, false), (3, false), (4, false), (5, false)] (by kernel_rfl) ?_
  refine mv0 rfl rfl ?_
  refine mv0 rfl rfl ?_
  refine mv0 rfl rfl ?_
  refine Dv.bin rfl trivial rfl rfl (fun _ => run_addn (a := a0.length) (b := a2.length) (by omega)) ?_
  refine Dv.slkm (o' := off) (m' := a0.length + a2.length) (c' := c) rfl trivial rfl Tryz.underlying22 Tryz.underlying32 c32 bdE_none (bdE_nat (m := a0.length + a2.length) rfl) (Nat.zero_le _) hg (.inr rfl) (by simp) (by simp) (by simp) ?_
  refine as0 rfl rfl ?_
  refine .fin ?_
  refine WP.seq ?_
  refine WP.seq ?_
  refine WP.reg [(0, false), (1, false), (2, false), (3, false), (4, false), (5, false), (6, false), (7, false)] (by kernel_rfl) ?_
  refine mv0 rfl rfl ?_
  refine mv0 rfl rfl ?_
  refine mv0 rfl rfl ?_
  refine mv0 rfl rfl ?_
  refine Dv.bin rfl trivial rfl rfl (fun _ => run_addn (a := i) (b := a2.length) (by omega)) ?_
  refine Dv.slkm (o' := off + (i + a2.length) * Edu.K.sz) (m' := a0.length - i) (c' := c - (i + a2.length)) rfl trivial rfl Tryz.underlying22 Tryz.underlying32 c32 (bdE_nat (m := i + a2.length) rfl) bdE_none (by omega) hg (.inl (Nat.lt_of_lt_of_le (by omega) hg)) rfl (by omega) rfl ?_
  refine Dv.ovl rfl trivial rfl rfl (mem_at 0 rfl) h2 hsz Tryz.func57 (by kernel_rfl) rfl xf57 xg57 rfl Tryz.underlying22 Tryz.underlying32 ?_
  refine Dv.un rfl trivial rfl (fun _ => run_not _) ?_
  refine .fin ?_
  refine WP.cond rfl (fun c3 => ?_) (fun c3 => by cases c3)
  refine WP.seq ?_
  refine WP.dreg Tryz.checked.mixed [(0, false), (1, false), (2, false), (3, false), (4, false), (5, false), (6, false), (7, false), (8, true)] (by kernel_rfl) ?_
  refine mv0 rfl rfl ?_
  refine mv0 rfl rfl ?_
  refine mv0 rfl rfl ?_
  refine Dv.bin rfl trivial rfl rfl (fun _ => run_addn (a := i) (b := a2.length) (by omega)) ?_
  refine Dv.slkm (o' := off + (i + a2.length) * Edu.K.sz) (m' := a0.length - i) (c' := c - (i + a2.length)) rfl trivial rfl Tryz.underlying22 Tryz.underlying32 c32 (bdE_nat (m := i + a2.length) rfl) bdE_none (by omega) hg (.inl (Nat.lt_of_lt_of_le (by omega) hg)) rfl (by omega) rfl ?_
  refine mv0 rfl rfl ?_
  refine mv0 rfl rfl ?_
  refine Dv.slkm (o' := off + i * Edu.K.sz) (m' := a0.length + a2.length - i) (c' := c - i) rfl trivial rfl Tryz.underlying22 Tryz.underlying32 c32 (bdE_nat (m := i) rfl) bdE_none (by omega) hg (.inl (by omega)) rfl rfl rfl ?_
  refine Dv.cpkn (jj := 0) (kk := a0.length - i) rfl trivial rfl rfl Tryz.underlying22 Tryz.underlying32 c32 (srcN_own (mem_at 0 rfl) hi hA) (by omega) rfl ?_ (fun _ => pend_bits (by kernel_rfl)) ?_
  · rw [fd]; omega
  refine .fin ?_
  have l1 : (spl (A ++ a0.flatMap Edu.K.enc ++ C) (off + (i + a2.length) * Edu.K.sz) ((a0.drop i).flatMap Edu.K.enc)).length = (A ++ a0.flatMap Edu.K.enc ++ C).length := spl_len (by rw [fd]; omega)
  refine WP.seq ?_
  refine WP.reg [(0, false), (1, false), (2, false), (3, false), (4, true)] (by kernel_rfl) ?_
  refine mv0 rfl rfl ?_
  refine mv0 rfl rfl ?_
  refine Dv.slkm (o' := off + i * Edu.K.sz) (m' := a0.length + a2.length - i) (c' := c - i) rfl trivial rfl Tryz.underlying22 Tryz.underlying32 c32 (bdE_nat (m := i) rfl) bdE_none (by omega) hg (.inl (by omega)) rfl rfl rfl ?_
  refine mv0 rfl rfl ?_
  refine Dv.cpkn (jj := 0) (kk := a2.length) rfl trivial rfl rfl Tryz.underlying22 Tryz.underlying32 c32 srcN_all (by omega) rfl ?_ nofun ?_
  · rw [l1, fy]; omega
  refine .fin ?_
  refine WP.seq ?_
  refine WP.reg [(0, false), (1, false)] (by kernel_rfl) ?_
  refine mv0 rfl rfl ?_
  refine as0 rfl rfl ?_
  refine .fin ?_
  refine WP.gh (gh_of (st_blk_own (Kd := Edu.K) (off := off) (n := a0.length + a2.length) (c := c) (zs := a0.take i ++ a2 ++ a0.drop i) 0 rfl zl hg (by rw [spl_len (by rw [l1, fy]; omega), l1]; exact hlen) (ins_old hi hA (by omega)))) (fun _ _ => ?_)
  exact WP.retL (fun _ _ h => h) rfl (⟨.slice (some ⟨b, off, none⟩) (a0.length + a2.length) c, rfl⟩ : OV) trivial (.cons (res_tmp rfl) .nil) rfl (st_seln 1 [0] 0 rfl rfl rfl)
theorem heap_Heap_set.c {a0 : HHeap} {a1 : Int} {a2 : HEnt} {p0_ : OV} {r : HHeap} (h : heap_Heap_set.f a0 a1 a2 = some r) : Tr Tryz.prog 59 [eq p0_.1, eq (.int .i64 a1), agg (HEnt.enc a2)] [HHeap.O p0_ a0] (γ := Unit) (fun _ => True) (fun g => tup []) (fun g => [HHeap.O p0_ r]) := by
  unfold heap_Heap_set.f at h
  refine Tr.body Tryz.func59 (c := _) rfl Tryz.ntmps59 (Nat.le_of_ble_eq_true rfl) fun R0 F => ?_
  replace h := Gets.of h
  have H := h
  clear h
  refine WP.seq ?_
  refine WP.reg [(0, true)] (by kernel_rfl) ?_
  refine Dv.box rfl trivial rfl (cells_agg (HEnt.K.one _)) nofun (fun b356 => ?_)
  refine .fin ?_
  refine WP.seq ?_
  refine WP.gh (l' := fun (g357 : Nat × OV × OV) => [blk g357.1 81 [eq g357.2.1.1, eq g357.2.2.1], own HEnt.K g357.2.1.1 a0.fl, mp Value.string (fun x : Int => eq (.int .i64 x)) g357.2.2.1 a0.fat, blk b356 74 [eq (.int .i64 a2.fAt), eq (.string a2.fKey)]] ++ F) (gh_of (HHeap.opn 1 rfl)) (fun g357 h358 => ?_)
  refine WP.dreg Tryz.checked.mixed [(0, false), (1, false), (2, false), (3, false), (4, false), (5, false), (6, false), (7, true)] (by kernel_rfl) ?_
  refine mv0 rfl rfl ?_
  refine Dv.nilpp h358 rfl trivial rfl ?_
  refine Dv.fabp h358 rfl trivial rfl Tryz.underlying81 rfl Tryz.underlying79 c79 (by decide) ?_
  refine Dv.ldb rfl trivial rfl Tryz.underlying79 rfl (mem_at 0 rfl) rfl ?_
  refine mv0 rfl rfl ?_
  refine Dv.ldbs rfl trivial rfl Tryz.underlying74 rfl c74 (mem_at 3 rfl) (Nat.le_of_ble_eq_true rfl) ?_
  obtain ⟨g359, H⟩ := Gets.grd H
  have h360 : a1.toNat < a0.fl.length := idx_lt g359
  refine Dv.ixw rfl trivial rfl (mem_at 1 rfl) rfl Tryz.underlying79 Tryz.underlying74 c74 g359.1 g359.2 ?_
  refine Dv.stw (j := a1.toNat) (f := 0) (jj := 1) a2 rfl trivial rfl rfl (cells_agg (HEnt.K.one _)) Tryz.underlying74 c74 rfl rfl h360 (Nat.le_of_ble_eq_true rfl) rfl (fun _ => pend_bits (by kernel_rfl)) ?_
  refine .fin ?_
  refine WP.dreg Tryz.checked.mixed [(0, false), (1, false), (2, false), (3, false), (4, false), (5, false), (6, false), (7, true)] (by kernel_rfl) ?_
  refine mv0 rfl rfl ?_
  refine Dv.nilpp h358 rfl trivial rfl ?_
  refine Dv.fabp h358 rfl trivial rfl Tryz.underlying81 rfl Tryz.underlying78 c78 (by decide) ?_
  refine Dv.ldb rfl trivial rfl Tryz.underlying78 rfl (mem_at 0 rfl) rfl ?_
  refine Dv.fab rfl trivial rfl Tryz.underlying74 rfl Tryz.underlying9 c9 (by decide) ?_
  refine Dv.ldb rfl trivial rfl Tryz.underlying9 rfl (mem_at 3 rfl) rfl ?_
  refine mv0 rfl rfl ?_
  refine Dv.mup (jj := 2) a1 rfl trivial rfl rfl rfl rfl Tryz.underlying78 (keyOk_str Tryz.underlying9) (fun _ => pend_bits (by kernel_rfl)) ?_
  refine .fin ?_
  refine Dn.gh (l' := fun _ : Unit => [HHeap.O p0_ (⟨a0.fl.set a1.toNat a2, mput a0.fat a2.fKey a1⟩ : HHeap), blk b356 74 [eq (.int .i64 a2.fAt), eq (.string a2.fKey)]] ++ F) (gh_of (HHeap.shut (p := p0_) (m := (⟨a0.fl.set a1.toNat a2, mput a0.fat a2.fKey a1⟩ : HHeap)) (r := [blk b356 74 [eq (.int .i64 a2.fAt), eq (.string a2.fKey)]] ++ F) (g357.1, g357.2.1, g357.2.2) h358 (perm_ton 4 [0, 1, 2, 3] rfl rfl rfl))) (fun _ _ => ?_)
  obtain rfl := Gets.out H
  exact res_end rfl () trivial .nil rfl (st_seln 2 [1, 0] 1 rfl rfl rfl)
theorem heap_ahead.c {k : Nat} {a0 : HEnt} {a1 : HEnt} {r : Int} (h : heap_ahead.f k a0 a1 = some r) : Pt Tryz.prog 81 [agg (HEnt.enc a0), agg (HEnt.enc a1)] (eq (.int .i64 r)) := by
  unfold heap_ahead.f at h
  refine (Tr.body Tryz.func81 (c := _) rfl Tryz.ntmps81 (Nat.le_of_ble_eq_true rfl) fun R0 F => ?_).pt
  replace h := Gets.of h
  have H := h
  clear h
  refine WP.seq ?_
  refine WP.reg [(0, true), (1, true), (2, false)] (by kernel_rfl) ?_
  refine Dv.box rfl trivial rfl (cells_agg (HEnt.K.one _)) nofun (fun b361 => ?_)
  refine Dv.box rfl trivial rfl (cells_agg (HEnt.K.one _)) nofun (fun b362 => ?_)
  refine as0 rfl rfl ?_
  refine .fin ?_
  refine WP.seq ?_
  refine WP.dreg Tryz.checked.mixed [(0, false), (1, false), (2, false), (3, false), (4, false), (5, false), (6, false), (7, false), (8, false), (9, false), (10, false), (11, false), (12, false)] (by kernel_rfl) ?_
  refine Dv.fab rfl trivial rfl Tryz.underlying74 rfl Tryz.underlying3 c3 (by decide) ?_
  refine Dv.ldb rfl trivial rfl Tryz.underlying3 rfl (mem_at 1 rfl) rfl ?_
  refine Dv.fab rfl trivial rfl Tryz.underlying74 rfl Tryz.underlying3 c3 (by decide) ?_
  refine Dv.ldb rfl trivial rfl Tryz.underlying3 rfl (mem_at 0 rfl) rfl ?_
  obtain ⟨t363, h364, H⟩ := Gets.call H
  refine Dv.call rfl trivial cal77 rfl (cmp_Compare_int.c h364) ?_
  refine Dv.fab rfl trivial rfl Tryz.underlying74 rfl Tryz.underlying9 c9 (by decide) ?_
  refine Dv.ldb rfl trivial rfl Tryz.underlying9 rfl (mem_at 1 rfl) rfl ?_
  refine Dv.fab rfl trivial rfl Tryz.underlying74 rfl Tryz.underlying9 c9 (by decide) ?_
  refine Dv.ldb rfl trivial rfl Tryz.underlying9 rfl (mem_at 0 rfl) rfl ?_
  obtain ⟨t365, h366, H⟩ := Gets.call H
  refine Dv.call rfl trivial cal54 rfl (cmp_Compare_string.c h366) ?_
  refine Dv.lit (intK .i64) ([t363, t365] : List Int) (css := [[eq (.int .i64 t363)], [eq (.int .i64 t365)]]) rfl trivial Tryz.underlying25 Tryz.underlying3 c3 z3 rfl (by decide) (by decide) rfl ⟨(cells_one (one_eq rfl)), ⟨(cells_one (one_eq rfl)), trivial⟩⟩ rfl rfl rfl ?_
  obtain ⟨t367, h368, H⟩ := Gets.call H
  refine Dv.call rfl trivial cal76 rfl (cmp_Or_int.c h368) ?_
  refine as0 rfl rfl ?_
  refine .fin ?_
  obtain rfl := Gets.out H
  exact WP.retL (fun _ _ h => h) rfl () trivial (.cons (res_tmp rfl) .nil) rfl (st_seln 2 [0, 1] 2 rfl rfl rfl)
theorem heap_Heap_down.c {k : Nat} {a0 : HHeap} {a1 : Int} {p0_ : OV} {r : HHeap} (h : heap_Heap_down.f k a0 a1 = some r) : Tr Tryz.prog 60 [eq p0_.1, eq (.int .i64 a1)] [HHeap.O p0_ a0] (γ := Unit) (fun _ => True) (fun g => tup []) (fun g => [HHeap.O p0_ r]) := by
  unfold heap_Heap_down.f at h
  refine Tr.body Tryz.func60 (c := _) rfl Tryz.ntmps60 (Nat.le_of_ble_eq_true rfl) fun R0 F => ?_
  replace h := Gets.of h
  have H := h
  clear h
  refine WP.seq ?_
  refine WP.reg [(0, false), (1, false), (2, false), (3, false), (4, false), (5, false), (6, false), (7, true), (8, true)] (by kernel_rfl) ?_
  refine mv0 rfl rfl ?_
  refine Dv.nilA HHeap.nn rfl trivial rfl (mem_at 0 rfl) ?_
  refine Dv.gh (l' := fun (g369 : Nat × OV × OV) => [blk g369.1 81 [eq g369.2.1.1, eq g369.2.2.1], own HEnt.K g369.2.1.1 a0.fl, mp Value.string (fun x : Int => eq (.int .i64 x)) g369.2.2.1 a0.fat] ++ F) (gh_of (HHeap.opn 0 rfl)) (fun g369 h370 => ?_)
  refine Dv.fabp h370 rfl trivial rfl Tryz.underlying81 rfl Tryz.underlying79 c79 (by decide) ?_
  refine Dv.ldb rfl trivial rfl Tryz.underlying79 rfl (mem_at 0 rfl) rfl ?_
  refine mv0 rfl rfl ?_
  obtain ⟨g371, H⟩ := Gets.grd H
  have h372 : a1.toNat < a0.fl.length := idx_lt g371
  refine Dv.ixw rfl trivial rfl (mem_at 1 rfl) rfl Tryz.underlying79 Tryz.underlying74 c74 g371.1 g371.2 ?_
  refine Dv.ldws (j := a1.toNat) (f := 0) rfl trivial rfl (mem_at 1 rfl) h372 Tryz.underlying74 rfl c74 (Nat.le_of_ble_eq_true rfl) ?_
  refine Dv.alloc (z := .agg #[.int .i64 0, .string ⟨#[]⟩]) (qs := [eq (.int .i64 0), eq (.string (⟨#[]⟩ : ByteArray))]) rfl trivial z74 rfl nofun (fun b373 => ?_)
  refine Dv.stx ([blk b373 74 [eq (.int .i64 ((a0.fl.getD a1.toNat default).fAt)), eq (.string ((a0.fl.getD a1.toNat default).fKey))], blk g369.1 81 [eq g369.2.1.1, eq g369.2.2.1], own HEnt.K g369.2.1.1 a0.fl, mp Value.string (fun x : Int => eq (.int .i64 x)) g369.2.2.1 a0.fat] ++ F) rfl trivial rfl rfl (cells_agg (HEnt.K.one _)) Tryz.underlying74 c74 rfl (j := 0) rfl (Nat.le_of_ble_eq_true rfl) rfl nofun ?_
  refine .fin ?_
  refine WP.seqn H id (fun p374 : Int × Int × Bool × Bool × HHeap => [(0, eq p0_.1), (1, eq (.int .i64 p374.1)), (4, eq (.pointer (some ⟨b373, 0, none⟩))), (5, eq (.int .i64 p374.2.1)), (42, eq (.bool p374.2.2.1)), (63, eq (.bool p374.2.2.2.1))]) (fun p374 : Int × Int × Bool × Bool × HHeap => [blk b373 74 [eq (.int .i64 ((a0.fl.getD a1.toNat default).fAt)), eq (.string ((a0.fl.getD a1.toNat default).fKey))], HHeap.O p0_ p374.2.2.2.2] ++ F) (fun p374 H => ?_) (fun H => ?_)
  · refine WP.reg [(0, false), (1, false), (2, false), (3, true)] (by kernel_rfl) ?_
    refine mv0 rfl rfl ?_
    refine mv0 rfl rfl ?_
    refine Dv.ldbs rfl trivial rfl Tryz.underlying74 rfl c74 (mem_at 0 rfl) (Nat.le_of_ble_eq_true rfl) ?_
    obtain ⟨t375, h376, H⟩ := Gets.call H
    refine Dv.callx (pre := [HHeap.O p0_ p374.2.2.2.2]) (F := [blk b373 74 [eq (.int .i64 ((a0.fl.getD a1.toNat default).fAt)), eq (.string ((a0.fl.getD a1.toNat default).fKey))]] ++ F) (fun _ : Unit => [HHeap.O p0_ t375, blk b373 74 [eq (.int .i64 ((a0.fl.getD a1.toNat default).fAt)), eq (.string ((a0.fl.getD a1.toNat default).fKey))]] ++ F) rfl trivial cal59 rfl (heap_Heap_set.c h376 (p0_ := p0_)) (perm_ton 2 [1, 0] rfl rfl rfl) rfl nofun (fun _ _ => ?_)
    refine .fin ?_
    obtain rfl := Gets.out H
    exact res_end rfl () trivial .nil rfl (st_seln 2 [1, 0] 1 rfl rfl rfl)
  · refine WP.block ?_
    refine WP.gh (l' := fun _ : Unit => [HHeap.O p0_ a0, blk b373 74 [eq (.int .i64 ((a0.fl.getD a1.toNat default).fAt)), eq (.string ((a0.fl.getD a1.toNat default).fKey))]] ++ F) (gh_of (HHeap.shut (p := p0_) (m := a0) (r := [blk b373 74 [eq (.int .i64 ((a0.fl.getD a1.toNat default).fAt)), eq (.string ((a0.fl.getD a1.toNat default).fKey))]] ++ F) (g369.1, g369.2.1, g369.2.2) h370 (perm_ton 4 [1, 2, 3, 0] rfl rfl rfl))) (fun _ _ => ?_)
    refine WP.gh (l' := fun _ => [blk b373 74 [eq (.int .i64 ((a0.fl.getD a1.toNat default).fAt)), eq (.string ((a0.fl.getD a1.toNat default).fKey))], HHeap.O p0_ a0] ++ F) (gh_of (st_selgn 2 [1, 0] 0 rfl rfl rfl)) (fun _ _ => ?_)
    refine WP.loopg (fun j_ (p405 : Int × HHeap) => heap_Heap_down.l0 k a0 a1 j_ p405.1 p405.2) (a1, a0) H (fun p405 => [(0, eq p0_.1), (1, eq (.int .i64 p405.1)), (4, eq (.pointer (some ⟨b373, 0, none⟩)))]) (fun p405 => [blk b373 74 [eq (.int .i64 ((a0.fl.getD a1.toNat default).fAt)), eq (.string ((a0.fl.getD a1.toNat default).fKey))], HHeap.O p0_ p405.2] ++ F) (weak_cons rfl (weak_cons rfl (weak_cons rfl weak_nil))) (List.Perm.refl _) ?_
    rintro j_ ⟨x377, x378⟩ H
    rcases j_ with _ | j404
    · exact (Gets.no H).elim
    replace H : Gets (heap_Heap_down.l0 k a0 a1 (j404 + 1) x377 x378) _ := H
    rw [heap_Heap_down.l0] at H
    refine WP.block ?_
    refine WP.seq ?_
    refine WP.reg [(0, false), (1, false), (2, false), (3, false)] (by kernel_rfl) ?_
    refine mv0 rfl rfl ?_
    refine Dv.bin rfl trivial rfl rfl (fun _ => run_mul) ?_
    refine Dv.bin rfl trivial rfl rfl (fun _ => run_add) ?_
    refine as0 rfl rfl ?_
    refine .fin ?_
    refine WP.seqn H id (fun p379 : Int × Bool => [(0, eq p0_.1), (1, eq (.int .i64 x377)), (4, eq (.pointer (some ⟨b373, 0, none⟩))), (5, eq (.int .i64 p379.1)), (42, eq (.bool p379.2))]) (fun p379 : Int × Bool => [blk b373 74 [eq (.int .i64 ((a0.fl.getD a1.toNat default).fAt)), eq (.string ((a0.fl.getD a1.toNat default).fKey))], HHeap.O p0_ x378] ++ F) (fun p379 H => ?_) (fun H => ?_)
    · refine WP.seq ?_
      refine WP.seq ?_
      refine WP.gh (l' := fun (g380 : Nat × OV × OV) => [blk g380.1 81 [eq g380.2.1.1, eq g380.2.2.1], own HEnt.K g380.2.1.1 x378.fl, mp Value.string (fun x : Int => eq (.int .i64 x)) g380.2.2.1 x378.fat, blk b373 74 [eq (.int .i64 ((a0.fl.getD a1.toNat default).fAt)), eq (.string ((a0.fl.getD a1.toNat default).fKey))]] ++ F) (gh_of (HHeap.opn 1 rfl)) (fun g380 h381 => ?_)
      refine WP.dreg Tryz.checked.mixed [(0, false), (1, false), (2, false), (3, false), (4, false), (5, false), (6, false), (7, false), (8, false), (9, false), (10, false), (11, false), (12, false), (13, false), (14, false), (15, false), (16, false), (17, false), (18, false)] (by kernel_rfl) ?_
      refine mv0 rfl rfl ?_
      refine mv0 rfl rfl ?_
      refine Dv.nilpp h381 rfl trivial rfl ?_
      refine Dv.fabp h381 rfl trivial rfl Tryz.underlying81 rfl Tryz.underlying79 c79 (by decide) ?_
      refine Dv.ldb rfl trivial rfl Tryz.underlying79 rfl (mem_at 0 rfl) rfl ?_
      refine Dv.lenw rfl trivial rfl (mem_at 1 rfl) Tryz.underlying79 ?_
      refine Dv.bin rfl trivial rfl rfl (fun _ => run_ge) ?_
      refine mv0 rfl rfl ?_
      cases c382 : decide ((x378.fl.length : Int) ≤ p379.1)
      · replace H := Gets.cf H c382
        refine Dv.ldbs rfl ⟨_, _, rfl, rfl, rfl⟩ rfl Tryz.underlying74 rfl c74 (mem_at 3 rfl) (Nat.le_of_ble_eq_true rfl) ?_
        refine Dv.mv rfl ⟨_, _, rfl, rfl, rfl⟩ rfl ?_
        refine Dv.nilpp h381 rfl ⟨_, _, rfl, rfl, rfl⟩ rfl ?_
        refine Dv.fabp h381 rfl ⟨_, _, rfl, rfl, rfl⟩ rfl Tryz.underlying81 rfl Tryz.underlying79 c79 (by decide) ?_
        refine Dv.ldb rfl ⟨_, _, rfl, rfl, rfl⟩ rfl Tryz.underlying79 rfl (mem_at 0 rfl) rfl ?_
        refine Dv.mv rfl ⟨_, _, rfl, rfl, rfl⟩ rfl ?_
        obtain ⟨g384, H⟩ := Gets.grd H
        have h385 : p379.1.toNat < x378.fl.length := idx_lt g384
        refine Dv.ixw rfl ⟨_, _, rfl, rfl, rfl⟩ rfl (mem_at 1 rfl) rfl Tryz.underlying79 Tryz.underlying74 c74 g384.1 g384.2 ?_
        refine Dv.ldws (j := p379.1.toNat) (f := 0) rfl ⟨_, _, rfl, rfl, rfl⟩ rfl (mem_at 1 rfl) h385 Tryz.underlying74 rfl c74 (Nat.le_of_ble_eq_true rfl) ?_
        obtain ⟨t386, h387, H⟩ := Gets.call H
        refine Dv.call rfl ⟨_, _, rfl, rfl, rfl⟩ cal81 rfl (heap_ahead.c h387) ?_
        refine Dv.bin rfl ⟨_, _, rfl, rfl, rfl⟩ rfl rfl (fun _ => run_lt) ?_
        refine Dv.pickF rfl trivial rfl rfl ?_
        refine .fin ?_
        refine WP.cond rfl (fun c388 => ?_) (fun c388 => ?_)
        · replace H := Gets.ct H c388
          refine WP.exit ?_
          replace H := Gets.out H
          refine Dn.gh (l' := fun _ : Unit => [HHeap.O p0_ x378, blk b373 74 [eq (.int .i64 ((a0.fl.getD a1.toNat default).fAt)), eq (.string ((a0.fl.getD a1.toNat default).fKey))]] ++ F) (gh_of (HHeap.shut (p := p0_) (m := x378) (r := [blk b373 74 [eq (.int .i64 ((a0.fl.getD a1.toNat default).fAt)), eq (.string ((a0.fl.getD a1.toNat default).fKey))]] ++ F) (g380.1, g380.2.1, g380.2.2) h381 (perm_ton 4 [0, 1, 2, 3] rfl rfl rfl))) (fun _ _ => ?_)
          refine Dn.gh (l' := fun _ : Unit => [blk b373 74 [eq (.int .i64 ((a0.fl.getD a1.toNat default).fAt)), eq (.string ((a0.fl.getD a1.toNat default).fKey))], HHeap.O p0_ x378] ++ F) (gh_of (st_selgn 2 [1, 0] 0 rfl rfl rfl)) (fun _ _ => ?_)
          exact Jn.mk (x377, p379.1, p379.2, decide (t386 < 0), x378) H (weak_cons rfl (weak_cons rfl (weak_cons rfl (weak_cons rfl (weak_cons rfl (weak_cons rfl weak_nil)))))) (List.Perm.refl _)
        · replace H := Gets.cf H c388
          refine WP.skip ?_
          refine WP.seq ?_
          refine WP.reg [(0, false), (1, false), (2, false), (3, false), (4, false), (5, false), (6, false), (7, false), (8, false), (9, true)] (by kernel_rfl) ?_
          refine mv0 rfl rfl ?_
          refine mv0 rfl rfl ?_
          refine mv0 rfl rfl ?_
          refine Dv.nilpp h381 rfl trivial rfl ?_
          refine Dv.fabp h381 rfl trivial rfl Tryz.underlying81 rfl Tryz.underlying79 c79 (by decide) ?_
          refine Dv.ldb rfl trivial rfl Tryz.underlying79 rfl (mem_at 0 rfl) rfl ?_
          refine mv0 rfl rfl ?_
          obtain ⟨g389, H⟩ := Gets.grd H
          have h390 : p379.1.toNat < x378.fl.length := idx_lt g389
          refine Dv.ixw rfl trivial rfl (mem_at 1 rfl) rfl Tryz.underlying79 Tryz.underlying74 c74 g389.1 g389.2 ?_
          refine Dv.ldws (j := p379.1.toNat) (f := 0) rfl trivial rfl (mem_at 1 rfl) h390 Tryz.underlying74 rfl c74 (Nat.le_of_ble_eq_true rfl) ?_
          refine Dv.gh (l' := fun _ : Unit => [HHeap.O p0_ x378, blk b373 74 [eq (.int .i64 ((a0.fl.getD a1.toNat default).fAt)), eq (.string ((a0.fl.getD a1.toNat default).fKey))]] ++ F) (gh_of (HHeap.shut (p := p0_) (m := x378) (r := [blk b373 74 [eq (.int .i64 ((a0.fl.getD a1.toNat default).fAt)), eq (.string ((a0.fl.getD a1.toNat default).fKey))]] ++ F) (g380.1, g380.2.1, g380.2.2) h381 (perm_ton 4 [0, 1, 2, 3] rfl rfl rfl))) (fun _ _ => ?_)
          obtain ⟨t391, h392, H⟩ := Gets.call H
          refine Dv.callx (pre := [HHeap.O p0_ x378]) (F := [blk b373 74 [eq (.int .i64 ((a0.fl.getD a1.toNat default).fAt)), eq (.string ((a0.fl.getD a1.toNat default).fKey))]] ++ F) (fun _ : Unit => [HHeap.O p0_ t391, blk b373 74 [eq (.int .i64 ((a0.fl.getD a1.toNat default).fAt)), eq (.string ((a0.fl.getD a1.toNat default).fKey))]] ++ F) rfl trivial cal59 rfl (heap_Heap_set.c h392 (p0_ := p0_)) (perm_ton 2 [0, 1] rfl rfl rfl) rfl nofun (fun _ _ => ?_)
          refine .fin ?_
          refine WP.reg [(0, false), (1, false)] (by kernel_rfl) ?_
          refine mv0 rfl rfl ?_
          refine as0 rfl rfl ?_
          refine .fin ?_
          refine Dn.gh (l' := fun _ : Unit => [blk b373 74 [eq (.int .i64 ((a0.fl.getD a1.toNat default).fAt)), eq (.string ((a0.fl.getD a1.toNat default).fKey))], HHeap.O p0_ t391] ++ F) (gh_of (st_selgn 2 [1, 0] 0 rfl rfl rfl)) (fun _ _ => ?_)
          exact Back.mk j404 (p379.1, t391) (Nat.lt_succ_self _) H (weak_cons rfl (weak_cons rfl (weak_cons rfl weak_nil))) (List.Perm.refl _)
      · replace H := Gets.ct H c382
        refine sk rfl rfl rfl rfl rfl ?_
        refine sk rfl rfl rfl rfl rfl ?_
        refine sk rfl rfl rfl rfl rfl ?_
        refine sk rfl rfl rfl rfl rfl ?_
        refine sk rfl rfl rfl rfl rfl ?_
        refine sk rfl rfl rfl rfl rfl ?_
        refine sk rfl rfl rfl rfl rfl ?_
        refine sk rfl rfl rfl rfl rfl ?_
        refine sk rfl rfl rfl rfl rfl ?_
        refine sk rfl rfl rfl rfl rfl ?_
        refine Dv.pickT rfl trivial rfl rfl ?_
        refine .fin ?_
        refine WP.cond rfl (fun _ => ?_) nofun
        refine WP.exit ?_
        replace H := Gets.out H
        refine Dn.gh (l' := fun _ : Unit => [HHeap.O p0_ x378, blk b373 74 [eq (.int .i64 ((a0.fl.getD a1.toNat default).fAt)), eq (.string ((a0.fl.getD a1.toNat default).fKey))]] ++ F) (gh_of (HHeap.shut (p := p0_) (m := x378) (r := [blk b373 74 [eq (.int .i64 ((a0.fl.getD a1.toNat default).fAt)), eq (.string ((a0.fl.getD a1.toNat default).fKey))]] ++ F) (g380.1, g380.2.1, g380.2.2) h381 (perm_ton 4 [0, 1, 2, 3] rfl rfl rfl))) (fun _ _ => ?_)
        refine Dn.gh (l' := fun _ : Unit => [blk b373 74 [eq (.int .i64 ((a0.fl.getD a1.toNat default).fAt)), eq (.string ((a0.fl.getD a1.toNat default).fKey))], HHeap.O p0_ x378] ++ F) (gh_of (st_selgn 2 [1, 0] 0 rfl rfl rfl)) (fun _ _ => ?_)
        exact Jn.mk (x377, p379.1, p379.2, true, x378) H (weak_cons rfl (weak_cons rfl (weak_cons rfl (weak_cons rfl (weak_cons rfl (weak_cons rfl weak_nil)))))) (List.Perm.refl _)
    · refine WP.seq ?_
      refine WP.gh (l' := fun (g393 : Nat × OV × OV) => [blk g393.1 81 [eq g393.2.1.1, eq g393.2.2.1], own HEnt.K g393.2.1.1 x378.fl, mp Value.string (fun x : Int => eq (.int .i64 x)) g393.2.2.1 x378.fat, blk b373 74 [eq (.int .i64 ((a0.fl.getD a1.toNat default).fAt)), eq (.string ((a0.fl.getD a1.toNat default).fKey))]] ++ F) (gh_of (HHeap.opn 1 rfl)) (fun g393 h394 => ?_)
      refine WP.dreg Tryz.checked.mixed [(0, false), (1, false), (2, false), (3, false), (4, false), (5, false), (6, false), (7, false), (8, false), (9, false), (10, false), (11, false), (12, false), (13, false), (14, false), (15, false), (16, false), (17, false), (18, false), (19, false), (20, false), (21, false), (22, false), (23, false), (24, false), (25, false), (26, false)] (by kernel_rfl) ?_
      refine mv0 rfl rfl ?_
      refine Dv.bin rfl trivial rfl rfl (fun _ => run_add) ?_
      refine mv0 rfl rfl ?_
      refine Dv.nilpp h394 rfl trivial rfl ?_
      refine Dv.fabp h394 rfl trivial rfl Tryz.underlying81 rfl Tryz.underlying79 c79 (by decide) ?_
      refine Dv.ldb rfl trivial rfl Tryz.underlying79 rfl (mem_at 0 rfl) rfl ?_
      refine Dv.lenw rfl trivial rfl (mem_at 1 rfl) Tryz.underlying79 ?_
      refine Dv.bin rfl trivial rfl rfl (fun _ => run_lt) ?_
      refine mv0 rfl rfl ?_
      cases c395 : decide ((w64 ((w64 ((w64 (2 * x377)) + 1)) + 1)) < (x378.fl.length : Int))
      · replace H := Gets.cf H c395
        refine sk rfl rfl rfl rfl rfl ?_
        refine sk rfl rfl rfl rfl rfl ?_
        refine sk rfl rfl rfl rfl rfl ?_
        refine sk rfl rfl rfl rfl rfl ?_
        refine sk rfl rfl rfl rfl rfl ?_
        refine sk rfl rfl rfl rfl rfl ?_
        refine sk rfl rfl rfl rfl rfl ?_
        refine sk rfl rfl rfl rfl rfl ?_
        refine sk rfl rfl rfl rfl rfl ?_
        refine sk rfl rfl rfl rfl rfl ?_
        refine sk rfl rfl rfl rfl rfl ?_
        refine sk rfl rfl rfl rfl rfl ?_
        refine sk rfl rfl rfl rfl rfl ?_
        refine sk rfl rfl rfl rfl rfl ?_
        refine sk rfl rfl rfl rfl rfl ?_
        refine sk rfl rfl rfl rfl rfl ?_
        refine sk rfl rfl rfl rfl rfl ?_
        refine Dv.pickF rfl trivial rfl rfl ?_
        refine .fin ?_
        refine WP.cond rfl nofun (fun _ => ?_)
        refine WP.skip ?_
        replace H := Gets.out H
        refine Dn.gh (l' := fun _ : Unit => [HHeap.O p0_ x378, blk b373 74 [eq (.int .i64 ((a0.fl.getD a1.toNat default).fAt)), eq (.string ((a0.fl.getD a1.toNat default).fKey))]] ++ F) (gh_of (HHeap.shut (p := p0_) (m := x378) (r := [blk b373 74 [eq (.int .i64 ((a0.fl.getD a1.toNat default).fAt)), eq (.string ((a0.fl.getD a1.toNat default).fKey))]] ++ F) (g393.1, g393.2.1, g393.2.2) h394 (perm_ton 4 [0, 1, 2, 3] rfl rfl rfl))) (fun _ _ => ?_)
        refine Dn.gh (l' := fun _ : Unit => [blk b373 74 [eq (.int .i64 ((a0.fl.getD a1.toNat default).fAt)), eq (.string ((a0.fl.getD a1.toNat default).fKey))], HHeap.O p0_ x378] ++ F) (gh_of (st_selgn 2 [1, 0] 0 rfl rfl rfl)) (fun _ _ => ?_)
        exact Jn.mk (w64 ((w64 (2 * x377)) + 1), false) H (weak_cons rfl (weak_cons rfl (weak_cons rfl (weak_cons rfl (weak_cons rfl weak_nil))))) (List.Perm.refl _)
      · replace H := Gets.ct H c395
        refine Dv.mv rfl ⟨_, _, rfl, rfl, rfl⟩ rfl ?_
        refine Dv.nilpp h394 rfl ⟨_, _, rfl, rfl, rfl⟩ rfl ?_
        refine Dv.fabp h394 rfl ⟨_, _, rfl, rfl, rfl⟩ rfl Tryz.underlying81 rfl Tryz.underlying79 c79 (by decide) ?_
        refine Dv.ldb rfl ⟨_, _, rfl, rfl, rfl⟩ rfl Tryz.underlying79 rfl (mem_at 0 rfl) rfl ?_
        refine Dv.mv rfl ⟨_, _, rfl, rfl, rfl⟩ rfl ?_
        refine Dv.bin rfl ⟨_, _, rfl, rfl, rfl⟩ rfl rfl (fun _ => run_add) ?_
        obtain ⟨g396, H⟩ := Gets.grd H
        have h397 : (w64 ((w64 ((w64 (2 * x377)) + 1)) + 1)).toNat < x378.fl.length := idx_lt g396
        refine Dv.ixw rfl ⟨_, _, rfl, rfl, rfl⟩ rfl (mem_at 1 rfl) rfl Tryz.underlying79 Tryz.underlying74 c74 g396.1 g396.2 ?_
        refine Dv.ldws (j := ((w64 ((w64 ((w64 (2 * x377)) + 1)) + 1)).toNat)) (f := 0) rfl ⟨_, _, rfl, rfl, rfl⟩ rfl (mem_at 1 rfl) h397 Tryz.underlying74 rfl c74 (Nat.le_of_ble_eq_true rfl) ?_
        refine Dv.mv rfl ⟨_, _, rfl, rfl, rfl⟩ rfl ?_
        refine Dv.nilpp h394 rfl ⟨_, _, rfl, rfl, rfl⟩ rfl ?_
        refine Dv.fabp h394 rfl ⟨_, _, rfl, rfl, rfl⟩ rfl Tryz.underlying81 rfl Tryz.underlying79 c79 (by decide) ?_
        refine Dv.ldb rfl ⟨_, _, rfl, rfl, rfl⟩ rfl Tryz.underlying79 rfl (mem_at 0 rfl) rfl ?_
        refine Dv.mv rfl ⟨_, _, rfl, rfl, rfl⟩ rfl ?_
        obtain ⟨g398, H⟩ := Gets.grd H
        have h399 : (w64 ((w64 (2 * x377)) + 1)).toNat < x378.fl.length := idx_lt g398
        refine Dv.ixw rfl ⟨_, _, rfl, rfl, rfl⟩ rfl (mem_at 1 rfl) rfl Tryz.underlying79 Tryz.underlying74 c74 g398.1 g398.2 ?_
        refine Dv.ldws (j := ((w64 ((w64 (2 * x377)) + 1)).toNat)) (f := 0) rfl ⟨_, _, rfl, rfl, rfl⟩ rfl (mem_at 1 rfl) h399 Tryz.underlying74 rfl c74 (Nat.le_of_ble_eq_true rfl) ?_
        obtain ⟨t400, h401, H⟩ := Gets.call H
        refine Dv.call rfl ⟨_, _, rfl, rfl, rfl⟩ cal81 rfl (heap_ahead.c h401) ?_
        refine Dv.bin rfl ⟨_, _, rfl, rfl, rfl⟩ rfl rfl (fun _ => run_lt) ?_
        refine Dv.pickT rfl trivial rfl rfl ?_
        refine .fin ?_
        refine WP.cond rfl (fun c402 => ?_) (fun c402 => ?_)
        · replace H := Gets.ct H c402
          refine WP.reg [(0, false), (1, false), (2, false)] (by kernel_rfl) ?_
          refine mv0 rfl rfl ?_
          refine Dv.bin rfl trivial rfl rfl (fun _ => run_add) ?_
          refine as0 rfl rfl ?_
          refine .fin ?_
          replace H := Gets.out H
          refine Dn.gh (l' := fun _ : Unit => [HHeap.O p0_ x378, blk b373 74 [eq (.int .i64 ((a0.fl.getD a1.toNat default).fAt)), eq (.string ((a0.fl.getD a1.toNat default).fKey))]] ++ F) (gh_of (HHeap.shut (p := p0_) (m := x378) (r := [blk b373 74 [eq (.int .i64 ((a0.fl.getD a1.toNat default).fAt)), eq (.string ((a0.fl.getD a1.toNat default).fKey))]] ++ F) (g393.1, g393.2.1, g393.2.2) h394 (perm_ton 4 [0, 1, 2, 3] rfl rfl rfl))) (fun _ _ => ?_)
          refine Dn.gh (l' := fun _ : Unit => [blk b373 74 [eq (.int .i64 ((a0.fl.getD a1.toNat default).fAt)), eq (.string ((a0.fl.getD a1.toNat default).fKey))], HHeap.O p0_ x378] ++ F) (gh_of (st_selgn 2 [1, 0] 0 rfl rfl rfl)) (fun _ _ => ?_)
          exact Jn.mk (w64 ((w64 ((w64 (2 * x377)) + 1)) + 1), decide (t400 < 0)) H (weak_cons rfl (weak_cons rfl (weak_cons rfl (weak_cons rfl (weak_cons rfl weak_nil))))) (List.Perm.refl _)
        · replace H := Gets.cf H c402
          refine WP.skip ?_
          replace H := Gets.out H
          refine Dn.gh (l' := fun _ : Unit => [HHeap.O p0_ x378, blk b373 74 [eq (.int .i64 ((a0.fl.getD a1.toNat default).fAt)), eq (.string ((a0.fl.getD a1.toNat default).fKey))]] ++ F) (gh_of (HHeap.shut (p := p0_) (m := x378) (r := [blk b373 74 [eq (.int .i64 ((a0.fl.getD a1.toNat default).fAt)), eq (.string ((a0.fl.getD a1.toNat default).fKey))]] ++ F) (g393.1, g393.2.1, g393.2.2) h394 (perm_ton 4 [0, 1, 2, 3] rfl rfl rfl))) (fun _ _ => ?_)
          refine Dn.gh (l' := fun _ : Unit => [blk b373 74 [eq (.int .i64 ((a0.fl.getD a1.toNat default).fAt)), eq (.string ((a0.fl.getD a1.toNat default).fKey))], HHeap.O p0_ x378] ++ F) (gh_of (st_selgn 2 [1, 0] 0 rfl rfl rfl)) (fun _ _ => ?_)
          exact Jn.mk (w64 ((w64 (2 * x377)) + 1), decide (t400 < 0)) H (weak_cons rfl (weak_cons rfl (weak_cons rfl (weak_cons rfl (weak_cons rfl weak_nil))))) (List.Perm.refl _)
theorem heap_Heap_up.c {k : Nat} {a0 : HHeap} {a1 : Int} {p0_ : OV} {r : HHeap} (h : heap_Heap_up.f k a0 a1 = some r) : Tr Tryz.prog 61 [eq p0_.1, eq (.int .i64 a1)] [HHeap.O p0_ a0] (γ := Unit) (fun _ => True) (fun g => tup []) (fun g => [HHeap.O p0_ r]) := by
  unfold heap_Heap_up.f at h
  refine Tr.body Tryz.func61 (c := _) rfl Tryz.ntmps61 (Nat.le_of_ble_eq_true rfl) fun R0 F => ?_
  replace h := Gets.of h
  have H := h
  clear h
  refine WP.seq ?_
  refine WP.reg [(0, false), (1, false), (2, false), (3, false), (4, false), (5, false), (6, false), (7, true), (8, true)] (by kernel_rfl) ?_
  refine mv0 rfl rfl ?_
  refine Dv.nilA HHeap.nn rfl trivial rfl (mem_at 0 rfl) ?_
  refine Dv.gh (l' := fun (g406 : Nat × OV × OV) => [blk g406.1 81 [eq g406.2.1.1, eq g406.2.2.1], own HEnt.K g406.2.1.1 a0.fl, mp Value.string (fun x : Int => eq (.int .i64 x)) g406.2.2.1 a0.fat] ++ F) (gh_of (HHeap.opn 0 rfl)) (fun g406 h407 => ?_)
  refine Dv.fabp h407 rfl trivial rfl Tryz.underlying81 rfl Tryz.underlying79 c79 (by decide) ?_
  refine Dv.ldb rfl trivial rfl Tryz.underlying79 rfl (mem_at 0 rfl) rfl ?_
  refine mv0 rfl rfl ?_
  obtain ⟨g408, H⟩ := Gets.grd H
  have h409 : a1.toNat < a0.fl.length := idx_lt g408
  refine Dv.ixw rfl trivial rfl (mem_at 1 rfl) rfl Tryz.underlying79 Tryz.underlying74 c74 g408.1 g408.2 ?_
  refine Dv.ldws (j := a1.toNat) (f := 0) rfl trivial rfl (mem_at 1 rfl) h409 Tryz.underlying74 rfl c74 (Nat.le_of_ble_eq_true rfl) ?_
  refine Dv.alloc (z := .agg #[.int .i64 0, .string ⟨#[]⟩]) (qs := [eq (.int .i64 0), eq (.string (⟨#[]⟩ : ByteArray))]) rfl trivial z74 rfl nofun (fun b410 => ?_)
  refine Dv.stx ([blk b410 74 [eq (.int .i64 ((a0.fl.getD a1.toNat default).fAt)), eq (.string ((a0.fl.getD a1.toNat default).fKey))], blk g406.1 81 [eq g406.2.1.1, eq g406.2.2.1], own HEnt.K g406.2.1.1 a0.fl, mp Value.string (fun x : Int => eq (.int .i64 x)) g406.2.2.1 a0.fat] ++ F) rfl trivial rfl rfl (cells_agg (HEnt.K.one _)) Tryz.underlying74 c74 rfl (j := 0) rfl (Nat.le_of_ble_eq_true rfl) rfl nofun ?_
  refine .fin ?_
  refine WP.seqn H id (fun p411 : Int × Bool × HHeap => [(0, eq p0_.1), (1, eq (.int .i64 p411.1)), (4, eq (.pointer (some ⟨b410, 0, none⟩))), (27, eq (.bool p411.2.1))]) (fun p411 : Int × Bool × HHeap => [blk b410 74 [eq (.int .i64 ((a0.fl.getD a1.toNat default).fAt)), eq (.string ((a0.fl.getD a1.toNat default).fKey))], HHeap.O p0_ p411.2.2] ++ F) (fun p411 H => ?_) (fun H => ?_)
  · refine WP.reg [(0, false), (1, false), (2, false), (3, true)] (by kernel_rfl) ?_
    refine mv0 rfl rfl ?_
    refine mv0 rfl rfl ?_
    refine Dv.ldbs rfl trivial rfl Tryz.underlying74 rfl c74 (mem_at 0 rfl) (Nat.le_of_ble_eq_true rfl) ?_
    obtain ⟨t412, h413, H⟩ := Gets.call H
    refine Dv.callx (pre := [HHeap.O p0_ p411.2.2]) (F := [blk b410 74 [eq (.int .i64 ((a0.fl.getD a1.toNat default).fAt)), eq (.string ((a0.fl.getD a1.toNat default).fKey))]] ++ F) (fun _ : Unit => [HHeap.O p0_ t412, blk b410 74 [eq (.int .i64 ((a0.fl.getD a1.toNat default).fAt)), eq (.string ((a0.fl.getD a1.toNat default).fKey))]] ++ F) rfl trivial cal59 rfl (heap_Heap_set.c h413 (p0_ := p0_)) (perm_ton 2 [1, 0] rfl rfl rfl) rfl nofun (fun _ _ => ?_)
    refine .fin ?_
    obtain rfl := Gets.out H
    exact res_end rfl () trivial .nil rfl (st_seln 2 [1, 0] 1 rfl rfl rfl)
  · refine WP.block ?_
    refine WP.gh (l' := fun _ : Unit => [HHeap.O p0_ a0, blk b410 74 [eq (.int .i64 ((a0.fl.getD a1.toNat default).fAt)), eq (.string ((a0.fl.getD a1.toNat default).fKey))]] ++ F) (gh_of (HHeap.shut (p := p0_) (m := a0) (r := [blk b410 74 [eq (.int .i64 ((a0.fl.getD a1.toNat default).fAt)), eq (.string ((a0.fl.getD a1.toNat default).fKey))]] ++ F) (g406.1, g406.2.1, g406.2.2) h407 (perm_ton 4 [1, 2, 3, 0] rfl rfl rfl))) (fun _ _ => ?_)
    refine WP.gh (l' := fun _ => [blk b410 74 [eq (.int .i64 ((a0.fl.getD a1.toNat default).fAt)), eq (.string ((a0.fl.getD a1.toNat default).fKey))], HHeap.O p0_ a0] ++ F) (gh_of (st_selgn 2 [1, 0] 0 rfl rfl rfl)) (fun _ _ => ?_)
    refine WP.loopg (fun j_ (p430 : Int × HHeap) => heap_Heap_up.l0 k a0 a1 j_ p430.1 p430.2) (a1, a0) H (fun p430 => [(0, eq p0_.1), (1, eq (.int .i64 p430.1)), (4, eq (.pointer (some ⟨b410, 0, none⟩)))]) (fun p430 => [blk b410 74 [eq (.int .i64 ((a0.fl.getD a1.toNat default).fAt)), eq (.string ((a0.fl.getD a1.toNat default).fKey))], HHeap.O p0_ p430.2] ++ F) (weak_cons rfl (weak_cons rfl (weak_cons rfl weak_nil))) (List.Perm.refl _) ?_
    rintro j_ ⟨x414, x415⟩ H
    rcases j_ with _ | j429
    · exact (Gets.no H).elim
    replace H : Gets (heap_Heap_up.l0 k a0 a1 (j429 + 1) x414 x415) _ := H
    rw [heap_Heap_up.l0] at H
    refine WP.seq ?_
    refine WP.seq ?_
    refine WP.gh (l' := fun (g416 : Nat × OV × OV) => [blk g416.1 81 [eq g416.2.1.1, eq g416.2.2.1], own HEnt.K g416.2.1.1 x415.fl, mp Value.string (fun x : Int => eq (.int .i64 x)) g416.2.2.1 x415.fat, blk b410 74 [eq (.int .i64 ((a0.fl.getD a1.toNat default).fAt)), eq (.string ((a0.fl.getD a1.toNat default).fKey))]] ++ F) (gh_of (HHeap.opn 1 rfl)) (fun g416 h417 => ?_)
    refine WP.dreg Tryz.checked.mixed [(0, false), (1, false), (2, false), (3, false), (4, false), (5, false), (6, false), (7, false), (8, false), (9, false), (10, false), (11, false), (12, false), (13, false), (14, false), (15, false)] (by kernel_rfl) ?_
    refine mv0 rfl rfl ?_
    refine Dv.bin rfl trivial rfl rfl (fun _ => run_gt) ?_
    refine mv0 rfl rfl ?_
    cases c418 : decide (0 < x414)
    · replace H := Gets.cf H c418
      refine sk rfl rfl rfl rfl rfl ?_
      refine sk rfl rfl rfl rfl rfl ?_
      refine sk rfl rfl rfl rfl rfl ?_
      refine sk rfl rfl rfl rfl rfl ?_
      refine sk rfl rfl rfl rfl rfl ?_
      refine sk rfl rfl rfl rfl rfl ?_
      refine sk rfl rfl rfl rfl rfl ?_
      refine sk rfl rfl rfl rfl rfl ?_
      refine sk rfl rfl rfl rfl rfl ?_
      refine sk rfl rfl rfl rfl rfl ?_
      refine sk rfl rfl rfl rfl rfl ?_
      refine sk rfl rfl rfl rfl rfl ?_
      refine Dv.pickF rfl trivial rfl rfl ?_
      refine .fin ?_
      refine WP.cond rfl nofun (fun _ => ?_)
      refine WP.exit ?_
      replace H := Gets.out H
      refine Dn.gh (l' := fun _ : Unit => [HHeap.O p0_ x415, blk b410 74 [eq (.int .i64 ((a0.fl.getD a1.toNat default).fAt)), eq (.string ((a0.fl.getD a1.toNat default).fKey))]] ++ F) (gh_of (HHeap.shut (p := p0_) (m := x415) (r := [blk b410 74 [eq (.int .i64 ((a0.fl.getD a1.toNat default).fAt)), eq (.string ((a0.fl.getD a1.toNat default).fKey))]] ++ F) (g416.1, g416.2.1, g416.2.2) h417 (perm_ton 4 [0, 1, 2, 3] rfl rfl rfl))) (fun _ _ => ?_)
      refine Dn.gh (l' := fun _ : Unit => [blk b410 74 [eq (.int .i64 ((a0.fl.getD a1.toNat default).fAt)), eq (.string ((a0.fl.getD a1.toNat default).fKey))], HHeap.O p0_ x415] ++ F) (gh_of (st_selgn 2 [1, 0] 0 rfl rfl rfl)) (fun _ _ => ?_)
      exact Jn.mk (x414, false, x415) H (weak_cons rfl (weak_cons rfl (weak_cons rfl (weak_cons rfl weak_nil)))) (List.Perm.refl _)
    · replace H := Gets.ct H c418
      refine Dv.ldbs rfl ⟨_, _, rfl, rfl, rfl⟩ rfl Tryz.underlying74 rfl c74 (mem_at 3 rfl) (Nat.le_of_ble_eq_true rfl) ?_
      refine Dv.mv rfl ⟨_, _, rfl, rfl, rfl⟩ rfl ?_
      refine Dv.nilpp h417 rfl ⟨_, _, rfl, rfl, rfl⟩ rfl ?_
      refine Dv.fabp h417 rfl ⟨_, _, rfl, rfl, rfl⟩ rfl Tryz.underlying81 rfl Tryz.underlying79 c79 (by decide) ?_
      refine Dv.ldb rfl ⟨_, _, rfl, rfl, rfl⟩ rfl Tryz.underlying79 rfl (mem_at 0 rfl) rfl ?_
      refine Dv.mv rfl ⟨_, _, rfl, rfl, rfl⟩ rfl ?_
      refine Dv.bin rfl ⟨_, _, rfl, rfl, rfl⟩ rfl rfl (fun _ => run_sub) ?_
      refine Dv.bin rfl ⟨_, _, rfl, rfl, rfl⟩ rfl rfl (fun _ => run_quo (by decide)) ?_
      obtain ⟨g419, H⟩ := Gets.grd H
      have h420 : (w64 ((w64 (x414 - 1)).tdiv 2)).toNat < x415.fl.length := idx_lt g419
      refine Dv.ixw rfl ⟨_, _, rfl, rfl, rfl⟩ rfl (mem_at 1 rfl) rfl Tryz.underlying79 Tryz.underlying74 c74 g419.1 g419.2 ?_
      refine Dv.ldws (j := ((w64 ((w64 (x414 - 1)).tdiv 2)).toNat)) (f := 0) rfl ⟨_, _, rfl, rfl, rfl⟩ rfl (mem_at 1 rfl) h420 Tryz.underlying74 rfl c74 (Nat.le_of_ble_eq_true rfl) ?_
      obtain ⟨t421, h422, H⟩ := Gets.call H
      refine Dv.call rfl ⟨_, _, rfl, rfl, rfl⟩ cal81 rfl (heap_ahead.c h422) ?_
      refine Dv.bin rfl ⟨_, _, rfl, rfl, rfl⟩ rfl rfl (fun _ => run_lt) ?_
      refine Dv.pickT rfl trivial rfl rfl ?_
      refine .fin ?_
      refine WP.cond rfl (fun c423 => ?_) (fun c423 => ?_)
      · replace H := Gets.ct H c423
        refine WP.skip ?_
        refine WP.block ?_
        refine WP.seq ?_
        refine WP.reg [(0, false), (1, false), (2, false), (3, false), (4, false), (5, false), (6, false), (7, false), (8, false), (9, false), (10, false), (11, true)] (by kernel_rfl) ?_
        refine mv0 rfl rfl ?_
        refine mv0 rfl rfl ?_
        refine mv0 rfl rfl ?_
        refine Dv.nilpp h417 rfl trivial rfl ?_
        refine Dv.fabp h417 rfl trivial rfl Tryz.underlying81 rfl Tryz.underlying79 c79 (by decide) ?_
        refine Dv.ldb rfl trivial rfl Tryz.underlying79 rfl (mem_at 0 rfl) rfl ?_
        refine mv0 rfl rfl ?_
        refine Dv.bin rfl trivial rfl rfl (fun _ => run_sub) ?_
        refine Dv.bin rfl trivial rfl rfl (fun _ => run_quo (by decide)) ?_
        obtain ⟨g424, H⟩ := Gets.grd H
        have h425 : (w64 ((w64 (x414 - 1)).tdiv 2)).toNat < x415.fl.length := idx_lt g424
        refine Dv.ixw rfl trivial rfl (mem_at 1 rfl) rfl Tryz.underlying79 Tryz.underlying74 c74 g424.1 g424.2 ?_
        refine Dv.ldws (j := ((w64 ((w64 (x414 - 1)).tdiv 2)).toNat)) (f := 0) rfl trivial rfl (mem_at 1 rfl) h425 Tryz.underlying74 rfl c74 (Nat.le_of_ble_eq_true rfl) ?_
        refine Dv.gh (l' := fun _ : Unit => [HHeap.O p0_ x415, blk b410 74 [eq (.int .i64 ((a0.fl.getD a1.toNat default).fAt)), eq (.string ((a0.fl.getD a1.toNat default).fKey))]] ++ F) (gh_of (HHeap.shut (p := p0_) (m := x415) (r := [blk b410 74 [eq (.int .i64 ((a0.fl.getD a1.toNat default).fAt)), eq (.string ((a0.fl.getD a1.toNat default).fKey))]] ++ F) (g416.1, g416.2.1, g416.2.2) h417 (perm_ton 4 [0, 1, 2, 3] rfl rfl rfl))) (fun _ _ => ?_)
        obtain ⟨t426, h427, H⟩ := Gets.call H
        refine Dv.callx (pre := [HHeap.O p0_ x415]) (F := [blk b410 74 [eq (.int .i64 ((a0.fl.getD a1.toNat default).fAt)), eq (.string ((a0.fl.getD a1.toNat default).fKey))]] ++ F) (fun _ : Unit => [HHeap.O p0_ t426, blk b410 74 [eq (.int .i64 ((a0.fl.getD a1.toNat default).fAt)), eq (.string ((a0.fl.getD a1.toNat default).fKey))]] ++ F) rfl trivial cal59 rfl (heap_Heap_set.c h427 (p0_ := p0_)) (perm_ton 2 [0, 1] rfl rfl rfl) rfl nofun (fun _ _ => ?_)
        refine .fin ?_
        refine WP.reg [(0, false), (1, false), (2, false), (3, false)] (by kernel_rfl) ?_
        refine mv0 rfl rfl ?_
        refine Dv.bin rfl trivial rfl rfl (fun _ => run_sub) ?_
        refine Dv.bin rfl trivial rfl rfl (fun _ => run_quo (by decide)) ?_
        refine as0 rfl rfl ?_
        refine .fin ?_
        refine Dn.gh (l' := fun _ : Unit => [blk b410 74 [eq (.int .i64 ((a0.fl.getD a1.toNat default).fAt)), eq (.string ((a0.fl.getD a1.toNat default).fKey))], HHeap.O p0_ t426] ++ F) (gh_of (st_selgn 2 [1, 0] 0 rfl rfl rfl)) (fun _ _ => ?_)
        exact Back.mk j429 (w64 ((w64 (x414 - 1)).tdiv 2), t426) (Nat.lt_succ_self _) H (weak_cons rfl (weak_cons rfl (weak_cons rfl weak_nil))) (List.Perm.refl _)
      · replace H := Gets.cf H c423
        refine WP.exit ?_
        replace H := Gets.out H
        refine Dn.gh (l' := fun _ : Unit => [HHeap.O p0_ x415, blk b410 74 [eq (.int .i64 ((a0.fl.getD a1.toNat default).fAt)), eq (.string ((a0.fl.getD a1.toNat default).fKey))]] ++ F) (gh_of (HHeap.shut (p := p0_) (m := x415) (r := [blk b410 74 [eq (.int .i64 ((a0.fl.getD a1.toNat default).fAt)), eq (.string ((a0.fl.getD a1.toNat default).fKey))]] ++ F) (g416.1, g416.2.1, g416.2.2) h417 (perm_ton 4 [0, 1, 2, 3] rfl rfl rfl))) (fun _ _ => ?_)
        refine Dn.gh (l' := fun _ : Unit => [blk b410 74 [eq (.int .i64 ((a0.fl.getD a1.toNat default).fAt)), eq (.string ((a0.fl.getD a1.toNat default).fKey))], HHeap.O p0_ x415] ++ F) (gh_of (st_selgn 2 [1, 0] 0 rfl rfl rfl)) (fun _ _ => ?_)
        exact Jn.mk (x414, decide (t421 < 0), x415) H (weak_cons rfl (weak_cons rfl (weak_cons rfl (weak_cons rfl weak_nil)))) (List.Perm.refl _)
end Go.Proofs.YtegmafgodoikiaaGreat
