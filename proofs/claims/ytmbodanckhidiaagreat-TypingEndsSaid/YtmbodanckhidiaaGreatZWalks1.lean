/- The walks. -/
import Derived.Test.YtmbodanckhidiaaGreatZMir
import Derived.Test.YtmbodanckhidiaaGreatConQ
import Derived.Eval
import Derived.Test.YtmbodanckhidiaaGreatZShelf
set_option linter.all false
set_option maxRecDepth 10000
set_option maxHeartbeats 20000000
namespace Go.Proofs.YtmbodanckhidiaaGreat
open Go Go.Sp
theorem heap_New.c {r : HHeap} (h : heap_New.f = some r) : Tr Tryz.prog 21 [] [] (γ := OV) (fun _ => True) (fun g => eq g.1) (fun g => [HHeap.O g r]) := by
  unfold heap_New.f at h
  refine Tr.body Tryz.func21 (c := _) rfl Tryz.ntmps21 (Nat.le_of_ble_eq_true rfl) fun R0 F => ?_
  replace h := Gets.of h
  have H := h
  clear h
  refine WP.seq ?_
  refine WP.reg [(0, false)] (by kernel_rfl) ?_
  refine as0 rfl rfl ?_
  refine .fin ?_
  refine WP.seq ?_
  refine WP.reg [(0, true), (1, false), (2, true), (3, false)] (by kernel_rfl) ?_
  refine Dv.mmk Value.string (fun x : Int => eq (.int .i64 x)) rfl trivial nofun (fun v1 => ?_)
  refine Dv.bld (qs := [eq (.slice none 0 0), eq v1.1]) (css := [[eq v1.1]]) rfl trivial Tryz.underlying80 pl80 z80 rfl ⟨(cells_one one_ov), trivial⟩ rfl rfl ?_
  refine Dv.box (qs := [eq (.slice none 0 0), eq v1.1]) rfl trivial rfl (cells_agg (ones_cons (one_eq rfl) (ones_cons one_ov ones_nil))) nofun (fun b2 => ?_)
  refine as0 rfl rfl ?_
  refine .fin ?_
  refine WP.gh (l' := fun _ : Unit => [own HEnt.K nilV.1 ([] : List HEnt), blk b2 80 [eq nilV.1, eq v1.1], mp Value.string (fun x : Int => eq (.int .i64 x)) v1.1 ([] : List (ByteArray × Int))] ++ F) (gh_of (st_nil HEnt.K none)) (fun _ _ => ?_)
  refine WP.gh (l' := fun _ : Unit => [HHeap.O (⟨.pointer (some ⟨b2, 0, none⟩), rfl⟩ : OV) (⟨([] : List HEnt), ([] : List (ByteArray × Int))⟩ : HHeap)] ++ F) (gh_of (HHeap.shut (p := (⟨.pointer (some ⟨b2, 0, none⟩), rfl⟩ : OV)) (m := (⟨([] : List HEnt), ([] : List (ByteArray × Int))⟩ : HHeap)) (r := F) (b2, nilV, v1) rfl (perm_ton 3 [1, 0, 2] rfl rfl rfl))) (fun _ _ => ?_)
  obtain rfl := Gets.out H
  exact WP.retL (fun _ _ h => h) rfl (⟨.pointer (some ⟨b2, 0, none⟩), rfl⟩ : OV) trivial (.cons (res_tmp rfl) .nil) rfl (st_seln 1 [0] 0 rfl rfl rfl)
theorem typing_New.c {r : TTab} (h : typing_New.f = some r) : Tr Tryz.prog 5 [] [] (γ := OV) (fun _ => True) (fun g => eq g.1) (fun g => [TTab.O g r]) := by
  unfold typing_New.f at h
  refine Tr.body Tryz.func5 (c := _) rfl Tryz.ntmps5 (Nat.le_of_ble_eq_true rfl) fun R0 F => ?_
  replace h := Gets.of h
  have H := h
  clear h
  refine WP.seq ?_
  refine WP.reg [(0, false)] (by kernel_rfl) ?_
  refine as0 rfl rfl ?_
  refine .fin ?_
  refine WP.seq ?_
  refine WP.reg [(0, true), (1, false), (2, true), (3, false)] (by kernel_rfl) ?_
  obtain ⟨t3, h4, H⟩ := Gets.call H
  refine Dv.callx (pre := []) (F := [] ++ F) (fun g5 : OV => [HHeap.O g5 t3] ++ F) rfl trivial cal21 rfl (heap_New.c h4) (perm_ton 0 [] rfl rfl rfl) rfl nofun (fun g5 _ => ?_)
  refine Dv.bld (qs := [eq (.slice none 0 0), eq g5.1]) (css := [[eq g5.1]]) rfl trivial Tryz.underlying56 pl56 z56 rfl ⟨(cells_one one_ov), trivial⟩ rfl rfl ?_
  refine Dv.box (qs := [eq (.slice none 0 0), eq g5.1]) rfl trivial rfl (cells_agg (ones_cons (one_eq rfl) (ones_cons one_ov ones_nil))) nofun (fun b6 => ?_)
  refine as0 rfl rfl ?_
  refine .fin ?_
  refine WP.gh (l' := fun _ : Unit => [own Edu.K nilV.1 ([] : List Edu), blk b6 56 [eq nilV.1, eq g5.1], HHeap.O g5 t3] ++ F) (gh_of (st_nil Edu.K none)) (fun _ _ => ?_)
  refine WP.gh (l' := fun _ : Unit => [TTab.O (⟨.pointer (some ⟨b6, 0, none⟩), rfl⟩ : OV) (⟨([] : List Edu), t3⟩ : TTab)] ++ F) (gh_of (TTab.shut (p := (⟨.pointer (some ⟨b6, 0, none⟩), rfl⟩ : OV)) (m := (⟨([] : List Edu), t3⟩ : TTab)) (r := F) (b6, nilV, g5) rfl (perm_ton 3 [1, 0, 2] rfl rfl rfl))) (fun _ _ => ?_)
  obtain rfl := Gets.out H
  exact WP.retL (fun _ _ h => h) rfl (⟨.pointer (some ⟨b6, 0, none⟩), rfl⟩ : OV) trivial (.cons (res_tmp rfl) .nil) rfl (st_seln 1 [0] 0 rfl rfl rfl)
theorem concourseref01_Around.c {a0 : Int} {a1 : Int} {r : Int} (h : concourseref01_Around.f a0 a1 = some r) : Pt Tryz.prog 40 [eq (.int .i64 a0), eq (.int .i64 a1)] (eq (.int .i64 r)) := by
  unfold concourseref01_Around.f at h
  refine (Tr.body Tryz.func40 (c := _) rfl Tryz.ntmps40 (Nat.le_of_ble_eq_true rfl) fun R0 F => ?_).pt
  replace h := Gets.of h
  have H := h
  clear h
  refine WP.seq ?_
  refine WP.reg [(0, false)] (by kernel_rfl) ?_
  refine as0 rfl rfl ?_
  refine .fin ?_
  refine WP.seq ?_
  refine WP.seq ?_
  refine WP.reg [(0, false), (1, false)] (by kernel_rfl) ?_
  refine mv0 rfl rfl ?_
  refine Dv.bin rfl trivial rfl rfl (fun _ => run_lt) ?_
  refine .fin ?_
  refine WP.cond rfl (fun c7 => ?_) (fun c7 => ?_)
  · replace H := Gets.ct H c7
    refine WP.reg [(0, false), (1, false), (2, false), (3, false)] (by kernel_rfl) ?_
    refine mv0 rfl rfl ?_
    refine Dv.bin rfl trivial rfl rfl (fun _ => run_add) ?_
    refine Dv.un rfl trivial rfl (fun _ => run_neg _ _) ?_
    refine as0 rfl rfl ?_
    refine .fin ?_
    refine WP.seq ?_
    refine WP.reg [(0, false), (1, false), (2, false), (3, false)] (by kernel_rfl) ?_
    refine mv0 rfl rfl ?_
    refine mv0 rfl rfl ?_
    obtain ⟨g8, H⟩ := Gets.grd H
    refine Dv.bin rfl trivial rfl rfl (fun _ => run_rem g8) ?_
    refine as0 rfl rfl ?_
    refine .fin ?_
    obtain rfl := Gets.out H
    exact WP.retL (fun _ _ h => h) rfl () trivial (.cons (res_tmp rfl) .nil) rfl (st_seln 0 [] 0 rfl rfl rfl)
  · replace H := Gets.cf H c7
    refine WP.skip ?_
    refine WP.seq ?_
    refine WP.reg [(0, false), (1, false), (2, false), (3, false)] (by kernel_rfl) ?_
    refine mv0 rfl rfl ?_
    refine mv0 rfl rfl ?_
    obtain ⟨g9, H⟩ := Gets.grd H
    refine Dv.bin rfl trivial rfl rfl (fun _ => run_rem g9) ?_
    refine as0 rfl rfl ?_
    refine .fin ?_
    obtain rfl := Gets.out H
    exact WP.retL (fun _ _ h => h) rfl () trivial (.cons (res_tmp rfl) .nil) rfl (st_seln 0 [] 0 rfl rfl rfl)
theorem concourseref01_RoomOf.c {a0 : Int} {r : ByteArray} (h : concourseref01_RoomOf.f a0 = some r) : Pt Tryz.prog 20 [eq (.int .i64 a0)] (eq (.string r)) := by
  unfold concourseref01_RoomOf.f at h
  refine (Tr.body Tryz.func20 (c := _) rfl Tryz.ntmps20 (Nat.le_of_ble_eq_true rfl) fun R0 F => ?_).pt
  replace h := Gets.of h
  have H := h
  clear h
  refine WP.seq ?_
  refine WP.reg [(0, false)] (by kernel_rfl) ?_
  refine as0 rfl rfl ?_
  refine .fin ?_
  refine WP.seq ?_
  refine WP.reg [(0, false), (1, false), (2, false), (3, false), (4, false), (5, false)] (by kernel_rfl) ?_
  refine Dv.lit strK ([(⟨#[33, 114, 58, 115, 49]⟩ : ByteArray), (⟨#[33, 113, 58, 115, 50]⟩ : ByteArray)] : List ByteArray) (css := [[eq (.string (⟨#[33, 114, 58, 115, 49]⟩ : ByteArray))], [eq (.string (⟨#[33, 113, 58, 115, 50]⟩ : ByteArray))]]) rfl trivial Tryz.underlying37 Tryz.underlying9 c9 z9 rfl (by decide) (by decide) rfl ⟨(cells_one (one_eq rfl)), ⟨(cells_one (one_eq rfl)), trivial⟩⟩ rfl rfl rfl ?_
  refine mv0 rfl rfl ?_
  obtain ⟨t10, h11, H⟩ := Gets.call H
  refine Dv.call rfl trivial cal40 rfl (concourseref01_Around.c h11) ?_
  obtain ⟨g12, H⟩ := Gets.grd H
  refine Dv.ixr rfl trivial rfl rfl Tryz.underlying37 Tryz.underlying9 c9 g12.1 g12.2 ?_
  refine Dv.ldr rfl trivial rfl Tryz.underlying9 rfl rfl ?_
  refine as0 rfl rfl ?_
  refine .fin ?_
  obtain rfl := Gets.out H
  exact WP.retL (fun _ _ h => h) rfl () trivial (.cons (res_tmp rfl) .nil) rfl (st_seln 0 [] 0 rfl rfl rfl)
theorem concourseref01_ServerOf.c {a0 : Int} {r : ByteArray} (h : concourseref01_ServerOf.f a0 = some r) : Pt Tryz.prog 61 [eq (.int .i64 a0)] (eq (.string r)) := by
  unfold concourseref01_ServerOf.f at h
  refine (Tr.body Tryz.func61 (c := _) rfl Tryz.ntmps61 (Nat.le_of_ble_eq_true rfl) fun R0 F => ?_).pt
  replace h := Gets.of h
  have H := h
  clear h
  refine WP.seq ?_
  refine WP.reg [(0, false)] (by kernel_rfl) ?_
  refine as0 rfl rfl ?_
  refine .fin ?_
  refine WP.seq ?_
  refine WP.reg [(0, false), (1, false), (2, false), (3, false), (4, false), (5, false)] (by kernel_rfl) ?_
  refine Dv.lit strK ([(⟨#[115, 49]⟩ : ByteArray), (⟨#[115, 50]⟩ : ByteArray), (⟨#[115, 51]⟩ : ByteArray)] : List ByteArray) (css := [[eq (.string (⟨#[115, 49]⟩ : ByteArray))], [eq (.string (⟨#[115, 50]⟩ : ByteArray))], [eq (.string (⟨#[115, 51]⟩ : ByteArray))]]) rfl trivial Tryz.underlying37 Tryz.underlying9 c9 z9 rfl (by decide) (by decide) rfl ⟨(cells_one (one_eq rfl)), ⟨(cells_one (one_eq rfl)), ⟨(cells_one (one_eq rfl)), trivial⟩⟩⟩ rfl rfl rfl ?_
  refine mv0 rfl rfl ?_
  obtain ⟨t13, h14, H⟩ := Gets.call H
  refine Dv.call rfl trivial cal40 rfl (concourseref01_Around.c h14) ?_
  obtain ⟨g15, H⟩ := Gets.grd H
  refine Dv.ixr rfl trivial rfl rfl Tryz.underlying37 Tryz.underlying9 c9 g15.1 g15.2 ?_
  refine Dv.ldr rfl trivial rfl Tryz.underlying9 rfl rfl ?_
  refine as0 rfl rfl ?_
  refine .fin ?_
  obtain rfl := Gets.out H
  exact WP.retL (fun _ _ h => h) rfl () trivial (.cons (res_tmp rfl) .nil) rfl (st_seln 0 [] 0 rfl rfl rfl)
theorem concourseref01_UserOf.c {a0 : Int} {r : ByteArray} (h : concourseref01_UserOf.f a0 = some r) : Pt Tryz.prog 41 [eq (.int .i64 a0)] (eq (.string r)) := by
  unfold concourseref01_UserOf.f at h
  refine (Tr.body Tryz.func41 (c := _) rfl Tryz.ntmps41 (Nat.le_of_ble_eq_true rfl) fun R0 F => ?_).pt
  replace h := Gets.of h
  have H := h
  clear h
  refine WP.seq ?_
  refine WP.reg [(0, false)] (by kernel_rfl) ?_
  refine as0 rfl rfl ?_
  refine .fin ?_
  refine WP.seq ?_
  refine WP.reg [(0, false), (1, false), (2, false)] (by kernel_rfl) ?_
  refine mv0 rfl rfl ?_
  obtain ⟨t16, h17, H⟩ := Gets.call H
  refine Dv.call rfl trivial cal40 rfl (concourseref01_Around.c h17) ?_
  refine as0 rfl rfl ?_
  refine .fin ?_
  refine WP.seq ?_
  refine WP.dreg Tryz.checked.mixed [(0, false), (1, false), (2, false), (3, false), (4, false), (5, false), (6, false), (7, false), (8, false), (9, false)] (by kernel_rfl) ?_
  refine Dv.lit strK ([(⟨#[64, 97, 58]⟩ : ByteArray), (⟨#[64, 98, 58]⟩ : ByteArray), (⟨#[64, 99, 58]⟩ : ByteArray)] : List ByteArray) (css := [[eq (.string (⟨#[64, 97, 58]⟩ : ByteArray))], [eq (.string (⟨#[64, 98, 58]⟩ : ByteArray))], [eq (.string (⟨#[64, 99, 58]⟩ : ByteArray))]]) rfl trivial Tryz.underlying37 Tryz.underlying9 c9 z9 rfl (by decide) (by decide) rfl ⟨(cells_one (one_eq rfl)), ⟨(cells_one (one_eq rfl)), ⟨(cells_one (one_eq rfl)), trivial⟩⟩⟩ rfl rfl rfl ?_
  refine mv0 rfl rfl ?_
  refine Dv.bin rfl trivial rfl rfl (fun _ => run_quo (by decide)) ?_
  obtain ⟨g18, H⟩ := Gets.grd H
  refine Dv.ixr rfl trivial rfl rfl Tryz.underlying37 Tryz.underlying9 c9 g18.1 g18.2 ?_
  refine Dv.ldr rfl trivial rfl Tryz.underlying9 rfl rfl ?_
  refine mv0 rfl rfl ?_
  refine Dv.bin rfl trivial rfl rfl (fun _ => run_rem (by decide)) ?_
  obtain ⟨t19, h20, H⟩ := Gets.call H
  refine Dv.call rfl trivial cal61 rfl (concourseref01_ServerOf.c h20) ?_
  obtain ⟨g21, H⟩ := Gets.grd H
  refine Dv.bin rfl trivial rfl rfl (fun _ => run_cat g21) ?_
  refine as0 rfl rfl ?_
  refine .fin ?_
  obtain rfl := Gets.out H
  exact WP.retL (fun _ _ h => h) rfl () trivial (.cons (res_tmp rfl) .nil) rfl (st_seln 0 [] 0 rfl rfl rfl)
theorem concourseref01_Decimal.c : ∀ (k : Nat) {a0 : Int} {r : ByteArray} (h : concourseref01_Decimal.f k a0 = some r), Pt Tryz.prog 62 [eq (.int .i64 a0)] (eq (.string r))
  | 0, _, _, h => by cases h
  | k + 1, a0, r, h => by
    rw [concourseref01_Decimal.f] at h
    refine (Tr.body Tryz.func62 (c := _) rfl Tryz.ntmps62 (Nat.le_of_ble_eq_true rfl) fun R0 F => ?_).pt
    replace h := Gets.of h
    have H := h
    clear h
    refine WP.seq ?_
    refine WP.reg [(0, false)] (by kernel_rfl) ?_
    refine as0 rfl rfl ?_
    refine .fin ?_
    refine WP.seq ?_
    refine WP.reg [(0, false), (1, false), (2, false)] (by kernel_rfl) ?_
    refine mv0 rfl rfl ?_
    refine Dv.bin rfl trivial rfl rfl (fun _ => run_rem (by decide)) ?_
    refine as0 rfl rfl ?_
    refine .fin ?_
    refine WP.seqn H id (fun p22 : Int => [(0, eq (.int .i64 a0)), (2, eq (.string (⟨#[]⟩ : ByteArray))), (3, eq (.int .i64 p22)), (8, eq (.bool (decide ((a0.tmod 10) < 0))))]) (fun p22 : Int => [] ++ F) (fun p22 H => ?_) (fun H => ?_)
    · refine WP.seq ?_
      refine WP.reg [(0, false), (1, false), (2, false), (3, false), (4, false), (5, false)] (by kernel_rfl) ?_
      refine mv0 rfl rfl ?_
      refine Dv.bin rfl trivial rfl rfl (fun _ => run_add) ?_
      refine Dv.cvi rfl trivial rfl Tryz.underlying3 Tryz.underlying5 ?_
      refine Dv.lit (intK .u8) ([IntKind.u8.wrap (w64 (48 + p22))] : List Int) (css := [[eq (.int .u8 (IntKind.u8.wrap (w64 (48 + p22))))]]) rfl trivial Tryz.underlying81 Tryz.underlying5 c5 z5 rfl (by decide) (by decide) rfl ⟨(cells_one (one_eq rfl)), trivial⟩ rfl rfl rfl ?_
      refine Dv.cvbs rfl trivial rfl Tryz.underlying81 Tryz.underlying5 Tryz.underlying9 ?_
      refine as0 rfl rfl ?_
      refine .fin ?_
      refine WP.seq ?_
      refine WP.seq ?_
      refine WP.reg [(0, false), (1, false), (2, false), (3, false), (4, false), (5, false)] (by kernel_rfl) ?_
      refine mv0 rfl rfl ?_
      refine Dv.bin rfl trivial rfl rfl (fun _ => run_gt) ?_
      refine mv0 rfl rfl ?_
      cases c23 : decide ((-10) < a0)
      · replace H := Gets.cf H c23
        refine sk rfl rfl rfl rfl rfl ?_
        refine sk rfl rfl rfl rfl rfl ?_
        refine Dv.pickF rfl trivial rfl rfl ?_
        refine .fin ?_
        refine WP.cond rfl nofun (fun _ => ?_)
        refine WP.skip ?_
        refine WP.seq ?_
        refine WP.reg [(0, false), (1, false), (2, false), (3, false), (4, false), (5, false)] (by kernel_rfl) ?_
        refine mv0 rfl rfl ?_
        refine Dv.bin rfl trivial rfl rfl (fun _ => run_quo (by decide)) ?_
        obtain ⟨t31, h32, H⟩ := Gets.call H
        refine Dv.call rfl trivial cal62 rfl (concourseref01_Decimal.c k h32) ?_
        refine mv0 rfl rfl ?_
        obtain ⟨g33, H⟩ := Gets.grd H
        refine Dv.bin rfl trivial rfl rfl (fun _ => run_cat g33) ?_
        refine as0 rfl rfl ?_
        refine .fin ?_
        obtain rfl := Gets.out H
        exact WP.retL (fun _ _ h => h) rfl () trivial (.cons (res_tmp rfl) .nil) rfl (st_seln 0 [] 0 rfl rfl rfl)
      · replace H := Gets.ct H c23
        refine Dv.mv rfl ⟨_, _, rfl, rfl, rfl⟩ rfl ?_
        refine Dv.bin rfl ⟨_, _, rfl, rfl, rfl⟩ rfl rfl (fun _ => run_lt) ?_
        refine Dv.pickT rfl trivial rfl rfl ?_
        refine .fin ?_
        refine WP.cond rfl (fun c24 => ?_) (fun c24 => ?_)
        · replace H := Gets.ct H c24
          refine WP.seq ?_
          refine WP.seq ?_
          refine WP.reg [(0, false), (1, false)] (by kernel_rfl) ?_
          refine mv0 rfl rfl ?_
          refine Dv.bin rfl trivial rfl rfl (fun _ => run_lt) ?_
          refine .fin ?_
          refine WP.cond rfl (fun c25 => ?_) (fun c25 => ?_)
          · replace H := Gets.ct H c25
            refine WP.seq ?_
            refine WP.reg [(0, false), (1, false), (2, false)] (by kernel_rfl) ?_
            refine mv0 rfl rfl ?_
            obtain ⟨g26, H⟩ := Gets.grd H
            refine Dv.bin rfl trivial rfl rfl (fun _ => run_cat g26) ?_
            refine as0 rfl rfl ?_
            refine .fin ?_
            obtain rfl := Gets.out H
            exact WP.retL (fun _ _ h => h) rfl () trivial (.cons (res_tmp rfl) .nil) rfl (st_seln 0 [] 0 rfl rfl rfl)
          · replace H := Gets.cf H c25
            refine WP.skip ?_
            refine WP.seq ?_
            refine WP.reg [(0, false), (1, false)] (by kernel_rfl) ?_
            refine mv0 rfl rfl ?_
            refine as0 rfl rfl ?_
            refine .fin ?_
            obtain rfl := Gets.out H
            exact WP.retL (fun _ _ h => h) rfl () trivial (.cons (res_tmp rfl) .nil) rfl (st_seln 0 [] 0 rfl rfl rfl)
        · replace H := Gets.cf H c24
          refine WP.skip ?_
          refine WP.seq ?_
          refine WP.reg [(0, false), (1, false), (2, false), (3, false), (4, false), (5, false)] (by kernel_rfl) ?_
          refine mv0 rfl rfl ?_
          refine Dv.bin rfl trivial rfl rfl (fun _ => run_quo (by decide)) ?_
          obtain ⟨t27, h28, H⟩ := Gets.call H
          refine Dv.call rfl trivial cal62 rfl (concourseref01_Decimal.c k h28) ?_
          refine mv0 rfl rfl ?_
          obtain ⟨g29, H⟩ := Gets.grd H
          refine Dv.bin rfl trivial rfl rfl (fun _ => run_cat g29) ?_
          refine as0 rfl rfl ?_
          refine .fin ?_
          obtain rfl := Gets.out H
          exact WP.retL (fun _ _ h => h) rfl () trivial (.cons (res_tmp rfl) .nil) rfl (st_seln 0 [] 0 rfl rfl rfl)
    · refine WP.seq ?_
      refine WP.reg [(0, false), (1, false)] (by kernel_rfl) ?_
      refine mv0 rfl rfl ?_
      refine Dv.bin rfl trivial rfl rfl (fun _ => run_lt) ?_
      refine .fin ?_
      refine WP.cond rfl (fun c34 => ?_) (fun c34 => ?_)
      · replace H := Gets.ct H c34
        refine WP.reg [(0, false), (1, false), (2, false)] (by kernel_rfl) ?_
        refine mv0 rfl rfl ?_
        refine Dv.un rfl trivial rfl (fun _ => run_neg _ _) ?_
        refine as0 rfl rfl ?_
        refine .fin ?_
        replace H := Gets.out H
        exact Jn.mk (w64 (0 - (a0.tmod 10))) H (weak_cons rfl (weak_cons rfl (weak_cons rfl (weak_cons rfl weak_nil)))) (List.Perm.refl _)
      · replace H := Gets.cf H c34
        refine WP.skip ?_
        replace H := Gets.out H
        exact Jn.mk (a0.tmod 10) H (weak_cons rfl (weak_cons rfl (weak_cons rfl (weak_cons rfl weak_nil)))) (List.Perm.refl _)
theorem concourseref01_EventOf.c {k : Nat} {a0 : Int} {r : ByteArray} (h : concourseref01_EventOf.f k a0 = some r) : Pt Tryz.prog 42 [eq (.int .i64 a0)] (eq (.string r)) := by
  unfold concourseref01_EventOf.f at h
  refine (Tr.body Tryz.func42 (c := _) rfl Tryz.ntmps42 (Nat.le_of_ble_eq_true rfl) fun R0 F => ?_).pt
  replace h := Gets.of h
  have H := h
  clear h
  refine WP.seq ?_
  refine WP.reg [(0, false)] (by kernel_rfl) ?_
  refine as0 rfl rfl ?_
  refine .fin ?_
  refine WP.seq ?_
  refine WP.reg [(0, false), (1, false), (2, false), (3, false), (4, false)] (by kernel_rfl) ?_
  refine mv0 rfl rfl ?_
  obtain ⟨t35, h36, H⟩ := Gets.call H
  refine Dv.call rfl trivial cal40 rfl (concourseref01_Around.c h36) ?_
  obtain ⟨t37, h38, H⟩ := Gets.call H
  refine Dv.call rfl trivial cal62 rfl (concourseref01_Decimal.c _ h38) ?_
  obtain ⟨g39, H⟩ := Gets.grd H
  refine Dv.bin rfl trivial rfl rfl (fun _ => run_cat g39) ?_
  refine as0 rfl rfl ?_
  refine .fin ?_
  obtain rfl := Gets.out H
  exact WP.retL (fun _ _ h => h) rfl () trivial (.cons (res_tmp rfl) .nil) rfl (st_seln 0 [] 0 rfl rfl rfl)
theorem concourseref01_ThreadOf.c {k : Nat} {a0 : Int} {r : ByteArray} (h : concourseref01_ThreadOf.f k a0 = some r) : Pt Tryz.prog 43 [eq (.int .i64 a0)] (eq (.string r)) := by
  unfold concourseref01_ThreadOf.f at h
  refine (Tr.body Tryz.func43 (c := _) rfl Tryz.ntmps43 (Nat.le_of_ble_eq_true rfl) fun R0 F => ?_).pt
  replace h := Gets.of h
  have H := h
  clear h
  refine WP.seq ?_
  refine WP.reg [(0, false)] (by kernel_rfl) ?_
  refine as0 rfl rfl ?_
  refine .fin ?_
  refine WP.seq ?_
  refine WP.reg [(0, false), (1, false), (2, false)] (by kernel_rfl) ?_
  refine mv0 rfl rfl ?_
  obtain ⟨t40, h41, H⟩ := Gets.call H
  refine Dv.call rfl trivial cal40 rfl (concourseref01_Around.c h41) ?_
  refine as0 rfl rfl ?_
  refine .fin ?_
  refine WP.seq ?_
  refine WP.seq ?_
  refine WP.reg [(0, false), (1, false)] (by kernel_rfl) ?_
  refine mv0 rfl rfl ?_
  refine Dv.bin rfl trivial rfl rfl (fun _ => run_eq) ?_
  refine .fin ?_
  refine WP.cond rfl (fun c42 => ?_) (fun c42 => ?_)
  · replace H := Gets.ct H c42
    refine WP.seq ?_
    refine WP.reg [(0, false)] (by kernel_rfl) ?_
    refine as0 rfl rfl ?_
    refine .fin ?_
    obtain rfl := Gets.out H
    exact WP.retL (fun _ _ h => h) rfl () trivial (.cons (res_tmp rfl) .nil) rfl (st_seln 0 [] 0 rfl rfl rfl)
  · replace H := Gets.cf H c42
    refine WP.skip ?_
    refine WP.seq ?_
    refine WP.seq ?_
    refine WP.reg [(0, false), (1, false)] (by kernel_rfl) ?_
    refine mv0 rfl rfl ?_
    refine Dv.bin rfl trivial rfl rfl (fun _ => run_eq) ?_
    refine .fin ?_
    refine WP.cond rfl (fun c43 => ?_) (fun c43 => ?_)
    · replace H := Gets.ct H c43
      refine WP.seq ?_
      refine WP.reg [(0, false)] (by kernel_rfl) ?_
      refine as0 rfl rfl ?_
      refine .fin ?_
      obtain rfl := Gets.out H
      exact WP.retL (fun _ _ h => h) rfl () trivial (.cons (res_tmp rfl) .nil) rfl (st_seln 0 [] 0 rfl rfl rfl)
    · replace H := Gets.cf H c43
      refine WP.skip ?_
      refine WP.seq ?_
      refine WP.reg [(0, false), (1, false), (2, false)] (by kernel_rfl) ?_
      refine mv0 rfl rfl ?_
      obtain ⟨t44, h45, H⟩ := Gets.call H
      refine Dv.call rfl trivial cal42 rfl (concourseref01_EventOf.c h45) ?_
      refine as0 rfl rfl ?_
      refine .fin ?_
      obtain rfl := Gets.out H
      exact WP.retL (fun _ _ h => h) rfl () trivial (.cons (res_tmp rfl) .nil) rfl (st_seln 0 [] 0 rfl rfl rfl)
theorem concourseref03_Good.c {k : Nat} {a0 : Edu} {r : Edu} (h : concourseref03_Good.f k a0 = some r) : Pt Tryz.prog 22 [agg (Edu.enc a0)] (agg (Edu.enc r)) := by
  unfold concourseref03_Good.f at h
  refine (Tr.body Tryz.func22 (c := _) rfl Tryz.ntmps22 (Nat.le_of_ble_eq_true rfl) fun R0 F => ?_).pt
  replace h := Gets.of h
  have H := h
  clear h
  refine WP.seq ?_
  refine WP.reg [(0, true), (1, true)] (by kernel_rfl) ?_
  refine Dv.box rfl trivial rfl (cells_agg (Edu.K.one _)) nofun (fun b46 => ?_)
  refine Dv.alloc (z := .agg #[.int .i64 0, .string ⟨#[]⟩, .string ⟨#[]⟩, .string ⟨#[]⟩, .string ⟨#[]⟩, .bool false, .bool false, .int .i64 0, .int .i64 0, .int .i64 0, .int .i64 0]) (qs := [eq (.int .i64 0), eq (.string (⟨#[]⟩ : ByteArray)), eq (.string (⟨#[]⟩ : ByteArray)), eq (.string (⟨#[]⟩ : ByteArray)), eq (.string (⟨#[]⟩ : ByteArray)), eq (.bool false), eq (.bool false), eq (.int .i64 0), eq (.int .i64 0), eq (.int .i64 0), eq (.int .i64 0)]) rfl trivial z30 rfl nofun (fun b47 => ?_)
  refine .fin ?_
  refine WP.seq ?_
  refine WP.dreg Tryz.checked.mixed [(0, false), (1, false), (2, false), (3, false), (4, false), (5, false), (6, false), (7, false), (8, false), (9, false), (10, false), (11, false), (12, false), (13, false), (14, true), (15, true)] (by kernel_rfl) ?_
  refine Dv.fab rfl trivial rfl Tryz.underlying30 rfl Tryz.underlying3 c3 (by decide) ?_
  refine Dv.ldb rfl trivial rfl Tryz.underlying3 rfl (mem_at 1 rfl) rfl ?_
  obtain ⟨t48, h49, H⟩ := Gets.call H
  refine Dv.call rfl trivial cal40 rfl (concourseref01_Around.c h49) ?_
  refine Dv.bin rfl trivial rfl rfl (fun _ => run_add) ?_
  refine Dv.fab rfl trivial rfl Tryz.underlying30 rfl Tryz.underlying3 c3 (by decide) ?_
  refine Dv.ldb rfl trivial rfl Tryz.underlying3 rfl (mem_at 1 rfl) rfl ?_
  obtain ⟨t50, h51, H⟩ := Gets.call H
  refine Dv.call rfl trivial cal41 rfl (concourseref01_UserOf.c h51) ?_
  refine Dv.fab rfl trivial rfl Tryz.underlying30 rfl Tryz.underlying3 c3 (by decide) ?_
  refine Dv.ldb rfl trivial rfl Tryz.underlying3 rfl (mem_at 1 rfl) rfl ?_
  obtain ⟨t52, h53, H⟩ := Gets.call H
  refine Dv.call rfl trivial cal40 rfl (concourseref01_Around.c h53) ?_
  refine Dv.fab rfl trivial rfl Tryz.underlying30 rfl Tryz.underlying3 c3 (by decide) ?_
  refine Dv.ldb rfl trivial rfl Tryz.underlying3 rfl (mem_at 1 rfl) rfl ?_
  obtain ⟨t54, h55, H⟩ := Gets.call H
  refine Dv.call rfl trivial cal40 rfl (concourseref01_Around.c h55) ?_
  refine Dv.bld (css := [[eq (.int .i64 (w64 (1 + t48)))], [eq (.string t50)], [eq (.int .i64 t52)], [eq (.int .i64 t54)]]) rfl trivial Tryz.underlying30 pl30 z30 rfl ⟨(cells_one (one_eq rfl)), ⟨(cells_one (one_eq rfl)), ⟨(cells_one (one_eq rfl)), ⟨(cells_one (one_eq rfl)), trivial⟩⟩⟩⟩ rfl rfl ?_
  refine Dv.alloc (z := .agg #[.int .i64 0, .string ⟨#[]⟩, .string ⟨#[]⟩, .string ⟨#[]⟩, .string ⟨#[]⟩, .bool false, .bool false, .int .i64 0, .int .i64 0, .int .i64 0, .int .i64 0]) (qs := [eq (.int .i64 0), eq (.string (⟨#[]⟩ : ByteArray)), eq (.string (⟨#[]⟩ : ByteArray)), eq (.string (⟨#[]⟩ : ByteArray)), eq (.string (⟨#[]⟩ : ByteArray)), eq (.bool false), eq (.bool false), eq (.int .i64 0), eq (.int .i64 0), eq (.int .i64 0), eq (.int .i64 0)]) rfl trivial z30 rfl (fun _ => (pend_in (fun _ => trivial) (pend_in (fun _ => trivial) (pend_in (fun _ => (mem_at 2 rfl)) (pend_in (fun _ => trivial) (pend_in (fun _ => trivial) (pend_in (fun _ => (mem_at 2 rfl)) (pend_in (fun _ => trivial) (pend_in (fun _ => trivial) (pend_in (fun _ => (mem_at 2 rfl)) (pend_in (fun _ => trivial) (pend_in (fun _ => trivial) (pend_in (fun _ => trivial) (pend_in (fun _ => (mem_at 2 rfl)) (pend_in (fun _ => trivial) pend_nil))))))))))))))) (fun b56 => ?_)
  refine Dv.stx ([blk b56 30 [eq (.int .i64 (w64 (1 + t48))), eq (.string (⟨#[]⟩ : ByteArray)), eq (.string t50), eq (.string (⟨#[]⟩ : ByteArray)), eq (.string (⟨#[]⟩ : ByteArray)), eq (.bool false), eq (.bool false), eq (.int .i64 0), eq (.int .i64 0), eq (.int .i64 t52), eq (.int .i64 t54)], blk b47 30 [eq (.int .i64 0), eq (.string (⟨#[]⟩ : ByteArray)), eq (.string (⟨#[]⟩ : ByteArray)), eq (.string (⟨#[]⟩ : ByteArray)), eq (.string (⟨#[]⟩ : ByteArray)), eq (.bool false), eq (.bool false), eq (.int .i64 0), eq (.int .i64 0), eq (.int .i64 0), eq (.int .i64 0)], blk b46 30 [eq (.int .i64 a0.fKind), eq (.string a0.fRoom), eq (.string a0.fUser), eq (.string a0.fEvent), eq (.string a0.fThread), eq (.bool a0.fPrivate), eq (.bool a0.fOn), eq (.int .i64 a0.fSpan), eq (.int .i64 a0.fState), eq (.int .i64 a0.fTick), eq (.int .i64 a0.fStamp)]] ++ F) rfl trivial rfl rfl (cells_agg (ones_cons (one_eq rfl) (ones_cons (one_eq rfl) (ones_cons (one_eq rfl) (ones_cons (one_eq rfl) (ones_cons (one_eq rfl) (ones_cons (one_eq rfl) (ones_cons (one_eq rfl) (ones_cons (one_eq rfl) (ones_cons (one_eq rfl) (ones_cons (one_eq rfl) (ones_cons (one_eq rfl) ones_nil)))))))))))) Tryz.underlying30 c30 rfl (j := 0) rfl (Nat.le_of_ble_eq_true rfl) rfl (fun _ => pend_bits (by kernel_rfl)) ?_
  refine .fin ?_
  refine WP.seq ?_
  refine WP.seq ?_
  refine WP.reg [(0, false), (1, false)] (by kernel_rfl) ?_
  refine Dv.fab rfl trivial rfl Tryz.underlying30 rfl Tryz.underlying3 c3 (by decide) ?_
  refine Dv.ldb rfl trivial rfl Tryz.underlying3 rfl (mem_at 0 rfl) rfl ?_
  refine .fin ?_
  refine WP.block ?_
  refine WP.seq ?_
  refine WP.reg [(0, false), (1, false)] (by kernel_rfl) ?_
  refine Dv.bin rfl trivial rfl rfl (fun _ => run_eq) ?_
  refine as0 rfl rfl ?_
  refine .fin ?_
  refine WP.cond rfl (fun c57 => ?_) (fun c57 => ?_)
  · replace H := Gets.ct H c57
    refine WP.seq ?_
    refine WP.reg [(0, false), (1, false), (2, false), (3, false), (4, true)] (by kernel_rfl) ?_
    refine Dv.fab rfl trivial rfl Tryz.underlying30 rfl Tryz.underlying3 c3 (by decide) ?_
    refine Dv.ldb rfl trivial rfl Tryz.underlying3 rfl (mem_at 2 rfl) rfl ?_
    obtain ⟨t58, h59, H⟩ := Gets.call H
    refine Dv.call rfl trivial cal20 rfl (concourseref01_RoomOf.c h59) ?_
    refine Dv.fab rfl trivial rfl Tryz.underlying30 rfl Tryz.underlying9 c9 (by decide) ?_
    refine Dv.stx ([blk b56 30 [eq (.int .i64 (w64 (1 + t48))), eq (.string t58), eq (.string t50), eq (.string (⟨#[]⟩ : ByteArray)), eq (.string (⟨#[]⟩ : ByteArray)), eq (.bool false), eq (.bool false), eq (.int .i64 0), eq (.int .i64 0), eq (.int .i64 t52), eq (.int .i64 t54)], blk b47 30 [eq (.int .i64 0), eq (.string (⟨#[]⟩ : ByteArray)), eq (.string (⟨#[]⟩ : ByteArray)), eq (.string (⟨#[]⟩ : ByteArray)), eq (.string (⟨#[]⟩ : ByteArray)), eq (.bool false), eq (.bool false), eq (.int .i64 0), eq (.int .i64 0), eq (.int .i64 0), eq (.int .i64 0)], blk b46 30 [eq (.int .i64 a0.fKind), eq (.string a0.fRoom), eq (.string a0.fUser), eq (.string a0.fEvent), eq (.string a0.fThread), eq (.bool a0.fPrivate), eq (.bool a0.fOn), eq (.int .i64 a0.fSpan), eq (.int .i64 a0.fState), eq (.int .i64 a0.fTick), eq (.int .i64 a0.fStamp)]] ++ F) rfl trivial rfl rfl (cells_one (one_eq rfl)) Tryz.underlying9 c9 rfl (j := 0) rfl (Nat.le_of_ble_eq_true rfl) rfl nofun ?_
    refine .fin ?_
    refine WP.seq ?_
    refine WP.dreg Tryz.checked.mixed [(0, false), (1, false), (2, false), (3, false), (4, false), (5, false), (6, false), (7, false), (8, false), (9, true)] (by kernel_rfl) ?_
    refine Dv.fab rfl trivial rfl Tryz.underlying30 rfl Tryz.underlying9 c9 (by decide) ?_
    refine Dv.ldb rfl trivial rfl Tryz.underlying9 rfl (mem_at 2 rfl) rfl ?_
    refine Dv.lens rfl trivial rfl Tryz.underlying9 ?_
    refine Dv.fab rfl trivial rfl Tryz.underlying30 rfl Tryz.underlying3 c3 (by decide) ?_
    refine Dv.ldb rfl trivial rfl Tryz.underlying3 rfl (mem_at 2 rfl) rfl ?_
    obtain ⟨t60, h61, H⟩ := Gets.call H
    refine Dv.call rfl trivial cal40 rfl (concourseref01_Around.c h61) ?_
    refine Dv.bin rfl trivial rfl rfl (fun _ => run_add) ?_
    obtain ⟨t62, h63, H⟩ := Gets.call H
    refine Dv.call rfl trivial cal42 rfl (concourseref01_EventOf.c h63) ?_
    refine Dv.fab rfl trivial rfl Tryz.underlying30 rfl Tryz.underlying9 c9 (by decide) ?_
    refine Dv.stx ([blk b56 30 [eq (.int .i64 (w64 (1 + t48))), eq (.string t58), eq (.string t50), eq (.string t62), eq (.string (⟨#[]⟩ : ByteArray)), eq (.bool false), eq (.bool false), eq (.int .i64 0), eq (.int .i64 0), eq (.int .i64 t52), eq (.int .i64 t54)], blk b47 30 [eq (.int .i64 0), eq (.string (⟨#[]⟩ : ByteArray)), eq (.string (⟨#[]⟩ : ByteArray)), eq (.string (⟨#[]⟩ : ByteArray)), eq (.string (⟨#[]⟩ : ByteArray)), eq (.bool false), eq (.bool false), eq (.int .i64 0), eq (.int .i64 0), eq (.int .i64 0), eq (.int .i64 0)], blk b46 30 [eq (.int .i64 a0.fKind), eq (.string a0.fRoom), eq (.string a0.fUser), eq (.string a0.fEvent), eq (.string a0.fThread), eq (.bool a0.fPrivate), eq (.bool a0.fOn), eq (.int .i64 a0.fSpan), eq (.int .i64 a0.fState), eq (.int .i64 a0.fTick), eq (.int .i64 a0.fStamp)]] ++ F) rfl trivial rfl rfl (cells_one (one_eq rfl)) Tryz.underlying9 c9 rfl (j := 0) rfl (Nat.le_of_ble_eq_true rfl) rfl (fun _ => pend_bits (by kernel_rfl)) ?_
    refine .fin ?_
    refine WP.seq ?_
    refine WP.reg [(0, false), (1, false), (2, false), (3, false), (4, false), (5, true)] (by kernel_rfl) ?_
    refine Dv.fab rfl trivial rfl Tryz.underlying30 rfl Tryz.underlying9 c9 (by decide) ?_
    refine Dv.ldb rfl trivial rfl Tryz.underlying9 rfl (mem_at 2 rfl) rfl ?_
    refine Dv.lens rfl trivial rfl Tryz.underlying9 ?_
    obtain ⟨t64, h65, H⟩ := Gets.call H
    refine Dv.call rfl trivial cal43 rfl (concourseref01_ThreadOf.c h65) ?_
    refine Dv.fab rfl trivial rfl Tryz.underlying30 rfl Tryz.underlying9 c9 (by decide) ?_
    refine Dv.stx ([blk b56 30 [eq (.int .i64 (w64 (1 + t48))), eq (.string t58), eq (.string t50), eq (.string t62), eq (.string t64), eq (.bool false), eq (.bool false), eq (.int .i64 0), eq (.int .i64 0), eq (.int .i64 t52), eq (.int .i64 t54)], blk b47 30 [eq (.int .i64 0), eq (.string (⟨#[]⟩ : ByteArray)), eq (.string (⟨#[]⟩ : ByteArray)), eq (.string (⟨#[]⟩ : ByteArray)), eq (.string (⟨#[]⟩ : ByteArray)), eq (.bool false), eq (.bool false), eq (.int .i64 0), eq (.int .i64 0), eq (.int .i64 0), eq (.int .i64 0)], blk b46 30 [eq (.int .i64 a0.fKind), eq (.string a0.fRoom), eq (.string a0.fUser), eq (.string a0.fEvent), eq (.string a0.fThread), eq (.bool a0.fPrivate), eq (.bool a0.fOn), eq (.int .i64 a0.fSpan), eq (.int .i64 a0.fState), eq (.int .i64 a0.fTick), eq (.int .i64 a0.fStamp)]] ++ F) rfl trivial rfl rfl (cells_one (one_eq rfl)) Tryz.underlying9 c9 rfl (j := 0) rfl (Nat.le_of_ble_eq_true rfl) rfl nofun ?_
    refine .fin ?_
    refine WP.reg [(0, false), (1, false), (2, false), (3, true)] (by kernel_rfl) ?_
    refine Dv.fab rfl trivial rfl Tryz.underlying30 rfl Tryz.underlying4 c4 (by decide) ?_
    refine Dv.ldb rfl trivial rfl Tryz.underlying4 rfl (mem_at 2 rfl) rfl ?_
    refine Dv.fab rfl trivial rfl Tryz.underlying30 rfl Tryz.underlying4 c4 (by decide) ?_
    refine Dv.stx ([blk b56 30 [eq (.int .i64 (w64 (1 + t48))), eq (.string t58), eq (.string t50), eq (.string t62), eq (.string t64), eq (.bool a0.fPrivate), eq (.bool false), eq (.int .i64 0), eq (.int .i64 0), eq (.int .i64 t52), eq (.int .i64 t54)], blk b47 30 [eq (.int .i64 0), eq (.string (⟨#[]⟩ : ByteArray)), eq (.string (⟨#[]⟩ : ByteArray)), eq (.string (⟨#[]⟩ : ByteArray)), eq (.string (⟨#[]⟩ : ByteArray)), eq (.bool false), eq (.bool false), eq (.int .i64 0), eq (.int .i64 0), eq (.int .i64 0), eq (.int .i64 0)], blk b46 30 [eq (.int .i64 a0.fKind), eq (.string a0.fRoom), eq (.string a0.fUser), eq (.string a0.fEvent), eq (.string a0.fThread), eq (.bool a0.fPrivate), eq (.bool a0.fOn), eq (.int .i64 a0.fSpan), eq (.int .i64 a0.fState), eq (.int .i64 a0.fTick), eq (.int .i64 a0.fStamp)]] ++ F) rfl trivial rfl rfl (cells_one (one_eq rfl)) Tryz.underlying4 c4 rfl (j := 0) rfl (Nat.le_of_ble_eq_true rfl) rfl nofun ?_
    refine .fin ?_
    refine WP.seq ?_
    refine WP.reg [(0, false), (1, true)] (by kernel_rfl) ?_
    refine Dv.ldbs rfl trivial rfl Tryz.underlying30 rfl c30 (mem_at 0 rfl) (Nat.le_of_ble_eq_true rfl) ?_
    refine Dv.stx ([blk b56 30 [eq (.int .i64 (w64 (1 + t48))), eq (.string t58), eq (.string t50), eq (.string t62), eq (.string t64), eq (.bool a0.fPrivate), eq (.bool false), eq (.int .i64 0), eq (.int .i64 0), eq (.int .i64 t52), eq (.int .i64 t54)], blk b47 30 [eq (.int .i64 (w64 (1 + t48))), eq (.string t58), eq (.string t50), eq (.string t62), eq (.string t64), eq (.bool a0.fPrivate), eq (.bool false), eq (.int .i64 0), eq (.int .i64 0), eq (.int .i64 t52), eq (.int .i64 t54)], blk b46 30 [eq (.int .i64 a0.fKind), eq (.string a0.fRoom), eq (.string a0.fUser), eq (.string a0.fEvent), eq (.string a0.fThread), eq (.bool a0.fPrivate), eq (.bool a0.fOn), eq (.int .i64 a0.fSpan), eq (.int .i64 a0.fState), eq (.int .i64 a0.fTick), eq (.int .i64 a0.fStamp)]] ++ F) rfl trivial rfl rfl (cells_agg (ones_cons (one_eq rfl) (ones_cons (one_eq rfl) (ones_cons (one_eq rfl) (ones_cons (one_eq rfl) (ones_cons (one_eq rfl) (ones_cons (one_eq rfl) (ones_cons (one_eq rfl) (ones_cons (one_eq rfl) (ones_cons (one_eq rfl) (ones_cons (one_eq rfl) (ones_cons (one_eq rfl) ones_nil)))))))))))) Tryz.underlying30 c30 rfl (j := 1) rfl (Nat.le_of_ble_eq_true rfl) rfl nofun ?_
    refine .fin ?_
    obtain rfl := Gets.out H
    exact WP.retL (fun _ _ h => h) rfl () trivial (.cons (res_cells rfl Tryz.underlying30 rfl c30 (mem_at 1 rfl) rfl) .nil) rfl (st_seln 3 [0, 1, 2] 3 rfl rfl rfl)
  · replace H := Gets.cf H c57
    refine WP.seq ?_
    refine WP.reg [(0, false), (1, false)] (by kernel_rfl) ?_
    refine Dv.bin rfl trivial rfl rfl (fun _ => run_eq) ?_
    refine as0 rfl rfl ?_
    refine .fin ?_
    refine WP.cond rfl (fun c66 => ?_) (fun c66 => ?_)
    · replace H := Gets.ct H c66
      refine WP.seq ?_
      refine WP.reg [(0, false), (1, false), (2, false), (3, false), (4, true)] (by kernel_rfl) ?_
      refine Dv.fab rfl trivial rfl Tryz.underlying30 rfl Tryz.underlying3 c3 (by decide) ?_
      refine Dv.ldb rfl trivial rfl Tryz.underlying3 rfl (mem_at 2 rfl) rfl ?_
      obtain ⟨t67, h68, H⟩ := Gets.call H
      refine Dv.call rfl trivial cal20 rfl (concourseref01_RoomOf.c h68) ?_
      refine Dv.fab rfl trivial rfl Tryz.underlying30 rfl Tryz.underlying9 c9 (by decide) ?_
      refine Dv.stx ([blk b56 30 [eq (.int .i64 (w64 (1 + t48))), eq (.string t67), eq (.string t50), eq (.string (⟨#[]⟩ : ByteArray)), eq (.string (⟨#[]⟩ : ByteArray)), eq (.bool false), eq (.bool false), eq (.int .i64 0), eq (.int .i64 0), eq (.int .i64 t52), eq (.int .i64 t54)], blk b47 30 [eq (.int .i64 0), eq (.string (⟨#[]⟩ : ByteArray)), eq (.string (⟨#[]⟩ : ByteArray)), eq (.string (⟨#[]⟩ : ByteArray)), eq (.string (⟨#[]⟩ : ByteArray)), eq (.bool false), eq (.bool false), eq (.int .i64 0), eq (.int .i64 0), eq (.int .i64 0), eq (.int .i64 0)], blk b46 30 [eq (.int .i64 a0.fKind), eq (.string a0.fRoom), eq (.string a0.fUser), eq (.string a0.fEvent), eq (.string a0.fThread), eq (.bool a0.fPrivate), eq (.bool a0.fOn), eq (.int .i64 a0.fSpan), eq (.int .i64 a0.fState), eq (.int .i64 a0.fTick), eq (.int .i64 a0.fStamp)]] ++ F) rfl trivial rfl rfl (cells_one (one_eq rfl)) Tryz.underlying9 c9 rfl (j := 0) rfl (Nat.le_of_ble_eq_true rfl) rfl nofun ?_
      refine .fin ?_
      refine WP.seq ?_
      refine WP.reg [(0, false), (1, false), (2, false), (3, true)] (by kernel_rfl) ?_
      refine Dv.fab rfl trivial rfl Tryz.underlying30 rfl Tryz.underlying4 c4 (by decide) ?_
      refine Dv.ldb rfl trivial rfl Tryz.underlying4 rfl (mem_at 2 rfl) rfl ?_
      refine Dv.fab rfl trivial rfl Tryz.underlying30 rfl Tryz.underlying4 c4 (by decide) ?_
      refine Dv.stx ([blk b56 30 [eq (.int .i64 (w64 (1 + t48))), eq (.string t67), eq (.string t50), eq (.string (⟨#[]⟩ : ByteArray)), eq (.string (⟨#[]⟩ : ByteArray)), eq (.bool false), eq (.bool a0.fOn), eq (.int .i64 0), eq (.int .i64 0), eq (.int .i64 t52), eq (.int .i64 t54)], blk b47 30 [eq (.int .i64 0), eq (.string (⟨#[]⟩ : ByteArray)), eq (.string (⟨#[]⟩ : ByteArray)), eq (.string (⟨#[]⟩ : ByteArray)), eq (.string (⟨#[]⟩ : ByteArray)), eq (.bool false), eq (.bool false), eq (.int .i64 0), eq (.int .i64 0), eq (.int .i64 0), eq (.int .i64 0)], blk b46 30 [eq (.int .i64 a0.fKind), eq (.string a0.fRoom), eq (.string a0.fUser), eq (.string a0.fEvent), eq (.string a0.fThread), eq (.bool a0.fPrivate), eq (.bool a0.fOn), eq (.int .i64 a0.fSpan), eq (.int .i64 a0.fState), eq (.int .i64 a0.fTick), eq (.int .i64 a0.fStamp)]] ++ F) rfl trivial rfl rfl (cells_one (one_eq rfl)) Tryz.underlying4 c4 rfl (j := 0) rfl (Nat.le_of_ble_eq_true rfl) rfl nofun ?_
      refine .fin ?_
      refine WP.seq ?_
      refine WP.reg [(0, false), (1, false)] (by kernel_rfl) ?_
      refine Dv.fab rfl trivial rfl Tryz.underlying30 rfl Tryz.underlying4 c4 (by decide) ?_
      refine Dv.ldb rfl trivial rfl Tryz.underlying4 rfl (mem_at 2 rfl) rfl ?_
      refine .fin ?_
      refine WP.cond rfl (fun c69 => ?_) (fun c69 => ?_)
      · replace H := Gets.ct H c69
        refine WP.reg [(0, false), (1, false), (2, false), (3, false), (4, false), (5, true)] (by kernel_rfl) ?_
        refine Dv.fab rfl trivial rfl Tryz.underlying30 rfl Tryz.underlying3 c3 (by decide) ?_
        refine Dv.ldb rfl trivial rfl Tryz.underlying3 rfl (mem_at 2 rfl) rfl ?_
        obtain ⟨t70, h71, H⟩ := Gets.call H
        refine Dv.call rfl trivial cal40 rfl (concourseref01_Around.c h71) ?_
        refine Dv.bin rfl trivial rfl rfl (fun _ => run_add) ?_
        refine Dv.fab rfl trivial rfl Tryz.underlying30 rfl Tryz.underlying3 c3 (by decide) ?_
        refine Dv.stx ([blk b56 30 [eq (.int .i64 (w64 (1 + t48))), eq (.string t67), eq (.string t50), eq (.string (⟨#[]⟩ : ByteArray)), eq (.string (⟨#[]⟩ : ByteArray)), eq (.bool false), eq (.bool a0.fOn), eq (.int .i64 (w64 (1 + t70))), eq (.int .i64 0), eq (.int .i64 t52), eq (.int .i64 t54)], blk b47 30 [eq (.int .i64 0), eq (.string (⟨#[]⟩ : ByteArray)), eq (.string (⟨#[]⟩ : ByteArray)), eq (.string (⟨#[]⟩ : ByteArray)), eq (.string (⟨#[]⟩ : ByteArray)), eq (.bool false), eq (.bool false), eq (.int .i64 0), eq (.int .i64 0), eq (.int .i64 0), eq (.int .i64 0)], blk b46 30 [eq (.int .i64 a0.fKind), eq (.string a0.fRoom), eq (.string a0.fUser), eq (.string a0.fEvent), eq (.string a0.fThread), eq (.bool a0.fPrivate), eq (.bool a0.fOn), eq (.int .i64 a0.fSpan), eq (.int .i64 a0.fState), eq (.int .i64 a0.fTick), eq (.int .i64 a0.fStamp)]] ++ F) rfl trivial rfl rfl (cells_one (one_eq rfl)) Tryz.underlying3 c3 rfl (j := 0) rfl (Nat.le_of_ble_eq_true rfl) rfl nofun ?_
        refine .fin ?_
        refine WP.seq ?_
        refine WP.reg [(0, false), (1, true)] (by kernel_rfl) ?_
        refine Dv.ldbs rfl trivial rfl Tryz.underlying30 rfl c30 (mem_at 0 rfl) (Nat.le_of_ble_eq_true rfl) ?_
        refine Dv.stx ([blk b56 30 [eq (.int .i64 (w64 (1 + t48))), eq (.string t67), eq (.string t50), eq (.string (⟨#[]⟩ : ByteArray)), eq (.string (⟨#[]⟩ : ByteArray)), eq (.bool false), eq (.bool a0.fOn), eq (.int .i64 (w64 (1 + t70))), eq (.int .i64 0), eq (.int .i64 t52), eq (.int .i64 t54)], blk b47 30 [eq (.int .i64 (w64 (1 + t48))), eq (.string t67), eq (.string t50), eq (.string (⟨#[]⟩ : ByteArray)), eq (.string (⟨#[]⟩ : ByteArray)), eq (.bool false), eq (.bool a0.fOn), eq (.int .i64 (w64 (1 + t70))), eq (.int .i64 0), eq (.int .i64 t52), eq (.int .i64 t54)], blk b46 30 [eq (.int .i64 a0.fKind), eq (.string a0.fRoom), eq (.string a0.fUser), eq (.string a0.fEvent), eq (.string a0.fThread), eq (.bool a0.fPrivate), eq (.bool a0.fOn), eq (.int .i64 a0.fSpan), eq (.int .i64 a0.fState), eq (.int .i64 a0.fTick), eq (.int .i64 a0.fStamp)]] ++ F) rfl trivial rfl rfl (cells_agg (ones_cons (one_eq rfl) (ones_cons (one_eq rfl) (ones_cons (one_eq rfl) (ones_cons (one_eq rfl) (ones_cons (one_eq rfl) (ones_cons (one_eq rfl) (ones_cons (one_eq rfl) (ones_cons (one_eq rfl) (ones_cons (one_eq rfl) (ones_cons (one_eq rfl) (ones_cons (one_eq rfl) ones_nil)))))))))))) Tryz.underlying30 c30 rfl (j := 1) rfl (Nat.le_of_ble_eq_true rfl) rfl nofun ?_
        refine .fin ?_
        obtain rfl := Gets.out H
        exact WP.retL (fun _ _ h => h) rfl () trivial (.cons (res_cells rfl Tryz.underlying30 rfl c30 (mem_at 1 rfl) rfl) .nil) rfl (st_seln 3 [0, 1, 2] 3 rfl rfl rfl)
      · replace H := Gets.cf H c69
        refine WP.skip ?_
        refine WP.seq ?_
        refine WP.reg [(0, false), (1, true)] (by kernel_rfl) ?_
        refine Dv.ldbs rfl trivial rfl Tryz.underlying30 rfl c30 (mem_at 0 rfl) (Nat.le_of_ble_eq_true rfl) ?_
        refine Dv.stx ([blk b56 30 [eq (.int .i64 (w64 (1 + t48))), eq (.string t67), eq (.string t50), eq (.string (⟨#[]⟩ : ByteArray)), eq (.string (⟨#[]⟩ : ByteArray)), eq (.bool false), eq (.bool a0.fOn), eq (.int .i64 0), eq (.int .i64 0), eq (.int .i64 t52), eq (.int .i64 t54)], blk b47 30 [eq (.int .i64 (w64 (1 + t48))), eq (.string t67), eq (.string t50), eq (.string (⟨#[]⟩ : ByteArray)), eq (.string (⟨#[]⟩ : ByteArray)), eq (.bool false), eq (.bool a0.fOn), eq (.int .i64 0), eq (.int .i64 0), eq (.int .i64 t52), eq (.int .i64 t54)], blk b46 30 [eq (.int .i64 a0.fKind), eq (.string a0.fRoom), eq (.string a0.fUser), eq (.string a0.fEvent), eq (.string a0.fThread), eq (.bool a0.fPrivate), eq (.bool a0.fOn), eq (.int .i64 a0.fSpan), eq (.int .i64 a0.fState), eq (.int .i64 a0.fTick), eq (.int .i64 a0.fStamp)]] ++ F) rfl trivial rfl rfl (cells_agg (ones_cons (one_eq rfl) (ones_cons (one_eq rfl) (ones_cons (one_eq rfl) (ones_cons (one_eq rfl) (ones_cons (one_eq rfl) (ones_cons (one_eq rfl) (ones_cons (one_eq rfl) (ones_cons (one_eq rfl) (ones_cons (one_eq rfl) (ones_cons (one_eq rfl) (ones_cons (one_eq rfl) ones_nil)))))))))))) Tryz.underlying30 c30 rfl (j := 1) rfl (Nat.le_of_ble_eq_true rfl) rfl nofun ?_
        refine .fin ?_
        obtain rfl := Gets.out H
        exact WP.retL (fun _ _ h => h) rfl () trivial (.cons (res_cells rfl Tryz.underlying30 rfl c30 (mem_at 1 rfl) rfl) .nil) rfl (st_seln 3 [0, 1, 2] 3 rfl rfl rfl)
    · replace H := Gets.cf H c66
      refine WP.reg [(0, false), (1, false), (2, false), (3, false), (4, true)] (by kernel_rfl) ?_
      refine Dv.fab rfl trivial rfl Tryz.underlying30 rfl Tryz.underlying3 c3 (by decide) ?_
      refine Dv.ldb rfl trivial rfl Tryz.underlying3 rfl (mem_at 2 rfl) rfl ?_
      obtain ⟨t72, h73, H⟩ := Gets.call H
      refine Dv.call rfl trivial cal40 rfl (concourseref01_Around.c h73) ?_
      refine Dv.fab rfl trivial rfl Tryz.underlying30 rfl Tryz.underlying3 c3 (by decide) ?_
      refine Dv.stx ([blk b56 30 [eq (.int .i64 (w64 (1 + t48))), eq (.string (⟨#[]⟩ : ByteArray)), eq (.string t50), eq (.string (⟨#[]⟩ : ByteArray)), eq (.string (⟨#[]⟩ : ByteArray)), eq (.bool false), eq (.bool false), eq (.int .i64 0), eq (.int .i64 t72), eq (.int .i64 t52), eq (.int .i64 t54)], blk b47 30 [eq (.int .i64 0), eq (.string (⟨#[]⟩ : ByteArray)), eq (.string (⟨#[]⟩ : ByteArray)), eq (.string (⟨#[]⟩ : ByteArray)), eq (.string (⟨#[]⟩ : ByteArray)), eq (.bool false), eq (.bool false), eq (.int .i64 0), eq (.int .i64 0), eq (.int .i64 0), eq (.int .i64 0)], blk b46 30 [eq (.int .i64 a0.fKind), eq (.string a0.fRoom), eq (.string a0.fUser), eq (.string a0.fEvent), eq (.string a0.fThread), eq (.bool a0.fPrivate), eq (.bool a0.fOn), eq (.int .i64 a0.fSpan), eq (.int .i64 a0.fState), eq (.int .i64 a0.fTick), eq (.int .i64 a0.fStamp)]] ++ F) rfl trivial rfl rfl (cells_one (one_eq rfl)) Tryz.underlying3 c3 rfl (j := 0) rfl (Nat.le_of_ble_eq_true rfl) rfl nofun ?_
      refine .fin ?_
      refine WP.seq ?_
      refine WP.reg [(0, false), (1, true)] (by kernel_rfl) ?_
      refine Dv.ldbs rfl trivial rfl Tryz.underlying30 rfl c30 (mem_at 0 rfl) (Nat.le_of_ble_eq_true rfl) ?_
      refine Dv.stx ([blk b56 30 [eq (.int .i64 (w64 (1 + t48))), eq (.string (⟨#[]⟩ : ByteArray)), eq (.string t50), eq (.string (⟨#[]⟩ : ByteArray)), eq (.string (⟨#[]⟩ : ByteArray)), eq (.bool false), eq (.bool false), eq (.int .i64 0), eq (.int .i64 t72), eq (.int .i64 t52), eq (.int .i64 t54)], blk b47 30 [eq (.int .i64 (w64 (1 + t48))), eq (.string (⟨#[]⟩ : ByteArray)), eq (.string t50), eq (.string (⟨#[]⟩ : ByteArray)), eq (.string (⟨#[]⟩ : ByteArray)), eq (.bool false), eq (.bool false), eq (.int .i64 0), eq (.int .i64 t72), eq (.int .i64 t52), eq (.int .i64 t54)], blk b46 30 [eq (.int .i64 a0.fKind), eq (.string a0.fRoom), eq (.string a0.fUser), eq (.string a0.fEvent), eq (.string a0.fThread), eq (.bool a0.fPrivate), eq (.bool a0.fOn), eq (.int .i64 a0.fSpan), eq (.int .i64 a0.fState), eq (.int .i64 a0.fTick), eq (.int .i64 a0.fStamp)]] ++ F) rfl trivial rfl rfl (cells_agg (ones_cons (one_eq rfl) (ones_cons (one_eq rfl) (ones_cons (one_eq rfl) (ones_cons (one_eq rfl) (ones_cons (one_eq rfl) (ones_cons (one_eq rfl) (ones_cons (one_eq rfl) (ones_cons (one_eq rfl) (ones_cons (one_eq rfl) (ones_cons (one_eq rfl) (ones_cons (one_eq rfl) ones_nil)))))))))))) Tryz.underlying30 c30 rfl (j := 1) rfl (Nat.le_of_ble_eq_true rfl) rfl nofun ?_
      refine .fin ?_
      obtain rfl := Gets.out H
      exact WP.retL (fun _ _ h => h) rfl () trivial (.cons (res_cells rfl Tryz.underlying30 rfl c30 (mem_at 1 rfl) rfl) .nil) rfl (st_seln 3 [0, 1, 2] 3 rfl rfl rfl)
theorem concourseref14_Made.c {k : Nat} {a0 : Edu} {r : Edu} (h : concourseref14_Made.f k a0 = some r) : Pt Tryz.prog 6 [agg (Edu.enc a0)] (agg (Edu.enc r)) := by
  unfold concourseref14_Made.f at h
  refine (Tr.body Tryz.func6 (c := _) rfl Tryz.ntmps6 (Nat.le_of_ble_eq_true rfl) fun R0 F => ?_).pt
  replace h := Gets.of h
  have H := h
  clear h
  refine WP.seq ?_
  refine WP.reg [(0, true), (1, true)] (by kernel_rfl) ?_
  refine Dv.box rfl trivial rfl (cells_agg (Edu.K.one _)) nofun (fun b74 => ?_)
  refine Dv.alloc (z := .agg #[.int .i64 0, .string ⟨#[]⟩, .string ⟨#[]⟩, .string ⟨#[]⟩, .string ⟨#[]⟩, .bool false, .bool false, .int .i64 0, .int .i64 0, .int .i64 0, .int .i64 0]) (qs := [eq (.int .i64 0), eq (.string (⟨#[]⟩ : ByteArray)), eq (.string (⟨#[]⟩ : ByteArray)), eq (.string (⟨#[]⟩ : ByteArray)), eq (.string (⟨#[]⟩ : ByteArray)), eq (.bool false), eq (.bool false), eq (.int .i64 0), eq (.int .i64 0), eq (.int .i64 0), eq (.int .i64 0)]) rfl trivial z30 rfl nofun (fun b75 => ?_)
  refine .fin ?_
  refine WP.seq ?_
  refine WP.reg [(0, false), (1, true)] (by kernel_rfl) ?_
  refine Dv.fab rfl trivial rfl Tryz.underlying30 rfl Tryz.underlying3 c3 (by decide) ?_
  refine Dv.stx ([blk b75 30 [eq (.int .i64 0), eq (.string (⟨#[]⟩ : ByteArray)), eq (.string (⟨#[]⟩ : ByteArray)), eq (.string (⟨#[]⟩ : ByteArray)), eq (.string (⟨#[]⟩ : ByteArray)), eq (.bool false), eq (.bool false), eq (.int .i64 0), eq (.int .i64 0), eq (.int .i64 0), eq (.int .i64 0)], blk b74 30 [eq (.int .i64 1), eq (.string a0.fRoom), eq (.string a0.fUser), eq (.string a0.fEvent), eq (.string a0.fThread), eq (.bool a0.fPrivate), eq (.bool a0.fOn), eq (.int .i64 a0.fSpan), eq (.int .i64 a0.fState), eq (.int .i64 a0.fTick), eq (.int .i64 a0.fStamp)]] ++ F) rfl trivial rfl rfl (cells_one (one_eq rfl)) Tryz.underlying3 c3 rfl (j := 1) rfl (Nat.le_of_ble_eq_true rfl) rfl nofun ?_
  refine .fin ?_
  refine WP.seq ?_
  refine WP.reg [(0, false), (1, false), (2, true)] (by kernel_rfl) ?_
  refine Dv.ldbs rfl trivial rfl Tryz.underlying30 rfl c30 (mem_at 1 rfl) (Nat.le_of_ble_eq_true rfl) ?_
  obtain ⟨t76, h77, H⟩ := Gets.call H
  refine Dv.call rfl trivial cal22 rfl (concourseref03_Good.c h77) ?_
  refine Dv.stx ([blk b75 30 [eq (.int .i64 t76.fKind), eq (.string t76.fRoom), eq (.string t76.fUser), eq (.string t76.fEvent), eq (.string t76.fThread), eq (.bool t76.fPrivate), eq (.bool t76.fOn), eq (.int .i64 t76.fSpan), eq (.int .i64 t76.fState), eq (.int .i64 t76.fTick), eq (.int .i64 t76.fStamp)], blk b74 30 [eq (.int .i64 1), eq (.string a0.fRoom), eq (.string a0.fUser), eq (.string a0.fEvent), eq (.string a0.fThread), eq (.bool a0.fPrivate), eq (.bool a0.fOn), eq (.int .i64 a0.fSpan), eq (.int .i64 a0.fState), eq (.int .i64 a0.fTick), eq (.int .i64 a0.fStamp)]] ++ F) rfl trivial rfl rfl (cells_agg (Edu.K.one _)) Tryz.underlying30 c30 rfl (j := 0) rfl (Nat.le_of_ble_eq_true rfl) rfl nofun ?_
  refine .fin ?_
  obtain rfl := Gets.out H
  exact WP.retL (fun _ _ h => h) rfl () trivial (.cons (res_cells rfl Tryz.underlying30 rfl c30 (mem_at 0 rfl) rfl) .nil) rfl (st_seln 2 [0, 1] 2 rfl rfl rfl)
theorem edu_asks_1.c {a0 : Int} {a1 : Int} {a2 : Int} {r : Bool} (h : edu_asks_1.f a0 a1 a2 = some r) : Pt Tryz.prog 95 [eq (.int .i64 a0), eq (.int .i64 a1), eq (.int .i64 a2)] (eq (.bool r)) := by
  unfold edu_asks_1.f at h
  refine (Tr.body Tryz.func95 (c := _) rfl Tryz.ntmps95 (Nat.le_of_ble_eq_true rfl) fun R0 F => ?_).pt
  replace h := Gets.of h
  have H := h
  clear h
  refine WP.seq ?_
  refine WP.reg [(0, false)] (by kernel_rfl) ?_
  refine as0 rfl rfl ?_
  refine .fin ?_
  refine WP.seq ?_
  refine WP.reg [(0, false), (1, false), (2, false), (3, false), (4, false), (5, false), (6, false), (7, false), (8, false)] (by kernel_rfl) ?_
  refine mv0 rfl rfl ?_
  refine mv0 rfl rfl ?_
  refine Dv.bin rfl trivial rfl rfl (fun _ => run_ge) ?_
  refine mv0 rfl rfl ?_
  cases c78 : decide (a1 ≤ a0)
  · replace H := Gets.cf H c78
    refine sk rfl rfl rfl rfl rfl ?_
    refine sk rfl rfl rfl rfl rfl ?_
    refine sk rfl rfl rfl rfl rfl ?_
    refine Dv.pickF rfl trivial rfl rfl ?_
    refine as0 rfl rfl ?_
    refine .fin ?_
    obtain rfl := Gets.out H
    exact WP.retL (fun _ _ h => h) rfl () trivial (.cons (res_tmp rfl) .nil) rfl (st_seln 0 [] 0 rfl rfl rfl)
  · replace H := Gets.ct H c78
    refine Dv.mv rfl ⟨_, _, rfl, rfl, rfl⟩ rfl ?_
    refine Dv.mv rfl ⟨_, _, rfl, rfl, rfl⟩ rfl ?_
    refine Dv.bin rfl ⟨_, _, rfl, rfl, rfl⟩ rfl rfl (fun _ => run_le) ?_
    refine Dv.pickT rfl trivial rfl rfl ?_
    refine as0 rfl rfl ?_
    refine .fin ?_
    obtain rfl := Gets.out H
    exact WP.retL (fun _ _ h => h) rfl () trivial (.cons (res_tmp rfl) .nil) rfl (st_seln 0 [] 0 rfl rfl rfl)
theorem edu_asks_2.c {a0 : Edu} {r : Bool} (h : edu_asks_2.f a0 = some r) : Pt Tryz.prog 96 [agg (Edu.enc a0)] (eq (.bool r)) := by
  unfold edu_asks_2.f at h
  refine (Tr.body Tryz.func96 (c := _) rfl Tryz.ntmps96 (Nat.le_of_ble_eq_true rfl) fun R0 F => ?_).pt
  replace h := Gets.of h
  have H := h
  clear h
  refine WP.seq ?_
  refine WP.reg [(0, true), (1, false)] (by kernel_rfl) ?_
  refine Dv.box rfl trivial rfl (cells_agg (Edu.K.one _)) nofun (fun b79 => ?_)
  refine as0 rfl rfl ?_
  refine .fin ?_
  refine WP.seq ?_
  refine WP.reg [(0, false)] (by kernel_rfl) ?_
  refine as0 rfl rfl ?_
  refine .fin ?_
  obtain rfl := Gets.out H
  exact WP.retL (fun _ _ h => h) rfl () trivial (.cons (res_tmp rfl) .nil) rfl (st_seln 1 [0] 1 rfl rfl rfl)
theorem stringslite_IndexByte.c {a0 : ByteArray} {a1 : Int} {r : Int} (h : stringslite_IndexByte.f a0 a1 = some r) : Pt Tryz.prog 110 [eq (.string a0), eq (.int .u8 a1)] (eq (.int .i64 r)) := by
  unfold stringslite_IndexByte.f at h
  refine (Tr.body Tryz.func110 (c := _) rfl Tryz.ntmps110 (Nat.le_of_ble_eq_true rfl) fun R0 F => ?_).pt
  replace h := Gets.of h
  have H := h
  clear h
  refine WP.seq ?_
  refine WP.reg [(0, false)] (by kernel_rfl) ?_
  refine as0 rfl rfl ?_
  refine .fin ?_
  refine WP.seq ?_
  refine WP.reg [(0, false), (1, false), (2, false), (3, false)] (by kernel_rfl) ?_
  refine mv0 rfl rfl ?_
  refine mv0 rfl rfl ?_
  refine Dv.cext rfl trivial rfl (xt_index Tryz.func122 (by kernel_rfl) rfl xf122 xg122) ?_
  refine as0 rfl rfl ?_
  refine .fin ?_
  obtain rfl := Gets.out H
  exact WP.retL (fun _ _ h => h) rfl () trivial (.cons (res_tmp rfl) .nil) rfl (st_seln 0 [] 0 rfl rfl rfl)
theorem bytealg_Cutover.c {a0 : Int} {r : Int} (h : bytealg_Cutover.f a0 = some r) : Pt Tryz.prog 112 [eq (.int .i64 a0)] (eq (.int .i64 r)) := by
  unfold bytealg_Cutover.f at h
  refine (Tr.body Tryz.func112 (c := _) rfl Tryz.ntmps112 (Nat.le_of_ble_eq_true rfl) fun R0 F => ?_).pt
  replace h := Gets.of h
  have H := h
  clear h
  refine WP.seq ?_
  refine WP.reg [(0, false)] (by kernel_rfl) ?_
  refine as0 rfl rfl ?_
  refine .fin ?_
  refine WP.seq ?_
  refine WP.reg [(0, false), (1, false), (2, false), (3, false)] (by kernel_rfl) ?_
  refine mv0 rfl rfl ?_
  refine Dv.bin rfl trivial rfl rfl (fun _ => run_add) ?_
  refine Dv.bin rfl trivial rfl rfl (fun _ => run_quo (by decide)) ?_
  refine as0 rfl rfl ?_
  refine .fin ?_
  obtain rfl := Gets.out H
  exact WP.retL (fun _ _ h => h) rfl () trivial (.cons (res_tmp rfl) .nil) rfl (st_seln 0 [] 0 rfl rfl rfl)
theorem stringslite_Index.c {a0 : ByteArray} {a1 : ByteArray} {r : Int} (h : stringslite_Index.f a0 a1 = some r) : Pt Tryz.prog 79 [eq (.string a0), eq (.string a1)] (eq (.int .i64 r)) := by
  unfold stringslite_Index.f at h
  refine (Tr.body Tryz.func79 (c := _) rfl Tryz.ntmps79 (Nat.le_of_ble_eq_true rfl) fun R0 F => ?_).pt
  replace h := Gets.of h
  have H := h
  clear h
  refine WP.seq ?_
  refine WP.reg [(0, false)] (by kernel_rfl) ?_
  refine as0 rfl rfl ?_
  refine .fin ?_
  refine WP.seq ?_
  refine WP.reg [(0, false), (1, false), (2, false)] (by kernel_rfl) ?_
  refine mv0 rfl rfl ?_
  refine Dv.lens rfl trivial rfl Tryz.underlying9 ?_
  refine as0 rfl rfl ?_
  refine .fin ?_
  refine WP.seq ?_
  refine WP.block ?_
  refine WP.seq ?_
  refine WP.reg [(0, false), (1, false), (2, false), (3, false), (4, false), (5, false), (6, false), (7, false)] (by kernel_rfl) ?_
  refine mv0 rfl rfl ?_
  refine Dv.bin rfl trivial rfl rfl (fun _ => run_eq) ?_
  refine mv0 rfl rfl ?_
  cases c82 : ((a1.size : Int) == 0)
  · replace H := Gets.cf H c82
    refine Dv.mv rfl ⟨_, _, rfl, rfl, rfl⟩ rfl ?_
    refine Dv.mv rfl ⟨_, _, rfl, rfl, rfl⟩ rfl ?_
    refine Dv.bin rfl ⟨_, _, rfl, rfl, rfl⟩ rfl rfl (fun _ => run_seq) ?_
    refine Dv.pickF rfl trivial rfl rfl ?_
    refine as0 rfl rfl ?_
    refine .fin ?_
    refine WP.cond rfl (fun c84 => ?_) (fun c84 => ?_)
    · replace H := Gets.ct H c84
      refine WP.seq ?_
      refine WP.reg [(0, false)] (by kernel_rfl) ?_
      refine as0 rfl rfl ?_
      refine .fin ?_
      obtain rfl := Gets.out H
      exact WP.retL (fun _ _ h => h) rfl () trivial (.cons (res_tmp rfl) .nil) rfl (st_seln 0 [] 0 rfl rfl rfl)
    · replace H := Gets.cf H c84
      refine WP.seq ?_
      refine WP.reg [(0, false), (1, false), (2, false)] (by kernel_rfl) ?_
      refine mv0 rfl rfl ?_
      refine Dv.bin rfl trivial rfl rfl (fun _ => run_eq) ?_
      refine as0 rfl rfl ?_
      refine .fin ?_
      refine WP.cond rfl (fun c85 => ?_) (fun c85 => ?_)
      · replace H := Gets.ct H c85
        refine WP.seq ?_
        refine WP.reg [(0, false), (1, false), (2, false), (3, false), (4, false)] (by kernel_rfl) ?_
        refine mv0 rfl rfl ?_
        refine mv0 rfl rfl ?_
        obtain ⟨g86, H⟩ := Gets.grd H
        refine Dv.ixs rfl trivial rfl rfl Tryz.underlying9 g86.1 g86.2 ?_
        obtain ⟨t87, h88, H⟩ := Gets.call H
        refine Dv.call rfl trivial cal110 rfl (stringslite_IndexByte.c h88) ?_
        refine as0 rfl rfl ?_
        refine .fin ?_
        obtain rfl := Gets.out H
        exact WP.retL (fun _ _ h => h) rfl () trivial (.cons (res_tmp rfl) .nil) rfl (st_seln 0 [] 0 rfl rfl rfl)
      · replace H := Gets.cf H c85
        refine WP.seq ?_
        refine WP.reg [(0, false), (1, false), (2, false), (3, false), (4, false)] (by kernel_rfl) ?_
        refine mv0 rfl rfl ?_
        refine mv0 rfl rfl ?_
        refine Dv.lens rfl trivial rfl Tryz.underlying9 ?_
        refine Dv.bin rfl trivial rfl rfl (fun _ => run_ge) ?_
        refine as0 rfl rfl ?_
        refine .fin ?_
        refine WP.cond rfl (fun c89 => ?_) (fun c89 => ?_)
        · replace H := Gets.ct H c89
          refine WP.seq ?_
          refine WP.reg [(0, false)] (by kernel_rfl) ?_
          refine as0 rfl rfl ?_
          refine .fin ?_
          obtain rfl := Gets.out H
          exact WP.retL (fun _ _ h => h) rfl () trivial (.cons (res_tmp rfl) .nil) rfl (st_seln 0 [] 0 rfl rfl rfl)
        · replace H := Gets.cf H c89
          exact (Gets.no H).elim
  · replace H := Gets.ct H c82
    refine sk rfl rfl rfl rfl rfl ?_
    refine sk rfl rfl rfl rfl rfl ?_
    refine sk rfl rfl rfl rfl rfl ?_
    refine Dv.pickT rfl trivial rfl rfl ?_
    refine as0 rfl rfl ?_
    refine .fin ?_
    refine WP.cond rfl (fun _ => ?_) nofun
    refine WP.seq ?_
    refine WP.reg [(0, false)] (by kernel_rfl) ?_
    refine as0 rfl rfl ?_
    refine .fin ?_
    obtain rfl := Gets.out H
    exact WP.retL (fun _ _ h => h) rfl () trivial (.cons (res_tmp rfl) .nil) rfl (st_seln 0 [] 0 rfl rfl rfl)
theorem stringslite_Cut.c {a0 : ByteArray} {a1 : ByteArray} {r : ByteArray × ByteArray × Bool} (h : stringslite_Cut.f a0 a1 = some r) : Pt Tryz.prog 58 [eq (.string a0), eq (.string a1)] (tup [eq (.string r.1), eq (.string r.2.1), eq (.bool r.2.2)]) := by
  unfold stringslite_Cut.f at h
  refine (Tr.body Tryz.func58 (c := _) rfl Tryz.ntmps58 (Nat.le_of_ble_eq_true rfl) fun R0 F => ?_).pt
  replace h := Gets.of h
  have H := h
  clear h
  refine WP.seq ?_
  refine WP.reg [(0, false), (1, false), (2, false)] (by kernel_rfl) ?_
  refine as0 rfl rfl ?_
  refine as0 rfl rfl ?_
  refine as0 rfl rfl ?_
  refine .fin ?_
  refine WP.seq ?_
  refine WP.seq ?_
  refine WP.reg [(0, false), (1, false), (2, false), (3, false)] (by kernel_rfl) ?_
  refine mv0 rfl rfl ?_
  refine mv0 rfl rfl ?_
  obtain ⟨t90, h91, H⟩ := Gets.call H
  refine Dv.call rfl trivial cal79 rfl (stringslite_Index.c h91) ?_
  refine as0 rfl rfl ?_
  refine .fin ?_
  refine WP.seq ?_
  refine WP.reg [(0, false), (1, false)] (by kernel_rfl) ?_
  refine mv0 rfl rfl ?_
  refine Dv.bin rfl trivial rfl rfl (fun _ => run_ge) ?_
  refine .fin ?_
  refine WP.cond rfl (fun c92 => ?_) (fun c92 => ?_)
  · replace H := Gets.ct H c92
    refine WP.seq ?_
    refine WP.dreg Tryz.checked.mixed [(0, false), (1, false), (2, false), (3, false), (4, false), (5, false), (6, false), (7, false), (8, false), (9, false), (10, false), (11, false)] (by kernel_rfl) ?_
    refine mv0 rfl rfl ?_
    refine mv0 rfl rfl ?_
    obtain ⟨g93, H⟩ := Gets.grd H
    refine Dv.sss rfl trivial rfl Tryz.underlying9 bdE_none (bdE_some rfl g93.1) g93.2.1 g93.2.2 ?_
    refine mv0 rfl rfl ?_
    refine mv0 rfl rfl ?_
    refine mv0 rfl rfl ?_
    refine Dv.lens rfl trivial rfl Tryz.underlying9 ?_
    refine Dv.bin rfl trivial rfl rfl (fun _ => run_add) ?_
    obtain ⟨g94, H⟩ := Gets.grd H
    refine Dv.sss rfl trivial rfl Tryz.underlying9 (bdE_some rfl g94.1) bdE_none g94.2.1 g94.2.2 ?_
    refine as0 rfl rfl ?_
    refine as0 rfl rfl ?_
    refine as0 rfl rfl ?_
    refine .fin ?_
    obtain rfl := Gets.out H
    exact WP.retL (fun _ _ h => h) rfl () trivial (.cons (res_tmp rfl) (.cons (res_tmp rfl) (.cons (res_tmp rfl) .nil))) rfl (st_seln 0 [] 0 rfl rfl rfl)
  · replace H := Gets.cf H c92
    refine WP.skip ?_
    refine WP.seq ?_
    refine WP.reg [(0, false), (1, false), (2, false), (3, false)] (by kernel_rfl) ?_
    refine mv0 rfl rfl ?_
    refine as0 rfl rfl ?_
    refine as0 rfl rfl ?_
    refine as0 rfl rfl ?_
    refine .fin ?_
    obtain rfl := Gets.out H
    exact WP.retL (fun _ _ h => h) rfl () trivial (.cons (res_tmp rfl) (.cons (res_tmp rfl) (.cons (res_tmp rfl) .nil))) rfl (st_seln 0 [] 0 rfl rfl rfl)
theorem strings_Cut.c {a0 : ByteArray} {a1 : ByteArray} {r : ByteArray × ByteArray × Bool} (h : strings_Cut.f a0 a1 = some r) : Pt Tryz.prog 35 [eq (.string a0), eq (.string a1)] (tup [eq (.string r.1), eq (.string r.2.1), eq (.bool r.2.2)]) := by
  unfold strings_Cut.f at h
  refine (Tr.body Tryz.func35 (c := _) rfl Tryz.ntmps35 (Nat.le_of_ble_eq_true rfl) fun R0 F => ?_).pt
  replace h := Gets.of h
  have H := h
  clear h
  refine WP.seq ?_
  refine WP.reg [(0, false), (1, false), (2, false)] (by kernel_rfl) ?_
  refine as0 rfl rfl ?_
  refine as0 rfl rfl ?_
  refine as0 rfl rfl ?_
  refine .fin ?_
  refine WP.seq ?_
  refine WP.reg [(0, false), (1, false), (2, false), (3, false), (4, false), (5, false), (6, false), (7, false), (8, false)] (by kernel_rfl) ?_
  refine mv0 rfl rfl ?_
  refine mv0 rfl rfl ?_
  obtain ⟨t95, h96, H⟩ := Gets.call H
  refine Dv.call rfl trivial cal58 rfl (stringslite_Cut.c h96) ?_
  refine Dv.ext rfl trivial rfl rfl ?_
  refine Dv.ext rfl trivial rfl rfl ?_
  refine Dv.ext rfl trivial rfl rfl ?_
  refine as0 rfl rfl ?_
  refine as0 rfl rfl ?_
  refine as0 rfl rfl ?_
  refine .fin ?_
  obtain rfl := Gets.out H
  exact WP.retL (fun _ _ h => h) rfl () trivial (.cons (res_tmp rfl) (.cons (res_tmp rfl) (.cons (res_tmp rfl) .nil))) rfl (st_seln 0 [] 0 rfl rfl rfl)
theorem stringslite_HasPrefix.c {a0 : ByteArray} {a1 : ByteArray} {r : Bool} (h : stringslite_HasPrefix.f a0 a1 = some r) : Pt Tryz.prog 128 [eq (.string a0), eq (.string a1)] (eq (.bool r)) := by
  unfold stringslite_HasPrefix.f at h
  refine (Tr.body Tryz.func128 (c := _) rfl Tryz.ntmps128 (Nat.le_of_ble_eq_true rfl) fun R0 F => ?_).pt
  replace h := Gets.of h
  have H := h
  clear h
  refine WP.seq ?_
  refine WP.reg [(0, false)] (by kernel_rfl) ?_
  refine as0 rfl rfl ?_
  refine .fin ?_
  refine WP.seq ?_
  refine WP.reg [(0, false), (1, false), (2, false), (3, false), (4, false), (5, false), (6, false), (7, false), (8, false), (9, false), (10, false), (11, false), (12, false), (13, false)] (by kernel_rfl) ?_
  refine mv0 rfl rfl ?_
  refine Dv.lens rfl trivial rfl Tryz.underlying9 ?_
  refine mv0 rfl rfl ?_
  refine Dv.lens rfl trivial rfl Tryz.underlying9 ?_
  refine Dv.bin rfl trivial rfl rfl (fun _ => run_ge) ?_
  refine mv0 rfl rfl ?_
  cases c97 : decide ((a1.size : Int) ≤ (a0.size : Int))
  · replace H := Gets.cf H c97
    refine sk rfl rfl rfl rfl rfl ?_
    refine sk rfl rfl rfl rfl rfl ?_
    refine sk rfl rfl rfl rfl rfl ?_
    refine sk rfl rfl rfl rfl rfl ?_
    refine sk rfl rfl rfl rfl rfl ?_
    refine sk rfl rfl rfl rfl rfl ?_
    refine Dv.pickF rfl trivial rfl rfl ?_
    refine as0 rfl rfl ?_
    refine .fin ?_
    obtain rfl := Gets.out H
    exact WP.retL (fun _ _ h => h) rfl () trivial (.cons (res_tmp rfl) .nil) rfl (st_seln 0 [] 0 rfl rfl rfl)
  · replace H := Gets.ct H c97
    refine Dv.mv rfl ⟨_, _, rfl, rfl, rfl⟩ rfl ?_
    refine Dv.mv rfl ⟨_, _, rfl, rfl, rfl⟩ rfl ?_
    refine Dv.lens rfl ⟨_, _, rfl, rfl, rfl⟩ rfl Tryz.underlying9 ?_
    obtain ⟨g98, H⟩ := Gets.grd H
    refine Dv.sss rfl ⟨_, _, rfl, rfl, rfl⟩ rfl Tryz.underlying9 bdE_none (bdE_some rfl g98.1) g98.2.1 g98.2.2 ?_
    refine Dv.mv rfl ⟨_, _, rfl, rfl, rfl⟩ rfl ?_
    refine Dv.bin rfl ⟨_, _, rfl, rfl, rfl⟩ rfl rfl (fun _ => run_seq) ?_
    refine Dv.pickT rfl trivial rfl rfl ?_
    refine as0 rfl rfl ?_
    refine .fin ?_
    obtain rfl := Gets.out H
    exact WP.retL (fun _ _ h => h) rfl () trivial (.cons (res_tmp rfl) .nil) rfl (st_seln 0 [] 0 rfl rfl rfl)
theorem stringslite_CutPrefix.c {a0 : ByteArray} {a1 : ByteArray} {r : ByteArray × Bool} (h : stringslite_CutPrefix.f a0 a1 = some r) : Pt Tryz.prog 125 [eq (.string a0), eq (.string a1)] (tup [eq (.string r.1), eq (.bool r.2)]) := by
  unfold stringslite_CutPrefix.f at h
  refine (Tr.body Tryz.func125 (c := _) rfl Tryz.ntmps125 (Nat.le_of_ble_eq_true rfl) fun R0 F => ?_).pt
  replace h := Gets.of h
  have H := h
  clear h
  refine WP.seq ?_
  refine WP.reg [(0, false), (1, false)] (by kernel_rfl) ?_
  refine as0 rfl rfl ?_
  refine as0 rfl rfl ?_
  refine .fin ?_
  refine WP.seq ?_
  refine WP.seq ?_
  refine WP.reg [(0, false), (1, false), (2, false), (3, false)] (by kernel_rfl) ?_
  refine mv0 rfl rfl ?_
  refine mv0 rfl rfl ?_
  obtain ⟨t99, h100, H⟩ := Gets.call H
  refine Dv.call rfl trivial cal128 rfl (stringslite_HasPrefix.c h100) ?_
  refine Dv.un rfl trivial rfl (fun _ => run_not _) ?_
  refine .fin ?_
  refine WP.cond rfl (fun c101 => ?_) (fun c101 => ?_)
  · replace H := Gets.ct H c101
    refine WP.seq ?_
    refine WP.reg [(0, false), (1, false), (2, false)] (by kernel_rfl) ?_
    refine mv0 rfl rfl ?_
    refine as0 rfl rfl ?_
    refine as0 rfl rfl ?_
    refine .fin ?_
    obtain rfl := Gets.out H
    exact WP.retL (fun _ _ h => h) rfl () trivial (.cons (res_tmp rfl) (.cons (res_tmp rfl) .nil)) rfl (st_seln 0 [] 0 rfl rfl rfl)
  · replace H := Gets.cf H c101
    refine WP.skip ?_
    refine WP.seq ?_
    refine WP.reg [(0, false), (1, false), (2, false), (3, false), (4, false), (5, false)] (by kernel_rfl) ?_
    refine mv0 rfl rfl ?_
    refine mv0 rfl rfl ?_
    refine Dv.lens rfl trivial rfl Tryz.underlying9 ?_
    obtain ⟨g102, H⟩ := Gets.grd H
    refine Dv.sss rfl trivial rfl Tryz.underlying9 (bdE_some rfl g102.1) bdE_none g102.2.1 g102.2.2 ?_
    refine as0 rfl rfl ?_
    refine as0 rfl rfl ?_
    refine .fin ?_
    obtain rfl := Gets.out H
    exact WP.retL (fun _ _ h => h) rfl () trivial (.cons (res_tmp rfl) (.cons (res_tmp rfl) .nil)) rfl (st_seln 0 [] 0 rfl rfl rfl)
theorem strings_CutPrefix.c {a0 : ByteArray} {a1 : ByteArray} {r : ByteArray × Bool} (h : strings_CutPrefix.f a0 a1 = some r) : Pt Tryz.prog 119 [eq (.string a0), eq (.string a1)] (tup [eq (.string r.1), eq (.bool r.2)]) := by
  unfold strings_CutPrefix.f at h
  refine (Tr.body Tryz.func119 (c := _) rfl Tryz.ntmps119 (Nat.le_of_ble_eq_true rfl) fun R0 F => ?_).pt
  replace h := Gets.of h
  have H := h
  clear h
  refine WP.seq ?_
  refine WP.reg [(0, false), (1, false)] (by kernel_rfl) ?_
  refine as0 rfl rfl ?_
  refine as0 rfl rfl ?_
  refine .fin ?_
  refine WP.seq ?_
  refine WP.reg [(0, false), (1, false), (2, false), (3, false), (4, false), (5, false), (6, false)] (by kernel_rfl) ?_
  refine mv0 rfl rfl ?_
  refine mv0 rfl rfl ?_
  obtain ⟨t103, h104, H⟩ := Gets.call H
  refine Dv.call rfl trivial cal125 rfl (stringslite_CutPrefix.c h104) ?_
  refine Dv.ext rfl trivial rfl rfl ?_
  refine Dv.ext rfl trivial rfl rfl ?_
  refine as0 rfl rfl ?_
  refine as0 rfl rfl ?_
  refine .fin ?_
  obtain rfl := Gets.out H
  exact WP.retL (fun _ _ h => h) rfl () trivial (.cons (res_tmp rfl) (.cons (res_tmp rfl) .nil)) rfl (st_seln 0 [] 0 rfl rfl rfl)
theorem name_small.c {a0 : Int} {r : Bool} (h : name_small.f a0 = some r) : Pt Tryz.prog 127 [eq (.int .u8 a0)] (eq (.bool r)) := by
  unfold name_small.f at h
  refine (Tr.body Tryz.func127 (c := _) rfl Tryz.ntmps127 (Nat.le_of_ble_eq_true rfl) fun R0 F => ?_).pt
  replace h := Gets.of h
  have H := h
  clear h
  refine WP.seq ?_
  refine WP.reg [(0, false)] (by kernel_rfl) ?_
  refine as0 rfl rfl ?_
  refine .fin ?_
  refine WP.seq ?_
  refine WP.reg [(0, false), (1, false), (2, false), (3, false), (4, false), (5, false), (6, false), (7, false), (8, false), (9, false), (10, false), (11, false), (12, false), (13, false), (14, false)] (by kernel_rfl) ?_
  refine mv0 rfl rfl ?_
  refine Dv.bin rfl trivial rfl rfl (fun _ => run_ge) ?_
  refine mv0 rfl rfl ?_
  cases c105 : decide (97 ≤ a0)
  · replace H := Gets.cf H c105
    refine sk rfl rfl rfl rfl rfl ?_
    refine sk rfl rfl rfl rfl rfl ?_
    refine Dv.pickF rfl trivial rfl rfl ?_
    refine mv0 rfl rfl ?_
    refine Dv.mv rfl ⟨_, _, rfl, rfl, rfl⟩ rfl ?_
    refine Dv.bin rfl ⟨_, _, rfl, rfl, rfl⟩ rfl rfl (fun _ => run_ge) ?_
    refine Dv.mv rfl ⟨_, _, rfl, rfl, rfl⟩ rfl ?_
    cases c108 : decide (48 ≤ a0)
    · replace H := Gets.cf H c108
      refine sk rfl rfl rfl rfl rfl ?_
      refine sk rfl rfl rfl rfl rfl ?_
      refine Dv.pickF rfl ⟨_, _, rfl, rfl, rfl⟩ rfl rfl ?_
      refine Dv.pickF rfl trivial rfl rfl ?_
      refine as0 rfl rfl ?_
      refine .fin ?_
      obtain rfl := Gets.out H
      exact WP.retL (fun _ _ h => h) rfl () trivial (.cons (res_tmp rfl) .nil) rfl (st_seln 0 [] 0 rfl rfl rfl)
    · replace H := Gets.ct H c108
      refine Dv.mv rfl ⟨_, _, rfl, rfl, rfl⟩ rfl ?_
      refine Dv.bin rfl ⟨_, _, rfl, rfl, rfl⟩ rfl rfl (fun _ => run_le) ?_
      refine Dv.pickT rfl ⟨_, _, rfl, rfl, rfl⟩ rfl rfl ?_
      refine Dv.pickF rfl trivial rfl rfl ?_
      refine as0 rfl rfl ?_
      refine .fin ?_
      obtain rfl := Gets.out H
      exact WP.retL (fun _ _ h => h) rfl () trivial (.cons (res_tmp rfl) .nil) rfl (st_seln 0 [] 0 rfl rfl rfl)
  · replace H := Gets.ct H c105
    refine Dv.mv rfl ⟨_, _, rfl, rfl, rfl⟩ rfl ?_
    refine Dv.bin rfl ⟨_, _, rfl, rfl, rfl⟩ rfl rfl (fun _ => run_le) ?_
    refine Dv.pickT rfl trivial rfl rfl ?_
    refine mv0 rfl rfl ?_
    cases c106 : decide (a0 ≤ 122)
    · replace H := Gets.cf H c106
      refine Dv.mv rfl ⟨_, _, rfl, rfl, rfl⟩ rfl ?_
      refine Dv.bin rfl ⟨_, _, rfl, rfl, rfl⟩ rfl rfl (fun _ => run_ge) ?_
      refine Dv.mv rfl ⟨_, _, rfl, rfl, rfl⟩ rfl ?_
      cases c107 : decide (48 ≤ a0)
      · replace H := Gets.cf H c107
        refine sk rfl rfl rfl rfl rfl ?_
        refine sk rfl rfl rfl rfl rfl ?_
        refine Dv.pickF rfl ⟨_, _, rfl, rfl, rfl⟩ rfl rfl ?_
        refine Dv.pickF rfl trivial rfl rfl ?_
        refine as0 rfl rfl ?_
        refine .fin ?_
        obtain rfl := Gets.out H
        exact WP.retL (fun _ _ h => h) rfl () trivial (.cons (res_tmp rfl) .nil) rfl (st_seln 0 [] 0 rfl rfl rfl)
      · replace H := Gets.ct H c107
        refine Dv.mv rfl ⟨_, _, rfl, rfl, rfl⟩ rfl ?_
        refine Dv.bin rfl ⟨_, _, rfl, rfl, rfl⟩ rfl rfl (fun _ => run_le) ?_
        refine Dv.pickT rfl ⟨_, _, rfl, rfl, rfl⟩ rfl rfl ?_
        refine Dv.pickF rfl trivial rfl rfl ?_
        refine as0 rfl rfl ?_
        refine .fin ?_
        obtain rfl := Gets.out H
        exact WP.retL (fun _ _ h => h) rfl () trivial (.cons (res_tmp rfl) .nil) rfl (st_seln 0 [] 0 rfl rfl rfl)
    · replace H := Gets.ct H c106
      refine sk rfl rfl rfl rfl rfl ?_
      refine sk rfl rfl rfl rfl rfl ?_
      refine sk rfl rfl rfl rfl rfl ?_
      refine Dv.skip rfl ⟨_, _, rfl, rfl, .inr rfl⟩ ?_
      refine Dv.skip rfl ⟨_, _, rfl, rfl, .inr rfl⟩ ?_
      refine sk rfl rfl rfl rfl rfl ?_
      refine Dv.pickT rfl trivial rfl rfl ?_
      refine as0 rfl rfl ?_
      refine .fin ?_
      obtain rfl := Gets.out H
      exact WP.retL (fun _ _ h => h) rfl () trivial (.cons (res_tmp rfl) .nil) rfl (st_seln 0 [] 0 rfl rfl rfl)
theorem strings_IndexByte.c {a0 : ByteArray} {a1 : Int} {r : Int} (h : strings_IndexByte.f a0 a1 = some r) : Pt Tryz.prog 130 [eq (.string a0), eq (.int .u8 a1)] (eq (.int .i64 r)) := by
  unfold strings_IndexByte.f at h
  refine (Tr.body Tryz.func130 (c := _) rfl Tryz.ntmps130 (Nat.le_of_ble_eq_true rfl) fun R0 F => ?_).pt
  replace h := Gets.of h
  have H := h
  clear h
  refine WP.seq ?_
  refine WP.reg [(0, false)] (by kernel_rfl) ?_
  refine as0 rfl rfl ?_
  refine .fin ?_
  refine WP.seq ?_
  refine WP.reg [(0, false), (1, false), (2, false), (3, false)] (by kernel_rfl) ?_
  refine mv0 rfl rfl ?_
  refine mv0 rfl rfl ?_
  obtain ⟨t109, h110, H⟩ := Gets.call H
  refine Dv.call rfl trivial cal110 rfl (stringslite_IndexByte.c h110) ?_
  refine as0 rfl rfl ?_
  refine .fin ?_
  obtain rfl := Gets.out H
  exact WP.retL (fun _ _ h => h) rfl () trivial (.cons (res_tmp rfl) .nil) rfl (st_seln 0 [] 0 rfl rfl rfl)
theorem name_among_1.c {a0 : Int} {c0 : ByteArray} {r : Bool} (h : name_among_1.f a0 c0 = some r) : Pt Tryz.prog 129 [eq (.int .u8 a0), rp [eq (.string c0)]] (eq (.bool r)) := by
  unfold name_among_1.f at h
  refine (Tr.body Tryz.func129 (c := _) rfl Tryz.ntmps129 (Nat.le_of_ble_eq_true rfl) fun R0 F => ?_).pt
  replace h := Gets.of h
  have H := h
  clear h
  refine WP.seq ?_
  refine WP.reg [(0, false)] (by kernel_rfl) ?_
  refine as0 rfl rfl ?_
  refine .fin ?_
  refine WP.seq ?_
  refine WP.reg [(0, false), (1, false), (2, false), (3, false), (4, false), (5, false), (6, false), (7, false), (8, false)] (by kernel_rfl) ?_
  refine mv0 rfl rfl ?_
  obtain ⟨t111, h112, H⟩ := Gets.call H
  refine Dv.call rfl trivial cal127 rfl (name_small.c h112) ?_
  refine mv0 rfl rfl ?_
  cases c113 : t111
  · replace H := Gets.cf H c113
    refine Dv.ldr rfl ⟨_, _, rfl, rfl, rfl⟩ rfl Tryz.underlying9 rfl rfl ?_
    refine Dv.mv rfl ⟨_, _, rfl, rfl, rfl⟩ rfl ?_
    obtain ⟨t114, h115, H⟩ := Gets.call H
    refine Dv.call rfl ⟨_, _, rfl, rfl, rfl⟩ cal130 rfl (strings_IndexByte.c h115) ?_
    refine Dv.bin rfl ⟨_, _, rfl, rfl, rfl⟩ rfl rfl (fun _ => run_ge) ?_
    refine Dv.pickF rfl trivial rfl rfl ?_
    refine as0 rfl rfl ?_
    refine .fin ?_
    obtain rfl := Gets.out H
    exact WP.retL (fun _ _ h => h) rfl () trivial (.cons (res_tmp rfl) .nil) rfl (st_seln 0 [] 0 rfl rfl rfl)
  · replace H := Gets.ct H c113
    refine sk rfl rfl rfl rfl rfl ?_
    refine sk rfl rfl rfl rfl rfl ?_
    refine sk rfl rfl rfl rfl rfl ?_
    refine sk rfl rfl rfl rfl rfl ?_
    refine Dv.pickT rfl trivial rfl rfl ?_
    refine as0 rfl rfl ?_
    refine .fin ?_
    obtain rfl := Gets.out H
    exact WP.retL (fun _ _ h => h) rfl () trivial (.cons (res_tmp rfl) .nil) rfl (st_seln 0 [] 0 rfl rfl rfl)
theorem name_among.c {a0 : ByteArray} {r : (Int → Option Bool)} (h : name_among.f a0 = some r) : Pt Tryz.prog 126 [eq (.string a0)] (fq_uint8_bool r) := by
  unfold name_among.f at h
  refine (Tr.body Tryz.func126 (c := _) rfl Tryz.ntmps126 (Nat.le_of_ble_eq_true rfl) fun R0 F => ?_).pt
  replace h := Gets.of h
  have H := h
  clear h
  refine WP.seq ?_
  refine WP.reg [(0, true), (1, false)] (by kernel_rfl) ?_
  refine Dv.box rfl trivial rfl (cells_one (one_eq rfl)) nofun (fun b116 => ?_)
  refine as0 rfl rfl ?_
  refine .fin ?_
  refine WP.seq ?_
  refine WP.reg [(0, false), (1, false)] (by kernel_rfl) ?_
  refine Dv.gh (gh_frzb (E' := [(0, eq (.string a0)), (1, rp [eq (.string a0)]), (2, eq .nilFunc)]) (l' := [] ++ F) 0 rfl (cve_cons rfl cv_id (cve_cons rfl cv_eq (cve_cons rfl cv_id cve_nil))) (all2_app .nil fun _ => cva_id)) (fun _ _ => ?_)
  refine Dv.mkf (Q := fqQ_uint8_bool (fun a0_ => name_among_1.f a0_ a0)) cal129 (by rintro _ _ ⟨a0_, r_, h_, rfl, rfl⟩; exact name_among_1.c h_) rfl trivial rfl rfl ?_
  refine as0 rfl rfl ?_
  refine .fin ?_
  obtain rfl := Gets.out H
  exact WP.retL (fun _ _ h => h) rfl () trivial (.cons (res_tmp rfl) .nil) rfl (st_seln 0 [] 0 rfl rfl rfl)
theorem name_may.c {k : Nat} {a0 : ByteArray} {a1 : Int} {r : Bool} (h : name_may.f k a0 a1 = some r) : Pt Tryz.prog 120 [eq (.string a0), eq (.int .i64 a1)] (eq (.bool r)) := by
  unfold name_may.f at h
  refine (Tr.body Tryz.func120 (c := _) rfl Tryz.ntmps120 (Nat.le_of_ble_eq_true rfl) fun R0 F => ?_).pt
  replace h := Gets.of h
  have H := h
  clear h
  refine WP.seq ?_
  refine WP.reg [(0, false)] (by kernel_rfl) ?_
  refine as0 rfl rfl ?_
  refine .fin ?_
  refine WP.seq ?_
  refine WP.reg [(0, false), (1, false), (2, false), (3, false), (4, false), (5, false), (6, false)] (by kernel_rfl) ?_
  obtain ⟨t117, h118, H⟩ := Gets.call H
  refine Dv.call rfl trivial cal126 rfl (name_among.c h118) ?_
  obtain ⟨t119, h120, H⟩ := Gets.call H
  refine Dv.call rfl trivial cal126 rfl (name_among.c h120) ?_
  obtain ⟨t121, h122, H⟩ := Gets.call H
  refine Dv.call rfl trivial cal126 rfl (name_among.c h122) ?_
  refine Dv.blda (qs := [fq_uint8_bool t117, fq_uint8_bool t119, fq_uint8_bool t121]) (css := [[fq_uint8_bool t117], [fq_uint8_bool t119], [fq_uint8_bool t121]]) rfl trivial Tryz.underlying140 Tryz.underlying117 c117 z140 rfl ⟨(cells_one one_fnq), ⟨(cells_one one_fnq), ⟨(cells_one one_fnq), trivial⟩⟩⟩ rfl rfl ?_
  refine mv0 rfl rfl ?_
  obtain ⟨g123, H⟩ := Gets.grd H
  refine Dv.ixa (Kd := fK_uint8_bool) (xs := ([t117, t119, t121] : List (Int → Option Bool))) rfl trivial rfl rfl rfl Tryz.underlying140 Tryz.underlying117 rfl c117 rfl rfl g123.1 g123.2 rfl ?_
  refine as0 rfl rfl ?_
  refine .fin ?_
  refine WP.seqr H id (fun p124 : Int × Bool => [(0, eq (.string a0)), (1, eq (.int .i64 a1)), (4, eq (.bool false)), (5, fq_uint8_bool (fK_uint8_bool.at ([t117, t119, t121] : List (Int → Option Bool)) a1)), (14, eq (.int .i64 (a0.size : Int))), (15, eq (.int .i64 p124.1)), (16, eq (.bool p124.2))]) (fun p124 : Int × Bool => [] ++ F) (fun p124 H => ?_) (fun H => ?_)
  · refine WP.seq ?_
    refine WP.reg [(0, false), (1, false), (2, false), (3, false), (4, false), (5, false), (6, false), (7, false)] (by kernel_rfl) ?_
    refine mv0 rfl rfl ?_
    refine Dv.bin rfl trivial rfl rfl (fun _ => run_sne) ?_
    refine mv0 rfl rfl ?_
    cases c125 : !decide (a0 = (⟨#[]⟩ : ByteArray))
    · replace H := Gets.cf H c125
      refine sk rfl rfl rfl rfl rfl ?_
      refine sk rfl rfl rfl rfl rfl ?_
      refine sk rfl rfl rfl rfl rfl ?_
      refine Dv.pickF rfl trivial rfl rfl ?_
      refine as0 rfl rfl ?_
      refine .fin ?_
      obtain rfl := Gets.out H
      exact WP.retL (fun _ _ h => h) rfl () trivial (.cons (res_tmp rfl) .nil) rfl (st_seln 0 [] 0 rfl rfl rfl)
    · replace H := Gets.ct H c125
      refine Dv.mv rfl ⟨_, _, rfl, rfl, rfl⟩ rfl ?_
      refine Dv.lens rfl ⟨_, _, rfl, rfl, rfl⟩ rfl Tryz.underlying9 ?_
      refine Dv.bin rfl ⟨_, _, rfl, rfl, rfl⟩ rfl rfl (fun _ => run_le) ?_
      refine Dv.pickT rfl trivial rfl rfl ?_
      refine as0 rfl rfl ?_
      refine .fin ?_
      obtain rfl := Gets.out H
      exact WP.retL (fun _ _ h => h) rfl () trivial (.cons (res_tmp rfl) .nil) rfl (st_seln 0 [] 0 rfl rfl rfl)
  · refine WP.seq ?_
    refine WP.reg [(0, false), (1, false), (2, false)] (by kernel_rfl) ?_
    refine mv0 rfl rfl ?_
    refine Dv.lens rfl trivial rfl Tryz.underlying9 ?_
    refine mv0 rfl rfl ?_
    refine .fin ?_
    refine WP.block ?_
    refine WP.gh (l' := fun _ => [] ++ F) (gh_of (st_selgn 0 [] 0 rfl rfl rfl)) (fun _ _ => ?_)
    refine WP.loopg (fun j_ (p133 : Int) => name_may.l0 k a0 a1 t117 t119 t121 j_ p133) 0 H (fun p133 => [(0, eq (.string a0)), (1, eq (.int .i64 a1)), (4, eq (.bool false)), (5, fq_uint8_bool (fK_uint8_bool.at ([t117, t119, t121] : List (Int → Option Bool)) a1)), (14, eq (.int .i64 (a0.size : Int))), (15, eq (.int .i64 p133))]) (fun p133 => [] ++ F) (weak_cons rfl (weak_cons rfl (weak_cons rfl (weak_cons rfl (weak_cons rfl (weak_cons rfl weak_nil)))))) (List.Perm.refl _) ?_
    rintro j_ x126 H
    rcases j_ with _ | j132
    · exact (Gets.no H).elim
    replace H : Gets (name_may.l0 k a0 a1 t117 t119 t121 (j132 + 1) x126) _ := H
    rw [name_may.l0] at H
    refine WP.seq ?_
    refine WP.reg [(0, false)] (by kernel_rfl) ?_
    refine Dv.bin rfl trivial rfl rfl (fun _ => run_lt) ?_
    refine .fin ?_
    refine WP.seq ?_
    refine WP.cond rfl (fun c127 => ?_) (fun c127 => ?_)
    · replace H := Gets.ct H c127
      refine WP.skip ?_
      refine WP.seq ?_
      refine WP.block ?_
      refine WP.seq ?_
      refine WP.reg [(0, false), (1, false)] (by kernel_rfl) ?_
      refine mv0 rfl rfl ?_
      refine as0 rfl rfl ?_
      refine .fin ?_
      refine WP.seq ?_
      refine WP.reg [(0, false), (1, false), (2, false), (3, false), (4, false), (5, false)] (by kernel_rfl) ?_
      refine mv0 rfl rfl ?_
      refine mv0 rfl rfl ?_
      refine mv0 rfl rfl ?_
      obtain ⟨g128, H⟩ := Gets.grd H
      refine Dv.ixs rfl trivial rfl rfl Tryz.underlying9 g128.1 g128.2 ?_
      obtain ⟨t129, h130, H⟩ := Gets.call H
      refine Dv.callq (ret := eq (.bool t129)) rfl trivial rfl rfl ⟨_, _, h130, rfl, rfl⟩ ?_
      refine Dv.un rfl trivial rfl (fun _ => run_not _) ?_
      refine .fin ?_
      refine WP.cond rfl (fun c131 => ?_) (fun c131 => ?_)
      · replace H := Gets.ct H c131
        refine WP.seq ?_
        refine WP.reg [(0, false)] (by kernel_rfl) ?_
        refine as0 rfl rfl ?_
        refine .fin ?_
        replace H := Gets.outr H
        obtain rfl := Gets.out H
        exact WP.retL (fun _ _ h => h) rfl () trivial (.cons (res_tmp rfl) .nil) rfl (st_seln 0 [] 0 rfl rfl rfl)
      · replace H := Gets.cf H c131
        refine WP.skip ?_
        refine WP.reg [(0, false), (1, false)] (by kernel_rfl) ?_
        refine Dv.bin rfl trivial rfl rfl (fun _ => run_add) ?_
        refine mv0 rfl rfl ?_
        refine .fin ?_
        exact Back.mk j132 (w64 (x126 + 1)) (Nat.lt_succ_self _) H (weak_cons rfl (weak_cons rfl (weak_cons rfl (weak_cons rfl (weak_cons rfl (weak_cons rfl weak_nil)))))) (List.Perm.refl _)
    · replace H := Gets.cf H c127
      refine WP.exit ?_
      replace H := Gets.out H
      exact Jn.mk (x126, decide (x126 < (a0.size : Int))) H (weak_cons rfl (weak_cons rfl (weak_cons rfl (weak_cons rfl (weak_cons rfl (weak_cons rfl (weak_cons rfl weak_nil))))))) (List.Perm.refl _)
theorem name_Server.c {k : Nat} {a0 : ByteArray} {r : Bool} (h : name_Server.f k a0 = some r) : Pt Tryz.prog 121 [eq (.string a0)] (eq (.bool r)) := by
  unfold name_Server.f at h
  refine (Tr.body Tryz.func121 (c := _) rfl Tryz.ntmps121 (Nat.le_of_ble_eq_true rfl) fun R0 F => ?_).pt
  replace h := Gets.of h
  have H := h
  clear h
  refine WP.seq ?_
  refine WP.reg [(0, false)] (by kernel_rfl) ?_
  refine as0 rfl rfl ?_
  refine .fin ?_
  refine WP.seq ?_
  refine WP.reg [(0, false), (1, false), (2, false), (3, false), (4, false), (5, false), (6, false), (7, false), (8, false), (9, false), (10, false), (11, false), (12, false), (13, false), (14, false), (15, false)] (by kernel_rfl) ?_
  refine mv0 rfl rfl ?_
  obtain ⟨t134, h135, H⟩ := Gets.call H
  refine Dv.call rfl trivial cal120 rfl (name_may.c h135) ?_
  refine mv0 rfl rfl ?_
  cases c136 : t134
  · replace H := Gets.cf H c136
    refine sk rfl rfl rfl rfl rfl ?_
    refine sk rfl rfl rfl rfl rfl ?_
    refine sk rfl rfl rfl rfl rfl ?_
    refine Dv.pickF rfl trivial rfl rfl ?_
    refine mv0 rfl rfl ?_
    refine sk rfl rfl rfl rfl rfl ?_
    refine sk rfl rfl rfl rfl rfl ?_
    refine sk rfl rfl rfl rfl rfl ?_
    refine sk rfl rfl rfl rfl rfl ?_
    refine sk rfl rfl rfl rfl rfl ?_
    refine sk rfl rfl rfl rfl rfl ?_
    refine Dv.pickF rfl trivial rfl rfl ?_
    refine as0 rfl rfl ?_
    refine .fin ?_
    obtain rfl := Gets.out H
    exact WP.retL (fun _ _ h => h) rfl () trivial (.cons (res_tmp rfl) .nil) rfl (st_seln 0 [] 0 rfl rfl rfl)
  · replace H := Gets.ct H c136
    refine Dv.mv rfl ⟨_, _, rfl, rfl, rfl⟩ rfl ?_
    obtain ⟨g137, H⟩ := Gets.grd H
    refine Dv.ixs rfl ⟨_, _, rfl, rfl, rfl⟩ rfl rfl Tryz.underlying9 g137.1 g137.2 ?_
    obtain ⟨t138, h139, H⟩ := Gets.call H
    refine Dv.call rfl ⟨_, _, rfl, rfl, rfl⟩ cal127 rfl (name_small.c h139) ?_
    refine Dv.pickT rfl trivial rfl rfl ?_
    refine mv0 rfl rfl ?_
    cases c140 : t138
    · replace H := Gets.cf H c140
      refine sk rfl rfl rfl rfl rfl ?_
      refine sk rfl rfl rfl rfl rfl ?_
      refine sk rfl rfl rfl rfl rfl ?_
      refine sk rfl rfl rfl rfl rfl ?_
      refine sk rfl rfl rfl rfl rfl ?_
      refine sk rfl rfl rfl rfl rfl ?_
      refine Dv.pickF rfl trivial rfl rfl ?_
      refine as0 rfl rfl ?_
      refine .fin ?_
      obtain rfl := Gets.out H
      exact WP.retL (fun _ _ h => h) rfl () trivial (.cons (res_tmp rfl) .nil) rfl (st_seln 0 [] 0 rfl rfl rfl)
    · replace H := Gets.ct H c140
      refine Dv.mv rfl ⟨_, _, rfl, rfl, rfl⟩ rfl ?_
      refine Dv.mv rfl ⟨_, _, rfl, rfl, rfl⟩ rfl ?_
      refine Dv.lens rfl ⟨_, _, rfl, rfl, rfl⟩ rfl Tryz.underlying9 ?_
      refine Dv.bin rfl ⟨_, _, rfl, rfl, rfl⟩ rfl rfl (fun _ => run_sub) ?_
      obtain ⟨g141, H⟩ := Gets.grd H
      refine Dv.ixs rfl ⟨_, _, rfl, rfl, rfl⟩ rfl rfl Tryz.underlying9 g141.1 g141.2 ?_
      obtain ⟨t142, h143, H⟩ := Gets.call H
      refine Dv.call rfl ⟨_, _, rfl, rfl, rfl⟩ cal127 rfl (name_small.c h143) ?_
      refine Dv.pickT rfl trivial rfl rfl ?_
      refine as0 rfl rfl ?_
      refine .fin ?_
      obtain rfl := Gets.out H
      exact WP.retL (fun _ _ h => h) rfl () trivial (.cons (res_tmp rfl) .nil) rfl (st_seln 0 [] 0 rfl rfl rfl)
theorem name_split.c {k : Nat} {a0 : ByteArray} {a1 : ByteArray} {r : ByteArray × ByteArray × Bool} (h : name_split.f k a0 a1 = some r) : Pt Tryz.prog 103 [eq (.string a0), eq (.string a1)] (tup [eq (.string r.1), eq (.string r.2.1), eq (.bool r.2.2)]) := by
  unfold name_split.f at h
  refine (Tr.body Tryz.func103 (c := _) rfl Tryz.ntmps103 (Nat.le_of_ble_eq_true rfl) fun R0 F => ?_).pt
  replace h := Gets.of h
  have H := h
  clear h
  refine WP.seq ?_
  refine WP.reg [(0, false), (1, false), (2, false)] (by kernel_rfl) ?_
  refine as0 rfl rfl ?_
  refine as0 rfl rfl ?_
  refine as0 rfl rfl ?_
  refine .fin ?_
  refine WP.seq ?_
  refine WP.reg [(0, false), (1, false), (2, false), (3, false), (4, false), (5, false), (6, false), (7, false)] (by kernel_rfl) ?_
  refine mv0 rfl rfl ?_
  refine mv0 rfl rfl ?_
  obtain ⟨t144, h145, H⟩ := Gets.call H
  refine Dv.call rfl trivial cal119 rfl (strings_CutPrefix.c h145) ?_
  refine mv0 rfl rfl ?_
  refine Dv.ext rfl trivial rfl rfl ?_
  refine Dv.ext rfl trivial rfl rfl ?_
  refine as0 rfl rfl ?_
  refine as0 rfl rfl ?_
  refine .fin ?_
  refine WP.seq ?_
  refine WP.reg [(0, false), (1, false), (2, false), (3, false), (4, false), (5, false), (6, false), (7, false), (8, false)] (by kernel_rfl) ?_
  refine mv0 rfl rfl ?_
  obtain ⟨t146, h147, H⟩ := Gets.call H
  refine Dv.call rfl trivial cal35 rfl (strings_Cut.c h147) ?_
  refine mv0 rfl rfl ?_
  refine Dv.ext rfl trivial rfl rfl ?_
  refine Dv.ext rfl trivial rfl rfl ?_
  refine Dv.ext rfl trivial rfl rfl ?_
  refine as0 rfl rfl ?_
  refine as0 rfl rfl ?_
  refine as0 rfl rfl ?_
  refine .fin ?_
  refine WP.seq ?_
  refine WP.reg [(0, false), (1, false), (2, false), (3, false), (4, false), (5, false), (6, false), (7, false), (8, false), (9, false), (10, false), (11, false), (12, false), (13, false), (14, false), (15, false), (16, false)] (by kernel_rfl) ?_
  refine mv0 rfl rfl ?_
  refine mv0 rfl rfl ?_
  refine mv0 rfl rfl ?_
  refine mv0 rfl rfl ?_
  cases c148 : t144.2
  · replace H := Gets.cf H c148
    refine sk rfl rfl rfl rfl rfl ?_
    refine Dv.pickF rfl trivial rfl rfl ?_
    refine mv0 rfl rfl ?_
    refine sk rfl rfl rfl rfl rfl ?_
    refine sk rfl rfl rfl rfl rfl ?_
    refine Dv.pickF rfl trivial rfl rfl ?_
    refine mv0 rfl rfl ?_
    refine sk rfl rfl rfl rfl rfl ?_
    refine sk rfl rfl rfl rfl rfl ?_
    refine Dv.pickF rfl trivial rfl rfl ?_
    refine as0 rfl rfl ?_
    refine as0 rfl rfl ?_
    refine as0 rfl rfl ?_
    refine .fin ?_
    obtain rfl := Gets.out H
    exact WP.retL (fun _ _ h => h) rfl () trivial (.cons (res_tmp rfl) (.cons (res_tmp rfl) (.cons (res_tmp rfl) .nil))) rfl (st_seln 0 [] 0 rfl rfl rfl)
  · replace H := Gets.ct H c148
    refine Dv.mv rfl ⟨_, _, rfl, rfl, rfl⟩ rfl ?_
    refine Dv.pickT rfl trivial rfl rfl ?_
    refine mv0 rfl rfl ?_
    cases c149 : t146.2.2
    · replace H := Gets.cf H c149
      refine sk rfl rfl rfl rfl rfl ?_
      refine sk rfl rfl rfl rfl rfl ?_
      refine Dv.pickF rfl trivial rfl rfl ?_
      refine mv0 rfl rfl ?_
      refine sk rfl rfl rfl rfl rfl ?_
      refine sk rfl rfl rfl rfl rfl ?_
      refine Dv.pickF rfl trivial rfl rfl ?_
      refine as0 rfl rfl ?_
      refine as0 rfl rfl ?_
      refine as0 rfl rfl ?_
      refine .fin ?_
      obtain rfl := Gets.out H
      exact WP.retL (fun _ _ h => h) rfl () trivial (.cons (res_tmp rfl) (.cons (res_tmp rfl) (.cons (res_tmp rfl) .nil))) rfl (st_seln 0 [] 0 rfl rfl rfl)
    · replace H := Gets.ct H c149
      refine Dv.mv rfl ⟨_, _, rfl, rfl, rfl⟩ rfl ?_
      obtain ⟨t150, h151, H⟩ := Gets.call H
      refine Dv.call rfl ⟨_, _, rfl, rfl, rfl⟩ cal120 rfl (name_may.c h151) ?_
      refine Dv.pickT rfl trivial rfl rfl ?_
      refine mv0 rfl rfl ?_
      cases c152 : t150
      · replace H := Gets.cf H c152
        refine sk rfl rfl rfl rfl rfl ?_
        refine sk rfl rfl rfl rfl rfl ?_
        refine Dv.pickF rfl trivial rfl rfl ?_
        refine as0 rfl rfl ?_
        refine as0 rfl rfl ?_
        refine as0 rfl rfl ?_
        refine .fin ?_
        obtain rfl := Gets.out H
        exact WP.retL (fun _ _ h => h) rfl () trivial (.cons (res_tmp rfl) (.cons (res_tmp rfl) (.cons (res_tmp rfl) .nil))) rfl (st_seln 0 [] 0 rfl rfl rfl)
      · replace H := Gets.ct H c152
        refine Dv.mv rfl ⟨_, _, rfl, rfl, rfl⟩ rfl ?_
        obtain ⟨t153, h154, H⟩ := Gets.call H
        refine Dv.call rfl ⟨_, _, rfl, rfl, rfl⟩ cal121 rfl (name_Server.c h154) ?_
        refine Dv.pickT rfl trivial rfl rfl ?_
        refine as0 rfl rfl ?_
        refine as0 rfl rfl ?_
        refine as0 rfl rfl ?_
        refine .fin ?_
        obtain rfl := Gets.out H
        exact WP.retL (fun _ _ h => h) rfl () trivial (.cons (res_tmp rfl) (.cons (res_tmp rfl) (.cons (res_tmp rfl) .nil))) rfl (st_seln 0 [] 0 rfl rfl rfl)
theorem name_Room.c {k : Nat} {a0 : ByteArray} {r : Bool} (h : name_Room.f k a0 = some r) : Pt Tryz.prog 98 [eq (.string a0)] (eq (.bool r)) := by
  unfold name_Room.f at h
  refine (Tr.body Tryz.func98 (c := _) rfl Tryz.ntmps98 (Nat.le_of_ble_eq_true rfl) fun R0 F => ?_).pt
  replace h := Gets.of h
  have H := h
  clear h
  refine WP.seq ?_
  refine WP.reg [(0, false)] (by kernel_rfl) ?_
  refine as0 rfl rfl ?_
  refine .fin ?_
  refine WP.seq ?_
  refine WP.reg [(0, false), (1, false), (2, false), (3, false), (4, false), (5, false), (6, false), (7, false), (8, false)] (by kernel_rfl) ?_
  refine mv0 rfl rfl ?_
  obtain ⟨t155, h156, H⟩ := Gets.call H
  refine Dv.call rfl trivial cal103 rfl (name_split.c h156) ?_
  refine mv0 rfl rfl ?_
  refine Dv.ext rfl trivial rfl rfl ?_
  refine Dv.ext rfl trivial rfl rfl ?_
  refine Dv.ext rfl trivial rfl rfl ?_
  refine as0 rfl rfl ?_
  refine as0 rfl rfl ?_
  refine as0 rfl rfl ?_
  refine .fin ?_
  refine WP.seq ?_
  refine WP.reg [(0, false), (1, false)] (by kernel_rfl) ?_
  refine mv0 rfl rfl ?_
  refine as0 rfl rfl ?_
  refine .fin ?_
  obtain rfl := Gets.out H
  exact WP.retL (fun _ _ h => h) rfl () trivial (.cons (res_tmp rfl) .nil) rfl (st_seln 0 [] 0 rfl rfl rfl)
theorem name_Event.c {k : Nat} {a0 : ByteArray} {r : Bool} (h : name_Event.f k a0 = some r) : Pt Tryz.prog 99 [eq (.string a0)] (eq (.bool r)) := by
  unfold name_Event.f at h
  refine (Tr.body Tryz.func99 (c := _) rfl Tryz.ntmps99 (Nat.le_of_ble_eq_true rfl) fun R0 F => ?_).pt
  replace h := Gets.of h
  have H := h
  clear h
  refine WP.seq ?_
  refine WP.reg [(0, false)] (by kernel_rfl) ?_
  refine as0 rfl rfl ?_
  refine .fin ?_
  refine WP.seq ?_
  refine WP.reg [(0, false), (1, false), (2, false), (3, false), (4, false), (5, false), (6, false)] (by kernel_rfl) ?_
  refine mv0 rfl rfl ?_
  obtain ⟨t157, h158, H⟩ := Gets.call H
  refine Dv.call rfl trivial cal119 rfl (strings_CutPrefix.c h158) ?_
  refine mv0 rfl rfl ?_
  refine Dv.ext rfl trivial rfl rfl ?_
  refine Dv.ext rfl trivial rfl rfl ?_
  refine as0 rfl rfl ?_
  refine as0 rfl rfl ?_
  refine .fin ?_
  refine WP.seq ?_
  refine WP.reg [(0, false), (1, false), (2, false), (3, false), (4, false), (5, false)] (by kernel_rfl) ?_
  refine mv0 rfl rfl ?_
  refine mv0 rfl rfl ?_
  cases c159 : t157.2
  · replace H := Gets.cf H c159
    refine sk rfl rfl rfl rfl rfl ?_
    refine sk rfl rfl rfl rfl rfl ?_
    refine Dv.pickF rfl trivial rfl rfl ?_
    refine as0 rfl rfl ?_
    refine .fin ?_
    obtain rfl := Gets.out H
    exact WP.retL (fun _ _ h => h) rfl () trivial (.cons (res_tmp rfl) .nil) rfl (st_seln 0 [] 0 rfl rfl rfl)
  · replace H := Gets.ct H c159
    refine Dv.mv rfl ⟨_, _, rfl, rfl, rfl⟩ rfl ?_
    obtain ⟨t160, h161, H⟩ := Gets.call H
    refine Dv.call rfl ⟨_, _, rfl, rfl, rfl⟩ cal120 rfl (name_may.c h161) ?_
    refine Dv.pickT rfl trivial rfl rfl ?_
    refine as0 rfl rfl ?_
    refine .fin ?_
    obtain rfl := Gets.out H
    exact WP.retL (fun _ _ h => h) rfl () trivial (.cons (res_tmp rfl) .nil) rfl (st_seln 0 [] 0 rfl rfl rfl)
theorem name_Thread.c {k : Nat} {a0 : ByteArray} {r : Bool} (h : name_Thread.f k a0 = some r) : Pt Tryz.prog 100 [eq (.string a0)] (eq (.bool r)) := by
  unfold name_Thread.f at h
  refine (Tr.body Tryz.func100 (c := _) rfl Tryz.ntmps100 (Nat.le_of_ble_eq_true rfl) fun R0 F => ?_).pt
  replace h := Gets.of h
  have H := h
  clear h
  refine WP.seq ?_
  refine WP.reg [(0, false)] (by kernel_rfl) ?_
  refine as0 rfl rfl ?_
  refine .fin ?_
  refine WP.seq ?_
  refine WP.reg [(0, false), (1, false), (2, false), (3, false), (4, false), (5, false), (6, false), (7, false), (8, false), (9, false), (10, false)] (by kernel_rfl) ?_
  refine mv0 rfl rfl ?_
  refine Dv.bin rfl trivial rfl rfl (fun _ => run_seq) ?_
  refine mv0 rfl rfl ?_
  cases c162 : decide (a0 = (⟨#[]⟩ : ByteArray))
  · replace H := Gets.cf H c162
    refine Dv.mv rfl ⟨_, _, rfl, rfl, rfl⟩ rfl ?_
    refine Dv.bin rfl ⟨_, _, rfl, rfl, rfl⟩ rfl rfl (fun _ => run_seq) ?_
    refine Dv.pickF rfl trivial rfl rfl ?_
    refine mv0 rfl rfl ?_
    cases c163 : decide (a0 = (⟨#[109, 97, 105, 110]⟩ : ByteArray))
    · replace H := Gets.cf H c163
      refine Dv.mv rfl ⟨_, _, rfl, rfl, rfl⟩ rfl ?_
      obtain ⟨t164, h165, H⟩ := Gets.call H
      refine Dv.call rfl ⟨_, _, rfl, rfl, rfl⟩ cal99 rfl (name_Event.c h165) ?_
      refine Dv.pickF rfl trivial rfl rfl ?_
      refine as0 rfl rfl ?_
      refine .fin ?_
      obtain rfl := Gets.out H
      exact WP.retL (fun _ _ h => h) rfl () trivial (.cons (res_tmp rfl) .nil) rfl (st_seln 0 [] 0 rfl rfl rfl)
    · replace H := Gets.ct H c163
      refine sk rfl rfl rfl rfl rfl ?_
      refine sk rfl rfl rfl rfl rfl ?_
      refine Dv.pickT rfl trivial rfl rfl ?_
      refine as0 rfl rfl ?_
      refine .fin ?_
      obtain rfl := Gets.out H
      exact WP.retL (fun _ _ h => h) rfl () trivial (.cons (res_tmp rfl) .nil) rfl (st_seln 0 [] 0 rfl rfl rfl)
  · replace H := Gets.ct H c162
    refine sk rfl rfl rfl rfl rfl ?_
    refine sk rfl rfl rfl rfl rfl ?_
    refine Dv.pickT rfl trivial rfl rfl ?_
    refine mv0 rfl rfl ?_
    refine sk rfl rfl rfl rfl rfl ?_
    refine sk rfl rfl rfl rfl rfl ?_
    refine Dv.pickT rfl trivial rfl rfl ?_
    refine as0 rfl rfl ?_
    refine .fin ?_
    obtain rfl := Gets.out H
    exact WP.retL (fun _ _ h => h) rfl () trivial (.cons (res_tmp rfl) .nil) rfl (st_seln 0 [] 0 rfl rfl rfl)
theorem edu_asks_3.c {k : Nat} {a0 : Edu} {r : Bool} (h : edu_asks_3.f k a0 = some r) : Pt Tryz.prog 97 [agg (Edu.enc a0)] (eq (.bool r)) := by
  unfold edu_asks_3.f at h
  refine (Tr.body Tryz.func97 (c := _) rfl Tryz.ntmps97 (Nat.le_of_ble_eq_true rfl) fun R0 F => ?_).pt
  replace h := Gets.of h
  have H := h
  clear h
  refine WP.seq ?_
  refine WP.reg [(0, true), (1, false)] (by kernel_rfl) ?_
  refine Dv.box rfl trivial rfl (cells_agg (Edu.K.one _)) nofun (fun b166 => ?_)
  refine as0 rfl rfl ?_
  refine .fin ?_
  refine WP.seq ?_
  refine WP.reg [(0, false), (1, false), (2, false), (3, false), (4, false), (5, false), (6, false), (7, false), (8, false), (9, false), (10, false), (11, false), (12, false), (13, false)] (by kernel_rfl) ?_
  refine Dv.fab rfl trivial rfl Tryz.underlying30 rfl Tryz.underlying9 c9 (by decide) ?_
  refine Dv.ldb rfl trivial rfl Tryz.underlying9 rfl (mem_at 0 rfl) rfl ?_
  obtain ⟨t167, h168, H⟩ := Gets.call H
  refine Dv.call rfl trivial cal98 rfl (name_Room.c h168) ?_
  refine mv0 rfl rfl ?_
  cases c169 : t167
  · replace H := Gets.cf H c169
    refine sk rfl rfl rfl rfl rfl ?_
    refine sk rfl rfl rfl rfl rfl ?_
    refine sk rfl rfl rfl rfl rfl ?_
    refine Dv.pickF rfl trivial rfl rfl ?_
    refine mv0 rfl rfl ?_
    refine sk rfl rfl rfl rfl rfl ?_
    refine sk rfl rfl rfl rfl rfl ?_
    refine sk rfl rfl rfl rfl rfl ?_
    refine Dv.pickF rfl trivial rfl rfl ?_
    refine as0 rfl rfl ?_
    refine .fin ?_
    obtain rfl := Gets.out H
    exact WP.retL (fun _ _ h => h) rfl () trivial (.cons (res_tmp rfl) .nil) rfl (st_seln 1 [0] 1 rfl rfl rfl)
  · replace H := Gets.ct H c169
    refine Dv.fab rfl ⟨_, _, rfl, rfl, rfl⟩ rfl Tryz.underlying30 rfl Tryz.underlying9 c9 (by decide) ?_
    refine Dv.ldb rfl ⟨_, _, rfl, rfl, rfl⟩ rfl Tryz.underlying9 rfl (mem_at 0 rfl) rfl ?_
    obtain ⟨t170, h171, H⟩ := Gets.call H
    refine Dv.call rfl ⟨_, _, rfl, rfl, rfl⟩ cal99 rfl (name_Event.c h171) ?_
    refine Dv.pickT rfl trivial rfl rfl ?_
    refine mv0 rfl rfl ?_
    cases c172 : t170
    · replace H := Gets.cf H c172
      refine sk rfl rfl rfl rfl rfl ?_
      refine sk rfl rfl rfl rfl rfl ?_
      refine sk rfl rfl rfl rfl rfl ?_
      refine Dv.pickF rfl trivial rfl rfl ?_
      refine as0 rfl rfl ?_
      refine .fin ?_
      obtain rfl := Gets.out H
      exact WP.retL (fun _ _ h => h) rfl () trivial (.cons (res_tmp rfl) .nil) rfl (st_seln 1 [0] 1 rfl rfl rfl)
    · replace H := Gets.ct H c172
      refine Dv.fab rfl ⟨_, _, rfl, rfl, rfl⟩ rfl Tryz.underlying30 rfl Tryz.underlying9 c9 (by decide) ?_
      refine Dv.ldb rfl ⟨_, _, rfl, rfl, rfl⟩ rfl Tryz.underlying9 rfl (mem_at 0 rfl) rfl ?_
      obtain ⟨t173, h174, H⟩ := Gets.call H
      refine Dv.call rfl ⟨_, _, rfl, rfl, rfl⟩ cal100 rfl (name_Thread.c h174) ?_
      refine Dv.pickT rfl trivial rfl rfl ?_
      refine as0 rfl rfl ?_
      refine .fin ?_
      obtain rfl := Gets.out H
      exact WP.retL (fun _ _ h => h) rfl () trivial (.cons (res_tmp rfl) .nil) rfl (st_seln 1 [0] 1 rfl rfl rfl)
theorem edu_asks_4.c {k : Nat} {a0 : Edu} {c0 : Int → Int → Int → Option Bool} {r : Bool} (h : edu_asks_4.f k a0 c0 = some r) : Pt Tryz.prog 101 [agg (Edu.enc a0), rp [fq_int_int_int_bool c0]] (eq (.bool r)) := by
  unfold edu_asks_4.f at h
  refine (Tr.body Tryz.func101 (c := _) rfl Tryz.ntmps101 (Nat.le_of_ble_eq_true rfl) fun R0 F => ?_).pt
  replace h := Gets.of h
  have H := h
  clear h
  refine WP.seq ?_
  refine WP.reg [(0, true), (1, false)] (by kernel_rfl) ?_
  refine Dv.box rfl trivial rfl (cells_agg (Edu.K.one _)) nofun (fun b175 => ?_)
  refine as0 rfl rfl ?_
  refine .fin ?_
  refine WP.seq ?_
  refine WP.reg [(0, false), (1, false), (2, false), (3, false), (4, false), (5, false), (6, false), (7, false), (8, false), (9, false), (10, false), (11, false), (12, false), (13, false), (14, false)] (by kernel_rfl) ?_
  refine Dv.fab rfl trivial rfl Tryz.underlying30 rfl Tryz.underlying9 c9 (by decide) ?_
  refine Dv.ldb rfl trivial rfl Tryz.underlying9 rfl (mem_at 0 rfl) rfl ?_
  obtain ⟨t176, h177, H⟩ := Gets.call H
  refine Dv.call rfl trivial cal98 rfl (name_Room.c h177) ?_
  refine mv0 rfl rfl ?_
  cases c178 : t176
  · replace H := Gets.cf H c178
    refine sk rfl rfl rfl rfl rfl ?_
    refine sk rfl rfl rfl rfl rfl ?_
    refine sk rfl rfl rfl rfl rfl ?_
    refine sk rfl rfl rfl rfl rfl ?_
    refine Dv.skip rfl ⟨_, _, rfl, rfl, .inr rfl⟩ ?_
    refine Dv.skip rfl ⟨_, _, rfl, rfl, .inr rfl⟩ ?_
    refine Dv.skip rfl ⟨_, _, rfl, rfl, .inr rfl⟩ ?_
    refine Dv.skip rfl ⟨_, _, rfl, rfl, .inr rfl⟩ ?_
    refine sk rfl rfl rfl rfl rfl ?_
    refine Dv.pickF rfl trivial rfl rfl ?_
    refine as0 rfl rfl ?_
    refine .fin ?_
    obtain rfl := Gets.out H
    exact WP.retL (fun _ _ h => h) rfl () trivial (.cons (res_tmp rfl) .nil) rfl (st_seln 1 [0] 1 rfl rfl rfl)
  · replace H := Gets.ct H c178
    refine Dv.fab rfl ⟨_, _, rfl, rfl, rfl⟩ rfl Tryz.underlying30 rfl Tryz.underlying4 c4 (by decide) ?_
    refine Dv.ldb rfl ⟨_, _, rfl, rfl, rfl⟩ rfl Tryz.underlying4 rfl (mem_at 0 rfl) rfl ?_
    refine Dv.un rfl ⟨_, _, rfl, rfl, rfl⟩ rfl (fun _ => run_not _) ?_
    refine Dv.mv rfl ⟨_, _, rfl, rfl, rfl⟩ rfl ?_
    cases c179 : !a0.fOn
    · replace H := Gets.cf H c179
      refine Dv.ldr rfl ⟨_, _, rfl, rfl, rfl⟩ rfl Tryz.underlying118 rfl rfl ?_
      refine Dv.fab rfl ⟨_, _, rfl, rfl, rfl⟩ rfl Tryz.underlying30 rfl Tryz.underlying3 c3 (by decide) ?_
      refine Dv.ldb rfl ⟨_, _, rfl, rfl, rfl⟩ rfl Tryz.underlying3 rfl (mem_at 0 rfl) rfl ?_
      obtain ⟨t180, h181, H⟩ := Gets.call H
      refine Dv.callq (ret := eq (.bool t180)) rfl ⟨_, _, rfl, rfl, rfl⟩ rfl rfl ⟨_, _, _, _, h181, rfl, rfl⟩ ?_
      refine Dv.pickF rfl ⟨_, _, rfl, rfl, rfl⟩ rfl rfl ?_
      refine Dv.pickT rfl trivial rfl rfl ?_
      refine as0 rfl rfl ?_
      refine .fin ?_
      obtain rfl := Gets.out H
      exact WP.retL (fun _ _ h => h) rfl () trivial (.cons (res_tmp rfl) .nil) rfl (st_seln 1 [0] 1 rfl rfl rfl)
    · replace H := Gets.ct H c179
      refine sk rfl rfl rfl rfl rfl ?_
      refine sk rfl rfl rfl rfl rfl ?_
      refine sk rfl rfl rfl rfl rfl ?_
      refine sk rfl rfl rfl rfl rfl ?_
      refine Dv.pickT rfl ⟨_, _, rfl, rfl, rfl⟩ rfl rfl ?_
      refine Dv.pickT rfl trivial rfl rfl ?_
      refine as0 rfl rfl ?_
      refine .fin ?_
      obtain rfl := Gets.out H
      exact WP.retL (fun _ _ h => h) rfl () trivial (.cons (res_tmp rfl) .nil) rfl (st_seln 1 [0] 1 rfl rfl rfl)
theorem edu_asks_5.c {a0 : Edu} {c0 : Int → Int → Int → Option Bool} {r : Bool} (h : edu_asks_5.f a0 c0 = some r) : Pt Tryz.prog 102 [agg (Edu.enc a0), rp [fq_int_int_int_bool c0]] (eq (.bool r)) := by
  unfold edu_asks_5.f at h
  refine (Tr.body Tryz.func102 (c := _) rfl Tryz.ntmps102 (Nat.le_of_ble_eq_true rfl) fun R0 F => ?_).pt
  replace h := Gets.of h
  have H := h
  clear h
  refine WP.seq ?_
  refine WP.reg [(0, true), (1, false)] (by kernel_rfl) ?_
  refine Dv.box rfl trivial rfl (cells_agg (Edu.K.one _)) nofun (fun b182 => ?_)
  refine as0 rfl rfl ?_
  refine .fin ?_
  refine WP.seq ?_
  refine WP.reg [(0, false), (1, false), (2, false), (3, false), (4, false)] (by kernel_rfl) ?_
  refine Dv.ldr rfl trivial rfl Tryz.underlying118 rfl rfl ?_
  refine Dv.fab rfl trivial rfl Tryz.underlying30 rfl Tryz.underlying3 c3 (by decide) ?_
  refine Dv.ldb rfl trivial rfl Tryz.underlying3 rfl (mem_at 0 rfl) rfl ?_
  obtain ⟨t183, h184, H⟩ := Gets.call H
  refine Dv.callq (ret := eq (.bool t183)) rfl trivial rfl rfl ⟨_, _, _, _, h184, rfl, rfl⟩ ?_
  refine as0 rfl rfl ?_
  refine .fin ?_
  obtain rfl := Gets.out H
  exact WP.retL (fun _ _ h => h) rfl () trivial (.cons (res_tmp rfl) .nil) rfl (st_seln 1 [0] 1 rfl rfl rfl)
theorem edu_asks.c {k : Nat} {r : (List (Edu → Option Bool))} (h : edu_asks.f k = some r) : Pt Tryz.prog 69 [] (sl fK_api_Edu_bool r) := by
  unfold edu_asks.f at h
  refine (Tr.body Tryz.func69 (c := _) rfl Tryz.ntmps69 (Nat.le_of_ble_eq_true rfl) fun R0 F => ?_).pt
  replace h := Gets.of h
  have H := h
  clear h
  refine WP.seq ?_
  refine WP.reg [(0, false)] (by kernel_rfl) ?_
  refine as0 rfl rfl ?_
  refine .fin ?_
  refine WP.seq ?_
  refine WP.reg [(0, true), (1, true)] (by kernel_rfl) ?_
  refine Dv.alloc (z := .nilFunc) (qs := [eq .nilFunc]) rfl trivial z118 rfl nofun (fun b185 => ?_)
  refine Dv.stx ([blk b185 118 [eq (.func (.func 95) #[] #[])]] ++ F) rfl trivial rfl rfl (cells_one (one_eq rfl)) Tryz.underlying118 c118 rfl (j := 0) rfl (Nat.le_of_ble_eq_true rfl) rfl nofun ?_
  refine .fin ?_
  refine WP.seq ?_
  refine WP.reg [(0, false), (1, false), (2, false), (3, false)] (by kernel_rfl) ?_
  refine Dv.gh (gh_frzb (E' := [(0, eq (.slice none 0 0)), (1, rp [eq (.func (.func 95) #[] #[])])]) (l' := [] ++ F) 0 rfl (cve_cons rfl cv_id (cve_cons rfl cv_eq cve_nil)) (all2_app .nil fun _ => cva_id)) (fun _ _ => ?_)
  refine Dv.mkf (Q := fqQ_api_Edu_bool (fun a0_ => edu_asks_4.f k a0_ edu_asks_1.f)) cal101 (by rintro _ _ ⟨a0_, r_, h_, rfl, rfl⟩; exact Pt.weak (edu_asks_4.c h_) (.cons wk_id (.cons (wk_rp (.cons (wk_fn cal95 (by rintro _ _ ⟨a0_, a1_, a2_, r_, h_, rfl, rfl⟩; exact edu_asks_1.c h_)) .nil)) .nil))) rfl trivial rfl rfl ?_
  refine Dv.mkf (Q := fqQ_api_Edu_bool (fun a0_ => edu_asks_5.f a0_ edu_asks_1.f)) cal102 (by rintro _ _ ⟨a0_, r_, h_, rfl, rfl⟩; exact Pt.weak (edu_asks_5.c h_) (.cons wk_id (.cons (wk_rp (.cons (wk_fn cal95 (by rintro _ _ ⟨a0_, a1_, a2_, r_, h_, rfl, rfl⟩; exact edu_asks_1.c h_)) .nil)) .nil))) rfl trivial rfl rfl ?_
  refine Dv.lit fK_api_Edu_bool ([edu_asks_2.f, edu_asks_3.f k, fun a0_ => edu_asks_4.f k a0_ edu_asks_1.f, fun a0_ => edu_asks_5.f a0_ edu_asks_1.f] : List (Edu → Option Bool)) (css := [[fq_api_Edu_bool edu_asks_2.f], [fq_api_Edu_bool (edu_asks_3.f k)], [fq_api_Edu_bool (fun a0_ => edu_asks_4.f k a0_ edu_asks_1.f)], [fq_api_Edu_bool (fun a0_ => edu_asks_5.f a0_ edu_asks_1.f)]]) rfl trivial Tryz.underlying99 Tryz.underlying58 c58 z58 rfl (by decide) (by decide) rfl ⟨(cells_wk (wk_fn cal96 (by rintro _ _ ⟨a0_, r_, h_, rfl, rfl⟩; exact edu_asks_2.c h_)) (one_eq rfl)), ⟨(cells_wk (wk_fn cal97 (by rintro _ _ ⟨a0_, r_, h_, rfl, rfl⟩; exact edu_asks_3.c h_)) (one_eq rfl)), ⟨(cells_one one_fnq), ⟨(cells_one one_fnq), trivial⟩⟩⟩⟩ rfl rfl rfl ?_
  refine as0 rfl rfl ?_
  refine .fin ?_
  obtain rfl := Gets.out H
  exact WP.retL (fun _ _ h => h) rfl () trivial (.cons (res_tmp rfl) .nil) rfl (st_seln 0 [] 0 rfl rfl rfl)
theorem edu_Local_1.c {a0 : Int} {r : Bool} (h : edu_Local_1.f a0 = some r) : Pt Tryz.prog 70 [eq (.int .i64 a0)] (eq (.bool r)) := by
  unfold edu_Local_1.f at h
  refine (Tr.body Tryz.func70 (c := _) rfl Tryz.ntmps70 (Nat.le_of_ble_eq_true rfl) fun R0 F => ?_).pt
  replace h := Gets.of h
  have H := h
  clear h
  refine WP.seq ?_
  refine WP.reg [(0, false)] (by kernel_rfl) ?_
  refine as0 rfl rfl ?_
  refine .fin ?_
  refine WP.seq ?_
  refine WP.reg [(0, false), (1, false), (2, false), (3, false), (4, false), (5, false), (6, false)] (by kernel_rfl) ?_
  refine mv0 rfl rfl ?_
  refine Dv.bin rfl trivial rfl rfl (fun _ => run_ge) ?_
  refine mv0 rfl rfl ?_
  cases c186 : decide (0 ≤ a0)
  · replace H := Gets.cf H c186
    refine sk rfl rfl rfl rfl rfl ?_
    refine sk rfl rfl rfl rfl rfl ?_
    refine Dv.pickF rfl trivial rfl rfl ?_
    refine as0 rfl rfl ?_
    refine .fin ?_
    obtain rfl := Gets.out H
    exact WP.retL (fun _ _ h => h) rfl () trivial (.cons (res_tmp rfl) .nil) rfl (st_seln 0 [] 0 rfl rfl rfl)
  · replace H := Gets.ct H c186
    refine Dv.mv rfl ⟨_, _, rfl, rfl, rfl⟩ rfl ?_
    refine Dv.bin rfl ⟨_, _, rfl, rfl, rfl⟩ rfl rfl (fun _ => run_le) ?_
    refine Dv.pickT rfl trivial rfl rfl ?_
    refine as0 rfl rfl ?_
    refine .fin ?_
    obtain rfl := Gets.out H
    exact WP.retL (fun _ _ h => h) rfl () trivial (.cons (res_tmp rfl) .nil) rfl (st_seln 0 [] 0 rfl rfl rfl)
theorem edu_named.c {a0 : Edu} {r : Edu} (h : edu_named.f a0 = some r) : Pt Tryz.prog 71 [agg (Edu.enc a0)] (agg (Edu.enc r)) := by
  unfold edu_named.f at h
  refine (Tr.body Tryz.func71 (c := _) rfl Tryz.ntmps71 (Nat.le_of_ble_eq_true rfl) fun R0 F => ?_).pt
  replace h := Gets.of h
  have H := h
  clear h
  refine WP.seq ?_
  refine WP.reg [(0, true), (1, true)] (by kernel_rfl) ?_
  refine Dv.box rfl trivial rfl (cells_agg (Edu.K.one _)) nofun (fun b187 => ?_)
  refine Dv.alloc (z := .agg #[.int .i64 0, .string ⟨#[]⟩, .string ⟨#[]⟩, .string ⟨#[]⟩, .string ⟨#[]⟩, .bool false, .bool false, .int .i64 0, .int .i64 0, .int .i64 0, .int .i64 0]) (qs := [eq (.int .i64 0), eq (.string (⟨#[]⟩ : ByteArray)), eq (.string (⟨#[]⟩ : ByteArray)), eq (.string (⟨#[]⟩ : ByteArray)), eq (.string (⟨#[]⟩ : ByteArray)), eq (.bool false), eq (.bool false), eq (.int .i64 0), eq (.int .i64 0), eq (.int .i64 0), eq (.int .i64 0)]) rfl trivial z30 rfl nofun (fun b188 => ?_)
  refine .fin ?_
  refine WP.seq ?_
  refine WP.reg [(0, false), (1, false), (2, false), (3, false), (4, false), (5, false), (6, false), (7, false), (8, false), (9, true), (10, true)] (by kernel_rfl) ?_
  refine Dv.fab rfl trivial rfl Tryz.underlying30 rfl Tryz.underlying3 c3 (by decide) ?_
  refine Dv.ldb rfl trivial rfl Tryz.underlying3 rfl (mem_at 1 rfl) rfl ?_
  refine Dv.fab rfl trivial rfl Tryz.underlying30 rfl Tryz.underlying9 c9 (by decide) ?_
  refine Dv.ldb rfl trivial rfl Tryz.underlying9 rfl (mem_at 1 rfl) rfl ?_
  refine Dv.fab rfl trivial rfl Tryz.underlying30 rfl Tryz.underlying3 c3 (by decide) ?_
  refine Dv.ldb rfl trivial rfl Tryz.underlying3 rfl (mem_at 1 rfl) rfl ?_
  refine Dv.fab rfl trivial rfl Tryz.underlying30 rfl Tryz.underlying3 c3 (by decide) ?_
  refine Dv.ldb rfl trivial rfl Tryz.underlying3 rfl (mem_at 1 rfl) rfl ?_
  refine Dv.bld (css := [[eq (.int .i64 a0.fKind)], [eq (.string a0.fUser)], [eq (.int .i64 a0.fTick)], [eq (.int .i64 a0.fStamp)]]) rfl trivial Tryz.underlying30 pl30 z30 rfl ⟨(cells_one (one_eq rfl)), ⟨(cells_one (one_eq rfl)), ⟨(cells_one (one_eq rfl)), ⟨(cells_one (one_eq rfl)), trivial⟩⟩⟩⟩ rfl rfl ?_
  refine Dv.alloc (z := .agg #[.int .i64 0, .string ⟨#[]⟩, .string ⟨#[]⟩, .string ⟨#[]⟩, .string ⟨#[]⟩, .bool false, .bool false, .int .i64 0, .int .i64 0, .int .i64 0, .int .i64 0]) (qs := [eq (.int .i64 0), eq (.string (⟨#[]⟩ : ByteArray)), eq (.string (⟨#[]⟩ : ByteArray)), eq (.string (⟨#[]⟩ : ByteArray)), eq (.string (⟨#[]⟩ : ByteArray)), eq (.bool false), eq (.bool false), eq (.int .i64 0), eq (.int .i64 0), eq (.int .i64 0), eq (.int .i64 0)]) rfl trivial z30 rfl nofun (fun b189 => ?_)
  refine Dv.stx ([blk b189 30 [eq (.int .i64 a0.fKind), eq (.string (⟨#[]⟩ : ByteArray)), eq (.string a0.fUser), eq (.string (⟨#[]⟩ : ByteArray)), eq (.string (⟨#[]⟩ : ByteArray)), eq (.bool false), eq (.bool false), eq (.int .i64 0), eq (.int .i64 0), eq (.int .i64 a0.fTick), eq (.int .i64 a0.fStamp)], blk b188 30 [eq (.int .i64 0), eq (.string (⟨#[]⟩ : ByteArray)), eq (.string (⟨#[]⟩ : ByteArray)), eq (.string (⟨#[]⟩ : ByteArray)), eq (.string (⟨#[]⟩ : ByteArray)), eq (.bool false), eq (.bool false), eq (.int .i64 0), eq (.int .i64 0), eq (.int .i64 0), eq (.int .i64 0)], blk b187 30 [eq (.int .i64 a0.fKind), eq (.string a0.fRoom), eq (.string a0.fUser), eq (.string a0.fEvent), eq (.string a0.fThread), eq (.bool a0.fPrivate), eq (.bool a0.fOn), eq (.int .i64 a0.fSpan), eq (.int .i64 a0.fState), eq (.int .i64 a0.fTick), eq (.int .i64 a0.fStamp)]] ++ F) rfl trivial rfl rfl (cells_agg (ones_cons (one_eq rfl) (ones_cons (one_eq rfl) (ones_cons (one_eq rfl) (ones_cons (one_eq rfl) (ones_cons (one_eq rfl) (ones_cons (one_eq rfl) (ones_cons (one_eq rfl) (ones_cons (one_eq rfl) (ones_cons (one_eq rfl) (ones_cons (one_eq rfl) (ones_cons (one_eq rfl) ones_nil)))))))))))) Tryz.underlying30 c30 rfl (j := 0) rfl (Nat.le_of_ble_eq_true rfl) rfl nofun ?_
  refine .fin ?_
  refine WP.seq ?_
  refine WP.seq ?_
  refine WP.reg [(0, false), (1, false)] (by kernel_rfl) ?_
  refine Dv.fab rfl trivial rfl Tryz.underlying30 rfl Tryz.underlying3 c3 (by decide) ?_
  refine Dv.ldb rfl trivial rfl Tryz.underlying3 rfl (mem_at 2 rfl) rfl ?_
  refine .fin ?_
  refine WP.block ?_
  refine WP.seq ?_
  refine WP.reg [(0, false), (1, false)] (by kernel_rfl) ?_
  refine Dv.bin rfl trivial rfl rfl (fun _ => run_eq) ?_
  refine as0 rfl rfl ?_
  refine .fin ?_
  refine WP.cond rfl (fun c190 => ?_) (fun c190 => ?_)
  · replace H := Gets.ct H c190
    refine WP.dreg Tryz.checked.mixed [(0, false), (1, false), (2, false), (3, false), (4, false), (5, false), (6, false), (7, false), (8, false), (9, true), (10, false), (11, true), (12, false), (13, true), (14, false), (15, true)] (by kernel_rfl) ?_
    refine Dv.fab rfl trivial rfl Tryz.underlying30 rfl Tryz.underlying9 c9 (by decide) ?_
    refine Dv.ldb rfl trivial rfl Tryz.underlying9 rfl (mem_at 2 rfl) rfl ?_
    refine Dv.fab rfl trivial rfl Tryz.underlying30 rfl Tryz.underlying9 c9 (by decide) ?_
    refine Dv.ldb rfl trivial rfl Tryz.underlying9 rfl (mem_at 2 rfl) rfl ?_
    refine Dv.fab rfl trivial rfl Tryz.underlying30 rfl Tryz.underlying9 c9 (by decide) ?_
    refine Dv.ldb rfl trivial rfl Tryz.underlying9 rfl (mem_at 2 rfl) rfl ?_
    refine Dv.fab rfl trivial rfl Tryz.underlying30 rfl Tryz.underlying4 c4 (by decide) ?_
    refine Dv.ldb rfl trivial rfl Tryz.underlying4 rfl (mem_at 2 rfl) rfl ?_
    refine Dv.fab rfl trivial rfl Tryz.underlying30 rfl Tryz.underlying9 c9 (by decide) ?_
    refine Dv.stx ([blk b189 30 [eq (.int .i64 a0.fKind), eq (.string a0.fRoom), eq (.string a0.fUser), eq (.string (⟨#[]⟩ : ByteArray)), eq (.string (⟨#[]⟩ : ByteArray)), eq (.bool false), eq (.bool false), eq (.int .i64 0), eq (.int .i64 0), eq (.int .i64 a0.fTick), eq (.int .i64 a0.fStamp)], blk b188 30 [eq (.int .i64 0), eq (.string (⟨#[]⟩ : ByteArray)), eq (.string (⟨#[]⟩ : ByteArray)), eq (.string (⟨#[]⟩ : ByteArray)), eq (.string (⟨#[]⟩ : ByteArray)), eq (.bool false), eq (.bool false), eq (.int .i64 0), eq (.int .i64 0), eq (.int .i64 0), eq (.int .i64 0)], blk b187 30 [eq (.int .i64 a0.fKind), eq (.string a0.fRoom), eq (.string a0.fUser), eq (.string a0.fEvent), eq (.string a0.fThread), eq (.bool a0.fPrivate), eq (.bool a0.fOn), eq (.int .i64 a0.fSpan), eq (.int .i64 a0.fState), eq (.int .i64 a0.fTick), eq (.int .i64 a0.fStamp)]] ++ F) rfl trivial rfl rfl (cells_one (one_eq rfl)) Tryz.underlying9 c9 rfl (j := 0) rfl (Nat.le_of_ble_eq_true rfl) rfl (fun _ => (pend_by (by kernel_rfl) (pend_in (fun _ => (mem_at 2 rfl)) (pend_in (fun _ => trivial) (pend_in (fun _ => (mem_at 2 rfl)) (pend_in (fun _ => trivial) (pend_in (fun _ => (mem_at 2 rfl)) (pend_in (fun _ => trivial) (pend_by (by kernel_rfl) (pend_by (by kernel_rfl) pend_nil)))))))))) ?_
    refine Dv.fab rfl trivial rfl Tryz.underlying30 rfl Tryz.underlying9 c9 (by decide) ?_
    refine Dv.stx ([blk b189 30 [eq (.int .i64 a0.fKind), eq (.string a0.fRoom), eq (.string a0.fUser), eq (.string a0.fEvent), eq (.string (⟨#[]⟩ : ByteArray)), eq (.bool false), eq (.bool false), eq (.int .i64 0), eq (.int .i64 0), eq (.int .i64 a0.fTick), eq (.int .i64 a0.fStamp)], blk b188 30 [eq (.int .i64 0), eq (.string (⟨#[]⟩ : ByteArray)), eq (.string (⟨#[]⟩ : ByteArray)), eq (.string (⟨#[]⟩ : ByteArray)), eq (.string (⟨#[]⟩ : ByteArray)), eq (.bool false), eq (.bool false), eq (.int .i64 0), eq (.int .i64 0), eq (.int .i64 0), eq (.int .i64 0)], blk b187 30 [eq (.int .i64 a0.fKind), eq (.string a0.fRoom), eq (.string a0.fUser), eq (.string a0.fEvent), eq (.string a0.fThread), eq (.bool a0.fPrivate), eq (.bool a0.fOn), eq (.int .i64 a0.fSpan), eq (.int .i64 a0.fState), eq (.int .i64 a0.fTick), eq (.int .i64 a0.fStamp)]] ++ F) rfl trivial rfl rfl (cells_one (one_eq rfl)) Tryz.underlying9 c9 rfl (j := 0) rfl (Nat.le_of_ble_eq_true rfl) rfl (fun _ => (pend_by (by kernel_rfl) (pend_by (by kernel_rfl) (pend_in (fun _ => (mem_at 2 rfl)) (pend_in (fun _ => trivial) (pend_in (fun _ => (mem_at 2 rfl)) (pend_in (fun _ => trivial) (pend_by (by kernel_rfl) (pend_by (by kernel_rfl) (pend_by (by kernel_rfl) (pend_by (by kernel_rfl) pend_nil))))))))))) ?_
    refine Dv.fab rfl trivial rfl Tryz.underlying30 rfl Tryz.underlying9 c9 (by decide) ?_
    refine Dv.stx ([blk b189 30 [eq (.int .i64 a0.fKind), eq (.string a0.fRoom), eq (.string a0.fUser), eq (.string a0.fEvent), eq (.string a0.fThread), eq (.bool false), eq (.bool false), eq (.int .i64 0), eq (.int .i64 0), eq (.int .i64 a0.fTick), eq (.int .i64 a0.fStamp)], blk b188 30 [eq (.int .i64 0), eq (.string (⟨#[]⟩ : ByteArray)), eq (.string (⟨#[]⟩ : ByteArray)), eq (.string (⟨#[]⟩ : ByteArray)), eq (.string (⟨#[]⟩ : ByteArray)), eq (.bool false), eq (.bool false), eq (.int .i64 0), eq (.int .i64 0), eq (.int .i64 0), eq (.int .i64 0)], blk b187 30 [eq (.int .i64 a0.fKind), eq (.string a0.fRoom), eq (.string a0.fUser), eq (.string a0.fEvent), eq (.string a0.fThread), eq (.bool a0.fPrivate), eq (.bool a0.fOn), eq (.int .i64 a0.fSpan), eq (.int .i64 a0.fState), eq (.int .i64 a0.fTick), eq (.int .i64 a0.fStamp)]] ++ F) rfl trivial rfl rfl (cells_one (one_eq rfl)) Tryz.underlying9 c9 rfl (j := 0) rfl (Nat.le_of_ble_eq_true rfl) rfl (fun _ => (pend_by (by kernel_rfl) (pend_by (by kernel_rfl) (pend_by (by kernel_rfl) (pend_in (fun _ => (mem_at 2 rfl)) (pend_in (fun _ => trivial) (pend_by (by kernel_rfl) (pend_by (by kernel_rfl) (pend_by (by kernel_rfl) (pend_by (by kernel_rfl) (pend_by (by kernel_rfl) (pend_by (by kernel_rfl) pend_nil)))))))))))) ?_
    refine Dv.fab rfl trivial rfl Tryz.underlying30 rfl Tryz.underlying4 c4 (by decide) ?_
    refine Dv.stx ([blk b189 30 [eq (.int .i64 a0.fKind), eq (.string a0.fRoom), eq (.string a0.fUser), eq (.string a0.fEvent), eq (.string a0.fThread), eq (.bool a0.fPrivate), eq (.bool false), eq (.int .i64 0), eq (.int .i64 0), eq (.int .i64 a0.fTick), eq (.int .i64 a0.fStamp)], blk b188 30 [eq (.int .i64 0), eq (.string (⟨#[]⟩ : ByteArray)), eq (.string (⟨#[]⟩ : ByteArray)), eq (.string (⟨#[]⟩ : ByteArray)), eq (.string (⟨#[]⟩ : ByteArray)), eq (.bool false), eq (.bool false), eq (.int .i64 0), eq (.int .i64 0), eq (.int .i64 0), eq (.int .i64 0)], blk b187 30 [eq (.int .i64 a0.fKind), eq (.string a0.fRoom), eq (.string a0.fUser), eq (.string a0.fEvent), eq (.string a0.fThread), eq (.bool a0.fPrivate), eq (.bool a0.fOn), eq (.int .i64 a0.fSpan), eq (.int .i64 a0.fState), eq (.int .i64 a0.fTick), eq (.int .i64 a0.fStamp)]] ++ F) rfl trivial rfl rfl (cells_one (one_eq rfl)) Tryz.underlying4 c4 rfl (j := 0) rfl (Nat.le_of_ble_eq_true rfl) rfl (fun _ => pend_bits (by kernel_rfl)) ?_
    refine .fin ?_
    refine WP.seq ?_
    refine WP.reg [(0, false), (1, true)] (by kernel_rfl) ?_
    refine Dv.ldbs rfl trivial rfl Tryz.underlying30 rfl c30 (mem_at 0 rfl) (Nat.le_of_ble_eq_true rfl) ?_
    refine Dv.stx ([blk b189 30 [eq (.int .i64 a0.fKind), eq (.string a0.fRoom), eq (.string a0.fUser), eq (.string a0.fEvent), eq (.string a0.fThread), eq (.bool a0.fPrivate), eq (.bool false), eq (.int .i64 0), eq (.int .i64 0), eq (.int .i64 a0.fTick), eq (.int .i64 a0.fStamp)], blk b188 30 [eq (.int .i64 a0.fKind), eq (.string a0.fRoom), eq (.string a0.fUser), eq (.string a0.fEvent), eq (.string a0.fThread), eq (.bool a0.fPrivate), eq (.bool false), eq (.int .i64 0), eq (.int .i64 0), eq (.int .i64 a0.fTick), eq (.int .i64 a0.fStamp)], blk b187 30 [eq (.int .i64 a0.fKind), eq (.string a0.fRoom), eq (.string a0.fUser), eq (.string a0.fEvent), eq (.string a0.fThread), eq (.bool a0.fPrivate), eq (.bool a0.fOn), eq (.int .i64 a0.fSpan), eq (.int .i64 a0.fState), eq (.int .i64 a0.fTick), eq (.int .i64 a0.fStamp)]] ++ F) rfl trivial rfl rfl (cells_agg (ones_cons (one_eq rfl) (ones_cons (one_eq rfl) (ones_cons (one_eq rfl) (ones_cons (one_eq rfl) (ones_cons (one_eq rfl) (ones_cons (one_eq rfl) (ones_cons (one_eq rfl) (ones_cons (one_eq rfl) (ones_cons (one_eq rfl) (ones_cons (one_eq rfl) (ones_cons (one_eq rfl) ones_nil)))))))))))) Tryz.underlying30 c30 rfl (j := 1) rfl (Nat.le_of_ble_eq_true rfl) rfl nofun ?_
    refine .fin ?_
    obtain rfl := Gets.out H
    exact WP.retL (fun _ _ h => h) rfl () trivial (.cons (res_cells rfl Tryz.underlying30 rfl c30 (mem_at 1 rfl) rfl) .nil) rfl (st_seln 3 [0, 1, 2] 3 rfl rfl rfl)
  · replace H := Gets.cf H c190
    refine WP.seq ?_
    refine WP.reg [(0, false), (1, false)] (by kernel_rfl) ?_
    refine Dv.bin rfl trivial rfl rfl (fun _ => run_eq) ?_
    refine as0 rfl rfl ?_
    refine .fin ?_
    refine WP.cond rfl (fun c191 => ?_) (fun c191 => ?_)
    · replace H := Gets.ct H c191
      refine WP.seq ?_
      refine WP.dreg Tryz.checked.mixed [(0, false), (1, false), (2, false), (3, false), (4, false), (5, true), (6, false), (7, true)] (by kernel_rfl) ?_
      refine Dv.fab rfl trivial rfl Tryz.underlying30 rfl Tryz.underlying9 c9 (by decide) ?_
      refine Dv.ldb rfl trivial rfl Tryz.underlying9 rfl (mem_at 2 rfl) rfl ?_
      refine Dv.fab rfl trivial rfl Tryz.underlying30 rfl Tryz.underlying4 c4 (by decide) ?_
      refine Dv.ldb rfl trivial rfl Tryz.underlying4 rfl (mem_at 2 rfl) rfl ?_
      refine Dv.fab rfl trivial rfl Tryz.underlying30 rfl Tryz.underlying9 c9 (by decide) ?_
      refine Dv.stx ([blk b189 30 [eq (.int .i64 a0.fKind), eq (.string a0.fRoom), eq (.string a0.fUser), eq (.string (⟨#[]⟩ : ByteArray)), eq (.string (⟨#[]⟩ : ByteArray)), eq (.bool false), eq (.bool false), eq (.int .i64 0), eq (.int .i64 0), eq (.int .i64 a0.fTick), eq (.int .i64 a0.fStamp)], blk b188 30 [eq (.int .i64 0), eq (.string (⟨#[]⟩ : ByteArray)), eq (.string (⟨#[]⟩ : ByteArray)), eq (.string (⟨#[]⟩ : ByteArray)), eq (.string (⟨#[]⟩ : ByteArray)), eq (.bool false), eq (.bool false), eq (.int .i64 0), eq (.int .i64 0), eq (.int .i64 0), eq (.int .i64 0)], blk b187 30 [eq (.int .i64 a0.fKind), eq (.string a0.fRoom), eq (.string a0.fUser), eq (.string a0.fEvent), eq (.string a0.fThread), eq (.bool a0.fPrivate), eq (.bool a0.fOn), eq (.int .i64 a0.fSpan), eq (.int .i64 a0.fState), eq (.int .i64 a0.fTick), eq (.int .i64 a0.fStamp)]] ++ F) rfl trivial rfl rfl (cells_one (one_eq rfl)) Tryz.underlying9 c9 rfl (j := 0) rfl (Nat.le_of_ble_eq_true rfl) rfl (fun _ => (pend_by (by kernel_rfl) (pend_in (fun _ => (mem_at 2 rfl)) (pend_in (fun _ => trivial) (pend_by (by kernel_rfl) (pend_by (by kernel_rfl) pend_nil)))))) ?_
      refine Dv.fab rfl trivial rfl Tryz.underlying30 rfl Tryz.underlying4 c4 (by decide) ?_
      refine Dv.stx ([blk b189 30 [eq (.int .i64 a0.fKind), eq (.string a0.fRoom), eq (.string a0.fUser), eq (.string (⟨#[]⟩ : ByteArray)), eq (.string (⟨#[]⟩ : ByteArray)), eq (.bool false), eq (.bool a0.fOn), eq (.int .i64 0), eq (.int .i64 0), eq (.int .i64 a0.fTick), eq (.int .i64 a0.fStamp)], blk b188 30 [eq (.int .i64 0), eq (.string (⟨#[]⟩ : ByteArray)), eq (.string (⟨#[]⟩ : ByteArray)), eq (.string (⟨#[]⟩ : ByteArray)), eq (.string (⟨#[]⟩ : ByteArray)), eq (.bool false), eq (.bool false), eq (.int .i64 0), eq (.int .i64 0), eq (.int .i64 0), eq (.int .i64 0)], blk b187 30 [eq (.int .i64 a0.fKind), eq (.string a0.fRoom), eq (.string a0.fUser), eq (.string a0.fEvent), eq (.string a0.fThread), eq (.bool a0.fPrivate), eq (.bool a0.fOn), eq (.int .i64 a0.fSpan), eq (.int .i64 a0.fState), eq (.int .i64 a0.fTick), eq (.int .i64 a0.fStamp)]] ++ F) rfl trivial rfl rfl (cells_one (one_eq rfl)) Tryz.underlying4 c4 rfl (j := 0) rfl (Nat.le_of_ble_eq_true rfl) rfl (fun _ => pend_bits (by kernel_rfl)) ?_
      refine .fin ?_
      refine WP.seq ?_
      refine WP.reg [(0, false), (1, false)] (by kernel_rfl) ?_
      refine Dv.fab rfl trivial rfl Tryz.underlying30 rfl Tryz.underlying4 c4 (by decide) ?_
      refine Dv.ldb rfl trivial rfl Tryz.underlying4 rfl (mem_at 2 rfl) rfl ?_
      refine .fin ?_
      refine WP.cond rfl (fun c192 => ?_) (fun c192 => ?_)
      · replace H := Gets.ct H c192
        refine WP.reg [(0, false), (1, false), (2, false), (3, true)] (by kernel_rfl) ?_
        refine Dv.fab rfl trivial rfl Tryz.underlying30 rfl Tryz.underlying3 c3 (by decide) ?_
        refine Dv.ldb rfl trivial rfl Tryz.underlying3 rfl (mem_at 2 rfl) rfl ?_
        refine Dv.fab rfl trivial rfl Tryz.underlying30 rfl Tryz.underlying3 c3 (by decide) ?_
        refine Dv.stx ([blk b189 30 [eq (.int .i64 a0.fKind), eq (.string a0.fRoom), eq (.string a0.fUser), eq (.string (⟨#[]⟩ : ByteArray)), eq (.string (⟨#[]⟩ : ByteArray)), eq (.bool false), eq (.bool a0.fOn), eq (.int .i64 a0.fSpan), eq (.int .i64 0), eq (.int .i64 a0.fTick), eq (.int .i64 a0.fStamp)], blk b188 30 [eq (.int .i64 0), eq (.string (⟨#[]⟩ : ByteArray)), eq (.string (⟨#[]⟩ : ByteArray)), eq (.string (⟨#[]⟩ : ByteArray)), eq (.string (⟨#[]⟩ : ByteArray)), eq (.bool false), eq (.bool false), eq (.int .i64 0), eq (.int .i64 0), eq (.int .i64 0), eq (.int .i64 0)], blk b187 30 [eq (.int .i64 a0.fKind), eq (.string a0.fRoom), eq (.string a0.fUser), eq (.string a0.fEvent), eq (.string a0.fThread), eq (.bool a0.fPrivate), eq (.bool a0.fOn), eq (.int .i64 a0.fSpan), eq (.int .i64 a0.fState), eq (.int .i64 a0.fTick), eq (.int .i64 a0.fStamp)]] ++ F) rfl trivial rfl rfl (cells_one (one_eq rfl)) Tryz.underlying3 c3 rfl (j := 0) rfl (Nat.le_of_ble_eq_true rfl) rfl nofun ?_
        refine .fin ?_
        refine WP.seq ?_
        refine WP.reg [(0, false), (1, true)] (by kernel_rfl) ?_
        refine Dv.ldbs rfl trivial rfl Tryz.underlying30 rfl c30 (mem_at 0 rfl) (Nat.le_of_ble_eq_true rfl) ?_
        refine Dv.stx ([blk b189 30 [eq (.int .i64 a0.fKind), eq (.string a0.fRoom), eq (.string a0.fUser), eq (.string (⟨#[]⟩ : ByteArray)), eq (.string (⟨#[]⟩ : ByteArray)), eq (.bool false), eq (.bool a0.fOn), eq (.int .i64 a0.fSpan), eq (.int .i64 0), eq (.int .i64 a0.fTick), eq (.int .i64 a0.fStamp)], blk b188 30 [eq (.int .i64 a0.fKind), eq (.string a0.fRoom), eq (.string a0.fUser), eq (.string (⟨#[]⟩ : ByteArray)), eq (.string (⟨#[]⟩ : ByteArray)), eq (.bool false), eq (.bool a0.fOn), eq (.int .i64 a0.fSpan), eq (.int .i64 0), eq (.int .i64 a0.fTick), eq (.int .i64 a0.fStamp)], blk b187 30 [eq (.int .i64 a0.fKind), eq (.string a0.fRoom), eq (.string a0.fUser), eq (.string a0.fEvent), eq (.string a0.fThread), eq (.bool a0.fPrivate), eq (.bool a0.fOn), eq (.int .i64 a0.fSpan), eq (.int .i64 a0.fState), eq (.int .i64 a0.fTick), eq (.int .i64 a0.fStamp)]] ++ F) rfl trivial rfl rfl (cells_agg (ones_cons (one_eq rfl) (ones_cons (one_eq rfl) (ones_cons (one_eq rfl) (ones_cons (one_eq rfl) (ones_cons (one_eq rfl) (ones_cons (one_eq rfl) (ones_cons (one_eq rfl) (ones_cons (one_eq rfl) (ones_cons (one_eq rfl) (ones_cons (one_eq rfl) (ones_cons (one_eq rfl) ones_nil)))))))))))) Tryz.underlying30 c30 rfl (j := 1) rfl (Nat.le_of_ble_eq_true rfl) rfl nofun ?_
        refine .fin ?_
        obtain rfl := Gets.out H
        exact WP.retL (fun _ _ h => h) rfl () trivial (.cons (res_cells rfl Tryz.underlying30 rfl c30 (mem_at 1 rfl) rfl) .nil) rfl (st_seln 3 [0, 1, 2] 3 rfl rfl rfl)
      · replace H := Gets.cf H c192
        refine WP.skip ?_
        refine WP.seq ?_
        refine WP.reg [(0, false), (1, true)] (by kernel_rfl) ?_
        refine Dv.ldbs rfl trivial rfl Tryz.underlying30 rfl c30 (mem_at 0 rfl) (Nat.le_of_ble_eq_true rfl) ?_
        refine Dv.stx ([blk b189 30 [eq (.int .i64 a0.fKind), eq (.string a0.fRoom), eq (.string a0.fUser), eq (.string (⟨#[]⟩ : ByteArray)), eq (.string (⟨#[]⟩ : ByteArray)), eq (.bool false), eq (.bool a0.fOn), eq (.int .i64 0), eq (.int .i64 0), eq (.int .i64 a0.fTick), eq (.int .i64 a0.fStamp)], blk b188 30 [eq (.int .i64 a0.fKind), eq (.string a0.fRoom), eq (.string a0.fUser), eq (.string (⟨#[]⟩ : ByteArray)), eq (.string (⟨#[]⟩ : ByteArray)), eq (.bool false), eq (.bool a0.fOn), eq (.int .i64 0), eq (.int .i64 0), eq (.int .i64 a0.fTick), eq (.int .i64 a0.fStamp)], blk b187 30 [eq (.int .i64 a0.fKind), eq (.string a0.fRoom), eq (.string a0.fUser), eq (.string a0.fEvent), eq (.string a0.fThread), eq (.bool a0.fPrivate), eq (.bool a0.fOn), eq (.int .i64 a0.fSpan), eq (.int .i64 a0.fState), eq (.int .i64 a0.fTick), eq (.int .i64 a0.fStamp)]] ++ F) rfl trivial rfl rfl (cells_agg (ones_cons (one_eq rfl) (ones_cons (one_eq rfl) (ones_cons (one_eq rfl) (ones_cons (one_eq rfl) (ones_cons (one_eq rfl) (ones_cons (one_eq rfl) (ones_cons (one_eq rfl) (ones_cons (one_eq rfl) (ones_cons (one_eq rfl) (ones_cons (one_eq rfl) (ones_cons (one_eq rfl) ones_nil)))))))))))) Tryz.underlying30 c30 rfl (j := 1) rfl (Nat.le_of_ble_eq_true rfl) rfl nofun ?_
        refine .fin ?_
        obtain rfl := Gets.out H
        exact WP.retL (fun _ _ h => h) rfl () trivial (.cons (res_cells rfl Tryz.underlying30 rfl c30 (mem_at 1 rfl) rfl) .nil) rfl (st_seln 3 [0, 1, 2] 3 rfl rfl rfl)
    · replace H := Gets.cf H c191
      refine WP.seq ?_
      refine WP.reg [(0, false), (1, false)] (by kernel_rfl) ?_
      refine Dv.bin rfl trivial rfl rfl (fun _ => run_eq) ?_
      refine as0 rfl rfl ?_
      refine .fin ?_
      refine WP.cond rfl (fun c193 => ?_) (fun c193 => ?_)
      · replace H := Gets.ct H c193
        refine WP.reg [(0, false), (1, false), (2, false), (3, true)] (by kernel_rfl) ?_
        refine Dv.fab rfl trivial rfl Tryz.underlying30 rfl Tryz.underlying3 c3 (by decide) ?_
        refine Dv.ldb rfl trivial rfl Tryz.underlying3 rfl (mem_at 2 rfl) rfl ?_
        refine Dv.fab rfl trivial rfl Tryz.underlying30 rfl Tryz.underlying3 c3 (by decide) ?_
        refine Dv.stx ([blk b189 30 [eq (.int .i64 a0.fKind), eq (.string (⟨#[]⟩ : ByteArray)), eq (.string a0.fUser), eq (.string (⟨#[]⟩ : ByteArray)), eq (.string (⟨#[]⟩ : ByteArray)), eq (.bool false), eq (.bool false), eq (.int .i64 0), eq (.int .i64 a0.fState), eq (.int .i64 a0.fTick), eq (.int .i64 a0.fStamp)], blk b188 30 [eq (.int .i64 0), eq (.string (⟨#[]⟩ : ByteArray)), eq (.string (⟨#[]⟩ : ByteArray)), eq (.string (⟨#[]⟩ : ByteArray)), eq (.string (⟨#[]⟩ : ByteArray)), eq (.bool false), eq (.bool false), eq (.int .i64 0), eq (.int .i64 0), eq (.int .i64 0), eq (.int .i64 0)], blk b187 30 [eq (.int .i64 a0.fKind), eq (.string a0.fRoom), eq (.string a0.fUser), eq (.string a0.fEvent), eq (.string a0.fThread), eq (.bool a0.fPrivate), eq (.bool a0.fOn), eq (.int .i64 a0.fSpan), eq (.int .i64 a0.fState), eq (.int .i64 a0.fTick), eq (.int .i64 a0.fStamp)]] ++ F) rfl trivial rfl rfl (cells_one (one_eq rfl)) Tryz.underlying3 c3 rfl (j := 0) rfl (Nat.le_of_ble_eq_true rfl) rfl nofun ?_
        refine .fin ?_
        refine WP.seq ?_
        refine WP.reg [(0, false), (1, true)] (by kernel_rfl) ?_
        refine Dv.ldbs rfl trivial rfl Tryz.underlying30 rfl c30 (mem_at 0 rfl) (Nat.le_of_ble_eq_true rfl) ?_
        refine Dv.stx ([blk b189 30 [eq (.int .i64 a0.fKind), eq (.string (⟨#[]⟩ : ByteArray)), eq (.string a0.fUser), eq (.string (⟨#[]⟩ : ByteArray)), eq (.string (⟨#[]⟩ : ByteArray)), eq (.bool false), eq (.bool false), eq (.int .i64 0), eq (.int .i64 a0.fState), eq (.int .i64 a0.fTick), eq (.int .i64 a0.fStamp)], blk b188 30 [eq (.int .i64 a0.fKind), eq (.string (⟨#[]⟩ : ByteArray)), eq (.string a0.fUser), eq (.string (⟨#[]⟩ : ByteArray)), eq (.string (⟨#[]⟩ : ByteArray)), eq (.bool false), eq (.bool false), eq (.int .i64 0), eq (.int .i64 a0.fState), eq (.int .i64 a0.fTick), eq (.int .i64 a0.fStamp)], blk b187 30 [eq (.int .i64 a0.fKind), eq (.string a0.fRoom), eq (.string a0.fUser), eq (.string a0.fEvent), eq (.string a0.fThread), eq (.bool a0.fPrivate), eq (.bool a0.fOn), eq (.int .i64 a0.fSpan), eq (.int .i64 a0.fState), eq (.int .i64 a0.fTick), eq (.int .i64 a0.fStamp)]] ++ F) rfl trivial rfl rfl (cells_agg (ones_cons (one_eq rfl) (ones_cons (one_eq rfl) (ones_cons (one_eq rfl) (ones_cons (one_eq rfl) (ones_cons (one_eq rfl) (ones_cons (one_eq rfl) (ones_cons (one_eq rfl) (ones_cons (one_eq rfl) (ones_cons (one_eq rfl) (ones_cons (one_eq rfl) (ones_cons (one_eq rfl) ones_nil)))))))))))) Tryz.underlying30 c30 rfl (j := 1) rfl (Nat.le_of_ble_eq_true rfl) rfl nofun ?_
        refine .fin ?_
        obtain rfl := Gets.out H
        exact WP.retL (fun _ _ h => h) rfl () trivial (.cons (res_cells rfl Tryz.underlying30 rfl c30 (mem_at 1 rfl) rfl) .nil) rfl (st_seln 3 [0, 1, 2] 3 rfl rfl rfl)
      · replace H := Gets.cf H c193
        refine WP.skip ?_
        refine WP.seq ?_
        refine WP.reg [(0, false), (1, true)] (by kernel_rfl) ?_
        refine Dv.ldbs rfl trivial rfl Tryz.underlying30 rfl c30 (mem_at 0 rfl) (Nat.le_of_ble_eq_true rfl) ?_
        refine Dv.stx ([blk b189 30 [eq (.int .i64 a0.fKind), eq (.string (⟨#[]⟩ : ByteArray)), eq (.string a0.fUser), eq (.string (⟨#[]⟩ : ByteArray)), eq (.string (⟨#[]⟩ : ByteArray)), eq (.bool false), eq (.bool false), eq (.int .i64 0), eq (.int .i64 0), eq (.int .i64 a0.fTick), eq (.int .i64 a0.fStamp)], blk b188 30 [eq (.int .i64 a0.fKind), eq (.string (⟨#[]⟩ : ByteArray)), eq (.string a0.fUser), eq (.string (⟨#[]⟩ : ByteArray)), eq (.string (⟨#[]⟩ : ByteArray)), eq (.bool false), eq (.bool false), eq (.int .i64 0), eq (.int .i64 0), eq (.int .i64 a0.fTick), eq (.int .i64 a0.fStamp)], blk b187 30 [eq (.int .i64 a0.fKind), eq (.string a0.fRoom), eq (.string a0.fUser), eq (.string a0.fEvent), eq (.string a0.fThread), eq (.bool a0.fPrivate), eq (.bool a0.fOn), eq (.int .i64 a0.fSpan), eq (.int .i64 a0.fState), eq (.int .i64 a0.fTick), eq (.int .i64 a0.fStamp)]] ++ F) rfl trivial rfl rfl (cells_agg (ones_cons (one_eq rfl) (ones_cons (one_eq rfl) (ones_cons (one_eq rfl) (ones_cons (one_eq rfl) (ones_cons (one_eq rfl) (ones_cons (one_eq rfl) (ones_cons (one_eq rfl) (ones_cons (one_eq rfl) (ones_cons (one_eq rfl) (ones_cons (one_eq rfl) (ones_cons (one_eq rfl) ones_nil)))))))))))) Tryz.underlying30 c30 rfl (j := 1) rfl (Nat.le_of_ble_eq_true rfl) rfl nofun ?_
        refine .fin ?_
        obtain rfl := Gets.out H
        exact WP.retL (fun _ _ h => h) rfl () trivial (.cons (res_cells rfl Tryz.underlying30 rfl c30 (mem_at 1 rfl) rfl) .nil) rfl (st_seln 3 [0, 1, 2] 3 rfl rfl rfl)
theorem name_User.c {k : Nat} {a0 : ByteArray} {r : Bool} (h : name_User.f k a0 = some r) : Pt Tryz.prog 72 [eq (.string a0)] (eq (.bool r)) := by
  unfold name_User.f at h
  refine (Tr.body Tryz.func72 (c := _) rfl Tryz.ntmps72 (Nat.le_of_ble_eq_true rfl) fun R0 F => ?_).pt
  replace h := Gets.of h
  have H := h
  clear h
  refine WP.seq ?_
  refine WP.reg [(0, false)] (by kernel_rfl) ?_
  refine as0 rfl rfl ?_
  refine .fin ?_
  refine WP.seq ?_
  refine WP.reg [(0, false), (1, false), (2, false), (3, false), (4, false), (5, false), (6, false), (7, false), (8, false)] (by kernel_rfl) ?_
  refine mv0 rfl rfl ?_
  obtain ⟨t194, h195, H⟩ := Gets.call H
  refine Dv.call rfl trivial cal103 rfl (name_split.c h195) ?_
  refine mv0 rfl rfl ?_
  refine Dv.ext rfl trivial rfl rfl ?_
  refine Dv.ext rfl trivial rfl rfl ?_
  refine Dv.ext rfl trivial rfl rfl ?_
  refine as0 rfl rfl ?_
  refine as0 rfl rfl ?_
  refine as0 rfl rfl ?_
  refine .fin ?_
  refine WP.seq ?_
  refine WP.reg [(0, false), (1, false)] (by kernel_rfl) ?_
  refine mv0 rfl rfl ?_
  refine as0 rfl rfl ?_
  refine .fin ?_
  obtain rfl := Gets.out H
  exact WP.retL (fun _ _ h => h) rfl () trivial (.cons (res_tmp rfl) .nil) rfl (st_seln 0 [] 0 rfl rfl rfl)
theorem edu_Local.c {k : Nat} {a0 : Edu} {r : Bool} (h : edu_Local.f k a0 = some r) : Pt Tryz.prog 46 [agg (Edu.enc a0)] (eq (.bool r)) := by
  unfold edu_Local.f at h
  refine (Tr.body Tryz.func46 (c := _) rfl Tryz.ntmps46 (Nat.le_of_ble_eq_true rfl) fun R0 F => ?_).pt
  replace h := Gets.of h
  have H := h
  clear h
  refine WP.seq ?_
  refine WP.reg [(0, true), (1, false)] (by kernel_rfl) ?_
  refine Dv.box rfl trivial rfl (cells_agg (Edu.K.one _)) nofun (fun b196 => ?_)
  refine as0 rfl rfl ?_
  refine .fin ?_
  refine WP.seq ?_
  refine WP.seq ?_
  refine WP.dreg Tryz.checked.mixed [(0, false), (1, false), (2, false), (3, false), (4, false), (5, false), (6, false), (7, false), (8, false), (9, false), (10, false), (11, false), (12, false), (13, false), (14, false), (15, false), (16, false), (17, false)] (by kernel_rfl) ?_
  refine Dv.fab rfl trivial rfl Tryz.underlying30 rfl Tryz.underlying3 c3 (by decide) ?_
  refine Dv.ldb rfl trivial rfl Tryz.underlying3 rfl (mem_at 0 rfl) rfl ?_
  refine Dv.bin rfl trivial rfl rfl (fun _ => run_lt) ?_
  refine mv0 rfl rfl ?_
  cases c197 : decide (a0.fKind < 0)
  · replace H := Gets.cf H c197
    refine Dv.fab rfl ⟨_, _, rfl, rfl, rfl⟩ rfl Tryz.underlying30 rfl Tryz.underlying3 c3 (by decide) ?_
    refine Dv.ldb rfl ⟨_, _, rfl, rfl, rfl⟩ rfl Tryz.underlying3 rfl (mem_at 0 rfl) rfl ?_
    refine Dv.bin rfl ⟨_, _, rfl, rfl, rfl⟩ rfl rfl (fun _ => run_gt) ?_
    refine Dv.pickF rfl trivial rfl rfl ?_
    refine mv0 rfl rfl ?_
    cases c199 : decide (3 < a0.fKind)
    · replace H := Gets.cf H c199
      obtain ⟨t201, h202, H⟩ := Gets.call H
      refine Dv.call rfl ⟨_, _, rfl, rfl, rfl⟩ cal69 rfl (edu_asks.c h202) ?_
      refine Dv.fab rfl ⟨_, _, rfl, rfl, rfl⟩ rfl Tryz.underlying30 rfl Tryz.underlying3 c3 (by decide) ?_
      refine Dv.ldb rfl ⟨_, _, rfl, rfl, rfl⟩ rfl Tryz.underlying3 rfl (mem_at 0 rfl) rfl ?_
      obtain ⟨g203, H⟩ := Gets.grd H
      refine Dv.ixr rfl ⟨_, _, rfl, rfl, rfl⟩ rfl rfl Tryz.underlying99 Tryz.underlying58 c58 g203.1 g203.2 ?_
      refine Dv.ldr rfl ⟨_, _, rfl, rfl, rfl⟩ rfl Tryz.underlying58 rfl rfl ?_
      refine Dv.ldbs rfl ⟨_, _, rfl, rfl, rfl⟩ rfl Tryz.underlying30 rfl c30 (mem_at 0 rfl) (Nat.le_of_ble_eq_true rfl) ?_
      obtain ⟨t204, h205, H⟩ := Gets.call H
      refine Dv.callq (ret := eq (.bool t204)) rfl ⟨_, _, rfl, rfl, rfl⟩ rfl rfl ⟨_, _, h205, rfl, rfl⟩ ?_
      refine Dv.un rfl ⟨_, _, rfl, rfl, rfl⟩ rfl (fun _ => run_not _) ?_
      refine Dv.pickF rfl trivial rfl rfl ?_
      refine .fin ?_
      refine WP.cond rfl (fun c206 => ?_) (fun c206 => ?_)
      · replace H := Gets.ct H c206
        refine WP.seq ?_
        refine WP.reg [(0, false)] (by kernel_rfl) ?_
        refine as0 rfl rfl ?_
        refine .fin ?_
        obtain rfl := Gets.out H
        exact WP.retL (fun _ _ h => h) rfl () trivial (.cons (res_tmp rfl) .nil) rfl (st_seln 1 [0] 1 rfl rfl rfl)
      · replace H := Gets.cf H c206
        refine WP.skip ?_
        refine WP.seq ?_
        refine WP.reg [(0, false)] (by kernel_rfl) ?_
        refine as0 rfl rfl ?_
        refine .fin ?_
        refine WP.seq ?_
        refine WP.dreg Tryz.checked.mixed [(0, false), (1, false), (2, false), (3, false), (4, false), (5, false), (6, false), (7, false), (8, false), (9, false), (10, false), (11, false), (12, false), (13, false), (14, false), (15, false), (16, false), (17, false), (18, false), (19, false), (20, false), (21, false)] (by kernel_rfl) ?_
        refine Dv.ldbs rfl trivial rfl Tryz.underlying30 rfl c30 (mem_at 0 rfl) (Nat.le_of_ble_eq_true rfl) ?_
        refine Dv.ldbs rfl trivial rfl Tryz.underlying30 rfl c30 (mem_at 0 rfl) (Nat.le_of_ble_eq_true rfl) ?_
        obtain ⟨t207, h208, H⟩ := Gets.call H
        refine Dv.call rfl trivial cal71 rfl (edu_named.c h208) ?_
        refine Dv.eqs [.int .i64 a0.fKind, .string a0.fRoom, .string a0.fUser, .string a0.fEvent, .string a0.fThread, .bool a0.fPrivate, .bool a0.fOn, .int .i64 a0.fSpan, .int .i64 a0.fState, .int .i64 a0.fTick, .int .i64 a0.fStamp] [.int .i64 t207.fKind, .string t207.fRoom, .string t207.fUser, .string t207.fEvent, .string t207.fThread, .bool t207.fPrivate, .bool t207.fOn, .int .i64 t207.fSpan, .int .i64 t207.fState, .int .i64 t207.fTick, .int .i64 t207.fStamp] rfl trivial rfl rfl rfl rfl eg30 (fun _ => equal_of 2 (by decide) (fun _ => eqt30 a0 t207)) ?_
        refine mv0 rfl rfl ?_
        cases c209 : decide (a0 = t207)
        · replace H := Gets.cf H c209
          refine sk rfl rfl rfl rfl rfl ?_
          refine sk rfl rfl rfl rfl rfl ?_
          refine sk rfl rfl rfl rfl rfl ?_
          refine Dv.pickF rfl trivial rfl rfl ?_
          refine mv0 rfl rfl ?_
          refine sk rfl rfl rfl rfl rfl ?_
          refine sk rfl rfl rfl rfl rfl ?_
          refine sk rfl rfl rfl rfl rfl ?_
          refine sk rfl rfl rfl rfl rfl ?_
          refine Dv.pickF rfl trivial rfl rfl ?_
          refine mv0 rfl rfl ?_
          refine sk rfl rfl rfl rfl rfl ?_
          refine sk rfl rfl rfl rfl rfl ?_
          refine sk rfl rfl rfl rfl rfl ?_
          refine sk rfl rfl rfl rfl rfl ?_
          refine Dv.pickF rfl trivial rfl rfl ?_
          refine as0 rfl rfl ?_
          refine .fin ?_
          obtain rfl := Gets.out H
          exact WP.retL (fun _ _ h => h) rfl () trivial (.cons (res_tmp rfl) .nil) rfl (st_seln 1 [0] 1 rfl rfl rfl)
        · replace H := Gets.ct H c209
          refine Dv.fab rfl ⟨_, _, rfl, rfl, rfl⟩ rfl Tryz.underlying30 rfl Tryz.underlying9 c9 (by decide) ?_
          refine Dv.ldb rfl ⟨_, _, rfl, rfl, rfl⟩ rfl Tryz.underlying9 rfl (mem_at 0 rfl) rfl ?_
          obtain ⟨t210, h211, H⟩ := Gets.call H
          refine Dv.call rfl ⟨_, _, rfl, rfl, rfl⟩ cal72 rfl (name_User.c h211) ?_
          refine Dv.pickT rfl trivial rfl rfl ?_
          refine mv0 rfl rfl ?_
          cases c212 : t210
          · replace H := Gets.cf H c212
            refine sk rfl rfl rfl rfl rfl ?_
            refine sk rfl rfl rfl rfl rfl ?_
            refine sk rfl rfl rfl rfl rfl ?_
            refine sk rfl rfl rfl rfl rfl ?_
            refine Dv.pickF rfl trivial rfl rfl ?_
            refine mv0 rfl rfl ?_
            refine sk rfl rfl rfl rfl rfl ?_
            refine sk rfl rfl rfl rfl rfl ?_
            refine sk rfl rfl rfl rfl rfl ?_
            refine sk rfl rfl rfl rfl rfl ?_
            refine Dv.pickF rfl trivial rfl rfl ?_
            refine as0 rfl rfl ?_
            refine .fin ?_
            obtain rfl := Gets.out H
            exact WP.retL (fun _ _ h => h) rfl () trivial (.cons (res_tmp rfl) .nil) rfl (st_seln 1 [0] 1 rfl rfl rfl)
          · replace H := Gets.ct H c212
            refine Dv.mv rfl ⟨_, _, rfl, rfl, rfl⟩ rfl ?_
            refine Dv.fab rfl ⟨_, _, rfl, rfl, rfl⟩ rfl Tryz.underlying30 rfl Tryz.underlying3 c3 (by decide) ?_
            refine Dv.ldb rfl ⟨_, _, rfl, rfl, rfl⟩ rfl Tryz.underlying3 rfl (mem_at 0 rfl) rfl ?_
            obtain ⟨t213, h214, H⟩ := Gets.call H
            refine Dv.callk rfl ⟨_, _, rfl, rfl, rfl⟩ rfl cal70 rfl (edu_Local_1.c h214) ?_
            refine Dv.pickT rfl trivial rfl rfl ?_
            refine mv0 rfl rfl ?_
            cases c215 : t213
            · replace H := Gets.cf H c215
              refine sk rfl rfl rfl rfl rfl ?_
              refine sk rfl rfl rfl rfl rfl ?_
              refine sk rfl rfl rfl rfl rfl ?_
              refine sk rfl rfl rfl rfl rfl ?_
              refine Dv.pickF rfl trivial rfl rfl ?_
              refine as0 rfl rfl ?_
              refine .fin ?_
              obtain rfl := Gets.out H
              exact WP.retL (fun _ _ h => h) rfl () trivial (.cons (res_tmp rfl) .nil) rfl (st_seln 1 [0] 1 rfl rfl rfl)
            · replace H := Gets.ct H c215
              refine Dv.mv rfl ⟨_, _, rfl, rfl, rfl⟩ rfl ?_
              refine Dv.fab rfl ⟨_, _, rfl, rfl, rfl⟩ rfl Tryz.underlying30 rfl Tryz.underlying3 c3 (by decide) ?_
              refine Dv.ldb rfl ⟨_, _, rfl, rfl, rfl⟩ rfl Tryz.underlying3 rfl (mem_at 0 rfl) rfl ?_
              obtain ⟨t216, h217, H⟩ := Gets.call H
              refine Dv.callk rfl ⟨_, _, rfl, rfl, rfl⟩ rfl cal70 rfl (edu_Local_1.c h217) ?_
              refine Dv.pickT rfl trivial rfl rfl ?_
              refine as0 rfl rfl ?_
              refine .fin ?_
              obtain rfl := Gets.out H
              exact WP.retL (fun _ _ h => h) rfl () trivial (.cons (res_tmp rfl) .nil) rfl (st_seln 1 [0] 1 rfl rfl rfl)
    · replace H := Gets.ct H c199
      refine sk rfl rfl rfl rfl rfl ?_
      refine sk rfl rfl rfl rfl rfl ?_
      refine sk rfl rfl rfl rfl rfl ?_
      refine sk rfl rfl rfl rfl rfl ?_
      refine sk rfl rfl rfl rfl rfl ?_
      refine sk rfl rfl rfl rfl rfl ?_
      refine sk rfl rfl rfl rfl rfl ?_
      refine sk rfl rfl rfl rfl rfl ?_
      refine Dv.pickT rfl trivial rfl rfl ?_
      refine .fin ?_
      refine WP.cond rfl (fun _ => ?_) nofun
      refine WP.seq ?_
      refine WP.reg [(0, false)] (by kernel_rfl) ?_
      refine as0 rfl rfl ?_
      refine .fin ?_
      obtain rfl := Gets.out H
      exact WP.retL (fun _ _ h => h) rfl () trivial (.cons (res_tmp rfl) .nil) rfl (st_seln 1 [0] 1 rfl rfl rfl)
  · replace H := Gets.ct H c197
    refine sk rfl rfl rfl rfl rfl ?_
    refine sk rfl rfl rfl rfl rfl ?_
    refine sk rfl rfl rfl rfl rfl ?_
    refine Dv.pickT rfl trivial rfl rfl ?_
    refine mv0 rfl rfl ?_
    refine sk rfl rfl rfl rfl rfl ?_
    refine sk rfl rfl rfl rfl rfl ?_
    refine sk rfl rfl rfl rfl rfl ?_
    refine sk rfl rfl rfl rfl rfl ?_
    refine sk rfl rfl rfl rfl rfl ?_
    refine sk rfl rfl rfl rfl rfl ?_
    refine sk rfl rfl rfl rfl rfl ?_
    refine sk rfl rfl rfl rfl rfl ?_
    refine Dv.pickT rfl trivial rfl rfl ?_
    refine .fin ?_
    refine WP.cond rfl (fun _ => ?_) nofun
    refine WP.seq ?_
    refine WP.reg [(0, false)] (by kernel_rfl) ?_
    refine as0 rfl rfl ?_
    refine .fin ?_
    obtain rfl := Gets.out H
    exact WP.retL (fun _ _ h => h) rfl () trivial (.cons (res_tmp rfl) .nil) rfl (st_seln 1 [0] 1 rfl rfl rfl)
theorem edu_May.c {k : Nat} {a0 : Edu} {r : Bool} (h : edu_May.f k a0 = some r) : Pt Tryz.prog 26 [agg (Edu.enc a0)] (eq (.bool r)) := by
  unfold edu_May.f at h
  refine (Tr.body Tryz.func26 (c := _) rfl Tryz.ntmps26 (Nat.le_of_ble_eq_true rfl) fun R0 F => ?_).pt
  replace h := Gets.of h
  have H := h
  clear h
  refine WP.seq ?_
  refine WP.reg [(0, true), (1, false)] (by kernel_rfl) ?_
  refine Dv.box rfl trivial rfl (cells_agg (Edu.K.one _)) nofun (fun b218 => ?_)
  refine as0 rfl rfl ?_
  refine .fin ?_
  refine WP.seq ?_
  refine WP.reg [(0, false), (1, false), (2, false), (3, false), (4, false), (5, false), (6, false), (7, false)] (by kernel_rfl) ?_
  refine Dv.ldbs rfl trivial rfl Tryz.underlying30 rfl c30 (mem_at 0 rfl) (Nat.le_of_ble_eq_true rfl) ?_
  obtain ⟨t219, h220, H⟩ := Gets.call H
  refine Dv.call rfl trivial cal46 rfl (edu_Local.c h220) ?_
  refine mv0 rfl rfl ?_
  cases c221 : t219
  · replace H := Gets.cf H c221
    refine sk rfl rfl rfl rfl rfl ?_
    refine sk rfl rfl rfl rfl rfl ?_
    refine sk rfl rfl rfl rfl rfl ?_
    refine Dv.pickF rfl trivial rfl rfl ?_
    refine as0 rfl rfl ?_
    refine .fin ?_
    obtain rfl := Gets.out H
    exact WP.retL (fun _ _ h => h) rfl () trivial (.cons (res_tmp rfl) .nil) rfl (st_seln 1 [0] 1 rfl rfl rfl)
  · replace H := Gets.ct H c221
    refine Dv.fab rfl ⟨_, _, rfl, rfl, rfl⟩ rfl Tryz.underlying30 rfl Tryz.underlying4 c4 (by decide) ?_
    refine Dv.ldb rfl ⟨_, _, rfl, rfl, rfl⟩ rfl Tryz.underlying4 rfl (mem_at 0 rfl) rfl ?_
    refine Dv.un rfl ⟨_, _, rfl, rfl, rfl⟩ rfl (fun _ => run_not _) ?_
    refine Dv.pickT rfl trivial rfl rfl ?_
    refine as0 rfl rfl ?_
    refine .fin ?_
    obtain rfl := Gets.out H
    exact WP.retL (fun _ _ h => h) rfl () trivial (.cons (res_tmp rfl) .nil) rfl (st_seln 1 [0] 1 rfl rfl rfl)
theorem slices_BinarySearchFunc_Edu_Edu.c {k : Nat} {a0 : List Edu} {a1 : Edu} {a2 : Edu → Edu → Option Int} {r : Int × Bool} (h : slices_BinarySearchFunc_Edu_Edu.f k a0 a1 a2 = some r) : Pt Tryz.prog 47 [sl Edu.K a0, agg (Edu.enc a1), fq_api_Edu_api_Edu_int a2] (tup [eq (.int .i64 r.1), eq (.bool r.2)]) := by
  unfold slices_BinarySearchFunc_Edu_Edu.f at h
  refine (Tr.body Tryz.func47 (c := _) rfl Tryz.ntmps47 (Nat.le_of_ble_eq_true rfl) fun R0 F => ?_).pt
  replace h := Gets.of h
  have H := h
  clear h
  refine WP.seq ?_
  refine WP.reg [(0, true), (1, false), (2, false)] (by kernel_rfl) ?_
  refine Dv.box rfl trivial rfl (cells_agg (Edu.K.one _)) nofun (fun b222 => ?_)
  refine as0 rfl rfl ?_
  refine as0 rfl rfl ?_
  refine .fin ?_
  refine WP.seq ?_
  refine WP.reg [(0, false), (1, false), (2, false)] (by kernel_rfl) ?_
  refine mv0 rfl rfl ?_
  refine Dv.lenl rfl trivial rfl Tryz.underlying22 ?_
  refine as0 rfl rfl ?_
  refine .fin ?_
  refine WP.seq ?_
  refine WP.reg [(0, false), (1, false), (2, false)] (by kernel_rfl) ?_
  refine mv0 rfl rfl ?_
  refine as0 rfl rfl ?_
  refine as0 rfl rfl ?_
  refine .fin ?_
  refine WP.seqn H id (fun p223 : Int × Int × Bool => [(0, sl Edu.K a0), (1, agg (Edu.enc a1)), (2, fq_api_Edu_api_Edu_int a2), (4, eq (.pointer (some ⟨b222, 0, none⟩))), (6, eq (.int .i64 0)), (7, eq (.bool false)), (8, eq (.int .i64 (a0.length : Int))), (9, eq (.int .i64 p223.1)), (10, eq (.int .i64 p223.2.1)), (17, eq (.bool p223.2.2))]) (fun p223 : Int × Int × Bool => [blk b222 30 [eq (.int .i64 a1.fKind), eq (.string a1.fRoom), eq (.string a1.fUser), eq (.string a1.fEvent), eq (.string a1.fThread), eq (.bool a1.fPrivate), eq (.bool a1.fOn), eq (.int .i64 a1.fSpan), eq (.int .i64 a1.fState), eq (.int .i64 a1.fTick), eq (.int .i64 a1.fStamp)]] ++ F) (fun p223 H => ?_) (fun H => ?_)
  · refine WP.seq ?_
    refine WP.dreg Tryz.checked.mixed [(0, false), (1, false), (2, false), (3, false), (4, false), (5, false), (6, false), (7, false), (8, false), (9, false), (10, false), (11, false), (12, false), (13, false), (14, false), (15, false)] (by kernel_rfl) ?_
    refine mv0 rfl rfl ?_
    refine mv0 rfl rfl ?_
    refine mv0 rfl rfl ?_
    refine Dv.bin rfl trivial rfl rfl (fun _ => run_lt) ?_
    refine mv0 rfl rfl ?_
    cases c224 : decide (p223.1 < (a0.length : Int))
    · replace H := Gets.cf H c224
      refine sk rfl rfl rfl rfl rfl ?_
      refine sk rfl rfl rfl rfl rfl ?_
      refine sk rfl rfl rfl rfl rfl ?_
      refine sk rfl rfl rfl rfl rfl ?_
      refine sk rfl rfl rfl rfl rfl ?_
      refine sk rfl rfl rfl rfl rfl ?_
      refine sk rfl rfl rfl rfl rfl ?_
      refine sk rfl rfl rfl rfl rfl ?_
      refine Dv.pickF rfl trivial rfl rfl ?_
      refine as0 rfl rfl ?_
      refine as0 rfl rfl ?_
      refine .fin ?_
      obtain rfl := Gets.out H
      exact WP.retL (fun _ _ h => h) rfl () trivial (.cons (res_tmp rfl) (.cons (res_tmp rfl) .nil)) rfl (st_seln 1 [0] 1 rfl rfl rfl)
    · replace H := Gets.ct H c224
      refine Dv.mv rfl ⟨_, _, rfl, rfl, rfl⟩ rfl ?_
      refine Dv.mv rfl ⟨_, _, rfl, rfl, rfl⟩ rfl ?_
      refine Dv.mv rfl ⟨_, _, rfl, rfl, rfl⟩ rfl ?_
      obtain ⟨g225, H⟩ := Gets.grd H
      refine Dv.ixr rfl ⟨_, _, rfl, rfl, rfl⟩ rfl rfl Tryz.underlying22 Tryz.underlying30 c30 g225.1 g225.2 ?_
      refine Dv.ldrs rfl ⟨_, _, rfl, rfl, rfl⟩ rfl Tryz.underlying30 rfl c30 (Nat.le_of_ble_eq_true rfl) ?_
      refine Dv.ldbs rfl ⟨_, _, rfl, rfl, rfl⟩ rfl Tryz.underlying30 rfl c30 (mem_at 0 rfl) (Nat.le_of_ble_eq_true rfl) ?_
      obtain ⟨t226, h227, H⟩ := Gets.call H
      refine Dv.callq (ret := eq (.int .i64 t226)) rfl ⟨_, _, rfl, rfl, rfl⟩ rfl rfl ⟨_, _, _, h227, rfl, rfl⟩ ?_
      refine Dv.bin rfl ⟨_, _, rfl, rfl, rfl⟩ rfl rfl (fun _ => run_eq) ?_
      refine Dv.pickT rfl trivial rfl rfl ?_
      refine as0 rfl rfl ?_
      refine as0 rfl rfl ?_
      refine .fin ?_
      obtain rfl := Gets.out H
      exact WP.retL (fun _ _ h => h) rfl () trivial (.cons (res_tmp rfl) (.cons (res_tmp rfl) .nil)) rfl (st_seln 1 [0] 1 rfl rfl rfl)
  · refine WP.block ?_
    refine WP.gh (l' := fun _ => [blk b222 30 [eq (.int .i64 a1.fKind), eq (.string a1.fRoom), eq (.string a1.fUser), eq (.string a1.fEvent), eq (.string a1.fThread), eq (.bool a1.fPrivate), eq (.bool a1.fOn), eq (.int .i64 a1.fSpan), eq (.int .i64 a1.fState), eq (.int .i64 a1.fTick), eq (.int .i64 a1.fStamp)]] ++ F) (gh_of (st_selgn 1 [0] 0 rfl rfl rfl)) (fun _ _ => ?_)
    refine WP.loopg (fun j_ (p236 : Int × Int) => slices_BinarySearchFunc_Edu_Edu.l0 k a0 a1 a2 j_ p236.1 p236.2) (0, (a0.length : Int)) H (fun p236 => [(0, sl Edu.K a0), (1, agg (Edu.enc a1)), (2, fq_api_Edu_api_Edu_int a2), (4, eq (.pointer (some ⟨b222, 0, none⟩))), (6, eq (.int .i64 0)), (7, eq (.bool false)), (8, eq (.int .i64 (a0.length : Int))), (9, eq (.int .i64 p236.1)), (10, eq (.int .i64 p236.2))]) (fun p236 => [blk b222 30 [eq (.int .i64 a1.fKind), eq (.string a1.fRoom), eq (.string a1.fUser), eq (.string a1.fEvent), eq (.string a1.fThread), eq (.bool a1.fPrivate), eq (.bool a1.fOn), eq (.int .i64 a1.fSpan), eq (.int .i64 a1.fState), eq (.int .i64 a1.fTick), eq (.int .i64 a1.fStamp)]] ++ F) (weak_cons rfl (weak_cons rfl (weak_cons rfl (weak_cons rfl (weak_cons rfl (weak_cons rfl (weak_cons rfl (weak_cons rfl (weak_cons rfl weak_nil))))))))) (List.Perm.refl _) ?_
    rintro j_ ⟨x228, x229⟩ H
    rcases j_ with _ | j235
    · exact (Gets.no H).elim
    replace H : Gets (slices_BinarySearchFunc_Edu_Edu.l0 k a0 a1 a2 (j235 + 1) x228 x229) _ := H
    rw [slices_BinarySearchFunc_Edu_Edu.l0] at H
    refine WP.seq ?_
    refine WP.seq ?_
    refine WP.reg [(0, false), (1, false), (2, false)] (by kernel_rfl) ?_
    refine mv0 rfl rfl ?_
    refine mv0 rfl rfl ?_
    refine Dv.bin rfl trivial rfl rfl (fun _ => run_lt) ?_
    refine .fin ?_
    refine WP.cond rfl (fun c230 => ?_) (fun c230 => ?_)
    · replace H := Gets.ct H c230
      refine WP.skip ?_
      refine WP.block ?_
      refine WP.seq ?_
      refine WP.reg [(0, false), (1, false), (2, false), (3, false), (4, false), (5, false), (6, false)] (by kernel_rfl) ?_
      refine mv0 rfl rfl ?_
      refine mv0 rfl rfl ?_
      refine Dv.bin rfl trivial rfl rfl (fun _ => run_add) ?_
      refine Dv.cvi rfl trivial rfl Tryz.underlying3 Tryz.underlying94 ?_
      refine Dv.bin rfl trivial rfl rfl (fun _ => run_shr (by decide)) ?_
      refine Dv.cvi rfl trivial rfl Tryz.underlying94 Tryz.underlying3 ?_
      refine as0 rfl rfl ?_
      refine .fin ?_
      refine WP.seq ?_
      refine WP.dreg Tryz.checked.mixed [(0, false), (1, false), (2, false), (3, false), (4, false), (5, false), (6, false), (7, false)] (by kernel_rfl) ?_
      refine mv0 rfl rfl ?_
      refine mv0 rfl rfl ?_
      refine mv0 rfl rfl ?_
      obtain ⟨g231, H⟩ := Gets.grd H
      refine Dv.ixr rfl trivial rfl rfl Tryz.underlying22 Tryz.underlying30 c30 g231.1 g231.2 ?_
      refine Dv.ldrs rfl trivial rfl Tryz.underlying30 rfl c30 (Nat.le_of_ble_eq_true rfl) ?_
      refine Dv.ldbs rfl trivial rfl Tryz.underlying30 rfl c30 (mem_at 0 rfl) (Nat.le_of_ble_eq_true rfl) ?_
      obtain ⟨t232, h233, H⟩ := Gets.call H
      refine Dv.callq (ret := eq (.int .i64 t232)) rfl trivial rfl rfl ⟨_, _, _, h233, rfl, rfl⟩ ?_
      refine Dv.bin rfl trivial rfl rfl (fun _ => run_lt) ?_
      refine .fin ?_
      refine WP.cond rfl (fun c234 => ?_) (fun c234 => ?_)
      · replace H := Gets.ct H c234
        refine WP.reg [(0, false), (1, false), (2, false)] (by kernel_rfl) ?_
        refine mv0 rfl rfl ?_
        refine Dv.bin rfl trivial rfl rfl (fun _ => run_add) ?_
        refine as0 rfl rfl ?_
        refine .fin ?_
        exact Back.mk j235 (w64 ((w64 ((IntKind.u64.wrap (w64 (x228 + x229))).fdiv 2)) + 1), x229) (Nat.lt_succ_self _) H (weak_cons rfl (weak_cons rfl (weak_cons rfl (weak_cons rfl (weak_cons rfl (weak_cons rfl (weak_cons rfl (weak_cons rfl (weak_cons rfl weak_nil))))))))) (List.Perm.refl _)
      · replace H := Gets.cf H c234
        refine WP.reg [(0, false), (1, false)] (by kernel_rfl) ?_
        refine mv0 rfl rfl ?_
        refine as0 rfl rfl ?_
        refine .fin ?_
        exact Back.mk j235 (x228, w64 ((IntKind.u64.wrap (w64 (x228 + x229))).fdiv 2)) (Nat.lt_succ_self _) H (weak_cons rfl (weak_cons rfl (weak_cons rfl (weak_cons rfl (weak_cons rfl (weak_cons rfl (weak_cons rfl (weak_cons rfl (weak_cons rfl weak_nil))))))))) (List.Perm.refl _)
    · replace H := Gets.cf H c230
      refine WP.exit ?_
      replace H := Gets.out H
      exact Jn.mk (x228, x229, decide (x228 < x229)) H (weak_cons rfl (weak_cons rfl (weak_cons rfl (weak_cons rfl (weak_cons rfl (weak_cons rfl (weak_cons rfl (weak_cons rfl (weak_cons rfl (weak_cons rfl weak_nil)))))))))) (List.Perm.refl _)
theorem cmp_Or_int.c {k : Nat} {a0 : List Int} {r : Int} (h : cmp_Or_int.f k a0 = some r) : Pt Tryz.prog 49 [sl (intK .i64) a0] (eq (.int .i64 r)) := by
  unfold cmp_Or_int.f at h
  refine (Tr.body Tryz.func49 (c := _) rfl Tryz.ntmps49 (Nat.le_of_ble_eq_true rfl) fun R0 F => ?_).pt
  replace h := Gets.of h
  have H := h
  clear h
  refine WP.seq ?_
  refine WP.reg [(0, false)] (by kernel_rfl) ?_
  refine as0 rfl rfl ?_
  refine .fin ?_
  refine WP.seq ?_
  refine WP.reg [(0, false)] (by kernel_rfl) ?_
  refine as0 rfl rfl ?_
  refine .fin ?_
  refine WP.seqr H id (fun p237 : Int × Bool => [(0, sl (intK .i64) a0), (2, eq (.int .i64 0)), (3, eq (.int .i64 0)), (6, sl (intK .i64) a0), (7, eq (.int .i64 (a0.length : Int))), (8, eq (.int .i64 p237.1)), (9, eq (.bool p237.2))]) (fun p237 : Int × Bool => [] ++ F) (fun p237 H => ?_) (fun H => ?_)
  · refine WP.seq ?_
    refine WP.reg [(0, false), (1, false)] (by kernel_rfl) ?_
    refine mv0 rfl rfl ?_
    refine as0 rfl rfl ?_
    refine .fin ?_
    obtain rfl := Gets.out H
    exact WP.retL (fun _ _ h => h) rfl () trivial (.cons (res_tmp rfl) .nil) rfl (st_seln 0 [] 0 rfl rfl rfl)
  · refine WP.seq ?_
    refine WP.reg [(0, false), (1, false), (2, false)] (by kernel_rfl) ?_
    refine mv0 rfl rfl ?_
    refine Dv.lenl rfl trivial rfl Tryz.underlying24 ?_
    refine mv0 rfl rfl ?_
    refine .fin ?_
    refine WP.block ?_
    refine WP.gh (l' := fun _ => [] ++ F) (gh_of (st_selgn 0 [] 0 rfl rfl rfl)) (fun _ _ => ?_)
    refine WP.loopg (fun j_ (p243 : Int) => cmp_Or_int.l0 k a0 j_ p243) 0 H (fun p243 => [(0, sl (intK .i64) a0), (2, eq (.int .i64 0)), (3, eq (.int .i64 0)), (6, sl (intK .i64) a0), (7, eq (.int .i64 (a0.length : Int))), (8, eq (.int .i64 p243))]) (fun p243 => [] ++ F) (weak_cons rfl (weak_cons rfl (weak_cons rfl (weak_cons rfl (weak_cons rfl (weak_cons rfl weak_nil)))))) (List.Perm.refl _) ?_
    rintro j_ x238 H
    rcases j_ with _ | j242
    · exact (Gets.no H).elim
    replace H : Gets (cmp_Or_int.l0 k a0 (j242 + 1) x238) _ := H
    rw [cmp_Or_int.l0] at H
    refine WP.seq ?_
    refine WP.reg [(0, false)] (by kernel_rfl) ?_
    refine Dv.bin rfl trivial rfl rfl (fun _ => run_lt) ?_
    refine .fin ?_
    refine WP.seq ?_
    refine WP.cond rfl (fun c239 => ?_) (fun c239 => ?_)
    · replace H := Gets.ct H c239
      refine WP.skip ?_
      refine WP.seq ?_
      refine WP.block ?_
      refine WP.seq ?_
      refine WP.reg [(0, false), (1, false), (2, false)] (by kernel_rfl) ?_
      obtain ⟨g240, H⟩ := Gets.grd H
      refine Dv.ixr rfl trivial rfl rfl Tryz.underlying24 Tryz.underlying3 c3 g240.1 g240.2 ?_
      refine Dv.ldr rfl trivial rfl Tryz.underlying3 rfl rfl ?_
      refine as0 rfl rfl ?_
      refine .fin ?_
      refine WP.seq ?_
      refine WP.reg [(0, false), (1, false), (2, false)] (by kernel_rfl) ?_
      refine mv0 rfl rfl ?_
      refine mv0 rfl rfl ?_
      refine Dv.bin rfl trivial rfl rfl (fun _ => run_ne) ?_
      refine .fin ?_
      refine WP.cond rfl (fun c241 => ?_) (fun c241 => ?_)
      · replace H := Gets.ct H c241
        refine WP.seq ?_
        refine WP.reg [(0, false), (1, false)] (by kernel_rfl) ?_
        refine mv0 rfl rfl ?_
        refine as0 rfl rfl ?_
        refine .fin ?_
        replace H := Gets.outr H
        obtain rfl := Gets.out H
        exact WP.retL (fun _ _ h => h) rfl () trivial (.cons (res_tmp rfl) .nil) rfl (st_seln 0 [] 0 rfl rfl rfl)
      · replace H := Gets.cf H c241
        refine WP.skip ?_
        refine WP.reg [(0, false), (1, false)] (by kernel_rfl) ?_
        refine Dv.bin rfl trivial rfl rfl (fun _ => run_add) ?_
        refine mv0 rfl rfl ?_
        refine .fin ?_
        exact Back.mk j242 (w64 (x238 + 1)) (Nat.lt_succ_self _) H (weak_cons rfl (weak_cons rfl (weak_cons rfl (weak_cons rfl (weak_cons rfl (weak_cons rfl weak_nil)))))) (List.Perm.refl _)
    · replace H := Gets.cf H c239
      refine WP.exit ?_
      replace H := Gets.out H
      exact Jn.mk (x238, decide (x238 < (a0.length : Int))) H (weak_cons rfl (weak_cons rfl (weak_cons rfl (weak_cons rfl (weak_cons rfl (weak_cons rfl (weak_cons rfl weak_nil))))))) (List.Perm.refl _)
theorem cmp_isNaN_string.c {a0 : ByteArray} {r : Bool} (h : cmp_isNaN_string.f a0 = some r) : Pt Tryz.prog 73 [eq (.string a0)] (eq (.bool r)) := by
  unfold cmp_isNaN_string.f at h
  refine (Tr.body Tryz.func73 (c := _) rfl Tryz.ntmps73 (Nat.le_of_ble_eq_true rfl) fun R0 F => ?_).pt
  replace h := Gets.of h
  have H := h
  clear h
  refine WP.seq ?_
  refine WP.reg [(0, false)] (by kernel_rfl) ?_
  refine as0 rfl rfl ?_
  refine .fin ?_
  refine WP.seq ?_
  refine WP.reg [(0, false), (1, false), (2, false), (3, false)] (by kernel_rfl) ?_
  refine mv0 rfl rfl ?_
  refine mv0 rfl rfl ?_
  refine Dv.bin rfl trivial rfl rfl (fun _ => run_sne) ?_
  refine as0 rfl rfl ?_
  refine .fin ?_
  obtain rfl := Gets.out H
  exact WP.retL (fun _ _ h => h) rfl () trivial (.cons (res_tmp rfl) .nil) rfl (st_seln 0 [] 0 rfl rfl rfl)
theorem cmp_Compare_string.c {a0 : ByteArray} {a1 : ByteArray} {r : Int} (h : cmp_Compare_string.f a0 a1 = some r) : Pt Tryz.prog 50 [eq (.string a0), eq (.string a1)] (eq (.int .i64 r)) := by
  unfold cmp_Compare_string.f at h
  refine (Tr.body Tryz.func50 (c := _) rfl Tryz.ntmps50 (Nat.le_of_ble_eq_true rfl) fun R0 F => ?_).pt
  replace h := Gets.of h
  have H := h
  clear h
  refine WP.seq ?_
  refine WP.reg [(0, false)] (by kernel_rfl) ?_
  refine as0 rfl rfl ?_
  refine .fin ?_
  refine WP.seq ?_
  refine WP.reg [(0, false), (1, false), (2, false)] (by kernel_rfl) ?_
  refine mv0 rfl rfl ?_
  obtain ⟨t244, h245, H⟩ := Gets.call H
  refine Dv.call rfl trivial cal73 rfl (cmp_isNaN_string.c h245) ?_
  refine as0 rfl rfl ?_
  refine .fin ?_
  refine WP.seq ?_
  refine WP.reg [(0, false), (1, false), (2, false)] (by kernel_rfl) ?_
  refine mv0 rfl rfl ?_
  obtain ⟨t246, h247, H⟩ := Gets.call H
  refine Dv.call rfl trivial cal73 rfl (cmp_isNaN_string.c h247) ?_
  refine as0 rfl rfl ?_
  refine .fin ?_
  refine WP.seq ?_
  refine WP.seq ?_
  refine WP.reg [(0, false)] (by kernel_rfl) ?_
  refine mv0 rfl rfl ?_
  refine .fin ?_
  refine WP.cond rfl (fun c248 => ?_) (fun c248 => ?_)
  · replace H := Gets.ct H c248
    refine WP.seq ?_
    refine WP.seq ?_
    refine WP.reg [(0, false)] (by kernel_rfl) ?_
    refine mv0 rfl rfl ?_
    refine .fin ?_
    refine WP.cond rfl (fun c249 => ?_) (fun c249 => ?_)
    · replace H := Gets.ct H c249
      refine WP.seq ?_
      refine WP.reg [(0, false)] (by kernel_rfl) ?_
      refine as0 rfl rfl ?_
      refine .fin ?_
      obtain rfl := Gets.out H
      exact WP.retL (fun _ _ h => h) rfl () trivial (.cons (res_tmp rfl) .nil) rfl (st_seln 0 [] 0 rfl rfl rfl)
    · replace H := Gets.cf H c249
      refine WP.skip ?_
      refine WP.seq ?_
      refine WP.reg [(0, false)] (by kernel_rfl) ?_
      refine as0 rfl rfl ?_
      refine .fin ?_
      obtain rfl := Gets.out H
      exact WP.retL (fun _ _ h => h) rfl () trivial (.cons (res_tmp rfl) .nil) rfl (st_seln 0 [] 0 rfl rfl rfl)
  · replace H := Gets.cf H c248
    refine WP.skip ?_
    refine WP.seq ?_
    refine WP.seq ?_
    refine WP.reg [(0, false)] (by kernel_rfl) ?_
    refine mv0 rfl rfl ?_
    refine .fin ?_
    refine WP.cond rfl (fun c250 => ?_) (fun c250 => ?_)
    · replace H := Gets.ct H c250
      refine WP.seq ?_
      refine WP.reg [(0, false)] (by kernel_rfl) ?_
      refine as0 rfl rfl ?_
      refine .fin ?_
      obtain rfl := Gets.out H
      exact WP.retL (fun _ _ h => h) rfl () trivial (.cons (res_tmp rfl) .nil) rfl (st_seln 0 [] 0 rfl rfl rfl)
    · replace H := Gets.cf H c250
      refine WP.skip ?_
      refine WP.seq ?_
      refine WP.seq ?_
      refine WP.reg [(0, false), (1, false), (2, false)] (by kernel_rfl) ?_
      refine mv0 rfl rfl ?_
      refine mv0 rfl rfl ?_
      refine Dv.bin rfl trivial rfl rfl (fun _ => run_slt) ?_
      refine .fin ?_
      refine WP.cond rfl (fun c251 => ?_) (fun c251 => ?_)
      · replace H := Gets.ct H c251
        refine WP.seq ?_
        refine WP.reg [(0, false)] (by kernel_rfl) ?_
        refine as0 rfl rfl ?_
        refine .fin ?_
        obtain rfl := Gets.out H
        exact WP.retL (fun _ _ h => h) rfl () trivial (.cons (res_tmp rfl) .nil) rfl (st_seln 0 [] 0 rfl rfl rfl)
      · replace H := Gets.cf H c251
        refine WP.skip ?_
        refine WP.seq ?_
        refine WP.seq ?_
        refine WP.reg [(0, false), (1, false), (2, false)] (by kernel_rfl) ?_
        refine mv0 rfl rfl ?_
        refine mv0 rfl rfl ?_
        refine Dv.bin rfl trivial rfl rfl (fun _ => run_sgt) ?_
        refine .fin ?_
        refine WP.cond rfl (fun c252 => ?_) (fun c252 => ?_)
        · replace H := Gets.ct H c252
          refine WP.seq ?_
          refine WP.reg [(0, false)] (by kernel_rfl) ?_
          refine as0 rfl rfl ?_
          refine .fin ?_
          obtain rfl := Gets.out H
          exact WP.retL (fun _ _ h => h) rfl () trivial (.cons (res_tmp rfl) .nil) rfl (st_seln 0 [] 0 rfl rfl rfl)
        · replace H := Gets.cf H c252
          refine WP.skip ?_
          refine WP.seq ?_
          refine WP.reg [(0, false)] (by kernel_rfl) ?_
          refine as0 rfl rfl ?_
          refine .fin ?_
          obtain rfl := Gets.out H
          exact WP.retL (fun _ _ h => h) rfl () trivial (.cons (res_tmp rfl) .nil) rfl (st_seln 0 [] 0 rfl rfl rfl)
theorem typing_Table_place_1.c {k : Nat} {a0 : Edu} {a1 : Edu} {r : Int} (h : typing_Table_place_1.f k a0 a1 = some r) : Pt Tryz.prog 48 [agg (Edu.enc a0), agg (Edu.enc a1)] (eq (.int .i64 r)) := by
  unfold typing_Table_place_1.f at h
  refine (Tr.body Tryz.func48 (c := _) rfl Tryz.ntmps48 (Nat.le_of_ble_eq_true rfl) fun R0 F => ?_).pt
  replace h := Gets.of h
  have H := h
  clear h
  refine WP.seq ?_
  refine WP.reg [(0, true), (1, true), (2, false)] (by kernel_rfl) ?_
  refine Dv.box rfl trivial rfl (cells_agg (Edu.K.one _)) nofun (fun b253 => ?_)
  refine Dv.box rfl trivial rfl (cells_agg (Edu.K.one _)) nofun (fun b254 => ?_)
  refine as0 rfl rfl ?_
  refine .fin ?_
  refine WP.seq ?_
  refine WP.dreg Tryz.checked.mixed [(0, false), (1, false), (2, false), (3, false), (4, false), (5, false), (6, false), (7, false), (8, false), (9, false), (10, false), (11, false), (12, false)] (by kernel_rfl) ?_
  refine Dv.fab rfl trivial rfl Tryz.underlying30 rfl Tryz.underlying9 c9 (by decide) ?_
  refine Dv.ldb rfl trivial rfl Tryz.underlying9 rfl (mem_at 1 rfl) rfl ?_
  refine Dv.fab rfl trivial rfl Tryz.underlying30 rfl Tryz.underlying9 c9 (by decide) ?_
  refine Dv.ldb rfl trivial rfl Tryz.underlying9 rfl (mem_at 0 rfl) rfl ?_
  obtain ⟨t255, h256, H⟩ := Gets.call H
  refine Dv.call rfl trivial cal50 rfl (cmp_Compare_string.c h256) ?_
  refine Dv.fab rfl trivial rfl Tryz.underlying30 rfl Tryz.underlying9 c9 (by decide) ?_
  refine Dv.ldb rfl trivial rfl Tryz.underlying9 rfl (mem_at 1 rfl) rfl ?_
  refine Dv.fab rfl trivial rfl Tryz.underlying30 rfl Tryz.underlying9 c9 (by decide) ?_
  refine Dv.ldb rfl trivial rfl Tryz.underlying9 rfl (mem_at 0 rfl) rfl ?_
  obtain ⟨t257, h258, H⟩ := Gets.call H
  refine Dv.call rfl trivial cal50 rfl (cmp_Compare_string.c h258) ?_
  refine Dv.lit (intK .i64) ([t255, t257] : List Int) (css := [[eq (.int .i64 t255)], [eq (.int .i64 t257)]]) rfl trivial Tryz.underlying24 Tryz.underlying3 c3 z3 rfl (by decide) (by decide) rfl ⟨(cells_one (one_eq rfl)), ⟨(cells_one (one_eq rfl)), trivial⟩⟩ rfl rfl rfl ?_
  obtain ⟨t259, h260, H⟩ := Gets.call H
  refine Dv.call rfl trivial cal49 rfl (cmp_Or_int.c h260) ?_
  refine as0 rfl rfl ?_
  refine .fin ?_
  obtain rfl := Gets.out H
  exact WP.retL (fun _ _ h => h) rfl () trivial (.cons (res_tmp rfl) .nil) rfl (st_seln 2 [0, 1] 2 rfl rfl rfl)
theorem typing_Table_place.c {k : Nat} {a0 : TTab} {a1 : Edu} {v0_0 v0_1 : OV} {b0_ : Nat} {r : Int × Bool} (h : typing_Table_place.f k a0 a1 = some r) : Tr Tryz.prog 27 [eq (.pointer (some ⟨b0_, 0, none⟩)), agg (Edu.enc a1)] [blk b0_ 56 [eq v0_0.1, eq v0_1.1], own Edu.K v0_0.1 a0.fl] (γ := Unit) (fun _ => True) (fun g => tup [eq (.int .i64 r.1), eq (.bool r.2)]) (fun g => [blk b0_ 56 [eq v0_0.1, eq v0_1.1], own Edu.K v0_0.1 a0.fl]) := by
  unfold typing_Table_place.f at h
  refine Tr.body Tryz.func27 (c := _) rfl Tryz.ntmps27 (Nat.le_of_ble_eq_true rfl) fun R0 F => ?_
  replace h := Gets.of h
  have H := h
  clear h
  refine WP.seq ?_
  refine WP.reg [(0, true), (1, false), (2, false)] (by kernel_rfl) ?_
  refine Dv.box rfl trivial rfl (cells_agg (Edu.K.one _)) nofun (fun b261 => ?_)
  refine as0 rfl rfl ?_
  refine as0 rfl rfl ?_
  refine .fin ?_
  refine WP.seq ?_
  refine WP.dreg Tryz.checked.mixed [(0, false), (1, false), (2, false), (3, false), (4, false), (5, false), (6, false), (7, false), (8, false), (9, false)] (by kernel_rfl) ?_
  refine mv0 rfl rfl ?_
  refine Dv.nilp rfl trivial rfl ?_
  refine Dv.fab rfl trivial rfl Tryz.underlying56 rfl Tryz.underlying22 c22 (by decide) ?_
  refine Dv.ldb rfl trivial rfl Tryz.underlying22 rfl (mem_at 1 rfl) rfl ?_
  refine Dv.ldbs rfl trivial rfl Tryz.underlying30 rfl c30 (mem_at 0 rfl) (Nat.le_of_ble_eq_true rfl) ?_
  obtain ⟨t262, h263, H⟩ := Gets.call H
  refine Dv.calll (B := [own Edu.K v0_0.1 a0.fl]) (F := [blk b261 30 [eq (.int .i64 a1.fKind), eq (.string a1.fRoom), eq (.string a1.fUser), eq (.string a1.fEvent), eq (.string a1.fThread), eq (.bool a1.fPrivate), eq (.bool a1.fOn), eq (.int .i64 a1.fSpan), eq (.int .i64 a1.fState), eq (.int .i64 a1.fTick), eq (.int .i64 a1.fStamp)], blk b0_ 56 [eq v0_0.1, eq v0_1.1]] ++ F) rfl trivial cal47 rfl (Pt.lend _ (Pt.weak (slices_BinarySearchFunc_Edu_Edu.c h263) (.cons wk_id (.cons wk_id (.cons (wk_fn cal48 (by rintro _ _ ⟨a0_, a1_, r_, h_, rfl, rfl⟩; exact typing_Table_place_1.c h_)) .nil)))) (.cons (lt_own (mem_at 0 rfl)) (.cons lt_id (.cons lt_id .nil))) (flat_tup (flats_cons flat_eq (flats_cons flat_eq flats_nil)))) (perm_ton 3 [2, 0, 1] rfl rfl rfl) ?_
  refine Dv.ext rfl trivial rfl rfl ?_
  refine Dv.ext rfl trivial rfl rfl ?_
  refine as0 rfl rfl ?_
  refine as0 rfl rfl ?_
  refine .fin ?_
  obtain rfl := Gets.out H
  exact WP.retL (fun _ _ h => h) rfl () trivial (.cons (res_tmp rfl) (.cons (res_tmp rfl) .nil)) rfl (st_seln 3 [0, 1, 2] 1 rfl rfl rfl)
theorem edu_Of.c {a0 : Edu} {r : EKey} (h : edu_Of.f a0 = some r) : Pt Tryz.prog 51 [agg (Edu.enc a0)] (agg (EKey.enc r)) := by
  unfold edu_Of.f at h
  refine (Tr.body Tryz.func51 (c := _) rfl Tryz.ntmps51 (Nat.le_of_ble_eq_true rfl) fun R0 F => ?_).pt
  replace h := Gets.of h
  have H := h
  clear h
  refine WP.seq ?_
  refine WP.reg [(0, true), (1, true)] (by kernel_rfl) ?_
  refine Dv.box rfl trivial rfl (cells_agg (Edu.K.one _)) nofun (fun b264 => ?_)
  refine Dv.alloc (z := .agg #[.int .i64 0, .string ⟨#[]⟩, .string ⟨#[]⟩, .string ⟨#[]⟩, .bool false]) (qs := [eq (.int .i64 0), eq (.string (⟨#[]⟩ : ByteArray)), eq (.string (⟨#[]⟩ : ByteArray)), eq (.string (⟨#[]⟩ : ByteArray)), eq (.bool false)]) rfl trivial z87 rfl nofun (fun b265 => ?_)
  refine .fin ?_
  refine WP.seq ?_
  refine WP.reg [(0, false), (1, false), (2, false), (3, false), (4, false), (5, false), (6, false), (7, false), (8, false), (9, false), (10, false), (11, true)] (by kernel_rfl) ?_
  refine Dv.fab rfl trivial rfl Tryz.underlying30 rfl Tryz.underlying3 c3 (by decide) ?_
  refine Dv.ldb rfl trivial rfl Tryz.underlying3 rfl (mem_at 1 rfl) rfl ?_
  refine Dv.fab rfl trivial rfl Tryz.underlying30 rfl Tryz.underlying9 c9 (by decide) ?_
  refine Dv.ldb rfl trivial rfl Tryz.underlying9 rfl (mem_at 1 rfl) rfl ?_
  refine Dv.fab rfl trivial rfl Tryz.underlying30 rfl Tryz.underlying9 c9 (by decide) ?_
  refine Dv.ldb rfl trivial rfl Tryz.underlying9 rfl (mem_at 1 rfl) rfl ?_
  refine Dv.fab rfl trivial rfl Tryz.underlying30 rfl Tryz.underlying9 c9 (by decide) ?_
  refine Dv.ldb rfl trivial rfl Tryz.underlying9 rfl (mem_at 1 rfl) rfl ?_
  refine Dv.fab rfl trivial rfl Tryz.underlying30 rfl Tryz.underlying4 c4 (by decide) ?_
  refine Dv.ldb rfl trivial rfl Tryz.underlying4 rfl (mem_at 1 rfl) rfl ?_
  refine Dv.bld (css := [[eq (.int .i64 a0.fKind)], [eq (.string a0.fRoom)], [eq (.string a0.fUser)], [eq (.string a0.fThread)], [eq (.bool a0.fPrivate)]]) rfl trivial Tryz.underlying87 pl87 z87 rfl ⟨(cells_one (one_eq rfl)), ⟨(cells_one (one_eq rfl)), ⟨(cells_one (one_eq rfl)), ⟨(cells_one (one_eq rfl)), ⟨(cells_one (one_eq rfl)), trivial⟩⟩⟩⟩⟩ rfl rfl ?_
  refine Dv.stx ([blk b265 87 [eq (.int .i64 a0.fKind), eq (.string a0.fRoom), eq (.string a0.fUser), eq (.string a0.fThread), eq (.bool a0.fPrivate)], blk b264 30 [eq (.int .i64 a0.fKind), eq (.string a0.fRoom), eq (.string a0.fUser), eq (.string a0.fEvent), eq (.string a0.fThread), eq (.bool a0.fPrivate), eq (.bool a0.fOn), eq (.int .i64 a0.fSpan), eq (.int .i64 a0.fState), eq (.int .i64 a0.fTick), eq (.int .i64 a0.fStamp)]] ++ F) rfl trivial rfl rfl (cells_agg (ones_cons (one_eq rfl) (ones_cons (one_eq rfl) (ones_cons (one_eq rfl) (ones_cons (one_eq rfl) (ones_cons (one_eq rfl) ones_nil)))))) Tryz.underlying87 c87 rfl (j := 0) rfl (Nat.le_of_ble_eq_true rfl) rfl nofun ?_
  refine .fin ?_
  obtain rfl := Gets.out H
  exact WP.retL (fun _ _ h => h) rfl () trivial (.cons (res_cells rfl Tryz.underlying87 rfl c87 (mem_at 0 rfl) rfl) .nil) rfl (st_seln 2 [0, 1] 2 rfl rfl rfl)
theorem cmp_isNaN_int.c {a0 : Int} {r : Bool} (h : cmp_isNaN_int.f a0 = some r) : Pt Tryz.prog 104 [eq (.int .i64 a0)] (eq (.bool r)) := by
  unfold cmp_isNaN_int.f at h
  refine (Tr.body Tryz.func104 (c := _) rfl Tryz.ntmps104 (Nat.le_of_ble_eq_true rfl) fun R0 F => ?_).pt
  replace h := Gets.of h
  have H := h
  clear h
  refine WP.seq ?_
  refine WP.reg [(0, false)] (by kernel_rfl) ?_
  refine as0 rfl rfl ?_
  refine .fin ?_
  refine WP.seq ?_
  refine WP.reg [(0, false), (1, false), (2, false), (3, false)] (by kernel_rfl) ?_
  refine mv0 rfl rfl ?_
  refine mv0 rfl rfl ?_
  refine Dv.bin rfl trivial rfl rfl (fun _ => run_ne) ?_
  refine as0 rfl rfl ?_
  refine .fin ?_
  obtain rfl := Gets.out H
  exact WP.retL (fun _ _ h => h) rfl () trivial (.cons (res_tmp rfl) .nil) rfl (st_seln 0 [] 0 rfl rfl rfl)
theorem cmp_Compare_int.c {a0 : Int} {a1 : Int} {r : Int} (h : cmp_Compare_int.f a0 a1 = some r) : Pt Tryz.prog 74 [eq (.int .i64 a0), eq (.int .i64 a1)] (eq (.int .i64 r)) := by
  unfold cmp_Compare_int.f at h
  refine (Tr.body Tryz.func74 (c := _) rfl Tryz.ntmps74 (Nat.le_of_ble_eq_true rfl) fun R0 F => ?_).pt
  replace h := Gets.of h
  have H := h
  clear h
  refine WP.seq ?_
  refine WP.reg [(0, false)] (by kernel_rfl) ?_
  refine as0 rfl rfl ?_
  refine .fin ?_
  refine WP.seq ?_
  refine WP.reg [(0, false), (1, false), (2, false)] (by kernel_rfl) ?_
  refine mv0 rfl rfl ?_
  obtain ⟨t266, h267, H⟩ := Gets.call H
  refine Dv.call rfl trivial cal104 rfl (cmp_isNaN_int.c h267) ?_
  refine as0 rfl rfl ?_
  refine .fin ?_
  refine WP.seq ?_
  refine WP.reg [(0, false), (1, false), (2, false)] (by kernel_rfl) ?_
  refine mv0 rfl rfl ?_
  obtain ⟨t268, h269, H⟩ := Gets.call H
  refine Dv.call rfl trivial cal104 rfl (cmp_isNaN_int.c h269) ?_
  refine as0 rfl rfl ?_
  refine .fin ?_
  refine WP.seq ?_
  refine WP.seq ?_
  refine WP.reg [(0, false)] (by kernel_rfl) ?_
  refine mv0 rfl rfl ?_
  refine .fin ?_
  refine WP.cond rfl (fun c270 => ?_) (fun c270 => ?_)
  · replace H := Gets.ct H c270
    refine WP.seq ?_
    refine WP.seq ?_
    refine WP.reg [(0, false)] (by kernel_rfl) ?_
    refine mv0 rfl rfl ?_
    refine .fin ?_
    refine WP.cond rfl (fun c271 => ?_) (fun c271 => ?_)
    · replace H := Gets.ct H c271
      refine WP.seq ?_
      refine WP.reg [(0, false)] (by kernel_rfl) ?_
      refine as0 rfl rfl ?_
      refine .fin ?_
      obtain rfl := Gets.out H
      exact WP.retL (fun _ _ h => h) rfl () trivial (.cons (res_tmp rfl) .nil) rfl (st_seln 0 [] 0 rfl rfl rfl)
    · replace H := Gets.cf H c271
      refine WP.skip ?_
      refine WP.seq ?_
      refine WP.reg [(0, false)] (by kernel_rfl) ?_
      refine as0 rfl rfl ?_
      refine .fin ?_
      obtain rfl := Gets.out H
      exact WP.retL (fun _ _ h => h) rfl () trivial (.cons (res_tmp rfl) .nil) rfl (st_seln 0 [] 0 rfl rfl rfl)
  · replace H := Gets.cf H c270
    refine WP.skip ?_
    refine WP.seq ?_
    refine WP.seq ?_
    refine WP.reg [(0, false)] (by kernel_rfl) ?_
    refine mv0 rfl rfl ?_
    refine .fin ?_
    refine WP.cond rfl (fun c272 => ?_) (fun c272 => ?_)
    · replace H := Gets.ct H c272
      refine WP.seq ?_
      refine WP.reg [(0, false)] (by kernel_rfl) ?_
      refine as0 rfl rfl ?_
      refine .fin ?_
      obtain rfl := Gets.out H
      exact WP.retL (fun _ _ h => h) rfl () trivial (.cons (res_tmp rfl) .nil) rfl (st_seln 0 [] 0 rfl rfl rfl)
    · replace H := Gets.cf H c272
      refine WP.skip ?_
      refine WP.seq ?_
      refine WP.seq ?_
      refine WP.reg [(0, false), (1, false), (2, false)] (by kernel_rfl) ?_
      refine mv0 rfl rfl ?_
      refine mv0 rfl rfl ?_
      refine Dv.bin rfl trivial rfl rfl (fun _ => run_lt) ?_
      refine .fin ?_
      refine WP.cond rfl (fun c273 => ?_) (fun c273 => ?_)
      · replace H := Gets.ct H c273
        refine WP.seq ?_
        refine WP.reg [(0, false)] (by kernel_rfl) ?_
        refine as0 rfl rfl ?_
        refine .fin ?_
        obtain rfl := Gets.out H
        exact WP.retL (fun _ _ h => h) rfl () trivial (.cons (res_tmp rfl) .nil) rfl (st_seln 0 [] 0 rfl rfl rfl)
      · replace H := Gets.cf H c273
        refine WP.skip ?_
        refine WP.seq ?_
        refine WP.seq ?_
        refine WP.reg [(0, false), (1, false), (2, false)] (by kernel_rfl) ?_
        refine mv0 rfl rfl ?_
        refine mv0 rfl rfl ?_
        refine Dv.bin rfl trivial rfl rfl (fun _ => run_gt) ?_
        refine .fin ?_
        refine WP.cond rfl (fun c274 => ?_) (fun c274 => ?_)
        · replace H := Gets.ct H c274
          refine WP.seq ?_
          refine WP.reg [(0, false)] (by kernel_rfl) ?_
          refine as0 rfl rfl ?_
          refine .fin ?_
          obtain rfl := Gets.out H
          exact WP.retL (fun _ _ h => h) rfl () trivial (.cons (res_tmp rfl) .nil) rfl (st_seln 0 [] 0 rfl rfl rfl)
        · replace H := Gets.cf H c274
          refine WP.skip ?_
          refine WP.seq ?_
          refine WP.reg [(0, false)] (by kernel_rfl) ?_
          refine as0 rfl rfl ?_
          refine .fin ?_
          obtain rfl := Gets.out H
          exact WP.retL (fun _ _ h => h) rfl () trivial (.cons (res_tmp rfl) .nil) rfl (st_seln 0 [] 0 rfl rfl rfl)
theorem bytes_Compare.c {a0 : List Int} {a1 : List Int} {r : Int} (h : bytes_Compare.f a0 a1 = some r) : Pt Tryz.prog 75 [sl (intK .u8) a0, sl (intK .u8) a1] (eq (.int .i64 r)) := by
  unfold bytes_Compare.f at h
  refine (Tr.body Tryz.func75 (c := _) rfl Tryz.ntmps75 (Nat.le_of_ble_eq_true rfl) fun R0 F => ?_).pt
  replace h := Gets.of h
  have H := h
  clear h
  refine WP.seq ?_
  refine WP.reg [(0, false)] (by kernel_rfl) ?_
  refine as0 rfl rfl ?_
  refine .fin ?_
  refine WP.seq ?_
  refine WP.reg [(0, false), (1, false), (2, false), (3, false)] (by kernel_rfl) ?_
  refine mv0 rfl rfl ?_
  refine mv0 rfl rfl ?_
  refine Dv.cext rfl trivial rfl (xt_cmp Tryz.func105 (by kernel_rfl) rfl xf105 xg105) ?_
  refine as0 rfl rfl ?_
  refine .fin ?_
  obtain rfl := Gets.out H
  exact WP.retL (fun _ _ h => h) rfl () trivial (.cons (res_tmp rfl) .nil) rfl (st_seln 0 [] 0 rfl rfl rfl)
theorem lay_Number.c {k : Nat} {a0 : List Int} {a1 : Int} {p0_ : OV} {r : (List Int)} (h : lay_Number.f k a0 a1 = some r) : Tr Tryz.prog 106 [eq p0_.1, eq (.int .i64 a1)] [own (intK .u8) p0_.1 a0] (γ := OV) (fun _ => True) (fun g => eq g.1) (fun g => [own (intK .u8) g.1 r]) := by
  unfold lay_Number.f at h
  refine Tr.body Tryz.func106 (c := _) rfl Tryz.ntmps106 (Nat.le_of_ble_eq_true rfl) fun R0 F => ?_
  replace h := Gets.of h
  have H := h
  clear h
  refine WP.seq ?_
  refine WP.reg [(0, false)] (by kernel_rfl) ?_
  refine as0 rfl rfl ?_
  refine .fin ?_
  refine WP.seq ?_
  refine WP.reg [(0, false), (1, false), (2, false)] (by kernel_rfl) ?_
  refine mv0 rfl rfl ?_
  refine Dv.maxi rfl trivial rfl rfl ?_
  refine as0 rfl rfl ?_
  refine .fin ?_
  refine WP.seq ?_
  refine WP.reg [(0, false), (1, false), (2, false), (3, false), (4, false), (5, true), (6, false)] (by kernel_rfl) ?_
  refine mv0 rfl rfl ?_
  refine mv0 rfl rfl ?_
  refine Dv.lenw rfl trivial rfl (mem_at 0 rfl) Tryz.underlying81 ?_
  refine mv0 rfl rfl ?_
  refine Dv.lenw rfl trivial rfl (mem_at 0 rfl) Tryz.underlying81 ?_
  obtain ⟨g275, H⟩ := Gets.grd H
  refine Dv.slo (jj := 0) rfl trivial rfl rfl Tryz.underlying81 Tryz.underlying5 c5 bdE_none (bdE_some rfl g275.1) (.inr ⟨⟨_, _, rfl, g275.1, rfl⟩, rfl, rfl⟩) g275.2.1 g275.2.2 nofun (fun v276 => ?_)
  refine as0 rfl rfl ?_
  refine .fin ?_
  refine WP.seqn H (fun q289 : (Int × Bool × (List Int)) × OV => q289.1) (fun q289 : (Int × Bool × (List Int)) × OV => [(0, eq q289.2.1), (1, eq (.int .i64 q289.1.1)), (4, eq (.slice none 0 0)), (14, eq (.bool q289.1.2.1))]) (fun q289 : (Int × Bool × (List Int)) × OV => [own (intK .u8) q289.2.1 q289.1.2.2] ++ F) (fun q289 H => ?_) (fun H => ?_)
  · obtain ⟨p277, v278⟩ := q289
    refine WP.seq ?_
    refine WP.reg [(0, false), (1, false), (2, false), (3, false), (4, true), (5, false)] (by kernel_rfl) ?_
    refine mv0 rfl rfl ?_
    refine mv0 rfl rfl ?_
    refine Dv.cvi rfl trivial rfl Tryz.underlying3 Tryz.underlying5 ?_
    refine Dv.lit (intK .u8) ([IntKind.u8.wrap (p277.1)] : List Int) (css := [[eq (.int .u8 (IntKind.u8.wrap (p277.1)))]]) rfl trivial Tryz.underlying81 Tryz.underlying5 c5 z5 rfl (by decide) (by decide) rfl ⟨(cells_one (one_eq rfl)), trivial⟩ rfl rfl rfl ?_
    obtain ⟨g279, H⟩ := Gets.grd H
    refine Dv.appx (jj := 0) (ys := ([IntKind.u8.wrap (p277.1)] : List Int)) (fun v280 : OV => [own (intK .u8) v280.1 (p277.2.2 ++ ([IntKind.u8.wrap (p277.1)] : List Int))] ++ F) rfl trivial rfl rfl rfl src_sl Tryz.underlying81 (.inr ⟨_, Tryz.underlying81⟩) inf5 rfl (by decide) g279 rfl nofun (fun v280 => ?_)
    refine as0 rfl rfl ?_
    refine .fin ?_
    obtain rfl := Gets.out H
    exact WP.retL (fun _ _ h => h) rfl v280 trivial (.cons (res_tmp rfl) .nil) rfl (st_seln 1 [0] 0 rfl rfl rfl)
  · refine WP.block ?_
    refine WP.gh (l' := fun _ => [own (intK .u8) v276.1 ((a0.take ((a0.length : Int).toNat)).drop 0)] ++ F) (gh_of (st_selgn 1 [0] 0 rfl rfl rfl)) (fun _ _ => ?_)
    refine WP.loopg (fun j_ (p288 : Int × (List Int) × OV) => lay_Number.l0 k j_ p288.1 p288.2.1) (max a1 0, (a0.take ((a0.length : Int).toNat)).drop 0, v276) H (fun p288 => [(0, eq p288.2.2.1), (1, eq (.int .i64 p288.1)), (4, eq (.slice none 0 0))]) (fun p288 => [own (intK .u8) p288.2.2.1 p288.2.1] ++ F) (weak_cons rfl (weak_cons rfl (weak_cons rfl weak_nil))) (List.Perm.refl _) ?_
    rintro j_ ⟨x281, x282, v283⟩ H
    rcases j_ with _ | j287
    · exact (Gets.no H).elim
    replace H : Gets (lay_Number.l0 k (j287 + 1) x281 x282) _ := H
    rw [lay_Number.l0] at H
    refine WP.seq ?_
    refine WP.seq ?_
    refine WP.reg [(0, false), (1, false)] (by kernel_rfl) ?_
    refine mv0 rfl rfl ?_
    refine Dv.bin rfl trivial rfl rfl (fun _ => run_ge) ?_
    refine .fin ?_
    refine WP.cond rfl (fun c284 => ?_) (fun c284 => ?_)
    · replace H := Gets.ct H c284
      refine WP.skip ?_
      refine WP.seq ?_
      refine WP.block ?_
      refine WP.reg [(0, false), (1, false), (2, false), (3, false), (4, false), (5, false), (6, true), (7, false)] (by kernel_rfl) ?_
      refine mv0 rfl rfl ?_
      refine mv0 rfl rfl ?_
      refine Dv.bin rfl trivial rfl rfl (fun _ => run_rem (by decide)) ?_
      refine Dv.bin rfl trivial rfl rfl (fun _ => run_add) ?_
      refine Dv.cvi rfl trivial rfl Tryz.underlying3 Tryz.underlying5 ?_
      refine Dv.lit (intK .u8) ([IntKind.u8.wrap (w64 ((x281.tmod 128) + 128))] : List Int) (css := [[eq (.int .u8 (IntKind.u8.wrap (w64 ((x281.tmod 128) + 128))))]]) rfl trivial Tryz.underlying81 Tryz.underlying5 c5 z5 rfl (by decide) (by decide) rfl ⟨(cells_one (one_eq rfl)), trivial⟩ rfl rfl rfl ?_
      obtain ⟨g285, H⟩ := Gets.grd H
      refine Dv.appx (jj := 0) (ys := ([IntKind.u8.wrap (w64 ((x281.tmod 128) + 128))] : List Int)) (fun v286 : OV => [own (intK .u8) v286.1 (x282 ++ ([IntKind.u8.wrap (w64 ((x281.tmod 128) + 128))] : List Int))] ++ F) rfl trivial rfl rfl rfl src_sl Tryz.underlying81 (.inr ⟨_, Tryz.underlying81⟩) inf5 rfl (by decide) g285 rfl nofun (fun v286 => ?_)
      refine as0 rfl rfl ?_
      refine .fin ?_
      refine WP.reg [(0, false), (1, false), (2, false)] (by kernel_rfl) ?_
      refine mv0 rfl rfl ?_
      refine Dv.bin rfl trivial rfl rfl (fun _ => run_quo (by decide)) ?_
      refine as0 rfl rfl ?_
      refine .fin ?_
      exact Back.mk j287 (w64 (x281.tdiv 128), x282 ++ ([IntKind.u8.wrap (w64 ((x281.tmod 128) + 128))] : List Int), v286) (Nat.lt_succ_self _) H (weak_cons rfl (weak_cons rfl (weak_cons rfl weak_nil))) (List.Perm.refl _)
    · replace H := Gets.cf H c284
      refine WP.exit ?_
      replace H := Gets.out H
      exact Jn.mk ((x281, decide (128 ≤ x281), x282), v283) H (weak_cons rfl (weak_cons rfl (weak_cons rfl (weak_cons rfl weak_nil)))) (List.Perm.refl _)
theorem lay_Text.c {k : Nat} {a0 : List Int} {a1 : ByteArray} {p0_ : OV} {r : (List Int)} (h : lay_Text.f k a0 a1 = some r) : Tr Tryz.prog 107 [eq p0_.1, eq (.string a1)] [own (intK .u8) p0_.1 a0] (γ := OV) (fun _ => True) (fun g => eq g.1) (fun g => [own (intK .u8) g.1 r]) := by
  unfold lay_Text.f at h
  refine Tr.body Tryz.func107 (c := _) rfl Tryz.ntmps107 (Nat.le_of_ble_eq_true rfl) fun R0 F => ?_
  replace h := Gets.of h
  have H := h
  clear h
  refine WP.seq ?_
  refine WP.reg [(0, false)] (by kernel_rfl) ?_
  refine as0 rfl rfl ?_
  refine .fin ?_
  refine WP.seq ?_
  refine WP.reg [(0, false), (1, false), (2, false), (3, true), (4, false), (5, true), (6, false)] (by kernel_rfl) ?_
  refine mv0 rfl rfl ?_
  refine mv0 rfl rfl ?_
  refine Dv.lens rfl trivial rfl Tryz.underlying9 ?_
  obtain ⟨t290, h291, H⟩ := Gets.call H
  refine Dv.callx (pre := [own (intK .u8) p0_.1 a0]) (F := [] ++ F) (fun g292 : OV => [own (intK .u8) g292.1 t290] ++ F) rfl trivial cal106 rfl (lay_Number.c h291 (p0_ := p0_)) (perm_ton 1 [0] rfl rfl rfl) rfl nofun (fun g292 _ => ?_)
  refine mv0 rfl rfl ?_
  obtain ⟨g293, H⟩ := Gets.grd H
  refine Dv.appx (jj := 0) (ys := strBs a1) (fun v294 : OV => [own (intK .u8) v294.1 (t290 ++ (strBs a1))] ++ F) rfl trivial rfl rfl rfl src_str Tryz.underlying81 (.inl Tryz.underlying9) inf5 rfl (by decide) g293 rfl nofun (fun v294 => ?_)
  refine as0 rfl rfl ?_
  refine .fin ?_
  obtain rfl := Gets.out H
  exact WP.retL (fun _ _ h => h) rfl v294 trivial (.cons (res_tmp rfl) .nil) rfl (st_seln 1 [0] 0 rfl rfl rfl)
theorem lay_Flag.c {k : Nat} {a0 : List Int} {a1 : Bool} {p0_ : OV} {r : (List Int)} (h : lay_Flag.f k a0 a1 = some r) : Tr Tryz.prog 108 [eq p0_.1, eq (.bool a1)] [own (intK .u8) p0_.1 a0] (γ := OV) (fun _ => True) (fun g => eq g.1) (fun g => [own (intK .u8) g.1 r]) := by
  unfold lay_Flag.f at h
  refine Tr.body Tryz.func108 (c := _) rfl Tryz.ntmps108 (Nat.le_of_ble_eq_true rfl) fun R0 F => ?_
  replace h := Gets.of h
  have H := h
  clear h
  refine WP.seq ?_
  refine WP.reg [(0, false)] (by kernel_rfl) ?_
  refine as0 rfl rfl ?_
  refine .fin ?_
  refine WP.seq ?_
  refine WP.seq ?_
  refine WP.reg [(0, false)] (by kernel_rfl) ?_
  refine mv0 rfl rfl ?_
  refine .fin ?_
  refine WP.cond rfl (fun c295 => ?_) (fun c295 => ?_)
  · replace H := Gets.ct H c295
    refine WP.seq ?_
    refine WP.reg [(0, false), (1, true), (2, false)] (by kernel_rfl) ?_
    refine mv0 rfl rfl ?_
    obtain ⟨t296, h297, H⟩ := Gets.call H
    refine Dv.callx (pre := [own (intK .u8) p0_.1 a0]) (F := [] ++ F) (fun g298 : OV => [own (intK .u8) g298.1 t296] ++ F) rfl trivial cal106 rfl (lay_Number.c h297 (p0_ := p0_)) (perm_ton 1 [0] rfl rfl rfl) rfl nofun (fun g298 _ => ?_)
    refine as0 rfl rfl ?_
    refine .fin ?_
    obtain rfl := Gets.out H
    exact WP.retL (fun _ _ h => h) rfl g298 trivial (.cons (res_tmp rfl) .nil) rfl (st_seln 1 [0] 0 rfl rfl rfl)
  · replace H := Gets.cf H c295
    refine WP.skip ?_
    refine WP.seq ?_
    refine WP.reg [(0, false), (1, true), (2, false)] (by kernel_rfl) ?_
    refine mv0 rfl rfl ?_
    obtain ⟨t299, h300, H⟩ := Gets.call H
    refine Dv.callx (pre := [own (intK .u8) p0_.1 a0]) (F := [] ++ F) (fun g301 : OV => [own (intK .u8) g301.1 t299] ++ F) rfl trivial cal106 rfl (lay_Number.c h300 (p0_ := p0_)) (perm_ton 1 [0] rfl rfl rfl) rfl nofun (fun g301 _ => ?_)
    refine as0 rfl rfl ?_
    refine .fin ?_
    obtain rfl := Gets.out H
    exact WP.retL (fun _ _ h => h) rfl g301 trivial (.cons (res_tmp rfl) .nil) rfl (st_seln 1 [0] 0 rfl rfl rfl)
theorem edu_laid.c {k : Nat} {a0 : Edu} {r : (List Int)} (h : edu_laid.f k a0 = some r) : Tr Tryz.prog 76 [agg (Edu.enc a0)] [] (γ := OV) (fun _ => True) (fun g => eq g.1) (fun g => [own (intK .u8) g.1 r]) := by
  unfold edu_laid.f at h
  refine Tr.body Tryz.func76 (c := _) rfl Tryz.ntmps76 (Nat.le_of_ble_eq_true rfl) fun R0 F => ?_
  replace h := Gets.of h
  have H := h
  clear h
  refine WP.seq ?_
  refine WP.reg [(0, true), (1, false)] (by kernel_rfl) ?_
  refine Dv.box rfl trivial rfl (cells_agg (Edu.K.one _)) nofun (fun b302 => ?_)
  refine as0 rfl rfl ?_
  refine .fin ?_
  refine WP.seq ?_
  refine WP.reg [(0, false), (1, false), (2, true), (3, false)] (by kernel_rfl) ?_
  refine Dv.fab rfl trivial rfl Tryz.underlying30 rfl Tryz.underlying3 c3 (by decide) ?_
  refine Dv.ldb rfl trivial rfl Tryz.underlying3 rfl (mem_at 0 rfl) rfl ?_
  refine Dv.gh (gh_of (st_nil (intK .u8) none)) (fun _ _ => ?_)
  obtain ⟨t303, h304, H⟩ := Gets.call H
  refine Dv.callx (pre := [own (intK .u8) nilV.1 ([] : List Int)]) (F := [blk b302 30 [eq (.int .i64 a0.fKind), eq (.string a0.fRoom), eq (.string a0.fUser), eq (.string a0.fEvent), eq (.string a0.fThread), eq (.bool a0.fPrivate), eq (.bool a0.fOn), eq (.int .i64 a0.fSpan), eq (.int .i64 a0.fState), eq (.int .i64 a0.fTick), eq (.int .i64 a0.fStamp)]] ++ F) (fun g305 : OV => [own (intK .u8) g305.1 t303, blk b302 30 [eq (.int .i64 a0.fKind), eq (.string a0.fRoom), eq (.string a0.fUser), eq (.string a0.fEvent), eq (.string a0.fThread), eq (.bool a0.fPrivate), eq (.bool a0.fOn), eq (.int .i64 a0.fSpan), eq (.int .i64 a0.fState), eq (.int .i64 a0.fTick), eq (.int .i64 a0.fStamp)]] ++ F) rfl trivial cal106 rfl (lay_Number.c h304 (p0_ := nilV)) (perm_ton 2 [0, 1] rfl rfl rfl) rfl nofun (fun g305 _ => ?_)
  refine as0 rfl rfl ?_
  refine .fin ?_
  refine WP.seqn H (fun q334 : (Int × Bool × (List Int)) × OV => q334.1) (fun q334 : (Int × Bool × (List Int)) × OV => [(0, agg (Edu.enc a0)), (1, eq (.pointer (some ⟨b302, 0, none⟩))), (2, eq (.slice none 0 0)), (3, eq q334.2.1), (19, sl strK ([a0.fRoom, a0.fUser, a0.fEvent, a0.fThread] : List ByteArray)), (20, eq (.int .i64 (([a0.fRoom, a0.fUser, a0.fEvent, a0.fThread] : List ByteArray).length : Int))), (21, eq (.int .i64 q334.1.1)), (22, eq (.bool q334.1.2.1))]) (fun q334 : (Int × Bool × (List Int)) × OV => [blk b302 30 [eq (.int .i64 a0.fKind), eq (.string a0.fRoom), eq (.string a0.fUser), eq (.string a0.fEvent), eq (.string a0.fThread), eq (.bool a0.fPrivate), eq (.bool a0.fOn), eq (.int .i64 a0.fSpan), eq (.int .i64 a0.fState), eq (.int .i64 a0.fTick), eq (.int .i64 a0.fStamp)], own (intK .u8) q334.2.1 q334.1.2.2] ++ F) (fun q334 H => ?_) (fun H => ?_)
  · obtain ⟨p306, v307⟩ := q334
    refine WP.seq ?_
    refine WP.reg [(0, false), (1, false), (2, false), (3, true), (4, false)] (by kernel_rfl) ?_
    refine mv0 rfl rfl ?_
    refine Dv.fab rfl trivial rfl Tryz.underlying30 rfl Tryz.underlying4 c4 (by decide) ?_
    refine Dv.ldb rfl trivial rfl Tryz.underlying4 rfl (mem_at 0 rfl) rfl ?_
    obtain ⟨t308, h309, H⟩ := Gets.call H
    refine Dv.callx (pre := [own (intK .u8) v307.1 p306.2.2]) (F := [blk b302 30 [eq (.int .i64 a0.fKind), eq (.string a0.fRoom), eq (.string a0.fUser), eq (.string a0.fEvent), eq (.string a0.fThread), eq (.bool a0.fPrivate), eq (.bool a0.fOn), eq (.int .i64 a0.fSpan), eq (.int .i64 a0.fState), eq (.int .i64 a0.fTick), eq (.int .i64 a0.fStamp)]] ++ F) (fun g310 : OV => [own (intK .u8) g310.1 t308, blk b302 30 [eq (.int .i64 a0.fKind), eq (.string a0.fRoom), eq (.string a0.fUser), eq (.string a0.fEvent), eq (.string a0.fThread), eq (.bool a0.fPrivate), eq (.bool a0.fOn), eq (.int .i64 a0.fSpan), eq (.int .i64 a0.fState), eq (.int .i64 a0.fTick), eq (.int .i64 a0.fStamp)]] ++ F) rfl trivial cal108 rfl (lay_Flag.c h309 (p0_ := v307)) (perm_ton 2 [1, 0] rfl rfl rfl) rfl nofun (fun g310 _ => ?_)
    refine as0 rfl rfl ?_
    refine .fin ?_
    refine WP.seqn H (fun q323 : (Int × Bool × (List Int)) × OV => q323.1) (fun q323 : (Int × Bool × (List Int)) × OV => [(0, agg (Edu.enc a0)), (1, eq (.pointer (some ⟨b302, 0, none⟩))), (2, eq (.slice none 0 0)), (3, eq q323.2.1), (19, sl strK ([a0.fRoom, a0.fUser, a0.fEvent, a0.fThread] : List ByteArray)), (20, eq (.int .i64 (([a0.fRoom, a0.fUser, a0.fEvent, a0.fThread] : List ByteArray).length : Int))), (21, eq (.int .i64 p306.1)), (22, eq (.bool p306.2.1)), (41, sl (intK .i64) ([a0.fSpan, a0.fState, a0.fTick, a0.fStamp] : List Int)), (42, eq (.int .i64 (([a0.fSpan, a0.fState, a0.fTick, a0.fStamp] : List Int).length : Int))), (43, eq (.int .i64 q323.1.1)), (44, eq (.bool q323.1.2.1))]) (fun q323 : (Int × Bool × (List Int)) × OV => [blk b302 30 [eq (.int .i64 a0.fKind), eq (.string a0.fRoom), eq (.string a0.fUser), eq (.string a0.fEvent), eq (.string a0.fThread), eq (.bool a0.fPrivate), eq (.bool a0.fOn), eq (.int .i64 a0.fSpan), eq (.int .i64 a0.fState), eq (.int .i64 a0.fTick), eq (.int .i64 a0.fStamp)], own (intK .u8) q323.2.1 q323.1.2.2] ++ F) (fun q323 H => ?_) (fun H => ?_)
    · obtain ⟨p311, v312⟩ := q323
      refine WP.seq ?_
      refine WP.reg [(0, false), (1, false)] (by kernel_rfl) ?_
      refine mv0 rfl rfl ?_
      refine as0 rfl rfl ?_
      refine .fin ?_
      obtain rfl := Gets.out H
      exact WP.retL (fun _ _ h => h) rfl v312 trivial (.cons (res_tmp rfl) .nil) rfl (st_seln 2 [0, 1] 1 rfl rfl rfl)
    · refine WP.seq ?_
      refine WP.reg [(0, false), (1, false), (2, false), (3, false), (4, false), (5, false), (6, false), (7, false), (8, false), (9, false), (10, false)] (by kernel_rfl) ?_
      refine Dv.fab rfl trivial rfl Tryz.underlying30 rfl Tryz.underlying3 c3 (by decide) ?_
      refine Dv.ldb rfl trivial rfl Tryz.underlying3 rfl (mem_at 1 rfl) rfl ?_
      refine Dv.fab rfl trivial rfl Tryz.underlying30 rfl Tryz.underlying3 c3 (by decide) ?_
      refine Dv.ldb rfl trivial rfl Tryz.underlying3 rfl (mem_at 1 rfl) rfl ?_
      refine Dv.fab rfl trivial rfl Tryz.underlying30 rfl Tryz.underlying3 c3 (by decide) ?_
      refine Dv.ldb rfl trivial rfl Tryz.underlying3 rfl (mem_at 1 rfl) rfl ?_
      refine Dv.fab rfl trivial rfl Tryz.underlying30 rfl Tryz.underlying3 c3 (by decide) ?_
      refine Dv.ldb rfl trivial rfl Tryz.underlying3 rfl (mem_at 1 rfl) rfl ?_
      refine Dv.lit (intK .i64) ([a0.fSpan, a0.fState, a0.fTick, a0.fStamp] : List Int) (css := [[eq (.int .i64 a0.fSpan)], [eq (.int .i64 a0.fState)], [eq (.int .i64 a0.fTick)], [eq (.int .i64 a0.fStamp)]]) rfl trivial Tryz.underlying24 Tryz.underlying3 c3 z3 rfl (by decide) (by decide) rfl ⟨(cells_one (one_eq rfl)), ⟨(cells_one (one_eq rfl)), ⟨(cells_one (one_eq rfl)), ⟨(cells_one (one_eq rfl)), trivial⟩⟩⟩⟩ rfl rfl rfl ?_
      refine Dv.lenl rfl trivial rfl Tryz.underlying24 ?_
      refine mv0 rfl rfl ?_
      refine .fin ?_
      refine WP.block ?_
      refine WP.gh (l' := fun _ => [blk b302 30 [eq (.int .i64 a0.fKind), eq (.string a0.fRoom), eq (.string a0.fUser), eq (.string a0.fEvent), eq (.string a0.fThread), eq (.bool a0.fPrivate), eq (.bool a0.fOn), eq (.int .i64 a0.fSpan), eq (.int .i64 a0.fState), eq (.int .i64 a0.fTick), eq (.int .i64 a0.fStamp)], own (intK .u8) g310.1 t308] ++ F) (gh_of (st_selgn 2 [1, 0] 0 rfl rfl rfl)) (fun _ _ => ?_)
      refine WP.loopg (fun j_ (p322 : Int × (List Int) × OV) => edu_laid.l0 k a0 j_ p322.1 p322.2.1) (0, t308, g310) H (fun p322 => [(0, agg (Edu.enc a0)), (1, eq (.pointer (some ⟨b302, 0, none⟩))), (2, eq (.slice none 0 0)), (3, eq p322.2.2.1), (19, sl strK ([a0.fRoom, a0.fUser, a0.fEvent, a0.fThread] : List ByteArray)), (20, eq (.int .i64 (([a0.fRoom, a0.fUser, a0.fEvent, a0.fThread] : List ByteArray).length : Int))), (21, eq (.int .i64 p306.1)), (22, eq (.bool p306.2.1)), (41, sl (intK .i64) ([a0.fSpan, a0.fState, a0.fTick, a0.fStamp] : List Int)), (42, eq (.int .i64 (([a0.fSpan, a0.fState, a0.fTick, a0.fStamp] : List Int).length : Int))), (43, eq (.int .i64 p322.1))]) (fun p322 => [blk b302 30 [eq (.int .i64 a0.fKind), eq (.string a0.fRoom), eq (.string a0.fUser), eq (.string a0.fEvent), eq (.string a0.fThread), eq (.bool a0.fPrivate), eq (.bool a0.fOn), eq (.int .i64 a0.fSpan), eq (.int .i64 a0.fState), eq (.int .i64 a0.fTick), eq (.int .i64 a0.fStamp)], own (intK .u8) p322.2.2.1 p322.2.1] ++ F) (weak_cons rfl (weak_cons rfl (weak_cons rfl (weak_cons rfl (weak_cons rfl (weak_cons rfl (weak_cons rfl (weak_cons rfl (weak_cons rfl (weak_cons rfl (weak_cons rfl weak_nil))))))))))) (List.Perm.refl _) ?_
      rintro j_ ⟨x313, x314, v315⟩ H
      rcases j_ with _ | j321
      · exact (Gets.no H).elim
      replace H : Gets (edu_laid.l0 k a0 (j321 + 1) x313 x314) _ := H
      rw [edu_laid.l0] at H
      refine WP.seq ?_
      refine WP.reg [(0, false)] (by kernel_rfl) ?_
      refine Dv.bin rfl trivial rfl rfl (fun _ => run_lt) ?_
      refine .fin ?_
      refine WP.seq ?_
      refine WP.cond rfl (fun c316 => ?_) (fun c316 => ?_)
      · replace H := Gets.ct H c316
        refine WP.skip ?_
        refine WP.seq ?_
        refine WP.block ?_
        refine WP.seq ?_
        refine WP.reg [(0, false), (1, false), (2, false)] (by kernel_rfl) ?_
        obtain ⟨g317, H⟩ := Gets.grd H
        refine Dv.ixr rfl trivial rfl rfl Tryz.underlying24 Tryz.underlying3 c3 g317.1 g317.2 ?_
        refine Dv.ldr rfl trivial rfl Tryz.underlying3 rfl rfl ?_
        refine as0 rfl rfl ?_
        refine .fin ?_
        refine WP.reg [(0, false), (1, false), (2, true), (3, false)] (by kernel_rfl) ?_
        refine mv0 rfl rfl ?_
        refine mv0 rfl rfl ?_
        obtain ⟨t318, h319, H⟩ := Gets.call H
        refine Dv.callx (pre := [own (intK .u8) v315.1 x314]) (F := [blk b302 30 [eq (.int .i64 a0.fKind), eq (.string a0.fRoom), eq (.string a0.fUser), eq (.string a0.fEvent), eq (.string a0.fThread), eq (.bool a0.fPrivate), eq (.bool a0.fOn), eq (.int .i64 a0.fSpan), eq (.int .i64 a0.fState), eq (.int .i64 a0.fTick), eq (.int .i64 a0.fStamp)]] ++ F) (fun g320 : OV => [own (intK .u8) g320.1 t318, blk b302 30 [eq (.int .i64 a0.fKind), eq (.string a0.fRoom), eq (.string a0.fUser), eq (.string a0.fEvent), eq (.string a0.fThread), eq (.bool a0.fPrivate), eq (.bool a0.fOn), eq (.int .i64 a0.fSpan), eq (.int .i64 a0.fState), eq (.int .i64 a0.fTick), eq (.int .i64 a0.fStamp)]] ++ F) rfl trivial cal106 rfl (lay_Number.c h319 (p0_ := v315)) (perm_ton 2 [1, 0] rfl rfl rfl) rfl nofun (fun g320 _ => ?_)
        refine as0 rfl rfl ?_
        refine .fin ?_
        refine WP.reg [(0, false), (1, false)] (by kernel_rfl) ?_
        refine Dv.bin rfl trivial rfl rfl (fun _ => run_add) ?_
        refine mv0 rfl rfl ?_
        refine .fin ?_
        refine Dn.gh (l' := fun _ : Unit => [blk b302 30 [eq (.int .i64 a0.fKind), eq (.string a0.fRoom), eq (.string a0.fUser), eq (.string a0.fEvent), eq (.string a0.fThread), eq (.bool a0.fPrivate), eq (.bool a0.fOn), eq (.int .i64 a0.fSpan), eq (.int .i64 a0.fState), eq (.int .i64 a0.fTick), eq (.int .i64 a0.fStamp)], own (intK .u8) g320.1 t318] ++ F) (gh_of (st_selgn 2 [1, 0] 0 rfl rfl rfl)) (fun _ _ => ?_)
        exact Back.mk j321 (w64 (x313 + 1), t318, g320) (Nat.lt_succ_self _) H (weak_cons rfl (weak_cons rfl (weak_cons rfl (weak_cons rfl (weak_cons rfl (weak_cons rfl (weak_cons rfl (weak_cons rfl (weak_cons rfl (weak_cons rfl (weak_cons rfl weak_nil))))))))))) (List.Perm.refl _)
      · replace H := Gets.cf H c316
        refine WP.exit ?_
        replace H := Gets.out H
        exact Jn.mk ((x313, decide (x313 < (([a0.fSpan, a0.fState, a0.fTick, a0.fStamp] : List Int).length : Int)), x314), v315) H (weak_cons rfl (weak_cons rfl (weak_cons rfl (weak_cons rfl (weak_cons rfl (weak_cons rfl (weak_cons rfl (weak_cons rfl (weak_cons rfl (weak_cons rfl (weak_cons rfl (weak_cons rfl weak_nil)))))))))))) (List.Perm.refl _)
  · refine WP.seq ?_
    refine WP.reg [(0, false), (1, false), (2, false), (3, false), (4, false), (5, false), (6, false), (7, false), (8, false), (9, false), (10, false)] (by kernel_rfl) ?_
    refine Dv.fab rfl trivial rfl Tryz.underlying30 rfl Tryz.underlying9 c9 (by decide) ?_
    refine Dv.ldb rfl trivial rfl Tryz.underlying9 rfl (mem_at 1 rfl) rfl ?_
    refine Dv.fab rfl trivial rfl Tryz.underlying30 rfl Tryz.underlying9 c9 (by decide) ?_
    refine Dv.ldb rfl trivial rfl Tryz.underlying9 rfl (mem_at 1 rfl) rfl ?_
    refine Dv.fab rfl trivial rfl Tryz.underlying30 rfl Tryz.underlying9 c9 (by decide) ?_
    refine Dv.ldb rfl trivial rfl Tryz.underlying9 rfl (mem_at 1 rfl) rfl ?_
    refine Dv.fab rfl trivial rfl Tryz.underlying30 rfl Tryz.underlying9 c9 (by decide) ?_
    refine Dv.ldb rfl trivial rfl Tryz.underlying9 rfl (mem_at 1 rfl) rfl ?_
    refine Dv.lit strK ([a0.fRoom, a0.fUser, a0.fEvent, a0.fThread] : List ByteArray) (css := [[eq (.string a0.fRoom)], [eq (.string a0.fUser)], [eq (.string a0.fEvent)], [eq (.string a0.fThread)]]) rfl trivial Tryz.underlying37 Tryz.underlying9 c9 z9 rfl (by decide) (by decide) rfl ⟨(cells_one (one_eq rfl)), ⟨(cells_one (one_eq rfl)), ⟨(cells_one (one_eq rfl)), ⟨(cells_one (one_eq rfl)), trivial⟩⟩⟩⟩ rfl rfl rfl ?_
    refine Dv.lenl rfl trivial rfl Tryz.underlying37 ?_
    refine mv0 rfl rfl ?_
    refine .fin ?_
    refine WP.block ?_
    refine WP.gh (l' := fun _ => [blk b302 30 [eq (.int .i64 a0.fKind), eq (.string a0.fRoom), eq (.string a0.fUser), eq (.string a0.fEvent), eq (.string a0.fThread), eq (.bool a0.fPrivate), eq (.bool a0.fOn), eq (.int .i64 a0.fSpan), eq (.int .i64 a0.fState), eq (.int .i64 a0.fTick), eq (.int .i64 a0.fStamp)], own (intK .u8) g305.1 t303] ++ F) (gh_of (st_selgn 2 [1, 0] 0 rfl rfl rfl)) (fun _ _ => ?_)
    refine WP.loopg (fun j_ (p333 : Int × (List Int) × OV) => edu_laid.l1 k a0 j_ p333.1 p333.2.1) (0, t303, g305) H (fun p333 => [(0, agg (Edu.enc a0)), (1, eq (.pointer (some ⟨b302, 0, none⟩))), (2, eq (.slice none 0 0)), (3, eq p333.2.2.1), (19, sl strK ([a0.fRoom, a0.fUser, a0.fEvent, a0.fThread] : List ByteArray)), (20, eq (.int .i64 (([a0.fRoom, a0.fUser, a0.fEvent, a0.fThread] : List ByteArray).length : Int))), (21, eq (.int .i64 p333.1))]) (fun p333 => [blk b302 30 [eq (.int .i64 a0.fKind), eq (.string a0.fRoom), eq (.string a0.fUser), eq (.string a0.fEvent), eq (.string a0.fThread), eq (.bool a0.fPrivate), eq (.bool a0.fOn), eq (.int .i64 a0.fSpan), eq (.int .i64 a0.fState), eq (.int .i64 a0.fTick), eq (.int .i64 a0.fStamp)], own (intK .u8) p333.2.2.1 p333.2.1] ++ F) (weak_cons rfl (weak_cons rfl (weak_cons rfl (weak_cons rfl (weak_cons rfl (weak_cons rfl (weak_cons rfl weak_nil))))))) (List.Perm.refl _) ?_
    rintro j_ ⟨x324, x325, v326⟩ H
    rcases j_ with _ | j332
    · exact (Gets.no H).elim
    replace H : Gets (edu_laid.l1 k a0 (j332 + 1) x324 x325) _ := H
    rw [edu_laid.l1] at H
    refine WP.seq ?_
    refine WP.reg [(0, false)] (by kernel_rfl) ?_
    refine Dv.bin rfl trivial rfl rfl (fun _ => run_lt) ?_
    refine .fin ?_
    refine WP.seq ?_
    refine WP.cond rfl (fun c327 => ?_) (fun c327 => ?_)
    · replace H := Gets.ct H c327
      refine WP.skip ?_
      refine WP.seq ?_
      refine WP.block ?_
      refine WP.seq ?_
      refine WP.reg [(0, false), (1, false), (2, false)] (by kernel_rfl) ?_
      obtain ⟨g328, H⟩ := Gets.grd H
      refine Dv.ixr rfl trivial rfl rfl Tryz.underlying37 Tryz.underlying9 c9 g328.1 g328.2 ?_
      refine Dv.ldr rfl trivial rfl Tryz.underlying9 rfl rfl ?_
      refine as0 rfl rfl ?_
      refine .fin ?_
      refine WP.reg [(0, false), (1, false), (2, true), (3, false)] (by kernel_rfl) ?_
      refine mv0 rfl rfl ?_
      refine mv0 rfl rfl ?_
      obtain ⟨t329, h330, H⟩ := Gets.call H
      refine Dv.callx (pre := [own (intK .u8) v326.1 x325]) (F := [blk b302 30 [eq (.int .i64 a0.fKind), eq (.string a0.fRoom), eq (.string a0.fUser), eq (.string a0.fEvent), eq (.string a0.fThread), eq (.bool a0.fPrivate), eq (.bool a0.fOn), eq (.int .i64 a0.fSpan), eq (.int .i64 a0.fState), eq (.int .i64 a0.fTick), eq (.int .i64 a0.fStamp)]] ++ F) (fun g331 : OV => [own (intK .u8) g331.1 t329, blk b302 30 [eq (.int .i64 a0.fKind), eq (.string a0.fRoom), eq (.string a0.fUser), eq (.string a0.fEvent), eq (.string a0.fThread), eq (.bool a0.fPrivate), eq (.bool a0.fOn), eq (.int .i64 a0.fSpan), eq (.int .i64 a0.fState), eq (.int .i64 a0.fTick), eq (.int .i64 a0.fStamp)]] ++ F) rfl trivial cal107 rfl (lay_Text.c h330 (p0_ := v326)) (perm_ton 2 [1, 0] rfl rfl rfl) rfl nofun (fun g331 _ => ?_)
      refine as0 rfl rfl ?_
      refine .fin ?_
      refine WP.reg [(0, false), (1, false)] (by kernel_rfl) ?_
      refine Dv.bin rfl trivial rfl rfl (fun _ => run_add) ?_
      refine mv0 rfl rfl ?_
      refine .fin ?_
      refine Dn.gh (l' := fun _ : Unit => [blk b302 30 [eq (.int .i64 a0.fKind), eq (.string a0.fRoom), eq (.string a0.fUser), eq (.string a0.fEvent), eq (.string a0.fThread), eq (.bool a0.fPrivate), eq (.bool a0.fOn), eq (.int .i64 a0.fSpan), eq (.int .i64 a0.fState), eq (.int .i64 a0.fTick), eq (.int .i64 a0.fStamp)], own (intK .u8) g331.1 t329] ++ F) (gh_of (st_selgn 2 [1, 0] 0 rfl rfl rfl)) (fun _ _ => ?_)
      exact Back.mk j332 (w64 (x324 + 1), t329, g331) (Nat.lt_succ_self _) H (weak_cons rfl (weak_cons rfl (weak_cons rfl (weak_cons rfl (weak_cons rfl (weak_cons rfl (weak_cons rfl weak_nil))))))) (List.Perm.refl _)
    · replace H := Gets.cf H c327
      refine WP.exit ?_
      replace H := Gets.out H
      exact Jn.mk ((x324, decide (x324 < (([a0.fRoom, a0.fUser, a0.fEvent, a0.fThread] : List ByteArray).length : Int)), x325), v326) H (weak_cons rfl (weak_cons rfl (weak_cons rfl (weak_cons rfl (weak_cons rfl (weak_cons rfl (weak_cons rfl (weak_cons rfl weak_nil)))))))) (List.Perm.refl _)
theorem edu_Compare.c {k : Nat} {a0 : Edu} {a1 : Edu} {r : Int} (h : edu_Compare.f k a0 a1 = some r) : Pt Tryz.prog 52 [agg (Edu.enc a0), agg (Edu.enc a1)] (eq (.int .i64 r)) := by
  unfold edu_Compare.f at h
  refine (Tr.body Tryz.func52 (c := _) rfl Tryz.ntmps52 (Nat.le_of_ble_eq_true rfl) fun R0 F => ?_).pt
  replace h := Gets.of h
  have H := h
  clear h
  refine WP.seq ?_
  refine WP.reg [(0, true), (1, true), (2, false)] (by kernel_rfl) ?_
  refine Dv.box rfl trivial rfl (cells_agg (Edu.K.one _)) nofun (fun b335 => ?_)
  refine Dv.box rfl trivial rfl (cells_agg (Edu.K.one _)) nofun (fun b336 => ?_)
  refine as0 rfl rfl ?_
  refine .fin ?_
  refine WP.seq ?_
  refine WP.dreg Tryz.checked.mixed [(0, false), (1, false), (2, false), (3, false), (4, false), (5, false), (7, false), (6, true), (8, true), (9, false), (10, false), (11, false), (12, false)] (by kernel_rfl) ?_
  refine Dv.fab rfl trivial rfl Tryz.underlying30 rfl Tryz.underlying3 c3 (by decide) ?_
  refine Dv.ldb rfl trivial rfl Tryz.underlying3 rfl (mem_at 1 rfl) rfl ?_
  refine Dv.fab rfl trivial rfl Tryz.underlying30 rfl Tryz.underlying3 c3 (by decide) ?_
  refine Dv.ldb rfl trivial rfl Tryz.underlying3 rfl (mem_at 0 rfl) rfl ?_
  obtain ⟨t337, h338, H⟩ := Gets.call H
  refine Dv.call rfl trivial cal74 rfl (cmp_Compare_int.c h338) ?_
  refine Dv.ldbs rfl trivial rfl Tryz.underlying30 rfl c30 (mem_at 1 rfl) (Nat.le_of_ble_eq_true rfl) ?_
  refine Dv.ldbs rfl trivial rfl Tryz.underlying30 rfl c30 (mem_at 0 rfl) (Nat.le_of_ble_eq_true rfl) ?_
  obtain ⟨t339, h340, H⟩ := Gets.call H
  refine Dv.callx (pre := []) (F := [blk b336 30 [eq (.int .i64 a1.fKind), eq (.string a1.fRoom), eq (.string a1.fUser), eq (.string a1.fEvent), eq (.string a1.fThread), eq (.bool a1.fPrivate), eq (.bool a1.fOn), eq (.int .i64 a1.fSpan), eq (.int .i64 a1.fState), eq (.int .i64 a1.fTick), eq (.int .i64 a1.fStamp)], blk b335 30 [eq (.int .i64 a0.fKind), eq (.string a0.fRoom), eq (.string a0.fUser), eq (.string a0.fEvent), eq (.string a0.fThread), eq (.bool a0.fPrivate), eq (.bool a0.fOn), eq (.int .i64 a0.fSpan), eq (.int .i64 a0.fState), eq (.int .i64 a0.fTick), eq (.int .i64 a0.fStamp)]] ++ F) (fun g341 : OV => [own (intK .u8) g341.1 t339, blk b336 30 [eq (.int .i64 a1.fKind), eq (.string a1.fRoom), eq (.string a1.fUser), eq (.string a1.fEvent), eq (.string a1.fThread), eq (.bool a1.fPrivate), eq (.bool a1.fOn), eq (.int .i64 a1.fSpan), eq (.int .i64 a1.fState), eq (.int .i64 a1.fTick), eq (.int .i64 a1.fStamp)], blk b335 30 [eq (.int .i64 a0.fKind), eq (.string a0.fRoom), eq (.string a0.fUser), eq (.string a0.fEvent), eq (.string a0.fThread), eq (.bool a0.fPrivate), eq (.bool a0.fOn), eq (.int .i64 a0.fSpan), eq (.int .i64 a0.fState), eq (.int .i64 a0.fTick), eq (.int .i64 a0.fStamp)]] ++ F) rfl trivial cal76 rfl (edu_laid.c h340) (perm_ton 2 [0, 1] rfl rfl rfl) rfl (fun _ => pendc (pend_in (fun _ => (mem_at 1 rfl)) (pend_by (by kernel_rfl) (pend_by (by kernel_rfl) (pend_by (by kernel_rfl) (pend_by (by kernel_rfl) (pend_by (by kernel_rfl) (pend_by (by kernel_rfl) pend_nil)))))))) (fun g341 _ => ?_)
  obtain ⟨t342, h343, H⟩ := Gets.call H
  refine Dv.callx (pre := []) (F := [own (intK .u8) g341.1 t339, blk b336 30 [eq (.int .i64 a1.fKind), eq (.string a1.fRoom), eq (.string a1.fUser), eq (.string a1.fEvent), eq (.string a1.fThread), eq (.bool a1.fPrivate), eq (.bool a1.fOn), eq (.int .i64 a1.fSpan), eq (.int .i64 a1.fState), eq (.int .i64 a1.fTick), eq (.int .i64 a1.fStamp)], blk b335 30 [eq (.int .i64 a0.fKind), eq (.string a0.fRoom), eq (.string a0.fUser), eq (.string a0.fEvent), eq (.string a0.fThread), eq (.bool a0.fPrivate), eq (.bool a0.fOn), eq (.int .i64 a0.fSpan), eq (.int .i64 a0.fState), eq (.int .i64 a0.fTick), eq (.int .i64 a0.fStamp)]] ++ F) (fun g344 : OV => [own (intK .u8) g344.1 t342, own (intK .u8) g341.1 t339, blk b336 30 [eq (.int .i64 a1.fKind), eq (.string a1.fRoom), eq (.string a1.fUser), eq (.string a1.fEvent), eq (.string a1.fThread), eq (.bool a1.fPrivate), eq (.bool a1.fOn), eq (.int .i64 a1.fSpan), eq (.int .i64 a1.fState), eq (.int .i64 a1.fTick), eq (.int .i64 a1.fStamp)], blk b335 30 [eq (.int .i64 a0.fKind), eq (.string a0.fRoom), eq (.string a0.fUser), eq (.string a0.fEvent), eq (.string a0.fThread), eq (.bool a0.fPrivate), eq (.bool a0.fOn), eq (.int .i64 a0.fSpan), eq (.int .i64 a0.fState), eq (.int .i64 a0.fTick), eq (.int .i64 a0.fStamp)]] ++ F) rfl trivial cal76 rfl (edu_laid.c h343) (perm_ton 3 [0, 1, 2] rfl rfl rfl) rfl (fun _ => pendc (pend_bits (by kernel_rfl))) (fun g344 _ => ?_)
  obtain ⟨t345, h346, H⟩ := Gets.call H
  refine Dv.calll (B := [own (intK .u8) g341.1 t339, own (intK .u8) g344.1 t342]) (F := [blk b336 30 [eq (.int .i64 a1.fKind), eq (.string a1.fRoom), eq (.string a1.fUser), eq (.string a1.fEvent), eq (.string a1.fThread), eq (.bool a1.fPrivate), eq (.bool a1.fOn), eq (.int .i64 a1.fSpan), eq (.int .i64 a1.fState), eq (.int .i64 a1.fTick), eq (.int .i64 a1.fStamp)], blk b335 30 [eq (.int .i64 a0.fKind), eq (.string a0.fRoom), eq (.string a0.fUser), eq (.string a0.fEvent), eq (.string a0.fThread), eq (.bool a0.fPrivate), eq (.bool a0.fOn), eq (.int .i64 a0.fSpan), eq (.int .i64 a0.fState), eq (.int .i64 a0.fTick), eq (.int .i64 a0.fStamp)]] ++ F) rfl trivial cal75 rfl (Pt.lend _ (bytes_Compare.c h346) (.cons (lt_own (mem_at 0 rfl)) (.cons (lt_own (mem_at 1 rfl)) .nil)) flat_eq) (perm_ton 4 [1, 0, 2, 3] rfl rfl rfl) ?_
  refine Dv.lit (intK .i64) ([t337, t345] : List Int) (css := [[eq (.int .i64 t337)], [eq (.int .i64 t345)]]) rfl trivial Tryz.underlying24 Tryz.underlying3 c3 z3 rfl (by decide) (by decide) rfl ⟨(cells_one (one_eq rfl)), ⟨(cells_one (one_eq rfl)), trivial⟩⟩ rfl rfl rfl ?_
  obtain ⟨t347, h348, H⟩ := Gets.call H
  refine Dv.call rfl trivial cal49 rfl (cmp_Or_int.c h348) ?_
  refine as0 rfl rfl ?_
  refine .fin ?_
  obtain rfl := Gets.out H
  exact WP.retL (fun _ _ h => h) rfl () trivial (.cons (res_tmp rfl) .nil) rfl (st_seln 4 [0, 1, 2, 3] 4 rfl rfl rfl)
theorem edu_Later.c {k : Nat} {a0 : Edu} {a1 : Edu} {r : Bool} (h : edu_Later.f k a0 a1 = some r) : Pt Tryz.prog 28 [agg (Edu.enc a0), agg (Edu.enc a1)] (eq (.bool r)) := by
  unfold edu_Later.f at h
  refine (Tr.body Tryz.func28 (c := _) rfl Tryz.ntmps28 (Nat.le_of_ble_eq_true rfl) fun R0 F => ?_).pt
  replace h := Gets.of h
  have H := h
  clear h
  refine WP.seq ?_
  refine WP.reg [(0, true), (1, true), (2, false)] (by kernel_rfl) ?_
  refine Dv.box rfl trivial rfl (cells_agg (Edu.K.one _)) nofun (fun b349 => ?_)
  refine Dv.box rfl trivial rfl (cells_agg (Edu.K.one _)) nofun (fun b350 => ?_)
  refine as0 rfl rfl ?_
  refine .fin ?_
  refine WP.seq ?_
  refine WP.dreg Tryz.checked.mixed [(0, false), (1, false), (2, false), (3, false), (4, false), (5, false), (6, false), (7, false), (8, false), (9, false), (10, false), (11, false)] (by kernel_rfl) ?_
  refine Dv.ldbs rfl trivial rfl Tryz.underlying30 rfl c30 (mem_at 1 rfl) (Nat.le_of_ble_eq_true rfl) ?_
  obtain ⟨t351, h352, H⟩ := Gets.call H
  refine Dv.call rfl trivial cal51 rfl (edu_Of.c h352) ?_
  refine Dv.ldbs rfl trivial rfl Tryz.underlying30 rfl c30 (mem_at 0 rfl) (Nat.le_of_ble_eq_true rfl) ?_
  obtain ⟨t353, h354, H⟩ := Gets.call H
  refine Dv.call rfl trivial cal51 rfl (edu_Of.c h354) ?_
  refine Dv.eqs [.int .i64 t351.fKind, .string t351.fRoom, .string t351.fUser, .string t351.fThread, .bool t351.fPrivate] [.int .i64 t353.fKind, .string t353.fRoom, .string t353.fUser, .string t353.fThread, .bool t353.fPrivate] rfl trivial rfl rfl rfl rfl eg87 (fun _ => equal_of 2 (by decide) (fun _ => eqt87 t351 t353)) ?_
  refine mv0 rfl rfl ?_
  cases c355 : decide (t351 = t353)
  · replace H := Gets.cf H c355
    refine sk rfl rfl rfl rfl rfl ?_
    refine sk rfl rfl rfl rfl rfl ?_
    refine sk rfl rfl rfl rfl rfl ?_
    refine sk rfl rfl rfl rfl rfl ?_
    refine Dv.pickF rfl trivial rfl rfl ?_
    refine as0 rfl rfl ?_
    refine .fin ?_
    obtain rfl := Gets.out H
    exact WP.retL (fun _ _ h => h) rfl () trivial (.cons (res_tmp rfl) .nil) rfl (st_seln 2 [0, 1] 2 rfl rfl rfl)
  · replace H := Gets.ct H c355
    refine Dv.ldbs rfl ⟨_, _, rfl, rfl, rfl⟩ rfl Tryz.underlying30 rfl c30 (mem_at 1 rfl) (Nat.le_of_ble_eq_true rfl) ?_
    refine Dv.ldbs rfl ⟨_, _, rfl, rfl, rfl⟩ rfl Tryz.underlying30 rfl c30 (mem_at 0 rfl) (Nat.le_of_ble_eq_true rfl) ?_
    obtain ⟨t356, h357, H⟩ := Gets.call H
    refine Dv.call rfl ⟨_, _, rfl, rfl, rfl⟩ cal52 rfl (edu_Compare.c h357) ?_
    refine Dv.bin rfl ⟨_, _, rfl, rfl, rfl⟩ rfl rfl (fun _ => run_gt) ?_
    refine Dv.pickT rfl trivial rfl rfl ?_
    refine as0 rfl rfl ?_
    refine .fin ?_
    obtain rfl := Gets.out H
    exact WP.retL (fun _ _ h => h) rfl () trivial (.cons (res_tmp rfl) .nil) rfl (st_seln 2 [0, 1] 2 rfl rfl rfl)
theorem slices_Insert_Edu.c {a0 : List Edu} {a1 : Int} {a2 : List Edu} {p0_ : OV} {r : List Edu} (h : slices_Insert_Edu.f a0 a1 a2 = some r) : Tr Tryz.prog 29 [eq p0_.1, eq (.int .i64 a1), sl Edu.K a2] [own Edu.K p0_.1 a0] (γ := OV) (fun _ => True) (fun g => eq g.1) (fun g => [own Edu.K g.1 r]) := by
  unfold slices_Insert_Edu.f at h
  obtain ⟨⟨h0, h1, h2, h3, h4⟩, h5⟩ := (Gets.of h).grd
  obtain rfl := Gets.out h5
  clear h h5
  obtain ⟨i, rfl⟩ := Int.eq_ofNat_of_zero_le h0
  have hi : i ≤ a0.length := by omega
  obtain ⟨v, hv⟩ := p0_
  obtain ⟨ti, i1, i2, i3, i4⟩ := inf30
  refine Tr.body Tryz.func29 (c := _) rfl Tryz.ntmps29 (Nat.le_of_ble_eq_true rfl) fun R0 F => ?_
  refine WP.seq ?_
  refine WP.reg [(0, false)] (by kernel_rfl) ?_
  refine as0 rfl rfl ?_
  refine .fin ?_
  refine WP.seq ?_
  refine WP.reg [(0, false), (1, false), (2, false)] (by kernel_rfl) ?_
  refine mv0 rfl rfl ?_
  refine mv0 rfl rfl ?_
  refine Dv.sloa (Kd := Edu.K) (xs := a0) (v := v) rfl trivial rfl (mem_at 0 rfl) Tryz.underlying22 Tryz.underlying30 c30 (bdE_nat (m := i) rfl) hi ?_
  refine .fin ?_
  refine WP.seq ?_
  refine WP.reg [(0, false), (1, false), (2, false)] (by kernel_rfl) ?_
  refine mv0 rfl rfl ?_
  refine Dv.lenl rfl trivial rfl Tryz.underlying22 ?_
  refine as0 rfl rfl ?_
  refine .fin ?_
  refine WP.seq ?_
  refine WP.seq ?_
  refine WP.reg [(0, false), (1, false)] (by kernel_rfl) ?_
  refine mv0 rfl rfl ?_
  refine Dv.bin rfl trivial rfl rfl (fun _ => run_eq) ?_
  refine .fin ?_
  refine WP.cond rfl (fun c0 => ?_) (fun c0 => ?_)
  · exfalso; have := beq_iff_eq.1 c0; omega
  refine WP.skip ?_
  refine WP.seq ?_
  refine WP.reg [(0, false), (1, false), (2, false)] (by kernel_rfl) ?_
  refine mv0 rfl rfl ?_
  refine Dv.lenw (Kd := Edu.K) (xs := a0) (v := v) rfl trivial rfl (mem_at 0 rfl) Tryz.underlying22 ?_
  refine as0 rfl rfl ?_
  refine .fin ?_
  refine WP.seq ?_
  refine WP.seq ?_
  refine WP.reg [(0, false), (1, false), (2, false)] (by kernel_rfl) ?_
  refine mv0 rfl rfl ?_
  refine mv0 rfl rfl ?_
  refine Dv.bin rfl trivial rfl rfl (fun _ => run_eq) ?_
  refine .fin ?_
  refine WP.cond rfl (fun c1 => ?_) (fun c1 => ?_)
  · have e1 : i = a0.length := by have := beq_iff_eq.1 c1; omega
    subst e1
    refine WP.seq ?_
    refine WP.reg [(0, false), (1, false), (2, true), (3, false)] (by kernel_rfl) ?_
    refine mv0 rfl rfl ?_
    refine mv0 rfl rfl ?_
    refine Dv.appx (Kd := Edu.K) (xs := a0) (v := v) (jj := 0) (ys := a2) (fun v1 : OV => [own Edu.K v1.1 (a0 ++ a2)] ++ F) rfl trivial rfl rfl rfl src_sl Tryz.underlying22 (.inr ⟨_, Tryz.underlying22⟩) inf30 rfl (by decide) (by omega) rfl nofun (fun v1 => ?_)
    refine as0 rfl rfl ?_
    refine .fin ?_
    have e2 : a0.take (a0.length : Int).toNat ++ a2 ++ a0.drop (a0.length : Int).toNat = a0 ++ a2 := by simp
    rw [e2]
    exact WP.retL (fun _ _ h => h) rfl v1 trivial (.cons (res_tmp rfl) .nil) rfl (st_seln 1 [0] 0 rfl rfl rfl)
  refine WP.skip ?_
  have hlt : i < a0.length := by have : ¬ ((i : Int) = (a0.length : Int)) := by simpa using c1
                                 omega
  have hne : a0 ≠ [] := by intro e; subst e; simp at hlt
  rw [Int.toNat_natCast]
  refine WP.gh (gh_of (st_own_blk 0 rfl hne)) (fun g hg => ?_)
  rcases g with ⟨b, off, c, bT, A, C⟩
  change v = .slice (some ⟨b, off, none⟩) a0.length c ∧ a0.length ≤ c ∧ A.length = off ∧ off + c * Edu.K.sz ≤ (A ++ a0.flatMap Edu.K.enc ++ C).length at hg
  obtain ⟨rfl, hc, hA, hlen⟩ := hg
  change WP _ _ _ _ _ _ (blk b bT (A ++ a0.flatMap Edu.K.enc ++ C) :: F)
  have hsz : 0 < Edu.K.sz := by decide
  have ml : ∀ {p q : Nat}, p ≤ q → p * Edu.K.sz ≤ q * Edu.K.sz := fun h => Nat.mul_le_mul_right _ h
  have fl : (A ++ a0.flatMap Edu.K.enc ++ C).length = off + a0.length * Edu.K.sz + C.length := by rw [List.length_append, List.length_append, flatMap_len, hA]
  have fd : ((a0.drop i).flatMap Edu.K.enc).length = (a0.length - i) * Edu.K.sz := by rw [flatMap_len, List.length_drop]
  have fy : (a2.flatMap Edu.K.enc).length = a2.length * Edu.K.sz := flatMap_len _
  have s1 : i * Edu.K.sz + a2.length * Edu.K.sz + (a0.length - i) * Edu.K.sz = (a0.length + a2.length) * Edu.K.sz := by rw [← Nat.add_mul, ← Nat.add_mul]; congr 1; omega
  have s2 : (i + a2.length) * Edu.K.sz = i * Edu.K.sz + a2.length * Edu.K.sz := Nat.add_mul ..
  have zl : (a0.take i ++ a2 ++ a0.drop i).length = a0.length + a2.length := by simp only [List.length_append, List.length_take, List.length_drop]; omega
  refine WP.seq ?_
  refine WP.seq ?_
  refine WP.reg [(0, false), (1, false), (2, false), (3, false), (4, false), (5, false)] (by kernel_rfl) ?_
  refine mv0 rfl rfl ?_
  refine mv0 rfl rfl ?_
  refine Dv.bin rfl trivial rfl rfl (fun _ => run_addn (a := a0.length) (b := a2.length) (by omega)) ?_
  refine mv0 rfl rfl ?_
  refine Dv.capk rfl trivial rfl Tryz.underlying22 ?_
  refine Dv.bin rfl trivial rfl rfl (fun _ => run_gt) ?_
  refine .fin ?_
  refine WP.cond rfl (fun c2 => ?_) (fun c2 => ?_)
  · have hg : c < a0.length + a2.length := by have := of_decide_eq_true c2; omega
    refine WP.seq ?_
    refine WP.reg [(0, false), (1, false), (2, false), (3, false), (4, false), (5, false), (6, false), (7, false), (8, true), (9, false)] (by kernel_rfl) ?_
    refine mv0 rfl rfl ?_
    refine mv0 rfl rfl ?_
    refine Dv.slkm (o' := off) (m' := i) (c' := c) rfl trivial rfl Tryz.underlying22 Tryz.underlying30 c30 bdE_none (bdE_nat (m := i) rfl) (Nat.zero_le _) (by omega) (.inr rfl) (by simp) (by simp) (by simp) ?_
    refine mv0 rfl rfl ?_
    refine mv0 rfl rfl ?_
    refine Dv.bin rfl trivial rfl rfl (fun _ => run_addn (a := a0.length) (b := a2.length) (by omega)) ?_
    refine mv0 rfl rfl ?_
    refine Dv.bin rfl trivial rfl rfl (fun _ => run_subn (a := a0.length + a2.length) (b := i) (by omega) (by omega)) ?_
    refine Dv.apmn (sz := Edu.K.sz) (jj := 0) (k1 := a0.length + a2.length - i) (N := a0.length + a2.length) (Q := (a0.take i).flatMap Edu.K.enc) rfl trivial rfl rfl Tryz.underlying22 Tryz.underlying3 i1 i2 i3 i4 rfl (by decide) (by omega) (by omega) hg (by omega) h4 rfl ?_ (ins_pre (Kd := Edu.K) hi hA) nofun (fun w hw => ?_)
    · rw [fl]; have := ml (Nat.le_of_lt hlt); omega
    rcases w with ⟨b2, nc⟩
    replace hw : a0.length + a2.length ≤ nc := hw
    refine as0 rfl rfl ?_
    refine .fin ?_
    generalize hZ : (Builtin.zeroCells (Value.cells _) ((b2, nc).2 - i)).toList.map eq = Z
    have zz : Z.length = (nc - i) * Edu.K.sz := by rw [← hZ, List.length_map, Array.length_toList, Builtin.zeroCells, Array.size_map, Array.size_range]; rfl
    have ft : ((a0.take i).flatMap Edu.K.enc ++ Z).length = nc * Edu.K.sz := by rw [List.length_append, flatMap_len, List.length_take, Nat.min_eq_left hi, zz, ← Nat.add_mul]; congr 1; omega
    have s3 := ml hw
    have s4 : i * Edu.K.sz + (a0.length - i) * Edu.K.sz = a0.length * Edu.K.sz := by rw [← Nat.add_mul]; congr 1; omega
    refine WP.seq ?_
    refine WP.reg [(0, false), (1, false), (2, false), (3, false), (4, true)] (by kernel_rfl) ?_
    refine mv0 rfl rfl ?_
    refine mv0 rfl rfl ?_
    refine Dv.slkm (o' := i * Edu.K.sz) (m' := a0.length + a2.length - i) (c' := nc - i) rfl trivial rfl Tryz.underlying22 Tryz.underlying30 c30 (bdE_nat (m := i) rfl) bdE_none (by omega) hw (.inl (Nat.lt_of_lt_of_le (by omega) hw)) (Nat.zero_add _) rfl rfl ?_
    refine mv0 rfl rfl ?_
    refine Dv.cpkn (jj := 0) (kk := a2.length) rfl trivial rfl rfl Tryz.underlying22 Tryz.underlying30 c30 srcN_all (by omega) rfl ?_ nofun ?_
    · rw [ft, fy]; omega
    refine .fin ?_
    have l1 : (spl ((a0.take i).flatMap Edu.K.enc ++ Z) (i * Edu.K.sz) (a2.flatMap Edu.K.enc)).length = nc * Edu.K.sz := by rw [spl_len (by rw [ft, fy]; omega), ft]
    refine WP.seq ?_
    refine WP.dreg Tryz.checked.mixed [(0, false), (1, false), (2, false), (3, false), (4, false), (5, false), (6, false), (7, false), (8, true)] (by kernel_rfl) ?_
    refine mv0 rfl rfl ?_
    refine mv0 rfl rfl ?_
    refine mv0 rfl rfl ?_
    refine Dv.bin rfl trivial rfl rfl (fun _ => run_addn (a := i) (b := a2.length) (by omega)) ?_
    refine Dv.slkm (o' := (i + a2.length) * Edu.K.sz) (m' := a0.length - i) (c' := nc - (i + a2.length)) rfl trivial rfl Tryz.underlying22 Tryz.underlying30 c30 (bdE_nat (m := i + a2.length) rfl) bdE_none (by omega) hw (.inl (Nat.lt_of_lt_of_le (by omega) hw)) (Nat.zero_add _) (by omega) rfl ?_
    refine mv0 rfl rfl ?_
    refine mv0 rfl rfl ?_
    refine Dv.slkm (o' := off + i * Edu.K.sz) (m' := a0.length - i) (c' := c - i) rfl trivial rfl Tryz.underlying22 Tryz.underlying30 c30 (bdE_nat (m := i) rfl) bdE_none hi hc (.inl (by omega)) rfl rfl rfl ?_
    refine Dv.cpkn (jj := 0) (kk := a0.length - i) rfl trivial rfl rfl Tryz.underlying22 Tryz.underlying30 c30 (srcN_own (mem_at 1 rfl) hi hA) (Nat.min_self _) rfl ?_ (fun _ => pend_bits (by kernel_rfl)) ?_
    · rw [l1, fd]; omega
    refine .fin ?_
    have l2 : (spl (spl ((a0.take i).flatMap Edu.K.enc ++ Z) (i * Edu.K.sz) (a2.flatMap Edu.K.enc)) ((i + a2.length) * Edu.K.sz) ((a0.drop i).flatMap Edu.K.enc)).length = nc * Edu.K.sz := by rw [spl_len (by rw [l1, fd]; omega), l1]
    refine WP.seq ?_
    refine WP.reg [(0, false), (1, false)] (by kernel_rfl) ?_
    refine mv0 rfl rfl ?_
    refine as0 rfl rfl ?_
    refine .fin ?_
    refine WP.gh (gh_of (st_blk_own (Kd := Edu.K) (off := 0) (n := a0.length + a2.length) (c := nc) (zs := a0.take i ++ a2 ++ a0.drop i) 0 rfl zl hw (by rw [l2]; omega) (ins_new hi))) (fun _ _ => ?_)
    exact WP.retL (fun _ _ h => h) rfl (⟨.slice (some ⟨b2, 0, none⟩) (a0.length + a2.length) nc, rfl⟩ : OV) trivial (.cons (res_tmp rfl) .nil) rfl (st_seln 2 [1, 0] 1 rfl rfl rfl)
  have hg : a0.length + a2.length ≤ c := by have := of_decide_eq_false c2; omega
  refine WP.skip ?_
  have s3 := ml hg
  refine WP.seq ?_
  refine WP.reg [(0, false), (1, false), (2, false), (3, false), (4, false), (5, false)] (by kernel_rfl) ?_
  refine mv0 rfl rfl ?_
  refine mv0 rfl rfl ?_
  refine mv0 rfl rfl ?_
  refine Dv.bin rfl trivial rfl rfl (fun _ => run_addn (a := a0.length) (b := a2.length) (by omega)) ?_
  refine Dv.slkm (o' := off) (m' := a0.length + a2.length) (c' := c) rfl trivial rfl Tryz.underlying22 Tryz.underlying30 c30 bdE_none (bdE_nat (m := a0.length + a2.length) rfl) (Nat.zero_le _) hg (.inr rfl) (by simp) (by simp) (by simp) ?_
  refine as0 rfl rfl ?_
  refine .fin ?_
  refine WP.seq ?_
  refine WP.seq ?_
  refine WP.reg [(0, false), (1, false), (2, false), (3, false), (4, false), (5, false), (6, false), (7, false)] (by kernel_rfl) ?_
  refine mv0 rfl rfl ?_
  refine mv0 rfl rfl ?_
  refine mv0 rfl rfl ?_
  refine mv0 rfl rfl ?_
  refine Dv.bin rfl trivial rfl rfl (fun _ => run_addn (a := i) (b := a2.length) (by omega)) ?_
  refine Dv.slkm (o' := off + (i + a2.length) * Edu.K.sz) (m' := a0.length - i) (c' := c - (i + a2.length)) rfl trivial rfl Tryz.underlying22 Tryz.underlying30 c30 (bdE_nat (m := i + a2.length) rfl) bdE_none (by omega) hg (.inl (Nat.lt_of_lt_of_le (by omega) hg)) rfl (by omega) rfl ?_
  refine Dv.ovl rfl trivial rfl rfl (mem_at 0 rfl) h2 hsz Tryz.func53 (by kernel_rfl) rfl xf53 xg53 rfl Tryz.underlying22 Tryz.underlying30 ?_
  refine Dv.un rfl trivial rfl (fun _ => run_not _) ?_
  refine .fin ?_
  refine WP.cond rfl (fun c3 => ?_) (fun c3 => by cases c3)
  refine WP.seq ?_
  refine WP.dreg Tryz.checked.mixed [(0, false), (1, false), (2, false), (3, false), (4, false), (5, false), (6, false), (7, false), (8, true)] (by kernel_rfl) ?_
  refine mv0 rfl rfl ?_
  refine mv0 rfl rfl ?_
  refine mv0 rfl rfl ?_
  refine Dv.bin rfl trivial rfl rfl (fun _ => run_addn (a := i) (b := a2.length) (by omega)) ?_
  refine Dv.slkm (o' := off + (i + a2.length) * Edu.K.sz) (m' := a0.length - i) (c' := c - (i + a2.length)) rfl trivial rfl Tryz.underlying22 Tryz.underlying30 c30 (bdE_nat (m := i + a2.length) rfl) bdE_none (by omega) hg (.inl (Nat.lt_of_lt_of_le (by omega) hg)) rfl (by omega) rfl ?_
  refine mv0 rfl rfl ?_
  refine mv0 rfl rfl ?_
  refine Dv.slkm (o' := off + i * Edu.K.sz) (m' := a0.length + a2.length - i) (c' := c - i) rfl trivial rfl Tryz.underlying22 Tryz.underlying30 c30 (bdE_nat (m := i) rfl) bdE_none (by omega) hg (.inl (by omega)) rfl rfl rfl ?_
  refine Dv.cpkn (jj := 0) (kk := a0.length - i) rfl trivial rfl rfl Tryz.underlying22 Tryz.underlying30 c30 (srcN_own (mem_at 0 rfl) hi hA) (by omega) rfl ?_ (fun _ => pend_bits (by kernel_rfl)) ?_
  · rw [fd]; omega
  refine .fin ?_
  have l1 : (spl (A ++ a0.flatMap Edu.K.enc ++ C) (off + (i + a2.length) * Edu.K.sz) ((a0.drop i).flatMap Edu.K.enc)).length = (A ++ a0.flatMap Edu.K.enc ++ C).length := spl_len (by rw [fd]; omega)
  refine WP.seq ?_
  refine WP.reg [(0, false), (1, false), (2, false), (3, false), (4, true)] (by kernel_rfl) ?_
  refine mv0 rfl rfl ?_
  refine mv0 rfl rfl ?_
  refine Dv.slkm (o' := off + i * Edu.K.sz) (m' := a0.length + a2.length - i) (c' := c - i) rfl trivial rfl Tryz.underlying22 Tryz.underlying30 c30 (bdE_nat (m := i) rfl) bdE_none (by omega) hg (.inl (by omega)) rfl rfl rfl ?_
  refine mv0 rfl rfl ?_
  refine Dv.cpkn (jj := 0) (kk := a2.length) rfl trivial rfl rfl Tryz.underlying22 Tryz.underlying30 c30 srcN_all (by omega) rfl ?_ nofun ?_
  · rw [l1, fy]; omega
  refine .fin ?_
  refine WP.seq ?_
  refine WP.reg [(0, false), (1, false)] (by kernel_rfl) ?_
  refine mv0 rfl rfl ?_
  refine as0 rfl rfl ?_
  refine .fin ?_
  refine WP.gh (gh_of (st_blk_own (Kd := Edu.K) (off := off) (n := a0.length + a2.length) (c := c) (zs := a0.take i ++ a2 ++ a0.drop i) 0 rfl zl hg (by rw [spl_len (by rw [l1, fy]; omega), l1]; exact hlen) (ins_old hi hA (by omega)))) (fun _ _ => ?_)
  exact WP.retL (fun _ _ h => h) rfl (⟨.slice (some ⟨b, off, none⟩) (a0.length + a2.length) c, rfl⟩ : OV) trivial (.cons (res_tmp rfl) .nil) rfl (st_seln 1 [0] 0 rfl rfl rfl)
theorem heap_Heap_set.c {a0 : HHeap} {a1 : Int} {a2 : HEnt} {p0_ : OV} {r : HHeap} (h : heap_Heap_set.f a0 a1 a2 = some r) : Tr Tryz.prog 55 [eq p0_.1, eq (.int .i64 a1), agg (HEnt.enc a2)] [HHeap.O p0_ a0] (γ := Unit) (fun _ => True) (fun g => tup []) (fun g => [HHeap.O p0_ r]) := by
  unfold heap_Heap_set.f at h
  refine Tr.body Tryz.func55 (c := _) rfl Tryz.ntmps55 (Nat.le_of_ble_eq_true rfl) fun R0 F => ?_
  replace h := Gets.of h
  have H := h
  clear h
  refine WP.seq ?_
  refine WP.reg [(0, true)] (by kernel_rfl) ?_
  refine Dv.box rfl trivial rfl (cells_agg (HEnt.K.one _)) nofun (fun b363 => ?_)
  refine .fin ?_
  refine WP.seq ?_
  refine WP.gh (l' := fun (g364 : Nat × OV × OV) => [blk g364.1 80 [eq g364.2.1.1, eq g364.2.2.1], own HEnt.K g364.2.1.1 a0.fl, mp Value.string (fun x : Int => eq (.int .i64 x)) g364.2.2.1 a0.fat, blk b363 72 [eq (.int .i64 a2.fAt), eq (.string a2.fKey)]] ++ F) (gh_of (HHeap.opn 1 rfl)) (fun g364 h365 => ?_)
  refine WP.dreg Tryz.checked.mixed [(0, false), (1, false), (2, false), (3, false), (4, false), (5, false), (6, false), (7, true)] (by kernel_rfl) ?_
  refine mv0 rfl rfl ?_
  refine Dv.nilpp h365 rfl trivial rfl ?_
  refine Dv.fabp h365 rfl trivial rfl Tryz.underlying80 rfl Tryz.underlying78 c78 (by decide) ?_
  refine Dv.ldb rfl trivial rfl Tryz.underlying78 rfl (mem_at 0 rfl) rfl ?_
  refine mv0 rfl rfl ?_
  refine Dv.ldbs rfl trivial rfl Tryz.underlying72 rfl c72 (mem_at 3 rfl) (Nat.le_of_ble_eq_true rfl) ?_
  obtain ⟨g366, H⟩ := Gets.grd H
  have h367 : a1.toNat < a0.fl.length := idx_lt g366
  refine Dv.ixw rfl trivial rfl (mem_at 1 rfl) rfl Tryz.underlying78 Tryz.underlying72 c72 g366.1 g366.2 ?_
  refine Dv.stw (j := a1.toNat) (f := 0) (jj := 1) a2 rfl trivial rfl rfl (cells_agg (HEnt.K.one _)) Tryz.underlying72 c72 rfl rfl h367 (Nat.le_of_ble_eq_true rfl) rfl (fun _ => pend_bits (by kernel_rfl)) ?_
  refine .fin ?_
  refine WP.dreg Tryz.checked.mixed [(0, false), (1, false), (2, false), (3, false), (4, false), (5, false), (6, false), (7, true)] (by kernel_rfl) ?_
  refine mv0 rfl rfl ?_
  refine Dv.nilpp h365 rfl trivial rfl ?_
  refine Dv.fabp h365 rfl trivial rfl Tryz.underlying80 rfl Tryz.underlying77 c77 (by decide) ?_
  refine Dv.ldb rfl trivial rfl Tryz.underlying77 rfl (mem_at 0 rfl) rfl ?_
  refine Dv.fab rfl trivial rfl Tryz.underlying72 rfl Tryz.underlying9 c9 (by decide) ?_
  refine Dv.ldb rfl trivial rfl Tryz.underlying9 rfl (mem_at 3 rfl) rfl ?_
  refine mv0 rfl rfl ?_
  refine Dv.mup (jj := 2) a1 rfl trivial rfl rfl rfl rfl Tryz.underlying77 (keyOk_str Tryz.underlying9) (fun _ => pend_bits (by kernel_rfl)) ?_
  refine .fin ?_
  refine Dn.gh (l' := fun _ : Unit => [HHeap.O p0_ (⟨a0.fl.set a1.toNat a2, mput a0.fat a2.fKey a1⟩ : HHeap), blk b363 72 [eq (.int .i64 a2.fAt), eq (.string a2.fKey)]] ++ F) (gh_of (HHeap.shut (p := p0_) (m := (⟨a0.fl.set a1.toNat a2, mput a0.fat a2.fKey a1⟩ : HHeap)) (r := [blk b363 72 [eq (.int .i64 a2.fAt), eq (.string a2.fKey)]] ++ F) (g364.1, g364.2.1, g364.2.2) h365 (perm_ton 4 [0, 1, 2, 3] rfl rfl rfl))) (fun _ _ => ?_)
  obtain rfl := Gets.out H
  exact res_end rfl () trivial .nil rfl (st_seln 2 [1, 0] 1 rfl rfl rfl)
theorem heap_ahead.c {k : Nat} {a0 : HEnt} {a1 : HEnt} {r : Int} (h : heap_ahead.f k a0 a1 = some r) : Pt Tryz.prog 78 [agg (HEnt.enc a0), agg (HEnt.enc a1)] (eq (.int .i64 r)) := by
  unfold heap_ahead.f at h
  refine (Tr.body Tryz.func78 (c := _) rfl Tryz.ntmps78 (Nat.le_of_ble_eq_true rfl) fun R0 F => ?_).pt
  replace h := Gets.of h
  have H := h
  clear h
  refine WP.seq ?_
  refine WP.reg [(0, true), (1, true), (2, false)] (by kernel_rfl) ?_
  refine Dv.box rfl trivial rfl (cells_agg (HEnt.K.one _)) nofun (fun b368 => ?_)
  refine Dv.box rfl trivial rfl (cells_agg (HEnt.K.one _)) nofun (fun b369 => ?_)
  refine as0 rfl rfl ?_
  refine .fin ?_
  refine WP.seq ?_
  refine WP.dreg Tryz.checked.mixed [(0, false), (1, false), (2, false), (3, false), (4, false), (5, false), (6, false), (7, false), (8, false), (9, false), (10, false), (11, false), (12, false)] (by kernel_rfl) ?_
  refine Dv.fab rfl trivial rfl Tryz.underlying72 rfl Tryz.underlying3 c3 (by decide) ?_
  refine Dv.ldb rfl trivial rfl Tryz.underlying3 rfl (mem_at 1 rfl) rfl ?_
  refine Dv.fab rfl trivial rfl Tryz.underlying72 rfl Tryz.underlying3 c3 (by decide) ?_
  refine Dv.ldb rfl trivial rfl Tryz.underlying3 rfl (mem_at 0 rfl) rfl ?_
  obtain ⟨t370, h371, H⟩ := Gets.call H
  refine Dv.call rfl trivial cal74 rfl (cmp_Compare_int.c h371) ?_
  refine Dv.fab rfl trivial rfl Tryz.underlying72 rfl Tryz.underlying9 c9 (by decide) ?_
  refine Dv.ldb rfl trivial rfl Tryz.underlying9 rfl (mem_at 1 rfl) rfl ?_
  refine Dv.fab rfl trivial rfl Tryz.underlying72 rfl Tryz.underlying9 c9 (by decide) ?_
  refine Dv.ldb rfl trivial rfl Tryz.underlying9 rfl (mem_at 0 rfl) rfl ?_
  obtain ⟨t372, h373, H⟩ := Gets.call H
  refine Dv.call rfl trivial cal50 rfl (cmp_Compare_string.c h373) ?_
  refine Dv.lit (intK .i64) ([t370, t372] : List Int) (css := [[eq (.int .i64 t370)], [eq (.int .i64 t372)]]) rfl trivial Tryz.underlying24 Tryz.underlying3 c3 z3 rfl (by decide) (by decide) rfl ⟨(cells_one (one_eq rfl)), ⟨(cells_one (one_eq rfl)), trivial⟩⟩ rfl rfl rfl ?_
  obtain ⟨t374, h375, H⟩ := Gets.call H
  refine Dv.call rfl trivial cal49 rfl (cmp_Or_int.c h375) ?_
  refine as0 rfl rfl ?_
  refine .fin ?_
  obtain rfl := Gets.out H
  exact WP.retL (fun _ _ h => h) rfl () trivial (.cons (res_tmp rfl) .nil) rfl (st_seln 2 [0, 1] 2 rfl rfl rfl)
theorem heap_Heap_down.c {k : Nat} {a0 : HHeap} {a1 : Int} {p0_ : OV} {r : HHeap} (h : heap_Heap_down.f k a0 a1 = some r) : Tr Tryz.prog 56 [eq p0_.1, eq (.int .i64 a1)] [HHeap.O p0_ a0] (γ := Unit) (fun _ => True) (fun g => tup []) (fun g => [HHeap.O p0_ r]) := by
  unfold heap_Heap_down.f at h
  refine Tr.body Tryz.func56 (c := _) rfl Tryz.ntmps56 (Nat.le_of_ble_eq_true rfl) fun R0 F => ?_
  replace h := Gets.of h
  have H := h
  clear h
  refine WP.seq ?_
  refine WP.reg [(0, false), (1, false), (2, false), (3, false), (4, false), (5, false), (6, false), (7, true), (8, true)] (by kernel_rfl) ?_
  refine mv0 rfl rfl ?_
  refine Dv.nilA HHeap.nn rfl trivial rfl (mem_at 0 rfl) ?_
  refine Dv.gh (l' := fun (g376 : Nat × OV × OV) => [blk g376.1 80 [eq g376.2.1.1, eq g376.2.2.1], own HEnt.K g376.2.1.1 a0.fl, mp Value.string (fun x : Int => eq (.int .i64 x)) g376.2.2.1 a0.fat] ++ F) (gh_of (HHeap.opn 0 rfl)) (fun g376 h377 => ?_)
  refine Dv.fabp h377 rfl trivial rfl Tryz.underlying80 rfl Tryz.underlying78 c78 (by decide) ?_
  refine Dv.ldb rfl trivial rfl Tryz.underlying78 rfl (mem_at 0 rfl) rfl ?_
  refine mv0 rfl rfl ?_
  obtain ⟨g378, H⟩ := Gets.grd H
  have h379 : a1.toNat < a0.fl.length := idx_lt g378
  refine Dv.ixw rfl trivial rfl (mem_at 1 rfl) rfl Tryz.underlying78 Tryz.underlying72 c72 g378.1 g378.2 ?_
  refine Dv.ldws (j := a1.toNat) (f := 0) rfl trivial rfl (mem_at 1 rfl) h379 Tryz.underlying72 rfl c72 (Nat.le_of_ble_eq_true rfl) ?_
  refine Dv.alloc (z := .agg #[.int .i64 0, .string ⟨#[]⟩]) (qs := [eq (.int .i64 0), eq (.string (⟨#[]⟩ : ByteArray))]) rfl trivial z72 rfl nofun (fun b380 => ?_)
  refine Dv.stx ([blk b380 72 [eq (.int .i64 ((a0.fl.getD a1.toNat default).fAt)), eq (.string ((a0.fl.getD a1.toNat default).fKey))], blk g376.1 80 [eq g376.2.1.1, eq g376.2.2.1], own HEnt.K g376.2.1.1 a0.fl, mp Value.string (fun x : Int => eq (.int .i64 x)) g376.2.2.1 a0.fat] ++ F) rfl trivial rfl rfl (cells_agg (HEnt.K.one _)) Tryz.underlying72 c72 rfl (j := 0) rfl (Nat.le_of_ble_eq_true rfl) rfl nofun ?_
  refine .fin ?_
  refine WP.seqn H id (fun p381 : Int × Int × Bool × Bool × HHeap => [(0, eq p0_.1), (1, eq (.int .i64 p381.1)), (4, eq (.pointer (some ⟨b380, 0, none⟩))), (5, eq (.int .i64 p381.2.1)), (42, eq (.bool p381.2.2.1)), (63, eq (.bool p381.2.2.2.1))]) (fun p381 : Int × Int × Bool × Bool × HHeap => [blk b380 72 [eq (.int .i64 ((a0.fl.getD a1.toNat default).fAt)), eq (.string ((a0.fl.getD a1.toNat default).fKey))], HHeap.O p0_ p381.2.2.2.2] ++ F) (fun p381 H => ?_) (fun H => ?_)
  · refine WP.reg [(0, false), (1, false), (2, false), (3, true)] (by kernel_rfl) ?_
    refine mv0 rfl rfl ?_
    refine mv0 rfl rfl ?_
    refine Dv.ldbs rfl trivial rfl Tryz.underlying72 rfl c72 (mem_at 0 rfl) (Nat.le_of_ble_eq_true rfl) ?_
    obtain ⟨t382, h383, H⟩ := Gets.call H
    refine Dv.callx (pre := [HHeap.O p0_ p381.2.2.2.2]) (F := [blk b380 72 [eq (.int .i64 ((a0.fl.getD a1.toNat default).fAt)), eq (.string ((a0.fl.getD a1.toNat default).fKey))]] ++ F) (fun _ : Unit => [HHeap.O p0_ t382, blk b380 72 [eq (.int .i64 ((a0.fl.getD a1.toNat default).fAt)), eq (.string ((a0.fl.getD a1.toNat default).fKey))]] ++ F) rfl trivial cal55 rfl (heap_Heap_set.c h383 (p0_ := p0_)) (perm_ton 2 [1, 0] rfl rfl rfl) rfl nofun (fun _ _ => ?_)
    refine .fin ?_
    obtain rfl := Gets.out H
    exact res_end rfl () trivial .nil rfl (st_seln 2 [1, 0] 1 rfl rfl rfl)
  · refine WP.block ?_
    refine WP.gh (l' := fun _ : Unit => [HHeap.O p0_ a0, blk b380 72 [eq (.int .i64 ((a0.fl.getD a1.toNat default).fAt)), eq (.string ((a0.fl.getD a1.toNat default).fKey))]] ++ F) (gh_of (HHeap.shut (p := p0_) (m := a0) (r := [blk b380 72 [eq (.int .i64 ((a0.fl.getD a1.toNat default).fAt)), eq (.string ((a0.fl.getD a1.toNat default).fKey))]] ++ F) (g376.1, g376.2.1, g376.2.2) h377 (perm_ton 4 [1, 2, 3, 0] rfl rfl rfl))) (fun _ _ => ?_)
    refine WP.gh (l' := fun _ => [blk b380 72 [eq (.int .i64 ((a0.fl.getD a1.toNat default).fAt)), eq (.string ((a0.fl.getD a1.toNat default).fKey))], HHeap.O p0_ a0] ++ F) (gh_of (st_selgn 2 [1, 0] 0 rfl rfl rfl)) (fun _ _ => ?_)
    refine WP.loopg (fun j_ (p412 : Int × HHeap) => heap_Heap_down.l0 k a0 a1 j_ p412.1 p412.2) (a1, a0) H (fun p412 => [(0, eq p0_.1), (1, eq (.int .i64 p412.1)), (4, eq (.pointer (some ⟨b380, 0, none⟩)))]) (fun p412 => [blk b380 72 [eq (.int .i64 ((a0.fl.getD a1.toNat default).fAt)), eq (.string ((a0.fl.getD a1.toNat default).fKey))], HHeap.O p0_ p412.2] ++ F) (weak_cons rfl (weak_cons rfl (weak_cons rfl weak_nil))) (List.Perm.refl _) ?_
    rintro j_ ⟨x384, x385⟩ H
    rcases j_ with _ | j411
    · exact (Gets.no H).elim
    replace H : Gets (heap_Heap_down.l0 k a0 a1 (j411 + 1) x384 x385) _ := H
    rw [heap_Heap_down.l0] at H
    refine WP.block ?_
    refine WP.seq ?_
    refine WP.reg [(0, false), (1, false), (2, false), (3, false)] (by kernel_rfl) ?_
    refine mv0 rfl rfl ?_
    refine Dv.bin rfl trivial rfl rfl (fun _ => run_mul) ?_
    refine Dv.bin rfl trivial rfl rfl (fun _ => run_add) ?_
    refine as0 rfl rfl ?_
    refine .fin ?_
    refine WP.seqn H id (fun p386 : Int × Bool => [(0, eq p0_.1), (1, eq (.int .i64 x384)), (4, eq (.pointer (some ⟨b380, 0, none⟩))), (5, eq (.int .i64 p386.1)), (42, eq (.bool p386.2))]) (fun p386 : Int × Bool => [blk b380 72 [eq (.int .i64 ((a0.fl.getD a1.toNat default).fAt)), eq (.string ((a0.fl.getD a1.toNat default).fKey))], HHeap.O p0_ x385] ++ F) (fun p386 H => ?_) (fun H => ?_)
    · refine WP.seq ?_
      refine WP.seq ?_
      refine WP.gh (l' := fun (g387 : Nat × OV × OV) => [blk g387.1 80 [eq g387.2.1.1, eq g387.2.2.1], own HEnt.K g387.2.1.1 x385.fl, mp Value.string (fun x : Int => eq (.int .i64 x)) g387.2.2.1 x385.fat, blk b380 72 [eq (.int .i64 ((a0.fl.getD a1.toNat default).fAt)), eq (.string ((a0.fl.getD a1.toNat default).fKey))]] ++ F) (gh_of (HHeap.opn 1 rfl)) (fun g387 h388 => ?_)
      refine WP.dreg Tryz.checked.mixed [(0, false), (1, false), (2, false), (3, false), (4, false), (5, false), (6, false), (7, false), (8, false), (9, false), (10, false), (11, false), (12, false), (13, false), (14, false), (15, false), (16, false), (17, false), (18, false)] (by kernel_rfl) ?_
      refine mv0 rfl rfl ?_
      refine mv0 rfl rfl ?_
      refine Dv.nilpp h388 rfl trivial rfl ?_
      refine Dv.fabp h388 rfl trivial rfl Tryz.underlying80 rfl Tryz.underlying78 c78 (by decide) ?_
      refine Dv.ldb rfl trivial rfl Tryz.underlying78 rfl (mem_at 0 rfl) rfl ?_
      refine Dv.lenw rfl trivial rfl (mem_at 1 rfl) Tryz.underlying78 ?_
      refine Dv.bin rfl trivial rfl rfl (fun _ => run_ge) ?_
      refine mv0 rfl rfl ?_
      cases c389 : decide ((x385.fl.length : Int) ≤ p386.1)
      · replace H := Gets.cf H c389
        refine Dv.ldbs rfl ⟨_, _, rfl, rfl, rfl⟩ rfl Tryz.underlying72 rfl c72 (mem_at 3 rfl) (Nat.le_of_ble_eq_true rfl) ?_
        refine Dv.mv rfl ⟨_, _, rfl, rfl, rfl⟩ rfl ?_
        refine Dv.nilpp h388 rfl ⟨_, _, rfl, rfl, rfl⟩ rfl ?_
        refine Dv.fabp h388 rfl ⟨_, _, rfl, rfl, rfl⟩ rfl Tryz.underlying80 rfl Tryz.underlying78 c78 (by decide) ?_
        refine Dv.ldb rfl ⟨_, _, rfl, rfl, rfl⟩ rfl Tryz.underlying78 rfl (mem_at 0 rfl) rfl ?_
        refine Dv.mv rfl ⟨_, _, rfl, rfl, rfl⟩ rfl ?_
        obtain ⟨g391, H⟩ := Gets.grd H
        have h392 : p386.1.toNat < x385.fl.length := idx_lt g391
        refine Dv.ixw rfl ⟨_, _, rfl, rfl, rfl⟩ rfl (mem_at 1 rfl) rfl Tryz.underlying78 Tryz.underlying72 c72 g391.1 g391.2 ?_
        refine Dv.ldws (j := p386.1.toNat) (f := 0) rfl ⟨_, _, rfl, rfl, rfl⟩ rfl (mem_at 1 rfl) h392 Tryz.underlying72 rfl c72 (Nat.le_of_ble_eq_true rfl) ?_
        obtain ⟨t393, h394, H⟩ := Gets.call H
        refine Dv.call rfl ⟨_, _, rfl, rfl, rfl⟩ cal78 rfl (heap_ahead.c h394) ?_
        refine Dv.bin rfl ⟨_, _, rfl, rfl, rfl⟩ rfl rfl (fun _ => run_lt) ?_
        refine Dv.pickF rfl trivial rfl rfl ?_
        refine .fin ?_
        refine WP.cond rfl (fun c395 => ?_) (fun c395 => ?_)
        · replace H := Gets.ct H c395
          refine WP.exit ?_
          replace H := Gets.out H
          refine Dn.gh (l' := fun _ : Unit => [HHeap.O p0_ x385, blk b380 72 [eq (.int .i64 ((a0.fl.getD a1.toNat default).fAt)), eq (.string ((a0.fl.getD a1.toNat default).fKey))]] ++ F) (gh_of (HHeap.shut (p := p0_) (m := x385) (r := [blk b380 72 [eq (.int .i64 ((a0.fl.getD a1.toNat default).fAt)), eq (.string ((a0.fl.getD a1.toNat default).fKey))]] ++ F) (g387.1, g387.2.1, g387.2.2) h388 (perm_ton 4 [0, 1, 2, 3] rfl rfl rfl))) (fun _ _ => ?_)
          refine Dn.gh (l' := fun _ : Unit => [blk b380 72 [eq (.int .i64 ((a0.fl.getD a1.toNat default).fAt)), eq (.string ((a0.fl.getD a1.toNat default).fKey))], HHeap.O p0_ x385] ++ F) (gh_of (st_selgn 2 [1, 0] 0 rfl rfl rfl)) (fun _ _ => ?_)
          exact Jn.mk (x384, p386.1, p386.2, decide (t393 < 0), x385) H (weak_cons rfl (weak_cons rfl (weak_cons rfl (weak_cons rfl (weak_cons rfl (weak_cons rfl weak_nil)))))) (List.Perm.refl _)
        · replace H := Gets.cf H c395
          refine WP.skip ?_
          refine WP.seq ?_
          refine WP.reg [(0, false), (1, false), (2, false), (3, false), (4, false), (5, false), (6, false), (7, false), (8, false), (9, true)] (by kernel_rfl) ?_
          refine mv0 rfl rfl ?_
          refine mv0 rfl rfl ?_
          refine mv0 rfl rfl ?_
          refine Dv.nilpp h388 rfl trivial rfl ?_
          refine Dv.fabp h388 rfl trivial rfl Tryz.underlying80 rfl Tryz.underlying78 c78 (by decide) ?_
          refine Dv.ldb rfl trivial rfl Tryz.underlying78 rfl (mem_at 0 rfl) rfl ?_
          refine mv0 rfl rfl ?_
          obtain ⟨g396, H⟩ := Gets.grd H
          have h397 : p386.1.toNat < x385.fl.length := idx_lt g396
          refine Dv.ixw rfl trivial rfl (mem_at 1 rfl) rfl Tryz.underlying78 Tryz.underlying72 c72 g396.1 g396.2 ?_
          refine Dv.ldws (j := p386.1.toNat) (f := 0) rfl trivial rfl (mem_at 1 rfl) h397 Tryz.underlying72 rfl c72 (Nat.le_of_ble_eq_true rfl) ?_
          refine Dv.gh (l' := fun _ : Unit => [HHeap.O p0_ x385, blk b380 72 [eq (.int .i64 ((a0.fl.getD a1.toNat default).fAt)), eq (.string ((a0.fl.getD a1.toNat default).fKey))]] ++ F) (gh_of (HHeap.shut (p := p0_) (m := x385) (r := [blk b380 72 [eq (.int .i64 ((a0.fl.getD a1.toNat default).fAt)), eq (.string ((a0.fl.getD a1.toNat default).fKey))]] ++ F) (g387.1, g387.2.1, g387.2.2) h388 (perm_ton 4 [0, 1, 2, 3] rfl rfl rfl))) (fun _ _ => ?_)
          obtain ⟨t398, h399, H⟩ := Gets.call H
          refine Dv.callx (pre := [HHeap.O p0_ x385]) (F := [blk b380 72 [eq (.int .i64 ((a0.fl.getD a1.toNat default).fAt)), eq (.string ((a0.fl.getD a1.toNat default).fKey))]] ++ F) (fun _ : Unit => [HHeap.O p0_ t398, blk b380 72 [eq (.int .i64 ((a0.fl.getD a1.toNat default).fAt)), eq (.string ((a0.fl.getD a1.toNat default).fKey))]] ++ F) rfl trivial cal55 rfl (heap_Heap_set.c h399 (p0_ := p0_)) (perm_ton 2 [0, 1] rfl rfl rfl) rfl nofun (fun _ _ => ?_)
          refine .fin ?_
          refine WP.reg [(0, false), (1, false)] (by kernel_rfl) ?_
          refine mv0 rfl rfl ?_
          refine as0 rfl rfl ?_
          refine .fin ?_
          refine Dn.gh (l' := fun _ : Unit => [blk b380 72 [eq (.int .i64 ((a0.fl.getD a1.toNat default).fAt)), eq (.string ((a0.fl.getD a1.toNat default).fKey))], HHeap.O p0_ t398] ++ F) (gh_of (st_selgn 2 [1, 0] 0 rfl rfl rfl)) (fun _ _ => ?_)
          exact Back.mk j411 (p386.1, t398) (Nat.lt_succ_self _) H (weak_cons rfl (weak_cons rfl (weak_cons rfl weak_nil))) (List.Perm.refl _)
      · replace H := Gets.ct H c389
        refine sk rfl rfl rfl rfl rfl ?_
        refine sk rfl rfl rfl rfl rfl ?_
        refine sk rfl rfl rfl rfl rfl ?_
        refine sk rfl rfl rfl rfl rfl ?_
        refine sk rfl rfl rfl rfl rfl ?_
        refine sk rfl rfl rfl rfl rfl ?_
        refine sk rfl rfl rfl rfl rfl ?_
        refine sk rfl rfl rfl rfl rfl ?_
        refine sk rfl rfl rfl rfl rfl ?_
        refine sk rfl rfl rfl rfl rfl ?_
        refine Dv.pickT rfl trivial rfl rfl ?_
        refine .fin ?_
        refine WP.cond rfl (fun _ => ?_) nofun
        refine WP.exit ?_
        replace H := Gets.out H
        refine Dn.gh (l' := fun _ : Unit => [HHeap.O p0_ x385, blk b380 72 [eq (.int .i64 ((a0.fl.getD a1.toNat default).fAt)), eq (.string ((a0.fl.getD a1.toNat default).fKey))]] ++ F) (gh_of (HHeap.shut (p := p0_) (m := x385) (r := [blk b380 72 [eq (.int .i64 ((a0.fl.getD a1.toNat default).fAt)), eq (.string ((a0.fl.getD a1.toNat default).fKey))]] ++ F) (g387.1, g387.2.1, g387.2.2) h388 (perm_ton 4 [0, 1, 2, 3] rfl rfl rfl))) (fun _ _ => ?_)
        refine Dn.gh (l' := fun _ : Unit => [blk b380 72 [eq (.int .i64 ((a0.fl.getD a1.toNat default).fAt)), eq (.string ((a0.fl.getD a1.toNat default).fKey))], HHeap.O p0_ x385] ++ F) (gh_of (st_selgn 2 [1, 0] 0 rfl rfl rfl)) (fun _ _ => ?_)
        exact Jn.mk (x384, p386.1, p386.2, true, x385) H (weak_cons rfl (weak_cons rfl (weak_cons rfl (weak_cons rfl (weak_cons rfl (weak_cons rfl weak_nil)))))) (List.Perm.refl _)
    · refine WP.seq ?_
      refine WP.gh (l' := fun (g400 : Nat × OV × OV) => [blk g400.1 80 [eq g400.2.1.1, eq g400.2.2.1], own HEnt.K g400.2.1.1 x385.fl, mp Value.string (fun x : Int => eq (.int .i64 x)) g400.2.2.1 x385.fat, blk b380 72 [eq (.int .i64 ((a0.fl.getD a1.toNat default).fAt)), eq (.string ((a0.fl.getD a1.toNat default).fKey))]] ++ F) (gh_of (HHeap.opn 1 rfl)) (fun g400 h401 => ?_)
      refine WP.dreg Tryz.checked.mixed [(0, false), (1, false), (2, false), (3, false), (4, false), (5, false), (6, false), (7, false), (8, false), (9, false), (10, false), (11, false), (12, false), (13, false), (14, false), (15, false), (16, false), (17, false), (18, false), (19, false), (20, false), (21, false), (22, false), (23, false), (24, false), (25, false), (26, false)] (by kernel_rfl) ?_
      refine mv0 rfl rfl ?_
      refine Dv.bin rfl trivial rfl rfl (fun _ => run_add) ?_
      refine mv0 rfl rfl ?_
      refine Dv.nilpp h401 rfl trivial rfl ?_
      refine Dv.fabp h401 rfl trivial rfl Tryz.underlying80 rfl Tryz.underlying78 c78 (by decide) ?_
      refine Dv.ldb rfl trivial rfl Tryz.underlying78 rfl (mem_at 0 rfl) rfl ?_
      refine Dv.lenw rfl trivial rfl (mem_at 1 rfl) Tryz.underlying78 ?_
      refine Dv.bin rfl trivial rfl rfl (fun _ => run_lt) ?_
      refine mv0 rfl rfl ?_
      cases c402 : decide ((w64 ((w64 ((w64 (2 * x384)) + 1)) + 1)) < (x385.fl.length : Int))
      · replace H := Gets.cf H c402
        refine sk rfl rfl rfl rfl rfl ?_
        refine sk rfl rfl rfl rfl rfl ?_
        refine sk rfl rfl rfl rfl rfl ?_
        refine sk rfl rfl rfl rfl rfl ?_
        refine sk rfl rfl rfl rfl rfl ?_
        refine sk rfl rfl rfl rfl rfl ?_
        refine sk rfl rfl rfl rfl rfl ?_
        refine sk rfl rfl rfl rfl rfl ?_
        refine sk rfl rfl rfl rfl rfl ?_
        refine sk rfl rfl rfl rfl rfl ?_
        refine sk rfl rfl rfl rfl rfl ?_
        refine sk rfl rfl rfl rfl rfl ?_
        refine sk rfl rfl rfl rfl rfl ?_
        refine sk rfl rfl rfl rfl rfl ?_
        refine sk rfl rfl rfl rfl rfl ?_
        refine sk rfl rfl rfl rfl rfl ?_
        refine sk rfl rfl rfl rfl rfl ?_
        refine Dv.pickF rfl trivial rfl rfl ?_
        refine .fin ?_
        refine WP.cond rfl nofun (fun _ => ?_)
        refine WP.skip ?_
        replace H := Gets.out H
        refine Dn.gh (l' := fun _ : Unit => [HHeap.O p0_ x385, blk b380 72 [eq (.int .i64 ((a0.fl.getD a1.toNat default).fAt)), eq (.string ((a0.fl.getD a1.toNat default).fKey))]] ++ F) (gh_of (HHeap.shut (p := p0_) (m := x385) (r := [blk b380 72 [eq (.int .i64 ((a0.fl.getD a1.toNat default).fAt)), eq (.string ((a0.fl.getD a1.toNat default).fKey))]] ++ F) (g400.1, g400.2.1, g400.2.2) h401 (perm_ton 4 [0, 1, 2, 3] rfl rfl rfl))) (fun _ _ => ?_)
        refine Dn.gh (l' := fun _ : Unit => [blk b380 72 [eq (.int .i64 ((a0.fl.getD a1.toNat default).fAt)), eq (.string ((a0.fl.getD a1.toNat default).fKey))], HHeap.O p0_ x385] ++ F) (gh_of (st_selgn 2 [1, 0] 0 rfl rfl rfl)) (fun _ _ => ?_)
        exact Jn.mk (w64 ((w64 (2 * x384)) + 1), false) H (weak_cons rfl (weak_cons rfl (weak_cons rfl (weak_cons rfl (weak_cons rfl weak_nil))))) (List.Perm.refl _)
      · replace H := Gets.ct H c402
        refine Dv.mv rfl ⟨_, _, rfl, rfl, rfl⟩ rfl ?_
        refine Dv.nilpp h401 rfl ⟨_, _, rfl, rfl, rfl⟩ rfl ?_
        refine Dv.fabp h401 rfl ⟨_, _, rfl, rfl, rfl⟩ rfl Tryz.underlying80 rfl Tryz.underlying78 c78 (by decide) ?_
        refine Dv.ldb rfl ⟨_, _, rfl, rfl, rfl⟩ rfl Tryz.underlying78 rfl (mem_at 0 rfl) rfl ?_
        refine Dv.mv rfl ⟨_, _, rfl, rfl, rfl⟩ rfl ?_
        refine Dv.bin rfl ⟨_, _, rfl, rfl, rfl⟩ rfl rfl (fun _ => run_add) ?_
        obtain ⟨g403, H⟩ := Gets.grd H
        have h404 : (w64 ((w64 ((w64 (2 * x384)) + 1)) + 1)).toNat < x385.fl.length := idx_lt g403
        refine Dv.ixw rfl ⟨_, _, rfl, rfl, rfl⟩ rfl (mem_at 1 rfl) rfl Tryz.underlying78 Tryz.underlying72 c72 g403.1 g403.2 ?_
        refine Dv.ldws (j := ((w64 ((w64 ((w64 (2 * x384)) + 1)) + 1)).toNat)) (f := 0) rfl ⟨_, _, rfl, rfl, rfl⟩ rfl (mem_at 1 rfl) h404 Tryz.underlying72 rfl c72 (Nat.le_of_ble_eq_true rfl) ?_
        refine Dv.mv rfl ⟨_, _, rfl, rfl, rfl⟩ rfl ?_
        refine Dv.nilpp h401 rfl ⟨_, _, rfl, rfl, rfl⟩ rfl ?_
        refine Dv.fabp h401 rfl ⟨_, _, rfl, rfl, rfl⟩ rfl Tryz.underlying80 rfl Tryz.underlying78 c78 (by decide) ?_
        refine Dv.ldb rfl ⟨_, _, rfl, rfl, rfl⟩ rfl Tryz.underlying78 rfl (mem_at 0 rfl) rfl ?_
        refine Dv.mv rfl ⟨_, _, rfl, rfl, rfl⟩ rfl ?_
        obtain ⟨g405, H⟩ := Gets.grd H
        have h406 : (w64 ((w64 (2 * x384)) + 1)).toNat < x385.fl.length := idx_lt g405
        refine Dv.ixw rfl ⟨_, _, rfl, rfl, rfl⟩ rfl (mem_at 1 rfl) rfl Tryz.underlying78 Tryz.underlying72 c72 g405.1 g405.2 ?_
        refine Dv.ldws (j := ((w64 ((w64 (2 * x384)) + 1)).toNat)) (f := 0) rfl ⟨_, _, rfl, rfl, rfl⟩ rfl (mem_at 1 rfl) h406 Tryz.underlying72 rfl c72 (Nat.le_of_ble_eq_true rfl) ?_
        obtain ⟨t407, h408, H⟩ := Gets.call H
        refine Dv.call rfl ⟨_, _, rfl, rfl, rfl⟩ cal78 rfl (heap_ahead.c h408) ?_
        refine Dv.bin rfl ⟨_, _, rfl, rfl, rfl⟩ rfl rfl (fun _ => run_lt) ?_
        refine Dv.pickT rfl trivial rfl rfl ?_
        refine .fin ?_
        refine WP.cond rfl (fun c409 => ?_) (fun c409 => ?_)
        · replace H := Gets.ct H c409
          refine WP.reg [(0, false), (1, false), (2, false)] (by kernel_rfl) ?_
          refine mv0 rfl rfl ?_
          refine Dv.bin rfl trivial rfl rfl (fun _ => run_add) ?_
          refine as0 rfl rfl ?_
          refine .fin ?_
          replace H := Gets.out H
          refine Dn.gh (l' := fun _ : Unit => [HHeap.O p0_ x385, blk b380 72 [eq (.int .i64 ((a0.fl.getD a1.toNat default).fAt)), eq (.string ((a0.fl.getD a1.toNat default).fKey))]] ++ F) (gh_of (HHeap.shut (p := p0_) (m := x385) (r := [blk b380 72 [eq (.int .i64 ((a0.fl.getD a1.toNat default).fAt)), eq (.string ((a0.fl.getD a1.toNat default).fKey))]] ++ F) (g400.1, g400.2.1, g400.2.2) h401 (perm_ton 4 [0, 1, 2, 3] rfl rfl rfl))) (fun _ _ => ?_)
          refine Dn.gh (l' := fun _ : Unit => [blk b380 72 [eq (.int .i64 ((a0.fl.getD a1.toNat default).fAt)), eq (.string ((a0.fl.getD a1.toNat default).fKey))], HHeap.O p0_ x385] ++ F) (gh_of (st_selgn 2 [1, 0] 0 rfl rfl rfl)) (fun _ _ => ?_)
          exact Jn.mk (w64 ((w64 ((w64 (2 * x384)) + 1)) + 1), decide (t407 < 0)) H (weak_cons rfl (weak_cons rfl (weak_cons rfl (weak_cons rfl (weak_cons rfl weak_nil))))) (List.Perm.refl _)
        · replace H := Gets.cf H c409
          refine WP.skip ?_
          replace H := Gets.out H
          refine Dn.gh (l' := fun _ : Unit => [HHeap.O p0_ x385, blk b380 72 [eq (.int .i64 ((a0.fl.getD a1.toNat default).fAt)), eq (.string ((a0.fl.getD a1.toNat default).fKey))]] ++ F) (gh_of (HHeap.shut (p := p0_) (m := x385) (r := [blk b380 72 [eq (.int .i64 ((a0.fl.getD a1.toNat default).fAt)), eq (.string ((a0.fl.getD a1.toNat default).fKey))]] ++ F) (g400.1, g400.2.1, g400.2.2) h401 (perm_ton 4 [0, 1, 2, 3] rfl rfl rfl))) (fun _ _ => ?_)
          refine Dn.gh (l' := fun _ : Unit => [blk b380 72 [eq (.int .i64 ((a0.fl.getD a1.toNat default).fAt)), eq (.string ((a0.fl.getD a1.toNat default).fKey))], HHeap.O p0_ x385] ++ F) (gh_of (st_selgn 2 [1, 0] 0 rfl rfl rfl)) (fun _ _ => ?_)
          exact Jn.mk (w64 ((w64 (2 * x384)) + 1), decide (t407 < 0)) H (weak_cons rfl (weak_cons rfl (weak_cons rfl (weak_cons rfl (weak_cons rfl weak_nil))))) (List.Perm.refl _)
theorem heap_Heap_up.c {k : Nat} {a0 : HHeap} {a1 : Int} {p0_ : OV} {r : HHeap} (h : heap_Heap_up.f k a0 a1 = some r) : Tr Tryz.prog 57 [eq p0_.1, eq (.int .i64 a1)] [HHeap.O p0_ a0] (γ := Unit) (fun _ => True) (fun g => tup []) (fun g => [HHeap.O p0_ r]) := by
  unfold heap_Heap_up.f at h
  refine Tr.body Tryz.func57 (c := _) rfl Tryz.ntmps57 (Nat.le_of_ble_eq_true rfl) fun R0 F => ?_
  replace h := Gets.of h
  have H := h
  clear h
  refine WP.seq ?_
  refine WP.reg [(0, false), (1, false), (2, false), (3, false), (4, false), (5, false), (6, false), (7, true), (8, true)] (by kernel_rfl) ?_
  refine mv0 rfl rfl ?_
  refine Dv.nilA HHeap.nn rfl trivial rfl (mem_at 0 rfl) ?_
  refine Dv.gh (l' := fun (g413 : Nat × OV × OV) => [blk g413.1 80 [eq g413.2.1.1, eq g413.2.2.1], own HEnt.K g413.2.1.1 a0.fl, mp Value.string (fun x : Int => eq (.int .i64 x)) g413.2.2.1 a0.fat] ++ F) (gh_of (HHeap.opn 0 rfl)) (fun g413 h414 => ?_)
  refine Dv.fabp h414 rfl trivial rfl Tryz.underlying80 rfl Tryz.underlying78 c78 (by decide) ?_
  refine Dv.ldb rfl trivial rfl Tryz.underlying78 rfl (mem_at 0 rfl) rfl ?_
  refine mv0 rfl rfl ?_
  obtain ⟨g415, H⟩ := Gets.grd H
  have h416 : a1.toNat < a0.fl.length := idx_lt g415
  refine Dv.ixw rfl trivial rfl (mem_at 1 rfl) rfl Tryz.underlying78 Tryz.underlying72 c72 g415.1 g415.2 ?_
  refine Dv.ldws (j := a1.toNat) (f := 0) rfl trivial rfl (mem_at 1 rfl) h416 Tryz.underlying72 rfl c72 (Nat.le_of_ble_eq_true rfl) ?_
  refine Dv.alloc (z := .agg #[.int .i64 0, .string ⟨#[]⟩]) (qs := [eq (.int .i64 0), eq (.string (⟨#[]⟩ : ByteArray))]) rfl trivial z72 rfl nofun (fun b417 => ?_)
  refine Dv.stx ([blk b417 72 [eq (.int .i64 ((a0.fl.getD a1.toNat default).fAt)), eq (.string ((a0.fl.getD a1.toNat default).fKey))], blk g413.1 80 [eq g413.2.1.1, eq g413.2.2.1], own HEnt.K g413.2.1.1 a0.fl, mp Value.string (fun x : Int => eq (.int .i64 x)) g413.2.2.1 a0.fat] ++ F) rfl trivial rfl rfl (cells_agg (HEnt.K.one _)) Tryz.underlying72 c72 rfl (j := 0) rfl (Nat.le_of_ble_eq_true rfl) rfl nofun ?_
  refine .fin ?_
  refine WP.seqn H id (fun p418 : Int × Bool × HHeap => [(0, eq p0_.1), (1, eq (.int .i64 p418.1)), (4, eq (.pointer (some ⟨b417, 0, none⟩))), (27, eq (.bool p418.2.1))]) (fun p418 : Int × Bool × HHeap => [blk b417 72 [eq (.int .i64 ((a0.fl.getD a1.toNat default).fAt)), eq (.string ((a0.fl.getD a1.toNat default).fKey))], HHeap.O p0_ p418.2.2] ++ F) (fun p418 H => ?_) (fun H => ?_)
  · refine WP.reg [(0, false), (1, false), (2, false), (3, true)] (by kernel_rfl) ?_
    refine mv0 rfl rfl ?_
    refine mv0 rfl rfl ?_
    refine Dv.ldbs rfl trivial rfl Tryz.underlying72 rfl c72 (mem_at 0 rfl) (Nat.le_of_ble_eq_true rfl) ?_
    obtain ⟨t419, h420, H⟩ := Gets.call H
    refine Dv.callx (pre := [HHeap.O p0_ p418.2.2]) (F := [blk b417 72 [eq (.int .i64 ((a0.fl.getD a1.toNat default).fAt)), eq (.string ((a0.fl.getD a1.toNat default).fKey))]] ++ F) (fun _ : Unit => [HHeap.O p0_ t419, blk b417 72 [eq (.int .i64 ((a0.fl.getD a1.toNat default).fAt)), eq (.string ((a0.fl.getD a1.toNat default).fKey))]] ++ F) rfl trivial cal55 rfl (heap_Heap_set.c h420 (p0_ := p0_)) (perm_ton 2 [1, 0] rfl rfl rfl) rfl nofun (fun _ _ => ?_)
    refine .fin ?_
    obtain rfl := Gets.out H
    exact res_end rfl () trivial .nil rfl (st_seln 2 [1, 0] 1 rfl rfl rfl)
  · refine WP.block ?_
    refine WP.gh (l' := fun _ : Unit => [HHeap.O p0_ a0, blk b417 72 [eq (.int .i64 ((a0.fl.getD a1.toNat default).fAt)), eq (.string ((a0.fl.getD a1.toNat default).fKey))]] ++ F) (gh_of (HHeap.shut (p := p0_) (m := a0) (r := [blk b417 72 [eq (.int .i64 ((a0.fl.getD a1.toNat default).fAt)), eq (.string ((a0.fl.getD a1.toNat default).fKey))]] ++ F) (g413.1, g413.2.1, g413.2.2) h414 (perm_ton 4 [1, 2, 3, 0] rfl rfl rfl))) (fun _ _ => ?_)
    refine WP.gh (l' := fun _ => [blk b417 72 [eq (.int .i64 ((a0.fl.getD a1.toNat default).fAt)), eq (.string ((a0.fl.getD a1.toNat default).fKey))], HHeap.O p0_ a0] ++ F) (gh_of (st_selgn 2 [1, 0] 0 rfl rfl rfl)) (fun _ _ => ?_)
    refine WP.loopg (fun j_ (p437 : Int × HHeap) => heap_Heap_up.l0 k a0 a1 j_ p437.1 p437.2) (a1, a0) H (fun p437 => [(0, eq p0_.1), (1, eq (.int .i64 p437.1)), (4, eq (.pointer (some ⟨b417, 0, none⟩)))]) (fun p437 => [blk b417 72 [eq (.int .i64 ((a0.fl.getD a1.toNat default).fAt)), eq (.string ((a0.fl.getD a1.toNat default).fKey))], HHeap.O p0_ p437.2] ++ F) (weak_cons rfl (weak_cons rfl (weak_cons rfl weak_nil))) (List.Perm.refl _) ?_
    rintro j_ ⟨x421, x422⟩ H
    rcases j_ with _ | j436
    · exact (Gets.no H).elim
    replace H : Gets (heap_Heap_up.l0 k a0 a1 (j436 + 1) x421 x422) _ := H
    rw [heap_Heap_up.l0] at H
    refine WP.seq ?_
    refine WP.seq ?_
    refine WP.gh (l' := fun (g423 : Nat × OV × OV) => [blk g423.1 80 [eq g423.2.1.1, eq g423.2.2.1], own HEnt.K g423.2.1.1 x422.fl, mp Value.string (fun x : Int => eq (.int .i64 x)) g423.2.2.1 x422.fat, blk b417 72 [eq (.int .i64 ((a0.fl.getD a1.toNat default).fAt)), eq (.string ((a0.fl.getD a1.toNat default).fKey))]] ++ F) (gh_of (HHeap.opn 1 rfl)) (fun g423 h424 => ?_)
    refine WP.dreg Tryz.checked.mixed [(0, false), (1, false), (2, false), (3, false), (4, false), (5, false), (6, false), (7, false), (8, false), (9, false), (10, false), (11, false), (12, false), (13, false), (14, false), (15, false)] (by kernel_rfl) ?_
    refine mv0 rfl rfl ?_
    refine Dv.bin rfl trivial rfl rfl (fun _ => run_gt) ?_
    refine mv0 rfl rfl ?_
    cases c425 : decide (0 < x421)
    · replace H := Gets.cf H c425
      refine sk rfl rfl rfl rfl rfl ?_
      refine sk rfl rfl rfl rfl rfl ?_
      refine sk rfl rfl rfl rfl rfl ?_
      refine sk rfl rfl rfl rfl rfl ?_
      refine sk rfl rfl rfl rfl rfl ?_
      refine sk rfl rfl rfl rfl rfl ?_
      refine sk rfl rfl rfl rfl rfl ?_
      refine sk rfl rfl rfl rfl rfl ?_
      refine sk rfl rfl rfl rfl rfl ?_
      refine sk rfl rfl rfl rfl rfl ?_
      refine sk rfl rfl rfl rfl rfl ?_
      refine sk rfl rfl rfl rfl rfl ?_
      refine Dv.pickF rfl trivial rfl rfl ?_
      refine .fin ?_
      refine WP.cond rfl nofun (fun _ => ?_)
      refine WP.exit ?_
      replace H := Gets.out H
      refine Dn.gh (l' := fun _ : Unit => [HHeap.O p0_ x422, blk b417 72 [eq (.int .i64 ((a0.fl.getD a1.toNat default).fAt)), eq (.string ((a0.fl.getD a1.toNat default).fKey))]] ++ F) (gh_of (HHeap.shut (p := p0_) (m := x422) (r := [blk b417 72 [eq (.int .i64 ((a0.fl.getD a1.toNat default).fAt)), eq (.string ((a0.fl.getD a1.toNat default).fKey))]] ++ F) (g423.1, g423.2.1, g423.2.2) h424 (perm_ton 4 [0, 1, 2, 3] rfl rfl rfl))) (fun _ _ => ?_)
      refine Dn.gh (l' := fun _ : Unit => [blk b417 72 [eq (.int .i64 ((a0.fl.getD a1.toNat default).fAt)), eq (.string ((a0.fl.getD a1.toNat default).fKey))], HHeap.O p0_ x422] ++ F) (gh_of (st_selgn 2 [1, 0] 0 rfl rfl rfl)) (fun _ _ => ?_)
      exact Jn.mk (x421, false, x422) H (weak_cons rfl (weak_cons rfl (weak_cons rfl (weak_cons rfl weak_nil)))) (List.Perm.refl _)
    · replace H := Gets.ct H c425
      refine Dv.ldbs rfl ⟨_, _, rfl, rfl, rfl⟩ rfl Tryz.underlying72 rfl c72 (mem_at 3 rfl) (Nat.le_of_ble_eq_true rfl) ?_
      refine Dv.mv rfl ⟨_, _, rfl, rfl, rfl⟩ rfl ?_
      refine Dv.nilpp h424 rfl ⟨_, _, rfl, rfl, rfl⟩ rfl ?_
      refine Dv.fabp h424 rfl ⟨_, _, rfl, rfl, rfl⟩ rfl Tryz.underlying80 rfl Tryz.underlying78 c78 (by decide) ?_
      refine Dv.ldb rfl ⟨_, _, rfl, rfl, rfl⟩ rfl Tryz.underlying78 rfl (mem_at 0 rfl) rfl ?_
      refine Dv.mv rfl ⟨_, _, rfl, rfl, rfl⟩ rfl ?_
      refine Dv.bin rfl ⟨_, _, rfl, rfl, rfl⟩ rfl rfl (fun _ => run_sub) ?_
      refine Dv.bin rfl ⟨_, _, rfl, rfl, rfl⟩ rfl rfl (fun _ => run_quo (by decide)) ?_
      obtain ⟨g426, H⟩ := Gets.grd H
      have h427 : (w64 ((w64 (x421 - 1)).tdiv 2)).toNat < x422.fl.length := idx_lt g426
      refine Dv.ixw rfl ⟨_, _, rfl, rfl, rfl⟩ rfl (mem_at 1 rfl) rfl Tryz.underlying78 Tryz.underlying72 c72 g426.1 g426.2 ?_
      refine Dv.ldws (j := ((w64 ((w64 (x421 - 1)).tdiv 2)).toNat)) (f := 0) rfl ⟨_, _, rfl, rfl, rfl⟩ rfl (mem_at 1 rfl) h427 Tryz.underlying72 rfl c72 (Nat.le_of_ble_eq_true rfl) ?_
      obtain ⟨t428, h429, H⟩ := Gets.call H
      refine Dv.call rfl ⟨_, _, rfl, rfl, rfl⟩ cal78 rfl (heap_ahead.c h429) ?_
      refine Dv.bin rfl ⟨_, _, rfl, rfl, rfl⟩ rfl rfl (fun _ => run_lt) ?_
      refine Dv.pickT rfl trivial rfl rfl ?_
      refine .fin ?_
      refine WP.cond rfl (fun c430 => ?_) (fun c430 => ?_)
      · replace H := Gets.ct H c430
        refine WP.skip ?_
        refine WP.block ?_
        refine WP.seq ?_
        refine WP.reg [(0, false), (1, false), (2, false), (3, false), (4, false), (5, false), (6, false), (7, false), (8, false), (9, false), (10, false), (11, true)] (by kernel_rfl) ?_
        refine mv0 rfl rfl ?_
        refine mv0 rfl rfl ?_
        refine mv0 rfl rfl ?_
        refine Dv.nilpp h424 rfl trivial rfl ?_
        refine Dv.fabp h424 rfl trivial rfl Tryz.underlying80 rfl Tryz.underlying78 c78 (by decide) ?_
        refine Dv.ldb rfl trivial rfl Tryz.underlying78 rfl (mem_at 0 rfl) rfl ?_
        refine mv0 rfl rfl ?_
        refine Dv.bin rfl trivial rfl rfl (fun _ => run_sub) ?_
        refine Dv.bin rfl trivial rfl rfl (fun _ => run_quo (by decide)) ?_
        obtain ⟨g431, H⟩ := Gets.grd H
        have h432 : (w64 ((w64 (x421 - 1)).tdiv 2)).toNat < x422.fl.length := idx_lt g431
        refine Dv.ixw rfl trivial rfl (mem_at 1 rfl) rfl Tryz.underlying78 Tryz.underlying72 c72 g431.1 g431.2 ?_
        refine Dv.ldws (j := ((w64 ((w64 (x421 - 1)).tdiv 2)).toNat)) (f := 0) rfl trivial rfl (mem_at 1 rfl) h432 Tryz.underlying72 rfl c72 (Nat.le_of_ble_eq_true rfl) ?_
        refine Dv.gh (l' := fun _ : Unit => [HHeap.O p0_ x422, blk b417 72 [eq (.int .i64 ((a0.fl.getD a1.toNat default).fAt)), eq (.string ((a0.fl.getD a1.toNat default).fKey))]] ++ F) (gh_of (HHeap.shut (p := p0_) (m := x422) (r := [blk b417 72 [eq (.int .i64 ((a0.fl.getD a1.toNat default).fAt)), eq (.string ((a0.fl.getD a1.toNat default).fKey))]] ++ F) (g423.1, g423.2.1, g423.2.2) h424 (perm_ton 4 [0, 1, 2, 3] rfl rfl rfl))) (fun _ _ => ?_)
        obtain ⟨t433, h434, H⟩ := Gets.call H
        refine Dv.callx (pre := [HHeap.O p0_ x422]) (F := [blk b417 72 [eq (.int .i64 ((a0.fl.getD a1.toNat default).fAt)), eq (.string ((a0.fl.getD a1.toNat default).fKey))]] ++ F) (fun _ : Unit => [HHeap.O p0_ t433, blk b417 72 [eq (.int .i64 ((a0.fl.getD a1.toNat default).fAt)), eq (.string ((a0.fl.getD a1.toNat default).fKey))]] ++ F) rfl trivial cal55 rfl (heap_Heap_set.c h434 (p0_ := p0_)) (perm_ton 2 [0, 1] rfl rfl rfl) rfl nofun (fun _ _ => ?_)
        refine .fin ?_
        refine WP.reg [(0, false), (1, false), (2, false), (3, false)] (by kernel_rfl) ?_
        refine mv0 rfl rfl ?_
        refine Dv.bin rfl trivial rfl rfl (fun _ => run_sub) ?_
        refine Dv.bin rfl trivial rfl rfl (fun _ => run_quo (by decide)) ?_
        refine as0 rfl rfl ?_
        refine .fin ?_
        refine Dn.gh (l' := fun _ : Unit => [blk b417 72 [eq (.int .i64 ((a0.fl.getD a1.toNat default).fAt)), eq (.string ((a0.fl.getD a1.toNat default).fKey))], HHeap.O p0_ t433] ++ F) (gh_of (st_selgn 2 [1, 0] 0 rfl rfl rfl)) (fun _ _ => ?_)
        exact Back.mk j436 (w64 ((w64 (x421 - 1)).tdiv 2), t433) (Nat.lt_succ_self _) H (weak_cons rfl (weak_cons rfl (weak_cons rfl weak_nil))) (List.Perm.refl _)
      · replace H := Gets.cf H c430
        refine WP.exit ?_
        replace H := Gets.out H
        refine Dn.gh (l' := fun _ : Unit => [HHeap.O p0_ x422, blk b417 72 [eq (.int .i64 ((a0.fl.getD a1.toNat default).fAt)), eq (.string ((a0.fl.getD a1.toNat default).fKey))]] ++ F) (gh_of (HHeap.shut (p := p0_) (m := x422) (r := [blk b417 72 [eq (.int .i64 ((a0.fl.getD a1.toNat default).fAt)), eq (.string ((a0.fl.getD a1.toNat default).fKey))]] ++ F) (g423.1, g423.2.1, g423.2.2) h424 (perm_ton 4 [0, 1, 2, 3] rfl rfl rfl))) (fun _ _ => ?_)
        refine Dn.gh (l' := fun _ : Unit => [blk b417 72 [eq (.int .i64 ((a0.fl.getD a1.toNat default).fAt)), eq (.string ((a0.fl.getD a1.toNat default).fKey))], HHeap.O p0_ x422] ++ F) (gh_of (st_selgn 2 [1, 0] 0 rfl rfl rfl)) (fun _ _ => ?_)
        exact Jn.mk (x421, decide (t428 < 0), x422) H (weak_cons rfl (weak_cons rfl (weak_cons rfl (weak_cons rfl weak_nil)))) (List.Perm.refl _)
end Go.Proofs.YtmbodanckhidiaaGreat
