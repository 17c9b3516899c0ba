/- The walks. -/
import Derived.Test.YtegmafgodoikiaaZMir
import Derived.Test.YtegmafgodoikiaaConU
import Derived.Eval
set_option linter.all false
set_option maxRecDepth 10000
set_option maxHeartbeats 20000000
namespace Go.Proofs.Ytegmafgodoikiaa
open Go Go.Sp
theorem heap_New.c {r : HHeap} (h : heap_New.f = some r) : Tr Try.prog 15 [] [] (γ := OV) (fun _ => True) (fun g => eq g.1) (fun g => [HHeap.O g r]) := by
  unfold heap_New.f at h
  refine Tr.body Try.func15 (c := _) rfl Try.ntmps15 (Nat.le_of_ble_eq_true rfl) fun R0 F => ?_
  replace h := Gets.of h
  have H := h
  clear h
  refine WP.seq ?_
  refine WP.reg [(0, false)] (by kernel_rfl) ?_
  refine Dv.asg rfl trivial rfl ?_
  refine .fin ?_
  refine WP.seq ?_
  refine WP.reg [(0, true), (1, false), (2, true), (3, false)] (by kernel_rfl) ?_
  refine Dv.mmk Value.string (fun x : Int => eq (.int .i64 x)) rfl trivial nofun (fun v1 => ?_)
  refine Dv.bld (qs := [eq (.slice none 0 0), eq v1.1]) (css := [[eq v1.1]]) rfl trivial Try.underlying61 pl61 z61 rfl ⟨(cells_one one_ov), trivial⟩ rfl rfl ?_
  refine Dv.box (qs := [eq (.slice none 0 0), eq v1.1]) rfl trivial rfl (cells_agg (ones_cons (one_eq rfl) (ones_cons one_ov ones_nil))) nofun (fun b2 => ?_)
  refine Dv.asg rfl trivial rfl ?_
  refine .fin ?_
  refine WP.gh (l' := fun _ : Unit => [own HEnt.K nilV.1 ([] : List HEnt), blk b2 61 [eq nilV.1, eq v1.1], mp Value.string (fun x : Int => eq (.int .i64 x)) v1.1 ([] : List (ByteArray × Int))] ++ F) (gh_of (st_nil HEnt.K none)) (fun _ _ => ?_)
  refine WP.gh (l' := fun _ : Unit => [HHeap.O (⟨.pointer (some ⟨b2, 0, none⟩), rfl⟩ : OV) (⟨([] : List HEnt), ([] : List (ByteArray × Int))⟩ : HHeap)] ++ F) (gh_of (HHeap.shut (p := (⟨.pointer (some ⟨b2, 0, none⟩), rfl⟩ : OV)) (m := (⟨([] : List HEnt), ([] : List (ByteArray × Int))⟩ : HHeap)) (r := [] ++ F) (b2, nilV, v1) rfl (perm_to (L := [own HEnt.K nilV.1 ([] : List HEnt), blk b2 61 [eq nilV.1, eq v1.1], mp Value.string (fun x : Int => eq (.int .i64 x)) v1.1 ([] : List (ByteArray × Int))]) (F := F) [1, 0, 2] rfl rfl rfl))) (fun _ _ => ?_)
  obtain rfl := Gets.out H
  exact WP.retL (fun _ _ h => h) rfl (⟨.pointer (some ⟨b2, 0, none⟩), rfl⟩ : OV) trivial (.cons (res_tmp rfl) .nil) rfl (st_sel (L := [HHeap.O (⟨.pointer (some ⟨b2, 0, none⟩), rfl⟩ : OV) (⟨([] : List HEnt), ([] : List (ByteArray × Int))⟩ : HHeap)]) (F := F) [0] 0 rfl rfl rfl)
theorem presence_New.c {r : PTab} (h : presence_New.f = some r) : Tr Try.prog 5 [] [] (γ := OV) (fun _ => True) (fun g => eq g.1) (fun g => [PTab.O g r]) := by
  unfold presence_New.f at h
  refine Tr.body Try.func5 (c := _) rfl Try.ntmps5 (Nat.le_of_ble_eq_true rfl) fun R0 F => ?_
  replace h := Gets.of h
  have H := h
  clear h
  refine WP.seq ?_
  refine WP.reg [(0, false)] (by kernel_rfl) ?_
  refine Dv.asg rfl trivial rfl ?_
  refine .fin ?_
  refine WP.seq ?_
  refine WP.reg [(0, true), (1, false), (2, true), (3, false)] (by kernel_rfl) ?_
  obtain ⟨t3, h4, H⟩ := Gets.call H
  refine Dv.callx (pre := []) (F := [] ++ F) (fun g5 : OV => [HHeap.O g5 t3] ++ F) rfl trivial cal15 rfl (heap_New.c h4) (perm_to (L := []) (F := F) [] rfl rfl rfl) rfl nofun (fun g5 _ => ?_)
  refine Dv.bld (qs := [eq (.slice none 0 0), eq g5.1]) (css := [[eq g5.1]]) rfl trivial Try.underlying48 pl48 z48 rfl ⟨(cells_one one_ov), trivial⟩ rfl rfl ?_
  refine Dv.box (qs := [eq (.slice none 0 0), eq g5.1]) rfl trivial rfl (cells_agg (ones_cons (one_eq rfl) (ones_cons one_ov ones_nil))) nofun (fun b6 => ?_)
  refine Dv.asg rfl trivial rfl ?_
  refine .fin ?_
  refine WP.gh (l' := fun _ : Unit => [own Edu.K nilV.1 ([] : List Edu), blk b6 48 [eq nilV.1, eq g5.1], HHeap.O g5 t3] ++ F) (gh_of (st_nil Edu.K none)) (fun _ _ => ?_)
  refine WP.gh (l' := fun _ : Unit => [PTab.O (⟨.pointer (some ⟨b6, 0, none⟩), rfl⟩ : OV) (⟨([] : List Edu), t3⟩ : PTab)] ++ F) (gh_of (PTab.shut (p := (⟨.pointer (some ⟨b6, 0, none⟩), rfl⟩ : OV)) (m := (⟨([] : List Edu), t3⟩ : PTab)) (r := [] ++ F) (b6, nilV, g5) rfl (perm_to (L := [own Edu.K nilV.1 ([] : List Edu), blk b6 48 [eq nilV.1, eq g5.1], HHeap.O g5 t3]) (F := F) [1, 0, 2] rfl rfl rfl))) (fun _ _ => ?_)
  obtain rfl := Gets.out H
  exact WP.retL (fun _ _ h => h) rfl (⟨.pointer (some ⟨b6, 0, none⟩), rfl⟩ : OV) trivial (.cons (res_tmp rfl) .nil) rfl (st_sel (L := [PTab.O (⟨.pointer (some ⟨b6, 0, none⟩), rfl⟩ : OV) (⟨([] : List Edu), t3⟩ : PTab)]) (F := F) [0] 0 rfl rfl rfl)
theorem concourseref01_colon.c {k : Nat} {a0 : ByteArray} {r : Int} (h : concourseref01_colon.f k a0 = some r) : Pt Try.prog 62 [eq (.string a0)] (eq (.int .i64 r)) := by
  unfold concourseref01_colon.f at h
  refine (Tr.body Try.func62 (c := _) rfl Try.ntmps62 (Nat.le_of_ble_eq_true rfl) fun R0 F => ?_).pt
  replace h := Gets.of h
  have H := h
  clear h
  refine WP.seq ?_
  refine WP.reg [(0, false)] (by kernel_rfl) ?_
  refine Dv.asg rfl trivial rfl ?_
  refine .fin ?_
  refine WP.seqr H id (fun p7 : Int × Bool => [(0, eq (.string a0)), (2, eq (.int .i64 0)), (3, eq (.int .i64 p7.1)), (7, eq (.bool p7.2))]) (fun p7 : Int × Bool => [] ++ F) (fun p7 H => ?_) (fun H => ?_)
  · refine WP.seq ?_
    refine WP.reg [(0, false)] (by kernel_rfl) ?_
    refine Dv.asg rfl trivial rfl ?_
    refine .fin ?_
    obtain rfl := Gets.out H
    exact WP.retL (fun _ _ h => h) rfl () trivial (.cons (res_tmp rfl) .nil) rfl (st_sel (L := []) (F := F) [] 0 rfl rfl rfl)
  · refine WP.seq ?_
    refine WP.reg [(0, false)] (by kernel_rfl) ?_
    refine Dv.asg rfl trivial rfl ?_
    refine .fin ?_
    refine WP.block ?_
    refine WP.gh (l' := fun _ => [] ++ F) (gh_of (st_selg (L := []) (F := F) [] 0 rfl rfl rfl)) (fun _ _ => ?_)
    refine WP.loopg (fun j_ (p13 : Int) => concourseref01_colon.l0 k a0 j_ p13) 0 H (fun p13 => [(0, eq (.string a0)), (2, eq (.int .i64 0)), (3, eq (.int .i64 p13))]) (fun p13 => [] ++ F) (weak_cons rfl (weak_cons rfl (weak_cons rfl weak_nil))) (List.Perm.refl _) ?_
    rintro j_ x8 H
    rcases j_ with _ | j12
    · exact (Gets.no H).elim
    replace H : Gets (concourseref01_colon.l0 k a0 (j12 + 1) x8) _ := H
    rw [concourseref01_colon.l0] at H
    refine WP.seq ?_
    refine WP.seq ?_
    refine WP.reg [(0, false), (1, false), (2, false), (3, false)] (by kernel_rfl) ?_
    refine Dv.mv rfl trivial rfl ?_
    refine Dv.mv rfl trivial rfl ?_
    refine Dv.lens rfl trivial rfl Try.underlying9 ?_
    refine Dv.bin rfl trivial rfl rfl (fun _ => run_lt) ?_
    refine .fin ?_
    refine WP.cond rfl (fun c9 => ?_) (fun c9 => ?_)
    · replace H := Gets.ct H c9
      refine WP.skip ?_
      refine WP.seq ?_
      refine WP.block ?_
      refine WP.seq ?_
      refine WP.reg [(0, false), (1, false), (2, false), (3, false)] (by kernel_rfl) ?_
      refine Dv.mv rfl trivial rfl ?_
      refine Dv.mv rfl trivial rfl ?_
      obtain ⟨g10, H⟩ := Gets.grd H
      refine Dv.ixs rfl trivial rfl rfl Try.underlying9 g10.1 g10.2 ?_
      refine Dv.bin rfl trivial rfl rfl (fun _ => run_eq) ?_
      refine .fin ?_
      refine WP.cond rfl (fun c11 => ?_) (fun c11 => ?_)
      · replace H := Gets.ct H c11
        refine WP.seq ?_
        refine WP.reg [(0, false), (1, false)] (by kernel_rfl) ?_
        refine Dv.mv rfl trivial rfl ?_
        refine Dv.asg rfl trivial rfl ?_
        refine .fin ?_
        replace H := Gets.outr H
        obtain rfl := Gets.out H
        exact WP.retL (fun _ _ h => h) rfl () trivial (.cons (res_tmp rfl) .nil) rfl (st_sel (L := []) (F := F) [] 0 rfl rfl rfl)
      · replace H := Gets.cf H c11
        refine WP.skip ?_
        refine WP.reg [(0, false), (1, false), (2, false)] (by kernel_rfl) ?_
        refine Dv.mv rfl trivial rfl ?_
        refine Dv.bin rfl trivial rfl rfl (fun _ => run_add) ?_
        refine Dv.asg rfl trivial rfl ?_
        refine .fin ?_
        exact Back.mk j12 (w64 (x8 + 1)) (Nat.lt_succ_self _) H (weak_cons rfl (weak_cons rfl (weak_cons rfl weak_nil))) (List.Perm.refl _)
    · replace H := Gets.cf H c9
      refine WP.exit ?_
      replace H := Gets.out H
      exact Jn.mk (x8, decide (x8 < (a0.size : Int))) H (weak_cons rfl (weak_cons rfl (weak_cons rfl (weak_cons rfl weak_nil)))) (List.Perm.refl _)
theorem concourseref01_low.c {a0 : Int} {r : Bool} (h : concourseref01_low.f a0 = some r) : Pt Try.prog 65 [eq (.int .u8 a0)] (eq (.bool r)) := by
  unfold concourseref01_low.f at h
  refine (Tr.body Try.func65 (c := _) rfl Try.ntmps65 (Nat.le_of_ble_eq_true rfl) fun R0 F => ?_).pt
  replace h := Gets.of h
  have H := h
  clear h
  refine WP.seq ?_
  refine WP.reg [(0, false)] (by kernel_rfl) ?_
  refine Dv.asg rfl trivial rfl ?_
  refine .fin ?_
  refine WP.seq ?_
  refine WP.reg [(0, false), (1, false), (2, false), (3, false), (4, false), (5, false), (6, false), (7, false), (8, false), (9, false), (10, false), (11, false), (12, false), (13, false), (14, false)] (by kernel_rfl) ?_
  refine Dv.mv rfl trivial rfl ?_
  refine Dv.bin rfl trivial rfl rfl (fun _ => run_ge) ?_
  refine Dv.mv rfl trivial rfl ?_
  cases c14 : decide (97 ≤ a0)
  · replace H := Gets.cf H c14
    refine Dv.skip rfl ⟨_, _, rfl, rfl, .inl rfl⟩ ?_
    refine Dv.skip rfl ⟨_, _, rfl, rfl, .inl rfl⟩ ?_
    refine Dv.pickF rfl trivial rfl rfl ?_
    refine Dv.mv rfl trivial rfl ?_
    refine Dv.mv rfl ⟨_, _, rfl, rfl, rfl⟩ rfl ?_
    refine Dv.bin rfl ⟨_, _, rfl, rfl, rfl⟩ rfl rfl (fun _ => run_ge) ?_
    refine Dv.mv rfl ⟨_, _, rfl, rfl, rfl⟩ rfl ?_
    cases c17 : decide (48 ≤ a0)
    · replace H := Gets.cf H c17
      refine Dv.skip rfl ⟨_, _, rfl, rfl, .inl rfl⟩ ?_
      refine Dv.skip rfl ⟨_, _, rfl, rfl, .inl rfl⟩ ?_
      refine Dv.pickF rfl ⟨_, _, rfl, rfl, rfl⟩ rfl rfl ?_
      refine Dv.pickF rfl trivial rfl rfl ?_
      refine Dv.asg rfl trivial rfl ?_
      refine .fin ?_
      obtain rfl := Gets.out H
      exact WP.retL (fun _ _ h => h) rfl () trivial (.cons (res_tmp rfl) .nil) rfl (st_sel (L := []) (F := F) [] 0 rfl rfl rfl)
    · replace H := Gets.ct H c17
      refine Dv.mv rfl ⟨_, _, rfl, rfl, rfl⟩ rfl ?_
      refine Dv.bin rfl ⟨_, _, rfl, rfl, rfl⟩ rfl rfl (fun _ => run_le) ?_
      refine Dv.pickT rfl ⟨_, _, rfl, rfl, rfl⟩ rfl rfl ?_
      refine Dv.pickF rfl trivial rfl rfl ?_
      refine Dv.asg rfl trivial rfl ?_
      refine .fin ?_
      obtain rfl := Gets.out H
      exact WP.retL (fun _ _ h => h) rfl () trivial (.cons (res_tmp rfl) .nil) rfl (st_sel (L := []) (F := F) [] 0 rfl rfl rfl)
  · replace H := Gets.ct H c14
    refine Dv.mv rfl ⟨_, _, rfl, rfl, rfl⟩ rfl ?_
    refine Dv.bin rfl ⟨_, _, rfl, rfl, rfl⟩ rfl rfl (fun _ => run_le) ?_
    refine Dv.pickT rfl trivial rfl rfl ?_
    refine Dv.mv rfl trivial rfl ?_
    cases c15 : decide (a0 ≤ 122)
    · replace H := Gets.cf H c15
      refine Dv.mv rfl ⟨_, _, rfl, rfl, rfl⟩ rfl ?_
      refine Dv.bin rfl ⟨_, _, rfl, rfl, rfl⟩ rfl rfl (fun _ => run_ge) ?_
      refine Dv.mv rfl ⟨_, _, rfl, rfl, rfl⟩ rfl ?_
      cases c16 : decide (48 ≤ a0)
      · replace H := Gets.cf H c16
        refine Dv.skip rfl ⟨_, _, rfl, rfl, .inl rfl⟩ ?_
        refine Dv.skip rfl ⟨_, _, rfl, rfl, .inl rfl⟩ ?_
        refine Dv.pickF rfl ⟨_, _, rfl, rfl, rfl⟩ rfl rfl ?_
        refine Dv.pickF rfl trivial rfl rfl ?_
        refine Dv.asg rfl trivial rfl ?_
        refine .fin ?_
        obtain rfl := Gets.out H
        exact WP.retL (fun _ _ h => h) rfl () trivial (.cons (res_tmp rfl) .nil) rfl (st_sel (L := []) (F := F) [] 0 rfl rfl rfl)
      · replace H := Gets.ct H c16
        refine Dv.mv rfl ⟨_, _, rfl, rfl, rfl⟩ rfl ?_
        refine Dv.bin rfl ⟨_, _, rfl, rfl, rfl⟩ rfl rfl (fun _ => run_le) ?_
        refine Dv.pickT rfl ⟨_, _, rfl, rfl, rfl⟩ rfl rfl ?_
        refine Dv.pickF rfl trivial rfl rfl ?_
        refine Dv.asg rfl trivial rfl ?_
        refine .fin ?_
        obtain rfl := Gets.out H
        exact WP.retL (fun _ _ h => h) rfl () trivial (.cons (res_tmp rfl) .nil) rfl (st_sel (L := []) (F := F) [] 0 rfl rfl rfl)
    · replace H := Gets.ct H c15
      refine Dv.skip rfl ⟨_, _, rfl, rfl, .inl rfl⟩ ?_
      refine Dv.skip rfl ⟨_, _, rfl, rfl, .inl rfl⟩ ?_
      refine Dv.skip rfl ⟨_, _, rfl, rfl, .inl rfl⟩ ?_
      refine Dv.skip rfl ⟨_, _, rfl, rfl, .inr rfl⟩ ?_
      refine Dv.skip rfl ⟨_, _, rfl, rfl, .inr rfl⟩ ?_
      refine Dv.skip rfl ⟨_, _, rfl, rfl, .inl rfl⟩ ?_
      refine Dv.pickT rfl trivial rfl rfl ?_
      refine Dv.asg rfl trivial rfl ?_
      refine .fin ?_
      obtain rfl := Gets.out H
      exact WP.retL (fun _ _ h => h) rfl () trivial (.cons (res_tmp rfl) .nil) rfl (st_sel (L := []) (F := F) [] 0 rfl rfl rfl)
theorem concourseref01_Part.c {k : Nat} {a0 : ByteArray} {r : Bool} (h : concourseref01_Part.f k a0 = some r) : Pt Try.prog 63 [eq (.string a0)] (eq (.bool r)) := by
  unfold concourseref01_Part.f at h
  refine (Tr.body Try.func63 (c := _) rfl Try.ntmps63 (Nat.le_of_ble_eq_true rfl) fun R0 F => ?_).pt
  replace h := Gets.of h
  have H := h
  clear h
  refine WP.seq ?_
  refine WP.reg [(0, false)] (by kernel_rfl) ?_
  refine Dv.asg rfl trivial rfl ?_
  refine .fin ?_
  refine WP.seqr H id (fun p18 : Int × Bool => [(0, eq (.string a0)), (2, eq (.bool false)), (3, eq (.int .i64 p18.1)), (8, eq (.bool p18.2))]) (fun p18 : Int × Bool => [] ++ F) (fun p18 H => ?_) (fun H => ?_)
  · refine WP.seq ?_
    refine WP.reg [(0, false), (1, false), (2, false), (3, false), (4, false), (5, false), (6, false), (7, false), (8, false)] (by kernel_rfl) ?_
    refine Dv.mv rfl trivial rfl ?_
    refine Dv.lens rfl trivial rfl Try.underlying9 ?_
    refine Dv.bin rfl trivial rfl rfl (fun _ => run_gt) ?_
    refine Dv.mv rfl trivial rfl ?_
    cases c19 : decide (0 < (a0.size : Int))
    · replace H := Gets.cf H c19
      refine Dv.skip rfl ⟨_, _, rfl, rfl, .inl rfl⟩ ?_
      refine Dv.skip rfl ⟨_, _, rfl, rfl, .inl rfl⟩ ?_
      refine Dv.skip rfl ⟨_, _, rfl, rfl, .inl rfl⟩ ?_
      refine Dv.pickF rfl trivial rfl rfl ?_
      refine Dv.asg rfl trivial rfl ?_
      refine .fin ?_
      obtain rfl := Gets.out H
      exact WP.retL (fun _ _ h => h) rfl () trivial (.cons (res_tmp rfl) .nil) rfl (st_sel (L := []) (F := F) [] 0 rfl rfl rfl)
    · replace H := Gets.ct H c19
      refine Dv.mv rfl ⟨_, _, rfl, rfl, rfl⟩ rfl ?_
      refine Dv.lens rfl ⟨_, _, rfl, rfl, rfl⟩ rfl Try.underlying9 ?_
      refine Dv.bin rfl ⟨_, _, rfl, rfl, rfl⟩ rfl rfl (fun _ => run_lt) ?_
      refine Dv.pickT rfl trivial rfl rfl ?_
      refine Dv.asg rfl trivial rfl ?_
      refine .fin ?_
      obtain rfl := Gets.out H
      exact WP.retL (fun _ _ h => h) rfl () trivial (.cons (res_tmp rfl) .nil) rfl (st_sel (L := []) (F := F) [] 0 rfl rfl rfl)
  · refine WP.seq ?_
    refine WP.reg [(0, false)] (by kernel_rfl) ?_
    refine Dv.asg rfl trivial rfl ?_
    refine .fin ?_
    refine WP.block ?_
    refine WP.gh (l' := fun _ => [] ++ F) (gh_of (st_selg (L := []) (F := F) [] 0 rfl rfl rfl)) (fun _ _ => ?_)
    refine WP.loopg (fun j_ (p36 : Int) => concourseref01_Part.l0 k a0 j_ p36) 0 H (fun p36 => [(0, eq (.string a0)), (2, eq (.bool false)), (3, eq (.int .i64 p36))]) (fun p36 => [] ++ F) (weak_cons rfl (weak_cons rfl (weak_cons rfl weak_nil))) (List.Perm.refl _) ?_
    rintro j_ x20 H
    rcases j_ with _ | j35
    · exact (Gets.no H).elim
    replace H : Gets (concourseref01_Part.l0 k a0 (j35 + 1) x20) _ := H
    rw [concourseref01_Part.l0] at H
    refine WP.seq ?_
    refine WP.seq ?_
    refine WP.reg [(0, false), (1, false), (2, false), (3, false)] (by kernel_rfl) ?_
    refine Dv.mv rfl trivial rfl ?_
    refine Dv.mv rfl trivial rfl ?_
    refine Dv.lens rfl trivial rfl Try.underlying9 ?_
    refine Dv.bin rfl trivial rfl rfl (fun _ => run_lt) ?_
    refine .fin ?_
    refine WP.cond rfl (fun c21 => ?_) (fun c21 => ?_)
    · replace H := Gets.ct H c21
      refine WP.skip ?_
      refine WP.seq ?_
      refine WP.block ?_
      refine WP.seq ?_
      refine WP.reg [(0, false), (1, false), (2, false), (3, false), (4, false)] (by kernel_rfl) ?_
      refine Dv.mv rfl trivial rfl ?_
      refine Dv.mv rfl trivial rfl ?_
      obtain ⟨g22, H⟩ := Gets.grd H
      refine Dv.ixs rfl trivial rfl rfl Try.underlying9 g22.1 g22.2 ?_
      obtain ⟨t23, h24, H⟩ := Gets.call H
      refine Dv.call rfl trivial cal65 rfl (concourseref01_low.c h24) ?_
      refine Dv.asg rfl trivial rfl ?_
      refine .fin ?_
      refine WP.seq ?_
      refine WP.reg [(0, false), (1, false), (2, false), (3, false), (4, false), (5, false), (6, false), (7, false), (8, false), (9, false), (10, false), (11, false), (12, false), (13, false), (14, false), (15, false), (16, false), (17, false), (18, false), (19, false)] (by kernel_rfl) ?_
      refine Dv.mv rfl trivial rfl ?_
      refine Dv.un rfl trivial rfl (fun _ => run_not _) ?_
      refine Dv.mv rfl trivial rfl ?_
      cases c25 : !t23
      · replace H := Gets.cf H c25
        refine Dv.skip rfl ⟨_, _, rfl, rfl, .inl rfl⟩ ?_
        refine Dv.skip rfl ⟨_, _, rfl, rfl, .inl rfl⟩ ?_
        refine Dv.skip rfl ⟨_, _, rfl, rfl, .inl rfl⟩ ?_
        refine Dv.skip rfl ⟨_, _, rfl, rfl, .inl rfl⟩ ?_
        refine Dv.pickF rfl trivial rfl rfl ?_
        refine Dv.mv rfl trivial rfl ?_
        refine Dv.skip rfl ⟨_, _, rfl, rfl, .inl rfl⟩ ?_
        refine Dv.skip rfl ⟨_, _, rfl, rfl, .inl rfl⟩ ?_
        refine Dv.skip rfl ⟨_, _, rfl, rfl, .inl rfl⟩ ?_
        refine Dv.skip rfl ⟨_, _, rfl, rfl, .inl rfl⟩ ?_
        refine Dv.pickF rfl trivial rfl rfl ?_
        refine Dv.mv rfl trivial rfl ?_
        refine Dv.skip rfl ⟨_, _, rfl, rfl, .inl rfl⟩ ?_
        refine Dv.skip rfl ⟨_, _, rfl, rfl, .inl rfl⟩ ?_
        refine Dv.skip rfl ⟨_, _, rfl, rfl, .inl rfl⟩ ?_
        refine Dv.skip rfl ⟨_, _, rfl, rfl, .inl rfl⟩ ?_
        refine Dv.pickF rfl trivial rfl rfl ?_
        refine .fin ?_
        refine WP.cond rfl nofun (fun _ => ?_)
        refine WP.skip ?_
        refine WP.reg [(0, false), (1, false), (2, false)] (by kernel_rfl) ?_
        refine Dv.mv rfl trivial rfl ?_
        refine Dv.bin rfl trivial rfl rfl (fun _ => run_add) ?_
        refine Dv.asg rfl trivial rfl ?_
        refine .fin ?_
        exact Back.mk j35 (w64 (x20 + 1)) (Nat.lt_succ_self _) H (weak_cons rfl (weak_cons rfl (weak_cons rfl weak_nil))) (List.Perm.refl _)
      · replace H := Gets.ct H c25
        refine Dv.mv rfl ⟨_, _, rfl, rfl, rfl⟩ rfl ?_
        refine Dv.mv rfl ⟨_, _, rfl, rfl, rfl⟩ rfl ?_
        obtain ⟨g26, H⟩ := Gets.grd H
        refine Dv.ixs rfl ⟨_, _, rfl, rfl, rfl⟩ rfl rfl Try.underlying9 g26.1 g26.2 ?_
        refine Dv.bin rfl ⟨_, _, rfl, rfl, rfl⟩ rfl rfl (fun _ => run_ne) ?_
        refine Dv.pickT rfl trivial rfl rfl ?_
        refine Dv.mv rfl trivial rfl ?_
        cases c27 : ((bt a0 x20) != 46)
        · replace H := Gets.cf H c27
          refine Dv.skip rfl ⟨_, _, rfl, rfl, .inl rfl⟩ ?_
          refine Dv.skip rfl ⟨_, _, rfl, rfl, .inl rfl⟩ ?_
          refine Dv.skip rfl ⟨_, _, rfl, rfl, .inl rfl⟩ ?_
          refine Dv.skip rfl ⟨_, _, rfl, rfl, .inl rfl⟩ ?_
          refine Dv.pickF rfl trivial rfl rfl ?_
          refine Dv.mv rfl trivial rfl ?_
          refine Dv.skip rfl ⟨_, _, rfl, rfl, .inl rfl⟩ ?_
          refine Dv.skip rfl ⟨_, _, rfl, rfl, .inl rfl⟩ ?_
          refine Dv.skip rfl ⟨_, _, rfl, rfl, .inl rfl⟩ ?_
          refine Dv.skip rfl ⟨_, _, rfl, rfl, .inl rfl⟩ ?_
          refine Dv.pickF rfl trivial rfl rfl ?_
          refine .fin ?_
          refine WP.cond rfl nofun (fun _ => ?_)
          refine WP.skip ?_
          refine WP.reg [(0, false), (1, false), (2, false)] (by kernel_rfl) ?_
          refine Dv.mv rfl trivial rfl ?_
          refine Dv.bin rfl trivial rfl rfl (fun _ => run_add) ?_
          refine Dv.asg rfl trivial rfl ?_
          refine .fin ?_
          exact Back.mk j35 (w64 (x20 + 1)) (Nat.lt_succ_self _) H (weak_cons rfl (weak_cons rfl (weak_cons rfl weak_nil))) (List.Perm.refl _)
        · replace H := Gets.ct H c27
          refine Dv.mv rfl ⟨_, _, rfl, rfl, rfl⟩ rfl ?_
          refine Dv.mv rfl ⟨_, _, rfl, rfl, rfl⟩ rfl ?_
          obtain ⟨g28, H⟩ := Gets.grd H
          refine Dv.ixs rfl ⟨_, _, rfl, rfl, rfl⟩ rfl rfl Try.underlying9 g28.1 g28.2 ?_
          refine Dv.bin rfl ⟨_, _, rfl, rfl, rfl⟩ rfl rfl (fun _ => run_ne) ?_
          refine Dv.pickT rfl trivial rfl rfl ?_
          refine Dv.mv rfl trivial rfl ?_
          cases c29 : ((bt a0 x20) != 45)
          · replace H := Gets.cf H c29
            refine Dv.skip rfl ⟨_, _, rfl, rfl, .inl rfl⟩ ?_
            refine Dv.skip rfl ⟨_, _, rfl, rfl, .inl rfl⟩ ?_
            refine Dv.skip rfl ⟨_, _, rfl, rfl, .inl rfl⟩ ?_
            refine Dv.skip rfl ⟨_, _, rfl, rfl, .inl rfl⟩ ?_
            refine Dv.pickF rfl trivial rfl rfl ?_
            refine .fin ?_
            refine WP.cond rfl nofun (fun _ => ?_)
            refine WP.skip ?_
            refine WP.reg [(0, false), (1, false), (2, false)] (by kernel_rfl) ?_
            refine Dv.mv rfl trivial rfl ?_
            refine Dv.bin rfl trivial rfl rfl (fun _ => run_add) ?_
            refine Dv.asg rfl trivial rfl ?_
            refine .fin ?_
            exact Back.mk j35 (w64 (x20 + 1)) (Nat.lt_succ_self _) H (weak_cons rfl (weak_cons rfl (weak_cons rfl weak_nil))) (List.Perm.refl _)
          · replace H := Gets.ct H c29
            refine Dv.mv rfl ⟨_, _, rfl, rfl, rfl⟩ rfl ?_
            refine Dv.mv rfl ⟨_, _, rfl, rfl, rfl⟩ rfl ?_
            obtain ⟨g30, H⟩ := Gets.grd H
            refine Dv.ixs rfl ⟨_, _, rfl, rfl, rfl⟩ rfl rfl Try.underlying9 g30.1 g30.2 ?_
            refine Dv.bin rfl ⟨_, _, rfl, rfl, rfl⟩ rfl rfl (fun _ => run_ne) ?_
            refine Dv.pickT rfl trivial rfl rfl ?_
            refine .fin ?_
            refine WP.cond rfl (fun c31 => ?_) (fun c31 => ?_)
            · replace H := Gets.ct H c31
              refine WP.seq ?_
              refine WP.reg [(0, false)] (by kernel_rfl) ?_
              refine Dv.asg rfl trivial rfl ?_
              refine .fin ?_
              replace H := Gets.outr H
              obtain rfl := Gets.out H
              exact WP.retL (fun _ _ h => h) rfl () trivial (.cons (res_tmp rfl) .nil) rfl (st_sel (L := []) (F := F) [] 0 rfl rfl rfl)
            · replace H := Gets.cf H c31
              refine WP.skip ?_
              refine WP.reg [(0, false), (1, false), (2, false)] (by kernel_rfl) ?_
              refine Dv.mv rfl trivial rfl ?_
              refine Dv.bin rfl trivial rfl rfl (fun _ => run_add) ?_
              refine Dv.asg rfl trivial rfl ?_
              refine .fin ?_
              exact Back.mk j35 (w64 (x20 + 1)) (Nat.lt_succ_self _) H (weak_cons rfl (weak_cons rfl (weak_cons rfl weak_nil))) (List.Perm.refl _)
    · replace H := Gets.cf H c21
      refine WP.exit ?_
      replace H := Gets.out H
      exact Jn.mk (x20, decide (x20 < (a0.size : Int))) H (weak_cons rfl (weak_cons rfl (weak_cons rfl (weak_cons rfl weak_nil)))) (List.Perm.refl _)
theorem concourseref01_Server.c {k : Nat} {a0 : ByteArray} {r : Bool} (h : concourseref01_Server.f k a0 = some r) : Pt Try.prog 64 [eq (.string a0)] (eq (.bool r)) := by
  unfold concourseref01_Server.f at h
  refine (Tr.body Try.func64 (c := _) rfl Try.ntmps64 (Nat.le_of_ble_eq_true rfl) fun R0 F => ?_).pt
  replace h := Gets.of h
  have H := h
  clear h
  refine WP.seq ?_
  refine WP.reg [(0, false)] (by kernel_rfl) ?_
  refine Dv.asg rfl trivial rfl ?_
  refine .fin ?_
  refine WP.seqr H id (fun p37 : Int × Bool => [(0, eq (.string a0)), (2, eq (.bool false)), (3, eq (.int .i64 p37.1)), (9, eq (.bool p37.2))]) (fun p37 : Int × Bool => [] ++ F) (fun p37 H => ?_) (fun H => ?_)
  · refine WP.seq ?_
    refine WP.reg [(0, false), (1, false), (2, false), (3, false), (4, false), (5, false), (6, false), (7, false), (8, false)] (by kernel_rfl) ?_
    refine Dv.mv rfl trivial rfl ?_
    refine Dv.lens rfl trivial rfl Try.underlying9 ?_
    refine Dv.bin rfl trivial rfl rfl (fun _ => run_gt) ?_
    refine Dv.mv rfl trivial rfl ?_
    cases c38 : decide (0 < (a0.size : Int))
    · replace H := Gets.cf H c38
      refine Dv.skip rfl ⟨_, _, rfl, rfl, .inl rfl⟩ ?_
      refine Dv.skip rfl ⟨_, _, rfl, rfl, .inl rfl⟩ ?_
      refine Dv.skip rfl ⟨_, _, rfl, rfl, .inl rfl⟩ ?_
      refine Dv.pickF rfl trivial rfl rfl ?_
      refine Dv.asg rfl trivial rfl ?_
      refine .fin ?_
      obtain rfl := Gets.out H
      exact WP.retL (fun _ _ h => h) rfl () trivial (.cons (res_tmp rfl) .nil) rfl (st_sel (L := []) (F := F) [] 0 rfl rfl rfl)
    · replace H := Gets.ct H c38
      refine Dv.mv rfl ⟨_, _, rfl, rfl, rfl⟩ rfl ?_
      refine Dv.lens rfl ⟨_, _, rfl, rfl, rfl⟩ rfl Try.underlying9 ?_
      refine Dv.bin rfl ⟨_, _, rfl, rfl, rfl⟩ rfl rfl (fun _ => run_lt) ?_
      refine Dv.pickT rfl trivial rfl rfl ?_
      refine Dv.asg rfl trivial rfl ?_
      refine .fin ?_
      obtain rfl := Gets.out H
      exact WP.retL (fun _ _ h => h) rfl () trivial (.cons (res_tmp rfl) .nil) rfl (st_sel (L := []) (F := F) [] 0 rfl rfl rfl)
  · refine WP.seq ?_
    refine WP.reg [(0, false)] (by kernel_rfl) ?_
    refine Dv.asg rfl trivial rfl ?_
    refine .fin ?_
    refine WP.block ?_
    refine WP.gh (l' := fun _ => [] ++ F) (gh_of (st_selg (L := []) (F := F) [] 0 rfl rfl rfl)) (fun _ _ => ?_)
    refine WP.loopg (fun j_ (p62 : Int) => concourseref01_Server.l0 k a0 j_ p62) 0 H (fun p62 => [(0, eq (.string a0)), (2, eq (.bool false)), (3, eq (.int .i64 p62))]) (fun p62 => [] ++ F) (weak_cons rfl (weak_cons rfl (weak_cons rfl weak_nil))) (List.Perm.refl _) ?_
    rintro j_ x39 H
    rcases j_ with _ | j61
    · exact (Gets.no H).elim
    replace H : Gets (concourseref01_Server.l0 k a0 (j61 + 1) x39) _ := H
    rw [concourseref01_Server.l0] at H
    refine WP.seq ?_
    refine WP.seq ?_
    refine WP.reg [(0, false), (1, false), (2, false), (3, false)] (by kernel_rfl) ?_
    refine Dv.mv rfl trivial rfl ?_
    refine Dv.mv rfl trivial rfl ?_
    refine Dv.lens rfl trivial rfl Try.underlying9 ?_
    refine Dv.bin rfl trivial rfl rfl (fun _ => run_lt) ?_
    refine .fin ?_
    refine WP.cond rfl (fun c40 => ?_) (fun c40 => ?_)
    · replace H := Gets.ct H c40
      refine WP.skip ?_
      refine WP.seq ?_
      refine WP.block ?_
      refine WP.seq ?_
      refine WP.reg [(0, false), (1, false), (2, false), (3, false), (4, false)] (by kernel_rfl) ?_
      refine Dv.mv rfl trivial rfl ?_
      refine Dv.mv rfl trivial rfl ?_
      obtain ⟨g41, H⟩ := Gets.grd H
      refine Dv.ixs rfl trivial rfl rfl Try.underlying9 g41.1 g41.2 ?_
      obtain ⟨t42, h43, H⟩ := Gets.call H
      refine Dv.call rfl trivial cal65 rfl (concourseref01_low.c h43) ?_
      refine Dv.asg rfl trivial rfl ?_
      refine .fin ?_
      refine WP.seq ?_
      refine WP.reg [(0, false), (1, false), (2, false), (3, false), (4, false), (5, false), (6, false), (7, false), (8, false), (9, false), (10, false), (11, false), (12, false), (13, false), (14, false), (15, false), (16, false), (17, false), (18, false), (19, false), (20, false), (21, false)] (by kernel_rfl) ?_
      refine Dv.mv rfl trivial rfl ?_
      refine Dv.bin rfl trivial rfl rfl (fun _ => run_gt) ?_
      refine Dv.mv rfl trivial rfl ?_
      cases c44 : decide (0 < x39)
      · replace H := Gets.cf H c44
        refine Dv.skip rfl ⟨_, _, rfl, rfl, .inl rfl⟩ ?_
        refine Dv.skip rfl ⟨_, _, rfl, rfl, .inl rfl⟩ ?_
        refine Dv.skip rfl ⟨_, _, rfl, rfl, .inl rfl⟩ ?_
        refine Dv.skip rfl ⟨_, _, rfl, rfl, .inl rfl⟩ ?_
        refine Dv.skip rfl ⟨_, _, rfl, rfl, .inl rfl⟩ ?_
        refine Dv.pickF rfl trivial rfl rfl ?_
        refine Dv.mv rfl trivial rfl ?_
        refine Dv.skip rfl ⟨_, _, rfl, rfl, .inl rfl⟩ ?_
        refine Dv.skip rfl ⟨_, _, rfl, rfl, .inl rfl⟩ ?_
        refine Dv.skip rfl ⟨_, _, rfl, rfl, .inl rfl⟩ ?_
        refine Dv.skip rfl ⟨_, _, rfl, rfl, .inl rfl⟩ ?_
        refine Dv.skip rfl ⟨_, _, rfl, rfl, .inl rfl⟩ ?_
        refine Dv.skip rfl ⟨_, _, rfl, rfl, .inr rfl⟩ ?_
        refine Dv.skip rfl ⟨_, _, rfl, rfl, .inr rfl⟩ ?_
        refine Dv.skip rfl ⟨_, _, rfl, rfl, .inr rfl⟩ ?_
        refine Dv.skip rfl ⟨_, _, rfl, rfl, .inr rfl⟩ ?_
        refine Dv.skip rfl ⟨_, _, rfl, rfl, .inl rfl⟩ ?_
        refine Dv.pickF rfl trivial rfl rfl ?_
        refine Dv.asg rfl trivial rfl ?_
        refine .fin ?_
        refine WP.seq ?_
        refine WP.reg [(0, false), (1, false), (2, false), (3, false), (4, false), (5, false)] (by kernel_rfl) ?_
        refine Dv.mv rfl trivial rfl ?_
        refine Dv.un rfl trivial rfl (fun _ => run_not _) ?_
        refine Dv.mv rfl trivial rfl ?_
        cases c58 : !t42
        · replace H := Gets.cf H c58
          refine Dv.skip rfl ⟨_, _, rfl, rfl, .inl rfl⟩ ?_
          refine Dv.skip rfl ⟨_, _, rfl, rfl, .inl rfl⟩ ?_
          refine Dv.pickF rfl trivial rfl rfl ?_
          refine .fin ?_
          refine WP.cond rfl nofun (fun _ => ?_)
          refine WP.skip ?_
          refine WP.reg [(0, false), (1, false), (2, false)] (by kernel_rfl) ?_
          refine Dv.mv rfl trivial rfl ?_
          refine Dv.bin rfl trivial rfl rfl (fun _ => run_add) ?_
          refine Dv.asg rfl trivial rfl ?_
          refine .fin ?_
          exact Back.mk j61 (w64 (x39 + 1)) (Nat.lt_succ_self _) H (weak_cons rfl (weak_cons rfl (weak_cons rfl weak_nil))) (List.Perm.refl _)
        · replace H := Gets.ct H c58
          refine Dv.mv rfl ⟨_, _, rfl, rfl, rfl⟩ rfl ?_
          refine Dv.un rfl ⟨_, _, rfl, rfl, rfl⟩ rfl (fun _ => run_not _) ?_
          refine Dv.pickT rfl trivial rfl rfl ?_
          refine .fin ?_
          refine WP.cond rfl (fun _ => ?_) nofun
          refine WP.seq ?_
          refine WP.reg [(0, false)] (by kernel_rfl) ?_
          refine Dv.asg rfl trivial rfl ?_
          refine .fin ?_
          replace H := Gets.outr H
          obtain rfl := Gets.out H
          exact WP.retL (fun _ _ h => h) rfl () trivial (.cons (res_tmp rfl) .nil) rfl (st_sel (L := []) (F := F) [] 0 rfl rfl rfl)
      · replace H := Gets.ct H c44
        refine Dv.mv rfl ⟨_, _, rfl, rfl, rfl⟩ rfl ?_
        refine Dv.mv rfl ⟨_, _, rfl, rfl, rfl⟩ rfl ?_
        refine Dv.lens rfl ⟨_, _, rfl, rfl, rfl⟩ rfl Try.underlying9 ?_
        refine Dv.bin rfl ⟨_, _, rfl, rfl, rfl⟩ rfl rfl (fun _ => run_sub) ?_
        refine Dv.bin rfl ⟨_, _, rfl, rfl, rfl⟩ rfl rfl (fun _ => run_lt) ?_
        refine Dv.pickT rfl trivial rfl rfl ?_
        refine Dv.mv rfl trivial rfl ?_
        cases c45 : decide (x39 < (w64 ((a0.size : Int) - 1)))
        · replace H := Gets.cf H c45
          refine Dv.skip rfl ⟨_, _, rfl, rfl, .inl rfl⟩ ?_
          refine Dv.skip rfl ⟨_, _, rfl, rfl, .inl rfl⟩ ?_
          refine Dv.skip rfl ⟨_, _, rfl, rfl, .inl rfl⟩ ?_
          refine Dv.skip rfl ⟨_, _, rfl, rfl, .inl rfl⟩ ?_
          refine Dv.skip rfl ⟨_, _, rfl, rfl, .inl rfl⟩ ?_
          refine Dv.skip rfl ⟨_, _, rfl, rfl, .inr rfl⟩ ?_
          refine Dv.skip rfl ⟨_, _, rfl, rfl, .inr rfl⟩ ?_
          refine Dv.skip rfl ⟨_, _, rfl, rfl, .inr rfl⟩ ?_
          refine Dv.skip rfl ⟨_, _, rfl, rfl, .inr rfl⟩ ?_
          refine Dv.skip rfl ⟨_, _, rfl, rfl, .inl rfl⟩ ?_
          refine Dv.pickF rfl trivial rfl rfl ?_
          refine Dv.asg rfl trivial rfl ?_
          refine .fin ?_
          refine WP.seq ?_
          refine WP.reg [(0, false), (1, false), (2, false), (3, false), (4, false), (5, false)] (by kernel_rfl) ?_
          refine Dv.mv rfl trivial rfl ?_
          refine Dv.un rfl trivial rfl (fun _ => run_not _) ?_
          refine Dv.mv rfl trivial rfl ?_
          cases c55 : !t42
          · replace H := Gets.cf H c55
            refine Dv.skip rfl ⟨_, _, rfl, rfl, .inl rfl⟩ ?_
            refine Dv.skip rfl ⟨_, _, rfl, rfl, .inl rfl⟩ ?_
            refine Dv.pickF rfl trivial rfl rfl ?_
            refine .fin ?_
            refine WP.cond rfl nofun (fun _ => ?_)
            refine WP.skip ?_
            refine WP.reg [(0, false), (1, false), (2, false)] (by kernel_rfl) ?_
            refine Dv.mv rfl trivial rfl ?_
            refine Dv.bin rfl trivial rfl rfl (fun _ => run_add) ?_
            refine Dv.asg rfl trivial rfl ?_
            refine .fin ?_
            exact Back.mk j61 (w64 (x39 + 1)) (Nat.lt_succ_self _) H (weak_cons rfl (weak_cons rfl (weak_cons rfl weak_nil))) (List.Perm.refl _)
          · replace H := Gets.ct H c55
            refine Dv.mv rfl ⟨_, _, rfl, rfl, rfl⟩ rfl ?_
            refine Dv.un rfl ⟨_, _, rfl, rfl, rfl⟩ rfl (fun _ => run_not _) ?_
            refine Dv.pickT rfl trivial rfl rfl ?_
            refine .fin ?_
            refine WP.cond rfl (fun _ => ?_) nofun
            refine WP.seq ?_
            refine WP.reg [(0, false)] (by kernel_rfl) ?_
            refine Dv.asg rfl trivial rfl ?_
            refine .fin ?_
            replace H := Gets.outr H
            obtain rfl := Gets.out H
            exact WP.retL (fun _ _ h => h) rfl () trivial (.cons (res_tmp rfl) .nil) rfl (st_sel (L := []) (F := F) [] 0 rfl rfl rfl)
        · replace H := Gets.ct H c45
          refine Dv.mv rfl ⟨_, _, rfl, rfl, rfl⟩ rfl ?_
          refine Dv.mv rfl ⟨_, _, rfl, rfl, rfl⟩ rfl ?_
          obtain ⟨g46, H⟩ := Gets.grd H
          refine Dv.ixs rfl ⟨_, _, rfl, rfl, rfl⟩ rfl rfl Try.underlying9 g46.1 g46.2 ?_
          refine Dv.bin rfl ⟨_, _, rfl, rfl, rfl⟩ rfl rfl (fun _ => run_eq) ?_
          refine Dv.mv rfl ⟨_, _, rfl, rfl, rfl⟩ rfl ?_
          cases c47 : ((bt a0 x39) == 46)
          · replace H := Gets.cf H c47
            refine Dv.mv rfl ⟨_, _, rfl, rfl, rfl⟩ rfl ?_
            refine Dv.mv rfl ⟨_, _, rfl, rfl, rfl⟩ rfl ?_
            obtain ⟨g51, H⟩ := Gets.grd H
            refine Dv.ixs rfl ⟨_, _, rfl, rfl, rfl⟩ rfl rfl Try.underlying9 g51.1 g51.2 ?_
            refine Dv.bin rfl ⟨_, _, rfl, rfl, rfl⟩ rfl rfl (fun _ => run_eq) ?_
            refine Dv.pickF rfl ⟨_, _, rfl, rfl, rfl⟩ rfl rfl ?_
            refine Dv.pickT rfl trivial rfl rfl ?_
            refine Dv.asg rfl trivial rfl ?_
            refine .fin ?_
            refine WP.seq ?_
            refine WP.reg [(0, false), (1, false), (2, false), (3, false), (4, false), (5, false)] (by kernel_rfl) ?_
            refine Dv.mv rfl trivial rfl ?_
            refine Dv.un rfl trivial rfl (fun _ => run_not _) ?_
            refine Dv.mv rfl trivial rfl ?_
            cases c52 : !t42
            · replace H := Gets.cf H c52
              refine Dv.skip rfl ⟨_, _, rfl, rfl, .inl rfl⟩ ?_
              refine Dv.skip rfl ⟨_, _, rfl, rfl, .inl rfl⟩ ?_
              refine Dv.pickF rfl trivial rfl rfl ?_
              refine .fin ?_
              refine WP.cond rfl nofun (fun _ => ?_)
              refine WP.skip ?_
              refine WP.reg [(0, false), (1, false), (2, false)] (by kernel_rfl) ?_
              refine Dv.mv rfl trivial rfl ?_
              refine Dv.bin rfl trivial rfl rfl (fun _ => run_add) ?_
              refine Dv.asg rfl trivial rfl ?_
              refine .fin ?_
              exact Back.mk j61 (w64 (x39 + 1)) (Nat.lt_succ_self _) H (weak_cons rfl (weak_cons rfl (weak_cons rfl weak_nil))) (List.Perm.refl _)
            · replace H := Gets.ct H c52
              refine Dv.mv rfl ⟨_, _, rfl, rfl, rfl⟩ rfl ?_
              refine Dv.un rfl ⟨_, _, rfl, rfl, rfl⟩ rfl (fun _ => run_not _) ?_
              refine Dv.pickT rfl trivial rfl rfl ?_
              refine .fin ?_
              refine WP.cond rfl (fun c53 => ?_) (fun c53 => ?_)
              · replace H := Gets.ct H c53
                refine WP.seq ?_
                refine WP.reg [(0, false)] (by kernel_rfl) ?_
                refine Dv.asg rfl trivial rfl ?_
                refine .fin ?_
                replace H := Gets.outr H
                obtain rfl := Gets.out H
                exact WP.retL (fun _ _ h => h) rfl () trivial (.cons (res_tmp rfl) .nil) rfl (st_sel (L := []) (F := F) [] 0 rfl rfl rfl)
              · replace H := Gets.cf H c53
                refine WP.skip ?_
                refine WP.reg [(0, false), (1, false), (2, false)] (by kernel_rfl) ?_
                refine Dv.mv rfl trivial rfl ?_
                refine Dv.bin rfl trivial rfl rfl (fun _ => run_add) ?_
                refine Dv.asg rfl trivial rfl ?_
                refine .fin ?_
                exact Back.mk j61 (w64 (x39 + 1)) (Nat.lt_succ_self _) H (weak_cons rfl (weak_cons rfl (weak_cons rfl weak_nil))) (List.Perm.refl _)
          · replace H := Gets.ct H c47
            refine Dv.skip rfl ⟨_, _, rfl, rfl, .inl rfl⟩ ?_
            refine Dv.skip rfl ⟨_, _, rfl, rfl, .inl rfl⟩ ?_
            refine Dv.skip rfl ⟨_, _, rfl, rfl, .inl rfl⟩ ?_
            refine Dv.skip rfl ⟨_, _, rfl, rfl, .inl rfl⟩ ?_
            refine Dv.pickT rfl ⟨_, _, rfl, rfl, rfl⟩ rfl rfl ?_
            refine Dv.pickT rfl trivial rfl rfl ?_
            refine Dv.asg rfl trivial rfl ?_
            refine .fin ?_
            refine WP.seq ?_
            refine WP.reg [(0, false), (1, false), (2, false), (3, false), (4, false), (5, false)] (by kernel_rfl) ?_
            refine Dv.mv rfl trivial rfl ?_
            refine Dv.un rfl trivial rfl (fun _ => run_not _) ?_
            refine Dv.mv rfl trivial rfl ?_
            cases c48 : !t42
            · replace H := Gets.cf H c48
              refine Dv.skip rfl ⟨_, _, rfl, rfl, .inl rfl⟩ ?_
              refine Dv.skip rfl ⟨_, _, rfl, rfl, .inl rfl⟩ ?_
              refine Dv.pickF rfl trivial rfl rfl ?_
              refine .fin ?_
              refine WP.cond rfl nofun (fun _ => ?_)
              refine WP.skip ?_
              refine WP.reg [(0, false), (1, false), (2, false)] (by kernel_rfl) ?_
              refine Dv.mv rfl trivial rfl ?_
              refine Dv.bin rfl trivial rfl rfl (fun _ => run_add) ?_
              refine Dv.asg rfl trivial rfl ?_
              refine .fin ?_
              exact Back.mk j61 (w64 (x39 + 1)) (Nat.lt_succ_self _) H (weak_cons rfl (weak_cons rfl (weak_cons rfl weak_nil))) (List.Perm.refl _)
            · replace H := Gets.ct H c48
              refine Dv.mv rfl ⟨_, _, rfl, rfl, rfl⟩ rfl ?_
              refine Dv.un rfl ⟨_, _, rfl, rfl, rfl⟩ rfl (fun _ => run_not _) ?_
              refine Dv.pickT rfl trivial rfl rfl ?_
              refine .fin ?_
              refine WP.cond rfl nofun (fun _ => ?_)
              refine WP.skip ?_
              refine WP.reg [(0, false), (1, false), (2, false)] (by kernel_rfl) ?_
              refine Dv.mv rfl trivial rfl ?_
              refine Dv.bin rfl trivial rfl rfl (fun _ => run_add) ?_
              refine Dv.asg rfl trivial rfl ?_
              refine .fin ?_
              exact Back.mk j61 (w64 (x39 + 1)) (Nat.lt_succ_self _) H (weak_cons rfl (weak_cons rfl (weak_cons rfl weak_nil))) (List.Perm.refl _)
    · replace H := Gets.cf H c40
      refine WP.exit ?_
      replace H := Gets.out H
      exact Jn.mk (x39, decide (x39 < (a0.size : Int))) H (weak_cons rfl (weak_cons rfl (weak_cons rfl (weak_cons rfl weak_nil)))) (List.Perm.refl _)
theorem concourseref01_Named.c {k : Nat} {a0 : ByteArray} {a1 : Int} {r : Bool} (h : concourseref01_Named.f k a0 a1 = some r) : Pt Try.prog 44 [eq (.string a0), eq (.int .u8 a1)] (eq (.bool r)) := by
  unfold concourseref01_Named.f at h
  refine (Tr.body Try.func44 (c := _) rfl Try.ntmps44 (Nat.le_of_ble_eq_true rfl) fun R0 F => ?_).pt
  replace h := Gets.of h
  have H := h
  clear h
  refine WP.seq ?_
  refine WP.reg [(0, false)] (by kernel_rfl) ?_
  refine Dv.asg rfl trivial rfl ?_
  refine .fin ?_
  refine WP.seq ?_
  refine WP.reg [(0, false), (1, false), (2, false)] (by kernel_rfl) ?_
  refine Dv.mv rfl trivial rfl ?_
  obtain ⟨t63, h64, H⟩ := Gets.call H
  refine Dv.call rfl trivial cal62 rfl (concourseref01_colon.c h64) ?_
  refine Dv.asg rfl trivial rfl ?_
  refine .fin ?_
  refine WP.seq ?_
  refine WP.seq ?_
  refine WP.reg [(0, false), (1, false), (2, false), (3, false), (4, false), (5, false), (6, false), (7, false)] (by kernel_rfl) ?_
  refine Dv.mv rfl trivial rfl ?_
  refine Dv.bin rfl trivial rfl rfl (fun _ => run_lt) ?_
  refine Dv.mv rfl trivial rfl ?_
  cases c65 : decide (t63 < 1)
  · replace H := Gets.cf H c65
    refine Dv.mv rfl ⟨_, _, rfl, rfl, rfl⟩ rfl ?_
    obtain ⟨g67, H⟩ := Gets.grd H
    refine Dv.ixs rfl ⟨_, _, rfl, rfl, rfl⟩ rfl rfl Try.underlying9 g67.1 g67.2 ?_
    refine Dv.mv rfl ⟨_, _, rfl, rfl, rfl⟩ rfl ?_
    refine Dv.bin rfl ⟨_, _, rfl, rfl, rfl⟩ rfl rfl (fun _ => run_ne) ?_
    refine Dv.pickF rfl trivial rfl rfl ?_
    refine .fin ?_
    refine WP.cond rfl (fun c68 => ?_) (fun c68 => ?_)
    · replace H := Gets.ct H c68
      refine WP.seq ?_
      refine WP.reg [(0, false)] (by kernel_rfl) ?_
      refine Dv.asg rfl trivial rfl ?_
      refine .fin ?_
      obtain rfl := Gets.out H
      exact WP.retL (fun _ _ h => h) rfl () trivial (.cons (res_tmp rfl) .nil) rfl (st_sel (L := []) (F := F) [] 0 rfl rfl rfl)
    · replace H := Gets.cf H c68
      refine WP.skip ?_
      refine WP.seq ?_
      refine WP.reg [(0, false), (1, false), (2, false), (3, false), (4, false)] (by kernel_rfl) ?_
      refine Dv.mv rfl trivial rfl ?_
      refine Dv.mv rfl trivial rfl ?_
      obtain ⟨g69, H⟩ := Gets.grd H
      refine Dv.sss rfl trivial rfl Try.underlying9 (bdE_some rfl g69.1) (bdE_some rfl g69.2.1) g69.2.2.1 g69.2.2.2 ?_
      obtain ⟨t70, h71, H⟩ := Gets.call H
      refine Dv.call rfl trivial cal63 rfl (concourseref01_Part.c h71) ?_
      refine Dv.asg rfl trivial rfl ?_
      refine .fin ?_
      refine WP.seq ?_
      refine WP.reg [(0, false), (1, false), (2, false), (3, false), (4, false), (5, false)] (by kernel_rfl) ?_
      refine Dv.mv rfl trivial rfl ?_
      refine Dv.mv rfl trivial rfl ?_
      refine Dv.bin rfl trivial rfl rfl (fun _ => run_add) ?_
      obtain ⟨g72, H⟩ := Gets.grd H
      refine Dv.sss rfl trivial rfl Try.underlying9 (bdE_some rfl g72.1) bdE_none g72.2.1 g72.2.2 ?_
      obtain ⟨t73, h74, H⟩ := Gets.call H
      refine Dv.call rfl trivial cal64 rfl (concourseref01_Server.c h74) ?_
      refine Dv.asg rfl trivial rfl ?_
      refine .fin ?_
      refine WP.seq ?_
      refine WP.reg [(0, false), (1, false), (2, false), (3, false), (4, false)] (by kernel_rfl) ?_
      refine Dv.mv rfl trivial rfl ?_
      refine Dv.mv rfl trivial rfl ?_
      cases c75 : t70
      · replace H := Gets.cf H c75
        refine Dv.skip rfl ⟨_, _, rfl, rfl, .inl rfl⟩ ?_
        refine Dv.pickF rfl trivial rfl rfl ?_
        refine Dv.asg rfl trivial rfl ?_
        refine .fin ?_
        obtain rfl := Gets.out H
        exact WP.retL (fun _ _ h => h) rfl () trivial (.cons (res_tmp rfl) .nil) rfl (st_sel (L := []) (F := F) [] 0 rfl rfl rfl)
      · replace H := Gets.ct H c75
        refine Dv.mv rfl ⟨_, _, rfl, rfl, rfl⟩ rfl ?_
        refine Dv.pickT rfl trivial rfl rfl ?_
        refine Dv.asg rfl trivial rfl ?_
        refine .fin ?_
        obtain rfl := Gets.out H
        exact WP.retL (fun _ _ h => h) rfl () trivial (.cons (res_tmp rfl) .nil) rfl (st_sel (L := []) (F := F) [] 0 rfl rfl rfl)
  · replace H := Gets.ct H c65
    refine Dv.skip rfl ⟨_, _, rfl, rfl, .inl rfl⟩ ?_
    refine Dv.skip rfl ⟨_, _, rfl, rfl, .inl rfl⟩ ?_
    refine Dv.skip rfl ⟨_, _, rfl, rfl, .inl rfl⟩ ?_
    refine Dv.skip rfl ⟨_, _, rfl, rfl, .inl rfl⟩ ?_
    refine Dv.pickT rfl trivial rfl rfl ?_
    refine .fin ?_
    refine WP.cond rfl (fun _ => ?_) nofun
    refine WP.seq ?_
    refine WP.reg [(0, false)] (by kernel_rfl) ?_
    refine Dv.asg rfl trivial rfl ?_
    refine .fin ?_
    obtain rfl := Gets.out H
    exact WP.retL (fun _ _ h => h) rfl () trivial (.cons (res_tmp rfl) .nil) rfl (st_sel (L := []) (F := F) [] 0 rfl rfl rfl)
theorem concourseref01_Event.c {k : Nat} {a0 : ByteArray} {r : Bool} (h : concourseref01_Event.f k a0 = some r) : Pt Try.prog 45 [eq (.string a0)] (eq (.bool r)) := by
  unfold concourseref01_Event.f at h
  refine (Tr.body Try.func45 (c := _) rfl Try.ntmps45 (Nat.le_of_ble_eq_true rfl) fun R0 F => ?_).pt
  replace h := Gets.of h
  have H := h
  clear h
  refine WP.seq ?_
  refine WP.reg [(0, false)] (by kernel_rfl) ?_
  refine Dv.asg rfl trivial rfl ?_
  refine .fin ?_
  refine WP.seq ?_
  refine WP.seq ?_
  refine WP.reg [(0, false), (1, false), (2, false), (3, false), (4, false), (5, false), (6, false), (7, false), (8, false), (9, false), (10, false), (11, false), (12, false)] (by kernel_rfl) ?_
  refine Dv.mv rfl trivial rfl ?_
  refine Dv.lens rfl trivial rfl Try.underlying9 ?_
  refine Dv.bin rfl trivial rfl rfl (fun _ => run_lt) ?_
  refine Dv.mv rfl trivial rfl ?_
  cases c76 : decide ((a0.size : Int) < 2)
  · replace H := Gets.cf H c76
    refine Dv.mv rfl ⟨_, _, rfl, rfl, rfl⟩ rfl ?_
    refine Dv.lens rfl ⟨_, _, rfl, rfl, rfl⟩ rfl Try.underlying9 ?_
    refine Dv.bin rfl ⟨_, _, rfl, rfl, rfl⟩ rfl rfl (fun _ => run_gt) ?_
    refine Dv.pickF rfl trivial rfl rfl ?_
    refine Dv.mv rfl trivial rfl ?_
    cases c78 : decide (17 < (a0.size : Int))
    · replace H := Gets.cf H c78
      refine Dv.mv rfl ⟨_, _, rfl, rfl, rfl⟩ rfl ?_
      obtain ⟨g80, H⟩ := Gets.grd H
      refine Dv.ixs rfl ⟨_, _, rfl, rfl, rfl⟩ rfl rfl Try.underlying9 g80.1 g80.2 ?_
      refine Dv.bin rfl ⟨_, _, rfl, rfl, rfl⟩ rfl rfl (fun _ => run_ne) ?_
      refine Dv.pickF rfl trivial rfl rfl ?_
      refine .fin ?_
      refine WP.cond rfl (fun c81 => ?_) (fun c81 => ?_)
      · replace H := Gets.ct H c81
        refine WP.seq ?_
        refine WP.reg [(0, false)] (by kernel_rfl) ?_
        refine Dv.asg rfl trivial rfl ?_
        refine .fin ?_
        obtain rfl := Gets.out H
        exact WP.retL (fun _ _ h => h) rfl () trivial (.cons (res_tmp rfl) .nil) rfl (st_sel (L := []) (F := F) [] 0 rfl rfl rfl)
      · replace H := Gets.cf H c81
        refine WP.skip ?_
        refine WP.seqr H id (fun p82 : Int × Bool => [(0, eq (.string a0)), (2, eq (.bool false)), (3, eq (.int .i64 p82.1)), (18, eq (.bool ((bt a0 0) != 36))), (22, eq (.bool p82.2))]) (fun p82 : Int × Bool => [] ++ F) (fun p82 H => ?_) (fun H => ?_)
        · refine WP.seq ?_
          refine WP.reg [(0, false)] (by kernel_rfl) ?_
          refine Dv.asg rfl trivial rfl ?_
          refine .fin ?_
          obtain rfl := Gets.out H
          exact WP.retL (fun _ _ h => h) rfl () trivial (.cons (res_tmp rfl) .nil) rfl (st_sel (L := []) (F := F) [] 0 rfl rfl rfl)
        · refine WP.seq ?_
          refine WP.reg [(0, false)] (by kernel_rfl) ?_
          refine Dv.asg rfl trivial rfl ?_
          refine .fin ?_
          refine WP.block ?_
          refine WP.gh (l' := fun _ => [] ++ F) (gh_of (st_selg (L := []) (F := F) [] 0 rfl rfl rfl)) (fun _ _ => ?_)
          refine WP.loopg (fun j_ (p108 : Int) => concourseref01_Event.l0 k a0 j_ p108) 1 H (fun p108 => [(0, eq (.string a0)), (2, eq (.bool false)), (3, eq (.int .i64 p108)), (18, eq (.bool ((bt a0 0) != 36)))]) (fun p108 => [] ++ F) (weak_cons rfl (weak_cons rfl (weak_cons rfl (weak_cons rfl weak_nil)))) (List.Perm.refl _) ?_
          rintro j_ x83 H
          rcases j_ with _ | j107
          · exact (Gets.no H).elim
          replace H : Gets (concourseref01_Event.l0 k a0 (j107 + 1) x83) _ := H
          rw [concourseref01_Event.l0] at H
          refine WP.seq ?_
          refine WP.seq ?_
          refine WP.reg [(0, false), (1, false), (2, false), (3, false)] (by kernel_rfl) ?_
          refine Dv.mv rfl trivial rfl ?_
          refine Dv.mv rfl trivial rfl ?_
          refine Dv.lens rfl trivial rfl Try.underlying9 ?_
          refine Dv.bin rfl trivial rfl rfl (fun _ => run_lt) ?_
          refine .fin ?_
          refine WP.cond rfl (fun c84 => ?_) (fun c84 => ?_)
          · replace H := Gets.ct H c84
            refine WP.skip ?_
            refine WP.seq ?_
            refine WP.block ?_
            refine WP.seq ?_
            refine WP.reg [(0, false), (1, false), (2, false), (3, false), (4, false)] (by kernel_rfl) ?_
            refine Dv.mv rfl trivial rfl ?_
            refine Dv.mv rfl trivial rfl ?_
            obtain ⟨g85, H⟩ := Gets.grd H
            refine Dv.ixs rfl trivial rfl rfl Try.underlying9 g85.1 g85.2 ?_
            obtain ⟨t86, h87, H⟩ := Gets.call H
            refine Dv.call rfl trivial cal65 rfl (concourseref01_low.c h87) ?_
            refine Dv.asg rfl trivial rfl ?_
            refine .fin ?_
            refine WP.seq ?_
            refine WP.reg [(0, false), (1, false), (2, false), (3, false), (4, false), (5, false), (6, false), (7, false), (8, false), (9, false), (10, false)] (by kernel_rfl) ?_
            refine Dv.mv rfl trivial rfl ?_
            refine Dv.mv rfl trivial rfl ?_
            obtain ⟨g88, H⟩ := Gets.grd H
            refine Dv.ixs rfl trivial rfl rfl Try.underlying9 g88.1 g88.2 ?_
            refine Dv.bin rfl trivial rfl rfl (fun _ => run_ge) ?_
            refine Dv.mv rfl trivial rfl ?_
            cases c89 : decide (65 ≤ (bt a0 x83))
            · replace H := Gets.cf H c89
              refine Dv.skip rfl ⟨_, _, rfl, rfl, .inl rfl⟩ ?_
              refine Dv.skip rfl ⟨_, _, rfl, rfl, .inl rfl⟩ ?_
              refine Dv.skip rfl ⟨_, _, rfl, rfl, .inl rfl⟩ ?_
              refine Dv.skip rfl ⟨_, _, rfl, rfl, .inl rfl⟩ ?_
              refine Dv.pickF rfl trivial rfl rfl ?_
              refine Dv.asg rfl trivial rfl ?_
              refine .fin ?_
              refine WP.seq ?_
              refine WP.reg [(0, false), (1, false), (2, false), (3, false), (4, false), (5, false), (6, false), (7, false), (8, false), (9, false), (10, false), (11, false), (12, false), (13, false), (14, false), (15, false), (16, false), (17, false)] (by kernel_rfl) ?_
              refine Dv.mv rfl trivial rfl ?_
              refine Dv.un rfl trivial rfl (fun _ => run_not _) ?_
              refine Dv.mv rfl trivial rfl ?_
              cases c100 : !t86
              · replace H := Gets.cf H c100
                refine Dv.skip rfl ⟨_, _, rfl, rfl, .inl rfl⟩ ?_
                refine Dv.skip rfl ⟨_, _, rfl, rfl, .inl rfl⟩ ?_
                refine Dv.pickF rfl trivial rfl rfl ?_
                refine Dv.mv rfl trivial rfl ?_
                refine Dv.skip rfl ⟨_, _, rfl, rfl, .inl rfl⟩ ?_
                refine Dv.skip rfl ⟨_, _, rfl, rfl, .inl rfl⟩ ?_
                refine Dv.skip rfl ⟨_, _, rfl, rfl, .inl rfl⟩ ?_
                refine Dv.skip rfl ⟨_, _, rfl, rfl, .inl rfl⟩ ?_
                refine Dv.pickF rfl trivial rfl rfl ?_
                refine Dv.mv rfl trivial rfl ?_
                refine Dv.skip rfl ⟨_, _, rfl, rfl, .inl rfl⟩ ?_
                refine Dv.skip rfl ⟨_, _, rfl, rfl, .inl rfl⟩ ?_
                refine Dv.skip rfl ⟨_, _, rfl, rfl, .inl rfl⟩ ?_
                refine Dv.skip rfl ⟨_, _, rfl, rfl, .inl rfl⟩ ?_
                refine Dv.pickF rfl trivial rfl rfl ?_
                refine .fin ?_
                refine WP.cond rfl nofun (fun _ => ?_)
                refine WP.skip ?_
                refine WP.reg [(0, false), (1, false), (2, false)] (by kernel_rfl) ?_
                refine Dv.mv rfl trivial rfl ?_
                refine Dv.bin rfl trivial rfl rfl (fun _ => run_add) ?_
                refine Dv.asg rfl trivial rfl ?_
                refine .fin ?_
                exact Back.mk j107 (w64 (x83 + 1)) (Nat.lt_succ_self _) H (weak_cons rfl (weak_cons rfl (weak_cons rfl (weak_cons rfl weak_nil)))) (List.Perm.refl _)
              · replace H := Gets.ct H c100
                refine Dv.mv rfl ⟨_, _, rfl, rfl, rfl⟩ rfl ?_
                refine Dv.un rfl ⟨_, _, rfl, rfl, rfl⟩ rfl (fun _ => run_not _) ?_
                refine Dv.pickT rfl trivial rfl rfl ?_
                refine Dv.mv rfl trivial rfl ?_
                refine Dv.mv rfl ⟨_, _, rfl, rfl, rfl⟩ rfl ?_
                refine Dv.mv rfl ⟨_, _, rfl, rfl, rfl⟩ rfl ?_
                obtain ⟨g101, H⟩ := Gets.grd H
                refine Dv.ixs rfl ⟨_, _, rfl, rfl, rfl⟩ rfl rfl Try.underlying9 g101.1 g101.2 ?_
                refine Dv.bin rfl ⟨_, _, rfl, rfl, rfl⟩ rfl rfl (fun _ => run_ne) ?_
                refine Dv.pickT rfl trivial rfl rfl ?_
                refine Dv.mv rfl trivial rfl ?_
                cases c102 : ((bt a0 x83) != 45)
                · replace H := Gets.cf H c102
                  refine Dv.skip rfl ⟨_, _, rfl, rfl, .inl rfl⟩ ?_
                  refine Dv.skip rfl ⟨_, _, rfl, rfl, .inl rfl⟩ ?_
                  refine Dv.skip rfl ⟨_, _, rfl, rfl, .inl rfl⟩ ?_
                  refine Dv.skip rfl ⟨_, _, rfl, rfl, .inl rfl⟩ ?_
                  refine Dv.pickF rfl trivial rfl rfl ?_
                  refine .fin ?_
                  refine WP.cond rfl nofun (fun _ => ?_)
                  refine WP.skip ?_
                  refine WP.reg [(0, false), (1, false), (2, false)] (by kernel_rfl) ?_
                  refine Dv.mv rfl trivial rfl ?_
                  refine Dv.bin rfl trivial rfl rfl (fun _ => run_add) ?_
                  refine Dv.asg rfl trivial rfl ?_
                  refine .fin ?_
                  exact Back.mk j107 (w64 (x83 + 1)) (Nat.lt_succ_self _) H (weak_cons rfl (weak_cons rfl (weak_cons rfl (weak_cons rfl weak_nil)))) (List.Perm.refl _)
                · replace H := Gets.ct H c102
                  refine Dv.mv rfl ⟨_, _, rfl, rfl, rfl⟩ rfl ?_
                  refine Dv.mv rfl ⟨_, _, rfl, rfl, rfl⟩ rfl ?_
                  obtain ⟨g103, H⟩ := Gets.grd H
                  refine Dv.ixs rfl ⟨_, _, rfl, rfl, rfl⟩ rfl rfl Try.underlying9 g103.1 g103.2 ?_
                  refine Dv.bin rfl ⟨_, _, rfl, rfl, rfl⟩ rfl rfl (fun _ => run_ne) ?_
                  refine Dv.pickT rfl trivial rfl rfl ?_
                  refine .fin ?_
                  refine WP.cond rfl (fun c104 => ?_) (fun c104 => ?_)
                  · replace H := Gets.ct H c104
                    refine WP.seq ?_
                    refine WP.reg [(0, false)] (by kernel_rfl) ?_
                    refine Dv.asg rfl trivial rfl ?_
                    refine .fin ?_
                    replace H := Gets.outr H
                    obtain rfl := Gets.out H
                    exact WP.retL (fun _ _ h => h) rfl () trivial (.cons (res_tmp rfl) .nil) rfl (st_sel (L := []) (F := F) [] 0 rfl rfl rfl)
                  · replace H := Gets.cf H c104
                    refine WP.skip ?_
                    refine WP.reg [(0, false), (1, false), (2, false)] (by kernel_rfl) ?_
                    refine Dv.mv rfl trivial rfl ?_
                    refine Dv.bin rfl trivial rfl rfl (fun _ => run_add) ?_
                    refine Dv.asg rfl trivial rfl ?_
                    refine .fin ?_
                    exact Back.mk j107 (w64 (x83 + 1)) (Nat.lt_succ_self _) H (weak_cons rfl (weak_cons rfl (weak_cons rfl (weak_cons rfl weak_nil)))) (List.Perm.refl _)
            · replace H := Gets.ct H c89
              refine Dv.mv rfl ⟨_, _, rfl, rfl, rfl⟩ rfl ?_
              refine Dv.mv rfl ⟨_, _, rfl, rfl, rfl⟩ rfl ?_
              obtain ⟨g90, H⟩ := Gets.grd H
              refine Dv.ixs rfl ⟨_, _, rfl, rfl, rfl⟩ rfl rfl Try.underlying9 g90.1 g90.2 ?_
              refine Dv.bin rfl ⟨_, _, rfl, rfl, rfl⟩ rfl rfl (fun _ => run_le) ?_
              refine Dv.pickT rfl trivial rfl rfl ?_
              refine Dv.asg rfl trivial rfl ?_
              refine .fin ?_
              refine WP.seq ?_
              refine WP.reg [(0, false), (1, false), (2, false), (3, false), (4, false), (5, false), (6, false), (7, false), (8, false), (9, false), (10, false), (11, false), (12, false), (13, false), (14, false), (15, false), (16, false), (17, false)] (by kernel_rfl) ?_
              refine Dv.mv rfl trivial rfl ?_
              refine Dv.un rfl trivial rfl (fun _ => run_not _) ?_
              refine Dv.mv rfl trivial rfl ?_
              cases c91 : !t86
              · replace H := Gets.cf H c91
                refine Dv.skip rfl ⟨_, _, rfl, rfl, .inl rfl⟩ ?_
                refine Dv.skip rfl ⟨_, _, rfl, rfl, .inl rfl⟩ ?_
                refine Dv.pickF rfl trivial rfl rfl ?_
                refine Dv.mv rfl trivial rfl ?_
                refine Dv.skip rfl ⟨_, _, rfl, rfl, .inl rfl⟩ ?_
                refine Dv.skip rfl ⟨_, _, rfl, rfl, .inl rfl⟩ ?_
                refine Dv.skip rfl ⟨_, _, rfl, rfl, .inl rfl⟩ ?_
                refine Dv.skip rfl ⟨_, _, rfl, rfl, .inl rfl⟩ ?_
                refine Dv.pickF rfl trivial rfl rfl ?_
                refine Dv.mv rfl trivial rfl ?_
                refine Dv.skip rfl ⟨_, _, rfl, rfl, .inl rfl⟩ ?_
                refine Dv.skip rfl ⟨_, _, rfl, rfl, .inl rfl⟩ ?_
                refine Dv.skip rfl ⟨_, _, rfl, rfl, .inl rfl⟩ ?_
                refine Dv.skip rfl ⟨_, _, rfl, rfl, .inl rfl⟩ ?_
                refine Dv.pickF rfl trivial rfl rfl ?_
                refine .fin ?_
                refine WP.cond rfl nofun (fun _ => ?_)
                refine WP.skip ?_
                refine WP.reg [(0, false), (1, false), (2, false)] (by kernel_rfl) ?_
                refine Dv.mv rfl trivial rfl ?_
                refine Dv.bin rfl trivial rfl rfl (fun _ => run_add) ?_
                refine Dv.asg rfl trivial rfl ?_
                refine .fin ?_
                exact Back.mk j107 (w64 (x83 + 1)) (Nat.lt_succ_self _) H (weak_cons rfl (weak_cons rfl (weak_cons rfl (weak_cons rfl weak_nil)))) (List.Perm.refl _)
              · replace H := Gets.ct H c91
                refine Dv.mv rfl ⟨_, _, rfl, rfl, rfl⟩ rfl ?_
                refine Dv.un rfl ⟨_, _, rfl, rfl, rfl⟩ rfl (fun _ => run_not _) ?_
                refine Dv.pickT rfl trivial rfl rfl ?_
                refine Dv.mv rfl trivial rfl ?_
                cases c92 : !(decide ((bt a0 x83) ≤ 90))
                · replace H := Gets.cf H c92
                  refine Dv.skip rfl ⟨_, _, rfl, rfl, .inl rfl⟩ ?_
                  refine Dv.skip rfl ⟨_, _, rfl, rfl, .inl rfl⟩ ?_
                  refine Dv.skip rfl ⟨_, _, rfl, rfl, .inl rfl⟩ ?_
                  refine Dv.skip rfl ⟨_, _, rfl, rfl, .inl rfl⟩ ?_
                  refine Dv.pickF rfl trivial rfl rfl ?_
                  refine Dv.mv rfl trivial rfl ?_
                  refine Dv.skip rfl ⟨_, _, rfl, rfl, .inl rfl⟩ ?_
                  refine Dv.skip rfl ⟨_, _, rfl, rfl, .inl rfl⟩ ?_
                  refine Dv.skip rfl ⟨_, _, rfl, rfl, .inl rfl⟩ ?_
                  refine Dv.skip rfl ⟨_, _, rfl, rfl, .inl rfl⟩ ?_
                  refine Dv.pickF rfl trivial rfl rfl ?_
                  refine .fin ?_
                  refine WP.cond rfl nofun (fun _ => ?_)
                  refine WP.skip ?_
                  refine WP.reg [(0, false), (1, false), (2, false)] (by kernel_rfl) ?_
                  refine Dv.mv rfl trivial rfl ?_
                  refine Dv.bin rfl trivial rfl rfl (fun _ => run_add) ?_
                  refine Dv.asg rfl trivial rfl ?_
                  refine .fin ?_
                  exact Back.mk j107 (w64 (x83 + 1)) (Nat.lt_succ_self _) H (weak_cons rfl (weak_cons rfl (weak_cons rfl (weak_cons rfl weak_nil)))) (List.Perm.refl _)
                · replace H := Gets.ct H c92
                  refine Dv.mv rfl ⟨_, _, rfl, rfl, rfl⟩ rfl ?_
                  refine Dv.mv rfl ⟨_, _, rfl, rfl, rfl⟩ rfl ?_
                  obtain ⟨g93, H⟩ := Gets.grd H
                  refine Dv.ixs rfl ⟨_, _, rfl, rfl, rfl⟩ rfl rfl Try.underlying9 g93.1 g93.2 ?_
                  refine Dv.bin rfl ⟨_, _, rfl, rfl, rfl⟩ rfl rfl (fun _ => run_ne) ?_
                  refine Dv.pickT rfl trivial rfl rfl ?_
                  refine Dv.mv rfl trivial rfl ?_
                  cases c94 : ((bt a0 x83) != 45)
                  · replace H := Gets.cf H c94
                    refine Dv.skip rfl ⟨_, _, rfl, rfl, .inl rfl⟩ ?_
                    refine Dv.skip rfl ⟨_, _, rfl, rfl, .inl rfl⟩ ?_
                    refine Dv.skip rfl ⟨_, _, rfl, rfl, .inl rfl⟩ ?_
                    refine Dv.skip rfl ⟨_, _, rfl, rfl, .inl rfl⟩ ?_
                    refine Dv.pickF rfl trivial rfl rfl ?_
                    refine .fin ?_
                    refine WP.cond rfl nofun (fun _ => ?_)
                    refine WP.skip ?_
                    refine WP.reg [(0, false), (1, false), (2, false)] (by kernel_rfl) ?_
                    refine Dv.mv rfl trivial rfl ?_
                    refine Dv.bin rfl trivial rfl rfl (fun _ => run_add) ?_
                    refine Dv.asg rfl trivial rfl ?_
                    refine .fin ?_
                    exact Back.mk j107 (w64 (x83 + 1)) (Nat.lt_succ_self _) H (weak_cons rfl (weak_cons rfl (weak_cons rfl (weak_cons rfl weak_nil)))) (List.Perm.refl _)
                  · replace H := Gets.ct H c94
                    refine Dv.mv rfl ⟨_, _, rfl, rfl, rfl⟩ rfl ?_
                    refine Dv.mv rfl ⟨_, _, rfl, rfl, rfl⟩ rfl ?_
                    obtain ⟨g95, H⟩ := Gets.grd H
                    refine Dv.ixs rfl ⟨_, _, rfl, rfl, rfl⟩ rfl rfl Try.underlying9 g95.1 g95.2 ?_
                    refine Dv.bin rfl ⟨_, _, rfl, rfl, rfl⟩ rfl rfl (fun _ => run_ne) ?_
                    refine Dv.pickT rfl trivial rfl rfl ?_
                    refine .fin ?_
                    refine WP.cond rfl (fun c96 => ?_) (fun c96 => ?_)
                    · replace H := Gets.ct H c96
                      refine WP.seq ?_
                      refine WP.reg [(0, false)] (by kernel_rfl) ?_
                      refine Dv.asg rfl trivial rfl ?_
                      refine .fin ?_
                      replace H := Gets.outr H
                      obtain rfl := Gets.out H
                      exact WP.retL (fun _ _ h => h) rfl () trivial (.cons (res_tmp rfl) .nil) rfl (st_sel (L := []) (F := F) [] 0 rfl rfl rfl)
                    · replace H := Gets.cf H c96
                      refine WP.skip ?_
                      refine WP.reg [(0, false), (1, false), (2, false)] (by kernel_rfl) ?_
                      refine Dv.mv rfl trivial rfl ?_
                      refine Dv.bin rfl trivial rfl rfl (fun _ => run_add) ?_
                      refine Dv.asg rfl trivial rfl ?_
                      refine .fin ?_
                      exact Back.mk j107 (w64 (x83 + 1)) (Nat.lt_succ_self _) H (weak_cons rfl (weak_cons rfl (weak_cons rfl (weak_cons rfl weak_nil)))) (List.Perm.refl _)
          · replace H := Gets.cf H c84
            refine WP.exit ?_
            replace H := Gets.out H
            exact Jn.mk (x83, decide (x83 < (a0.size : Int))) H (weak_cons rfl (weak_cons rfl (weak_cons rfl (weak_cons rfl (weak_cons rfl weak_nil))))) (List.Perm.refl _)
    · replace H := Gets.ct H c78
      refine Dv.skip rfl ⟨_, _, rfl, rfl, .inl rfl⟩ ?_
      refine Dv.skip rfl ⟨_, _, rfl, rfl, .inl rfl⟩ ?_
      refine Dv.skip rfl ⟨_, _, rfl, rfl, .inl rfl⟩ ?_
      refine Dv.pickT rfl trivial rfl rfl ?_
      refine .fin ?_
      refine WP.cond rfl (fun _ => ?_) nofun
      refine WP.seq ?_
      refine WP.reg [(0, false)] (by kernel_rfl) ?_
      refine Dv.asg rfl trivial rfl ?_
      refine .fin ?_
      obtain rfl := Gets.out H
      exact WP.retL (fun _ _ h => h) rfl () trivial (.cons (res_tmp rfl) .nil) rfl (st_sel (L := []) (F := F) [] 0 rfl rfl rfl)
  · replace H := Gets.ct H c76
    refine Dv.skip rfl ⟨_, _, rfl, rfl, .inl rfl⟩ ?_
    refine Dv.skip rfl ⟨_, _, rfl, rfl, .inl rfl⟩ ?_
    refine Dv.skip rfl ⟨_, _, rfl, rfl, .inl rfl⟩ ?_
    refine Dv.pickT rfl trivial rfl rfl ?_
    refine Dv.mv rfl trivial rfl ?_
    refine Dv.skip rfl ⟨_, _, rfl, rfl, .inl rfl⟩ ?_
    refine Dv.skip rfl ⟨_, _, rfl, rfl, .inl rfl⟩ ?_
    refine Dv.skip rfl ⟨_, _, rfl, rfl, .inl rfl⟩ ?_
    refine Dv.pickT rfl trivial rfl rfl ?_
    refine .fin ?_
    refine WP.cond rfl (fun _ => ?_) nofun
    refine WP.seq ?_
    refine WP.reg [(0, false)] (by kernel_rfl) ?_
    refine Dv.asg rfl trivial rfl ?_
    refine .fin ?_
    obtain rfl := Gets.out H
    exact WP.retL (fun _ _ h => h) rfl () trivial (.cons (res_tmp rfl) .nil) rfl (st_sel (L := []) (F := F) [] 0 rfl rfl rfl)
theorem concourseref01_Thread.c {k : Nat} {a0 : ByteArray} {r : Bool} (h : concourseref01_Thread.f k a0 = some r) : Pt Try.prog 46 [eq (.string a0)] (eq (.bool r)) := by
  unfold concourseref01_Thread.f at h
  refine (Tr.body Try.func46 (c := _) rfl Try.ntmps46 (Nat.le_of_ble_eq_true rfl) fun R0 F => ?_).pt
  replace h := Gets.of h
  have H := h
  clear h
  refine WP.seq ?_
  refine WP.reg [(0, false)] (by kernel_rfl) ?_
  refine Dv.asg rfl trivial rfl ?_
  refine .fin ?_
  refine WP.seq ?_
  refine WP.reg [(0, false), (1, false), (2, false)] (by kernel_rfl) ?_
  refine Dv.mv rfl trivial rfl ?_
  obtain ⟨t109, h110, H⟩ := Gets.call H
  refine Dv.call rfl trivial cal45 rfl (concourseref01_Event.c h110) ?_
  refine Dv.asg rfl trivial rfl ?_
  refine .fin ?_
  refine WP.seq ?_
  refine WP.reg [(0, false), (1, false), (2, false), (3, false), (4, false), (5, false), (6, false), (7, false), (8, false), (9, false)] (by kernel_rfl) ?_
  refine Dv.mv rfl trivial rfl ?_
  refine Dv.bin rfl trivial rfl rfl (fun _ => run_seq) ?_
  refine Dv.mv rfl trivial rfl ?_
  cases c111 : decide (a0 = (⟨#[]⟩ : ByteArray))
  · replace H := Gets.cf H c111
    refine Dv.mv rfl ⟨_, _, rfl, rfl, rfl⟩ rfl ?_
    refine Dv.bin rfl ⟨_, _, rfl, rfl, rfl⟩ rfl rfl (fun _ => run_seq) ?_
    refine Dv.pickF rfl trivial rfl rfl ?_
    refine Dv.mv rfl trivial rfl ?_
    cases c112 : decide (a0 = (⟨#[109, 97, 105, 110]⟩ : ByteArray))
    · replace H := Gets.cf H c112
      refine Dv.mv rfl ⟨_, _, rfl, rfl, rfl⟩ rfl ?_
      refine Dv.pickF rfl trivial rfl rfl ?_
      refine Dv.asg rfl trivial rfl ?_
      refine .fin ?_
      obtain rfl := Gets.out H
      exact WP.retL (fun _ _ h => h) rfl () trivial (.cons (res_tmp rfl) .nil) rfl (st_sel (L := []) (F := F) [] 0 rfl rfl rfl)
    · replace H := Gets.ct H c112
      refine Dv.skip rfl ⟨_, _, rfl, rfl, .inl rfl⟩ ?_
      refine Dv.pickT rfl trivial rfl rfl ?_
      refine Dv.asg rfl trivial rfl ?_
      refine .fin ?_
      obtain rfl := Gets.out H
      exact WP.retL (fun _ _ h => h) rfl () trivial (.cons (res_tmp rfl) .nil) rfl (st_sel (L := []) (F := F) [] 0 rfl rfl rfl)
  · replace H := Gets.ct H c111
    refine Dv.skip rfl ⟨_, _, rfl, rfl, .inl rfl⟩ ?_
    refine Dv.skip rfl ⟨_, _, rfl, rfl, .inl rfl⟩ ?_
    refine Dv.pickT rfl trivial rfl rfl ?_
    refine Dv.mv rfl trivial rfl ?_
    refine Dv.skip rfl ⟨_, _, rfl, rfl, .inl rfl⟩ ?_
    refine Dv.pickT rfl trivial rfl rfl ?_
    refine Dv.asg rfl trivial rfl ?_
    refine .fin ?_
    obtain rfl := Gets.out H
    exact WP.retL (fun _ _ h => h) rfl () trivial (.cons (res_tmp rfl) .nil) rfl (st_sel (L := []) (F := F) [] 0 rfl rfl rfl)
theorem concourseref03_Local.c {k : Nat} {a0 : Edu} {r : Bool} (h : concourseref03_Local.f k a0 = some r) : Pt Try.prog 28 [agg (Edu.enc a0)] (eq (.bool r)) := by
  unfold concourseref03_Local.f at h
  refine (Tr.body Try.func28 (c := _) rfl Try.ntmps28 (Nat.le_of_ble_eq_true rfl) fun R0 F => ?_).pt
  replace h := Gets.of h
  have H := h
  clear h
  refine WP.seq ?_
  refine WP.reg [(0, true), (1, false)] (by kernel_rfl) ?_
  refine Dv.box rfl trivial rfl (cells_agg (Edu.K.one _)) nofun (fun b113 => ?_)
  refine Dv.asg rfl trivial rfl ?_
  refine .fin ?_
  refine WP.seq ?_
  refine WP.reg [(0, false), (1, false), (2, false), (3, false)] (by kernel_rfl) ?_
  refine Dv.fab rfl trivial rfl Try.underlying24 rfl Try.underlying9 c9 (by decide) ?_
  refine Dv.ldb rfl trivial rfl Try.underlying9 rfl (mem_at 0 rfl) rfl ?_
  obtain ⟨t114, h115, H⟩ := Gets.call H
  refine Dv.call rfl trivial cal44 rfl (concourseref01_Named.c h115) ?_
  refine Dv.asg rfl trivial rfl ?_
  refine .fin ?_
  refine WP.seq ?_
  refine WP.reg [(0, false), (1, false), (2, false), (3, false)] (by kernel_rfl) ?_
  refine Dv.fab rfl trivial rfl Try.underlying24 rfl Try.underlying9 c9 (by decide) ?_
  refine Dv.ldb rfl trivial rfl Try.underlying9 rfl (mem_at 0 rfl) rfl ?_
  obtain ⟨t116, h117, H⟩ := Gets.call H
  refine Dv.call rfl trivial cal44 rfl (concourseref01_Named.c h117) ?_
  refine Dv.asg rfl trivial rfl ?_
  refine .fin ?_
  refine WP.seq ?_
  refine WP.reg [(0, false), (1, false), (2, false), (3, false)] (by kernel_rfl) ?_
  refine Dv.fab rfl trivial rfl Try.underlying24 rfl Try.underlying9 c9 (by decide) ?_
  refine Dv.ldb rfl trivial rfl Try.underlying9 rfl (mem_at 0 rfl) rfl ?_
  obtain ⟨t118, h119, H⟩ := Gets.call H
  refine Dv.call rfl trivial cal45 rfl (concourseref01_Event.c h119) ?_
  refine Dv.asg rfl trivial rfl ?_
  refine .fin ?_
  refine WP.seq ?_
  refine WP.reg [(0, false), (1, false), (2, false), (3, false)] (by kernel_rfl) ?_
  refine Dv.fab rfl trivial rfl Try.underlying24 rfl Try.underlying9 c9 (by decide) ?_
  refine Dv.ldb rfl trivial rfl Try.underlying9 rfl (mem_at 0 rfl) rfl ?_
  obtain ⟨t120, h121, H⟩ := Gets.call H
  refine Dv.call rfl trivial cal46 rfl (concourseref01_Thread.c h121) ?_
  refine Dv.asg rfl trivial rfl ?_
  refine .fin ?_
  refine WP.seq ?_
  refine WP.seq ?_
  refine WP.reg [(0, false), (1, false), (2, false), (3, false), (4, false), (5, false), (6, false), (7, false), (8, false), (9, false), (10, false), (11, false), (12, false), (13, false), (14, false), (15, false), (16, false), (17, false), (18, false), (19, false), (20, false), (21, false)] (by kernel_rfl) ?_
  refine Dv.mv rfl trivial rfl ?_
  refine Dv.un rfl trivial rfl (fun _ => run_not _) ?_
  refine Dv.mv rfl trivial rfl ?_
  cases c122 : !t114
  · replace H := Gets.cf H c122
    refine Dv.fab rfl ⟨_, _, rfl, rfl, rfl⟩ rfl Try.underlying24 rfl Try.underlying3 c3 (by decide) ?_
    refine Dv.ldb rfl ⟨_, _, rfl, rfl, rfl⟩ rfl Try.underlying3 rfl (mem_at 0 rfl) rfl ?_
    refine Dv.bin rfl ⟨_, _, rfl, rfl, rfl⟩ rfl rfl (fun _ => run_lt) ?_
    refine Dv.pickF rfl trivial rfl rfl ?_
    refine Dv.mv rfl trivial rfl ?_
    cases c124 : decide (a0.fTick < 0)
    · replace H := Gets.cf H c124
      refine Dv.fab rfl ⟨_, _, rfl, rfl, rfl⟩ rfl Try.underlying24 rfl Try.underlying3 c3 (by decide) ?_
      refine Dv.ldb rfl ⟨_, _, rfl, rfl, rfl⟩ rfl Try.underlying3 rfl (mem_at 0 rfl) rfl ?_
      refine Dv.bin rfl ⟨_, _, rfl, rfl, rfl⟩ rfl rfl (fun _ => run_gt) ?_
      refine Dv.pickF rfl trivial rfl rfl ?_
      refine Dv.mv rfl trivial rfl ?_
      cases c126 : decide (1099511627776 < a0.fTick)
      · replace H := Gets.cf H c126
        refine Dv.fab rfl ⟨_, _, rfl, rfl, rfl⟩ rfl Try.underlying24 rfl Try.underlying3 c3 (by decide) ?_
        refine Dv.ldb rfl ⟨_, _, rfl, rfl, rfl⟩ rfl Try.underlying3 rfl (mem_at 0 rfl) rfl ?_
        refine Dv.bin rfl ⟨_, _, rfl, rfl, rfl⟩ rfl rfl (fun _ => run_lt) ?_
        refine Dv.pickF rfl trivial rfl rfl ?_
        refine Dv.mv rfl trivial rfl ?_
        cases c128 : decide (a0.fStamp < 0)
        · replace H := Gets.cf H c128
          refine Dv.fab rfl ⟨_, _, rfl, rfl, rfl⟩ rfl Try.underlying24 rfl Try.underlying3 c3 (by decide) ?_
          refine Dv.ldb rfl ⟨_, _, rfl, rfl, rfl⟩ rfl Try.underlying3 rfl (mem_at 0 rfl) rfl ?_
          refine Dv.bin rfl ⟨_, _, rfl, rfl, rfl⟩ rfl rfl (fun _ => run_gt) ?_
          refine Dv.pickF rfl trivial rfl rfl ?_
          refine .fin ?_
          refine WP.cond rfl (fun c130 => ?_) (fun c130 => ?_)
          · replace H := Gets.ct H c130
            refine WP.seq ?_
            refine WP.reg [(0, false)] (by kernel_rfl) ?_
            refine Dv.asg rfl trivial rfl ?_
            refine .fin ?_
            obtain rfl := Gets.out H
            exact WP.retL (fun _ _ h => h) rfl () trivial (.cons (res_tmp rfl) .nil) rfl (st_sel (L := [blk b113 24 [eq (.int .i64 a0.fKind), eq (.string a0.fRoom), eq (.string a0.fUser), eq (.string a0.fEvent), eq (.string a0.fThread), eq (.bool a0.fPrivate), eq (.bool a0.fOn), eq (.int .i64 a0.fSpan), eq (.int .i64 a0.fState), eq (.int .i64 a0.fTick), eq (.int .i64 a0.fStamp)]]) (F := F) [0] 1 rfl rfl rfl)
          · replace H := Gets.cf H c130
            refine WP.skip ?_
            refine WP.seq ?_
            refine WP.seq ?_
            refine WP.reg [(0, false), (1, false)] (by kernel_rfl) ?_
            refine Dv.fab rfl trivial rfl Try.underlying24 rfl Try.underlying3 c3 (by decide) ?_
            refine Dv.ldb rfl trivial rfl Try.underlying3 rfl (mem_at 0 rfl) rfl ?_
            refine .fin ?_
            refine WP.block ?_
            refine WP.seq ?_
            refine WP.reg [(0, false), (1, false)] (by kernel_rfl) ?_
            refine Dv.bin rfl trivial rfl rfl (fun _ => run_eq) ?_
            refine Dv.asg rfl trivial rfl ?_
            refine .fin ?_
            refine WP.cond rfl (fun c131 => ?_) (fun c131 => ?_)
            · replace H := Gets.ct H c131
              refine WP.seq ?_
              refine WP.reg [(0, false), (1, false), (2, false), (3, false), (4, false), (5, false), (6, false), (7, false), (8, false), (9, false), (10, false), (11, false), (12, false), (13, false), (14, false), (15, false), (16, false), (17, false), (18, false), (19, false), (20, false), (21, false), (22, false)] (by kernel_rfl) ?_
              refine Dv.mv rfl trivial rfl ?_
              refine Dv.mv rfl trivial rfl ?_
              cases c132 : t116
              · replace H := Gets.cf H c132
                refine Dv.skip rfl ⟨_, _, rfl, rfl, .inl rfl⟩ ?_
                refine Dv.pickF rfl trivial rfl rfl ?_
                refine Dv.mv rfl trivial rfl ?_
                refine Dv.skip rfl ⟨_, _, rfl, rfl, .inl rfl⟩ ?_
                refine Dv.pickF rfl trivial rfl rfl ?_
                refine Dv.mv rfl trivial rfl ?_
                refine Dv.skip rfl ⟨_, _, rfl, rfl, .inl rfl⟩ ?_
                refine Dv.skip rfl ⟨_, _, rfl, rfl, .inl rfl⟩ ?_
                refine Dv.skip rfl ⟨_, _, rfl, rfl, .inl rfl⟩ ?_
                refine Dv.pickF rfl trivial rfl rfl ?_
                refine Dv.mv rfl trivial rfl ?_
                refine Dv.skip rfl ⟨_, _, rfl, rfl, .inl rfl⟩ ?_
                refine Dv.skip rfl ⟨_, _, rfl, rfl, .inl rfl⟩ ?_
                refine Dv.skip rfl ⟨_, _, rfl, rfl, .inl rfl⟩ ?_
                refine Dv.pickF rfl trivial rfl rfl ?_
                refine Dv.mv rfl trivial rfl ?_
                refine Dv.skip rfl ⟨_, _, rfl, rfl, .inl rfl⟩ ?_
                refine Dv.skip rfl ⟨_, _, rfl, rfl, .inl rfl⟩ ?_
                refine Dv.skip rfl ⟨_, _, rfl, rfl, .inl rfl⟩ ?_
                refine Dv.pickF rfl trivial rfl rfl ?_
                refine Dv.asg rfl trivial rfl ?_
                refine .fin ?_
                obtain rfl := Gets.out H
                exact WP.retL (fun _ _ h => h) rfl () trivial (.cons (res_tmp rfl) .nil) rfl (st_sel (L := [blk b113 24 [eq (.int .i64 a0.fKind), eq (.string a0.fRoom), eq (.string a0.fUser), eq (.string a0.fEvent), eq (.string a0.fThread), eq (.bool a0.fPrivate), eq (.bool a0.fOn), eq (.int .i64 a0.fSpan), eq (.int .i64 a0.fState), eq (.int .i64 a0.fTick), eq (.int .i64 a0.fStamp)]]) (F := F) [0] 1 rfl rfl rfl)
              · replace H := Gets.ct H c132
                refine Dv.mv rfl ⟨_, _, rfl, rfl, rfl⟩ rfl ?_
                refine Dv.pickT rfl trivial rfl rfl ?_
                refine Dv.mv rfl trivial rfl ?_
                cases c133 : t118
                · replace H := Gets.cf H c133
                  refine Dv.skip rfl ⟨_, _, rfl, rfl, .inl rfl⟩ ?_
                  refine Dv.pickF rfl trivial rfl rfl ?_
                  refine Dv.mv rfl trivial rfl ?_
                  refine Dv.skip rfl ⟨_, _, rfl, rfl, .inl rfl⟩ ?_
                  refine Dv.skip rfl ⟨_, _, rfl, rfl, .inl rfl⟩ ?_
                  refine Dv.skip rfl ⟨_, _, rfl, rfl, .inl rfl⟩ ?_
                  refine Dv.pickF rfl trivial rfl rfl ?_
                  refine Dv.mv rfl trivial rfl ?_
                  refine Dv.skip rfl ⟨_, _, rfl, rfl, .inl rfl⟩ ?_
                  refine Dv.skip rfl ⟨_, _, rfl, rfl, .inl rfl⟩ ?_
                  refine Dv.skip rfl ⟨_, _, rfl, rfl, .inl rfl⟩ ?_
                  refine Dv.pickF rfl trivial rfl rfl ?_
                  refine Dv.mv rfl trivial rfl ?_
                  refine Dv.skip rfl ⟨_, _, rfl, rfl, .inl rfl⟩ ?_
                  refine Dv.skip rfl ⟨_, _, rfl, rfl, .inl rfl⟩ ?_
                  refine Dv.skip rfl ⟨_, _, rfl, rfl, .inl rfl⟩ ?_
                  refine Dv.pickF rfl trivial rfl rfl ?_
                  refine Dv.asg rfl trivial rfl ?_
                  refine .fin ?_
                  obtain rfl := Gets.out H
                  exact WP.retL (fun _ _ h => h) rfl () trivial (.cons (res_tmp rfl) .nil) rfl (st_sel (L := [blk b113 24 [eq (.int .i64 a0.fKind), eq (.string a0.fRoom), eq (.string a0.fUser), eq (.string a0.fEvent), eq (.string a0.fThread), eq (.bool a0.fPrivate), eq (.bool a0.fOn), eq (.int .i64 a0.fSpan), eq (.int .i64 a0.fState), eq (.int .i64 a0.fTick), eq (.int .i64 a0.fStamp)]]) (F := F) [0] 1 rfl rfl rfl)
                · replace H := Gets.ct H c133
                  refine Dv.mv rfl ⟨_, _, rfl, rfl, rfl⟩ rfl ?_
                  refine Dv.pickT rfl trivial rfl rfl ?_
                  refine Dv.mv rfl trivial rfl ?_
                  cases c134 : t120
                  · replace H := Gets.cf H c134
                    refine Dv.skip rfl ⟨_, _, rfl, rfl, .inl rfl⟩ ?_
                    refine Dv.skip rfl ⟨_, _, rfl, rfl, .inl rfl⟩ ?_
                    refine Dv.skip rfl ⟨_, _, rfl, rfl, .inl rfl⟩ ?_
                    refine Dv.pickF rfl trivial rfl rfl ?_
                    refine Dv.mv rfl trivial rfl ?_
                    refine Dv.skip rfl ⟨_, _, rfl, rfl, .inl rfl⟩ ?_
                    refine Dv.skip rfl ⟨_, _, rfl, rfl, .inl rfl⟩ ?_
                    refine Dv.skip rfl ⟨_, _, rfl, rfl, .inl rfl⟩ ?_
                    refine Dv.pickF rfl trivial rfl rfl ?_
                    refine Dv.mv rfl trivial rfl ?_
                    refine Dv.skip rfl ⟨_, _, rfl, rfl, .inl rfl⟩ ?_
                    refine Dv.skip rfl ⟨_, _, rfl, rfl, .inl rfl⟩ ?_
                    refine Dv.skip rfl ⟨_, _, rfl, rfl, .inl rfl⟩ ?_
                    refine Dv.pickF rfl trivial rfl rfl ?_
                    refine Dv.asg rfl trivial rfl ?_
                    refine .fin ?_
                    obtain rfl := Gets.out H
                    exact WP.retL (fun _ _ h => h) rfl () trivial (.cons (res_tmp rfl) .nil) rfl (st_sel (L := [blk b113 24 [eq (.int .i64 a0.fKind), eq (.string a0.fRoom), eq (.string a0.fUser), eq (.string a0.fEvent), eq (.string a0.fThread), eq (.bool a0.fPrivate), eq (.bool a0.fOn), eq (.int .i64 a0.fSpan), eq (.int .i64 a0.fState), eq (.int .i64 a0.fTick), eq (.int .i64 a0.fStamp)]]) (F := F) [0] 1 rfl rfl rfl)
                  · replace H := Gets.ct H c134
                    refine Dv.fab rfl ⟨_, _, rfl, rfl, rfl⟩ rfl Try.underlying24 rfl Try.underlying4 c4 (by decide) ?_
                    refine Dv.ldb rfl ⟨_, _, rfl, rfl, rfl⟩ rfl Try.underlying4 rfl (mem_at 0 rfl) rfl ?_
                    refine Dv.un rfl ⟨_, _, rfl, rfl, rfl⟩ rfl (fun _ => run_not _) ?_
                    refine Dv.pickT rfl trivial rfl rfl ?_
                    refine Dv.mv rfl trivial rfl ?_
                    cases c135 : !a0.fOn
                    · replace H := Gets.cf H c135
                      refine Dv.skip rfl ⟨_, _, rfl, rfl, .inl rfl⟩ ?_
                      refine Dv.skip rfl ⟨_, _, rfl, rfl, .inl rfl⟩ ?_
                      refine Dv.skip rfl ⟨_, _, rfl, rfl, .inl rfl⟩ ?_
                      refine Dv.pickF rfl trivial rfl rfl ?_
                      refine Dv.mv rfl trivial rfl ?_
                      refine Dv.skip rfl ⟨_, _, rfl, rfl, .inl rfl⟩ ?_
                      refine Dv.skip rfl ⟨_, _, rfl, rfl, .inl rfl⟩ ?_
                      refine Dv.skip rfl ⟨_, _, rfl, rfl, .inl rfl⟩ ?_
                      refine Dv.pickF rfl trivial rfl rfl ?_
                      refine Dv.asg rfl trivial rfl ?_
                      refine .fin ?_
                      obtain rfl := Gets.out H
                      exact WP.retL (fun _ _ h => h) rfl () trivial (.cons (res_tmp rfl) .nil) rfl (st_sel (L := [blk b113 24 [eq (.int .i64 a0.fKind), eq (.string a0.fRoom), eq (.string a0.fUser), eq (.string a0.fEvent), eq (.string a0.fThread), eq (.bool a0.fPrivate), eq (.bool a0.fOn), eq (.int .i64 a0.fSpan), eq (.int .i64 a0.fState), eq (.int .i64 a0.fTick), eq (.int .i64 a0.fStamp)]]) (F := F) [0] 1 rfl rfl rfl)
                    · replace H := Gets.ct H c135
                      refine Dv.fab rfl ⟨_, _, rfl, rfl, rfl⟩ rfl Try.underlying24 rfl Try.underlying3 c3 (by decide) ?_
                      refine Dv.ldb rfl ⟨_, _, rfl, rfl, rfl⟩ rfl Try.underlying3 rfl (mem_at 0 rfl) rfl ?_
                      refine Dv.bin rfl ⟨_, _, rfl, rfl, rfl⟩ rfl rfl (fun _ => run_eq) ?_
                      refine Dv.pickT rfl trivial rfl rfl ?_
                      refine Dv.mv rfl trivial rfl ?_
                      cases c136 : (a0.fSpan == 0)
                      · replace H := Gets.cf H c136
                        refine Dv.skip rfl ⟨_, _, rfl, rfl, .inl rfl⟩ ?_
                        refine Dv.skip rfl ⟨_, _, rfl, rfl, .inl rfl⟩ ?_
                        refine Dv.skip rfl ⟨_, _, rfl, rfl, .inl rfl⟩ ?_
                        refine Dv.pickF rfl trivial rfl rfl ?_
                        refine Dv.asg rfl trivial rfl ?_
                        refine .fin ?_
                        obtain rfl := Gets.out H
                        exact WP.retL (fun _ _ h => h) rfl () trivial (.cons (res_tmp rfl) .nil) rfl (st_sel (L := [blk b113 24 [eq (.int .i64 a0.fKind), eq (.string a0.fRoom), eq (.string a0.fUser), eq (.string a0.fEvent), eq (.string a0.fThread), eq (.bool a0.fPrivate), eq (.bool a0.fOn), eq (.int .i64 a0.fSpan), eq (.int .i64 a0.fState), eq (.int .i64 a0.fTick), eq (.int .i64 a0.fStamp)]]) (F := F) [0] 1 rfl rfl rfl)
                      · replace H := Gets.ct H c136
                        refine Dv.fab rfl ⟨_, _, rfl, rfl, rfl⟩ rfl Try.underlying24 rfl Try.underlying3 c3 (by decide) ?_
                        refine Dv.ldb rfl ⟨_, _, rfl, rfl, rfl⟩ rfl Try.underlying3 rfl (mem_at 0 rfl) rfl ?_
                        refine Dv.bin rfl ⟨_, _, rfl, rfl, rfl⟩ rfl rfl (fun _ => run_eq) ?_
                        refine Dv.pickT rfl trivial rfl rfl ?_
                        refine Dv.asg rfl trivial rfl ?_
                        refine .fin ?_
                        obtain rfl := Gets.out H
                        exact WP.retL (fun _ _ h => h) rfl () trivial (.cons (res_tmp rfl) .nil) rfl (st_sel (L := [blk b113 24 [eq (.int .i64 a0.fKind), eq (.string a0.fRoom), eq (.string a0.fUser), eq (.string a0.fEvent), eq (.string a0.fThread), eq (.bool a0.fPrivate), eq (.bool a0.fOn), eq (.int .i64 a0.fSpan), eq (.int .i64 a0.fState), eq (.int .i64 a0.fTick), eq (.int .i64 a0.fStamp)]]) (F := F) [0] 1 rfl rfl rfl)
            · replace H := Gets.cf H c131
              refine WP.seq ?_
              refine WP.reg [(0, false), (1, false)] (by kernel_rfl) ?_
              refine Dv.bin rfl trivial rfl rfl (fun _ => run_eq) ?_
              refine Dv.asg rfl trivial rfl ?_
              refine .fin ?_
              refine WP.cond rfl (fun c137 => ?_) (fun c137 => ?_)
              · replace H := Gets.ct H c137
                refine WP.seq ?_
                refine WP.reg [(0, false), (1, false), (2, false), (3, false), (4, false), (5, false), (6, false), (7, false), (8, false), (9, false), (10, false), (11, false), (12, false), (13, false), (14, false), (15, false), (16, false), (17, false), (18, false), (19, false), (20, false), (21, false), (22, false)] (by kernel_rfl) ?_
                refine Dv.fab rfl trivial rfl Try.underlying24 rfl Try.underlying4 c4 (by decide) ?_
                refine Dv.ldb rfl trivial rfl Try.underlying4 rfl (mem_at 0 rfl) rfl ?_
                refine Dv.mv rfl trivial rfl ?_
                cases c138 : a0.fOn
                · replace H := Gets.cf H c138
                  refine Dv.skip rfl ⟨_, _, rfl, rfl, .inl rfl⟩ ?_
                  refine Dv.skip rfl ⟨_, _, rfl, rfl, .inl rfl⟩ ?_
                  refine Dv.skip rfl ⟨_, _, rfl, rfl, .inl rfl⟩ ?_
                  refine Dv.pickF rfl trivial rfl rfl ?_
                  refine Dv.mv rfl trivial rfl ?_
                  refine Dv.skip rfl ⟨_, _, rfl, rfl, .inl rfl⟩ ?_
                  refine Dv.skip rfl ⟨_, _, rfl, rfl, .inl rfl⟩ ?_
                  refine Dv.skip rfl ⟨_, _, rfl, rfl, .inl rfl⟩ ?_
                  refine Dv.pickF rfl trivial rfl rfl ?_
                  refine Dv.mv rfl trivial rfl ?_
                  refine Dv.fab rfl ⟨_, _, rfl, rfl, rfl⟩ rfl Try.underlying24 rfl Try.underlying4 c4 (by decide) ?_
                  refine Dv.ldb rfl ⟨_, _, rfl, rfl, rfl⟩ rfl Try.underlying4 rfl (mem_at 0 rfl) rfl ?_
                  refine Dv.un rfl ⟨_, _, rfl, rfl, rfl⟩ rfl (fun _ => run_not _) ?_
                  refine Dv.mv rfl ⟨_, _, rfl, rfl, rfl⟩ rfl ?_
                  cases c159 : !a0.fOn
                  · replace H := Gets.cf H c159
                    refine Dv.skip rfl ⟨_, _, rfl, rfl, .inl rfl⟩ ?_
                    refine Dv.skip rfl ⟨_, _, rfl, rfl, .inl rfl⟩ ?_
                    refine Dv.skip rfl ⟨_, _, rfl, rfl, .inl rfl⟩ ?_
                    refine Dv.pickF rfl ⟨_, _, rfl, rfl, rfl⟩ rfl rfl ?_
                    refine Dv.pickF rfl trivial rfl rfl ?_
                    refine Dv.asg rfl trivial rfl ?_
                    refine .fin ?_
                    refine WP.seq ?_
                    refine WP.reg [(0, false), (1, false), (2, false), (3, false), (4, false), (5, false), (6, false), (7, false), (8, false), (9, false), (10, false), (11, false), (12, false), (13, false), (14, false), (15, false), (16, false), (17, false), (18, false), (19, false), (20, false), (21, false), (22, false), (23, false), (24, false)] (by kernel_rfl) ?_
                    refine Dv.mv rfl trivial rfl ?_
                    refine Dv.mv rfl trivial rfl ?_
                    cases c165 : t116
                    · replace H := Gets.cf H c165
                      refine Dv.skip rfl ⟨_, _, rfl, rfl, .inl rfl⟩ ?_
                      refine Dv.pickF rfl trivial rfl rfl ?_
                      refine Dv.mv rfl trivial rfl ?_
                      refine Dv.skip rfl ⟨_, _, rfl, rfl, .inl rfl⟩ ?_
                      refine Dv.skip rfl ⟨_, _, rfl, rfl, .inl rfl⟩ ?_
                      refine Dv.skip rfl ⟨_, _, rfl, rfl, .inl rfl⟩ ?_
                      refine Dv.pickF rfl trivial rfl rfl ?_
                      refine Dv.mv rfl trivial rfl ?_
                      refine Dv.skip rfl ⟨_, _, rfl, rfl, .inl rfl⟩ ?_
                      refine Dv.skip rfl ⟨_, _, rfl, rfl, .inl rfl⟩ ?_
                      refine Dv.skip rfl ⟨_, _, rfl, rfl, .inl rfl⟩ ?_
                      refine Dv.pickF rfl trivial rfl rfl ?_
                      refine Dv.mv rfl trivial rfl ?_
                      refine Dv.skip rfl ⟨_, _, rfl, rfl, .inl rfl⟩ ?_
                      refine Dv.skip rfl ⟨_, _, rfl, rfl, .inl rfl⟩ ?_
                      refine Dv.skip rfl ⟨_, _, rfl, rfl, .inl rfl⟩ ?_
                      refine Dv.pickF rfl trivial rfl rfl ?_
                      refine Dv.mv rfl trivial rfl ?_
                      refine Dv.skip rfl ⟨_, _, rfl, rfl, .inl rfl⟩ ?_
                      refine Dv.skip rfl ⟨_, _, rfl, rfl, .inl rfl⟩ ?_
                      refine Dv.skip rfl ⟨_, _, rfl, rfl, .inl rfl⟩ ?_
                      refine Dv.pickF rfl trivial rfl rfl ?_
                      refine Dv.asg rfl trivial rfl ?_
                      refine .fin ?_
                      obtain rfl := Gets.out H
                      exact WP.retL (fun _ _ h => h) rfl () trivial (.cons (res_tmp rfl) .nil) rfl (st_sel (L := [blk b113 24 [eq (.int .i64 a0.fKind), eq (.string a0.fRoom), eq (.string a0.fUser), eq (.string a0.fEvent), eq (.string a0.fThread), eq (.bool a0.fPrivate), eq (.bool a0.fOn), eq (.int .i64 a0.fSpan), eq (.int .i64 a0.fState), eq (.int .i64 a0.fTick), eq (.int .i64 a0.fStamp)]]) (F := F) [0] 1 rfl rfl rfl)
                    · replace H := Gets.ct H c165
                      refine Dv.mv rfl ⟨_, _, rfl, rfl, rfl⟩ rfl ?_
                      refine Dv.pickT rfl trivial rfl rfl ?_
                      refine Dv.mv rfl trivial rfl ?_
                      refine Dv.skip rfl ⟨_, _, rfl, rfl, .inl rfl⟩ ?_
                      refine Dv.skip rfl ⟨_, _, rfl, rfl, .inl rfl⟩ ?_
                      refine Dv.skip rfl ⟨_, _, rfl, rfl, .inl rfl⟩ ?_
                      refine Dv.pickF rfl trivial rfl rfl ?_
                      refine Dv.mv rfl trivial rfl ?_
                      refine Dv.skip rfl ⟨_, _, rfl, rfl, .inl rfl⟩ ?_
                      refine Dv.skip rfl ⟨_, _, rfl, rfl, .inl rfl⟩ ?_
                      refine Dv.skip rfl ⟨_, _, rfl, rfl, .inl rfl⟩ ?_
                      refine Dv.pickF rfl trivial rfl rfl ?_
                      refine Dv.mv rfl trivial rfl ?_
                      refine Dv.skip rfl ⟨_, _, rfl, rfl, .inl rfl⟩ ?_
                      refine Dv.skip rfl ⟨_, _, rfl, rfl, .inl rfl⟩ ?_
                      refine Dv.skip rfl ⟨_, _, rfl, rfl, .inl rfl⟩ ?_
                      refine Dv.pickF rfl trivial rfl rfl ?_
                      refine Dv.mv rfl trivial rfl ?_
                      refine Dv.skip rfl ⟨_, _, rfl, rfl, .inl rfl⟩ ?_
                      refine Dv.skip rfl ⟨_, _, rfl, rfl, .inl rfl⟩ ?_
                      refine Dv.skip rfl ⟨_, _, rfl, rfl, .inl rfl⟩ ?_
                      refine Dv.pickF rfl trivial rfl rfl ?_
                      refine Dv.asg rfl trivial rfl ?_
                      refine .fin ?_
                      obtain rfl := Gets.out H
                      exact WP.retL (fun _ _ h => h) rfl () trivial (.cons (res_tmp rfl) .nil) rfl (st_sel (L := [blk b113 24 [eq (.int .i64 a0.fKind), eq (.string a0.fRoom), eq (.string a0.fUser), eq (.string a0.fEvent), eq (.string a0.fThread), eq (.bool a0.fPrivate), eq (.bool a0.fOn), eq (.int .i64 a0.fSpan), eq (.int .i64 a0.fState), eq (.int .i64 a0.fTick), eq (.int .i64 a0.fStamp)]]) (F := F) [0] 1 rfl rfl rfl)
                  · replace H := Gets.ct H c159
                    refine Dv.fab rfl ⟨_, _, rfl, rfl, rfl⟩ rfl Try.underlying24 rfl Try.underlying3 c3 (by decide) ?_
                    refine Dv.ldb rfl ⟨_, _, rfl, rfl, rfl⟩ rfl Try.underlying3 rfl (mem_at 0 rfl) rfl ?_
                    refine Dv.bin rfl ⟨_, _, rfl, rfl, rfl⟩ rfl rfl (fun _ => run_eq) ?_
                    refine Dv.pickT rfl ⟨_, _, rfl, rfl, rfl⟩ rfl rfl ?_
                    refine Dv.pickF rfl trivial rfl rfl ?_
                    refine Dv.asg rfl trivial rfl ?_
                    refine .fin ?_
                    refine WP.seq ?_
                    refine WP.reg [(0, false), (1, false), (2, false), (3, false), (4, false), (5, false), (6, false), (7, false), (8, false), (9, false), (10, false), (11, false), (12, false), (13, false), (14, false), (15, false), (16, false), (17, false), (18, false), (19, false), (20, false), (21, false), (22, false), (23, false), (24, false)] (by kernel_rfl) ?_
                    refine Dv.mv rfl trivial rfl ?_
                    refine Dv.mv rfl trivial rfl ?_
                    cases c160 : t116
                    · replace H := Gets.cf H c160
                      refine Dv.skip rfl ⟨_, _, rfl, rfl, .inl rfl⟩ ?_
                      refine Dv.pickF rfl trivial rfl rfl ?_
                      refine Dv.mv rfl trivial rfl ?_
                      refine Dv.skip rfl ⟨_, _, rfl, rfl, .inl rfl⟩ ?_
                      refine Dv.skip rfl ⟨_, _, rfl, rfl, .inl rfl⟩ ?_
                      refine Dv.skip rfl ⟨_, _, rfl, rfl, .inl rfl⟩ ?_
                      refine Dv.pickF rfl trivial rfl rfl ?_
                      refine Dv.mv rfl trivial rfl ?_
                      refine Dv.skip rfl ⟨_, _, rfl, rfl, .inl rfl⟩ ?_
                      refine Dv.skip rfl ⟨_, _, rfl, rfl, .inl rfl⟩ ?_
                      refine Dv.skip rfl ⟨_, _, rfl, rfl, .inl rfl⟩ ?_
                      refine Dv.pickF rfl trivial rfl rfl ?_
                      refine Dv.mv rfl trivial rfl ?_
                      refine Dv.skip rfl ⟨_, _, rfl, rfl, .inl rfl⟩ ?_
                      refine Dv.skip rfl ⟨_, _, rfl, rfl, .inl rfl⟩ ?_
                      refine Dv.skip rfl ⟨_, _, rfl, rfl, .inl rfl⟩ ?_
                      refine Dv.pickF rfl trivial rfl rfl ?_
                      refine Dv.mv rfl trivial rfl ?_
                      refine Dv.skip rfl ⟨_, _, rfl, rfl, .inl rfl⟩ ?_
                      refine Dv.skip rfl ⟨_, _, rfl, rfl, .inl rfl⟩ ?_
                      refine Dv.skip rfl ⟨_, _, rfl, rfl, .inl rfl⟩ ?_
                      refine Dv.pickF rfl trivial rfl rfl ?_
                      refine Dv.asg rfl trivial rfl ?_
                      refine .fin ?_
                      obtain rfl := Gets.out H
                      exact WP.retL (fun _ _ h => h) rfl () trivial (.cons (res_tmp rfl) .nil) rfl (st_sel (L := [blk b113 24 [eq (.int .i64 a0.fKind), eq (.string a0.fRoom), eq (.string a0.fUser), eq (.string a0.fEvent), eq (.string a0.fThread), eq (.bool a0.fPrivate), eq (.bool a0.fOn), eq (.int .i64 a0.fSpan), eq (.int .i64 a0.fState), eq (.int .i64 a0.fTick), eq (.int .i64 a0.fStamp)]]) (F := F) [0] 1 rfl rfl rfl)
                    · replace H := Gets.ct H c160
                      refine Dv.mv rfl ⟨_, _, rfl, rfl, rfl⟩ rfl ?_
                      refine Dv.pickT rfl trivial rfl rfl ?_
                      refine Dv.mv rfl trivial rfl ?_
                      cases c161 : (a0.fSpan == 0)
                      · replace H := Gets.cf H c161
                        refine Dv.skip rfl ⟨_, _, rfl, rfl, .inl rfl⟩ ?_
                        refine Dv.skip rfl ⟨_, _, rfl, rfl, .inl rfl⟩ ?_
                        refine Dv.skip rfl ⟨_, _, rfl, rfl, .inl rfl⟩ ?_
                        refine Dv.pickF rfl trivial rfl rfl ?_
                        refine Dv.mv rfl trivial rfl ?_
                        refine Dv.skip rfl ⟨_, _, rfl, rfl, .inl rfl⟩ ?_
                        refine Dv.skip rfl ⟨_, _, rfl, rfl, .inl rfl⟩ ?_
                        refine Dv.skip rfl ⟨_, _, rfl, rfl, .inl rfl⟩ ?_
                        refine Dv.pickF rfl trivial rfl rfl ?_
                        refine Dv.mv rfl trivial rfl ?_
                        refine Dv.skip rfl ⟨_, _, rfl, rfl, .inl rfl⟩ ?_
                        refine Dv.skip rfl ⟨_, _, rfl, rfl, .inl rfl⟩ ?_
                        refine Dv.skip rfl ⟨_, _, rfl, rfl, .inl rfl⟩ ?_
                        refine Dv.pickF rfl trivial rfl rfl ?_
                        refine Dv.mv rfl trivial rfl ?_
                        refine Dv.skip rfl ⟨_, _, rfl, rfl, .inl rfl⟩ ?_
                        refine Dv.skip rfl ⟨_, _, rfl, rfl, .inl rfl⟩ ?_
                        refine Dv.skip rfl ⟨_, _, rfl, rfl, .inl rfl⟩ ?_
                        refine Dv.pickF rfl trivial rfl rfl ?_
                        refine Dv.asg rfl trivial rfl ?_
                        refine .fin ?_
                        obtain rfl := Gets.out H
                        exact WP.retL (fun _ _ h => h) rfl () trivial (.cons (res_tmp rfl) .nil) rfl (st_sel (L := [blk b113 24 [eq (.int .i64 a0.fKind), eq (.string a0.fRoom), eq (.string a0.fUser), eq (.string a0.fEvent), eq (.string a0.fThread), eq (.bool a0.fPrivate), eq (.bool a0.fOn), eq (.int .i64 a0.fSpan), eq (.int .i64 a0.fState), eq (.int .i64 a0.fTick), eq (.int .i64 a0.fStamp)]]) (F := F) [0] 1 rfl rfl rfl)
                      · replace H := Gets.ct H c161
                        refine Dv.fab rfl ⟨_, _, rfl, rfl, rfl⟩ rfl Try.underlying24 rfl Try.underlying9 c9 (by decide) ?_
                        refine Dv.ldb rfl ⟨_, _, rfl, rfl, rfl⟩ rfl Try.underlying9 rfl (mem_at 0 rfl) rfl ?_
                        refine Dv.bin rfl ⟨_, _, rfl, rfl, rfl⟩ rfl rfl (fun _ => run_seq) ?_
                        refine Dv.pickT rfl trivial rfl rfl ?_
                        refine Dv.mv rfl trivial rfl ?_
                        cases c162 : decide (a0.fEvent = (⟨#[]⟩ : ByteArray))
                        · replace H := Gets.cf H c162
                          refine Dv.skip rfl ⟨_, _, rfl, rfl, .inl rfl⟩ ?_
                          refine Dv.skip rfl ⟨_, _, rfl, rfl, .inl rfl⟩ ?_
                          refine Dv.skip rfl ⟨_, _, rfl, rfl, .inl rfl⟩ ?_
                          refine Dv.pickF rfl trivial rfl rfl ?_
                          refine Dv.mv rfl trivial rfl ?_
                          refine Dv.skip rfl ⟨_, _, rfl, rfl, .inl rfl⟩ ?_
                          refine Dv.skip rfl ⟨_, _, rfl, rfl, .inl rfl⟩ ?_
                          refine Dv.skip rfl ⟨_, _, rfl, rfl, .inl rfl⟩ ?_
                          refine Dv.pickF rfl trivial rfl rfl ?_
                          refine Dv.mv rfl trivial rfl ?_
                          refine Dv.skip rfl ⟨_, _, rfl, rfl, .inl rfl⟩ ?_
                          refine Dv.skip rfl ⟨_, _, rfl, rfl, .inl rfl⟩ ?_
                          refine Dv.skip rfl ⟨_, _, rfl, rfl, .inl rfl⟩ ?_
                          refine Dv.pickF rfl trivial rfl rfl ?_
                          refine Dv.asg rfl trivial rfl ?_
                          refine .fin ?_
                          obtain rfl := Gets.out H
                          exact WP.retL (fun _ _ h => h) rfl () trivial (.cons (res_tmp rfl) .nil) rfl (st_sel (L := [blk b113 24 [eq (.int .i64 a0.fKind), eq (.string a0.fRoom), eq (.string a0.fUser), eq (.string a0.fEvent), eq (.string a0.fThread), eq (.bool a0.fPrivate), eq (.bool a0.fOn), eq (.int .i64 a0.fSpan), eq (.int .i64 a0.fState), eq (.int .i64 a0.fTick), eq (.int .i64 a0.fStamp)]]) (F := F) [0] 1 rfl rfl rfl)
                        · replace H := Gets.ct H c162
                          refine Dv.fab rfl ⟨_, _, rfl, rfl, rfl⟩ rfl Try.underlying24 rfl Try.underlying9 c9 (by decide) ?_
                          refine Dv.ldb rfl ⟨_, _, rfl, rfl, rfl⟩ rfl Try.underlying9 rfl (mem_at 0 rfl) rfl ?_
                          refine Dv.bin rfl ⟨_, _, rfl, rfl, rfl⟩ rfl rfl (fun _ => run_seq) ?_
                          refine Dv.pickT rfl trivial rfl rfl ?_
                          refine Dv.mv rfl trivial rfl ?_
                          cases c163 : decide (a0.fThread = (⟨#[]⟩ : ByteArray))
                          · replace H := Gets.cf H c163
                            refine Dv.skip rfl ⟨_, _, rfl, rfl, .inl rfl⟩ ?_
                            refine Dv.skip rfl ⟨_, _, rfl, rfl, .inl rfl⟩ ?_
                            refine Dv.skip rfl ⟨_, _, rfl, rfl, .inl rfl⟩ ?_
                            refine Dv.pickF rfl trivial rfl rfl ?_
                            refine Dv.mv rfl trivial rfl ?_
                            refine Dv.skip rfl ⟨_, _, rfl, rfl, .inl rfl⟩ ?_
                            refine Dv.skip rfl ⟨_, _, rfl, rfl, .inl rfl⟩ ?_
                            refine Dv.skip rfl ⟨_, _, rfl, rfl, .inl rfl⟩ ?_
                            refine Dv.pickF rfl trivial rfl rfl ?_
                            refine Dv.asg rfl trivial rfl ?_
                            refine .fin ?_
                            obtain rfl := Gets.out H
                            exact WP.retL (fun _ _ h => h) rfl () trivial (.cons (res_tmp rfl) .nil) rfl (st_sel (L := [blk b113 24 [eq (.int .i64 a0.fKind), eq (.string a0.fRoom), eq (.string a0.fUser), eq (.string a0.fEvent), eq (.string a0.fThread), eq (.bool a0.fPrivate), eq (.bool a0.fOn), eq (.int .i64 a0.fSpan), eq (.int .i64 a0.fState), eq (.int .i64 a0.fTick), eq (.int .i64 a0.fStamp)]]) (F := F) [0] 1 rfl rfl rfl)
                          · replace H := Gets.ct H c163
                            refine Dv.fab rfl ⟨_, _, rfl, rfl, rfl⟩ rfl Try.underlying24 rfl Try.underlying3 c3 (by decide) ?_
                            refine Dv.ldb rfl ⟨_, _, rfl, rfl, rfl⟩ rfl Try.underlying3 rfl (mem_at 0 rfl) rfl ?_
                            refine Dv.bin rfl ⟨_, _, rfl, rfl, rfl⟩ rfl rfl (fun _ => run_eq) ?_
                            refine Dv.pickT rfl trivial rfl rfl ?_
                            refine Dv.mv rfl trivial rfl ?_
                            cases c164 : (a0.fState == 0)
                            · replace H := Gets.cf H c164
                              refine Dv.skip rfl ⟨_, _, rfl, rfl, .inl rfl⟩ ?_
                              refine Dv.skip rfl ⟨_, _, rfl, rfl, .inl rfl⟩ ?_
                              refine Dv.skip rfl ⟨_, _, rfl, rfl, .inl rfl⟩ ?_
                              refine Dv.pickF rfl trivial rfl rfl ?_
                              refine Dv.asg rfl trivial rfl ?_
                              refine .fin ?_
                              obtain rfl := Gets.out H
                              exact WP.retL (fun _ _ h => h) rfl () trivial (.cons (res_tmp rfl) .nil) rfl (st_sel (L := [blk b113 24 [eq (.int .i64 a0.fKind), eq (.string a0.fRoom), eq (.string a0.fUser), eq (.string a0.fEvent), eq (.string a0.fThread), eq (.bool a0.fPrivate), eq (.bool a0.fOn), eq (.int .i64 a0.fSpan), eq (.int .i64 a0.fState), eq (.int .i64 a0.fTick), eq (.int .i64 a0.fStamp)]]) (F := F) [0] 1 rfl rfl rfl)
                            · replace H := Gets.ct H c164
                              refine Dv.fab rfl ⟨_, _, rfl, rfl, rfl⟩ rfl Try.underlying24 rfl Try.underlying4 c4 (by decide) ?_
                              refine Dv.ldb rfl ⟨_, _, rfl, rfl, rfl⟩ rfl Try.underlying4 rfl (mem_at 0 rfl) rfl ?_
                              refine Dv.un rfl ⟨_, _, rfl, rfl, rfl⟩ rfl (fun _ => run_not _) ?_
                              refine Dv.pickT rfl trivial rfl rfl ?_
                              refine Dv.asg rfl trivial rfl ?_
                              refine .fin ?_
                              obtain rfl := Gets.out H
                              exact WP.retL (fun _ _ h => h) rfl () trivial (.cons (res_tmp rfl) .nil) rfl (st_sel (L := [blk b113 24 [eq (.int .i64 a0.fKind), eq (.string a0.fRoom), eq (.string a0.fUser), eq (.string a0.fEvent), eq (.string a0.fThread), eq (.bool a0.fPrivate), eq (.bool a0.fOn), eq (.int .i64 a0.fSpan), eq (.int .i64 a0.fState), eq (.int .i64 a0.fTick), eq (.int .i64 a0.fStamp)]]) (F := F) [0] 1 rfl rfl rfl)
                · replace H := Gets.ct H c138
                  refine Dv.fab rfl ⟨_, _, rfl, rfl, rfl⟩ rfl Try.underlying24 rfl Try.underlying3 c3 (by decide) ?_
                  refine Dv.ldb rfl ⟨_, _, rfl, rfl, rfl⟩ rfl Try.underlying3 rfl (mem_at 0 rfl) rfl ?_
                  refine Dv.bin rfl ⟨_, _, rfl, rfl, rfl⟩ rfl rfl (fun _ => run_ge) ?_
                  refine Dv.pickT rfl trivial rfl rfl ?_
                  refine Dv.mv rfl trivial rfl ?_
                  cases c139 : decide (1 ≤ a0.fSpan)
                  · replace H := Gets.cf H c139
                    refine Dv.skip rfl ⟨_, _, rfl, rfl, .inl rfl⟩ ?_
                    refine Dv.skip rfl ⟨_, _, rfl, rfl, .inl rfl⟩ ?_
                    refine Dv.skip rfl ⟨_, _, rfl, rfl, .inl rfl⟩ ?_
                    refine Dv.pickF rfl trivial rfl rfl ?_
                    refine Dv.mv rfl trivial rfl ?_
                    refine Dv.fab rfl ⟨_, _, rfl, rfl, rfl⟩ rfl Try.underlying24 rfl Try.underlying4 c4 (by decide) ?_
                    refine Dv.ldb rfl ⟨_, _, rfl, rfl, rfl⟩ rfl Try.underlying4 rfl (mem_at 0 rfl) rfl ?_
                    refine Dv.un rfl ⟨_, _, rfl, rfl, rfl⟩ rfl (fun _ => run_not _) ?_
                    refine Dv.mv rfl ⟨_, _, rfl, rfl, rfl⟩ rfl ?_
                    cases c152 : !a0.fOn
                    · replace H := Gets.cf H c152
                      refine Dv.skip rfl ⟨_, _, rfl, rfl, .inl rfl⟩ ?_
                      refine Dv.skip rfl ⟨_, _, rfl, rfl, .inl rfl⟩ ?_
                      refine Dv.skip rfl ⟨_, _, rfl, rfl, .inl rfl⟩ ?_
                      refine Dv.pickF rfl ⟨_, _, rfl, rfl, rfl⟩ rfl rfl ?_
                      refine Dv.pickF rfl trivial rfl rfl ?_
                      refine Dv.asg rfl trivial rfl ?_
                      refine .fin ?_
                      refine WP.seq ?_
                      refine WP.reg [(0, false), (1, false), (2, false), (3, false), (4, false), (5, false), (6, false), (7, false), (8, false), (9, false), (10, false), (11, false), (12, false), (13, false), (14, false), (15, false), (16, false), (17, false), (18, false), (19, false), (20, false), (21, false), (22, false), (23, false), (24, false)] (by kernel_rfl) ?_
                      refine Dv.mv rfl trivial rfl ?_
                      refine Dv.mv rfl trivial rfl ?_
                      cases c158 : t116
                      · replace H := Gets.cf H c158
                        refine Dv.skip rfl ⟨_, _, rfl, rfl, .inl rfl⟩ ?_
                        refine Dv.pickF rfl trivial rfl rfl ?_
                        refine Dv.mv rfl trivial rfl ?_
                        refine Dv.skip rfl ⟨_, _, rfl, rfl, .inl rfl⟩ ?_
                        refine Dv.skip rfl ⟨_, _, rfl, rfl, .inl rfl⟩ ?_
                        refine Dv.skip rfl ⟨_, _, rfl, rfl, .inl rfl⟩ ?_
                        refine Dv.pickF rfl trivial rfl rfl ?_
                        refine Dv.mv rfl trivial rfl ?_
                        refine Dv.skip rfl ⟨_, _, rfl, rfl, .inl rfl⟩ ?_
                        refine Dv.skip rfl ⟨_, _, rfl, rfl, .inl rfl⟩ ?_
                        refine Dv.skip rfl ⟨_, _, rfl, rfl, .inl rfl⟩ ?_
                        refine Dv.pickF rfl trivial rfl rfl ?_
                        refine Dv.mv rfl trivial rfl ?_
                        refine Dv.skip rfl ⟨_, _, rfl, rfl, .inl rfl⟩ ?_
                        refine Dv.skip rfl ⟨_, _, rfl, rfl, .inl rfl⟩ ?_
                        refine Dv.skip rfl ⟨_, _, rfl, rfl, .inl rfl⟩ ?_
                        refine Dv.pickF rfl trivial rfl rfl ?_
                        refine Dv.mv rfl trivial rfl ?_
                        refine Dv.skip rfl ⟨_, _, rfl, rfl, .inl rfl⟩ ?_
                        refine Dv.skip rfl ⟨_, _, rfl, rfl, .inl rfl⟩ ?_
                        refine Dv.skip rfl ⟨_, _, rfl, rfl, .inl rfl⟩ ?_
                        refine Dv.pickF rfl trivial rfl rfl ?_
                        refine Dv.asg rfl trivial rfl ?_
                        refine .fin ?_
                        obtain rfl := Gets.out H
                        exact WP.retL (fun _ _ h => h) rfl () trivial (.cons (res_tmp rfl) .nil) rfl (st_sel (L := [blk b113 24 [eq (.int .i64 a0.fKind), eq (.string a0.fRoom), eq (.string a0.fUser), eq (.string a0.fEvent), eq (.string a0.fThread), eq (.bool a0.fPrivate), eq (.bool a0.fOn), eq (.int .i64 a0.fSpan), eq (.int .i64 a0.fState), eq (.int .i64 a0.fTick), eq (.int .i64 a0.fStamp)]]) (F := F) [0] 1 rfl rfl rfl)
                      · replace H := Gets.ct H c158
                        refine Dv.mv rfl ⟨_, _, rfl, rfl, rfl⟩ rfl ?_
                        refine Dv.pickT rfl trivial rfl rfl ?_
                        refine Dv.mv rfl trivial rfl ?_
                        refine Dv.skip rfl ⟨_, _, rfl, rfl, .inl rfl⟩ ?_
                        refine Dv.skip rfl ⟨_, _, rfl, rfl, .inl rfl⟩ ?_
                        refine Dv.skip rfl ⟨_, _, rfl, rfl, .inl rfl⟩ ?_
                        refine Dv.pickF rfl trivial rfl rfl ?_
                        refine Dv.mv rfl trivial rfl ?_
                        refine Dv.skip rfl ⟨_, _, rfl, rfl, .inl rfl⟩ ?_
                        refine Dv.skip rfl ⟨_, _, rfl, rfl, .inl rfl⟩ ?_
                        refine Dv.skip rfl ⟨_, _, rfl, rfl, .inl rfl⟩ ?_
                        refine Dv.pickF rfl trivial rfl rfl ?_
                        refine Dv.mv rfl trivial rfl ?_
                        refine Dv.skip rfl ⟨_, _, rfl, rfl, .inl rfl⟩ ?_
                        refine Dv.skip rfl ⟨_, _, rfl, rfl, .inl rfl⟩ ?_
                        refine Dv.skip rfl ⟨_, _, rfl, rfl, .inl rfl⟩ ?_
                        refine Dv.pickF rfl trivial rfl rfl ?_
                        refine Dv.mv rfl trivial rfl ?_
                        refine Dv.skip rfl ⟨_, _, rfl, rfl, .inl rfl⟩ ?_
                        refine Dv.skip rfl ⟨_, _, rfl, rfl, .inl rfl⟩ ?_
                        refine Dv.skip rfl ⟨_, _, rfl, rfl, .inl rfl⟩ ?_
                        refine Dv.pickF rfl trivial rfl rfl ?_
                        refine Dv.asg rfl trivial rfl ?_
                        refine .fin ?_
                        obtain rfl := Gets.out H
                        exact WP.retL (fun _ _ h => h) rfl () trivial (.cons (res_tmp rfl) .nil) rfl (st_sel (L := [blk b113 24 [eq (.int .i64 a0.fKind), eq (.string a0.fRoom), eq (.string a0.fUser), eq (.string a0.fEvent), eq (.string a0.fThread), eq (.bool a0.fPrivate), eq (.bool a0.fOn), eq (.int .i64 a0.fSpan), eq (.int .i64 a0.fState), eq (.int .i64 a0.fTick), eq (.int .i64 a0.fStamp)]]) (F := F) [0] 1 rfl rfl rfl)
                    · replace H := Gets.ct H c152
                      refine Dv.fab rfl ⟨_, _, rfl, rfl, rfl⟩ rfl Try.underlying24 rfl Try.underlying3 c3 (by decide) ?_
                      refine Dv.ldb rfl ⟨_, _, rfl, rfl, rfl⟩ rfl Try.underlying3 rfl (mem_at 0 rfl) rfl ?_
                      refine Dv.bin rfl ⟨_, _, rfl, rfl, rfl⟩ rfl rfl (fun _ => run_eq) ?_
                      refine Dv.pickT rfl ⟨_, _, rfl, rfl, rfl⟩ rfl rfl ?_
                      refine Dv.pickF rfl trivial rfl rfl ?_
                      refine Dv.asg rfl trivial rfl ?_
                      refine .fin ?_
                      refine WP.seq ?_
                      refine WP.reg [(0, false), (1, false), (2, false), (3, false), (4, false), (5, false), (6, false), (7, false), (8, false), (9, false), (10, false), (11, false), (12, false), (13, false), (14, false), (15, false), (16, false), (17, false), (18, false), (19, false), (20, false), (21, false), (22, false), (23, false), (24, false)] (by kernel_rfl) ?_
                      refine Dv.mv rfl trivial rfl ?_
                      refine Dv.mv rfl trivial rfl ?_
                      cases c153 : t116
                      · replace H := Gets.cf H c153
                        refine Dv.skip rfl ⟨_, _, rfl, rfl, .inl rfl⟩ ?_
                        refine Dv.pickF rfl trivial rfl rfl ?_
                        refine Dv.mv rfl trivial rfl ?_
                        refine Dv.skip rfl ⟨_, _, rfl, rfl, .inl rfl⟩ ?_
                        refine Dv.skip rfl ⟨_, _, rfl, rfl, .inl rfl⟩ ?_
                        refine Dv.skip rfl ⟨_, _, rfl, rfl, .inl rfl⟩ ?_
                        refine Dv.pickF rfl trivial rfl rfl ?_
                        refine Dv.mv rfl trivial rfl ?_
                        refine Dv.skip rfl ⟨_, _, rfl, rfl, .inl rfl⟩ ?_
                        refine Dv.skip rfl ⟨_, _, rfl, rfl, .inl rfl⟩ ?_
                        refine Dv.skip rfl ⟨_, _, rfl, rfl, .inl rfl⟩ ?_
                        refine Dv.pickF rfl trivial rfl rfl ?_
                        refine Dv.mv rfl trivial rfl ?_
                        refine Dv.skip rfl ⟨_, _, rfl, rfl, .inl rfl⟩ ?_
                        refine Dv.skip rfl ⟨_, _, rfl, rfl, .inl rfl⟩ ?_
                        refine Dv.skip rfl ⟨_, _, rfl, rfl, .inl rfl⟩ ?_
                        refine Dv.pickF rfl trivial rfl rfl ?_
                        refine Dv.mv rfl trivial rfl ?_
                        refine Dv.skip rfl ⟨_, _, rfl, rfl, .inl rfl⟩ ?_
                        refine Dv.skip rfl ⟨_, _, rfl, rfl, .inl rfl⟩ ?_
                        refine Dv.skip rfl ⟨_, _, rfl, rfl, .inl rfl⟩ ?_
                        refine Dv.pickF rfl trivial rfl rfl ?_
                        refine Dv.asg rfl trivial rfl ?_
                        refine .fin ?_
                        obtain rfl := Gets.out H
                        exact WP.retL (fun _ _ h => h) rfl () trivial (.cons (res_tmp rfl) .nil) rfl (st_sel (L := [blk b113 24 [eq (.int .i64 a0.fKind), eq (.string a0.fRoom), eq (.string a0.fUser), eq (.string a0.fEvent), eq (.string a0.fThread), eq (.bool a0.fPrivate), eq (.bool a0.fOn), eq (.int .i64 a0.fSpan), eq (.int .i64 a0.fState), eq (.int .i64 a0.fTick), eq (.int .i64 a0.fStamp)]]) (F := F) [0] 1 rfl rfl rfl)
                      · replace H := Gets.ct H c153
                        refine Dv.mv rfl ⟨_, _, rfl, rfl, rfl⟩ rfl ?_
                        refine Dv.pickT rfl trivial rfl rfl ?_
                        refine Dv.mv rfl trivial rfl ?_
                        cases c154 : (a0.fSpan == 0)
                        · replace H := Gets.cf H c154
                          refine Dv.skip rfl ⟨_, _, rfl, rfl, .inl rfl⟩ ?_
                          refine Dv.skip rfl ⟨_, _, rfl, rfl, .inl rfl⟩ ?_
                          refine Dv.skip rfl ⟨_, _, rfl, rfl, .inl rfl⟩ ?_
                          refine Dv.pickF rfl trivial rfl rfl ?_
                          refine Dv.mv rfl trivial rfl ?_
                          refine Dv.skip rfl ⟨_, _, rfl, rfl, .inl rfl⟩ ?_
                          refine Dv.skip rfl ⟨_, _, rfl, rfl, .inl rfl⟩ ?_
                          refine Dv.skip rfl ⟨_, _, rfl, rfl, .inl rfl⟩ ?_
                          refine Dv.pickF rfl trivial rfl rfl ?_
                          refine Dv.mv rfl trivial rfl ?_
                          refine Dv.skip rfl ⟨_, _, rfl, rfl, .inl rfl⟩ ?_
                          refine Dv.skip rfl ⟨_, _, rfl, rfl, .inl rfl⟩ ?_
                          refine Dv.skip rfl ⟨_, _, rfl, rfl, .inl rfl⟩ ?_
                          refine Dv.pickF rfl trivial rfl rfl ?_
                          refine Dv.mv rfl trivial rfl ?_
                          refine Dv.skip rfl ⟨_, _, rfl, rfl, .inl rfl⟩ ?_
                          refine Dv.skip rfl ⟨_, _, rfl, rfl, .inl rfl⟩ ?_
                          refine Dv.skip rfl ⟨_, _, rfl, rfl, .inl rfl⟩ ?_
                          refine Dv.pickF rfl trivial rfl rfl ?_
                          refine Dv.asg rfl trivial rfl ?_
                          refine .fin ?_
                          obtain rfl := Gets.out H
                          exact WP.retL (fun _ _ h => h) rfl () trivial (.cons (res_tmp rfl) .nil) rfl (st_sel (L := [blk b113 24 [eq (.int .i64 a0.fKind), eq (.string a0.fRoom), eq (.string a0.fUser), eq (.string a0.fEvent), eq (.string a0.fThread), eq (.bool a0.fPrivate), eq (.bool a0.fOn), eq (.int .i64 a0.fSpan), eq (.int .i64 a0.fState), eq (.int .i64 a0.fTick), eq (.int .i64 a0.fStamp)]]) (F := F) [0] 1 rfl rfl rfl)
                        · replace H := Gets.ct H c154
                          refine Dv.fab rfl ⟨_, _, rfl, rfl, rfl⟩ rfl Try.underlying24 rfl Try.underlying9 c9 (by decide) ?_
                          refine Dv.ldb rfl ⟨_, _, rfl, rfl, rfl⟩ rfl Try.underlying9 rfl (mem_at 0 rfl) rfl ?_
                          refine Dv.bin rfl ⟨_, _, rfl, rfl, rfl⟩ rfl rfl (fun _ => run_seq) ?_
                          refine Dv.pickT rfl trivial rfl rfl ?_
                          refine Dv.mv rfl trivial rfl ?_
                          cases c155 : decide (a0.fEvent = (⟨#[]⟩ : ByteArray))
                          · replace H := Gets.cf H c155
                            refine Dv.skip rfl ⟨_, _, rfl, rfl, .inl rfl⟩ ?_
                            refine Dv.skip rfl ⟨_, _, rfl, rfl, .inl rfl⟩ ?_
                            refine Dv.skip rfl ⟨_, _, rfl, rfl, .inl rfl⟩ ?_
                            refine Dv.pickF rfl trivial rfl rfl ?_
                            refine Dv.mv rfl trivial rfl ?_
                            refine Dv.skip rfl ⟨_, _, rfl, rfl, .inl rfl⟩ ?_
                            refine Dv.skip rfl ⟨_, _, rfl, rfl, .inl rfl⟩ ?_
                            refine Dv.skip rfl ⟨_, _, rfl, rfl, .inl rfl⟩ ?_
                            refine Dv.pickF rfl trivial rfl rfl ?_
                            refine Dv.mv rfl trivial rfl ?_
                            refine Dv.skip rfl ⟨_, _, rfl, rfl, .inl rfl⟩ ?_
                            refine Dv.skip rfl ⟨_, _, rfl, rfl, .inl rfl⟩ ?_
                            refine Dv.skip rfl ⟨_, _, rfl, rfl, .inl rfl⟩ ?_
                            refine Dv.pickF rfl trivial rfl rfl ?_
                            refine Dv.asg rfl trivial rfl ?_
                            refine .fin ?_
                            obtain rfl := Gets.out H
                            exact WP.retL (fun _ _ h => h) rfl () trivial (.cons (res_tmp rfl) .nil) rfl (st_sel (L := [blk b113 24 [eq (.int .i64 a0.fKind), eq (.string a0.fRoom), eq (.string a0.fUser), eq (.string a0.fEvent), eq (.string a0.fThread), eq (.bool a0.fPrivate), eq (.bool a0.fOn), eq (.int .i64 a0.fSpan), eq (.int .i64 a0.fState), eq (.int .i64 a0.fTick), eq (.int .i64 a0.fStamp)]]) (F := F) [0] 1 rfl rfl rfl)
                          · replace H := Gets.ct H c155
                            refine Dv.fab rfl ⟨_, _, rfl, rfl, rfl⟩ rfl Try.underlying24 rfl Try.underlying9 c9 (by decide) ?_
                            refine Dv.ldb rfl ⟨_, _, rfl, rfl, rfl⟩ rfl Try.underlying9 rfl (mem_at 0 rfl) rfl ?_
                            refine Dv.bin rfl ⟨_, _, rfl, rfl, rfl⟩ rfl rfl (fun _ => run_seq) ?_
                            refine Dv.pickT rfl trivial rfl rfl ?_
                            refine Dv.mv rfl trivial rfl ?_
                            cases c156 : decide (a0.fThread = (⟨#[]⟩ : ByteArray))
                            · replace H := Gets.cf H c156
                              refine Dv.skip rfl ⟨_, _, rfl, rfl, .inl rfl⟩ ?_
                              refine Dv.skip rfl ⟨_, _, rfl, rfl, .inl rfl⟩ ?_
                              refine Dv.skip rfl ⟨_, _, rfl, rfl, .inl rfl⟩ ?_
                              refine Dv.pickF rfl trivial rfl rfl ?_
                              refine Dv.mv rfl trivial rfl ?_
                              refine Dv.skip rfl ⟨_, _, rfl, rfl, .inl rfl⟩ ?_
                              refine Dv.skip rfl ⟨_, _, rfl, rfl, .inl rfl⟩ ?_
                              refine Dv.skip rfl ⟨_, _, rfl, rfl, .inl rfl⟩ ?_
                              refine Dv.pickF rfl trivial rfl rfl ?_
                              refine Dv.asg rfl trivial rfl ?_
                              refine .fin ?_
                              obtain rfl := Gets.out H
                              exact WP.retL (fun _ _ h => h) rfl () trivial (.cons (res_tmp rfl) .nil) rfl (st_sel (L := [blk b113 24 [eq (.int .i64 a0.fKind), eq (.string a0.fRoom), eq (.string a0.fUser), eq (.string a0.fEvent), eq (.string a0.fThread), eq (.bool a0.fPrivate), eq (.bool a0.fOn), eq (.int .i64 a0.fSpan), eq (.int .i64 a0.fState), eq (.int .i64 a0.fTick), eq (.int .i64 a0.fStamp)]]) (F := F) [0] 1 rfl rfl rfl)
                            · replace H := Gets.ct H c156
                              refine Dv.fab rfl ⟨_, _, rfl, rfl, rfl⟩ rfl Try.underlying24 rfl Try.underlying3 c3 (by decide) ?_
                              refine Dv.ldb rfl ⟨_, _, rfl, rfl, rfl⟩ rfl Try.underlying3 rfl (mem_at 0 rfl) rfl ?_
                              refine Dv.bin rfl ⟨_, _, rfl, rfl, rfl⟩ rfl rfl (fun _ => run_eq) ?_
                              refine Dv.pickT rfl trivial rfl rfl ?_
                              refine Dv.mv rfl trivial rfl ?_
                              cases c157 : (a0.fState == 0)
                              · replace H := Gets.cf H c157
                                refine Dv.skip rfl ⟨_, _, rfl, rfl, .inl rfl⟩ ?_
                                refine Dv.skip rfl ⟨_, _, rfl, rfl, .inl rfl⟩ ?_
                                refine Dv.skip rfl ⟨_, _, rfl, rfl, .inl rfl⟩ ?_
                                refine Dv.pickF rfl trivial rfl rfl ?_
                                refine Dv.asg rfl trivial rfl ?_
                                refine .fin ?_
                                obtain rfl := Gets.out H
                                exact WP.retL (fun _ _ h => h) rfl () trivial (.cons (res_tmp rfl) .nil) rfl (st_sel (L := [blk b113 24 [eq (.int .i64 a0.fKind), eq (.string a0.fRoom), eq (.string a0.fUser), eq (.string a0.fEvent), eq (.string a0.fThread), eq (.bool a0.fPrivate), eq (.bool a0.fOn), eq (.int .i64 a0.fSpan), eq (.int .i64 a0.fState), eq (.int .i64 a0.fTick), eq (.int .i64 a0.fStamp)]]) (F := F) [0] 1 rfl rfl rfl)
                              · replace H := Gets.ct H c157
                                refine Dv.fab rfl ⟨_, _, rfl, rfl, rfl⟩ rfl Try.underlying24 rfl Try.underlying4 c4 (by decide) ?_
                                refine Dv.ldb rfl ⟨_, _, rfl, rfl, rfl⟩ rfl Try.underlying4 rfl (mem_at 0 rfl) rfl ?_
                                refine Dv.un rfl ⟨_, _, rfl, rfl, rfl⟩ rfl (fun _ => run_not _) ?_
                                refine Dv.pickT rfl trivial rfl rfl ?_
                                refine Dv.asg rfl trivial rfl ?_
                                refine .fin ?_
                                obtain rfl := Gets.out H
                                exact WP.retL (fun _ _ h => h) rfl () trivial (.cons (res_tmp rfl) .nil) rfl (st_sel (L := [blk b113 24 [eq (.int .i64 a0.fKind), eq (.string a0.fRoom), eq (.string a0.fUser), eq (.string a0.fEvent), eq (.string a0.fThread), eq (.bool a0.fPrivate), eq (.bool a0.fOn), eq (.int .i64 a0.fSpan), eq (.int .i64 a0.fState), eq (.int .i64 a0.fTick), eq (.int .i64 a0.fStamp)]]) (F := F) [0] 1 rfl rfl rfl)
                  · replace H := Gets.ct H c139
                    refine Dv.fab rfl ⟨_, _, rfl, rfl, rfl⟩ rfl Try.underlying24 rfl Try.underlying3 c3 (by decide) ?_
                    refine Dv.ldb rfl ⟨_, _, rfl, rfl, rfl⟩ rfl Try.underlying3 rfl (mem_at 0 rfl) rfl ?_
                    refine Dv.bin rfl ⟨_, _, rfl, rfl, rfl⟩ rfl rfl (fun _ => run_le) ?_
                    refine Dv.pickT rfl trivial rfl rfl ?_
                    refine Dv.mv rfl trivial rfl ?_
                    cases c140 : decide (a0.fSpan ≤ 60)
                    · replace H := Gets.cf H c140
                      refine Dv.fab rfl ⟨_, _, rfl, rfl, rfl⟩ rfl Try.underlying24 rfl Try.underlying4 c4 (by decide) ?_
                      refine Dv.ldb rfl ⟨_, _, rfl, rfl, rfl⟩ rfl Try.underlying4 rfl (mem_at 0 rfl) rfl ?_
                      refine Dv.un rfl ⟨_, _, rfl, rfl, rfl⟩ rfl (fun _ => run_not _) ?_
                      refine Dv.mv rfl ⟨_, _, rfl, rfl, rfl⟩ rfl ?_
                      cases c145 : !a0.fOn
                      · replace H := Gets.cf H c145
                        refine Dv.skip rfl ⟨_, _, rfl, rfl, .inl rfl⟩ ?_
                        refine Dv.skip rfl ⟨_, _, rfl, rfl, .inl rfl⟩ ?_
                        refine Dv.skip rfl ⟨_, _, rfl, rfl, .inl rfl⟩ ?_
                        refine Dv.pickF rfl ⟨_, _, rfl, rfl, rfl⟩ rfl rfl ?_
                        refine Dv.pickF rfl trivial rfl rfl ?_
                        refine Dv.asg rfl trivial rfl ?_
                        refine .fin ?_
                        refine WP.seq ?_
                        refine WP.reg [(0, false), (1, false), (2, false), (3, false), (4, false), (5, false), (6, false), (7, false), (8, false), (9, false), (10, false), (11, false), (12, false), (13, false), (14, false), (15, false), (16, false), (17, false), (18, false), (19, false), (20, false), (21, false), (22, false), (23, false), (24, false)] (by kernel_rfl) ?_
                        refine Dv.mv rfl trivial rfl ?_
                        refine Dv.mv rfl trivial rfl ?_
                        cases c151 : t116
                        · replace H := Gets.cf H c151
                          refine Dv.skip rfl ⟨_, _, rfl, rfl, .inl rfl⟩ ?_
                          refine Dv.pickF rfl trivial rfl rfl ?_
                          refine Dv.mv rfl trivial rfl ?_
                          refine Dv.skip rfl ⟨_, _, rfl, rfl, .inl rfl⟩ ?_
                          refine Dv.skip rfl ⟨_, _, rfl, rfl, .inl rfl⟩ ?_
                          refine Dv.skip rfl ⟨_, _, rfl, rfl, .inl rfl⟩ ?_
                          refine Dv.pickF rfl trivial rfl rfl ?_
                          refine Dv.mv rfl trivial rfl ?_
                          refine Dv.skip rfl ⟨_, _, rfl, rfl, .inl rfl⟩ ?_
                          refine Dv.skip rfl ⟨_, _, rfl, rfl, .inl rfl⟩ ?_
                          refine Dv.skip rfl ⟨_, _, rfl, rfl, .inl rfl⟩ ?_
                          refine Dv.pickF rfl trivial rfl rfl ?_
                          refine Dv.mv rfl trivial rfl ?_
                          refine Dv.skip rfl ⟨_, _, rfl, rfl, .inl rfl⟩ ?_
                          refine Dv.skip rfl ⟨_, _, rfl, rfl, .inl rfl⟩ ?_
                          refine Dv.skip rfl ⟨_, _, rfl, rfl, .inl rfl⟩ ?_
                          refine Dv.pickF rfl trivial rfl rfl ?_
                          refine Dv.mv rfl trivial rfl ?_
                          refine Dv.skip rfl ⟨_, _, rfl, rfl, .inl rfl⟩ ?_
                          refine Dv.skip rfl ⟨_, _, rfl, rfl, .inl rfl⟩ ?_
                          refine Dv.skip rfl ⟨_, _, rfl, rfl, .inl rfl⟩ ?_
                          refine Dv.pickF rfl trivial rfl rfl ?_
                          refine Dv.asg rfl trivial rfl ?_
                          refine .fin ?_
                          obtain rfl := Gets.out H
                          exact WP.retL (fun _ _ h => h) rfl () trivial (.cons (res_tmp rfl) .nil) rfl (st_sel (L := [blk b113 24 [eq (.int .i64 a0.fKind), eq (.string a0.fRoom), eq (.string a0.fUser), eq (.string a0.fEvent), eq (.string a0.fThread), eq (.bool a0.fPrivate), eq (.bool a0.fOn), eq (.int .i64 a0.fSpan), eq (.int .i64 a0.fState), eq (.int .i64 a0.fTick), eq (.int .i64 a0.fStamp)]]) (F := F) [0] 1 rfl rfl rfl)
                        · replace H := Gets.ct H c151
                          refine Dv.mv rfl ⟨_, _, rfl, rfl, rfl⟩ rfl ?_
                          refine Dv.pickT rfl trivial rfl rfl ?_
                          refine Dv.mv rfl trivial rfl ?_
                          refine Dv.skip rfl ⟨_, _, rfl, rfl, .inl rfl⟩ ?_
                          refine Dv.skip rfl ⟨_, _, rfl, rfl, .inl rfl⟩ ?_
                          refine Dv.skip rfl ⟨_, _, rfl, rfl, .inl rfl⟩ ?_
                          refine Dv.pickF rfl trivial rfl rfl ?_
                          refine Dv.mv rfl trivial rfl ?_
                          refine Dv.skip rfl ⟨_, _, rfl, rfl, .inl rfl⟩ ?_
                          refine Dv.skip rfl ⟨_, _, rfl, rfl, .inl rfl⟩ ?_
                          refine Dv.skip rfl ⟨_, _, rfl, rfl, .inl rfl⟩ ?_
                          refine Dv.pickF rfl trivial rfl rfl ?_
                          refine Dv.mv rfl trivial rfl ?_
                          refine Dv.skip rfl ⟨_, _, rfl, rfl, .inl rfl⟩ ?_
                          refine Dv.skip rfl ⟨_, _, rfl, rfl, .inl rfl⟩ ?_
                          refine Dv.skip rfl ⟨_, _, rfl, rfl, .inl rfl⟩ ?_
                          refine Dv.pickF rfl trivial rfl rfl ?_
                          refine Dv.mv rfl trivial rfl ?_
                          refine Dv.skip rfl ⟨_, _, rfl, rfl, .inl rfl⟩ ?_
                          refine Dv.skip rfl ⟨_, _, rfl, rfl, .inl rfl⟩ ?_
                          refine Dv.skip rfl ⟨_, _, rfl, rfl, .inl rfl⟩ ?_
                          refine Dv.pickF rfl trivial rfl rfl ?_
                          refine Dv.asg rfl trivial rfl ?_
                          refine .fin ?_
                          obtain rfl := Gets.out H
                          exact WP.retL (fun _ _ h => h) rfl () trivial (.cons (res_tmp rfl) .nil) rfl (st_sel (L := [blk b113 24 [eq (.int .i64 a0.fKind), eq (.string a0.fRoom), eq (.string a0.fUser), eq (.string a0.fEvent), eq (.string a0.fThread), eq (.bool a0.fPrivate), eq (.bool a0.fOn), eq (.int .i64 a0.fSpan), eq (.int .i64 a0.fState), eq (.int .i64 a0.fTick), eq (.int .i64 a0.fStamp)]]) (F := F) [0] 1 rfl rfl rfl)
                      · replace H := Gets.ct H c145
                        refine Dv.fab rfl ⟨_, _, rfl, rfl, rfl⟩ rfl Try.underlying24 rfl Try.underlying3 c3 (by decide) ?_
                        refine Dv.ldb rfl ⟨_, _, rfl, rfl, rfl⟩ rfl Try.underlying3 rfl (mem_at 0 rfl) rfl ?_
                        refine Dv.bin rfl ⟨_, _, rfl, rfl, rfl⟩ rfl rfl (fun _ => run_eq) ?_
                        refine Dv.pickT rfl ⟨_, _, rfl, rfl, rfl⟩ rfl rfl ?_
                        refine Dv.pickF rfl trivial rfl rfl ?_
                        refine Dv.asg rfl trivial rfl ?_
                        refine .fin ?_
                        refine WP.seq ?_
                        refine WP.reg [(0, false), (1, false), (2, false), (3, false), (4, false), (5, false), (6, false), (7, false), (8, false), (9, false), (10, false), (11, false), (12, false), (13, false), (14, false), (15, false), (16, false), (17, false), (18, false), (19, false), (20, false), (21, false), (22, false), (23, false), (24, false)] (by kernel_rfl) ?_
                        refine Dv.mv rfl trivial rfl ?_
                        refine Dv.mv rfl trivial rfl ?_
                        cases c146 : t116
                        · replace H := Gets.cf H c146
                          refine Dv.skip rfl ⟨_, _, rfl, rfl, .inl rfl⟩ ?_
                          refine Dv.pickF rfl trivial rfl rfl ?_
                          refine Dv.mv rfl trivial rfl ?_
                          refine Dv.skip rfl ⟨_, _, rfl, rfl, .inl rfl⟩ ?_
                          refine Dv.skip rfl ⟨_, _, rfl, rfl, .inl rfl⟩ ?_
                          refine Dv.skip rfl ⟨_, _, rfl, rfl, .inl rfl⟩ ?_
                          refine Dv.pickF rfl trivial rfl rfl ?_
                          refine Dv.mv rfl trivial rfl ?_
                          refine Dv.skip rfl ⟨_, _, rfl, rfl, .inl rfl⟩ ?_
                          refine Dv.skip rfl ⟨_, _, rfl, rfl, .inl rfl⟩ ?_
                          refine Dv.skip rfl ⟨_, _, rfl, rfl, .inl rfl⟩ ?_
                          refine Dv.pickF rfl trivial rfl rfl ?_
                          refine Dv.mv rfl trivial rfl ?_
                          refine Dv.skip rfl ⟨_, _, rfl, rfl, .inl rfl⟩ ?_
                          refine Dv.skip rfl ⟨_, _, rfl, rfl, .inl rfl⟩ ?_
                          refine Dv.skip rfl ⟨_, _, rfl, rfl, .inl rfl⟩ ?_
                          refine Dv.pickF rfl trivial rfl rfl ?_
                          refine Dv.mv rfl trivial rfl ?_
                          refine Dv.skip rfl ⟨_, _, rfl, rfl, .inl rfl⟩ ?_
                          refine Dv.skip rfl ⟨_, _, rfl, rfl, .inl rfl⟩ ?_
                          refine Dv.skip rfl ⟨_, _, rfl, rfl, .inl rfl⟩ ?_
                          refine Dv.pickF rfl trivial rfl rfl ?_
                          refine Dv.asg rfl trivial rfl ?_
                          refine .fin ?_
                          obtain rfl := Gets.out H
                          exact WP.retL (fun _ _ h => h) rfl () trivial (.cons (res_tmp rfl) .nil) rfl (st_sel (L := [blk b113 24 [eq (.int .i64 a0.fKind), eq (.string a0.fRoom), eq (.string a0.fUser), eq (.string a0.fEvent), eq (.string a0.fThread), eq (.bool a0.fPrivate), eq (.bool a0.fOn), eq (.int .i64 a0.fSpan), eq (.int .i64 a0.fState), eq (.int .i64 a0.fTick), eq (.int .i64 a0.fStamp)]]) (F := F) [0] 1 rfl rfl rfl)
                        · replace H := Gets.ct H c146
                          refine Dv.mv rfl ⟨_, _, rfl, rfl, rfl⟩ rfl ?_
                          refine Dv.pickT rfl trivial rfl rfl ?_
                          refine Dv.mv rfl trivial rfl ?_
                          cases c147 : (a0.fSpan == 0)
                          · replace H := Gets.cf H c147
                            refine Dv.skip rfl ⟨_, _, rfl, rfl, .inl rfl⟩ ?_
                            refine Dv.skip rfl ⟨_, _, rfl, rfl, .inl rfl⟩ ?_
                            refine Dv.skip rfl ⟨_, _, rfl, rfl, .inl rfl⟩ ?_
                            refine Dv.pickF rfl trivial rfl rfl ?_
                            refine Dv.mv rfl trivial rfl ?_
                            refine Dv.skip rfl ⟨_, _, rfl, rfl, .inl rfl⟩ ?_
                            refine Dv.skip rfl ⟨_, _, rfl, rfl, .inl rfl⟩ ?_
                            refine Dv.skip rfl ⟨_, _, rfl, rfl, .inl rfl⟩ ?_
                            refine Dv.pickF rfl trivial rfl rfl ?_
                            refine Dv.mv rfl trivial rfl ?_
                            refine Dv.skip rfl ⟨_, _, rfl, rfl, .inl rfl⟩ ?_
                            refine Dv.skip rfl ⟨_, _, rfl, rfl, .inl rfl⟩ ?_
                            refine Dv.skip rfl ⟨_, _, rfl, rfl, .inl rfl⟩ ?_
                            refine Dv.pickF rfl trivial rfl rfl ?_
                            refine Dv.mv rfl trivial rfl ?_
                            refine Dv.skip rfl ⟨_, _, rfl, rfl, .inl rfl⟩ ?_
                            refine Dv.skip rfl ⟨_, _, rfl, rfl, .inl rfl⟩ ?_
                            refine Dv.skip rfl ⟨_, _, rfl, rfl, .inl rfl⟩ ?_
                            refine Dv.pickF rfl trivial rfl rfl ?_
                            refine Dv.asg rfl trivial rfl ?_
                            refine .fin ?_
                            obtain rfl := Gets.out H
                            exact WP.retL (fun _ _ h => h) rfl () trivial (.cons (res_tmp rfl) .nil) rfl (st_sel (L := [blk b113 24 [eq (.int .i64 a0.fKind), eq (.string a0.fRoom), eq (.string a0.fUser), eq (.string a0.fEvent), eq (.string a0.fThread), eq (.bool a0.fPrivate), eq (.bool a0.fOn), eq (.int .i64 a0.fSpan), eq (.int .i64 a0.fState), eq (.int .i64 a0.fTick), eq (.int .i64 a0.fStamp)]]) (F := F) [0] 1 rfl rfl rfl)
                          · replace H := Gets.ct H c147
                            refine Dv.fab rfl ⟨_, _, rfl, rfl, rfl⟩ rfl Try.underlying24 rfl Try.underlying9 c9 (by decide) ?_
                            refine Dv.ldb rfl ⟨_, _, rfl, rfl, rfl⟩ rfl Try.underlying9 rfl (mem_at 0 rfl) rfl ?_
                            refine Dv.bin rfl ⟨_, _, rfl, rfl, rfl⟩ rfl rfl (fun _ => run_seq) ?_
                            refine Dv.pickT rfl trivial rfl rfl ?_
                            refine Dv.mv rfl trivial rfl ?_
                            cases c148 : decide (a0.fEvent = (⟨#[]⟩ : ByteArray))
                            · replace H := Gets.cf H c148
                              refine Dv.skip rfl ⟨_, _, rfl, rfl, .inl rfl⟩ ?_
                              refine Dv.skip rfl ⟨_, _, rfl, rfl, .inl rfl⟩ ?_
                              refine Dv.skip rfl ⟨_, _, rfl, rfl, .inl rfl⟩ ?_
                              refine Dv.pickF rfl trivial rfl rfl ?_
                              refine Dv.mv rfl trivial rfl ?_
                              refine Dv.skip rfl ⟨_, _, rfl, rfl, .inl rfl⟩ ?_
                              refine Dv.skip rfl ⟨_, _, rfl, rfl, .inl rfl⟩ ?_
                              refine Dv.skip rfl ⟨_, _, rfl, rfl, .inl rfl⟩ ?_
                              refine Dv.pickF rfl trivial rfl rfl ?_
                              refine Dv.mv rfl trivial rfl ?_
                              refine Dv.skip rfl ⟨_, _, rfl, rfl, .inl rfl⟩ ?_
                              refine Dv.skip rfl ⟨_, _, rfl, rfl, .inl rfl⟩ ?_
                              refine Dv.skip rfl ⟨_, _, rfl, rfl, .inl rfl⟩ ?_
                              refine Dv.pickF rfl trivial rfl rfl ?_
                              refine Dv.asg rfl trivial rfl ?_
                              refine .fin ?_
                              obtain rfl := Gets.out H
                              exact WP.retL (fun _ _ h => h) rfl () trivial (.cons (res_tmp rfl) .nil) rfl (st_sel (L := [blk b113 24 [eq (.int .i64 a0.fKind), eq (.string a0.fRoom), eq (.string a0.fUser), eq (.string a0.fEvent), eq (.string a0.fThread), eq (.bool a0.fPrivate), eq (.bool a0.fOn), eq (.int .i64 a0.fSpan), eq (.int .i64 a0.fState), eq (.int .i64 a0.fTick), eq (.int .i64 a0.fStamp)]]) (F := F) [0] 1 rfl rfl rfl)
                            · replace H := Gets.ct H c148
                              refine Dv.fab rfl ⟨_, _, rfl, rfl, rfl⟩ rfl Try.underlying24 rfl Try.underlying9 c9 (by decide) ?_
                              refine Dv.ldb rfl ⟨_, _, rfl, rfl, rfl⟩ rfl Try.underlying9 rfl (mem_at 0 rfl) rfl ?_
                              refine Dv.bin rfl ⟨_, _, rfl, rfl, rfl⟩ rfl rfl (fun _ => run_seq) ?_
                              refine Dv.pickT rfl trivial rfl rfl ?_
                              refine Dv.mv rfl trivial rfl ?_
                              cases c149 : decide (a0.fThread = (⟨#[]⟩ : ByteArray))
                              · replace H := Gets.cf H c149
                                refine Dv.skip rfl ⟨_, _, rfl, rfl, .inl rfl⟩ ?_
                                refine Dv.skip rfl ⟨_, _, rfl, rfl, .inl rfl⟩ ?_
                                refine Dv.skip rfl ⟨_, _, rfl, rfl, .inl rfl⟩ ?_
                                refine Dv.pickF rfl trivial rfl rfl ?_
                                refine Dv.mv rfl trivial rfl ?_
                                refine Dv.skip rfl ⟨_, _, rfl, rfl, .inl rfl⟩ ?_
                                refine Dv.skip rfl ⟨_, _, rfl, rfl, .inl rfl⟩ ?_
                                refine Dv.skip rfl ⟨_, _, rfl, rfl, .inl rfl⟩ ?_
                                refine Dv.pickF rfl trivial rfl rfl ?_
                                refine Dv.asg rfl trivial rfl ?_
                                refine .fin ?_
                                obtain rfl := Gets.out H
                                exact WP.retL (fun _ _ h => h) rfl () trivial (.cons (res_tmp rfl) .nil) rfl (st_sel (L := [blk b113 24 [eq (.int .i64 a0.fKind), eq (.string a0.fRoom), eq (.string a0.fUser), eq (.string a0.fEvent), eq (.string a0.fThread), eq (.bool a0.fPrivate), eq (.bool a0.fOn), eq (.int .i64 a0.fSpan), eq (.int .i64 a0.fState), eq (.int .i64 a0.fTick), eq (.int .i64 a0.fStamp)]]) (F := F) [0] 1 rfl rfl rfl)
                              · replace H := Gets.ct H c149
                                refine Dv.fab rfl ⟨_, _, rfl, rfl, rfl⟩ rfl Try.underlying24 rfl Try.underlying3 c3 (by decide) ?_
                                refine Dv.ldb rfl ⟨_, _, rfl, rfl, rfl⟩ rfl Try.underlying3 rfl (mem_at 0 rfl) rfl ?_
                                refine Dv.bin rfl ⟨_, _, rfl, rfl, rfl⟩ rfl rfl (fun _ => run_eq) ?_
                                refine Dv.pickT rfl trivial rfl rfl ?_
                                refine Dv.mv rfl trivial rfl ?_
                                cases c150 : (a0.fState == 0)
                                · replace H := Gets.cf H c150
                                  refine Dv.skip rfl ⟨_, _, rfl, rfl, .inl rfl⟩ ?_
                                  refine Dv.skip rfl ⟨_, _, rfl, rfl, .inl rfl⟩ ?_
                                  refine Dv.skip rfl ⟨_, _, rfl, rfl, .inl rfl⟩ ?_
                                  refine Dv.pickF rfl trivial rfl rfl ?_
                                  refine Dv.asg rfl trivial rfl ?_
                                  refine .fin ?_
                                  obtain rfl := Gets.out H
                                  exact WP.retL (fun _ _ h => h) rfl () trivial (.cons (res_tmp rfl) .nil) rfl (st_sel (L := [blk b113 24 [eq (.int .i64 a0.fKind), eq (.string a0.fRoom), eq (.string a0.fUser), eq (.string a0.fEvent), eq (.string a0.fThread), eq (.bool a0.fPrivate), eq (.bool a0.fOn), eq (.int .i64 a0.fSpan), eq (.int .i64 a0.fState), eq (.int .i64 a0.fTick), eq (.int .i64 a0.fStamp)]]) (F := F) [0] 1 rfl rfl rfl)
                                · replace H := Gets.ct H c150
                                  refine Dv.fab rfl ⟨_, _, rfl, rfl, rfl⟩ rfl Try.underlying24 rfl Try.underlying4 c4 (by decide) ?_
                                  refine Dv.ldb rfl ⟨_, _, rfl, rfl, rfl⟩ rfl Try.underlying4 rfl (mem_at 0 rfl) rfl ?_
                                  refine Dv.un rfl ⟨_, _, rfl, rfl, rfl⟩ rfl (fun _ => run_not _) ?_
                                  refine Dv.pickT rfl trivial rfl rfl ?_
                                  refine Dv.asg rfl trivial rfl ?_
                                  refine .fin ?_
                                  obtain rfl := Gets.out H
                                  exact WP.retL (fun _ _ h => h) rfl () trivial (.cons (res_tmp rfl) .nil) rfl (st_sel (L := [blk b113 24 [eq (.int .i64 a0.fKind), eq (.string a0.fRoom), eq (.string a0.fUser), eq (.string a0.fEvent), eq (.string a0.fThread), eq (.bool a0.fPrivate), eq (.bool a0.fOn), eq (.int .i64 a0.fSpan), eq (.int .i64 a0.fState), eq (.int .i64 a0.fTick), eq (.int .i64 a0.fStamp)]]) (F := F) [0] 1 rfl rfl rfl)
                    · replace H := Gets.ct H c140
                      refine Dv.skip rfl ⟨_, _, rfl, rfl, .inl rfl⟩ ?_
                      refine Dv.skip rfl ⟨_, _, rfl, rfl, .inl rfl⟩ ?_
                      refine Dv.skip rfl ⟨_, _, rfl, rfl, .inl rfl⟩ ?_
                      refine Dv.skip rfl ⟨_, _, rfl, rfl, .inl rfl⟩ ?_
                      refine Dv.skip rfl ⟨_, _, rfl, rfl, .inr rfl⟩ ?_
                      refine Dv.skip rfl ⟨_, _, rfl, rfl, .inr rfl⟩ ?_
                      refine Dv.skip rfl ⟨_, _, rfl, rfl, .inr rfl⟩ ?_
                      refine Dv.skip rfl ⟨_, _, rfl, rfl, .inl rfl⟩ ?_
                      refine Dv.pickT rfl trivial rfl rfl ?_
                      refine Dv.asg rfl trivial rfl ?_
                      refine .fin ?_
                      refine WP.seq ?_
                      refine WP.reg [(0, false), (1, false), (2, false), (3, false), (4, false), (5, false), (6, false), (7, false), (8, false), (9, false), (10, false), (11, false), (12, false), (13, false), (14, false), (15, false), (16, false), (17, false), (18, false), (19, false), (20, false), (21, false), (22, false), (23, false), (24, false)] (by kernel_rfl) ?_
                      refine Dv.mv rfl trivial rfl ?_
                      refine Dv.mv rfl trivial rfl ?_
                      cases c141 : t116
                      · replace H := Gets.cf H c141
                        refine Dv.skip rfl ⟨_, _, rfl, rfl, .inl rfl⟩ ?_
                        refine Dv.pickF rfl trivial rfl rfl ?_
                        refine Dv.mv rfl trivial rfl ?_
                        refine Dv.skip rfl ⟨_, _, rfl, rfl, .inl rfl⟩ ?_
                        refine Dv.skip rfl ⟨_, _, rfl, rfl, .inl rfl⟩ ?_
                        refine Dv.skip rfl ⟨_, _, rfl, rfl, .inl rfl⟩ ?_
                        refine Dv.pickF rfl trivial rfl rfl ?_
                        refine Dv.mv rfl trivial rfl ?_
                        refine Dv.skip rfl ⟨_, _, rfl, rfl, .inl rfl⟩ ?_
                        refine Dv.skip rfl ⟨_, _, rfl, rfl, .inl rfl⟩ ?_
                        refine Dv.skip rfl ⟨_, _, rfl, rfl, .inl rfl⟩ ?_
                        refine Dv.pickF rfl trivial rfl rfl ?_
                        refine Dv.mv rfl trivial rfl ?_
                        refine Dv.skip rfl ⟨_, _, rfl, rfl, .inl rfl⟩ ?_
                        refine Dv.skip rfl ⟨_, _, rfl, rfl, .inl rfl⟩ ?_
                        refine Dv.skip rfl ⟨_, _, rfl, rfl, .inl rfl⟩ ?_
                        refine Dv.pickF rfl trivial rfl rfl ?_
                        refine Dv.mv rfl trivial rfl ?_
                        refine Dv.skip rfl ⟨_, _, rfl, rfl, .inl rfl⟩ ?_
                        refine Dv.skip rfl ⟨_, _, rfl, rfl, .inl rfl⟩ ?_
                        refine Dv.skip rfl ⟨_, _, rfl, rfl, .inl rfl⟩ ?_
                        refine Dv.pickF rfl trivial rfl rfl ?_
                        refine Dv.asg rfl trivial rfl ?_
                        refine .fin ?_
                        obtain rfl := Gets.out H
                        exact WP.retL (fun _ _ h => h) rfl () trivial (.cons (res_tmp rfl) .nil) rfl (st_sel (L := [blk b113 24 [eq (.int .i64 a0.fKind), eq (.string a0.fRoom), eq (.string a0.fUser), eq (.string a0.fEvent), eq (.string a0.fThread), eq (.bool a0.fPrivate), eq (.bool a0.fOn), eq (.int .i64 a0.fSpan), eq (.int .i64 a0.fState), eq (.int .i64 a0.fTick), eq (.int .i64 a0.fStamp)]]) (F := F) [0] 1 rfl rfl rfl)
                      · replace H := Gets.ct H c141
                        refine Dv.mv rfl ⟨_, _, rfl, rfl, rfl⟩ rfl ?_
                        refine Dv.pickT rfl trivial rfl rfl ?_
                        refine Dv.mv rfl trivial rfl ?_
                        refine Dv.fab rfl ⟨_, _, rfl, rfl, rfl⟩ rfl Try.underlying24 rfl Try.underlying9 c9 (by decide) ?_
                        refine Dv.ldb rfl ⟨_, _, rfl, rfl, rfl⟩ rfl Try.underlying9 rfl (mem_at 0 rfl) rfl ?_
                        refine Dv.bin rfl ⟨_, _, rfl, rfl, rfl⟩ rfl rfl (fun _ => run_seq) ?_
                        refine Dv.pickT rfl trivial rfl rfl ?_
                        refine Dv.mv rfl trivial rfl ?_
                        cases c142 : decide (a0.fEvent = (⟨#[]⟩ : ByteArray))
                        · replace H := Gets.cf H c142
                          refine Dv.skip rfl ⟨_, _, rfl, rfl, .inl rfl⟩ ?_
                          refine Dv.skip rfl ⟨_, _, rfl, rfl, .inl rfl⟩ ?_
                          refine Dv.skip rfl ⟨_, _, rfl, rfl, .inl rfl⟩ ?_
                          refine Dv.pickF rfl trivial rfl rfl ?_
                          refine Dv.mv rfl trivial rfl ?_
                          refine Dv.skip rfl ⟨_, _, rfl, rfl, .inl rfl⟩ ?_
                          refine Dv.skip rfl ⟨_, _, rfl, rfl, .inl rfl⟩ ?_
                          refine Dv.skip rfl ⟨_, _, rfl, rfl, .inl rfl⟩ ?_
                          refine Dv.pickF rfl trivial rfl rfl ?_
                          refine Dv.mv rfl trivial rfl ?_
                          refine Dv.skip rfl ⟨_, _, rfl, rfl, .inl rfl⟩ ?_
                          refine Dv.skip rfl ⟨_, _, rfl, rfl, .inl rfl⟩ ?_
                          refine Dv.skip rfl ⟨_, _, rfl, rfl, .inl rfl⟩ ?_
                          refine Dv.pickF rfl trivial rfl rfl ?_
                          refine Dv.asg rfl trivial rfl ?_
                          refine .fin ?_
                          obtain rfl := Gets.out H
                          exact WP.retL (fun _ _ h => h) rfl () trivial (.cons (res_tmp rfl) .nil) rfl (st_sel (L := [blk b113 24 [eq (.int .i64 a0.fKind), eq (.string a0.fRoom), eq (.string a0.fUser), eq (.string a0.fEvent), eq (.string a0.fThread), eq (.bool a0.fPrivate), eq (.bool a0.fOn), eq (.int .i64 a0.fSpan), eq (.int .i64 a0.fState), eq (.int .i64 a0.fTick), eq (.int .i64 a0.fStamp)]]) (F := F) [0] 1 rfl rfl rfl)
                        · replace H := Gets.ct H c142
                          refine Dv.fab rfl ⟨_, _, rfl, rfl, rfl⟩ rfl Try.underlying24 rfl Try.underlying9 c9 (by decide) ?_
                          refine Dv.ldb rfl ⟨_, _, rfl, rfl, rfl⟩ rfl Try.underlying9 rfl (mem_at 0 rfl) rfl ?_
                          refine Dv.bin rfl ⟨_, _, rfl, rfl, rfl⟩ rfl rfl (fun _ => run_seq) ?_
                          refine Dv.pickT rfl trivial rfl rfl ?_
                          refine Dv.mv rfl trivial rfl ?_
                          cases c143 : decide (a0.fThread = (⟨#[]⟩ : ByteArray))
                          · replace H := Gets.cf H c143
                            refine Dv.skip rfl ⟨_, _, rfl, rfl, .inl rfl⟩ ?_
                            refine Dv.skip rfl ⟨_, _, rfl, rfl, .inl rfl⟩ ?_
                            refine Dv.skip rfl ⟨_, _, rfl, rfl, .inl rfl⟩ ?_
                            refine Dv.pickF rfl trivial rfl rfl ?_
                            refine Dv.mv rfl trivial rfl ?_
                            refine Dv.skip rfl ⟨_, _, rfl, rfl, .inl rfl⟩ ?_
                            refine Dv.skip rfl ⟨_, _, rfl, rfl, .inl rfl⟩ ?_
                            refine Dv.skip rfl ⟨_, _, rfl, rfl, .inl rfl⟩ ?_
                            refine Dv.pickF rfl trivial rfl rfl ?_
                            refine Dv.asg rfl trivial rfl ?_
                            refine .fin ?_
                            obtain rfl := Gets.out H
                            exact WP.retL (fun _ _ h => h) rfl () trivial (.cons (res_tmp rfl) .nil) rfl (st_sel (L := [blk b113 24 [eq (.int .i64 a0.fKind), eq (.string a0.fRoom), eq (.string a0.fUser), eq (.string a0.fEvent), eq (.string a0.fThread), eq (.bool a0.fPrivate), eq (.bool a0.fOn), eq (.int .i64 a0.fSpan), eq (.int .i64 a0.fState), eq (.int .i64 a0.fTick), eq (.int .i64 a0.fStamp)]]) (F := F) [0] 1 rfl rfl rfl)
                          · replace H := Gets.ct H c143
                            refine Dv.fab rfl ⟨_, _, rfl, rfl, rfl⟩ rfl Try.underlying24 rfl Try.underlying3 c3 (by decide) ?_
                            refine Dv.ldb rfl ⟨_, _, rfl, rfl, rfl⟩ rfl Try.underlying3 rfl (mem_at 0 rfl) rfl ?_
                            refine Dv.bin rfl ⟨_, _, rfl, rfl, rfl⟩ rfl rfl (fun _ => run_eq) ?_
                            refine Dv.pickT rfl trivial rfl rfl ?_
                            refine Dv.mv rfl trivial rfl ?_
                            cases c144 : (a0.fState == 0)
                            · replace H := Gets.cf H c144
                              refine Dv.skip rfl ⟨_, _, rfl, rfl, .inl rfl⟩ ?_
                              refine Dv.skip rfl ⟨_, _, rfl, rfl, .inl rfl⟩ ?_
                              refine Dv.skip rfl ⟨_, _, rfl, rfl, .inl rfl⟩ ?_
                              refine Dv.pickF rfl trivial rfl rfl ?_
                              refine Dv.asg rfl trivial rfl ?_
                              refine .fin ?_
                              obtain rfl := Gets.out H
                              exact WP.retL (fun _ _ h => h) rfl () trivial (.cons (res_tmp rfl) .nil) rfl (st_sel (L := [blk b113 24 [eq (.int .i64 a0.fKind), eq (.string a0.fRoom), eq (.string a0.fUser), eq (.string a0.fEvent), eq (.string a0.fThread), eq (.bool a0.fPrivate), eq (.bool a0.fOn), eq (.int .i64 a0.fSpan), eq (.int .i64 a0.fState), eq (.int .i64 a0.fTick), eq (.int .i64 a0.fStamp)]]) (F := F) [0] 1 rfl rfl rfl)
                            · replace H := Gets.ct H c144
                              refine Dv.fab rfl ⟨_, _, rfl, rfl, rfl⟩ rfl Try.underlying24 rfl Try.underlying4 c4 (by decide) ?_
                              refine Dv.ldb rfl ⟨_, _, rfl, rfl, rfl⟩ rfl Try.underlying4 rfl (mem_at 0 rfl) rfl ?_
                              refine Dv.un rfl ⟨_, _, rfl, rfl, rfl⟩ rfl (fun _ => run_not _) ?_
                              refine Dv.pickT rfl trivial rfl rfl ?_
                              refine Dv.asg rfl trivial rfl ?_
                              refine .fin ?_
                              obtain rfl := Gets.out H
                              exact WP.retL (fun _ _ h => h) rfl () trivial (.cons (res_tmp rfl) .nil) rfl (st_sel (L := [blk b113 24 [eq (.int .i64 a0.fKind), eq (.string a0.fRoom), eq (.string a0.fUser), eq (.string a0.fEvent), eq (.string a0.fThread), eq (.bool a0.fPrivate), eq (.bool a0.fOn), eq (.int .i64 a0.fSpan), eq (.int .i64 a0.fState), eq (.int .i64 a0.fTick), eq (.int .i64 a0.fStamp)]]) (F := F) [0] 1 rfl rfl rfl)
              · replace H := Gets.cf H c137
                refine WP.seq ?_
                refine WP.reg [(0, false), (1, false)] (by kernel_rfl) ?_
                refine Dv.bin rfl trivial rfl rfl (fun _ => run_eq) ?_
                refine Dv.asg rfl trivial rfl ?_
                refine .fin ?_
                refine WP.cond rfl (fun c166 => ?_) (fun c166 => ?_)
                · replace H := Gets.ct H c166
                  refine WP.seq ?_
                  refine WP.reg [(0, false), (1, false), (2, false), (3, false), (4, false), (5, false), (6, false), (7, false), (8, false), (9, false), (10, false), (11, false), (12, false), (13, false), (14, false), (15, false), (16, false), (17, false), (18, false), (19, false), (20, false), (21, false), (22, false), (23, false), (24, false), (25, false), (26, false), (27, false), (28, false), (29, false), (30, false), (31, false), (32, false), (33, false), (34, false), (35, false), (36, false), (37, false), (38, false)] (by kernel_rfl) ?_
                  refine Dv.fab rfl trivial rfl Try.underlying24 rfl Try.underlying9 c9 (by decide) ?_
                  refine Dv.ldb rfl trivial rfl Try.underlying9 rfl (mem_at 0 rfl) rfl ?_
                  refine Dv.bin rfl trivial rfl rfl (fun _ => run_seq) ?_
                  refine Dv.mv rfl trivial rfl ?_
                  cases c167 : decide (a0.fRoom = (⟨#[]⟩ : ByteArray))
                  · replace H := Gets.cf H c167
                    refine Dv.skip rfl ⟨_, _, rfl, rfl, .inl rfl⟩ ?_
                    refine Dv.skip rfl ⟨_, _, rfl, rfl, .inl rfl⟩ ?_
                    refine Dv.skip rfl ⟨_, _, rfl, rfl, .inl rfl⟩ ?_
                    refine Dv.pickF rfl trivial rfl rfl ?_
                    refine Dv.mv rfl trivial rfl ?_
                    refine Dv.skip rfl ⟨_, _, rfl, rfl, .inl rfl⟩ ?_
                    refine Dv.skip rfl ⟨_, _, rfl, rfl, .inl rfl⟩ ?_
                    refine Dv.skip rfl ⟨_, _, rfl, rfl, .inl rfl⟩ ?_
                    refine Dv.pickF rfl trivial rfl rfl ?_
                    refine Dv.mv rfl trivial rfl ?_
                    refine Dv.skip rfl ⟨_, _, rfl, rfl, .inl rfl⟩ ?_
                    refine Dv.skip rfl ⟨_, _, rfl, rfl, .inl rfl⟩ ?_
                    refine Dv.skip rfl ⟨_, _, rfl, rfl, .inl rfl⟩ ?_
                    refine Dv.pickF rfl trivial rfl rfl ?_
                    refine Dv.mv rfl trivial rfl ?_
                    refine Dv.skip rfl ⟨_, _, rfl, rfl, .inl rfl⟩ ?_
                    refine Dv.skip rfl ⟨_, _, rfl, rfl, .inl rfl⟩ ?_
                    refine Dv.skip rfl ⟨_, _, rfl, rfl, .inl rfl⟩ ?_
                    refine Dv.pickF rfl trivial rfl rfl ?_
                    refine Dv.mv rfl trivial rfl ?_
                    refine Dv.skip rfl ⟨_, _, rfl, rfl, .inl rfl⟩ ?_
                    refine Dv.skip rfl ⟨_, _, rfl, rfl, .inl rfl⟩ ?_
                    refine Dv.skip rfl ⟨_, _, rfl, rfl, .inl rfl⟩ ?_
                    refine Dv.pickF rfl trivial rfl rfl ?_
                    refine Dv.mv rfl trivial rfl ?_
                    refine Dv.skip rfl ⟨_, _, rfl, rfl, .inl rfl⟩ ?_
                    refine Dv.skip rfl ⟨_, _, rfl, rfl, .inl rfl⟩ ?_
                    refine Dv.skip rfl ⟨_, _, rfl, rfl, .inl rfl⟩ ?_
                    refine Dv.pickF rfl trivial rfl rfl ?_
                    refine Dv.mv rfl trivial rfl ?_
                    refine Dv.skip rfl ⟨_, _, rfl, rfl, .inl rfl⟩ ?_
                    refine Dv.skip rfl ⟨_, _, rfl, rfl, .inl rfl⟩ ?_
                    refine Dv.skip rfl ⟨_, _, rfl, rfl, .inl rfl⟩ ?_
                    refine Dv.pickF rfl trivial rfl rfl ?_
                    refine Dv.asg rfl trivial rfl ?_
                    refine .fin ?_
                    obtain rfl := Gets.out H
                    exact WP.retL (fun _ _ h => h) rfl () trivial (.cons (res_tmp rfl) .nil) rfl (st_sel (L := [blk b113 24 [eq (.int .i64 a0.fKind), eq (.string a0.fRoom), eq (.string a0.fUser), eq (.string a0.fEvent), eq (.string a0.fThread), eq (.bool a0.fPrivate), eq (.bool a0.fOn), eq (.int .i64 a0.fSpan), eq (.int .i64 a0.fState), eq (.int .i64 a0.fTick), eq (.int .i64 a0.fStamp)]]) (F := F) [0] 1 rfl rfl rfl)
                  · replace H := Gets.ct H c167
                    refine Dv.fab rfl ⟨_, _, rfl, rfl, rfl⟩ rfl Try.underlying24 rfl Try.underlying9 c9 (by decide) ?_
                    refine Dv.ldb rfl ⟨_, _, rfl, rfl, rfl⟩ rfl Try.underlying9 rfl (mem_at 0 rfl) rfl ?_
                    refine Dv.bin rfl ⟨_, _, rfl, rfl, rfl⟩ rfl rfl (fun _ => run_seq) ?_
                    refine Dv.pickT rfl trivial rfl rfl ?_
                    refine Dv.mv rfl trivial rfl ?_
                    cases c168 : decide (a0.fEvent = (⟨#[]⟩ : ByteArray))
                    · replace H := Gets.cf H c168
                      refine Dv.skip rfl ⟨_, _, rfl, rfl, .inl rfl⟩ ?_
                      refine Dv.skip rfl ⟨_, _, rfl, rfl, .inl rfl⟩ ?_
                      refine Dv.skip rfl ⟨_, _, rfl, rfl, .inl rfl⟩ ?_
                      refine Dv.pickF rfl trivial rfl rfl ?_
                      refine Dv.mv rfl trivial rfl ?_
                      refine Dv.skip rfl ⟨_, _, rfl, rfl, .inl rfl⟩ ?_
                      refine Dv.skip rfl ⟨_, _, rfl, rfl, .inl rfl⟩ ?_
                      refine Dv.skip rfl ⟨_, _, rfl, rfl, .inl rfl⟩ ?_
                      refine Dv.pickF rfl trivial rfl rfl ?_
                      refine Dv.mv rfl trivial rfl ?_
                      refine Dv.skip rfl ⟨_, _, rfl, rfl, .inl rfl⟩ ?_
                      refine Dv.skip rfl ⟨_, _, rfl, rfl, .inl rfl⟩ ?_
                      refine Dv.skip rfl ⟨_, _, rfl, rfl, .inl rfl⟩ ?_
                      refine Dv.pickF rfl trivial rfl rfl ?_
                      refine Dv.mv rfl trivial rfl ?_
                      refine Dv.skip rfl ⟨_, _, rfl, rfl, .inl rfl⟩ ?_
                      refine Dv.skip rfl ⟨_, _, rfl, rfl, .inl rfl⟩ ?_
                      refine Dv.skip rfl ⟨_, _, rfl, rfl, .inl rfl⟩ ?_
                      refine Dv.pickF rfl trivial rfl rfl ?_
                      refine Dv.mv rfl trivial rfl ?_
                      refine Dv.skip rfl ⟨_, _, rfl, rfl, .inl rfl⟩ ?_
                      refine Dv.skip rfl ⟨_, _, rfl, rfl, .inl rfl⟩ ?_
                      refine Dv.skip rfl ⟨_, _, rfl, rfl, .inl rfl⟩ ?_
                      refine Dv.pickF rfl trivial rfl rfl ?_
                      refine Dv.mv rfl trivial rfl ?_
                      refine Dv.skip rfl ⟨_, _, rfl, rfl, .inl rfl⟩ ?_
                      refine Dv.skip rfl ⟨_, _, rfl, rfl, .inl rfl⟩ ?_
                      refine Dv.skip rfl ⟨_, _, rfl, rfl, .inl rfl⟩ ?_
                      refine Dv.pickF rfl trivial rfl rfl ?_
                      refine Dv.asg rfl trivial rfl ?_
                      refine .fin ?_
                      obtain rfl := Gets.out H
                      exact WP.retL (fun _ _ h => h) rfl () trivial (.cons (res_tmp rfl) .nil) rfl (st_sel (L := [blk b113 24 [eq (.int .i64 a0.fKind), eq (.string a0.fRoom), eq (.string a0.fUser), eq (.string a0.fEvent), eq (.string a0.fThread), eq (.bool a0.fPrivate), eq (.bool a0.fOn), eq (.int .i64 a0.fSpan), eq (.int .i64 a0.fState), eq (.int .i64 a0.fTick), eq (.int .i64 a0.fStamp)]]) (F := F) [0] 1 rfl rfl rfl)
                    · replace H := Gets.ct H c168
                      refine Dv.fab rfl ⟨_, _, rfl, rfl, rfl⟩ rfl Try.underlying24 rfl Try.underlying9 c9 (by decide) ?_
                      refine Dv.ldb rfl ⟨_, _, rfl, rfl, rfl⟩ rfl Try.underlying9 rfl (mem_at 0 rfl) rfl ?_
                      refine Dv.bin rfl ⟨_, _, rfl, rfl, rfl⟩ rfl rfl (fun _ => run_seq) ?_
                      refine Dv.pickT rfl trivial rfl rfl ?_
                      refine Dv.mv rfl trivial rfl ?_
                      cases c169 : decide (a0.fThread = (⟨#[]⟩ : ByteArray))
                      · replace H := Gets.cf H c169
                        refine Dv.skip rfl ⟨_, _, rfl, rfl, .inl rfl⟩ ?_
                        refine Dv.skip rfl ⟨_, _, rfl, rfl, .inl rfl⟩ ?_
                        refine Dv.skip rfl ⟨_, _, rfl, rfl, .inl rfl⟩ ?_
                        refine Dv.pickF rfl trivial rfl rfl ?_
                        refine Dv.mv rfl trivial rfl ?_
                        refine Dv.skip rfl ⟨_, _, rfl, rfl, .inl rfl⟩ ?_
                        refine Dv.skip rfl ⟨_, _, rfl, rfl, .inl rfl⟩ ?_
                        refine Dv.skip rfl ⟨_, _, rfl, rfl, .inl rfl⟩ ?_
                        refine Dv.pickF rfl trivial rfl rfl ?_
                        refine Dv.mv rfl trivial rfl ?_
                        refine Dv.skip rfl ⟨_, _, rfl, rfl, .inl rfl⟩ ?_
                        refine Dv.skip rfl ⟨_, _, rfl, rfl, .inl rfl⟩ ?_
                        refine Dv.skip rfl ⟨_, _, rfl, rfl, .inl rfl⟩ ?_
                        refine Dv.pickF rfl trivial rfl rfl ?_
                        refine Dv.mv rfl trivial rfl ?_
                        refine Dv.skip rfl ⟨_, _, rfl, rfl, .inl rfl⟩ ?_
                        refine Dv.skip rfl ⟨_, _, rfl, rfl, .inl rfl⟩ ?_
                        refine Dv.skip rfl ⟨_, _, rfl, rfl, .inl rfl⟩ ?_
                        refine Dv.pickF rfl trivial rfl rfl ?_
                        refine Dv.mv rfl trivial rfl ?_
                        refine Dv.skip rfl ⟨_, _, rfl, rfl, .inl rfl⟩ ?_
                        refine Dv.skip rfl ⟨_, _, rfl, rfl, .inl rfl⟩ ?_
                        refine Dv.skip rfl ⟨_, _, rfl, rfl, .inl rfl⟩ ?_
                        refine Dv.pickF rfl trivial rfl rfl ?_
                        refine Dv.asg rfl trivial rfl ?_
                        refine .fin ?_
                        obtain rfl := Gets.out H
                        exact WP.retL (fun _ _ h => h) rfl () trivial (.cons (res_tmp rfl) .nil) rfl (st_sel (L := [blk b113 24 [eq (.int .i64 a0.fKind), eq (.string a0.fRoom), eq (.string a0.fUser), eq (.string a0.fEvent), eq (.string a0.fThread), eq (.bool a0.fPrivate), eq (.bool a0.fOn), eq (.int .i64 a0.fSpan), eq (.int .i64 a0.fState), eq (.int .i64 a0.fTick), eq (.int .i64 a0.fStamp)]]) (F := F) [0] 1 rfl rfl rfl)
                      · replace H := Gets.ct H c169
                        refine Dv.fab rfl ⟨_, _, rfl, rfl, rfl⟩ rfl Try.underlying24 rfl Try.underlying4 c4 (by decide) ?_
                        refine Dv.ldb rfl ⟨_, _, rfl, rfl, rfl⟩ rfl Try.underlying4 rfl (mem_at 0 rfl) rfl ?_
                        refine Dv.un rfl ⟨_, _, rfl, rfl, rfl⟩ rfl (fun _ => run_not _) ?_
                        refine Dv.pickT rfl trivial rfl rfl ?_
                        refine Dv.mv rfl trivial rfl ?_
                        cases c170 : !a0.fOn
                        · replace H := Gets.cf H c170
                          refine Dv.skip rfl ⟨_, _, rfl, rfl, .inl rfl⟩ ?_
                          refine Dv.skip rfl ⟨_, _, rfl, rfl, .inl rfl⟩ ?_
                          refine Dv.skip rfl ⟨_, _, rfl, rfl, .inl rfl⟩ ?_
                          refine Dv.pickF rfl trivial rfl rfl ?_
                          refine Dv.mv rfl trivial rfl ?_
                          refine Dv.skip rfl ⟨_, _, rfl, rfl, .inl rfl⟩ ?_
                          refine Dv.skip rfl ⟨_, _, rfl, rfl, .inl rfl⟩ ?_
                          refine Dv.skip rfl ⟨_, _, rfl, rfl, .inl rfl⟩ ?_
                          refine Dv.pickF rfl trivial rfl rfl ?_
                          refine Dv.mv rfl trivial rfl ?_
                          refine Dv.skip rfl ⟨_, _, rfl, rfl, .inl rfl⟩ ?_
                          refine Dv.skip rfl ⟨_, _, rfl, rfl, .inl rfl⟩ ?_
                          refine Dv.skip rfl ⟨_, _, rfl, rfl, .inl rfl⟩ ?_
                          refine Dv.pickF rfl trivial rfl rfl ?_
                          refine Dv.mv rfl trivial rfl ?_
                          refine Dv.skip rfl ⟨_, _, rfl, rfl, .inl rfl⟩ ?_
                          refine Dv.skip rfl ⟨_, _, rfl, rfl, .inl rfl⟩ ?_
                          refine Dv.skip rfl ⟨_, _, rfl, rfl, .inl rfl⟩ ?_
                          refine Dv.pickF rfl trivial rfl rfl ?_
                          refine Dv.asg rfl trivial rfl ?_
                          refine .fin ?_
                          obtain rfl := Gets.out H
                          exact WP.retL (fun _ _ h => h) rfl () trivial (.cons (res_tmp rfl) .nil) rfl (st_sel (L := [blk b113 24 [eq (.int .i64 a0.fKind), eq (.string a0.fRoom), eq (.string a0.fUser), eq (.string a0.fEvent), eq (.string a0.fThread), eq (.bool a0.fPrivate), eq (.bool a0.fOn), eq (.int .i64 a0.fSpan), eq (.int .i64 a0.fState), eq (.int .i64 a0.fTick), eq (.int .i64 a0.fStamp)]]) (F := F) [0] 1 rfl rfl rfl)
                        · replace H := Gets.ct H c170
                          refine Dv.fab rfl ⟨_, _, rfl, rfl, rfl⟩ rfl Try.underlying24 rfl Try.underlying3 c3 (by decide) ?_
                          refine Dv.ldb rfl ⟨_, _, rfl, rfl, rfl⟩ rfl Try.underlying3 rfl (mem_at 0 rfl) rfl ?_
                          refine Dv.bin rfl ⟨_, _, rfl, rfl, rfl⟩ rfl rfl (fun _ => run_eq) ?_
                          refine Dv.pickT rfl trivial rfl rfl ?_
                          refine Dv.mv rfl trivial rfl ?_
                          cases c171 : (a0.fSpan == 0)
                          · replace H := Gets.cf H c171
                            refine Dv.skip rfl ⟨_, _, rfl, rfl, .inl rfl⟩ ?_
                            refine Dv.skip rfl ⟨_, _, rfl, rfl, .inl rfl⟩ ?_
                            refine Dv.skip rfl ⟨_, _, rfl, rfl, .inl rfl⟩ ?_
                            refine Dv.pickF rfl trivial rfl rfl ?_
                            refine Dv.mv rfl trivial rfl ?_
                            refine Dv.skip rfl ⟨_, _, rfl, rfl, .inl rfl⟩ ?_
                            refine Dv.skip rfl ⟨_, _, rfl, rfl, .inl rfl⟩ ?_
                            refine Dv.skip rfl ⟨_, _, rfl, rfl, .inl rfl⟩ ?_
                            refine Dv.pickF rfl trivial rfl rfl ?_
                            refine Dv.mv rfl trivial rfl ?_
                            refine Dv.skip rfl ⟨_, _, rfl, rfl, .inl rfl⟩ ?_
                            refine Dv.skip rfl ⟨_, _, rfl, rfl, .inl rfl⟩ ?_
                            refine Dv.skip rfl ⟨_, _, rfl, rfl, .inl rfl⟩ ?_
                            refine Dv.pickF rfl trivial rfl rfl ?_
                            refine Dv.asg rfl trivial rfl ?_
                            refine .fin ?_
                            obtain rfl := Gets.out H
                            exact WP.retL (fun _ _ h => h) rfl () trivial (.cons (res_tmp rfl) .nil) rfl (st_sel (L := [blk b113 24 [eq (.int .i64 a0.fKind), eq (.string a0.fRoom), eq (.string a0.fUser), eq (.string a0.fEvent), eq (.string a0.fThread), eq (.bool a0.fPrivate), eq (.bool a0.fOn), eq (.int .i64 a0.fSpan), eq (.int .i64 a0.fState), eq (.int .i64 a0.fTick), eq (.int .i64 a0.fStamp)]]) (F := F) [0] 1 rfl rfl rfl)
                          · replace H := Gets.ct H c171
                            refine Dv.fab rfl ⟨_, _, rfl, rfl, rfl⟩ rfl Try.underlying24 rfl Try.underlying4 c4 (by decide) ?_
                            refine Dv.ldb rfl ⟨_, _, rfl, rfl, rfl⟩ rfl Try.underlying4 rfl (mem_at 0 rfl) rfl ?_
                            refine Dv.un rfl ⟨_, _, rfl, rfl, rfl⟩ rfl (fun _ => run_not _) ?_
                            refine Dv.pickT rfl trivial rfl rfl ?_
                            refine Dv.mv rfl trivial rfl ?_
                            cases c172 : !a0.fPrivate
                            · replace H := Gets.cf H c172
                              refine Dv.skip rfl ⟨_, _, rfl, rfl, .inl rfl⟩ ?_
                              refine Dv.skip rfl ⟨_, _, rfl, rfl, .inl rfl⟩ ?_
                              refine Dv.skip rfl ⟨_, _, rfl, rfl, .inl rfl⟩ ?_
                              refine Dv.pickF rfl trivial rfl rfl ?_
                              refine Dv.mv rfl trivial rfl ?_
                              refine Dv.skip rfl ⟨_, _, rfl, rfl, .inl rfl⟩ ?_
                              refine Dv.skip rfl ⟨_, _, rfl, rfl, .inl rfl⟩ ?_
                              refine Dv.skip rfl ⟨_, _, rfl, rfl, .inl rfl⟩ ?_
                              refine Dv.pickF rfl trivial rfl rfl ?_
                              refine Dv.asg rfl trivial rfl ?_
                              refine .fin ?_
                              obtain rfl := Gets.out H
                              exact WP.retL (fun _ _ h => h) rfl () trivial (.cons (res_tmp rfl) .nil) rfl (st_sel (L := [blk b113 24 [eq (.int .i64 a0.fKind), eq (.string a0.fRoom), eq (.string a0.fUser), eq (.string a0.fEvent), eq (.string a0.fThread), eq (.bool a0.fPrivate), eq (.bool a0.fOn), eq (.int .i64 a0.fSpan), eq (.int .i64 a0.fState), eq (.int .i64 a0.fTick), eq (.int .i64 a0.fStamp)]]) (F := F) [0] 1 rfl rfl rfl)
                            · replace H := Gets.ct H c172
                              refine Dv.fab rfl ⟨_, _, rfl, rfl, rfl⟩ rfl Try.underlying24 rfl Try.underlying3 c3 (by decide) ?_
                              refine Dv.ldb rfl ⟨_, _, rfl, rfl, rfl⟩ rfl Try.underlying3 rfl (mem_at 0 rfl) rfl ?_
                              refine Dv.bin rfl ⟨_, _, rfl, rfl, rfl⟩ rfl rfl (fun _ => run_ge) ?_
                              refine Dv.pickT rfl trivial rfl rfl ?_
                              refine Dv.mv rfl trivial rfl ?_
                              cases c173 : decide (0 ≤ a0.fState)
                              · replace H := Gets.cf H c173
                                refine Dv.skip rfl ⟨_, _, rfl, rfl, .inl rfl⟩ ?_
                                refine Dv.skip rfl ⟨_, _, rfl, rfl, .inl rfl⟩ ?_
                                refine Dv.skip rfl ⟨_, _, rfl, rfl, .inl rfl⟩ ?_
                                refine Dv.pickF rfl trivial rfl rfl ?_
                                refine Dv.asg rfl trivial rfl ?_
                                refine .fin ?_
                                obtain rfl := Gets.out H
                                exact WP.retL (fun _ _ h => h) rfl () trivial (.cons (res_tmp rfl) .nil) rfl (st_sel (L := [blk b113 24 [eq (.int .i64 a0.fKind), eq (.string a0.fRoom), eq (.string a0.fUser), eq (.string a0.fEvent), eq (.string a0.fThread), eq (.bool a0.fPrivate), eq (.bool a0.fOn), eq (.int .i64 a0.fSpan), eq (.int .i64 a0.fState), eq (.int .i64 a0.fTick), eq (.int .i64 a0.fStamp)]]) (F := F) [0] 1 rfl rfl rfl)
                              · replace H := Gets.ct H c173
                                refine Dv.fab rfl ⟨_, _, rfl, rfl, rfl⟩ rfl Try.underlying24 rfl Try.underlying3 c3 (by decide) ?_
                                refine Dv.ldb rfl ⟨_, _, rfl, rfl, rfl⟩ rfl Try.underlying3 rfl (mem_at 0 rfl) rfl ?_
                                refine Dv.bin rfl ⟨_, _, rfl, rfl, rfl⟩ rfl rfl (fun _ => run_le) ?_
                                refine Dv.pickT rfl trivial rfl rfl ?_
                                refine Dv.asg rfl trivial rfl ?_
                                refine .fin ?_
                                obtain rfl := Gets.out H
                                exact WP.retL (fun _ _ h => h) rfl () trivial (.cons (res_tmp rfl) .nil) rfl (st_sel (L := [blk b113 24 [eq (.int .i64 a0.fKind), eq (.string a0.fRoom), eq (.string a0.fUser), eq (.string a0.fEvent), eq (.string a0.fThread), eq (.bool a0.fPrivate), eq (.bool a0.fOn), eq (.int .i64 a0.fSpan), eq (.int .i64 a0.fState), eq (.int .i64 a0.fTick), eq (.int .i64 a0.fStamp)]]) (F := F) [0] 1 rfl rfl rfl)
                · replace H := Gets.cf H c166
                  refine WP.skip ?_
                  refine WP.seq ?_
                  refine WP.reg [(0, false)] (by kernel_rfl) ?_
                  refine Dv.asg rfl trivial rfl ?_
                  refine .fin ?_
                  obtain rfl := Gets.out H
                  exact WP.retL (fun _ _ h => h) rfl () trivial (.cons (res_tmp rfl) .nil) rfl (st_sel (L := [blk b113 24 [eq (.int .i64 a0.fKind), eq (.string a0.fRoom), eq (.string a0.fUser), eq (.string a0.fEvent), eq (.string a0.fThread), eq (.bool a0.fPrivate), eq (.bool a0.fOn), eq (.int .i64 a0.fSpan), eq (.int .i64 a0.fState), eq (.int .i64 a0.fTick), eq (.int .i64 a0.fStamp)]]) (F := F) [0] 1 rfl rfl rfl)
        · replace H := Gets.ct H c128
          refine Dv.skip rfl ⟨_, _, rfl, rfl, .inl rfl⟩ ?_
          refine Dv.skip rfl ⟨_, _, rfl, rfl, .inl rfl⟩ ?_
          refine Dv.skip rfl ⟨_, _, rfl, rfl, .inl rfl⟩ ?_
          refine Dv.pickT rfl trivial rfl rfl ?_
          refine .fin ?_
          refine WP.cond rfl (fun _ => ?_) nofun
          refine WP.seq ?_
          refine WP.reg [(0, false)] (by kernel_rfl) ?_
          refine Dv.asg rfl trivial rfl ?_
          refine .fin ?_
          obtain rfl := Gets.out H
          exact WP.retL (fun _ _ h => h) rfl () trivial (.cons (res_tmp rfl) .nil) rfl (st_sel (L := [blk b113 24 [eq (.int .i64 a0.fKind), eq (.string a0.fRoom), eq (.string a0.fUser), eq (.string a0.fEvent), eq (.string a0.fThread), eq (.bool a0.fPrivate), eq (.bool a0.fOn), eq (.int .i64 a0.fSpan), eq (.int .i64 a0.fState), eq (.int .i64 a0.fTick), eq (.int .i64 a0.fStamp)]]) (F := F) [0] 1 rfl rfl rfl)
      · replace H := Gets.ct H c126
        refine Dv.skip rfl ⟨_, _, rfl, rfl, .inl rfl⟩ ?_
        refine Dv.skip rfl ⟨_, _, rfl, rfl, .inl rfl⟩ ?_
        refine Dv.skip rfl ⟨_, _, rfl, rfl, .inl rfl⟩ ?_
        refine Dv.pickT rfl trivial rfl rfl ?_
        refine Dv.mv rfl trivial rfl ?_
        refine Dv.skip rfl ⟨_, _, rfl, rfl, .inl rfl⟩ ?_
        refine Dv.skip rfl ⟨_, _, rfl, rfl, .inl rfl⟩ ?_
        refine Dv.skip rfl ⟨_, _, rfl, rfl, .inl rfl⟩ ?_
        refine Dv.pickT rfl trivial rfl rfl ?_
        refine .fin ?_
        refine WP.cond rfl (fun _ => ?_) nofun
        refine WP.seq ?_
        refine WP.reg [(0, false)] (by kernel_rfl) ?_
        refine Dv.asg rfl trivial rfl ?_
        refine .fin ?_
        obtain rfl := Gets.out H
        exact WP.retL (fun _ _ h => h) rfl () trivial (.cons (res_tmp rfl) .nil) rfl (st_sel (L := [blk b113 24 [eq (.int .i64 a0.fKind), eq (.string a0.fRoom), eq (.string a0.fUser), eq (.string a0.fEvent), eq (.string a0.fThread), eq (.bool a0.fPrivate), eq (.bool a0.fOn), eq (.int .i64 a0.fSpan), eq (.int .i64 a0.fState), eq (.int .i64 a0.fTick), eq (.int .i64 a0.fStamp)]]) (F := F) [0] 1 rfl rfl rfl)
    · replace H := Gets.ct H c124
      refine Dv.skip rfl ⟨_, _, rfl, rfl, .inl rfl⟩ ?_
      refine Dv.skip rfl ⟨_, _, rfl, rfl, .inl rfl⟩ ?_
      refine Dv.skip rfl ⟨_, _, rfl, rfl, .inl rfl⟩ ?_
      refine Dv.pickT rfl trivial rfl rfl ?_
      refine Dv.mv rfl trivial rfl ?_
      refine Dv.skip rfl ⟨_, _, rfl, rfl, .inl rfl⟩ ?_
      refine Dv.skip rfl ⟨_, _, rfl, rfl, .inl rfl⟩ ?_
      refine Dv.skip rfl ⟨_, _, rfl, rfl, .inl rfl⟩ ?_
      refine Dv.pickT rfl trivial rfl rfl ?_
      refine Dv.mv rfl trivial rfl ?_
      refine Dv.skip rfl ⟨_, _, rfl, rfl, .inl rfl⟩ ?_
      refine Dv.skip rfl ⟨_, _, rfl, rfl, .inl rfl⟩ ?_
      refine Dv.skip rfl ⟨_, _, rfl, rfl, .inl rfl⟩ ?_
      refine Dv.pickT rfl trivial rfl rfl ?_
      refine .fin ?_
      refine WP.cond rfl (fun _ => ?_) nofun
      refine WP.seq ?_
      refine WP.reg [(0, false)] (by kernel_rfl) ?_
      refine Dv.asg rfl trivial rfl ?_
      refine .fin ?_
      obtain rfl := Gets.out H
      exact WP.retL (fun _ _ h => h) rfl () trivial (.cons (res_tmp rfl) .nil) rfl (st_sel (L := [blk b113 24 [eq (.int .i64 a0.fKind), eq (.string a0.fRoom), eq (.string a0.fUser), eq (.string a0.fEvent), eq (.string a0.fThread), eq (.bool a0.fPrivate), eq (.bool a0.fOn), eq (.int .i64 a0.fSpan), eq (.int .i64 a0.fState), eq (.int .i64 a0.fTick), eq (.int .i64 a0.fStamp)]]) (F := F) [0] 1 rfl rfl rfl)
  · replace H := Gets.ct H c122
    refine Dv.skip rfl ⟨_, _, rfl, rfl, .inl rfl⟩ ?_
    refine Dv.skip rfl ⟨_, _, rfl, rfl, .inl rfl⟩ ?_
    refine Dv.skip rfl ⟨_, _, rfl, rfl, .inl rfl⟩ ?_
    refine Dv.pickT rfl trivial rfl rfl ?_
    refine Dv.mv rfl trivial rfl ?_
    refine Dv.skip rfl ⟨_, _, rfl, rfl, .inl rfl⟩ ?_
    refine Dv.skip rfl ⟨_, _, rfl, rfl, .inl rfl⟩ ?_
    refine Dv.skip rfl ⟨_, _, rfl, rfl, .inl rfl⟩ ?_
    refine Dv.pickT rfl trivial rfl rfl ?_
    refine Dv.mv rfl trivial rfl ?_
    refine Dv.skip rfl ⟨_, _, rfl, rfl, .inl rfl⟩ ?_
    refine Dv.skip rfl ⟨_, _, rfl, rfl, .inl rfl⟩ ?_
    refine Dv.skip rfl ⟨_, _, rfl, rfl, .inl rfl⟩ ?_
    refine Dv.pickT rfl trivial rfl rfl ?_
    refine Dv.mv rfl trivial rfl ?_
    refine Dv.skip rfl ⟨_, _, rfl, rfl, .inl rfl⟩ ?_
    refine Dv.skip rfl ⟨_, _, rfl, rfl, .inl rfl⟩ ?_
    refine Dv.skip rfl ⟨_, _, rfl, rfl, .inl rfl⟩ ?_
    refine Dv.pickT rfl trivial rfl rfl ?_
    refine .fin ?_
    refine WP.cond rfl (fun _ => ?_) nofun
    refine WP.seq ?_
    refine WP.reg [(0, false)] (by kernel_rfl) ?_
    refine Dv.asg rfl trivial rfl ?_
    refine .fin ?_
    obtain rfl := Gets.out H
    exact WP.retL (fun _ _ h => h) rfl () trivial (.cons (res_tmp rfl) .nil) rfl (st_sel (L := [blk b113 24 [eq (.int .i64 a0.fKind), eq (.string a0.fRoom), eq (.string a0.fUser), eq (.string a0.fEvent), eq (.string a0.fThread), eq (.bool a0.fPrivate), eq (.bool a0.fOn), eq (.int .i64 a0.fSpan), eq (.int .i64 a0.fState), eq (.int .i64 a0.fTick), eq (.int .i64 a0.fStamp)]]) (F := F) [0] 1 rfl rfl rfl)
theorem concourseref03_May.c {k : Nat} {a0 : Edu} {r : Bool} (h : concourseref03_May.f k a0 = some r) : Pt Try.prog 16 [agg (Edu.enc a0)] (eq (.bool r)) := by
  unfold concourseref03_May.f at h
  refine (Tr.body Try.func16 (c := _) rfl Try.ntmps16 (Nat.le_of_ble_eq_true rfl) fun R0 F => ?_).pt
  replace h := Gets.of h
  have H := h
  clear h
  refine WP.seq ?_
  refine WP.reg [(0, true), (1, false)] (by kernel_rfl) ?_
  refine Dv.box rfl trivial rfl (cells_agg (Edu.K.one _)) nofun (fun b174 => ?_)
  refine Dv.asg rfl trivial rfl ?_
  refine .fin ?_
  refine WP.seq ?_
  refine WP.reg [(0, false), (1, false), (2, false)] (by kernel_rfl) ?_
  refine Dv.ldbs rfl trivial rfl Try.underlying24 rfl c24 (mem_at 0 rfl) (Nat.le_of_ble_eq_true rfl) ?_
  obtain ⟨t175, h176, H⟩ := Gets.call H
  refine Dv.call rfl trivial cal28 rfl (concourseref03_Local.c h176) ?_
  refine Dv.asg rfl trivial rfl ?_
  refine .fin ?_
  refine WP.seq ?_
  refine WP.reg [(0, false), (1, false), (2, false), (3, false), (4, false), (5, false), (6, false)] (by kernel_rfl) ?_
  refine Dv.mv rfl trivial rfl ?_
  refine Dv.mv rfl trivial rfl ?_
  cases c177 : t175
  · replace H := Gets.cf H c177
    refine Dv.skip rfl ⟨_, _, rfl, rfl, .inl rfl⟩ ?_
    refine Dv.skip rfl ⟨_, _, rfl, rfl, .inl rfl⟩ ?_
    refine Dv.skip rfl ⟨_, _, rfl, rfl, .inl rfl⟩ ?_
    refine Dv.pickF rfl trivial rfl rfl ?_
    refine Dv.asg rfl trivial rfl ?_
    refine .fin ?_
    obtain rfl := Gets.out H
    exact WP.retL (fun _ _ h => h) rfl () trivial (.cons (res_tmp rfl) .nil) rfl (st_sel (L := [blk b174 24 [eq (.int .i64 a0.fKind), eq (.string a0.fRoom), eq (.string a0.fUser), eq (.string a0.fEvent), eq (.string a0.fThread), eq (.bool a0.fPrivate), eq (.bool a0.fOn), eq (.int .i64 a0.fSpan), eq (.int .i64 a0.fState), eq (.int .i64 a0.fTick), eq (.int .i64 a0.fStamp)]]) (F := F) [0] 1 rfl rfl rfl)
  · replace H := Gets.ct H c177
    refine Dv.fab rfl ⟨_, _, rfl, rfl, rfl⟩ rfl Try.underlying24 rfl Try.underlying4 c4 (by decide) ?_
    refine Dv.ldb rfl ⟨_, _, rfl, rfl, rfl⟩ rfl Try.underlying4 rfl (mem_at 0 rfl) rfl ?_
    refine Dv.un rfl ⟨_, _, rfl, rfl, rfl⟩ rfl (fun _ => run_not _) ?_
    refine Dv.pickT rfl trivial rfl rfl ?_
    refine Dv.asg rfl trivial rfl ?_
    refine .fin ?_
    obtain rfl := Gets.out H
    exact WP.retL (fun _ _ h => h) rfl () trivial (.cons (res_tmp rfl) .nil) rfl (st_sel (L := [blk b174 24 [eq (.int .i64 a0.fKind), eq (.string a0.fRoom), eq (.string a0.fUser), eq (.string a0.fEvent), eq (.string a0.fThread), eq (.bool a0.fPrivate), eq (.bool a0.fOn), eq (.int .i64 a0.fSpan), eq (.int .i64 a0.fState), eq (.int .i64 a0.fTick), eq (.int .i64 a0.fStamp)]]) (F := F) [0] 1 rfl rfl rfl)
theorem concourseref02_Number.c : ∀ (k : Nat) {a0 : Int} {r : (List Int)} (h : concourseref02_Number.f k a0 = some r), Tr Try.prog 47 [eq (.int .i64 a0)] [] (γ := OV) (fun _ => True) (fun g => eq g.1) (fun g => [own (intK .u8) g.1 r])
  | 0, _, _, h => by cases h
  | k + 1, a0, r, h => by
    rw [concourseref02_Number.f] at h
    refine Tr.body Try.func47 (c := _) rfl Try.ntmps47 (Nat.le_of_ble_eq_true rfl) fun R0 F => ?_
    replace h := Gets.of h
    have H := h
    clear h
    refine WP.seq ?_
    refine WP.reg [(0, false)] (by kernel_rfl) ?_
    refine Dv.asg rfl trivial rfl ?_
    refine .fin ?_
    refine WP.seqn H id (fun p178 : Int => [(0, eq (.int .i64 p178)), (2, eq (.slice none 0 0)), (5, eq (.bool (decide (a0 < 0))))]) (fun p178 : Int => [] ++ F) (fun p178 H => ?_) (fun H => ?_)
    · refine WP.seq ?_
      refine WP.seq ?_
      refine WP.reg [(0, false), (1, false)] (by kernel_rfl) ?_
      refine Dv.mv rfl trivial rfl ?_
      refine Dv.bin rfl trivial rfl rfl (fun _ => run_lt) ?_
      refine .fin ?_
      refine WP.cond rfl (fun c179 => ?_) (fun c179 => ?_)
      · replace H := Gets.ct H c179
        refine WP.seq ?_
        refine WP.reg [(0, false), (1, false), (2, true), (3, false)] (by kernel_rfl) ?_
        refine Dv.mv rfl trivial rfl ?_
        refine Dv.cvi rfl trivial rfl Try.underlying3 Try.underlying5 ?_
        refine Dv.lito (intK .u8) ([IntKind.u8.wrap (p178)] : List Int) (css := [[eq (.int .u8 (IntKind.u8.wrap (p178)))]]) rfl trivial Try.underlying62 Try.underlying5 c5 z5 rfl (by decide) (by decide) rfl ⟨(cells_one (one_eq rfl)), trivial⟩ rfl rfl rfl nofun (fun v180 => ?_)
        refine Dv.asg rfl trivial rfl ?_
        refine .fin ?_
        obtain rfl := Gets.out H
        exact WP.retL (fun _ _ h => h) rfl v180 trivial (.cons (res_tmp rfl) .nil) rfl (st_sel (L := [own (intK .u8) v180.1 ([IntKind.u8.wrap (p178)] : List Int)]) (F := F) [0] 0 rfl rfl rfl)
      · replace H := Gets.cf H c179
        refine WP.skip ?_
        refine WP.seq ?_
        refine WP.reg [(0, false), (1, false), (2, false), (3, false), (4, true), (5, false)] (by kernel_rfl) ?_
        refine Dv.mv rfl trivial rfl ?_
        refine Dv.bin rfl trivial rfl rfl (fun _ => run_rem (by decide)) ?_
        refine Dv.bin rfl trivial rfl rfl (fun _ => run_add) ?_
        refine Dv.cvi rfl trivial rfl Try.underlying3 Try.underlying5 ?_
        refine Dv.lito (intK .u8) ([IntKind.u8.wrap (w64 (128 + (p178.tmod 128)))] : List Int) (css := [[eq (.int .u8 (IntKind.u8.wrap (w64 (128 + (p178.tmod 128)))))]]) rfl trivial Try.underlying62 Try.underlying5 c5 z5 rfl (by decide) (by decide) rfl ⟨(cells_one (one_eq rfl)), trivial⟩ rfl rfl rfl nofun (fun v181 => ?_)
        refine Dv.asg rfl trivial rfl ?_
        refine .fin ?_
        refine WP.seq ?_
        refine WP.reg [(0, false), (1, false), (2, false), (3, true), (4, true), (5, false)] (by kernel_rfl) ?_
        refine Dv.mv rfl trivial rfl ?_
        refine Dv.mv rfl trivial rfl ?_
        refine Dv.bin rfl trivial rfl rfl (fun _ => run_quo (by decide)) ?_
        obtain ⟨t182, h183, H⟩ := Gets.call H
        refine Dv.callx (pre := []) (F := [own (intK .u8) v181.1 ([IntKind.u8.wrap (w64 (128 + (p178.tmod 128)))] : List Int)] ++ F) (fun g184 : OV => [own (intK .u8) g184.1 t182, own (intK .u8) v181.1 ([IntKind.u8.wrap (w64 (128 + (p178.tmod 128)))] : List Int)] ++ F) rfl trivial cal47 rfl (concourseref02_Number.c k h183) (perm_to (L := [own (intK .u8) v181.1 ([IntKind.u8.wrap (w64 (128 + (p178.tmod 128)))] : List Int)]) (F := F) [0] rfl rfl rfl) rfl nofun (fun g184 _ => ?_)
        obtain ⟨g185, H⟩ := Gets.grd H
        refine Dv.appx (jj := 1) (ys := t182) (fun v186 : OV => [own (intK .u8) g184.1 t182, own (intK .u8) v186.1 (([IntKind.u8.wrap (w64 (128 + (p178.tmod 128)))] : List Int) ++ t182)] ++ F) rfl trivial rfl rfl rfl (src_own (mem_at 0 rfl)) Try.underlying62 (.inr ⟨_, Try.underlying62⟩) inf5 rfl (by decide) g185 rfl nofun (fun v186 => ?_)
        refine Dv.asg rfl trivial rfl ?_
        refine .fin ?_
        obtain rfl := Gets.out H
        exact WP.retL (fun _ _ h => h) rfl v186 trivial (.cons (res_tmp rfl) .nil) rfl (st_sel (L := [own (intK .u8) g184.1 t182, own (intK .u8) v186.1 (([IntKind.u8.wrap (w64 (128 + (p178.tmod 128)))] : List Int) ++ t182)]) (F := F) [0, 1] 1 rfl rfl rfl)
    · refine WP.seq ?_
      refine WP.reg [(0, false), (1, false)] (by kernel_rfl) ?_
      refine Dv.mv rfl trivial rfl ?_
      refine Dv.bin rfl trivial rfl rfl (fun _ => run_lt) ?_
      refine .fin ?_
      refine WP.cond rfl (fun c187 => ?_) (fun c187 => ?_)
      · replace H := Gets.ct H c187
        refine WP.reg [(0, false)] (by kernel_rfl) ?_
        refine Dv.asg rfl trivial rfl ?_
        refine .fin ?_
        replace H := Gets.out H
        exact Jn.mk 0 H (weak_cons rfl (weak_cons rfl (weak_cons rfl weak_nil))) (List.Perm.refl _)
      · replace H := Gets.cf H c187
        refine WP.skip ?_
        replace H := Gets.out H
        exact Jn.mk a0 H (weak_cons rfl (weak_cons rfl (weak_cons rfl weak_nil))) (List.Perm.refl _)
theorem concourseref02_Text.c {k : Nat} {a0 : ByteArray} {r : (List Int)} (h : concourseref02_Text.f k a0 = some r) : Tr Try.prog 48 [eq (.string a0)] [] (γ := OV) (fun _ => True) (fun g => eq g.1) (fun g => [own (intK .u8) g.1 r]) := by
  unfold concourseref02_Text.f at h
  refine Tr.body Try.func48 (c := _) rfl Try.ntmps48 (Nat.le_of_ble_eq_true rfl) fun R0 F => ?_
  replace h := Gets.of h
  have H := h
  clear h
  refine WP.seq ?_
  refine WP.reg [(0, false)] (by kernel_rfl) ?_
  refine Dv.asg rfl trivial rfl ?_
  refine .fin ?_
  refine WP.seq ?_
  refine WP.reg [(0, false), (1, false), (2, true), (3, false), (4, true), (5, false)] (by kernel_rfl) ?_
  refine Dv.mv rfl trivial rfl ?_
  refine Dv.lens rfl trivial rfl Try.underlying9 ?_
  obtain ⟨t188, h189, H⟩ := Gets.call H
  refine Dv.callx (pre := []) (F := [] ++ F) (fun g190 : OV => [own (intK .u8) g190.1 t188] ++ F) rfl trivial cal47 rfl (concourseref02_Number.c _ h189) (perm_to (L := []) (F := F) [] rfl rfl rfl) rfl nofun (fun g190 _ => ?_)
  refine Dv.mv rfl trivial rfl ?_
  obtain ⟨g191, H⟩ := Gets.grd H
  refine Dv.appx (jj := 0) (ys := strBs a0) (fun v192 : OV => [own (intK .u8) v192.1 (t188 ++ (strBs a0))] ++ F) rfl trivial rfl rfl rfl src_str Try.underlying62 (.inl Try.underlying9) inf5 rfl (by decide) g191 rfl nofun (fun v192 => ?_)
  refine Dv.asg rfl trivial rfl ?_
  refine .fin ?_
  obtain rfl := Gets.out H
  exact WP.retL (fun _ _ h => h) rfl v192 trivial (.cons (res_tmp rfl) .nil) rfl (st_sel (L := [own (intK .u8) v192.1 (t188 ++ (strBs a0))]) (F := F) [0] 0 rfl rfl rfl)
theorem concourseref02_Flag.c {a0 : Bool} {r : (List Int)} (h : concourseref02_Flag.f a0 = some r) : Pt Try.prog 49 [eq (.bool a0)] (sl (intK .u8) r) := by
  unfold concourseref02_Flag.f at h
  refine (Tr.body Try.func49 (c := _) rfl Try.ntmps49 (Nat.le_of_ble_eq_true rfl) fun R0 F => ?_).pt
  replace h := Gets.of h
  have H := h
  clear h
  refine WP.seq ?_
  refine WP.reg [(0, false)] (by kernel_rfl) ?_
  refine Dv.asg rfl trivial rfl ?_
  refine .fin ?_
  refine WP.seq ?_
  refine WP.seq ?_
  refine WP.reg [(0, false)] (by kernel_rfl) ?_
  refine Dv.mv rfl trivial rfl ?_
  refine .fin ?_
  refine WP.cond rfl (fun c193 => ?_) (fun c193 => ?_)
  · replace H := Gets.ct H c193
    refine WP.seq ?_
    refine WP.reg [(0, false), (1, false)] (by kernel_rfl) ?_
    refine Dv.lit (intK .u8) ([1] : List Int) (css := [[eq (.int .u8 1)]]) rfl trivial Try.underlying62 Try.underlying5 c5 z5 rfl (by decide) (by decide) rfl ⟨(cells_one (one_eq rfl)), trivial⟩ rfl rfl rfl ?_
    refine Dv.asg rfl trivial rfl ?_
    refine .fin ?_
    obtain rfl := Gets.out H
    exact WP.retL (fun _ _ h => h) rfl () trivial (.cons (res_tmp rfl) .nil) rfl (st_sel (L := []) (F := F) [] 0 rfl rfl rfl)
  · replace H := Gets.cf H c193
    refine WP.skip ?_
    refine WP.seq ?_
    refine WP.reg [(0, false), (1, false)] (by kernel_rfl) ?_
    refine Dv.lit (intK .u8) ([0] : List Int) (css := [[eq (.int .u8 0)]]) rfl trivial Try.underlying62 Try.underlying5 c5 z5 rfl (by decide) (by decide) rfl ⟨(cells_one (one_eq rfl)), trivial⟩ rfl rfl rfl ?_
    refine Dv.asg rfl trivial rfl ?_
    refine .fin ?_
    obtain rfl := Gets.out H
    exact WP.retL (fun _ _ h => h) rfl () trivial (.cons (res_tmp rfl) .nil) rfl (st_sel (L := []) (F := F) [] 0 rfl rfl rfl)
theorem concourseref03_Bytes.c {k : Nat} {a0 : Edu} {r : (List Int)} (h : concourseref03_Bytes.f k a0 = some r) : Tr Try.prog 29 [agg (Edu.enc a0)] [] (γ := OV) (fun _ => True) (fun g => eq g.1) (fun g => [own (intK .u8) g.1 r]) := by
  unfold concourseref03_Bytes.f at h
  refine Tr.body Try.func29 (c := _) rfl Try.ntmps29 (Nat.le_of_ble_eq_true rfl) fun R0 F => ?_
  replace h := Gets.of h
  have H := h
  clear h
  refine WP.seq ?_
  refine WP.reg [(0, true), (1, false)] (by kernel_rfl) ?_
  refine Dv.box rfl trivial rfl (cells_agg (Edu.K.one _)) nofun (fun b194 => ?_)
  refine Dv.asg rfl trivial rfl ?_
  refine .fin ?_
  refine WP.seq ?_
  refine WP.reg [(0, false), (1, false), (2, true), (3, false)] (by kernel_rfl) ?_
  refine Dv.fab rfl trivial rfl Try.underlying24 rfl Try.underlying3 c3 (by decide) ?_
  refine Dv.ldb rfl trivial rfl Try.underlying3 rfl (mem_at 0 rfl) rfl ?_
  obtain ⟨t195, h196, H⟩ := Gets.call H
  refine Dv.callx (pre := []) (F := [blk b194 24 [eq (.int .i64 a0.fKind), eq (.string a0.fRoom), eq (.string a0.fUser), eq (.string a0.fEvent), eq (.string a0.fThread), eq (.bool a0.fPrivate), eq (.bool a0.fOn), eq (.int .i64 a0.fSpan), eq (.int .i64 a0.fState), eq (.int .i64 a0.fTick), eq (.int .i64 a0.fStamp)]] ++ F) (fun g197 : OV => [own (intK .u8) g197.1 t195, blk b194 24 [eq (.int .i64 a0.fKind), eq (.string a0.fRoom), eq (.string a0.fUser), eq (.string a0.fEvent), eq (.string a0.fThread), eq (.bool a0.fPrivate), eq (.bool a0.fOn), eq (.int .i64 a0.fSpan), eq (.int .i64 a0.fState), eq (.int .i64 a0.fTick), eq (.int .i64 a0.fStamp)]] ++ F) rfl trivial cal47 rfl (concourseref02_Number.c _ h196) (perm_to (L := [blk b194 24 [eq (.int .i64 a0.fKind), eq (.string a0.fRoom), eq (.string a0.fUser), eq (.string a0.fEvent), eq (.string a0.fThread), eq (.bool a0.fPrivate), eq (.bool a0.fOn), eq (.int .i64 a0.fSpan), eq (.int .i64 a0.fState), eq (.int .i64 a0.fTick), eq (.int .i64 a0.fStamp)]]) (F := F) [0] rfl rfl rfl) rfl nofun (fun g197 _ => ?_)
  refine Dv.asg rfl trivial rfl ?_
  refine .fin ?_
  refine WP.seq ?_
  refine WP.reg [(0, false), (1, false), (2, false), (3, true), (4, true), (5, false)] (by kernel_rfl) ?_
  refine Dv.mv rfl trivial rfl ?_
  refine Dv.fab rfl trivial rfl Try.underlying24 rfl Try.underlying9 c9 (by decide) ?_
  refine Dv.ldb rfl trivial rfl Try.underlying9 rfl (mem_at 1 rfl) rfl ?_
  obtain ⟨t198, h199, H⟩ := Gets.call H
  refine Dv.callx (pre := []) (F := [own (intK .u8) g197.1 t195, blk b194 24 [eq (.int .i64 a0.fKind), eq (.string a0.fRoom), eq (.string a0.fUser), eq (.string a0.fEvent), eq (.string a0.fThread), eq (.bool a0.fPrivate), eq (.bool a0.fOn), eq (.int .i64 a0.fSpan), eq (.int .i64 a0.fState), eq (.int .i64 a0.fTick), eq (.int .i64 a0.fStamp)]] ++ F) (fun g200 : OV => [own (intK .u8) g200.1 t198, own (intK .u8) g197.1 t195, blk b194 24 [eq (.int .i64 a0.fKind), eq (.string a0.fRoom), eq (.string a0.fUser), eq (.string a0.fEvent), eq (.string a0.fThread), eq (.bool a0.fPrivate), eq (.bool a0.fOn), eq (.int .i64 a0.fSpan), eq (.int .i64 a0.fState), eq (.int .i64 a0.fTick), eq (.int .i64 a0.fStamp)]] ++ F) rfl trivial cal48 rfl (concourseref02_Text.c h199) (perm_to (L := [own (intK .u8) g197.1 t195, blk b194 24 [eq (.int .i64 a0.fKind), eq (.string a0.fRoom), eq (.string a0.fUser), eq (.string a0.fEvent), eq (.string a0.fThread), eq (.bool a0.fPrivate), eq (.bool a0.fOn), eq (.int .i64 a0.fSpan), eq (.int .i64 a0.fState), eq (.int .i64 a0.fTick), eq (.int .i64 a0.fStamp)]]) (F := F) [0, 1] rfl rfl rfl) rfl nofun (fun g200 _ => ?_)
  obtain ⟨g201, H⟩ := Gets.grd H
  refine Dv.appx (jj := 1) (ys := t198) (fun v202 : OV => [own (intK .u8) g200.1 t198, own (intK .u8) v202.1 (t195 ++ t198), blk b194 24 [eq (.int .i64 a0.fKind), eq (.string a0.fRoom), eq (.string a0.fUser), eq (.string a0.fEvent), eq (.string a0.fThread), eq (.bool a0.fPrivate), eq (.bool a0.fOn), eq (.int .i64 a0.fSpan), eq (.int .i64 a0.fState), eq (.int .i64 a0.fTick), eq (.int .i64 a0.fStamp)]] ++ F) rfl trivial rfl rfl rfl (src_own (mem_at 0 rfl)) Try.underlying62 (.inr ⟨_, Try.underlying62⟩) inf5 rfl (by decide) g201 rfl nofun (fun v202 => ?_)
  refine Dv.asg rfl trivial rfl ?_
  refine .fin ?_
  refine WP.seq ?_
  refine WP.reg [(0, false), (1, false), (2, false), (3, true), (4, true), (5, false)] (by kernel_rfl) ?_
  refine Dv.mv rfl trivial rfl ?_
  refine Dv.fab rfl trivial rfl Try.underlying24 rfl Try.underlying9 c9 (by decide) ?_
  refine Dv.ldb rfl trivial rfl Try.underlying9 rfl (mem_at 2 rfl) rfl ?_
  obtain ⟨t203, h204, H⟩ := Gets.call H
  refine Dv.callx (pre := []) (F := [own (intK .u8) g200.1 t198, own (intK .u8) v202.1 (t195 ++ t198), blk b194 24 [eq (.int .i64 a0.fKind), eq (.string a0.fRoom), eq (.string a0.fUser), eq (.string a0.fEvent), eq (.string a0.fThread), eq (.bool a0.fPrivate), eq (.bool a0.fOn), eq (.int .i64 a0.fSpan), eq (.int .i64 a0.fState), eq (.int .i64 a0.fTick), eq (.int .i64 a0.fStamp)]] ++ F) (fun g205 : OV => [own (intK .u8) g205.1 t203, own (intK .u8) g200.1 t198, own (intK .u8) v202.1 (t195 ++ t198), blk b194 24 [eq (.int .i64 a0.fKind), eq (.string a0.fRoom), eq (.string a0.fUser), eq (.string a0.fEvent), eq (.string a0.fThread), eq (.bool a0.fPrivate), eq (.bool a0.fOn), eq (.int .i64 a0.fSpan), eq (.int .i64 a0.fState), eq (.int .i64 a0.fTick), eq (.int .i64 a0.fStamp)]] ++ F) rfl trivial cal48 rfl (concourseref02_Text.c h204) (perm_to (L := [own (intK .u8) g200.1 t198, own (intK .u8) v202.1 (t195 ++ t198), blk b194 24 [eq (.int .i64 a0.fKind), eq (.string a0.fRoom), eq (.string a0.fUser), eq (.string a0.fEvent), eq (.string a0.fThread), eq (.bool a0.fPrivate), eq (.bool a0.fOn), eq (.int .i64 a0.fSpan), eq (.int .i64 a0.fState), eq (.int .i64 a0.fTick), eq (.int .i64 a0.fStamp)]]) (F := F) [0, 1, 2] rfl rfl rfl) rfl nofun (fun g205 _ => ?_)
  obtain ⟨g206, H⟩ := Gets.grd H
  refine Dv.appx (jj := 2) (ys := t203) (fun v207 : OV => [own (intK .u8) g205.1 t203, own (intK .u8) g200.1 t198, own (intK .u8) v207.1 ((t195 ++ t198) ++ t203), blk b194 24 [eq (.int .i64 a0.fKind), eq (.string a0.fRoom), eq (.string a0.fUser), eq (.string a0.fEvent), eq (.string a0.fThread), eq (.bool a0.fPrivate), eq (.bool a0.fOn), eq (.int .i64 a0.fSpan), eq (.int .i64 a0.fState), eq (.int .i64 a0.fTick), eq (.int .i64 a0.fStamp)]] ++ F) rfl trivial rfl rfl rfl (src_own (mem_at 0 rfl)) Try.underlying62 (.inr ⟨_, Try.underlying62⟩) inf5 rfl (by decide) g206 rfl nofun (fun v207 => ?_)
  refine Dv.asg rfl trivial rfl ?_
  refine .fin ?_
  refine WP.seq ?_
  refine WP.reg [(0, false), (1, false), (2, false), (3, true), (4, true), (5, false)] (by kernel_rfl) ?_
  refine Dv.mv rfl trivial rfl ?_
  refine Dv.fab rfl trivial rfl Try.underlying24 rfl Try.underlying9 c9 (by decide) ?_
  refine Dv.ldb rfl trivial rfl Try.underlying9 rfl (mem_at 3 rfl) rfl ?_
  obtain ⟨t208, h209, H⟩ := Gets.call H
  refine Dv.callx (pre := []) (F := [own (intK .u8) g205.1 t203, own (intK .u8) g200.1 t198, own (intK .u8) v207.1 ((t195 ++ t198) ++ t203), blk b194 24 [eq (.int .i64 a0.fKind), eq (.string a0.fRoom), eq (.string a0.fUser), eq (.string a0.fEvent), eq (.string a0.fThread), eq (.bool a0.fPrivate), eq (.bool a0.fOn), eq (.int .i64 a0.fSpan), eq (.int .i64 a0.fState), eq (.int .i64 a0.fTick), eq (.int .i64 a0.fStamp)]] ++ F) (fun g210 : OV => [own (intK .u8) g210.1 t208, own (intK .u8) g205.1 t203, own (intK .u8) g200.1 t198, own (intK .u8) v207.1 ((t195 ++ t198) ++ t203), blk b194 24 [eq (.int .i64 a0.fKind), eq (.string a0.fRoom), eq (.string a0.fUser), eq (.string a0.fEvent), eq (.string a0.fThread), eq (.bool a0.fPrivate), eq (.bool a0.fOn), eq (.int .i64 a0.fSpan), eq (.int .i64 a0.fState), eq (.int .i64 a0.fTick), eq (.int .i64 a0.fStamp)]] ++ F) rfl trivial cal48 rfl (concourseref02_Text.c h209) (perm_to (L := [own (intK .u8) g205.1 t203, own (intK .u8) g200.1 t198, own (intK .u8) v207.1 ((t195 ++ t198) ++ t203), blk b194 24 [eq (.int .i64 a0.fKind), eq (.string a0.fRoom), eq (.string a0.fUser), eq (.string a0.fEvent), eq (.string a0.fThread), eq (.bool a0.fPrivate), eq (.bool a0.fOn), eq (.int .i64 a0.fSpan), eq (.int .i64 a0.fState), eq (.int .i64 a0.fTick), eq (.int .i64 a0.fStamp)]]) (F := F) [0, 1, 2, 3] rfl rfl rfl) rfl nofun (fun g210 _ => ?_)
  obtain ⟨g211, H⟩ := Gets.grd H
  refine Dv.appx (jj := 3) (ys := t208) (fun v212 : OV => [own (intK .u8) g210.1 t208, own (intK .u8) g205.1 t203, own (intK .u8) g200.1 t198, own (intK .u8) v212.1 (((t195 ++ t198) ++ t203) ++ t208), blk b194 24 [eq (.int .i64 a0.fKind), eq (.string a0.fRoom), eq (.string a0.fUser), eq (.string a0.fEvent), eq (.string a0.fThread), eq (.bool a0.fPrivate), eq (.bool a0.fOn), eq (.int .i64 a0.fSpan), eq (.int .i64 a0.fState), eq (.int .i64 a0.fTick), eq (.int .i64 a0.fStamp)]] ++ F) rfl trivial rfl rfl rfl (src_own (mem_at 0 rfl)) Try.underlying62 (.inr ⟨_, Try.underlying62⟩) inf5 rfl (by decide) g211 rfl nofun (fun v212 => ?_)
  refine Dv.asg rfl trivial rfl ?_
  refine .fin ?_
  refine WP.seq ?_
  refine WP.reg [(0, false), (1, false), (2, false), (3, true), (4, true), (5, false)] (by kernel_rfl) ?_
  refine Dv.mv rfl trivial rfl ?_
  refine Dv.fab rfl trivial rfl Try.underlying24 rfl Try.underlying9 c9 (by decide) ?_
  refine Dv.ldb rfl trivial rfl Try.underlying9 rfl (mem_at 4 rfl) rfl ?_
  obtain ⟨t213, h214, H⟩ := Gets.call H
  refine Dv.callx (pre := []) (F := [own (intK .u8) g210.1 t208, own (intK .u8) g205.1 t203, own (intK .u8) g200.1 t198, own (intK .u8) v212.1 (((t195 ++ t198) ++ t203) ++ t208), blk b194 24 [eq (.int .i64 a0.fKind), eq (.string a0.fRoom), eq (.string a0.fUser), eq (.string a0.fEvent), eq (.string a0.fThread), eq (.bool a0.fPrivate), eq (.bool a0.fOn), eq (.int .i64 a0.fSpan), eq (.int .i64 a0.fState), eq (.int .i64 a0.fTick), eq (.int .i64 a0.fStamp)]] ++ F) (fun g215 : OV => [own (intK .u8) g215.1 t213, own (intK .u8) g210.1 t208, own (intK .u8) g205.1 t203, own (intK .u8) g200.1 t198, own (intK .u8) v212.1 (((t195 ++ t198) ++ t203) ++ t208), blk b194 24 [eq (.int .i64 a0.fKind), eq (.string a0.fRoom), eq (.string a0.fUser), eq (.string a0.fEvent), eq (.string a0.fThread), eq (.bool a0.fPrivate), eq (.bool a0.fOn), eq (.int .i64 a0.fSpan), eq (.int .i64 a0.fState), eq (.int .i64 a0.fTick), eq (.int .i64 a0.fStamp)]] ++ F) rfl trivial cal48 rfl (concourseref02_Text.c h214) (perm_to (L := [own (intK .u8) g210.1 t208, own (intK .u8) g205.1 t203, own (intK .u8) g200.1 t198, own (intK .u8) v212.1 (((t195 ++ t198) ++ t203) ++ t208), blk b194 24 [eq (.int .i64 a0.fKind), eq (.string a0.fRoom), eq (.string a0.fUser), eq (.string a0.fEvent), eq (.string a0.fThread), eq (.bool a0.fPrivate), eq (.bool a0.fOn), eq (.int .i64 a0.fSpan), eq (.int .i64 a0.fState), eq (.int .i64 a0.fTick), eq (.int .i64 a0.fStamp)]]) (F := F) [0, 1, 2, 3, 4] (by kernel_rfl) rfl rfl) rfl nofun (fun g215 _ => ?_)
  obtain ⟨g216, H⟩ := Gets.grd H
  refine Dv.appx (jj := 4) (ys := t213) (fun v217 : OV => [own (intK .u8) g215.1 t213, own (intK .u8) g210.1 t208, own (intK .u8) g205.1 t203, own (intK .u8) g200.1 t198, own (intK .u8) v217.1 ((((t195 ++ t198) ++ t203) ++ t208) ++ t213), blk b194 24 [eq (.int .i64 a0.fKind), eq (.string a0.fRoom), eq (.string a0.fUser), eq (.string a0.fEvent), eq (.string a0.fThread), eq (.bool a0.fPrivate), eq (.bool a0.fOn), eq (.int .i64 a0.fSpan), eq (.int .i64 a0.fState), eq (.int .i64 a0.fTick), eq (.int .i64 a0.fStamp)]] ++ F) rfl trivial rfl rfl rfl (src_own (mem_at 0 rfl)) Try.underlying62 (.inr ⟨_, Try.underlying62⟩) inf5 rfl (by decide) g216 rfl nofun (fun v217 => ?_)
  refine Dv.asg rfl trivial rfl ?_
  refine .fin ?_
  refine WP.seq ?_
  refine WP.reg [(0, false), (1, false), (2, false), (3, false), (4, true), (5, false)] (by kernel_rfl) ?_
  refine Dv.mv rfl trivial rfl ?_
  refine Dv.fab rfl trivial rfl Try.underlying24 rfl Try.underlying4 c4 (by decide) ?_
  refine Dv.ldb rfl trivial rfl Try.underlying4 rfl (mem_at 5 rfl) rfl ?_
  obtain ⟨t218, h219, H⟩ := Gets.call H
  refine Dv.call rfl trivial cal49 rfl (concourseref02_Flag.c h219) ?_
  obtain ⟨g220, H⟩ := Gets.grd H
  refine Dv.appx (jj := 4) (ys := t218) (fun v221 : OV => [own (intK .u8) g215.1 t213, own (intK .u8) g210.1 t208, own (intK .u8) g205.1 t203, own (intK .u8) g200.1 t198, own (intK .u8) v221.1 (((((t195 ++ t198) ++ t203) ++ t208) ++ t213) ++ t218), blk b194 24 [eq (.int .i64 a0.fKind), eq (.string a0.fRoom), eq (.string a0.fUser), eq (.string a0.fEvent), eq (.string a0.fThread), eq (.bool a0.fPrivate), eq (.bool a0.fOn), eq (.int .i64 a0.fSpan), eq (.int .i64 a0.fState), eq (.int .i64 a0.fTick), eq (.int .i64 a0.fStamp)]] ++ F) rfl trivial rfl rfl rfl src_sl Try.underlying62 (.inr ⟨_, Try.underlying62⟩) inf5 rfl (by decide) g220 rfl nofun (fun v221 => ?_)
  refine Dv.asg rfl trivial rfl ?_
  refine .fin ?_
  refine WP.seq ?_
  refine WP.reg [(0, false), (1, false), (2, false), (3, true), (4, true), (5, false)] (by kernel_rfl) ?_
  refine Dv.mv rfl trivial rfl ?_
  refine Dv.fab rfl trivial rfl Try.underlying24 rfl Try.underlying3 c3 (by decide) ?_
  refine Dv.ldb rfl trivial rfl Try.underlying3 rfl (mem_at 5 rfl) rfl ?_
  obtain ⟨t222, h223, H⟩ := Gets.call H
  refine Dv.callx (pre := []) (F := [own (intK .u8) g215.1 t213, own (intK .u8) g210.1 t208, own (intK .u8) g205.1 t203, own (intK .u8) g200.1 t198, own (intK .u8) v221.1 (((((t195 ++ t198) ++ t203) ++ t208) ++ t213) ++ t218), blk b194 24 [eq (.int .i64 a0.fKind), eq (.string a0.fRoom), eq (.string a0.fUser), eq (.string a0.fEvent), eq (.string a0.fThread), eq (.bool a0.fPrivate), eq (.bool a0.fOn), eq (.int .i64 a0.fSpan), eq (.int .i64 a0.fState), eq (.int .i64 a0.fTick), eq (.int .i64 a0.fStamp)]] ++ F) (fun g224 : OV => [own (intK .u8) g224.1 t222, own (intK .u8) g215.1 t213, own (intK .u8) g210.1 t208, own (intK .u8) g205.1 t203, own (intK .u8) g200.1 t198, own (intK .u8) v221.1 (((((t195 ++ t198) ++ t203) ++ t208) ++ t213) ++ t218), blk b194 24 [eq (.int .i64 a0.fKind), eq (.string a0.fRoom), eq (.string a0.fUser), eq (.string a0.fEvent), eq (.string a0.fThread), eq (.bool a0.fPrivate), eq (.bool a0.fOn), eq (.int .i64 a0.fSpan), eq (.int .i64 a0.fState), eq (.int .i64 a0.fTick), eq (.int .i64 a0.fStamp)]] ++ F) rfl trivial cal47 rfl (concourseref02_Number.c _ h223) (perm_to (L := [own (intK .u8) g215.1 t213, own (intK .u8) g210.1 t208, own (intK .u8) g205.1 t203, own (intK .u8) g200.1 t198, own (intK .u8) v221.1 (((((t195 ++ t198) ++ t203) ++ t208) ++ t213) ++ t218), blk b194 24 [eq (.int .i64 a0.fKind), eq (.string a0.fRoom), eq (.string a0.fUser), eq (.string a0.fEvent), eq (.string a0.fThread), eq (.bool a0.fPrivate), eq (.bool a0.fOn), eq (.int .i64 a0.fSpan), eq (.int .i64 a0.fState), eq (.int .i64 a0.fTick), eq (.int .i64 a0.fStamp)]]) (F := F) [0, 1, 2, 3, 4, 5] (by kernel_rfl) rfl rfl) rfl nofun (fun g224 _ => ?_)
  obtain ⟨g225, H⟩ := Gets.grd H
  refine Dv.appx (jj := 5) (ys := t222) (fun v226 : OV => [own (intK .u8) g224.1 t222, own (intK .u8) g215.1 t213, own (intK .u8) g210.1 t208, own (intK .u8) g205.1 t203, own (intK .u8) g200.1 t198, own (intK .u8) v226.1 ((((((t195 ++ t198) ++ t203) ++ t208) ++ t213) ++ t218) ++ t222), blk b194 24 [eq (.int .i64 a0.fKind), eq (.string a0.fRoom), eq (.string a0.fUser), eq (.string a0.fEvent), eq (.string a0.fThread), eq (.bool a0.fPrivate), eq (.bool a0.fOn), eq (.int .i64 a0.fSpan), eq (.int .i64 a0.fState), eq (.int .i64 a0.fTick), eq (.int .i64 a0.fStamp)]] ++ F) rfl trivial rfl rfl rfl (src_own (mem_at 0 rfl)) Try.underlying62 (.inr ⟨_, Try.underlying62⟩) inf5 rfl (by decide) g225 rfl nofun (fun v226 => ?_)
  refine Dv.asg rfl trivial rfl ?_
  refine .fin ?_
  refine WP.seq ?_
  refine WP.reg [(0, false), (1, false), (2, false), (3, true), (4, true), (5, false)] (by kernel_rfl) ?_
  refine Dv.mv rfl trivial rfl ?_
  refine Dv.fab rfl trivial rfl Try.underlying24 rfl Try.underlying3 c3 (by decide) ?_
  refine Dv.ldb rfl trivial rfl Try.underlying3 rfl (mem_at 6 rfl) rfl ?_
  obtain ⟨t227, h228, H⟩ := Gets.call H
  refine Dv.callx (pre := []) (F := [own (intK .u8) g224.1 t222, own (intK .u8) g215.1 t213, own (intK .u8) g210.1 t208, own (intK .u8) g205.1 t203, own (intK .u8) g200.1 t198, own (intK .u8) v226.1 ((((((t195 ++ t198) ++ t203) ++ t208) ++ t213) ++ t218) ++ t222), blk b194 24 [eq (.int .i64 a0.fKind), eq (.string a0.fRoom), eq (.string a0.fUser), eq (.string a0.fEvent), eq (.string a0.fThread), eq (.bool a0.fPrivate), eq (.bool a0.fOn), eq (.int .i64 a0.fSpan), eq (.int .i64 a0.fState), eq (.int .i64 a0.fTick), eq (.int .i64 a0.fStamp)]] ++ F) (fun g229 : OV => [own (intK .u8) g229.1 t227, own (intK .u8) g224.1 t222, own (intK .u8) g215.1 t213, own (intK .u8) g210.1 t208, own (intK .u8) g205.1 t203, own (intK .u8) g200.1 t198, own (intK .u8) v226.1 ((((((t195 ++ t198) ++ t203) ++ t208) ++ t213) ++ t218) ++ t222), blk b194 24 [eq (.int .i64 a0.fKind), eq (.string a0.fRoom), eq (.string a0.fUser), eq (.string a0.fEvent), eq (.string a0.fThread), eq (.bool a0.fPrivate), eq (.bool a0.fOn), eq (.int .i64 a0.fSpan), eq (.int .i64 a0.fState), eq (.int .i64 a0.fTick), eq (.int .i64 a0.fStamp)]] ++ F) rfl trivial cal47 rfl (concourseref02_Number.c _ h228) (perm_to (L := [own (intK .u8) g224.1 t222, own (intK .u8) g215.1 t213, own (intK .u8) g210.1 t208, own (intK .u8) g205.1 t203, own (intK .u8) g200.1 t198, own (intK .u8) v226.1 ((((((t195 ++ t198) ++ t203) ++ t208) ++ t213) ++ t218) ++ t222), blk b194 24 [eq (.int .i64 a0.fKind), eq (.string a0.fRoom), eq (.string a0.fUser), eq (.string a0.fEvent), eq (.string a0.fThread), eq (.bool a0.fPrivate), eq (.bool a0.fOn), eq (.int .i64 a0.fSpan), eq (.int .i64 a0.fState), eq (.int .i64 a0.fTick), eq (.int .i64 a0.fStamp)]]) (F := F) [0, 1, 2, 3, 4, 5, 6] (by kernel_rfl) rfl rfl) rfl nofun (fun g229 _ => ?_)
  obtain ⟨g230, H⟩ := Gets.grd H
  refine Dv.appx (jj := 6) (ys := t227) (fun v231 : OV => [own (intK .u8) g229.1 t227, own (intK .u8) g224.1 t222, own (intK .u8) g215.1 t213, own (intK .u8) g210.1 t208, own (intK .u8) g205.1 t203, own (intK .u8) g200.1 t198, own (intK .u8) v231.1 (((((((t195 ++ t198) ++ t203) ++ t208) ++ t213) ++ t218) ++ t222) ++ t227), blk b194 24 [eq (.int .i64 a0.fKind), eq (.string a0.fRoom), eq (.string a0.fUser), eq (.string a0.fEvent), eq (.string a0.fThread), eq (.bool a0.fPrivate), eq (.bool a0.fOn), eq (.int .i64 a0.fSpan), eq (.int .i64 a0.fState), eq (.int .i64 a0.fTick), eq (.int .i64 a0.fStamp)]] ++ F) rfl trivial rfl rfl rfl (src_own (mem_at 0 rfl)) Try.underlying62 (.inr ⟨_, Try.underlying62⟩) inf5 rfl (by decide) g230 rfl nofun (fun v231 => ?_)
  refine Dv.asg rfl trivial rfl ?_
  refine .fin ?_
  refine WP.seq ?_
  refine WP.reg [(0, false), (1, false), (2, false), (3, true), (4, true), (5, false)] (by kernel_rfl) ?_
  refine Dv.mv rfl trivial rfl ?_
  refine Dv.fab rfl trivial rfl Try.underlying24 rfl Try.underlying3 c3 (by decide) ?_
  refine Dv.ldb rfl trivial rfl Try.underlying3 rfl (mem_at 7 rfl) rfl ?_
  obtain ⟨t232, h233, H⟩ := Gets.call H
  refine Dv.callx (pre := []) (F := [own (intK .u8) g229.1 t227, own (intK .u8) g224.1 t222, own (intK .u8) g215.1 t213, own (intK .u8) g210.1 t208, own (intK .u8) g205.1 t203, own (intK .u8) g200.1 t198, own (intK .u8) v231.1 (((((((t195 ++ t198) ++ t203) ++ t208) ++ t213) ++ t218) ++ t222) ++ t227), blk b194 24 [eq (.int .i64 a0.fKind), eq (.string a0.fRoom), eq (.string a0.fUser), eq (.string a0.fEvent), eq (.string a0.fThread), eq (.bool a0.fPrivate), eq (.bool a0.fOn), eq (.int .i64 a0.fSpan), eq (.int .i64 a0.fState), eq (.int .i64 a0.fTick), eq (.int .i64 a0.fStamp)]] ++ F) (fun g234 : OV => [own (intK .u8) g234.1 t232, own (intK .u8) g229.1 t227, own (intK .u8) g224.1 t222, own (intK .u8) g215.1 t213, own (intK .u8) g210.1 t208, own (intK .u8) g205.1 t203, own (intK .u8) g200.1 t198, own (intK .u8) v231.1 (((((((t195 ++ t198) ++ t203) ++ t208) ++ t213) ++ t218) ++ t222) ++ t227), blk b194 24 [eq (.int .i64 a0.fKind), eq (.string a0.fRoom), eq (.string a0.fUser), eq (.string a0.fEvent), eq (.string a0.fThread), eq (.bool a0.fPrivate), eq (.bool a0.fOn), eq (.int .i64 a0.fSpan), eq (.int .i64 a0.fState), eq (.int .i64 a0.fTick), eq (.int .i64 a0.fStamp)]] ++ F) rfl trivial cal47 rfl (concourseref02_Number.c _ h233) (perm_to (L := [own (intK .u8) g229.1 t227, own (intK .u8) g224.1 t222, own (intK .u8) g215.1 t213, own (intK .u8) g210.1 t208, own (intK .u8) g205.1 t203, own (intK .u8) g200.1 t198, own (intK .u8) v231.1 (((((((t195 ++ t198) ++ t203) ++ t208) ++ t213) ++ t218) ++ t222) ++ t227), blk b194 24 [eq (.int .i64 a0.fKind), eq (.string a0.fRoom), eq (.string a0.fUser), eq (.string a0.fEvent), eq (.string a0.fThread), eq (.bool a0.fPrivate), eq (.bool a0.fOn), eq (.int .i64 a0.fSpan), eq (.int .i64 a0.fState), eq (.int .i64 a0.fTick), eq (.int .i64 a0.fStamp)]]) (F := F) [0, 1, 2, 3, 4, 5, 6, 7] (by kernel_rfl) rfl rfl) rfl nofun (fun g234 _ => ?_)
  obtain ⟨g235, H⟩ := Gets.grd H
  refine Dv.appx (jj := 7) (ys := t232) (fun v236 : OV => [own (intK .u8) g234.1 t232, own (intK .u8) g229.1 t227, own (intK .u8) g224.1 t222, own (intK .u8) g215.1 t213, own (intK .u8) g210.1 t208, own (intK .u8) g205.1 t203, own (intK .u8) g200.1 t198, own (intK .u8) v236.1 ((((((((t195 ++ t198) ++ t203) ++ t208) ++ t213) ++ t218) ++ t222) ++ t227) ++ t232), blk b194 24 [eq (.int .i64 a0.fKind), eq (.string a0.fRoom), eq (.string a0.fUser), eq (.string a0.fEvent), eq (.string a0.fThread), eq (.bool a0.fPrivate), eq (.bool a0.fOn), eq (.int .i64 a0.fSpan), eq (.int .i64 a0.fState), eq (.int .i64 a0.fTick), eq (.int .i64 a0.fStamp)]] ++ F) rfl trivial rfl rfl rfl (src_own (mem_at 0 rfl)) Try.underlying62 (.inr ⟨_, Try.underlying62⟩) inf5 rfl (by decide) g235 rfl nofun (fun v236 => ?_)
  refine Dv.asg rfl trivial rfl ?_
  refine .fin ?_
  refine WP.seq ?_
  refine WP.reg [(0, false), (1, false), (2, false), (3, true), (4, true), (5, false)] (by kernel_rfl) ?_
  refine Dv.mv rfl trivial rfl ?_
  refine Dv.fab rfl trivial rfl Try.underlying24 rfl Try.underlying3 c3 (by decide) ?_
  refine Dv.ldb rfl trivial rfl Try.underlying3 rfl (mem_at 8 rfl) rfl ?_
  obtain ⟨t237, h238, H⟩ := Gets.call H
  refine Dv.callx (pre := []) (F := [own (intK .u8) g234.1 t232, own (intK .u8) g229.1 t227, own (intK .u8) g224.1 t222, own (intK .u8) g215.1 t213, own (intK .u8) g210.1 t208, own (intK .u8) g205.1 t203, own (intK .u8) g200.1 t198, own (intK .u8) v236.1 ((((((((t195 ++ t198) ++ t203) ++ t208) ++ t213) ++ t218) ++ t222) ++ t227) ++ t232), blk b194 24 [eq (.int .i64 a0.fKind), eq (.string a0.fRoom), eq (.string a0.fUser), eq (.string a0.fEvent), eq (.string a0.fThread), eq (.bool a0.fPrivate), eq (.bool a0.fOn), eq (.int .i64 a0.fSpan), eq (.int .i64 a0.fState), eq (.int .i64 a0.fTick), eq (.int .i64 a0.fStamp)]] ++ F) (fun g239 : OV => [own (intK .u8) g239.1 t237, own (intK .u8) g234.1 t232, own (intK .u8) g229.1 t227, own (intK .u8) g224.1 t222, own (intK .u8) g215.1 t213, own (intK .u8) g210.1 t208, own (intK .u8) g205.1 t203, own (intK .u8) g200.1 t198, own (intK .u8) v236.1 ((((((((t195 ++ t198) ++ t203) ++ t208) ++ t213) ++ t218) ++ t222) ++ t227) ++ t232), blk b194 24 [eq (.int .i64 a0.fKind), eq (.string a0.fRoom), eq (.string a0.fUser), eq (.string a0.fEvent), eq (.string a0.fThread), eq (.bool a0.fPrivate), eq (.bool a0.fOn), eq (.int .i64 a0.fSpan), eq (.int .i64 a0.fState), eq (.int .i64 a0.fTick), eq (.int .i64 a0.fStamp)]] ++ F) rfl trivial cal47 rfl (concourseref02_Number.c _ h238) (perm_to (L := [own (intK .u8) g234.1 t232, own (intK .u8) g229.1 t227, own (intK .u8) g224.1 t222, own (intK .u8) g215.1 t213, own (intK .u8) g210.1 t208, own (intK .u8) g205.1 t203, own (intK .u8) g200.1 t198, own (intK .u8) v236.1 ((((((((t195 ++ t198) ++ t203) ++ t208) ++ t213) ++ t218) ++ t222) ++ t227) ++ t232), blk b194 24 [eq (.int .i64 a0.fKind), eq (.string a0.fRoom), eq (.string a0.fUser), eq (.string a0.fEvent), eq (.string a0.fThread), eq (.bool a0.fPrivate), eq (.bool a0.fOn), eq (.int .i64 a0.fSpan), eq (.int .i64 a0.fState), eq (.int .i64 a0.fTick), eq (.int .i64 a0.fStamp)]]) (F := F) [0, 1, 2, 3, 4, 5, 6, 7, 8] (by kernel_rfl) rfl rfl) rfl nofun (fun g239 _ => ?_)
  obtain ⟨g240, H⟩ := Gets.grd H
  refine Dv.appx (jj := 8) (ys := t237) (fun v241 : OV => [own (intK .u8) g239.1 t237, own (intK .u8) g234.1 t232, own (intK .u8) g229.1 t227, own (intK .u8) g224.1 t222, own (intK .u8) g215.1 t213, own (intK .u8) g210.1 t208, own (intK .u8) g205.1 t203, own (intK .u8) g200.1 t198, own (intK .u8) v241.1 (((((((((t195 ++ t198) ++ t203) ++ t208) ++ t213) ++ t218) ++ t222) ++ t227) ++ t232) ++ t237), blk b194 24 [eq (.int .i64 a0.fKind), eq (.string a0.fRoom), eq (.string a0.fUser), eq (.string a0.fEvent), eq (.string a0.fThread), eq (.bool a0.fPrivate), eq (.bool a0.fOn), eq (.int .i64 a0.fSpan), eq (.int .i64 a0.fState), eq (.int .i64 a0.fTick), eq (.int .i64 a0.fStamp)]] ++ F) rfl trivial rfl rfl rfl (src_own (mem_at 0 rfl)) Try.underlying62 (.inr ⟨_, Try.underlying62⟩) inf5 rfl (by decide) g240 rfl nofun (fun v241 => ?_)
  refine Dv.asg rfl trivial rfl ?_
  refine .fin ?_
  obtain rfl := Gets.out H
  exact WP.retL (fun _ _ h => h) rfl v241 trivial (.cons (res_tmp rfl) .nil) rfl (st_sel (L := [own (intK .u8) g239.1 t237, own (intK .u8) g234.1 t232, own (intK .u8) g229.1 t227, own (intK .u8) g224.1 t222, own (intK .u8) g215.1 t213, own (intK .u8) g210.1 t208, own (intK .u8) g205.1 t203, own (intK .u8) g200.1 t198, own (intK .u8) v241.1 (((((((((t195 ++ t198) ++ t203) ++ t208) ++ t213) ++ t218) ++ t222) ++ t227) ++ t232) ++ t237), blk b194 24 [eq (.int .i64 a0.fKind), eq (.string a0.fRoom), eq (.string a0.fUser), eq (.string a0.fEvent), eq (.string a0.fThread), eq (.bool a0.fPrivate), eq (.bool a0.fOn), eq (.int .i64 a0.fSpan), eq (.int .i64 a0.fState), eq (.int .i64 a0.fTick), eq (.int .i64 a0.fStamp)]]) (F := F) [0, 1, 2, 3, 4, 5, 6, 7, 9, 8] 9 (by kernel_rfl) rfl rfl)
theorem concourseref03_Compare.c {k : Nat} {a0 : Edu} {a1 : Edu} {r : Int} (h : concourseref03_Compare.f k a0 a1 = some r) : Pt Try.prog 17 [agg (Edu.enc a0), agg (Edu.enc a1)] (eq (.int .i64 r)) := by
  unfold concourseref03_Compare.f at h
  refine (Tr.body Try.func17 (c := _) rfl Try.ntmps17 (Nat.le_of_ble_eq_true rfl) fun R0 F => ?_).pt
  replace h := Gets.of h
  have H := h
  clear h
  refine WP.seq ?_
  refine WP.reg [(0, true), (1, true), (2, false)] (by kernel_rfl) ?_
  refine Dv.box rfl trivial rfl (cells_agg (Edu.K.one _)) nofun (fun b242 => ?_)
  refine Dv.box rfl trivial rfl (cells_agg (Edu.K.one _)) nofun (fun b243 => ?_)
  refine Dv.asg rfl trivial rfl ?_
  refine .fin ?_
  refine WP.seq ?_
  refine WP.seq ?_
  refine WP.reg [(0, false), (1, false), (2, false), (3, false), (4, false)] (by kernel_rfl) ?_
  refine Dv.fab rfl trivial rfl Try.underlying24 rfl Try.underlying3 c3 (by decide) ?_
  refine Dv.ldb rfl trivial rfl Try.underlying3 rfl (mem_at 1 rfl) rfl ?_
  refine Dv.fab rfl trivial rfl Try.underlying24 rfl Try.underlying3 c3 (by decide) ?_
  refine Dv.ldb rfl trivial rfl Try.underlying3 rfl (mem_at 0 rfl) rfl ?_
  refine Dv.bin rfl trivial rfl rfl (fun _ => run_lt) ?_
  refine .fin ?_
  refine WP.cond rfl (fun c244 => ?_) (fun c244 => ?_)
  · replace H := Gets.ct H c244
    refine WP.seq ?_
    refine WP.reg [(0, false)] (by kernel_rfl) ?_
    refine Dv.asg rfl trivial rfl ?_
    refine .fin ?_
    obtain rfl := Gets.out H
    exact WP.retL (fun _ _ h => h) rfl () trivial (.cons (res_tmp rfl) .nil) rfl (st_sel (L := [blk b243 24 [eq (.int .i64 a1.fKind), eq (.string a1.fRoom), eq (.string a1.fUser), eq (.string a1.fEvent), eq (.string a1.fThread), eq (.bool a1.fPrivate), eq (.bool a1.fOn), eq (.int .i64 a1.fSpan), eq (.int .i64 a1.fState), eq (.int .i64 a1.fTick), eq (.int .i64 a1.fStamp)], blk b242 24 [eq (.int .i64 a0.fKind), eq (.string a0.fRoom), eq (.string a0.fUser), eq (.string a0.fEvent), eq (.string a0.fThread), eq (.bool a0.fPrivate), eq (.bool a0.fOn), eq (.int .i64 a0.fSpan), eq (.int .i64 a0.fState), eq (.int .i64 a0.fTick), eq (.int .i64 a0.fStamp)]]) (F := F) [0, 1] 2 rfl rfl rfl)
  · replace H := Gets.cf H c244
    refine WP.skip ?_
    refine WP.seq ?_
    refine WP.seq ?_
    refine WP.reg [(0, false), (1, false), (2, false), (3, false), (4, false)] (by kernel_rfl) ?_
    refine Dv.fab rfl trivial rfl Try.underlying24 rfl Try.underlying3 c3 (by decide) ?_
    refine Dv.ldb rfl trivial rfl Try.underlying3 rfl (mem_at 1 rfl) rfl ?_
    refine Dv.fab rfl trivial rfl Try.underlying24 rfl Try.underlying3 c3 (by decide) ?_
    refine Dv.ldb rfl trivial rfl Try.underlying3 rfl (mem_at 0 rfl) rfl ?_
    refine Dv.bin rfl trivial rfl rfl (fun _ => run_gt) ?_
    refine .fin ?_
    refine WP.cond rfl (fun c245 => ?_) (fun c245 => ?_)
    · replace H := Gets.ct H c245
      refine WP.seq ?_
      refine WP.reg [(0, false)] (by kernel_rfl) ?_
      refine Dv.asg rfl trivial rfl ?_
      refine .fin ?_
      obtain rfl := Gets.out H
      exact WP.retL (fun _ _ h => h) rfl () trivial (.cons (res_tmp rfl) .nil) rfl (st_sel (L := [blk b243 24 [eq (.int .i64 a1.fKind), eq (.string a1.fRoom), eq (.string a1.fUser), eq (.string a1.fEvent), eq (.string a1.fThread), eq (.bool a1.fPrivate), eq (.bool a1.fOn), eq (.int .i64 a1.fSpan), eq (.int .i64 a1.fState), eq (.int .i64 a1.fTick), eq (.int .i64 a1.fStamp)], blk b242 24 [eq (.int .i64 a0.fKind), eq (.string a0.fRoom), eq (.string a0.fUser), eq (.string a0.fEvent), eq (.string a0.fThread), eq (.bool a0.fPrivate), eq (.bool a0.fOn), eq (.int .i64 a0.fSpan), eq (.int .i64 a0.fState), eq (.int .i64 a0.fTick), eq (.int .i64 a0.fStamp)]]) (F := F) [0, 1] 2 rfl rfl rfl)
    · replace H := Gets.cf H c245
      refine WP.skip ?_
      refine WP.seq ?_
      refine WP.reg [(0, false), (1, true), (2, false), (3, false)] (by kernel_rfl) ?_
      refine Dv.ldbs rfl trivial rfl Try.underlying24 rfl c24 (mem_at 1 rfl) (Nat.le_of_ble_eq_true rfl) ?_
      obtain ⟨t246, h247, H⟩ := Gets.call H
      refine Dv.callx (pre := []) (F := [blk b243 24 [eq (.int .i64 a1.fKind), eq (.string a1.fRoom), eq (.string a1.fUser), eq (.string a1.fEvent), eq (.string a1.fThread), eq (.bool a1.fPrivate), eq (.bool a1.fOn), eq (.int .i64 a1.fSpan), eq (.int .i64 a1.fState), eq (.int .i64 a1.fTick), eq (.int .i64 a1.fStamp)], blk b242 24 [eq (.int .i64 a0.fKind), eq (.string a0.fRoom), eq (.string a0.fUser), eq (.string a0.fEvent), eq (.string a0.fThread), eq (.bool a0.fPrivate), eq (.bool a0.fOn), eq (.int .i64 a0.fSpan), eq (.int .i64 a0.fState), eq (.int .i64 a0.fTick), eq (.int .i64 a0.fStamp)]] ++ F) (fun g248 : OV => [own (intK .u8) g248.1 t246, blk b243 24 [eq (.int .i64 a1.fKind), eq (.string a1.fRoom), eq (.string a1.fUser), eq (.string a1.fEvent), eq (.string a1.fThread), eq (.bool a1.fPrivate), eq (.bool a1.fOn), eq (.int .i64 a1.fSpan), eq (.int .i64 a1.fState), eq (.int .i64 a1.fTick), eq (.int .i64 a1.fStamp)], blk b242 24 [eq (.int .i64 a0.fKind), eq (.string a0.fRoom), eq (.string a0.fUser), eq (.string a0.fEvent), eq (.string a0.fThread), eq (.bool a0.fPrivate), eq (.bool a0.fOn), eq (.int .i64 a0.fSpan), eq (.int .i64 a0.fState), eq (.int .i64 a0.fTick), eq (.int .i64 a0.fStamp)]] ++ F) rfl trivial cal29 rfl (concourseref03_Bytes.c h247) (perm_to (L := [blk b243 24 [eq (.int .i64 a1.fKind), eq (.string a1.fRoom), eq (.string a1.fUser), eq (.string a1.fEvent), eq (.string a1.fThread), eq (.bool a1.fPrivate), eq (.bool a1.fOn), eq (.int .i64 a1.fSpan), eq (.int .i64 a1.fState), eq (.int .i64 a1.fTick), eq (.int .i64 a1.fStamp)], blk b242 24 [eq (.int .i64 a0.fKind), eq (.string a0.fRoom), eq (.string a0.fUser), eq (.string a0.fEvent), eq (.string a0.fThread), eq (.bool a0.fPrivate), eq (.bool a0.fOn), eq (.int .i64 a0.fSpan), eq (.int .i64 a0.fState), eq (.int .i64 a0.fTick), eq (.int .i64 a0.fStamp)]]) (F := F) [0, 1] rfl rfl rfl) rfl nofun (fun g248 _ => ?_)
      refine Dv.gh (gh_frz (E' := [(0, agg (Edu.enc a0)), (1, agg (Edu.enc a1)), (2, eq (.pointer (some ⟨b242, 0, none⟩))), (3, eq (.pointer (some ⟨b243, 0, none⟩))), (4, eq (.int .i64 0)), (11, eq (.bool (decide (a0.fStamp < a1.fStamp)))), (16, eq (.bool (decide (a1.fStamp < a0.fStamp)))), (18, sl (intK .u8) t246)]) (l' := [blk b243 24 [eq (.int .i64 a1.fKind), eq (.string a1.fRoom), eq (.string a1.fUser), eq (.string a1.fEvent), eq (.string a1.fThread), eq (.bool a1.fPrivate), eq (.bool a1.fOn), eq (.int .i64 a1.fSpan), eq (.int .i64 a1.fState), eq (.int .i64 a1.fTick), eq (.int .i64 a1.fStamp)], blk b242 24 [eq (.int .i64 a0.fKind), eq (.string a0.fRoom), eq (.string a0.fUser), eq (.string a0.fEvent), eq (.string a0.fThread), eq (.bool a0.fPrivate), eq (.bool a0.fOn), eq (.int .i64 a0.fSpan), eq (.int .i64 a0.fState), eq (.int .i64 a0.fTick), eq (.int .i64 a0.fStamp)]] ++ F) 0 rfl (cve_cons rfl cv_id (cve_cons rfl cv_id (cve_cons rfl cv_id (cve_cons rfl cv_id (cve_cons rfl cv_id (cve_cons rfl cv_id (cve_cons rfl cv_id (cve_cons rfl cv_eq cve_nil)))))))) (all2_app (.cons cva_id (.cons cva_id .nil)) fun _ => cva_id)) (fun _ _ => ?_)
      refine Dv.cvbs rfl trivial rfl Try.underlying62 Try.underlying5 Try.underlying9 ?_
      refine Dv.asg rfl trivial rfl ?_
      refine .fin ?_
      refine WP.seq ?_
      refine WP.reg [(0, false), (1, true), (2, false), (3, false)] (by kernel_rfl) ?_
      refine Dv.ldbs rfl trivial rfl Try.underlying24 rfl c24 (mem_at 0 rfl) (Nat.le_of_ble_eq_true rfl) ?_
      obtain ⟨t249, h250, H⟩ := Gets.call H
      refine Dv.callx (pre := []) (F := [blk b243 24 [eq (.int .i64 a1.fKind), eq (.string a1.fRoom), eq (.string a1.fUser), eq (.string a1.fEvent), eq (.string a1.fThread), eq (.bool a1.fPrivate), eq (.bool a1.fOn), eq (.int .i64 a1.fSpan), eq (.int .i64 a1.fState), eq (.int .i64 a1.fTick), eq (.int .i64 a1.fStamp)], blk b242 24 [eq (.int .i64 a0.fKind), eq (.string a0.fRoom), eq (.string a0.fUser), eq (.string a0.fEvent), eq (.string a0.fThread), eq (.bool a0.fPrivate), eq (.bool a0.fOn), eq (.int .i64 a0.fSpan), eq (.int .i64 a0.fState), eq (.int .i64 a0.fTick), eq (.int .i64 a0.fStamp)]] ++ F) (fun g251 : OV => [own (intK .u8) g251.1 t249, blk b243 24 [eq (.int .i64 a1.fKind), eq (.string a1.fRoom), eq (.string a1.fUser), eq (.string a1.fEvent), eq (.string a1.fThread), eq (.bool a1.fPrivate), eq (.bool a1.fOn), eq (.int .i64 a1.fSpan), eq (.int .i64 a1.fState), eq (.int .i64 a1.fTick), eq (.int .i64 a1.fStamp)], blk b242 24 [eq (.int .i64 a0.fKind), eq (.string a0.fRoom), eq (.string a0.fUser), eq (.string a0.fEvent), eq (.string a0.fThread), eq (.bool a0.fPrivate), eq (.bool a0.fOn), eq (.int .i64 a0.fSpan), eq (.int .i64 a0.fState), eq (.int .i64 a0.fTick), eq (.int .i64 a0.fStamp)]] ++ F) rfl trivial cal29 rfl (concourseref03_Bytes.c h250) (perm_to (L := [blk b243 24 [eq (.int .i64 a1.fKind), eq (.string a1.fRoom), eq (.string a1.fUser), eq (.string a1.fEvent), eq (.string a1.fThread), eq (.bool a1.fPrivate), eq (.bool a1.fOn), eq (.int .i64 a1.fSpan), eq (.int .i64 a1.fState), eq (.int .i64 a1.fTick), eq (.int .i64 a1.fStamp)], blk b242 24 [eq (.int .i64 a0.fKind), eq (.string a0.fRoom), eq (.string a0.fUser), eq (.string a0.fEvent), eq (.string a0.fThread), eq (.bool a0.fPrivate), eq (.bool a0.fOn), eq (.int .i64 a0.fSpan), eq (.int .i64 a0.fState), eq (.int .i64 a0.fTick), eq (.int .i64 a0.fStamp)]]) (F := F) [0, 1] rfl rfl rfl) rfl nofun (fun g251 _ => ?_)
      refine Dv.gh (gh_frz (E' := [(0, agg (Edu.enc a0)), (1, agg (Edu.enc a1)), (2, eq (.pointer (some ⟨b242, 0, none⟩))), (3, eq (.pointer (some ⟨b243, 0, none⟩))), (4, eq (.int .i64 0)), (5, eq (.string (ofNums t246))), (11, eq (.bool (decide (a0.fStamp < a1.fStamp)))), (16, eq (.bool (decide (a1.fStamp < a0.fStamp)))), (21, sl (intK .u8) t249)]) (l' := [blk b243 24 [eq (.int .i64 a1.fKind), eq (.string a1.fRoom), eq (.string a1.fUser), eq (.string a1.fEvent), eq (.string a1.fThread), eq (.bool a1.fPrivate), eq (.bool a1.fOn), eq (.int .i64 a1.fSpan), eq (.int .i64 a1.fState), eq (.int .i64 a1.fTick), eq (.int .i64 a1.fStamp)], blk b242 24 [eq (.int .i64 a0.fKind), eq (.string a0.fRoom), eq (.string a0.fUser), eq (.string a0.fEvent), eq (.string a0.fThread), eq (.bool a0.fPrivate), eq (.bool a0.fOn), eq (.int .i64 a0.fSpan), eq (.int .i64 a0.fState), eq (.int .i64 a0.fTick), eq (.int .i64 a0.fStamp)]] ++ F) 0 rfl (cve_cons rfl cv_id (cve_cons rfl cv_id (cve_cons rfl cv_id (cve_cons rfl cv_id (cve_cons rfl cv_id (cve_cons rfl cv_id (cve_cons rfl cv_id (cve_cons rfl cv_id (cve_cons rfl cv_eq cve_nil))))))))) (all2_app (.cons cva_id (.cons cva_id .nil)) fun _ => cva_id)) (fun _ _ => ?_)
      refine Dv.cvbs rfl trivial rfl Try.underlying62 Try.underlying5 Try.underlying9 ?_
      refine Dv.asg rfl trivial rfl ?_
      refine .fin ?_
      refine WP.seq ?_
      refine WP.seq ?_
      refine WP.reg [(0, false), (1, false), (2, false)] (by kernel_rfl) ?_
      refine Dv.mv rfl trivial rfl ?_
      refine Dv.mv rfl trivial rfl ?_
      refine Dv.bin rfl trivial rfl rfl (fun _ => run_slt) ?_
      refine .fin ?_
      refine WP.cond rfl (fun c252 => ?_) (fun c252 => ?_)
      · replace H := Gets.ct H c252
        refine WP.seq ?_
        refine WP.reg [(0, false)] (by kernel_rfl) ?_
        refine Dv.asg rfl trivial rfl ?_
        refine .fin ?_
        obtain rfl := Gets.out H
        exact WP.retL (fun _ _ h => h) rfl () trivial (.cons (res_tmp rfl) .nil) rfl (st_sel (L := [blk b243 24 [eq (.int .i64 a1.fKind), eq (.string a1.fRoom), eq (.string a1.fUser), eq (.string a1.fEvent), eq (.string a1.fThread), eq (.bool a1.fPrivate), eq (.bool a1.fOn), eq (.int .i64 a1.fSpan), eq (.int .i64 a1.fState), eq (.int .i64 a1.fTick), eq (.int .i64 a1.fStamp)], blk b242 24 [eq (.int .i64 a0.fKind), eq (.string a0.fRoom), eq (.string a0.fUser), eq (.string a0.fEvent), eq (.string a0.fThread), eq (.bool a0.fPrivate), eq (.bool a0.fOn), eq (.int .i64 a0.fSpan), eq (.int .i64 a0.fState), eq (.int .i64 a0.fTick), eq (.int .i64 a0.fStamp)]]) (F := F) [0, 1] 2 rfl rfl rfl)
      · replace H := Gets.cf H c252
        refine WP.skip ?_
        refine WP.seq ?_
        refine WP.seq ?_
        refine WP.reg [(0, false), (1, false), (2, false)] (by kernel_rfl) ?_
        refine Dv.mv rfl trivial rfl ?_
        refine Dv.mv rfl trivial rfl ?_
        refine Dv.bin rfl trivial rfl rfl (fun _ => run_sgt) ?_
        refine .fin ?_
        refine WP.cond rfl (fun c253 => ?_) (fun c253 => ?_)
        · replace H := Gets.ct H c253
          refine WP.seq ?_
          refine WP.reg [(0, false)] (by kernel_rfl) ?_
          refine Dv.asg rfl trivial rfl ?_
          refine .fin ?_
          obtain rfl := Gets.out H
          exact WP.retL (fun _ _ h => h) rfl () trivial (.cons (res_tmp rfl) .nil) rfl (st_sel (L := [blk b243 24 [eq (.int .i64 a1.fKind), eq (.string a1.fRoom), eq (.string a1.fUser), eq (.string a1.fEvent), eq (.string a1.fThread), eq (.bool a1.fPrivate), eq (.bool a1.fOn), eq (.int .i64 a1.fSpan), eq (.int .i64 a1.fState), eq (.int .i64 a1.fTick), eq (.int .i64 a1.fStamp)], blk b242 24 [eq (.int .i64 a0.fKind), eq (.string a0.fRoom), eq (.string a0.fUser), eq (.string a0.fEvent), eq (.string a0.fThread), eq (.bool a0.fPrivate), eq (.bool a0.fOn), eq (.int .i64 a0.fSpan), eq (.int .i64 a0.fState), eq (.int .i64 a0.fTick), eq (.int .i64 a0.fStamp)]]) (F := F) [0, 1] 2 rfl rfl rfl)
        · replace H := Gets.cf H c253
          refine WP.skip ?_
          refine WP.seq ?_
          refine WP.reg [(0, false)] (by kernel_rfl) ?_
          refine Dv.asg rfl trivial rfl ?_
          refine .fin ?_
          obtain rfl := Gets.out H
          exact WP.retL (fun _ _ h => h) rfl () trivial (.cons (res_tmp rfl) .nil) rfl (st_sel (L := [blk b243 24 [eq (.int .i64 a1.fKind), eq (.string a1.fRoom), eq (.string a1.fUser), eq (.string a1.fEvent), eq (.string a1.fThread), eq (.bool a1.fPrivate), eq (.bool a1.fOn), eq (.int .i64 a1.fSpan), eq (.int .i64 a1.fState), eq (.int .i64 a1.fTick), eq (.int .i64 a1.fStamp)], blk b242 24 [eq (.int .i64 a0.fKind), eq (.string a0.fRoom), eq (.string a0.fUser), eq (.string a0.fEvent), eq (.string a0.fThread), eq (.bool a0.fPrivate), eq (.bool a0.fOn), eq (.int .i64 a0.fSpan), eq (.int .i64 a0.fState), eq (.int .i64 a0.fTick), eq (.int .i64 a0.fStamp)]]) (F := F) [0, 1] 2 rfl rfl rfl)
end Go.Proofs.Ytegmafgodoikiaa
