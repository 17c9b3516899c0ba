/- The walks. -/
import Derived.Test.YtmbodanckhidiaaGreatZWalks3
import Derived.Test.YtmbodanckhidiaaGreatConQ
import Derived.Eval
set_option linter.all false
set_option maxRecDepth 10000
set_option maxHeartbeats 20000000
namespace Go.Proofs.YtmbodanckhidiaaGreat
open Go Go.Sp
theorem concourselaw14_TypingEnds.c {k : Nat} {a0 : List Edu} {r : Bool} (h : concourselaw14_TypingEnds.f k a0 = some r) : Pt Tryz.prog 4 [sl Edu.K a0] (eq (.bool r)) := by
  unfold concourselaw14_TypingEnds.f at h
  refine (Tr.body Tryz.func4 (c := _) rfl Tryz.ntmps4 (Nat.le_of_ble_eq_true rfl) fun R0 F => ?_).pt
  replace h := Gets.of h
  have H := h
  clear h
  refine WP.seq ?_
  refine WP.reg [(0, false)] (by kernel_rfl) ?_
  refine as0 rfl rfl ?_
  refine .fin ?_
  refine WP.seq ?_
  refine WP.reg [(0, true), (1, false)] (by kernel_rfl) ?_
  obtain ⟨t611, h612, H⟩ := Gets.call H
  refine Dv.callx (pre := []) (F := [] ++ F) (fun g613 : OV => [TTab.O g613 t611] ++ F) rfl trivial cal5 rfl (typing_New.c h612) (perm_ton 0 [] rfl rfl rfl) rfl nofun (fun g613 _ => ?_)
  refine as0 rfl rfl ?_
  refine .fin ?_
  refine WP.seq ?_
  refine WP.seq ?_
  refine WP.reg [(0, false), (1, false)] (by kernel_rfl) ?_
  refine mv0 rfl rfl ?_
  refine Dv.peq0 TTab.nn rfl trivial rfl rfl Tryz.underlying25 (mem_at 0 rfl) ?_
  refine .fin ?_
  refine WP.cond rfl nofun (fun _ => ?_)
  refine WP.skip ?_
  refine WP.seqn H id (fun p615 : Int × Bool × TTab => [(0, sl Edu.K a0), (2, eq (.bool false)), (3, eq g613.1), (4, eq (.int .i64 p615.1)), (14, eq (.bool false)), (22, eq (.bool p615.2.1))]) (fun p615 : Int × Bool × TTab => [TTab.O g613 p615.2.2] ++ F) (fun p615 H => ?_) (fun H => ?_)
  · refine WP.seq ?_
    refine WP.reg [(0, false), (1, true), (2, false)] (by kernel_rfl) ?_
    refine mv0 rfl rfl ?_
    refine Dv.gh (l' := fun (g616 : Nat × OV × OV) => [blk g616.1 56 [eq g616.2.1.1, eq g616.2.2.1], own Edu.K g616.2.1.1 p615.2.2.fl, HHeap.O g616.2.2 p615.2.2.fends] ++ F) (gh_of (TTab.opn 0 rfl)) (fun g616 h617 => ?_)
    obtain ⟨t618, h619, H⟩ := Gets.call H
    refine Dv.callx (pre := [blk g616.1 56 [eq g616.2.1.1, eq g616.2.2.1], own Edu.K g616.2.1.1 p615.2.2.fl]) (F := [HHeap.O g616.2.2 p615.2.2.fends] ++ F) (fun g620 : OV => [blk g616.1 56 [eq g616.2.1.1, eq g616.2.2.1], own Edu.K g616.2.1.1 p615.2.2.fl, own Edu.K g620.1 t618, HHeap.O g616.2.2 p615.2.2.fends] ++ F) rfl trivial cal16 rfl (Tr.weak (typing_Table_All.c h619 (b0_ := g616.1) (v0_0 := g616.2.1) (v0_1 := g616.2.2)) (.cons (wk_ptr h617) .nil)) (perm_ton 3 [0, 1, 2] rfl rfl rfl) rfl nofun (fun g620 _ => ?_)
    refine as0 rfl rfl ?_
    refine .fin ?_
    refine WP.seqr H id (fun p621 : Int × Bool => [(0, sl Edu.K a0), (2, eq (.bool false)), (3, eq g613.1), (4, eq (.int .i64 p615.1)), (5, eq g620.1), (6, eq (.int .i64 p621.1)), (14, eq (.bool false)), (22, eq (.bool p615.2.1)), (37, eq (.bool p621.2))]) (fun p621 : Int × Bool => [TTab.O g613 p615.2.2, own Edu.K g620.1 t618] ++ F) (fun p621 H => ?_) (fun H => ?_)
    · refine WP.seq ?_
      refine WP.reg [(0, false), (1, true), (2, false), (3, false), (4, false), (5, false), (6, false)] (by kernel_rfl) ?_
      refine mv0 rfl rfl ?_
      obtain ⟨t622, h623, H⟩ := Gets.call H
      refine Dv.callx (pre := [TTab.O g613 p615.2.2]) (F := [own Edu.K g620.1 t618] ++ F) (fun _ : Unit => [TTab.O g613 p615.2.2, own Edu.K g620.1 t618] ++ F) rfl trivial cal13 rfl (typing_Table_Next.c h623 (p0_ := g613)) (perm_ton 2 [0, 1] rfl rfl rfl) rfl nofun (fun _ _ => ?_)
      refine mv0 rfl rfl ?_
      refine Dv.ext rfl trivial rfl rfl ?_
      refine Dv.ext rfl trivial rfl rfl ?_
      refine as0 rfl rfl ?_
      refine as0 rfl rfl ?_
      refine .fin ?_
      refine WP.seq ?_
      refine WP.seq ?_
      refine WP.reg [(0, false), (1, false), (2, false), (3, false), (4, false), (5, true), (6, false), (7, false), (8, false)] (by kernel_rfl) ?_
      refine mv0 rfl rfl ?_
      refine mv0 rfl rfl ?_
      cases c624 : t622.2
      · replace H := Gets.cf H c624
        refine sk rfl rfl rfl rfl rfl ?_
        refine sk rfl rfl rfl rfl rfl ?_
        refine sk rfl rfl rfl rfl rfl ?_
        refine Dv.skipb rfl ⟨_, _, rfl, rfl, .inl rfl⟩ nofun ?_
        refine sk rfl rfl rfl rfl rfl ?_
        refine sk rfl rfl rfl rfl rfl ?_
        refine Dv.pickF rfl trivial rfl rfl ?_
        refine .fin ?_
        refine WP.cond rfl nofun (fun _ => ?_)
        refine WP.skip ?_
        refine WP.seq ?_
        refine WP.seq ?_
        refine WP.reg [(0, false), (1, false), (2, false), (3, false), (4, false), (5, false), (6, false), (7, false)] (by kernel_rfl) ?_
        refine mv0 rfl rfl ?_
        refine mv0 rfl rfl ?_
        refine sk rfl rfl rfl rfl rfl ?_
        refine sk rfl rfl rfl rfl rfl ?_
        refine sk rfl rfl rfl rfl rfl ?_
        refine sk rfl rfl rfl rfl rfl ?_
        refine sk rfl rfl rfl rfl rfl ?_
        refine Dv.pickF rfl trivial rfl rfl ?_
        refine .fin ?_
        refine WP.cond rfl nofun (fun _ => ?_)
        refine WP.skip ?_
        refine WP.seq ?_
        refine WP.reg [(0, false), (1, true)] (by kernel_rfl) ?_
        refine mv0 rfl rfl ?_
        obtain ⟨t661, h662, H⟩ := Gets.call H
        refine Dv.callx (pre := [TTab.O g613 p615.2.2]) (F := [own Edu.K g620.1 t618] ++ F) (fun g663 : OV => [TTab.O g613 t661.2, own strK g663.1 t661.1, own Edu.K g620.1 t618] ++ F) rfl trivial cal12 rfl (typing_Table_Ended.c h662 (p0_ := g613)) (perm_ton 2 [0, 1] rfl rfl rfl) rfl nofun (fun g663 _ => ?_)
        refine .fin ?_
        refine WP.seq ?_
        refine WP.reg [(0, false), (1, true), (2, false), (3, false), (4, false), (5, false), (6, false)] (by kernel_rfl) ?_
        refine mv0 rfl rfl ?_
        obtain ⟨t664, h665, H⟩ := Gets.call H
        refine Dv.callx (pre := [TTab.O g613 t661.2]) (F := [own strK g663.1 t661.1, own Edu.K g620.1 t618] ++ F) (fun _ : Unit => [TTab.O g613 t661.2, own strK g663.1 t661.1, own Edu.K g620.1 t618] ++ F) rfl trivial cal13 rfl (typing_Table_Next.c h665 (p0_ := g613)) (perm_ton 3 [0, 1, 2] rfl rfl rfl) rfl nofun (fun _ _ => ?_)
        refine mv0 rfl rfl ?_
        refine Dv.ext rfl trivial rfl rfl ?_
        refine Dv.ext rfl trivial rfl rfl ?_
        refine as0 rfl rfl ?_
        refine as0 rfl rfl ?_
        refine .fin ?_
        refine WP.seq ?_
        refine WP.reg [(0, false), (1, false), (2, false), (3, false), (4, true), (5, false), (6, false), (7, false), (8, false), (9, false), (10, false), (11, true), (12, false), (13, false), (14, false), (15, false), (16, false), (17, false), (18, true), (19, false), (20, false), (21, false), (22, false), (23, false), (24, false), (25, false)] (by kernel_rfl) ?_
        refine mv0 rfl rfl ?_
        refine Dv.un rfl trivial rfl (fun _ => run_not _) ?_
        refine mv0 rfl rfl ?_
        cases c666 : !t664.2
        · replace H := Gets.cf H c666
          refine sk rfl rfl rfl rfl rfl ?_
          refine Dv.skipb rfl ⟨_, _, rfl, rfl, .inl rfl⟩ nofun ?_
          refine sk rfl rfl rfl rfl rfl ?_
          refine sk rfl rfl rfl rfl rfl ?_
          refine Dv.pickF rfl trivial rfl rfl ?_
          refine mv0 rfl rfl ?_
          refine sk rfl rfl rfl rfl rfl ?_
          refine sk rfl rfl rfl rfl rfl ?_
          refine Dv.skipb rfl ⟨_, _, rfl, rfl, .inl rfl⟩ nofun ?_
          refine sk rfl rfl rfl rfl rfl ?_
          refine sk rfl rfl rfl rfl rfl ?_
          refine Dv.pickF rfl trivial rfl rfl ?_
          refine mv0 rfl rfl ?_
          refine sk rfl rfl rfl rfl rfl ?_
          refine sk rfl rfl rfl rfl rfl ?_
          refine Dv.skipb rfl ⟨_, _, rfl, rfl, .inl rfl⟩ nofun ?_
          refine sk rfl rfl rfl rfl rfl ?_
          refine sk rfl rfl rfl rfl rfl ?_
          refine Dv.pickF rfl trivial rfl rfl ?_
          refine mv0 rfl rfl ?_
          refine sk rfl rfl rfl rfl rfl ?_
          refine Dv.pickF rfl trivial rfl rfl ?_
          refine as0 rfl rfl ?_
          refine .fin ?_
          obtain rfl := Gets.out H
          exact WP.retL (fun _ _ h => h) rfl () trivial (.cons (res_tmp rfl) .nil) rfl (st_seln 3 [0, 1, 2] 3 rfl rfl rfl)
        · replace H := Gets.ct H c666
          refine Dv.mv rfl ⟨_, _, rfl, rfl, rfl⟩ rfl ?_
          obtain ⟨t667, h668, H⟩ := Gets.call H
          refine Dv.callx (pre := [TTab.O g613 t661.2]) (F := [own strK g663.1 t661.1, own Edu.K g620.1 t618] ++ F) (fun g669 : OV => [TTab.O g613 t667.2, own strK g669.1 t667.1, own strK g663.1 t661.1, own Edu.K g620.1 t618] ++ F) rfl ⟨_, _, rfl, rfl, rfl⟩ cal12 rfl (typing_Table_Ended.c h668 (p0_ := g613)) (perm_ton 3 [0, 1, 2] rfl rfl rfl) rfl nofun (fun g669 _ => ?_)
          refine Dv.lenw rfl ⟨_, _, rfl, rfl, rfl⟩ rfl (mem_at 1 rfl) Tryz.underlying37 ?_
          refine Dv.bin rfl ⟨_, _, rfl, rfl, rfl⟩ rfl rfl (fun _ => run_eq) ?_
          refine Dv.pickT rfl trivial rfl rfl ?_
          refine mv0 rfl rfl ?_
          cases c670 : ((t667.1.length : Int) == 0)
          · replace H := Gets.cf H c670
            refine sk rfl rfl rfl rfl rfl ?_
            refine sk rfl rfl rfl rfl rfl ?_
            refine Dv.skipb rfl ⟨_, _, rfl, rfl, .inl rfl⟩ nofun ?_
            refine sk rfl rfl rfl rfl rfl ?_
            refine sk rfl rfl rfl rfl rfl ?_
            refine Dv.pickF rfl trivial rfl rfl ?_
            refine mv0 rfl rfl ?_
            refine sk rfl rfl rfl rfl rfl ?_
            refine sk rfl rfl rfl rfl rfl ?_
            refine Dv.skipb rfl ⟨_, _, rfl, rfl, .inl rfl⟩ nofun ?_
            refine sk rfl rfl rfl rfl rfl ?_
            refine sk rfl rfl rfl rfl rfl ?_
            refine Dv.pickF rfl trivial rfl rfl ?_
            refine mv0 rfl rfl ?_
            refine sk rfl rfl rfl rfl rfl ?_
            refine Dv.pickF rfl trivial rfl rfl ?_
            refine as0 rfl rfl ?_
            refine .fin ?_
            obtain rfl := Gets.out H
            exact WP.retL (fun _ _ h => h) rfl () trivial (.cons (res_tmp rfl) .nil) rfl (st_seln 4 [0, 1, 2, 3] 4 rfl rfl rfl)
          · replace H := Gets.ct H c670
            refine Dv.mv rfl ⟨_, _, rfl, rfl, rfl⟩ rfl ?_
            obtain ⟨t671, h672, H⟩ := Gets.call H
            refine Dv.call rfl ⟨_, _, rfl, rfl, rfl⟩ cal20 rfl (concourseref01_RoomOf.c h672) ?_
            refine Dv.gh (l' := fun (g673 : Nat × OV × OV) => [blk g673.1 56 [eq g673.2.1.1, eq g673.2.2.1], own Edu.K g673.2.1.1 t667.2.fl, HHeap.O g673.2.2 t667.2.fends, own strK g669.1 t667.1, own strK g663.1 t661.1, own Edu.K g620.1 t618] ++ F) (gh_of (TTab.opn 0 rfl)) (fun g673 h674 => ?_)
            obtain ⟨t675, h676, H⟩ := Gets.call H
            refine Dv.callx (pre := [blk g673.1 56 [eq g673.2.1.1, eq g673.2.2.1], own Edu.K g673.2.1.1 t667.2.fl]) (F := [HHeap.O g673.2.2 t667.2.fends, own strK g669.1 t667.1, own strK g663.1 t661.1, own Edu.K g620.1 t618] ++ F) (fun g677 : OV => [blk g673.1 56 [eq g673.2.1.1, eq g673.2.2.1], own Edu.K g673.2.1.1 t667.2.fl, own strK g677.1 t675, HHeap.O g673.2.2 t667.2.fends, own strK g669.1 t667.1, own strK g663.1 t661.1, own Edu.K g620.1 t618] ++ F) rfl ⟨_, _, rfl, rfl, rfl⟩ cal19 rfl (Tr.weak (typing_Table_Users.c h676 (b0_ := g673.1) (v0_0 := g673.2.1) (v0_1 := g673.2.2)) (.cons (wk_ptr h674) (.cons wk_id (.cons wk_id .nil)))) (perm_ton 6 [0, 1, 2, 3, 4, 5] (by kernel_rfl) rfl rfl) rfl nofun (fun g677 _ => ?_)
            refine Dv.lenw rfl ⟨_, _, rfl, rfl, rfl⟩ rfl (mem_at 2 rfl) Tryz.underlying37 ?_
            refine Dv.bin rfl ⟨_, _, rfl, rfl, rfl⟩ rfl rfl (fun _ => run_eq) ?_
            refine Dv.pickT rfl trivial rfl rfl ?_
            refine mv0 rfl rfl ?_
            cases c678 : ((t675.length : Int) == 0)
            · replace H := Gets.cf H c678
              refine sk rfl rfl rfl rfl rfl ?_
              refine sk rfl rfl rfl rfl rfl ?_
              refine Dv.skipb rfl ⟨_, _, rfl, rfl, .inl rfl⟩ nofun ?_
              refine sk rfl rfl rfl rfl rfl ?_
              refine sk rfl rfl rfl rfl rfl ?_
              refine Dv.pickF rfl trivial rfl rfl ?_
              refine mv0 rfl rfl ?_
              refine sk rfl rfl rfl rfl rfl ?_
              refine Dv.pickF rfl trivial rfl rfl ?_
              refine as0 rfl rfl ?_
              refine .fin ?_
              refine WP.gh (l' := fun _ : Unit => [TTab.O g613 t667.2, own strK g677.1 t675, own strK g669.1 t667.1, own strK g663.1 t661.1, own Edu.K g620.1 t618] ++ F) (gh_of (TTab.shut (p := g613) (m := t667.2) (r := [own strK g677.1 t675, own strK g669.1 t667.1, own strK g663.1 t661.1, own Edu.K g620.1 t618] ++ F) (g673.1, g673.2.1, g673.2.2) h674 (perm_ton 7 [0, 1, 3, 2, 4, 5, 6] (by kernel_rfl) rfl rfl))) (fun _ _ => ?_)
              obtain rfl := Gets.out H
              exact WP.retL (fun _ _ h => h) rfl () trivial (.cons (res_tmp rfl) .nil) rfl (st_seln 5 [0, 1, 2, 3, 4] 5 (by kernel_rfl) rfl rfl)
            · replace H := Gets.ct H c678
              refine Dv.mv rfl ⟨_, _, rfl, rfl, rfl⟩ rfl ?_
              obtain ⟨t679, h680, H⟩ := Gets.call H
              refine Dv.call rfl ⟨_, _, rfl, rfl, rfl⟩ cal20 rfl (concourseref01_RoomOf.c h680) ?_
              obtain ⟨t681, h682, H⟩ := Gets.call H
              refine Dv.callx (pre := [blk g673.1 56 [eq g673.2.1.1, eq g673.2.2.1], own Edu.K g673.2.1.1 t667.2.fl]) (F := [own strK g677.1 t675, HHeap.O g673.2.2 t667.2.fends, own strK g669.1 t667.1, own strK g663.1 t661.1, own Edu.K g620.1 t618] ++ F) (fun g683 : OV => [blk g673.1 56 [eq g673.2.1.1, eq g673.2.2.1], own Edu.K g673.2.1.1 t667.2.fl, own strK g683.1 t681, own strK g677.1 t675, HHeap.O g673.2.2 t667.2.fends, own strK g669.1 t667.1, own strK g663.1 t661.1, own Edu.K g620.1 t618] ++ F) rfl ⟨_, _, rfl, rfl, rfl⟩ cal19 rfl (Tr.weak (typing_Table_Users.c h682 (b0_ := g673.1) (v0_0 := g673.2.1) (v0_1 := g673.2.2)) (.cons (wk_ptr h674) (.cons wk_id (.cons wk_id .nil)))) (perm_ton 7 [0, 1, 2, 3, 4, 5, 6] (by kernel_rfl) rfl rfl) rfl nofun (fun g683 _ => ?_)
              refine Dv.lenw rfl ⟨_, _, rfl, rfl, rfl⟩ rfl (mem_at 2 rfl) Tryz.underlying37 ?_
              refine Dv.bin rfl ⟨_, _, rfl, rfl, rfl⟩ rfl rfl (fun _ => run_eq) ?_
              refine Dv.pickT rfl trivial rfl rfl ?_
              refine mv0 rfl rfl ?_
              cases c684 : ((t681.length : Int) == 0)
              · replace H := Gets.cf H c684
                refine sk rfl rfl rfl rfl rfl ?_
                refine Dv.pickF rfl trivial rfl rfl ?_
                refine as0 rfl rfl ?_
                refine .fin ?_
                refine WP.gh (l' := fun _ : Unit => [TTab.O g613 t667.2, own strK g683.1 t681, own strK g677.1 t675, own strK g669.1 t667.1, own strK g663.1 t661.1, own Edu.K g620.1 t618] ++ F) (gh_of (TTab.shut (p := g613) (m := t667.2) (r := [own strK g683.1 t681, own strK g677.1 t675, own strK g669.1 t667.1, own strK g663.1 t661.1, own Edu.K g620.1 t618] ++ F) (g673.1, g673.2.1, g673.2.2) h674 (perm_ton 8 [0, 1, 4, 2, 3, 5, 6, 7] (by kernel_rfl) rfl rfl))) (fun _ _ => ?_)
                obtain rfl := Gets.out H
                exact WP.retL (fun _ _ h => h) rfl () trivial (.cons (res_tmp rfl) .nil) rfl (st_seln 6 [0, 1, 2, 3, 4, 5] 6 (by kernel_rfl) rfl rfl)
              · replace H := Gets.ct H c684
                obtain ⟨t685, h686, H⟩ := Gets.call H
                refine Dv.call rfl ⟨_, _, rfl, rfl, rfl⟩ cal17 rfl (concourselaw14_lives.c h686) ?_
                refine Dv.pickT rfl trivial rfl rfl ?_
                refine as0 rfl rfl ?_
                refine .fin ?_
                refine WP.gh (l' := fun _ : Unit => [TTab.O g613 t667.2, own strK g683.1 t681, own strK g677.1 t675, own strK g669.1 t667.1, own strK g663.1 t661.1, own Edu.K g620.1 t618] ++ F) (gh_of (TTab.shut (p := g613) (m := t667.2) (r := [own strK g683.1 t681, own strK g677.1 t675, own strK g669.1 t667.1, own strK g663.1 t661.1, own Edu.K g620.1 t618] ++ F) (g673.1, g673.2.1, g673.2.2) h674 (perm_ton 8 [0, 1, 4, 2, 3, 5, 6, 7] (by kernel_rfl) rfl rfl))) (fun _ _ => ?_)
                obtain rfl := Gets.out H
                exact WP.retL (fun _ _ h => h) rfl () trivial (.cons (res_tmp rfl) .nil) rfl (st_seln 6 [0, 1, 2, 3, 4, 5] 6 (by kernel_rfl) rfl rfl)
      · replace H := Gets.ct H c624
        refine Dv.mv rfl ⟨_, _, rfl, rfl, rfl⟩ rfl ?_
        refine Dv.mv rfl ⟨_, _, rfl, rfl, rfl⟩ rfl ?_
        refine Dv.bin rfl ⟨_, _, rfl, rfl, rfl⟩ rfl rfl (fun _ => run_sub) ?_
        obtain ⟨t625, h626, H⟩ := Gets.call H
        refine Dv.callx (pre := [TTab.O g613 p615.2.2]) (F := [own Edu.K g620.1 t618] ++ F) (fun g627 : OV => [TTab.O g613 t625.2, own strK g627.1 t625.1, own Edu.K g620.1 t618] ++ F) rfl ⟨_, _, rfl, rfl, rfl⟩ cal12 rfl (typing_Table_Ended.c h626 (p0_ := g613)) (perm_ton 2 [0, 1] rfl rfl rfl) rfl nofun (fun g627 _ => ?_)
        refine Dv.lenw rfl ⟨_, _, rfl, rfl, rfl⟩ rfl (mem_at 1 rfl) Tryz.underlying37 ?_
        refine Dv.bin rfl ⟨_, _, rfl, rfl, rfl⟩ rfl rfl (fun _ => run_ne) ?_
        refine Dv.pickT rfl trivial rfl rfl ?_
        refine .fin ?_
        refine WP.cond rfl (fun c628 => ?_) (fun c628 => ?_)
        · replace H := Gets.ct H c628
          refine WP.seq ?_
          refine WP.reg [(0, false)] (by kernel_rfl) ?_
          refine as0 rfl rfl ?_
          refine .fin ?_
          obtain rfl := Gets.out H
          exact WP.retL (fun _ _ h => h) rfl () trivial (.cons (res_tmp rfl) .nil) rfl (st_seln 3 [0, 1, 2] 3 rfl rfl rfl)
        · replace H := Gets.cf H c628
          refine WP.skip ?_
          refine WP.seq ?_
          refine WP.seq ?_
          refine WP.reg [(0, false), (1, false), (2, false), (3, false), (4, true), (5, false), (6, false), (7, false)] (by kernel_rfl) ?_
          refine mv0 rfl rfl ?_
          refine mv0 rfl rfl ?_
          refine Dv.mv rfl ⟨_, _, rfl, rfl, rfl⟩ rfl ?_
          refine Dv.mv rfl ⟨_, _, rfl, rfl, rfl⟩ rfl ?_
          obtain ⟨t629, h630, H⟩ := Gets.call H
          refine Dv.callx (pre := [TTab.O g613 t625.2]) (F := [own strK g627.1 t625.1, own Edu.K g620.1 t618] ++ F) (fun g631 : OV => [TTab.O g613 t629.2, own strK g631.1 t629.1, own strK g627.1 t625.1, own Edu.K g620.1 t618] ++ F) rfl ⟨_, _, rfl, rfl, rfl⟩ cal12 rfl (typing_Table_Ended.c h630 (p0_ := g613)) (perm_ton 3 [0, 1, 2] rfl rfl rfl) rfl nofun (fun g631 _ => ?_)
          refine Dv.lenw rfl ⟨_, _, rfl, rfl, rfl⟩ rfl (mem_at 1 rfl) Tryz.underlying37 ?_
          refine Dv.bin rfl ⟨_, _, rfl, rfl, rfl⟩ rfl rfl (fun _ => run_eq) ?_
          refine Dv.pickT rfl trivial rfl rfl ?_
          refine .fin ?_
          refine WP.cond rfl (fun c632 => ?_) (fun c632 => ?_)
          · replace H := Gets.ct H c632
            refine WP.seq ?_
            refine WP.reg [(0, false)] (by kernel_rfl) ?_
            refine as0 rfl rfl ?_
            refine .fin ?_
            obtain rfl := Gets.out H
            exact WP.retL (fun _ _ h => h) rfl () trivial (.cons (res_tmp rfl) .nil) rfl (st_seln 4 [0, 1, 2, 3] 4 rfl rfl rfl)
          · replace H := Gets.cf H c632
            refine WP.skip ?_
            refine WP.seq ?_
            refine WP.reg [(0, false), (1, true)] (by kernel_rfl) ?_
            refine mv0 rfl rfl ?_
            obtain ⟨t633, h634, H⟩ := Gets.call H
            refine Dv.callx (pre := [TTab.O g613 t629.2]) (F := [own strK g631.1 t629.1, own strK g627.1 t625.1, own Edu.K g620.1 t618] ++ F) (fun g635 : OV => [TTab.O g613 t633.2, own strK g635.1 t633.1, own strK g631.1 t629.1, own strK g627.1 t625.1, own Edu.K g620.1 t618] ++ F) rfl trivial cal12 rfl (typing_Table_Ended.c h634 (p0_ := g613)) (perm_ton 4 [0, 1, 2, 3] rfl rfl rfl) rfl nofun (fun g635 _ => ?_)
            refine .fin ?_
            refine WP.seq ?_
            refine WP.reg [(0, false), (1, true), (2, false), (3, false), (4, false), (5, false), (6, false)] (by kernel_rfl) ?_
            refine mv0 rfl rfl ?_
            obtain ⟨t636, h637, H⟩ := Gets.call H
            refine Dv.callx (pre := [TTab.O g613 t633.2]) (F := [own strK g635.1 t633.1, own strK g631.1 t629.1, own strK g627.1 t625.1, own Edu.K g620.1 t618] ++ F) (fun _ : Unit => [TTab.O g613 t633.2, own strK g635.1 t633.1, own strK g631.1 t629.1, own strK g627.1 t625.1, own Edu.K g620.1 t618] ++ F) rfl trivial cal13 rfl (typing_Table_Next.c h637 (p0_ := g613)) (perm_ton 5 [0, 1, 2, 3, 4] (by kernel_rfl) rfl rfl) rfl nofun (fun _ _ => ?_)
            refine mv0 rfl rfl ?_
            refine Dv.ext rfl trivial rfl rfl ?_
            refine Dv.ext rfl trivial rfl rfl ?_
            refine as0 rfl rfl ?_
            refine as0 rfl rfl ?_
            refine .fin ?_
            refine WP.seq ?_
            refine WP.reg [(0, false), (1, false), (2, false), (3, false), (4, true), (5, false), (6, false), (7, false), (8, false), (9, false), (10, false), (11, true), (12, false), (13, false), (14, false), (15, false), (16, false), (17, false), (18, true), (19, false), (20, false), (21, false), (22, false), (23, false), (24, false), (25, false)] (by kernel_rfl) ?_
            refine mv0 rfl rfl ?_
            refine Dv.un rfl trivial rfl (fun _ => run_not _) ?_
            refine mv0 rfl rfl ?_
            cases c638 : !t636.2
            · replace H := Gets.cf H c638
              refine sk rfl rfl rfl rfl rfl ?_
              refine Dv.skipb rfl ⟨_, _, rfl, rfl, .inl rfl⟩ nofun ?_
              refine sk rfl rfl rfl rfl rfl ?_
              refine sk rfl rfl rfl rfl rfl ?_
              refine Dv.pickF rfl trivial rfl rfl ?_
              refine mv0 rfl rfl ?_
              refine sk rfl rfl rfl rfl rfl ?_
              refine sk rfl rfl rfl rfl rfl ?_
              refine Dv.skipb rfl ⟨_, _, rfl, rfl, .inl rfl⟩ nofun ?_
              refine sk rfl rfl rfl rfl rfl ?_
              refine sk rfl rfl rfl rfl rfl ?_
              refine Dv.pickF rfl trivial rfl rfl ?_
              refine mv0 rfl rfl ?_
              refine sk rfl rfl rfl rfl rfl ?_
              refine sk rfl rfl rfl rfl rfl ?_
              refine Dv.skipb rfl ⟨_, _, rfl, rfl, .inl rfl⟩ nofun ?_
              refine sk rfl rfl rfl rfl rfl ?_
              refine sk rfl rfl rfl rfl rfl ?_
              refine Dv.pickF rfl trivial rfl rfl ?_
              refine mv0 rfl rfl ?_
              refine sk rfl rfl rfl rfl rfl ?_
              refine Dv.pickF rfl trivial rfl rfl ?_
              refine as0 rfl rfl ?_
              refine .fin ?_
              obtain rfl := Gets.out H
              exact WP.retL (fun _ _ h => h) rfl () trivial (.cons (res_tmp rfl) .nil) rfl (st_seln 5 [0, 1, 2, 3, 4] 5 (by kernel_rfl) rfl rfl)
            · replace H := Gets.ct H c638
              refine Dv.mv rfl ⟨_, _, rfl, rfl, rfl⟩ rfl ?_
              obtain ⟨t639, h640, H⟩ := Gets.call H
              refine Dv.callx (pre := [TTab.O g613 t633.2]) (F := [own strK g635.1 t633.1, own strK g631.1 t629.1, own strK g627.1 t625.1, own Edu.K g620.1 t618] ++ F) (fun g641 : OV => [TTab.O g613 t639.2, own strK g641.1 t639.1, own strK g635.1 t633.1, own strK g631.1 t629.1, own strK g627.1 t625.1, own Edu.K g620.1 t618] ++ F) rfl ⟨_, _, rfl, rfl, rfl⟩ cal12 rfl (typing_Table_Ended.c h640 (p0_ := g613)) (perm_ton 5 [0, 1, 2, 3, 4] (by kernel_rfl) rfl rfl) rfl nofun (fun g641 _ => ?_)
              refine Dv.lenw rfl ⟨_, _, rfl, rfl, rfl⟩ rfl (mem_at 1 rfl) Tryz.underlying37 ?_
              refine Dv.bin rfl ⟨_, _, rfl, rfl, rfl⟩ rfl rfl (fun _ => run_eq) ?_
              refine Dv.pickT rfl trivial rfl rfl ?_
              refine mv0 rfl rfl ?_
              cases c642 : ((t639.1.length : Int) == 0)
              · replace H := Gets.cf H c642
                refine sk rfl rfl rfl rfl rfl ?_
                refine sk rfl rfl rfl rfl rfl ?_
                refine Dv.skipb rfl ⟨_, _, rfl, rfl, .inl rfl⟩ nofun ?_
                refine sk rfl rfl rfl rfl rfl ?_
                refine sk rfl rfl rfl rfl rfl ?_
                refine Dv.pickF rfl trivial rfl rfl ?_
                refine mv0 rfl rfl ?_
                refine sk rfl rfl rfl rfl rfl ?_
                refine sk rfl rfl rfl rfl rfl ?_
                refine Dv.skipb rfl ⟨_, _, rfl, rfl, .inl rfl⟩ nofun ?_
                refine sk rfl rfl rfl rfl rfl ?_
                refine sk rfl rfl rfl rfl rfl ?_
                refine Dv.pickF rfl trivial rfl rfl ?_
                refine mv0 rfl rfl ?_
                refine sk rfl rfl rfl rfl rfl ?_
                refine Dv.pickF rfl trivial rfl rfl ?_
                refine as0 rfl rfl ?_
                refine .fin ?_
                obtain rfl := Gets.out H
                exact WP.retL (fun _ _ h => h) rfl () trivial (.cons (res_tmp rfl) .nil) rfl (st_seln 6 [0, 1, 2, 3, 4, 5] 6 (by kernel_rfl) rfl rfl)
              · replace H := Gets.ct H c642
                refine Dv.mv rfl ⟨_, _, rfl, rfl, rfl⟩ rfl ?_
                obtain ⟨t643, h644, H⟩ := Gets.call H
                refine Dv.call rfl ⟨_, _, rfl, rfl, rfl⟩ cal20 rfl (concourseref01_RoomOf.c h644) ?_
                refine Dv.gh (l' := fun (g645 : Nat × OV × OV) => [blk g645.1 56 [eq g645.2.1.1, eq g645.2.2.1], own Edu.K g645.2.1.1 t639.2.fl, HHeap.O g645.2.2 t639.2.fends, own strK g641.1 t639.1, own strK g635.1 t633.1, own strK g631.1 t629.1, own strK g627.1 t625.1, own Edu.K g620.1 t618] ++ F) (gh_of (TTab.opn 0 rfl)) (fun g645 h646 => ?_)
                obtain ⟨t647, h648, H⟩ := Gets.call H
                refine Dv.callx (pre := [blk g645.1 56 [eq g645.2.1.1, eq g645.2.2.1], own Edu.K g645.2.1.1 t639.2.fl]) (F := [HHeap.O g645.2.2 t639.2.fends, own strK g641.1 t639.1, own strK g635.1 t633.1, own strK g631.1 t629.1, own strK g627.1 t625.1, own Edu.K g620.1 t618] ++ F) (fun g649 : OV => [blk g645.1 56 [eq g645.2.1.1, eq g645.2.2.1], own Edu.K g645.2.1.1 t639.2.fl, own strK g649.1 t647, HHeap.O g645.2.2 t639.2.fends, own strK g641.1 t639.1, own strK g635.1 t633.1, own strK g631.1 t629.1, own strK g627.1 t625.1, own Edu.K g620.1 t618] ++ F) rfl ⟨_, _, rfl, rfl, rfl⟩ cal19 rfl (Tr.weak (typing_Table_Users.c h648 (b0_ := g645.1) (v0_0 := g645.2.1) (v0_1 := g645.2.2)) (.cons (wk_ptr h646) (.cons wk_id (.cons wk_id .nil)))) (perm_ton 8 [0, 1, 2, 3, 4, 5, 6, 7] (by kernel_rfl) rfl rfl) rfl nofun (fun g649 _ => ?_)
                refine Dv.lenw rfl ⟨_, _, rfl, rfl, rfl⟩ rfl (mem_at 2 rfl) Tryz.underlying37 ?_
                refine Dv.bin rfl ⟨_, _, rfl, rfl, rfl⟩ rfl rfl (fun _ => run_eq) ?_
                refine Dv.pickT rfl trivial rfl rfl ?_
                refine mv0 rfl rfl ?_
                cases c650 : ((t647.length : Int) == 0)
                · replace H := Gets.cf H c650
                  refine sk rfl rfl rfl rfl rfl ?_
                  refine sk rfl rfl rfl rfl rfl ?_
                  refine Dv.skipb rfl ⟨_, _, rfl, rfl, .inl rfl⟩ nofun ?_
                  refine sk rfl rfl rfl rfl rfl ?_
                  refine sk rfl rfl rfl rfl rfl ?_
                  refine Dv.pickF rfl trivial rfl rfl ?_
                  refine mv0 rfl rfl ?_
                  refine sk rfl rfl rfl rfl rfl ?_
                  refine Dv.pickF rfl trivial rfl rfl ?_
                  refine as0 rfl rfl ?_
                  refine .fin ?_
                  refine WP.gh (l' := fun _ : Unit => [TTab.O g613 t639.2, own strK g649.1 t647, own strK g641.1 t639.1, own strK g635.1 t633.1, own strK g631.1 t629.1, own strK g627.1 t625.1, own Edu.K g620.1 t618] ++ F) (gh_of (TTab.shut (p := g613) (m := t639.2) (r := [own strK g649.1 t647, own strK g641.1 t639.1, own strK g635.1 t633.1, own strK g631.1 t629.1, own strK g627.1 t625.1, own Edu.K g620.1 t618] ++ F) (g645.1, g645.2.1, g645.2.2) h646 (perm_ton 9 [0, 1, 3, 2, 4, 5, 6, 7, 8] (by kernel_rfl) rfl rfl))) (fun _ _ => ?_)
                  obtain rfl := Gets.out H
                  exact WP.retL (fun _ _ h => h) rfl () trivial (.cons (res_tmp rfl) .nil) rfl (st_seln 7 [0, 1, 2, 3, 4, 5, 6] 7 (by kernel_rfl) rfl rfl)
                · replace H := Gets.ct H c650
                  refine Dv.mv rfl ⟨_, _, rfl, rfl, rfl⟩ rfl ?_
                  obtain ⟨t651, h652, H⟩ := Gets.call H
                  refine Dv.call rfl ⟨_, _, rfl, rfl, rfl⟩ cal20 rfl (concourseref01_RoomOf.c h652) ?_
                  obtain ⟨t653, h654, H⟩ := Gets.call H
                  refine Dv.callx (pre := [blk g645.1 56 [eq g645.2.1.1, eq g645.2.2.1], own Edu.K g645.2.1.1 t639.2.fl]) (F := [own strK g649.1 t647, HHeap.O g645.2.2 t639.2.fends, own strK g641.1 t639.1, own strK g635.1 t633.1, own strK g631.1 t629.1, own strK g627.1 t625.1, own Edu.K g620.1 t618] ++ F) (fun g655 : OV => [blk g645.1 56 [eq g645.2.1.1, eq g645.2.2.1], own Edu.K g645.2.1.1 t639.2.fl, own strK g655.1 t653, own strK g649.1 t647, HHeap.O g645.2.2 t639.2.fends, own strK g641.1 t639.1, own strK g635.1 t633.1, own strK g631.1 t629.1, own strK g627.1 t625.1, own Edu.K g620.1 t618] ++ F) rfl ⟨_, _, rfl, rfl, rfl⟩ cal19 rfl (Tr.weak (typing_Table_Users.c h654 (b0_ := g645.1) (v0_0 := g645.2.1) (v0_1 := g645.2.2)) (.cons (wk_ptr h646) (.cons wk_id (.cons wk_id .nil)))) (perm_ton 9 [0, 1, 2, 3, 4, 5, 6, 7, 8] (by kernel_rfl) rfl rfl) rfl nofun (fun g655 _ => ?_)
                  refine Dv.lenw rfl ⟨_, _, rfl, rfl, rfl⟩ rfl (mem_at 2 rfl) Tryz.underlying37 ?_
                  refine Dv.bin rfl ⟨_, _, rfl, rfl, rfl⟩ rfl rfl (fun _ => run_eq) ?_
                  refine Dv.pickT rfl trivial rfl rfl ?_
                  refine mv0 rfl rfl ?_
                  cases c656 : ((t653.length : Int) == 0)
                  · replace H := Gets.cf H c656
                    refine sk rfl rfl rfl rfl rfl ?_
                    refine Dv.pickF rfl trivial rfl rfl ?_
                    refine as0 rfl rfl ?_
                    refine .fin ?_
                    refine WP.gh (l' := fun _ : Unit => [TTab.O g613 t639.2, own strK g655.1 t653, own strK g649.1 t647, own strK g641.1 t639.1, own strK g635.1 t633.1, own strK g631.1 t629.1, own strK g627.1 t625.1, own Edu.K g620.1 t618] ++ F) (gh_of (TTab.shut (p := g613) (m := t639.2) (r := [own strK g655.1 t653, own strK g649.1 t647, own strK g641.1 t639.1, own strK g635.1 t633.1, own strK g631.1 t629.1, own strK g627.1 t625.1, own Edu.K g620.1 t618] ++ F) (g645.1, g645.2.1, g645.2.2) h646 (perm_ton 10 [0, 1, 4, 2, 3, 5, 6, 7, 8, 9] (by kernel_rfl) rfl rfl))) (fun _ _ => ?_)
                    obtain rfl := Gets.out H
                    exact WP.retL (fun _ _ h => h) rfl () trivial (.cons (res_tmp rfl) .nil) rfl (st_seln 8 [0, 1, 2, 3, 4, 5, 6, 7] 8 (by kernel_rfl) rfl rfl)
                  · replace H := Gets.ct H c656
                    obtain ⟨t657, h658, H⟩ := Gets.call H
                    refine Dv.call rfl ⟨_, _, rfl, rfl, rfl⟩ cal17 rfl (concourselaw14_lives.c h658) ?_
                    refine Dv.pickT rfl trivial rfl rfl ?_
                    refine as0 rfl rfl ?_
                    refine .fin ?_
                    refine WP.gh (l' := fun _ : Unit => [TTab.O g613 t639.2, own strK g655.1 t653, own strK g649.1 t647, own strK g641.1 t639.1, own strK g635.1 t633.1, own strK g631.1 t629.1, own strK g627.1 t625.1, own Edu.K g620.1 t618] ++ F) (gh_of (TTab.shut (p := g613) (m := t639.2) (r := [own strK g655.1 t653, own strK g649.1 t647, own strK g641.1 t639.1, own strK g635.1 t633.1, own strK g631.1 t629.1, own strK g627.1 t625.1, own Edu.K g620.1 t618] ++ F) (g645.1, g645.2.1, g645.2.2) h646 (perm_ton 10 [0, 1, 4, 2, 3, 5, 6, 7, 8, 9] (by kernel_rfl) rfl rfl))) (fun _ _ => ?_)
                    obtain rfl := Gets.out H
                    exact WP.retL (fun _ _ h => h) rfl () trivial (.cons (res_tmp rfl) .nil) rfl (st_seln 8 [0, 1, 2, 3, 4, 5, 6, 7] 8 (by kernel_rfl) rfl rfl)
    · refine WP.seq ?_
      refine WP.reg [(0, false)] (by kernel_rfl) ?_
      refine as0 rfl rfl ?_
      refine .fin ?_
      refine WP.block ?_
      refine WP.gh (l' := fun _ : Unit => [TTab.O g613 p615.2.2, own Edu.K g620.1 t618] ++ F) (gh_of (TTab.shut (p := g613) (m := p615.2.2) (r := [own Edu.K g620.1 t618] ++ F) (g616.1, g616.2.1, g616.2.2) h617 (perm_ton 4 [0, 1, 3, 2] rfl rfl rfl))) (fun _ _ => ?_)
      refine WP.gh (l' := fun _ => [TTab.O g613 p615.2.2, own Edu.K g620.1 t618] ++ F) (gh_of (st_selgn 2 [0, 1] 0 rfl rfl rfl)) (fun _ _ => ?_)
      refine WP.loopg (fun j_ (p713 : Int) => concourselaw14_TypingEnds.l0 k p615 t618 j_ p713) 0 H (fun p713 => [(0, sl Edu.K a0), (2, eq (.bool false)), (3, eq g613.1), (4, eq (.int .i64 p615.1)), (5, eq g620.1), (6, eq (.int .i64 p713)), (14, eq (.bool false)), (22, eq (.bool p615.2.1))]) (fun p713 => [TTab.O g613 p615.2.2, own Edu.K g620.1 t618] ++ F) (weak_cons rfl (weak_cons rfl (weak_cons rfl (weak_cons rfl (weak_cons rfl (weak_cons rfl (weak_cons rfl (weak_cons rfl weak_nil)))))))) (List.Perm.refl _) ?_
      rintro j_ x687 H
      rcases j_ with _ | j712
      · exact (Gets.no H).elim
      replace H : Gets (concourselaw14_TypingEnds.l0 k p615 t618 (j712 + 1) x687) _ := H
      rw [concourselaw14_TypingEnds.l0] at H
      refine WP.seq ?_
      refine WP.seq ?_
      refine WP.reg [(0, false), (1, false), (2, false), (3, false)] (by kernel_rfl) ?_
      refine mv0 rfl rfl ?_
      refine mv0 rfl rfl ?_
      refine Dv.lenw rfl trivial rfl (mem_at 1 rfl) Tryz.underlying22 ?_
      refine Dv.bin rfl trivial rfl rfl (fun _ => run_lt) ?_
      refine .fin ?_
      refine WP.cond rfl (fun c688 => ?_) (fun c688 => ?_)
      · replace H := Gets.ct H c688
        refine WP.skip ?_
        refine WP.seq ?_
        refine WP.block ?_
        refine WP.seq ?_
        refine WP.dreg Tryz.checked.mixed [(0, false), (1, false), (2, false), (3, false), (4, false), (5, false), (6, false), (7, false), (8, false), (9, false), (10, false), (11, false)] (by kernel_rfl) ?_
        refine mv0 rfl rfl ?_
        refine mv0 rfl rfl ?_
        obtain ⟨g689, H⟩ := Gets.grd H
        have h690 : x687.toNat < t618.length := idx_lt g689
        refine Dv.ixw rfl trivial rfl (mem_at 1 rfl) rfl Tryz.underlying22 Tryz.underlying30 c30 g689.1 g689.2 ?_
        refine Dv.faw rfl trivial rfl Tryz.underlying30 rfl Tryz.underlying3 c3 (by decide) ?_
        refine Dv.ldw (j := x687.toNat) (f := 9) (p := eq (.int .i64 ((t618.getD x687.toNat default).fTick))) rfl trivial rfl (mem_at 1 rfl) h690 Tryz.underlying3 rfl rfl ?_
        refine mv0 rfl rfl ?_
        refine mv0 rfl rfl ?_
        obtain ⟨g691, H⟩ := Gets.grd H
        have h692 : x687.toNat < t618.length := idx_lt g691
        refine Dv.ixw rfl trivial rfl (mem_at 1 rfl) rfl Tryz.underlying22 Tryz.underlying30 c30 g691.1 g691.2 ?_
        refine Dv.faw rfl trivial rfl Tryz.underlying30 rfl Tryz.underlying3 c3 (by decide) ?_
        refine Dv.ldw (j := x687.toNat) (f := 7) (p := eq (.int .i64 ((t618.getD x687.toNat default).fSpan))) rfl trivial rfl (mem_at 1 rfl) h692 Tryz.underlying3 rfl rfl ?_
        refine Dv.bin rfl trivial rfl rfl (fun _ => run_add) ?_
        refine as0 rfl rfl ?_
        refine .fin ?_
        refine WP.seq ?_
        refine WP.gh (l' := fun (g693 : Nat × OV × OV) => [blk g693.1 56 [eq g693.2.1.1, eq g693.2.2.1], own Edu.K g693.2.1.1 p615.2.2.fl, HHeap.O g693.2.2 p615.2.2.fends, own Edu.K g620.1 t618] ++ F) (gh_of (TTab.opn 0 rfl)) (fun g693 h694 => ?_)
        refine WP.dreg Tryz.checked.mixed [(0, false), (1, false), (2, false), (3, false), (4, false), (5, false), (6, false), (7, false), (8, false), (9, false), (10, false), (11, false), (12, false), (13, false), (14, false), (15, false), (16, false), (17, false), (18, false), (19, false), (20, false), (21, false), (22, false), (23, false), (24, false), (25, false), (26, false), (27, false), (28, false), (29, false), (30, false), (31, false), (32, false), (33, false), (34, false)] (by kernel_rfl) ?_
        refine mv0 rfl rfl ?_
        refine mv0 rfl rfl ?_
        refine mv0 rfl rfl ?_
        obtain ⟨g695, H⟩ := Gets.grd H
        have h696 : x687.toNat < t618.length := idx_lt g695
        refine Dv.ixw rfl trivial rfl (mem_at 3 rfl) rfl Tryz.underlying22 Tryz.underlying30 c30 g695.1 g695.2 ?_
        refine Dv.faw rfl trivial rfl Tryz.underlying30 rfl Tryz.underlying9 c9 (by decide) ?_
        refine Dv.ldw (j := x687.toNat) (f := 1) (p := eq (.string ((t618.getD x687.toNat default).fRoom))) rfl trivial rfl (mem_at 3 rfl) h696 Tryz.underlying9 rfl rfl ?_
        refine mv0 rfl rfl ?_
        refine mv0 rfl rfl ?_
        obtain ⟨g697, H⟩ := Gets.grd H
        have h698 : x687.toNat < t618.length := idx_lt g697
        refine Dv.ixw rfl trivial rfl (mem_at 3 rfl) rfl Tryz.underlying22 Tryz.underlying30 c30 g697.1 g697.2 ?_
        refine Dv.faw rfl trivial rfl Tryz.underlying30 rfl Tryz.underlying9 c9 (by decide) ?_
        refine Dv.ldw (j := x687.toNat) (f := 2) (p := eq (.string ((t618.getD x687.toNat default).fUser))) rfl trivial rfl (mem_at 3 rfl) h698 Tryz.underlying9 rfl rfl ?_
        refine mv0 rfl rfl ?_
        obtain ⟨t699, h700, H⟩ := Gets.call H
        refine Dv.calll (B := [blk g693.1 56 [eq g693.2.1.1, eq g693.2.2.1], own Edu.K g693.2.1.1 p615.2.2.fl]) (F := [HHeap.O g693.2.2 p615.2.2.fends, own Edu.K g620.1 t618] ++ F) rfl trivial cal18 rfl (Tr.weak (typing_Table_Types.c h700 (b0_ := g693.1) (v0_0 := g693.2.1) (v0_1 := g693.2.2)) (.cons (wk_ptr h694) (.cons wk_id (.cons wk_id (.cons wk_id .nil))))) (perm_ton 4 [0, 1, 2, 3] rfl rfl rfl) ?_
        refine mv0 rfl rfl ?_
        cases c701 : t699
        · replace H := Gets.cf H c701
          refine Dv.mv rfl ⟨_, _, rfl, rfl, rfl⟩ rfl ?_
          refine Dv.mv rfl ⟨_, _, rfl, rfl, rfl⟩ rfl ?_
          refine Dv.mv rfl ⟨_, _, rfl, rfl, rfl⟩ rfl ?_
          obtain ⟨g703, H⟩ := Gets.grd H
          have h704 : x687.toNat < t618.length := idx_lt g703
          refine Dv.ixw rfl ⟨_, _, rfl, rfl, rfl⟩ rfl (mem_at 3 rfl) rfl Tryz.underlying22 Tryz.underlying30 c30 g703.1 g703.2 ?_
          refine Dv.faw rfl ⟨_, _, rfl, rfl, rfl⟩ rfl Tryz.underlying30 rfl Tryz.underlying9 c9 (by decide) ?_
          refine Dv.ldw (j := x687.toNat) (f := 1) (p := eq (.string ((t618.getD x687.toNat default).fRoom))) rfl ⟨_, _, rfl, rfl, rfl⟩ rfl (mem_at 3 rfl) h704 Tryz.underlying9 rfl rfl ?_
          refine Dv.mv rfl ⟨_, _, rfl, rfl, rfl⟩ rfl ?_
          refine Dv.mv rfl ⟨_, _, rfl, rfl, rfl⟩ rfl ?_
          obtain ⟨g705, H⟩ := Gets.grd H
          have h706 : x687.toNat < t618.length := idx_lt g705
          refine Dv.ixw rfl ⟨_, _, rfl, rfl, rfl⟩ rfl (mem_at 3 rfl) rfl Tryz.underlying22 Tryz.underlying30 c30 g705.1 g705.2 ?_
          refine Dv.faw rfl ⟨_, _, rfl, rfl, rfl⟩ rfl Tryz.underlying30 rfl Tryz.underlying9 c9 (by decide) ?_
          refine Dv.ldw (j := x687.toNat) (f := 2) (p := eq (.string ((t618.getD x687.toNat default).fUser))) rfl ⟨_, _, rfl, rfl, rfl⟩ rfl (mem_at 3 rfl) h706 Tryz.underlying9 rfl rfl ?_
          refine Dv.mv rfl ⟨_, _, rfl, rfl, rfl⟩ rfl ?_
          refine Dv.bin rfl ⟨_, _, rfl, rfl, rfl⟩ rfl rfl (fun _ => run_sub) ?_
          obtain ⟨t707, h708, H⟩ := Gets.call H
          refine Dv.calll (B := [blk g693.1 56 [eq g693.2.1.1, eq g693.2.2.1], own Edu.K g693.2.1.1 p615.2.2.fl]) (F := [HHeap.O g693.2.2 p615.2.2.fends, own Edu.K g620.1 t618] ++ F) rfl ⟨_, _, rfl, rfl, rfl⟩ cal18 rfl (Tr.weak (typing_Table_Types.c h708 (b0_ := g693.1) (v0_0 := g693.2.1) (v0_1 := g693.2.2)) (.cons (wk_ptr h694) (.cons wk_id (.cons wk_id (.cons wk_id .nil))))) (perm_ton 4 [0, 1, 2, 3] rfl rfl rfl) ?_
          refine Dv.mv rfl ⟨_, _, rfl, rfl, rfl⟩ rfl ?_
          refine Dv.mv rfl ⟨_, _, rfl, rfl, rfl⟩ rfl ?_
          obtain ⟨g709, H⟩ := Gets.grd H
          have h710 : x687.toNat < t618.length := idx_lt g709
          refine Dv.ixw rfl ⟨_, _, rfl, rfl, rfl⟩ rfl (mem_at 3 rfl) rfl Tryz.underlying22 Tryz.underlying30 c30 g709.1 g709.2 ?_
          refine Dv.faw rfl ⟨_, _, rfl, rfl, rfl⟩ rfl Tryz.underlying30 rfl Tryz.underlying4 c4 (by decide) ?_
          refine Dv.ldw (j := x687.toNat) (f := 6) (p := eq (.bool ((t618.getD x687.toNat default).fOn))) rfl ⟨_, _, rfl, rfl, rfl⟩ rfl (mem_at 3 rfl) h710 Tryz.underlying4 rfl rfl ?_
          refine Dv.bin rfl ⟨_, _, rfl, rfl, rfl⟩ rfl rfl (fun _ => run_bne Tryz.underlying4) ?_
          refine Dv.pickF rfl trivial rfl rfl ?_
          refine .fin ?_
          refine WP.cond rfl (fun c711 => ?_) (fun c711 => ?_)
          · replace H := Gets.ct H c711
            refine WP.seq ?_
            refine WP.reg [(0, false)] (by kernel_rfl) ?_
            refine as0 rfl rfl ?_
            refine .fin ?_
            refine WP.gh (l' := fun _ : Unit => [TTab.O g613 p615.2.2, own Edu.K g620.1 t618] ++ F) (gh_of (TTab.shut (p := g613) (m := p615.2.2) (r := [own Edu.K g620.1 t618] ++ F) (g693.1, g693.2.1, g693.2.2) h694 (perm_ton 4 [0, 1, 2, 3] rfl rfl rfl))) (fun _ _ => ?_)
            replace H := Gets.outr H
            obtain rfl := Gets.out H
            exact WP.retL (fun _ _ h => h) rfl () trivial (.cons (res_tmp rfl) .nil) rfl (st_seln 2 [0, 1] 2 rfl rfl rfl)
          · replace H := Gets.cf H c711
            refine WP.skip ?_
            refine WP.reg [(0, false), (1, false), (2, false)] (by kernel_rfl) ?_
            refine mv0 rfl rfl ?_
            refine Dv.bin rfl trivial rfl rfl (fun _ => run_add) ?_
            refine as0 rfl rfl ?_
            refine .fin ?_
            refine Dn.gh (l' := fun _ : Unit => [TTab.O g613 p615.2.2, own Edu.K g620.1 t618] ++ F) (gh_of (TTab.shut (p := g613) (m := p615.2.2) (r := [own Edu.K g620.1 t618] ++ F) (g693.1, g693.2.1, g693.2.2) h694 (perm_ton 4 [0, 1, 2, 3] rfl rfl rfl))) (fun _ _ => ?_)
            exact Back.mk j712 (w64 (x687 + 1)) (Nat.lt_succ_self _) H (weak_cons rfl (weak_cons rfl (weak_cons rfl (weak_cons rfl (weak_cons rfl (weak_cons rfl (weak_cons rfl (weak_cons rfl weak_nil)))))))) (List.Perm.refl _)
        · replace H := Gets.ct H c701
          refine sk rfl rfl rfl rfl rfl ?_
          refine sk rfl rfl rfl rfl rfl ?_
          refine sk rfl rfl rfl rfl rfl ?_
          refine sk rfl rfl rfl rfl rfl ?_
          refine sk rfl rfl rfl rfl rfl ?_
          refine sk rfl rfl rfl rfl rfl ?_
          refine sk rfl rfl rfl rfl rfl ?_
          refine sk rfl rfl rfl rfl rfl ?_
          refine sk rfl rfl rfl rfl rfl ?_
          refine sk rfl rfl rfl rfl rfl ?_
          refine sk rfl rfl rfl rfl rfl ?_
          refine sk rfl rfl rfl rfl rfl ?_
          refine sk rfl rfl rfl rfl rfl ?_
          refine sk rfl rfl rfl rfl rfl ?_
          refine sk rfl rfl rfl rfl rfl ?_
          refine sk rfl rfl rfl rfl rfl ?_
          refine sk rfl rfl rfl rfl rfl ?_
          refine sk rfl rfl rfl rfl rfl ?_
          refine sk rfl rfl rfl rfl rfl ?_
          refine sk rfl rfl rfl rfl rfl ?_
          refine Dv.pickT rfl trivial rfl rfl ?_
          refine .fin ?_
          refine WP.cond rfl (fun _ => ?_) nofun
          refine WP.seq ?_
          refine WP.reg [(0, false)] (by kernel_rfl) ?_
          refine as0 rfl rfl ?_
          refine .fin ?_
          refine WP.gh (l' := fun _ : Unit => [TTab.O g613 p615.2.2, own Edu.K g620.1 t618] ++ F) (gh_of (TTab.shut (p := g613) (m := p615.2.2) (r := [own Edu.K g620.1 t618] ++ F) (g693.1, g693.2.1, g693.2.2) h694 (perm_ton 4 [0, 1, 2, 3] rfl rfl rfl))) (fun _ _ => ?_)
          replace H := Gets.outr H
          obtain rfl := Gets.out H
          exact WP.retL (fun _ _ h => h) rfl () trivial (.cons (res_tmp rfl) .nil) rfl (st_seln 2 [0, 1] 2 rfl rfl rfl)
      · replace H := Gets.cf H c688
        refine WP.exit ?_
        replace H := Gets.out H
        exact Jn.mk (x687, decide (x687 < (t618.length : Int))) H (weak_cons rfl (weak_cons rfl (weak_cons rfl (weak_cons rfl (weak_cons rfl (weak_cons rfl (weak_cons rfl (weak_cons rfl (weak_cons rfl weak_nil))))))))) (List.Perm.refl _)
  · refine WP.seq ?_
    refine WP.reg [(0, false)] (by kernel_rfl) ?_
    refine as0 rfl rfl ?_
    refine .fin ?_
    refine WP.block ?_
    refine WP.gh (l' := fun _ => [TTab.O g613 t611] ++ F) (gh_of (st_selgn 1 [0] 0 rfl rfl rfl)) (fun _ _ => ?_)
    refine WP.loopg (fun j_ (p725 : Int × TTab) => concourselaw14_TypingEnds.l1 k a0 j_ p725.1 p725.2) (0, t611) H (fun p725 => [(0, sl Edu.K a0), (2, eq (.bool false)), (3, eq g613.1), (4, eq (.int .i64 p725.1)), (14, eq (.bool false))]) (fun p725 => [TTab.O g613 p725.2] ++ F) (weak_cons rfl (weak_cons rfl (weak_cons rfl (weak_cons rfl (weak_cons rfl weak_nil))))) (List.Perm.refl _) ?_
    rintro j_ ⟨x714, x715⟩ H
    rcases j_ with _ | j724
    · exact (Gets.no H).elim
    replace H : Gets (concourselaw14_TypingEnds.l1 k a0 (j724 + 1) x714 x715) _ := H
    rw [concourselaw14_TypingEnds.l1] at H
    refine WP.seq ?_
    refine WP.seq ?_
    refine WP.reg [(0, false), (1, false), (2, false), (3, false), (4, false), (5, false), (6, false), (7, false)] (by kernel_rfl) ?_
    refine mv0 rfl rfl ?_
    refine mv0 rfl rfl ?_
    refine Dv.lenl rfl trivial rfl Tryz.underlying22 ?_
    refine Dv.bin rfl trivial rfl rfl (fun _ => run_lt) ?_
    refine mv0 rfl rfl ?_
    cases c716 : decide (x714 < (a0.length : Int))
    · replace H := Gets.cf H c716
      refine sk rfl rfl rfl rfl rfl ?_
      refine sk rfl rfl rfl rfl rfl ?_
      refine Dv.pickF rfl trivial rfl rfl ?_
      refine .fin ?_
      refine WP.cond rfl nofun (fun _ => ?_)
      refine WP.exit ?_
      replace H := Gets.out H
      exact Jn.mk (x714, false, x715) H (weak_cons rfl (weak_cons rfl (weak_cons rfl (weak_cons rfl (weak_cons rfl (weak_cons rfl weak_nil)))))) (List.Perm.refl _)
    · replace H := Gets.ct H c716
      refine Dv.mv rfl ⟨_, _, rfl, rfl, rfl⟩ rfl ?_
      refine Dv.bin rfl ⟨_, _, rfl, rfl, rfl⟩ rfl rfl (fun _ => run_lt) ?_
      refine Dv.pickT rfl trivial rfl rfl ?_
      refine .fin ?_
      refine WP.cond rfl (fun c717 => ?_) (fun c717 => ?_)
      · replace H := Gets.ct H c717
        refine WP.skip ?_
        refine WP.seq ?_
        refine WP.block ?_
        refine WP.reg [(0, false), (1, false), (2, false), (3, false), (4, false), (5, false), (6, true)] (by kernel_rfl) ?_
        refine mv0 rfl rfl ?_
        refine mv0 rfl rfl ?_
        refine mv0 rfl rfl ?_
        obtain ⟨g718, H⟩ := Gets.grd H
        refine Dv.ixr rfl trivial rfl rfl Tryz.underlying22 Tryz.underlying30 c30 g718.1 g718.2 ?_
        refine Dv.ldrs rfl trivial rfl Tryz.underlying30 rfl c30 (Nat.le_of_ble_eq_true rfl) ?_
        obtain ⟨t719, h720, H⟩ := Gets.call H
        refine Dv.call rfl trivial cal6 rfl (concourseref14_Made.c h720) ?_
        obtain ⟨t721, h722, H⟩ := Gets.call H
        refine Dv.callx (pre := [TTab.O g613 x715]) (F := [] ++ F) (fun _ : Unit => [TTab.O g613 t721.2.2] ++ F) rfl trivial cal9 rfl (typing_Table_Put.c h722 (p0_ := g613)) (perm_ton 1 [0] rfl rfl rfl) rfl nofun (fun _ _ => ?_)
        refine .fin ?_
        refine WP.reg [(0, false), (1, false), (2, false)] (by kernel_rfl) ?_
        refine mv0 rfl rfl ?_
        refine Dv.bin rfl trivial rfl rfl (fun _ => run_add) ?_
        refine as0 rfl rfl ?_
        refine .fin ?_
        exact Back.mk j724 (w64 (x714 + 1), t721.2.2) (Nat.lt_succ_self _) H (weak_cons rfl (weak_cons rfl (weak_cons rfl (weak_cons rfl (weak_cons rfl weak_nil))))) (List.Perm.refl _)
      · replace H := Gets.cf H c717
        refine WP.exit ?_
        replace H := Gets.out H
        exact Jn.mk (x714, decide (x714 < 10), x715) H (weak_cons rfl (weak_cons rfl (weak_cons rfl (weak_cons rfl (weak_cons rfl (weak_cons rfl weak_nil)))))) (List.Perm.refl _)
end Go.Proofs.YtmbodanckhidiaaGreat
