/- The walks. -/
import Derived.Test.YtegmafgodoikiaaGreatZWalks3
import Derived.Test.YtegmafgodoikiaaGreatConU
import Derived.Eval
set_option linter.all false
set_option maxRecDepth 10000
set_option maxHeartbeats 20000000
namespace Go.Proofs.YtegmafgodoikiaaGreat
open Go Go.Sp
theorem concourselaw15_PresenceStates.c {k : Nat} {a0 : List Edu} {a1 : Int} {a2 : ByteArray} {r : Bool} (h : concourselaw15_PresenceStates.f k a0 a1 a2 = some r) : Pt Tryz.prog 3 [sl Edu.K a0, eq (.int .i64 a1), eq (.string a2)] (eq (.bool r)) := by
  unfold concourselaw15_PresenceStates.f at h
  refine (Tr.body Tryz.func3 (c := _) rfl Tryz.ntmps3 (Nat.le_of_ble_eq_true rfl) fun R0 F => ?_).pt
  replace h := Gets.of h
  have H := h
  clear h
  refine WP.seq ?_
  refine WP.reg [(0, false)] (by kernel_rfl) ?_
  refine Dv.asg rfl trivial rfl ?_
  refine .fin ?_
  refine WP.seq ?_
  refine WP.reg [(0, true), (1, false)] (by kernel_rfl) ?_
  obtain ⟨t897, h898, H⟩ := Gets.call H
  refine Dv.callx (pre := []) (F := [] ++ F) (fun g899 : OV => [PTab.O g899 t897] ++ F) rfl trivial cal7 rfl (presence_New.c h898) (perm_to (L := []) (F := F) [] rfl rfl rfl) rfl nofun (fun g899 _ => ?_)
  refine Dv.asg rfl trivial rfl ?_
  refine .fin ?_
  refine WP.seq ?_
  refine WP.seq ?_
  refine WP.reg [(0, false), (1, false)] (by kernel_rfl) ?_
  refine Dv.mv rfl trivial rfl ?_
  refine Dv.peq0 PTab.nn rfl trivial rfl rfl Tryz.underlying23 (mem_at 0 rfl) ?_
  refine .fin ?_
  refine WP.cond rfl nofun (fun _ => ?_)
  refine WP.skip ?_
  refine WP.seq ?_
  refine WP.reg [(0, true)] (by kernel_rfl) ?_
  refine Dv.alloc (z := .agg #[.slice none 0 0, .slice none 0 0]) (qs := [eq (.slice none 0 0), eq (.slice none 0 0)]) rfl trivial z27 rfl nofun (fun b901 => ?_)
  refine .fin ?_
  refine WP.seqn H id (fun p902 : Int × Bool × (List Edu) × (List Int) × PTab => [(0, sl Edu.K a0), (1, eq (.int .i64 a1)), (2, eq (.string a2)), (6, eq (.bool false)), (7, eq g899.1), (8, eq (.pointer (some ⟨b901, 0, none⟩))), (9, eq (.int .i64 p902.1)), (19, eq (.bool false)), (27, eq (.bool p902.2.1))]) (fun p902 : Int × Bool × (List Edu) × (List Int) × PTab => [blk b901 27 [sl Edu.K p902.2.2.1, sl (intK .i64) p902.2.2.2.1], PTab.O g899 p902.2.2.2.2] ++ F) (fun p902 H => ?_) (fun H => ?_)
  · refine WP.seq ?_
    refine WP.reg [(0, false), (1, false), (2, false)] (by kernel_rfl) ?_
    refine Dv.mv rfl trivial rfl ?_
    obtain ⟨t903, h904, H⟩ := Gets.call H
    refine Dv.call rfl trivial cal11 rfl (concourseref01_Few.c h904) ?_
    refine Dv.asg rfl trivial rfl ?_
    refine .fin ?_
    refine WP.seq ?_
    refine WP.reg [(0, false), (1, false), (2, false), (3, false), (4, false)] (by kernel_rfl) ?_
    refine Dv.mv rfl trivial rfl ?_
    refine Dv.mv rfl trivial rfl ?_
    obtain ⟨t905, h906, H⟩ := Gets.call H
    refine Dv.call rfl trivial cal12 rfl (concourseref01_Around.c h906) ?_
    refine Dv.lit (intK .i64) ([a1, t905] : List Int) (css := [[eq (.int .i64 a1)], [eq (.int .i64 t905)]]) rfl trivial Tryz.underlying25 Tryz.underlying3 c3 z3 rfl (by decide) (by decide) rfl ⟨(cells_one (one_eq rfl)), ⟨(cells_one (one_eq rfl)), trivial⟩⟩ rfl rfl rfl ?_
    refine Dv.asg rfl trivial rfl ?_
    refine .fin ?_
    refine WP.seqr H id (fun p907 : Int × Bool => [(0, sl Edu.K a0), (1, eq (.int .i64 a1)), (2, eq (.string t903)), (6, eq (.bool false)), (7, eq g899.1), (8, eq (.pointer (some ⟨b901, 0, none⟩))), (9, eq (.int .i64 p902.1)), (13, sl (intK .i64) ([a1, t905] : List Int)), (14, eq (.int .i64 p907.1)), (19, eq (.bool false)), (27, eq (.bool p902.2.1)), (56, eq (.bool p907.2))]) (fun p907 : Int × Bool => [blk b901 27 [sl Edu.K p902.2.2.1, sl (intK .i64) p902.2.2.2.1], PTab.O g899 p902.2.2.2.2] ++ F) (fun p907 H => ?_) (fun H => ?_)
    · refine WP.seq ?_
      refine WP.reg [(0, false), (1, false)] (by kernel_rfl) ?_
      obtain ⟨t908, h909, H⟩ := Gets.call H
      refine Dv.call rfl trivial cal19 rfl (concourselaw15_lives.c h909) ?_
      refine Dv.asg rfl trivial rfl ?_
      refine .fin ?_
      obtain rfl := Gets.out H
      exact WP.retL (fun _ _ h => h) rfl () trivial (.cons (res_tmp rfl) .nil) rfl (st_sel (L := [blk b901 27 [sl Edu.K p902.2.2.1, sl (intK .i64) p902.2.2.2.1], PTab.O g899 p902.2.2.2.2]) (F := F) [0, 1] 2 rfl rfl rfl)
    · refine WP.seq ?_
      refine WP.reg [(0, false)] (by kernel_rfl) ?_
      refine Dv.asg rfl trivial rfl ?_
      refine .fin ?_
      refine WP.block ?_
      refine WP.gh (l' := fun _ => [blk b901 27 [sl Edu.K p902.2.2.1, sl (intK .i64) p902.2.2.2.1], PTab.O g899 p902.2.2.2.2] ++ F) (gh_of (st_selg (L := [blk b901 27 [sl Edu.K p902.2.2.1, sl (intK .i64) p902.2.2.2.1], PTab.O g899 p902.2.2.2.2]) (F := F) [0, 1] 0 rfl rfl rfl)) (fun _ _ => ?_)
      refine WP.loopg (fun j_ (p950 : Int) => concourselaw15_PresenceStates.l0 k a1 p902 t903 t905 j_ p950) 0 H (fun p950 => [(0, sl Edu.K a0), (1, eq (.int .i64 a1)), (2, eq (.string t903)), (6, eq (.bool false)), (7, eq g899.1), (8, eq (.pointer (some ⟨b901, 0, none⟩))), (9, eq (.int .i64 p902.1)), (13, sl (intK .i64) ([a1, t905] : List Int)), (14, eq (.int .i64 p950)), (19, eq (.bool false)), (27, eq (.bool p902.2.1))]) (fun p950 => [blk b901 27 [sl Edu.K p902.2.2.1, sl (intK .i64) p902.2.2.2.1], PTab.O g899 p902.2.2.2.2] ++ F) (weak_cons rfl (weak_cons rfl (weak_cons rfl (weak_cons rfl (weak_cons rfl (weak_cons rfl (weak_cons rfl (weak_cons rfl (weak_cons rfl (weak_cons rfl (weak_cons rfl weak_nil))))))))))) (List.Perm.refl _) ?_
      rintro j_ x910 H
      rcases j_ with _ | j949
      · exact (Gets.no H).elim
      replace H : Gets (concourselaw15_PresenceStates.l0 k a1 p902 t903 t905 (j949 + 1) x910) _ := H
      rw [concourselaw15_PresenceStates.l0] at H
      refine WP.seq ?_
      refine WP.seq ?_
      refine WP.reg [(0, false), (1, false)] (by kernel_rfl) ?_
      refine Dv.mv rfl trivial rfl ?_
      refine Dv.bin rfl trivial rfl rfl (fun _ => run_lt) ?_
      refine .fin ?_
      refine WP.cond rfl (fun c911 => ?_) (fun c911 => ?_)
      · replace H := Gets.ct H c911
        refine WP.skip ?_
        refine WP.seqr H id (fun p912 : Int × Bool × Bool => [(0, sl Edu.K a0), (1, eq (.int .i64 a1)), (2, eq (.string t903)), (6, eq (.bool false)), (7, eq g899.1), (8, eq (.pointer (some ⟨b901, 0, none⟩))), (9, eq (.int .i64 p902.1)), (13, sl (intK .i64) ([a1, t905] : List Int)), (14, eq (.int .i64 x910)), (15, eq (.int .i64 p912.1)), (19, eq (.bool false)), (27, eq (.bool p902.2.1)), (56, eq (.bool (decide (x910 < 2)))), (89, eq (.bool p912.2.1)), (91, eq (.bool p912.2.2))]) (fun p912 : Int × Bool × Bool => [blk b901 27 [sl Edu.K p902.2.2.1, sl (intK .i64) p902.2.2.2.1], PTab.O g899 p902.2.2.2.2] ++ F) (fun p912 H => ?_) (fun H => ?_)
        · refine WP.reg [(0, false), (1, false), (2, false)] (by kernel_rfl) ?_
          refine Dv.mv rfl trivial rfl ?_
          refine Dv.bin rfl trivial rfl rfl (fun _ => run_add) ?_
          refine Dv.asg rfl trivial rfl ?_
          refine .fin ?_
          exact Back.mk j949 (w64 (x910 + 1)) (Nat.lt_succ_self _) H (weak_cons rfl (weak_cons rfl (weak_cons rfl (weak_cons rfl (weak_cons rfl (weak_cons rfl (weak_cons rfl (weak_cons rfl (weak_cons rfl (weak_cons rfl (weak_cons rfl weak_nil))))))))))) (List.Perm.refl _)
        · refine WP.block ?_
          refine WP.seq ?_
          refine WP.seq ?_
          refine WP.gh (l' := fun (g913 : Nat × OV × OV) => [blk g913.1 61 [eq g913.2.1.1, eq g913.2.2.1], own Edu.K g913.2.1.1 p902.2.2.2.2.fl, HHeap.O g913.2.2 p902.2.2.2.2.fturns, blk b901 27 [sl Edu.K p902.2.2.1, sl (intK .i64) p902.2.2.2.1]] ++ F) (gh_of (PTab.opn 1 rfl)) (fun g913 h914 => ?_)
          refine WP.dreg Tryz.checked.mixed [(0, false), (1, false), (2, false), (3, false), (4, false), (6, false), (7, false), (8, false), (9, false), (10, false), (5, true), (11, true), (12, false), (13, false), (14, false), (15, false), (16, false), (17, false), (18, false), (19, false), (20, false), (21, false), (22, false), (23, false), (24, false), (25, false), (26, false), (27, false), (28, false), (29, false), (30, false)] (by kernel_rfl) ?_
          refine Dv.mv rfl trivial rfl ?_
          refine Dv.mv rfl trivial rfl ?_
          refine Dv.mv rfl trivial rfl ?_
          obtain ⟨g915, H⟩ := Gets.grd H
          refine Dv.ixr rfl trivial rfl rfl Tryz.underlying25 Tryz.underlying3 c3 g915.1 g915.2 ?_
          refine Dv.ldr rfl trivial rfl Tryz.underlying3 rfl rfl ?_
          refine Dv.ldbs rfl trivial rfl Tryz.underlying27 rfl c27 (mem_at 3 rfl) (Nat.le_of_ble_eq_true rfl) ?_
          refine Dv.mv rfl trivial rfl ?_
          refine Dv.mv rfl trivial rfl ?_
          obtain ⟨g916, H⟩ := Gets.grd H
          refine Dv.ixr rfl trivial rfl rfl Tryz.underlying25 Tryz.underlying3 c3 g916.1 g916.2 ?_
          refine Dv.ldr rfl trivial rfl Tryz.underlying3 rfl rfl ?_
          obtain ⟨t917, h918, H⟩ := Gets.call H
          refine Dv.callx (pre := [blk g913.1 61 [eq g913.2.1.1, eq g913.2.2.1], own Edu.K g913.2.1.1 p902.2.2.2.2.fl]) (F := [HHeap.O g913.2.2 p902.2.2.2.2.fturns, blk b901 27 [sl Edu.K p902.2.2.1, sl (intK .i64) p902.2.2.2.1]] ++ F) (fun g919 : OV => [blk g913.1 61 [eq g913.2.1.1, eq g913.2.2.1], own Edu.K g913.2.1.1 p902.2.2.2.2.fl, own strK g919.1 t917, HHeap.O g913.2.2 p902.2.2.2.2.fturns, blk b901 27 [sl Edu.K p902.2.2.1, sl (intK .i64) p902.2.2.2.1]] ++ F) rfl trivial cal14 rfl (Tr.weak (presence_Table_There.c h918 (b0_ := g913.1) (v0_0 := g913.2.1) (v0_1 := g913.2.2)) (.cons (wk_ptr h914) (.cons wk_id .nil))) (perm_to (L := [blk g913.1 61 [eq g913.2.1.1, eq g913.2.2.1], own Edu.K g913.2.1.1 p902.2.2.2.2.fl, HHeap.O g913.2.2 p902.2.2.2.2.fturns, blk b901 27 [sl Edu.K p902.2.2.1, sl (intK .i64) p902.2.2.2.1]]) (F := F) [0, 1, 2, 3] rfl rfl rfl) rfl (fun _ => pendc (pend_in (fun _ => trivial) (pend_in (fun _ => trivial) (pend_in (fun _ => trivial) (pend_in (fun _ => trivial) (pend_in (fun _ => (mem_at 4 rfl)) (pend_by (by kernel_rfl) (pend_by (by kernel_rfl) (pend_by (by kernel_rfl) (pend_by (by kernel_rfl) (pend_by (by kernel_rfl) pend_nil))))))))))) (fun g919 _ => ?_)
          obtain ⟨t920, h921, H⟩ := Gets.call H
          refine Dv.callx (pre := []) (F := [blk g913.1 61 [eq g913.2.1.1, eq g913.2.2.1], own Edu.K g913.2.1.1 p902.2.2.2.2.fl, own strK g919.1 t917, HHeap.O g913.2.2 p902.2.2.2.2.fturns, blk b901 27 [sl Edu.K p902.2.2.1, sl (intK .i64) p902.2.2.2.1]] ++ F) (fun g922 : OV => [own strK g922.1 t920, blk g913.1 61 [eq g913.2.1.1, eq g913.2.2.1], own Edu.K g913.2.1.1 p902.2.2.2.2.fl, own strK g919.1 t917, HHeap.O g913.2.2 p902.2.2.2.2.fturns, blk b901 27 [sl Edu.K p902.2.2.1, sl (intK .i64) p902.2.2.2.1]] ++ F) rfl trivial cal15 rfl (concourseref15_There.c h921) (perm_to (L := [blk g913.1 61 [eq g913.2.1.1, eq g913.2.2.1], own Edu.K g913.2.1.1 p902.2.2.2.2.fl, own strK g919.1 t917, HHeap.O g913.2.2 p902.2.2.2.2.fturns, blk b901 27 [sl Edu.K p902.2.2.1, sl (intK .i64) p902.2.2.2.1]]) (F := F) [0, 1, 2, 3, 4] (by kernel_rfl) rfl rfl) rfl (fun _ => pendc (pend_bits (by kernel_rfl))) (fun g922 _ => ?_)
          obtain ⟨t923, h924, H⟩ := Gets.call H
          refine Dv.calll (B := [own strK g919.1 t917, own strK g922.1 t920]) (F := [blk g913.1 61 [eq g913.2.1.1, eq g913.2.2.1], own Edu.K g913.2.1.1 p902.2.2.2.2.fl, HHeap.O g913.2.2 p902.2.2.2.2.fturns, blk b901 27 [sl Edu.K p902.2.2.1, sl (intK .i64) p902.2.2.2.1]] ++ F) rfl trivial cal13 rfl (Pt.lend _ (concourseref01_SameTexts.c h924) (.cons (lt_own (mem_at 0 rfl)) (.cons (lt_own (mem_at 1 rfl)) .nil)) flat_eq) (perm_to (L := [own strK g922.1 t920, blk g913.1 61 [eq g913.2.1.1, eq g913.2.2.1], own Edu.K g913.2.1.1 p902.2.2.2.2.fl, own strK g919.1 t917, HHeap.O g913.2.2 p902.2.2.2.2.fturns, blk b901 27 [sl Edu.K p902.2.2.1, sl (intK .i64) p902.2.2.2.1]]) (F := F) [3, 0, 1, 2, 4, 5] (by kernel_rfl) rfl rfl) ?_
          refine Dv.un rfl trivial rfl (fun _ => run_not _) ?_
          refine Dv.mv rfl trivial rfl ?_
          cases c925 : !t923
          · replace H := Gets.cf H c925
            refine Dv.mv rfl ⟨_, _, rfl, rfl, rfl⟩ rfl ?_
            refine Dv.mv rfl ⟨_, _, rfl, rfl, rfl⟩ rfl ?_
            refine Dv.mv rfl ⟨_, _, rfl, rfl, rfl⟩ rfl ?_
            refine Dv.mv rfl ⟨_, _, rfl, rfl, rfl⟩ rfl ?_
            obtain ⟨g927, H⟩ := Gets.grd H
            refine Dv.ixr rfl ⟨_, _, rfl, rfl, rfl⟩ rfl rfl Tryz.underlying25 Tryz.underlying3 c3 g927.1 g927.2 ?_
            refine Dv.ldr rfl ⟨_, _, rfl, rfl, rfl⟩ rfl Tryz.underlying3 rfl rfl ?_
            obtain ⟨t928, h929, H⟩ := Gets.call H
            refine Dv.calll (B := [blk g913.1 61 [eq g913.2.1.1, eq g913.2.2.1], own Edu.K g913.2.1.1 p902.2.2.2.2.fl]) (F := [own strK g922.1 t920, own strK g919.1 t917, HHeap.O g913.2.2 p902.2.2.2.2.fturns, blk b901 27 [sl Edu.K p902.2.2.1, sl (intK .i64) p902.2.2.2.1]] ++ F) rfl ⟨_, _, rfl, rfl, rfl⟩ cal16 rfl (Tr.weak (presence_Table_State.c h929 (b0_ := g913.1) (v0_0 := g913.2.1) (v0_1 := g913.2.2)) (.cons (wk_ptr h914) (.cons wk_id (.cons wk_id .nil)))) (perm_to (L := [own strK g922.1 t920, blk g913.1 61 [eq g913.2.1.1, eq g913.2.2.1], own Edu.K g913.2.1.1 p902.2.2.2.2.fl, own strK g919.1 t917, HHeap.O g913.2.2 p902.2.2.2.2.fturns, blk b901 27 [sl Edu.K p902.2.2.1, sl (intK .i64) p902.2.2.2.1]]) (F := F) [1, 2, 0, 3, 4, 5] (by kernel_rfl) rfl rfl) ?_
            refine Dv.ldbs rfl ⟨_, _, rfl, rfl, rfl⟩ rfl Tryz.underlying27 rfl c27 (mem_at 5 rfl) (Nat.le_of_ble_eq_true rfl) ?_
            refine Dv.mv rfl ⟨_, _, rfl, rfl, rfl⟩ rfl ?_
            refine Dv.mv rfl ⟨_, _, rfl, rfl, rfl⟩ rfl ?_
            refine Dv.mv rfl ⟨_, _, rfl, rfl, rfl⟩ rfl ?_
            obtain ⟨g930, H⟩ := Gets.grd H
            refine Dv.ixr rfl ⟨_, _, rfl, rfl, rfl⟩ rfl rfl Tryz.underlying25 Tryz.underlying3 c3 g930.1 g930.2 ?_
            refine Dv.ldr rfl ⟨_, _, rfl, rfl, rfl⟩ rfl Tryz.underlying3 rfl rfl ?_
            obtain ⟨t931, h932, H⟩ := Gets.call H
            refine Dv.call rfl ⟨_, _, rfl, rfl, rfl⟩ cal17 rfl (concourseref15_State.c h932) ?_
            refine Dv.bin rfl ⟨_, _, rfl, rfl, rfl⟩ rfl rfl (fun _ => run_ne) ?_
            refine Dv.pickF rfl trivial rfl rfl ?_
            refine .fin ?_
            refine WP.cond rfl (fun c933 => ?_) (fun c933 => ?_)
            · replace H := Gets.ct H c933
              refine WP.seq ?_
              refine WP.reg [(0, false)] (by kernel_rfl) ?_
              refine Dv.asg rfl trivial rfl ?_
              refine .fin ?_
              refine WP.gh (l' := fun _ : Unit => [PTab.O g899 p902.2.2.2.2, own strK g922.1 t920, own strK g919.1 t917, blk b901 27 [sl Edu.K p902.2.2.1, sl (intK .i64) p902.2.2.2.1]] ++ F) (gh_of (PTab.shut (p := g899) (m := p902.2.2.2.2) (r := [own strK g922.1 t920, own strK g919.1 t917, blk b901 27 [sl Edu.K p902.2.2.1, sl (intK .i64) p902.2.2.2.1]] ++ F) (g913.1, g913.2.1, g913.2.2) h914 (perm_to (L := [own strK g922.1 t920, blk g913.1 61 [eq g913.2.1.1, eq g913.2.2.1], own Edu.K g913.2.1.1 p902.2.2.2.2.fl, own strK g919.1 t917, HHeap.O g913.2.2 p902.2.2.2.2.fturns, blk b901 27 [sl Edu.K p902.2.2.1, sl (intK .i64) p902.2.2.2.1]]) (F := F) [1, 2, 4, 0, 3, 5] (by kernel_rfl) rfl rfl))) (fun _ _ => ?_)
              replace H := Gets.outr H
              replace H := Gets.outr H
              obtain rfl := Gets.out H
              exact WP.retL (fun _ _ h => h) rfl () trivial (.cons (res_tmp rfl) .nil) rfl (st_sel (L := [PTab.O g899 p902.2.2.2.2, own strK g922.1 t920, own strK g919.1 t917, blk b901 27 [sl Edu.K p902.2.2.1, sl (intK .i64) p902.2.2.2.1]]) (F := F) [0, 1, 2, 3] 4 rfl rfl rfl)
            · replace H := Gets.cf H c933
              refine WP.skip ?_
              refine WP.seq ?_
              refine WP.reg [(0, false)] (by kernel_rfl) ?_
              refine Dv.asg rfl trivial rfl ?_
              refine .fin ?_
              refine WP.block ?_
              refine WP.gh (l' := fun _ : Unit => [PTab.O g899 p902.2.2.2.2, own strK g922.1 t920, own strK g919.1 t917, blk b901 27 [sl Edu.K p902.2.2.1, sl (intK .i64) p902.2.2.2.1]] ++ F) (gh_of (PTab.shut (p := g899) (m := p902.2.2.2.2) (r := [own strK g922.1 t920, own strK g919.1 t917, blk b901 27 [sl Edu.K p902.2.2.1, sl (intK .i64) p902.2.2.2.1]] ++ F) (g913.1, g913.2.1, g913.2.2) h914 (perm_to (L := [own strK g922.1 t920, blk g913.1 61 [eq g913.2.1.1, eq g913.2.2.1], own Edu.K g913.2.1.1 p902.2.2.2.2.fl, own strK g919.1 t917, HHeap.O g913.2.2 p902.2.2.2.2.fturns, blk b901 27 [sl Edu.K p902.2.2.1, sl (intK .i64) p902.2.2.2.1]]) (F := F) [1, 2, 4, 0, 3, 5] (by kernel_rfl) rfl rfl))) (fun _ _ => ?_)
              refine WP.gh (l' := fun _ => [blk b901 27 [sl Edu.K p902.2.2.1, sl (intK .i64) p902.2.2.2.1], PTab.O g899 p902.2.2.2.2, own strK g922.1 t920, own strK g919.1 t917] ++ F) (gh_of (st_selg (L := [PTab.O g899 p902.2.2.2.2, own strK g922.1 t920, own strK g919.1 t917, blk b901 27 [sl Edu.K p902.2.2.1, sl (intK .i64) p902.2.2.2.1]]) (F := F) [3, 0, 1, 2] 0 rfl rfl rfl)) (fun _ _ => ?_)
              refine WP.loopg (fun j_ (p948 : Int) => concourselaw15_PresenceStates.l1 k a1 p902 t905 x910 t928 t931 j_ p948) 0 H (fun p948 => [(0, sl Edu.K a0), (1, eq (.int .i64 a1)), (2, eq (.string t903)), (6, eq (.bool false)), (7, eq g899.1), (8, eq (.pointer (some ⟨b901, 0, none⟩))), (9, eq (.int .i64 p902.1)), (13, sl (intK .i64) ([a1, t905] : List Int)), (14, eq (.int .i64 x910)), (15, eq (.int .i64 p948)), (19, eq (.bool false)), (27, eq (.bool p902.2.1)), (56, eq (.bool (decide (x910 < 2)))), (89, eq (.bool (t928 != t931)))]) (fun p948 => [blk b901 27 [sl Edu.K p902.2.2.1, sl (intK .i64) p902.2.2.2.1], PTab.O g899 p902.2.2.2.2, own strK g922.1 t920, own strK g919.1 t917] ++ F) (weak_cons rfl (weak_cons rfl (weak_cons rfl (weak_cons rfl (weak_cons rfl (weak_cons rfl (weak_cons rfl (weak_cons rfl (weak_cons rfl (weak_cons rfl (weak_cons rfl (weak_cons rfl (weak_cons rfl (weak_cons rfl weak_nil)))))))))))))) (List.Perm.refl _) ?_
              rintro j_ x934 H
              rcases j_ with _ | j947
              · exact (Gets.no H).elim
              replace H : Gets (concourselaw15_PresenceStates.l1 k a1 p902 t905 x910 t928 t931 (j947 + 1) x934) _ := H
              rw [concourselaw15_PresenceStates.l1] at H
              refine WP.seq ?_
              refine WP.seq ?_
              refine WP.reg [(0, false), (1, false)] (by kernel_rfl) ?_
              refine Dv.mv rfl trivial rfl ?_
              refine Dv.bin rfl trivial rfl rfl (fun _ => run_lt) ?_
              refine .fin ?_
              refine WP.cond rfl (fun c935 => ?_) (fun c935 => ?_)
              · replace H := Gets.ct H c935
                refine WP.skip ?_
                refine WP.seq ?_
                refine WP.block ?_
                refine WP.seq ?_
                refine WP.reg [(0, false), (1, false), (2, false)] (by kernel_rfl) ?_
                refine Dv.mv rfl trivial rfl ?_
                obtain ⟨t936, h937, H⟩ := Gets.call H
                refine Dv.call rfl trivial cal18 rfl (concourseref01_UserOf.c h937) ?_
                refine Dv.asg rfl trivial rfl ?_
                refine .fin ?_
                refine WP.seq ?_
                refine WP.gh (l' := fun (g938 : Nat × OV × OV) => [blk g938.1 61 [eq g938.2.1.1, eq g938.2.2.1], own Edu.K g938.2.1.1 p902.2.2.2.2.fl, HHeap.O g938.2.2 p902.2.2.2.2.fturns, blk b901 27 [sl Edu.K p902.2.2.1, sl (intK .i64) p902.2.2.2.1], own strK g922.1 t920, own strK g919.1 t917] ++ F) (gh_of (PTab.opn 1 rfl)) (fun g938 h939 => ?_)
                refine WP.dreg Tryz.checked.mixed [(0, false), (1, false), (2, false), (3, false), (4, false), (5, false), (6, false), (7, false), (8, false), (9, false), (10, false), (11, false), (12, false), (13, false), (14, false)] (by kernel_rfl) ?_
                refine Dv.mv rfl trivial rfl ?_
                refine Dv.mv rfl trivial rfl ?_
                refine Dv.mv rfl trivial rfl ?_
                refine Dv.mv rfl trivial rfl ?_
                obtain ⟨g940, H⟩ := Gets.grd H
                refine Dv.ixr rfl trivial rfl rfl Tryz.underlying25 Tryz.underlying3 c3 g940.1 g940.2 ?_
                refine Dv.ldr rfl trivial rfl Tryz.underlying3 rfl rfl ?_
                obtain ⟨t941, h942, H⟩ := Gets.call H
                refine Dv.calll (B := [blk g938.1 61 [eq g938.2.1.1, eq g938.2.2.1], own Edu.K g938.2.1.1 p902.2.2.2.2.fl]) (F := [HHeap.O g938.2.2 p902.2.2.2.2.fturns, blk b901 27 [sl Edu.K p902.2.2.1, sl (intK .i64) p902.2.2.2.1], own strK g922.1 t920, own strK g919.1 t917] ++ F) rfl trivial cal16 rfl (Tr.weak (presence_Table_State.c h942 (b0_ := g938.1) (v0_0 := g938.2.1) (v0_1 := g938.2.2)) (.cons (wk_ptr h939) (.cons wk_id (.cons wk_id .nil)))) (perm_to (L := [blk g938.1 61 [eq g938.2.1.1, eq g938.2.2.1], own Edu.K g938.2.1.1 p902.2.2.2.2.fl, HHeap.O g938.2.2 p902.2.2.2.2.fturns, blk b901 27 [sl Edu.K p902.2.2.1, sl (intK .i64) p902.2.2.2.1], own strK g922.1 t920, own strK g919.1 t917]) (F := F) [0, 1, 2, 3, 4, 5] (by kernel_rfl) rfl rfl) ?_
                refine Dv.ldbs rfl trivial rfl Tryz.underlying27 rfl c27 (mem_at 3 rfl) (Nat.le_of_ble_eq_true rfl) ?_
                refine Dv.mv rfl trivial rfl ?_
                refine Dv.mv rfl trivial rfl ?_
                refine Dv.mv rfl trivial rfl ?_
                obtain ⟨g943, H⟩ := Gets.grd H
                refine Dv.ixr rfl trivial rfl rfl Tryz.underlying25 Tryz.underlying3 c3 g943.1 g943.2 ?_
                refine Dv.ldr rfl trivial rfl Tryz.underlying3 rfl rfl ?_
                obtain ⟨t944, h945, H⟩ := Gets.call H
                refine Dv.call rfl trivial cal17 rfl (concourseref15_State.c h945) ?_
                refine Dv.bin rfl trivial rfl rfl (fun _ => run_ne) ?_
                refine .fin ?_
                refine WP.cond rfl (fun c946 => ?_) (fun c946 => ?_)
                · replace H := Gets.ct H c946
                  refine WP.seq ?_
                  refine WP.reg [(0, false)] (by kernel_rfl) ?_
                  refine Dv.asg rfl trivial rfl ?_
                  refine .fin ?_
                  refine WP.gh (l' := fun _ : Unit => [PTab.O g899 p902.2.2.2.2, blk b901 27 [sl Edu.K p902.2.2.1, sl (intK .i64) p902.2.2.2.1], own strK g922.1 t920, own strK g919.1 t917] ++ F) (gh_of (PTab.shut (p := g899) (m := p902.2.2.2.2) (r := [blk b901 27 [sl Edu.K p902.2.2.1, sl (intK .i64) p902.2.2.2.1], own strK g922.1 t920, own strK g919.1 t917] ++ F) (g938.1, g938.2.1, g938.2.2) h939 (perm_to (L := [blk g938.1 61 [eq g938.2.1.1, eq g938.2.2.1], own Edu.K g938.2.1.1 p902.2.2.2.2.fl, HHeap.O g938.2.2 p902.2.2.2.2.fturns, blk b901 27 [sl Edu.K p902.2.2.1, sl (intK .i64) p902.2.2.2.1], own strK g922.1 t920, own strK g919.1 t917]) (F := F) [0, 1, 2, 3, 4, 5] (by kernel_rfl) rfl rfl))) (fun _ _ => ?_)
                  replace H := Gets.outr H
                  replace H := Gets.outr H
                  obtain rfl := Gets.out H
                  exact WP.retL (fun _ _ h => h) rfl () trivial (.cons (res_tmp rfl) .nil) rfl (st_sel (L := [PTab.O g899 p902.2.2.2.2, blk b901 27 [sl Edu.K p902.2.2.1, sl (intK .i64) p902.2.2.2.1], own strK g922.1 t920, own strK g919.1 t917]) (F := F) [0, 1, 2, 3] 4 rfl rfl rfl)
                · replace H := Gets.cf H c946
                  refine WP.skip ?_
                  refine WP.reg [(0, false), (1, false), (2, false)] (by kernel_rfl) ?_
                  refine Dv.mv rfl trivial rfl ?_
                  refine Dv.bin rfl trivial rfl rfl (fun _ => run_add) ?_
                  refine Dv.asg rfl trivial rfl ?_
                  refine .fin ?_
                  refine Dn.gh (l' := fun _ : Unit => [PTab.O g899 p902.2.2.2.2, blk b901 27 [sl Edu.K p902.2.2.1, sl (intK .i64) p902.2.2.2.1], own strK g922.1 t920, own strK g919.1 t917] ++ F) (gh_of (PTab.shut (p := g899) (m := p902.2.2.2.2) (r := [blk b901 27 [sl Edu.K p902.2.2.1, sl (intK .i64) p902.2.2.2.1], own strK g922.1 t920, own strK g919.1 t917] ++ F) (g938.1, g938.2.1, g938.2.2) h939 (perm_to (L := [blk g938.1 61 [eq g938.2.1.1, eq g938.2.2.1], own Edu.K g938.2.1.1 p902.2.2.2.2.fl, HHeap.O g938.2.2 p902.2.2.2.2.fturns, blk b901 27 [sl Edu.K p902.2.2.1, sl (intK .i64) p902.2.2.2.1], own strK g922.1 t920, own strK g919.1 t917]) (F := F) [0, 1, 2, 3, 4, 5] (by kernel_rfl) rfl rfl))) (fun _ _ => ?_)
                  refine Dn.gh (l' := fun _ : Unit => [blk b901 27 [sl Edu.K p902.2.2.1, sl (intK .i64) p902.2.2.2.1], PTab.O g899 p902.2.2.2.2, own strK g922.1 t920, own strK g919.1 t917] ++ F) (gh_of (st_selg (L := [PTab.O g899 p902.2.2.2.2, blk b901 27 [sl Edu.K p902.2.2.1, sl (intK .i64) p902.2.2.2.1], own strK g922.1 t920, own strK g919.1 t917]) (F := F) [1, 0, 2, 3] 0 rfl rfl rfl)) (fun _ _ => ?_)
                  exact Back.mk j947 (w64 (x934 + 1)) (Nat.lt_succ_self _) H (weak_cons rfl (weak_cons rfl (weak_cons rfl (weak_cons rfl (weak_cons rfl (weak_cons rfl (weak_cons rfl (weak_cons rfl (weak_cons rfl (weak_cons rfl (weak_cons rfl (weak_cons rfl (weak_cons rfl (weak_cons rfl weak_nil)))))))))))))) (List.Perm.refl _)
              · replace H := Gets.cf H c935
                refine WP.exit ?_
                replace H := Gets.out H
                refine Dn.gh (l' := fun _ : Unit => [blk b901 27 [sl Edu.K p902.2.2.1, sl (intK .i64) p902.2.2.2.1], PTab.O g899 p902.2.2.2.2] ++ F) (gh_of (st_selg (L := [blk b901 27 [sl Edu.K p902.2.2.1, sl (intK .i64) p902.2.2.2.1], PTab.O g899 p902.2.2.2.2, own strK g922.1 t920, own strK g919.1 t917]) (F := F) [2, 3, 0, 1] 2 rfl rfl rfl)) (fun _ _ => ?_)
                exact Jn.mk (x934, (t928 != t931), decide (x934 < 9)) H (weak_cons rfl (weak_cons rfl (weak_cons rfl (weak_cons rfl (weak_cons rfl (weak_cons rfl (weak_cons rfl (weak_cons rfl (weak_cons rfl (weak_cons rfl (weak_cons rfl (weak_cons rfl (weak_cons rfl (weak_cons rfl (weak_cons rfl weak_nil))))))))))))))) (List.Perm.refl _)
          · replace H := Gets.ct H c925
            refine Dv.skip rfl ⟨_, _, rfl, rfl, .inl rfl⟩ ?_
            refine Dv.skip rfl ⟨_, _, rfl, rfl, .inl rfl⟩ ?_
            refine Dv.skip rfl ⟨_, _, rfl, rfl, .inl rfl⟩ ?_
            refine Dv.skip rfl ⟨_, _, rfl, rfl, .inl rfl⟩ ?_
            refine Dv.skip rfl ⟨_, _, rfl, rfl, .inl rfl⟩ ?_
            refine Dv.skip rfl ⟨_, _, rfl, rfl, .inl rfl⟩ ?_
            refine Dv.skip rfl ⟨_, _, rfl, rfl, .inl rfl⟩ ?_
            refine Dv.skip rfl ⟨_, _, rfl, rfl, .inl rfl⟩ ?_
            refine Dv.skip rfl ⟨_, _, rfl, rfl, .inl rfl⟩ ?_
            refine Dv.skip rfl ⟨_, _, rfl, rfl, .inl rfl⟩ ?_
            refine Dv.skip rfl ⟨_, _, rfl, rfl, .inl rfl⟩ ?_
            refine Dv.skip rfl ⟨_, _, rfl, rfl, .inl rfl⟩ ?_
            refine Dv.skip rfl ⟨_, _, rfl, rfl, .inl rfl⟩ ?_
            refine Dv.skip rfl ⟨_, _, rfl, rfl, .inl rfl⟩ ?_
            refine Dv.skip rfl ⟨_, _, rfl, rfl, .inl rfl⟩ ?_
            refine Dv.pickT rfl trivial rfl rfl ?_
            refine .fin ?_
            refine WP.cond rfl (fun _ => ?_) nofun
            refine WP.seq ?_
            refine WP.reg [(0, false)] (by kernel_rfl) ?_
            refine Dv.asg rfl trivial rfl ?_
            refine .fin ?_
            refine WP.gh (l' := fun _ : Unit => [PTab.O g899 p902.2.2.2.2, own strK g922.1 t920, own strK g919.1 t917, blk b901 27 [sl Edu.K p902.2.2.1, sl (intK .i64) p902.2.2.2.1]] ++ F) (gh_of (PTab.shut (p := g899) (m := p902.2.2.2.2) (r := [own strK g922.1 t920, own strK g919.1 t917, blk b901 27 [sl Edu.K p902.2.2.1, sl (intK .i64) p902.2.2.2.1]] ++ F) (g913.1, g913.2.1, g913.2.2) h914 (perm_to (L := [own strK g922.1 t920, blk g913.1 61 [eq g913.2.1.1, eq g913.2.2.1], own Edu.K g913.2.1.1 p902.2.2.2.2.fl, own strK g919.1 t917, HHeap.O g913.2.2 p902.2.2.2.2.fturns, blk b901 27 [sl Edu.K p902.2.2.1, sl (intK .i64) p902.2.2.2.1]]) (F := F) [1, 2, 4, 0, 3, 5] (by kernel_rfl) rfl rfl))) (fun _ _ => ?_)
            replace H := Gets.outr H
            replace H := Gets.outr H
            obtain rfl := Gets.out H
            exact WP.retL (fun _ _ h => h) rfl () trivial (.cons (res_tmp rfl) .nil) rfl (st_sel (L := [PTab.O g899 p902.2.2.2.2, own strK g922.1 t920, own strK g919.1 t917, blk b901 27 [sl Edu.K p902.2.2.1, sl (intK .i64) p902.2.2.2.1]]) (F := F) [0, 1, 2, 3] 4 rfl rfl rfl)
      · replace H := Gets.cf H c911
        refine WP.exit ?_
        replace H := Gets.out H
        exact Jn.mk (x910, decide (x910 < 2)) H (weak_cons rfl (weak_cons rfl (weak_cons rfl (weak_cons rfl (weak_cons rfl (weak_cons rfl (weak_cons rfl (weak_cons rfl (weak_cons rfl (weak_cons rfl (weak_cons rfl (weak_cons rfl weak_nil)))))))))))) (List.Perm.refl _)
  · refine WP.seq ?_
    refine WP.reg [(0, false)] (by kernel_rfl) ?_
    refine Dv.asg rfl trivial rfl ?_
    refine .fin ?_
    refine WP.block ?_
    refine WP.gh (gh_wk (E' := [(0, sl Edu.K a0), (1, eq (.int .i64 a1)), (2, eq (.string a2)), (6, eq (.bool false)), (7, eq g899.1), (8, eq (.pointer (some ⟨b901, 0, none⟩))), (9, eq (.int .i64 0)), (19, eq (.bool false))]) (l' := [blk b901 27 [sl Edu.K ([] : List Edu), sl (intK .i64) ([] : List Int)], PTab.O g899 t897] ++ F) (wke_cons rfl wk_id (wke_cons rfl wk_id (wke_cons rfl wk_id (wke_cons rfl wk_id (wke_cons rfl wk_id (wke_cons rfl wk_id (wke_cons rfl wk_id (wke_cons rfl wk_id wke_nil)))))))) (all2_app (.cons (wka_blk (.cons wk_nil (.cons wk_nil .nil))) (.cons wka_id .nil)) fun _ => wka_id)) (fun _ _ => ?_)
    refine WP.gh (l' := fun _ => [blk b901 27 [sl Edu.K ([] : List Edu), sl (intK .i64) ([] : List Int)], PTab.O g899 t897] ++ F) (gh_of (st_selg (L := [blk b901 27 [sl Edu.K ([] : List Edu), sl (intK .i64) ([] : List Int)], PTab.O g899 t897]) (F := F) [0, 1] 0 rfl rfl rfl)) (fun _ _ => ?_)
    refine WP.loopg (fun j_ (p970 : Int × (List Edu) × (List Int) × PTab) => concourselaw15_PresenceStates.l2 k a0 j_ p970.1 p970.2.1 p970.2.2.1 p970.2.2.2) (0, ([] : List Edu), ([] : List Int), t897) H (fun p970 => [(0, sl Edu.K a0), (1, eq (.int .i64 a1)), (2, eq (.string a2)), (6, eq (.bool false)), (7, eq g899.1), (8, eq (.pointer (some ⟨b901, 0, none⟩))), (9, eq (.int .i64 p970.1)), (19, eq (.bool false))]) (fun p970 => [blk b901 27 [sl Edu.K p970.2.1, sl (intK .i64) p970.2.2.1], PTab.O g899 p970.2.2.2] ++ F) (weak_cons rfl (weak_cons rfl (weak_cons rfl (weak_cons rfl (weak_cons rfl (weak_cons rfl (weak_cons rfl (weak_cons rfl weak_nil)))))))) (List.Perm.refl _) ?_
    rintro j_ ⟨x951, x952, x953, x954⟩ H
    rcases j_ with _ | j969
    · exact (Gets.no H).elim
    replace H : Gets (concourselaw15_PresenceStates.l2 k a0 (j969 + 1) x951 x952 x953 x954) _ := H
    rw [concourselaw15_PresenceStates.l2] at H
    refine WP.seq ?_
    refine WP.seq ?_
    refine WP.reg [(0, false), (1, false), (2, false), (3, false), (4, false), (5, false), (6, false), (7, false)] (by kernel_rfl) ?_
    refine Dv.mv rfl trivial rfl ?_
    refine Dv.mv rfl trivial rfl ?_
    refine Dv.lenl rfl trivial rfl Tryz.underlying22 ?_
    refine Dv.bin rfl trivial rfl rfl (fun _ => run_lt) ?_
    refine Dv.mv rfl trivial rfl ?_
    cases c955 : decide (x951 < (a0.length : Int))
    · replace H := Gets.cf H c955
      refine Dv.skip rfl ⟨_, _, rfl, rfl, .inl rfl⟩ ?_
      refine Dv.skip rfl ⟨_, _, rfl, rfl, .inl rfl⟩ ?_
      refine Dv.pickF rfl trivial rfl rfl ?_
      refine .fin ?_
      refine WP.cond rfl nofun (fun _ => ?_)
      refine WP.exit ?_
      replace H := Gets.out H
      exact Jn.mk (x951, false, x952, x953, x954) H (weak_cons rfl (weak_cons rfl (weak_cons rfl (weak_cons rfl (weak_cons rfl (weak_cons rfl (weak_cons rfl (weak_cons rfl (weak_cons rfl weak_nil))))))))) (List.Perm.refl _)
    · replace H := Gets.ct H c955
      refine Dv.mv rfl ⟨_, _, rfl, rfl, rfl⟩ rfl ?_
      refine Dv.bin rfl ⟨_, _, rfl, rfl, rfl⟩ rfl rfl (fun _ => run_lt) ?_
      refine Dv.pickT rfl trivial rfl rfl ?_
      refine .fin ?_
      refine WP.cond rfl (fun c956 => ?_) (fun c956 => ?_)
      · replace H := Gets.ct H c956
        refine WP.skip ?_
        refine WP.seq ?_
        refine WP.block ?_
        refine WP.seq ?_
        refine WP.dreg Tryz.checked.mixed [(0, false), (1, false), (2, false), (3, false), (4, false), (5, false), (6, false), (7, false), (8, false), (9, false), (10, false), (11, true), (12, true), (13, false), (14, false)] (by kernel_rfl) ?_
        refine Dv.ldbs rfl trivial rfl Tryz.underlying27 rfl c27 (mem_at 0 rfl) (Nat.le_of_ble_eq_true rfl) ?_
        refine Dv.mv rfl trivial rfl ?_
        refine Dv.mv rfl trivial rfl ?_
        obtain ⟨g957, H⟩ := Gets.grd H
        refine Dv.ixr rfl trivial rfl rfl Tryz.underlying22 Tryz.underlying32 c32 g957.1 g957.2 ?_
        refine Dv.ldrs rfl trivial rfl Tryz.underlying32 rfl c32 (Nat.le_of_ble_eq_true rfl) ?_
        obtain ⟨t958, h959, H⟩ := Gets.call H
        refine Dv.call rfl trivial cal9 rfl (concourseref15_Made.c h959) ?_
        obtain ⟨t960, h961, H⟩ := Gets.call H
        refine Dv.call rfl trivial cal8 rfl (concourseref15_Put.c h961) ?_
        refine Dv.mv rfl trivial rfl ?_
        refine Dv.ext rfl trivial rfl rfl ?_
        refine Dv.ext rfl trivial rfl rfl ?_
        refine Dv.ext rfl trivial rfl rfl ?_
        refine Dv.alloc (z := .agg #[.slice none 0 0, .slice none 0 0]) (qs := [eq (.slice none 0 0), eq (.slice none 0 0)]) rfl trivial z27 rfl (fun _ => (pend_in (fun _ => trivial) (pend_in (fun _ => trivial) (pend_in (fun _ => trivial) (pend_in (fun _ => trivial) (pend_in (fun _ => trivial) (pend_in (fun _ => trivial) (pend_in (fun _ => trivial) (pend_in (fun _ => trivial) (pend_in (fun _ => trivial) (pend_in (fun _ => trivial) (pend_in (fun _ => (mem_at 1 rfl)) pend_nil)))))))))))) (fun b962 => ?_)
        refine Dv.stx ([blk b962 27 [sl Edu.K t960.1.fL, sl (intK .i64) t960.1.fTold], blk b901 27 [sl Edu.K x952, sl (intK .i64) x953], PTab.O g899 x954] ++ F) rfl trivial rfl rfl (cells_agg (TRef.K.one _)) Tryz.underlying27 c27 rfl (j := 0) rfl (Nat.le_of_ble_eq_true rfl) rfl (fun _ => (pend_in (fun _ => trivial) (pend_in (fun _ => trivial) (pend_by (by kernel_rfl) (pend_by (by kernel_rfl) (pend_by (by kernel_rfl) (pend_by (by kernel_rfl) (pend_by (by kernel_rfl) (pend_by (by kernel_rfl) (pend_by (by kernel_rfl) (pend_by (by kernel_rfl) (pend_by (by kernel_rfl) pend_nil)))))))))))) ?_
        refine Dv.asg rfl trivial rfl ?_
        refine Dv.asg rfl trivial rfl ?_
        refine .fin ?_
        refine WP.seq ?_
        refine WP.reg [(0, false), (1, true)] (by kernel_rfl) ?_
        refine Dv.ldbs rfl trivial rfl Tryz.underlying27 rfl c27 (mem_at 0 rfl) (Nat.le_of_ble_eq_true rfl) ?_
        refine Dv.stx ([blk b962 27 [sl Edu.K t960.1.fL, sl (intK .i64) t960.1.fTold], blk b901 27 [sl Edu.K t960.1.fL, sl (intK .i64) t960.1.fTold], PTab.O g899 x954] ++ F) rfl trivial rfl rfl (cells_agg (TRef.K.one _)) Tryz.underlying27 c27 rfl (j := 1) rfl (Nat.le_of_ble_eq_true rfl) rfl nofun ?_
        refine .fin ?_
        refine WP.reg [(0, false), (1, false), (2, false), (3, false), (4, false), (5, false), (6, true)] (by kernel_rfl) ?_
        refine Dv.mv rfl trivial rfl ?_
        refine Dv.mv rfl trivial rfl ?_
        refine Dv.mv rfl trivial rfl ?_
        obtain ⟨g963, H⟩ := Gets.grd H
        refine Dv.ixr rfl trivial rfl rfl Tryz.underlying22 Tryz.underlying32 c32 g963.1 g963.2 ?_
        refine Dv.ldrs rfl trivial rfl Tryz.underlying32 rfl c32 (Nat.le_of_ble_eq_true rfl) ?_
        obtain ⟨t964, h965, H⟩ := Gets.call H
        refine Dv.call rfl trivial cal9 rfl (concourseref15_Made.c h965) ?_
        obtain ⟨t966, h967, H⟩ := Gets.call H
        refine Dv.callx (pre := [PTab.O g899 x954]) (F := [blk b962 27 [sl Edu.K t960.1.fL, sl (intK .i64) t960.1.fTold], blk b901 27 [sl Edu.K t960.1.fL, sl (intK .i64) t960.1.fTold]] ++ F) (fun _ : Unit => [PTab.O g899 t966.2.2, blk b962 27 [sl Edu.K t960.1.fL, sl (intK .i64) t960.1.fTold], blk b901 27 [sl Edu.K t960.1.fL, sl (intK .i64) t960.1.fTold]] ++ F) rfl trivial cal10 rfl (presence_Table_Put.c h967 (p0_ := g899)) (perm_to (L := [blk b962 27 [sl Edu.K t960.1.fL, sl (intK .i64) t960.1.fTold], blk b901 27 [sl Edu.K t960.1.fL, sl (intK .i64) t960.1.fTold], PTab.O g899 x954]) (F := F) [2, 0, 1] rfl rfl rfl) rfl nofun (fun _ _ => ?_)
        refine .fin ?_
        refine WP.reg [(0, false), (1, false), (2, false)] (by kernel_rfl) ?_
        refine Dv.mv rfl trivial rfl ?_
        refine Dv.bin rfl trivial rfl rfl (fun _ => run_add) ?_
        refine Dv.asg rfl trivial rfl ?_
        refine .fin ?_
        refine Dn.gh (l' := fun _ : Unit => [blk b901 27 [sl Edu.K t960.1.fL, sl (intK .i64) t960.1.fTold], PTab.O g899 t966.2.2] ++ F) (gh_of (st_selg (L := [PTab.O g899 t966.2.2, blk b962 27 [sl Edu.K t960.1.fL, sl (intK .i64) t960.1.fTold], blk b901 27 [sl Edu.K t960.1.fL, sl (intK .i64) t960.1.fTold]]) (F := F) [1, 2, 0] 1 rfl rfl rfl)) (fun _ _ => ?_)
        exact Back.mk j969 (w64 (x951 + 1), t960.1.fL, t960.1.fTold, t966.2.2) (Nat.lt_succ_self _) H (weak_cons rfl (weak_cons rfl (weak_cons rfl (weak_cons rfl (weak_cons rfl (weak_cons rfl (weak_cons rfl (weak_cons rfl weak_nil)))))))) (List.Perm.refl _)
      · replace H := Gets.cf H c956
        refine WP.exit ?_
        replace H := Gets.out H
        exact Jn.mk (x951, decide (x951 < 10), x952, x953, x954) H (weak_cons rfl (weak_cons rfl (weak_cons rfl (weak_cons rfl (weak_cons rfl (weak_cons rfl (weak_cons rfl (weak_cons rfl (weak_cons rfl weak_nil))))))))) (List.Perm.refl _)
end Go.Proofs.YtegmafgodoikiaaGreat
