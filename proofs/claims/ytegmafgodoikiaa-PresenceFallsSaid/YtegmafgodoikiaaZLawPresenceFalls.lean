/- The walks. -/
import Derived.Test.YtegmafgodoikiaaZWalks3
import Derived.Test.YtegmafgodoikiaaConU
import Derived.Eval
set_option linter.all false
set_option maxRecDepth 10000
set_option maxHeartbeats 20000000
namespace Go.Proofs.Ytegmafgodoikiaa
open Go Go.Sp
theorem concourselaw15_PresenceFalls.c {k : Nat} {a0 : List Edu} {a1 : Int} {a2 : Int} {r : Bool} (h : concourselaw15_PresenceFalls.f k a0 a1 a2 = some r) : Pt Try.prog 4 [sl Edu.K a0, eq (.int .i64 a1), eq (.int .i64 a2)] (eq (.bool r)) := by
  unfold concourselaw15_PresenceFalls.f at h
  refine (Tr.body Try.func4 (c := _) rfl Try.ntmps4 (Nat.le_of_ble_eq_true rfl) fun R0 F => ?_).pt
  replace h := Gets.of h
  have H := h
  clear h
  refine WP.seq ?_
  refine WP.reg [(0, false)] (by kernel_rfl) ?_
  refine Dv.asg rfl trivial rfl ?_
  refine .fin ?_
  refine WP.seq ?_
  refine WP.reg [(0, true), (1, false)] (by kernel_rfl) ?_
  obtain ⟨t943, h944, H⟩ := Gets.call H
  refine Dv.callx (pre := []) (F := [] ++ F) (fun g945 : OV => [PTab.O g945 t943] ++ F) rfl trivial cal5 rfl (presence_New.c h944) (perm_to (L := []) (F := F) [] rfl rfl rfl) rfl nofun (fun g945 _ => ?_)
  refine Dv.asg rfl trivial rfl ?_
  refine .fin ?_
  refine WP.seq ?_
  refine WP.seq ?_
  refine WP.reg [(0, false), (1, false)] (by kernel_rfl) ?_
  refine Dv.mv rfl trivial rfl ?_
  refine Dv.peq0 PTab.nn rfl trivial rfl rfl Try.underlying25 (mem_at 0 rfl) ?_
  refine .fin ?_
  refine WP.cond rfl nofun (fun _ => ?_)
  refine WP.skip ?_
  refine WP.seqn H id (fun p947 : Int × Bool × PTab => [(0, sl Edu.K a0), (1, eq (.int .i64 a1)), (2, eq (.int .i64 a2)), (6, eq (.bool false)), (7, eq g945.1), (8, eq (.int .i64 p947.1)), (15, eq (.bool false)), (23, eq (.bool p947.2.1))]) (fun p947 : Int × Bool × PTab => [PTab.O g945 p947.2.2] ++ F) (fun p947 H => ?_) (fun H => ?_)
  · refine WP.seq ?_
    refine WP.reg [(0, false), (1, false), (2, false)] (by kernel_rfl) ?_
    refine Dv.mv rfl trivial rfl ?_
    obtain ⟨t948, h949, H⟩ := Gets.call H
    refine Dv.call rfl trivial cal13 rfl (concourseref01_Around.c h949) ?_
    refine Dv.asg rfl trivial rfl ?_
    refine .fin ?_
    refine WP.seq ?_
    refine WP.reg [(0, false), (1, false), (2, false)] (by kernel_rfl) ?_
    refine Dv.mv rfl trivial rfl ?_
    obtain ⟨t950, h951, H⟩ := Gets.call H
    refine Dv.call rfl trivial cal13 rfl (concourseref01_Around.c h951) ?_
    refine Dv.asg rfl trivial rfl ?_
    refine .fin ?_
    refine WP.seqr H id (fun p952 : Int × Bool => [(0, sl Edu.K a0), (1, eq (.int .i64 a1)), (2, eq (.int .i64 a2)), (6, eq (.bool false)), (7, eq g945.1), (8, eq (.int .i64 p947.1)), (9, eq (.int .i64 t948)), (10, eq (.int .i64 t950)), (11, eq (.int .i64 p952.1)), (15, eq (.bool false)), (23, eq (.bool p947.2.1)), (38, eq (.bool p952.2))]) (fun p952 : Int × Bool => [PTab.O g945 p947.2.2] ++ F) (fun p952 H => ?_) (fun H => ?_)
    · refine WP.seq ?_
      refine WP.reg [(0, false), (1, true), (2, false), (3, false), (4, false), (5, false), (6, false), (7, false), (8, false), (9, true), (10, false), (11, false), (12, false), (13, false), (14, false), (15, true), (16, false), (17, false), (18, false), (19, false), (20, false), (21, false), (22, false)] (by kernel_rfl) ?_
      refine Dv.mv rfl trivial rfl ?_
      refine Dv.gh (l' := fun (g953 : Nat × OV × OV) => [blk g953.1 48 [eq g953.2.1.1, eq g953.2.2.1], own Edu.K g953.2.1.1 p947.2.2.fl, HHeap.O g953.2.2 p947.2.2.fturns] ++ F) (gh_of (PTab.opn 0 rfl)) (fun g953 h954 => ?_)
      obtain ⟨t955, h956, H⟩ := Gets.call H
      refine Dv.callx (pre := [blk g953.1 48 [eq g953.2.1.1, eq g953.2.2.1], own Edu.K g953.2.1.1 p947.2.2.fl]) (F := [HHeap.O g953.2.2 p947.2.2.fturns] ++ F) (fun g957 : OV => [blk g953.1 48 [eq g953.2.1.1, eq g953.2.2.1], own Edu.K g953.2.1.1 p947.2.2.fl, own strK g957.1 t955, HHeap.O g953.2.2 p947.2.2.fturns] ++ F) rfl trivial cal14 rfl (Tr.weak (presence_Table_There.c h956 (b0_ := g953.1) (v0_0 := g953.2.1) (v0_1 := g953.2.2)) (.cons (wk_ptr h954) (.cons wk_id .nil))) (perm_to (L := [blk g953.1 48 [eq g953.2.1.1, eq g953.2.2.1], own Edu.K g953.2.1.1 p947.2.2.fl, HHeap.O g953.2.2 p947.2.2.fturns]) (F := F) [0, 1, 2] rfl rfl rfl) rfl nofun (fun g957 _ => ?_)
      refine Dv.lenw rfl trivial rfl (mem_at 2 rfl) Try.underlying42 ?_
      refine Dv.bin rfl trivial rfl rfl (fun _ => run_eq) ?_
      refine Dv.mv rfl trivial rfl ?_
      cases c958 : ((t955.length : Int) == 0)
      · replace H := Gets.cf H c958
        refine Dv.skip rfl ⟨_, _, rfl, rfl, .inl rfl⟩ ?_
        refine Dv.skip rfl ⟨_, _, rfl, rfl, .inl rfl⟩ ?_
        refine Dv.skip rfl ⟨_, _, rfl, rfl, .inl rfl⟩ ?_
        refine Dv.skip rfl ⟨_, _, rfl, rfl, .inl rfl⟩ ?_
        refine Dv.skipb rfl ⟨_, _, rfl, rfl, .inl rfl⟩ nofun ?_
        refine Dv.skip rfl ⟨_, _, rfl, rfl, .inl rfl⟩ ?_
        refine Dv.skip rfl ⟨_, _, rfl, rfl, .inl rfl⟩ ?_
        refine Dv.skip rfl ⟨_, _, rfl, rfl, .inl rfl⟩ ?_
        refine Dv.skip rfl ⟨_, _, rfl, rfl, .inl rfl⟩ ?_
        refine Dv.skip rfl ⟨_, _, rfl, rfl, .inl rfl⟩ ?_
        refine Dv.skipb rfl ⟨_, _, rfl, rfl, .inl rfl⟩ nofun ?_
        refine Dv.skip rfl ⟨_, _, rfl, rfl, .inl rfl⟩ ?_
        refine Dv.skip rfl ⟨_, _, rfl, rfl, .inl rfl⟩ ?_
        refine Dv.pickF rfl trivial rfl rfl ?_
        refine Dv.mv rfl trivial rfl ?_
        refine Dv.skip rfl ⟨_, _, rfl, rfl, .inl rfl⟩ ?_
        refine Dv.pickF rfl trivial rfl rfl ?_
        refine Dv.asg rfl trivial rfl ?_
        refine .fin ?_
        refine WP.gh (l' := fun _ : Unit => [PTab.O g945 p947.2.2, own strK g957.1 t955] ++ F) (gh_of (PTab.shut (p := g945) (m := p947.2.2) (r := [own strK g957.1 t955] ++ F) (g953.1, g953.2.1, g953.2.2) h954 (perm_to (L := [blk g953.1 48 [eq g953.2.1.1, eq g953.2.2.1], own Edu.K g953.2.1.1 p947.2.2.fl, own strK g957.1 t955, HHeap.O g953.2.2 p947.2.2.fturns]) (F := F) [0, 1, 3, 2] rfl rfl rfl))) (fun _ _ => ?_)
        obtain rfl := Gets.out H
        exact WP.retL (fun _ _ h => h) rfl () trivial (.cons (res_tmp rfl) .nil) rfl (st_sel (L := [PTab.O g945 p947.2.2, own strK g957.1 t955]) (F := F) [0, 1] 2 rfl rfl rfl)
      · replace H := Gets.ct H c958
        refine Dv.mv rfl ⟨_, _, rfl, rfl, rfl⟩ rfl ?_
        refine Dv.mv rfl ⟨_, _, rfl, rfl, rfl⟩ rfl ?_
        refine Dv.mv rfl ⟨_, _, rfl, rfl, rfl⟩ rfl ?_
        refine Dv.mini rfl ⟨_, _, rfl, rfl, rfl⟩ rfl rfl ?_
        obtain ⟨t959, h960, H⟩ := Gets.call H
        refine Dv.callx (pre := [blk g953.1 48 [eq g953.2.1.1, eq g953.2.2.1], own Edu.K g953.2.1.1 p947.2.2.fl]) (F := [own strK g957.1 t955, HHeap.O g953.2.2 p947.2.2.fturns] ++ F) (fun g961 : OV => [blk g953.1 48 [eq g953.2.1.1, eq g953.2.2.1], own Edu.K g953.2.1.1 p947.2.2.fl, own strK g961.1 t959, own strK g957.1 t955, HHeap.O g953.2.2 p947.2.2.fturns] ++ F) rfl ⟨_, _, rfl, rfl, rfl⟩ cal14 rfl (Tr.weak (presence_Table_There.c h960 (b0_ := g953.1) (v0_0 := g953.2.1) (v0_1 := g953.2.2)) (.cons (wk_ptr h954) (.cons wk_id .nil))) (perm_to (L := [blk g953.1 48 [eq g953.2.1.1, eq g953.2.2.1], own Edu.K g953.2.1.1 p947.2.2.fl, own strK g957.1 t955, HHeap.O g953.2.2 p947.2.2.fturns]) (F := F) [0, 1, 2, 3] rfl rfl rfl) rfl nofun (fun g961 _ => ?_)
        refine Dv.lenw rfl ⟨_, _, rfl, rfl, rfl⟩ rfl (mem_at 2 rfl) Try.underlying42 ?_
        refine Dv.mv rfl ⟨_, _, rfl, rfl, rfl⟩ rfl ?_
        refine Dv.mv rfl ⟨_, _, rfl, rfl, rfl⟩ rfl ?_
        refine Dv.mv rfl ⟨_, _, rfl, rfl, rfl⟩ rfl ?_
        refine Dv.maxi rfl ⟨_, _, rfl, rfl, rfl⟩ rfl rfl ?_
        obtain ⟨t962, h963, H⟩ := Gets.call H
        refine Dv.callx (pre := [blk g953.1 48 [eq g953.2.1.1, eq g953.2.2.1], own Edu.K g953.2.1.1 p947.2.2.fl]) (F := [own strK g961.1 t959, own strK g957.1 t955, HHeap.O g953.2.2 p947.2.2.fturns] ++ F) (fun g964 : OV => [blk g953.1 48 [eq g953.2.1.1, eq g953.2.2.1], own Edu.K g953.2.1.1 p947.2.2.fl, own strK g964.1 t962, own strK g961.1 t959, own strK g957.1 t955, HHeap.O g953.2.2 p947.2.2.fturns] ++ F) rfl ⟨_, _, rfl, rfl, rfl⟩ cal14 rfl (Tr.weak (presence_Table_There.c h963 (b0_ := g953.1) (v0_0 := g953.2.1) (v0_1 := g953.2.2)) (.cons (wk_ptr h954) (.cons wk_id .nil))) (perm_to (L := [blk g953.1 48 [eq g953.2.1.1, eq g953.2.2.1], own Edu.K g953.2.1.1 p947.2.2.fl, own strK g961.1 t959, own strK g957.1 t955, HHeap.O g953.2.2 p947.2.2.fturns]) (F := F) [0, 1, 2, 3, 4] (by kernel_rfl) rfl rfl) rfl nofun (fun g964 _ => ?_)
        refine Dv.lenw rfl ⟨_, _, rfl, rfl, rfl⟩ rfl (mem_at 2 rfl) Try.underlying42 ?_
        refine Dv.bin rfl ⟨_, _, rfl, rfl, rfl⟩ rfl rfl (fun _ => run_ge) ?_
        refine Dv.pickT rfl trivial rfl rfl ?_
        refine Dv.mv rfl trivial rfl ?_
        cases c965 : decide ((t962.length : Int) ≤ (t959.length : Int))
        · replace H := Gets.cf H c965
          refine Dv.skip rfl ⟨_, _, rfl, rfl, .inl rfl⟩ ?_
          refine Dv.pickF rfl trivial rfl rfl ?_
          refine Dv.asg rfl trivial rfl ?_
          refine .fin ?_
          refine WP.gh (l' := fun _ : Unit => [PTab.O g945 p947.2.2, own strK g964.1 t962, own strK g961.1 t959, own strK g957.1 t955] ++ F) (gh_of (PTab.shut (p := g945) (m := p947.2.2) (r := [own strK g964.1 t962, own strK g961.1 t959, own strK g957.1 t955] ++ F) (g953.1, g953.2.1, g953.2.2) h954 (perm_to (L := [blk g953.1 48 [eq g953.2.1.1, eq g953.2.2.1], own Edu.K g953.2.1.1 p947.2.2.fl, own strK g964.1 t962, own strK g961.1 t959, own strK g957.1 t955, HHeap.O g953.2.2 p947.2.2.fturns]) (F := F) [0, 1, 5, 2, 3, 4] (by kernel_rfl) rfl rfl))) (fun _ _ => ?_)
          obtain rfl := Gets.out H
          exact WP.retL (fun _ _ h => h) rfl () trivial (.cons (res_tmp rfl) .nil) rfl (st_sel (L := [PTab.O g945 p947.2.2, own strK g964.1 t962, own strK g961.1 t959, own strK g957.1 t955]) (F := F) [0, 1, 2, 3] 4 rfl rfl rfl)
        · replace H := Gets.ct H c965
          obtain ⟨t966, h967, H⟩ := Gets.call H
          refine Dv.call rfl ⟨_, _, rfl, rfl, rfl⟩ cal12 rfl (concourselaw15_lives.c h967) ?_
          refine Dv.pickT rfl trivial rfl rfl ?_
          refine Dv.asg rfl trivial rfl ?_
          refine .fin ?_
          refine WP.gh (l' := fun _ : Unit => [PTab.O g945 p947.2.2, own strK g964.1 t962, own strK g961.1 t959, own strK g957.1 t955] ++ F) (gh_of (PTab.shut (p := g945) (m := p947.2.2) (r := [own strK g964.1 t962, own strK g961.1 t959, own strK g957.1 t955] ++ F) (g953.1, g953.2.1, g953.2.2) h954 (perm_to (L := [blk g953.1 48 [eq g953.2.1.1, eq g953.2.2.1], own Edu.K g953.2.1.1 p947.2.2.fl, own strK g964.1 t962, own strK g961.1 t959, own strK g957.1 t955, HHeap.O g953.2.2 p947.2.2.fturns]) (F := F) [0, 1, 5, 2, 3, 4] (by kernel_rfl) rfl rfl))) (fun _ _ => ?_)
          obtain rfl := Gets.out H
          exact WP.retL (fun _ _ h => h) rfl () trivial (.cons (res_tmp rfl) .nil) rfl (st_sel (L := [PTab.O g945 p947.2.2, own strK g964.1 t962, own strK g961.1 t959, own strK g957.1 t955]) (F := F) [0, 1, 2, 3] 4 rfl rfl rfl)
    · refine WP.seq ?_
      refine WP.reg [(0, false)] (by kernel_rfl) ?_
      refine Dv.asg rfl trivial rfl ?_
      refine .fin ?_
      refine WP.block ?_
      refine WP.gh (l' := fun _ => [PTab.O g945 p947.2.2] ++ F) (gh_of (st_selg (L := [PTab.O g945 p947.2.2]) (F := F) [0] 0 rfl rfl rfl)) (fun _ _ => ?_)
      refine WP.loopg (fun j_ (p984 : Int) => concourselaw15_PresenceFalls.l0 k p947 t948 t950 j_ p984) 0 H (fun p984 => [(0, sl Edu.K a0), (1, eq (.int .i64 a1)), (2, eq (.int .i64 a2)), (6, eq (.bool false)), (7, eq g945.1), (8, eq (.int .i64 p947.1)), (9, eq (.int .i64 t948)), (10, eq (.int .i64 t950)), (11, eq (.int .i64 p984)), (15, eq (.bool false)), (23, eq (.bool p947.2.1))]) (fun p984 => [PTab.O g945 p947.2.2] ++ F) (weak_cons rfl (weak_cons rfl (weak_cons rfl (weak_cons rfl (weak_cons rfl (weak_cons rfl (weak_cons rfl (weak_cons rfl (weak_cons rfl (weak_cons rfl (weak_cons rfl weak_nil))))))))))) (List.Perm.refl _) ?_
      rintro j_ x968 H
      rcases j_ with _ | j983
      · exact (Gets.no H).elim
      replace H : Gets (concourselaw15_PresenceFalls.l0 k p947 t948 t950 (j983 + 1) x968) _ := H
      rw [concourselaw15_PresenceFalls.l0] at H
      refine WP.seq ?_
      refine WP.seq ?_
      refine WP.reg [(0, false), (1, false)] (by kernel_rfl) ?_
      refine Dv.mv rfl trivial rfl ?_
      refine Dv.bin rfl trivial rfl rfl (fun _ => run_lt) ?_
      refine .fin ?_
      refine WP.cond rfl (fun c969 => ?_) (fun c969 => ?_)
      · replace H := Gets.ct H c969
        refine WP.skip ?_
        refine WP.seq ?_
        refine WP.block ?_
        refine WP.seq ?_
        refine WP.reg [(0, false), (1, false), (2, false)] (by kernel_rfl) ?_
        refine Dv.mv rfl trivial rfl ?_
        obtain ⟨t970, h971, H⟩ := Gets.call H
        refine Dv.call rfl trivial cal10 rfl (concourseref01_UserOf.c h971) ?_
        refine Dv.asg rfl trivial rfl ?_
        refine .fin ?_
        refine WP.seq ?_
        refine WP.reg [(0, false), (1, false), (2, false), (3, false), (4, false), (5, false), (6, false), (7, false), (8, false), (9, false), (10, false), (11, false), (12, false), (13, false), (14, false), (15, false), (16, false), (17, false), (18, false)] (by kernel_rfl) ?_
        refine Dv.mv rfl trivial rfl ?_
        refine Dv.mv rfl trivial rfl ?_
        refine Dv.mv rfl trivial rfl ?_
        refine Dv.mv rfl trivial rfl ?_
        refine Dv.mini rfl trivial rfl rfl ?_
        refine Dv.gh (l' := fun (g972 : Nat × OV × OV) => [blk g972.1 48 [eq g972.2.1.1, eq g972.2.2.1], own Edu.K g972.2.1.1 p947.2.2.fl, HHeap.O g972.2.2 p947.2.2.fturns] ++ F) (gh_of (PTab.opn 0 rfl)) (fun g972 h973 => ?_)
        obtain ⟨t974, h975, H⟩ := Gets.call H
        refine Dv.calll (B := [blk g972.1 48 [eq g972.2.1.1, eq g972.2.2.1], own Edu.K g972.2.1.1 p947.2.2.fl]) (F := [HHeap.O g972.2.2 p947.2.2.fturns] ++ F) rfl trivial cal9 rfl (Tr.weak (presence_Table_State.c h975 (b0_ := g972.1) (v0_0 := g972.2.1) (v0_1 := g972.2.2)) (.cons (wk_ptr h973) (.cons wk_id (.cons wk_id .nil)))) (perm_to (L := [blk g972.1 48 [eq g972.2.1.1, eq g972.2.2.1], own Edu.K g972.2.1.1 p947.2.2.fl, HHeap.O g972.2.2 p947.2.2.fturns]) (F := F) [0, 1, 2] rfl rfl rfl) ?_
        refine Dv.mv rfl trivial rfl ?_
        refine Dv.mv rfl trivial rfl ?_
        refine Dv.mv rfl trivial rfl ?_
        refine Dv.mv rfl trivial rfl ?_
        refine Dv.maxi rfl trivial rfl rfl ?_
        obtain ⟨t976, h977, H⟩ := Gets.call H
        refine Dv.calll (B := [blk g972.1 48 [eq g972.2.1.1, eq g972.2.2.1], own Edu.K g972.2.1.1 p947.2.2.fl]) (F := [HHeap.O g972.2.2 p947.2.2.fturns] ++ F) rfl trivial cal9 rfl (Tr.weak (presence_Table_State.c h977 (b0_ := g972.1) (v0_0 := g972.2.1) (v0_1 := g972.2.2)) (.cons (wk_ptr h973) (.cons wk_id (.cons wk_id .nil)))) (perm_to (L := [blk g972.1 48 [eq g972.2.1.1, eq g972.2.2.1], own Edu.K g972.2.1.1 p947.2.2.fl, HHeap.O g972.2.2 p947.2.2.fturns]) (F := F) [0, 1, 2] rfl rfl rfl) ?_
        refine Dv.bin rfl trivial rfl rfl (fun _ => run_lt) ?_
        refine Dv.mv rfl trivial rfl ?_
        cases c978 : decide (t974 < t976)
        · replace H := Gets.cf H c978
          refine Dv.mv rfl ⟨_, _, rfl, rfl, rfl⟩ rfl ?_
          refine Dv.mv rfl ⟨_, _, rfl, rfl, rfl⟩ rfl ?_
          obtain ⟨t980, h981, H⟩ := Gets.call H
          refine Dv.calll (B := [blk g972.1 48 [eq g972.2.1.1, eq g972.2.2.1], own Edu.K g972.2.1.1 p947.2.2.fl]) (F := [HHeap.O g972.2.2 p947.2.2.fturns] ++ F) rfl ⟨_, _, rfl, rfl, rfl⟩ cal9 rfl (Tr.weak (presence_Table_State.c h981 (b0_ := g972.1) (v0_0 := g972.2.1) (v0_1 := g972.2.2)) (.cons (wk_ptr h973) (.cons wk_id (.cons wk_id .nil)))) (perm_to (L := [blk g972.1 48 [eq g972.2.1.1, eq g972.2.2.1], own Edu.K g972.2.1.1 p947.2.2.fl, HHeap.O g972.2.2 p947.2.2.fturns]) (F := F) [0, 1, 2] rfl rfl rfl) ?_
          refine Dv.bin rfl ⟨_, _, rfl, rfl, rfl⟩ rfl rfl (fun _ => run_ne) ?_
          refine Dv.pickF rfl trivial rfl rfl ?_
          refine .fin ?_
          refine WP.cond rfl (fun c982 => ?_) (fun c982 => ?_)
          · replace H := Gets.ct H c982
            refine WP.seq ?_
            refine WP.reg [(0, false)] (by kernel_rfl) ?_
            refine Dv.asg rfl trivial rfl ?_
            refine .fin ?_
            refine WP.gh (l' := fun _ : Unit => [PTab.O g945 p947.2.2] ++ F) (gh_of (PTab.shut (p := g945) (m := p947.2.2) (r := [] ++ F) (g972.1, g972.2.1, g972.2.2) h973 (perm_to (L := [blk g972.1 48 [eq g972.2.1.1, eq g972.2.2.1], own Edu.K g972.2.1.1 p947.2.2.fl, HHeap.O g972.2.2 p947.2.2.fturns]) (F := F) [0, 1, 2] rfl rfl rfl))) (fun _ _ => ?_)
            replace H := Gets.outr H
            obtain rfl := Gets.out H
            exact WP.retL (fun _ _ h => h) rfl () trivial (.cons (res_tmp rfl) .nil) rfl (st_sel (L := [PTab.O g945 p947.2.2]) (F := F) [0] 1 rfl rfl rfl)
          · replace H := Gets.cf H c982
            refine WP.skip ?_
            refine WP.reg [(0, false), (1, false), (2, false)] (by kernel_rfl) ?_
            refine Dv.mv rfl trivial rfl ?_
            refine Dv.bin rfl trivial rfl rfl (fun _ => run_add) ?_
            refine Dv.asg rfl trivial rfl ?_
            refine .fin ?_
            refine Dn.gh (l' := fun _ : Unit => [PTab.O g945 p947.2.2] ++ F) (gh_of (PTab.shut (p := g945) (m := p947.2.2) (r := [] ++ F) (g972.1, g972.2.1, g972.2.2) h973 (perm_to (L := [blk g972.1 48 [eq g972.2.1.1, eq g972.2.2.1], own Edu.K g972.2.1.1 p947.2.2.fl, HHeap.O g972.2.2 p947.2.2.fturns]) (F := F) [0, 1, 2] rfl rfl rfl))) (fun _ _ => ?_)
            exact Back.mk j983 (w64 (x968 + 1)) (Nat.lt_succ_self _) H (weak_cons rfl (weak_cons rfl (weak_cons rfl (weak_cons rfl (weak_cons rfl (weak_cons rfl (weak_cons rfl (weak_cons rfl (weak_cons rfl (weak_cons rfl (weak_cons rfl weak_nil))))))))))) (List.Perm.refl _)
        · replace H := Gets.ct H c978
          refine Dv.skip rfl ⟨_, _, rfl, rfl, .inl rfl⟩ ?_
          refine Dv.skip rfl ⟨_, _, rfl, rfl, .inl rfl⟩ ?_
          refine Dv.skip rfl ⟨_, _, rfl, rfl, .inl rfl⟩ ?_
          refine Dv.skip rfl ⟨_, _, rfl, rfl, .inl rfl⟩ ?_
          refine Dv.pickT rfl trivial rfl rfl ?_
          refine .fin ?_
          refine WP.cond rfl (fun _ => ?_) nofun
          refine WP.seq ?_
          refine WP.reg [(0, false)] (by kernel_rfl) ?_
          refine Dv.asg rfl trivial rfl ?_
          refine .fin ?_
          refine WP.gh (l' := fun _ : Unit => [PTab.O g945 p947.2.2] ++ F) (gh_of (PTab.shut (p := g945) (m := p947.2.2) (r := [] ++ F) (g972.1, g972.2.1, g972.2.2) h973 (perm_to (L := [blk g972.1 48 [eq g972.2.1.1, eq g972.2.2.1], own Edu.K g972.2.1.1 p947.2.2.fl, HHeap.O g972.2.2 p947.2.2.fturns]) (F := F) [0, 1, 2] rfl rfl rfl))) (fun _ _ => ?_)
          replace H := Gets.outr H
          obtain rfl := Gets.out H
          exact WP.retL (fun _ _ h => h) rfl () trivial (.cons (res_tmp rfl) .nil) rfl (st_sel (L := [PTab.O g945 p947.2.2]) (F := F) [0] 1 rfl rfl rfl)
      · replace H := Gets.cf H c969
        refine WP.exit ?_
        replace H := Gets.out H
        exact Jn.mk (x968, decide (x968 < 9)) H (weak_cons rfl (weak_cons rfl (weak_cons rfl (weak_cons rfl (weak_cons rfl (weak_cons rfl (weak_cons rfl (weak_cons rfl (weak_cons rfl (weak_cons rfl (weak_cons rfl (weak_cons rfl weak_nil)))))))))))) (List.Perm.refl _)
  · refine WP.seq ?_
    refine WP.reg [(0, false)] (by kernel_rfl) ?_
    refine Dv.asg rfl trivial rfl ?_
    refine .fin ?_
    refine WP.block ?_
    refine WP.gh (l' := fun _ => [PTab.O g945 t943] ++ F) (gh_of (st_selg (L := [PTab.O g945 t943]) (F := F) [0] 0 rfl rfl rfl)) (fun _ _ => ?_)
    refine WP.loopg (fun j_ (p996 : Int × PTab) => concourselaw15_PresenceFalls.l1 k a0 j_ p996.1 p996.2) (0, t943) H (fun p996 => [(0, sl Edu.K a0), (1, eq (.int .i64 a1)), (2, eq (.int .i64 a2)), (6, eq (.bool false)), (7, eq g945.1), (8, eq (.int .i64 p996.1)), (15, eq (.bool false))]) (fun p996 => [PTab.O g945 p996.2] ++ F) (weak_cons rfl (weak_cons rfl (weak_cons rfl (weak_cons rfl (weak_cons rfl (weak_cons rfl (weak_cons rfl weak_nil))))))) (List.Perm.refl _) ?_
    rintro j_ ⟨x985, x986⟩ H
    rcases j_ with _ | j995
    · exact (Gets.no H).elim
    replace H : Gets (concourselaw15_PresenceFalls.l1 k a0 (j995 + 1) x985 x986) _ := H
    rw [concourselaw15_PresenceFalls.l1] at H
    refine WP.seq ?_
    refine WP.seq ?_
    refine WP.reg [(0, false), (1, false), (2, false), (3, false), (4, false), (5, false), (6, false), (7, false)] (by kernel_rfl) ?_
    refine Dv.mv rfl trivial rfl ?_
    refine Dv.mv rfl trivial rfl ?_
    refine Dv.lenl rfl trivial rfl Try.underlying22 ?_
    refine Dv.bin rfl trivial rfl rfl (fun _ => run_lt) ?_
    refine Dv.mv rfl trivial rfl ?_
    cases c987 : decide (x985 < (a0.length : Int))
    · replace H := Gets.cf H c987
      refine Dv.skip rfl ⟨_, _, rfl, rfl, .inl rfl⟩ ?_
      refine Dv.skip rfl ⟨_, _, rfl, rfl, .inl rfl⟩ ?_
      refine Dv.pickF rfl trivial rfl rfl ?_
      refine .fin ?_
      refine WP.cond rfl nofun (fun _ => ?_)
      refine WP.exit ?_
      replace H := Gets.out H
      exact Jn.mk (x985, false, x986) H (weak_cons rfl (weak_cons rfl (weak_cons rfl (weak_cons rfl (weak_cons rfl (weak_cons rfl (weak_cons rfl (weak_cons rfl weak_nil)))))))) (List.Perm.refl _)
    · replace H := Gets.ct H c987
      refine Dv.mv rfl ⟨_, _, rfl, rfl, rfl⟩ rfl ?_
      refine Dv.bin rfl ⟨_, _, rfl, rfl, rfl⟩ rfl rfl (fun _ => run_lt) ?_
      refine Dv.pickT rfl trivial rfl rfl ?_
      refine .fin ?_
      refine WP.cond rfl (fun c988 => ?_) (fun c988 => ?_)
      · replace H := Gets.ct H c988
        refine WP.skip ?_
        refine WP.seq ?_
        refine WP.block ?_
        refine WP.reg [(0, false), (1, false), (2, false), (3, false), (4, false), (5, false), (6, true)] (by kernel_rfl) ?_
        refine Dv.mv rfl trivial rfl ?_
        refine Dv.mv rfl trivial rfl ?_
        refine Dv.mv rfl trivial rfl ?_
        obtain ⟨g989, H⟩ := Gets.grd H
        refine Dv.ixr rfl trivial rfl rfl Try.underlying22 Try.underlying24 c24 g989.1 g989.2 ?_
        refine Dv.ldrs rfl trivial rfl Try.underlying24 rfl c24 (Nat.le_of_ble_eq_true rfl) ?_
        obtain ⟨t990, h991, H⟩ := Gets.call H
        refine Dv.call rfl trivial cal7 rfl (concourseref15_Made.c h991) ?_
        obtain ⟨t992, h993, H⟩ := Gets.call H
        refine Dv.callx (pre := [PTab.O g945 x986]) (F := [] ++ F) (fun _ : Unit => [PTab.O g945 t992.2.2] ++ F) rfl trivial cal8 rfl (presence_Table_Put.c h993 (p0_ := g945)) (perm_to (L := [PTab.O g945 x986]) (F := F) [0] rfl rfl rfl) rfl nofun (fun _ _ => ?_)
        refine .fin ?_
        refine WP.reg [(0, false), (1, false), (2, false)] (by kernel_rfl) ?_
        refine Dv.mv rfl trivial rfl ?_
        refine Dv.bin rfl trivial rfl rfl (fun _ => run_add) ?_
        refine Dv.asg rfl trivial rfl ?_
        refine .fin ?_
        exact Back.mk j995 (w64 (x985 + 1), t992.2.2) (Nat.lt_succ_self _) H (weak_cons rfl (weak_cons rfl (weak_cons rfl (weak_cons rfl (weak_cons rfl (weak_cons rfl (weak_cons rfl weak_nil))))))) (List.Perm.refl _)
      · replace H := Gets.cf H c988
        refine WP.exit ?_
        replace H := Gets.out H
        exact Jn.mk (x985, decide (x985 < 10), x986) H (weak_cons rfl (weak_cons rfl (weak_cons rfl (weak_cons rfl (weak_cons rfl (weak_cons rfl (weak_cons rfl (weak_cons rfl weak_nil)))))))) (List.Perm.refl _)
end Go.Proofs.Ytegmafgodoikiaa
