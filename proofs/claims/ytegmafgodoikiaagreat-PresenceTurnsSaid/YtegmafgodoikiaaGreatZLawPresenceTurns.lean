/- The walks. -/
import Derived.Test.YtegmafgodoikiaaGreatZWalks3
import Derived.Test.YtegmafgodoikiaaGreatConQ
import Derived.Eval
set_option linter.all false
set_option maxRecDepth 10000
set_option maxHeartbeats 20000000
namespace Go.Proofs.YtegmafgodoikiaaGreat
open Go Go.Sp
theorem concourselaw15_PresenceTurns.c {k : Nat} {a0 : List Edu} {a1 : List Int} {r : Bool} (h : concourselaw15_PresenceTurns.f k a0 a1 = some r) : Pt Tryz.prog 5 [sl Edu.K a0, sl (intK .i64) a1] (eq (.bool r)) := by
  unfold concourselaw15_PresenceTurns.f at h
  refine (Tr.body Tryz.func5 (c := _) rfl Tryz.ntmps5 (Nat.le_of_ble_eq_true rfl) fun R0 F => ?_).pt
  replace h := Gets.of h
  have H := h
  clear h
  refine WP.seq ?_
  refine WP.reg [(0, false)] (by kernel_rfl) ?_
  refine as0 rfl rfl ?_
  refine .fin ?_
  refine WP.seq ?_
  refine WP.reg [(0, true), (1, false)] (by kernel_rfl) ?_
  obtain ⟨t604, h605, H⟩ := Gets.call H
  refine Dv.callx (pre := []) (F := [] ++ F) (fun g606 : OV => [PTab.O g606 t604] ++ F) rfl trivial cal7 rfl (presence_New.c h605) (perm_ton 0 [] rfl rfl rfl) rfl nofun (fun g606 _ => ?_)
  refine as0 rfl rfl ?_
  refine .fin ?_
  refine WP.seq ?_
  refine WP.seq ?_
  refine WP.reg [(0, false), (1, false)] (by kernel_rfl) ?_
  refine mv0 rfl rfl ?_
  refine Dv.peq0 PTab.nn rfl trivial rfl rfl Tryz.underlying23 (mem_at 0 rfl) ?_
  refine .fin ?_
  refine WP.cond rfl nofun (fun _ => ?_)
  refine WP.skip ?_
  refine WP.seqn H id (fun p608 : Int × Bool × PTab => [(0, sl Edu.K a0), (1, sl (intK .i64) a1), (4, eq (.bool false)), (5, eq g606.1), (6, eq (.int .i64 p608.1)), (17, eq (.bool false)), (25, eq (.bool p608.2.1))]) (fun p608 : Int × Bool × PTab => [PTab.O g606 p608.2.2] ++ F) (fun p608 H => ?_) (fun H => ?_)
  · refine WP.seq ?_
    refine WP.reg [(0, false)] (by kernel_rfl) ?_
    refine as0 rfl rfl ?_
    refine .fin ?_
    refine WP.seq ?_
    refine WP.reg [(0, false), (1, false), (2, true)] (by kernel_rfl) ?_
    refine mv0 rfl rfl ?_
    refine mv0 rfl rfl ?_
    obtain ⟨t609, h610, H⟩ := Gets.call H
    refine Dv.callx (pre := [PTab.O g606 p608.2.2]) (F := [] ++ F) (fun g611 : OV => [PTab.O g606 t609.2, own strK g611.1 t609.1] ++ F) rfl trivial cal22 rfl (presence_Table_Turned.c h610 (p0_ := g606)) (perm_ton 1 [0] rfl rfl rfl) rfl nofun (fun g611 _ => ?_)
    refine .fin ?_
    refine WP.seqr H id (fun p612 : Int × Int × Bool × PTab => [(0, sl Edu.K a0), (1, sl (intK .i64) a1), (4, eq (.bool false)), (5, eq g606.1), (6, eq (.int .i64 p608.1)), (7, eq (.int .i64 p612.1)), (8, eq (.int .i64 p612.2.1)), (17, eq (.bool false)), (25, eq (.bool p608.2.1)), (45, eq (.bool p612.2.2.1))]) (fun p612 : Int × Int × Bool × PTab => [PTab.O g606 p612.2.2.2, own strK g611.1 t609.1] ++ F) (fun p612 H => ?_) (fun H => ?_)
    · refine WP.seq ?_
      refine WP.reg [(0, false), (1, false)] (by kernel_rfl) ?_
      obtain ⟨t613, h614, H⟩ := Gets.call H
      refine Dv.call rfl trivial cal19 rfl (concourselaw15_lives.c h614) ?_
      refine as0 rfl rfl ?_
      refine .fin ?_
      obtain rfl := Gets.out H
      exact WP.retL (fun _ _ h => h) rfl () trivial (.cons (res_tmp rfl) .nil) rfl (st_seln 2 [0, 1] 2 rfl rfl rfl)
    · refine WP.seq ?_
      refine WP.reg [(0, false)] (by kernel_rfl) ?_
      refine as0 rfl rfl ?_
      refine .fin ?_
      refine WP.block ?_
      refine WP.gh (l' := fun _ => [PTab.O g606 t609.2, own strK g611.1 t609.1] ++ F) (gh_of (st_selgn 2 [0, 1] 0 rfl rfl rfl)) (fun _ _ => ?_)
      refine WP.loopg (fun j_ (p659 : Int × Int × PTab) => concourselaw15_PresenceTurns.l0 k a1 j_ p659.1 p659.2.1 p659.2.2) (0, 0, t609.2) H (fun p659 => [(0, sl Edu.K a0), (1, sl (intK .i64) a1), (4, eq (.bool false)), (5, eq g606.1), (6, eq (.int .i64 p608.1)), (7, eq (.int .i64 p659.1)), (8, eq (.int .i64 p659.2.1)), (17, eq (.bool false)), (25, eq (.bool p608.2.1))]) (fun p659 => [PTab.O g606 p659.2.2, own strK g611.1 t609.1] ++ F) (weak_cons rfl (weak_cons rfl (weak_cons rfl (weak_cons rfl (weak_cons rfl (weak_cons rfl (weak_cons rfl (weak_cons rfl (weak_cons rfl weak_nil))))))))) (List.Perm.refl _) ?_
      rintro j_ ⟨x615, x616, x617⟩ H
      rcases j_ with _ | j658
      · exact (Gets.no H).elim
      replace H : Gets (concourselaw15_PresenceTurns.l0 k a1 (j658 + 1) x615 x616 x617) _ := H
      rw [concourselaw15_PresenceTurns.l0] at H
      refine WP.seq ?_
      refine WP.seq ?_
      refine WP.reg [(0, false), (1, false), (2, false), (3, false), (4, false), (5, false), (6, false), (7, false)] (by kernel_rfl) ?_
      refine mv0 rfl rfl ?_
      refine mv0 rfl rfl ?_
      refine Dv.lenl rfl trivial rfl Tryz.underlying25 ?_
      refine Dv.bin rfl trivial rfl rfl (fun _ => run_lt) ?_
      refine mv0 rfl rfl ?_
      cases c618 : decide (x616 < (a1.length : Int))
      · replace H := Gets.cf H c618
        refine sk rfl rfl rfl rfl rfl ?_
        refine sk rfl rfl rfl rfl rfl ?_
        refine Dv.pickF rfl trivial rfl rfl ?_
        refine .fin ?_
        refine WP.cond rfl nofun (fun _ => ?_)
        refine WP.exit ?_
        replace H := Gets.out H
        exact Jn.mk (x615, x616, false, x617) H (weak_cons rfl (weak_cons rfl (weak_cons rfl (weak_cons rfl (weak_cons rfl (weak_cons rfl (weak_cons rfl (weak_cons rfl (weak_cons rfl (weak_cons rfl weak_nil)))))))))) (List.Perm.refl _)
      · replace H := Gets.ct H c618
        refine Dv.mv rfl ⟨_, _, rfl, rfl, rfl⟩ rfl ?_
        refine Dv.bin rfl ⟨_, _, rfl, rfl, rfl⟩ rfl rfl (fun _ => run_lt) ?_
        refine Dv.pickT rfl trivial rfl rfl ?_
        refine .fin ?_
        refine WP.cond rfl (fun c619 => ?_) (fun c619 => ?_)
        · replace H := Gets.ct H c619
          refine WP.skip ?_
          refine WP.seqr H (fun q656 : (Int × Int × Int × Int × Bool × Bool × Bool × Bool × PTab × (List ByteArray)) × OV => q656.1) (fun q656 : (Int × Int × Int × Int × Bool × Bool × Bool × Bool × PTab × (List ByteArray)) × OV => [(0, sl Edu.K a0), (1, sl (intK .i64) a1), (4, eq (.bool false)), (5, eq g606.1), (6, eq (.int .i64 p608.1)), (7, eq (.int .i64 q656.1.1)), (8, eq (.int .i64 x616)), (9, eq (.int .i64 q656.1.2.1)), (10, eq q656.2.1), (11, eq (.int .i64 q656.1.2.2.1)), (13, eq (.int .i64 q656.1.2.2.2.1)), (14, eq (.bool q656.1.2.2.2.2.1)), (17, eq (.bool false)), (25, eq (.bool p608.2.1)), (45, eq (.bool (decide (x616 < 6)))), (56, eq (.bool q656.1.2.2.2.2.2.1)), (84, eq (.bool q656.1.2.2.2.2.2.2.1)), (96, eq (.bool q656.1.2.2.2.2.2.2.2.1))]) (fun q656 : (Int × Int × Int × Int × Bool × Bool × Bool × Bool × PTab × (List ByteArray)) × OV => [PTab.O g606 q656.1.2.2.2.2.2.2.2.2.1, own strK g611.1 t609.1, own strK q656.2.1 q656.1.2.2.2.2.2.2.2.2.2] ++ F) (fun q656 H => ?_) (fun H => ?_)
          · obtain ⟨p620, v621⟩ := q656
            refine WP.reg [(0, false), (1, false), (2, false)] (by kernel_rfl) ?_
            refine mv0 rfl rfl ?_
            refine Dv.bin rfl trivial rfl rfl (fun _ => run_add) ?_
            refine as0 rfl rfl ?_
            refine .fin ?_
            refine Dn.gh (l' := fun _ : Unit => [PTab.O g606 p620.2.2.2.2.2.2.2.2.1, own strK g611.1 t609.1] ++ F) (gh_of (st_selgn 3 [2, 0, 1] 1 rfl rfl rfl)) (fun _ _ => ?_)
            exact Back.mk j658 (p620.1, w64 (x616 + 1), p620.2.2.2.2.2.2.2.2.1) (Nat.lt_succ_self _) H (weak_cons rfl (weak_cons rfl (weak_cons rfl (weak_cons rfl (weak_cons rfl (weak_cons rfl (weak_cons rfl (weak_cons rfl (weak_cons rfl weak_nil))))))))) (List.Perm.refl _)
          · refine WP.block ?_
            refine WP.seq ?_
            refine WP.reg [(0, false), (1, false), (2, false), (3, false), (4, false), (5, false), (6, false), (7, false)] (by kernel_rfl) ?_
            refine mv0 rfl rfl ?_
            refine mv0 rfl rfl ?_
            refine mv0 rfl rfl ?_
            obtain ⟨g622, H⟩ := Gets.grd H
            refine Dv.ixr rfl trivial rfl rfl Tryz.underlying25 Tryz.underlying3 c3 g622.1 g622.2 ?_
            refine Dv.ldr rfl trivial rfl Tryz.underlying3 rfl rfl ?_
            obtain ⟨t623, h624, H⟩ := Gets.call H
            refine Dv.call rfl trivial cal12 rfl (concourseref01_Around.c h624) ?_
            refine Dv.maxi rfl trivial rfl rfl ?_
            refine as0 rfl rfl ?_
            refine .fin ?_
            refine WP.seq ?_
            refine WP.reg [(0, false)] (by kernel_rfl) ?_
            refine as0 rfl rfl ?_
            refine .fin ?_
            refine WP.seqn H (fun q655 : (Int × Bool × (List ByteArray)) × OV => q655.1) (fun q655 : (Int × Bool × (List ByteArray)) × OV => [(0, sl Edu.K a0), (1, sl (intK .i64) a1), (4, eq (.bool false)), (5, eq g606.1), (6, eq (.int .i64 p608.1)), (7, eq (.int .i64 x615)), (8, eq (.int .i64 x616)), (9, eq (.int .i64 (max x615 t623))), (10, eq q655.2.1), (11, eq (.int .i64 q655.1.1)), (17, eq (.bool false)), (25, eq (.bool p608.2.1)), (45, eq (.bool (decide (x616 < 6)))), (56, eq (.bool q655.1.2.1))]) (fun q655 : (Int × Bool × (List ByteArray)) × OV => [PTab.O g606 x617, own strK g611.1 t609.1, own strK q655.2.1 q655.1.2.2] ++ F) (fun q655 H => ?_) (fun H => ?_)
            · obtain ⟨p625, v626⟩ := q655
              refine WP.seq ?_
              refine WP.seq ?_
              refine WP.reg [(0, false), (1, false), (2, true), (3, false), (4, false), (5, false)] (by kernel_rfl) ?_
              refine mv0 rfl rfl ?_
              refine mv0 rfl rfl ?_
              obtain ⟨t627, h628, H⟩ := Gets.call H
              refine Dv.callx (pre := [PTab.O g606 x617]) (F := [own strK g611.1 t609.1, own strK v626.1 p625.2.2] ++ F) (fun g629 : OV => [PTab.O g606 t627.2, own strK g629.1 t627.1, own strK g611.1 t609.1, own strK v626.1 p625.2.2] ++ F) rfl trivial cal22 rfl (presence_Table_Turned.c h628 (p0_ := g606)) (perm_ton 3 [0, 1, 2] rfl rfl rfl) rfl nofun (fun g629 _ => ?_)
              refine mv0 rfl rfl ?_
              obtain ⟨t630, h631, H⟩ := Gets.call H
              refine Dv.calll (B := [own strK g629.1 t627.1, own strK v626.1 p625.2.2]) (F := [PTab.O g606 t627.2, own strK g611.1 t609.1] ++ F) rfl trivial cal13 rfl (Pt.lend _ (concourseref01_SameTexts.c h631) (.cons (lt_own (mem_at 0 rfl)) (.cons (lt_own (mem_at 1 rfl)) .nil)) flat_eq) (perm_ton 4 [1, 3, 0, 2] rfl rfl rfl) ?_
              refine Dv.un rfl trivial rfl (fun _ => run_not _) ?_
              refine .fin ?_
              refine WP.cond rfl (fun c632 => ?_) (fun c632 => ?_)
              · replace H := Gets.ct H c632
                refine WP.seq ?_
                refine WP.reg [(0, false)] (by kernel_rfl) ?_
                refine as0 rfl rfl ?_
                refine .fin ?_
                replace H := Gets.outr H
                replace H := Gets.outr H
                obtain rfl := Gets.out H
                exact WP.retL (fun _ _ h => h) rfl () trivial (.cons (res_tmp rfl) .nil) rfl (st_seln 4 [0, 1, 2, 3] 4 rfl rfl rfl)
              · replace H := Gets.cf H c632
                refine WP.skip ?_
                refine WP.seq ?_
                refine WP.reg [(0, false), (1, false)] (by kernel_rfl) ?_
                refine mv0 rfl rfl ?_
                refine as0 rfl rfl ?_
                refine .fin ?_
                refine WP.seq ?_
                refine WP.reg [(0, false), (1, true), (2, false), (3, false), (4, false), (5, false), (6, false)] (by kernel_rfl) ?_
                refine mv0 rfl rfl ?_
                obtain ⟨t633, h634, H⟩ := Gets.call H
                refine Dv.callx (pre := [PTab.O g606 t627.2]) (F := [own strK g629.1 t627.1, own strK g611.1 t609.1, own strK v626.1 p625.2.2] ++ F) (fun _ : Unit => [PTab.O g606 t627.2, own strK g629.1 t627.1, own strK g611.1 t609.1, own strK v626.1 p625.2.2] ++ F) rfl trivial cal23 rfl (presence_Table_Next.c h634 (p0_ := g606)) (perm_ton 4 [0, 1, 2, 3] rfl rfl rfl) rfl nofun (fun _ _ => ?_)
                refine mv0 rfl rfl ?_
                refine Dv.ext rfl trivial rfl rfl ?_
                refine Dv.ext rfl trivial rfl rfl ?_
                refine as0 rfl rfl ?_
                refine as0 rfl rfl ?_
                refine .fin ?_
                refine WP.seq ?_
                refine WP.reg [(0, false), (1, false), (2, false), (3, false), (4, false), (5, false)] (by kernel_rfl) ?_
                refine mv0 rfl rfl ?_
                refine mv0 rfl rfl ?_
                cases c635 : t633.2
                · replace H := Gets.cf H c635
                  refine sk rfl rfl rfl rfl rfl ?_
                  refine sk rfl rfl rfl rfl rfl ?_
                  refine sk rfl rfl rfl rfl rfl ?_
                  refine Dv.pickF rfl trivial rfl rfl ?_
                  refine .fin ?_
                  refine WP.cond rfl nofun (fun _ => ?_)
                  refine WP.skip ?_
                  replace H := Gets.out H
                  refine Dn.gh (l' := fun _ : Unit => [PTab.O g606 t627.2, own strK g611.1 t609.1, own strK v626.1 p625.2.2] ++ F) (gh_of (st_selgn 4 [1, 0, 2, 3] 1 rfl rfl rfl)) (fun _ _ => ?_)
                  exact Jn.mk ((max x615 t623, max x615 t623, p625.1, t633.1, false, p625.2.1, !t630, false, t627.2, p625.2.2), v626) H (weak_cons rfl (weak_cons rfl (weak_cons rfl (weak_cons rfl (weak_cons rfl (weak_cons rfl (weak_cons rfl (weak_cons rfl (weak_cons rfl (weak_cons rfl (weak_cons rfl (weak_cons rfl (weak_cons rfl (weak_cons rfl (weak_cons rfl (weak_cons rfl (weak_cons rfl (weak_cons rfl weak_nil)))))))))))))))))) (List.Perm.refl _)
                · replace H := Gets.ct H c635
                  refine Dv.mv rfl ⟨_, _, rfl, rfl, rfl⟩ rfl ?_
                  refine Dv.mv rfl ⟨_, _, rfl, rfl, rfl⟩ rfl ?_
                  refine Dv.bin rfl ⟨_, _, rfl, rfl, rfl⟩ rfl rfl (fun _ => run_le) ?_
                  refine Dv.pickT rfl trivial rfl rfl ?_
                  refine .fin ?_
                  refine WP.cond rfl (fun c636 => ?_) (fun c636 => ?_)
                  · replace H := Gets.ct H c636
                    refine WP.seq ?_
                    refine WP.reg [(0, false)] (by kernel_rfl) ?_
                    refine as0 rfl rfl ?_
                    refine .fin ?_
                    replace H := Gets.outr H
                    replace H := Gets.outr H
                    obtain rfl := Gets.out H
                    exact WP.retL (fun _ _ h => h) rfl () trivial (.cons (res_tmp rfl) .nil) rfl (st_seln 4 [0, 1, 2, 3] 4 rfl rfl rfl)
                  · replace H := Gets.cf H c636
                    refine WP.skip ?_
                    replace H := Gets.out H
                    refine Dn.gh (l' := fun _ : Unit => [PTab.O g606 t627.2, own strK g611.1 t609.1, own strK v626.1 p625.2.2] ++ F) (gh_of (st_selgn 4 [1, 0, 2, 3] 1 rfl rfl rfl)) (fun _ _ => ?_)
                    exact Jn.mk ((max x615 t623, max x615 t623, p625.1, t633.1, true, p625.2.1, !t630, decide (t633.1 ≤ (max x615 t623)), t627.2, p625.2.2), v626) H (weak_cons rfl (weak_cons rfl (weak_cons rfl (weak_cons rfl (weak_cons rfl (weak_cons rfl (weak_cons rfl (weak_cons rfl (weak_cons rfl (weak_cons rfl (weak_cons rfl (weak_cons rfl (weak_cons rfl (weak_cons rfl (weak_cons rfl (weak_cons rfl (weak_cons rfl (weak_cons rfl weak_nil)))))))))))))))))) (List.Perm.refl _)
            · refine WP.seq ?_
              refine WP.reg [(0, false)] (by kernel_rfl) ?_
              refine as0 rfl rfl ?_
              refine .fin ?_
              refine WP.block ?_
              refine WP.gh (gh_of (st_nil strK none)) (fun _ _ => ?_)
              refine WP.gh (l' := fun _ => [PTab.O g606 x617, own strK g611.1 t609.1, own strK nilV.1 ([] : List ByteArray)] ++ F) (gh_of (st_selgn 3 [1, 2, 0] 0 rfl rfl rfl)) (fun _ _ => ?_)
              refine WP.loopg (fun j_ (p654 : Int × (List ByteArray) × OV) => concourselaw15_PresenceTurns.l1 k x615 x617 t623 j_ p654.1 p654.2.1) (0, ([] : List ByteArray), nilV) H (fun p654 => [(0, sl Edu.K a0), (1, sl (intK .i64) a1), (4, eq (.bool false)), (5, eq g606.1), (6, eq (.int .i64 p608.1)), (7, eq (.int .i64 x615)), (8, eq (.int .i64 x616)), (9, eq (.int .i64 (max x615 t623))), (10, eq p654.2.2.1), (11, eq (.int .i64 p654.1)), (17, eq (.bool false)), (25, eq (.bool p608.2.1)), (45, eq (.bool (decide (x616 < 6))))]) (fun p654 => [PTab.O g606 x617, own strK g611.1 t609.1, own strK p654.2.2.1 p654.2.1] ++ F) (weak_cons rfl (weak_cons rfl (weak_cons rfl (weak_cons rfl (weak_cons rfl (weak_cons rfl (weak_cons rfl (weak_cons rfl (weak_cons rfl (weak_cons rfl (weak_cons rfl (weak_cons rfl (weak_cons rfl weak_nil))))))))))))) (List.Perm.refl _) ?_
              rintro j_ ⟨x638, x639, v640⟩ H
              rcases j_ with _ | j653
              · exact (Gets.no H).elim
              replace H : Gets (concourselaw15_PresenceTurns.l1 k x615 x617 t623 (j653 + 1) x638 x639) _ := H
              rw [concourselaw15_PresenceTurns.l1] at H
              refine WP.seq ?_
              refine WP.seq ?_
              refine WP.reg [(0, false), (1, false)] (by kernel_rfl) ?_
              refine mv0 rfl rfl ?_
              refine Dv.bin rfl trivial rfl rfl (fun _ => run_lt) ?_
              refine .fin ?_
              refine WP.cond rfl (fun c641 => ?_) (fun c641 => ?_)
              · replace H := Gets.ct H c641
                refine WP.skip ?_
                refine WP.seq ?_
                refine WP.block ?_
                refine WP.seq ?_
                refine WP.reg [(0, false), (1, false), (2, false), (3, false), (4, false), (5, false), (6, false), (7, false)] (by kernel_rfl) ?_
                refine mv0 rfl rfl ?_
                refine Dv.bin rfl trivial rfl rfl (fun _ => run_quo (by decide)) ?_
                refine Dv.bin rfl trivial rfl rfl (fun _ => run_mul) ?_
                refine mv0 rfl rfl ?_
                refine Dv.bin rfl trivial rfl rfl (fun _ => run_rem (by decide)) ?_
                refine Dv.bin rfl trivial rfl rfl (fun _ => run_add) ?_
                obtain ⟨t642, h643, H⟩ := Gets.call H
                refine Dv.call rfl trivial cal18 rfl (concourseref01_UserOf.c h643) ?_
                refine as0 rfl rfl ?_
                refine .fin ?_
                refine WP.seq ?_
                refine WP.reg [(0, false), (1, false), (2, false), (3, false), (4, false), (5, false), (6, false), (7, false), (8, false)] (by kernel_rfl) ?_
                refine mv0 rfl rfl ?_
                refine mv0 rfl rfl ?_
                refine mv0 rfl rfl ?_
                refine Dv.gh (l' := fun (g644 : Nat × OV × OV) => [blk g644.1 61 [eq g644.2.1.1, eq g644.2.2.1], own Edu.K g644.2.1.1 x617.fl, HHeap.O g644.2.2 x617.fturns, own strK g611.1 t609.1, own strK v640.1 x639] ++ F) (gh_of (PTab.opn 0 rfl)) (fun g644 h645 => ?_)
                obtain ⟨t646, h647, H⟩ := Gets.call H
                refine Dv.calll (B := [blk g644.1 61 [eq g644.2.1.1, eq g644.2.2.1], own Edu.K g644.2.1.1 x617.fl]) (F := [HHeap.O g644.2.2 x617.fturns, own strK g611.1 t609.1, own strK v640.1 x639] ++ F) rfl trivial cal16 rfl (Tr.weak (presence_Table_State.c h647 (b0_ := g644.1) (v0_0 := g644.2.1) (v0_1 := g644.2.2)) (.cons (wk_ptr h645) (.cons wk_id (.cons wk_id .nil)))) (perm_ton 5 [0, 1, 2, 3, 4] (by kernel_rfl) rfl rfl) ?_
                refine mv0 rfl rfl ?_
                refine mv0 rfl rfl ?_
                refine mv0 rfl rfl ?_
                obtain ⟨t648, h649, H⟩ := Gets.call H
                refine Dv.calll (B := [blk g644.1 61 [eq g644.2.1.1, eq g644.2.2.1], own Edu.K g644.2.1.1 x617.fl]) (F := [HHeap.O g644.2.2 x617.fturns, own strK g611.1 t609.1, own strK v640.1 x639] ++ F) rfl trivial cal16 rfl (Tr.weak (presence_Table_State.c h649 (b0_ := g644.1) (v0_0 := g644.2.1) (v0_1 := g644.2.2)) (.cons (wk_ptr h645) (.cons wk_id (.cons wk_id .nil)))) (perm_ton 5 [0, 1, 2, 3, 4] (by kernel_rfl) rfl rfl) ?_
                refine Dv.bin rfl trivial rfl rfl (fun _ => run_ne) ?_
                refine .fin ?_
                refine WP.cond rfl (fun c650 => ?_) (fun c650 => ?_)
                · replace H := Gets.ct H c650
                  refine WP.reg [(0, false), (1, false), (2, false), (3, true), (4, false)] (by kernel_rfl) ?_
                  refine mv0 rfl rfl ?_
                  refine mv0 rfl rfl ?_
                  refine Dv.lit strK ([t642] : List ByteArray) (css := [[eq (.string t642)]]) rfl trivial Tryz.underlying39 Tryz.underlying9 c9 z9 rfl (by decide) (by decide) rfl ⟨(cells_one (one_eq rfl)), trivial⟩ rfl rfl rfl ?_
                  obtain ⟨g651, H⟩ := Gets.grd H
                  refine Dv.appx (jj := 4) (ys := ([t642] : List ByteArray)) (fun v652 : OV => [blk g644.1 61 [eq g644.2.1.1, eq g644.2.2.1], own Edu.K g644.2.1.1 x617.fl, HHeap.O g644.2.2 x617.fturns, own strK g611.1 t609.1, own strK v652.1 (x639 ++ ([t642] : List ByteArray))] ++ F) rfl trivial rfl rfl rfl src_sl Tryz.underlying39 (.inr ⟨_, Tryz.underlying39⟩) inf9 rfl (by decide) g651 rfl nofun (fun v652 => ?_)
                  refine as0 rfl rfl ?_
                  refine .fin ?_
                  refine WP.reg [(0, false), (1, false), (2, false)] (by kernel_rfl) ?_
                  refine mv0 rfl rfl ?_
                  refine Dv.bin rfl trivial rfl rfl (fun _ => run_add) ?_
                  refine as0 rfl rfl ?_
                  refine .fin ?_
                  refine Dn.gh (l' := fun _ : Unit => [PTab.O g606 x617, own strK g611.1 t609.1, own strK v652.1 (x639 ++ ([t642] : List ByteArray))] ++ F) (gh_of (PTab.shut (p := g606) (m := x617) (r := [own strK g611.1 t609.1, own strK v652.1 (x639 ++ ([t642] : List ByteArray))] ++ F) (g644.1, g644.2.1, g644.2.2) h645 (perm_ton 5 [0, 1, 2, 3, 4] (by kernel_rfl) rfl rfl))) (fun _ _ => ?_)
                  exact Back.mk j653 (w64 (x638 + 1), x639 ++ ([t642] : List ByteArray), v652) (Nat.lt_succ_self _) H (weak_cons rfl (weak_cons rfl (weak_cons rfl (weak_cons rfl (weak_cons rfl (weak_cons rfl (weak_cons rfl (weak_cons rfl (weak_cons rfl (weak_cons rfl (weak_cons rfl (weak_cons rfl (weak_cons rfl weak_nil))))))))))))) (List.Perm.refl _)
                · replace H := Gets.cf H c650
                  refine WP.skip ?_
                  refine WP.reg [(0, false), (1, false), (2, false)] (by kernel_rfl) ?_
                  refine mv0 rfl rfl ?_
                  refine Dv.bin rfl trivial rfl rfl (fun _ => run_add) ?_
                  refine as0 rfl rfl ?_
                  refine .fin ?_
                  refine Dn.gh (l' := fun _ : Unit => [PTab.O g606 x617, own strK g611.1 t609.1, own strK v640.1 x639] ++ F) (gh_of (PTab.shut (p := g606) (m := x617) (r := [own strK g611.1 t609.1, own strK v640.1 x639] ++ F) (g644.1, g644.2.1, g644.2.2) h645 (perm_ton 5 [0, 1, 2, 3, 4] (by kernel_rfl) rfl rfl))) (fun _ _ => ?_)
                  exact Back.mk j653 (w64 (x638 + 1), x639, v640) (Nat.lt_succ_self _) H (weak_cons rfl (weak_cons rfl (weak_cons rfl (weak_cons rfl (weak_cons rfl (weak_cons rfl (weak_cons rfl (weak_cons rfl (weak_cons rfl (weak_cons rfl (weak_cons rfl (weak_cons rfl (weak_cons rfl weak_nil))))))))))))) (List.Perm.refl _)
              · replace H := Gets.cf H c641
                refine WP.exit ?_
                replace H := Gets.out H
                exact Jn.mk ((x638, decide (x638 < 9), x639), v640) H (weak_cons rfl (weak_cons rfl (weak_cons rfl (weak_cons rfl (weak_cons rfl (weak_cons rfl (weak_cons rfl (weak_cons rfl (weak_cons rfl (weak_cons rfl (weak_cons rfl (weak_cons rfl (weak_cons rfl (weak_cons rfl weak_nil)))))))))))))) (List.Perm.refl _)
        · replace H := Gets.cf H c619
          refine WP.exit ?_
          replace H := Gets.out H
          exact Jn.mk (x615, x616, decide (x616 < 6), x617) H (weak_cons rfl (weak_cons rfl (weak_cons rfl (weak_cons rfl (weak_cons rfl (weak_cons rfl (weak_cons rfl (weak_cons rfl (weak_cons rfl (weak_cons rfl weak_nil)))))))))) (List.Perm.refl _)
  · refine WP.seq ?_
    refine WP.reg [(0, false)] (by kernel_rfl) ?_
    refine as0 rfl rfl ?_
    refine .fin ?_
    refine WP.block ?_
    refine WP.gh (l' := fun _ => [PTab.O g606 t604] ++ F) (gh_of (st_selgn 1 [0] 0 rfl rfl rfl)) (fun _ _ => ?_)
    refine WP.loopg (fun j_ (p671 : Int × PTab) => concourselaw15_PresenceTurns.l2 k a0 j_ p671.1 p671.2) (0, t604) H (fun p671 => [(0, sl Edu.K a0), (1, sl (intK .i64) a1), (4, eq (.bool false)), (5, eq g606.1), (6, eq (.int .i64 p671.1)), (17, eq (.bool false))]) (fun p671 => [PTab.O g606 p671.2] ++ F) (weak_cons rfl (weak_cons rfl (weak_cons rfl (weak_cons rfl (weak_cons rfl (weak_cons rfl weak_nil)))))) (List.Perm.refl _) ?_
    rintro j_ ⟨x660, x661⟩ H
    rcases j_ with _ | j670
    · exact (Gets.no H).elim
    replace H : Gets (concourselaw15_PresenceTurns.l2 k a0 (j670 + 1) x660 x661) _ := H
    rw [concourselaw15_PresenceTurns.l2] at H
    refine WP.seq ?_
    refine WP.seq ?_
    refine WP.reg [(0, false), (1, false), (2, false), (3, false), (4, false), (5, false), (6, false), (7, false)] (by kernel_rfl) ?_
    refine mv0 rfl rfl ?_
    refine mv0 rfl rfl ?_
    refine Dv.lenl rfl trivial rfl Tryz.underlying22 ?_
    refine Dv.bin rfl trivial rfl rfl (fun _ => run_lt) ?_
    refine mv0 rfl rfl ?_
    cases c662 : decide (x660 < (a0.length : Int))
    · replace H := Gets.cf H c662
      refine sk rfl rfl rfl rfl rfl ?_
      refine sk rfl rfl rfl rfl rfl ?_
      refine Dv.pickF rfl trivial rfl rfl ?_
      refine .fin ?_
      refine WP.cond rfl nofun (fun _ => ?_)
      refine WP.exit ?_
      replace H := Gets.out H
      exact Jn.mk (x660, false, x661) H (weak_cons rfl (weak_cons rfl (weak_cons rfl (weak_cons rfl (weak_cons rfl (weak_cons rfl (weak_cons rfl weak_nil))))))) (List.Perm.refl _)
    · replace H := Gets.ct H c662
      refine Dv.mv rfl ⟨_, _, rfl, rfl, rfl⟩ rfl ?_
      refine Dv.bin rfl ⟨_, _, rfl, rfl, rfl⟩ rfl rfl (fun _ => run_lt) ?_
      refine Dv.pickT rfl trivial rfl rfl ?_
      refine .fin ?_
      refine WP.cond rfl (fun c663 => ?_) (fun c663 => ?_)
      · replace H := Gets.ct H c663
        refine WP.skip ?_
        refine WP.seq ?_
        refine WP.block ?_
        refine WP.reg [(0, false), (1, false), (2, false), (3, false), (4, false), (5, false), (6, true)] (by kernel_rfl) ?_
        refine mv0 rfl rfl ?_
        refine mv0 rfl rfl ?_
        refine mv0 rfl rfl ?_
        obtain ⟨g664, H⟩ := Gets.grd H
        refine Dv.ixr rfl trivial rfl rfl Tryz.underlying22 Tryz.underlying32 c32 g664.1 g664.2 ?_
        refine Dv.ldrs rfl trivial rfl Tryz.underlying32 rfl c32 (Nat.le_of_ble_eq_true rfl) ?_
        obtain ⟨t665, h666, H⟩ := Gets.call H
        refine Dv.call rfl trivial cal9 rfl (concourseref15_Made.c h666) ?_
        obtain ⟨t667, h668, H⟩ := Gets.call H
        refine Dv.callx (pre := [PTab.O g606 x661]) (F := [] ++ F) (fun _ : Unit => [PTab.O g606 t667.2.2] ++ F) rfl trivial cal10 rfl (presence_Table_Put.c h668 (p0_ := g606)) (perm_ton 1 [0] rfl rfl rfl) rfl nofun (fun _ _ => ?_)
        refine .fin ?_
        refine WP.reg [(0, false), (1, false), (2, false)] (by kernel_rfl) ?_
        refine mv0 rfl rfl ?_
        refine Dv.bin rfl trivial rfl rfl (fun _ => run_add) ?_
        refine as0 rfl rfl ?_
        refine .fin ?_
        exact Back.mk j670 (w64 (x660 + 1), t667.2.2) (Nat.lt_succ_self _) H (weak_cons rfl (weak_cons rfl (weak_cons rfl (weak_cons rfl (weak_cons rfl (weak_cons rfl weak_nil)))))) (List.Perm.refl _)
      · replace H := Gets.cf H c663
        refine WP.exit ?_
        replace H := Gets.out H
        exact Jn.mk (x660, decide (x660 < 10), x661) H (weak_cons rfl (weak_cons rfl (weak_cons rfl (weak_cons rfl (weak_cons rfl (weak_cons rfl (weak_cons rfl weak_nil))))))) (List.Perm.refl _)
end Go.Proofs.YtegmafgodoikiaaGreat
