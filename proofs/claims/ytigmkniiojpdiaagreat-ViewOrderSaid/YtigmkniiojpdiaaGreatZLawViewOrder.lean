/- The walks. -/
import Derived.Test.YtigmkniiojpdiaaGreatZWalks2
import Derived.Test.YtigmkniiojpdiaaGreatConQ
import Derived.Test.YtigmkniiojpdiaaGreatConA4
import Derived.Eval
set_option linter.all false
set_option maxRecDepth 10000
set_option maxHeartbeats 20000000
namespace Go.Proofs.YtigmkniiojpdiaaGreat
open Go Go.Sp
theorem concourselaw10_ViewOrder.c {k : Nat} {a0 : List GMade} {a1 : List GMade} {r : Bool} (h : concourselaw10_ViewOrder.f k a0 a1 = some r) : Pt Tryz.prog 5 [sl GMade.K a0, sl GMade.K a1] (vB r) := by
 unfold concourselaw10_ViewOrder.f at h
 refine (Tr.body Tryz.func5 (c := _) rfl Tryz.ntmps5 (Nat.le_of_ble_eq_true rfl) fun R0 F => ?_).pt
 replace h := Gets.of h
 have H := h
 clear h
 refine WP.seq <| rg 1 0 <| as0 rfl rfl <| .fin <| WP.seq <| rg 9 324 <| mv0 rfl rfl <| mv0 rfl rfl <| el H fun t1468 h1469 H => cx 0 [] cal8 (concourselaw10_build.c h1469) nofun fun g1470 _ => ?_
 refine mv0 rfl rfl <| ex0 rfl trivial rfl rfl <| ex0 rfl trivial rfl rfl <| al rfl trivial zc28 nofun fun b1471 => as0 rfl rfl <| sx 0 rfl trivial rfl rfl cA sz28 rfl rfl rfl nofun ?_
 refine .fin <| WP.seq <| rg 2 1 <| el H fun t1472 h1473 H => cx 2 [0,1] cal25 (view_New.c h1473) nofun fun g1474 _ => ?_
 refine as0 rfl rfl <| .fin <| WP.seq <| WP.seq <| rg 6 0 <| mv0 rfl rfl <| Dv.oeq0 (fun _ => VView.nn) rfl trivial rfl rfl Tryz.underlying25 (mem_at 2 rfl) <| mv0 rfl rfl ?_
 cases c1475 : t1468.1.isNone
 rotate_left
 ·
  replace H := Gets.ct H c1475
  refine sk rfl rfl <| sk rfl rfl <| pt0 rfl rfl rfl <| .fin <| WP.cond rfl (fun _ => ?_) nofun
  refine WP.seq <| rg 1 0 <| as0 rfl rfl <| .fin ?_
  obtain rfl := Gets.out H
  exact rt i2 rfl () 3 [0,1,2] 3 (.cons (res_tmp rfl) .nil)
 replace H := Gets.cf H c1475
 refine mvg rfl rfl rfl <| Dv.peq0 VView.nn rfl (gg rfl) rfl rfl Tryz.underlying25 (mem_at 0 rfl) <| pf0 rfl rfl rfl <| .fin <| WP.cond rfl nofun (fun _ => ?_)
 refine WP.skip <| WP.seq <| wg (opt_some 2 rfl c1475) fun _ _ => ?_
 refine rg 4 4 <| mv0 rfl rfl <| mv0 rfl rfl <| el H fun t1478 h1479 H => cx 3 [0,1,2] cal26 (concourseref10_Made.c h1479) nofun fun g1480 _ => ?_
 refine as0 rfl rfl <| .fin <| WP.seqr H id (fun p1481 : Int × Bool × VView => [(0, sl GMade.K a0), (1, sl GMade.K a1), (4, vB false), (5, eq g1470.1), (7, eq g1474.1), (8, eq g1480.1), (9, vI p1481.1), (24, vB false), (29, vB p1481.2.1)]) (fun p1481 : Int × Bool × VView => [blk b1471 28 (RView.enc t1468.2), own Event.K g1480.1 t1478, VView.O g1470 (t1468.1.getD default), VView.O g1474 p1481.2.2] ++ F) (fun p1481 H => ?_) (fun H => ?_)
 ·
  refine WP.seq <| rg 12 68 <| mv0 rfl rfl <| mv0 rfl rfl <| el H fun t1482 h1483 H => cx 4 [2,3,0,1] cal23 (view_View_Same.c h1483 (p0_ := g1470) (p1_ := g1474)) nofun fun _ _ => ?_
  refine mv0 rfl rfl ?_
  cases c1484 : t1482
  ·
   replace H := Gets.cf H c1484
   refine sk rfl rfl <| sk rfl rfl <| Dv.skipb rfl ⟨_, _, rfl, rfl, .inl rfl⟩ nofun <| pf0 rfl rfl rfl <| mv0 rfl rfl <| sk rfl rfl <| pf0 rfl rfl rfl <| as0 rfl rfl <| .fin ?_
   obtain rfl := Gets.out H
   exact rt i2 rfl () 4 [0,1,2,3] 4 (.cons (res_tmp rfl) .nil)
  replace H := Gets.ct H c1484
  refine mvg rfl rfl rfl <| mvg rfl rfl rfl <| el H fun t1485 h1486 H => cx 4 [1,0,2,3] cal23 (view_View_Same.c h1486 (p0_ := g1474) (p1_ := g1470)) nofun fun _ _ => ?_
  refine pt0 rfl rfl rfl <| mv0 rfl rfl ?_
  cases c1487 : t1485
  ·
   replace H := Gets.cf H c1487
   refine sk rfl rfl <| pf0 rfl rfl rfl <| as0 rfl rfl <| .fin ?_
   obtain rfl := Gets.out H
   exact rt i2 rfl () 4 [0,1,2,3] 4 (.cons (res_tmp rfl) .nil)
  replace H := Gets.ct H c1487
  refine el H fun t1488 h1489 H => Dv.call rfl (gg rfl) cal22 rfl (concourselaw10_lives.c h1489) <| pt0 rfl rfl rfl <| as0 rfl rfl <| .fin ?_
  obtain rfl := Gets.out H
  exact rt i2 rfl () 4 [0,1,2,3] 4 (.cons (res_tmp rfl) .nil)
 refine WP.seq <| rg 1 0 <| as0 rfl rfl <| .fin <| WP.block <| wg (sg 4 [3,0,1,2] 0) fun _ _ => ?_
 refine lp (fun j_ (p1509 : Int × VView) => concourselaw10_ViewOrder.l0 k t1478 j_ p1509.1 p1509.2) (0, t1472) H (fun p1509 => [(0, sl GMade.K a0), (1, sl GMade.K a1), (4, vB false), (5, eq g1470.1), (7, eq g1474.1), (8, eq g1480.1), (9, vI p1509.1), (24, vB false)]) (fun p1509 => [blk b1471 28 (RView.enc t1468.2), own Event.K g1480.1 t1478, VView.O g1470 (t1468.1.getD default), VView.O g1474 p1509.2] ++ F) ?_
 rintro j_ ⟨x1490, x1491⟩ H
 rcases j_ with _ | j1508
 ·
  exact (Gets.no H).elim
 replace H : Gets (concourselaw10_ViewOrder.l0 k t1478 (j1508 + 1) x1490 x1491) _ := H
 rw [concourselaw10_ViewOrder.l0] at H
 refine WP.seq <| WP.seq <| rg 2 0 <| mv0 rfl rfl <| bn0 rfl rfl rfl run_lt <| .fin <| cd H rfl (fun _ H => ?_) (fun _ H => ?_)
 rotate_left
 ·
  refine WP.exit ?_
  replace H := Gets.out H
  exact jn (x1490, decide (x1490 < 9), x1491) H
 refine WP.skip <| WP.seqr H id (fun p1493 : Int × Bool × VView => [(0, sl GMade.K a0), (1, sl GMade.K a1), (4, vB false), (5, eq g1470.1), (7, eq g1474.1), (8, eq g1480.1), (9, vI x1490), (10, vI p1493.1), (24, vB false), (29, vB (decide (x1490 < 9))), (36, vB p1493.2.1)]) (fun p1493 : Int × Bool × VView => [blk b1471 28 (RView.enc t1468.2), own Event.K g1480.1 t1478, VView.O g1470 (t1468.1.getD default), VView.O g1474 p1493.2.2] ++ F) (fun p1493 H => ?_) (fun H => ?_)
 ·
  exact rg 3 0 <| mv0 rfl rfl <| bn0 rfl rfl rfl run_add <| as0 rfl rfl <| .fin <| bk j1508 (w64 (x1490 + 1), p1493.2.2) H
 refine WP.block <| WP.seq <| rg 4 0 <| mv0 rfl rfl <| Dv.lenw rfl trivial rfl (mem_at 1 rfl) Tryz.underlying23 <| bn0 rfl rfl rfl run_sub <| as0 rfl rfl <| .fin <| WP.block <| wg (sg 4 [0,1,2,3] 0) fun _ _ => ?_
 refine lp (fun j_ (p1507 : Int × VView) => concourselaw10_ViewOrder.l1 k t1478 j_ p1507.1 p1507.2) (w64 ((t1478.length : Int) - 1), x1491) H (fun p1507 => [(0, sl GMade.K a0), (1, sl GMade.K a1), (4, vB false), (5, eq g1470.1), (7, eq g1474.1), (8, eq g1480.1), (9, vI x1490), (10, vI p1507.1), (24, vB false), (29, vB (decide (x1490 < 9)))]) (fun p1507 => [blk b1471 28 (RView.enc t1468.2), own Event.K g1480.1 t1478, VView.O g1470 (t1468.1.getD default), VView.O g1474 p1507.2] ++ F) ?_
 rintro j_ ⟨x1494, x1495⟩ H
 rcases j_ with _ | j1506
 ·
  exact (Gets.no H).elim
 replace H : Gets (concourselaw10_ViewOrder.l1 k t1478 (j1506 + 1) x1494 x1495) _ := H
 rw [concourselaw10_ViewOrder.l1] at H
 refine WP.seq <| WP.seq <| rg 2 0 <| mv0 rfl rfl <| bn0 rfl rfl rfl run_ge <| .fin <| cd H rfl (fun _ H => ?_) (fun _ H => ?_)
 rotate_left
 ·
  refine WP.exit ?_
  replace H := Gets.out H
  exact jn (x1494, decide (0 ≤ x1494), x1495) H
 refine WP.skip <| WP.seq <| WP.block <| WP.seq <| rg 7 32 <| mv0 rfl rfl <| mv0 rfl rfl <| mv0 rfl rfl <| gr H fun g1497 H => ?_
 have h1498 : x1494.toNat < t1478.length := idx_lt g1497
 refine Dv.ixw rfl trivial rfl (mem_at 1 rfl) rfl Tryz.underlying23 Tryz.underlying33 c33 g1497.1 g1497.2 <| Dv.ldws (j := x1494.toNat) (f := 0) rfl trivial rfl (mem_at 1 rfl) h1498 Tryz.underlying33 rfl c33 (Nat.le_of_ble_eq_true rfl) <| el H fun t1499 h1500 H => cx 4 [3,0,1,2] cal13 (view_View_Add.c h1500 (p0_ := g1474)) nofun fun _ _ => ?_
 refine as0 rfl rfl <| .fin <| WP.seq <| rg 10 0 <| mv0 rfl rfl <| bn0 rfl rfl rfl run_ne <| mv0 rfl rfl ?_
 cases c1501 : (t1499.1 != 0)
 ·
  replace H := Gets.cf H c1501
  refine sk rfl rfl <| sk rfl rfl <| pf0 rfl rfl rfl <| mv0 rfl rfl <| sk rfl rfl <| sk rfl rfl <| pf0 rfl rfl rfl <| .fin <| WP.cond rfl nofun (fun _ => ?_)
  refine WP.skip <| rg 3 0 <| mv0 rfl rfl <| bn0 rfl rfl rfl run_sub <| as0 rfl rfl <| .fin <| ng (sg 4 [1,2,3,0] 0) fun _ _ => ?_
  exact bk j1506 (w64 (x1494 - 1), t1499.2) H
 replace H := Gets.ct H c1501
 refine mvg rfl rfl rfl <| bng rfl rfl rfl rfl run_ne <| pt0 rfl rfl rfl <| mv0 rfl rfl ?_
 cases c1502 : (t1499.1 != 9)
 ·
  replace H := Gets.cf H c1502
  refine sk rfl rfl <| sk rfl rfl <| pf0 rfl rfl rfl <| .fin <| WP.cond rfl nofun (fun _ => ?_)
  refine WP.skip <| rg 3 0 <| mv0 rfl rfl <| bn0 rfl rfl rfl run_sub <| as0 rfl rfl <| .fin <| ng (sg 4 [1,2,3,0] 0) fun _ _ => ?_
  exact bk j1506 (w64 (x1494 - 1), t1499.2) H
 replace H := Gets.ct H c1502
 refine mvg rfl rfl rfl <| bng rfl rfl rfl rfl run_ne <| pt0 rfl rfl rfl <| .fin <| cd H rfl (fun _ H => ?_) (fun _ H => ?_)
 rotate_left
 ·
  refine WP.skip <| rg 3 0 <| mv0 rfl rfl <| bn0 rfl rfl rfl run_sub <| as0 rfl rfl <| .fin <| ng (sg 4 [1,2,3,0] 0) fun _ _ => ?_
  exact bk j1506 (w64 (x1494 - 1), t1499.2) H
 refine WP.seq <| rg 1 0 <| as0 rfl rfl <| .fin ?_
 replace H := Gets.outr H
 replace H := Gets.outr H
 obtain rfl := Gets.out H
 exact rt i2 rfl () 4 [0,1,2,3] 4 (.cons (res_tmp rfl) .nil)
end Go.Proofs.YtigmkniiojpdiaaGreat
