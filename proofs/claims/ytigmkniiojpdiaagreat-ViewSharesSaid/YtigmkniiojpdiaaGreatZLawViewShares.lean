/- The walks. -/
import Derived.Test.YtigmkniiojpdiaaGreatZWalks2
import Derived.Test.YtigmkniiojpdiaaGreatConQ
import Derived.Test.YtigmkniiojpdiaaGreatConA5
import Derived.Eval
set_option linter.all false
set_option maxRecDepth 10000
set_option maxHeartbeats 20000000
namespace Go.Proofs.YtigmkniiojpdiaaGreat
open Go Go.Sp
theorem concourselaw10_ViewShares.c {k : Nat} {a0 : List GMade} {a1 : List GMade} {a2 : Int} {a3 : ByteArray} {r : Bool} (h : concourselaw10_ViewShares.f k a0 a1 a2 a3 = some r) : Pt Tryz.prog 7 [sl GMade.K a0, sl GMade.K a1, vI a2, vS a3] (vB r) := by
 unfold concourselaw10_ViewShares.f at h
 refine (Tr.body Tryz.func7 (c := _) rfl Tryz.ntmps7 (Nat.le_of_ble_eq_true rfl) fun R0 F => ?_).pt
 replace h := Gets.of h
 have H := h
 clear h
 refine WP.seq <| rg 1 0 <| as0 rfl rfl <| .fin <| WP.seq <| rg 9 324 <| mv0 rfl rfl <| mv0 rfl rfl <| el H fun t1556 h1557 H => cx 0 [] cal8 (concourselaw10_build.c h1557) nofun fun g1558 _ => ?_
 refine mv0 rfl rfl <| ex0 rfl trivial rfl rfl <| ex0 rfl trivial rfl rfl <| al rfl trivial zc28 nofun fun b1559 => as0 rfl rfl <| sx 0 rfl trivial rfl rfl cA sz28 rfl rfl rfl nofun ?_
 refine .fin <| WP.seq <| WP.seq <| rg 2 0 <| mv0 rfl rfl <| Dv.oeq0 (fun _ => VView.nn) rfl trivial rfl rfl Tryz.underlying25 (mem_at 1 rfl) <| .fin <| cd H rfl (fun _ H => ?_) (fun c1560 H => ?_)
 ·
  refine WP.seq <| rg 1 0 <| as0 rfl rfl <| .fin ?_
  obtain rfl := Gets.out H
  exact rt i2 rfl () 2 [0,1] 2 (.cons (res_tmp rfl) .nil)
 refine wg (opt_some 1 rfl c1560) fun _ _ => ?_
 refine WP.skip <| WP.seq <| rg 3 0 <| mv0 rfl rfl <| el H fun t1561 h1562 H => cl rfl cal27 rfl (concourseref01_Few.c h1562) <| as0 rfl rfl <| .fin <| WP.seqr H id (fun p1563 : Int × Bool => [(0, sl GMade.K a0), (1, sl GMade.K a1), (2, vI a2), (3, vS t1561), (8, vB false), (9, eq g1558.1), (10, eq (.pointer (some ⟨b1559, 0, none⟩))), (11, vI p1563.1), (22, vB t1556.1.isNone), (26, vB p1563.2)]) (fun p1563 : Int × Bool => [blk b1559 28 (RView.enc t1556.2), VView.O g1558 (t1556.1.getD default)] ++ F) (fun p1563 H => ?_) (fun H => ?_)
 ·
  refine WP.seq <| rg 2 0 <| el H fun t1564 h1565 H => cl rfl cal22 rfl (concourselaw10_lives.c h1565) <| as0 rfl rfl <| .fin ?_
  obtain rfl := Gets.out H
  exact rt i2 rfl () 2 [0,1] 2 (.cons (res_tmp rfl) .nil)
 refine WP.seq <| rg 1 0 <| as0 rfl rfl <| .fin <| WP.block <| wg (sg 2 [1,0] 0) fun _ _ => ?_
 refine lp (fun j_ (p1628 : Int) => concourselaw10_ViewShares.l0 k a2 t1556 t1561 j_ p1628) 0 H (fun p1628 => [(0, sl GMade.K a0), (1, sl GMade.K a1), (2, vI a2), (3, vS t1561), (8, vB false), (9, eq g1558.1), (10, eq (.pointer (some ⟨b1559, 0, none⟩))), (11, vI p1628), (22, vB t1556.1.isNone)]) (fun p1628 => [blk b1559 28 (RView.enc t1556.2), VView.O g1558 (t1556.1.getD default)] ++ F) ?_
 rintro j_ x1566 H
 rcases j_ with _ | j1627
 ·
  exact (Gets.no H).elim
 replace H : Gets (concourselaw10_ViewShares.l0 k a2 t1556 t1561 (j1627 + 1) x1566) _ := H
 rw [concourselaw10_ViewShares.l0] at H
 refine WP.seq <| WP.seq <| rg 2 0 <| mv0 rfl rfl <| bn0 rfl rfl rfl run_lt <| .fin <| cd H rfl (fun _ H => ?_) (fun _ H => ?_)
 rotate_left
 ·
  refine WP.exit ?_
  replace H := Gets.out H
  exact jn (x1566, decide (x1566 < 10)) H
 refine WP.skip <| WP.seq <| WP.block <| WP.seq <| rg 4 0 <| mv0 rfl rfl <| bn0 rfl rfl rfl (run_rem (by decide)) <| el H fun t1568 h1569 H => cl rfl cal36 rfl (concourseref01_UserOf.c h1569) <| as0 rfl rfl <| .fin <| WP.seqn H id (fun p1570 : ByteArray => [(0, sl GMade.K a0), (1, sl GMade.K a1), (2, vI a2), (3, vS t1561), (8, vB false), (9, eq g1558.1), (10, eq (.pointer (some ⟨b1559, 0, none⟩))), (11, vI x1566), (12, vS p1570), (22, vB t1556.1.isNone), (26, vB (decide (x1566 < 10))), (33, vB (x1566 == 9))]) (fun p1570 : ByteArray => [blk b1559 28 (RView.enc t1556.2), VView.O g1558 (t1556.1.getD default)] ++ F) (fun p1570 H => ?_) (fun H => ?_)
 rotate_left
 ·
  refine WP.seq <| rg 2 0 <| mv0 rfl rfl <| bn0 rfl rfl rfl run_eq <| .fin <| cd H rfl (fun _ H => ?_) (fun _ H => ?_)
  rotate_left
  ·
   refine WP.skip ?_
   replace H := Gets.out H
   exact jn t1568 H
  refine rg 2 0 <| mv0 rfl rfl <| as0 rfl rfl <| .fin ?_
  replace H := Gets.out H
  exact jn t1561 H
 refine WP.seq <| rg 3 0 <| mv0 rfl rfl <| el H fun t1571 h1572 H => cl rfl cal36 rfl (concourseref01_UserOf.c h1572) <| as0 rfl rfl <| .fin <| WP.seq <| rg 4 4 <| lds 0 rfl trivial rfl sg28 rfl rfl <| mv0 rfl rfl <| el H fun t1573 h1574 H => cx 2 [0,1] cal41 (concourseref10_Peers.c h1574) nofun fun g1575 _ => ?_
 refine as0 rfl rfl <| .fin <| WP.seq <| WP.seq <| dgo Tryz.checked.mixed [0, 1, 3, 4, 2, 5, 6, 7, 8, 9, 10, 12, 11, 13, 14, 15, 16, 17, 18, 19, 21, 22, 23, 20, 24, 25, 26, 27, 28, 29, 30, 32, 33, 34, 31, 35, 36, 37, 38, 39, 40, 41, 43, 44, 42, 45, 46, 47, 48, 49] [2, 5, 11, 20, 31, 42, 45] <| mv0 rfl rfl <| mv0 rfl rfl <| lds 1 rfl trivial rfl sg28 rfl rfl <| mv0 rfl rfl <| el H fun t1576 h1577 H => Dv.callx (pre := [VView.O g1558 (t1556.1.getD default)]) (F := [own strK g1575.1 t1573, blk b1559 28 (RView.enc t1556.2)] ++ F) (fun g1578 : OV => [VView.O g1558 (t1556.1.getD default), own strK g1578.1 t1576, own strK g1575.1 t1573, blk b1559 28 (RView.enc t1556.2)] ++ F) rfl trivial cal42 rfl (view_View_RoomsOf.c h1577 (p0_ := g1558)) (perm_to (L := [own strK g1575.1 t1573, blk b1559 28 (RView.enc t1556.2), VView.O g1558 (t1556.1.getD default)]) (F := F) [2, 0, 1] rfl rfl rfl) rfl (fun _ => pendc (pend_in (fun _ => trivial) (pend_in (fun _ => (mem_at 3 rfl)) (pend_by (by kernel_rfl) (pend_by (by kernel_rfl) pend_nil))))) (fun g1578 _ => ?_)
 refine el H fun t1579 h1580 H => cx 4 [0,1,2,3] cal43 (concourseref10_RoomsOf.c h1580) pC fun g1581 _ => ?_
 refine el H fun t1582 h1583 H => cll (B := [own strK g1578.1 t1576, own strK g1581.1 t1579]) 5 [2,0,1,3,4] cal17 (Pt.lend _ (concourseref01_SameTexts.c h1583) (.cons (lt_own (mem_at 0 rfl)) (.cons (lt_own (mem_at 1 rfl)) .nil)) flat_eq) ?_
 refine un0 rfl rfl (run_not _) <| mv0 rfl rfl ?_
 cases c1584 : !t1582
 rotate_left
 ·
  replace H := Gets.ct H c1584
  refine sk rfl rfl <| sk rfl rfl <| sk rfl rfl <| Dv.skipb rfl ⟨_, _, rfl, rfl, .inl rfl⟩ (fun _ => (pend_in (fun _ => trivial) (pend_by (by kernel_rfl) (pend_by (by kernel_rfl) (pend_by (by kernel_rfl) (pend_by (by kernel_rfl) (pend_by (by kernel_rfl) (pend_by (by kernel_rfl) (pend_by (by kernel_rfl) (pend_by (by kernel_rfl) (pend_by (by kernel_rfl) pend_nil))))))))))) <| sk rfl rfl <| sk rfl rfl <| pt0 rfl rfl rfl <| mv0 rfl rfl <| sk rfl rfl <| sk rfl rfl <| sk rfl rfl <| sk rfl rfl <| sk rfl rfl <| sk rfl rfl <| Dv.skipb rfl ⟨_, _, rfl, rfl, .inl rfl⟩ (fun _ => (pend_in (fun _ => trivial) (pend_in (fun _ => trivial) (pend_in (fun _ => trivial) (pend_by (by kernel_rfl) (pend_by (by kernel_rfl) (pend_by (by kernel_rfl) (pend_by (by kernel_rfl) (pend_by (by kernel_rfl) (pend_by (by kernel_rfl) (pend_by (by kernel_rfl) (pend_by (by kernel_rfl) (pend_by (by kernel_rfl) (pend_by (by kernel_rfl) (pend_by (by kernel_rfl) (pend_by (by kernel_rfl) (pend_by (by kernel_rfl) (pend_by (by kernel_rfl) (pend_by (by kernel_rfl) (pend_by (by kernel_rfl) (pend_by (by kernel_rfl) pend_nil))))))))))))))))))))) <| sk rfl rfl <| sk rfl rfl <| pt0 rfl rfl rfl <| mv0 rfl rfl <| sk rfl rfl <| sk rfl rfl <| sk rfl rfl <| sk rfl rfl <| sk rfl rfl <| sk rfl rfl <| Dv.skipb rfl ⟨_, _, rfl, rfl, .inl rfl⟩ (fun _ => (pend_in (fun _ => trivial) (pend_in (fun _ => trivial) (pend_in (fun _ => trivial) (pend_by (by kernel_rfl) (pend_by (by kernel_rfl) (pend_by (by kernel_rfl) (pend_by (by kernel_rfl) (pend_by (by kernel_rfl) (pend_by (by kernel_rfl) (pend_by (by kernel_rfl) (pend_by (by kernel_rfl) (pend_by (by kernel_rfl) (pend_by (by kernel_rfl) (pend_by (by kernel_rfl) (pend_by (by kernel_rfl) (pend_by (by kernel_rfl) (pend_by (by kernel_rfl) (pend_by (by kernel_rfl) (pend_by (by kernel_rfl) (pend_by (by kernel_rfl) (pend_by (by kernel_rfl) (pend_by (by kernel_rfl) (pend_by (by kernel_rfl) (pend_by (by kernel_rfl) (pend_by (by kernel_rfl) (pend_by (by kernel_rfl) (pend_by (by kernel_rfl) (pend_by (by kernel_rfl) (pend_by (by kernel_rfl) (pend_by (by kernel_rfl) pend_nil))))))))))))))))))))))))))))))) <| sk rfl rfl <| sk rfl rfl <| pt0 rfl rfl rfl <| mv0 rfl rfl <| sk rfl rfl <| sk rfl rfl <| sk rfl rfl <| sk rfl rfl <| sk rfl rfl <| Dv.skipb rfl ⟨_, _, rfl, rfl, .inl rfl⟩ (fun _ => (pend_in (fun _ => trivial) (pend_in (fun _ => trivial) (pend_by (by kernel_rfl) (pend_by (by kernel_rfl) (pend_by (by kernel_rfl) (pend_by (by kernel_rfl) (pend_by (by kernel_rfl) (pend_by (by kernel_rfl) (pend_by (by kernel_rfl) (pend_by (by kernel_rfl) (pend_by (by kernel_rfl) (pend_by (by kernel_rfl) (pend_by (by kernel_rfl) (pend_by (by kernel_rfl) (pend_by (by kernel_rfl) (pend_by (by kernel_rfl) (pend_by (by kernel_rfl) (pend_by (by kernel_rfl) (pend_by (by kernel_rfl) (pend_by (by kernel_rfl) (pend_by (by kernel_rfl) (pend_by (by kernel_rfl) (pend_by (by kernel_rfl) (pend_by (by kernel_rfl) (pend_by (by kernel_rfl) (pend_by (by kernel_rfl) (pend_by (by kernel_rfl) (pend_by (by kernel_rfl) (pend_by (by kernel_rfl) (pend_by (by kernel_rfl) (pend_by (by kernel_rfl) (pend_by (by kernel_rfl) (pend_by (by kernel_rfl) (pend_by (by kernel_rfl) (pend_by (by kernel_rfl) (pend_by (by kernel_rfl) (pend_by (by kernel_rfl) (pend_by (by kernel_rfl) (pend_by (by kernel_rfl) pend_nil)))))))))))))))))))))))))))))))))))))))) <| Dv.skipb rfl ⟨_, _, rfl, rfl, .inl rfl⟩ (fun _ => pend_bits (by kernel_rfl)) <| sk rfl rfl <| sk rfl rfl <| sk rfl rfl <| pt0 rfl rfl rfl <| .fin <| WP.cond rfl (fun _ => ?_) nofun
  refine WP.seq <| rg 1 0 <| as0 rfl rfl <| .fin ?_
  replace H := Gets.outr H
  obtain rfl := Gets.out H
  exact rt i2 rfl () 5 [0,1,2,3,4] 5 (.cons (res_tmp rfl) .nil)
 replace H := Gets.cf H c1584
 refine mvg rfl rfl rfl <| mvg rfl rfl rfl <| mvg rfl rfl rfl <| el H fun t1586 h1587 H => Dv.callx (pre := [VView.O g1558 (t1556.1.getD default)]) (F := [own strK g1581.1 t1579, own strK g1578.1 t1576, own strK g1575.1 t1573, blk b1559 28 (RView.enc t1556.2)] ++ F) (fun g1588 : OV => [VView.O g1558 (t1556.1.getD default), own strK g1588.1 t1586, own strK g1581.1 t1579, own strK g1578.1 t1576, own strK g1575.1 t1573, blk b1559 28 (RView.enc t1556.2)] ++ F) rfl (gg rfl) cal44 rfl (view_View_Peers.c h1587 (p0_ := g1558)) (perm_to (L := [own strK g1581.1 t1579, VView.O g1558 (t1556.1.getD default), own strK g1578.1 t1576, own strK g1575.1 t1573, blk b1559 28 (RView.enc t1556.2)]) (F := F) [1, 0, 2, 3, 4] (by kernel_rfl) rfl rfl) rfl (fun _ => pendc (pend_in (fun _ => trivial) (pend_by (by kernel_rfl) (pend_by (by kernel_rfl) (pend_by (by kernel_rfl) (pend_by (by kernel_rfl) (pend_by (by kernel_rfl) (pend_by (by kernel_rfl) (pend_by (by kernel_rfl) (pend_by (by kernel_rfl) (pend_by (by kernel_rfl) pend_nil))))))))))) (fun g1588 _ => ?_)
 refine el H fun t1589 h1590 H => cll (B := [own strK g1588.1 t1586, own strK g1575.1 t1573]) 6 [1,4,0,2,3,5] cal17 (Pt.lend _ (concourseref01_SameTexts.c h1590) (.cons (lt_own (mem_at 0 rfl)) (.cons (lt_own (mem_at 1 rfl)) .nil)) flat_eq) ?_
 refine ung rfl rfl rfl (run_not _) <| pf0 rfl rfl rfl <| mv0 rfl rfl ?_
 cases c1591 : !t1589
 rotate_left
 ·
  replace H := Gets.ct H c1591
  refine sk rfl rfl <| sk rfl rfl <| sk rfl rfl <| sk rfl rfl <| sk rfl rfl <| sk rfl rfl <| Dv.skipb rfl ⟨_, _, rfl, rfl, .inl rfl⟩ (fun _ => (pend_in (fun _ => trivial) (pend_in (fun _ => trivial) (pend_in (fun _ => trivial) (pend_by (by kernel_rfl) (pend_by (by kernel_rfl) (pend_by (by kernel_rfl) (pend_by (by kernel_rfl) (pend_by (by kernel_rfl) (pend_by (by kernel_rfl) (pend_by (by kernel_rfl) (pend_by (by kernel_rfl) (pend_by (by kernel_rfl) (pend_by (by kernel_rfl) (pend_by (by kernel_rfl) (pend_by (by kernel_rfl) (pend_by (by kernel_rfl) (pend_by (by kernel_rfl) (pend_by (by kernel_rfl) (pend_by (by kernel_rfl) (pend_by (by kernel_rfl) pend_nil))))))))))))))))))))) <| sk rfl rfl <| sk rfl rfl <| pt0 rfl rfl rfl <| mv0 rfl rfl <| sk rfl rfl <| sk rfl rfl <| sk rfl rfl <| sk rfl rfl <| sk rfl rfl <| sk rfl rfl <| Dv.skipb rfl ⟨_, _, rfl, rfl, .inl rfl⟩ (fun _ => (pend_in (fun _ => trivial) (pend_in (fun _ => trivial) (pend_in (fun _ => trivial) (pend_by (by kernel_rfl) (pend_by (by kernel_rfl) (pend_by (by kernel_rfl) (pend_by (by kernel_rfl) (pend_by (by kernel_rfl) (pend_by (by kernel_rfl) (pend_by (by kernel_rfl) (pend_by (by kernel_rfl) (pend_by (by kernel_rfl) (pend_by (by kernel_rfl) (pend_by (by kernel_rfl) (pend_by (by kernel_rfl) (pend_by (by kernel_rfl) (pend_by (by kernel_rfl) (pend_by (by kernel_rfl) (pend_by (by kernel_rfl) (pend_by (by kernel_rfl) (pend_by (by kernel_rfl) (pend_by (by kernel_rfl) (pend_by (by kernel_rfl) (pend_by (by kernel_rfl) (pend_by (by kernel_rfl) (pend_by (by kernel_rfl) (pend_by (by kernel_rfl) (pend_by (by kernel_rfl) (pend_by (by kernel_rfl) (pend_by (by kernel_rfl) pend_nil))))))))))))))))))))))))))))))) <| sk rfl rfl <| sk rfl rfl <| pt0 rfl rfl rfl <| mv0 rfl rfl <| sk rfl rfl <| sk rfl rfl <| sk rfl rfl <| sk rfl rfl <| sk rfl rfl <| Dv.skipb rfl ⟨_, _, rfl, rfl, .inl rfl⟩ (fun _ => (pend_in (fun _ => trivial) (pend_in (fun _ => trivial) (pend_by (by kernel_rfl) (pend_by (by kernel_rfl) (pend_by (by kernel_rfl) (pend_by (by kernel_rfl) (pend_by (by kernel_rfl) (pend_by (by kernel_rfl) (pend_by (by kernel_rfl) (pend_by (by kernel_rfl) (pend_by (by kernel_rfl) (pend_by (by kernel_rfl) (pend_by (by kernel_rfl) (pend_by (by kernel_rfl) (pend_by (by kernel_rfl) (pend_by (by kernel_rfl) (pend_by (by kernel_rfl) (pend_by (by kernel_rfl) (pend_by (by kernel_rfl) (pend_by (by kernel_rfl) (pend_by (by kernel_rfl) (pend_by (by kernel_rfl) (pend_by (by kernel_rfl) (pend_by (by kernel_rfl) (pend_by (by kernel_rfl) (pend_by (by kernel_rfl) (pend_by (by kernel_rfl) (pend_by (by kernel_rfl) (pend_by (by kernel_rfl) (pend_by (by kernel_rfl) (pend_by (by kernel_rfl) (pend_by (by kernel_rfl) (pend_by (by kernel_rfl) (pend_by (by kernel_rfl) (pend_by (by kernel_rfl) (pend_by (by kernel_rfl) (pend_by (by kernel_rfl) (pend_by (by kernel_rfl) (pend_by (by kernel_rfl) pend_nil)))))))))))))))))))))))))))))))))))))))) <| Dv.skipb rfl ⟨_, _, rfl, rfl, .inl rfl⟩ (fun _ => pend_bits (by kernel_rfl)) <| sk rfl rfl <| sk rfl rfl <| sk rfl rfl <| pt0 rfl rfl rfl <| .fin <| WP.cond rfl (fun _ => ?_) nofun
  refine WP.seq <| rg 1 0 <| as0 rfl rfl <| .fin ?_
  replace H := Gets.outr H
  obtain rfl := Gets.out H
  exact rt i2 rfl () 6 [0,1,2,3,4,5] 6 (.cons (res_tmp rfl) .nil)
 replace H := Gets.cf H c1591
 refine mvg rfl rfl rfl <| mvg rfl rfl rfl <| mvg rfl rfl rfl <| lds 5 rfl (gg rfl) rfl sg28 rfl rfl <| mvg rfl rfl rfl <| mvg rfl rfl rfl <| el H fun t1593 h1594 H => Dv.callx (pre := [VView.O g1558 (t1556.1.getD default)]) (F := [own strK g1588.1 t1586, own strK g1581.1 t1579, own strK g1578.1 t1576, own strK g1575.1 t1573, blk b1559 28 (RView.enc t1556.2)] ++ F) (fun _ : Unit => [VView.O g1558 (t1556.1.getD default), own strK g1588.1 t1586, own strK g1581.1 t1579, own strK g1578.1 t1576, own strK g1575.1 t1573, blk b1559 28 (RView.enc t1556.2)] ++ F) rfl (gg rfl) cal45 rfl (view_View_Friends.c h1594 (p0_ := g1558)) (perm_to (L := [VView.O g1558 (t1556.1.getD default), own strK g1588.1 t1586, own strK g1581.1 t1579, own strK g1578.1 t1576, own strK g1575.1 t1573, blk b1559 28 (RView.enc t1556.2)]) (F := F) [0, 1, 2, 3, 4, 5] (by kernel_rfl) rfl rfl) rfl (fun _ => pendc (pend_in (fun _ => trivial) (pend_in (fun _ => trivial) (pend_in (fun _ => (mem_at 5 rfl)) (pend_by (by kernel_rfl) (pend_by (by kernel_rfl) (pend_by (by kernel_rfl) (pend_by (by kernel_rfl) (pend_by (by kernel_rfl) (pend_by (by kernel_rfl) (pend_by (by kernel_rfl) (pend_by (by kernel_rfl) (pend_by (by kernel_rfl) (pend_by (by kernel_rfl) (pend_by (by kernel_rfl) (pend_by (by kernel_rfl) (pend_by (by kernel_rfl) (pend_by (by kernel_rfl) (pend_by (by kernel_rfl) (pend_by (by kernel_rfl) (pend_by (by kernel_rfl) pend_nil))))))))))))))))))))) (fun _ _ => ?_)
 refine el H fun t1595 h1596 H => Dv.call rfl (gg rfl) cal46 rfl (concourseref10_Friends.c h1596) <| bng rfl rfl rfl rfl (run_bne Tryz.underlying4) <| pf0 rfl rfl rfl <| mv0 rfl rfl ?_
 cases c1597 : (t1593 != t1595)
 rotate_left
 ·
  replace H := Gets.ct H c1597
  refine sk rfl rfl <| sk rfl rfl <| sk rfl rfl <| sk rfl rfl <| sk rfl rfl <| sk rfl rfl <| Dv.skipb rfl ⟨_, _, rfl, rfl, .inl rfl⟩ (fun _ => (pend_in (fun _ => trivial) (pend_in (fun _ => trivial) (pend_in (fun _ => trivial) (pend_by (by kernel_rfl) (pend_by (by kernel_rfl) (pend_by (by kernel_rfl) (pend_by (by kernel_rfl) (pend_by (by kernel_rfl) (pend_by (by kernel_rfl) (pend_by (by kernel_rfl) (pend_by (by kernel_rfl) (pend_by (by kernel_rfl) (pend_by (by kernel_rfl) (pend_by (by kernel_rfl) (pend_by (by kernel_rfl) (pend_by (by kernel_rfl) (pend_by (by kernel_rfl) (pend_by (by kernel_rfl) (pend_by (by kernel_rfl) (pend_by (by kernel_rfl) (pend_by (by kernel_rfl) (pend_by (by kernel_rfl) (pend_by (by kernel_rfl) (pend_by (by kernel_rfl) (pend_by (by kernel_rfl) (pend_by (by kernel_rfl) (pend_by (by kernel_rfl) (pend_by (by kernel_rfl) (pend_by (by kernel_rfl) (pend_by (by kernel_rfl) pend_nil))))))))))))))))))))))))))))))) <| sk rfl rfl <| sk rfl rfl <| pt0 rfl rfl rfl <| mv0 rfl rfl <| sk rfl rfl <| sk rfl rfl <| sk rfl rfl <| sk rfl rfl <| sk rfl rfl <| Dv.skipb rfl ⟨_, _, rfl, rfl, .inl rfl⟩ (fun _ => (pend_in (fun _ => trivial) (pend_in (fun _ => trivial) (pend_by (by kernel_rfl) (pend_by (by kernel_rfl) (pend_by (by kernel_rfl) (pend_by (by kernel_rfl) (pend_by (by kernel_rfl) (pend_by (by kernel_rfl) (pend_by (by kernel_rfl) (pend_by (by kernel_rfl) (pend_by (by kernel_rfl) (pend_by (by kernel_rfl) (pend_by (by kernel_rfl) (pend_by (by kernel_rfl) (pend_by (by kernel_rfl) (pend_by (by kernel_rfl) (pend_by (by kernel_rfl) (pend_by (by kernel_rfl) (pend_by (by kernel_rfl) (pend_by (by kernel_rfl) (pend_by (by kernel_rfl) (pend_by (by kernel_rfl) (pend_by (by kernel_rfl) (pend_by (by kernel_rfl) (pend_by (by kernel_rfl) (pend_by (by kernel_rfl) (pend_by (by kernel_rfl) (pend_by (by kernel_rfl) (pend_by (by kernel_rfl) (pend_by (by kernel_rfl) (pend_by (by kernel_rfl) (pend_by (by kernel_rfl) (pend_by (by kernel_rfl) (pend_by (by kernel_rfl) (pend_by (by kernel_rfl) (pend_by (by kernel_rfl) (pend_by (by kernel_rfl) (pend_by (by kernel_rfl) (pend_by (by kernel_rfl) pend_nil)))))))))))))))))))))))))))))))))))))))) <| Dv.skipb rfl ⟨_, _, rfl, rfl, .inl rfl⟩ (fun _ => pend_bits (by kernel_rfl)) <| sk rfl rfl <| sk rfl rfl <| sk rfl rfl <| pt0 rfl rfl rfl <| .fin <| WP.cond rfl (fun _ => ?_) nofun
  refine WP.seq <| rg 1 0 <| as0 rfl rfl <| .fin ?_
  replace H := Gets.outr H
  obtain rfl := Gets.out H
  exact rt i2 rfl () 6 [0,1,2,3,4,5] 6 (.cons (res_tmp rfl) .nil)
 replace H := Gets.cf H c1597
 refine mvg rfl rfl rfl <| mvg rfl rfl rfl <| mvg rfl rfl rfl <| lds 5 rfl (gg rfl) rfl sg28 rfl rfl <| mvg rfl rfl rfl <| mvg rfl rfl rfl <| el H fun t1599 h1600 H => Dv.callx (pre := [VView.O g1558 (t1556.1.getD default)]) (F := [own strK g1588.1 t1586, own strK g1581.1 t1579, own strK g1578.1 t1576, own strK g1575.1 t1573, blk b1559 28 (RView.enc t1556.2)] ++ F) (fun _ : Unit => [VView.O g1558 (t1556.1.getD default), own strK g1588.1 t1586, own strK g1581.1 t1579, own strK g1578.1 t1576, own strK g1575.1 t1573, blk b1559 28 (RView.enc t1556.2)] ++ F) rfl (gg rfl) cal45 rfl (view_View_Friends.c h1600 (p0_ := g1558)) (perm_to (L := [VView.O g1558 (t1556.1.getD default), own strK g1588.1 t1586, own strK g1581.1 t1579, own strK g1578.1 t1576, own strK g1575.1 t1573, blk b1559 28 (RView.enc t1556.2)]) (F := F) [0, 1, 2, 3, 4, 5] (by kernel_rfl) rfl rfl) rfl (fun _ => pendc (pend_in (fun _ => trivial) (pend_in (fun _ => trivial) (pend_in (fun _ => (mem_at 5 rfl)) (pend_by (by kernel_rfl) (pend_by (by kernel_rfl) (pend_by (by kernel_rfl) (pend_by (by kernel_rfl) (pend_by (by kernel_rfl) (pend_by (by kernel_rfl) (pend_by (by kernel_rfl) (pend_by (by kernel_rfl) (pend_by (by kernel_rfl) (pend_by (by kernel_rfl) (pend_by (by kernel_rfl) (pend_by (by kernel_rfl) (pend_by (by kernel_rfl) (pend_by (by kernel_rfl) (pend_by (by kernel_rfl) (pend_by (by kernel_rfl) (pend_by (by kernel_rfl) (pend_by (by kernel_rfl) (pend_by (by kernel_rfl) (pend_by (by kernel_rfl) (pend_by (by kernel_rfl) (pend_by (by kernel_rfl) (pend_by (by kernel_rfl) (pend_by (by kernel_rfl) (pend_by (by kernel_rfl) (pend_by (by kernel_rfl) (pend_by (by kernel_rfl) pend_nil))))))))))))))))))))))))))))))) (fun _ _ => ?_)
 refine el H fun t1601 h1602 H => Dv.call rfl (gg rfl) cal46 rfl (concourseref10_Friends.c h1602) <| bng rfl rfl rfl rfl (run_bne Tryz.underlying4) <| pf0 rfl rfl rfl <| mv0 rfl rfl ?_
 cases c1603 : (t1599 != t1601)
 rotate_left
 ·
  replace H := Gets.ct H c1603
  refine sk rfl rfl <| sk rfl rfl <| sk rfl rfl <| sk rfl rfl <| sk rfl rfl <| Dv.skipb rfl ⟨_, _, rfl, rfl, .inl rfl⟩ (fun _ => (pend_in (fun _ => trivial) (pend_in (fun _ => trivial) (pend_by (by kernel_rfl) (pend_by (by kernel_rfl) (pend_by (by kernel_rfl) (pend_by (by kernel_rfl) (pend_by (by kernel_rfl) (pend_by (by kernel_rfl) (pend_by (by kernel_rfl) (pend_by (by kernel_rfl) (pend_by (by kernel_rfl) (pend_by (by kernel_rfl) (pend_by (by kernel_rfl) (pend_by (by kernel_rfl) (pend_by (by kernel_rfl) (pend_by (by kernel_rfl) (pend_by (by kernel_rfl) (pend_by (by kernel_rfl) (pend_by (by kernel_rfl) (pend_by (by kernel_rfl) (pend_by (by kernel_rfl) (pend_by (by kernel_rfl) (pend_by (by kernel_rfl) (pend_by (by kernel_rfl) (pend_by (by kernel_rfl) (pend_by (by kernel_rfl) (pend_by (by kernel_rfl) (pend_by (by kernel_rfl) (pend_by (by kernel_rfl) (pend_by (by kernel_rfl) (pend_by (by kernel_rfl) (pend_by (by kernel_rfl) (pend_by (by kernel_rfl) (pend_by (by kernel_rfl) (pend_by (by kernel_rfl) (pend_by (by kernel_rfl) (pend_by (by kernel_rfl) (pend_by (by kernel_rfl) (pend_by (by kernel_rfl) pend_nil)))))))))))))))))))))))))))))))))))))))) <| Dv.skipb rfl ⟨_, _, rfl, rfl, .inl rfl⟩ (fun _ => pend_bits (by kernel_rfl)) <| sk rfl rfl <| sk rfl rfl <| sk rfl rfl <| pt0 rfl rfl rfl <| .fin <| WP.cond rfl (fun _ => ?_) nofun
  refine WP.seq <| rg 1 0 <| as0 rfl rfl <| .fin ?_
  replace H := Gets.outr H
  obtain rfl := Gets.out H
  exact rt i2 rfl () 6 [0,1,2,3,4,5] 6 (.cons (res_tmp rfl) .nil)
 replace H := Gets.cf H c1603
 refine mvg rfl rfl rfl <| mvg rfl rfl rfl <| mvg rfl rfl rfl <| lds 5 rfl (gg rfl) rfl sg28 rfl rfl <| mvg rfl rfl rfl <| el H fun t1605 h1606 H => Dv.callx (pre := [VView.O g1558 (t1556.1.getD default)]) (F := [own strK g1588.1 t1586, own strK g1581.1 t1579, own strK g1578.1 t1576, own strK g1575.1 t1573, blk b1559 28 (RView.enc t1556.2)] ++ F) (fun _ : Unit => [VView.O g1558 (t1556.1.getD default), own strK g1588.1 t1586, own strK g1581.1 t1579, own strK g1578.1 t1576, own strK g1575.1 t1573, blk b1559 28 (RView.enc t1556.2)] ++ F) rfl (gg rfl) cal45 rfl (view_View_Friends.c h1606 (p0_ := g1558)) (perm_to (L := [VView.O g1558 (t1556.1.getD default), own strK g1588.1 t1586, own strK g1581.1 t1579, own strK g1578.1 t1576, own strK g1575.1 t1573, blk b1559 28 (RView.enc t1556.2)]) (F := F) [0, 1, 2, 3, 4, 5] (by kernel_rfl) rfl rfl) rfl (fun _ => pendc (pend_in (fun _ => trivial) (pend_in (fun _ => (mem_at 5 rfl)) (pend_by (by kernel_rfl) (pend_by (by kernel_rfl) (pend_by (by kernel_rfl) (pend_by (by kernel_rfl) (pend_by (by kernel_rfl) (pend_by (by kernel_rfl) (pend_by (by kernel_rfl) (pend_by (by kernel_rfl) (pend_by (by kernel_rfl) (pend_by (by kernel_rfl) (pend_by (by kernel_rfl) (pend_by (by kernel_rfl) (pend_by (by kernel_rfl) (pend_by (by kernel_rfl) (pend_by (by kernel_rfl) (pend_by (by kernel_rfl) (pend_by (by kernel_rfl) (pend_by (by kernel_rfl) (pend_by (by kernel_rfl) (pend_by (by kernel_rfl) (pend_by (by kernel_rfl) (pend_by (by kernel_rfl) (pend_by (by kernel_rfl) (pend_by (by kernel_rfl) (pend_by (by kernel_rfl) (pend_by (by kernel_rfl) (pend_by (by kernel_rfl) (pend_by (by kernel_rfl) (pend_by (by kernel_rfl) (pend_by (by kernel_rfl) (pend_by (by kernel_rfl) (pend_by (by kernel_rfl) (pend_by (by kernel_rfl) (pend_by (by kernel_rfl) (pend_by (by kernel_rfl) (pend_by (by kernel_rfl) (pend_by (by kernel_rfl) pend_nil)))))))))))))))))))))))))))))))))))))))) (fun _ _ => ?_)
 refine el H fun t1607 h1608 H => cx 6 [0,1,2,3,4,5] cal43 (concourseref10_RoomsOf.c h1608) pC fun g1609 _ => ?_
 refine Dv.lenw rfl (gg rfl) rfl (mem_at 0 rfl) Tryz.underlying31 <| bng rfl rfl rfl rfl run_gt <| bng rfl rfl rfl rfl (run_bne Tryz.underlying4) <| pf0 rfl rfl rfl <| .fin <| cd H rfl (fun _ H => ?_) (fun _ H => ?_)
 ·
  refine WP.seq <| rg 1 0 <| as0 rfl rfl <| .fin ?_
  replace H := Gets.outr H
  obtain rfl := Gets.out H
  exact rt i2 rfl () 7 [0,1,2,3,4,5,6] 7 (.cons (res_tmp rfl) .nil)
 refine WP.skip <| WP.seq <| rg 20 16400 <| mv0 rfl rfl <| mv0 rfl rfl <| mv0 rfl rfl <| el H fun t1611 h1612 H => cl rfl cal39 rfl (concourseref01_ServerOf.c h1612) <| el H fun t1613 h1614 H => cx 7 [1,0,2,3,4,5,6] cal47 (view_View_Shares.c h1614 (p0_ := g1558)) nofun fun _ _ => ?_
 refine mv0 rfl rfl <| mv0 rfl rfl <| el H fun t1615 h1616 H => cl rfl cal39 rfl (concourseref01_ServerOf.c h1616) <| el H fun t1617 h1618 H => cll (B := [own strK g1575.1 t1573]) 7 [5,0,1,2,3,4,6] cal40 (Pt.lend _ (concourseref09_Has.c h1618) (.cons (lt_own (mem_at 0 rfl)) (.cons lt_id .nil)) flat_eq) ?_
 refine bn0 rfl rfl rfl (run_bne Tryz.underlying4) <| mv0 rfl rfl ?_
 cases c1619 : (t1613 != t1617)
 rotate_left
 ·
  replace H := Gets.ct H c1619
  refine sk rfl rfl <| sk rfl rfl <| sk rfl rfl <| Dv.skipb rfl ⟨_, _, rfl, rfl, .inl rfl⟩ nofun <| sk rfl rfl <| sk rfl rfl <| sk rfl rfl <| sk rfl rfl <| pt0 rfl rfl rfl <| .fin <| WP.cond rfl (fun _ => ?_) nofun
  refine WP.seq <| rg 1 0 <| as0 rfl rfl <| .fin ?_
  replace H := Gets.outr H
  obtain rfl := Gets.out H
  exact rt i2 rfl () 7 [0,1,2,3,4,5,6] 7 (.cons (res_tmp rfl) .nil)
 replace H := Gets.cf H c1619
 refine mvg rfl rfl rfl <| mvg rfl rfl rfl <| mvg rfl rfl rfl <| el H fun t1621 h1622 H => cx 7 [0,1,2,3,4,5,6] cal47 (view_View_Shares.c h1622 (p0_ := g1558)) nofun fun _ _ => ?_
 refine mvg rfl rfl rfl <| mvg rfl rfl rfl <| el H fun t1623 h1624 H => cll (B := [own strK g1575.1 t1573]) 7 [5,0,1,2,3,4,6] cal40 (Pt.lend _ (concourseref09_Has.c h1624) (.cons (lt_own (mem_at 0 rfl)) (.cons lt_id .nil)) flat_eq) ?_
 refine bng rfl rfl rfl rfl (run_bne Tryz.underlying4) <| pf0 rfl rfl rfl <| .fin <| cd H rfl (fun _ H => ?_) (fun _ H => ?_)
 ·
  refine WP.seq <| rg 1 0 <| as0 rfl rfl <| .fin ?_
  replace H := Gets.outr H
  obtain rfl := Gets.out H
  exact rt i2 rfl () 7 [0,1,2,3,4,5,6] 7 (.cons (res_tmp rfl) .nil)
 refine WP.skip <| rg 3 0 <| mv0 rfl rfl <| bn0 rfl rfl rfl run_add <| as0 rfl rfl <| .fin <| ng (sg 7 [1,2,3,4,5,6,0] 5) fun _ _ => ?_
 exact bk j1627 (w64 (x1566 + 1)) H
end Go.Proofs.YtigmkniiojpdiaaGreat
