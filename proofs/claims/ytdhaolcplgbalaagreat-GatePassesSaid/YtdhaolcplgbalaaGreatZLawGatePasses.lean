/- The walks. -/
import Derived.Test.YtdhaolcplgbalaaGreatZWalks2
import Derived.Test.YtdhaolcplgbalaaGreatConQ
import Derived.Test.YtdhaolcplgbalaaGreatConA5
import Derived.Eval
set_option linter.all false
set_option maxRecDepth 10000
set_option maxHeartbeats 20000000
namespace Go.Proofs.YtdhaolcplgbalaaGreat
open Go Go.Sp
theorem concourselaw16_GatePasses.c {k : Nat} {a0 : List GMade} {a1 : List GMade} {a2 : Edu} {a3 : ByteArray} {r : Bool} (h : concourselaw16_GatePasses.f k a0 a1 a2 a3 = some r) : Pt Tryz.prog 4 [sl GMade.K a0, sl GMade.K a1, agg (Edu.enc a2), vS a3] (vB r) := by
 unfold concourselaw16_GatePasses.f at h
 refine (Tr.body Tryz.func4 (c := _) rfl Tryz.ntmps4 (Nat.le_of_ble_eq_true rfl) fun R0 F => ?_).pt
 replace h := Gets.of h
 have H := h
 clear h
 refine WP.seq <| rg 2 1 <| Dv.box rfl trivial rfl cA nofun fun b1516 => as0 rfl rfl <| .fin <| WP.seq <| rg 9 324 <| mv0 rfl rfl <| mv0 rfl rfl <| el H fun t1517 h1518 H => cx 1 [0] cal9 (concourselaw16_build.c h1518) nofun fun g1519 _ => ?_
 refine mv0 rfl rfl <| ex0 rfl trivial rfl rfl <| ex0 rfl trivial rfl rfl <| al rfl trivial zc28 nofun fun b1520 => as0 rfl rfl <| sx 0 rfl trivial rfl rfl cA sz28 rfl rfl rfl nofun ?_
 refine .fin <| WP.seq <| WP.seq <| rg 2 0 <| mv0 rfl rfl <| Dv.oeq0 (fun _ => VView.nn) rfl trivial rfl rfl Tryz.underlying25 (mem_at 1 rfl) <| .fin <| cd H rfl (fun _ H => ?_) (fun c1521 H => ?_)
 ·
  refine WP.seq <| rg 1 0 <| as0 rfl rfl <| .fin ?_
  obtain rfl := Gets.out H
  exact rt i2 rfl () 3 [0,1,2] 3 (.cons (res_tmp rfl) .nil)
 refine wg (opt_some 1 rfl c1521) fun _ _ => ?_
 refine WP.skip <| WP.seq <| rg 3 0 <| lds 2 rfl trivial rfl sg24 rfl rfl <| el H fun t1522 h1523 H => cl rfl cal10 rfl (concourselaw16_some.c h1523) <| as0 rfl rfl <| .fin <| WP.seq <| rg 7 0 <| el H fun t1524 h1525 H => cl rfl cal11 rfl (concourseref01_ServerOf.c h1525) <| el H fun t1526 h1527 H => cl rfl cal11 rfl (concourseref01_ServerOf.c h1527) <| el H fun t1528 h1529 H => cl rfl cal11 rfl (concourseref01_ServerOf.c h1529) <| mv0 rfl rfl <| el H fun t1530 h1531 H => cl rfl cal12 rfl (concourseref01_Few.c h1531) <| Dv.lit strK ([t1524, t1526, t1528, t1530, (⟨#[]⟩ : ByteArray)] : List ByteArray) (css := [[vS t1524], [vS t1526], [vS t1528], [vS t1530], [vS (⟨#[]⟩ : ByteArray)]]) rfl trivial Tryz.underlying35 Tryz.underlying9 c9 z9 rfl (by decide) (by decide) rfl ⟨(cells_one (one_eq rfl)), ⟨(cells_one (one_eq rfl)), ⟨(cells_one (one_eq rfl)), ⟨(cells_one (one_eq rfl)), ⟨(cells_one (one_eq rfl)), trivial⟩⟩⟩⟩⟩ rfl rfl rfl <| as0 rfl rfl <| .fin <| WP.seqr H id (fun p1532 : Int × Bool => [(0, sl GMade.K a0), (1, sl GMade.K a1), (2, agg (Edu.enc a2)), (3, vS a3), (6, eq (.pointer (some ⟨b1516, 0, none⟩))), (8, vB false), (9, eq g1519.1), (10, eq (.pointer (some ⟨b1520, 0, none⟩))), (11, sl Edu.K t1522), (12, sl strK ([t1524, t1526, t1528, t1530, (⟨#[]⟩ : ByteArray)] : List ByteArray)), (13, vI p1532.1), (22, vB t1517.1.isNone), (34, vB p1532.2)]) (fun p1532 : Int × Bool => [blk b1520 28 (RView.enc t1517.2), blk b1516 24 (Edu.enc a2), VView.O g1519 (t1517.1.getD default)] ++ F) (fun p1532 H => ?_) (fun H => ?_)
 ·
  refine WP.seq <| rg 2 0 <| el H fun t1533 h1534 H => cl rfl cal15 rfl (concourselaw16_lives.c h1534) <| as0 rfl rfl <| .fin ?_
  obtain rfl := Gets.out H
  exact rt i2 rfl () 3 [0,1,2] 3 (.cons (res_tmp rfl) .nil)
 refine WP.seq <| rg 1 0 <| as0 rfl rfl <| .fin <| WP.block <| wg (sg 3 [1,2,0] 0) fun _ _ => ?_
 refine lp (fun j_ (p1566 : Int) => concourselaw16_GatePasses.l0 k t1517 t1522 t1524 t1526 t1528 t1530 j_ p1566) 0 H (fun p1566 => [(0, sl GMade.K a0), (1, sl GMade.K a1), (2, agg (Edu.enc a2)), (3, vS a3), (6, eq (.pointer (some ⟨b1516, 0, none⟩))), (8, vB false), (9, eq g1519.1), (10, eq (.pointer (some ⟨b1520, 0, none⟩))), (11, sl Edu.K t1522), (12, sl strK ([t1524, t1526, t1528, t1530, (⟨#[]⟩ : ByteArray)] : List ByteArray)), (13, vI p1566), (22, vB t1517.1.isNone)]) (fun p1566 => [blk b1520 28 (RView.enc t1517.2), blk b1516 24 (Edu.enc a2), VView.O g1519 (t1517.1.getD default)] ++ F) ?_
 rintro j_ x1535 H
 rcases j_ with _ | j1565
 ·
  exact (Gets.no H).elim
 replace H : Gets (concourselaw16_GatePasses.l0 k t1517 t1522 t1524 t1526 t1528 t1530 (j1565 + 1) x1535) _ := H
 rw [concourselaw16_GatePasses.l0] at H
 refine WP.seq <| WP.seq <| rg 4 0 <| mv0 rfl rfl <| mv0 rfl rfl <| Dv.lenl rfl trivial rfl Tryz.underlying31 <| bn0 rfl rfl rfl run_lt <| .fin <| cd H rfl (fun _ H => ?_) (fun _ H => ?_)
 rotate_left
 ·
  refine WP.exit ?_
  replace H := Gets.out H
  exact jn (x1535, decide (x1535 < (t1522.length : Int))) H
 refine WP.skip <| WP.seqr H id (fun p1537 : Int × Bool => [(0, sl GMade.K a0), (1, sl GMade.K a1), (2, agg (Edu.enc a2)), (3, vS a3), (6, eq (.pointer (some ⟨b1516, 0, none⟩))), (8, vB false), (9, eq g1519.1), (10, eq (.pointer (some ⟨b1520, 0, none⟩))), (11, sl Edu.K t1522), (12, sl strK ([t1524, t1526, t1528, t1530, (⟨#[]⟩ : ByteArray)] : List ByteArray)), (13, vI x1535), (14, vI p1537.1), (22, vB t1517.1.isNone), (34, vB (decide (x1535 < (t1522.length : Int)))), (40, vB p1537.2)]) (fun p1537 : Int × Bool => [blk b1520 28 (RView.enc t1517.2), blk b1516 24 (Edu.enc a2), VView.O g1519 (t1517.1.getD default)] ++ F) (fun p1537 H => ?_) (fun H => ?_)
 ·
  exact rg 3 0 <| mv0 rfl rfl <| bn0 rfl rfl rfl run_add <| as0 rfl rfl <| .fin <| bk j1565 (w64 (x1535 + 1)) H
 refine WP.block <| WP.seq <| rg 1 0 <| as0 rfl rfl <| .fin <| WP.block <| wg (sg 3 [0,1,2] 0) fun _ _ => ?_
 refine lp (fun j_ (p1564 : Int) => concourselaw16_GatePasses.l1 k t1517 t1522 t1524 t1526 t1528 t1530 x1535 j_ p1564) 0 H (fun p1564 => [(0, sl GMade.K a0), (1, sl GMade.K a1), (2, agg (Edu.enc a2)), (3, vS a3), (6, eq (.pointer (some ⟨b1516, 0, none⟩))), (8, vB false), (9, eq g1519.1), (10, eq (.pointer (some ⟨b1520, 0, none⟩))), (11, sl Edu.K t1522), (12, sl strK ([t1524, t1526, t1528, t1530, (⟨#[]⟩ : ByteArray)] : List ByteArray)), (13, vI x1535), (14, vI p1564), (22, vB t1517.1.isNone), (34, vB (decide (x1535 < (t1522.length : Int))))]) (fun p1564 => [blk b1520 28 (RView.enc t1517.2), blk b1516 24 (Edu.enc a2), VView.O g1519 (t1517.1.getD default)] ++ F) ?_
 rintro j_ x1538 H
 rcases j_ with _ | j1563
 ·
  exact (Gets.no H).elim
 replace H : Gets (concourselaw16_GatePasses.l1 k t1517 t1522 t1524 t1526 t1528 t1530 x1535 (j1563 + 1) x1538) _ := H
 rw [concourselaw16_GatePasses.l1] at H
 refine WP.seq <| WP.seq <| rg 4 0 <| mv0 rfl rfl <| mv0 rfl rfl <| Dv.lenl rfl trivial rfl Tryz.underlying35 <| bn0 rfl rfl rfl run_lt <| .fin <| cd H rfl (fun _ H => ?_) (fun _ H => ?_)
 rotate_left
 ·
  refine WP.exit ?_
  replace H := Gets.out H
  exact jn (x1538, decide (x1538 < (([t1524, t1526, t1528, t1530, (⟨#[]⟩ : ByteArray)] : List ByteArray).length : Int))) H
 refine WP.skip <| WP.seq <| WP.block <| WP.seq <| dgo Tryz.checked.mixed [0, 1, 2, 3, 4, 5, 6, 7, 8, 10, 11, 12, 13, 14, 15, 16, 17, 18, 9, 19, 20, 21, 22, 23, 24, 25, 26, 27, 28, 29, 30, 32, 33, 34, 35, 36, 37, 38, 39, 40, 31, 41, 42, 43, 44] [9, 31, 41] <| mv0 rfl rfl <| mv0 rfl rfl <| mv0 rfl rfl <| gr H fun g1540 H => Dv.ixr rfl trivial rfl rfl Tryz.underlying35 Tryz.underlying9 c9 g1540.1 g1540.2 <| ldR rfl trivial rfl sc9 rfl <| mv0 rfl rfl <| mv0 rfl rfl <| gr H fun g1541 H => Dv.ixr rfl trivial rfl rfl Tryz.underlying31 Tryz.underlying24 c24 g1541.1 g1541.2 <| ldsR rfl trivial rfl sg24 rfl <| lds 0 rfl trivial rfl sg28 rfl rfl <| mv0 rfl rfl <| mv0 rfl rfl <| gr H fun g1542 H => Dv.ixr rfl trivial rfl rfl Tryz.underlying35 Tryz.underlying9 c9 g1542.1 g1542.2 <| ldR rfl trivial rfl sc9 rfl <| mv0 rfl rfl <| mv0 rfl rfl <| gr H fun g1543 H => Dv.ixr rfl trivial rfl rfl Tryz.underlying31 Tryz.underlying24 c24 g1543.1 g1543.2 <| ldsR rfl trivial rfl sg24 rfl <| el H fun t1544 h1545 H => Dv.callx (pre := [VView.O g1519 (t1517.1.getD default)]) (F := [blk b1520 28 (RView.enc t1517.2), blk b1516 24 (Edu.enc a2)] ++ F) (fun _ : Unit => [VView.O g1519 (t1517.1.getD default), blk b1520 28 (RView.enc t1517.2), blk b1516 24 (Edu.enc a2)] ++ F) rfl trivial cal16 rfl (gate_Passes.c h1545 (p0_ := g1519)) (perm_to (L := [blk b1520 28 (RView.enc t1517.2), blk b1516 24 (Edu.enc a2), VView.O g1519 (t1517.1.getD default)]) (F := F) [2, 0, 1] rfl rfl rfl) rfl (fun _ => pendc (pend_in (fun _ => trivial) (pend_in (fun _ => trivial) (pend_in (fun _ => trivial) (pend_in (fun _ => trivial) (pend_in (fun _ => trivial) (pend_in (fun _ => trivial) (pend_in (fun _ => trivial) (pend_in (fun _ => trivial) (pend_in (fun _ => (mem_at 1 rfl)) (pend_by (by kernel_rfl) (pend_by (by kernel_rfl) (pend_by (by kernel_rfl) (pend_by (by kernel_rfl) (pend_by (by kernel_rfl) (pend_by (by kernel_rfl) (pend_by (by kernel_rfl) (pend_by (by kernel_rfl) (pend_by (by kernel_rfl) pend_nil))))))))))))))))))) (fun _ _ => ?_)
 refine el H fun t1546 h1547 H => cl rfl cal17 rfl (concourseref16_Passes.c h1547) <| bn0 rfl rfl rfl (run_bne Tryz.underlying4) <| mv0 rfl rfl ?_
 cases c1548 : (t1544 != t1546)
 rotate_left
 ·
  replace H := Gets.ct H c1548
  refine sk rfl rfl <| sk rfl rfl <| sk rfl rfl <| sk rfl rfl <| sk rfl rfl <| sk rfl rfl <| sk rfl rfl <| sk rfl rfl <| sk rfl rfl <| sk rfl rfl <| sk rfl rfl <| sk rfl rfl <| sk rfl rfl <| sk rfl rfl <| sk rfl rfl <| sk rfl rfl <| sk rfl rfl <| sk rfl rfl <| Dv.skipb rfl ⟨_, _, rfl, rfl, .inl rfl⟩ (fun _ => (pend_in (fun _ => trivial) (pend_in (fun _ => trivial) (pend_in (fun _ => trivial) (pend_in (fun _ => trivial) (pend_in (fun _ => trivial) (pend_in (fun _ => trivial) (pend_in (fun _ => trivial) (pend_in (fun _ => trivial) (pend_in (fun _ => trivial) (pend_by (by kernel_rfl) (pend_by (by kernel_rfl) (pend_by (by kernel_rfl) (pend_by (by kernel_rfl) (pend_by (by kernel_rfl) (pend_by (by kernel_rfl) (pend_by (by kernel_rfl) (pend_by (by kernel_rfl) (pend_by (by kernel_rfl) (pend_by (by kernel_rfl) (pend_by (by kernel_rfl) (pend_by (by kernel_rfl) (pend_by (by kernel_rfl) (pend_by (by kernel_rfl) (pend_by (by kernel_rfl) (pend_by (by kernel_rfl) (pend_by (by kernel_rfl) (pend_by (by kernel_rfl) (pend_by (by kernel_rfl) (pend_by (by kernel_rfl) (pend_by (by kernel_rfl) (pend_by (by kernel_rfl) (pend_by (by kernel_rfl) (pend_by (by kernel_rfl) (pend_by (by kernel_rfl) (pend_by (by kernel_rfl) (pend_by (by kernel_rfl) (pend_by (by kernel_rfl) (pend_by (by kernel_rfl) (pend_by (by kernel_rfl) pend_nil)))))))))))))))))))))))))))))))))))))))) <| Dv.skipb rfl ⟨_, _, rfl, rfl, .inl rfl⟩ (fun _ => pend_bits (by kernel_rfl)) <| sk rfl rfl <| sk rfl rfl <| pt0 rfl rfl rfl <| .fin <| WP.cond rfl (fun _ => ?_) nofun
  refine WP.seq <| rg 1 0 <| as0 rfl rfl <| .fin ?_
  replace H := Gets.outr H
  replace H := Gets.outr H
  obtain rfl := Gets.out H
  exact rt i2 rfl () 3 [0,1,2] 3 (.cons (res_tmp rfl) .nil)
 replace H := Gets.cf H c1548
 refine mvg rfl rfl rfl <| mvg rfl rfl rfl <| mvg rfl rfl rfl <| gr H fun g1550 H => Dv.ixr rfl (gg rfl) rfl rfl Tryz.underlying35 Tryz.underlying9 c9 g1550.1 g1550.2 <| ldR rfl (gg rfl) rfl sc9 rfl <| mvg rfl rfl rfl <| mvg rfl rfl rfl <| gr H fun g1551 H => Dv.ixr rfl (gg rfl) rfl rfl Tryz.underlying31 Tryz.underlying24 c24 g1551.1 g1551.2 <| ldsR rfl (gg rfl) rfl sg24 rfl <| lds 1 rfl (gg rfl) rfl sg28 rfl rfl <| mvg rfl rfl rfl <| mvg rfl rfl rfl <| gr H fun g1552 H => Dv.ixr rfl (gg rfl) rfl rfl Tryz.underlying35 Tryz.underlying9 c9 g1552.1 g1552.2 <| ldR rfl (gg rfl) rfl sc9 rfl <| mvg rfl rfl rfl <| mvg rfl rfl rfl <| gr H fun g1553 H => Dv.ixr rfl (gg rfl) rfl rfl Tryz.underlying31 Tryz.underlying24 c24 g1553.1 g1553.2 <| ldsR rfl (gg rfl) rfl sg24 rfl <| el H fun t1554 h1555 H => Dv.callx (pre := [VView.O g1519 (t1517.1.getD default)]) (F := [blk b1520 28 (RView.enc t1517.2), blk b1516 24 (Edu.enc a2)] ++ F) (fun g1556 : OV => [VView.O g1519 (t1517.1.getD default), own strK g1556.1 t1554, blk b1520 28 (RView.enc t1517.2), blk b1516 24 (Edu.enc a2)] ++ F) rfl (gg rfl) cal19 rfl (gate_Targets.c h1555 (p0_ := g1519)) (perm_to (L := [VView.O g1519 (t1517.1.getD default), blk b1520 28 (RView.enc t1517.2), blk b1516 24 (Edu.enc a2)]) (F := F) [0, 1, 2] rfl rfl rfl) rfl (fun _ => pendc (pend_in (fun _ => trivial) (pend_in (fun _ => trivial) (pend_in (fun _ => trivial) (pend_in (fun _ => trivial) (pend_in (fun _ => trivial) (pend_in (fun _ => trivial) (pend_in (fun _ => trivial) (pend_in (fun _ => trivial) (pend_in (fun _ => (mem_at 2 rfl)) (pend_by (by kernel_rfl) (pend_by (by kernel_rfl) (pend_by (by kernel_rfl) (pend_by (by kernel_rfl) (pend_by (by kernel_rfl) (pend_by (by kernel_rfl) (pend_by (by kernel_rfl) (pend_by (by kernel_rfl) (pend_by (by kernel_rfl) (pend_by (by kernel_rfl) (pend_by (by kernel_rfl) (pend_by (by kernel_rfl) (pend_by (by kernel_rfl) (pend_by (by kernel_rfl) (pend_by (by kernel_rfl) (pend_by (by kernel_rfl) (pend_by (by kernel_rfl) (pend_by (by kernel_rfl) (pend_by (by kernel_rfl) (pend_by (by kernel_rfl) (pend_by (by kernel_rfl) (pend_by (by kernel_rfl) (pend_by (by kernel_rfl) (pend_by (by kernel_rfl) (pend_by (by kernel_rfl) (pend_by (by kernel_rfl) (pend_by (by kernel_rfl) (pend_by (by kernel_rfl) (pend_by (by kernel_rfl) (pend_by (by kernel_rfl) pend_nil)))))))))))))))))))))))))))))))))))))))) (fun g1556 _ => ?_)
 refine el H fun t1557 h1558 H => cx 4 [0,1,2,3] cal20 (concourseref16_Targets.c h1558) pC fun g1559 _ => ?_
 refine el H fun t1560 h1561 H => cll (B := [own strK g1556.1 t1554, own strK g1559.1 t1557]) 5 [2,0,1,3,4] cal18 (Pt.lend _ (concourseref01_SameTexts.c h1561) (.cons (lt_own (mem_at 0 rfl)) (.cons (lt_own (mem_at 1 rfl)) .nil)) flat_eq) ?_
 refine ung rfl rfl rfl (run_not _) <| pf0 rfl rfl rfl <| .fin <| cd H rfl (fun _ H => ?_) (fun _ H => ?_)
 rotate_left
 ·
  refine WP.skip <| rg 3 0 <| mv0 rfl rfl <| bn0 rfl rfl rfl run_add <| as0 rfl rfl <| .fin <| ng (sg 5 [0,2,3,4,1] 2) fun _ _ => ?_
  exact bk j1563 (w64 (x1538 + 1)) H
 refine WP.seq <| rg 1 0 <| as0 rfl rfl <| .fin ?_
 replace H := Gets.outr H
 replace H := Gets.outr H
 obtain rfl := Gets.out H
 exact rt i2 rfl () 5 [0,1,2,3,4] 5 (.cons (res_tmp rfl) .nil)
end Go.Proofs.YtdhaolcplgbalaaGreat
