/- The walks. -/
import Derived.Test.YtdhaolcplgbalaaGreatZWalks2
import Derived.Test.YtdhaolcplgbalaaGreatConQ
import Derived.Test.YtdhaolcplgbalaaGreatConA5
import Derived.Eval
set_option linter.all false
set_option maxRecDepth 10000
set_option maxHeartbeats 20000000
namespace Go.Proofs.YtdhaolcplgbalaaGreat
open Go Go.Sp
theorem concourselaw16_GateChooses.c {k : Nat} {a0 : List GMade} {a1 : List GMade} {a2 : List Edu} {a3 : Int} {r : Bool} (h : concourselaw16_GateChooses.f k a0 a1 a2 a3 = some r) : Pt Tryz.prog 5 [sl GMade.K a0, sl GMade.K a1, sl Edu.K a2, vI a3] (vB r) := by
 unfold concourselaw16_GateChooses.f at h
 refine (Tr.body Tryz.func5 (c := _) rfl Tryz.ntmps5 (Nat.le_of_ble_eq_true rfl) fun R0 F => ?_).pt
 replace h := Gets.of h
 have H := h
 clear h
 refine WP.seq <| rg 1 0 <| as0 rfl rfl <| .fin <| WP.seq <| rg 9 324 <| mv0 rfl rfl <| mv0 rfl rfl <| el H fun t1646 h1647 H => cx 0 [] cal9 (concourselaw16_build.c h1647) nofun fun g1648 _ => ?_
 refine mv0 rfl rfl <| ex0 rfl trivial rfl rfl <| ex0 rfl trivial rfl rfl <| al rfl trivial zc28 nofun fun b1649 => as0 rfl rfl <| sx 0 rfl trivial rfl rfl cA sz28 rfl rfl rfl nofun ?_
 refine .fin <| WP.seq <| WP.seq <| rg 2 0 <| mv0 rfl rfl <| Dv.oeq0 (fun _ => VView.nn) rfl trivial rfl rfl Tryz.underlying25 (mem_at 1 rfl) <| .fin <| cd H rfl (fun _ H => ?_) (fun c1650 H => ?_)
 ·
  refine WP.seq <| rg 1 0 <| as0 rfl rfl <| .fin ?_
  obtain rfl := Gets.out H
  exact rt i2 rfl () 2 [0,1] 2 (.cons (res_tmp rfl) .nil)
 refine wg (opt_some 1 rfl c1650) fun _ _ => ?_
 refine WP.skip <| WP.seq <| rg 1 0 <| as0 rfl rfl <| .fin <| WP.seqn H (fun q1685 : (Int × Bool × (List Edu)) × OV => q1685.1) (fun q1685 : (Int × Bool × (List Edu)) × OV => [(0, sl GMade.K a0), (1, sl GMade.K a1), (2, sl Edu.K a2), (3, vI a3), (8, vB false), (9, eq g1648.1), (10, eq (.pointer (some ⟨b1649, 0, none⟩))), (11, eq q1685.2.1), (12, vI q1685.1.1), (22, vB t1646.1.isNone), (30, vB q1685.1.2.1)]) (fun q1685 : (Int × Bool × (List Edu)) × OV => [blk b1649 28 (RView.enc t1646.2), VView.O g1648 (t1646.1.getD default), own Edu.K q1685.2.1 q1685.1.2.2] ++ F) (fun q1685 H => ?_) (fun H => ?_)
 rotate_left
 ·
  refine WP.seq <| rg 1 0 <| as0 rfl rfl <| .fin <| WP.block <| wg (st_nil Edu.K none) fun _ _ => ?_
  refine wg (sg 3 [2,1,0] 0) fun _ _ => ?_
  refine lp (fun j_ (p1684 : Int × (List Edu) × OV) => concourselaw16_GateChooses.l0 k a2 j_ p1684.1 p1684.2.1) (0, ([] : List Edu), nilV) H (fun p1684 => [(0, sl GMade.K a0), (1, sl GMade.K a1), (2, sl Edu.K a2), (3, vI a3), (8, vB false), (9, eq g1648.1), (10, eq (.pointer (some ⟨b1649, 0, none⟩))), (11, eq p1684.2.2.1), (12, vI p1684.1), (22, vB t1646.1.isNone)]) (fun p1684 => [blk b1649 28 (RView.enc t1646.2), VView.O g1648 (t1646.1.getD default), own Edu.K p1684.2.2.1 p1684.2.1] ++ F) ?_
  rintro j_ ⟨x1671, x1672, v1673⟩ H
  rcases j_ with _ | j1683
  ·
   exact (Gets.no H).elim
  replace H : Gets (concourselaw16_GateChooses.l0 k a2 (j1683 + 1) x1671 x1672) _ := H
  rw [concourselaw16_GateChooses.l0] at H
  refine WP.seq <| WP.seq <| rg 8 0 <| mv0 rfl rfl <| mv0 rfl rfl <| Dv.lenl rfl trivial rfl Tryz.underlying31 <| bn0 rfl rfl rfl run_lt <| mv0 rfl rfl ?_
  cases c1674 : decide (x1671 < (a2.length : Int))
  ·
   replace H := Gets.cf H c1674
   refine sk rfl rfl <| sk rfl rfl <| pf0 rfl rfl rfl <| .fin <| WP.cond rfl nofun (fun _ => ?_)
   refine WP.exit ?_
   replace H := Gets.out H
   exact jn ((x1671, false, x1672), v1673) H
  replace H := Gets.ct H c1674
  refine mvg rfl rfl rfl <| bng rfl rfl rfl rfl run_lt <| pt0 rfl rfl rfl <| .fin <| cd H rfl (fun _ H => ?_) (fun _ H => ?_)
  rotate_left
  ·
   refine WP.exit ?_
   replace H := Gets.out H
   exact jn ((x1671, decide (x1671 < 8), x1672), v1673) H
  refine WP.skip <| WP.seq <| WP.block <| rg 13 2048 <| mv0 rfl rfl <| mv0 rfl rfl <| mv0 rfl rfl <| gr H fun g1676 H => Dv.ixr rfl trivial rfl rfl Tryz.underlying31 Tryz.underlying24 c24 g1676.1 g1676.2 <| ldsR rfl trivial rfl sg24 rfl <| el H fun t1677 h1678 H => cl rfl cal10 rfl (concourselaw16_some.c h1678) <| mv0 rfl rfl <| bn0 rfl rfl rfl (run_rem (by decide)) <| gr H fun g1679 H => Dv.ixr rfl trivial rfl rfl Tryz.underlying31 Tryz.underlying24 c24 g1679.1 g1679.2 <| ldsR rfl trivial rfl sg24 rfl <| Dv.lit Edu.K ([Edu.K.at t1677 (x1671.tmod 2)] : List Edu) (css := [Edu.enc (Edu.K.at t1677 (x1671.tmod 2))]) rfl trivial Tryz.underlying31 Tryz.underlying24 c24 z24 rfl (by decide) (by decide) rfl ⟨(cells_agg (Edu.K.one _)), trivial⟩ rfl rfl rfl <| gr H fun g1680 H => ap Edu.K 2 ([Edu.K.at t1677 (x1671.tmod 2)] : List Edu) src_sl Tryz.underlying31 (.inr ⟨_, Tryz.underlying31⟩) inf24 g1680 nofun fun v1681 => ?_
  exact as0 rfl rfl <| .fin <| rg 3 0 <| mv0 rfl rfl <| bn0 rfl rfl rfl run_add <| as0 rfl rfl <| .fin <| bk j1683 (w64 (x1671 + 1), x1672 ++ ([Edu.K.at t1677 (x1671.tmod 2)] : List Edu), v1681) H
 obtain ⟨p1651, v1652⟩ := q1685
 refine WP.seq <| rg 1 0 <| as0 rfl rfl <| .fin <| WP.seq <| rg 4 4 <| mv0 rfl rfl <| mv0 rfl rfl <| vg (st_nil Edu.K none) fun _ _ => ?_
 refine gr H fun g1653 H => ap Edu.K 0 p1651.2.2 (src_own (mem_at 3 rfl)) Tryz.underlying31 (.inr ⟨_, Tryz.underlying31⟩) inf24 g1653 nofun fun v1654 => ?_
 refine as0 rfl rfl <| .fin <| WP.seq <| rg 3 0 <| mv0 rfl rfl <| el H fun t1655 h1656 H => cl rfl cal11 rfl (concourseref01_ServerOf.c h1656) <| as0 rfl rfl <| .fin <| WP.seq <| WP.gh (gh_frz (E' := [(0, sl GMade.K a0), (1, sl GMade.K a1), (2, sl Edu.K a2), (3, vI a3), (8, vB false), (9, eq g1648.1), (10, eq (.pointer (some ⟨b1649, 0, none⟩))), (11, sl Edu.K p1651.2.2), (12, vI p1651.1), (13, eq v1654.1), (14, vS t1655), (22, vB t1646.1.isNone), (30, vB p1651.2.1)]) (l' := [own Edu.K v1654.1 (([] : List Edu) ++ p1651.2.2), blk b1649 28 (RView.enc t1646.2), VView.O g1648 (t1646.1.getD default)] ++ F) 3 rfl (cve_cons rfl cv_id (cve_cons rfl cv_id (cve_cons rfl cv_id (cve_cons rfl cv_id (cve_cons rfl cv_id (cve_cons rfl cv_id (cve_cons rfl cv_id (cve_cons rfl cv_eq (cve_cons rfl cv_id (cve_cons rfl cv_id (cve_cons rfl cv_id (cve_cons rfl cv_id (cve_cons rfl cv_id cve_nil))))))))))))) (all2_app (.cons cva_id (.cons cva_id (.cons cva_id .nil))) fun _ => cva_id)) (fun _ _ => ?_)
 refine dgo Tryz.checked.mixed [0, 1, 2, 4, 5, 6, 3, 7, 8, 9, 10, 11, 12, 13, 14, 15, 16, 17] [3, 7] <| mv0 rfl rfl <| mv0 rfl rfl <| mv0 rfl rfl <| lds 1 rfl trivial rfl sg28 rfl rfl <| mv0 rfl rfl <| mv0 rfl rfl <| el H fun t1657 h1658 H => Dv.callx (pre := [VView.O g1648 (t1646.1.getD default)]) (F := [own Edu.K v1654.1 (([] : List Edu) ++ p1651.2.2), blk b1649 28 (RView.enc t1646.2)] ++ F) (fun g1659 : OV => [VView.O g1648 (t1646.1.getD default), own Edu.K g1659.1 t1657, own Edu.K v1654.1 (([] : List Edu) ++ p1651.2.2), blk b1649 28 (RView.enc t1646.2)] ++ F) rfl trivial cal22 rfl (gate_Choose.c h1658 (p0_ := g1648)) (perm_to (L := [own Edu.K v1654.1 (([] : List Edu) ++ p1651.2.2), blk b1649 28 (RView.enc t1646.2), VView.O g1648 (t1646.1.getD default)]) (F := F) [2, 0, 1] rfl rfl rfl) rfl (fun _ => pendc (pend_in (fun _ => trivial) (pend_in (fun _ => trivial) (pend_in (fun _ => (mem_at 3 rfl)) (pend_by (by kernel_rfl) (pend_by (by kernel_rfl) (pend_by (by kernel_rfl) pend_nil))))))) (fun g1659 _ => ?_)
 refine el H fun t1660 h1661 H => cx 4 [2,0,1,3] cal23 (Tr.lend [own Edu.K v1654.1 (([] : List Edu) ++ p1651.2.2)] (concourseref16_Choose.c h1661) (.cons lt_id (.cons lt_id (.cons (lt_own (mem_at 0 rfl)) .nil))) (fun _ => flat_eq) (fun _ => (flatAs_cons (flatA_own (fun _ => (flats_cons flat_eq (flats_cons flat_eq (flats_cons flat_eq (flats_cons flat_eq (flats_cons flat_eq (flats_cons flat_eq (flats_cons flat_eq (flats_cons flat_eq (flats_cons flat_eq (flats_cons flat_eq (flats_cons flat_eq flats_nil))))))))))))) flatAs_nil))) pC fun g1662 _ => ?_
 refine el H fun t1663 h1664 H => cll (B := [own Edu.K g1659.1 t1657, own Edu.K g1662.1 t1660]) 5 [3,1,0,2,4] cal21 (Pt.lend _ (concourseref04_SameEdus.c h1664) (.cons (lt_own (mem_at 0 rfl)) (.cons (lt_own (mem_at 1 rfl)) .nil)) flat_eq) ?_
 refine mv0 rfl rfl ?_
 cases c1665 : t1663
 ·
  replace H := Gets.cf H c1665
  refine sk rfl rfl <| sk rfl rfl <| sk rfl rfl <| pf0 rfl rfl rfl <| mv0 rfl rfl <| sk rfl rfl <| pf0 rfl rfl rfl <| as0 rfl rfl <| .fin ?_
  obtain rfl := Gets.out H
  exact rt i2 rfl () 5 [0,1,2,3,4] 5 (.cons (res_tmp rfl) .nil)
 replace H := Gets.ct H c1665
 refine mvg rfl rfl rfl <| mvg rfl rfl rfl <| el H fun t1666 h1667 H => cll (B := [own Edu.K v1654.1 (([] : List Edu) ++ p1651.2.2)]) 5 [0,1,2,3,4] cal21 (Pt.lend _ (concourseref04_SameEdus.c h1667) (.cons lt_id (.cons (lt_own (mem_at 0 rfl)) .nil)) flat_eq) ?_
 refine pt0 rfl rfl rfl <| mv0 rfl rfl ?_
 cases c1668 : t1666
 ·
  replace H := Gets.cf H c1668
  refine sk rfl rfl <| pf0 rfl rfl rfl <| as0 rfl rfl <| .fin ?_
  obtain rfl := Gets.out H
  exact rt i2 rfl () 5 [0,1,2,3,4] 5 (.cons (res_tmp rfl) .nil)
 replace H := Gets.ct H c1668
 refine el H fun t1669 h1670 H => Dv.call rfl (gg rfl) cal15 rfl (concourselaw16_lives.c h1670) <| pt0 rfl rfl rfl <| as0 rfl rfl <| .fin ?_
 obtain rfl := Gets.out H
 exact rt i2 rfl () 5 [0,1,2,3,4] 5 (.cons (res_tmp rfl) .nil)
end Go.Proofs.YtdhaolcplgbalaaGreat
