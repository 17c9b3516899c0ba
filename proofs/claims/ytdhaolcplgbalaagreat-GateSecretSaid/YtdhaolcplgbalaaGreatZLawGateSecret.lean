/- The walks. -/
import Derived.Test.YtdhaolcplgbalaaGreatZWalks2
import Derived.Test.YtdhaolcplgbalaaGreatConQ
import Derived.Test.YtdhaolcplgbalaaGreatConA5
import Derived.Eval
set_option linter.all false
set_option maxRecDepth 10000
set_option maxHeartbeats 20000000
namespace Go.Proofs.YtdhaolcplgbalaaGreat
open Go Go.Sp
theorem concourselaw16_GateSecret.c {k : Nat} {a0 : List GMade} {a1 : List GMade} {a2 : Edu} {r : Bool} (h : concourselaw16_GateSecret.f k a0 a1 a2 = some r) : Pt Tryz.prog 7 [sl GMade.K a0, sl GMade.K a1, agg (Edu.enc a2)] (vB r) := by
 unfold concourselaw16_GateSecret.f at h
 refine (Tr.body Tryz.func7 (c := _) rfl Tryz.ntmps7 (Nat.le_of_ble_eq_true rfl) fun R0 F => ?_).pt
 replace h := Gets.of h
 have H := h
 clear h
 refine WP.seq <| rg 2 1 <| Dv.box rfl trivial rfl cA nofun fun b1686 => as0 rfl rfl <| .fin <| WP.seq <| rg 9 324 <| mv0 rfl rfl <| mv0 rfl rfl <| el H fun t1687 h1688 H => cx 1 [0] cal9 (concourselaw16_build.c h1688) nofun fun g1689 _ => ?_
 refine mv0 rfl rfl <| ex0 rfl trivial rfl rfl <| ex0 rfl trivial rfl rfl <| al rfl trivial zc28 nofun fun b1690 => as0 rfl rfl <| sx 0 rfl trivial rfl rfl cA sz28 rfl rfl rfl nofun ?_
 refine .fin <| WP.seq <| WP.seq <| rg 2 0 <| mv0 rfl rfl <| Dv.oeq0 (fun _ => VView.nn) rfl trivial rfl rfl Tryz.underlying25 (mem_at 1 rfl) <| .fin <| cd H rfl (fun _ H => ?_) (fun c1691 H => ?_)
 ·
  refine WP.seq <| rg 1 0 <| as0 rfl rfl <| .fin ?_
  obtain rfl := Gets.out H
  exact rt i2 rfl () 3 [0,1,2] 3 (.cons (res_tmp rfl) .nil)
 refine wg (opt_some 1 rfl c1691) fun _ _ => ?_
 refine WP.skip <| WP.seq <| rg 2 2 <| fb rfl trivial rfl fa24_0 <| sx 2 rfl trivial rfl rfl cE sz3 rfl rfl rfl nofun ?_
 refine .fin <| WP.seq <| rg 2 2 <| fb rfl trivial rfl fa24_5 <| sx 2 rfl trivial rfl rfl cE sz4 rfl rfl rfl nofun ?_
 refine .fin <| WP.seq <| rg 4 12 <| lds 2 rfl trivial rfl sg24 rfl rfl <| el H fun t1692 h1693 H => cl rfl cal27 rfl (concourseref03_Good.c h1693) <| al rfl trivial zc24 nofun fun b1694 => sx 0 rfl trivial rfl rfl cA sz24 rfl rfl rfl nofun ?_
 refine .fin <| WP.seq <| WP.seq <| rg 3 0 <| fb rfl trivial rfl fa24_5 <| ld 0 rfl trivial rfl sc4 rfl rfl <| un0 rfl rfl (run_not _) <| .fin <| cd H rfl (fun _ H => ?_) (fun _ H => ?_)
 ·
  refine WP.seq <| rg 1 0 <| as0 rfl rfl <| .fin ?_
  obtain rfl := Gets.out H
  exact rt i2 rfl () 4 [0,1,2,3] 4 (.cons (res_tmp rfl) .nil)
 refine WP.skip <| WP.seqr H id (fun p1696 : Int × Bool => [(0, sl GMade.K a0), (1, sl GMade.K a1), (2, agg (Edu.enc a2)), (5, eq (.pointer (some ⟨b1686, 0, none⟩))), (6, vB false), (7, eq g1689.1), (8, eq (.pointer (some ⟨b1690, 0, none⟩))), (9, eq (.pointer (some ⟨b1694, 0, none⟩))), (10, vI p1696.1), (21, vB t1687.1.isNone), (28, vB (!t1692.fPrivate)), (30, vB p1696.2)]) (fun p1696 : Int × Bool => [blk b1694 24 (Edu.enc t1692), blk b1690 28 (RView.enc t1687.2), blk b1686 24 [vI 0, vS a2.fRoom, vS a2.fUser, vS a2.fEvent, vS a2.fThread, vB true, vB a2.fOn, vI a2.fSpan, vI a2.fState, vI a2.fTick, vI a2.fStamp], VView.O g1689 (t1687.1.getD default)] ++ F) (fun p1696 H => ?_) (fun H => ?_)
 rotate_left
 ·
  refine WP.seq <| rg 1 0 <| as0 rfl rfl <| .fin <| WP.block <| wg (sg 4 [0,2,3,1] 0) fun _ _ => ?_
  refine lp (fun j_ (p1733 : Int) => concourselaw16_GateSecret.l1 k t1687 t1692 j_ p1733) 0 H (fun p1733 => [(0, sl GMade.K a0), (1, sl GMade.K a1), (2, agg (Edu.enc a2)), (5, eq (.pointer (some ⟨b1686, 0, none⟩))), (6, vB false), (7, eq g1689.1), (8, eq (.pointer (some ⟨b1690, 0, none⟩))), (9, eq (.pointer (some ⟨b1694, 0, none⟩))), (10, vI p1733), (21, vB t1687.1.isNone), (28, vB (!t1692.fPrivate))]) (fun p1733 => [blk b1694 24 (Edu.enc t1692), blk b1690 28 (RView.enc t1687.2), blk b1686 24 [vI 0, vS a2.fRoom, vS a2.fUser, vS a2.fEvent, vS a2.fThread, vB true, vB a2.fOn, vI a2.fSpan, vI a2.fState, vI a2.fTick, vI a2.fStamp], VView.O g1689 (t1687.1.getD default)] ++ F) ?_
  rintro j_ x1716 H
  rcases j_ with _ | j1732
  ·
   exact (Gets.no H).elim
  replace H : Gets (concourselaw16_GateSecret.l1 k t1687 t1692 (j1732 + 1) x1716) _ := H
  rw [concourselaw16_GateSecret.l1] at H
  refine WP.seq <| WP.seq <| rg 2 0 <| mv0 rfl rfl <| bn0 rfl rfl rfl run_lt <| .fin <| cd H rfl (fun _ H => ?_) (fun _ H => ?_)
  rotate_left
  ·
   refine WP.exit ?_
   replace H := Gets.out H
   exact jn (x1716, decide (x1716 < 3)) H
  refine WP.skip <| WP.seq <| WP.block <| WP.seq <| rg 3 0 <| mv0 rfl rfl <| el H fun t1718 h1719 H => cl rfl cal11 rfl (concourseref01_ServerOf.c h1719) <| as0 rfl rfl <| .fin <| WP.seq <| rg 19 65800 <| mv0 rfl rfl <| mv0 rfl rfl <| lds 0 rfl trivial rfl sg24 rfl rfl <| el H fun t1720 h1721 H => cx 4 [3,0,1,2] cal16 (gate_Passes.c h1721 (p0_ := g1689)) nofun fun _ _ => ?_
  refine mv0 rfl rfl ?_
  cases c1722 : t1720
  rotate_left
  ·
   replace H := Gets.ct H c1722
   refine sk rfl rfl <| sk rfl rfl <| sk rfl rfl <| Dv.skipb rfl ⟨_, _, rfl, rfl, .inl rfl⟩ nofun <| sk rfl rfl <| sk rfl rfl <| pt0 rfl rfl rfl <| mv0 rfl rfl <| sk rfl rfl <| sk rfl rfl <| sk rfl rfl <| Dv.skipb rfl ⟨_, _, rfl, rfl, .inl rfl⟩ nofun <| sk rfl rfl <| pt0 rfl rfl rfl <| .fin <| WP.cond rfl (fun _ => ?_) nofun
   refine WP.seq <| rg 1 0 <| as0 rfl rfl <| .fin ?_
   replace H := Gets.outr H
   obtain rfl := Gets.out H
   exact rt i2 rfl () 4 [0,1,2,3] 4 (.cons (res_tmp rfl) .nil)
  replace H := Gets.cf H c1722
  refine mvg rfl rfl rfl <| mvg rfl rfl rfl <| lds 1 rfl (gg rfl) rfl sg24 rfl rfl <| el H fun t1724 h1725 H => cx 4 [0,1,2,3] cal19 (gate_Targets.c h1725 (p0_ := g1689)) nofun fun g1726 _ => ?_
  refine Dv.lenw rfl (gg rfl) rfl (mem_at 1 rfl) Tryz.underlying35 <| bng rfl rfl rfl rfl run_ne <| pf0 rfl rfl rfl <| mv0 rfl rfl ?_
  cases c1727 : ((t1724.length : Int) != 0)
  rotate_left
  ·
   replace H := Gets.ct H c1727
   refine sk rfl rfl <| sk rfl rfl <| sk rfl rfl <| Dv.skipb rfl ⟨_, _, rfl, rfl, .inl rfl⟩ nofun <| sk rfl rfl <| pt0 rfl rfl rfl <| .fin <| WP.cond rfl (fun _ => ?_) nofun
   refine WP.seq <| rg 1 0 <| as0 rfl rfl <| .fin ?_
   replace H := Gets.outr H
   obtain rfl := Gets.out H
   exact rt i2 rfl () 5 [0,1,2,3,4] 5 (.cons (res_tmp rfl) .nil)
  replace H := Gets.cf H c1727
  refine mvg rfl rfl rfl <| mvg rfl rfl rfl <| lds 2 rfl (gg rfl) rfl sg24 rfl rfl <| el H fun t1729 h1730 H => cx 5 [0,1,2,3,4] cal13 (gate_Accept.c h1730 (p0_ := g1689)) nofun fun _ _ => ?_
  refine bng rfl rfl rfl rfl run_ne <| pf0 rfl rfl rfl <| .fin <| cd H rfl (fun _ H => ?_) (fun _ H => ?_)
  ·
   refine WP.seq <| rg 1 0 <| as0 rfl rfl <| .fin ?_
   replace H := Gets.outr H
   obtain rfl := Gets.out H
   exact rt i2 rfl () 5 [0,1,2,3,4] 5 (.cons (res_tmp rfl) .nil)
  refine WP.skip <| rg 3 0 <| mv0 rfl rfl <| bn0 rfl rfl rfl run_add <| as0 rfl rfl <| .fin <| ng (sg 5 [1,2,3,4,0] 1) fun _ _ => ?_
  exact bk j1732 (w64 (x1716 + 1)) H
 refine WP.seqr H id (fun p1697 : Int × Bool => [(0, sl GMade.K a0), (1, sl GMade.K a1), (2, agg (Edu.enc a2)), (5, eq (.pointer (some ⟨b1686, 0, none⟩))), (6, vB false), (7, eq g1689.1), (8, eq (.pointer (some ⟨b1690, 0, none⟩))), (9, eq (.pointer (some ⟨b1694, 0, none⟩))), (10, vI p1696.1), (12, vI p1697.1), (21, vB t1687.1.isNone), (28, vB (!t1692.fPrivate)), (30, vB p1696.2), (55, vB p1697.2)]) (fun p1697 : Int × Bool => [blk b1694 24 (Edu.enc t1692), blk b1690 28 (RView.enc t1687.2), blk b1686 24 [vI 0, vS a2.fRoom, vS a2.fUser, vS a2.fEvent, vS a2.fThread, vB true, vB a2.fOn, vI a2.fSpan, vI a2.fState, vI a2.fTick, vI a2.fStamp], VView.O g1689 (t1687.1.getD default)] ++ F) (fun p1697 H => ?_) (fun H => ?_)
 ·
  refine WP.seq <| dgo Tryz.checked.mixed [0, 1, 2, 3, 5, 6, 7, 8, 9, 4, 10, 11, 12, 13, 14, 15] [4] <| mv0 rfl rfl <| fb rfl trivial rfl fa24_2 <| ld 0 rfl trivial rfl sc9 rfl rfl <| lds 0 rfl trivial rfl sg24 rfl rfl <| lds 1 rfl trivial rfl sg28 rfl rfl <| fb rfl trivial rfl fa24_1 <| ld 0 rfl trivial rfl sc9 rfl rfl <| fb rfl trivial rfl fa24_2 <| ld 0 rfl trivial rfl sc9 rfl rfl <| el H fun t1698 h1699 H => Dv.callx (pre := [VView.O g1689 (t1687.1.getD default)]) (F := [blk b1694 24 (Edu.enc t1692), blk b1690 28 (RView.enc t1687.2), blk b1686 24 [vI 0, vS a2.fRoom, vS a2.fUser, vS a2.fEvent, vS a2.fThread, vB true, vB a2.fOn, vI a2.fSpan, vI a2.fState, vI a2.fTick, vI a2.fStamp]] ++ F) (fun _ : Unit => [VView.O g1689 (t1687.1.getD default), blk b1694 24 (Edu.enc t1692), blk b1690 28 (RView.enc t1687.2), blk b1686 24 [vI 0, vS a2.fRoom, vS a2.fUser, vS a2.fEvent, vS a2.fThread, vB true, vB a2.fOn, vI a2.fSpan, vI a2.fState, vI a2.fTick, vI a2.fStamp]] ++ F) rfl trivial cal25 rfl (gate_Sees.c h1699 (p0_ := g1689)) (perm_to (L := [blk b1694 24 (Edu.enc t1692), blk b1690 28 (RView.enc t1687.2), blk b1686 24 [vI 0, vS a2.fRoom, vS a2.fUser, vS a2.fEvent, vS a2.fThread, vB true, vB a2.fOn, vI a2.fSpan, vI a2.fState, vI a2.fTick, vI a2.fStamp], VView.O g1689 (t1687.1.getD default)]) (F := F) [3, 0, 1, 2] rfl rfl rfl) rfl (fun _ => pendc (pend_in (fun _ => (mem_at 1 rfl)) (pend_in (fun _ => trivial) (pend_in (fun _ => (mem_at 1 rfl)) (pend_in (fun _ => trivial) (pend_in (fun _ => (mem_at 2 rfl)) (pend_by (by kernel_rfl) (pend_by (by kernel_rfl) (pend_by (by kernel_rfl) (pend_by (by kernel_rfl) pend_nil)))))))))) (fun _ _ => ?_)
  refine el H fun t1700 h1701 H => cl rfl cal28 rfl (concourseref10_Joined.c h1701) <| bn0 rfl rfl rfl (run_beq Tryz.underlying4) <| mv0 rfl rfl ?_
  cases c1702 : (t1698 == t1700)
  ·
   replace H := Gets.cf H c1702
   refine sk rfl rfl <| pf0 rfl rfl rfl <| as0 rfl rfl <| .fin ?_
   obtain rfl := Gets.out H
   exact rt i2 rfl () 4 [0,1,2,3] 4 (.cons (res_tmp rfl) .nil)
  replace H := Gets.ct H c1702
  refine el H fun t1703 h1704 H => Dv.call rfl (gg rfl) cal15 rfl (concourselaw16_lives.c h1704) <| pt0 rfl rfl rfl <| as0 rfl rfl <| .fin ?_
  obtain rfl := Gets.out H
  exact rt i2 rfl () 4 [0,1,2,3] 4 (.cons (res_tmp rfl) .nil)
 refine WP.seq <| rg 1 0 <| as0 rfl rfl <| .fin <| WP.block <| wg (sg 4 [0,1,2,3] 0) fun _ _ => ?_
 refine lp (fun j_ (p1715 : Int) => concourselaw16_GateSecret.l0 k t1687 t1692 j_ p1715) 0 H (fun p1715 => [(0, sl GMade.K a0), (1, sl GMade.K a1), (2, agg (Edu.enc a2)), (5, eq (.pointer (some ⟨b1686, 0, none⟩))), (6, vB false), (7, eq g1689.1), (8, eq (.pointer (some ⟨b1690, 0, none⟩))), (9, eq (.pointer (some ⟨b1694, 0, none⟩))), (10, vI p1696.1), (12, vI p1715), (21, vB t1687.1.isNone), (28, vB (!t1692.fPrivate)), (30, vB p1696.2)]) (fun p1715 => [blk b1694 24 (Edu.enc t1692), blk b1690 28 (RView.enc t1687.2), blk b1686 24 [vI 0, vS a2.fRoom, vS a2.fUser, vS a2.fEvent, vS a2.fThread, vB true, vB a2.fOn, vI a2.fSpan, vI a2.fState, vI a2.fTick, vI a2.fStamp], VView.O g1689 (t1687.1.getD default)] ++ F) ?_
 rintro j_ x1705 H
 rcases j_ with _ | j1714
 ·
  exact (Gets.no H).elim
 replace H : Gets (concourselaw16_GateSecret.l0 k t1687 t1692 (j1714 + 1) x1705) _ := H
 rw [concourselaw16_GateSecret.l0] at H
 refine WP.seq <| WP.seq <| rg 2 0 <| mv0 rfl rfl <| bn0 rfl rfl rfl run_lt <| .fin <| cd H rfl (fun _ H => ?_) (fun _ H => ?_)
 rotate_left
 ·
  refine WP.exit ?_
  replace H := Gets.out H
  exact jn (x1705, decide (x1705 < 9)) H
 refine WP.skip <| WP.seq <| WP.block <| WP.seq <| rg 3 0 <| mv0 rfl rfl <| el H fun t1707 h1708 H => cl rfl cal24 rfl (concourseref01_UserOf.c h1708) <| as0 rfl rfl <| .fin <| WP.seq <| rg 10 8 <| mv0 rfl rfl <| mv0 rfl rfl <| lds 0 rfl trivial rfl sg24 rfl rfl <| el H fun t1709 h1710 H => cx 4 [3,0,1,2] cal25 (gate_Sees.c h1710 (p0_ := g1689)) nofun fun _ _ => ?_
 refine mv0 rfl rfl ?_
 cases c1711 : t1709
 ·
  replace H := Gets.cf H c1711
  refine sk rfl rfl <| sk rfl rfl <| sk rfl rfl <| sk rfl rfl <| pf0 rfl rfl rfl <| .fin <| WP.cond rfl nofun (fun _ => ?_)
  refine WP.skip <| rg 3 0 <| mv0 rfl rfl <| bn0 rfl rfl rfl run_add <| as0 rfl rfl <| .fin <| ng (sg 4 [1,2,3,0] 0) fun _ _ => ?_
  exact bk j1714 (w64 (x1705 + 1)) H
 replace H := Gets.ct H c1711
 refine mvg rfl rfl rfl <| fb rfl (gg rfl) rfl fa24_2 <| ld 1 rfl (gg rfl) rfl sc9 rfl rfl <| bng rfl rfl rfl rfl run_sne <| pt0 rfl rfl rfl <| .fin <| cd H rfl (fun _ H => ?_) (fun _ H => ?_)
 ·
  refine WP.seq <| rg 1 0 <| as0 rfl rfl <| .fin ?_
  replace H := Gets.outr H
  obtain rfl := Gets.out H
  exact rt i2 rfl () 4 [0,1,2,3] 4 (.cons (res_tmp rfl) .nil)
 refine WP.skip <| rg 3 0 <| mv0 rfl rfl <| bn0 rfl rfl rfl run_add <| as0 rfl rfl <| .fin <| ng (sg 4 [1,2,3,0] 0) fun _ _ => ?_
 exact bk j1714 (w64 (x1705 + 1)) H
end Go.Proofs.YtdhaolcplgbalaaGreat
