/- The walks. -/
import Derived.Test.YtdhaolcplgbalaaGreatZWalks2
import Derived.Test.YtdhaolcplgbalaaGreatConQ
import Derived.Test.YtdhaolcplgbalaaGreatConA5
import Derived.Eval
set_option linter.all false
set_option maxRecDepth 10000
set_option maxHeartbeats 20000000
namespace Go.Proofs.YtdhaolcplgbalaaGreat
open Go Go.Sp
theorem concourselaw16_GateTakes.c {k : Nat} {a0 : List GMade} {a1 : List GMade} {a2 : Edu} {r : Bool} (h : concourselaw16_GateTakes.f k a0 a1 a2 = some r) : Pt Tryz.prog 8 [sl GMade.K a0, sl GMade.K a1, agg (Edu.enc a2)] (vB r) := by
 unfold concourselaw16_GateTakes.f at h
 refine (Tr.body Tryz.func8 (c := _) rfl Tryz.ntmps8 (Nat.le_of_ble_eq_true rfl) fun R0 F => ?_).pt
 replace h := Gets.of h
 have H := h
 clear h
 refine WP.seq <| rg 2 1 <| Dv.box rfl trivial rfl cA nofun fun b1734 => as0 rfl rfl <| .fin <| WP.seq <| rg 9 324 <| mv0 rfl rfl <| mv0 rfl rfl <| el H fun t1735 h1736 H => cx 1 [0] cal9 (concourselaw16_build.c h1736) nofun fun g1737 _ => ?_
 refine mv0 rfl rfl <| ex0 rfl trivial rfl rfl <| ex0 rfl trivial rfl rfl <| al rfl trivial zc28 nofun fun b1738 => as0 rfl rfl <| sx 0 rfl trivial rfl rfl cA sz28 rfl rfl rfl nofun ?_
 refine .fin <| WP.seq <| WP.seq <| rg 2 0 <| mv0 rfl rfl <| Dv.oeq0 (fun _ => VView.nn) rfl trivial rfl rfl Tryz.underlying25 (mem_at 1 rfl) <| .fin <| cd H rfl (fun _ H => ?_) (fun c1739 H => ?_)
 ·
  refine WP.seq <| rg 1 0 <| as0 rfl rfl <| .fin ?_
  obtain rfl := Gets.out H
  exact rt i2 rfl () 3 [0,1,2] 3 (.cons (res_tmp rfl) .nil)
 refine wg (opt_some 1 rfl c1739) fun _ _ => ?_
 refine WP.skip <| WP.seq <| rg 4 12 <| lds 2 rfl trivial rfl sg24 rfl rfl <| el H fun t1740 h1741 H => cl rfl cal29 rfl (concourseref03_Public.c h1741) <| al rfl trivial zc24 nofun fun b1742 => sx 0 rfl trivial rfl rfl cA sz24 rfl rfl rfl nofun ?_
 refine .fin <| WP.seq <| rg 4 0 <| fb rfl trivial rfl fa24_2 <| ld 0 rfl trivial rfl sc9 rfl rfl <| el H fun t1743 h1744 H => cl rfl cal30 rfl (concourseref01_Home.c h1744) <| as0 rfl rfl <| .fin <| WP.seq <| rg 5 8 <| mv0 rfl rfl <| mv0 rfl rfl <| lds 0 rfl trivial rfl sg24 rfl rfl <| el H fun t1745 h1746 H => cx 4 [1,0,2,3] cal19 (gate_Targets.c h1746 (p0_ := g1737)) nofun fun g1747 _ => ?_
 refine as0 rfl rfl <| .fin <| WP.seq <| WP.seq <| rg 5 8 <| mv0 rfl rfl <| mv0 rfl rfl <| lds 2 rfl trivial rfl sg24 rfl rfl <| el H fun t1748 h1749 H => cx 5 [0,1,2,3,4] cal13 (gate_Accept.c h1749 (p0_ := g1737)) nofun fun _ _ => ?_
 refine bn0 rfl rfl rfl run_ne <| .fin <| cd H rfl (fun _ H => ?_) (fun _ H => ?_)
 ·
  refine WP.seq <| rg 12 0 <| fb rfl trivial rfl fa24_0 <| ld 2 rfl trivial rfl sc3 rfl rfl <| bn0 rfl rfl rfl run_ne <| mv0 rfl rfl ?_
  cases c1751 : (t1740.fKind != 3)
  rotate_left
  ·
   replace H := Gets.ct H c1751
   refine sk rfl rfl <| sk rfl rfl <| sk rfl rfl <| pt0 rfl rfl rfl <| mv0 rfl rfl <| el H fun t1752 h1753 H => Dv.call rfl (gg rfl) cal15 rfl (concourselaw16_lives.c h1753) <| pt0 rfl rfl rfl <| as0 rfl rfl <| .fin ?_
   obtain rfl := Gets.out H
   exact rt i2 rfl () 5 [0,1,2,3,4] 5 (.cons (res_tmp rfl) .nil)
  replace H := Gets.cf H c1751
  refine mvg rfl rfl rfl <| Dv.lenw rfl (gg rfl) rfl (mem_at 1 rfl) Tryz.underlying35 <| bng rfl rfl rfl rfl run_eq <| pf0 rfl rfl rfl <| mv0 rfl rfl ?_
  cases c1754 : ((t1745.length : Int) == 0)
  ·
   replace H := Gets.cf H c1754
   refine sk rfl rfl <| pf0 rfl rfl rfl <| as0 rfl rfl <| .fin ?_
   obtain rfl := Gets.out H
   exact rt i2 rfl () 5 [0,1,2,3,4] 5 (.cons (res_tmp rfl) .nil)
  replace H := Gets.ct H c1754
  refine el H fun t1755 h1756 H => Dv.call rfl (gg rfl) cal15 rfl (concourselaw16_lives.c h1756) <| pt0 rfl rfl rfl <| as0 rfl rfl <| .fin ?_
  obtain rfl := Gets.out H
  exact rt i2 rfl () 5 [0,1,2,3,4] 5 (.cons (res_tmp rfl) .nil)
 refine WP.skip <| WP.seqr H id (fun p1757 : Int × Bool => [(0, sl GMade.K a0), (1, sl GMade.K a1), (2, agg (Edu.enc a2)), (5, eq (.pointer (some ⟨b1734, 0, none⟩))), (6, vB false), (7, eq g1737.1), (9, eq (.pointer (some ⟨b1742, 0, none⟩))), (10, vS t1743), (11, eq g1747.1), (12, vI p1757.1), (20, vB t1735.1.isNone), (34, vB (t1748 != 0)), (49, vB p1757.2)]) (fun p1757 : Int × Bool => [blk b1742 24 (Edu.enc t1740), blk b1738 28 (RView.enc t1735.2), blk b1734 24 (Edu.enc a2), VView.O g1737 (t1735.1.getD default), own strK g1747.1 t1745] ++ F) (fun p1757 H => ?_) (fun H => ?_)
 ·
  refine WP.seq <| rg 15 520 <| mv0 rfl rfl <| mv0 rfl rfl <| lds 0 rfl trivial rfl sg24 rfl rfl <| el H fun t1758 h1759 H => cx 5 [3,0,1,2,4] cal16 (gate_Passes.c h1759 (p0_ := g1737)) nofun fun _ _ => ?_
  refine mv0 rfl rfl ?_
  cases c1760 : t1758
  ·
   replace H := Gets.cf H c1760
   refine sk rfl rfl <| sk rfl rfl <| sk rfl rfl <| sk rfl rfl <| Dv.skipb rfl ⟨_, _, rfl, rfl, .inl rfl⟩ nofun <| pf0 rfl rfl rfl <| mv0 rfl rfl <| sk rfl rfl <| pf0 rfl rfl rfl <| as0 rfl rfl <| .fin ?_
   obtain rfl := Gets.out H
   exact rt i2 rfl () 5 [0,1,2,3,4] 5 (.cons (res_tmp rfl) .nil)
  replace H := Gets.ct H c1760
  refine mvg rfl rfl rfl <| fb rfl (gg rfl) rfl fa24_2 <| ld 1 rfl (gg rfl) rfl sc9 rfl rfl <| lds 1 rfl (gg rfl) rfl sg24 rfl rfl <| el H fun t1761 h1762 H => cx 5 [0,1,2,3,4] cal25 (gate_Sees.c h1762 (p0_ := g1737)) nofun fun _ _ => ?_
  refine pt0 rfl rfl rfl <| mv0 rfl rfl ?_
  cases c1763 : t1761
  ·
   replace H := Gets.cf H c1763
   refine sk rfl rfl <| pf0 rfl rfl rfl <| as0 rfl rfl <| .fin ?_
   obtain rfl := Gets.out H
   exact rt i2 rfl () 5 [0,1,2,3,4] 5 (.cons (res_tmp rfl) .nil)
  replace H := Gets.ct H c1763
  refine el H fun t1764 h1765 H => Dv.call rfl (gg rfl) cal15 rfl (concourselaw16_lives.c h1765) <| pt0 rfl rfl rfl <| as0 rfl rfl <| .fin ?_
  obtain rfl := Gets.out H
  exact rt i2 rfl () 5 [0,1,2,3,4] 5 (.cons (res_tmp rfl) .nil)
 refine WP.seq <| rg 1 0 <| as0 rfl rfl <| .fin <| WP.block <| wg (sg 5 [2,3,4,0,1] 0) fun _ _ => ?_
 refine lp (fun j_ (p1784 : Int) => concourselaw16_GateTakes.l0 k t1735 t1740 t1743 t1745 j_ p1784) 0 H (fun p1784 => [(0, sl GMade.K a0), (1, sl GMade.K a1), (2, agg (Edu.enc a2)), (5, eq (.pointer (some ⟨b1734, 0, none⟩))), (6, vB false), (7, eq g1737.1), (9, eq (.pointer (some ⟨b1742, 0, none⟩))), (10, vS t1743), (11, eq g1747.1), (12, vI p1784), (20, vB t1735.1.isNone), (34, vB (t1748 != 0))]) (fun p1784 => [blk b1742 24 (Edu.enc t1740), blk b1738 28 (RView.enc t1735.2), blk b1734 24 (Edu.enc a2), VView.O g1737 (t1735.1.getD default), own strK g1747.1 t1745] ++ F) ?_
 rintro j_ x1766 H
 rcases j_ with _ | j1783
 ·
  exact (Gets.no H).elim
 replace H : Gets (concourselaw16_GateTakes.l0 k t1735 t1740 t1743 t1745 (j1783 + 1) x1766) _ := H
 rw [concourselaw16_GateTakes.l0] at H
 refine WP.seq <| WP.seq <| rg 4 0 <| mv0 rfl rfl <| mv0 rfl rfl <| Dv.lenw rfl trivial rfl (mem_at 4 rfl) Tryz.underlying35 <| bn0 rfl rfl rfl run_lt <| .fin <| cd H rfl (fun _ H => ?_) (fun _ H => ?_)
 rotate_left
 ·
  refine WP.exit ?_
  replace H := Gets.out H
  exact jn (x1766, decide (x1766 < (t1745.length : Int))) H
 refine WP.skip <| WP.seq <| WP.block <| WP.seq <| dg Tryz.checked.mixed 26 8396800 <| mv0 rfl rfl <| mv0 rfl rfl <| gr H fun g1768 H => ?_
 have h1769 : x1766.toNat < t1745.length := idx_lt g1768
 refine Dv.ixw rfl trivial rfl (mem_at 4 rfl) rfl Tryz.underlying35 Tryz.underlying9 c9 g1768.1 g1768.2 <| Dv.ldw (j := x1766.toNat) (f := 0) (p := vS (t1745.getD x1766.toNat default)) rfl trivial rfl (mem_at 4 rfl) h1769 Tryz.underlying9 rfl rfl <| mv0 rfl rfl <| bn0 rfl rfl rfl run_seq <| mv0 rfl rfl ?_
 cases c1770 : decide ((t1745.getD x1766.toNat default) = t1743)
 rotate_left
 ·
  replace H := Gets.ct H c1770
  refine sk rfl rfl <| sk rfl rfl <| sk rfl rfl <| sk rfl rfl <| sk rfl rfl <| sk rfl rfl <| Dv.skipb rfl ⟨_, _, rfl, rfl, .inl rfl⟩ (fun _ => pend_bits (by kernel_rfl)) <| sk rfl rfl <| pt0 rfl rfl rfl <| mv0 rfl rfl <| sk rfl rfl <| sk rfl rfl <| sk rfl rfl <| sk rfl rfl <| sk rfl rfl <| sk rfl rfl <| Dv.skipb rfl ⟨_, _, rfl, rfl, .inl rfl⟩ (fun _ => pend_bits (by kernel_rfl)) <| sk rfl rfl <| pt0 rfl rfl rfl <| .fin <| WP.cond rfl (fun _ => ?_) nofun
  refine WP.seq <| rg 1 0 <| as0 rfl rfl <| .fin ?_
  replace H := Gets.outr H
  obtain rfl := Gets.out H
  exact rt i2 rfl () 5 [0,1,2,3,4] 5 (.cons (res_tmp rfl) .nil)
 replace H := Gets.cf H c1770
 refine mvg rfl rfl rfl <| mvg rfl rfl rfl <| mvg rfl rfl rfl <| gr H fun g1772 H => ?_
 have h1773 : x1766.toNat < t1745.length := idx_lt g1772
 refine Dv.ixw rfl (gg rfl) rfl (mem_at 4 rfl) rfl Tryz.underlying35 Tryz.underlying9 c9 g1772.1 g1772.2 <| Dv.ldw (j := x1766.toNat) (f := 0) (p := vS (t1745.getD x1766.toNat default)) rfl (gg rfl) rfl (mem_at 4 rfl) h1773 Tryz.underlying9 rfl rfl <| lds 0 rfl (gg rfl) rfl sg24 rfl rfl <| el H fun t1774 h1775 H => cx 5 [3,0,1,2,4] cal16 (gate_Passes.c h1775 (p0_ := g1737)) pC fun _ _ => ?_
 refine ung rfl rfl rfl (run_not _) <| pf0 rfl rfl rfl <| mv0 rfl rfl ?_
 cases c1776 : !t1774
 rotate_left
 ·
  replace H := Gets.ct H c1776
  refine sk rfl rfl <| sk rfl rfl <| sk rfl rfl <| sk rfl rfl <| sk rfl rfl <| sk rfl rfl <| Dv.skipb rfl ⟨_, _, rfl, rfl, .inl rfl⟩ (fun _ => pend_bits (by kernel_rfl)) <| sk rfl rfl <| pt0 rfl rfl rfl <| .fin <| WP.cond rfl (fun _ => ?_) nofun
  refine WP.seq <| rg 1 0 <| as0 rfl rfl <| .fin ?_
  replace H := Gets.outr H
  obtain rfl := Gets.out H
  exact rt i2 rfl () 5 [0,1,2,3,4] 5 (.cons (res_tmp rfl) .nil)
 replace H := Gets.cf H c1776
 refine mvg rfl rfl rfl <| mvg rfl rfl rfl <| mvg rfl rfl rfl <| gr H fun g1778 H => ?_
 have h1779 : x1766.toNat < t1745.length := idx_lt g1778
 refine Dv.ixw rfl (gg rfl) rfl (mem_at 4 rfl) rfl Tryz.underlying35 Tryz.underlying9 c9 g1778.1 g1778.2 <| Dv.ldw (j := x1766.toNat) (f := 0) (p := vS (t1745.getD x1766.toNat default)) rfl (gg rfl) rfl (mem_at 4 rfl) h1779 Tryz.underlying9 rfl rfl <| lds 1 rfl (gg rfl) rfl sg24 rfl rfl <| el H fun t1780 h1781 H => cx 5 [0,1,2,3,4] cal13 (gate_Accept.c h1781 (p0_ := g1737)) pC fun _ _ => ?_
 refine bng rfl rfl rfl rfl run_ne <| pf0 rfl rfl rfl <| .fin <| cd H rfl (fun _ H => ?_) (fun _ H => ?_)
 ·
  refine WP.seq <| rg 1 0 <| as0 rfl rfl <| .fin ?_
  replace H := Gets.outr H
  obtain rfl := Gets.out H
  exact rt i2 rfl () 5 [0,1,2,3,4] 5 (.cons (res_tmp rfl) .nil)
 refine WP.skip <| rg 3 0 <| mv0 rfl rfl <| bn0 rfl rfl rfl run_add <| as0 rfl rfl <| .fin <| ng (sg 5 [1,2,3,0,4] 0) fun _ _ => ?_
 exact bk j1783 (w64 (x1766 + 1)) H
end Go.Proofs.YtdhaolcplgbalaaGreat
