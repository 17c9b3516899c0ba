/- The walks. -/
import Derived.Test.YtigmkniiojpdiaaGreatZWalks1
import Derived.Test.YtigmkniiojpdiaaGreatConQ
import Derived.Test.YtigmkniiojpdiaaGreatConA5
import Derived.Eval
set_option linter.all false
set_option maxRecDepth 10000
set_option maxHeartbeats 20000000
namespace Go.Proofs.YtigmkniiojpdiaaGreat
open Go Go.Sp
theorem concourseref07_Depth.c {k : Nat} {a0 : RDag} {a1 : ByteArray} {r : Int} (h : concourseref07_Depth.f k a0 a1 = some r) : Pt Tryz.prog 91 [agg (RDag.enc a0), vS a1] (vI r) := by
 unfold concourseref07_Depth.f at h
 refine (Tr.body Tryz.func91 (c := _) rfl Tryz.ntmps91 (Nat.le_of_ble_eq_true rfl) fun R0 F => ?_).pt
 replace h := Gets.of h
 have H := h
 clear h
 refine WP.seq <| rg 2 1 <| Dv.box rfl trivial rfl cA nofun fun b794 => as0 rfl rfl <| .fin <| WP.seq <| rg 4 0 <| lds 0 rfl trivial rfl sg36 rfl rfl <| mv0 rfl rfl <| el H fun t795 h796 H => cl rfl cal69 rfl (concourseref07_At.c h796) <| as0 rfl rfl <| .fin <| WP.seq <| WP.seq <| rg 2 0 <| mv0 rfl rfl <| bn0 rfl rfl rfl run_lt <| .fin <| cd H rfl (fun _ H => ?_) (fun _ H => ?_)
 ·
  refine WP.seq <| rg 1 0 <| as0 rfl rfl <| .fin ?_
  obtain rfl := Gets.out H
  exact rt i2 rfl () 1 [0] 1 (.cons (res_tmp rfl) .nil)
 refine WP.skip <| WP.seq <| rg 4 4 <| mv0 rfl rfl <| bn0 rfl rfl rfl run_add <| gr H fun g798 H => ?_
 obtain ⟨ti799, ti799a, ti799b, ti799c, ti799d⟩ := inf3
 refine Dv.mks (Kd := (intK .i64)) (0 : Int) rfl trivial rfl rfl Tryz.underlying24 ti799a ti799b ti799c ti799d rfl (by decide) rfl g798 nofun (fun v800 => ?_)
 refine as0 rfl rfl <| .fin <| WP.seqn H id (fun p801 : Int × Bool × (List Int) => [(0, agg (RDag.enc a0)), (1, vS a1), (2, eq (.pointer (some ⟨b794, 0, none⟩))), (4, vI 0), (5, vI t795), (6, eq v800.1), (7, vI p801.1), (13, vB (decide (t795 < 0))), (19, vB p801.2.1)]) (fun p801 : Int × Bool × (List Int) => [blk b794 36 (RDag.enc a0), own (intK .i64) v800.1 p801.2.2] ++ F) (fun p801 H => ?_) (fun H => ?_)
 ·
  refine WP.seq <| rg 5 0 <| mv0 rfl rfl <| mv0 rfl rfl <| gr H fun g802 H => ?_
  have h803 : t795.toNat < p801.2.2.length := idx_lt g802
  refine Dv.ixw rfl trivial rfl (mem_at 1 rfl) rfl Tryz.underlying24 Tryz.underlying3 c3 g802.1 g802.2 <| Dv.ldw (j := t795.toNat) (f := 0) (p := vI (p801.2.2.getD t795.toNat default)) rfl trivial rfl (mem_at 1 rfl) h803 Tryz.underlying3 rfl rfl <| as0 rfl rfl <| .fin ?_
  obtain rfl := Gets.out H
  exact rt i2 rfl () 2 [0,1] 2 (.cons (res_tmp rfl) .nil)
 refine WP.seq <| rg 1 0 <| as0 rfl rfl <| .fin <| WP.block <| wg (sg 2 [1,0] 0) fun _ _ => ?_
 refine lp (fun j_ (p825 : Int × (List Int)) => concourseref07_Depth.l0 k a0 t795 j_ p825.1 p825.2) (0, List.replicate (w64 (t795 + 1)).toNat (0 : Int)) H (fun p825 => [(0, agg (RDag.enc a0)), (1, vS a1), (2, eq (.pointer (some ⟨b794, 0, none⟩))), (4, vI 0), (5, vI t795), (6, eq v800.1), (7, vI p825.1), (13, vB (decide (t795 < 0)))]) (fun p825 => [blk b794 36 (RDag.enc a0), own (intK .i64) v800.1 p825.2] ++ F) ?_
 rintro j_ ⟨x804, x805⟩ H
 rcases j_ with _ | j824
 ·
  exact (Gets.no H).elim
 replace H : Gets (concourseref07_Depth.l0 k a0 t795 (j824 + 1) x804 x805) _ := H
 rw [concourseref07_Depth.l0] at H
 refine WP.seq <| WP.seq <| rg 3 0 <| mv0 rfl rfl <| mv0 rfl rfl <| bn0 rfl rfl rfl run_le <| .fin <| cd H rfl (fun _ H => ?_) (fun _ H => ?_)
 rotate_left
 ·
  refine WP.exit ?_
  replace H := Gets.out H
  exact jn (x804, decide (x804 ≤ t795), x805) H
 refine WP.skip <| WP.seqn H id (fun p807 : Int × Bool × (List Int) => [(0, agg (RDag.enc a0)), (1, vS a1), (2, eq (.pointer (some ⟨b794, 0, none⟩))), (4, vI 0), (5, vI t795), (6, eq v800.1), (7, vI x804), (8, vI p807.1), (13, vB (decide (t795 < 0))), (19, vB (decide (x804 ≤ t795))), (30, vB p807.2.1)]) (fun p807 : Int × Bool × (List Int) => [blk b794 36 (RDag.enc a0), own (intK .i64) v800.1 p807.2.2] ++ F) (fun p807 H => ?_) (fun H => ?_)
 ·
  exact rg 3 0 <| mv0 rfl rfl <| bn0 rfl rfl rfl run_add <| as0 rfl rfl <| .fin <| bk j824 (w64 (x804 + 1), p807.2.2) H
 refine WP.block <| WP.seq <| rg 1 0 <| as0 rfl rfl <| .fin <| WP.block <| wg (sg 2 [0,1] 0) fun _ _ => ?_
 refine lp (fun j_ (p823 : Int × (List Int)) => concourseref07_Depth.l1 k a0 x804 j_ p823.1 p823.2) (0, x805) H (fun p823 => [(0, agg (RDag.enc a0)), (1, vS a1), (2, eq (.pointer (some ⟨b794, 0, none⟩))), (4, vI 0), (5, vI t795), (6, eq v800.1), (7, vI x804), (8, vI p823.1), (13, vB (decide (t795 < 0))), (19, vB (decide (x804 ≤ t795)))]) (fun p823 => [blk b794 36 (RDag.enc a0), own (intK .i64) v800.1 p823.2] ++ F) ?_
 rintro j_ ⟨x808, x809⟩ H
 rcases j_ with _ | j822
 ·
  exact (Gets.no H).elim
 replace H : Gets (concourseref07_Depth.l1 k a0 x804 (j822 + 1) x808 x809) _ := H
 rw [concourseref07_Depth.l1] at H
 refine WP.seq <| WP.seq <| rg 9 0 <| mv0 rfl rfl <| fb rfl trivial rfl fa36_1 <| ld 0 rfl trivial rfl sc23 rfl rfl <| mv0 rfl rfl <| gr H fun g810 H => Dv.ixr rfl trivial rfl rfl Tryz.underlying23 Tryz.underlying33 c33 g810.1 g810.2 <| fr rfl trivial rfl fa33_2 rfl <| ldR rfl trivial rfl sc31 rfl <| Dv.lenl rfl trivial rfl Tryz.underlying31 <| bn0 rfl rfl rfl run_lt <| .fin <| cd H rfl (fun _ H => ?_) (fun _ H => ?_)
 rotate_left
 ·
  refine WP.exit ?_
  replace H := Gets.out H
  exact jn (x808, decide (x808 < (((Event.K.at a0.fL x804).fParents).length : Int)), x809) H
 refine WP.skip <| WP.seq <| WP.block <| dg Tryz.checked.mixed 24 8388608 <| mv0 rfl rfl <| mv0 rfl rfl <| mv0 rfl rfl <| mv0 rfl rfl <| gr H fun g812 H => ?_
 have h813 : x804.toNat < x809.length := idx_lt g812
 refine Dv.ixw rfl trivial rfl (mem_at 1 rfl) rfl Tryz.underlying24 Tryz.underlying3 c3 g812.1 g812.2 <| Dv.ldw (j := x804.toNat) (f := 0) (p := vI (x809.getD x804.toNat default)) rfl trivial rfl (mem_at 1 rfl) h813 Tryz.underlying3 rfl rfl <| mv0 rfl rfl <| lds 0 rfl trivial rfl sg36 rfl rfl <| fb rfl trivial rfl fa36_1 <| ld 0 rfl trivial rfl sc23 rfl rfl <| mv0 rfl rfl <| gr H fun g814 H => Dv.ixr rfl trivial rfl rfl Tryz.underlying23 Tryz.underlying33 c33 g814.1 g814.2 <| fr rfl trivial rfl fa33_2 rfl <| ldR rfl trivial rfl sc31 rfl <| mv0 rfl rfl <| gr H fun g815 H => Dv.ixr rfl trivial rfl rfl Tryz.underlying31 Tryz.underlying9 c9 g815.1 g815.2 <| ldR rfl trivial rfl sc9 rfl <| el H fun t816 h817 H => cl rfl cal69 rfl (concourseref07_At.c h817) <| gr H fun g818 H => ?_
 have h819 : t816.toNat < x809.length := idx_lt g818
 refine Dv.ixw rfl trivial rfl (mem_at 1 rfl) rfl Tryz.underlying24 Tryz.underlying3 c3 g818.1 g818.2 <| Dv.ldw (j := t816.toNat) (f := 0) (p := vI (x809.getD t816.toNat default)) rfl trivial rfl (mem_at 1 rfl) h819 Tryz.underlying3 rfl rfl <| bn0 rfl rfl rfl run_add <| Dv.maxi rfl trivial rfl rfl <| gr H fun g820 H => ?_
 have h821 : x804.toNat < x809.length := idx_lt g820
 exact Dv.ixw rfl trivial rfl (mem_at 1 rfl) rfl Tryz.underlying24 Tryz.underlying3 c3 g820.1 g820.2 <| Dv.stw (j := x804.toNat) (f := 0) (jj := 1) (max (x809.getD x804.toNat default) (w64 ((x809.getD t816.toNat default) + 1))) rfl trivial rfl rfl (cells_one (one_eq rfl)) Tryz.underlying3 c3 rfl rfl h821 (Nat.le_of_ble_eq_true rfl) rfl (fun _ => pend_bits (by kernel_rfl)) <| .fin <| rg 3 0 <| mv0 rfl rfl <| bn0 rfl rfl rfl run_add <| as0 rfl rfl <| .fin <| bk j822 (w64 (x808 + 1), x809.set x804.toNat (max (x809.getD x804.toNat default) (w64 ((x809.getD t816.toNat default) + 1)))) H
theorem concourseref07_Position.c {k : Nat} {a0 : RDag} {a1 : ByteArray} {r : Pos} (h : concourseref07_Position.f k a0 a1 = some r) : Pt Tryz.prog 57 [agg (RDag.enc a0), vS a1] (agg (Pos.enc r)) := by
 unfold concourseref07_Position.f at h
 refine (Tr.body Tryz.func57 (c := _) rfl Tryz.ntmps57 (Nat.le_of_ble_eq_true rfl) fun R0 F => ?_).pt
 replace h := Gets.of h
 have H := h
 clear h
 refine WP.seq <| rg 2 3 <| Dv.box rfl trivial rfl cA nofun fun b826 => al rfl trivial zc61 nofun fun b827 => .fin <| WP.seq <| rg 6 32 <| lds 1 rfl trivial rfl sg36 rfl rfl <| mv0 rfl rfl <| el H fun t828 h829 H => cl rfl cal91 rfl (concourseref07_Depth.c h829) <| mv0 rfl rfl <| Dv.bld (css := [[vI t828], [vS a1]]) rfl trivial Tryz.underlying61 pl61 z61 rfl ⟨(cells_one (one_eq rfl)), ⟨(cells_one (one_eq rfl)), trivial⟩⟩ rfl rfl <| sx 0 rfl trivial rfl rfl cA sz61 rfl rfl rfl nofun ?_
 refine .fin ?_
 obtain rfl := Gets.out H
 exact rt i2 rfl () 2 [0,1] 2 (.cons (res_cells rfl Tryz.underlying61 rfl c61 (mem_at 0 rfl) rfl) .nil)
theorem concourseref07_All.c {k : Nat} {a0 : RDag} {r : (List Event)} (h : concourseref07_All.f k a0 = some r) : Pt Tryz.prog 16 [agg (RDag.enc a0)] (sl Event.K r) := by
 unfold concourseref07_All.f at h
 refine (Tr.body Tryz.func16 (c := _) rfl Tryz.ntmps16 (Nat.le_of_ble_eq_true rfl) fun R0 F => ?_).pt
 replace h := Gets.of h
 have H := h
 clear h
 refine WP.seq <| rg 2 1 <| Dv.box rfl trivial rfl cA nofun fun b830 => as0 rfl rfl <| .fin <| WP.seq <| rg 1 0 <| Dv.asgn Event.K rfl trivial rfl <| .fin <| WP.seqn H id (fun p831 : (List Event) × Int × Bool => [(0, agg (RDag.enc a0)), (1, eq (.pointer (some ⟨b830, 0, none⟩))), (2, eq (.slice none 0 0)), (3, sl Event.K p831.1), (4, vI p831.2.1), (11, vB p831.2.2)]) (fun p831 : (List Event) × Int × Bool => [blk b830 36 (RDag.enc a0)] ++ F) (fun p831 H => ?_) (fun H => ?_)
 ·
  refine WP.seq <| rg 2 0 <| mv0 rfl rfl <| as0 rfl rfl <| .fin ?_
  obtain rfl := Gets.out H
  exact rt i2 rfl () 1 [0] 1 (.cons (res_tmp rfl) .nil)
 refine WP.seq <| rg 1 0 <| as0 rfl rfl <| .fin <| WP.block <| wg (sg 1 [0] 0) fun _ _ => ?_
 refine lp (fun j_ (p861 : (List Event) × Int) => concourseref07_All.l0 k a0 j_ p861.1 p861.2) (([] : List Event), 0) H (fun p861 => [(0, agg (RDag.enc a0)), (1, eq (.pointer (some ⟨b830, 0, none⟩))), (2, eq (.slice none 0 0)), (3, sl Event.K p861.1), (4, vI p861.2)]) (fun p861 => [blk b830 36 (RDag.enc a0)] ++ F) ?_
 rintro j_ ⟨x832, x833⟩ H
 rcases j_ with _ | j860
 ·
  exact (Gets.no H).elim
 replace H : Gets (concourseref07_All.l0 k a0 (j860 + 1) x832 x833) _ := H
 rw [concourseref07_All.l0] at H
 refine WP.seq <| WP.seq <| rg 5 0 <| mv0 rfl rfl <| fb rfl trivial rfl fa36_1 <| ld 0 rfl trivial rfl sc23 rfl rfl <| Dv.lenl rfl trivial rfl Tryz.underlying23 <| bn0 rfl rfl rfl run_lt <| .fin <| cd H rfl (fun _ H => ?_) (fun _ H => ?_)
 rotate_left
 ·
  refine WP.exit ?_
  replace H := Gets.out H
  exact jn (x832, x833, decide (x833 < (a0.fL.length : Int))) H
 refine WP.skip <| WP.seqn H id (fun p835 : (List Event) × Int × Bool => [(0, agg (RDag.enc a0)), (1, eq (.pointer (some ⟨b830, 0, none⟩))), (2, eq (.slice none 0 0)), (3, sl Event.K p835.1), (4, vI x833), (5, vI p835.2.1), (11, vB (decide (x833 < (a0.fL.length : Int)))), (35, vB p835.2.2)]) (fun p835 : (List Event) × Int × Bool => [blk b830 36 (RDag.enc a0)] ++ F) (fun p835 H => ?_) (fun H => ?_)
 ·
  exact rg 3 0 <| mv0 rfl rfl <| bn0 rfl rfl rfl run_add <| as0 rfl rfl <| .fin <| bk j860 (p835.1, w64 (x833 + 1)) H
 refine WP.block <| WP.seq <| rg 1 0 <| as0 rfl rfl <| .fin <| WP.seqn H id (fun p836 : Int × Bool => [(0, agg (RDag.enc a0)), (1, eq (.pointer (some ⟨b830, 0, none⟩))), (2, eq (.slice none 0 0)), (3, sl Event.K x832), (4, vI x833), (5, vI p836.1), (11, vB (decide (x833 < (a0.fL.length : Int)))), (35, vB p836.2)]) (fun p836 : Int × Bool => [blk b830 36 (RDag.enc a0)] ++ F) (fun p836 H => ?_) (fun H => ?_)
 rotate_left
 ·
  refine WP.block <| wg (sg 1 [0] 0) fun _ _ => ?_
  refine lp (fun j_ (p859 : Int) => concourseref07_All.l1 k a0 x832 x833 j_ p859) 0 H (fun p859 => [(0, agg (RDag.enc a0)), (1, eq (.pointer (some ⟨b830, 0, none⟩))), (2, eq (.slice none 0 0)), (3, sl Event.K x832), (4, vI x833), (5, vI p859), (11, vB (decide (x833 < (a0.fL.length : Int))))]) (fun p859 => [blk b830 36 (RDag.enc a0)] ++ F) ?_
  rintro j_ x846 H
  rcases j_ with _ | j858
  ·
   exact (Gets.no H).elim
  replace H : Gets (concourseref07_All.l1 k a0 x832 x833 (j858 + 1) x846) _ := H
  rw [concourseref07_All.l1] at H
  refine WP.seq <| WP.seq <| dg Tryz.checked.mixed 22 0 <| mv0 rfl rfl <| mv0 rfl rfl <| Dv.lenl rfl trivial rfl Tryz.underlying23 <| bn0 rfl rfl rfl run_lt <| mv0 rfl rfl ?_
  cases c847 : decide (x846 < (x832.length : Int))
  ·
   replace H := Gets.cf H c847
   refine sk rfl rfl <| sk rfl rfl <| sk rfl rfl <| sk rfl rfl <| sk rfl rfl <| sk rfl rfl <| sk rfl rfl <| sk rfl rfl <| sk rfl rfl <| sk rfl rfl <| sk rfl rfl <| sk rfl rfl <| sk rfl rfl <| sk rfl rfl <| sk rfl rfl <| sk rfl rfl <| pf0 rfl rfl rfl <| .fin <| WP.cond rfl nofun (fun _ => ?_)
   refine WP.exit ?_
   replace H := Gets.out H
   exact jn (x846, false) H
  replace H := Gets.ct H c847
  refine lds 0 rfl (gg rfl) rfl sg36 rfl rfl <| mvg rfl rfl rfl <| mvg rfl rfl rfl <| gr H fun g848 H => Dv.ixr rfl (gg rfl) rfl rfl Tryz.underlying23 Tryz.underlying33 c33 g848.1 g848.2 <| fr rfl (gg rfl) rfl fa33_0 rfl <| ldR rfl (gg rfl) rfl sc9 rfl <| el H fun t849 h850 H => Dv.call rfl (gg rfl) cal57 rfl (concourseref07_Position.c h850) <| lds 0 rfl (gg rfl) rfl sg36 rfl rfl <| fb rfl (gg rfl) rfl fa36_1 <| ld 0 rfl (gg rfl) rfl sc23 rfl rfl <| mvg rfl rfl rfl <| gr H fun g851 H => Dv.ixr rfl (gg rfl) rfl rfl Tryz.underlying23 Tryz.underlying33 c33 g851.1 g851.2 <| fr rfl (gg rfl) rfl fa33_0 rfl <| ldR rfl (gg rfl) rfl sc9 rfl <| el H fun t852 h853 H => Dv.call rfl (gg rfl) cal57 rfl (concourseref07_Position.c h853) <| el H fun t854 h855 H => Dv.call rfl (gg rfl) cal56 rfl (concourseref07_Before.c h855) <| pt0 rfl rfl rfl <| .fin <| cd H rfl (fun _ H => ?_) (fun _ H => ?_)
  rotate_left
  ·
   refine WP.exit ?_
   replace H := Gets.out H
   exact jn (x846, t854) H
  exact WP.skip <| WP.block <| rg 3 0 <| mv0 rfl rfl <| bn0 rfl rfl rfl run_add <| as0 rfl rfl <| .fin <| bk j858 (w64 (x846 + 1)) H
 refine WP.seq <| rg 1 0 <| as0 rfl rfl <| .fin <| WP.seq <| rg 6 16 <| mv0 rfl rfl <| mv0 rfl rfl <| mv0 rfl rfl <| gr H fun g837 H => Dv.sls rfl trivial rfl Tryz.underlying23 Tryz.underlying33 c33 bdE_none (bdE_some rfl g837.1) g837.2.1 g837.2.2 <| vg (st_nil Event.K none) fun _ _ => ?_
 refine gr H fun g838 H => ap Event.K 0 ((x832.take p836.1.toNat).drop 0) src_sl Tryz.underlying23 (.inr ⟨_, Tryz.underlying23⟩) inf33 g838 nofun fun v839 => ?_
 refine as0 rfl rfl <| .fin <| WP.seq <| rg 9 128 <| mv0 rfl rfl <| fb rfl trivial rfl fa36_1 <| ld 1 rfl trivial rfl sc23 rfl rfl <| mv0 rfl rfl <| gr H fun g840 H => Dv.ixr rfl trivial rfl rfl Tryz.underlying23 Tryz.underlying33 c33 g840.1 g840.2 <| ldsR rfl trivial rfl sg33 rfl <| Dv.lit Event.K ([Event.K.at a0.fL x833] : List Event) (css := [Event.enc (Event.K.at a0.fL x833)]) rfl trivial Tryz.underlying23 Tryz.underlying33 c33 z33 rfl (by decide) (by decide) rfl ⟨(cells_agg (Event.K.one _)), trivial⟩ rfl rfl rfl <| gr H fun g841 H => ap Event.K 0 ([Event.K.at a0.fL x833] : List Event) src_sl Tryz.underlying23 (.inr ⟨_, Tryz.underlying23⟩) inf33 g841 nofun fun v842 => ?_
 refine as0 rfl rfl <| .fin <| rg 6 16 <| mv0 rfl rfl <| mv0 rfl rfl <| mv0 rfl rfl <| gr H fun g843 H => Dv.sls rfl trivial rfl Tryz.underlying23 Tryz.underlying33 c33 (bdE_some rfl g843.1) bdE_none g843.2.1 g843.2.2 <| gr H fun g844 H => ap Event.K 0 ((x832.take x832.length).drop p836.1.toNat) src_sl Tryz.underlying23 (.inr ⟨_, Tryz.underlying23⟩) inf33 g844 nofun fun v845 => ?_
 refine Dv.gh (gh_frz (E' := [(0, agg (RDag.enc a0)), (1, eq (.pointer (some ⟨b830, 0, none⟩))), (2, eq (.slice none 0 0)), (3, sl Event.K x832), (4, vI x833), (5, vI p836.1), (11, vB (decide (x833 < (a0.fL.length : Int)))), (35, vB p836.2), (55, sl Event.K (((([] : List Event) ++ ((x832.take p836.1.toNat).drop 0)) ++ ([Event.K.at a0.fL x833] : List Event)) ++ ((x832.take x832.length).drop p836.1.toNat)))]) (l' := [blk b830 36 (RDag.enc a0)] ++ F) 0 rfl (cve_cons rfl cv_id (cve_cons rfl cv_id (cve_cons rfl cv_id (cve_cons rfl cv_id (cve_cons rfl cv_id (cve_cons rfl cv_id (cve_cons rfl cv_id (cve_cons rfl cv_id (cve_cons rfl cv_eq cve_nil))))))))) (all2_app (.cons cva_id .nil) fun _ => cva_id)) (fun _ _ => ?_)
 refine as0 rfl rfl <| .fin ?_
 replace H := Gets.out H
 exact jn (((([] : List Event) ++ ((x832.take p836.1.toNat).drop 0)) ++ ([Event.K.at a0.fL x833] : List Event)) ++ ((x832.take x832.length).drop p836.1.toNat), p836.1, p836.2) H
theorem dag_Dag_Heads.c {a0 : DDag} {v0_0 : OV} {b0_ : Nat} {r : (List ByteArray)} (h : dag_Dag_Heads.f a0 = some r) : Tr Tryz.prog 58 [eq (.pointer (some ⟨b0_, 0, none⟩))] [blk b0_ 102 [vS a0.froom, eq v0_0.1], mpo Value.string DNode.O v0_0.1 a0.fnodes] (γ := OV) (fun _ => True) (fun g => eq g.1) (fun g => [blk b0_ 102 [vS a0.froom, eq v0_0.1], mpo Value.string DNode.O v0_0.1 a0.fnodes, own strK g.1 r]) := by
 unfold dag_Dag_Heads.f at h
 refine Tr.body Tryz.func58 (c := _) rfl Tryz.ntmps58 (Nat.le_of_ble_eq_true rfl) fun R0 F => ?_
 replace h := Gets.of h
 have H := h
 clear h
 refine WP.seq <| rg 1 0 <| as0 rfl rfl <| .fin <| WP.seq <| rg 3 2 <| mv0 rfl rfl <| el H fun t862 h863 H => cx 2 [0,1] cal89 (dag_Dag_ids_Heads.c h863 (b0_ := b0_) (v0_0 := v0_0)) nofun fun g864 _ => ?_
 refine as0 rfl rfl <| .fin ?_
 obtain rfl := Gets.out H
 exact rt i2 rfl g864 3 [0,1,2] 0 (.cons (res_tmp rfl) .nil)
theorem view_View_Heads.c {a0 : VView} {a1 : ByteArray} {v0_0 : OV} {b0_ : Nat} {r : (List ByteArray)} (h : view_View_Heads.f a0 a1 = some r) : Tr Tryz.prog 18 [eq (.pointer (some ⟨b0_, 0, none⟩)), vS a1] [blk b0_ 80 [eq v0_0.1], mpo Value.string DDag.O v0_0.1 a0.fdags] (γ := OV) (fun _ => True) (fun g => eq g.1) (fun g => [blk b0_ 80 [eq v0_0.1], mpo Value.string DDag.O v0_0.1 a0.fdags, own strK g.1 r]) := by
 unfold view_View_Heads.f at h
 refine Tr.body Tryz.func18 (c := _) rfl Tryz.ntmps18 (Nat.le_of_ble_eq_true rfl) fun R0 F => ?_
 replace h := Gets.of h
 have H := h
 clear h
 refine WP.seq <| rg 1 0 <| as0 rfl rfl <| .fin <| WP.seq <| rg 5 12 <| mv0 rfl rfl <| mv0 rfl rfl <| el H fun t865 h866 H => cx 2 [0,1] cal52 (view_View_room.c h866 (b0_ := b0_) (v0_0 := v0_0)) nofun fun v867 _ => ?_
 refine vg (DDag.opn 2 rfl) fun g868 h869 => ?_
 refine el H fun t870 h871 H => cx 4 [0,1,2,3] cal58 (Tr.weak (dag_Dag_Heads.c h871 (b0_ := g868.1) (v0_0 := g868.2)) (.cons (wk_ptr h869) .nil)) nofun fun g872 _ => ?_
 refine as0 rfl rfl <| .fin <| wg (DDag.shut (p := v867) (m := t865) (g868.1, g868.2) h869 (pm 5 [0,1,2,3,4])) fun _ _ => ?_
 refine wg (mpl_back0 (view_View_room.r h866) (pm 4 [3,0,1,2])) fun _ _ => ?_
 obtain rfl := Gets.out H
 exact rt i2 rfl g872 3 [2,0,1] 0 (.cons (res_tmp rfl) .nil)
theorem concourseref07_Heads.c {k : Nat} {a0 : RDag} {r : (List ByteArray)} (h : concourseref07_Heads.f k a0 = some r) : Tr Tryz.prog 19 [agg (RDag.enc a0)] [] (γ := OV) (fun _ => True) (fun g => eq g.1) (fun g => [own strK g.1 r]) := by
 unfold concourseref07_Heads.f at h
 refine Tr.body Tryz.func19 (c := _) rfl Tryz.ntmps19 (Nat.le_of_ble_eq_true rfl) fun R0 F => ?_
 replace h := Gets.of h
 have H := h
 clear h
 refine WP.seq <| rg 2 1 <| Dv.box rfl trivial rfl cA nofun fun b873 => as0 rfl rfl <| .fin <| WP.seq <| rg 3 0 <| lds 0 rfl trivial rfl sg36 rfl rfl <| el H fun t874 h875 H => cl rfl cal16 rfl (concourseref07_All.c h875) <| as0 rfl rfl <| .fin <| WP.seq <| rg 1 0 <| as0 rfl rfl <| .fin <| WP.seqn H (fun q908 : (Int × Bool × (List ByteArray)) × OV => q908.1) (fun q908 : (Int × Bool × (List ByteArray)) × OV => [(0, agg (RDag.enc a0)), (1, eq (.pointer (some ⟨b873, 0, none⟩))), (2, eq (.slice none 0 0)), (3, sl Event.K t874), (4, eq q908.2.1), (5, vI q908.1.1), (14, vB q908.1.2.1)]) (fun q908 : (Int × Bool × (List ByteArray)) × OV => [blk b873 36 (RDag.enc a0), own strK q908.2.1 q908.1.2.2] ++ F) (fun q908 H => ?_) (fun H => ?_)
 ·
  obtain ⟨p876, v877⟩ := q908
  refine WP.seq <| rg 2 0 <| mv0 rfl rfl <| as0 rfl rfl <| .fin ?_
  obtain rfl := Gets.out H
  exact rt i2 rfl v877 2 [0,1] 1 (.cons (res_tmp rfl) .nil)
 refine WP.seq <| rg 1 0 <| as0 rfl rfl <| .fin <| WP.block <| wg (st_nil strK none) fun _ _ => ?_
 refine wg (sg 2 [1,0] 0) fun _ _ => ?_
 refine lp (fun j_ (p907 : Int × (List ByteArray) × OV) => concourseref07_Heads.l0 k a0 t874 j_ p907.1 p907.2.1) (0, ([] : List ByteArray), nilV) H (fun p907 => [(0, agg (RDag.enc a0)), (1, eq (.pointer (some ⟨b873, 0, none⟩))), (2, eq (.slice none 0 0)), (3, sl Event.K t874), (4, eq p907.2.2.1), (5, vI p907.1)]) (fun p907 => [blk b873 36 (RDag.enc a0), own strK p907.2.2.1 p907.2.1] ++ F) ?_
 rintro j_ ⟨x878, x879, v880⟩ H
 rcases j_ with _ | j906
 ·
  exact (Gets.no H).elim
 replace H : Gets (concourseref07_Heads.l0 k a0 t874 (j906 + 1) x878 x879) _ := H
 rw [concourseref07_Heads.l0] at H
 refine WP.seq <| WP.seq <| rg 4 0 <| mv0 rfl rfl <| mv0 rfl rfl <| Dv.lenl rfl trivial rfl Tryz.underlying23 <| bn0 rfl rfl rfl run_lt <| .fin <| cd H rfl (fun _ H => ?_) (fun _ H => ?_)
 rotate_left
 ·
  refine WP.exit ?_
  replace H := Gets.out H
  exact jn ((x878, decide (x878 < (t874.length : Int)), x879), v880) H
 refine WP.skip <| WP.seqn H (fun q905 : (Bool × Int × Bool × Bool × (List ByteArray)) × OV => q905.1) (fun q905 : (Bool × Int × Bool × Bool × (List ByteArray)) × OV => [(0, agg (RDag.enc a0)), (1, eq (.pointer (some ⟨b873, 0, none⟩))), (2, eq (.slice none 0 0)), (3, sl Event.K t874), (4, eq q905.2.1), (5, vI x878), (6, vB q905.1.1), (7, vI q905.1.2.1), (14, vB (decide (x878 < (t874.length : Int)))), (21, vB q905.1.2.2.1), (53, vB q905.1.2.2.2.1)]) (fun q905 : (Bool × Int × Bool × Bool × (List ByteArray)) × OV => [blk b873 36 (RDag.enc a0), own strK q905.2.1 q905.1.2.2.2.2] ++ F) (fun q905 H => ?_) (fun H => ?_)
 ·
  obtain ⟨p882, v883⟩ := q905
  exact rg 3 0 <| mv0 rfl rfl <| bn0 rfl rfl rfl run_add <| as0 rfl rfl <| .fin <| bk j906 (w64 (x878 + 1), p882.2.2.2.2, v883) H
 refine WP.block <| WP.seq <| rg 1 0 <| as0 rfl rfl <| .fin <| WP.seqn H id (fun p884 : Bool × Int × Bool => [(0, agg (RDag.enc a0)), (1, eq (.pointer (some ⟨b873, 0, none⟩))), (2, eq (.slice none 0 0)), (3, sl Event.K t874), (4, eq v880.1), (5, vI x878), (6, vB p884.1), (7, vI p884.2.1), (14, vB (decide (x878 < (t874.length : Int)))), (21, vB p884.2.2)]) (fun p884 : Bool × Int × Bool => [blk b873 36 (RDag.enc a0), own strK v880.1 x879] ++ F) (fun p884 H => ?_) (fun H => ?_)
 ·
  refine WP.seq <| rg 1 0 <| mv0 rfl rfl <| .fin <| cd H rfl (fun _ H => ?_) (fun _ H => ?_)
  rotate_left
  ·
   refine WP.skip ?_
   replace H := Gets.out H
   exact jn ((p884.1, p884.2.1, p884.2.2, p884.1, x879), v880) H
  refine rg 9 128 <| mv0 rfl rfl <| mv0 rfl rfl <| mv0 rfl rfl <| gr H fun g886 H => Dv.ixr rfl trivial rfl rfl Tryz.underlying23 Tryz.underlying33 c33 g886.1 g886.2 <| fr rfl trivial rfl fa33_0 rfl <| ldR rfl trivial rfl sc9 rfl <| Dv.lit strK ([(Event.K.at t874 x878).fID] : List ByteArray) (css := [[vS ((Event.K.at t874 x878).fID)]]) rfl trivial Tryz.underlying31 Tryz.underlying9 c9 z9 rfl (by decide) (by decide) rfl ⟨(cells_one (one_eq rfl)), trivial⟩ rfl rfl rfl <| gr H fun g887 H => ap strK 1 ([(Event.K.at t874 x878).fID] : List ByteArray) src_sl Tryz.underlying31 (.inr ⟨_, Tryz.underlying31⟩) inf9 g887 nofun fun v888 => ?_
  refine as0 rfl rfl <| .fin ?_
  replace H := Gets.out H
  exact jn ((p884.1, p884.2.1, p884.2.2, p884.1, x879 ++ ([(Event.K.at t874 x878).fID] : List ByteArray)), v888) H
 refine WP.seq <| rg 1 0 <| as0 rfl rfl <| .fin <| WP.block <| wg (sg 2 [0,1] 0) fun _ _ => ?_
 refine lp (fun j_ (p904 : Bool × Int) => concourseref07_Heads.l1 k a0 t874 x878 j_ p904.1 p904.2) (true, 0) H (fun p904 => [(0, agg (RDag.enc a0)), (1, eq (.pointer (some ⟨b873, 0, none⟩))), (2, eq (.slice none 0 0)), (3, sl Event.K t874), (4, eq v880.1), (5, vI x878), (6, vB p904.1), (7, vI p904.2), (14, vB (decide (x878 < (t874.length : Int))))]) (fun p904 => [blk b873 36 (RDag.enc a0), own strK v880.1 x879] ++ F) ?_
 rintro j_ ⟨x889, x890⟩ H
 rcases j_ with _ | j903
 ·
  exact (Gets.no H).elim
 replace H : Gets (concourseref07_Heads.l1 k a0 t874 x878 (j903 + 1) x889 x890) _ := H
 rw [concourseref07_Heads.l1] at H
 refine WP.seq <| WP.seq <| rg 5 0 <| mv0 rfl rfl <| fb rfl trivial rfl fa36_1 <| ld 0 rfl trivial rfl sc23 rfl rfl <| Dv.lenl rfl trivial rfl Tryz.underlying23 <| bn0 rfl rfl rfl run_lt <| .fin <| cd H rfl (fun _ H => ?_) (fun _ H => ?_)
 rotate_left
 ·
  refine WP.exit ?_
  replace H := Gets.out H
  exact jn (x889, x890, decide (x890 < (a0.fL.length : Int))) H
 refine WP.skip <| WP.seqn H id (fun p892 : Bool × Int × Bool => [(0, agg (RDag.enc a0)), (1, eq (.pointer (some ⟨b873, 0, none⟩))), (2, eq (.slice none 0 0)), (3, sl Event.K t874), (4, eq v880.1), (5, vI x878), (6, vB p892.1), (7, vI x890), (8, vI p892.2.1), (14, vB (decide (x878 < (t874.length : Int)))), (21, vB (decide (x890 < (a0.fL.length : Int)))), (32, vB p892.2.2)]) (fun p892 : Bool × Int × Bool => [blk b873 36 (RDag.enc a0), own strK v880.1 x879] ++ F) (fun p892 H => ?_) (fun H => ?_)
 ·
  exact rg 3 0 <| mv0 rfl rfl <| bn0 rfl rfl rfl run_add <| as0 rfl rfl <| .fin <| bk j903 (p892.1, w64 (x890 + 1)) H
 refine WP.block <| WP.seq <| rg 1 0 <| as0 rfl rfl <| .fin <| WP.block <| wg (sg 2 [0,1] 0) fun _ _ => ?_
 refine lp (fun j_ (p902 : Bool × Int) => concourseref07_Heads.l2 k a0 t874 x878 x890 j_ p902.1 p902.2) (x889, 0) H (fun p902 => [(0, agg (RDag.enc a0)), (1, eq (.pointer (some ⟨b873, 0, none⟩))), (2, eq (.slice none 0 0)), (3, sl Event.K t874), (4, eq v880.1), (5, vI x878), (6, vB p902.1), (7, vI x890), (8, vI p902.2), (14, vB (decide (x878 < (t874.length : Int)))), (21, vB (decide (x890 < (a0.fL.length : Int))))]) (fun p902 => [blk b873 36 (RDag.enc a0), own strK v880.1 x879] ++ F) ?_
 rintro j_ ⟨x893, x894⟩ H
 rcases j_ with _ | j901
 ·
  exact (Gets.no H).elim
 replace H : Gets (concourseref07_Heads.l2 k a0 t874 x878 x890 (j901 + 1) x893 x894) _ := H
 rw [concourseref07_Heads.l2] at H
 refine WP.seq <| WP.seq <| rg 9 0 <| mv0 rfl rfl <| fb rfl trivial rfl fa36_1 <| ld 0 rfl trivial rfl sc23 rfl rfl <| mv0 rfl rfl <| gr H fun g895 H => Dv.ixr rfl trivial rfl rfl Tryz.underlying23 Tryz.underlying33 c33 g895.1 g895.2 <| fr rfl trivial rfl fa33_2 rfl <| ldR rfl trivial rfl sc31 rfl <| Dv.lenl rfl trivial rfl Tryz.underlying31 <| bn0 rfl rfl rfl run_lt <| .fin <| cd H rfl (fun _ H => ?_) (fun _ H => ?_)
 rotate_left
 ·
  refine WP.exit ?_
  replace H := Gets.out H
  exact jn (x893, x894, decide (x894 < (((Event.K.at a0.fL x890).fParents).length : Int))) H
 refine WP.skip <| WP.seq <| WP.block <| dg Tryz.checked.mixed 19 0 <| mv0 rfl rfl <| mv0 rfl rfl ?_
 cases c897 : x893
 ·
  replace H := Gets.cf H c897
  exact sk rfl rfl <| sk rfl rfl <| sk rfl rfl <| sk rfl rfl <| sk rfl rfl <| sk rfl rfl <| sk rfl rfl <| sk rfl rfl <| sk rfl rfl <| sk rfl rfl <| sk rfl rfl <| sk rfl rfl <| sk rfl rfl <| sk rfl rfl <| sk rfl rfl <| pf0 rfl rfl rfl <| as0 rfl rfl <| .fin <| rg 3 0 <| mv0 rfl rfl <| bn0 rfl rfl rfl run_add <| as0 rfl rfl <| .fin <| bk j901 (false, w64 (x894 + 1)) H
 replace H := Gets.ct H c897
 exact fb rfl (gg rfl) rfl fa36_1 <| ld 0 rfl (gg rfl) rfl sc23 rfl rfl <| mvg rfl rfl rfl <| gr H fun g898 H => Dv.ixr rfl (gg rfl) rfl rfl Tryz.underlying23 Tryz.underlying33 c33 g898.1 g898.2 <| fr rfl (gg rfl) rfl fa33_2 rfl <| ldR rfl (gg rfl) rfl sc31 rfl <| mvg rfl rfl rfl <| gr H fun g899 H => Dv.ixr rfl (gg rfl) rfl rfl Tryz.underlying31 Tryz.underlying9 c9 g899.1 g899.2 <| ldR rfl (gg rfl) rfl sc9 rfl <| mvg rfl rfl rfl <| mvg rfl rfl rfl <| gr H fun g900 H => Dv.ixr rfl (gg rfl) rfl rfl Tryz.underlying23 Tryz.underlying33 c33 g900.1 g900.2 <| fr rfl (gg rfl) rfl fa33_0 rfl <| ldR rfl (gg rfl) rfl sc9 rfl <| bng rfl rfl rfl rfl run_sne <| pt0 rfl rfl rfl <| as0 rfl rfl <| .fin <| rg 3 0 <| mv0 rfl rfl <| bn0 rfl rfl rfl run_add <| as0 rfl rfl <| .fin <| bk j901 (!decide ((strK.at ((Event.K.at a0.fL x890).fParents) x894) = ((Event.K.at t874 x878).fID)), w64 (x894 + 1)) H
theorem slices_Sort_string.c {a0 : List ByteArray} {p0_ : OV} {r : List ByteArray} (h : slices_Sort_string.f a0 = some r) : Tr Tryz.prog 59 [eq p0_.1] [own strK p0_.1 a0] (γ := Unit) (fun _ => True) (fun g => tup []) (fun g => [own strK p0_.1 r]) := by
 unfold slices_Sort_string.f at h
 obtain ⟨h0, h5⟩ := (Gets.of h).grd
 obtain rfl := Gets.out h5
 exact sort_tr (fun blk off cap ss w => Go.Proofs.Any.slices_Sort_string Tryz.lays190 blk off cap ss w) (fun q cap w => Go.Proofs.Any.slices_Sort_string_none Tryz.lays190 q cap w) h0

theorem view_View_Rooms.c {a0 : VView} {b0_ : Nat} {v0_0 : OV} {r : List ByteArray} (h : view_View_Rooms.f a0 = some r) : Tr Tryz.prog 20 [eq (.pointer (some ⟨b0_, 0, none⟩))] [blk b0_ 80 [eq v0_0.1], mpo Value.string DDag.O v0_0.1 a0.fdags] (γ := OV) (fun _ => True) (fun g => eq g.1) (fun g => [blk b0_ 80 [eq v0_0.1], mpo Value.string DDag.O v0_0.1 a0.fdags, own strK g.1 r]) := by
  unfold view_View_Rooms.f at h
  obtain ⟨h0, h5⟩ := (Gets.of h).grd
  obtain rfl := Gets.out h5
  clear h h5
  refine Tr.body Tryz.func20 (c := _) rfl Tryz.ntmps20 (Nat.le_of_ble_eq_true rfl) fun R0 F => ?_
  refine WP.seq <| rg 1 0 <| as0 rfl rfl <| .fin <| WP.seq <| rg 1 0 <| as0 rfl rfl <| .fin ?_
  refine WP.seqj (β := List Nat × OV) (fun b => b.1.Perm (List.range a0.fdags.length)) (fun b => [(3, eq b.2.1)]) (fun b => [own strK b.2.1 (selM a0.fdags (fun e => some e.1) b.1), blk b0_ 80 [eq v0_0.1], mpo Value.string DDag.O v0_0.1 a0.fdags] ++ F) (fun b hb => ?_) ?_
  rotate_left
  · refine WP.seq <| rg 5 16 <| mv0 rfl rfl <| Dv.nilp rfl trivial rfl <| fb rfl trivial rfl fa80_0 <| ld 0 rfl trivial rfl sc78 rfl rfl ?_
    refine Dv.gh (l' := fun ps : List OV => [mp Value.string (fun p : OV => eq p.1) v0_0.1 (zipK a0.fdags ps), thg DDag.O a0.fdags ps, blk b0_ 80 [eq v0_0.1]] ++ F) (gh_of (mpo_opn 1 rfl)) (fun ps hps => ?_)
    refine Dv.rgb (jj := 0) rfl trivial rfl rfl Tryz.underlying78 nofun (fun q => .fin ?_)
    refine WP.gh (l' := fun _ : Unit => [rng Value.string (fun p : OV => eq p.1) v0_0.1 q.1 (zipK a0.fdags ps) [], thg DDag.O a0.fdags ps, blk b0_ 80 [eq v0_0.1]] ++ F) (gh_of (ok := fun _ => True) fun R w k => ⟨(), trivial, k⟩) (fun _ _ => ?_)
    refine WP.gh (l' := fun _ : Unit => [own strK nilV.1 [], rng Value.string (fun p : OV => eq p.1) v0_0.1 q.1 (zipK a0.fdags ps) [], thg DDag.O a0.fdags ps, blk b0_ 80 [eq v0_0.1]] ++ F) (gh_of (st_nil strK none)) (fun _ _ => ?_)
    refine WP.block ?_
    refine WP.weak (E' := (fun b : List Nat × OV => [(3, eq b.2.1), (9, eq q.1)]) ([], nilV)) (weak_cons rfl (weak_cons rfl weak_nil)) (WP.loop (β := List Nat × OV) (fun k b => b.1.length + k = a0.fdags.length) (fun b => [(3, eq b.2.1), (9, eq q.1)]) (fun b => [own strK b.2.1 (selM a0.fdags (fun e => some e.1) b.1), rng Value.string (fun p : OV => eq p.1) v0_0.1 q.1 (zipK a0.fdags ps) b.1, thg DDag.O a0.fdags ps, blk b0_ 80 [eq v0_0.1]] ++ F) ?_ (k := a0.fdags.length) (b := ([], nilV)) (Nat.zero_add _))
    rintro k ⟨is, v⟩ hk
    replace hk : is.length + k = a0.fdags.length := hk
    refine WP.seq <| rg 2 1 <| Dv.rgn (jj := 1) rfl trivial rfl rfl nofun (fun z hz => ?_)
    rcases z with _ | j
    · have hz : is.Perm (List.range (zipK a0.fdags ps).length) := hz
      rw [zipK_len hps.1] at hz
      refine ex0 rfl trivial rfl rfl <| .fin <| WP.seq <| WP.cond rfl nofun (fun _ => WP.exit ?_)
      refine Dn.gh (l' := fun _ : Unit => [own strK v.1 (selM a0.fdags (fun e => some e.1) is), rng Value.string (fun p : OV => eq p.1) v0_0.1 q.1 (zipK a0.fdags ps) is, thg DDag.O a0.fdags ps, blk b0_ 80 [eq v0_0.1]] ++ F) (gh_of (ok := fun _ => True) fun R w k => ⟨(), trivial, k⟩) (fun _ _ => ?_)
      refine Dn.gh (l' := fun _ : Unit => [mp Value.string (fun p : OV => eq p.1) v0_0.1 (zipK a0.fdags ps), own strK v.1 (selM a0.fdags (fun e => some e.1) is), thg DDag.O a0.fdags ps, blk b0_ 80 [eq v0_0.1]] ++ F) (gh_of (st_rge (pm 4 [1,0,2,3]))) (fun _ _ => ?_)
      refine Dn.gh (l' := fun _ : Unit => [mpo Value.string DDag.O v0_0.1 a0.fdags, own strK v.1 (selM a0.fdags (fun e => some e.1) is), blk b0_ 80 [eq v0_0.1]] ++ F) (gh_of (mpo_shut hps rfl (pm 4 [0,2,1,3]))) (fun _ _ => ?_)
      exact Jn.mk (is, v) hz (weak_cons rfl weak_nil) (perm_ton 3 [1,2,0] (by kernel_rfl) rfl rfl)
    have hz : j < (zipK a0.fdags ps).length ∧ j ∉ is ∧ is.length < (zipK a0.fdags ps).length := hz
    obtain ⟨e, p, he, hp, hep⟩ := zipK_get hps hz.1
    have hlt : is.length < a0.fdags.length := by rw [← zipK_len hps.1]; exact hz.2.2
    have hsl := Nat.le_trans (selM_len (m := a0.fdags) (f := (fun e => some e.1)) (is := is)) (Nat.le_of_lt hlt)
    have e1 : nxV Value.string (fun p : OV => eq p.1) (zipK a0.fdags ps) (some j) = tup [vB true, vS e.1, eq p.1] := by simp only [nxV, hep]
    rw [e1]
    refine ex0 rfl trivial rfl rfl <| .fin <| WP.seq <| WP.cond rfl (fun _ => WP.skip ?_) nofun
    refine WP.gh (l' := fun _ : Unit => [own strK v.1 (selM a0.fdags (fun e => some e.1) is), rng Value.string (fun p : OV => eq p.1) v0_0.1 q.1 (zipK a0.fdags ps) (is ++ [j]), thg DDag.O a0.fdags ps, blk b0_ 80 [eq v0_0.1]] ++ F) (gh_of (ok := fun _ => True) fun R w k => ⟨(), trivial, k⟩) (fun _ _ => ?_)
    refine WP.block <| WP.seq <| rg 3 0 <| Dv.rge 1 rfl trivial rfl rfl hep ?_
    refine ex0 rfl trivial rfl rfl <| as0 rfl rfl <| .fin ?_
    have e6 := selM_some (f := (fun e => some e.1)) (is := is) he rfl
    have hbd : (selM a0.fdags (fun e => some e.1) is).length + ([e.1] : List ByteArray).length ≤ 9223372036854775807 ∧ ((selM a0.fdags (fun e => some e.1) is).length + ([e.1] : List ByteArray).length) * 16 ≤ 140737488355328 := by rw [List.length_singleton]; omega
    refine rg 5 8 <| mv0 rfl rfl <| mv0 rfl rfl <| Dv.lit strK ([e.1] : List ByteArray) (css := [[vS e.1]]) rfl trivial Tryz.underlying31 Tryz.underlying9 c9 z9 rfl (by decide) (by decide) rfl ⟨(cells_one (one_eq rfl)), trivial⟩ rfl rfl rfl <| ap strK 0 ([e.1] : List ByteArray) src_sl Tryz.underlying31 (.inr ⟨_, Tryz.underlying31⟩) inf9 hbd nofun fun v9 => as0 rfl rfl <| .fin ?_
    rw [e6]
    exact Back.mk (k - 1) (is ++ [j], v9) (by omega) (by show (is ++ [j]).length + (k - 1) = _; rw [List.length_append, List.length_singleton]; omega) (weak_cons rfl (weak_cons rfl weak_nil)) (List.Perm.refl _)
  obtain ⟨is, v3⟩ := b
  replace hb : is.Perm (List.range a0.fdags.length) := hb
  have hp := selM_perm (f := (fun e => some e.1)) hb
  have hs : slices_Sort_string.f (selM a0.fdags (fun e => some e.1) is) = some (srtS (a0.fdags.map (·.1))) := by
    have e7 : a0.fdags.filterMap (fun e => some e.1) = a0.fdags.map (·.1) := by rw [← List.filterMap_eq_map]; rfl
    rw [e7] at hp
    unfold slices_Sort_string.f Sp.grd
    rw [if_pos (by rw [hp.length_eq, List.length_map]; omega), srtS_eq hp]
  refine WP.seq <| rg 2 2 <| mv0 rfl rfl <| cx 3 [0,1,2] cal59 (slices_Sort_string.c hs (p0_ := v3)) nofun fun _ _ => .fin ?_
  refine WP.seq <| rg 2 0 <| mv0 rfl rfl <| as0 rfl rfl <| .fin <| rt i2 rfl v3 3 [1,2,0] 0 (.cons (res_tmp rfl) .nil)
theorem concourseref10_Rooms.c {k : Nat} {a0 : RView} {r : (List ByteArray)} (h : concourseref10_Rooms.f k a0 = some r) : Tr Tryz.prog 21 [agg (RView.enc a0)] [] (γ := OV) (fun _ => True) (fun g => eq g.1) (fun g => [own strK g.1 r]) := by
 unfold concourseref10_Rooms.f at h
 refine Tr.body Tryz.func21 (c := _) rfl Tryz.ntmps21 (Nat.le_of_ble_eq_true rfl) fun R0 F => ?_
 replace h := Gets.of h
 have H := h
 clear h
 refine WP.seq <| rg 2 1 <| Dv.box rfl trivial rfl cA nofun fun b909 => as0 rfl rfl <| .fin <| WP.seq <| rg 1 0 <| as0 rfl rfl <| .fin <| WP.seqn H (fun q921 : (Int × Bool × (List ByteArray)) × OV => q921.1) (fun q921 : (Int × Bool × (List ByteArray)) × OV => [(0, agg (RView.enc a0)), (1, eq (.pointer (some ⟨b909, 0, none⟩))), (2, eq (.slice none 0 0)), (3, eq q921.2.1), (4, vI q921.1.1), (9, vB q921.1.2.1)]) (fun q921 : (Int × Bool × (List ByteArray)) × OV => [blk b909 28 (RView.enc a0), own strK q921.2.1 q921.1.2.2] ++ F) (fun q921 H => ?_) (fun H => ?_)
 ·
  obtain ⟨p910, v911⟩ := q921
  refine WP.seq <| rg 2 0 <| mv0 rfl rfl <| as0 rfl rfl <| .fin ?_
  obtain rfl := Gets.out H
  exact rt i2 rfl v911 2 [0,1] 1 (.cons (res_tmp rfl) .nil)
 refine WP.seq <| rg 1 0 <| as0 rfl rfl <| .fin <| WP.block <| wg (st_nil strK none) fun _ _ => ?_
 refine wg (sg 2 [1,0] 0) fun _ _ => ?_
 refine lp (fun j_ (p920 : Int × (List ByteArray) × OV) => concourseref10_Rooms.l0 k a0 j_ p920.1 p920.2.1) (0, ([] : List ByteArray), nilV) H (fun p920 => [(0, agg (RView.enc a0)), (1, eq (.pointer (some ⟨b909, 0, none⟩))), (2, eq (.slice none 0 0)), (3, eq p920.2.2.1), (4, vI p920.1)]) (fun p920 => [blk b909 28 (RView.enc a0), own strK p920.2.2.1 p920.2.1] ++ F) ?_
 rintro j_ ⟨x912, x913, v914⟩ H
 rcases j_ with _ | j919
 ·
  exact (Gets.no H).elim
 replace H : Gets (concourseref10_Rooms.l0 k a0 (j919 + 1) x912 x913) _ := H
 rw [concourseref10_Rooms.l0] at H
 refine WP.seq <| WP.seq <| rg 5 0 <| mv0 rfl rfl <| fb rfl trivial rfl fa28_0 <| ld 0 rfl trivial rfl sc26 rfl rfl <| Dv.lenl rfl trivial rfl Tryz.underlying26 <| bn0 rfl rfl rfl run_lt <| .fin <| cd H rfl (fun _ H => ?_) (fun _ H => ?_)
 rotate_left
 ·
  refine WP.exit ?_
  replace H := Gets.out H
  exact jn ((x912, decide (x912 < (a0.fD.length : Int)), x913), v914) H
 refine WP.skip <| WP.seq <| WP.block <| rg 10 256 <| mv0 rfl rfl <| fb rfl trivial rfl fa28_0 <| ld 0 rfl trivial rfl sc26 rfl rfl <| mv0 rfl rfl <| gr H fun g916 H => Dv.ixr rfl trivial rfl rfl Tryz.underlying26 Tryz.underlying36 c36 g916.1 g916.2 <| fr rfl trivial rfl fa36_0 rfl <| ldR rfl trivial rfl sc9 rfl <| Dv.lit strK ([(RDag.K.at a0.fD x912).fRoom] : List ByteArray) (css := [[vS ((RDag.K.at a0.fD x912).fRoom)]]) rfl trivial Tryz.underlying31 Tryz.underlying9 c9 z9 rfl (by decide) (by decide) rfl ⟨(cells_one (one_eq rfl)), trivial⟩ rfl rfl rfl <| gr H fun g917 H => ap strK 1 ([(RDag.K.at a0.fD x912).fRoom] : List ByteArray) src_sl Tryz.underlying31 (.inr ⟨_, Tryz.underlying31⟩) inf9 g917 nofun fun v918 => ?_
 exact as0 rfl rfl <| .fin <| rg 3 0 <| mv0 rfl rfl <| bn0 rfl rfl rfl run_add <| as0 rfl rfl <| .fin <| bk j919 (w64 (x912 + 1), x913 ++ ([(RDag.K.at a0.fD x912).fRoom] : List ByteArray), v918) H
theorem dag_Dag_Event.c {a0 : DDag} {a1 : ByteArray} {v0_0 : OV} {b0_ : Nat} {r : Event × Bool} (h : dag_Dag_Event.f a0 a1 = some r) : Tr Tryz.prog 95 [eq (.pointer (some ⟨b0_, 0, none⟩)), vS a1] [blk b0_ 102 [vS a0.froom, eq v0_0.1], mpo Value.string DNode.O v0_0.1 a0.fnodes] (γ := Unit) (fun _ => True) (fun g => tup [agg (Event.enc r.1), vB r.2]) (fun g => [blk b0_ 102 [vS a0.froom, eq v0_0.1], mpo Value.string DNode.O v0_0.1 a0.fnodes]) := by
 unfold dag_Dag_Event.f at h
 refine Tr.body Tryz.func95 (c := _) rfl Tryz.ntmps95 (Nat.le_of_ble_eq_true rfl) fun R0 F => ?_
 replace h := Gets.of h
 have H := h
 clear h
 refine WP.seq <| rg 2 1 <| al rfl trivial zc33 nofun fun b922 => as0 rfl rfl <| .fin <| WP.seq <| WP.seq <| rg 4 0 <| mv0 rfl rfl <| mv0 rfl rfl <| el H fun t923 h924 H => cll 3 [1,2,0] cal86 (dag_Dag_Has.c h924 (b0_ := b0_) (v0_0 := v0_0)) ?_
 refine un0 rfl rfl (run_not _) <| .fin <| cd H rfl (fun _ H => ?_) (fun _ H => ?_)
 ·
  refine WP.seq <| rg 3 2 <| Dv.bld (css := []) rfl trivial Tryz.underlying33 pl33 z33 rfl trivial rfl rfl <| sx 0 rfl trivial rfl rfl cA sz33 rfl rfl rfl nofun ?_
  refine as0 rfl rfl <| .fin ?_
  obtain rfl := Gets.out H
  exact rt i2 rfl () 3 [0,1,2] 1 (.cons (res_wk (res_cells rfl Tryz.underlying33 rfl c33 (mem_at 0 rfl) rfl) (wk_agg (.cons wk_id (.cons wk_id (.cons wk_nil (.cons wk_id (.cons wk_id (.cons wk_id .nil)))))))) (.cons (res_tmp rfl) .nil))
 refine WP.skip <| WP.seq <| rg 12 1024 <| mv0 rfl rfl <| Dv.nilp rfl trivial rfl <| fb rfl trivial rfl fa102_1 <| ld 1 rfl trivial rfl sc100 rfl rfl <| mv0 rfl rfl <| vg (mpo_opn 2 rfl) fun z926 h927 => ?_
 refine Dv.mlv nilP rfl trivial rfl (mem_at 0 rfl) rfl Tryz.underlying100 (keyOk_str Tryz.underlying9) z103 (fun _ => rfl) <| gr H fun g928 H => vg (mpo_foc h927 rfl g928 (pm 4 [1,0,2,3])) fun _ _ => ?_
 refine Dv.nilA DNode.nn rfl trivial rfl (mem_at 0 rfl) <| vg (DNode.opn 0 rfl) fun g929 h930 => ?_
 refine fp h930 rfl trivial rfl fa105_0 <| lds 0 rfl trivial rfl sg33 rfl rfl <| el H fun t931 h932 H => cl rfl cal88 rfl (dag_own.c h932) <| sx 3 rfl trivial rfl rfl cA sz33 rfl rfl rfl nofun ?_
 refine as0 rfl rfl <| .fin <| wg (DNode.shut (p := ((mget (zipK a0.fnodes z926) a1).getD nilP)) (m := (mget a0.fnodes a1).getD default) g929 h930 (pm 5 [0,1,2,3,4])) fun _ _ => ?_
 refine wg (mpo_unf0 h927 rfl g928 (pm 5 [0,1,2,3,4])) fun _ _ => ?_
 refine wg (mpo_shut h927 rfl (pm 4 [1,0,2,3])) fun _ _ => ?_
 obtain rfl := Gets.out H
 exact rt i2 rfl () 3 [1,2,0] 1 (.cons (res_cells rfl Tryz.underlying33 rfl c33 (mem_at 1 rfl) rfl) (.cons (res_tmp rfl) .nil))
theorem view_View_Fits.c {a0 : VView} {a1 : ByteArray} {a2 : ByteArray} {a3 : ByteArray} {v0_0 : OV} {b0_ : Nat} {r : Int} (h : view_View_Fits.f a0 a1 a2 a3 = some r) : Tr Tryz.prog 60 [eq (.pointer (some ⟨b0_, 0, none⟩)), vS a1, vS a2, vS a3] [blk b0_ 80 [eq v0_0.1], mpo Value.string DDag.O v0_0.1 a0.fdags] (γ := Unit) (fun _ => True) (fun g => vI r) (fun g => [blk b0_ 80 [eq v0_0.1], mpo Value.string DDag.O v0_0.1 a0.fdags]) := by
 unfold view_View_Fits.f at h
 refine Tr.body Tryz.func60 (c := _) rfl Tryz.ntmps60 (Nat.le_of_ble_eq_true rfl) fun R0 F => ?_
 replace h := Gets.of h
 have H := h
 clear h
 refine WP.seq <| rg 1 0 <| as0 rfl rfl <| .fin <| WP.seq <| rg 5 4 <| mv0 rfl rfl <| mv0 rfl rfl <| el H fun t933 h934 H => cx 2 [0,1] cal52 (view_View_room.c h934 (b0_ := b0_) (v0_0 := v0_0)) nofun fun v935 _ => ?_
 refine Dv.mkc (fst := #[v935.1]) rfl trivial rfl <| as0 rfl rfl <| .fin <| WP.seq <| rg 9 192 <| mv0 rfl rfl <| mv0 rfl rfl <| vg (DDag.opn 2 rfl) fun g936 h937 => ?_
 refine el H fun t938 h939 H => Dv.callc (fst := #[v935.1]) (B := [blk g936.1 102 [vS t933.froom, eq g936.2.1], mpo Value.string DNode.O g936.2.1 t933.fnodes]) (F := [blk b0_ 80 [eq v0_0.1], mpl Value.string DDag.O v0_0.1 a0.fdags a1 v935] ++ F) rfl trivial rfl cal95 rfl (Tr.weak (dag_Dag_Event.c h939 (b0_ := g936.1) (v0_0 := g936.2)) (.cons (wk_ptr h937) (.cons wk_id .nil))) (perm_to (L := [blk g936.1 102 [vS t933.froom, eq g936.2.1], mpo Value.string DNode.O g936.2.1 t933.fnodes, blk b0_ 80 [eq v0_0.1], mpl Value.string DDag.O v0_0.1 a0.fdags a1 v935]) (F := F) [0, 1, 2, 3] rfl rfl rfl) <| mv0 rfl rfl <| ex0 rfl trivial rfl rfl <| ex0 rfl trivial rfl rfl <| al rfl trivial zc33 nofun fun b940 => sx 0 rfl trivial rfl rfl cA sz33 rfl rfl rfl nofun ?_
 refine as0 rfl rfl <| .fin <| WP.seq <| WP.block <| WP.seq <| rg 3 0 <| mv0 rfl rfl <| un0 rfl rfl (run_not _) <| as0 rfl rfl <| .fin <| cd H rfl (fun _ H => ?_) (fun _ H => ?_)
 ·
  refine WP.seq <| rg 1 0 <| as0 rfl rfl <| .fin <| wg (DDag.shut (p := v935) (m := t933) (g936.1, g936.2) h937 (pm 5 [1,2,0,3,4])) fun _ _ => ?_
  refine wg (mpl_back0 (view_View_room.r h934) (pm 4 [3,0,1,2])) fun _ _ => ?_
  obtain rfl := Gets.out H
  exact rt i2 rfl () 3 [1,2,0] 1 (.cons (res_tmp rfl) .nil)
 refine WP.seq <| WP.seq <| rg 3 0 <| mv0 rfl rfl <| bn0 rfl rfl rfl run_seq <| as0 rfl rfl <| .fin <| cd H rfl (fun _ H => ?_) (fun _ H => ?_)
 ·
  refine WP.skip <| cd H rfl (fun _ H => ?_) (fun _ H => ?_)
  ·
   refine WP.seq <| rg 1 0 <| as0 rfl rfl <| .fin <| wg (DDag.shut (p := v935) (m := t933) (g936.1, g936.2) h937 (pm 5 [1,2,0,3,4])) fun _ _ => ?_
   refine wg (mpl_back0 (view_View_room.r h934) (pm 4 [3,0,1,2])) fun _ _ => ?_
   obtain rfl := Gets.out H
   exact rt i2 rfl () 3 [1,2,0] 1 (.cons (res_tmp rfl) .nil)
  refine WP.skip <| WP.seq <| rg 1 0 <| as0 rfl rfl <| .fin <| wg (DDag.shut (p := v935) (m := t933) (g936.1, g936.2) h937 (pm 5 [1,2,0,3,4])) fun _ _ => ?_
  refine wg (mpl_back0 (view_View_room.r h934) (pm 4 [3,0,1,2])) fun _ _ => ?_
  obtain rfl := Gets.out H
  exact rt i2 rfl () 3 [1,2,0] 1 (.cons (res_tmp rfl) .nil)
 refine WP.seq <| rg 8 0 <| mv0 rfl rfl <| bn0 rfl rfl rfl run_seq <| mv0 rfl rfl ?_
 cases c944 : decide (a3 = (⟨#[109, 97, 105, 110]⟩ : ByteArray))
 ·
  replace H := Gets.cf H c944
  refine sk rfl rfl <| sk rfl rfl <| sk rfl rfl <| pf0 rfl rfl rfl <| as0 rfl rfl <| .fin <| WP.cond rfl nofun (fun _ => ?_)
  refine WP.seq <| rg 4 0 <| mv0 rfl rfl <| mv0 rfl rfl <| bn0 rfl rfl rfl run_seq <| as0 rfl rfl <| .fin <| cd H rfl (fun _ H => ?_) (fun _ H => ?_)
  ·
   refine WP.skip <| cd H rfl (fun _ H => ?_) (fun _ H => ?_)
   ·
    refine WP.seq <| rg 1 0 <| as0 rfl rfl <| .fin <| wg (DDag.shut (p := v935) (m := t933) (g936.1, g936.2) h937 (pm 5 [1,2,0,3,4])) fun _ _ => ?_
    refine wg (mpl_back0 (view_View_room.r h934) (pm 4 [3,0,1,2])) fun _ _ => ?_
    obtain rfl := Gets.out H
    exact rt i2 rfl () 3 [1,2,0] 1 (.cons (res_tmp rfl) .nil)
   refine WP.skip <| WP.seq <| rg 1 0 <| as0 rfl rfl <| .fin <| wg (DDag.shut (p := v935) (m := t933) (g936.1, g936.2) h937 (pm 5 [1,2,0,3,4])) fun _ _ => ?_
   refine wg (mpl_back0 (view_View_room.r h934) (pm 4 [3,0,1,2])) fun _ _ => ?_
   obtain rfl := Gets.out H
   exact rt i2 rfl () 3 [1,2,0] 1 (.cons (res_tmp rfl) .nil)
  refine rg 5 0 <| mv0 rfl rfl <| fb rfl trivial rfl fa33_3 <| ld 0 rfl trivial rfl sc9 rfl rfl <| bn0 rfl rfl rfl run_seq <| as0 rfl rfl <| .fin <| cd H rfl (fun _ H => ?_) (fun _ H => ?_)
  ·
   refine WP.seq <| rg 1 0 <| as0 rfl rfl <| .fin <| wg (DDag.shut (p := v935) (m := t933) (g936.1, g936.2) h937 (pm 5 [1,2,0,3,4])) fun _ _ => ?_
   refine wg (mpl_back0 (view_View_room.r h934) (pm 4 [3,0,1,2])) fun _ _ => ?_
   obtain rfl := Gets.out H
   exact rt i2 rfl () 3 [1,2,0] 1 (.cons (res_tmp rfl) .nil)
  refine WP.skip <| WP.seq <| rg 1 0 <| as0 rfl rfl <| .fin <| wg (DDag.shut (p := v935) (m := t933) (g936.1, g936.2) h937 (pm 5 [1,2,0,3,4])) fun _ _ => ?_
  refine wg (mpl_back0 (view_View_room.r h934) (pm 4 [3,0,1,2])) fun _ _ => ?_
  obtain rfl := Gets.out H
  exact rt i2 rfl () 3 [1,2,0] 1 (.cons (res_tmp rfl) .nil)
 replace H := Gets.ct H c944
 refine fb rfl (gg rfl) rfl fa33_3 <| ld 0 rfl (gg rfl) rfl sc9 rfl rfl <| bng rfl rfl rfl rfl run_seq <| pt0 rfl rfl rfl <| as0 rfl rfl <| .fin <| cd H rfl (fun _ H => ?_) (fun _ H => ?_)
 ·
  refine WP.skip <| cd H rfl (fun _ H => ?_) (fun _ H => ?_)
  ·
   refine WP.seq <| rg 1 0 <| as0 rfl rfl <| .fin <| wg (DDag.shut (p := v935) (m := t933) (g936.1, g936.2) h937 (pm 5 [1,2,0,3,4])) fun _ _ => ?_
   refine wg (mpl_back0 (view_View_room.r h934) (pm 4 [3,0,1,2])) fun _ _ => ?_
   obtain rfl := Gets.out H
   exact rt i2 rfl () 3 [1,2,0] 1 (.cons (res_tmp rfl) .nil)
  refine WP.skip <| WP.seq <| rg 1 0 <| as0 rfl rfl <| .fin <| wg (DDag.shut (p := v935) (m := t933) (g936.1, g936.2) h937 (pm 5 [1,2,0,3,4])) fun _ _ => ?_
  refine wg (mpl_back0 (view_View_room.r h934) (pm 4 [3,0,1,2])) fun _ _ => ?_
  obtain rfl := Gets.out H
  exact rt i2 rfl () 3 [1,2,0] 1 (.cons (res_tmp rfl) .nil)
 refine WP.seq <| rg 4 0 <| mv0 rfl rfl <| mv0 rfl rfl <| bn0 rfl rfl rfl run_seq <| as0 rfl rfl <| .fin <| cd H rfl (fun _ H => ?_) (fun _ H => ?_)
 ·
  refine WP.skip <| cd H rfl (fun _ H => ?_) (fun _ H => ?_)
  ·
   refine WP.seq <| rg 1 0 <| as0 rfl rfl <| .fin <| wg (DDag.shut (p := v935) (m := t933) (g936.1, g936.2) h937 (pm 5 [1,2,0,3,4])) fun _ _ => ?_
   refine wg (mpl_back0 (view_View_room.r h934) (pm 4 [3,0,1,2])) fun _ _ => ?_
   obtain rfl := Gets.out H
   exact rt i2 rfl () 3 [1,2,0] 1 (.cons (res_tmp rfl) .nil)
  refine WP.skip <| WP.seq <| rg 1 0 <| as0 rfl rfl <| .fin <| wg (DDag.shut (p := v935) (m := t933) (g936.1, g936.2) h937 (pm 5 [1,2,0,3,4])) fun _ _ => ?_
  refine wg (mpl_back0 (view_View_room.r h934) (pm 4 [3,0,1,2])) fun _ _ => ?_
  obtain rfl := Gets.out H
  exact rt i2 rfl () 3 [1,2,0] 1 (.cons (res_tmp rfl) .nil)
 refine rg 5 0 <| mv0 rfl rfl <| fb rfl trivial rfl fa33_3 <| ld 0 rfl trivial rfl sc9 rfl rfl <| bn0 rfl rfl rfl run_seq <| as0 rfl rfl <| .fin <| cd H rfl (fun _ H => ?_) (fun _ H => ?_)
 ·
  refine WP.seq <| rg 1 0 <| as0 rfl rfl <| .fin <| wg (DDag.shut (p := v935) (m := t933) (g936.1, g936.2) h937 (pm 5 [1,2,0,3,4])) fun _ _ => ?_
  refine wg (mpl_back0 (view_View_room.r h934) (pm 4 [3,0,1,2])) fun _ _ => ?_
  obtain rfl := Gets.out H
  exact rt i2 rfl () 3 [1,2,0] 1 (.cons (res_tmp rfl) .nil)
 refine WP.skip <| WP.seq <| rg 1 0 <| as0 rfl rfl <| .fin <| wg (DDag.shut (p := v935) (m := t933) (g936.1, g936.2) h937 (pm 5 [1,2,0,3,4])) fun _ _ => ?_
 refine wg (mpl_back0 (view_View_room.r h934) (pm 4 [3,0,1,2])) fun _ _ => ?_
 obtain rfl := Gets.out H
 exact rt i2 rfl () 3 [1,2,0] 1 (.cons (res_tmp rfl) .nil)
theorem concourselaw10_lives.c {k : Nat} {r : Bool} (h : concourselaw10_lives.f k = some r) : Pt Tryz.prog 22 [] (vB r) := by
 unfold concourselaw10_lives.f at h
 refine (Tr.body Tryz.func22 (c := _) rfl Tryz.ntmps22 (Nat.le_of_ble_eq_true rfl) fun R0 F => ?_).pt
 replace h := Gets.of h
 have H := h
 clear h
 refine WP.seq <| rg 1 0 <| as0 rfl rfl <| .fin <| WP.seq <| rg 2 1 <| el H fun t954 h955 H => cx 0 [] cal25 (view_New.c h955) nofun fun g956 _ => ?_
 refine as0 rfl rfl <| .fin <| WP.seq <| WP.seq <| rg 2 0 <| mv0 rfl rfl <| Dv.peq0 VView.nn rfl trivial rfl rfl Tryz.underlying25 (mem_at 0 rfl) <| .fin <| WP.cond rfl nofun (fun _ => ?_)
 refine WP.skip <| WP.seq <| rg 3 4 <| mv0 rfl rfl <| Dv.bld (css := [[vS (⟨#[36, 116]⟩ : ByteArray)], [vS (⟨#[33, 114, 58, 115]⟩ : ByteArray)], [vS (⟨#[64, 97, 58, 115]⟩ : ByteArray)]]) rfl trivial Tryz.underlying33 pl33 z33 rfl ⟨(cells_one (one_eq rfl)), ⟨(cells_one (one_eq rfl)), ⟨(cells_one (one_eq rfl)), trivial⟩⟩⟩ rfl rfl <| el H fun t958 h959 H => cx 1 [0] cal13 (Tr.weak (view_View_Add.c h959 (p0_ := g956)) (.cons wk_id (.cons (wk_agg (.cons wk_id (.cons wk_id (.cons wk_nil (.cons wk_id (.cons wk_id (.cons wk_id .nil))))))) .nil))) nofun fun _ _ => ?_
 refine .fin <| WP.seq <| rg 3 4 <| mv0 rfl rfl <| Dv.bld (css := [[vS (⟨#[36, 117]⟩ : ByteArray)], [vS (⟨#[33, 114, 58, 115]⟩ : ByteArray)], [vS (⟨#[64, 97, 58, 115]⟩ : ByteArray)], [vS (⟨#[36, 116]⟩ : ByteArray)]]) rfl trivial Tryz.underlying33 pl33 z33 rfl ⟨(cells_one (one_eq rfl)), ⟨(cells_one (one_eq rfl)), ⟨(cells_one (one_eq rfl)), ⟨(cells_one (one_eq rfl)), trivial⟩⟩⟩⟩ rfl rfl <| el H fun t960 h961 H => cx 1 [0] cal13 (Tr.weak (view_View_Add.c h961 (p0_ := g956)) (.cons wk_id (.cons (wk_agg (.cons wk_id (.cons wk_id (.cons wk_nil (.cons wk_id (.cons wk_id (.cons wk_id .nil))))))) .nil))) nofun fun _ _ => ?_
 refine .fin <| WP.seq <| rg 24 0 <| mv0 rfl rfl <| vg (VView.opn 0 rfl) fun g962 h963 => ?_
 refine el H fun t964 h965 H => cll 2 [0,1] cal60 (Tr.weak (view_View_Fits.c h965 (b0_ := g962.1) (v0_0 := g962.2)) (.cons (wk_ptr h963) (.cons wk_id (.cons wk_id (.cons wk_id .nil))))) ?_
 refine bn0 rfl rfl rfl run_eq <| mv0 rfl rfl ?_
 cases c966 : (t964 == 0)
 ·
  replace H := Gets.cf H c966
  refine sk rfl rfl <| sk rfl rfl <| sk rfl rfl <| pf0 rfl rfl rfl <| mv0 rfl rfl <| sk rfl rfl <| sk rfl rfl <| sk rfl rfl <| pf0 rfl rfl rfl <| mv0 rfl rfl <| sk rfl rfl <| sk rfl rfl <| sk rfl rfl <| pf0 rfl rfl rfl <| mv0 rfl rfl <| sk rfl rfl <| sk rfl rfl <| sk rfl rfl <| pf0 rfl rfl rfl <| as0 rfl rfl <| .fin <| wg (VView.shut (p := g956) (m := t960.2) (g962.1, g962.2) h963 (pm 2 [0,1])) fun _ _ => ?_
  obtain rfl := Gets.out H
  exact rt i2 rfl () 1 [0] 1 (.cons (res_tmp rfl) .nil)
 replace H := Gets.ct H c966
 refine mvg rfl rfl rfl <| el H fun t967 h968 H => cll 2 [0,1] cal60 (Tr.weak (view_View_Fits.c h968 (b0_ := g962.1) (v0_0 := g962.2)) (.cons (wk_ptr h963) (.cons wk_id (.cons wk_id (.cons wk_id .nil))))) ?_
 refine bng rfl rfl rfl rfl run_eq <| pt0 rfl rfl rfl <| mv0 rfl rfl ?_
 cases c969 : (t967 == 7)
 ·
  replace H := Gets.cf H c969
  refine sk rfl rfl <| sk rfl rfl <| sk rfl rfl <| pf0 rfl rfl rfl <| mv0 rfl rfl <| sk rfl rfl <| sk rfl rfl <| sk rfl rfl <| pf0 rfl rfl rfl <| mv0 rfl rfl <| sk rfl rfl <| sk rfl rfl <| sk rfl rfl <| pf0 rfl rfl rfl <| as0 rfl rfl <| .fin <| wg (VView.shut (p := g956) (m := t960.2) (g962.1, g962.2) h963 (pm 2 [0,1])) fun _ _ => ?_
  obtain rfl := Gets.out H
  exact rt i2 rfl () 1 [0] 1 (.cons (res_tmp rfl) .nil)
 replace H := Gets.ct H c969
 refine mvg rfl rfl rfl <| el H fun t970 h971 H => cll 2 [0,1] cal60 (Tr.weak (view_View_Fits.c h971 (b0_ := g962.1) (v0_0 := g962.2)) (.cons (wk_ptr h963) (.cons wk_id (.cons wk_id (.cons wk_id .nil))))) ?_
 refine bng rfl rfl rfl rfl run_eq <| pt0 rfl rfl rfl <| mv0 rfl rfl ?_
 cases c972 : (t970 == 0)
 ·
  replace H := Gets.cf H c972
  refine sk rfl rfl <| sk rfl rfl <| sk rfl rfl <| pf0 rfl rfl rfl <| mv0 rfl rfl <| sk rfl rfl <| sk rfl rfl <| sk rfl rfl <| pf0 rfl rfl rfl <| as0 rfl rfl <| .fin <| wg (VView.shut (p := g956) (m := t960.2) (g962.1, g962.2) h963 (pm 2 [0,1])) fun _ _ => ?_
  obtain rfl := Gets.out H
  exact rt i2 rfl () 1 [0] 1 (.cons (res_tmp rfl) .nil)
 replace H := Gets.ct H c972
 refine mvg rfl rfl rfl <| el H fun t973 h974 H => cll 2 [0,1] cal60 (Tr.weak (view_View_Fits.c h974 (b0_ := g962.1) (v0_0 := g962.2)) (.cons (wk_ptr h963) (.cons wk_id (.cons wk_id (.cons wk_id .nil))))) ?_
 refine bng rfl rfl rfl rfl run_eq <| pt0 rfl rfl rfl <| mv0 rfl rfl ?_
 cases c975 : (t973 == 0)
 ·
  replace H := Gets.cf H c975
  refine sk rfl rfl <| sk rfl rfl <| sk rfl rfl <| pf0 rfl rfl rfl <| as0 rfl rfl <| .fin <| wg (VView.shut (p := g956) (m := t960.2) (g962.1, g962.2) h963 (pm 2 [0,1])) fun _ _ => ?_
  obtain rfl := Gets.out H
  exact rt i2 rfl () 1 [0] 1 (.cons (res_tmp rfl) .nil)
 replace H := Gets.ct H c975
 refine mvg rfl rfl rfl <| el H fun t976 h977 H => cll 2 [0,1] cal60 (Tr.weak (view_View_Fits.c h977 (b0_ := g962.1) (v0_0 := g962.2)) (.cons (wk_ptr h963) (.cons wk_id (.cons wk_id (.cons wk_id .nil))))) ?_
 refine bng rfl rfl rfl rfl run_eq <| pt0 rfl rfl rfl <| as0 rfl rfl <| .fin <| wg (VView.shut (p := g956) (m := t960.2) (g962.1, g962.2) h963 (pm 2 [0,1])) fun _ _ => ?_
 obtain rfl := Gets.out H
 exact rt i2 rfl () 1 [0] 1 (.cons (res_tmp rfl) .nil)
theorem dag_Dag_Position.c {a0 : DDag} {a1 : ByteArray} {v0_0 : OV} {b0_ : Nat} {r : Pos × Bool} (h : dag_Dag_Position.f a0 a1 = some r) : Tr Tryz.prog 67 [eq (.pointer (some ⟨b0_, 0, none⟩)), vS a1] [blk b0_ 102 [vS a0.froom, eq v0_0.1], mpo Value.string DNode.O v0_0.1 a0.fnodes] (γ := Unit) (fun _ => True) (fun g => tup [agg (Pos.enc r.1), vB r.2]) (fun g => [blk b0_ 102 [vS a0.froom, eq v0_0.1], mpo Value.string DNode.O v0_0.1 a0.fnodes]) := by
 unfold dag_Dag_Position.f at h
 refine Tr.body Tryz.func67 (c := _) rfl Tryz.ntmps67 (Nat.le_of_ble_eq_true rfl) fun R0 F => ?_
 replace h := Gets.of h
 have H := h
 clear h
 refine WP.seq <| rg 2 1 <| al rfl trivial zc61 nofun fun b1058 => as0 rfl rfl <| .fin <| WP.seq <| WP.seq <| rg 4 0 <| mv0 rfl rfl <| mv0 rfl rfl <| el H fun t1059 h1060 H => cll 3 [1,2,0] cal86 (dag_Dag_Has.c h1060 (b0_ := b0_) (v0_0 := v0_0)) ?_
 refine un0 rfl rfl (run_not _) <| .fin <| cd H rfl (fun _ H => ?_) (fun _ H => ?_)
 ·
  refine WP.seq <| rg 3 2 <| Dv.bld (css := []) rfl trivial Tryz.underlying61 pl61 z61 rfl trivial rfl rfl <| sx 0 rfl trivial rfl rfl cA sz61 rfl rfl rfl nofun ?_
  refine as0 rfl rfl <| .fin ?_
  obtain rfl := Gets.out H
  exact rt i2 rfl () 3 [0,1,2] 1 (.cons (res_cells rfl Tryz.underlying61 rfl c61 (mem_at 0 rfl) rfl) (.cons (res_tmp rfl) .nil))
 refine WP.skip <| WP.seq <| rg 13 2048 <| mv0 rfl rfl <| Dv.nilp rfl trivial rfl <| fb rfl trivial rfl fa102_1 <| ld 1 rfl trivial rfl sc100 rfl rfl <| mv0 rfl rfl <| vg (mpo_opn 2 rfl) fun z1062 h1063 => ?_
 refine Dv.mlv nilP rfl trivial rfl (mem_at 0 rfl) rfl Tryz.underlying100 (keyOk_str Tryz.underlying9) z103 (fun _ => rfl) <| gr H fun g1064 H => vg (mpo_foc h1063 rfl g1064 (pm 4 [1,0,2,3])) fun _ _ => ?_
 refine Dv.nilA DNode.nn rfl trivial rfl (mem_at 0 rfl) <| vg (DNode.opn 0 rfl) fun g1065 h1066 => ?_
 refine fp h1066 rfl trivial rfl fa105_1 <| ld 0 rfl trivial rfl sc3 rfl rfl <| mv0 rfl rfl <| Dv.bld (css := [[vI (((mget a0.fnodes a1).getD default).fdepth)], [vS a1]]) rfl trivial Tryz.underlying61 pl61 z61 rfl ⟨(cells_one (one_eq rfl)), ⟨(cells_one (one_eq rfl)), trivial⟩⟩ rfl rfl <| sx 3 rfl trivial rfl rfl cA sz61 rfl rfl rfl nofun ?_
 refine as0 rfl rfl <| .fin <| wg (DNode.shut (p := ((mget (zipK a0.fnodes z1062) a1).getD nilP)) (m := (mget a0.fnodes a1).getD default) g1065 h1066 (pm 5 [0,1,2,3,4])) fun _ _ => ?_
 refine wg (mpo_unf0 h1063 rfl g1064 (pm 5 [0,1,2,3,4])) fun _ _ => ?_
 refine wg (mpo_shut h1063 rfl (pm 4 [1,0,2,3])) fun _ _ => ?_
 obtain rfl := Gets.out H
 exact rt i2 rfl () 3 [1,2,0] 1 (.cons (res_cells rfl Tryz.underlying61 rfl c61 (mem_at 1 rfl) rfl) (.cons (res_tmp rfl) .nil))
theorem view_View_Position.c {a0 : VView} {a1 : ByteArray} {a2 : ByteArray} {v0_0 : OV} {b0_ : Nat} {r : Pos × Bool} (h : view_View_Position.f a0 a1 a2 = some r) : Tr Tryz.prog 28 [eq (.pointer (some ⟨b0_, 0, none⟩)), vS a1, vS a2] [blk b0_ 80 [eq v0_0.1], mpo Value.string DDag.O v0_0.1 a0.fdags] (γ := Unit) (fun _ => True) (fun g => tup [agg (Pos.enc r.1), vB r.2]) (fun g => [blk b0_ 80 [eq v0_0.1], mpo Value.string DDag.O v0_0.1 a0.fdags]) := by
 unfold view_View_Position.f at h
 refine Tr.body Tryz.func28 (c := _) rfl Tryz.ntmps28 (Nat.le_of_ble_eq_true rfl) fun R0 F => ?_
 replace h := Gets.of h
 have H := h
 clear h
 refine WP.seq <| rg 2 1 <| al rfl trivial zc61 nofun fun b1067 => as0 rfl rfl <| .fin <| WP.seq <| rg 9 132 <| mv0 rfl rfl <| mv0 rfl rfl <| el H fun t1068 h1069 H => cx 3 [1,2,0] cal52 (view_View_room.c h1069 (b0_ := b0_) (v0_0 := v0_0)) nofun fun v1070 _ => ?_
 refine mv0 rfl rfl <| vg (DDag.opn 2 rfl) fun g1071 h1072 => ?_
 refine el H fun t1073 h1074 H => cll 5 [0,1,2,3,4] cal67 (Tr.weak (dag_Dag_Position.c h1074 (b0_ := g1071.1) (v0_0 := g1071.2)) (.cons (wk_ptr h1072) (.cons wk_id .nil))) ?_
 refine ex0 rfl trivial rfl rfl <| ex0 rfl trivial rfl rfl <| sx 4 rfl trivial rfl rfl cA sz61 rfl rfl rfl nofun ?_
 refine as0 rfl rfl <| .fin <| wg (DDag.shut (p := v1070) (m := t1068) (g1071.1, g1071.2) h1072 (pm 5 [0,1,2,3,4])) fun _ _ => ?_
 refine wg (mpl_back0 (view_View_room.r h1069) (pm 4 [2,0,1,3])) fun _ _ => ?_
 obtain rfl := Gets.out H
 exact rt i2 rfl () 3 [2,1,0] 1 (.cons (res_cells rfl Tryz.underlying61 rfl c61 (mem_at 2 rfl) rfl) (.cons (res_tmp rfl) .nil))
theorem concourseref10_Position.c {k : Nat} {a0 : RView} {a1 : ByteArray} {a2 : ByteArray} {r : Pos × Bool} (h : concourseref10_Position.f k a0 a1 a2 = some r) : Pt Tryz.prog 30 [agg (RView.enc a0), vS a1, vS a2] (tup [agg (Pos.enc r.1), vB r.2]) := by
 unfold concourseref10_Position.f at h
 refine (Tr.body Tryz.func30 (c := _) rfl Tryz.ntmps30 (Nat.le_of_ble_eq_true rfl) fun R0 F => ?_).pt
 replace h := Gets.of h
 have H := h
 clear h
 refine WP.seq <| rg 3 3 <| Dv.box rfl trivial rfl cA nofun fun b1075 => al rfl trivial zc61 nofun fun b1076 => as0 rfl rfl <| .fin <| WP.seq <| rg 5 24 <| lds 1 rfl trivial rfl sg28 rfl rfl <| mv0 rfl rfl <| el H fun t1077 h1078 H => cl rfl cal10 rfl (concourseref10_Of.c h1078) <| al rfl trivial zc36 nofun fun b1079 => sx 0 rfl trivial rfl rfl cA sz36 rfl rfl rfl nofun ?_
 refine .fin <| WP.seq <| WP.seq <| rg 4 0 <| lds 0 rfl trivial rfl sg36 rfl rfl <| mv0 rfl rfl <| el H fun t1080 h1081 H => cl rfl cal69 rfl (concourseref07_At.c h1081) <| bn0 rfl rfl rfl run_lt <| .fin <| cd H rfl (fun _ H => ?_) (fun _ H => ?_)
 ·
  refine WP.seq <| rg 3 2 <| Dv.bld (css := []) rfl trivial Tryz.underlying61 pl61 z61 rfl trivial rfl rfl <| sx 1 rfl trivial rfl rfl cA sz61 rfl rfl rfl nofun ?_
  refine as0 rfl rfl <| .fin ?_
  obtain rfl := Gets.out H
  exact rt i2 rfl () 3 [0,1,2] 3 (.cons (res_cells rfl Tryz.underlying61 rfl c61 (mem_at 1 rfl) rfl) (.cons (res_tmp rfl) .nil))
 refine WP.skip <| WP.seq <| rg 5 8 <| lds 0 rfl trivial rfl sg36 rfl rfl <| mv0 rfl rfl <| el H fun t1083 h1084 H => cl rfl cal57 rfl (concourseref07_Position.c h1084) <| sx 1 rfl trivial rfl rfl cA sz61 rfl rfl rfl nofun ?_
 refine as0 rfl rfl <| .fin ?_
 obtain rfl := Gets.out H
 exact rt i2 rfl () 3 [0,1,2] 3 (.cons (res_cells rfl Tryz.underlying61 rfl c61 (mem_at 1 rfl) rfl) (.cons (res_tmp rfl) .nil))
theorem member_joined.c {k : Nat} {a0 : DDag} {v0_0 : OV} {b0_ : Nat} {r : (List (ByteArray × Int))} (h : member_joined.f k a0 = some r) : Tr Tryz.prog 97 [eq (.pointer (some ⟨b0_, 0, none⟩))] [blk b0_ 102 [vS a0.froom, eq v0_0.1], mpo Value.string DNode.O v0_0.1 a0.fnodes] (γ := OV) (fun _ => True) (fun g => eq g.1) (fun g => [blk b0_ 102 [vS a0.froom, eq v0_0.1], mpo Value.string DNode.O v0_0.1 a0.fnodes, mp Value.string (fun x : Int => vI x) g.1 r]) := by
 unfold member_joined.f at h
 refine Tr.body Tryz.func97 (c := _) rfl Tryz.ntmps97 (Nat.le_of_ble_eq_true rfl) fun R0 F => ?_
 replace h := Gets.of h
 have H := h
 clear h
 refine WP.seq <| rg 1 0 <| as0 rfl rfl <| .fin <| WP.seq <| rg 2 1 <| Dv.mmk Value.string (fun x : Int => vI x) rfl trivial nofun (fun v1085 => ?_)
 refine as0 rfl rfl <| .fin <| WP.seqn H (fun q1101 : (Int × Int × Bool × (List (ByteArray × Int)) × (List Event)) × OV => q1101.1) (fun q1101 : (Int × Int × Bool × (List (ByteArray × Int)) × (List Event)) × OV => [(0, eq (.pointer (some ⟨b0_, 0, none⟩))), (2, eq (.map none)), (3, eq v1085.1), (8, eq q1101.2.1), (9, vI q1101.1.1), (10, vI q1101.1.2.1), (11, vB q1101.1.2.2.1)]) (fun q1101 : (Int × Int × Bool × (List (ByteArray × Int)) × (List Event)) × OV => [blk b0_ 102 [vS a0.froom, eq v0_0.1], mpo Value.string DNode.O v0_0.1 a0.fnodes, mp Value.string (fun x : Int => vI x) v1085.1 q1101.1.2.2.2.1, own Event.K q1101.2.1 q1101.1.2.2.2.2] ++ F) (fun q1101 H => ?_) (fun H => ?_)
 ·
  obtain ⟨p1086, v1087⟩ := q1101
  refine WP.seq <| rg 2 0 <| mv0 rfl rfl <| as0 rfl rfl <| .fin ?_
  obtain rfl := Gets.out H
  exact rt i2 rfl v1085 4 [3,0,1,2] 1 (.cons (res_tmp rfl) .nil)
 refine WP.seq <| rg 4 2 <| mv0 rfl rfl <| el H fun t1088 h1089 H => cx 3 [1,2,0] cal55 (dag_Dag_All.c h1089 (b0_ := b0_) (v0_0 := v0_0)) nofun fun g1090 _ => ?_
 refine Dv.lenw rfl trivial rfl (mem_at 2 rfl) Tryz.underlying23 <| mv0 rfl rfl <| .fin <| WP.block <| wg (sg 4 [0,1,2,3] 0) fun _ _ => ?_
 refine lp (fun j_ (p1100 : Int × (List (ByteArray × Int))) => member_joined.l0 k t1088 j_ p1100.1 p1100.2) (0, ([] : List (ByteArray × Int))) H (fun p1100 => [(0, eq (.pointer (some ⟨b0_, 0, none⟩))), (2, eq (.map none)), (3, eq v1085.1), (8, eq g1090.1), (9, vI (t1088.length : Int)), (10, vI p1100.1)]) (fun p1100 => [blk b0_ 102 [vS a0.froom, eq v0_0.1], mpo Value.string DNode.O v0_0.1 a0.fnodes, own Event.K g1090.1 t1088, mp Value.string (fun x : Int => vI x) v1085.1 p1100.2] ++ F) ?_
 rintro j_ ⟨x1091, x1092⟩ H
 rcases j_ with _ | j1099
 ·
  exact (Gets.no H).elim
 replace H : Gets (member_joined.l0 k t1088 (j1099 + 1) x1091 x1092) _ := H
 rw [member_joined.l0] at H
 refine WP.seq <| rg 1 0 <| bn0 rfl rfl rfl run_lt <| .fin <| WP.seq <| cd H rfl (fun _ H => ?_) (fun _ H => ?_)
 rotate_left
 ·
  refine WP.exit ?_
  replace H := Gets.out H
  refine ng (sg 4 [0,1,3,2] 0) fun _ _ => ?_
  exact jn (((t1088.length : Int), x1091, decide (x1091 < (t1088.length : Int)), x1092, t1088), g1090) H
 refine WP.skip <| WP.seq <| WP.block <| WP.seq <| rg 4 12 <| gr H fun g1094 H => ?_
 have h1095 : x1091.toNat < t1088.length := idx_lt g1094
 refine Dv.ixw rfl trivial rfl (mem_at 2 rfl) rfl Tryz.underlying23 Tryz.underlying33 c33 g1094.1 g1094.2 <| Dv.ldws (j := x1091.toNat) (f := 0) rfl trivial rfl (mem_at 2 rfl) h1095 Tryz.underlying33 rfl c33 (Nat.le_of_ble_eq_true rfl) <| al rfl trivial zc33 nofun fun b1096 => sx 0 rfl trivial rfl rfl cA sz33 rfl rfl rfl nofun ?_
 refine .fin <| WP.seq <| rg 2 0 <| fb rfl trivial rfl fa33_5 <| ld 0 rfl trivial rfl sc3 rfl rfl <| .fin <| WP.block <| WP.seq <| rg 2 0 <| bn0 rfl rfl rfl run_eq <| as0 rfl rfl <| .fin <| cd H rfl (fun _ H => ?_) (fun _ H => ?_)
 ·
  refine rg 4 8 <| mv0 rfl rfl <| fb rfl trivial rfl fa33_4 <| ld 0 rfl trivial rfl sc9 rfl rfl <| Dv.mup (jj := 4) 1 rfl trivial rfl rfl rfl rfl Tryz.underlying118 (keyOk_str Tryz.underlying9) nofun <| .fin <| rg 2 0 <| bn0 rfl rfl rfl run_add <| mv0 rfl rfl <| .fin <| ng (sg 5 [0,1,2,3,4] 1) fun _ _ => ?_
  exact bk j1099 (w64 (x1091 + 1), mput x1092 ((t1088.getD x1091.toNat default).fUser) 1) H
 refine WP.seq <| rg 2 0 <| bn0 rfl rfl rfl run_eq <| as0 rfl rfl <| .fin <| cd H rfl (fun _ H => ?_) (fun _ H => ?_)
 rotate_left
 ·
  refine WP.skip <| rg 2 0 <| bn0 rfl rfl rfl run_add <| mv0 rfl rfl <| .fin <| ng (sg 5 [0,1,2,3,4] 1) fun _ _ => ?_
  exact bk j1099 (w64 (x1091 + 1), x1092) H
 refine rg 4 8 <| mv0 rfl rfl <| fb rfl trivial rfl fa33_4 <| ld 0 rfl trivial rfl sc9 rfl rfl <| Dv.mdl (jj := 4) rfl trivial rfl rfl rfl Tryz.underlying118 (keyOk_str Tryz.underlying9) nofun <| .fin <| rg 2 0 <| bn0 rfl rfl rfl run_add <| mv0 rfl rfl <| .fin <| ng (sg 5 [0,1,2,3,4] 1) fun _ _ => ?_
 exact bk j1099 (w64 (x1091 + 1), mdel x1092 ((t1088.getD x1091.toNat default).fUser)) H
theorem member_Users.c {k : Nat} {a0 : DDag} {b0_ : Nat} {v0_0 : OV} {r : List ByteArray} (h : member_Users.f k a0 = some r) : Tr Tryz.prog 70 [eq (.pointer (some ⟨b0_, 0, none⟩))] [blk b0_ 102 [vS a0.froom, eq v0_0.1], mpo Value.string DNode.O v0_0.1 a0.fnodes] (γ := OV) (fun _ => True) (fun g => eq g.1) (fun g => [blk b0_ 102 [vS a0.froom, eq v0_0.1], mpo Value.string DNode.O v0_0.1 a0.fnodes, own strK g.1 r]) := by
  unfold member_Users.f at h
  obtain ⟨m, hm, h1⟩ := (Gets.of h).call
  obtain ⟨h0, h5⟩ := h1.grd
  obtain rfl := Gets.out h5
  clear h h5
  refine Tr.body Tryz.func70 (c := _) rfl Tryz.ntmps70 (Nat.le_of_ble_eq_true rfl) fun R0 F => ?_
  refine WP.seq <| rg 1 0 <| as0 rfl rfl <| .fin <| WP.seq <| rg 1 0 <| as0 rfl rfl <| .fin ?_
  refine WP.seqj (β := List Nat × OV) (fun b => b.1.Perm (List.range m.length)) (fun b => [(3, eq b.2.1)]) (fun b => [own strK b.2.1 (selM m (fun e => some e.1) b.1), blk b0_ 102 [vS a0.froom, eq v0_0.1], mpo Value.string DNode.O v0_0.1 a0.fnodes] ++ F) (fun b hb => ?_) ?_
  rotate_left
  · refine WP.seq <| rg 3 6 <| mv0 rfl rfl <| cx 2 [0,1] cal97 (member_joined.c hm (b0_ := b0_) (v0_0 := v0_0)) nofun fun gm _ => ?_
    refine Dv.gh (l' := fun _ : Unit => [blk b0_ 102 [vS a0.froom, eq v0_0.1], mpo Value.string DNode.O v0_0.1 a0.fnodes, mp Value.string (fun x : Int => vI x) gm.1 m] ++ F) (gh_of (ok := fun _ => True) fun R w k => ⟨(), trivial, k⟩) (fun _ _ => ?_)
    refine Dv.gh (l' := fun _ : Unit => [mp Value.string (fun x : Int => vI x) gm.1 m, blk b0_ 102 [vS a0.froom, eq v0_0.1], mpo Value.string DNode.O v0_0.1 a0.fnodes] ++ F) (gh_of (st_selgn 3 [2,0,1] 0 (by kernel_rfl) rfl rfl)) (fun _ _ => ?_)
    refine Dv.rgb (jj := 0) rfl trivial rfl rfl Tryz.underlying118 nofun (fun q => .fin ?_)
    refine WP.gh (l' := fun _ : Unit => [rng Value.string (fun x : Int => vI x) gm.1 q.1 m [], blk b0_ 102 [vS a0.froom, eq v0_0.1], mpo Value.string DNode.O v0_0.1 a0.fnodes] ++ F) (gh_of (ok := fun _ => True) fun R w k => ⟨(), trivial, k⟩) (fun _ _ => ?_)
    refine WP.gh (l' := fun _ : Unit => [own strK nilV.1 [], rng Value.string (fun x : Int => vI x) gm.1 q.1 m [], blk b0_ 102 [vS a0.froom, eq v0_0.1], mpo Value.string DNode.O v0_0.1 a0.fnodes] ++ F) (gh_of (st_nil strK none)) (fun _ _ => ?_)
    refine WP.block ?_
    refine WP.weak (E' := (fun b : List Nat × OV => [(3, eq b.2.1), (7, eq q.1)]) ([], nilV)) (weak_cons rfl (weak_cons rfl weak_nil)) (WP.loop (β := List Nat × OV) (fun k b => b.1.length + k = m.length) (fun b => [(3, eq b.2.1), (7, eq q.1)]) (fun b => [own strK b.2.1 (selM m (fun e => some e.1) b.1), rng Value.string (fun x : Int => vI x) gm.1 q.1 m b.1, blk b0_ 102 [vS a0.froom, eq v0_0.1], mpo Value.string DNode.O v0_0.1 a0.fnodes] ++ F) ?_ (k := m.length) (b := ([], nilV)) (Nat.zero_add _))
    rintro k ⟨is, v⟩ hk
    replace hk : is.length + k = m.length := hk
    refine WP.seq <| rg 2 1 <| Dv.rgn (jj := 1) rfl trivial rfl rfl nofun (fun z hz => ?_)
    rcases z with _ | j
    · have hz : is.Perm (List.range m.length) := hz
      refine ex0 rfl trivial rfl rfl <| .fin <| WP.seq <| WP.cond rfl nofun (fun _ => WP.exit ?_)
      refine Dn.gh (l' := fun _ : Unit => [own strK v.1 (selM m (fun e => some e.1) is), rng Value.string (fun x : Int => vI x) gm.1 q.1 m is, blk b0_ 102 [vS a0.froom, eq v0_0.1], mpo Value.string DNode.O v0_0.1 a0.fnodes] ++ F) (gh_of (ok := fun _ => True) fun R w k => ⟨(), trivial, k⟩) (fun _ _ => ?_)
      refine Dn.gh (l' := fun _ : Unit => [mp Value.string (fun x : Int => vI x) gm.1 m, own strK v.1 (selM m (fun e => some e.1) is), blk b0_ 102 [vS a0.froom, eq v0_0.1], mpo Value.string DNode.O v0_0.1 a0.fnodes] ++ F) (gh_of (st_rge (pm 4 [1,0,2,3]))) (fun _ _ => ?_)
      refine Dn.gh (l' := fun _ : Unit => [own strK v.1 (selM m (fun e => some e.1) is), blk b0_ 102 [vS a0.froom, eq v0_0.1], mpo Value.string DNode.O v0_0.1 a0.fnodes] ++ F) (gh_of (st_selgn 4 [0,1,2,3] 1 (by kernel_rfl) rfl rfl)) (fun _ _ => ?_)
      exact Jn.mk (is, v) hz (weak_cons rfl weak_nil) (List.Perm.refl _)
    have hz : j < m.length ∧ j ∉ is ∧ is.length < m.length := hz
    obtain ⟨e, he⟩ : ∃ e, m[j]? = some e := ⟨_, List.getElem?_eq_getElem hz.1⟩
    have hep := he
    have hlt := hz.2.2
    have hsl := Nat.le_trans (selM_len (m := m) (f := (fun e => some e.1)) (is := is)) (Nat.le_of_lt hlt)
    have e1 : nxV Value.string (fun x : Int => vI x) m (some j) = tup [vB true, vS e.1, vI e.2] := by simp only [nxV, hep]
    rw [e1]
    refine ex0 rfl trivial rfl rfl <| .fin <| WP.seq <| WP.cond rfl (fun _ => WP.skip ?_) nofun
    refine WP.gh (l' := fun _ : Unit => [own strK v.1 (selM m (fun e => some e.1) is), rng Value.string (fun x : Int => vI x) gm.1 q.1 m (is ++ [j]), blk b0_ 102 [vS a0.froom, eq v0_0.1], mpo Value.string DNode.O v0_0.1 a0.fnodes] ++ F) (gh_of (ok := fun _ => True) fun R w k => ⟨(), trivial, k⟩) (fun _ _ => ?_)
    refine WP.block <| WP.seq <| rg 3 0 <| Dv.rge 1 rfl trivial rfl rfl hep ?_
    refine ex0 rfl trivial rfl rfl <| as0 rfl rfl <| .fin ?_
    have e6 := selM_some (f := (fun e => some e.1)) (is := is) he rfl
    have hbd : (selM m (fun e => some e.1) is).length + ([e.1] : List ByteArray).length ≤ 9223372036854775807 ∧ ((selM m (fun e => some e.1) is).length + ([e.1] : List ByteArray).length) * 16 ≤ 140737488355328 := by rw [List.length_singleton]; omega
    refine rg 5 8 <| mv0 rfl rfl <| mv0 rfl rfl <| Dv.lit strK ([e.1] : List ByteArray) (css := [[vS e.1]]) rfl trivial Tryz.underlying31 Tryz.underlying9 c9 z9 rfl (by decide) (by decide) rfl ⟨(cells_one (one_eq rfl)), trivial⟩ rfl rfl rfl <| ap strK 0 ([e.1] : List ByteArray) src_sl Tryz.underlying31 (.inr ⟨_, Tryz.underlying31⟩) inf9 hbd nofun fun v9 => as0 rfl rfl <| .fin ?_
    rw [e6]
    exact Back.mk (k - 1) (is ++ [j], v9) (by omega) (by show (is ++ [j]).length + (k - 1) = _; rw [List.length_append, List.length_singleton]; omega) (weak_cons rfl (weak_cons rfl weak_nil)) (List.Perm.refl _)
  obtain ⟨is, v3⟩ := b
  replace hb : is.Perm (List.range m.length) := hb
  have hp := selM_perm (f := (fun e => some e.1)) hb
  have hs : slices_Sort_string.f (selM m (fun e => some e.1) is) = some (srtS (m.map (·.1))) := by
    have e7 : m.filterMap (fun e => some e.1) = m.map (·.1) := by rw [← List.filterMap_eq_map]; rfl
    rw [e7] at hp
    unfold slices_Sort_string.f Sp.grd
    rw [if_pos (by rw [hp.length_eq, List.length_map]; omega), srtS_eq hp]
  refine WP.seq <| rg 2 2 <| mv0 rfl rfl <| cx 3 [0,1,2] cal59 (slices_Sort_string.c hs (p0_ := v3)) nofun fun _ _ => .fin ?_
  refine WP.seq <| rg 2 0 <| mv0 rfl rfl <| as0 rfl rfl <| .fin <| rt i2 rfl v3 3 [1,2,0] 0 (.cons (res_tmp rfl) .nil)
theorem view_View_Users.c {k : Nat} {a0 : VView} {a1 : ByteArray} {v0_0 : OV} {b0_ : Nat} {r : (List ByteArray)} (h : view_View_Users.f k a0 a1 = some r) : Tr Tryz.prog 31 [eq (.pointer (some ⟨b0_, 0, none⟩)), vS a1] [blk b0_ 80 [eq v0_0.1], mpo Value.string DDag.O v0_0.1 a0.fdags] (γ := OV) (fun _ => True) (fun g => eq g.1) (fun g => [blk b0_ 80 [eq v0_0.1], mpo Value.string DDag.O v0_0.1 a0.fdags, own strK g.1 r]) := by
 unfold view_View_Users.f at h
 refine Tr.body Tryz.func31 (c := _) rfl Tryz.ntmps31 (Nat.le_of_ble_eq_true rfl) fun R0 F => ?_
 replace h := Gets.of h
 have H := h
 clear h
 refine WP.seq <| rg 1 0 <| as0 rfl rfl <| .fin <| WP.seq <| rg 5 12 <| mv0 rfl rfl <| mv0 rfl rfl <| el H fun t1102 h1103 H => cx 2 [0,1] cal52 (view_View_room.c h1103 (b0_ := b0_) (v0_0 := v0_0)) nofun fun v1104 _ => ?_
 refine vg (DDag.opn 2 rfl) fun g1105 h1106 => ?_
 refine el H fun t1107 h1108 H => cx 4 [0,1,2,3] cal70 (Tr.weak (member_Users.c h1108 (b0_ := g1105.1) (v0_0 := g1105.2)) (.cons (wk_ptr h1106) .nil)) nofun fun g1109 _ => ?_
 refine as0 rfl rfl <| .fin <| wg (DDag.shut (p := v1104) (m := t1102) (g1105.1, g1105.2) h1106 (pm 5 [0,1,2,3,4])) fun _ _ => ?_
 refine wg (mpl_back0 (view_View_room.r h1103) (pm 4 [3,0,1,2])) fun _ _ => ?_
 obtain rfl := Gets.out H
 exact rt i2 rfl g1109 3 [2,0,1] 0 (.cons (res_tmp rfl) .nil)
theorem concourseref09_Last.c {k : Nat} {a0 : RDag} {a1 : ByteArray} {r : Event × Bool} (h : concourseref09_Last.f k a0 a1 = some r) : Pt Tryz.prog 98 [agg (RDag.enc a0), vS a1] (tup [agg (Event.enc r.1), vB r.2]) := by
 unfold concourseref09_Last.f at h
 refine (Tr.body Tryz.func98 (c := _) rfl Tryz.ntmps98 (Nat.le_of_ble_eq_true rfl) fun R0 F => ?_).pt
 replace h := Gets.of h
 have H := h
 clear h
 refine WP.seq <| rg 3 3 <| Dv.box rfl trivial rfl cA nofun fun b1110 => al rfl trivial zc33 nofun fun b1111 => as0 rfl rfl <| .fin <| WP.seq <| rg 1 0 <| as0 rfl rfl <| .fin <| WP.seqn H id (fun p1112 : Int × Int × Bool => [(0, agg (RDag.enc a0)), (1, vS a1), (2, eq (.pointer (some ⟨b1110, 0, none⟩))), (4, eq (.pointer (some ⟨b1111, 0, none⟩))), (5, vB false), (6, vI p1112.1), (7, vI p1112.2.1), (13, vB p1112.2.2)]) (fun p1112 : Int × Int × Bool => [blk b1111 33 [vS (⟨#[]⟩ : ByteArray), vS (⟨#[]⟩ : ByteArray), eq (.slice none 0 0), vS (⟨#[]⟩ : ByteArray), vS (⟨#[]⟩ : ByteArray), vI 0], blk b1110 36 (RDag.enc a0)] ++ F) (fun p1112 H => ?_) (fun H => ?_)
 ·
  refine WP.seq <| WP.seq <| rg 2 0 <| mv0 rfl rfl <| bn0 rfl rfl rfl run_lt <| .fin <| cd H rfl (fun _ H => ?_) (fun _ H => ?_)
  ·
   refine WP.seq <| rg 3 2 <| Dv.bld (css := []) rfl trivial Tryz.underlying33 pl33 z33 rfl trivial rfl rfl <| sx 0 rfl trivial rfl rfl cA sz33 rfl rfl rfl nofun ?_
   refine as0 rfl rfl <| .fin ?_
   obtain rfl := Gets.out H
   exact rt i2 rfl () 2 [0,1] 2 (.cons (res_wk (res_cells rfl Tryz.underlying33 rfl c33 (mem_at 0 rfl) rfl) (wk_agg (.cons wk_id (.cons wk_id (.cons wk_nil (.cons wk_id (.cons wk_id (.cons wk_id .nil)))))))) (.cons (res_tmp rfl) .nil))
  refine WP.skip <| WP.seq <| rg 7 32 <| fb rfl trivial rfl fa36_1 <| ld 1 rfl trivial rfl sc23 rfl rfl <| mv0 rfl rfl <| gr H fun g1114 H => Dv.ixr rfl trivial rfl rfl Tryz.underlying23 Tryz.underlying33 c33 g1114.1 g1114.2 <| ldsR rfl trivial rfl sg33 rfl <| sx 0 rfl trivial rfl rfl cA sz33 rfl rfl rfl nofun ?_
  refine as0 rfl rfl <| .fin ?_
  obtain rfl := Gets.out H
  exact rt i2 rfl () 2 [0,1] 2 (.cons (res_cells rfl Tryz.underlying33 rfl c33 (mem_at 0 rfl) rfl) (.cons (res_tmp rfl) .nil))
 refine WP.seq <| rg 1 0 <| as0 rfl rfl <| .fin <| WP.block <| wg (sg 2 [0,1] 0) fun _ _ => ?_
 refine lp (fun j_ (p1134 : Int × Int) => concourseref09_Last.l0 k a0 a1 j_ p1134.1 p1134.2) ((-1), 0) H (fun p1134 => [(0, agg (RDag.enc a0)), (1, vS a1), (2, eq (.pointer (some ⟨b1110, 0, none⟩))), (4, eq (.pointer (some ⟨b1111, 0, none⟩))), (5, vB false), (6, vI p1134.1), (7, vI p1134.2)]) (fun p1134 => [blk b1111 33 [vS (⟨#[]⟩ : ByteArray), vS (⟨#[]⟩ : ByteArray), eq (.slice none 0 0), vS (⟨#[]⟩ : ByteArray), vS (⟨#[]⟩ : ByteArray), vI 0], blk b1110 36 (RDag.enc a0)] ++ F) ?_
 rintro j_ ⟨x1115, x1116⟩ H
 rcases j_ with _ | j1133
 ·
  exact (Gets.no H).elim
 replace H : Gets (concourseref09_Last.l0 k a0 a1 (j1133 + 1) x1115 x1116) _ := H
 rw [concourseref09_Last.l0] at H
 refine WP.seq <| WP.seq <| rg 5 0 <| mv0 rfl rfl <| fb rfl trivial rfl fa36_1 <| ld 1 rfl trivial rfl sc23 rfl rfl <| Dv.lenl rfl trivial rfl Tryz.underlying23 <| bn0 rfl rfl rfl run_lt <| .fin <| cd H rfl (fun _ H => ?_) (fun _ H => ?_)
 rotate_left
 ·
  refine WP.exit ?_
  replace H := Gets.out H
  exact jn (x1115, x1116, decide (x1116 < (a0.fL.length : Int))) H
 refine WP.skip <| WP.seq <| WP.block <| WP.seq <| WP.seq <| rg 17 0 <| fb rfl trivial rfl fa36_1 <| ld 1 rfl trivial rfl sc23 rfl rfl <| mv0 rfl rfl <| gr H fun g1118 H => Dv.ixr rfl trivial rfl rfl Tryz.underlying23 Tryz.underlying33 c33 g1118.1 g1118.2 <| fr rfl trivial rfl fa33_4 rfl <| ldR rfl trivial rfl sc9 rfl <| mv0 rfl rfl <| bn0 rfl rfl rfl run_sne <| mv0 rfl rfl ?_
 cases c1119 : !decide (((Event.K.at a0.fL x1116).fUser) = a1)
 rotate_left
 ·
  replace H := Gets.ct H c1119
  refine sk rfl rfl <| sk rfl rfl <| sk rfl rfl <| sk rfl rfl <| sk rfl rfl <| sk rfl rfl <| sk rfl rfl <| pt0 rfl rfl rfl <| .fin <| WP.cond rfl (fun _ => ?_) nofun
  exact WP.exit <| rg 3 0 <| mv0 rfl rfl <| bn0 rfl rfl rfl run_add <| as0 rfl rfl <| .fin <| bk j1133 (x1115, w64 (x1116 + 1)) H
 replace H := Gets.cf H c1119
 refine fb rfl (gg rfl) rfl fa36_1 <| ld 1 rfl (gg rfl) rfl sc23 rfl rfl <| mvg rfl rfl rfl <| gr H fun g1121 H => Dv.ixr rfl (gg rfl) rfl rfl Tryz.underlying23 Tryz.underlying33 c33 g1121.1 g1121.2 <| fr rfl (gg rfl) rfl fa33_5 rfl <| ldR rfl (gg rfl) rfl sc3 rfl <| bng rfl rfl rfl rfl run_eq <| pf0 rfl rfl rfl <| .fin <| cd H rfl (fun _ H => ?_) (fun _ H => ?_)
 ·
  exact WP.exit <| rg 3 0 <| mv0 rfl rfl <| bn0 rfl rfl rfl run_add <| as0 rfl rfl <| .fin <| bk j1133 (x1115, w64 (x1116 + 1)) H
 refine WP.skip <| WP.seq <| WP.seq <| rg 2 0 <| mv0 rfl rfl <| bn0 rfl rfl rfl run_lt <| .fin <| cd H rfl (fun _ H => ?_) (fun _ H => ?_)
 ·
  exact WP.seq <| rg 2 0 <| mv0 rfl rfl <| as0 rfl rfl <| .fin <| WP.exit <| rg 3 0 <| mv0 rfl rfl <| bn0 rfl rfl rfl run_add <| as0 rfl rfl <| .fin <| bk j1133 (x1116, w64 (x1116 + 1)) H
 refine WP.skip <| WP.seq <| dg Tryz.checked.mixed 18 0 <| lds 1 rfl trivial rfl sg36 rfl rfl <| fb rfl trivial rfl fa36_1 <| ld 1 rfl trivial rfl sc23 rfl rfl <| mv0 rfl rfl <| gr H fun g1124 H => Dv.ixr rfl trivial rfl rfl Tryz.underlying23 Tryz.underlying33 c33 g1124.1 g1124.2 <| fr rfl trivial rfl fa33_0 rfl <| ldR rfl trivial rfl sc9 rfl <| el H fun t1125 h1126 H => cl rfl cal57 rfl (concourseref07_Position.c h1126) <| lds 1 rfl trivial rfl sg36 rfl rfl <| fb rfl trivial rfl fa36_1 <| ld 1 rfl trivial rfl sc23 rfl rfl <| mv0 rfl rfl <| gr H fun g1127 H => Dv.ixr rfl trivial rfl rfl Tryz.underlying23 Tryz.underlying33 c33 g1127.1 g1127.2 <| fr rfl trivial rfl fa33_0 rfl <| ldR rfl trivial rfl sc9 rfl <| el H fun t1128 h1129 H => cl rfl cal57 rfl (concourseref07_Position.c h1129) <| el H fun t1130 h1131 H => cl rfl cal56 rfl (concourseref07_Before.c h1131) <| as0 rfl rfl <| .fin <| WP.seq <| rg 1 0 <| mv0 rfl rfl <| .fin <| cd H rfl (fun _ H => ?_) (fun _ H => ?_)
 rotate_left
 ·
  exact WP.skip <| rg 3 0 <| mv0 rfl rfl <| bn0 rfl rfl rfl run_add <| as0 rfl rfl <| .fin <| bk j1133 (x1115, w64 (x1116 + 1)) H
 exact rg 2 0 <| mv0 rfl rfl <| as0 rfl rfl <| .fin <| rg 3 0 <| mv0 rfl rfl <| bn0 rfl rfl rfl run_add <| as0 rfl rfl <| .fin <| bk j1133 (x1116, w64 (x1116 + 1)) H
theorem concourseref09_Joined.c {k : Nat} {a0 : RDag} {a1 : ByteArray} {r : Bool} (h : concourseref09_Joined.f k a0 a1 = some r) : Pt Tryz.prog 71 [agg (RDag.enc a0), vS a1] (vB r) := by
 unfold concourseref09_Joined.f at h
 refine (Tr.body Tryz.func71 (c := _) rfl Tryz.ntmps71 (Nat.le_of_ble_eq_true rfl) fun R0 F => ?_).pt
 replace h := Gets.of h
 have H := h
 clear h
 refine WP.seq <| rg 2 1 <| Dv.box rfl trivial rfl cA nofun fun b1135 => as0 rfl rfl <| .fin <| WP.seq <| rg 9 192 <| lds 0 rfl trivial rfl sg36 rfl rfl <| mv0 rfl rfl <| el H fun t1136 h1137 H => cl rfl cal98 rfl (concourseref09_Last.c h1137) <| mv0 rfl rfl <| ex0 rfl trivial rfl rfl <| ex0 rfl trivial rfl rfl <| al rfl trivial zc33 nofun fun b1138 => sx 0 rfl trivial rfl rfl cA sz33 rfl rfl rfl nofun ?_
 refine as0 rfl rfl <| .fin <| WP.seq <| rg 7 0 <| mv0 rfl rfl <| mv0 rfl rfl ?_
 cases c1139 : t1136.2
 ·
  replace H := Gets.cf H c1139
  refine sk rfl rfl <| sk rfl rfl <| sk rfl rfl <| pf0 rfl rfl rfl <| as0 rfl rfl <| .fin ?_
  obtain rfl := Gets.out H
  exact rt i2 rfl () 2 [0,1] 2 (.cons (res_tmp rfl) .nil)
 replace H := Gets.ct H c1139
 refine fb rfl (gg rfl) rfl fa33_5 <| ld 0 rfl (gg rfl) rfl sc3 rfl rfl <| bng rfl rfl rfl rfl run_eq <| pt0 rfl rfl rfl <| as0 rfl rfl <| .fin ?_
 obtain rfl := Gets.out H
 exact rt i2 rfl () 2 [0,1] 2 (.cons (res_tmp rfl) .nil)
theorem concourseref09_Put.c {k : Nat} {a0 : List ByteArray} {a1 : ByteArray} {r : (List ByteArray)} (h : concourseref09_Put.f k a0 a1 = some r) : Tr Tryz.prog 72 [sl strK a0, vS a1] [] (γ := OV) (fun _ => True) (fun g => eq g.1) (fun g => [own strK g.1 r]) := by
 unfold concourseref09_Put.f at h
 refine Tr.body Tryz.func72 (c := _) rfl Tryz.ntmps72 (Nat.le_of_ble_eq_true rfl) fun R0 F => ?_
 replace h := Gets.of h
 have H := h
 clear h
 refine WP.seq <| rg 1 0 <| as0 rfl rfl <| .fin <| WP.seq <| rg 1 0 <| as0 rfl rfl <| .fin <| WP.seq <| rg 1 0 <| as0 rfl rfl <| .fin <| WP.seqn H (fun q1166 : (Bool × Int × Bool × (List ByteArray)) × OV => q1166.1) (fun q1166 : (Bool × Int × Bool × (List ByteArray)) × OV => [(0, sl strK a0), (1, vS a1), (4, eq (.slice none 0 0)), (5, eq q1166.2.1), (6, vB q1166.1.1), (7, vI q1166.1.2.1), (11, vB q1166.1.2.2.1)]) (fun q1166 : (Bool × Int × Bool × (List ByteArray)) × OV => [own strK q1166.2.1 q1166.1.2.2.2] ++ F) (fun q1166 H => ?_) (fun H => ?_)
 ·
  obtain ⟨p1140, v1141⟩ := q1166
  refine WP.seq <| WP.seq <| rg 2 0 <| mv0 rfl rfl <| un0 rfl rfl (run_not _) <| .fin <| cd H rfl (fun _ H => ?_) (fun _ H => ?_)
  rotate_left
  ·
   refine WP.skip <| WP.seq <| rg 2 0 <| mv0 rfl rfl <| as0 rfl rfl <| .fin ?_
   obtain rfl := Gets.out H
   exact rt i2 rfl v1141 1 [0] 0 (.cons (res_tmp rfl) .nil)
  refine rg 5 8 <| mv0 rfl rfl <| mv0 rfl rfl <| Dv.lit strK ([a1] : List ByteArray) (css := [[vS a1]]) rfl trivial Tryz.underlying31 Tryz.underlying9 c9 z9 rfl (by decide) (by decide) rfl ⟨(cells_one (one_eq rfl)), trivial⟩ rfl rfl rfl <| gr H fun g1143 H => ap strK 0 ([a1] : List ByteArray) src_sl Tryz.underlying31 (.inr ⟨_, Tryz.underlying31⟩) inf9 g1143 nofun fun v1144 => ?_
  refine as0 rfl rfl <| .fin <| WP.seq <| rg 2 0 <| mv0 rfl rfl <| as0 rfl rfl <| .fin ?_
  obtain rfl := Gets.out H
  exact rt i2 rfl v1144 1 [0] 0 (.cons (res_tmp rfl) .nil)
 refine WP.seq <| rg 1 0 <| as0 rfl rfl <| .fin <| WP.block <| wg (st_nil strK none) fun _ _ => ?_
 refine wg (sg 1 [0] 0) fun _ _ => ?_
 refine lp (fun j_ (p1165 : Bool × Int × (List ByteArray) × OV) => concourseref09_Put.l0 k a0 a1 j_ p1165.1 p1165.2.1 p1165.2.2.1) (false, 0, ([] : List ByteArray), nilV) H (fun p1165 => [(0, sl strK a0), (1, vS a1), (4, eq (.slice none 0 0)), (5, eq p1165.2.2.2.1), (6, vB p1165.1), (7, vI p1165.2.1)]) (fun p1165 => [own strK p1165.2.2.2.1 p1165.2.2.1] ++ F) ?_
 rintro j_ ⟨x1145, x1146, x1147, v1148⟩ H
 rcases j_ with _ | j1164
 ·
  exact (Gets.no H).elim
 replace H : Gets (concourseref09_Put.l0 k a0 a1 (j1164 + 1) x1145 x1146 x1147) _ := H
 rw [concourseref09_Put.l0] at H
 refine WP.seq <| WP.seq <| rg 4 0 <| mv0 rfl rfl <| mv0 rfl rfl <| Dv.lenl rfl trivial rfl Tryz.underlying31 <| bn0 rfl rfl rfl run_lt <| .fin <| cd H rfl (fun _ H => ?_) (fun _ H => ?_)
 rotate_left
 ·
  refine WP.exit ?_
  replace H := Gets.out H
  exact jn ((x1145, x1146, decide (x1146 < (a0.length : Int)), x1147), v1148) H
 refine WP.skip <| WP.seq <| WP.block <| WP.seqn H (fun q1163 : (Bool × Bool × (List ByteArray)) × OV => q1163.1) (fun q1163 : (Bool × Bool × (List ByteArray)) × OV => [(0, sl strK a0), (1, vS a1), (4, eq (.slice none 0 0)), (5, eq q1163.2.1), (6, vB q1163.1.1), (7, vI x1146), (11, vB (decide (x1146 < (a0.length : Int)))), (23, vB q1163.1.2.1)]) (fun q1163 : (Bool × Bool × (List ByteArray)) × OV => [own strK q1163.2.1 q1163.1.2.2] ++ F) (fun q1163 H => ?_) (fun H => ?_)
 ·
  obtain ⟨p1150, v1151⟩ := q1163
  refine WP.seq <| rg 6 0 <| mv0 rfl rfl <| mv0 rfl rfl <| gr H fun g1152 H => Dv.ixr rfl trivial rfl rfl Tryz.underlying31 Tryz.underlying9 c9 g1152.1 g1152.2 <| ldR rfl trivial rfl sc9 rfl <| mv0 rfl rfl <| bn0 rfl rfl rfl run_sne <| .fin <| cd H rfl (fun _ H => ?_) (fun _ H => ?_)
  rotate_left
  ·
   exact WP.skip <| rg 3 0 <| mv0 rfl rfl <| bn0 rfl rfl rfl run_add <| as0 rfl rfl <| .fin <| bk j1164 (p1150.1, w64 (x1146 + 1), p1150.2.2, v1151) H
  refine rg 8 64 <| mv0 rfl rfl <| mv0 rfl rfl <| mv0 rfl rfl <| gr H fun g1154 H => Dv.ixr rfl trivial rfl rfl Tryz.underlying31 Tryz.underlying9 c9 g1154.1 g1154.2 <| ldR rfl trivial rfl sc9 rfl <| Dv.lit strK ([strK.at a0 x1146] : List ByteArray) (css := [[vS (strK.at a0 x1146)]]) rfl trivial Tryz.underlying31 Tryz.underlying9 c9 z9 rfl (by decide) (by decide) rfl ⟨(cells_one (one_eq rfl)), trivial⟩ rfl rfl rfl <| gr H fun g1155 H => ap strK 0 ([strK.at a0 x1146] : List ByteArray) src_sl Tryz.underlying31 (.inr ⟨_, Tryz.underlying31⟩) inf9 g1155 nofun fun v1156 => ?_
  exact as0 rfl rfl <| .fin <| rg 3 0 <| mv0 rfl rfl <| bn0 rfl rfl rfl run_add <| as0 rfl rfl <| .fin <| bk j1164 (p1150.1, w64 (x1146 + 1), p1150.2.2 ++ ([strK.at a0 x1146] : List ByteArray), v1156) H
 refine WP.seq <| rg 10 0 <| mv0 rfl rfl <| un0 rfl rfl (run_not _) <| mv0 rfl rfl ?_
 cases c1157 : !x1145
 ·
  replace H := Gets.cf H c1157
  refine sk rfl rfl <| sk rfl rfl <| sk rfl rfl <| sk rfl rfl <| sk rfl rfl <| sk rfl rfl <| pf0 rfl rfl rfl <| .fin <| WP.cond rfl nofun (fun _ => ?_)
  refine WP.skip ?_
  replace H := Gets.out H
  exact jn ((x1145, false, x1147), v1148) H
 replace H := Gets.ct H c1157
 refine mvg rfl rfl rfl <| mvg rfl rfl rfl <| mvg rfl rfl rfl <| gr H fun g1158 H => Dv.ixr rfl (gg rfl) rfl rfl Tryz.underlying31 Tryz.underlying9 c9 g1158.1 g1158.2 <| ldR rfl (gg rfl) rfl sc9 rfl <| bng rfl rfl rfl rfl run_sle <| pt0 rfl rfl rfl <| .fin <| cd H rfl (fun _ H => ?_) (fun _ H => ?_)
 rotate_left
 ·
  refine WP.skip ?_
  replace H := Gets.out H
  exact jn ((x1145, !sLt (strK.at a0 x1146) a1, x1147), v1148) H
 refine WP.seq <| rg 5 8 <| mv0 rfl rfl <| mv0 rfl rfl <| Dv.lit strK ([a1] : List ByteArray) (css := [[vS a1]]) rfl trivial Tryz.underlying31 Tryz.underlying9 c9 z9 rfl (by decide) (by decide) rfl ⟨(cells_one (one_eq rfl)), trivial⟩ rfl rfl rfl <| gr H fun g1160 H => ap strK 0 ([a1] : List ByteArray) src_sl Tryz.underlying31 (.inr ⟨_, Tryz.underlying31⟩) inf9 g1160 nofun fun v1161 => ?_
 refine as0 rfl rfl <| .fin <| rg 1 0 <| as0 rfl rfl <| .fin ?_
 replace H := Gets.out H
 exact jn ((true, !sLt (strK.at a0 x1146) a1, x1147 ++ ([a1] : List ByteArray)), v1161) H
theorem concourseref09_Users.c {k : Nat} {a0 : RDag} {r : (List ByteArray)} (h : concourseref09_Users.f k a0 = some r) : Tr Tryz.prog 32 [agg (RDag.enc a0)] [] (γ := OV) (fun _ => True) (fun g => eq g.1) (fun g => [own strK g.1 r]) := by
 unfold concourseref09_Users.f at h
 refine Tr.body Tryz.func32 (c := _) rfl Tryz.ntmps32 (Nat.le_of_ble_eq_true rfl) fun R0 F => ?_
 replace h := Gets.of h
 have H := h
 clear h
 refine WP.seq <| rg 2 1 <| Dv.box rfl trivial rfl cA nofun fun b1167 => as0 rfl rfl <| .fin <| WP.seq <| rg 1 0 <| as0 rfl rfl <| .fin <| WP.seqn H (fun q1184 : (Int × Bool × (List ByteArray)) × OV => q1184.1) (fun q1184 : (Int × Bool × (List ByteArray)) × OV => [(0, agg (RDag.enc a0)), (1, eq (.pointer (some ⟨b1167, 0, none⟩))), (2, eq (.slice none 0 0)), (3, eq q1184.2.1), (4, vI q1184.1.1), (10, vB q1184.1.2.1)]) (fun q1184 : (Int × Bool × (List ByteArray)) × OV => [blk b1167 36 (RDag.enc a0), own strK q1184.2.1 q1184.1.2.2] ++ F) (fun q1184 H => ?_) (fun H => ?_)
 ·
  obtain ⟨p1168, v1169⟩ := q1184
  refine WP.seq <| rg 2 0 <| mv0 rfl rfl <| as0 rfl rfl <| .fin ?_
  obtain rfl := Gets.out H
  exact rt i2 rfl v1169 2 [0,1] 1 (.cons (res_tmp rfl) .nil)
 refine WP.seq <| rg 1 0 <| as0 rfl rfl <| .fin <| WP.block <| wg (st_nil strK none) fun _ _ => ?_
 refine wg (sg 2 [1,0] 0) fun _ _ => ?_
 refine lp (fun j_ (p1183 : Int × (List ByteArray) × OV) => concourseref09_Users.l0 k a0 j_ p1183.1 p1183.2.1) (0, ([] : List ByteArray), nilV) H (fun p1183 => [(0, agg (RDag.enc a0)), (1, eq (.pointer (some ⟨b1167, 0, none⟩))), (2, eq (.slice none 0 0)), (3, eq p1183.2.2.1), (4, vI p1183.1)]) (fun p1183 => [blk b1167 36 (RDag.enc a0), own strK p1183.2.2.1 p1183.2.1] ++ F) ?_
 rintro j_ ⟨x1170, x1171, v1172⟩ H
 rcases j_ with _ | j1182
 ·
  exact (Gets.no H).elim
 replace H : Gets (concourseref09_Users.l0 k a0 (j1182 + 1) x1170 x1171) _ := H
 rw [concourseref09_Users.l0] at H
 refine WP.seq <| WP.seq <| rg 5 0 <| mv0 rfl rfl <| fb rfl trivial rfl fa36_1 <| ld 0 rfl trivial rfl sc23 rfl rfl <| Dv.lenl rfl trivial rfl Tryz.underlying23 <| bn0 rfl rfl rfl run_lt <| .fin <| cd H rfl (fun _ H => ?_) (fun _ H => ?_)
 rotate_left
 ·
  refine WP.exit ?_
  replace H := Gets.out H
  exact jn ((x1170, decide (x1170 < (a0.fL.length : Int)), x1171), v1172) H
 refine WP.skip <| WP.seq <| WP.block <| WP.seq <| dg Tryz.checked.mixed 9 0 <| lds 0 rfl trivial rfl sg36 rfl rfl <| fb rfl trivial rfl fa36_1 <| ld 0 rfl trivial rfl sc23 rfl rfl <| mv0 rfl rfl <| gr H fun g1174 H => Dv.ixr rfl trivial rfl rfl Tryz.underlying23 Tryz.underlying33 c33 g1174.1 g1174.2 <| fr rfl trivial rfl fa33_4 rfl <| ldR rfl trivial rfl sc9 rfl <| el H fun t1175 h1176 H => cl rfl cal71 rfl (concourseref09_Joined.c h1176) <| as0 rfl rfl <| .fin <| WP.seq <| rg 1 0 <| mv0 rfl rfl <| .fin <| cd H rfl (fun _ H => ?_) (fun _ H => ?_)
 rotate_left
 ·
  exact WP.skip <| rg 3 0 <| mv0 rfl rfl <| bn0 rfl rfl rfl run_add <| as0 rfl rfl <| .fin <| bk j1182 (w64 (x1170 + 1), x1171, v1172) H
 refine rg 9 128 <| mv0 rfl rfl <| fb rfl trivial rfl fa36_1 <| ld 0 rfl trivial rfl sc23 rfl rfl <| mv0 rfl rfl <| gr H fun g1178 H => Dv.ixr rfl trivial rfl rfl Tryz.underlying23 Tryz.underlying33 c33 g1178.1 g1178.2 <| fr rfl trivial rfl fa33_4 rfl <| ldR rfl trivial rfl sc9 rfl <| el H fun t1179 h1180 H => cx 2 [1,0] cal72 (Tr.lend [own strK v1172.1 x1171] (concourseref09_Put.c h1180) (.cons (lt_own (mem_at 0 rfl)) (.cons lt_id .nil)) (fun _ => flat_eq) (fun _ => (flatAs_cons (flatA_own flatK_str) flatAs_nil))) nofun fun g1181 _ => ?_
 refine as0 rfl rfl <| .fin <| rg 3 0 <| mv0 rfl rfl <| bn0 rfl rfl rfl run_add <| as0 rfl rfl <| .fin <| ng (sg 3 [0,2,1] 1) fun _ _ => ?_
 exact bk j1182 (w64 (x1170 + 1), t1179, g1181) H
theorem slices_Compact_string.c {a0 : List ByteArray} {p0_ : OV} {r : List ByteArray} (h : slices_Compact_string.f a0 = some r) : Tr Tryz.prog 80 [eq p0_.1] [own strK p0_.1 a0] (γ := OV) (fun _ => True) (fun g => eq g.1) (fun g => [own strK g.1 r]) := by
 unfold slices_Compact_string.f at h
 obtain ⟨h0, h5⟩ := (Gets.of h).grd
 obtain rfl := Gets.out h5
 exact compact_tr (fun blk off cap ss w => Go.Proofs.Any.slices_Compact_string Tryz.lays194 blk off cap ss w) (fun q cap w => Go.Proofs.Any.slices_Compact_string_empty Tryz.lays194 q cap w) h0

theorem name_Home.c {k : Nat} {a0 : ByteArray} {r : ByteArray} (h : name_Home.f k a0 = some r) : Pt Tryz.prog 121 [vS a0] (vS r) := by
 unfold name_Home.f at h
 refine (Tr.body Tryz.func121 (c := _) rfl Tryz.ntmps121 (Nat.le_of_ble_eq_true rfl) fun R0 F => ?_).pt
 replace h := Gets.of h
 have H := h
 clear h
 refine WP.seq <| rg 1 0 <| as0 rfl rfl <| .fin <| WP.seq <| WP.seq <| rg 8 0 <| mv0 rfl rfl <| el H fun t1185 h1186 H => cl rfl cal106 rfl (name_User.c h1186) <| un0 rfl rfl (run_not _) <| mv0 rfl rfl ?_
 cases c1187 : !t1185
 ·
  replace H := Gets.cf H c1187
  refine sk rfl rfl <| sk rfl rfl <| sk rfl rfl <| pf0 rfl rfl rfl <| .fin <| WP.cond rfl nofun (fun _ => ?_)
  refine WP.skip <| WP.seq <| rg 9 0 <| mv0 rfl rfl <| el H fun t1194 h1195 H => cl rfl cal139 rfl (strings_Cut.c h1195) <| mv0 rfl rfl <| ex0 rfl trivial rfl rfl <| ex0 rfl trivial rfl rfl <| ex0 rfl trivial rfl rfl <| as0 rfl rfl <| as0 rfl rfl <| as0 rfl rfl <| .fin <| WP.seq <| rg 2 0 <| mv0 rfl rfl <| as0 rfl rfl <| .fin ?_
  obtain rfl := Gets.out H
  exact rt i2 rfl () 0 [] 0 (.cons (res_tmp rfl) .nil)
 replace H := Gets.ct H c1187
 refine mvg rfl rfl rfl <| el H fun t1188 h1189 H => Dv.call rfl (gg rfl) cal105 rfl (name_Room.c h1189) <| ung rfl rfl rfl (run_not _) <| pt0 rfl rfl rfl <| .fin <| cd H rfl (fun _ H => ?_) (fun _ H => ?_)
 ·
  refine WP.seq <| rg 1 0 <| as0 rfl rfl <| .fin ?_
  obtain rfl := Gets.out H
  exact rt i2 rfl () 0 [] 0 (.cons (res_tmp rfl) .nil)
 refine WP.skip <| WP.seq <| rg 9 0 <| mv0 rfl rfl <| el H fun t1191 h1192 H => cl rfl cal139 rfl (strings_Cut.c h1192) <| mv0 rfl rfl <| ex0 rfl trivial rfl rfl <| ex0 rfl trivial rfl rfl <| ex0 rfl trivial rfl rfl <| as0 rfl rfl <| as0 rfl rfl <| as0 rfl rfl <| .fin <| WP.seq <| rg 2 0 <| mv0 rfl rfl <| as0 rfl rfl <| .fin ?_
 obtain rfl := Gets.out H
 exact rt i2 rfl () 0 [] 0 (.cons (res_tmp rfl) .nil)
theorem member_Homes.c {k : Nat} {a0 : List ByteArray} {r : (List ByteArray)} (h : member_Homes.f k a0 = some r) : Tr Tryz.prog 99 [sl strK a0] [] (γ := OV) (fun _ => True) (fun g => eq g.1) (fun g => [own strK g.1 r]) := by
 unfold member_Homes.f at h
 refine Tr.body Tryz.func99 (c := _) rfl Tryz.ntmps99 (Nat.le_of_ble_eq_true rfl) fun R0 F => ?_
 replace h := Gets.of h
 have H := h
 clear h
 refine WP.seq <| rg 1 0 <| as0 rfl rfl <| .fin <| WP.seq <| rg 1 0 <| as0 rfl rfl <| .fin <| WP.seqn H (fun q1215 : (Int × Bool × (List ByteArray)) × OV => q1215.1) (fun q1215 : (Int × Bool × (List ByteArray)) × OV => [(0, sl strK a0), (2, eq (.slice none 0 0)), (3, eq q1215.2.1), (7, sl strK a0), (8, vI (a0.length : Int)), (9, vI q1215.1.1), (10, vB q1215.1.2.1)]) (fun q1215 : (Int × Bool × (List ByteArray)) × OV => [own strK q1215.2.1 q1215.1.2.2] ++ F) (fun q1215 H => ?_) (fun H => ?_)
 ·
  obtain ⟨p1196, v1197⟩ := q1215
  refine WP.seq <| rg 2 2 <| mv0 rfl rfl <| el H fun t1198 h1199 H => cx 1 [0] cal59 (slices_Sort_string.c h1199 (p0_ := v1197)) nofun fun _ _ => ?_
  refine .fin <| WP.seq <| rg 3 2 <| mv0 rfl rfl <| el H fun t1200 h1201 H => cx 1 [0] cal80 (slices_Compact_string.c h1201 (p0_ := v1197)) nofun fun g1202 _ => ?_
  refine as0 rfl rfl <| .fin ?_
  obtain rfl := Gets.out H
  exact rt i2 rfl g1202 1 [0] 0 (.cons (res_tmp rfl) .nil)
 refine WP.seq <| rg 3 0 <| mv0 rfl rfl <| Dv.lenl rfl trivial rfl Tryz.underlying31 <| mv0 rfl rfl <| .fin <| WP.block <| wg (st_nil strK none) fun _ _ => ?_
 refine wg (sg 1 [0] 0) fun _ _ => ?_
 refine lp (fun j_ (p1214 : Int × (List ByteArray) × OV) => member_Homes.l0 k a0 j_ p1214.1 p1214.2.1) (0, ([] : List ByteArray), nilV) H (fun p1214 => [(0, sl strK a0), (2, eq (.slice none 0 0)), (3, eq p1214.2.2.1), (7, sl strK a0), (8, vI (a0.length : Int)), (9, vI p1214.1)]) (fun p1214 => [own strK p1214.2.2.1 p1214.2.1] ++ F) ?_
 rintro j_ ⟨x1203, x1204, v1205⟩ H
 rcases j_ with _ | j1213
 ·
  exact (Gets.no H).elim
 replace H : Gets (member_Homes.l0 k a0 (j1213 + 1) x1203 x1204) _ := H
 rw [member_Homes.l0] at H
 refine WP.seq <| rg 1 0 <| bn0 rfl rfl rfl run_lt <| .fin <| WP.seq <| cd H rfl (fun _ H => ?_) (fun _ H => ?_)
 rotate_left
 ·
  refine WP.exit ?_
  replace H := Gets.out H
  exact jn ((x1203, decide (x1203 < (a0.length : Int)), x1204), v1205) H
 refine WP.skip <| WP.seq <| WP.block <| WP.seq <| rg 3 0 <| gr H fun g1207 H => Dv.ixr rfl trivial rfl rfl Tryz.underlying31 Tryz.underlying9 c9 g1207.1 g1207.2 <| ldR rfl trivial rfl sc9 rfl <| as0 rfl rfl <| .fin <| WP.seq <| rg 3 0 <| mv0 rfl rfl <| el H fun t1208 h1209 H => cl rfl cal121 rfl (name_Home.c h1209) <| as0 rfl rfl <| .fin <| WP.seq <| rg 2 0 <| mv0 rfl rfl <| bn0 rfl rfl rfl run_sne <| .fin <| cd H rfl (fun _ H => ?_) (fun _ H => ?_)
 rotate_left
 ·
  exact WP.skip <| rg 2 0 <| bn0 rfl rfl rfl run_add <| mv0 rfl rfl <| .fin <| bk j1213 (w64 (x1203 + 1), x1204, v1205) H
 refine rg 5 8 <| mv0 rfl rfl <| mv0 rfl rfl <| Dv.lit strK ([t1208] : List ByteArray) (css := [[vS t1208]]) rfl trivial Tryz.underlying31 Tryz.underlying9 c9 z9 rfl (by decide) (by decide) rfl ⟨(cells_one (one_eq rfl)), trivial⟩ rfl rfl rfl <| gr H fun g1211 H => ap strK 0 ([t1208] : List ByteArray) src_sl Tryz.underlying31 (.inr ⟨_, Tryz.underlying31⟩) inf9 g1211 nofun fun v1212 => ?_
 exact as0 rfl rfl <| .fin <| rg 2 0 <| bn0 rfl rfl rfl run_add <| mv0 rfl rfl <| .fin <| bk j1213 (w64 (x1203 + 1), x1204 ++ ([t1208] : List ByteArray), v1212) H
theorem member_Servers.c {k : Nat} {a0 : DDag} {v0_0 : OV} {b0_ : Nat} {r : (List ByteArray)} (h : member_Servers.f k a0 = some r) : Tr Tryz.prog 73 [eq (.pointer (some ⟨b0_, 0, none⟩))] [blk b0_ 102 [vS a0.froom, eq v0_0.1], mpo Value.string DNode.O v0_0.1 a0.fnodes] (γ := OV) (fun _ => True) (fun g => eq g.1) (fun g => [blk b0_ 102 [vS a0.froom, eq v0_0.1], mpo Value.string DNode.O v0_0.1 a0.fnodes, own strK g.1 r]) := by
 unfold member_Servers.f at h
 refine Tr.body Tryz.func73 (c := _) rfl Tryz.ntmps73 (Nat.le_of_ble_eq_true rfl) fun R0 F => ?_
 replace h := Gets.of h
 have H := h
 clear h
 refine WP.seq <| rg 1 0 <| as0 rfl rfl <| .fin <| WP.seq <| rg 4 6 <| mv0 rfl rfl <| el H fun t1216 h1217 H => cx 2 [0,1] cal70 (member_Users.c h1217 (b0_ := b0_) (v0_0 := v0_0)) nofun fun g1218 _ => ?_
 refine el H fun t1219 h1220 H => cx 3 [2,0,1] cal99 (Tr.lend [own strK g1218.1 t1216] (member_Homes.c h1220) (.cons (lt_own (mem_at 0 rfl)) .nil) (fun _ => flat_eq) (fun _ => (flatAs_cons (flatA_own flatK_str) flatAs_nil))) nofun fun g1221 _ => ?_
 refine as0 rfl rfl <| .fin ?_
 obtain rfl := Gets.out H
 exact rt i2 rfl g1221 4 [0,2,3,1] 1 (.cons (res_tmp rfl) .nil)
theorem view_View_Servers.c {k : Nat} {a0 : VView} {a1 : ByteArray} {v0_0 : OV} {b0_ : Nat} {r : (List ByteArray)} (h : view_View_Servers.f k a0 a1 = some r) : Tr Tryz.prog 33 [eq (.pointer (some ⟨b0_, 0, none⟩)), vS a1] [blk b0_ 80 [eq v0_0.1], mpo Value.string DDag.O v0_0.1 a0.fdags] (γ := OV) (fun _ => True) (fun g => eq g.1) (fun g => [blk b0_ 80 [eq v0_0.1], mpo Value.string DDag.O v0_0.1 a0.fdags, own strK g.1 r]) := by
 unfold view_View_Servers.f at h
 refine Tr.body Tryz.func33 (c := _) rfl Tryz.ntmps33 (Nat.le_of_ble_eq_true rfl) fun R0 F => ?_
 replace h := Gets.of h
 have H := h
 clear h
 refine WP.seq <| rg 1 0 <| as0 rfl rfl <| .fin <| WP.seq <| rg 5 12 <| mv0 rfl rfl <| mv0 rfl rfl <| el H fun t1222 h1223 H => cx 2 [0,1] cal52 (view_View_room.c h1223 (b0_ := b0_) (v0_0 := v0_0)) nofun fun v1224 _ => ?_
 refine vg (DDag.opn 2 rfl) fun g1225 h1226 => ?_
 refine el H fun t1227 h1228 H => cx 4 [0,1,2,3] cal73 (Tr.weak (member_Servers.c h1228 (b0_ := g1225.1) (v0_0 := g1225.2)) (.cons (wk_ptr h1226) .nil)) nofun fun g1229 _ => ?_
 refine as0 rfl rfl <| .fin <| wg (DDag.shut (p := v1224) (m := t1222) (g1225.1, g1225.2) h1226 (pm 5 [0,1,2,3,4])) fun _ _ => ?_
 refine wg (mpl_back0 (view_View_room.r h1223) (pm 4 [3,0,1,2])) fun _ _ => ?_
 obtain rfl := Gets.out H
 exact rt i2 rfl g1229 3 [2,0,1] 0 (.cons (res_tmp rfl) .nil)
theorem concourseref01_Home.c {k : Nat} {a0 : ByteArray} {r : ByteArray} (h : concourseref01_Home.f k a0 = some r) : Pt Tryz.prog 100 [vS a0] (vS r) := by
 unfold concourseref01_Home.f at h
 refine (Tr.body Tryz.func100 (c := _) rfl Tryz.ntmps100 (Nat.le_of_ble_eq_true rfl) fun R0 F => ?_).pt
 replace h := Gets.of h
 have H := h
 clear h
 refine WP.seq <| rg 1 0 <| as0 rfl rfl <| .fin <| WP.seq <| rg 3 0 <| mv0 rfl rfl <| el H fun t1230 h1231 H => cl rfl cal103 rfl (concourseref01_Named.c h1231) <| as0 rfl rfl <| .fin <| WP.seq <| rg 3 0 <| mv0 rfl rfl <| el H fun t1232 h1233 H => cl rfl cal103 rfl (concourseref01_Named.c h1233) <| as0 rfl rfl <| .fin <| WP.seq <| WP.seq <| rg 6 0 <| mv0 rfl rfl <| un0 rfl rfl (run_not _) <| mv0 rfl rfl ?_
 cases c1234 : !t1230
 ·
  replace H := Gets.cf H c1234
  refine sk rfl rfl <| sk rfl rfl <| pf0 rfl rfl rfl <| .fin <| WP.cond rfl nofun (fun _ => ?_)
  refine WP.skip <| WP.seq <| rg 6 0 <| mv0 rfl rfl <| mv0 rfl rfl <| el H fun t1240 h1241 H => cl rfl cal122 rfl (concourseref01_colon.c h1241) <| bn0 rfl rfl rfl run_add <| gr H fun g1242 H => Dv.sss rfl trivial rfl Tryz.underlying9 (bdE_some rfl g1242.1) bdE_none g1242.2.1 g1242.2.2 <| as0 rfl rfl <| .fin ?_
  obtain rfl := Gets.out H
  exact rt i2 rfl () 0 [] 0 (.cons (res_tmp rfl) .nil)
 replace H := Gets.ct H c1234
 refine mvg rfl rfl rfl <| ung rfl rfl rfl (run_not _) <| pt0 rfl rfl rfl <| .fin <| cd H rfl (fun _ H => ?_) (fun _ H => ?_)
 ·
  refine WP.seq <| rg 1 0 <| as0 rfl rfl <| .fin ?_
  obtain rfl := Gets.out H
  exact rt i2 rfl () 0 [] 0 (.cons (res_tmp rfl) .nil)
 refine WP.skip <| WP.seq <| rg 6 0 <| mv0 rfl rfl <| mv0 rfl rfl <| el H fun t1236 h1237 H => cl rfl cal122 rfl (concourseref01_colon.c h1237) <| bn0 rfl rfl rfl run_add <| gr H fun g1238 H => Dv.sss rfl trivial rfl Tryz.underlying9 (bdE_some rfl g1238.1) bdE_none g1238.2.1 g1238.2.2 <| as0 rfl rfl <| .fin ?_
 obtain rfl := Gets.out H
 exact rt i2 rfl () 0 [] 0 (.cons (res_tmp rfl) .nil)
theorem concourseref09_Homes.c {k : Nat} {a0 : List ByteArray} {r : (List ByteArray)} (h : concourseref09_Homes.f k a0 = some r) : Tr Tryz.prog 74 [sl strK a0] [] (γ := OV) (fun _ => True) (fun g => eq g.1) (fun g => [own strK g.1 r]) := by
 unfold concourseref09_Homes.f at h
 refine Tr.body Tryz.func74 (c := _) rfl Tryz.ntmps74 (Nat.le_of_ble_eq_true rfl) fun R0 F => ?_
 replace h := Gets.of h
 have H := h
 clear h
 refine WP.seq <| rg 1 0 <| as0 rfl rfl <| .fin <| WP.seq <| rg 1 0 <| as0 rfl rfl <| .fin <| WP.seqn H (fun q1258 : (Int × Bool × (List ByteArray)) × OV => q1258.1) (fun q1258 : (Int × Bool × (List ByteArray)) × OV => [(0, sl strK a0), (2, eq (.slice none 0 0)), (3, eq q1258.2.1), (4, vI q1258.1.1), (9, vB q1258.1.2.1)]) (fun q1258 : (Int × Bool × (List ByteArray)) × OV => [own strK q1258.2.1 q1258.1.2.2] ++ F) (fun q1258 H => ?_) (fun H => ?_)
 ·
  obtain ⟨p1243, v1244⟩ := q1258
  refine WP.seq <| rg 2 0 <| mv0 rfl rfl <| as0 rfl rfl <| .fin ?_
  obtain rfl := Gets.out H
  exact rt i2 rfl v1244 1 [0] 0 (.cons (res_tmp rfl) .nil)
 refine WP.seq <| rg 1 0 <| as0 rfl rfl <| .fin <| WP.block <| wg (st_nil strK none) fun _ _ => ?_
 refine wg (sg 1 [0] 0) fun _ _ => ?_
 refine lp (fun j_ (p1257 : Int × (List ByteArray) × OV) => concourseref09_Homes.l0 k a0 j_ p1257.1 p1257.2.1) (0, ([] : List ByteArray), nilV) H (fun p1257 => [(0, sl strK a0), (2, eq (.slice none 0 0)), (3, eq p1257.2.2.1), (4, vI p1257.1)]) (fun p1257 => [own strK p1257.2.2.1 p1257.2.1] ++ F) ?_
 rintro j_ ⟨x1245, x1246, v1247⟩ H
 rcases j_ with _ | j1256
 ·
  exact (Gets.no H).elim
 replace H : Gets (concourseref09_Homes.l0 k a0 (j1256 + 1) x1245 x1246) _ := H
 rw [concourseref09_Homes.l0] at H
 refine WP.seq <| WP.seq <| rg 4 0 <| mv0 rfl rfl <| mv0 rfl rfl <| Dv.lenl rfl trivial rfl Tryz.underlying31 <| bn0 rfl rfl rfl run_lt <| .fin <| cd H rfl (fun _ H => ?_) (fun _ H => ?_)
 rotate_left
 ·
  refine WP.exit ?_
  replace H := Gets.out H
  exact jn ((x1245, decide (x1245 < (a0.length : Int)), x1246), v1247) H
 refine WP.skip <| WP.seq <| WP.block <| WP.seq <| rg 6 0 <| mv0 rfl rfl <| mv0 rfl rfl <| gr H fun g1249 H => Dv.ixr rfl trivial rfl rfl Tryz.underlying31 Tryz.underlying9 c9 g1249.1 g1249.2 <| ldR rfl trivial rfl sc9 rfl <| el H fun t1250 h1251 H => cl rfl cal100 rfl (concourseref01_Home.c h1251) <| as0 rfl rfl <| .fin <| WP.seq <| rg 2 0 <| mv0 rfl rfl <| bn0 rfl rfl rfl run_sne <| .fin <| cd H rfl (fun _ H => ?_) (fun _ H => ?_)
 rotate_left
 ·
  exact WP.skip <| rg 3 0 <| mv0 rfl rfl <| bn0 rfl rfl rfl run_add <| as0 rfl rfl <| .fin <| bk j1256 (w64 (x1245 + 1), x1246, v1247) H
 refine rg 4 4 <| mv0 rfl rfl <| mv0 rfl rfl <| el H fun t1253 h1254 H => cx 1 [0] cal72 (Tr.lend [own strK v1247.1 x1246] (concourseref09_Put.c h1254) (.cons (lt_own (mem_at 0 rfl)) (.cons lt_id .nil)) (fun _ => flat_eq) (fun _ => (flatAs_cons (flatA_own flatK_str) flatAs_nil))) nofun fun g1255 _ => ?_
 refine as0 rfl rfl <| .fin <| rg 3 0 <| mv0 rfl rfl <| bn0 rfl rfl rfl run_add <| as0 rfl rfl <| .fin <| ng (sg 2 [0,1] 1) fun _ _ => ?_
 exact bk j1256 (w64 (x1245 + 1), t1253, g1255) H
theorem concourseref09_Servers.c {k : Nat} {a0 : RDag} {r : (List ByteArray)} (h : concourseref09_Servers.f k a0 = some r) : Tr Tryz.prog 34 [agg (RDag.enc a0)] [] (γ := OV) (fun _ => True) (fun g => eq g.1) (fun g => [own strK g.1 r]) := by
 unfold concourseref09_Servers.f at h
 refine Tr.body Tryz.func34 (c := _) rfl Tryz.ntmps34 (Nat.le_of_ble_eq_true rfl) fun R0 F => ?_
 replace h := Gets.of h
 have H := h
 clear h
 refine WP.seq <| rg 2 1 <| Dv.box rfl trivial rfl cA nofun fun b1259 => as0 rfl rfl <| .fin <| WP.seq <| rg 4 6 <| lds 0 rfl trivial rfl sg36 rfl rfl <| el H fun t1260 h1261 H => cx 1 [0] cal32 (concourseref09_Users.c h1261) nofun fun g1262 _ => ?_
 refine el H fun t1263 h1264 H => cx 2 [0,1] cal74 (Tr.lend [own strK g1262.1 t1260] (concourseref09_Homes.c h1264) (.cons (lt_own (mem_at 0 rfl)) .nil) (fun _ => flat_eq) (fun _ => (flatAs_cons (flatA_own flatK_str) flatAs_nil))) nofun fun g1265 _ => ?_
 refine as0 rfl rfl <| .fin ?_
 obtain rfl := Gets.out H
 exact rt i2 rfl g1265 3 [0,2,1] 2 (.cons (res_tmp rfl) .nil)
theorem member_Joined.c {k : Nat} {a0 : DDag} {a1 : ByteArray} {v0_0 : OV} {b0_ : Nat} {r : Bool} (h : member_Joined.f k a0 a1 = some r) : Tr Tryz.prog 75 [eq (.pointer (some ⟨b0_, 0, none⟩)), vS a1] [blk b0_ 102 [vS a0.froom, eq v0_0.1], mpo Value.string DNode.O v0_0.1 a0.fnodes] (γ := Unit) (fun _ => True) (fun g => vB r) (fun g => [blk b0_ 102 [vS a0.froom, eq v0_0.1], mpo Value.string DNode.O v0_0.1 a0.fnodes]) := by
 unfold member_Joined.f at h
 refine Tr.body Tryz.func75 (c := _) rfl Tryz.ntmps75 (Nat.le_of_ble_eq_true rfl) fun R0 F => ?_
 replace h := Gets.of h
 have H := h
 clear h
 refine WP.seq <| rg 1 0 <| as0 rfl rfl <| .fin <| WP.seq <| rg 6 2 <| mv0 rfl rfl <| el H fun t1266 h1267 H => cx 2 [0,1] cal97 (member_joined.c h1267 (b0_ := b0_) (v0_0 := v0_0)) nofun fun g1268 _ => ?_
 refine mv0 rfl rfl <| Dv.mlv 0 rfl trivial rfl (mem_at 2 rfl) rfl Tryz.underlying118 (keyOk_str Tryz.underlying9) z3 (fun _ => rfl) <| bn0 rfl rfl rfl run_gt <| as0 rfl rfl <| .fin ?_
 obtain rfl := Gets.out H
 exact rt i2 rfl () 3 [2,0,1] 1 (.cons (res_tmp rfl) .nil)
theorem view_View_Joined.c {k : Nat} {a0 : VView} {a1 : ByteArray} {a2 : ByteArray} {v0_0 : OV} {b0_ : Nat} {r : Bool} (h : view_View_Joined.f k a0 a1 a2 = some r) : Tr Tryz.prog 35 [eq (.pointer (some ⟨b0_, 0, none⟩)), vS a1, vS a2] [blk b0_ 80 [eq v0_0.1], mpo Value.string DDag.O v0_0.1 a0.fdags] (γ := Unit) (fun _ => True) (fun g => vB r) (fun g => [blk b0_ 80 [eq v0_0.1], mpo Value.string DDag.O v0_0.1 a0.fdags]) := by
 unfold view_View_Joined.f at h
 refine Tr.body Tryz.func35 (c := _) rfl Tryz.ntmps35 (Nat.le_of_ble_eq_true rfl) fun R0 F => ?_
 replace h := Gets.of h
 have H := h
 clear h
 refine WP.seq <| rg 1 0 <| as0 rfl rfl <| .fin <| WP.seq <| rg 6 4 <| mv0 rfl rfl <| mv0 rfl rfl <| el H fun t1269 h1270 H => cx 2 [0,1] cal52 (view_View_room.c h1270 (b0_ := b0_) (v0_0 := v0_0)) nofun fun v1271 _ => ?_
 refine mv0 rfl rfl <| vg (DDag.opn 2 rfl) fun g1272 h1273 => ?_
 refine el H fun t1274 h1275 H => cll 4 [0,1,2,3] cal75 (Tr.weak (member_Joined.c h1275 (b0_ := g1272.1) (v0_0 := g1272.2)) (.cons (wk_ptr h1273) (.cons wk_id .nil))) ?_
 refine as0 rfl rfl <| .fin <| wg (DDag.shut (p := v1271) (m := t1269) (g1272.1, g1272.2) h1273 (pm 4 [0,1,2,3])) fun _ _ => ?_
 refine wg (mpl_back0 (view_View_room.r h1270) (pm 3 [2,0,1])) fun _ _ => ?_
 obtain rfl := Gets.out H
 exact rt i2 rfl () 2 [1,0] 0 (.cons (res_tmp rfl) .nil)
theorem concourseref10_Joined.c {k : Nat} {a0 : RView} {a1 : ByteArray} {a2 : ByteArray} {r : Bool} (h : concourseref10_Joined.f k a0 a1 a2 = some r) : Pt Tryz.prog 37 [agg (RView.enc a0), vS a1, vS a2] (vB r) := by
 unfold concourseref10_Joined.f at h
 refine (Tr.body Tryz.func37 (c := _) rfl Tryz.ntmps37 (Nat.le_of_ble_eq_true rfl) fun R0 F => ?_).pt
 replace h := Gets.of h
 have H := h
 clear h
 refine WP.seq <| rg 2 1 <| Dv.box rfl trivial rfl cA nofun fun b1276 => as0 rfl rfl <| .fin <| WP.seq <| rg 6 0 <| lds 0 rfl trivial rfl sg28 rfl rfl <| mv0 rfl rfl <| el H fun t1277 h1278 H => cl rfl cal10 rfl (concourseref10_Of.c h1278) <| mv0 rfl rfl <| el H fun t1279 h1280 H => cl rfl cal71 rfl (concourseref09_Joined.c h1280) <| as0 rfl rfl <| .fin ?_
 obtain rfl := Gets.out H
 exact rt i2 rfl () 1 [0] 1 (.cons (res_tmp rfl) .nil)
theorem slices_Index_string.c {k : Nat} {a0 : List ByteArray} {a1 : ByteArray} {r : Int} (h : slices_Index_string.f k a0 a1 = some r) : Pt Tryz.prog 101 [sl strK a0, vS a1] (vI r) := by
 unfold slices_Index_string.f at h
 refine (Tr.body Tryz.func101 (c := _) rfl Tryz.ntmps101 (Nat.le_of_ble_eq_true rfl) fun R0 F => ?_).pt
 replace h := Gets.of h
 have H := h
 clear h
 refine WP.seq <| rg 1 0 <| as0 rfl rfl <| .fin <| WP.seqr H id (fun p1281 : Int × Bool => [(0, sl strK a0), (1, vS a1), (4, vI 0), (7, vI (a0.length : Int)), (8, vI p1281.1), (9, vB p1281.2)]) (fun p1281 : Int × Bool => F) (fun p1281 H => ?_) (fun H => ?_)
 ·
  refine WP.seq <| rg 1 0 <| as0 rfl rfl <| .fin ?_
  obtain rfl := Gets.out H
  exact rt i2 rfl () 0 [] 0 (.cons (res_tmp rfl) .nil)
 refine WP.seq <| rg 3 0 <| mv0 rfl rfl <| Dv.lenl rfl trivial rfl Tryz.underlying31 <| mv0 rfl rfl <| .fin <| WP.block <| wg (sg 0 [] 0) fun _ _ => ?_
 refine lp (fun j_ (p1287 : Int) => slices_Index_string.l0 k a0 a1 j_ p1287) 0 H (fun p1287 => [(0, sl strK a0), (1, vS a1), (4, vI 0), (7, vI (a0.length : Int)), (8, vI p1287)]) (fun p1287 => F) ?_
 rintro j_ x1282 H
 rcases j_ with _ | j1286
 ·
  exact (Gets.no H).elim
 replace H : Gets (slices_Index_string.l0 k a0 a1 (j1286 + 1) x1282) _ := H
 rw [slices_Index_string.l0] at H
 refine WP.seq <| rg 1 0 <| bn0 rfl rfl rfl run_lt <| .fin <| WP.seq <| cd H rfl (fun _ H => ?_) (fun _ H => ?_)
 rotate_left
 ·
  refine WP.exit ?_
  replace H := Gets.out H
  exact jn (x1282, decide (x1282 < (a0.length : Int))) H
 refine WP.skip <| WP.seq <| WP.block <| WP.seq <| rg 2 0 <| mv0 rfl rfl <| as0 rfl rfl <| .fin <| WP.seq <| rg 6 0 <| mv0 rfl rfl <| mv0 rfl rfl <| mv0 rfl rfl <| gr H fun g1284 H => Dv.ixr rfl trivial rfl rfl Tryz.underlying31 Tryz.underlying9 c9 g1284.1 g1284.2 <| ldR rfl trivial rfl sc9 rfl <| bn0 rfl rfl rfl run_seq <| .fin <| cd H rfl (fun _ H => ?_) (fun _ H => ?_)
 rotate_left
 ·
  exact WP.skip <| rg 2 0 <| bn0 rfl rfl rfl run_add <| mv0 rfl rfl <| .fin <| bk j1286 (w64 (x1282 + 1)) H
 refine WP.seq <| rg 2 0 <| mv0 rfl rfl <| as0 rfl rfl <| .fin ?_
 replace H := Gets.outr H
 obtain rfl := Gets.out H
 exact rt i2 rfl () 0 [] 0 (.cons (res_tmp rfl) .nil)
theorem slices_Contains_string.c {k : Nat} {a0 : List ByteArray} {a1 : ByteArray} {r : Bool} (h : slices_Contains_string.f k a0 a1 = some r) : Pt Tryz.prog 82 [sl strK a0, vS a1] (vB r) := by
 unfold slices_Contains_string.f at h
 refine (Tr.body Tryz.func82 (c := _) rfl Tryz.ntmps82 (Nat.le_of_ble_eq_true rfl) fun R0 F => ?_).pt
 replace h := Gets.of h
 have H := h
 clear h
 refine WP.seq <| rg 1 0 <| as0 rfl rfl <| .fin <| WP.seq <| rg 5 0 <| mv0 rfl rfl <| mv0 rfl rfl <| el H fun t1288 h1289 H => cl rfl cal101 rfl (slices_Index_string.c h1289) <| bn0 rfl rfl rfl run_ge <| as0 rfl rfl <| .fin ?_
 obtain rfl := Gets.out H
 exact rt i2 rfl () 0 [] 0 (.cons (res_tmp rfl) .nil)
theorem member_In.c {k : Nat} {a0 : DDag} {a1 : ByteArray} {v0_0 : OV} {b0_ : Nat} {r : Bool} (h : member_In.f k a0 a1 = some r) : Tr Tryz.prog 76 [eq (.pointer (some ⟨b0_, 0, none⟩)), vS a1] [blk b0_ 102 [vS a0.froom, eq v0_0.1], mpo Value.string DNode.O v0_0.1 a0.fnodes] (γ := Unit) (fun _ => True) (fun g => vB r) (fun g => [blk b0_ 102 [vS a0.froom, eq v0_0.1], mpo Value.string DNode.O v0_0.1 a0.fnodes]) := by
 unfold member_In.f at h
 refine Tr.body Tryz.func76 (c := _) rfl Tryz.ntmps76 (Nat.le_of_ble_eq_true rfl) fun R0 F => ?_
 replace h := Gets.of h
 have H := h
 clear h
 refine WP.seq <| rg 1 0 <| as0 rfl rfl <| .fin <| WP.seq <| rg 5 2 <| mv0 rfl rfl <| el H fun t1290 h1291 H => cx 2 [0,1] cal73 (member_Servers.c h1291 (b0_ := b0_) (v0_0 := v0_0)) nofun fun g1292 _ => ?_
 refine mv0 rfl rfl <| el H fun t1293 h1294 H => cll (B := [own strK g1292.1 t1290]) 3 [2,0,1] cal82 (Pt.lend _ (slices_Contains_string.c h1294) (.cons (lt_own (mem_at 0 rfl)) (.cons lt_id .nil)) flat_eq) ?_
 refine as0 rfl rfl <| .fin ?_
 obtain rfl := Gets.out H
 exact rt i2 rfl () 3 [2,0,1] 1 (.cons (res_tmp rfl) .nil)
theorem view_View_In.c {k : Nat} {a0 : VView} {a1 : ByteArray} {a2 : ByteArray} {v0_0 : OV} {b0_ : Nat} {r : Bool} (h : view_View_In.f k a0 a1 a2 = some r) : Tr Tryz.prog 38 [eq (.pointer (some ⟨b0_, 0, none⟩)), vS a1, vS a2] [blk b0_ 80 [eq v0_0.1], mpo Value.string DDag.O v0_0.1 a0.fdags] (γ := Unit) (fun _ => True) (fun g => vB r) (fun g => [blk b0_ 80 [eq v0_0.1], mpo Value.string DDag.O v0_0.1 a0.fdags]) := by
 unfold view_View_In.f at h
 refine Tr.body Tryz.func38 (c := _) rfl Tryz.ntmps38 (Nat.le_of_ble_eq_true rfl) fun R0 F => ?_
 replace h := Gets.of h
 have H := h
 clear h
 refine WP.seq <| rg 1 0 <| as0 rfl rfl <| .fin <| WP.seq <| rg 6 4 <| mv0 rfl rfl <| mv0 rfl rfl <| el H fun t1295 h1296 H => cx 2 [0,1] cal52 (view_View_room.c h1296 (b0_ := b0_) (v0_0 := v0_0)) nofun fun v1297 _ => ?_
 refine mv0 rfl rfl <| vg (DDag.opn 2 rfl) fun g1298 h1299 => ?_
 refine el H fun t1300 h1301 H => cll 4 [0,1,2,3] cal76 (Tr.weak (member_In.c h1301 (b0_ := g1298.1) (v0_0 := g1298.2)) (.cons (wk_ptr h1299) (.cons wk_id .nil))) ?_
 refine as0 rfl rfl <| .fin <| wg (DDag.shut (p := v1297) (m := t1295) (g1298.1, g1298.2) h1299 (pm 4 [0,1,2,3])) fun _ _ => ?_
 refine wg (mpl_back0 (view_View_room.r h1296) (pm 3 [2,0,1])) fun _ _ => ?_
 obtain rfl := Gets.out H
 exact rt i2 rfl () 2 [1,0] 0 (.cons (res_tmp rfl) .nil)
theorem concourseref09_Has.c {k : Nat} {a0 : List ByteArray} {a1 : ByteArray} {r : Bool} (h : concourseref09_Has.f k a0 a1 = some r) : Pt Tryz.prog 40 [sl strK a0, vS a1] (vB r) := by
 unfold concourseref09_Has.f at h
 refine (Tr.body Tryz.func40 (c := _) rfl Tryz.ntmps40 (Nat.le_of_ble_eq_true rfl) fun R0 F => ?_).pt
 replace h := Gets.of h
 have H := h
 clear h
 refine WP.seq <| rg 1 0 <| as0 rfl rfl <| .fin <| WP.seqr H id (fun p1302 : Int × Bool => [(0, sl strK a0), (1, vS a1), (4, vB false), (5, vI p1302.1), (9, vB p1302.2)]) (fun p1302 : Int × Bool => F) (fun p1302 H => ?_) (fun H => ?_)
 ·
  refine WP.seq <| rg 1 0 <| as0 rfl rfl <| .fin ?_
  obtain rfl := Gets.out H
  exact rt i2 rfl () 0 [] 0 (.cons (res_tmp rfl) .nil)
 refine WP.seq <| rg 1 0 <| as0 rfl rfl <| .fin <| WP.block <| wg (sg 0 [] 0) fun _ _ => ?_
 refine lp (fun j_ (p1308 : Int) => concourseref09_Has.l0 k a0 a1 j_ p1308) 0 H (fun p1308 => [(0, sl strK a0), (1, vS a1), (4, vB false), (5, vI p1308)]) (fun p1308 => F) ?_
 rintro j_ x1303 H
 rcases j_ with _ | j1307
 ·
  exact (Gets.no H).elim
 replace H : Gets (concourseref09_Has.l0 k a0 a1 (j1307 + 1) x1303) _ := H
 rw [concourseref09_Has.l0] at H
 refine WP.seq <| WP.seq <| rg 4 0 <| mv0 rfl rfl <| mv0 rfl rfl <| Dv.lenl rfl trivial rfl Tryz.underlying31 <| bn0 rfl rfl rfl run_lt <| .fin <| cd H rfl (fun _ H => ?_) (fun _ H => ?_)
 rotate_left
 ·
  refine WP.exit ?_
  replace H := Gets.out H
  exact jn (x1303, decide (x1303 < (a0.length : Int))) H
 refine WP.skip <| WP.seq <| WP.block <| WP.seq <| rg 6 0 <| mv0 rfl rfl <| mv0 rfl rfl <| gr H fun g1305 H => Dv.ixr rfl trivial rfl rfl Tryz.underlying31 Tryz.underlying9 c9 g1305.1 g1305.2 <| ldR rfl trivial rfl sc9 rfl <| mv0 rfl rfl <| bn0 rfl rfl rfl run_seq <| .fin <| cd H rfl (fun _ H => ?_) (fun _ H => ?_)
 rotate_left
 ·
  exact WP.skip <| rg 3 0 <| mv0 rfl rfl <| bn0 rfl rfl rfl run_add <| as0 rfl rfl <| .fin <| bk j1307 (w64 (x1303 + 1)) H
 refine WP.seq <| rg 1 0 <| as0 rfl rfl <| .fin ?_
 replace H := Gets.outr H
 obtain rfl := Gets.out H
 exact rt i2 rfl () 0 [] 0 (.cons (res_tmp rfl) .nil)
theorem concourseref10_RoomsOf.c {k : Nat} {a0 : RView} {a1 : ByteArray} {r : (List ByteArray)} (h : concourseref10_RoomsOf.f k a0 a1 = some r) : Tr Tryz.prog 43 [agg (RView.enc a0), vS a1] [] (γ := OV) (fun _ => True) (fun g => eq g.1) (fun g => [own strK g.1 r]) := by
 unfold concourseref10_RoomsOf.f at h
 refine Tr.body Tryz.func43 (c := _) rfl Tryz.ntmps43 (Nat.le_of_ble_eq_true rfl) fun R0 F => ?_
 replace h := Gets.of h
 have H := h
 clear h
 refine WP.seq <| rg 2 1 <| Dv.box rfl trivial rfl cA nofun fun b1409 => as0 rfl rfl <| .fin <| WP.seq <| rg 1 0 <| as0 rfl rfl <| .fin <| WP.seqn H (fun q1425 : (Int × Bool × (List ByteArray)) × OV => q1425.1) (fun q1425 : (Int × Bool × (List ByteArray)) × OV => [(0, agg (RView.enc a0)), (1, vS a1), (2, eq (.pointer (some ⟨b1409, 0, none⟩))), (4, eq (.slice none 0 0)), (5, eq q1425.2.1), (6, vI q1425.1.1), (12, vB q1425.1.2.1)]) (fun q1425 : (Int × Bool × (List ByteArray)) × OV => [blk b1409 28 (RView.enc a0), own strK q1425.2.1 q1425.1.2.2] ++ F) (fun q1425 H => ?_) (fun H => ?_)
 ·
  obtain ⟨p1410, v1411⟩ := q1425
  refine WP.seq <| rg 2 0 <| mv0 rfl rfl <| as0 rfl rfl <| .fin ?_
  obtain rfl := Gets.out H
  exact rt i2 rfl v1411 2 [0,1] 1 (.cons (res_tmp rfl) .nil)
 refine WP.seq <| rg 1 0 <| as0 rfl rfl <| .fin <| WP.block <| wg (st_nil strK none) fun _ _ => ?_
 refine wg (sg 2 [1,0] 0) fun _ _ => ?_
 refine lp (fun j_ (p1424 : Int × (List ByteArray) × OV) => concourseref10_RoomsOf.l0 k a0 a1 j_ p1424.1 p1424.2.1) (0, ([] : List ByteArray), nilV) H (fun p1424 => [(0, agg (RView.enc a0)), (1, vS a1), (2, eq (.pointer (some ⟨b1409, 0, none⟩))), (4, eq (.slice none 0 0)), (5, eq p1424.2.2.1), (6, vI p1424.1)]) (fun p1424 => [blk b1409 28 (RView.enc a0), own strK p1424.2.2.1 p1424.2.1] ++ F) ?_
 rintro j_ ⟨x1412, x1413, v1414⟩ H
 rcases j_ with _ | j1423
 ·
  exact (Gets.no H).elim
 replace H : Gets (concourseref10_RoomsOf.l0 k a0 a1 (j1423 + 1) x1412 x1413) _ := H
 rw [concourseref10_RoomsOf.l0] at H
 refine WP.seq <| WP.seq <| rg 5 0 <| mv0 rfl rfl <| fb rfl trivial rfl fa28_0 <| ld 0 rfl trivial rfl sc26 rfl rfl <| Dv.lenl rfl trivial rfl Tryz.underlying26 <| bn0 rfl rfl rfl run_lt <| .fin <| cd H rfl (fun _ H => ?_) (fun _ H => ?_)
 rotate_left
 ·
  refine WP.exit ?_
  replace H := Gets.out H
  exact jn ((x1412, decide (x1412 < (a0.fD.length : Int)), x1413), v1414) H
 refine WP.skip <| WP.seq <| WP.block <| WP.seq <| rg 8 0 <| fb rfl trivial rfl fa28_0 <| ld 0 rfl trivial rfl sc26 rfl rfl <| mv0 rfl rfl <| gr H fun g1416 H => Dv.ixr rfl trivial rfl rfl Tryz.underlying26 Tryz.underlying36 c36 g1416.1 g1416.2 <| ldsR rfl trivial rfl sg36 rfl <| mv0 rfl rfl <| el H fun t1417 h1418 H => cl rfl cal71 rfl (concourseref09_Joined.c h1418) <| as0 rfl rfl <| .fin <| WP.seq <| rg 1 0 <| mv0 rfl rfl <| .fin <| cd H rfl (fun _ H => ?_) (fun _ H => ?_)
 rotate_left
 ·
  exact WP.skip <| rg 3 0 <| mv0 rfl rfl <| bn0 rfl rfl rfl run_add <| as0 rfl rfl <| .fin <| bk j1423 (w64 (x1412 + 1), x1413, v1414) H
 refine rg 10 256 <| mv0 rfl rfl <| fb rfl trivial rfl fa28_0 <| ld 0 rfl trivial rfl sc26 rfl rfl <| mv0 rfl rfl <| gr H fun g1420 H => Dv.ixr rfl trivial rfl rfl Tryz.underlying26 Tryz.underlying36 c36 g1420.1 g1420.2 <| fr rfl trivial rfl fa36_0 rfl <| ldR rfl trivial rfl sc9 rfl <| Dv.lit strK ([(RDag.K.at a0.fD x1412).fRoom] : List ByteArray) (css := [[vS ((RDag.K.at a0.fD x1412).fRoom)]]) rfl trivial Tryz.underlying31 Tryz.underlying9 c9 z9 rfl (by decide) (by decide) rfl ⟨(cells_one (one_eq rfl)), trivial⟩ rfl rfl rfl <| gr H fun g1421 H => ap strK 1 ([(RDag.K.at a0.fD x1412).fRoom] : List ByteArray) src_sl Tryz.underlying31 (.inr ⟨_, Tryz.underlying31⟩) inf9 g1421 nofun fun v1422 => ?_
 exact as0 rfl rfl <| .fin <| rg 3 0 <| mv0 rfl rfl <| bn0 rfl rfl rfl run_add <| as0 rfl rfl <| .fin <| bk j1423 (w64 (x1412 + 1), x1413 ++ ([(RDag.K.at a0.fD x1412).fRoom] : List ByteArray), v1422) H
theorem concourseref10_Servers.c {k : Nat} {a0 : RView} {a1 : ByteArray} {r : (List ByteArray)} (h : concourseref10_Servers.f k a0 a1 = some r) : Tr Tryz.prog 77 [agg (RView.enc a0), vS a1] [] (γ := OV) (fun _ => True) (fun g => eq g.1) (fun g => [own strK g.1 r]) := by
 unfold concourseref10_Servers.f at h
 refine Tr.body Tryz.func77 (c := _) rfl Tryz.ntmps77 (Nat.le_of_ble_eq_true rfl) fun R0 F => ?_
 replace h := Gets.of h
 have H := h
 clear h
 refine WP.seq <| rg 2 1 <| Dv.box rfl trivial rfl cA nofun fun b1426 => as0 rfl rfl <| .fin <| WP.seq <| rg 5 8 <| lds 0 rfl trivial rfl sg28 rfl rfl <| mv0 rfl rfl <| el H fun t1427 h1428 H => cl rfl cal10 rfl (concourseref10_Of.c h1428) <| el H fun t1429 h1430 H => cx 1 [0] cal34 (concourseref09_Servers.c h1430) nofun fun g1431 _ => ?_
 refine as0 rfl rfl <| .fin ?_
 obtain rfl := Gets.out H
 exact rt i2 rfl g1431 2 [1,0] 1 (.cons (res_tmp rfl) .nil)
theorem concourseref10_Peers.c {k : Nat} {a0 : RView} {a1 : ByteArray} {r : (List ByteArray)} (h : concourseref10_Peers.f k a0 a1 = some r) : Tr Tryz.prog 41 [agg (RView.enc a0), vS a1] [] (γ := OV) (fun _ => True) (fun g => eq g.1) (fun g => [own strK g.1 r]) := by
 unfold concourseref10_Peers.f at h
 refine Tr.body Tryz.func41 (c := _) rfl Tryz.ntmps41 (Nat.le_of_ble_eq_true rfl) fun R0 F => ?_
 replace h := Gets.of h
 have H := h
 clear h
 refine WP.seq <| rg 2 1 <| Dv.box rfl trivial rfl cA nofun fun b1432 => as0 rfl rfl <| .fin <| WP.seq <| rg 4 4 <| lds 0 rfl trivial rfl sg28 rfl rfl <| mv0 rfl rfl <| el H fun t1433 h1434 H => cx 1 [0] cal43 (concourseref10_RoomsOf.c h1434) nofun fun g1435 _ => ?_
 refine as0 rfl rfl <| .fin <| WP.seq <| rg 1 0 <| as0 rfl rfl <| .fin <| WP.seqn H (fun q1464 : (Int × Bool × (List ByteArray)) × OV => q1464.1) (fun q1464 : (Int × Bool × (List ByteArray)) × OV => [(0, agg (RView.enc a0)), (1, vS a1), (2, eq (.pointer (some ⟨b1432, 0, none⟩))), (4, eq (.slice none 0 0)), (5, eq g1435.1), (6, eq q1464.2.1), (7, vI q1464.1.1), (16, vB q1464.1.2.1)]) (fun q1464 : (Int × Bool × (List ByteArray)) × OV => [blk b1432 28 (RView.enc a0), own strK g1435.1 t1433, own strK q1464.2.1 q1464.1.2.2] ++ F) (fun q1464 H => ?_) (fun H => ?_)
 ·
  obtain ⟨p1436, v1437⟩ := q1464
  refine WP.seq <| rg 2 0 <| mv0 rfl rfl <| as0 rfl rfl <| .fin ?_
  obtain rfl := Gets.out H
  exact rt i2 rfl v1437 3 [0,1,2] 2 (.cons (res_tmp rfl) .nil)
 refine WP.seq <| rg 1 0 <| as0 rfl rfl <| .fin <| WP.block <| wg (st_nil strK none) fun _ _ => ?_
 refine wg (sg 3 [2,1,0] 0) fun _ _ => ?_
 refine lp (fun j_ (p1463 : Int × (List ByteArray) × OV) => concourseref10_Peers.l0 k a0 t1433 j_ p1463.1 p1463.2.1) (0, ([] : List ByteArray), nilV) H (fun p1463 => [(0, agg (RView.enc a0)), (1, vS a1), (2, eq (.pointer (some ⟨b1432, 0, none⟩))), (4, eq (.slice none 0 0)), (5, eq g1435.1), (6, eq p1463.2.2.1), (7, vI p1463.1)]) (fun p1463 => [blk b1432 28 (RView.enc a0), own strK g1435.1 t1433, own strK p1463.2.2.1 p1463.2.1] ++ F) ?_
 rintro j_ ⟨x1438, x1439, v1440⟩ H
 rcases j_ with _ | j1462
 ·
  exact (Gets.no H).elim
 replace H : Gets (concourseref10_Peers.l0 k a0 t1433 (j1462 + 1) x1438 x1439) _ := H
 rw [concourseref10_Peers.l0] at H
 refine WP.seq <| WP.seq <| rg 4 0 <| mv0 rfl rfl <| mv0 rfl rfl <| Dv.lenw rfl trivial rfl (mem_at 1 rfl) Tryz.underlying31 <| bn0 rfl rfl rfl run_lt <| .fin <| cd H rfl (fun _ H => ?_) (fun _ H => ?_)
 rotate_left
 ·
  refine WP.exit ?_
  replace H := Gets.out H
  exact jn ((x1438, decide (x1438 < (t1433.length : Int)), x1439), v1440) H
 refine WP.skip <| WP.seqn H (fun q1461 : (Int × Bool × (List ByteArray) × (List ByteArray)) × OV × OV => q1461.1) (fun q1461 : (Int × Bool × (List ByteArray) × (List ByteArray)) × OV × OV => [(0, agg (RView.enc a0)), (1, vS a1), (2, eq (.pointer (some ⟨b1432, 0, none⟩))), (4, eq (.slice none 0 0)), (5, eq g1435.1), (6, eq q1461.2.1.1), (7, vI x1438), (8, eq q1461.2.2.1), (9, vI q1461.1.1), (16, vB (decide (x1438 < (t1433.length : Int)))), (28, vB q1461.1.2.1)]) (fun q1461 : (Int × Bool × (List ByteArray) × (List ByteArray)) × OV × OV => [blk b1432 28 (RView.enc a0), own strK g1435.1 t1433, own strK q1461.2.1.1 q1461.1.2.2.1, own strK q1461.2.2.1 q1461.1.2.2.2] ++ F) (fun q1461 H => ?_) (fun H => ?_)
 ·
  obtain ⟨p1442, v1443, v1444⟩ := q1461
  refine rg 3 0 <| mv0 rfl rfl <| bn0 rfl rfl rfl run_add <| as0 rfl rfl <| .fin <| ng (sg 4 [3,0,1,2] 1) fun _ _ => ?_
  exact bk j1462 (w64 (x1438 + 1), p1442.2.2.1, v1443) H
 refine WP.block <| WP.seq <| dg Tryz.checked.mixed 7 32 <| lds 0 rfl trivial rfl sg28 rfl rfl <| mv0 rfl rfl <| mv0 rfl rfl <| gr H fun g1445 H => ?_
 have h1446 : x1438.toNat < t1433.length := idx_lt g1445
 refine Dv.ixw rfl trivial rfl (mem_at 1 rfl) rfl Tryz.underlying31 Tryz.underlying9 c9 g1445.1 g1445.2 <| Dv.ldw (j := x1438.toNat) (f := 0) (p := vS (t1433.getD x1438.toNat default)) rfl trivial rfl (mem_at 1 rfl) h1446 Tryz.underlying9 rfl rfl <| el H fun t1447 h1448 H => cx 3 [0,1,2] cal77 (concourseref10_Servers.c h1448) pC fun g1449 _ => ?_
 refine as0 rfl rfl <| .fin <| WP.seq <| rg 1 0 <| as0 rfl rfl <| .fin <| WP.block <| wg (sg 4 [1,0,2,3] 0) fun _ _ => ?_
 refine lp (fun j_ (p1460 : Int × (List ByteArray) × OV) => concourseref10_Peers.l1 k t1447 j_ p1460.1 p1460.2.1) (0, x1439, v1440) H (fun p1460 => [(0, agg (RView.enc a0)), (1, vS a1), (2, eq (.pointer (some ⟨b1432, 0, none⟩))), (4, eq (.slice none 0 0)), (5, eq g1435.1), (6, eq p1460.2.2.1), (7, vI x1438), (8, eq g1449.1), (9, vI p1460.1), (16, vB (decide (x1438 < (t1433.length : Int))))]) (fun p1460 => [blk b1432 28 (RView.enc a0), own strK g1449.1 t1447, own strK g1435.1 t1433, own strK p1460.2.2.1 p1460.2.1] ++ F) ?_
 rintro j_ ⟨x1450, x1451, v1452⟩ H
 rcases j_ with _ | j1459
 ·
  exact (Gets.no H).elim
 replace H : Gets (concourseref10_Peers.l1 k t1447 (j1459 + 1) x1450 x1451) _ := H
 rw [concourseref10_Peers.l1] at H
 refine WP.seq <| WP.seq <| rg 4 0 <| mv0 rfl rfl <| mv0 rfl rfl <| Dv.lenw rfl trivial rfl (mem_at 1 rfl) Tryz.underlying31 <| bn0 rfl rfl rfl run_lt <| .fin <| cd H rfl (fun _ H => ?_) (fun _ H => ?_)
 rotate_left
 ·
  refine WP.exit ?_
  replace H := Gets.out H
  refine ng (sg 4 [0,2,3,1] 0) fun _ _ => ?_
  exact jn ((x1450, decide (x1450 < (t1447.length : Int)), x1451, t1447), v1452, g1449) H
 refine WP.skip <| WP.seq <| WP.block <| rg 7 32 <| mv0 rfl rfl <| mv0 rfl rfl <| mv0 rfl rfl <| gr H fun g1454 H => ?_
 have h1455 : x1450.toNat < t1447.length := idx_lt g1454
 refine Dv.ixw rfl trivial rfl (mem_at 1 rfl) rfl Tryz.underlying31 Tryz.underlying9 c9 g1454.1 g1454.2 <| Dv.ldw (j := x1450.toNat) (f := 0) (p := vS (t1447.getD x1450.toNat default)) rfl trivial rfl (mem_at 1 rfl) h1455 Tryz.underlying9 rfl rfl <| el H fun t1456 h1457 H => cx 4 [3,0,1,2] cal72 (Tr.lend [own strK v1452.1 x1451] (concourseref09_Put.c h1457) (.cons (lt_own (mem_at 0 rfl)) (.cons lt_id .nil)) (fun _ => flat_eq) (fun _ => (flatAs_cons (flatA_own flatK_str) flatAs_nil))) nofun fun g1458 _ => ?_
 refine as0 rfl rfl <| .fin <| rg 3 0 <| mv0 rfl rfl <| bn0 rfl rfl rfl run_add <| as0 rfl rfl <| .fin <| ng (sg 5 [0,2,3,4,1] 1) fun _ _ => ?_
 exact bk j1459 (w64 (x1450 + 1), t1456, g1458) H
theorem slices_DeleteFunc_string_xo.c {k : Nat} {a0 : List ByteArray} {a1 : (ByteArray → Option Bool)} {X1_ : As} {p0_ : OV} {r : (List ByteArray)} (h : slices_DeleteFunc_string_xo.f k a0 a1 = some r) : Tr Tryz.prog 78 [eq p0_.1, fx_string_bool X1_ a1] [own strK p0_.1 a0, X1_] (γ := OV) (fun _ => True) (fun g => eq g.1) (fun g => [X1_, own strK g.1 r]) := by
 unfold slices_DeleteFunc_string_xo.f at h
 refine Tr.body Tryz.func78 (c := _) rfl Tryz.ntmps78 (Nat.le_of_ble_eq_true rfl) fun R0 F => ?_
 replace h := Gets.of h
 have H := h
 clear h
 refine WP.seq <| rg 1 0 <| as0 rfl rfl <| .fin <| WP.seq <| rg 4 0 <| mv0 rfl rfl <| mv0 rfl rfl <| el H fun t1465 h1466 H => cll 2 [0,1] cal96 (slices_IndexFunc_string_xw.c h1466 (p0_ := p0_) (X1_ := X1_)) ?_
 refine as0 rfl rfl <| .fin <| WP.seq <| WP.seq <| rg 2 0 <| mv0 rfl rfl <| bn0 rfl rfl rfl run_eq <| .fin <| cd H rfl (fun _ H => ?_) (fun _ H => ?_)
 ·
  refine WP.seq <| rg 2 0 <| mv0 rfl rfl <| as0 rfl rfl <| .fin ?_
  obtain rfl := Gets.out H
  exact rt i2 rfl p0_ 2 [1,0] 0 (.cons (res_tmp rfl) .nil)
 refine WP.skip <| WP.seqn H id (fun p1468 : Int × Int × Bool × (List ByteArray) => [(0, eq p0_.1), (1, fx_string_bool X1_ a1), (4, eq (.slice none 0 0)), (5, vI p1468.1), (6, vI p1468.2.1), (12, vB (t1465 == (-1))), (19, vB p1468.2.2.1)]) (fun p1468 : Int × Int × Bool × (List ByteArray) => [own strK p0_.1 p1468.2.2.2, X1_] ++ F) (fun p1468 H => ?_) (fun H => ?_)
 ·
  refine WP.seq <| rg 4 8 <| mv0 rfl rfl <| mv0 rfl rfl <| gr H fun g1469 H => vg (st_own_form 0 rfl (List.length_pos_iff.1 (Nat.lt_of_le_of_lt (Nat.zero_le _) g1469.2))) fun g1470 h1471 => ?_
  refine Dv.slkm (o' := g1470.2.1 + p1468.1.toNat * strK.sz) (m' := p1468.2.2.2.length - p1468.1.toNat) (c' := g1470.2.2 - p1468.1.toNat) rfl trivial ((show opv _ _ = some (eq p0_.1) from rfl).trans (congrArg (fun z => some (eq z)) h1471.1)) Tryz.underlying31 Tryz.underlying9 c9 (bdE_some rfl g1469.1) bdE_none (Nat.le_of_lt g1469.2) h1471.2 (.inl (Nat.lt_of_lt_of_le g1469.2 h1471.2)) rfl rfl rfl <| Dv.clrw (jj := 0) (⟨#[]⟩ : ByteArray) rfl trivial rfl Tryz.underlying31 z9 rfl rfl (fun u hu => by simp [Value.cells] at hu; subst hu; rfl) h1471.1 rfl g1469.2 rfl nofun <| .fin <| WP.seq <| rg 4 4 <| mv0 rfl rfl <| mv0 rfl rfl <| gr H fun g1472 H => Dv.slo (jj := 0) rfl trivial rfl rfl Tryz.underlying31 Tryz.underlying9 c9 bdE_none (bdE_some rfl g1472.1) (.inl rfl) g1472.2.1 g1472.2.2 nofun (fun v1473 => ?_)
  refine as0 rfl rfl <| .fin ?_
  obtain rfl := Gets.out H
  exact rt i2 rfl v1473 2 [1,0] 0 (.cons (res_tmp rfl) .nil)
 refine WP.seq <| rg 3 0 <| mv0 rfl rfl <| bn0 rfl rfl rfl run_add <| as0 rfl rfl <| .fin <| WP.block <| wg (sg 2 [0,1] 0) fun _ _ => ?_
 refine lp (fun j_ (p1486 : Int × Int × (List ByteArray)) => slices_DeleteFunc_string_xo.l0 k a1 j_ p1486.1 p1486.2.1 p1486.2.2) (t1465, w64 (t1465 + 1), a0) H (fun p1486 => [(0, eq p0_.1), (1, fx_string_bool X1_ a1), (4, eq (.slice none 0 0)), (5, vI p1486.1), (6, vI p1486.2.1), (12, vB (t1465 == (-1)))]) (fun p1486 => [own strK p0_.1 p1486.2.2, X1_] ++ F) ?_
 rintro j_ ⟨x1474, x1475, x1476⟩ H
 rcases j_ with _ | j1485
 ·
  exact (Gets.no H).elim
 replace H : Gets (slices_DeleteFunc_string_xo.l0 k a1 (j1485 + 1) x1474 x1475 x1476) _ := H
 rw [slices_DeleteFunc_string_xo.l0] at H
 refine WP.seq <| WP.seq <| rg 4 0 <| mv0 rfl rfl <| mv0 rfl rfl <| Dv.lenw rfl trivial rfl (mem_at 0 rfl) Tryz.underlying31 <| bn0 rfl rfl rfl run_lt <| .fin <| cd H rfl (fun _ H => ?_) (fun _ H => ?_)
 rotate_left
 ·
  refine WP.exit ?_
  replace H := Gets.out H
  exact jn (x1474, x1475, decide (x1475 < (x1476.length : Int)), x1476) H
 refine WP.skip <| WP.seq <| WP.block <| WP.seq <| rg 5 0 <| mv0 rfl rfl <| mv0 rfl rfl <| gr H fun g1478 H => ?_
 have h1479 : x1475.toNat < x1476.length := idx_lt g1478
 refine Dv.ixw rfl trivial rfl (mem_at 0 rfl) rfl Tryz.underlying31 Tryz.underlying9 c9 g1478.1 g1478.2 <| Dv.ldw (j := x1475.toNat) (f := 0) (p := vS (x1476.getD x1475.toNat default)) rfl trivial rfl (mem_at 0 rfl) h1479 Tryz.underlying9 rfl rfl <| as0 rfl rfl <| .fin <| WP.seq <| rg 4 0 <| mv0 rfl rfl <| mv0 rfl rfl <| el H fun t1480 h1481 H => Dv.callfx (ret := vB t1480) (X := X1_) (F := [own strK p0_.1 x1476] ++ F) rfl trivial rfl rfl ⟨_, _, h1481, rfl, rfl⟩ (perm_to (L := [own strK p0_.1 x1476, X1_]) (F := F) [1, 0] rfl rfl rfl) <| un0 rfl rfl (run_not _) <| .fin <| cd H rfl (fun _ H => ?_) (fun _ H => ?_)
 rotate_left
 ·
  exact WP.skip <| rg 3 0 <| mv0 rfl rfl <| bn0 rfl rfl rfl run_add <| as0 rfl rfl <| .fin <| bk j1485 (x1474, w64 (x1475 + 1), x1476) H
 refine WP.seq <| rg 5 16 <| mv0 rfl rfl <| mv0 rfl rfl <| mv0 rfl rfl <| gr H fun g1483 H => ?_
 have h1484 : x1474.toNat < x1476.length := idx_lt g1483
 exact Dv.ixw rfl trivial rfl (mem_at 0 rfl) rfl Tryz.underlying31 Tryz.underlying9 c9 g1483.1 g1483.2 <| Dv.stw (j := x1474.toNat) (f := 0) (jj := 0) (x1476.getD x1475.toNat default) rfl trivial rfl rfl (cells_one (one_eq rfl)) Tryz.underlying9 c9 rfl rfl h1484 (Nat.le_of_ble_eq_true rfl) rfl nofun <| .fin <| rg 3 0 <| mv0 rfl rfl <| bn0 rfl rfl rfl run_add <| as0 rfl rfl <| .fin <| rg 3 0 <| mv0 rfl rfl <| bn0 rfl rfl rfl run_add <| as0 rfl rfl <| .fin <| bk j1485 (w64 (x1474 + 1), w64 (x1475 + 1), x1476.set x1474.toNat (x1476.getD x1475.toNat default)) H
theorem view_View_RoomsOf_1.c {k : Nat} {a0 : ByteArray} {cb0_ cd0_ : Nat} {cq0_ cv0_0 : OV} {ch0_ : cq0_.1 = .pointer (some ⟨cd0_, 0, none⟩)} {c0 : VView} {c1 : ByteArray} {r : Bool} (h : view_View_RoomsOf_1.f k a0 c0 c1 = some r) : Tr Tryz.prog 79 [vS a0, eq (.pointer (some ⟨cb0_, 0, none⟩)), rp [vS c1]] [blk cb0_ 25 [eq cq0_.1], blk cd0_ 80 [eq cv0_0.1], mpo Value.string DDag.O cv0_0.1 c0.fdags] (γ := Unit) (fun _ => True) (fun g => vB r) (fun g => [blk cb0_ 25 [eq cq0_.1], blk cd0_ 80 [eq cv0_0.1], mpo Value.string DDag.O cv0_0.1 c0.fdags]) := by
 unfold view_View_RoomsOf_1.f at h
 refine Tr.body Tryz.func79 (c := _) rfl Tryz.ntmps79 (Nat.le_of_ble_eq_true rfl) fun R0 F => ?_
 replace h := Gets.of h
 have H := h
 clear h
 refine WP.seq <| rg 1 0 <| as0 rfl rfl <| .fin <| WP.seq <| rg 6 0 <| ld 0 rfl trivial rfl sc25 rfl rfl <| mv0 rfl rfl <| ldR rfl trivial rfl sc9 rfl <| el H fun t1487 h1488 H => cll 3 [1,2,0] cal35 (Tr.weak (view_View_Joined.c h1488 (b0_ := cd0_) (v0_0 := cv0_0)) (.cons (wk_ptr ch0_) (.cons wk_id (.cons wk_id .nil)))) ?_
 refine un0 rfl rfl (run_not _) <| as0 rfl rfl <| .fin ?_
 obtain rfl := Gets.out H
 exact rt i2 rfl () 3 [0,1,2] 0 (.cons (res_tmp rfl) .nil)
theorem view_View_RoomsOf.c {k : Nat} {a0 : VView} {a1 : ByteArray} {p0_ : OV} {r : (List ByteArray)} (h : view_View_RoomsOf.f k a0 a1 = some r) : Tr Tryz.prog 42 [eq p0_.1, vS a1] [VView.O p0_ a0] (γ := OV) (fun _ => True) (fun g => eq g.1) (fun g => [VView.O p0_ a0, own strK g.1 r]) := by
 unfold view_View_RoomsOf.f at h
 refine Tr.body Tryz.func42 (c := _) rfl Tryz.ntmps42 (Nat.le_of_ble_eq_true rfl) fun R0 F => ?_
 replace h := Gets.of h
 have H := h
 clear h
 refine WP.seq <| rg 3 3 <| Dv.box rfl trivial rfl (cells_one one_ov) nofun fun b1489 => Dv.box rfl trivial rfl cE nofun fun b1490 => as0 rfl rfl <| .fin <| WP.seq <| rg 5 10 <| ld 1 rfl trivial rfl sc25 rfl rfl <| vg (VView.opn 2 rfl) fun g1491 h1492 => ?_
 refine el H fun t1493 h1494 H => cx 4 [0,1,2,3] cal20 (Tr.weak (view_View_Rooms.c h1494 (b0_ := g1491.1) (v0_0 := g1491.2)) (.cons (wk_ptr h1492) .nil)) nofun fun g1495 _ => ?_
 refine Dv.gh (gh_frzb (E' := [(0, eq p0_.1), (1, vS a1), (2, eq (.pointer (some ⟨b1489, 0, none⟩))), (3, rp [vS a1]), (4, eq (.slice none 0 0)), (6, eq g1495.1)]) (l' := [blk g1491.1 80 [eq g1491.2.1], mpo Value.string DDag.O g1491.2.1 a0.fdags, own strK g1495.1 t1493, blk b1489 25 [eq p0_.1]] ++ F) 3 rfl (cve_cons rfl cv_id (cve_cons rfl cv_id (cve_cons rfl cv_id (cve_cons rfl cv_eq (cve_cons rfl cv_id (cve_cons rfl cv_id cve_nil)))))) (all2_app (.cons cva_id (.cons cva_id (.cons cva_id (.cons cva_id .nil)))) fun _ => cva_id)) (fun _ _ => ?_)
 refine Dv.mkx (Q := fqQ_string_bool (fun a0_ => view_View_RoomsOf_1.f k a0_ a0 a1)) (L := [blk b1489 25 [eq p0_.1], blk g1491.1 80 [eq g1491.2.1], mpo Value.string DDag.O g1491.2.1 a0.fdags]) cal79 (by rintro _ _ ⟨a0_, r_, h_, rfl, rfl⟩; exact view_View_RoomsOf_1.c h_ (cb0_ := b1489) (cq0_ := p0_) (cd0_ := g1491.1) (ch0_ := h1492) (cv0_0 := g1491.2)) rfl trivial rfl rfl <| el H fun t1496 h1497 H => cx 4 [2,3,0,1] cal78 (Tr.unpko (A := [own strK g1495.1 t1493]) (L := [blk b1489 25 [eq p0_.1], blk g1491.1 80 [eq g1491.2.1], mpo Value.string DDag.O g1491.2.1 a0.fdags]) (B := fun g1498 : OV => [own strK g1498.1 t1496]) (slices_DeleteFunc_string_xo.c h1497 (p0_ := g1495) (X1_ := (pk [blk b1489 25 [eq p0_.1], blk g1491.1 80 [eq g1491.2.1], mpo Value.string DDag.O g1491.2.1 a0.fdags])))) nofun fun g1498 _ => ?_
 refine as0 rfl rfl <| .fin <| wg (VView.shut (p := p0_) (m := a0) (g1491.1, g1491.2) h1492 (pm 4 [1,2,0,3])) fun _ _ => ?_
 obtain rfl := Gets.out H
 exact rt i2 rfl g1498 3 [1,0,2] 1 (.cons (res_tmp rfl) .nil)
theorem view_View_Peers.c {k : Nat} {a0 : VView} {a1 : ByteArray} {p0_ : OV} {r : (List ByteArray)} (h : view_View_Peers.f k a0 a1 = some r) : Tr Tryz.prog 44 [eq p0_.1, vS a1] [VView.O p0_ a0] (γ := OV) (fun _ => True) (fun g => eq g.1) (fun g => [VView.O p0_ a0, own strK g.1 r]) := by
 unfold view_View_Peers.f at h
 refine Tr.body Tryz.func44 (c := _) rfl Tryz.ntmps44 (Nat.le_of_ble_eq_true rfl) fun R0 F => ?_
 replace h := Gets.of h
 have H := h
 clear h
 refine WP.seq <| rg 1 0 <| as0 rfl rfl <| .fin <| WP.seq <| rg 1 0 <| as0 rfl rfl <| .fin <| WP.seqn H (fun q1525 : (Int × Int × Bool × (List ByteArray) × (List ByteArray)) × OV × OV => q1525.1) (fun q1525 : (Int × Int × Bool × (List ByteArray) × (List ByteArray)) × OV × OV => [(0, eq p0_.1), (1, vS a1), (4, eq (.slice none 0 0)), (5, eq q1525.2.1.1), (10, eq q1525.2.2.1), (11, vI q1525.1.1), (12, vI q1525.1.2.1), (13, vB q1525.1.2.2.1)]) (fun q1525 : (Int × Int × Bool × (List ByteArray) × (List ByteArray)) × OV × OV => [VView.O p0_ a0, own strK q1525.2.1.1 q1525.1.2.2.2.1, own strK q1525.2.2.1 q1525.1.2.2.2.2] ++ F) (fun q1525 H => ?_) (fun H => ?_)
 ·
  obtain ⟨p1499, v1500, v1501⟩ := q1525
  refine WP.seq <| rg 2 2 <| mv0 rfl rfl <| el H fun t1502 h1503 H => cx 3 [1,0,2] cal59 (slices_Sort_string.c h1503 (p0_ := v1500)) nofun fun _ _ => ?_
  refine .fin <| WP.seq <| rg 3 2 <| mv0 rfl rfl <| el H fun t1504 h1505 H => cx 3 [0,1,2] cal80 (slices_Compact_string.c h1505 (p0_ := v1500)) nofun fun g1506 _ => ?_
  refine as0 rfl rfl <| .fin ?_
  obtain rfl := Gets.out H
  exact rt i2 rfl g1506 3 [2,1,0] 1 (.cons (res_tmp rfl) .nil)
 refine WP.seq <| rg 5 4 <| mv0 rfl rfl <| mv0 rfl rfl <| el H fun t1507 h1508 H => cx 1 [0] cal42 (view_View_RoomsOf.c h1508 (p0_ := p0_)) nofun fun g1509 _ => ?_
 refine Dv.lenw rfl trivial rfl (mem_at 1 rfl) Tryz.underlying31 <| mv0 rfl rfl <| .fin <| WP.block <| wg (st_nil strK none) fun _ _ => ?_
 refine wg (sg 3 [1,2,0] 0) fun _ _ => ?_
 refine lp (fun j_ (p1524 : Int × (List ByteArray) × OV) => view_View_Peers.l0 k a0 t1507 j_ p1524.1 p1524.2.1) (0, ([] : List ByteArray), nilV) H (fun p1524 => [(0, eq p0_.1), (1, vS a1), (4, eq (.slice none 0 0)), (5, eq p1524.2.2.1), (10, eq g1509.1), (11, vI (t1507.length : Int)), (12, vI p1524.1)]) (fun p1524 => [VView.O p0_ a0, own strK g1509.1 t1507, own strK p1524.2.2.1 p1524.2.1] ++ F) ?_
 rintro j_ ⟨x1510, x1511, v1512⟩ H
 rcases j_ with _ | j1523
 ·
  exact (Gets.no H).elim
 replace H : Gets (view_View_Peers.l0 k a0 t1507 (j1523 + 1) x1510 x1511) _ := H
 rw [view_View_Peers.l0] at H
 refine WP.seq <| rg 1 0 <| bn0 rfl rfl rfl run_lt <| .fin <| WP.seq <| cd H rfl (fun _ H => ?_) (fun _ H => ?_)
 rotate_left
 ·
  refine WP.exit ?_
  replace H := Gets.out H
  refine ng (sg 3 [0,2,1] 0) fun _ _ => ?_
  exact jn (((t1507.length : Int), x1510, decide (x1510 < (t1507.length : Int)), x1511, t1507), v1512, g1509) H
 refine WP.skip <| WP.seq <| WP.block <| WP.seq <| rg 3 0 <| gr H fun g1514 H => ?_
 have h1515 : x1510.toNat < t1507.length := idx_lt g1514
 refine Dv.ixw rfl trivial rfl (mem_at 1 rfl) rfl Tryz.underlying31 Tryz.underlying9 c9 g1514.1 g1514.2 <| Dv.ldw (j := x1510.toNat) (f := 0) (p := vS (t1507.getD x1510.toNat default)) rfl trivial rfl (mem_at 1 rfl) h1515 Tryz.underlying9 rfl rfl <| as0 rfl rfl <| .fin <| rg 6 24 <| mv0 rfl rfl <| mv0 rfl rfl <| mv0 rfl rfl <| vg (VView.opn 0 rfl) fun g1516 h1517 => ?_
 refine el H fun t1518 h1519 H => cx 4 [0,1,2,3] cal33 (Tr.weak (view_View_Servers.c h1519 (b0_ := g1516.1) (v0_0 := g1516.2)) (.cons (wk_ptr h1517) (.cons wk_id .nil))) nofun fun g1520 _ => ?_
 refine gr H fun g1521 H => ap strK 4 t1518 (src_own (mem_at 2 rfl)) Tryz.underlying31 (.inr ⟨_, Tryz.underlying31⟩) inf9 g1521 nofun fun v1522 => ?_
 refine as0 rfl rfl <| .fin <| rg 2 0 <| bn0 rfl rfl rfl run_add <| mv0 rfl rfl <| .fin <| ng (VView.shut (p := p0_) (m := a0) (g1516.1, g1516.2) h1517 (pm 5 [0,1,2,3,4])) fun _ _ => ?_
 refine ng (sg 4 [1,0,2,3] 1) fun _ _ => ?_
 exact bk j1523 (w64 (x1510 + 1), x1511 ++ t1518, v1522) H
theorem view_View_Friends_1.c {k : Nat} {a0 : ByteArray} {cb0_ cd0_ : Nat} {cq0_ cv0_0 : OV} {ch0_ : cq0_.1 = .pointer (some ⟨cd0_, 0, none⟩)} {c0 : VView} {c1 : ByteArray} {r : Bool} (h : view_View_Friends_1.f k a0 c0 c1 = some r) : Tr Tryz.prog 81 [vS a0, eq (.pointer (some ⟨cb0_, 0, none⟩)), rp [vS c1]] [blk cb0_ 25 [eq cq0_.1], blk cd0_ 80 [eq cv0_0.1], mpo Value.string DDag.O cv0_0.1 c0.fdags] (γ := Unit) (fun _ => True) (fun g => vB r) (fun g => [blk cb0_ 25 [eq cq0_.1], blk cd0_ 80 [eq cv0_0.1], mpo Value.string DDag.O cv0_0.1 c0.fdags]) := by
 unfold view_View_Friends_1.f at h
 refine Tr.body Tryz.func81 (c := _) rfl Tryz.ntmps81 (Nat.le_of_ble_eq_true rfl) fun R0 F => ?_
 replace h := Gets.of h
 have H := h
 clear h
 refine WP.seq <| rg 1 0 <| as0 rfl rfl <| .fin <| WP.seq <| rg 5 0 <| ld 0 rfl trivial rfl sc25 rfl rfl <| mv0 rfl rfl <| ldR rfl trivial rfl sc9 rfl <| el H fun t1526 h1527 H => cll 3 [1,2,0] cal35 (Tr.weak (view_View_Joined.c h1527 (b0_ := cd0_) (v0_0 := cv0_0)) (.cons (wk_ptr ch0_) (.cons wk_id (.cons wk_id .nil)))) ?_
 refine as0 rfl rfl <| .fin ?_
 obtain rfl := Gets.out H
 exact rt i2 rfl () 3 [0,1,2] 0 (.cons (res_tmp rfl) .nil)
theorem view_View_Friends.c {k : Nat} {a0 : VView} {a1 : ByteArray} {a2 : ByteArray} {p0_ : OV} {r : Bool} (h : view_View_Friends.f k a0 a1 a2 = some r) : Tr Tryz.prog 45 [eq p0_.1, vS a1, vS a2] [VView.O p0_ a0] (γ := Unit) (fun _ => True) (fun g => vB r) (fun g => [VView.O p0_ a0]) := by
 unfold view_View_Friends.f at h
 refine Tr.body Tryz.func45 (c := _) rfl Tryz.ntmps45 (Nat.le_of_ble_eq_true rfl) fun R0 F => ?_
 replace h := Gets.of h
 have H := h
 clear h
 refine WP.seq <| rg 3 3 <| Dv.box rfl trivial rfl (cells_one one_ov) nofun fun b1528 => Dv.box rfl trivial rfl cE nofun fun b1529 => as0 rfl rfl <| .fin <| WP.seq <| rg 6 4 <| ld 1 rfl trivial rfl sc25 rfl rfl <| mv0 rfl rfl <| el H fun t1530 h1531 H => cx 3 [2,0,1] cal42 (view_View_RoomsOf.c h1531 (p0_ := p0_)) nofun fun g1532 _ => ?_
 refine vg (VView.opn 0 rfl) fun g1533 h1534 => ?_
 refine Dv.gh (gh_frzb (E' := [(0, eq p0_.1), (1, vS a1), (2, vS a2), (3, eq (.pointer (some ⟨b1528, 0, none⟩))), (5, rp [vS a2]), (6, vB false), (9, eq g1532.1)]) (l' := [blk g1533.1 80 [eq g1533.2.1], mpo Value.string DDag.O g1533.2.1 a0.fdags, own strK g1532.1 t1530, blk b1528 25 [eq p0_.1]] ++ F) 3 rfl (cve_cons rfl cv_id (cve_cons rfl cv_id (cve_cons rfl cv_id (cve_cons rfl cv_id (cve_cons rfl cv_eq (cve_cons rfl cv_id (cve_cons rfl cv_id cve_nil))))))) (all2_app (.cons cva_id (.cons cva_id (.cons cva_id (.cons cva_id .nil)))) fun _ => cva_id)) (fun _ _ => ?_)
 refine Dv.mkx (Q := fqQ_string_bool (fun a0_ => view_View_Friends_1.f k a0_ a0 a2)) (L := [blk b1528 25 [eq p0_.1], blk g1533.1 80 [eq g1533.2.1], mpo Value.string DDag.O g1533.2.1 a0.fdags]) cal81 (by rintro _ _ ⟨a0_, r_, h_, rfl, rfl⟩; exact view_View_Friends_1.c h_ (cb0_ := b1528) (cq0_ := p0_) (cd0_ := g1533.1) (ch0_ := h1534) (cv0_0 := g1533.2)) rfl trivial rfl rfl <| el H fun t1535 h1536 H => cll 4 [2,3,0,1] cal62 (Tr.unpkr (A := [own strK g1532.1 t1530]) (L := [blk b1528 25 [eq p0_.1], blk g1533.1 80 [eq g1533.2.1], mpo Value.string DDag.O g1533.2.1 a0.fdags]) (slices_ContainsFunc_string_xw.c h1536 (p0_ := g1532) (X1_ := (pk [blk b1528 25 [eq p0_.1], blk g1533.1 80 [eq g1533.2.1], mpo Value.string DDag.O g1533.2.1 a0.fdags])))) ?_
 refine as0 rfl rfl <| .fin <| wg (VView.shut (p := p0_) (m := a0) (g1533.1, g1533.2) h1534 (pm 4 [0,1,2,3])) fun _ _ => ?_
 obtain rfl := Gets.out H
 exact rt i2 rfl () 3 [1,2,0] 2 (.cons (res_tmp rfl) .nil)
theorem concourseref10_Friends.c {k : Nat} {a0 : RView} {a1 : ByteArray} {a2 : ByteArray} {r : Bool} (h : concourseref10_Friends.f k a0 a1 a2 = some r) : Pt Tryz.prog 46 [agg (RView.enc a0), vS a1, vS a2] (vB r) := by
 unfold concourseref10_Friends.f at h
 refine (Tr.body Tryz.func46 (c := _) rfl Tryz.ntmps46 (Nat.le_of_ble_eq_true rfl) fun R0 F => ?_).pt
 replace h := Gets.of h
 have H := h
 clear h
 refine WP.seq <| rg 2 1 <| Dv.box rfl trivial rfl cA nofun fun b1537 => as0 rfl rfl <| .fin <| WP.seq <| rg 4 4 <| lds 0 rfl trivial rfl sg28 rfl rfl <| mv0 rfl rfl <| el H fun t1538 h1539 H => cx 1 [0] cal43 (concourseref10_RoomsOf.c h1539) nofun fun g1540 _ => ?_
 refine as0 rfl rfl <| .fin <| WP.seqr H id (fun p1541 : Int × Bool => [(0, agg (RView.enc a0)), (1, vS a1), (2, vS a2), (3, eq (.pointer (some ⟨b1537, 0, none⟩))), (6, vB false), (7, eq g1540.1), (8, vI p1541.1), (16, vB p1541.2)]) (fun p1541 : Int × Bool => [blk b1537 28 (RView.enc a0), own strK g1540.1 t1538] ++ F) (fun p1541 H => ?_) (fun H => ?_)
 ·
  refine WP.seq <| rg 1 0 <| as0 rfl rfl <| .fin ?_
  obtain rfl := Gets.out H
  exact rt i2 rfl () 2 [0,1] 2 (.cons (res_tmp rfl) .nil)
 refine WP.seq <| rg 1 0 <| as0 rfl rfl <| .fin <| WP.block <| wg (sg 2 [1,0] 0) fun _ _ => ?_
 refine lp (fun j_ (p1550 : Int) => concourseref10_Friends.l0 k a0 a2 t1538 j_ p1550) 0 H (fun p1550 => [(0, agg (RView.enc a0)), (1, vS a1), (2, vS a2), (3, eq (.pointer (some ⟨b1537, 0, none⟩))), (6, vB false), (7, eq g1540.1), (8, vI p1550)]) (fun p1550 => [blk b1537 28 (RView.enc a0), own strK g1540.1 t1538] ++ F) ?_
 rintro j_ x1542 H
 rcases j_ with _ | j1549
 ·
  exact (Gets.no H).elim
 replace H : Gets (concourseref10_Friends.l0 k a0 a2 t1538 (j1549 + 1) x1542) _ := H
 rw [concourseref10_Friends.l0] at H
 refine WP.seq <| WP.seq <| rg 4 0 <| mv0 rfl rfl <| mv0 rfl rfl <| Dv.lenw rfl trivial rfl (mem_at 1 rfl) Tryz.underlying31 <| bn0 rfl rfl rfl run_lt <| .fin <| cd H rfl (fun _ H => ?_) (fun _ H => ?_)
 rotate_left
 ·
  refine WP.exit ?_
  replace H := Gets.out H
  exact jn (x1542, decide (x1542 < (t1538.length : Int))) H
 refine WP.skip <| WP.seq <| WP.block <| WP.seq <| dg Tryz.checked.mixed 8 0 <| lds 0 rfl trivial rfl sg28 rfl rfl <| mv0 rfl rfl <| mv0 rfl rfl <| gr H fun g1544 H => ?_
 have h1545 : x1542.toNat < t1538.length := idx_lt g1544
 refine Dv.ixw rfl trivial rfl (mem_at 1 rfl) rfl Tryz.underlying31 Tryz.underlying9 c9 g1544.1 g1544.2 <| Dv.ldw (j := x1542.toNat) (f := 0) (p := vS (t1538.getD x1542.toNat default)) rfl trivial rfl (mem_at 1 rfl) h1545 Tryz.underlying9 rfl rfl <| mv0 rfl rfl <| el H fun t1546 h1547 H => cl rfl cal37 rfl (concourseref10_Joined.c h1547) <| as0 rfl rfl <| .fin <| WP.seq <| rg 1 0 <| mv0 rfl rfl <| .fin <| cd H rfl (fun _ H => ?_) (fun _ H => ?_)
 rotate_left
 ·
  exact WP.skip <| rg 3 0 <| mv0 rfl rfl <| bn0 rfl rfl rfl run_add <| as0 rfl rfl <| .fin <| bk j1549 (w64 (x1542 + 1)) H
 refine WP.seq <| rg 1 0 <| as0 rfl rfl <| .fin ?_
 replace H := Gets.outr H
 obtain rfl := Gets.out H
 exact rt i2 rfl () 2 [0,1] 2 (.cons (res_tmp rfl) .nil)
theorem view_View_Shares.c {k : Nat} {a0 : VView} {a1 : ByteArray} {a2 : ByteArray} {p0_ : OV} {r : Bool} (h : view_View_Shares.f k a0 a1 a2 = some r) : Tr Tryz.prog 47 [eq p0_.1, vS a1, vS a2] [VView.O p0_ a0] (γ := Unit) (fun _ => True) (fun g => vB r) (fun g => [VView.O p0_ a0]) := by
 unfold view_View_Shares.f at h
 refine Tr.body Tryz.func47 (c := _) rfl Tryz.ntmps47 (Nat.le_of_ble_eq_true rfl) fun R0 F => ?_
 replace h := Gets.of h
 have H := h
 clear h
 refine WP.seq <| rg 1 0 <| as0 rfl rfl <| .fin <| WP.seq <| rg 6 4 <| mv0 rfl rfl <| mv0 rfl rfl <| el H fun t1551 h1552 H => cx 1 [0] cal44 (view_View_Peers.c h1552 (p0_ := p0_)) nofun fun g1553 _ => ?_
 refine mv0 rfl rfl <| el H fun t1554 h1555 H => cll (B := [own strK g1553.1 t1551]) 2 [1,0] cal82 (Pt.lend _ (slices_Contains_string.c h1555) (.cons (lt_own (mem_at 0 rfl)) (.cons lt_id .nil)) flat_eq) ?_
 refine as0 rfl rfl <| .fin ?_
 obtain rfl := Gets.out H
 exact rt i2 rfl () 2 [1,0] 1 (.cons (res_tmp rfl) .nil)
end Go.Proofs.YtigmkniiojpdiaaGreat
