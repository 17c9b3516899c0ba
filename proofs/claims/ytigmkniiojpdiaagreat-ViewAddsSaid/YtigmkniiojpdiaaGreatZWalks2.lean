/- The walks. -/
import Derived.Test.YtigmkniiojpdiaaGreatZWalks1
import Derived.Test.YtigmkniiojpdiaaGreatConQ
import Derived.Test.YtigmkniiojpdiaaGreatConA3
import Derived.Eval
set_option linter.all false
set_option maxRecDepth 10000
set_option maxHeartbeats 20000000
namespace Go.Proofs.YtigmkniiojpdiaaGreat
open Go Go.Sp
theorem concourseref07_All.c {k : Nat} {a0 : RDag} {r : (List Event)} (h : concourseref07_All.f k a0 = some r) : Pt Tryz.prog 16 [agg (RDag.enc a0)] (sl Event.K r) := by
 unfold concourseref07_All.f at h
 refine (Tr.body Tryz.func16 (c := _) rfl Tryz.ntmps16 (Nat.le_of_ble_eq_true rfl) fun R0 F => ?_).pt
 replace h := Gets.of h
 have H := h
 clear h
 refine WP.seq <| rg 2 1 <| Dv.box rfl trivial rfl cA nofun fun b820 => as0 rfl rfl <| .fin <| WP.seq <| rg 1 0 <| Dv.asgn Event.K rfl trivial rfl <| .fin <| WP.seqn H id (fun p821 : (List Event) × Int × Bool => [(0, agg (RDag.enc a0)), (1, eq (.pointer (some ⟨b820, 0, none⟩))), (2, eq (.slice none 0 0)), (3, sl Event.K p821.1), (4, vI p821.2.1), (11, vB p821.2.2)]) (fun p821 : (List Event) × Int × Bool => [blk b820 36 (RDag.enc a0)] ++ F) (fun p821 H => ?_) (fun H => ?_)
 ·
  refine WP.seq <| rg 2 0 <| mv0 rfl rfl <| as0 rfl rfl <| .fin ?_
  obtain rfl := Gets.out H
  exact rt i2 rfl () 1 [0] 1 (.cons (res_tmp rfl) .nil)
 refine WP.seq <| rg 1 0 <| as0 rfl rfl <| .fin <| WP.block <| wg (sg 1 [0] 0) fun _ _ => ?_
 refine lp (fun j_ (p851 : (List Event) × Int) => concourseref07_All.l0 k a0 j_ p851.1 p851.2) (([] : List Event), 0) H (fun p851 => [(0, agg (RDag.enc a0)), (1, eq (.pointer (some ⟨b820, 0, none⟩))), (2, eq (.slice none 0 0)), (3, sl Event.K p851.1), (4, vI p851.2)]) (fun p851 => [blk b820 36 (RDag.enc a0)] ++ F) ?_
 rintro j_ ⟨x822, x823⟩ H
 rcases j_ with _ | j850
 ·
  exact (Gets.no H).elim
 replace H : Gets (concourseref07_All.l0 k a0 (j850 + 1) x822 x823) _ := H
 rw [concourseref07_All.l0] at H
 refine WP.seq <| WP.seq <| rg 5 0 <| mv0 rfl rfl <| fb rfl trivial rfl fa36_1 <| ld 0 rfl trivial rfl sc23 rfl rfl <| Dv.lenl rfl trivial rfl Tryz.underlying23 <| bn0 rfl rfl rfl run_lt <| .fin <| cd H rfl (fun _ H => ?_) (fun _ H => ?_)
 rotate_left
 ·
  refine WP.exit ?_
  replace H := Gets.out H
  exact jn (x822, x823, decide (x823 < (a0.fL.length : Int))) H
 refine WP.skip <| WP.seqn H id (fun p825 : (List Event) × Int × Bool => [(0, agg (RDag.enc a0)), (1, eq (.pointer (some ⟨b820, 0, none⟩))), (2, eq (.slice none 0 0)), (3, sl Event.K p825.1), (4, vI x823), (5, vI p825.2.1), (11, vB (decide (x823 < (a0.fL.length : Int)))), (35, vB p825.2.2)]) (fun p825 : (List Event) × Int × Bool => [blk b820 36 (RDag.enc a0)] ++ F) (fun p825 H => ?_) (fun H => ?_)
 ·
  exact rg 3 0 <| mv0 rfl rfl <| bn0 rfl rfl rfl run_add <| as0 rfl rfl <| .fin <| bk j850 (p825.1, w64 (x823 + 1)) H
 refine WP.block <| WP.seq <| rg 1 0 <| as0 rfl rfl <| .fin <| WP.seqn H id (fun p826 : Int × Bool => [(0, agg (RDag.enc a0)), (1, eq (.pointer (some ⟨b820, 0, none⟩))), (2, eq (.slice none 0 0)), (3, sl Event.K x822), (4, vI x823), (5, vI p826.1), (11, vB (decide (x823 < (a0.fL.length : Int)))), (35, vB p826.2)]) (fun p826 : Int × Bool => [blk b820 36 (RDag.enc a0)] ++ F) (fun p826 H => ?_) (fun H => ?_)
 rotate_left
 ·
  refine WP.block <| wg (sg 1 [0] 0) fun _ _ => ?_
  refine lp (fun j_ (p849 : Int) => concourseref07_All.l1 k a0 x822 x823 j_ p849) 0 H (fun p849 => [(0, agg (RDag.enc a0)), (1, eq (.pointer (some ⟨b820, 0, none⟩))), (2, eq (.slice none 0 0)), (3, sl Event.K x822), (4, vI x823), (5, vI p849), (11, vB (decide (x823 < (a0.fL.length : Int))))]) (fun p849 => [blk b820 36 (RDag.enc a0)] ++ F) ?_
  rintro j_ x836 H
  rcases j_ with _ | j848
  ·
   exact (Gets.no H).elim
  replace H : Gets (concourseref07_All.l1 k a0 x822 x823 (j848 + 1) x836) _ := H
  rw [concourseref07_All.l1] at H
  refine WP.seq <| WP.seq <| dg Tryz.checked.mixed 22 0 <| mv0 rfl rfl <| mv0 rfl rfl <| Dv.lenl rfl trivial rfl Tryz.underlying23 <| bn0 rfl rfl rfl run_lt <| mv0 rfl rfl ?_
  cases c837 : decide (x836 < (x822.length : Int))
  ·
   replace H := Gets.cf H c837
   refine sk rfl rfl <| sk rfl rfl <| sk rfl rfl <| sk rfl rfl <| sk rfl rfl <| sk rfl rfl <| sk rfl rfl <| sk rfl rfl <| sk rfl rfl <| sk rfl rfl <| sk rfl rfl <| sk rfl rfl <| sk rfl rfl <| sk rfl rfl <| sk rfl rfl <| sk rfl rfl <| pf0 rfl rfl rfl <| .fin <| WP.cond rfl nofun (fun _ => ?_)
   refine WP.exit ?_
   replace H := Gets.out H
   exact jn (x836, false) H
  replace H := Gets.ct H c837
  refine lds 0 rfl (gg rfl) rfl sg36 rfl rfl <| mvg rfl rfl rfl <| mvg rfl rfl rfl <| gr H fun g838 H => Dv.ixr rfl (gg rfl) rfl rfl Tryz.underlying23 Tryz.underlying33 c33 g838.1 g838.2 <| fr rfl (gg rfl) rfl fa33_0 rfl <| ldR rfl (gg rfl) rfl sc9 rfl <| el H fun t839 h840 H => Dv.call rfl (gg rfl) cal57 rfl (concourseref07_Position.c h840) <| lds 0 rfl (gg rfl) rfl sg36 rfl rfl <| fb rfl (gg rfl) rfl fa36_1 <| ld 0 rfl (gg rfl) rfl sc23 rfl rfl <| mvg rfl rfl rfl <| gr H fun g841 H => Dv.ixr rfl (gg rfl) rfl rfl Tryz.underlying23 Tryz.underlying33 c33 g841.1 g841.2 <| fr rfl (gg rfl) rfl fa33_0 rfl <| ldR rfl (gg rfl) rfl sc9 rfl <| el H fun t842 h843 H => Dv.call rfl (gg rfl) cal57 rfl (concourseref07_Position.c h843) <| el H fun t844 h845 H => Dv.call rfl (gg rfl) cal56 rfl (concourseref07_Before.c h845) <| pt0 rfl rfl rfl <| .fin <| cd H rfl (fun _ H => ?_) (fun _ H => ?_)
  rotate_left
  ·
   refine WP.exit ?_
   replace H := Gets.out H
   exact jn (x836, t844) H
  exact WP.skip <| WP.block <| rg 3 0 <| mv0 rfl rfl <| bn0 rfl rfl rfl run_add <| as0 rfl rfl <| .fin <| bk j848 (w64 (x836 + 1)) H
 refine WP.seq <| rg 1 0 <| as0 rfl rfl <| .fin <| WP.seq <| rg 6 16 <| mv0 rfl rfl <| mv0 rfl rfl <| mv0 rfl rfl <| gr H fun g827 H => Dv.sls rfl trivial rfl Tryz.underlying23 Tryz.underlying33 c33 bdE_none (bdE_some rfl g827.1) g827.2.1 g827.2.2 <| vg (st_nil Event.K none) fun _ _ => ?_
 refine gr H fun g828 H => ap Event.K 0 ((x822.take p826.1.toNat).drop 0) src_sl Tryz.underlying23 (.inr ⟨_, Tryz.underlying23⟩) inf33 g828 nofun fun v829 => ?_
 refine as0 rfl rfl <| .fin <| WP.seq <| rg 9 128 <| mv0 rfl rfl <| fb rfl trivial rfl fa36_1 <| ld 1 rfl trivial rfl sc23 rfl rfl <| mv0 rfl rfl <| gr H fun g830 H => Dv.ixr rfl trivial rfl rfl Tryz.underlying23 Tryz.underlying33 c33 g830.1 g830.2 <| ldsR rfl trivial rfl sg33 rfl <| Dv.lit Event.K ([Event.K.at a0.fL x823] : List Event) (css := [Event.enc (Event.K.at a0.fL x823)]) rfl trivial Tryz.underlying23 Tryz.underlying33 c33 z33 rfl (by decide) (by decide) rfl ⟨(cells_agg (Event.K.one _)), trivial⟩ rfl rfl rfl <| gr H fun g831 H => ap Event.K 0 ([Event.K.at a0.fL x823] : List Event) src_sl Tryz.underlying23 (.inr ⟨_, Tryz.underlying23⟩) inf33 g831 nofun fun v832 => ?_
 refine as0 rfl rfl <| .fin <| rg 6 16 <| mv0 rfl rfl <| mv0 rfl rfl <| mv0 rfl rfl <| gr H fun g833 H => Dv.sls rfl trivial rfl Tryz.underlying23 Tryz.underlying33 c33 (bdE_some rfl g833.1) bdE_none g833.2.1 g833.2.2 <| gr H fun g834 H => ap Event.K 0 ((x822.take x822.length).drop p826.1.toNat) src_sl Tryz.underlying23 (.inr ⟨_, Tryz.underlying23⟩) inf33 g834 nofun fun v835 => ?_
 refine Dv.gh (gh_frz (E' := [(0, agg (RDag.enc a0)), (1, eq (.pointer (some ⟨b820, 0, none⟩))), (2, eq (.slice none 0 0)), (3, sl Event.K x822), (4, vI x823), (5, vI p826.1), (11, vB (decide (x823 < (a0.fL.length : Int)))), (35, vB p826.2), (55, sl Event.K (((([] : List Event) ++ ((x822.take p826.1.toNat).drop 0)) ++ ([Event.K.at a0.fL x823] : List Event)) ++ ((x822.take x822.length).drop p826.1.toNat)))]) (l' := [blk b820 36 (RDag.enc a0)] ++ F) 0 rfl (cve_cons rfl cv_id (cve_cons rfl cv_id (cve_cons rfl cv_id (cve_cons rfl cv_id (cve_cons rfl cv_id (cve_cons rfl cv_id (cve_cons rfl cv_id (cve_cons rfl cv_id (cve_cons rfl cv_eq cve_nil))))))))) (all2_app (.cons cva_id .nil) fun _ => cva_id)) (fun _ _ => ?_)
 refine as0 rfl rfl <| .fin ?_
 replace H := Gets.out H
 exact jn (((([] : List Event) ++ ((x822.take p826.1.toNat).drop 0)) ++ ([Event.K.at a0.fL x823] : List Event)) ++ ((x822.take x822.length).drop p826.1.toNat), p826.1, p826.2) H
theorem dag_Dag_Heads.c {a0 : DDag} {v0_0 : OV} {b0_ : Nat} {r : (List ByteArray)} (h : dag_Dag_Heads.f a0 = some r) : Tr Tryz.prog 58 [eq (.pointer (some ⟨b0_, 0, none⟩))] [blk b0_ 102 [vS a0.froom, eq v0_0.1], mpo Value.string DNode.O v0_0.1 a0.fnodes] (γ := OV) (fun _ => True) (fun g => eq g.1) (fun g => [blk b0_ 102 [vS a0.froom, eq v0_0.1], mpo Value.string DNode.O v0_0.1 a0.fnodes, own strK g.1 r]) := by
 unfold dag_Dag_Heads.f at h
 refine Tr.body Tryz.func58 (c := _) rfl Tryz.ntmps58 (Nat.le_of_ble_eq_true rfl) fun R0 F => ?_
 replace h := Gets.of h
 have H := h
 clear h
 refine WP.seq <| rg 1 0 <| as0 rfl rfl <| .fin <| WP.seq <| rg 3 2 <| mv0 rfl rfl <| el H fun t852 h853 H => cx 2 [0,1] cal89 (dag_Dag_ids_Heads.c h853 (b0_ := b0_) (v0_0 := v0_0)) nofun fun g854 _ => ?_
 refine as0 rfl rfl <| .fin ?_
 obtain rfl := Gets.out H
 exact rt i2 rfl g854 3 [0,1,2] 0 (.cons (res_tmp rfl) .nil)
theorem view_View_Heads.c {a0 : VView} {a1 : ByteArray} {p0_ : OV} {r : (List ByteArray)} (h : view_View_Heads.f a0 a1 = some r) : Tr Tryz.prog 18 [eq p0_.1, vS a1] [VView.O p0_ a0] (γ := OV) (fun _ => True) (fun g => eq g.1) (fun g => [VView.O p0_ a0, own strK g.1 r]) := by
 unfold view_View_Heads.f at h
 refine Tr.body Tryz.func18 (c := _) rfl Tryz.ntmps18 (Nat.le_of_ble_eq_true rfl) fun R0 F => ?_
 replace h := Gets.of h
 have H := h
 clear h
 refine WP.seq <| rg 1 0 <| as0 rfl rfl <| .fin <| WP.seq <| rg 5 12 <| mv0 rfl rfl <| mv0 rfl rfl <| vg (VView.opn 0 rfl) fun g855 h856 => ?_
 refine el H fun t857 h858 H => cx 2 [0,1] cal52 (Tr.weak (view_View_room.c h858 (b0_ := g855.1) (v0_0 := g855.2)) (.cons (wk_ptr h856) (.cons wk_id .nil))) nofun fun v859 _ => ?_
 refine vg (DDag.opn 2 rfl) fun g860 h861 => ?_
 refine el H fun t862 h863 H => cx 4 [0,1,2,3] cal58 (Tr.weak (dag_Dag_Heads.c h863 (b0_ := g860.1) (v0_0 := g860.2)) (.cons (wk_ptr h861) .nil)) nofun fun g864 _ => ?_
 refine as0 rfl rfl <| .fin <| wg (DDag.shut (p := v859) (m := t857) (g860.1, g860.2) h861 (pm 5 [0,1,2,3,4])) fun _ _ => ?_
 refine wg (mpl_back0 (view_View_room.r h858) (pm 4 [3,0,1,2])) fun _ _ => ?_
 refine wg (VView.shut (p := p0_) (m := a0) (g855.1, g855.2) h856 (pm 3 [2,0,1])) fun _ _ => ?_
 obtain rfl := Gets.out H
 exact rt i2 rfl g864 2 [0,1] 0 (.cons (res_tmp rfl) .nil)
theorem concourseref07_Heads.c {k : Nat} {a0 : RDag} {r : (List ByteArray)} (h : concourseref07_Heads.f k a0 = some r) : Tr Tryz.prog 19 [agg (RDag.enc a0)] [] (γ := OV) (fun _ => True) (fun g => eq g.1) (fun g => [own strK g.1 r]) := by
 unfold concourseref07_Heads.f at h
 refine Tr.body Tryz.func19 (c := _) rfl Tryz.ntmps19 (Nat.le_of_ble_eq_true rfl) fun R0 F => ?_
 replace h := Gets.of h
 have H := h
 clear h
 refine WP.seq <| rg 2 1 <| Dv.box rfl trivial rfl cA nofun fun b865 => as0 rfl rfl <| .fin <| WP.seq <| rg 3 0 <| lds 0 rfl trivial rfl sg36 rfl rfl <| el H fun t866 h867 H => cl rfl cal16 rfl (concourseref07_All.c h867) <| as0 rfl rfl <| .fin <| WP.seq <| rg 1 0 <| as0 rfl rfl <| .fin <| WP.seqn H (fun q900 : (Int × Bool × (List ByteArray)) × OV => q900.1) (fun q900 : (Int × Bool × (List ByteArray)) × OV => [(0, agg (RDag.enc a0)), (1, eq (.pointer (some ⟨b865, 0, none⟩))), (2, eq (.slice none 0 0)), (3, sl Event.K t866), (4, eq q900.2.1), (5, vI q900.1.1), (14, vB q900.1.2.1)]) (fun q900 : (Int × Bool × (List ByteArray)) × OV => [blk b865 36 (RDag.enc a0), own strK q900.2.1 q900.1.2.2] ++ F) (fun q900 H => ?_) (fun H => ?_)
 ·
  obtain ⟨p868, v869⟩ := q900
  refine WP.seq <| rg 2 0 <| mv0 rfl rfl <| as0 rfl rfl <| .fin ?_
  obtain rfl := Gets.out H
  exact rt i2 rfl v869 2 [0,1] 1 (.cons (res_tmp rfl) .nil)
 refine WP.seq <| rg 1 0 <| as0 rfl rfl <| .fin <| WP.block <| wg (st_nil strK none) fun _ _ => ?_
 refine wg (sg 2 [1,0] 0) fun _ _ => ?_
 refine lp (fun j_ (p899 : Int × (List ByteArray) × OV) => concourseref07_Heads.l0 k a0 t866 j_ p899.1 p899.2.1) (0, ([] : List ByteArray), nilV) H (fun p899 => [(0, agg (RDag.enc a0)), (1, eq (.pointer (some ⟨b865, 0, none⟩))), (2, eq (.slice none 0 0)), (3, sl Event.K t866), (4, eq p899.2.2.1), (5, vI p899.1)]) (fun p899 => [blk b865 36 (RDag.enc a0), own strK p899.2.2.1 p899.2.1] ++ F) ?_
 rintro j_ ⟨x870, x871, v872⟩ H
 rcases j_ with _ | j898
 ·
  exact (Gets.no H).elim
 replace H : Gets (concourseref07_Heads.l0 k a0 t866 (j898 + 1) x870 x871) _ := H
 rw [concourseref07_Heads.l0] at H
 refine WP.seq <| WP.seq <| rg 4 0 <| mv0 rfl rfl <| mv0 rfl rfl <| Dv.lenl rfl trivial rfl Tryz.underlying23 <| bn0 rfl rfl rfl run_lt <| .fin <| cd H rfl (fun _ H => ?_) (fun _ H => ?_)
 rotate_left
 ·
  refine WP.exit ?_
  replace H := Gets.out H
  exact jn ((x870, decide (x870 < (t866.length : Int)), x871), v872) H
 refine WP.skip <| WP.seqn H (fun q897 : (Bool × Int × Bool × Bool × (List ByteArray)) × OV => q897.1) (fun q897 : (Bool × Int × Bool × Bool × (List ByteArray)) × OV => [(0, agg (RDag.enc a0)), (1, eq (.pointer (some ⟨b865, 0, none⟩))), (2, eq (.slice none 0 0)), (3, sl Event.K t866), (4, eq q897.2.1), (5, vI x870), (6, vB q897.1.1), (7, vI q897.1.2.1), (14, vB (decide (x870 < (t866.length : Int)))), (21, vB q897.1.2.2.1), (53, vB q897.1.2.2.2.1)]) (fun q897 : (Bool × Int × Bool × Bool × (List ByteArray)) × OV => [blk b865 36 (RDag.enc a0), own strK q897.2.1 q897.1.2.2.2.2] ++ F) (fun q897 H => ?_) (fun H => ?_)
 ·
  obtain ⟨p874, v875⟩ := q897
  exact rg 3 0 <| mv0 rfl rfl <| bn0 rfl rfl rfl run_add <| as0 rfl rfl <| .fin <| bk j898 (w64 (x870 + 1), p874.2.2.2.2, v875) H
 refine WP.block <| WP.seq <| rg 1 0 <| as0 rfl rfl <| .fin <| WP.seqn H id (fun p876 : Bool × Int × Bool => [(0, agg (RDag.enc a0)), (1, eq (.pointer (some ⟨b865, 0, none⟩))), (2, eq (.slice none 0 0)), (3, sl Event.K t866), (4, eq v872.1), (5, vI x870), (6, vB p876.1), (7, vI p876.2.1), (14, vB (decide (x870 < (t866.length : Int)))), (21, vB p876.2.2)]) (fun p876 : Bool × Int × Bool => [blk b865 36 (RDag.enc a0), own strK v872.1 x871] ++ F) (fun p876 H => ?_) (fun H => ?_)
 ·
  refine WP.seq <| rg 1 0 <| mv0 rfl rfl <| .fin <| cd H rfl (fun _ H => ?_) (fun _ H => ?_)
  rotate_left
  ·
   refine WP.skip ?_
   replace H := Gets.out H
   exact jn ((p876.1, p876.2.1, p876.2.2, p876.1, x871), v872) H
  refine rg 9 128 <| mv0 rfl rfl <| mv0 rfl rfl <| mv0 rfl rfl <| gr H fun g878 H => Dv.ixr rfl trivial rfl rfl Tryz.underlying23 Tryz.underlying33 c33 g878.1 g878.2 <| fr rfl trivial rfl fa33_0 rfl <| ldR rfl trivial rfl sc9 rfl <| Dv.lit strK ([(Event.K.at t866 x870).fID] : List ByteArray) (css := [[vS ((Event.K.at t866 x870).fID)]]) rfl trivial Tryz.underlying31 Tryz.underlying9 c9 z9 rfl (by decide) (by decide) rfl ⟨(cells_one (one_eq rfl)), trivial⟩ rfl rfl rfl <| gr H fun g879 H => ap strK 1 ([(Event.K.at t866 x870).fID] : List ByteArray) src_sl Tryz.underlying31 (.inr ⟨_, Tryz.underlying31⟩) inf9 g879 nofun fun v880 => ?_
  refine as0 rfl rfl <| .fin ?_
  replace H := Gets.out H
  exact jn ((p876.1, p876.2.1, p876.2.2, p876.1, x871 ++ ([(Event.K.at t866 x870).fID] : List ByteArray)), v880) H
 refine WP.seq <| rg 1 0 <| as0 rfl rfl <| .fin <| WP.block <| wg (sg 2 [0,1] 0) fun _ _ => ?_
 refine lp (fun j_ (p896 : Bool × Int) => concourseref07_Heads.l1 k a0 t866 x870 j_ p896.1 p896.2) (true, 0) H (fun p896 => [(0, agg (RDag.enc a0)), (1, eq (.pointer (some ⟨b865, 0, none⟩))), (2, eq (.slice none 0 0)), (3, sl Event.K t866), (4, eq v872.1), (5, vI x870), (6, vB p896.1), (7, vI p896.2), (14, vB (decide (x870 < (t866.length : Int))))]) (fun p896 => [blk b865 36 (RDag.enc a0), own strK v872.1 x871] ++ F) ?_
 rintro j_ ⟨x881, x882⟩ H
 rcases j_ with _ | j895
 ·
  exact (Gets.no H).elim
 replace H : Gets (concourseref07_Heads.l1 k a0 t866 x870 (j895 + 1) x881 x882) _ := H
 rw [concourseref07_Heads.l1] at H
 refine WP.seq <| WP.seq <| rg 5 0 <| mv0 rfl rfl <| fb rfl trivial rfl fa36_1 <| ld 0 rfl trivial rfl sc23 rfl rfl <| Dv.lenl rfl trivial rfl Tryz.underlying23 <| bn0 rfl rfl rfl run_lt <| .fin <| cd H rfl (fun _ H => ?_) (fun _ H => ?_)
 rotate_left
 ·
  refine WP.exit ?_
  replace H := Gets.out H
  exact jn (x881, x882, decide (x882 < (a0.fL.length : Int))) H
 refine WP.skip <| WP.seqn H id (fun p884 : Bool × Int × Bool => [(0, agg (RDag.enc a0)), (1, eq (.pointer (some ⟨b865, 0, none⟩))), (2, eq (.slice none 0 0)), (3, sl Event.K t866), (4, eq v872.1), (5, vI x870), (6, vB p884.1), (7, vI x882), (8, vI p884.2.1), (14, vB (decide (x870 < (t866.length : Int)))), (21, vB (decide (x882 < (a0.fL.length : Int)))), (32, vB p884.2.2)]) (fun p884 : Bool × Int × Bool => [blk b865 36 (RDag.enc a0), own strK v872.1 x871] ++ F) (fun p884 H => ?_) (fun H => ?_)
 ·
  exact rg 3 0 <| mv0 rfl rfl <| bn0 rfl rfl rfl run_add <| as0 rfl rfl <| .fin <| bk j895 (p884.1, w64 (x882 + 1)) H
 refine WP.block <| WP.seq <| rg 1 0 <| as0 rfl rfl <| .fin <| WP.block <| wg (sg 2 [0,1] 0) fun _ _ => ?_
 refine lp (fun j_ (p894 : Bool × Int) => concourseref07_Heads.l2 k a0 t866 x870 x882 j_ p894.1 p894.2) (x881, 0) H (fun p894 => [(0, agg (RDag.enc a0)), (1, eq (.pointer (some ⟨b865, 0, none⟩))), (2, eq (.slice none 0 0)), (3, sl Event.K t866), (4, eq v872.1), (5, vI x870), (6, vB p894.1), (7, vI x882), (8, vI p894.2), (14, vB (decide (x870 < (t866.length : Int)))), (21, vB (decide (x882 < (a0.fL.length : Int))))]) (fun p894 => [blk b865 36 (RDag.enc a0), own strK v872.1 x871] ++ F) ?_
 rintro j_ ⟨x885, x886⟩ H
 rcases j_ with _ | j893
 ·
  exact (Gets.no H).elim
 replace H : Gets (concourseref07_Heads.l2 k a0 t866 x870 x882 (j893 + 1) x885 x886) _ := H
 rw [concourseref07_Heads.l2] at H
 refine WP.seq <| WP.seq <| rg 9 0 <| mv0 rfl rfl <| fb rfl trivial rfl fa36_1 <| ld 0 rfl trivial rfl sc23 rfl rfl <| mv0 rfl rfl <| gr H fun g887 H => Dv.ixr rfl trivial rfl rfl Tryz.underlying23 Tryz.underlying33 c33 g887.1 g887.2 <| fr rfl trivial rfl fa33_2 rfl <| ldR rfl trivial rfl sc31 rfl <| Dv.lenl rfl trivial rfl Tryz.underlying31 <| bn0 rfl rfl rfl run_lt <| .fin <| cd H rfl (fun _ H => ?_) (fun _ H => ?_)
 rotate_left
 ·
  refine WP.exit ?_
  replace H := Gets.out H
  exact jn (x885, x886, decide (x886 < (((Event.K.at a0.fL x882).fParents).length : Int))) H
 refine WP.skip <| WP.seq <| WP.block <| dg Tryz.checked.mixed 19 0 <| mv0 rfl rfl <| mv0 rfl rfl ?_
 cases c889 : x885
 ·
  replace H := Gets.cf H c889
  exact sk rfl rfl <| sk rfl rfl <| sk rfl rfl <| sk rfl rfl <| sk rfl rfl <| sk rfl rfl <| sk rfl rfl <| sk rfl rfl <| sk rfl rfl <| sk rfl rfl <| sk rfl rfl <| sk rfl rfl <| sk rfl rfl <| sk rfl rfl <| sk rfl rfl <| pf0 rfl rfl rfl <| as0 rfl rfl <| .fin <| rg 3 0 <| mv0 rfl rfl <| bn0 rfl rfl rfl run_add <| as0 rfl rfl <| .fin <| bk j893 (false, w64 (x886 + 1)) H
 replace H := Gets.ct H c889
 exact fb rfl (gg rfl) rfl fa36_1 <| ld 0 rfl (gg rfl) rfl sc23 rfl rfl <| mvg rfl rfl rfl <| gr H fun g890 H => Dv.ixr rfl (gg rfl) rfl rfl Tryz.underlying23 Tryz.underlying33 c33 g890.1 g890.2 <| fr rfl (gg rfl) rfl fa33_2 rfl <| ldR rfl (gg rfl) rfl sc31 rfl <| mvg rfl rfl rfl <| gr H fun g891 H => Dv.ixr rfl (gg rfl) rfl rfl Tryz.underlying31 Tryz.underlying9 c9 g891.1 g891.2 <| ldR rfl (gg rfl) rfl sc9 rfl <| mvg rfl rfl rfl <| mvg rfl rfl rfl <| gr H fun g892 H => Dv.ixr rfl (gg rfl) rfl rfl Tryz.underlying23 Tryz.underlying33 c33 g892.1 g892.2 <| fr rfl (gg rfl) rfl fa33_0 rfl <| ldR rfl (gg rfl) rfl sc9 rfl <| bng rfl rfl rfl rfl run_sne <| pt0 rfl rfl rfl <| as0 rfl rfl <| .fin <| rg 3 0 <| mv0 rfl rfl <| bn0 rfl rfl rfl run_add <| as0 rfl rfl <| .fin <| bk j893 (!decide ((strK.at ((Event.K.at a0.fL x882).fParents) x886) = ((Event.K.at t866 x870).fID)), w64 (x886 + 1)) H
theorem slices_Sort_string.c {a0 : List ByteArray} {p0_ : OV} {r : List ByteArray} (h : slices_Sort_string.f a0 = some r) : Tr Tryz.prog 59 [eq p0_.1] [own strK p0_.1 a0] (γ := Unit) (fun _ => True) (fun g => tup []) (fun g => [own strK p0_.1 r]) := by
 unfold slices_Sort_string.f at h
 obtain ⟨h0, h5⟩ := (Gets.of h).grd
 obtain rfl := Gets.out h5
 exact sort_tr (fun blk off cap ss w => Go.Proofs.Any.slices_Sort_string Tryz.lays190 blk off cap ss w) (fun q cap w => Go.Proofs.Any.slices_Sort_string_none Tryz.lays190 q cap w) h0

theorem view_View_Rooms.c {a0 : VView} {b0_ : Nat} {v0_0 : OV} {r : List ByteArray} (h : view_View_Rooms.f a0 = some r) : Tr Tryz.prog 20 [eq (.pointer (some ⟨b0_, 0, none⟩))] [blk b0_ 80 [eq v0_0.1], mpo Value.string DDag.O v0_0.1 a0.fdags] (γ := OV) (fun _ => True) (fun g => eq g.1) (fun g => [blk b0_ 80 [eq v0_0.1], mpo Value.string DDag.O v0_0.1 a0.fdags, own strK g.1 r]) := by
  unfold view_View_Rooms.f at h
  obtain ⟨h0, h5⟩ := (Gets.of h).grd
  obtain rfl := Gets.out h5
  clear h h5
  refine Tr.body Tryz.func20 (c := _) rfl Tryz.ntmps20 (Nat.le_of_ble_eq_true rfl) fun R0 F => ?_
  refine WP.seq <| rg 1 0 <| as0 rfl rfl <| .fin <| WP.seq <| rg 1 0 <| as0 rfl rfl <| .fin ?_
  refine WP.seqj (β := List Nat × OV) (fun b => b.1.Perm (List.range a0.fdags.length)) (fun b => [(3, eq b.2.1)]) (fun b => [own strK b.2.1 (selM a0.fdags (fun e => some e.1) b.1), blk b0_ 80 [eq v0_0.1], mpo Value.string DDag.O v0_0.1 a0.fdags] ++ F) (fun b hb => ?_) ?_
  rotate_left
  · refine WP.seq <| rg 5 16 <| mv0 rfl rfl <| Dv.nilp rfl trivial rfl <| fb rfl trivial rfl fa80_0 <| ld 0 rfl trivial rfl sc78 rfl rfl ?_
    refine Dv.gh (l' := fun ps : List OV => [mp Value.string (fun p : OV => eq p.1) v0_0.1 (zipK a0.fdags ps), thg DDag.O a0.fdags ps, blk b0_ 80 [eq v0_0.1]] ++ F) (gh_of (mpo_opn 1 rfl)) (fun ps hps => ?_)
    refine Dv.rgb (jj := 0) rfl trivial rfl rfl Tryz.underlying78 nofun (fun q => .fin ?_)
    refine WP.gh (l' := fun _ : Unit => [rng Value.string (fun p : OV => eq p.1) v0_0.1 q.1 (zipK a0.fdags ps) [], thg DDag.O a0.fdags ps, blk b0_ 80 [eq v0_0.1]] ++ F) (gh_of (ok := fun _ => True) fun R w k => ⟨(), trivial, k⟩) (fun _ _ => ?_)
    refine WP.gh (l' := fun _ : Unit => [own strK nilV.1 [], rng Value.string (fun p : OV => eq p.1) v0_0.1 q.1 (zipK a0.fdags ps) [], thg DDag.O a0.fdags ps, blk b0_ 80 [eq v0_0.1]] ++ F) (gh_of (st_nil strK none)) (fun _ _ => ?_)
    refine WP.block ?_
    refine WP.weak (E' := (fun b : List Nat × OV => [(3, eq b.2.1), (9, eq q.1)]) ([], nilV)) (weak_cons rfl (weak_cons rfl weak_nil)) (WP.loop (β := List Nat × OV) (fun k b => b.1.length + k = a0.fdags.length) (fun b => [(3, eq b.2.1), (9, eq q.1)]) (fun b => [own strK b.2.1 (selM a0.fdags (fun e => some e.1) b.1), rng Value.string (fun p : OV => eq p.1) v0_0.1 q.1 (zipK a0.fdags ps) b.1, thg DDag.O a0.fdags ps, blk b0_ 80 [eq v0_0.1]] ++ F) ?_ (k := a0.fdags.length) (b := ([], nilV)) (Nat.zero_add _))
    rintro k ⟨is, v⟩ hk
    replace hk : is.length + k = a0.fdags.length := hk
    refine WP.seq <| rg 2 1 <| Dv.rgn (jj := 1) rfl trivial rfl rfl nofun (fun z hz => ?_)
    rcases z with _ | j
    · have hz : is.Perm (List.range (zipK a0.fdags ps).length) := hz
      rw [zipK_len hps.1] at hz
      refine ex0 rfl trivial rfl rfl <| .fin <| WP.seq <| WP.cond rfl nofun (fun _ => WP.exit ?_)
      refine Dn.gh (l' := fun _ : Unit => [own strK v.1 (selM a0.fdags (fun e => some e.1) is), rng Value.string (fun p : OV => eq p.1) v0_0.1 q.1 (zipK a0.fdags ps) is, thg DDag.O a0.fdags ps, blk b0_ 80 [eq v0_0.1]] ++ F) (gh_of (ok := fun _ => True) fun R w k => ⟨(), trivial, k⟩) (fun _ _ => ?_)
      refine Dn.gh (l' := fun _ : Unit => [mp Value.string (fun p : OV => eq p.1) v0_0.1 (zipK a0.fdags ps), own strK v.1 (selM a0.fdags (fun e => some e.1) is), thg DDag.O a0.fdags ps, blk b0_ 80 [eq v0_0.1]] ++ F) (gh_of (st_rge (pm 4 [1,0,2,3]))) (fun _ _ => ?_)
      refine Dn.gh (l' := fun _ : Unit => [mpo Value.string DDag.O v0_0.1 a0.fdags, own strK v.1 (selM a0.fdags (fun e => some e.1) is), blk b0_ 80 [eq v0_0.1]] ++ F) (gh_of (mpo_shut hps rfl (pm 4 [0,2,1,3]))) (fun _ _ => ?_)
      exact Jn.mk (is, v) hz (weak_cons rfl weak_nil) (perm_ton 3 [1,2,0] (by kernel_rfl) rfl rfl)
    have hz : j < (zipK a0.fdags ps).length ∧ j ∉ is ∧ is.length < (zipK a0.fdags ps).length := hz
    obtain ⟨e, p, he, hp, hep⟩ := zipK_get hps hz.1
    have hlt : is.length < a0.fdags.length := by rw [← zipK_len hps.1]; exact hz.2.2
    have hsl := Nat.le_trans (selM_len (m := a0.fdags) (f := (fun e => some e.1)) (is := is)) (Nat.le_of_lt hlt)
    have e1 : nxV Value.string (fun p : OV => eq p.1) (zipK a0.fdags ps) (some j) = tup [vB true, vS e.1, eq p.1] := by simp only [nxV, hep]
    rw [e1]
    refine ex0 rfl trivial rfl rfl <| .fin <| WP.seq <| WP.cond rfl (fun _ => WP.skip ?_) nofun
    refine WP.gh (l' := fun _ : Unit => [own strK v.1 (selM a0.fdags (fun e => some e.1) is), rng Value.string (fun p : OV => eq p.1) v0_0.1 q.1 (zipK a0.fdags ps) (is ++ [j]), thg DDag.O a0.fdags ps, blk b0_ 80 [eq v0_0.1]] ++ F) (gh_of (ok := fun _ => True) fun R w k => ⟨(), trivial, k⟩) (fun _ _ => ?_)
    refine WP.block <| WP.seq <| rg 3 0 <| Dv.rge 1 rfl trivial rfl rfl hep ?_
    refine ex0 rfl trivial rfl rfl <| as0 rfl rfl <| .fin ?_
    have e6 := selM_some (f := (fun e => some e.1)) (is := is) he rfl
    have hbd : (selM a0.fdags (fun e => some e.1) is).length + ([e.1] : List ByteArray).length ≤ 9223372036854775807 ∧ ((selM a0.fdags (fun e => some e.1) is).length + ([e.1] : List ByteArray).length) * 16 ≤ 140737488355328 := by rw [List.length_singleton]; omega
    refine rg 5 8 <| mv0 rfl rfl <| mv0 rfl rfl <| Dv.lit strK ([e.1] : List ByteArray) (css := [[vS e.1]]) rfl trivial Tryz.underlying31 Tryz.underlying9 c9 z9 rfl (by decide) (by decide) rfl ⟨(cells_one (one_eq rfl)), trivial⟩ rfl rfl rfl <| ap strK 0 ([e.1] : List ByteArray) src_sl Tryz.underlying31 (.inr ⟨_, Tryz.underlying31⟩) inf9 hbd nofun fun v9 => as0 rfl rfl <| .fin ?_
    rw [e6]
    exact Back.mk (k - 1) (is ++ [j], v9) (by omega) (by show (is ++ [j]).length + (k - 1) = _; rw [List.length_append, List.length_singleton]; omega) (weak_cons rfl (weak_cons rfl weak_nil)) (List.Perm.refl _)
  obtain ⟨is, v3⟩ := b
  replace hb : is.Perm (List.range a0.fdags.length) := hb
  have hp := selM_perm (f := (fun e => some e.1)) hb
  have hs : slices_Sort_string.f (selM a0.fdags (fun e => some e.1) is) = some (srtS (a0.fdags.map (·.1))) := by
    have e7 : a0.fdags.filterMap (fun e => some e.1) = a0.fdags.map (·.1) := by rw [← List.filterMap_eq_map]; rfl
    rw [e7] at hp
    unfold slices_Sort_string.f Sp.grd
    rw [if_pos (by rw [hp.length_eq, List.length_map]; omega), srtS_eq hp]
  refine WP.seq <| rg 2 2 <| mv0 rfl rfl <| cx 3 [0,1,2] cal59 (slices_Sort_string.c hs (p0_ := v3)) nofun fun _ _ => .fin ?_
  refine WP.seq <| rg 2 0 <| mv0 rfl rfl <| as0 rfl rfl <| .fin <| rt i2 rfl v3 3 [1,2,0] 0 (.cons (res_tmp rfl) .nil)
theorem concourseref10_Rooms.c {k : Nat} {a0 : RView} {r : (List ByteArray)} (h : concourseref10_Rooms.f k a0 = some r) : Tr Tryz.prog 21 [agg (RView.enc a0)] [] (γ := OV) (fun _ => True) (fun g => eq g.1) (fun g => [own strK g.1 r]) := by
 unfold concourseref10_Rooms.f at h
 refine Tr.body Tryz.func21 (c := _) rfl Tryz.ntmps21 (Nat.le_of_ble_eq_true rfl) fun R0 F => ?_
 replace h := Gets.of h
 have H := h
 clear h
 refine WP.seq <| rg 2 1 <| Dv.box rfl trivial rfl cA nofun fun b901 => as0 rfl rfl <| .fin <| WP.seq <| rg 1 0 <| as0 rfl rfl <| .fin <| WP.seqn H (fun q913 : (Int × Bool × (List ByteArray)) × OV => q913.1) (fun q913 : (Int × Bool × (List ByteArray)) × OV => [(0, agg (RView.enc a0)), (1, eq (.pointer (some ⟨b901, 0, none⟩))), (2, eq (.slice none 0 0)), (3, eq q913.2.1), (4, vI q913.1.1), (9, vB q913.1.2.1)]) (fun q913 : (Int × Bool × (List ByteArray)) × OV => [blk b901 28 (RView.enc a0), own strK q913.2.1 q913.1.2.2] ++ F) (fun q913 H => ?_) (fun H => ?_)
 ·
  obtain ⟨p902, v903⟩ := q913
  refine WP.seq <| rg 2 0 <| mv0 rfl rfl <| as0 rfl rfl <| .fin ?_
  obtain rfl := Gets.out H
  exact rt i2 rfl v903 2 [0,1] 1 (.cons (res_tmp rfl) .nil)
 refine WP.seq <| rg 1 0 <| as0 rfl rfl <| .fin <| WP.block <| wg (st_nil strK none) fun _ _ => ?_
 refine wg (sg 2 [1,0] 0) fun _ _ => ?_
 refine lp (fun j_ (p912 : Int × (List ByteArray) × OV) => concourseref10_Rooms.l0 k a0 j_ p912.1 p912.2.1) (0, ([] : List ByteArray), nilV) H (fun p912 => [(0, agg (RView.enc a0)), (1, eq (.pointer (some ⟨b901, 0, none⟩))), (2, eq (.slice none 0 0)), (3, eq p912.2.2.1), (4, vI p912.1)]) (fun p912 => [blk b901 28 (RView.enc a0), own strK p912.2.2.1 p912.2.1] ++ F) ?_
 rintro j_ ⟨x904, x905, v906⟩ H
 rcases j_ with _ | j911
 ·
  exact (Gets.no H).elim
 replace H : Gets (concourseref10_Rooms.l0 k a0 (j911 + 1) x904 x905) _ := H
 rw [concourseref10_Rooms.l0] at H
 refine WP.seq <| WP.seq <| rg 5 0 <| mv0 rfl rfl <| fb rfl trivial rfl fa28_0 <| ld 0 rfl trivial rfl sc26 rfl rfl <| Dv.lenl rfl trivial rfl Tryz.underlying26 <| bn0 rfl rfl rfl run_lt <| .fin <| cd H rfl (fun _ H => ?_) (fun _ H => ?_)
 rotate_left
 ·
  refine WP.exit ?_
  replace H := Gets.out H
  exact jn ((x904, decide (x904 < (a0.fD.length : Int)), x905), v906) H
 refine WP.skip <| WP.seq <| WP.block <| rg 10 256 <| mv0 rfl rfl <| fb rfl trivial rfl fa28_0 <| ld 0 rfl trivial rfl sc26 rfl rfl <| mv0 rfl rfl <| gr H fun g908 H => Dv.ixr rfl trivial rfl rfl Tryz.underlying26 Tryz.underlying36 c36 g908.1 g908.2 <| fr rfl trivial rfl fa36_0 rfl <| ldR rfl trivial rfl sc9 rfl <| Dv.lit strK ([(RDag.K.at a0.fD x904).fRoom] : List ByteArray) (css := [[vS ((RDag.K.at a0.fD x904).fRoom)]]) rfl trivial Tryz.underlying31 Tryz.underlying9 c9 z9 rfl (by decide) (by decide) rfl ⟨(cells_one (one_eq rfl)), trivial⟩ rfl rfl rfl <| gr H fun g909 H => ap strK 1 ([(RDag.K.at a0.fD x904).fRoom] : List ByteArray) src_sl Tryz.underlying31 (.inr ⟨_, Tryz.underlying31⟩) inf9 g909 nofun fun v910 => ?_
 exact as0 rfl rfl <| .fin <| rg 3 0 <| mv0 rfl rfl <| bn0 rfl rfl rfl run_add <| as0 rfl rfl <| .fin <| bk j911 (w64 (x904 + 1), x905 ++ ([(RDag.K.at a0.fD x904).fRoom] : List ByteArray), v910) H
theorem dag_Dag_Event.c {a0 : DDag} {a1 : ByteArray} {v0_0 : OV} {b0_ : Nat} {r : Event × Bool} (h : dag_Dag_Event.f a0 a1 = some r) : Tr Tryz.prog 95 [eq (.pointer (some ⟨b0_, 0, none⟩)), vS a1] [blk b0_ 102 [vS a0.froom, eq v0_0.1], mpo Value.string DNode.O v0_0.1 a0.fnodes] (γ := Unit) (fun _ => True) (fun g => tup [agg (Event.enc r.1), vB r.2]) (fun g => [blk b0_ 102 [vS a0.froom, eq v0_0.1], mpo Value.string DNode.O v0_0.1 a0.fnodes]) := by
 unfold dag_Dag_Event.f at h
 refine Tr.body Tryz.func95 (c := _) rfl Tryz.ntmps95 (Nat.le_of_ble_eq_true rfl) fun R0 F => ?_
 replace h := Gets.of h
 have H := h
 clear h
 refine WP.seq <| rg 2 1 <| al rfl trivial zc33 nofun fun b914 => as0 rfl rfl <| .fin <| WP.seq <| WP.seq <| rg 4 0 <| mv0 rfl rfl <| mv0 rfl rfl <| el H fun t915 h916 H => cll 3 [1,2,0] cal86 (dag_Dag_Has.c h916 (b0_ := b0_) (v0_0 := v0_0)) ?_
 refine un0 rfl rfl (run_not _) <| .fin <| cd H rfl (fun _ H => ?_) (fun _ H => ?_)
 ·
  refine WP.seq <| rg 3 2 <| Dv.bld (css := []) rfl trivial Tryz.underlying33 pl33 z33 rfl trivial rfl rfl <| sx 0 rfl trivial rfl rfl cA sz33 rfl rfl rfl nofun ?_
  refine as0 rfl rfl <| .fin ?_
  obtain rfl := Gets.out H
  exact rt i2 rfl () 3 [0,1,2] 1 (.cons (res_wk (res_cells rfl Tryz.underlying33 rfl c33 (mem_at 0 rfl) rfl) (wk_agg (.cons wk_id (.cons wk_id (.cons wk_nil (.cons wk_id (.cons wk_id (.cons wk_id .nil)))))))) (.cons (res_tmp rfl) .nil))
 refine WP.skip <| WP.seq <| rg 12 1024 <| mv0 rfl rfl <| Dv.nilp rfl trivial rfl <| fb rfl trivial rfl fa102_1 <| ld 1 rfl trivial rfl sc100 rfl rfl <| mv0 rfl rfl <| vg (mpo_opn 2 rfl) fun z918 h919 => ?_
 refine Dv.mlv nilP rfl trivial rfl (mem_at 0 rfl) rfl Tryz.underlying100 (keyOk_str Tryz.underlying9) z103 (fun _ => rfl) <| gr H fun g920 H => vg (mpo_foc h919 rfl g920 (pm 4 [1,0,2,3])) fun _ _ => ?_
 refine Dv.nilA DNode.nn rfl trivial rfl (mem_at 0 rfl) <| vg (DNode.opn 0 rfl) fun g921 h922 => ?_
 refine fp h922 rfl trivial rfl fa105_0 <| lds 0 rfl trivial rfl sg33 rfl rfl <| el H fun t923 h924 H => cl rfl cal88 rfl (dag_own.c h924) <| sx 3 rfl trivial rfl rfl cA sz33 rfl rfl rfl nofun ?_
 refine as0 rfl rfl <| .fin <| wg (DNode.shut (p := ((mget (zipK a0.fnodes z918) a1).getD nilP)) (m := (mget a0.fnodes a1).getD default) g921 h922 (pm 5 [0,1,2,3,4])) fun _ _ => ?_
 refine wg (mpo_unf0 h919 rfl g920 (pm 5 [0,1,2,3,4])) fun _ _ => ?_
 refine wg (mpo_shut h919 rfl (pm 4 [1,0,2,3])) fun _ _ => ?_
 obtain rfl := Gets.out H
 exact rt i2 rfl () 3 [1,2,0] 1 (.cons (res_cells rfl Tryz.underlying33 rfl c33 (mem_at 1 rfl) rfl) (.cons (res_tmp rfl) .nil))
theorem view_View_Fits.c {a0 : VView} {a1 : ByteArray} {a2 : ByteArray} {a3 : ByteArray} {v0_0 : OV} {b0_ : Nat} {r : Int} (h : view_View_Fits.f a0 a1 a2 a3 = some r) : Tr Tryz.prog 60 [eq (.pointer (some ⟨b0_, 0, none⟩)), vS a1, vS a2, vS a3] [blk b0_ 80 [eq v0_0.1], mpo Value.string DDag.O v0_0.1 a0.fdags] (γ := Unit) (fun _ => True) (fun g => vI r) (fun g => [blk b0_ 80 [eq v0_0.1], mpo Value.string DDag.O v0_0.1 a0.fdags]) := by
 unfold view_View_Fits.f at h
 refine Tr.body Tryz.func60 (c := _) rfl Tryz.ntmps60 (Nat.le_of_ble_eq_true rfl) fun R0 F => ?_
 replace h := Gets.of h
 have H := h
 clear h
 refine WP.seq <| rg 1 0 <| as0 rfl rfl <| .fin <| WP.seq <| rg 5 4 <| mv0 rfl rfl <| mv0 rfl rfl <| el H fun t925 h926 H => cx 2 [0,1] cal52 (view_View_room.c h926 (b0_ := b0_) (v0_0 := v0_0)) nofun fun v927 _ => ?_
 refine Dv.mkc (fst := #[v927.1]) rfl trivial rfl <| as0 rfl rfl <| .fin <| WP.seq <| rg 9 192 <| mv0 rfl rfl <| mv0 rfl rfl <| vg (DDag.opn 2 rfl) fun g928 h929 => ?_
 refine el H fun t930 h931 H => Dv.callc (fst := #[v927.1]) (B := [blk g928.1 102 [vS t925.froom, eq g928.2.1], mpo Value.string DNode.O g928.2.1 t925.fnodes]) (F := [blk b0_ 80 [eq v0_0.1], mpl Value.string DDag.O v0_0.1 a0.fdags a1 v927] ++ F) rfl trivial rfl cal95 rfl (Tr.weak (dag_Dag_Event.c h931 (b0_ := g928.1) (v0_0 := g928.2)) (.cons (wk_ptr h929) (.cons wk_id .nil))) (perm_to (L := [blk g928.1 102 [vS t925.froom, eq g928.2.1], mpo Value.string DNode.O g928.2.1 t925.fnodes, blk b0_ 80 [eq v0_0.1], mpl Value.string DDag.O v0_0.1 a0.fdags a1 v927]) (F := F) [0, 1, 2, 3] rfl rfl rfl) <| mv0 rfl rfl <| ex0 rfl trivial rfl rfl <| ex0 rfl trivial rfl rfl <| al rfl trivial zc33 nofun fun b932 => sx 0 rfl trivial rfl rfl cA sz33 rfl rfl rfl nofun ?_
 refine as0 rfl rfl <| .fin <| WP.seq <| WP.block <| WP.seq <| rg 3 0 <| mv0 rfl rfl <| un0 rfl rfl (run_not _) <| as0 rfl rfl <| .fin <| cd H rfl (fun _ H => ?_) (fun _ H => ?_)
 ·
  refine WP.seq <| rg 1 0 <| as0 rfl rfl <| .fin <| wg (DDag.shut (p := v927) (m := t925) (g928.1, g928.2) h929 (pm 5 [1,2,0,3,4])) fun _ _ => ?_
  refine wg (mpl_back0 (view_View_room.r h926) (pm 4 [3,0,1,2])) fun _ _ => ?_
  obtain rfl := Gets.out H
  exact rt i2 rfl () 3 [1,2,0] 1 (.cons (res_tmp rfl) .nil)
 refine WP.seq <| WP.seq <| rg 3 0 <| mv0 rfl rfl <| bn0 rfl rfl rfl run_seq <| as0 rfl rfl <| .fin <| cd H rfl (fun _ H => ?_) (fun _ H => ?_)
 ·
  refine WP.skip <| cd H rfl (fun _ H => ?_) (fun _ H => ?_)
  ·
   refine WP.seq <| rg 1 0 <| as0 rfl rfl <| .fin <| wg (DDag.shut (p := v927) (m := t925) (g928.1, g928.2) h929 (pm 5 [1,2,0,3,4])) fun _ _ => ?_
   refine wg (mpl_back0 (view_View_room.r h926) (pm 4 [3,0,1,2])) fun _ _ => ?_
   obtain rfl := Gets.out H
   exact rt i2 rfl () 3 [1,2,0] 1 (.cons (res_tmp rfl) .nil)
  refine WP.skip <| WP.seq <| rg 1 0 <| as0 rfl rfl <| .fin <| wg (DDag.shut (p := v927) (m := t925) (g928.1, g928.2) h929 (pm 5 [1,2,0,3,4])) fun _ _ => ?_
  refine wg (mpl_back0 (view_View_room.r h926) (pm 4 [3,0,1,2])) fun _ _ => ?_
  obtain rfl := Gets.out H
  exact rt i2 rfl () 3 [1,2,0] 1 (.cons (res_tmp rfl) .nil)
 refine WP.seq <| rg 8 0 <| mv0 rfl rfl <| bn0 rfl rfl rfl run_seq <| mv0 rfl rfl ?_
 cases c936 : decide (a3 = (⟨#[109, 97, 105, 110]⟩ : ByteArray))
 ·
  replace H := Gets.cf H c936
  refine sk rfl rfl <| sk rfl rfl <| sk rfl rfl <| pf0 rfl rfl rfl <| as0 rfl rfl <| .fin <| WP.cond rfl nofun (fun _ => ?_)
  refine WP.seq <| rg 4 0 <| mv0 rfl rfl <| mv0 rfl rfl <| bn0 rfl rfl rfl run_seq <| as0 rfl rfl <| .fin <| cd H rfl (fun _ H => ?_) (fun _ H => ?_)
  ·
   refine WP.skip <| cd H rfl (fun _ H => ?_) (fun _ H => ?_)
   ·
    refine WP.seq <| rg 1 0 <| as0 rfl rfl <| .fin <| wg (DDag.shut (p := v927) (m := t925) (g928.1, g928.2) h929 (pm 5 [1,2,0,3,4])) fun _ _ => ?_
    refine wg (mpl_back0 (view_View_room.r h926) (pm 4 [3,0,1,2])) fun _ _ => ?_
    obtain rfl := Gets.out H
    exact rt i2 rfl () 3 [1,2,0] 1 (.cons (res_tmp rfl) .nil)
   refine WP.skip <| WP.seq <| rg 1 0 <| as0 rfl rfl <| .fin <| wg (DDag.shut (p := v927) (m := t925) (g928.1, g928.2) h929 (pm 5 [1,2,0,3,4])) fun _ _ => ?_
   refine wg (mpl_back0 (view_View_room.r h926) (pm 4 [3,0,1,2])) fun _ _ => ?_
   obtain rfl := Gets.out H
   exact rt i2 rfl () 3 [1,2,0] 1 (.cons (res_tmp rfl) .nil)
  refine rg 5 0 <| mv0 rfl rfl <| fb rfl trivial rfl fa33_3 <| ld 0 rfl trivial rfl sc9 rfl rfl <| bn0 rfl rfl rfl run_seq <| as0 rfl rfl <| .fin <| cd H rfl (fun _ H => ?_) (fun _ H => ?_)
  ·
   refine WP.seq <| rg 1 0 <| as0 rfl rfl <| .fin <| wg (DDag.shut (p := v927) (m := t925) (g928.1, g928.2) h929 (pm 5 [1,2,0,3,4])) fun _ _ => ?_
   refine wg (mpl_back0 (view_View_room.r h926) (pm 4 [3,0,1,2])) fun _ _ => ?_
   obtain rfl := Gets.out H
   exact rt i2 rfl () 3 [1,2,0] 1 (.cons (res_tmp rfl) .nil)
  refine WP.skip <| WP.seq <| rg 1 0 <| as0 rfl rfl <| .fin <| wg (DDag.shut (p := v927) (m := t925) (g928.1, g928.2) h929 (pm 5 [1,2,0,3,4])) fun _ _ => ?_
  refine wg (mpl_back0 (view_View_room.r h926) (pm 4 [3,0,1,2])) fun _ _ => ?_
  obtain rfl := Gets.out H
  exact rt i2 rfl () 3 [1,2,0] 1 (.cons (res_tmp rfl) .nil)
 replace H := Gets.ct H c936
 refine fb rfl (gg rfl) rfl fa33_3 <| ld 0 rfl (gg rfl) rfl sc9 rfl rfl <| bng rfl rfl rfl rfl run_seq <| pt0 rfl rfl rfl <| as0 rfl rfl <| .fin <| cd H rfl (fun _ H => ?_) (fun _ H => ?_)
 ·
  refine WP.skip <| cd H rfl (fun _ H => ?_) (fun _ H => ?_)
  ·
   refine WP.seq <| rg 1 0 <| as0 rfl rfl <| .fin <| wg (DDag.shut (p := v927) (m := t925) (g928.1, g928.2) h929 (pm 5 [1,2,0,3,4])) fun _ _ => ?_
   refine wg (mpl_back0 (view_View_room.r h926) (pm 4 [3,0,1,2])) fun _ _ => ?_
   obtain rfl := Gets.out H
   exact rt i2 rfl () 3 [1,2,0] 1 (.cons (res_tmp rfl) .nil)
  refine WP.skip <| WP.seq <| rg 1 0 <| as0 rfl rfl <| .fin <| wg (DDag.shut (p := v927) (m := t925) (g928.1, g928.2) h929 (pm 5 [1,2,0,3,4])) fun _ _ => ?_
  refine wg (mpl_back0 (view_View_room.r h926) (pm 4 [3,0,1,2])) fun _ _ => ?_
  obtain rfl := Gets.out H
  exact rt i2 rfl () 3 [1,2,0] 1 (.cons (res_tmp rfl) .nil)
 refine WP.seq <| rg 4 0 <| mv0 rfl rfl <| mv0 rfl rfl <| bn0 rfl rfl rfl run_seq <| as0 rfl rfl <| .fin <| cd H rfl (fun _ H => ?_) (fun _ H => ?_)
 ·
  refine WP.skip <| cd H rfl (fun _ H => ?_) (fun _ H => ?_)
  ·
   refine WP.seq <| rg 1 0 <| as0 rfl rfl <| .fin <| wg (DDag.shut (p := v927) (m := t925) (g928.1, g928.2) h929 (pm 5 [1,2,0,3,4])) fun _ _ => ?_
   refine wg (mpl_back0 (view_View_room.r h926) (pm 4 [3,0,1,2])) fun _ _ => ?_
   obtain rfl := Gets.out H
   exact rt i2 rfl () 3 [1,2,0] 1 (.cons (res_tmp rfl) .nil)
  refine WP.skip <| WP.seq <| rg 1 0 <| as0 rfl rfl <| .fin <| wg (DDag.shut (p := v927) (m := t925) (g928.1, g928.2) h929 (pm 5 [1,2,0,3,4])) fun _ _ => ?_
  refine wg (mpl_back0 (view_View_room.r h926) (pm 4 [3,0,1,2])) fun _ _ => ?_
  obtain rfl := Gets.out H
  exact rt i2 rfl () 3 [1,2,0] 1 (.cons (res_tmp rfl) .nil)
 refine rg 5 0 <| mv0 rfl rfl <| fb rfl trivial rfl fa33_3 <| ld 0 rfl trivial rfl sc9 rfl rfl <| bn0 rfl rfl rfl run_seq <| as0 rfl rfl <| .fin <| cd H rfl (fun _ H => ?_) (fun _ H => ?_)
 ·
  refine WP.seq <| rg 1 0 <| as0 rfl rfl <| .fin <| wg (DDag.shut (p := v927) (m := t925) (g928.1, g928.2) h929 (pm 5 [1,2,0,3,4])) fun _ _ => ?_
  refine wg (mpl_back0 (view_View_room.r h926) (pm 4 [3,0,1,2])) fun _ _ => ?_
  obtain rfl := Gets.out H
  exact rt i2 rfl () 3 [1,2,0] 1 (.cons (res_tmp rfl) .nil)
 refine WP.skip <| WP.seq <| rg 1 0 <| as0 rfl rfl <| .fin <| wg (DDag.shut (p := v927) (m := t925) (g928.1, g928.2) h929 (pm 5 [1,2,0,3,4])) fun _ _ => ?_
 refine wg (mpl_back0 (view_View_room.r h926) (pm 4 [3,0,1,2])) fun _ _ => ?_
 obtain rfl := Gets.out H
 exact rt i2 rfl () 3 [1,2,0] 1 (.cons (res_tmp rfl) .nil)
theorem concourselaw10_lives.c {k : Nat} {r : Bool} (h : concourselaw10_lives.f k = some r) : Pt Tryz.prog 22 [] (vB r) := by
 unfold concourselaw10_lives.f at h
 refine (Tr.body Tryz.func22 (c := _) rfl Tryz.ntmps22 (Nat.le_of_ble_eq_true rfl) fun R0 F => ?_).pt
 replace h := Gets.of h
 have H := h
 clear h
 refine WP.seq <| rg 1 0 <| as0 rfl rfl <| .fin <| WP.seq <| rg 2 1 <| el H fun t946 h947 H => cx 0 [] cal25 (view_New.c h947) nofun fun g948 _ => ?_
 refine as0 rfl rfl <| .fin <| WP.seq <| WP.seq <| rg 2 0 <| mv0 rfl rfl <| Dv.peq0 VView.nn rfl trivial rfl rfl Tryz.underlying25 (mem_at 0 rfl) <| .fin <| WP.cond rfl nofun (fun _ => ?_)
 refine WP.skip <| WP.seq <| rg 3 4 <| mv0 rfl rfl <| Dv.bld (css := [[vS (⟨#[36, 116]⟩ : ByteArray)], [vS (⟨#[33, 114, 58, 115]⟩ : ByteArray)], [vS (⟨#[64, 97, 58, 115]⟩ : ByteArray)]]) rfl trivial Tryz.underlying33 pl33 z33 rfl ⟨(cells_one (one_eq rfl)), ⟨(cells_one (one_eq rfl)), ⟨(cells_one (one_eq rfl)), trivial⟩⟩⟩ rfl rfl <| el H fun t950 h951 H => cx 1 [0] cal13 (Tr.weak (view_View_Add.c h951 (p0_ := g948)) (.cons wk_id (.cons (wk_agg (.cons wk_id (.cons wk_id (.cons wk_nil (.cons wk_id (.cons wk_id (.cons wk_id .nil))))))) .nil))) nofun fun _ _ => ?_
 refine .fin <| WP.seq <| rg 3 4 <| mv0 rfl rfl <| Dv.bld (css := [[vS (⟨#[36, 117]⟩ : ByteArray)], [vS (⟨#[33, 114, 58, 115]⟩ : ByteArray)], [vS (⟨#[64, 97, 58, 115]⟩ : ByteArray)], [vS (⟨#[36, 116]⟩ : ByteArray)]]) rfl trivial Tryz.underlying33 pl33 z33 rfl ⟨(cells_one (one_eq rfl)), ⟨(cells_one (one_eq rfl)), ⟨(cells_one (one_eq rfl)), ⟨(cells_one (one_eq rfl)), trivial⟩⟩⟩⟩ rfl rfl <| el H fun t952 h953 H => cx 1 [0] cal13 (Tr.weak (view_View_Add.c h953 (p0_ := g948)) (.cons wk_id (.cons (wk_agg (.cons wk_id (.cons wk_id (.cons wk_nil (.cons wk_id (.cons wk_id (.cons wk_id .nil))))))) .nil))) nofun fun _ _ => ?_
 refine .fin <| WP.seq <| rg 24 0 <| mv0 rfl rfl <| vg (VView.opn 0 rfl) fun g954 h955 => ?_
 refine el H fun t956 h957 H => cll 2 [0,1] cal60 (Tr.weak (view_View_Fits.c h957 (b0_ := g954.1) (v0_0 := g954.2)) (.cons (wk_ptr h955) (.cons wk_id (.cons wk_id (.cons wk_id .nil))))) ?_
 refine bn0 rfl rfl rfl run_eq <| mv0 rfl rfl ?_
 cases c958 : (t956 == 0)
 ·
  replace H := Gets.cf H c958
  refine sk rfl rfl <| sk rfl rfl <| sk rfl rfl <| pf0 rfl rfl rfl <| mv0 rfl rfl <| sk rfl rfl <| sk rfl rfl <| sk rfl rfl <| pf0 rfl rfl rfl <| mv0 rfl rfl <| sk rfl rfl <| sk rfl rfl <| sk rfl rfl <| pf0 rfl rfl rfl <| mv0 rfl rfl <| sk rfl rfl <| sk rfl rfl <| sk rfl rfl <| pf0 rfl rfl rfl <| as0 rfl rfl <| .fin <| wg (VView.shut (p := g948) (m := t952.2) (g954.1, g954.2) h955 (pm 2 [0,1])) fun _ _ => ?_
  obtain rfl := Gets.out H
  exact rt i2 rfl () 1 [0] 1 (.cons (res_tmp rfl) .nil)
 replace H := Gets.ct H c958
 refine mvg rfl rfl rfl <| el H fun t959 h960 H => cll 2 [0,1] cal60 (Tr.weak (view_View_Fits.c h960 (b0_ := g954.1) (v0_0 := g954.2)) (.cons (wk_ptr h955) (.cons wk_id (.cons wk_id (.cons wk_id .nil))))) ?_
 refine bng rfl rfl rfl rfl run_eq <| pt0 rfl rfl rfl <| mv0 rfl rfl ?_
 cases c961 : (t959 == 7)
 ·
  replace H := Gets.cf H c961
  refine sk rfl rfl <| sk rfl rfl <| sk rfl rfl <| pf0 rfl rfl rfl <| mv0 rfl rfl <| sk rfl rfl <| sk rfl rfl <| sk rfl rfl <| pf0 rfl rfl rfl <| mv0 rfl rfl <| sk rfl rfl <| sk rfl rfl <| sk rfl rfl <| pf0 rfl rfl rfl <| as0 rfl rfl <| .fin <| wg (VView.shut (p := g948) (m := t952.2) (g954.1, g954.2) h955 (pm 2 [0,1])) fun _ _ => ?_
  obtain rfl := Gets.out H
  exact rt i2 rfl () 1 [0] 1 (.cons (res_tmp rfl) .nil)
 replace H := Gets.ct H c961
 refine mvg rfl rfl rfl <| el H fun t962 h963 H => cll 2 [0,1] cal60 (Tr.weak (view_View_Fits.c h963 (b0_ := g954.1) (v0_0 := g954.2)) (.cons (wk_ptr h955) (.cons wk_id (.cons wk_id (.cons wk_id .nil))))) ?_
 refine bng rfl rfl rfl rfl run_eq <| pt0 rfl rfl rfl <| mv0 rfl rfl ?_
 cases c964 : (t962 == 0)
 ·
  replace H := Gets.cf H c964
  refine sk rfl rfl <| sk rfl rfl <| sk rfl rfl <| pf0 rfl rfl rfl <| mv0 rfl rfl <| sk rfl rfl <| sk rfl rfl <| sk rfl rfl <| pf0 rfl rfl rfl <| as0 rfl rfl <| .fin <| wg (VView.shut (p := g948) (m := t952.2) (g954.1, g954.2) h955 (pm 2 [0,1])) fun _ _ => ?_
  obtain rfl := Gets.out H
  exact rt i2 rfl () 1 [0] 1 (.cons (res_tmp rfl) .nil)
 replace H := Gets.ct H c964
 refine mvg rfl rfl rfl <| el H fun t965 h966 H => cll 2 [0,1] cal60 (Tr.weak (view_View_Fits.c h966 (b0_ := g954.1) (v0_0 := g954.2)) (.cons (wk_ptr h955) (.cons wk_id (.cons wk_id (.cons wk_id .nil))))) ?_
 refine bng rfl rfl rfl rfl run_eq <| pt0 rfl rfl rfl <| mv0 rfl rfl ?_
 cases c967 : (t965 == 0)
 ·
  replace H := Gets.cf H c967
  refine sk rfl rfl <| sk rfl rfl <| sk rfl rfl <| pf0 rfl rfl rfl <| as0 rfl rfl <| .fin <| wg (VView.shut (p := g948) (m := t952.2) (g954.1, g954.2) h955 (pm 2 [0,1])) fun _ _ => ?_
  obtain rfl := Gets.out H
  exact rt i2 rfl () 1 [0] 1 (.cons (res_tmp rfl) .nil)
 replace H := Gets.ct H c967
 refine mvg rfl rfl rfl <| el H fun t968 h969 H => cll 2 [0,1] cal60 (Tr.weak (view_View_Fits.c h969 (b0_ := g954.1) (v0_0 := g954.2)) (.cons (wk_ptr h955) (.cons wk_id (.cons wk_id (.cons wk_id .nil))))) ?_
 refine bng rfl rfl rfl rfl run_eq <| pt0 rfl rfl rfl <| as0 rfl rfl <| .fin <| wg (VView.shut (p := g948) (m := t952.2) (g954.1, g954.2) h955 (pm 2 [0,1])) fun _ _ => ?_
 obtain rfl := Gets.out H
 exact rt i2 rfl () 1 [0] 1 (.cons (res_tmp rfl) .nil)
theorem dag_Dag_Position.c {a0 : DDag} {a1 : ByteArray} {v0_0 : OV} {b0_ : Nat} {r : Pos × Bool} (h : dag_Dag_Position.f a0 a1 = some r) : Tr Tryz.prog 67 [eq (.pointer (some ⟨b0_, 0, none⟩)), vS a1] [blk b0_ 102 [vS a0.froom, eq v0_0.1], mpo Value.string DNode.O v0_0.1 a0.fnodes] (γ := Unit) (fun _ => True) (fun g => tup [agg (Pos.enc r.1), vB r.2]) (fun g => [blk b0_ 102 [vS a0.froom, eq v0_0.1], mpo Value.string DNode.O v0_0.1 a0.fnodes]) := by
 unfold dag_Dag_Position.f at h
 refine Tr.body Tryz.func67 (c := _) rfl Tryz.ntmps67 (Nat.le_of_ble_eq_true rfl) fun R0 F => ?_
 replace h := Gets.of h
 have H := h
 clear h
 refine WP.seq <| rg 2 1 <| al rfl trivial zc61 nofun fun b1048 => as0 rfl rfl <| .fin <| WP.seq <| WP.seq <| rg 4 0 <| mv0 rfl rfl <| mv0 rfl rfl <| el H fun t1049 h1050 H => cll 3 [1,2,0] cal86 (dag_Dag_Has.c h1050 (b0_ := b0_) (v0_0 := v0_0)) ?_
 refine un0 rfl rfl (run_not _) <| .fin <| cd H rfl (fun _ H => ?_) (fun _ H => ?_)
 ·
  refine WP.seq <| rg 3 2 <| Dv.bld (css := []) rfl trivial Tryz.underlying61 pl61 z61 rfl trivial rfl rfl <| sx 0 rfl trivial rfl rfl cA sz61 rfl rfl rfl nofun ?_
  refine as0 rfl rfl <| .fin ?_
  obtain rfl := Gets.out H
  exact rt i2 rfl () 3 [0,1,2] 1 (.cons (res_cells rfl Tryz.underlying61 rfl c61 (mem_at 0 rfl) rfl) (.cons (res_tmp rfl) .nil))
 refine WP.skip <| WP.seq <| rg 13 2048 <| mv0 rfl rfl <| Dv.nilp rfl trivial rfl <| fb rfl trivial rfl fa102_1 <| ld 1 rfl trivial rfl sc100 rfl rfl <| mv0 rfl rfl <| vg (mpo_opn 2 rfl) fun z1052 h1053 => ?_
 refine Dv.mlv nilP rfl trivial rfl (mem_at 0 rfl) rfl Tryz.underlying100 (keyOk_str Tryz.underlying9) z103 (fun _ => rfl) <| gr H fun g1054 H => vg (mpo_foc h1053 rfl g1054 (pm 4 [1,0,2,3])) fun _ _ => ?_
 refine Dv.nilA DNode.nn rfl trivial rfl (mem_at 0 rfl) <| vg (DNode.opn 0 rfl) fun g1055 h1056 => ?_
 refine fp h1056 rfl trivial rfl fa105_1 <| ld 0 rfl trivial rfl sc3 rfl rfl <| mv0 rfl rfl <| Dv.bld (css := [[vI (((mget a0.fnodes a1).getD default).fdepth)], [vS a1]]) rfl trivial Tryz.underlying61 pl61 z61 rfl ⟨(cells_one (one_eq rfl)), ⟨(cells_one (one_eq rfl)), trivial⟩⟩ rfl rfl <| sx 3 rfl trivial rfl rfl cA sz61 rfl rfl rfl nofun ?_
 refine as0 rfl rfl <| .fin <| wg (DNode.shut (p := ((mget (zipK a0.fnodes z1052) a1).getD nilP)) (m := (mget a0.fnodes a1).getD default) g1055 h1056 (pm 5 [0,1,2,3,4])) fun _ _ => ?_
 refine wg (mpo_unf0 h1053 rfl g1054 (pm 5 [0,1,2,3,4])) fun _ _ => ?_
 refine wg (mpo_shut h1053 rfl (pm 4 [1,0,2,3])) fun _ _ => ?_
 obtain rfl := Gets.out H
 exact rt i2 rfl () 3 [1,2,0] 1 (.cons (res_cells rfl Tryz.underlying61 rfl c61 (mem_at 1 rfl) rfl) (.cons (res_tmp rfl) .nil))
theorem view_View_Position.c {a0 : VView} {a1 : ByteArray} {a2 : ByteArray} {p0_ : OV} {r : Pos × Bool} (h : view_View_Position.f a0 a1 a2 = some r) : Tr Tryz.prog 28 [eq p0_.1, vS a1, vS a2] [VView.O p0_ a0] (γ := Unit) (fun _ => True) (fun g => tup [agg (Pos.enc r.1), vB r.2]) (fun g => [VView.O p0_ a0]) := by
 unfold view_View_Position.f at h
 refine Tr.body Tryz.func28 (c := _) rfl Tryz.ntmps28 (Nat.le_of_ble_eq_true rfl) fun R0 F => ?_
 replace h := Gets.of h
 have H := h
 clear h
 refine WP.seq <| rg 2 1 <| al rfl trivial zc61 nofun fun b1057 => as0 rfl rfl <| .fin <| WP.seq <| rg 9 132 <| mv0 rfl rfl <| mv0 rfl rfl <| vg (VView.opn 1 rfl) fun g1058 h1059 => ?_
 refine el H fun t1060 h1061 H => cx 3 [0,1,2] cal52 (Tr.weak (view_View_room.c h1061 (b0_ := g1058.1) (v0_0 := g1058.2)) (.cons (wk_ptr h1059) (.cons wk_id .nil))) nofun fun v1062 _ => ?_
 refine mv0 rfl rfl <| vg (DDag.opn 2 rfl) fun g1063 h1064 => ?_
 refine el H fun t1065 h1066 H => cll 5 [0,1,2,3,4] cal67 (Tr.weak (dag_Dag_Position.c h1066 (b0_ := g1063.1) (v0_0 := g1063.2)) (.cons (wk_ptr h1064) (.cons wk_id .nil))) ?_
 refine ex0 rfl trivial rfl rfl <| ex0 rfl trivial rfl rfl <| sx 4 rfl trivial rfl rfl cA sz61 rfl rfl rfl nofun ?_
 refine as0 rfl rfl <| .fin <| wg (DDag.shut (p := v1062) (m := t1060) (g1063.1, g1063.2) h1064 (pm 5 [0,1,2,3,4])) fun _ _ => ?_
 refine wg (mpl_back0 (view_View_room.r h1061) (pm 4 [2,0,1,3])) fun _ _ => ?_
 refine wg (VView.shut (p := p0_) (m := a0) (g1058.1, g1058.2) h1059 (pm 3 [1,0,2])) fun _ _ => ?_
 obtain rfl := Gets.out H
 exact rt i2 rfl () 2 [1,0] 1 (.cons (res_cells rfl Tryz.underlying61 rfl c61 (mem_at 1 rfl) rfl) (.cons (res_tmp rfl) .nil))
theorem concourseref10_Position.c {k : Nat} {a0 : RView} {a1 : ByteArray} {a2 : ByteArray} {r : Pos × Bool} (h : concourseref10_Position.f k a0 a1 a2 = some r) : Pt Tryz.prog 30 [agg (RView.enc a0), vS a1, vS a2] (tup [agg (Pos.enc r.1), vB r.2]) := by
 unfold concourseref10_Position.f at h
 refine (Tr.body Tryz.func30 (c := _) rfl Tryz.ntmps30 (Nat.le_of_ble_eq_true rfl) fun R0 F => ?_).pt
 replace h := Gets.of h
 have H := h
 clear h
 refine WP.seq <| rg 3 3 <| Dv.box rfl trivial rfl cA nofun fun b1067 => al rfl trivial zc61 nofun fun b1068 => as0 rfl rfl <| .fin <| WP.seq <| rg 5 24 <| lds 1 rfl trivial rfl sg28 rfl rfl <| mv0 rfl rfl <| el H fun t1069 h1070 H => cl rfl cal10 rfl (concourseref10_Of.c h1070) <| al rfl trivial zc36 nofun fun b1071 => sx 0 rfl trivial rfl rfl cA sz36 rfl rfl rfl nofun ?_
 refine .fin <| WP.seq <| WP.seq <| rg 4 0 <| lds 0 rfl trivial rfl sg36 rfl rfl <| mv0 rfl rfl <| el H fun t1072 h1073 H => cl rfl cal69 rfl (concourseref07_At.c h1073) <| bn0 rfl rfl rfl run_lt <| .fin <| cd H rfl (fun _ H => ?_) (fun _ H => ?_)
 ·
  refine WP.seq <| rg 3 2 <| Dv.bld (css := []) rfl trivial Tryz.underlying61 pl61 z61 rfl trivial rfl rfl <| sx 1 rfl trivial rfl rfl cA sz61 rfl rfl rfl nofun ?_
  refine as0 rfl rfl <| .fin ?_
  obtain rfl := Gets.out H
  exact rt i2 rfl () 3 [0,1,2] 3 (.cons (res_cells rfl Tryz.underlying61 rfl c61 (mem_at 1 rfl) rfl) (.cons (res_tmp rfl) .nil))
 refine WP.skip <| WP.seq <| rg 5 8 <| lds 0 rfl trivial rfl sg36 rfl rfl <| mv0 rfl rfl <| el H fun t1075 h1076 H => cl rfl cal57 rfl (concourseref07_Position.c h1076) <| sx 1 rfl trivial rfl rfl cA sz61 rfl rfl rfl nofun ?_
 refine as0 rfl rfl <| .fin ?_
 obtain rfl := Gets.out H
 exact rt i2 rfl () 3 [0,1,2] 3 (.cons (res_cells rfl Tryz.underlying61 rfl c61 (mem_at 1 rfl) rfl) (.cons (res_tmp rfl) .nil))
theorem member_joined.c {k : Nat} {a0 : DDag} {v0_0 : OV} {b0_ : Nat} {r : (List (ByteArray × Int))} (h : member_joined.f k a0 = some r) : Tr Tryz.prog 97 [eq (.pointer (some ⟨b0_, 0, none⟩))] [blk b0_ 102 [vS a0.froom, eq v0_0.1], mpo Value.string DNode.O v0_0.1 a0.fnodes] (γ := OV) (fun _ => True) (fun g => eq g.1) (fun g => [blk b0_ 102 [vS a0.froom, eq v0_0.1], mpo Value.string DNode.O v0_0.1 a0.fnodes, mp Value.string (fun x : Int => vI x) g.1 r]) := by
 unfold member_joined.f at h
 refine Tr.body Tryz.func97 (c := _) rfl Tryz.ntmps97 (Nat.le_of_ble_eq_true rfl) fun R0 F => ?_
 replace h := Gets.of h
 have H := h
 clear h
 refine WP.seq <| rg 1 0 <| as0 rfl rfl <| .fin <| WP.seq <| rg 2 1 <| Dv.mmk Value.string (fun x : Int => vI x) rfl trivial nofun (fun v1077 => ?_)
 refine as0 rfl rfl <| .fin <| WP.seqn H (fun q1093 : (Int × Int × Bool × (List (ByteArray × Int)) × (List Event)) × OV => q1093.1) (fun q1093 : (Int × Int × Bool × (List (ByteArray × Int)) × (List Event)) × OV => [(0, eq (.pointer (some ⟨b0_, 0, none⟩))), (2, eq (.map none)), (3, eq v1077.1), (8, eq q1093.2.1), (9, vI q1093.1.1), (10, vI q1093.1.2.1), (11, vB q1093.1.2.2.1)]) (fun q1093 : (Int × Int × Bool × (List (ByteArray × Int)) × (List Event)) × OV => [blk b0_ 102 [vS a0.froom, eq v0_0.1], mpo Value.string DNode.O v0_0.1 a0.fnodes, mp Value.string (fun x : Int => vI x) v1077.1 q1093.1.2.2.2.1, own Event.K q1093.2.1 q1093.1.2.2.2.2] ++ F) (fun q1093 H => ?_) (fun H => ?_)
 ·
  obtain ⟨p1078, v1079⟩ := q1093
  refine WP.seq <| rg 2 0 <| mv0 rfl rfl <| as0 rfl rfl <| .fin ?_
  obtain rfl := Gets.out H
  exact rt i2 rfl v1077 4 [3,0,1,2] 1 (.cons (res_tmp rfl) .nil)
 refine WP.seq <| rg 4 2 <| mv0 rfl rfl <| el H fun t1080 h1081 H => cx 3 [1,2,0] cal55 (dag_Dag_All.c h1081 (b0_ := b0_) (v0_0 := v0_0)) nofun fun g1082 _ => ?_
 refine Dv.lenw rfl trivial rfl (mem_at 2 rfl) Tryz.underlying23 <| mv0 rfl rfl <| .fin <| WP.block <| wg (sg 4 [0,1,2,3] 0) fun _ _ => ?_
 refine lp (fun j_ (p1092 : Int × (List (ByteArray × Int))) => member_joined.l0 k t1080 j_ p1092.1 p1092.2) (0, ([] : List (ByteArray × Int))) H (fun p1092 => [(0, eq (.pointer (some ⟨b0_, 0, none⟩))), (2, eq (.map none)), (3, eq v1077.1), (8, eq g1082.1), (9, vI (t1080.length : Int)), (10, vI p1092.1)]) (fun p1092 => [blk b0_ 102 [vS a0.froom, eq v0_0.1], mpo Value.string DNode.O v0_0.1 a0.fnodes, own Event.K g1082.1 t1080, mp Value.string (fun x : Int => vI x) v1077.1 p1092.2] ++ F) ?_
 rintro j_ ⟨x1083, x1084⟩ H
 rcases j_ with _ | j1091
 ·
  exact (Gets.no H).elim
 replace H : Gets (member_joined.l0 k t1080 (j1091 + 1) x1083 x1084) _ := H
 rw [member_joined.l0] at H
 refine WP.seq <| rg 1 0 <| bn0 rfl rfl rfl run_lt <| .fin <| WP.seq <| cd H rfl (fun _ H => ?_) (fun _ H => ?_)
 rotate_left
 ·
  refine WP.exit ?_
  replace H := Gets.out H
  refine ng (sg 4 [0,1,3,2] 0) fun _ _ => ?_
  exact jn (((t1080.length : Int), x1083, decide (x1083 < (t1080.length : Int)), x1084, t1080), g1082) H
 refine WP.skip <| WP.seq <| WP.block <| WP.seq <| rg 4 12 <| gr H fun g1086 H => ?_
 have h1087 : x1083.toNat < t1080.length := idx_lt g1086
 refine Dv.ixw rfl trivial rfl (mem_at 2 rfl) rfl Tryz.underlying23 Tryz.underlying33 c33 g1086.1 g1086.2 <| Dv.ldws (j := x1083.toNat) (f := 0) rfl trivial rfl (mem_at 2 rfl) h1087 Tryz.underlying33 rfl c33 (Nat.le_of_ble_eq_true rfl) <| al rfl trivial zc33 nofun fun b1088 => sx 0 rfl trivial rfl rfl cA sz33 rfl rfl rfl nofun ?_
 refine .fin <| WP.seq <| rg 2 0 <| fb rfl trivial rfl fa33_5 <| ld 0 rfl trivial rfl sc3 rfl rfl <| .fin <| WP.block <| WP.seq <| rg 2 0 <| bn0 rfl rfl rfl run_eq <| as0 rfl rfl <| .fin <| cd H rfl (fun _ H => ?_) (fun _ H => ?_)
 ·
  refine rg 4 8 <| mv0 rfl rfl <| fb rfl trivial rfl fa33_4 <| ld 0 rfl trivial rfl sc9 rfl rfl <| Dv.mup (jj := 4) 1 rfl trivial rfl rfl rfl rfl Tryz.underlying118 (keyOk_str Tryz.underlying9) nofun <| .fin <| rg 2 0 <| bn0 rfl rfl rfl run_add <| mv0 rfl rfl <| .fin <| ng (sg 5 [0,1,2,3,4] 1) fun _ _ => ?_
  exact bk j1091 (w64 (x1083 + 1), mput x1084 ((t1080.getD x1083.toNat default).fUser) 1) H
 refine WP.seq <| rg 2 0 <| bn0 rfl rfl rfl run_eq <| as0 rfl rfl <| .fin <| cd H rfl (fun _ H => ?_) (fun _ H => ?_)
 rotate_left
 ·
  refine WP.skip <| rg 2 0 <| bn0 rfl rfl rfl run_add <| mv0 rfl rfl <| .fin <| ng (sg 5 [0,1,2,3,4] 1) fun _ _ => ?_
  exact bk j1091 (w64 (x1083 + 1), x1084) H
 refine rg 4 8 <| mv0 rfl rfl <| fb rfl trivial rfl fa33_4 <| ld 0 rfl trivial rfl sc9 rfl rfl <| Dv.mdl (jj := 4) rfl trivial rfl rfl rfl Tryz.underlying118 (keyOk_str Tryz.underlying9) nofun <| .fin <| rg 2 0 <| bn0 rfl rfl rfl run_add <| mv0 rfl rfl <| .fin <| ng (sg 5 [0,1,2,3,4] 1) fun _ _ => ?_
 exact bk j1091 (w64 (x1083 + 1), mdel x1084 ((t1080.getD x1083.toNat default).fUser)) H
theorem member_Users.c {k : Nat} {a0 : DDag} {b0_ : Nat} {v0_0 : OV} {r : List ByteArray} (h : member_Users.f k a0 = some r) : Tr Tryz.prog 70 [eq (.pointer (some ⟨b0_, 0, none⟩))] [blk b0_ 102 [vS a0.froom, eq v0_0.1], mpo Value.string DNode.O v0_0.1 a0.fnodes] (γ := OV) (fun _ => True) (fun g => eq g.1) (fun g => [blk b0_ 102 [vS a0.froom, eq v0_0.1], mpo Value.string DNode.O v0_0.1 a0.fnodes, own strK g.1 r]) := by
  unfold member_Users.f at h
  obtain ⟨m, hm, h1⟩ := (Gets.of h).call
  obtain ⟨h0, h5⟩ := h1.grd
  obtain rfl := Gets.out h5
  clear h h5
  refine Tr.body Tryz.func70 (c := _) rfl Tryz.ntmps70 (Nat.le_of_ble_eq_true rfl) fun R0 F => ?_
  refine WP.seq <| rg 1 0 <| as0 rfl rfl <| .fin <| WP.seq <| rg 1 0 <| as0 rfl rfl <| .fin ?_
  refine WP.seqj (β := List Nat × OV) (fun b => b.1.Perm (List.range m.length)) (fun b => [(3, eq b.2.1)]) (fun b => [own strK b.2.1 (selM m (fun e => some e.1) b.1), blk b0_ 102 [vS a0.froom, eq v0_0.1], mpo Value.string DNode.O v0_0.1 a0.fnodes] ++ F) (fun b hb => ?_) ?_
  rotate_left
  · refine WP.seq <| rg 3 6 <| mv0 rfl rfl <| cx 2 [0,1] cal97 (member_joined.c hm (b0_ := b0_) (v0_0 := v0_0)) nofun fun gm _ => ?_
    refine Dv.gh (l' := fun _ : Unit => [blk b0_ 102 [vS a0.froom, eq v0_0.1], mpo Value.string DNode.O v0_0.1 a0.fnodes, mp Value.string (fun x : Int => vI x) gm.1 m] ++ F) (gh_of (ok := fun _ => True) fun R w k => ⟨(), trivial, k⟩) (fun _ _ => ?_)
    refine Dv.gh (l' := fun _ : Unit => [mp Value.string (fun x : Int => vI x) gm.1 m, blk b0_ 102 [vS a0.froom, eq v0_0.1], mpo Value.string DNode.O v0_0.1 a0.fnodes] ++ F) (gh_of (st_selgn 3 [2,0,1] 0 (by kernel_rfl) rfl rfl)) (fun _ _ => ?_)
    refine Dv.rgb (jj := 0) rfl trivial rfl rfl Tryz.underlying118 nofun (fun q => .fin ?_)
    refine WP.gh (l' := fun _ : Unit => [rng Value.string (fun x : Int => vI x) gm.1 q.1 m [], blk b0_ 102 [vS a0.froom, eq v0_0.1], mpo Value.string DNode.O v0_0.1 a0.fnodes] ++ F) (gh_of (ok := fun _ => True) fun R w k => ⟨(), trivial, k⟩) (fun _ _ => ?_)
    refine WP.gh (l' := fun _ : Unit => [own strK nilV.1 [], rng Value.string (fun x : Int => vI x) gm.1 q.1 m [], blk b0_ 102 [vS a0.froom, eq v0_0.1], mpo Value.string DNode.O v0_0.1 a0.fnodes] ++ F) (gh_of (st_nil strK none)) (fun _ _ => ?_)
    refine WP.block ?_
    refine WP.weak (E' := (fun b : List Nat × OV => [(3, eq b.2.1), (7, eq q.1)]) ([], nilV)) (weak_cons rfl (weak_cons rfl weak_nil)) (WP.loop (β := List Nat × OV) (fun k b => b.1.length + k = m.length) (fun b => [(3, eq b.2.1), (7, eq q.1)]) (fun b => [own strK b.2.1 (selM m (fun e => some e.1) b.1), rng Value.string (fun x : Int => vI x) gm.1 q.1 m b.1, blk b0_ 102 [vS a0.froom, eq v0_0.1], mpo Value.string DNode.O v0_0.1 a0.fnodes] ++ F) ?_ (k := m.length) (b := ([], nilV)) (Nat.zero_add _))
    rintro k ⟨is, v⟩ hk
    replace hk : is.length + k = m.length := hk
    refine WP.seq <| rg 2 1 <| Dv.rgn (jj := 1) rfl trivial rfl rfl nofun (fun z hz => ?_)
    rcases z with _ | j
    · have hz : is.Perm (List.range m.length) := hz
      refine ex0 rfl trivial rfl rfl <| .fin <| WP.seq <| WP.cond rfl nofun (fun _ => WP.exit ?_)
      refine Dn.gh (l' := fun _ : Unit => [own strK v.1 (selM m (fun e => some e.1) is), rng Value.string (fun x : Int => vI x) gm.1 q.1 m is, blk b0_ 102 [vS a0.froom, eq v0_0.1], mpo Value.string DNode.O v0_0.1 a0.fnodes] ++ F) (gh_of (ok := fun _ => True) fun R w k => ⟨(), trivial, k⟩) (fun _ _ => ?_)
      refine Dn.gh (l' := fun _ : Unit => [mp Value.string (fun x : Int => vI x) gm.1 m, own strK v.1 (selM m (fun e => some e.1) is), blk b0_ 102 [vS a0.froom, eq v0_0.1], mpo Value.string DNode.O v0_0.1 a0.fnodes] ++ F) (gh_of (st_rge (pm 4 [1,0,2,3]))) (fun _ _ => ?_)
      refine Dn.gh (l' := fun _ : Unit => [own strK v.1 (selM m (fun e => some e.1) is), blk b0_ 102 [vS a0.froom, eq v0_0.1], mpo Value.string DNode.O v0_0.1 a0.fnodes] ++ F) (gh_of (st_selgn 4 [0,1,2,3] 1 (by kernel_rfl) rfl rfl)) (fun _ _ => ?_)
      exact Jn.mk (is, v) hz (weak_cons rfl weak_nil) (List.Perm.refl _)
    have hz : j < m.length ∧ j ∉ is ∧ is.length < m.length := hz
    obtain ⟨e, he⟩ : ∃ e, m[j]? = some e := ⟨_, List.getElem?_eq_getElem hz.1⟩
    have hep := he
    have hlt := hz.2.2
    have hsl := Nat.le_trans (selM_len (m := m) (f := (fun e => some e.1)) (is := is)) (Nat.le_of_lt hlt)
    have e1 : nxV Value.string (fun x : Int => vI x) m (some j) = tup [vB true, vS e.1, vI e.2] := by simp only [nxV, hep]
    rw [e1]
    refine ex0 rfl trivial rfl rfl <| .fin <| WP.seq <| WP.cond rfl (fun _ => WP.skip ?_) nofun
    refine WP.gh (l' := fun _ : Unit => [own strK v.1 (selM m (fun e => some e.1) is), rng Value.string (fun x : Int => vI x) gm.1 q.1 m (is ++ [j]), blk b0_ 102 [vS a0.froom, eq v0_0.1], mpo Value.string DNode.O v0_0.1 a0.fnodes] ++ F) (gh_of (ok := fun _ => True) fun R w k => ⟨(), trivial, k⟩) (fun _ _ => ?_)
    refine WP.block <| WP.seq <| rg 3 0 <| Dv.rge 1 rfl trivial rfl rfl hep ?_
    refine ex0 rfl trivial rfl rfl <| as0 rfl rfl <| .fin ?_
    have e6 := selM_some (f := (fun e => some e.1)) (is := is) he rfl
    have hbd : (selM m (fun e => some e.1) is).length + ([e.1] : List ByteArray).length ≤ 9223372036854775807 ∧ ((selM m (fun e => some e.1) is).length + ([e.1] : List ByteArray).length) * 16 ≤ 140737488355328 := by rw [List.length_singleton]; omega
    refine rg 5 8 <| mv0 rfl rfl <| mv0 rfl rfl <| Dv.lit strK ([e.1] : List ByteArray) (css := [[vS e.1]]) rfl trivial Tryz.underlying31 Tryz.underlying9 c9 z9 rfl (by decide) (by decide) rfl ⟨(cells_one (one_eq rfl)), trivial⟩ rfl rfl rfl <| ap strK 0 ([e.1] : List ByteArray) src_sl Tryz.underlying31 (.inr ⟨_, Tryz.underlying31⟩) inf9 hbd nofun fun v9 => as0 rfl rfl <| .fin ?_
    rw [e6]
    exact Back.mk (k - 1) (is ++ [j], v9) (by omega) (by show (is ++ [j]).length + (k - 1) = _; rw [List.length_append, List.length_singleton]; omega) (weak_cons rfl (weak_cons rfl weak_nil)) (List.Perm.refl _)
  obtain ⟨is, v3⟩ := b
  replace hb : is.Perm (List.range m.length) := hb
  have hp := selM_perm (f := (fun e => some e.1)) hb
  have hs : slices_Sort_string.f (selM m (fun e => some e.1) is) = some (srtS (m.map (·.1))) := by
    have e7 : m.filterMap (fun e => some e.1) = m.map (·.1) := by rw [← List.filterMap_eq_map]; rfl
    rw [e7] at hp
    unfold slices_Sort_string.f Sp.grd
    rw [if_pos (by rw [hp.length_eq, List.length_map]; omega), srtS_eq hp]
  refine WP.seq <| rg 2 2 <| mv0 rfl rfl <| cx 3 [0,1,2] cal59 (slices_Sort_string.c hs (p0_ := v3)) nofun fun _ _ => .fin ?_
  refine WP.seq <| rg 2 0 <| mv0 rfl rfl <| as0 rfl rfl <| .fin <| rt i2 rfl v3 3 [1,2,0] 0 (.cons (res_tmp rfl) .nil)
theorem view_View_Users.c {k : Nat} {a0 : VView} {a1 : ByteArray} {p0_ : OV} {r : (List ByteArray)} (h : view_View_Users.f k a0 a1 = some r) : Tr Tryz.prog 31 [eq p0_.1, vS a1] [VView.O p0_ a0] (γ := OV) (fun _ => True) (fun g => eq g.1) (fun g => [VView.O p0_ a0, own strK g.1 r]) := by
 unfold view_View_Users.f at h
 refine Tr.body Tryz.func31 (c := _) rfl Tryz.ntmps31 (Nat.le_of_ble_eq_true rfl) fun R0 F => ?_
 replace h := Gets.of h
 have H := h
 clear h
 refine WP.seq <| rg 1 0 <| as0 rfl rfl <| .fin <| WP.seq <| rg 5 12 <| mv0 rfl rfl <| mv0 rfl rfl <| vg (VView.opn 0 rfl) fun g1094 h1095 => ?_
 refine el H fun t1096 h1097 H => cx 2 [0,1] cal52 (Tr.weak (view_View_room.c h1097 (b0_ := g1094.1) (v0_0 := g1094.2)) (.cons (wk_ptr h1095) (.cons wk_id .nil))) nofun fun v1098 _ => ?_
 refine vg (DDag.opn 2 rfl) fun g1099 h1100 => ?_
 refine el H fun t1101 h1102 H => cx 4 [0,1,2,3] cal70 (Tr.weak (member_Users.c h1102 (b0_ := g1099.1) (v0_0 := g1099.2)) (.cons (wk_ptr h1100) .nil)) nofun fun g1103 _ => ?_
 refine as0 rfl rfl <| .fin <| wg (DDag.shut (p := v1098) (m := t1096) (g1099.1, g1099.2) h1100 (pm 5 [0,1,2,3,4])) fun _ _ => ?_
 refine wg (mpl_back0 (view_View_room.r h1097) (pm 4 [3,0,1,2])) fun _ _ => ?_
 refine wg (VView.shut (p := p0_) (m := a0) (g1094.1, g1094.2) h1095 (pm 3 [2,0,1])) fun _ _ => ?_
 obtain rfl := Gets.out H
 exact rt i2 rfl g1103 2 [0,1] 0 (.cons (res_tmp rfl) .nil)
theorem concourseref09_Last.c {k : Nat} {a0 : RDag} {a1 : ByteArray} {r : Event × Bool} (h : concourseref09_Last.f k a0 a1 = some r) : Pt Tryz.prog 98 [agg (RDag.enc a0), vS a1] (tup [agg (Event.enc r.1), vB r.2]) := by
 unfold concourseref09_Last.f at h
 refine (Tr.body Tryz.func98 (c := _) rfl Tryz.ntmps98 (Nat.le_of_ble_eq_true rfl) fun R0 F => ?_).pt
 replace h := Gets.of h
 have H := h
 clear h
 refine WP.seq <| rg 3 3 <| Dv.box rfl trivial rfl cA nofun fun b1104 => al rfl trivial zc33 nofun fun b1105 => as0 rfl rfl <| .fin <| WP.seq <| rg 1 0 <| as0 rfl rfl <| .fin <| WP.seqn H id (fun p1106 : Int × Int × Bool => [(0, agg (RDag.enc a0)), (1, vS a1), (2, eq (.pointer (some ⟨b1104, 0, none⟩))), (4, eq (.pointer (some ⟨b1105, 0, none⟩))), (5, vB false), (6, vI p1106.1), (7, vI p1106.2.1), (13, vB p1106.2.2)]) (fun p1106 : Int × Int × Bool => [blk b1105 33 [vS (⟨#[]⟩ : ByteArray), vS (⟨#[]⟩ : ByteArray), eq (.slice none 0 0), vS (⟨#[]⟩ : ByteArray), vS (⟨#[]⟩ : ByteArray), vI 0], blk b1104 36 (RDag.enc a0)] ++ F) (fun p1106 H => ?_) (fun H => ?_)
 ·
  refine WP.seq <| WP.seq <| rg 2 0 <| mv0 rfl rfl <| bn0 rfl rfl rfl run_lt <| .fin <| cd H rfl (fun _ H => ?_) (fun _ H => ?_)
  ·
   refine WP.seq <| rg 3 2 <| Dv.bld (css := []) rfl trivial Tryz.underlying33 pl33 z33 rfl trivial rfl rfl <| sx 0 rfl trivial rfl rfl cA sz33 rfl rfl rfl nofun ?_
   refine as0 rfl rfl <| .fin ?_
   obtain rfl := Gets.out H
   exact rt i2 rfl () 2 [0,1] 2 (.cons (res_wk (res_cells rfl Tryz.underlying33 rfl c33 (mem_at 0 rfl) rfl) (wk_agg (.cons wk_id (.cons wk_id (.cons wk_nil (.cons wk_id (.cons wk_id (.cons wk_id .nil)))))))) (.cons (res_tmp rfl) .nil))
  refine WP.skip <| WP.seq <| rg 7 32 <| fb rfl trivial rfl fa36_1 <| ld 1 rfl trivial rfl sc23 rfl rfl <| mv0 rfl rfl <| gr H fun g1108 H => Dv.ixr rfl trivial rfl rfl Tryz.underlying23 Tryz.underlying33 c33 g1108.1 g1108.2 <| ldsR rfl trivial rfl sg33 rfl <| sx 0 rfl trivial rfl rfl cA sz33 rfl rfl rfl nofun ?_
  refine as0 rfl rfl <| .fin ?_
  obtain rfl := Gets.out H
  exact rt i2 rfl () 2 [0,1] 2 (.cons (res_cells rfl Tryz.underlying33 rfl c33 (mem_at 0 rfl) rfl) (.cons (res_tmp rfl) .nil))
 refine WP.seq <| rg 1 0 <| as0 rfl rfl <| .fin <| WP.block <| wg (sg 2 [0,1] 0) fun _ _ => ?_
 refine lp (fun j_ (p1128 : Int × Int) => concourseref09_Last.l0 k a0 a1 j_ p1128.1 p1128.2) ((-1), 0) H (fun p1128 => [(0, agg (RDag.enc a0)), (1, vS a1), (2, eq (.pointer (some ⟨b1104, 0, none⟩))), (4, eq (.pointer (some ⟨b1105, 0, none⟩))), (5, vB false), (6, vI p1128.1), (7, vI p1128.2)]) (fun p1128 => [blk b1105 33 [vS (⟨#[]⟩ : ByteArray), vS (⟨#[]⟩ : ByteArray), eq (.slice none 0 0), vS (⟨#[]⟩ : ByteArray), vS (⟨#[]⟩ : ByteArray), vI 0], blk b1104 36 (RDag.enc a0)] ++ F) ?_
 rintro j_ ⟨x1109, x1110⟩ H
 rcases j_ with _ | j1127
 ·
  exact (Gets.no H).elim
 replace H : Gets (concourseref09_Last.l0 k a0 a1 (j1127 + 1) x1109 x1110) _ := H
 rw [concourseref09_Last.l0] at H
 refine WP.seq <| WP.seq <| rg 5 0 <| mv0 rfl rfl <| fb rfl trivial rfl fa36_1 <| ld 1 rfl trivial rfl sc23 rfl rfl <| Dv.lenl rfl trivial rfl Tryz.underlying23 <| bn0 rfl rfl rfl run_lt <| .fin <| cd H rfl (fun _ H => ?_) (fun _ H => ?_)
 rotate_left
 ·
  refine WP.exit ?_
  replace H := Gets.out H
  exact jn (x1109, x1110, decide (x1110 < (a0.fL.length : Int))) H
 refine WP.skip <| WP.seq <| WP.block <| WP.seq <| WP.seq <| rg 17 0 <| fb rfl trivial rfl fa36_1 <| ld 1 rfl trivial rfl sc23 rfl rfl <| mv0 rfl rfl <| gr H fun g1112 H => Dv.ixr rfl trivial rfl rfl Tryz.underlying23 Tryz.underlying33 c33 g1112.1 g1112.2 <| fr rfl trivial rfl fa33_4 rfl <| ldR rfl trivial rfl sc9 rfl <| mv0 rfl rfl <| bn0 rfl rfl rfl run_sne <| mv0 rfl rfl ?_
 cases c1113 : !decide (((Event.K.at a0.fL x1110).fUser) = a1)
 rotate_left
 ·
  replace H := Gets.ct H c1113
  refine sk rfl rfl <| sk rfl rfl <| sk rfl rfl <| sk rfl rfl <| sk rfl rfl <| sk rfl rfl <| sk rfl rfl <| pt0 rfl rfl rfl <| .fin <| WP.cond rfl (fun _ => ?_) nofun
  exact WP.exit <| rg 3 0 <| mv0 rfl rfl <| bn0 rfl rfl rfl run_add <| as0 rfl rfl <| .fin <| bk j1127 (x1109, w64 (x1110 + 1)) H
 replace H := Gets.cf H c1113
 refine fb rfl (gg rfl) rfl fa36_1 <| ld 1 rfl (gg rfl) rfl sc23 rfl rfl <| mvg rfl rfl rfl <| gr H fun g1115 H => Dv.ixr rfl (gg rfl) rfl rfl Tryz.underlying23 Tryz.underlying33 c33 g1115.1 g1115.2 <| fr rfl (gg rfl) rfl fa33_5 rfl <| ldR rfl (gg rfl) rfl sc3 rfl <| bng rfl rfl rfl rfl run_eq <| pf0 rfl rfl rfl <| .fin <| cd H rfl (fun _ H => ?_) (fun _ H => ?_)
 ·
  exact WP.exit <| rg 3 0 <| mv0 rfl rfl <| bn0 rfl rfl rfl run_add <| as0 rfl rfl <| .fin <| bk j1127 (x1109, w64 (x1110 + 1)) H
 refine WP.skip <| WP.seq <| WP.seq <| rg 2 0 <| mv0 rfl rfl <| bn0 rfl rfl rfl run_lt <| .fin <| cd H rfl (fun _ H => ?_) (fun _ H => ?_)
 ·
  exact WP.seq <| rg 2 0 <| mv0 rfl rfl <| as0 rfl rfl <| .fin <| WP.exit <| rg 3 0 <| mv0 rfl rfl <| bn0 rfl rfl rfl run_add <| as0 rfl rfl <| .fin <| bk j1127 (x1110, w64 (x1110 + 1)) H
 refine WP.skip <| WP.seq <| dg Tryz.checked.mixed 18 0 <| lds 1 rfl trivial rfl sg36 rfl rfl <| fb rfl trivial rfl fa36_1 <| ld 1 rfl trivial rfl sc23 rfl rfl <| mv0 rfl rfl <| gr H fun g1118 H => Dv.ixr rfl trivial rfl rfl Tryz.underlying23 Tryz.underlying33 c33 g1118.1 g1118.2 <| fr rfl trivial rfl fa33_0 rfl <| ldR rfl trivial rfl sc9 rfl <| el H fun t1119 h1120 H => cl rfl cal57 rfl (concourseref07_Position.c h1120) <| lds 1 rfl trivial rfl sg36 rfl rfl <| fb rfl trivial rfl fa36_1 <| ld 1 rfl trivial rfl sc23 rfl rfl <| mv0 rfl rfl <| gr H fun g1121 H => Dv.ixr rfl trivial rfl rfl Tryz.underlying23 Tryz.underlying33 c33 g1121.1 g1121.2 <| fr rfl trivial rfl fa33_0 rfl <| ldR rfl trivial rfl sc9 rfl <| el H fun t1122 h1123 H => cl rfl cal57 rfl (concourseref07_Position.c h1123) <| el H fun t1124 h1125 H => cl rfl cal56 rfl (concourseref07_Before.c h1125) <| as0 rfl rfl <| .fin <| WP.seq <| rg 1 0 <| mv0 rfl rfl <| .fin <| cd H rfl (fun _ H => ?_) (fun _ H => ?_)
 rotate_left
 ·
  exact WP.skip <| rg 3 0 <| mv0 rfl rfl <| bn0 rfl rfl rfl run_add <| as0 rfl rfl <| .fin <| bk j1127 (x1109, w64 (x1110 + 1)) H
 exact rg 2 0 <| mv0 rfl rfl <| as0 rfl rfl <| .fin <| rg 3 0 <| mv0 rfl rfl <| bn0 rfl rfl rfl run_add <| as0 rfl rfl <| .fin <| bk j1127 (x1110, w64 (x1110 + 1)) H
theorem concourseref09_Joined.c {k : Nat} {a0 : RDag} {a1 : ByteArray} {r : Bool} (h : concourseref09_Joined.f k a0 a1 = some r) : Pt Tryz.prog 71 [agg (RDag.enc a0), vS a1] (vB r) := by
 unfold concourseref09_Joined.f at h
 refine (Tr.body Tryz.func71 (c := _) rfl Tryz.ntmps71 (Nat.le_of_ble_eq_true rfl) fun R0 F => ?_).pt
 replace h := Gets.of h
 have H := h
 clear h
 refine WP.seq <| rg 2 1 <| Dv.box rfl trivial rfl cA nofun fun b1129 => as0 rfl rfl <| .fin <| WP.seq <| rg 9 192 <| lds 0 rfl trivial rfl sg36 rfl rfl <| mv0 rfl rfl <| el H fun t1130 h1131 H => cl rfl cal98 rfl (concourseref09_Last.c h1131) <| mv0 rfl rfl <| ex0 rfl trivial rfl rfl <| ex0 rfl trivial rfl rfl <| al rfl trivial zc33 nofun fun b1132 => sx 0 rfl trivial rfl rfl cA sz33 rfl rfl rfl nofun ?_
 refine as0 rfl rfl <| .fin <| WP.seq <| rg 7 0 <| mv0 rfl rfl <| mv0 rfl rfl ?_
 cases c1133 : t1130.2
 ·
  replace H := Gets.cf H c1133
  refine sk rfl rfl <| sk rfl rfl <| sk rfl rfl <| pf0 rfl rfl rfl <| as0 rfl rfl <| .fin ?_
  obtain rfl := Gets.out H
  exact rt i2 rfl () 2 [0,1] 2 (.cons (res_tmp rfl) .nil)
 replace H := Gets.ct H c1133
 refine fb rfl (gg rfl) rfl fa33_5 <| ld 0 rfl (gg rfl) rfl sc3 rfl rfl <| bng rfl rfl rfl rfl run_eq <| pt0 rfl rfl rfl <| as0 rfl rfl <| .fin ?_
 obtain rfl := Gets.out H
 exact rt i2 rfl () 2 [0,1] 2 (.cons (res_tmp rfl) .nil)
theorem concourseref09_Put.c {k : Nat} {a0 : List ByteArray} {a1 : ByteArray} {r : (List ByteArray)} (h : concourseref09_Put.f k a0 a1 = some r) : Tr Tryz.prog 72 [sl strK a0, vS a1] [] (γ := OV) (fun _ => True) (fun g => eq g.1) (fun g => [own strK g.1 r]) := by
 unfold concourseref09_Put.f at h
 refine Tr.body Tryz.func72 (c := _) rfl Tryz.ntmps72 (Nat.le_of_ble_eq_true rfl) fun R0 F => ?_
 replace h := Gets.of h
 have H := h
 clear h
 refine WP.seq <| rg 1 0 <| as0 rfl rfl <| .fin <| WP.seq <| rg 1 0 <| as0 rfl rfl <| .fin <| WP.seq <| rg 1 0 <| as0 rfl rfl <| .fin <| WP.seqn H (fun q1160 : (Bool × Int × Bool × (List ByteArray)) × OV => q1160.1) (fun q1160 : (Bool × Int × Bool × (List ByteArray)) × OV => [(0, sl strK a0), (1, vS a1), (4, eq (.slice none 0 0)), (5, eq q1160.2.1), (6, vB q1160.1.1), (7, vI q1160.1.2.1), (11, vB q1160.1.2.2.1)]) (fun q1160 : (Bool × Int × Bool × (List ByteArray)) × OV => [own strK q1160.2.1 q1160.1.2.2.2] ++ F) (fun q1160 H => ?_) (fun H => ?_)
 ·
  obtain ⟨p1134, v1135⟩ := q1160
  refine WP.seq <| WP.seq <| rg 2 0 <| mv0 rfl rfl <| un0 rfl rfl (run_not _) <| .fin <| cd H rfl (fun _ H => ?_) (fun _ H => ?_)
  rotate_left
  ·
   refine WP.skip <| WP.seq <| rg 2 0 <| mv0 rfl rfl <| as0 rfl rfl <| .fin ?_
   obtain rfl := Gets.out H
   exact rt i2 rfl v1135 1 [0] 0 (.cons (res_tmp rfl) .nil)
  refine rg 5 8 <| mv0 rfl rfl <| mv0 rfl rfl <| Dv.lit strK ([a1] : List ByteArray) (css := [[vS a1]]) rfl trivial Tryz.underlying31 Tryz.underlying9 c9 z9 rfl (by decide) (by decide) rfl ⟨(cells_one (one_eq rfl)), trivial⟩ rfl rfl rfl <| gr H fun g1137 H => ap strK 0 ([a1] : List ByteArray) src_sl Tryz.underlying31 (.inr ⟨_, Tryz.underlying31⟩) inf9 g1137 nofun fun v1138 => ?_
  refine as0 rfl rfl <| .fin <| WP.seq <| rg 2 0 <| mv0 rfl rfl <| as0 rfl rfl <| .fin ?_
  obtain rfl := Gets.out H
  exact rt i2 rfl v1138 1 [0] 0 (.cons (res_tmp rfl) .nil)
 refine WP.seq <| rg 1 0 <| as0 rfl rfl <| .fin <| WP.block <| wg (st_nil strK none) fun _ _ => ?_
 refine wg (sg 1 [0] 0) fun _ _ => ?_
 refine lp (fun j_ (p1159 : Bool × Int × (List ByteArray) × OV) => concourseref09_Put.l0 k a0 a1 j_ p1159.1 p1159.2.1 p1159.2.2.1) (false, 0, ([] : List ByteArray), nilV) H (fun p1159 => [(0, sl strK a0), (1, vS a1), (4, eq (.slice none 0 0)), (5, eq p1159.2.2.2.1), (6, vB p1159.1), (7, vI p1159.2.1)]) (fun p1159 => [own strK p1159.2.2.2.1 p1159.2.2.1] ++ F) ?_
 rintro j_ ⟨x1139, x1140, x1141, v1142⟩ H
 rcases j_ with _ | j1158
 ·
  exact (Gets.no H).elim
 replace H : Gets (concourseref09_Put.l0 k a0 a1 (j1158 + 1) x1139 x1140 x1141) _ := H
 rw [concourseref09_Put.l0] at H
 refine WP.seq <| WP.seq <| rg 4 0 <| mv0 rfl rfl <| mv0 rfl rfl <| Dv.lenl rfl trivial rfl Tryz.underlying31 <| bn0 rfl rfl rfl run_lt <| .fin <| cd H rfl (fun _ H => ?_) (fun _ H => ?_)
 rotate_left
 ·
  refine WP.exit ?_
  replace H := Gets.out H
  exact jn ((x1139, x1140, decide (x1140 < (a0.length : Int)), x1141), v1142) H
 refine WP.skip <| WP.seq <| WP.block <| WP.seqn H (fun q1157 : (Bool × Bool × (List ByteArray)) × OV => q1157.1) (fun q1157 : (Bool × Bool × (List ByteArray)) × OV => [(0, sl strK a0), (1, vS a1), (4, eq (.slice none 0 0)), (5, eq q1157.2.1), (6, vB q1157.1.1), (7, vI x1140), (11, vB (decide (x1140 < (a0.length : Int)))), (23, vB q1157.1.2.1)]) (fun q1157 : (Bool × Bool × (List ByteArray)) × OV => [own strK q1157.2.1 q1157.1.2.2] ++ F) (fun q1157 H => ?_) (fun H => ?_)
 ·
  obtain ⟨p1144, v1145⟩ := q1157
  refine WP.seq <| rg 6 0 <| mv0 rfl rfl <| mv0 rfl rfl <| gr H fun g1146 H => Dv.ixr rfl trivial rfl rfl Tryz.underlying31 Tryz.underlying9 c9 g1146.1 g1146.2 <| ldR rfl trivial rfl sc9 rfl <| mv0 rfl rfl <| bn0 rfl rfl rfl run_sne <| .fin <| cd H rfl (fun _ H => ?_) (fun _ H => ?_)
  rotate_left
  ·
   exact WP.skip <| rg 3 0 <| mv0 rfl rfl <| bn0 rfl rfl rfl run_add <| as0 rfl rfl <| .fin <| bk j1158 (p1144.1, w64 (x1140 + 1), p1144.2.2, v1145) H
  refine rg 8 64 <| mv0 rfl rfl <| mv0 rfl rfl <| mv0 rfl rfl <| gr H fun g1148 H => Dv.ixr rfl trivial rfl rfl Tryz.underlying31 Tryz.underlying9 c9 g1148.1 g1148.2 <| ldR rfl trivial rfl sc9 rfl <| Dv.lit strK ([strK.at a0 x1140] : List ByteArray) (css := [[vS (strK.at a0 x1140)]]) rfl trivial Tryz.underlying31 Tryz.underlying9 c9 z9 rfl (by decide) (by decide) rfl ⟨(cells_one (one_eq rfl)), trivial⟩ rfl rfl rfl <| gr H fun g1149 H => ap strK 0 ([strK.at a0 x1140] : List ByteArray) src_sl Tryz.underlying31 (.inr ⟨_, Tryz.underlying31⟩) inf9 g1149 nofun fun v1150 => ?_
  exact as0 rfl rfl <| .fin <| rg 3 0 <| mv0 rfl rfl <| bn0 rfl rfl rfl run_add <| as0 rfl rfl <| .fin <| bk j1158 (p1144.1, w64 (x1140 + 1), p1144.2.2 ++ ([strK.at a0 x1140] : List ByteArray), v1150) H
 refine WP.seq <| rg 10 0 <| mv0 rfl rfl <| un0 rfl rfl (run_not _) <| mv0 rfl rfl ?_
 cases c1151 : !x1139
 ·
  replace H := Gets.cf H c1151
  refine sk rfl rfl <| sk rfl rfl <| sk rfl rfl <| sk rfl rfl <| sk rfl rfl <| sk rfl rfl <| pf0 rfl rfl rfl <| .fin <| WP.cond rfl nofun (fun _ => ?_)
  refine WP.skip ?_
  replace H := Gets.out H
  exact jn ((x1139, false, x1141), v1142) H
 replace H := Gets.ct H c1151
 refine mvg rfl rfl rfl <| mvg rfl rfl rfl <| mvg rfl rfl rfl <| gr H fun g1152 H => Dv.ixr rfl (gg rfl) rfl rfl Tryz.underlying31 Tryz.underlying9 c9 g1152.1 g1152.2 <| ldR rfl (gg rfl) rfl sc9 rfl <| bng rfl rfl rfl rfl run_sle <| pt0 rfl rfl rfl <| .fin <| cd H rfl (fun _ H => ?_) (fun _ H => ?_)
 rotate_left
 ·
  refine WP.skip ?_
  replace H := Gets.out H
  exact jn ((x1139, !sLt (strK.at a0 x1140) a1, x1141), v1142) H
 refine WP.seq <| rg 5 8 <| mv0 rfl rfl <| mv0 rfl rfl <| Dv.lit strK ([a1] : List ByteArray) (css := [[vS a1]]) rfl trivial Tryz.underlying31 Tryz.underlying9 c9 z9 rfl (by decide) (by decide) rfl ⟨(cells_one (one_eq rfl)), trivial⟩ rfl rfl rfl <| gr H fun g1154 H => ap strK 0 ([a1] : List ByteArray) src_sl Tryz.underlying31 (.inr ⟨_, Tryz.underlying31⟩) inf9 g1154 nofun fun v1155 => ?_
 refine as0 rfl rfl <| .fin <| rg 1 0 <| as0 rfl rfl <| .fin ?_
 replace H := Gets.out H
 exact jn ((true, !sLt (strK.at a0 x1140) a1, x1141 ++ ([a1] : List ByteArray)), v1155) H
theorem concourseref09_Users.c {k : Nat} {a0 : RDag} {r : (List ByteArray)} (h : concourseref09_Users.f k a0 = some r) : Tr Tryz.prog 32 [agg (RDag.enc a0)] [] (γ := OV) (fun _ => True) (fun g => eq g.1) (fun g => [own strK g.1 r]) := by
 unfold concourseref09_Users.f at h
 refine Tr.body Tryz.func32 (c := _) rfl Tryz.ntmps32 (Nat.le_of_ble_eq_true rfl) fun R0 F => ?_
 replace h := Gets.of h
 have H := h
 clear h
 refine WP.seq <| rg 2 1 <| Dv.box rfl trivial rfl cA nofun fun b1161 => as0 rfl rfl <| .fin <| WP.seq <| rg 1 0 <| as0 rfl rfl <| .fin <| WP.seqn H (fun q1178 : (Int × Bool × (List ByteArray)) × OV => q1178.1) (fun q1178 : (Int × Bool × (List ByteArray)) × OV => [(0, agg (RDag.enc a0)), (1, eq (.pointer (some ⟨b1161, 0, none⟩))), (2, eq (.slice none 0 0)), (3, eq q1178.2.1), (4, vI q1178.1.1), (10, vB q1178.1.2.1)]) (fun q1178 : (Int × Bool × (List ByteArray)) × OV => [blk b1161 36 (RDag.enc a0), own strK q1178.2.1 q1178.1.2.2] ++ F) (fun q1178 H => ?_) (fun H => ?_)
 ·
  obtain ⟨p1162, v1163⟩ := q1178
  refine WP.seq <| rg 2 0 <| mv0 rfl rfl <| as0 rfl rfl <| .fin ?_
  obtain rfl := Gets.out H
  exact rt i2 rfl v1163 2 [0,1] 1 (.cons (res_tmp rfl) .nil)
 refine WP.seq <| rg 1 0 <| as0 rfl rfl <| .fin <| WP.block <| wg (st_nil strK none) fun _ _ => ?_
 refine wg (sg 2 [1,0] 0) fun _ _ => ?_
 refine lp (fun j_ (p1177 : Int × (List ByteArray) × OV) => concourseref09_Users.l0 k a0 j_ p1177.1 p1177.2.1) (0, ([] : List ByteArray), nilV) H (fun p1177 => [(0, agg (RDag.enc a0)), (1, eq (.pointer (some ⟨b1161, 0, none⟩))), (2, eq (.slice none 0 0)), (3, eq p1177.2.2.1), (4, vI p1177.1)]) (fun p1177 => [blk b1161 36 (RDag.enc a0), own strK p1177.2.2.1 p1177.2.1] ++ F) ?_
 rintro j_ ⟨x1164, x1165, v1166⟩ H
 rcases j_ with _ | j1176
 ·
  exact (Gets.no H).elim
 replace H : Gets (concourseref09_Users.l0 k a0 (j1176 + 1) x1164 x1165) _ := H
 rw [concourseref09_Users.l0] at H
 refine WP.seq <| WP.seq <| rg 5 0 <| mv0 rfl rfl <| fb rfl trivial rfl fa36_1 <| ld 0 rfl trivial rfl sc23 rfl rfl <| Dv.lenl rfl trivial rfl Tryz.underlying23 <| bn0 rfl rfl rfl run_lt <| .fin <| cd H rfl (fun _ H => ?_) (fun _ H => ?_)
 rotate_left
 ·
  refine WP.exit ?_
  replace H := Gets.out H
  exact jn ((x1164, decide (x1164 < (a0.fL.length : Int)), x1165), v1166) H
 refine WP.skip <| WP.seq <| WP.block <| WP.seq <| dg Tryz.checked.mixed 9 0 <| lds 0 rfl trivial rfl sg36 rfl rfl <| fb rfl trivial rfl fa36_1 <| ld 0 rfl trivial rfl sc23 rfl rfl <| mv0 rfl rfl <| gr H fun g1168 H => Dv.ixr rfl trivial rfl rfl Tryz.underlying23 Tryz.underlying33 c33 g1168.1 g1168.2 <| fr rfl trivial rfl fa33_4 rfl <| ldR rfl trivial rfl sc9 rfl <| el H fun t1169 h1170 H => cl rfl cal71 rfl (concourseref09_Joined.c h1170) <| as0 rfl rfl <| .fin <| WP.seq <| rg 1 0 <| mv0 rfl rfl <| .fin <| cd H rfl (fun _ H => ?_) (fun _ H => ?_)
 rotate_left
 ·
  exact WP.skip <| rg 3 0 <| mv0 rfl rfl <| bn0 rfl rfl rfl run_add <| as0 rfl rfl <| .fin <| bk j1176 (w64 (x1164 + 1), x1165, v1166) H
 refine rg 9 128 <| mv0 rfl rfl <| fb rfl trivial rfl fa36_1 <| ld 0 rfl trivial rfl sc23 rfl rfl <| mv0 rfl rfl <| gr H fun g1172 H => Dv.ixr rfl trivial rfl rfl Tryz.underlying23 Tryz.underlying33 c33 g1172.1 g1172.2 <| fr rfl trivial rfl fa33_4 rfl <| ldR rfl trivial rfl sc9 rfl <| el H fun t1173 h1174 H => cx 2 [1,0] cal72 (Tr.lend [own strK v1166.1 x1165] (concourseref09_Put.c h1174) (.cons (lt_own (mem_at 0 rfl)) (.cons lt_id .nil)) (fun _ => flat_eq) (fun _ => (flatAs_cons (flatA_own flatK_str) flatAs_nil))) nofun fun g1175 _ => ?_
 refine as0 rfl rfl <| .fin <| rg 3 0 <| mv0 rfl rfl <| bn0 rfl rfl rfl run_add <| as0 rfl rfl <| .fin <| ng (sg 3 [0,2,1] 1) fun _ _ => ?_
 exact bk j1176 (w64 (x1164 + 1), t1173, g1175) H
theorem slices_Compact_string.c {a0 : List ByteArray} {p0_ : OV} {r : List ByteArray} (h : slices_Compact_string.f a0 = some r) : Tr Tryz.prog 80 [eq p0_.1] [own strK p0_.1 a0] (γ := OV) (fun _ => True) (fun g => eq g.1) (fun g => [own strK g.1 r]) := by
 unfold slices_Compact_string.f at h
 obtain ⟨h0, h5⟩ := (Gets.of h).grd
 obtain rfl := Gets.out h5
 exact compact_tr (fun blk off cap ss w => Go.Proofs.Any.slices_Compact_string Tryz.lays194 blk off cap ss w) (fun q cap w => Go.Proofs.Any.slices_Compact_string_empty Tryz.lays194 q cap w) h0

theorem name_Home.c {k : Nat} {a0 : ByteArray} {r : ByteArray} (h : name_Home.f k a0 = some r) : Pt Tryz.prog 121 [vS a0] (vS r) := by
 unfold name_Home.f at h
 refine (Tr.body Tryz.func121 (c := _) rfl Tryz.ntmps121 (Nat.le_of_ble_eq_true rfl) fun R0 F => ?_).pt
 replace h := Gets.of h
 have H := h
 clear h
 refine WP.seq <| rg 1 0 <| as0 rfl rfl <| .fin <| WP.seq <| WP.seq <| rg 8 0 <| mv0 rfl rfl <| el H fun t1179 h1180 H => cl rfl cal106 rfl (name_User.c h1180) <| un0 rfl rfl (run_not _) <| mv0 rfl rfl ?_
 cases c1181 : !t1179
 ·
  replace H := Gets.cf H c1181
  refine sk rfl rfl <| sk rfl rfl <| sk rfl rfl <| pf0 rfl rfl rfl <| .fin <| WP.cond rfl nofun (fun _ => ?_)
  refine WP.skip <| WP.seq <| rg 9 0 <| mv0 rfl rfl <| el H fun t1188 h1189 H => cl rfl cal139 rfl (strings_Cut.c h1189) <| mv0 rfl rfl <| ex0 rfl trivial rfl rfl <| ex0 rfl trivial rfl rfl <| ex0 rfl trivial rfl rfl <| as0 rfl rfl <| as0 rfl rfl <| as0 rfl rfl <| .fin <| WP.seq <| rg 2 0 <| mv0 rfl rfl <| as0 rfl rfl <| .fin ?_
  obtain rfl := Gets.out H
  exact rt i2 rfl () 0 [] 0 (.cons (res_tmp rfl) .nil)
 replace H := Gets.ct H c1181
 refine mvg rfl rfl rfl <| el H fun t1182 h1183 H => Dv.call rfl (gg rfl) cal105 rfl (name_Room.c h1183) <| ung rfl rfl rfl (run_not _) <| pt0 rfl rfl rfl <| .fin <| cd H rfl (fun _ H => ?_) (fun _ H => ?_)
 ·
  refine WP.seq <| rg 1 0 <| as0 rfl rfl <| .fin ?_
  obtain rfl := Gets.out H
  exact rt i2 rfl () 0 [] 0 (.cons (res_tmp rfl) .nil)
 refine WP.skip <| WP.seq <| rg 9 0 <| mv0 rfl rfl <| el H fun t1185 h1186 H => cl rfl cal139 rfl (strings_Cut.c h1186) <| mv0 rfl rfl <| ex0 rfl trivial rfl rfl <| ex0 rfl trivial rfl rfl <| ex0 rfl trivial rfl rfl <| as0 rfl rfl <| as0 rfl rfl <| as0 rfl rfl <| .fin <| WP.seq <| rg 2 0 <| mv0 rfl rfl <| as0 rfl rfl <| .fin ?_
 obtain rfl := Gets.out H
 exact rt i2 rfl () 0 [] 0 (.cons (res_tmp rfl) .nil)
theorem member_Homes.c {k : Nat} {a0 : List ByteArray} {r : (List ByteArray)} (h : member_Homes.f k a0 = some r) : Tr Tryz.prog 99 [sl strK a0] [] (γ := OV) (fun _ => True) (fun g => eq g.1) (fun g => [own strK g.1 r]) := by
 unfold member_Homes.f at h
 refine Tr.body Tryz.func99 (c := _) rfl Tryz.ntmps99 (Nat.le_of_ble_eq_true rfl) fun R0 F => ?_
 replace h := Gets.of h
 have H := h
 clear h
 refine WP.seq <| rg 1 0 <| as0 rfl rfl <| .fin <| WP.seq <| rg 1 0 <| as0 rfl rfl <| .fin <| WP.seqn H (fun q1209 : (Int × Bool × (List ByteArray)) × OV => q1209.1) (fun q1209 : (Int × Bool × (List ByteArray)) × OV => [(0, sl strK a0), (2, eq (.slice none 0 0)), (3, eq q1209.2.1), (7, sl strK a0), (8, vI (a0.length : Int)), (9, vI q1209.1.1), (10, vB q1209.1.2.1)]) (fun q1209 : (Int × Bool × (List ByteArray)) × OV => [own strK q1209.2.1 q1209.1.2.2] ++ F) (fun q1209 H => ?_) (fun H => ?_)
 ·
  obtain ⟨p1190, v1191⟩ := q1209
  refine WP.seq <| rg 2 2 <| mv0 rfl rfl <| el H fun t1192 h1193 H => cx 1 [0] cal59 (slices_Sort_string.c h1193 (p0_ := v1191)) nofun fun _ _ => ?_
  refine .fin <| WP.seq <| rg 3 2 <| mv0 rfl rfl <| el H fun t1194 h1195 H => cx 1 [0] cal80 (slices_Compact_string.c h1195 (p0_ := v1191)) nofun fun g1196 _ => ?_
  refine as0 rfl rfl <| .fin ?_
  obtain rfl := Gets.out H
  exact rt i2 rfl g1196 1 [0] 0 (.cons (res_tmp rfl) .nil)
 refine WP.seq <| rg 3 0 <| mv0 rfl rfl <| Dv.lenl rfl trivial rfl Tryz.underlying31 <| mv0 rfl rfl <| .fin <| WP.block <| wg (st_nil strK none) fun _ _ => ?_
 refine wg (sg 1 [0] 0) fun _ _ => ?_
 refine lp (fun j_ (p1208 : Int × (List ByteArray) × OV) => member_Homes.l0 k a0 j_ p1208.1 p1208.2.1) (0, ([] : List ByteArray), nilV) H (fun p1208 => [(0, sl strK a0), (2, eq (.slice none 0 0)), (3, eq p1208.2.2.1), (7, sl strK a0), (8, vI (a0.length : Int)), (9, vI p1208.1)]) (fun p1208 => [own strK p1208.2.2.1 p1208.2.1] ++ F) ?_
 rintro j_ ⟨x1197, x1198, v1199⟩ H
 rcases j_ with _ | j1207
 ·
  exact (Gets.no H).elim
 replace H : Gets (member_Homes.l0 k a0 (j1207 + 1) x1197 x1198) _ := H
 rw [member_Homes.l0] at H
 refine WP.seq <| rg 1 0 <| bn0 rfl rfl rfl run_lt <| .fin <| WP.seq <| cd H rfl (fun _ H => ?_) (fun _ H => ?_)
 rotate_left
 ·
  refine WP.exit ?_
  replace H := Gets.out H
  exact jn ((x1197, decide (x1197 < (a0.length : Int)), x1198), v1199) H
 refine WP.skip <| WP.seq <| WP.block <| WP.seq <| rg 3 0 <| gr H fun g1201 H => Dv.ixr rfl trivial rfl rfl Tryz.underlying31 Tryz.underlying9 c9 g1201.1 g1201.2 <| ldR rfl trivial rfl sc9 rfl <| as0 rfl rfl <| .fin <| WP.seq <| rg 3 0 <| mv0 rfl rfl <| el H fun t1202 h1203 H => cl rfl cal121 rfl (name_Home.c h1203) <| as0 rfl rfl <| .fin <| WP.seq <| rg 2 0 <| mv0 rfl rfl <| bn0 rfl rfl rfl run_sne <| .fin <| cd H rfl (fun _ H => ?_) (fun _ H => ?_)
 rotate_left
 ·
  exact WP.skip <| rg 2 0 <| bn0 rfl rfl rfl run_add <| mv0 rfl rfl <| .fin <| bk j1207 (w64 (x1197 + 1), x1198, v1199) H
 refine rg 5 8 <| mv0 rfl rfl <| mv0 rfl rfl <| Dv.lit strK ([t1202] : List ByteArray) (css := [[vS t1202]]) rfl trivial Tryz.underlying31 Tryz.underlying9 c9 z9 rfl (by decide) (by decide) rfl ⟨(cells_one (one_eq rfl)), trivial⟩ rfl rfl rfl <| gr H fun g1205 H => ap strK 0 ([t1202] : List ByteArray) src_sl Tryz.underlying31 (.inr ⟨_, Tryz.underlying31⟩) inf9 g1205 nofun fun v1206 => ?_
 exact as0 rfl rfl <| .fin <| rg 2 0 <| bn0 rfl rfl rfl run_add <| mv0 rfl rfl <| .fin <| bk j1207 (w64 (x1197 + 1), x1198 ++ ([t1202] : List ByteArray), v1206) H
theorem member_Servers.c {k : Nat} {a0 : DDag} {v0_0 : OV} {b0_ : Nat} {r : (List ByteArray)} (h : member_Servers.f k a0 = some r) : Tr Tryz.prog 73 [eq (.pointer (some ⟨b0_, 0, none⟩))] [blk b0_ 102 [vS a0.froom, eq v0_0.1], mpo Value.string DNode.O v0_0.1 a0.fnodes] (γ := OV) (fun _ => True) (fun g => eq g.1) (fun g => [blk b0_ 102 [vS a0.froom, eq v0_0.1], mpo Value.string DNode.O v0_0.1 a0.fnodes, own strK g.1 r]) := by
 unfold member_Servers.f at h
 refine Tr.body Tryz.func73 (c := _) rfl Tryz.ntmps73 (Nat.le_of_ble_eq_true rfl) fun R0 F => ?_
 replace h := Gets.of h
 have H := h
 clear h
 refine WP.seq <| rg 1 0 <| as0 rfl rfl <| .fin <| WP.seq <| rg 4 6 <| mv0 rfl rfl <| el H fun t1210 h1211 H => cx 2 [0,1] cal70 (member_Users.c h1211 (b0_ := b0_) (v0_0 := v0_0)) nofun fun g1212 _ => ?_
 refine el H fun t1213 h1214 H => cx 3 [2,0,1] cal99 (Tr.lend [own strK g1212.1 t1210] (member_Homes.c h1214) (.cons (lt_own (mem_at 0 rfl)) .nil) (fun _ => flat_eq) (fun _ => (flatAs_cons (flatA_own flatK_str) flatAs_nil))) nofun fun g1215 _ => ?_
 refine as0 rfl rfl <| .fin ?_
 obtain rfl := Gets.out H
 exact rt i2 rfl g1215 4 [0,2,3,1] 1 (.cons (res_tmp rfl) .nil)
theorem view_View_Servers.c {k : Nat} {a0 : VView} {a1 : ByteArray} {p0_ : OV} {r : (List ByteArray)} (h : view_View_Servers.f k a0 a1 = some r) : Tr Tryz.prog 33 [eq p0_.1, vS a1] [VView.O p0_ a0] (γ := OV) (fun _ => True) (fun g => eq g.1) (fun g => [VView.O p0_ a0, own strK g.1 r]) := by
 unfold view_View_Servers.f at h
 refine Tr.body Tryz.func33 (c := _) rfl Tryz.ntmps33 (Nat.le_of_ble_eq_true rfl) fun R0 F => ?_
 replace h := Gets.of h
 have H := h
 clear h
 refine WP.seq <| rg 1 0 <| as0 rfl rfl <| .fin <| WP.seq <| rg 5 12 <| mv0 rfl rfl <| mv0 rfl rfl <| vg (VView.opn 0 rfl) fun g1216 h1217 => ?_
 refine el H fun t1218 h1219 H => cx 2 [0,1] cal52 (Tr.weak (view_View_room.c h1219 (b0_ := g1216.1) (v0_0 := g1216.2)) (.cons (wk_ptr h1217) (.cons wk_id .nil))) nofun fun v1220 _ => ?_
 refine vg (DDag.opn 2 rfl) fun g1221 h1222 => ?_
 refine el H fun t1223 h1224 H => cx 4 [0,1,2,3] cal73 (Tr.weak (member_Servers.c h1224 (b0_ := g1221.1) (v0_0 := g1221.2)) (.cons (wk_ptr h1222) .nil)) nofun fun g1225 _ => ?_
 refine as0 rfl rfl <| .fin <| wg (DDag.shut (p := v1220) (m := t1218) (g1221.1, g1221.2) h1222 (pm 5 [0,1,2,3,4])) fun _ _ => ?_
 refine wg (mpl_back0 (view_View_room.r h1219) (pm 4 [3,0,1,2])) fun _ _ => ?_
 refine wg (VView.shut (p := p0_) (m := a0) (g1216.1, g1216.2) h1217 (pm 3 [2,0,1])) fun _ _ => ?_
 obtain rfl := Gets.out H
 exact rt i2 rfl g1225 2 [0,1] 0 (.cons (res_tmp rfl) .nil)
theorem concourseref01_Home.c {k : Nat} {a0 : ByteArray} {r : ByteArray} (h : concourseref01_Home.f k a0 = some r) : Pt Tryz.prog 100 [vS a0] (vS r) := by
 unfold concourseref01_Home.f at h
 refine (Tr.body Tryz.func100 (c := _) rfl Tryz.ntmps100 (Nat.le_of_ble_eq_true rfl) fun R0 F => ?_).pt
 replace h := Gets.of h
 have H := h
 clear h
 refine WP.seq <| rg 1 0 <| as0 rfl rfl <| .fin <| WP.seq <| rg 3 0 <| mv0 rfl rfl <| el H fun t1226 h1227 H => cl rfl cal103 rfl (concourseref01_Named.c h1227) <| as0 rfl rfl <| .fin <| WP.seq <| rg 3 0 <| mv0 rfl rfl <| el H fun t1228 h1229 H => cl rfl cal103 rfl (concourseref01_Named.c h1229) <| as0 rfl rfl <| .fin <| WP.seq <| WP.seq <| rg 6 0 <| mv0 rfl rfl <| un0 rfl rfl (run_not _) <| mv0 rfl rfl ?_
 cases c1230 : !t1226
 ·
  replace H := Gets.cf H c1230
  refine sk rfl rfl <| sk rfl rfl <| pf0 rfl rfl rfl <| .fin <| WP.cond rfl nofun (fun _ => ?_)
  refine WP.skip <| WP.seq <| rg 6 0 <| mv0 rfl rfl <| mv0 rfl rfl <| el H fun t1236 h1237 H => cl rfl cal122 rfl (concourseref01_colon.c h1237) <| bn0 rfl rfl rfl run_add <| gr H fun g1238 H => Dv.sss rfl trivial rfl Tryz.underlying9 (bdE_some rfl g1238.1) bdE_none g1238.2.1 g1238.2.2 <| as0 rfl rfl <| .fin ?_
  obtain rfl := Gets.out H
  exact rt i2 rfl () 0 [] 0 (.cons (res_tmp rfl) .nil)
 replace H := Gets.ct H c1230
 refine mvg rfl rfl rfl <| ung rfl rfl rfl (run_not _) <| pt0 rfl rfl rfl <| .fin <| cd H rfl (fun _ H => ?_) (fun _ H => ?_)
 ·
  refine WP.seq <| rg 1 0 <| as0 rfl rfl <| .fin ?_
  obtain rfl := Gets.out H
  exact rt i2 rfl () 0 [] 0 (.cons (res_tmp rfl) .nil)
 refine WP.skip <| WP.seq <| rg 6 0 <| mv0 rfl rfl <| mv0 rfl rfl <| el H fun t1232 h1233 H => cl rfl cal122 rfl (concourseref01_colon.c h1233) <| bn0 rfl rfl rfl run_add <| gr H fun g1234 H => Dv.sss rfl trivial rfl Tryz.underlying9 (bdE_some rfl g1234.1) bdE_none g1234.2.1 g1234.2.2 <| as0 rfl rfl <| .fin ?_
 obtain rfl := Gets.out H
 exact rt i2 rfl () 0 [] 0 (.cons (res_tmp rfl) .nil)
theorem concourseref09_Homes.c {k : Nat} {a0 : List ByteArray} {r : (List ByteArray)} (h : concourseref09_Homes.f k a0 = some r) : Tr Tryz.prog 74 [sl strK a0] [] (γ := OV) (fun _ => True) (fun g => eq g.1) (fun g => [own strK g.1 r]) := by
 unfold concourseref09_Homes.f at h
 refine Tr.body Tryz.func74 (c := _) rfl Tryz.ntmps74 (Nat.le_of_ble_eq_true rfl) fun R0 F => ?_
 replace h := Gets.of h
 have H := h
 clear h
 refine WP.seq <| rg 1 0 <| as0 rfl rfl <| .fin <| WP.seq <| rg 1 0 <| as0 rfl rfl <| .fin <| WP.seqn H (fun q1254 : (Int × Bool × (List ByteArray)) × OV => q1254.1) (fun q1254 : (Int × Bool × (List ByteArray)) × OV => [(0, sl strK a0), (2, eq (.slice none 0 0)), (3, eq q1254.2.1), (4, vI q1254.1.1), (9, vB q1254.1.2.1)]) (fun q1254 : (Int × Bool × (List ByteArray)) × OV => [own strK q1254.2.1 q1254.1.2.2] ++ F) (fun q1254 H => ?_) (fun H => ?_)
 ·
  obtain ⟨p1239, v1240⟩ := q1254
  refine WP.seq <| rg 2 0 <| mv0 rfl rfl <| as0 rfl rfl <| .fin ?_
  obtain rfl := Gets.out H
  exact rt i2 rfl v1240 1 [0] 0 (.cons (res_tmp rfl) .nil)
 refine WP.seq <| rg 1 0 <| as0 rfl rfl <| .fin <| WP.block <| wg (st_nil strK none) fun _ _ => ?_
 refine wg (sg 1 [0] 0) fun _ _ => ?_
 refine lp (fun j_ (p1253 : Int × (List ByteArray) × OV) => concourseref09_Homes.l0 k a0 j_ p1253.1 p1253.2.1) (0, ([] : List ByteArray), nilV) H (fun p1253 => [(0, sl strK a0), (2, eq (.slice none 0 0)), (3, eq p1253.2.2.1), (4, vI p1253.1)]) (fun p1253 => [own strK p1253.2.2.1 p1253.2.1] ++ F) ?_
 rintro j_ ⟨x1241, x1242, v1243⟩ H
 rcases j_ with _ | j1252
 ·
  exact (Gets.no H).elim
 replace H : Gets (concourseref09_Homes.l0 k a0 (j1252 + 1) x1241 x1242) _ := H
 rw [concourseref09_Homes.l0] at H
 refine WP.seq <| WP.seq <| rg 4 0 <| mv0 rfl rfl <| mv0 rfl rfl <| Dv.lenl rfl trivial rfl Tryz.underlying31 <| bn0 rfl rfl rfl run_lt <| .fin <| cd H rfl (fun _ H => ?_) (fun _ H => ?_)
 rotate_left
 ·
  refine WP.exit ?_
  replace H := Gets.out H
  exact jn ((x1241, decide (x1241 < (a0.length : Int)), x1242), v1243) H
 refine WP.skip <| WP.seq <| WP.block <| WP.seq <| rg 6 0 <| mv0 rfl rfl <| mv0 rfl rfl <| gr H fun g1245 H => Dv.ixr rfl trivial rfl rfl Tryz.underlying31 Tryz.underlying9 c9 g1245.1 g1245.2 <| ldR rfl trivial rfl sc9 rfl <| el H fun t1246 h1247 H => cl rfl cal100 rfl (concourseref01_Home.c h1247) <| as0 rfl rfl <| .fin <| WP.seq <| rg 2 0 <| mv0 rfl rfl <| bn0 rfl rfl rfl run_sne <| .fin <| cd H rfl (fun _ H => ?_) (fun _ H => ?_)
 rotate_left
 ·
  exact WP.skip <| rg 3 0 <| mv0 rfl rfl <| bn0 rfl rfl rfl run_add <| as0 rfl rfl <| .fin <| bk j1252 (w64 (x1241 + 1), x1242, v1243) H
 refine rg 4 4 <| mv0 rfl rfl <| mv0 rfl rfl <| el H fun t1249 h1250 H => cx 1 [0] cal72 (Tr.lend [own strK v1243.1 x1242] (concourseref09_Put.c h1250) (.cons (lt_own (mem_at 0 rfl)) (.cons lt_id .nil)) (fun _ => flat_eq) (fun _ => (flatAs_cons (flatA_own flatK_str) flatAs_nil))) nofun fun g1251 _ => ?_
 refine as0 rfl rfl <| .fin <| rg 3 0 <| mv0 rfl rfl <| bn0 rfl rfl rfl run_add <| as0 rfl rfl <| .fin <| ng (sg 2 [0,1] 1) fun _ _ => ?_
 exact bk j1252 (w64 (x1241 + 1), t1249, g1251) H
theorem concourseref09_Servers.c {k : Nat} {a0 : RDag} {r : (List ByteArray)} (h : concourseref09_Servers.f k a0 = some r) : Tr Tryz.prog 34 [agg (RDag.enc a0)] [] (γ := OV) (fun _ => True) (fun g => eq g.1) (fun g => [own strK g.1 r]) := by
 unfold concourseref09_Servers.f at h
 refine Tr.body Tryz.func34 (c := _) rfl Tryz.ntmps34 (Nat.le_of_ble_eq_true rfl) fun R0 F => ?_
 replace h := Gets.of h
 have H := h
 clear h
 refine WP.seq <| rg 2 1 <| Dv.box rfl trivial rfl cA nofun fun b1255 => as0 rfl rfl <| .fin <| WP.seq <| rg 4 6 <| lds 0 rfl trivial rfl sg36 rfl rfl <| el H fun t1256 h1257 H => cx 1 [0] cal32 (concourseref09_Users.c h1257) nofun fun g1258 _ => ?_
 refine el H fun t1259 h1260 H => cx 2 [0,1] cal74 (Tr.lend [own strK g1258.1 t1256] (concourseref09_Homes.c h1260) (.cons (lt_own (mem_at 0 rfl)) .nil) (fun _ => flat_eq) (fun _ => (flatAs_cons (flatA_own flatK_str) flatAs_nil))) nofun fun g1261 _ => ?_
 refine as0 rfl rfl <| .fin ?_
 obtain rfl := Gets.out H
 exact rt i2 rfl g1261 3 [0,2,1] 2 (.cons (res_tmp rfl) .nil)
theorem member_Joined.c {k : Nat} {a0 : DDag} {a1 : ByteArray} {v0_0 : OV} {b0_ : Nat} {r : Bool} (h : member_Joined.f k a0 a1 = some r) : Tr Tryz.prog 75 [eq (.pointer (some ⟨b0_, 0, none⟩)), vS a1] [blk b0_ 102 [vS a0.froom, eq v0_0.1], mpo Value.string DNode.O v0_0.1 a0.fnodes] (γ := Unit) (fun _ => True) (fun g => vB r) (fun g => [blk b0_ 102 [vS a0.froom, eq v0_0.1], mpo Value.string DNode.O v0_0.1 a0.fnodes]) := by
 unfold member_Joined.f at h
 refine Tr.body Tryz.func75 (c := _) rfl Tryz.ntmps75 (Nat.le_of_ble_eq_true rfl) fun R0 F => ?_
 replace h := Gets.of h
 have H := h
 clear h
 refine WP.seq <| rg 1 0 <| as0 rfl rfl <| .fin <| WP.seq <| rg 6 2 <| mv0 rfl rfl <| el H fun t1262 h1263 H => cx 2 [0,1] cal97 (member_joined.c h1263 (b0_ := b0_) (v0_0 := v0_0)) nofun fun g1264 _ => ?_
 refine mv0 rfl rfl <| Dv.mlv 0 rfl trivial rfl (mem_at 2 rfl) rfl Tryz.underlying118 (keyOk_str Tryz.underlying9) z3 (fun _ => rfl) <| bn0 rfl rfl rfl run_gt <| as0 rfl rfl <| .fin ?_
 obtain rfl := Gets.out H
 exact rt i2 rfl () 3 [2,0,1] 1 (.cons (res_tmp rfl) .nil)
theorem view_View_Joined.c {k : Nat} {a0 : VView} {a1 : ByteArray} {a2 : ByteArray} {p0_ : OV} {r : Bool} (h : view_View_Joined.f k a0 a1 a2 = some r) : Tr Tryz.prog 35 [eq p0_.1, vS a1, vS a2] [VView.O p0_ a0] (γ := Unit) (fun _ => True) (fun g => vB r) (fun g => [VView.O p0_ a0]) := by
 unfold view_View_Joined.f at h
 refine Tr.body Tryz.func35 (c := _) rfl Tryz.ntmps35 (Nat.le_of_ble_eq_true rfl) fun R0 F => ?_
 replace h := Gets.of h
 have H := h
 clear h
 refine WP.seq <| rg 1 0 <| as0 rfl rfl <| .fin <| WP.seq <| rg 6 4 <| mv0 rfl rfl <| mv0 rfl rfl <| vg (VView.opn 0 rfl) fun g1265 h1266 => ?_
 refine el H fun t1267 h1268 H => cx 2 [0,1] cal52 (Tr.weak (view_View_room.c h1268 (b0_ := g1265.1) (v0_0 := g1265.2)) (.cons (wk_ptr h1266) (.cons wk_id .nil))) nofun fun v1269 _ => ?_
 refine mv0 rfl rfl <| vg (DDag.opn 2 rfl) fun g1270 h1271 => ?_
 refine el H fun t1272 h1273 H => cll 4 [0,1,2,3] cal75 (Tr.weak (member_Joined.c h1273 (b0_ := g1270.1) (v0_0 := g1270.2)) (.cons (wk_ptr h1271) (.cons wk_id .nil))) ?_
 refine as0 rfl rfl <| .fin <| wg (DDag.shut (p := v1269) (m := t1267) (g1270.1, g1270.2) h1271 (pm 4 [0,1,2,3])) fun _ _ => ?_
 refine wg (mpl_back0 (view_View_room.r h1268) (pm 3 [2,0,1])) fun _ _ => ?_
 refine wg (VView.shut (p := p0_) (m := a0) (g1265.1, g1265.2) h1266 (pm 2 [1,0])) fun _ _ => ?_
 obtain rfl := Gets.out H
 exact rt i2 rfl () 1 [0] 0 (.cons (res_tmp rfl) .nil)
theorem concourseref10_Joined.c {k : Nat} {a0 : RView} {a1 : ByteArray} {a2 : ByteArray} {r : Bool} (h : concourseref10_Joined.f k a0 a1 a2 = some r) : Pt Tryz.prog 37 [agg (RView.enc a0), vS a1, vS a2] (vB r) := by
 unfold concourseref10_Joined.f at h
 refine (Tr.body Tryz.func37 (c := _) rfl Tryz.ntmps37 (Nat.le_of_ble_eq_true rfl) fun R0 F => ?_).pt
 replace h := Gets.of h
 have H := h
 clear h
 refine WP.seq <| rg 2 1 <| Dv.box rfl trivial rfl cA nofun fun b1274 => as0 rfl rfl <| .fin <| WP.seq <| rg 6 0 <| lds 0 rfl trivial rfl sg28 rfl rfl <| mv0 rfl rfl <| el H fun t1275 h1276 H => cl rfl cal10 rfl (concourseref10_Of.c h1276) <| mv0 rfl rfl <| el H fun t1277 h1278 H => cl rfl cal71 rfl (concourseref09_Joined.c h1278) <| as0 rfl rfl <| .fin ?_
 obtain rfl := Gets.out H
 exact rt i2 rfl () 1 [0] 1 (.cons (res_tmp rfl) .nil)
theorem slices_Index_string.c {k : Nat} {a0 : List ByteArray} {a1 : ByteArray} {r : Int} (h : slices_Index_string.f k a0 a1 = some r) : Pt Tryz.prog 101 [sl strK a0, vS a1] (vI r) := by
 unfold slices_Index_string.f at h
 refine (Tr.body Tryz.func101 (c := _) rfl Tryz.ntmps101 (Nat.le_of_ble_eq_true rfl) fun R0 F => ?_).pt
 replace h := Gets.of h
 have H := h
 clear h
 refine WP.seq <| rg 1 0 <| as0 rfl rfl <| .fin <| WP.seqr H id (fun p1279 : Int × Bool => [(0, sl strK a0), (1, vS a1), (4, vI 0), (7, vI (a0.length : Int)), (8, vI p1279.1), (9, vB p1279.2)]) (fun p1279 : Int × Bool => F) (fun p1279 H => ?_) (fun H => ?_)
 ·
  refine WP.seq <| rg 1 0 <| as0 rfl rfl <| .fin ?_
  obtain rfl := Gets.out H
  exact rt i2 rfl () 0 [] 0 (.cons (res_tmp rfl) .nil)
 refine WP.seq <| rg 3 0 <| mv0 rfl rfl <| Dv.lenl rfl trivial rfl Tryz.underlying31 <| mv0 rfl rfl <| .fin <| WP.block <| wg (sg 0 [] 0) fun _ _ => ?_
 refine lp (fun j_ (p1285 : Int) => slices_Index_string.l0 k a0 a1 j_ p1285) 0 H (fun p1285 => [(0, sl strK a0), (1, vS a1), (4, vI 0), (7, vI (a0.length : Int)), (8, vI p1285)]) (fun p1285 => F) ?_
 rintro j_ x1280 H
 rcases j_ with _ | j1284
 ·
  exact (Gets.no H).elim
 replace H : Gets (slices_Index_string.l0 k a0 a1 (j1284 + 1) x1280) _ := H
 rw [slices_Index_string.l0] at H
 refine WP.seq <| rg 1 0 <| bn0 rfl rfl rfl run_lt <| .fin <| WP.seq <| cd H rfl (fun _ H => ?_) (fun _ H => ?_)
 rotate_left
 ·
  refine WP.exit ?_
  replace H := Gets.out H
  exact jn (x1280, decide (x1280 < (a0.length : Int))) H
 refine WP.skip <| WP.seq <| WP.block <| WP.seq <| rg 2 0 <| mv0 rfl rfl <| as0 rfl rfl <| .fin <| WP.seq <| rg 6 0 <| mv0 rfl rfl <| mv0 rfl rfl <| mv0 rfl rfl <| gr H fun g1282 H => Dv.ixr rfl trivial rfl rfl Tryz.underlying31 Tryz.underlying9 c9 g1282.1 g1282.2 <| ldR rfl trivial rfl sc9 rfl <| bn0 rfl rfl rfl run_seq <| .fin <| cd H rfl (fun _ H => ?_) (fun _ H => ?_)
 rotate_left
 ·
  exact WP.skip <| rg 2 0 <| bn0 rfl rfl rfl run_add <| mv0 rfl rfl <| .fin <| bk j1284 (w64 (x1280 + 1)) H
 refine WP.seq <| rg 2 0 <| mv0 rfl rfl <| as0 rfl rfl <| .fin ?_
 replace H := Gets.outr H
 obtain rfl := Gets.out H
 exact rt i2 rfl () 0 [] 0 (.cons (res_tmp rfl) .nil)
theorem slices_Contains_string.c {k : Nat} {a0 : List ByteArray} {a1 : ByteArray} {r : Bool} (h : slices_Contains_string.f k a0 a1 = some r) : Pt Tryz.prog 82 [sl strK a0, vS a1] (vB r) := by
 unfold slices_Contains_string.f at h
 refine (Tr.body Tryz.func82 (c := _) rfl Tryz.ntmps82 (Nat.le_of_ble_eq_true rfl) fun R0 F => ?_).pt
 replace h := Gets.of h
 have H := h
 clear h
 refine WP.seq <| rg 1 0 <| as0 rfl rfl <| .fin <| WP.seq <| rg 5 0 <| mv0 rfl rfl <| mv0 rfl rfl <| el H fun t1286 h1287 H => cl rfl cal101 rfl (slices_Index_string.c h1287) <| bn0 rfl rfl rfl run_ge <| as0 rfl rfl <| .fin ?_
 obtain rfl := Gets.out H
 exact rt i2 rfl () 0 [] 0 (.cons (res_tmp rfl) .nil)
theorem member_In.c {k : Nat} {a0 : DDag} {a1 : ByteArray} {v0_0 : OV} {b0_ : Nat} {r : Bool} (h : member_In.f k a0 a1 = some r) : Tr Tryz.prog 76 [eq (.pointer (some ⟨b0_, 0, none⟩)), vS a1] [blk b0_ 102 [vS a0.froom, eq v0_0.1], mpo Value.string DNode.O v0_0.1 a0.fnodes] (γ := Unit) (fun _ => True) (fun g => vB r) (fun g => [blk b0_ 102 [vS a0.froom, eq v0_0.1], mpo Value.string DNode.O v0_0.1 a0.fnodes]) := by
 unfold member_In.f at h
 refine Tr.body Tryz.func76 (c := _) rfl Tryz.ntmps76 (Nat.le_of_ble_eq_true rfl) fun R0 F => ?_
 replace h := Gets.of h
 have H := h
 clear h
 refine WP.seq <| rg 1 0 <| as0 rfl rfl <| .fin <| WP.seq <| rg 5 2 <| mv0 rfl rfl <| el H fun t1288 h1289 H => cx 2 [0,1] cal73 (member_Servers.c h1289 (b0_ := b0_) (v0_0 := v0_0)) nofun fun g1290 _ => ?_
 refine mv0 rfl rfl <| el H fun t1291 h1292 H => cll (B := [own strK g1290.1 t1288]) 3 [2,0,1] cal82 (Pt.lend _ (slices_Contains_string.c h1292) (.cons (lt_own (mem_at 0 rfl)) (.cons lt_id .nil)) flat_eq) ?_
 refine as0 rfl rfl <| .fin ?_
 obtain rfl := Gets.out H
 exact rt i2 rfl () 3 [2,0,1] 1 (.cons (res_tmp rfl) .nil)
theorem view_View_In.c {k : Nat} {a0 : VView} {a1 : ByteArray} {a2 : ByteArray} {p0_ : OV} {r : Bool} (h : view_View_In.f k a0 a1 a2 = some r) : Tr Tryz.prog 38 [eq p0_.1, vS a1, vS a2] [VView.O p0_ a0] (γ := Unit) (fun _ => True) (fun g => vB r) (fun g => [VView.O p0_ a0]) := by
 unfold view_View_In.f at h
 refine Tr.body Tryz.func38 (c := _) rfl Tryz.ntmps38 (Nat.le_of_ble_eq_true rfl) fun R0 F => ?_
 replace h := Gets.of h
 have H := h
 clear h
 refine WP.seq <| rg 1 0 <| as0 rfl rfl <| .fin <| WP.seq <| rg 6 4 <| mv0 rfl rfl <| mv0 rfl rfl <| vg (VView.opn 0 rfl) fun g1293 h1294 => ?_
 refine el H fun t1295 h1296 H => cx 2 [0,1] cal52 (Tr.weak (view_View_room.c h1296 (b0_ := g1293.1) (v0_0 := g1293.2)) (.cons (wk_ptr h1294) (.cons wk_id .nil))) nofun fun v1297 _ => ?_
 refine mv0 rfl rfl <| vg (DDag.opn 2 rfl) fun g1298 h1299 => ?_
 refine el H fun t1300 h1301 H => cll 4 [0,1,2,3] cal76 (Tr.weak (member_In.c h1301 (b0_ := g1298.1) (v0_0 := g1298.2)) (.cons (wk_ptr h1299) (.cons wk_id .nil))) ?_
 refine as0 rfl rfl <| .fin <| wg (DDag.shut (p := v1297) (m := t1295) (g1298.1, g1298.2) h1299 (pm 4 [0,1,2,3])) fun _ _ => ?_
 refine wg (mpl_back0 (view_View_room.r h1296) (pm 3 [2,0,1])) fun _ _ => ?_
 refine wg (VView.shut (p := p0_) (m := a0) (g1293.1, g1293.2) h1294 (pm 2 [1,0])) fun _ _ => ?_
 obtain rfl := Gets.out H
 exact rt i2 rfl () 1 [0] 0 (.cons (res_tmp rfl) .nil)
theorem concourseref09_Has.c {k : Nat} {a0 : List ByteArray} {a1 : ByteArray} {r : Bool} (h : concourseref09_Has.f k a0 a1 = some r) : Pt Tryz.prog 40 [sl strK a0, vS a1] (vB r) := by
 unfold concourseref09_Has.f at h
 refine (Tr.body Tryz.func40 (c := _) rfl Tryz.ntmps40 (Nat.le_of_ble_eq_true rfl) fun R0 F => ?_).pt
 replace h := Gets.of h
 have H := h
 clear h
 refine WP.seq <| rg 1 0 <| as0 rfl rfl <| .fin <| WP.seqr H id (fun p1302 : Int × Bool => [(0, sl strK a0), (1, vS a1), (4, vB false), (5, vI p1302.1), (9, vB p1302.2)]) (fun p1302 : Int × Bool => F) (fun p1302 H => ?_) (fun H => ?_)
 ·
  refine WP.seq <| rg 1 0 <| as0 rfl rfl <| .fin ?_
  obtain rfl := Gets.out H
  exact rt i2 rfl () 0 [] 0 (.cons (res_tmp rfl) .nil)
 refine WP.seq <| rg 1 0 <| as0 rfl rfl <| .fin <| WP.block <| wg (sg 0 [] 0) fun _ _ => ?_
 refine lp (fun j_ (p1308 : Int) => concourseref09_Has.l0 k a0 a1 j_ p1308) 0 H (fun p1308 => [(0, sl strK a0), (1, vS a1), (4, vB false), (5, vI p1308)]) (fun p1308 => F) ?_
 rintro j_ x1303 H
 rcases j_ with _ | j1307
 ·
  exact (Gets.no H).elim
 replace H : Gets (concourseref09_Has.l0 k a0 a1 (j1307 + 1) x1303) _ := H
 rw [concourseref09_Has.l0] at H
 refine WP.seq <| WP.seq <| rg 4 0 <| mv0 rfl rfl <| mv0 rfl rfl <| Dv.lenl rfl trivial rfl Tryz.underlying31 <| bn0 rfl rfl rfl run_lt <| .fin <| cd H rfl (fun _ H => ?_) (fun _ H => ?_)
 rotate_left
 ·
  refine WP.exit ?_
  replace H := Gets.out H
  exact jn (x1303, decide (x1303 < (a0.length : Int))) H
 refine WP.skip <| WP.seq <| WP.block <| WP.seq <| rg 6 0 <| mv0 rfl rfl <| mv0 rfl rfl <| gr H fun g1305 H => Dv.ixr rfl trivial rfl rfl Tryz.underlying31 Tryz.underlying9 c9 g1305.1 g1305.2 <| ldR rfl trivial rfl sc9 rfl <| mv0 rfl rfl <| bn0 rfl rfl rfl run_seq <| .fin <| cd H rfl (fun _ H => ?_) (fun _ H => ?_)
 rotate_left
 ·
  exact WP.skip <| rg 3 0 <| mv0 rfl rfl <| bn0 rfl rfl rfl run_add <| as0 rfl rfl <| .fin <| bk j1307 (w64 (x1303 + 1)) H
 refine WP.seq <| rg 1 0 <| as0 rfl rfl <| .fin ?_
 replace H := Gets.outr H
 obtain rfl := Gets.out H
 exact rt i2 rfl () 0 [] 0 (.cons (res_tmp rfl) .nil)
theorem slices_Equal_string.c {k : Nat} {a0 : List ByteArray} {a1 : List ByteArray} {r : Bool} (h : slices_Equal_string.f k a0 a1 = some r) : Pt Tryz.prog 61 [sl strK a0, sl strK a1] (vB r) := by
 unfold slices_Equal_string.f at h
 refine (Tr.body Tryz.func61 (c := _) rfl Tryz.ntmps61 (Nat.le_of_ble_eq_true rfl) fun R0 F => ?_).pt
 replace h := Gets.of h
 have H := h
 clear h
 refine WP.seq <| rg 1 0 <| as0 rfl rfl <| .fin <| WP.seq <| WP.seq <| rg 5 0 <| mv0 rfl rfl <| Dv.lenl rfl trivial rfl Tryz.underlying31 <| mv0 rfl rfl <| Dv.lenl rfl trivial rfl Tryz.underlying31 <| bn0 rfl rfl rfl run_ne <| .fin <| cd H rfl (fun _ H => ?_) (fun _ H => ?_)
 ·
  refine WP.seq <| rg 1 0 <| as0 rfl rfl <| .fin ?_
  obtain rfl := Gets.out H
  exact rt i2 rfl () 0 [] 0 (.cons (res_tmp rfl) .nil)
 refine WP.skip <| WP.seqr H id (fun p1408 : Int × Bool => [(0, sl strK a0), (1, sl strK a1), (4, vB false), (10, vB ((a0.length : Int) != (a1.length : Int))), (12, vI (a0.length : Int)), (13, vI p1408.1), (14, vB p1408.2)]) (fun p1408 : Int × Bool => F) (fun p1408 H => ?_) (fun H => ?_)
 ·
  refine WP.seq <| rg 1 0 <| as0 rfl rfl <| .fin ?_
  obtain rfl := Gets.out H
  exact rt i2 rfl () 0 [] 0 (.cons (res_tmp rfl) .nil)
 refine WP.seq <| rg 3 0 <| mv0 rfl rfl <| Dv.lenl rfl trivial rfl Tryz.underlying31 <| mv0 rfl rfl <| .fin <| WP.block <| wg (sg 0 [] 0) fun _ _ => ?_
 refine lp (fun j_ (p1415 : Int) => slices_Equal_string.l0 k a0 a1 j_ p1415) 0 H (fun p1415 => [(0, sl strK a0), (1, sl strK a1), (4, vB false), (10, vB ((a0.length : Int) != (a1.length : Int))), (12, vI (a0.length : Int)), (13, vI p1415)]) (fun p1415 => F) ?_
 rintro j_ x1409 H
 rcases j_ with _ | j1414
 ·
  exact (Gets.no H).elim
 replace H : Gets (slices_Equal_string.l0 k a0 a1 (j1414 + 1) x1409) _ := H
 rw [slices_Equal_string.l0] at H
 refine WP.seq <| rg 1 0 <| bn0 rfl rfl rfl run_lt <| .fin <| WP.seq <| cd H rfl (fun _ H => ?_) (fun _ H => ?_)
 rotate_left
 ·
  refine WP.exit ?_
  replace H := Gets.out H
  exact jn (x1409, decide (x1409 < (a0.length : Int))) H
 refine WP.skip <| WP.seq <| WP.block <| WP.seq <| rg 2 0 <| mv0 rfl rfl <| as0 rfl rfl <| .fin <| WP.seq <| dg Tryz.checked.mixed 9 0 <| mv0 rfl rfl <| mv0 rfl rfl <| gr H fun g1411 H => Dv.ixr rfl trivial rfl rfl Tryz.underlying31 Tryz.underlying9 c9 g1411.1 g1411.2 <| ldR rfl trivial rfl sc9 rfl <| mv0 rfl rfl <| mv0 rfl rfl <| gr H fun g1412 H => Dv.ixr rfl trivial rfl rfl Tryz.underlying31 Tryz.underlying9 c9 g1412.1 g1412.2 <| ldR rfl trivial rfl sc9 rfl <| bn0 rfl rfl rfl run_sne <| .fin <| cd H rfl (fun _ H => ?_) (fun _ H => ?_)
 rotate_left
 ·
  exact WP.skip <| rg 2 0 <| bn0 rfl rfl rfl run_add <| mv0 rfl rfl <| .fin <| bk j1414 (w64 (x1409 + 1)) H
 refine WP.seq <| rg 1 0 <| as0 rfl rfl <| .fin ?_
 replace H := Gets.outr H
 obtain rfl := Gets.out H
 exact rt i2 rfl () 0 [] 0 (.cons (res_tmp rfl) .nil)
theorem slices_EqualFunc_Event_Event.c {k : Nat} {a0 : List Event} {a1 : List Event} {a2 : Event → Event → Option Bool} {r : Bool} (h : slices_EqualFunc_Event_Event.f k a0 a1 a2 = some r) : Pt Tryz.prog 64 [sl Event.K a0, sl Event.K a1, fq_api_Event_api_Event_bool a2] (vB r) := by
 unfold slices_EqualFunc_Event_Event.f at h
 refine (Tr.body Tryz.func64 (c := _) rfl Tryz.ntmps64 (Nat.le_of_ble_eq_true rfl) fun R0 F => ?_).pt
 replace h := Gets.of h
 have H := h
 clear h
 refine WP.seq <| rg 1 0 <| as0 rfl rfl <| .fin <| WP.seq <| WP.seq <| rg 5 0 <| mv0 rfl rfl <| Dv.lenl rfl trivial rfl Tryz.underlying23 <| mv0 rfl rfl <| Dv.lenl rfl trivial rfl Tryz.underlying23 <| bn0 rfl rfl rfl run_ne <| .fin <| cd H rfl (fun _ H => ?_) (fun _ H => ?_)
 ·
  refine WP.seq <| rg 1 0 <| as0 rfl rfl <| .fin ?_
  obtain rfl := Gets.out H
  exact rt i2 rfl () 0 [] 0 (.cons (res_tmp rfl) .nil)
 refine WP.skip <| WP.seqr H id (fun p1417 : Int × Bool => [(0, sl Event.K a0), (1, sl Event.K a1), (2, fq_api_Event_api_Event_bool a2), (6, vB false), (14, vB ((a0.length : Int) != (a1.length : Int))), (15, sl Event.K a0), (16, vI (a0.length : Int)), (17, vI p1417.1), (18, vB p1417.2)]) (fun p1417 : Int × Bool => F) (fun p1417 H => ?_) (fun H => ?_)
 ·
  refine WP.seq <| rg 1 0 <| as0 rfl rfl <| .fin ?_
  obtain rfl := Gets.out H
  exact rt i2 rfl () 0 [] 0 (.cons (res_tmp rfl) .nil)
 refine WP.seq <| rg 3 0 <| mv0 rfl rfl <| Dv.lenl rfl trivial rfl Tryz.underlying23 <| mv0 rfl rfl <| .fin <| WP.block <| wg (sg 0 [] 0) fun _ _ => ?_
 refine lp (fun j_ (p1428 : Int) => slices_EqualFunc_Event_Event.l0 k a0 a1 a2 j_ p1428) 0 H (fun p1428 => [(0, sl Event.K a0), (1, sl Event.K a1), (2, fq_api_Event_api_Event_bool a2), (6, vB false), (14, vB ((a0.length : Int) != (a1.length : Int))), (15, sl Event.K a0), (16, vI (a0.length : Int)), (17, vI p1428)]) (fun p1428 => F) ?_
 rintro j_ x1418 H
 rcases j_ with _ | j1427
 ·
  exact (Gets.no H).elim
 replace H : Gets (slices_EqualFunc_Event_Event.l0 k a0 a1 a2 (j1427 + 1) x1418) _ := H
 rw [slices_EqualFunc_Event_Event.l0] at H
 refine WP.seq <| rg 1 0 <| bn0 rfl rfl rfl run_lt <| .fin <| WP.seq <| cd H rfl (fun _ H => ?_) (fun _ H => ?_)
 rotate_left
 ·
  refine WP.exit ?_
  replace H := Gets.out H
  exact jn (x1418, decide (x1418 < (a0.length : Int))) H
 refine WP.skip <| WP.seq <| WP.block <| WP.seq <| rg 6 40 <| mv0 rfl rfl <| gr H fun g1420 H => Dv.ixr rfl trivial rfl rfl Tryz.underlying23 Tryz.underlying33 c33 g1420.1 g1420.2 <| ldsR rfl trivial rfl sg33 rfl <| al rfl trivial zc33 nofun fun b1421 => as0 rfl rfl <| sx 0 rfl trivial rfl rfl cA sz33 rfl rfl rfl nofun ?_
 refine .fin <| WP.seq <| rg 6 48 <| mv0 rfl rfl <| mv0 rfl rfl <| gr H fun g1422 H => Dv.ixr rfl trivial rfl rfl Tryz.underlying23 Tryz.underlying33 c33 g1422.1 g1422.2 <| ldsR rfl trivial rfl sg33 rfl <| al rfl trivial zc33 nofun fun b1423 => sx 0 rfl trivial rfl rfl cA sz33 rfl rfl rfl nofun ?_
 refine .fin <| WP.seq <| rg 5 0 <| mv0 rfl rfl <| lds 1 rfl trivial rfl sg33 rfl rfl <| lds 0 rfl trivial rfl sg33 rfl rfl <| el H fun t1424 h1425 H => Dv.callq (ret := vB t1424) rfl trivial rfl rfl ⟨_, _, _, h1425, rfl, rfl⟩ <| un0 rfl rfl (run_not _) <| .fin <| cd H rfl (fun _ H => ?_) (fun _ H => ?_)
 rotate_left
 ·
  refine WP.skip <| rg 2 0 <| bn0 rfl rfl rfl run_add <| mv0 rfl rfl <| .fin <| ng (sg 2 [0,1] 2) fun _ _ => ?_
  exact bk j1427 (w64 (x1418 + 1)) H
 refine WP.seq <| rg 1 0 <| as0 rfl rfl <| .fin ?_
 replace H := Gets.outr H
 obtain rfl := Gets.out H
 exact rt i2 rfl () 2 [0,1] 2 (.cons (res_tmp rfl) .nil)
theorem dag_Same.c {k : Nat} {a0 : Event} {a1 : Event} {r : Bool} (h : dag_Same.f k a0 a1 = some r) : Pt Tryz.prog 65 [agg (Event.enc a0), agg (Event.enc a1)] (vB r) := by
 unfold dag_Same.f at h
 refine (Tr.body Tryz.func65 (c := _) rfl Tryz.ntmps65 (Nat.le_of_ble_eq_true rfl) fun R0 F => ?_).pt
 replace h := Gets.of h
 have H := h
 clear h
 refine WP.seq <| rg 3 3 <| Dv.box rfl trivial rfl cA nofun fun b1429 => Dv.box rfl trivial rfl cA nofun fun b1430 => as0 rfl rfl <| .fin <| WP.seq <| rg 41 0 <| fb rfl trivial rfl fa33_0 <| ld 1 rfl trivial rfl sc9 rfl rfl <| fb rfl trivial rfl fa33_0 <| ld 0 rfl trivial rfl sc9 rfl rfl <| bn0 rfl rfl rfl run_seq <| mv0 rfl rfl ?_
 cases c1431 : decide (a0.fID = a1.fID)
 ·
  replace H := Gets.cf H c1431
  refine sk rfl rfl <| sk rfl rfl <| sk rfl rfl <| sk rfl rfl <| sk rfl rfl <| pf0 rfl rfl rfl <| mv0 rfl rfl <| sk rfl rfl <| sk rfl rfl <| sk rfl rfl <| sk rfl rfl <| sk rfl rfl <| pf0 rfl rfl rfl <| mv0 rfl rfl <| sk rfl rfl <| sk rfl rfl <| sk rfl rfl <| sk rfl rfl <| sk rfl rfl <| pf0 rfl rfl rfl <| mv0 rfl rfl <| sk rfl rfl <| sk rfl rfl <| sk rfl rfl <| sk rfl rfl <| sk rfl rfl <| pf0 rfl rfl rfl <| mv0 rfl rfl <| sk rfl rfl <| sk rfl rfl <| sk rfl rfl <| sk rfl rfl <| sk rfl rfl <| pf0 rfl rfl rfl <| as0 rfl rfl <| .fin ?_
  obtain rfl := Gets.out H
  exact rt i2 rfl () 2 [0,1] 2 (.cons (res_tmp rfl) .nil)
 replace H := Gets.ct H c1431
 refine fb rfl (gg rfl) rfl fa33_1 <| ld 1 rfl (gg rfl) rfl sc9 rfl rfl <| fb rfl (gg rfl) rfl fa33_1 <| ld 0 rfl (gg rfl) rfl sc9 rfl rfl <| bng rfl rfl rfl rfl run_seq <| pt0 rfl rfl rfl <| mv0 rfl rfl ?_
 cases c1432 : decide (a0.fRoom = a1.fRoom)
 ·
  replace H := Gets.cf H c1432
  refine sk rfl rfl <| sk rfl rfl <| sk rfl rfl <| sk rfl rfl <| sk rfl rfl <| pf0 rfl rfl rfl <| mv0 rfl rfl <| sk rfl rfl <| sk rfl rfl <| sk rfl rfl <| sk rfl rfl <| sk rfl rfl <| pf0 rfl rfl rfl <| mv0 rfl rfl <| sk rfl rfl <| sk rfl rfl <| sk rfl rfl <| sk rfl rfl <| sk rfl rfl <| pf0 rfl rfl rfl <| mv0 rfl rfl <| sk rfl rfl <| sk rfl rfl <| sk rfl rfl <| sk rfl rfl <| sk rfl rfl <| pf0 rfl rfl rfl <| as0 rfl rfl <| .fin ?_
  obtain rfl := Gets.out H
  exact rt i2 rfl () 2 [0,1] 2 (.cons (res_tmp rfl) .nil)
 replace H := Gets.ct H c1432
 refine fb rfl (gg rfl) rfl fa33_2 <| ld 1 rfl (gg rfl) rfl sc31 rfl rfl <| fb rfl (gg rfl) rfl fa33_2 <| ld 0 rfl (gg rfl) rfl sc31 rfl rfl <| el H fun t1433 h1434 H => Dv.call rfl (gg rfl) cal61 rfl (slices_Equal_string.c h1434) <| pt0 rfl rfl rfl <| mv0 rfl rfl ?_
 cases c1435 : t1433
 ·
  replace H := Gets.cf H c1435
  refine sk rfl rfl <| sk rfl rfl <| sk rfl rfl <| sk rfl rfl <| sk rfl rfl <| pf0 rfl rfl rfl <| mv0 rfl rfl <| sk rfl rfl <| sk rfl rfl <| sk rfl rfl <| sk rfl rfl <| sk rfl rfl <| pf0 rfl rfl rfl <| mv0 rfl rfl <| sk rfl rfl <| sk rfl rfl <| sk rfl rfl <| sk rfl rfl <| sk rfl rfl <| pf0 rfl rfl rfl <| as0 rfl rfl <| .fin ?_
  obtain rfl := Gets.out H
  exact rt i2 rfl () 2 [0,1] 2 (.cons (res_tmp rfl) .nil)
 replace H := Gets.ct H c1435
 refine fb rfl (gg rfl) rfl fa33_3 <| ld 1 rfl (gg rfl) rfl sc9 rfl rfl <| fb rfl (gg rfl) rfl fa33_3 <| ld 0 rfl (gg rfl) rfl sc9 rfl rfl <| bng rfl rfl rfl rfl run_seq <| pt0 rfl rfl rfl <| mv0 rfl rfl ?_
 cases c1436 : decide (a0.fThread = a1.fThread)
 ·
  replace H := Gets.cf H c1436
  refine sk rfl rfl <| sk rfl rfl <| sk rfl rfl <| sk rfl rfl <| sk rfl rfl <| pf0 rfl rfl rfl <| mv0 rfl rfl <| sk rfl rfl <| sk rfl rfl <| sk rfl rfl <| sk rfl rfl <| sk rfl rfl <| pf0 rfl rfl rfl <| as0 rfl rfl <| .fin ?_
  obtain rfl := Gets.out H
  exact rt i2 rfl () 2 [0,1] 2 (.cons (res_tmp rfl) .nil)
 replace H := Gets.ct H c1436
 refine fb rfl (gg rfl) rfl fa33_4 <| ld 1 rfl (gg rfl) rfl sc9 rfl rfl <| fb rfl (gg rfl) rfl fa33_4 <| ld 0 rfl (gg rfl) rfl sc9 rfl rfl <| bng rfl rfl rfl rfl run_seq <| pt0 rfl rfl rfl <| mv0 rfl rfl ?_
 cases c1437 : decide (a0.fUser = a1.fUser)
 ·
  replace H := Gets.cf H c1437
  refine sk rfl rfl <| sk rfl rfl <| sk rfl rfl <| sk rfl rfl <| sk rfl rfl <| pf0 rfl rfl rfl <| as0 rfl rfl <| .fin ?_
  obtain rfl := Gets.out H
  exact rt i2 rfl () 2 [0,1] 2 (.cons (res_tmp rfl) .nil)
 replace H := Gets.ct H c1437
 refine fb rfl (gg rfl) rfl fa33_5 <| ld 1 rfl (gg rfl) rfl sc3 rfl rfl <| fb rfl (gg rfl) rfl fa33_5 <| ld 0 rfl (gg rfl) rfl sc3 rfl rfl <| bng rfl rfl rfl rfl run_eq <| pt0 rfl rfl rfl <| as0 rfl rfl <| .fin ?_
 obtain rfl := Gets.out H
 exact rt i2 rfl () 2 [0,1] 2 (.cons (res_tmp rfl) .nil)
theorem concourseref10_Same.c {k : Nat} {a0 : RView} {a1 : RView} {r : Bool} (h : concourseref10_Same.f k a0 a1 = some r) : Pt Tryz.prog 24 [agg (RView.enc a0), agg (RView.enc a1)] (vB r) := by
 unfold concourseref10_Same.f at h
 refine (Tr.body Tryz.func24 (c := _) rfl Tryz.ntmps24 (Nat.le_of_ble_eq_true rfl) fun R0 F => ?_).pt
 replace h := Gets.of h
 have H := h
 clear h
 refine WP.seq <| rg 3 3 <| Dv.box rfl trivial rfl cA nofun fun b1453 => Dv.box rfl trivial rfl cA nofun fun b1454 => as0 rfl rfl <| .fin <| WP.seq <| WP.seq <| rg 7 0 <| fb rfl trivial rfl fa28_0 <| ld 1 rfl trivial rfl sc26 rfl rfl <| Dv.lenl rfl trivial rfl Tryz.underlying26 <| fb rfl trivial rfl fa28_0 <| ld 0 rfl trivial rfl sc26 rfl rfl <| Dv.lenl rfl trivial rfl Tryz.underlying26 <| bn0 rfl rfl rfl run_ne <| .fin <| cd H rfl (fun _ H => ?_) (fun _ H => ?_)
 ·
  refine WP.seq <| rg 1 0 <| as0 rfl rfl <| .fin ?_
  obtain rfl := Gets.out H
  exact rt i2 rfl () 2 [0,1] 2 (.cons (res_tmp rfl) .nil)
 refine WP.skip <| WP.seqr H id (fun p1456 : Int × Bool => [(0, agg (RView.enc a0)), (1, agg (RView.enc a1)), (2, eq (.pointer (some ⟨b1453, 0, none⟩))), (3, eq (.pointer (some ⟨b1454, 0, none⟩))), (4, vB false), (5, vI p1456.1), (13, vB ((a0.fD.length : Int) != (a1.fD.length : Int))), (18, vB p1456.2)]) (fun p1456 : Int × Bool => [blk b1454 28 (RView.enc a1), blk b1453 28 (RView.enc a0)] ++ F) (fun p1456 H => ?_) (fun H => ?_)
 ·
  refine WP.seq <| rg 1 0 <| as0 rfl rfl <| .fin ?_
  obtain rfl := Gets.out H
  exact rt i2 rfl () 2 [0,1] 2 (.cons (res_tmp rfl) .nil)
 refine WP.seq <| rg 1 0 <| as0 rfl rfl <| .fin <| WP.block <| wg (sg 2 [0,1] 0) fun _ _ => ?_
 refine lp (fun j_ (p1473 : Int) => concourseref10_Same.l0 k a0 a1 j_ p1473) 0 H (fun p1473 => [(0, agg (RView.enc a0)), (1, agg (RView.enc a1)), (2, eq (.pointer (some ⟨b1453, 0, none⟩))), (3, eq (.pointer (some ⟨b1454, 0, none⟩))), (4, vB false), (5, vI p1473), (13, vB ((a0.fD.length : Int) != (a1.fD.length : Int)))]) (fun p1473 => [blk b1454 28 (RView.enc a1), blk b1453 28 (RView.enc a0)] ++ F) ?_
 rintro j_ x1457 H
 rcases j_ with _ | j1472
 ·
  exact (Gets.no H).elim
 replace H : Gets (concourseref10_Same.l0 k a0 a1 (j1472 + 1) x1457) _ := H
 rw [concourseref10_Same.l0] at H
 refine WP.seq <| WP.seq <| rg 5 0 <| mv0 rfl rfl <| fb rfl trivial rfl fa28_0 <| ld 1 rfl trivial rfl sc26 rfl rfl <| Dv.lenl rfl trivial rfl Tryz.underlying26 <| bn0 rfl rfl rfl run_lt <| .fin <| cd H rfl (fun _ H => ?_) (fun _ H => ?_)
 rotate_left
 ·
  refine WP.exit ?_
  replace H := Gets.out H
  exact jn (x1457, decide (x1457 < (a0.fD.length : Int))) H
 refine WP.skip <| WP.seq <| WP.block <| WP.seq <| dg Tryz.checked.mixed 14 0 <| fb rfl trivial rfl fa28_0 <| ld 1 rfl trivial rfl sc26 rfl rfl <| mv0 rfl rfl <| gr H fun g1459 H => Dv.ixr rfl trivial rfl rfl Tryz.underlying26 Tryz.underlying36 c36 g1459.1 g1459.2 <| ldsR rfl trivial rfl sg36 rfl <| el H fun t1460 h1461 H => cl rfl cal16 rfl (concourseref07_All.c h1461) <| fb rfl trivial rfl fa28_0 <| ld 0 rfl trivial rfl sc26 rfl rfl <| mv0 rfl rfl <| gr H fun g1462 H => Dv.ixr rfl trivial rfl rfl Tryz.underlying26 Tryz.underlying36 c36 g1462.1 g1462.2 <| ldsR rfl trivial rfl sg36 rfl <| el H fun t1463 h1464 H => cl rfl cal16 rfl (concourseref07_All.c h1464) <| el H fun t1465 h1466 H => cl rfl cal14 rfl (concourseref07_SameAll.c h1466) <| as0 rfl rfl <| .fin <| WP.seq <| dg Tryz.checked.mixed 17 0 <| mv0 rfl rfl <| un0 rfl rfl (run_not _) <| mv0 rfl rfl ?_
 cases c1467 : !t1465
 rotate_left
 ·
  replace H := Gets.ct H c1467
  refine sk rfl rfl <| sk rfl rfl <| sk rfl rfl <| sk rfl rfl <| sk rfl rfl <| sk rfl rfl <| sk rfl rfl <| sk rfl rfl <| sk rfl rfl <| sk rfl rfl <| sk rfl rfl <| sk rfl rfl <| sk rfl rfl <| pt0 rfl rfl rfl <| .fin <| WP.cond rfl (fun _ => ?_) nofun
  refine WP.seq <| rg 1 0 <| as0 rfl rfl <| .fin ?_
  replace H := Gets.outr H
  obtain rfl := Gets.out H
  exact rt i2 rfl () 2 [0,1] 2 (.cons (res_tmp rfl) .nil)
 replace H := Gets.cf H c1467
 refine fb rfl (gg rfl) rfl fa28_0 <| ld 1 rfl (gg rfl) rfl sc26 rfl rfl <| mvg rfl rfl rfl <| gr H fun g1469 H => Dv.ixr rfl (gg rfl) rfl rfl Tryz.underlying26 Tryz.underlying36 c36 g1469.1 g1469.2 <| fr rfl (gg rfl) rfl fa36_0 rfl <| ldR rfl (gg rfl) rfl sc9 rfl <| fb rfl (gg rfl) rfl fa28_0 <| ld 0 rfl (gg rfl) rfl sc26 rfl rfl <| mvg rfl rfl rfl <| gr H fun g1470 H => Dv.ixr rfl (gg rfl) rfl rfl Tryz.underlying26 Tryz.underlying36 c36 g1470.1 g1470.2 <| fr rfl (gg rfl) rfl fa36_0 rfl <| ldR rfl (gg rfl) rfl sc9 rfl <| bng rfl rfl rfl rfl run_sne <| pf0 rfl rfl rfl <| .fin <| cd H rfl (fun _ H => ?_) (fun _ H => ?_)
 rotate_left
 ·
  exact WP.skip <| rg 3 0 <| mv0 rfl rfl <| bn0 rfl rfl rfl run_add <| as0 rfl rfl <| .fin <| bk j1472 (w64 (x1457 + 1)) H
 refine WP.seq <| rg 1 0 <| as0 rfl rfl <| .fin ?_
 replace H := Gets.outr H
 obtain rfl := Gets.out H
 exact rt i2 rfl () 2 [0,1] 2 (.cons (res_tmp rfl) .nil)
theorem concourseref10_RoomsOf.c {k : Nat} {a0 : RView} {a1 : ByteArray} {r : (List ByteArray)} (h : concourseref10_RoomsOf.f k a0 a1 = some r) : Tr Tryz.prog 43 [agg (RView.enc a0), vS a1] [] (γ := OV) (fun _ => True) (fun g => eq g.1) (fun g => [own strK g.1 r]) := by
 unfold concourseref10_RoomsOf.f at h
 refine Tr.body Tryz.func43 (c := _) rfl Tryz.ntmps43 (Nat.le_of_ble_eq_true rfl) fun R0 F => ?_
 replace h := Gets.of h
 have H := h
 clear h
 refine WP.seq <| rg 2 1 <| Dv.box rfl trivial rfl cA nofun fun b1507 => as0 rfl rfl <| .fin <| WP.seq <| rg 1 0 <| as0 rfl rfl <| .fin <| WP.seqn H (fun q1523 : (Int × Bool × (List ByteArray)) × OV => q1523.1) (fun q1523 : (Int × Bool × (List ByteArray)) × OV => [(0, agg (RView.enc a0)), (1, vS a1), (2, eq (.pointer (some ⟨b1507, 0, none⟩))), (4, eq (.slice none 0 0)), (5, eq q1523.2.1), (6, vI q1523.1.1), (12, vB q1523.1.2.1)]) (fun q1523 : (Int × Bool × (List ByteArray)) × OV => [blk b1507 28 (RView.enc a0), own strK q1523.2.1 q1523.1.2.2] ++ F) (fun q1523 H => ?_) (fun H => ?_)
 ·
  obtain ⟨p1508, v1509⟩ := q1523
  refine WP.seq <| rg 2 0 <| mv0 rfl rfl <| as0 rfl rfl <| .fin ?_
  obtain rfl := Gets.out H
  exact rt i2 rfl v1509 2 [0,1] 1 (.cons (res_tmp rfl) .nil)
 refine WP.seq <| rg 1 0 <| as0 rfl rfl <| .fin <| WP.block <| wg (st_nil strK none) fun _ _ => ?_
 refine wg (sg 2 [1,0] 0) fun _ _ => ?_
 refine lp (fun j_ (p1522 : Int × (List ByteArray) × OV) => concourseref10_RoomsOf.l0 k a0 a1 j_ p1522.1 p1522.2.1) (0, ([] : List ByteArray), nilV) H (fun p1522 => [(0, agg (RView.enc a0)), (1, vS a1), (2, eq (.pointer (some ⟨b1507, 0, none⟩))), (4, eq (.slice none 0 0)), (5, eq p1522.2.2.1), (6, vI p1522.1)]) (fun p1522 => [blk b1507 28 (RView.enc a0), own strK p1522.2.2.1 p1522.2.1] ++ F) ?_
 rintro j_ ⟨x1510, x1511, v1512⟩ H
 rcases j_ with _ | j1521
 ·
  exact (Gets.no H).elim
 replace H : Gets (concourseref10_RoomsOf.l0 k a0 a1 (j1521 + 1) x1510 x1511) _ := H
 rw [concourseref10_RoomsOf.l0] at H
 refine WP.seq <| WP.seq <| rg 5 0 <| mv0 rfl rfl <| fb rfl trivial rfl fa28_0 <| ld 0 rfl trivial rfl sc26 rfl rfl <| Dv.lenl rfl trivial rfl Tryz.underlying26 <| bn0 rfl rfl rfl run_lt <| .fin <| cd H rfl (fun _ H => ?_) (fun _ H => ?_)
 rotate_left
 ·
  refine WP.exit ?_
  replace H := Gets.out H
  exact jn ((x1510, decide (x1510 < (a0.fD.length : Int)), x1511), v1512) H
 refine WP.skip <| WP.seq <| WP.block <| WP.seq <| rg 8 0 <| fb rfl trivial rfl fa28_0 <| ld 0 rfl trivial rfl sc26 rfl rfl <| mv0 rfl rfl <| gr H fun g1514 H => Dv.ixr rfl trivial rfl rfl Tryz.underlying26 Tryz.underlying36 c36 g1514.1 g1514.2 <| ldsR rfl trivial rfl sg36 rfl <| mv0 rfl rfl <| el H fun t1515 h1516 H => cl rfl cal71 rfl (concourseref09_Joined.c h1516) <| as0 rfl rfl <| .fin <| WP.seq <| rg 1 0 <| mv0 rfl rfl <| .fin <| cd H rfl (fun _ H => ?_) (fun _ H => ?_)
 rotate_left
 ·
  exact WP.skip <| rg 3 0 <| mv0 rfl rfl <| bn0 rfl rfl rfl run_add <| as0 rfl rfl <| .fin <| bk j1521 (w64 (x1510 + 1), x1511, v1512) H
 refine rg 10 256 <| mv0 rfl rfl <| fb rfl trivial rfl fa28_0 <| ld 0 rfl trivial rfl sc26 rfl rfl <| mv0 rfl rfl <| gr H fun g1518 H => Dv.ixr rfl trivial rfl rfl Tryz.underlying26 Tryz.underlying36 c36 g1518.1 g1518.2 <| fr rfl trivial rfl fa36_0 rfl <| ldR rfl trivial rfl sc9 rfl <| Dv.lit strK ([(RDag.K.at a0.fD x1510).fRoom] : List ByteArray) (css := [[vS ((RDag.K.at a0.fD x1510).fRoom)]]) rfl trivial Tryz.underlying31 Tryz.underlying9 c9 z9 rfl (by decide) (by decide) rfl ⟨(cells_one (one_eq rfl)), trivial⟩ rfl rfl rfl <| gr H fun g1519 H => ap strK 1 ([(RDag.K.at a0.fD x1510).fRoom] : List ByteArray) src_sl Tryz.underlying31 (.inr ⟨_, Tryz.underlying31⟩) inf9 g1519 nofun fun v1520 => ?_
 exact as0 rfl rfl <| .fin <| rg 3 0 <| mv0 rfl rfl <| bn0 rfl rfl rfl run_add <| as0 rfl rfl <| .fin <| bk j1521 (w64 (x1510 + 1), x1511 ++ ([(RDag.K.at a0.fD x1510).fRoom] : List ByteArray), v1520) H
theorem concourseref10_Servers.c {k : Nat} {a0 : RView} {a1 : ByteArray} {r : (List ByteArray)} (h : concourseref10_Servers.f k a0 a1 = some r) : Tr Tryz.prog 77 [agg (RView.enc a0), vS a1] [] (γ := OV) (fun _ => True) (fun g => eq g.1) (fun g => [own strK g.1 r]) := by
 unfold concourseref10_Servers.f at h
 refine Tr.body Tryz.func77 (c := _) rfl Tryz.ntmps77 (Nat.le_of_ble_eq_true rfl) fun R0 F => ?_
 replace h := Gets.of h
 have H := h
 clear h
 refine WP.seq <| rg 2 1 <| Dv.box rfl trivial rfl cA nofun fun b1524 => as0 rfl rfl <| .fin <| WP.seq <| rg 5 8 <| lds 0 rfl trivial rfl sg28 rfl rfl <| mv0 rfl rfl <| el H fun t1525 h1526 H => cl rfl cal10 rfl (concourseref10_Of.c h1526) <| el H fun t1527 h1528 H => cx 1 [0] cal34 (concourseref09_Servers.c h1528) nofun fun g1529 _ => ?_
 refine as0 rfl rfl <| .fin ?_
 obtain rfl := Gets.out H
 exact rt i2 rfl g1529 2 [1,0] 1 (.cons (res_tmp rfl) .nil)
theorem concourseref10_Peers.c {k : Nat} {a0 : RView} {a1 : ByteArray} {r : (List ByteArray)} (h : concourseref10_Peers.f k a0 a1 = some r) : Tr Tryz.prog 41 [agg (RView.enc a0), vS a1] [] (γ := OV) (fun _ => True) (fun g => eq g.1) (fun g => [own strK g.1 r]) := by
 unfold concourseref10_Peers.f at h
 refine Tr.body Tryz.func41 (c := _) rfl Tryz.ntmps41 (Nat.le_of_ble_eq_true rfl) fun R0 F => ?_
 replace h := Gets.of h
 have H := h
 clear h
 refine WP.seq <| rg 2 1 <| Dv.box rfl trivial rfl cA nofun fun b1530 => as0 rfl rfl <| .fin <| WP.seq <| rg 4 4 <| lds 0 rfl trivial rfl sg28 rfl rfl <| mv0 rfl rfl <| el H fun t1531 h1532 H => cx 1 [0] cal43 (concourseref10_RoomsOf.c h1532) nofun fun g1533 _ => ?_
 refine as0 rfl rfl <| .fin <| WP.seq <| rg 1 0 <| as0 rfl rfl <| .fin <| WP.seqn H (fun q1562 : (Int × Bool × (List ByteArray)) × OV => q1562.1) (fun q1562 : (Int × Bool × (List ByteArray)) × OV => [(0, agg (RView.enc a0)), (1, vS a1), (2, eq (.pointer (some ⟨b1530, 0, none⟩))), (4, eq (.slice none 0 0)), (5, eq g1533.1), (6, eq q1562.2.1), (7, vI q1562.1.1), (16, vB q1562.1.2.1)]) (fun q1562 : (Int × Bool × (List ByteArray)) × OV => [blk b1530 28 (RView.enc a0), own strK g1533.1 t1531, own strK q1562.2.1 q1562.1.2.2] ++ F) (fun q1562 H => ?_) (fun H => ?_)
 ·
  obtain ⟨p1534, v1535⟩ := q1562
  refine WP.seq <| rg 2 0 <| mv0 rfl rfl <| as0 rfl rfl <| .fin ?_
  obtain rfl := Gets.out H
  exact rt i2 rfl v1535 3 [0,1,2] 2 (.cons (res_tmp rfl) .nil)
 refine WP.seq <| rg 1 0 <| as0 rfl rfl <| .fin <| WP.block <| wg (st_nil strK none) fun _ _ => ?_
 refine wg (sg 3 [2,1,0] 0) fun _ _ => ?_
 refine lp (fun j_ (p1561 : Int × (List ByteArray) × OV) => concourseref10_Peers.l0 k a0 t1531 j_ p1561.1 p1561.2.1) (0, ([] : List ByteArray), nilV) H (fun p1561 => [(0, agg (RView.enc a0)), (1, vS a1), (2, eq (.pointer (some ⟨b1530, 0, none⟩))), (4, eq (.slice none 0 0)), (5, eq g1533.1), (6, eq p1561.2.2.1), (7, vI p1561.1)]) (fun p1561 => [blk b1530 28 (RView.enc a0), own strK g1533.1 t1531, own strK p1561.2.2.1 p1561.2.1] ++ F) ?_
 rintro j_ ⟨x1536, x1537, v1538⟩ H
 rcases j_ with _ | j1560
 ·
  exact (Gets.no H).elim
 replace H : Gets (concourseref10_Peers.l0 k a0 t1531 (j1560 + 1) x1536 x1537) _ := H
 rw [concourseref10_Peers.l0] at H
 refine WP.seq <| WP.seq <| rg 4 0 <| mv0 rfl rfl <| mv0 rfl rfl <| Dv.lenw rfl trivial rfl (mem_at 1 rfl) Tryz.underlying31 <| bn0 rfl rfl rfl run_lt <| .fin <| cd H rfl (fun _ H => ?_) (fun _ H => ?_)
 rotate_left
 ·
  refine WP.exit ?_
  replace H := Gets.out H
  exact jn ((x1536, decide (x1536 < (t1531.length : Int)), x1537), v1538) H
 refine WP.skip <| WP.seqn H (fun q1559 : (Int × Bool × (List ByteArray) × (List ByteArray)) × OV × OV => q1559.1) (fun q1559 : (Int × Bool × (List ByteArray) × (List ByteArray)) × OV × OV => [(0, agg (RView.enc a0)), (1, vS a1), (2, eq (.pointer (some ⟨b1530, 0, none⟩))), (4, eq (.slice none 0 0)), (5, eq g1533.1), (6, eq q1559.2.1.1), (7, vI x1536), (8, eq q1559.2.2.1), (9, vI q1559.1.1), (16, vB (decide (x1536 < (t1531.length : Int)))), (28, vB q1559.1.2.1)]) (fun q1559 : (Int × Bool × (List ByteArray) × (List ByteArray)) × OV × OV => [blk b1530 28 (RView.enc a0), own strK g1533.1 t1531, own strK q1559.2.1.1 q1559.1.2.2.1, own strK q1559.2.2.1 q1559.1.2.2.2] ++ F) (fun q1559 H => ?_) (fun H => ?_)
 ·
  obtain ⟨p1540, v1541, v1542⟩ := q1559
  refine rg 3 0 <| mv0 rfl rfl <| bn0 rfl rfl rfl run_add <| as0 rfl rfl <| .fin <| ng (sg 4 [3,0,1,2] 1) fun _ _ => ?_
  exact bk j1560 (w64 (x1536 + 1), p1540.2.2.1, v1541) H
 refine WP.block <| WP.seq <| dg Tryz.checked.mixed 7 32 <| lds 0 rfl trivial rfl sg28 rfl rfl <| mv0 rfl rfl <| mv0 rfl rfl <| gr H fun g1543 H => ?_
 have h1544 : x1536.toNat < t1531.length := idx_lt g1543
 refine Dv.ixw rfl trivial rfl (mem_at 1 rfl) rfl Tryz.underlying31 Tryz.underlying9 c9 g1543.1 g1543.2 <| Dv.ldw (j := x1536.toNat) (f := 0) (p := vS (t1531.getD x1536.toNat default)) rfl trivial rfl (mem_at 1 rfl) h1544 Tryz.underlying9 rfl rfl <| el H fun t1545 h1546 H => cx 3 [0,1,2] cal77 (concourseref10_Servers.c h1546) pC fun g1547 _ => ?_
 refine as0 rfl rfl <| .fin <| WP.seq <| rg 1 0 <| as0 rfl rfl <| .fin <| WP.block <| wg (sg 4 [1,0,2,3] 0) fun _ _ => ?_
 refine lp (fun j_ (p1558 : Int × (List ByteArray) × OV) => concourseref10_Peers.l1 k t1545 j_ p1558.1 p1558.2.1) (0, x1537, v1538) H (fun p1558 => [(0, agg (RView.enc a0)), (1, vS a1), (2, eq (.pointer (some ⟨b1530, 0, none⟩))), (4, eq (.slice none 0 0)), (5, eq g1533.1), (6, eq p1558.2.2.1), (7, vI x1536), (8, eq g1547.1), (9, vI p1558.1), (16, vB (decide (x1536 < (t1531.length : Int))))]) (fun p1558 => [blk b1530 28 (RView.enc a0), own strK g1547.1 t1545, own strK g1533.1 t1531, own strK p1558.2.2.1 p1558.2.1] ++ F) ?_
 rintro j_ ⟨x1548, x1549, v1550⟩ H
 rcases j_ with _ | j1557
 ·
  exact (Gets.no H).elim
 replace H : Gets (concourseref10_Peers.l1 k t1545 (j1557 + 1) x1548 x1549) _ := H
 rw [concourseref10_Peers.l1] at H
 refine WP.seq <| WP.seq <| rg 4 0 <| mv0 rfl rfl <| mv0 rfl rfl <| Dv.lenw rfl trivial rfl (mem_at 1 rfl) Tryz.underlying31 <| bn0 rfl rfl rfl run_lt <| .fin <| cd H rfl (fun _ H => ?_) (fun _ H => ?_)
 rotate_left
 ·
  refine WP.exit ?_
  replace H := Gets.out H
  refine ng (sg 4 [0,2,3,1] 0) fun _ _ => ?_
  exact jn ((x1548, decide (x1548 < (t1545.length : Int)), x1549, t1545), v1550, g1547) H
 refine WP.skip <| WP.seq <| WP.block <| rg 7 32 <| mv0 rfl rfl <| mv0 rfl rfl <| mv0 rfl rfl <| gr H fun g1552 H => ?_
 have h1553 : x1548.toNat < t1545.length := idx_lt g1552
 refine Dv.ixw rfl trivial rfl (mem_at 1 rfl) rfl Tryz.underlying31 Tryz.underlying9 c9 g1552.1 g1552.2 <| Dv.ldw (j := x1548.toNat) (f := 0) (p := vS (t1545.getD x1548.toNat default)) rfl trivial rfl (mem_at 1 rfl) h1553 Tryz.underlying9 rfl rfl <| el H fun t1554 h1555 H => cx 4 [3,0,1,2] cal72 (Tr.lend [own strK v1550.1 x1549] (concourseref09_Put.c h1555) (.cons (lt_own (mem_at 0 rfl)) (.cons lt_id .nil)) (fun _ => flat_eq) (fun _ => (flatAs_cons (flatA_own flatK_str) flatAs_nil))) nofun fun g1556 _ => ?_
 refine as0 rfl rfl <| .fin <| rg 3 0 <| mv0 rfl rfl <| bn0 rfl rfl rfl run_add <| as0 rfl rfl <| .fin <| ng (sg 5 [0,2,3,4,1] 1) fun _ _ => ?_
 exact bk j1557 (w64 (x1548 + 1), t1554, g1556) H
theorem concourseref10_Friends.c {k : Nat} {a0 : RView} {a1 : ByteArray} {a2 : ByteArray} {r : Bool} (h : concourseref10_Friends.f k a0 a1 a2 = some r) : Pt Tryz.prog 46 [agg (RView.enc a0), vS a1, vS a2] (vB r) := by
 unfold concourseref10_Friends.f at h
 refine (Tr.body Tryz.func46 (c := _) rfl Tryz.ntmps46 (Nat.le_of_ble_eq_true rfl) fun R0 F => ?_).pt
 replace h := Gets.of h
 have H := h
 clear h
 refine WP.seq <| rg 2 1 <| Dv.box rfl trivial rfl cA nofun fun b1572 => as0 rfl rfl <| .fin <| WP.seq <| rg 4 4 <| lds 0 rfl trivial rfl sg28 rfl rfl <| mv0 rfl rfl <| el H fun t1573 h1574 H => cx 1 [0] cal43 (concourseref10_RoomsOf.c h1574) nofun fun g1575 _ => ?_
 refine as0 rfl rfl <| .fin <| WP.seqr H id (fun p1576 : Int × Bool => [(0, agg (RView.enc a0)), (1, vS a1), (2, vS a2), (3, eq (.pointer (some ⟨b1572, 0, none⟩))), (6, vB false), (7, eq g1575.1), (8, vI p1576.1), (16, vB p1576.2)]) (fun p1576 : Int × Bool => [blk b1572 28 (RView.enc a0), own strK g1575.1 t1573] ++ F) (fun p1576 H => ?_) (fun H => ?_)
 ·
  refine WP.seq <| rg 1 0 <| as0 rfl rfl <| .fin ?_
  obtain rfl := Gets.out H
  exact rt i2 rfl () 2 [0,1] 2 (.cons (res_tmp rfl) .nil)
 refine WP.seq <| rg 1 0 <| as0 rfl rfl <| .fin <| WP.block <| wg (sg 2 [1,0] 0) fun _ _ => ?_
 refine lp (fun j_ (p1585 : Int) => concourseref10_Friends.l0 k a0 a2 t1573 j_ p1585) 0 H (fun p1585 => [(0, agg (RView.enc a0)), (1, vS a1), (2, vS a2), (3, eq (.pointer (some ⟨b1572, 0, none⟩))), (6, vB false), (7, eq g1575.1), (8, vI p1585)]) (fun p1585 => [blk b1572 28 (RView.enc a0), own strK g1575.1 t1573] ++ F) ?_
 rintro j_ x1577 H
 rcases j_ with _ | j1584
 ·
  exact (Gets.no H).elim
 replace H : Gets (concourseref10_Friends.l0 k a0 a2 t1573 (j1584 + 1) x1577) _ := H
 rw [concourseref10_Friends.l0] at H
 refine WP.seq <| WP.seq <| rg 4 0 <| mv0 rfl rfl <| mv0 rfl rfl <| Dv.lenw rfl trivial rfl (mem_at 1 rfl) Tryz.underlying31 <| bn0 rfl rfl rfl run_lt <| .fin <| cd H rfl (fun _ H => ?_) (fun _ H => ?_)
 rotate_left
 ·
  refine WP.exit ?_
  replace H := Gets.out H
  exact jn (x1577, decide (x1577 < (t1573.length : Int))) H
 refine WP.skip <| WP.seq <| WP.block <| WP.seq <| dg Tryz.checked.mixed 8 0 <| lds 0 rfl trivial rfl sg28 rfl rfl <| mv0 rfl rfl <| mv0 rfl rfl <| gr H fun g1579 H => ?_
 have h1580 : x1577.toNat < t1573.length := idx_lt g1579
 refine Dv.ixw rfl trivial rfl (mem_at 1 rfl) rfl Tryz.underlying31 Tryz.underlying9 c9 g1579.1 g1579.2 <| Dv.ldw (j := x1577.toNat) (f := 0) (p := vS (t1573.getD x1577.toNat default)) rfl trivial rfl (mem_at 1 rfl) h1580 Tryz.underlying9 rfl rfl <| mv0 rfl rfl <| el H fun t1581 h1582 H => cl rfl cal37 rfl (concourseref10_Joined.c h1582) <| as0 rfl rfl <| .fin <| WP.seq <| rg 1 0 <| mv0 rfl rfl <| .fin <| cd H rfl (fun _ H => ?_) (fun _ H => ?_)
 rotate_left
 ·
  exact WP.skip <| rg 3 0 <| mv0 rfl rfl <| bn0 rfl rfl rfl run_add <| as0 rfl rfl <| .fin <| bk j1584 (w64 (x1577 + 1)) H
 refine WP.seq <| rg 1 0 <| as0 rfl rfl <| .fin ?_
 replace H := Gets.outr H
 obtain rfl := Gets.out H
 exact rt i2 rfl () 2 [0,1] 2 (.cons (res_tmp rfl) .nil)
end Go.Proofs.YtigmkniiojpdiaaGreat
