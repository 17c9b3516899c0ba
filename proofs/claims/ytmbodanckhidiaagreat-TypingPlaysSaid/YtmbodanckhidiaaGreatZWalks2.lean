/- The walks. -/
import Derived.Test.YtmbodanckhidiaaGreatZWalks1
import Derived.Test.YtmbodanckhidiaaGreatConQ
import Derived.Eval
set_option linter.all false
set_option maxRecDepth 10000
set_option maxHeartbeats 20000000
namespace Go.Proofs.YtmbodanckhidiaaGreat
open Go Go.Sp
theorem concourseref14_Put.c {k : Nat} {a0 : TRef} {a1 : Edu} {r : TRef × Bool × Int} (h : concourseref14_Put.f k a0 a1 = some r) : Pt Tryz.prog 8 [agg (TRef.enc a0), agg (Edu.enc a1)] (tup [agg (TRef.enc r.1), vB r.2.1, vI r.2.2]) := by
 unfold concourseref14_Put.f at h
 refine (Tr.body Tryz.func8 (c := _) rfl Tryz.ntmps8 (Nat.le_of_ble_eq_true rfl) fun R0 F => ?_).pt
 replace h := Gets.of h
 have H := h
 clear h
 refine WP.seq <| rg 5 7 <| Dv.box rfl trivial rfl cA nofun fun b985 => Dv.box rfl trivial rfl cA nofun fun b986 => al rfl trivial zc28 nofun fun b987 => as0 rfl rfl <| as0 rfl rfl <| .fin <| WP.seq <| rg 3 0 <| lds 1 rfl trivial rfl sg30 rfl rfl <| el H fun t988 h989 H => cl rfl cal24 rfl (concourseref03_May.c h989) <| as0 rfl rfl <| .fin <| WP.seq <| WP.seq <| rg 7 0 <| fb rfl trivial rfl fa30_0 <| ld 1 rfl trivial rfl sc3 rfl rfl <| bn0 rfl rfl rfl run_ne <| mv0 rfl rfl ?_
 cases c990 : (a1.fKind != 2)
 rotate_left
 ·
  replace H := Gets.ct H c990
  refine sk rfl rfl <| sk rfl rfl <| pt0 rfl rfl rfl <| .fin <| WP.cond rfl (fun _ => ?_) nofun
  refine WP.seq <| rg 4 2 <| lds 2 rfl trivial rfl sg28 rfl rfl <| sx 0 rfl trivial rfl rfl cA sz28 rfl rfl rfl nofun ?_
  refine as0 rfl rfl <| as0 rfl rfl <| .fin ?_
  obtain rfl := Gets.out H
  exact rt i2 rfl () 3 [0,1,2] 3 (.cons (res_cells rfl Tryz.underlying28 rfl c28 (mem_at 0 rfl) rfl) (.cons (res_tmp rfl) (.cons (res_tmp rfl) .nil)))
 replace H := Gets.cf H c990
 refine mvg rfl rfl rfl <| ung rfl rfl rfl (run_not _) <| pf0 rfl rfl rfl <| .fin <| cd H rfl (fun _ H => ?_) (fun _ H => ?_)
 ·
  refine WP.seq <| rg 4 2 <| lds 2 rfl trivial rfl sg28 rfl rfl <| sx 0 rfl trivial rfl rfl cA sz28 rfl rfl rfl nofun ?_
  refine as0 rfl rfl <| as0 rfl rfl <| .fin ?_
  obtain rfl := Gets.out H
  exact rt i2 rfl () 3 [0,1,2] 3 (.cons (res_cells rfl Tryz.underlying28 rfl c28 (mem_at 0 rfl) rfl) (.cons (res_tmp rfl) (.cons (res_tmp rfl) .nil)))
 refine WP.skip <| WP.seq <| rg 1 1 <| al rfl trivial zc28 nofun fun b993 => .fin <| WP.seq <| rg 1 0 <| as0 rfl rfl <| .fin <| WP.seqr H (fun q1067 : (Bool × Int × Bool × (List Edu) × (List Bool)) × OV × OV => q1067.1) (fun q1067 : (Bool × Int × Bool × (List Edu) × (List Bool)) × OV × OV => [(0, agg (TRef.enc a0)), (1, agg (Edu.enc a1)), (2, eq (.pointer (some ⟨b985, 0, none⟩))), (3, eq (.pointer (some ⟨b986, 0, none⟩))), (4, eq (.pointer (some ⟨b987, 0, none⟩))), (5, vB false), (6, vI 0), (7, vB t988), (8, eq (.pointer (some ⟨b993, 0, none⟩))), (9, vB q1067.1.1), (10, vI q1067.1.2.1), (20, vB (!t988)), (26, vB q1067.1.2.2.1)]) (fun q1067 : (Bool × Int × Bool × (List Edu) × (List Bool)) × OV × OV => [blk b993 28 [eq q1067.2.1.1, eq q1067.2.2.1], blk b987 28 [eq (.slice none 0 0), eq (.slice none 0 0)], blk b986 30 (Edu.enc a1), blk b985 28 (TRef.enc a0), own Edu.K q1067.2.1.1 q1067.1.2.2.2.1, own boolK q1067.2.2.1 q1067.1.2.2.2.2] ++ F) (fun q1067 H => ?_) (fun H => ?_)
 ·
  obtain ⟨p994, v995, v996⟩ := q1067
  refine WP.seq <| WP.seq <| rg 2 0 <| mv0 rfl rfl <| un0 rfl rfl (run_not _) <| .fin <| cd H rfl (fun _ H => ?_) (fun _ H => ?_)
  rotate_left
  ·
   refine WP.skip <| WP.seq <| rg 4 2 <| lds 0 rfl trivial rfl sg28 rfl rfl <| sx 1 rfl trivial rfl rfl cA sz28 rfl rfl rfl nofun ?_
   refine as0 rfl rfl <| as0 rfl rfl <| .fin <| WP.gh (gh_frz (E' := [(4, eq (.pointer (some ⟨b987, 0, none⟩))), (5, vB true), (6, vI 0)]) (l' := [blk b993 28 [sl Edu.K p994.2.2.2.1, eq v996.1], blk b987 28 [sl Edu.K p994.2.2.2.1, eq v996.1], blk b986 30 (Edu.enc a1), blk b985 28 (TRef.enc a0), own boolK v996.1 p994.2.2.2.2] ++ F) 4 rfl (cve_cons rfl cv_id (cve_cons rfl cv_id (cve_cons rfl cv_id cve_nil))) (all2_app (.cons (cva_blk (.cons cv_eq (.cons cv_id .nil))) (.cons (cva_blk (.cons cv_eq (.cons cv_id .nil))) (.cons cva_id (.cons cva_id (.cons cva_id .nil))))) fun _ => cva_id)) (fun _ _ => ?_)
   refine WP.gh (gh_frz (E' := [(4, eq (.pointer (some ⟨b987, 0, none⟩))), (5, vB true), (6, vI 0)]) (l' := [blk b993 28 [sl Edu.K p994.2.2.2.1, sl boolK p994.2.2.2.2], blk b987 28 [sl Edu.K p994.2.2.2.1, sl boolK p994.2.2.2.2], blk b986 30 (Edu.enc a1), blk b985 28 (TRef.enc a0)] ++ F) 4 rfl (cve_cons rfl cv_id (cve_cons rfl cv_id (cve_cons rfl cv_id cve_nil))) (all2_app (.cons (cva_blk (.cons cv_id (.cons cv_eq .nil))) (.cons (cva_blk (.cons cv_id (.cons cv_eq .nil))) (.cons cva_id (.cons cva_id .nil)))) fun _ => cva_id)) (fun _ _ => ?_)
   obtain rfl := Gets.out H
   exact rt i2 rfl () 4 [0,1,2,3] 4 (.cons (res_cells rfl Tryz.underlying28 rfl c28 (mem_at 1 rfl) rfl) (.cons (res_tmp rfl) (.cons (res_tmp rfl) .nil)))
  refine WP.seq <| rg 7 80 <| fb rfl trivial rfl fa28_0 <| ld 0 rfl trivial rfl sc22 rfl rfl <| lds 2 rfl trivial rfl sg30 rfl rfl <| Dv.lit Edu.K ([a1] : List Edu) (css := [Edu.enc a1]) rfl trivial Tryz.underlying22 Tryz.underlying30 c30 z30 rfl (by decide) (by decide) rfl ⟨(cells_agg (Edu.K.one _)), trivial⟩ rfl rfl rfl <| gr H fun g998 H => ap Edu.K 4 ([a1] : List Edu) src_sl Tryz.underlying22 (.inr ⟨_, Tryz.underlying22⟩) inf30 g998 nofun fun v999 => ?_
  refine fb rfl trivial rfl fa28_0 <| sx 0 rfl trivial rfl rfl (cells_one one_ov) sz22 rfl rfl rfl nofun ?_
  refine .fin <| rg 6 40 <| fb rfl trivial rfl fa28_1 <| ld 0 rfl trivial rfl sc23 rfl rfl <| Dv.lit boolK ([false] : List Bool) (css := [[vB false]]) rfl trivial Tryz.underlying23 Tryz.underlying4 c4 z4 rfl (by decide) (by decide) rfl ⟨(cells_one (one_eq rfl)), trivial⟩ rfl rfl rfl <| gr H fun g1000 H => ap boolK 5 ([false] : List Bool) src_sl Tryz.underlying23 (.inr ⟨_, Tryz.underlying23⟩) inf4 g1000 nofun fun v1001 => ?_
  refine fb rfl trivial rfl fa28_1 <| sx 0 rfl trivial rfl rfl (cells_one one_ov) sz23 rfl rfl rfl nofun ?_
  refine .fin <| WP.seq <| rg 4 2 <| lds 0 rfl trivial rfl sg28 rfl rfl <| sx 1 rfl trivial rfl rfl cA sz28 rfl rfl rfl nofun ?_
  refine as0 rfl rfl <| as0 rfl rfl <| .fin <| WP.gh (gh_frz (E' := [(4, eq (.pointer (some ⟨b987, 0, none⟩))), (5, vB true), (6, vI 0)]) (l' := [blk b993 28 [sl Edu.K (p994.2.2.2.1 ++ ([a1] : List Edu)), eq v1001.1], blk b987 28 [sl Edu.K (p994.2.2.2.1 ++ ([a1] : List Edu)), eq v1001.1], blk b986 30 (Edu.enc a1), blk b985 28 (TRef.enc a0), own boolK v1001.1 (p994.2.2.2.2 ++ ([false] : List Bool))] ++ F) 4 rfl (cve_cons rfl cv_id (cve_cons rfl cv_id (cve_cons rfl cv_id cve_nil))) (all2_app (.cons (cva_blk (.cons cv_eq (.cons cv_id .nil))) (.cons (cva_blk (.cons cv_eq (.cons cv_id .nil))) (.cons cva_id (.cons cva_id (.cons cva_id .nil))))) fun _ => cva_id)) (fun _ _ => ?_)
  refine WP.gh (gh_frz (E' := [(4, eq (.pointer (some ⟨b987, 0, none⟩))), (5, vB true), (6, vI 0)]) (l' := [blk b993 28 [sl Edu.K (p994.2.2.2.1 ++ ([a1] : List Edu)), sl boolK (p994.2.2.2.2 ++ ([false] : List Bool))], blk b987 28 [sl Edu.K (p994.2.2.2.1 ++ ([a1] : List Edu)), sl boolK (p994.2.2.2.2 ++ ([false] : List Bool))], blk b986 30 (Edu.enc a1), blk b985 28 (TRef.enc a0)] ++ F) 4 rfl (cve_cons rfl cv_id (cve_cons rfl cv_id (cve_cons rfl cv_id cve_nil))) (all2_app (.cons (cva_blk (.cons cv_id (.cons cv_eq .nil))) (.cons (cva_blk (.cons cv_id (.cons cv_eq .nil))) (.cons cva_id (.cons cva_id .nil)))) fun _ => cva_id)) (fun _ _ => ?_)
  obtain rfl := Gets.out H
  exact rt i2 rfl () 4 [0,1,2,3] 4 (.cons (res_cells rfl Tryz.underlying28 rfl c28 (mem_at 1 rfl) rfl) (.cons (res_tmp rfl) (.cons (res_tmp rfl) .nil)))
 refine WP.seq <| rg 1 0 <| as0 rfl rfl <| .fin <| WP.block <| wg (st_nil Edu.K none) fun _ _ => ?_
 refine wg (st_nil boolK none) fun _ _ => ?_
 refine wg (sg 6 [2,3,4,5,1,0] 0) fun _ _ => ?_
 refine lp (fun j_ (p1066 : Bool × Int × (List Edu) × (List Bool) × OV × OV) => concourseref14_Put.l0 k a0 a1 j_ p1066.1 p1066.2.1 p1066.2.2.1 p1066.2.2.2.1) (false, 0, ([] : List Edu), ([] : List Bool), nilV, nilV1) H (fun p1066 => [(0, agg (TRef.enc a0)), (1, agg (Edu.enc a1)), (2, eq (.pointer (some ⟨b985, 0, none⟩))), (3, eq (.pointer (some ⟨b986, 0, none⟩))), (4, eq (.pointer (some ⟨b987, 0, none⟩))), (5, vB false), (6, vI 0), (7, vB t988), (8, eq (.pointer (some ⟨b993, 0, none⟩))), (9, vB p1066.1), (10, vI p1066.2.1), (20, vB (!t988))]) (fun p1066 => [blk b993 28 [eq p1066.2.2.2.2.1.1, eq p1066.2.2.2.2.2.1], blk b987 28 [eq (.slice none 0 0), eq (.slice none 0 0)], blk b986 30 (Edu.enc a1), blk b985 28 (TRef.enc a0), own Edu.K p1066.2.2.2.2.1.1 p1066.2.2.1, own boolK p1066.2.2.2.2.2.1 p1066.2.2.2.1] ++ F) ?_
 rintro j_ ⟨x1002, x1003, x1004, x1005, v1006, v1007⟩ H
 rcases j_ with _ | j1065
 ·
  exact (Gets.no H).elim
 replace H : Gets (concourseref14_Put.l0 k a0 a1 (j1065 + 1) x1002 x1003 x1004 x1005) _ := H
 rw [concourseref14_Put.l0] at H
 refine WP.seq <| WP.seq <| rg 5 0 <| mv0 rfl rfl <| fb rfl trivial rfl fa28_0 <| ld 3 rfl trivial rfl sc22 rfl rfl <| Dv.lenl rfl trivial rfl Tryz.underlying22 <| bn0 rfl rfl rfl run_lt <| .fin <| cd H rfl (fun _ H => ?_) (fun _ H => ?_)
 rotate_left
 ·
  refine WP.exit ?_
  replace H := Gets.out H
  exact jn ((x1002, x1003, decide (x1003 < (a0.fL.length : Int)), x1004, x1005), v1006, v1007) H
 refine WP.skip <| WP.seq <| WP.block <| WP.seq <| rg 7 96 <| fb rfl trivial rfl fa28_0 <| ld 3 rfl trivial rfl sc22 rfl rfl <| mv0 rfl rfl <| gr H fun g1009 H => Dv.ixr rfl trivial rfl rfl Tryz.underlying22 Tryz.underlying30 c30 g1009.1 g1009.2 <| ldsR rfl trivial rfl sg30 rfl <| al rfl trivial zc30 nofun fun b1010 => sx 0 rfl trivial rfl rfl cA sz30 rfl rfl rfl nofun ?_
 refine .fin <| WP.seq <| WP.seq <| rg 12 0 <| fb rfl trivial rfl fa30_1 <| ld 0 rfl trivial rfl sc9 rfl rfl <| fb rfl trivial rfl fa30_1 <| ld 3 rfl trivial rfl sc9 rfl rfl <| bn0 rfl rfl rfl run_seq <| mv0 rfl rfl ?_
 cases c1011 : decide (((Edu.K.at a0.fL x1003).fRoom) = a1.fRoom)
 ·
  replace H := Gets.cf H c1011
  refine sk rfl rfl <| sk rfl rfl <| sk rfl rfl <| sk rfl rfl <| sk rfl rfl <| pf0 rfl rfl rfl <| .fin <| WP.cond rfl nofun (fun _ => ?_)
  refine WP.skip <| WP.seqn H (fun q1064 : (Bool × Bool × (List Edu) × (List Bool)) × OV × OV => q1064.1) (fun q1064 : (Bool × Bool × (List Edu) × (List Bool)) × OV × OV => [(0, agg (TRef.enc a0)), (1, agg (Edu.enc a1)), (2, eq (.pointer (some ⟨b985, 0, none⟩))), (3, eq (.pointer (some ⟨b986, 0, none⟩))), (4, eq (.pointer (some ⟨b987, 0, none⟩))), (5, vB false), (6, vI 0), (7, vB t988), (8, eq (.pointer (some ⟨b993, 0, none⟩))), (9, vB q1064.1.1), (10, vI x1003), (11, eq (.pointer (some ⟨b1010, 0, none⟩))), (20, vB (!t988)), (26, vB (decide (x1003 < (a0.fL.length : Int)))), (45, vB false), (73, vB q1064.1.2.1)]) (fun q1064 : (Bool × Bool × (List Edu) × (List Bool)) × OV × OV => [blk b1010 30 (Edu.enc (Edu.K.at a0.fL x1003)), blk b993 28 [eq q1064.2.1.1, eq q1064.2.2.1], blk b987 28 [eq (.slice none 0 0), eq (.slice none 0 0)], blk b986 30 (Edu.enc a1), blk b985 28 (TRef.enc a0), own Edu.K q1064.2.1.1 q1064.1.2.2.1, own boolK q1064.2.2.1 q1064.1.2.2.2] ++ F) (fun q1064 H => ?_) (fun H => ?_)
  ·
   obtain ⟨p1041, v1042, v1043⟩ := q1064
   refine WP.seq <| rg 7 80 <| fb rfl trivial rfl fa28_0 <| ld 1 rfl trivial rfl sc22 rfl rfl <| lds 0 rfl trivial rfl sg30 rfl rfl <| Dv.lit Edu.K ([Edu.K.at a0.fL x1003] : List Edu) (css := [Edu.enc (Edu.K.at a0.fL x1003)]) rfl trivial Tryz.underlying22 Tryz.underlying30 c30 z30 rfl (by decide) (by decide) rfl ⟨(cells_agg (Edu.K.one _)), trivial⟩ rfl rfl rfl <| gr H fun g1044 H => ap Edu.K 5 ([Edu.K.at a0.fL x1003] : List Edu) src_sl Tryz.underlying22 (.inr ⟨_, Tryz.underlying22⟩) inf30 g1044 nofun fun v1045 => ?_
   refine fb rfl trivial rfl fa28_0 <| sx 1 rfl trivial rfl rfl (cells_one one_ov) sz22 rfl rfl rfl nofun ?_
   refine .fin <| dg Tryz.checked.mixed 11 1280 <| fb rfl trivial rfl fa28_1 <| ld 1 rfl trivial rfl sc23 rfl rfl <| fb rfl trivial rfl fa28_1 <| ld 4 rfl trivial rfl sc23 rfl rfl <| mv0 rfl rfl <| gr H fun g1046 H => Dv.ixr rfl trivial rfl rfl Tryz.underlying23 Tryz.underlying4 c4 g1046.1 g1046.2 <| ldR rfl trivial rfl sc4 rfl <| Dv.lit boolK ([boolK.at a0.fTold x1003] : List Bool) (css := [[vB (boolK.at a0.fTold x1003)]]) rfl trivial Tryz.underlying23 Tryz.underlying4 c4 z4 rfl (by decide) (by decide) rfl ⟨(cells_one (one_eq rfl)), trivial⟩ rfl rfl rfl <| gr H fun g1047 H => ap boolK 6 ([boolK.at a0.fTold x1003] : List Bool) src_sl Tryz.underlying23 (.inr ⟨_, Tryz.underlying23⟩) inf4 g1047 pB fun v1048 => ?_
   refine fb rfl trivial rfl fa28_1 <| sx 1 rfl trivial rfl rfl (cells_one one_ov) sz23 rfl rfl rfl pB ?_
   refine .fin <| rg 3 0 <| mv0 rfl rfl <| bn0 rfl rfl rfl run_add <| as0 rfl rfl <| .fin <| ng (sg 7 [0,1,2,3,4,5,6] 1) fun _ _ => ?_
   exact bk j1065 (p1041.1, w64 (x1003 + 1), p1041.2.2.1 ++ ([Edu.K.at a0.fL x1003] : List Edu), p1041.2.2.2 ++ ([boolK.at a0.fTold x1003] : List Bool), v1045, v1048) H
  refine WP.seq <| rg 23 0 <| mv0 rfl rfl <| un0 rfl rfl (run_not _) <| mv0 rfl rfl ?_
  cases c1049 : !x1002
  ·
   replace H := Gets.cf H c1049
   refine sk rfl rfl <| sk rfl rfl <| sk rfl rfl <| sk rfl rfl <| sk rfl rfl <| sk rfl rfl <| sku rfl rfl <| sku rfl rfl <| sku rfl rfl <| sku rfl rfl <| sku rfl rfl <| sku rfl rfl <| sku rfl rfl <| sku rfl rfl <| sku rfl rfl <| sku rfl rfl <| sku rfl rfl <| sku rfl rfl <| sk rfl rfl <| pf0 rfl rfl rfl <| .fin <| WP.cond rfl nofun (fun _ => ?_)
   refine WP.skip ?_
   replace H := Gets.out H
   exact jn ((x1002, false, x1004, x1005), v1006, v1007) H
  replace H := Gets.ct H c1049
  refine fb rfl (gg rfl) rfl fa30_1 <| ld 3 rfl (gg rfl) rfl sc9 rfl rfl <| fb rfl (gg rfl) rfl fa30_1 <| ld 0 rfl (gg rfl) rfl sc9 rfl rfl <| bng rfl rfl rfl rfl run_slt <| mvg rfl rfl rfl ?_
  cases c1050 : sLt a1.fRoom ((Edu.K.at a0.fL x1003).fRoom)
  rotate_left
  ·
   replace H := Gets.ct H c1050
   refine sk rfl rfl <| sk rfl rfl <| sk rfl rfl <| sk rfl rfl <| sk rfl rfl <| sk rfl rfl <| sku rfl rfl <| sku rfl rfl <| sku rfl rfl <| sku rfl rfl <| sku rfl rfl <| sk rfl rfl <| ptg rfl rfl rfl rfl <| pt0 rfl rfl rfl <| .fin <| WP.cond rfl (fun _ => ?_) nofun
   refine WP.seq <| rg 7 80 <| fb rfl trivial rfl fa28_0 <| ld 1 rfl trivial rfl sc22 rfl rfl <| lds 3 rfl trivial rfl sg30 rfl rfl <| Dv.lit Edu.K ([a1] : List Edu) (css := [Edu.enc a1]) rfl trivial Tryz.underlying22 Tryz.underlying30 c30 z30 rfl (by decide) (by decide) rfl ⟨(cells_agg (Edu.K.one _)), trivial⟩ rfl rfl rfl <| gr H fun g1052 H => ap Edu.K 5 ([a1] : List Edu) src_sl Tryz.underlying22 (.inr ⟨_, Tryz.underlying22⟩) inf30 g1052 nofun fun v1053 => ?_
   refine fb rfl trivial rfl fa28_0 <| sx 1 rfl trivial rfl rfl (cells_one one_ov) sz22 rfl rfl rfl nofun ?_
   refine .fin <| WP.seq <| rg 6 40 <| fb rfl trivial rfl fa28_1 <| ld 1 rfl trivial rfl sc23 rfl rfl <| Dv.lit boolK ([false] : List Bool) (css := [[vB false]]) rfl trivial Tryz.underlying23 Tryz.underlying4 c4 z4 rfl (by decide) (by decide) rfl ⟨(cells_one (one_eq rfl)), trivial⟩ rfl rfl rfl <| gr H fun g1054 H => ap boolK 6 ([false] : List Bool) src_sl Tryz.underlying23 (.inr ⟨_, Tryz.underlying23⟩) inf4 g1054 nofun fun v1055 => ?_
   refine fb rfl trivial rfl fa28_1 <| sx 1 rfl trivial rfl rfl (cells_one one_ov) sz23 rfl rfl rfl nofun ?_
   refine .fin <| rg 1 0 <| as0 rfl rfl <| .fin ?_
   replace H := Gets.out H
   exact jn ((true, true, x1004 ++ ([a1] : List Edu), x1005 ++ ([false] : List Bool)), v1053, v1055) H
  replace H := Gets.cf H c1050
  refine fb rfl (gg rfl) rfl fa30_1 <| ld 3 rfl (gg rfl) rfl sc9 rfl rfl <| fb rfl (gg rfl) rfl fa30_1 <| ld 0 rfl (gg rfl) rfl sc9 rfl rfl <| bng rfl rfl rfl rfl run_seq <| mvg rfl rfl rfl ?_
  cases c1056 : decide (a1.fRoom = ((Edu.K.at a0.fL x1003).fRoom))
  ·
   replace H := Gets.cf H c1056
   refine sk rfl rfl <| sk rfl rfl <| sk rfl rfl <| sk rfl rfl <| sk rfl rfl <| pfg rfl rfl rfl rfl <| pfg rfl rfl rfl rfl <| pt0 rfl rfl rfl <| .fin <| WP.cond rfl nofun (fun _ => ?_)
   refine WP.skip ?_
   replace H := Gets.out H
   exact jn ((x1002, false, x1004, x1005), v1006, v1007) H
  replace H := Gets.ct H c1056
  refine fb rfl (gg rfl) rfl fa30_2 <| ld 3 rfl (gg rfl) rfl sc9 rfl rfl <| fb rfl (gg rfl) rfl fa30_2 <| ld 0 rfl (gg rfl) rfl sc9 rfl rfl <| bng rfl rfl rfl rfl run_slt <| ptg rfl rfl rfl rfl <| pfg rfl rfl rfl rfl <| pt0 rfl rfl rfl <| .fin <| cd H rfl (fun _ H => ?_) (fun _ H => ?_)
  rotate_left
  ·
   refine WP.skip ?_
   replace H := Gets.out H
   exact jn ((x1002, sLt a1.fUser ((Edu.K.at a0.fL x1003).fUser), x1004, x1005), v1006, v1007) H
  refine WP.seq <| rg 7 80 <| fb rfl trivial rfl fa28_0 <| ld 1 rfl trivial rfl sc22 rfl rfl <| lds 3 rfl trivial rfl sg30 rfl rfl <| Dv.lit Edu.K ([a1] : List Edu) (css := [Edu.enc a1]) rfl trivial Tryz.underlying22 Tryz.underlying30 c30 z30 rfl (by decide) (by decide) rfl ⟨(cells_agg (Edu.K.one _)), trivial⟩ rfl rfl rfl <| gr H fun g1058 H => ap Edu.K 5 ([a1] : List Edu) src_sl Tryz.underlying22 (.inr ⟨_, Tryz.underlying22⟩) inf30 g1058 nofun fun v1059 => ?_
  refine fb rfl trivial rfl fa28_0 <| sx 1 rfl trivial rfl rfl (cells_one one_ov) sz22 rfl rfl rfl nofun ?_
  refine .fin <| WP.seq <| rg 6 40 <| fb rfl trivial rfl fa28_1 <| ld 1 rfl trivial rfl sc23 rfl rfl <| Dv.lit boolK ([false] : List Bool) (css := [[vB false]]) rfl trivial Tryz.underlying23 Tryz.underlying4 c4 z4 rfl (by decide) (by decide) rfl ⟨(cells_one (one_eq rfl)), trivial⟩ rfl rfl rfl <| gr H fun g1060 H => ap boolK 6 ([false] : List Bool) src_sl Tryz.underlying23 (.inr ⟨_, Tryz.underlying23⟩) inf4 g1060 nofun fun v1061 => ?_
  refine fb rfl trivial rfl fa28_1 <| sx 1 rfl trivial rfl rfl (cells_one one_ov) sz23 rfl rfl rfl nofun ?_
  refine .fin <| rg 1 0 <| as0 rfl rfl <| .fin ?_
  replace H := Gets.out H
  exact jn ((true, sLt a1.fUser ((Edu.K.at a0.fL x1003).fUser), x1004 ++ ([a1] : List Edu), x1005 ++ ([false] : List Bool)), v1059, v1061) H
 replace H := Gets.ct H c1011
 refine fb rfl (gg rfl) rfl fa30_2 <| ld 0 rfl (gg rfl) rfl sc9 rfl rfl <| fb rfl (gg rfl) rfl fa30_2 <| ld 3 rfl (gg rfl) rfl sc9 rfl rfl <| bng rfl rfl rfl rfl run_seq <| pt0 rfl rfl rfl <| .fin <| cd H rfl (fun _ H => ?_) (fun _ H => ?_)
 ·
  refine WP.seq <| WP.seq <| rg 4 0 <| lds 3 rfl trivial rfl sg30 rfl rfl <| lds 0 rfl trivial rfl sg30 rfl rfl <| el H fun t1013 h1014 H => cl rfl cal25 rfl (concourseref03_Compare.c h1014) <| bn0 rfl rfl rfl run_le <| .fin <| cd H rfl (fun _ H => ?_) (fun _ H => ?_)
  rotate_left
  ·
   refine WP.skip <| WP.exit <| rg 3 0 <| mv0 rfl rfl <| bn0 rfl rfl rfl run_add <| as0 rfl rfl <| .fin <| ng (sg 7 [0,1,2,3,4,5,6] 1) fun _ _ => ?_
   exact bk j1065 (x1002, w64 (x1003 + 1), x1004, x1005, v1006, v1007) H
  refine WP.seq <| rg 4 2 <| lds 4 rfl trivial rfl sg28 rfl rfl <| sx 2 rfl trivial rfl rfl cA sz28 rfl rfl rfl nofun ?_
  refine as0 rfl rfl <| as0 rfl rfl <| .fin ?_
  replace H := Gets.outr H
  obtain rfl := Gets.out H
  exact rt i2 rfl () 7 [0,1,2,3,4,5,6] 7 (.cons (res_cells rfl Tryz.underlying28 rfl c28 (mem_at 2 rfl) rfl) (.cons (res_tmp rfl) (.cons (res_tmp rfl) .nil)))
 refine WP.skip <| WP.seqn H (fun q1039 : (Bool × Bool × (List Edu) × (List Bool)) × OV × OV => q1039.1) (fun q1039 : (Bool × Bool × (List Edu) × (List Bool)) × OV × OV => [(0, agg (TRef.enc a0)), (1, agg (Edu.enc a1)), (2, eq (.pointer (some ⟨b985, 0, none⟩))), (3, eq (.pointer (some ⟨b986, 0, none⟩))), (4, eq (.pointer (some ⟨b987, 0, none⟩))), (5, vB false), (6, vI 0), (7, vB t988), (8, eq (.pointer (some ⟨b993, 0, none⟩))), (9, vB q1039.1.1), (10, vI x1003), (11, eq (.pointer (some ⟨b1010, 0, none⟩))), (20, vB (!t988)), (26, vB (decide (x1003 < (a0.fL.length : Int)))), (45, vB (decide (((Edu.K.at a0.fL x1003).fUser) = a1.fUser))), (73, vB q1039.1.2.1)]) (fun q1039 : (Bool × Bool × (List Edu) × (List Bool)) × OV × OV => [blk b1010 30 (Edu.enc (Edu.K.at a0.fL x1003)), blk b993 28 [eq q1039.2.1.1, eq q1039.2.2.1], blk b987 28 [eq (.slice none 0 0), eq (.slice none 0 0)], blk b986 30 (Edu.enc a1), blk b985 28 (TRef.enc a0), own Edu.K q1039.2.1.1 q1039.1.2.2.1, own boolK q1039.2.2.1 q1039.1.2.2.2] ++ F) (fun q1039 H => ?_) (fun H => ?_)
 ·
  obtain ⟨p1016, v1017, v1018⟩ := q1039
  refine WP.seq <| rg 7 80 <| fb rfl trivial rfl fa28_0 <| ld 1 rfl trivial rfl sc22 rfl rfl <| lds 0 rfl trivial rfl sg30 rfl rfl <| Dv.lit Edu.K ([Edu.K.at a0.fL x1003] : List Edu) (css := [Edu.enc (Edu.K.at a0.fL x1003)]) rfl trivial Tryz.underlying22 Tryz.underlying30 c30 z30 rfl (by decide) (by decide) rfl ⟨(cells_agg (Edu.K.one _)), trivial⟩ rfl rfl rfl <| gr H fun g1019 H => ap Edu.K 5 ([Edu.K.at a0.fL x1003] : List Edu) src_sl Tryz.underlying22 (.inr ⟨_, Tryz.underlying22⟩) inf30 g1019 nofun fun v1020 => ?_
  refine fb rfl trivial rfl fa28_0 <| sx 1 rfl trivial rfl rfl (cells_one one_ov) sz22 rfl rfl rfl nofun ?_
  refine .fin <| dg Tryz.checked.mixed 11 1280 <| fb rfl trivial rfl fa28_1 <| ld 1 rfl trivial rfl sc23 rfl rfl <| fb rfl trivial rfl fa28_1 <| ld 4 rfl trivial rfl sc23 rfl rfl <| mv0 rfl rfl <| gr H fun g1021 H => Dv.ixr rfl trivial rfl rfl Tryz.underlying23 Tryz.underlying4 c4 g1021.1 g1021.2 <| ldR rfl trivial rfl sc4 rfl <| Dv.lit boolK ([boolK.at a0.fTold x1003] : List Bool) (css := [[vB (boolK.at a0.fTold x1003)]]) rfl trivial Tryz.underlying23 Tryz.underlying4 c4 z4 rfl (by decide) (by decide) rfl ⟨(cells_one (one_eq rfl)), trivial⟩ rfl rfl rfl <| gr H fun g1022 H => ap boolK 6 ([boolK.at a0.fTold x1003] : List Bool) src_sl Tryz.underlying23 (.inr ⟨_, Tryz.underlying23⟩) inf4 g1022 pB fun v1023 => ?_
  refine fb rfl trivial rfl fa28_1 <| sx 1 rfl trivial rfl rfl (cells_one one_ov) sz23 rfl rfl rfl pB ?_
  refine .fin <| rg 3 0 <| mv0 rfl rfl <| bn0 rfl rfl rfl run_add <| as0 rfl rfl <| .fin <| ng (sg 7 [0,1,2,3,4,5,6] 1) fun _ _ => ?_
  exact bk j1065 (p1016.1, w64 (x1003 + 1), p1016.2.2.1 ++ ([Edu.K.at a0.fL x1003] : List Edu), p1016.2.2.2 ++ ([boolK.at a0.fTold x1003] : List Bool), v1020, v1023) H
 refine WP.seq <| rg 23 0 <| mv0 rfl rfl <| un0 rfl rfl (run_not _) <| mv0 rfl rfl ?_
 cases c1024 : !x1002
 ·
  replace H := Gets.cf H c1024
  refine sk rfl rfl <| sk rfl rfl <| sk rfl rfl <| sk rfl rfl <| sk rfl rfl <| sk rfl rfl <| sku rfl rfl <| sku rfl rfl <| sku rfl rfl <| sku rfl rfl <| sku rfl rfl <| sku rfl rfl <| sku rfl rfl <| sku rfl rfl <| sku rfl rfl <| sku rfl rfl <| sku rfl rfl <| sku rfl rfl <| sk rfl rfl <| pf0 rfl rfl rfl <| .fin <| WP.cond rfl nofun (fun _ => ?_)
  refine WP.skip ?_
  replace H := Gets.out H
  exact jn ((x1002, false, x1004, x1005), v1006, v1007) H
 replace H := Gets.ct H c1024
 refine fb rfl (gg rfl) rfl fa30_1 <| ld 3 rfl (gg rfl) rfl sc9 rfl rfl <| fb rfl (gg rfl) rfl fa30_1 <| ld 0 rfl (gg rfl) rfl sc9 rfl rfl <| bng rfl rfl rfl rfl run_slt <| mvg rfl rfl rfl ?_
 cases c1025 : sLt a1.fRoom ((Edu.K.at a0.fL x1003).fRoom)
 rotate_left
 ·
  replace H := Gets.ct H c1025
  refine sk rfl rfl <| sk rfl rfl <| sk rfl rfl <| sk rfl rfl <| sk rfl rfl <| sk rfl rfl <| sku rfl rfl <| sku rfl rfl <| sku rfl rfl <| sku rfl rfl <| sku rfl rfl <| sk rfl rfl <| ptg rfl rfl rfl rfl <| pt0 rfl rfl rfl <| .fin <| WP.cond rfl (fun _ => ?_) nofun
  refine WP.seq <| rg 7 80 <| fb rfl trivial rfl fa28_0 <| ld 1 rfl trivial rfl sc22 rfl rfl <| lds 3 rfl trivial rfl sg30 rfl rfl <| Dv.lit Edu.K ([a1] : List Edu) (css := [Edu.enc a1]) rfl trivial Tryz.underlying22 Tryz.underlying30 c30 z30 rfl (by decide) (by decide) rfl ⟨(cells_agg (Edu.K.one _)), trivial⟩ rfl rfl rfl <| gr H fun g1027 H => ap Edu.K 5 ([a1] : List Edu) src_sl Tryz.underlying22 (.inr ⟨_, Tryz.underlying22⟩) inf30 g1027 nofun fun v1028 => ?_
  refine fb rfl trivial rfl fa28_0 <| sx 1 rfl trivial rfl rfl (cells_one one_ov) sz22 rfl rfl rfl nofun ?_
  refine .fin <| WP.seq <| rg 6 40 <| fb rfl trivial rfl fa28_1 <| ld 1 rfl trivial rfl sc23 rfl rfl <| Dv.lit boolK ([false] : List Bool) (css := [[vB false]]) rfl trivial Tryz.underlying23 Tryz.underlying4 c4 z4 rfl (by decide) (by decide) rfl ⟨(cells_one (one_eq rfl)), trivial⟩ rfl rfl rfl <| gr H fun g1029 H => ap boolK 6 ([false] : List Bool) src_sl Tryz.underlying23 (.inr ⟨_, Tryz.underlying23⟩) inf4 g1029 nofun fun v1030 => ?_
  refine fb rfl trivial rfl fa28_1 <| sx 1 rfl trivial rfl rfl (cells_one one_ov) sz23 rfl rfl rfl nofun ?_
  refine .fin <| rg 1 0 <| as0 rfl rfl <| .fin ?_
  replace H := Gets.out H
  exact jn ((true, true, x1004 ++ ([a1] : List Edu), x1005 ++ ([false] : List Bool)), v1028, v1030) H
 replace H := Gets.cf H c1025
 refine fb rfl (gg rfl) rfl fa30_1 <| ld 3 rfl (gg rfl) rfl sc9 rfl rfl <| fb rfl (gg rfl) rfl fa30_1 <| ld 0 rfl (gg rfl) rfl sc9 rfl rfl <| bng rfl rfl rfl rfl run_seq <| mvg rfl rfl rfl ?_
 cases c1031 : decide (a1.fRoom = ((Edu.K.at a0.fL x1003).fRoom))
 ·
  replace H := Gets.cf H c1031
  refine sk rfl rfl <| sk rfl rfl <| sk rfl rfl <| sk rfl rfl <| sk rfl rfl <| pfg rfl rfl rfl rfl <| pfg rfl rfl rfl rfl <| pt0 rfl rfl rfl <| .fin <| WP.cond rfl nofun (fun _ => ?_)
  refine WP.skip ?_
  replace H := Gets.out H
  exact jn ((x1002, false, x1004, x1005), v1006, v1007) H
 replace H := Gets.ct H c1031
 refine fb rfl (gg rfl) rfl fa30_2 <| ld 3 rfl (gg rfl) rfl sc9 rfl rfl <| fb rfl (gg rfl) rfl fa30_2 <| ld 0 rfl (gg rfl) rfl sc9 rfl rfl <| bng rfl rfl rfl rfl run_slt <| ptg rfl rfl rfl rfl <| pfg rfl rfl rfl rfl <| pt0 rfl rfl rfl <| .fin <| cd H rfl (fun _ H => ?_) (fun _ H => ?_)
 rotate_left
 ·
  refine WP.skip ?_
  replace H := Gets.out H
  exact jn ((x1002, sLt a1.fUser ((Edu.K.at a0.fL x1003).fUser), x1004, x1005), v1006, v1007) H
 refine WP.seq <| rg 7 80 <| fb rfl trivial rfl fa28_0 <| ld 1 rfl trivial rfl sc22 rfl rfl <| lds 3 rfl trivial rfl sg30 rfl rfl <| Dv.lit Edu.K ([a1] : List Edu) (css := [Edu.enc a1]) rfl trivial Tryz.underlying22 Tryz.underlying30 c30 z30 rfl (by decide) (by decide) rfl ⟨(cells_agg (Edu.K.one _)), trivial⟩ rfl rfl rfl <| gr H fun g1033 H => ap Edu.K 5 ([a1] : List Edu) src_sl Tryz.underlying22 (.inr ⟨_, Tryz.underlying22⟩) inf30 g1033 nofun fun v1034 => ?_
 refine fb rfl trivial rfl fa28_0 <| sx 1 rfl trivial rfl rfl (cells_one one_ov) sz22 rfl rfl rfl nofun ?_
 refine .fin <| WP.seq <| rg 6 40 <| fb rfl trivial rfl fa28_1 <| ld 1 rfl trivial rfl sc23 rfl rfl <| Dv.lit boolK ([false] : List Bool) (css := [[vB false]]) rfl trivial Tryz.underlying23 Tryz.underlying4 c4 z4 rfl (by decide) (by decide) rfl ⟨(cells_one (one_eq rfl)), trivial⟩ rfl rfl rfl <| gr H fun g1035 H => ap boolK 6 ([false] : List Bool) src_sl Tryz.underlying23 (.inr ⟨_, Tryz.underlying23⟩) inf4 g1035 nofun fun v1036 => ?_
 refine fb rfl trivial rfl fa28_1 <| sx 1 rfl trivial rfl rfl (cells_one one_ov) sz23 rfl rfl rfl nofun ?_
 refine .fin <| rg 1 0 <| as0 rfl rfl <| .fin ?_
 replace H := Gets.out H
 exact jn ((true, sLt a1.fUser ((Edu.K.at a0.fL x1003).fUser), x1004 ++ ([a1] : List Edu), x1005 ++ ([false] : List Bool)), v1034, v1036) H
theorem concourseref09_Put.c {k : Nat} {a0 : List ByteArray} {a1 : ByteArray} {r : (List ByteArray)} (h : concourseref09_Put.f k a0 a1 = some r) : Tr Tryz.prog 33 [sl strK a0, vS a1] [] (γ := OV) (fun _ => True) (fun g => eq g.1) (fun g => [own strK g.1 r]) := by
 unfold concourseref09_Put.f at h
 refine Tr.body Tryz.func33 (c := _) rfl Tryz.ntmps33 (Nat.le_of_ble_eq_true rfl) fun R0 F => ?_
 replace h := Gets.of h
 have H := h
 clear h
 refine WP.seq <| rg 1 0 <| as0 rfl rfl <| .fin <| WP.seq <| rg 1 0 <| as0 rfl rfl <| .fin <| WP.seq <| rg 1 0 <| as0 rfl rfl <| .fin <| WP.seqn H (fun q1094 : (Bool × Int × Bool × (List ByteArray)) × OV => q1094.1) (fun q1094 : (Bool × Int × Bool × (List ByteArray)) × OV => [(0, sl strK a0), (1, vS a1), (4, eq (.slice none 0 0)), (5, eq q1094.2.1), (6, vB q1094.1.1), (7, vI q1094.1.2.1), (11, vB q1094.1.2.2.1)]) (fun q1094 : (Bool × Int × Bool × (List ByteArray)) × OV => [own strK q1094.2.1 q1094.1.2.2.2] ++ F) (fun q1094 H => ?_) (fun H => ?_)
 ·
  obtain ⟨p1068, v1069⟩ := q1094
  refine WP.seq <| WP.seq <| rg 2 0 <| mv0 rfl rfl <| un0 rfl rfl (run_not _) <| .fin <| cd H rfl (fun _ H => ?_) (fun _ H => ?_)
  rotate_left
  ·
   refine WP.skip <| WP.seq <| rg 2 0 <| mv0 rfl rfl <| as0 rfl rfl <| .fin ?_
   obtain rfl := Gets.out H
   exact rt i2 rfl v1069 1 [0] 0 (.cons (res_tmp rfl) .nil)
  refine rg 5 8 <| mv0 rfl rfl <| mv0 rfl rfl <| Dv.lit strK ([a1] : List ByteArray) (css := [[vS a1]]) rfl trivial Tryz.underlying37 Tryz.underlying9 c9 z9 rfl (by decide) (by decide) rfl ⟨(cells_one (one_eq rfl)), trivial⟩ rfl rfl rfl <| gr H fun g1071 H => ap strK 0 ([a1] : List ByteArray) src_sl Tryz.underlying37 (.inr ⟨_, Tryz.underlying37⟩) inf9 g1071 nofun fun v1072 => ?_
  refine as0 rfl rfl <| .fin <| WP.seq <| rg 2 0 <| mv0 rfl rfl <| as0 rfl rfl <| .fin ?_
  obtain rfl := Gets.out H
  exact rt i2 rfl v1072 1 [0] 0 (.cons (res_tmp rfl) .nil)
 refine WP.seq <| rg 1 0 <| as0 rfl rfl <| .fin <| WP.block <| wg (st_nil strK none) fun _ _ => ?_
 refine wg (sg 1 [0] 0) fun _ _ => ?_
 refine lp (fun j_ (p1093 : Bool × Int × (List ByteArray) × OV) => concourseref09_Put.l0 k a0 a1 j_ p1093.1 p1093.2.1 p1093.2.2.1) (false, 0, ([] : List ByteArray), nilV) H (fun p1093 => [(0, sl strK a0), (1, vS a1), (4, eq (.slice none 0 0)), (5, eq p1093.2.2.2.1), (6, vB p1093.1), (7, vI p1093.2.1)]) (fun p1093 => [own strK p1093.2.2.2.1 p1093.2.2.1] ++ F) ?_
 rintro j_ ⟨x1073, x1074, x1075, v1076⟩ H
 rcases j_ with _ | j1092
 ·
  exact (Gets.no H).elim
 replace H : Gets (concourseref09_Put.l0 k a0 a1 (j1092 + 1) x1073 x1074 x1075) _ := H
 rw [concourseref09_Put.l0] at H
 refine WP.seq <| WP.seq <| rg 4 0 <| mv0 rfl rfl <| mv0 rfl rfl <| Dv.lenl rfl trivial rfl Tryz.underlying37 <| bn0 rfl rfl rfl run_lt <| .fin <| cd H rfl (fun _ H => ?_) (fun _ H => ?_)
 rotate_left
 ·
  refine WP.exit ?_
  replace H := Gets.out H
  exact jn ((x1073, x1074, decide (x1074 < (a0.length : Int)), x1075), v1076) H
 refine WP.skip <| WP.seq <| WP.block <| WP.seqn H (fun q1091 : (Bool × Bool × (List ByteArray)) × OV => q1091.1) (fun q1091 : (Bool × Bool × (List ByteArray)) × OV => [(0, sl strK a0), (1, vS a1), (4, eq (.slice none 0 0)), (5, eq q1091.2.1), (6, vB q1091.1.1), (7, vI x1074), (11, vB (decide (x1074 < (a0.length : Int)))), (23, vB q1091.1.2.1)]) (fun q1091 : (Bool × Bool × (List ByteArray)) × OV => [own strK q1091.2.1 q1091.1.2.2] ++ F) (fun q1091 H => ?_) (fun H => ?_)
 ·
  obtain ⟨p1078, v1079⟩ := q1091
  refine WP.seq <| rg 6 0 <| mv0 rfl rfl <| mv0 rfl rfl <| gr H fun g1080 H => Dv.ixr rfl trivial rfl rfl Tryz.underlying37 Tryz.underlying9 c9 g1080.1 g1080.2 <| ldR rfl trivial rfl sc9 rfl <| mv0 rfl rfl <| bn0 rfl rfl rfl run_sne <| .fin <| cd H rfl (fun _ H => ?_) (fun _ H => ?_)
  rotate_left
  ·
   exact WP.skip <| rg 3 0 <| mv0 rfl rfl <| bn0 rfl rfl rfl run_add <| as0 rfl rfl <| .fin <| bk j1092 (p1078.1, w64 (x1074 + 1), p1078.2.2, v1079) H
  refine rg 8 64 <| mv0 rfl rfl <| mv0 rfl rfl <| mv0 rfl rfl <| gr H fun g1082 H => Dv.ixr rfl trivial rfl rfl Tryz.underlying37 Tryz.underlying9 c9 g1082.1 g1082.2 <| ldR rfl trivial rfl sc9 rfl <| Dv.lit strK ([strK.at a0 x1074] : List ByteArray) (css := [[vS (strK.at a0 x1074)]]) rfl trivial Tryz.underlying37 Tryz.underlying9 c9 z9 rfl (by decide) (by decide) rfl ⟨(cells_one (one_eq rfl)), trivial⟩ rfl rfl rfl <| gr H fun g1083 H => ap strK 0 ([strK.at a0 x1074] : List ByteArray) src_sl Tryz.underlying37 (.inr ⟨_, Tryz.underlying37⟩) inf9 g1083 nofun fun v1084 => ?_
  exact as0 rfl rfl <| .fin <| rg 3 0 <| mv0 rfl rfl <| bn0 rfl rfl rfl run_add <| as0 rfl rfl <| .fin <| bk j1092 (p1078.1, w64 (x1074 + 1), p1078.2.2 ++ ([strK.at a0 x1074] : List ByteArray), v1084) H
 refine WP.seq <| rg 10 0 <| mv0 rfl rfl <| un0 rfl rfl (run_not _) <| mv0 rfl rfl ?_
 cases c1085 : !x1073
 ·
  replace H := Gets.cf H c1085
  refine sk rfl rfl <| sk rfl rfl <| sk rfl rfl <| sk rfl rfl <| sk rfl rfl <| sk rfl rfl <| pf0 rfl rfl rfl <| .fin <| WP.cond rfl nofun (fun _ => ?_)
  refine WP.skip ?_
  replace H := Gets.out H
  exact jn ((x1073, false, x1075), v1076) H
 replace H := Gets.ct H c1085
 refine mvg rfl rfl rfl <| mvg rfl rfl rfl <| mvg rfl rfl rfl <| gr H fun g1086 H => Dv.ixr rfl (gg rfl) rfl rfl Tryz.underlying37 Tryz.underlying9 c9 g1086.1 g1086.2 <| ldR rfl (gg rfl) rfl sc9 rfl <| bng rfl rfl rfl rfl run_sle <| pt0 rfl rfl rfl <| .fin <| cd H rfl (fun _ H => ?_) (fun _ H => ?_)
 rotate_left
 ·
  refine WP.skip ?_
  replace H := Gets.out H
  exact jn ((x1073, !sLt (strK.at a0 x1074) a1, x1075), v1076) H
 refine WP.seq <| rg 5 8 <| mv0 rfl rfl <| mv0 rfl rfl <| Dv.lit strK ([a1] : List ByteArray) (css := [[vS a1]]) rfl trivial Tryz.underlying37 Tryz.underlying9 c9 z9 rfl (by decide) (by decide) rfl ⟨(cells_one (one_eq rfl)), trivial⟩ rfl rfl rfl <| gr H fun g1088 H => ap strK 0 ([a1] : List ByteArray) src_sl Tryz.underlying37 (.inr ⟨_, Tryz.underlying37⟩) inf9 g1088 nofun fun v1089 => ?_
 refine as0 rfl rfl <| .fin <| rg 1 0 <| as0 rfl rfl <| .fin ?_
 replace H := Gets.out H
 exact jn ((true, !sLt (strK.at a0 x1074) a1, x1075 ++ ([a1] : List ByteArray)), v1089) H
theorem concourseref14_Ended.c {k : Nat} {a0 : TRef} {a1 : Int} {r : TRef × (List ByteArray)} (h : concourseref14_Ended.f k a0 a1 = some r) : Tr Tryz.prog 10 [agg (TRef.enc a0), vI a1] [] (γ := OV) (fun _ => True) (fun g => tup [agg (TRef.enc r.1), eq g.1]) (fun g => [own strK g.1 r.2]) := by
 unfold concourseref14_Ended.f at h
 refine Tr.body Tryz.func10 (c := _) rfl Tryz.ntmps10 (Nat.le_of_ble_eq_true rfl) fun R0 F => ?_
 replace h := Gets.of h
 have H := h
 clear h
 refine WP.seq <| rg 3 3 <| Dv.box rfl trivial rfl cA nofun fun b1095 => al rfl trivial zc28 nofun fun b1096 => as0 rfl rfl <| .fin <| WP.seq <| rg 1 0 <| as0 rfl rfl <| .fin <| WP.seq <| rg 5 8 <| fb rfl trivial rfl fa28_0 <| ld 1 rfl trivial rfl sc22 rfl rfl <| Dv.lenl rfl trivial rfl Tryz.underlying22 <| gr H fun g1097 H => ?_
 obtain ⟨ti1098, ti1098a, ti1098b, ti1098c, ti1098d⟩ := inf4
 refine Dv.mks (Kd := boolK) (false : Bool) rfl trivial rfl rfl Tryz.underlying23 ti1098a ti1098b ti1098c ti1098d rfl (by decide) rfl g1097 nofun (fun v1099 => ?_)
 refine as0 rfl rfl <| .fin <| WP.seqn H (fun q1127 : (Int × Bool × (List Bool) × (List ByteArray)) × OV => q1127.1) (fun q1127 : (Int × Bool × (List Bool) × (List ByteArray)) × OV => [(0, agg (TRef.enc a0)), (1, vI a1), (2, eq (.pointer (some ⟨b1095, 0, none⟩))), (4, eq (.pointer (some ⟨b1096, 0, none⟩))), (5, eq (.slice none 0 0)), (6, eq q1127.2.1), (7, eq v1099.1), (8, vI q1127.1.1), (17, vB q1127.1.2.1)]) (fun q1127 : (Int × Bool × (List Bool) × (List ByteArray)) × OV => [blk b1096 28 [eq (.slice none 0 0), eq (.slice none 0 0)], blk b1095 28 (TRef.enc a0), own boolK v1099.1 q1127.1.2.2.1, own strK q1127.2.1 q1127.1.2.2.2] ++ F) (fun q1127 H => ?_) (fun H => ?_)
 ·
  obtain ⟨p1100, v1101⟩ := q1127
  refine WP.seq <| rg 7 32 <| fb rfl trivial rfl fa28_0 <| ld 1 rfl trivial rfl sc22 rfl rfl <| mv0 rfl rfl <| Dv.bld (css := [[sl Edu.K a0.fL], [eq v1099.1]]) rfl trivial Tryz.underlying28 pl28 z28 rfl ⟨(cells_one one_sl), ⟨(cells_one one_ov), trivial⟩⟩ rfl rfl <| mv0 rfl rfl <| sx 0 rfl trivial rfl rfl cA sz28 rfl rfl rfl nofun ?_
  refine as0 rfl rfl <| .fin <| WP.gh (gh_frz (E' := [(4, eq (.pointer (some ⟨b1096, 0, none⟩))), (5, eq v1101.1)]) (l' := [blk b1096 28 [sl Edu.K a0.fL, sl boolK p1100.2.2.1], blk b1095 28 (TRef.enc a0), own strK v1101.1 p1100.2.2.2] ++ F) 2 rfl (cve_cons rfl cv_id (cve_cons rfl cv_id cve_nil)) (all2_app (.cons (cva_blk (.cons cv_id (.cons cv_eq .nil))) (.cons cva_id (.cons cva_id .nil))) fun _ => cva_id)) (fun _ _ => ?_)
  obtain rfl := Gets.out H
  exact rt i2 rfl v1101 3 [0,1,2] 2 (.cons (res_cells rfl Tryz.underlying28 rfl c28 (mem_at 0 rfl) rfl) (.cons (res_tmp rfl) .nil))
 refine WP.seq <| rg 1 0 <| as0 rfl rfl <| .fin <| WP.block <| wg (st_nil strK none) fun _ _ => ?_
 refine wg (sg 4 [2,3,1,0] 0) fun _ _ => ?_
 refine lp (fun j_ (p1126 : Int × (List Bool) × (List ByteArray) × OV) => concourseref14_Ended.l0 k a0 a1 j_ p1126.1 p1126.2.1 p1126.2.2.1) (0, List.replicate (a0.fL.length : Int).toNat (false : Bool), ([] : List ByteArray), nilV) H (fun p1126 => [(0, agg (TRef.enc a0)), (1, vI a1), (2, eq (.pointer (some ⟨b1095, 0, none⟩))), (4, eq (.pointer (some ⟨b1096, 0, none⟩))), (5, eq (.slice none 0 0)), (6, eq p1126.2.2.2.1), (7, eq v1099.1), (8, vI p1126.1)]) (fun p1126 => [blk b1096 28 [eq (.slice none 0 0), eq (.slice none 0 0)], blk b1095 28 (TRef.enc a0), own boolK v1099.1 p1126.2.1, own strK p1126.2.2.2.1 p1126.2.2.1] ++ F) ?_
 rintro j_ ⟨x1102, x1103, x1104, v1105⟩ H
 rcases j_ with _ | j1125
 ·
  exact (Gets.no H).elim
 replace H : Gets (concourseref14_Ended.l0 k a0 a1 (j1125 + 1) x1102 x1103 x1104) _ := H
 rw [concourseref14_Ended.l0] at H
 refine WP.seq <| WP.seq <| rg 5 0 <| mv0 rfl rfl <| fb rfl trivial rfl fa28_0 <| ld 1 rfl trivial rfl sc22 rfl rfl <| Dv.lenl rfl trivial rfl Tryz.underlying22 <| bn0 rfl rfl rfl run_lt <| .fin <| cd H rfl (fun _ H => ?_) (fun _ H => ?_)
 rotate_left
 ·
  refine WP.exit ?_
  replace H := Gets.out H
  exact jn ((x1102, decide (x1102 < (a0.fL.length : Int)), x1103, x1104), v1105) H
 refine WP.skip <| WP.seq <| WP.block <| WP.seq <| rg 9 256 <| mv0 rfl rfl <| mv0 rfl rfl <| fb rfl trivial rfl fa28_1 <| ld 1 rfl trivial rfl sc23 rfl rfl <| mv0 rfl rfl <| gr H fun g1107 H => Dv.ixr rfl trivial rfl rfl Tryz.underlying23 Tryz.underlying4 c4 g1107.1 g1107.2 <| ldR rfl trivial rfl sc4 rfl <| gr H fun g1108 H => ?_
 have h1109 : x1102.toNat < x1103.length := idx_lt g1108
 refine Dv.ixw rfl trivial rfl (mem_at 2 rfl) rfl Tryz.underlying23 Tryz.underlying4 c4 g1108.1 g1108.2 <| Dv.stw (j := x1102.toNat) (f := 0) (jj := 2) (boolK.at a0.fTold x1102) rfl trivial rfl rfl (cells_one (one_eq rfl)) Tryz.underlying4 c4 rfl rfl h1109 (Nat.le_of_ble_eq_true rfl) rfl nofun <| .fin <| WP.seq <| dg Tryz.checked.mixed 31 0 <| fb rfl trivial rfl fa28_0 <| ld 1 rfl trivial rfl sc22 rfl rfl <| mv0 rfl rfl <| gr H fun g1110 H => Dv.ixr rfl trivial rfl rfl Tryz.underlying22 Tryz.underlying30 c30 g1110.1 g1110.2 <| fr rfl trivial rfl fa30_6 rfl <| ldR rfl trivial rfl sc4 rfl <| mv0 rfl rfl ?_
 cases c1111 : (Edu.K.at a0.fL x1102).fOn
 ·
  replace H := Gets.cf H c1111
  refine sk rfl rfl <| sk rfl rfl <| sk rfl rfl <| sk rfl rfl <| sk rfl rfl <| sk rfl rfl <| pf0 rfl rfl rfl <| mv0 rfl rfl <| sk rfl rfl <| sk rfl rfl <| sk rfl rfl <| sk rfl rfl <| sk rfl rfl <| sk rfl rfl <| sk rfl rfl <| sk rfl rfl <| sk rfl rfl <| sk rfl rfl <| sk rfl rfl <| sk rfl rfl <| sk rfl rfl <| sk rfl rfl <| sk rfl rfl <| pf0 rfl rfl rfl <| .fin <| WP.cond rfl nofun (fun _ => ?_)
  exact WP.skip <| rg 3 0 <| mv0 rfl rfl <| bn0 rfl rfl rfl run_add <| as0 rfl rfl <| .fin <| bk j1125 (w64 (x1102 + 1), x1103.set x1102.toNat (boolK.at a0.fTold x1102), x1104, v1105) H
 replace H := Gets.ct H c1111
 refine fb rfl (gg rfl) rfl fa28_1 <| ld 1 rfl (gg rfl) rfl sc23 rfl rfl <| mvg rfl rfl rfl <| gr H fun g1112 H => Dv.ixr rfl (gg rfl) rfl rfl Tryz.underlying23 Tryz.underlying4 c4 g1112.1 g1112.2 <| ldR rfl (gg rfl) rfl sc4 rfl <| ung rfl rfl rfl (run_not _) <| pt0 rfl rfl rfl <| mv0 rfl rfl ?_
 cases c1113 : !(boolK.at a0.fTold x1102)
 ·
  replace H := Gets.cf H c1113
  refine sk rfl rfl <| sk rfl rfl <| sk rfl rfl <| sk rfl rfl <| sk rfl rfl <| sk rfl rfl <| sk rfl rfl <| sk rfl rfl <| sk rfl rfl <| sk rfl rfl <| sk rfl rfl <| sk rfl rfl <| sk rfl rfl <| sk rfl rfl <| sk rfl rfl <| pf0 rfl rfl rfl <| .fin <| WP.cond rfl nofun (fun _ => ?_)
  exact WP.skip <| rg 3 0 <| mv0 rfl rfl <| bn0 rfl rfl rfl run_add <| as0 rfl rfl <| .fin <| bk j1125 (w64 (x1102 + 1), x1103.set x1102.toNat (boolK.at a0.fTold x1102), x1104, v1105) H
 replace H := Gets.ct H c1113
 refine fb rfl (gg rfl) rfl fa28_0 <| ld 1 rfl (gg rfl) rfl sc22 rfl rfl <| mvg rfl rfl rfl <| gr H fun g1114 H => Dv.ixr rfl (gg rfl) rfl rfl Tryz.underlying22 Tryz.underlying30 c30 g1114.1 g1114.2 <| fr rfl (gg rfl) rfl fa30_9 rfl <| ldR rfl (gg rfl) rfl sc3 rfl <| fb rfl (gg rfl) rfl fa28_0 <| ld 1 rfl (gg rfl) rfl sc22 rfl rfl <| mvg rfl rfl rfl <| gr H fun g1115 H => Dv.ixr rfl (gg rfl) rfl rfl Tryz.underlying22 Tryz.underlying30 c30 g1115.1 g1115.2 <| fr rfl (gg rfl) rfl fa30_7 rfl <| ldR rfl (gg rfl) rfl sc3 rfl <| bng rfl rfl rfl rfl run_add <| mvg rfl rfl rfl <| bng rfl rfl rfl rfl run_le <| pt0 rfl rfl rfl <| .fin <| cd H rfl (fun _ H => ?_) (fun _ H => ?_)
 rotate_left
 ·
  exact WP.skip <| rg 3 0 <| mv0 rfl rfl <| bn0 rfl rfl rfl run_add <| as0 rfl rfl <| .fin <| bk j1125 (w64 (x1102 + 1), x1103.set x1102.toNat (boolK.at a0.fTold x1102), x1104, v1105) H
 refine WP.seq <| rg 4 8 <| mv0 rfl rfl <| mv0 rfl rfl <| gr H fun g1117 H => ?_
 have h1118 : x1102.toNat < (x1103.set x1102.toNat (boolK.at a0.fTold x1102)).length := idx_lt g1117
 refine Dv.ixw rfl trivial rfl (mem_at 2 rfl) rfl Tryz.underlying23 Tryz.underlying4 c4 g1117.1 g1117.2 <| Dv.stw (j := x1102.toNat) (f := 0) (jj := 2) true rfl trivial rfl rfl (cells_one (one_eq rfl)) Tryz.underlying4 c4 rfl rfl h1118 (Nat.le_of_ble_eq_true rfl) rfl nofun <| .fin <| rg 9 128 <| mv0 rfl rfl <| fb rfl trivial rfl fa28_0 <| ld 1 rfl trivial rfl sc22 rfl rfl <| mv0 rfl rfl <| gr H fun g1119 H => Dv.ixr rfl trivial rfl rfl Tryz.underlying22 Tryz.underlying30 c30 g1119.1 g1119.2 <| fr rfl trivial rfl fa30_1 rfl <| ldR rfl trivial rfl sc9 rfl <| el H fun t1120 h1121 H => cx 4 [3,0,1,2] cal33 (Tr.lend [own strK v1105.1 x1104] (concourseref09_Put.c h1121) (.cons (lt_own (mem_at 0 rfl)) (.cons lt_id .nil)) (fun _ => flat_eq) (fun _ => (flatAs_cons (flatA_own flatK_str) flatAs_nil))) nofun fun g1122 _ => ?_
 refine as0 rfl rfl <| .fin <| rg 3 0 <| mv0 rfl rfl <| bn0 rfl rfl rfl run_add <| as0 rfl rfl <| .fin <| ng (sg 5 [0,2,3,4,1] 1) fun _ _ => ?_
 exact bk j1125 (w64 (x1102 + 1), (x1103.set x1102.toNat (boolK.at a0.fTold x1102)).set x1102.toNat true, t1120, g1122) H
theorem concourseref01_SameTexts.c {k : Nat} {a0 : List ByteArray} {a1 : List ByteArray} {r : Bool} (h : concourseref01_SameTexts.f k a0 a1 = some r) : Pt Tryz.prog 11 [sl strK a0, sl strK a1] (vB r) := by
 unfold concourseref01_SameTexts.f at h
 refine (Tr.body Tryz.func11 (c := _) rfl Tryz.ntmps11 (Nat.le_of_ble_eq_true rfl) fun R0 F => ?_).pt
 replace h := Gets.of h
 have H := h
 clear h
 refine WP.seq <| rg 1 0 <| as0 rfl rfl <| .fin <| WP.seq <| WP.seq <| rg 5 0 <| mv0 rfl rfl <| Dv.lenl rfl trivial rfl Tryz.underlying37 <| mv0 rfl rfl <| Dv.lenl rfl trivial rfl Tryz.underlying37 <| bn0 rfl rfl rfl run_ne <| .fin <| cd H rfl (fun _ H => ?_) (fun _ H => ?_)
 ·
  refine WP.seq <| rg 1 0 <| as0 rfl rfl <| .fin ?_
  obtain rfl := Gets.out H
  exact rt i2 rfl () 0 [] 0 (.cons (res_tmp rfl) .nil)
 refine WP.skip <| WP.seqr H id (fun p1129 : Int × Bool => [(0, sl strK a0), (1, sl strK a1), (4, vB false), (5, vI p1129.1), (10, vB ((a0.length : Int) != (a1.length : Int))), (14, vB p1129.2)]) (fun p1129 : Int × Bool => F) (fun p1129 H => ?_) (fun H => ?_)
 ·
  refine WP.seq <| rg 1 0 <| as0 rfl rfl <| .fin ?_
  obtain rfl := Gets.out H
  exact rt i2 rfl () 0 [] 0 (.cons (res_tmp rfl) .nil)
 refine WP.seq <| rg 1 0 <| as0 rfl rfl <| .fin <| WP.block <| wg (sg 0 [] 0) fun _ _ => ?_
 refine lp (fun j_ (p1136 : Int) => concourseref01_SameTexts.l0 k a0 a1 j_ p1136) 0 H (fun p1136 => [(0, sl strK a0), (1, sl strK a1), (4, vB false), (5, vI p1136), (10, vB ((a0.length : Int) != (a1.length : Int)))]) (fun p1136 => F) ?_
 rintro j_ x1130 H
 rcases j_ with _ | j1135
 ·
  exact (Gets.no H).elim
 replace H : Gets (concourseref01_SameTexts.l0 k a0 a1 (j1135 + 1) x1130) _ := H
 rw [concourseref01_SameTexts.l0] at H
 refine WP.seq <| WP.seq <| rg 4 0 <| mv0 rfl rfl <| mv0 rfl rfl <| Dv.lenl rfl trivial rfl Tryz.underlying37 <| bn0 rfl rfl rfl run_lt <| .fin <| cd H rfl (fun _ H => ?_) (fun _ H => ?_)
 rotate_left
 ·
  refine WP.exit ?_
  replace H := Gets.out H
  exact jn (x1130, decide (x1130 < (a0.length : Int))) H
 refine WP.skip <| WP.seq <| WP.block <| WP.seq <| dg Tryz.checked.mixed 9 0 <| mv0 rfl rfl <| mv0 rfl rfl <| gr H fun g1132 H => Dv.ixr rfl trivial rfl rfl Tryz.underlying37 Tryz.underlying9 c9 g1132.1 g1132.2 <| ldR rfl trivial rfl sc9 rfl <| mv0 rfl rfl <| mv0 rfl rfl <| gr H fun g1133 H => Dv.ixr rfl trivial rfl rfl Tryz.underlying37 Tryz.underlying9 c9 g1133.1 g1133.2 <| ldR rfl trivial rfl sc9 rfl <| bn0 rfl rfl rfl run_sne <| .fin <| cd H rfl (fun _ H => ?_) (fun _ H => ?_)
 rotate_left
 ·
  exact WP.skip <| rg 3 0 <| mv0 rfl rfl <| bn0 rfl rfl rfl run_add <| as0 rfl rfl <| .fin <| bk j1135 (w64 (x1130 + 1)) H
 refine WP.seq <| rg 1 0 <| as0 rfl rfl <| .fin ?_
 replace H := Gets.outr H
 obtain rfl := Gets.out H
 exact rt i2 rfl () 0 [] 0 (.cons (res_tmp rfl) .nil)
theorem concourseref14_Next.c {k : Nat} {a0 : TRef} {r : Int × Bool} (h : concourseref14_Next.f k a0 = some r) : Pt Tryz.prog 14 [agg (TRef.enc a0)] (tup [vI r.1, vB r.2]) := by
 unfold concourseref14_Next.f at h
 refine (Tr.body Tryz.func14 (c := _) rfl Tryz.ntmps14 (Nat.le_of_ble_eq_true rfl) fun R0 F => ?_).pt
 replace h := Gets.of h
 have H := h
 clear h
 refine WP.seq <| rg 3 1 <| Dv.box rfl trivial rfl cA nofun fun b1137 => as0 rfl rfl <| as0 rfl rfl <| .fin <| WP.seq <| rg 1 0 <| as0 rfl rfl <| .fin <| WP.seq <| rg 1 0 <| as0 rfl rfl <| .fin <| WP.seqn H id (fun p1138 : Int × Bool × Int × Bool => [(0, agg (TRef.enc a0)), (1, eq (.pointer (some ⟨b1137, 0, none⟩))), (2, vI 0), (3, vB false), (4, vI p1138.1), (5, vB p1138.2.1), (6, vI p1138.2.2.1), (12, vB p1138.2.2.2)]) (fun p1138 : Int × Bool × Int × Bool => [blk b1137 28 (TRef.enc a0)] ++ F) (fun p1138 H => ?_) (fun H => ?_)
 ·
  refine WP.seq <| rg 4 0 <| mv0 rfl rfl <| mv0 rfl rfl <| as0 rfl rfl <| as0 rfl rfl <| .fin ?_
  obtain rfl := Gets.out H
  exact rt i2 rfl () 1 [0] 1 (.cons (res_tmp rfl) (.cons (res_tmp rfl) .nil))
 refine WP.seq <| rg 1 0 <| as0 rfl rfl <| .fin <| WP.block <| wg (sg 1 [0] 0) fun _ _ => ?_
 refine lp (fun j_ (p1155 : Int × Bool × Int) => concourseref14_Next.l0 k a0 j_ p1155.1 p1155.2.1 p1155.2.2) (0, false, 0) H (fun p1155 => [(0, agg (TRef.enc a0)), (1, eq (.pointer (some ⟨b1137, 0, none⟩))), (2, vI 0), (3, vB false), (4, vI p1155.1), (5, vB p1155.2.1), (6, vI p1155.2.2)]) (fun p1155 => [blk b1137 28 (TRef.enc a0)] ++ F) ?_
 rintro j_ ⟨x1139, x1140, x1141⟩ H
 rcases j_ with _ | j1154
 ·
  exact (Gets.no H).elim
 replace H : Gets (concourseref14_Next.l0 k a0 (j1154 + 1) x1139 x1140 x1141) _ := H
 rw [concourseref14_Next.l0] at H
 refine WP.seq <| WP.seq <| rg 5 0 <| mv0 rfl rfl <| fb rfl trivial rfl fa28_0 <| ld 0 rfl trivial rfl sc22 rfl rfl <| Dv.lenl rfl trivial rfl Tryz.underlying22 <| bn0 rfl rfl rfl run_lt <| .fin <| cd H rfl (fun _ H => ?_) (fun _ H => ?_)
 rotate_left
 ·
  refine WP.exit ?_
  replace H := Gets.out H
  exact jn (x1139, x1140, x1141, decide (x1141 < (a0.fL.length : Int))) H
 refine WP.skip <| WP.seq <| WP.block <| WP.seq <| dg Tryz.checked.mixed 14 0 <| fb rfl trivial rfl fa28_0 <| ld 0 rfl trivial rfl sc22 rfl rfl <| mv0 rfl rfl <| gr H fun g1143 H => Dv.ixr rfl trivial rfl rfl Tryz.underlying22 Tryz.underlying30 c30 g1143.1 g1143.2 <| fr rfl trivial rfl fa30_9 rfl <| ldR rfl trivial rfl sc3 rfl <| fb rfl trivial rfl fa28_0 <| ld 0 rfl trivial rfl sc22 rfl rfl <| mv0 rfl rfl <| gr H fun g1144 H => Dv.ixr rfl trivial rfl rfl Tryz.underlying22 Tryz.underlying30 c30 g1144.1 g1144.2 <| fr rfl trivial rfl fa30_7 rfl <| ldR rfl trivial rfl sc3 rfl <| bn0 rfl rfl rfl run_add <| as0 rfl rfl <| .fin <| WP.seq <| rg 23 0 <| fb rfl trivial rfl fa28_0 <| ld 0 rfl trivial rfl sc22 rfl rfl <| mv0 rfl rfl <| gr H fun g1145 H => Dv.ixr rfl trivial rfl rfl Tryz.underlying22 Tryz.underlying30 c30 g1145.1 g1145.2 <| fr rfl trivial rfl fa30_6 rfl <| ldR rfl trivial rfl sc4 rfl <| mv0 rfl rfl ?_
 cases c1146 : (Edu.K.at a0.fL x1141).fOn
 ·
  replace H := Gets.cf H c1146
  refine sk rfl rfl <| sk rfl rfl <| sk rfl rfl <| sk rfl rfl <| sk rfl rfl <| sk rfl rfl <| pf0 rfl rfl rfl <| mv0 rfl rfl <| sk rfl rfl <| sk rfl rfl <| sk rfl rfl <| sku rfl rfl <| sku rfl rfl <| sku rfl rfl <| sk rfl rfl <| pf0 rfl rfl rfl <| .fin <| WP.cond rfl nofun (fun _ => ?_)
  exact WP.skip <| rg 3 0 <| mv0 rfl rfl <| bn0 rfl rfl rfl run_add <| as0 rfl rfl <| .fin <| bk j1154 (x1139, x1140, w64 (x1141 + 1)) H
 replace H := Gets.ct H c1146
 refine fb rfl (gg rfl) rfl fa28_1 <| ld 0 rfl (gg rfl) rfl sc23 rfl rfl <| mvg rfl rfl rfl <| gr H fun g1147 H => Dv.ixr rfl (gg rfl) rfl rfl Tryz.underlying23 Tryz.underlying4 c4 g1147.1 g1147.2 <| ldR rfl (gg rfl) rfl sc4 rfl <| ung rfl rfl rfl (run_not _) <| pt0 rfl rfl rfl <| mv0 rfl rfl ?_
 cases c1148 : !(boolK.at a0.fTold x1141)
 ·
  replace H := Gets.cf H c1148
  refine sk rfl rfl <| sk rfl rfl <| sk rfl rfl <| sku rfl rfl <| sku rfl rfl <| sku rfl rfl <| sk rfl rfl <| pf0 rfl rfl rfl <| .fin <| WP.cond rfl nofun (fun _ => ?_)
  exact WP.skip <| rg 3 0 <| mv0 rfl rfl <| bn0 rfl rfl rfl run_add <| as0 rfl rfl <| .fin <| bk j1154 (x1139, x1140, w64 (x1141 + 1)) H
 replace H := Gets.ct H c1148
 refine mvg rfl rfl rfl <| ung rfl rfl rfl (run_not _) <| mvg rfl rfl rfl ?_
 cases c1149 : !x1140
 rotate_left
 ·
  replace H := Gets.ct H c1149
  refine sk rfl rfl <| sk rfl rfl <| sk rfl rfl <| ptg rfl rfl rfl rfl <| pt0 rfl rfl rfl <| .fin <| WP.cond rfl (fun _ => ?_) nofun
  exact WP.seq <| rg 2 0 <| mv0 rfl rfl <| as0 rfl rfl <| .fin <| rg 1 0 <| as0 rfl rfl <| .fin <| rg 3 0 <| mv0 rfl rfl <| bn0 rfl rfl rfl run_add <| as0 rfl rfl <| .fin <| bk j1154 (w64 (((Edu.K.at a0.fL x1141).fTick) + ((Edu.K.at a0.fL x1141).fSpan)), true, w64 (x1141 + 1)) H
 replace H := Gets.cf H c1149
 refine mvg rfl rfl rfl <| mvg rfl rfl rfl <| bng rfl rfl rfl rfl run_lt <| pfg rfl rfl rfl rfl <| pt0 rfl rfl rfl <| .fin <| cd H rfl (fun _ H => ?_) (fun _ H => ?_)
 rotate_left
 ·
  exact WP.skip <| rg 3 0 <| mv0 rfl rfl <| bn0 rfl rfl rfl run_add <| as0 rfl rfl <| .fin <| bk j1154 (x1139, x1140, w64 (x1141 + 1)) H
 exact WP.seq <| rg 2 0 <| mv0 rfl rfl <| as0 rfl rfl <| .fin <| rg 1 0 <| as0 rfl rfl <| .fin <| rg 3 0 <| mv0 rfl rfl <| bn0 rfl rfl rfl run_add <| as0 rfl rfl <| .fin <| bk j1154 (w64 (((Edu.K.at a0.fL x1141).fTick) + ((Edu.K.at a0.fL x1141).fSpan)), true, w64 (x1141 + 1)) H
theorem concourseref04_SameEdus.c {k : Nat} {a0 : List Edu} {a1 : List Edu} {r : Bool} (h : concourseref04_SameEdus.f k a0 a1 = some r) : Pt Tryz.prog 15 [sl Edu.K a0, sl Edu.K a1] (vB r) := by
 unfold concourseref04_SameEdus.f at h
 refine (Tr.body Tryz.func15 (c := _) rfl Tryz.ntmps15 (Nat.le_of_ble_eq_true rfl) fun R0 F => ?_).pt
 replace h := Gets.of h
 have H := h
 clear h
 refine WP.seq <| rg 1 0 <| as0 rfl rfl <| .fin <| WP.seq <| WP.seq <| rg 5 0 <| mv0 rfl rfl <| Dv.lenl rfl trivial rfl Tryz.underlying22 <| mv0 rfl rfl <| Dv.lenl rfl trivial rfl Tryz.underlying22 <| bn0 rfl rfl rfl run_ne <| .fin <| cd H rfl (fun _ H => ?_) (fun _ H => ?_)
 ·
  refine WP.seq <| rg 1 0 <| as0 rfl rfl <| .fin ?_
  obtain rfl := Gets.out H
  exact rt i2 rfl () 0 [] 0 (.cons (res_tmp rfl) .nil)
 refine WP.skip <| WP.seqr H id (fun p1157 : Int × Bool => [(0, sl Edu.K a0), (1, sl Edu.K a1), (4, vB false), (5, vI p1157.1), (10, vB ((a0.length : Int) != (a1.length : Int))), (14, vB p1157.2)]) (fun p1157 : Int × Bool => F) (fun p1157 H => ?_) (fun H => ?_)
 ·
  refine WP.seq <| rg 1 0 <| as0 rfl rfl <| .fin ?_
  obtain rfl := Gets.out H
  exact rt i2 rfl () 0 [] 0 (.cons (res_tmp rfl) .nil)
 refine WP.seq <| rg 1 0 <| as0 rfl rfl <| .fin <| WP.block <| wg (sg 0 [] 0) fun _ _ => ?_
 refine lp (fun j_ (p1164 : Int) => concourseref04_SameEdus.l0 k a0 a1 j_ p1164) 0 H (fun p1164 => [(0, sl Edu.K a0), (1, sl Edu.K a1), (4, vB false), (5, vI p1164), (10, vB ((a0.length : Int) != (a1.length : Int)))]) (fun p1164 => F) ?_
 rintro j_ x1158 H
 rcases j_ with _ | j1163
 ·
  exact (Gets.no H).elim
 replace H : Gets (concourseref04_SameEdus.l0 k a0 a1 (j1163 + 1) x1158) _ := H
 rw [concourseref04_SameEdus.l0] at H
 refine WP.seq <| WP.seq <| rg 4 0 <| mv0 rfl rfl <| mv0 rfl rfl <| Dv.lenl rfl trivial rfl Tryz.underlying22 <| bn0 rfl rfl rfl run_lt <| .fin <| cd H rfl (fun _ H => ?_) (fun _ H => ?_)
 rotate_left
 ·
  refine WP.exit ?_
  replace H := Gets.out H
  exact jn (x1158, decide (x1158 < (a0.length : Int))) H
 refine WP.skip <| WP.seq <| WP.block <| WP.seq <| dg Tryz.checked.mixed 9 0 <| mv0 rfl rfl <| mv0 rfl rfl <| gr H fun g1160 H => Dv.ixr rfl trivial rfl rfl Tryz.underlying22 Tryz.underlying30 c30 g1160.1 g1160.2 <| ldsR rfl trivial rfl sg30 rfl <| mv0 rfl rfl <| mv0 rfl rfl <| gr H fun g1161 H => Dv.ixr rfl trivial rfl rfl Tryz.underlying22 Tryz.underlying30 c30 g1161.1 g1161.2 <| ldsR rfl trivial rfl sg30 rfl <| Dv.nes [.int .i64 ((Edu.K.at a0 x1158).fKind), .string ((Edu.K.at a0 x1158).fRoom), .string ((Edu.K.at a0 x1158).fUser), .string ((Edu.K.at a0 x1158).fEvent), .string ((Edu.K.at a0 x1158).fThread), .bool ((Edu.K.at a0 x1158).fPrivate), .bool ((Edu.K.at a0 x1158).fOn), .int .i64 ((Edu.K.at a0 x1158).fSpan), .int .i64 ((Edu.K.at a0 x1158).fState), .int .i64 ((Edu.K.at a0 x1158).fTick), .int .i64 ((Edu.K.at a0 x1158).fStamp)] [.int .i64 ((Edu.K.at a1 x1158).fKind), .string ((Edu.K.at a1 x1158).fRoom), .string ((Edu.K.at a1 x1158).fUser), .string ((Edu.K.at a1 x1158).fEvent), .string ((Edu.K.at a1 x1158).fThread), .bool ((Edu.K.at a1 x1158).fPrivate), .bool ((Edu.K.at a1 x1158).fOn), .int .i64 ((Edu.K.at a1 x1158).fSpan), .int .i64 ((Edu.K.at a1 x1158).fState), .int .i64 ((Edu.K.at a1 x1158).fTick), .int .i64 ((Edu.K.at a1 x1158).fStamp)] rfl trivial rfl rfl rfl rfl eg30 (fun _ => equal_of 2 (by decide) (fun _ => eqt30 (Edu.K.at a0 x1158) (Edu.K.at a1 x1158))) <| .fin <| cd H rfl (fun _ H => ?_) (fun _ H => ?_)
 rotate_left
 ·
  exact WP.skip <| rg 3 0 <| mv0 rfl rfl <| bn0 rfl rfl rfl run_add <| as0 rfl rfl <| .fin <| bk j1163 (w64 (x1158 + 1)) H
 refine WP.seq <| rg 1 0 <| as0 rfl rfl <| .fin ?_
 replace H := Gets.outr H
 obtain rfl := Gets.out H
 exact rt i2 rfl () 0 [] 0 (.cons (res_tmp rfl) .nil)
end Go.Proofs.YtmbodanckhidiaaGreat
