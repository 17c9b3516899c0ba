/- The walks. -/
import Derived.Test.YtegmafgodoikiaaGreatZWalks2
import Derived.Test.YtegmafgodoikiaaGreatConQ
import Derived.Eval
set_option linter.all false
set_option maxRecDepth 10000
set_option maxHeartbeats 20000000
namespace Go.Proofs.YtegmafgodoikiaaGreat
open Go Go.Sp
theorem concourselaw15_PresencePlays.c {k : Nat} {a0 : List Edu} {a1 : List Bool} {a2 : List Int} {r : Bool} (h : concourselaw15_PresencePlays.f k a0 a1 a2 = some r) : Pt Tryz.prog 6 [sl Edu.K a0, sl boolK a1, sl (intK .i64) a2] (vB r) := by
 unfold concourselaw15_PresencePlays.f at h
 refine (Tr.body Tryz.func6 (c := _) rfl Tryz.ntmps6 (Nat.le_of_ble_eq_true rfl) fun R0 F => ?_).pt
 replace h := Gets.of h
 have H := h
 clear h
 refine WP.seq <| rg 1 0 <| as0 rfl rfl <| .fin <| WP.seq <| rg 2 1 <| el H fun t994 h995 H => cx 0 [] cal7 (presence_New.c h995) nofun fun g996 _ => ?_
 refine as0 rfl rfl <| .fin <| WP.seq <| WP.seq <| rg 2 0 <| mv0 rfl rfl <| Dv.peq0 PTab.nn rfl trivial rfl rfl Tryz.underlying23 (mem_at 0 rfl) <| .fin <| WP.cond rfl nofun (fun _ => ?_)
 refine WP.skip <| WP.seq <| rg 1 1 <| al rfl trivial zc27 nofun fun b998 => .fin <| WP.seqr H id (fun p999 : Int × Bool × (List Edu) × (List Int) × PTab => [(0, sl Edu.K a0), (1, sl boolK a1), (2, sl (intK .i64) a2), (6, vB false), (7, eq g996.1), (8, eq (.pointer (some ⟨b998, 0, none⟩))), (9, vI p999.1), (25, vB false), (33, vB p999.2.1)]) (fun p999 : Int × Bool × (List Edu) × (List Int) × PTab => [blk b998 27 [sl Edu.K p999.2.2.1, sl (intK .i64) p999.2.2.2.1], PTab.O g996 p999.2.2.2.2] ++ F) (fun p999 H => ?_) (fun H => ?_)
 ·
  refine WP.seq <| rg 2 0 <| el H fun t1000 h1001 H => cl rfl cal19 rfl (concourselaw15_lives.c h1001) <| as0 rfl rfl <| .fin ?_
  obtain rfl := Gets.out H
  exact rt i2 rfl () 2 [0,1] 2 (.cons (res_tmp rfl) .nil)
 refine WP.seq <| rg 1 0 <| as0 rfl rfl <| .fin <| WP.block <| WP.gh (gh_wk (E' := [(0, sl Edu.K a0), (1, sl boolK a1), (2, sl (intK .i64) a2), (6, vB false), (7, eq g996.1), (8, eq (.pointer (some ⟨b998, 0, none⟩))), (9, vI 0), (25, vB false)]) (l' := [blk b998 27 [sl Edu.K ([] : List Edu), sl (intK .i64) ([] : List Int)], PTab.O g996 t994] ++ F) (wke_cons rfl wk_id (wke_cons rfl wk_id (wke_cons rfl wk_id (wke_cons rfl wk_id (wke_cons rfl wk_id (wke_cons rfl wk_id (wke_cons rfl wk_id (wke_cons rfl wk_id wke_nil)))))))) (all2_app (.cons (wka_blk (.cons wk_nil (.cons wk_nil .nil))) (.cons wka_id .nil)) fun _ => wka_id)) (fun _ _ => ?_)
 refine wg (sg 2 [0,1] 0) fun _ _ => ?_
 refine lp (fun j_ (p1059 : Int × (List Edu) × (List Int) × PTab) => concourselaw15_PresencePlays.l0 k a0 a1 a2 j_ p1059.1 p1059.2.1 p1059.2.2.1 p1059.2.2.2) (0, ([] : List Edu), ([] : List Int), t994) H (fun p1059 => [(0, sl Edu.K a0), (1, sl boolK a1), (2, sl (intK .i64) a2), (6, vB false), (7, eq g996.1), (8, eq (.pointer (some ⟨b998, 0, none⟩))), (9, vI p1059.1), (25, vB false)]) (fun p1059 => [blk b998 27 [sl Edu.K p1059.2.1, sl (intK .i64) p1059.2.2.1], PTab.O g996 p1059.2.2.2] ++ F) ?_
 rintro j_ ⟨x1002, x1003, x1004, x1005⟩ H
 rcases j_ with _ | j1058
 ·
  exact (Gets.no H).elim
 replace H : Gets (concourselaw15_PresencePlays.l0 k a0 a1 a2 (j1058 + 1) x1002 x1003 x1004 x1005) _ := H
 rw [concourselaw15_PresencePlays.l0] at H
 refine WP.seq <| WP.seq <| rg 8 0 <| mv0 rfl rfl <| mv0 rfl rfl <| Dv.lenl rfl trivial rfl Tryz.underlying22 <| bn0 rfl rfl rfl run_lt <| mv0 rfl rfl ?_
 cases c1006 : decide (x1002 < (a0.length : Int))
 ·
  replace H := Gets.cf H c1006
  refine sk rfl rfl <| sk rfl rfl <| pf0 rfl rfl rfl <| .fin <| WP.cond rfl nofun (fun _ => ?_)
  refine WP.exit ?_
  replace H := Gets.out H
  exact jn (x1002, false, x1003, x1004, x1005) H
 replace H := Gets.ct H c1006
 refine mvg rfl rfl rfl <| bng rfl rfl rfl rfl run_lt <| pt0 rfl rfl rfl <| .fin <| cd H rfl (fun _ H => ?_) (fun _ H => ?_)
 rotate_left
 ·
  refine WP.exit ?_
  replace H := Gets.out H
  exact jn (x1002, decide (x1002 < 16), x1003, x1004, x1005) H
 refine WP.skip <| WP.seq <| WP.block <| WP.seq <| rg 7 96 <| mv0 rfl rfl <| mv0 rfl rfl <| gr H fun g1008 H => Dv.ixr rfl trivial rfl rfl Tryz.underlying22 Tryz.underlying32 c32 g1008.1 g1008.2 <| ldsR rfl trivial rfl sg32 rfl <| el H fun t1009 h1010 H => cl rfl cal9 rfl (concourseref15_Made.c h1010) <| al rfl trivial zc32 nofun fun b1011 => sx 0 rfl trivial rfl rfl cA sz32 rfl rfl rfl nofun ?_
 refine .fin <| WP.seqn H id (fun p1012 : Bool × Int × ByteArray × ByteArray × ByteArray × ByteArray × Bool × Bool × Int × Int × Int × Int => [(0, sl Edu.K a0), (1, sl boolK a1), (2, sl (intK .i64) a2), (6, vB false), (7, eq g996.1), (8, eq (.pointer (some ⟨b998, 0, none⟩))), (9, vI x1002), (10, eq (.pointer (some ⟨b1011, 0, none⟩))), (25, vB false), (33, vB (decide (x1002 < 16))), (54, vB p1012.1)]) (fun p1012 : Bool × Int × ByteArray × ByteArray × ByteArray × ByteArray × Bool × Bool × Int × Int × Int × Int => [blk b1011 32 [vI p1012.2.1, vS p1012.2.2.1, vS p1012.2.2.2.1, vS p1012.2.2.2.2.1, vS p1012.2.2.2.2.2.1, vB p1012.2.2.2.2.2.2.1, vB p1012.2.2.2.2.2.2.2.1, vI p1012.2.2.2.2.2.2.2.2.1, vI p1012.2.2.2.2.2.2.2.2.2.1, vI p1012.2.2.2.2.2.2.2.2.2.2.1, vI p1012.2.2.2.2.2.2.2.2.2.2.2], blk b998 27 [sl Edu.K x1003, sl (intK .i64) x1004], PTab.O g996 x1005] ++ F) (fun p1012 H => ?_) (fun H => ?_)
 rotate_left
 ·
  refine WP.seq <| rg 14 0 <| mv0 rfl rfl <| mv0 rfl rfl <| Dv.lenl rfl trivial rfl Tryz.underlying53 <| bn0 rfl rfl rfl run_lt <| mv0 rfl rfl ?_
  cases c1050 : decide (x1002 < (a1.length : Int))
  ·
   replace H := Gets.cf H c1050
   refine sk rfl rfl <| sk rfl rfl <| sk rfl rfl <| sk rfl rfl <| sk rfl rfl <| sk rfl rfl <| sk rfl rfl <| sk rfl rfl <| pf0 rfl rfl rfl <| .fin <| WP.cond rfl nofun (fun _ => ?_)
   refine WP.skip ?_
   replace H := Gets.out H
   exact jn (false, t1009.fKind, t1009.fRoom, t1009.fUser, t1009.fEvent, t1009.fThread, t1009.fPrivate, t1009.fOn, t1009.fSpan, t1009.fState, t1009.fTick, t1009.fStamp) H
  replace H := Gets.ct H c1050
  refine mvg rfl rfl rfl <| mvg rfl rfl rfl <| mvg rfl rfl rfl <| Dv.lenl rfl (gg rfl) rfl Tryz.underlying53 <| bng rfl rfl rfl rfl run_sub <| Dv.mini rfl (gg rfl) rfl rfl <| gr H fun g1051 H => Dv.ixr rfl (gg rfl) rfl rfl Tryz.underlying53 Tryz.underlying4 c4 g1051.1 g1051.2 <| ldR rfl (gg rfl) rfl sc4 rfl <| pt0 rfl rfl rfl <| .fin <| cd H rfl (fun _ H => ?_) (fun _ H => ?_)
  rotate_left
  ·
   refine WP.skip ?_
   replace H := Gets.out H
   exact jn (boolK.at a1 (min x1002 (w64 ((a1.length : Int) - 1))), t1009.fKind, t1009.fRoom, t1009.fUser, t1009.fEvent, t1009.fThread, t1009.fPrivate, t1009.fOn, t1009.fSpan, t1009.fState, t1009.fTick, t1009.fStamp) H
  refine rg 6 32 <| mv0 rfl rfl <| mv0 rfl rfl <| gr H fun g1053 H => Dv.ixr rfl trivial rfl rfl Tryz.underlying22 Tryz.underlying32 c32 g1053.1 g1053.2 <| ldsR rfl trivial rfl sg32 rfl <| el H fun t1054 h1055 H => cl rfl cal24 rfl (concourseref03_Few.c h1055) <| sx 0 rfl trivial rfl rfl cA sz32 rfl rfl rfl nofun ?_
  refine .fin ?_
  replace H := Gets.out H
  exact jn (boolK.at a1 (min x1002 (w64 ((a1.length : Int) - 1))), t1054.fKind, t1054.fRoom, t1054.fUser, t1054.fEvent, t1054.fThread, t1054.fPrivate, t1054.fOn, t1054.fSpan, t1054.fState, t1054.fTick, t1054.fStamp) H
 refine WP.seq <| rg 11 384 <| lds 1 rfl trivial rfl sg27 rfl rfl <| lds 0 rfl trivial rfl sg32 rfl rfl <| el H fun t1013 h1014 H => cl rfl cal8 rfl (concourseref15_Put.c h1014) <| mv0 rfl rfl <| ex0 rfl trivial rfl rfl <| ex0 rfl trivial rfl rfl <| ex0 rfl trivial rfl rfl <| al rfl trivial zc27 nofun fun b1015 => sx 0 rfl trivial rfl rfl cA sz27 rfl rfl rfl nofun ?_
 refine as0 rfl rfl <| as0 rfl rfl <| .fin <| WP.seq <| rg 2 2 <| lds 0 rfl trivial rfl sg27 rfl rfl <| sx 2 rfl trivial rfl rfl cA sz27 rfl rfl rfl nofun ?_
 refine .fin <| WP.seq <| rg 8 4 <| mv0 rfl rfl <| lds 1 rfl trivial rfl sg32 rfl rfl <| el H fun t1016 h1017 H => cx 4 [3,0,1,2] cal10 (presence_Table_Put.c h1017 (p0_ := g996)) nofun fun _ _ => ?_
 refine mv0 rfl rfl <| ex0 rfl trivial rfl rfl <| ex0 rfl trivial rfl rfl <| as0 rfl rfl <| as0 rfl rfl <| .fin <| WP.seq <| WP.seq <| rg 8 0 <| mv0 rfl rfl <| mv0 rfl rfl <| bn0 rfl rfl rfl (run_bne Tryz.underlying4) <| mv0 rfl rfl ?_
 cases c1018 : (t1016.1 != t1013.2.1)
 rotate_left
 ·
  replace H := Gets.ct H c1018
  refine sk rfl rfl <| sk rfl rfl <| sk rfl rfl <| pt0 rfl rfl rfl <| .fin <| WP.cond rfl (fun _ => ?_) nofun
  refine WP.seq <| rg 1 0 <| as0 rfl rfl <| .fin ?_
  replace H := Gets.outr H
  obtain rfl := Gets.out H
  exact rt i2 rfl () 4 [0,1,2,3] 4 (.cons (res_tmp rfl) .nil)
 replace H := Gets.cf H c1018
 refine mvg rfl rfl rfl <| mvg rfl rfl rfl <| bng rfl rfl rfl rfl run_ne <| pf0 rfl rfl rfl <| .fin <| cd H rfl (fun _ H => ?_) (fun _ H => ?_)
 ·
  refine WP.seq <| rg 1 0 <| as0 rfl rfl <| .fin ?_
  replace H := Gets.outr H
  obtain rfl := Gets.out H
  exact rt i2 rfl () 4 [0,1,2,3] 4 (.cons (res_tmp rfl) .nil)
 refine WP.skip <| WP.seqr H id (fun p1021 : (List Edu) × (List Int) × PTab => [(0, sl Edu.K a0), (1, sl boolK a1), (2, sl (intK .i64) a2), (6, vB false), (7, eq g996.1), (8, eq (.pointer (some ⟨b998, 0, none⟩))), (9, vI x1002), (10, eq (.pointer (some ⟨b1011, 0, none⟩))), (11, eq (.pointer (some ⟨b1015, 0, none⟩))), (12, vB t1013.2.1), (13, vI t1013.2.2), (14, vB t1016.1), (15, vI t1016.2.1), (25, vB false), (33, vB (decide (x1002 < 16))), (54, vB p1012.1), (81, vB (t1013.2.2 != t1016.2.1)), (85, vB (decide (x1002 < (a2.length : Int))))]) (fun p1021 : (List Edu) × (List Int) × PTab => [blk b1015 27 (TRef.enc t1013.1), blk b1011 32 [vI p1012.2.1, vS p1012.2.2.1, vS p1012.2.2.2.1, vS p1012.2.2.2.2.1, vS p1012.2.2.2.2.2.1, vB p1012.2.2.2.2.2.2.1, vB p1012.2.2.2.2.2.2.2.1, vI p1012.2.2.2.2.2.2.2.2.1, vI p1012.2.2.2.2.2.2.2.2.2.1, vI p1012.2.2.2.2.2.2.2.2.2.2.1, vI p1012.2.2.2.2.2.2.2.2.2.2.2], blk b998 27 [sl Edu.K p1021.1, sl (intK .i64) p1021.2.1], PTab.O g996 p1021.2.2] ++ F) (fun p1021 H => ?_) (fun H => ?_)
 rotate_left
 ·
  refine WP.seq <| rg 4 0 <| mv0 rfl rfl <| mv0 rfl rfl <| Dv.lenl rfl trivial rfl Tryz.underlying25 <| bn0 rfl rfl rfl run_lt <| .fin <| cd H rfl (fun _ H => ?_) (fun _ H => ?_)
  rotate_left
  ·
   refine WP.skip ?_
   replace H := Gets.out H
   refine ng (sg 4 [1,2,3,0] 0) fun _ _ => ?_
   exact jn (t1013.1.fL, t1013.1.fTold, t1016.2.2) H
  refine WP.seq <| rg 9 0 <| mv0 rfl rfl <| mv0 rfl rfl <| mv0 rfl rfl <| Dv.lenl rfl trivial rfl Tryz.underlying25 <| bn0 rfl rfl rfl run_sub <| Dv.mini rfl trivial rfl rfl <| gr H fun g1039 H => Dv.ixr rfl trivial rfl rfl Tryz.underlying25 Tryz.underlying3 c3 g1039.1 g1039.2 <| ldR rfl trivial rfl sc3 rfl <| as0 rfl rfl <| .fin <| WP.seq <| rg 9 196 <| lds 3 rfl trivial rfl sg27 rfl rfl <| mv0 rfl rfl <| el H fun t1040 h1041 H => cx 4 [0,1,2,3] cal25 (concourseref15_Turned.c h1041) nofun fun g1042 _ => ?_
  refine mv0 rfl rfl <| ex0 rfl trivial rfl rfl <| ex0 rfl trivial rfl rfl <| al rfl trivial zc27 nofun fun b1043 => sx 0 rfl trivial rfl rfl cA sz27 rfl rfl rfl nofun ?_
  refine as0 rfl rfl <| .fin <| WP.seq <| rg 2 2 <| lds 0 rfl trivial rfl sg27 rfl rfl <| sx 5 rfl trivial rfl rfl cA sz27 rfl rfl rfl nofun ?_
  refine .fin <| WP.seq <| rg 6 4 <| mv0 rfl rfl <| mv0 rfl rfl <| el H fun t1044 h1045 H => cx 6 [2,0,1,3,4,5] cal22 (presence_Table_Turned.c h1045 (p0_ := g996)) nofun fun g1046 _ => ?_
  refine mv0 rfl rfl <| el H fun t1047 h1048 H => cll (B := [own strK g1046.1 t1044.1, own strK g1042.1 t1040.2]) 7 [1,3,0,2,4,5,6] cal13 (Pt.lend _ (concourseref01_SameTexts.c h1048) (.cons (lt_own (mem_at 0 rfl)) (.cons (lt_own (mem_at 1 rfl)) .nil)) flat_eq) ?_
  refine un0 rfl rfl (run_not _) <| .fin <| cd H rfl (fun _ H => ?_) (fun _ H => ?_)
  rotate_left
  ·
   refine WP.skip ?_
   replace H := Gets.out H
   refine ng (sg 7 [1,2,3,4,5,6,0] 3) fun _ _ => ?_
   exact jn (t1040.1.fL, t1040.1.fTold, t1044.2) H
  refine WP.seq <| rg 1 0 <| as0 rfl rfl <| .fin ?_
  replace H := Gets.outr H
  replace H := Gets.outr H
  obtain rfl := Gets.out H
  exact rt i2 rfl () 7 [0,1,2,3,4,5,6] 7 (.cons (res_tmp rfl) .nil)
 refine WP.seq <| rg 7 2 <| mv0 rfl rfl <| el H fun t1022 h1023 H => cx 4 [3,0,1,2] cal23 (presence_Table_Next.c h1023 (p0_ := g996)) nofun fun _ _ => ?_
 refine mv0 rfl rfl <| ex0 rfl trivial rfl rfl <| ex0 rfl trivial rfl rfl <| as0 rfl rfl <| as0 rfl rfl <| .fin <| WP.seq <| rg 7 0 <| lds 3 rfl trivial rfl sg27 rfl rfl <| el H fun t1024 h1025 H => cl rfl cal26 rfl (concourseref15_Next.c h1025) <| mv0 rfl rfl <| ex0 rfl trivial rfl rfl <| ex0 rfl trivial rfl rfl <| as0 rfl rfl <| as0 rfl rfl <| .fin <| WP.seq <| wg (PTab.opn 0 rfl) fun g1026 h1027 => ?_
 refine dgo Tryz.checked.mixed [0, 1, 2, 3, 4, 5, 6, 7, 8, 9, 11, 12, 10, 13, 14, 15] [10] <| mv0 rfl rfl <| mv0 rfl rfl <| bn0 rfl rfl rfl run_ne <| mv0 rfl rfl ?_
 cases c1028 : (t1022.1 != t1024.1)
 rotate_left
 ·
  replace H := Gets.ct H c1028
  refine sk rfl rfl <| sk rfl rfl <| sk rfl rfl <| pt0 rfl rfl rfl <| mv0 rfl rfl <| sk rfl rfl <| sk rfl rfl <| sk rfl rfl <| Dv.skipb rfl ⟨_, _, rfl, rfl, .inl rfl⟩ (fun _ => (pend_in (fun _ => trivial) (pend_in (fun _ => trivial) (pend_by (by kernel_rfl) (pend_by (by kernel_rfl) (pend_by (by kernel_rfl) (pend_by (by kernel_rfl) (pend_by (by kernel_rfl) (pend_by (by kernel_rfl) (pend_by (by kernel_rfl) (pend_by (by kernel_rfl) (pend_by (by kernel_rfl) (pend_by (by kernel_rfl) pend_nil))))))))))))) <| sk rfl rfl <| sk rfl rfl <| pt0 rfl rfl rfl <| .fin <| WP.cond rfl (fun _ => ?_) nofun
  refine WP.seq <| rg 1 0 <| as0 rfl rfl <| .fin <| wg (PTab.shut (p := g996) (m := p1021.2.2) (g1026.1, g1026.2.1, g1026.2.2) h1027 (pm 6 [0,1,2,3,4,5])) fun _ _ => ?_
  replace H := Gets.outr H
  obtain rfl := Gets.out H
  exact rt i2 rfl () 4 [0,1,2,3] 4 (.cons (res_tmp rfl) .nil)
 replace H := Gets.cf H c1028
 refine mvg rfl rfl rfl <| mvg rfl rfl rfl <| bng rfl rfl rfl rfl (run_bne Tryz.underlying4) <| pf0 rfl rfl rfl <| mv0 rfl rfl ?_
 cases c1030 : (t1022.2 != t1024.2)
 rotate_left
 ·
  replace H := Gets.ct H c1030
  refine sk rfl rfl <| sk rfl rfl <| sk rfl rfl <| Dv.skipb rfl ⟨_, _, rfl, rfl, .inl rfl⟩ (fun _ => (pend_in (fun _ => trivial) (pend_in (fun _ => trivial) (pend_by (by kernel_rfl) (pend_by (by kernel_rfl) (pend_by (by kernel_rfl) (pend_by (by kernel_rfl) (pend_by (by kernel_rfl) (pend_by (by kernel_rfl) (pend_by (by kernel_rfl) (pend_by (by kernel_rfl) (pend_by (by kernel_rfl) (pend_by (by kernel_rfl) pend_nil))))))))))))) <| sk rfl rfl <| sk rfl rfl <| pt0 rfl rfl rfl <| .fin <| WP.cond rfl (fun _ => ?_) nofun
  refine WP.seq <| rg 1 0 <| as0 rfl rfl <| .fin <| wg (PTab.shut (p := g996) (m := p1021.2.2) (g1026.1, g1026.2.1, g1026.2.2) h1027 (pm 6 [0,1,2,3,4,5])) fun _ _ => ?_
  replace H := Gets.outr H
  obtain rfl := Gets.out H
  exact rt i2 rfl () 4 [0,1,2,3] 4 (.cons (res_tmp rfl) .nil)
 replace H := Gets.cf H c1030
 refine mvg rfl rfl rfl <| fb rfl (gg rfl) rfl fa27_0 <| ld 5 rfl (gg rfl) rfl sc22 rfl rfl <| el H fun t1032 h1033 H => Dv.callx (pre := [blk g1026.1 61 [eq g1026.2.1.1, eq g1026.2.2.1], own Edu.K g1026.2.1.1 p1021.2.2.fl]) (F := [HHeap.O g1026.2.2 p1021.2.2.fturns, blk b1015 27 (TRef.enc t1013.1), blk b1011 32 [vI p1012.2.1, vS p1012.2.2.1, vS p1012.2.2.2.1, vS p1012.2.2.2.2.1, vS p1012.2.2.2.2.2.1, vB p1012.2.2.2.2.2.2.1, vB p1012.2.2.2.2.2.2.2.1, vI p1012.2.2.2.2.2.2.2.2.1, vI p1012.2.2.2.2.2.2.2.2.2.1, vI p1012.2.2.2.2.2.2.2.2.2.2.1, vI p1012.2.2.2.2.2.2.2.2.2.2.2], blk b998 27 [sl Edu.K p1021.1, sl (intK .i64) p1021.2.1]] ++ F) (fun g1034 : OV => [blk g1026.1 61 [eq g1026.2.1.1, eq g1026.2.2.1], own Edu.K g1026.2.1.1 p1021.2.2.fl, own Edu.K g1034.1 t1032, HHeap.O g1026.2.2 p1021.2.2.fturns, blk b1015 27 (TRef.enc t1013.1), blk b1011 32 [vI p1012.2.1, vS p1012.2.2.1, vS p1012.2.2.2.1, vS p1012.2.2.2.2.1, vS p1012.2.2.2.2.2.1, vB p1012.2.2.2.2.2.2.1, vB p1012.2.2.2.2.2.2.2.1, vI p1012.2.2.2.2.2.2.2.2.1, vI p1012.2.2.2.2.2.2.2.2.2.1, vI p1012.2.2.2.2.2.2.2.2.2.2.1, vI p1012.2.2.2.2.2.2.2.2.2.2.2], blk b998 27 [sl Edu.K p1021.1, sl (intK .i64) p1021.2.1]] ++ F) rfl (gg rfl) cal21 rfl (Tr.weak (presence_Table_All.c h1033 (b0_ := g1026.1) (v0_0 := g1026.2.1) (v0_1 := g1026.2.2)) (.cons (wk_ptr h1027) .nil)) (perm_to (L := [blk g1026.1 61 [eq g1026.2.1.1, eq g1026.2.2.1], own Edu.K g1026.2.1.1 p1021.2.2.fl, HHeap.O g1026.2.2 p1021.2.2.fturns, blk b1015 27 (TRef.enc t1013.1), blk b1011 32 [vI p1012.2.1, vS p1012.2.2.1, vS p1012.2.2.2.1, vS p1012.2.2.2.2.1, vS p1012.2.2.2.2.2.1, vB p1012.2.2.2.2.2.2.1, vB p1012.2.2.2.2.2.2.2.1, vI p1012.2.2.2.2.2.2.2.2.1, vI p1012.2.2.2.2.2.2.2.2.2.1, vI p1012.2.2.2.2.2.2.2.2.2.2.1, vI p1012.2.2.2.2.2.2.2.2.2.2.2], blk b998 27 [sl Edu.K p1021.1, sl (intK .i64) p1021.2.1]]) (F := F) [0, 1, 2, 3, 4, 5] (by kernel_rfl) rfl rfl) rfl (fun _ => pendc (pend_in (fun _ => (mem_at 6 rfl)) (pend_in (fun _ => trivial) (pend_by (by kernel_rfl) (pend_by (by kernel_rfl) (pend_by (by kernel_rfl) (pend_by (by kernel_rfl) (pend_by (by kernel_rfl) (pend_by (by kernel_rfl) (pend_by (by kernel_rfl) (pend_by (by kernel_rfl) (pend_by (by kernel_rfl) (pend_by (by kernel_rfl) pend_nil))))))))))))) (fun g1034 _ => ?_)
 refine el H fun t1035 h1036 H => cll (B := [own Edu.K g1034.1 t1032]) 7 [2,0,1,3,4,5,6] cal20 (Pt.lend _ (concourseref04_SameEdus.c h1036) (.cons (lt_own (mem_at 0 rfl)) (.cons lt_id .nil)) flat_eq) ?_
 refine ung rfl rfl rfl (run_not _) <| pf0 rfl rfl rfl <| .fin <| cd H rfl (fun _ H => ?_) (fun _ H => ?_)
 ·
  refine WP.seq <| rg 1 0 <| as0 rfl rfl <| .fin <| wg (PTab.shut (p := g996) (m := p1021.2.2) (g1026.1, g1026.2.1, g1026.2.2) h1027 (pm 7 [0,1,3,2,4,5,6])) fun _ _ => ?_
  replace H := Gets.outr H
  obtain rfl := Gets.out H
  exact rt i2 rfl () 5 [0,1,2,3,4] 5 (.cons (res_tmp rfl) .nil)
 refine WP.skip <| rg 3 0 <| mv0 rfl rfl <| bn0 rfl rfl rfl run_add <| as0 rfl rfl <| .fin <| ng (PTab.shut (p := g996) (m := p1021.2.2) (g1026.1, g1026.2.1, g1026.2.2) h1027 (pm 7 [0,1,3,2,4,5,6])) fun _ _ => ?_
 refine ng (sg 5 [1,2,3,4,0] 3) fun _ _ => ?_
 exact bk j1058 (w64 (x1002 + 1), p1021.1, p1021.2.1, p1021.2.2) H
end Go.Proofs.YtegmafgodoikiaaGreat
