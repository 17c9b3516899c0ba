/- The walks. -/
import Derived.Test.YtigmkniiojpdiaaGreatZWalks2
import Derived.Test.YtigmkniiojpdiaaGreatConQ
import Derived.Test.YtigmkniiojpdiaaGreatConA3
import Derived.Eval
set_option linter.all false
set_option maxRecDepth 10000
set_option maxHeartbeats 20000000
namespace Go.Proofs.YtigmkniiojpdiaaGreat
open Go Go.Sp
theorem concourselaw10_ViewAdds.c {k : Nat} {a0 : List GMade} {a1 : List GMade} {a2 : List Event} {a3 : List Int} {r : Bool} (h : concourselaw10_ViewAdds.f k a0 a1 a2 a3 = some r) : Pt Tryz.prog 3 [sl GMade.K a0, sl GMade.K a1, sl Event.K a2, sl (intK .i64) a3] (vB r) := by
 unfold concourselaw10_ViewAdds.f at h
 refine (Tr.body Tryz.func3 (c := _) rfl Tryz.ntmps3 (Nat.le_of_ble_eq_true rfl) fun R0 F => ?_).pt
 replace h := Gets.of h
 have H := h
 clear h
 refine WP.seq <| rg 1 0 <| as0 rfl rfl <| .fin <| WP.seq <| rg 9 324 <| mv0 rfl rfl <| mv0 rfl rfl <| el H fun t970 h971 H => cx 0 [] cal8 (concourselaw10_build.c h971) nofun fun g972 _ => ?_
 refine mv0 rfl rfl <| ex0 rfl trivial rfl rfl <| ex0 rfl trivial rfl rfl <| al rfl trivial zc28 nofun fun b973 => as0 rfl rfl <| sx 0 rfl trivial rfl rfl cA sz28 rfl rfl rfl nofun ?_
 refine .fin <| WP.seq <| WP.seq <| rg 2 0 <| mv0 rfl rfl <| Dv.oeq0 (fun _ => VView.nn) rfl trivial rfl rfl Tryz.underlying25 (mem_at 1 rfl) <| .fin <| cd H rfl (fun _ H => ?_) (fun c974 H => ?_)
 ·
  refine WP.seq <| rg 1 0 <| as0 rfl rfl <| .fin ?_
  obtain rfl := Gets.out H
  exact rt i2 rfl () 2 [0,1] 2 (.cons (res_tmp rfl) .nil)
 refine wg (opt_some 1 rfl c974) fun _ _ => ?_
 refine WP.skip <| WP.seqr H id (fun p975 : Int × Bool × (List RDag) × VView => [(0, sl GMade.K a0), (1, sl GMade.K a1), (2, sl Event.K a2), (3, sl (intK .i64) a3), (8, vB false), (9, eq g972.1), (10, eq (.pointer (some ⟨b973, 0, none⟩))), (11, vI p975.1), (25, vB t970.1.isNone), (39, vB p975.2.1)]) (fun p975 : Int × Bool × (List RDag) × VView => [blk b973 28 [sl RDag.K p975.2.2.1], VView.O g972 p975.2.2.2] ++ F) (fun p975 H => ?_) (fun H => ?_)
 rotate_left
 ·
  refine WP.seq <| rg 1 0 <| as0 rfl rfl <| .fin <| WP.block <| wg (sg 2 [1,0] 0) fun _ _ => ?_
  refine lp (fun j_ (p1047 : Int × (List RDag) × VView) => concourselaw10_ViewAdds.l1 k a2 a3 j_ p1047.1 p1047.2.1 p1047.2.2) (0, t970.2.fD, t970.1.getD default) H (fun p1047 => [(0, sl GMade.K a0), (1, sl GMade.K a1), (2, sl Event.K a2), (3, sl (intK .i64) a3), (8, vB false), (9, eq g972.1), (10, eq (.pointer (some ⟨b973, 0, none⟩))), (11, vI p1047.1), (25, vB t970.1.isNone)]) (fun p1047 => [blk b973 28 [sl RDag.K p1047.2.1], VView.O g972 p1047.2.2] ++ F) ?_
  rintro j_ ⟨x1017, x1018, x1019⟩ H
  rcases j_ with _ | j1046
  ·
   exact (Gets.no H).elim
  replace H : Gets (concourselaw10_ViewAdds.l1 k a2 a3 (j1046 + 1) x1017 x1018 x1019) _ := H
  rw [concourselaw10_ViewAdds.l1] at H
  refine WP.seq <| WP.seq <| rg 14 0 <| mv0 rfl rfl <| mv0 rfl rfl <| Dv.lenl rfl trivial rfl Tryz.underlying23 <| bn0 rfl rfl rfl run_lt <| mv0 rfl rfl ?_
  cases c1020 : decide (x1017 < (a2.length : Int))
  ·
   replace H := Gets.cf H c1020
   refine sk rfl rfl <| sk rfl rfl <| sk rfl rfl <| sk rfl rfl <| pf0 rfl rfl rfl <| mv0 rfl rfl <| sk rfl rfl <| sk rfl rfl <| pf0 rfl rfl rfl <| .fin <| WP.cond rfl nofun (fun _ => ?_)
   refine WP.exit ?_
   replace H := Gets.out H
   exact jn (x1017, false, x1018, x1019) H
  replace H := Gets.ct H c1020
  refine mvg rfl rfl rfl <| mvg rfl rfl rfl <| Dv.lenl rfl (gg rfl) rfl Tryz.underlying24 <| bng rfl rfl rfl rfl run_lt <| pt0 rfl rfl rfl <| mv0 rfl rfl ?_
  cases c1021 : decide (x1017 < (a3.length : Int))
  ·
   replace H := Gets.cf H c1021
   refine sk rfl rfl <| sk rfl rfl <| pf0 rfl rfl rfl <| .fin <| WP.cond rfl nofun (fun _ => ?_)
   refine WP.exit ?_
   replace H := Gets.out H
   exact jn (x1017, false, x1018, x1019) H
  replace H := Gets.ct H c1021
  refine mvg rfl rfl rfl <| bng rfl rfl rfl rfl run_lt <| pt0 rfl rfl rfl <| .fin <| cd H rfl (fun _ H => ?_) (fun _ H => ?_)
  rotate_left
  ·
   refine WP.exit ?_
   replace H := Gets.out H
   exact jn (x1017, decide (x1017 < 4), x1018, x1019) H
  refine WP.skip <| WP.seq <| WP.block <| WP.seq <| dg Tryz.checked.mixed 16 49152 <| lds 0 rfl trivial rfl sg28 rfl rfl <| mv0 rfl rfl <| el H fun t1023 h1024 H => cl rfl cal11 rfl (concourseref01_RoomOf.c h1024) <| el H fun t1025 h1026 H => cl rfl cal10 rfl (concourseref10_Of.c h1026) <| mv0 rfl rfl <| mv0 rfl rfl <| mv0 rfl rfl <| gr H fun g1027 H => Dv.ixr rfl trivial rfl rfl Tryz.underlying24 Tryz.underlying3 c3 g1027.1 g1027.2 <| ldR rfl trivial rfl sc3 rfl <| mv0 rfl rfl <| mv0 rfl rfl <| gr H fun g1028 H => Dv.ixr rfl trivial rfl rfl Tryz.underlying23 Tryz.underlying33 c33 g1028.1 g1028.2 <| ldsR rfl trivial rfl sg33 rfl <| el H fun t1029 h1030 H => cl rfl cal9 rfl (concourseref07_Odd.c h1030) <| al rfl trivial zc33 (fun _ => (pend_in (fun _ => trivial) (pend_in (fun _ => trivial) (pend_in (fun _ => trivial) (pend_in (fun _ => trivial) (pend_in (fun _ => trivial) (pend_in (fun _ => trivial) (pend_in (fun _ => trivial) (pend_in (fun _ => trivial) (pend_in (fun _ => trivial) (pend_in (fun _ => trivial) (pend_in (fun _ => trivial) (pend_in (fun _ => trivial) (pend_in (fun _ => trivial) (pend_in (fun _ => (mem_at 1 rfl)) pend_nil))))))))))))))) fun b1031 => sx 0 rfl trivial rfl rfl cA sz33 rfl rfl rfl pB ?_
  refine .fin <| WP.seqn H id (fun p1032 : ByteArray => [(0, sl GMade.K a0), (1, sl GMade.K a1), (2, sl Event.K a2), (3, sl (intK .i64) a3), (8, vB false), (9, eq g972.1), (10, eq (.pointer (some ⟨b973, 0, none⟩))), (11, vI x1017), (12, eq (.pointer (some ⟨b1031, 0, none⟩))), (25, vB t970.1.isNone), (39, vB (decide (x1017 < 4))), (61, vB ((((intK .i64).at a3 x1017).tmod 5) == 0))]) (fun p1032 : ByteArray => [blk b1031 33 [vS t1029.fID, vS p1032, sl strK t1029.fParents, vS t1029.fThread, vS t1029.fUser, vI t1029.fDoes], blk b973 28 [sl RDag.K x1018], VView.O g972 x1019] ++ F) (fun p1032 H => ?_) (fun H => ?_)
  rotate_left
  ·
   refine WP.seq <| rg 6 0 <| mv0 rfl rfl <| mv0 rfl rfl <| gr H fun g1039 H => Dv.ixr rfl trivial rfl rfl Tryz.underlying24 Tryz.underlying3 c3 g1039.1 g1039.2 <| ldR rfl trivial rfl sc3 rfl <| bn0 rfl rfl rfl (run_rem (by decide)) <| bn0 rfl rfl rfl run_eq <| .fin <| cd H rfl (fun _ H => ?_) (fun _ H => ?_)
   rotate_left
   ·
    refine WP.skip ?_
    replace H := Gets.out H
    exact jn t1029.fRoom H
   refine rg 8 128 <| mv0 rfl rfl <| mv0 rfl rfl <| gr H fun g1041 H => Dv.ixr rfl trivial rfl rfl Tryz.underlying24 Tryz.underlying3 c3 g1041.1 g1041.2 <| ldR rfl trivial rfl sc3 rfl <| bn0 rfl rfl rfl (run_quo (by decide)) <| el H fun t1042 h1043 H => cl rfl cal11 rfl (concourseref01_RoomOf.c h1043) <| fb rfl trivial rfl fa33_1 <| sx 0 rfl trivial rfl rfl cE sz9 rfl rfl rfl nofun ?_
   refine .fin ?_
   replace H := Gets.out H
   exact jn t1042 H
  refine WP.seq <| rg 9 192 <| lds 1 rfl trivial rfl sg28 rfl rfl <| lds 0 rfl trivial rfl sg33 rfl rfl <| el H fun t1033 h1034 H => cl rfl cal12 rfl (concourseref10_Add.c h1034) <| mv0 rfl rfl <| ex0 rfl trivial rfl rfl <| ex0 rfl trivial rfl rfl <| al rfl trivial zc28 nofun fun b1035 => sx 0 rfl trivial rfl rfl cA sz28 rfl rfl rfl nofun ?_
  refine as0 rfl rfl <| .fin <| WP.seq <| WP.seq <| rg 5 4 <| mv0 rfl rfl <| lds 1 rfl trivial rfl sg33 rfl rfl <| el H fun t1036 h1037 H => cx 4 [3,0,1,2] cal13 (view_View_Add.c h1037 (p0_ := g972)) nofun fun _ _ => ?_
  refine mv0 rfl rfl <| bn0 rfl rfl rfl run_ne <| .fin <| cd H rfl (fun _ H => ?_) (fun _ H => ?_)
  ·
   refine WP.seq <| rg 1 0 <| as0 rfl rfl <| .fin ?_
   replace H := Gets.outr H
   obtain rfl := Gets.out H
   exact rt i2 rfl () 4 [0,1,2,3] 4 (.cons (res_tmp rfl) .nil)
  refine WP.skip <| rg 2 2 <| lds 1 rfl trivial rfl sg28 rfl rfl <| sx 3 rfl trivial rfl rfl cA sz28 rfl rfl rfl nofun ?_
  refine .fin <| rg 3 0 <| mv0 rfl rfl <| bn0 rfl rfl rfl run_add <| as0 rfl rfl <| .fin <| ng (sg 4 [1,2,3,0] 2) fun _ _ => ?_
  exact bk j1046 (w64 (x1017 + 1), t1033.1.fD, t1036.2) H
 refine WP.seqr H id (fun p976 : Int × Bool => [(0, sl GMade.K a0), (1, sl GMade.K a1), (2, sl Event.K a2), (3, sl (intK .i64) a3), (8, vB false), (9, eq g972.1), (10, eq (.pointer (some ⟨b973, 0, none⟩))), (11, vI p975.1), (15, vI p976.1), (25, vB t970.1.isNone), (39, vB p975.2.1), (82, vB p976.2)]) (fun p976 : Int × Bool => [blk b973 28 [sl RDag.K p975.2.2.1], VView.O g972 p975.2.2.2] ++ F) (fun p976 H => ?_) (fun H => ?_)
 ·
  refine WP.seq <| wg (VView.opn 1 rfl) fun g977 h978 => ?_
  refine dgo Tryz.checked.mixed [0, 2, 1, 3, 4, 5, 6, 7, 8] [1, 3] <| mv0 rfl rfl <| lds 2 rfl trivial rfl sg28 rfl rfl <| el H fun t979 h980 H => Dv.callx (pre := [blk g977.1 80 [eq g977.2.1], mpo Value.string DDag.O g977.2.1 p975.2.2.2.fdags]) (F := [blk b973 28 [sl RDag.K p975.2.2.1]] ++ F) (fun g981 : OV => [blk g977.1 80 [eq g977.2.1], mpo Value.string DDag.O g977.2.1 p975.2.2.2.fdags, own strK g981.1 t979, blk b973 28 [sl RDag.K p975.2.2.1]] ++ F) rfl trivial cal20 rfl (Tr.weak (view_View_Rooms.c h980 (b0_ := g977.1) (v0_0 := g977.2)) (.cons (wk_ptr h978) .nil)) (perm_to (L := [blk g977.1 80 [eq g977.2.1], mpo Value.string DDag.O g977.2.1 p975.2.2.2.fdags, blk b973 28 [sl RDag.K p975.2.2.1]]) (F := F) [0, 1, 2] rfl rfl rfl) rfl (fun _ => pendc (pend_in (fun _ => (mem_at 3 rfl)) (pend_by (by kernel_rfl) pend_nil))) (fun g981 _ => ?_)
  refine el H fun t982 h983 H => cx 4 [0,1,2,3] cal21 (concourseref10_Rooms.c h983) pC fun g984 _ => ?_
  refine el H fun t985 h986 H => cll (B := [own strK g981.1 t979, own strK g984.1 t982]) 5 [3,0,1,2,4] cal17 (Pt.lend _ (concourseref01_SameTexts.c h986) (.cons (lt_own (mem_at 0 rfl)) (.cons (lt_own (mem_at 1 rfl)) .nil)) flat_eq) ?_
  refine mv0 rfl rfl ?_
  cases c987 : t985
  ·
   replace H := Gets.cf H c987
   refine sk rfl rfl <| pf0 rfl rfl rfl <| as0 rfl rfl <| .fin <| wg (VView.shut (p := g972) (m := p975.2.2.2) (g977.1, g977.2) h978 (pm 5 [1,2,0,3,4])) fun _ _ => ?_
   obtain rfl := Gets.out H
   exact rt i2 rfl () 4 [0,1,2,3] 4 (.cons (res_tmp rfl) .nil)
  replace H := Gets.ct H c987
  refine el H fun t988 h989 H => Dv.call rfl (gg rfl) cal22 rfl (concourselaw10_lives.c h989) <| pt0 rfl rfl rfl <| as0 rfl rfl <| .fin <| wg (VView.shut (p := g972) (m := p975.2.2.2) (g977.1, g977.2) h978 (pm 5 [1,2,0,3,4])) fun _ _ => ?_
  obtain rfl := Gets.out H
  exact rt i2 rfl () 4 [0,1,2,3] 4 (.cons (res_tmp rfl) .nil)
 refine WP.seq <| rg 1 0 <| as0 rfl rfl <| .fin <| WP.block <| wg (sg 2 [0,1] 0) fun _ _ => ?_
 refine lp (fun j_ (p1016 : Int) => concourselaw10_ViewAdds.l0 k p975 j_ p1016) 0 H (fun p1016 => [(0, sl GMade.K a0), (1, sl GMade.K a1), (2, sl Event.K a2), (3, sl (intK .i64) a3), (8, vB false), (9, eq g972.1), (10, eq (.pointer (some ⟨b973, 0, none⟩))), (11, vI p975.1), (15, vI p1016), (25, vB t970.1.isNone), (39, vB p975.2.1)]) (fun p1016 => [blk b973 28 [sl RDag.K p975.2.2.1], VView.O g972 p975.2.2.2] ++ F) ?_
 rintro j_ x990 H
 rcases j_ with _ | j1015
 ·
  exact (Gets.no H).elim
 replace H : Gets (concourselaw10_ViewAdds.l0 k p975 (j1015 + 1) x990) _ := H
 rw [concourselaw10_ViewAdds.l0] at H
 refine WP.seq <| WP.seq <| rg 2 0 <| mv0 rfl rfl <| bn0 rfl rfl rfl run_lt <| .fin <| cd H rfl (fun _ H => ?_) (fun _ H => ?_)
 rotate_left
 ·
  refine WP.exit ?_
  replace H := Gets.out H
  exact jn (x990, decide (x990 < 2)) H
 refine WP.skip <| WP.seq <| WP.block <| WP.seq <| rg 3 0 <| mv0 rfl rfl <| el H fun t992 h993 H => cl rfl cal11 rfl (concourseref01_RoomOf.c h993) <| as0 rfl rfl <| .fin <| WP.seq <| rg 5 24 <| lds 0 rfl trivial rfl sg28 rfl rfl <| mv0 rfl rfl <| el H fun t994 h995 H => cl rfl cal10 rfl (concourseref10_Of.c h995) <| al rfl trivial zc36 nofun fun b996 => sx 0 rfl trivial rfl rfl cA sz36 rfl rfl rfl nofun ?_
 refine .fin <| WP.seq <| dgo Tryz.checked.mixed [0, 1, 3, 2, 4, 5, 6, 7, 8, 9, 11, 10, 12, 13, 14, 15] [2, 10, 12] <| mv0 rfl rfl <| mv0 rfl rfl <| lds 0 rfl trivial rfl sg36 rfl rfl <| el H fun t997 h998 H => Dv.callx (pre := [VView.O g972 p975.2.2.2]) (F := [blk b996 36 (RDag.enc t994), blk b973 28 [sl RDag.K p975.2.2.1]] ++ F) (fun g999 : OV => [VView.O g972 p975.2.2.2, own Event.K g999.1 t997, blk b996 36 (RDag.enc t994), blk b973 28 [sl RDag.K p975.2.2.1]] ++ F) rfl trivial cal15 rfl (view_View_Events.c h998 (p0_ := g972)) (perm_to (L := [blk b996 36 (RDag.enc t994), blk b973 28 [sl RDag.K p975.2.2.1], VView.O g972 p975.2.2.2]) (F := F) [2, 0, 1] rfl rfl rfl) rfl (fun _ => pendc (pend_in (fun _ => (mem_at 2 rfl)) (pend_by (by kernel_rfl) (pend_by (by kernel_rfl) pend_nil)))) (fun g999 _ => ?_)
 refine el H fun t1000 h1001 H => cl rfl cal16 rfl (concourseref07_All.c h1001) <| el H fun t1002 h1003 H => cll (B := [own Event.K g999.1 t997]) 4 [1,0,2,3] cal14 (Pt.lend _ (concourseref07_SameAll.c h1003) (.cons (lt_own (mem_at 0 rfl)) (.cons lt_id .nil)) flat_eq) ?_
 refine un0 rfl rfl (run_not _) <| mv0 rfl rfl ?_
 cases c1004 : !t1002
 rotate_left
 ·
  replace H := Gets.ct H c1004
  refine sk rfl rfl <| sk rfl rfl <| sk rfl rfl <| Dv.skipb rfl ⟨_, _, rfl, rfl, .inl rfl⟩ (fun _ => (pend_in (fun _ => trivial) (pend_by (by kernel_rfl) (pend_by (by kernel_rfl) (pend_by (by kernel_rfl) (pend_by (by kernel_rfl) (pend_by (by kernel_rfl) (pend_by (by kernel_rfl) (pend_by (by kernel_rfl) (pend_by (by kernel_rfl) (pend_by (by kernel_rfl) pend_nil))))))))))) <| Dv.skipb rfl ⟨_, _, rfl, rfl, .inl rfl⟩ (fun _ => pend_bits (by kernel_rfl)) <| sk rfl rfl <| sk rfl rfl <| pt0 rfl rfl rfl <| .fin <| WP.cond rfl (fun _ => ?_) nofun
  refine WP.seq <| rg 1 0 <| as0 rfl rfl <| .fin ?_
  replace H := Gets.outr H
  obtain rfl := Gets.out H
  exact rt i2 rfl () 4 [0,1,2,3] 4 (.cons (res_tmp rfl) .nil)
 replace H := Gets.cf H c1004
 refine mvg rfl rfl rfl <| mvg rfl rfl rfl <| lds 2 rfl (gg rfl) rfl sg36 rfl rfl <| el H fun t1006 h1007 H => Dv.callx (pre := [VView.O g972 p975.2.2.2]) (F := [own Event.K g999.1 t997, blk b996 36 (RDag.enc t994), blk b973 28 [sl RDag.K p975.2.2.1]] ++ F) (fun g1008 : OV => [VView.O g972 p975.2.2.2, own strK g1008.1 t1006, own Event.K g999.1 t997, blk b996 36 (RDag.enc t994), blk b973 28 [sl RDag.K p975.2.2.1]] ++ F) rfl (gg rfl) cal18 rfl (view_View_Heads.c h1007 (p0_ := g972)) (perm_to (L := [VView.O g972 p975.2.2.2, own Event.K g999.1 t997, blk b996 36 (RDag.enc t994), blk b973 28 [sl RDag.K p975.2.2.1]]) (F := F) [0, 1, 2, 3] rfl rfl rfl) rfl (fun _ => pendc (pend_in (fun _ => (mem_at 3 rfl)) (pend_by (by kernel_rfl) (pend_by (by kernel_rfl) (pend_by (by kernel_rfl) (pend_by (by kernel_rfl) (pend_by (by kernel_rfl) (pend_by (by kernel_rfl) (pend_by (by kernel_rfl) (pend_by (by kernel_rfl) (pend_by (by kernel_rfl) pend_nil))))))))))) (fun g1008 _ => ?_)
 refine el H fun t1009 h1010 H => cx 5 [0,1,2,3,4] cal19 (concourseref07_Heads.c h1010) pC fun g1011 _ => ?_
 refine el H fun t1012 h1013 H => cll (B := [own strK g1008.1 t1006, own strK g1011.1 t1009]) 6 [2,0,1,3,4,5] cal17 (Pt.lend _ (concourseref01_SameTexts.c h1013) (.cons (lt_own (mem_at 0 rfl)) (.cons (lt_own (mem_at 1 rfl)) .nil)) flat_eq) ?_
 refine ung rfl rfl rfl (run_not _) <| pf0 rfl rfl rfl <| .fin <| cd H rfl (fun _ H => ?_) (fun _ H => ?_)
 rotate_left
 ·
  refine WP.skip <| rg 3 0 <| mv0 rfl rfl <| bn0 rfl rfl rfl run_add <| as0 rfl rfl <| .fin <| ng (sg 6 [0,2,3,4,5,1] 4) fun _ _ => ?_
  exact bk j1015 (w64 (x990 + 1)) H
 refine WP.seq <| rg 1 0 <| as0 rfl rfl <| .fin ?_
 replace H := Gets.outr H
 obtain rfl := Gets.out H
 exact rt i2 rfl () 6 [0,1,2,3,4,5] 6 (.cons (res_tmp rfl) .nil)
end Go.Proofs.YtigmkniiojpdiaaGreat
