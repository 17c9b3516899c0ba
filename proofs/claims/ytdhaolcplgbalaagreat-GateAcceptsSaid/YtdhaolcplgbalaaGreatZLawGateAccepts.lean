/- The walks. -/
import Derived.Test.YtdhaolcplgbalaaGreatZWalks2
import Derived.Test.YtdhaolcplgbalaaGreatConQ
import Derived.Test.YtdhaolcplgbalaaGreatConA5
import Derived.Eval
set_option linter.all false
set_option maxRecDepth 10000
set_option maxHeartbeats 20000000
namespace Go.Proofs.YtdhaolcplgbalaaGreat
open Go Go.Sp
theorem concourselaw16_GateAccepts.c {k : Nat} {a0 : List GMade} {a1 : List GMade} {a2 : Edu} {a3 : ByteArray} {r : Bool} (h : concourselaw16_GateAccepts.f k a0 a1 a2 a3 = some r) : Pt Tryz.prog 3 [sl GMade.K a0, sl GMade.K a1, agg (Edu.enc a2), vS a3] (vB r) := by
 unfold concourselaw16_GateAccepts.f at h
 refine (Tr.body Tryz.func3 (c := _) rfl Tryz.ntmps3 (Nat.le_of_ble_eq_true rfl) fun R0 F => ?_).pt
 replace h := Gets.of h
 have H := h
 clear h
 refine WP.seq <| rg 2 1 <| Dv.box rfl trivial rfl cA nofun fun b1298 => as0 rfl rfl <| .fin <| WP.seq <| rg 9 324 <| mv0 rfl rfl <| mv0 rfl rfl <| el H fun t1299 h1300 H => cx 1 [0] cal9 (concourselaw16_build.c h1300) nofun fun g1301 _ => ?_
 refine mv0 rfl rfl <| ex0 rfl trivial rfl rfl <| ex0 rfl trivial rfl rfl <| al rfl trivial zc28 nofun fun b1302 => as0 rfl rfl <| sx 0 rfl trivial rfl rfl cA sz28 rfl rfl rfl nofun ?_
 refine .fin <| WP.seq <| WP.seq <| rg 2 0 <| mv0 rfl rfl <| Dv.oeq0 (fun _ => VView.nn) rfl trivial rfl rfl Tryz.underlying25 (mem_at 1 rfl) <| .fin <| cd H rfl (fun _ H => ?_) (fun c1303 H => ?_)
 ·
  refine WP.seq <| rg 1 0 <| as0 rfl rfl <| .fin ?_
  obtain rfl := Gets.out H
  exact rt i2 rfl () 3 [0,1,2] 3 (.cons (res_tmp rfl) .nil)
 refine wg (opt_some 1 rfl c1303) fun _ _ => ?_
 refine WP.skip <| WP.seq <| rg 3 0 <| lds 2 rfl trivial rfl sg24 rfl rfl <| el H fun t1304 h1305 H => cl rfl cal10 rfl (concourselaw16_some.c h1305) <| as0 rfl rfl <| .fin <| WP.seq <| rg 7 0 <| el H fun t1306 h1307 H => cl rfl cal11 rfl (concourseref01_ServerOf.c h1307) <| el H fun t1308 h1309 H => cl rfl cal11 rfl (concourseref01_ServerOf.c h1309) <| el H fun t1310 h1311 H => cl rfl cal11 rfl (concourseref01_ServerOf.c h1311) <| mv0 rfl rfl <| el H fun t1312 h1313 H => cl rfl cal12 rfl (concourseref01_Few.c h1313) <| Dv.lit strK ([t1306, t1308, t1310, t1312, (⟨#[]⟩ : ByteArray)] : List ByteArray) (css := [[vS t1306], [vS t1308], [vS t1310], [vS t1312], [vS (⟨#[]⟩ : ByteArray)]]) rfl trivial Tryz.underlying35 Tryz.underlying9 c9 z9 rfl (by decide) (by decide) rfl ⟨(cells_one (one_eq rfl)), ⟨(cells_one (one_eq rfl)), ⟨(cells_one (one_eq rfl)), ⟨(cells_one (one_eq rfl)), ⟨(cells_one (one_eq rfl)), trivial⟩⟩⟩⟩⟩ rfl rfl rfl <| as0 rfl rfl <| .fin <| WP.seqr H id (fun p1314 : Int × Bool => [(0, sl GMade.K a0), (1, sl GMade.K a1), (2, agg (Edu.enc a2)), (3, vS a3), (6, eq (.pointer (some ⟨b1298, 0, none⟩))), (8, vB false), (9, eq g1301.1), (10, eq (.pointer (some ⟨b1302, 0, none⟩))), (11, sl Edu.K t1304), (12, sl strK ([t1306, t1308, t1310, t1312, (⟨#[]⟩ : ByteArray)] : List ByteArray)), (13, vI p1314.1), (22, vB t1299.1.isNone), (34, vB p1314.2)]) (fun p1314 : Int × Bool => [blk b1302 28 (RView.enc t1299.2), blk b1298 24 (Edu.enc a2), VView.O g1301 (t1299.1.getD default)] ++ F) (fun p1314 H => ?_) (fun H => ?_)
 ·
  refine WP.seq <| rg 2 0 <| el H fun t1315 h1316 H => cl rfl cal15 rfl (concourselaw16_lives.c h1316) <| as0 rfl rfl <| .fin ?_
  obtain rfl := Gets.out H
  exact rt i2 rfl () 3 [0,1,2] 3 (.cons (res_tmp rfl) .nil)
 refine WP.seq <| rg 1 0 <| as0 rfl rfl <| .fin <| WP.block <| wg (sg 3 [1,2,0] 0) fun _ _ => ?_
 refine lp (fun j_ (p1334 : Int) => concourselaw16_GateAccepts.l0 k t1299 t1304 t1306 t1308 t1310 t1312 j_ p1334) 0 H (fun p1334 => [(0, sl GMade.K a0), (1, sl GMade.K a1), (2, agg (Edu.enc a2)), (3, vS a3), (6, eq (.pointer (some ⟨b1298, 0, none⟩))), (8, vB false), (9, eq g1301.1), (10, eq (.pointer (some ⟨b1302, 0, none⟩))), (11, sl Edu.K t1304), (12, sl strK ([t1306, t1308, t1310, t1312, (⟨#[]⟩ : ByteArray)] : List ByteArray)), (13, vI p1334), (22, vB t1299.1.isNone)]) (fun p1334 => [blk b1302 28 (RView.enc t1299.2), blk b1298 24 (Edu.enc a2), VView.O g1301 (t1299.1.getD default)] ++ F) ?_
 rintro j_ x1317 H
 rcases j_ with _ | j1333
 ·
  exact (Gets.no H).elim
 replace H : Gets (concourselaw16_GateAccepts.l0 k t1299 t1304 t1306 t1308 t1310 t1312 (j1333 + 1) x1317) _ := H
 rw [concourselaw16_GateAccepts.l0] at H
 refine WP.seq <| WP.seq <| rg 4 0 <| mv0 rfl rfl <| mv0 rfl rfl <| Dv.lenl rfl trivial rfl Tryz.underlying31 <| bn0 rfl rfl rfl run_lt <| .fin <| cd H rfl (fun _ H => ?_) (fun _ H => ?_)
 rotate_left
 ·
  refine WP.exit ?_
  replace H := Gets.out H
  exact jn (x1317, decide (x1317 < (t1304.length : Int))) H
 refine WP.skip <| WP.seqr H id (fun p1319 : Int × Bool => [(0, sl GMade.K a0), (1, sl GMade.K a1), (2, agg (Edu.enc a2)), (3, vS a3), (6, eq (.pointer (some ⟨b1298, 0, none⟩))), (8, vB false), (9, eq g1301.1), (10, eq (.pointer (some ⟨b1302, 0, none⟩))), (11, sl Edu.K t1304), (12, sl strK ([t1306, t1308, t1310, t1312, (⟨#[]⟩ : ByteArray)] : List ByteArray)), (13, vI x1317), (14, vI p1319.1), (22, vB t1299.1.isNone), (34, vB (decide (x1317 < (t1304.length : Int)))), (40, vB p1319.2)]) (fun p1319 : Int × Bool => [blk b1302 28 (RView.enc t1299.2), blk b1298 24 (Edu.enc a2), VView.O g1301 (t1299.1.getD default)] ++ F) (fun p1319 H => ?_) (fun H => ?_)
 ·
  exact rg 3 0 <| mv0 rfl rfl <| bn0 rfl rfl rfl run_add <| as0 rfl rfl <| .fin <| bk j1333 (w64 (x1317 + 1)) H
 refine WP.block <| WP.seq <| rg 1 0 <| as0 rfl rfl <| .fin <| WP.block <| wg (sg 3 [0,1,2] 0) fun _ _ => ?_
 refine lp (fun j_ (p1332 : Int) => concourselaw16_GateAccepts.l1 k t1299 t1304 t1306 t1308 t1310 t1312 x1317 j_ p1332) 0 H (fun p1332 => [(0, sl GMade.K a0), (1, sl GMade.K a1), (2, agg (Edu.enc a2)), (3, vS a3), (6, eq (.pointer (some ⟨b1298, 0, none⟩))), (8, vB false), (9, eq g1301.1), (10, eq (.pointer (some ⟨b1302, 0, none⟩))), (11, sl Edu.K t1304), (12, sl strK ([t1306, t1308, t1310, t1312, (⟨#[]⟩ : ByteArray)] : List ByteArray)), (13, vI x1317), (14, vI p1332), (22, vB t1299.1.isNone), (34, vB (decide (x1317 < (t1304.length : Int))))]) (fun p1332 => [blk b1302 28 (RView.enc t1299.2), blk b1298 24 (Edu.enc a2), VView.O g1301 (t1299.1.getD default)] ++ F) ?_
 rintro j_ x1320 H
 rcases j_ with _ | j1331
 ·
  exact (Gets.no H).elim
 replace H : Gets (concourselaw16_GateAccepts.l1 k t1299 t1304 t1306 t1308 t1310 t1312 x1317 (j1331 + 1) x1320) _ := H
 rw [concourselaw16_GateAccepts.l1] at H
 refine WP.seq <| WP.seq <| rg 4 0 <| mv0 rfl rfl <| mv0 rfl rfl <| Dv.lenl rfl trivial rfl Tryz.underlying35 <| bn0 rfl rfl rfl run_lt <| .fin <| cd H rfl (fun _ H => ?_) (fun _ H => ?_)
 rotate_left
 ·
  refine WP.exit ?_
  replace H := Gets.out H
  exact jn (x1320, decide (x1320 < (([t1306, t1308, t1310, t1312, (⟨#[]⟩ : ByteArray)] : List ByteArray).length : Int))) H
 refine WP.skip <| WP.seq <| WP.block <| WP.seq <| dgo Tryz.checked.mixed [0, 1, 2, 3, 4, 5, 6, 7, 8, 10, 11, 12, 13, 14, 15, 16, 17, 18, 9, 19, 20] [9] <| mv0 rfl rfl <| mv0 rfl rfl <| mv0 rfl rfl <| gr H fun g1322 H => Dv.ixr rfl trivial rfl rfl Tryz.underlying35 Tryz.underlying9 c9 g1322.1 g1322.2 <| ldR rfl trivial rfl sc9 rfl <| mv0 rfl rfl <| mv0 rfl rfl <| gr H fun g1323 H => Dv.ixr rfl trivial rfl rfl Tryz.underlying31 Tryz.underlying24 c24 g1323.1 g1323.2 <| ldsR rfl trivial rfl sg24 rfl <| lds 0 rfl trivial rfl sg28 rfl rfl <| mv0 rfl rfl <| mv0 rfl rfl <| gr H fun g1324 H => Dv.ixr rfl trivial rfl rfl Tryz.underlying35 Tryz.underlying9 c9 g1324.1 g1324.2 <| ldR rfl trivial rfl sc9 rfl <| mv0 rfl rfl <| mv0 rfl rfl <| gr H fun g1325 H => Dv.ixr rfl trivial rfl rfl Tryz.underlying31 Tryz.underlying24 c24 g1325.1 g1325.2 <| ldsR rfl trivial rfl sg24 rfl <| el H fun t1326 h1327 H => Dv.callx (pre := [VView.O g1301 (t1299.1.getD default)]) (F := [blk b1302 28 (RView.enc t1299.2), blk b1298 24 (Edu.enc a2)] ++ F) (fun _ : Unit => [VView.O g1301 (t1299.1.getD default), blk b1302 28 (RView.enc t1299.2), blk b1298 24 (Edu.enc a2)] ++ F) rfl trivial cal13 rfl (gate_Accept.c h1327 (p0_ := g1301)) (perm_to (L := [blk b1302 28 (RView.enc t1299.2), blk b1298 24 (Edu.enc a2), VView.O g1301 (t1299.1.getD default)]) (F := F) [2, 0, 1] rfl rfl rfl) rfl (fun _ => pendc (pend_in (fun _ => trivial) (pend_in (fun _ => trivial) (pend_in (fun _ => trivial) (pend_in (fun _ => trivial) (pend_in (fun _ => trivial) (pend_in (fun _ => trivial) (pend_in (fun _ => trivial) (pend_in (fun _ => trivial) (pend_in (fun _ => (mem_at 1 rfl)) (pend_by (by kernel_rfl) (pend_by (by kernel_rfl) (pend_by (by kernel_rfl) (pend_by (by kernel_rfl) (pend_by (by kernel_rfl) (pend_by (by kernel_rfl) (pend_by (by kernel_rfl) (pend_by (by kernel_rfl) (pend_by (by kernel_rfl) pend_nil))))))))))))))))))) (fun _ _ => ?_)
 refine el H fun t1328 h1329 H => cl rfl cal14 rfl (concourseref16_Accept.c h1329) <| bn0 rfl rfl rfl run_ne <| .fin <| cd H rfl (fun _ H => ?_) (fun _ H => ?_)
 rotate_left
 ·
  refine WP.skip <| rg 3 0 <| mv0 rfl rfl <| bn0 rfl rfl rfl run_add <| as0 rfl rfl <| .fin <| ng (sg 3 [1,2,0] 0) fun _ _ => ?_
  exact bk j1331 (w64 (x1320 + 1)) H
 refine WP.seq <| rg 1 0 <| as0 rfl rfl <| .fin ?_
 replace H := Gets.outr H
 replace H := Gets.outr H
 obtain rfl := Gets.out H
 exact rt i2 rfl () 3 [0,1,2] 3 (.cons (res_tmp rfl) .nil)
end Go.Proofs.YtdhaolcplgbalaaGreat
