/- The walks. -/
import Derived.Test.YtdhaolcplgbalaaGreatZWalks2
import Derived.Test.YtdhaolcplgbalaaGreatConQ
import Derived.Test.YtdhaolcplgbalaaGreatConA5
import Derived.Eval
set_option linter.all false
set_option maxRecDepth 10000
set_option maxHeartbeats 20000000
namespace Go.Proofs.YtdhaolcplgbalaaGreat
open Go Go.Sp
theorem concourselaw16_GateSees.c {k : Nat} {a0 : List GMade} {a1 : List GMade} {a2 : Edu} {a3 : ByteArray} {r : Bool} (h : concourselaw16_GateSees.f k a0 a1 a2 a3 = some r) : Pt Tryz.prog 6 [sl GMade.K a0, sl GMade.K a1, agg (Edu.enc a2), vS a3] (vB r) := by
 unfold concourselaw16_GateSees.f at h
 refine (Tr.body Tryz.func6 (c := _) rfl Tryz.ntmps6 (Nat.le_of_ble_eq_true rfl) fun R0 F => ?_).pt
 replace h := Gets.of h
 have H := h
 clear h
 refine WP.seq <| rg 2 1 <| Dv.box rfl trivial rfl cA nofun fun b1232 => as0 rfl rfl <| .fin <| WP.seq <| rg 9 324 <| mv0 rfl rfl <| mv0 rfl rfl <| el H fun t1233 h1234 H => cx 1 [0] cal9 (concourselaw16_build.c h1234) nofun fun g1235 _ => ?_
 refine mv0 rfl rfl <| ex0 rfl trivial rfl rfl <| ex0 rfl trivial rfl rfl <| al rfl trivial zc28 nofun fun b1236 => as0 rfl rfl <| sx 0 rfl trivial rfl rfl cA sz28 rfl rfl rfl nofun ?_
 refine .fin <| WP.seq <| WP.seq <| rg 2 0 <| mv0 rfl rfl <| Dv.oeq0 (fun _ => VView.nn) rfl trivial rfl rfl Tryz.underlying25 (mem_at 1 rfl) <| .fin <| cd H rfl (fun _ H => ?_) (fun c1237 H => ?_)
 ·
  refine WP.seq <| rg 1 0 <| as0 rfl rfl <| .fin ?_
  obtain rfl := Gets.out H
  exact rt i2 rfl () 3 [0,1,2] 3 (.cons (res_tmp rfl) .nil)
 refine wg (opt_some 1 rfl c1237) fun _ _ => ?_
 refine WP.skip <| WP.seq <| rg 3 0 <| lds 2 rfl trivial rfl sg24 rfl rfl <| el H fun t1238 h1239 H => cl rfl cal10 rfl (concourselaw16_some.c h1239) <| as0 rfl rfl <| .fin <| WP.seqr H id (fun p1240 : Int × Bool => [(0, sl GMade.K a0), (1, sl GMade.K a1), (2, agg (Edu.enc a2)), (3, vS a3), (6, eq (.pointer (some ⟨b1232, 0, none⟩))), (8, vB false), (9, eq g1235.1), (10, eq (.pointer (some ⟨b1236, 0, none⟩))), (11, sl Edu.K t1238), (12, vI p1240.1), (22, vB t1233.1.isNone), (28, vB p1240.2)]) (fun p1240 : Int × Bool => [blk b1236 28 (RView.enc t1233.2), blk b1232 24 (Edu.enc a2), VView.O g1235 (t1233.1.getD default)] ++ F) (fun p1240 H => ?_) (fun H => ?_)
 ·
  refine WP.seq <| rg 2 0 <| el H fun t1241 h1242 H => cl rfl cal15 rfl (concourselaw16_lives.c h1242) <| as0 rfl rfl <| .fin ?_
  obtain rfl := Gets.out H
  exact rt i2 rfl () 3 [0,1,2] 3 (.cons (res_tmp rfl) .nil)
 refine WP.seq <| rg 1 0 <| as0 rfl rfl <| .fin <| WP.block <| wg (sg 3 [1,2,0] 0) fun _ _ => ?_
 refine lp (fun j_ (p1264 : Int) => concourselaw16_GateSees.l0 k a3 t1233 t1238 j_ p1264) 0 H (fun p1264 => [(0, sl GMade.K a0), (1, sl GMade.K a1), (2, agg (Edu.enc a2)), (3, vS a3), (6, eq (.pointer (some ⟨b1232, 0, none⟩))), (8, vB false), (9, eq g1235.1), (10, eq (.pointer (some ⟨b1236, 0, none⟩))), (11, sl Edu.K t1238), (12, vI p1264), (22, vB t1233.1.isNone)]) (fun p1264 => [blk b1236 28 (RView.enc t1233.2), blk b1232 24 (Edu.enc a2), VView.O g1235 (t1233.1.getD default)] ++ F) ?_
 rintro j_ x1243 H
 rcases j_ with _ | j1263
 ·
  exact (Gets.no H).elim
 replace H : Gets (concourselaw16_GateSees.l0 k a3 t1233 t1238 (j1263 + 1) x1243) _ := H
 rw [concourselaw16_GateSees.l0] at H
 refine WP.seq <| WP.seq <| rg 4 0 <| mv0 rfl rfl <| mv0 rfl rfl <| Dv.lenl rfl trivial rfl Tryz.underlying31 <| bn0 rfl rfl rfl run_lt <| .fin <| cd H rfl (fun _ H => ?_) (fun _ H => ?_)
 rotate_left
 ·
  refine WP.exit ?_
  replace H := Gets.out H
  exact jn (x1243, decide (x1243 < (t1238.length : Int))) H
 refine WP.skip <| WP.seqr H id (fun p1245 : Int × Bool => [(0, sl GMade.K a0), (1, sl GMade.K a1), (2, agg (Edu.enc a2)), (3, vS a3), (6, eq (.pointer (some ⟨b1232, 0, none⟩))), (8, vB false), (9, eq g1235.1), (10, eq (.pointer (some ⟨b1236, 0, none⟩))), (11, sl Edu.K t1238), (12, vI x1243), (13, vI p1245.1), (22, vB t1233.1.isNone), (28, vB (decide (x1243 < (t1238.length : Int)))), (32, vB p1245.2)]) (fun p1245 : Int × Bool => [blk b1236 28 (RView.enc t1233.2), blk b1232 24 (Edu.enc a2), VView.O g1235 (t1233.1.getD default)] ++ F) (fun p1245 H => ?_) (fun H => ?_)
 ·
  exact rg 3 0 <| mv0 rfl rfl <| bn0 rfl rfl rfl run_add <| as0 rfl rfl <| .fin <| bk j1263 (w64 (x1243 + 1)) H
 refine WP.block <| WP.seq <| rg 1 0 <| as0 rfl rfl <| .fin <| WP.block <| wg (sg 3 [0,1,2] 0) fun _ _ => ?_
 refine lp (fun j_ (p1262 : Int) => concourselaw16_GateSees.l1 k a3 t1233 t1238 x1243 j_ p1262) 0 H (fun p1262 => [(0, sl GMade.K a0), (1, sl GMade.K a1), (2, agg (Edu.enc a2)), (3, vS a3), (6, eq (.pointer (some ⟨b1232, 0, none⟩))), (8, vB false), (9, eq g1235.1), (10, eq (.pointer (some ⟨b1236, 0, none⟩))), (11, sl Edu.K t1238), (12, vI x1243), (13, vI p1262), (22, vB t1233.1.isNone), (28, vB (decide (x1243 < (t1238.length : Int))))]) (fun p1262 => [blk b1236 28 (RView.enc t1233.2), blk b1232 24 (Edu.enc a2), VView.O g1235 (t1233.1.getD default)] ++ F) ?_
 rintro j_ x1246 H
 rcases j_ with _ | j1261
 ·
  exact (Gets.no H).elim
 replace H : Gets (concourselaw16_GateSees.l1 k a3 t1233 t1238 x1243 (j1261 + 1) x1246) _ := H
 rw [concourselaw16_GateSees.l1] at H
 refine WP.seq <| WP.seq <| rg 2 0 <| mv0 rfl rfl <| bn0 rfl rfl rfl run_lt <| .fin <| cd H rfl (fun _ H => ?_) (fun _ H => ?_)
 rotate_left
 ·
  refine WP.exit ?_
  replace H := Gets.out H
  exact jn (x1246, decide (x1246 < 10)) H
 refine WP.skip <| WP.seq <| WP.block <| WP.seq <| rg 4 0 <| mv0 rfl rfl <| bn0 rfl rfl rfl (run_rem (by decide)) <| el H fun t1248 h1249 H => cl rfl cal24 rfl (concourseref01_UserOf.c h1249) <| as0 rfl rfl <| .fin <| WP.seqn H id (fun p1250 : ByteArray => [(0, sl GMade.K a0), (1, sl GMade.K a1), (2, agg (Edu.enc a2)), (3, vS a3), (6, eq (.pointer (some ⟨b1232, 0, none⟩))), (8, vB false), (9, eq g1235.1), (10, eq (.pointer (some ⟨b1236, 0, none⟩))), (11, sl Edu.K t1238), (12, vI x1243), (13, vI x1246), (14, vS p1250), (22, vB t1233.1.isNone), (28, vB (decide (x1243 < (t1238.length : Int)))), (32, vB (decide (x1246 < 10))), (39, vB (x1246 == 9))]) (fun p1250 : ByteArray => [blk b1236 28 (RView.enc t1233.2), blk b1232 24 (Edu.enc a2), VView.O g1235 (t1233.1.getD default)] ++ F) (fun p1250 H => ?_) (fun H => ?_)
 rotate_left
 ·
  refine WP.seq <| rg 2 0 <| mv0 rfl rfl <| bn0 rfl rfl rfl run_eq <| .fin <| cd H rfl (fun _ H => ?_) (fun _ H => ?_)
  rotate_left
  ·
   refine WP.skip ?_
   replace H := Gets.out H
   exact jn t1248 H
  refine rg 3 0 <| mv0 rfl rfl <| el H fun t1259 h1260 H => cl rfl cal12 rfl (concourseref01_Few.c h1260) <| as0 rfl rfl <| .fin ?_
  replace H := Gets.out H
  exact jn t1259 H
 refine WP.seq <| dgo Tryz.checked.mixed [0, 1, 2, 3, 4, 5, 7, 8, 9, 10, 11, 12, 6, 13, 14] [6] <| mv0 rfl rfl <| mv0 rfl rfl <| mv0 rfl rfl <| mv0 rfl rfl <| gr H fun g1251 H => Dv.ixr rfl trivial rfl rfl Tryz.underlying31 Tryz.underlying24 c24 g1251.1 g1251.2 <| ldsR rfl trivial rfl sg24 rfl <| lds 0 rfl trivial rfl sg28 rfl rfl <| mv0 rfl rfl <| mv0 rfl rfl <| mv0 rfl rfl <| gr H fun g1252 H => Dv.ixr rfl trivial rfl rfl Tryz.underlying31 Tryz.underlying24 c24 g1252.1 g1252.2 <| ldsR rfl trivial rfl sg24 rfl <| el H fun t1253 h1254 H => Dv.callx (pre := [VView.O g1235 (t1233.1.getD default)]) (F := [blk b1236 28 (RView.enc t1233.2), blk b1232 24 (Edu.enc a2)] ++ F) (fun _ : Unit => [VView.O g1235 (t1233.1.getD default), blk b1236 28 (RView.enc t1233.2), blk b1232 24 (Edu.enc a2)] ++ F) rfl trivial cal25 rfl (gate_Sees.c h1254 (p0_ := g1235)) (perm_to (L := [blk b1236 28 (RView.enc t1233.2), blk b1232 24 (Edu.enc a2), VView.O g1235 (t1233.1.getD default)]) (F := F) [2, 0, 1] rfl rfl rfl) rfl (fun _ => pendc (pend_in (fun _ => trivial) (pend_in (fun _ => trivial) (pend_in (fun _ => trivial) (pend_in (fun _ => trivial) (pend_in (fun _ => trivial) (pend_in (fun _ => (mem_at 1 rfl)) (pend_by (by kernel_rfl) (pend_by (by kernel_rfl) (pend_by (by kernel_rfl) (pend_by (by kernel_rfl) (pend_by (by kernel_rfl) (pend_by (by kernel_rfl) pend_nil))))))))))))) (fun _ _ => ?_)
 refine el H fun t1255 h1256 H => cl rfl cal26 rfl (concourseref16_Sees.c h1256) <| bn0 rfl rfl rfl (run_bne Tryz.underlying4) <| .fin <| cd H rfl (fun _ H => ?_) (fun _ H => ?_)
 rotate_left
 ·
  refine WP.skip <| rg 3 0 <| mv0 rfl rfl <| bn0 rfl rfl rfl run_add <| as0 rfl rfl <| .fin <| ng (sg 3 [1,2,0] 0) fun _ _ => ?_
  exact bk j1261 (w64 (x1246 + 1)) H
 refine WP.seq <| rg 1 0 <| as0 rfl rfl <| .fin ?_
 replace H := Gets.outr H
 replace H := Gets.outr H
 obtain rfl := Gets.out H
 exact rt i2 rfl () 3 [0,1,2] 3 (.cons (res_tmp rfl) .nil)
end Go.Proofs.YtdhaolcplgbalaaGreat
