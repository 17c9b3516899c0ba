/- The walks. -/
import Derived.Test.YtmbodanckhidiaaGreatZWalks2
import Derived.Test.YtmbodanckhidiaaGreatConQ
import Derived.Eval
set_option linter.all false
set_option maxRecDepth 10000
set_option maxHeartbeats 20000000
namespace Go.Proofs.YtmbodanckhidiaaGreat
open Go Go.Sp
theorem concourselaw14_TypingPlays.c {k : Nat} {a0 : List Edu} {a1 : List Bool} {a2 : List Int} {r : Bool} (h : concourselaw14_TypingPlays.f k a0 a1 a2 = some r) : Pt Tryz.prog 3 [sl Edu.K a0, sl boolK a1, sl (intK .i64) a2] (vB r) := by
 unfold concourselaw14_TypingPlays.f at h
 refine (Tr.body Tryz.func3 (c := _) rfl Tryz.ntmps3 (Nat.le_of_ble_eq_true rfl) fun R0 F => ?_).pt
 replace h := Gets.of h
 have H := h
 clear h
 refine WP.seq <| rg 1 0 <| as0 rfl rfl <| .fin <| WP.seq <| rg 2 1 <| el H fun t1165 h1166 H => cx 0 [] cal5 (typing_New.c h1166) nofun fun g1167 _ => ?_
 refine as0 rfl rfl <| .fin <| WP.seq <| WP.seq <| rg 2 0 <| mv0 rfl rfl <| Dv.peq0 TTab.nn rfl trivial rfl rfl Tryz.underlying25 (mem_at 0 rfl) <| .fin <| WP.cond rfl nofun (fun _ => ?_)
 refine WP.skip <| WP.seq <| rg 1 1 <| al rfl trivial zc28 nofun fun b1169 => .fin <| WP.seqr H id (fun p1170 : Int × Bool × (List Edu) × (List Bool) × TTab => [(0, sl Edu.K a0), (1, sl boolK a1), (2, sl (intK .i64) a2), (6, vB false), (7, eq g1167.1), (8, eq (.pointer (some ⟨b1169, 0, none⟩))), (9, vI p1170.1), (25, vB false), (33, vB p1170.2.1)]) (fun p1170 : Int × Bool × (List Edu) × (List Bool) × TTab => [blk b1169 28 [sl Edu.K p1170.2.2.1, sl boolK p1170.2.2.2.1], TTab.O g1167 p1170.2.2.2.2] ++ F) (fun p1170 H => ?_) (fun H => ?_)
 ·
  refine WP.seq <| rg 2 0 <| el H fun t1171 h1172 H => cl rfl cal17 rfl (concourselaw14_lives.c h1172) <| as0 rfl rfl <| .fin ?_
  obtain rfl := Gets.out H
  exact rt i2 rfl () 2 [0,1] 2 (.cons (res_tmp rfl) .nil)
 refine WP.seq <| rg 1 0 <| as0 rfl rfl <| .fin <| WP.block <| WP.gh (gh_wk (E' := [(0, sl Edu.K a0), (1, sl boolK a1), (2, sl (intK .i64) a2), (6, vB false), (7, eq g1167.1), (8, eq (.pointer (some ⟨b1169, 0, none⟩))), (9, vI 0), (25, vB false)]) (l' := [blk b1169 28 [sl Edu.K ([] : List Edu), sl boolK ([] : List Bool)], TTab.O g1167 t1165] ++ F) (wke_cons rfl wk_id (wke_cons rfl wk_id (wke_cons rfl wk_id (wke_cons rfl wk_id (wke_cons rfl wk_id (wke_cons rfl wk_id (wke_cons rfl wk_id (wke_cons rfl wk_id wke_nil)))))))) (all2_app (.cons (wka_blk (.cons wk_nil (.cons wk_nil .nil))) (.cons wka_id .nil)) fun _ => wka_id)) (fun _ _ => ?_)
 refine wg (sg 2 [0,1] 0) fun _ _ => ?_
 refine lp (fun j_ (p1230 : Int × (List Edu) × (List Bool) × TTab) => concourselaw14_TypingPlays.l0 k a0 a1 a2 j_ p1230.1 p1230.2.1 p1230.2.2.1 p1230.2.2.2) (0, ([] : List Edu), ([] : List Bool), t1165) H (fun p1230 => [(0, sl Edu.K a0), (1, sl boolK a1), (2, sl (intK .i64) a2), (6, vB false), (7, eq g1167.1), (8, eq (.pointer (some ⟨b1169, 0, none⟩))), (9, vI p1230.1), (25, vB false)]) (fun p1230 => [blk b1169 28 [sl Edu.K p1230.2.1, sl boolK p1230.2.2.1], TTab.O g1167 p1230.2.2.2] ++ F) ?_
 rintro j_ ⟨x1173, x1174, x1175, x1176⟩ H
 rcases j_ with _ | j1229
 ·
  exact (Gets.no H).elim
 replace H : Gets (concourselaw14_TypingPlays.l0 k a0 a1 a2 (j1229 + 1) x1173 x1174 x1175 x1176) _ := H
 rw [concourselaw14_TypingPlays.l0] at H
 refine WP.seq <| WP.seq <| rg 8 0 <| mv0 rfl rfl <| mv0 rfl rfl <| Dv.lenl rfl trivial rfl Tryz.underlying22 <| bn0 rfl rfl rfl run_lt <| mv0 rfl rfl ?_
 cases c1177 : decide (x1173 < (a0.length : Int))
 ·
  replace H := Gets.cf H c1177
  refine sk rfl rfl <| sk rfl rfl <| pf0 rfl rfl rfl <| .fin <| WP.cond rfl nofun (fun _ => ?_)
  refine WP.exit ?_
  replace H := Gets.out H
  exact jn (x1173, false, x1174, x1175, x1176) H
 replace H := Gets.ct H c1177
 refine mvg rfl rfl rfl <| bng rfl rfl rfl rfl run_lt <| pt0 rfl rfl rfl <| .fin <| cd H rfl (fun _ H => ?_) (fun _ H => ?_)
 rotate_left
 ·
  refine WP.exit ?_
  replace H := Gets.out H
  exact jn (x1173, decide (x1173 < 16), x1174, x1175, x1176) H
 refine WP.skip <| WP.seq <| WP.block <| WP.seq <| rg 7 96 <| mv0 rfl rfl <| mv0 rfl rfl <| gr H fun g1179 H => Dv.ixr rfl trivial rfl rfl Tryz.underlying22 Tryz.underlying30 c30 g1179.1 g1179.2 <| ldsR rfl trivial rfl sg30 rfl <| el H fun t1180 h1181 H => cl rfl cal6 rfl (concourseref14_Made.c h1181) <| al rfl trivial zc30 nofun fun b1182 => sx 0 rfl trivial rfl rfl cA sz30 rfl rfl rfl nofun ?_
 refine .fin <| WP.seqn H id (fun p1183 : Bool × Int × ByteArray × ByteArray × ByteArray × ByteArray × Bool × Bool × Int × Int × Int × Int => [(0, sl Edu.K a0), (1, sl boolK a1), (2, sl (intK .i64) a2), (6, vB false), (7, eq g1167.1), (8, eq (.pointer (some ⟨b1169, 0, none⟩))), (9, vI x1173), (10, eq (.pointer (some ⟨b1182, 0, none⟩))), (25, vB false), (33, vB (decide (x1173 < 16))), (54, vB p1183.1)]) (fun p1183 : Bool × Int × ByteArray × ByteArray × ByteArray × ByteArray × Bool × Bool × Int × Int × Int × Int => [blk b1182 30 [vI p1183.2.1, vS p1183.2.2.1, vS p1183.2.2.2.1, vS p1183.2.2.2.2.1, vS p1183.2.2.2.2.2.1, vB p1183.2.2.2.2.2.2.1, vB p1183.2.2.2.2.2.2.2.1, vI p1183.2.2.2.2.2.2.2.2.1, vI p1183.2.2.2.2.2.2.2.2.2.1, vI p1183.2.2.2.2.2.2.2.2.2.2.1, vI p1183.2.2.2.2.2.2.2.2.2.2.2], blk b1169 28 [sl Edu.K x1174, sl boolK x1175], TTab.O g1167 x1176] ++ F) (fun p1183 H => ?_) (fun H => ?_)
 rotate_left
 ·
  refine WP.seq <| rg 14 0 <| mv0 rfl rfl <| mv0 rfl rfl <| Dv.lenl rfl trivial rfl Tryz.underlying23 <| bn0 rfl rfl rfl run_lt <| mv0 rfl rfl ?_
  cases c1221 : decide (x1173 < (a1.length : Int))
  ·
   replace H := Gets.cf H c1221
   refine sk rfl rfl <| sk rfl rfl <| sk rfl rfl <| sk rfl rfl <| sk rfl rfl <| sk rfl rfl <| sk rfl rfl <| sk rfl rfl <| pf0 rfl rfl rfl <| .fin <| WP.cond rfl nofun (fun _ => ?_)
   refine WP.skip ?_
   replace H := Gets.out H
   exact jn (false, t1180.fKind, t1180.fRoom, t1180.fUser, t1180.fEvent, t1180.fThread, t1180.fPrivate, t1180.fOn, t1180.fSpan, t1180.fState, t1180.fTick, t1180.fStamp) H
  replace H := Gets.ct H c1221
  refine mvg rfl rfl rfl <| mvg rfl rfl rfl <| mvg rfl rfl rfl <| Dv.lenl rfl (gg rfl) rfl Tryz.underlying23 <| bng rfl rfl rfl rfl run_sub <| Dv.mini rfl (gg rfl) rfl rfl <| gr H fun g1222 H => Dv.ixr rfl (gg rfl) rfl rfl Tryz.underlying23 Tryz.underlying4 c4 g1222.1 g1222.2 <| ldR rfl (gg rfl) rfl sc4 rfl <| pt0 rfl rfl rfl <| .fin <| cd H rfl (fun _ H => ?_) (fun _ H => ?_)
  rotate_left
  ·
   refine WP.skip ?_
   replace H := Gets.out H
   exact jn (boolK.at a1 (min x1173 (w64 ((a1.length : Int) - 1))), t1180.fKind, t1180.fRoom, t1180.fUser, t1180.fEvent, t1180.fThread, t1180.fPrivate, t1180.fOn, t1180.fSpan, t1180.fState, t1180.fTick, t1180.fStamp) H
  refine rg 6 32 <| mv0 rfl rfl <| mv0 rfl rfl <| gr H fun g1224 H => Dv.ixr rfl trivial rfl rfl Tryz.underlying22 Tryz.underlying30 c30 g1224.1 g1224.2 <| ldsR rfl trivial rfl sg30 rfl <| el H fun t1225 h1226 H => cl rfl cal7 rfl (concourseref03_Few.c h1226) <| sx 0 rfl trivial rfl rfl cA sz30 rfl rfl rfl nofun ?_
  refine .fin ?_
  replace H := Gets.out H
  exact jn (boolK.at a1 (min x1173 (w64 ((a1.length : Int) - 1))), t1225.fKind, t1225.fRoom, t1225.fUser, t1225.fEvent, t1225.fThread, t1225.fPrivate, t1225.fOn, t1225.fSpan, t1225.fState, t1225.fTick, t1225.fStamp) H
 refine WP.seq <| rg 11 384 <| lds 1 rfl trivial rfl sg28 rfl rfl <| lds 0 rfl trivial rfl sg30 rfl rfl <| el H fun t1184 h1185 H => cl rfl cal8 rfl (concourseref14_Put.c h1185) <| mv0 rfl rfl <| ex0 rfl trivial rfl rfl <| ex0 rfl trivial rfl rfl <| ex0 rfl trivial rfl rfl <| al rfl trivial zc28 nofun fun b1186 => sx 0 rfl trivial rfl rfl cA sz28 rfl rfl rfl nofun ?_
 refine as0 rfl rfl <| as0 rfl rfl <| .fin <| WP.seq <| rg 2 2 <| lds 0 rfl trivial rfl sg28 rfl rfl <| sx 2 rfl trivial rfl rfl cA sz28 rfl rfl rfl nofun ?_
 refine .fin <| WP.seq <| rg 8 4 <| mv0 rfl rfl <| lds 1 rfl trivial rfl sg30 rfl rfl <| el H fun t1187 h1188 H => cx 4 [3,0,1,2] cal9 (typing_Table_Put.c h1188 (p0_ := g1167)) nofun fun _ _ => ?_
 refine mv0 rfl rfl <| ex0 rfl trivial rfl rfl <| ex0 rfl trivial rfl rfl <| as0 rfl rfl <| as0 rfl rfl <| .fin <| WP.seq <| WP.seq <| rg 8 0 <| mv0 rfl rfl <| mv0 rfl rfl <| bn0 rfl rfl rfl (run_bne Tryz.underlying4) <| mv0 rfl rfl ?_
 cases c1189 : (t1187.1 != t1184.2.1)
 rotate_left
 ·
  replace H := Gets.ct H c1189
  refine sk rfl rfl <| sk rfl rfl <| sk rfl rfl <| pt0 rfl rfl rfl <| .fin <| WP.cond rfl (fun _ => ?_) nofun
  refine WP.seq <| rg 1 0 <| as0 rfl rfl <| .fin ?_
  replace H := Gets.outr H
  obtain rfl := Gets.out H
  exact rt i2 rfl () 4 [0,1,2,3] 4 (.cons (res_tmp rfl) .nil)
 replace H := Gets.cf H c1189
 refine mvg rfl rfl rfl <| mvg rfl rfl rfl <| bng rfl rfl rfl rfl run_ne <| pf0 rfl rfl rfl <| .fin <| cd H rfl (fun _ H => ?_) (fun _ H => ?_)
 ·
  refine WP.seq <| rg 1 0 <| as0 rfl rfl <| .fin ?_
  replace H := Gets.outr H
  obtain rfl := Gets.out H
  exact rt i2 rfl () 4 [0,1,2,3] 4 (.cons (res_tmp rfl) .nil)
 refine WP.skip <| WP.seqr H id (fun p1192 : (List Edu) × (List Bool) × TTab => [(0, sl Edu.K a0), (1, sl boolK a1), (2, sl (intK .i64) a2), (6, vB false), (7, eq g1167.1), (8, eq (.pointer (some ⟨b1169, 0, none⟩))), (9, vI x1173), (10, eq (.pointer (some ⟨b1182, 0, none⟩))), (11, eq (.pointer (some ⟨b1186, 0, none⟩))), (12, vB t1184.2.1), (13, vI t1184.2.2), (14, vB t1187.1), (15, vI t1187.2.1), (25, vB false), (33, vB (decide (x1173 < 16))), (54, vB p1183.1), (81, vB (t1184.2.2 != t1187.2.1)), (85, vB (decide (x1173 < (a2.length : Int))))]) (fun p1192 : (List Edu) × (List Bool) × TTab => [blk b1186 28 (TRef.enc t1184.1), blk b1182 30 [vI p1183.2.1, vS p1183.2.2.1, vS p1183.2.2.2.1, vS p1183.2.2.2.2.1, vS p1183.2.2.2.2.2.1, vB p1183.2.2.2.2.2.2.1, vB p1183.2.2.2.2.2.2.2.1, vI p1183.2.2.2.2.2.2.2.2.1, vI p1183.2.2.2.2.2.2.2.2.2.1, vI p1183.2.2.2.2.2.2.2.2.2.2.1, vI p1183.2.2.2.2.2.2.2.2.2.2.2], blk b1169 28 [sl Edu.K p1192.1, sl boolK p1192.2.1], TTab.O g1167 p1192.2.2] ++ F) (fun p1192 H => ?_) (fun H => ?_)
 rotate_left
 ·
  refine WP.seq <| rg 4 0 <| mv0 rfl rfl <| mv0 rfl rfl <| Dv.lenl rfl trivial rfl Tryz.underlying24 <| bn0 rfl rfl rfl run_lt <| .fin <| cd H rfl (fun _ H => ?_) (fun _ H => ?_)
  rotate_left
  ·
   refine WP.skip ?_
   replace H := Gets.out H
   refine ng (sg 4 [1,2,3,0] 0) fun _ _ => ?_
   exact jn (t1184.1.fL, t1184.1.fTold, t1187.2.2) H
  refine WP.seq <| rg 9 0 <| mv0 rfl rfl <| mv0 rfl rfl <| mv0 rfl rfl <| Dv.lenl rfl trivial rfl Tryz.underlying24 <| bn0 rfl rfl rfl run_sub <| Dv.mini rfl trivial rfl rfl <| gr H fun g1210 H => Dv.ixr rfl trivial rfl rfl Tryz.underlying24 Tryz.underlying3 c3 g1210.1 g1210.2 <| ldR rfl trivial rfl sc3 rfl <| as0 rfl rfl <| .fin <| WP.seq <| rg 9 196 <| lds 3 rfl trivial rfl sg28 rfl rfl <| mv0 rfl rfl <| el H fun t1211 h1212 H => cx 4 [0,1,2,3] cal10 (concourseref14_Ended.c h1212) nofun fun g1213 _ => ?_
  refine mv0 rfl rfl <| ex0 rfl trivial rfl rfl <| ex0 rfl trivial rfl rfl <| al rfl trivial zc28 nofun fun b1214 => sx 0 rfl trivial rfl rfl cA sz28 rfl rfl rfl nofun ?_
  refine as0 rfl rfl <| .fin <| WP.seq <| rg 2 2 <| lds 0 rfl trivial rfl sg28 rfl rfl <| sx 5 rfl trivial rfl rfl cA sz28 rfl rfl rfl nofun ?_
  refine .fin <| WP.seq <| rg 6 4 <| mv0 rfl rfl <| mv0 rfl rfl <| el H fun t1215 h1216 H => cx 6 [2,0,1,3,4,5] cal12 (typing_Table_Ended.c h1216 (p0_ := g1167)) nofun fun g1217 _ => ?_
  refine mv0 rfl rfl <| el H fun t1218 h1219 H => cll (B := [own strK g1217.1 t1215.1, own strK g1213.1 t1211.2]) 7 [1,3,0,2,4,5,6] cal11 (Pt.lend _ (concourseref01_SameTexts.c h1219) (.cons (lt_own (mem_at 0 rfl)) (.cons (lt_own (mem_at 1 rfl)) .nil)) flat_eq) ?_
  refine un0 rfl rfl (run_not _) <| .fin <| cd H rfl (fun _ H => ?_) (fun _ H => ?_)
  rotate_left
  ·
   refine WP.skip ?_
   replace H := Gets.out H
   refine ng (sg 7 [1,2,3,4,5,6,0] 3) fun _ _ => ?_
   exact jn (t1211.1.fL, t1211.1.fTold, t1215.2) H
  refine WP.seq <| rg 1 0 <| as0 rfl rfl <| .fin ?_
  replace H := Gets.outr H
  replace H := Gets.outr H
  obtain rfl := Gets.out H
  exact rt i2 rfl () 7 [0,1,2,3,4,5,6] 7 (.cons (res_tmp rfl) .nil)
 refine WP.seq <| rg 7 2 <| mv0 rfl rfl <| el H fun t1193 h1194 H => cx 4 [3,0,1,2] cal13 (typing_Table_Next.c h1194 (p0_ := g1167)) nofun fun _ _ => ?_
 refine mv0 rfl rfl <| ex0 rfl trivial rfl rfl <| ex0 rfl trivial rfl rfl <| as0 rfl rfl <| as0 rfl rfl <| .fin <| WP.seq <| rg 7 0 <| lds 3 rfl trivial rfl sg28 rfl rfl <| el H fun t1195 h1196 H => cl rfl cal14 rfl (concourseref14_Next.c h1196) <| mv0 rfl rfl <| ex0 rfl trivial rfl rfl <| ex0 rfl trivial rfl rfl <| as0 rfl rfl <| as0 rfl rfl <| .fin <| WP.seq <| wg (TTab.opn 0 rfl) fun g1197 h1198 => ?_
 refine dgo Tryz.checked.mixed [0, 1, 2, 3, 4, 5, 6, 7, 8, 9, 11, 12, 10, 13, 14, 15] [10] <| mv0 rfl rfl <| mv0 rfl rfl <| bn0 rfl rfl rfl run_ne <| mv0 rfl rfl ?_
 cases c1199 : (t1193.1 != t1195.1)
 rotate_left
 ·
  replace H := Gets.ct H c1199
  refine sk rfl rfl <| sk rfl rfl <| sk rfl rfl <| pt0 rfl rfl rfl <| mv0 rfl rfl <| sk rfl rfl <| sk rfl rfl <| sk rfl rfl <| Dv.skipb rfl ⟨_, _, rfl, rfl, .inl rfl⟩ (fun _ => (pend_in (fun _ => trivial) (pend_in (fun _ => trivial) (pend_by (by kernel_rfl) (pend_by (by kernel_rfl) (pend_by (by kernel_rfl) (pend_by (by kernel_rfl) (pend_by (by kernel_rfl) (pend_by (by kernel_rfl) (pend_by (by kernel_rfl) (pend_by (by kernel_rfl) (pend_by (by kernel_rfl) (pend_by (by kernel_rfl) pend_nil))))))))))))) <| sk rfl rfl <| sk rfl rfl <| pt0 rfl rfl rfl <| .fin <| WP.cond rfl (fun _ => ?_) nofun
  refine WP.seq <| rg 1 0 <| as0 rfl rfl <| .fin <| wg (TTab.shut (p := g1167) (m := p1192.2.2) (g1197.1, g1197.2.1, g1197.2.2) h1198 (pm 6 [0,1,2,3,4,5])) fun _ _ => ?_
  replace H := Gets.outr H
  obtain rfl := Gets.out H
  exact rt i2 rfl () 4 [0,1,2,3] 4 (.cons (res_tmp rfl) .nil)
 replace H := Gets.cf H c1199
 refine mvg rfl rfl rfl <| mvg rfl rfl rfl <| bng rfl rfl rfl rfl (run_bne Tryz.underlying4) <| pf0 rfl rfl rfl <| mv0 rfl rfl ?_
 cases c1201 : (t1193.2 != t1195.2)
 rotate_left
 ·
  replace H := Gets.ct H c1201
  refine sk rfl rfl <| sk rfl rfl <| sk rfl rfl <| Dv.skipb rfl ⟨_, _, rfl, rfl, .inl rfl⟩ (fun _ => (pend_in (fun _ => trivial) (pend_in (fun _ => trivial) (pend_by (by kernel_rfl) (pend_by (by kernel_rfl) (pend_by (by kernel_rfl) (pend_by (by kernel_rfl) (pend_by (by kernel_rfl) (pend_by (by kernel_rfl) (pend_by (by kernel_rfl) (pend_by (by kernel_rfl) (pend_by (by kernel_rfl) (pend_by (by kernel_rfl) pend_nil))))))))))))) <| sk rfl rfl <| sk rfl rfl <| pt0 rfl rfl rfl <| .fin <| WP.cond rfl (fun _ => ?_) nofun
  refine WP.seq <| rg 1 0 <| as0 rfl rfl <| .fin <| wg (TTab.shut (p := g1167) (m := p1192.2.2) (g1197.1, g1197.2.1, g1197.2.2) h1198 (pm 6 [0,1,2,3,4,5])) fun _ _ => ?_
  replace H := Gets.outr H
  obtain rfl := Gets.out H
  exact rt i2 rfl () 4 [0,1,2,3] 4 (.cons (res_tmp rfl) .nil)
 replace H := Gets.cf H c1201
 refine mvg rfl rfl rfl <| fb rfl (gg rfl) rfl fa28_0 <| ld 5 rfl (gg rfl) rfl sc22 rfl rfl <| el H fun t1203 h1204 H => Dv.callx (pre := [blk g1197.1 56 [eq g1197.2.1.1, eq g1197.2.2.1], own Edu.K g1197.2.1.1 p1192.2.2.fl]) (F := [HHeap.O g1197.2.2 p1192.2.2.fends, blk b1186 28 (TRef.enc t1184.1), blk b1182 30 [vI p1183.2.1, vS p1183.2.2.1, vS p1183.2.2.2.1, vS p1183.2.2.2.2.1, vS p1183.2.2.2.2.2.1, vB p1183.2.2.2.2.2.2.1, vB p1183.2.2.2.2.2.2.2.1, vI p1183.2.2.2.2.2.2.2.2.1, vI p1183.2.2.2.2.2.2.2.2.2.1, vI p1183.2.2.2.2.2.2.2.2.2.2.1, vI p1183.2.2.2.2.2.2.2.2.2.2.2], blk b1169 28 [sl Edu.K p1192.1, sl boolK p1192.2.1]] ++ F) (fun g1205 : OV => [blk g1197.1 56 [eq g1197.2.1.1, eq g1197.2.2.1], own Edu.K g1197.2.1.1 p1192.2.2.fl, own Edu.K g1205.1 t1203, HHeap.O g1197.2.2 p1192.2.2.fends, blk b1186 28 (TRef.enc t1184.1), blk b1182 30 [vI p1183.2.1, vS p1183.2.2.1, vS p1183.2.2.2.1, vS p1183.2.2.2.2.1, vS p1183.2.2.2.2.2.1, vB p1183.2.2.2.2.2.2.1, vB p1183.2.2.2.2.2.2.2.1, vI p1183.2.2.2.2.2.2.2.2.1, vI p1183.2.2.2.2.2.2.2.2.2.1, vI p1183.2.2.2.2.2.2.2.2.2.2.1, vI p1183.2.2.2.2.2.2.2.2.2.2.2], blk b1169 28 [sl Edu.K p1192.1, sl boolK p1192.2.1]] ++ F) rfl (gg rfl) cal16 rfl (Tr.weak (typing_Table_All.c h1204 (b0_ := g1197.1) (v0_0 := g1197.2.1) (v0_1 := g1197.2.2)) (.cons (wk_ptr h1198) .nil)) (perm_to (L := [blk g1197.1 56 [eq g1197.2.1.1, eq g1197.2.2.1], own Edu.K g1197.2.1.1 p1192.2.2.fl, HHeap.O g1197.2.2 p1192.2.2.fends, blk b1186 28 (TRef.enc t1184.1), blk b1182 30 [vI p1183.2.1, vS p1183.2.2.1, vS p1183.2.2.2.1, vS p1183.2.2.2.2.1, vS p1183.2.2.2.2.2.1, vB p1183.2.2.2.2.2.2.1, vB p1183.2.2.2.2.2.2.2.1, vI p1183.2.2.2.2.2.2.2.2.1, vI p1183.2.2.2.2.2.2.2.2.2.1, vI p1183.2.2.2.2.2.2.2.2.2.2.1, vI p1183.2.2.2.2.2.2.2.2.2.2.2], blk b1169 28 [sl Edu.K p1192.1, sl boolK p1192.2.1]]) (F := F) [0, 1, 2, 3, 4, 5] (by kernel_rfl) rfl rfl) rfl (fun _ => pendc (pend_in (fun _ => (mem_at 6 rfl)) (pend_in (fun _ => trivial) (pend_by (by kernel_rfl) (pend_by (by kernel_rfl) (pend_by (by kernel_rfl) (pend_by (by kernel_rfl) (pend_by (by kernel_rfl) (pend_by (by kernel_rfl) (pend_by (by kernel_rfl) (pend_by (by kernel_rfl) (pend_by (by kernel_rfl) (pend_by (by kernel_rfl) pend_nil))))))))))))) (fun g1205 _ => ?_)
 refine el H fun t1206 h1207 H => cll (B := [own Edu.K g1205.1 t1203]) 7 [2,0,1,3,4,5,6] cal15 (Pt.lend _ (concourseref04_SameEdus.c h1207) (.cons (lt_own (mem_at 0 rfl)) (.cons lt_id .nil)) flat_eq) ?_
 refine ung rfl rfl rfl (run_not _) <| pf0 rfl rfl rfl <| .fin <| cd H rfl (fun _ H => ?_) (fun _ H => ?_)
 ·
  refine WP.seq <| rg 1 0 <| as0 rfl rfl <| .fin <| wg (TTab.shut (p := g1167) (m := p1192.2.2) (g1197.1, g1197.2.1, g1197.2.2) h1198 (pm 7 [0,1,3,2,4,5,6])) fun _ _ => ?_
  replace H := Gets.outr H
  obtain rfl := Gets.out H
  exact rt i2 rfl () 5 [0,1,2,3,4] 5 (.cons (res_tmp rfl) .nil)
 refine WP.skip <| rg 3 0 <| mv0 rfl rfl <| bn0 rfl rfl rfl run_add <| as0 rfl rfl <| .fin <| ng (TTab.shut (p := g1167) (m := p1192.2.2) (g1197.1, g1197.2.1, g1197.2.2) h1198 (pm 7 [0,1,3,2,4,5,6])) fun _ _ => ?_
 refine ng (sg 5 [1,2,3,4,0] 3) fun _ _ => ?_
 exact bk j1229 (w64 (x1173 + 1), p1192.1, p1192.2.1, p1192.2.2) H
end Go.Proofs.YtmbodanckhidiaaGreat
