/- The walks. -/
import Derived.Test.YtdbinmknbmlddaaGreatZWalks2
import Derived.Test.YtdbinmknbmlddaaGreatConQ
import Derived.Test.YtdbinmknbmlddaaGreatConA3
import Derived.Eval
set_option linter.all false
set_option maxRecDepth 10000
set_option maxHeartbeats 20000000
namespace Go.Proofs.YtdbinmknbmlddaaGreat
open Go Go.Sp
theorem concourselaw09_MemberJoined.c {k : Nat} {a0 : List GMade} {a1 : ByteArray} {r : Bool} (h : concourselaw09_MemberJoined.f k a0 a1 = some r) : Pt Tryz.prog 6 [sl GMade.K a0, vS a1] (vB r) := by
 unfold concourselaw09_MemberJoined.f at h
 refine (Tr.body Tryz.func6 (c := _) rfl Tryz.ntmps6 (Nat.le_of_ble_eq_true rfl) fun R0 F => ?_).pt
 replace h := Gets.of h
 have H := h
 clear h
 refine WP.seq <| rg 1 0 <| as0 rfl rfl <| .fin <| WP.seq <| rg 8 162 <| mv0 rfl rfl <| el H fun t1140 h1141 H => cx 0 [] cal7 (concourselaw09_build.c h1141) nofun fun g1142 _ => ?_
 refine mv0 rfl rfl <| ex0 rfl trivial rfl rfl <| ex0 rfl trivial rfl rfl <| al rfl trivial zc26 nofun fun b1143 => as0 rfl rfl <| sx 0 rfl trivial rfl rfl cA sz26 rfl rfl rfl nofun ?_
 refine .fin <| WP.seq <| WP.seq <| rg 2 0 <| mv0 rfl rfl <| Dv.oeq0 (fun _ => DDag.nn) rfl trivial rfl rfl Tryz.underlying23 (mem_at 1 rfl) <| .fin <| cd H rfl (fun _ H => ?_) (fun c1144 H => ?_)
 ·
  refine WP.seq <| rg 1 0 <| as0 rfl rfl <| .fin ?_
  obtain rfl := Gets.out H
  exact rt i2 rfl () 2 [0,1] 2 (.cons (res_tmp rfl) .nil)
 refine wg (opt_some 1 rfl c1144) fun _ _ => ?_
 refine WP.skip <| WP.seqr H id (fun p1145 : Int × Bool => [(0, sl GMade.K a0), (1, vS a1), (4, vB false), (5, eq g1142.1), (6, eq (.pointer (some ⟨b1143, 0, none⟩))), (7, vI p1145.1), (19, vB t1140.1.isNone), (21, vB p1145.2)]) (fun p1145 : Int × Bool => [blk b1143 26 (RDag.enc t1140.2), DDag.O g1142 (t1140.1.getD default)] ++ F) (fun p1145 H => ?_) (fun H => ?_)
 ·
  refine WP.seq <| wg (DDag.opn 1 rfl) fun g1146 h1147 => ?_
  refine dgo Tryz.checked.mixed [0, 2, 1, 3, 4, 5, 6, 7, 8] [1, 3] <| mv0 rfl rfl <| lds 2 rfl trivial rfl sg26 rfl rfl <| el H fun t1148 h1149 H => Dv.callx (pre := [blk g1146.1 57 [vS ((t1140.1.getD default).froom), eq g1146.2.1], mpo Value.string DNode.O g1146.2.1 ((t1140.1.getD default).fnodes)]) (F := [blk b1143 26 (RDag.enc t1140.2)] ++ F) (fun g1150 : OV => [blk g1146.1 57 [vS ((t1140.1.getD default).froom), eq g1146.2.1], mpo Value.string DNode.O g1146.2.1 ((t1140.1.getD default).fnodes), own strK g1150.1 t1148, blk b1143 26 (RDag.enc t1140.2)] ++ F) rfl trivial cal18 rfl (Tr.weak (member_Users.c h1149 (b0_ := g1146.1) (v0_0 := g1146.2)) (.cons (wk_ptr h1147) .nil)) (perm_to (L := [blk g1146.1 57 [vS ((t1140.1.getD default).froom), eq g1146.2.1], mpo Value.string DNode.O g1146.2.1 ((t1140.1.getD default).fnodes), blk b1143 26 (RDag.enc t1140.2)]) (F := F) [0, 1, 2] rfl rfl rfl) rfl (fun _ => pendc (pend_in (fun _ => (mem_at 3 rfl)) (pend_by (by kernel_rfl) pend_nil))) (fun g1150 _ => ?_)
  refine el H fun t1151 h1152 H => cx 4 [0,1,2,3] cal28 (concourseref09_Users.c h1152) pC fun g1153 _ => ?_
  refine el H fun t1154 h1155 H => cll (B := [own strK g1150.1 t1148, own strK g1153.1 t1151]) 5 [3,0,1,2,4] cal13 (Pt.lend _ (concourseref01_SameTexts.c h1155) (.cons (lt_own (mem_at 0 rfl)) (.cons (lt_own (mem_at 1 rfl)) .nil)) flat_eq) ?_
  refine mv0 rfl rfl ?_
  cases c1156 : t1154
  ·
   replace H := Gets.cf H c1156
   refine sk rfl rfl <| pf0 rfl rfl rfl <| as0 rfl rfl <| .fin <| wg (DDag.shut (p := g1142) (m := t1140.1.getD default) (g1146.1, g1146.2) h1147 (pm 5 [1,2,0,3,4])) fun _ _ => ?_
   obtain rfl := Gets.out H
   exact rt i2 rfl () 4 [0,1,2,3] 4 (.cons (res_tmp rfl) .nil)
  replace H := Gets.ct H c1156
  refine el H fun t1157 h1158 H => Dv.call rfl (gg rfl) cal15 rfl (concourselaw09_lives.c h1158) <| pt0 rfl rfl rfl <| as0 rfl rfl <| .fin <| wg (DDag.shut (p := g1142) (m := t1140.1.getD default) (g1146.1, g1146.2) h1147 (pm 5 [1,2,0,3,4])) fun _ _ => ?_
  obtain rfl := Gets.out H
  exact rt i2 rfl () 4 [0,1,2,3] 4 (.cons (res_tmp rfl) .nil)
 refine WP.seq <| rg 1 0 <| as0 rfl rfl <| .fin <| WP.block <| wg (sg 2 [1,0] 0) fun _ _ => ?_
 refine lp (fun j_ (p1187 : Int) => concourselaw09_MemberJoined.l0 k a1 t1140 j_ p1187) 0 H (fun p1187 => [(0, sl GMade.K a0), (1, vS a1), (4, vB false), (5, eq g1142.1), (6, eq (.pointer (some ⟨b1143, 0, none⟩))), (7, vI p1187), (19, vB t1140.1.isNone)]) (fun p1187 => [blk b1143 26 (RDag.enc t1140.2), DDag.O g1142 (t1140.1.getD default)] ++ F) ?_
 rintro j_ x1159 H
 rcases j_ with _ | j1186
 ·
  exact (Gets.no H).elim
 replace H : Gets (concourselaw09_MemberJoined.l0 k a1 t1140 (j1186 + 1) x1159) _ := H
 rw [concourselaw09_MemberJoined.l0] at H
 refine WP.seq <| WP.seq <| rg 2 0 <| mv0 rfl rfl <| bn0 rfl rfl rfl run_lt <| .fin <| cd H rfl (fun _ H => ?_) (fun _ H => ?_)
 rotate_left
 ·
  refine WP.exit ?_
  replace H := Gets.out H
  exact jn (x1159, decide (x1159 < 10)) H
 refine WP.skip <| WP.seq <| WP.block <| WP.seq <| rg 4 0 <| mv0 rfl rfl <| bn0 rfl rfl rfl (run_rem (by decide)) <| el H fun t1161 h1162 H => cl rfl cal19 rfl (concourseref01_UserOf.c h1162) <| as0 rfl rfl <| .fin <| WP.seqn H id (fun p1163 : ByteArray => [(0, sl GMade.K a0), (1, vS a1), (4, vB false), (5, eq g1142.1), (6, eq (.pointer (some ⟨b1143, 0, none⟩))), (7, vI x1159), (8, vS p1163), (19, vB t1140.1.isNone), (21, vB (decide (x1159 < 10))), (28, vB (x1159 == 9))]) (fun p1163 : ByteArray => [blk b1143 26 (RDag.enc t1140.2), DDag.O g1142 (t1140.1.getD default)] ++ F) (fun p1163 H => ?_) (fun H => ?_)
 rotate_left
 ·
  refine WP.seq <| rg 2 0 <| mv0 rfl rfl <| bn0 rfl rfl rfl run_eq <| .fin <| cd H rfl (fun _ H => ?_) (fun _ H => ?_)
  rotate_left
  ·
   refine WP.skip ?_
   replace H := Gets.out H
   exact jn t1161 H
  refine rg 3 0 <| mv0 rfl rfl <| el H fun t1184 h1185 H => cl rfl cal9 rfl (concourseref01_Few.c h1185) <| as0 rfl rfl <| .fin ?_
  replace H := Gets.out H
  exact jn t1184 H
 refine WP.seq <| rg 9 192 <| mv0 rfl rfl <| mv0 rfl rfl <| vg (DDag.opn 1 rfl) fun g1164 h1165 => ?_
 refine el H fun t1166 h1167 H => cll 3 [0,1,2] cal24 (Tr.weak (member_Last.c h1167 (b0_ := g1164.1) (v0_0 := g1164.2)) (.cons (wk_ptr h1165) (.cons wk_id .nil))) ?_
 refine mv0 rfl rfl <| ex0 rfl trivial rfl rfl <| ex0 rfl trivial rfl rfl <| al rfl trivial zc43 nofun fun b1168 => sx 0 rfl trivial rfl rfl cA sz43 rfl rfl rfl nofun ?_
 refine as0 rfl rfl <| .fin <| WP.seq <| rg 9 192 <| lds 3 rfl trivial rfl sg26 rfl rfl <| mv0 rfl rfl <| el H fun t1169 h1170 H => cl rfl cal25 rfl (concourseref09_Last.c h1170) <| mv0 rfl rfl <| ex0 rfl trivial rfl rfl <| ex0 rfl trivial rfl rfl <| al rfl trivial zc43 nofun fun b1171 => sx 0 rfl trivial rfl rfl cA sz43 rfl rfl rfl nofun ?_
 refine as0 rfl rfl <| .fin <| WP.seq <| dg Tryz.checked.mixed 18 0 <| mv0 rfl rfl <| mv0 rfl rfl <| el H fun t1172 h1173 H => cll 5 [2,3,0,1,4] cal23 (Tr.weak (member_Joined.c h1173 (b0_ := g1164.1) (v0_0 := g1164.2)) (.cons (wk_ptr h1165) (.cons wk_id .nil))) ?_
 refine lds 4 rfl trivial rfl sg26 rfl rfl <| mv0 rfl rfl <| el H fun t1174 h1175 H => cl rfl cal26 rfl (concourseref09_Joined.c h1175) <| bn0 rfl rfl rfl (run_bne Tryz.underlying4) <| mv0 rfl rfl ?_
 cases c1176 : (t1172 != t1174)
 rotate_left
 ·
  replace H := Gets.ct H c1176
  refine sk rfl rfl <| sk rfl rfl <| sk rfl rfl <| pt0 rfl rfl rfl <| mv0 rfl rfl <| sk rfl rfl <| sk rfl rfl <| sk rfl rfl <| sk rfl rfl <| pt0 rfl rfl rfl <| .fin <| WP.cond rfl (fun _ => ?_) nofun
  refine WP.seq <| rg 1 0 <| as0 rfl rfl <| .fin <| wg (DDag.shut (p := g1142) (m := t1140.1.getD default) (g1164.1, g1164.2) h1165 (pm 5 [2,3,0,1,4])) fun _ _ => ?_
  replace H := Gets.outr H
  obtain rfl := Gets.out H
  exact rt i2 rfl () 4 [0,1,2,3] 4 (.cons (res_tmp rfl) .nil)
 replace H := Gets.cf H c1176
 refine mvg rfl rfl rfl <| mvg rfl rfl rfl <| bng rfl rfl rfl rfl (run_bne Tryz.underlying4) <| pf0 rfl rfl rfl <| mv0 rfl rfl ?_
 cases c1178 : (t1166.2 != t1169.2)
 rotate_left
 ·
  replace H := Gets.ct H c1178
  refine sk rfl rfl <| sk rfl rfl <| sk rfl rfl <| sk rfl rfl <| pt0 rfl rfl rfl <| .fin <| WP.cond rfl (fun _ => ?_) nofun
  refine WP.seq <| rg 1 0 <| as0 rfl rfl <| .fin <| wg (DDag.shut (p := g1142) (m := t1140.1.getD default) (g1164.1, g1164.2) h1165 (pm 5 [2,3,0,1,4])) fun _ _ => ?_
  replace H := Gets.outr H
  obtain rfl := Gets.out H
  exact rt i2 rfl () 4 [0,1,2,3] 4 (.cons (res_tmp rfl) .nil)
 replace H := Gets.cf H c1178
 refine lds 1 rfl (gg rfl) rfl sg43 rfl rfl <| lds 0 rfl (gg rfl) rfl sg43 rfl rfl <| el H fun t1180 h1181 H => Dv.call rfl (gg rfl) cal27 rfl (concourseref07_Same.c h1181) <| ung rfl rfl rfl (run_not _) <| pf0 rfl rfl rfl <| .fin <| cd H rfl (fun _ H => ?_) (fun _ H => ?_)
 ·
  refine WP.seq <| rg 1 0 <| as0 rfl rfl <| .fin <| wg (DDag.shut (p := g1142) (m := t1140.1.getD default) (g1164.1, g1164.2) h1165 (pm 5 [2,3,0,1,4])) fun _ _ => ?_
  replace H := Gets.outr H
  obtain rfl := Gets.out H
  exact rt i2 rfl () 4 [0,1,2,3] 4 (.cons (res_tmp rfl) .nil)
 refine WP.skip <| rg 3 0 <| mv0 rfl rfl <| bn0 rfl rfl rfl run_add <| as0 rfl rfl <| .fin <| ng (DDag.shut (p := g1142) (m := t1140.1.getD default) (g1164.1, g1164.2) h1165 (pm 5 [2,3,0,1,4])) fun _ _ => ?_
 refine ng (sg 4 [1,2,3,0] 2) fun _ _ => ?_
 exact bk j1186 (w64 (x1159 + 1)) H
end Go.Proofs.YtdbinmknbmlddaaGreat
