/- The walks. -/
import Derived.Test.YtdbinmknbmlddaaGreatZWalks1
import Derived.Test.YtdbinmknbmlddaaGreatConQ
import Derived.Test.YtdbinmknbmlddaaGreatConA3
import Derived.Eval
set_option linter.all false
set_option maxRecDepth 10000
set_option maxHeartbeats 20000000
namespace Go.Proofs.YtdbinmknbmlddaaGreat
open Go Go.Sp
theorem concourseref07_Heads.c {k : Nat} {a0 : RDag} {r : (List ByteArray)} (h : concourseref07_Heads.f k a0 = some r) : Tr Tryz.prog 20 [agg (RDag.enc a0)] [] (γ := OV) (fun _ => True) (fun g => eq g.1) (fun g => [own strK g.1 r]) := by
 unfold concourseref07_Heads.f at h
 refine Tr.body Tryz.func20 (c := _) rfl Tryz.ntmps20 (Nat.le_of_ble_eq_true rfl) fun R0 F => ?_
 replace h := Gets.of h
 have H := h
 clear h
 refine WP.seq <| rg 2 1 <| Dv.box rfl trivial rfl cA nofun fun b983 => as0 rfl rfl <| .fin <| WP.seq <| rg 3 0 <| lds 0 rfl trivial rfl sg26 rfl rfl <| el H fun t984 h985 H => cl rfl cal41 rfl (concourseref07_All.c h985) <| as0 rfl rfl <| .fin <| WP.seq <| rg 1 0 <| as0 rfl rfl <| .fin <| WP.seqn H (fun q1018 : (Int × Bool × (List ByteArray)) × OV => q1018.1) (fun q1018 : (Int × Bool × (List ByteArray)) × OV => [(0, agg (RDag.enc a0)), (1, eq (.pointer (some ⟨b983, 0, none⟩))), (2, eq (.slice none 0 0)), (3, sl Event.K t984), (4, eq q1018.2.1), (5, vI q1018.1.1), (14, vB q1018.1.2.1)]) (fun q1018 : (Int × Bool × (List ByteArray)) × OV => [blk b983 26 (RDag.enc a0), own strK q1018.2.1 q1018.1.2.2] ++ F) (fun q1018 H => ?_) (fun H => ?_)
 ·
  obtain ⟨p986, v987⟩ := q1018
  refine WP.seq <| rg 2 0 <| mv0 rfl rfl <| as0 rfl rfl <| .fin ?_
  obtain rfl := Gets.out H
  exact rt i2 rfl v987 2 [0,1] 1 (.cons (res_tmp rfl) .nil)
 refine WP.seq <| rg 1 0 <| as0 rfl rfl <| .fin <| WP.block <| wg (st_nil strK none) fun _ _ => ?_
 refine wg (sg 2 [1,0] 0) fun _ _ => ?_
 refine lp (fun j_ (p1017 : Int × (List ByteArray) × OV) => concourseref07_Heads.l0 k a0 t984 j_ p1017.1 p1017.2.1) (0, ([] : List ByteArray), nilV) H (fun p1017 => [(0, agg (RDag.enc a0)), (1, eq (.pointer (some ⟨b983, 0, none⟩))), (2, eq (.slice none 0 0)), (3, sl Event.K t984), (4, eq p1017.2.2.1), (5, vI p1017.1)]) (fun p1017 => [blk b983 26 (RDag.enc a0), own strK p1017.2.2.1 p1017.2.1] ++ F) ?_
 rintro j_ ⟨x988, x989, v990⟩ H
 rcases j_ with _ | j1016
 ·
  exact (Gets.no H).elim
 replace H : Gets (concourseref07_Heads.l0 k a0 t984 (j1016 + 1) x988 x989) _ := H
 rw [concourseref07_Heads.l0] at H
 refine WP.seq <| WP.seq <| rg 4 0 <| mv0 rfl rfl <| mv0 rfl rfl <| Dv.lenl rfl trivial rfl Tryz.underlying24 <| bn0 rfl rfl rfl run_lt <| .fin <| cd H rfl (fun _ H => ?_) (fun _ H => ?_)
 rotate_left
 ·
  refine WP.exit ?_
  replace H := Gets.out H
  exact jn ((x988, decide (x988 < (t984.length : Int)), x989), v990) H
 refine WP.skip <| WP.seqn H (fun q1015 : (Bool × Int × Bool × Bool × (List ByteArray)) × OV => q1015.1) (fun q1015 : (Bool × Int × Bool × Bool × (List ByteArray)) × OV => [(0, agg (RDag.enc a0)), (1, eq (.pointer (some ⟨b983, 0, none⟩))), (2, eq (.slice none 0 0)), (3, sl Event.K t984), (4, eq q1015.2.1), (5, vI x988), (6, vB q1015.1.1), (7, vI q1015.1.2.1), (14, vB (decide (x988 < (t984.length : Int)))), (21, vB q1015.1.2.2.1), (53, vB q1015.1.2.2.2.1)]) (fun q1015 : (Bool × Int × Bool × Bool × (List ByteArray)) × OV => [blk b983 26 (RDag.enc a0), own strK q1015.2.1 q1015.1.2.2.2.2] ++ F) (fun q1015 H => ?_) (fun H => ?_)
 ·
  obtain ⟨p992, v993⟩ := q1015
  exact rg 3 0 <| mv0 rfl rfl <| bn0 rfl rfl rfl run_add <| as0 rfl rfl <| .fin <| bk j1016 (w64 (x988 + 1), p992.2.2.2.2, v993) H
 refine WP.block <| WP.seq <| rg 1 0 <| as0 rfl rfl <| .fin <| WP.seqn H id (fun p994 : Bool × Int × Bool => [(0, agg (RDag.enc a0)), (1, eq (.pointer (some ⟨b983, 0, none⟩))), (2, eq (.slice none 0 0)), (3, sl Event.K t984), (4, eq v990.1), (5, vI x988), (6, vB p994.1), (7, vI p994.2.1), (14, vB (decide (x988 < (t984.length : Int)))), (21, vB p994.2.2)]) (fun p994 : Bool × Int × Bool => [blk b983 26 (RDag.enc a0), own strK v990.1 x989] ++ F) (fun p994 H => ?_) (fun H => ?_)
 ·
  refine WP.seq <| rg 1 0 <| mv0 rfl rfl <| .fin <| cd H rfl (fun _ H => ?_) (fun _ H => ?_)
  rotate_left
  ·
   refine WP.skip ?_
   replace H := Gets.out H
   exact jn ((p994.1, p994.2.1, p994.2.2, p994.1, x989), v990) H
  refine rg 9 128 <| mv0 rfl rfl <| mv0 rfl rfl <| mv0 rfl rfl <| gr H fun g996 H => Dv.ixr rfl trivial rfl rfl Tryz.underlying24 Tryz.underlying43 c43 g996.1 g996.2 <| fr rfl trivial rfl fa43_0 rfl <| ldR rfl trivial rfl sc9 rfl <| Dv.lit strK ([(Event.K.at t984 x988).fID] : List ByteArray) (css := [[vS ((Event.K.at t984 x988).fID)]]) rfl trivial Tryz.underlying29 Tryz.underlying9 c9 z9 rfl (by decide) (by decide) rfl ⟨(cells_one (one_eq rfl)), trivial⟩ rfl rfl rfl <| gr H fun g997 H => ap strK 1 ([(Event.K.at t984 x988).fID] : List ByteArray) src_sl Tryz.underlying29 (.inr ⟨_, Tryz.underlying29⟩) inf9 g997 nofun fun v998 => ?_
  refine as0 rfl rfl <| .fin ?_
  replace H := Gets.out H
  exact jn ((p994.1, p994.2.1, p994.2.2, p994.1, x989 ++ ([(Event.K.at t984 x988).fID] : List ByteArray)), v998) H
 refine WP.seq <| rg 1 0 <| as0 rfl rfl <| .fin <| WP.block <| wg (sg 2 [0,1] 0) fun _ _ => ?_
 refine lp (fun j_ (p1014 : Bool × Int) => concourseref07_Heads.l1 k a0 t984 x988 j_ p1014.1 p1014.2) (true, 0) H (fun p1014 => [(0, agg (RDag.enc a0)), (1, eq (.pointer (some ⟨b983, 0, none⟩))), (2, eq (.slice none 0 0)), (3, sl Event.K t984), (4, eq v990.1), (5, vI x988), (6, vB p1014.1), (7, vI p1014.2), (14, vB (decide (x988 < (t984.length : Int))))]) (fun p1014 => [blk b983 26 (RDag.enc a0), own strK v990.1 x989] ++ F) ?_
 rintro j_ ⟨x999, x1000⟩ H
 rcases j_ with _ | j1013
 ·
  exact (Gets.no H).elim
 replace H : Gets (concourseref07_Heads.l1 k a0 t984 x988 (j1013 + 1) x999 x1000) _ := H
 rw [concourseref07_Heads.l1] at H
 refine WP.seq <| WP.seq <| rg 5 0 <| mv0 rfl rfl <| fb rfl trivial rfl fa26_1 <| ld 0 rfl trivial rfl sc24 rfl rfl <| Dv.lenl rfl trivial rfl Tryz.underlying24 <| bn0 rfl rfl rfl run_lt <| .fin <| cd H rfl (fun _ H => ?_) (fun _ H => ?_)
 rotate_left
 ·
  refine WP.exit ?_
  replace H := Gets.out H
  exact jn (x999, x1000, decide (x1000 < (a0.fL.length : Int))) H
 refine WP.skip <| WP.seqn H id (fun p1002 : Bool × Int × Bool => [(0, agg (RDag.enc a0)), (1, eq (.pointer (some ⟨b983, 0, none⟩))), (2, eq (.slice none 0 0)), (3, sl Event.K t984), (4, eq v990.1), (5, vI x988), (6, vB p1002.1), (7, vI x1000), (8, vI p1002.2.1), (14, vB (decide (x988 < (t984.length : Int)))), (21, vB (decide (x1000 < (a0.fL.length : Int)))), (32, vB p1002.2.2)]) (fun p1002 : Bool × Int × Bool => [blk b983 26 (RDag.enc a0), own strK v990.1 x989] ++ F) (fun p1002 H => ?_) (fun H => ?_)
 ·
  exact rg 3 0 <| mv0 rfl rfl <| bn0 rfl rfl rfl run_add <| as0 rfl rfl <| .fin <| bk j1013 (p1002.1, w64 (x1000 + 1)) H
 refine WP.block <| WP.seq <| rg 1 0 <| as0 rfl rfl <| .fin <| WP.block <| wg (sg 2 [0,1] 0) fun _ _ => ?_
 refine lp (fun j_ (p1012 : Bool × Int) => concourseref07_Heads.l2 k a0 t984 x988 x1000 j_ p1012.1 p1012.2) (x999, 0) H (fun p1012 => [(0, agg (RDag.enc a0)), (1, eq (.pointer (some ⟨b983, 0, none⟩))), (2, eq (.slice none 0 0)), (3, sl Event.K t984), (4, eq v990.1), (5, vI x988), (6, vB p1012.1), (7, vI x1000), (8, vI p1012.2), (14, vB (decide (x988 < (t984.length : Int)))), (21, vB (decide (x1000 < (a0.fL.length : Int))))]) (fun p1012 => [blk b983 26 (RDag.enc a0), own strK v990.1 x989] ++ F) ?_
 rintro j_ ⟨x1003, x1004⟩ H
 rcases j_ with _ | j1011
 ·
  exact (Gets.no H).elim
 replace H : Gets (concourseref07_Heads.l2 k a0 t984 x988 x1000 (j1011 + 1) x1003 x1004) _ := H
 rw [concourseref07_Heads.l2] at H
 refine WP.seq <| WP.seq <| rg 9 0 <| mv0 rfl rfl <| fb rfl trivial rfl fa26_1 <| ld 0 rfl trivial rfl sc24 rfl rfl <| mv0 rfl rfl <| gr H fun g1005 H => Dv.ixr rfl trivial rfl rfl Tryz.underlying24 Tryz.underlying43 c43 g1005.1 g1005.2 <| fr rfl trivial rfl fa43_2 rfl <| ldR rfl trivial rfl sc29 rfl <| Dv.lenl rfl trivial rfl Tryz.underlying29 <| bn0 rfl rfl rfl run_lt <| .fin <| cd H rfl (fun _ H => ?_) (fun _ H => ?_)
 rotate_left
 ·
  refine WP.exit ?_
  replace H := Gets.out H
  exact jn (x1003, x1004, decide (x1004 < (((Event.K.at a0.fL x1000).fParents).length : Int))) H
 refine WP.skip <| WP.seq <| WP.block <| dg Tryz.checked.mixed 19 0 <| mv0 rfl rfl <| mv0 rfl rfl ?_
 cases c1007 : x1003
 ·
  replace H := Gets.cf H c1007
  exact sk rfl rfl <| sk rfl rfl <| sk rfl rfl <| sk rfl rfl <| sk rfl rfl <| sk rfl rfl <| sk rfl rfl <| sk rfl rfl <| sk rfl rfl <| sk rfl rfl <| sk rfl rfl <| sk rfl rfl <| sk rfl rfl <| sk rfl rfl <| sk rfl rfl <| pf0 rfl rfl rfl <| as0 rfl rfl <| .fin <| rg 3 0 <| mv0 rfl rfl <| bn0 rfl rfl rfl run_add <| as0 rfl rfl <| .fin <| bk j1011 (false, w64 (x1004 + 1)) H
 replace H := Gets.ct H c1007
 exact fb rfl (gg rfl) rfl fa26_1 <| ld 0 rfl (gg rfl) rfl sc24 rfl rfl <| mvg rfl rfl rfl <| gr H fun g1008 H => Dv.ixr rfl (gg rfl) rfl rfl Tryz.underlying24 Tryz.underlying43 c43 g1008.1 g1008.2 <| fr rfl (gg rfl) rfl fa43_2 rfl <| ldR rfl (gg rfl) rfl sc29 rfl <| mvg rfl rfl rfl <| gr H fun g1009 H => Dv.ixr rfl (gg rfl) rfl rfl Tryz.underlying29 Tryz.underlying9 c9 g1009.1 g1009.2 <| ldR rfl (gg rfl) rfl sc9 rfl <| mvg rfl rfl rfl <| mvg rfl rfl rfl <| gr H fun g1010 H => Dv.ixr rfl (gg rfl) rfl rfl Tryz.underlying24 Tryz.underlying43 c43 g1010.1 g1010.2 <| fr rfl (gg rfl) rfl fa43_0 rfl <| ldR rfl (gg rfl) rfl sc9 rfl <| bng rfl rfl rfl rfl run_sne <| pt0 rfl rfl rfl <| as0 rfl rfl <| .fin <| rg 3 0 <| mv0 rfl rfl <| bn0 rfl rfl rfl run_add <| as0 rfl rfl <| .fin <| bk j1011 (!decide ((strK.at ((Event.K.at a0.fL x1000).fParents) x1004) = ((Event.K.at t984 x988).fID)), w64 (x1004 + 1)) H
theorem member_Last.c {k : Nat} {a0 : DDag} {a1 : ByteArray} {v0_0 : OV} {b0_ : Nat} {r : Event × Bool} (h : member_Last.f k a0 a1 = some r) : Tr Tryz.prog 24 [eq (.pointer (some ⟨b0_, 0, none⟩)), vS a1] [blk b0_ 57 [vS a0.froom, eq v0_0.1], mpo Value.string DNode.O v0_0.1 a0.fnodes] (γ := Unit) (fun _ => True) (fun g => tup [agg (Event.enc r.1), vB r.2]) (fun g => [blk b0_ 57 [vS a0.froom, eq v0_0.1], mpo Value.string DNode.O v0_0.1 a0.fnodes]) := by
 unfold member_Last.f at h
 refine Tr.body Tryz.func24 (c := _) rfl Tryz.ntmps24 (Nat.le_of_ble_eq_true rfl) fun R0 F => ?_
 replace h := Gets.of h
 have H := h
 clear h
 refine WP.seq <| rg 2 1 <| al rfl trivial zc43 nofun fun b1106 => as0 rfl rfl <| .fin <| WP.seq <| rg 1 1 <| al rfl trivial zc43 nofun fun b1107 => .fin <| WP.seq <| rg 1 0 <| as0 rfl rfl <| .fin <| WP.seqn H (fun q1130 : (Bool × Int × Int × Bool × ByteArray × ByteArray × (List ByteArray) × ByteArray × ByteArray × Int × (List Event)) × OV => q1130.1) (fun q1130 : (Bool × Int × Int × Bool × ByteArray × ByteArray × (List ByteArray) × ByteArray × ByteArray × Int × (List Event)) × OV => [(0, eq (.pointer (some ⟨b0_, 0, none⟩))), (1, vS a1), (4, eq (.pointer (some ⟨b1106, 0, none⟩))), (5, vB false), (6, eq (.pointer (some ⟨b1107, 0, none⟩))), (7, vB q1130.1.1), (11, eq q1130.2.1), (12, vI q1130.1.2.1), (13, vI q1130.1.2.2.1), (14, vB q1130.1.2.2.2.1)]) (fun q1130 : (Bool × Int × Int × Bool × ByteArray × ByteArray × (List ByteArray) × ByteArray × ByteArray × Int × (List Event)) × OV => [blk b0_ 57 [vS a0.froom, eq v0_0.1], blk b1107 43 [vS q1130.1.2.2.2.2.1, vS q1130.1.2.2.2.2.2.1, sl strK q1130.1.2.2.2.2.2.2.1, vS q1130.1.2.2.2.2.2.2.2.1, vS q1130.1.2.2.2.2.2.2.2.2.1, vI q1130.1.2.2.2.2.2.2.2.2.2.1], blk b1106 43 [vS (⟨#[]⟩ : ByteArray), vS (⟨#[]⟩ : ByteArray), eq (.slice none 0 0), vS (⟨#[]⟩ : ByteArray), vS (⟨#[]⟩ : ByteArray), vI 0], mpo Value.string DNode.O v0_0.1 a0.fnodes, own Event.K q1130.2.1 q1130.1.2.2.2.2.2.2.2.2.2.2] ++ F) (fun q1130 H => ?_) (fun H => ?_)
 ·
  obtain ⟨p1108, v1109⟩ := q1130
  refine WP.seq <| rg 4 4 <| lds 1 rfl trivial rfl sg43 rfl rfl <| mv0 rfl rfl <| sx 2 rfl trivial rfl rfl cA sz43 rfl rfl rfl nofun ?_
  refine as0 rfl rfl <| .fin ?_
  obtain rfl := Gets.out H
  exact rt i2 rfl () 5 [1,2,4,0,3] 3 (.cons (res_cells rfl Tryz.underlying43 rfl c43 (mem_at 2 rfl) rfl) (.cons (res_tmp rfl) .nil))
 refine WP.seq <| rg 4 2 <| mv0 rfl rfl <| el H fun t1110 h1111 H => cx 4 [2,3,0,1] cal42 (dag_Dag_All.c h1111 (b0_ := b0_) (v0_0 := v0_0)) nofun fun g1112 _ => ?_
 refine Dv.lenw rfl trivial rfl (mem_at 2 rfl) Tryz.underlying24 <| mv0 rfl rfl <| .fin <| WP.block <| WP.gh (gh_wk (E' := [(0, eq (.pointer (some ⟨b0_, 0, none⟩))), (1, vS a1), (4, eq (.pointer (some ⟨b1106, 0, none⟩))), (5, vB false), (6, eq (.pointer (some ⟨b1107, 0, none⟩))), (7, vB false), (11, eq g1112.1), (12, vI (t1110.length : Int)), (13, vI 0)]) (l' := [blk b0_ 57 [vS a0.froom, eq v0_0.1], mpo Value.string DNode.O v0_0.1 a0.fnodes, own Event.K g1112.1 t1110, blk b1107 43 [vS (⟨#[]⟩ : ByteArray), vS (⟨#[]⟩ : ByteArray), sl strK ([] : List ByteArray), vS (⟨#[]⟩ : ByteArray), vS (⟨#[]⟩ : ByteArray), vI 0], blk b1106 43 [vS (⟨#[]⟩ : ByteArray), vS (⟨#[]⟩ : ByteArray), eq (.slice none 0 0), vS (⟨#[]⟩ : ByteArray), vS (⟨#[]⟩ : ByteArray), vI 0]] ++ F) (wke_cons rfl wk_id (wke_cons rfl wk_id (wke_cons rfl wk_id (wke_cons rfl wk_id (wke_cons rfl wk_id (wke_cons rfl wk_id (wke_cons rfl wk_id (wke_cons rfl wk_id (wke_cons rfl wk_id wke_nil))))))))) (all2_app (.cons wka_id (.cons wka_id (.cons wka_id (.cons (wka_blk (.cons wk_id (.cons wk_id (.cons wk_nil (.cons wk_id (.cons wk_id (.cons wk_id .nil))))))) (.cons wka_id .nil))))) fun _ => wka_id)) (fun _ _ => ?_)
 refine wg (sg 5 [0,3,4,1,2] 0) fun _ _ => ?_
 refine lp (fun j_ (p1129 : Bool × Int × ByteArray × ByteArray × (List ByteArray) × ByteArray × ByteArray × Int) => member_Last.l0 k a1 t1110 j_ p1129.1 p1129.2.1 p1129.2.2.1 p1129.2.2.2.1 p1129.2.2.2.2.1 p1129.2.2.2.2.2.1 p1129.2.2.2.2.2.2.1 p1129.2.2.2.2.2.2.2) (false, 0, (⟨#[]⟩ : ByteArray), (⟨#[]⟩ : ByteArray), ([] : List ByteArray), (⟨#[]⟩ : ByteArray), (⟨#[]⟩ : ByteArray), 0) H (fun p1129 => [(0, eq (.pointer (some ⟨b0_, 0, none⟩))), (1, vS a1), (4, eq (.pointer (some ⟨b1106, 0, none⟩))), (5, vB false), (6, eq (.pointer (some ⟨b1107, 0, none⟩))), (7, vB p1129.1), (11, eq g1112.1), (12, vI (t1110.length : Int)), (13, vI p1129.2.1)]) (fun p1129 => [blk b0_ 57 [vS a0.froom, eq v0_0.1], blk b1107 43 [vS p1129.2.2.1, vS p1129.2.2.2.1, sl strK p1129.2.2.2.2.1, vS p1129.2.2.2.2.2.1, vS p1129.2.2.2.2.2.2.1, vI p1129.2.2.2.2.2.2.2], blk b1106 43 [vS (⟨#[]⟩ : ByteArray), vS (⟨#[]⟩ : ByteArray), eq (.slice none 0 0), vS (⟨#[]⟩ : ByteArray), vS (⟨#[]⟩ : ByteArray), vI 0], mpo Value.string DNode.O v0_0.1 a0.fnodes, own Event.K g1112.1 t1110] ++ F) ?_
 rintro j_ ⟨x1113, x1114, x1115, x1116, x1117, x1118, x1119, x1120⟩ H
 rcases j_ with _ | j1128
 ·
  exact (Gets.no H).elim
 replace H : Gets (member_Last.l0 k a1 t1110 (j1128 + 1) x1113 x1114 x1115 x1116 x1117 x1118 x1119 x1120) _ := H
 rw [member_Last.l0] at H
 refine WP.seq <| rg 1 0 <| bn0 rfl rfl rfl run_lt <| .fin <| WP.seq <| cd H rfl (fun _ H => ?_) (fun _ H => ?_)
 rotate_left
 ·
  refine WP.exit ?_
  replace H := Gets.out H
  exact jn ((x1113, (t1110.length : Int), x1114, decide (x1114 < (t1110.length : Int)), x1115, x1116, x1117, x1118, x1119, x1120, t1110), g1112) H
 refine WP.skip <| WP.seq <| WP.block <| WP.seq <| rg 4 12 <| gr H fun g1122 H => ?_
 have h1123 : x1114.toNat < t1110.length := idx_lt g1122
 refine Dv.ixw rfl trivial rfl (mem_at 4 rfl) rfl Tryz.underlying24 Tryz.underlying43 c43 g1122.1 g1122.2 <| Dv.ldws (j := x1114.toNat) (f := 0) rfl trivial rfl (mem_at 4 rfl) h1123 Tryz.underlying43 rfl c43 (Nat.le_of_ble_eq_true rfl) <| al rfl trivial zc43 nofun fun b1124 => sx 0 rfl trivial rfl rfl cA sz43 rfl rfl rfl nofun ?_
 refine .fin <| WP.seq <| rg 9 0 <| fb rfl trivial rfl fa43_4 <| ld 0 rfl trivial rfl sc9 rfl rfl <| mv0 rfl rfl <| bn0 rfl rfl rfl run_seq <| mv0 rfl rfl ?_
 cases c1125 : decide (((t1110.getD x1114.toNat default).fUser) = a1)
 ·
  replace H := Gets.cf H c1125
  refine sk rfl rfl <| sk rfl rfl <| sk rfl rfl <| pf0 rfl rfl rfl <| .fin <| WP.cond rfl nofun (fun _ => ?_)
  refine WP.skip <| rg 2 0 <| bn0 rfl rfl rfl run_add <| mv0 rfl rfl <| .fin <| ng (sg 6 [0,1,2,3,4,5] 1) fun _ _ => ?_
  exact bk j1128 (x1113, w64 (x1114 + 1), x1115, x1116, x1117, x1118, x1119, x1120) H
 replace H := Gets.ct H c1125
 refine fb rfl (gg rfl) rfl fa43_5 <| ld 0 rfl (gg rfl) rfl sc3 rfl rfl <| bng rfl rfl rfl rfl run_ne <| pt0 rfl rfl rfl <| .fin <| cd H rfl (fun _ H => ?_) (fun _ H => ?_)
 rotate_left
 ·
  refine WP.skip <| rg 2 0 <| bn0 rfl rfl rfl run_add <| mv0 rfl rfl <| .fin <| ng (sg 6 [0,1,2,3,4,5] 1) fun _ _ => ?_
  exact bk j1128 (x1113, w64 (x1114 + 1), x1115, x1116, x1117, x1118, x1119, x1120) H
 refine rg 3 2 <| lds 0 rfl trivial rfl sg43 rfl rfl <| sx 2 rfl trivial rfl rfl cA sz43 rfl rfl rfl nofun ?_
 refine as0 rfl rfl <| .fin <| rg 2 0 <| bn0 rfl rfl rfl run_add <| mv0 rfl rfl <| .fin <| ng (sg 6 [0,1,2,3,4,5] 1) fun _ _ => ?_
 exact bk j1128 (true, w64 (x1114 + 1), (t1110.getD x1114.toNat default).fID, (t1110.getD x1114.toNat default).fRoom, (t1110.getD x1114.toNat default).fParents, (t1110.getD x1114.toNat default).fThread, (t1110.getD x1114.toNat default).fUser, (t1110.getD x1114.toNat default).fDoes) H
theorem concourseref07_Same.c {k : Nat} {a0 : Event} {a1 : Event} {r : Bool} (h : concourseref07_Same.f k a0 a1 = some r) : Pt Tryz.prog 27 [agg (Event.enc a0), agg (Event.enc a1)] (vB r) := by
 unfold concourseref07_Same.f at h
 refine (Tr.body Tryz.func27 (c := _) rfl Tryz.ntmps27 (Nat.le_of_ble_eq_true rfl) fun R0 F => ?_).pt
 replace h := Gets.of h
 have H := h
 clear h
 refine WP.seq <| rg 3 3 <| Dv.box rfl trivial rfl cA nofun fun b1131 => Dv.box rfl trivial rfl cA nofun fun b1132 => as0 rfl rfl <| .fin <| WP.seq <| rg 6 0 <| fb rfl trivial rfl fa43_2 <| ld 1 rfl trivial rfl sc29 rfl rfl <| fb rfl trivial rfl fa43_2 <| ld 0 rfl trivial rfl sc29 rfl rfl <| el H fun t1133 h1134 H => cl rfl cal13 rfl (concourseref01_SameTexts.c h1134) <| as0 rfl rfl <| .fin <| WP.seq <| rg 37 0 <| mv0 rfl rfl <| mv0 rfl rfl ?_
 cases c1135 : t1133
 ·
  replace H := Gets.cf H c1135
  refine sk rfl rfl <| sk rfl rfl <| sk rfl rfl <| sk rfl rfl <| sk rfl rfl <| pf0 rfl rfl rfl <| mv0 rfl rfl <| sk rfl rfl <| sk rfl rfl <| sk rfl rfl <| sk rfl rfl <| sk rfl rfl <| pf0 rfl rfl rfl <| mv0 rfl rfl <| sk rfl rfl <| sk rfl rfl <| sk rfl rfl <| sk rfl rfl <| sk rfl rfl <| pf0 rfl rfl rfl <| mv0 rfl rfl <| sk rfl rfl <| sk rfl rfl <| sk rfl rfl <| sk rfl rfl <| sk rfl rfl <| pf0 rfl rfl rfl <| mv0 rfl rfl <| sk rfl rfl <| sk rfl rfl <| sk rfl rfl <| sk rfl rfl <| sk rfl rfl <| pf0 rfl rfl rfl <| as0 rfl rfl <| .fin ?_
  obtain rfl := Gets.out H
  exact rt i2 rfl () 2 [0,1] 2 (.cons (res_tmp rfl) .nil)
 replace H := Gets.ct H c1135
 refine fb rfl (gg rfl) rfl fa43_0 <| ld 1 rfl (gg rfl) rfl sc9 rfl rfl <| fb rfl (gg rfl) rfl fa43_0 <| ld 0 rfl (gg rfl) rfl sc9 rfl rfl <| bng rfl rfl rfl rfl run_seq <| pt0 rfl rfl rfl <| mv0 rfl rfl ?_
 cases c1136 : decide (a0.fID = a1.fID)
 ·
  replace H := Gets.cf H c1136
  refine sk rfl rfl <| sk rfl rfl <| sk rfl rfl <| sk rfl rfl <| sk rfl rfl <| pf0 rfl rfl rfl <| mv0 rfl rfl <| sk rfl rfl <| sk rfl rfl <| sk rfl rfl <| sk rfl rfl <| sk rfl rfl <| pf0 rfl rfl rfl <| mv0 rfl rfl <| sk rfl rfl <| sk rfl rfl <| sk rfl rfl <| sk rfl rfl <| sk rfl rfl <| pf0 rfl rfl rfl <| mv0 rfl rfl <| sk rfl rfl <| sk rfl rfl <| sk rfl rfl <| sk rfl rfl <| sk rfl rfl <| pf0 rfl rfl rfl <| as0 rfl rfl <| .fin ?_
  obtain rfl := Gets.out H
  exact rt i2 rfl () 2 [0,1] 2 (.cons (res_tmp rfl) .nil)
 replace H := Gets.ct H c1136
 refine fb rfl (gg rfl) rfl fa43_1 <| ld 1 rfl (gg rfl) rfl sc9 rfl rfl <| fb rfl (gg rfl) rfl fa43_1 <| ld 0 rfl (gg rfl) rfl sc9 rfl rfl <| bng rfl rfl rfl rfl run_seq <| pt0 rfl rfl rfl <| mv0 rfl rfl ?_
 cases c1137 : decide (a0.fRoom = a1.fRoom)
 ·
  replace H := Gets.cf H c1137
  refine sk rfl rfl <| sk rfl rfl <| sk rfl rfl <| sk rfl rfl <| sk rfl rfl <| pf0 rfl rfl rfl <| mv0 rfl rfl <| sk rfl rfl <| sk rfl rfl <| sk rfl rfl <| sk rfl rfl <| sk rfl rfl <| pf0 rfl rfl rfl <| mv0 rfl rfl <| sk rfl rfl <| sk rfl rfl <| sk rfl rfl <| sk rfl rfl <| sk rfl rfl <| pf0 rfl rfl rfl <| as0 rfl rfl <| .fin ?_
  obtain rfl := Gets.out H
  exact rt i2 rfl () 2 [0,1] 2 (.cons (res_tmp rfl) .nil)
 replace H := Gets.ct H c1137
 refine fb rfl (gg rfl) rfl fa43_3 <| ld 1 rfl (gg rfl) rfl sc9 rfl rfl <| fb rfl (gg rfl) rfl fa43_3 <| ld 0 rfl (gg rfl) rfl sc9 rfl rfl <| bng rfl rfl rfl rfl run_seq <| pt0 rfl rfl rfl <| mv0 rfl rfl ?_
 cases c1138 : decide (a0.fThread = a1.fThread)
 ·
  replace H := Gets.cf H c1138
  refine sk rfl rfl <| sk rfl rfl <| sk rfl rfl <| sk rfl rfl <| sk rfl rfl <| pf0 rfl rfl rfl <| mv0 rfl rfl <| sk rfl rfl <| sk rfl rfl <| sk rfl rfl <| sk rfl rfl <| sk rfl rfl <| pf0 rfl rfl rfl <| as0 rfl rfl <| .fin ?_
  obtain rfl := Gets.out H
  exact rt i2 rfl () 2 [0,1] 2 (.cons (res_tmp rfl) .nil)
 replace H := Gets.ct H c1138
 refine fb rfl (gg rfl) rfl fa43_4 <| ld 1 rfl (gg rfl) rfl sc9 rfl rfl <| fb rfl (gg rfl) rfl fa43_4 <| ld 0 rfl (gg rfl) rfl sc9 rfl rfl <| bng rfl rfl rfl rfl run_seq <| pt0 rfl rfl rfl <| mv0 rfl rfl ?_
 cases c1139 : decide (a0.fUser = a1.fUser)
 ·
  replace H := Gets.cf H c1139
  refine sk rfl rfl <| sk rfl rfl <| sk rfl rfl <| sk rfl rfl <| sk rfl rfl <| pf0 rfl rfl rfl <| as0 rfl rfl <| .fin ?_
  obtain rfl := Gets.out H
  exact rt i2 rfl () 2 [0,1] 2 (.cons (res_tmp rfl) .nil)
 replace H := Gets.ct H c1139
 refine fb rfl (gg rfl) rfl fa43_5 <| ld 1 rfl (gg rfl) rfl sc3 rfl rfl <| fb rfl (gg rfl) rfl fa43_5 <| ld 0 rfl (gg rfl) rfl sc3 rfl rfl <| bng rfl rfl rfl rfl run_eq <| pt0 rfl rfl rfl <| as0 rfl rfl <| .fin ?_
 obtain rfl := Gets.out H
 exact rt i2 rfl () 2 [0,1] 2 (.cons (res_tmp rfl) .nil)
end Go.Proofs.YtdbinmknbmlddaaGreat
