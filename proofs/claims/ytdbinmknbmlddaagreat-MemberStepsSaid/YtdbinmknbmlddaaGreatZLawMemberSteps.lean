/- The walks. -/
import Derived.Test.YtdbinmknbmlddaaGreatZWalks2
import Derived.Test.YtdbinmknbmlddaaGreatConQ
import Derived.Test.YtdbinmknbmlddaaGreatConA3
import Derived.Eval
set_option linter.all false
set_option maxRecDepth 10000
set_option maxHeartbeats 20000000
namespace Go.Proofs.YtdbinmknbmlddaaGreat
open Go Go.Sp
theorem concourselaw09_MemberSteps.c {k : Nat} {a0 : List GMade} {a1 : Int} {a2 : Bool} {r : Bool} (h : concourselaw09_MemberSteps.f k a0 a1 a2 = some r) : Pt Tryz.prog 5 [sl GMade.K a0, vI a1, vB a2] (vB r) := by
 unfold concourselaw09_MemberSteps.f at h
 refine (Tr.body Tryz.func5 (c := _) rfl Tryz.ntmps5 (Nat.le_of_ble_eq_true rfl) fun R0 F => ?_).pt
 replace h := Gets.of h
 have H := h
 clear h
 refine WP.seq <| rg 1 0 <| as0 rfl rfl <| .fin <| WP.seq <| rg 8 162 <| mv0 rfl rfl <| el H fun t1019 h1020 H => cx 0 [] cal7 (concourselaw09_build.c h1020) nofun fun g1021 _ => ?_
 refine mv0 rfl rfl <| ex0 rfl trivial rfl rfl <| ex0 rfl trivial rfl rfl <| al rfl trivial zc26 nofun fun b1022 => as0 rfl rfl <| sx 0 rfl trivial rfl rfl cA sz26 rfl rfl rfl nofun ?_
 refine .fin <| WP.seq <| WP.seq <| rg 2 0 <| mv0 rfl rfl <| Dv.oeq0 (fun _ => DDag.nn) rfl trivial rfl rfl Tryz.underlying23 (mem_at 1 rfl) <| .fin <| cd H rfl (fun _ H => ?_) (fun c1023 H => ?_)
 ·
  refine WP.seq <| rg 1 0 <| as0 rfl rfl <| .fin ?_
  obtain rfl := Gets.out H
  exact rt i2 rfl () 2 [0,1] 2 (.cons (res_tmp rfl) .nil)
 refine wg (opt_some 1 rfl c1023) fun _ _ => ?_
 refine WP.skip <| WP.seq <| rg 3 0 <| mv0 rfl rfl <| el H fun t1024 h1025 H => cl rfl cal19 rfl (concourseref01_UserOf.c h1025) <| as0 rfl rfl <| .fin <| WP.seq <| rg 3 2 <| mv0 rfl rfl <| vg (DDag.opn 0 rfl) fun g1026 h1027 => ?_
 refine el H fun t1028 h1029 H => cx 3 [0,1,2] cal18 (Tr.weak (member_Users.c h1029 (b0_ := g1026.1) (v0_0 := g1026.2)) (.cons (wk_ptr h1027) .nil)) nofun fun g1030 _ => ?_
 refine as0 rfl rfl <| .fin <| WP.seq <| rg 6 48 <| fb rfl trivial rfl fa26_0 <| ld 3 rfl trivial rfl sc9 rfl rfl <| mv0 rfl rfl <| Dv.bld (css := [[vS (⟨#[36, 122]⟩ : ByteArray)], [vS t1019.2.fRoom], [vS t1024], [vI 2]]) rfl trivial Tryz.underlying43 pl43 z43 rfl ⟨(cells_one (one_eq rfl)), ⟨(cells_one (one_eq rfl)), ⟨(cells_one (one_eq rfl)), ⟨(cells_one (one_eq rfl)), trivial⟩⟩⟩⟩ rfl rfl <| al rfl trivial zc43 nofun fun b1031 => sx 0 rfl trivial rfl rfl cA sz43 rfl rfl rfl nofun ?_
 refine .fin <| WP.seqn H id (fun p1032 : Int => [(0, sl GMade.K a0), (1, vI a1), (2, vB a2), (6, vB false), (7, eq g1021.1), (8, eq (.pointer (some ⟨b1022, 0, none⟩))), (9, vS t1024), (10, eq g1030.1), (11, eq (.pointer (some ⟨b1031, 0, none⟩))), (24, vB t1019.1.isNone), (33, vB a2)]) (fun p1032 : Int => [blk b1031 43 [vS (⟨#[36, 122]⟩ : ByteArray), vS t1019.2.fRoom, eq (.slice none 0 0), vS (⟨#[]⟩ : ByteArray), vS t1024, vI p1032], blk b1022 26 (RDag.enc t1019.2), DDag.O g1021 (t1019.1.getD default), own strK g1030.1 t1028] ++ F) (fun p1032 H => ?_) (fun H => ?_)
 rotate_left
 ·
  refine WP.seq <| rg 1 0 <| mv0 rfl rfl <| .fin <| cd H rfl (fun _ H => ?_) (fun _ H => ?_)
  rotate_left
  ·
   refine WP.skip ?_
   replace H := Gets.out H
   refine ng (DDag.shut (p := g1021) (m := t1019.1.getD default) (g1026.1, g1026.2) h1027 (pm 5 [1,2,0,3,4])) fun _ _ => ?_
   refine ng (sg 4 [1,3,0,2] 0) fun _ _ => ?_
   exact jn 2 H
  refine rg 2 2 <| fb rfl trivial rfl fa43_5 <| sx 0 rfl trivial rfl rfl cE sz3 rfl rfl rfl nofun ?_
  refine .fin ?_
  replace H := Gets.out H
  refine ng (DDag.shut (p := g1021) (m := t1019.1.getD default) (g1026.1, g1026.2) h1027 (pm 5 [1,2,0,3,4])) fun _ _ => ?_
  refine ng (sg 4 [1,3,0,2] 0) fun _ _ => ?_
  exact jn 1 H
 refine WP.seq <| rg 3 2 <| lds 1 rfl trivial rfl sg26 rfl rfl <| el H fun t1033 h1034 H => cx 4 [0,1,2,3] cal20 (concourseref07_Heads.c h1034) nofun fun g1035 _ => ?_
 refine as0 rfl rfl <| .fin <| WP.seq <| rg 1 0 <| as0 rfl rfl <| .fin <| WP.seqr H id (fun p1036 : ByteArray × Int × Bool × DDag => [(0, sl GMade.K a0), (1, vI a1), (2, vB a2), (6, vB false), (7, eq g1021.1), (8, eq (.pointer (some ⟨b1022, 0, none⟩))), (9, vS t1024), (10, eq g1030.1), (11, eq (.pointer (some ⟨b1031, 0, none⟩))), (12, eq g1035.1), (13, vS p1036.1), (14, vI p1036.2.1), (24, vB t1019.1.isNone), (33, vB a2), (40, vB p1036.2.2.1)]) (fun p1036 : ByteArray × Int × Bool × DDag => [blk b1031 43 [vS (⟨#[36, 122]⟩ : ByteArray), vS t1019.2.fRoom, eq (.slice none 0 0), vS (⟨#[]⟩ : ByteArray), vS t1024, vI p1032], blk b1022 26 (RDag.enc t1019.2), own strK g1035.1 t1033, DDag.O g1021 p1036.2.2.2, own strK g1030.1 t1028] ++ F) (fun p1036 H => ?_) (fun H => ?_)
 rotate_left
 ·
  refine WP.seq <| rg 1 0 <| as0 rfl rfl <| .fin <| WP.block <| wg (sg 5 [1,2,0,3,4] 0) fun _ _ => ?_
  refine lp (fun j_ (p1104 : ByteArray × Int × DDag) => concourselaw09_MemberSteps.l1 k t1019 t1024 t1033 j_ p1104.1 p1104.2.1 p1104.2.2) ((⟨#[]⟩ : ByteArray), 0, t1019.1.getD default) H (fun p1104 => [(0, sl GMade.K a0), (1, vI a1), (2, vB a2), (6, vB false), (7, eq g1021.1), (8, eq (.pointer (some ⟨b1022, 0, none⟩))), (9, vS t1024), (10, eq g1030.1), (11, eq (.pointer (some ⟨b1031, 0, none⟩))), (12, eq g1035.1), (13, vS p1104.1), (14, vI p1104.2.1), (24, vB t1019.1.isNone), (33, vB a2)]) (fun p1104 => [blk b1031 43 [vS (⟨#[36, 122]⟩ : ByteArray), vS t1019.2.fRoom, eq (.slice none 0 0), vS (⟨#[]⟩ : ByteArray), vS t1024, vI p1032], blk b1022 26 (RDag.enc t1019.2), own strK g1035.1 t1033, DDag.O g1021 p1104.2.2, own strK g1030.1 t1028] ++ F) ?_
  rintro j_ ⟨x1078, x1079, x1080⟩ H
  rcases j_ with _ | j1103
  ·
   exact (Gets.no H).elim
  replace H : Gets (concourselaw09_MemberSteps.l1 k t1019 t1024 t1033 (j1103 + 1) x1078 x1079 x1080) _ := H
  rw [concourselaw09_MemberSteps.l1] at H
  refine WP.seq <| WP.seq <| rg 4 0 <| mv0 rfl rfl <| mv0 rfl rfl <| Dv.lenw rfl trivial rfl (mem_at 2 rfl) Tryz.underlying29 <| bn0 rfl rfl rfl run_lt <| .fin <| cd H rfl (fun _ H => ?_) (fun _ H => ?_)
  rotate_left
  ·
   refine WP.exit ?_
   replace H := Gets.out H
   exact jn (x1078, x1079, decide (x1079 < (t1033.length : Int)), x1080) H
  refine WP.skip <| WP.seq <| WP.block <| WP.seq <| dg Tryz.checked.mixed 14 12288 <| mv0 rfl rfl <| el H fun t1082 h1083 H => cl rfl cal21 rfl (concourseref01_Decimal.c _ h1083) <| gr H fun g1084 H => bn0 rfl rfl rfl (run_cat g1084) <| fb rfl trivial rfl fa26_0 <| ld 1 rfl trivial rfl sc9 rfl rfl <| mv0 rfl rfl <| mv0 rfl rfl <| mv0 rfl rfl <| gr H fun g1085 H => ?_
  have h1086 : x1079.toNat < t1033.length := idx_lt g1085
  refine Dv.ixw rfl trivial rfl (mem_at 2 rfl) rfl Tryz.underlying29 Tryz.underlying9 c9 g1085.1 g1085.2 <| Dv.ldw (j := x1079.toNat) (f := 0) (p := vS (t1033.getD x1079.toNat default)) rfl trivial rfl (mem_at 2 rfl) h1086 Tryz.underlying9 rfl rfl <| Dv.lit strK ([t1033.getD x1079.toNat default] : List ByteArray) (css := [[vS (t1033.getD x1079.toNat default)]]) rfl trivial Tryz.underlying29 Tryz.underlying9 c9 z9 rfl (by decide) (by decide) rfl ⟨(cells_one (one_eq rfl)), trivial⟩ rfl rfl rfl <| Dv.bld (css := [[vS ((⟨#[36, 121]⟩ : ByteArray) ++ t1082)], [vS t1019.2.fRoom], [vS t1024], [sl strK ([t1033.getD x1079.toNat default] : List ByteArray)]]) rfl trivial Tryz.underlying43 pl43 z43 rfl ⟨(cells_one (one_eq rfl)), ⟨(cells_one (one_eq rfl)), ⟨(cells_one (one_eq rfl)), ⟨(cells_one one_sl), trivial⟩⟩⟩⟩ rfl rfl <| al rfl trivial zc43 (fun _ => (pend_in (fun _ => trivial) (pend_in (fun _ => trivial) (pend_in (fun _ => (mem_at 3 rfl)) (pend_in (fun _ => (mem_at 3 rfl)) (pend_in (fun _ => trivial) (pend_in (fun _ => trivial) (pend_in (fun _ => trivial) (pend_in (fun _ => (mem_at 2 rfl)) (pend_in (fun _ => trivial) (pend_in (fun _ => trivial) (pend_in (fun _ => trivial) (pend_in (fun _ => trivial) pend_nil))))))))))))) fun b1087 => sx 0 rfl trivial rfl rfl cA sz43 rfl rfl rfl pB ?_
  refine .fin <| WP.seq <| WP.seq <| rg 2 0 <| mv0 rfl rfl <| bn0 rfl rfl rfl run_gt <| .fin <| cd H rfl (fun _ H => ?_) (fun _ H => ?_)
  rotate_left
  ·
   refine WP.skip <| WP.seq <| WP.seq <| rg 4 4 <| mv0 rfl rfl <| lds 0 rfl trivial rfl sg43 rfl rfl <| el H fun t1100 h1101 H => cx 6 [4,0,1,2,3,5] cal17 (dag_Dag_Add.c h1101 (p0_ := g1021)) nofun fun _ _ => ?_
   refine bn0 rfl rfl rfl run_ne <| .fin <| cd H rfl (fun _ H => ?_) (fun _ H => ?_)
   ·
    refine WP.seq <| rg 1 0 <| as0 rfl rfl <| .fin ?_
    replace H := Gets.outr H
    obtain rfl := Gets.out H
    exact rt i2 rfl () 6 [0,1,2,3,4,5] 6 (.cons (res_tmp rfl) .nil)
   refine WP.skip <| rg 3 0 <| fb rfl trivial rfl fa43_0 <| ld 1 rfl trivial rfl sc9 rfl rfl <| as0 rfl rfl <| .fin <| rg 3 0 <| mv0 rfl rfl <| bn0 rfl rfl rfl run_add <| as0 rfl rfl <| .fin <| ng (sg 6 [1,2,3,4,0,5] 1) fun _ _ => ?_
   exact bk j1103 ((⟨#[36, 121]⟩ : ByteArray) ++ t1082, w64 (x1079 + 1), t1100.2) H
  refine WP.seq <| rg 2 2 <| fb rfl trivial rfl fa43_2 <| sx 0 rfl trivial rfl rfl cE sz29 rfl rfl rfl nofun ?_
  refine .fin <| WP.seq <| dg Tryz.checked.mixed 9 320 <| fb rfl trivial rfl fa43_2 <| ld 0 rfl trivial rfl sc29 rfl rfl <| mv0 rfl rfl <| mv0 rfl rfl <| gr H fun g1089 H => ?_
  have h1090 : x1079.toNat < t1033.length := idx_lt g1089
  refine Dv.ixw rfl trivial rfl (mem_at 3 rfl) rfl Tryz.underlying29 Tryz.underlying9 c9 g1089.1 g1089.2 <| Dv.ldw (j := x1079.toNat) (f := 0) (p := vS (t1033.getD x1079.toNat default)) rfl trivial rfl (mem_at 3 rfl) h1090 Tryz.underlying9 rfl rfl <| el H fun t1091 h1092 H => cx 6 [0,1,2,3,4,5] cal22 (Tr.weak (concourseref09_Put.c h1092) (.cons wk_nil (.cons wk_id .nil))) pC fun g1093 _ => ?_
  refine fb rfl trivial rfl fa43_2 <| sx 1 rfl trivial rfl rfl (cells_one one_ov) sz29 rfl rfl rfl pB ?_
  refine .fin <| rg 6 40 <| fb rfl trivial rfl fa43_2 <| ld 1 rfl trivial rfl sc29 rfl rfl <| mv0 rfl rfl <| el H fun t1094 h1095 H => cx 7 [0,1,2,3,4,5,6] cal22 (Tr.lend [own strK g1093.1 t1091] (concourseref09_Put.c h1095) (.cons (lt_own (mem_at 0 rfl)) (.cons lt_id .nil)) (fun _ => flat_eq) (fun _ => (flatAs_cons (flatA_own flatK_str) flatAs_nil))) nofun fun g1096 _ => ?_
  refine fb rfl trivial rfl fa43_2 <| sx 2 rfl trivial rfl rfl (cells_one one_ov) sz29 rfl rfl rfl nofun ?_
  refine .fin <| WP.seq <| WP.seq <| rg 4 4 <| mv0 rfl rfl <| lds 2 rfl trivial rfl sg43 rfl rfl <| Dv.gh (gh_frz (E' := [(0, sl GMade.K a0), (1, vI a1), (2, vB a2), (6, vB false), (7, eq g1021.1), (8, eq (.pointer (some ⟨b1022, 0, none⟩))), (9, vS t1024), (10, eq g1030.1), (11, eq (.pointer (some ⟨b1031, 0, none⟩))), (12, eq g1035.1), (13, vS x1078), (14, vI x1079), (15, eq (.pointer (some ⟨b1087, 0, none⟩))), (24, vB t1019.1.isNone), (33, vB a2), (40, vB (decide (x1079 < (t1033.length : Int)))), (56, vB (decide (0 < x1079))), (71, eq g1021.1), (72, agg [vS ((⟨#[36, 121]⟩ : ByteArray) ++ t1082), vS t1019.2.fRoom, sl strK t1094, vS (⟨#[]⟩ : ByteArray), vS t1024, vI 0])]) (l' := [own strK g1093.1 t1091, blk b1087 43 [vS ((⟨#[36, 121]⟩ : ByteArray) ++ t1082), vS t1019.2.fRoom, sl strK t1094, vS (⟨#[]⟩ : ByteArray), vS t1024, vI 0], blk b1031 43 [vS (⟨#[36, 122]⟩ : ByteArray), vS t1019.2.fRoom, eq (.slice none 0 0), vS (⟨#[]⟩ : ByteArray), vS t1024, vI p1032], blk b1022 26 (RDag.enc t1019.2), own strK g1035.1 t1033, DDag.O g1021 x1080, own strK g1030.1 t1028] ++ F) 1 rfl (cve_cons rfl cv_id (cve_cons rfl cv_id (cve_cons rfl cv_id (cve_cons rfl cv_id (cve_cons rfl cv_id (cve_cons rfl cv_id (cve_cons rfl cv_id (cve_cons rfl cv_id (cve_cons rfl cv_id (cve_cons rfl cv_id (cve_cons rfl cv_id (cve_cons rfl cv_id (cve_cons rfl cv_id (cve_cons rfl cv_id (cve_cons rfl cv_id (cve_cons rfl cv_id (cve_cons rfl cv_id (cve_cons rfl cv_id (cve_cons rfl (cv_agg (.cons cv_id (.cons cv_id (.cons cv_eq (.cons cv_id (.cons cv_id (.cons cv_id .nil))))))) cve_nil))))))))))))))))))) (all2_app (.cons cva_id (.cons (cva_blk (.cons cv_id (.cons cv_id (.cons cv_eq (.cons cv_id (.cons cv_id (.cons cv_id .nil))))))) (.cons cva_id (.cons cva_id (.cons cva_id (.cons cva_id (.cons cva_id .nil))))))) fun _ => cva_id)) (fun _ _ => ?_)
  refine el H fun t1097 h1098 H => cx 7 [5,0,1,2,3,4,6] cal17 (dag_Dag_Add.c h1098 (p0_ := g1021)) nofun fun _ _ => ?_
  refine bn0 rfl rfl rfl run_ne <| .fin <| cd H rfl (fun _ H => ?_) (fun _ H => ?_)
  ·
   refine WP.seq <| rg 1 0 <| as0 rfl rfl <| .fin ?_
   replace H := Gets.outr H
   obtain rfl := Gets.out H
   exact rt i2 rfl () 7 [0,1,2,3,4,5,6] 7 (.cons (res_tmp rfl) .nil)
  refine WP.skip <| rg 3 0 <| fb rfl trivial rfl fa43_0 <| ld 2 rfl trivial rfl sc9 rfl rfl <| as0 rfl rfl <| .fin <| rg 3 0 <| mv0 rfl rfl <| bn0 rfl rfl rfl run_add <| as0 rfl rfl <| .fin <| ng (sg 7 [1,2,3,4,5,0,6] 2) fun _ _ => ?_
  exact bk j1103 ((⟨#[36, 121]⟩ : ByteArray) ++ t1082, w64 (x1079 + 1), t1097.2) H
 refine WP.seqn H id (fun p1037 : (List ByteArray) => [(0, sl GMade.K a0), (1, vI a1), (2, vB a2), (6, vB false), (7, eq g1021.1), (8, eq (.pointer (some ⟨b1022, 0, none⟩))), (9, vS t1024), (10, eq g1030.1), (11, eq (.pointer (some ⟨b1031, 0, none⟩))), (12, eq g1035.1), (13, vS p1036.1), (14, vI p1036.2.1), (24, vB t1019.1.isNone), (33, vB a2), (40, vB p1036.2.2.1), (78, vB (!decide (p1036.1 = (⟨#[]⟩ : ByteArray))))]) (fun p1037 : (List ByteArray) => [blk b1031 43 [vS (⟨#[36, 122]⟩ : ByteArray), vS t1019.2.fRoom, sl strK p1037, vS (⟨#[]⟩ : ByteArray), vS t1024, vI p1032], blk b1022 26 (RDag.enc t1019.2), own strK g1035.1 t1033, DDag.O g1021 p1036.2.2.2, own strK g1030.1 t1028] ++ F) (fun p1037 H => ?_) (fun H => ?_)
 rotate_left
 ·
  refine WP.seq <| rg 2 0 <| mv0 rfl rfl <| bn0 rfl rfl rfl run_sne <| .fin <| cd H rfl (fun _ H => ?_) (fun _ H => ?_)
  ·
   refine rg 4 8 <| mv0 rfl rfl <| Dv.lit strK ([p1036.1] : List ByteArray) (css := [[vS p1036.1]]) rfl trivial Tryz.underlying29 Tryz.underlying9 c9 z9 rfl (by decide) (by decide) rfl ⟨(cells_one (one_eq rfl)), trivial⟩ rfl rfl rfl <| fb rfl trivial rfl fa43_2 <| sx 0 rfl trivial rfl rfl (cells_one one_sl) sz29 rfl rfl rfl nofun ?_
   refine .fin ?_
   replace H := Gets.out H
   exact jn ([p1036.1] : List ByteArray) H
  refine WP.skip ?_
  replace H := Gets.out H
  refine Dn.gh (gh_wk (E' := [(0, sl GMade.K a0), (1, vI a1), (2, vB a2), (6, vB false), (7, eq g1021.1), (8, eq (.pointer (some ⟨b1022, 0, none⟩))), (9, vS t1024), (10, eq g1030.1), (11, eq (.pointer (some ⟨b1031, 0, none⟩))), (12, eq g1035.1), (13, vS p1036.1), (14, vI p1036.2.1), (24, vB t1019.1.isNone), (33, vB a2), (40, vB p1036.2.2.1), (78, vB (!decide (p1036.1 = (⟨#[]⟩ : ByteArray))))]) (l' := [blk b1031 43 [vS (⟨#[36, 122]⟩ : ByteArray), vS t1019.2.fRoom, sl strK ([] : List ByteArray), vS (⟨#[]⟩ : ByteArray), vS t1024, vI p1032], blk b1022 26 (RDag.enc t1019.2), own strK g1035.1 t1033, DDag.O g1021 p1036.2.2.2, own strK g1030.1 t1028] ++ F) (wke_cons rfl wk_id (wke_cons rfl wk_id (wke_cons rfl wk_id (wke_cons rfl wk_id (wke_cons rfl wk_id (wke_cons rfl wk_id (wke_cons rfl wk_id (wke_cons rfl wk_id (wke_cons rfl wk_id (wke_cons rfl wk_id (wke_cons rfl wk_id (wke_cons rfl wk_id (wke_cons rfl wk_id (wke_cons rfl wk_id (wke_cons rfl wk_id (wke_cons rfl wk_id wke_nil)))))))))))))))) (all2_app (.cons (wka_blk (.cons wk_id (.cons wk_id (.cons wk_nil (.cons wk_id (.cons wk_id (.cons wk_id .nil))))))) (.cons wka_id (.cons wka_id (.cons wka_id (.cons wka_id .nil))))) fun _ => wka_id)) (fun _ _ => ?_)
  exact jn ([] : List ByteArray) H
 refine WP.seq <| WP.seq <| rg 4 4 <| mv0 rfl rfl <| lds 0 rfl trivial rfl sg43 rfl rfl <| el H fun t1038 h1039 H => cx 5 [3,0,1,2,4] cal17 (dag_Dag_Add.c h1039 (p0_ := g1021)) nofun fun _ _ => ?_
 refine bn0 rfl rfl rfl run_ne <| .fin <| cd H rfl (fun _ H => ?_) (fun _ H => ?_)
 ·
  refine WP.seq <| rg 1 0 <| as0 rfl rfl <| .fin ?_
  obtain rfl := Gets.out H
  exact rt i2 rfl () 5 [0,1,2,3,4] 5 (.cons (res_tmp rfl) .nil)
 refine WP.skip <| WP.seq <| rg 1 0 <| as0 rfl rfl <| .fin <| WP.seqn H (fun q1076 : (Int × Bool × (List ByteArray)) × OV => q1076.1) (fun q1076 : (Int × Bool × (List ByteArray)) × OV => [(0, sl GMade.K a0), (1, vI a1), (2, vB a2), (6, vB false), (7, eq g1021.1), (8, eq (.pointer (some ⟨b1022, 0, none⟩))), (9, vS t1024), (10, eq g1030.1), (11, eq (.pointer (some ⟨b1031, 0, none⟩))), (12, eq g1035.1), (13, vS p1036.1), (14, vI p1036.2.1), (16, eq q1076.2.1), (17, vI q1076.1.1), (24, vB t1019.1.isNone), (33, vB a2), (40, vB p1036.2.2.1), (78, vB (!decide (p1036.1 = (⟨#[]⟩ : ByteArray)))), (85, vB (t1038.1 != 0)), (89, vB q1076.1.2.1)]) (fun q1076 : (Int × Bool × (List ByteArray)) × OV => [blk b1031 43 [vS (⟨#[36, 122]⟩ : ByteArray), vS t1019.2.fRoom, sl strK p1037, vS (⟨#[]⟩ : ByteArray), vS t1024, vI p1032], blk b1022 26 (RDag.enc t1019.2), DDag.O g1021 t1038.2, own strK g1035.1 t1033, own strK g1030.1 t1028, own strK q1076.2.1 q1076.1.2.2] ++ F) (fun q1076 H => ?_) (fun H => ?_)
 rotate_left
 ·
  refine WP.seq <| rg 1 0 <| as0 rfl rfl <| .fin <| WP.block <| wg (st_nil strK none) fun _ _ => ?_
  refine wg (sg 6 [2,3,1,4,5,0] 0) fun _ _ => ?_
  refine lp (fun j_ (p1075 : Int × (List ByteArray) × OV) => concourselaw09_MemberSteps.l0 k t1024 t1028 j_ p1075.1 p1075.2.1) (0, ([] : List ByteArray), nilV) H (fun p1075 => [(0, sl GMade.K a0), (1, vI a1), (2, vB a2), (6, vB false), (7, eq g1021.1), (8, eq (.pointer (some ⟨b1022, 0, none⟩))), (9, vS t1024), (10, eq g1030.1), (11, eq (.pointer (some ⟨b1031, 0, none⟩))), (12, eq g1035.1), (13, vS p1036.1), (14, vI p1036.2.1), (16, eq p1075.2.2.1), (17, vI p1075.1), (24, vB t1019.1.isNone), (33, vB a2), (40, vB p1036.2.2.1), (78, vB (!decide (p1036.1 = (⟨#[]⟩ : ByteArray)))), (85, vB (t1038.1 != 0))]) (fun p1075 => [blk b1031 43 [vS (⟨#[36, 122]⟩ : ByteArray), vS t1019.2.fRoom, sl strK p1037, vS (⟨#[]⟩ : ByteArray), vS t1024, vI p1032], blk b1022 26 (RDag.enc t1019.2), DDag.O g1021 t1038.2, own strK g1035.1 t1033, own strK g1030.1 t1028, own strK p1075.2.2.1 p1075.2.1] ++ F) ?_
  rintro j_ ⟨x1063, x1064, v1065⟩ H
  rcases j_ with _ | j1074
  ·
   exact (Gets.no H).elim
  replace H : Gets (concourselaw09_MemberSteps.l0 k t1024 t1028 (j1074 + 1) x1063 x1064) _ := H
  rw [concourselaw09_MemberSteps.l0] at H
  refine WP.seq <| WP.seq <| rg 4 0 <| mv0 rfl rfl <| mv0 rfl rfl <| Dv.lenw rfl trivial rfl (mem_at 4 rfl) Tryz.underlying29 <| bn0 rfl rfl rfl run_lt <| .fin <| cd H rfl (fun _ H => ?_) (fun _ H => ?_)
  rotate_left
  ·
   refine WP.exit ?_
   replace H := Gets.out H
   exact jn ((x1063, decide (x1063 < (t1028.length : Int)), x1064), v1065) H
  refine WP.skip <| WP.seq <| WP.block <| WP.seq <| rg 6 0 <| mv0 rfl rfl <| mv0 rfl rfl <| gr H fun g1067 H => ?_
  have h1068 : x1063.toNat < t1028.length := idx_lt g1067
  refine Dv.ixw rfl trivial rfl (mem_at 4 rfl) rfl Tryz.underlying29 Tryz.underlying9 c9 g1067.1 g1067.2 <| Dv.ldw (j := x1063.toNat) (f := 0) (p := vS (t1028.getD x1063.toNat default)) rfl trivial rfl (mem_at 4 rfl) h1068 Tryz.underlying9 rfl rfl <| mv0 rfl rfl <| bn0 rfl rfl rfl run_sne <| .fin <| cd H rfl (fun _ H => ?_) (fun _ H => ?_)
  rotate_left
  ·
   exact WP.skip <| rg 3 0 <| mv0 rfl rfl <| bn0 rfl rfl rfl run_add <| as0 rfl rfl <| .fin <| bk j1074 (w64 (x1063 + 1), x1064, v1065) H
  refine rg 8 64 <| mv0 rfl rfl <| mv0 rfl rfl <| mv0 rfl rfl <| gr H fun g1070 H => ?_
  have h1071 : x1063.toNat < t1028.length := idx_lt g1070
  refine Dv.ixw rfl trivial rfl (mem_at 4 rfl) rfl Tryz.underlying29 Tryz.underlying9 c9 g1070.1 g1070.2 <| Dv.ldw (j := x1063.toNat) (f := 0) (p := vS (t1028.getD x1063.toNat default)) rfl trivial rfl (mem_at 4 rfl) h1071 Tryz.underlying9 rfl rfl <| Dv.lit strK ([t1028.getD x1063.toNat default] : List ByteArray) (css := [[vS (t1028.getD x1063.toNat default)]]) rfl trivial Tryz.underlying29 Tryz.underlying9 c9 z9 rfl (by decide) (by decide) rfl ⟨(cells_one (one_eq rfl)), trivial⟩ rfl rfl rfl <| gr H fun g1072 H => ap strK 5 ([t1028.getD x1063.toNat default] : List ByteArray) src_sl Tryz.underlying29 (.inr ⟨_, Tryz.underlying29⟩) inf9 g1072 nofun fun v1073 => ?_
  exact as0 rfl rfl <| .fin <| rg 3 0 <| mv0 rfl rfl <| bn0 rfl rfl rfl run_add <| as0 rfl rfl <| .fin <| bk j1074 (w64 (x1063 + 1), x1064 ++ ([t1028.getD x1063.toNat default] : List ByteArray), v1073) H
 obtain ⟨p1041, v1042⟩ := q1076
 refine WP.seqn H (fun q1062 : (List ByteArray) × OV => q1062.1) (fun q1062 : (List ByteArray) × OV => [(0, sl GMade.K a0), (1, vI a1), (2, vB a2), (6, vB false), (7, eq g1021.1), (8, eq (.pointer (some ⟨b1022, 0, none⟩))), (9, vS t1024), (10, eq g1030.1), (11, eq (.pointer (some ⟨b1031, 0, none⟩))), (12, eq g1035.1), (13, vS p1036.1), (14, vI p1036.2.1), (16, eq q1062.2.1), (17, vI p1041.1), (24, vB t1019.1.isNone), (33, vB a2), (40, vB p1036.2.2.1), (78, vB (!decide (p1036.1 = (⟨#[]⟩ : ByteArray)))), (85, vB (t1038.1 != 0)), (89, vB p1041.2.1), (105, vB a2)]) (fun q1062 : (List ByteArray) × OV => [blk b1031 43 [vS (⟨#[36, 122]⟩ : ByteArray), vS t1019.2.fRoom, sl strK p1037, vS (⟨#[]⟩ : ByteArray), vS t1024, vI p1032], blk b1022 26 (RDag.enc t1019.2), DDag.O g1021 t1038.2, own strK g1035.1 t1033, own strK g1030.1 t1028, own strK q1062.2.1 q1062.1] ++ F) (fun q1062 H => ?_) (fun H => ?_)
 rotate_left
 ·
  refine WP.seq <| rg 1 0 <| mv0 rfl rfl <| .fin <| cd H rfl (fun _ H => ?_) (fun _ H => ?_)
  rotate_left
  ·
   refine WP.skip ?_
   replace H := Gets.out H
   exact jn (p1041.2.2, v1042) H
  refine rg 4 4 <| mv0 rfl rfl <| mv0 rfl rfl <| el H fun t1059 h1060 H => cx 6 [5,0,1,2,3,4] cal22 (Tr.lend [own strK v1042.1 p1041.2.2] (concourseref09_Put.c h1060) (.cons (lt_own (mem_at 0 rfl)) (.cons lt_id .nil)) (fun _ => flat_eq) (fun _ => (flatAs_cons (flatA_own flatK_str) flatAs_nil))) nofun fun g1061 _ => ?_
  refine as0 rfl rfl <| .fin ?_
  replace H := Gets.out H
  refine ng (sg 7 [0,2,3,4,5,6,1] 1) fun _ _ => ?_
  exact jn (t1059, g1061) H
 obtain ⟨p1043, v1044⟩ := q1062
 refine WP.seq <| rg 15 128 <| mv0 rfl rfl <| mv0 rfl rfl <| vg (DDag.opn 2 rfl) fun g1045 h1046 => ?_
 refine el H fun t1047 h1048 H => cll 7 [0,1,2,3,4,5,6] cal23 (Tr.weak (member_Joined.c h1048 (b0_ := g1045.1) (v0_0 := g1045.2)) (.cons (wk_ptr h1046) (.cons wk_id .nil))) ?_
 refine mv0 rfl rfl <| bn0 rfl rfl rfl (run_beq Tryz.underlying4) <| mv0 rfl rfl ?_
 cases c1049 : (t1047 == a2)
 ·
  replace H := Gets.cf H c1049
  refine sk rfl rfl <| Dv.skipb rfl ⟨_, _, rfl, rfl, .inl rfl⟩ nofun <| sk rfl rfl <| sk rfl rfl <| pf0 rfl rfl rfl <| mv0 rfl rfl <| sk rfl rfl <| pf0 rfl rfl rfl <| as0 rfl rfl <| .fin <| wg (DDag.shut (p := g1021) (m := t1038.2) (g1045.1, g1045.2) h1046 (pm 7 [0,1,2,3,4,5,6])) fun _ _ => ?_
  obtain rfl := Gets.out H
  exact rt i2 rfl () 6 [0,1,2,3,4,5] 6 (.cons (res_tmp rfl) .nil)
 replace H := Gets.ct H c1049
 refine mvg rfl rfl rfl <| el H fun t1050 h1051 H => cx 7 [0,1,2,3,4,5,6] cal18 (Tr.weak (member_Users.c h1051 (b0_ := g1045.1) (v0_0 := g1045.2)) (.cons (wk_ptr h1046) .nil)) nofun fun g1052 _ => ?_
 refine mvg rfl rfl rfl <| el H fun t1053 h1054 H => cll (B := [own strK g1052.1 t1050, own strK v1044.1 p1043]) 8 [2,7,0,1,3,4,5,6] cal13 (Pt.lend _ (concourseref01_SameTexts.c h1054) (.cons (lt_own (mem_at 0 rfl)) (.cons (lt_own (mem_at 1 rfl)) .nil)) flat_eq) ?_
 refine pt0 rfl rfl rfl <| mv0 rfl rfl ?_
 cases c1055 : t1053
 ·
  replace H := Gets.cf H c1055
  refine sk rfl rfl <| pf0 rfl rfl rfl <| as0 rfl rfl <| .fin <| wg (DDag.shut (p := g1021) (m := t1038.2) (g1045.1, g1045.2) h1046 (pm 8 [0,1,2,3,4,5,6,7])) fun _ _ => ?_
  obtain rfl := Gets.out H
  exact rt i2 rfl () 7 [0,1,2,3,4,5,6] 7 (.cons (res_tmp rfl) .nil)
 replace H := Gets.ct H c1055
 refine el H fun t1056 h1057 H => Dv.call rfl (gg rfl) cal15 rfl (concourselaw09_lives.c h1057) <| pt0 rfl rfl rfl <| as0 rfl rfl <| .fin <| wg (DDag.shut (p := g1021) (m := t1038.2) (g1045.1, g1045.2) h1046 (pm 8 [0,1,2,3,4,5,6,7])) fun _ _ => ?_
 obtain rfl := Gets.out H
 exact rt i2 rfl () 7 [0,1,2,3,4,5,6] 7 (.cons (res_tmp rfl) .nil)
end Go.Proofs.YtdbinmknbmlddaaGreat
