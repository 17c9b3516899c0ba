/- The walks. -/
import Derived.Test.YtegmafgodoikiaaGreatZWalks1
import Derived.Test.YtegmafgodoikiaaGreatConQ
import Derived.Eval
set_option linter.all false
set_option maxRecDepth 10000
set_option maxHeartbeats 20000000
namespace Go.Proofs.YtegmafgodoikiaaGreat
open Go Go.Sp
theorem concourseref15_Turned.c {k : Nat} {a0 : TRef} {a1 : Int} {r : TRef × (List ByteArray)} (h : concourseref15_Turned.f k a0 a1 = some r) : Tr Tryz.prog 25 [agg (TRef.enc a0), vI a1] [] (γ := OV) (fun _ => True) (fun g => tup [agg (TRef.enc r.1), eq g.1]) (fun g => [own strK g.1 r.2]) := by
 unfold concourseref15_Turned.f at h
 refine Tr.body Tryz.func25 (c := _) rfl Tryz.ntmps25 (Nat.le_of_ble_eq_true rfl) fun R0 F => ?_
 replace h := Gets.of h
 have H := h
 clear h
 refine WP.seq <| rg 3 3 <| Dv.box rfl trivial rfl cA nofun fun b927 => al rfl trivial zc27 nofun fun b928 => as0 rfl rfl <| .fin <| WP.seq <| rg 1 0 <| as0 rfl rfl <| .fin <| WP.seq <| rg 5 8 <| fb rfl trivial rfl fa27_0 <| ld 1 rfl trivial rfl sc22 rfl rfl <| Dv.lenl rfl trivial rfl Tryz.underlying22 <| gr H fun g929 H => ?_
 obtain ⟨ti930, ti930a, ti930b, ti930c, ti930d⟩ := inf3
 refine Dv.mks (Kd := (intK .i64)) (0 : Int) rfl trivial rfl rfl Tryz.underlying25 ti930a ti930b ti930c ti930d rfl (by decide) rfl g929 nofun (fun v931 => ?_)
 refine as0 rfl rfl <| .fin <| WP.seqn H (fun q965 : (Int × Bool × (List Int) × (List ByteArray)) × OV => q965.1) (fun q965 : (Int × Bool × (List Int) × (List ByteArray)) × OV => [(0, agg (TRef.enc a0)), (1, vI a1), (2, eq (.pointer (some ⟨b927, 0, none⟩))), (4, eq (.pointer (some ⟨b928, 0, none⟩))), (5, eq (.slice none 0 0)), (6, eq q965.2.1), (7, eq v931.1), (8, vI q965.1.1), (20, vB q965.1.2.1)]) (fun q965 : (Int × Bool × (List Int) × (List ByteArray)) × OV => [blk b928 27 [eq (.slice none 0 0), eq (.slice none 0 0)], blk b927 27 (TRef.enc a0), own (intK .i64) v931.1 q965.1.2.2.1, own strK q965.2.1 q965.1.2.2.2] ++ F) (fun q965 H => ?_) (fun H => ?_)
 ·
  obtain ⟨p932, v933⟩ := q965
  refine WP.seq <| rg 7 32 <| fb rfl trivial rfl fa27_0 <| ld 1 rfl trivial rfl sc22 rfl rfl <| mv0 rfl rfl <| Dv.bld (css := [[sl Edu.K a0.fL], [eq v931.1]]) rfl trivial Tryz.underlying27 pl27 z27 rfl ⟨(cells_one one_sl), ⟨(cells_one one_ov), trivial⟩⟩ rfl rfl <| mv0 rfl rfl <| sx 0 rfl trivial rfl rfl cA sz27 rfl rfl rfl nofun ?_
  refine as0 rfl rfl <| .fin <| WP.gh (gh_frz (E' := [(4, eq (.pointer (some ⟨b928, 0, none⟩))), (5, eq v933.1)]) (l' := [blk b928 27 [sl Edu.K a0.fL, sl (intK .i64) p932.2.2.1], blk b927 27 (TRef.enc a0), own strK v933.1 p932.2.2.2] ++ F) 2 rfl (cve_cons rfl cv_id (cve_cons rfl cv_id cve_nil)) (all2_app (.cons (cva_blk (.cons cv_id (.cons cv_eq .nil))) (.cons cva_id (.cons cva_id .nil))) fun _ => cva_id)) (fun _ _ => ?_)
  obtain rfl := Gets.out H
  exact rt i2 rfl v933 3 [0,1,2] 2 (.cons (res_cells rfl Tryz.underlying27 rfl c27 (mem_at 0 rfl) rfl) (.cons (res_tmp rfl) .nil))
 refine WP.seq <| rg 1 0 <| as0 rfl rfl <| .fin <| WP.block <| wg (st_nil strK none) fun _ _ => ?_
 refine wg (sg 4 [2,3,1,0] 0) fun _ _ => ?_
 refine lp (fun j_ (p964 : Int × (List Int) × (List ByteArray) × OV) => concourseref15_Turned.l0 k a0 a1 j_ p964.1 p964.2.1 p964.2.2.1) (0, List.replicate (a0.fL.length : Int).toNat (0 : Int), ([] : List ByteArray), nilV) H (fun p964 => [(0, agg (TRef.enc a0)), (1, vI a1), (2, eq (.pointer (some ⟨b927, 0, none⟩))), (4, eq (.pointer (some ⟨b928, 0, none⟩))), (5, eq (.slice none 0 0)), (6, eq p964.2.2.2.1), (7, eq v931.1), (8, vI p964.1)]) (fun p964 => [blk b928 27 [eq (.slice none 0 0), eq (.slice none 0 0)], blk b927 27 (TRef.enc a0), own (intK .i64) v931.1 p964.2.1, own strK p964.2.2.2.1 p964.2.2.1] ++ F) ?_
 rintro j_ ⟨x934, x935, x936, v937⟩ H
 rcases j_ with _ | j963
 ·
  exact (Gets.no H).elim
 replace H : Gets (concourseref15_Turned.l0 k a0 a1 (j963 + 1) x934 x935 x936) _ := H
 rw [concourseref15_Turned.l0] at H
 refine WP.seq <| WP.seq <| rg 5 0 <| mv0 rfl rfl <| fb rfl trivial rfl fa27_0 <| ld 1 rfl trivial rfl sc22 rfl rfl <| Dv.lenl rfl trivial rfl Tryz.underlying22 <| bn0 rfl rfl rfl run_lt <| .fin <| cd H rfl (fun _ H => ?_) (fun _ H => ?_)
 rotate_left
 ·
  refine WP.exit ?_
  replace H := Gets.out H
  exact jn ((x934, decide (x934 < (a0.fL.length : Int)), x935, x936), v937) H
 refine WP.skip <| WP.seqn H (fun q962 : ((List Int) × Bool × Int × Bool × Bool × (List ByteArray)) × OV => q962.1) (fun q962 : ((List Int) × Bool × Int × Bool × Bool × (List ByteArray)) × OV => [(0, agg (TRef.enc a0)), (1, vI a1), (2, eq (.pointer (some ⟨b927, 0, none⟩))), (4, eq (.pointer (some ⟨b928, 0, none⟩))), (5, eq (.slice none 0 0)), (6, eq q962.2.1), (7, eq v931.1), (8, vI x934), (9, sl (intK .i64) q962.1.1), (10, vB q962.1.2.1), (11, vI q962.1.2.2.1), (20, vB (decide (x934 < (a0.fL.length : Int)))), (42, vB q962.1.2.2.2.1), (66, vB q962.1.2.2.2.2.1)]) (fun q962 : ((List Int) × Bool × Int × Bool × Bool × (List ByteArray)) × OV => [blk b928 27 [eq (.slice none 0 0), eq (.slice none 0 0)], blk b927 27 (TRef.enc a0), own (intK .i64) v931.1 (x935.set x934.toNat (max ((intK .i64).at a0.fTold x934) a1)), own strK q962.2.1 q962.1.2.2.2.2.2] ++ F) (fun q962 H => ?_) (fun H => ?_)
 ·
  obtain ⟨p939, v940⟩ := q962
  exact rg 3 0 <| mv0 rfl rfl <| bn0 rfl rfl rfl run_add <| as0 rfl rfl <| .fin <| bk j963 (w64 (x934 + 1), x935.set x934.toNat (max ((intK .i64).at a0.fTold x934) a1), p939.2.2.2.2.2, v940) H
 refine WP.block <| WP.seq <| rg 11 1024 <| mv0 rfl rfl <| mv0 rfl rfl <| fb rfl trivial rfl fa27_1 <| ld 1 rfl trivial rfl sc25 rfl rfl <| mv0 rfl rfl <| gr H fun g941 H => Dv.ixr rfl trivial rfl rfl Tryz.underlying25 Tryz.underlying3 c3 g941.1 g941.2 <| ldR rfl trivial rfl sc3 rfl <| mv0 rfl rfl <| Dv.maxi rfl trivial rfl rfl <| gr H fun g942 H => ?_
 have h943 : x934.toNat < x935.length := idx_lt g942
 refine Dv.ixw rfl trivial rfl (mem_at 2 rfl) rfl Tryz.underlying25 Tryz.underlying3 c3 g942.1 g942.2 <| Dv.stw (j := x934.toNat) (f := 0) (jj := 2) (max ((intK .i64).at a0.fTold x934) a1) rfl trivial rfl rfl (cells_one (one_eq rfl)) Tryz.underlying3 c3 rfl rfl h943 (Nat.le_of_ble_eq_true rfl) rfl nofun <| .fin <| WP.seq <| rg 7 0 <| fb rfl trivial rfl fa27_0 <| ld 1 rfl trivial rfl sc22 rfl rfl <| mv0 rfl rfl <| gr H fun g944 H => Dv.ixr rfl trivial rfl rfl Tryz.underlying22 Tryz.underlying32 c32 g944.1 g944.2 <| ldsR rfl trivial rfl sg32 rfl <| el H fun t945 h946 H => cl rfl cal45 rfl (concourseref15_turns.c h946) <| as0 rfl rfl <| .fin <| WP.seq <| rg 1 0 <| as0 rfl rfl <| .fin <| WP.seqn H id (fun p947 : Bool × Int × Bool => [(0, agg (TRef.enc a0)), (1, vI a1), (2, eq (.pointer (some ⟨b927, 0, none⟩))), (4, eq (.pointer (some ⟨b928, 0, none⟩))), (5, eq (.slice none 0 0)), (6, eq v937.1), (7, eq v931.1), (8, vI x934), (9, sl (intK .i64) t945), (10, vB p947.1), (11, vI p947.2.1), (20, vB (decide (x934 < (a0.fL.length : Int)))), (42, vB p947.2.2)]) (fun p947 : Bool × Int × Bool => [blk b928 27 [eq (.slice none 0 0), eq (.slice none 0 0)], blk b927 27 (TRef.enc a0), own (intK .i64) v931.1 (x935.set x934.toNat (max ((intK .i64).at a0.fTold x934) a1)), own strK v937.1 x936] ++ F) (fun p947 H => ?_) (fun H => ?_)
 ·
  refine WP.seq <| rg 1 0 <| mv0 rfl rfl <| .fin <| cd H rfl (fun _ H => ?_) (fun _ H => ?_)
  rotate_left
  ·
   refine WP.skip ?_
   replace H := Gets.out H
   exact jn ((t945, p947.1, p947.2.1, p947.2.2, p947.1, x936), v937) H
  refine rg 10 256 <| mv0 rfl rfl <| fb rfl trivial rfl fa27_0 <| ld 1 rfl trivial rfl sc22 rfl rfl <| mv0 rfl rfl <| gr H fun g949 H => Dv.ixr rfl trivial rfl rfl Tryz.underlying22 Tryz.underlying32 c32 g949.1 g949.2 <| fr rfl trivial rfl fa32_2 rfl <| ldR rfl trivial rfl sc9 rfl <| Dv.lit strK ([(Edu.K.at a0.fL x934).fUser] : List ByteArray) (css := [[vS ((Edu.K.at a0.fL x934).fUser)]]) rfl trivial Tryz.underlying39 Tryz.underlying9 c9 z9 rfl (by decide) (by decide) rfl ⟨(cells_one (one_eq rfl)), trivial⟩ rfl rfl rfl <| gr H fun g950 H => ap strK 3 ([(Edu.K.at a0.fL x934).fUser] : List ByteArray) src_sl Tryz.underlying39 (.inr ⟨_, Tryz.underlying39⟩) inf9 g950 nofun fun v951 => ?_
  refine as0 rfl rfl <| .fin ?_
  replace H := Gets.out H
  exact jn ((t945, p947.1, p947.2.1, p947.2.2, p947.1, x936 ++ ([(Edu.K.at a0.fL x934).fUser] : List ByteArray)), v951) H
 refine WP.seq <| rg 1 0 <| as0 rfl rfl <| .fin <| WP.block <| wg (sg 4 [0,1,2,3] 0) fun _ _ => ?_
 refine lp (fun j_ (p961 : Bool × Int) => concourseref15_Turned.l1 k a0 a1 x934 t945 j_ p961.1 p961.2) (false, 0) H (fun p961 => [(0, agg (TRef.enc a0)), (1, vI a1), (2, eq (.pointer (some ⟨b927, 0, none⟩))), (4, eq (.pointer (some ⟨b928, 0, none⟩))), (5, eq (.slice none 0 0)), (6, eq v937.1), (7, eq v931.1), (8, vI x934), (9, sl (intK .i64) t945), (10, vB p961.1), (11, vI p961.2), (20, vB (decide (x934 < (a0.fL.length : Int))))]) (fun p961 => [blk b928 27 [eq (.slice none 0 0), eq (.slice none 0 0)], blk b927 27 (TRef.enc a0), own (intK .i64) v931.1 (x935.set x934.toNat (max ((intK .i64).at a0.fTold x934) a1)), own strK v937.1 x936] ++ F) ?_
 rintro j_ ⟨x952, x953⟩ H
 rcases j_ with _ | j960
 ·
  exact (Gets.no H).elim
 replace H : Gets (concourseref15_Turned.l1 k a0 a1 x934 t945 (j960 + 1) x952 x953) _ := H
 rw [concourseref15_Turned.l1] at H
 refine WP.seq <| WP.seq <| rg 4 0 <| mv0 rfl rfl <| mv0 rfl rfl <| Dv.lenl rfl trivial rfl Tryz.underlying25 <| bn0 rfl rfl rfl run_lt <| .fin <| cd H rfl (fun _ H => ?_) (fun _ H => ?_)
 rotate_left
 ·
  refine WP.exit ?_
  replace H := Gets.out H
  exact jn (x952, x953, decide (x953 < (t945.length : Int))) H
 refine WP.skip <| WP.seq <| WP.block <| dg Tryz.checked.mixed 22 0 <| mv0 rfl rfl <| mv0 rfl rfl ?_
 cases c955 : x952
 rotate_left
 ·
  replace H := Gets.ct H c955
  exact sk rfl rfl <| sk rfl rfl <| sk rfl rfl <| sk rfl rfl <| sk rfl rfl <| sk rfl rfl <| sk rfl rfl <| sku rfl rfl <| sku rfl rfl <| sku rfl rfl <| sku rfl rfl <| sku rfl rfl <| sku rfl rfl <| sku rfl rfl <| sku rfl rfl <| sku rfl rfl <| sku rfl rfl <| sk rfl rfl <| pt0 rfl rfl rfl <| as0 rfl rfl <| .fin <| rg 3 0 <| mv0 rfl rfl <| bn0 rfl rfl rfl run_add <| as0 rfl rfl <| .fin <| bk j960 (true, w64 (x953 + 1)) H
 replace H := Gets.cf H c955
 refine mvg rfl rfl rfl <| mvg rfl rfl rfl <| gr H fun g956 H => Dv.ixr rfl (gg rfl) rfl rfl Tryz.underlying25 Tryz.underlying3 c3 g956.1 g956.2 <| ldR rfl (gg rfl) rfl sc3 rfl <| mvg rfl rfl rfl <| bng rfl rfl rfl rfl run_le <| mvg rfl rfl rfl ?_
 cases c957 : decide (((intK .i64).at t945 x953) ≤ a1)
 ·
  replace H := Gets.cf H c957
  exact sk rfl rfl <| sk rfl rfl <| sk rfl rfl <| sk rfl rfl <| sk rfl rfl <| sk rfl rfl <| sk rfl rfl <| sk rfl rfl <| sk rfl rfl <| sk rfl rfl <| pfg rfl rfl rfl rfl <| pf0 rfl rfl rfl <| as0 rfl rfl <| .fin <| rg 3 0 <| mv0 rfl rfl <| bn0 rfl rfl rfl run_add <| as0 rfl rfl <| .fin <| bk j960 (false, w64 (x953 + 1)) H
 replace H := Gets.ct H c957
 exact mvg rfl rfl rfl <| mvg rfl rfl rfl <| gr H fun g958 H => Dv.ixr rfl (gg rfl) rfl rfl Tryz.underlying25 Tryz.underlying3 c3 g958.1 g958.2 <| ldR rfl (gg rfl) rfl sc3 rfl <| fb rfl (gg rfl) rfl fa27_1 <| ld 1 rfl (gg rfl) rfl sc25 rfl rfl <| mvg rfl rfl rfl <| gr H fun g959 H => Dv.ixr rfl (gg rfl) rfl rfl Tryz.underlying25 Tryz.underlying3 c3 g959.1 g959.2 <| ldR rfl (gg rfl) rfl sc3 rfl <| bng rfl rfl rfl rfl run_gt <| ptg rfl rfl rfl rfl <| pf0 rfl rfl rfl <| as0 rfl rfl <| .fin <| rg 3 0 <| mv0 rfl rfl <| bn0 rfl rfl rfl run_add <| as0 rfl rfl <| .fin <| bk j960 (decide (((intK .i64).at a0.fTold x934) < ((intK .i64).at t945 x953)), w64 (x953 + 1)) H
theorem concourseref15_Next.c {k : Nat} {a0 : TRef} {r : Int × Bool} (h : concourseref15_Next.f k a0 = some r) : Pt Tryz.prog 26 [agg (TRef.enc a0)] (tup [vI r.1, vB r.2]) := by
 unfold concourseref15_Next.f at h
 refine (Tr.body Tryz.func26 (c := _) rfl Tryz.ntmps26 (Nat.le_of_ble_eq_true rfl) fun R0 F => ?_).pt
 replace h := Gets.of h
 have H := h
 clear h
 refine WP.seq <| rg 3 1 <| Dv.box rfl trivial rfl cA nofun fun b966 => as0 rfl rfl <| as0 rfl rfl <| .fin <| WP.seq <| rg 1 0 <| as0 rfl rfl <| .fin <| WP.seq <| rg 1 0 <| as0 rfl rfl <| .fin <| WP.seqn H id (fun p967 : Int × Bool × Int × Bool => [(0, agg (TRef.enc a0)), (1, eq (.pointer (some ⟨b966, 0, none⟩))), (2, vI 0), (3, vB false), (4, vI p967.1), (5, vB p967.2.1), (6, vI p967.2.2.1), (13, vB p967.2.2.2)]) (fun p967 : Int × Bool × Int × Bool => [blk b966 27 (TRef.enc a0)] ++ F) (fun p967 H => ?_) (fun H => ?_)
 ·
  refine WP.seq <| rg 4 0 <| mv0 rfl rfl <| mv0 rfl rfl <| as0 rfl rfl <| as0 rfl rfl <| .fin ?_
  obtain rfl := Gets.out H
  exact rt i2 rfl () 1 [0] 1 (.cons (res_tmp rfl) (.cons (res_tmp rfl) .nil))
 refine WP.seq <| rg 1 0 <| as0 rfl rfl <| .fin <| WP.block <| wg (sg 1 [0] 0) fun _ _ => ?_
 refine lp (fun j_ (p993 : Int × Bool × Int) => concourseref15_Next.l0 k a0 j_ p993.1 p993.2.1 p993.2.2) (0, false, 0) H (fun p993 => [(0, agg (TRef.enc a0)), (1, eq (.pointer (some ⟨b966, 0, none⟩))), (2, vI 0), (3, vB false), (4, vI p993.1), (5, vB p993.2.1), (6, vI p993.2.2)]) (fun p993 => [blk b966 27 (TRef.enc a0)] ++ F) ?_
 rintro j_ ⟨x968, x969, x970⟩ H
 rcases j_ with _ | j992
 ·
  exact (Gets.no H).elim
 replace H : Gets (concourseref15_Next.l0 k a0 (j992 + 1) x968 x969 x970) _ := H
 rw [concourseref15_Next.l0] at H
 refine WP.seq <| WP.seq <| rg 5 0 <| mv0 rfl rfl <| fb rfl trivial rfl fa27_0 <| ld 0 rfl trivial rfl sc22 rfl rfl <| Dv.lenl rfl trivial rfl Tryz.underlying22 <| bn0 rfl rfl rfl run_lt <| .fin <| cd H rfl (fun _ H => ?_) (fun _ H => ?_)
 rotate_left
 ·
  refine WP.exit ?_
  replace H := Gets.out H
  exact jn (x968, x969, x970, decide (x970 < (a0.fL.length : Int))) H
 refine WP.skip <| WP.seqn H id (fun p972 : Int × Bool × (List Int) × Int × Bool => [(0, agg (TRef.enc a0)), (1, eq (.pointer (some ⟨b966, 0, none⟩))), (2, vI 0), (3, vB false), (4, vI p972.1), (5, vB p972.2.1), (6, vI x970), (7, sl (intK .i64) p972.2.2.1), (8, vI p972.2.2.2.1), (13, vB (decide (x970 < (a0.fL.length : Int)))), (25, vB p972.2.2.2.2)]) (fun p972 : Int × Bool × (List Int) × Int × Bool => [blk b966 27 (TRef.enc a0)] ++ F) (fun p972 H => ?_) (fun H => ?_)
 ·
  exact rg 3 0 <| mv0 rfl rfl <| bn0 rfl rfl rfl run_add <| as0 rfl rfl <| .fin <| bk j992 (p972.1, p972.2.1, w64 (x970 + 1)) H
 refine WP.block <| WP.seq <| rg 7 0 <| fb rfl trivial rfl fa27_0 <| ld 0 rfl trivial rfl sc22 rfl rfl <| mv0 rfl rfl <| gr H fun g973 H => Dv.ixr rfl trivial rfl rfl Tryz.underlying22 Tryz.underlying32 c32 g973.1 g973.2 <| ldsR rfl trivial rfl sg32 rfl <| el H fun t974 h975 H => cl rfl cal45 rfl (concourseref15_turns.c h975) <| as0 rfl rfl <| .fin <| WP.seq <| rg 1 0 <| as0 rfl rfl <| .fin <| WP.block <| wg (sg 1 [0] 0) fun _ _ => ?_
 refine lp (fun j_ (p991 : Int × Bool × Int) => concourseref15_Next.l1 k a0 x970 t974 j_ p991.1 p991.2.1 p991.2.2) (x968, x969, 0) H (fun p991 => [(0, agg (TRef.enc a0)), (1, eq (.pointer (some ⟨b966, 0, none⟩))), (2, vI 0), (3, vB false), (4, vI p991.1), (5, vB p991.2.1), (6, vI x970), (7, sl (intK .i64) t974), (8, vI p991.2.2), (13, vB (decide (x970 < (a0.fL.length : Int))))]) (fun p991 => [blk b966 27 (TRef.enc a0)] ++ F) ?_
 rintro j_ ⟨x976, x977, x978⟩ H
 rcases j_ with _ | j990
 ·
  exact (Gets.no H).elim
 replace H : Gets (concourseref15_Next.l1 k a0 x970 t974 (j990 + 1) x976 x977 x978) _ := H
 rw [concourseref15_Next.l1] at H
 refine WP.seq <| WP.seq <| rg 4 0 <| mv0 rfl rfl <| mv0 rfl rfl <| Dv.lenl rfl trivial rfl Tryz.underlying25 <| bn0 rfl rfl rfl run_lt <| .fin <| cd H rfl (fun _ H => ?_) (fun _ H => ?_)
 rotate_left
 ·
  refine WP.exit ?_
  replace H := Gets.out H
  exact jn (x976, x977, t974, x978, decide (x978 < (t974.length : Int))) H
 refine WP.skip <| WP.seq <| WP.block <| WP.seq <| dg Tryz.checked.mixed 22 0 <| mv0 rfl rfl <| mv0 rfl rfl <| gr H fun g980 H => Dv.ixr rfl trivial rfl rfl Tryz.underlying25 Tryz.underlying3 c3 g980.1 g980.2 <| ldR rfl trivial rfl sc3 rfl <| fb rfl trivial rfl fa27_1 <| ld 0 rfl trivial rfl sc25 rfl rfl <| mv0 rfl rfl <| gr H fun g981 H => Dv.ixr rfl trivial rfl rfl Tryz.underlying25 Tryz.underlying3 c3 g981.1 g981.2 <| ldR rfl trivial rfl sc3 rfl <| bn0 rfl rfl rfl run_gt <| mv0 rfl rfl ?_
 cases c982 : decide (((intK .i64).at a0.fTold x970) < ((intK .i64).at t974 x978))
 ·
  replace H := Gets.cf H c982
  refine sk rfl rfl <| sk rfl rfl <| sk rfl rfl <| sku rfl rfl <| sku rfl rfl <| sku rfl rfl <| sku rfl rfl <| sku rfl rfl <| sku rfl rfl <| sk rfl rfl <| pf0 rfl rfl rfl <| .fin <| WP.cond rfl nofun (fun _ => ?_)
  exact WP.skip <| rg 3 0 <| mv0 rfl rfl <| bn0 rfl rfl rfl run_add <| as0 rfl rfl <| .fin <| bk j990 (x976, x977, w64 (x978 + 1)) H
 replace H := Gets.ct H c982
 refine mvg rfl rfl rfl <| ung rfl rfl rfl (run_not _) <| mvg rfl rfl rfl ?_
 cases c983 : !x977
 rotate_left
 ·
  replace H := Gets.ct H c983
  refine sk rfl rfl <| sk rfl rfl <| sk rfl rfl <| sk rfl rfl <| sk rfl rfl <| sk rfl rfl <| ptg rfl rfl rfl rfl <| pt0 rfl rfl rfl <| .fin <| WP.cond rfl (fun _ => ?_) nofun
  exact WP.seq <| rg 5 0 <| mv0 rfl rfl <| mv0 rfl rfl <| gr H fun g985 H => Dv.ixr rfl trivial rfl rfl Tryz.underlying25 Tryz.underlying3 c3 g985.1 g985.2 <| ldR rfl trivial rfl sc3 rfl <| as0 rfl rfl <| .fin <| rg 1 0 <| as0 rfl rfl <| .fin <| rg 3 0 <| mv0 rfl rfl <| bn0 rfl rfl rfl run_add <| as0 rfl rfl <| .fin <| bk j990 ((intK .i64).at t974 x978, true, w64 (x978 + 1)) H
 replace H := Gets.cf H c983
 refine mvg rfl rfl rfl <| mvg rfl rfl rfl <| gr H fun g986 H => Dv.ixr rfl (gg rfl) rfl rfl Tryz.underlying25 Tryz.underlying3 c3 g986.1 g986.2 <| ldR rfl (gg rfl) rfl sc3 rfl <| mvg rfl rfl rfl <| bng rfl rfl rfl rfl run_lt <| pfg rfl rfl rfl rfl <| pt0 rfl rfl rfl <| .fin <| cd H rfl (fun _ H => ?_) (fun _ H => ?_)
 rotate_left
 ·
  exact WP.skip <| rg 3 0 <| mv0 rfl rfl <| bn0 rfl rfl rfl run_add <| as0 rfl rfl <| .fin <| bk j990 (x976, x977, w64 (x978 + 1)) H
 exact WP.seq <| rg 5 0 <| mv0 rfl rfl <| mv0 rfl rfl <| gr H fun g988 H => Dv.ixr rfl trivial rfl rfl Tryz.underlying25 Tryz.underlying3 c3 g988.1 g988.2 <| ldR rfl trivial rfl sc3 rfl <| as0 rfl rfl <| .fin <| rg 1 0 <| as0 rfl rfl <| .fin <| rg 3 0 <| mv0 rfl rfl <| bn0 rfl rfl rfl run_add <| as0 rfl rfl <| .fin <| bk j990 ((intK .i64).at t974 x978, true, w64 (x978 + 1)) H
end Go.Proofs.YtegmafgodoikiaaGreat
