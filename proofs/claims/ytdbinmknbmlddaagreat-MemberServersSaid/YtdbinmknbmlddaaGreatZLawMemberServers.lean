/- The walks. -/
import Derived.Test.YtdbinmknbmlddaaGreatZWalks2
import Derived.Test.YtdbinmknbmlddaaGreatConQ
import Derived.Test.YtdbinmknbmlddaaGreatConA3
import Derived.Eval
set_option linter.all false
set_option maxRecDepth 10000
set_option maxHeartbeats 20000000
namespace Go.Proofs.YtdbinmknbmlddaaGreat
open Go Go.Sp
theorem concourselaw09_MemberServers.c {k : Nat} {a0 : List GMade} {a1 : ByteArray} {r : Bool} (h : concourselaw09_MemberServers.f k a0 a1 = some r) : Pt Tryz.prog 3 [sl GMade.K a0, vS a1] (vB r) := by
 unfold concourselaw09_MemberServers.f at h
 refine (Tr.body Tryz.func3 (c := _) rfl Tryz.ntmps3 (Nat.le_of_ble_eq_true rfl) fun R0 F => ?_).pt
 replace h := Gets.of h
 have H := h
 clear h
 refine WP.seq <| rg 1 0 <| as0 rfl rfl <| .fin <| WP.seq <| rg 8 162 <| mv0 rfl rfl <| el H fun t862 h863 H => cx 0 [] cal7 (concourselaw09_build.c h863) nofun fun g864 _ => ?_
 refine mv0 rfl rfl <| ex0 rfl trivial rfl rfl <| ex0 rfl trivial rfl rfl <| al rfl trivial zc26 nofun fun b865 => as0 rfl rfl <| sx 0 rfl trivial rfl rfl cA sz26 rfl rfl rfl nofun ?_
 refine .fin <| WP.seq <| WP.seq <| rg 2 0 <| mv0 rfl rfl <| Dv.oeq0 (fun _ => DDag.nn) rfl trivial rfl rfl Tryz.underlying23 (mem_at 1 rfl) <| .fin <| cd H rfl (fun _ H => ?_) (fun c866 H => ?_)
 ·
  refine WP.seq <| rg 1 0 <| as0 rfl rfl <| .fin ?_
  obtain rfl := Gets.out H
  exact rt i2 rfl () 2 [0,1] 2 (.cons (res_tmp rfl) .nil)
 refine wg (opt_some 1 rfl c866) fun _ _ => ?_
 refine WP.skip <| WP.seq <| rg 3 2 <| lds 1 rfl trivial rfl sg26 rfl rfl <| el H fun t867 h868 H => cx 2 [0,1] cal8 (concourseref09_Servers.c h868) nofun fun g869 _ => ?_
 refine as0 rfl rfl <| .fin <| WP.seq <| rg 3 0 <| mv0 rfl rfl <| el H fun t870 h871 H => cl rfl cal9 rfl (concourseref01_Few.c h871) <| as0 rfl rfl <| .fin <| WP.seqr H id (fun p872 : Int × Bool => [(0, sl GMade.K a0), (1, vS t870), (4, vB false), (5, eq g864.1), (6, eq (.pointer (some ⟨b865, 0, none⟩))), (7, eq g869.1), (8, vI p872.1), (15, vB t862.1.isNone), (21, vB p872.2)]) (fun p872 : Int × Bool => [blk b865 26 (RDag.enc t862.2), own strK g869.1 t867, DDag.O g864 (t862.1.getD default)] ++ F) (fun p872 H => ?_) (fun H => ?_)
 ·
  refine WP.seq <| rg 17 2 <| mv0 rfl rfl <| vg (DDag.opn 2 rfl) fun g873 h874 => ?_
  refine el H fun t875 h876 H => cx 4 [0,1,2,3] cal14 (Tr.weak (member_Servers.c h876 (b0_ := g873.1) (v0_0 := g873.2)) (.cons (wk_ptr h874) .nil)) nofun fun g877 _ => ?_
  refine mv0 rfl rfl <| el H fun t878 h879 H => cll (B := [own strK g877.1 t875, own strK g869.1 t867]) 5 [2,4,0,1,3] cal13 (Pt.lend _ (concourseref01_SameTexts.c h879) (.cons (lt_own (mem_at 0 rfl)) (.cons (lt_own (mem_at 1 rfl)) .nil)) flat_eq) ?_
  refine mv0 rfl rfl ?_
  cases c880 : t878
  ·
   replace H := Gets.cf H c880
   refine sk rfl rfl <| sk rfl rfl <| sk rfl rfl <| sk rfl rfl <| sk rfl rfl <| sk rfl rfl <| sk rfl rfl <| pf0 rfl rfl rfl <| mv0 rfl rfl <| sk rfl rfl <| pf0 rfl rfl rfl <| as0 rfl rfl <| .fin <| wg (DDag.shut (p := g864) (m := t862.1.getD default) (g873.1, g873.2) h874 (pm 5 [0,1,2,3,4])) fun _ _ => ?_
   obtain rfl := Gets.out H
   exact rt i2 rfl () 4 [0,1,2,3] 4 (.cons (res_tmp rfl) .nil)
  replace H := Gets.ct H c880
  refine mvg rfl rfl rfl <| mvg rfl rfl rfl <| el H fun t881 h882 H => cll 5 [0,1,2,3,4] cal10 (Tr.weak (member_In.c h882 (b0_ := g873.1) (v0_0 := g873.2)) (.cons (wk_ptr h874) (.cons wk_id .nil))) ?_
  refine mvg rfl rfl rfl <| mvg rfl rfl rfl <| el H fun t883 h884 H => cll (B := [own strK g869.1 t867]) 5 [4,0,1,2,3] cal12 (Pt.lend _ (concourseref09_Has.c h884) (.cons (lt_own (mem_at 0 rfl)) (.cons lt_id .nil)) flat_eq) ?_
  refine bng rfl rfl rfl rfl (run_beq Tryz.underlying4) <| pt0 rfl rfl rfl <| mv0 rfl rfl ?_
  cases c885 : (t881 == t883)
  ·
   replace H := Gets.cf H c885
   refine sk rfl rfl <| pf0 rfl rfl rfl <| as0 rfl rfl <| .fin <| wg (DDag.shut (p := g864) (m := t862.1.getD default) (g873.1, g873.2) h874 (pm 5 [0,1,2,3,4])) fun _ _ => ?_
   obtain rfl := Gets.out H
   exact rt i2 rfl () 4 [0,1,2,3] 4 (.cons (res_tmp rfl) .nil)
  replace H := Gets.ct H c885
  refine el H fun t886 h887 H => Dv.call rfl (gg rfl) cal15 rfl (concourselaw09_lives.c h887) <| pt0 rfl rfl rfl <| as0 rfl rfl <| .fin <| wg (DDag.shut (p := g864) (m := t862.1.getD default) (g873.1, g873.2) h874 (pm 5 [0,1,2,3,4])) fun _ _ => ?_
  obtain rfl := Gets.out H
  exact rt i2 rfl () 4 [0,1,2,3] 4 (.cons (res_tmp rfl) .nil)
 refine WP.seq <| rg 1 0 <| as0 rfl rfl <| .fin <| WP.block <| wg (sg 3 [2,0,1] 0) fun _ _ => ?_
 refine lp (fun j_ (p902 : Int) => concourselaw09_MemberServers.l0 k t862 t867 j_ p902) 0 H (fun p902 => [(0, sl GMade.K a0), (1, vS t870), (4, vB false), (5, eq g864.1), (6, eq (.pointer (some ⟨b865, 0, none⟩))), (7, eq g869.1), (8, vI p902), (15, vB t862.1.isNone)]) (fun p902 => [blk b865 26 (RDag.enc t862.2), own strK g869.1 t867, DDag.O g864 (t862.1.getD default)] ++ F) ?_
 rintro j_ x888 H
 rcases j_ with _ | j901
 ·
  exact (Gets.no H).elim
 replace H : Gets (concourselaw09_MemberServers.l0 k t862 t867 (j901 + 1) x888) _ := H
 rw [concourselaw09_MemberServers.l0] at H
 refine WP.seq <| WP.seq <| rg 2 0 <| mv0 rfl rfl <| bn0 rfl rfl rfl run_lt <| .fin <| cd H rfl (fun _ H => ?_) (fun _ H => ?_)
 rotate_left
 ·
  refine WP.exit ?_
  replace H := Gets.out H
  exact jn (x888, decide (x888 < 3)) H
 refine WP.skip <| WP.seq <| WP.block <| WP.seq <| rg 9 0 <| mv0 rfl rfl <| mv0 rfl rfl <| el H fun t890 h891 H => cl rfl cal11 rfl (concourseref01_ServerOf.c h891) <| vg (DDag.opn 2 rfl) fun g892 h893 => ?_
 refine el H fun t894 h895 H => cll 4 [0,1,2,3] cal10 (Tr.weak (member_In.c h895 (b0_ := g892.1) (v0_0 := g892.2)) (.cons (wk_ptr h893) (.cons wk_id .nil))) ?_
 refine mv0 rfl rfl <| mv0 rfl rfl <| el H fun t896 h897 H => cl rfl cal11 rfl (concourseref01_ServerOf.c h897) <| el H fun t898 h899 H => cll (B := [own strK g869.1 t867]) 4 [3,0,1,2] cal12 (Pt.lend _ (concourseref09_Has.c h899) (.cons (lt_own (mem_at 0 rfl)) (.cons lt_id .nil)) flat_eq) ?_
 refine bn0 rfl rfl rfl (run_bne Tryz.underlying4) <| .fin <| cd H rfl (fun _ H => ?_) (fun _ H => ?_)
 ·
  refine WP.seq <| rg 1 0 <| as0 rfl rfl <| .fin <| wg (DDag.shut (p := g864) (m := t862.1.getD default) (g892.1, g892.2) h893 (pm 4 [0,1,2,3])) fun _ _ => ?_
  replace H := Gets.outr H
  obtain rfl := Gets.out H
  exact rt i2 rfl () 3 [0,1,2] 3 (.cons (res_tmp rfl) .nil)
 refine WP.skip <| rg 3 0 <| mv0 rfl rfl <| bn0 rfl rfl rfl run_add <| as0 rfl rfl <| .fin <| ng (DDag.shut (p := g864) (m := t862.1.getD default) (g892.1, g892.2) h893 (pm 4 [0,1,2,3])) fun _ _ => ?_
 refine ng (sg 3 [1,2,0] 0) fun _ _ => ?_
 exact bk j901 (w64 (x888 + 1)) H
end Go.Proofs.YtdbinmknbmlddaaGreat
