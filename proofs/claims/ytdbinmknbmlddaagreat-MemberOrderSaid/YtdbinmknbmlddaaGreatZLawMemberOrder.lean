/- The walks. -/
import Derived.Test.YtdbinmknbmlddaaGreatZWalks2
import Derived.Test.YtdbinmknbmlddaaGreatConQ
import Derived.Test.YtdbinmknbmlddaaGreatConA3
import Derived.Eval
set_option linter.all false
set_option maxRecDepth 10000
set_option maxHeartbeats 20000000
namespace Go.Proofs.YtdbinmknbmlddaaGreat
open Go Go.Sp
theorem concourselaw09_MemberOrder.c {k : Nat} {a0 : List GMade} {r : Bool} (h : concourselaw09_MemberOrder.f k a0 = some r) : Pt Tryz.prog 4 [sl GMade.K a0] (vB r) := by
 unfold concourselaw09_MemberOrder.f at h
 refine (Tr.body Tryz.func4 (c := _) rfl Tryz.ntmps4 (Nat.le_of_ble_eq_true rfl) fun R0 F => ?_).pt
 replace h := Gets.of h
 have H := h
 clear h
 refine WP.seq <| rg 1 0 <| as0 rfl rfl <| .fin <| WP.seq <| rg 8 162 <| mv0 rfl rfl <| el H fun t903 h904 H => cx 0 [] cal7 (concourselaw09_build.c h904) nofun fun g905 _ => ?_
 refine mv0 rfl rfl <| ex0 rfl trivial rfl rfl <| ex0 rfl trivial rfl rfl <| al rfl trivial zc26 nofun fun b906 => as0 rfl rfl <| sx 0 rfl trivial rfl rfl cA sz26 rfl rfl rfl nofun ?_
 refine .fin <| WP.seq <| WP.seq <| rg 2 0 <| mv0 rfl rfl <| Dv.oeq0 (fun _ => DDag.nn) rfl trivial rfl rfl Tryz.underlying23 (mem_at 1 rfl) <| .fin <| cd H rfl (fun _ H => ?_) (fun c907 H => ?_)
 ·
  refine WP.seq <| rg 1 0 <| as0 rfl rfl <| .fin ?_
  obtain rfl := Gets.out H
  exact rt i2 rfl () 2 [0,1] 2 (.cons (res_tmp rfl) .nil)
 refine wg (opt_some 1 rfl c907) fun _ _ => ?_
 refine WP.skip <| WP.seq <| rg 4 4 <| fb rfl trivial rfl fa26_0 <| ld 1 rfl trivial rfl sc9 rfl rfl <| el H fun t908 h909 H => cx 2 [0,1] cal16 (dag_New.c h909) nofun fun g910 _ => ?_
 refine as0 rfl rfl <| .fin <| WP.seq <| WP.seq <| rg 2 0 <| mv0 rfl rfl <| Dv.peq0 DDag.nn rfl trivial rfl rfl Tryz.underlying23 (mem_at 0 rfl) <| .fin <| WP.cond rfl nofun (fun _ => ?_)
 refine WP.skip <| WP.seqn H id (fun p912 : Int × Bool × DDag => [(0, sl GMade.K a0), (2, vB false), (3, eq g905.1), (4, eq (.pointer (some ⟨b906, 0, none⟩))), (5, eq g910.1), (6, vI p912.1), (14, vB t903.1.isNone), (19, vB false), (21, vB p912.2.1)]) (fun p912 : Int × Bool × DDag => [blk b906 26 (RDag.enc t903.2), DDag.O g910 p912.2.2, DDag.O g905 (t903.1.getD default)] ++ F) (fun p912 H => ?_) (fun H => ?_)
 ·
  refine WP.seq <| rg 16 650 <| mv0 rfl rfl <| vg (DDag.opn 2 rfl) fun g913 h914 => ?_
  refine el H fun t915 h916 H => cx 4 [0,1,2,3] cal18 (Tr.weak (member_Users.c h916 (b0_ := g913.1) (v0_0 := g913.2)) (.cons (wk_ptr h914) .nil)) nofun fun g917 _ => ?_
  refine mv0 rfl rfl <| vg (DDag.opn 4 rfl) fun g918 h919 => ?_
  refine el H fun t920 h921 H => cx 6 [0,1,2,3,4,5] cal18 (Tr.weak (member_Users.c h921 (b0_ := g918.1) (v0_0 := g918.2)) (.cons (wk_ptr h919) .nil)) nofun fun g922 _ => ?_
  refine el H fun t923 h924 H => cll (B := [own strK g917.1 t915, own strK g922.1 t920]) 7 [5,2,0,1,3,4,6] cal13 (Pt.lend _ (concourseref01_SameTexts.c h924) (.cons (lt_own (mem_at 0 rfl)) (.cons (lt_own (mem_at 1 rfl)) .nil)) flat_eq) ?_
  refine mv0 rfl rfl ?_
  cases c925 : t923
  ·
   replace H := Gets.cf H c925
   refine sk rfl rfl <| Dv.skipb rfl ⟨_, _, rfl, rfl, .inl rfl⟩ nofun <| sk rfl rfl <| Dv.skipb rfl ⟨_, _, rfl, rfl, .inl rfl⟩ nofun <| sk rfl rfl <| pf0 rfl rfl rfl <| mv0 rfl rfl <| sk rfl rfl <| pf0 rfl rfl rfl <| as0 rfl rfl <| .fin <| wg (DDag.shut (p := g905) (m := t903.1.getD default) (g913.1, g913.2) h914 (pm 7 [3,4,0,1,2,5,6])) fun _ _ => ?_
   refine wg (DDag.shut (p := g910) (m := p912.2.2) (g918.1, g918.2) h919 (pm 6 [1,2,0,3,4,5])) fun _ _ => ?_
   obtain rfl := Gets.out H
   exact rt i2 rfl () 5 [0,1,2,3,4] 5 (.cons (res_tmp rfl) .nil)
  replace H := Gets.ct H c925
  refine mvg rfl rfl rfl <| el H fun t926 h927 H => cx 7 [3,4,0,1,2,5,6] cal14 (Tr.weak (member_Servers.c h927 (b0_ := g913.1) (v0_0 := g913.2)) (.cons (wk_ptr h914) .nil)) nofun fun g928 _ => ?_
  refine mvg rfl rfl rfl <| el H fun t929 h930 H => cx 8 [3,4,0,1,2,5,6,7] cal14 (Tr.weak (member_Servers.c h930 (b0_ := g918.1) (v0_0 := g918.2)) (.cons (wk_ptr h919) .nil)) nofun fun g931 _ => ?_
  refine el H fun t932 h933 H => cll (B := [own strK g928.1 t926, own strK g931.1 t929]) 9 [5,2,0,1,3,4,6,7,8] cal13 (Pt.lend _ (concourseref01_SameTexts.c h933) (.cons (lt_own (mem_at 0 rfl)) (.cons (lt_own (mem_at 1 rfl)) .nil)) flat_eq) ?_
  refine pt0 rfl rfl rfl <| mv0 rfl rfl ?_
  cases c934 : t932
  ·
   replace H := Gets.cf H c934
   refine sk rfl rfl <| pf0 rfl rfl rfl <| as0 rfl rfl <| .fin <| wg (DDag.shut (p := g905) (m := t903.1.getD default) (g913.1, g913.2) h914 (pm 9 [3,4,0,1,2,5,6,7,8])) fun _ _ => ?_
   refine wg (DDag.shut (p := g910) (m := p912.2.2) (g918.1, g918.2) h919 (pm 8 [1,2,0,3,4,5,6,7])) fun _ _ => ?_
   obtain rfl := Gets.out H
   exact rt i2 rfl () 7 [0,1,2,3,4,5,6] 7 (.cons (res_tmp rfl) .nil)
  replace H := Gets.ct H c934
  refine el H fun t935 h936 H => Dv.call rfl (gg rfl) cal15 rfl (concourselaw09_lives.c h936) <| pt0 rfl rfl rfl <| as0 rfl rfl <| .fin <| wg (DDag.shut (p := g905) (m := t903.1.getD default) (g913.1, g913.2) h914 (pm 9 [3,4,0,1,2,5,6,7,8])) fun _ _ => ?_
  refine wg (DDag.shut (p := g910) (m := p912.2.2) (g918.1, g918.2) h919 (pm 8 [1,2,0,3,4,5,6,7])) fun _ _ => ?_
  obtain rfl := Gets.out H
  exact rt i2 rfl () 7 [0,1,2,3,4,5,6] 7 (.cons (res_tmp rfl) .nil)
 refine WP.seq <| rg 1 0 <| as0 rfl rfl <| .fin <| WP.block <| wg (sg 3 [2,0,1] 0) fun _ _ => ?_
 refine lp (fun j_ (p950 : Int × DDag) => concourselaw09_MemberOrder.l0 k t903 j_ p950.1 p950.2) (0, t908) H (fun p950 => [(0, sl GMade.K a0), (2, vB false), (3, eq g905.1), (4, eq (.pointer (some ⟨b906, 0, none⟩))), (5, eq g910.1), (6, vI p950.1), (14, vB t903.1.isNone), (19, vB false)]) (fun p950 => [blk b906 26 (RDag.enc t903.2), DDag.O g910 p950.2, DDag.O g905 (t903.1.getD default)] ++ F) ?_
 rintro j_ ⟨x937, x938⟩ H
 rcases j_ with _ | j949
 ·
  exact (Gets.no H).elim
 replace H : Gets (concourselaw09_MemberOrder.l0 k t903 (j949 + 1) x937 x938) _ := H
 rw [concourselaw09_MemberOrder.l0] at H
 refine WP.seq <| WP.seq <| rg 2 0 <| mv0 rfl rfl <| bn0 rfl rfl rfl run_lt <| .fin <| cd H rfl (fun _ H => ?_) (fun _ H => ?_)
 rotate_left
 ·
  refine WP.exit ?_
  replace H := Gets.out H
  exact jn (x937, decide (x937 < 9), x938) H
 refine WP.skip <| WP.seqn H id (fun p940 : Int × Bool × DDag => [(0, sl GMade.K a0), (2, vB false), (3, eq g905.1), (4, eq (.pointer (some ⟨b906, 0, none⟩))), (5, eq g910.1), (6, vI x937), (7, vI p940.1), (14, vB t903.1.isNone), (19, vB false), (21, vB (decide (x937 < 9))), (29, vB p940.2.1)]) (fun p940 : Int × Bool × DDag => [blk b906 26 (RDag.enc t903.2), DDag.O g910 p940.2.2, DDag.O g905 (t903.1.getD default)] ++ F) (fun p940 H => ?_) (fun H => ?_)
 ·
  exact rg 3 0 <| mv0 rfl rfl <| bn0 rfl rfl rfl run_add <| as0 rfl rfl <| .fin <| bk j949 (w64 (x937 + 1), p940.2.2) H
 refine WP.block <| WP.seq <| rg 5 0 <| fb rfl trivial rfl fa26_1 <| ld 0 rfl trivial rfl sc24 rfl rfl <| Dv.lenl rfl trivial rfl Tryz.underlying24 <| bn0 rfl rfl rfl run_sub <| as0 rfl rfl <| .fin <| WP.block <| wg (sg 3 [0,1,2] 0) fun _ _ => ?_
 refine lp (fun j_ (p948 : Int × DDag) => concourselaw09_MemberOrder.l1 k t903 j_ p948.1 p948.2) (w64 ((t903.2.fL.length : Int) - 1), x938) H (fun p948 => [(0, sl GMade.K a0), (2, vB false), (3, eq g905.1), (4, eq (.pointer (some ⟨b906, 0, none⟩))), (5, eq g910.1), (6, vI x937), (7, vI p948.1), (14, vB t903.1.isNone), (19, vB false), (21, vB (decide (x937 < 9)))]) (fun p948 => [blk b906 26 (RDag.enc t903.2), DDag.O g910 p948.2, DDag.O g905 (t903.1.getD default)] ++ F) ?_
 rintro j_ ⟨x941, x942⟩ H
 rcases j_ with _ | j947
 ·
  exact (Gets.no H).elim
 replace H : Gets (concourselaw09_MemberOrder.l1 k t903 (j947 + 1) x941 x942) _ := H
 rw [concourselaw09_MemberOrder.l1] at H
 refine WP.seq <| WP.seq <| rg 2 0 <| mv0 rfl rfl <| bn0 rfl rfl rfl run_ge <| .fin <| cd H rfl (fun _ H => ?_) (fun _ H => ?_)
 rotate_left
 ·
  refine WP.exit ?_
  replace H := Gets.out H
  exact jn (x941, decide (0 ≤ x941), x942) H
 refine WP.skip <| WP.seq <| WP.block <| rg 7 64 <| mv0 rfl rfl <| fb rfl trivial rfl fa26_1 <| ld 0 rfl trivial rfl sc24 rfl rfl <| mv0 rfl rfl <| gr H fun g944 H => Dv.ixr rfl trivial rfl rfl Tryz.underlying24 Tryz.underlying43 c43 g944.1 g944.2 <| ldsR rfl trivial rfl sg43 rfl <| el H fun t945 h946 H => cx 3 [1,0,2] cal17 (dag_Dag_Add.c h946 (p0_ := g910)) nofun fun _ _ => ?_
 refine .fin <| rg 3 0 <| mv0 rfl rfl <| bn0 rfl rfl rfl run_sub <| as0 rfl rfl <| .fin <| ng (sg 3 [1,0,2] 0) fun _ _ => ?_
 exact bk j947 (w64 (x941 - 1), t945.2) H
end Go.Proofs.YtdbinmknbmlddaaGreat
