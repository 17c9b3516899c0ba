/- The walks. -/
import Derived.Test.YtdbinmknbmlddaaZWalks1
import Derived.Test.YtdbinmknbmlddaaConQ
import Derived.Test.YtdbinmknbmlddaaConA3
import Derived.Eval
set_option linter.all false
set_option maxRecDepth 10000
set_option maxHeartbeats 20000000
namespace Go.Proofs.Ytdbinmknbmlddaa
open Go Go.Sp
theorem concourselaw09_MemberHomes.c {k : Nat} {a0 : List ByteArray} {a1 : List Int} {r : Bool} (h : concourselaw09_MemberHomes.f k a0 a1 = some r) : Pt Try.prog 3 [sl strK a0, sl (intK .i64) a1] (vB r) := by
 unfold concourselaw09_MemberHomes.f at h
 refine (Tr.body Try.func3 (c := _) rfl Try.ntmps3 (Nat.le_of_ble_eq_true rfl) fun R0 F => ?_).pt
 replace h := Gets.of h
 have H := h
 clear h
 refine WP.seq <| rg 1 0 <| as0 rfl rfl <| .fin <| WP.seq <| rg 1 0 <| as0 rfl rfl <| .fin <| WP.seqn H (fun q555 : (Int × Bool × (List ByteArray)) × OV => q555.1) (fun q555 : (Int × Bool × (List ByteArray)) × OV => [(0, sl strK a0), (1, sl (intK .i64) a1), (4, vB false), (5, eq q555.2.1), (6, vI q555.1.1), (15, vB q555.1.2.1)]) (fun q555 : (Int × Bool × (List ByteArray)) × OV => [own strK q555.2.1 q555.1.2.2] ++ F) (fun q555 H => ?_) (fun H => ?_)
 rotate_left
 ·
  refine WP.seq <| rg 1 0 <| as0 rfl rfl <| .fin <| WP.block <| wg (st_nil strK none) fun _ _ => ?_
  refine wg (sg 1 [0] 0) fun _ _ => ?_
  refine lp (fun j_ (p554 : Int × (List ByteArray) × OV) => concourselaw09_MemberHomes.l1 k a0 j_ p554.1 p554.2.1) (0, ([] : List ByteArray), nilV) H (fun p554 => [(0, sl strK a0), (1, sl (intK .i64) a1), (4, vB false), (5, eq p554.2.2.1), (6, vI p554.1)]) (fun p554 => [own strK p554.2.2.1 p554.2.1] ++ F) ?_
  rintro j_ ⟨x542, x543, v544⟩ H
  rcases j_ with _ | j553
  ·
   exact (Gets.no H).elim
  replace H : Gets (concourselaw09_MemberHomes.l1 k a0 (j553 + 1) x542 x543) _ := H
  rw [concourselaw09_MemberHomes.l1] at H
  refine WP.seq <| WP.seq <| rg 8 0 <| mv0 rfl rfl <| mv0 rfl rfl <| Dv.lenl rfl trivial rfl Try.underlying22 <| bn0 rfl rfl rfl run_lt <| mv0 rfl rfl ?_
  cases c545 : decide (x542 < (a0.length : Int))
  ·
   replace H := Gets.cf H c545
   refine sk rfl rfl <| sk rfl rfl <| pf0 rfl rfl rfl <| .fin <| WP.cond rfl nofun (fun _ => ?_)
   refine WP.exit ?_
   replace H := Gets.out H
   exact jn ((x542, false, x543), v544) H
  replace H := Gets.ct H c545
  refine mvg rfl rfl rfl <| bng rfl rfl rfl rfl run_lt <| pt0 rfl rfl rfl <| .fin <| cd H rfl (fun _ H => ?_) (fun _ H => ?_)
  rotate_left
  ·
   refine WP.exit ?_
   replace H := Gets.out H
   exact jn ((x542, decide (x542 < 6), x543), v544) H
  refine WP.skip <| WP.seq <| WP.block <| rg 9 128 <| mv0 rfl rfl <| mv0 rfl rfl <| mv0 rfl rfl <| gr H fun g547 H => Dv.ixr rfl trivial rfl rfl Try.underlying22 Try.underlying9 c9 g547.1 g547.2 <| ldR rfl trivial rfl sc9 rfl <| el H fun t548 h549 H => cl rfl cal4 rfl (concourseref01_Few.c h549) <| Dv.lit strK ([t548] : List ByteArray) (css := [[vS t548]]) rfl trivial Try.underlying22 Try.underlying9 c9 z9 rfl (by decide) (by decide) rfl ⟨(cells_one (one_eq rfl)), trivial⟩ rfl rfl rfl <| gr H fun g550 H => ap strK 0 ([t548] : List ByteArray) src_sl Try.underlying22 (.inr ⟨_, Try.underlying22⟩) inf9 g550 nofun fun v551 => ?_
  exact as0 rfl rfl <| .fin <| rg 3 0 <| mv0 rfl rfl <| bn0 rfl rfl rfl run_add <| as0 rfl rfl <| .fin <| bk j553 (w64 (x542 + 1), x543 ++ ([t548] : List ByteArray), v551) H
 obtain ⟨p513, v514⟩ := q555
 refine WP.seqn H (fun q541 : (Int × Bool × (List ByteArray)) × OV => q541.1) (fun q541 : (Int × Bool × (List ByteArray)) × OV => [(0, sl strK a0), (1, sl (intK .i64) a1), (4, vB false), (5, eq q541.2.1), (6, vI p513.1), (7, vI q541.1.1), (15, vB p513.2.1), (33, vB q541.1.2.1)]) (fun q541 : (Int × Bool × (List ByteArray)) × OV => [own strK q541.2.1 q541.1.2.2] ++ F) (fun q541 H => ?_) (fun H => ?_)
 ·
  obtain ⟨p515, v516⟩ := q541
  refine WP.seq <| rg 9 10 <| mv0 rfl rfl <| el H fun t517 h518 H => cx 1 [0] cal7 (Tr.lend [own strK v516.1 p515.2.2] (member_Homes.c h518) (.cons (lt_own (mem_at 0 rfl)) .nil) (fun _ => flat_eq) (fun _ => (flatAs_cons (flatA_own flatK_str) flatAs_nil))) nofun fun g519 _ => ?_
  refine mv0 rfl rfl <| el H fun t520 h521 H => cx 2 [0,1] cal8 (Tr.lend [own strK v516.1 p515.2.2] (concourseref09_Homes.c h521) (.cons (lt_own (mem_at 0 rfl)) .nil) (fun _ => flat_eq) (fun _ => (flatAs_cons (flatA_own flatK_str) flatAs_nil))) nofun fun g522 _ => ?_
  refine el H fun t523 h524 H => cll (B := [own strK g519.1 t517, own strK g522.1 t520]) 3 [2,1,0] cal6 (Pt.lend _ (concourseref01_SameTexts.c h524) (.cons (lt_own (mem_at 0 rfl)) (.cons (lt_own (mem_at 1 rfl)) .nil)) flat_eq) ?_
  refine mv0 rfl rfl ?_
  cases c525 : t523
  ·
   replace H := Gets.cf H c525
   refine sk rfl rfl <| pf0 rfl rfl rfl <| as0 rfl rfl <| .fin ?_
   obtain rfl := Gets.out H
   exact rt i2 rfl () 3 [0,1,2] 3 (.cons (res_tmp rfl) .nil)
  replace H := Gets.ct H c525
  refine el H fun t526 h527 H => Dv.call rfl (gg rfl) cal9 rfl (concourselaw09_lives.c h527) <| pt0 rfl rfl rfl <| as0 rfl rfl <| .fin ?_
  obtain rfl := Gets.out H
  exact rt i2 rfl () 3 [0,1,2] 3 (.cons (res_tmp rfl) .nil)
 refine WP.seq <| rg 1 0 <| as0 rfl rfl <| .fin <| WP.block <| wg (sg 1 [0] 0) fun _ _ => ?_
 refine lp (fun j_ (p540 : Int × (List ByteArray) × OV) => concourselaw09_MemberHomes.l0 k a1 j_ p540.1 p540.2.1) (0, p513.2.2, v514) H (fun p540 => [(0, sl strK a0), (1, sl (intK .i64) a1), (4, vB false), (5, eq p540.2.2.1), (6, vI p513.1), (7, vI p540.1), (15, vB p513.2.1)]) (fun p540 => [own strK p540.2.2.1 p540.2.1] ++ F) ?_
 rintro j_ ⟨x528, x529, v530⟩ H
 rcases j_ with _ | j539
 ·
  exact (Gets.no H).elim
 replace H : Gets (concourselaw09_MemberHomes.l0 k a1 (j539 + 1) x528 x529) _ := H
 rw [concourselaw09_MemberHomes.l0] at H
 refine WP.seq <| WP.seq <| rg 8 0 <| mv0 rfl rfl <| mv0 rfl rfl <| Dv.lenl rfl trivial rfl Try.underlying23 <| bn0 rfl rfl rfl run_lt <| mv0 rfl rfl ?_
 cases c531 : decide (x528 < (a1.length : Int))
 ·
  replace H := Gets.cf H c531
  refine sk rfl rfl <| sk rfl rfl <| pf0 rfl rfl rfl <| .fin <| WP.cond rfl nofun (fun _ => ?_)
  refine WP.exit ?_
  replace H := Gets.out H
  exact jn ((x528, false, x529), v530) H
 replace H := Gets.ct H c531
 refine mvg rfl rfl rfl <| bng rfl rfl rfl rfl run_lt <| pt0 rfl rfl rfl <| .fin <| cd H rfl (fun _ H => ?_) (fun _ H => ?_)
 rotate_left
 ·
  refine WP.exit ?_
  replace H := Gets.out H
  exact jn ((x528, decide (x528 < 6), x529), v530) H
 refine WP.skip <| WP.seq <| WP.block <| rg 9 128 <| mv0 rfl rfl <| mv0 rfl rfl <| mv0 rfl rfl <| gr H fun g533 H => Dv.ixr rfl trivial rfl rfl Try.underlying23 Try.underlying3 c3 g533.1 g533.2 <| ldR rfl trivial rfl sc3 rfl <| el H fun t534 h535 H => cl rfl cal5 rfl (concourseref01_UserOf.c h535) <| Dv.lit strK ([t534] : List ByteArray) (css := [[vS t534]]) rfl trivial Try.underlying22 Try.underlying9 c9 z9 rfl (by decide) (by decide) rfl ⟨(cells_one (one_eq rfl)), trivial⟩ rfl rfl rfl <| gr H fun g536 H => ap strK 0 ([t534] : List ByteArray) src_sl Try.underlying22 (.inr ⟨_, Try.underlying22⟩) inf9 g536 nofun fun v537 => ?_
 exact as0 rfl rfl <| .fin <| rg 3 0 <| mv0 rfl rfl <| bn0 rfl rfl rfl run_add <| as0 rfl rfl <| .fin <| bk j539 (w64 (x528 + 1), x529 ++ ([t534] : List ByteArray), v537) H
end Go.Proofs.Ytdbinmknbmlddaa
