/- The walks. -/
import Derived.Test.YtmbodanckhidiaaZWalks4
import Derived.Test.YtmbodanckhidiaaConU
import Derived.Eval
set_option linter.all false
set_option maxRecDepth 10000
set_option maxHeartbeats 20000000
namespace Go.Proofs.Ytmbodanckhidiaa
open Go Go.Sp
theorem concourselaw14_TypingUsers.c {k : Nat} {a0 : List Edu} {a1 : Int} {a2 : ByteArray} {r : Bool} (h : concourselaw14_TypingUsers.f k a0 a1 a2 = some r) : Pt Try.prog 3 [sl Edu.K a0, eq (.int .i64 a1), eq (.string a2)] (eq (.bool r)) := by
  unfold concourselaw14_TypingUsers.f at h
  refine (Tr.body Try.func3 (c := _) rfl Try.ntmps3 (Nat.le_of_ble_eq_true rfl) fun R0 F => ?_).pt
  replace h := Gets.of h
  have H := h
  clear h
  refine WP.seq ?_
  refine WP.reg [(0, false)] (by kernel_rfl) ?_
  refine Dv.asg rfl trivial rfl ?_
  refine .fin ?_
  refine WP.seq ?_
  refine WP.reg [(0, true), (1, false)] (by kernel_rfl) ?_
  obtain ⟨t924, h925, H⟩ := Gets.call H
  refine Dv.callx (pre := []) (F := [] ++ F) (fun g926 : OV => [TTab.O g926 t924] ++ F) rfl trivial cal7 rfl (typing_New.c h925) (perm_to (L := []) (F := F) [] rfl rfl rfl) rfl nofun (fun g926 _ => ?_)
  refine Dv.asg rfl trivial rfl ?_
  refine .fin ?_
  refine WP.seq ?_
  refine WP.seq ?_
  refine WP.reg [(0, false), (1, false)] (by kernel_rfl) ?_
  refine Dv.mv rfl trivial rfl ?_
  refine Dv.peq0 TTab.nn rfl trivial rfl rfl Try.underlying23 (mem_at 0 rfl) ?_
  refine .fin ?_
  refine WP.cond rfl nofun (fun _ => ?_)
  refine WP.skip ?_
  refine WP.seq ?_
  refine WP.reg [(0, true)] (by kernel_rfl) ?_
  refine Dv.alloc (z := .agg #[.slice none 0 0, .slice none 0 0]) (qs := [eq (.slice none 0 0), eq (.slice none 0 0)]) rfl trivial z27 rfl nofun (fun b928 => ?_)
  refine .fin ?_
  refine WP.seqn H id (fun p929 : Int × Bool × (List Edu) × (List Bool) × TTab => [(0, sl Edu.K a0), (1, eq (.int .i64 a1)), (2, eq (.string a2)), (6, eq (.bool false)), (7, eq g926.1), (8, eq (.pointer (some ⟨b928, 0, none⟩))), (9, eq (.int .i64 p929.1)), (21, eq (.bool false)), (29, eq (.bool p929.2.1))]) (fun p929 : Int × Bool × (List Edu) × (List Bool) × TTab => [blk b928 27 [sl Edu.K p929.2.2.1, sl boolK p929.2.2.2.1], TTab.O g926 p929.2.2.2.2] ++ F) (fun p929 H => ?_) (fun H => ?_)
  · refine WP.seq ?_
    refine WP.reg [(0, false), (1, false), (2, false)] (by kernel_rfl) ?_
    refine Dv.mv rfl trivial rfl ?_
    obtain ⟨t930, h931, H⟩ := Gets.call H
    refine Dv.call rfl trivial cal11 rfl (concourseref01_Few.c h931) ?_
    refine Dv.asg rfl trivial rfl ?_
    refine .fin ?_
    refine WP.seq ?_
    refine WP.reg [(0, false), (1, false), (2, false), (3, false), (4, false)] (by kernel_rfl) ?_
    refine Dv.mv rfl trivial rfl ?_
    refine Dv.mv rfl trivial rfl ?_
    obtain ⟨t932, h933, H⟩ := Gets.call H
    refine Dv.call rfl trivial cal12 rfl (concourseref01_Around.c h933) ?_
    refine Dv.lit (intK .i64) ([a1, t932] : List Int) (css := [[eq (.int .i64 a1)], [eq (.int .i64 t932)]]) rfl trivial Try.underlying38 Try.underlying3 c3 z3 rfl (by decide) (by decide) rfl ⟨(cells_one (one_eq rfl)), ⟨(cells_one (one_eq rfl)), trivial⟩⟩ rfl rfl rfl ?_
    refine Dv.asg rfl trivial rfl ?_
    refine .fin ?_
    refine WP.seq ?_
    refine WP.reg [(0, false), (1, false), (2, false), (3, false), (4, false)] (by kernel_rfl) ?_
    obtain ⟨t934, h935, H⟩ := Gets.call H
    refine Dv.call rfl trivial cal13 rfl (concourseref01_RoomOf.c h935) ?_
    obtain ⟨t936, h937, H⟩ := Gets.call H
    refine Dv.call rfl trivial cal13 rfl (concourseref01_RoomOf.c h937) ?_
    refine Dv.mv rfl trivial rfl ?_
    refine Dv.lit strK ([t934, t936, t930] : List ByteArray) (css := [[eq (.string t934)], [eq (.string t936)], [eq (.string t930)]]) rfl trivial Try.underlying40 Try.underlying9 c9 z9 rfl (by decide) (by decide) rfl ⟨(cells_one (one_eq rfl)), ⟨(cells_one (one_eq rfl)), ⟨(cells_one (one_eq rfl)), trivial⟩⟩⟩ rfl rfl rfl ?_
    refine Dv.asg rfl trivial rfl ?_
    refine .fin ?_
    refine WP.seqr H id (fun p938 : Int × Bool => [(0, sl Edu.K a0), (1, eq (.int .i64 a1)), (2, eq (.string t930)), (6, eq (.bool false)), (7, eq g926.1), (8, eq (.pointer (some ⟨b928, 0, none⟩))), (9, eq (.int .i64 p929.1)), (13, sl (intK .i64) ([a1, t932] : List Int)), (14, sl strK ([t934, t936, t930] : List ByteArray)), (15, eq (.int .i64 p938.1)), (21, eq (.bool false)), (29, eq (.bool p929.2.1)), (62, eq (.bool p938.2))]) (fun p938 : Int × Bool => [blk b928 27 [sl Edu.K p929.2.2.1, sl boolK p929.2.2.2.1], TTab.O g926 p929.2.2.2.2] ++ F) (fun p938 H => ?_) (fun H => ?_)
    · refine WP.seq ?_
      refine WP.reg [(0, false), (1, false)] (by kernel_rfl) ?_
      obtain ⟨t939, h940, H⟩ := Gets.call H
      refine Dv.call rfl trivial cal20 rfl (concourselaw14_lives.c h940) ?_
      refine Dv.asg rfl trivial rfl ?_
      refine .fin ?_
      obtain rfl := Gets.out H
      exact WP.retL (fun _ _ h => h) rfl () trivial (.cons (res_tmp rfl) .nil) rfl (st_sel (L := [blk b928 27 [sl Edu.K p929.2.2.1, sl boolK p929.2.2.2.1], TTab.O g926 p929.2.2.2.2]) (F := F) [0, 1] 2 rfl rfl rfl)
    · refine WP.seq ?_
      refine WP.reg [(0, false)] (by kernel_rfl) ?_
      refine Dv.asg rfl trivial rfl ?_
      refine .fin ?_
      refine WP.block ?_
      refine WP.gh (l' := fun _ => [blk b928 27 [sl Edu.K p929.2.2.1, sl boolK p929.2.2.2.1], TTab.O g926 p929.2.2.2.2] ++ F) (gh_of (st_selg (L := [blk b928 27 [sl Edu.K p929.2.2.1, sl boolK p929.2.2.2.1], TTab.O g926 p929.2.2.2.2]) (F := F) [0, 1] 0 rfl rfl rfl)) (fun _ _ => ?_)
      refine WP.loopg (fun j_ (p992 : Int) => concourselaw14_TypingUsers.l0 k a1 p929 t930 t932 t934 t936 j_ p992) 0 H (fun p992 => [(0, sl Edu.K a0), (1, eq (.int .i64 a1)), (2, eq (.string t930)), (6, eq (.bool false)), (7, eq g926.1), (8, eq (.pointer (some ⟨b928, 0, none⟩))), (9, eq (.int .i64 p929.1)), (13, sl (intK .i64) ([a1, t932] : List Int)), (14, sl strK ([t934, t936, t930] : List ByteArray)), (15, eq (.int .i64 p992)), (21, eq (.bool false)), (29, eq (.bool p929.2.1))]) (fun p992 => [blk b928 27 [sl Edu.K p929.2.2.1, sl boolK p929.2.2.2.1], TTab.O g926 p929.2.2.2.2] ++ F) (weak_cons rfl (weak_cons rfl (weak_cons rfl (weak_cons rfl (weak_cons rfl (weak_cons rfl (weak_cons rfl (weak_cons rfl (weak_cons rfl (weak_cons rfl (weak_cons rfl (weak_cons rfl weak_nil)))))))))))) (List.Perm.refl _) ?_
      rintro j_ x941 H
      rcases j_ with _ | j991
      · exact (Gets.no H).elim
      replace H : Gets (concourselaw14_TypingUsers.l0 k a1 p929 t930 t932 t934 t936 (j991 + 1) x941) _ := H
      rw [concourselaw14_TypingUsers.l0] at H
      refine WP.seq ?_
      refine WP.seq ?_
      refine WP.reg [(0, false), (1, false)] (by kernel_rfl) ?_
      refine Dv.mv rfl trivial rfl ?_
      refine Dv.bin rfl trivial rfl rfl (fun _ => run_lt) ?_
      refine .fin ?_
      refine WP.cond rfl (fun c942 => ?_) (fun c942 => ?_)
      · replace H := Gets.ct H c942
        refine WP.skip ?_
        refine WP.seqr H id (fun p943 : Int × Bool => [(0, sl Edu.K a0), (1, eq (.int .i64 a1)), (2, eq (.string t930)), (6, eq (.bool false)), (7, eq g926.1), (8, eq (.pointer (some ⟨b928, 0, none⟩))), (9, eq (.int .i64 p929.1)), (13, sl (intK .i64) ([a1, t932] : List Int)), (14, sl strK ([t934, t936, t930] : List ByteArray)), (15, eq (.int .i64 x941)), (16, eq (.int .i64 p943.1)), (21, eq (.bool false)), (29, eq (.bool p929.2.1)), (62, eq (.bool (decide (x941 < 2)))), (66, eq (.bool p943.2))]) (fun p943 : Int × Bool => [blk b928 27 [sl Edu.K p929.2.2.1, sl boolK p929.2.2.2.1], TTab.O g926 p929.2.2.2.2] ++ F) (fun p943 H => ?_) (fun H => ?_)
        · refine WP.reg [(0, false), (1, false), (2, false)] (by kernel_rfl) ?_
          refine Dv.mv rfl trivial rfl ?_
          refine Dv.bin rfl trivial rfl rfl (fun _ => run_add) ?_
          refine Dv.asg rfl trivial rfl ?_
          refine .fin ?_
          exact Back.mk j991 (w64 (x941 + 1)) (Nat.lt_succ_self _) H (weak_cons rfl (weak_cons rfl (weak_cons rfl (weak_cons rfl (weak_cons rfl (weak_cons rfl (weak_cons rfl (weak_cons rfl (weak_cons rfl (weak_cons rfl (weak_cons rfl (weak_cons rfl weak_nil)))))))))))) (List.Perm.refl _)
        · refine WP.block ?_
          refine WP.seq ?_
          refine WP.reg [(0, false)] (by kernel_rfl) ?_
          refine Dv.asg rfl trivial rfl ?_
          refine .fin ?_
          refine WP.block ?_
          refine WP.gh (l' := fun _ => [blk b928 27 [sl Edu.K p929.2.2.1, sl boolK p929.2.2.2.1], TTab.O g926 p929.2.2.2.2] ++ F) (gh_of (st_selg (L := [blk b928 27 [sl Edu.K p929.2.2.1, sl boolK p929.2.2.2.1], TTab.O g926 p929.2.2.2.2]) (F := F) [0, 1] 0 rfl rfl rfl)) (fun _ _ => ?_)
          refine WP.loopg (fun j_ (p990 : Int) => concourselaw14_TypingUsers.l1 k a1 p929 t930 t932 t934 t936 x941 j_ p990) 0 H (fun p990 => [(0, sl Edu.K a0), (1, eq (.int .i64 a1)), (2, eq (.string t930)), (6, eq (.bool false)), (7, eq g926.1), (8, eq (.pointer (some ⟨b928, 0, none⟩))), (9, eq (.int .i64 p929.1)), (13, sl (intK .i64) ([a1, t932] : List Int)), (14, sl strK ([t934, t936, t930] : List ByteArray)), (15, eq (.int .i64 x941)), (16, eq (.int .i64 p990)), (21, eq (.bool false)), (29, eq (.bool p929.2.1)), (62, eq (.bool (decide (x941 < 2))))]) (fun p990 => [blk b928 27 [sl Edu.K p929.2.2.1, sl boolK p929.2.2.2.1], TTab.O g926 p929.2.2.2.2] ++ F) (weak_cons rfl (weak_cons rfl (weak_cons rfl (weak_cons rfl (weak_cons rfl (weak_cons rfl (weak_cons rfl (weak_cons rfl (weak_cons rfl (weak_cons rfl (weak_cons rfl (weak_cons rfl (weak_cons rfl (weak_cons rfl weak_nil)))))))))))))) (List.Perm.refl _) ?_
          rintro j_ x944 H
          rcases j_ with _ | j989
          · exact (Gets.no H).elim
          replace H : Gets (concourselaw14_TypingUsers.l1 k a1 p929 t930 t932 t934 t936 x941 (j989 + 1) x944) _ := H
          rw [concourselaw14_TypingUsers.l1] at H
          refine WP.seq ?_
          refine WP.seq ?_
          refine WP.reg [(0, false), (1, false)] (by kernel_rfl) ?_
          refine Dv.mv rfl trivial rfl ?_
          refine Dv.bin rfl trivial rfl rfl (fun _ => run_lt) ?_
          refine .fin ?_
          refine WP.cond rfl (fun c945 => ?_) (fun c945 => ?_)
          · replace H := Gets.ct H c945
            refine WP.skip ?_
            refine WP.seqr H id (fun p946 : Int × Bool × Bool => [(0, sl Edu.K a0), (1, eq (.int .i64 a1)), (2, eq (.string t930)), (6, eq (.bool false)), (7, eq g926.1), (8, eq (.pointer (some ⟨b928, 0, none⟩))), (9, eq (.int .i64 p929.1)), (13, sl (intK .i64) ([a1, t932] : List Int)), (14, sl strK ([t934, t936, t930] : List ByteArray)), (15, eq (.int .i64 x941)), (16, eq (.int .i64 x944)), (17, eq (.int .i64 p946.1)), (21, eq (.bool false)), (29, eq (.bool p929.2.1)), (62, eq (.bool (decide (x941 < 2)))), (66, eq (.bool (decide (x944 < 3)))), (115, eq (.bool p946.2.1)), (117, eq (.bool p946.2.2))]) (fun p946 : Int × Bool × Bool => [blk b928 27 [sl Edu.K p929.2.2.1, sl boolK p929.2.2.2.1], TTab.O g926 p929.2.2.2.2] ++ F) (fun p946 H => ?_) (fun H => ?_)
            · refine WP.reg [(0, false), (1, false), (2, false)] (by kernel_rfl) ?_
              refine Dv.mv rfl trivial rfl ?_
              refine Dv.bin rfl trivial rfl rfl (fun _ => run_add) ?_
              refine Dv.asg rfl trivial rfl ?_
              refine .fin ?_
              exact Back.mk j989 (w64 (x944 + 1)) (Nat.lt_succ_self _) H (weak_cons rfl (weak_cons rfl (weak_cons rfl (weak_cons rfl (weak_cons rfl (weak_cons rfl (weak_cons rfl (weak_cons rfl (weak_cons rfl (weak_cons rfl (weak_cons rfl (weak_cons rfl (weak_cons rfl (weak_cons rfl weak_nil)))))))))))))) (List.Perm.refl _)
            · refine WP.block ?_
              refine WP.seq ?_
              refine WP.seq ?_
              refine WP.gh (l' := fun (g947 : Nat × OV × OV) => [blk g947.1 59 [eq g947.2.1.1, eq g947.2.2.1], own Edu.K g947.2.1.1 p929.2.2.2.2.fl, HHeap.O g947.2.2 p929.2.2.2.2.fends, blk b928 27 [sl Edu.K p929.2.2.1, sl boolK p929.2.2.2.1]] ++ F) (gh_of (TTab.opn 1 rfl)) (fun g947 h948 => ?_)
              refine WP.dreg Try.checked.mixed [(0, false), (1, false), (2, false), (3, false), (4, false), (5, false), (6, false), (7, false), (8, false), (10, false), (11, false), (12, false), (13, false), (14, false), (15, false), (16, false), (17, false), (18, false), (9, true), (19, true), (20, false), (21, false), (22, false), (23, false), (24, false), (25, false), (26, false), (27, false), (28, false), (29, false), (30, false), (31, false), (32, false), (33, false), (34, false), (35, false), (36, false), (37, false), (38, false), (39, false), (40, false), (41, false), (42, false), (43, false), (44, false), (45, false), (46, false)] (by kernel_rfl) ?_
              refine Dv.mv rfl trivial rfl ?_
              refine Dv.mv rfl trivial rfl ?_
              refine Dv.mv rfl trivial rfl ?_
              obtain ⟨g949, H⟩ := Gets.grd H
              refine Dv.ixr rfl trivial rfl rfl Try.underlying40 Try.underlying9 c9 g949.1 g949.2 ?_
              refine Dv.ldr rfl trivial rfl Try.underlying9 rfl rfl ?_
              refine Dv.mv rfl trivial rfl ?_
              refine Dv.mv rfl trivial rfl ?_
              obtain ⟨g950, H⟩ := Gets.grd H
              refine Dv.ixr rfl trivial rfl rfl Try.underlying38 Try.underlying3 c3 g950.1 g950.2 ?_
              refine Dv.ldr rfl trivial rfl Try.underlying3 rfl rfl ?_
              refine Dv.ldbs rfl trivial rfl Try.underlying27 rfl c27 (mem_at 3 rfl) (Nat.le_of_ble_eq_true rfl) ?_
              refine Dv.mv rfl trivial rfl ?_
              refine Dv.mv rfl trivial rfl ?_
              obtain ⟨g951, H⟩ := Gets.grd H
              refine Dv.ixr rfl trivial rfl rfl Try.underlying40 Try.underlying9 c9 g951.1 g951.2 ?_
              refine Dv.ldr rfl trivial rfl Try.underlying9 rfl rfl ?_
              refine Dv.mv rfl trivial rfl ?_
              refine Dv.mv rfl trivial rfl ?_
              obtain ⟨g952, H⟩ := Gets.grd H
              refine Dv.ixr rfl trivial rfl rfl Try.underlying38 Try.underlying3 c3 g952.1 g952.2 ?_
              refine Dv.ldr rfl trivial rfl Try.underlying3 rfl rfl ?_
              obtain ⟨t953, h954, H⟩ := Gets.call H
              refine Dv.callx (pre := [blk g947.1 59 [eq g947.2.1.1, eq g947.2.2.1], own Edu.K g947.2.1.1 p929.2.2.2.2.fl]) (F := [HHeap.O g947.2.2 p929.2.2.2.2.fends, blk b928 27 [sl Edu.K p929.2.2.1, sl boolK p929.2.2.2.1]] ++ F) (fun g955 : OV => [blk g947.1 59 [eq g947.2.1.1, eq g947.2.2.1], own Edu.K g947.2.1.1 p929.2.2.2.2.fl, own strK g955.1 t953, HHeap.O g947.2.2 p929.2.2.2.2.fends, blk b928 27 [sl Edu.K p929.2.2.1, sl boolK p929.2.2.2.1]] ++ F) rfl trivial cal15 rfl (Tr.weak (typing_Table_Users.c h954 (b0_ := g947.1) (v0_0 := g947.2.1) (v0_1 := g947.2.2)) (.cons (wk_ptr h948) (.cons wk_id (.cons wk_id .nil)))) (perm_to (L := [blk g947.1 59 [eq g947.2.1.1, eq g947.2.2.1], own Edu.K g947.2.1.1 p929.2.2.2.2.fl, HHeap.O g947.2.2 p929.2.2.2.2.fends, blk b928 27 [sl Edu.K p929.2.2.1, sl boolK p929.2.2.2.1]]) (F := F) [0, 1, 2, 3] rfl rfl rfl) rfl (fun _ => pendc (pend_in (fun _ => trivial) (pend_in (fun _ => trivial) (pend_in (fun _ => trivial) (pend_in (fun _ => trivial) (pend_in (fun _ => trivial) (pend_in (fun _ => trivial) (pend_in (fun _ => trivial) (pend_in (fun _ => trivial) (pend_in (fun _ => (mem_at 4 rfl)) (pend_by (by kernel_rfl) (pend_by (by kernel_rfl) (pend_by (by kernel_rfl) (pend_by (by kernel_rfl) (pend_by (by kernel_rfl) (pend_by (by kernel_rfl) (pend_by (by kernel_rfl) (pend_by (by kernel_rfl) (pend_by (by kernel_rfl) pend_nil))))))))))))))))))) (fun g955 _ => ?_)
              obtain ⟨t956, h957, H⟩ := Gets.call H
              refine Dv.callx (pre := []) (F := [blk g947.1 59 [eq g947.2.1.1, eq g947.2.2.1], own Edu.K g947.2.1.1 p929.2.2.2.2.fl, own strK g955.1 t953, HHeap.O g947.2.2 p929.2.2.2.2.fends, blk b928 27 [sl Edu.K p929.2.2.1, sl boolK p929.2.2.2.1]] ++ F) (fun g958 : OV => [own strK g958.1 t956, blk g947.1 59 [eq g947.2.1.1, eq g947.2.2.1], own Edu.K g947.2.1.1 p929.2.2.2.2.fl, own strK g955.1 t953, HHeap.O g947.2.2 p929.2.2.2.2.fends, blk b928 27 [sl Edu.K p929.2.2.1, sl boolK p929.2.2.2.1]] ++ F) rfl trivial cal16 rfl (concourseref14_Users.c h957) (perm_to (L := [blk g947.1 59 [eq g947.2.1.1, eq g947.2.2.1], own Edu.K g947.2.1.1 p929.2.2.2.2.fl, own strK g955.1 t953, HHeap.O g947.2.2 p929.2.2.2.2.fends, blk b928 27 [sl Edu.K p929.2.2.1, sl boolK p929.2.2.2.1]]) (F := F) [0, 1, 2, 3, 4] rfl rfl rfl) rfl (fun _ => pendc (pend_bits (by kernel_rfl))) (fun g958 _ => ?_)
              obtain ⟨t959, h960, H⟩ := Gets.call H
              refine Dv.calll (B := [own strK g955.1 t953, own strK g958.1 t956]) (F := [blk g947.1 59 [eq g947.2.1.1, eq g947.2.2.1], own Edu.K g947.2.1.1 p929.2.2.2.2.fl, HHeap.O g947.2.2 p929.2.2.2.2.fends, blk b928 27 [sl Edu.K p929.2.2.1, sl boolK p929.2.2.2.1]] ++ F) rfl trivial cal14 rfl (Pt.lend _ (concourseref01_SameTexts.c h960) (.cons (lt_own (mem_at 0 rfl)) (.cons (lt_own (mem_at 1 rfl)) .nil)) flat_eq) (perm_to (L := [own strK g958.1 t956, blk g947.1 59 [eq g947.2.1.1, eq g947.2.2.1], own Edu.K g947.2.1.1 p929.2.2.2.2.fl, own strK g955.1 t953, HHeap.O g947.2.2 p929.2.2.2.2.fends, blk b928 27 [sl Edu.K p929.2.2.1, sl boolK p929.2.2.2.1]]) (F := F) [3, 0, 1, 2, 4, 5] rfl rfl rfl) ?_
              refine Dv.un rfl trivial rfl (fun _ => run_not _) ?_
              refine Dv.mv rfl trivial rfl ?_
              cases c961 : !t959
              · replace H := Gets.cf H c961
                refine Dv.mv rfl ⟨_, _, rfl, rfl, rfl⟩ rfl ?_
                refine Dv.mv rfl ⟨_, _, rfl, rfl, rfl⟩ rfl ?_
                refine Dv.mv rfl ⟨_, _, rfl, rfl, rfl⟩ rfl ?_
                obtain ⟨g963, H⟩ := Gets.grd H
                refine Dv.ixr rfl ⟨_, _, rfl, rfl, rfl⟩ rfl rfl Try.underlying40 Try.underlying9 c9 g963.1 g963.2 ?_
                refine Dv.ldr rfl ⟨_, _, rfl, rfl, rfl⟩ rfl Try.underlying9 rfl rfl ?_
                refine Dv.mv rfl ⟨_, _, rfl, rfl, rfl⟩ rfl ?_
                refine Dv.mv rfl ⟨_, _, rfl, rfl, rfl⟩ rfl ?_
                refine Dv.mv rfl ⟨_, _, rfl, rfl, rfl⟩ rfl ?_
                obtain ⟨g964, H⟩ := Gets.grd H
                refine Dv.ixr rfl ⟨_, _, rfl, rfl, rfl⟩ rfl rfl Try.underlying38 Try.underlying3 c3 g964.1 g964.2 ?_
                refine Dv.ldr rfl ⟨_, _, rfl, rfl, rfl⟩ rfl Try.underlying3 rfl rfl ?_
                obtain ⟨t965, h966, H⟩ := Gets.call H
                refine Dv.calll (B := [blk g947.1 59 [eq g947.2.1.1, eq g947.2.2.1], own Edu.K g947.2.1.1 p929.2.2.2.2.fl]) (F := [own strK g958.1 t956, own strK g955.1 t953, HHeap.O g947.2.2 p929.2.2.2.2.fends, blk b928 27 [sl Edu.K p929.2.2.1, sl boolK p929.2.2.2.1]] ++ F) rfl ⟨_, _, rfl, rfl, rfl⟩ cal17 rfl (Tr.weak (typing_Table_Types.c h966 (b0_ := g947.1) (v0_0 := g947.2.1) (v0_1 := g947.2.2)) (.cons (wk_ptr h948) (.cons wk_id (.cons wk_id (.cons wk_id .nil))))) (perm_to (L := [own strK g958.1 t956, blk g947.1 59 [eq g947.2.1.1, eq g947.2.2.1], own Edu.K g947.2.1.1 p929.2.2.2.2.fl, own strK g955.1 t953, HHeap.O g947.2.2 p929.2.2.2.2.fends, blk b928 27 [sl Edu.K p929.2.2.1, sl boolK p929.2.2.2.1]]) (F := F) [1, 2, 0, 3, 4, 5] rfl rfl rfl) ?_
                refine Dv.ldbs rfl ⟨_, _, rfl, rfl, rfl⟩ rfl Try.underlying27 rfl c27 (mem_at 5 rfl) (Nat.le_of_ble_eq_true rfl) ?_
                refine Dv.mv rfl ⟨_, _, rfl, rfl, rfl⟩ rfl ?_
                refine Dv.mv rfl ⟨_, _, rfl, rfl, rfl⟩ rfl ?_
                obtain ⟨g967, H⟩ := Gets.grd H
                refine Dv.ixr rfl ⟨_, _, rfl, rfl, rfl⟩ rfl rfl Try.underlying40 Try.underlying9 c9 g967.1 g967.2 ?_
                refine Dv.ldr rfl ⟨_, _, rfl, rfl, rfl⟩ rfl Try.underlying9 rfl rfl ?_
                refine Dv.mv rfl ⟨_, _, rfl, rfl, rfl⟩ rfl ?_
                refine Dv.mv rfl ⟨_, _, rfl, rfl, rfl⟩ rfl ?_
                refine Dv.mv rfl ⟨_, _, rfl, rfl, rfl⟩ rfl ?_
                obtain ⟨g968, H⟩ := Gets.grd H
                refine Dv.ixr rfl ⟨_, _, rfl, rfl, rfl⟩ rfl rfl Try.underlying38 Try.underlying3 c3 g968.1 g968.2 ?_
                refine Dv.ldr rfl ⟨_, _, rfl, rfl, rfl⟩ rfl Try.underlying3 rfl rfl ?_
                obtain ⟨t969, h970, H⟩ := Gets.call H
                refine Dv.call rfl ⟨_, _, rfl, rfl, rfl⟩ cal18 rfl (concourseref14_Types.c h970) ?_
                refine Dv.bin rfl ⟨_, _, rfl, rfl, rfl⟩ rfl rfl (fun _ => run_bne Try.underlying4) ?_
                refine Dv.pickF rfl trivial rfl rfl ?_
                refine .fin ?_
                refine WP.cond rfl (fun c971 => ?_) (fun c971 => ?_)
                · replace H := Gets.ct H c971
                  refine WP.seq ?_
                  refine WP.reg [(0, false)] (by kernel_rfl) ?_
                  refine Dv.asg rfl trivial rfl ?_
                  refine .fin ?_
                  refine WP.gh (l' := fun _ : Unit => [TTab.O g926 p929.2.2.2.2, own strK g958.1 t956, own strK g955.1 t953, blk b928 27 [sl Edu.K p929.2.2.1, sl boolK p929.2.2.2.1]] ++ F) (gh_of (TTab.shut (p := g926) (m := p929.2.2.2.2) (r := [own strK g958.1 t956, own strK g955.1 t953, blk b928 27 [sl Edu.K p929.2.2.1, sl boolK p929.2.2.2.1]] ++ F) (g947.1, g947.2.1, g947.2.2) h948 (perm_to (L := [own strK g958.1 t956, blk g947.1 59 [eq g947.2.1.1, eq g947.2.2.1], own Edu.K g947.2.1.1 p929.2.2.2.2.fl, own strK g955.1 t953, HHeap.O g947.2.2 p929.2.2.2.2.fends, blk b928 27 [sl Edu.K p929.2.2.1, sl boolK p929.2.2.2.1]]) (F := F) [1, 2, 4, 0, 3, 5] rfl rfl rfl))) (fun _ _ => ?_)
                  replace H := Gets.outr H
                  replace H := Gets.outr H
                  replace H := Gets.outr H
                  obtain rfl := Gets.out H
                  exact WP.retL (fun _ _ h => h) rfl () trivial (.cons (res_tmp rfl) .nil) rfl (st_sel (L := [TTab.O g926 p929.2.2.2.2, own strK g958.1 t956, own strK g955.1 t953, blk b928 27 [sl Edu.K p929.2.2.1, sl boolK p929.2.2.2.1]]) (F := F) [0, 1, 2, 3] 4 rfl rfl rfl)
                · replace H := Gets.cf H c971
                  refine WP.skip ?_
                  refine WP.seq ?_
                  refine WP.reg [(0, false)] (by kernel_rfl) ?_
                  refine Dv.asg rfl trivial rfl ?_
                  refine .fin ?_
                  refine WP.block ?_
                  refine WP.gh (l' := fun _ : Unit => [TTab.O g926 p929.2.2.2.2, own strK g958.1 t956, own strK g955.1 t953, blk b928 27 [sl Edu.K p929.2.2.1, sl boolK p929.2.2.2.1]] ++ F) (gh_of (TTab.shut (p := g926) (m := p929.2.2.2.2) (r := [own strK g958.1 t956, own strK g955.1 t953, blk b928 27 [sl Edu.K p929.2.2.1, sl boolK p929.2.2.2.1]] ++ F) (g947.1, g947.2.1, g947.2.2) h948 (perm_to (L := [own strK g958.1 t956, blk g947.1 59 [eq g947.2.1.1, eq g947.2.2.1], own Edu.K g947.2.1.1 p929.2.2.2.2.fl, own strK g955.1 t953, HHeap.O g947.2.2 p929.2.2.2.2.fends, blk b928 27 [sl Edu.K p929.2.2.1, sl boolK p929.2.2.2.1]]) (F := F) [1, 2, 4, 0, 3, 5] rfl rfl rfl))) (fun _ _ => ?_)
                  refine WP.gh (l' := fun _ => [blk b928 27 [sl Edu.K p929.2.2.1, sl boolK p929.2.2.2.1], TTab.O g926 p929.2.2.2.2, own strK g958.1 t956, own strK g955.1 t953] ++ F) (gh_of (st_selg (L := [TTab.O g926 p929.2.2.2.2, own strK g958.1 t956, own strK g955.1 t953, blk b928 27 [sl Edu.K p929.2.2.1, sl boolK p929.2.2.2.1]]) (F := F) [3, 0, 1, 2] 0 rfl rfl rfl)) (fun _ _ => ?_)
                  refine WP.loopg (fun j_ (p988 : Int) => concourselaw14_TypingUsers.l2 k a1 p929 t930 t932 t934 t936 x941 x944 t965 t969 j_ p988) 0 H (fun p988 => [(0, sl Edu.K a0), (1, eq (.int .i64 a1)), (2, eq (.string t930)), (6, eq (.bool false)), (7, eq g926.1), (8, eq (.pointer (some ⟨b928, 0, none⟩))), (9, eq (.int .i64 p929.1)), (13, sl (intK .i64) ([a1, t932] : List Int)), (14, sl strK ([t934, t936, t930] : List ByteArray)), (15, eq (.int .i64 x941)), (16, eq (.int .i64 x944)), (17, eq (.int .i64 p988)), (21, eq (.bool false)), (29, eq (.bool p929.2.1)), (62, eq (.bool (decide (x941 < 2)))), (66, eq (.bool (decide (x944 < 3)))), (115, eq (.bool (t965 != t969)))]) (fun p988 => [blk b928 27 [sl Edu.K p929.2.2.1, sl boolK p929.2.2.2.1], TTab.O g926 p929.2.2.2.2, own strK g958.1 t956, own strK g955.1 t953] ++ F) (weak_cons rfl (weak_cons rfl (weak_cons rfl (weak_cons rfl (weak_cons rfl (weak_cons rfl (weak_cons rfl (weak_cons rfl (weak_cons rfl (weak_cons rfl (weak_cons rfl (weak_cons rfl (weak_cons rfl (weak_cons rfl (weak_cons rfl (weak_cons rfl (weak_cons rfl weak_nil))))))))))))))))) (List.Perm.refl _) ?_
                  rintro j_ x972 H
                  rcases j_ with _ | j987
                  · exact (Gets.no H).elim
                  replace H : Gets (concourselaw14_TypingUsers.l2 k a1 p929 t930 t932 t934 t936 x941 x944 t965 t969 (j987 + 1) x972) _ := H
                  rw [concourselaw14_TypingUsers.l2] at H
                  refine WP.seq ?_
                  refine WP.seq ?_
                  refine WP.reg [(0, false), (1, false)] (by kernel_rfl) ?_
                  refine Dv.mv rfl trivial rfl ?_
                  refine Dv.bin rfl trivial rfl rfl (fun _ => run_lt) ?_
                  refine .fin ?_
                  refine WP.cond rfl (fun c973 => ?_) (fun c973 => ?_)
                  · replace H := Gets.ct H c973
                    refine WP.skip ?_
                    refine WP.seq ?_
                    refine WP.block ?_
                    refine WP.seq ?_
                    refine WP.reg [(0, false), (1, false), (2, false)] (by kernel_rfl) ?_
                    refine Dv.mv rfl trivial rfl ?_
                    obtain ⟨t974, h975, H⟩ := Gets.call H
                    refine Dv.call rfl trivial cal19 rfl (concourseref01_UserOf.c h975) ?_
                    refine Dv.asg rfl trivial rfl ?_
                    refine .fin ?_
                    refine WP.seq ?_
                    refine WP.gh (l' := fun (g976 : Nat × OV × OV) => [blk g976.1 59 [eq g976.2.1.1, eq g976.2.2.1], own Edu.K g976.2.1.1 p929.2.2.2.2.fl, HHeap.O g976.2.2 p929.2.2.2.2.fends, blk b928 27 [sl Edu.K p929.2.2.1, sl boolK p929.2.2.2.1], own strK g958.1 t956, own strK g955.1 t953] ++ F) (gh_of (TTab.opn 1 rfl)) (fun g976 h977 => ?_)
                    refine WP.dreg Try.checked.mixed [(0, false), (1, false), (2, false), (3, false), (4, false), (5, false), (6, false), (7, false), (8, false), (9, false), (10, false), (11, false), (12, false), (13, false), (14, false), (15, false), (16, false), (17, false), (18, false), (19, false), (20, false), (21, false), (22, false)] (by kernel_rfl) ?_
                    refine Dv.mv rfl trivial rfl ?_
                    refine Dv.mv rfl trivial rfl ?_
                    refine Dv.mv rfl trivial rfl ?_
                    obtain ⟨g978, H⟩ := Gets.grd H
                    refine Dv.ixr rfl trivial rfl rfl Try.underlying40 Try.underlying9 c9 g978.1 g978.2 ?_
                    refine Dv.ldr rfl trivial rfl Try.underlying9 rfl rfl ?_
                    refine Dv.mv rfl trivial rfl ?_
                    refine Dv.mv rfl trivial rfl ?_
                    refine Dv.mv rfl trivial rfl ?_
                    obtain ⟨g979, H⟩ := Gets.grd H
                    refine Dv.ixr rfl trivial rfl rfl Try.underlying38 Try.underlying3 c3 g979.1 g979.2 ?_
                    refine Dv.ldr rfl trivial rfl Try.underlying3 rfl rfl ?_
                    obtain ⟨t980, h981, H⟩ := Gets.call H
                    refine Dv.calll (B := [blk g976.1 59 [eq g976.2.1.1, eq g976.2.2.1], own Edu.K g976.2.1.1 p929.2.2.2.2.fl]) (F := [HHeap.O g976.2.2 p929.2.2.2.2.fends, blk b928 27 [sl Edu.K p929.2.2.1, sl boolK p929.2.2.2.1], own strK g958.1 t956, own strK g955.1 t953] ++ F) rfl trivial cal17 rfl (Tr.weak (typing_Table_Types.c h981 (b0_ := g976.1) (v0_0 := g976.2.1) (v0_1 := g976.2.2)) (.cons (wk_ptr h977) (.cons wk_id (.cons wk_id (.cons wk_id .nil))))) (perm_to (L := [blk g976.1 59 [eq g976.2.1.1, eq g976.2.2.1], own Edu.K g976.2.1.1 p929.2.2.2.2.fl, HHeap.O g976.2.2 p929.2.2.2.2.fends, blk b928 27 [sl Edu.K p929.2.2.1, sl boolK p929.2.2.2.1], own strK g958.1 t956, own strK g955.1 t953]) (F := F) [0, 1, 2, 3, 4, 5] rfl rfl rfl) ?_
                    refine Dv.ldbs rfl trivial rfl Try.underlying27 rfl c27 (mem_at 3 rfl) (Nat.le_of_ble_eq_true rfl) ?_
                    refine Dv.mv rfl trivial rfl ?_
                    refine Dv.mv rfl trivial rfl ?_
                    obtain ⟨g982, H⟩ := Gets.grd H
                    refine Dv.ixr rfl trivial rfl rfl Try.underlying40 Try.underlying9 c9 g982.1 g982.2 ?_
                    refine Dv.ldr rfl trivial rfl Try.underlying9 rfl rfl ?_
                    refine Dv.mv rfl trivial rfl ?_
                    refine Dv.mv rfl trivial rfl ?_
                    refine Dv.mv rfl trivial rfl ?_
                    obtain ⟨g983, H⟩ := Gets.grd H
                    refine Dv.ixr rfl trivial rfl rfl Try.underlying38 Try.underlying3 c3 g983.1 g983.2 ?_
                    refine Dv.ldr rfl trivial rfl Try.underlying3 rfl rfl ?_
                    obtain ⟨t984, h985, H⟩ := Gets.call H
                    refine Dv.call rfl trivial cal18 rfl (concourseref14_Types.c h985) ?_
                    refine Dv.bin rfl trivial rfl rfl (fun _ => run_bne Try.underlying4) ?_
                    refine .fin ?_
                    refine WP.cond rfl (fun c986 => ?_) (fun c986 => ?_)
                    · replace H := Gets.ct H c986
                      refine WP.seq ?_
                      refine WP.reg [(0, false)] (by kernel_rfl) ?_
                      refine Dv.asg rfl trivial rfl ?_
                      refine .fin ?_
                      refine WP.gh (l' := fun _ : Unit => [TTab.O g926 p929.2.2.2.2, blk b928 27 [sl Edu.K p929.2.2.1, sl boolK p929.2.2.2.1], own strK g958.1 t956, own strK g955.1 t953] ++ F) (gh_of (TTab.shut (p := g926) (m := p929.2.2.2.2) (r := [blk b928 27 [sl Edu.K p929.2.2.1, sl boolK p929.2.2.2.1], own strK g958.1 t956, own strK g955.1 t953] ++ F) (g976.1, g976.2.1, g976.2.2) h977 (perm_to (L := [blk g976.1 59 [eq g976.2.1.1, eq g976.2.2.1], own Edu.K g976.2.1.1 p929.2.2.2.2.fl, HHeap.O g976.2.2 p929.2.2.2.2.fends, blk b928 27 [sl Edu.K p929.2.2.1, sl boolK p929.2.2.2.1], own strK g958.1 t956, own strK g955.1 t953]) (F := F) [0, 1, 2, 3, 4, 5] rfl rfl rfl))) (fun _ _ => ?_)
                      replace H := Gets.outr H
                      replace H := Gets.outr H
                      replace H := Gets.outr H
                      obtain rfl := Gets.out H
                      exact WP.retL (fun _ _ h => h) rfl () trivial (.cons (res_tmp rfl) .nil) rfl (st_sel (L := [TTab.O g926 p929.2.2.2.2, blk b928 27 [sl Edu.K p929.2.2.1, sl boolK p929.2.2.2.1], own strK g958.1 t956, own strK g955.1 t953]) (F := F) [0, 1, 2, 3] 4 rfl rfl rfl)
                    · replace H := Gets.cf H c986
                      refine WP.skip ?_
                      refine WP.reg [(0, false), (1, false), (2, false)] (by kernel_rfl) ?_
                      refine Dv.mv rfl trivial rfl ?_
                      refine Dv.bin rfl trivial rfl rfl (fun _ => run_add) ?_
                      refine Dv.asg rfl trivial rfl ?_
                      refine .fin ?_
                      refine Dn.gh (l' := fun _ : Unit => [TTab.O g926 p929.2.2.2.2, blk b928 27 [sl Edu.K p929.2.2.1, sl boolK p929.2.2.2.1], own strK g958.1 t956, own strK g955.1 t953] ++ F) (gh_of (TTab.shut (p := g926) (m := p929.2.2.2.2) (r := [blk b928 27 [sl Edu.K p929.2.2.1, sl boolK p929.2.2.2.1], own strK g958.1 t956, own strK g955.1 t953] ++ F) (g976.1, g976.2.1, g976.2.2) h977 (perm_to (L := [blk g976.1 59 [eq g976.2.1.1, eq g976.2.2.1], own Edu.K g976.2.1.1 p929.2.2.2.2.fl, HHeap.O g976.2.2 p929.2.2.2.2.fends, blk b928 27 [sl Edu.K p929.2.2.1, sl boolK p929.2.2.2.1], own strK g958.1 t956, own strK g955.1 t953]) (F := F) [0, 1, 2, 3, 4, 5] rfl rfl rfl))) (fun _ _ => ?_)
                      refine Dn.gh (l' := fun _ : Unit => [blk b928 27 [sl Edu.K p929.2.2.1, sl boolK p929.2.2.2.1], TTab.O g926 p929.2.2.2.2, own strK g958.1 t956, own strK g955.1 t953] ++ F) (gh_of (st_selg (L := [TTab.O g926 p929.2.2.2.2, blk b928 27 [sl Edu.K p929.2.2.1, sl boolK p929.2.2.2.1], own strK g958.1 t956, own strK g955.1 t953]) (F := F) [1, 0, 2, 3] 0 rfl rfl rfl)) (fun _ _ => ?_)
                      exact Back.mk j987 (w64 (x972 + 1)) (Nat.lt_succ_self _) H (weak_cons rfl (weak_cons rfl (weak_cons rfl (weak_cons rfl (weak_cons rfl (weak_cons rfl (weak_cons rfl (weak_cons rfl (weak_cons rfl (weak_cons rfl (weak_cons rfl (weak_cons rfl (weak_cons rfl (weak_cons rfl (weak_cons rfl (weak_cons rfl (weak_cons rfl weak_nil))))))))))))))))) (List.Perm.refl _)
                  · replace H := Gets.cf H c973
                    refine WP.exit ?_
                    replace H := Gets.out H
                    refine Dn.gh (l' := fun _ : Unit => [blk b928 27 [sl Edu.K p929.2.2.1, sl boolK p929.2.2.2.1], TTab.O g926 p929.2.2.2.2] ++ F) (gh_of (st_selg (L := [blk b928 27 [sl Edu.K p929.2.2.1, sl boolK p929.2.2.2.1], TTab.O g926 p929.2.2.2.2, own strK g958.1 t956, own strK g955.1 t953]) (F := F) [2, 3, 0, 1] 2 rfl rfl rfl)) (fun _ _ => ?_)
                    exact Jn.mk (x972, (t965 != t969), decide (x972 < 9)) H (weak_cons rfl (weak_cons rfl (weak_cons rfl (weak_cons rfl (weak_cons rfl (weak_cons rfl (weak_cons rfl (weak_cons rfl (weak_cons rfl (weak_cons rfl (weak_cons rfl (weak_cons rfl (weak_cons rfl (weak_cons rfl (weak_cons rfl (weak_cons rfl (weak_cons rfl (weak_cons rfl weak_nil)))))))))))))))))) (List.Perm.refl _)
              · replace H := Gets.ct H c961
                refine Dv.skip rfl ⟨_, _, rfl, rfl, .inl rfl⟩ ?_
                refine Dv.skip rfl ⟨_, _, rfl, rfl, .inl rfl⟩ ?_
                refine Dv.skip rfl ⟨_, _, rfl, rfl, .inl rfl⟩ ?_
                refine Dv.skip rfl ⟨_, _, rfl, rfl, .inl rfl⟩ ?_
                refine Dv.skip rfl ⟨_, _, rfl, rfl, .inl rfl⟩ ?_
                refine Dv.skip rfl ⟨_, _, rfl, rfl, .inl rfl⟩ ?_
                refine Dv.skip rfl ⟨_, _, rfl, rfl, .inl rfl⟩ ?_
                refine Dv.skip rfl ⟨_, _, rfl, rfl, .inl rfl⟩ ?_
                refine Dv.skip rfl ⟨_, _, rfl, rfl, .inl rfl⟩ ?_
                refine Dv.skip rfl ⟨_, _, rfl, rfl, .inl rfl⟩ ?_
                refine Dv.skip rfl ⟨_, _, rfl, rfl, .inl rfl⟩ ?_
                refine Dv.skip rfl ⟨_, _, rfl, rfl, .inl rfl⟩ ?_
                refine Dv.skip rfl ⟨_, _, rfl, rfl, .inl rfl⟩ ?_
                refine Dv.skip rfl ⟨_, _, rfl, rfl, .inl rfl⟩ ?_
                refine Dv.skip rfl ⟨_, _, rfl, rfl, .inl rfl⟩ ?_
                refine Dv.skip rfl ⟨_, _, rfl, rfl, .inl rfl⟩ ?_
                refine Dv.skip rfl ⟨_, _, rfl, rfl, .inl rfl⟩ ?_
                refine Dv.skip rfl ⟨_, _, rfl, rfl, .inl rfl⟩ ?_
                refine Dv.skip rfl ⟨_, _, rfl, rfl, .inl rfl⟩ ?_
                refine Dv.skip rfl ⟨_, _, rfl, rfl, .inl rfl⟩ ?_
                refine Dv.skip rfl ⟨_, _, rfl, rfl, .inl rfl⟩ ?_
                refine Dv.skip rfl ⟨_, _, rfl, rfl, .inl rfl⟩ ?_
                refine Dv.skip rfl ⟨_, _, rfl, rfl, .inl rfl⟩ ?_
                refine Dv.pickT rfl trivial rfl rfl ?_
                refine .fin ?_
                refine WP.cond rfl (fun _ => ?_) nofun
                refine WP.seq ?_
                refine WP.reg [(0, false)] (by kernel_rfl) ?_
                refine Dv.asg rfl trivial rfl ?_
                refine .fin ?_
                refine WP.gh (l' := fun _ : Unit => [TTab.O g926 p929.2.2.2.2, own strK g958.1 t956, own strK g955.1 t953, blk b928 27 [sl Edu.K p929.2.2.1, sl boolK p929.2.2.2.1]] ++ F) (gh_of (TTab.shut (p := g926) (m := p929.2.2.2.2) (r := [own strK g958.1 t956, own strK g955.1 t953, blk b928 27 [sl Edu.K p929.2.2.1, sl boolK p929.2.2.2.1]] ++ F) (g947.1, g947.2.1, g947.2.2) h948 (perm_to (L := [own strK g958.1 t956, blk g947.1 59 [eq g947.2.1.1, eq g947.2.2.1], own Edu.K g947.2.1.1 p929.2.2.2.2.fl, own strK g955.1 t953, HHeap.O g947.2.2 p929.2.2.2.2.fends, blk b928 27 [sl Edu.K p929.2.2.1, sl boolK p929.2.2.2.1]]) (F := F) [1, 2, 4, 0, 3, 5] rfl rfl rfl))) (fun _ _ => ?_)
                replace H := Gets.outr H
                replace H := Gets.outr H
                replace H := Gets.outr H
                obtain rfl := Gets.out H
                exact WP.retL (fun _ _ h => h) rfl () trivial (.cons (res_tmp rfl) .nil) rfl (st_sel (L := [TTab.O g926 p929.2.2.2.2, own strK g958.1 t956, own strK g955.1 t953, blk b928 27 [sl Edu.K p929.2.2.1, sl boolK p929.2.2.2.1]]) (F := F) [0, 1, 2, 3] 4 rfl rfl rfl)
          · replace H := Gets.cf H c945
            refine WP.exit ?_
            replace H := Gets.out H
            exact Jn.mk (x944, decide (x944 < 3)) H (weak_cons rfl (weak_cons rfl (weak_cons rfl (weak_cons rfl (weak_cons rfl (weak_cons rfl (weak_cons rfl (weak_cons rfl (weak_cons rfl (weak_cons rfl (weak_cons rfl (weak_cons rfl (weak_cons rfl (weak_cons rfl (weak_cons rfl weak_nil))))))))))))))) (List.Perm.refl _)
      · replace H := Gets.cf H c942
        refine WP.exit ?_
        replace H := Gets.out H
        exact Jn.mk (x941, decide (x941 < 2)) H (weak_cons rfl (weak_cons rfl (weak_cons rfl (weak_cons rfl (weak_cons rfl (weak_cons rfl (weak_cons rfl (weak_cons rfl (weak_cons rfl (weak_cons rfl (weak_cons rfl (weak_cons rfl (weak_cons rfl weak_nil))))))))))))) (List.Perm.refl _)
  · refine WP.seq ?_
    refine WP.reg [(0, false)] (by kernel_rfl) ?_
    refine Dv.asg rfl trivial rfl ?_
    refine .fin ?_
    refine WP.block ?_
    refine WP.gh (gh_wk (E' := [(0, sl Edu.K a0), (1, eq (.int .i64 a1)), (2, eq (.string a2)), (6, eq (.bool false)), (7, eq g926.1), (8, eq (.pointer (some ⟨b928, 0, none⟩))), (9, eq (.int .i64 0)), (21, eq (.bool false))]) (l' := [blk b928 27 [sl Edu.K ([] : List Edu), sl boolK ([] : List Bool)], TTab.O g926 t924] ++ F) (wke_cons rfl wk_id (wke_cons rfl wk_id (wke_cons rfl wk_id (wke_cons rfl wk_id (wke_cons rfl wk_id (wke_cons rfl wk_id (wke_cons rfl wk_id (wke_cons rfl wk_id wke_nil)))))))) (all2_app (.cons (wka_blk (.cons wk_nil (.cons wk_nil .nil))) (.cons wka_id .nil)) fun _ => wka_id)) (fun _ _ => ?_)
    refine WP.gh (l' := fun _ => [blk b928 27 [sl Edu.K ([] : List Edu), sl boolK ([] : List Bool)], TTab.O g926 t924] ++ F) (gh_of (st_selg (L := [blk b928 27 [sl Edu.K ([] : List Edu), sl boolK ([] : List Bool)], TTab.O g926 t924]) (F := F) [0, 1] 0 rfl rfl rfl)) (fun _ _ => ?_)
    refine WP.loopg (fun j_ (p1012 : Int × (List Edu) × (List Bool) × TTab) => concourselaw14_TypingUsers.l3 k a0 j_ p1012.1 p1012.2.1 p1012.2.2.1 p1012.2.2.2) (0, ([] : List Edu), ([] : List Bool), t924) H (fun p1012 => [(0, sl Edu.K a0), (1, eq (.int .i64 a1)), (2, eq (.string a2)), (6, eq (.bool false)), (7, eq g926.1), (8, eq (.pointer (some ⟨b928, 0, none⟩))), (9, eq (.int .i64 p1012.1)), (21, eq (.bool false))]) (fun p1012 => [blk b928 27 [sl Edu.K p1012.2.1, sl boolK p1012.2.2.1], TTab.O g926 p1012.2.2.2] ++ F) (weak_cons rfl (weak_cons rfl (weak_cons rfl (weak_cons rfl (weak_cons rfl (weak_cons rfl (weak_cons rfl (weak_cons rfl weak_nil)))))))) (List.Perm.refl _) ?_
    rintro j_ ⟨x993, x994, x995, x996⟩ H
    rcases j_ with _ | j1011
    · exact (Gets.no H).elim
    replace H : Gets (concourselaw14_TypingUsers.l3 k a0 (j1011 + 1) x993 x994 x995 x996) _ := H
    rw [concourselaw14_TypingUsers.l3] at H
    refine WP.seq ?_
    refine WP.seq ?_
    refine WP.reg [(0, false), (1, false), (2, false), (3, false), (4, false), (5, false), (6, false), (7, false)] (by kernel_rfl) ?_
    refine Dv.mv rfl trivial rfl ?_
    refine Dv.mv rfl trivial rfl ?_
    refine Dv.lenl rfl trivial rfl Try.underlying22 ?_
    refine Dv.bin rfl trivial rfl rfl (fun _ => run_lt) ?_
    refine Dv.mv rfl trivial rfl ?_
    cases c997 : decide (x993 < (a0.length : Int))
    · replace H := Gets.cf H c997
      refine Dv.skip rfl ⟨_, _, rfl, rfl, .inl rfl⟩ ?_
      refine Dv.skip rfl ⟨_, _, rfl, rfl, .inl rfl⟩ ?_
      refine Dv.pickF rfl trivial rfl rfl ?_
      refine .fin ?_
      refine WP.cond rfl nofun (fun _ => ?_)
      refine WP.exit ?_
      replace H := Gets.out H
      exact Jn.mk (x993, false, x994, x995, x996) H (weak_cons rfl (weak_cons rfl (weak_cons rfl (weak_cons rfl (weak_cons rfl (weak_cons rfl (weak_cons rfl (weak_cons rfl (weak_cons rfl weak_nil))))))))) (List.Perm.refl _)
    · replace H := Gets.ct H c997
      refine Dv.mv rfl ⟨_, _, rfl, rfl, rfl⟩ rfl ?_
      refine Dv.bin rfl ⟨_, _, rfl, rfl, rfl⟩ rfl rfl (fun _ => run_lt) ?_
      refine Dv.pickT rfl trivial rfl rfl ?_
      refine .fin ?_
      refine WP.cond rfl (fun c998 => ?_) (fun c998 => ?_)
      · replace H := Gets.ct H c998
        refine WP.skip ?_
        refine WP.seq ?_
        refine WP.block ?_
        refine WP.seq ?_
        refine WP.dreg Try.checked.mixed [(0, false), (1, false), (2, false), (3, false), (4, false), (5, false), (6, false), (7, false), (8, false), (9, false), (10, false), (11, true), (12, true), (13, false), (14, false)] (by kernel_rfl) ?_
        refine Dv.ldbs rfl trivial rfl Try.underlying27 rfl c27 (mem_at 0 rfl) (Nat.le_of_ble_eq_true rfl) ?_
        refine Dv.mv rfl trivial rfl ?_
        refine Dv.mv rfl trivial rfl ?_
        obtain ⟨g999, H⟩ := Gets.grd H
        refine Dv.ixr rfl trivial rfl rfl Try.underlying22 Try.underlying32 c32 g999.1 g999.2 ?_
        refine Dv.ldrs rfl trivial rfl Try.underlying32 rfl c32 (Nat.le_of_ble_eq_true rfl) ?_
        obtain ⟨t1000, h1001, H⟩ := Gets.call H
        refine Dv.call rfl trivial cal9 rfl (concourseref14_Made.c h1001) ?_
        obtain ⟨t1002, h1003, H⟩ := Gets.call H
        refine Dv.call rfl trivial cal8 rfl (concourseref14_Put.c h1003) ?_
        refine Dv.mv rfl trivial rfl ?_
        refine Dv.ext rfl trivial rfl rfl ?_
        refine Dv.ext rfl trivial rfl rfl ?_
        refine Dv.ext rfl trivial rfl rfl ?_
        refine Dv.alloc (z := .agg #[.slice none 0 0, .slice none 0 0]) (qs := [eq (.slice none 0 0), eq (.slice none 0 0)]) rfl trivial z27 rfl (fun _ => (pend_in (fun _ => trivial) (pend_in (fun _ => trivial) (pend_in (fun _ => trivial) (pend_in (fun _ => trivial) (pend_in (fun _ => trivial) (pend_in (fun _ => trivial) (pend_in (fun _ => trivial) (pend_in (fun _ => trivial) (pend_in (fun _ => trivial) (pend_in (fun _ => trivial) (pend_in (fun _ => (mem_at 1 rfl)) pend_nil)))))))))))) (fun b1004 => ?_)
        refine Dv.stx ([blk b1004 27 [sl Edu.K t1002.1.fL, sl boolK t1002.1.fTold], blk b928 27 [sl Edu.K x994, sl boolK x995], TTab.O g926 x996] ++ F) rfl trivial rfl rfl (cells_agg (TRef.K.one _)) Try.underlying27 c27 rfl (j := 0) rfl (Nat.le_of_ble_eq_true rfl) rfl (fun _ => (pend_in (fun _ => trivial) (pend_in (fun _ => trivial) (pend_by (by kernel_rfl) (pend_by (by kernel_rfl) (pend_by (by kernel_rfl) (pend_by (by kernel_rfl) (pend_by (by kernel_rfl) (pend_by (by kernel_rfl) (pend_by (by kernel_rfl) (pend_by (by kernel_rfl) (pend_by (by kernel_rfl) pend_nil)))))))))))) ?_
        refine Dv.asg rfl trivial rfl ?_
        refine Dv.asg rfl trivial rfl ?_
        refine .fin ?_
        refine WP.seq ?_
        refine WP.reg [(0, false), (1, true)] (by kernel_rfl) ?_
        refine Dv.ldbs rfl trivial rfl Try.underlying27 rfl c27 (mem_at 0 rfl) (Nat.le_of_ble_eq_true rfl) ?_
        refine Dv.stx ([blk b1004 27 [sl Edu.K t1002.1.fL, sl boolK t1002.1.fTold], blk b928 27 [sl Edu.K t1002.1.fL, sl boolK t1002.1.fTold], TTab.O g926 x996] ++ F) rfl trivial rfl rfl (cells_agg (TRef.K.one _)) Try.underlying27 c27 rfl (j := 1) rfl (Nat.le_of_ble_eq_true rfl) rfl nofun ?_
        refine .fin ?_
        refine WP.reg [(0, false), (1, false), (2, false), (3, false), (4, false), (5, false), (6, true)] (by kernel_rfl) ?_
        refine Dv.mv rfl trivial rfl ?_
        refine Dv.mv rfl trivial rfl ?_
        refine Dv.mv rfl trivial rfl ?_
        obtain ⟨g1005, H⟩ := Gets.grd H
        refine Dv.ixr rfl trivial rfl rfl Try.underlying22 Try.underlying32 c32 g1005.1 g1005.2 ?_
        refine Dv.ldrs rfl trivial rfl Try.underlying32 rfl c32 (Nat.le_of_ble_eq_true rfl) ?_
        obtain ⟨t1006, h1007, H⟩ := Gets.call H
        refine Dv.call rfl trivial cal9 rfl (concourseref14_Made.c h1007) ?_
        obtain ⟨t1008, h1009, H⟩ := Gets.call H
        refine Dv.callx (pre := [TTab.O g926 x996]) (F := [blk b1004 27 [sl Edu.K t1002.1.fL, sl boolK t1002.1.fTold], blk b928 27 [sl Edu.K t1002.1.fL, sl boolK t1002.1.fTold]] ++ F) (fun _ : Unit => [TTab.O g926 t1008.2.2, blk b1004 27 [sl Edu.K t1002.1.fL, sl boolK t1002.1.fTold], blk b928 27 [sl Edu.K t1002.1.fL, sl boolK t1002.1.fTold]] ++ F) rfl trivial cal10 rfl (typing_Table_Put.c h1009 (p0_ := g926)) (perm_to (L := [blk b1004 27 [sl Edu.K t1002.1.fL, sl boolK t1002.1.fTold], blk b928 27 [sl Edu.K t1002.1.fL, sl boolK t1002.1.fTold], TTab.O g926 x996]) (F := F) [2, 0, 1] rfl rfl rfl) rfl nofun (fun _ _ => ?_)
        refine .fin ?_
        refine WP.reg [(0, false), (1, false), (2, false)] (by kernel_rfl) ?_
        refine Dv.mv rfl trivial rfl ?_
        refine Dv.bin rfl trivial rfl rfl (fun _ => run_add) ?_
        refine Dv.asg rfl trivial rfl ?_
        refine .fin ?_
        refine Dn.gh (l' := fun _ : Unit => [blk b928 27 [sl Edu.K t1002.1.fL, sl boolK t1002.1.fTold], TTab.O g926 t1008.2.2] ++ F) (gh_of (st_selg (L := [TTab.O g926 t1008.2.2, blk b1004 27 [sl Edu.K t1002.1.fL, sl boolK t1002.1.fTold], blk b928 27 [sl Edu.K t1002.1.fL, sl boolK t1002.1.fTold]]) (F := F) [1, 2, 0] 1 rfl rfl rfl)) (fun _ _ => ?_)
        exact Back.mk j1011 (w64 (x993 + 1), t1002.1.fL, t1002.1.fTold, t1008.2.2) (Nat.lt_succ_self _) H (weak_cons rfl (weak_cons rfl (weak_cons rfl (weak_cons rfl (weak_cons rfl (weak_cons rfl (weak_cons rfl (weak_cons rfl weak_nil)))))))) (List.Perm.refl _)
      · replace H := Gets.cf H c998
        refine WP.exit ?_
        replace H := Gets.out H
        exact Jn.mk (x993, decide (x993 < 10), x994, x995, x996) H (weak_cons rfl (weak_cons rfl (weak_cons rfl (weak_cons rfl (weak_cons rfl (weak_cons rfl (weak_cons rfl (weak_cons rfl (weak_cons rfl weak_nil))))))))) (List.Perm.refl _)
end Go.Proofs.Ytmbodanckhidiaa
