/- The walks. -/
import Derived.Test.YtigmkniiojpdiaaZWalks3
import Derived.Test.YtigmkniiojpdiaaConY
import Derived.Eval
set_option linter.all false
set_option maxRecDepth 10000
set_option maxHeartbeats 20000000
namespace Go.Proofs.Ytigmkniiojpdiaa
open Go Go.Sp
theorem concourselaw10_ViewFits.c {k : Nat} {a0 : List GMade} {a1 : List GMade} {a2 : ByteArray} {r : Bool} (h : concourselaw10_ViewFits.f k a0 a1 a2 = some r) : Pt Try.prog 3 [sl GMade.K a0, sl GMade.K a1, eq (.string a2)] (eq (.bool r)) := by
  unfold concourselaw10_ViewFits.f at h
  refine (Tr.body Try.func3 (c := _) rfl Try.ntmps3 (Nat.le_of_ble_eq_true rfl) fun R0 F => ?_).pt
  replace h := Gets.of h
  have H := h
  clear h
  refine WP.seq ?_
  refine WP.reg [(0, false)] (by kernel_rfl) ?_
  refine Dv.asg rfl trivial rfl ?_
  refine .fin ?_
  refine WP.seq ?_
  refine WP.reg [(0, false), (1, false), (2, true), (3, false), (4, false), (5, false), (6, true), (7, false), (8, true)] (by kernel_rfl) ?_
  refine Dv.mv rfl trivial rfl ?_
  refine Dv.mv rfl trivial rfl ?_
  obtain ⟨t717, h718, H⟩ := Gets.call H
  refine Dv.callx (pre := []) (F := [] ++ F) (fun g719 : OV => [optO VView.O g719 t717.1] ++ F) rfl trivial cal4 rfl (concourselaw10_build.c h718) (perm_to (L := []) (F := F) [] rfl rfl rfl) rfl nofun (fun g719 _ => ?_)
  refine Dv.mv rfl trivial rfl ?_
  refine Dv.ext rfl trivial rfl rfl ?_
  refine Dv.ext rfl trivial rfl rfl ?_
  refine Dv.alloc (z := .agg #[.slice none 0 0]) (qs := [eq (.slice none 0 0)]) rfl trivial z26 rfl nofun (fun b720 => ?_)
  refine Dv.asg rfl trivial rfl ?_
  refine Dv.stx ([blk b720 26 [sl RDag.K t717.2.fD], optO VView.O g719 t717.1] ++ F) rfl trivial rfl rfl (cells_agg (RView.K.one _)) Try.underlying26 c26 rfl (j := 0) rfl (Nat.le_of_ble_eq_true rfl) rfl nofun ?_
  refine .fin ?_
  refine WP.seq ?_
  refine WP.seq ?_
  refine WP.reg [(0, false), (1, false)] (by kernel_rfl) ?_
  refine Dv.mv rfl trivial rfl ?_
  refine Dv.oeq0 (fun _ => VView.nn) rfl trivial rfl rfl Try.underlying23 (mem_at 1 rfl) ?_
  refine .fin ?_
  refine WP.cond rfl (fun c721 => ?_) (fun c721 => ?_)
  · replace H := Gets.ct H c721
    refine WP.seq ?_
    refine WP.reg [(0, false)] (by kernel_rfl) ?_
    refine Dv.asg rfl trivial rfl ?_
    refine .fin ?_
    obtain rfl := Gets.out H
    exact WP.retL (fun _ _ h => h) rfl () trivial (.cons (res_tmp rfl) .nil) rfl (st_sel (L := [blk b720 26 [sl RDag.K t717.2.fD], optO VView.O g719 t717.1]) (F := F) [0, 1] 2 rfl rfl rfl)
  · replace H := Gets.cf H c721
    refine WP.gh (l' := fun _ : Unit => [VView.O g719 (t717.1.getD default), blk b720 26 [sl RDag.K t717.2.fD]] ++ F) (gh_of (opt_some 1 rfl c721)) (fun _ _ => ?_)
    refine WP.skip ?_
    refine WP.seq ?_
    refine WP.reg [(0, false), (1, false), (2, false)] (by kernel_rfl) ?_
    refine Dv.mv rfl trivial rfl ?_
    obtain ⟨t722, h723, H⟩ := Gets.call H
    refine Dv.call rfl trivial cal5 rfl (concourseref01_Few.c h723) ?_
    refine Dv.asg rfl trivial rfl ?_
    refine .fin ?_
    refine WP.seqr H id (fun p724 : Int × Bool => [(0, sl GMade.K a0), (1, sl GMade.K a1), (2, eq (.string t722)), (6, eq (.bool false)), (7, eq g719.1), (8, eq (.pointer (some ⟨b720, 0, none⟩))), (9, eq (.int .i64 p724.1)), (22, eq (.bool t717.1.isNone)), (26, eq (.bool p724.2))]) (fun p724 : Int × Bool => [blk b720 26 [sl RDag.K t717.2.fD], VView.O g719 (t717.1.getD default)] ++ F) (fun p724 H => ?_) (fun H => ?_)
    · refine WP.seq ?_
      refine WP.gh (l' := fun (g725 : Nat × OV) => [blk g725.1 56 [eq g725.2.1], mpo Value.string DDag.O g725.2.1 ((t717.1.getD default).fdags), blk b720 26 [sl RDag.K t717.2.fD]] ++ F) (gh_of (VView.opn 1 rfl)) (fun g725 h726 => ?_)
      refine WP.dreg Try.checked.mixed [(0, false), (1, false), (2, false), (3, false), (4, false), (5, false), (6, false), (7, false), (8, false), (9, false), (10, false), (11, false), (12, false)] (by kernel_rfl) ?_
      refine Dv.mv rfl trivial rfl ?_
      refine Dv.mv rfl trivial rfl ?_
      obtain ⟨t727, h728, H⟩ := Gets.call H
      refine Dv.call rfl trivial cal7 rfl (concourseref01_EventOf.c h728) ?_
      obtain ⟨t729, h730, H⟩ := Gets.call H
      refine Dv.calll (B := [blk g725.1 56 [eq g725.2.1], mpo Value.string DDag.O g725.2.1 ((t717.1.getD default).fdags)]) (F := [blk b720 26 [sl RDag.K t717.2.fD]] ++ F) rfl trivial cal9 rfl (Tr.weak (view_View_Fits.c h730 (b0_ := g725.1) (v0_0 := g725.2)) (.cons (wk_ptr h726) (.cons wk_id (.cons wk_id (.cons wk_id .nil))))) (perm_to (L := [blk g725.1 56 [eq g725.2.1], mpo Value.string DDag.O g725.2.1 ((t717.1.getD default).fdags), blk b720 26 [sl RDag.K t717.2.fD]]) (F := F) [0, 1, 2] rfl rfl rfl) ?_
      refine Dv.ldbs rfl trivial rfl Try.underlying26 rfl c26 (mem_at 2 rfl) (Nat.le_of_ble_eq_true rfl) ?_
      refine Dv.mv rfl trivial rfl ?_
      obtain ⟨t731, h732, H⟩ := Gets.call H
      refine Dv.call rfl trivial cal7 rfl (concourseref01_EventOf.c h732) ?_
      obtain ⟨t733, h734, H⟩ := Gets.call H
      refine Dv.call rfl trivial cal10 rfl (concourseref10_Fits.c h734) ?_
      refine Dv.bin rfl trivial rfl rfl (fun _ => run_eq) ?_
      refine Dv.mv rfl trivial rfl ?_
      cases c735 : (t729 == t733)
      · replace H := Gets.cf H c735
        refine Dv.skip rfl ⟨_, _, rfl, rfl, .inl rfl⟩ ?_
        refine Dv.pickF rfl trivial rfl rfl ?_
        refine Dv.asg rfl trivial rfl ?_
        refine .fin ?_
        refine WP.gh (l' := fun _ : Unit => [VView.O g719 (t717.1.getD default), blk b720 26 [sl RDag.K t717.2.fD]] ++ F) (gh_of (VView.shut (p := g719) (m := t717.1.getD default) (r := [blk b720 26 [sl RDag.K t717.2.fD]] ++ F) (g725.1, g725.2) h726 (perm_to (L := [blk g725.1 56 [eq g725.2.1], mpo Value.string DDag.O g725.2.1 ((t717.1.getD default).fdags), blk b720 26 [sl RDag.K t717.2.fD]]) (F := F) [0, 1, 2] rfl rfl rfl))) (fun _ _ => ?_)
        obtain rfl := Gets.out H
        exact WP.retL (fun _ _ h => h) rfl () trivial (.cons (res_tmp rfl) .nil) rfl (st_sel (L := [VView.O g719 (t717.1.getD default), blk b720 26 [sl RDag.K t717.2.fD]]) (F := F) [0, 1] 2 rfl rfl rfl)
      · replace H := Gets.ct H c735
        obtain ⟨t736, h737, H⟩ := Gets.call H
        refine Dv.call rfl ⟨_, _, rfl, rfl, rfl⟩ cal11 rfl (concourselaw10_lives.c h737) ?_
        refine Dv.pickT rfl trivial rfl rfl ?_
        refine Dv.asg rfl trivial rfl ?_
        refine .fin ?_
        refine WP.gh (l' := fun _ : Unit => [VView.O g719 (t717.1.getD default), blk b720 26 [sl RDag.K t717.2.fD]] ++ F) (gh_of (VView.shut (p := g719) (m := t717.1.getD default) (r := [blk b720 26 [sl RDag.K t717.2.fD]] ++ F) (g725.1, g725.2) h726 (perm_to (L := [blk g725.1 56 [eq g725.2.1], mpo Value.string DDag.O g725.2.1 ((t717.1.getD default).fdags), blk b720 26 [sl RDag.K t717.2.fD]]) (F := F) [0, 1, 2] rfl rfl rfl))) (fun _ _ => ?_)
        obtain rfl := Gets.out H
        exact WP.retL (fun _ _ h => h) rfl () trivial (.cons (res_tmp rfl) .nil) rfl (st_sel (L := [VView.O g719 (t717.1.getD default), blk b720 26 [sl RDag.K t717.2.fD]]) (F := F) [0, 1] 2 rfl rfl rfl)
    · refine WP.seq ?_
      refine WP.reg [(0, false)] (by kernel_rfl) ?_
      refine Dv.asg rfl trivial rfl ?_
      refine .fin ?_
      refine WP.block ?_
      refine WP.gh (l' := fun _ => [blk b720 26 [sl RDag.K t717.2.fD], VView.O g719 (t717.1.getD default)] ++ F) (gh_of (st_selg (L := [VView.O g719 (t717.1.getD default), blk b720 26 [sl RDag.K t717.2.fD]]) (F := F) [1, 0] 0 rfl rfl rfl)) (fun _ _ => ?_)
      refine WP.loopg (fun j_ (p774 : Int) => concourselaw10_ViewFits.l0 k t717 t722 j_ p774) 0 H (fun p774 => [(0, sl GMade.K a0), (1, sl GMade.K a1), (2, eq (.string t722)), (6, eq (.bool false)), (7, eq g719.1), (8, eq (.pointer (some ⟨b720, 0, none⟩))), (9, eq (.int .i64 p774)), (22, eq (.bool t717.1.isNone))]) (fun p774 => [blk b720 26 [sl RDag.K t717.2.fD], VView.O g719 (t717.1.getD default)] ++ F) (weak_cons rfl (weak_cons rfl (weak_cons rfl (weak_cons rfl (weak_cons rfl (weak_cons rfl (weak_cons rfl (weak_cons rfl weak_nil)))))))) (List.Perm.refl _) ?_
      rintro j_ x738 H
      rcases j_ with _ | j773
      · exact (Gets.no H).elim
      replace H : Gets (concourselaw10_ViewFits.l0 k t717 t722 (j773 + 1) x738) _ := H
      rw [concourselaw10_ViewFits.l0] at H
      refine WP.seq ?_
      refine WP.seq ?_
      refine WP.reg [(0, false), (1, false)] (by kernel_rfl) ?_
      refine Dv.mv rfl trivial rfl ?_
      refine Dv.bin rfl trivial rfl rfl (fun _ => run_lt) ?_
      refine .fin ?_
      refine WP.cond rfl (fun c739 => ?_) (fun c739 => ?_)
      · replace H := Gets.ct H c739
        refine WP.skip ?_
        refine WP.seqr H id (fun p740 : ByteArray × Int × Bool => [(0, sl GMade.K a0), (1, sl GMade.K a1), (2, eq (.string t722)), (6, eq (.bool false)), (7, eq g719.1), (8, eq (.pointer (some ⟨b720, 0, none⟩))), (9, eq (.int .i64 x738)), (10, eq (.string p740.1)), (11, eq (.int .i64 p740.2.1)), (22, eq (.bool t717.1.isNone)), (26, eq (.bool (decide (x738 < 2)))), (32, eq (.bool p740.2.2))]) (fun p740 : ByteArray × Int × Bool => [blk b720 26 [sl RDag.K t717.2.fD], VView.O g719 (t717.1.getD default)] ++ F) (fun p740 H => ?_) (fun H => ?_)
        · refine WP.reg [(0, false), (1, false), (2, false)] (by kernel_rfl) ?_
          refine Dv.mv rfl trivial rfl ?_
          refine Dv.bin rfl trivial rfl rfl (fun _ => run_add) ?_
          refine Dv.asg rfl trivial rfl ?_
          refine .fin ?_
          exact Back.mk j773 (w64 (x738 + 1)) (Nat.lt_succ_self _) H (weak_cons rfl (weak_cons rfl (weak_cons rfl (weak_cons rfl (weak_cons rfl (weak_cons rfl (weak_cons rfl (weak_cons rfl weak_nil)))))))) (List.Perm.refl _)
        · refine WP.block ?_
          refine WP.seq ?_
          refine WP.reg [(0, false), (1, false), (2, false)] (by kernel_rfl) ?_
          refine Dv.mv rfl trivial rfl ?_
          obtain ⟨t741, h742, H⟩ := Gets.call H
          refine Dv.call rfl trivial cal6 rfl (concourseref01_RoomOf.c h742) ?_
          refine Dv.asg rfl trivial rfl ?_
          refine .fin ?_
          refine WP.seq ?_
          refine WP.reg [(0, false)] (by kernel_rfl) ?_
          refine Dv.asg rfl trivial rfl ?_
          refine .fin ?_
          refine WP.block ?_
          refine WP.gh (l' := fun _ => [blk b720 26 [sl RDag.K t717.2.fD], VView.O g719 (t717.1.getD default)] ++ F) (gh_of (st_selg (L := [blk b720 26 [sl RDag.K t717.2.fD], VView.O g719 (t717.1.getD default)]) (F := F) [0, 1] 0 rfl rfl rfl)) (fun _ _ => ?_)
          refine WP.loopg (fun j_ (p772 : Int) => concourselaw10_ViewFits.l1 k t717 t722 t741 j_ p772) 0 H (fun p772 => [(0, sl GMade.K a0), (1, sl GMade.K a1), (2, eq (.string t722)), (6, eq (.bool false)), (7, eq g719.1), (8, eq (.pointer (some ⟨b720, 0, none⟩))), (9, eq (.int .i64 x738)), (10, eq (.string t741)), (11, eq (.int .i64 p772)), (22, eq (.bool t717.1.isNone)), (26, eq (.bool (decide (x738 < 2))))]) (fun p772 => [blk b720 26 [sl RDag.K t717.2.fD], VView.O g719 (t717.1.getD default)] ++ F) (weak_cons rfl (weak_cons rfl (weak_cons rfl (weak_cons rfl (weak_cons rfl (weak_cons rfl (weak_cons rfl (weak_cons rfl (weak_cons rfl (weak_cons rfl (weak_cons rfl weak_nil))))))))))) (List.Perm.refl _) ?_
          rintro j_ x743 H
          rcases j_ with _ | j771
          · exact (Gets.no H).elim
          replace H : Gets (concourselaw10_ViewFits.l1 k t717 t722 t741 (j771 + 1) x743) _ := H
          rw [concourselaw10_ViewFits.l1] at H
          refine WP.seq ?_
          refine WP.seq ?_
          refine WP.reg [(0, false), (1, false)] (by kernel_rfl) ?_
          refine Dv.mv rfl trivial rfl ?_
          refine Dv.bin rfl trivial rfl rfl (fun _ => run_lt) ?_
          refine .fin ?_
          refine WP.cond rfl (fun c744 => ?_) (fun c744 => ?_)
          · replace H := Gets.ct H c744
            refine WP.skip ?_
            refine WP.seqr H id (fun p745 : ByteArray × Int × Bool => [(0, sl GMade.K a0), (1, sl GMade.K a1), (2, eq (.string t722)), (6, eq (.bool false)), (7, eq g719.1), (8, eq (.pointer (some ⟨b720, 0, none⟩))), (9, eq (.int .i64 x738)), (10, eq (.string t741)), (11, eq (.int .i64 x743)), (12, eq (.string p745.1)), (13, eq (.int .i64 p745.2.1)), (22, eq (.bool t717.1.isNone)), (26, eq (.bool (decide (x738 < 2)))), (32, eq (.bool (decide (x743 < 10)))), (39, eq (.bool (x743 == 9))), (42, eq (.bool p745.2.2))]) (fun p745 : ByteArray × Int × Bool => [blk b720 26 [sl RDag.K t717.2.fD], VView.O g719 (t717.1.getD default)] ++ F) (fun p745 H => ?_) (fun H => ?_)
            · refine WP.reg [(0, false), (1, false), (2, false)] (by kernel_rfl) ?_
              refine Dv.mv rfl trivial rfl ?_
              refine Dv.bin rfl trivial rfl rfl (fun _ => run_add) ?_
              refine Dv.asg rfl trivial rfl ?_
              refine .fin ?_
              exact Back.mk j771 (w64 (x743 + 1)) (Nat.lt_succ_self _) H (weak_cons rfl (weak_cons rfl (weak_cons rfl (weak_cons rfl (weak_cons rfl (weak_cons rfl (weak_cons rfl (weak_cons rfl (weak_cons rfl (weak_cons rfl (weak_cons rfl weak_nil))))))))))) (List.Perm.refl _)
            · refine WP.block ?_
              refine WP.seq ?_
              refine WP.reg [(0, false), (1, false), (2, false), (3, false)] (by kernel_rfl) ?_
              refine Dv.mv rfl trivial rfl ?_
              refine Dv.bin rfl trivial rfl rfl (fun _ => run_rem (by decide)) ?_
              obtain ⟨t746, h747, H⟩ := Gets.call H
              refine Dv.call rfl trivial cal7 rfl (concourseref01_EventOf.c h747) ?_
              refine Dv.asg rfl trivial rfl ?_
              refine .fin ?_
              refine WP.seqn H id (fun p748 : ByteArray => [(0, sl GMade.K a0), (1, sl GMade.K a1), (2, eq (.string t722)), (6, eq (.bool false)), (7, eq g719.1), (8, eq (.pointer (some ⟨b720, 0, none⟩))), (9, eq (.int .i64 x738)), (10, eq (.string t741)), (11, eq (.int .i64 x743)), (12, eq (.string p748)), (22, eq (.bool t717.1.isNone)), (26, eq (.bool (decide (x738 < 2)))), (32, eq (.bool (decide (x743 < 10)))), (39, eq (.bool (x743 == 9)))]) (fun p748 : ByteArray => [blk b720 26 [sl RDag.K t717.2.fD], VView.O g719 (t717.1.getD default)] ++ F) (fun p748 H => ?_) (fun H => ?_)
              · refine WP.seq ?_
                refine WP.reg [(0, false)] (by kernel_rfl) ?_
                refine Dv.asg rfl trivial rfl ?_
                refine .fin ?_
                refine WP.block ?_
                refine WP.gh (l' := fun _ => [blk b720 26 [sl RDag.K t717.2.fD], VView.O g719 (t717.1.getD default)] ++ F) (gh_of (st_selg (L := [blk b720 26 [sl RDag.K t717.2.fD], VView.O g719 (t717.1.getD default)]) (F := F) [0, 1] 0 rfl rfl rfl)) (fun _ _ => ?_)
                refine WP.loopg (fun j_ (p769 : Int) => concourselaw10_ViewFits.l2 k t717 t722 t741 p748 j_ p769) 0 H (fun p769 => [(0, sl GMade.K a0), (1, sl GMade.K a1), (2, eq (.string t722)), (6, eq (.bool false)), (7, eq g719.1), (8, eq (.pointer (some ⟨b720, 0, none⟩))), (9, eq (.int .i64 x738)), (10, eq (.string t741)), (11, eq (.int .i64 x743)), (12, eq (.string p748)), (13, eq (.int .i64 p769)), (22, eq (.bool t717.1.isNone)), (26, eq (.bool (decide (x738 < 2)))), (32, eq (.bool (decide (x743 < 10)))), (39, eq (.bool (x743 == 9)))]) (fun p769 => [blk b720 26 [sl RDag.K t717.2.fD], VView.O g719 (t717.1.getD default)] ++ F) (weak_cons rfl (weak_cons rfl (weak_cons rfl (weak_cons rfl (weak_cons rfl (weak_cons rfl (weak_cons rfl (weak_cons rfl (weak_cons rfl (weak_cons rfl (weak_cons rfl (weak_cons rfl (weak_cons rfl (weak_cons rfl (weak_cons rfl weak_nil))))))))))))))) (List.Perm.refl _) ?_
                rintro j_ x749 H
                rcases j_ with _ | j768
                · exact (Gets.no H).elim
                replace H : Gets (concourselaw10_ViewFits.l2 k t717 t722 t741 p748 (j768 + 1) x749) _ := H
                rw [concourselaw10_ViewFits.l2] at H
                refine WP.seq ?_
                refine WP.seq ?_
                refine WP.reg [(0, false), (1, false)] (by kernel_rfl) ?_
                refine Dv.mv rfl trivial rfl ?_
                refine Dv.bin rfl trivial rfl rfl (fun _ => run_lt) ?_
                refine .fin ?_
                refine WP.cond rfl (fun c750 => ?_) (fun c750 => ?_)
                · replace H := Gets.ct H c750
                  refine WP.skip ?_
                  refine WP.seq ?_
                  refine WP.block ?_
                  refine WP.seq ?_
                  refine WP.reg [(0, false), (1, false), (2, false), (3, false)] (by kernel_rfl) ?_
                  refine Dv.mv rfl trivial rfl ?_
                  refine Dv.bin rfl trivial rfl rfl (fun _ => run_rem (by decide)) ?_
                  obtain ⟨t751, h752, H⟩ := Gets.call H
                  refine Dv.call rfl trivial cal8 rfl (concourseref01_ThreadOf.c h752) ?_
                  refine Dv.asg rfl trivial rfl ?_
                  refine .fin ?_
                  refine WP.seq ?_
                  refine WP.seq ?_
                  refine WP.reg [(0, false), (1, false)] (by kernel_rfl) ?_
                  refine Dv.mv rfl trivial rfl ?_
                  refine Dv.bin rfl trivial rfl rfl (fun _ => run_eq) ?_
                  refine .fin ?_
                  refine WP.cond rfl (fun c753 => ?_) (fun c753 => ?_)
                  · replace H := Gets.ct H c753
                    refine WP.reg [(0, false), (1, false)] (by kernel_rfl) ?_
                    refine Dv.mv rfl trivial rfl ?_
                    refine Dv.asg rfl trivial rfl ?_
                    refine .fin ?_
                    refine WP.seq ?_
                    refine WP.gh (l' := fun (g754 : Nat × OV) => [blk g754.1 56 [eq g754.2.1], mpo Value.string DDag.O g754.2.1 ((t717.1.getD default).fdags), blk b720 26 [sl RDag.K t717.2.fD]] ++ F) (gh_of (VView.opn 1 rfl)) (fun g754 h755 => ?_)
                    refine WP.dreg Try.checked.mixed [(0, false), (1, false), (2, false), (3, false), (4, false), (5, false), (6, false), (7, false), (8, false), (9, false), (10, false)] (by kernel_rfl) ?_
                    refine Dv.mv rfl trivial rfl ?_
                    refine Dv.mv rfl trivial rfl ?_
                    refine Dv.mv rfl trivial rfl ?_
                    refine Dv.mv rfl trivial rfl ?_
                    obtain ⟨t756, h757, H⟩ := Gets.call H
                    refine Dv.calll (B := [blk g754.1 56 [eq g754.2.1], mpo Value.string DDag.O g754.2.1 ((t717.1.getD default).fdags)]) (F := [blk b720 26 [sl RDag.K t717.2.fD]] ++ F) rfl trivial cal9 rfl (Tr.weak (view_View_Fits.c h757 (b0_ := g754.1) (v0_0 := g754.2)) (.cons (wk_ptr h755) (.cons wk_id (.cons wk_id (.cons wk_id .nil))))) (perm_to (L := [blk g754.1 56 [eq g754.2.1], mpo Value.string DDag.O g754.2.1 ((t717.1.getD default).fdags), blk b720 26 [sl RDag.K t717.2.fD]]) (F := F) [0, 1, 2] rfl rfl rfl) ?_
                    refine Dv.ldbs rfl trivial rfl Try.underlying26 rfl c26 (mem_at 2 rfl) (Nat.le_of_ble_eq_true rfl) ?_
                    refine Dv.mv rfl trivial rfl ?_
                    refine Dv.mv rfl trivial rfl ?_
                    refine Dv.mv rfl trivial rfl ?_
                    obtain ⟨t758, h759, H⟩ := Gets.call H
                    refine Dv.call rfl trivial cal10 rfl (concourseref10_Fits.c h759) ?_
                    refine Dv.bin rfl trivial rfl rfl (fun _ => run_ne) ?_
                    refine .fin ?_
                    refine WP.cond rfl (fun c760 => ?_) (fun c760 => ?_)
                    · replace H := Gets.ct H c760
                      refine WP.seq ?_
                      refine WP.reg [(0, false)] (by kernel_rfl) ?_
                      refine Dv.asg rfl trivial rfl ?_
                      refine .fin ?_
                      refine WP.gh (l' := fun _ : Unit => [VView.O g719 (t717.1.getD default), blk b720 26 [sl RDag.K t717.2.fD]] ++ F) (gh_of (VView.shut (p := g719) (m := t717.1.getD default) (r := [blk b720 26 [sl RDag.K t717.2.fD]] ++ F) (g754.1, g754.2) h755 (perm_to (L := [blk g754.1 56 [eq g754.2.1], mpo Value.string DDag.O g754.2.1 ((t717.1.getD default).fdags), blk b720 26 [sl RDag.K t717.2.fD]]) (F := F) [0, 1, 2] rfl rfl rfl))) (fun _ _ => ?_)
                      replace H := Gets.outr H
                      replace H := Gets.outr H
                      replace H := Gets.outr H
                      obtain rfl := Gets.out H
                      exact WP.retL (fun _ _ h => h) rfl () trivial (.cons (res_tmp rfl) .nil) rfl (st_sel (L := [VView.O g719 (t717.1.getD default), blk b720 26 [sl RDag.K t717.2.fD]]) (F := F) [0, 1] 2 rfl rfl rfl)
                    · replace H := Gets.cf H c760
                      refine WP.skip ?_
                      refine WP.reg [(0, false), (1, false), (2, false)] (by kernel_rfl) ?_
                      refine Dv.mv rfl trivial rfl ?_
                      refine Dv.bin rfl trivial rfl rfl (fun _ => run_add) ?_
                      refine Dv.asg rfl trivial rfl ?_
                      refine .fin ?_
                      refine Dn.gh (l' := fun _ : Unit => [VView.O g719 (t717.1.getD default), blk b720 26 [sl RDag.K t717.2.fD]] ++ F) (gh_of (VView.shut (p := g719) (m := t717.1.getD default) (r := [blk b720 26 [sl RDag.K t717.2.fD]] ++ F) (g754.1, g754.2) h755 (perm_to (L := [blk g754.1 56 [eq g754.2.1], mpo Value.string DDag.O g754.2.1 ((t717.1.getD default).fdags), blk b720 26 [sl RDag.K t717.2.fD]]) (F := F) [0, 1, 2] rfl rfl rfl))) (fun _ _ => ?_)
                      refine Dn.gh (l' := fun _ : Unit => [blk b720 26 [sl RDag.K t717.2.fD], VView.O g719 (t717.1.getD default)] ++ F) (gh_of (st_selg (L := [VView.O g719 (t717.1.getD default), blk b720 26 [sl RDag.K t717.2.fD]]) (F := F) [1, 0] 0 rfl rfl rfl)) (fun _ _ => ?_)
                      exact Back.mk j768 (w64 (x749 + 1)) (Nat.lt_succ_self _) H (weak_cons rfl (weak_cons rfl (weak_cons rfl (weak_cons rfl (weak_cons rfl (weak_cons rfl (weak_cons rfl (weak_cons rfl (weak_cons rfl (weak_cons rfl (weak_cons rfl (weak_cons rfl (weak_cons rfl (weak_cons rfl (weak_cons rfl weak_nil))))))))))))))) (List.Perm.refl _)
                  · replace H := Gets.cf H c753
                    refine WP.skip ?_
                    refine WP.seq ?_
                    refine WP.gh (l' := fun (g761 : Nat × OV) => [blk g761.1 56 [eq g761.2.1], mpo Value.string DDag.O g761.2.1 ((t717.1.getD default).fdags), blk b720 26 [sl RDag.K t717.2.fD]] ++ F) (gh_of (VView.opn 1 rfl)) (fun g761 h762 => ?_)
                    refine WP.dreg Try.checked.mixed [(0, false), (1, false), (2, false), (3, false), (4, false), (5, false), (6, false), (7, false), (8, false), (9, false), (10, false)] (by kernel_rfl) ?_
                    refine Dv.mv rfl trivial rfl ?_
                    refine Dv.mv rfl trivial rfl ?_
                    refine Dv.mv rfl trivial rfl ?_
                    refine Dv.mv rfl trivial rfl ?_
                    obtain ⟨t763, h764, H⟩ := Gets.call H
                    refine Dv.calll (B := [blk g761.1 56 [eq g761.2.1], mpo Value.string DDag.O g761.2.1 ((t717.1.getD default).fdags)]) (F := [blk b720 26 [sl RDag.K t717.2.fD]] ++ F) rfl trivial cal9 rfl (Tr.weak (view_View_Fits.c h764 (b0_ := g761.1) (v0_0 := g761.2)) (.cons (wk_ptr h762) (.cons wk_id (.cons wk_id (.cons wk_id .nil))))) (perm_to (L := [blk g761.1 56 [eq g761.2.1], mpo Value.string DDag.O g761.2.1 ((t717.1.getD default).fdags), blk b720 26 [sl RDag.K t717.2.fD]]) (F := F) [0, 1, 2] rfl rfl rfl) ?_
                    refine Dv.ldbs rfl trivial rfl Try.underlying26 rfl c26 (mem_at 2 rfl) (Nat.le_of_ble_eq_true rfl) ?_
                    refine Dv.mv rfl trivial rfl ?_
                    refine Dv.mv rfl trivial rfl ?_
                    refine Dv.mv rfl trivial rfl ?_
                    obtain ⟨t765, h766, H⟩ := Gets.call H
                    refine Dv.call rfl trivial cal10 rfl (concourseref10_Fits.c h766) ?_
                    refine Dv.bin rfl trivial rfl rfl (fun _ => run_ne) ?_
                    refine .fin ?_
                    refine WP.cond rfl (fun c767 => ?_) (fun c767 => ?_)
                    · replace H := Gets.ct H c767
                      refine WP.seq ?_
                      refine WP.reg [(0, false)] (by kernel_rfl) ?_
                      refine Dv.asg rfl trivial rfl ?_
                      refine .fin ?_
                      refine WP.gh (l' := fun _ : Unit => [VView.O g719 (t717.1.getD default), blk b720 26 [sl RDag.K t717.2.fD]] ++ F) (gh_of (VView.shut (p := g719) (m := t717.1.getD default) (r := [blk b720 26 [sl RDag.K t717.2.fD]] ++ F) (g761.1, g761.2) h762 (perm_to (L := [blk g761.1 56 [eq g761.2.1], mpo Value.string DDag.O g761.2.1 ((t717.1.getD default).fdags), blk b720 26 [sl RDag.K t717.2.fD]]) (F := F) [0, 1, 2] rfl rfl rfl))) (fun _ _ => ?_)
                      replace H := Gets.outr H
                      replace H := Gets.outr H
                      replace H := Gets.outr H
                      obtain rfl := Gets.out H
                      exact WP.retL (fun _ _ h => h) rfl () trivial (.cons (res_tmp rfl) .nil) rfl (st_sel (L := [VView.O g719 (t717.1.getD default), blk b720 26 [sl RDag.K t717.2.fD]]) (F := F) [0, 1] 2 rfl rfl rfl)
                    · replace H := Gets.cf H c767
                      refine WP.skip ?_
                      refine WP.reg [(0, false), (1, false), (2, false)] (by kernel_rfl) ?_
                      refine Dv.mv rfl trivial rfl ?_
                      refine Dv.bin rfl trivial rfl rfl (fun _ => run_add) ?_
                      refine Dv.asg rfl trivial rfl ?_
                      refine .fin ?_
                      refine Dn.gh (l' := fun _ : Unit => [VView.O g719 (t717.1.getD default), blk b720 26 [sl RDag.K t717.2.fD]] ++ F) (gh_of (VView.shut (p := g719) (m := t717.1.getD default) (r := [blk b720 26 [sl RDag.K t717.2.fD]] ++ F) (g761.1, g761.2) h762 (perm_to (L := [blk g761.1 56 [eq g761.2.1], mpo Value.string DDag.O g761.2.1 ((t717.1.getD default).fdags), blk b720 26 [sl RDag.K t717.2.fD]]) (F := F) [0, 1, 2] rfl rfl rfl))) (fun _ _ => ?_)
                      refine Dn.gh (l' := fun _ : Unit => [blk b720 26 [sl RDag.K t717.2.fD], VView.O g719 (t717.1.getD default)] ++ F) (gh_of (st_selg (L := [VView.O g719 (t717.1.getD default), blk b720 26 [sl RDag.K t717.2.fD]]) (F := F) [1, 0] 0 rfl rfl rfl)) (fun _ _ => ?_)
                      exact Back.mk j768 (w64 (x749 + 1)) (Nat.lt_succ_self _) H (weak_cons rfl (weak_cons rfl (weak_cons rfl (weak_cons rfl (weak_cons rfl (weak_cons rfl (weak_cons rfl (weak_cons rfl (weak_cons rfl (weak_cons rfl (weak_cons rfl (weak_cons rfl (weak_cons rfl (weak_cons rfl (weak_cons rfl weak_nil))))))))))))))) (List.Perm.refl _)
                · replace H := Gets.cf H c750
                  refine WP.exit ?_
                  replace H := Gets.out H
                  exact Jn.mk (p748, x749, decide (x749 < 12)) H (weak_cons rfl (weak_cons rfl (weak_cons rfl (weak_cons rfl (weak_cons rfl (weak_cons rfl (weak_cons rfl (weak_cons rfl (weak_cons rfl (weak_cons rfl (weak_cons rfl (weak_cons rfl (weak_cons rfl (weak_cons rfl (weak_cons rfl (weak_cons rfl weak_nil)))))))))))))))) (List.Perm.refl _)
              · refine WP.seq ?_
                refine WP.reg [(0, false), (1, false)] (by kernel_rfl) ?_
                refine Dv.mv rfl trivial rfl ?_
                refine Dv.bin rfl trivial rfl rfl (fun _ => run_eq) ?_
                refine .fin ?_
                refine WP.cond rfl (fun c770 => ?_) (fun c770 => ?_)
                · replace H := Gets.ct H c770
                  refine WP.reg [(0, false), (1, false)] (by kernel_rfl) ?_
                  refine Dv.mv rfl trivial rfl ?_
                  refine Dv.asg rfl trivial rfl ?_
                  refine .fin ?_
                  replace H := Gets.out H
                  exact Jn.mk t722 H (weak_cons rfl (weak_cons rfl (weak_cons rfl (weak_cons rfl (weak_cons rfl (weak_cons rfl (weak_cons rfl (weak_cons rfl (weak_cons rfl (weak_cons rfl (weak_cons rfl (weak_cons rfl (weak_cons rfl (weak_cons rfl weak_nil)))))))))))))) (List.Perm.refl _)
                · replace H := Gets.cf H c770
                  refine WP.skip ?_
                  replace H := Gets.out H
                  exact Jn.mk t746 H (weak_cons rfl (weak_cons rfl (weak_cons rfl (weak_cons rfl (weak_cons rfl (weak_cons rfl (weak_cons rfl (weak_cons rfl (weak_cons rfl (weak_cons rfl (weak_cons rfl (weak_cons rfl (weak_cons rfl (weak_cons rfl weak_nil)))))))))))))) (List.Perm.refl _)
          · replace H := Gets.cf H c744
            refine WP.exit ?_
            replace H := Gets.out H
            exact Jn.mk (t741, x743, decide (x743 < 10)) H (weak_cons rfl (weak_cons rfl (weak_cons rfl (weak_cons rfl (weak_cons rfl (weak_cons rfl (weak_cons rfl (weak_cons rfl (weak_cons rfl (weak_cons rfl (weak_cons rfl (weak_cons rfl weak_nil)))))))))))) (List.Perm.refl _)
      · replace H := Gets.cf H c739
        refine WP.exit ?_
        replace H := Gets.out H
        exact Jn.mk (x738, decide (x738 < 2)) H (weak_cons rfl (weak_cons rfl (weak_cons rfl (weak_cons rfl (weak_cons rfl (weak_cons rfl (weak_cons rfl (weak_cons rfl (weak_cons rfl weak_nil))))))))) (List.Perm.refl _)
end Go.Proofs.Ytigmkniiojpdiaa
