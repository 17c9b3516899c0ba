/- The walks. -/
import Derived.Test.YtigmkniiojpdiaaZWalks2
import Derived.Test.YtigmkniiojpdiaaConY
import Derived.Eval
set_option linter.all false
set_option maxRecDepth 10000
set_option maxHeartbeats 20000000
namespace Go.Proofs.Ytigmkniiojpdiaa
open Go Go.Sp
theorem concourselaw10_lives.c {k : Nat} {r : Bool} (h : concourselaw10_lives.f k = some r) : Pt Try.prog 11 [] (eq (.bool r)) := by
  unfold concourselaw10_lives.f at h
  refine (Tr.body Try.func11 (c := _) rfl Try.ntmps11 (Nat.le_of_ble_eq_true rfl) fun R0 F => ?_).pt
  replace h := Gets.of h
  have H := h
  clear h
  refine WP.seq ?_
  refine WP.reg [(0, false)] (by kernel_rfl) ?_
  refine Dv.asg rfl trivial rfl ?_
  refine .fin ?_
  refine WP.seq ?_
  refine WP.reg [(0, true), (1, false)] (by kernel_rfl) ?_
  obtain ⟨t693, h694, H⟩ := Gets.call H
  refine Dv.callx (pre := []) (F := [] ++ F) (fun g695 : OV => [VView.O g695 t693] ++ F) rfl trivial cal13 rfl (view_New.c h694) (perm_to (L := []) (F := F) [] rfl rfl rfl) rfl nofun (fun g695 _ => ?_)
  refine Dv.asg rfl trivial rfl ?_
  refine .fin ?_
  refine WP.seq ?_
  refine WP.seq ?_
  refine WP.reg [(0, false), (1, false)] (by kernel_rfl) ?_
  refine Dv.mv rfl trivial rfl ?_
  refine Dv.peq0 VView.nn rfl trivial rfl rfl Try.underlying23 (mem_at 0 rfl) ?_
  refine .fin ?_
  refine WP.cond rfl nofun (fun _ => ?_)
  refine WP.skip ?_
  refine WP.seq ?_
  refine WP.reg [(0, false), (1, false), (2, true)] (by kernel_rfl) ?_
  refine Dv.mv rfl trivial rfl ?_
  refine Dv.bld (css := [[eq (.string (⟨#[36, 116]⟩ : ByteArray))], [eq (.string (⟨#[33, 114, 58, 115]⟩ : ByteArray))], [eq (.string (⟨#[64, 97, 58, 115]⟩ : ByteArray))]]) rfl trivial Try.underlying42 pl42 z42 rfl ⟨(cells_one (one_eq rfl)), ⟨(cells_one (one_eq rfl)), ⟨(cells_one (one_eq rfl)), trivial⟩⟩⟩ rfl rfl ?_
  obtain ⟨t697, h698, H⟩ := Gets.call H
  refine Dv.callx (pre := [VView.O g695 t693]) (F := [] ++ F) (fun _ : Unit => [VView.O g695 t697.2] ++ F) rfl trivial cal14 rfl (Tr.weak (view_View_Add.c h698 (p0_ := g695)) (.cons wk_id (.cons (wk_agg (.cons wk_id (.cons wk_id (.cons wk_nil (.cons wk_id (.cons wk_id (.cons wk_id .nil))))))) .nil))) (perm_to (L := [VView.O g695 t693]) (F := F) [0] rfl rfl rfl) rfl nofun (fun _ _ => ?_)
  refine .fin ?_
  refine WP.seq ?_
  refine WP.reg [(0, false), (1, false), (2, true)] (by kernel_rfl) ?_
  refine Dv.mv rfl trivial rfl ?_
  refine Dv.bld (css := [[eq (.string (⟨#[36, 117]⟩ : ByteArray))], [eq (.string (⟨#[33, 114, 58, 115]⟩ : ByteArray))], [eq (.string (⟨#[64, 97, 58, 115]⟩ : ByteArray))], [eq (.string (⟨#[36, 116]⟩ : ByteArray))]]) rfl trivial Try.underlying42 pl42 z42 rfl ⟨(cells_one (one_eq rfl)), ⟨(cells_one (one_eq rfl)), ⟨(cells_one (one_eq rfl)), ⟨(cells_one (one_eq rfl)), trivial⟩⟩⟩⟩ rfl rfl ?_
  obtain ⟨t699, h700, H⟩ := Gets.call H
  refine Dv.callx (pre := [VView.O g695 t697.2]) (F := [] ++ F) (fun _ : Unit => [VView.O g695 t699.2] ++ F) rfl trivial cal14 rfl (Tr.weak (view_View_Add.c h700 (p0_ := g695)) (.cons wk_id (.cons (wk_agg (.cons wk_id (.cons wk_id (.cons wk_nil (.cons wk_id (.cons wk_id (.cons wk_id .nil))))))) .nil))) (perm_to (L := [VView.O g695 t697.2]) (F := F) [0] rfl rfl rfl) rfl nofun (fun _ _ => ?_)
  refine .fin ?_
  refine WP.seq ?_
  refine WP.reg [(0, false), (1, false), (2, false), (3, false), (4, false), (5, false), (6, false), (7, false), (8, false), (9, false), (10, false), (11, false), (12, false), (13, false), (14, false), (15, false), (16, false), (17, false), (18, false), (19, false), (20, false), (21, false), (22, false), (23, false)] (by kernel_rfl) ?_
  refine Dv.mv rfl trivial rfl ?_
  refine Dv.gh (l' := fun (g701 : Nat × OV) => [blk g701.1 56 [eq g701.2.1], mpo Value.string DDag.O g701.2.1 t699.2.fdags] ++ F) (gh_of (VView.opn 0 rfl)) (fun g701 h702 => ?_)
  obtain ⟨t703, h704, H⟩ := Gets.call H
  refine Dv.calll (B := [blk g701.1 56 [eq g701.2.1], mpo Value.string DDag.O g701.2.1 t699.2.fdags]) (F := [] ++ F) rfl trivial cal9 rfl (Tr.weak (view_View_Fits.c h704 (b0_ := g701.1) (v0_0 := g701.2)) (.cons (wk_ptr h702) (.cons wk_id (.cons wk_id (.cons wk_id .nil))))) (perm_to (L := [blk g701.1 56 [eq g701.2.1], mpo Value.string DDag.O g701.2.1 t699.2.fdags]) (F := F) [0, 1] rfl rfl rfl) ?_
  refine Dv.bin rfl trivial rfl rfl (fun _ => run_eq) ?_
  refine Dv.mv rfl trivial rfl ?_
  cases c705 : (t703 == 0)
  · replace H := Gets.cf H c705
    refine Dv.skip rfl ⟨_, _, rfl, rfl, .inl rfl⟩ ?_
    refine Dv.skip rfl ⟨_, _, rfl, rfl, .inl rfl⟩ ?_
    refine Dv.skip rfl ⟨_, _, rfl, rfl, .inl rfl⟩ ?_
    refine Dv.pickF rfl trivial rfl rfl ?_
    refine Dv.mv rfl trivial rfl ?_
    refine Dv.skip rfl ⟨_, _, rfl, rfl, .inl rfl⟩ ?_
    refine Dv.skip rfl ⟨_, _, rfl, rfl, .inl rfl⟩ ?_
    refine Dv.skip rfl ⟨_, _, rfl, rfl, .inl rfl⟩ ?_
    refine Dv.pickF rfl trivial rfl rfl ?_
    refine Dv.mv rfl trivial rfl ?_
    refine Dv.skip rfl ⟨_, _, rfl, rfl, .inl rfl⟩ ?_
    refine Dv.skip rfl ⟨_, _, rfl, rfl, .inl rfl⟩ ?_
    refine Dv.skip rfl ⟨_, _, rfl, rfl, .inl rfl⟩ ?_
    refine Dv.pickF rfl trivial rfl rfl ?_
    refine Dv.mv rfl trivial rfl ?_
    refine Dv.skip rfl ⟨_, _, rfl, rfl, .inl rfl⟩ ?_
    refine Dv.skip rfl ⟨_, _, rfl, rfl, .inl rfl⟩ ?_
    refine Dv.skip rfl ⟨_, _, rfl, rfl, .inl rfl⟩ ?_
    refine Dv.pickF rfl trivial rfl rfl ?_
    refine Dv.asg rfl trivial rfl ?_
    refine .fin ?_
    refine WP.gh (l' := fun _ : Unit => [VView.O g695 t699.2] ++ F) (gh_of (VView.shut (p := g695) (m := t699.2) (r := F) (g701.1, g701.2) h702 (perm_to (L := [blk g701.1 56 [eq g701.2.1], mpo Value.string DDag.O g701.2.1 t699.2.fdags]) (F := F) [0, 1] rfl rfl rfl))) (fun _ _ => ?_)
    obtain rfl := Gets.out H
    exact WP.retL (fun _ _ h => h) rfl () trivial (.cons (res_tmp rfl) .nil) rfl (st_sel (L := [VView.O g695 t699.2]) (F := F) [0] 1 rfl rfl rfl)
  · replace H := Gets.ct H c705
    refine Dv.mv rfl ⟨_, _, rfl, rfl, rfl⟩ rfl ?_
    obtain ⟨t706, h707, H⟩ := Gets.call H
    refine Dv.calll (B := [blk g701.1 56 [eq g701.2.1], mpo Value.string DDag.O g701.2.1 t699.2.fdags]) (F := [] ++ F) rfl ⟨_, _, rfl, rfl, rfl⟩ cal9 rfl (Tr.weak (view_View_Fits.c h707 (b0_ := g701.1) (v0_0 := g701.2)) (.cons (wk_ptr h702) (.cons wk_id (.cons wk_id (.cons wk_id .nil))))) (perm_to (L := [blk g701.1 56 [eq g701.2.1], mpo Value.string DDag.O g701.2.1 t699.2.fdags]) (F := F) [0, 1] rfl rfl rfl) ?_
    refine Dv.bin rfl ⟨_, _, rfl, rfl, rfl⟩ rfl rfl (fun _ => run_eq) ?_
    refine Dv.pickT rfl trivial rfl rfl ?_
    refine Dv.mv rfl trivial rfl ?_
    cases c708 : (t706 == 7)
    · replace H := Gets.cf H c708
      refine Dv.skip rfl ⟨_, _, rfl, rfl, .inl rfl⟩ ?_
      refine Dv.skip rfl ⟨_, _, rfl, rfl, .inl rfl⟩ ?_
      refine Dv.skip rfl ⟨_, _, rfl, rfl, .inl rfl⟩ ?_
      refine Dv.pickF rfl trivial rfl rfl ?_
      refine Dv.mv rfl trivial rfl ?_
      refine Dv.skip rfl ⟨_, _, rfl, rfl, .inl rfl⟩ ?_
      refine Dv.skip rfl ⟨_, _, rfl, rfl, .inl rfl⟩ ?_
      refine Dv.skip rfl ⟨_, _, rfl, rfl, .inl rfl⟩ ?_
      refine Dv.pickF rfl trivial rfl rfl ?_
      refine Dv.mv rfl trivial rfl ?_
      refine Dv.skip rfl ⟨_, _, rfl, rfl, .inl rfl⟩ ?_
      refine Dv.skip rfl ⟨_, _, rfl, rfl, .inl rfl⟩ ?_
      refine Dv.skip rfl ⟨_, _, rfl, rfl, .inl rfl⟩ ?_
      refine Dv.pickF rfl trivial rfl rfl ?_
      refine Dv.asg rfl trivial rfl ?_
      refine .fin ?_
      refine WP.gh (l' := fun _ : Unit => [VView.O g695 t699.2] ++ F) (gh_of (VView.shut (p := g695) (m := t699.2) (r := F) (g701.1, g701.2) h702 (perm_to (L := [blk g701.1 56 [eq g701.2.1], mpo Value.string DDag.O g701.2.1 t699.2.fdags]) (F := F) [0, 1] rfl rfl rfl))) (fun _ _ => ?_)
      obtain rfl := Gets.out H
      exact WP.retL (fun _ _ h => h) rfl () trivial (.cons (res_tmp rfl) .nil) rfl (st_sel (L := [VView.O g695 t699.2]) (F := F) [0] 1 rfl rfl rfl)
    · replace H := Gets.ct H c708
      refine Dv.mv rfl ⟨_, _, rfl, rfl, rfl⟩ rfl ?_
      obtain ⟨t709, h710, H⟩ := Gets.call H
      refine Dv.calll (B := [blk g701.1 56 [eq g701.2.1], mpo Value.string DDag.O g701.2.1 t699.2.fdags]) (F := [] ++ F) rfl ⟨_, _, rfl, rfl, rfl⟩ cal9 rfl (Tr.weak (view_View_Fits.c h710 (b0_ := g701.1) (v0_0 := g701.2)) (.cons (wk_ptr h702) (.cons wk_id (.cons wk_id (.cons wk_id .nil))))) (perm_to (L := [blk g701.1 56 [eq g701.2.1], mpo Value.string DDag.O g701.2.1 t699.2.fdags]) (F := F) [0, 1] rfl rfl rfl) ?_
      refine Dv.bin rfl ⟨_, _, rfl, rfl, rfl⟩ rfl rfl (fun _ => run_eq) ?_
      refine Dv.pickT rfl trivial rfl rfl ?_
      refine Dv.mv rfl trivial rfl ?_
      cases c711 : (t709 == 0)
      · replace H := Gets.cf H c711
        refine Dv.skip rfl ⟨_, _, rfl, rfl, .inl rfl⟩ ?_
        refine Dv.skip rfl ⟨_, _, rfl, rfl, .inl rfl⟩ ?_
        refine Dv.skip rfl ⟨_, _, rfl, rfl, .inl rfl⟩ ?_
        refine Dv.pickF rfl trivial rfl rfl ?_
        refine Dv.mv rfl trivial rfl ?_
        refine Dv.skip rfl ⟨_, _, rfl, rfl, .inl rfl⟩ ?_
        refine Dv.skip rfl ⟨_, _, rfl, rfl, .inl rfl⟩ ?_
        refine Dv.skip rfl ⟨_, _, rfl, rfl, .inl rfl⟩ ?_
        refine Dv.pickF rfl trivial rfl rfl ?_
        refine Dv.asg rfl trivial rfl ?_
        refine .fin ?_
        refine WP.gh (l' := fun _ : Unit => [VView.O g695 t699.2] ++ F) (gh_of (VView.shut (p := g695) (m := t699.2) (r := F) (g701.1, g701.2) h702 (perm_to (L := [blk g701.1 56 [eq g701.2.1], mpo Value.string DDag.O g701.2.1 t699.2.fdags]) (F := F) [0, 1] rfl rfl rfl))) (fun _ _ => ?_)
        obtain rfl := Gets.out H
        exact WP.retL (fun _ _ h => h) rfl () trivial (.cons (res_tmp rfl) .nil) rfl (st_sel (L := [VView.O g695 t699.2]) (F := F) [0] 1 rfl rfl rfl)
      · replace H := Gets.ct H c711
        refine Dv.mv rfl ⟨_, _, rfl, rfl, rfl⟩ rfl ?_
        obtain ⟨t712, h713, H⟩ := Gets.call H
        refine Dv.calll (B := [blk g701.1 56 [eq g701.2.1], mpo Value.string DDag.O g701.2.1 t699.2.fdags]) (F := [] ++ F) rfl ⟨_, _, rfl, rfl, rfl⟩ cal9 rfl (Tr.weak (view_View_Fits.c h713 (b0_ := g701.1) (v0_0 := g701.2)) (.cons (wk_ptr h702) (.cons wk_id (.cons wk_id (.cons wk_id .nil))))) (perm_to (L := [blk g701.1 56 [eq g701.2.1], mpo Value.string DDag.O g701.2.1 t699.2.fdags]) (F := F) [0, 1] rfl rfl rfl) ?_
        refine Dv.bin rfl ⟨_, _, rfl, rfl, rfl⟩ rfl rfl (fun _ => run_eq) ?_
        refine Dv.pickT rfl trivial rfl rfl ?_
        refine Dv.mv rfl trivial rfl ?_
        cases c714 : (t712 == 0)
        · replace H := Gets.cf H c714
          refine Dv.skip rfl ⟨_, _, rfl, rfl, .inl rfl⟩ ?_
          refine Dv.skip rfl ⟨_, _, rfl, rfl, .inl rfl⟩ ?_
          refine Dv.skip rfl ⟨_, _, rfl, rfl, .inl rfl⟩ ?_
          refine Dv.pickF rfl trivial rfl rfl ?_
          refine Dv.asg rfl trivial rfl ?_
          refine .fin ?_
          refine WP.gh (l' := fun _ : Unit => [VView.O g695 t699.2] ++ F) (gh_of (VView.shut (p := g695) (m := t699.2) (r := F) (g701.1, g701.2) h702 (perm_to (L := [blk g701.1 56 [eq g701.2.1], mpo Value.string DDag.O g701.2.1 t699.2.fdags]) (F := F) [0, 1] rfl rfl rfl))) (fun _ _ => ?_)
          obtain rfl := Gets.out H
          exact WP.retL (fun _ _ h => h) rfl () trivial (.cons (res_tmp rfl) .nil) rfl (st_sel (L := [VView.O g695 t699.2]) (F := F) [0] 1 rfl rfl rfl)
        · replace H := Gets.ct H c714
          refine Dv.mv rfl ⟨_, _, rfl, rfl, rfl⟩ rfl ?_
          obtain ⟨t715, h716, H⟩ := Gets.call H
          refine Dv.calll (B := [blk g701.1 56 [eq g701.2.1], mpo Value.string DDag.O g701.2.1 t699.2.fdags]) (F := [] ++ F) rfl ⟨_, _, rfl, rfl, rfl⟩ cal9 rfl (Tr.weak (view_View_Fits.c h716 (b0_ := g701.1) (v0_0 := g701.2)) (.cons (wk_ptr h702) (.cons wk_id (.cons wk_id (.cons wk_id .nil))))) (perm_to (L := [blk g701.1 56 [eq g701.2.1], mpo Value.string DDag.O g701.2.1 t699.2.fdags]) (F := F) [0, 1] rfl rfl rfl) ?_
          refine Dv.bin rfl ⟨_, _, rfl, rfl, rfl⟩ rfl rfl (fun _ => run_eq) ?_
          refine Dv.pickT rfl trivial rfl rfl ?_
          refine Dv.asg rfl trivial rfl ?_
          refine .fin ?_
          refine WP.gh (l' := fun _ : Unit => [VView.O g695 t699.2] ++ F) (gh_of (VView.shut (p := g695) (m := t699.2) (r := F) (g701.1, g701.2) h702 (perm_to (L := [blk g701.1 56 [eq g701.2.1], mpo Value.string DDag.O g701.2.1 t699.2.fdags]) (F := F) [0, 1] rfl rfl rfl))) (fun _ _ => ?_)
          obtain rfl := Gets.out H
          exact WP.retL (fun _ _ h => h) rfl () trivial (.cons (res_tmp rfl) .nil) rfl (st_sel (L := [VView.O g695 t699.2]) (F := F) [0] 1 rfl rfl rfl)
end Go.Proofs.Ytigmkniiojpdiaa
