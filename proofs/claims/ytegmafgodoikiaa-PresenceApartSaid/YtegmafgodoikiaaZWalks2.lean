/- The walks. -/
import Derived.Test.YtegmafgodoikiaaZWalks1
import Derived.Test.YtegmafgodoikiaaConU
import Derived.Eval
set_option linter.all false
set_option maxRecDepth 10000
set_option maxHeartbeats 20000000
namespace Go.Proofs.Ytegmafgodoikiaa
open Go Go.Sp
theorem concourseref15_Put.c {k : Nat} {a0 : TRef} {a1 : Edu} {r : TRef × Bool × Int} (h : concourseref15_Put.f k a0 a1 = some r) : Pt Try.prog 6 [agg (TRef.enc a0), agg (Edu.enc a1)] (tup [agg (TRef.enc r.1), eq (.bool r.2.1), eq (.int .i64 r.2.2)]) := by
  unfold concourseref15_Put.f at h
  refine (Tr.body Try.func6 (c := _) rfl Try.ntmps6 (Nat.le_of_ble_eq_true rfl) fun R0 F => ?_).pt
  replace h := Gets.of h
  have H := h
  clear h
  refine WP.seq ?_
  refine WP.reg [(0, true), (1, true), (2, true), (3, false), (4, false)] (by kernel_rfl) ?_
  refine Dv.box rfl trivial rfl (cells_agg (TRef.K.one _)) nofun (fun b254 => ?_)
  refine Dv.box rfl trivial rfl (cells_agg (Edu.K.one _)) nofun (fun b255 => ?_)
  refine Dv.alloc (z := .agg #[.slice none 0 0, .slice none 0 0]) (qs := [eq (.slice none 0 0), eq (.slice none 0 0)]) rfl trivial z29 rfl nofun (fun b256 => ?_)
  refine Dv.asg rfl trivial rfl ?_
  refine Dv.asg rfl trivial rfl ?_
  refine .fin ?_
  refine WP.seq ?_
  refine WP.reg [(0, false), (1, false), (2, false)] (by kernel_rfl) ?_
  refine Dv.ldbs rfl trivial rfl Try.underlying24 rfl c24 (mem_at 1 rfl) (Nat.le_of_ble_eq_true rfl) ?_
  obtain ⟨t257, h258, H⟩ := Gets.call H
  refine Dv.call rfl trivial cal16 rfl (concourseref03_May.c h258) ?_
  refine Dv.asg rfl trivial rfl ?_
  refine .fin ?_
  refine WP.seq ?_
  refine WP.seq ?_
  refine WP.reg [(0, false), (1, false), (2, false), (3, false), (4, false), (5, false), (6, false)] (by kernel_rfl) ?_
  refine Dv.fab rfl trivial rfl Try.underlying24 rfl Try.underlying3 c3 (by decide) ?_
  refine Dv.ldb rfl trivial rfl Try.underlying3 rfl (mem_at 1 rfl) rfl ?_
  refine Dv.bin rfl trivial rfl rfl (fun _ => run_ne) ?_
  refine Dv.mv rfl trivial rfl ?_
  cases c259 : (a1.fKind != 3)
  · replace H := Gets.cf H c259
    refine Dv.mv rfl ⟨_, _, rfl, rfl, rfl⟩ rfl ?_
    refine Dv.un rfl ⟨_, _, rfl, rfl, rfl⟩ rfl (fun _ => run_not _) ?_
    refine Dv.pickF rfl trivial rfl rfl ?_
    refine .fin ?_
    refine WP.cond rfl (fun c261 => ?_) (fun c261 => ?_)
    · replace H := Gets.ct H c261
      refine WP.seq ?_
      refine WP.reg [(0, false), (1, true), (2, false), (3, false)] (by kernel_rfl) ?_
      refine Dv.ldbs rfl trivial rfl Try.underlying29 rfl c29 (mem_at 2 rfl) (Nat.le_of_ble_eq_true rfl) ?_
      refine Dv.stx ([blk b256 29 [sl Edu.K a0.fL, sl (intK .i64) a0.fTold], blk b255 24 [eq (.int .i64 a1.fKind), eq (.string a1.fRoom), eq (.string a1.fUser), eq (.string a1.fEvent), eq (.string a1.fThread), eq (.bool a1.fPrivate), eq (.bool a1.fOn), eq (.int .i64 a1.fSpan), eq (.int .i64 a1.fState), eq (.int .i64 a1.fTick), eq (.int .i64 a1.fStamp)], blk b254 29 [sl Edu.K a0.fL, sl (intK .i64) a0.fTold]] ++ F) rfl trivial rfl rfl (cells_agg (TRef.K.one _)) Try.underlying29 c29 rfl (j := 0) rfl (Nat.le_of_ble_eq_true rfl) rfl nofun ?_
      refine Dv.asg rfl trivial rfl ?_
      refine Dv.asg rfl trivial rfl ?_
      refine .fin ?_
      obtain rfl := Gets.out H
      exact WP.retL (fun _ _ h => h) rfl () trivial (.cons (res_cells rfl Try.underlying29 rfl c29 (mem_at 0 rfl) rfl) (.cons (res_tmp rfl) (.cons (res_tmp rfl) .nil))) rfl (st_sel (L := [blk b256 29 [sl Edu.K a0.fL, sl (intK .i64) a0.fTold], blk b255 24 [eq (.int .i64 a1.fKind), eq (.string a1.fRoom), eq (.string a1.fUser), eq (.string a1.fEvent), eq (.string a1.fThread), eq (.bool a1.fPrivate), eq (.bool a1.fOn), eq (.int .i64 a1.fSpan), eq (.int .i64 a1.fState), eq (.int .i64 a1.fTick), eq (.int .i64 a1.fStamp)], blk b254 29 [sl Edu.K a0.fL, sl (intK .i64) a0.fTold]]) (F := F) [0, 1, 2] 3 rfl rfl rfl)
    · replace H := Gets.cf H c261
      refine WP.skip ?_
      refine WP.seq ?_
      refine WP.reg [(0, true)] (by kernel_rfl) ?_
      refine Dv.alloc (z := .agg #[.slice none 0 0, .slice none 0 0]) (qs := [eq (.slice none 0 0), eq (.slice none 0 0)]) rfl trivial z29 rfl nofun (fun b262 => ?_)
      refine .fin ?_
      refine WP.seq ?_
      refine WP.reg [(0, false)] (by kernel_rfl) ?_
      refine Dv.asg rfl trivial rfl ?_
      refine .fin ?_
      refine WP.seqr H (fun q302 : (Bool × Int × Bool × (List Edu) × (List Int)) × OV × OV => q302.1) (fun q302 : (Bool × Int × Bool × (List Edu) × (List Int)) × OV × OV => [(0, agg (TRef.enc a0)), (1, agg (Edu.enc a1)), (2, eq (.pointer (some ⟨b254, 0, none⟩))), (3, eq (.pointer (some ⟨b255, 0, none⟩))), (4, eq (.pointer (some ⟨b256, 0, none⟩))), (5, eq (.bool false)), (6, eq (.int .i64 0)), (7, eq (.bool t257)), (8, eq (.pointer (some ⟨b262, 0, none⟩))), (9, eq (.bool q302.1.1)), (10, eq (.int .i64 q302.1.2.1)), (20, eq (.bool (!t257))), (26, eq (.bool q302.1.2.2.1))]) (fun q302 : (Bool × Int × Bool × (List Edu) × (List Int)) × OV × OV => [blk b262 29 [eq q302.2.1.1, eq q302.2.2.1], blk b256 29 [eq (.slice none 0 0), eq (.slice none 0 0)], blk b255 24 [eq (.int .i64 a1.fKind), eq (.string a1.fRoom), eq (.string a1.fUser), eq (.string a1.fEvent), eq (.string a1.fThread), eq (.bool a1.fPrivate), eq (.bool a1.fOn), eq (.int .i64 a1.fSpan), eq (.int .i64 a1.fState), eq (.int .i64 a1.fTick), eq (.int .i64 a1.fStamp)], blk b254 29 [sl Edu.K a0.fL, sl (intK .i64) a0.fTold], own Edu.K q302.2.1.1 q302.1.2.2.2.1, own (intK .i64) q302.2.2.1 q302.1.2.2.2.2] ++ F) (fun q302 H => ?_) (fun H => ?_)
      · obtain ⟨p263, v264, v265⟩ := q302
        refine WP.seq ?_
        refine WP.seq ?_
        refine WP.reg [(0, false), (1, false)] (by kernel_rfl) ?_
        refine Dv.mv rfl trivial rfl ?_
        refine Dv.un rfl trivial rfl (fun _ => run_not _) ?_
        refine .fin ?_
        refine WP.cond rfl (fun c266 => ?_) (fun c266 => ?_)
        · replace H := Gets.ct H c266
          refine WP.seq ?_
          refine WP.reg [(0, false), (1, false), (2, false), (3, false), (4, true), (5, false), (6, true)] (by kernel_rfl) ?_
          refine Dv.fab rfl trivial rfl Try.underlying29 rfl Try.underlying22 c22 (by decide) ?_
          refine Dv.ldb rfl trivial rfl Try.underlying22 rfl (mem_at 0 rfl) rfl ?_
          refine Dv.ldbs rfl trivial rfl Try.underlying24 rfl c24 (mem_at 2 rfl) (Nat.le_of_ble_eq_true rfl) ?_
          refine Dv.lit Edu.K ([a1] : List Edu) (css := [Edu.enc a1]) rfl trivial Try.underlying22 Try.underlying24 c24 z24 rfl (by decide) (by decide) rfl ⟨(cells_agg (Edu.K.one _)), trivial⟩ rfl rfl rfl ?_
          obtain ⟨g267, H⟩ := Gets.grd H
          refine Dv.appx (jj := 4) (ys := ([a1] : List Edu)) (fun v268 : OV => [blk b262 29 [eq v264.1, eq v265.1], blk b256 29 [eq (.slice none 0 0), eq (.slice none 0 0)], blk b255 24 [eq (.int .i64 a1.fKind), eq (.string a1.fRoom), eq (.string a1.fUser), eq (.string a1.fEvent), eq (.string a1.fThread), eq (.bool a1.fPrivate), eq (.bool a1.fOn), eq (.int .i64 a1.fSpan), eq (.int .i64 a1.fState), eq (.int .i64 a1.fTick), eq (.int .i64 a1.fStamp)], blk b254 29 [sl Edu.K a0.fL, sl (intK .i64) a0.fTold], own Edu.K v268.1 (p263.2.2.2.1 ++ ([a1] : List Edu)), own (intK .i64) v265.1 p263.2.2.2.2] ++ F) rfl trivial rfl rfl rfl src_sl Try.underlying22 (.inr ⟨_, Try.underlying22⟩) inf24 rfl (by decide) g267 rfl nofun (fun v268 => ?_)
          refine Dv.fab rfl trivial rfl Try.underlying29 rfl Try.underlying22 c22 (by decide) ?_
          refine Dv.stx ([blk b262 29 [eq v268.1, eq v265.1], blk b256 29 [eq (.slice none 0 0), eq (.slice none 0 0)], blk b255 24 [eq (.int .i64 a1.fKind), eq (.string a1.fRoom), eq (.string a1.fUser), eq (.string a1.fEvent), eq (.string a1.fThread), eq (.bool a1.fPrivate), eq (.bool a1.fOn), eq (.int .i64 a1.fSpan), eq (.int .i64 a1.fState), eq (.int .i64 a1.fTick), eq (.int .i64 a1.fStamp)], blk b254 29 [sl Edu.K a0.fL, sl (intK .i64) a0.fTold], own Edu.K v268.1 (p263.2.2.2.1 ++ ([a1] : List Edu)), own (intK .i64) v265.1 p263.2.2.2.2] ++ F) rfl trivial rfl rfl (cells_one one_ov) Try.underlying22 c22 rfl (j := 0) rfl (Nat.le_of_ble_eq_true rfl) rfl nofun ?_
          refine .fin ?_
          refine WP.reg [(0, false), (1, false), (2, false), (3, true), (4, false), (5, true)] (by kernel_rfl) ?_
          refine Dv.fab rfl trivial rfl Try.underlying29 rfl Try.underlying27 c27 (by decide) ?_
          refine Dv.ldb rfl trivial rfl Try.underlying27 rfl (mem_at 0 rfl) rfl ?_
          refine Dv.lit (intK .i64) ([(-1)] : List Int) (css := [[eq (.int .i64 (-1))]]) rfl trivial Try.underlying27 Try.underlying3 c3 z3 rfl (by decide) (by decide) rfl ⟨(cells_one (one_eq rfl)), trivial⟩ rfl rfl rfl ?_
          obtain ⟨g269, H⟩ := Gets.grd H
          refine Dv.appx (jj := 5) (ys := ([(-1)] : List Int)) (fun v270 : OV => [blk b262 29 [eq v268.1, eq v265.1], blk b256 29 [eq (.slice none 0 0), eq (.slice none 0 0)], blk b255 24 [eq (.int .i64 a1.fKind), eq (.string a1.fRoom), eq (.string a1.fUser), eq (.string a1.fEvent), eq (.string a1.fThread), eq (.bool a1.fPrivate), eq (.bool a1.fOn), eq (.int .i64 a1.fSpan), eq (.int .i64 a1.fState), eq (.int .i64 a1.fTick), eq (.int .i64 a1.fStamp)], blk b254 29 [sl Edu.K a0.fL, sl (intK .i64) a0.fTold], own Edu.K v268.1 (p263.2.2.2.1 ++ ([a1] : List Edu)), own (intK .i64) v270.1 (p263.2.2.2.2 ++ ([(-1)] : List Int))] ++ F) rfl trivial rfl rfl rfl src_sl Try.underlying27 (.inr ⟨_, Try.underlying27⟩) inf3 rfl (by decide) g269 rfl nofun (fun v270 => ?_)
          refine Dv.fab rfl trivial rfl Try.underlying29 rfl Try.underlying27 c27 (by decide) ?_
          refine Dv.stx ([blk b262 29 [eq v268.1, eq v270.1], blk b256 29 [eq (.slice none 0 0), eq (.slice none 0 0)], blk b255 24 [eq (.int .i64 a1.fKind), eq (.string a1.fRoom), eq (.string a1.fUser), eq (.string a1.fEvent), eq (.string a1.fThread), eq (.bool a1.fPrivate), eq (.bool a1.fOn), eq (.int .i64 a1.fSpan), eq (.int .i64 a1.fState), eq (.int .i64 a1.fTick), eq (.int .i64 a1.fStamp)], blk b254 29 [sl Edu.K a0.fL, sl (intK .i64) a0.fTold], own Edu.K v268.1 (p263.2.2.2.1 ++ ([a1] : List Edu)), own (intK .i64) v270.1 (p263.2.2.2.2 ++ ([(-1)] : List Int))] ++ F) rfl trivial rfl rfl (cells_one one_ov) Try.underlying27 c27 rfl (j := 0) rfl (Nat.le_of_ble_eq_true rfl) rfl nofun ?_
          refine .fin ?_
          refine WP.seq ?_
          refine WP.reg [(0, false), (1, true), (2, false), (3, false)] (by kernel_rfl) ?_
          refine Dv.ldbs rfl trivial rfl Try.underlying29 rfl c29 (mem_at 0 rfl) (Nat.le_of_ble_eq_true rfl) ?_
          refine Dv.stx ([blk b262 29 [eq v268.1, eq v270.1], blk b256 29 [eq v268.1, eq v270.1], blk b255 24 [eq (.int .i64 a1.fKind), eq (.string a1.fRoom), eq (.string a1.fUser), eq (.string a1.fEvent), eq (.string a1.fThread), eq (.bool a1.fPrivate), eq (.bool a1.fOn), eq (.int .i64 a1.fSpan), eq (.int .i64 a1.fState), eq (.int .i64 a1.fTick), eq (.int .i64 a1.fStamp)], blk b254 29 [sl Edu.K a0.fL, sl (intK .i64) a0.fTold], own Edu.K v268.1 (p263.2.2.2.1 ++ ([a1] : List Edu)), own (intK .i64) v270.1 (p263.2.2.2.2 ++ ([(-1)] : List Int))] ++ F) rfl trivial rfl rfl (cells_agg (ones_cons one_ov (ones_cons one_ov ones_nil))) Try.underlying29 c29 rfl (j := 1) rfl (Nat.le_of_ble_eq_true rfl) rfl nofun ?_
          refine Dv.asg rfl trivial rfl ?_
          refine Dv.asg rfl trivial rfl ?_
          refine .fin ?_
          refine WP.gh (gh_frz (E' := [(4, eq (.pointer (some ⟨b256, 0, none⟩))), (5, eq (.bool true)), (6, eq (.int .i64 0))]) (l' := [blk b262 29 [sl Edu.K (p263.2.2.2.1 ++ ([a1] : List Edu)), eq v270.1], blk b256 29 [sl Edu.K (p263.2.2.2.1 ++ ([a1] : List Edu)), eq v270.1], blk b255 24 [eq (.int .i64 a1.fKind), eq (.string a1.fRoom), eq (.string a1.fUser), eq (.string a1.fEvent), eq (.string a1.fThread), eq (.bool a1.fPrivate), eq (.bool a1.fOn), eq (.int .i64 a1.fSpan), eq (.int .i64 a1.fState), eq (.int .i64 a1.fTick), eq (.int .i64 a1.fStamp)], blk b254 29 [sl Edu.K a0.fL, sl (intK .i64) a0.fTold], own (intK .i64) v270.1 (p263.2.2.2.2 ++ ([(-1)] : List Int))] ++ F) 4 rfl (cve_cons rfl cv_id (cve_cons rfl cv_id (cve_cons rfl cv_id cve_nil))) (all2_app (.cons (cva_blk (.cons cv_eq (.cons cv_id .nil))) (.cons (cva_blk (.cons cv_eq (.cons cv_id .nil))) (.cons cva_id (.cons cva_id (.cons cva_id .nil))))) fun _ => cva_id)) (fun _ _ => ?_)
          refine WP.gh (gh_frz (E' := [(4, eq (.pointer (some ⟨b256, 0, none⟩))), (5, eq (.bool true)), (6, eq (.int .i64 0))]) (l' := [blk b262 29 [sl Edu.K (p263.2.2.2.1 ++ ([a1] : List Edu)), sl (intK .i64) (p263.2.2.2.2 ++ ([(-1)] : List Int))], blk b256 29 [sl Edu.K (p263.2.2.2.1 ++ ([a1] : List Edu)), sl (intK .i64) (p263.2.2.2.2 ++ ([(-1)] : List Int))], blk b255 24 [eq (.int .i64 a1.fKind), eq (.string a1.fRoom), eq (.string a1.fUser), eq (.string a1.fEvent), eq (.string a1.fThread), eq (.bool a1.fPrivate), eq (.bool a1.fOn), eq (.int .i64 a1.fSpan), eq (.int .i64 a1.fState), eq (.int .i64 a1.fTick), eq (.int .i64 a1.fStamp)], blk b254 29 [sl Edu.K a0.fL, sl (intK .i64) a0.fTold]] ++ F) 4 rfl (cve_cons rfl cv_id (cve_cons rfl cv_id (cve_cons rfl cv_id cve_nil))) (all2_app (.cons (cva_blk (.cons cv_id (.cons cv_eq .nil))) (.cons (cva_blk (.cons cv_id (.cons cv_eq .nil))) (.cons cva_id (.cons cva_id .nil)))) fun _ => cva_id)) (fun _ _ => ?_)
          obtain rfl := Gets.out H
          exact WP.retL (fun _ _ h => h) rfl () trivial (.cons (res_cells rfl Try.underlying29 rfl c29 (mem_at 1 rfl) rfl) (.cons (res_tmp rfl) (.cons (res_tmp rfl) .nil))) rfl (st_sel (L := [blk b262 29 [sl Edu.K (p263.2.2.2.1 ++ ([a1] : List Edu)), sl (intK .i64) (p263.2.2.2.2 ++ ([(-1)] : List Int))], blk b256 29 [sl Edu.K (p263.2.2.2.1 ++ ([a1] : List Edu)), sl (intK .i64) (p263.2.2.2.2 ++ ([(-1)] : List Int))], blk b255 24 [eq (.int .i64 a1.fKind), eq (.string a1.fRoom), eq (.string a1.fUser), eq (.string a1.fEvent), eq (.string a1.fThread), eq (.bool a1.fPrivate), eq (.bool a1.fOn), eq (.int .i64 a1.fSpan), eq (.int .i64 a1.fState), eq (.int .i64 a1.fTick), eq (.int .i64 a1.fStamp)], blk b254 29 [sl Edu.K a0.fL, sl (intK .i64) a0.fTold]]) (F := F) [0, 1, 2, 3] 4 rfl rfl rfl)
        · replace H := Gets.cf H c266
          refine WP.skip ?_
          refine WP.seq ?_
          refine WP.reg [(0, false), (1, true), (2, false), (3, false)] (by kernel_rfl) ?_
          refine Dv.ldbs rfl trivial rfl Try.underlying29 rfl c29 (mem_at 0 rfl) (Nat.le_of_ble_eq_true rfl) ?_
          refine Dv.stx ([blk b262 29 [eq v264.1, eq v265.1], blk b256 29 [eq v264.1, eq v265.1], blk b255 24 [eq (.int .i64 a1.fKind), eq (.string a1.fRoom), eq (.string a1.fUser), eq (.string a1.fEvent), eq (.string a1.fThread), eq (.bool a1.fPrivate), eq (.bool a1.fOn), eq (.int .i64 a1.fSpan), eq (.int .i64 a1.fState), eq (.int .i64 a1.fTick), eq (.int .i64 a1.fStamp)], blk b254 29 [sl Edu.K a0.fL, sl (intK .i64) a0.fTold], own Edu.K v264.1 p263.2.2.2.1, own (intK .i64) v265.1 p263.2.2.2.2] ++ F) rfl trivial rfl rfl (cells_agg (ones_cons one_ov (ones_cons one_ov ones_nil))) Try.underlying29 c29 rfl (j := 1) rfl (Nat.le_of_ble_eq_true rfl) rfl nofun ?_
          refine Dv.asg rfl trivial rfl ?_
          refine Dv.asg rfl trivial rfl ?_
          refine .fin ?_
          refine WP.gh (gh_frz (E' := [(4, eq (.pointer (some ⟨b256, 0, none⟩))), (5, eq (.bool true)), (6, eq (.int .i64 0))]) (l' := [blk b262 29 [sl Edu.K p263.2.2.2.1, eq v265.1], blk b256 29 [sl Edu.K p263.2.2.2.1, eq v265.1], blk b255 24 [eq (.int .i64 a1.fKind), eq (.string a1.fRoom), eq (.string a1.fUser), eq (.string a1.fEvent), eq (.string a1.fThread), eq (.bool a1.fPrivate), eq (.bool a1.fOn), eq (.int .i64 a1.fSpan), eq (.int .i64 a1.fState), eq (.int .i64 a1.fTick), eq (.int .i64 a1.fStamp)], blk b254 29 [sl Edu.K a0.fL, sl (intK .i64) a0.fTold], own (intK .i64) v265.1 p263.2.2.2.2] ++ F) 4 rfl (cve_cons rfl cv_id (cve_cons rfl cv_id (cve_cons rfl cv_id cve_nil))) (all2_app (.cons (cva_blk (.cons cv_eq (.cons cv_id .nil))) (.cons (cva_blk (.cons cv_eq (.cons cv_id .nil))) (.cons cva_id (.cons cva_id (.cons cva_id .nil))))) fun _ => cva_id)) (fun _ _ => ?_)
          refine WP.gh (gh_frz (E' := [(4, eq (.pointer (some ⟨b256, 0, none⟩))), (5, eq (.bool true)), (6, eq (.int .i64 0))]) (l' := [blk b262 29 [sl Edu.K p263.2.2.2.1, sl (intK .i64) p263.2.2.2.2], blk b256 29 [sl Edu.K p263.2.2.2.1, sl (intK .i64) p263.2.2.2.2], blk b255 24 [eq (.int .i64 a1.fKind), eq (.string a1.fRoom), eq (.string a1.fUser), eq (.string a1.fEvent), eq (.string a1.fThread), eq (.bool a1.fPrivate), eq (.bool a1.fOn), eq (.int .i64 a1.fSpan), eq (.int .i64 a1.fState), eq (.int .i64 a1.fTick), eq (.int .i64 a1.fStamp)], blk b254 29 [sl Edu.K a0.fL, sl (intK .i64) a0.fTold]] ++ F) 4 rfl (cve_cons rfl cv_id (cve_cons rfl cv_id (cve_cons rfl cv_id cve_nil))) (all2_app (.cons (cva_blk (.cons cv_id (.cons cv_eq .nil))) (.cons (cva_blk (.cons cv_id (.cons cv_eq .nil))) (.cons cva_id (.cons cva_id .nil)))) fun _ => cva_id)) (fun _ _ => ?_)
          obtain rfl := Gets.out H
          exact WP.retL (fun _ _ h => h) rfl () trivial (.cons (res_cells rfl Try.underlying29 rfl c29 (mem_at 1 rfl) rfl) (.cons (res_tmp rfl) (.cons (res_tmp rfl) .nil))) rfl (st_sel (L := [blk b262 29 [sl Edu.K p263.2.2.2.1, sl (intK .i64) p263.2.2.2.2], blk b256 29 [sl Edu.K p263.2.2.2.1, sl (intK .i64) p263.2.2.2.2], blk b255 24 [eq (.int .i64 a1.fKind), eq (.string a1.fRoom), eq (.string a1.fUser), eq (.string a1.fEvent), eq (.string a1.fThread), eq (.bool a1.fPrivate), eq (.bool a1.fOn), eq (.int .i64 a1.fSpan), eq (.int .i64 a1.fState), eq (.int .i64 a1.fTick), eq (.int .i64 a1.fStamp)], blk b254 29 [sl Edu.K a0.fL, sl (intK .i64) a0.fTold]]) (F := F) [0, 1, 2, 3] 4 rfl rfl rfl)
      · refine WP.seq ?_
        refine WP.reg [(0, false)] (by kernel_rfl) ?_
        refine Dv.asg rfl trivial rfl ?_
        refine .fin ?_
        refine WP.block ?_
        refine WP.gh (gh_of (st_nil Edu.K none)) (fun _ _ => ?_)
        refine WP.gh (gh_of (st_nil (intK .i64) none)) (fun _ _ => ?_)
        refine WP.gh (l' := fun _ => [blk b262 29 [eq nilV.1, eq nilV1.1], blk b256 29 [eq (.slice none 0 0), eq (.slice none 0 0)], blk b255 24 [eq (.int .i64 a1.fKind), eq (.string a1.fRoom), eq (.string a1.fUser), eq (.string a1.fEvent), eq (.string a1.fThread), eq (.bool a1.fPrivate), eq (.bool a1.fOn), eq (.int .i64 a1.fSpan), eq (.int .i64 a1.fState), eq (.int .i64 a1.fTick), eq (.int .i64 a1.fStamp)], blk b254 29 [sl Edu.K a0.fL, sl (intK .i64) a0.fTold], own Edu.K nilV.1 ([] : List Edu), own (intK .i64) nilV1.1 ([] : List Int)] ++ F) (gh_of (st_selg (L := [own (intK .i64) nilV1.1 ([] : List Int), own Edu.K nilV.1 ([] : List Edu), blk b262 29 [eq nilV.1, eq nilV1.1], blk b256 29 [eq (.slice none 0 0), eq (.slice none 0 0)], blk b255 24 [eq (.int .i64 a1.fKind), eq (.string a1.fRoom), eq (.string a1.fUser), eq (.string a1.fEvent), eq (.string a1.fThread), eq (.bool a1.fPrivate), eq (.bool a1.fOn), eq (.int .i64 a1.fSpan), eq (.int .i64 a1.fState), eq (.int .i64 a1.fTick), eq (.int .i64 a1.fStamp)], blk b254 29 [sl Edu.K a0.fL, sl (intK .i64) a0.fTold]]) (F := F) [2, 3, 4, 5, 1, 0] 0 (by kernel_rfl) rfl rfl)) (fun _ _ => ?_)
        refine WP.loopg (fun j_ (p301 : Bool × Int × (List Edu) × (List Int) × OV × OV) => concourseref15_Put.l0 k a0 a1 j_ p301.1 p301.2.1 p301.2.2.1 p301.2.2.2.1) (false, 0, ([] : List Edu), ([] : List Int), nilV, nilV1) H (fun p301 => [(0, agg (TRef.enc a0)), (1, agg (Edu.enc a1)), (2, eq (.pointer (some ⟨b254, 0, none⟩))), (3, eq (.pointer (some ⟨b255, 0, none⟩))), (4, eq (.pointer (some ⟨b256, 0, none⟩))), (5, eq (.bool false)), (6, eq (.int .i64 0)), (7, eq (.bool t257)), (8, eq (.pointer (some ⟨b262, 0, none⟩))), (9, eq (.bool p301.1)), (10, eq (.int .i64 p301.2.1)), (20, eq (.bool (!t257)))]) (fun p301 => [blk b262 29 [eq p301.2.2.2.2.1.1, eq p301.2.2.2.2.2.1], blk b256 29 [eq (.slice none 0 0), eq (.slice none 0 0)], blk b255 24 [eq (.int .i64 a1.fKind), eq (.string a1.fRoom), eq (.string a1.fUser), eq (.string a1.fEvent), eq (.string a1.fThread), eq (.bool a1.fPrivate), eq (.bool a1.fOn), eq (.int .i64 a1.fSpan), eq (.int .i64 a1.fState), eq (.int .i64 a1.fTick), eq (.int .i64 a1.fStamp)], blk b254 29 [sl Edu.K a0.fL, sl (intK .i64) a0.fTold], own Edu.K p301.2.2.2.2.1.1 p301.2.2.1, own (intK .i64) p301.2.2.2.2.2.1 p301.2.2.2.1] ++ F) (weak_cons rfl (weak_cons rfl (weak_cons rfl (weak_cons rfl (weak_cons rfl (weak_cons rfl (weak_cons rfl (weak_cons rfl (weak_cons rfl (weak_cons rfl (weak_cons rfl (weak_cons rfl weak_nil)))))))))))) (List.Perm.refl _) ?_
        rintro j_ ⟨x271, x272, x273, x274, v275, v276⟩ H
        rcases j_ with _ | j300
        · exact (Gets.no H).elim
        replace H : Gets (concourseref15_Put.l0 k a0 a1 (j300 + 1) x271 x272 x273 x274) _ := H
        rw [concourseref15_Put.l0] at H
        refine WP.seq ?_
        refine WP.seq ?_
        refine WP.reg [(0, false), (1, false), (2, false), (3, false), (4, false)] (by kernel_rfl) ?_
        refine Dv.mv rfl trivial rfl ?_
        refine Dv.fab rfl trivial rfl Try.underlying29 rfl Try.underlying22 c22 (by decide) ?_
        refine Dv.ldb rfl trivial rfl Try.underlying22 rfl (mem_at 3 rfl) rfl ?_
        refine Dv.lenl rfl trivial rfl Try.underlying22 ?_
        refine Dv.bin rfl trivial rfl rfl (fun _ => run_lt) ?_
        refine .fin ?_
        refine WP.cond rfl (fun c277 => ?_) (fun c277 => ?_)
        · replace H := Gets.ct H c277
          refine WP.skip ?_
          refine WP.seq ?_
          refine WP.block ?_
          refine WP.seq ?_
          refine WP.reg [(0, false), (1, false), (2, false), (3, false), (4, false), (5, true), (6, true)] (by kernel_rfl) ?_
          refine Dv.fab rfl trivial rfl Try.underlying29 rfl Try.underlying22 c22 (by decide) ?_
          refine Dv.ldb rfl trivial rfl Try.underlying22 rfl (mem_at 3 rfl) rfl ?_
          refine Dv.mv rfl trivial rfl ?_
          obtain ⟨g278, H⟩ := Gets.grd H
          refine Dv.ixr rfl trivial rfl rfl Try.underlying22 Try.underlying24 c24 g278.1 g278.2 ?_
          refine Dv.ldrs rfl trivial rfl Try.underlying24 rfl c24 (Nat.le_of_ble_eq_true rfl) ?_
          refine Dv.alloc (z := .agg #[.int .i64 0, .string ⟨#[]⟩, .string ⟨#[]⟩, .string ⟨#[]⟩, .string ⟨#[]⟩, .bool false, .bool false, .int .i64 0, .int .i64 0, .int .i64 0, .int .i64 0]) (qs := [eq (.int .i64 0), eq (.string (⟨#[]⟩ : ByteArray)), eq (.string (⟨#[]⟩ : ByteArray)), eq (.string (⟨#[]⟩ : ByteArray)), eq (.string (⟨#[]⟩ : ByteArray)), eq (.bool false), eq (.bool false), eq (.int .i64 0), eq (.int .i64 0), eq (.int .i64 0), eq (.int .i64 0)]) rfl trivial z24 rfl nofun (fun b279 => ?_)
          refine Dv.stx ([blk b279 24 [eq (.int .i64 ((Edu.K.at a0.fL x272).fKind)), eq (.string ((Edu.K.at a0.fL x272).fRoom)), eq (.string ((Edu.K.at a0.fL x272).fUser)), eq (.string ((Edu.K.at a0.fL x272).fEvent)), eq (.string ((Edu.K.at a0.fL x272).fThread)), eq (.bool ((Edu.K.at a0.fL x272).fPrivate)), eq (.bool ((Edu.K.at a0.fL x272).fOn)), eq (.int .i64 ((Edu.K.at a0.fL x272).fSpan)), eq (.int .i64 ((Edu.K.at a0.fL x272).fState)), eq (.int .i64 ((Edu.K.at a0.fL x272).fTick)), eq (.int .i64 ((Edu.K.at a0.fL x272).fStamp))], blk b262 29 [eq v275.1, eq v276.1], blk b256 29 [eq (.slice none 0 0), eq (.slice none 0 0)], blk b255 24 [eq (.int .i64 a1.fKind), eq (.string a1.fRoom), eq (.string a1.fUser), eq (.string a1.fEvent), eq (.string a1.fThread), eq (.bool a1.fPrivate), eq (.bool a1.fOn), eq (.int .i64 a1.fSpan), eq (.int .i64 a1.fState), eq (.int .i64 a1.fTick), eq (.int .i64 a1.fStamp)], blk b254 29 [sl Edu.K a0.fL, sl (intK .i64) a0.fTold], own Edu.K v275.1 x273, own (intK .i64) v276.1 x274] ++ F) rfl trivial rfl rfl (cells_agg (Edu.K.one _)) Try.underlying24 c24 rfl (j := 0) rfl (Nat.le_of_ble_eq_true rfl) rfl nofun ?_
          refine .fin ?_
          refine WP.seq ?_
          refine WP.seq ?_
          refine WP.reg [(0, false), (1, false), (2, false), (3, false), (4, false)] (by kernel_rfl) ?_
          refine Dv.fab rfl trivial rfl Try.underlying24 rfl Try.underlying9 c9 (by decide) ?_
          refine Dv.ldb rfl trivial rfl Try.underlying9 rfl (mem_at 0 rfl) rfl ?_
          refine Dv.fab rfl trivial rfl Try.underlying24 rfl Try.underlying9 c9 (by decide) ?_
          refine Dv.ldb rfl trivial rfl Try.underlying9 rfl (mem_at 3 rfl) rfl ?_
          refine Dv.bin rfl trivial rfl rfl (fun _ => run_seq) ?_
          refine .fin ?_
          refine WP.cond rfl (fun c280 => ?_) (fun c280 => ?_)
          · replace H := Gets.ct H c280
            refine WP.seq ?_
            refine WP.seq ?_
            refine WP.reg [(0, false), (1, false), (2, false), (3, false)] (by kernel_rfl) ?_
            refine Dv.ldbs rfl trivial rfl Try.underlying24 rfl c24 (mem_at 3 rfl) (Nat.le_of_ble_eq_true rfl) ?_
            refine Dv.ldbs rfl trivial rfl Try.underlying24 rfl c24 (mem_at 0 rfl) (Nat.le_of_ble_eq_true rfl) ?_
            obtain ⟨t281, h282, H⟩ := Gets.call H
            refine Dv.call rfl trivial cal17 rfl (concourseref03_Compare.c h282) ?_
            refine Dv.bin rfl trivial rfl rfl (fun _ => run_le) ?_
            refine .fin ?_
            refine WP.cond rfl (fun c283 => ?_) (fun c283 => ?_)
            · replace H := Gets.ct H c283
              refine WP.seq ?_
              refine WP.reg [(0, false), (1, true), (2, false), (3, false)] (by kernel_rfl) ?_
              refine Dv.ldbs rfl trivial rfl Try.underlying29 rfl c29 (mem_at 4 rfl) (Nat.le_of_ble_eq_true rfl) ?_
              refine Dv.stx ([blk b279 24 [eq (.int .i64 ((Edu.K.at a0.fL x272).fKind)), eq (.string ((Edu.K.at a0.fL x272).fRoom)), eq (.string ((Edu.K.at a0.fL x272).fUser)), eq (.string ((Edu.K.at a0.fL x272).fEvent)), eq (.string ((Edu.K.at a0.fL x272).fThread)), eq (.bool ((Edu.K.at a0.fL x272).fPrivate)), eq (.bool ((Edu.K.at a0.fL x272).fOn)), eq (.int .i64 ((Edu.K.at a0.fL x272).fSpan)), eq (.int .i64 ((Edu.K.at a0.fL x272).fState)), eq (.int .i64 ((Edu.K.at a0.fL x272).fTick)), eq (.int .i64 ((Edu.K.at a0.fL x272).fStamp))], blk b262 29 [eq v275.1, eq v276.1], blk b256 29 [sl Edu.K a0.fL, sl (intK .i64) a0.fTold], blk b255 24 [eq (.int .i64 a1.fKind), eq (.string a1.fRoom), eq (.string a1.fUser), eq (.string a1.fEvent), eq (.string a1.fThread), eq (.bool a1.fPrivate), eq (.bool a1.fOn), eq (.int .i64 a1.fSpan), eq (.int .i64 a1.fState), eq (.int .i64 a1.fTick), eq (.int .i64 a1.fStamp)], blk b254 29 [sl Edu.K a0.fL, sl (intK .i64) a0.fTold], own Edu.K v275.1 x273, own (intK .i64) v276.1 x274] ++ F) rfl trivial rfl rfl (cells_agg (TRef.K.one _)) Try.underlying29 c29 rfl (j := 2) rfl (Nat.le_of_ble_eq_true rfl) rfl nofun ?_
              refine Dv.asg rfl trivial rfl ?_
              refine Dv.asg rfl trivial rfl ?_
              refine .fin ?_
              replace H := Gets.outr H
              obtain rfl := Gets.out H
              exact WP.retL (fun _ _ h => h) rfl () trivial (.cons (res_cells rfl Try.underlying29 rfl c29 (mem_at 2 rfl) rfl) (.cons (res_tmp rfl) (.cons (res_tmp rfl) .nil))) rfl (st_sel (L := [blk b279 24 [eq (.int .i64 ((Edu.K.at a0.fL x272).fKind)), eq (.string ((Edu.K.at a0.fL x272).fRoom)), eq (.string ((Edu.K.at a0.fL x272).fUser)), eq (.string ((Edu.K.at a0.fL x272).fEvent)), eq (.string ((Edu.K.at a0.fL x272).fThread)), eq (.bool ((Edu.K.at a0.fL x272).fPrivate)), eq (.bool ((Edu.K.at a0.fL x272).fOn)), eq (.int .i64 ((Edu.K.at a0.fL x272).fSpan)), eq (.int .i64 ((Edu.K.at a0.fL x272).fState)), eq (.int .i64 ((Edu.K.at a0.fL x272).fTick)), eq (.int .i64 ((Edu.K.at a0.fL x272).fStamp))], blk b262 29 [eq v275.1, eq v276.1], blk b256 29 [sl Edu.K a0.fL, sl (intK .i64) a0.fTold], blk b255 24 [eq (.int .i64 a1.fKind), eq (.string a1.fRoom), eq (.string a1.fUser), eq (.string a1.fEvent), eq (.string a1.fThread), eq (.bool a1.fPrivate), eq (.bool a1.fOn), eq (.int .i64 a1.fSpan), eq (.int .i64 a1.fState), eq (.int .i64 a1.fTick), eq (.int .i64 a1.fStamp)], blk b254 29 [sl Edu.K a0.fL, sl (intK .i64) a0.fTold], own Edu.K v275.1 x273, own (intK .i64) v276.1 x274]) (F := F) [0, 1, 2, 3, 4, 5, 6] 7 (by kernel_rfl) rfl rfl)
            · replace H := Gets.cf H c283
              refine WP.skip ?_
              refine WP.exit ?_
              refine WP.reg [(0, false), (1, false), (2, false)] (by kernel_rfl) ?_
              refine Dv.mv rfl trivial rfl ?_
              refine Dv.bin rfl trivial rfl rfl (fun _ => run_add) ?_
              refine Dv.asg rfl trivial rfl ?_
              refine .fin ?_
              refine Dn.gh (l' := fun _ : Unit => [blk b262 29 [eq v275.1, eq v276.1], blk b256 29 [eq (.slice none 0 0), eq (.slice none 0 0)], blk b255 24 [eq (.int .i64 a1.fKind), eq (.string a1.fRoom), eq (.string a1.fUser), eq (.string a1.fEvent), eq (.string a1.fThread), eq (.bool a1.fPrivate), eq (.bool a1.fOn), eq (.int .i64 a1.fSpan), eq (.int .i64 a1.fState), eq (.int .i64 a1.fTick), eq (.int .i64 a1.fStamp)], blk b254 29 [sl Edu.K a0.fL, sl (intK .i64) a0.fTold], own Edu.K v275.1 x273, own (intK .i64) v276.1 x274] ++ F) (gh_of (st_selg (L := [blk b279 24 [eq (.int .i64 ((Edu.K.at a0.fL x272).fKind)), eq (.string ((Edu.K.at a0.fL x272).fRoom)), eq (.string ((Edu.K.at a0.fL x272).fUser)), eq (.string ((Edu.K.at a0.fL x272).fEvent)), eq (.string ((Edu.K.at a0.fL x272).fThread)), eq (.bool ((Edu.K.at a0.fL x272).fPrivate)), eq (.bool ((Edu.K.at a0.fL x272).fOn)), eq (.int .i64 ((Edu.K.at a0.fL x272).fSpan)), eq (.int .i64 ((Edu.K.at a0.fL x272).fState)), eq (.int .i64 ((Edu.K.at a0.fL x272).fTick)), eq (.int .i64 ((Edu.K.at a0.fL x272).fStamp))], blk b262 29 [eq v275.1, eq v276.1], blk b256 29 [eq (.slice none 0 0), eq (.slice none 0 0)], blk b255 24 [eq (.int .i64 a1.fKind), eq (.string a1.fRoom), eq (.string a1.fUser), eq (.string a1.fEvent), eq (.string a1.fThread), eq (.bool a1.fPrivate), eq (.bool a1.fOn), eq (.int .i64 a1.fSpan), eq (.int .i64 a1.fState), eq (.int .i64 a1.fTick), eq (.int .i64 a1.fStamp)], blk b254 29 [sl Edu.K a0.fL, sl (intK .i64) a0.fTold], own Edu.K v275.1 x273, own (intK .i64) v276.1 x274]) (F := F) [0, 1, 2, 3, 4, 5, 6] 1 (by kernel_rfl) rfl rfl)) (fun _ _ => ?_)
              exact Back.mk j300 (x271, w64 (x272 + 1), x273, x274, v275, v276) (Nat.lt_succ_self _) H (weak_cons rfl (weak_cons rfl (weak_cons rfl (weak_cons rfl (weak_cons rfl (weak_cons rfl (weak_cons rfl (weak_cons rfl (weak_cons rfl (weak_cons rfl (weak_cons rfl (weak_cons rfl weak_nil)))))))))))) (List.Perm.refl _)
          · replace H := Gets.cf H c280
            refine WP.skip ?_
            refine WP.seqn H (fun q299 : (Bool × Bool × (List Edu) × (List Int)) × OV × OV => q299.1) (fun q299 : (Bool × Bool × (List Edu) × (List Int)) × OV × OV => [(0, agg (TRef.enc a0)), (1, agg (Edu.enc a1)), (2, eq (.pointer (some ⟨b254, 0, none⟩))), (3, eq (.pointer (some ⟨b255, 0, none⟩))), (4, eq (.pointer (some ⟨b256, 0, none⟩))), (5, eq (.bool false)), (6, eq (.int .i64 0)), (7, eq (.bool t257)), (8, eq (.pointer (some ⟨b262, 0, none⟩))), (9, eq (.bool q299.1.1)), (10, eq (.int .i64 x272)), (11, eq (.pointer (some ⟨b279, 0, none⟩))), (20, eq (.bool (!t257))), (26, eq (.bool (decide (x272 < (a0.fL.length : Int))))), (38, eq (.bool (decide (((Edu.K.at a0.fL x272).fUser) = a1.fUser)))), (52, eq (.bool q299.1.2.1))]) (fun q299 : (Bool × Bool × (List Edu) × (List Int)) × OV × OV => [blk b279 24 [eq (.int .i64 ((Edu.K.at a0.fL x272).fKind)), eq (.string ((Edu.K.at a0.fL x272).fRoom)), eq (.string ((Edu.K.at a0.fL x272).fUser)), eq (.string ((Edu.K.at a0.fL x272).fEvent)), eq (.string ((Edu.K.at a0.fL x272).fThread)), eq (.bool ((Edu.K.at a0.fL x272).fPrivate)), eq (.bool ((Edu.K.at a0.fL x272).fOn)), eq (.int .i64 ((Edu.K.at a0.fL x272).fSpan)), eq (.int .i64 ((Edu.K.at a0.fL x272).fState)), eq (.int .i64 ((Edu.K.at a0.fL x272).fTick)), eq (.int .i64 ((Edu.K.at a0.fL x272).fStamp))], blk b262 29 [eq q299.2.1.1, eq q299.2.2.1], blk b256 29 [eq (.slice none 0 0), eq (.slice none 0 0)], blk b255 24 [eq (.int .i64 a1.fKind), eq (.string a1.fRoom), eq (.string a1.fUser), eq (.string a1.fEvent), eq (.string a1.fThread), eq (.bool a1.fPrivate), eq (.bool a1.fOn), eq (.int .i64 a1.fSpan), eq (.int .i64 a1.fState), eq (.int .i64 a1.fTick), eq (.int .i64 a1.fStamp)], blk b254 29 [sl Edu.K a0.fL, sl (intK .i64) a0.fTold], own Edu.K q299.2.1.1 q299.1.2.2.1, own (intK .i64) q299.2.2.1 q299.1.2.2.2] ++ F) (fun q299 H => ?_) (fun H => ?_)
            · obtain ⟨p284, v285, v286⟩ := q299
              refine WP.seq ?_
              refine WP.reg [(0, false), (1, false), (2, false), (3, false), (4, true), (5, false), (6, true)] (by kernel_rfl) ?_
              refine Dv.fab rfl trivial rfl Try.underlying29 rfl Try.underlying22 c22 (by decide) ?_
              refine Dv.ldb rfl trivial rfl Try.underlying22 rfl (mem_at 1 rfl) rfl ?_
              refine Dv.ldbs rfl trivial rfl Try.underlying24 rfl c24 (mem_at 0 rfl) (Nat.le_of_ble_eq_true rfl) ?_
              refine Dv.lit Edu.K ([Edu.K.at a0.fL x272] : List Edu) (css := [Edu.enc (Edu.K.at a0.fL x272)]) rfl trivial Try.underlying22 Try.underlying24 c24 z24 rfl (by decide) (by decide) rfl ⟨(cells_agg (Edu.K.one _)), trivial⟩ rfl rfl rfl ?_
              obtain ⟨g287, H⟩ := Gets.grd H
              refine Dv.appx (jj := 5) (ys := ([Edu.K.at a0.fL x272] : List Edu)) (fun v288 : OV => [blk b279 24 [eq (.int .i64 ((Edu.K.at a0.fL x272).fKind)), eq (.string ((Edu.K.at a0.fL x272).fRoom)), eq (.string ((Edu.K.at a0.fL x272).fUser)), eq (.string ((Edu.K.at a0.fL x272).fEvent)), eq (.string ((Edu.K.at a0.fL x272).fThread)), eq (.bool ((Edu.K.at a0.fL x272).fPrivate)), eq (.bool ((Edu.K.at a0.fL x272).fOn)), eq (.int .i64 ((Edu.K.at a0.fL x272).fSpan)), eq (.int .i64 ((Edu.K.at a0.fL x272).fState)), eq (.int .i64 ((Edu.K.at a0.fL x272).fTick)), eq (.int .i64 ((Edu.K.at a0.fL x272).fStamp))], blk b262 29 [eq v285.1, eq v286.1], blk b256 29 [eq (.slice none 0 0), eq (.slice none 0 0)], blk b255 24 [eq (.int .i64 a1.fKind), eq (.string a1.fRoom), eq (.string a1.fUser), eq (.string a1.fEvent), eq (.string a1.fThread), eq (.bool a1.fPrivate), eq (.bool a1.fOn), eq (.int .i64 a1.fSpan), eq (.int .i64 a1.fState), eq (.int .i64 a1.fTick), eq (.int .i64 a1.fStamp)], blk b254 29 [sl Edu.K a0.fL, sl (intK .i64) a0.fTold], own Edu.K v288.1 (p284.2.2.1 ++ ([Edu.K.at a0.fL x272] : List Edu)), own (intK .i64) v286.1 p284.2.2.2] ++ F) rfl trivial rfl rfl rfl src_sl Try.underlying22 (.inr ⟨_, Try.underlying22⟩) inf24 rfl (by decide) g287 rfl nofun (fun v288 => ?_)
              refine Dv.fab rfl trivial rfl Try.underlying29 rfl Try.underlying22 c22 (by decide) ?_
              refine Dv.stx ([blk b279 24 [eq (.int .i64 ((Edu.K.at a0.fL x272).fKind)), eq (.string ((Edu.K.at a0.fL x272).fRoom)), eq (.string ((Edu.K.at a0.fL x272).fUser)), eq (.string ((Edu.K.at a0.fL x272).fEvent)), eq (.string ((Edu.K.at a0.fL x272).fThread)), eq (.bool ((Edu.K.at a0.fL x272).fPrivate)), eq (.bool ((Edu.K.at a0.fL x272).fOn)), eq (.int .i64 ((Edu.K.at a0.fL x272).fSpan)), eq (.int .i64 ((Edu.K.at a0.fL x272).fState)), eq (.int .i64 ((Edu.K.at a0.fL x272).fTick)), eq (.int .i64 ((Edu.K.at a0.fL x272).fStamp))], blk b262 29 [eq v288.1, eq v286.1], blk b256 29 [eq (.slice none 0 0), eq (.slice none 0 0)], blk b255 24 [eq (.int .i64 a1.fKind), eq (.string a1.fRoom), eq (.string a1.fUser), eq (.string a1.fEvent), eq (.string a1.fThread), eq (.bool a1.fPrivate), eq (.bool a1.fOn), eq (.int .i64 a1.fSpan), eq (.int .i64 a1.fState), eq (.int .i64 a1.fTick), eq (.int .i64 a1.fStamp)], blk b254 29 [sl Edu.K a0.fL, sl (intK .i64) a0.fTold], own Edu.K v288.1 (p284.2.2.1 ++ ([Edu.K.at a0.fL x272] : List Edu)), own (intK .i64) v286.1 p284.2.2.2] ++ F) rfl trivial rfl rfl (cells_one one_ov) Try.underlying22 c22 rfl (j := 1) rfl (Nat.le_of_ble_eq_true rfl) rfl nofun ?_
              refine .fin ?_
              refine WP.dreg Try.checked.mixed [(0, false), (1, false), (2, false), (3, false), (4, false), (5, false), (6, false), (7, false), (8, true), (9, false), (10, true)] (by kernel_rfl) ?_
              refine Dv.fab rfl trivial rfl Try.underlying29 rfl Try.underlying27 c27 (by decide) ?_
              refine Dv.ldb rfl trivial rfl Try.underlying27 rfl (mem_at 1 rfl) rfl ?_
              refine Dv.fab rfl trivial rfl Try.underlying29 rfl Try.underlying27 c27 (by decide) ?_
              refine Dv.ldb rfl trivial rfl Try.underlying27 rfl (mem_at 4 rfl) rfl ?_
              refine Dv.mv rfl trivial rfl ?_
              obtain ⟨g289, H⟩ := Gets.grd H
              refine Dv.ixr rfl trivial rfl rfl Try.underlying27 Try.underlying3 c3 g289.1 g289.2 ?_
              refine Dv.ldr rfl trivial rfl Try.underlying3 rfl rfl ?_
              refine Dv.lit (intK .i64) ([(intK .i64).at a0.fTold x272] : List Int) (css := [[eq (.int .i64 ((intK .i64).at a0.fTold x272))]]) rfl trivial Try.underlying27 Try.underlying3 c3 z3 rfl (by decide) (by decide) rfl ⟨(cells_one (one_eq rfl)), trivial⟩ rfl rfl rfl ?_
              obtain ⟨g290, H⟩ := Gets.grd H
              refine Dv.appx (jj := 6) (ys := ([(intK .i64).at a0.fTold x272] : List Int)) (fun v291 : OV => [blk b279 24 [eq (.int .i64 ((Edu.K.at a0.fL x272).fKind)), eq (.string ((Edu.K.at a0.fL x272).fRoom)), eq (.string ((Edu.K.at a0.fL x272).fUser)), eq (.string ((Edu.K.at a0.fL x272).fEvent)), eq (.string ((Edu.K.at a0.fL x272).fThread)), eq (.bool ((Edu.K.at a0.fL x272).fPrivate)), eq (.bool ((Edu.K.at a0.fL x272).fOn)), eq (.int .i64 ((Edu.K.at a0.fL x272).fSpan)), eq (.int .i64 ((Edu.K.at a0.fL x272).fState)), eq (.int .i64 ((Edu.K.at a0.fL x272).fTick)), eq (.int .i64 ((Edu.K.at a0.fL x272).fStamp))], blk b262 29 [eq v288.1, eq v286.1], blk b256 29 [eq (.slice none 0 0), eq (.slice none 0 0)], blk b255 24 [eq (.int .i64 a1.fKind), eq (.string a1.fRoom), eq (.string a1.fUser), eq (.string a1.fEvent), eq (.string a1.fThread), eq (.bool a1.fPrivate), eq (.bool a1.fOn), eq (.int .i64 a1.fSpan), eq (.int .i64 a1.fState), eq (.int .i64 a1.fTick), eq (.int .i64 a1.fStamp)], blk b254 29 [sl Edu.K a0.fL, sl (intK .i64) a0.fTold], own Edu.K v288.1 (p284.2.2.1 ++ ([Edu.K.at a0.fL x272] : List Edu)), own (intK .i64) v291.1 (p284.2.2.2 ++ ([(intK .i64).at a0.fTold x272] : List Int))] ++ F) rfl trivial rfl rfl rfl src_sl Try.underlying27 (.inr ⟨_, Try.underlying27⟩) inf3 rfl (by decide) g290 rfl (fun _ => pend_bits (by kernel_rfl)) (fun v291 => ?_)
              refine Dv.fab rfl trivial rfl Try.underlying29 rfl Try.underlying27 c27 (by decide) ?_
              refine Dv.stx ([blk b279 24 [eq (.int .i64 ((Edu.K.at a0.fL x272).fKind)), eq (.string ((Edu.K.at a0.fL x272).fRoom)), eq (.string ((Edu.K.at a0.fL x272).fUser)), eq (.string ((Edu.K.at a0.fL x272).fEvent)), eq (.string ((Edu.K.at a0.fL x272).fThread)), eq (.bool ((Edu.K.at a0.fL x272).fPrivate)), eq (.bool ((Edu.K.at a0.fL x272).fOn)), eq (.int .i64 ((Edu.K.at a0.fL x272).fSpan)), eq (.int .i64 ((Edu.K.at a0.fL x272).fState)), eq (.int .i64 ((Edu.K.at a0.fL x272).fTick)), eq (.int .i64 ((Edu.K.at a0.fL x272).fStamp))], blk b262 29 [eq v288.1, eq v291.1], blk b256 29 [eq (.slice none 0 0), eq (.slice none 0 0)], blk b255 24 [eq (.int .i64 a1.fKind), eq (.string a1.fRoom), eq (.string a1.fUser), eq (.string a1.fEvent), eq (.string a1.fThread), eq (.bool a1.fPrivate), eq (.bool a1.fOn), eq (.int .i64 a1.fSpan), eq (.int .i64 a1.fState), eq (.int .i64 a1.fTick), eq (.int .i64 a1.fStamp)], blk b254 29 [sl Edu.K a0.fL, sl (intK .i64) a0.fTold], own Edu.K v288.1 (p284.2.2.1 ++ ([Edu.K.at a0.fL x272] : List Edu)), own (intK .i64) v291.1 (p284.2.2.2 ++ ([(intK .i64).at a0.fTold x272] : List Int))] ++ F) rfl trivial rfl rfl (cells_one one_ov) Try.underlying27 c27 rfl (j := 1) rfl (Nat.le_of_ble_eq_true rfl) rfl (fun _ => pend_bits (by kernel_rfl)) ?_
              refine .fin ?_
              refine WP.reg [(0, false), (1, false), (2, false)] (by kernel_rfl) ?_
              refine Dv.mv rfl trivial rfl ?_
              refine Dv.bin rfl trivial rfl rfl (fun _ => run_add) ?_
              refine Dv.asg rfl trivial rfl ?_
              refine .fin ?_
              refine Dn.gh (l' := fun _ : Unit => [blk b262 29 [eq v288.1, eq v291.1], blk b256 29 [eq (.slice none 0 0), eq (.slice none 0 0)], blk b255 24 [eq (.int .i64 a1.fKind), eq (.string a1.fRoom), eq (.string a1.fUser), eq (.string a1.fEvent), eq (.string a1.fThread), eq (.bool a1.fPrivate), eq (.bool a1.fOn), eq (.int .i64 a1.fSpan), eq (.int .i64 a1.fState), eq (.int .i64 a1.fTick), eq (.int .i64 a1.fStamp)], blk b254 29 [sl Edu.K a0.fL, sl (intK .i64) a0.fTold], own Edu.K v288.1 (p284.2.2.1 ++ ([Edu.K.at a0.fL x272] : List Edu)), own (intK .i64) v291.1 (p284.2.2.2 ++ ([(intK .i64).at a0.fTold x272] : List Int))] ++ F) (gh_of (st_selg (L := [blk b279 24 [eq (.int .i64 ((Edu.K.at a0.fL x272).fKind)), eq (.string ((Edu.K.at a0.fL x272).fRoom)), eq (.string ((Edu.K.at a0.fL x272).fUser)), eq (.string ((Edu.K.at a0.fL x272).fEvent)), eq (.string ((Edu.K.at a0.fL x272).fThread)), eq (.bool ((Edu.K.at a0.fL x272).fPrivate)), eq (.bool ((Edu.K.at a0.fL x272).fOn)), eq (.int .i64 ((Edu.K.at a0.fL x272).fSpan)), eq (.int .i64 ((Edu.K.at a0.fL x272).fState)), eq (.int .i64 ((Edu.K.at a0.fL x272).fTick)), eq (.int .i64 ((Edu.K.at a0.fL x272).fStamp))], blk b262 29 [eq v288.1, eq v291.1], blk b256 29 [eq (.slice none 0 0), eq (.slice none 0 0)], blk b255 24 [eq (.int .i64 a1.fKind), eq (.string a1.fRoom), eq (.string a1.fUser), eq (.string a1.fEvent), eq (.string a1.fThread), eq (.bool a1.fPrivate), eq (.bool a1.fOn), eq (.int .i64 a1.fSpan), eq (.int .i64 a1.fState), eq (.int .i64 a1.fTick), eq (.int .i64 a1.fStamp)], blk b254 29 [sl Edu.K a0.fL, sl (intK .i64) a0.fTold], own Edu.K v288.1 (p284.2.2.1 ++ ([Edu.K.at a0.fL x272] : List Edu)), own (intK .i64) v291.1 (p284.2.2.2 ++ ([(intK .i64).at a0.fTold x272] : List Int))]) (F := F) [0, 1, 2, 3, 4, 5, 6] 1 (by kernel_rfl) rfl rfl)) (fun _ _ => ?_)
              exact Back.mk j300 (p284.1, w64 (x272 + 1), p284.2.2.1 ++ ([Edu.K.at a0.fL x272] : List Edu), p284.2.2.2 ++ ([(intK .i64).at a0.fTold x272] : List Int), v288, v291) (Nat.lt_succ_self _) H (weak_cons rfl (weak_cons rfl (weak_cons rfl (weak_cons rfl (weak_cons rfl (weak_cons rfl (weak_cons rfl (weak_cons rfl (weak_cons rfl (weak_cons rfl (weak_cons rfl (weak_cons rfl weak_nil)))))))))))) (List.Perm.refl _)
            · refine WP.seq ?_
              refine WP.reg [(0, false), (1, false), (2, false), (3, false), (4, false), (5, false), (6, false), (7, false), (8, false)] (by kernel_rfl) ?_
              refine Dv.mv rfl trivial rfl ?_
              refine Dv.un rfl trivial rfl (fun _ => run_not _) ?_
              refine Dv.mv rfl trivial rfl ?_
              cases c292 : !x271
              · replace H := Gets.cf H c292
                refine Dv.skip rfl ⟨_, _, rfl, rfl, .inl rfl⟩ ?_
                refine Dv.skip rfl ⟨_, _, rfl, rfl, .inl rfl⟩ ?_
                refine Dv.skip rfl ⟨_, _, rfl, rfl, .inl rfl⟩ ?_
                refine Dv.skip rfl ⟨_, _, rfl, rfl, .inl rfl⟩ ?_
                refine Dv.skip rfl ⟨_, _, rfl, rfl, .inl rfl⟩ ?_
                refine Dv.pickF rfl trivial rfl rfl ?_
                refine .fin ?_
                refine WP.cond rfl nofun (fun _ => ?_)
                refine WP.skip ?_
                replace H := Gets.out H
                exact Jn.mk ((x271, false, x273, x274), v275, v276) H (weak_cons rfl (weak_cons rfl (weak_cons rfl (weak_cons rfl (weak_cons rfl (weak_cons rfl (weak_cons rfl (weak_cons rfl (weak_cons rfl (weak_cons rfl (weak_cons rfl (weak_cons rfl (weak_cons rfl (weak_cons rfl (weak_cons rfl (weak_cons rfl weak_nil)))))))))))))))) (List.Perm.refl _)
              · replace H := Gets.ct H c292
                refine Dv.fab rfl ⟨_, _, rfl, rfl, rfl⟩ rfl Try.underlying24 rfl Try.underlying9 c9 (by decide) ?_
                refine Dv.ldb rfl ⟨_, _, rfl, rfl, rfl⟩ rfl Try.underlying9 rfl (mem_at 3 rfl) rfl ?_
                refine Dv.fab rfl ⟨_, _, rfl, rfl, rfl⟩ rfl Try.underlying24 rfl Try.underlying9 c9 (by decide) ?_
                refine Dv.ldb rfl ⟨_, _, rfl, rfl, rfl⟩ rfl Try.underlying9 rfl (mem_at 0 rfl) rfl ?_
                refine Dv.bin rfl ⟨_, _, rfl, rfl, rfl⟩ rfl rfl (fun _ => run_slt) ?_
                refine Dv.pickT rfl trivial rfl rfl ?_
                refine .fin ?_
                refine WP.cond rfl (fun c293 => ?_) (fun c293 => ?_)
                · replace H := Gets.ct H c293
                  refine WP.seq ?_
                  refine WP.reg [(0, false), (1, false), (2, false), (3, false), (4, true), (5, false), (6, true)] (by kernel_rfl) ?_
                  refine Dv.fab rfl trivial rfl Try.underlying29 rfl Try.underlying22 c22 (by decide) ?_
                  refine Dv.ldb rfl trivial rfl Try.underlying22 rfl (mem_at 1 rfl) rfl ?_
                  refine Dv.ldbs rfl trivial rfl Try.underlying24 rfl c24 (mem_at 3 rfl) (Nat.le_of_ble_eq_true rfl) ?_
                  refine Dv.lit Edu.K ([a1] : List Edu) (css := [Edu.enc a1]) rfl trivial Try.underlying22 Try.underlying24 c24 z24 rfl (by decide) (by decide) rfl ⟨(cells_agg (Edu.K.one _)), trivial⟩ rfl rfl rfl ?_
                  obtain ⟨g294, H⟩ := Gets.grd H
                  refine Dv.appx (jj := 5) (ys := ([a1] : List Edu)) (fun v295 : OV => [blk b279 24 [eq (.int .i64 ((Edu.K.at a0.fL x272).fKind)), eq (.string ((Edu.K.at a0.fL x272).fRoom)), eq (.string ((Edu.K.at a0.fL x272).fUser)), eq (.string ((Edu.K.at a0.fL x272).fEvent)), eq (.string ((Edu.K.at a0.fL x272).fThread)), eq (.bool ((Edu.K.at a0.fL x272).fPrivate)), eq (.bool ((Edu.K.at a0.fL x272).fOn)), eq (.int .i64 ((Edu.K.at a0.fL x272).fSpan)), eq (.int .i64 ((Edu.K.at a0.fL x272).fState)), eq (.int .i64 ((Edu.K.at a0.fL x272).fTick)), eq (.int .i64 ((Edu.K.at a0.fL x272).fStamp))], blk b262 29 [eq v275.1, eq v276.1], blk b256 29 [eq (.slice none 0 0), eq (.slice none 0 0)], blk b255 24 [eq (.int .i64 a1.fKind), eq (.string a1.fRoom), eq (.string a1.fUser), eq (.string a1.fEvent), eq (.string a1.fThread), eq (.bool a1.fPrivate), eq (.bool a1.fOn), eq (.int .i64 a1.fSpan), eq (.int .i64 a1.fState), eq (.int .i64 a1.fTick), eq (.int .i64 a1.fStamp)], blk b254 29 [sl Edu.K a0.fL, sl (intK .i64) a0.fTold], own Edu.K v295.1 (x273 ++ ([a1] : List Edu)), own (intK .i64) v276.1 x274] ++ F) rfl trivial rfl rfl rfl src_sl Try.underlying22 (.inr ⟨_, Try.underlying22⟩) inf24 rfl (by decide) g294 rfl nofun (fun v295 => ?_)
                  refine Dv.fab rfl trivial rfl Try.underlying29 rfl Try.underlying22 c22 (by decide) ?_
                  refine Dv.stx ([blk b279 24 [eq (.int .i64 ((Edu.K.at a0.fL x272).fKind)), eq (.string ((Edu.K.at a0.fL x272).fRoom)), eq (.string ((Edu.K.at a0.fL x272).fUser)), eq (.string ((Edu.K.at a0.fL x272).fEvent)), eq (.string ((Edu.K.at a0.fL x272).fThread)), eq (.bool ((Edu.K.at a0.fL x272).fPrivate)), eq (.bool ((Edu.K.at a0.fL x272).fOn)), eq (.int .i64 ((Edu.K.at a0.fL x272).fSpan)), eq (.int .i64 ((Edu.K.at a0.fL x272).fState)), eq (.int .i64 ((Edu.K.at a0.fL x272).fTick)), eq (.int .i64 ((Edu.K.at a0.fL x272).fStamp))], blk b262 29 [eq v295.1, eq v276.1], blk b256 29 [eq (.slice none 0 0), eq (.slice none 0 0)], blk b255 24 [eq (.int .i64 a1.fKind), eq (.string a1.fRoom), eq (.string a1.fUser), eq (.string a1.fEvent), eq (.string a1.fThread), eq (.bool a1.fPrivate), eq (.bool a1.fOn), eq (.int .i64 a1.fSpan), eq (.int .i64 a1.fState), eq (.int .i64 a1.fTick), eq (.int .i64 a1.fStamp)], blk b254 29 [sl Edu.K a0.fL, sl (intK .i64) a0.fTold], own Edu.K v295.1 (x273 ++ ([a1] : List Edu)), own (intK .i64) v276.1 x274] ++ F) rfl trivial rfl rfl (cells_one one_ov) Try.underlying22 c22 rfl (j := 1) rfl (Nat.le_of_ble_eq_true rfl) rfl nofun ?_
                  refine .fin ?_
                  refine WP.seq ?_
                  refine WP.reg [(0, false), (1, false), (2, false), (3, true), (4, false), (5, true)] (by kernel_rfl) ?_
                  refine Dv.fab rfl trivial rfl Try.underlying29 rfl Try.underlying27 c27 (by decide) ?_
                  refine Dv.ldb rfl trivial rfl Try.underlying27 rfl (mem_at 1 rfl) rfl ?_
                  refine Dv.lit (intK .i64) ([(-1)] : List Int) (css := [[eq (.int .i64 (-1))]]) rfl trivial Try.underlying27 Try.underlying3 c3 z3 rfl (by decide) (by decide) rfl ⟨(cells_one (one_eq rfl)), trivial⟩ rfl rfl rfl ?_
                  obtain ⟨g296, H⟩ := Gets.grd H
                  refine Dv.appx (jj := 6) (ys := ([(-1)] : List Int)) (fun v297 : OV => [blk b279 24 [eq (.int .i64 ((Edu.K.at a0.fL x272).fKind)), eq (.string ((Edu.K.at a0.fL x272).fRoom)), eq (.string ((Edu.K.at a0.fL x272).fUser)), eq (.string ((Edu.K.at a0.fL x272).fEvent)), eq (.string ((Edu.K.at a0.fL x272).fThread)), eq (.bool ((Edu.K.at a0.fL x272).fPrivate)), eq (.bool ((Edu.K.at a0.fL x272).fOn)), eq (.int .i64 ((Edu.K.at a0.fL x272).fSpan)), eq (.int .i64 ((Edu.K.at a0.fL x272).fState)), eq (.int .i64 ((Edu.K.at a0.fL x272).fTick)), eq (.int .i64 ((Edu.K.at a0.fL x272).fStamp))], blk b262 29 [eq v295.1, eq v276.1], blk b256 29 [eq (.slice none 0 0), eq (.slice none 0 0)], blk b255 24 [eq (.int .i64 a1.fKind), eq (.string a1.fRoom), eq (.string a1.fUser), eq (.string a1.fEvent), eq (.string a1.fThread), eq (.bool a1.fPrivate), eq (.bool a1.fOn), eq (.int .i64 a1.fSpan), eq (.int .i64 a1.fState), eq (.int .i64 a1.fTick), eq (.int .i64 a1.fStamp)], blk b254 29 [sl Edu.K a0.fL, sl (intK .i64) a0.fTold], own Edu.K v295.1 (x273 ++ ([a1] : List Edu)), own (intK .i64) v297.1 (x274 ++ ([(-1)] : List Int))] ++ F) rfl trivial rfl rfl rfl src_sl Try.underlying27 (.inr ⟨_, Try.underlying27⟩) inf3 rfl (by decide) g296 rfl nofun (fun v297 => ?_)
                  refine Dv.fab rfl trivial rfl Try.underlying29 rfl Try.underlying27 c27 (by decide) ?_
                  refine Dv.stx ([blk b279 24 [eq (.int .i64 ((Edu.K.at a0.fL x272).fKind)), eq (.string ((Edu.K.at a0.fL x272).fRoom)), eq (.string ((Edu.K.at a0.fL x272).fUser)), eq (.string ((Edu.K.at a0.fL x272).fEvent)), eq (.string ((Edu.K.at a0.fL x272).fThread)), eq (.bool ((Edu.K.at a0.fL x272).fPrivate)), eq (.bool ((Edu.K.at a0.fL x272).fOn)), eq (.int .i64 ((Edu.K.at a0.fL x272).fSpan)), eq (.int .i64 ((Edu.K.at a0.fL x272).fState)), eq (.int .i64 ((Edu.K.at a0.fL x272).fTick)), eq (.int .i64 ((Edu.K.at a0.fL x272).fStamp))], blk b262 29 [eq v295.1, eq v297.1], blk b256 29 [eq (.slice none 0 0), eq (.slice none 0 0)], blk b255 24 [eq (.int .i64 a1.fKind), eq (.string a1.fRoom), eq (.string a1.fUser), eq (.string a1.fEvent), eq (.string a1.fThread), eq (.bool a1.fPrivate), eq (.bool a1.fOn), eq (.int .i64 a1.fSpan), eq (.int .i64 a1.fState), eq (.int .i64 a1.fTick), eq (.int .i64 a1.fStamp)], blk b254 29 [sl Edu.K a0.fL, sl (intK .i64) a0.fTold], own Edu.K v295.1 (x273 ++ ([a1] : List Edu)), own (intK .i64) v297.1 (x274 ++ ([(-1)] : List Int))] ++ F) rfl trivial rfl rfl (cells_one one_ov) Try.underlying27 c27 rfl (j := 1) rfl (Nat.le_of_ble_eq_true rfl) rfl nofun ?_
                  refine .fin ?_
                  refine WP.reg [(0, false)] (by kernel_rfl) ?_
                  refine Dv.asg rfl trivial rfl ?_
                  refine .fin ?_
                  replace H := Gets.out H
                  exact Jn.mk ((true, sLt a1.fUser ((Edu.K.at a0.fL x272).fUser), x273 ++ ([a1] : List Edu), x274 ++ ([(-1)] : List Int)), v295, v297) H (weak_cons rfl (weak_cons rfl (weak_cons rfl (weak_cons rfl (weak_cons rfl (weak_cons rfl (weak_cons rfl (weak_cons rfl (weak_cons rfl (weak_cons rfl (weak_cons rfl (weak_cons rfl (weak_cons rfl (weak_cons rfl (weak_cons rfl (weak_cons rfl weak_nil)))))))))))))))) (List.Perm.refl _)
                · replace H := Gets.cf H c293
                  refine WP.skip ?_
                  replace H := Gets.out H
                  exact Jn.mk ((x271, sLt a1.fUser ((Edu.K.at a0.fL x272).fUser), x273, x274), v275, v276) H (weak_cons rfl (weak_cons rfl (weak_cons rfl (weak_cons rfl (weak_cons rfl (weak_cons rfl (weak_cons rfl (weak_cons rfl (weak_cons rfl (weak_cons rfl (weak_cons rfl (weak_cons rfl (weak_cons rfl (weak_cons rfl (weak_cons rfl (weak_cons rfl weak_nil)))))))))))))))) (List.Perm.refl _)
        · replace H := Gets.cf H c277
          refine WP.exit ?_
          replace H := Gets.out H
          exact Jn.mk ((x271, x272, decide (x272 < (a0.fL.length : Int)), x273, x274), v275, v276) H (weak_cons rfl (weak_cons rfl (weak_cons rfl (weak_cons rfl (weak_cons rfl (weak_cons rfl (weak_cons rfl (weak_cons rfl (weak_cons rfl (weak_cons rfl (weak_cons rfl (weak_cons rfl (weak_cons rfl weak_nil))))))))))))) (List.Perm.refl _)
  · replace H := Gets.ct H c259
    refine Dv.skip rfl ⟨_, _, rfl, rfl, .inl rfl⟩ ?_
    refine Dv.skip rfl ⟨_, _, rfl, rfl, .inl rfl⟩ ?_
    refine Dv.pickT rfl trivial rfl rfl ?_
    refine .fin ?_
    refine WP.cond rfl (fun _ => ?_) nofun
    refine WP.seq ?_
    refine WP.reg [(0, false), (1, true), (2, false), (3, false)] (by kernel_rfl) ?_
    refine Dv.ldbs rfl trivial rfl Try.underlying29 rfl c29 (mem_at 2 rfl) (Nat.le_of_ble_eq_true rfl) ?_
    refine Dv.stx ([blk b256 29 [sl Edu.K a0.fL, sl (intK .i64) a0.fTold], blk b255 24 [eq (.int .i64 a1.fKind), eq (.string a1.fRoom), eq (.string a1.fUser), eq (.string a1.fEvent), eq (.string a1.fThread), eq (.bool a1.fPrivate), eq (.bool a1.fOn), eq (.int .i64 a1.fSpan), eq (.int .i64 a1.fState), eq (.int .i64 a1.fTick), eq (.int .i64 a1.fStamp)], blk b254 29 [sl Edu.K a0.fL, sl (intK .i64) a0.fTold]] ++ F) rfl trivial rfl rfl (cells_agg (TRef.K.one _)) Try.underlying29 c29 rfl (j := 0) rfl (Nat.le_of_ble_eq_true rfl) rfl nofun ?_
    refine Dv.asg rfl trivial rfl ?_
    refine Dv.asg rfl trivial rfl ?_
    refine .fin ?_
    obtain rfl := Gets.out H
    exact WP.retL (fun _ _ h => h) rfl () trivial (.cons (res_cells rfl Try.underlying29 rfl c29 (mem_at 0 rfl) rfl) (.cons (res_tmp rfl) (.cons (res_tmp rfl) .nil))) rfl (st_sel (L := [blk b256 29 [sl Edu.K a0.fL, sl (intK .i64) a0.fTold], blk b255 24 [eq (.int .i64 a1.fKind), eq (.string a1.fRoom), eq (.string a1.fUser), eq (.string a1.fEvent), eq (.string a1.fThread), eq (.bool a1.fPrivate), eq (.bool a1.fOn), eq (.int .i64 a1.fSpan), eq (.int .i64 a1.fState), eq (.int .i64 a1.fTick), eq (.int .i64 a1.fStamp)], blk b254 29 [sl Edu.K a0.fL, sl (intK .i64) a0.fTold]]) (F := F) [0, 1, 2] 3 rfl rfl rfl)
theorem concourseref01_Around.c {a0 : Int} {a1 : Int} {r : Int} (h : concourseref01_Around.f a0 a1 = some r) : Pt Try.prog 13 [eq (.int .i64 a0), eq (.int .i64 a1)] (eq (.int .i64 r)) := by
  unfold concourseref01_Around.f at h
  refine (Tr.body Try.func13 (c := _) rfl Try.ntmps13 (Nat.le_of_ble_eq_true rfl) fun R0 F => ?_).pt
  replace h := Gets.of h
  have H := h
  clear h
  refine WP.seq ?_
  refine WP.reg [(0, false)] (by kernel_rfl) ?_
  refine Dv.asg rfl trivial rfl ?_
  refine .fin ?_
  refine WP.seq ?_
  refine WP.seq ?_
  refine WP.reg [(0, false), (1, false)] (by kernel_rfl) ?_
  refine Dv.mv rfl trivial rfl ?_
  refine Dv.bin rfl trivial rfl rfl (fun _ => run_lt) ?_
  refine .fin ?_
  refine WP.cond rfl (fun c303 => ?_) (fun c303 => ?_)
  · replace H := Gets.ct H c303
    refine WP.reg [(0, false), (1, false), (2, false), (3, false)] (by kernel_rfl) ?_
    refine Dv.mv rfl trivial rfl ?_
    refine Dv.bin rfl trivial rfl rfl (fun _ => run_add) ?_
    refine Dv.un rfl trivial rfl (fun _ => run_neg _ _) ?_
    refine Dv.asg rfl trivial rfl ?_
    refine .fin ?_
    refine WP.seq ?_
    refine WP.reg [(0, false), (1, false), (2, false), (3, false)] (by kernel_rfl) ?_
    refine Dv.mv rfl trivial rfl ?_
    refine Dv.mv rfl trivial rfl ?_
    obtain ⟨g304, H⟩ := Gets.grd H
    refine Dv.bin rfl trivial rfl rfl (fun _ => run_rem g304) ?_
    refine Dv.asg rfl trivial rfl ?_
    refine .fin ?_
    obtain rfl := Gets.out H
    exact WP.retL (fun _ _ h => h) rfl () trivial (.cons (res_tmp rfl) .nil) rfl (st_sel (L := []) (F := F) [] 0 rfl rfl rfl)
  · replace H := Gets.cf H c303
    refine WP.skip ?_
    refine WP.seq ?_
    refine WP.reg [(0, false), (1, false), (2, false), (3, false)] (by kernel_rfl) ?_
    refine Dv.mv rfl trivial rfl ?_
    refine Dv.mv rfl trivial rfl ?_
    obtain ⟨g305, H⟩ := Gets.grd H
    refine Dv.bin rfl trivial rfl rfl (fun _ => run_rem g305) ?_
    refine Dv.asg rfl trivial rfl ?_
    refine .fin ?_
    obtain rfl := Gets.out H
    exact WP.retL (fun _ _ h => h) rfl () trivial (.cons (res_tmp rfl) .nil) rfl (st_sel (L := []) (F := F) [] 0 rfl rfl rfl)
theorem concourseref01_ServerOf.c {a0 : Int} {r : ByteArray} (h : concourseref01_ServerOf.f a0 = some r) : Pt Try.prog 27 [eq (.int .i64 a0)] (eq (.string r)) := by
  unfold concourseref01_ServerOf.f at h
  refine (Tr.body Try.func27 (c := _) rfl Try.ntmps27 (Nat.le_of_ble_eq_true rfl) fun R0 F => ?_).pt
  replace h := Gets.of h
  have H := h
  clear h
  refine WP.seq ?_
  refine WP.reg [(0, false)] (by kernel_rfl) ?_
  refine Dv.asg rfl trivial rfl ?_
  refine .fin ?_
  refine WP.seq ?_
  refine WP.reg [(0, false), (1, false), (2, false), (3, false), (4, false), (5, false)] (by kernel_rfl) ?_
  refine Dv.lit strK ([(⟨#[115, 49]⟩ : ByteArray), (⟨#[115, 50]⟩ : ByteArray), (⟨#[115, 51]⟩ : ByteArray)] : List ByteArray) (css := [[eq (.string (⟨#[115, 49]⟩ : ByteArray))], [eq (.string (⟨#[115, 50]⟩ : ByteArray))], [eq (.string (⟨#[115, 51]⟩ : ByteArray))]]) rfl trivial Try.underlying42 Try.underlying9 c9 z9 rfl (by decide) (by decide) rfl ⟨(cells_one (one_eq rfl)), ⟨(cells_one (one_eq rfl)), ⟨(cells_one (one_eq rfl)), trivial⟩⟩⟩ rfl rfl rfl ?_
  refine Dv.mv rfl trivial rfl ?_
  obtain ⟨t306, h307, H⟩ := Gets.call H
  refine Dv.call rfl trivial cal13 rfl (concourseref01_Around.c h307) ?_
  obtain ⟨g308, H⟩ := Gets.grd H
  refine Dv.ixr rfl trivial rfl rfl Try.underlying42 Try.underlying9 c9 g308.1 g308.2 ?_
  refine Dv.ldr rfl trivial rfl Try.underlying9 rfl rfl ?_
  refine Dv.asg rfl trivial rfl ?_
  refine .fin ?_
  obtain rfl := Gets.out H
  exact WP.retL (fun _ _ h => h) rfl () trivial (.cons (res_tmp rfl) .nil) rfl (st_sel (L := []) (F := F) [] 0 rfl rfl rfl)
theorem concourseref01_UserOf.c {a0 : Int} {r : ByteArray} (h : concourseref01_UserOf.f a0 = some r) : Pt Try.prog 10 [eq (.int .i64 a0)] (eq (.string r)) := by
  unfold concourseref01_UserOf.f at h
  refine (Tr.body Try.func10 (c := _) rfl Try.ntmps10 (Nat.le_of_ble_eq_true rfl) fun R0 F => ?_).pt
  replace h := Gets.of h
  have H := h
  clear h
  refine WP.seq ?_
  refine WP.reg [(0, false)] (by kernel_rfl) ?_
  refine Dv.asg rfl trivial rfl ?_
  refine .fin ?_
  refine WP.seq ?_
  refine WP.reg [(0, false), (1, false), (2, false)] (by kernel_rfl) ?_
  refine Dv.mv rfl trivial rfl ?_
  obtain ⟨t309, h310, H⟩ := Gets.call H
  refine Dv.call rfl trivial cal13 rfl (concourseref01_Around.c h310) ?_
  refine Dv.asg rfl trivial rfl ?_
  refine .fin ?_
  refine WP.seq ?_
  refine WP.dreg Try.checked.mixed [(0, false), (1, false), (2, false), (3, false), (4, false), (5, false), (6, false), (7, false), (8, false), (9, false)] (by kernel_rfl) ?_
  refine Dv.lit strK ([(⟨#[64, 97, 58]⟩ : ByteArray), (⟨#[64, 98, 58]⟩ : ByteArray), (⟨#[64, 99, 58]⟩ : ByteArray)] : List ByteArray) (css := [[eq (.string (⟨#[64, 97, 58]⟩ : ByteArray))], [eq (.string (⟨#[64, 98, 58]⟩ : ByteArray))], [eq (.string (⟨#[64, 99, 58]⟩ : ByteArray))]]) rfl trivial Try.underlying42 Try.underlying9 c9 z9 rfl (by decide) (by decide) rfl ⟨(cells_one (one_eq rfl)), ⟨(cells_one (one_eq rfl)), ⟨(cells_one (one_eq rfl)), trivial⟩⟩⟩ rfl rfl rfl ?_
  refine Dv.mv rfl trivial rfl ?_
  refine Dv.bin rfl trivial rfl rfl (fun _ => run_quo (by decide)) ?_
  obtain ⟨g311, H⟩ := Gets.grd H
  refine Dv.ixr rfl trivial rfl rfl Try.underlying42 Try.underlying9 c9 g311.1 g311.2 ?_
  refine Dv.ldr rfl trivial rfl Try.underlying9 rfl rfl ?_
  refine Dv.mv rfl trivial rfl ?_
  refine Dv.bin rfl trivial rfl rfl (fun _ => run_rem (by decide)) ?_
  obtain ⟨t312, h313, H⟩ := Gets.call H
  refine Dv.call rfl trivial cal27 rfl (concourseref01_ServerOf.c h313) ?_
  obtain ⟨g314, H⟩ := Gets.grd H
  refine Dv.bin rfl trivial rfl rfl (fun _ => run_cat g314) ?_
  refine Dv.asg rfl trivial rfl ?_
  refine .fin ?_
  obtain rfl := Gets.out H
  exact WP.retL (fun _ _ h => h) rfl () trivial (.cons (res_tmp rfl) .nil) rfl (st_sel (L := []) (F := F) [] 0 rfl rfl rfl)
theorem concourseref01_RoomOf.c {a0 : Int} {r : ByteArray} (h : concourseref01_RoomOf.f a0 = some r) : Pt Try.prog 30 [eq (.int .i64 a0)] (eq (.string r)) := by
  unfold concourseref01_RoomOf.f at h
  refine (Tr.body Try.func30 (c := _) rfl Try.ntmps30 (Nat.le_of_ble_eq_true rfl) fun R0 F => ?_).pt
  replace h := Gets.of h
  have H := h
  clear h
  refine WP.seq ?_
  refine WP.reg [(0, false)] (by kernel_rfl) ?_
  refine Dv.asg rfl trivial rfl ?_
  refine .fin ?_
  refine WP.seq ?_
  refine WP.reg [(0, false), (1, false), (2, false), (3, false), (4, false), (5, false)] (by kernel_rfl) ?_
  refine Dv.lit strK ([(⟨#[33, 114, 58, 115, 49]⟩ : ByteArray), (⟨#[33, 113, 58, 115, 50]⟩ : ByteArray)] : List ByteArray) (css := [[eq (.string (⟨#[33, 114, 58, 115, 49]⟩ : ByteArray))], [eq (.string (⟨#[33, 113, 58, 115, 50]⟩ : ByteArray))]]) rfl trivial Try.underlying42 Try.underlying9 c9 z9 rfl (by decide) (by decide) rfl ⟨(cells_one (one_eq rfl)), ⟨(cells_one (one_eq rfl)), trivial⟩⟩ rfl rfl rfl ?_
  refine Dv.mv rfl trivial rfl ?_
  obtain ⟨t315, h316, H⟩ := Gets.call H
  refine Dv.call rfl trivial cal13 rfl (concourseref01_Around.c h316) ?_
  obtain ⟨g317, H⟩ := Gets.grd H
  refine Dv.ixr rfl trivial rfl rfl Try.underlying42 Try.underlying9 c9 g317.1 g317.2 ?_
  refine Dv.ldr rfl trivial rfl Try.underlying9 rfl rfl ?_
  refine Dv.asg rfl trivial rfl ?_
  refine .fin ?_
  obtain rfl := Gets.out H
  exact WP.retL (fun _ _ h => h) rfl () trivial (.cons (res_tmp rfl) .nil) rfl (st_sel (L := []) (F := F) [] 0 rfl rfl rfl)
theorem concourseref01_Decimal.c : ∀ (k : Nat) {a0 : Int} {r : ByteArray} (h : concourseref01_Decimal.f k a0 = some r), Pt Try.prog 50 [eq (.int .i64 a0)] (eq (.string r))
  | 0, _, _, h => by cases h
  | k + 1, a0, r, h => by
    rw [concourseref01_Decimal.f] at h
    refine (Tr.body Try.func50 (c := _) rfl Try.ntmps50 (Nat.le_of_ble_eq_true rfl) fun R0 F => ?_).pt
    replace h := Gets.of h
    have H := h
    clear h
    refine WP.seq ?_
    refine WP.reg [(0, false)] (by kernel_rfl) ?_
    refine Dv.asg rfl trivial rfl ?_
    refine .fin ?_
    refine WP.seq ?_
    refine WP.reg [(0, false), (1, false), (2, false)] (by kernel_rfl) ?_
    refine Dv.mv rfl trivial rfl ?_
    refine Dv.bin rfl trivial rfl rfl (fun _ => run_rem (by decide)) ?_
    refine Dv.asg rfl trivial rfl ?_
    refine .fin ?_
    refine WP.seqn H id (fun p318 : Int => [(0, eq (.int .i64 a0)), (2, eq (.string (⟨#[]⟩ : ByteArray))), (3, eq (.int .i64 p318)), (8, eq (.bool (decide ((a0.tmod 10) < 0))))]) (fun p318 : Int => [] ++ F) (fun p318 H => ?_) (fun H => ?_)
    · refine WP.seq ?_
      refine WP.reg [(0, false), (1, false), (2, false), (3, false), (4, false), (5, false)] (by kernel_rfl) ?_
      refine Dv.mv rfl trivial rfl ?_
      refine Dv.bin rfl trivial rfl rfl (fun _ => run_add) ?_
      refine Dv.cvi rfl trivial rfl Try.underlying3 Try.underlying5 ?_
      refine Dv.lit (intK .u8) ([IntKind.u8.wrap (w64 (48 + p318))] : List Int) (css := [[eq (.int .u8 (IntKind.u8.wrap (w64 (48 + p318))))]]) rfl trivial Try.underlying62 Try.underlying5 c5 z5 rfl (by decide) (by decide) rfl ⟨(cells_one (one_eq rfl)), trivial⟩ rfl rfl rfl ?_
      refine Dv.cvbs rfl trivial rfl Try.underlying62 Try.underlying5 Try.underlying9 ?_
      refine Dv.asg rfl trivial rfl ?_
      refine .fin ?_
      refine WP.seq ?_
      refine WP.seq ?_
      refine WP.reg [(0, false), (1, false), (2, false), (3, false), (4, false), (5, false)] (by kernel_rfl) ?_
      refine Dv.mv rfl trivial rfl ?_
      refine Dv.bin rfl trivial rfl rfl (fun _ => run_gt) ?_
      refine Dv.mv rfl trivial rfl ?_
      cases c319 : decide ((-10) < a0)
      · replace H := Gets.cf H c319
        refine Dv.skip rfl ⟨_, _, rfl, rfl, .inl rfl⟩ ?_
        refine Dv.skip rfl ⟨_, _, rfl, rfl, .inl rfl⟩ ?_
        refine Dv.pickF rfl trivial rfl rfl ?_
        refine .fin ?_
        refine WP.cond rfl nofun (fun _ => ?_)
        refine WP.skip ?_
        refine WP.seq ?_
        refine WP.reg [(0, false), (1, false), (2, false), (3, false), (4, false), (5, false)] (by kernel_rfl) ?_
        refine Dv.mv rfl trivial rfl ?_
        refine Dv.bin rfl trivial rfl rfl (fun _ => run_quo (by decide)) ?_
        obtain ⟨t327, h328, H⟩ := Gets.call H
        refine Dv.call rfl trivial cal50 rfl (concourseref01_Decimal.c k h328) ?_
        refine Dv.mv rfl trivial rfl ?_
        obtain ⟨g329, H⟩ := Gets.grd H
        refine Dv.bin rfl trivial rfl rfl (fun _ => run_cat g329) ?_
        refine Dv.asg rfl trivial rfl ?_
        refine .fin ?_
        obtain rfl := Gets.out H
        exact WP.retL (fun _ _ h => h) rfl () trivial (.cons (res_tmp rfl) .nil) rfl (st_sel (L := []) (F := F) [] 0 rfl rfl rfl)
      · replace H := Gets.ct H c319
        refine Dv.mv rfl ⟨_, _, rfl, rfl, rfl⟩ rfl ?_
        refine Dv.bin rfl ⟨_, _, rfl, rfl, rfl⟩ rfl rfl (fun _ => run_lt) ?_
        refine Dv.pickT rfl trivial rfl rfl ?_
        refine .fin ?_
        refine WP.cond rfl (fun c320 => ?_) (fun c320 => ?_)
        · replace H := Gets.ct H c320
          refine WP.seq ?_
          refine WP.seq ?_
          refine WP.reg [(0, false), (1, false)] (by kernel_rfl) ?_
          refine Dv.mv rfl trivial rfl ?_
          refine Dv.bin rfl trivial rfl rfl (fun _ => run_lt) ?_
          refine .fin ?_
          refine WP.cond rfl (fun c321 => ?_) (fun c321 => ?_)
          · replace H := Gets.ct H c321
            refine WP.seq ?_
            refine WP.reg [(0, false), (1, false), (2, false)] (by kernel_rfl) ?_
            refine Dv.mv rfl trivial rfl ?_
            obtain ⟨g322, H⟩ := Gets.grd H
            refine Dv.bin rfl trivial rfl rfl (fun _ => run_cat g322) ?_
            refine Dv.asg rfl trivial rfl ?_
            refine .fin ?_
            obtain rfl := Gets.out H
            exact WP.retL (fun _ _ h => h) rfl () trivial (.cons (res_tmp rfl) .nil) rfl (st_sel (L := []) (F := F) [] 0 rfl rfl rfl)
          · replace H := Gets.cf H c321
            refine WP.skip ?_
            refine WP.seq ?_
            refine WP.reg [(0, false), (1, false)] (by kernel_rfl) ?_
            refine Dv.mv rfl trivial rfl ?_
            refine Dv.asg rfl trivial rfl ?_
            refine .fin ?_
            obtain rfl := Gets.out H
            exact WP.retL (fun _ _ h => h) rfl () trivial (.cons (res_tmp rfl) .nil) rfl (st_sel (L := []) (F := F) [] 0 rfl rfl rfl)
        · replace H := Gets.cf H c320
          refine WP.skip ?_
          refine WP.seq ?_
          refine WP.reg [(0, false), (1, false), (2, false), (3, false), (4, false), (5, false)] (by kernel_rfl) ?_
          refine Dv.mv rfl trivial rfl ?_
          refine Dv.bin rfl trivial rfl rfl (fun _ => run_quo (by decide)) ?_
          obtain ⟨t323, h324, H⟩ := Gets.call H
          refine Dv.call rfl trivial cal50 rfl (concourseref01_Decimal.c k h324) ?_
          refine Dv.mv rfl trivial rfl ?_
          obtain ⟨g325, H⟩ := Gets.grd H
          refine Dv.bin rfl trivial rfl rfl (fun _ => run_cat g325) ?_
          refine Dv.asg rfl trivial rfl ?_
          refine .fin ?_
          obtain rfl := Gets.out H
          exact WP.retL (fun _ _ h => h) rfl () trivial (.cons (res_tmp rfl) .nil) rfl (st_sel (L := []) (F := F) [] 0 rfl rfl rfl)
    · refine WP.seq ?_
      refine WP.reg [(0, false), (1, false)] (by kernel_rfl) ?_
      refine Dv.mv rfl trivial rfl ?_
      refine Dv.bin rfl trivial rfl rfl (fun _ => run_lt) ?_
      refine .fin ?_
      refine WP.cond rfl (fun c330 => ?_) (fun c330 => ?_)
      · replace H := Gets.ct H c330
        refine WP.reg [(0, false), (1, false), (2, false)] (by kernel_rfl) ?_
        refine Dv.mv rfl trivial rfl ?_
        refine Dv.un rfl trivial rfl (fun _ => run_neg _ _) ?_
        refine Dv.asg rfl trivial rfl ?_
        refine .fin ?_
        replace H := Gets.out H
        exact Jn.mk (w64 (0 - (a0.tmod 10))) H (weak_cons rfl (weak_cons rfl (weak_cons rfl (weak_cons rfl weak_nil)))) (List.Perm.refl _)
      · replace H := Gets.cf H c330
        refine WP.skip ?_
        replace H := Gets.out H
        exact Jn.mk (a0.tmod 10) H (weak_cons rfl (weak_cons rfl (weak_cons rfl (weak_cons rfl weak_nil)))) (List.Perm.refl _)
theorem concourseref01_EventOf.c {k : Nat} {a0 : Int} {r : ByteArray} (h : concourseref01_EventOf.f k a0 = some r) : Pt Try.prog 31 [eq (.int .i64 a0)] (eq (.string r)) := by
  unfold concourseref01_EventOf.f at h
  refine (Tr.body Try.func31 (c := _) rfl Try.ntmps31 (Nat.le_of_ble_eq_true rfl) fun R0 F => ?_).pt
  replace h := Gets.of h
  have H := h
  clear h
  refine WP.seq ?_
  refine WP.reg [(0, false)] (by kernel_rfl) ?_
  refine Dv.asg rfl trivial rfl ?_
  refine .fin ?_
  refine WP.seq ?_
  refine WP.reg [(0, false), (1, false), (2, false), (3, false), (4, false)] (by kernel_rfl) ?_
  refine Dv.mv rfl trivial rfl ?_
  obtain ⟨t331, h332, H⟩ := Gets.call H
  refine Dv.call rfl trivial cal13 rfl (concourseref01_Around.c h332) ?_
  obtain ⟨t333, h334, H⟩ := Gets.call H
  refine Dv.call rfl trivial cal50 rfl (concourseref01_Decimal.c _ h334) ?_
  obtain ⟨g335, H⟩ := Gets.grd H
  refine Dv.bin rfl trivial rfl rfl (fun _ => run_cat g335) ?_
  refine Dv.asg rfl trivial rfl ?_
  refine .fin ?_
  obtain rfl := Gets.out H
  exact WP.retL (fun _ _ h => h) rfl () trivial (.cons (res_tmp rfl) .nil) rfl (st_sel (L := []) (F := F) [] 0 rfl rfl rfl)
theorem concourseref01_ThreadOf.c {k : Nat} {a0 : Int} {r : ByteArray} (h : concourseref01_ThreadOf.f k a0 = some r) : Pt Try.prog 32 [eq (.int .i64 a0)] (eq (.string r)) := by
  unfold concourseref01_ThreadOf.f at h
  refine (Tr.body Try.func32 (c := _) rfl Try.ntmps32 (Nat.le_of_ble_eq_true rfl) fun R0 F => ?_).pt
  replace h := Gets.of h
  have H := h
  clear h
  refine WP.seq ?_
  refine WP.reg [(0, false)] (by kernel_rfl) ?_
  refine Dv.asg rfl trivial rfl ?_
  refine .fin ?_
  refine WP.seq ?_
  refine WP.reg [(0, false), (1, false), (2, false)] (by kernel_rfl) ?_
  refine Dv.mv rfl trivial rfl ?_
  obtain ⟨t336, h337, H⟩ := Gets.call H
  refine Dv.call rfl trivial cal13 rfl (concourseref01_Around.c h337) ?_
  refine Dv.asg rfl trivial rfl ?_
  refine .fin ?_
  refine WP.seq ?_
  refine WP.seq ?_
  refine WP.reg [(0, false), (1, false)] (by kernel_rfl) ?_
  refine Dv.mv rfl trivial rfl ?_
  refine Dv.bin rfl trivial rfl rfl (fun _ => run_eq) ?_
  refine .fin ?_
  refine WP.cond rfl (fun c338 => ?_) (fun c338 => ?_)
  · replace H := Gets.ct H c338
    refine WP.seq ?_
    refine WP.reg [(0, false)] (by kernel_rfl) ?_
    refine Dv.asg rfl trivial rfl ?_
    refine .fin ?_
    obtain rfl := Gets.out H
    exact WP.retL (fun _ _ h => h) rfl () trivial (.cons (res_tmp rfl) .nil) rfl (st_sel (L := []) (F := F) [] 0 rfl rfl rfl)
  · replace H := Gets.cf H c338
    refine WP.skip ?_
    refine WP.seq ?_
    refine WP.seq ?_
    refine WP.reg [(0, false), (1, false)] (by kernel_rfl) ?_
    refine Dv.mv rfl trivial rfl ?_
    refine Dv.bin rfl trivial rfl rfl (fun _ => run_eq) ?_
    refine .fin ?_
    refine WP.cond rfl (fun c339 => ?_) (fun c339 => ?_)
    · replace H := Gets.ct H c339
      refine WP.seq ?_
      refine WP.reg [(0, false)] (by kernel_rfl) ?_
      refine Dv.asg rfl trivial rfl ?_
      refine .fin ?_
      obtain rfl := Gets.out H
      exact WP.retL (fun _ _ h => h) rfl () trivial (.cons (res_tmp rfl) .nil) rfl (st_sel (L := []) (F := F) [] 0 rfl rfl rfl)
    · replace H := Gets.cf H c339
      refine WP.skip ?_
      refine WP.seq ?_
      refine WP.reg [(0, false), (1, false), (2, false)] (by kernel_rfl) ?_
      refine Dv.mv rfl trivial rfl ?_
      obtain ⟨t340, h341, H⟩ := Gets.call H
      refine Dv.call rfl trivial cal31 rfl (concourseref01_EventOf.c h341) ?_
      refine Dv.asg rfl trivial rfl ?_
      refine .fin ?_
      obtain rfl := Gets.out H
      exact WP.retL (fun _ _ h => h) rfl () trivial (.cons (res_tmp rfl) .nil) rfl (st_sel (L := []) (F := F) [] 0 rfl rfl rfl)
theorem concourseref03_Good.c {k : Nat} {a0 : Edu} {r : Edu} (h : concourseref03_Good.f k a0 = some r) : Pt Try.prog 18 [agg (Edu.enc a0)] (agg (Edu.enc r)) := by
  unfold concourseref03_Good.f at h
  refine (Tr.body Try.func18 (c := _) rfl Try.ntmps18 (Nat.le_of_ble_eq_true rfl) fun R0 F => ?_).pt
  replace h := Gets.of h
  have H := h
  clear h
  refine WP.seq ?_
  refine WP.reg [(0, true), (1, true)] (by kernel_rfl) ?_
  refine Dv.box rfl trivial rfl (cells_agg (Edu.K.one _)) nofun (fun b342 => ?_)
  refine Dv.alloc (z := .agg #[.int .i64 0, .string ⟨#[]⟩, .string ⟨#[]⟩, .string ⟨#[]⟩, .string ⟨#[]⟩, .bool false, .bool false, .int .i64 0, .int .i64 0, .int .i64 0, .int .i64 0]) (qs := [eq (.int .i64 0), eq (.string (⟨#[]⟩ : ByteArray)), eq (.string (⟨#[]⟩ : ByteArray)), eq (.string (⟨#[]⟩ : ByteArray)), eq (.string (⟨#[]⟩ : ByteArray)), eq (.bool false), eq (.bool false), eq (.int .i64 0), eq (.int .i64 0), eq (.int .i64 0), eq (.int .i64 0)]) rfl trivial z24 rfl nofun (fun b343 => ?_)
  refine .fin ?_
  refine WP.seq ?_
  refine WP.dreg Try.checked.mixed [(0, false), (1, false), (2, false), (3, false), (4, false), (5, false), (6, false), (7, false), (8, false), (9, false), (10, false), (11, false), (12, false), (13, false), (14, true), (15, true)] (by kernel_rfl) ?_
  refine Dv.fab rfl trivial rfl Try.underlying24 rfl Try.underlying3 c3 (by decide) ?_
  refine Dv.ldb rfl trivial rfl Try.underlying3 rfl (mem_at 1 rfl) rfl ?_
  obtain ⟨t344, h345, H⟩ := Gets.call H
  refine Dv.call rfl trivial cal13 rfl (concourseref01_Around.c h345) ?_
  refine Dv.bin rfl trivial rfl rfl (fun _ => run_add) ?_
  refine Dv.fab rfl trivial rfl Try.underlying24 rfl Try.underlying3 c3 (by decide) ?_
  refine Dv.ldb rfl trivial rfl Try.underlying3 rfl (mem_at 1 rfl) rfl ?_
  obtain ⟨t346, h347, H⟩ := Gets.call H
  refine Dv.call rfl trivial cal10 rfl (concourseref01_UserOf.c h347) ?_
  refine Dv.fab rfl trivial rfl Try.underlying24 rfl Try.underlying3 c3 (by decide) ?_
  refine Dv.ldb rfl trivial rfl Try.underlying3 rfl (mem_at 1 rfl) rfl ?_
  obtain ⟨t348, h349, H⟩ := Gets.call H
  refine Dv.call rfl trivial cal13 rfl (concourseref01_Around.c h349) ?_
  refine Dv.fab rfl trivial rfl Try.underlying24 rfl Try.underlying3 c3 (by decide) ?_
  refine Dv.ldb rfl trivial rfl Try.underlying3 rfl (mem_at 1 rfl) rfl ?_
  obtain ⟨t350, h351, H⟩ := Gets.call H
  refine Dv.call rfl trivial cal13 rfl (concourseref01_Around.c h351) ?_
  refine Dv.bld (css := [[eq (.int .i64 (w64 (1 + t344)))], [eq (.string t346)], [eq (.int .i64 t348)], [eq (.int .i64 t350)]]) rfl trivial Try.underlying24 pl24 z24 rfl ⟨(cells_one (one_eq rfl)), ⟨(cells_one (one_eq rfl)), ⟨(cells_one (one_eq rfl)), ⟨(cells_one (one_eq rfl)), trivial⟩⟩⟩⟩ rfl rfl ?_
  refine Dv.alloc (z := .agg #[.int .i64 0, .string ⟨#[]⟩, .string ⟨#[]⟩, .string ⟨#[]⟩, .string ⟨#[]⟩, .bool false, .bool false, .int .i64 0, .int .i64 0, .int .i64 0, .int .i64 0]) (qs := [eq (.int .i64 0), eq (.string (⟨#[]⟩ : ByteArray)), eq (.string (⟨#[]⟩ : ByteArray)), eq (.string (⟨#[]⟩ : ByteArray)), eq (.string (⟨#[]⟩ : ByteArray)), eq (.bool false), eq (.bool false), eq (.int .i64 0), eq (.int .i64 0), eq (.int .i64 0), eq (.int .i64 0)]) rfl trivial z24 rfl (fun _ => (pend_in (fun _ => trivial) (pend_in (fun _ => trivial) (pend_in (fun _ => (mem_at 2 rfl)) (pend_in (fun _ => trivial) (pend_in (fun _ => trivial) (pend_in (fun _ => (mem_at 2 rfl)) (pend_in (fun _ => trivial) (pend_in (fun _ => trivial) (pend_in (fun _ => (mem_at 2 rfl)) (pend_in (fun _ => trivial) (pend_in (fun _ => trivial) (pend_in (fun _ => trivial) (pend_in (fun _ => (mem_at 2 rfl)) (pend_in (fun _ => trivial) pend_nil))))))))))))))) (fun b352 => ?_)
  refine Dv.stx ([blk b352 24 [eq (.int .i64 (w64 (1 + t344))), eq (.string (⟨#[]⟩ : ByteArray)), eq (.string t346), eq (.string (⟨#[]⟩ : ByteArray)), eq (.string (⟨#[]⟩ : ByteArray)), eq (.bool false), eq (.bool false), eq (.int .i64 0), eq (.int .i64 0), eq (.int .i64 t348), eq (.int .i64 t350)], blk b343 24 [eq (.int .i64 0), eq (.string (⟨#[]⟩ : ByteArray)), eq (.string (⟨#[]⟩ : ByteArray)), eq (.string (⟨#[]⟩ : ByteArray)), eq (.string (⟨#[]⟩ : ByteArray)), eq (.bool false), eq (.bool false), eq (.int .i64 0), eq (.int .i64 0), eq (.int .i64 0), eq (.int .i64 0)], blk b342 24 [eq (.int .i64 a0.fKind), eq (.string a0.fRoom), eq (.string a0.fUser), eq (.string a0.fEvent), eq (.string a0.fThread), eq (.bool a0.fPrivate), eq (.bool a0.fOn), eq (.int .i64 a0.fSpan), eq (.int .i64 a0.fState), eq (.int .i64 a0.fTick), eq (.int .i64 a0.fStamp)]] ++ F) rfl trivial rfl rfl (cells_agg (ones_cons (one_eq rfl) (ones_cons (one_eq rfl) (ones_cons (one_eq rfl) (ones_cons (one_eq rfl) (ones_cons (one_eq rfl) (ones_cons (one_eq rfl) (ones_cons (one_eq rfl) (ones_cons (one_eq rfl) (ones_cons (one_eq rfl) (ones_cons (one_eq rfl) (ones_cons (one_eq rfl) ones_nil)))))))))))) Try.underlying24 c24 rfl (j := 0) rfl (Nat.le_of_ble_eq_true rfl) rfl (fun _ => pend_bits (by kernel_rfl)) ?_
  refine .fin ?_
  refine WP.seq ?_
  refine WP.seq ?_
  refine WP.reg [(0, false), (1, false)] (by kernel_rfl) ?_
  refine Dv.fab rfl trivial rfl Try.underlying24 rfl Try.underlying3 c3 (by decide) ?_
  refine Dv.ldb rfl trivial rfl Try.underlying3 rfl (mem_at 0 rfl) rfl ?_
  refine .fin ?_
  refine WP.block ?_
  refine WP.seq ?_
  refine WP.reg [(0, false), (1, false)] (by kernel_rfl) ?_
  refine Dv.bin rfl trivial rfl rfl (fun _ => run_eq) ?_
  refine Dv.asg rfl trivial rfl ?_
  refine .fin ?_
  refine WP.cond rfl (fun c353 => ?_) (fun c353 => ?_)
  · replace H := Gets.ct H c353
    refine WP.seq ?_
    refine WP.reg [(0, false), (1, false), (2, false), (3, false), (4, true)] (by kernel_rfl) ?_
    refine Dv.fab rfl trivial rfl Try.underlying24 rfl Try.underlying3 c3 (by decide) ?_
    refine Dv.ldb rfl trivial rfl Try.underlying3 rfl (mem_at 2 rfl) rfl ?_
    obtain ⟨t354, h355, H⟩ := Gets.call H
    refine Dv.call rfl trivial cal30 rfl (concourseref01_RoomOf.c h355) ?_
    refine Dv.fab rfl trivial rfl Try.underlying24 rfl Try.underlying9 c9 (by decide) ?_
    refine Dv.stx ([blk b352 24 [eq (.int .i64 (w64 (1 + t344))), eq (.string t354), eq (.string t346), eq (.string (⟨#[]⟩ : ByteArray)), eq (.string (⟨#[]⟩ : ByteArray)), eq (.bool false), eq (.bool false), eq (.int .i64 0), eq (.int .i64 0), eq (.int .i64 t348), eq (.int .i64 t350)], blk b343 24 [eq (.int .i64 0), eq (.string (⟨#[]⟩ : ByteArray)), eq (.string (⟨#[]⟩ : ByteArray)), eq (.string (⟨#[]⟩ : ByteArray)), eq (.string (⟨#[]⟩ : ByteArray)), eq (.bool false), eq (.bool false), eq (.int .i64 0), eq (.int .i64 0), eq (.int .i64 0), eq (.int .i64 0)], blk b342 24 [eq (.int .i64 a0.fKind), eq (.string a0.fRoom), eq (.string a0.fUser), eq (.string a0.fEvent), eq (.string a0.fThread), eq (.bool a0.fPrivate), eq (.bool a0.fOn), eq (.int .i64 a0.fSpan), eq (.int .i64 a0.fState), eq (.int .i64 a0.fTick), eq (.int .i64 a0.fStamp)]] ++ F) rfl trivial rfl rfl (cells_one (one_eq rfl)) Try.underlying9 c9 rfl (j := 0) rfl (Nat.le_of_ble_eq_true rfl) rfl nofun ?_
    refine .fin ?_
    refine WP.seq ?_
    refine WP.dreg Try.checked.mixed [(0, false), (1, false), (2, false), (3, false), (4, false), (5, false), (6, false), (7, false), (8, false), (9, true)] (by kernel_rfl) ?_
    refine Dv.fab rfl trivial rfl Try.underlying24 rfl Try.underlying9 c9 (by decide) ?_
    refine Dv.ldb rfl trivial rfl Try.underlying9 rfl (mem_at 2 rfl) rfl ?_
    refine Dv.lens rfl trivial rfl Try.underlying9 ?_
    refine Dv.fab rfl trivial rfl Try.underlying24 rfl Try.underlying3 c3 (by decide) ?_
    refine Dv.ldb rfl trivial rfl Try.underlying3 rfl (mem_at 2 rfl) rfl ?_
    obtain ⟨t356, h357, H⟩ := Gets.call H
    refine Dv.call rfl trivial cal13 rfl (concourseref01_Around.c h357) ?_
    refine Dv.bin rfl trivial rfl rfl (fun _ => run_add) ?_
    obtain ⟨t358, h359, H⟩ := Gets.call H
    refine Dv.call rfl trivial cal31 rfl (concourseref01_EventOf.c h359) ?_
    refine Dv.fab rfl trivial rfl Try.underlying24 rfl Try.underlying9 c9 (by decide) ?_
    refine Dv.stx ([blk b352 24 [eq (.int .i64 (w64 (1 + t344))), eq (.string t354), eq (.string t346), eq (.string t358), eq (.string (⟨#[]⟩ : ByteArray)), eq (.bool false), eq (.bool false), eq (.int .i64 0), eq (.int .i64 0), eq (.int .i64 t348), eq (.int .i64 t350)], blk b343 24 [eq (.int .i64 0), eq (.string (⟨#[]⟩ : ByteArray)), eq (.string (⟨#[]⟩ : ByteArray)), eq (.string (⟨#[]⟩ : ByteArray)), eq (.string (⟨#[]⟩ : ByteArray)), eq (.bool false), eq (.bool false), eq (.int .i64 0), eq (.int .i64 0), eq (.int .i64 0), eq (.int .i64 0)], blk b342 24 [eq (.int .i64 a0.fKind), eq (.string a0.fRoom), eq (.string a0.fUser), eq (.string a0.fEvent), eq (.string a0.fThread), eq (.bool a0.fPrivate), eq (.bool a0.fOn), eq (.int .i64 a0.fSpan), eq (.int .i64 a0.fState), eq (.int .i64 a0.fTick), eq (.int .i64 a0.fStamp)]] ++ F) rfl trivial rfl rfl (cells_one (one_eq rfl)) Try.underlying9 c9 rfl (j := 0) rfl (Nat.le_of_ble_eq_true rfl) rfl (fun _ => pend_bits (by kernel_rfl)) ?_
    refine .fin ?_
    refine WP.seq ?_
    refine WP.reg [(0, false), (1, false), (2, false), (3, false), (4, false), (5, true)] (by kernel_rfl) ?_
    refine Dv.fab rfl trivial rfl Try.underlying24 rfl Try.underlying9 c9 (by decide) ?_
    refine Dv.ldb rfl trivial rfl Try.underlying9 rfl (mem_at 2 rfl) rfl ?_
    refine Dv.lens rfl trivial rfl Try.underlying9 ?_
    obtain ⟨t360, h361, H⟩ := Gets.call H
    refine Dv.call rfl trivial cal32 rfl (concourseref01_ThreadOf.c h361) ?_
    refine Dv.fab rfl trivial rfl Try.underlying24 rfl Try.underlying9 c9 (by decide) ?_
    refine Dv.stx ([blk b352 24 [eq (.int .i64 (w64 (1 + t344))), eq (.string t354), eq (.string t346), eq (.string t358), eq (.string t360), eq (.bool false), eq (.bool false), eq (.int .i64 0), eq (.int .i64 0), eq (.int .i64 t348), eq (.int .i64 t350)], blk b343 24 [eq (.int .i64 0), eq (.string (⟨#[]⟩ : ByteArray)), eq (.string (⟨#[]⟩ : ByteArray)), eq (.string (⟨#[]⟩ : ByteArray)), eq (.string (⟨#[]⟩ : ByteArray)), eq (.bool false), eq (.bool false), eq (.int .i64 0), eq (.int .i64 0), eq (.int .i64 0), eq (.int .i64 0)], blk b342 24 [eq (.int .i64 a0.fKind), eq (.string a0.fRoom), eq (.string a0.fUser), eq (.string a0.fEvent), eq (.string a0.fThread), eq (.bool a0.fPrivate), eq (.bool a0.fOn), eq (.int .i64 a0.fSpan), eq (.int .i64 a0.fState), eq (.int .i64 a0.fTick), eq (.int .i64 a0.fStamp)]] ++ F) rfl trivial rfl rfl (cells_one (one_eq rfl)) Try.underlying9 c9 rfl (j := 0) rfl (Nat.le_of_ble_eq_true rfl) rfl nofun ?_
    refine .fin ?_
    refine WP.reg [(0, false), (1, false), (2, false), (3, true)] (by kernel_rfl) ?_
    refine Dv.fab rfl trivial rfl Try.underlying24 rfl Try.underlying4 c4 (by decide) ?_
    refine Dv.ldb rfl trivial rfl Try.underlying4 rfl (mem_at 2 rfl) rfl ?_
    refine Dv.fab rfl trivial rfl Try.underlying24 rfl Try.underlying4 c4 (by decide) ?_
    refine Dv.stx ([blk b352 24 [eq (.int .i64 (w64 (1 + t344))), eq (.string t354), eq (.string t346), eq (.string t358), eq (.string t360), eq (.bool a0.fPrivate), eq (.bool false), eq (.int .i64 0), eq (.int .i64 0), eq (.int .i64 t348), eq (.int .i64 t350)], blk b343 24 [eq (.int .i64 0), eq (.string (⟨#[]⟩ : ByteArray)), eq (.string (⟨#[]⟩ : ByteArray)), eq (.string (⟨#[]⟩ : ByteArray)), eq (.string (⟨#[]⟩ : ByteArray)), eq (.bool false), eq (.bool false), eq (.int .i64 0), eq (.int .i64 0), eq (.int .i64 0), eq (.int .i64 0)], blk b342 24 [eq (.int .i64 a0.fKind), eq (.string a0.fRoom), eq (.string a0.fUser), eq (.string a0.fEvent), eq (.string a0.fThread), eq (.bool a0.fPrivate), eq (.bool a0.fOn), eq (.int .i64 a0.fSpan), eq (.int .i64 a0.fState), eq (.int .i64 a0.fTick), eq (.int .i64 a0.fStamp)]] ++ F) rfl trivial rfl rfl (cells_one (one_eq rfl)) Try.underlying4 c4 rfl (j := 0) rfl (Nat.le_of_ble_eq_true rfl) rfl nofun ?_
    refine .fin ?_
    refine WP.seq ?_
    refine WP.reg [(0, false), (1, true)] (by kernel_rfl) ?_
    refine Dv.ldbs rfl trivial rfl Try.underlying24 rfl c24 (mem_at 0 rfl) (Nat.le_of_ble_eq_true rfl) ?_
    refine Dv.stx ([blk b352 24 [eq (.int .i64 (w64 (1 + t344))), eq (.string t354), eq (.string t346), eq (.string t358), eq (.string t360), eq (.bool a0.fPrivate), eq (.bool false), eq (.int .i64 0), eq (.int .i64 0), eq (.int .i64 t348), eq (.int .i64 t350)], blk b343 24 [eq (.int .i64 (w64 (1 + t344))), eq (.string t354), eq (.string t346), eq (.string t358), eq (.string t360), eq (.bool a0.fPrivate), eq (.bool false), eq (.int .i64 0), eq (.int .i64 0), eq (.int .i64 t348), eq (.int .i64 t350)], blk b342 24 [eq (.int .i64 a0.fKind), eq (.string a0.fRoom), eq (.string a0.fUser), eq (.string a0.fEvent), eq (.string a0.fThread), eq (.bool a0.fPrivate), eq (.bool a0.fOn), eq (.int .i64 a0.fSpan), eq (.int .i64 a0.fState), eq (.int .i64 a0.fTick), eq (.int .i64 a0.fStamp)]] ++ F) rfl trivial rfl rfl (cells_agg (ones_cons (one_eq rfl) (ones_cons (one_eq rfl) (ones_cons (one_eq rfl) (ones_cons (one_eq rfl) (ones_cons (one_eq rfl) (ones_cons (one_eq rfl) (ones_cons (one_eq rfl) (ones_cons (one_eq rfl) (ones_cons (one_eq rfl) (ones_cons (one_eq rfl) (ones_cons (one_eq rfl) ones_nil)))))))))))) Try.underlying24 c24 rfl (j := 1) rfl (Nat.le_of_ble_eq_true rfl) rfl nofun ?_
    refine .fin ?_
    obtain rfl := Gets.out H
    exact WP.retL (fun _ _ h => h) rfl () trivial (.cons (res_cells rfl Try.underlying24 rfl c24 (mem_at 1 rfl) rfl) .nil) rfl (st_sel (L := [blk b352 24 [eq (.int .i64 (w64 (1 + t344))), eq (.string t354), eq (.string t346), eq (.string t358), eq (.string t360), eq (.bool a0.fPrivate), eq (.bool false), eq (.int .i64 0), eq (.int .i64 0), eq (.int .i64 t348), eq (.int .i64 t350)], blk b343 24 [eq (.int .i64 (w64 (1 + t344))), eq (.string t354), eq (.string t346), eq (.string t358), eq (.string t360), eq (.bool a0.fPrivate), eq (.bool false), eq (.int .i64 0), eq (.int .i64 0), eq (.int .i64 t348), eq (.int .i64 t350)], blk b342 24 [eq (.int .i64 a0.fKind), eq (.string a0.fRoom), eq (.string a0.fUser), eq (.string a0.fEvent), eq (.string a0.fThread), eq (.bool a0.fPrivate), eq (.bool a0.fOn), eq (.int .i64 a0.fSpan), eq (.int .i64 a0.fState), eq (.int .i64 a0.fTick), eq (.int .i64 a0.fStamp)]]) (F := F) [0, 1, 2] 3 rfl rfl rfl)
  · replace H := Gets.cf H c353
    refine WP.seq ?_
    refine WP.reg [(0, false), (1, false)] (by kernel_rfl) ?_
    refine Dv.bin rfl trivial rfl rfl (fun _ => run_eq) ?_
    refine Dv.asg rfl trivial rfl ?_
    refine .fin ?_
    refine WP.cond rfl (fun c362 => ?_) (fun c362 => ?_)
    · replace H := Gets.ct H c362
      refine WP.seq ?_
      refine WP.reg [(0, false), (1, false), (2, false), (3, false), (4, true)] (by kernel_rfl) ?_
      refine Dv.fab rfl trivial rfl Try.underlying24 rfl Try.underlying3 c3 (by decide) ?_
      refine Dv.ldb rfl trivial rfl Try.underlying3 rfl (mem_at 2 rfl) rfl ?_
      obtain ⟨t363, h364, H⟩ := Gets.call H
      refine Dv.call rfl trivial cal30 rfl (concourseref01_RoomOf.c h364) ?_
      refine Dv.fab rfl trivial rfl Try.underlying24 rfl Try.underlying9 c9 (by decide) ?_
      refine Dv.stx ([blk b352 24 [eq (.int .i64 (w64 (1 + t344))), eq (.string t363), eq (.string t346), eq (.string (⟨#[]⟩ : ByteArray)), eq (.string (⟨#[]⟩ : ByteArray)), eq (.bool false), eq (.bool false), eq (.int .i64 0), eq (.int .i64 0), eq (.int .i64 t348), eq (.int .i64 t350)], blk b343 24 [eq (.int .i64 0), eq (.string (⟨#[]⟩ : ByteArray)), eq (.string (⟨#[]⟩ : ByteArray)), eq (.string (⟨#[]⟩ : ByteArray)), eq (.string (⟨#[]⟩ : ByteArray)), eq (.bool false), eq (.bool false), eq (.int .i64 0), eq (.int .i64 0), eq (.int .i64 0), eq (.int .i64 0)], blk b342 24 [eq (.int .i64 a0.fKind), eq (.string a0.fRoom), eq (.string a0.fUser), eq (.string a0.fEvent), eq (.string a0.fThread), eq (.bool a0.fPrivate), eq (.bool a0.fOn), eq (.int .i64 a0.fSpan), eq (.int .i64 a0.fState), eq (.int .i64 a0.fTick), eq (.int .i64 a0.fStamp)]] ++ F) rfl trivial rfl rfl (cells_one (one_eq rfl)) Try.underlying9 c9 rfl (j := 0) rfl (Nat.le_of_ble_eq_true rfl) rfl nofun ?_
      refine .fin ?_
      refine WP.seq ?_
      refine WP.reg [(0, false), (1, false), (2, false), (3, true)] (by kernel_rfl) ?_
      refine Dv.fab rfl trivial rfl Try.underlying24 rfl Try.underlying4 c4 (by decide) ?_
      refine Dv.ldb rfl trivial rfl Try.underlying4 rfl (mem_at 2 rfl) rfl ?_
      refine Dv.fab rfl trivial rfl Try.underlying24 rfl Try.underlying4 c4 (by decide) ?_
      refine Dv.stx ([blk b352 24 [eq (.int .i64 (w64 (1 + t344))), eq (.string t363), eq (.string t346), eq (.string (⟨#[]⟩ : ByteArray)), eq (.string (⟨#[]⟩ : ByteArray)), eq (.bool false), eq (.bool a0.fOn), eq (.int .i64 0), eq (.int .i64 0), eq (.int .i64 t348), eq (.int .i64 t350)], blk b343 24 [eq (.int .i64 0), eq (.string (⟨#[]⟩ : ByteArray)), eq (.string (⟨#[]⟩ : ByteArray)), eq (.string (⟨#[]⟩ : ByteArray)), eq (.string (⟨#[]⟩ : ByteArray)), eq (.bool false), eq (.bool false), eq (.int .i64 0), eq (.int .i64 0), eq (.int .i64 0), eq (.int .i64 0)], blk b342 24 [eq (.int .i64 a0.fKind), eq (.string a0.fRoom), eq (.string a0.fUser), eq (.string a0.fEvent), eq (.string a0.fThread), eq (.bool a0.fPrivate), eq (.bool a0.fOn), eq (.int .i64 a0.fSpan), eq (.int .i64 a0.fState), eq (.int .i64 a0.fTick), eq (.int .i64 a0.fStamp)]] ++ F) rfl trivial rfl rfl (cells_one (one_eq rfl)) Try.underlying4 c4 rfl (j := 0) rfl (Nat.le_of_ble_eq_true rfl) rfl nofun ?_
      refine .fin ?_
      refine WP.seq ?_
      refine WP.reg [(0, false), (1, false)] (by kernel_rfl) ?_
      refine Dv.fab rfl trivial rfl Try.underlying24 rfl Try.underlying4 c4 (by decide) ?_
      refine Dv.ldb rfl trivial rfl Try.underlying4 rfl (mem_at 2 rfl) rfl ?_
      refine .fin ?_
      refine WP.cond rfl (fun c365 => ?_) (fun c365 => ?_)
      · replace H := Gets.ct H c365
        refine WP.reg [(0, false), (1, false), (2, false), (3, false), (4, false), (5, true)] (by kernel_rfl) ?_
        refine Dv.fab rfl trivial rfl Try.underlying24 rfl Try.underlying3 c3 (by decide) ?_
        refine Dv.ldb rfl trivial rfl Try.underlying3 rfl (mem_at 2 rfl) rfl ?_
        obtain ⟨t366, h367, H⟩ := Gets.call H
        refine Dv.call rfl trivial cal13 rfl (concourseref01_Around.c h367) ?_
        refine Dv.bin rfl trivial rfl rfl (fun _ => run_add) ?_
        refine Dv.fab rfl trivial rfl Try.underlying24 rfl Try.underlying3 c3 (by decide) ?_
        refine Dv.stx ([blk b352 24 [eq (.int .i64 (w64 (1 + t344))), eq (.string t363), eq (.string t346), eq (.string (⟨#[]⟩ : ByteArray)), eq (.string (⟨#[]⟩ : ByteArray)), eq (.bool false), eq (.bool a0.fOn), eq (.int .i64 (w64 (1 + t366))), eq (.int .i64 0), eq (.int .i64 t348), eq (.int .i64 t350)], blk b343 24 [eq (.int .i64 0), eq (.string (⟨#[]⟩ : ByteArray)), eq (.string (⟨#[]⟩ : ByteArray)), eq (.string (⟨#[]⟩ : ByteArray)), eq (.string (⟨#[]⟩ : ByteArray)), eq (.bool false), eq (.bool false), eq (.int .i64 0), eq (.int .i64 0), eq (.int .i64 0), eq (.int .i64 0)], blk b342 24 [eq (.int .i64 a0.fKind), eq (.string a0.fRoom), eq (.string a0.fUser), eq (.string a0.fEvent), eq (.string a0.fThread), eq (.bool a0.fPrivate), eq (.bool a0.fOn), eq (.int .i64 a0.fSpan), eq (.int .i64 a0.fState), eq (.int .i64 a0.fTick), eq (.int .i64 a0.fStamp)]] ++ F) rfl trivial rfl rfl (cells_one (one_eq rfl)) Try.underlying3 c3 rfl (j := 0) rfl (Nat.le_of_ble_eq_true rfl) rfl nofun ?_
        refine .fin ?_
        refine WP.seq ?_
        refine WP.reg [(0, false), (1, true)] (by kernel_rfl) ?_
        refine Dv.ldbs rfl trivial rfl Try.underlying24 rfl c24 (mem_at 0 rfl) (Nat.le_of_ble_eq_true rfl) ?_
        refine Dv.stx ([blk b352 24 [eq (.int .i64 (w64 (1 + t344))), eq (.string t363), eq (.string t346), eq (.string (⟨#[]⟩ : ByteArray)), eq (.string (⟨#[]⟩ : ByteArray)), eq (.bool false), eq (.bool a0.fOn), eq (.int .i64 (w64 (1 + t366))), eq (.int .i64 0), eq (.int .i64 t348), eq (.int .i64 t350)], blk b343 24 [eq (.int .i64 (w64 (1 + t344))), eq (.string t363), eq (.string t346), eq (.string (⟨#[]⟩ : ByteArray)), eq (.string (⟨#[]⟩ : ByteArray)), eq (.bool false), eq (.bool a0.fOn), eq (.int .i64 (w64 (1 + t366))), eq (.int .i64 0), eq (.int .i64 t348), eq (.int .i64 t350)], blk b342 24 [eq (.int .i64 a0.fKind), eq (.string a0.fRoom), eq (.string a0.fUser), eq (.string a0.fEvent), eq (.string a0.fThread), eq (.bool a0.fPrivate), eq (.bool a0.fOn), eq (.int .i64 a0.fSpan), eq (.int .i64 a0.fState), eq (.int .i64 a0.fTick), eq (.int .i64 a0.fStamp)]] ++ F) rfl trivial rfl rfl (cells_agg (ones_cons (one_eq rfl) (ones_cons (one_eq rfl) (ones_cons (one_eq rfl) (ones_cons (one_eq rfl) (ones_cons (one_eq rfl) (ones_cons (one_eq rfl) (ones_cons (one_eq rfl) (ones_cons (one_eq rfl) (ones_cons (one_eq rfl) (ones_cons (one_eq rfl) (ones_cons (one_eq rfl) ones_nil)))))))))))) Try.underlying24 c24 rfl (j := 1) rfl (Nat.le_of_ble_eq_true rfl) rfl nofun ?_
        refine .fin ?_
        obtain rfl := Gets.out H
        exact WP.retL (fun _ _ h => h) rfl () trivial (.cons (res_cells rfl Try.underlying24 rfl c24 (mem_at 1 rfl) rfl) .nil) rfl (st_sel (L := [blk b352 24 [eq (.int .i64 (w64 (1 + t344))), eq (.string t363), eq (.string t346), eq (.string (⟨#[]⟩ : ByteArray)), eq (.string (⟨#[]⟩ : ByteArray)), eq (.bool false), eq (.bool a0.fOn), eq (.int .i64 (w64 (1 + t366))), eq (.int .i64 0), eq (.int .i64 t348), eq (.int .i64 t350)], blk b343 24 [eq (.int .i64 (w64 (1 + t344))), eq (.string t363), eq (.string t346), eq (.string (⟨#[]⟩ : ByteArray)), eq (.string (⟨#[]⟩ : ByteArray)), eq (.bool false), eq (.bool a0.fOn), eq (.int .i64 (w64 (1 + t366))), eq (.int .i64 0), eq (.int .i64 t348), eq (.int .i64 t350)], blk b342 24 [eq (.int .i64 a0.fKind), eq (.string a0.fRoom), eq (.string a0.fUser), eq (.string a0.fEvent), eq (.string a0.fThread), eq (.bool a0.fPrivate), eq (.bool a0.fOn), eq (.int .i64 a0.fSpan), eq (.int .i64 a0.fState), eq (.int .i64 a0.fTick), eq (.int .i64 a0.fStamp)]]) (F := F) [0, 1, 2] 3 rfl rfl rfl)
      · replace H := Gets.cf H c365
        refine WP.skip ?_
        refine WP.seq ?_
        refine WP.reg [(0, false), (1, true)] (by kernel_rfl) ?_
        refine Dv.ldbs rfl trivial rfl Try.underlying24 rfl c24 (mem_at 0 rfl) (Nat.le_of_ble_eq_true rfl) ?_
        refine Dv.stx ([blk b352 24 [eq (.int .i64 (w64 (1 + t344))), eq (.string t363), eq (.string t346), eq (.string (⟨#[]⟩ : ByteArray)), eq (.string (⟨#[]⟩ : ByteArray)), eq (.bool false), eq (.bool a0.fOn), eq (.int .i64 0), eq (.int .i64 0), eq (.int .i64 t348), eq (.int .i64 t350)], blk b343 24 [eq (.int .i64 (w64 (1 + t344))), eq (.string t363), eq (.string t346), eq (.string (⟨#[]⟩ : ByteArray)), eq (.string (⟨#[]⟩ : ByteArray)), eq (.bool false), eq (.bool a0.fOn), eq (.int .i64 0), eq (.int .i64 0), eq (.int .i64 t348), eq (.int .i64 t350)], blk b342 24 [eq (.int .i64 a0.fKind), eq (.string a0.fRoom), eq (.string a0.fUser), eq (.string a0.fEvent), eq (.string a0.fThread), eq (.bool a0.fPrivate), eq (.bool a0.fOn), eq (.int .i64 a0.fSpan), eq (.int .i64 a0.fState), eq (.int .i64 a0.fTick), eq (.int .i64 a0.fStamp)]] ++ F) rfl trivial rfl rfl (cells_agg (ones_cons (one_eq rfl) (ones_cons (one_eq rfl) (ones_cons (one_eq rfl) (ones_cons (one_eq rfl) (ones_cons (one_eq rfl) (ones_cons (one_eq rfl) (ones_cons (one_eq rfl) (ones_cons (one_eq rfl) (ones_cons (one_eq rfl) (ones_cons (one_eq rfl) (ones_cons (one_eq rfl) ones_nil)))))))))))) Try.underlying24 c24 rfl (j := 1) rfl (Nat.le_of_ble_eq_true rfl) rfl nofun ?_
        refine .fin ?_
        obtain rfl := Gets.out H
        exact WP.retL (fun _ _ h => h) rfl () trivial (.cons (res_cells rfl Try.underlying24 rfl c24 (mem_at 1 rfl) rfl) .nil) rfl (st_sel (L := [blk b352 24 [eq (.int .i64 (w64 (1 + t344))), eq (.string t363), eq (.string t346), eq (.string (⟨#[]⟩ : ByteArray)), eq (.string (⟨#[]⟩ : ByteArray)), eq (.bool false), eq (.bool a0.fOn), eq (.int .i64 0), eq (.int .i64 0), eq (.int .i64 t348), eq (.int .i64 t350)], blk b343 24 [eq (.int .i64 (w64 (1 + t344))), eq (.string t363), eq (.string t346), eq (.string (⟨#[]⟩ : ByteArray)), eq (.string (⟨#[]⟩ : ByteArray)), eq (.bool false), eq (.bool a0.fOn), eq (.int .i64 0), eq (.int .i64 0), eq (.int .i64 t348), eq (.int .i64 t350)], blk b342 24 [eq (.int .i64 a0.fKind), eq (.string a0.fRoom), eq (.string a0.fUser), eq (.string a0.fEvent), eq (.string a0.fThread), eq (.bool a0.fPrivate), eq (.bool a0.fOn), eq (.int .i64 a0.fSpan), eq (.int .i64 a0.fState), eq (.int .i64 a0.fTick), eq (.int .i64 a0.fStamp)]]) (F := F) [0, 1, 2] 3 rfl rfl rfl)
    · replace H := Gets.cf H c362
      refine WP.reg [(0, false), (1, false), (2, false), (3, false), (4, true)] (by kernel_rfl) ?_
      refine Dv.fab rfl trivial rfl Try.underlying24 rfl Try.underlying3 c3 (by decide) ?_
      refine Dv.ldb rfl trivial rfl Try.underlying3 rfl (mem_at 2 rfl) rfl ?_
      obtain ⟨t368, h369, H⟩ := Gets.call H
      refine Dv.call rfl trivial cal13 rfl (concourseref01_Around.c h369) ?_
      refine Dv.fab rfl trivial rfl Try.underlying24 rfl Try.underlying3 c3 (by decide) ?_
      refine Dv.stx ([blk b352 24 [eq (.int .i64 (w64 (1 + t344))), eq (.string (⟨#[]⟩ : ByteArray)), eq (.string t346), eq (.string (⟨#[]⟩ : ByteArray)), eq (.string (⟨#[]⟩ : ByteArray)), eq (.bool false), eq (.bool false), eq (.int .i64 0), eq (.int .i64 t368), eq (.int .i64 t348), eq (.int .i64 t350)], blk b343 24 [eq (.int .i64 0), eq (.string (⟨#[]⟩ : ByteArray)), eq (.string (⟨#[]⟩ : ByteArray)), eq (.string (⟨#[]⟩ : ByteArray)), eq (.string (⟨#[]⟩ : ByteArray)), eq (.bool false), eq (.bool false), eq (.int .i64 0), eq (.int .i64 0), eq (.int .i64 0), eq (.int .i64 0)], blk b342 24 [eq (.int .i64 a0.fKind), eq (.string a0.fRoom), eq (.string a0.fUser), eq (.string a0.fEvent), eq (.string a0.fThread), eq (.bool a0.fPrivate), eq (.bool a0.fOn), eq (.int .i64 a0.fSpan), eq (.int .i64 a0.fState), eq (.int .i64 a0.fTick), eq (.int .i64 a0.fStamp)]] ++ F) rfl trivial rfl rfl (cells_one (one_eq rfl)) Try.underlying3 c3 rfl (j := 0) rfl (Nat.le_of_ble_eq_true rfl) rfl nofun ?_
      refine .fin ?_
      refine WP.seq ?_
      refine WP.reg [(0, false), (1, true)] (by kernel_rfl) ?_
      refine Dv.ldbs rfl trivial rfl Try.underlying24 rfl c24 (mem_at 0 rfl) (Nat.le_of_ble_eq_true rfl) ?_
      refine Dv.stx ([blk b352 24 [eq (.int .i64 (w64 (1 + t344))), eq (.string (⟨#[]⟩ : ByteArray)), eq (.string t346), eq (.string (⟨#[]⟩ : ByteArray)), eq (.string (⟨#[]⟩ : ByteArray)), eq (.bool false), eq (.bool false), eq (.int .i64 0), eq (.int .i64 t368), eq (.int .i64 t348), eq (.int .i64 t350)], blk b343 24 [eq (.int .i64 (w64 (1 + t344))), eq (.string (⟨#[]⟩ : ByteArray)), eq (.string t346), eq (.string (⟨#[]⟩ : ByteArray)), eq (.string (⟨#[]⟩ : ByteArray)), eq (.bool false), eq (.bool false), eq (.int .i64 0), eq (.int .i64 t368), eq (.int .i64 t348), eq (.int .i64 t350)], blk b342 24 [eq (.int .i64 a0.fKind), eq (.string a0.fRoom), eq (.string a0.fUser), eq (.string a0.fEvent), eq (.string a0.fThread), eq (.bool a0.fPrivate), eq (.bool a0.fOn), eq (.int .i64 a0.fSpan), eq (.int .i64 a0.fState), eq (.int .i64 a0.fTick), eq (.int .i64 a0.fStamp)]] ++ F) rfl trivial rfl rfl (cells_agg (ones_cons (one_eq rfl) (ones_cons (one_eq rfl) (ones_cons (one_eq rfl) (ones_cons (one_eq rfl) (ones_cons (one_eq rfl) (ones_cons (one_eq rfl) (ones_cons (one_eq rfl) (ones_cons (one_eq rfl) (ones_cons (one_eq rfl) (ones_cons (one_eq rfl) (ones_cons (one_eq rfl) ones_nil)))))))))))) Try.underlying24 c24 rfl (j := 1) rfl (Nat.le_of_ble_eq_true rfl) rfl nofun ?_
      refine .fin ?_
      obtain rfl := Gets.out H
      exact WP.retL (fun _ _ h => h) rfl () trivial (.cons (res_cells rfl Try.underlying24 rfl c24 (mem_at 1 rfl) rfl) .nil) rfl (st_sel (L := [blk b352 24 [eq (.int .i64 (w64 (1 + t344))), eq (.string (⟨#[]⟩ : ByteArray)), eq (.string t346), eq (.string (⟨#[]⟩ : ByteArray)), eq (.string (⟨#[]⟩ : ByteArray)), eq (.bool false), eq (.bool false), eq (.int .i64 0), eq (.int .i64 t368), eq (.int .i64 t348), eq (.int .i64 t350)], blk b343 24 [eq (.int .i64 (w64 (1 + t344))), eq (.string (⟨#[]⟩ : ByteArray)), eq (.string t346), eq (.string (⟨#[]⟩ : ByteArray)), eq (.string (⟨#[]⟩ : ByteArray)), eq (.bool false), eq (.bool false), eq (.int .i64 0), eq (.int .i64 t368), eq (.int .i64 t348), eq (.int .i64 t350)], blk b342 24 [eq (.int .i64 a0.fKind), eq (.string a0.fRoom), eq (.string a0.fUser), eq (.string a0.fEvent), eq (.string a0.fThread), eq (.bool a0.fPrivate), eq (.bool a0.fOn), eq (.int .i64 a0.fSpan), eq (.int .i64 a0.fState), eq (.int .i64 a0.fTick), eq (.int .i64 a0.fStamp)]]) (F := F) [0, 1, 2] 3 rfl rfl rfl)
theorem concourseref15_Made.c {k : Nat} {a0 : Edu} {r : Edu} (h : concourseref15_Made.f k a0 = some r) : Pt Try.prog 7 [agg (Edu.enc a0)] (agg (Edu.enc r)) := by
  unfold concourseref15_Made.f at h
  refine (Tr.body Try.func7 (c := _) rfl Try.ntmps7 (Nat.le_of_ble_eq_true rfl) fun R0 F => ?_).pt
  replace h := Gets.of h
  have H := h
  clear h
  refine WP.seq ?_
  refine WP.reg [(0, true), (1, true)] (by kernel_rfl) ?_
  refine Dv.box rfl trivial rfl (cells_agg (Edu.K.one _)) nofun (fun b370 => ?_)
  refine Dv.alloc (z := .agg #[.int .i64 0, .string ⟨#[]⟩, .string ⟨#[]⟩, .string ⟨#[]⟩, .string ⟨#[]⟩, .bool false, .bool false, .int .i64 0, .int .i64 0, .int .i64 0, .int .i64 0]) (qs := [eq (.int .i64 0), eq (.string (⟨#[]⟩ : ByteArray)), eq (.string (⟨#[]⟩ : ByteArray)), eq (.string (⟨#[]⟩ : ByteArray)), eq (.string (⟨#[]⟩ : ByteArray)), eq (.bool false), eq (.bool false), eq (.int .i64 0), eq (.int .i64 0), eq (.int .i64 0), eq (.int .i64 0)]) rfl trivial z24 rfl nofun (fun b371 => ?_)
  refine .fin ?_
  refine WP.seq ?_
  refine WP.reg [(0, false), (1, true)] (by kernel_rfl) ?_
  refine Dv.fab rfl trivial rfl Try.underlying24 rfl Try.underlying3 c3 (by decide) ?_
  refine Dv.stx ([blk b371 24 [eq (.int .i64 0), eq (.string (⟨#[]⟩ : ByteArray)), eq (.string (⟨#[]⟩ : ByteArray)), eq (.string (⟨#[]⟩ : ByteArray)), eq (.string (⟨#[]⟩ : ByteArray)), eq (.bool false), eq (.bool false), eq (.int .i64 0), eq (.int .i64 0), eq (.int .i64 0), eq (.int .i64 0)], blk b370 24 [eq (.int .i64 2), eq (.string a0.fRoom), eq (.string a0.fUser), eq (.string a0.fEvent), eq (.string a0.fThread), eq (.bool a0.fPrivate), eq (.bool a0.fOn), eq (.int .i64 a0.fSpan), eq (.int .i64 a0.fState), eq (.int .i64 a0.fTick), eq (.int .i64 a0.fStamp)]] ++ F) rfl trivial rfl rfl (cells_one (one_eq rfl)) Try.underlying3 c3 rfl (j := 1) rfl (Nat.le_of_ble_eq_true rfl) rfl nofun ?_
  refine .fin ?_
  refine WP.seq ?_
  refine WP.reg [(0, false), (1, false), (2, true)] (by kernel_rfl) ?_
  refine Dv.ldbs rfl trivial rfl Try.underlying24 rfl c24 (mem_at 1 rfl) (Nat.le_of_ble_eq_true rfl) ?_
  obtain ⟨t372, h373, H⟩ := Gets.call H
  refine Dv.call rfl trivial cal18 rfl (concourseref03_Good.c h373) ?_
  refine Dv.stx ([blk b371 24 [eq (.int .i64 t372.fKind), eq (.string t372.fRoom), eq (.string t372.fUser), eq (.string t372.fEvent), eq (.string t372.fThread), eq (.bool t372.fPrivate), eq (.bool t372.fOn), eq (.int .i64 t372.fSpan), eq (.int .i64 t372.fState), eq (.int .i64 t372.fTick), eq (.int .i64 t372.fStamp)], blk b370 24 [eq (.int .i64 2), eq (.string a0.fRoom), eq (.string a0.fUser), eq (.string a0.fEvent), eq (.string a0.fThread), eq (.bool a0.fPrivate), eq (.bool a0.fOn), eq (.int .i64 a0.fSpan), eq (.int .i64 a0.fState), eq (.int .i64 a0.fTick), eq (.int .i64 a0.fStamp)]] ++ F) rfl trivial rfl rfl (cells_agg (Edu.K.one _)) Try.underlying24 c24 rfl (j := 0) rfl (Nat.le_of_ble_eq_true rfl) rfl nofun ?_
  refine .fin ?_
  obtain rfl := Gets.out H
  exact WP.retL (fun _ _ h => h) rfl () trivial (.cons (res_cells rfl Try.underlying24 rfl c24 (mem_at 0 rfl) rfl) .nil) rfl (st_sel (L := [blk b371 24 [eq (.int .i64 t372.fKind), eq (.string t372.fRoom), eq (.string t372.fUser), eq (.string t372.fEvent), eq (.string t372.fThread), eq (.bool t372.fPrivate), eq (.bool t372.fOn), eq (.int .i64 t372.fSpan), eq (.int .i64 t372.fState), eq (.int .i64 t372.fTick), eq (.int .i64 t372.fStamp)], blk b370 24 [eq (.int .i64 2), eq (.string a0.fRoom), eq (.string a0.fUser), eq (.string a0.fEvent), eq (.string a0.fThread), eq (.bool a0.fPrivate), eq (.bool a0.fOn), eq (.int .i64 a0.fSpan), eq (.int .i64 a0.fState), eq (.int .i64 a0.fTick), eq (.int .i64 a0.fStamp)]]) (F := F) [0, 1] 2 rfl rfl rfl)
theorem edu_asks_1.c {a0 : Int} {a1 : Int} {a2 : Int} {r : Bool} (h : edu_asks_1.f a0 a1 a2 = some r) : Pt Try.prog 66 [eq (.int .i64 a0), eq (.int .i64 a1), eq (.int .i64 a2)] (eq (.bool r)) := by
  unfold edu_asks_1.f at h
  refine (Tr.body Try.func66 (c := _) rfl Try.ntmps66 (Nat.le_of_ble_eq_true rfl) fun R0 F => ?_).pt
  replace h := Gets.of h
  have H := h
  clear h
  refine WP.seq ?_
  refine WP.reg [(0, false)] (by kernel_rfl) ?_
  refine Dv.asg rfl trivial rfl ?_
  refine .fin ?_
  refine WP.seq ?_
  refine WP.reg [(0, false), (1, false), (2, false), (3, false), (4, false), (5, false), (6, false), (7, false), (8, false)] (by kernel_rfl) ?_
  refine Dv.mv rfl trivial rfl ?_
  refine Dv.mv rfl trivial rfl ?_
  refine Dv.bin rfl trivial rfl rfl (fun _ => run_ge) ?_
  refine Dv.mv rfl trivial rfl ?_
  cases c374 : decide (a1 ≤ a0)
  · replace H := Gets.cf H c374
    refine Dv.skip rfl ⟨_, _, rfl, rfl, .inl rfl⟩ ?_
    refine Dv.skip rfl ⟨_, _, rfl, rfl, .inl rfl⟩ ?_
    refine Dv.skip rfl ⟨_, _, rfl, rfl, .inl rfl⟩ ?_
    refine Dv.pickF rfl trivial rfl rfl ?_
    refine Dv.asg rfl trivial rfl ?_
    refine .fin ?_
    obtain rfl := Gets.out H
    exact WP.retL (fun _ _ h => h) rfl () trivial (.cons (res_tmp rfl) .nil) rfl (st_sel (L := []) (F := F) [] 0 rfl rfl rfl)
  · replace H := Gets.ct H c374
    refine Dv.mv rfl ⟨_, _, rfl, rfl, rfl⟩ rfl ?_
    refine Dv.mv rfl ⟨_, _, rfl, rfl, rfl⟩ rfl ?_
    refine Dv.bin rfl ⟨_, _, rfl, rfl, rfl⟩ rfl rfl (fun _ => run_le) ?_
    refine Dv.pickT rfl trivial rfl rfl ?_
    refine Dv.asg rfl trivial rfl ?_
    refine .fin ?_
    obtain rfl := Gets.out H
    exact WP.retL (fun _ _ h => h) rfl () trivial (.cons (res_tmp rfl) .nil) rfl (st_sel (L := []) (F := F) [] 0 rfl rfl rfl)
theorem edu_asks_2.c {a0 : Edu} {r : Bool} (h : edu_asks_2.f a0 = some r) : Pt Try.prog 67 [agg (Edu.enc a0)] (eq (.bool r)) := by
  unfold edu_asks_2.f at h
  refine (Tr.body Try.func67 (c := _) rfl Try.ntmps67 (Nat.le_of_ble_eq_true rfl) fun R0 F => ?_).pt
  replace h := Gets.of h
  have H := h
  clear h
  refine WP.seq ?_
  refine WP.reg [(0, true), (1, false)] (by kernel_rfl) ?_
  refine Dv.box rfl trivial rfl (cells_agg (Edu.K.one _)) nofun (fun b375 => ?_)
  refine Dv.asg rfl trivial rfl ?_
  refine .fin ?_
  refine WP.seq ?_
  refine WP.reg [(0, false)] (by kernel_rfl) ?_
  refine Dv.asg rfl trivial rfl ?_
  refine .fin ?_
  obtain rfl := Gets.out H
  exact WP.retL (fun _ _ h => h) rfl () trivial (.cons (res_tmp rfl) .nil) rfl (st_sel (L := [blk b375 24 [eq (.int .i64 a0.fKind), eq (.string a0.fRoom), eq (.string a0.fUser), eq (.string a0.fEvent), eq (.string a0.fThread), eq (.bool a0.fPrivate), eq (.bool a0.fOn), eq (.int .i64 a0.fSpan), eq (.int .i64 a0.fState), eq (.int .i64 a0.fTick), eq (.int .i64 a0.fStamp)]]) (F := F) [0] 1 rfl rfl rfl)
theorem stringslite_HasPrefix.c {a0 : ByteArray} {a1 : ByteArray} {r : Bool} (h : stringslite_HasPrefix.f a0 a1 = some r) : Pt Try.prog 89 [eq (.string a0), eq (.string a1)] (eq (.bool r)) := by
  unfold stringslite_HasPrefix.f at h
  refine (Tr.body Try.func89 (c := _) rfl Try.ntmps89 (Nat.le_of_ble_eq_true rfl) fun R0 F => ?_).pt
  replace h := Gets.of h
  have H := h
  clear h
  refine WP.seq ?_
  refine WP.reg [(0, false)] (by kernel_rfl) ?_
  refine Dv.asg rfl trivial rfl ?_
  refine .fin ?_
  refine WP.seq ?_
  refine WP.reg [(0, false), (1, false), (2, false), (3, false), (4, false), (5, false), (6, false), (7, false), (8, false), (9, false), (10, false), (11, false), (12, false), (13, false)] (by kernel_rfl) ?_
  refine Dv.mv rfl trivial rfl ?_
  refine Dv.lens rfl trivial rfl Try.underlying9 ?_
  refine Dv.mv rfl trivial rfl ?_
  refine Dv.lens rfl trivial rfl Try.underlying9 ?_
  refine Dv.bin rfl trivial rfl rfl (fun _ => run_ge) ?_
  refine Dv.mv rfl trivial rfl ?_
  cases c376 : decide ((a1.size : Int) ≤ (a0.size : Int))
  · replace H := Gets.cf H c376
    refine Dv.skip rfl ⟨_, _, rfl, rfl, .inl rfl⟩ ?_
    refine Dv.skip rfl ⟨_, _, rfl, rfl, .inl rfl⟩ ?_
    refine Dv.skip rfl ⟨_, _, rfl, rfl, .inl rfl⟩ ?_
    refine Dv.skip rfl ⟨_, _, rfl, rfl, .inl rfl⟩ ?_
    refine Dv.skip rfl ⟨_, _, rfl, rfl, .inl rfl⟩ ?_
    refine Dv.skip rfl ⟨_, _, rfl, rfl, .inl rfl⟩ ?_
    refine Dv.pickF rfl trivial rfl rfl ?_
    refine Dv.asg rfl trivial rfl ?_
    refine .fin ?_
    obtain rfl := Gets.out H
    exact WP.retL (fun _ _ h => h) rfl () trivial (.cons (res_tmp rfl) .nil) rfl (st_sel (L := []) (F := F) [] 0 rfl rfl rfl)
  · replace H := Gets.ct H c376
    refine Dv.mv rfl ⟨_, _, rfl, rfl, rfl⟩ rfl ?_
    refine Dv.mv rfl ⟨_, _, rfl, rfl, rfl⟩ rfl ?_
    refine Dv.lens rfl ⟨_, _, rfl, rfl, rfl⟩ rfl Try.underlying9 ?_
    obtain ⟨g377, H⟩ := Gets.grd H
    refine Dv.sss rfl ⟨_, _, rfl, rfl, rfl⟩ rfl Try.underlying9 bdE_none (bdE_some rfl g377.1) g377.2.1 g377.2.2 ?_
    refine Dv.mv rfl ⟨_, _, rfl, rfl, rfl⟩ rfl ?_
    refine Dv.bin rfl ⟨_, _, rfl, rfl, rfl⟩ rfl rfl (fun _ => run_seq) ?_
    refine Dv.pickT rfl trivial rfl rfl ?_
    refine Dv.asg rfl trivial rfl ?_
    refine .fin ?_
    obtain rfl := Gets.out H
    exact WP.retL (fun _ _ h => h) rfl () trivial (.cons (res_tmp rfl) .nil) rfl (st_sel (L := []) (F := F) [] 0 rfl rfl rfl)
theorem stringslite_CutPrefix.c {a0 : ByteArray} {a1 : ByteArray} {r : ByteArray × Bool} (h : stringslite_CutPrefix.f a0 a1 = some r) : Pt Try.prog 85 [eq (.string a0), eq (.string a1)] (tup [eq (.string r.1), eq (.bool r.2)]) := by
  unfold stringslite_CutPrefix.f at h
  refine (Tr.body Try.func85 (c := _) rfl Try.ntmps85 (Nat.le_of_ble_eq_true rfl) fun R0 F => ?_).pt
  replace h := Gets.of h
  have H := h
  clear h
  refine WP.seq ?_
  refine WP.reg [(0, false), (1, false)] (by kernel_rfl) ?_
  refine Dv.asg rfl trivial rfl ?_
  refine Dv.asg rfl trivial rfl ?_
  refine .fin ?_
  refine WP.seq ?_
  refine WP.seq ?_
  refine WP.reg [(0, false), (1, false), (2, false), (3, false)] (by kernel_rfl) ?_
  refine Dv.mv rfl trivial rfl ?_
  refine Dv.mv rfl trivial rfl ?_
  obtain ⟨t378, h379, H⟩ := Gets.call H
  refine Dv.call rfl trivial cal89 rfl (stringslite_HasPrefix.c h379) ?_
  refine Dv.un rfl trivial rfl (fun _ => run_not _) ?_
  refine .fin ?_
  refine WP.cond rfl (fun c380 => ?_) (fun c380 => ?_)
  · replace H := Gets.ct H c380
    refine WP.seq ?_
    refine WP.reg [(0, false), (1, false), (2, false)] (by kernel_rfl) ?_
    refine Dv.mv rfl trivial rfl ?_
    refine Dv.asg rfl trivial rfl ?_
    refine Dv.asg rfl trivial rfl ?_
    refine .fin ?_
    obtain rfl := Gets.out H
    exact WP.retL (fun _ _ h => h) rfl () trivial (.cons (res_tmp rfl) (.cons (res_tmp rfl) .nil)) rfl (st_sel (L := []) (F := F) [] 0 rfl rfl rfl)
  · replace H := Gets.cf H c380
    refine WP.skip ?_
    refine WP.seq ?_
    refine WP.reg [(0, false), (1, false), (2, false), (3, false), (4, false), (5, false)] (by kernel_rfl) ?_
    refine Dv.mv rfl trivial rfl ?_
    refine Dv.mv rfl trivial rfl ?_
    refine Dv.lens rfl trivial rfl Try.underlying9 ?_
    obtain ⟨g381, H⟩ := Gets.grd H
    refine Dv.sss rfl trivial rfl Try.underlying9 (bdE_some rfl g381.1) bdE_none g381.2.1 g381.2.2 ?_
    refine Dv.asg rfl trivial rfl ?_
    refine Dv.asg rfl trivial rfl ?_
    refine .fin ?_
    obtain rfl := Gets.out H
    exact WP.retL (fun _ _ h => h) rfl () trivial (.cons (res_tmp rfl) (.cons (res_tmp rfl) .nil)) rfl (st_sel (L := []) (F := F) [] 0 rfl rfl rfl)
theorem strings_CutPrefix.c {a0 : ByteArray} {a1 : ByteArray} {r : ByteArray × Bool} (h : strings_CutPrefix.f a0 a1 = some r) : Pt Try.prog 81 [eq (.string a0), eq (.string a1)] (tup [eq (.string r.1), eq (.bool r.2)]) := by
  unfold strings_CutPrefix.f at h
  refine (Tr.body Try.func81 (c := _) rfl Try.ntmps81 (Nat.le_of_ble_eq_true rfl) fun R0 F => ?_).pt
  replace h := Gets.of h
  have H := h
  clear h
  refine WP.seq ?_
  refine WP.reg [(0, false), (1, false)] (by kernel_rfl) ?_
  refine Dv.asg rfl trivial rfl ?_
  refine Dv.asg rfl trivial rfl ?_
  refine .fin ?_
  refine WP.seq ?_
  refine WP.reg [(0, false), (1, false), (2, false), (3, false), (4, false), (5, false), (6, false)] (by kernel_rfl) ?_
  refine Dv.mv rfl trivial rfl ?_
  refine Dv.mv rfl trivial rfl ?_
  obtain ⟨t382, h383, H⟩ := Gets.call H
  refine Dv.call rfl trivial cal85 rfl (stringslite_CutPrefix.c h383) ?_
  refine Dv.ext rfl trivial rfl rfl ?_
  refine Dv.ext rfl trivial rfl rfl ?_
  refine Dv.asg rfl trivial rfl ?_
  refine Dv.asg rfl trivial rfl ?_
  refine .fin ?_
  obtain rfl := Gets.out H
  exact WP.retL (fun _ _ h => h) rfl () trivial (.cons (res_tmp rfl) (.cons (res_tmp rfl) .nil)) rfl (st_sel (L := []) (F := F) [] 0 rfl rfl rfl)
theorem name_small.c {a0 : Int} {r : Bool} (h : name_small.f a0 = some r) : Pt Try.prog 88 [eq (.int .u8 a0)] (eq (.bool r)) := by
  unfold name_small.f at h
  refine (Tr.body Try.func88 (c := _) rfl Try.ntmps88 (Nat.le_of_ble_eq_true rfl) fun R0 F => ?_).pt
  replace h := Gets.of h
  have H := h
  clear h
  refine WP.seq ?_
  refine WP.reg [(0, false)] (by kernel_rfl) ?_
  refine Dv.asg rfl trivial rfl ?_
  refine .fin ?_
  refine WP.seq ?_
  refine WP.reg [(0, false), (1, false), (2, false), (3, false), (4, false), (5, false), (6, false), (7, false), (8, false), (9, false), (10, false), (11, false), (12, false), (13, false), (14, false)] (by kernel_rfl) ?_
  refine Dv.mv rfl trivial rfl ?_
  refine Dv.bin rfl trivial rfl rfl (fun _ => run_ge) ?_
  refine Dv.mv rfl trivial rfl ?_
  cases c384 : decide (97 ≤ a0)
  · replace H := Gets.cf H c384
    refine Dv.skip rfl ⟨_, _, rfl, rfl, .inl rfl⟩ ?_
    refine Dv.skip rfl ⟨_, _, rfl, rfl, .inl rfl⟩ ?_
    refine Dv.pickF rfl trivial rfl rfl ?_
    refine Dv.mv rfl trivial rfl ?_
    refine Dv.mv rfl ⟨_, _, rfl, rfl, rfl⟩ rfl ?_
    refine Dv.bin rfl ⟨_, _, rfl, rfl, rfl⟩ rfl rfl (fun _ => run_ge) ?_
    refine Dv.mv rfl ⟨_, _, rfl, rfl, rfl⟩ rfl ?_
    cases c387 : decide (48 ≤ a0)
    · replace H := Gets.cf H c387
      refine Dv.skip rfl ⟨_, _, rfl, rfl, .inl rfl⟩ ?_
      refine Dv.skip rfl ⟨_, _, rfl, rfl, .inl rfl⟩ ?_
      refine Dv.pickF rfl ⟨_, _, rfl, rfl, rfl⟩ rfl rfl ?_
      refine Dv.pickF rfl trivial rfl rfl ?_
      refine Dv.asg rfl trivial rfl ?_
      refine .fin ?_
      obtain rfl := Gets.out H
      exact WP.retL (fun _ _ h => h) rfl () trivial (.cons (res_tmp rfl) .nil) rfl (st_sel (L := []) (F := F) [] 0 rfl rfl rfl)
    · replace H := Gets.ct H c387
      refine Dv.mv rfl ⟨_, _, rfl, rfl, rfl⟩ rfl ?_
      refine Dv.bin rfl ⟨_, _, rfl, rfl, rfl⟩ rfl rfl (fun _ => run_le) ?_
      refine Dv.pickT rfl ⟨_, _, rfl, rfl, rfl⟩ rfl rfl ?_
      refine Dv.pickF rfl trivial rfl rfl ?_
      refine Dv.asg rfl trivial rfl ?_
      refine .fin ?_
      obtain rfl := Gets.out H
      exact WP.retL (fun _ _ h => h) rfl () trivial (.cons (res_tmp rfl) .nil) rfl (st_sel (L := []) (F := F) [] 0 rfl rfl rfl)
  · replace H := Gets.ct H c384
    refine Dv.mv rfl ⟨_, _, rfl, rfl, rfl⟩ rfl ?_
    refine Dv.bin rfl ⟨_, _, rfl, rfl, rfl⟩ rfl rfl (fun _ => run_le) ?_
    refine Dv.pickT rfl trivial rfl rfl ?_
    refine Dv.mv rfl trivial rfl ?_
    cases c385 : decide (a0 ≤ 122)
    · replace H := Gets.cf H c385
      refine Dv.mv rfl ⟨_, _, rfl, rfl, rfl⟩ rfl ?_
      refine Dv.bin rfl ⟨_, _, rfl, rfl, rfl⟩ rfl rfl (fun _ => run_ge) ?_
      refine Dv.mv rfl ⟨_, _, rfl, rfl, rfl⟩ rfl ?_
      cases c386 : decide (48 ≤ a0)
      · replace H := Gets.cf H c386
        refine Dv.skip rfl ⟨_, _, rfl, rfl, .inl rfl⟩ ?_
        refine Dv.skip rfl ⟨_, _, rfl, rfl, .inl rfl⟩ ?_
        refine Dv.pickF rfl ⟨_, _, rfl, rfl, rfl⟩ rfl rfl ?_
        refine Dv.pickF rfl trivial rfl rfl ?_
        refine Dv.asg rfl trivial rfl ?_
        refine .fin ?_
        obtain rfl := Gets.out H
        exact WP.retL (fun _ _ h => h) rfl () trivial (.cons (res_tmp rfl) .nil) rfl (st_sel (L := []) (F := F) [] 0 rfl rfl rfl)
      · replace H := Gets.ct H c386
        refine Dv.mv rfl ⟨_, _, rfl, rfl, rfl⟩ rfl ?_
        refine Dv.bin rfl ⟨_, _, rfl, rfl, rfl⟩ rfl rfl (fun _ => run_le) ?_
        refine Dv.pickT rfl ⟨_, _, rfl, rfl, rfl⟩ rfl rfl ?_
        refine Dv.pickF rfl trivial rfl rfl ?_
        refine Dv.asg rfl trivial rfl ?_
        refine .fin ?_
        obtain rfl := Gets.out H
        exact WP.retL (fun _ _ h => h) rfl () trivial (.cons (res_tmp rfl) .nil) rfl (st_sel (L := []) (F := F) [] 0 rfl rfl rfl)
    · replace H := Gets.ct H c385
      refine Dv.skip rfl ⟨_, _, rfl, rfl, .inl rfl⟩ ?_
      refine Dv.skip rfl ⟨_, _, rfl, rfl, .inl rfl⟩ ?_
      refine Dv.skip rfl ⟨_, _, rfl, rfl, .inl rfl⟩ ?_
      refine Dv.skip rfl ⟨_, _, rfl, rfl, .inr rfl⟩ ?_
      refine Dv.skip rfl ⟨_, _, rfl, rfl, .inr rfl⟩ ?_
      refine Dv.skip rfl ⟨_, _, rfl, rfl, .inl rfl⟩ ?_
      refine Dv.pickT rfl trivial rfl rfl ?_
      refine Dv.asg rfl trivial rfl ?_
      refine .fin ?_
      obtain rfl := Gets.out H
      exact WP.retL (fun _ _ h => h) rfl () trivial (.cons (res_tmp rfl) .nil) rfl (st_sel (L := []) (F := F) [] 0 rfl rfl rfl)
theorem stringslite_IndexByte.c {a0 : ByteArray} {a1 : Int} {r : Int} (h : stringslite_IndexByte.f a0 a1 = some r) : Pt Try.prog 93 [eq (.string a0), eq (.int .u8 a1)] (eq (.int .i64 r)) := by
  unfold stringslite_IndexByte.f at h
  refine (Tr.body Try.func93 (c := _) rfl Try.ntmps93 (Nat.le_of_ble_eq_true rfl) fun R0 F => ?_).pt
  replace h := Gets.of h
  have H := h
  clear h
  refine WP.seq ?_
  refine WP.reg [(0, false)] (by kernel_rfl) ?_
  refine Dv.asg rfl trivial rfl ?_
  refine .fin ?_
  refine WP.seq ?_
  refine WP.reg [(0, false), (1, false), (2, false), (3, false)] (by kernel_rfl) ?_
  refine Dv.mv rfl trivial rfl ?_
  refine Dv.mv rfl trivial rfl ?_
  refine Dv.cext rfl trivial rfl (xt_index Try.func97 (by kernel_rfl) rfl xf97 xg97) ?_
  refine Dv.asg rfl trivial rfl ?_
  refine .fin ?_
  obtain rfl := Gets.out H
  exact WP.retL (fun _ _ h => h) rfl () trivial (.cons (res_tmp rfl) .nil) rfl (st_sel (L := []) (F := F) [] 0 rfl rfl rfl)
theorem strings_IndexByte.c {a0 : ByteArray} {a1 : Int} {r : Int} (h : strings_IndexByte.f a0 a1 = some r) : Pt Try.prog 91 [eq (.string a0), eq (.int .u8 a1)] (eq (.int .i64 r)) := by
  unfold strings_IndexByte.f at h
  refine (Tr.body Try.func91 (c := _) rfl Try.ntmps91 (Nat.le_of_ble_eq_true rfl) fun R0 F => ?_).pt
  replace h := Gets.of h
  have H := h
  clear h
  refine WP.seq ?_
  refine WP.reg [(0, false)] (by kernel_rfl) ?_
  refine Dv.asg rfl trivial rfl ?_
  refine .fin ?_
  refine WP.seq ?_
  refine WP.reg [(0, false), (1, false), (2, false), (3, false)] (by kernel_rfl) ?_
  refine Dv.mv rfl trivial rfl ?_
  refine Dv.mv rfl trivial rfl ?_
  obtain ⟨t388, h389, H⟩ := Gets.call H
  refine Dv.call rfl trivial cal93 rfl (stringslite_IndexByte.c h389) ?_
  refine Dv.asg rfl trivial rfl ?_
  refine .fin ?_
  obtain rfl := Gets.out H
  exact WP.retL (fun _ _ h => h) rfl () trivial (.cons (res_tmp rfl) .nil) rfl (st_sel (L := []) (F := F) [] 0 rfl rfl rfl)
theorem name_among_1.c {a0 : Int} {c0 : ByteArray} {r : Bool} (h : name_among_1.f a0 c0 = some r) : Pt Try.prog 90 [eq (.int .u8 a0), rp [eq (.string c0)]] (eq (.bool r)) := by
  unfold name_among_1.f at h
  refine (Tr.body Try.func90 (c := _) rfl Try.ntmps90 (Nat.le_of_ble_eq_true rfl) fun R0 F => ?_).pt
  replace h := Gets.of h
  have H := h
  clear h
  refine WP.seq ?_
  refine WP.reg [(0, false)] (by kernel_rfl) ?_
  refine Dv.asg rfl trivial rfl ?_
  refine .fin ?_
  refine WP.seq ?_
  refine WP.reg [(0, false), (1, false), (2, false), (3, false), (4, false), (5, false), (6, false), (7, false), (8, false)] (by kernel_rfl) ?_
  refine Dv.mv rfl trivial rfl ?_
  obtain ⟨t390, h391, H⟩ := Gets.call H
  refine Dv.call rfl trivial cal88 rfl (name_small.c h391) ?_
  refine Dv.mv rfl trivial rfl ?_
  cases c392 : t390
  · replace H := Gets.cf H c392
    refine Dv.ldr rfl ⟨_, _, rfl, rfl, rfl⟩ rfl Try.underlying9 rfl rfl ?_
    refine Dv.mv rfl ⟨_, _, rfl, rfl, rfl⟩ rfl ?_
    obtain ⟨t393, h394, H⟩ := Gets.call H
    refine Dv.call rfl ⟨_, _, rfl, rfl, rfl⟩ cal91 rfl (strings_IndexByte.c h394) ?_
    refine Dv.bin rfl ⟨_, _, rfl, rfl, rfl⟩ rfl rfl (fun _ => run_ge) ?_
    refine Dv.pickF rfl trivial rfl rfl ?_
    refine Dv.asg rfl trivial rfl ?_
    refine .fin ?_
    obtain rfl := Gets.out H
    exact WP.retL (fun _ _ h => h) rfl () trivial (.cons (res_tmp rfl) .nil) rfl (st_sel (L := []) (F := F) [] 0 rfl rfl rfl)
  · replace H := Gets.ct H c392
    refine Dv.skip rfl ⟨_, _, rfl, rfl, .inl rfl⟩ ?_
    refine Dv.skip rfl ⟨_, _, rfl, rfl, .inl rfl⟩ ?_
    refine Dv.skip rfl ⟨_, _, rfl, rfl, .inl rfl⟩ ?_
    refine Dv.skip rfl ⟨_, _, rfl, rfl, .inl rfl⟩ ?_
    refine Dv.pickT rfl trivial rfl rfl ?_
    refine Dv.asg rfl trivial rfl ?_
    refine .fin ?_
    obtain rfl := Gets.out H
    exact WP.retL (fun _ _ h => h) rfl () trivial (.cons (res_tmp rfl) .nil) rfl (st_sel (L := []) (F := F) [] 0 rfl rfl rfl)
theorem name_among.c {a0 : ByteArray} {r : (Int → Option Bool)} (h : name_among.f a0 = some r) : Pt Try.prog 86 [eq (.string a0)] (fq_uint8_bool r) := by
  unfold name_among.f at h
  refine (Tr.body Try.func86 (c := _) rfl Try.ntmps86 (Nat.le_of_ble_eq_true rfl) fun R0 F => ?_).pt
  replace h := Gets.of h
  have H := h
  clear h
  refine WP.seq ?_
  refine WP.reg [(0, true), (1, false)] (by kernel_rfl) ?_
  refine Dv.box rfl trivial rfl (cells_one (one_eq rfl)) nofun (fun b395 => ?_)
  refine Dv.asg rfl trivial rfl ?_
  refine .fin ?_
  refine WP.seq ?_
  refine WP.reg [(0, false), (1, false)] (by kernel_rfl) ?_
  refine Dv.gh (gh_frzb (E' := [(0, eq (.string a0)), (1, rp [eq (.string a0)]), (2, eq .nilFunc)]) (l' := [] ++ F) 0 rfl (cve_cons rfl cv_id (cve_cons rfl cv_eq (cve_cons rfl cv_id cve_nil))) (all2_app .nil fun _ => cva_id)) (fun _ _ => ?_)
  refine Dv.mkf (Q := fqQ_uint8_bool (fun a0_ => name_among_1.f a0_ a0)) cal90 (by rintro _ _ ⟨a0_, r_, h_, rfl, rfl⟩; exact name_among_1.c h_) rfl trivial rfl rfl ?_
  refine Dv.asg rfl trivial rfl ?_
  refine .fin ?_
  obtain rfl := Gets.out H
  exact WP.retL (fun _ _ h => h) rfl () trivial (.cons (res_tmp rfl) .nil) rfl (st_sel (L := []) (F := F) [] 0 rfl rfl rfl)
theorem name_may.c {k : Nat} {a0 : ByteArray} {a1 : Int} {r : Bool} (h : name_may.f k a0 a1 = some r) : Pt Try.prog 82 [eq (.string a0), eq (.int .i64 a1)] (eq (.bool r)) := by
  unfold name_may.f at h
  refine (Tr.body Try.func82 (c := _) rfl Try.ntmps82 (Nat.le_of_ble_eq_true rfl) fun R0 F => ?_).pt
  replace h := Gets.of h
  have H := h
  clear h
  refine WP.seq ?_
  refine WP.reg [(0, false)] (by kernel_rfl) ?_
  refine Dv.asg rfl trivial rfl ?_
  refine .fin ?_
  refine WP.seq ?_
  refine WP.reg [(0, false), (1, false), (2, false), (3, false), (4, false), (5, false), (6, false)] (by kernel_rfl) ?_
  obtain ⟨t396, h397, H⟩ := Gets.call H
  refine Dv.call rfl trivial cal86 rfl (name_among.c h397) ?_
  obtain ⟨t398, h399, H⟩ := Gets.call H
  refine Dv.call rfl trivial cal86 rfl (name_among.c h399) ?_
  obtain ⟨t400, h401, H⟩ := Gets.call H
  refine Dv.call rfl trivial cal86 rfl (name_among.c h401) ?_
  refine Dv.blda (qs := [fq_uint8_bool t396, fq_uint8_bool t398, fq_uint8_bool t400]) (css := [[fq_uint8_bool t396], [fq_uint8_bool t398], [fq_uint8_bool t400]]) rfl trivial Try.underlying101 Try.underlying89 c89 z101 rfl ⟨(cells_one one_fnq), ⟨(cells_one one_fnq), ⟨(cells_one one_fnq), trivial⟩⟩⟩ rfl rfl ?_
  refine Dv.mv rfl trivial rfl ?_
  obtain ⟨g402, H⟩ := Gets.grd H
  refine Dv.ixa (Kd := fK_uint8_bool) (xs := ([t396, t398, t400] : List (Int → Option Bool))) rfl trivial rfl rfl rfl Try.underlying101 Try.underlying89 rfl c89 rfl rfl g402.1 g402.2 rfl ?_
  refine Dv.asg rfl trivial rfl ?_
  refine .fin ?_
  refine WP.seqr H id (fun p403 : Int × Bool => [(0, eq (.string a0)), (1, eq (.int .i64 a1)), (4, eq (.bool false)), (5, fq_uint8_bool (fK_uint8_bool.at ([t396, t398, t400] : List (Int → Option Bool)) a1)), (14, eq (.int .i64 (a0.size : Int))), (15, eq (.int .i64 p403.1)), (16, eq (.bool p403.2))]) (fun p403 : Int × Bool => [] ++ F) (fun p403 H => ?_) (fun H => ?_)
  · refine WP.seq ?_
    refine WP.reg [(0, false), (1, false), (2, false), (3, false), (4, false), (5, false), (6, false), (7, false)] (by kernel_rfl) ?_
    refine Dv.mv rfl trivial rfl ?_
    refine Dv.bin rfl trivial rfl rfl (fun _ => run_sne) ?_
    refine Dv.mv rfl trivial rfl ?_
    cases c404 : !decide (a0 = (⟨#[]⟩ : ByteArray))
    · replace H := Gets.cf H c404
      refine Dv.skip rfl ⟨_, _, rfl, rfl, .inl rfl⟩ ?_
      refine Dv.skip rfl ⟨_, _, rfl, rfl, .inl rfl⟩ ?_
      refine Dv.skip rfl ⟨_, _, rfl, rfl, .inl rfl⟩ ?_
      refine Dv.pickF rfl trivial rfl rfl ?_
      refine Dv.asg rfl trivial rfl ?_
      refine .fin ?_
      obtain rfl := Gets.out H
      exact WP.retL (fun _ _ h => h) rfl () trivial (.cons (res_tmp rfl) .nil) rfl (st_sel (L := []) (F := F) [] 0 rfl rfl rfl)
    · replace H := Gets.ct H c404
      refine Dv.mv rfl ⟨_, _, rfl, rfl, rfl⟩ rfl ?_
      refine Dv.lens rfl ⟨_, _, rfl, rfl, rfl⟩ rfl Try.underlying9 ?_
      refine Dv.bin rfl ⟨_, _, rfl, rfl, rfl⟩ rfl rfl (fun _ => run_le) ?_
      refine Dv.pickT rfl trivial rfl rfl ?_
      refine Dv.asg rfl trivial rfl ?_
      refine .fin ?_
      obtain rfl := Gets.out H
      exact WP.retL (fun _ _ h => h) rfl () trivial (.cons (res_tmp rfl) .nil) rfl (st_sel (L := []) (F := F) [] 0 rfl rfl rfl)
  · refine WP.seq ?_
    refine WP.reg [(0, false), (1, false), (2, false)] (by kernel_rfl) ?_
    refine Dv.mv rfl trivial rfl ?_
    refine Dv.lens rfl trivial rfl Try.underlying9 ?_
    refine Dv.mv rfl trivial rfl ?_
    refine .fin ?_
    refine WP.block ?_
    refine WP.gh (l' := fun _ => [] ++ F) (gh_of (st_selg (L := []) (F := F) [] 0 rfl rfl rfl)) (fun _ _ => ?_)
    refine WP.loopg (fun j_ (p412 : Int) => name_may.l0 k a0 a1 t396 t398 t400 j_ p412) 0 H (fun p412 => [(0, eq (.string a0)), (1, eq (.int .i64 a1)), (4, eq (.bool false)), (5, fq_uint8_bool (fK_uint8_bool.at ([t396, t398, t400] : List (Int → Option Bool)) a1)), (14, eq (.int .i64 (a0.size : Int))), (15, eq (.int .i64 p412))]) (fun p412 => [] ++ F) (weak_cons rfl (weak_cons rfl (weak_cons rfl (weak_cons rfl (weak_cons rfl (weak_cons rfl weak_nil)))))) (List.Perm.refl _) ?_
    rintro j_ x405 H
    rcases j_ with _ | j411
    · exact (Gets.no H).elim
    replace H : Gets (name_may.l0 k a0 a1 t396 t398 t400 (j411 + 1) x405) _ := H
    rw [name_may.l0] at H
    refine WP.seq ?_
    refine WP.reg [(0, false)] (by kernel_rfl) ?_
    refine Dv.bin rfl trivial rfl rfl (fun _ => run_lt) ?_
    refine .fin ?_
    refine WP.seq ?_
    refine WP.cond rfl (fun c406 => ?_) (fun c406 => ?_)
    · replace H := Gets.ct H c406
      refine WP.skip ?_
      refine WP.seq ?_
      refine WP.block ?_
      refine WP.seq ?_
      refine WP.reg [(0, false), (1, false)] (by kernel_rfl) ?_
      refine Dv.mv rfl trivial rfl ?_
      refine Dv.asg rfl trivial rfl ?_
      refine .fin ?_
      refine WP.seq ?_
      refine WP.reg [(0, false), (1, false), (2, false), (3, false), (4, false), (5, false)] (by kernel_rfl) ?_
      refine Dv.mv rfl trivial rfl ?_
      refine Dv.mv rfl trivial rfl ?_
      refine Dv.mv rfl trivial rfl ?_
      obtain ⟨g407, H⟩ := Gets.grd H
      refine Dv.ixs rfl trivial rfl rfl Try.underlying9 g407.1 g407.2 ?_
      obtain ⟨t408, h409, H⟩ := Gets.call H
      refine Dv.callq (ret := eq (.bool t408)) rfl trivial rfl rfl ⟨_, _, h409, rfl, rfl⟩ ?_
      refine Dv.un rfl trivial rfl (fun _ => run_not _) ?_
      refine .fin ?_
      refine WP.cond rfl (fun c410 => ?_) (fun c410 => ?_)
      · replace H := Gets.ct H c410
        refine WP.seq ?_
        refine WP.reg [(0, false)] (by kernel_rfl) ?_
        refine Dv.asg rfl trivial rfl ?_
        refine .fin ?_
        replace H := Gets.outr H
        obtain rfl := Gets.out H
        exact WP.retL (fun _ _ h => h) rfl () trivial (.cons (res_tmp rfl) .nil) rfl (st_sel (L := []) (F := F) [] 0 rfl rfl rfl)
      · replace H := Gets.cf H c410
        refine WP.skip ?_
        refine WP.reg [(0, false), (1, false)] (by kernel_rfl) ?_
        refine Dv.bin rfl trivial rfl rfl (fun _ => run_add) ?_
        refine Dv.mv rfl trivial rfl ?_
        refine .fin ?_
        exact Back.mk j411 (w64 (x405 + 1)) (Nat.lt_succ_self _) H (weak_cons rfl (weak_cons rfl (weak_cons rfl (weak_cons rfl (weak_cons rfl (weak_cons rfl weak_nil)))))) (List.Perm.refl _)
    · replace H := Gets.cf H c406
      refine WP.exit ?_
      replace H := Gets.out H
      exact Jn.mk (x405, decide (x405 < (a0.size : Int))) H (weak_cons rfl (weak_cons rfl (weak_cons rfl (weak_cons rfl (weak_cons rfl (weak_cons rfl (weak_cons rfl weak_nil))))))) (List.Perm.refl _)
theorem bytealg_Cutover.c {a0 : Int} {r : Int} (h : bytealg_Cutover.f a0 = some r) : Pt Try.prog 95 [eq (.int .i64 a0)] (eq (.int .i64 r)) := by
  unfold bytealg_Cutover.f at h
  refine (Tr.body Try.func95 (c := _) rfl Try.ntmps95 (Nat.le_of_ble_eq_true rfl) fun R0 F => ?_).pt
  replace h := Gets.of h
  have H := h
  clear h
  refine WP.seq ?_
  refine WP.reg [(0, false)] (by kernel_rfl) ?_
  refine Dv.asg rfl trivial rfl ?_
  refine .fin ?_
  refine WP.seq ?_
  refine WP.reg [(0, false), (1, false), (2, false), (3, false)] (by kernel_rfl) ?_
  refine Dv.mv rfl trivial rfl ?_
  refine Dv.bin rfl trivial rfl rfl (fun _ => run_add) ?_
  refine Dv.bin rfl trivial rfl rfl (fun _ => run_quo (by decide)) ?_
  refine Dv.asg rfl trivial rfl ?_
  refine .fin ?_
  obtain rfl := Gets.out H
  exact WP.retL (fun _ _ h => h) rfl () trivial (.cons (res_tmp rfl) .nil) rfl (st_sel (L := []) (F := F) [] 0 rfl rfl rfl)
theorem stringslite_Index.c {a0 : ByteArray} {a1 : ByteArray} {r : Int} (h : stringslite_Index.f a0 a1 = some r) : Pt Try.prog 92 [eq (.string a0), eq (.string a1)] (eq (.int .i64 r)) := by
  unfold stringslite_Index.f at h
  refine (Tr.body Try.func92 (c := _) rfl Try.ntmps92 (Nat.le_of_ble_eq_true rfl) fun R0 F => ?_).pt
  replace h := Gets.of h
  have H := h
  clear h
  refine WP.seq ?_
  refine WP.reg [(0, false)] (by kernel_rfl) ?_
  refine Dv.asg rfl trivial rfl ?_
  refine .fin ?_
  refine WP.seq ?_
  refine WP.reg [(0, false), (1, false), (2, false)] (by kernel_rfl) ?_
  refine Dv.mv rfl trivial rfl ?_
  refine Dv.lens rfl trivial rfl Try.underlying9 ?_
  refine Dv.asg rfl trivial rfl ?_
  refine .fin ?_
  refine WP.seq ?_
  refine WP.block ?_
  refine WP.seq ?_
  refine WP.reg [(0, false), (1, false), (2, false), (3, false), (4, false), (5, false), (6, false), (7, false)] (by kernel_rfl) ?_
  refine Dv.mv rfl trivial rfl ?_
  refine Dv.bin rfl trivial rfl rfl (fun _ => run_eq) ?_
  refine Dv.mv rfl trivial rfl ?_
  cases c415 : ((a1.size : Int) == 0)
  · replace H := Gets.cf H c415
    refine Dv.mv rfl ⟨_, _, rfl, rfl, rfl⟩ rfl ?_
    refine Dv.mv rfl ⟨_, _, rfl, rfl, rfl⟩ rfl ?_
    refine Dv.bin rfl ⟨_, _, rfl, rfl, rfl⟩ rfl rfl (fun _ => run_seq) ?_
    refine Dv.pickF rfl trivial rfl rfl ?_
    refine Dv.asg rfl trivial rfl ?_
    refine .fin ?_
    refine WP.cond rfl (fun c417 => ?_) (fun c417 => ?_)
    · replace H := Gets.ct H c417
      refine WP.seq ?_
      refine WP.reg [(0, false)] (by kernel_rfl) ?_
      refine Dv.asg rfl trivial rfl ?_
      refine .fin ?_
      obtain rfl := Gets.out H
      exact WP.retL (fun _ _ h => h) rfl () trivial (.cons (res_tmp rfl) .nil) rfl (st_sel (L := []) (F := F) [] 0 rfl rfl rfl)
    · replace H := Gets.cf H c417
      refine WP.seq ?_
      refine WP.reg [(0, false), (1, false), (2, false)] (by kernel_rfl) ?_
      refine Dv.mv rfl trivial rfl ?_
      refine Dv.bin rfl trivial rfl rfl (fun _ => run_eq) ?_
      refine Dv.asg rfl trivial rfl ?_
      refine .fin ?_
      refine WP.cond rfl (fun c418 => ?_) (fun c418 => ?_)
      · replace H := Gets.ct H c418
        refine WP.seq ?_
        refine WP.reg [(0, false), (1, false), (2, false), (3, false), (4, false)] (by kernel_rfl) ?_
        refine Dv.mv rfl trivial rfl ?_
        refine Dv.mv rfl trivial rfl ?_
        obtain ⟨g419, H⟩ := Gets.grd H
        refine Dv.ixs rfl trivial rfl rfl Try.underlying9 g419.1 g419.2 ?_
        obtain ⟨t420, h421, H⟩ := Gets.call H
        refine Dv.call rfl trivial cal93 rfl (stringslite_IndexByte.c h421) ?_
        refine Dv.asg rfl trivial rfl ?_
        refine .fin ?_
        obtain rfl := Gets.out H
        exact WP.retL (fun _ _ h => h) rfl () trivial (.cons (res_tmp rfl) .nil) rfl (st_sel (L := []) (F := F) [] 0 rfl rfl rfl)
      · replace H := Gets.cf H c418
        refine WP.seq ?_
        refine WP.reg [(0, false), (1, false), (2, false), (3, false), (4, false)] (by kernel_rfl) ?_
        refine Dv.mv rfl trivial rfl ?_
        refine Dv.mv rfl trivial rfl ?_
        refine Dv.lens rfl trivial rfl Try.underlying9 ?_
        refine Dv.bin rfl trivial rfl rfl (fun _ => run_ge) ?_
        refine Dv.asg rfl trivial rfl ?_
        refine .fin ?_
        refine WP.cond rfl (fun c422 => ?_) (fun c422 => ?_)
        · replace H := Gets.ct H c422
          refine WP.seq ?_
          refine WP.reg [(0, false)] (by kernel_rfl) ?_
          refine Dv.asg rfl trivial rfl ?_
          refine .fin ?_
          obtain rfl := Gets.out H
          exact WP.retL (fun _ _ h => h) rfl () trivial (.cons (res_tmp rfl) .nil) rfl (st_sel (L := []) (F := F) [] 0 rfl rfl rfl)
        · replace H := Gets.cf H c422
          exact (Gets.no H).elim
  · replace H := Gets.ct H c415
    refine Dv.skip rfl ⟨_, _, rfl, rfl, .inl rfl⟩ ?_
    refine Dv.skip rfl ⟨_, _, rfl, rfl, .inl rfl⟩ ?_
    refine Dv.skip rfl ⟨_, _, rfl, rfl, .inl rfl⟩ ?_
    refine Dv.pickT rfl trivial rfl rfl ?_
    refine Dv.asg rfl trivial rfl ?_
    refine .fin ?_
    refine WP.cond rfl (fun _ => ?_) nofun
    refine WP.seq ?_
    refine WP.reg [(0, false)] (by kernel_rfl) ?_
    refine Dv.asg rfl trivial rfl ?_
    refine .fin ?_
    obtain rfl := Gets.out H
    exact WP.retL (fun _ _ h => h) rfl () trivial (.cons (res_tmp rfl) .nil) rfl (st_sel (L := []) (F := F) [] 0 rfl rfl rfl)
theorem stringslite_Cut.c {a0 : ByteArray} {a1 : ByteArray} {r : ByteArray × ByteArray × Bool} (h : stringslite_Cut.f a0 a1 = some r) : Pt Try.prog 87 [eq (.string a0), eq (.string a1)] (tup [eq (.string r.1), eq (.string r.2.1), eq (.bool r.2.2)]) := by
  unfold stringslite_Cut.f at h
  refine (Tr.body Try.func87 (c := _) rfl Try.ntmps87 (Nat.le_of_ble_eq_true rfl) fun R0 F => ?_).pt
  replace h := Gets.of h
  have H := h
  clear h
  refine WP.seq ?_
  refine WP.reg [(0, false), (1, false), (2, false)] (by kernel_rfl) ?_
  refine Dv.asg rfl trivial rfl ?_
  refine Dv.asg rfl trivial rfl ?_
  refine Dv.asg rfl trivial rfl ?_
  refine .fin ?_
  refine WP.seq ?_
  refine WP.seq ?_
  refine WP.reg [(0, false), (1, false), (2, false), (3, false)] (by kernel_rfl) ?_
  refine Dv.mv rfl trivial rfl ?_
  refine Dv.mv rfl trivial rfl ?_
  obtain ⟨t423, h424, H⟩ := Gets.call H
  refine Dv.call rfl trivial cal92 rfl (stringslite_Index.c h424) ?_
  refine Dv.asg rfl trivial rfl ?_
  refine .fin ?_
  refine WP.seq ?_
  refine WP.reg [(0, false), (1, false)] (by kernel_rfl) ?_
  refine Dv.mv rfl trivial rfl ?_
  refine Dv.bin rfl trivial rfl rfl (fun _ => run_ge) ?_
  refine .fin ?_
  refine WP.cond rfl (fun c425 => ?_) (fun c425 => ?_)
  · replace H := Gets.ct H c425
    refine WP.seq ?_
    refine WP.dreg Try.checked.mixed [(0, false), (1, false), (2, false), (3, false), (4, false), (5, false), (6, false), (7, false), (8, false), (9, false), (10, false), (11, false)] (by kernel_rfl) ?_
    refine Dv.mv rfl trivial rfl ?_
    refine Dv.mv rfl trivial rfl ?_
    obtain ⟨g426, H⟩ := Gets.grd H
    refine Dv.sss rfl trivial rfl Try.underlying9 bdE_none (bdE_some rfl g426.1) g426.2.1 g426.2.2 ?_
    refine Dv.mv rfl trivial rfl ?_
    refine Dv.mv rfl trivial rfl ?_
    refine Dv.mv rfl trivial rfl ?_
    refine Dv.lens rfl trivial rfl Try.underlying9 ?_
    refine Dv.bin rfl trivial rfl rfl (fun _ => run_add) ?_
    obtain ⟨g427, H⟩ := Gets.grd H
    refine Dv.sss rfl trivial rfl Try.underlying9 (bdE_some rfl g427.1) bdE_none g427.2.1 g427.2.2 ?_
    refine Dv.asg rfl trivial rfl ?_
    refine Dv.asg rfl trivial rfl ?_
    refine Dv.asg rfl trivial rfl ?_
    refine .fin ?_
    obtain rfl := Gets.out H
    exact WP.retL (fun _ _ h => h) rfl () trivial (.cons (res_tmp rfl) (.cons (res_tmp rfl) (.cons (res_tmp rfl) .nil))) rfl (st_sel (L := []) (F := F) [] 0 rfl rfl rfl)
  · replace H := Gets.cf H c425
    refine WP.skip ?_
    refine WP.seq ?_
    refine WP.reg [(0, false), (1, false), (2, false), (3, false)] (by kernel_rfl) ?_
    refine Dv.mv rfl trivial rfl ?_
    refine Dv.asg rfl trivial rfl ?_
    refine Dv.asg rfl trivial rfl ?_
    refine Dv.asg rfl trivial rfl ?_
    refine .fin ?_
    obtain rfl := Gets.out H
    exact WP.retL (fun _ _ h => h) rfl () trivial (.cons (res_tmp rfl) (.cons (res_tmp rfl) (.cons (res_tmp rfl) .nil))) rfl (st_sel (L := []) (F := F) [] 0 rfl rfl rfl)
theorem strings_Cut.c {a0 : ByteArray} {a1 : ByteArray} {r : ByteArray × ByteArray × Bool} (h : strings_Cut.f a0 a1 = some r) : Pt Try.prog 83 [eq (.string a0), eq (.string a1)] (tup [eq (.string r.1), eq (.string r.2.1), eq (.bool r.2.2)]) := by
  unfold strings_Cut.f at h
  refine (Tr.body Try.func83 (c := _) rfl Try.ntmps83 (Nat.le_of_ble_eq_true rfl) fun R0 F => ?_).pt
  replace h := Gets.of h
  have H := h
  clear h
  refine WP.seq ?_
  refine WP.reg [(0, false), (1, false), (2, false)] (by kernel_rfl) ?_
  refine Dv.asg rfl trivial rfl ?_
  refine Dv.asg rfl trivial rfl ?_
  refine Dv.asg rfl trivial rfl ?_
  refine .fin ?_
  refine WP.seq ?_
  refine WP.reg [(0, false), (1, false), (2, false), (3, false), (4, false), (5, false), (6, false), (7, false), (8, false)] (by kernel_rfl) ?_
  refine Dv.mv rfl trivial rfl ?_
  refine Dv.mv rfl trivial rfl ?_
  obtain ⟨t428, h429, H⟩ := Gets.call H
  refine Dv.call rfl trivial cal87 rfl (stringslite_Cut.c h429) ?_
  refine Dv.ext rfl trivial rfl rfl ?_
  refine Dv.ext rfl trivial rfl rfl ?_
  refine Dv.ext rfl trivial rfl rfl ?_
  refine Dv.asg rfl trivial rfl ?_
  refine Dv.asg rfl trivial rfl ?_
  refine Dv.asg rfl trivial rfl ?_
  refine .fin ?_
  obtain rfl := Gets.out H
  exact WP.retL (fun _ _ h => h) rfl () trivial (.cons (res_tmp rfl) (.cons (res_tmp rfl) (.cons (res_tmp rfl) .nil))) rfl (st_sel (L := []) (F := F) [] 0 rfl rfl rfl)
theorem name_Server.c {k : Nat} {a0 : ByteArray} {r : Bool} (h : name_Server.f k a0 = some r) : Pt Try.prog 84 [eq (.string a0)] (eq (.bool r)) := by
  unfold name_Server.f at h
  refine (Tr.body Try.func84 (c := _) rfl Try.ntmps84 (Nat.le_of_ble_eq_true rfl) fun R0 F => ?_).pt
  replace h := Gets.of h
  have H := h
  clear h
  refine WP.seq ?_
  refine WP.reg [(0, false)] (by kernel_rfl) ?_
  refine Dv.asg rfl trivial rfl ?_
  refine .fin ?_
  refine WP.seq ?_
  refine WP.reg [(0, false), (1, false), (2, false), (3, false), (4, false), (5, false), (6, false), (7, false), (8, false), (9, false), (10, false), (11, false), (12, false), (13, false), (14, false), (15, false)] (by kernel_rfl) ?_
  refine Dv.mv rfl trivial rfl ?_
  obtain ⟨t430, h431, H⟩ := Gets.call H
  refine Dv.call rfl trivial cal82 rfl (name_may.c h431) ?_
  refine Dv.mv rfl trivial rfl ?_
  cases c432 : t430
  · replace H := Gets.cf H c432
    refine Dv.skip rfl ⟨_, _, rfl, rfl, .inl rfl⟩ ?_
    refine Dv.skip rfl ⟨_, _, rfl, rfl, .inl rfl⟩ ?_
    refine Dv.skip rfl ⟨_, _, rfl, rfl, .inl rfl⟩ ?_
    refine Dv.pickF rfl trivial rfl rfl ?_
    refine Dv.mv rfl trivial rfl ?_
    refine Dv.skip rfl ⟨_, _, rfl, rfl, .inl rfl⟩ ?_
    refine Dv.skip rfl ⟨_, _, rfl, rfl, .inl rfl⟩ ?_
    refine Dv.skip rfl ⟨_, _, rfl, rfl, .inl rfl⟩ ?_
    refine Dv.skip rfl ⟨_, _, rfl, rfl, .inl rfl⟩ ?_
    refine Dv.skip rfl ⟨_, _, rfl, rfl, .inl rfl⟩ ?_
    refine Dv.skip rfl ⟨_, _, rfl, rfl, .inl rfl⟩ ?_
    refine Dv.pickF rfl trivial rfl rfl ?_
    refine Dv.asg rfl trivial rfl ?_
    refine .fin ?_
    obtain rfl := Gets.out H
    exact WP.retL (fun _ _ h => h) rfl () trivial (.cons (res_tmp rfl) .nil) rfl (st_sel (L := []) (F := F) [] 0 rfl rfl rfl)
  · replace H := Gets.ct H c432
    refine Dv.mv rfl ⟨_, _, rfl, rfl, rfl⟩ rfl ?_
    obtain ⟨g433, H⟩ := Gets.grd H
    refine Dv.ixs rfl ⟨_, _, rfl, rfl, rfl⟩ rfl rfl Try.underlying9 g433.1 g433.2 ?_
    obtain ⟨t434, h435, H⟩ := Gets.call H
    refine Dv.call rfl ⟨_, _, rfl, rfl, rfl⟩ cal88 rfl (name_small.c h435) ?_
    refine Dv.pickT rfl trivial rfl rfl ?_
    refine Dv.mv rfl trivial rfl ?_
    cases c436 : t434
    · replace H := Gets.cf H c436
      refine Dv.skip rfl ⟨_, _, rfl, rfl, .inl rfl⟩ ?_
      refine Dv.skip rfl ⟨_, _, rfl, rfl, .inl rfl⟩ ?_
      refine Dv.skip rfl ⟨_, _, rfl, rfl, .inl rfl⟩ ?_
      refine Dv.skip rfl ⟨_, _, rfl, rfl, .inl rfl⟩ ?_
      refine Dv.skip rfl ⟨_, _, rfl, rfl, .inl rfl⟩ ?_
      refine Dv.skip rfl ⟨_, _, rfl, rfl, .inl rfl⟩ ?_
      refine Dv.pickF rfl trivial rfl rfl ?_
      refine Dv.asg rfl trivial rfl ?_
      refine .fin ?_
      obtain rfl := Gets.out H
      exact WP.retL (fun _ _ h => h) rfl () trivial (.cons (res_tmp rfl) .nil) rfl (st_sel (L := []) (F := F) [] 0 rfl rfl rfl)
    · replace H := Gets.ct H c436
      refine Dv.mv rfl ⟨_, _, rfl, rfl, rfl⟩ rfl ?_
      refine Dv.mv rfl ⟨_, _, rfl, rfl, rfl⟩ rfl ?_
      refine Dv.lens rfl ⟨_, _, rfl, rfl, rfl⟩ rfl Try.underlying9 ?_
      refine Dv.bin rfl ⟨_, _, rfl, rfl, rfl⟩ rfl rfl (fun _ => run_sub) ?_
      obtain ⟨g437, H⟩ := Gets.grd H
      refine Dv.ixs rfl ⟨_, _, rfl, rfl, rfl⟩ rfl rfl Try.underlying9 g437.1 g437.2 ?_
      obtain ⟨t438, h439, H⟩ := Gets.call H
      refine Dv.call rfl ⟨_, _, rfl, rfl, rfl⟩ cal88 rfl (name_small.c h439) ?_
      refine Dv.pickT rfl trivial rfl rfl ?_
      refine Dv.asg rfl trivial rfl ?_
      refine .fin ?_
      obtain rfl := Gets.out H
      exact WP.retL (fun _ _ h => h) rfl () trivial (.cons (res_tmp rfl) .nil) rfl (st_sel (L := []) (F := F) [] 0 rfl rfl rfl)
theorem name_split.c {k : Nat} {a0 : ByteArray} {a1 : ByteArray} {r : ByteArray × ByteArray × Bool} (h : name_split.f k a0 a1 = some r) : Pt Try.prog 74 [eq (.string a0), eq (.string a1)] (tup [eq (.string r.1), eq (.string r.2.1), eq (.bool r.2.2)]) := by
  unfold name_split.f at h
  refine (Tr.body Try.func74 (c := _) rfl Try.ntmps74 (Nat.le_of_ble_eq_true rfl) fun R0 F => ?_).pt
  replace h := Gets.of h
  have H := h
  clear h
  refine WP.seq ?_
  refine WP.reg [(0, false), (1, false), (2, false)] (by kernel_rfl) ?_
  refine Dv.asg rfl trivial rfl ?_
  refine Dv.asg rfl trivial rfl ?_
  refine Dv.asg rfl trivial rfl ?_
  refine .fin ?_
  refine WP.seq ?_
  refine WP.reg [(0, false), (1, false), (2, false), (3, false), (4, false), (5, false), (6, false), (7, false)] (by kernel_rfl) ?_
  refine Dv.mv rfl trivial rfl ?_
  refine Dv.mv rfl trivial rfl ?_
  obtain ⟨t440, h441, H⟩ := Gets.call H
  refine Dv.call rfl trivial cal81 rfl (strings_CutPrefix.c h441) ?_
  refine Dv.mv rfl trivial rfl ?_
  refine Dv.ext rfl trivial rfl rfl ?_
  refine Dv.ext rfl trivial rfl rfl ?_
  refine Dv.asg rfl trivial rfl ?_
  refine Dv.asg rfl trivial rfl ?_
  refine .fin ?_
  refine WP.seq ?_
  refine WP.reg [(0, false), (1, false), (2, false), (3, false), (4, false), (5, false), (6, false), (7, false), (8, false)] (by kernel_rfl) ?_
  refine Dv.mv rfl trivial rfl ?_
  obtain ⟨t442, h443, H⟩ := Gets.call H
  refine Dv.call rfl trivial cal83 rfl (strings_Cut.c h443) ?_
  refine Dv.mv rfl trivial rfl ?_
  refine Dv.ext rfl trivial rfl rfl ?_
  refine Dv.ext rfl trivial rfl rfl ?_
  refine Dv.ext rfl trivial rfl rfl ?_
  refine Dv.asg rfl trivial rfl ?_
  refine Dv.asg rfl trivial rfl ?_
  refine Dv.asg rfl trivial rfl ?_
  refine .fin ?_
  refine WP.seq ?_
  refine WP.reg [(0, false), (1, false), (2, false), (3, false), (4, false), (5, false), (6, false), (7, false), (8, false), (9, false), (10, false), (11, false), (12, false), (13, false), (14, false), (15, false), (16, false)] (by kernel_rfl) ?_
  refine Dv.mv rfl trivial rfl ?_
  refine Dv.mv rfl trivial rfl ?_
  refine Dv.mv rfl trivial rfl ?_
  refine Dv.mv rfl trivial rfl ?_
  cases c444 : t440.2
  · replace H := Gets.cf H c444
    refine Dv.skip rfl ⟨_, _, rfl, rfl, .inl rfl⟩ ?_
    refine Dv.pickF rfl trivial rfl rfl ?_
    refine Dv.mv rfl trivial rfl ?_
    refine Dv.skip rfl ⟨_, _, rfl, rfl, .inl rfl⟩ ?_
    refine Dv.skip rfl ⟨_, _, rfl, rfl, .inl rfl⟩ ?_
    refine Dv.pickF rfl trivial rfl rfl ?_
    refine Dv.mv rfl trivial rfl ?_
    refine Dv.skip rfl ⟨_, _, rfl, rfl, .inl rfl⟩ ?_
    refine Dv.skip rfl ⟨_, _, rfl, rfl, .inl rfl⟩ ?_
    refine Dv.pickF rfl trivial rfl rfl ?_
    refine Dv.asg rfl trivial rfl ?_
    refine Dv.asg rfl trivial rfl ?_
    refine Dv.asg rfl trivial rfl ?_
    refine .fin ?_
    obtain rfl := Gets.out H
    exact WP.retL (fun _ _ h => h) rfl () trivial (.cons (res_tmp rfl) (.cons (res_tmp rfl) (.cons (res_tmp rfl) .nil))) rfl (st_sel (L := []) (F := F) [] 0 rfl rfl rfl)
  · replace H := Gets.ct H c444
    refine Dv.mv rfl ⟨_, _, rfl, rfl, rfl⟩ rfl ?_
    refine Dv.pickT rfl trivial rfl rfl ?_
    refine Dv.mv rfl trivial rfl ?_
    cases c445 : t442.2.2
    · replace H := Gets.cf H c445
      refine Dv.skip rfl ⟨_, _, rfl, rfl, .inl rfl⟩ ?_
      refine Dv.skip rfl ⟨_, _, rfl, rfl, .inl rfl⟩ ?_
      refine Dv.pickF rfl trivial rfl rfl ?_
      refine Dv.mv rfl trivial rfl ?_
      refine Dv.skip rfl ⟨_, _, rfl, rfl, .inl rfl⟩ ?_
      refine Dv.skip rfl ⟨_, _, rfl, rfl, .inl rfl⟩ ?_
      refine Dv.pickF rfl trivial rfl rfl ?_
      refine Dv.asg rfl trivial rfl ?_
      refine Dv.asg rfl trivial rfl ?_
      refine Dv.asg rfl trivial rfl ?_
      refine .fin ?_
      obtain rfl := Gets.out H
      exact WP.retL (fun _ _ h => h) rfl () trivial (.cons (res_tmp rfl) (.cons (res_tmp rfl) (.cons (res_tmp rfl) .nil))) rfl (st_sel (L := []) (F := F) [] 0 rfl rfl rfl)
    · replace H := Gets.ct H c445
      refine Dv.mv rfl ⟨_, _, rfl, rfl, rfl⟩ rfl ?_
      obtain ⟨t446, h447, H⟩ := Gets.call H
      refine Dv.call rfl ⟨_, _, rfl, rfl, rfl⟩ cal82 rfl (name_may.c h447) ?_
      refine Dv.pickT rfl trivial rfl rfl ?_
      refine Dv.mv rfl trivial rfl ?_
      cases c448 : t446
      · replace H := Gets.cf H c448
        refine Dv.skip rfl ⟨_, _, rfl, rfl, .inl rfl⟩ ?_
        refine Dv.skip rfl ⟨_, _, rfl, rfl, .inl rfl⟩ ?_
        refine Dv.pickF rfl trivial rfl rfl ?_
        refine Dv.asg rfl trivial rfl ?_
        refine Dv.asg rfl trivial rfl ?_
        refine Dv.asg rfl trivial rfl ?_
        refine .fin ?_
        obtain rfl := Gets.out H
        exact WP.retL (fun _ _ h => h) rfl () trivial (.cons (res_tmp rfl) (.cons (res_tmp rfl) (.cons (res_tmp rfl) .nil))) rfl (st_sel (L := []) (F := F) [] 0 rfl rfl rfl)
      · replace H := Gets.ct H c448
        refine Dv.mv rfl ⟨_, _, rfl, rfl, rfl⟩ rfl ?_
        obtain ⟨t449, h450, H⟩ := Gets.call H
        refine Dv.call rfl ⟨_, _, rfl, rfl, rfl⟩ cal84 rfl (name_Server.c h450) ?_
        refine Dv.pickT rfl trivial rfl rfl ?_
        refine Dv.asg rfl trivial rfl ?_
        refine Dv.asg rfl trivial rfl ?_
        refine Dv.asg rfl trivial rfl ?_
        refine .fin ?_
        obtain rfl := Gets.out H
        exact WP.retL (fun _ _ h => h) rfl () trivial (.cons (res_tmp rfl) (.cons (res_tmp rfl) (.cons (res_tmp rfl) .nil))) rfl (st_sel (L := []) (F := F) [] 0 rfl rfl rfl)
theorem name_Room.c {k : Nat} {a0 : ByteArray} {r : Bool} (h : name_Room.f k a0 = some r) : Pt Try.prog 69 [eq (.string a0)] (eq (.bool r)) := by
  unfold name_Room.f at h
  refine (Tr.body Try.func69 (c := _) rfl Try.ntmps69 (Nat.le_of_ble_eq_true rfl) fun R0 F => ?_).pt
  replace h := Gets.of h
  have H := h
  clear h
  refine WP.seq ?_
  refine WP.reg [(0, false)] (by kernel_rfl) ?_
  refine Dv.asg rfl trivial rfl ?_
  refine .fin ?_
  refine WP.seq ?_
  refine WP.reg [(0, false), (1, false), (2, false), (3, false), (4, false), (5, false), (6, false), (7, false), (8, false)] (by kernel_rfl) ?_
  refine Dv.mv rfl trivial rfl ?_
  obtain ⟨t451, h452, H⟩ := Gets.call H
  refine Dv.call rfl trivial cal74 rfl (name_split.c h452) ?_
  refine Dv.mv rfl trivial rfl ?_
  refine Dv.ext rfl trivial rfl rfl ?_
  refine Dv.ext rfl trivial rfl rfl ?_
  refine Dv.ext rfl trivial rfl rfl ?_
  refine Dv.asg rfl trivial rfl ?_
  refine Dv.asg rfl trivial rfl ?_
  refine Dv.asg rfl trivial rfl ?_
  refine .fin ?_
  refine WP.seq ?_
  refine WP.reg [(0, false), (1, false)] (by kernel_rfl) ?_
  refine Dv.mv rfl trivial rfl ?_
  refine Dv.asg rfl trivial rfl ?_
  refine .fin ?_
  obtain rfl := Gets.out H
  exact WP.retL (fun _ _ h => h) rfl () trivial (.cons (res_tmp rfl) .nil) rfl (st_sel (L := []) (F := F) [] 0 rfl rfl rfl)
theorem name_Event.c {k : Nat} {a0 : ByteArray} {r : Bool} (h : name_Event.f k a0 = some r) : Pt Try.prog 70 [eq (.string a0)] (eq (.bool r)) := by
  unfold name_Event.f at h
  refine (Tr.body Try.func70 (c := _) rfl Try.ntmps70 (Nat.le_of_ble_eq_true rfl) fun R0 F => ?_).pt
  replace h := Gets.of h
  have H := h
  clear h
  refine WP.seq ?_
  refine WP.reg [(0, false)] (by kernel_rfl) ?_
  refine Dv.asg rfl trivial rfl ?_
  refine .fin ?_
  refine WP.seq ?_
  refine WP.reg [(0, false), (1, false), (2, false), (3, false), (4, false), (5, false), (6, false)] (by kernel_rfl) ?_
  refine Dv.mv rfl trivial rfl ?_
  obtain ⟨t453, h454, H⟩ := Gets.call H
  refine Dv.call rfl trivial cal81 rfl (strings_CutPrefix.c h454) ?_
  refine Dv.mv rfl trivial rfl ?_
  refine Dv.ext rfl trivial rfl rfl ?_
  refine Dv.ext rfl trivial rfl rfl ?_
  refine Dv.asg rfl trivial rfl ?_
  refine Dv.asg rfl trivial rfl ?_
  refine .fin ?_
  refine WP.seq ?_
  refine WP.reg [(0, false), (1, false), (2, false), (3, false), (4, false), (5, false)] (by kernel_rfl) ?_
  refine Dv.mv rfl trivial rfl ?_
  refine Dv.mv rfl trivial rfl ?_
  cases c455 : t453.2
  · replace H := Gets.cf H c455
    refine Dv.skip rfl ⟨_, _, rfl, rfl, .inl rfl⟩ ?_
    refine Dv.skip rfl ⟨_, _, rfl, rfl, .inl rfl⟩ ?_
    refine Dv.pickF rfl trivial rfl rfl ?_
    refine Dv.asg rfl trivial rfl ?_
    refine .fin ?_
    obtain rfl := Gets.out H
    exact WP.retL (fun _ _ h => h) rfl () trivial (.cons (res_tmp rfl) .nil) rfl (st_sel (L := []) (F := F) [] 0 rfl rfl rfl)
  · replace H := Gets.ct H c455
    refine Dv.mv rfl ⟨_, _, rfl, rfl, rfl⟩ rfl ?_
    obtain ⟨t456, h457, H⟩ := Gets.call H
    refine Dv.call rfl ⟨_, _, rfl, rfl, rfl⟩ cal82 rfl (name_may.c h457) ?_
    refine Dv.pickT rfl trivial rfl rfl ?_
    refine Dv.asg rfl trivial rfl ?_
    refine .fin ?_
    obtain rfl := Gets.out H
    exact WP.retL (fun _ _ h => h) rfl () trivial (.cons (res_tmp rfl) .nil) rfl (st_sel (L := []) (F := F) [] 0 rfl rfl rfl)
theorem name_Thread.c {k : Nat} {a0 : ByteArray} {r : Bool} (h : name_Thread.f k a0 = some r) : Pt Try.prog 71 [eq (.string a0)] (eq (.bool r)) := by
  unfold name_Thread.f at h
  refine (Tr.body Try.func71 (c := _) rfl Try.ntmps71 (Nat.le_of_ble_eq_true rfl) fun R0 F => ?_).pt
  replace h := Gets.of h
  have H := h
  clear h
  refine WP.seq ?_
  refine WP.reg [(0, false)] (by kernel_rfl) ?_
  refine Dv.asg rfl trivial rfl ?_
  refine .fin ?_
  refine WP.seq ?_
  refine WP.reg [(0, false), (1, false), (2, false), (3, false), (4, false), (5, false), (6, false), (7, false), (8, false), (9, false), (10, false)] (by kernel_rfl) ?_
  refine Dv.mv rfl trivial rfl ?_
  refine Dv.bin rfl trivial rfl rfl (fun _ => run_seq) ?_
  refine Dv.mv rfl trivial rfl ?_
  cases c458 : decide (a0 = (⟨#[]⟩ : ByteArray))
  · replace H := Gets.cf H c458
    refine Dv.mv rfl ⟨_, _, rfl, rfl, rfl⟩ rfl ?_
    refine Dv.bin rfl ⟨_, _, rfl, rfl, rfl⟩ rfl rfl (fun _ => run_seq) ?_
    refine Dv.pickF rfl trivial rfl rfl ?_
    refine Dv.mv rfl trivial rfl ?_
    cases c459 : decide (a0 = (⟨#[109, 97, 105, 110]⟩ : ByteArray))
    · replace H := Gets.cf H c459
      refine Dv.mv rfl ⟨_, _, rfl, rfl, rfl⟩ rfl ?_
      obtain ⟨t460, h461, H⟩ := Gets.call H
      refine Dv.call rfl ⟨_, _, rfl, rfl, rfl⟩ cal70 rfl (name_Event.c h461) ?_
      refine Dv.pickF rfl trivial rfl rfl ?_
      refine Dv.asg rfl trivial rfl ?_
      refine .fin ?_
      obtain rfl := Gets.out H
      exact WP.retL (fun _ _ h => h) rfl () trivial (.cons (res_tmp rfl) .nil) rfl (st_sel (L := []) (F := F) [] 0 rfl rfl rfl)
    · replace H := Gets.ct H c459
      refine Dv.skip rfl ⟨_, _, rfl, rfl, .inl rfl⟩ ?_
      refine Dv.skip rfl ⟨_, _, rfl, rfl, .inl rfl⟩ ?_
      refine Dv.pickT rfl trivial rfl rfl ?_
      refine Dv.asg rfl trivial rfl ?_
      refine .fin ?_
      obtain rfl := Gets.out H
      exact WP.retL (fun _ _ h => h) rfl () trivial (.cons (res_tmp rfl) .nil) rfl (st_sel (L := []) (F := F) [] 0 rfl rfl rfl)
  · replace H := Gets.ct H c458
    refine Dv.skip rfl ⟨_, _, rfl, rfl, .inl rfl⟩ ?_
    refine Dv.skip rfl ⟨_, _, rfl, rfl, .inl rfl⟩ ?_
    refine Dv.pickT rfl trivial rfl rfl ?_
    refine Dv.mv rfl trivial rfl ?_
    refine Dv.skip rfl ⟨_, _, rfl, rfl, .inl rfl⟩ ?_
    refine Dv.skip rfl ⟨_, _, rfl, rfl, .inl rfl⟩ ?_
    refine Dv.pickT rfl trivial rfl rfl ?_
    refine Dv.asg rfl trivial rfl ?_
    refine .fin ?_
    obtain rfl := Gets.out H
    exact WP.retL (fun _ _ h => h) rfl () trivial (.cons (res_tmp rfl) .nil) rfl (st_sel (L := []) (F := F) [] 0 rfl rfl rfl)
theorem edu_asks_3.c {k : Nat} {a0 : Edu} {r : Bool} (h : edu_asks_3.f k a0 = some r) : Pt Try.prog 68 [agg (Edu.enc a0)] (eq (.bool r)) := by
  unfold edu_asks_3.f at h
  refine (Tr.body Try.func68 (c := _) rfl Try.ntmps68 (Nat.le_of_ble_eq_true rfl) fun R0 F => ?_).pt
  replace h := Gets.of h
  have H := h
  clear h
  refine WP.seq ?_
  refine WP.reg [(0, true), (1, false)] (by kernel_rfl) ?_
  refine Dv.box rfl trivial rfl (cells_agg (Edu.K.one _)) nofun (fun b462 => ?_)
  refine Dv.asg rfl trivial rfl ?_
  refine .fin ?_
  refine WP.seq ?_
  refine WP.reg [(0, false), (1, false), (2, false), (3, false), (4, false), (5, false), (6, false), (7, false), (8, false), (9, false), (10, false), (11, false), (12, false), (13, false)] (by kernel_rfl) ?_
  refine Dv.fab rfl trivial rfl Try.underlying24 rfl Try.underlying9 c9 (by decide) ?_
  refine Dv.ldb rfl trivial rfl Try.underlying9 rfl (mem_at 0 rfl) rfl ?_
  obtain ⟨t463, h464, H⟩ := Gets.call H
  refine Dv.call rfl trivial cal69 rfl (name_Room.c h464) ?_
  refine Dv.mv rfl trivial rfl ?_
  cases c465 : t463
  · replace H := Gets.cf H c465
    refine Dv.skip rfl ⟨_, _, rfl, rfl, .inl rfl⟩ ?_
    refine Dv.skip rfl ⟨_, _, rfl, rfl, .inl rfl⟩ ?_
    refine Dv.skip rfl ⟨_, _, rfl, rfl, .inl rfl⟩ ?_
    refine Dv.pickF rfl trivial rfl rfl ?_
    refine Dv.mv rfl trivial rfl ?_
    refine Dv.skip rfl ⟨_, _, rfl, rfl, .inl rfl⟩ ?_
    refine Dv.skip rfl ⟨_, _, rfl, rfl, .inl rfl⟩ ?_
    refine Dv.skip rfl ⟨_, _, rfl, rfl, .inl rfl⟩ ?_
    refine Dv.pickF rfl trivial rfl rfl ?_
    refine Dv.asg rfl trivial rfl ?_
    refine .fin ?_
    obtain rfl := Gets.out H
    exact WP.retL (fun _ _ h => h) rfl () trivial (.cons (res_tmp rfl) .nil) rfl (st_sel (L := [blk b462 24 [eq (.int .i64 a0.fKind), eq (.string a0.fRoom), eq (.string a0.fUser), eq (.string a0.fEvent), eq (.string a0.fThread), eq (.bool a0.fPrivate), eq (.bool a0.fOn), eq (.int .i64 a0.fSpan), eq (.int .i64 a0.fState), eq (.int .i64 a0.fTick), eq (.int .i64 a0.fStamp)]]) (F := F) [0] 1 rfl rfl rfl)
  · replace H := Gets.ct H c465
    refine Dv.fab rfl ⟨_, _, rfl, rfl, rfl⟩ rfl Try.underlying24 rfl Try.underlying9 c9 (by decide) ?_
    refine Dv.ldb rfl ⟨_, _, rfl, rfl, rfl⟩ rfl Try.underlying9 rfl (mem_at 0 rfl) rfl ?_
    obtain ⟨t466, h467, H⟩ := Gets.call H
    refine Dv.call rfl ⟨_, _, rfl, rfl, rfl⟩ cal70 rfl (name_Event.c h467) ?_
    refine Dv.pickT rfl trivial rfl rfl ?_
    refine Dv.mv rfl trivial rfl ?_
    cases c468 : t466
    · replace H := Gets.cf H c468
      refine Dv.skip rfl ⟨_, _, rfl, rfl, .inl rfl⟩ ?_
      refine Dv.skip rfl ⟨_, _, rfl, rfl, .inl rfl⟩ ?_
      refine Dv.skip rfl ⟨_, _, rfl, rfl, .inl rfl⟩ ?_
      refine Dv.pickF rfl trivial rfl rfl ?_
      refine Dv.asg rfl trivial rfl ?_
      refine .fin ?_
      obtain rfl := Gets.out H
      exact WP.retL (fun _ _ h => h) rfl () trivial (.cons (res_tmp rfl) .nil) rfl (st_sel (L := [blk b462 24 [eq (.int .i64 a0.fKind), eq (.string a0.fRoom), eq (.string a0.fUser), eq (.string a0.fEvent), eq (.string a0.fThread), eq (.bool a0.fPrivate), eq (.bool a0.fOn), eq (.int .i64 a0.fSpan), eq (.int .i64 a0.fState), eq (.int .i64 a0.fTick), eq (.int .i64 a0.fStamp)]]) (F := F) [0] 1 rfl rfl rfl)
    · replace H := Gets.ct H c468
      refine Dv.fab rfl ⟨_, _, rfl, rfl, rfl⟩ rfl Try.underlying24 rfl Try.underlying9 c9 (by decide) ?_
      refine Dv.ldb rfl ⟨_, _, rfl, rfl, rfl⟩ rfl Try.underlying9 rfl (mem_at 0 rfl) rfl ?_
      obtain ⟨t469, h470, H⟩ := Gets.call H
      refine Dv.call rfl ⟨_, _, rfl, rfl, rfl⟩ cal71 rfl (name_Thread.c h470) ?_
      refine Dv.pickT rfl trivial rfl rfl ?_
      refine Dv.asg rfl trivial rfl ?_
      refine .fin ?_
      obtain rfl := Gets.out H
      exact WP.retL (fun _ _ h => h) rfl () trivial (.cons (res_tmp rfl) .nil) rfl (st_sel (L := [blk b462 24 [eq (.int .i64 a0.fKind), eq (.string a0.fRoom), eq (.string a0.fUser), eq (.string a0.fEvent), eq (.string a0.fThread), eq (.bool a0.fPrivate), eq (.bool a0.fOn), eq (.int .i64 a0.fSpan), eq (.int .i64 a0.fState), eq (.int .i64 a0.fTick), eq (.int .i64 a0.fStamp)]]) (F := F) [0] 1 rfl rfl rfl)
theorem edu_asks_4.c {k : Nat} {a0 : Edu} {c0 : Int → Int → Int → Option Bool} {r : Bool} (h : edu_asks_4.f k a0 c0 = some r) : Pt Try.prog 72 [agg (Edu.enc a0), rp [fq_int_int_int_bool c0]] (eq (.bool r)) := by
  unfold edu_asks_4.f at h
  refine (Tr.body Try.func72 (c := _) rfl Try.ntmps72 (Nat.le_of_ble_eq_true rfl) fun R0 F => ?_).pt
  replace h := Gets.of h
  have H := h
  clear h
  refine WP.seq ?_
  refine WP.reg [(0, true), (1, false)] (by kernel_rfl) ?_
  refine Dv.box rfl trivial rfl (cells_agg (Edu.K.one _)) nofun (fun b471 => ?_)
  refine Dv.asg rfl trivial rfl ?_
  refine .fin ?_
  refine WP.seq ?_
  refine WP.reg [(0, false), (1, false), (2, false), (3, false), (4, false), (5, false), (6, false), (7, false), (8, false), (9, false), (10, false), (11, false), (12, false), (13, false), (14, false)] (by kernel_rfl) ?_
  refine Dv.fab rfl trivial rfl Try.underlying24 rfl Try.underlying9 c9 (by decide) ?_
  refine Dv.ldb rfl trivial rfl Try.underlying9 rfl (mem_at 0 rfl) rfl ?_
  obtain ⟨t472, h473, H⟩ := Gets.call H
  refine Dv.call rfl trivial cal69 rfl (name_Room.c h473) ?_
  refine Dv.mv rfl trivial rfl ?_
  cases c474 : t472
  · replace H := Gets.cf H c474
    refine Dv.skip rfl ⟨_, _, rfl, rfl, .inl rfl⟩ ?_
    refine Dv.skip rfl ⟨_, _, rfl, rfl, .inl rfl⟩ ?_
    refine Dv.skip rfl ⟨_, _, rfl, rfl, .inl rfl⟩ ?_
    refine Dv.skip rfl ⟨_, _, rfl, rfl, .inl rfl⟩ ?_
    refine Dv.skip rfl ⟨_, _, rfl, rfl, .inr rfl⟩ ?_
    refine Dv.skip rfl ⟨_, _, rfl, rfl, .inr rfl⟩ ?_
    refine Dv.skip rfl ⟨_, _, rfl, rfl, .inr rfl⟩ ?_
    refine Dv.skip rfl ⟨_, _, rfl, rfl, .inr rfl⟩ ?_
    refine Dv.skip rfl ⟨_, _, rfl, rfl, .inl rfl⟩ ?_
    refine Dv.pickF rfl trivial rfl rfl ?_
    refine Dv.asg rfl trivial rfl ?_
    refine .fin ?_
    obtain rfl := Gets.out H
    exact WP.retL (fun _ _ h => h) rfl () trivial (.cons (res_tmp rfl) .nil) rfl (st_sel (L := [blk b471 24 [eq (.int .i64 a0.fKind), eq (.string a0.fRoom), eq (.string a0.fUser), eq (.string a0.fEvent), eq (.string a0.fThread), eq (.bool a0.fPrivate), eq (.bool a0.fOn), eq (.int .i64 a0.fSpan), eq (.int .i64 a0.fState), eq (.int .i64 a0.fTick), eq (.int .i64 a0.fStamp)]]) (F := F) [0] 1 rfl rfl rfl)
  · replace H := Gets.ct H c474
    refine Dv.fab rfl ⟨_, _, rfl, rfl, rfl⟩ rfl Try.underlying24 rfl Try.underlying4 c4 (by decide) ?_
    refine Dv.ldb rfl ⟨_, _, rfl, rfl, rfl⟩ rfl Try.underlying4 rfl (mem_at 0 rfl) rfl ?_
    refine Dv.un rfl ⟨_, _, rfl, rfl, rfl⟩ rfl (fun _ => run_not _) ?_
    refine Dv.mv rfl ⟨_, _, rfl, rfl, rfl⟩ rfl ?_
    cases c475 : !a0.fOn
    · replace H := Gets.cf H c475
      refine Dv.ldr rfl ⟨_, _, rfl, rfl, rfl⟩ rfl Try.underlying90 rfl rfl ?_
      refine Dv.fab rfl ⟨_, _, rfl, rfl, rfl⟩ rfl Try.underlying24 rfl Try.underlying3 c3 (by decide) ?_
      refine Dv.ldb rfl ⟨_, _, rfl, rfl, rfl⟩ rfl Try.underlying3 rfl (mem_at 0 rfl) rfl ?_
      obtain ⟨t476, h477, H⟩ := Gets.call H
      refine Dv.callq (ret := eq (.bool t476)) rfl ⟨_, _, rfl, rfl, rfl⟩ rfl rfl ⟨_, _, _, _, h477, rfl, rfl⟩ ?_
      refine Dv.pickF rfl ⟨_, _, rfl, rfl, rfl⟩ rfl rfl ?_
      refine Dv.pickT rfl trivial rfl rfl ?_
      refine Dv.asg rfl trivial rfl ?_
      refine .fin ?_
      obtain rfl := Gets.out H
      exact WP.retL (fun _ _ h => h) rfl () trivial (.cons (res_tmp rfl) .nil) rfl (st_sel (L := [blk b471 24 [eq (.int .i64 a0.fKind), eq (.string a0.fRoom), eq (.string a0.fUser), eq (.string a0.fEvent), eq (.string a0.fThread), eq (.bool a0.fPrivate), eq (.bool a0.fOn), eq (.int .i64 a0.fSpan), eq (.int .i64 a0.fState), eq (.int .i64 a0.fTick), eq (.int .i64 a0.fStamp)]]) (F := F) [0] 1 rfl rfl rfl)
    · replace H := Gets.ct H c475
      refine Dv.skip rfl ⟨_, _, rfl, rfl, .inl rfl⟩ ?_
      refine Dv.skip rfl ⟨_, _, rfl, rfl, .inl rfl⟩ ?_
      refine Dv.skip rfl ⟨_, _, rfl, rfl, .inl rfl⟩ ?_
      refine Dv.skip rfl ⟨_, _, rfl, rfl, .inl rfl⟩ ?_
      refine Dv.pickT rfl ⟨_, _, rfl, rfl, rfl⟩ rfl rfl ?_
      refine Dv.pickT rfl trivial rfl rfl ?_
      refine Dv.asg rfl trivial rfl ?_
      refine .fin ?_
      obtain rfl := Gets.out H
      exact WP.retL (fun _ _ h => h) rfl () trivial (.cons (res_tmp rfl) .nil) rfl (st_sel (L := [blk b471 24 [eq (.int .i64 a0.fKind), eq (.string a0.fRoom), eq (.string a0.fUser), eq (.string a0.fEvent), eq (.string a0.fThread), eq (.bool a0.fPrivate), eq (.bool a0.fOn), eq (.int .i64 a0.fSpan), eq (.int .i64 a0.fState), eq (.int .i64 a0.fTick), eq (.int .i64 a0.fStamp)]]) (F := F) [0] 1 rfl rfl rfl)
theorem edu_asks_5.c {a0 : Edu} {c0 : Int → Int → Int → Option Bool} {r : Bool} (h : edu_asks_5.f a0 c0 = some r) : Pt Try.prog 73 [agg (Edu.enc a0), rp [fq_int_int_int_bool c0]] (eq (.bool r)) := by
  unfold edu_asks_5.f at h
  refine (Tr.body Try.func73 (c := _) rfl Try.ntmps73 (Nat.le_of_ble_eq_true rfl) fun R0 F => ?_).pt
  replace h := Gets.of h
  have H := h
  clear h
  refine WP.seq ?_
  refine WP.reg [(0, true), (1, false)] (by kernel_rfl) ?_
  refine Dv.box rfl trivial rfl (cells_agg (Edu.K.one _)) nofun (fun b478 => ?_)
  refine Dv.asg rfl trivial rfl ?_
  refine .fin ?_
  refine WP.seq ?_
  refine WP.reg [(0, false), (1, false), (2, false), (3, false), (4, false)] (by kernel_rfl) ?_
  refine Dv.ldr rfl trivial rfl Try.underlying90 rfl rfl ?_
  refine Dv.fab rfl trivial rfl Try.underlying24 rfl Try.underlying3 c3 (by decide) ?_
  refine Dv.ldb rfl trivial rfl Try.underlying3 rfl (mem_at 0 rfl) rfl ?_
  obtain ⟨t479, h480, H⟩ := Gets.call H
  refine Dv.callq (ret := eq (.bool t479)) rfl trivial rfl rfl ⟨_, _, _, _, h480, rfl, rfl⟩ ?_
  refine Dv.asg rfl trivial rfl ?_
  refine .fin ?_
  obtain rfl := Gets.out H
  exact WP.retL (fun _ _ h => h) rfl () trivial (.cons (res_tmp rfl) .nil) rfl (st_sel (L := [blk b478 24 [eq (.int .i64 a0.fKind), eq (.string a0.fRoom), eq (.string a0.fUser), eq (.string a0.fEvent), eq (.string a0.fThread), eq (.bool a0.fPrivate), eq (.bool a0.fOn), eq (.int .i64 a0.fSpan), eq (.int .i64 a0.fState), eq (.int .i64 a0.fTick), eq (.int .i64 a0.fStamp)]]) (F := F) [0] 1 rfl rfl rfl)
theorem edu_asks.c {k : Nat} {r : (List (Edu → Option Bool))} (h : edu_asks.f k = some r) : Pt Try.prog 51 [] (sl fK_api_Edu_bool r) := by
  unfold edu_asks.f at h
  refine (Tr.body Try.func51 (c := _) rfl Try.ntmps51 (Nat.le_of_ble_eq_true rfl) fun R0 F => ?_).pt
  replace h := Gets.of h
  have H := h
  clear h
  refine WP.seq ?_
  refine WP.reg [(0, false)] (by kernel_rfl) ?_
  refine Dv.asg rfl trivial rfl ?_
  refine .fin ?_
  refine WP.seq ?_
  refine WP.reg [(0, true), (1, true)] (by kernel_rfl) ?_
  refine Dv.alloc (z := .nilFunc) (qs := [eq .nilFunc]) rfl trivial z90 rfl nofun (fun b481 => ?_)
  refine Dv.stx ([blk b481 90 [eq (.func (.func 66) #[] #[])]] ++ F) rfl trivial rfl rfl (cells_one (one_eq rfl)) Try.underlying90 c90 rfl (j := 0) rfl (Nat.le_of_ble_eq_true rfl) rfl nofun ?_
  refine .fin ?_
  refine WP.seq ?_
  refine WP.reg [(0, false), (1, false), (2, false), (3, false)] (by kernel_rfl) ?_
  refine Dv.gh (gh_frzb (E' := [(0, eq (.slice none 0 0)), (1, rp [eq (.func (.func 66) #[] #[])])]) (l' := [] ++ F) 0 rfl (cve_cons rfl cv_id (cve_cons rfl cv_eq cve_nil)) (all2_app .nil fun _ => cva_id)) (fun _ _ => ?_)
  refine Dv.mkf (Q := fqQ_api_Edu_bool (fun a0_ => edu_asks_4.f k a0_ edu_asks_1.f)) cal72 (by rintro _ _ ⟨a0_, r_, h_, rfl, rfl⟩; exact Pt.weak (edu_asks_4.c h_) (.cons wk_id (.cons (wk_rp (.cons (wk_fn cal66 (by rintro _ _ ⟨a0_, a1_, a2_, r_, h_, rfl, rfl⟩; exact edu_asks_1.c h_)) .nil)) .nil))) rfl trivial rfl rfl ?_
  refine Dv.mkf (Q := fqQ_api_Edu_bool (fun a0_ => edu_asks_5.f a0_ edu_asks_1.f)) cal73 (by rintro _ _ ⟨a0_, r_, h_, rfl, rfl⟩; exact Pt.weak (edu_asks_5.c h_) (.cons wk_id (.cons (wk_rp (.cons (wk_fn cal66 (by rintro _ _ ⟨a0_, a1_, a2_, r_, h_, rfl, rfl⟩; exact edu_asks_1.c h_)) .nil)) .nil))) rfl trivial rfl rfl ?_
  refine Dv.lit fK_api_Edu_bool ([edu_asks_2.f, edu_asks_3.f k, fun a0_ => edu_asks_4.f k a0_ edu_asks_1.f, fun a0_ => edu_asks_5.f a0_ edu_asks_1.f] : List (Edu → Option Bool)) (css := [[fq_api_Edu_bool edu_asks_2.f], [fq_api_Edu_bool (edu_asks_3.f k)], [fq_api_Edu_bool (fun a0_ => edu_asks_4.f k a0_ edu_asks_1.f)], [fq_api_Edu_bool (fun a0_ => edu_asks_5.f a0_ edu_asks_1.f)]]) rfl trivial Try.underlying81 Try.underlying49 c49 z49 rfl (by decide) (by decide) rfl ⟨(cells_wk (wk_fn cal67 (by rintro _ _ ⟨a0_, r_, h_, rfl, rfl⟩; exact edu_asks_2.c h_)) (one_eq rfl)), ⟨(cells_wk (wk_fn cal68 (by rintro _ _ ⟨a0_, r_, h_, rfl, rfl⟩; exact edu_asks_3.c h_)) (one_eq rfl)), ⟨(cells_one one_fnq), ⟨(cells_one one_fnq), trivial⟩⟩⟩⟩ rfl rfl rfl ?_
  refine Dv.asg rfl trivial rfl ?_
  refine .fin ?_
  obtain rfl := Gets.out H
  exact WP.retL (fun _ _ h => h) rfl () trivial (.cons (res_tmp rfl) .nil) rfl (st_sel (L := []) (F := F) [] 0 rfl rfl rfl)
theorem edu_Local_1.c {a0 : Int} {r : Bool} (h : edu_Local_1.f a0 = some r) : Pt Try.prog 52 [eq (.int .i64 a0)] (eq (.bool r)) := by
  unfold edu_Local_1.f at h
  refine (Tr.body Try.func52 (c := _) rfl Try.ntmps52 (Nat.le_of_ble_eq_true rfl) fun R0 F => ?_).pt
  replace h := Gets.of h
  have H := h
  clear h
  refine WP.seq ?_
  refine WP.reg [(0, false)] (by kernel_rfl) ?_
  refine Dv.asg rfl trivial rfl ?_
  refine .fin ?_
  refine WP.seq ?_
  refine WP.reg [(0, false), (1, false), (2, false), (3, false), (4, false), (5, false), (6, false)] (by kernel_rfl) ?_
  refine Dv.mv rfl trivial rfl ?_
  refine Dv.bin rfl trivial rfl rfl (fun _ => run_ge) ?_
  refine Dv.mv rfl trivial rfl ?_
  cases c482 : decide (0 ≤ a0)
  · replace H := Gets.cf H c482
    refine Dv.skip rfl ⟨_, _, rfl, rfl, .inl rfl⟩ ?_
    refine Dv.skip rfl ⟨_, _, rfl, rfl, .inl rfl⟩ ?_
    refine Dv.pickF rfl trivial rfl rfl ?_
    refine Dv.asg rfl trivial rfl ?_
    refine .fin ?_
    obtain rfl := Gets.out H
    exact WP.retL (fun _ _ h => h) rfl () trivial (.cons (res_tmp rfl) .nil) rfl (st_sel (L := []) (F := F) [] 0 rfl rfl rfl)
  · replace H := Gets.ct H c482
    refine Dv.mv rfl ⟨_, _, rfl, rfl, rfl⟩ rfl ?_
    refine Dv.bin rfl ⟨_, _, rfl, rfl, rfl⟩ rfl rfl (fun _ => run_le) ?_
    refine Dv.pickT rfl trivial rfl rfl ?_
    refine Dv.asg rfl trivial rfl ?_
    refine .fin ?_
    obtain rfl := Gets.out H
    exact WP.retL (fun _ _ h => h) rfl () trivial (.cons (res_tmp rfl) .nil) rfl (st_sel (L := []) (F := F) [] 0 rfl rfl rfl)
theorem edu_named.c {a0 : Edu} {r : Edu} (h : edu_named.f a0 = some r) : Pt Try.prog 53 [agg (Edu.enc a0)] (agg (Edu.enc r)) := by
  unfold edu_named.f at h
  refine (Tr.body Try.func53 (c := _) rfl Try.ntmps53 (Nat.le_of_ble_eq_true rfl) fun R0 F => ?_).pt
  replace h := Gets.of h
  have H := h
  clear h
  refine WP.seq ?_
  refine WP.reg [(0, true), (1, true)] (by kernel_rfl) ?_
  refine Dv.box rfl trivial rfl (cells_agg (Edu.K.one _)) nofun (fun b483 => ?_)
  refine Dv.alloc (z := .agg #[.int .i64 0, .string ⟨#[]⟩, .string ⟨#[]⟩, .string ⟨#[]⟩, .string ⟨#[]⟩, .bool false, .bool false, .int .i64 0, .int .i64 0, .int .i64 0, .int .i64 0]) (qs := [eq (.int .i64 0), eq (.string (⟨#[]⟩ : ByteArray)), eq (.string (⟨#[]⟩ : ByteArray)), eq (.string (⟨#[]⟩ : ByteArray)), eq (.string (⟨#[]⟩ : ByteArray)), eq (.bool false), eq (.bool false), eq (.int .i64 0), eq (.int .i64 0), eq (.int .i64 0), eq (.int .i64 0)]) rfl trivial z24 rfl nofun (fun b484 => ?_)
  refine .fin ?_
  refine WP.seq ?_
  refine WP.reg [(0, false), (1, false), (2, false), (3, false), (4, false), (5, false), (6, false), (7, false), (8, false), (9, true), (10, true)] (by kernel_rfl) ?_
  refine Dv.fab rfl trivial rfl Try.underlying24 rfl Try.underlying3 c3 (by decide) ?_
  refine Dv.ldb rfl trivial rfl Try.underlying3 rfl (mem_at 1 rfl) rfl ?_
  refine Dv.fab rfl trivial rfl Try.underlying24 rfl Try.underlying9 c9 (by decide) ?_
  refine Dv.ldb rfl trivial rfl Try.underlying9 rfl (mem_at 1 rfl) rfl ?_
  refine Dv.fab rfl trivial rfl Try.underlying24 rfl Try.underlying3 c3 (by decide) ?_
  refine Dv.ldb rfl trivial rfl Try.underlying3 rfl (mem_at 1 rfl) rfl ?_
  refine Dv.fab rfl trivial rfl Try.underlying24 rfl Try.underlying3 c3 (by decide) ?_
  refine Dv.ldb rfl trivial rfl Try.underlying3 rfl (mem_at 1 rfl) rfl ?_
  refine Dv.bld (css := [[eq (.int .i64 a0.fKind)], [eq (.string a0.fUser)], [eq (.int .i64 a0.fTick)], [eq (.int .i64 a0.fStamp)]]) rfl trivial Try.underlying24 pl24 z24 rfl ⟨(cells_one (one_eq rfl)), ⟨(cells_one (one_eq rfl)), ⟨(cells_one (one_eq rfl)), ⟨(cells_one (one_eq rfl)), trivial⟩⟩⟩⟩ rfl rfl ?_
  refine Dv.alloc (z := .agg #[.int .i64 0, .string ⟨#[]⟩, .string ⟨#[]⟩, .string ⟨#[]⟩, .string ⟨#[]⟩, .bool false, .bool false, .int .i64 0, .int .i64 0, .int .i64 0, .int .i64 0]) (qs := [eq (.int .i64 0), eq (.string (⟨#[]⟩ : ByteArray)), eq (.string (⟨#[]⟩ : ByteArray)), eq (.string (⟨#[]⟩ : ByteArray)), eq (.string (⟨#[]⟩ : ByteArray)), eq (.bool false), eq (.bool false), eq (.int .i64 0), eq (.int .i64 0), eq (.int .i64 0), eq (.int .i64 0)]) rfl trivial z24 rfl nofun (fun b485 => ?_)
  refine Dv.stx ([blk b485 24 [eq (.int .i64 a0.fKind), eq (.string (⟨#[]⟩ : ByteArray)), eq (.string a0.fUser), eq (.string (⟨#[]⟩ : ByteArray)), eq (.string (⟨#[]⟩ : ByteArray)), eq (.bool false), eq (.bool false), eq (.int .i64 0), eq (.int .i64 0), eq (.int .i64 a0.fTick), eq (.int .i64 a0.fStamp)], blk b484 24 [eq (.int .i64 0), eq (.string (⟨#[]⟩ : ByteArray)), eq (.string (⟨#[]⟩ : ByteArray)), eq (.string (⟨#[]⟩ : ByteArray)), eq (.string (⟨#[]⟩ : ByteArray)), eq (.bool false), eq (.bool false), eq (.int .i64 0), eq (.int .i64 0), eq (.int .i64 0), eq (.int .i64 0)], blk b483 24 [eq (.int .i64 a0.fKind), eq (.string a0.fRoom), eq (.string a0.fUser), eq (.string a0.fEvent), eq (.string a0.fThread), eq (.bool a0.fPrivate), eq (.bool a0.fOn), eq (.int .i64 a0.fSpan), eq (.int .i64 a0.fState), eq (.int .i64 a0.fTick), eq (.int .i64 a0.fStamp)]] ++ F) rfl trivial rfl rfl (cells_agg (ones_cons (one_eq rfl) (ones_cons (one_eq rfl) (ones_cons (one_eq rfl) (ones_cons (one_eq rfl) (ones_cons (one_eq rfl) (ones_cons (one_eq rfl) (ones_cons (one_eq rfl) (ones_cons (one_eq rfl) (ones_cons (one_eq rfl) (ones_cons (one_eq rfl) (ones_cons (one_eq rfl) ones_nil)))))))))))) Try.underlying24 c24 rfl (j := 0) rfl (Nat.le_of_ble_eq_true rfl) rfl nofun ?_
  refine .fin ?_
  refine WP.seq ?_
  refine WP.seq ?_
  refine WP.reg [(0, false), (1, false)] (by kernel_rfl) ?_
  refine Dv.fab rfl trivial rfl Try.underlying24 rfl Try.underlying3 c3 (by decide) ?_
  refine Dv.ldb rfl trivial rfl Try.underlying3 rfl (mem_at 2 rfl) rfl ?_
  refine .fin ?_
  refine WP.block ?_
  refine WP.seq ?_
  refine WP.reg [(0, false), (1, false)] (by kernel_rfl) ?_
  refine Dv.bin rfl trivial rfl rfl (fun _ => run_eq) ?_
  refine Dv.asg rfl trivial rfl ?_
  refine .fin ?_
  refine WP.cond rfl (fun c486 => ?_) (fun c486 => ?_)
  · replace H := Gets.ct H c486
    refine WP.dreg Try.checked.mixed [(0, false), (1, false), (2, false), (3, false), (4, false), (5, false), (6, false), (7, false), (8, false), (9, true), (10, false), (11, true), (12, false), (13, true), (14, false), (15, true)] (by kernel_rfl) ?_
    refine Dv.fab rfl trivial rfl Try.underlying24 rfl Try.underlying9 c9 (by decide) ?_
    refine Dv.ldb rfl trivial rfl Try.underlying9 rfl (mem_at 2 rfl) rfl ?_
    refine Dv.fab rfl trivial rfl Try.underlying24 rfl Try.underlying9 c9 (by decide) ?_
    refine Dv.ldb rfl trivial rfl Try.underlying9 rfl (mem_at 2 rfl) rfl ?_
    refine Dv.fab rfl trivial rfl Try.underlying24 rfl Try.underlying9 c9 (by decide) ?_
    refine Dv.ldb rfl trivial rfl Try.underlying9 rfl (mem_at 2 rfl) rfl ?_
    refine Dv.fab rfl trivial rfl Try.underlying24 rfl Try.underlying4 c4 (by decide) ?_
    refine Dv.ldb rfl trivial rfl Try.underlying4 rfl (mem_at 2 rfl) rfl ?_
    refine Dv.fab rfl trivial rfl Try.underlying24 rfl Try.underlying9 c9 (by decide) ?_
    refine Dv.stx ([blk b485 24 [eq (.int .i64 a0.fKind), eq (.string a0.fRoom), eq (.string a0.fUser), eq (.string (⟨#[]⟩ : ByteArray)), eq (.string (⟨#[]⟩ : ByteArray)), eq (.bool false), eq (.bool false), eq (.int .i64 0), eq (.int .i64 0), eq (.int .i64 a0.fTick), eq (.int .i64 a0.fStamp)], blk b484 24 [eq (.int .i64 0), eq (.string (⟨#[]⟩ : ByteArray)), eq (.string (⟨#[]⟩ : ByteArray)), eq (.string (⟨#[]⟩ : ByteArray)), eq (.string (⟨#[]⟩ : ByteArray)), eq (.bool false), eq (.bool false), eq (.int .i64 0), eq (.int .i64 0), eq (.int .i64 0), eq (.int .i64 0)], blk b483 24 [eq (.int .i64 a0.fKind), eq (.string a0.fRoom), eq (.string a0.fUser), eq (.string a0.fEvent), eq (.string a0.fThread), eq (.bool a0.fPrivate), eq (.bool a0.fOn), eq (.int .i64 a0.fSpan), eq (.int .i64 a0.fState), eq (.int .i64 a0.fTick), eq (.int .i64 a0.fStamp)]] ++ F) rfl trivial rfl rfl (cells_one (one_eq rfl)) Try.underlying9 c9 rfl (j := 0) rfl (Nat.le_of_ble_eq_true rfl) rfl (fun _ => (pend_by (by kernel_rfl) (pend_in (fun _ => (mem_at 2 rfl)) (pend_in (fun _ => trivial) (pend_in (fun _ => (mem_at 2 rfl)) (pend_in (fun _ => trivial) (pend_in (fun _ => (mem_at 2 rfl)) (pend_in (fun _ => trivial) (pend_by (by kernel_rfl) (pend_by (by kernel_rfl) pend_nil)))))))))) ?_
    refine Dv.fab rfl trivial rfl Try.underlying24 rfl Try.underlying9 c9 (by decide) ?_
    refine Dv.stx ([blk b485 24 [eq (.int .i64 a0.fKind), eq (.string a0.fRoom), eq (.string a0.fUser), eq (.string a0.fEvent), eq (.string (⟨#[]⟩ : ByteArray)), eq (.bool false), eq (.bool false), eq (.int .i64 0), eq (.int .i64 0), eq (.int .i64 a0.fTick), eq (.int .i64 a0.fStamp)], blk b484 24 [eq (.int .i64 0), eq (.string (⟨#[]⟩ : ByteArray)), eq (.string (⟨#[]⟩ : ByteArray)), eq (.string (⟨#[]⟩ : ByteArray)), eq (.string (⟨#[]⟩ : ByteArray)), eq (.bool false), eq (.bool false), eq (.int .i64 0), eq (.int .i64 0), eq (.int .i64 0), eq (.int .i64 0)], blk b483 24 [eq (.int .i64 a0.fKind), eq (.string a0.fRoom), eq (.string a0.fUser), eq (.string a0.fEvent), eq (.string a0.fThread), eq (.bool a0.fPrivate), eq (.bool a0.fOn), eq (.int .i64 a0.fSpan), eq (.int .i64 a0.fState), eq (.int .i64 a0.fTick), eq (.int .i64 a0.fStamp)]] ++ F) rfl trivial rfl rfl (cells_one (one_eq rfl)) Try.underlying9 c9 rfl (j := 0) rfl (Nat.le_of_ble_eq_true rfl) rfl (fun _ => (pend_by (by kernel_rfl) (pend_by (by kernel_rfl) (pend_in (fun _ => (mem_at 2 rfl)) (pend_in (fun _ => trivial) (pend_in (fun _ => (mem_at 2 rfl)) (pend_in (fun _ => trivial) (pend_by (by kernel_rfl) (pend_by (by kernel_rfl) (pend_by (by kernel_rfl) (pend_by (by kernel_rfl) pend_nil))))))))))) ?_
    refine Dv.fab rfl trivial rfl Try.underlying24 rfl Try.underlying9 c9 (by decide) ?_
    refine Dv.stx ([blk b485 24 [eq (.int .i64 a0.fKind), eq (.string a0.fRoom), eq (.string a0.fUser), eq (.string a0.fEvent), eq (.string a0.fThread), eq (.bool false), eq (.bool false), eq (.int .i64 0), eq (.int .i64 0), eq (.int .i64 a0.fTick), eq (.int .i64 a0.fStamp)], blk b484 24 [eq (.int .i64 0), eq (.string (⟨#[]⟩ : ByteArray)), eq (.string (⟨#[]⟩ : ByteArray)), eq (.string (⟨#[]⟩ : ByteArray)), eq (.string (⟨#[]⟩ : ByteArray)), eq (.bool false), eq (.bool false), eq (.int .i64 0), eq (.int .i64 0), eq (.int .i64 0), eq (.int .i64 0)], blk b483 24 [eq (.int .i64 a0.fKind), eq (.string a0.fRoom), eq (.string a0.fUser), eq (.string a0.fEvent), eq (.string a0.fThread), eq (.bool a0.fPrivate), eq (.bool a0.fOn), eq (.int .i64 a0.fSpan), eq (.int .i64 a0.fState), eq (.int .i64 a0.fTick), eq (.int .i64 a0.fStamp)]] ++ F) rfl trivial rfl rfl (cells_one (one_eq rfl)) Try.underlying9 c9 rfl (j := 0) rfl (Nat.le_of_ble_eq_true rfl) rfl (fun _ => (pend_by (by kernel_rfl) (pend_by (by kernel_rfl) (pend_by (by kernel_rfl) (pend_in (fun _ => (mem_at 2 rfl)) (pend_in (fun _ => trivial) (pend_by (by kernel_rfl) (pend_by (by kernel_rfl) (pend_by (by kernel_rfl) (pend_by (by kernel_rfl) (pend_by (by kernel_rfl) (pend_by (by kernel_rfl) pend_nil)))))))))))) ?_
    refine Dv.fab rfl trivial rfl Try.underlying24 rfl Try.underlying4 c4 (by decide) ?_
    refine Dv.stx ([blk b485 24 [eq (.int .i64 a0.fKind), eq (.string a0.fRoom), eq (.string a0.fUser), eq (.string a0.fEvent), eq (.string a0.fThread), eq (.bool a0.fPrivate), eq (.bool false), eq (.int .i64 0), eq (.int .i64 0), eq (.int .i64 a0.fTick), eq (.int .i64 a0.fStamp)], blk b484 24 [eq (.int .i64 0), eq (.string (⟨#[]⟩ : ByteArray)), eq (.string (⟨#[]⟩ : ByteArray)), eq (.string (⟨#[]⟩ : ByteArray)), eq (.string (⟨#[]⟩ : ByteArray)), eq (.bool false), eq (.bool false), eq (.int .i64 0), eq (.int .i64 0), eq (.int .i64 0), eq (.int .i64 0)], blk b483 24 [eq (.int .i64 a0.fKind), eq (.string a0.fRoom), eq (.string a0.fUser), eq (.string a0.fEvent), eq (.string a0.fThread), eq (.bool a0.fPrivate), eq (.bool a0.fOn), eq (.int .i64 a0.fSpan), eq (.int .i64 a0.fState), eq (.int .i64 a0.fTick), eq (.int .i64 a0.fStamp)]] ++ F) rfl trivial rfl rfl (cells_one (one_eq rfl)) Try.underlying4 c4 rfl (j := 0) rfl (Nat.le_of_ble_eq_true rfl) rfl (fun _ => pend_bits (by kernel_rfl)) ?_
    refine .fin ?_
    refine WP.seq ?_
    refine WP.reg [(0, false), (1, true)] (by kernel_rfl) ?_
    refine Dv.ldbs rfl trivial rfl Try.underlying24 rfl c24 (mem_at 0 rfl) (Nat.le_of_ble_eq_true rfl) ?_
    refine Dv.stx ([blk b485 24 [eq (.int .i64 a0.fKind), eq (.string a0.fRoom), eq (.string a0.fUser), eq (.string a0.fEvent), eq (.string a0.fThread), eq (.bool a0.fPrivate), eq (.bool false), eq (.int .i64 0), eq (.int .i64 0), eq (.int .i64 a0.fTick), eq (.int .i64 a0.fStamp)], blk b484 24 [eq (.int .i64 a0.fKind), eq (.string a0.fRoom), eq (.string a0.fUser), eq (.string a0.fEvent), eq (.string a0.fThread), eq (.bool a0.fPrivate), eq (.bool false), eq (.int .i64 0), eq (.int .i64 0), eq (.int .i64 a0.fTick), eq (.int .i64 a0.fStamp)], blk b483 24 [eq (.int .i64 a0.fKind), eq (.string a0.fRoom), eq (.string a0.fUser), eq (.string a0.fEvent), eq (.string a0.fThread), eq (.bool a0.fPrivate), eq (.bool a0.fOn), eq (.int .i64 a0.fSpan), eq (.int .i64 a0.fState), eq (.int .i64 a0.fTick), eq (.int .i64 a0.fStamp)]] ++ F) rfl trivial rfl rfl (cells_agg (ones_cons (one_eq rfl) (ones_cons (one_eq rfl) (ones_cons (one_eq rfl) (ones_cons (one_eq rfl) (ones_cons (one_eq rfl) (ones_cons (one_eq rfl) (ones_cons (one_eq rfl) (ones_cons (one_eq rfl) (ones_cons (one_eq rfl) (ones_cons (one_eq rfl) (ones_cons (one_eq rfl) ones_nil)))))))))))) Try.underlying24 c24 rfl (j := 1) rfl (Nat.le_of_ble_eq_true rfl) rfl nofun ?_
    refine .fin ?_
    obtain rfl := Gets.out H
    exact WP.retL (fun _ _ h => h) rfl () trivial (.cons (res_cells rfl Try.underlying24 rfl c24 (mem_at 1 rfl) rfl) .nil) rfl (st_sel (L := [blk b485 24 [eq (.int .i64 a0.fKind), eq (.string a0.fRoom), eq (.string a0.fUser), eq (.string a0.fEvent), eq (.string a0.fThread), eq (.bool a0.fPrivate), eq (.bool false), eq (.int .i64 0), eq (.int .i64 0), eq (.int .i64 a0.fTick), eq (.int .i64 a0.fStamp)], blk b484 24 [eq (.int .i64 a0.fKind), eq (.string a0.fRoom), eq (.string a0.fUser), eq (.string a0.fEvent), eq (.string a0.fThread), eq (.bool a0.fPrivate), eq (.bool false), eq (.int .i64 0), eq (.int .i64 0), eq (.int .i64 a0.fTick), eq (.int .i64 a0.fStamp)], blk b483 24 [eq (.int .i64 a0.fKind), eq (.string a0.fRoom), eq (.string a0.fUser), eq (.string a0.fEvent), eq (.string a0.fThread), eq (.bool a0.fPrivate), eq (.bool a0.fOn), eq (.int .i64 a0.fSpan), eq (.int .i64 a0.fState), eq (.int .i64 a0.fTick), eq (.int .i64 a0.fStamp)]]) (F := F) [0, 1, 2] 3 rfl rfl rfl)
  · replace H := Gets.cf H c486
    refine WP.seq ?_
    refine WP.reg [(0, false), (1, false)] (by kernel_rfl) ?_
    refine Dv.bin rfl trivial rfl rfl (fun _ => run_eq) ?_
    refine Dv.asg rfl trivial rfl ?_
    refine .fin ?_
    refine WP.cond rfl (fun c487 => ?_) (fun c487 => ?_)
    · replace H := Gets.ct H c487
      refine WP.seq ?_
      refine WP.dreg Try.checked.mixed [(0, false), (1, false), (2, false), (3, false), (4, false), (5, true), (6, false), (7, true)] (by kernel_rfl) ?_
      refine Dv.fab rfl trivial rfl Try.underlying24 rfl Try.underlying9 c9 (by decide) ?_
      refine Dv.ldb rfl trivial rfl Try.underlying9 rfl (mem_at 2 rfl) rfl ?_
      refine Dv.fab rfl trivial rfl Try.underlying24 rfl Try.underlying4 c4 (by decide) ?_
      refine Dv.ldb rfl trivial rfl Try.underlying4 rfl (mem_at 2 rfl) rfl ?_
      refine Dv.fab rfl trivial rfl Try.underlying24 rfl Try.underlying9 c9 (by decide) ?_
      refine Dv.stx ([blk b485 24 [eq (.int .i64 a0.fKind), eq (.string a0.fRoom), eq (.string a0.fUser), eq (.string (⟨#[]⟩ : ByteArray)), eq (.string (⟨#[]⟩ : ByteArray)), eq (.bool false), eq (.bool false), eq (.int .i64 0), eq (.int .i64 0), eq (.int .i64 a0.fTick), eq (.int .i64 a0.fStamp)], blk b484 24 [eq (.int .i64 0), eq (.string (⟨#[]⟩ : ByteArray)), eq (.string (⟨#[]⟩ : ByteArray)), eq (.string (⟨#[]⟩ : ByteArray)), eq (.string (⟨#[]⟩ : ByteArray)), eq (.bool false), eq (.bool false), eq (.int .i64 0), eq (.int .i64 0), eq (.int .i64 0), eq (.int .i64 0)], blk b483 24 [eq (.int .i64 a0.fKind), eq (.string a0.fRoom), eq (.string a0.fUser), eq (.string a0.fEvent), eq (.string a0.fThread), eq (.bool a0.fPrivate), eq (.bool a0.fOn), eq (.int .i64 a0.fSpan), eq (.int .i64 a0.fState), eq (.int .i64 a0.fTick), eq (.int .i64 a0.fStamp)]] ++ F) rfl trivial rfl rfl (cells_one (one_eq rfl)) Try.underlying9 c9 rfl (j := 0) rfl (Nat.le_of_ble_eq_true rfl) rfl (fun _ => (pend_by (by kernel_rfl) (pend_in (fun _ => (mem_at 2 rfl)) (pend_in (fun _ => trivial) (pend_by (by kernel_rfl) (pend_by (by kernel_rfl) pend_nil)))))) ?_
      refine Dv.fab rfl trivial rfl Try.underlying24 rfl Try.underlying4 c4 (by decide) ?_
      refine Dv.stx ([blk b485 24 [eq (.int .i64 a0.fKind), eq (.string a0.fRoom), eq (.string a0.fUser), eq (.string (⟨#[]⟩ : ByteArray)), eq (.string (⟨#[]⟩ : ByteArray)), eq (.bool false), eq (.bool a0.fOn), eq (.int .i64 0), eq (.int .i64 0), eq (.int .i64 a0.fTick), eq (.int .i64 a0.fStamp)], blk b484 24 [eq (.int .i64 0), eq (.string (⟨#[]⟩ : ByteArray)), eq (.string (⟨#[]⟩ : ByteArray)), eq (.string (⟨#[]⟩ : ByteArray)), eq (.string (⟨#[]⟩ : ByteArray)), eq (.bool false), eq (.bool false), eq (.int .i64 0), eq (.int .i64 0), eq (.int .i64 0), eq (.int .i64 0)], blk b483 24 [eq (.int .i64 a0.fKind), eq (.string a0.fRoom), eq (.string a0.fUser), eq (.string a0.fEvent), eq (.string a0.fThread), eq (.bool a0.fPrivate), eq (.bool a0.fOn), eq (.int .i64 a0.fSpan), eq (.int .i64 a0.fState), eq (.int .i64 a0.fTick), eq (.int .i64 a0.fStamp)]] ++ F) rfl trivial rfl rfl (cells_one (one_eq rfl)) Try.underlying4 c4 rfl (j := 0) rfl (Nat.le_of_ble_eq_true rfl) rfl (fun _ => pend_bits (by kernel_rfl)) ?_
      refine .fin ?_
      refine WP.seq ?_
      refine WP.reg [(0, false), (1, false)] (by kernel_rfl) ?_
      refine Dv.fab rfl trivial rfl Try.underlying24 rfl Try.underlying4 c4 (by decide) ?_
      refine Dv.ldb rfl trivial rfl Try.underlying4 rfl (mem_at 2 rfl) rfl ?_
      refine .fin ?_
      refine WP.cond rfl (fun c488 => ?_) (fun c488 => ?_)
      · replace H := Gets.ct H c488
        refine WP.reg [(0, false), (1, false), (2, false), (3, true)] (by kernel_rfl) ?_
        refine Dv.fab rfl trivial rfl Try.underlying24 rfl Try.underlying3 c3 (by decide) ?_
        refine Dv.ldb rfl trivial rfl Try.underlying3 rfl (mem_at 2 rfl) rfl ?_
        refine Dv.fab rfl trivial rfl Try.underlying24 rfl Try.underlying3 c3 (by decide) ?_
        refine Dv.stx ([blk b485 24 [eq (.int .i64 a0.fKind), eq (.string a0.fRoom), eq (.string a0.fUser), eq (.string (⟨#[]⟩ : ByteArray)), eq (.string (⟨#[]⟩ : ByteArray)), eq (.bool false), eq (.bool a0.fOn), eq (.int .i64 a0.fSpan), eq (.int .i64 0), eq (.int .i64 a0.fTick), eq (.int .i64 a0.fStamp)], blk b484 24 [eq (.int .i64 0), eq (.string (⟨#[]⟩ : ByteArray)), eq (.string (⟨#[]⟩ : ByteArray)), eq (.string (⟨#[]⟩ : ByteArray)), eq (.string (⟨#[]⟩ : ByteArray)), eq (.bool false), eq (.bool false), eq (.int .i64 0), eq (.int .i64 0), eq (.int .i64 0), eq (.int .i64 0)], blk b483 24 [eq (.int .i64 a0.fKind), eq (.string a0.fRoom), eq (.string a0.fUser), eq (.string a0.fEvent), eq (.string a0.fThread), eq (.bool a0.fPrivate), eq (.bool a0.fOn), eq (.int .i64 a0.fSpan), eq (.int .i64 a0.fState), eq (.int .i64 a0.fTick), eq (.int .i64 a0.fStamp)]] ++ F) rfl trivial rfl rfl (cells_one (one_eq rfl)) Try.underlying3 c3 rfl (j := 0) rfl (Nat.le_of_ble_eq_true rfl) rfl nofun ?_
        refine .fin ?_
        refine WP.seq ?_
        refine WP.reg [(0, false), (1, true)] (by kernel_rfl) ?_
        refine Dv.ldbs rfl trivial rfl Try.underlying24 rfl c24 (mem_at 0 rfl) (Nat.le_of_ble_eq_true rfl) ?_
        refine Dv.stx ([blk b485 24 [eq (.int .i64 a0.fKind), eq (.string a0.fRoom), eq (.string a0.fUser), eq (.string (⟨#[]⟩ : ByteArray)), eq (.string (⟨#[]⟩ : ByteArray)), eq (.bool false), eq (.bool a0.fOn), eq (.int .i64 a0.fSpan), eq (.int .i64 0), eq (.int .i64 a0.fTick), eq (.int .i64 a0.fStamp)], blk b484 24 [eq (.int .i64 a0.fKind), eq (.string a0.fRoom), eq (.string a0.fUser), eq (.string (⟨#[]⟩ : ByteArray)), eq (.string (⟨#[]⟩ : ByteArray)), eq (.bool false), eq (.bool a0.fOn), eq (.int .i64 a0.fSpan), eq (.int .i64 0), eq (.int .i64 a0.fTick), eq (.int .i64 a0.fStamp)], blk b483 24 [eq (.int .i64 a0.fKind), eq (.string a0.fRoom), eq (.string a0.fUser), eq (.string a0.fEvent), eq (.string a0.fThread), eq (.bool a0.fPrivate), eq (.bool a0.fOn), eq (.int .i64 a0.fSpan), eq (.int .i64 a0.fState), eq (.int .i64 a0.fTick), eq (.int .i64 a0.fStamp)]] ++ F) rfl trivial rfl rfl (cells_agg (ones_cons (one_eq rfl) (ones_cons (one_eq rfl) (ones_cons (one_eq rfl) (ones_cons (one_eq rfl) (ones_cons (one_eq rfl) (ones_cons (one_eq rfl) (ones_cons (one_eq rfl) (ones_cons (one_eq rfl) (ones_cons (one_eq rfl) (ones_cons (one_eq rfl) (ones_cons (one_eq rfl) ones_nil)))))))))))) Try.underlying24 c24 rfl (j := 1) rfl (Nat.le_of_ble_eq_true rfl) rfl nofun ?_
        refine .fin ?_
        obtain rfl := Gets.out H
        exact WP.retL (fun _ _ h => h) rfl () trivial (.cons (res_cells rfl Try.underlying24 rfl c24 (mem_at 1 rfl) rfl) .nil) rfl (st_sel (L := [blk b485 24 [eq (.int .i64 a0.fKind), eq (.string a0.fRoom), eq (.string a0.fUser), eq (.string (⟨#[]⟩ : ByteArray)), eq (.string (⟨#[]⟩ : ByteArray)), eq (.bool false), eq (.bool a0.fOn), eq (.int .i64 a0.fSpan), eq (.int .i64 0), eq (.int .i64 a0.fTick), eq (.int .i64 a0.fStamp)], blk b484 24 [eq (.int .i64 a0.fKind), eq (.string a0.fRoom), eq (.string a0.fUser), eq (.string (⟨#[]⟩ : ByteArray)), eq (.string (⟨#[]⟩ : ByteArray)), eq (.bool false), eq (.bool a0.fOn), eq (.int .i64 a0.fSpan), eq (.int .i64 0), eq (.int .i64 a0.fTick), eq (.int .i64 a0.fStamp)], blk b483 24 [eq (.int .i64 a0.fKind), eq (.string a0.fRoom), eq (.string a0.fUser), eq (.string a0.fEvent), eq (.string a0.fThread), eq (.bool a0.fPrivate), eq (.bool a0.fOn), eq (.int .i64 a0.fSpan), eq (.int .i64 a0.fState), eq (.int .i64 a0.fTick), eq (.int .i64 a0.fStamp)]]) (F := F) [0, 1, 2] 3 rfl rfl rfl)
      · replace H := Gets.cf H c488
        refine WP.skip ?_
        refine WP.seq ?_
        refine WP.reg [(0, false), (1, true)] (by kernel_rfl) ?_
        refine Dv.ldbs rfl trivial rfl Try.underlying24 rfl c24 (mem_at 0 rfl) (Nat.le_of_ble_eq_true rfl) ?_
        refine Dv.stx ([blk b485 24 [eq (.int .i64 a0.fKind), eq (.string a0.fRoom), eq (.string a0.fUser), eq (.string (⟨#[]⟩ : ByteArray)), eq (.string (⟨#[]⟩ : ByteArray)), eq (.bool false), eq (.bool a0.fOn), eq (.int .i64 0), eq (.int .i64 0), eq (.int .i64 a0.fTick), eq (.int .i64 a0.fStamp)], blk b484 24 [eq (.int .i64 a0.fKind), eq (.string a0.fRoom), eq (.string a0.fUser), eq (.string (⟨#[]⟩ : ByteArray)), eq (.string (⟨#[]⟩ : ByteArray)), eq (.bool false), eq (.bool a0.fOn), eq (.int .i64 0), eq (.int .i64 0), eq (.int .i64 a0.fTick), eq (.int .i64 a0.fStamp)], blk b483 24 [eq (.int .i64 a0.fKind), eq (.string a0.fRoom), eq (.string a0.fUser), eq (.string a0.fEvent), eq (.string a0.fThread), eq (.bool a0.fPrivate), eq (.bool a0.fOn), eq (.int .i64 a0.fSpan), eq (.int .i64 a0.fState), eq (.int .i64 a0.fTick), eq (.int .i64 a0.fStamp)]] ++ F) rfl trivial rfl rfl (cells_agg (ones_cons (one_eq rfl) (ones_cons (one_eq rfl) (ones_cons (one_eq rfl) (ones_cons (one_eq rfl) (ones_cons (one_eq rfl) (ones_cons (one_eq rfl) (ones_cons (one_eq rfl) (ones_cons (one_eq rfl) (ones_cons (one_eq rfl) (ones_cons (one_eq rfl) (ones_cons (one_eq rfl) ones_nil)))))))))))) Try.underlying24 c24 rfl (j := 1) rfl (Nat.le_of_ble_eq_true rfl) rfl nofun ?_
        refine .fin ?_
        obtain rfl := Gets.out H
        exact WP.retL (fun _ _ h => h) rfl () trivial (.cons (res_cells rfl Try.underlying24 rfl c24 (mem_at 1 rfl) rfl) .nil) rfl (st_sel (L := [blk b485 24 [eq (.int .i64 a0.fKind), eq (.string a0.fRoom), eq (.string a0.fUser), eq (.string (⟨#[]⟩ : ByteArray)), eq (.string (⟨#[]⟩ : ByteArray)), eq (.bool false), eq (.bool a0.fOn), eq (.int .i64 0), eq (.int .i64 0), eq (.int .i64 a0.fTick), eq (.int .i64 a0.fStamp)], blk b484 24 [eq (.int .i64 a0.fKind), eq (.string a0.fRoom), eq (.string a0.fUser), eq (.string (⟨#[]⟩ : ByteArray)), eq (.string (⟨#[]⟩ : ByteArray)), eq (.bool false), eq (.bool a0.fOn), eq (.int .i64 0), eq (.int .i64 0), eq (.int .i64 a0.fTick), eq (.int .i64 a0.fStamp)], blk b483 24 [eq (.int .i64 a0.fKind), eq (.string a0.fRoom), eq (.string a0.fUser), eq (.string a0.fEvent), eq (.string a0.fThread), eq (.bool a0.fPrivate), eq (.bool a0.fOn), eq (.int .i64 a0.fSpan), eq (.int .i64 a0.fState), eq (.int .i64 a0.fTick), eq (.int .i64 a0.fStamp)]]) (F := F) [0, 1, 2] 3 rfl rfl rfl)
    · replace H := Gets.cf H c487
      refine WP.seq ?_
      refine WP.reg [(0, false), (1, false)] (by kernel_rfl) ?_
      refine Dv.bin rfl trivial rfl rfl (fun _ => run_eq) ?_
      refine Dv.asg rfl trivial rfl ?_
      refine .fin ?_
      refine WP.cond rfl (fun c489 => ?_) (fun c489 => ?_)
      · replace H := Gets.ct H c489
        refine WP.reg [(0, false), (1, false), (2, false), (3, true)] (by kernel_rfl) ?_
        refine Dv.fab rfl trivial rfl Try.underlying24 rfl Try.underlying3 c3 (by decide) ?_
        refine Dv.ldb rfl trivial rfl Try.underlying3 rfl (mem_at 2 rfl) rfl ?_
        refine Dv.fab rfl trivial rfl Try.underlying24 rfl Try.underlying3 c3 (by decide) ?_
        refine Dv.stx ([blk b485 24 [eq (.int .i64 a0.fKind), eq (.string (⟨#[]⟩ : ByteArray)), eq (.string a0.fUser), eq (.string (⟨#[]⟩ : ByteArray)), eq (.string (⟨#[]⟩ : ByteArray)), eq (.bool false), eq (.bool false), eq (.int .i64 0), eq (.int .i64 a0.fState), eq (.int .i64 a0.fTick), eq (.int .i64 a0.fStamp)], blk b484 24 [eq (.int .i64 0), eq (.string (⟨#[]⟩ : ByteArray)), eq (.string (⟨#[]⟩ : ByteArray)), eq (.string (⟨#[]⟩ : ByteArray)), eq (.string (⟨#[]⟩ : ByteArray)), eq (.bool false), eq (.bool false), eq (.int .i64 0), eq (.int .i64 0), eq (.int .i64 0), eq (.int .i64 0)], blk b483 24 [eq (.int .i64 a0.fKind), eq (.string a0.fRoom), eq (.string a0.fUser), eq (.string a0.fEvent), eq (.string a0.fThread), eq (.bool a0.fPrivate), eq (.bool a0.fOn), eq (.int .i64 a0.fSpan), eq (.int .i64 a0.fState), eq (.int .i64 a0.fTick), eq (.int .i64 a0.fStamp)]] ++ F) rfl trivial rfl rfl (cells_one (one_eq rfl)) Try.underlying3 c3 rfl (j := 0) rfl (Nat.le_of_ble_eq_true rfl) rfl nofun ?_
        refine .fin ?_
        refine WP.seq ?_
        refine WP.reg [(0, false), (1, true)] (by kernel_rfl) ?_
        refine Dv.ldbs rfl trivial rfl Try.underlying24 rfl c24 (mem_at 0 rfl) (Nat.le_of_ble_eq_true rfl) ?_
        refine Dv.stx ([blk b485 24 [eq (.int .i64 a0.fKind), eq (.string (⟨#[]⟩ : ByteArray)), eq (.string a0.fUser), eq (.string (⟨#[]⟩ : ByteArray)), eq (.string (⟨#[]⟩ : ByteArray)), eq (.bool false), eq (.bool false), eq (.int .i64 0), eq (.int .i64 a0.fState), eq (.int .i64 a0.fTick), eq (.int .i64 a0.fStamp)], blk b484 24 [eq (.int .i64 a0.fKind), eq (.string (⟨#[]⟩ : ByteArray)), eq (.string a0.fUser), eq (.string (⟨#[]⟩ : ByteArray)), eq (.string (⟨#[]⟩ : ByteArray)), eq (.bool false), eq (.bool false), eq (.int .i64 0), eq (.int .i64 a0.fState), eq (.int .i64 a0.fTick), eq (.int .i64 a0.fStamp)], blk b483 24 [eq (.int .i64 a0.fKind), eq (.string a0.fRoom), eq (.string a0.fUser), eq (.string a0.fEvent), eq (.string a0.fThread), eq (.bool a0.fPrivate), eq (.bool a0.fOn), eq (.int .i64 a0.fSpan), eq (.int .i64 a0.fState), eq (.int .i64 a0.fTick), eq (.int .i64 a0.fStamp)]] ++ F) rfl trivial rfl rfl (cells_agg (ones_cons (one_eq rfl) (ones_cons (one_eq rfl) (ones_cons (one_eq rfl) (ones_cons (one_eq rfl) (ones_cons (one_eq rfl) (ones_cons (one_eq rfl) (ones_cons (one_eq rfl) (ones_cons (one_eq rfl) (ones_cons (one_eq rfl) (ones_cons (one_eq rfl) (ones_cons (one_eq rfl) ones_nil)))))))))))) Try.underlying24 c24 rfl (j := 1) rfl (Nat.le_of_ble_eq_true rfl) rfl nofun ?_
        refine .fin ?_
        obtain rfl := Gets.out H
        exact WP.retL (fun _ _ h => h) rfl () trivial (.cons (res_cells rfl Try.underlying24 rfl c24 (mem_at 1 rfl) rfl) .nil) rfl (st_sel (L := [blk b485 24 [eq (.int .i64 a0.fKind), eq (.string (⟨#[]⟩ : ByteArray)), eq (.string a0.fUser), eq (.string (⟨#[]⟩ : ByteArray)), eq (.string (⟨#[]⟩ : ByteArray)), eq (.bool false), eq (.bool false), eq (.int .i64 0), eq (.int .i64 a0.fState), eq (.int .i64 a0.fTick), eq (.int .i64 a0.fStamp)], blk b484 24 [eq (.int .i64 a0.fKind), eq (.string (⟨#[]⟩ : ByteArray)), eq (.string a0.fUser), eq (.string (⟨#[]⟩ : ByteArray)), eq (.string (⟨#[]⟩ : ByteArray)), eq (.bool false), eq (.bool false), eq (.int .i64 0), eq (.int .i64 a0.fState), eq (.int .i64 a0.fTick), eq (.int .i64 a0.fStamp)], blk b483 24 [eq (.int .i64 a0.fKind), eq (.string a0.fRoom), eq (.string a0.fUser), eq (.string a0.fEvent), eq (.string a0.fThread), eq (.bool a0.fPrivate), eq (.bool a0.fOn), eq (.int .i64 a0.fSpan), eq (.int .i64 a0.fState), eq (.int .i64 a0.fTick), eq (.int .i64 a0.fStamp)]]) (F := F) [0, 1, 2] 3 rfl rfl rfl)
      · replace H := Gets.cf H c489
        refine WP.skip ?_
        refine WP.seq ?_
        refine WP.reg [(0, false), (1, true)] (by kernel_rfl) ?_
        refine Dv.ldbs rfl trivial rfl Try.underlying24 rfl c24 (mem_at 0 rfl) (Nat.le_of_ble_eq_true rfl) ?_
        refine Dv.stx ([blk b485 24 [eq (.int .i64 a0.fKind), eq (.string (⟨#[]⟩ : ByteArray)), eq (.string a0.fUser), eq (.string (⟨#[]⟩ : ByteArray)), eq (.string (⟨#[]⟩ : ByteArray)), eq (.bool false), eq (.bool false), eq (.int .i64 0), eq (.int .i64 0), eq (.int .i64 a0.fTick), eq (.int .i64 a0.fStamp)], blk b484 24 [eq (.int .i64 a0.fKind), eq (.string (⟨#[]⟩ : ByteArray)), eq (.string a0.fUser), eq (.string (⟨#[]⟩ : ByteArray)), eq (.string (⟨#[]⟩ : ByteArray)), eq (.bool false), eq (.bool false), eq (.int .i64 0), eq (.int .i64 0), eq (.int .i64 a0.fTick), eq (.int .i64 a0.fStamp)], blk b483 24 [eq (.int .i64 a0.fKind), eq (.string a0.fRoom), eq (.string a0.fUser), eq (.string a0.fEvent), eq (.string a0.fThread), eq (.bool a0.fPrivate), eq (.bool a0.fOn), eq (.int .i64 a0.fSpan), eq (.int .i64 a0.fState), eq (.int .i64 a0.fTick), eq (.int .i64 a0.fStamp)]] ++ F) rfl trivial rfl rfl (cells_agg (ones_cons (one_eq rfl) (ones_cons (one_eq rfl) (ones_cons (one_eq rfl) (ones_cons (one_eq rfl) (ones_cons (one_eq rfl) (ones_cons (one_eq rfl) (ones_cons (one_eq rfl) (ones_cons (one_eq rfl) (ones_cons (one_eq rfl) (ones_cons (one_eq rfl) (ones_cons (one_eq rfl) ones_nil)))))))))))) Try.underlying24 c24 rfl (j := 1) rfl (Nat.le_of_ble_eq_true rfl) rfl nofun ?_
        refine .fin ?_
        obtain rfl := Gets.out H
        exact WP.retL (fun _ _ h => h) rfl () trivial (.cons (res_cells rfl Try.underlying24 rfl c24 (mem_at 1 rfl) rfl) .nil) rfl (st_sel (L := [blk b485 24 [eq (.int .i64 a0.fKind), eq (.string (⟨#[]⟩ : ByteArray)), eq (.string a0.fUser), eq (.string (⟨#[]⟩ : ByteArray)), eq (.string (⟨#[]⟩ : ByteArray)), eq (.bool false), eq (.bool false), eq (.int .i64 0), eq (.int .i64 0), eq (.int .i64 a0.fTick), eq (.int .i64 a0.fStamp)], blk b484 24 [eq (.int .i64 a0.fKind), eq (.string (⟨#[]⟩ : ByteArray)), eq (.string a0.fUser), eq (.string (⟨#[]⟩ : ByteArray)), eq (.string (⟨#[]⟩ : ByteArray)), eq (.bool false), eq (.bool false), eq (.int .i64 0), eq (.int .i64 0), eq (.int .i64 a0.fTick), eq (.int .i64 a0.fStamp)], blk b483 24 [eq (.int .i64 a0.fKind), eq (.string a0.fRoom), eq (.string a0.fUser), eq (.string a0.fEvent), eq (.string a0.fThread), eq (.bool a0.fPrivate), eq (.bool a0.fOn), eq (.int .i64 a0.fSpan), eq (.int .i64 a0.fState), eq (.int .i64 a0.fTick), eq (.int .i64 a0.fStamp)]]) (F := F) [0, 1, 2] 3 rfl rfl rfl)
theorem name_User.c {k : Nat} {a0 : ByteArray} {r : Bool} (h : name_User.f k a0 = some r) : Pt Try.prog 54 [eq (.string a0)] (eq (.bool r)) := by
  unfold name_User.f at h
  refine (Tr.body Try.func54 (c := _) rfl Try.ntmps54 (Nat.le_of_ble_eq_true rfl) fun R0 F => ?_).pt
  replace h := Gets.of h
  have H := h
  clear h
  refine WP.seq ?_
  refine WP.reg [(0, false)] (by kernel_rfl) ?_
  refine Dv.asg rfl trivial rfl ?_
  refine .fin ?_
  refine WP.seq ?_
  refine WP.reg [(0, false), (1, false), (2, false), (3, false), (4, false), (5, false), (6, false), (7, false), (8, false)] (by kernel_rfl) ?_
  refine Dv.mv rfl trivial rfl ?_
  obtain ⟨t490, h491, H⟩ := Gets.call H
  refine Dv.call rfl trivial cal74 rfl (name_split.c h491) ?_
  refine Dv.mv rfl trivial rfl ?_
  refine Dv.ext rfl trivial rfl rfl ?_
  refine Dv.ext rfl trivial rfl rfl ?_
  refine Dv.ext rfl trivial rfl rfl ?_
  refine Dv.asg rfl trivial rfl ?_
  refine Dv.asg rfl trivial rfl ?_
  refine Dv.asg rfl trivial rfl ?_
  refine .fin ?_
  refine WP.seq ?_
  refine WP.reg [(0, false), (1, false)] (by kernel_rfl) ?_
  refine Dv.mv rfl trivial rfl ?_
  refine Dv.asg rfl trivial rfl ?_
  refine .fin ?_
  obtain rfl := Gets.out H
  exact WP.retL (fun _ _ h => h) rfl () trivial (.cons (res_tmp rfl) .nil) rfl (st_sel (L := []) (F := F) [] 0 rfl rfl rfl)
theorem edu_Local.c {k : Nat} {a0 : Edu} {r : Bool} (h : edu_Local.f k a0 = some r) : Pt Try.prog 33 [agg (Edu.enc a0)] (eq (.bool r)) := by
  unfold edu_Local.f at h
  refine (Tr.body Try.func33 (c := _) rfl Try.ntmps33 (Nat.le_of_ble_eq_true rfl) fun R0 F => ?_).pt
  replace h := Gets.of h
  have H := h
  clear h
  refine WP.seq ?_
  refine WP.reg [(0, true), (1, false)] (by kernel_rfl) ?_
  refine Dv.box rfl trivial rfl (cells_agg (Edu.K.one _)) nofun (fun b492 => ?_)
  refine Dv.asg rfl trivial rfl ?_
  refine .fin ?_
  refine WP.seq ?_
  refine WP.seq ?_
  refine WP.dreg Try.checked.mixed [(0, false), (1, false), (2, false), (3, false), (4, false), (5, false), (6, false), (7, false), (8, false), (9, false), (10, false), (11, false), (12, false), (13, false), (14, false), (15, false), (16, false), (17, false)] (by kernel_rfl) ?_
  refine Dv.fab rfl trivial rfl Try.underlying24 rfl Try.underlying3 c3 (by decide) ?_
  refine Dv.ldb rfl trivial rfl Try.underlying3 rfl (mem_at 0 rfl) rfl ?_
  refine Dv.bin rfl trivial rfl rfl (fun _ => run_lt) ?_
  refine Dv.mv rfl trivial rfl ?_
  cases c493 : decide (a0.fKind < 0)
  · replace H := Gets.cf H c493
    refine Dv.fab rfl ⟨_, _, rfl, rfl, rfl⟩ rfl Try.underlying24 rfl Try.underlying3 c3 (by decide) ?_
    refine Dv.ldb rfl ⟨_, _, rfl, rfl, rfl⟩ rfl Try.underlying3 rfl (mem_at 0 rfl) rfl ?_
    refine Dv.bin rfl ⟨_, _, rfl, rfl, rfl⟩ rfl rfl (fun _ => run_gt) ?_
    refine Dv.pickF rfl trivial rfl rfl ?_
    refine Dv.mv rfl trivial rfl ?_
    cases c495 : decide (3 < a0.fKind)
    · replace H := Gets.cf H c495
      obtain ⟨t497, h498, H⟩ := Gets.call H
      refine Dv.call rfl ⟨_, _, rfl, rfl, rfl⟩ cal51 rfl (edu_asks.c h498) ?_
      refine Dv.fab rfl ⟨_, _, rfl, rfl, rfl⟩ rfl Try.underlying24 rfl Try.underlying3 c3 (by decide) ?_
      refine Dv.ldb rfl ⟨_, _, rfl, rfl, rfl⟩ rfl Try.underlying3 rfl (mem_at 0 rfl) rfl ?_
      obtain ⟨g499, H⟩ := Gets.grd H
      refine Dv.ixr rfl ⟨_, _, rfl, rfl, rfl⟩ rfl rfl Try.underlying81 Try.underlying49 c49 g499.1 g499.2 ?_
      refine Dv.ldr rfl ⟨_, _, rfl, rfl, rfl⟩ rfl Try.underlying49 rfl rfl ?_
      refine Dv.ldbs rfl ⟨_, _, rfl, rfl, rfl⟩ rfl Try.underlying24 rfl c24 (mem_at 0 rfl) (Nat.le_of_ble_eq_true rfl) ?_
      obtain ⟨t500, h501, H⟩ := Gets.call H
      refine Dv.callq (ret := eq (.bool t500)) rfl ⟨_, _, rfl, rfl, rfl⟩ rfl rfl ⟨_, _, h501, rfl, rfl⟩ ?_
      refine Dv.un rfl ⟨_, _, rfl, rfl, rfl⟩ rfl (fun _ => run_not _) ?_
      refine Dv.pickF rfl trivial rfl rfl ?_
      refine .fin ?_
      refine WP.cond rfl (fun c502 => ?_) (fun c502 => ?_)
      · replace H := Gets.ct H c502
        refine WP.seq ?_
        refine WP.reg [(0, false)] (by kernel_rfl) ?_
        refine Dv.asg rfl trivial rfl ?_
        refine .fin ?_
        obtain rfl := Gets.out H
        exact WP.retL (fun _ _ h => h) rfl () trivial (.cons (res_tmp rfl) .nil) rfl (st_sel (L := [blk b492 24 [eq (.int .i64 a0.fKind), eq (.string a0.fRoom), eq (.string a0.fUser), eq (.string a0.fEvent), eq (.string a0.fThread), eq (.bool a0.fPrivate), eq (.bool a0.fOn), eq (.int .i64 a0.fSpan), eq (.int .i64 a0.fState), eq (.int .i64 a0.fTick), eq (.int .i64 a0.fStamp)]]) (F := F) [0] 1 rfl rfl rfl)
      · replace H := Gets.cf H c502
        refine WP.skip ?_
        refine WP.seq ?_
        refine WP.reg [(0, false)] (by kernel_rfl) ?_
        refine Dv.asg rfl trivial rfl ?_
        refine .fin ?_
        refine WP.seq ?_
        refine WP.dreg Try.checked.mixed [(0, false), (1, false), (2, false), (3, false), (4, false), (5, false), (6, false), (7, false), (8, false), (9, false), (10, false), (11, false), (12, false), (13, false), (14, false), (15, false), (16, false), (17, false), (18, false), (19, false), (20, false), (21, false)] (by kernel_rfl) ?_
        refine Dv.ldbs rfl trivial rfl Try.underlying24 rfl c24 (mem_at 0 rfl) (Nat.le_of_ble_eq_true rfl) ?_
        refine Dv.ldbs rfl trivial rfl Try.underlying24 rfl c24 (mem_at 0 rfl) (Nat.le_of_ble_eq_true rfl) ?_
        obtain ⟨t503, h504, H⟩ := Gets.call H
        refine Dv.call rfl trivial cal53 rfl (edu_named.c h504) ?_
        refine Dv.eqs [.int .i64 a0.fKind, .string a0.fRoom, .string a0.fUser, .string a0.fEvent, .string a0.fThread, .bool a0.fPrivate, .bool a0.fOn, .int .i64 a0.fSpan, .int .i64 a0.fState, .int .i64 a0.fTick, .int .i64 a0.fStamp] [.int .i64 t503.fKind, .string t503.fRoom, .string t503.fUser, .string t503.fEvent, .string t503.fThread, .bool t503.fPrivate, .bool t503.fOn, .int .i64 t503.fSpan, .int .i64 t503.fState, .int .i64 t503.fTick, .int .i64 t503.fStamp] rfl trivial rfl rfl rfl rfl eg24 (fun _ => equal_of 2 (by decide) (fun _ => eqt24 a0 t503)) ?_
        refine Dv.mv rfl trivial rfl ?_
        cases c505 : decide (a0 = t503)
        · replace H := Gets.cf H c505
          refine Dv.skip rfl ⟨_, _, rfl, rfl, .inl rfl⟩ ?_
          refine Dv.skip rfl ⟨_, _, rfl, rfl, .inl rfl⟩ ?_
          refine Dv.skip rfl ⟨_, _, rfl, rfl, .inl rfl⟩ ?_
          refine Dv.pickF rfl trivial rfl rfl ?_
          refine Dv.mv rfl trivial rfl ?_
          refine Dv.skip rfl ⟨_, _, rfl, rfl, .inl rfl⟩ ?_
          refine Dv.skip rfl ⟨_, _, rfl, rfl, .inl rfl⟩ ?_
          refine Dv.skip rfl ⟨_, _, rfl, rfl, .inl rfl⟩ ?_
          refine Dv.skip rfl ⟨_, _, rfl, rfl, .inl rfl⟩ ?_
          refine Dv.pickF rfl trivial rfl rfl ?_
          refine Dv.mv rfl trivial rfl ?_
          refine Dv.skip rfl ⟨_, _, rfl, rfl, .inl rfl⟩ ?_
          refine Dv.skip rfl ⟨_, _, rfl, rfl, .inl rfl⟩ ?_
          refine Dv.skip rfl ⟨_, _, rfl, rfl, .inl rfl⟩ ?_
          refine Dv.skip rfl ⟨_, _, rfl, rfl, .inl rfl⟩ ?_
          refine Dv.pickF rfl trivial rfl rfl ?_
          refine Dv.asg rfl trivial rfl ?_
          refine .fin ?_
          obtain rfl := Gets.out H
          exact WP.retL (fun _ _ h => h) rfl () trivial (.cons (res_tmp rfl) .nil) rfl (st_sel (L := [blk b492 24 [eq (.int .i64 a0.fKind), eq (.string a0.fRoom), eq (.string a0.fUser), eq (.string a0.fEvent), eq (.string a0.fThread), eq (.bool a0.fPrivate), eq (.bool a0.fOn), eq (.int .i64 a0.fSpan), eq (.int .i64 a0.fState), eq (.int .i64 a0.fTick), eq (.int .i64 a0.fStamp)]]) (F := F) [0] 1 rfl rfl rfl)
        · replace H := Gets.ct H c505
          refine Dv.fab rfl ⟨_, _, rfl, rfl, rfl⟩ rfl Try.underlying24 rfl Try.underlying9 c9 (by decide) ?_
          refine Dv.ldb rfl ⟨_, _, rfl, rfl, rfl⟩ rfl Try.underlying9 rfl (mem_at 0 rfl) rfl ?_
          obtain ⟨t506, h507, H⟩ := Gets.call H
          refine Dv.call rfl ⟨_, _, rfl, rfl, rfl⟩ cal54 rfl (name_User.c h507) ?_
          refine Dv.pickT rfl trivial rfl rfl ?_
          refine Dv.mv rfl trivial rfl ?_
          cases c508 : t506
          · replace H := Gets.cf H c508
            refine Dv.skip rfl ⟨_, _, rfl, rfl, .inl rfl⟩ ?_
            refine Dv.skip rfl ⟨_, _, rfl, rfl, .inl rfl⟩ ?_
            refine Dv.skip rfl ⟨_, _, rfl, rfl, .inl rfl⟩ ?_
            refine Dv.skip rfl ⟨_, _, rfl, rfl, .inl rfl⟩ ?_
            refine Dv.pickF rfl trivial rfl rfl ?_
            refine Dv.mv rfl trivial rfl ?_
            refine Dv.skip rfl ⟨_, _, rfl, rfl, .inl rfl⟩ ?_
            refine Dv.skip rfl ⟨_, _, rfl, rfl, .inl rfl⟩ ?_
            refine Dv.skip rfl ⟨_, _, rfl, rfl, .inl rfl⟩ ?_
            refine Dv.skip rfl ⟨_, _, rfl, rfl, .inl rfl⟩ ?_
            refine Dv.pickF rfl trivial rfl rfl ?_
            refine Dv.asg rfl trivial rfl ?_
            refine .fin ?_
            obtain rfl := Gets.out H
            exact WP.retL (fun _ _ h => h) rfl () trivial (.cons (res_tmp rfl) .nil) rfl (st_sel (L := [blk b492 24 [eq (.int .i64 a0.fKind), eq (.string a0.fRoom), eq (.string a0.fUser), eq (.string a0.fEvent), eq (.string a0.fThread), eq (.bool a0.fPrivate), eq (.bool a0.fOn), eq (.int .i64 a0.fSpan), eq (.int .i64 a0.fState), eq (.int .i64 a0.fTick), eq (.int .i64 a0.fStamp)]]) (F := F) [0] 1 rfl rfl rfl)
          · replace H := Gets.ct H c508
            refine Dv.mv rfl ⟨_, _, rfl, rfl, rfl⟩ rfl ?_
            refine Dv.fab rfl ⟨_, _, rfl, rfl, rfl⟩ rfl Try.underlying24 rfl Try.underlying3 c3 (by decide) ?_
            refine Dv.ldb rfl ⟨_, _, rfl, rfl, rfl⟩ rfl Try.underlying3 rfl (mem_at 0 rfl) rfl ?_
            obtain ⟨t509, h510, H⟩ := Gets.call H
            refine Dv.callk rfl ⟨_, _, rfl, rfl, rfl⟩ rfl cal52 rfl (edu_Local_1.c h510) ?_
            refine Dv.pickT rfl trivial rfl rfl ?_
            refine Dv.mv rfl trivial rfl ?_
            cases c511 : t509
            · replace H := Gets.cf H c511
              refine Dv.skip rfl ⟨_, _, rfl, rfl, .inl rfl⟩ ?_
              refine Dv.skip rfl ⟨_, _, rfl, rfl, .inl rfl⟩ ?_
              refine Dv.skip rfl ⟨_, _, rfl, rfl, .inl rfl⟩ ?_
              refine Dv.skip rfl ⟨_, _, rfl, rfl, .inl rfl⟩ ?_
              refine Dv.pickF rfl trivial rfl rfl ?_
              refine Dv.asg rfl trivial rfl ?_
              refine .fin ?_
              obtain rfl := Gets.out H
              exact WP.retL (fun _ _ h => h) rfl () trivial (.cons (res_tmp rfl) .nil) rfl (st_sel (L := [blk b492 24 [eq (.int .i64 a0.fKind), eq (.string a0.fRoom), eq (.string a0.fUser), eq (.string a0.fEvent), eq (.string a0.fThread), eq (.bool a0.fPrivate), eq (.bool a0.fOn), eq (.int .i64 a0.fSpan), eq (.int .i64 a0.fState), eq (.int .i64 a0.fTick), eq (.int .i64 a0.fStamp)]]) (F := F) [0] 1 rfl rfl rfl)
            · replace H := Gets.ct H c511
              refine Dv.mv rfl ⟨_, _, rfl, rfl, rfl⟩ rfl ?_
              refine Dv.fab rfl ⟨_, _, rfl, rfl, rfl⟩ rfl Try.underlying24 rfl Try.underlying3 c3 (by decide) ?_
              refine Dv.ldb rfl ⟨_, _, rfl, rfl, rfl⟩ rfl Try.underlying3 rfl (mem_at 0 rfl) rfl ?_
              obtain ⟨t512, h513, H⟩ := Gets.call H
              refine Dv.callk rfl ⟨_, _, rfl, rfl, rfl⟩ rfl cal52 rfl (edu_Local_1.c h513) ?_
              refine Dv.pickT rfl trivial rfl rfl ?_
              refine Dv.asg rfl trivial rfl ?_
              refine .fin ?_
              obtain rfl := Gets.out H
              exact WP.retL (fun _ _ h => h) rfl () trivial (.cons (res_tmp rfl) .nil) rfl (st_sel (L := [blk b492 24 [eq (.int .i64 a0.fKind), eq (.string a0.fRoom), eq (.string a0.fUser), eq (.string a0.fEvent), eq (.string a0.fThread), eq (.bool a0.fPrivate), eq (.bool a0.fOn), eq (.int .i64 a0.fSpan), eq (.int .i64 a0.fState), eq (.int .i64 a0.fTick), eq (.int .i64 a0.fStamp)]]) (F := F) [0] 1 rfl rfl rfl)
    · replace H := Gets.ct H c495
      refine Dv.skip rfl ⟨_, _, rfl, rfl, .inl rfl⟩ ?_
      refine Dv.skip rfl ⟨_, _, rfl, rfl, .inl rfl⟩ ?_
      refine Dv.skip rfl ⟨_, _, rfl, rfl, .inl rfl⟩ ?_
      refine Dv.skip rfl ⟨_, _, rfl, rfl, .inl rfl⟩ ?_
      refine Dv.skip rfl ⟨_, _, rfl, rfl, .inl rfl⟩ ?_
      refine Dv.skip rfl ⟨_, _, rfl, rfl, .inl rfl⟩ ?_
      refine Dv.skip rfl ⟨_, _, rfl, rfl, .inl rfl⟩ ?_
      refine Dv.skip rfl ⟨_, _, rfl, rfl, .inl rfl⟩ ?_
      refine Dv.pickT rfl trivial rfl rfl ?_
      refine .fin ?_
      refine WP.cond rfl (fun _ => ?_) nofun
      refine WP.seq ?_
      refine WP.reg [(0, false)] (by kernel_rfl) ?_
      refine Dv.asg rfl trivial rfl ?_
      refine .fin ?_
      obtain rfl := Gets.out H
      exact WP.retL (fun _ _ h => h) rfl () trivial (.cons (res_tmp rfl) .nil) rfl (st_sel (L := [blk b492 24 [eq (.int .i64 a0.fKind), eq (.string a0.fRoom), eq (.string a0.fUser), eq (.string a0.fEvent), eq (.string a0.fThread), eq (.bool a0.fPrivate), eq (.bool a0.fOn), eq (.int .i64 a0.fSpan), eq (.int .i64 a0.fState), eq (.int .i64 a0.fTick), eq (.int .i64 a0.fStamp)]]) (F := F) [0] 1 rfl rfl rfl)
  · replace H := Gets.ct H c493
    refine Dv.skip rfl ⟨_, _, rfl, rfl, .inl rfl⟩ ?_
    refine Dv.skip rfl ⟨_, _, rfl, rfl, .inl rfl⟩ ?_
    refine Dv.skip rfl ⟨_, _, rfl, rfl, .inl rfl⟩ ?_
    refine Dv.pickT rfl trivial rfl rfl ?_
    refine Dv.mv rfl trivial rfl ?_
    refine Dv.skip rfl ⟨_, _, rfl, rfl, .inl rfl⟩ ?_
    refine Dv.skip rfl ⟨_, _, rfl, rfl, .inl rfl⟩ ?_
    refine Dv.skip rfl ⟨_, _, rfl, rfl, .inl rfl⟩ ?_
    refine Dv.skip rfl ⟨_, _, rfl, rfl, .inl rfl⟩ ?_
    refine Dv.skip rfl ⟨_, _, rfl, rfl, .inl rfl⟩ ?_
    refine Dv.skip rfl ⟨_, _, rfl, rfl, .inl rfl⟩ ?_
    refine Dv.skip rfl ⟨_, _, rfl, rfl, .inl rfl⟩ ?_
    refine Dv.skip rfl ⟨_, _, rfl, rfl, .inl rfl⟩ ?_
    refine Dv.pickT rfl trivial rfl rfl ?_
    refine .fin ?_
    refine WP.cond rfl (fun _ => ?_) nofun
    refine WP.seq ?_
    refine WP.reg [(0, false)] (by kernel_rfl) ?_
    refine Dv.asg rfl trivial rfl ?_
    refine .fin ?_
    obtain rfl := Gets.out H
    exact WP.retL (fun _ _ h => h) rfl () trivial (.cons (res_tmp rfl) .nil) rfl (st_sel (L := [blk b492 24 [eq (.int .i64 a0.fKind), eq (.string a0.fRoom), eq (.string a0.fUser), eq (.string a0.fEvent), eq (.string a0.fThread), eq (.bool a0.fPrivate), eq (.bool a0.fOn), eq (.int .i64 a0.fSpan), eq (.int .i64 a0.fState), eq (.int .i64 a0.fTick), eq (.int .i64 a0.fStamp)]]) (F := F) [0] 1 rfl rfl rfl)
theorem edu_May.c {k : Nat} {a0 : Edu} {r : Bool} (h : edu_May.f k a0 = some r) : Pt Try.prog 19 [agg (Edu.enc a0)] (eq (.bool r)) := by
  unfold edu_May.f at h
  refine (Tr.body Try.func19 (c := _) rfl Try.ntmps19 (Nat.le_of_ble_eq_true rfl) fun R0 F => ?_).pt
  replace h := Gets.of h
  have H := h
  clear h
  refine WP.seq ?_
  refine WP.reg [(0, true), (1, false)] (by kernel_rfl) ?_
  refine Dv.box rfl trivial rfl (cells_agg (Edu.K.one _)) nofun (fun b514 => ?_)
  refine Dv.asg rfl trivial rfl ?_
  refine .fin ?_
  refine WP.seq ?_
  refine WP.reg [(0, false), (1, false), (2, false), (3, false), (4, false), (5, false), (6, false), (7, false)] (by kernel_rfl) ?_
  refine Dv.ldbs rfl trivial rfl Try.underlying24 rfl c24 (mem_at 0 rfl) (Nat.le_of_ble_eq_true rfl) ?_
  obtain ⟨t515, h516, H⟩ := Gets.call H
  refine Dv.call rfl trivial cal33 rfl (edu_Local.c h516) ?_
  refine Dv.mv rfl trivial rfl ?_
  cases c517 : t515
  · replace H := Gets.cf H c517
    refine Dv.skip rfl ⟨_, _, rfl, rfl, .inl rfl⟩ ?_
    refine Dv.skip rfl ⟨_, _, rfl, rfl, .inl rfl⟩ ?_
    refine Dv.skip rfl ⟨_, _, rfl, rfl, .inl rfl⟩ ?_
    refine Dv.pickF rfl trivial rfl rfl ?_
    refine Dv.asg rfl trivial rfl ?_
    refine .fin ?_
    obtain rfl := Gets.out H
    exact WP.retL (fun _ _ h => h) rfl () trivial (.cons (res_tmp rfl) .nil) rfl (st_sel (L := [blk b514 24 [eq (.int .i64 a0.fKind), eq (.string a0.fRoom), eq (.string a0.fUser), eq (.string a0.fEvent), eq (.string a0.fThread), eq (.bool a0.fPrivate), eq (.bool a0.fOn), eq (.int .i64 a0.fSpan), eq (.int .i64 a0.fState), eq (.int .i64 a0.fTick), eq (.int .i64 a0.fStamp)]]) (F := F) [0] 1 rfl rfl rfl)
  · replace H := Gets.ct H c517
    refine Dv.fab rfl ⟨_, _, rfl, rfl, rfl⟩ rfl Try.underlying24 rfl Try.underlying4 c4 (by decide) ?_
    refine Dv.ldb rfl ⟨_, _, rfl, rfl, rfl⟩ rfl Try.underlying4 rfl (mem_at 0 rfl) rfl ?_
    refine Dv.un rfl ⟨_, _, rfl, rfl, rfl⟩ rfl (fun _ => run_not _) ?_
    refine Dv.pickT rfl trivial rfl rfl ?_
    refine Dv.asg rfl trivial rfl ?_
    refine .fin ?_
    obtain rfl := Gets.out H
    exact WP.retL (fun _ _ h => h) rfl () trivial (.cons (res_tmp rfl) .nil) rfl (st_sel (L := [blk b514 24 [eq (.int .i64 a0.fKind), eq (.string a0.fRoom), eq (.string a0.fUser), eq (.string a0.fEvent), eq (.string a0.fThread), eq (.bool a0.fPrivate), eq (.bool a0.fOn), eq (.int .i64 a0.fSpan), eq (.int .i64 a0.fState), eq (.int .i64 a0.fTick), eq (.int .i64 a0.fStamp)]]) (F := F) [0] 1 rfl rfl rfl)
theorem slices_BinarySearchFunc_Edu_string.c {k : Nat} {a0 : List Edu} {a1 : ByteArray} {a2 : Edu → ByteArray → Option Int} {r : Int × Bool} (h : slices_BinarySearchFunc_Edu_string.f k a0 a1 a2 = some r) : Pt Try.prog 34 [sl Edu.K a0, eq (.string a1), fq_api_Edu_string_int a2] (tup [eq (.int .i64 r.1), eq (.bool r.2)]) := by
  unfold slices_BinarySearchFunc_Edu_string.f at h
  refine (Tr.body Try.func34 (c := _) rfl Try.ntmps34 (Nat.le_of_ble_eq_true rfl) fun R0 F => ?_).pt
  replace h := Gets.of h
  have H := h
  clear h
  refine WP.seq ?_
  refine WP.reg [(0, false), (1, false)] (by kernel_rfl) ?_
  refine Dv.asg rfl trivial rfl ?_
  refine Dv.asg rfl trivial rfl ?_
  refine .fin ?_
  refine WP.seq ?_
  refine WP.reg [(0, false), (1, false), (2, false)] (by kernel_rfl) ?_
  refine Dv.mv rfl trivial rfl ?_
  refine Dv.lenl rfl trivial rfl Try.underlying22 ?_
  refine Dv.asg rfl trivial rfl ?_
  refine .fin ?_
  refine WP.seq ?_
  refine WP.reg [(0, false), (1, false), (2, false)] (by kernel_rfl) ?_
  refine Dv.mv rfl trivial rfl ?_
  refine Dv.asg rfl trivial rfl ?_
  refine Dv.asg rfl trivial rfl ?_
  refine .fin ?_
  refine WP.seqn H id (fun p518 : Int × Int × Bool => [(0, sl Edu.K a0), (1, eq (.string a1)), (2, fq_api_Edu_string_int a2), (6, eq (.int .i64 0)), (7, eq (.bool false)), (8, eq (.int .i64 (a0.length : Int))), (9, eq (.int .i64 p518.1)), (10, eq (.int .i64 p518.2.1)), (17, eq (.bool p518.2.2))]) (fun p518 : Int × Int × Bool => [] ++ F) (fun p518 H => ?_) (fun H => ?_)
  · refine WP.seq ?_
    refine WP.reg [(0, false), (1, false), (2, false), (3, false), (4, false), (5, false), (6, false), (7, false), (8, false), (9, false), (10, false), (11, false), (12, false), (13, false), (14, false), (15, false)] (by kernel_rfl) ?_
    refine Dv.mv rfl trivial rfl ?_
    refine Dv.mv rfl trivial rfl ?_
    refine Dv.mv rfl trivial rfl ?_
    refine Dv.bin rfl trivial rfl rfl (fun _ => run_lt) ?_
    refine Dv.mv rfl trivial rfl ?_
    cases c519 : decide (p518.1 < (a0.length : Int))
    · replace H := Gets.cf H c519
      refine Dv.skip rfl ⟨_, _, rfl, rfl, .inl rfl⟩ ?_
      refine Dv.skip rfl ⟨_, _, rfl, rfl, .inl rfl⟩ ?_
      refine Dv.skip rfl ⟨_, _, rfl, rfl, .inl rfl⟩ ?_
      refine Dv.skip rfl ⟨_, _, rfl, rfl, .inl rfl⟩ ?_
      refine Dv.skip rfl ⟨_, _, rfl, rfl, .inl rfl⟩ ?_
      refine Dv.skip rfl ⟨_, _, rfl, rfl, .inl rfl⟩ ?_
      refine Dv.skip rfl ⟨_, _, rfl, rfl, .inl rfl⟩ ?_
      refine Dv.skip rfl ⟨_, _, rfl, rfl, .inl rfl⟩ ?_
      refine Dv.pickF rfl trivial rfl rfl ?_
      refine Dv.asg rfl trivial rfl ?_
      refine Dv.asg rfl trivial rfl ?_
      refine .fin ?_
      obtain rfl := Gets.out H
      exact WP.retL (fun _ _ h => h) rfl () trivial (.cons (res_tmp rfl) (.cons (res_tmp rfl) .nil)) rfl (st_sel (L := []) (F := F) [] 0 rfl rfl rfl)
    · replace H := Gets.ct H c519
      refine Dv.mv rfl ⟨_, _, rfl, rfl, rfl⟩ rfl ?_
      refine Dv.mv rfl ⟨_, _, rfl, rfl, rfl⟩ rfl ?_
      refine Dv.mv rfl ⟨_, _, rfl, rfl, rfl⟩ rfl ?_
      obtain ⟨g520, H⟩ := Gets.grd H
      refine Dv.ixr rfl ⟨_, _, rfl, rfl, rfl⟩ rfl rfl Try.underlying22 Try.underlying24 c24 g520.1 g520.2 ?_
      refine Dv.ldrs rfl ⟨_, _, rfl, rfl, rfl⟩ rfl Try.underlying24 rfl c24 (Nat.le_of_ble_eq_true rfl) ?_
      refine Dv.mv rfl ⟨_, _, rfl, rfl, rfl⟩ rfl ?_
      obtain ⟨t521, h522, H⟩ := Gets.call H
      refine Dv.callq (ret := eq (.int .i64 t521)) rfl ⟨_, _, rfl, rfl, rfl⟩ rfl rfl ⟨_, _, _, h522, rfl, rfl⟩ ?_
      refine Dv.bin rfl ⟨_, _, rfl, rfl, rfl⟩ rfl rfl (fun _ => run_eq) ?_
      refine Dv.pickT rfl trivial rfl rfl ?_
      refine Dv.asg rfl trivial rfl ?_
      refine Dv.asg rfl trivial rfl ?_
      refine .fin ?_
      obtain rfl := Gets.out H
      exact WP.retL (fun _ _ h => h) rfl () trivial (.cons (res_tmp rfl) (.cons (res_tmp rfl) .nil)) rfl (st_sel (L := []) (F := F) [] 0 rfl rfl rfl)
  · refine WP.block ?_
    refine WP.gh (l' := fun _ => [] ++ F) (gh_of (st_selg (L := []) (F := F) [] 0 rfl rfl rfl)) (fun _ _ => ?_)
    refine WP.loopg (fun j_ (p531 : Int × Int) => slices_BinarySearchFunc_Edu_string.l0 k a0 a1 a2 j_ p531.1 p531.2) (0, (a0.length : Int)) H (fun p531 => [(0, sl Edu.K a0), (1, eq (.string a1)), (2, fq_api_Edu_string_int a2), (6, eq (.int .i64 0)), (7, eq (.bool false)), (8, eq (.int .i64 (a0.length : Int))), (9, eq (.int .i64 p531.1)), (10, eq (.int .i64 p531.2))]) (fun p531 => [] ++ F) (weak_cons rfl (weak_cons rfl (weak_cons rfl (weak_cons rfl (weak_cons rfl (weak_cons rfl (weak_cons rfl (weak_cons rfl weak_nil)))))))) (List.Perm.refl _) ?_
    rintro j_ ⟨x523, x524⟩ H
    rcases j_ with _ | j530
    · exact (Gets.no H).elim
    replace H : Gets (slices_BinarySearchFunc_Edu_string.l0 k a0 a1 a2 (j530 + 1) x523 x524) _ := H
    rw [slices_BinarySearchFunc_Edu_string.l0] at H
    refine WP.seq ?_
    refine WP.seq ?_
    refine WP.reg [(0, false), (1, false), (2, false)] (by kernel_rfl) ?_
    refine Dv.mv rfl trivial rfl ?_
    refine Dv.mv rfl trivial rfl ?_
    refine Dv.bin rfl trivial rfl rfl (fun _ => run_lt) ?_
    refine .fin ?_
    refine WP.cond rfl (fun c525 => ?_) (fun c525 => ?_)
    · replace H := Gets.ct H c525
      refine WP.skip ?_
      refine WP.block ?_
      refine WP.seq ?_
      refine WP.reg [(0, false), (1, false), (2, false), (3, false), (4, false), (5, false), (6, false)] (by kernel_rfl) ?_
      refine Dv.mv rfl trivial rfl ?_
      refine Dv.mv rfl trivial rfl ?_
      refine Dv.bin rfl trivial rfl rfl (fun _ => run_add) ?_
      refine Dv.cvi rfl trivial rfl Try.underlying3 Try.underlying84 ?_
      refine Dv.bin rfl trivial rfl rfl (fun _ => run_shr (by decide)) ?_
      refine Dv.cvi rfl trivial rfl Try.underlying84 Try.underlying3 ?_
      refine Dv.asg rfl trivial rfl ?_
      refine .fin ?_
      refine WP.seq ?_
      refine WP.reg [(0, false), (1, false), (2, false), (3, false), (4, false), (5, false), (6, false), (7, false)] (by kernel_rfl) ?_
      refine Dv.mv rfl trivial rfl ?_
      refine Dv.mv rfl trivial rfl ?_
      refine Dv.mv rfl trivial rfl ?_
      obtain ⟨g526, H⟩ := Gets.grd H
      refine Dv.ixr rfl trivial rfl rfl Try.underlying22 Try.underlying24 c24 g526.1 g526.2 ?_
      refine Dv.ldrs rfl trivial rfl Try.underlying24 rfl c24 (Nat.le_of_ble_eq_true rfl) ?_
      refine Dv.mv rfl trivial rfl ?_
      obtain ⟨t527, h528, H⟩ := Gets.call H
      refine Dv.callq (ret := eq (.int .i64 t527)) rfl trivial rfl rfl ⟨_, _, _, h528, rfl, rfl⟩ ?_
      refine Dv.bin rfl trivial rfl rfl (fun _ => run_lt) ?_
      refine .fin ?_
      refine WP.cond rfl (fun c529 => ?_) (fun c529 => ?_)
      · replace H := Gets.ct H c529
        refine WP.reg [(0, false), (1, false), (2, false)] (by kernel_rfl) ?_
        refine Dv.mv rfl trivial rfl ?_
        refine Dv.bin rfl trivial rfl rfl (fun _ => run_add) ?_
        refine Dv.asg rfl trivial rfl ?_
        refine .fin ?_
        exact Back.mk j530 (w64 ((w64 ((IntKind.u64.wrap (w64 (x523 + x524))).fdiv 2)) + 1), x524) (Nat.lt_succ_self _) H (weak_cons rfl (weak_cons rfl (weak_cons rfl (weak_cons rfl (weak_cons rfl (weak_cons rfl (weak_cons rfl (weak_cons rfl weak_nil)))))))) (List.Perm.refl _)
      · replace H := Gets.cf H c529
        refine WP.reg [(0, false), (1, false)] (by kernel_rfl) ?_
        refine Dv.mv rfl trivial rfl ?_
        refine Dv.asg rfl trivial rfl ?_
        refine .fin ?_
        exact Back.mk j530 (x523, w64 ((IntKind.u64.wrap (w64 (x523 + x524))).fdiv 2)) (Nat.lt_succ_self _) H (weak_cons rfl (weak_cons rfl (weak_cons rfl (weak_cons rfl (weak_cons rfl (weak_cons rfl (weak_cons rfl (weak_cons rfl weak_nil)))))))) (List.Perm.refl _)
    · replace H := Gets.cf H c525
      refine WP.exit ?_
      replace H := Gets.out H
      exact Jn.mk (x523, x524, decide (x523 < x524)) H (weak_cons rfl (weak_cons rfl (weak_cons rfl (weak_cons rfl (weak_cons rfl (weak_cons rfl (weak_cons rfl (weak_cons rfl (weak_cons rfl weak_nil))))))))) (List.Perm.refl _)
theorem cmp_isNaN_string.c {a0 : ByteArray} {r : Bool} (h : cmp_isNaN_string.f a0 = some r) : Pt Try.prog 55 [eq (.string a0)] (eq (.bool r)) := by
  unfold cmp_isNaN_string.f at h
  refine (Tr.body Try.func55 (c := _) rfl Try.ntmps55 (Nat.le_of_ble_eq_true rfl) fun R0 F => ?_).pt
  replace h := Gets.of h
  have H := h
  clear h
  refine WP.seq ?_
  refine WP.reg [(0, false)] (by kernel_rfl) ?_
  refine Dv.asg rfl trivial rfl ?_
  refine .fin ?_
  refine WP.seq ?_
  refine WP.reg [(0, false), (1, false), (2, false), (3, false)] (by kernel_rfl) ?_
  refine Dv.mv rfl trivial rfl ?_
  refine Dv.mv rfl trivial rfl ?_
  refine Dv.bin rfl trivial rfl rfl (fun _ => run_sne) ?_
  refine Dv.asg rfl trivial rfl ?_
  refine .fin ?_
  obtain rfl := Gets.out H
  exact WP.retL (fun _ _ h => h) rfl () trivial (.cons (res_tmp rfl) .nil) rfl (st_sel (L := []) (F := F) [] 0 rfl rfl rfl)
theorem cmp_Compare_string.c {a0 : ByteArray} {a1 : ByteArray} {r : Int} (h : cmp_Compare_string.f a0 a1 = some r) : Pt Try.prog 36 [eq (.string a0), eq (.string a1)] (eq (.int .i64 r)) := by
  unfold cmp_Compare_string.f at h
  refine (Tr.body Try.func36 (c := _) rfl Try.ntmps36 (Nat.le_of_ble_eq_true rfl) fun R0 F => ?_).pt
  replace h := Gets.of h
  have H := h
  clear h
  refine WP.seq ?_
  refine WP.reg [(0, false)] (by kernel_rfl) ?_
  refine Dv.asg rfl trivial rfl ?_
  refine .fin ?_
  refine WP.seq ?_
  refine WP.reg [(0, false), (1, false), (2, false)] (by kernel_rfl) ?_
  refine Dv.mv rfl trivial rfl ?_
  obtain ⟨t532, h533, H⟩ := Gets.call H
  refine Dv.call rfl trivial cal55 rfl (cmp_isNaN_string.c h533) ?_
  refine Dv.asg rfl trivial rfl ?_
  refine .fin ?_
  refine WP.seq ?_
  refine WP.reg [(0, false), (1, false), (2, false)] (by kernel_rfl) ?_
  refine Dv.mv rfl trivial rfl ?_
  obtain ⟨t534, h535, H⟩ := Gets.call H
  refine Dv.call rfl trivial cal55 rfl (cmp_isNaN_string.c h535) ?_
  refine Dv.asg rfl trivial rfl ?_
  refine .fin ?_
  refine WP.seq ?_
  refine WP.seq ?_
  refine WP.reg [(0, false)] (by kernel_rfl) ?_
  refine Dv.mv rfl trivial rfl ?_
  refine .fin ?_
  refine WP.cond rfl (fun c536 => ?_) (fun c536 => ?_)
  · replace H := Gets.ct H c536
    refine WP.seq ?_
    refine WP.seq ?_
    refine WP.reg [(0, false)] (by kernel_rfl) ?_
    refine Dv.mv rfl trivial rfl ?_
    refine .fin ?_
    refine WP.cond rfl (fun c537 => ?_) (fun c537 => ?_)
    · replace H := Gets.ct H c537
      refine WP.seq ?_
      refine WP.reg [(0, false)] (by kernel_rfl) ?_
      refine Dv.asg rfl trivial rfl ?_
      refine .fin ?_
      obtain rfl := Gets.out H
      exact WP.retL (fun _ _ h => h) rfl () trivial (.cons (res_tmp rfl) .nil) rfl (st_sel (L := []) (F := F) [] 0 rfl rfl rfl)
    · replace H := Gets.cf H c537
      refine WP.skip ?_
      refine WP.seq ?_
      refine WP.reg [(0, false)] (by kernel_rfl) ?_
      refine Dv.asg rfl trivial rfl ?_
      refine .fin ?_
      obtain rfl := Gets.out H
      exact WP.retL (fun _ _ h => h) rfl () trivial (.cons (res_tmp rfl) .nil) rfl (st_sel (L := []) (F := F) [] 0 rfl rfl rfl)
  · replace H := Gets.cf H c536
    refine WP.skip ?_
    refine WP.seq ?_
    refine WP.seq ?_
    refine WP.reg [(0, false)] (by kernel_rfl) ?_
    refine Dv.mv rfl trivial rfl ?_
    refine .fin ?_
    refine WP.cond rfl (fun c538 => ?_) (fun c538 => ?_)
    · replace H := Gets.ct H c538
      refine WP.seq ?_
      refine WP.reg [(0, false)] (by kernel_rfl) ?_
      refine Dv.asg rfl trivial rfl ?_
      refine .fin ?_
      obtain rfl := Gets.out H
      exact WP.retL (fun _ _ h => h) rfl () trivial (.cons (res_tmp rfl) .nil) rfl (st_sel (L := []) (F := F) [] 0 rfl rfl rfl)
    · replace H := Gets.cf H c538
      refine WP.skip ?_
      refine WP.seq ?_
      refine WP.seq ?_
      refine WP.reg [(0, false), (1, false), (2, false)] (by kernel_rfl) ?_
      refine Dv.mv rfl trivial rfl ?_
      refine Dv.mv rfl trivial rfl ?_
      refine Dv.bin rfl trivial rfl rfl (fun _ => run_slt) ?_
      refine .fin ?_
      refine WP.cond rfl (fun c539 => ?_) (fun c539 => ?_)
      · replace H := Gets.ct H c539
        refine WP.seq ?_
        refine WP.reg [(0, false)] (by kernel_rfl) ?_
        refine Dv.asg rfl trivial rfl ?_
        refine .fin ?_
        obtain rfl := Gets.out H
        exact WP.retL (fun _ _ h => h) rfl () trivial (.cons (res_tmp rfl) .nil) rfl (st_sel (L := []) (F := F) [] 0 rfl rfl rfl)
      · replace H := Gets.cf H c539
        refine WP.skip ?_
        refine WP.seq ?_
        refine WP.seq ?_
        refine WP.reg [(0, false), (1, false), (2, false)] (by kernel_rfl) ?_
        refine Dv.mv rfl trivial rfl ?_
        refine Dv.mv rfl trivial rfl ?_
        refine Dv.bin rfl trivial rfl rfl (fun _ => run_sgt) ?_
        refine .fin ?_
        refine WP.cond rfl (fun c540 => ?_) (fun c540 => ?_)
        · replace H := Gets.ct H c540
          refine WP.seq ?_
          refine WP.reg [(0, false)] (by kernel_rfl) ?_
          refine Dv.asg rfl trivial rfl ?_
          refine .fin ?_
          obtain rfl := Gets.out H
          exact WP.retL (fun _ _ h => h) rfl () trivial (.cons (res_tmp rfl) .nil) rfl (st_sel (L := []) (F := F) [] 0 rfl rfl rfl)
        · replace H := Gets.cf H c540
          refine WP.skip ?_
          refine WP.seq ?_
          refine WP.reg [(0, false)] (by kernel_rfl) ?_
          refine Dv.asg rfl trivial rfl ?_
          refine .fin ?_
          obtain rfl := Gets.out H
          exact WP.retL (fun _ _ h => h) rfl () trivial (.cons (res_tmp rfl) .nil) rfl (st_sel (L := []) (F := F) [] 0 rfl rfl rfl)
theorem presence_Table_place_1.c {a0 : Edu} {a1 : ByteArray} {r : Int} (h : presence_Table_place_1.f a0 a1 = some r) : Pt Try.prog 35 [agg (Edu.enc a0), eq (.string a1)] (eq (.int .i64 r)) := by
  unfold presence_Table_place_1.f at h
  refine (Tr.body Try.func35 (c := _) rfl Try.ntmps35 (Nat.le_of_ble_eq_true rfl) fun R0 F => ?_).pt
  replace h := Gets.of h
  have H := h
  clear h
  refine WP.seq ?_
  refine WP.reg [(0, true), (1, false)] (by kernel_rfl) ?_
  refine Dv.box rfl trivial rfl (cells_agg (Edu.K.one _)) nofun (fun b541 => ?_)
  refine Dv.asg rfl trivial rfl ?_
  refine .fin ?_
  refine WP.seq ?_
  refine WP.reg [(0, false), (1, false), (2, false), (3, false), (4, false)] (by kernel_rfl) ?_
  refine Dv.fab rfl trivial rfl Try.underlying24 rfl Try.underlying9 c9 (by decide) ?_
  refine Dv.ldb rfl trivial rfl Try.underlying9 rfl (mem_at 0 rfl) rfl ?_
  refine Dv.mv rfl trivial rfl ?_
  obtain ⟨t542, h543, H⟩ := Gets.call H
  refine Dv.call rfl trivial cal36 rfl (cmp_Compare_string.c h543) ?_
  refine Dv.asg rfl trivial rfl ?_
  refine .fin ?_
  obtain rfl := Gets.out H
  exact WP.retL (fun _ _ h => h) rfl () trivial (.cons (res_tmp rfl) .nil) rfl (st_sel (L := [blk b541 24 [eq (.int .i64 a0.fKind), eq (.string a0.fRoom), eq (.string a0.fUser), eq (.string a0.fEvent), eq (.string a0.fThread), eq (.bool a0.fPrivate), eq (.bool a0.fOn), eq (.int .i64 a0.fSpan), eq (.int .i64 a0.fState), eq (.int .i64 a0.fTick), eq (.int .i64 a0.fStamp)]]) (F := F) [0] 1 rfl rfl rfl)
theorem presence_Table_place.c {k : Nat} {a0 : PTab} {a1 : ByteArray} {v0_0 v0_1 : OV} {b0_ : Nat} {r : Int × Bool} (h : presence_Table_place.f k a0 a1 = some r) : Tr Try.prog 20 [eq (.pointer (some ⟨b0_, 0, none⟩)), eq (.string a1)] [blk b0_ 48 [eq v0_0.1, eq v0_1.1], own Edu.K v0_0.1 a0.fl] (γ := Unit) (fun _ => True) (fun g => tup [eq (.int .i64 r.1), eq (.bool r.2)]) (fun g => [blk b0_ 48 [eq v0_0.1, eq v0_1.1], own Edu.K v0_0.1 a0.fl]) := by
  unfold presence_Table_place.f at h
  refine Tr.body Try.func20 (c := _) rfl Try.ntmps20 (Nat.le_of_ble_eq_true rfl) fun R0 F => ?_
  replace h := Gets.of h
  have H := h
  clear h
  refine WP.seq ?_
  refine WP.reg [(0, false), (1, false)] (by kernel_rfl) ?_
  refine Dv.asg rfl trivial rfl ?_
  refine Dv.asg rfl trivial rfl ?_
  refine .fin ?_
  refine WP.seq ?_
  refine WP.reg [(0, false), (1, false), (2, false), (3, false), (4, false), (5, false), (6, false), (7, false), (8, false), (9, false)] (by kernel_rfl) ?_
  refine Dv.mv rfl trivial rfl ?_
  refine Dv.nilp rfl trivial rfl ?_
  refine Dv.fab rfl trivial rfl Try.underlying48 rfl Try.underlying22 c22 (by decide) ?_
  refine Dv.ldb rfl trivial rfl Try.underlying22 rfl (mem_at 0 rfl) rfl ?_
  refine Dv.mv rfl trivial rfl ?_
  obtain ⟨t544, h545, H⟩ := Gets.call H
  refine Dv.calll (B := [own Edu.K v0_0.1 a0.fl]) (F := [blk b0_ 48 [eq v0_0.1, eq v0_1.1]] ++ F) rfl trivial cal34 rfl (Pt.lend _ (Pt.weak (slices_BinarySearchFunc_Edu_string.c h545) (.cons wk_id (.cons wk_id (.cons (wk_fn cal35 (by rintro _ _ ⟨a0_, a1_, r_, h_, rfl, rfl⟩; exact presence_Table_place_1.c h_)) .nil)))) (.cons (lt_own (mem_at 0 rfl)) (.cons lt_id (.cons lt_id .nil))) (flat_tup (flats_cons flat_eq (flats_cons flat_eq flats_nil)))) (perm_to (L := [blk b0_ 48 [eq v0_0.1, eq v0_1.1], own Edu.K v0_0.1 a0.fl]) (F := F) [1, 0] rfl rfl rfl) ?_
  refine Dv.ext rfl trivial rfl rfl ?_
  refine Dv.ext rfl trivial rfl rfl ?_
  refine Dv.asg rfl trivial rfl ?_
  refine Dv.asg rfl trivial rfl ?_
  refine .fin ?_
  obtain rfl := Gets.out H
  exact WP.retL (fun _ _ h => h) rfl () trivial (.cons (res_tmp rfl) (.cons (res_tmp rfl) .nil)) rfl (st_sel (L := [blk b0_ 48 [eq v0_0.1, eq v0_1.1], own Edu.K v0_0.1 a0.fl]) (F := F) [0, 1] 0 rfl rfl rfl)
theorem edu_Of.c {a0 : Edu} {r : EKey} (h : edu_Of.f a0 = some r) : Pt Try.prog 37 [agg (Edu.enc a0)] (agg (EKey.enc r)) := by
  unfold edu_Of.f at h
  refine (Tr.body Try.func37 (c := _) rfl Try.ntmps37 (Nat.le_of_ble_eq_true rfl) fun R0 F => ?_).pt
  replace h := Gets.of h
  have H := h
  clear h
  refine WP.seq ?_
  refine WP.reg [(0, true), (1, true)] (by kernel_rfl) ?_
  refine Dv.box rfl trivial rfl (cells_agg (Edu.K.one _)) nofun (fun b546 => ?_)
  refine Dv.alloc (z := .agg #[.int .i64 0, .string ⟨#[]⟩, .string ⟨#[]⟩, .string ⟨#[]⟩, .bool false]) (qs := [eq (.int .i64 0), eq (.string (⟨#[]⟩ : ByteArray)), eq (.string (⟨#[]⟩ : ByteArray)), eq (.string (⟨#[]⟩ : ByteArray)), eq (.bool false)]) rfl trivial z68 rfl nofun (fun b547 => ?_)
  refine .fin ?_
  refine WP.seq ?_
  refine WP.reg [(0, false), (1, false), (2, false), (3, false), (4, false), (5, false), (6, false), (7, false), (8, false), (9, false), (10, false), (11, true)] (by kernel_rfl) ?_
  refine Dv.fab rfl trivial rfl Try.underlying24 rfl Try.underlying3 c3 (by decide) ?_
  refine Dv.ldb rfl trivial rfl Try.underlying3 rfl (mem_at 1 rfl) rfl ?_
  refine Dv.fab rfl trivial rfl Try.underlying24 rfl Try.underlying9 c9 (by decide) ?_
  refine Dv.ldb rfl trivial rfl Try.underlying9 rfl (mem_at 1 rfl) rfl ?_
  refine Dv.fab rfl trivial rfl Try.underlying24 rfl Try.underlying9 c9 (by decide) ?_
  refine Dv.ldb rfl trivial rfl Try.underlying9 rfl (mem_at 1 rfl) rfl ?_
  refine Dv.fab rfl trivial rfl Try.underlying24 rfl Try.underlying9 c9 (by decide) ?_
  refine Dv.ldb rfl trivial rfl Try.underlying9 rfl (mem_at 1 rfl) rfl ?_
  refine Dv.fab rfl trivial rfl Try.underlying24 rfl Try.underlying4 c4 (by decide) ?_
  refine Dv.ldb rfl trivial rfl Try.underlying4 rfl (mem_at 1 rfl) rfl ?_
  refine Dv.bld (css := [[eq (.int .i64 a0.fKind)], [eq (.string a0.fRoom)], [eq (.string a0.fUser)], [eq (.string a0.fThread)], [eq (.bool a0.fPrivate)]]) rfl trivial Try.underlying68 pl68 z68 rfl ⟨(cells_one (one_eq rfl)), ⟨(cells_one (one_eq rfl)), ⟨(cells_one (one_eq rfl)), ⟨(cells_one (one_eq rfl)), ⟨(cells_one (one_eq rfl)), trivial⟩⟩⟩⟩⟩ rfl rfl ?_
  refine Dv.stx ([blk b547 68 [eq (.int .i64 a0.fKind), eq (.string a0.fRoom), eq (.string a0.fUser), eq (.string a0.fThread), eq (.bool a0.fPrivate)], blk b546 24 [eq (.int .i64 a0.fKind), eq (.string a0.fRoom), eq (.string a0.fUser), eq (.string a0.fEvent), eq (.string a0.fThread), eq (.bool a0.fPrivate), eq (.bool a0.fOn), eq (.int .i64 a0.fSpan), eq (.int .i64 a0.fState), eq (.int .i64 a0.fTick), eq (.int .i64 a0.fStamp)]] ++ F) rfl trivial rfl rfl (cells_agg (ones_cons (one_eq rfl) (ones_cons (one_eq rfl) (ones_cons (one_eq rfl) (ones_cons (one_eq rfl) (ones_cons (one_eq rfl) ones_nil)))))) Try.underlying68 c68 rfl (j := 0) rfl (Nat.le_of_ble_eq_true rfl) rfl nofun ?_
  refine .fin ?_
  obtain rfl := Gets.out H
  exact WP.retL (fun _ _ h => h) rfl () trivial (.cons (res_cells rfl Try.underlying68 rfl c68 (mem_at 0 rfl) rfl) .nil) rfl (st_sel (L := [blk b547 68 [eq (.int .i64 a0.fKind), eq (.string a0.fRoom), eq (.string a0.fUser), eq (.string a0.fThread), eq (.bool a0.fPrivate)], blk b546 24 [eq (.int .i64 a0.fKind), eq (.string a0.fRoom), eq (.string a0.fUser), eq (.string a0.fEvent), eq (.string a0.fThread), eq (.bool a0.fPrivate), eq (.bool a0.fOn), eq (.int .i64 a0.fSpan), eq (.int .i64 a0.fState), eq (.int .i64 a0.fTick), eq (.int .i64 a0.fStamp)]]) (F := F) [0, 1] 2 rfl rfl rfl)
theorem cmp_Or_int.c {k : Nat} {a0 : List Int} {r : Int} (h : cmp_Or_int.f k a0 = some r) : Pt Try.prog 56 [sl (intK .i64) a0] (eq (.int .i64 r)) := by
  unfold cmp_Or_int.f at h
  refine (Tr.body Try.func56 (c := _) rfl Try.ntmps56 (Nat.le_of_ble_eq_true rfl) fun R0 F => ?_).pt
  replace h := Gets.of h
  have H := h
  clear h
  refine WP.seq ?_
  refine WP.reg [(0, false)] (by kernel_rfl) ?_
  refine Dv.asg rfl trivial rfl ?_
  refine .fin ?_
  refine WP.seq ?_
  refine WP.reg [(0, false)] (by kernel_rfl) ?_
  refine Dv.asg rfl trivial rfl ?_
  refine .fin ?_
  refine WP.seqr H id (fun p548 : Int × Bool => [(0, sl (intK .i64) a0), (2, eq (.int .i64 0)), (3, eq (.int .i64 0)), (6, sl (intK .i64) a0), (7, eq (.int .i64 (a0.length : Int))), (8, eq (.int .i64 p548.1)), (9, eq (.bool p548.2))]) (fun p548 : Int × Bool => [] ++ F) (fun p548 H => ?_) (fun H => ?_)
  · refine WP.seq ?_
    refine WP.reg [(0, false), (1, false)] (by kernel_rfl) ?_
    refine Dv.mv rfl trivial rfl ?_
    refine Dv.asg rfl trivial rfl ?_
    refine .fin ?_
    obtain rfl := Gets.out H
    exact WP.retL (fun _ _ h => h) rfl () trivial (.cons (res_tmp rfl) .nil) rfl (st_sel (L := []) (F := F) [] 0 rfl rfl rfl)
  · refine WP.seq ?_
    refine WP.reg [(0, false), (1, false), (2, false)] (by kernel_rfl) ?_
    refine Dv.mv rfl trivial rfl ?_
    refine Dv.lenl rfl trivial rfl Try.underlying27 ?_
    refine Dv.mv rfl trivial rfl ?_
    refine .fin ?_
    refine WP.block ?_
    refine WP.gh (l' := fun _ => [] ++ F) (gh_of (st_selg (L := []) (F := F) [] 0 rfl rfl rfl)) (fun _ _ => ?_)
    refine WP.loopg (fun j_ (p554 : Int) => cmp_Or_int.l0 k a0 j_ p554) 0 H (fun p554 => [(0, sl (intK .i64) a0), (2, eq (.int .i64 0)), (3, eq (.int .i64 0)), (6, sl (intK .i64) a0), (7, eq (.int .i64 (a0.length : Int))), (8, eq (.int .i64 p554))]) (fun p554 => [] ++ F) (weak_cons rfl (weak_cons rfl (weak_cons rfl (weak_cons rfl (weak_cons rfl (weak_cons rfl weak_nil)))))) (List.Perm.refl _) ?_
    rintro j_ x549 H
    rcases j_ with _ | j553
    · exact (Gets.no H).elim
    replace H : Gets (cmp_Or_int.l0 k a0 (j553 + 1) x549) _ := H
    rw [cmp_Or_int.l0] at H
    refine WP.seq ?_
    refine WP.reg [(0, false)] (by kernel_rfl) ?_
    refine Dv.bin rfl trivial rfl rfl (fun _ => run_lt) ?_
    refine .fin ?_
    refine WP.seq ?_
    refine WP.cond rfl (fun c550 => ?_) (fun c550 => ?_)
    · replace H := Gets.ct H c550
      refine WP.skip ?_
      refine WP.seq ?_
      refine WP.block ?_
      refine WP.seq ?_
      refine WP.reg [(0, false), (1, false), (2, false)] (by kernel_rfl) ?_
      obtain ⟨g551, H⟩ := Gets.grd H
      refine Dv.ixr rfl trivial rfl rfl Try.underlying27 Try.underlying3 c3 g551.1 g551.2 ?_
      refine Dv.ldr rfl trivial rfl Try.underlying3 rfl rfl ?_
      refine Dv.asg rfl trivial rfl ?_
      refine .fin ?_
      refine WP.seq ?_
      refine WP.reg [(0, false), (1, false), (2, false)] (by kernel_rfl) ?_
      refine Dv.mv rfl trivial rfl ?_
      refine Dv.mv rfl trivial rfl ?_
      refine Dv.bin rfl trivial rfl rfl (fun _ => run_ne) ?_
      refine .fin ?_
      refine WP.cond rfl (fun c552 => ?_) (fun c552 => ?_)
      · replace H := Gets.ct H c552
        refine WP.seq ?_
        refine WP.reg [(0, false), (1, false)] (by kernel_rfl) ?_
        refine Dv.mv rfl trivial rfl ?_
        refine Dv.asg rfl trivial rfl ?_
        refine .fin ?_
        replace H := Gets.outr H
        obtain rfl := Gets.out H
        exact WP.retL (fun _ _ h => h) rfl () trivial (.cons (res_tmp rfl) .nil) rfl (st_sel (L := []) (F := F) [] 0 rfl rfl rfl)
      · replace H := Gets.cf H c552
        refine WP.skip ?_
        refine WP.reg [(0, false), (1, false)] (by kernel_rfl) ?_
        refine Dv.bin rfl trivial rfl rfl (fun _ => run_add) ?_
        refine Dv.mv rfl trivial rfl ?_
        refine .fin ?_
        exact Back.mk j553 (w64 (x549 + 1)) (Nat.lt_succ_self _) H (weak_cons rfl (weak_cons rfl (weak_cons rfl (weak_cons rfl (weak_cons rfl (weak_cons rfl weak_nil)))))) (List.Perm.refl _)
    · replace H := Gets.cf H c550
      refine WP.exit ?_
      replace H := Gets.out H
      exact Jn.mk (x549, decide (x549 < (a0.length : Int))) H (weak_cons rfl (weak_cons rfl (weak_cons rfl (weak_cons rfl (weak_cons rfl (weak_cons rfl (weak_cons rfl weak_nil))))))) (List.Perm.refl _)
theorem cmp_isNaN_int.c {a0 : Int} {r : Bool} (h : cmp_isNaN_int.f a0 = some r) : Pt Try.prog 75 [eq (.int .i64 a0)] (eq (.bool r)) := by
  unfold cmp_isNaN_int.f at h
  refine (Tr.body Try.func75 (c := _) rfl Try.ntmps75 (Nat.le_of_ble_eq_true rfl) fun R0 F => ?_).pt
  replace h := Gets.of h
  have H := h
  clear h
  refine WP.seq ?_
  refine WP.reg [(0, false)] (by kernel_rfl) ?_
  refine Dv.asg rfl trivial rfl ?_
  refine .fin ?_
  refine WP.seq ?_
  refine WP.reg [(0, false), (1, false), (2, false), (3, false)] (by kernel_rfl) ?_
  refine Dv.mv rfl trivial rfl ?_
  refine Dv.mv rfl trivial rfl ?_
  refine Dv.bin rfl trivial rfl rfl (fun _ => run_ne) ?_
  refine Dv.asg rfl trivial rfl ?_
  refine .fin ?_
  obtain rfl := Gets.out H
  exact WP.retL (fun _ _ h => h) rfl () trivial (.cons (res_tmp rfl) .nil) rfl (st_sel (L := []) (F := F) [] 0 rfl rfl rfl)
theorem cmp_Compare_int.c {a0 : Int} {a1 : Int} {r : Int} (h : cmp_Compare_int.f a0 a1 = some r) : Pt Try.prog 57 [eq (.int .i64 a0), eq (.int .i64 a1)] (eq (.int .i64 r)) := by
  unfold cmp_Compare_int.f at h
  refine (Tr.body Try.func57 (c := _) rfl Try.ntmps57 (Nat.le_of_ble_eq_true rfl) fun R0 F => ?_).pt
  replace h := Gets.of h
  have H := h
  clear h
  refine WP.seq ?_
  refine WP.reg [(0, false)] (by kernel_rfl) ?_
  refine Dv.asg rfl trivial rfl ?_
  refine .fin ?_
  refine WP.seq ?_
  refine WP.reg [(0, false), (1, false), (2, false)] (by kernel_rfl) ?_
  refine Dv.mv rfl trivial rfl ?_
  obtain ⟨t555, h556, H⟩ := Gets.call H
  refine Dv.call rfl trivial cal75 rfl (cmp_isNaN_int.c h556) ?_
  refine Dv.asg rfl trivial rfl ?_
  refine .fin ?_
  refine WP.seq ?_
  refine WP.reg [(0, false), (1, false), (2, false)] (by kernel_rfl) ?_
  refine Dv.mv rfl trivial rfl ?_
  obtain ⟨t557, h558, H⟩ := Gets.call H
  refine Dv.call rfl trivial cal75 rfl (cmp_isNaN_int.c h558) ?_
  refine Dv.asg rfl trivial rfl ?_
  refine .fin ?_
  refine WP.seq ?_
  refine WP.seq ?_
  refine WP.reg [(0, false)] (by kernel_rfl) ?_
  refine Dv.mv rfl trivial rfl ?_
  refine .fin ?_
  refine WP.cond rfl (fun c559 => ?_) (fun c559 => ?_)
  · replace H := Gets.ct H c559
    refine WP.seq ?_
    refine WP.seq ?_
    refine WP.reg [(0, false)] (by kernel_rfl) ?_
    refine Dv.mv rfl trivial rfl ?_
    refine .fin ?_
    refine WP.cond rfl (fun c560 => ?_) (fun c560 => ?_)
    · replace H := Gets.ct H c560
      refine WP.seq ?_
      refine WP.reg [(0, false)] (by kernel_rfl) ?_
      refine Dv.asg rfl trivial rfl ?_
      refine .fin ?_
      obtain rfl := Gets.out H
      exact WP.retL (fun _ _ h => h) rfl () trivial (.cons (res_tmp rfl) .nil) rfl (st_sel (L := []) (F := F) [] 0 rfl rfl rfl)
    · replace H := Gets.cf H c560
      refine WP.skip ?_
      refine WP.seq ?_
      refine WP.reg [(0, false)] (by kernel_rfl) ?_
      refine Dv.asg rfl trivial rfl ?_
      refine .fin ?_
      obtain rfl := Gets.out H
      exact WP.retL (fun _ _ h => h) rfl () trivial (.cons (res_tmp rfl) .nil) rfl (st_sel (L := []) (F := F) [] 0 rfl rfl rfl)
  · replace H := Gets.cf H c559
    refine WP.skip ?_
    refine WP.seq ?_
    refine WP.seq ?_
    refine WP.reg [(0, false)] (by kernel_rfl) ?_
    refine Dv.mv rfl trivial rfl ?_
    refine .fin ?_
    refine WP.cond rfl (fun c561 => ?_) (fun c561 => ?_)
    · replace H := Gets.ct H c561
      refine WP.seq ?_
      refine WP.reg [(0, false)] (by kernel_rfl) ?_
      refine Dv.asg rfl trivial rfl ?_
      refine .fin ?_
      obtain rfl := Gets.out H
      exact WP.retL (fun _ _ h => h) rfl () trivial (.cons (res_tmp rfl) .nil) rfl (st_sel (L := []) (F := F) [] 0 rfl rfl rfl)
    · replace H := Gets.cf H c561
      refine WP.skip ?_
      refine WP.seq ?_
      refine WP.seq ?_
      refine WP.reg [(0, false), (1, false), (2, false)] (by kernel_rfl) ?_
      refine Dv.mv rfl trivial rfl ?_
      refine Dv.mv rfl trivial rfl ?_
      refine Dv.bin rfl trivial rfl rfl (fun _ => run_lt) ?_
      refine .fin ?_
      refine WP.cond rfl (fun c562 => ?_) (fun c562 => ?_)
      · replace H := Gets.ct H c562
        refine WP.seq ?_
        refine WP.reg [(0, false)] (by kernel_rfl) ?_
        refine Dv.asg rfl trivial rfl ?_
        refine .fin ?_
        obtain rfl := Gets.out H
        exact WP.retL (fun _ _ h => h) rfl () trivial (.cons (res_tmp rfl) .nil) rfl (st_sel (L := []) (F := F) [] 0 rfl rfl rfl)
      · replace H := Gets.cf H c562
        refine WP.skip ?_
        refine WP.seq ?_
        refine WP.seq ?_
        refine WP.reg [(0, false), (1, false), (2, false)] (by kernel_rfl) ?_
        refine Dv.mv rfl trivial rfl ?_
        refine Dv.mv rfl trivial rfl ?_
        refine Dv.bin rfl trivial rfl rfl (fun _ => run_gt) ?_
        refine .fin ?_
        refine WP.cond rfl (fun c563 => ?_) (fun c563 => ?_)
        · replace H := Gets.ct H c563
          refine WP.seq ?_
          refine WP.reg [(0, false)] (by kernel_rfl) ?_
          refine Dv.asg rfl trivial rfl ?_
          refine .fin ?_
          obtain rfl := Gets.out H
          exact WP.retL (fun _ _ h => h) rfl () trivial (.cons (res_tmp rfl) .nil) rfl (st_sel (L := []) (F := F) [] 0 rfl rfl rfl)
        · replace H := Gets.cf H c563
          refine WP.skip ?_
          refine WP.seq ?_
          refine WP.reg [(0, false)] (by kernel_rfl) ?_
          refine Dv.asg rfl trivial rfl ?_
          refine .fin ?_
          obtain rfl := Gets.out H
          exact WP.retL (fun _ _ h => h) rfl () trivial (.cons (res_tmp rfl) .nil) rfl (st_sel (L := []) (F := F) [] 0 rfl rfl rfl)
theorem bytes_Compare.c {a0 : List Int} {a1 : List Int} {r : Int} (h : bytes_Compare.f a0 a1 = some r) : Pt Try.prog 58 [sl (intK .u8) a0, sl (intK .u8) a1] (eq (.int .i64 r)) := by
  unfold bytes_Compare.f at h
  refine (Tr.body Try.func58 (c := _) rfl Try.ntmps58 (Nat.le_of_ble_eq_true rfl) fun R0 F => ?_).pt
  replace h := Gets.of h
  have H := h
  clear h
  refine WP.seq ?_
  refine WP.reg [(0, false)] (by kernel_rfl) ?_
  refine Dv.asg rfl trivial rfl ?_
  refine .fin ?_
  refine WP.seq ?_
  refine WP.reg [(0, false), (1, false), (2, false), (3, false)] (by kernel_rfl) ?_
  refine Dv.mv rfl trivial rfl ?_
  refine Dv.mv rfl trivial rfl ?_
  refine Dv.cext rfl trivial rfl (xt_cmp Try.func76 (by kernel_rfl) rfl xf76 xg76) ?_
  refine Dv.asg rfl trivial rfl ?_
  refine .fin ?_
  obtain rfl := Gets.out H
  exact WP.retL (fun _ _ h => h) rfl () trivial (.cons (res_tmp rfl) .nil) rfl (st_sel (L := []) (F := F) [] 0 rfl rfl rfl)
theorem lay_Number.c {k : Nat} {a0 : List Int} {a1 : Int} {p0_ : OV} {r : (List Int)} (h : lay_Number.f k a0 a1 = some r) : Tr Try.prog 77 [eq p0_.1, eq (.int .i64 a1)] [own (intK .u8) p0_.1 a0] (γ := OV) (fun _ => True) (fun g => eq g.1) (fun g => [own (intK .u8) g.1 r]) := by
  unfold lay_Number.f at h
  refine Tr.body Try.func77 (c := _) rfl Try.ntmps77 (Nat.le_of_ble_eq_true rfl) fun R0 F => ?_
  replace h := Gets.of h
  have H := h
  clear h
  refine WP.seq ?_
  refine WP.reg [(0, false)] (by kernel_rfl) ?_
  refine Dv.asg rfl trivial rfl ?_
  refine .fin ?_
  refine WP.seq ?_
  refine WP.reg [(0, false), (1, false), (2, false)] (by kernel_rfl) ?_
  refine Dv.mv rfl trivial rfl ?_
  refine Dv.maxi rfl trivial rfl rfl ?_
  refine Dv.asg rfl trivial rfl ?_
  refine .fin ?_
  refine WP.seq ?_
  refine WP.reg [(0, false), (1, false), (2, false), (3, false), (4, false), (5, true), (6, false)] (by kernel_rfl) ?_
  refine Dv.mv rfl trivial rfl ?_
  refine Dv.mv rfl trivial rfl ?_
  refine Dv.lenw rfl trivial rfl (mem_at 0 rfl) Try.underlying62 ?_
  refine Dv.mv rfl trivial rfl ?_
  refine Dv.lenw rfl trivial rfl (mem_at 0 rfl) Try.underlying62 ?_
  obtain ⟨g564, H⟩ := Gets.grd H
  refine Dv.slo (jj := 0) rfl trivial rfl rfl Try.underlying62 Try.underlying5 c5 bdE_none (bdE_some rfl g564.1) (.inr ⟨⟨_, _, rfl, g564.1, rfl⟩, rfl, rfl⟩) g564.2.1 g564.2.2 nofun (fun v565 => ?_)
  refine Dv.asg rfl trivial rfl ?_
  refine .fin ?_
  refine WP.seqn H (fun q578 : (Int × Bool × (List Int)) × OV => q578.1) (fun q578 : (Int × Bool × (List Int)) × OV => [(0, eq q578.2.1), (1, eq (.int .i64 q578.1.1)), (4, eq (.slice none 0 0)), (14, eq (.bool q578.1.2.1))]) (fun q578 : (Int × Bool × (List Int)) × OV => [own (intK .u8) q578.2.1 q578.1.2.2] ++ F) (fun q578 H => ?_) (fun H => ?_)
  · obtain ⟨p566, v567⟩ := q578
    refine WP.seq ?_
    refine WP.reg [(0, false), (1, false), (2, false), (3, false), (4, true), (5, false)] (by kernel_rfl) ?_
    refine Dv.mv rfl trivial rfl ?_
    refine Dv.mv rfl trivial rfl ?_
    refine Dv.cvi rfl trivial rfl Try.underlying3 Try.underlying5 ?_
    refine Dv.lit (intK .u8) ([IntKind.u8.wrap (p566.1)] : List Int) (css := [[eq (.int .u8 (IntKind.u8.wrap (p566.1)))]]) rfl trivial Try.underlying62 Try.underlying5 c5 z5 rfl (by decide) (by decide) rfl ⟨(cells_one (one_eq rfl)), trivial⟩ rfl rfl rfl ?_
    obtain ⟨g568, H⟩ := Gets.grd H
    refine Dv.appx (jj := 0) (ys := ([IntKind.u8.wrap (p566.1)] : List Int)) (fun v569 : OV => [own (intK .u8) v569.1 (p566.2.2 ++ ([IntKind.u8.wrap (p566.1)] : List Int))] ++ F) rfl trivial rfl rfl rfl src_sl Try.underlying62 (.inr ⟨_, Try.underlying62⟩) inf5 rfl (by decide) g568 rfl nofun (fun v569 => ?_)
    refine Dv.asg rfl trivial rfl ?_
    refine .fin ?_
    obtain rfl := Gets.out H
    exact WP.retL (fun _ _ h => h) rfl v569 trivial (.cons (res_tmp rfl) .nil) rfl (st_sel (L := [own (intK .u8) v569.1 (p566.2.2 ++ ([IntKind.u8.wrap (p566.1)] : List Int))]) (F := F) [0] 0 rfl rfl rfl)
  · refine WP.block ?_
    refine WP.gh (l' := fun _ => [own (intK .u8) v565.1 ((a0.take ((a0.length : Int).toNat)).drop 0)] ++ F) (gh_of (st_selg (L := [own (intK .u8) v565.1 ((a0.take ((a0.length : Int).toNat)).drop 0)]) (F := F) [0] 0 rfl rfl rfl)) (fun _ _ => ?_)
    refine WP.loopg (fun j_ (p577 : Int × (List Int) × OV) => lay_Number.l0 k j_ p577.1 p577.2.1) (max a1 0, (a0.take ((a0.length : Int).toNat)).drop 0, v565) H (fun p577 => [(0, eq p577.2.2.1), (1, eq (.int .i64 p577.1)), (4, eq (.slice none 0 0))]) (fun p577 => [own (intK .u8) p577.2.2.1 p577.2.1] ++ F) (weak_cons rfl (weak_cons rfl (weak_cons rfl weak_nil))) (List.Perm.refl _) ?_
    rintro j_ ⟨x570, x571, v572⟩ H
    rcases j_ with _ | j576
    · exact (Gets.no H).elim
    replace H : Gets (lay_Number.l0 k (j576 + 1) x570 x571) _ := H
    rw [lay_Number.l0] at H
    refine WP.seq ?_
    refine WP.seq ?_
    refine WP.reg [(0, false), (1, false)] (by kernel_rfl) ?_
    refine Dv.mv rfl trivial rfl ?_
    refine Dv.bin rfl trivial rfl rfl (fun _ => run_ge) ?_
    refine .fin ?_
    refine WP.cond rfl (fun c573 => ?_) (fun c573 => ?_)
    · replace H := Gets.ct H c573
      refine WP.skip ?_
      refine WP.seq ?_
      refine WP.block ?_
      refine WP.reg [(0, false), (1, false), (2, false), (3, false), (4, false), (5, false), (6, true), (7, false)] (by kernel_rfl) ?_
      refine Dv.mv rfl trivial rfl ?_
      refine Dv.mv rfl trivial rfl ?_
      refine Dv.bin rfl trivial rfl rfl (fun _ => run_rem (by decide)) ?_
      refine Dv.bin rfl trivial rfl rfl (fun _ => run_add) ?_
      refine Dv.cvi rfl trivial rfl Try.underlying3 Try.underlying5 ?_
      refine Dv.lit (intK .u8) ([IntKind.u8.wrap (w64 ((x570.tmod 128) + 128))] : List Int) (css := [[eq (.int .u8 (IntKind.u8.wrap (w64 ((x570.tmod 128) + 128))))]]) rfl trivial Try.underlying62 Try.underlying5 c5 z5 rfl (by decide) (by decide) rfl ⟨(cells_one (one_eq rfl)), trivial⟩ rfl rfl rfl ?_
      obtain ⟨g574, H⟩ := Gets.grd H
      refine Dv.appx (jj := 0) (ys := ([IntKind.u8.wrap (w64 ((x570.tmod 128) + 128))] : List Int)) (fun v575 : OV => [own (intK .u8) v575.1 (x571 ++ ([IntKind.u8.wrap (w64 ((x570.tmod 128) + 128))] : List Int))] ++ F) rfl trivial rfl rfl rfl src_sl Try.underlying62 (.inr ⟨_, Try.underlying62⟩) inf5 rfl (by decide) g574 rfl nofun (fun v575 => ?_)
      refine Dv.asg rfl trivial rfl ?_
      refine .fin ?_
      refine WP.reg [(0, false), (1, false), (2, false)] (by kernel_rfl) ?_
      refine Dv.mv rfl trivial rfl ?_
      refine Dv.bin rfl trivial rfl rfl (fun _ => run_quo (by decide)) ?_
      refine Dv.asg rfl trivial rfl ?_
      refine .fin ?_
      exact Back.mk j576 (w64 (x570.tdiv 128), x571 ++ ([IntKind.u8.wrap (w64 ((x570.tmod 128) + 128))] : List Int), v575) (Nat.lt_succ_self _) H (weak_cons rfl (weak_cons rfl (weak_cons rfl weak_nil))) (List.Perm.refl _)
    · replace H := Gets.cf H c573
      refine WP.exit ?_
      replace H := Gets.out H
      exact Jn.mk ((x570, decide (128 ≤ x570), x571), v572) H (weak_cons rfl (weak_cons rfl (weak_cons rfl (weak_cons rfl weak_nil)))) (List.Perm.refl _)
theorem lay_Text.c {k : Nat} {a0 : List Int} {a1 : ByteArray} {p0_ : OV} {r : (List Int)} (h : lay_Text.f k a0 a1 = some r) : Tr Try.prog 78 [eq p0_.1, eq (.string a1)] [own (intK .u8) p0_.1 a0] (γ := OV) (fun _ => True) (fun g => eq g.1) (fun g => [own (intK .u8) g.1 r]) := by
  unfold lay_Text.f at h
  refine Tr.body Try.func78 (c := _) rfl Try.ntmps78 (Nat.le_of_ble_eq_true rfl) fun R0 F => ?_
  replace h := Gets.of h
  have H := h
  clear h
  refine WP.seq ?_
  refine WP.reg [(0, false)] (by kernel_rfl) ?_
  refine Dv.asg rfl trivial rfl ?_
  refine .fin ?_
  refine WP.seq ?_
  refine WP.reg [(0, false), (1, false), (2, false), (3, true), (4, false), (5, true), (6, false)] (by kernel_rfl) ?_
  refine Dv.mv rfl trivial rfl ?_
  refine Dv.mv rfl trivial rfl ?_
  refine Dv.lens rfl trivial rfl Try.underlying9 ?_
  obtain ⟨t579, h580, H⟩ := Gets.call H
  refine Dv.callx (pre := [own (intK .u8) p0_.1 a0]) (F := [] ++ F) (fun g581 : OV => [own (intK .u8) g581.1 t579] ++ F) rfl trivial cal77 rfl (lay_Number.c h580 (p0_ := p0_)) (perm_to (L := [own (intK .u8) p0_.1 a0]) (F := F) [0] rfl rfl rfl) rfl nofun (fun g581 _ => ?_)
  refine Dv.mv rfl trivial rfl ?_
  obtain ⟨g582, H⟩ := Gets.grd H
  refine Dv.appx (jj := 0) (ys := strBs a1) (fun v583 : OV => [own (intK .u8) v583.1 (t579 ++ (strBs a1))] ++ F) rfl trivial rfl rfl rfl src_str Try.underlying62 (.inl Try.underlying9) inf5 rfl (by decide) g582 rfl nofun (fun v583 => ?_)
  refine Dv.asg rfl trivial rfl ?_
  refine .fin ?_
  obtain rfl := Gets.out H
  exact WP.retL (fun _ _ h => h) rfl v583 trivial (.cons (res_tmp rfl) .nil) rfl (st_sel (L := [own (intK .u8) v583.1 (t579 ++ (strBs a1))]) (F := F) [0] 0 rfl rfl rfl)
theorem lay_Flag.c {k : Nat} {a0 : List Int} {a1 : Bool} {p0_ : OV} {r : (List Int)} (h : lay_Flag.f k a0 a1 = some r) : Tr Try.prog 79 [eq p0_.1, eq (.bool a1)] [own (intK .u8) p0_.1 a0] (γ := OV) (fun _ => True) (fun g => eq g.1) (fun g => [own (intK .u8) g.1 r]) := by
  unfold lay_Flag.f at h
  refine Tr.body Try.func79 (c := _) rfl Try.ntmps79 (Nat.le_of_ble_eq_true rfl) fun R0 F => ?_
  replace h := Gets.of h
  have H := h
  clear h
  refine WP.seq ?_
  refine WP.reg [(0, false)] (by kernel_rfl) ?_
  refine Dv.asg rfl trivial rfl ?_
  refine .fin ?_
  refine WP.seq ?_
  refine WP.seq ?_
  refine WP.reg [(0, false)] (by kernel_rfl) ?_
  refine Dv.mv rfl trivial rfl ?_
  refine .fin ?_
  refine WP.cond rfl (fun c584 => ?_) (fun c584 => ?_)
  · replace H := Gets.ct H c584
    refine WP.seq ?_
    refine WP.reg [(0, false), (1, true), (2, false)] (by kernel_rfl) ?_
    refine Dv.mv rfl trivial rfl ?_
    obtain ⟨t585, h586, H⟩ := Gets.call H
    refine Dv.callx (pre := [own (intK .u8) p0_.1 a0]) (F := [] ++ F) (fun g587 : OV => [own (intK .u8) g587.1 t585] ++ F) rfl trivial cal77 rfl (lay_Number.c h586 (p0_ := p0_)) (perm_to (L := [own (intK .u8) p0_.1 a0]) (F := F) [0] rfl rfl rfl) rfl nofun (fun g587 _ => ?_)
    refine Dv.asg rfl trivial rfl ?_
    refine .fin ?_
    obtain rfl := Gets.out H
    exact WP.retL (fun _ _ h => h) rfl g587 trivial (.cons (res_tmp rfl) .nil) rfl (st_sel (L := [own (intK .u8) g587.1 t585]) (F := F) [0] 0 rfl rfl rfl)
  · replace H := Gets.cf H c584
    refine WP.skip ?_
    refine WP.seq ?_
    refine WP.reg [(0, false), (1, true), (2, false)] (by kernel_rfl) ?_
    refine Dv.mv rfl trivial rfl ?_
    obtain ⟨t588, h589, H⟩ := Gets.call H
    refine Dv.callx (pre := [own (intK .u8) p0_.1 a0]) (F := [] ++ F) (fun g590 : OV => [own (intK .u8) g590.1 t588] ++ F) rfl trivial cal77 rfl (lay_Number.c h589 (p0_ := p0_)) (perm_to (L := [own (intK .u8) p0_.1 a0]) (F := F) [0] rfl rfl rfl) rfl nofun (fun g590 _ => ?_)
    refine Dv.asg rfl trivial rfl ?_
    refine .fin ?_
    obtain rfl := Gets.out H
    exact WP.retL (fun _ _ h => h) rfl g590 trivial (.cons (res_tmp rfl) .nil) rfl (st_sel (L := [own (intK .u8) g590.1 t588]) (F := F) [0] 0 rfl rfl rfl)
end Go.Proofs.Ytegmafgodoikiaa
