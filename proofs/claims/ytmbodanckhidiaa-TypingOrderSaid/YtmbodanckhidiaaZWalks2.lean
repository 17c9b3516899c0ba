/- The walks. -/
import Derived.Test.YtmbodanckhidiaaZWalks1
import Derived.Test.YtmbodanckhidiaaConU
import Derived.Eval
set_option linter.all false
set_option maxRecDepth 10000
set_option maxHeartbeats 20000000
namespace Go.Proofs.Ytmbodanckhidiaa
open Go Go.Sp
theorem concourseref14_Put.c {k : Nat} {a0 : TRef} {a1 : Edu} {r : TRef × Bool × Int} (h : concourseref14_Put.f k a0 a1 = some r) : Pt Try.prog 8 [agg (TRef.enc a0), agg (Edu.enc a1)] (tup [agg (TRef.enc r.1), eq (.bool r.2.1), eq (.int .i64 r.2.2)]) := by
  unfold concourseref14_Put.f at h
  refine (Tr.body Try.func8 (c := _) rfl Try.ntmps8 (Nat.le_of_ble_eq_true rfl) fun R0 F => ?_).pt
  replace h := Gets.of h
  have H := h
  clear h
  refine WP.seq ?_
  refine WP.reg [(0, true), (1, true), (2, true), (3, false), (4, false)] (by kernel_rfl) ?_
  refine Dv.box rfl trivial rfl (cells_agg (TRef.K.one _)) nofun (fun b254 => ?_)
  refine Dv.box rfl trivial rfl (cells_agg (Edu.K.one _)) nofun (fun b255 => ?_)
  refine Dv.alloc (z := .agg #[.slice none 0 0, .slice none 0 0]) (qs := [eq (.slice none 0 0), eq (.slice none 0 0)]) rfl trivial z27 rfl nofun (fun b256 => ?_)
  refine Dv.asg rfl trivial rfl ?_
  refine Dv.asg rfl trivial rfl ?_
  refine .fin ?_
  refine WP.seq ?_
  refine WP.reg [(0, false), (1, false), (2, false)] (by kernel_rfl) ?_
  refine Dv.ldbs rfl trivial rfl Try.underlying32 rfl c32 (mem_at 1 rfl) (Nat.le_of_ble_eq_true rfl) ?_
  obtain ⟨t257, h258, H⟩ := Gets.call H
  refine Dv.call rfl trivial cal26 rfl (concourseref03_May.c h258) ?_
  refine Dv.asg rfl trivial rfl ?_
  refine .fin ?_
  refine WP.seq ?_
  refine WP.seq ?_
  refine WP.reg [(0, false), (1, false), (2, false), (3, false), (4, false), (5, false), (6, false)] (by kernel_rfl) ?_
  refine Dv.fab rfl trivial rfl Try.underlying32 rfl Try.underlying3 c3 (by decide) ?_
  refine Dv.ldb rfl trivial rfl Try.underlying3 rfl (mem_at 1 rfl) rfl ?_
  refine Dv.bin rfl trivial rfl rfl (fun _ => run_ne) ?_
  refine Dv.mv rfl trivial rfl ?_
  cases c259 : (a1.fKind != 2)
  · replace H := Gets.cf H c259
    refine Dv.mv rfl ⟨_, _, rfl, rfl, rfl⟩ rfl ?_
    refine Dv.un rfl ⟨_, _, rfl, rfl, rfl⟩ rfl (fun _ => run_not _) ?_
    refine Dv.pickF rfl trivial rfl rfl ?_
    refine .fin ?_
    refine WP.cond rfl (fun c261 => ?_) (fun c261 => ?_)
    · replace H := Gets.ct H c261
      refine WP.seq ?_
      refine WP.reg [(0, false), (1, true), (2, false), (3, false)] (by kernel_rfl) ?_
      refine Dv.ldbs rfl trivial rfl Try.underlying27 rfl c27 (mem_at 2 rfl) (Nat.le_of_ble_eq_true rfl) ?_
      refine Dv.stx ([blk b256 27 [sl Edu.K a0.fL, sl boolK a0.fTold], blk b255 32 [eq (.int .i64 a1.fKind), eq (.string a1.fRoom), eq (.string a1.fUser), eq (.string a1.fEvent), eq (.string a1.fThread), eq (.bool a1.fPrivate), eq (.bool a1.fOn), eq (.int .i64 a1.fSpan), eq (.int .i64 a1.fState), eq (.int .i64 a1.fTick), eq (.int .i64 a1.fStamp)], blk b254 27 [sl Edu.K a0.fL, sl boolK a0.fTold]] ++ F) rfl trivial rfl rfl (cells_agg (TRef.K.one _)) Try.underlying27 c27 rfl (j := 0) rfl (Nat.le_of_ble_eq_true rfl) rfl nofun ?_
      refine Dv.asg rfl trivial rfl ?_
      refine Dv.asg rfl trivial rfl ?_
      refine .fin ?_
      obtain rfl := Gets.out H
      exact WP.retL (fun _ _ h => h) rfl () trivial (.cons (res_cells rfl Try.underlying27 rfl c27 (mem_at 0 rfl) rfl) (.cons (res_tmp rfl) (.cons (res_tmp rfl) .nil))) rfl (st_sel (L := [blk b256 27 [sl Edu.K a0.fL, sl boolK a0.fTold], blk b255 32 [eq (.int .i64 a1.fKind), eq (.string a1.fRoom), eq (.string a1.fUser), eq (.string a1.fEvent), eq (.string a1.fThread), eq (.bool a1.fPrivate), eq (.bool a1.fOn), eq (.int .i64 a1.fSpan), eq (.int .i64 a1.fState), eq (.int .i64 a1.fTick), eq (.int .i64 a1.fStamp)], blk b254 27 [sl Edu.K a0.fL, sl boolK a0.fTold]]) (F := F) [0, 1, 2] 3 rfl rfl rfl)
    · replace H := Gets.cf H c261
      refine WP.skip ?_
      refine WP.seq ?_
      refine WP.reg [(0, true)] (by kernel_rfl) ?_
      refine Dv.alloc (z := .agg #[.slice none 0 0, .slice none 0 0]) (qs := [eq (.slice none 0 0), eq (.slice none 0 0)]) rfl trivial z27 rfl nofun (fun b262 => ?_)
      refine .fin ?_
      refine WP.seq ?_
      refine WP.reg [(0, false)] (by kernel_rfl) ?_
      refine Dv.asg rfl trivial rfl ?_
      refine .fin ?_
      refine WP.seqr H (fun q336 : (Bool × Int × Bool × (List Edu) × (List Bool)) × OV × OV => q336.1) (fun q336 : (Bool × Int × Bool × (List Edu) × (List Bool)) × OV × OV => [(0, agg (TRef.enc a0)), (1, agg (Edu.enc a1)), (2, eq (.pointer (some ⟨b254, 0, none⟩))), (3, eq (.pointer (some ⟨b255, 0, none⟩))), (4, eq (.pointer (some ⟨b256, 0, none⟩))), (5, eq (.bool false)), (6, eq (.int .i64 0)), (7, eq (.bool t257)), (8, eq (.pointer (some ⟨b262, 0, none⟩))), (9, eq (.bool q336.1.1)), (10, eq (.int .i64 q336.1.2.1)), (20, eq (.bool (!t257))), (26, eq (.bool q336.1.2.2.1))]) (fun q336 : (Bool × Int × Bool × (List Edu) × (List Bool)) × OV × OV => [blk b262 27 [eq q336.2.1.1, eq q336.2.2.1], blk b256 27 [eq (.slice none 0 0), eq (.slice none 0 0)], blk b255 32 [eq (.int .i64 a1.fKind), eq (.string a1.fRoom), eq (.string a1.fUser), eq (.string a1.fEvent), eq (.string a1.fThread), eq (.bool a1.fPrivate), eq (.bool a1.fOn), eq (.int .i64 a1.fSpan), eq (.int .i64 a1.fState), eq (.int .i64 a1.fTick), eq (.int .i64 a1.fStamp)], blk b254 27 [sl Edu.K a0.fL, sl boolK a0.fTold], own Edu.K q336.2.1.1 q336.1.2.2.2.1, own boolK q336.2.2.1 q336.1.2.2.2.2] ++ F) (fun q336 H => ?_) (fun H => ?_)
      · obtain ⟨p263, v264, v265⟩ := q336
        refine WP.seq ?_
        refine WP.seq ?_
        refine WP.reg [(0, false), (1, false)] (by kernel_rfl) ?_
        refine Dv.mv rfl trivial rfl ?_
        refine Dv.un rfl trivial rfl (fun _ => run_not _) ?_
        refine .fin ?_
        refine WP.cond rfl (fun c266 => ?_) (fun c266 => ?_)
        · replace H := Gets.ct H c266
          refine WP.seq ?_
          refine WP.reg [(0, false), (1, false), (2, false), (3, false), (4, true), (5, false), (6, true)] (by kernel_rfl) ?_
          refine Dv.fab rfl trivial rfl Try.underlying27 rfl Try.underlying22 c22 (by decide) ?_
          refine Dv.ldb rfl trivial rfl Try.underlying22 rfl (mem_at 0 rfl) rfl ?_
          refine Dv.ldbs rfl trivial rfl Try.underlying32 rfl c32 (mem_at 2 rfl) (Nat.le_of_ble_eq_true rfl) ?_
          refine Dv.lit Edu.K ([a1] : List Edu) (css := [Edu.enc a1]) rfl trivial Try.underlying22 Try.underlying32 c32 z32 rfl (by decide) (by decide) rfl ⟨(cells_agg (Edu.K.one _)), trivial⟩ rfl rfl rfl ?_
          obtain ⟨g267, H⟩ := Gets.grd H
          refine Dv.appx (jj := 4) (ys := ([a1] : List Edu)) (fun v268 : OV => [blk b262 27 [eq v264.1, eq v265.1], blk b256 27 [eq (.slice none 0 0), eq (.slice none 0 0)], blk b255 32 [eq (.int .i64 a1.fKind), eq (.string a1.fRoom), eq (.string a1.fUser), eq (.string a1.fEvent), eq (.string a1.fThread), eq (.bool a1.fPrivate), eq (.bool a1.fOn), eq (.int .i64 a1.fSpan), eq (.int .i64 a1.fState), eq (.int .i64 a1.fTick), eq (.int .i64 a1.fStamp)], blk b254 27 [sl Edu.K a0.fL, sl boolK a0.fTold], own Edu.K v268.1 (p263.2.2.2.1 ++ ([a1] : List Edu)), own boolK v265.1 p263.2.2.2.2] ++ F) rfl trivial rfl rfl rfl src_sl Try.underlying22 (.inr ⟨_, Try.underlying22⟩) inf32 rfl (by decide) g267 rfl nofun (fun v268 => ?_)
          refine Dv.fab rfl trivial rfl Try.underlying27 rfl Try.underlying22 c22 (by decide) ?_
          refine Dv.stx ([blk b262 27 [eq v268.1, eq v265.1], blk b256 27 [eq (.slice none 0 0), eq (.slice none 0 0)], blk b255 32 [eq (.int .i64 a1.fKind), eq (.string a1.fRoom), eq (.string a1.fUser), eq (.string a1.fEvent), eq (.string a1.fThread), eq (.bool a1.fPrivate), eq (.bool a1.fOn), eq (.int .i64 a1.fSpan), eq (.int .i64 a1.fState), eq (.int .i64 a1.fTick), eq (.int .i64 a1.fStamp)], blk b254 27 [sl Edu.K a0.fL, sl boolK a0.fTold], own Edu.K v268.1 (p263.2.2.2.1 ++ ([a1] : List Edu)), own boolK v265.1 p263.2.2.2.2] ++ F) rfl trivial rfl rfl (cells_one one_ov) Try.underlying22 c22 rfl (j := 0) rfl (Nat.le_of_ble_eq_true rfl) rfl nofun ?_
          refine .fin ?_
          refine WP.reg [(0, false), (1, false), (2, false), (3, true), (4, false), (5, true)] (by kernel_rfl) ?_
          refine Dv.fab rfl trivial rfl Try.underlying27 rfl Try.underlying25 c25 (by decide) ?_
          refine Dv.ldb rfl trivial rfl Try.underlying25 rfl (mem_at 0 rfl) rfl ?_
          refine Dv.lit boolK ([false] : List Bool) (css := [[eq (.bool false)]]) rfl trivial Try.underlying25 Try.underlying4 c4 z4 rfl (by decide) (by decide) rfl ⟨(cells_one (one_eq rfl)), trivial⟩ rfl rfl rfl ?_
          obtain ⟨g269, H⟩ := Gets.grd H
          refine Dv.appx (jj := 5) (ys := ([false] : List Bool)) (fun v270 : OV => [blk b262 27 [eq v268.1, eq v265.1], blk b256 27 [eq (.slice none 0 0), eq (.slice none 0 0)], blk b255 32 [eq (.int .i64 a1.fKind), eq (.string a1.fRoom), eq (.string a1.fUser), eq (.string a1.fEvent), eq (.string a1.fThread), eq (.bool a1.fPrivate), eq (.bool a1.fOn), eq (.int .i64 a1.fSpan), eq (.int .i64 a1.fState), eq (.int .i64 a1.fTick), eq (.int .i64 a1.fStamp)], blk b254 27 [sl Edu.K a0.fL, sl boolK a0.fTold], own Edu.K v268.1 (p263.2.2.2.1 ++ ([a1] : List Edu)), own boolK v270.1 (p263.2.2.2.2 ++ ([false] : List Bool))] ++ F) rfl trivial rfl rfl rfl src_sl Try.underlying25 (.inr ⟨_, Try.underlying25⟩) inf4 rfl (by decide) g269 rfl nofun (fun v270 => ?_)
          refine Dv.fab rfl trivial rfl Try.underlying27 rfl Try.underlying25 c25 (by decide) ?_
          refine Dv.stx ([blk b262 27 [eq v268.1, eq v270.1], blk b256 27 [eq (.slice none 0 0), eq (.slice none 0 0)], blk b255 32 [eq (.int .i64 a1.fKind), eq (.string a1.fRoom), eq (.string a1.fUser), eq (.string a1.fEvent), eq (.string a1.fThread), eq (.bool a1.fPrivate), eq (.bool a1.fOn), eq (.int .i64 a1.fSpan), eq (.int .i64 a1.fState), eq (.int .i64 a1.fTick), eq (.int .i64 a1.fStamp)], blk b254 27 [sl Edu.K a0.fL, sl boolK a0.fTold], own Edu.K v268.1 (p263.2.2.2.1 ++ ([a1] : List Edu)), own boolK v270.1 (p263.2.2.2.2 ++ ([false] : List Bool))] ++ F) rfl trivial rfl rfl (cells_one one_ov) Try.underlying25 c25 rfl (j := 0) rfl (Nat.le_of_ble_eq_true rfl) rfl nofun ?_
          refine .fin ?_
          refine WP.seq ?_
          refine WP.reg [(0, false), (1, true), (2, false), (3, false)] (by kernel_rfl) ?_
          refine Dv.ldbs rfl trivial rfl Try.underlying27 rfl c27 (mem_at 0 rfl) (Nat.le_of_ble_eq_true rfl) ?_
          refine Dv.stx ([blk b262 27 [eq v268.1, eq v270.1], blk b256 27 [eq v268.1, eq v270.1], blk b255 32 [eq (.int .i64 a1.fKind), eq (.string a1.fRoom), eq (.string a1.fUser), eq (.string a1.fEvent), eq (.string a1.fThread), eq (.bool a1.fPrivate), eq (.bool a1.fOn), eq (.int .i64 a1.fSpan), eq (.int .i64 a1.fState), eq (.int .i64 a1.fTick), eq (.int .i64 a1.fStamp)], blk b254 27 [sl Edu.K a0.fL, sl boolK a0.fTold], own Edu.K v268.1 (p263.2.2.2.1 ++ ([a1] : List Edu)), own boolK v270.1 (p263.2.2.2.2 ++ ([false] : List Bool))] ++ F) rfl trivial rfl rfl (cells_agg (ones_cons one_ov (ones_cons one_ov ones_nil))) Try.underlying27 c27 rfl (j := 1) rfl (Nat.le_of_ble_eq_true rfl) rfl nofun ?_
          refine Dv.asg rfl trivial rfl ?_
          refine Dv.asg rfl trivial rfl ?_
          refine .fin ?_
          refine WP.gh (gh_frz (E' := [(4, eq (.pointer (some ⟨b256, 0, none⟩))), (5, eq (.bool true)), (6, eq (.int .i64 0))]) (l' := [blk b262 27 [sl Edu.K (p263.2.2.2.1 ++ ([a1] : List Edu)), eq v270.1], blk b256 27 [sl Edu.K (p263.2.2.2.1 ++ ([a1] : List Edu)), eq v270.1], blk b255 32 [eq (.int .i64 a1.fKind), eq (.string a1.fRoom), eq (.string a1.fUser), eq (.string a1.fEvent), eq (.string a1.fThread), eq (.bool a1.fPrivate), eq (.bool a1.fOn), eq (.int .i64 a1.fSpan), eq (.int .i64 a1.fState), eq (.int .i64 a1.fTick), eq (.int .i64 a1.fStamp)], blk b254 27 [sl Edu.K a0.fL, sl boolK a0.fTold], own boolK v270.1 (p263.2.2.2.2 ++ ([false] : List Bool))] ++ F) 4 rfl (cve_cons rfl cv_id (cve_cons rfl cv_id (cve_cons rfl cv_id cve_nil))) (all2_app (.cons (cva_blk (.cons cv_eq (.cons cv_id .nil))) (.cons (cva_blk (.cons cv_eq (.cons cv_id .nil))) (.cons cva_id (.cons cva_id (.cons cva_id .nil))))) fun _ => cva_id)) (fun _ _ => ?_)
          refine WP.gh (gh_frz (E' := [(4, eq (.pointer (some ⟨b256, 0, none⟩))), (5, eq (.bool true)), (6, eq (.int .i64 0))]) (l' := [blk b262 27 [sl Edu.K (p263.2.2.2.1 ++ ([a1] : List Edu)), sl boolK (p263.2.2.2.2 ++ ([false] : List Bool))], blk b256 27 [sl Edu.K (p263.2.2.2.1 ++ ([a1] : List Edu)), sl boolK (p263.2.2.2.2 ++ ([false] : List Bool))], blk b255 32 [eq (.int .i64 a1.fKind), eq (.string a1.fRoom), eq (.string a1.fUser), eq (.string a1.fEvent), eq (.string a1.fThread), eq (.bool a1.fPrivate), eq (.bool a1.fOn), eq (.int .i64 a1.fSpan), eq (.int .i64 a1.fState), eq (.int .i64 a1.fTick), eq (.int .i64 a1.fStamp)], blk b254 27 [sl Edu.K a0.fL, sl boolK a0.fTold]] ++ F) 4 rfl (cve_cons rfl cv_id (cve_cons rfl cv_id (cve_cons rfl cv_id cve_nil))) (all2_app (.cons (cva_blk (.cons cv_id (.cons cv_eq .nil))) (.cons (cva_blk (.cons cv_id (.cons cv_eq .nil))) (.cons cva_id (.cons cva_id .nil)))) fun _ => cva_id)) (fun _ _ => ?_)
          obtain rfl := Gets.out H
          exact WP.retL (fun _ _ h => h) rfl () trivial (.cons (res_cells rfl Try.underlying27 rfl c27 (mem_at 1 rfl) rfl) (.cons (res_tmp rfl) (.cons (res_tmp rfl) .nil))) rfl (st_sel (L := [blk b262 27 [sl Edu.K (p263.2.2.2.1 ++ ([a1] : List Edu)), sl boolK (p263.2.2.2.2 ++ ([false] : List Bool))], blk b256 27 [sl Edu.K (p263.2.2.2.1 ++ ([a1] : List Edu)), sl boolK (p263.2.2.2.2 ++ ([false] : List Bool))], blk b255 32 [eq (.int .i64 a1.fKind), eq (.string a1.fRoom), eq (.string a1.fUser), eq (.string a1.fEvent), eq (.string a1.fThread), eq (.bool a1.fPrivate), eq (.bool a1.fOn), eq (.int .i64 a1.fSpan), eq (.int .i64 a1.fState), eq (.int .i64 a1.fTick), eq (.int .i64 a1.fStamp)], blk b254 27 [sl Edu.K a0.fL, sl boolK a0.fTold]]) (F := F) [0, 1, 2, 3] 4 rfl rfl rfl)
        · replace H := Gets.cf H c266
          refine WP.skip ?_
          refine WP.seq ?_
          refine WP.reg [(0, false), (1, true), (2, false), (3, false)] (by kernel_rfl) ?_
          refine Dv.ldbs rfl trivial rfl Try.underlying27 rfl c27 (mem_at 0 rfl) (Nat.le_of_ble_eq_true rfl) ?_
          refine Dv.stx ([blk b262 27 [eq v264.1, eq v265.1], blk b256 27 [eq v264.1, eq v265.1], blk b255 32 [eq (.int .i64 a1.fKind), eq (.string a1.fRoom), eq (.string a1.fUser), eq (.string a1.fEvent), eq (.string a1.fThread), eq (.bool a1.fPrivate), eq (.bool a1.fOn), eq (.int .i64 a1.fSpan), eq (.int .i64 a1.fState), eq (.int .i64 a1.fTick), eq (.int .i64 a1.fStamp)], blk b254 27 [sl Edu.K a0.fL, sl boolK a0.fTold], own Edu.K v264.1 p263.2.2.2.1, own boolK v265.1 p263.2.2.2.2] ++ F) rfl trivial rfl rfl (cells_agg (ones_cons one_ov (ones_cons one_ov ones_nil))) Try.underlying27 c27 rfl (j := 1) rfl (Nat.le_of_ble_eq_true rfl) rfl nofun ?_
          refine Dv.asg rfl trivial rfl ?_
          refine Dv.asg rfl trivial rfl ?_
          refine .fin ?_
          refine WP.gh (gh_frz (E' := [(4, eq (.pointer (some ⟨b256, 0, none⟩))), (5, eq (.bool true)), (6, eq (.int .i64 0))]) (l' := [blk b262 27 [sl Edu.K p263.2.2.2.1, eq v265.1], blk b256 27 [sl Edu.K p263.2.2.2.1, eq v265.1], blk b255 32 [eq (.int .i64 a1.fKind), eq (.string a1.fRoom), eq (.string a1.fUser), eq (.string a1.fEvent), eq (.string a1.fThread), eq (.bool a1.fPrivate), eq (.bool a1.fOn), eq (.int .i64 a1.fSpan), eq (.int .i64 a1.fState), eq (.int .i64 a1.fTick), eq (.int .i64 a1.fStamp)], blk b254 27 [sl Edu.K a0.fL, sl boolK a0.fTold], own boolK v265.1 p263.2.2.2.2] ++ F) 4 rfl (cve_cons rfl cv_id (cve_cons rfl cv_id (cve_cons rfl cv_id cve_nil))) (all2_app (.cons (cva_blk (.cons cv_eq (.cons cv_id .nil))) (.cons (cva_blk (.cons cv_eq (.cons cv_id .nil))) (.cons cva_id (.cons cva_id (.cons cva_id .nil))))) fun _ => cva_id)) (fun _ _ => ?_)
          refine WP.gh (gh_frz (E' := [(4, eq (.pointer (some ⟨b256, 0, none⟩))), (5, eq (.bool true)), (6, eq (.int .i64 0))]) (l' := [blk b262 27 [sl Edu.K p263.2.2.2.1, sl boolK p263.2.2.2.2], blk b256 27 [sl Edu.K p263.2.2.2.1, sl boolK p263.2.2.2.2], blk b255 32 [eq (.int .i64 a1.fKind), eq (.string a1.fRoom), eq (.string a1.fUser), eq (.string a1.fEvent), eq (.string a1.fThread), eq (.bool a1.fPrivate), eq (.bool a1.fOn), eq (.int .i64 a1.fSpan), eq (.int .i64 a1.fState), eq (.int .i64 a1.fTick), eq (.int .i64 a1.fStamp)], blk b254 27 [sl Edu.K a0.fL, sl boolK a0.fTold]] ++ F) 4 rfl (cve_cons rfl cv_id (cve_cons rfl cv_id (cve_cons rfl cv_id cve_nil))) (all2_app (.cons (cva_blk (.cons cv_id (.cons cv_eq .nil))) (.cons (cva_blk (.cons cv_id (.cons cv_eq .nil))) (.cons cva_id (.cons cva_id .nil)))) fun _ => cva_id)) (fun _ _ => ?_)
          obtain rfl := Gets.out H
          exact WP.retL (fun _ _ h => h) rfl () trivial (.cons (res_cells rfl Try.underlying27 rfl c27 (mem_at 1 rfl) rfl) (.cons (res_tmp rfl) (.cons (res_tmp rfl) .nil))) rfl (st_sel (L := [blk b262 27 [sl Edu.K p263.2.2.2.1, sl boolK p263.2.2.2.2], blk b256 27 [sl Edu.K p263.2.2.2.1, sl boolK p263.2.2.2.2], blk b255 32 [eq (.int .i64 a1.fKind), eq (.string a1.fRoom), eq (.string a1.fUser), eq (.string a1.fEvent), eq (.string a1.fThread), eq (.bool a1.fPrivate), eq (.bool a1.fOn), eq (.int .i64 a1.fSpan), eq (.int .i64 a1.fState), eq (.int .i64 a1.fTick), eq (.int .i64 a1.fStamp)], blk b254 27 [sl Edu.K a0.fL, sl boolK a0.fTold]]) (F := F) [0, 1, 2, 3] 4 rfl rfl rfl)
      · refine WP.seq ?_
        refine WP.reg [(0, false)] (by kernel_rfl) ?_
        refine Dv.asg rfl trivial rfl ?_
        refine .fin ?_
        refine WP.block ?_
        refine WP.gh (gh_of (st_nil Edu.K none)) (fun _ _ => ?_)
        refine WP.gh (gh_of (st_nil boolK none)) (fun _ _ => ?_)
        refine WP.gh (l' := fun _ => [blk b262 27 [eq nilV.1, eq nilV1.1], blk b256 27 [eq (.slice none 0 0), eq (.slice none 0 0)], blk b255 32 [eq (.int .i64 a1.fKind), eq (.string a1.fRoom), eq (.string a1.fUser), eq (.string a1.fEvent), eq (.string a1.fThread), eq (.bool a1.fPrivate), eq (.bool a1.fOn), eq (.int .i64 a1.fSpan), eq (.int .i64 a1.fState), eq (.int .i64 a1.fTick), eq (.int .i64 a1.fStamp)], blk b254 27 [sl Edu.K a0.fL, sl boolK a0.fTold], own Edu.K nilV.1 ([] : List Edu), own boolK nilV1.1 ([] : List Bool)] ++ F) (gh_of (st_selg (L := [own boolK nilV1.1 ([] : List Bool), own Edu.K nilV.1 ([] : List Edu), blk b262 27 [eq nilV.1, eq nilV1.1], blk b256 27 [eq (.slice none 0 0), eq (.slice none 0 0)], blk b255 32 [eq (.int .i64 a1.fKind), eq (.string a1.fRoom), eq (.string a1.fUser), eq (.string a1.fEvent), eq (.string a1.fThread), eq (.bool a1.fPrivate), eq (.bool a1.fOn), eq (.int .i64 a1.fSpan), eq (.int .i64 a1.fState), eq (.int .i64 a1.fTick), eq (.int .i64 a1.fStamp)], blk b254 27 [sl Edu.K a0.fL, sl boolK a0.fTold]]) (F := F) [2, 3, 4, 5, 1, 0] 0 (by kernel_rfl) rfl rfl)) (fun _ _ => ?_)
        refine WP.loopg (fun j_ (p335 : Bool × Int × (List Edu) × (List Bool) × OV × OV) => concourseref14_Put.l0 k a0 a1 j_ p335.1 p335.2.1 p335.2.2.1 p335.2.2.2.1) (false, 0, ([] : List Edu), ([] : List Bool), nilV, nilV1) H (fun p335 => [(0, agg (TRef.enc a0)), (1, agg (Edu.enc a1)), (2, eq (.pointer (some ⟨b254, 0, none⟩))), (3, eq (.pointer (some ⟨b255, 0, none⟩))), (4, eq (.pointer (some ⟨b256, 0, none⟩))), (5, eq (.bool false)), (6, eq (.int .i64 0)), (7, eq (.bool t257)), (8, eq (.pointer (some ⟨b262, 0, none⟩))), (9, eq (.bool p335.1)), (10, eq (.int .i64 p335.2.1)), (20, eq (.bool (!t257)))]) (fun p335 => [blk b262 27 [eq p335.2.2.2.2.1.1, eq p335.2.2.2.2.2.1], blk b256 27 [eq (.slice none 0 0), eq (.slice none 0 0)], blk b255 32 [eq (.int .i64 a1.fKind), eq (.string a1.fRoom), eq (.string a1.fUser), eq (.string a1.fEvent), eq (.string a1.fThread), eq (.bool a1.fPrivate), eq (.bool a1.fOn), eq (.int .i64 a1.fSpan), eq (.int .i64 a1.fState), eq (.int .i64 a1.fTick), eq (.int .i64 a1.fStamp)], blk b254 27 [sl Edu.K a0.fL, sl boolK a0.fTold], own Edu.K p335.2.2.2.2.1.1 p335.2.2.1, own boolK p335.2.2.2.2.2.1 p335.2.2.2.1] ++ F) (weak_cons rfl (weak_cons rfl (weak_cons rfl (weak_cons rfl (weak_cons rfl (weak_cons rfl (weak_cons rfl (weak_cons rfl (weak_cons rfl (weak_cons rfl (weak_cons rfl (weak_cons rfl weak_nil)))))))))))) (List.Perm.refl _) ?_
        rintro j_ ⟨x271, x272, x273, x274, v275, v276⟩ H
        rcases j_ with _ | j334
        · exact (Gets.no H).elim
        replace H : Gets (concourseref14_Put.l0 k a0 a1 (j334 + 1) x271 x272 x273 x274) _ := H
        rw [concourseref14_Put.l0] at H
        refine WP.seq ?_
        refine WP.seq ?_
        refine WP.reg [(0, false), (1, false), (2, false), (3, false), (4, false)] (by kernel_rfl) ?_
        refine Dv.mv rfl trivial rfl ?_
        refine Dv.fab rfl trivial rfl Try.underlying27 rfl Try.underlying22 c22 (by decide) ?_
        refine Dv.ldb rfl trivial rfl Try.underlying22 rfl (mem_at 3 rfl) rfl ?_
        refine Dv.lenl rfl trivial rfl Try.underlying22 ?_
        refine Dv.bin rfl trivial rfl rfl (fun _ => run_lt) ?_
        refine .fin ?_
        refine WP.cond rfl (fun c277 => ?_) (fun c277 => ?_)
        · replace H := Gets.ct H c277
          refine WP.skip ?_
          refine WP.seq ?_
          refine WP.block ?_
          refine WP.seq ?_
          refine WP.reg [(0, false), (1, false), (2, false), (3, false), (4, false), (5, true), (6, true)] (by kernel_rfl) ?_
          refine Dv.fab rfl trivial rfl Try.underlying27 rfl Try.underlying22 c22 (by decide) ?_
          refine Dv.ldb rfl trivial rfl Try.underlying22 rfl (mem_at 3 rfl) rfl ?_
          refine Dv.mv rfl trivial rfl ?_
          obtain ⟨g278, H⟩ := Gets.grd H
          refine Dv.ixr rfl trivial rfl rfl Try.underlying22 Try.underlying32 c32 g278.1 g278.2 ?_
          refine Dv.ldrs rfl trivial rfl Try.underlying32 rfl c32 (Nat.le_of_ble_eq_true rfl) ?_
          refine Dv.alloc (z := .agg #[.int .i64 0, .string ⟨#[]⟩, .string ⟨#[]⟩, .string ⟨#[]⟩, .string ⟨#[]⟩, .bool false, .bool false, .int .i64 0, .int .i64 0, .int .i64 0, .int .i64 0]) (qs := [eq (.int .i64 0), eq (.string (⟨#[]⟩ : ByteArray)), eq (.string (⟨#[]⟩ : ByteArray)), eq (.string (⟨#[]⟩ : ByteArray)), eq (.string (⟨#[]⟩ : ByteArray)), eq (.bool false), eq (.bool false), eq (.int .i64 0), eq (.int .i64 0), eq (.int .i64 0), eq (.int .i64 0)]) rfl trivial z32 rfl nofun (fun b279 => ?_)
          refine Dv.stx ([blk b279 32 [eq (.int .i64 ((Edu.K.at a0.fL x272).fKind)), eq (.string ((Edu.K.at a0.fL x272).fRoom)), eq (.string ((Edu.K.at a0.fL x272).fUser)), eq (.string ((Edu.K.at a0.fL x272).fEvent)), eq (.string ((Edu.K.at a0.fL x272).fThread)), eq (.bool ((Edu.K.at a0.fL x272).fPrivate)), eq (.bool ((Edu.K.at a0.fL x272).fOn)), eq (.int .i64 ((Edu.K.at a0.fL x272).fSpan)), eq (.int .i64 ((Edu.K.at a0.fL x272).fState)), eq (.int .i64 ((Edu.K.at a0.fL x272).fTick)), eq (.int .i64 ((Edu.K.at a0.fL x272).fStamp))], blk b262 27 [eq v275.1, eq v276.1], blk b256 27 [eq (.slice none 0 0), eq (.slice none 0 0)], blk b255 32 [eq (.int .i64 a1.fKind), eq (.string a1.fRoom), eq (.string a1.fUser), eq (.string a1.fEvent), eq (.string a1.fThread), eq (.bool a1.fPrivate), eq (.bool a1.fOn), eq (.int .i64 a1.fSpan), eq (.int .i64 a1.fState), eq (.int .i64 a1.fTick), eq (.int .i64 a1.fStamp)], blk b254 27 [sl Edu.K a0.fL, sl boolK a0.fTold], own Edu.K v275.1 x273, own boolK v276.1 x274] ++ F) rfl trivial rfl rfl (cells_agg (Edu.K.one _)) Try.underlying32 c32 rfl (j := 0) rfl (Nat.le_of_ble_eq_true rfl) rfl nofun ?_
          refine .fin ?_
          refine WP.seq ?_
          refine WP.seq ?_
          refine WP.reg [(0, false), (1, false), (2, false), (3, false), (4, false), (5, false), (6, false), (7, false), (8, false), (9, false), (10, false), (11, false)] (by kernel_rfl) ?_
          refine Dv.fab rfl trivial rfl Try.underlying32 rfl Try.underlying9 c9 (by decide) ?_
          refine Dv.ldb rfl trivial rfl Try.underlying9 rfl (mem_at 0 rfl) rfl ?_
          refine Dv.fab rfl trivial rfl Try.underlying32 rfl Try.underlying9 c9 (by decide) ?_
          refine Dv.ldb rfl trivial rfl Try.underlying9 rfl (mem_at 3 rfl) rfl ?_
          refine Dv.bin rfl trivial rfl rfl (fun _ => run_seq) ?_
          refine Dv.mv rfl trivial rfl ?_
          cases c280 : decide (((Edu.K.at a0.fL x272).fRoom) = a1.fRoom)
          · replace H := Gets.cf H c280
            refine Dv.skip rfl ⟨_, _, rfl, rfl, .inl rfl⟩ ?_
            refine Dv.skip rfl ⟨_, _, rfl, rfl, .inl rfl⟩ ?_
            refine Dv.skip rfl ⟨_, _, rfl, rfl, .inl rfl⟩ ?_
            refine Dv.skip rfl ⟨_, _, rfl, rfl, .inl rfl⟩ ?_
            refine Dv.skip rfl ⟨_, _, rfl, rfl, .inl rfl⟩ ?_
            refine Dv.pickF rfl trivial rfl rfl ?_
            refine .fin ?_
            refine WP.cond rfl nofun (fun _ => ?_)
            refine WP.skip ?_
            refine WP.seqn H (fun q333 : (Bool × Bool × (List Edu) × (List Bool)) × OV × OV => q333.1) (fun q333 : (Bool × Bool × (List Edu) × (List Bool)) × OV × OV => [(0, agg (TRef.enc a0)), (1, agg (Edu.enc a1)), (2, eq (.pointer (some ⟨b254, 0, none⟩))), (3, eq (.pointer (some ⟨b255, 0, none⟩))), (4, eq (.pointer (some ⟨b256, 0, none⟩))), (5, eq (.bool false)), (6, eq (.int .i64 0)), (7, eq (.bool t257)), (8, eq (.pointer (some ⟨b262, 0, none⟩))), (9, eq (.bool q333.1.1)), (10, eq (.int .i64 x272)), (11, eq (.pointer (some ⟨b279, 0, none⟩))), (20, eq (.bool (!t257))), (26, eq (.bool (decide (x272 < (a0.fL.length : Int))))), (45, eq (.bool false)), (73, eq (.bool q333.1.2.1))]) (fun q333 : (Bool × Bool × (List Edu) × (List Bool)) × OV × OV => [blk b279 32 [eq (.int .i64 ((Edu.K.at a0.fL x272).fKind)), eq (.string ((Edu.K.at a0.fL x272).fRoom)), eq (.string ((Edu.K.at a0.fL x272).fUser)), eq (.string ((Edu.K.at a0.fL x272).fEvent)), eq (.string ((Edu.K.at a0.fL x272).fThread)), eq (.bool ((Edu.K.at a0.fL x272).fPrivate)), eq (.bool ((Edu.K.at a0.fL x272).fOn)), eq (.int .i64 ((Edu.K.at a0.fL x272).fSpan)), eq (.int .i64 ((Edu.K.at a0.fL x272).fState)), eq (.int .i64 ((Edu.K.at a0.fL x272).fTick)), eq (.int .i64 ((Edu.K.at a0.fL x272).fStamp))], blk b262 27 [eq q333.2.1.1, eq q333.2.2.1], blk b256 27 [eq (.slice none 0 0), eq (.slice none 0 0)], blk b255 32 [eq (.int .i64 a1.fKind), eq (.string a1.fRoom), eq (.string a1.fUser), eq (.string a1.fEvent), eq (.string a1.fThread), eq (.bool a1.fPrivate), eq (.bool a1.fOn), eq (.int .i64 a1.fSpan), eq (.int .i64 a1.fState), eq (.int .i64 a1.fTick), eq (.int .i64 a1.fStamp)], blk b254 27 [sl Edu.K a0.fL, sl boolK a0.fTold], own Edu.K q333.2.1.1 q333.1.2.2.1, own boolK q333.2.2.1 q333.1.2.2.2] ++ F) (fun q333 H => ?_) (fun H => ?_)
            · obtain ⟨p310, v311, v312⟩ := q333
              refine WP.seq ?_
              refine WP.reg [(0, false), (1, false), (2, false), (3, false), (4, true), (5, false), (6, true)] (by kernel_rfl) ?_
              refine Dv.fab rfl trivial rfl Try.underlying27 rfl Try.underlying22 c22 (by decide) ?_
              refine Dv.ldb rfl trivial rfl Try.underlying22 rfl (mem_at 1 rfl) rfl ?_
              refine Dv.ldbs rfl trivial rfl Try.underlying32 rfl c32 (mem_at 0 rfl) (Nat.le_of_ble_eq_true rfl) ?_
              refine Dv.lit Edu.K ([Edu.K.at a0.fL x272] : List Edu) (css := [Edu.enc (Edu.K.at a0.fL x272)]) rfl trivial Try.underlying22 Try.underlying32 c32 z32 rfl (by decide) (by decide) rfl ⟨(cells_agg (Edu.K.one _)), trivial⟩ rfl rfl rfl ?_
              obtain ⟨g313, H⟩ := Gets.grd H
              refine Dv.appx (jj := 5) (ys := ([Edu.K.at a0.fL x272] : List Edu)) (fun v314 : OV => [blk b279 32 [eq (.int .i64 ((Edu.K.at a0.fL x272).fKind)), eq (.string ((Edu.K.at a0.fL x272).fRoom)), eq (.string ((Edu.K.at a0.fL x272).fUser)), eq (.string ((Edu.K.at a0.fL x272).fEvent)), eq (.string ((Edu.K.at a0.fL x272).fThread)), eq (.bool ((Edu.K.at a0.fL x272).fPrivate)), eq (.bool ((Edu.K.at a0.fL x272).fOn)), eq (.int .i64 ((Edu.K.at a0.fL x272).fSpan)), eq (.int .i64 ((Edu.K.at a0.fL x272).fState)), eq (.int .i64 ((Edu.K.at a0.fL x272).fTick)), eq (.int .i64 ((Edu.K.at a0.fL x272).fStamp))], blk b262 27 [eq v311.1, eq v312.1], blk b256 27 [eq (.slice none 0 0), eq (.slice none 0 0)], blk b255 32 [eq (.int .i64 a1.fKind), eq (.string a1.fRoom), eq (.string a1.fUser), eq (.string a1.fEvent), eq (.string a1.fThread), eq (.bool a1.fPrivate), eq (.bool a1.fOn), eq (.int .i64 a1.fSpan), eq (.int .i64 a1.fState), eq (.int .i64 a1.fTick), eq (.int .i64 a1.fStamp)], blk b254 27 [sl Edu.K a0.fL, sl boolK a0.fTold], own Edu.K v314.1 (p310.2.2.1 ++ ([Edu.K.at a0.fL x272] : List Edu)), own boolK v312.1 p310.2.2.2] ++ F) rfl trivial rfl rfl rfl src_sl Try.underlying22 (.inr ⟨_, Try.underlying22⟩) inf32 rfl (by decide) g313 rfl nofun (fun v314 => ?_)
              refine Dv.fab rfl trivial rfl Try.underlying27 rfl Try.underlying22 c22 (by decide) ?_
              refine Dv.stx ([blk b279 32 [eq (.int .i64 ((Edu.K.at a0.fL x272).fKind)), eq (.string ((Edu.K.at a0.fL x272).fRoom)), eq (.string ((Edu.K.at a0.fL x272).fUser)), eq (.string ((Edu.K.at a0.fL x272).fEvent)), eq (.string ((Edu.K.at a0.fL x272).fThread)), eq (.bool ((Edu.K.at a0.fL x272).fPrivate)), eq (.bool ((Edu.K.at a0.fL x272).fOn)), eq (.int .i64 ((Edu.K.at a0.fL x272).fSpan)), eq (.int .i64 ((Edu.K.at a0.fL x272).fState)), eq (.int .i64 ((Edu.K.at a0.fL x272).fTick)), eq (.int .i64 ((Edu.K.at a0.fL x272).fStamp))], blk b262 27 [eq v314.1, eq v312.1], blk b256 27 [eq (.slice none 0 0), eq (.slice none 0 0)], blk b255 32 [eq (.int .i64 a1.fKind), eq (.string a1.fRoom), eq (.string a1.fUser), eq (.string a1.fEvent), eq (.string a1.fThread), eq (.bool a1.fPrivate), eq (.bool a1.fOn), eq (.int .i64 a1.fSpan), eq (.int .i64 a1.fState), eq (.int .i64 a1.fTick), eq (.int .i64 a1.fStamp)], blk b254 27 [sl Edu.K a0.fL, sl boolK a0.fTold], own Edu.K v314.1 (p310.2.2.1 ++ ([Edu.K.at a0.fL x272] : List Edu)), own boolK v312.1 p310.2.2.2] ++ F) rfl trivial rfl rfl (cells_one one_ov) Try.underlying22 c22 rfl (j := 1) rfl (Nat.le_of_ble_eq_true rfl) rfl nofun ?_
              refine .fin ?_
              refine WP.dreg Try.checked.mixed [(0, false), (1, false), (2, false), (3, false), (4, false), (5, false), (6, false), (7, false), (8, true), (9, false), (10, true)] (by kernel_rfl) ?_
              refine Dv.fab rfl trivial rfl Try.underlying27 rfl Try.underlying25 c25 (by decide) ?_
              refine Dv.ldb rfl trivial rfl Try.underlying25 rfl (mem_at 1 rfl) rfl ?_
              refine Dv.fab rfl trivial rfl Try.underlying27 rfl Try.underlying25 c25 (by decide) ?_
              refine Dv.ldb rfl trivial rfl Try.underlying25 rfl (mem_at 4 rfl) rfl ?_
              refine Dv.mv rfl trivial rfl ?_
              obtain ⟨g315, H⟩ := Gets.grd H
              refine Dv.ixr rfl trivial rfl rfl Try.underlying25 Try.underlying4 c4 g315.1 g315.2 ?_
              refine Dv.ldr rfl trivial rfl Try.underlying4 rfl rfl ?_
              refine Dv.lit boolK ([boolK.at a0.fTold x272] : List Bool) (css := [[eq (.bool (boolK.at a0.fTold x272))]]) rfl trivial Try.underlying25 Try.underlying4 c4 z4 rfl (by decide) (by decide) rfl ⟨(cells_one (one_eq rfl)), trivial⟩ rfl rfl rfl ?_
              obtain ⟨g316, H⟩ := Gets.grd H
              refine Dv.appx (jj := 6) (ys := ([boolK.at a0.fTold x272] : List Bool)) (fun v317 : OV => [blk b279 32 [eq (.int .i64 ((Edu.K.at a0.fL x272).fKind)), eq (.string ((Edu.K.at a0.fL x272).fRoom)), eq (.string ((Edu.K.at a0.fL x272).fUser)), eq (.string ((Edu.K.at a0.fL x272).fEvent)), eq (.string ((Edu.K.at a0.fL x272).fThread)), eq (.bool ((Edu.K.at a0.fL x272).fPrivate)), eq (.bool ((Edu.K.at a0.fL x272).fOn)), eq (.int .i64 ((Edu.K.at a0.fL x272).fSpan)), eq (.int .i64 ((Edu.K.at a0.fL x272).fState)), eq (.int .i64 ((Edu.K.at a0.fL x272).fTick)), eq (.int .i64 ((Edu.K.at a0.fL x272).fStamp))], blk b262 27 [eq v314.1, eq v312.1], blk b256 27 [eq (.slice none 0 0), eq (.slice none 0 0)], blk b255 32 [eq (.int .i64 a1.fKind), eq (.string a1.fRoom), eq (.string a1.fUser), eq (.string a1.fEvent), eq (.string a1.fThread), eq (.bool a1.fPrivate), eq (.bool a1.fOn), eq (.int .i64 a1.fSpan), eq (.int .i64 a1.fState), eq (.int .i64 a1.fTick), eq (.int .i64 a1.fStamp)], blk b254 27 [sl Edu.K a0.fL, sl boolK a0.fTold], own Edu.K v314.1 (p310.2.2.1 ++ ([Edu.K.at a0.fL x272] : List Edu)), own boolK v317.1 (p310.2.2.2 ++ ([boolK.at a0.fTold x272] : List Bool))] ++ F) rfl trivial rfl rfl rfl src_sl Try.underlying25 (.inr ⟨_, Try.underlying25⟩) inf4 rfl (by decide) g316 rfl (fun _ => pend_bits (by kernel_rfl)) (fun v317 => ?_)
              refine Dv.fab rfl trivial rfl Try.underlying27 rfl Try.underlying25 c25 (by decide) ?_
              refine Dv.stx ([blk b279 32 [eq (.int .i64 ((Edu.K.at a0.fL x272).fKind)), eq (.string ((Edu.K.at a0.fL x272).fRoom)), eq (.string ((Edu.K.at a0.fL x272).fUser)), eq (.string ((Edu.K.at a0.fL x272).fEvent)), eq (.string ((Edu.K.at a0.fL x272).fThread)), eq (.bool ((Edu.K.at a0.fL x272).fPrivate)), eq (.bool ((Edu.K.at a0.fL x272).fOn)), eq (.int .i64 ((Edu.K.at a0.fL x272).fSpan)), eq (.int .i64 ((Edu.K.at a0.fL x272).fState)), eq (.int .i64 ((Edu.K.at a0.fL x272).fTick)), eq (.int .i64 ((Edu.K.at a0.fL x272).fStamp))], blk b262 27 [eq v314.1, eq v317.1], blk b256 27 [eq (.slice none 0 0), eq (.slice none 0 0)], blk b255 32 [eq (.int .i64 a1.fKind), eq (.string a1.fRoom), eq (.string a1.fUser), eq (.string a1.fEvent), eq (.string a1.fThread), eq (.bool a1.fPrivate), eq (.bool a1.fOn), eq (.int .i64 a1.fSpan), eq (.int .i64 a1.fState), eq (.int .i64 a1.fTick), eq (.int .i64 a1.fStamp)], blk b254 27 [sl Edu.K a0.fL, sl boolK a0.fTold], own Edu.K v314.1 (p310.2.2.1 ++ ([Edu.K.at a0.fL x272] : List Edu)), own boolK v317.1 (p310.2.2.2 ++ ([boolK.at a0.fTold x272] : List Bool))] ++ F) rfl trivial rfl rfl (cells_one one_ov) Try.underlying25 c25 rfl (j := 1) rfl (Nat.le_of_ble_eq_true rfl) rfl (fun _ => pend_bits (by kernel_rfl)) ?_
              refine .fin ?_
              refine WP.reg [(0, false), (1, false), (2, false)] (by kernel_rfl) ?_
              refine Dv.mv rfl trivial rfl ?_
              refine Dv.bin rfl trivial rfl rfl (fun _ => run_add) ?_
              refine Dv.asg rfl trivial rfl ?_
              refine .fin ?_
              refine Dn.gh (l' := fun _ : Unit => [blk b262 27 [eq v314.1, eq v317.1], blk b256 27 [eq (.slice none 0 0), eq (.slice none 0 0)], blk b255 32 [eq (.int .i64 a1.fKind), eq (.string a1.fRoom), eq (.string a1.fUser), eq (.string a1.fEvent), eq (.string a1.fThread), eq (.bool a1.fPrivate), eq (.bool a1.fOn), eq (.int .i64 a1.fSpan), eq (.int .i64 a1.fState), eq (.int .i64 a1.fTick), eq (.int .i64 a1.fStamp)], blk b254 27 [sl Edu.K a0.fL, sl boolK a0.fTold], own Edu.K v314.1 (p310.2.2.1 ++ ([Edu.K.at a0.fL x272] : List Edu)), own boolK v317.1 (p310.2.2.2 ++ ([boolK.at a0.fTold x272] : List Bool))] ++ F) (gh_of (st_selg (L := [blk b279 32 [eq (.int .i64 ((Edu.K.at a0.fL x272).fKind)), eq (.string ((Edu.K.at a0.fL x272).fRoom)), eq (.string ((Edu.K.at a0.fL x272).fUser)), eq (.string ((Edu.K.at a0.fL x272).fEvent)), eq (.string ((Edu.K.at a0.fL x272).fThread)), eq (.bool ((Edu.K.at a0.fL x272).fPrivate)), eq (.bool ((Edu.K.at a0.fL x272).fOn)), eq (.int .i64 ((Edu.K.at a0.fL x272).fSpan)), eq (.int .i64 ((Edu.K.at a0.fL x272).fState)), eq (.int .i64 ((Edu.K.at a0.fL x272).fTick)), eq (.int .i64 ((Edu.K.at a0.fL x272).fStamp))], blk b262 27 [eq v314.1, eq v317.1], blk b256 27 [eq (.slice none 0 0), eq (.slice none 0 0)], blk b255 32 [eq (.int .i64 a1.fKind), eq (.string a1.fRoom), eq (.string a1.fUser), eq (.string a1.fEvent), eq (.string a1.fThread), eq (.bool a1.fPrivate), eq (.bool a1.fOn), eq (.int .i64 a1.fSpan), eq (.int .i64 a1.fState), eq (.int .i64 a1.fTick), eq (.int .i64 a1.fStamp)], blk b254 27 [sl Edu.K a0.fL, sl boolK a0.fTold], own Edu.K v314.1 (p310.2.2.1 ++ ([Edu.K.at a0.fL x272] : List Edu)), own boolK v317.1 (p310.2.2.2 ++ ([boolK.at a0.fTold x272] : List Bool))]) (F := F) [0, 1, 2, 3, 4, 5, 6] 1 (by kernel_rfl) rfl rfl)) (fun _ _ => ?_)
              exact Back.mk j334 (p310.1, w64 (x272 + 1), p310.2.2.1 ++ ([Edu.K.at a0.fL x272] : List Edu), p310.2.2.2 ++ ([boolK.at a0.fTold x272] : List Bool), v314, v317) (Nat.lt_succ_self _) H (weak_cons rfl (weak_cons rfl (weak_cons rfl (weak_cons rfl (weak_cons rfl (weak_cons rfl (weak_cons rfl (weak_cons rfl (weak_cons rfl (weak_cons rfl (weak_cons rfl (weak_cons rfl weak_nil)))))))))))) (List.Perm.refl _)
            · refine WP.seq ?_
              refine WP.reg [(0, false), (1, false), (2, false), (3, false), (4, false), (5, false), (6, false), (7, false), (8, false), (9, false), (10, false), (11, false), (12, false), (13, false), (14, false), (15, false), (16, false), (17, false), (18, false), (19, false), (20, false), (21, false), (22, false)] (by kernel_rfl) ?_
              refine Dv.mv rfl trivial rfl ?_
              refine Dv.un rfl trivial rfl (fun _ => run_not _) ?_
              refine Dv.mv rfl trivial rfl ?_
              cases c318 : !x271
              · replace H := Gets.cf H c318
                refine Dv.skip rfl ⟨_, _, rfl, rfl, .inl rfl⟩ ?_
                refine Dv.skip rfl ⟨_, _, rfl, rfl, .inl rfl⟩ ?_
                refine Dv.skip rfl ⟨_, _, rfl, rfl, .inl rfl⟩ ?_
                refine Dv.skip rfl ⟨_, _, rfl, rfl, .inl rfl⟩ ?_
                refine Dv.skip rfl ⟨_, _, rfl, rfl, .inl rfl⟩ ?_
                refine Dv.skip rfl ⟨_, _, rfl, rfl, .inl rfl⟩ ?_
                refine Dv.skip rfl ⟨_, _, rfl, rfl, .inr rfl⟩ ?_
                refine Dv.skip rfl ⟨_, _, rfl, rfl, .inr rfl⟩ ?_
                refine Dv.skip rfl ⟨_, _, rfl, rfl, .inr rfl⟩ ?_
                refine Dv.skip rfl ⟨_, _, rfl, rfl, .inr rfl⟩ ?_
                refine Dv.skip rfl ⟨_, _, rfl, rfl, .inr rfl⟩ ?_
                refine Dv.skip rfl ⟨_, _, rfl, rfl, .inr rfl⟩ ?_
                refine Dv.skip rfl ⟨_, _, rfl, rfl, .inr rfl⟩ ?_
                refine Dv.skip rfl ⟨_, _, rfl, rfl, .inr rfl⟩ ?_
                refine Dv.skip rfl ⟨_, _, rfl, rfl, .inr rfl⟩ ?_
                refine Dv.skip rfl ⟨_, _, rfl, rfl, .inr rfl⟩ ?_
                refine Dv.skip rfl ⟨_, _, rfl, rfl, .inr rfl⟩ ?_
                refine Dv.skip rfl ⟨_, _, rfl, rfl, .inr rfl⟩ ?_
                refine Dv.skip rfl ⟨_, _, rfl, rfl, .inl rfl⟩ ?_
                refine Dv.pickF rfl trivial rfl rfl ?_
                refine .fin ?_
                refine WP.cond rfl nofun (fun _ => ?_)
                refine WP.skip ?_
                replace H := Gets.out H
                exact Jn.mk ((x271, false, x273, x274), v275, v276) H (weak_cons rfl (weak_cons rfl (weak_cons rfl (weak_cons rfl (weak_cons rfl (weak_cons rfl (weak_cons rfl (weak_cons rfl (weak_cons rfl (weak_cons rfl (weak_cons rfl (weak_cons rfl (weak_cons rfl (weak_cons rfl (weak_cons rfl (weak_cons rfl weak_nil)))))))))))))))) (List.Perm.refl _)
              · replace H := Gets.ct H c318
                refine Dv.fab rfl ⟨_, _, rfl, rfl, rfl⟩ rfl Try.underlying32 rfl Try.underlying9 c9 (by decide) ?_
                refine Dv.ldb rfl ⟨_, _, rfl, rfl, rfl⟩ rfl Try.underlying9 rfl (mem_at 3 rfl) rfl ?_
                refine Dv.fab rfl ⟨_, _, rfl, rfl, rfl⟩ rfl Try.underlying32 rfl Try.underlying9 c9 (by decide) ?_
                refine Dv.ldb rfl ⟨_, _, rfl, rfl, rfl⟩ rfl Try.underlying9 rfl (mem_at 0 rfl) rfl ?_
                refine Dv.bin rfl ⟨_, _, rfl, rfl, rfl⟩ rfl rfl (fun _ => run_slt) ?_
                refine Dv.mv rfl ⟨_, _, rfl, rfl, rfl⟩ rfl ?_
                cases c319 : sLt a1.fRoom ((Edu.K.at a0.fL x272).fRoom)
                · replace H := Gets.cf H c319
                  refine Dv.fab rfl ⟨_, _, rfl, rfl, rfl⟩ rfl Try.underlying32 rfl Try.underlying9 c9 (by decide) ?_
                  refine Dv.ldb rfl ⟨_, _, rfl, rfl, rfl⟩ rfl Try.underlying9 rfl (mem_at 3 rfl) rfl ?_
                  refine Dv.fab rfl ⟨_, _, rfl, rfl, rfl⟩ rfl Try.underlying32 rfl Try.underlying9 c9 (by decide) ?_
                  refine Dv.ldb rfl ⟨_, _, rfl, rfl, rfl⟩ rfl Try.underlying9 rfl (mem_at 0 rfl) rfl ?_
                  refine Dv.bin rfl ⟨_, _, rfl, rfl, rfl⟩ rfl rfl (fun _ => run_seq) ?_
                  refine Dv.mv rfl ⟨_, _, rfl, rfl, rfl⟩ rfl ?_
                  cases c325 : decide (a1.fRoom = ((Edu.K.at a0.fL x272).fRoom))
                  · replace H := Gets.cf H c325
                    refine Dv.skip rfl ⟨_, _, rfl, rfl, .inl rfl⟩ ?_
                    refine Dv.skip rfl ⟨_, _, rfl, rfl, .inl rfl⟩ ?_
                    refine Dv.skip rfl ⟨_, _, rfl, rfl, .inl rfl⟩ ?_
                    refine Dv.skip rfl ⟨_, _, rfl, rfl, .inl rfl⟩ ?_
                    refine Dv.skip rfl ⟨_, _, rfl, rfl, .inl rfl⟩ ?_
                    refine Dv.pickF rfl ⟨_, _, rfl, rfl, rfl⟩ rfl rfl ?_
                    refine Dv.pickF rfl ⟨_, _, rfl, rfl, rfl⟩ rfl rfl ?_
                    refine Dv.pickT rfl trivial rfl rfl ?_
                    refine .fin ?_
                    refine WP.cond rfl nofun (fun _ => ?_)
                    refine WP.skip ?_
                    replace H := Gets.out H
                    exact Jn.mk ((x271, false, x273, x274), v275, v276) H (weak_cons rfl (weak_cons rfl (weak_cons rfl (weak_cons rfl (weak_cons rfl (weak_cons rfl (weak_cons rfl (weak_cons rfl (weak_cons rfl (weak_cons rfl (weak_cons rfl (weak_cons rfl (weak_cons rfl (weak_cons rfl (weak_cons rfl (weak_cons rfl weak_nil)))))))))))))))) (List.Perm.refl _)
                  · replace H := Gets.ct H c325
                    refine Dv.fab rfl ⟨_, _, rfl, rfl, rfl⟩ rfl Try.underlying32 rfl Try.underlying9 c9 (by decide) ?_
                    refine Dv.ldb rfl ⟨_, _, rfl, rfl, rfl⟩ rfl Try.underlying9 rfl (mem_at 3 rfl) rfl ?_
                    refine Dv.fab rfl ⟨_, _, rfl, rfl, rfl⟩ rfl Try.underlying32 rfl Try.underlying9 c9 (by decide) ?_
                    refine Dv.ldb rfl ⟨_, _, rfl, rfl, rfl⟩ rfl Try.underlying9 rfl (mem_at 0 rfl) rfl ?_
                    refine Dv.bin rfl ⟨_, _, rfl, rfl, rfl⟩ rfl rfl (fun _ => run_slt) ?_
                    refine Dv.pickT rfl ⟨_, _, rfl, rfl, rfl⟩ rfl rfl ?_
                    refine Dv.pickF rfl ⟨_, _, rfl, rfl, rfl⟩ rfl rfl ?_
                    refine Dv.pickT rfl trivial rfl rfl ?_
                    refine .fin ?_
                    refine WP.cond rfl (fun c326 => ?_) (fun c326 => ?_)
                    · replace H := Gets.ct H c326
                      refine WP.seq ?_
                      refine WP.reg [(0, false), (1, false), (2, false), (3, false), (4, true), (5, false), (6, true)] (by kernel_rfl) ?_
                      refine Dv.fab rfl trivial rfl Try.underlying27 rfl Try.underlying22 c22 (by decide) ?_
                      refine Dv.ldb rfl trivial rfl Try.underlying22 rfl (mem_at 1 rfl) rfl ?_
                      refine Dv.ldbs rfl trivial rfl Try.underlying32 rfl c32 (mem_at 3 rfl) (Nat.le_of_ble_eq_true rfl) ?_
                      refine Dv.lit Edu.K ([a1] : List Edu) (css := [Edu.enc a1]) rfl trivial Try.underlying22 Try.underlying32 c32 z32 rfl (by decide) (by decide) rfl ⟨(cells_agg (Edu.K.one _)), trivial⟩ rfl rfl rfl ?_
                      obtain ⟨g327, H⟩ := Gets.grd H
                      refine Dv.appx (jj := 5) (ys := ([a1] : List Edu)) (fun v328 : OV => [blk b279 32 [eq (.int .i64 ((Edu.K.at a0.fL x272).fKind)), eq (.string ((Edu.K.at a0.fL x272).fRoom)), eq (.string ((Edu.K.at a0.fL x272).fUser)), eq (.string ((Edu.K.at a0.fL x272).fEvent)), eq (.string ((Edu.K.at a0.fL x272).fThread)), eq (.bool ((Edu.K.at a0.fL x272).fPrivate)), eq (.bool ((Edu.K.at a0.fL x272).fOn)), eq (.int .i64 ((Edu.K.at a0.fL x272).fSpan)), eq (.int .i64 ((Edu.K.at a0.fL x272).fState)), eq (.int .i64 ((Edu.K.at a0.fL x272).fTick)), eq (.int .i64 ((Edu.K.at a0.fL x272).fStamp))], blk b262 27 [eq v275.1, eq v276.1], blk b256 27 [eq (.slice none 0 0), eq (.slice none 0 0)], blk b255 32 [eq (.int .i64 a1.fKind), eq (.string a1.fRoom), eq (.string a1.fUser), eq (.string a1.fEvent), eq (.string a1.fThread), eq (.bool a1.fPrivate), eq (.bool a1.fOn), eq (.int .i64 a1.fSpan), eq (.int .i64 a1.fState), eq (.int .i64 a1.fTick), eq (.int .i64 a1.fStamp)], blk b254 27 [sl Edu.K a0.fL, sl boolK a0.fTold], own Edu.K v328.1 (x273 ++ ([a1] : List Edu)), own boolK v276.1 x274] ++ F) rfl trivial rfl rfl rfl src_sl Try.underlying22 (.inr ⟨_, Try.underlying22⟩) inf32 rfl (by decide) g327 rfl nofun (fun v328 => ?_)
                      refine Dv.fab rfl trivial rfl Try.underlying27 rfl Try.underlying22 c22 (by decide) ?_
                      refine Dv.stx ([blk b279 32 [eq (.int .i64 ((Edu.K.at a0.fL x272).fKind)), eq (.string ((Edu.K.at a0.fL x272).fRoom)), eq (.string ((Edu.K.at a0.fL x272).fUser)), eq (.string ((Edu.K.at a0.fL x272).fEvent)), eq (.string ((Edu.K.at a0.fL x272).fThread)), eq (.bool ((Edu.K.at a0.fL x272).fPrivate)), eq (.bool ((Edu.K.at a0.fL x272).fOn)), eq (.int .i64 ((Edu.K.at a0.fL x272).fSpan)), eq (.int .i64 ((Edu.K.at a0.fL x272).fState)), eq (.int .i64 ((Edu.K.at a0.fL x272).fTick)), eq (.int .i64 ((Edu.K.at a0.fL x272).fStamp))], blk b262 27 [eq v328.1, eq v276.1], blk b256 27 [eq (.slice none 0 0), eq (.slice none 0 0)], blk b255 32 [eq (.int .i64 a1.fKind), eq (.string a1.fRoom), eq (.string a1.fUser), eq (.string a1.fEvent), eq (.string a1.fThread), eq (.bool a1.fPrivate), eq (.bool a1.fOn), eq (.int .i64 a1.fSpan), eq (.int .i64 a1.fState), eq (.int .i64 a1.fTick), eq (.int .i64 a1.fStamp)], blk b254 27 [sl Edu.K a0.fL, sl boolK a0.fTold], own Edu.K v328.1 (x273 ++ ([a1] : List Edu)), own boolK v276.1 x274] ++ F) rfl trivial rfl rfl (cells_one one_ov) Try.underlying22 c22 rfl (j := 1) rfl (Nat.le_of_ble_eq_true rfl) rfl nofun ?_
                      refine .fin ?_
                      refine WP.seq ?_
                      refine WP.reg [(0, false), (1, false), (2, false), (3, true), (4, false), (5, true)] (by kernel_rfl) ?_
                      refine Dv.fab rfl trivial rfl Try.underlying27 rfl Try.underlying25 c25 (by decide) ?_
                      refine Dv.ldb rfl trivial rfl Try.underlying25 rfl (mem_at 1 rfl) rfl ?_
                      refine Dv.lit boolK ([false] : List Bool) (css := [[eq (.bool false)]]) rfl trivial Try.underlying25 Try.underlying4 c4 z4 rfl (by decide) (by decide) rfl ⟨(cells_one (one_eq rfl)), trivial⟩ rfl rfl rfl ?_
                      obtain ⟨g329, H⟩ := Gets.grd H
                      refine Dv.appx (jj := 6) (ys := ([false] : List Bool)) (fun v330 : OV => [blk b279 32 [eq (.int .i64 ((Edu.K.at a0.fL x272).fKind)), eq (.string ((Edu.K.at a0.fL x272).fRoom)), eq (.string ((Edu.K.at a0.fL x272).fUser)), eq (.string ((Edu.K.at a0.fL x272).fEvent)), eq (.string ((Edu.K.at a0.fL x272).fThread)), eq (.bool ((Edu.K.at a0.fL x272).fPrivate)), eq (.bool ((Edu.K.at a0.fL x272).fOn)), eq (.int .i64 ((Edu.K.at a0.fL x272).fSpan)), eq (.int .i64 ((Edu.K.at a0.fL x272).fState)), eq (.int .i64 ((Edu.K.at a0.fL x272).fTick)), eq (.int .i64 ((Edu.K.at a0.fL x272).fStamp))], blk b262 27 [eq v328.1, eq v276.1], blk b256 27 [eq (.slice none 0 0), eq (.slice none 0 0)], blk b255 32 [eq (.int .i64 a1.fKind), eq (.string a1.fRoom), eq (.string a1.fUser), eq (.string a1.fEvent), eq (.string a1.fThread), eq (.bool a1.fPrivate), eq (.bool a1.fOn), eq (.int .i64 a1.fSpan), eq (.int .i64 a1.fState), eq (.int .i64 a1.fTick), eq (.int .i64 a1.fStamp)], blk b254 27 [sl Edu.K a0.fL, sl boolK a0.fTold], own Edu.K v328.1 (x273 ++ ([a1] : List Edu)), own boolK v330.1 (x274 ++ ([false] : List Bool))] ++ F) rfl trivial rfl rfl rfl src_sl Try.underlying25 (.inr ⟨_, Try.underlying25⟩) inf4 rfl (by decide) g329 rfl nofun (fun v330 => ?_)
                      refine Dv.fab rfl trivial rfl Try.underlying27 rfl Try.underlying25 c25 (by decide) ?_
                      refine Dv.stx ([blk b279 32 [eq (.int .i64 ((Edu.K.at a0.fL x272).fKind)), eq (.string ((Edu.K.at a0.fL x272).fRoom)), eq (.string ((Edu.K.at a0.fL x272).fUser)), eq (.string ((Edu.K.at a0.fL x272).fEvent)), eq (.string ((Edu.K.at a0.fL x272).fThread)), eq (.bool ((Edu.K.at a0.fL x272).fPrivate)), eq (.bool ((Edu.K.at a0.fL x272).fOn)), eq (.int .i64 ((Edu.K.at a0.fL x272).fSpan)), eq (.int .i64 ((Edu.K.at a0.fL x272).fState)), eq (.int .i64 ((Edu.K.at a0.fL x272).fTick)), eq (.int .i64 ((Edu.K.at a0.fL x272).fStamp))], blk b262 27 [eq v328.1, eq v330.1], blk b256 27 [eq (.slice none 0 0), eq (.slice none 0 0)], blk b255 32 [eq (.int .i64 a1.fKind), eq (.string a1.fRoom), eq (.string a1.fUser), eq (.string a1.fEvent), eq (.string a1.fThread), eq (.bool a1.fPrivate), eq (.bool a1.fOn), eq (.int .i64 a1.fSpan), eq (.int .i64 a1.fState), eq (.int .i64 a1.fTick), eq (.int .i64 a1.fStamp)], blk b254 27 [sl Edu.K a0.fL, sl boolK a0.fTold], own Edu.K v328.1 (x273 ++ ([a1] : List Edu)), own boolK v330.1 (x274 ++ ([false] : List Bool))] ++ F) rfl trivial rfl rfl (cells_one one_ov) Try.underlying25 c25 rfl (j := 1) rfl (Nat.le_of_ble_eq_true rfl) rfl nofun ?_
                      refine .fin ?_
                      refine WP.reg [(0, false)] (by kernel_rfl) ?_
                      refine Dv.asg rfl trivial rfl ?_
                      refine .fin ?_
                      replace H := Gets.out H
                      exact Jn.mk ((true, sLt a1.fUser ((Edu.K.at a0.fL x272).fUser), x273 ++ ([a1] : List Edu), x274 ++ ([false] : List Bool)), v328, v330) H (weak_cons rfl (weak_cons rfl (weak_cons rfl (weak_cons rfl (weak_cons rfl (weak_cons rfl (weak_cons rfl (weak_cons rfl (weak_cons rfl (weak_cons rfl (weak_cons rfl (weak_cons rfl (weak_cons rfl (weak_cons rfl (weak_cons rfl (weak_cons rfl weak_nil)))))))))))))))) (List.Perm.refl _)
                    · replace H := Gets.cf H c326
                      refine WP.skip ?_
                      replace H := Gets.out H
                      exact Jn.mk ((x271, sLt a1.fUser ((Edu.K.at a0.fL x272).fUser), x273, x274), v275, v276) H (weak_cons rfl (weak_cons rfl (weak_cons rfl (weak_cons rfl (weak_cons rfl (weak_cons rfl (weak_cons rfl (weak_cons rfl (weak_cons rfl (weak_cons rfl (weak_cons rfl (weak_cons rfl (weak_cons rfl (weak_cons rfl (weak_cons rfl (weak_cons rfl weak_nil)))))))))))))))) (List.Perm.refl _)
                · replace H := Gets.ct H c319
                  refine Dv.skip rfl ⟨_, _, rfl, rfl, .inl rfl⟩ ?_
                  refine Dv.skip rfl ⟨_, _, rfl, rfl, .inl rfl⟩ ?_
                  refine Dv.skip rfl ⟨_, _, rfl, rfl, .inl rfl⟩ ?_
                  refine Dv.skip rfl ⟨_, _, rfl, rfl, .inl rfl⟩ ?_
                  refine Dv.skip rfl ⟨_, _, rfl, rfl, .inl rfl⟩ ?_
                  refine Dv.skip rfl ⟨_, _, rfl, rfl, .inl rfl⟩ ?_
                  refine Dv.skip rfl ⟨_, _, rfl, rfl, .inr rfl⟩ ?_
                  refine Dv.skip rfl ⟨_, _, rfl, rfl, .inr rfl⟩ ?_
                  refine Dv.skip rfl ⟨_, _, rfl, rfl, .inr rfl⟩ ?_
                  refine Dv.skip rfl ⟨_, _, rfl, rfl, .inr rfl⟩ ?_
                  refine Dv.skip rfl ⟨_, _, rfl, rfl, .inr rfl⟩ ?_
                  refine Dv.skip rfl ⟨_, _, rfl, rfl, .inl rfl⟩ ?_
                  refine Dv.pickT rfl ⟨_, _, rfl, rfl, rfl⟩ rfl rfl ?_
                  refine Dv.pickT rfl trivial rfl rfl ?_
                  refine .fin ?_
                  refine WP.cond rfl (fun _ => ?_) nofun
                  refine WP.seq ?_
                  refine WP.reg [(0, false), (1, false), (2, false), (3, false), (4, true), (5, false), (6, true)] (by kernel_rfl) ?_
                  refine Dv.fab rfl trivial rfl Try.underlying27 rfl Try.underlying22 c22 (by decide) ?_
                  refine Dv.ldb rfl trivial rfl Try.underlying22 rfl (mem_at 1 rfl) rfl ?_
                  refine Dv.ldbs rfl trivial rfl Try.underlying32 rfl c32 (mem_at 3 rfl) (Nat.le_of_ble_eq_true rfl) ?_
                  refine Dv.lit Edu.K ([a1] : List Edu) (css := [Edu.enc a1]) rfl trivial Try.underlying22 Try.underlying32 c32 z32 rfl (by decide) (by decide) rfl ⟨(cells_agg (Edu.K.one _)), trivial⟩ rfl rfl rfl ?_
                  obtain ⟨g321, H⟩ := Gets.grd H
                  refine Dv.appx (jj := 5) (ys := ([a1] : List Edu)) (fun v322 : OV => [blk b279 32 [eq (.int .i64 ((Edu.K.at a0.fL x272).fKind)), eq (.string ((Edu.K.at a0.fL x272).fRoom)), eq (.string ((Edu.K.at a0.fL x272).fUser)), eq (.string ((Edu.K.at a0.fL x272).fEvent)), eq (.string ((Edu.K.at a0.fL x272).fThread)), eq (.bool ((Edu.K.at a0.fL x272).fPrivate)), eq (.bool ((Edu.K.at a0.fL x272).fOn)), eq (.int .i64 ((Edu.K.at a0.fL x272).fSpan)), eq (.int .i64 ((Edu.K.at a0.fL x272).fState)), eq (.int .i64 ((Edu.K.at a0.fL x272).fTick)), eq (.int .i64 ((Edu.K.at a0.fL x272).fStamp))], blk b262 27 [eq v275.1, eq v276.1], blk b256 27 [eq (.slice none 0 0), eq (.slice none 0 0)], blk b255 32 [eq (.int .i64 a1.fKind), eq (.string a1.fRoom), eq (.string a1.fUser), eq (.string a1.fEvent), eq (.string a1.fThread), eq (.bool a1.fPrivate), eq (.bool a1.fOn), eq (.int .i64 a1.fSpan), eq (.int .i64 a1.fState), eq (.int .i64 a1.fTick), eq (.int .i64 a1.fStamp)], blk b254 27 [sl Edu.K a0.fL, sl boolK a0.fTold], own Edu.K v322.1 (x273 ++ ([a1] : List Edu)), own boolK v276.1 x274] ++ F) rfl trivial rfl rfl rfl src_sl Try.underlying22 (.inr ⟨_, Try.underlying22⟩) inf32 rfl (by decide) g321 rfl nofun (fun v322 => ?_)
                  refine Dv.fab rfl trivial rfl Try.underlying27 rfl Try.underlying22 c22 (by decide) ?_
                  refine Dv.stx ([blk b279 32 [eq (.int .i64 ((Edu.K.at a0.fL x272).fKind)), eq (.string ((Edu.K.at a0.fL x272).fRoom)), eq (.string ((Edu.K.at a0.fL x272).fUser)), eq (.string ((Edu.K.at a0.fL x272).fEvent)), eq (.string ((Edu.K.at a0.fL x272).fThread)), eq (.bool ((Edu.K.at a0.fL x272).fPrivate)), eq (.bool ((Edu.K.at a0.fL x272).fOn)), eq (.int .i64 ((Edu.K.at a0.fL x272).fSpan)), eq (.int .i64 ((Edu.K.at a0.fL x272).fState)), eq (.int .i64 ((Edu.K.at a0.fL x272).fTick)), eq (.int .i64 ((Edu.K.at a0.fL x272).fStamp))], blk b262 27 [eq v322.1, eq v276.1], blk b256 27 [eq (.slice none 0 0), eq (.slice none 0 0)], blk b255 32 [eq (.int .i64 a1.fKind), eq (.string a1.fRoom), eq (.string a1.fUser), eq (.string a1.fEvent), eq (.string a1.fThread), eq (.bool a1.fPrivate), eq (.bool a1.fOn), eq (.int .i64 a1.fSpan), eq (.int .i64 a1.fState), eq (.int .i64 a1.fTick), eq (.int .i64 a1.fStamp)], blk b254 27 [sl Edu.K a0.fL, sl boolK a0.fTold], own Edu.K v322.1 (x273 ++ ([a1] : List Edu)), own boolK v276.1 x274] ++ F) rfl trivial rfl rfl (cells_one one_ov) Try.underlying22 c22 rfl (j := 1) rfl (Nat.le_of_ble_eq_true rfl) rfl nofun ?_
                  refine .fin ?_
                  refine WP.seq ?_
                  refine WP.reg [(0, false), (1, false), (2, false), (3, true), (4, false), (5, true)] (by kernel_rfl) ?_
                  refine Dv.fab rfl trivial rfl Try.underlying27 rfl Try.underlying25 c25 (by decide) ?_
                  refine Dv.ldb rfl trivial rfl Try.underlying25 rfl (mem_at 1 rfl) rfl ?_
                  refine Dv.lit boolK ([false] : List Bool) (css := [[eq (.bool false)]]) rfl trivial Try.underlying25 Try.underlying4 c4 z4 rfl (by decide) (by decide) rfl ⟨(cells_one (one_eq rfl)), trivial⟩ rfl rfl rfl ?_
                  obtain ⟨g323, H⟩ := Gets.grd H
                  refine Dv.appx (jj := 6) (ys := ([false] : List Bool)) (fun v324 : OV => [blk b279 32 [eq (.int .i64 ((Edu.K.at a0.fL x272).fKind)), eq (.string ((Edu.K.at a0.fL x272).fRoom)), eq (.string ((Edu.K.at a0.fL x272).fUser)), eq (.string ((Edu.K.at a0.fL x272).fEvent)), eq (.string ((Edu.K.at a0.fL x272).fThread)), eq (.bool ((Edu.K.at a0.fL x272).fPrivate)), eq (.bool ((Edu.K.at a0.fL x272).fOn)), eq (.int .i64 ((Edu.K.at a0.fL x272).fSpan)), eq (.int .i64 ((Edu.K.at a0.fL x272).fState)), eq (.int .i64 ((Edu.K.at a0.fL x272).fTick)), eq (.int .i64 ((Edu.K.at a0.fL x272).fStamp))], blk b262 27 [eq v322.1, eq v276.1], blk b256 27 [eq (.slice none 0 0), eq (.slice none 0 0)], blk b255 32 [eq (.int .i64 a1.fKind), eq (.string a1.fRoom), eq (.string a1.fUser), eq (.string a1.fEvent), eq (.string a1.fThread), eq (.bool a1.fPrivate), eq (.bool a1.fOn), eq (.int .i64 a1.fSpan), eq (.int .i64 a1.fState), eq (.int .i64 a1.fTick), eq (.int .i64 a1.fStamp)], blk b254 27 [sl Edu.K a0.fL, sl boolK a0.fTold], own Edu.K v322.1 (x273 ++ ([a1] : List Edu)), own boolK v324.1 (x274 ++ ([false] : List Bool))] ++ F) rfl trivial rfl rfl rfl src_sl Try.underlying25 (.inr ⟨_, Try.underlying25⟩) inf4 rfl (by decide) g323 rfl nofun (fun v324 => ?_)
                  refine Dv.fab rfl trivial rfl Try.underlying27 rfl Try.underlying25 c25 (by decide) ?_
                  refine Dv.stx ([blk b279 32 [eq (.int .i64 ((Edu.K.at a0.fL x272).fKind)), eq (.string ((Edu.K.at a0.fL x272).fRoom)), eq (.string ((Edu.K.at a0.fL x272).fUser)), eq (.string ((Edu.K.at a0.fL x272).fEvent)), eq (.string ((Edu.K.at a0.fL x272).fThread)), eq (.bool ((Edu.K.at a0.fL x272).fPrivate)), eq (.bool ((Edu.K.at a0.fL x272).fOn)), eq (.int .i64 ((Edu.K.at a0.fL x272).fSpan)), eq (.int .i64 ((Edu.K.at a0.fL x272).fState)), eq (.int .i64 ((Edu.K.at a0.fL x272).fTick)), eq (.int .i64 ((Edu.K.at a0.fL x272).fStamp))], blk b262 27 [eq v322.1, eq v324.1], blk b256 27 [eq (.slice none 0 0), eq (.slice none 0 0)], blk b255 32 [eq (.int .i64 a1.fKind), eq (.string a1.fRoom), eq (.string a1.fUser), eq (.string a1.fEvent), eq (.string a1.fThread), eq (.bool a1.fPrivate), eq (.bool a1.fOn), eq (.int .i64 a1.fSpan), eq (.int .i64 a1.fState), eq (.int .i64 a1.fTick), eq (.int .i64 a1.fStamp)], blk b254 27 [sl Edu.K a0.fL, sl boolK a0.fTold], own Edu.K v322.1 (x273 ++ ([a1] : List Edu)), own boolK v324.1 (x274 ++ ([false] : List Bool))] ++ F) rfl trivial rfl rfl (cells_one one_ov) Try.underlying25 c25 rfl (j := 1) rfl (Nat.le_of_ble_eq_true rfl) rfl nofun ?_
                  refine .fin ?_
                  refine WP.reg [(0, false)] (by kernel_rfl) ?_
                  refine Dv.asg rfl trivial rfl ?_
                  refine .fin ?_
                  replace H := Gets.out H
                  exact Jn.mk ((true, true, x273 ++ ([a1] : List Edu), x274 ++ ([false] : List Bool)), v322, v324) H (weak_cons rfl (weak_cons rfl (weak_cons rfl (weak_cons rfl (weak_cons rfl (weak_cons rfl (weak_cons rfl (weak_cons rfl (weak_cons rfl (weak_cons rfl (weak_cons rfl (weak_cons rfl (weak_cons rfl (weak_cons rfl (weak_cons rfl (weak_cons rfl weak_nil)))))))))))))))) (List.Perm.refl _)
          · replace H := Gets.ct H c280
            refine Dv.fab rfl ⟨_, _, rfl, rfl, rfl⟩ rfl Try.underlying32 rfl Try.underlying9 c9 (by decide) ?_
            refine Dv.ldb rfl ⟨_, _, rfl, rfl, rfl⟩ rfl Try.underlying9 rfl (mem_at 0 rfl) rfl ?_
            refine Dv.fab rfl ⟨_, _, rfl, rfl, rfl⟩ rfl Try.underlying32 rfl Try.underlying9 c9 (by decide) ?_
            refine Dv.ldb rfl ⟨_, _, rfl, rfl, rfl⟩ rfl Try.underlying9 rfl (mem_at 3 rfl) rfl ?_
            refine Dv.bin rfl ⟨_, _, rfl, rfl, rfl⟩ rfl rfl (fun _ => run_seq) ?_
            refine Dv.pickT rfl trivial rfl rfl ?_
            refine .fin ?_
            refine WP.cond rfl (fun c281 => ?_) (fun c281 => ?_)
            · replace H := Gets.ct H c281
              refine WP.seq ?_
              refine WP.seq ?_
              refine WP.reg [(0, false), (1, false), (2, false), (3, false)] (by kernel_rfl) ?_
              refine Dv.ldbs rfl trivial rfl Try.underlying32 rfl c32 (mem_at 3 rfl) (Nat.le_of_ble_eq_true rfl) ?_
              refine Dv.ldbs rfl trivial rfl Try.underlying32 rfl c32 (mem_at 0 rfl) (Nat.le_of_ble_eq_true rfl) ?_
              obtain ⟨t282, h283, H⟩ := Gets.call H
              refine Dv.call rfl trivial cal23 rfl (concourseref03_Compare.c h283) ?_
              refine Dv.bin rfl trivial rfl rfl (fun _ => run_le) ?_
              refine .fin ?_
              refine WP.cond rfl (fun c284 => ?_) (fun c284 => ?_)
              · replace H := Gets.ct H c284
                refine WP.seq ?_
                refine WP.reg [(0, false), (1, true), (2, false), (3, false)] (by kernel_rfl) ?_
                refine Dv.ldbs rfl trivial rfl Try.underlying27 rfl c27 (mem_at 4 rfl) (Nat.le_of_ble_eq_true rfl) ?_
                refine Dv.stx ([blk b279 32 [eq (.int .i64 ((Edu.K.at a0.fL x272).fKind)), eq (.string ((Edu.K.at a0.fL x272).fRoom)), eq (.string ((Edu.K.at a0.fL x272).fUser)), eq (.string ((Edu.K.at a0.fL x272).fEvent)), eq (.string ((Edu.K.at a0.fL x272).fThread)), eq (.bool ((Edu.K.at a0.fL x272).fPrivate)), eq (.bool ((Edu.K.at a0.fL x272).fOn)), eq (.int .i64 ((Edu.K.at a0.fL x272).fSpan)), eq (.int .i64 ((Edu.K.at a0.fL x272).fState)), eq (.int .i64 ((Edu.K.at a0.fL x272).fTick)), eq (.int .i64 ((Edu.K.at a0.fL x272).fStamp))], blk b262 27 [eq v275.1, eq v276.1], blk b256 27 [sl Edu.K a0.fL, sl boolK a0.fTold], blk b255 32 [eq (.int .i64 a1.fKind), eq (.string a1.fRoom), eq (.string a1.fUser), eq (.string a1.fEvent), eq (.string a1.fThread), eq (.bool a1.fPrivate), eq (.bool a1.fOn), eq (.int .i64 a1.fSpan), eq (.int .i64 a1.fState), eq (.int .i64 a1.fTick), eq (.int .i64 a1.fStamp)], blk b254 27 [sl Edu.K a0.fL, sl boolK a0.fTold], own Edu.K v275.1 x273, own boolK v276.1 x274] ++ F) rfl trivial rfl rfl (cells_agg (TRef.K.one _)) Try.underlying27 c27 rfl (j := 2) rfl (Nat.le_of_ble_eq_true rfl) rfl nofun ?_
                refine Dv.asg rfl trivial rfl ?_
                refine Dv.asg rfl trivial rfl ?_
                refine .fin ?_
                replace H := Gets.outr H
                obtain rfl := Gets.out H
                exact WP.retL (fun _ _ h => h) rfl () trivial (.cons (res_cells rfl Try.underlying27 rfl c27 (mem_at 2 rfl) rfl) (.cons (res_tmp rfl) (.cons (res_tmp rfl) .nil))) rfl (st_sel (L := [blk b279 32 [eq (.int .i64 ((Edu.K.at a0.fL x272).fKind)), eq (.string ((Edu.K.at a0.fL x272).fRoom)), eq (.string ((Edu.K.at a0.fL x272).fUser)), eq (.string ((Edu.K.at a0.fL x272).fEvent)), eq (.string ((Edu.K.at a0.fL x272).fThread)), eq (.bool ((Edu.K.at a0.fL x272).fPrivate)), eq (.bool ((Edu.K.at a0.fL x272).fOn)), eq (.int .i64 ((Edu.K.at a0.fL x272).fSpan)), eq (.int .i64 ((Edu.K.at a0.fL x272).fState)), eq (.int .i64 ((Edu.K.at a0.fL x272).fTick)), eq (.int .i64 ((Edu.K.at a0.fL x272).fStamp))], blk b262 27 [eq v275.1, eq v276.1], blk b256 27 [sl Edu.K a0.fL, sl boolK a0.fTold], blk b255 32 [eq (.int .i64 a1.fKind), eq (.string a1.fRoom), eq (.string a1.fUser), eq (.string a1.fEvent), eq (.string a1.fThread), eq (.bool a1.fPrivate), eq (.bool a1.fOn), eq (.int .i64 a1.fSpan), eq (.int .i64 a1.fState), eq (.int .i64 a1.fTick), eq (.int .i64 a1.fStamp)], blk b254 27 [sl Edu.K a0.fL, sl boolK a0.fTold], own Edu.K v275.1 x273, own boolK v276.1 x274]) (F := F) [0, 1, 2, 3, 4, 5, 6] 7 (by kernel_rfl) rfl rfl)
              · replace H := Gets.cf H c284
                refine WP.skip ?_
                refine WP.exit ?_
                refine WP.reg [(0, false), (1, false), (2, false)] (by kernel_rfl) ?_
                refine Dv.mv rfl trivial rfl ?_
                refine Dv.bin rfl trivial rfl rfl (fun _ => run_add) ?_
                refine Dv.asg rfl trivial rfl ?_
                refine .fin ?_
                refine Dn.gh (l' := fun _ : Unit => [blk b262 27 [eq v275.1, eq v276.1], blk b256 27 [eq (.slice none 0 0), eq (.slice none 0 0)], blk b255 32 [eq (.int .i64 a1.fKind), eq (.string a1.fRoom), eq (.string a1.fUser), eq (.string a1.fEvent), eq (.string a1.fThread), eq (.bool a1.fPrivate), eq (.bool a1.fOn), eq (.int .i64 a1.fSpan), eq (.int .i64 a1.fState), eq (.int .i64 a1.fTick), eq (.int .i64 a1.fStamp)], blk b254 27 [sl Edu.K a0.fL, sl boolK a0.fTold], own Edu.K v275.1 x273, own boolK v276.1 x274] ++ F) (gh_of (st_selg (L := [blk b279 32 [eq (.int .i64 ((Edu.K.at a0.fL x272).fKind)), eq (.string ((Edu.K.at a0.fL x272).fRoom)), eq (.string ((Edu.K.at a0.fL x272).fUser)), eq (.string ((Edu.K.at a0.fL x272).fEvent)), eq (.string ((Edu.K.at a0.fL x272).fThread)), eq (.bool ((Edu.K.at a0.fL x272).fPrivate)), eq (.bool ((Edu.K.at a0.fL x272).fOn)), eq (.int .i64 ((Edu.K.at a0.fL x272).fSpan)), eq (.int .i64 ((Edu.K.at a0.fL x272).fState)), eq (.int .i64 ((Edu.K.at a0.fL x272).fTick)), eq (.int .i64 ((Edu.K.at a0.fL x272).fStamp))], blk b262 27 [eq v275.1, eq v276.1], blk b256 27 [eq (.slice none 0 0), eq (.slice none 0 0)], blk b255 32 [eq (.int .i64 a1.fKind), eq (.string a1.fRoom), eq (.string a1.fUser), eq (.string a1.fEvent), eq (.string a1.fThread), eq (.bool a1.fPrivate), eq (.bool a1.fOn), eq (.int .i64 a1.fSpan), eq (.int .i64 a1.fState), eq (.int .i64 a1.fTick), eq (.int .i64 a1.fStamp)], blk b254 27 [sl Edu.K a0.fL, sl boolK a0.fTold], own Edu.K v275.1 x273, own boolK v276.1 x274]) (F := F) [0, 1, 2, 3, 4, 5, 6] 1 (by kernel_rfl) rfl rfl)) (fun _ _ => ?_)
                exact Back.mk j334 (x271, w64 (x272 + 1), x273, x274, v275, v276) (Nat.lt_succ_self _) H (weak_cons rfl (weak_cons rfl (weak_cons rfl (weak_cons rfl (weak_cons rfl (weak_cons rfl (weak_cons rfl (weak_cons rfl (weak_cons rfl (weak_cons rfl (weak_cons rfl (weak_cons rfl weak_nil)))))))))))) (List.Perm.refl _)
            · replace H := Gets.cf H c281
              refine WP.skip ?_
              refine WP.seqn H (fun q308 : (Bool × Bool × (List Edu) × (List Bool)) × OV × OV => q308.1) (fun q308 : (Bool × Bool × (List Edu) × (List Bool)) × OV × OV => [(0, agg (TRef.enc a0)), (1, agg (Edu.enc a1)), (2, eq (.pointer (some ⟨b254, 0, none⟩))), (3, eq (.pointer (some ⟨b255, 0, none⟩))), (4, eq (.pointer (some ⟨b256, 0, none⟩))), (5, eq (.bool false)), (6, eq (.int .i64 0)), (7, eq (.bool t257)), (8, eq (.pointer (some ⟨b262, 0, none⟩))), (9, eq (.bool q308.1.1)), (10, eq (.int .i64 x272)), (11, eq (.pointer (some ⟨b279, 0, none⟩))), (20, eq (.bool (!t257))), (26, eq (.bool (decide (x272 < (a0.fL.length : Int))))), (45, eq (.bool (decide (((Edu.K.at a0.fL x272).fUser) = a1.fUser)))), (73, eq (.bool q308.1.2.1))]) (fun q308 : (Bool × Bool × (List Edu) × (List Bool)) × OV × OV => [blk b279 32 [eq (.int .i64 ((Edu.K.at a0.fL x272).fKind)), eq (.string ((Edu.K.at a0.fL x272).fRoom)), eq (.string ((Edu.K.at a0.fL x272).fUser)), eq (.string ((Edu.K.at a0.fL x272).fEvent)), eq (.string ((Edu.K.at a0.fL x272).fThread)), eq (.bool ((Edu.K.at a0.fL x272).fPrivate)), eq (.bool ((Edu.K.at a0.fL x272).fOn)), eq (.int .i64 ((Edu.K.at a0.fL x272).fSpan)), eq (.int .i64 ((Edu.K.at a0.fL x272).fState)), eq (.int .i64 ((Edu.K.at a0.fL x272).fTick)), eq (.int .i64 ((Edu.K.at a0.fL x272).fStamp))], blk b262 27 [eq q308.2.1.1, eq q308.2.2.1], blk b256 27 [eq (.slice none 0 0), eq (.slice none 0 0)], blk b255 32 [eq (.int .i64 a1.fKind), eq (.string a1.fRoom), eq (.string a1.fUser), eq (.string a1.fEvent), eq (.string a1.fThread), eq (.bool a1.fPrivate), eq (.bool a1.fOn), eq (.int .i64 a1.fSpan), eq (.int .i64 a1.fState), eq (.int .i64 a1.fTick), eq (.int .i64 a1.fStamp)], blk b254 27 [sl Edu.K a0.fL, sl boolK a0.fTold], own Edu.K q308.2.1.1 q308.1.2.2.1, own boolK q308.2.2.1 q308.1.2.2.2] ++ F) (fun q308 H => ?_) (fun H => ?_)
              · obtain ⟨p285, v286, v287⟩ := q308
                refine WP.seq ?_
                refine WP.reg [(0, false), (1, false), (2, false), (3, false), (4, true), (5, false), (6, true)] (by kernel_rfl) ?_
                refine Dv.fab rfl trivial rfl Try.underlying27 rfl Try.underlying22 c22 (by decide) ?_
                refine Dv.ldb rfl trivial rfl Try.underlying22 rfl (mem_at 1 rfl) rfl ?_
                refine Dv.ldbs rfl trivial rfl Try.underlying32 rfl c32 (mem_at 0 rfl) (Nat.le_of_ble_eq_true rfl) ?_
                refine Dv.lit Edu.K ([Edu.K.at a0.fL x272] : List Edu) (css := [Edu.enc (Edu.K.at a0.fL x272)]) rfl trivial Try.underlying22 Try.underlying32 c32 z32 rfl (by decide) (by decide) rfl ⟨(cells_agg (Edu.K.one _)), trivial⟩ rfl rfl rfl ?_
                obtain ⟨g288, H⟩ := Gets.grd H
                refine Dv.appx (jj := 5) (ys := ([Edu.K.at a0.fL x272] : List Edu)) (fun v289 : OV => [blk b279 32 [eq (.int .i64 ((Edu.K.at a0.fL x272).fKind)), eq (.string ((Edu.K.at a0.fL x272).fRoom)), eq (.string ((Edu.K.at a0.fL x272).fUser)), eq (.string ((Edu.K.at a0.fL x272).fEvent)), eq (.string ((Edu.K.at a0.fL x272).fThread)), eq (.bool ((Edu.K.at a0.fL x272).fPrivate)), eq (.bool ((Edu.K.at a0.fL x272).fOn)), eq (.int .i64 ((Edu.K.at a0.fL x272).fSpan)), eq (.int .i64 ((Edu.K.at a0.fL x272).fState)), eq (.int .i64 ((Edu.K.at a0.fL x272).fTick)), eq (.int .i64 ((Edu.K.at a0.fL x272).fStamp))], blk b262 27 [eq v286.1, eq v287.1], blk b256 27 [eq (.slice none 0 0), eq (.slice none 0 0)], blk b255 32 [eq (.int .i64 a1.fKind), eq (.string a1.fRoom), eq (.string a1.fUser), eq (.string a1.fEvent), eq (.string a1.fThread), eq (.bool a1.fPrivate), eq (.bool a1.fOn), eq (.int .i64 a1.fSpan), eq (.int .i64 a1.fState), eq (.int .i64 a1.fTick), eq (.int .i64 a1.fStamp)], blk b254 27 [sl Edu.K a0.fL, sl boolK a0.fTold], own Edu.K v289.1 (p285.2.2.1 ++ ([Edu.K.at a0.fL x272] : List Edu)), own boolK v287.1 p285.2.2.2] ++ F) rfl trivial rfl rfl rfl src_sl Try.underlying22 (.inr ⟨_, Try.underlying22⟩) inf32 rfl (by decide) g288 rfl nofun (fun v289 => ?_)
                refine Dv.fab rfl trivial rfl Try.underlying27 rfl Try.underlying22 c22 (by decide) ?_
                refine Dv.stx ([blk b279 32 [eq (.int .i64 ((Edu.K.at a0.fL x272).fKind)), eq (.string ((Edu.K.at a0.fL x272).fRoom)), eq (.string ((Edu.K.at a0.fL x272).fUser)), eq (.string ((Edu.K.at a0.fL x272).fEvent)), eq (.string ((Edu.K.at a0.fL x272).fThread)), eq (.bool ((Edu.K.at a0.fL x272).fPrivate)), eq (.bool ((Edu.K.at a0.fL x272).fOn)), eq (.int .i64 ((Edu.K.at a0.fL x272).fSpan)), eq (.int .i64 ((Edu.K.at a0.fL x272).fState)), eq (.int .i64 ((Edu.K.at a0.fL x272).fTick)), eq (.int .i64 ((Edu.K.at a0.fL x272).fStamp))], blk b262 27 [eq v289.1, eq v287.1], blk b256 27 [eq (.slice none 0 0), eq (.slice none 0 0)], blk b255 32 [eq (.int .i64 a1.fKind), eq (.string a1.fRoom), eq (.string a1.fUser), eq (.string a1.fEvent), eq (.string a1.fThread), eq (.bool a1.fPrivate), eq (.bool a1.fOn), eq (.int .i64 a1.fSpan), eq (.int .i64 a1.fState), eq (.int .i64 a1.fTick), eq (.int .i64 a1.fStamp)], blk b254 27 [sl Edu.K a0.fL, sl boolK a0.fTold], own Edu.K v289.1 (p285.2.2.1 ++ ([Edu.K.at a0.fL x272] : List Edu)), own boolK v287.1 p285.2.2.2] ++ F) rfl trivial rfl rfl (cells_one one_ov) Try.underlying22 c22 rfl (j := 1) rfl (Nat.le_of_ble_eq_true rfl) rfl nofun ?_
                refine .fin ?_
                refine WP.dreg Try.checked.mixed [(0, false), (1, false), (2, false), (3, false), (4, false), (5, false), (6, false), (7, false), (8, true), (9, false), (10, true)] (by kernel_rfl) ?_
                refine Dv.fab rfl trivial rfl Try.underlying27 rfl Try.underlying25 c25 (by decide) ?_
                refine Dv.ldb rfl trivial rfl Try.underlying25 rfl (mem_at 1 rfl) rfl ?_
                refine Dv.fab rfl trivial rfl Try.underlying27 rfl Try.underlying25 c25 (by decide) ?_
                refine Dv.ldb rfl trivial rfl Try.underlying25 rfl (mem_at 4 rfl) rfl ?_
                refine Dv.mv rfl trivial rfl ?_
                obtain ⟨g290, H⟩ := Gets.grd H
                refine Dv.ixr rfl trivial rfl rfl Try.underlying25 Try.underlying4 c4 g290.1 g290.2 ?_
                refine Dv.ldr rfl trivial rfl Try.underlying4 rfl rfl ?_
                refine Dv.lit boolK ([boolK.at a0.fTold x272] : List Bool) (css := [[eq (.bool (boolK.at a0.fTold x272))]]) rfl trivial Try.underlying25 Try.underlying4 c4 z4 rfl (by decide) (by decide) rfl ⟨(cells_one (one_eq rfl)), trivial⟩ rfl rfl rfl ?_
                obtain ⟨g291, H⟩ := Gets.grd H
                refine Dv.appx (jj := 6) (ys := ([boolK.at a0.fTold x272] : List Bool)) (fun v292 : OV => [blk b279 32 [eq (.int .i64 ((Edu.K.at a0.fL x272).fKind)), eq (.string ((Edu.K.at a0.fL x272).fRoom)), eq (.string ((Edu.K.at a0.fL x272).fUser)), eq (.string ((Edu.K.at a0.fL x272).fEvent)), eq (.string ((Edu.K.at a0.fL x272).fThread)), eq (.bool ((Edu.K.at a0.fL x272).fPrivate)), eq (.bool ((Edu.K.at a0.fL x272).fOn)), eq (.int .i64 ((Edu.K.at a0.fL x272).fSpan)), eq (.int .i64 ((Edu.K.at a0.fL x272).fState)), eq (.int .i64 ((Edu.K.at a0.fL x272).fTick)), eq (.int .i64 ((Edu.K.at a0.fL x272).fStamp))], blk b262 27 [eq v289.1, eq v287.1], blk b256 27 [eq (.slice none 0 0), eq (.slice none 0 0)], blk b255 32 [eq (.int .i64 a1.fKind), eq (.string a1.fRoom), eq (.string a1.fUser), eq (.string a1.fEvent), eq (.string a1.fThread), eq (.bool a1.fPrivate), eq (.bool a1.fOn), eq (.int .i64 a1.fSpan), eq (.int .i64 a1.fState), eq (.int .i64 a1.fTick), eq (.int .i64 a1.fStamp)], blk b254 27 [sl Edu.K a0.fL, sl boolK a0.fTold], own Edu.K v289.1 (p285.2.2.1 ++ ([Edu.K.at a0.fL x272] : List Edu)), own boolK v292.1 (p285.2.2.2 ++ ([boolK.at a0.fTold x272] : List Bool))] ++ F) rfl trivial rfl rfl rfl src_sl Try.underlying25 (.inr ⟨_, Try.underlying25⟩) inf4 rfl (by decide) g291 rfl (fun _ => pend_bits (by kernel_rfl)) (fun v292 => ?_)
                refine Dv.fab rfl trivial rfl Try.underlying27 rfl Try.underlying25 c25 (by decide) ?_
                refine Dv.stx ([blk b279 32 [eq (.int .i64 ((Edu.K.at a0.fL x272).fKind)), eq (.string ((Edu.K.at a0.fL x272).fRoom)), eq (.string ((Edu.K.at a0.fL x272).fUser)), eq (.string ((Edu.K.at a0.fL x272).fEvent)), eq (.string ((Edu.K.at a0.fL x272).fThread)), eq (.bool ((Edu.K.at a0.fL x272).fPrivate)), eq (.bool ((Edu.K.at a0.fL x272).fOn)), eq (.int .i64 ((Edu.K.at a0.fL x272).fSpan)), eq (.int .i64 ((Edu.K.at a0.fL x272).fState)), eq (.int .i64 ((Edu.K.at a0.fL x272).fTick)), eq (.int .i64 ((Edu.K.at a0.fL x272).fStamp))], blk b262 27 [eq v289.1, eq v292.1], blk b256 27 [eq (.slice none 0 0), eq (.slice none 0 0)], blk b255 32 [eq (.int .i64 a1.fKind), eq (.string a1.fRoom), eq (.string a1.fUser), eq (.string a1.fEvent), eq (.string a1.fThread), eq (.bool a1.fPrivate), eq (.bool a1.fOn), eq (.int .i64 a1.fSpan), eq (.int .i64 a1.fState), eq (.int .i64 a1.fTick), eq (.int .i64 a1.fStamp)], blk b254 27 [sl Edu.K a0.fL, sl boolK a0.fTold], own Edu.K v289.1 (p285.2.2.1 ++ ([Edu.K.at a0.fL x272] : List Edu)), own boolK v292.1 (p285.2.2.2 ++ ([boolK.at a0.fTold x272] : List Bool))] ++ F) rfl trivial rfl rfl (cells_one one_ov) Try.underlying25 c25 rfl (j := 1) rfl (Nat.le_of_ble_eq_true rfl) rfl (fun _ => pend_bits (by kernel_rfl)) ?_
                refine .fin ?_
                refine WP.reg [(0, false), (1, false), (2, false)] (by kernel_rfl) ?_
                refine Dv.mv rfl trivial rfl ?_
                refine Dv.bin rfl trivial rfl rfl (fun _ => run_add) ?_
                refine Dv.asg rfl trivial rfl ?_
                refine .fin ?_
                refine Dn.gh (l' := fun _ : Unit => [blk b262 27 [eq v289.1, eq v292.1], blk b256 27 [eq (.slice none 0 0), eq (.slice none 0 0)], blk b255 32 [eq (.int .i64 a1.fKind), eq (.string a1.fRoom), eq (.string a1.fUser), eq (.string a1.fEvent), eq (.string a1.fThread), eq (.bool a1.fPrivate), eq (.bool a1.fOn), eq (.int .i64 a1.fSpan), eq (.int .i64 a1.fState), eq (.int .i64 a1.fTick), eq (.int .i64 a1.fStamp)], blk b254 27 [sl Edu.K a0.fL, sl boolK a0.fTold], own Edu.K v289.1 (p285.2.2.1 ++ ([Edu.K.at a0.fL x272] : List Edu)), own boolK v292.1 (p285.2.2.2 ++ ([boolK.at a0.fTold x272] : List Bool))] ++ F) (gh_of (st_selg (L := [blk b279 32 [eq (.int .i64 ((Edu.K.at a0.fL x272).fKind)), eq (.string ((Edu.K.at a0.fL x272).fRoom)), eq (.string ((Edu.K.at a0.fL x272).fUser)), eq (.string ((Edu.K.at a0.fL x272).fEvent)), eq (.string ((Edu.K.at a0.fL x272).fThread)), eq (.bool ((Edu.K.at a0.fL x272).fPrivate)), eq (.bool ((Edu.K.at a0.fL x272).fOn)), eq (.int .i64 ((Edu.K.at a0.fL x272).fSpan)), eq (.int .i64 ((Edu.K.at a0.fL x272).fState)), eq (.int .i64 ((Edu.K.at a0.fL x272).fTick)), eq (.int .i64 ((Edu.K.at a0.fL x272).fStamp))], blk b262 27 [eq v289.1, eq v292.1], blk b256 27 [eq (.slice none 0 0), eq (.slice none 0 0)], blk b255 32 [eq (.int .i64 a1.fKind), eq (.string a1.fRoom), eq (.string a1.fUser), eq (.string a1.fEvent), eq (.string a1.fThread), eq (.bool a1.fPrivate), eq (.bool a1.fOn), eq (.int .i64 a1.fSpan), eq (.int .i64 a1.fState), eq (.int .i64 a1.fTick), eq (.int .i64 a1.fStamp)], blk b254 27 [sl Edu.K a0.fL, sl boolK a0.fTold], own Edu.K v289.1 (p285.2.2.1 ++ ([Edu.K.at a0.fL x272] : List Edu)), own boolK v292.1 (p285.2.2.2 ++ ([boolK.at a0.fTold x272] : List Bool))]) (F := F) [0, 1, 2, 3, 4, 5, 6] 1 (by kernel_rfl) rfl rfl)) (fun _ _ => ?_)
                exact Back.mk j334 (p285.1, w64 (x272 + 1), p285.2.2.1 ++ ([Edu.K.at a0.fL x272] : List Edu), p285.2.2.2 ++ ([boolK.at a0.fTold x272] : List Bool), v289, v292) (Nat.lt_succ_self _) H (weak_cons rfl (weak_cons rfl (weak_cons rfl (weak_cons rfl (weak_cons rfl (weak_cons rfl (weak_cons rfl (weak_cons rfl (weak_cons rfl (weak_cons rfl (weak_cons rfl (weak_cons rfl weak_nil)))))))))))) (List.Perm.refl _)
              · refine WP.seq ?_
                refine WP.reg [(0, false), (1, false), (2, false), (3, false), (4, false), (5, false), (6, false), (7, false), (8, false), (9, false), (10, false), (11, false), (12, false), (13, false), (14, false), (15, false), (16, false), (17, false), (18, false), (19, false), (20, false), (21, false), (22, false)] (by kernel_rfl) ?_
                refine Dv.mv rfl trivial rfl ?_
                refine Dv.un rfl trivial rfl (fun _ => run_not _) ?_
                refine Dv.mv rfl trivial rfl ?_
                cases c293 : !x271
                · replace H := Gets.cf H c293
                  refine Dv.skip rfl ⟨_, _, rfl, rfl, .inl rfl⟩ ?_
                  refine Dv.skip rfl ⟨_, _, rfl, rfl, .inl rfl⟩ ?_
                  refine Dv.skip rfl ⟨_, _, rfl, rfl, .inl rfl⟩ ?_
                  refine Dv.skip rfl ⟨_, _, rfl, rfl, .inl rfl⟩ ?_
                  refine Dv.skip rfl ⟨_, _, rfl, rfl, .inl rfl⟩ ?_
                  refine Dv.skip rfl ⟨_, _, rfl, rfl, .inl rfl⟩ ?_
                  refine Dv.skip rfl ⟨_, _, rfl, rfl, .inr rfl⟩ ?_
                  refine Dv.skip rfl ⟨_, _, rfl, rfl, .inr rfl⟩ ?_
                  refine Dv.skip rfl ⟨_, _, rfl, rfl, .inr rfl⟩ ?_
                  refine Dv.skip rfl ⟨_, _, rfl, rfl, .inr rfl⟩ ?_
                  refine Dv.skip rfl ⟨_, _, rfl, rfl, .inr rfl⟩ ?_
                  refine Dv.skip rfl ⟨_, _, rfl, rfl, .inr rfl⟩ ?_
                  refine Dv.skip rfl ⟨_, _, rfl, rfl, .inr rfl⟩ ?_
                  refine Dv.skip rfl ⟨_, _, rfl, rfl, .inr rfl⟩ ?_
                  refine Dv.skip rfl ⟨_, _, rfl, rfl, .inr rfl⟩ ?_
                  refine Dv.skip rfl ⟨_, _, rfl, rfl, .inr rfl⟩ ?_
                  refine Dv.skip rfl ⟨_, _, rfl, rfl, .inr rfl⟩ ?_
                  refine Dv.skip rfl ⟨_, _, rfl, rfl, .inr rfl⟩ ?_
                  refine Dv.skip rfl ⟨_, _, rfl, rfl, .inl rfl⟩ ?_
                  refine Dv.pickF rfl trivial rfl rfl ?_
                  refine .fin ?_
                  refine WP.cond rfl nofun (fun _ => ?_)
                  refine WP.skip ?_
                  replace H := Gets.out H
                  exact Jn.mk ((x271, false, x273, x274), v275, v276) H (weak_cons rfl (weak_cons rfl (weak_cons rfl (weak_cons rfl (weak_cons rfl (weak_cons rfl (weak_cons rfl (weak_cons rfl (weak_cons rfl (weak_cons rfl (weak_cons rfl (weak_cons rfl (weak_cons rfl (weak_cons rfl (weak_cons rfl (weak_cons rfl weak_nil)))))))))))))))) (List.Perm.refl _)
                · replace H := Gets.ct H c293
                  refine Dv.fab rfl ⟨_, _, rfl, rfl, rfl⟩ rfl Try.underlying32 rfl Try.underlying9 c9 (by decide) ?_
                  refine Dv.ldb rfl ⟨_, _, rfl, rfl, rfl⟩ rfl Try.underlying9 rfl (mem_at 3 rfl) rfl ?_
                  refine Dv.fab rfl ⟨_, _, rfl, rfl, rfl⟩ rfl Try.underlying32 rfl Try.underlying9 c9 (by decide) ?_
                  refine Dv.ldb rfl ⟨_, _, rfl, rfl, rfl⟩ rfl Try.underlying9 rfl (mem_at 0 rfl) rfl ?_
                  refine Dv.bin rfl ⟨_, _, rfl, rfl, rfl⟩ rfl rfl (fun _ => run_slt) ?_
                  refine Dv.mv rfl ⟨_, _, rfl, rfl, rfl⟩ rfl ?_
                  cases c294 : sLt a1.fRoom ((Edu.K.at a0.fL x272).fRoom)
                  · replace H := Gets.cf H c294
                    refine Dv.fab rfl ⟨_, _, rfl, rfl, rfl⟩ rfl Try.underlying32 rfl Try.underlying9 c9 (by decide) ?_
                    refine Dv.ldb rfl ⟨_, _, rfl, rfl, rfl⟩ rfl Try.underlying9 rfl (mem_at 3 rfl) rfl ?_
                    refine Dv.fab rfl ⟨_, _, rfl, rfl, rfl⟩ rfl Try.underlying32 rfl Try.underlying9 c9 (by decide) ?_
                    refine Dv.ldb rfl ⟨_, _, rfl, rfl, rfl⟩ rfl Try.underlying9 rfl (mem_at 0 rfl) rfl ?_
                    refine Dv.bin rfl ⟨_, _, rfl, rfl, rfl⟩ rfl rfl (fun _ => run_seq) ?_
                    refine Dv.mv rfl ⟨_, _, rfl, rfl, rfl⟩ rfl ?_
                    cases c300 : decide (a1.fRoom = ((Edu.K.at a0.fL x272).fRoom))
                    · replace H := Gets.cf H c300
                      refine Dv.skip rfl ⟨_, _, rfl, rfl, .inl rfl⟩ ?_
                      refine Dv.skip rfl ⟨_, _, rfl, rfl, .inl rfl⟩ ?_
                      refine Dv.skip rfl ⟨_, _, rfl, rfl, .inl rfl⟩ ?_
                      refine Dv.skip rfl ⟨_, _, rfl, rfl, .inl rfl⟩ ?_
                      refine Dv.skip rfl ⟨_, _, rfl, rfl, .inl rfl⟩ ?_
                      refine Dv.pickF rfl ⟨_, _, rfl, rfl, rfl⟩ rfl rfl ?_
                      refine Dv.pickF rfl ⟨_, _, rfl, rfl, rfl⟩ rfl rfl ?_
                      refine Dv.pickT rfl trivial rfl rfl ?_
                      refine .fin ?_
                      refine WP.cond rfl nofun (fun _ => ?_)
                      refine WP.skip ?_
                      replace H := Gets.out H
                      exact Jn.mk ((x271, false, x273, x274), v275, v276) H (weak_cons rfl (weak_cons rfl (weak_cons rfl (weak_cons rfl (weak_cons rfl (weak_cons rfl (weak_cons rfl (weak_cons rfl (weak_cons rfl (weak_cons rfl (weak_cons rfl (weak_cons rfl (weak_cons rfl (weak_cons rfl (weak_cons rfl (weak_cons rfl weak_nil)))))))))))))))) (List.Perm.refl _)
                    · replace H := Gets.ct H c300
                      refine Dv.fab rfl ⟨_, _, rfl, rfl, rfl⟩ rfl Try.underlying32 rfl Try.underlying9 c9 (by decide) ?_
                      refine Dv.ldb rfl ⟨_, _, rfl, rfl, rfl⟩ rfl Try.underlying9 rfl (mem_at 3 rfl) rfl ?_
                      refine Dv.fab rfl ⟨_, _, rfl, rfl, rfl⟩ rfl Try.underlying32 rfl Try.underlying9 c9 (by decide) ?_
                      refine Dv.ldb rfl ⟨_, _, rfl, rfl, rfl⟩ rfl Try.underlying9 rfl (mem_at 0 rfl) rfl ?_
                      refine Dv.bin rfl ⟨_, _, rfl, rfl, rfl⟩ rfl rfl (fun _ => run_slt) ?_
                      refine Dv.pickT rfl ⟨_, _, rfl, rfl, rfl⟩ rfl rfl ?_
                      refine Dv.pickF rfl ⟨_, _, rfl, rfl, rfl⟩ rfl rfl ?_
                      refine Dv.pickT rfl trivial rfl rfl ?_
                      refine .fin ?_
                      refine WP.cond rfl (fun c301 => ?_) (fun c301 => ?_)
                      · replace H := Gets.ct H c301
                        refine WP.seq ?_
                        refine WP.reg [(0, false), (1, false), (2, false), (3, false), (4, true), (5, false), (6, true)] (by kernel_rfl) ?_
                        refine Dv.fab rfl trivial rfl Try.underlying27 rfl Try.underlying22 c22 (by decide) ?_
                        refine Dv.ldb rfl trivial rfl Try.underlying22 rfl (mem_at 1 rfl) rfl ?_
                        refine Dv.ldbs rfl trivial rfl Try.underlying32 rfl c32 (mem_at 3 rfl) (Nat.le_of_ble_eq_true rfl) ?_
                        refine Dv.lit Edu.K ([a1] : List Edu) (css := [Edu.enc a1]) rfl trivial Try.underlying22 Try.underlying32 c32 z32 rfl (by decide) (by decide) rfl ⟨(cells_agg (Edu.K.one _)), trivial⟩ rfl rfl rfl ?_
                        obtain ⟨g302, H⟩ := Gets.grd H
                        refine Dv.appx (jj := 5) (ys := ([a1] : List Edu)) (fun v303 : OV => [blk b279 32 [eq (.int .i64 ((Edu.K.at a0.fL x272).fKind)), eq (.string ((Edu.K.at a0.fL x272).fRoom)), eq (.string ((Edu.K.at a0.fL x272).fUser)), eq (.string ((Edu.K.at a0.fL x272).fEvent)), eq (.string ((Edu.K.at a0.fL x272).fThread)), eq (.bool ((Edu.K.at a0.fL x272).fPrivate)), eq (.bool ((Edu.K.at a0.fL x272).fOn)), eq (.int .i64 ((Edu.K.at a0.fL x272).fSpan)), eq (.int .i64 ((Edu.K.at a0.fL x272).fState)), eq (.int .i64 ((Edu.K.at a0.fL x272).fTick)), eq (.int .i64 ((Edu.K.at a0.fL x272).fStamp))], blk b262 27 [eq v275.1, eq v276.1], blk b256 27 [eq (.slice none 0 0), eq (.slice none 0 0)], blk b255 32 [eq (.int .i64 a1.fKind), eq (.string a1.fRoom), eq (.string a1.fUser), eq (.string a1.fEvent), eq (.string a1.fThread), eq (.bool a1.fPrivate), eq (.bool a1.fOn), eq (.int .i64 a1.fSpan), eq (.int .i64 a1.fState), eq (.int .i64 a1.fTick), eq (.int .i64 a1.fStamp)], blk b254 27 [sl Edu.K a0.fL, sl boolK a0.fTold], own Edu.K v303.1 (x273 ++ ([a1] : List Edu)), own boolK v276.1 x274] ++ F) rfl trivial rfl rfl rfl src_sl Try.underlying22 (.inr ⟨_, Try.underlying22⟩) inf32 rfl (by decide) g302 rfl nofun (fun v303 => ?_)
                        refine Dv.fab rfl trivial rfl Try.underlying27 rfl Try.underlying22 c22 (by decide) ?_
                        refine Dv.stx ([blk b279 32 [eq (.int .i64 ((Edu.K.at a0.fL x272).fKind)), eq (.string ((Edu.K.at a0.fL x272).fRoom)), eq (.string ((Edu.K.at a0.fL x272).fUser)), eq (.string ((Edu.K.at a0.fL x272).fEvent)), eq (.string ((Edu.K.at a0.fL x272).fThread)), eq (.bool ((Edu.K.at a0.fL x272).fPrivate)), eq (.bool ((Edu.K.at a0.fL x272).fOn)), eq (.int .i64 ((Edu.K.at a0.fL x272).fSpan)), eq (.int .i64 ((Edu.K.at a0.fL x272).fState)), eq (.int .i64 ((Edu.K.at a0.fL x272).fTick)), eq (.int .i64 ((Edu.K.at a0.fL x272).fStamp))], blk b262 27 [eq v303.1, eq v276.1], blk b256 27 [eq (.slice none 0 0), eq (.slice none 0 0)], blk b255 32 [eq (.int .i64 a1.fKind), eq (.string a1.fRoom), eq (.string a1.fUser), eq (.string a1.fEvent), eq (.string a1.fThread), eq (.bool a1.fPrivate), eq (.bool a1.fOn), eq (.int .i64 a1.fSpan), eq (.int .i64 a1.fState), eq (.int .i64 a1.fTick), eq (.int .i64 a1.fStamp)], blk b254 27 [sl Edu.K a0.fL, sl boolK a0.fTold], own Edu.K v303.1 (x273 ++ ([a1] : List Edu)), own boolK v276.1 x274] ++ F) rfl trivial rfl rfl (cells_one one_ov) Try.underlying22 c22 rfl (j := 1) rfl (Nat.le_of_ble_eq_true rfl) rfl nofun ?_
                        refine .fin ?_
                        refine WP.seq ?_
                        refine WP.reg [(0, false), (1, false), (2, false), (3, true), (4, false), (5, true)] (by kernel_rfl) ?_
                        refine Dv.fab rfl trivial rfl Try.underlying27 rfl Try.underlying25 c25 (by decide) ?_
                        refine Dv.ldb rfl trivial rfl Try.underlying25 rfl (mem_at 1 rfl) rfl ?_
                        refine Dv.lit boolK ([false] : List Bool) (css := [[eq (.bool false)]]) rfl trivial Try.underlying25 Try.underlying4 c4 z4 rfl (by decide) (by decide) rfl ⟨(cells_one (one_eq rfl)), trivial⟩ rfl rfl rfl ?_
                        obtain ⟨g304, H⟩ := Gets.grd H
                        refine Dv.appx (jj := 6) (ys := ([false] : List Bool)) (fun v305 : OV => [blk b279 32 [eq (.int .i64 ((Edu.K.at a0.fL x272).fKind)), eq (.string ((Edu.K.at a0.fL x272).fRoom)), eq (.string ((Edu.K.at a0.fL x272).fUser)), eq (.string ((Edu.K.at a0.fL x272).fEvent)), eq (.string ((Edu.K.at a0.fL x272).fThread)), eq (.bool ((Edu.K.at a0.fL x272).fPrivate)), eq (.bool ((Edu.K.at a0.fL x272).fOn)), eq (.int .i64 ((Edu.K.at a0.fL x272).fSpan)), eq (.int .i64 ((Edu.K.at a0.fL x272).fState)), eq (.int .i64 ((Edu.K.at a0.fL x272).fTick)), eq (.int .i64 ((Edu.K.at a0.fL x272).fStamp))], blk b262 27 [eq v303.1, eq v276.1], blk b256 27 [eq (.slice none 0 0), eq (.slice none 0 0)], blk b255 32 [eq (.int .i64 a1.fKind), eq (.string a1.fRoom), eq (.string a1.fUser), eq (.string a1.fEvent), eq (.string a1.fThread), eq (.bool a1.fPrivate), eq (.bool a1.fOn), eq (.int .i64 a1.fSpan), eq (.int .i64 a1.fState), eq (.int .i64 a1.fTick), eq (.int .i64 a1.fStamp)], blk b254 27 [sl Edu.K a0.fL, sl boolK a0.fTold], own Edu.K v303.1 (x273 ++ ([a1] : List Edu)), own boolK v305.1 (x274 ++ ([false] : List Bool))] ++ F) rfl trivial rfl rfl rfl src_sl Try.underlying25 (.inr ⟨_, Try.underlying25⟩) inf4 rfl (by decide) g304 rfl nofun (fun v305 => ?_)
                        refine Dv.fab rfl trivial rfl Try.underlying27 rfl Try.underlying25 c25 (by decide) ?_
                        refine Dv.stx ([blk b279 32 [eq (.int .i64 ((Edu.K.at a0.fL x272).fKind)), eq (.string ((Edu.K.at a0.fL x272).fRoom)), eq (.string ((Edu.K.at a0.fL x272).fUser)), eq (.string ((Edu.K.at a0.fL x272).fEvent)), eq (.string ((Edu.K.at a0.fL x272).fThread)), eq (.bool ((Edu.K.at a0.fL x272).fPrivate)), eq (.bool ((Edu.K.at a0.fL x272).fOn)), eq (.int .i64 ((Edu.K.at a0.fL x272).fSpan)), eq (.int .i64 ((Edu.K.at a0.fL x272).fState)), eq (.int .i64 ((Edu.K.at a0.fL x272).fTick)), eq (.int .i64 ((Edu.K.at a0.fL x272).fStamp))], blk b262 27 [eq v303.1, eq v305.1], blk b256 27 [eq (.slice none 0 0), eq (.slice none 0 0)], blk b255 32 [eq (.int .i64 a1.fKind), eq (.string a1.fRoom), eq (.string a1.fUser), eq (.string a1.fEvent), eq (.string a1.fThread), eq (.bool a1.fPrivate), eq (.bool a1.fOn), eq (.int .i64 a1.fSpan), eq (.int .i64 a1.fState), eq (.int .i64 a1.fTick), eq (.int .i64 a1.fStamp)], blk b254 27 [sl Edu.K a0.fL, sl boolK a0.fTold], own Edu.K v303.1 (x273 ++ ([a1] : List Edu)), own boolK v305.1 (x274 ++ ([false] : List Bool))] ++ F) rfl trivial rfl rfl (cells_one one_ov) Try.underlying25 c25 rfl (j := 1) rfl (Nat.le_of_ble_eq_true rfl) rfl nofun ?_
                        refine .fin ?_
                        refine WP.reg [(0, false)] (by kernel_rfl) ?_
                        refine Dv.asg rfl trivial rfl ?_
                        refine .fin ?_
                        replace H := Gets.out H
                        exact Jn.mk ((true, sLt a1.fUser ((Edu.K.at a0.fL x272).fUser), x273 ++ ([a1] : List Edu), x274 ++ ([false] : List Bool)), v303, v305) H (weak_cons rfl (weak_cons rfl (weak_cons rfl (weak_cons rfl (weak_cons rfl (weak_cons rfl (weak_cons rfl (weak_cons rfl (weak_cons rfl (weak_cons rfl (weak_cons rfl (weak_cons rfl (weak_cons rfl (weak_cons rfl (weak_cons rfl (weak_cons rfl weak_nil)))))))))))))))) (List.Perm.refl _)
                      · replace H := Gets.cf H c301
                        refine WP.skip ?_
                        replace H := Gets.out H
                        exact Jn.mk ((x271, sLt a1.fUser ((Edu.K.at a0.fL x272).fUser), x273, x274), v275, v276) H (weak_cons rfl (weak_cons rfl (weak_cons rfl (weak_cons rfl (weak_cons rfl (weak_cons rfl (weak_cons rfl (weak_cons rfl (weak_cons rfl (weak_cons rfl (weak_cons rfl (weak_cons rfl (weak_cons rfl (weak_cons rfl (weak_cons rfl (weak_cons rfl weak_nil)))))))))))))))) (List.Perm.refl _)
                  · replace H := Gets.ct H c294
                    refine Dv.skip rfl ⟨_, _, rfl, rfl, .inl rfl⟩ ?_
                    refine Dv.skip rfl ⟨_, _, rfl, rfl, .inl rfl⟩ ?_
                    refine Dv.skip rfl ⟨_, _, rfl, rfl, .inl rfl⟩ ?_
                    refine Dv.skip rfl ⟨_, _, rfl, rfl, .inl rfl⟩ ?_
                    refine Dv.skip rfl ⟨_, _, rfl, rfl, .inl rfl⟩ ?_
                    refine Dv.skip rfl ⟨_, _, rfl, rfl, .inl rfl⟩ ?_
                    refine Dv.skip rfl ⟨_, _, rfl, rfl, .inr rfl⟩ ?_
                    refine Dv.skip rfl ⟨_, _, rfl, rfl, .inr rfl⟩ ?_
                    refine Dv.skip rfl ⟨_, _, rfl, rfl, .inr rfl⟩ ?_
                    refine Dv.skip rfl ⟨_, _, rfl, rfl, .inr rfl⟩ ?_
                    refine Dv.skip rfl ⟨_, _, rfl, rfl, .inr rfl⟩ ?_
                    refine Dv.skip rfl ⟨_, _, rfl, rfl, .inl rfl⟩ ?_
                    refine Dv.pickT rfl ⟨_, _, rfl, rfl, rfl⟩ rfl rfl ?_
                    refine Dv.pickT rfl trivial rfl rfl ?_
                    refine .fin ?_
                    refine WP.cond rfl (fun _ => ?_) nofun
                    refine WP.seq ?_
                    refine WP.reg [(0, false), (1, false), (2, false), (3, false), (4, true), (5, false), (6, true)] (by kernel_rfl) ?_
                    refine Dv.fab rfl trivial rfl Try.underlying27 rfl Try.underlying22 c22 (by decide) ?_
                    refine Dv.ldb rfl trivial rfl Try.underlying22 rfl (mem_at 1 rfl) rfl ?_
                    refine Dv.ldbs rfl trivial rfl Try.underlying32 rfl c32 (mem_at 3 rfl) (Nat.le_of_ble_eq_true rfl) ?_
                    refine Dv.lit Edu.K ([a1] : List Edu) (css := [Edu.enc a1]) rfl trivial Try.underlying22 Try.underlying32 c32 z32 rfl (by decide) (by decide) rfl ⟨(cells_agg (Edu.K.one _)), trivial⟩ rfl rfl rfl ?_
                    obtain ⟨g296, H⟩ := Gets.grd H
                    refine Dv.appx (jj := 5) (ys := ([a1] : List Edu)) (fun v297 : OV => [blk b279 32 [eq (.int .i64 ((Edu.K.at a0.fL x272).fKind)), eq (.string ((Edu.K.at a0.fL x272).fRoom)), eq (.string ((Edu.K.at a0.fL x272).fUser)), eq (.string ((Edu.K.at a0.fL x272).fEvent)), eq (.string ((Edu.K.at a0.fL x272).fThread)), eq (.bool ((Edu.K.at a0.fL x272).fPrivate)), eq (.bool ((Edu.K.at a0.fL x272).fOn)), eq (.int .i64 ((Edu.K.at a0.fL x272).fSpan)), eq (.int .i64 ((Edu.K.at a0.fL x272).fState)), eq (.int .i64 ((Edu.K.at a0.fL x272).fTick)), eq (.int .i64 ((Edu.K.at a0.fL x272).fStamp))], blk b262 27 [eq v275.1, eq v276.1], blk b256 27 [eq (.slice none 0 0), eq (.slice none 0 0)], blk b255 32 [eq (.int .i64 a1.fKind), eq (.string a1.fRoom), eq (.string a1.fUser), eq (.string a1.fEvent), eq (.string a1.fThread), eq (.bool a1.fPrivate), eq (.bool a1.fOn), eq (.int .i64 a1.fSpan), eq (.int .i64 a1.fState), eq (.int .i64 a1.fTick), eq (.int .i64 a1.fStamp)], blk b254 27 [sl Edu.K a0.fL, sl boolK a0.fTold], own Edu.K v297.1 (x273 ++ ([a1] : List Edu)), own boolK v276.1 x274] ++ F) rfl trivial rfl rfl rfl src_sl Try.underlying22 (.inr ⟨_, Try.underlying22⟩) inf32 rfl (by decide) g296 rfl nofun (fun v297 => ?_)
                    refine Dv.fab rfl trivial rfl Try.underlying27 rfl Try.underlying22 c22 (by decide) ?_
                    refine Dv.stx ([blk b279 32 [eq (.int .i64 ((Edu.K.at a0.fL x272).fKind)), eq (.string ((Edu.K.at a0.fL x272).fRoom)), eq (.string ((Edu.K.at a0.fL x272).fUser)), eq (.string ((Edu.K.at a0.fL x272).fEvent)), eq (.string ((Edu.K.at a0.fL x272).fThread)), eq (.bool ((Edu.K.at a0.fL x272).fPrivate)), eq (.bool ((Edu.K.at a0.fL x272).fOn)), eq (.int .i64 ((Edu.K.at a0.fL x272).fSpan)), eq (.int .i64 ((Edu.K.at a0.fL x272).fState)), eq (.int .i64 ((Edu.K.at a0.fL x272).fTick)), eq (.int .i64 ((Edu.K.at a0.fL x272).fStamp))], blk b262 27 [eq v297.1, eq v276.1], blk b256 27 [eq (.slice none 0 0), eq (.slice none 0 0)], blk b255 32 [eq (.int .i64 a1.fKind), eq (.string a1.fRoom), eq (.string a1.fUser), eq (.string a1.fEvent), eq (.string a1.fThread), eq (.bool a1.fPrivate), eq (.bool a1.fOn), eq (.int .i64 a1.fSpan), eq (.int .i64 a1.fState), eq (.int .i64 a1.fTick), eq (.int .i64 a1.fStamp)], blk b254 27 [sl Edu.K a0.fL, sl boolK a0.fTold], own Edu.K v297.1 (x273 ++ ([a1] : List Edu)), own boolK v276.1 x274] ++ F) rfl trivial rfl rfl (cells_one one_ov) Try.underlying22 c22 rfl (j := 1) rfl (Nat.le_of_ble_eq_true rfl) rfl nofun ?_
                    refine .fin ?_
                    refine WP.seq ?_
                    refine WP.reg [(0, false), (1, false), (2, false), (3, true), (4, false), (5, true)] (by kernel_rfl) ?_
                    refine Dv.fab rfl trivial rfl Try.underlying27 rfl Try.underlying25 c25 (by decide) ?_
                    refine Dv.ldb rfl trivial rfl Try.underlying25 rfl (mem_at 1 rfl) rfl ?_
                    refine Dv.lit boolK ([false] : List Bool) (css := [[eq (.bool false)]]) rfl trivial Try.underlying25 Try.underlying4 c4 z4 rfl (by decide) (by decide) rfl ⟨(cells_one (one_eq rfl)), trivial⟩ rfl rfl rfl ?_
                    obtain ⟨g298, H⟩ := Gets.grd H
                    refine Dv.appx (jj := 6) (ys := ([false] : List Bool)) (fun v299 : OV => [blk b279 32 [eq (.int .i64 ((Edu.K.at a0.fL x272).fKind)), eq (.string ((Edu.K.at a0.fL x272).fRoom)), eq (.string ((Edu.K.at a0.fL x272).fUser)), eq (.string ((Edu.K.at a0.fL x272).fEvent)), eq (.string ((Edu.K.at a0.fL x272).fThread)), eq (.bool ((Edu.K.at a0.fL x272).fPrivate)), eq (.bool ((Edu.K.at a0.fL x272).fOn)), eq (.int .i64 ((Edu.K.at a0.fL x272).fSpan)), eq (.int .i64 ((Edu.K.at a0.fL x272).fState)), eq (.int .i64 ((Edu.K.at a0.fL x272).fTick)), eq (.int .i64 ((Edu.K.at a0.fL x272).fStamp))], blk b262 27 [eq v297.1, eq v276.1], blk b256 27 [eq (.slice none 0 0), eq (.slice none 0 0)], blk b255 32 [eq (.int .i64 a1.fKind), eq (.string a1.fRoom), eq (.string a1.fUser), eq (.string a1.fEvent), eq (.string a1.fThread), eq (.bool a1.fPrivate), eq (.bool a1.fOn), eq (.int .i64 a1.fSpan), eq (.int .i64 a1.fState), eq (.int .i64 a1.fTick), eq (.int .i64 a1.fStamp)], blk b254 27 [sl Edu.K a0.fL, sl boolK a0.fTold], own Edu.K v297.1 (x273 ++ ([a1] : List Edu)), own boolK v299.1 (x274 ++ ([false] : List Bool))] ++ F) rfl trivial rfl rfl rfl src_sl Try.underlying25 (.inr ⟨_, Try.underlying25⟩) inf4 rfl (by decide) g298 rfl nofun (fun v299 => ?_)
                    refine Dv.fab rfl trivial rfl Try.underlying27 rfl Try.underlying25 c25 (by decide) ?_
                    refine Dv.stx ([blk b279 32 [eq (.int .i64 ((Edu.K.at a0.fL x272).fKind)), eq (.string ((Edu.K.at a0.fL x272).fRoom)), eq (.string ((Edu.K.at a0.fL x272).fUser)), eq (.string ((Edu.K.at a0.fL x272).fEvent)), eq (.string ((Edu.K.at a0.fL x272).fThread)), eq (.bool ((Edu.K.at a0.fL x272).fPrivate)), eq (.bool ((Edu.K.at a0.fL x272).fOn)), eq (.int .i64 ((Edu.K.at a0.fL x272).fSpan)), eq (.int .i64 ((Edu.K.at a0.fL x272).fState)), eq (.int .i64 ((Edu.K.at a0.fL x272).fTick)), eq (.int .i64 ((Edu.K.at a0.fL x272).fStamp))], blk b262 27 [eq v297.1, eq v299.1], blk b256 27 [eq (.slice none 0 0), eq (.slice none 0 0)], blk b255 32 [eq (.int .i64 a1.fKind), eq (.string a1.fRoom), eq (.string a1.fUser), eq (.string a1.fEvent), eq (.string a1.fThread), eq (.bool a1.fPrivate), eq (.bool a1.fOn), eq (.int .i64 a1.fSpan), eq (.int .i64 a1.fState), eq (.int .i64 a1.fTick), eq (.int .i64 a1.fStamp)], blk b254 27 [sl Edu.K a0.fL, sl boolK a0.fTold], own Edu.K v297.1 (x273 ++ ([a1] : List Edu)), own boolK v299.1 (x274 ++ ([false] : List Bool))] ++ F) rfl trivial rfl rfl (cells_one one_ov) Try.underlying25 c25 rfl (j := 1) rfl (Nat.le_of_ble_eq_true rfl) rfl nofun ?_
                    refine .fin ?_
                    refine WP.reg [(0, false)] (by kernel_rfl) ?_
                    refine Dv.asg rfl trivial rfl ?_
                    refine .fin ?_
                    replace H := Gets.out H
                    exact Jn.mk ((true, true, x273 ++ ([a1] : List Edu), x274 ++ ([false] : List Bool)), v297, v299) H (weak_cons rfl (weak_cons rfl (weak_cons rfl (weak_cons rfl (weak_cons rfl (weak_cons rfl (weak_cons rfl (weak_cons rfl (weak_cons rfl (weak_cons rfl (weak_cons rfl (weak_cons rfl (weak_cons rfl (weak_cons rfl (weak_cons rfl (weak_cons rfl weak_nil)))))))))))))))) (List.Perm.refl _)
        · replace H := Gets.cf H c277
          refine WP.exit ?_
          replace H := Gets.out H
          exact Jn.mk ((x271, x272, decide (x272 < (a0.fL.length : Int)), x273, x274), v275, v276) H (weak_cons rfl (weak_cons rfl (weak_cons rfl (weak_cons rfl (weak_cons rfl (weak_cons rfl (weak_cons rfl (weak_cons rfl (weak_cons rfl (weak_cons rfl (weak_cons rfl (weak_cons rfl (weak_cons rfl weak_nil))))))))))))) (List.Perm.refl _)
  · replace H := Gets.ct H c259
    refine Dv.skip rfl ⟨_, _, rfl, rfl, .inl rfl⟩ ?_
    refine Dv.skip rfl ⟨_, _, rfl, rfl, .inl rfl⟩ ?_
    refine Dv.pickT rfl trivial rfl rfl ?_
    refine .fin ?_
    refine WP.cond rfl (fun _ => ?_) nofun
    refine WP.seq ?_
    refine WP.reg [(0, false), (1, true), (2, false), (3, false)] (by kernel_rfl) ?_
    refine Dv.ldbs rfl trivial rfl Try.underlying27 rfl c27 (mem_at 2 rfl) (Nat.le_of_ble_eq_true rfl) ?_
    refine Dv.stx ([blk b256 27 [sl Edu.K a0.fL, sl boolK a0.fTold], blk b255 32 [eq (.int .i64 a1.fKind), eq (.string a1.fRoom), eq (.string a1.fUser), eq (.string a1.fEvent), eq (.string a1.fThread), eq (.bool a1.fPrivate), eq (.bool a1.fOn), eq (.int .i64 a1.fSpan), eq (.int .i64 a1.fState), eq (.int .i64 a1.fTick), eq (.int .i64 a1.fStamp)], blk b254 27 [sl Edu.K a0.fL, sl boolK a0.fTold]] ++ F) rfl trivial rfl rfl (cells_agg (TRef.K.one _)) Try.underlying27 c27 rfl (j := 0) rfl (Nat.le_of_ble_eq_true rfl) rfl nofun ?_
    refine Dv.asg rfl trivial rfl ?_
    refine Dv.asg rfl trivial rfl ?_
    refine .fin ?_
    obtain rfl := Gets.out H
    exact WP.retL (fun _ _ h => h) rfl () trivial (.cons (res_cells rfl Try.underlying27 rfl c27 (mem_at 0 rfl) rfl) (.cons (res_tmp rfl) (.cons (res_tmp rfl) .nil))) rfl (st_sel (L := [blk b256 27 [sl Edu.K a0.fL, sl boolK a0.fTold], blk b255 32 [eq (.int .i64 a1.fKind), eq (.string a1.fRoom), eq (.string a1.fUser), eq (.string a1.fEvent), eq (.string a1.fThread), eq (.bool a1.fPrivate), eq (.bool a1.fOn), eq (.int .i64 a1.fSpan), eq (.int .i64 a1.fState), eq (.int .i64 a1.fTick), eq (.int .i64 a1.fStamp)], blk b254 27 [sl Edu.K a0.fL, sl boolK a0.fTold]]) (F := F) [0, 1, 2] 3 rfl rfl rfl)
theorem concourseref01_Around.c {a0 : Int} {a1 : Int} {r : Int} (h : concourseref01_Around.f a0 a1 = some r) : Pt Try.prog 12 [eq (.int .i64 a0), eq (.int .i64 a1)] (eq (.int .i64 r)) := by
  unfold concourseref01_Around.f at h
  refine (Tr.body Try.func12 (c := _) rfl Try.ntmps12 (Nat.le_of_ble_eq_true rfl) fun R0 F => ?_).pt
  replace h := Gets.of h
  have H := h
  clear h
  refine WP.seq ?_
  refine WP.reg [(0, false)] (by kernel_rfl) ?_
  refine Dv.asg rfl trivial rfl ?_
  refine .fin ?_
  refine WP.seq ?_
  refine WP.seq ?_
  refine WP.reg [(0, false), (1, false)] (by kernel_rfl) ?_
  refine Dv.mv rfl trivial rfl ?_
  refine Dv.bin rfl trivial rfl rfl (fun _ => run_lt) ?_
  refine .fin ?_
  refine WP.cond rfl (fun c337 => ?_) (fun c337 => ?_)
  · replace H := Gets.ct H c337
    refine WP.reg [(0, false), (1, false), (2, false), (3, false)] (by kernel_rfl) ?_
    refine Dv.mv rfl trivial rfl ?_
    refine Dv.bin rfl trivial rfl rfl (fun _ => run_add) ?_
    refine Dv.un rfl trivial rfl (fun _ => run_neg _ _) ?_
    refine Dv.asg rfl trivial rfl ?_
    refine .fin ?_
    refine WP.seq ?_
    refine WP.reg [(0, false), (1, false), (2, false), (3, false)] (by kernel_rfl) ?_
    refine Dv.mv rfl trivial rfl ?_
    refine Dv.mv rfl trivial rfl ?_
    obtain ⟨g338, H⟩ := Gets.grd H
    refine Dv.bin rfl trivial rfl rfl (fun _ => run_rem g338) ?_
    refine Dv.asg rfl trivial rfl ?_
    refine .fin ?_
    obtain rfl := Gets.out H
    exact WP.retL (fun _ _ h => h) rfl () trivial (.cons (res_tmp rfl) .nil) rfl (st_sel (L := []) (F := F) [] 0 rfl rfl rfl)
  · replace H := Gets.cf H c337
    refine WP.skip ?_
    refine WP.seq ?_
    refine WP.reg [(0, false), (1, false), (2, false), (3, false)] (by kernel_rfl) ?_
    refine Dv.mv rfl trivial rfl ?_
    refine Dv.mv rfl trivial rfl ?_
    obtain ⟨g339, H⟩ := Gets.grd H
    refine Dv.bin rfl trivial rfl rfl (fun _ => run_rem g339) ?_
    refine Dv.asg rfl trivial rfl ?_
    refine .fin ?_
    obtain rfl := Gets.out H
    exact WP.retL (fun _ _ h => h) rfl () trivial (.cons (res_tmp rfl) .nil) rfl (st_sel (L := []) (F := F) [] 0 rfl rfl rfl)
theorem concourseref01_RoomOf.c {a0 : Int} {r : ByteArray} (h : concourseref01_RoomOf.f a0 = some r) : Pt Try.prog 13 [eq (.int .i64 a0)] (eq (.string r)) := by
  unfold concourseref01_RoomOf.f at h
  refine (Tr.body Try.func13 (c := _) rfl Try.ntmps13 (Nat.le_of_ble_eq_true rfl) fun R0 F => ?_).pt
  replace h := Gets.of h
  have H := h
  clear h
  refine WP.seq ?_
  refine WP.reg [(0, false)] (by kernel_rfl) ?_
  refine Dv.asg rfl trivial rfl ?_
  refine .fin ?_
  refine WP.seq ?_
  refine WP.reg [(0, false), (1, false), (2, false), (3, false), (4, false), (5, false)] (by kernel_rfl) ?_
  refine Dv.lit strK ([(⟨#[33, 114, 58, 115, 49]⟩ : ByteArray), (⟨#[33, 113, 58, 115, 50]⟩ : ByteArray)] : List ByteArray) (css := [[eq (.string (⟨#[33, 114, 58, 115, 49]⟩ : ByteArray))], [eq (.string (⟨#[33, 113, 58, 115, 50]⟩ : ByteArray))]]) rfl trivial Try.underlying40 Try.underlying9 c9 z9 rfl (by decide) (by decide) rfl ⟨(cells_one (one_eq rfl)), ⟨(cells_one (one_eq rfl)), trivial⟩⟩ rfl rfl rfl ?_
  refine Dv.mv rfl trivial rfl ?_
  obtain ⟨t340, h341, H⟩ := Gets.call H
  refine Dv.call rfl trivial cal12 rfl (concourseref01_Around.c h341) ?_
  obtain ⟨g342, H⟩ := Gets.grd H
  refine Dv.ixr rfl trivial rfl rfl Try.underlying40 Try.underlying9 c9 g342.1 g342.2 ?_
  refine Dv.ldr rfl trivial rfl Try.underlying9 rfl rfl ?_
  refine Dv.asg rfl trivial rfl ?_
  refine .fin ?_
  obtain rfl := Gets.out H
  exact WP.retL (fun _ _ h => h) rfl () trivial (.cons (res_tmp rfl) .nil) rfl (st_sel (L := []) (F := F) [] 0 rfl rfl rfl)
theorem concourseref01_ServerOf.c {a0 : Int} {r : ByteArray} (h : concourseref01_ServerOf.f a0 = some r) : Pt Try.prog 35 [eq (.int .i64 a0)] (eq (.string r)) := by
  unfold concourseref01_ServerOf.f at h
  refine (Tr.body Try.func35 (c := _) rfl Try.ntmps35 (Nat.le_of_ble_eq_true rfl) fun R0 F => ?_).pt
  replace h := Gets.of h
  have H := h
  clear h
  refine WP.seq ?_
  refine WP.reg [(0, false)] (by kernel_rfl) ?_
  refine Dv.asg rfl trivial rfl ?_
  refine .fin ?_
  refine WP.seq ?_
  refine WP.reg [(0, false), (1, false), (2, false), (3, false), (4, false), (5, false)] (by kernel_rfl) ?_
  refine Dv.lit strK ([(⟨#[115, 49]⟩ : ByteArray), (⟨#[115, 50]⟩ : ByteArray), (⟨#[115, 51]⟩ : ByteArray)] : List ByteArray) (css := [[eq (.string (⟨#[115, 49]⟩ : ByteArray))], [eq (.string (⟨#[115, 50]⟩ : ByteArray))], [eq (.string (⟨#[115, 51]⟩ : ByteArray))]]) rfl trivial Try.underlying40 Try.underlying9 c9 z9 rfl (by decide) (by decide) rfl ⟨(cells_one (one_eq rfl)), ⟨(cells_one (one_eq rfl)), ⟨(cells_one (one_eq rfl)), trivial⟩⟩⟩ rfl rfl rfl ?_
  refine Dv.mv rfl trivial rfl ?_
  obtain ⟨t343, h344, H⟩ := Gets.call H
  refine Dv.call rfl trivial cal12 rfl (concourseref01_Around.c h344) ?_
  obtain ⟨g345, H⟩ := Gets.grd H
  refine Dv.ixr rfl trivial rfl rfl Try.underlying40 Try.underlying9 c9 g345.1 g345.2 ?_
  refine Dv.ldr rfl trivial rfl Try.underlying9 rfl rfl ?_
  refine Dv.asg rfl trivial rfl ?_
  refine .fin ?_
  obtain rfl := Gets.out H
  exact WP.retL (fun _ _ h => h) rfl () trivial (.cons (res_tmp rfl) .nil) rfl (st_sel (L := []) (F := F) [] 0 rfl rfl rfl)
theorem concourseref01_UserOf.c {a0 : Int} {r : ByteArray} (h : concourseref01_UserOf.f a0 = some r) : Pt Try.prog 19 [eq (.int .i64 a0)] (eq (.string r)) := by
  unfold concourseref01_UserOf.f at h
  refine (Tr.body Try.func19 (c := _) rfl Try.ntmps19 (Nat.le_of_ble_eq_true rfl) fun R0 F => ?_).pt
  replace h := Gets.of h
  have H := h
  clear h
  refine WP.seq ?_
  refine WP.reg [(0, false)] (by kernel_rfl) ?_
  refine Dv.asg rfl trivial rfl ?_
  refine .fin ?_
  refine WP.seq ?_
  refine WP.reg [(0, false), (1, false), (2, false)] (by kernel_rfl) ?_
  refine Dv.mv rfl trivial rfl ?_
  obtain ⟨t346, h347, H⟩ := Gets.call H
  refine Dv.call rfl trivial cal12 rfl (concourseref01_Around.c h347) ?_
  refine Dv.asg rfl trivial rfl ?_
  refine .fin ?_
  refine WP.seq ?_
  refine WP.dreg Try.checked.mixed [(0, false), (1, false), (2, false), (3, false), (4, false), (5, false), (6, false), (7, false), (8, false), (9, false)] (by kernel_rfl) ?_
  refine Dv.lit strK ([(⟨#[64, 97, 58]⟩ : ByteArray), (⟨#[64, 98, 58]⟩ : ByteArray), (⟨#[64, 99, 58]⟩ : ByteArray)] : List ByteArray) (css := [[eq (.string (⟨#[64, 97, 58]⟩ : ByteArray))], [eq (.string (⟨#[64, 98, 58]⟩ : ByteArray))], [eq (.string (⟨#[64, 99, 58]⟩ : ByteArray))]]) rfl trivial Try.underlying40 Try.underlying9 c9 z9 rfl (by decide) (by decide) rfl ⟨(cells_one (one_eq rfl)), ⟨(cells_one (one_eq rfl)), ⟨(cells_one (one_eq rfl)), trivial⟩⟩⟩ rfl rfl rfl ?_
  refine Dv.mv rfl trivial rfl ?_
  refine Dv.bin rfl trivial rfl rfl (fun _ => run_quo (by decide)) ?_
  obtain ⟨g348, H⟩ := Gets.grd H
  refine Dv.ixr rfl trivial rfl rfl Try.underlying40 Try.underlying9 c9 g348.1 g348.2 ?_
  refine Dv.ldr rfl trivial rfl Try.underlying9 rfl rfl ?_
  refine Dv.mv rfl trivial rfl ?_
  refine Dv.bin rfl trivial rfl rfl (fun _ => run_rem (by decide)) ?_
  obtain ⟨t349, h350, H⟩ := Gets.call H
  refine Dv.call rfl trivial cal35 rfl (concourseref01_ServerOf.c h350) ?_
  obtain ⟨g351, H⟩ := Gets.grd H
  refine Dv.bin rfl trivial rfl rfl (fun _ => run_cat g351) ?_
  refine Dv.asg rfl trivial rfl ?_
  refine .fin ?_
  obtain rfl := Gets.out H
  exact WP.retL (fun _ _ h => h) rfl () trivial (.cons (res_tmp rfl) .nil) rfl (st_sel (L := []) (F := F) [] 0 rfl rfl rfl)
theorem concourseref01_Decimal.c : ∀ (k : Nat) {a0 : Int} {r : ByteArray} (h : concourseref01_Decimal.f k a0 = some r), Pt Try.prog 60 [eq (.int .i64 a0)] (eq (.string r))
  | 0, _, _, h => by cases h
  | k + 1, a0, r, h => by
    rw [concourseref01_Decimal.f] at h
    refine (Tr.body Try.func60 (c := _) rfl Try.ntmps60 (Nat.le_of_ble_eq_true rfl) fun R0 F => ?_).pt
    replace h := Gets.of h
    have H := h
    clear h
    refine WP.seq ?_
    refine WP.reg [(0, false)] (by kernel_rfl) ?_
    refine Dv.asg rfl trivial rfl ?_
    refine .fin ?_
    refine WP.seq ?_
    refine WP.reg [(0, false), (1, false), (2, false)] (by kernel_rfl) ?_
    refine Dv.mv rfl trivial rfl ?_
    refine Dv.bin rfl trivial rfl rfl (fun _ => run_rem (by decide)) ?_
    refine Dv.asg rfl trivial rfl ?_
    refine .fin ?_
    refine WP.seqn H id (fun p352 : Int => [(0, eq (.int .i64 a0)), (2, eq (.string (⟨#[]⟩ : ByteArray))), (3, eq (.int .i64 p352)), (8, eq (.bool (decide ((a0.tmod 10) < 0))))]) (fun p352 : Int => [] ++ F) (fun p352 H => ?_) (fun H => ?_)
    · refine WP.seq ?_
      refine WP.reg [(0, false), (1, false), (2, false), (3, false), (4, false), (5, false)] (by kernel_rfl) ?_
      refine Dv.mv rfl trivial rfl ?_
      refine Dv.bin rfl trivial rfl rfl (fun _ => run_add) ?_
      refine Dv.cvi rfl trivial rfl Try.underlying3 Try.underlying5 ?_
      refine Dv.lit (intK .u8) ([IntKind.u8.wrap (w64 (48 + p352))] : List Int) (css := [[eq (.int .u8 (IntKind.u8.wrap (w64 (48 + p352))))]]) rfl trivial Try.underlying68 Try.underlying5 c5 z5 rfl (by decide) (by decide) rfl ⟨(cells_one (one_eq rfl)), trivial⟩ rfl rfl rfl ?_
      refine Dv.cvbs rfl trivial rfl Try.underlying68 Try.underlying5 Try.underlying9 ?_
      refine Dv.asg rfl trivial rfl ?_
      refine .fin ?_
      refine WP.seq ?_
      refine WP.seq ?_
      refine WP.reg [(0, false), (1, false), (2, false), (3, false), (4, false), (5, false)] (by kernel_rfl) ?_
      refine Dv.mv rfl trivial rfl ?_
      refine Dv.bin rfl trivial rfl rfl (fun _ => run_gt) ?_
      refine Dv.mv rfl trivial rfl ?_
      cases c353 : decide ((-10) < a0)
      · replace H := Gets.cf H c353
        refine Dv.skip rfl ⟨_, _, rfl, rfl, .inl rfl⟩ ?_
        refine Dv.skip rfl ⟨_, _, rfl, rfl, .inl rfl⟩ ?_
        refine Dv.pickF rfl trivial rfl rfl ?_
        refine .fin ?_
        refine WP.cond rfl nofun (fun _ => ?_)
        refine WP.skip ?_
        refine WP.seq ?_
        refine WP.reg [(0, false), (1, false), (2, false), (3, false), (4, false), (5, false)] (by kernel_rfl) ?_
        refine Dv.mv rfl trivial rfl ?_
        refine Dv.bin rfl trivial rfl rfl (fun _ => run_quo (by decide)) ?_
        obtain ⟨t361, h362, H⟩ := Gets.call H
        refine Dv.call rfl trivial cal60 rfl (concourseref01_Decimal.c k h362) ?_
        refine Dv.mv rfl trivial rfl ?_
        obtain ⟨g363, H⟩ := Gets.grd H
        refine Dv.bin rfl trivial rfl rfl (fun _ => run_cat g363) ?_
        refine Dv.asg rfl trivial rfl ?_
        refine .fin ?_
        obtain rfl := Gets.out H
        exact WP.retL (fun _ _ h => h) rfl () trivial (.cons (res_tmp rfl) .nil) rfl (st_sel (L := []) (F := F) [] 0 rfl rfl rfl)
      · replace H := Gets.ct H c353
        refine Dv.mv rfl ⟨_, _, rfl, rfl, rfl⟩ rfl ?_
        refine Dv.bin rfl ⟨_, _, rfl, rfl, rfl⟩ rfl rfl (fun _ => run_lt) ?_
        refine Dv.pickT rfl trivial rfl rfl ?_
        refine .fin ?_
        refine WP.cond rfl (fun c354 => ?_) (fun c354 => ?_)
        · replace H := Gets.ct H c354
          refine WP.seq ?_
          refine WP.seq ?_
          refine WP.reg [(0, false), (1, false)] (by kernel_rfl) ?_
          refine Dv.mv rfl trivial rfl ?_
          refine Dv.bin rfl trivial rfl rfl (fun _ => run_lt) ?_
          refine .fin ?_
          refine WP.cond rfl (fun c355 => ?_) (fun c355 => ?_)
          · replace H := Gets.ct H c355
            refine WP.seq ?_
            refine WP.reg [(0, false), (1, false), (2, false)] (by kernel_rfl) ?_
            refine Dv.mv rfl trivial rfl ?_
            obtain ⟨g356, H⟩ := Gets.grd H
            refine Dv.bin rfl trivial rfl rfl (fun _ => run_cat g356) ?_
            refine Dv.asg rfl trivial rfl ?_
            refine .fin ?_
            obtain rfl := Gets.out H
            exact WP.retL (fun _ _ h => h) rfl () trivial (.cons (res_tmp rfl) .nil) rfl (st_sel (L := []) (F := F) [] 0 rfl rfl rfl)
          · replace H := Gets.cf H c355
            refine WP.skip ?_
            refine WP.seq ?_
            refine WP.reg [(0, false), (1, false)] (by kernel_rfl) ?_
            refine Dv.mv rfl trivial rfl ?_
            refine Dv.asg rfl trivial rfl ?_
            refine .fin ?_
            obtain rfl := Gets.out H
            exact WP.retL (fun _ _ h => h) rfl () trivial (.cons (res_tmp rfl) .nil) rfl (st_sel (L := []) (F := F) [] 0 rfl rfl rfl)
        · replace H := Gets.cf H c354
          refine WP.skip ?_
          refine WP.seq ?_
          refine WP.reg [(0, false), (1, false), (2, false), (3, false), (4, false), (5, false)] (by kernel_rfl) ?_
          refine Dv.mv rfl trivial rfl ?_
          refine Dv.bin rfl trivial rfl rfl (fun _ => run_quo (by decide)) ?_
          obtain ⟨t357, h358, H⟩ := Gets.call H
          refine Dv.call rfl trivial cal60 rfl (concourseref01_Decimal.c k h358) ?_
          refine Dv.mv rfl trivial rfl ?_
          obtain ⟨g359, H⟩ := Gets.grd H
          refine Dv.bin rfl trivial rfl rfl (fun _ => run_cat g359) ?_
          refine Dv.asg rfl trivial rfl ?_
          refine .fin ?_
          obtain rfl := Gets.out H
          exact WP.retL (fun _ _ h => h) rfl () trivial (.cons (res_tmp rfl) .nil) rfl (st_sel (L := []) (F := F) [] 0 rfl rfl rfl)
    · refine WP.seq ?_
      refine WP.reg [(0, false), (1, false)] (by kernel_rfl) ?_
      refine Dv.mv rfl trivial rfl ?_
      refine Dv.bin rfl trivial rfl rfl (fun _ => run_lt) ?_
      refine .fin ?_
      refine WP.cond rfl (fun c364 => ?_) (fun c364 => ?_)
      · replace H := Gets.ct H c364
        refine WP.reg [(0, false), (1, false), (2, false)] (by kernel_rfl) ?_
        refine Dv.mv rfl trivial rfl ?_
        refine Dv.un rfl trivial rfl (fun _ => run_neg _ _) ?_
        refine Dv.asg rfl trivial rfl ?_
        refine .fin ?_
        replace H := Gets.out H
        exact Jn.mk (w64 (0 - (a0.tmod 10))) H (weak_cons rfl (weak_cons rfl (weak_cons rfl (weak_cons rfl weak_nil)))) (List.Perm.refl _)
      · replace H := Gets.cf H c364
        refine WP.skip ?_
        replace H := Gets.out H
        exact Jn.mk (a0.tmod 10) H (weak_cons rfl (weak_cons rfl (weak_cons rfl (weak_cons rfl weak_nil)))) (List.Perm.refl _)
theorem concourseref01_EventOf.c {k : Nat} {a0 : Int} {r : ByteArray} (h : concourseref01_EventOf.f k a0 = some r) : Pt Try.prog 40 [eq (.int .i64 a0)] (eq (.string r)) := by
  unfold concourseref01_EventOf.f at h
  refine (Tr.body Try.func40 (c := _) rfl Try.ntmps40 (Nat.le_of_ble_eq_true rfl) fun R0 F => ?_).pt
  replace h := Gets.of h
  have H := h
  clear h
  refine WP.seq ?_
  refine WP.reg [(0, false)] (by kernel_rfl) ?_
  refine Dv.asg rfl trivial rfl ?_
  refine .fin ?_
  refine WP.seq ?_
  refine WP.reg [(0, false), (1, false), (2, false), (3, false), (4, false)] (by kernel_rfl) ?_
  refine Dv.mv rfl trivial rfl ?_
  obtain ⟨t365, h366, H⟩ := Gets.call H
  refine Dv.call rfl trivial cal12 rfl (concourseref01_Around.c h366) ?_
  obtain ⟨t367, h368, H⟩ := Gets.call H
  refine Dv.call rfl trivial cal60 rfl (concourseref01_Decimal.c _ h368) ?_
  obtain ⟨g369, H⟩ := Gets.grd H
  refine Dv.bin rfl trivial rfl rfl (fun _ => run_cat g369) ?_
  refine Dv.asg rfl trivial rfl ?_
  refine .fin ?_
  obtain rfl := Gets.out H
  exact WP.retL (fun _ _ h => h) rfl () trivial (.cons (res_tmp rfl) .nil) rfl (st_sel (L := []) (F := F) [] 0 rfl rfl rfl)
theorem concourseref01_ThreadOf.c {k : Nat} {a0 : Int} {r : ByteArray} (h : concourseref01_ThreadOf.f k a0 = some r) : Pt Try.prog 41 [eq (.int .i64 a0)] (eq (.string r)) := by
  unfold concourseref01_ThreadOf.f at h
  refine (Tr.body Try.func41 (c := _) rfl Try.ntmps41 (Nat.le_of_ble_eq_true rfl) fun R0 F => ?_).pt
  replace h := Gets.of h
  have H := h
  clear h
  refine WP.seq ?_
  refine WP.reg [(0, false)] (by kernel_rfl) ?_
  refine Dv.asg rfl trivial rfl ?_
  refine .fin ?_
  refine WP.seq ?_
  refine WP.reg [(0, false), (1, false), (2, false)] (by kernel_rfl) ?_
  refine Dv.mv rfl trivial rfl ?_
  obtain ⟨t370, h371, H⟩ := Gets.call H
  refine Dv.call rfl trivial cal12 rfl (concourseref01_Around.c h371) ?_
  refine Dv.asg rfl trivial rfl ?_
  refine .fin ?_
  refine WP.seq ?_
  refine WP.seq ?_
  refine WP.reg [(0, false), (1, false)] (by kernel_rfl) ?_
  refine Dv.mv rfl trivial rfl ?_
  refine Dv.bin rfl trivial rfl rfl (fun _ => run_eq) ?_
  refine .fin ?_
  refine WP.cond rfl (fun c372 => ?_) (fun c372 => ?_)
  · replace H := Gets.ct H c372
    refine WP.seq ?_
    refine WP.reg [(0, false)] (by kernel_rfl) ?_
    refine Dv.asg rfl trivial rfl ?_
    refine .fin ?_
    obtain rfl := Gets.out H
    exact WP.retL (fun _ _ h => h) rfl () trivial (.cons (res_tmp rfl) .nil) rfl (st_sel (L := []) (F := F) [] 0 rfl rfl rfl)
  · replace H := Gets.cf H c372
    refine WP.skip ?_
    refine WP.seq ?_
    refine WP.seq ?_
    refine WP.reg [(0, false), (1, false)] (by kernel_rfl) ?_
    refine Dv.mv rfl trivial rfl ?_
    refine Dv.bin rfl trivial rfl rfl (fun _ => run_eq) ?_
    refine .fin ?_
    refine WP.cond rfl (fun c373 => ?_) (fun c373 => ?_)
    · replace H := Gets.ct H c373
      refine WP.seq ?_
      refine WP.reg [(0, false)] (by kernel_rfl) ?_
      refine Dv.asg rfl trivial rfl ?_
      refine .fin ?_
      obtain rfl := Gets.out H
      exact WP.retL (fun _ _ h => h) rfl () trivial (.cons (res_tmp rfl) .nil) rfl (st_sel (L := []) (F := F) [] 0 rfl rfl rfl)
    · replace H := Gets.cf H c373
      refine WP.skip ?_
      refine WP.seq ?_
      refine WP.reg [(0, false), (1, false), (2, false)] (by kernel_rfl) ?_
      refine Dv.mv rfl trivial rfl ?_
      obtain ⟨t374, h375, H⟩ := Gets.call H
      refine Dv.call rfl trivial cal40 rfl (concourseref01_EventOf.c h375) ?_
      refine Dv.asg rfl trivial rfl ?_
      refine .fin ?_
      obtain rfl := Gets.out H
      exact WP.retL (fun _ _ h => h) rfl () trivial (.cons (res_tmp rfl) .nil) rfl (st_sel (L := []) (F := F) [] 0 rfl rfl rfl)
theorem concourseref03_Good.c {k : Nat} {a0 : Edu} {r : Edu} (h : concourseref03_Good.f k a0 = some r) : Pt Try.prog 27 [agg (Edu.enc a0)] (agg (Edu.enc r)) := by
  unfold concourseref03_Good.f at h
  refine (Tr.body Try.func27 (c := _) rfl Try.ntmps27 (Nat.le_of_ble_eq_true rfl) fun R0 F => ?_).pt
  replace h := Gets.of h
  have H := h
  clear h
  refine WP.seq ?_
  refine WP.reg [(0, true), (1, true)] (by kernel_rfl) ?_
  refine Dv.box rfl trivial rfl (cells_agg (Edu.K.one _)) nofun (fun b376 => ?_)
  refine Dv.alloc (z := .agg #[.int .i64 0, .string ⟨#[]⟩, .string ⟨#[]⟩, .string ⟨#[]⟩, .string ⟨#[]⟩, .bool false, .bool false, .int .i64 0, .int .i64 0, .int .i64 0, .int .i64 0]) (qs := [eq (.int .i64 0), eq (.string (⟨#[]⟩ : ByteArray)), eq (.string (⟨#[]⟩ : ByteArray)), eq (.string (⟨#[]⟩ : ByteArray)), eq (.string (⟨#[]⟩ : ByteArray)), eq (.bool false), eq (.bool false), eq (.int .i64 0), eq (.int .i64 0), eq (.int .i64 0), eq (.int .i64 0)]) rfl trivial z32 rfl nofun (fun b377 => ?_)
  refine .fin ?_
  refine WP.seq ?_
  refine WP.dreg Try.checked.mixed [(0, false), (1, false), (2, false), (3, false), (4, false), (5, false), (6, false), (7, false), (8, false), (9, false), (10, false), (11, false), (12, false), (13, false), (14, true), (15, true)] (by kernel_rfl) ?_
  refine Dv.fab rfl trivial rfl Try.underlying32 rfl Try.underlying3 c3 (by decide) ?_
  refine Dv.ldb rfl trivial rfl Try.underlying3 rfl (mem_at 1 rfl) rfl ?_
  obtain ⟨t378, h379, H⟩ := Gets.call H
  refine Dv.call rfl trivial cal12 rfl (concourseref01_Around.c h379) ?_
  refine Dv.bin rfl trivial rfl rfl (fun _ => run_add) ?_
  refine Dv.fab rfl trivial rfl Try.underlying32 rfl Try.underlying3 c3 (by decide) ?_
  refine Dv.ldb rfl trivial rfl Try.underlying3 rfl (mem_at 1 rfl) rfl ?_
  obtain ⟨t380, h381, H⟩ := Gets.call H
  refine Dv.call rfl trivial cal19 rfl (concourseref01_UserOf.c h381) ?_
  refine Dv.fab rfl trivial rfl Try.underlying32 rfl Try.underlying3 c3 (by decide) ?_
  refine Dv.ldb rfl trivial rfl Try.underlying3 rfl (mem_at 1 rfl) rfl ?_
  obtain ⟨t382, h383, H⟩ := Gets.call H
  refine Dv.call rfl trivial cal12 rfl (concourseref01_Around.c h383) ?_
  refine Dv.fab rfl trivial rfl Try.underlying32 rfl Try.underlying3 c3 (by decide) ?_
  refine Dv.ldb rfl trivial rfl Try.underlying3 rfl (mem_at 1 rfl) rfl ?_
  obtain ⟨t384, h385, H⟩ := Gets.call H
  refine Dv.call rfl trivial cal12 rfl (concourseref01_Around.c h385) ?_
  refine Dv.bld (css := [[eq (.int .i64 (w64 (1 + t378)))], [eq (.string t380)], [eq (.int .i64 t382)], [eq (.int .i64 t384)]]) rfl trivial Try.underlying32 pl32 z32 rfl ⟨(cells_one (one_eq rfl)), ⟨(cells_one (one_eq rfl)), ⟨(cells_one (one_eq rfl)), ⟨(cells_one (one_eq rfl)), trivial⟩⟩⟩⟩ rfl rfl ?_
  refine Dv.alloc (z := .agg #[.int .i64 0, .string ⟨#[]⟩, .string ⟨#[]⟩, .string ⟨#[]⟩, .string ⟨#[]⟩, .bool false, .bool false, .int .i64 0, .int .i64 0, .int .i64 0, .int .i64 0]) (qs := [eq (.int .i64 0), eq (.string (⟨#[]⟩ : ByteArray)), eq (.string (⟨#[]⟩ : ByteArray)), eq (.string (⟨#[]⟩ : ByteArray)), eq (.string (⟨#[]⟩ : ByteArray)), eq (.bool false), eq (.bool false), eq (.int .i64 0), eq (.int .i64 0), eq (.int .i64 0), eq (.int .i64 0)]) rfl trivial z32 rfl (fun _ => (pend_in (fun _ => trivial) (pend_in (fun _ => trivial) (pend_in (fun _ => (mem_at 2 rfl)) (pend_in (fun _ => trivial) (pend_in (fun _ => trivial) (pend_in (fun _ => (mem_at 2 rfl)) (pend_in (fun _ => trivial) (pend_in (fun _ => trivial) (pend_in (fun _ => (mem_at 2 rfl)) (pend_in (fun _ => trivial) (pend_in (fun _ => trivial) (pend_in (fun _ => trivial) (pend_in (fun _ => (mem_at 2 rfl)) (pend_in (fun _ => trivial) pend_nil))))))))))))))) (fun b386 => ?_)
  refine Dv.stx ([blk b386 32 [eq (.int .i64 (w64 (1 + t378))), eq (.string (⟨#[]⟩ : ByteArray)), eq (.string t380), eq (.string (⟨#[]⟩ : ByteArray)), eq (.string (⟨#[]⟩ : ByteArray)), eq (.bool false), eq (.bool false), eq (.int .i64 0), eq (.int .i64 0), eq (.int .i64 t382), eq (.int .i64 t384)], blk b377 32 [eq (.int .i64 0), eq (.string (⟨#[]⟩ : ByteArray)), eq (.string (⟨#[]⟩ : ByteArray)), eq (.string (⟨#[]⟩ : ByteArray)), eq (.string (⟨#[]⟩ : ByteArray)), eq (.bool false), eq (.bool false), eq (.int .i64 0), eq (.int .i64 0), eq (.int .i64 0), eq (.int .i64 0)], blk b376 32 [eq (.int .i64 a0.fKind), eq (.string a0.fRoom), eq (.string a0.fUser), eq (.string a0.fEvent), eq (.string a0.fThread), eq (.bool a0.fPrivate), eq (.bool a0.fOn), eq (.int .i64 a0.fSpan), eq (.int .i64 a0.fState), eq (.int .i64 a0.fTick), eq (.int .i64 a0.fStamp)]] ++ F) rfl trivial rfl rfl (cells_agg (ones_cons (one_eq rfl) (ones_cons (one_eq rfl) (ones_cons (one_eq rfl) (ones_cons (one_eq rfl) (ones_cons (one_eq rfl) (ones_cons (one_eq rfl) (ones_cons (one_eq rfl) (ones_cons (one_eq rfl) (ones_cons (one_eq rfl) (ones_cons (one_eq rfl) (ones_cons (one_eq rfl) ones_nil)))))))))))) Try.underlying32 c32 rfl (j := 0) rfl (Nat.le_of_ble_eq_true rfl) rfl (fun _ => pend_bits (by kernel_rfl)) ?_
  refine .fin ?_
  refine WP.seq ?_
  refine WP.seq ?_
  refine WP.reg [(0, false), (1, false)] (by kernel_rfl) ?_
  refine Dv.fab rfl trivial rfl Try.underlying32 rfl Try.underlying3 c3 (by decide) ?_
  refine Dv.ldb rfl trivial rfl Try.underlying3 rfl (mem_at 0 rfl) rfl ?_
  refine .fin ?_
  refine WP.block ?_
  refine WP.seq ?_
  refine WP.reg [(0, false), (1, false)] (by kernel_rfl) ?_
  refine Dv.bin rfl trivial rfl rfl (fun _ => run_eq) ?_
  refine Dv.asg rfl trivial rfl ?_
  refine .fin ?_
  refine WP.cond rfl (fun c387 => ?_) (fun c387 => ?_)
  · replace H := Gets.ct H c387
    refine WP.seq ?_
    refine WP.reg [(0, false), (1, false), (2, false), (3, false), (4, true)] (by kernel_rfl) ?_
    refine Dv.fab rfl trivial rfl Try.underlying32 rfl Try.underlying3 c3 (by decide) ?_
    refine Dv.ldb rfl trivial rfl Try.underlying3 rfl (mem_at 2 rfl) rfl ?_
    obtain ⟨t388, h389, H⟩ := Gets.call H
    refine Dv.call rfl trivial cal13 rfl (concourseref01_RoomOf.c h389) ?_
    refine Dv.fab rfl trivial rfl Try.underlying32 rfl Try.underlying9 c9 (by decide) ?_
    refine Dv.stx ([blk b386 32 [eq (.int .i64 (w64 (1 + t378))), eq (.string t388), eq (.string t380), eq (.string (⟨#[]⟩ : ByteArray)), eq (.string (⟨#[]⟩ : ByteArray)), eq (.bool false), eq (.bool false), eq (.int .i64 0), eq (.int .i64 0), eq (.int .i64 t382), eq (.int .i64 t384)], blk b377 32 [eq (.int .i64 0), eq (.string (⟨#[]⟩ : ByteArray)), eq (.string (⟨#[]⟩ : ByteArray)), eq (.string (⟨#[]⟩ : ByteArray)), eq (.string (⟨#[]⟩ : ByteArray)), eq (.bool false), eq (.bool false), eq (.int .i64 0), eq (.int .i64 0), eq (.int .i64 0), eq (.int .i64 0)], blk b376 32 [eq (.int .i64 a0.fKind), eq (.string a0.fRoom), eq (.string a0.fUser), eq (.string a0.fEvent), eq (.string a0.fThread), eq (.bool a0.fPrivate), eq (.bool a0.fOn), eq (.int .i64 a0.fSpan), eq (.int .i64 a0.fState), eq (.int .i64 a0.fTick), eq (.int .i64 a0.fStamp)]] ++ F) rfl trivial rfl rfl (cells_one (one_eq rfl)) Try.underlying9 c9 rfl (j := 0) rfl (Nat.le_of_ble_eq_true rfl) rfl nofun ?_
    refine .fin ?_
    refine WP.seq ?_
    refine WP.dreg Try.checked.mixed [(0, false), (1, false), (2, false), (3, false), (4, false), (5, false), (6, false), (7, false), (8, false), (9, true)] (by kernel_rfl) ?_
    refine Dv.fab rfl trivial rfl Try.underlying32 rfl Try.underlying9 c9 (by decide) ?_
    refine Dv.ldb rfl trivial rfl Try.underlying9 rfl (mem_at 2 rfl) rfl ?_
    refine Dv.lens rfl trivial rfl Try.underlying9 ?_
    refine Dv.fab rfl trivial rfl Try.underlying32 rfl Try.underlying3 c3 (by decide) ?_
    refine Dv.ldb rfl trivial rfl Try.underlying3 rfl (mem_at 2 rfl) rfl ?_
    obtain ⟨t390, h391, H⟩ := Gets.call H
    refine Dv.call rfl trivial cal12 rfl (concourseref01_Around.c h391) ?_
    refine Dv.bin rfl trivial rfl rfl (fun _ => run_add) ?_
    obtain ⟨t392, h393, H⟩ := Gets.call H
    refine Dv.call rfl trivial cal40 rfl (concourseref01_EventOf.c h393) ?_
    refine Dv.fab rfl trivial rfl Try.underlying32 rfl Try.underlying9 c9 (by decide) ?_
    refine Dv.stx ([blk b386 32 [eq (.int .i64 (w64 (1 + t378))), eq (.string t388), eq (.string t380), eq (.string t392), eq (.string (⟨#[]⟩ : ByteArray)), eq (.bool false), eq (.bool false), eq (.int .i64 0), eq (.int .i64 0), eq (.int .i64 t382), eq (.int .i64 t384)], blk b377 32 [eq (.int .i64 0), eq (.string (⟨#[]⟩ : ByteArray)), eq (.string (⟨#[]⟩ : ByteArray)), eq (.string (⟨#[]⟩ : ByteArray)), eq (.string (⟨#[]⟩ : ByteArray)), eq (.bool false), eq (.bool false), eq (.int .i64 0), eq (.int .i64 0), eq (.int .i64 0), eq (.int .i64 0)], blk b376 32 [eq (.int .i64 a0.fKind), eq (.string a0.fRoom), eq (.string a0.fUser), eq (.string a0.fEvent), eq (.string a0.fThread), eq (.bool a0.fPrivate), eq (.bool a0.fOn), eq (.int .i64 a0.fSpan), eq (.int .i64 a0.fState), eq (.int .i64 a0.fTick), eq (.int .i64 a0.fStamp)]] ++ F) rfl trivial rfl rfl (cells_one (one_eq rfl)) Try.underlying9 c9 rfl (j := 0) rfl (Nat.le_of_ble_eq_true rfl) rfl (fun _ => pend_bits (by kernel_rfl)) ?_
    refine .fin ?_
    refine WP.seq ?_
    refine WP.reg [(0, false), (1, false), (2, false), (3, false), (4, false), (5, true)] (by kernel_rfl) ?_
    refine Dv.fab rfl trivial rfl Try.underlying32 rfl Try.underlying9 c9 (by decide) ?_
    refine Dv.ldb rfl trivial rfl Try.underlying9 rfl (mem_at 2 rfl) rfl ?_
    refine Dv.lens rfl trivial rfl Try.underlying9 ?_
    obtain ⟨t394, h395, H⟩ := Gets.call H
    refine Dv.call rfl trivial cal41 rfl (concourseref01_ThreadOf.c h395) ?_
    refine Dv.fab rfl trivial rfl Try.underlying32 rfl Try.underlying9 c9 (by decide) ?_
    refine Dv.stx ([blk b386 32 [eq (.int .i64 (w64 (1 + t378))), eq (.string t388), eq (.string t380), eq (.string t392), eq (.string t394), eq (.bool false), eq (.bool false), eq (.int .i64 0), eq (.int .i64 0), eq (.int .i64 t382), eq (.int .i64 t384)], blk b377 32 [eq (.int .i64 0), eq (.string (⟨#[]⟩ : ByteArray)), eq (.string (⟨#[]⟩ : ByteArray)), eq (.string (⟨#[]⟩ : ByteArray)), eq (.string (⟨#[]⟩ : ByteArray)), eq (.bool false), eq (.bool false), eq (.int .i64 0), eq (.int .i64 0), eq (.int .i64 0), eq (.int .i64 0)], blk b376 32 [eq (.int .i64 a0.fKind), eq (.string a0.fRoom), eq (.string a0.fUser), eq (.string a0.fEvent), eq (.string a0.fThread), eq (.bool a0.fPrivate), eq (.bool a0.fOn), eq (.int .i64 a0.fSpan), eq (.int .i64 a0.fState), eq (.int .i64 a0.fTick), eq (.int .i64 a0.fStamp)]] ++ F) rfl trivial rfl rfl (cells_one (one_eq rfl)) Try.underlying9 c9 rfl (j := 0) rfl (Nat.le_of_ble_eq_true rfl) rfl nofun ?_
    refine .fin ?_
    refine WP.reg [(0, false), (1, false), (2, false), (3, true)] (by kernel_rfl) ?_
    refine Dv.fab rfl trivial rfl Try.underlying32 rfl Try.underlying4 c4 (by decide) ?_
    refine Dv.ldb rfl trivial rfl Try.underlying4 rfl (mem_at 2 rfl) rfl ?_
    refine Dv.fab rfl trivial rfl Try.underlying32 rfl Try.underlying4 c4 (by decide) ?_
    refine Dv.stx ([blk b386 32 [eq (.int .i64 (w64 (1 + t378))), eq (.string t388), eq (.string t380), eq (.string t392), eq (.string t394), eq (.bool a0.fPrivate), eq (.bool false), eq (.int .i64 0), eq (.int .i64 0), eq (.int .i64 t382), eq (.int .i64 t384)], blk b377 32 [eq (.int .i64 0), eq (.string (⟨#[]⟩ : ByteArray)), eq (.string (⟨#[]⟩ : ByteArray)), eq (.string (⟨#[]⟩ : ByteArray)), eq (.string (⟨#[]⟩ : ByteArray)), eq (.bool false), eq (.bool false), eq (.int .i64 0), eq (.int .i64 0), eq (.int .i64 0), eq (.int .i64 0)], blk b376 32 [eq (.int .i64 a0.fKind), eq (.string a0.fRoom), eq (.string a0.fUser), eq (.string a0.fEvent), eq (.string a0.fThread), eq (.bool a0.fPrivate), eq (.bool a0.fOn), eq (.int .i64 a0.fSpan), eq (.int .i64 a0.fState), eq (.int .i64 a0.fTick), eq (.int .i64 a0.fStamp)]] ++ F) rfl trivial rfl rfl (cells_one (one_eq rfl)) Try.underlying4 c4 rfl (j := 0) rfl (Nat.le_of_ble_eq_true rfl) rfl nofun ?_
    refine .fin ?_
    refine WP.seq ?_
    refine WP.reg [(0, false), (1, true)] (by kernel_rfl) ?_
    refine Dv.ldbs rfl trivial rfl Try.underlying32 rfl c32 (mem_at 0 rfl) (Nat.le_of_ble_eq_true rfl) ?_
    refine Dv.stx ([blk b386 32 [eq (.int .i64 (w64 (1 + t378))), eq (.string t388), eq (.string t380), eq (.string t392), eq (.string t394), eq (.bool a0.fPrivate), eq (.bool false), eq (.int .i64 0), eq (.int .i64 0), eq (.int .i64 t382), eq (.int .i64 t384)], blk b377 32 [eq (.int .i64 (w64 (1 + t378))), eq (.string t388), eq (.string t380), eq (.string t392), eq (.string t394), eq (.bool a0.fPrivate), eq (.bool false), eq (.int .i64 0), eq (.int .i64 0), eq (.int .i64 t382), eq (.int .i64 t384)], blk b376 32 [eq (.int .i64 a0.fKind), eq (.string a0.fRoom), eq (.string a0.fUser), eq (.string a0.fEvent), eq (.string a0.fThread), eq (.bool a0.fPrivate), eq (.bool a0.fOn), eq (.int .i64 a0.fSpan), eq (.int .i64 a0.fState), eq (.int .i64 a0.fTick), eq (.int .i64 a0.fStamp)]] ++ F) rfl trivial rfl rfl (cells_agg (ones_cons (one_eq rfl) (ones_cons (one_eq rfl) (ones_cons (one_eq rfl) (ones_cons (one_eq rfl) (ones_cons (one_eq rfl) (ones_cons (one_eq rfl) (ones_cons (one_eq rfl) (ones_cons (one_eq rfl) (ones_cons (one_eq rfl) (ones_cons (one_eq rfl) (ones_cons (one_eq rfl) ones_nil)))))))))))) Try.underlying32 c32 rfl (j := 1) rfl (Nat.le_of_ble_eq_true rfl) rfl nofun ?_
    refine .fin ?_
    obtain rfl := Gets.out H
    exact WP.retL (fun _ _ h => h) rfl () trivial (.cons (res_cells rfl Try.underlying32 rfl c32 (mem_at 1 rfl) rfl) .nil) rfl (st_sel (L := [blk b386 32 [eq (.int .i64 (w64 (1 + t378))), eq (.string t388), eq (.string t380), eq (.string t392), eq (.string t394), eq (.bool a0.fPrivate), eq (.bool false), eq (.int .i64 0), eq (.int .i64 0), eq (.int .i64 t382), eq (.int .i64 t384)], blk b377 32 [eq (.int .i64 (w64 (1 + t378))), eq (.string t388), eq (.string t380), eq (.string t392), eq (.string t394), eq (.bool a0.fPrivate), eq (.bool false), eq (.int .i64 0), eq (.int .i64 0), eq (.int .i64 t382), eq (.int .i64 t384)], blk b376 32 [eq (.int .i64 a0.fKind), eq (.string a0.fRoom), eq (.string a0.fUser), eq (.string a0.fEvent), eq (.string a0.fThread), eq (.bool a0.fPrivate), eq (.bool a0.fOn), eq (.int .i64 a0.fSpan), eq (.int .i64 a0.fState), eq (.int .i64 a0.fTick), eq (.int .i64 a0.fStamp)]]) (F := F) [0, 1, 2] 3 rfl rfl rfl)
  · replace H := Gets.cf H c387
    refine WP.seq ?_
    refine WP.reg [(0, false), (1, false)] (by kernel_rfl) ?_
    refine Dv.bin rfl trivial rfl rfl (fun _ => run_eq) ?_
    refine Dv.asg rfl trivial rfl ?_
    refine .fin ?_
    refine WP.cond rfl (fun c396 => ?_) (fun c396 => ?_)
    · replace H := Gets.ct H c396
      refine WP.seq ?_
      refine WP.reg [(0, false), (1, false), (2, false), (3, false), (4, true)] (by kernel_rfl) ?_
      refine Dv.fab rfl trivial rfl Try.underlying32 rfl Try.underlying3 c3 (by decide) ?_
      refine Dv.ldb rfl trivial rfl Try.underlying3 rfl (mem_at 2 rfl) rfl ?_
      obtain ⟨t397, h398, H⟩ := Gets.call H
      refine Dv.call rfl trivial cal13 rfl (concourseref01_RoomOf.c h398) ?_
      refine Dv.fab rfl trivial rfl Try.underlying32 rfl Try.underlying9 c9 (by decide) ?_
      refine Dv.stx ([blk b386 32 [eq (.int .i64 (w64 (1 + t378))), eq (.string t397), eq (.string t380), eq (.string (⟨#[]⟩ : ByteArray)), eq (.string (⟨#[]⟩ : ByteArray)), eq (.bool false), eq (.bool false), eq (.int .i64 0), eq (.int .i64 0), eq (.int .i64 t382), eq (.int .i64 t384)], blk b377 32 [eq (.int .i64 0), eq (.string (⟨#[]⟩ : ByteArray)), eq (.string (⟨#[]⟩ : ByteArray)), eq (.string (⟨#[]⟩ : ByteArray)), eq (.string (⟨#[]⟩ : ByteArray)), eq (.bool false), eq (.bool false), eq (.int .i64 0), eq (.int .i64 0), eq (.int .i64 0), eq (.int .i64 0)], blk b376 32 [eq (.int .i64 a0.fKind), eq (.string a0.fRoom), eq (.string a0.fUser), eq (.string a0.fEvent), eq (.string a0.fThread), eq (.bool a0.fPrivate), eq (.bool a0.fOn), eq (.int .i64 a0.fSpan), eq (.int .i64 a0.fState), eq (.int .i64 a0.fTick), eq (.int .i64 a0.fStamp)]] ++ F) rfl trivial rfl rfl (cells_one (one_eq rfl)) Try.underlying9 c9 rfl (j := 0) rfl (Nat.le_of_ble_eq_true rfl) rfl nofun ?_
      refine .fin ?_
      refine WP.seq ?_
      refine WP.reg [(0, false), (1, false), (2, false), (3, true)] (by kernel_rfl) ?_
      refine Dv.fab rfl trivial rfl Try.underlying32 rfl Try.underlying4 c4 (by decide) ?_
      refine Dv.ldb rfl trivial rfl Try.underlying4 rfl (mem_at 2 rfl) rfl ?_
      refine Dv.fab rfl trivial rfl Try.underlying32 rfl Try.underlying4 c4 (by decide) ?_
      refine Dv.stx ([blk b386 32 [eq (.int .i64 (w64 (1 + t378))), eq (.string t397), eq (.string t380), eq (.string (⟨#[]⟩ : ByteArray)), eq (.string (⟨#[]⟩ : ByteArray)), eq (.bool false), eq (.bool a0.fOn), eq (.int .i64 0), eq (.int .i64 0), eq (.int .i64 t382), eq (.int .i64 t384)], blk b377 32 [eq (.int .i64 0), eq (.string (⟨#[]⟩ : ByteArray)), eq (.string (⟨#[]⟩ : ByteArray)), eq (.string (⟨#[]⟩ : ByteArray)), eq (.string (⟨#[]⟩ : ByteArray)), eq (.bool false), eq (.bool false), eq (.int .i64 0), eq (.int .i64 0), eq (.int .i64 0), eq (.int .i64 0)], blk b376 32 [eq (.int .i64 a0.fKind), eq (.string a0.fRoom), eq (.string a0.fUser), eq (.string a0.fEvent), eq (.string a0.fThread), eq (.bool a0.fPrivate), eq (.bool a0.fOn), eq (.int .i64 a0.fSpan), eq (.int .i64 a0.fState), eq (.int .i64 a0.fTick), eq (.int .i64 a0.fStamp)]] ++ F) rfl trivial rfl rfl (cells_one (one_eq rfl)) Try.underlying4 c4 rfl (j := 0) rfl (Nat.le_of_ble_eq_true rfl) rfl nofun ?_
      refine .fin ?_
      refine WP.seq ?_
      refine WP.reg [(0, false), (1, false)] (by kernel_rfl) ?_
      refine Dv.fab rfl trivial rfl Try.underlying32 rfl Try.underlying4 c4 (by decide) ?_
      refine Dv.ldb rfl trivial rfl Try.underlying4 rfl (mem_at 2 rfl) rfl ?_
      refine .fin ?_
      refine WP.cond rfl (fun c399 => ?_) (fun c399 => ?_)
      · replace H := Gets.ct H c399
        refine WP.reg [(0, false), (1, false), (2, false), (3, false), (4, false), (5, true)] (by kernel_rfl) ?_
        refine Dv.fab rfl trivial rfl Try.underlying32 rfl Try.underlying3 c3 (by decide) ?_
        refine Dv.ldb rfl trivial rfl Try.underlying3 rfl (mem_at 2 rfl) rfl ?_
        obtain ⟨t400, h401, H⟩ := Gets.call H
        refine Dv.call rfl trivial cal12 rfl (concourseref01_Around.c h401) ?_
        refine Dv.bin rfl trivial rfl rfl (fun _ => run_add) ?_
        refine Dv.fab rfl trivial rfl Try.underlying32 rfl Try.underlying3 c3 (by decide) ?_
        refine Dv.stx ([blk b386 32 [eq (.int .i64 (w64 (1 + t378))), eq (.string t397), eq (.string t380), eq (.string (⟨#[]⟩ : ByteArray)), eq (.string (⟨#[]⟩ : ByteArray)), eq (.bool false), eq (.bool a0.fOn), eq (.int .i64 (w64 (1 + t400))), eq (.int .i64 0), eq (.int .i64 t382), eq (.int .i64 t384)], blk b377 32 [eq (.int .i64 0), eq (.string (⟨#[]⟩ : ByteArray)), eq (.string (⟨#[]⟩ : ByteArray)), eq (.string (⟨#[]⟩ : ByteArray)), eq (.string (⟨#[]⟩ : ByteArray)), eq (.bool false), eq (.bool false), eq (.int .i64 0), eq (.int .i64 0), eq (.int .i64 0), eq (.int .i64 0)], blk b376 32 [eq (.int .i64 a0.fKind), eq (.string a0.fRoom), eq (.string a0.fUser), eq (.string a0.fEvent), eq (.string a0.fThread), eq (.bool a0.fPrivate), eq (.bool a0.fOn), eq (.int .i64 a0.fSpan), eq (.int .i64 a0.fState), eq (.int .i64 a0.fTick), eq (.int .i64 a0.fStamp)]] ++ F) rfl trivial rfl rfl (cells_one (one_eq rfl)) Try.underlying3 c3 rfl (j := 0) rfl (Nat.le_of_ble_eq_true rfl) rfl nofun ?_
        refine .fin ?_
        refine WP.seq ?_
        refine WP.reg [(0, false), (1, true)] (by kernel_rfl) ?_
        refine Dv.ldbs rfl trivial rfl Try.underlying32 rfl c32 (mem_at 0 rfl) (Nat.le_of_ble_eq_true rfl) ?_
        refine Dv.stx ([blk b386 32 [eq (.int .i64 (w64 (1 + t378))), eq (.string t397), eq (.string t380), eq (.string (⟨#[]⟩ : ByteArray)), eq (.string (⟨#[]⟩ : ByteArray)), eq (.bool false), eq (.bool a0.fOn), eq (.int .i64 (w64 (1 + t400))), eq (.int .i64 0), eq (.int .i64 t382), eq (.int .i64 t384)], blk b377 32 [eq (.int .i64 (w64 (1 + t378))), eq (.string t397), eq (.string t380), eq (.string (⟨#[]⟩ : ByteArray)), eq (.string (⟨#[]⟩ : ByteArray)), eq (.bool false), eq (.bool a0.fOn), eq (.int .i64 (w64 (1 + t400))), eq (.int .i64 0), eq (.int .i64 t382), eq (.int .i64 t384)], blk b376 32 [eq (.int .i64 a0.fKind), eq (.string a0.fRoom), eq (.string a0.fUser), eq (.string a0.fEvent), eq (.string a0.fThread), eq (.bool a0.fPrivate), eq (.bool a0.fOn), eq (.int .i64 a0.fSpan), eq (.int .i64 a0.fState), eq (.int .i64 a0.fTick), eq (.int .i64 a0.fStamp)]] ++ F) rfl trivial rfl rfl (cells_agg (ones_cons (one_eq rfl) (ones_cons (one_eq rfl) (ones_cons (one_eq rfl) (ones_cons (one_eq rfl) (ones_cons (one_eq rfl) (ones_cons (one_eq rfl) (ones_cons (one_eq rfl) (ones_cons (one_eq rfl) (ones_cons (one_eq rfl) (ones_cons (one_eq rfl) (ones_cons (one_eq rfl) ones_nil)))))))))))) Try.underlying32 c32 rfl (j := 1) rfl (Nat.le_of_ble_eq_true rfl) rfl nofun ?_
        refine .fin ?_
        obtain rfl := Gets.out H
        exact WP.retL (fun _ _ h => h) rfl () trivial (.cons (res_cells rfl Try.underlying32 rfl c32 (mem_at 1 rfl) rfl) .nil) rfl (st_sel (L := [blk b386 32 [eq (.int .i64 (w64 (1 + t378))), eq (.string t397), eq (.string t380), eq (.string (⟨#[]⟩ : ByteArray)), eq (.string (⟨#[]⟩ : ByteArray)), eq (.bool false), eq (.bool a0.fOn), eq (.int .i64 (w64 (1 + t400))), eq (.int .i64 0), eq (.int .i64 t382), eq (.int .i64 t384)], blk b377 32 [eq (.int .i64 (w64 (1 + t378))), eq (.string t397), eq (.string t380), eq (.string (⟨#[]⟩ : ByteArray)), eq (.string (⟨#[]⟩ : ByteArray)), eq (.bool false), eq (.bool a0.fOn), eq (.int .i64 (w64 (1 + t400))), eq (.int .i64 0), eq (.int .i64 t382), eq (.int .i64 t384)], blk b376 32 [eq (.int .i64 a0.fKind), eq (.string a0.fRoom), eq (.string a0.fUser), eq (.string a0.fEvent), eq (.string a0.fThread), eq (.bool a0.fPrivate), eq (.bool a0.fOn), eq (.int .i64 a0.fSpan), eq (.int .i64 a0.fState), eq (.int .i64 a0.fTick), eq (.int .i64 a0.fStamp)]]) (F := F) [0, 1, 2] 3 rfl rfl rfl)
      · replace H := Gets.cf H c399
        refine WP.skip ?_
        refine WP.seq ?_
        refine WP.reg [(0, false), (1, true)] (by kernel_rfl) ?_
        refine Dv.ldbs rfl trivial rfl Try.underlying32 rfl c32 (mem_at 0 rfl) (Nat.le_of_ble_eq_true rfl) ?_
        refine Dv.stx ([blk b386 32 [eq (.int .i64 (w64 (1 + t378))), eq (.string t397), eq (.string t380), eq (.string (⟨#[]⟩ : ByteArray)), eq (.string (⟨#[]⟩ : ByteArray)), eq (.bool false), eq (.bool a0.fOn), eq (.int .i64 0), eq (.int .i64 0), eq (.int .i64 t382), eq (.int .i64 t384)], blk b377 32 [eq (.int .i64 (w64 (1 + t378))), eq (.string t397), eq (.string t380), eq (.string (⟨#[]⟩ : ByteArray)), eq (.string (⟨#[]⟩ : ByteArray)), eq (.bool false), eq (.bool a0.fOn), eq (.int .i64 0), eq (.int .i64 0), eq (.int .i64 t382), eq (.int .i64 t384)], blk b376 32 [eq (.int .i64 a0.fKind), eq (.string a0.fRoom), eq (.string a0.fUser), eq (.string a0.fEvent), eq (.string a0.fThread), eq (.bool a0.fPrivate), eq (.bool a0.fOn), eq (.int .i64 a0.fSpan), eq (.int .i64 a0.fState), eq (.int .i64 a0.fTick), eq (.int .i64 a0.fStamp)]] ++ F) rfl trivial rfl rfl (cells_agg (ones_cons (one_eq rfl) (ones_cons (one_eq rfl) (ones_cons (one_eq rfl) (ones_cons (one_eq rfl) (ones_cons (one_eq rfl) (ones_cons (one_eq rfl) (ones_cons (one_eq rfl) (ones_cons (one_eq rfl) (ones_cons (one_eq rfl) (ones_cons (one_eq rfl) (ones_cons (one_eq rfl) ones_nil)))))))))))) Try.underlying32 c32 rfl (j := 1) rfl (Nat.le_of_ble_eq_true rfl) rfl nofun ?_
        refine .fin ?_
        obtain rfl := Gets.out H
        exact WP.retL (fun _ _ h => h) rfl () trivial (.cons (res_cells rfl Try.underlying32 rfl c32 (mem_at 1 rfl) rfl) .nil) rfl (st_sel (L := [blk b386 32 [eq (.int .i64 (w64 (1 + t378))), eq (.string t397), eq (.string t380), eq (.string (⟨#[]⟩ : ByteArray)), eq (.string (⟨#[]⟩ : ByteArray)), eq (.bool false), eq (.bool a0.fOn), eq (.int .i64 0), eq (.int .i64 0), eq (.int .i64 t382), eq (.int .i64 t384)], blk b377 32 [eq (.int .i64 (w64 (1 + t378))), eq (.string t397), eq (.string t380), eq (.string (⟨#[]⟩ : ByteArray)), eq (.string (⟨#[]⟩ : ByteArray)), eq (.bool false), eq (.bool a0.fOn), eq (.int .i64 0), eq (.int .i64 0), eq (.int .i64 t382), eq (.int .i64 t384)], blk b376 32 [eq (.int .i64 a0.fKind), eq (.string a0.fRoom), eq (.string a0.fUser), eq (.string a0.fEvent), eq (.string a0.fThread), eq (.bool a0.fPrivate), eq (.bool a0.fOn), eq (.int .i64 a0.fSpan), eq (.int .i64 a0.fState), eq (.int .i64 a0.fTick), eq (.int .i64 a0.fStamp)]]) (F := F) [0, 1, 2] 3 rfl rfl rfl)
    · replace H := Gets.cf H c396
      refine WP.reg [(0, false), (1, false), (2, false), (3, false), (4, true)] (by kernel_rfl) ?_
      refine Dv.fab rfl trivial rfl Try.underlying32 rfl Try.underlying3 c3 (by decide) ?_
      refine Dv.ldb rfl trivial rfl Try.underlying3 rfl (mem_at 2 rfl) rfl ?_
      obtain ⟨t402, h403, H⟩ := Gets.call H
      refine Dv.call rfl trivial cal12 rfl (concourseref01_Around.c h403) ?_
      refine Dv.fab rfl trivial rfl Try.underlying32 rfl Try.underlying3 c3 (by decide) ?_
      refine Dv.stx ([blk b386 32 [eq (.int .i64 (w64 (1 + t378))), eq (.string (⟨#[]⟩ : ByteArray)), eq (.string t380), eq (.string (⟨#[]⟩ : ByteArray)), eq (.string (⟨#[]⟩ : ByteArray)), eq (.bool false), eq (.bool false), eq (.int .i64 0), eq (.int .i64 t402), eq (.int .i64 t382), eq (.int .i64 t384)], blk b377 32 [eq (.int .i64 0), eq (.string (⟨#[]⟩ : ByteArray)), eq (.string (⟨#[]⟩ : ByteArray)), eq (.string (⟨#[]⟩ : ByteArray)), eq (.string (⟨#[]⟩ : ByteArray)), eq (.bool false), eq (.bool false), eq (.int .i64 0), eq (.int .i64 0), eq (.int .i64 0), eq (.int .i64 0)], blk b376 32 [eq (.int .i64 a0.fKind), eq (.string a0.fRoom), eq (.string a0.fUser), eq (.string a0.fEvent), eq (.string a0.fThread), eq (.bool a0.fPrivate), eq (.bool a0.fOn), eq (.int .i64 a0.fSpan), eq (.int .i64 a0.fState), eq (.int .i64 a0.fTick), eq (.int .i64 a0.fStamp)]] ++ F) rfl trivial rfl rfl (cells_one (one_eq rfl)) Try.underlying3 c3 rfl (j := 0) rfl (Nat.le_of_ble_eq_true rfl) rfl nofun ?_
      refine .fin ?_
      refine WP.seq ?_
      refine WP.reg [(0, false), (1, true)] (by kernel_rfl) ?_
      refine Dv.ldbs rfl trivial rfl Try.underlying32 rfl c32 (mem_at 0 rfl) (Nat.le_of_ble_eq_true rfl) ?_
      refine Dv.stx ([blk b386 32 [eq (.int .i64 (w64 (1 + t378))), eq (.string (⟨#[]⟩ : ByteArray)), eq (.string t380), eq (.string (⟨#[]⟩ : ByteArray)), eq (.string (⟨#[]⟩ : ByteArray)), eq (.bool false), eq (.bool false), eq (.int .i64 0), eq (.int .i64 t402), eq (.int .i64 t382), eq (.int .i64 t384)], blk b377 32 [eq (.int .i64 (w64 (1 + t378))), eq (.string (⟨#[]⟩ : ByteArray)), eq (.string t380), eq (.string (⟨#[]⟩ : ByteArray)), eq (.string (⟨#[]⟩ : ByteArray)), eq (.bool false), eq (.bool false), eq (.int .i64 0), eq (.int .i64 t402), eq (.int .i64 t382), eq (.int .i64 t384)], blk b376 32 [eq (.int .i64 a0.fKind), eq (.string a0.fRoom), eq (.string a0.fUser), eq (.string a0.fEvent), eq (.string a0.fThread), eq (.bool a0.fPrivate), eq (.bool a0.fOn), eq (.int .i64 a0.fSpan), eq (.int .i64 a0.fState), eq (.int .i64 a0.fTick), eq (.int .i64 a0.fStamp)]] ++ F) rfl trivial rfl rfl (cells_agg (ones_cons (one_eq rfl) (ones_cons (one_eq rfl) (ones_cons (one_eq rfl) (ones_cons (one_eq rfl) (ones_cons (one_eq rfl) (ones_cons (one_eq rfl) (ones_cons (one_eq rfl) (ones_cons (one_eq rfl) (ones_cons (one_eq rfl) (ones_cons (one_eq rfl) (ones_cons (one_eq rfl) ones_nil)))))))))))) Try.underlying32 c32 rfl (j := 1) rfl (Nat.le_of_ble_eq_true rfl) rfl nofun ?_
      refine .fin ?_
      obtain rfl := Gets.out H
      exact WP.retL (fun _ _ h => h) rfl () trivial (.cons (res_cells rfl Try.underlying32 rfl c32 (mem_at 1 rfl) rfl) .nil) rfl (st_sel (L := [blk b386 32 [eq (.int .i64 (w64 (1 + t378))), eq (.string (⟨#[]⟩ : ByteArray)), eq (.string t380), eq (.string (⟨#[]⟩ : ByteArray)), eq (.string (⟨#[]⟩ : ByteArray)), eq (.bool false), eq (.bool false), eq (.int .i64 0), eq (.int .i64 t402), eq (.int .i64 t382), eq (.int .i64 t384)], blk b377 32 [eq (.int .i64 (w64 (1 + t378))), eq (.string (⟨#[]⟩ : ByteArray)), eq (.string t380), eq (.string (⟨#[]⟩ : ByteArray)), eq (.string (⟨#[]⟩ : ByteArray)), eq (.bool false), eq (.bool false), eq (.int .i64 0), eq (.int .i64 t402), eq (.int .i64 t382), eq (.int .i64 t384)], blk b376 32 [eq (.int .i64 a0.fKind), eq (.string a0.fRoom), eq (.string a0.fUser), eq (.string a0.fEvent), eq (.string a0.fThread), eq (.bool a0.fPrivate), eq (.bool a0.fOn), eq (.int .i64 a0.fSpan), eq (.int .i64 a0.fState), eq (.int .i64 a0.fTick), eq (.int .i64 a0.fStamp)]]) (F := F) [0, 1, 2] 3 rfl rfl rfl)
theorem concourseref14_Made.c {k : Nat} {a0 : Edu} {r : Edu} (h : concourseref14_Made.f k a0 = some r) : Pt Try.prog 9 [agg (Edu.enc a0)] (agg (Edu.enc r)) := by
  unfold concourseref14_Made.f at h
  refine (Tr.body Try.func9 (c := _) rfl Try.ntmps9 (Nat.le_of_ble_eq_true rfl) fun R0 F => ?_).pt
  replace h := Gets.of h
  have H := h
  clear h
  refine WP.seq ?_
  refine WP.reg [(0, true), (1, true)] (by kernel_rfl) ?_
  refine Dv.box rfl trivial rfl (cells_agg (Edu.K.one _)) nofun (fun b404 => ?_)
  refine Dv.alloc (z := .agg #[.int .i64 0, .string ⟨#[]⟩, .string ⟨#[]⟩, .string ⟨#[]⟩, .string ⟨#[]⟩, .bool false, .bool false, .int .i64 0, .int .i64 0, .int .i64 0, .int .i64 0]) (qs := [eq (.int .i64 0), eq (.string (⟨#[]⟩ : ByteArray)), eq (.string (⟨#[]⟩ : ByteArray)), eq (.string (⟨#[]⟩ : ByteArray)), eq (.string (⟨#[]⟩ : ByteArray)), eq (.bool false), eq (.bool false), eq (.int .i64 0), eq (.int .i64 0), eq (.int .i64 0), eq (.int .i64 0)]) rfl trivial z32 rfl nofun (fun b405 => ?_)
  refine .fin ?_
  refine WP.seq ?_
  refine WP.reg [(0, false), (1, true)] (by kernel_rfl) ?_
  refine Dv.fab rfl trivial rfl Try.underlying32 rfl Try.underlying3 c3 (by decide) ?_
  refine Dv.stx ([blk b405 32 [eq (.int .i64 0), eq (.string (⟨#[]⟩ : ByteArray)), eq (.string (⟨#[]⟩ : ByteArray)), eq (.string (⟨#[]⟩ : ByteArray)), eq (.string (⟨#[]⟩ : ByteArray)), eq (.bool false), eq (.bool false), eq (.int .i64 0), eq (.int .i64 0), eq (.int .i64 0), eq (.int .i64 0)], blk b404 32 [eq (.int .i64 1), eq (.string a0.fRoom), eq (.string a0.fUser), eq (.string a0.fEvent), eq (.string a0.fThread), eq (.bool a0.fPrivate), eq (.bool a0.fOn), eq (.int .i64 a0.fSpan), eq (.int .i64 a0.fState), eq (.int .i64 a0.fTick), eq (.int .i64 a0.fStamp)]] ++ F) rfl trivial rfl rfl (cells_one (one_eq rfl)) Try.underlying3 c3 rfl (j := 1) rfl (Nat.le_of_ble_eq_true rfl) rfl nofun ?_
  refine .fin ?_
  refine WP.seq ?_
  refine WP.reg [(0, false), (1, false), (2, true)] (by kernel_rfl) ?_
  refine Dv.ldbs rfl trivial rfl Try.underlying32 rfl c32 (mem_at 1 rfl) (Nat.le_of_ble_eq_true rfl) ?_
  obtain ⟨t406, h407, H⟩ := Gets.call H
  refine Dv.call rfl trivial cal27 rfl (concourseref03_Good.c h407) ?_
  refine Dv.stx ([blk b405 32 [eq (.int .i64 t406.fKind), eq (.string t406.fRoom), eq (.string t406.fUser), eq (.string t406.fEvent), eq (.string t406.fThread), eq (.bool t406.fPrivate), eq (.bool t406.fOn), eq (.int .i64 t406.fSpan), eq (.int .i64 t406.fState), eq (.int .i64 t406.fTick), eq (.int .i64 t406.fStamp)], blk b404 32 [eq (.int .i64 1), eq (.string a0.fRoom), eq (.string a0.fUser), eq (.string a0.fEvent), eq (.string a0.fThread), eq (.bool a0.fPrivate), eq (.bool a0.fOn), eq (.int .i64 a0.fSpan), eq (.int .i64 a0.fState), eq (.int .i64 a0.fTick), eq (.int .i64 a0.fStamp)]] ++ F) rfl trivial rfl rfl (cells_agg (Edu.K.one _)) Try.underlying32 c32 rfl (j := 0) rfl (Nat.le_of_ble_eq_true rfl) rfl nofun ?_
  refine .fin ?_
  obtain rfl := Gets.out H
  exact WP.retL (fun _ _ h => h) rfl () trivial (.cons (res_cells rfl Try.underlying32 rfl c32 (mem_at 0 rfl) rfl) .nil) rfl (st_sel (L := [blk b405 32 [eq (.int .i64 t406.fKind), eq (.string t406.fRoom), eq (.string t406.fUser), eq (.string t406.fEvent), eq (.string t406.fThread), eq (.bool t406.fPrivate), eq (.bool t406.fOn), eq (.int .i64 t406.fSpan), eq (.int .i64 t406.fState), eq (.int .i64 t406.fTick), eq (.int .i64 t406.fStamp)], blk b404 32 [eq (.int .i64 1), eq (.string a0.fRoom), eq (.string a0.fUser), eq (.string a0.fEvent), eq (.string a0.fThread), eq (.bool a0.fPrivate), eq (.bool a0.fOn), eq (.int .i64 a0.fSpan), eq (.int .i64 a0.fState), eq (.int .i64 a0.fTick), eq (.int .i64 a0.fStamp)]]) (F := F) [0, 1] 2 rfl rfl rfl)
theorem edu_asks_1.c {a0 : Int} {a1 : Int} {a2 : Int} {r : Bool} (h : edu_asks_1.f a0 a1 a2 = some r) : Pt Try.prog 75 [eq (.int .i64 a0), eq (.int .i64 a1), eq (.int .i64 a2)] (eq (.bool r)) := by
  unfold edu_asks_1.f at h
  refine (Tr.body Try.func75 (c := _) rfl Try.ntmps75 (Nat.le_of_ble_eq_true rfl) fun R0 F => ?_).pt
  replace h := Gets.of h
  have H := h
  clear h
  refine WP.seq ?_
  refine WP.reg [(0, false)] (by kernel_rfl) ?_
  refine Dv.asg rfl trivial rfl ?_
  refine .fin ?_
  refine WP.seq ?_
  refine WP.reg [(0, false), (1, false), (2, false), (3, false), (4, false), (5, false), (6, false), (7, false), (8, false)] (by kernel_rfl) ?_
  refine Dv.mv rfl trivial rfl ?_
  refine Dv.mv rfl trivial rfl ?_
  refine Dv.bin rfl trivial rfl rfl (fun _ => run_ge) ?_
  refine Dv.mv rfl trivial rfl ?_
  cases c408 : decide (a1 ≤ a0)
  · replace H := Gets.cf H c408
    refine Dv.skip rfl ⟨_, _, rfl, rfl, .inl rfl⟩ ?_
    refine Dv.skip rfl ⟨_, _, rfl, rfl, .inl rfl⟩ ?_
    refine Dv.skip rfl ⟨_, _, rfl, rfl, .inl rfl⟩ ?_
    refine Dv.pickF rfl trivial rfl rfl ?_
    refine Dv.asg rfl trivial rfl ?_
    refine .fin ?_
    obtain rfl := Gets.out H
    exact WP.retL (fun _ _ h => h) rfl () trivial (.cons (res_tmp rfl) .nil) rfl (st_sel (L := []) (F := F) [] 0 rfl rfl rfl)
  · replace H := Gets.ct H c408
    refine Dv.mv rfl ⟨_, _, rfl, rfl, rfl⟩ rfl ?_
    refine Dv.mv rfl ⟨_, _, rfl, rfl, rfl⟩ rfl ?_
    refine Dv.bin rfl ⟨_, _, rfl, rfl, rfl⟩ rfl rfl (fun _ => run_le) ?_
    refine Dv.pickT rfl trivial rfl rfl ?_
    refine Dv.asg rfl trivial rfl ?_
    refine .fin ?_
    obtain rfl := Gets.out H
    exact WP.retL (fun _ _ h => h) rfl () trivial (.cons (res_tmp rfl) .nil) rfl (st_sel (L := []) (F := F) [] 0 rfl rfl rfl)
theorem edu_asks_2.c {a0 : Edu} {r : Bool} (h : edu_asks_2.f a0 = some r) : Pt Try.prog 76 [agg (Edu.enc a0)] (eq (.bool r)) := by
  unfold edu_asks_2.f at h
  refine (Tr.body Try.func76 (c := _) rfl Try.ntmps76 (Nat.le_of_ble_eq_true rfl) fun R0 F => ?_).pt
  replace h := Gets.of h
  have H := h
  clear h
  refine WP.seq ?_
  refine WP.reg [(0, true), (1, false)] (by kernel_rfl) ?_
  refine Dv.box rfl trivial rfl (cells_agg (Edu.K.one _)) nofun (fun b409 => ?_)
  refine Dv.asg rfl trivial rfl ?_
  refine .fin ?_
  refine WP.seq ?_
  refine WP.reg [(0, false)] (by kernel_rfl) ?_
  refine Dv.asg rfl trivial rfl ?_
  refine .fin ?_
  obtain rfl := Gets.out H
  exact WP.retL (fun _ _ h => h) rfl () trivial (.cons (res_tmp rfl) .nil) rfl (st_sel (L := [blk b409 32 [eq (.int .i64 a0.fKind), eq (.string a0.fRoom), eq (.string a0.fUser), eq (.string a0.fEvent), eq (.string a0.fThread), eq (.bool a0.fPrivate), eq (.bool a0.fOn), eq (.int .i64 a0.fSpan), eq (.int .i64 a0.fState), eq (.int .i64 a0.fTick), eq (.int .i64 a0.fStamp)]]) (F := F) [0] 1 rfl rfl rfl)
theorem stringslite_HasPrefix.c {a0 : ByteArray} {a1 : ByteArray} {r : Bool} (h : stringslite_HasPrefix.f a0 a1 = some r) : Pt Try.prog 98 [eq (.string a0), eq (.string a1)] (eq (.bool r)) := by
  unfold stringslite_HasPrefix.f at h
  refine (Tr.body Try.func98 (c := _) rfl Try.ntmps98 (Nat.le_of_ble_eq_true rfl) fun R0 F => ?_).pt
  replace h := Gets.of h
  have H := h
  clear h
  refine WP.seq ?_
  refine WP.reg [(0, false)] (by kernel_rfl) ?_
  refine Dv.asg rfl trivial rfl ?_
  refine .fin ?_
  refine WP.seq ?_
  refine WP.reg [(0, false), (1, false), (2, false), (3, false), (4, false), (5, false), (6, false), (7, false), (8, false), (9, false), (10, false), (11, false), (12, false), (13, false)] (by kernel_rfl) ?_
  refine Dv.mv rfl trivial rfl ?_
  refine Dv.lens rfl trivial rfl Try.underlying9 ?_
  refine Dv.mv rfl trivial rfl ?_
  refine Dv.lens rfl trivial rfl Try.underlying9 ?_
  refine Dv.bin rfl trivial rfl rfl (fun _ => run_ge) ?_
  refine Dv.mv rfl trivial rfl ?_
  cases c410 : decide ((a1.size : Int) ≤ (a0.size : Int))
  · replace H := Gets.cf H c410
    refine Dv.skip rfl ⟨_, _, rfl, rfl, .inl rfl⟩ ?_
    refine Dv.skip rfl ⟨_, _, rfl, rfl, .inl rfl⟩ ?_
    refine Dv.skip rfl ⟨_, _, rfl, rfl, .inl rfl⟩ ?_
    refine Dv.skip rfl ⟨_, _, rfl, rfl, .inl rfl⟩ ?_
    refine Dv.skip rfl ⟨_, _, rfl, rfl, .inl rfl⟩ ?_
    refine Dv.skip rfl ⟨_, _, rfl, rfl, .inl rfl⟩ ?_
    refine Dv.pickF rfl trivial rfl rfl ?_
    refine Dv.asg rfl trivial rfl ?_
    refine .fin ?_
    obtain rfl := Gets.out H
    exact WP.retL (fun _ _ h => h) rfl () trivial (.cons (res_tmp rfl) .nil) rfl (st_sel (L := []) (F := F) [] 0 rfl rfl rfl)
  · replace H := Gets.ct H c410
    refine Dv.mv rfl ⟨_, _, rfl, rfl, rfl⟩ rfl ?_
    refine Dv.mv rfl ⟨_, _, rfl, rfl, rfl⟩ rfl ?_
    refine Dv.lens rfl ⟨_, _, rfl, rfl, rfl⟩ rfl Try.underlying9 ?_
    obtain ⟨g411, H⟩ := Gets.grd H
    refine Dv.sss rfl ⟨_, _, rfl, rfl, rfl⟩ rfl Try.underlying9 bdE_none (bdE_some rfl g411.1) g411.2.1 g411.2.2 ?_
    refine Dv.mv rfl ⟨_, _, rfl, rfl, rfl⟩ rfl ?_
    refine Dv.bin rfl ⟨_, _, rfl, rfl, rfl⟩ rfl rfl (fun _ => run_seq) ?_
    refine Dv.pickT rfl trivial rfl rfl ?_
    refine Dv.asg rfl trivial rfl ?_
    refine .fin ?_
    obtain rfl := Gets.out H
    exact WP.retL (fun _ _ h => h) rfl () trivial (.cons (res_tmp rfl) .nil) rfl (st_sel (L := []) (F := F) [] 0 rfl rfl rfl)
theorem stringslite_CutPrefix.c {a0 : ByteArray} {a1 : ByteArray} {r : ByteArray × Bool} (h : stringslite_CutPrefix.f a0 a1 = some r) : Pt Try.prog 94 [eq (.string a0), eq (.string a1)] (tup [eq (.string r.1), eq (.bool r.2)]) := by
  unfold stringslite_CutPrefix.f at h
  refine (Tr.body Try.func94 (c := _) rfl Try.ntmps94 (Nat.le_of_ble_eq_true rfl) fun R0 F => ?_).pt
  replace h := Gets.of h
  have H := h
  clear h
  refine WP.seq ?_
  refine WP.reg [(0, false), (1, false)] (by kernel_rfl) ?_
  refine Dv.asg rfl trivial rfl ?_
  refine Dv.asg rfl trivial rfl ?_
  refine .fin ?_
  refine WP.seq ?_
  refine WP.seq ?_
  refine WP.reg [(0, false), (1, false), (2, false), (3, false)] (by kernel_rfl) ?_
  refine Dv.mv rfl trivial rfl ?_
  refine Dv.mv rfl trivial rfl ?_
  obtain ⟨t412, h413, H⟩ := Gets.call H
  refine Dv.call rfl trivial cal98 rfl (stringslite_HasPrefix.c h413) ?_
  refine Dv.un rfl trivial rfl (fun _ => run_not _) ?_
  refine .fin ?_
  refine WP.cond rfl (fun c414 => ?_) (fun c414 => ?_)
  · replace H := Gets.ct H c414
    refine WP.seq ?_
    refine WP.reg [(0, false), (1, false), (2, false)] (by kernel_rfl) ?_
    refine Dv.mv rfl trivial rfl ?_
    refine Dv.asg rfl trivial rfl ?_
    refine Dv.asg rfl trivial rfl ?_
    refine .fin ?_
    obtain rfl := Gets.out H
    exact WP.retL (fun _ _ h => h) rfl () trivial (.cons (res_tmp rfl) (.cons (res_tmp rfl) .nil)) rfl (st_sel (L := []) (F := F) [] 0 rfl rfl rfl)
  · replace H := Gets.cf H c414
    refine WP.skip ?_
    refine WP.seq ?_
    refine WP.reg [(0, false), (1, false), (2, false), (3, false), (4, false), (5, false)] (by kernel_rfl) ?_
    refine Dv.mv rfl trivial rfl ?_
    refine Dv.mv rfl trivial rfl ?_
    refine Dv.lens rfl trivial rfl Try.underlying9 ?_
    obtain ⟨g415, H⟩ := Gets.grd H
    refine Dv.sss rfl trivial rfl Try.underlying9 (bdE_some rfl g415.1) bdE_none g415.2.1 g415.2.2 ?_
    refine Dv.asg rfl trivial rfl ?_
    refine Dv.asg rfl trivial rfl ?_
    refine .fin ?_
    obtain rfl := Gets.out H
    exact WP.retL (fun _ _ h => h) rfl () trivial (.cons (res_tmp rfl) (.cons (res_tmp rfl) .nil)) rfl (st_sel (L := []) (F := F) [] 0 rfl rfl rfl)
theorem strings_CutPrefix.c {a0 : ByteArray} {a1 : ByteArray} {r : ByteArray × Bool} (h : strings_CutPrefix.f a0 a1 = some r) : Pt Try.prog 90 [eq (.string a0), eq (.string a1)] (tup [eq (.string r.1), eq (.bool r.2)]) := by
  unfold strings_CutPrefix.f at h
  refine (Tr.body Try.func90 (c := _) rfl Try.ntmps90 (Nat.le_of_ble_eq_true rfl) fun R0 F => ?_).pt
  replace h := Gets.of h
  have H := h
  clear h
  refine WP.seq ?_
  refine WP.reg [(0, false), (1, false)] (by kernel_rfl) ?_
  refine Dv.asg rfl trivial rfl ?_
  refine Dv.asg rfl trivial rfl ?_
  refine .fin ?_
  refine WP.seq ?_
  refine WP.reg [(0, false), (1, false), (2, false), (3, false), (4, false), (5, false), (6, false)] (by kernel_rfl) ?_
  refine Dv.mv rfl trivial rfl ?_
  refine Dv.mv rfl trivial rfl ?_
  obtain ⟨t416, h417, H⟩ := Gets.call H
  refine Dv.call rfl trivial cal94 rfl (stringslite_CutPrefix.c h417) ?_
  refine Dv.ext rfl trivial rfl rfl ?_
  refine Dv.ext rfl trivial rfl rfl ?_
  refine Dv.asg rfl trivial rfl ?_
  refine Dv.asg rfl trivial rfl ?_
  refine .fin ?_
  obtain rfl := Gets.out H
  exact WP.retL (fun _ _ h => h) rfl () trivial (.cons (res_tmp rfl) (.cons (res_tmp rfl) .nil)) rfl (st_sel (L := []) (F := F) [] 0 rfl rfl rfl)
theorem name_small.c {a0 : Int} {r : Bool} (h : name_small.f a0 = some r) : Pt Try.prog 97 [eq (.int .u8 a0)] (eq (.bool r)) := by
  unfold name_small.f at h
  refine (Tr.body Try.func97 (c := _) rfl Try.ntmps97 (Nat.le_of_ble_eq_true rfl) fun R0 F => ?_).pt
  replace h := Gets.of h
  have H := h
  clear h
  refine WP.seq ?_
  refine WP.reg [(0, false)] (by kernel_rfl) ?_
  refine Dv.asg rfl trivial rfl ?_
  refine .fin ?_
  refine WP.seq ?_
  refine WP.reg [(0, false), (1, false), (2, false), (3, false), (4, false), (5, false), (6, false), (7, false), (8, false), (9, false), (10, false), (11, false), (12, false), (13, false), (14, false)] (by kernel_rfl) ?_
  refine Dv.mv rfl trivial rfl ?_
  refine Dv.bin rfl trivial rfl rfl (fun _ => run_ge) ?_
  refine Dv.mv rfl trivial rfl ?_
  cases c418 : decide (97 ≤ a0)
  · replace H := Gets.cf H c418
    refine Dv.skip rfl ⟨_, _, rfl, rfl, .inl rfl⟩ ?_
    refine Dv.skip rfl ⟨_, _, rfl, rfl, .inl rfl⟩ ?_
    refine Dv.pickF rfl trivial rfl rfl ?_
    refine Dv.mv rfl trivial rfl ?_
    refine Dv.mv rfl ⟨_, _, rfl, rfl, rfl⟩ rfl ?_
    refine Dv.bin rfl ⟨_, _, rfl, rfl, rfl⟩ rfl rfl (fun _ => run_ge) ?_
    refine Dv.mv rfl ⟨_, _, rfl, rfl, rfl⟩ rfl ?_
    cases c421 : decide (48 ≤ a0)
    · replace H := Gets.cf H c421
      refine Dv.skip rfl ⟨_, _, rfl, rfl, .inl rfl⟩ ?_
      refine Dv.skip rfl ⟨_, _, rfl, rfl, .inl rfl⟩ ?_
      refine Dv.pickF rfl ⟨_, _, rfl, rfl, rfl⟩ rfl rfl ?_
      refine Dv.pickF rfl trivial rfl rfl ?_
      refine Dv.asg rfl trivial rfl ?_
      refine .fin ?_
      obtain rfl := Gets.out H
      exact WP.retL (fun _ _ h => h) rfl () trivial (.cons (res_tmp rfl) .nil) rfl (st_sel (L := []) (F := F) [] 0 rfl rfl rfl)
    · replace H := Gets.ct H c421
      refine Dv.mv rfl ⟨_, _, rfl, rfl, rfl⟩ rfl ?_
      refine Dv.bin rfl ⟨_, _, rfl, rfl, rfl⟩ rfl rfl (fun _ => run_le) ?_
      refine Dv.pickT rfl ⟨_, _, rfl, rfl, rfl⟩ rfl rfl ?_
      refine Dv.pickF rfl trivial rfl rfl ?_
      refine Dv.asg rfl trivial rfl ?_
      refine .fin ?_
      obtain rfl := Gets.out H
      exact WP.retL (fun _ _ h => h) rfl () trivial (.cons (res_tmp rfl) .nil) rfl (st_sel (L := []) (F := F) [] 0 rfl rfl rfl)
  · replace H := Gets.ct H c418
    refine Dv.mv rfl ⟨_, _, rfl, rfl, rfl⟩ rfl ?_
    refine Dv.bin rfl ⟨_, _, rfl, rfl, rfl⟩ rfl rfl (fun _ => run_le) ?_
    refine Dv.pickT rfl trivial rfl rfl ?_
    refine Dv.mv rfl trivial rfl ?_
    cases c419 : decide (a0 ≤ 122)
    · replace H := Gets.cf H c419
      refine Dv.mv rfl ⟨_, _, rfl, rfl, rfl⟩ rfl ?_
      refine Dv.bin rfl ⟨_, _, rfl, rfl, rfl⟩ rfl rfl (fun _ => run_ge) ?_
      refine Dv.mv rfl ⟨_, _, rfl, rfl, rfl⟩ rfl ?_
      cases c420 : decide (48 ≤ a0)
      · replace H := Gets.cf H c420
        refine Dv.skip rfl ⟨_, _, rfl, rfl, .inl rfl⟩ ?_
        refine Dv.skip rfl ⟨_, _, rfl, rfl, .inl rfl⟩ ?_
        refine Dv.pickF rfl ⟨_, _, rfl, rfl, rfl⟩ rfl rfl ?_
        refine Dv.pickF rfl trivial rfl rfl ?_
        refine Dv.asg rfl trivial rfl ?_
        refine .fin ?_
        obtain rfl := Gets.out H
        exact WP.retL (fun _ _ h => h) rfl () trivial (.cons (res_tmp rfl) .nil) rfl (st_sel (L := []) (F := F) [] 0 rfl rfl rfl)
      · replace H := Gets.ct H c420
        refine Dv.mv rfl ⟨_, _, rfl, rfl, rfl⟩ rfl ?_
        refine Dv.bin rfl ⟨_, _, rfl, rfl, rfl⟩ rfl rfl (fun _ => run_le) ?_
        refine Dv.pickT rfl ⟨_, _, rfl, rfl, rfl⟩ rfl rfl ?_
        refine Dv.pickF rfl trivial rfl rfl ?_
        refine Dv.asg rfl trivial rfl ?_
        refine .fin ?_
        obtain rfl := Gets.out H
        exact WP.retL (fun _ _ h => h) rfl () trivial (.cons (res_tmp rfl) .nil) rfl (st_sel (L := []) (F := F) [] 0 rfl rfl rfl)
    · replace H := Gets.ct H c419
      refine Dv.skip rfl ⟨_, _, rfl, rfl, .inl rfl⟩ ?_
      refine Dv.skip rfl ⟨_, _, rfl, rfl, .inl rfl⟩ ?_
      refine Dv.skip rfl ⟨_, _, rfl, rfl, .inl rfl⟩ ?_
      refine Dv.skip rfl ⟨_, _, rfl, rfl, .inr rfl⟩ ?_
      refine Dv.skip rfl ⟨_, _, rfl, rfl, .inr rfl⟩ ?_
      refine Dv.skip rfl ⟨_, _, rfl, rfl, .inl rfl⟩ ?_
      refine Dv.pickT rfl trivial rfl rfl ?_
      refine Dv.asg rfl trivial rfl ?_
      refine .fin ?_
      obtain rfl := Gets.out H
      exact WP.retL (fun _ _ h => h) rfl () trivial (.cons (res_tmp rfl) .nil) rfl (st_sel (L := []) (F := F) [] 0 rfl rfl rfl)
theorem stringslite_IndexByte.c {a0 : ByteArray} {a1 : Int} {r : Int} (h : stringslite_IndexByte.f a0 a1 = some r) : Pt Try.prog 102 [eq (.string a0), eq (.int .u8 a1)] (eq (.int .i64 r)) := by
  unfold stringslite_IndexByte.f at h
  refine (Tr.body Try.func102 (c := _) rfl Try.ntmps102 (Nat.le_of_ble_eq_true rfl) fun R0 F => ?_).pt
  replace h := Gets.of h
  have H := h
  clear h
  refine WP.seq ?_
  refine WP.reg [(0, false)] (by kernel_rfl) ?_
  refine Dv.asg rfl trivial rfl ?_
  refine .fin ?_
  refine WP.seq ?_
  refine WP.reg [(0, false), (1, false), (2, false), (3, false)] (by kernel_rfl) ?_
  refine Dv.mv rfl trivial rfl ?_
  refine Dv.mv rfl trivial rfl ?_
  refine Dv.cext rfl trivial rfl (xt_index Try.func106 (by kernel_rfl) rfl xf106 xg106) ?_
  refine Dv.asg rfl trivial rfl ?_
  refine .fin ?_
  obtain rfl := Gets.out H
  exact WP.retL (fun _ _ h => h) rfl () trivial (.cons (res_tmp rfl) .nil) rfl (st_sel (L := []) (F := F) [] 0 rfl rfl rfl)
theorem strings_IndexByte.c {a0 : ByteArray} {a1 : Int} {r : Int} (h : strings_IndexByte.f a0 a1 = some r) : Pt Try.prog 100 [eq (.string a0), eq (.int .u8 a1)] (eq (.int .i64 r)) := by
  unfold strings_IndexByte.f at h
  refine (Tr.body Try.func100 (c := _) rfl Try.ntmps100 (Nat.le_of_ble_eq_true rfl) fun R0 F => ?_).pt
  replace h := Gets.of h
  have H := h
  clear h
  refine WP.seq ?_
  refine WP.reg [(0, false)] (by kernel_rfl) ?_
  refine Dv.asg rfl trivial rfl ?_
  refine .fin ?_
  refine WP.seq ?_
  refine WP.reg [(0, false), (1, false), (2, false), (3, false)] (by kernel_rfl) ?_
  refine Dv.mv rfl trivial rfl ?_
  refine Dv.mv rfl trivial rfl ?_
  obtain ⟨t422, h423, H⟩ := Gets.call H
  refine Dv.call rfl trivial cal102 rfl (stringslite_IndexByte.c h423) ?_
  refine Dv.asg rfl trivial rfl ?_
  refine .fin ?_
  obtain rfl := Gets.out H
  exact WP.retL (fun _ _ h => h) rfl () trivial (.cons (res_tmp rfl) .nil) rfl (st_sel (L := []) (F := F) [] 0 rfl rfl rfl)
theorem name_among_1.c {a0 : Int} {c0 : ByteArray} {r : Bool} (h : name_among_1.f a0 c0 = some r) : Pt Try.prog 99 [eq (.int .u8 a0), rp [eq (.string c0)]] (eq (.bool r)) := by
  unfold name_among_1.f at h
  refine (Tr.body Try.func99 (c := _) rfl Try.ntmps99 (Nat.le_of_ble_eq_true rfl) fun R0 F => ?_).pt
  replace h := Gets.of h
  have H := h
  clear h
  refine WP.seq ?_
  refine WP.reg [(0, false)] (by kernel_rfl) ?_
  refine Dv.asg rfl trivial rfl ?_
  refine .fin ?_
  refine WP.seq ?_
  refine WP.reg [(0, false), (1, false), (2, false), (3, false), (4, false), (5, false), (6, false), (7, false), (8, false)] (by kernel_rfl) ?_
  refine Dv.mv rfl trivial rfl ?_
  obtain ⟨t424, h425, H⟩ := Gets.call H
  refine Dv.call rfl trivial cal97 rfl (name_small.c h425) ?_
  refine Dv.mv rfl trivial rfl ?_
  cases c426 : t424
  · replace H := Gets.cf H c426
    refine Dv.ldr rfl ⟨_, _, rfl, rfl, rfl⟩ rfl Try.underlying9 rfl rfl ?_
    refine Dv.mv rfl ⟨_, _, rfl, rfl, rfl⟩ rfl ?_
    obtain ⟨t427, h428, H⟩ := Gets.call H
    refine Dv.call rfl ⟨_, _, rfl, rfl, rfl⟩ cal100 rfl (strings_IndexByte.c h428) ?_
    refine Dv.bin rfl ⟨_, _, rfl, rfl, rfl⟩ rfl rfl (fun _ => run_ge) ?_
    refine Dv.pickF rfl trivial rfl rfl ?_
    refine Dv.asg rfl trivial rfl ?_
    refine .fin ?_
    obtain rfl := Gets.out H
    exact WP.retL (fun _ _ h => h) rfl () trivial (.cons (res_tmp rfl) .nil) rfl (st_sel (L := []) (F := F) [] 0 rfl rfl rfl)
  · replace H := Gets.ct H c426
    refine Dv.skip rfl ⟨_, _, rfl, rfl, .inl rfl⟩ ?_
    refine Dv.skip rfl ⟨_, _, rfl, rfl, .inl rfl⟩ ?_
    refine Dv.skip rfl ⟨_, _, rfl, rfl, .inl rfl⟩ ?_
    refine Dv.skip rfl ⟨_, _, rfl, rfl, .inl rfl⟩ ?_
    refine Dv.pickT rfl trivial rfl rfl ?_
    refine Dv.asg rfl trivial rfl ?_
    refine .fin ?_
    obtain rfl := Gets.out H
    exact WP.retL (fun _ _ h => h) rfl () trivial (.cons (res_tmp rfl) .nil) rfl (st_sel (L := []) (F := F) [] 0 rfl rfl rfl)
theorem name_among.c {a0 : ByteArray} {r : (Int → Option Bool)} (h : name_among.f a0 = some r) : Pt Try.prog 95 [eq (.string a0)] (fq98 r) := by
  unfold name_among.f at h
  refine (Tr.body Try.func95 (c := _) rfl Try.ntmps95 (Nat.le_of_ble_eq_true rfl) fun R0 F => ?_).pt
  replace h := Gets.of h
  have H := h
  clear h
  refine WP.seq ?_
  refine WP.reg [(0, true), (1, false)] (by kernel_rfl) ?_
  refine Dv.box rfl trivial rfl (cells_one (one_eq rfl)) nofun (fun b429 => ?_)
  refine Dv.asg rfl trivial rfl ?_
  refine .fin ?_
  refine WP.seq ?_
  refine WP.reg [(0, false), (1, false)] (by kernel_rfl) ?_
  refine Dv.gh (gh_frzb (E' := [(0, eq (.string a0)), (1, rp [eq (.string a0)]), (2, eq .nilFunc)]) (l' := [] ++ F) 0 rfl (cve_cons rfl cv_id (cve_cons rfl cv_eq (cve_cons rfl cv_id cve_nil))) (all2_app .nil fun _ => cva_id)) (fun _ _ => ?_)
  refine Dv.mkf (Q := fq98Q (fun a0_ => name_among_1.f a0_ a0)) cal99 (by rintro _ _ ⟨a0_, r_, h_, rfl, rfl⟩; exact name_among_1.c h_) rfl trivial rfl rfl ?_
  refine Dv.asg rfl trivial rfl ?_
  refine .fin ?_
  obtain rfl := Gets.out H
  exact WP.retL (fun _ _ h => h) rfl () trivial (.cons (res_tmp rfl) .nil) rfl (st_sel (L := []) (F := F) [] 0 rfl rfl rfl)
theorem name_may.c {k : Nat} {a0 : ByteArray} {a1 : Int} {r : Bool} (h : name_may.f k a0 a1 = some r) : Pt Try.prog 91 [eq (.string a0), eq (.int .i64 a1)] (eq (.bool r)) := by
  unfold name_may.f at h
  refine (Tr.body Try.func91 (c := _) rfl Try.ntmps91 (Nat.le_of_ble_eq_true rfl) fun R0 F => ?_).pt
  replace h := Gets.of h
  have H := h
  clear h
  refine WP.seq ?_
  refine WP.reg [(0, false)] (by kernel_rfl) ?_
  refine Dv.asg rfl trivial rfl ?_
  refine .fin ?_
  refine WP.seq ?_
  refine WP.reg [(0, false), (1, false), (2, false), (3, false), (4, false), (5, false), (6, false)] (by kernel_rfl) ?_
  obtain ⟨t430, h431, H⟩ := Gets.call H
  refine Dv.call rfl trivial cal95 rfl (name_among.c h431) ?_
  obtain ⟨t432, h433, H⟩ := Gets.call H
  refine Dv.call rfl trivial cal95 rfl (name_among.c h433) ?_
  obtain ⟨t434, h435, H⟩ := Gets.call H
  refine Dv.call rfl trivial cal95 rfl (name_among.c h435) ?_
  refine Dv.blda (qs := [fq98 t430, fq98 t432, fq98 t434]) (css := [[fq98 t430], [fq98 t432], [fq98 t434]]) rfl trivial Try.underlying110 Try.underlying98 c98 z110 rfl ⟨(cells_one one_fnq), ⟨(cells_one one_fnq), ⟨(cells_one one_fnq), trivial⟩⟩⟩ rfl rfl ?_
  refine Dv.mv rfl trivial rfl ?_
  obtain ⟨g436, H⟩ := Gets.grd H
  refine Dv.ixa (Kd := fK98) (xs := ([t430, t432, t434] : List (Int → Option Bool))) rfl trivial rfl rfl rfl Try.underlying110 Try.underlying98 rfl c98 rfl rfl g436.1 g436.2 rfl ?_
  refine Dv.asg rfl trivial rfl ?_
  refine .fin ?_
  refine WP.seqr H id (fun p437 : Int × Bool => [(0, eq (.string a0)), (1, eq (.int .i64 a1)), (4, eq (.bool false)), (5, fq98 (fK98.at ([t430, t432, t434] : List (Int → Option Bool)) a1)), (14, eq (.int .i64 (a0.size : Int))), (15, eq (.int .i64 p437.1)), (16, eq (.bool p437.2))]) (fun p437 : Int × Bool => [] ++ F) (fun p437 H => ?_) (fun H => ?_)
  · refine WP.seq ?_
    refine WP.reg [(0, false), (1, false), (2, false), (3, false), (4, false), (5, false), (6, false), (7, false)] (by kernel_rfl) ?_
    refine Dv.mv rfl trivial rfl ?_
    refine Dv.bin rfl trivial rfl rfl (fun _ => run_sne) ?_
    refine Dv.mv rfl trivial rfl ?_
    cases c438 : !decide (a0 = (⟨#[]⟩ : ByteArray))
    · replace H := Gets.cf H c438
      refine Dv.skip rfl ⟨_, _, rfl, rfl, .inl rfl⟩ ?_
      refine Dv.skip rfl ⟨_, _, rfl, rfl, .inl rfl⟩ ?_
      refine Dv.skip rfl ⟨_, _, rfl, rfl, .inl rfl⟩ ?_
      refine Dv.pickF rfl trivial rfl rfl ?_
      refine Dv.asg rfl trivial rfl ?_
      refine .fin ?_
      obtain rfl := Gets.out H
      exact WP.retL (fun _ _ h => h) rfl () trivial (.cons (res_tmp rfl) .nil) rfl (st_sel (L := []) (F := F) [] 0 rfl rfl rfl)
    · replace H := Gets.ct H c438
      refine Dv.mv rfl ⟨_, _, rfl, rfl, rfl⟩ rfl ?_
      refine Dv.lens rfl ⟨_, _, rfl, rfl, rfl⟩ rfl Try.underlying9 ?_
      refine Dv.bin rfl ⟨_, _, rfl, rfl, rfl⟩ rfl rfl (fun _ => run_le) ?_
      refine Dv.pickT rfl trivial rfl rfl ?_
      refine Dv.asg rfl trivial rfl ?_
      refine .fin ?_
      obtain rfl := Gets.out H
      exact WP.retL (fun _ _ h => h) rfl () trivial (.cons (res_tmp rfl) .nil) rfl (st_sel (L := []) (F := F) [] 0 rfl rfl rfl)
  · refine WP.seq ?_
    refine WP.reg [(0, false), (1, false), (2, false)] (by kernel_rfl) ?_
    refine Dv.mv rfl trivial rfl ?_
    refine Dv.lens rfl trivial rfl Try.underlying9 ?_
    refine Dv.mv rfl trivial rfl ?_
    refine .fin ?_
    refine WP.block ?_
    refine WP.gh (l' := fun _ => [] ++ F) (gh_of (st_selg (L := []) (F := F) [] 0 rfl rfl rfl)) (fun _ _ => ?_)
    refine WP.loopg (fun j_ (p446 : Int) => name_may.l0 k a0 a1 t430 t432 t434 j_ p446) 0 H (fun p446 => [(0, eq (.string a0)), (1, eq (.int .i64 a1)), (4, eq (.bool false)), (5, fq98 (fK98.at ([t430, t432, t434] : List (Int → Option Bool)) a1)), (14, eq (.int .i64 (a0.size : Int))), (15, eq (.int .i64 p446))]) (fun p446 => [] ++ F) (weak_cons rfl (weak_cons rfl (weak_cons rfl (weak_cons rfl (weak_cons rfl (weak_cons rfl weak_nil)))))) (List.Perm.refl _) ?_
    rintro j_ x439 H
    rcases j_ with _ | j445
    · exact (Gets.no H).elim
    replace H : Gets (name_may.l0 k a0 a1 t430 t432 t434 (j445 + 1) x439) _ := H
    rw [name_may.l0] at H
    refine WP.seq ?_
    refine WP.reg [(0, false)] (by kernel_rfl) ?_
    refine Dv.bin rfl trivial rfl rfl (fun _ => run_lt) ?_
    refine .fin ?_
    refine WP.seq ?_
    refine WP.cond rfl (fun c440 => ?_) (fun c440 => ?_)
    · replace H := Gets.ct H c440
      refine WP.skip ?_
      refine WP.seq ?_
      refine WP.block ?_
      refine WP.seq ?_
      refine WP.reg [(0, false), (1, false)] (by kernel_rfl) ?_
      refine Dv.mv rfl trivial rfl ?_
      refine Dv.asg rfl trivial rfl ?_
      refine .fin ?_
      refine WP.seq ?_
      refine WP.reg [(0, false), (1, false), (2, false), (3, false), (4, false), (5, false)] (by kernel_rfl) ?_
      refine Dv.mv rfl trivial rfl ?_
      refine Dv.mv rfl trivial rfl ?_
      refine Dv.mv rfl trivial rfl ?_
      obtain ⟨g441, H⟩ := Gets.grd H
      refine Dv.ixs rfl trivial rfl rfl Try.underlying9 g441.1 g441.2 ?_
      obtain ⟨t442, h443, H⟩ := Gets.call H
      refine Dv.callq (ret := eq (.bool t442)) rfl trivial rfl rfl ⟨_, _, h443, rfl, rfl⟩ ?_
      refine Dv.un rfl trivial rfl (fun _ => run_not _) ?_
      refine .fin ?_
      refine WP.cond rfl (fun c444 => ?_) (fun c444 => ?_)
      · replace H := Gets.ct H c444
        refine WP.seq ?_
        refine WP.reg [(0, false)] (by kernel_rfl) ?_
        refine Dv.asg rfl trivial rfl ?_
        refine .fin ?_
        replace H := Gets.outr H
        obtain rfl := Gets.out H
        exact WP.retL (fun _ _ h => h) rfl () trivial (.cons (res_tmp rfl) .nil) rfl (st_sel (L := []) (F := F) [] 0 rfl rfl rfl)
      · replace H := Gets.cf H c444
        refine WP.skip ?_
        refine WP.reg [(0, false), (1, false)] (by kernel_rfl) ?_
        refine Dv.bin rfl trivial rfl rfl (fun _ => run_add) ?_
        refine Dv.mv rfl trivial rfl ?_
        refine .fin ?_
        exact Back.mk j445 (w64 (x439 + 1)) (Nat.lt_succ_self _) H (weak_cons rfl (weak_cons rfl (weak_cons rfl (weak_cons rfl (weak_cons rfl (weak_cons rfl weak_nil)))))) (List.Perm.refl _)
    · replace H := Gets.cf H c440
      refine WP.exit ?_
      replace H := Gets.out H
      exact Jn.mk (x439, decide (x439 < (a0.size : Int))) H (weak_cons rfl (weak_cons rfl (weak_cons rfl (weak_cons rfl (weak_cons rfl (weak_cons rfl (weak_cons rfl weak_nil))))))) (List.Perm.refl _)
theorem bytealg_Cutover.c {a0 : Int} {r : Int} (h : bytealg_Cutover.f a0 = some r) : Pt Try.prog 104 [eq (.int .i64 a0)] (eq (.int .i64 r)) := by
  unfold bytealg_Cutover.f at h
  refine (Tr.body Try.func104 (c := _) rfl Try.ntmps104 (Nat.le_of_ble_eq_true rfl) fun R0 F => ?_).pt
  replace h := Gets.of h
  have H := h
  clear h
  refine WP.seq ?_
  refine WP.reg [(0, false)] (by kernel_rfl) ?_
  refine Dv.asg rfl trivial rfl ?_
  refine .fin ?_
  refine WP.seq ?_
  refine WP.reg [(0, false), (1, false), (2, false), (3, false)] (by kernel_rfl) ?_
  refine Dv.mv rfl trivial rfl ?_
  refine Dv.bin rfl trivial rfl rfl (fun _ => run_add) ?_
  refine Dv.bin rfl trivial rfl rfl (fun _ => run_quo (by decide)) ?_
  refine Dv.asg rfl trivial rfl ?_
  refine .fin ?_
  obtain rfl := Gets.out H
  exact WP.retL (fun _ _ h => h) rfl () trivial (.cons (res_tmp rfl) .nil) rfl (st_sel (L := []) (F := F) [] 0 rfl rfl rfl)
theorem stringslite_Index.c {a0 : ByteArray} {a1 : ByteArray} {r : Int} (h : stringslite_Index.f a0 a1 = some r) : Pt Try.prog 101 [eq (.string a0), eq (.string a1)] (eq (.int .i64 r)) := by
  unfold stringslite_Index.f at h
  refine (Tr.body Try.func101 (c := _) rfl Try.ntmps101 (Nat.le_of_ble_eq_true rfl) fun R0 F => ?_).pt
  replace h := Gets.of h
  have H := h
  clear h
  refine WP.seq ?_
  refine WP.reg [(0, false)] (by kernel_rfl) ?_
  refine Dv.asg rfl trivial rfl ?_
  refine .fin ?_
  refine WP.seq ?_
  refine WP.reg [(0, false), (1, false), (2, false)] (by kernel_rfl) ?_
  refine Dv.mv rfl trivial rfl ?_
  refine Dv.lens rfl trivial rfl Try.underlying9 ?_
  refine Dv.asg rfl trivial rfl ?_
  refine .fin ?_
  refine WP.seq ?_
  refine WP.block ?_
  refine WP.seq ?_
  refine WP.reg [(0, false), (1, false), (2, false), (3, false), (4, false), (5, false), (6, false), (7, false)] (by kernel_rfl) ?_
  refine Dv.mv rfl trivial rfl ?_
  refine Dv.bin rfl trivial rfl rfl (fun _ => run_eq) ?_
  refine Dv.mv rfl trivial rfl ?_
  cases c449 : ((a1.size : Int) == 0)
  · replace H := Gets.cf H c449
    refine Dv.mv rfl ⟨_, _, rfl, rfl, rfl⟩ rfl ?_
    refine Dv.mv rfl ⟨_, _, rfl, rfl, rfl⟩ rfl ?_
    refine Dv.bin rfl ⟨_, _, rfl, rfl, rfl⟩ rfl rfl (fun _ => run_seq) ?_
    refine Dv.pickF rfl trivial rfl rfl ?_
    refine Dv.asg rfl trivial rfl ?_
    refine .fin ?_
    refine WP.cond rfl (fun c451 => ?_) (fun c451 => ?_)
    · replace H := Gets.ct H c451
      refine WP.seq ?_
      refine WP.reg [(0, false)] (by kernel_rfl) ?_
      refine Dv.asg rfl trivial rfl ?_
      refine .fin ?_
      obtain rfl := Gets.out H
      exact WP.retL (fun _ _ h => h) rfl () trivial (.cons (res_tmp rfl) .nil) rfl (st_sel (L := []) (F := F) [] 0 rfl rfl rfl)
    · replace H := Gets.cf H c451
      refine WP.seq ?_
      refine WP.reg [(0, false), (1, false), (2, false)] (by kernel_rfl) ?_
      refine Dv.mv rfl trivial rfl ?_
      refine Dv.bin rfl trivial rfl rfl (fun _ => run_eq) ?_
      refine Dv.asg rfl trivial rfl ?_
      refine .fin ?_
      refine WP.cond rfl (fun c452 => ?_) (fun c452 => ?_)
      · replace H := Gets.ct H c452
        refine WP.seq ?_
        refine WP.reg [(0, false), (1, false), (2, false), (3, false), (4, false)] (by kernel_rfl) ?_
        refine Dv.mv rfl trivial rfl ?_
        refine Dv.mv rfl trivial rfl ?_
        obtain ⟨g453, H⟩ := Gets.grd H
        refine Dv.ixs rfl trivial rfl rfl Try.underlying9 g453.1 g453.2 ?_
        obtain ⟨t454, h455, H⟩ := Gets.call H
        refine Dv.call rfl trivial cal102 rfl (stringslite_IndexByte.c h455) ?_
        refine Dv.asg rfl trivial rfl ?_
        refine .fin ?_
        obtain rfl := Gets.out H
        exact WP.retL (fun _ _ h => h) rfl () trivial (.cons (res_tmp rfl) .nil) rfl (st_sel (L := []) (F := F) [] 0 rfl rfl rfl)
      · replace H := Gets.cf H c452
        refine WP.seq ?_
        refine WP.reg [(0, false), (1, false), (2, false), (3, false), (4, false)] (by kernel_rfl) ?_
        refine Dv.mv rfl trivial rfl ?_
        refine Dv.mv rfl trivial rfl ?_
        refine Dv.lens rfl trivial rfl Try.underlying9 ?_
        refine Dv.bin rfl trivial rfl rfl (fun _ => run_ge) ?_
        refine Dv.asg rfl trivial rfl ?_
        refine .fin ?_
        refine WP.cond rfl (fun c456 => ?_) (fun c456 => ?_)
        · replace H := Gets.ct H c456
          refine WP.seq ?_
          refine WP.reg [(0, false)] (by kernel_rfl) ?_
          refine Dv.asg rfl trivial rfl ?_
          refine .fin ?_
          obtain rfl := Gets.out H
          exact WP.retL (fun _ _ h => h) rfl () trivial (.cons (res_tmp rfl) .nil) rfl (st_sel (L := []) (F := F) [] 0 rfl rfl rfl)
        · replace H := Gets.cf H c456
          exact (Gets.no H).elim
  · replace H := Gets.ct H c449
    refine Dv.skip rfl ⟨_, _, rfl, rfl, .inl rfl⟩ ?_
    refine Dv.skip rfl ⟨_, _, rfl, rfl, .inl rfl⟩ ?_
    refine Dv.skip rfl ⟨_, _, rfl, rfl, .inl rfl⟩ ?_
    refine Dv.pickT rfl trivial rfl rfl ?_
    refine Dv.asg rfl trivial rfl ?_
    refine .fin ?_
    refine WP.cond rfl (fun _ => ?_) nofun
    refine WP.seq ?_
    refine WP.reg [(0, false)] (by kernel_rfl) ?_
    refine Dv.asg rfl trivial rfl ?_
    refine .fin ?_
    obtain rfl := Gets.out H
    exact WP.retL (fun _ _ h => h) rfl () trivial (.cons (res_tmp rfl) .nil) rfl (st_sel (L := []) (F := F) [] 0 rfl rfl rfl)
theorem stringslite_Cut.c {a0 : ByteArray} {a1 : ByteArray} {r : ByteArray × ByteArray × Bool} (h : stringslite_Cut.f a0 a1 = some r) : Pt Try.prog 96 [eq (.string a0), eq (.string a1)] (tup [eq (.string r.1), eq (.string r.2.1), eq (.bool r.2.2)]) := by
  unfold stringslite_Cut.f at h
  refine (Tr.body Try.func96 (c := _) rfl Try.ntmps96 (Nat.le_of_ble_eq_true rfl) fun R0 F => ?_).pt
  replace h := Gets.of h
  have H := h
  clear h
  refine WP.seq ?_
  refine WP.reg [(0, false), (1, false), (2, false)] (by kernel_rfl) ?_
  refine Dv.asg rfl trivial rfl ?_
  refine Dv.asg rfl trivial rfl ?_
  refine Dv.asg rfl trivial rfl ?_
  refine .fin ?_
  refine WP.seq ?_
  refine WP.seq ?_
  refine WP.reg [(0, false), (1, false), (2, false), (3, false)] (by kernel_rfl) ?_
  refine Dv.mv rfl trivial rfl ?_
  refine Dv.mv rfl trivial rfl ?_
  obtain ⟨t457, h458, H⟩ := Gets.call H
  refine Dv.call rfl trivial cal101 rfl (stringslite_Index.c h458) ?_
  refine Dv.asg rfl trivial rfl ?_
  refine .fin ?_
  refine WP.seq ?_
  refine WP.reg [(0, false), (1, false)] (by kernel_rfl) ?_
  refine Dv.mv rfl trivial rfl ?_
  refine Dv.bin rfl trivial rfl rfl (fun _ => run_ge) ?_
  refine .fin ?_
  refine WP.cond rfl (fun c459 => ?_) (fun c459 => ?_)
  · replace H := Gets.ct H c459
    refine WP.seq ?_
    refine WP.dreg Try.checked.mixed [(0, false), (1, false), (2, false), (3, false), (4, false), (5, false), (6, false), (7, false), (8, false), (9, false), (10, false), (11, false)] (by kernel_rfl) ?_
    refine Dv.mv rfl trivial rfl ?_
    refine Dv.mv rfl trivial rfl ?_
    obtain ⟨g460, H⟩ := Gets.grd H
    refine Dv.sss rfl trivial rfl Try.underlying9 bdE_none (bdE_some rfl g460.1) g460.2.1 g460.2.2 ?_
    refine Dv.mv rfl trivial rfl ?_
    refine Dv.mv rfl trivial rfl ?_
    refine Dv.mv rfl trivial rfl ?_
    refine Dv.lens rfl trivial rfl Try.underlying9 ?_
    refine Dv.bin rfl trivial rfl rfl (fun _ => run_add) ?_
    obtain ⟨g461, H⟩ := Gets.grd H
    refine Dv.sss rfl trivial rfl Try.underlying9 (bdE_some rfl g461.1) bdE_none g461.2.1 g461.2.2 ?_
    refine Dv.asg rfl trivial rfl ?_
    refine Dv.asg rfl trivial rfl ?_
    refine Dv.asg rfl trivial rfl ?_
    refine .fin ?_
    obtain rfl := Gets.out H
    exact WP.retL (fun _ _ h => h) rfl () trivial (.cons (res_tmp rfl) (.cons (res_tmp rfl) (.cons (res_tmp rfl) .nil))) rfl (st_sel (L := []) (F := F) [] 0 rfl rfl rfl)
  · replace H := Gets.cf H c459
    refine WP.skip ?_
    refine WP.seq ?_
    refine WP.reg [(0, false), (1, false), (2, false), (3, false)] (by kernel_rfl) ?_
    refine Dv.mv rfl trivial rfl ?_
    refine Dv.asg rfl trivial rfl ?_
    refine Dv.asg rfl trivial rfl ?_
    refine Dv.asg rfl trivial rfl ?_
    refine .fin ?_
    obtain rfl := Gets.out H
    exact WP.retL (fun _ _ h => h) rfl () trivial (.cons (res_tmp rfl) (.cons (res_tmp rfl) (.cons (res_tmp rfl) .nil))) rfl (st_sel (L := []) (F := F) [] 0 rfl rfl rfl)
theorem strings_Cut.c {a0 : ByteArray} {a1 : ByteArray} {r : ByteArray × ByteArray × Bool} (h : strings_Cut.f a0 a1 = some r) : Pt Try.prog 92 [eq (.string a0), eq (.string a1)] (tup [eq (.string r.1), eq (.string r.2.1), eq (.bool r.2.2)]) := by
  unfold strings_Cut.f at h
  refine (Tr.body Try.func92 (c := _) rfl Try.ntmps92 (Nat.le_of_ble_eq_true rfl) fun R0 F => ?_).pt
  replace h := Gets.of h
  have H := h
  clear h
  refine WP.seq ?_
  refine WP.reg [(0, false), (1, false), (2, false)] (by kernel_rfl) ?_
  refine Dv.asg rfl trivial rfl ?_
  refine Dv.asg rfl trivial rfl ?_
  refine Dv.asg rfl trivial rfl ?_
  refine .fin ?_
  refine WP.seq ?_
  refine WP.reg [(0, false), (1, false), (2, false), (3, false), (4, false), (5, false), (6, false), (7, false), (8, false)] (by kernel_rfl) ?_
  refine Dv.mv rfl trivial rfl ?_
  refine Dv.mv rfl trivial rfl ?_
  obtain ⟨t462, h463, H⟩ := Gets.call H
  refine Dv.call rfl trivial cal96 rfl (stringslite_Cut.c h463) ?_
  refine Dv.ext rfl trivial rfl rfl ?_
  refine Dv.ext rfl trivial rfl rfl ?_
  refine Dv.ext rfl trivial rfl rfl ?_
  refine Dv.asg rfl trivial rfl ?_
  refine Dv.asg rfl trivial rfl ?_
  refine Dv.asg rfl trivial rfl ?_
  refine .fin ?_
  obtain rfl := Gets.out H
  exact WP.retL (fun _ _ h => h) rfl () trivial (.cons (res_tmp rfl) (.cons (res_tmp rfl) (.cons (res_tmp rfl) .nil))) rfl (st_sel (L := []) (F := F) [] 0 rfl rfl rfl)
theorem name_Server.c {k : Nat} {a0 : ByteArray} {r : Bool} (h : name_Server.f k a0 = some r) : Pt Try.prog 93 [eq (.string a0)] (eq (.bool r)) := by
  unfold name_Server.f at h
  refine (Tr.body Try.func93 (c := _) rfl Try.ntmps93 (Nat.le_of_ble_eq_true rfl) fun R0 F => ?_).pt
  replace h := Gets.of h
  have H := h
  clear h
  refine WP.seq ?_
  refine WP.reg [(0, false)] (by kernel_rfl) ?_
  refine Dv.asg rfl trivial rfl ?_
  refine .fin ?_
  refine WP.seq ?_
  refine WP.reg [(0, false), (1, false), (2, false), (3, false), (4, false), (5, false), (6, false), (7, false), (8, false), (9, false), (10, false), (11, false), (12, false), (13, false), (14, false), (15, false)] (by kernel_rfl) ?_
  refine Dv.mv rfl trivial rfl ?_
  obtain ⟨t464, h465, H⟩ := Gets.call H
  refine Dv.call rfl trivial cal91 rfl (name_may.c h465) ?_
  refine Dv.mv rfl trivial rfl ?_
  cases c466 : t464
  · replace H := Gets.cf H c466
    refine Dv.skip rfl ⟨_, _, rfl, rfl, .inl rfl⟩ ?_
    refine Dv.skip rfl ⟨_, _, rfl, rfl, .inl rfl⟩ ?_
    refine Dv.skip rfl ⟨_, _, rfl, rfl, .inl rfl⟩ ?_
    refine Dv.pickF rfl trivial rfl rfl ?_
    refine Dv.mv rfl trivial rfl ?_
    refine Dv.skip rfl ⟨_, _, rfl, rfl, .inl rfl⟩ ?_
    refine Dv.skip rfl ⟨_, _, rfl, rfl, .inl rfl⟩ ?_
    refine Dv.skip rfl ⟨_, _, rfl, rfl, .inl rfl⟩ ?_
    refine Dv.skip rfl ⟨_, _, rfl, rfl, .inl rfl⟩ ?_
    refine Dv.skip rfl ⟨_, _, rfl, rfl, .inl rfl⟩ ?_
    refine Dv.skip rfl ⟨_, _, rfl, rfl, .inl rfl⟩ ?_
    refine Dv.pickF rfl trivial rfl rfl ?_
    refine Dv.asg rfl trivial rfl ?_
    refine .fin ?_
    obtain rfl := Gets.out H
    exact WP.retL (fun _ _ h => h) rfl () trivial (.cons (res_tmp rfl) .nil) rfl (st_sel (L := []) (F := F) [] 0 rfl rfl rfl)
  · replace H := Gets.ct H c466
    refine Dv.mv rfl ⟨_, _, rfl, rfl, rfl⟩ rfl ?_
    obtain ⟨g467, H⟩ := Gets.grd H
    refine Dv.ixs rfl ⟨_, _, rfl, rfl, rfl⟩ rfl rfl Try.underlying9 g467.1 g467.2 ?_
    obtain ⟨t468, h469, H⟩ := Gets.call H
    refine Dv.call rfl ⟨_, _, rfl, rfl, rfl⟩ cal97 rfl (name_small.c h469) ?_
    refine Dv.pickT rfl trivial rfl rfl ?_
    refine Dv.mv rfl trivial rfl ?_
    cases c470 : t468
    · replace H := Gets.cf H c470
      refine Dv.skip rfl ⟨_, _, rfl, rfl, .inl rfl⟩ ?_
      refine Dv.skip rfl ⟨_, _, rfl, rfl, .inl rfl⟩ ?_
      refine Dv.skip rfl ⟨_, _, rfl, rfl, .inl rfl⟩ ?_
      refine Dv.skip rfl ⟨_, _, rfl, rfl, .inl rfl⟩ ?_
      refine Dv.skip rfl ⟨_, _, rfl, rfl, .inl rfl⟩ ?_
      refine Dv.skip rfl ⟨_, _, rfl, rfl, .inl rfl⟩ ?_
      refine Dv.pickF rfl trivial rfl rfl ?_
      refine Dv.asg rfl trivial rfl ?_
      refine .fin ?_
      obtain rfl := Gets.out H
      exact WP.retL (fun _ _ h => h) rfl () trivial (.cons (res_tmp rfl) .nil) rfl (st_sel (L := []) (F := F) [] 0 rfl rfl rfl)
    · replace H := Gets.ct H c470
      refine Dv.mv rfl ⟨_, _, rfl, rfl, rfl⟩ rfl ?_
      refine Dv.mv rfl ⟨_, _, rfl, rfl, rfl⟩ rfl ?_
      refine Dv.lens rfl ⟨_, _, rfl, rfl, rfl⟩ rfl Try.underlying9 ?_
      refine Dv.bin rfl ⟨_, _, rfl, rfl, rfl⟩ rfl rfl (fun _ => run_sub) ?_
      obtain ⟨g471, H⟩ := Gets.grd H
      refine Dv.ixs rfl ⟨_, _, rfl, rfl, rfl⟩ rfl rfl Try.underlying9 g471.1 g471.2 ?_
      obtain ⟨t472, h473, H⟩ := Gets.call H
      refine Dv.call rfl ⟨_, _, rfl, rfl, rfl⟩ cal97 rfl (name_small.c h473) ?_
      refine Dv.pickT rfl trivial rfl rfl ?_
      refine Dv.asg rfl trivial rfl ?_
      refine .fin ?_
      obtain rfl := Gets.out H
      exact WP.retL (fun _ _ h => h) rfl () trivial (.cons (res_tmp rfl) .nil) rfl (st_sel (L := []) (F := F) [] 0 rfl rfl rfl)
theorem name_split.c {k : Nat} {a0 : ByteArray} {a1 : ByteArray} {r : ByteArray × ByteArray × Bool} (h : name_split.f k a0 a1 = some r) : Pt Try.prog 83 [eq (.string a0), eq (.string a1)] (tup [eq (.string r.1), eq (.string r.2.1), eq (.bool r.2.2)]) := by
  unfold name_split.f at h
  refine (Tr.body Try.func83 (c := _) rfl Try.ntmps83 (Nat.le_of_ble_eq_true rfl) fun R0 F => ?_).pt
  replace h := Gets.of h
  have H := h
  clear h
  refine WP.seq ?_
  refine WP.reg [(0, false), (1, false), (2, false)] (by kernel_rfl) ?_
  refine Dv.asg rfl trivial rfl ?_
  refine Dv.asg rfl trivial rfl ?_
  refine Dv.asg rfl trivial rfl ?_
  refine .fin ?_
  refine WP.seq ?_
  refine WP.reg [(0, false), (1, false), (2, false), (3, false), (4, false), (5, false), (6, false), (7, false)] (by kernel_rfl) ?_
  refine Dv.mv rfl trivial rfl ?_
  refine Dv.mv rfl trivial rfl ?_
  obtain ⟨t474, h475, H⟩ := Gets.call H
  refine Dv.call rfl trivial cal90 rfl (strings_CutPrefix.c h475) ?_
  refine Dv.mv rfl trivial rfl ?_
  refine Dv.ext rfl trivial rfl rfl ?_
  refine Dv.ext rfl trivial rfl rfl ?_
  refine Dv.asg rfl trivial rfl ?_
  refine Dv.asg rfl trivial rfl ?_
  refine .fin ?_
  refine WP.seq ?_
  refine WP.reg [(0, false), (1, false), (2, false), (3, false), (4, false), (5, false), (6, false), (7, false), (8, false)] (by kernel_rfl) ?_
  refine Dv.mv rfl trivial rfl ?_
  obtain ⟨t476, h477, H⟩ := Gets.call H
  refine Dv.call rfl trivial cal92 rfl (strings_Cut.c h477) ?_
  refine Dv.mv rfl trivial rfl ?_
  refine Dv.ext rfl trivial rfl rfl ?_
  refine Dv.ext rfl trivial rfl rfl ?_
  refine Dv.ext rfl trivial rfl rfl ?_
  refine Dv.asg rfl trivial rfl ?_
  refine Dv.asg rfl trivial rfl ?_
  refine Dv.asg rfl trivial rfl ?_
  refine .fin ?_
  refine WP.seq ?_
  refine WP.reg [(0, false), (1, false), (2, false), (3, false), (4, false), (5, false), (6, false), (7, false), (8, false), (9, false), (10, false), (11, false), (12, false), (13, false), (14, false), (15, false), (16, false)] (by kernel_rfl) ?_
  refine Dv.mv rfl trivial rfl ?_
  refine Dv.mv rfl trivial rfl ?_
  refine Dv.mv rfl trivial rfl ?_
  refine Dv.mv rfl trivial rfl ?_
  cases c478 : t474.2
  · replace H := Gets.cf H c478
    refine Dv.skip rfl ⟨_, _, rfl, rfl, .inl rfl⟩ ?_
    refine Dv.pickF rfl trivial rfl rfl ?_
    refine Dv.mv rfl trivial rfl ?_
    refine Dv.skip rfl ⟨_, _, rfl, rfl, .inl rfl⟩ ?_
    refine Dv.skip rfl ⟨_, _, rfl, rfl, .inl rfl⟩ ?_
    refine Dv.pickF rfl trivial rfl rfl ?_
    refine Dv.mv rfl trivial rfl ?_
    refine Dv.skip rfl ⟨_, _, rfl, rfl, .inl rfl⟩ ?_
    refine Dv.skip rfl ⟨_, _, rfl, rfl, .inl rfl⟩ ?_
    refine Dv.pickF rfl trivial rfl rfl ?_
    refine Dv.asg rfl trivial rfl ?_
    refine Dv.asg rfl trivial rfl ?_
    refine Dv.asg rfl trivial rfl ?_
    refine .fin ?_
    obtain rfl := Gets.out H
    exact WP.retL (fun _ _ h => h) rfl () trivial (.cons (res_tmp rfl) (.cons (res_tmp rfl) (.cons (res_tmp rfl) .nil))) rfl (st_sel (L := []) (F := F) [] 0 rfl rfl rfl)
  · replace H := Gets.ct H c478
    refine Dv.mv rfl ⟨_, _, rfl, rfl, rfl⟩ rfl ?_
    refine Dv.pickT rfl trivial rfl rfl ?_
    refine Dv.mv rfl trivial rfl ?_
    cases c479 : t476.2.2
    · replace H := Gets.cf H c479
      refine Dv.skip rfl ⟨_, _, rfl, rfl, .inl rfl⟩ ?_
      refine Dv.skip rfl ⟨_, _, rfl, rfl, .inl rfl⟩ ?_
      refine Dv.pickF rfl trivial rfl rfl ?_
      refine Dv.mv rfl trivial rfl ?_
      refine Dv.skip rfl ⟨_, _, rfl, rfl, .inl rfl⟩ ?_
      refine Dv.skip rfl ⟨_, _, rfl, rfl, .inl rfl⟩ ?_
      refine Dv.pickF rfl trivial rfl rfl ?_
      refine Dv.asg rfl trivial rfl ?_
      refine Dv.asg rfl trivial rfl ?_
      refine Dv.asg rfl trivial rfl ?_
      refine .fin ?_
      obtain rfl := Gets.out H
      exact WP.retL (fun _ _ h => h) rfl () trivial (.cons (res_tmp rfl) (.cons (res_tmp rfl) (.cons (res_tmp rfl) .nil))) rfl (st_sel (L := []) (F := F) [] 0 rfl rfl rfl)
    · replace H := Gets.ct H c479
      refine Dv.mv rfl ⟨_, _, rfl, rfl, rfl⟩ rfl ?_
      obtain ⟨t480, h481, H⟩ := Gets.call H
      refine Dv.call rfl ⟨_, _, rfl, rfl, rfl⟩ cal91 rfl (name_may.c h481) ?_
      refine Dv.pickT rfl trivial rfl rfl ?_
      refine Dv.mv rfl trivial rfl ?_
      cases c482 : t480
      · replace H := Gets.cf H c482
        refine Dv.skip rfl ⟨_, _, rfl, rfl, .inl rfl⟩ ?_
        refine Dv.skip rfl ⟨_, _, rfl, rfl, .inl rfl⟩ ?_
        refine Dv.pickF rfl trivial rfl rfl ?_
        refine Dv.asg rfl trivial rfl ?_
        refine Dv.asg rfl trivial rfl ?_
        refine Dv.asg rfl trivial rfl ?_
        refine .fin ?_
        obtain rfl := Gets.out H
        exact WP.retL (fun _ _ h => h) rfl () trivial (.cons (res_tmp rfl) (.cons (res_tmp rfl) (.cons (res_tmp rfl) .nil))) rfl (st_sel (L := []) (F := F) [] 0 rfl rfl rfl)
      · replace H := Gets.ct H c482
        refine Dv.mv rfl ⟨_, _, rfl, rfl, rfl⟩ rfl ?_
        obtain ⟨t483, h484, H⟩ := Gets.call H
        refine Dv.call rfl ⟨_, _, rfl, rfl, rfl⟩ cal93 rfl (name_Server.c h484) ?_
        refine Dv.pickT rfl trivial rfl rfl ?_
        refine Dv.asg rfl trivial rfl ?_
        refine Dv.asg rfl trivial rfl ?_
        refine Dv.asg rfl trivial rfl ?_
        refine .fin ?_
        obtain rfl := Gets.out H
        exact WP.retL (fun _ _ h => h) rfl () trivial (.cons (res_tmp rfl) (.cons (res_tmp rfl) (.cons (res_tmp rfl) .nil))) rfl (st_sel (L := []) (F := F) [] 0 rfl rfl rfl)
theorem name_Room.c {k : Nat} {a0 : ByteArray} {r : Bool} (h : name_Room.f k a0 = some r) : Pt Try.prog 78 [eq (.string a0)] (eq (.bool r)) := by
  unfold name_Room.f at h
  refine (Tr.body Try.func78 (c := _) rfl Try.ntmps78 (Nat.le_of_ble_eq_true rfl) fun R0 F => ?_).pt
  replace h := Gets.of h
  have H := h
  clear h
  refine WP.seq ?_
  refine WP.reg [(0, false)] (by kernel_rfl) ?_
  refine Dv.asg rfl trivial rfl ?_
  refine .fin ?_
  refine WP.seq ?_
  refine WP.reg [(0, false), (1, false), (2, false), (3, false), (4, false), (5, false), (6, false), (7, false), (8, false)] (by kernel_rfl) ?_
  refine Dv.mv rfl trivial rfl ?_
  obtain ⟨t485, h486, H⟩ := Gets.call H
  refine Dv.call rfl trivial cal83 rfl (name_split.c h486) ?_
  refine Dv.mv rfl trivial rfl ?_
  refine Dv.ext rfl trivial rfl rfl ?_
  refine Dv.ext rfl trivial rfl rfl ?_
  refine Dv.ext rfl trivial rfl rfl ?_
  refine Dv.asg rfl trivial rfl ?_
  refine Dv.asg rfl trivial rfl ?_
  refine Dv.asg rfl trivial rfl ?_
  refine .fin ?_
  refine WP.seq ?_
  refine WP.reg [(0, false), (1, false)] (by kernel_rfl) ?_
  refine Dv.mv rfl trivial rfl ?_
  refine Dv.asg rfl trivial rfl ?_
  refine .fin ?_
  obtain rfl := Gets.out H
  exact WP.retL (fun _ _ h => h) rfl () trivial (.cons (res_tmp rfl) .nil) rfl (st_sel (L := []) (F := F) [] 0 rfl rfl rfl)
theorem name_Event.c {k : Nat} {a0 : ByteArray} {r : Bool} (h : name_Event.f k a0 = some r) : Pt Try.prog 79 [eq (.string a0)] (eq (.bool r)) := by
  unfold name_Event.f at h
  refine (Tr.body Try.func79 (c := _) rfl Try.ntmps79 (Nat.le_of_ble_eq_true rfl) fun R0 F => ?_).pt
  replace h := Gets.of h
  have H := h
  clear h
  refine WP.seq ?_
  refine WP.reg [(0, false)] (by kernel_rfl) ?_
  refine Dv.asg rfl trivial rfl ?_
  refine .fin ?_
  refine WP.seq ?_
  refine WP.reg [(0, false), (1, false), (2, false), (3, false), (4, false), (5, false), (6, false)] (by kernel_rfl) ?_
  refine Dv.mv rfl trivial rfl ?_
  obtain ⟨t487, h488, H⟩ := Gets.call H
  refine Dv.call rfl trivial cal90 rfl (strings_CutPrefix.c h488) ?_
  refine Dv.mv rfl trivial rfl ?_
  refine Dv.ext rfl trivial rfl rfl ?_
  refine Dv.ext rfl trivial rfl rfl ?_
  refine Dv.asg rfl trivial rfl ?_
  refine Dv.asg rfl trivial rfl ?_
  refine .fin ?_
  refine WP.seq ?_
  refine WP.reg [(0, false), (1, false), (2, false), (3, false), (4, false), (5, false)] (by kernel_rfl) ?_
  refine Dv.mv rfl trivial rfl ?_
  refine Dv.mv rfl trivial rfl ?_
  cases c489 : t487.2
  · replace H := Gets.cf H c489
    refine Dv.skip rfl ⟨_, _, rfl, rfl, .inl rfl⟩ ?_
    refine Dv.skip rfl ⟨_, _, rfl, rfl, .inl rfl⟩ ?_
    refine Dv.pickF rfl trivial rfl rfl ?_
    refine Dv.asg rfl trivial rfl ?_
    refine .fin ?_
    obtain rfl := Gets.out H
    exact WP.retL (fun _ _ h => h) rfl () trivial (.cons (res_tmp rfl) .nil) rfl (st_sel (L := []) (F := F) [] 0 rfl rfl rfl)
  · replace H := Gets.ct H c489
    refine Dv.mv rfl ⟨_, _, rfl, rfl, rfl⟩ rfl ?_
    obtain ⟨t490, h491, H⟩ := Gets.call H
    refine Dv.call rfl ⟨_, _, rfl, rfl, rfl⟩ cal91 rfl (name_may.c h491) ?_
    refine Dv.pickT rfl trivial rfl rfl ?_
    refine Dv.asg rfl trivial rfl ?_
    refine .fin ?_
    obtain rfl := Gets.out H
    exact WP.retL (fun _ _ h => h) rfl () trivial (.cons (res_tmp rfl) .nil) rfl (st_sel (L := []) (F := F) [] 0 rfl rfl rfl)
theorem name_Thread.c {k : Nat} {a0 : ByteArray} {r : Bool} (h : name_Thread.f k a0 = some r) : Pt Try.prog 80 [eq (.string a0)] (eq (.bool r)) := by
  unfold name_Thread.f at h
  refine (Tr.body Try.func80 (c := _) rfl Try.ntmps80 (Nat.le_of_ble_eq_true rfl) fun R0 F => ?_).pt
  replace h := Gets.of h
  have H := h
  clear h
  refine WP.seq ?_
  refine WP.reg [(0, false)] (by kernel_rfl) ?_
  refine Dv.asg rfl trivial rfl ?_
  refine .fin ?_
  refine WP.seq ?_
  refine WP.reg [(0, false), (1, false), (2, false), (3, false), (4, false), (5, false), (6, false), (7, false), (8, false), (9, false), (10, false)] (by kernel_rfl) ?_
  refine Dv.mv rfl trivial rfl ?_
  refine Dv.bin rfl trivial rfl rfl (fun _ => run_seq) ?_
  refine Dv.mv rfl trivial rfl ?_
  cases c492 : decide (a0 = (⟨#[]⟩ : ByteArray))
  · replace H := Gets.cf H c492
    refine Dv.mv rfl ⟨_, _, rfl, rfl, rfl⟩ rfl ?_
    refine Dv.bin rfl ⟨_, _, rfl, rfl, rfl⟩ rfl rfl (fun _ => run_seq) ?_
    refine Dv.pickF rfl trivial rfl rfl ?_
    refine Dv.mv rfl trivial rfl ?_
    cases c493 : decide (a0 = (⟨#[109, 97, 105, 110]⟩ : ByteArray))
    · replace H := Gets.cf H c493
      refine Dv.mv rfl ⟨_, _, rfl, rfl, rfl⟩ rfl ?_
      obtain ⟨t494, h495, H⟩ := Gets.call H
      refine Dv.call rfl ⟨_, _, rfl, rfl, rfl⟩ cal79 rfl (name_Event.c h495) ?_
      refine Dv.pickF rfl trivial rfl rfl ?_
      refine Dv.asg rfl trivial rfl ?_
      refine .fin ?_
      obtain rfl := Gets.out H
      exact WP.retL (fun _ _ h => h) rfl () trivial (.cons (res_tmp rfl) .nil) rfl (st_sel (L := []) (F := F) [] 0 rfl rfl rfl)
    · replace H := Gets.ct H c493
      refine Dv.skip rfl ⟨_, _, rfl, rfl, .inl rfl⟩ ?_
      refine Dv.skip rfl ⟨_, _, rfl, rfl, .inl rfl⟩ ?_
      refine Dv.pickT rfl trivial rfl rfl ?_
      refine Dv.asg rfl trivial rfl ?_
      refine .fin ?_
      obtain rfl := Gets.out H
      exact WP.retL (fun _ _ h => h) rfl () trivial (.cons (res_tmp rfl) .nil) rfl (st_sel (L := []) (F := F) [] 0 rfl rfl rfl)
  · replace H := Gets.ct H c492
    refine Dv.skip rfl ⟨_, _, rfl, rfl, .inl rfl⟩ ?_
    refine Dv.skip rfl ⟨_, _, rfl, rfl, .inl rfl⟩ ?_
    refine Dv.pickT rfl trivial rfl rfl ?_
    refine Dv.mv rfl trivial rfl ?_
    refine Dv.skip rfl ⟨_, _, rfl, rfl, .inl rfl⟩ ?_
    refine Dv.skip rfl ⟨_, _, rfl, rfl, .inl rfl⟩ ?_
    refine Dv.pickT rfl trivial rfl rfl ?_
    refine Dv.asg rfl trivial rfl ?_
    refine .fin ?_
    obtain rfl := Gets.out H
    exact WP.retL (fun _ _ h => h) rfl () trivial (.cons (res_tmp rfl) .nil) rfl (st_sel (L := []) (F := F) [] 0 rfl rfl rfl)
theorem edu_asks_3.c {k : Nat} {a0 : Edu} {r : Bool} (h : edu_asks_3.f k a0 = some r) : Pt Try.prog 77 [agg (Edu.enc a0)] (eq (.bool r)) := by
  unfold edu_asks_3.f at h
  refine (Tr.body Try.func77 (c := _) rfl Try.ntmps77 (Nat.le_of_ble_eq_true rfl) fun R0 F => ?_).pt
  replace h := Gets.of h
  have H := h
  clear h
  refine WP.seq ?_
  refine WP.reg [(0, true), (1, false)] (by kernel_rfl) ?_
  refine Dv.box rfl trivial rfl (cells_agg (Edu.K.one _)) nofun (fun b496 => ?_)
  refine Dv.asg rfl trivial rfl ?_
  refine .fin ?_
  refine WP.seq ?_
  refine WP.reg [(0, false), (1, false), (2, false), (3, false), (4, false), (5, false), (6, false), (7, false), (8, false), (9, false), (10, false), (11, false), (12, false), (13, false)] (by kernel_rfl) ?_
  refine Dv.fab rfl trivial rfl Try.underlying32 rfl Try.underlying9 c9 (by decide) ?_
  refine Dv.ldb rfl trivial rfl Try.underlying9 rfl (mem_at 0 rfl) rfl ?_
  obtain ⟨t497, h498, H⟩ := Gets.call H
  refine Dv.call rfl trivial cal78 rfl (name_Room.c h498) ?_
  refine Dv.mv rfl trivial rfl ?_
  cases c499 : t497
  · replace H := Gets.cf H c499
    refine Dv.skip rfl ⟨_, _, rfl, rfl, .inl rfl⟩ ?_
    refine Dv.skip rfl ⟨_, _, rfl, rfl, .inl rfl⟩ ?_
    refine Dv.skip rfl ⟨_, _, rfl, rfl, .inl rfl⟩ ?_
    refine Dv.pickF rfl trivial rfl rfl ?_
    refine Dv.mv rfl trivial rfl ?_
    refine Dv.skip rfl ⟨_, _, rfl, rfl, .inl rfl⟩ ?_
    refine Dv.skip rfl ⟨_, _, rfl, rfl, .inl rfl⟩ ?_
    refine Dv.skip rfl ⟨_, _, rfl, rfl, .inl rfl⟩ ?_
    refine Dv.pickF rfl trivial rfl rfl ?_
    refine Dv.asg rfl trivial rfl ?_
    refine .fin ?_
    obtain rfl := Gets.out H
    exact WP.retL (fun _ _ h => h) rfl () trivial (.cons (res_tmp rfl) .nil) rfl (st_sel (L := [blk b496 32 [eq (.int .i64 a0.fKind), eq (.string a0.fRoom), eq (.string a0.fUser), eq (.string a0.fEvent), eq (.string a0.fThread), eq (.bool a0.fPrivate), eq (.bool a0.fOn), eq (.int .i64 a0.fSpan), eq (.int .i64 a0.fState), eq (.int .i64 a0.fTick), eq (.int .i64 a0.fStamp)]]) (F := F) [0] 1 rfl rfl rfl)
  · replace H := Gets.ct H c499
    refine Dv.fab rfl ⟨_, _, rfl, rfl, rfl⟩ rfl Try.underlying32 rfl Try.underlying9 c9 (by decide) ?_
    refine Dv.ldb rfl ⟨_, _, rfl, rfl, rfl⟩ rfl Try.underlying9 rfl (mem_at 0 rfl) rfl ?_
    obtain ⟨t500, h501, H⟩ := Gets.call H
    refine Dv.call rfl ⟨_, _, rfl, rfl, rfl⟩ cal79 rfl (name_Event.c h501) ?_
    refine Dv.pickT rfl trivial rfl rfl ?_
    refine Dv.mv rfl trivial rfl ?_
    cases c502 : t500
    · replace H := Gets.cf H c502
      refine Dv.skip rfl ⟨_, _, rfl, rfl, .inl rfl⟩ ?_
      refine Dv.skip rfl ⟨_, _, rfl, rfl, .inl rfl⟩ ?_
      refine Dv.skip rfl ⟨_, _, rfl, rfl, .inl rfl⟩ ?_
      refine Dv.pickF rfl trivial rfl rfl ?_
      refine Dv.asg rfl trivial rfl ?_
      refine .fin ?_
      obtain rfl := Gets.out H
      exact WP.retL (fun _ _ h => h) rfl () trivial (.cons (res_tmp rfl) .nil) rfl (st_sel (L := [blk b496 32 [eq (.int .i64 a0.fKind), eq (.string a0.fRoom), eq (.string a0.fUser), eq (.string a0.fEvent), eq (.string a0.fThread), eq (.bool a0.fPrivate), eq (.bool a0.fOn), eq (.int .i64 a0.fSpan), eq (.int .i64 a0.fState), eq (.int .i64 a0.fTick), eq (.int .i64 a0.fStamp)]]) (F := F) [0] 1 rfl rfl rfl)
    · replace H := Gets.ct H c502
      refine Dv.fab rfl ⟨_, _, rfl, rfl, rfl⟩ rfl Try.underlying32 rfl Try.underlying9 c9 (by decide) ?_
      refine Dv.ldb rfl ⟨_, _, rfl, rfl, rfl⟩ rfl Try.underlying9 rfl (mem_at 0 rfl) rfl ?_
      obtain ⟨t503, h504, H⟩ := Gets.call H
      refine Dv.call rfl ⟨_, _, rfl, rfl, rfl⟩ cal80 rfl (name_Thread.c h504) ?_
      refine Dv.pickT rfl trivial rfl rfl ?_
      refine Dv.asg rfl trivial rfl ?_
      refine .fin ?_
      obtain rfl := Gets.out H
      exact WP.retL (fun _ _ h => h) rfl () trivial (.cons (res_tmp rfl) .nil) rfl (st_sel (L := [blk b496 32 [eq (.int .i64 a0.fKind), eq (.string a0.fRoom), eq (.string a0.fUser), eq (.string a0.fEvent), eq (.string a0.fThread), eq (.bool a0.fPrivate), eq (.bool a0.fOn), eq (.int .i64 a0.fSpan), eq (.int .i64 a0.fState), eq (.int .i64 a0.fTick), eq (.int .i64 a0.fStamp)]]) (F := F) [0] 1 rfl rfl rfl)
theorem edu_asks_4.c {k : Nat} {a0 : Edu} {c0 : Int → Int → Int → Option Bool} {r : Bool} (h : edu_asks_4.f k a0 c0 = some r) : Pt Try.prog 81 [agg (Edu.enc a0), rp [fq99 c0]] (eq (.bool r)) := by
  unfold edu_asks_4.f at h
  refine (Tr.body Try.func81 (c := _) rfl Try.ntmps81 (Nat.le_of_ble_eq_true rfl) fun R0 F => ?_).pt
  replace h := Gets.of h
  have H := h
  clear h
  refine WP.seq ?_
  refine WP.reg [(0, true), (1, false)] (by kernel_rfl) ?_
  refine Dv.box rfl trivial rfl (cells_agg (Edu.K.one _)) nofun (fun b505 => ?_)
  refine Dv.asg rfl trivial rfl ?_
  refine .fin ?_
  refine WP.seq ?_
  refine WP.reg [(0, false), (1, false), (2, false), (3, false), (4, false), (5, false), (6, false), (7, false), (8, false), (9, false), (10, false), (11, false), (12, false), (13, false), (14, false)] (by kernel_rfl) ?_
  refine Dv.fab rfl trivial rfl Try.underlying32 rfl Try.underlying9 c9 (by decide) ?_
  refine Dv.ldb rfl trivial rfl Try.underlying9 rfl (mem_at 0 rfl) rfl ?_
  obtain ⟨t506, h507, H⟩ := Gets.call H
  refine Dv.call rfl trivial cal78 rfl (name_Room.c h507) ?_
  refine Dv.mv rfl trivial rfl ?_
  cases c508 : t506
  · replace H := Gets.cf H c508
    refine Dv.skip rfl ⟨_, _, rfl, rfl, .inl rfl⟩ ?_
    refine Dv.skip rfl ⟨_, _, rfl, rfl, .inl rfl⟩ ?_
    refine Dv.skip rfl ⟨_, _, rfl, rfl, .inl rfl⟩ ?_
    refine Dv.skip rfl ⟨_, _, rfl, rfl, .inl rfl⟩ ?_
    refine Dv.skip rfl ⟨_, _, rfl, rfl, .inr rfl⟩ ?_
    refine Dv.skip rfl ⟨_, _, rfl, rfl, .inr rfl⟩ ?_
    refine Dv.skip rfl ⟨_, _, rfl, rfl, .inr rfl⟩ ?_
    refine Dv.skip rfl ⟨_, _, rfl, rfl, .inr rfl⟩ ?_
    refine Dv.skip rfl ⟨_, _, rfl, rfl, .inl rfl⟩ ?_
    refine Dv.pickF rfl trivial rfl rfl ?_
    refine Dv.asg rfl trivial rfl ?_
    refine .fin ?_
    obtain rfl := Gets.out H
    exact WP.retL (fun _ _ h => h) rfl () trivial (.cons (res_tmp rfl) .nil) rfl (st_sel (L := [blk b505 32 [eq (.int .i64 a0.fKind), eq (.string a0.fRoom), eq (.string a0.fUser), eq (.string a0.fEvent), eq (.string a0.fThread), eq (.bool a0.fPrivate), eq (.bool a0.fOn), eq (.int .i64 a0.fSpan), eq (.int .i64 a0.fState), eq (.int .i64 a0.fTick), eq (.int .i64 a0.fStamp)]]) (F := F) [0] 1 rfl rfl rfl)
  · replace H := Gets.ct H c508
    refine Dv.fab rfl ⟨_, _, rfl, rfl, rfl⟩ rfl Try.underlying32 rfl Try.underlying4 c4 (by decide) ?_
    refine Dv.ldb rfl ⟨_, _, rfl, rfl, rfl⟩ rfl Try.underlying4 rfl (mem_at 0 rfl) rfl ?_
    refine Dv.un rfl ⟨_, _, rfl, rfl, rfl⟩ rfl (fun _ => run_not _) ?_
    refine Dv.mv rfl ⟨_, _, rfl, rfl, rfl⟩ rfl ?_
    cases c509 : !a0.fOn
    · replace H := Gets.cf H c509
      refine Dv.ldr rfl ⟨_, _, rfl, rfl, rfl⟩ rfl Try.underlying99 rfl rfl ?_
      refine Dv.fab rfl ⟨_, _, rfl, rfl, rfl⟩ rfl Try.underlying32 rfl Try.underlying3 c3 (by decide) ?_
      refine Dv.ldb rfl ⟨_, _, rfl, rfl, rfl⟩ rfl Try.underlying3 rfl (mem_at 0 rfl) rfl ?_
      obtain ⟨t510, h511, H⟩ := Gets.call H
      refine Dv.callq (ret := eq (.bool t510)) rfl ⟨_, _, rfl, rfl, rfl⟩ rfl rfl ⟨_, _, _, _, h511, rfl, rfl⟩ ?_
      refine Dv.pickF rfl ⟨_, _, rfl, rfl, rfl⟩ rfl rfl ?_
      refine Dv.pickT rfl trivial rfl rfl ?_
      refine Dv.asg rfl trivial rfl ?_
      refine .fin ?_
      obtain rfl := Gets.out H
      exact WP.retL (fun _ _ h => h) rfl () trivial (.cons (res_tmp rfl) .nil) rfl (st_sel (L := [blk b505 32 [eq (.int .i64 a0.fKind), eq (.string a0.fRoom), eq (.string a0.fUser), eq (.string a0.fEvent), eq (.string a0.fThread), eq (.bool a0.fPrivate), eq (.bool a0.fOn), eq (.int .i64 a0.fSpan), eq (.int .i64 a0.fState), eq (.int .i64 a0.fTick), eq (.int .i64 a0.fStamp)]]) (F := F) [0] 1 rfl rfl rfl)
    · replace H := Gets.ct H c509
      refine Dv.skip rfl ⟨_, _, rfl, rfl, .inl rfl⟩ ?_
      refine Dv.skip rfl ⟨_, _, rfl, rfl, .inl rfl⟩ ?_
      refine Dv.skip rfl ⟨_, _, rfl, rfl, .inl rfl⟩ ?_
      refine Dv.skip rfl ⟨_, _, rfl, rfl, .inl rfl⟩ ?_
      refine Dv.pickT rfl ⟨_, _, rfl, rfl, rfl⟩ rfl rfl ?_
      refine Dv.pickT rfl trivial rfl rfl ?_
      refine Dv.asg rfl trivial rfl ?_
      refine .fin ?_
      obtain rfl := Gets.out H
      exact WP.retL (fun _ _ h => h) rfl () trivial (.cons (res_tmp rfl) .nil) rfl (st_sel (L := [blk b505 32 [eq (.int .i64 a0.fKind), eq (.string a0.fRoom), eq (.string a0.fUser), eq (.string a0.fEvent), eq (.string a0.fThread), eq (.bool a0.fPrivate), eq (.bool a0.fOn), eq (.int .i64 a0.fSpan), eq (.int .i64 a0.fState), eq (.int .i64 a0.fTick), eq (.int .i64 a0.fStamp)]]) (F := F) [0] 1 rfl rfl rfl)
theorem edu_asks_5.c {a0 : Edu} {c0 : Int → Int → Int → Option Bool} {r : Bool} (h : edu_asks_5.f a0 c0 = some r) : Pt Try.prog 82 [agg (Edu.enc a0), rp [fq99 c0]] (eq (.bool r)) := by
  unfold edu_asks_5.f at h
  refine (Tr.body Try.func82 (c := _) rfl Try.ntmps82 (Nat.le_of_ble_eq_true rfl) fun R0 F => ?_).pt
  replace h := Gets.of h
  have H := h
  clear h
  refine WP.seq ?_
  refine WP.reg [(0, true), (1, false)] (by kernel_rfl) ?_
  refine Dv.box rfl trivial rfl (cells_agg (Edu.K.one _)) nofun (fun b512 => ?_)
  refine Dv.asg rfl trivial rfl ?_
  refine .fin ?_
  refine WP.seq ?_
  refine WP.reg [(0, false), (1, false), (2, false), (3, false), (4, false)] (by kernel_rfl) ?_
  refine Dv.ldr rfl trivial rfl Try.underlying99 rfl rfl ?_
  refine Dv.fab rfl trivial rfl Try.underlying32 rfl Try.underlying3 c3 (by decide) ?_
  refine Dv.ldb rfl trivial rfl Try.underlying3 rfl (mem_at 0 rfl) rfl ?_
  obtain ⟨t513, h514, H⟩ := Gets.call H
  refine Dv.callq (ret := eq (.bool t513)) rfl trivial rfl rfl ⟨_, _, _, _, h514, rfl, rfl⟩ ?_
  refine Dv.asg rfl trivial rfl ?_
  refine .fin ?_
  obtain rfl := Gets.out H
  exact WP.retL (fun _ _ h => h) rfl () trivial (.cons (res_tmp rfl) .nil) rfl (st_sel (L := [blk b512 32 [eq (.int .i64 a0.fKind), eq (.string a0.fRoom), eq (.string a0.fUser), eq (.string a0.fEvent), eq (.string a0.fThread), eq (.bool a0.fPrivate), eq (.bool a0.fOn), eq (.int .i64 a0.fSpan), eq (.int .i64 a0.fState), eq (.int .i64 a0.fTick), eq (.int .i64 a0.fStamp)]]) (F := F) [0] 1 rfl rfl rfl)
theorem edu_asks.c {k : Nat} {r : (List (Edu → Option Bool))} (h : edu_asks.f k = some r) : Pt Try.prog 61 [] (sl fK60 r) := by
  unfold edu_asks.f at h
  refine (Tr.body Try.func61 (c := _) rfl Try.ntmps61 (Nat.le_of_ble_eq_true rfl) fun R0 F => ?_).pt
  replace h := Gets.of h
  have H := h
  clear h
  refine WP.seq ?_
  refine WP.reg [(0, false)] (by kernel_rfl) ?_
  refine Dv.asg rfl trivial rfl ?_
  refine .fin ?_
  refine WP.seq ?_
  refine WP.reg [(0, true), (1, true)] (by kernel_rfl) ?_
  refine Dv.alloc (z := .nilFunc) (qs := [eq .nilFunc]) rfl trivial z99 rfl nofun (fun b515 => ?_)
  refine Dv.stx ([blk b515 99 [eq (.func (.func 75) #[] #[])]] ++ F) rfl trivial rfl rfl (cells_one (one_eq rfl)) Try.underlying99 c99 rfl (j := 0) rfl (Nat.le_of_ble_eq_true rfl) rfl nofun ?_
  refine .fin ?_
  refine WP.seq ?_
  refine WP.reg [(0, false), (1, false), (2, false), (3, false)] (by kernel_rfl) ?_
  refine Dv.gh (gh_frzb (E' := [(0, eq (.slice none 0 0)), (1, rp [eq (.func (.func 75) #[] #[])])]) (l' := [] ++ F) 0 rfl (cve_cons rfl cv_id (cve_cons rfl cv_eq cve_nil)) (all2_app .nil fun _ => cva_id)) (fun _ _ => ?_)
  refine Dv.mkf (Q := fq60Q (fun a0_ => edu_asks_4.f k a0_ edu_asks_1.f)) cal81 (by rintro _ _ ⟨a0_, r_, h_, rfl, rfl⟩; exact Pt.weak (edu_asks_4.c h_) (.cons wk_id (.cons (wk_rp (.cons (wk_fn cal75 (by rintro _ _ ⟨a0_, a1_, a2_, r_, h_, rfl, rfl⟩; exact edu_asks_1.c h_)) .nil)) .nil))) rfl trivial rfl rfl ?_
  refine Dv.mkf (Q := fq60Q (fun a0_ => edu_asks_5.f a0_ edu_asks_1.f)) cal82 (by rintro _ _ ⟨a0_, r_, h_, rfl, rfl⟩; exact Pt.weak (edu_asks_5.c h_) (.cons wk_id (.cons (wk_rp (.cons (wk_fn cal75 (by rintro _ _ ⟨a0_, a1_, a2_, r_, h_, rfl, rfl⟩; exact edu_asks_1.c h_)) .nil)) .nil))) rfl trivial rfl rfl ?_
  refine Dv.lit fK60 ([edu_asks_2.f, edu_asks_3.f k, fun a0_ => edu_asks_4.f k a0_ edu_asks_1.f, fun a0_ => edu_asks_5.f a0_ edu_asks_1.f] : List (Edu → Option Bool)) (css := [[fq60 edu_asks_2.f], [fq60 (edu_asks_3.f k)], [fq60 (fun a0_ => edu_asks_4.f k a0_ edu_asks_1.f)], [fq60 (fun a0_ => edu_asks_5.f a0_ edu_asks_1.f)]]) rfl trivial Try.underlying91 Try.underlying60 c60 z60 rfl (by decide) (by decide) rfl ⟨(cells_wk (wk_fn cal76 (by rintro _ _ ⟨a0_, r_, h_, rfl, rfl⟩; exact edu_asks_2.c h_)) (one_eq rfl)), ⟨(cells_wk (wk_fn cal77 (by rintro _ _ ⟨a0_, r_, h_, rfl, rfl⟩; exact edu_asks_3.c h_)) (one_eq rfl)), ⟨(cells_one one_fnq), ⟨(cells_one one_fnq), trivial⟩⟩⟩⟩ rfl rfl rfl ?_
  refine Dv.asg rfl trivial rfl ?_
  refine .fin ?_
  obtain rfl := Gets.out H
  exact WP.retL (fun _ _ h => h) rfl () trivial (.cons (res_tmp rfl) .nil) rfl (st_sel (L := []) (F := F) [] 0 rfl rfl rfl)
theorem edu_Local_1.c {a0 : Int} {r : Bool} (h : edu_Local_1.f a0 = some r) : Pt Try.prog 62 [eq (.int .i64 a0)] (eq (.bool r)) := by
  unfold edu_Local_1.f at h
  refine (Tr.body Try.func62 (c := _) rfl Try.ntmps62 (Nat.le_of_ble_eq_true rfl) fun R0 F => ?_).pt
  replace h := Gets.of h
  have H := h
  clear h
  refine WP.seq ?_
  refine WP.reg [(0, false)] (by kernel_rfl) ?_
  refine Dv.asg rfl trivial rfl ?_
  refine .fin ?_
  refine WP.seq ?_
  refine WP.reg [(0, false), (1, false), (2, false), (3, false), (4, false), (5, false), (6, false)] (by kernel_rfl) ?_
  refine Dv.mv rfl trivial rfl ?_
  refine Dv.bin rfl trivial rfl rfl (fun _ => run_ge) ?_
  refine Dv.mv rfl trivial rfl ?_
  cases c516 : decide (0 ≤ a0)
  · replace H := Gets.cf H c516
    refine Dv.skip rfl ⟨_, _, rfl, rfl, .inl rfl⟩ ?_
    refine Dv.skip rfl ⟨_, _, rfl, rfl, .inl rfl⟩ ?_
    refine Dv.pickF rfl trivial rfl rfl ?_
    refine Dv.asg rfl trivial rfl ?_
    refine .fin ?_
    obtain rfl := Gets.out H
    exact WP.retL (fun _ _ h => h) rfl () trivial (.cons (res_tmp rfl) .nil) rfl (st_sel (L := []) (F := F) [] 0 rfl rfl rfl)
  · replace H := Gets.ct H c516
    refine Dv.mv rfl ⟨_, _, rfl, rfl, rfl⟩ rfl ?_
    refine Dv.bin rfl ⟨_, _, rfl, rfl, rfl⟩ rfl rfl (fun _ => run_le) ?_
    refine Dv.pickT rfl trivial rfl rfl ?_
    refine Dv.asg rfl trivial rfl ?_
    refine .fin ?_
    obtain rfl := Gets.out H
    exact WP.retL (fun _ _ h => h) rfl () trivial (.cons (res_tmp rfl) .nil) rfl (st_sel (L := []) (F := F) [] 0 rfl rfl rfl)
theorem edu_named.c {a0 : Edu} {r : Edu} (h : edu_named.f a0 = some r) : Pt Try.prog 63 [agg (Edu.enc a0)] (agg (Edu.enc r)) := by
  unfold edu_named.f at h
  refine (Tr.body Try.func63 (c := _) rfl Try.ntmps63 (Nat.le_of_ble_eq_true rfl) fun R0 F => ?_).pt
  replace h := Gets.of h
  have H := h
  clear h
  refine WP.seq ?_
  refine WP.reg [(0, true), (1, true)] (by kernel_rfl) ?_
  refine Dv.box rfl trivial rfl (cells_agg (Edu.K.one _)) nofun (fun b517 => ?_)
  refine Dv.alloc (z := .agg #[.int .i64 0, .string ⟨#[]⟩, .string ⟨#[]⟩, .string ⟨#[]⟩, .string ⟨#[]⟩, .bool false, .bool false, .int .i64 0, .int .i64 0, .int .i64 0, .int .i64 0]) (qs := [eq (.int .i64 0), eq (.string (⟨#[]⟩ : ByteArray)), eq (.string (⟨#[]⟩ : ByteArray)), eq (.string (⟨#[]⟩ : ByteArray)), eq (.string (⟨#[]⟩ : ByteArray)), eq (.bool false), eq (.bool false), eq (.int .i64 0), eq (.int .i64 0), eq (.int .i64 0), eq (.int .i64 0)]) rfl trivial z32 rfl nofun (fun b518 => ?_)
  refine .fin ?_
  refine WP.seq ?_
  refine WP.reg [(0, false), (1, false), (2, false), (3, false), (4, false), (5, false), (6, false), (7, false), (8, false), (9, true), (10, true)] (by kernel_rfl) ?_
  refine Dv.fab rfl trivial rfl Try.underlying32 rfl Try.underlying3 c3 (by decide) ?_
  refine Dv.ldb rfl trivial rfl Try.underlying3 rfl (mem_at 1 rfl) rfl ?_
  refine Dv.fab rfl trivial rfl Try.underlying32 rfl Try.underlying9 c9 (by decide) ?_
  refine Dv.ldb rfl trivial rfl Try.underlying9 rfl (mem_at 1 rfl) rfl ?_
  refine Dv.fab rfl trivial rfl Try.underlying32 rfl Try.underlying3 c3 (by decide) ?_
  refine Dv.ldb rfl trivial rfl Try.underlying3 rfl (mem_at 1 rfl) rfl ?_
  refine Dv.fab rfl trivial rfl Try.underlying32 rfl Try.underlying3 c3 (by decide) ?_
  refine Dv.ldb rfl trivial rfl Try.underlying3 rfl (mem_at 1 rfl) rfl ?_
  refine Dv.bld (css := [[eq (.int .i64 a0.fKind)], [eq (.string a0.fUser)], [eq (.int .i64 a0.fTick)], [eq (.int .i64 a0.fStamp)]]) rfl trivial Try.underlying32 pl32 z32 rfl ⟨(cells_one (one_eq rfl)), ⟨(cells_one (one_eq rfl)), ⟨(cells_one (one_eq rfl)), ⟨(cells_one (one_eq rfl)), trivial⟩⟩⟩⟩ rfl rfl ?_
  refine Dv.alloc (z := .agg #[.int .i64 0, .string ⟨#[]⟩, .string ⟨#[]⟩, .string ⟨#[]⟩, .string ⟨#[]⟩, .bool false, .bool false, .int .i64 0, .int .i64 0, .int .i64 0, .int .i64 0]) (qs := [eq (.int .i64 0), eq (.string (⟨#[]⟩ : ByteArray)), eq (.string (⟨#[]⟩ : ByteArray)), eq (.string (⟨#[]⟩ : ByteArray)), eq (.string (⟨#[]⟩ : ByteArray)), eq (.bool false), eq (.bool false), eq (.int .i64 0), eq (.int .i64 0), eq (.int .i64 0), eq (.int .i64 0)]) rfl trivial z32 rfl nofun (fun b519 => ?_)
  refine Dv.stx ([blk b519 32 [eq (.int .i64 a0.fKind), eq (.string (⟨#[]⟩ : ByteArray)), eq (.string a0.fUser), eq (.string (⟨#[]⟩ : ByteArray)), eq (.string (⟨#[]⟩ : ByteArray)), eq (.bool false), eq (.bool false), eq (.int .i64 0), eq (.int .i64 0), eq (.int .i64 a0.fTick), eq (.int .i64 a0.fStamp)], blk b518 32 [eq (.int .i64 0), eq (.string (⟨#[]⟩ : ByteArray)), eq (.string (⟨#[]⟩ : ByteArray)), eq (.string (⟨#[]⟩ : ByteArray)), eq (.string (⟨#[]⟩ : ByteArray)), eq (.bool false), eq (.bool false), eq (.int .i64 0), eq (.int .i64 0), eq (.int .i64 0), eq (.int .i64 0)], blk b517 32 [eq (.int .i64 a0.fKind), eq (.string a0.fRoom), eq (.string a0.fUser), eq (.string a0.fEvent), eq (.string a0.fThread), eq (.bool a0.fPrivate), eq (.bool a0.fOn), eq (.int .i64 a0.fSpan), eq (.int .i64 a0.fState), eq (.int .i64 a0.fTick), eq (.int .i64 a0.fStamp)]] ++ F) rfl trivial rfl rfl (cells_agg (ones_cons (one_eq rfl) (ones_cons (one_eq rfl) (ones_cons (one_eq rfl) (ones_cons (one_eq rfl) (ones_cons (one_eq rfl) (ones_cons (one_eq rfl) (ones_cons (one_eq rfl) (ones_cons (one_eq rfl) (ones_cons (one_eq rfl) (ones_cons (one_eq rfl) (ones_cons (one_eq rfl) ones_nil)))))))))))) Try.underlying32 c32 rfl (j := 0) rfl (Nat.le_of_ble_eq_true rfl) rfl nofun ?_
  refine .fin ?_
  refine WP.seq ?_
  refine WP.seq ?_
  refine WP.reg [(0, false), (1, false)] (by kernel_rfl) ?_
  refine Dv.fab rfl trivial rfl Try.underlying32 rfl Try.underlying3 c3 (by decide) ?_
  refine Dv.ldb rfl trivial rfl Try.underlying3 rfl (mem_at 2 rfl) rfl ?_
  refine .fin ?_
  refine WP.block ?_
  refine WP.seq ?_
  refine WP.reg [(0, false), (1, false)] (by kernel_rfl) ?_
  refine Dv.bin rfl trivial rfl rfl (fun _ => run_eq) ?_
  refine Dv.asg rfl trivial rfl ?_
  refine .fin ?_
  refine WP.cond rfl (fun c520 => ?_) (fun c520 => ?_)
  · replace H := Gets.ct H c520
    refine WP.dreg Try.checked.mixed [(0, false), (1, false), (2, false), (3, false), (4, false), (5, false), (6, false), (7, false), (8, false), (9, true), (10, false), (11, true), (12, false), (13, true), (14, false), (15, true)] (by kernel_rfl) ?_
    refine Dv.fab rfl trivial rfl Try.underlying32 rfl Try.underlying9 c9 (by decide) ?_
    refine Dv.ldb rfl trivial rfl Try.underlying9 rfl (mem_at 2 rfl) rfl ?_
    refine Dv.fab rfl trivial rfl Try.underlying32 rfl Try.underlying9 c9 (by decide) ?_
    refine Dv.ldb rfl trivial rfl Try.underlying9 rfl (mem_at 2 rfl) rfl ?_
    refine Dv.fab rfl trivial rfl Try.underlying32 rfl Try.underlying9 c9 (by decide) ?_
    refine Dv.ldb rfl trivial rfl Try.underlying9 rfl (mem_at 2 rfl) rfl ?_
    refine Dv.fab rfl trivial rfl Try.underlying32 rfl Try.underlying4 c4 (by decide) ?_
    refine Dv.ldb rfl trivial rfl Try.underlying4 rfl (mem_at 2 rfl) rfl ?_
    refine Dv.fab rfl trivial rfl Try.underlying32 rfl Try.underlying9 c9 (by decide) ?_
    refine Dv.stx ([blk b519 32 [eq (.int .i64 a0.fKind), eq (.string a0.fRoom), eq (.string a0.fUser), eq (.string (⟨#[]⟩ : ByteArray)), eq (.string (⟨#[]⟩ : ByteArray)), eq (.bool false), eq (.bool false), eq (.int .i64 0), eq (.int .i64 0), eq (.int .i64 a0.fTick), eq (.int .i64 a0.fStamp)], blk b518 32 [eq (.int .i64 0), eq (.string (⟨#[]⟩ : ByteArray)), eq (.string (⟨#[]⟩ : ByteArray)), eq (.string (⟨#[]⟩ : ByteArray)), eq (.string (⟨#[]⟩ : ByteArray)), eq (.bool false), eq (.bool false), eq (.int .i64 0), eq (.int .i64 0), eq (.int .i64 0), eq (.int .i64 0)], blk b517 32 [eq (.int .i64 a0.fKind), eq (.string a0.fRoom), eq (.string a0.fUser), eq (.string a0.fEvent), eq (.string a0.fThread), eq (.bool a0.fPrivate), eq (.bool a0.fOn), eq (.int .i64 a0.fSpan), eq (.int .i64 a0.fState), eq (.int .i64 a0.fTick), eq (.int .i64 a0.fStamp)]] ++ F) rfl trivial rfl rfl (cells_one (one_eq rfl)) Try.underlying9 c9 rfl (j := 0) rfl (Nat.le_of_ble_eq_true rfl) rfl (fun _ => (pend_by (by kernel_rfl) (pend_in (fun _ => (mem_at 2 rfl)) (pend_in (fun _ => trivial) (pend_in (fun _ => (mem_at 2 rfl)) (pend_in (fun _ => trivial) (pend_in (fun _ => (mem_at 2 rfl)) (pend_in (fun _ => trivial) (pend_by (by kernel_rfl) (pend_by (by kernel_rfl) pend_nil)))))))))) ?_
    refine Dv.fab rfl trivial rfl Try.underlying32 rfl Try.underlying9 c9 (by decide) ?_
    refine Dv.stx ([blk b519 32 [eq (.int .i64 a0.fKind), eq (.string a0.fRoom), eq (.string a0.fUser), eq (.string a0.fEvent), eq (.string (⟨#[]⟩ : ByteArray)), eq (.bool false), eq (.bool false), eq (.int .i64 0), eq (.int .i64 0), eq (.int .i64 a0.fTick), eq (.int .i64 a0.fStamp)], blk b518 32 [eq (.int .i64 0), eq (.string (⟨#[]⟩ : ByteArray)), eq (.string (⟨#[]⟩ : ByteArray)), eq (.string (⟨#[]⟩ : ByteArray)), eq (.string (⟨#[]⟩ : ByteArray)), eq (.bool false), eq (.bool false), eq (.int .i64 0), eq (.int .i64 0), eq (.int .i64 0), eq (.int .i64 0)], blk b517 32 [eq (.int .i64 a0.fKind), eq (.string a0.fRoom), eq (.string a0.fUser), eq (.string a0.fEvent), eq (.string a0.fThread), eq (.bool a0.fPrivate), eq (.bool a0.fOn), eq (.int .i64 a0.fSpan), eq (.int .i64 a0.fState), eq (.int .i64 a0.fTick), eq (.int .i64 a0.fStamp)]] ++ F) rfl trivial rfl rfl (cells_one (one_eq rfl)) Try.underlying9 c9 rfl (j := 0) rfl (Nat.le_of_ble_eq_true rfl) rfl (fun _ => (pend_by (by kernel_rfl) (pend_by (by kernel_rfl) (pend_in (fun _ => (mem_at 2 rfl)) (pend_in (fun _ => trivial) (pend_in (fun _ => (mem_at 2 rfl)) (pend_in (fun _ => trivial) (pend_by (by kernel_rfl) (pend_by (by kernel_rfl) (pend_by (by kernel_rfl) (pend_by (by kernel_rfl) pend_nil))))))))))) ?_
    refine Dv.fab rfl trivial rfl Try.underlying32 rfl Try.underlying9 c9 (by decide) ?_
    refine Dv.stx ([blk b519 32 [eq (.int .i64 a0.fKind), eq (.string a0.fRoom), eq (.string a0.fUser), eq (.string a0.fEvent), eq (.string a0.fThread), eq (.bool false), eq (.bool false), eq (.int .i64 0), eq (.int .i64 0), eq (.int .i64 a0.fTick), eq (.int .i64 a0.fStamp)], blk b518 32 [eq (.int .i64 0), eq (.string (⟨#[]⟩ : ByteArray)), eq (.string (⟨#[]⟩ : ByteArray)), eq (.string (⟨#[]⟩ : ByteArray)), eq (.string (⟨#[]⟩ : ByteArray)), eq (.bool false), eq (.bool false), eq (.int .i64 0), eq (.int .i64 0), eq (.int .i64 0), eq (.int .i64 0)], blk b517 32 [eq (.int .i64 a0.fKind), eq (.string a0.fRoom), eq (.string a0.fUser), eq (.string a0.fEvent), eq (.string a0.fThread), eq (.bool a0.fPrivate), eq (.bool a0.fOn), eq (.int .i64 a0.fSpan), eq (.int .i64 a0.fState), eq (.int .i64 a0.fTick), eq (.int .i64 a0.fStamp)]] ++ F) rfl trivial rfl rfl (cells_one (one_eq rfl)) Try.underlying9 c9 rfl (j := 0) rfl (Nat.le_of_ble_eq_true rfl) rfl (fun _ => (pend_by (by kernel_rfl) (pend_by (by kernel_rfl) (pend_by (by kernel_rfl) (pend_in (fun _ => (mem_at 2 rfl)) (pend_in (fun _ => trivial) (pend_by (by kernel_rfl) (pend_by (by kernel_rfl) (pend_by (by kernel_rfl) (pend_by (by kernel_rfl) (pend_by (by kernel_rfl) (pend_by (by kernel_rfl) pend_nil)))))))))))) ?_
    refine Dv.fab rfl trivial rfl Try.underlying32 rfl Try.underlying4 c4 (by decide) ?_
    refine Dv.stx ([blk b519 32 [eq (.int .i64 a0.fKind), eq (.string a0.fRoom), eq (.string a0.fUser), eq (.string a0.fEvent), eq (.string a0.fThread), eq (.bool a0.fPrivate), eq (.bool false), eq (.int .i64 0), eq (.int .i64 0), eq (.int .i64 a0.fTick), eq (.int .i64 a0.fStamp)], blk b518 32 [eq (.int .i64 0), eq (.string (⟨#[]⟩ : ByteArray)), eq (.string (⟨#[]⟩ : ByteArray)), eq (.string (⟨#[]⟩ : ByteArray)), eq (.string (⟨#[]⟩ : ByteArray)), eq (.bool false), eq (.bool false), eq (.int .i64 0), eq (.int .i64 0), eq (.int .i64 0), eq (.int .i64 0)], blk b517 32 [eq (.int .i64 a0.fKind), eq (.string a0.fRoom), eq (.string a0.fUser), eq (.string a0.fEvent), eq (.string a0.fThread), eq (.bool a0.fPrivate), eq (.bool a0.fOn), eq (.int .i64 a0.fSpan), eq (.int .i64 a0.fState), eq (.int .i64 a0.fTick), eq (.int .i64 a0.fStamp)]] ++ F) rfl trivial rfl rfl (cells_one (one_eq rfl)) Try.underlying4 c4 rfl (j := 0) rfl (Nat.le_of_ble_eq_true rfl) rfl (fun _ => pend_bits (by kernel_rfl)) ?_
    refine .fin ?_
    refine WP.seq ?_
    refine WP.reg [(0, false), (1, true)] (by kernel_rfl) ?_
    refine Dv.ldbs rfl trivial rfl Try.underlying32 rfl c32 (mem_at 0 rfl) (Nat.le_of_ble_eq_true rfl) ?_
    refine Dv.stx ([blk b519 32 [eq (.int .i64 a0.fKind), eq (.string a0.fRoom), eq (.string a0.fUser), eq (.string a0.fEvent), eq (.string a0.fThread), eq (.bool a0.fPrivate), eq (.bool false), eq (.int .i64 0), eq (.int .i64 0), eq (.int .i64 a0.fTick), eq (.int .i64 a0.fStamp)], blk b518 32 [eq (.int .i64 a0.fKind), eq (.string a0.fRoom), eq (.string a0.fUser), eq (.string a0.fEvent), eq (.string a0.fThread), eq (.bool a0.fPrivate), eq (.bool false), eq (.int .i64 0), eq (.int .i64 0), eq (.int .i64 a0.fTick), eq (.int .i64 a0.fStamp)], blk b517 32 [eq (.int .i64 a0.fKind), eq (.string a0.fRoom), eq (.string a0.fUser), eq (.string a0.fEvent), eq (.string a0.fThread), eq (.bool a0.fPrivate), eq (.bool a0.fOn), eq (.int .i64 a0.fSpan), eq (.int .i64 a0.fState), eq (.int .i64 a0.fTick), eq (.int .i64 a0.fStamp)]] ++ F) rfl trivial rfl rfl (cells_agg (ones_cons (one_eq rfl) (ones_cons (one_eq rfl) (ones_cons (one_eq rfl) (ones_cons (one_eq rfl) (ones_cons (one_eq rfl) (ones_cons (one_eq rfl) (ones_cons (one_eq rfl) (ones_cons (one_eq rfl) (ones_cons (one_eq rfl) (ones_cons (one_eq rfl) (ones_cons (one_eq rfl) ones_nil)))))))))))) Try.underlying32 c32 rfl (j := 1) rfl (Nat.le_of_ble_eq_true rfl) rfl nofun ?_
    refine .fin ?_
    obtain rfl := Gets.out H
    exact WP.retL (fun _ _ h => h) rfl () trivial (.cons (res_cells rfl Try.underlying32 rfl c32 (mem_at 1 rfl) rfl) .nil) rfl (st_sel (L := [blk b519 32 [eq (.int .i64 a0.fKind), eq (.string a0.fRoom), eq (.string a0.fUser), eq (.string a0.fEvent), eq (.string a0.fThread), eq (.bool a0.fPrivate), eq (.bool false), eq (.int .i64 0), eq (.int .i64 0), eq (.int .i64 a0.fTick), eq (.int .i64 a0.fStamp)], blk b518 32 [eq (.int .i64 a0.fKind), eq (.string a0.fRoom), eq (.string a0.fUser), eq (.string a0.fEvent), eq (.string a0.fThread), eq (.bool a0.fPrivate), eq (.bool false), eq (.int .i64 0), eq (.int .i64 0), eq (.int .i64 a0.fTick), eq (.int .i64 a0.fStamp)], blk b517 32 [eq (.int .i64 a0.fKind), eq (.string a0.fRoom), eq (.string a0.fUser), eq (.string a0.fEvent), eq (.string a0.fThread), eq (.bool a0.fPrivate), eq (.bool a0.fOn), eq (.int .i64 a0.fSpan), eq (.int .i64 a0.fState), eq (.int .i64 a0.fTick), eq (.int .i64 a0.fStamp)]]) (F := F) [0, 1, 2] 3 rfl rfl rfl)
  · replace H := Gets.cf H c520
    refine WP.seq ?_
    refine WP.reg [(0, false), (1, false)] (by kernel_rfl) ?_
    refine Dv.bin rfl trivial rfl rfl (fun _ => run_eq) ?_
    refine Dv.asg rfl trivial rfl ?_
    refine .fin ?_
    refine WP.cond rfl (fun c521 => ?_) (fun c521 => ?_)
    · replace H := Gets.ct H c521
      refine WP.seq ?_
      refine WP.dreg Try.checked.mixed [(0, false), (1, false), (2, false), (3, false), (4, false), (5, true), (6, false), (7, true)] (by kernel_rfl) ?_
      refine Dv.fab rfl trivial rfl Try.underlying32 rfl Try.underlying9 c9 (by decide) ?_
      refine Dv.ldb rfl trivial rfl Try.underlying9 rfl (mem_at 2 rfl) rfl ?_
      refine Dv.fab rfl trivial rfl Try.underlying32 rfl Try.underlying4 c4 (by decide) ?_
      refine Dv.ldb rfl trivial rfl Try.underlying4 rfl (mem_at 2 rfl) rfl ?_
      refine Dv.fab rfl trivial rfl Try.underlying32 rfl Try.underlying9 c9 (by decide) ?_
      refine Dv.stx ([blk b519 32 [eq (.int .i64 a0.fKind), eq (.string a0.fRoom), eq (.string a0.fUser), eq (.string (⟨#[]⟩ : ByteArray)), eq (.string (⟨#[]⟩ : ByteArray)), eq (.bool false), eq (.bool false), eq (.int .i64 0), eq (.int .i64 0), eq (.int .i64 a0.fTick), eq (.int .i64 a0.fStamp)], blk b518 32 [eq (.int .i64 0), eq (.string (⟨#[]⟩ : ByteArray)), eq (.string (⟨#[]⟩ : ByteArray)), eq (.string (⟨#[]⟩ : ByteArray)), eq (.string (⟨#[]⟩ : ByteArray)), eq (.bool false), eq (.bool false), eq (.int .i64 0), eq (.int .i64 0), eq (.int .i64 0), eq (.int .i64 0)], blk b517 32 [eq (.int .i64 a0.fKind), eq (.string a0.fRoom), eq (.string a0.fUser), eq (.string a0.fEvent), eq (.string a0.fThread), eq (.bool a0.fPrivate), eq (.bool a0.fOn), eq (.int .i64 a0.fSpan), eq (.int .i64 a0.fState), eq (.int .i64 a0.fTick), eq (.int .i64 a0.fStamp)]] ++ F) rfl trivial rfl rfl (cells_one (one_eq rfl)) Try.underlying9 c9 rfl (j := 0) rfl (Nat.le_of_ble_eq_true rfl) rfl (fun _ => (pend_by (by kernel_rfl) (pend_in (fun _ => (mem_at 2 rfl)) (pend_in (fun _ => trivial) (pend_by (by kernel_rfl) (pend_by (by kernel_rfl) pend_nil)))))) ?_
      refine Dv.fab rfl trivial rfl Try.underlying32 rfl Try.underlying4 c4 (by decide) ?_
      refine Dv.stx ([blk b519 32 [eq (.int .i64 a0.fKind), eq (.string a0.fRoom), eq (.string a0.fUser), eq (.string (⟨#[]⟩ : ByteArray)), eq (.string (⟨#[]⟩ : ByteArray)), eq (.bool false), eq (.bool a0.fOn), eq (.int .i64 0), eq (.int .i64 0), eq (.int .i64 a0.fTick), eq (.int .i64 a0.fStamp)], blk b518 32 [eq (.int .i64 0), eq (.string (⟨#[]⟩ : ByteArray)), eq (.string (⟨#[]⟩ : ByteArray)), eq (.string (⟨#[]⟩ : ByteArray)), eq (.string (⟨#[]⟩ : ByteArray)), eq (.bool false), eq (.bool false), eq (.int .i64 0), eq (.int .i64 0), eq (.int .i64 0), eq (.int .i64 0)], blk b517 32 [eq (.int .i64 a0.fKind), eq (.string a0.fRoom), eq (.string a0.fUser), eq (.string a0.fEvent), eq (.string a0.fThread), eq (.bool a0.fPrivate), eq (.bool a0.fOn), eq (.int .i64 a0.fSpan), eq (.int .i64 a0.fState), eq (.int .i64 a0.fTick), eq (.int .i64 a0.fStamp)]] ++ F) rfl trivial rfl rfl (cells_one (one_eq rfl)) Try.underlying4 c4 rfl (j := 0) rfl (Nat.le_of_ble_eq_true rfl) rfl (fun _ => pend_bits (by kernel_rfl)) ?_
      refine .fin ?_
      refine WP.seq ?_
      refine WP.reg [(0, false), (1, false)] (by kernel_rfl) ?_
      refine Dv.fab rfl trivial rfl Try.underlying32 rfl Try.underlying4 c4 (by decide) ?_
      refine Dv.ldb rfl trivial rfl Try.underlying4 rfl (mem_at 2 rfl) rfl ?_
      refine .fin ?_
      refine WP.cond rfl (fun c522 => ?_) (fun c522 => ?_)
      · replace H := Gets.ct H c522
        refine WP.reg [(0, false), (1, false), (2, false), (3, true)] (by kernel_rfl) ?_
        refine Dv.fab rfl trivial rfl Try.underlying32 rfl Try.underlying3 c3 (by decide) ?_
        refine Dv.ldb rfl trivial rfl Try.underlying3 rfl (mem_at 2 rfl) rfl ?_
        refine Dv.fab rfl trivial rfl Try.underlying32 rfl Try.underlying3 c3 (by decide) ?_
        refine Dv.stx ([blk b519 32 [eq (.int .i64 a0.fKind), eq (.string a0.fRoom), eq (.string a0.fUser), eq (.string (⟨#[]⟩ : ByteArray)), eq (.string (⟨#[]⟩ : ByteArray)), eq (.bool false), eq (.bool a0.fOn), eq (.int .i64 a0.fSpan), eq (.int .i64 0), eq (.int .i64 a0.fTick), eq (.int .i64 a0.fStamp)], blk b518 32 [eq (.int .i64 0), eq (.string (⟨#[]⟩ : ByteArray)), eq (.string (⟨#[]⟩ : ByteArray)), eq (.string (⟨#[]⟩ : ByteArray)), eq (.string (⟨#[]⟩ : ByteArray)), eq (.bool false), eq (.bool false), eq (.int .i64 0), eq (.int .i64 0), eq (.int .i64 0), eq (.int .i64 0)], blk b517 32 [eq (.int .i64 a0.fKind), eq (.string a0.fRoom), eq (.string a0.fUser), eq (.string a0.fEvent), eq (.string a0.fThread), eq (.bool a0.fPrivate), eq (.bool a0.fOn), eq (.int .i64 a0.fSpan), eq (.int .i64 a0.fState), eq (.int .i64 a0.fTick), eq (.int .i64 a0.fStamp)]] ++ F) rfl trivial rfl rfl (cells_one (one_eq rfl)) Try.underlying3 c3 rfl (j := 0) rfl (Nat.le_of_ble_eq_true rfl) rfl nofun ?_
        refine .fin ?_
        refine WP.seq ?_
        refine WP.reg [(0, false), (1, true)] (by kernel_rfl) ?_
        refine Dv.ldbs rfl trivial rfl Try.underlying32 rfl c32 (mem_at 0 rfl) (Nat.le_of_ble_eq_true rfl) ?_
        refine Dv.stx ([blk b519 32 [eq (.int .i64 a0.fKind), eq (.string a0.fRoom), eq (.string a0.fUser), eq (.string (⟨#[]⟩ : ByteArray)), eq (.string (⟨#[]⟩ : ByteArray)), eq (.bool false), eq (.bool a0.fOn), eq (.int .i64 a0.fSpan), eq (.int .i64 0), eq (.int .i64 a0.fTick), eq (.int .i64 a0.fStamp)], blk b518 32 [eq (.int .i64 a0.fKind), eq (.string a0.fRoom), eq (.string a0.fUser), eq (.string (⟨#[]⟩ : ByteArray)), eq (.string (⟨#[]⟩ : ByteArray)), eq (.bool false), eq (.bool a0.fOn), eq (.int .i64 a0.fSpan), eq (.int .i64 0), eq (.int .i64 a0.fTick), eq (.int .i64 a0.fStamp)], blk b517 32 [eq (.int .i64 a0.fKind), eq (.string a0.fRoom), eq (.string a0.fUser), eq (.string a0.fEvent), eq (.string a0.fThread), eq (.bool a0.fPrivate), eq (.bool a0.fOn), eq (.int .i64 a0.fSpan), eq (.int .i64 a0.fState), eq (.int .i64 a0.fTick), eq (.int .i64 a0.fStamp)]] ++ F) rfl trivial rfl rfl (cells_agg (ones_cons (one_eq rfl) (ones_cons (one_eq rfl) (ones_cons (one_eq rfl) (ones_cons (one_eq rfl) (ones_cons (one_eq rfl) (ones_cons (one_eq rfl) (ones_cons (one_eq rfl) (ones_cons (one_eq rfl) (ones_cons (one_eq rfl) (ones_cons (one_eq rfl) (ones_cons (one_eq rfl) ones_nil)))))))))))) Try.underlying32 c32 rfl (j := 1) rfl (Nat.le_of_ble_eq_true rfl) rfl nofun ?_
        refine .fin ?_
        obtain rfl := Gets.out H
        exact WP.retL (fun _ _ h => h) rfl () trivial (.cons (res_cells rfl Try.underlying32 rfl c32 (mem_at 1 rfl) rfl) .nil) rfl (st_sel (L := [blk b519 32 [eq (.int .i64 a0.fKind), eq (.string a0.fRoom), eq (.string a0.fUser), eq (.string (⟨#[]⟩ : ByteArray)), eq (.string (⟨#[]⟩ : ByteArray)), eq (.bool false), eq (.bool a0.fOn), eq (.int .i64 a0.fSpan), eq (.int .i64 0), eq (.int .i64 a0.fTick), eq (.int .i64 a0.fStamp)], blk b518 32 [eq (.int .i64 a0.fKind), eq (.string a0.fRoom), eq (.string a0.fUser), eq (.string (⟨#[]⟩ : ByteArray)), eq (.string (⟨#[]⟩ : ByteArray)), eq (.bool false), eq (.bool a0.fOn), eq (.int .i64 a0.fSpan), eq (.int .i64 0), eq (.int .i64 a0.fTick), eq (.int .i64 a0.fStamp)], blk b517 32 [eq (.int .i64 a0.fKind), eq (.string a0.fRoom), eq (.string a0.fUser), eq (.string a0.fEvent), eq (.string a0.fThread), eq (.bool a0.fPrivate), eq (.bool a0.fOn), eq (.int .i64 a0.fSpan), eq (.int .i64 a0.fState), eq (.int .i64 a0.fTick), eq (.int .i64 a0.fStamp)]]) (F := F) [0, 1, 2] 3 rfl rfl rfl)
      · replace H := Gets.cf H c522
        refine WP.skip ?_
        refine WP.seq ?_
        refine WP.reg [(0, false), (1, true)] (by kernel_rfl) ?_
        refine Dv.ldbs rfl trivial rfl Try.underlying32 rfl c32 (mem_at 0 rfl) (Nat.le_of_ble_eq_true rfl) ?_
        refine Dv.stx ([blk b519 32 [eq (.int .i64 a0.fKind), eq (.string a0.fRoom), eq (.string a0.fUser), eq (.string (⟨#[]⟩ : ByteArray)), eq (.string (⟨#[]⟩ : ByteArray)), eq (.bool false), eq (.bool a0.fOn), eq (.int .i64 0), eq (.int .i64 0), eq (.int .i64 a0.fTick), eq (.int .i64 a0.fStamp)], blk b518 32 [eq (.int .i64 a0.fKind), eq (.string a0.fRoom), eq (.string a0.fUser), eq (.string (⟨#[]⟩ : ByteArray)), eq (.string (⟨#[]⟩ : ByteArray)), eq (.bool false), eq (.bool a0.fOn), eq (.int .i64 0), eq (.int .i64 0), eq (.int .i64 a0.fTick), eq (.int .i64 a0.fStamp)], blk b517 32 [eq (.int .i64 a0.fKind), eq (.string a0.fRoom), eq (.string a0.fUser), eq (.string a0.fEvent), eq (.string a0.fThread), eq (.bool a0.fPrivate), eq (.bool a0.fOn), eq (.int .i64 a0.fSpan), eq (.int .i64 a0.fState), eq (.int .i64 a0.fTick), eq (.int .i64 a0.fStamp)]] ++ F) rfl trivial rfl rfl (cells_agg (ones_cons (one_eq rfl) (ones_cons (one_eq rfl) (ones_cons (one_eq rfl) (ones_cons (one_eq rfl) (ones_cons (one_eq rfl) (ones_cons (one_eq rfl) (ones_cons (one_eq rfl) (ones_cons (one_eq rfl) (ones_cons (one_eq rfl) (ones_cons (one_eq rfl) (ones_cons (one_eq rfl) ones_nil)))))))))))) Try.underlying32 c32 rfl (j := 1) rfl (Nat.le_of_ble_eq_true rfl) rfl nofun ?_
        refine .fin ?_
        obtain rfl := Gets.out H
        exact WP.retL (fun _ _ h => h) rfl () trivial (.cons (res_cells rfl Try.underlying32 rfl c32 (mem_at 1 rfl) rfl) .nil) rfl (st_sel (L := [blk b519 32 [eq (.int .i64 a0.fKind), eq (.string a0.fRoom), eq (.string a0.fUser), eq (.string (⟨#[]⟩ : ByteArray)), eq (.string (⟨#[]⟩ : ByteArray)), eq (.bool false), eq (.bool a0.fOn), eq (.int .i64 0), eq (.int .i64 0), eq (.int .i64 a0.fTick), eq (.int .i64 a0.fStamp)], blk b518 32 [eq (.int .i64 a0.fKind), eq (.string a0.fRoom), eq (.string a0.fUser), eq (.string (⟨#[]⟩ : ByteArray)), eq (.string (⟨#[]⟩ : ByteArray)), eq (.bool false), eq (.bool a0.fOn), eq (.int .i64 0), eq (.int .i64 0), eq (.int .i64 a0.fTick), eq (.int .i64 a0.fStamp)], blk b517 32 [eq (.int .i64 a0.fKind), eq (.string a0.fRoom), eq (.string a0.fUser), eq (.string a0.fEvent), eq (.string a0.fThread), eq (.bool a0.fPrivate), eq (.bool a0.fOn), eq (.int .i64 a0.fSpan), eq (.int .i64 a0.fState), eq (.int .i64 a0.fTick), eq (.int .i64 a0.fStamp)]]) (F := F) [0, 1, 2] 3 rfl rfl rfl)
    · replace H := Gets.cf H c521
      refine WP.seq ?_
      refine WP.reg [(0, false), (1, false)] (by kernel_rfl) ?_
      refine Dv.bin rfl trivial rfl rfl (fun _ => run_eq) ?_
      refine Dv.asg rfl trivial rfl ?_
      refine .fin ?_
      refine WP.cond rfl (fun c523 => ?_) (fun c523 => ?_)
      · replace H := Gets.ct H c523
        refine WP.reg [(0, false), (1, false), (2, false), (3, true)] (by kernel_rfl) ?_
        refine Dv.fab rfl trivial rfl Try.underlying32 rfl Try.underlying3 c3 (by decide) ?_
        refine Dv.ldb rfl trivial rfl Try.underlying3 rfl (mem_at 2 rfl) rfl ?_
        refine Dv.fab rfl trivial rfl Try.underlying32 rfl Try.underlying3 c3 (by decide) ?_
        refine Dv.stx ([blk b519 32 [eq (.int .i64 a0.fKind), eq (.string (⟨#[]⟩ : ByteArray)), eq (.string a0.fUser), eq (.string (⟨#[]⟩ : ByteArray)), eq (.string (⟨#[]⟩ : ByteArray)), eq (.bool false), eq (.bool false), eq (.int .i64 0), eq (.int .i64 a0.fState), eq (.int .i64 a0.fTick), eq (.int .i64 a0.fStamp)], blk b518 32 [eq (.int .i64 0), eq (.string (⟨#[]⟩ : ByteArray)), eq (.string (⟨#[]⟩ : ByteArray)), eq (.string (⟨#[]⟩ : ByteArray)), eq (.string (⟨#[]⟩ : ByteArray)), eq (.bool false), eq (.bool false), eq (.int .i64 0), eq (.int .i64 0), eq (.int .i64 0), eq (.int .i64 0)], blk b517 32 [eq (.int .i64 a0.fKind), eq (.string a0.fRoom), eq (.string a0.fUser), eq (.string a0.fEvent), eq (.string a0.fThread), eq (.bool a0.fPrivate), eq (.bool a0.fOn), eq (.int .i64 a0.fSpan), eq (.int .i64 a0.fState), eq (.int .i64 a0.fTick), eq (.int .i64 a0.fStamp)]] ++ F) rfl trivial rfl rfl (cells_one (one_eq rfl)) Try.underlying3 c3 rfl (j := 0) rfl (Nat.le_of_ble_eq_true rfl) rfl nofun ?_
        refine .fin ?_
        refine WP.seq ?_
        refine WP.reg [(0, false), (1, true)] (by kernel_rfl) ?_
        refine Dv.ldbs rfl trivial rfl Try.underlying32 rfl c32 (mem_at 0 rfl) (Nat.le_of_ble_eq_true rfl) ?_
        refine Dv.stx ([blk b519 32 [eq (.int .i64 a0.fKind), eq (.string (⟨#[]⟩ : ByteArray)), eq (.string a0.fUser), eq (.string (⟨#[]⟩ : ByteArray)), eq (.string (⟨#[]⟩ : ByteArray)), eq (.bool false), eq (.bool false), eq (.int .i64 0), eq (.int .i64 a0.fState), eq (.int .i64 a0.fTick), eq (.int .i64 a0.fStamp)], blk b518 32 [eq (.int .i64 a0.fKind), eq (.string (⟨#[]⟩ : ByteArray)), eq (.string a0.fUser), eq (.string (⟨#[]⟩ : ByteArray)), eq (.string (⟨#[]⟩ : ByteArray)), eq (.bool false), eq (.bool false), eq (.int .i64 0), eq (.int .i64 a0.fState), eq (.int .i64 a0.fTick), eq (.int .i64 a0.fStamp)], blk b517 32 [eq (.int .i64 a0.fKind), eq (.string a0.fRoom), eq (.string a0.fUser), eq (.string a0.fEvent), eq (.string a0.fThread), eq (.bool a0.fPrivate), eq (.bool a0.fOn), eq (.int .i64 a0.fSpan), eq (.int .i64 a0.fState), eq (.int .i64 a0.fTick), eq (.int .i64 a0.fStamp)]] ++ F) rfl trivial rfl rfl (cells_agg (ones_cons (one_eq rfl) (ones_cons (one_eq rfl) (ones_cons (one_eq rfl) (ones_cons (one_eq rfl) (ones_cons (one_eq rfl) (ones_cons (one_eq rfl) (ones_cons (one_eq rfl) (ones_cons (one_eq rfl) (ones_cons (one_eq rfl) (ones_cons (one_eq rfl) (ones_cons (one_eq rfl) ones_nil)))))))))))) Try.underlying32 c32 rfl (j := 1) rfl (Nat.le_of_ble_eq_true rfl) rfl nofun ?_
        refine .fin ?_
        obtain rfl := Gets.out H
        exact WP.retL (fun _ _ h => h) rfl () trivial (.cons (res_cells rfl Try.underlying32 rfl c32 (mem_at 1 rfl) rfl) .nil) rfl (st_sel (L := [blk b519 32 [eq (.int .i64 a0.fKind), eq (.string (⟨#[]⟩ : ByteArray)), eq (.string a0.fUser), eq (.string (⟨#[]⟩ : ByteArray)), eq (.string (⟨#[]⟩ : ByteArray)), eq (.bool false), eq (.bool false), eq (.int .i64 0), eq (.int .i64 a0.fState), eq (.int .i64 a0.fTick), eq (.int .i64 a0.fStamp)], blk b518 32 [eq (.int .i64 a0.fKind), eq (.string (⟨#[]⟩ : ByteArray)), eq (.string a0.fUser), eq (.string (⟨#[]⟩ : ByteArray)), eq (.string (⟨#[]⟩ : ByteArray)), eq (.bool false), eq (.bool false), eq (.int .i64 0), eq (.int .i64 a0.fState), eq (.int .i64 a0.fTick), eq (.int .i64 a0.fStamp)], blk b517 32 [eq (.int .i64 a0.fKind), eq (.string a0.fRoom), eq (.string a0.fUser), eq (.string a0.fEvent), eq (.string a0.fThread), eq (.bool a0.fPrivate), eq (.bool a0.fOn), eq (.int .i64 a0.fSpan), eq (.int .i64 a0.fState), eq (.int .i64 a0.fTick), eq (.int .i64 a0.fStamp)]]) (F := F) [0, 1, 2] 3 rfl rfl rfl)
      · replace H := Gets.cf H c523
        refine WP.skip ?_
        refine WP.seq ?_
        refine WP.reg [(0, false), (1, true)] (by kernel_rfl) ?_
        refine Dv.ldbs rfl trivial rfl Try.underlying32 rfl c32 (mem_at 0 rfl) (Nat.le_of_ble_eq_true rfl) ?_
        refine Dv.stx ([blk b519 32 [eq (.int .i64 a0.fKind), eq (.string (⟨#[]⟩ : ByteArray)), eq (.string a0.fUser), eq (.string (⟨#[]⟩ : ByteArray)), eq (.string (⟨#[]⟩ : ByteArray)), eq (.bool false), eq (.bool false), eq (.int .i64 0), eq (.int .i64 0), eq (.int .i64 a0.fTick), eq (.int .i64 a0.fStamp)], blk b518 32 [eq (.int .i64 a0.fKind), eq (.string (⟨#[]⟩ : ByteArray)), eq (.string a0.fUser), eq (.string (⟨#[]⟩ : ByteArray)), eq (.string (⟨#[]⟩ : ByteArray)), eq (.bool false), eq (.bool false), eq (.int .i64 0), eq (.int .i64 0), eq (.int .i64 a0.fTick), eq (.int .i64 a0.fStamp)], blk b517 32 [eq (.int .i64 a0.fKind), eq (.string a0.fRoom), eq (.string a0.fUser), eq (.string a0.fEvent), eq (.string a0.fThread), eq (.bool a0.fPrivate), eq (.bool a0.fOn), eq (.int .i64 a0.fSpan), eq (.int .i64 a0.fState), eq (.int .i64 a0.fTick), eq (.int .i64 a0.fStamp)]] ++ F) rfl trivial rfl rfl (cells_agg (ones_cons (one_eq rfl) (ones_cons (one_eq rfl) (ones_cons (one_eq rfl) (ones_cons (one_eq rfl) (ones_cons (one_eq rfl) (ones_cons (one_eq rfl) (ones_cons (one_eq rfl) (ones_cons (one_eq rfl) (ones_cons (one_eq rfl) (ones_cons (one_eq rfl) (ones_cons (one_eq rfl) ones_nil)))))))))))) Try.underlying32 c32 rfl (j := 1) rfl (Nat.le_of_ble_eq_true rfl) rfl nofun ?_
        refine .fin ?_
        obtain rfl := Gets.out H
        exact WP.retL (fun _ _ h => h) rfl () trivial (.cons (res_cells rfl Try.underlying32 rfl c32 (mem_at 1 rfl) rfl) .nil) rfl (st_sel (L := [blk b519 32 [eq (.int .i64 a0.fKind), eq (.string (⟨#[]⟩ : ByteArray)), eq (.string a0.fUser), eq (.string (⟨#[]⟩ : ByteArray)), eq (.string (⟨#[]⟩ : ByteArray)), eq (.bool false), eq (.bool false), eq (.int .i64 0), eq (.int .i64 0), eq (.int .i64 a0.fTick), eq (.int .i64 a0.fStamp)], blk b518 32 [eq (.int .i64 a0.fKind), eq (.string (⟨#[]⟩ : ByteArray)), eq (.string a0.fUser), eq (.string (⟨#[]⟩ : ByteArray)), eq (.string (⟨#[]⟩ : ByteArray)), eq (.bool false), eq (.bool false), eq (.int .i64 0), eq (.int .i64 0), eq (.int .i64 a0.fTick), eq (.int .i64 a0.fStamp)], blk b517 32 [eq (.int .i64 a0.fKind), eq (.string a0.fRoom), eq (.string a0.fUser), eq (.string a0.fEvent), eq (.string a0.fThread), eq (.bool a0.fPrivate), eq (.bool a0.fOn), eq (.int .i64 a0.fSpan), eq (.int .i64 a0.fState), eq (.int .i64 a0.fTick), eq (.int .i64 a0.fStamp)]]) (F := F) [0, 1, 2] 3 rfl rfl rfl)
theorem name_User.c {k : Nat} {a0 : ByteArray} {r : Bool} (h : name_User.f k a0 = some r) : Pt Try.prog 64 [eq (.string a0)] (eq (.bool r)) := by
  unfold name_User.f at h
  refine (Tr.body Try.func64 (c := _) rfl Try.ntmps64 (Nat.le_of_ble_eq_true rfl) fun R0 F => ?_).pt
  replace h := Gets.of h
  have H := h
  clear h
  refine WP.seq ?_
  refine WP.reg [(0, false)] (by kernel_rfl) ?_
  refine Dv.asg rfl trivial rfl ?_
  refine .fin ?_
  refine WP.seq ?_
  refine WP.reg [(0, false), (1, false), (2, false), (3, false), (4, false), (5, false), (6, false), (7, false), (8, false)] (by kernel_rfl) ?_
  refine Dv.mv rfl trivial rfl ?_
  obtain ⟨t524, h525, H⟩ := Gets.call H
  refine Dv.call rfl trivial cal83 rfl (name_split.c h525) ?_
  refine Dv.mv rfl trivial rfl ?_
  refine Dv.ext rfl trivial rfl rfl ?_
  refine Dv.ext rfl trivial rfl rfl ?_
  refine Dv.ext rfl trivial rfl rfl ?_
  refine Dv.asg rfl trivial rfl ?_
  refine Dv.asg rfl trivial rfl ?_
  refine Dv.asg rfl trivial rfl ?_
  refine .fin ?_
  refine WP.seq ?_
  refine WP.reg [(0, false), (1, false)] (by kernel_rfl) ?_
  refine Dv.mv rfl trivial rfl ?_
  refine Dv.asg rfl trivial rfl ?_
  refine .fin ?_
  obtain rfl := Gets.out H
  exact WP.retL (fun _ _ h => h) rfl () trivial (.cons (res_tmp rfl) .nil) rfl (st_sel (L := []) (F := F) [] 0 rfl rfl rfl)
theorem edu_Local.c {k : Nat} {a0 : Edu} {r : Bool} (h : edu_Local.f k a0 = some r) : Pt Try.prog 42 [agg (Edu.enc a0)] (eq (.bool r)) := by
  unfold edu_Local.f at h
  refine (Tr.body Try.func42 (c := _) rfl Try.ntmps42 (Nat.le_of_ble_eq_true rfl) fun R0 F => ?_).pt
  replace h := Gets.of h
  have H := h
  clear h
  refine WP.seq ?_
  refine WP.reg [(0, true), (1, false)] (by kernel_rfl) ?_
  refine Dv.box rfl trivial rfl (cells_agg (Edu.K.one _)) nofun (fun b526 => ?_)
  refine Dv.asg rfl trivial rfl ?_
  refine .fin ?_
  refine WP.seq ?_
  refine WP.seq ?_
  refine WP.dreg Try.checked.mixed [(0, false), (1, false), (2, false), (3, false), (4, false), (5, false), (6, false), (7, false), (8, false), (9, false), (10, false), (11, false), (12, false), (13, false), (14, false), (15, false), (16, false), (17, false)] (by kernel_rfl) ?_
  refine Dv.fab rfl trivial rfl Try.underlying32 rfl Try.underlying3 c3 (by decide) ?_
  refine Dv.ldb rfl trivial rfl Try.underlying3 rfl (mem_at 0 rfl) rfl ?_
  refine Dv.bin rfl trivial rfl rfl (fun _ => run_lt) ?_
  refine Dv.mv rfl trivial rfl ?_
  cases c527 : decide (a0.fKind < 0)
  · replace H := Gets.cf H c527
    refine Dv.fab rfl ⟨_, _, rfl, rfl, rfl⟩ rfl Try.underlying32 rfl Try.underlying3 c3 (by decide) ?_
    refine Dv.ldb rfl ⟨_, _, rfl, rfl, rfl⟩ rfl Try.underlying3 rfl (mem_at 0 rfl) rfl ?_
    refine Dv.bin rfl ⟨_, _, rfl, rfl, rfl⟩ rfl rfl (fun _ => run_gt) ?_
    refine Dv.pickF rfl trivial rfl rfl ?_
    refine Dv.mv rfl trivial rfl ?_
    cases c529 : decide (3 < a0.fKind)
    · replace H := Gets.cf H c529
      obtain ⟨t531, h532, H⟩ := Gets.call H
      refine Dv.call rfl ⟨_, _, rfl, rfl, rfl⟩ cal61 rfl (edu_asks.c h532) ?_
      refine Dv.fab rfl ⟨_, _, rfl, rfl, rfl⟩ rfl Try.underlying32 rfl Try.underlying3 c3 (by decide) ?_
      refine Dv.ldb rfl ⟨_, _, rfl, rfl, rfl⟩ rfl Try.underlying3 rfl (mem_at 0 rfl) rfl ?_
      obtain ⟨g533, H⟩ := Gets.grd H
      refine Dv.ixr rfl ⟨_, _, rfl, rfl, rfl⟩ rfl rfl Try.underlying91 Try.underlying60 c60 g533.1 g533.2 ?_
      refine Dv.ldr rfl ⟨_, _, rfl, rfl, rfl⟩ rfl Try.underlying60 rfl rfl ?_
      refine Dv.ldbs rfl ⟨_, _, rfl, rfl, rfl⟩ rfl Try.underlying32 rfl c32 (mem_at 0 rfl) (Nat.le_of_ble_eq_true rfl) ?_
      obtain ⟨t534, h535, H⟩ := Gets.call H
      refine Dv.callq (ret := eq (.bool t534)) rfl ⟨_, _, rfl, rfl, rfl⟩ rfl rfl ⟨_, _, h535, rfl, rfl⟩ ?_
      refine Dv.un rfl ⟨_, _, rfl, rfl, rfl⟩ rfl (fun _ => run_not _) ?_
      refine Dv.pickF rfl trivial rfl rfl ?_
      refine .fin ?_
      refine WP.cond rfl (fun c536 => ?_) (fun c536 => ?_)
      · replace H := Gets.ct H c536
        refine WP.seq ?_
        refine WP.reg [(0, false)] (by kernel_rfl) ?_
        refine Dv.asg rfl trivial rfl ?_
        refine .fin ?_
        obtain rfl := Gets.out H
        exact WP.retL (fun _ _ h => h) rfl () trivial (.cons (res_tmp rfl) .nil) rfl (st_sel (L := [blk b526 32 [eq (.int .i64 a0.fKind), eq (.string a0.fRoom), eq (.string a0.fUser), eq (.string a0.fEvent), eq (.string a0.fThread), eq (.bool a0.fPrivate), eq (.bool a0.fOn), eq (.int .i64 a0.fSpan), eq (.int .i64 a0.fState), eq (.int .i64 a0.fTick), eq (.int .i64 a0.fStamp)]]) (F := F) [0] 1 rfl rfl rfl)
      · replace H := Gets.cf H c536
        refine WP.skip ?_
        refine WP.seq ?_
        refine WP.reg [(0, false)] (by kernel_rfl) ?_
        refine Dv.asg rfl trivial rfl ?_
        refine .fin ?_
        refine WP.seq ?_
        refine WP.dreg Try.checked.mixed [(0, false), (1, false), (2, false), (3, false), (4, false), (5, false), (6, false), (7, false), (8, false), (9, false), (10, false), (11, false), (12, false), (13, false), (14, false), (15, false), (16, false), (17, false), (18, false), (19, false), (20, false), (21, false)] (by kernel_rfl) ?_
        refine Dv.ldbs rfl trivial rfl Try.underlying32 rfl c32 (mem_at 0 rfl) (Nat.le_of_ble_eq_true rfl) ?_
        refine Dv.ldbs rfl trivial rfl Try.underlying32 rfl c32 (mem_at 0 rfl) (Nat.le_of_ble_eq_true rfl) ?_
        obtain ⟨t537, h538, H⟩ := Gets.call H
        refine Dv.call rfl trivial cal63 rfl (edu_named.c h538) ?_
        refine Dv.eqs [.int .i64 a0.fKind, .string a0.fRoom, .string a0.fUser, .string a0.fEvent, .string a0.fThread, .bool a0.fPrivate, .bool a0.fOn, .int .i64 a0.fSpan, .int .i64 a0.fState, .int .i64 a0.fTick, .int .i64 a0.fStamp] [.int .i64 t537.fKind, .string t537.fRoom, .string t537.fUser, .string t537.fEvent, .string t537.fThread, .bool t537.fPrivate, .bool t537.fOn, .int .i64 t537.fSpan, .int .i64 t537.fState, .int .i64 t537.fTick, .int .i64 t537.fStamp] rfl trivial rfl rfl rfl rfl eg32 (fun _ => equal_of 2 (by decide) (fun _ => eqt32 a0 t537)) ?_
        refine Dv.mv rfl trivial rfl ?_
        cases c539 : decide (a0 = t537)
        · replace H := Gets.cf H c539
          refine Dv.skip rfl ⟨_, _, rfl, rfl, .inl rfl⟩ ?_
          refine Dv.skip rfl ⟨_, _, rfl, rfl, .inl rfl⟩ ?_
          refine Dv.skip rfl ⟨_, _, rfl, rfl, .inl rfl⟩ ?_
          refine Dv.pickF rfl trivial rfl rfl ?_
          refine Dv.mv rfl trivial rfl ?_
          refine Dv.skip rfl ⟨_, _, rfl, rfl, .inl rfl⟩ ?_
          refine Dv.skip rfl ⟨_, _, rfl, rfl, .inl rfl⟩ ?_
          refine Dv.skip rfl ⟨_, _, rfl, rfl, .inl rfl⟩ ?_
          refine Dv.skip rfl ⟨_, _, rfl, rfl, .inl rfl⟩ ?_
          refine Dv.pickF rfl trivial rfl rfl ?_
          refine Dv.mv rfl trivial rfl ?_
          refine Dv.skip rfl ⟨_, _, rfl, rfl, .inl rfl⟩ ?_
          refine Dv.skip rfl ⟨_, _, rfl, rfl, .inl rfl⟩ ?_
          refine Dv.skip rfl ⟨_, _, rfl, rfl, .inl rfl⟩ ?_
          refine Dv.skip rfl ⟨_, _, rfl, rfl, .inl rfl⟩ ?_
          refine Dv.pickF rfl trivial rfl rfl ?_
          refine Dv.asg rfl trivial rfl ?_
          refine .fin ?_
          obtain rfl := Gets.out H
          exact WP.retL (fun _ _ h => h) rfl () trivial (.cons (res_tmp rfl) .nil) rfl (st_sel (L := [blk b526 32 [eq (.int .i64 a0.fKind), eq (.string a0.fRoom), eq (.string a0.fUser), eq (.string a0.fEvent), eq (.string a0.fThread), eq (.bool a0.fPrivate), eq (.bool a0.fOn), eq (.int .i64 a0.fSpan), eq (.int .i64 a0.fState), eq (.int .i64 a0.fTick), eq (.int .i64 a0.fStamp)]]) (F := F) [0] 1 rfl rfl rfl)
        · replace H := Gets.ct H c539
          refine Dv.fab rfl ⟨_, _, rfl, rfl, rfl⟩ rfl Try.underlying32 rfl Try.underlying9 c9 (by decide) ?_
          refine Dv.ldb rfl ⟨_, _, rfl, rfl, rfl⟩ rfl Try.underlying9 rfl (mem_at 0 rfl) rfl ?_
          obtain ⟨t540, h541, H⟩ := Gets.call H
          refine Dv.call rfl ⟨_, _, rfl, rfl, rfl⟩ cal64 rfl (name_User.c h541) ?_
          refine Dv.pickT rfl trivial rfl rfl ?_
          refine Dv.mv rfl trivial rfl ?_
          cases c542 : t540
          · replace H := Gets.cf H c542
            refine Dv.skip rfl ⟨_, _, rfl, rfl, .inl rfl⟩ ?_
            refine Dv.skip rfl ⟨_, _, rfl, rfl, .inl rfl⟩ ?_
            refine Dv.skip rfl ⟨_, _, rfl, rfl, .inl rfl⟩ ?_
            refine Dv.skip rfl ⟨_, _, rfl, rfl, .inl rfl⟩ ?_
            refine Dv.pickF rfl trivial rfl rfl ?_
            refine Dv.mv rfl trivial rfl ?_
            refine Dv.skip rfl ⟨_, _, rfl, rfl, .inl rfl⟩ ?_
            refine Dv.skip rfl ⟨_, _, rfl, rfl, .inl rfl⟩ ?_
            refine Dv.skip rfl ⟨_, _, rfl, rfl, .inl rfl⟩ ?_
            refine Dv.skip rfl ⟨_, _, rfl, rfl, .inl rfl⟩ ?_
            refine Dv.pickF rfl trivial rfl rfl ?_
            refine Dv.asg rfl trivial rfl ?_
            refine .fin ?_
            obtain rfl := Gets.out H
            exact WP.retL (fun _ _ h => h) rfl () trivial (.cons (res_tmp rfl) .nil) rfl (st_sel (L := [blk b526 32 [eq (.int .i64 a0.fKind), eq (.string a0.fRoom), eq (.string a0.fUser), eq (.string a0.fEvent), eq (.string a0.fThread), eq (.bool a0.fPrivate), eq (.bool a0.fOn), eq (.int .i64 a0.fSpan), eq (.int .i64 a0.fState), eq (.int .i64 a0.fTick), eq (.int .i64 a0.fStamp)]]) (F := F) [0] 1 rfl rfl rfl)
          · replace H := Gets.ct H c542
            refine Dv.mv rfl ⟨_, _, rfl, rfl, rfl⟩ rfl ?_
            refine Dv.fab rfl ⟨_, _, rfl, rfl, rfl⟩ rfl Try.underlying32 rfl Try.underlying3 c3 (by decide) ?_
            refine Dv.ldb rfl ⟨_, _, rfl, rfl, rfl⟩ rfl Try.underlying3 rfl (mem_at 0 rfl) rfl ?_
            obtain ⟨t543, h544, H⟩ := Gets.call H
            refine Dv.callk rfl ⟨_, _, rfl, rfl, rfl⟩ rfl cal62 rfl (edu_Local_1.c h544) ?_
            refine Dv.pickT rfl trivial rfl rfl ?_
            refine Dv.mv rfl trivial rfl ?_
            cases c545 : t543
            · replace H := Gets.cf H c545
              refine Dv.skip rfl ⟨_, _, rfl, rfl, .inl rfl⟩ ?_
              refine Dv.skip rfl ⟨_, _, rfl, rfl, .inl rfl⟩ ?_
              refine Dv.skip rfl ⟨_, _, rfl, rfl, .inl rfl⟩ ?_
              refine Dv.skip rfl ⟨_, _, rfl, rfl, .inl rfl⟩ ?_
              refine Dv.pickF rfl trivial rfl rfl ?_
              refine Dv.asg rfl trivial rfl ?_
              refine .fin ?_
              obtain rfl := Gets.out H
              exact WP.retL (fun _ _ h => h) rfl () trivial (.cons (res_tmp rfl) .nil) rfl (st_sel (L := [blk b526 32 [eq (.int .i64 a0.fKind), eq (.string a0.fRoom), eq (.string a0.fUser), eq (.string a0.fEvent), eq (.string a0.fThread), eq (.bool a0.fPrivate), eq (.bool a0.fOn), eq (.int .i64 a0.fSpan), eq (.int .i64 a0.fState), eq (.int .i64 a0.fTick), eq (.int .i64 a0.fStamp)]]) (F := F) [0] 1 rfl rfl rfl)
            · replace H := Gets.ct H c545
              refine Dv.mv rfl ⟨_, _, rfl, rfl, rfl⟩ rfl ?_
              refine Dv.fab rfl ⟨_, _, rfl, rfl, rfl⟩ rfl Try.underlying32 rfl Try.underlying3 c3 (by decide) ?_
              refine Dv.ldb rfl ⟨_, _, rfl, rfl, rfl⟩ rfl Try.underlying3 rfl (mem_at 0 rfl) rfl ?_
              obtain ⟨t546, h547, H⟩ := Gets.call H
              refine Dv.callk rfl ⟨_, _, rfl, rfl, rfl⟩ rfl cal62 rfl (edu_Local_1.c h547) ?_
              refine Dv.pickT rfl trivial rfl rfl ?_
              refine Dv.asg rfl trivial rfl ?_
              refine .fin ?_
              obtain rfl := Gets.out H
              exact WP.retL (fun _ _ h => h) rfl () trivial (.cons (res_tmp rfl) .nil) rfl (st_sel (L := [blk b526 32 [eq (.int .i64 a0.fKind), eq (.string a0.fRoom), eq (.string a0.fUser), eq (.string a0.fEvent), eq (.string a0.fThread), eq (.bool a0.fPrivate), eq (.bool a0.fOn), eq (.int .i64 a0.fSpan), eq (.int .i64 a0.fState), eq (.int .i64 a0.fTick), eq (.int .i64 a0.fStamp)]]) (F := F) [0] 1 rfl rfl rfl)
    · replace H := Gets.ct H c529
      refine Dv.skip rfl ⟨_, _, rfl, rfl, .inl rfl⟩ ?_
      refine Dv.skip rfl ⟨_, _, rfl, rfl, .inl rfl⟩ ?_
      refine Dv.skip rfl ⟨_, _, rfl, rfl, .inl rfl⟩ ?_
      refine Dv.skip rfl ⟨_, _, rfl, rfl, .inl rfl⟩ ?_
      refine Dv.skip rfl ⟨_, _, rfl, rfl, .inl rfl⟩ ?_
      refine Dv.skip rfl ⟨_, _, rfl, rfl, .inl rfl⟩ ?_
      refine Dv.skip rfl ⟨_, _, rfl, rfl, .inl rfl⟩ ?_
      refine Dv.skip rfl ⟨_, _, rfl, rfl, .inl rfl⟩ ?_
      refine Dv.pickT rfl trivial rfl rfl ?_
      refine .fin ?_
      refine WP.cond rfl (fun _ => ?_) nofun
      refine WP.seq ?_
      refine WP.reg [(0, false)] (by kernel_rfl) ?_
      refine Dv.asg rfl trivial rfl ?_
      refine .fin ?_
      obtain rfl := Gets.out H
      exact WP.retL (fun _ _ h => h) rfl () trivial (.cons (res_tmp rfl) .nil) rfl (st_sel (L := [blk b526 32 [eq (.int .i64 a0.fKind), eq (.string a0.fRoom), eq (.string a0.fUser), eq (.string a0.fEvent), eq (.string a0.fThread), eq (.bool a0.fPrivate), eq (.bool a0.fOn), eq (.int .i64 a0.fSpan), eq (.int .i64 a0.fState), eq (.int .i64 a0.fTick), eq (.int .i64 a0.fStamp)]]) (F := F) [0] 1 rfl rfl rfl)
  · replace H := Gets.ct H c527
    refine Dv.skip rfl ⟨_, _, rfl, rfl, .inl rfl⟩ ?_
    refine Dv.skip rfl ⟨_, _, rfl, rfl, .inl rfl⟩ ?_
    refine Dv.skip rfl ⟨_, _, rfl, rfl, .inl rfl⟩ ?_
    refine Dv.pickT rfl trivial rfl rfl ?_
    refine Dv.mv rfl trivial rfl ?_
    refine Dv.skip rfl ⟨_, _, rfl, rfl, .inl rfl⟩ ?_
    refine Dv.skip rfl ⟨_, _, rfl, rfl, .inl rfl⟩ ?_
    refine Dv.skip rfl ⟨_, _, rfl, rfl, .inl rfl⟩ ?_
    refine Dv.skip rfl ⟨_, _, rfl, rfl, .inl rfl⟩ ?_
    refine Dv.skip rfl ⟨_, _, rfl, rfl, .inl rfl⟩ ?_
    refine Dv.skip rfl ⟨_, _, rfl, rfl, .inl rfl⟩ ?_
    refine Dv.skip rfl ⟨_, _, rfl, rfl, .inl rfl⟩ ?_
    refine Dv.skip rfl ⟨_, _, rfl, rfl, .inl rfl⟩ ?_
    refine Dv.pickT rfl trivial rfl rfl ?_
    refine .fin ?_
    refine WP.cond rfl (fun _ => ?_) nofun
    refine WP.seq ?_
    refine WP.reg [(0, false)] (by kernel_rfl) ?_
    refine Dv.asg rfl trivial rfl ?_
    refine .fin ?_
    obtain rfl := Gets.out H
    exact WP.retL (fun _ _ h => h) rfl () trivial (.cons (res_tmp rfl) .nil) rfl (st_sel (L := [blk b526 32 [eq (.int .i64 a0.fKind), eq (.string a0.fRoom), eq (.string a0.fUser), eq (.string a0.fEvent), eq (.string a0.fThread), eq (.bool a0.fPrivate), eq (.bool a0.fOn), eq (.int .i64 a0.fSpan), eq (.int .i64 a0.fState), eq (.int .i64 a0.fTick), eq (.int .i64 a0.fStamp)]]) (F := F) [0] 1 rfl rfl rfl)
theorem edu_May.c {k : Nat} {a0 : Edu} {r : Bool} (h : edu_May.f k a0 = some r) : Pt Try.prog 28 [agg (Edu.enc a0)] (eq (.bool r)) := by
  unfold edu_May.f at h
  refine (Tr.body Try.func28 (c := _) rfl Try.ntmps28 (Nat.le_of_ble_eq_true rfl) fun R0 F => ?_).pt
  replace h := Gets.of h
  have H := h
  clear h
  refine WP.seq ?_
  refine WP.reg [(0, true), (1, false)] (by kernel_rfl) ?_
  refine Dv.box rfl trivial rfl (cells_agg (Edu.K.one _)) nofun (fun b548 => ?_)
  refine Dv.asg rfl trivial rfl ?_
  refine .fin ?_
  refine WP.seq ?_
  refine WP.reg [(0, false), (1, false), (2, false), (3, false), (4, false), (5, false), (6, false), (7, false)] (by kernel_rfl) ?_
  refine Dv.ldbs rfl trivial rfl Try.underlying32 rfl c32 (mem_at 0 rfl) (Nat.le_of_ble_eq_true rfl) ?_
  obtain ⟨t549, h550, H⟩ := Gets.call H
  refine Dv.call rfl trivial cal42 rfl (edu_Local.c h550) ?_
  refine Dv.mv rfl trivial rfl ?_
  cases c551 : t549
  · replace H := Gets.cf H c551
    refine Dv.skip rfl ⟨_, _, rfl, rfl, .inl rfl⟩ ?_
    refine Dv.skip rfl ⟨_, _, rfl, rfl, .inl rfl⟩ ?_
    refine Dv.skip rfl ⟨_, _, rfl, rfl, .inl rfl⟩ ?_
    refine Dv.pickF rfl trivial rfl rfl ?_
    refine Dv.asg rfl trivial rfl ?_
    refine .fin ?_
    obtain rfl := Gets.out H
    exact WP.retL (fun _ _ h => h) rfl () trivial (.cons (res_tmp rfl) .nil) rfl (st_sel (L := [blk b548 32 [eq (.int .i64 a0.fKind), eq (.string a0.fRoom), eq (.string a0.fUser), eq (.string a0.fEvent), eq (.string a0.fThread), eq (.bool a0.fPrivate), eq (.bool a0.fOn), eq (.int .i64 a0.fSpan), eq (.int .i64 a0.fState), eq (.int .i64 a0.fTick), eq (.int .i64 a0.fStamp)]]) (F := F) [0] 1 rfl rfl rfl)
  · replace H := Gets.ct H c551
    refine Dv.fab rfl ⟨_, _, rfl, rfl, rfl⟩ rfl Try.underlying32 rfl Try.underlying4 c4 (by decide) ?_
    refine Dv.ldb rfl ⟨_, _, rfl, rfl, rfl⟩ rfl Try.underlying4 rfl (mem_at 0 rfl) rfl ?_
    refine Dv.un rfl ⟨_, _, rfl, rfl, rfl⟩ rfl (fun _ => run_not _) ?_
    refine Dv.pickT rfl trivial rfl rfl ?_
    refine Dv.asg rfl trivial rfl ?_
    refine .fin ?_
    obtain rfl := Gets.out H
    exact WP.retL (fun _ _ h => h) rfl () trivial (.cons (res_tmp rfl) .nil) rfl (st_sel (L := [blk b548 32 [eq (.int .i64 a0.fKind), eq (.string a0.fRoom), eq (.string a0.fUser), eq (.string a0.fEvent), eq (.string a0.fThread), eq (.bool a0.fPrivate), eq (.bool a0.fOn), eq (.int .i64 a0.fSpan), eq (.int .i64 a0.fState), eq (.int .i64 a0.fTick), eq (.int .i64 a0.fStamp)]]) (F := F) [0] 1 rfl rfl rfl)
end Go.Proofs.Ytmbodanckhidiaa
