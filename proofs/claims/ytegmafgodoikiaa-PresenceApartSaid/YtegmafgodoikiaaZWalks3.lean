/- The walks. -/
import Derived.Test.YtegmafgodoikiaaZWalks2
import Derived.Test.YtegmafgodoikiaaConU
import Derived.Eval
set_option linter.all false
set_option maxRecDepth 10000
set_option maxHeartbeats 20000000
namespace Go.Proofs.Ytegmafgodoikiaa
open Go Go.Sp
theorem edu_laid.c {k : Nat} {a0 : Edu} {r : (List Int)} (h : edu_laid.f k a0 = some r) : Tr Try.prog 59 [agg (Edu.enc a0)] [] (γ := OV) (fun _ => True) (fun g => eq g.1) (fun g => [own (intK .u8) g.1 r]) := by
  unfold edu_laid.f at h
  refine Tr.body Try.func59 (c := _) rfl Try.ntmps59 (Nat.le_of_ble_eq_true rfl) fun R0 F => ?_
  replace h := Gets.of h
  have H := h
  clear h
  refine WP.seq ?_
  refine WP.reg [(0, true), (1, false)] (by kernel_rfl) ?_
  refine Dv.box rfl trivial rfl (cells_agg (Edu.K.one _)) nofun (fun b591 => ?_)
  refine Dv.asg rfl trivial rfl ?_
  refine .fin ?_
  refine WP.seq ?_
  refine WP.reg [(0, false), (1, false), (2, true), (3, false)] (by kernel_rfl) ?_
  refine Dv.fab rfl trivial rfl Try.underlying24 rfl Try.underlying3 c3 (by decide) ?_
  refine Dv.ldb rfl trivial rfl Try.underlying3 rfl (mem_at 0 rfl) rfl ?_
  refine Dv.gh (gh_of (st_nil (intK .u8) none)) (fun _ _ => ?_)
  obtain ⟨t592, h593, H⟩ := Gets.call H
  refine Dv.callx (pre := [own (intK .u8) nilV.1 ([] : List Int)]) (F := [blk b591 24 [eq (.int .i64 a0.fKind), eq (.string a0.fRoom), eq (.string a0.fUser), eq (.string a0.fEvent), eq (.string a0.fThread), eq (.bool a0.fPrivate), eq (.bool a0.fOn), eq (.int .i64 a0.fSpan), eq (.int .i64 a0.fState), eq (.int .i64 a0.fTick), eq (.int .i64 a0.fStamp)]] ++ F) (fun g594 : OV => [own (intK .u8) g594.1 t592, blk b591 24 [eq (.int .i64 a0.fKind), eq (.string a0.fRoom), eq (.string a0.fUser), eq (.string a0.fEvent), eq (.string a0.fThread), eq (.bool a0.fPrivate), eq (.bool a0.fOn), eq (.int .i64 a0.fSpan), eq (.int .i64 a0.fState), eq (.int .i64 a0.fTick), eq (.int .i64 a0.fStamp)]] ++ F) rfl trivial cal77 rfl (lay_Number.c h593 (p0_ := nilV)) (perm_to (L := [own (intK .u8) nilV.1 ([] : List Int), blk b591 24 [eq (.int .i64 a0.fKind), eq (.string a0.fRoom), eq (.string a0.fUser), eq (.string a0.fEvent), eq (.string a0.fThread), eq (.bool a0.fPrivate), eq (.bool a0.fOn), eq (.int .i64 a0.fSpan), eq (.int .i64 a0.fState), eq (.int .i64 a0.fTick), eq (.int .i64 a0.fStamp)]]) (F := F) [0, 1] rfl rfl rfl) rfl nofun (fun g594 _ => ?_)
  refine Dv.asg rfl trivial rfl ?_
  refine .fin ?_
  refine WP.seqn H (fun q623 : (Int × Bool × (List Int)) × OV => q623.1) (fun q623 : (Int × Bool × (List Int)) × OV => [(0, agg (Edu.enc a0)), (1, eq (.pointer (some ⟨b591, 0, none⟩))), (2, eq (.slice none 0 0)), (3, eq q623.2.1), (19, sl strK ([a0.fRoom, a0.fUser, a0.fEvent, a0.fThread] : List ByteArray)), (20, eq (.int .i64 (([a0.fRoom, a0.fUser, a0.fEvent, a0.fThread] : List ByteArray).length : Int))), (21, eq (.int .i64 q623.1.1)), (22, eq (.bool q623.1.2.1))]) (fun q623 : (Int × Bool × (List Int)) × OV => [blk b591 24 [eq (.int .i64 a0.fKind), eq (.string a0.fRoom), eq (.string a0.fUser), eq (.string a0.fEvent), eq (.string a0.fThread), eq (.bool a0.fPrivate), eq (.bool a0.fOn), eq (.int .i64 a0.fSpan), eq (.int .i64 a0.fState), eq (.int .i64 a0.fTick), eq (.int .i64 a0.fStamp)], own (intK .u8) q623.2.1 q623.1.2.2] ++ F) (fun q623 H => ?_) (fun H => ?_)
  · obtain ⟨p595, v596⟩ := q623
    refine WP.seq ?_
    refine WP.reg [(0, false), (1, false), (2, false), (3, true), (4, false)] (by kernel_rfl) ?_
    refine Dv.mv rfl trivial rfl ?_
    refine Dv.fab rfl trivial rfl Try.underlying24 rfl Try.underlying4 c4 (by decide) ?_
    refine Dv.ldb rfl trivial rfl Try.underlying4 rfl (mem_at 0 rfl) rfl ?_
    obtain ⟨t597, h598, H⟩ := Gets.call H
    refine Dv.callx (pre := [own (intK .u8) v596.1 p595.2.2]) (F := [blk b591 24 [eq (.int .i64 a0.fKind), eq (.string a0.fRoom), eq (.string a0.fUser), eq (.string a0.fEvent), eq (.string a0.fThread), eq (.bool a0.fPrivate), eq (.bool a0.fOn), eq (.int .i64 a0.fSpan), eq (.int .i64 a0.fState), eq (.int .i64 a0.fTick), eq (.int .i64 a0.fStamp)]] ++ F) (fun g599 : OV => [own (intK .u8) g599.1 t597, blk b591 24 [eq (.int .i64 a0.fKind), eq (.string a0.fRoom), eq (.string a0.fUser), eq (.string a0.fEvent), eq (.string a0.fThread), eq (.bool a0.fPrivate), eq (.bool a0.fOn), eq (.int .i64 a0.fSpan), eq (.int .i64 a0.fState), eq (.int .i64 a0.fTick), eq (.int .i64 a0.fStamp)]] ++ F) rfl trivial cal79 rfl (lay_Flag.c h598 (p0_ := v596)) (perm_to (L := [blk b591 24 [eq (.int .i64 a0.fKind), eq (.string a0.fRoom), eq (.string a0.fUser), eq (.string a0.fEvent), eq (.string a0.fThread), eq (.bool a0.fPrivate), eq (.bool a0.fOn), eq (.int .i64 a0.fSpan), eq (.int .i64 a0.fState), eq (.int .i64 a0.fTick), eq (.int .i64 a0.fStamp)], own (intK .u8) v596.1 p595.2.2]) (F := F) [1, 0] rfl rfl rfl) rfl nofun (fun g599 _ => ?_)
    refine Dv.asg rfl trivial rfl ?_
    refine .fin ?_
    refine WP.seqn H (fun q612 : (Int × Bool × (List Int)) × OV => q612.1) (fun q612 : (Int × Bool × (List Int)) × OV => [(0, agg (Edu.enc a0)), (1, eq (.pointer (some ⟨b591, 0, none⟩))), (2, eq (.slice none 0 0)), (3, eq q612.2.1), (19, sl strK ([a0.fRoom, a0.fUser, a0.fEvent, a0.fThread] : List ByteArray)), (20, eq (.int .i64 (([a0.fRoom, a0.fUser, a0.fEvent, a0.fThread] : List ByteArray).length : Int))), (21, eq (.int .i64 p595.1)), (22, eq (.bool p595.2.1)), (41, sl (intK .i64) ([a0.fSpan, a0.fState, a0.fTick, a0.fStamp] : List Int)), (42, eq (.int .i64 (([a0.fSpan, a0.fState, a0.fTick, a0.fStamp] : List Int).length : Int))), (43, eq (.int .i64 q612.1.1)), (44, eq (.bool q612.1.2.1))]) (fun q612 : (Int × Bool × (List Int)) × OV => [blk b591 24 [eq (.int .i64 a0.fKind), eq (.string a0.fRoom), eq (.string a0.fUser), eq (.string a0.fEvent), eq (.string a0.fThread), eq (.bool a0.fPrivate), eq (.bool a0.fOn), eq (.int .i64 a0.fSpan), eq (.int .i64 a0.fState), eq (.int .i64 a0.fTick), eq (.int .i64 a0.fStamp)], own (intK .u8) q612.2.1 q612.1.2.2] ++ F) (fun q612 H => ?_) (fun H => ?_)
    · obtain ⟨p600, v601⟩ := q612
      refine WP.seq ?_
      refine WP.reg [(0, false), (1, false)] (by kernel_rfl) ?_
      refine Dv.mv rfl trivial rfl ?_
      refine Dv.asg rfl trivial rfl ?_
      refine .fin ?_
      obtain rfl := Gets.out H
      exact WP.retL (fun _ _ h => h) rfl v601 trivial (.cons (res_tmp rfl) .nil) rfl (st_sel (L := [blk b591 24 [eq (.int .i64 a0.fKind), eq (.string a0.fRoom), eq (.string a0.fUser), eq (.string a0.fEvent), eq (.string a0.fThread), eq (.bool a0.fPrivate), eq (.bool a0.fOn), eq (.int .i64 a0.fSpan), eq (.int .i64 a0.fState), eq (.int .i64 a0.fTick), eq (.int .i64 a0.fStamp)], own (intK .u8) v601.1 p600.2.2]) (F := F) [0, 1] 1 rfl rfl rfl)
    · refine WP.seq ?_
      refine WP.reg [(0, false), (1, false), (2, false), (3, false), (4, false), (5, false), (6, false), (7, false), (8, false), (9, false), (10, false)] (by kernel_rfl) ?_
      refine Dv.fab rfl trivial rfl Try.underlying24 rfl Try.underlying3 c3 (by decide) ?_
      refine Dv.ldb rfl trivial rfl Try.underlying3 rfl (mem_at 1 rfl) rfl ?_
      refine Dv.fab rfl trivial rfl Try.underlying24 rfl Try.underlying3 c3 (by decide) ?_
      refine Dv.ldb rfl trivial rfl Try.underlying3 rfl (mem_at 1 rfl) rfl ?_
      refine Dv.fab rfl trivial rfl Try.underlying24 rfl Try.underlying3 c3 (by decide) ?_
      refine Dv.ldb rfl trivial rfl Try.underlying3 rfl (mem_at 1 rfl) rfl ?_
      refine Dv.fab rfl trivial rfl Try.underlying24 rfl Try.underlying3 c3 (by decide) ?_
      refine Dv.ldb rfl trivial rfl Try.underlying3 rfl (mem_at 1 rfl) rfl ?_
      refine Dv.lit (intK .i64) ([a0.fSpan, a0.fState, a0.fTick, a0.fStamp] : List Int) (css := [[eq (.int .i64 a0.fSpan)], [eq (.int .i64 a0.fState)], [eq (.int .i64 a0.fTick)], [eq (.int .i64 a0.fStamp)]]) rfl trivial Try.underlying27 Try.underlying3 c3 z3 rfl (by decide) (by decide) rfl ⟨(cells_one (one_eq rfl)), ⟨(cells_one (one_eq rfl)), ⟨(cells_one (one_eq rfl)), ⟨(cells_one (one_eq rfl)), trivial⟩⟩⟩⟩ rfl rfl rfl ?_
      refine Dv.lenl rfl trivial rfl Try.underlying27 ?_
      refine Dv.mv rfl trivial rfl ?_
      refine .fin ?_
      refine WP.block ?_
      refine WP.gh (l' := fun _ => [blk b591 24 [eq (.int .i64 a0.fKind), eq (.string a0.fRoom), eq (.string a0.fUser), eq (.string a0.fEvent), eq (.string a0.fThread), eq (.bool a0.fPrivate), eq (.bool a0.fOn), eq (.int .i64 a0.fSpan), eq (.int .i64 a0.fState), eq (.int .i64 a0.fTick), eq (.int .i64 a0.fStamp)], own (intK .u8) g599.1 t597] ++ F) (gh_of (st_selg (L := [own (intK .u8) g599.1 t597, blk b591 24 [eq (.int .i64 a0.fKind), eq (.string a0.fRoom), eq (.string a0.fUser), eq (.string a0.fEvent), eq (.string a0.fThread), eq (.bool a0.fPrivate), eq (.bool a0.fOn), eq (.int .i64 a0.fSpan), eq (.int .i64 a0.fState), eq (.int .i64 a0.fTick), eq (.int .i64 a0.fStamp)]]) (F := F) [1, 0] 0 rfl rfl rfl)) (fun _ _ => ?_)
      refine WP.loopg (fun j_ (p611 : Int × (List Int) × OV) => edu_laid.l0 k a0 j_ p611.1 p611.2.1) (0, t597, g599) H (fun p611 => [(0, agg (Edu.enc a0)), (1, eq (.pointer (some ⟨b591, 0, none⟩))), (2, eq (.slice none 0 0)), (3, eq p611.2.2.1), (19, sl strK ([a0.fRoom, a0.fUser, a0.fEvent, a0.fThread] : List ByteArray)), (20, eq (.int .i64 (([a0.fRoom, a0.fUser, a0.fEvent, a0.fThread] : List ByteArray).length : Int))), (21, eq (.int .i64 p595.1)), (22, eq (.bool p595.2.1)), (41, sl (intK .i64) ([a0.fSpan, a0.fState, a0.fTick, a0.fStamp] : List Int)), (42, eq (.int .i64 (([a0.fSpan, a0.fState, a0.fTick, a0.fStamp] : List Int).length : Int))), (43, eq (.int .i64 p611.1))]) (fun p611 => [blk b591 24 [eq (.int .i64 a0.fKind), eq (.string a0.fRoom), eq (.string a0.fUser), eq (.string a0.fEvent), eq (.string a0.fThread), eq (.bool a0.fPrivate), eq (.bool a0.fOn), eq (.int .i64 a0.fSpan), eq (.int .i64 a0.fState), eq (.int .i64 a0.fTick), eq (.int .i64 a0.fStamp)], own (intK .u8) p611.2.2.1 p611.2.1] ++ F) (weak_cons rfl (weak_cons rfl (weak_cons rfl (weak_cons rfl (weak_cons rfl (weak_cons rfl (weak_cons rfl (weak_cons rfl (weak_cons rfl (weak_cons rfl (weak_cons rfl weak_nil))))))))))) (List.Perm.refl _) ?_
      rintro j_ ⟨x602, x603, v604⟩ H
      rcases j_ with _ | j610
      · exact (Gets.no H).elim
      replace H : Gets (edu_laid.l0 k a0 (j610 + 1) x602 x603) _ := H
      rw [edu_laid.l0] at H
      refine WP.seq ?_
      refine WP.reg [(0, false)] (by kernel_rfl) ?_
      refine Dv.bin rfl trivial rfl rfl (fun _ => run_lt) ?_
      refine .fin ?_
      refine WP.seq ?_
      refine WP.cond rfl (fun c605 => ?_) (fun c605 => ?_)
      · replace H := Gets.ct H c605
        refine WP.skip ?_
        refine WP.seq ?_
        refine WP.block ?_
        refine WP.seq ?_
        refine WP.reg [(0, false), (1, false), (2, false)] (by kernel_rfl) ?_
        obtain ⟨g606, H⟩ := Gets.grd H
        refine Dv.ixr rfl trivial rfl rfl Try.underlying27 Try.underlying3 c3 g606.1 g606.2 ?_
        refine Dv.ldr rfl trivial rfl Try.underlying3 rfl rfl ?_
        refine Dv.asg rfl trivial rfl ?_
        refine .fin ?_
        refine WP.reg [(0, false), (1, false), (2, true), (3, false)] (by kernel_rfl) ?_
        refine Dv.mv rfl trivial rfl ?_
        refine Dv.mv rfl trivial rfl ?_
        obtain ⟨t607, h608, H⟩ := Gets.call H
        refine Dv.callx (pre := [own (intK .u8) v604.1 x603]) (F := [blk b591 24 [eq (.int .i64 a0.fKind), eq (.string a0.fRoom), eq (.string a0.fUser), eq (.string a0.fEvent), eq (.string a0.fThread), eq (.bool a0.fPrivate), eq (.bool a0.fOn), eq (.int .i64 a0.fSpan), eq (.int .i64 a0.fState), eq (.int .i64 a0.fTick), eq (.int .i64 a0.fStamp)]] ++ F) (fun g609 : OV => [own (intK .u8) g609.1 t607, blk b591 24 [eq (.int .i64 a0.fKind), eq (.string a0.fRoom), eq (.string a0.fUser), eq (.string a0.fEvent), eq (.string a0.fThread), eq (.bool a0.fPrivate), eq (.bool a0.fOn), eq (.int .i64 a0.fSpan), eq (.int .i64 a0.fState), eq (.int .i64 a0.fTick), eq (.int .i64 a0.fStamp)]] ++ F) rfl trivial cal77 rfl (lay_Number.c h608 (p0_ := v604)) (perm_to (L := [blk b591 24 [eq (.int .i64 a0.fKind), eq (.string a0.fRoom), eq (.string a0.fUser), eq (.string a0.fEvent), eq (.string a0.fThread), eq (.bool a0.fPrivate), eq (.bool a0.fOn), eq (.int .i64 a0.fSpan), eq (.int .i64 a0.fState), eq (.int .i64 a0.fTick), eq (.int .i64 a0.fStamp)], own (intK .u8) v604.1 x603]) (F := F) [1, 0] rfl rfl rfl) rfl nofun (fun g609 _ => ?_)
        refine Dv.asg rfl trivial rfl ?_
        refine .fin ?_
        refine WP.reg [(0, false), (1, false)] (by kernel_rfl) ?_
        refine Dv.bin rfl trivial rfl rfl (fun _ => run_add) ?_
        refine Dv.mv rfl trivial rfl ?_
        refine .fin ?_
        refine Dn.gh (l' := fun _ : Unit => [blk b591 24 [eq (.int .i64 a0.fKind), eq (.string a0.fRoom), eq (.string a0.fUser), eq (.string a0.fEvent), eq (.string a0.fThread), eq (.bool a0.fPrivate), eq (.bool a0.fOn), eq (.int .i64 a0.fSpan), eq (.int .i64 a0.fState), eq (.int .i64 a0.fTick), eq (.int .i64 a0.fStamp)], own (intK .u8) g609.1 t607] ++ F) (gh_of (st_selg (L := [own (intK .u8) g609.1 t607, blk b591 24 [eq (.int .i64 a0.fKind), eq (.string a0.fRoom), eq (.string a0.fUser), eq (.string a0.fEvent), eq (.string a0.fThread), eq (.bool a0.fPrivate), eq (.bool a0.fOn), eq (.int .i64 a0.fSpan), eq (.int .i64 a0.fState), eq (.int .i64 a0.fTick), eq (.int .i64 a0.fStamp)]]) (F := F) [1, 0] 0 rfl rfl rfl)) (fun _ _ => ?_)
        exact Back.mk j610 (w64 (x602 + 1), t607, g609) (Nat.lt_succ_self _) H (weak_cons rfl (weak_cons rfl (weak_cons rfl (weak_cons rfl (weak_cons rfl (weak_cons rfl (weak_cons rfl (weak_cons rfl (weak_cons rfl (weak_cons rfl (weak_cons rfl weak_nil))))))))))) (List.Perm.refl _)
      · replace H := Gets.cf H c605
        refine WP.exit ?_
        replace H := Gets.out H
        exact Jn.mk ((x602, decide (x602 < (([a0.fSpan, a0.fState, a0.fTick, a0.fStamp] : List Int).length : Int)), x603), v604) H (weak_cons rfl (weak_cons rfl (weak_cons rfl (weak_cons rfl (weak_cons rfl (weak_cons rfl (weak_cons rfl (weak_cons rfl (weak_cons rfl (weak_cons rfl (weak_cons rfl (weak_cons rfl weak_nil)))))))))))) (List.Perm.refl _)
  · refine WP.seq ?_
    refine WP.reg [(0, false), (1, false), (2, false), (3, false), (4, false), (5, false), (6, false), (7, false), (8, false), (9, false), (10, false)] (by kernel_rfl) ?_
    refine Dv.fab rfl trivial rfl Try.underlying24 rfl Try.underlying9 c9 (by decide) ?_
    refine Dv.ldb rfl trivial rfl Try.underlying9 rfl (mem_at 1 rfl) rfl ?_
    refine Dv.fab rfl trivial rfl Try.underlying24 rfl Try.underlying9 c9 (by decide) ?_
    refine Dv.ldb rfl trivial rfl Try.underlying9 rfl (mem_at 1 rfl) rfl ?_
    refine Dv.fab rfl trivial rfl Try.underlying24 rfl Try.underlying9 c9 (by decide) ?_
    refine Dv.ldb rfl trivial rfl Try.underlying9 rfl (mem_at 1 rfl) rfl ?_
    refine Dv.fab rfl trivial rfl Try.underlying24 rfl Try.underlying9 c9 (by decide) ?_
    refine Dv.ldb rfl trivial rfl Try.underlying9 rfl (mem_at 1 rfl) rfl ?_
    refine Dv.lit strK ([a0.fRoom, a0.fUser, a0.fEvent, a0.fThread] : List ByteArray) (css := [[eq (.string a0.fRoom)], [eq (.string a0.fUser)], [eq (.string a0.fEvent)], [eq (.string a0.fThread)]]) rfl trivial Try.underlying42 Try.underlying9 c9 z9 rfl (by decide) (by decide) rfl ⟨(cells_one (one_eq rfl)), ⟨(cells_one (one_eq rfl)), ⟨(cells_one (one_eq rfl)), ⟨(cells_one (one_eq rfl)), trivial⟩⟩⟩⟩ rfl rfl rfl ?_
    refine Dv.lenl rfl trivial rfl Try.underlying42 ?_
    refine Dv.mv rfl trivial rfl ?_
    refine .fin ?_
    refine WP.block ?_
    refine WP.gh (l' := fun _ => [blk b591 24 [eq (.int .i64 a0.fKind), eq (.string a0.fRoom), eq (.string a0.fUser), eq (.string a0.fEvent), eq (.string a0.fThread), eq (.bool a0.fPrivate), eq (.bool a0.fOn), eq (.int .i64 a0.fSpan), eq (.int .i64 a0.fState), eq (.int .i64 a0.fTick), eq (.int .i64 a0.fStamp)], own (intK .u8) g594.1 t592] ++ F) (gh_of (st_selg (L := [own (intK .u8) g594.1 t592, blk b591 24 [eq (.int .i64 a0.fKind), eq (.string a0.fRoom), eq (.string a0.fUser), eq (.string a0.fEvent), eq (.string a0.fThread), eq (.bool a0.fPrivate), eq (.bool a0.fOn), eq (.int .i64 a0.fSpan), eq (.int .i64 a0.fState), eq (.int .i64 a0.fTick), eq (.int .i64 a0.fStamp)]]) (F := F) [1, 0] 0 rfl rfl rfl)) (fun _ _ => ?_)
    refine WP.loopg (fun j_ (p622 : Int × (List Int) × OV) => edu_laid.l1 k a0 j_ p622.1 p622.2.1) (0, t592, g594) H (fun p622 => [(0, agg (Edu.enc a0)), (1, eq (.pointer (some ⟨b591, 0, none⟩))), (2, eq (.slice none 0 0)), (3, eq p622.2.2.1), (19, sl strK ([a0.fRoom, a0.fUser, a0.fEvent, a0.fThread] : List ByteArray)), (20, eq (.int .i64 (([a0.fRoom, a0.fUser, a0.fEvent, a0.fThread] : List ByteArray).length : Int))), (21, eq (.int .i64 p622.1))]) (fun p622 => [blk b591 24 [eq (.int .i64 a0.fKind), eq (.string a0.fRoom), eq (.string a0.fUser), eq (.string a0.fEvent), eq (.string a0.fThread), eq (.bool a0.fPrivate), eq (.bool a0.fOn), eq (.int .i64 a0.fSpan), eq (.int .i64 a0.fState), eq (.int .i64 a0.fTick), eq (.int .i64 a0.fStamp)], own (intK .u8) p622.2.2.1 p622.2.1] ++ F) (weak_cons rfl (weak_cons rfl (weak_cons rfl (weak_cons rfl (weak_cons rfl (weak_cons rfl (weak_cons rfl weak_nil))))))) (List.Perm.refl _) ?_
    rintro j_ ⟨x613, x614, v615⟩ H
    rcases j_ with _ | j621
    · exact (Gets.no H).elim
    replace H : Gets (edu_laid.l1 k a0 (j621 + 1) x613 x614) _ := H
    rw [edu_laid.l1] at H
    refine WP.seq ?_
    refine WP.reg [(0, false)] (by kernel_rfl) ?_
    refine Dv.bin rfl trivial rfl rfl (fun _ => run_lt) ?_
    refine .fin ?_
    refine WP.seq ?_
    refine WP.cond rfl (fun c616 => ?_) (fun c616 => ?_)
    · replace H := Gets.ct H c616
      refine WP.skip ?_
      refine WP.seq ?_
      refine WP.block ?_
      refine WP.seq ?_
      refine WP.reg [(0, false), (1, false), (2, false)] (by kernel_rfl) ?_
      obtain ⟨g617, H⟩ := Gets.grd H
      refine Dv.ixr rfl trivial rfl rfl Try.underlying42 Try.underlying9 c9 g617.1 g617.2 ?_
      refine Dv.ldr rfl trivial rfl Try.underlying9 rfl rfl ?_
      refine Dv.asg rfl trivial rfl ?_
      refine .fin ?_
      refine WP.reg [(0, false), (1, false), (2, true), (3, false)] (by kernel_rfl) ?_
      refine Dv.mv rfl trivial rfl ?_
      refine Dv.mv rfl trivial rfl ?_
      obtain ⟨t618, h619, H⟩ := Gets.call H
      refine Dv.callx (pre := [own (intK .u8) v615.1 x614]) (F := [blk b591 24 [eq (.int .i64 a0.fKind), eq (.string a0.fRoom), eq (.string a0.fUser), eq (.string a0.fEvent), eq (.string a0.fThread), eq (.bool a0.fPrivate), eq (.bool a0.fOn), eq (.int .i64 a0.fSpan), eq (.int .i64 a0.fState), eq (.int .i64 a0.fTick), eq (.int .i64 a0.fStamp)]] ++ F) (fun g620 : OV => [own (intK .u8) g620.1 t618, blk b591 24 [eq (.int .i64 a0.fKind), eq (.string a0.fRoom), eq (.string a0.fUser), eq (.string a0.fEvent), eq (.string a0.fThread), eq (.bool a0.fPrivate), eq (.bool a0.fOn), eq (.int .i64 a0.fSpan), eq (.int .i64 a0.fState), eq (.int .i64 a0.fTick), eq (.int .i64 a0.fStamp)]] ++ F) rfl trivial cal78 rfl (lay_Text.c h619 (p0_ := v615)) (perm_to (L := [blk b591 24 [eq (.int .i64 a0.fKind), eq (.string a0.fRoom), eq (.string a0.fUser), eq (.string a0.fEvent), eq (.string a0.fThread), eq (.bool a0.fPrivate), eq (.bool a0.fOn), eq (.int .i64 a0.fSpan), eq (.int .i64 a0.fState), eq (.int .i64 a0.fTick), eq (.int .i64 a0.fStamp)], own (intK .u8) v615.1 x614]) (F := F) [1, 0] rfl rfl rfl) rfl nofun (fun g620 _ => ?_)
      refine Dv.asg rfl trivial rfl ?_
      refine .fin ?_
      refine WP.reg [(0, false), (1, false)] (by kernel_rfl) ?_
      refine Dv.bin rfl trivial rfl rfl (fun _ => run_add) ?_
      refine Dv.mv rfl trivial rfl ?_
      refine .fin ?_
      refine Dn.gh (l' := fun _ : Unit => [blk b591 24 [eq (.int .i64 a0.fKind), eq (.string a0.fRoom), eq (.string a0.fUser), eq (.string a0.fEvent), eq (.string a0.fThread), eq (.bool a0.fPrivate), eq (.bool a0.fOn), eq (.int .i64 a0.fSpan), eq (.int .i64 a0.fState), eq (.int .i64 a0.fTick), eq (.int .i64 a0.fStamp)], own (intK .u8) g620.1 t618] ++ F) (gh_of (st_selg (L := [own (intK .u8) g620.1 t618, blk b591 24 [eq (.int .i64 a0.fKind), eq (.string a0.fRoom), eq (.string a0.fUser), eq (.string a0.fEvent), eq (.string a0.fThread), eq (.bool a0.fPrivate), eq (.bool a0.fOn), eq (.int .i64 a0.fSpan), eq (.int .i64 a0.fState), eq (.int .i64 a0.fTick), eq (.int .i64 a0.fStamp)]]) (F := F) [1, 0] 0 rfl rfl rfl)) (fun _ _ => ?_)
      exact Back.mk j621 (w64 (x613 + 1), t618, g620) (Nat.lt_succ_self _) H (weak_cons rfl (weak_cons rfl (weak_cons rfl (weak_cons rfl (weak_cons rfl (weak_cons rfl (weak_cons rfl weak_nil))))))) (List.Perm.refl _)
    · replace H := Gets.cf H c616
      refine WP.exit ?_
      replace H := Gets.out H
      exact Jn.mk ((x613, decide (x613 < (([a0.fRoom, a0.fUser, a0.fEvent, a0.fThread] : List ByteArray).length : Int)), x614), v615) H (weak_cons rfl (weak_cons rfl (weak_cons rfl (weak_cons rfl (weak_cons rfl (weak_cons rfl (weak_cons rfl (weak_cons rfl weak_nil)))))))) (List.Perm.refl _)
theorem edu_Compare.c {k : Nat} {a0 : Edu} {a1 : Edu} {r : Int} (h : edu_Compare.f k a0 a1 = some r) : Pt Try.prog 38 [agg (Edu.enc a0), agg (Edu.enc a1)] (eq (.int .i64 r)) := by
  unfold edu_Compare.f at h
  refine (Tr.body Try.func38 (c := _) rfl Try.ntmps38 (Nat.le_of_ble_eq_true rfl) fun R0 F => ?_).pt
  replace h := Gets.of h
  have H := h
  clear h
  refine WP.seq ?_
  refine WP.reg [(0, true), (1, true), (2, false)] (by kernel_rfl) ?_
  refine Dv.box rfl trivial rfl (cells_agg (Edu.K.one _)) nofun (fun b624 => ?_)
  refine Dv.box rfl trivial rfl (cells_agg (Edu.K.one _)) nofun (fun b625 => ?_)
  refine Dv.asg rfl trivial rfl ?_
  refine .fin ?_
  refine WP.seq ?_
  refine WP.dreg Try.checked.mixed [(0, false), (1, false), (2, false), (3, false), (4, false), (5, false), (7, false), (6, true), (8, true), (9, false), (10, false), (11, false), (12, false)] (by kernel_rfl) ?_
  refine Dv.fab rfl trivial rfl Try.underlying24 rfl Try.underlying3 c3 (by decide) ?_
  refine Dv.ldb rfl trivial rfl Try.underlying3 rfl (mem_at 1 rfl) rfl ?_
  refine Dv.fab rfl trivial rfl Try.underlying24 rfl Try.underlying3 c3 (by decide) ?_
  refine Dv.ldb rfl trivial rfl Try.underlying3 rfl (mem_at 0 rfl) rfl ?_
  obtain ⟨t626, h627, H⟩ := Gets.call H
  refine Dv.call rfl trivial cal57 rfl (cmp_Compare_int.c h627) ?_
  refine Dv.ldbs rfl trivial rfl Try.underlying24 rfl c24 (mem_at 1 rfl) (Nat.le_of_ble_eq_true rfl) ?_
  refine Dv.ldbs rfl trivial rfl Try.underlying24 rfl c24 (mem_at 0 rfl) (Nat.le_of_ble_eq_true rfl) ?_
  obtain ⟨t628, h629, H⟩ := Gets.call H
  refine Dv.callx (pre := []) (F := [blk b625 24 [eq (.int .i64 a1.fKind), eq (.string a1.fRoom), eq (.string a1.fUser), eq (.string a1.fEvent), eq (.string a1.fThread), eq (.bool a1.fPrivate), eq (.bool a1.fOn), eq (.int .i64 a1.fSpan), eq (.int .i64 a1.fState), eq (.int .i64 a1.fTick), eq (.int .i64 a1.fStamp)], blk b624 24 [eq (.int .i64 a0.fKind), eq (.string a0.fRoom), eq (.string a0.fUser), eq (.string a0.fEvent), eq (.string a0.fThread), eq (.bool a0.fPrivate), eq (.bool a0.fOn), eq (.int .i64 a0.fSpan), eq (.int .i64 a0.fState), eq (.int .i64 a0.fTick), eq (.int .i64 a0.fStamp)]] ++ F) (fun g630 : OV => [own (intK .u8) g630.1 t628, blk b625 24 [eq (.int .i64 a1.fKind), eq (.string a1.fRoom), eq (.string a1.fUser), eq (.string a1.fEvent), eq (.string a1.fThread), eq (.bool a1.fPrivate), eq (.bool a1.fOn), eq (.int .i64 a1.fSpan), eq (.int .i64 a1.fState), eq (.int .i64 a1.fTick), eq (.int .i64 a1.fStamp)], blk b624 24 [eq (.int .i64 a0.fKind), eq (.string a0.fRoom), eq (.string a0.fUser), eq (.string a0.fEvent), eq (.string a0.fThread), eq (.bool a0.fPrivate), eq (.bool a0.fOn), eq (.int .i64 a0.fSpan), eq (.int .i64 a0.fState), eq (.int .i64 a0.fTick), eq (.int .i64 a0.fStamp)]] ++ F) rfl trivial cal59 rfl (edu_laid.c h629) (perm_to (L := [blk b625 24 [eq (.int .i64 a1.fKind), eq (.string a1.fRoom), eq (.string a1.fUser), eq (.string a1.fEvent), eq (.string a1.fThread), eq (.bool a1.fPrivate), eq (.bool a1.fOn), eq (.int .i64 a1.fSpan), eq (.int .i64 a1.fState), eq (.int .i64 a1.fTick), eq (.int .i64 a1.fStamp)], blk b624 24 [eq (.int .i64 a0.fKind), eq (.string a0.fRoom), eq (.string a0.fUser), eq (.string a0.fEvent), eq (.string a0.fThread), eq (.bool a0.fPrivate), eq (.bool a0.fOn), eq (.int .i64 a0.fSpan), eq (.int .i64 a0.fState), eq (.int .i64 a0.fTick), eq (.int .i64 a0.fStamp)]]) (F := F) [0, 1] rfl rfl rfl) rfl (fun _ => pendc (pend_in (fun _ => (mem_at 1 rfl)) (pend_by (by kernel_rfl) (pend_by (by kernel_rfl) (pend_by (by kernel_rfl) (pend_by (by kernel_rfl) (pend_by (by kernel_rfl) (pend_by (by kernel_rfl) pend_nil)))))))) (fun g630 _ => ?_)
  obtain ⟨t631, h632, H⟩ := Gets.call H
  refine Dv.callx (pre := []) (F := [own (intK .u8) g630.1 t628, blk b625 24 [eq (.int .i64 a1.fKind), eq (.string a1.fRoom), eq (.string a1.fUser), eq (.string a1.fEvent), eq (.string a1.fThread), eq (.bool a1.fPrivate), eq (.bool a1.fOn), eq (.int .i64 a1.fSpan), eq (.int .i64 a1.fState), eq (.int .i64 a1.fTick), eq (.int .i64 a1.fStamp)], blk b624 24 [eq (.int .i64 a0.fKind), eq (.string a0.fRoom), eq (.string a0.fUser), eq (.string a0.fEvent), eq (.string a0.fThread), eq (.bool a0.fPrivate), eq (.bool a0.fOn), eq (.int .i64 a0.fSpan), eq (.int .i64 a0.fState), eq (.int .i64 a0.fTick), eq (.int .i64 a0.fStamp)]] ++ F) (fun g633 : OV => [own (intK .u8) g633.1 t631, own (intK .u8) g630.1 t628, blk b625 24 [eq (.int .i64 a1.fKind), eq (.string a1.fRoom), eq (.string a1.fUser), eq (.string a1.fEvent), eq (.string a1.fThread), eq (.bool a1.fPrivate), eq (.bool a1.fOn), eq (.int .i64 a1.fSpan), eq (.int .i64 a1.fState), eq (.int .i64 a1.fTick), eq (.int .i64 a1.fStamp)], blk b624 24 [eq (.int .i64 a0.fKind), eq (.string a0.fRoom), eq (.string a0.fUser), eq (.string a0.fEvent), eq (.string a0.fThread), eq (.bool a0.fPrivate), eq (.bool a0.fOn), eq (.int .i64 a0.fSpan), eq (.int .i64 a0.fState), eq (.int .i64 a0.fTick), eq (.int .i64 a0.fStamp)]] ++ F) rfl trivial cal59 rfl (edu_laid.c h632) (perm_to (L := [own (intK .u8) g630.1 t628, blk b625 24 [eq (.int .i64 a1.fKind), eq (.string a1.fRoom), eq (.string a1.fUser), eq (.string a1.fEvent), eq (.string a1.fThread), eq (.bool a1.fPrivate), eq (.bool a1.fOn), eq (.int .i64 a1.fSpan), eq (.int .i64 a1.fState), eq (.int .i64 a1.fTick), eq (.int .i64 a1.fStamp)], blk b624 24 [eq (.int .i64 a0.fKind), eq (.string a0.fRoom), eq (.string a0.fUser), eq (.string a0.fEvent), eq (.string a0.fThread), eq (.bool a0.fPrivate), eq (.bool a0.fOn), eq (.int .i64 a0.fSpan), eq (.int .i64 a0.fState), eq (.int .i64 a0.fTick), eq (.int .i64 a0.fStamp)]]) (F := F) [0, 1, 2] rfl rfl rfl) rfl (fun _ => pendc (pend_bits (by kernel_rfl))) (fun g633 _ => ?_)
  obtain ⟨t634, h635, H⟩ := Gets.call H
  refine Dv.calll (B := [own (intK .u8) g630.1 t628, own (intK .u8) g633.1 t631]) (F := [blk b625 24 [eq (.int .i64 a1.fKind), eq (.string a1.fRoom), eq (.string a1.fUser), eq (.string a1.fEvent), eq (.string a1.fThread), eq (.bool a1.fPrivate), eq (.bool a1.fOn), eq (.int .i64 a1.fSpan), eq (.int .i64 a1.fState), eq (.int .i64 a1.fTick), eq (.int .i64 a1.fStamp)], blk b624 24 [eq (.int .i64 a0.fKind), eq (.string a0.fRoom), eq (.string a0.fUser), eq (.string a0.fEvent), eq (.string a0.fThread), eq (.bool a0.fPrivate), eq (.bool a0.fOn), eq (.int .i64 a0.fSpan), eq (.int .i64 a0.fState), eq (.int .i64 a0.fTick), eq (.int .i64 a0.fStamp)]] ++ F) rfl trivial cal58 rfl (Pt.lend _ (bytes_Compare.c h635) (.cons (lt_own (mem_at 0 rfl)) (.cons (lt_own (mem_at 1 rfl)) .nil)) flat_eq) (perm_to (L := [own (intK .u8) g633.1 t631, own (intK .u8) g630.1 t628, blk b625 24 [eq (.int .i64 a1.fKind), eq (.string a1.fRoom), eq (.string a1.fUser), eq (.string a1.fEvent), eq (.string a1.fThread), eq (.bool a1.fPrivate), eq (.bool a1.fOn), eq (.int .i64 a1.fSpan), eq (.int .i64 a1.fState), eq (.int .i64 a1.fTick), eq (.int .i64 a1.fStamp)], blk b624 24 [eq (.int .i64 a0.fKind), eq (.string a0.fRoom), eq (.string a0.fUser), eq (.string a0.fEvent), eq (.string a0.fThread), eq (.bool a0.fPrivate), eq (.bool a0.fOn), eq (.int .i64 a0.fSpan), eq (.int .i64 a0.fState), eq (.int .i64 a0.fTick), eq (.int .i64 a0.fStamp)]]) (F := F) [1, 0, 2, 3] rfl rfl rfl) ?_
  refine Dv.lit (intK .i64) ([t626, t634] : List Int) (css := [[eq (.int .i64 t626)], [eq (.int .i64 t634)]]) rfl trivial Try.underlying27 Try.underlying3 c3 z3 rfl (by decide) (by decide) rfl ⟨(cells_one (one_eq rfl)), ⟨(cells_one (one_eq rfl)), trivial⟩⟩ rfl rfl rfl ?_
  obtain ⟨t636, h637, H⟩ := Gets.call H
  refine Dv.call rfl trivial cal56 rfl (cmp_Or_int.c h637) ?_
  refine Dv.asg rfl trivial rfl ?_
  refine .fin ?_
  obtain rfl := Gets.out H
  exact WP.retL (fun _ _ h => h) rfl () trivial (.cons (res_tmp rfl) .nil) rfl (st_sel (L := [own (intK .u8) g633.1 t631, own (intK .u8) g630.1 t628, blk b625 24 [eq (.int .i64 a1.fKind), eq (.string a1.fRoom), eq (.string a1.fUser), eq (.string a1.fEvent), eq (.string a1.fThread), eq (.bool a1.fPrivate), eq (.bool a1.fOn), eq (.int .i64 a1.fSpan), eq (.int .i64 a1.fState), eq (.int .i64 a1.fTick), eq (.int .i64 a1.fStamp)], blk b624 24 [eq (.int .i64 a0.fKind), eq (.string a0.fRoom), eq (.string a0.fUser), eq (.string a0.fEvent), eq (.string a0.fThread), eq (.bool a0.fPrivate), eq (.bool a0.fOn), eq (.int .i64 a0.fSpan), eq (.int .i64 a0.fState), eq (.int .i64 a0.fTick), eq (.int .i64 a0.fStamp)]]) (F := F) [0, 1, 2, 3] 4 rfl rfl rfl)
theorem edu_Later.c {k : Nat} {a0 : Edu} {a1 : Edu} {r : Bool} (h : edu_Later.f k a0 a1 = some r) : Pt Try.prog 21 [agg (Edu.enc a0), agg (Edu.enc a1)] (eq (.bool r)) := by
  unfold edu_Later.f at h
  refine (Tr.body Try.func21 (c := _) rfl Try.ntmps21 (Nat.le_of_ble_eq_true rfl) fun R0 F => ?_).pt
  replace h := Gets.of h
  have H := h
  clear h
  refine WP.seq ?_
  refine WP.reg [(0, true), (1, true), (2, false)] (by kernel_rfl) ?_
  refine Dv.box rfl trivial rfl (cells_agg (Edu.K.one _)) nofun (fun b638 => ?_)
  refine Dv.box rfl trivial rfl (cells_agg (Edu.K.one _)) nofun (fun b639 => ?_)
  refine Dv.asg rfl trivial rfl ?_
  refine .fin ?_
  refine WP.seq ?_
  refine WP.dreg Try.checked.mixed [(0, false), (1, false), (2, false), (3, false), (4, false), (5, false), (6, false), (7, false), (8, false), (9, false), (10, false), (11, false)] (by kernel_rfl) ?_
  refine Dv.ldbs rfl trivial rfl Try.underlying24 rfl c24 (mem_at 1 rfl) (Nat.le_of_ble_eq_true rfl) ?_
  obtain ⟨t640, h641, H⟩ := Gets.call H
  refine Dv.call rfl trivial cal37 rfl (edu_Of.c h641) ?_
  refine Dv.ldbs rfl trivial rfl Try.underlying24 rfl c24 (mem_at 0 rfl) (Nat.le_of_ble_eq_true rfl) ?_
  obtain ⟨t642, h643, H⟩ := Gets.call H
  refine Dv.call rfl trivial cal37 rfl (edu_Of.c h643) ?_
  refine Dv.eqs [.int .i64 t640.fKind, .string t640.fRoom, .string t640.fUser, .string t640.fThread, .bool t640.fPrivate] [.int .i64 t642.fKind, .string t642.fRoom, .string t642.fUser, .string t642.fThread, .bool t642.fPrivate] rfl trivial rfl rfl rfl rfl eg68 (fun _ => equal_of 2 (by decide) (fun _ => eqt68 t640 t642)) ?_
  refine Dv.mv rfl trivial rfl ?_
  cases c644 : decide (t640 = t642)
  · replace H := Gets.cf H c644
    refine Dv.skip rfl ⟨_, _, rfl, rfl, .inl rfl⟩ ?_
    refine Dv.skip rfl ⟨_, _, rfl, rfl, .inl rfl⟩ ?_
    refine Dv.skip rfl ⟨_, _, rfl, rfl, .inl rfl⟩ ?_
    refine Dv.skip rfl ⟨_, _, rfl, rfl, .inl rfl⟩ ?_
    refine Dv.pickF rfl trivial rfl rfl ?_
    refine Dv.asg rfl trivial rfl ?_
    refine .fin ?_
    obtain rfl := Gets.out H
    exact WP.retL (fun _ _ h => h) rfl () trivial (.cons (res_tmp rfl) .nil) rfl (st_sel (L := [blk b639 24 [eq (.int .i64 a1.fKind), eq (.string a1.fRoom), eq (.string a1.fUser), eq (.string a1.fEvent), eq (.string a1.fThread), eq (.bool a1.fPrivate), eq (.bool a1.fOn), eq (.int .i64 a1.fSpan), eq (.int .i64 a1.fState), eq (.int .i64 a1.fTick), eq (.int .i64 a1.fStamp)], blk b638 24 [eq (.int .i64 a0.fKind), eq (.string a0.fRoom), eq (.string a0.fUser), eq (.string a0.fEvent), eq (.string a0.fThread), eq (.bool a0.fPrivate), eq (.bool a0.fOn), eq (.int .i64 a0.fSpan), eq (.int .i64 a0.fState), eq (.int .i64 a0.fTick), eq (.int .i64 a0.fStamp)]]) (F := F) [0, 1] 2 rfl rfl rfl)
  · replace H := Gets.ct H c644
    refine Dv.ldbs rfl ⟨_, _, rfl, rfl, rfl⟩ rfl Try.underlying24 rfl c24 (mem_at 1 rfl) (Nat.le_of_ble_eq_true rfl) ?_
    refine Dv.ldbs rfl ⟨_, _, rfl, rfl, rfl⟩ rfl Try.underlying24 rfl c24 (mem_at 0 rfl) (Nat.le_of_ble_eq_true rfl) ?_
    obtain ⟨t645, h646, H⟩ := Gets.call H
    refine Dv.call rfl ⟨_, _, rfl, rfl, rfl⟩ cal38 rfl (edu_Compare.c h646) ?_
    refine Dv.bin rfl ⟨_, _, rfl, rfl, rfl⟩ rfl rfl (fun _ => run_gt) ?_
    refine Dv.pickT rfl trivial rfl rfl ?_
    refine Dv.asg rfl trivial rfl ?_
    refine .fin ?_
    obtain rfl := Gets.out H
    exact WP.retL (fun _ _ h => h) rfl () trivial (.cons (res_tmp rfl) .nil) rfl (st_sel (L := [blk b639 24 [eq (.int .i64 a1.fKind), eq (.string a1.fRoom), eq (.string a1.fUser), eq (.string a1.fEvent), eq (.string a1.fThread), eq (.bool a1.fPrivate), eq (.bool a1.fOn), eq (.int .i64 a1.fSpan), eq (.int .i64 a1.fState), eq (.int .i64 a1.fTick), eq (.int .i64 a1.fStamp)], blk b638 24 [eq (.int .i64 a0.fKind), eq (.string a0.fRoom), eq (.string a0.fUser), eq (.string a0.fEvent), eq (.string a0.fThread), eq (.bool a0.fPrivate), eq (.bool a0.fOn), eq (.int .i64 a0.fSpan), eq (.int .i64 a0.fState), eq (.int .i64 a0.fTick), eq (.int .i64 a0.fStamp)]]) (F := F) [0, 1] 2 rfl rfl rfl)
theorem slices_Insert_Edu.c {a0 : List Edu} {a1 : Int} {a2 : List Edu} {p0_ : OV} {r : List Edu} (h : slices_Insert_Edu.f a0 a1 a2 = some r) : Tr Try.prog 22 [eq p0_.1, eq (.int .i64 a1), sl Edu.K a2] [own Edu.K p0_.1 a0] (γ := OV) (fun _ => True) (fun g => eq g.1) (fun g => [own Edu.K g.1 r]) := by
  unfold slices_Insert_Edu.f at h
  obtain ⟨⟨h0, h1, h2, h3, h4⟩, h5⟩ := (Gets.of h).grd
  obtain rfl := Gets.out h5
  clear h h5
  obtain ⟨i, rfl⟩ := Int.eq_ofNat_of_zero_le h0
  have hi : i ≤ a0.length := by omega
  obtain ⟨v, hv⟩ := p0_
  obtain ⟨ti, i1, i2, i3, i4⟩ := inf24
  refine Tr.body Try.func22 (c := _) rfl Try.ntmps22 (Nat.le_of_ble_eq_true rfl) fun R0 F => ?_
  refine WP.seq ?_
  refine WP.reg [(0, false)] (by kernel_rfl) ?_
  refine Dv.asg rfl trivial rfl ?_
  refine .fin ?_
  refine WP.seq ?_
  refine WP.reg [(0, false), (1, false), (2, false)] (by kernel_rfl) ?_
  refine Dv.mv rfl trivial rfl ?_
  refine Dv.mv rfl trivial rfl ?_
  refine Dv.sloa (Kd := Edu.K) (xs := a0) (v := v) rfl trivial rfl (mem_at 0 rfl) Try.underlying22 Try.underlying24 c24 (bdE_nat (m := i) rfl) hi ?_
  refine .fin ?_
  refine WP.seq ?_
  refine WP.reg [(0, false), (1, false), (2, false)] (by kernel_rfl) ?_
  refine Dv.mv rfl trivial rfl ?_
  refine Dv.lenl rfl trivial rfl Try.underlying22 ?_
  refine Dv.asg rfl trivial rfl ?_
  refine .fin ?_
  refine WP.seq ?_
  refine WP.seq ?_
  refine WP.reg [(0, false), (1, false)] (by kernel_rfl) ?_
  refine Dv.mv rfl trivial rfl ?_
  refine Dv.bin rfl trivial rfl rfl (fun _ => run_eq) ?_
  refine .fin ?_
  refine WP.cond rfl (fun c0 => ?_) (fun c0 => ?_)
  · exfalso; have := beq_iff_eq.1 c0; omega
  refine WP.skip ?_
  refine WP.seq ?_
  refine WP.reg [(0, false), (1, false), (2, false)] (by kernel_rfl) ?_
  refine Dv.mv rfl trivial rfl ?_
  refine Dv.lenw (Kd := Edu.K) (xs := a0) (v := v) rfl trivial rfl (mem_at 0 rfl) Try.underlying22 ?_
  refine Dv.asg rfl trivial rfl ?_
  refine .fin ?_
  refine WP.seq ?_
  refine WP.seq ?_
  refine WP.reg [(0, false), (1, false), (2, false)] (by kernel_rfl) ?_
  refine Dv.mv rfl trivial rfl ?_
  refine Dv.mv rfl trivial rfl ?_
  refine Dv.bin rfl trivial rfl rfl (fun _ => run_eq) ?_
  refine .fin ?_
  refine WP.cond rfl (fun c1 => ?_) (fun c1 => ?_)
  · have e1 : i = a0.length := by have := beq_iff_eq.1 c1; omega
    subst e1
    refine WP.seq ?_
    refine WP.reg [(0, false), (1, false), (2, true), (3, false)] (by kernel_rfl) ?_
    refine Dv.mv rfl trivial rfl ?_
    refine Dv.mv rfl trivial rfl ?_
    refine Dv.appx (Kd := Edu.K) (xs := a0) (v := v) (jj := 0) (ys := a2) (fun v1 : OV => [own Edu.K v1.1 (a0 ++ a2)] ++ F) rfl trivial rfl rfl rfl src_sl Try.underlying22 (.inr ⟨_, Try.underlying22⟩) inf24 rfl (by decide) (by omega) rfl nofun (fun v1 => ?_)
    refine Dv.asg rfl trivial rfl ?_
    refine .fin ?_
    have e2 : a0.take (a0.length : Int).toNat ++ a2 ++ a0.drop (a0.length : Int).toNat = a0 ++ a2 := by simp
    rw [e2]
    exact WP.retL (fun _ _ h => h) rfl v1 trivial (.cons (res_tmp rfl) .nil) rfl (st_sel (L := [own Edu.K v1.1 (a0 ++ a2)]) (F := F) [0] 0 rfl rfl rfl)
  refine WP.skip ?_
  have hlt : i < a0.length := by have : ¬ ((i : Int) = (a0.length : Int)) := by simpa using c1
                                 omega
  have hne : a0 ≠ [] := by intro e; subst e; simp at hlt
  rw [Int.toNat_natCast]
  refine WP.gh (gh_of (st_own_blk 0 rfl hne)) (fun g hg => ?_)
  rcases g with ⟨b, off, c, bT, A, C⟩
  change v = .slice (some ⟨b, off, none⟩) a0.length c ∧ a0.length ≤ c ∧ A.length = off ∧ off + c * Edu.K.sz ≤ (A ++ a0.flatMap Edu.K.enc ++ C).length at hg
  obtain ⟨rfl, hc, hA, hlen⟩ := hg
  change WP _ _ _ _ _ _ (blk b bT (A ++ a0.flatMap Edu.K.enc ++ C) :: F)
  have hsz : 0 < Edu.K.sz := by decide
  have ml : ∀ {p q : Nat}, p ≤ q → p * Edu.K.sz ≤ q * Edu.K.sz := fun h => Nat.mul_le_mul_right _ h
  have fl : (A ++ a0.flatMap Edu.K.enc ++ C).length = off + a0.length * Edu.K.sz + C.length := by rw [List.length_append, List.length_append, flatMap_len, hA]
  have fd : ((a0.drop i).flatMap Edu.K.enc).length = (a0.length - i) * Edu.K.sz := by rw [flatMap_len, List.length_drop]
  have fy : (a2.flatMap Edu.K.enc).length = a2.length * Edu.K.sz := flatMap_len _
  have s1 : i * Edu.K.sz + a2.length * Edu.K.sz + (a0.length - i) * Edu.K.sz = (a0.length + a2.length) * Edu.K.sz := by rw [← Nat.add_mul, ← Nat.add_mul]; congr 1; omega
  have s2 : (i + a2.length) * Edu.K.sz = i * Edu.K.sz + a2.length * Edu.K.sz := Nat.add_mul ..
  have zl : (a0.take i ++ a2 ++ a0.drop i).length = a0.length + a2.length := by simp only [List.length_append, List.length_take, List.length_drop]; omega
  refine WP.seq ?_
  refine WP.seq ?_
  refine WP.reg [(0, false), (1, false), (2, false), (3, false), (4, false), (5, false)] (by kernel_rfl) ?_
  refine Dv.mv rfl trivial rfl ?_
  refine Dv.mv rfl trivial rfl ?_
  refine Dv.bin rfl trivial rfl rfl (fun _ => run_addn (a := a0.length) (b := a2.length) (by omega)) ?_
  refine Dv.mv rfl trivial rfl ?_
  refine Dv.capk rfl trivial rfl Try.underlying22 ?_
  refine Dv.bin rfl trivial rfl rfl (fun _ => run_gt) ?_
  refine .fin ?_
  refine WP.cond rfl (fun c2 => ?_) (fun c2 => ?_)
  · have hg : c < a0.length + a2.length := by have := of_decide_eq_true c2; omega
    refine WP.seq ?_
    refine WP.reg [(0, false), (1, false), (2, false), (3, false), (4, false), (5, false), (6, false), (7, false), (8, true), (9, false)] (by kernel_rfl) ?_
    refine Dv.mv rfl trivial rfl ?_
    refine Dv.mv rfl trivial rfl ?_
    refine Dv.slkm (o' := off) (m' := i) (c' := c) rfl trivial rfl Try.underlying22 Try.underlying24 c24 bdE_none (bdE_nat (m := i) rfl) (Nat.zero_le _) (by omega) (.inr rfl) (by simp) (by simp) (by simp) ?_
    refine Dv.mv rfl trivial rfl ?_
    refine Dv.mv rfl trivial rfl ?_
    refine Dv.bin rfl trivial rfl rfl (fun _ => run_addn (a := a0.length) (b := a2.length) (by omega)) ?_
    refine Dv.mv rfl trivial rfl ?_
    refine Dv.bin rfl trivial rfl rfl (fun _ => run_subn (a := a0.length + a2.length) (b := i) (by omega) (by omega)) ?_
    refine Dv.apmn (sz := Edu.K.sz) (jj := 0) (k1 := a0.length + a2.length - i) (N := a0.length + a2.length) (Q := (a0.take i).flatMap Edu.K.enc) rfl trivial rfl rfl Try.underlying22 Try.underlying3 i1 i2 i3 i4 rfl (by decide) (by omega) (by omega) hg (by omega) h4 rfl ?_ (ins_pre (Kd := Edu.K) hi hA) nofun (fun w hw => ?_)
    · rw [fl]; have := ml (Nat.le_of_lt hlt); omega
    rcases w with ⟨b2, nc⟩
    replace hw : a0.length + a2.length ≤ nc := hw
    refine Dv.asg rfl trivial rfl ?_
    refine .fin ?_
    generalize hZ : (Builtin.zeroCells (Value.cells _) ((b2, nc).2 - i)).toList.map eq = Z
    have zz : Z.length = (nc - i) * Edu.K.sz := by rw [← hZ, List.length_map, Array.length_toList, Builtin.zeroCells, Array.size_map, Array.size_range]; rfl
    have ft : ((a0.take i).flatMap Edu.K.enc ++ Z).length = nc * Edu.K.sz := by rw [List.length_append, flatMap_len, List.length_take, Nat.min_eq_left hi, zz, ← Nat.add_mul]; congr 1; omega
    have s3 := ml hw
    have s4 : i * Edu.K.sz + (a0.length - i) * Edu.K.sz = a0.length * Edu.K.sz := by rw [← Nat.add_mul]; congr 1; omega
    refine WP.seq ?_
    refine WP.reg [(0, false), (1, false), (2, false), (3, false), (4, true)] (by kernel_rfl) ?_
    refine Dv.mv rfl trivial rfl ?_
    refine Dv.mv rfl trivial rfl ?_
    refine Dv.slkm (o' := i * Edu.K.sz) (m' := a0.length + a2.length - i) (c' := nc - i) rfl trivial rfl Try.underlying22 Try.underlying24 c24 (bdE_nat (m := i) rfl) bdE_none (by omega) hw (.inl (Nat.lt_of_lt_of_le (by omega) hw)) (Nat.zero_add _) rfl rfl ?_
    refine Dv.mv rfl trivial rfl ?_
    refine Dv.cpkn (jj := 0) (kk := a2.length) rfl trivial rfl rfl Try.underlying22 Try.underlying24 c24 srcN_all (by omega) rfl ?_ nofun ?_
    · rw [ft, fy]; omega
    refine .fin ?_
    have l1 : (spl ((a0.take i).flatMap Edu.K.enc ++ Z) (i * Edu.K.sz) (a2.flatMap Edu.K.enc)).length = nc * Edu.K.sz := by rw [spl_len (by rw [ft, fy]; omega), ft]
    refine WP.seq ?_
    refine WP.dreg Try.checked.mixed [(0, false), (1, false), (2, false), (3, false), (4, false), (5, false), (6, false), (7, false), (8, true)] (by kernel_rfl) ?_
    refine Dv.mv rfl trivial rfl ?_
    refine Dv.mv rfl trivial rfl ?_
    refine Dv.mv rfl trivial rfl ?_
    refine Dv.bin rfl trivial rfl rfl (fun _ => run_addn (a := i) (b := a2.length) (by omega)) ?_
    refine Dv.slkm (o' := (i + a2.length) * Edu.K.sz) (m' := a0.length - i) (c' := nc - (i + a2.length)) rfl trivial rfl Try.underlying22 Try.underlying24 c24 (bdE_nat (m := i + a2.length) rfl) bdE_none (by omega) hw (.inl (Nat.lt_of_lt_of_le (by omega) hw)) (Nat.zero_add _) (by omega) rfl ?_
    refine Dv.mv rfl trivial rfl ?_
    refine Dv.mv rfl trivial rfl ?_
    refine Dv.slkm (o' := off + i * Edu.K.sz) (m' := a0.length - i) (c' := c - i) rfl trivial rfl Try.underlying22 Try.underlying24 c24 (bdE_nat (m := i) rfl) bdE_none hi hc (.inl (by omega)) rfl rfl rfl ?_
    refine Dv.cpkn (jj := 0) (kk := a0.length - i) rfl trivial rfl rfl Try.underlying22 Try.underlying24 c24 (srcN_own (mem_at 1 rfl) hi hA) (Nat.min_self _) rfl ?_ (fun _ => pend_bits (by kernel_rfl)) ?_
    · rw [l1, fd]; omega
    refine .fin ?_
    have l2 : (spl (spl ((a0.take i).flatMap Edu.K.enc ++ Z) (i * Edu.K.sz) (a2.flatMap Edu.K.enc)) ((i + a2.length) * Edu.K.sz) ((a0.drop i).flatMap Edu.K.enc)).length = nc * Edu.K.sz := by rw [spl_len (by rw [l1, fd]; omega), l1]
    refine WP.seq ?_
    refine WP.reg [(0, false), (1, false)] (by kernel_rfl) ?_
    refine Dv.mv rfl trivial rfl ?_
    refine Dv.asg rfl trivial rfl ?_
    refine .fin ?_
    refine WP.gh (gh_of (st_blk_own (Kd := Edu.K) (off := 0) (n := a0.length + a2.length) (c := nc) (zs := a0.take i ++ a2 ++ a0.drop i) 0 rfl zl hw (by rw [l2]; omega) (ins_new hi))) (fun _ _ => ?_)
    exact WP.retL (fun _ _ h => h) rfl (⟨.slice (some ⟨b2, 0, none⟩) (a0.length + a2.length) nc, rfl⟩ : OV) trivial (.cons (res_tmp rfl) .nil) rfl (st_sel (L := [own Edu.K (.slice (some ⟨b2, 0, none⟩) (a0.length + a2.length) nc) (a0.take i ++ a2 ++ a0.drop i), blk b bT (A ++ a0.flatMap Edu.K.enc ++ C)]) (F := F) [1, 0] 1 rfl rfl rfl)
  have hg : a0.length + a2.length ≤ c := by have := of_decide_eq_false c2; omega
  refine WP.skip ?_
  have s3 := ml hg
  refine WP.seq ?_
  refine WP.reg [(0, false), (1, false), (2, false), (3, false), (4, false), (5, false)] (by kernel_rfl) ?_
  refine Dv.mv rfl trivial rfl ?_
  refine Dv.mv rfl trivial rfl ?_
  refine Dv.mv rfl trivial rfl ?_
  refine Dv.bin rfl trivial rfl rfl (fun _ => run_addn (a := a0.length) (b := a2.length) (by omega)) ?_
  refine Dv.slkm (o' := off) (m' := a0.length + a2.length) (c' := c) rfl trivial rfl Try.underlying22 Try.underlying24 c24 bdE_none (bdE_nat (m := a0.length + a2.length) rfl) (Nat.zero_le _) hg (.inr rfl) (by simp) (by simp) (by simp) ?_
  refine Dv.asg rfl trivial rfl ?_
  refine .fin ?_
  refine WP.seq ?_
  refine WP.seq ?_
  refine WP.reg [(0, false), (1, false), (2, false), (3, false), (4, false), (5, false), (6, false), (7, false)] (by kernel_rfl) ?_
  refine Dv.mv rfl trivial rfl ?_
  refine Dv.mv rfl trivial rfl ?_
  refine Dv.mv rfl trivial rfl ?_
  refine Dv.mv rfl trivial rfl ?_
  refine Dv.bin rfl trivial rfl rfl (fun _ => run_addn (a := i) (b := a2.length) (by omega)) ?_
  refine Dv.slkm (o' := off + (i + a2.length) * Edu.K.sz) (m' := a0.length - i) (c' := c - (i + a2.length)) rfl trivial rfl Try.underlying22 Try.underlying24 c24 (bdE_nat (m := i + a2.length) rfl) bdE_none (by omega) hg (.inl (Nat.lt_of_lt_of_le (by omega) hg)) rfl (by omega) rfl ?_
  refine Dv.ovl rfl trivial rfl rfl (mem_at 0 rfl) h2 hsz Try.func39 (by kernel_rfl) rfl xf39 xg39 rfl Try.underlying22 Try.underlying24 ?_
  refine Dv.un rfl trivial rfl (fun _ => run_not _) ?_
  refine .fin ?_
  refine WP.cond rfl (fun c3 => ?_) (fun c3 => by cases c3)
  refine WP.seq ?_
  refine WP.dreg Try.checked.mixed [(0, false), (1, false), (2, false), (3, false), (4, false), (5, false), (6, false), (7, false), (8, true)] (by kernel_rfl) ?_
  refine Dv.mv rfl trivial rfl ?_
  refine Dv.mv rfl trivial rfl ?_
  refine Dv.mv rfl trivial rfl ?_
  refine Dv.bin rfl trivial rfl rfl (fun _ => run_addn (a := i) (b := a2.length) (by omega)) ?_
  refine Dv.slkm (o' := off + (i + a2.length) * Edu.K.sz) (m' := a0.length - i) (c' := c - (i + a2.length)) rfl trivial rfl Try.underlying22 Try.underlying24 c24 (bdE_nat (m := i + a2.length) rfl) bdE_none (by omega) hg (.inl (Nat.lt_of_lt_of_le (by omega) hg)) rfl (by omega) rfl ?_
  refine Dv.mv rfl trivial rfl ?_
  refine Dv.mv rfl trivial rfl ?_
  refine Dv.slkm (o' := off + i * Edu.K.sz) (m' := a0.length + a2.length - i) (c' := c - i) rfl trivial rfl Try.underlying22 Try.underlying24 c24 (bdE_nat (m := i) rfl) bdE_none (by omega) hg (.inl (by omega)) rfl rfl rfl ?_
  refine Dv.cpkn (jj := 0) (kk := a0.length - i) rfl trivial rfl rfl Try.underlying22 Try.underlying24 c24 (srcN_own (mem_at 0 rfl) hi hA) (by omega) rfl ?_ (fun _ => pend_bits (by kernel_rfl)) ?_
  · rw [fd]; omega
  refine .fin ?_
  have l1 : (spl (A ++ a0.flatMap Edu.K.enc ++ C) (off + (i + a2.length) * Edu.K.sz) ((a0.drop i).flatMap Edu.K.enc)).length = (A ++ a0.flatMap Edu.K.enc ++ C).length := spl_len (by rw [fd]; omega)
  refine WP.seq ?_
  refine WP.reg [(0, false), (1, false), (2, false), (3, false), (4, true)] (by kernel_rfl) ?_
  refine Dv.mv rfl trivial rfl ?_
  refine Dv.mv rfl trivial rfl ?_
  refine Dv.slkm (o' := off + i * Edu.K.sz) (m' := a0.length + a2.length - i) (c' := c - i) rfl trivial rfl Try.underlying22 Try.underlying24 c24 (bdE_nat (m := i) rfl) bdE_none (by omega) hg (.inl (by omega)) rfl rfl rfl ?_
  refine Dv.mv rfl trivial rfl ?_
  refine Dv.cpkn (jj := 0) (kk := a2.length) rfl trivial rfl rfl Try.underlying22 Try.underlying24 c24 srcN_all (by omega) rfl ?_ nofun ?_
  · rw [l1, fy]; omega
  refine .fin ?_
  refine WP.seq ?_
  refine WP.reg [(0, false), (1, false)] (by kernel_rfl) ?_
  refine Dv.mv rfl trivial rfl ?_
  refine Dv.asg rfl trivial rfl ?_
  refine .fin ?_
  refine WP.gh (gh_of (st_blk_own (Kd := Edu.K) (off := off) (n := a0.length + a2.length) (c := c) (zs := a0.take i ++ a2 ++ a0.drop i) 0 rfl zl hg (by rw [spl_len (by rw [l1, fy]; omega), l1]; exact hlen) (ins_old hi hA (by omega)))) (fun _ _ => ?_)
  exact WP.retL (fun _ _ h => h) rfl (⟨.slice (some ⟨b, off, none⟩) (a0.length + a2.length) c, rfl⟩ : OV) trivial (.cons (res_tmp rfl) .nil) rfl (st_sel (L := [own Edu.K (.slice (some ⟨b, off, none⟩) (a0.length + a2.length) c) (a0.take i ++ a2 ++ a0.drop i)]) (F := F) [0] 0 rfl rfl rfl)
theorem heap_Heap_set.c {a0 : HHeap} {a1 : Int} {a2 : HEnt} {p0_ : OV} {r : HHeap} (h : heap_Heap_set.f a0 a1 a2 = some r) : Tr Try.prog 41 [eq p0_.1, eq (.int .i64 a1), agg (HEnt.enc a2)] [HHeap.O p0_ a0] (γ := Unit) (fun _ => True) (fun g => tup []) (fun g => [HHeap.O p0_ r]) := by
  unfold heap_Heap_set.f at h
  refine Tr.body Try.func41 (c := _) rfl Try.ntmps41 (Nat.le_of_ble_eq_true rfl) fun R0 F => ?_
  replace h := Gets.of h
  have H := h
  clear h
  refine WP.seq ?_
  refine WP.reg [(0, true)] (by kernel_rfl) ?_
  refine Dv.box rfl trivial rfl (cells_agg (HEnt.K.one _)) nofun (fun b652 => ?_)
  refine .fin ?_
  refine WP.seq ?_
  refine WP.gh (l' := fun (g653 : Nat × OV × OV) => [blk g653.1 61 [eq g653.2.1.1, eq g653.2.2.1], own HEnt.K g653.2.1.1 a0.fl, mp Value.string (fun x : Int => eq (.int .i64 x)) g653.2.2.1 a0.fat, blk b652 73 [eq (.int .i64 a2.fAt), eq (.string a2.fKey)]] ++ F) (gh_of (HHeap.opn 1 rfl)) (fun g653 h654 => ?_)
  refine WP.dreg Try.checked.mixed [(0, false), (1, false), (2, false), (3, false), (4, false), (5, false), (6, false), (7, true)] (by kernel_rfl) ?_
  refine Dv.mv rfl trivial rfl ?_
  refine Dv.nilpp h654 rfl trivial rfl ?_
  refine Dv.fabp h654 rfl trivial rfl Try.underlying61 rfl Try.underlying59 c59 (by decide) ?_
  refine Dv.ldb rfl trivial rfl Try.underlying59 rfl (mem_at 0 rfl) rfl ?_
  refine Dv.mv rfl trivial rfl ?_
  refine Dv.ldbs rfl trivial rfl Try.underlying73 rfl c73 (mem_at 3 rfl) (Nat.le_of_ble_eq_true rfl) ?_
  obtain ⟨g655, H⟩ := Gets.grd H
  have h656 : a1.toNat < a0.fl.length := idx_lt g655
  refine Dv.ixw rfl trivial rfl (mem_at 1 rfl) rfl Try.underlying59 Try.underlying73 c73 g655.1 g655.2 ?_
  refine Dv.stw (j := a1.toNat) (f := 0) (jj := 1) a2 rfl trivial rfl rfl (cells_agg (HEnt.K.one _)) Try.underlying73 c73 rfl rfl h656 (Nat.le_of_ble_eq_true rfl) rfl (fun _ => pend_bits (by kernel_rfl)) ?_
  refine .fin ?_
  refine WP.dreg Try.checked.mixed [(0, false), (1, false), (2, false), (3, false), (4, false), (5, false), (6, false), (7, true)] (by kernel_rfl) ?_
  refine Dv.mv rfl trivial rfl ?_
  refine Dv.nilpp h654 rfl trivial rfl ?_
  refine Dv.fabp h654 rfl trivial rfl Try.underlying61 rfl Try.underlying58 c58 (by decide) ?_
  refine Dv.ldb rfl trivial rfl Try.underlying58 rfl (mem_at 0 rfl) rfl ?_
  refine Dv.fab rfl trivial rfl Try.underlying73 rfl Try.underlying9 c9 (by decide) ?_
  refine Dv.ldb rfl trivial rfl Try.underlying9 rfl (mem_at 3 rfl) rfl ?_
  refine Dv.mv rfl trivial rfl ?_
  refine Dv.mup (jj := 2) a1 rfl trivial rfl rfl rfl rfl Try.underlying58 (keyOk_str Try.underlying9) (fun _ => pend_bits (by kernel_rfl)) ?_
  refine .fin ?_
  refine Dn.gh (l' := fun _ : Unit => [HHeap.O p0_ (⟨a0.fl.set a1.toNat a2, mput a0.fat a2.fKey a1⟩ : HHeap), blk b652 73 [eq (.int .i64 a2.fAt), eq (.string a2.fKey)]] ++ F) (gh_of (HHeap.shut (p := p0_) (m := (⟨a0.fl.set a1.toNat a2, mput a0.fat a2.fKey a1⟩ : HHeap)) (r := [blk b652 73 [eq (.int .i64 a2.fAt), eq (.string a2.fKey)]] ++ F) (g653.1, g653.2.1, g653.2.2) h654 (perm_to (L := [blk g653.1 61 [eq g653.2.1.1, eq g653.2.2.1], own HEnt.K g653.2.1.1 (a0.fl.set a1.toNat a2), mp Value.string (fun x : Int => eq (.int .i64 x)) g653.2.2.1 (mput a0.fat a2.fKey a1), blk b652 73 [eq (.int .i64 a2.fAt), eq (.string a2.fKey)]]) (F := F) [0, 1, 2, 3] rfl rfl rfl))) (fun _ _ => ?_)
  obtain rfl := Gets.out H
  exact res_end rfl () trivial .nil rfl (st_sel (L := [HHeap.O p0_ (⟨a0.fl.set a1.toNat a2, mput a0.fat a2.fKey a1⟩ : HHeap), blk b652 73 [eq (.int .i64 a2.fAt), eq (.string a2.fKey)]]) (F := F) [1, 0] 1 rfl rfl rfl)
theorem heap_ahead.c {k : Nat} {a0 : HEnt} {a1 : HEnt} {r : Int} (h : heap_ahead.f k a0 a1 = some r) : Pt Try.prog 61 [agg (HEnt.enc a0), agg (HEnt.enc a1)] (eq (.int .i64 r)) := by
  unfold heap_ahead.f at h
  refine (Tr.body Try.func61 (c := _) rfl Try.ntmps61 (Nat.le_of_ble_eq_true rfl) fun R0 F => ?_).pt
  replace h := Gets.of h
  have H := h
  clear h
  refine WP.seq ?_
  refine WP.reg [(0, true), (1, true), (2, false)] (by kernel_rfl) ?_
  refine Dv.box rfl trivial rfl (cells_agg (HEnt.K.one _)) nofun (fun b657 => ?_)
  refine Dv.box rfl trivial rfl (cells_agg (HEnt.K.one _)) nofun (fun b658 => ?_)
  refine Dv.asg rfl trivial rfl ?_
  refine .fin ?_
  refine WP.seq ?_
  refine WP.dreg Try.checked.mixed [(0, false), (1, false), (2, false), (3, false), (4, false), (5, false), (6, false), (7, false), (8, false), (9, false), (10, false), (11, false), (12, false)] (by kernel_rfl) ?_
  refine Dv.fab rfl trivial rfl Try.underlying73 rfl Try.underlying3 c3 (by decide) ?_
  refine Dv.ldb rfl trivial rfl Try.underlying3 rfl (mem_at 1 rfl) rfl ?_
  refine Dv.fab rfl trivial rfl Try.underlying73 rfl Try.underlying3 c3 (by decide) ?_
  refine Dv.ldb rfl trivial rfl Try.underlying3 rfl (mem_at 0 rfl) rfl ?_
  obtain ⟨t659, h660, H⟩ := Gets.call H
  refine Dv.call rfl trivial cal57 rfl (cmp_Compare_int.c h660) ?_
  refine Dv.fab rfl trivial rfl Try.underlying73 rfl Try.underlying9 c9 (by decide) ?_
  refine Dv.ldb rfl trivial rfl Try.underlying9 rfl (mem_at 1 rfl) rfl ?_
  refine Dv.fab rfl trivial rfl Try.underlying73 rfl Try.underlying9 c9 (by decide) ?_
  refine Dv.ldb rfl trivial rfl Try.underlying9 rfl (mem_at 0 rfl) rfl ?_
  obtain ⟨t661, h662, H⟩ := Gets.call H
  refine Dv.call rfl trivial cal36 rfl (cmp_Compare_string.c h662) ?_
  refine Dv.lit (intK .i64) ([t659, t661] : List Int) (css := [[eq (.int .i64 t659)], [eq (.int .i64 t661)]]) rfl trivial Try.underlying27 Try.underlying3 c3 z3 rfl (by decide) (by decide) rfl ⟨(cells_one (one_eq rfl)), ⟨(cells_one (one_eq rfl)), trivial⟩⟩ rfl rfl rfl ?_
  obtain ⟨t663, h664, H⟩ := Gets.call H
  refine Dv.call rfl trivial cal56 rfl (cmp_Or_int.c h664) ?_
  refine Dv.asg rfl trivial rfl ?_
  refine .fin ?_
  obtain rfl := Gets.out H
  exact WP.retL (fun _ _ h => h) rfl () trivial (.cons (res_tmp rfl) .nil) rfl (st_sel (L := [blk b658 73 [eq (.int .i64 a1.fAt), eq (.string a1.fKey)], blk b657 73 [eq (.int .i64 a0.fAt), eq (.string a0.fKey)]]) (F := F) [0, 1] 2 rfl rfl rfl)
theorem heap_Heap_down.c {k : Nat} {a0 : HHeap} {a1 : Int} {p0_ : OV} {r : HHeap} (h : heap_Heap_down.f k a0 a1 = some r) : Tr Try.prog 42 [eq p0_.1, eq (.int .i64 a1)] [HHeap.O p0_ a0] (γ := Unit) (fun _ => True) (fun g => tup []) (fun g => [HHeap.O p0_ r]) := by
  unfold heap_Heap_down.f at h
  refine Tr.body Try.func42 (c := _) rfl Try.ntmps42 (Nat.le_of_ble_eq_true rfl) fun R0 F => ?_
  replace h := Gets.of h
  have H := h
  clear h
  refine WP.seq ?_
  refine WP.reg [(0, false), (1, false), (2, false), (3, false), (4, false), (5, false), (6, false), (7, true), (8, true)] (by kernel_rfl) ?_
  refine Dv.mv rfl trivial rfl ?_
  refine Dv.nilA HHeap.nn rfl trivial rfl (mem_at 0 rfl) ?_
  refine Dv.gh (l' := fun (g665 : Nat × OV × OV) => [blk g665.1 61 [eq g665.2.1.1, eq g665.2.2.1], own HEnt.K g665.2.1.1 a0.fl, mp Value.string (fun x : Int => eq (.int .i64 x)) g665.2.2.1 a0.fat] ++ F) (gh_of (HHeap.opn 0 rfl)) (fun g665 h666 => ?_)
  refine Dv.fabp h666 rfl trivial rfl Try.underlying61 rfl Try.underlying59 c59 (by decide) ?_
  refine Dv.ldb rfl trivial rfl Try.underlying59 rfl (mem_at 0 rfl) rfl ?_
  refine Dv.mv rfl trivial rfl ?_
  obtain ⟨g667, H⟩ := Gets.grd H
  have h668 : a1.toNat < a0.fl.length := idx_lt g667
  refine Dv.ixw rfl trivial rfl (mem_at 1 rfl) rfl Try.underlying59 Try.underlying73 c73 g667.1 g667.2 ?_
  refine Dv.ldws (j := a1.toNat) (f := 0) rfl trivial rfl (mem_at 1 rfl) h668 Try.underlying73 rfl c73 (Nat.le_of_ble_eq_true rfl) ?_
  refine Dv.alloc (z := .agg #[.int .i64 0, .string ⟨#[]⟩]) (qs := [eq (.int .i64 0), eq (.string (⟨#[]⟩ : ByteArray))]) rfl trivial z73 rfl nofun (fun b669 => ?_)
  refine Dv.stx ([blk b669 73 [eq (.int .i64 ((a0.fl.getD a1.toNat default).fAt)), eq (.string ((a0.fl.getD a1.toNat default).fKey))], blk g665.1 61 [eq g665.2.1.1, eq g665.2.2.1], own HEnt.K g665.2.1.1 a0.fl, mp Value.string (fun x : Int => eq (.int .i64 x)) g665.2.2.1 a0.fat] ++ F) rfl trivial rfl rfl (cells_agg (HEnt.K.one _)) Try.underlying73 c73 rfl (j := 0) rfl (Nat.le_of_ble_eq_true rfl) rfl nofun ?_
  refine .fin ?_
  refine WP.seqn H id (fun p670 : Int × Int × Bool × Bool × HHeap => [(0, eq p0_.1), (1, eq (.int .i64 p670.1)), (4, eq (.pointer (some ⟨b669, 0, none⟩))), (5, eq (.int .i64 p670.2.1)), (42, eq (.bool p670.2.2.1)), (63, eq (.bool p670.2.2.2.1))]) (fun p670 : Int × Int × Bool × Bool × HHeap => [blk b669 73 [eq (.int .i64 ((a0.fl.getD a1.toNat default).fAt)), eq (.string ((a0.fl.getD a1.toNat default).fKey))], HHeap.O p0_ p670.2.2.2.2] ++ F) (fun p670 H => ?_) (fun H => ?_)
  · refine WP.reg [(0, false), (1, false), (2, false), (3, true)] (by kernel_rfl) ?_
    refine Dv.mv rfl trivial rfl ?_
    refine Dv.mv rfl trivial rfl ?_
    refine Dv.ldbs rfl trivial rfl Try.underlying73 rfl c73 (mem_at 0 rfl) (Nat.le_of_ble_eq_true rfl) ?_
    obtain ⟨t671, h672, H⟩ := Gets.call H
    refine Dv.callx (pre := [HHeap.O p0_ p670.2.2.2.2]) (F := [blk b669 73 [eq (.int .i64 ((a0.fl.getD a1.toNat default).fAt)), eq (.string ((a0.fl.getD a1.toNat default).fKey))]] ++ F) (fun _ : Unit => [HHeap.O p0_ t671, blk b669 73 [eq (.int .i64 ((a0.fl.getD a1.toNat default).fAt)), eq (.string ((a0.fl.getD a1.toNat default).fKey))]] ++ F) rfl trivial cal41 rfl (heap_Heap_set.c h672 (p0_ := p0_)) (perm_to (L := [blk b669 73 [eq (.int .i64 ((a0.fl.getD a1.toNat default).fAt)), eq (.string ((a0.fl.getD a1.toNat default).fKey))], HHeap.O p0_ p670.2.2.2.2]) (F := F) [1, 0] rfl rfl rfl) rfl nofun (fun _ _ => ?_)
    refine .fin ?_
    obtain rfl := Gets.out H
    exact res_end rfl () trivial .nil rfl (st_sel (L := [HHeap.O p0_ t671, blk b669 73 [eq (.int .i64 ((a0.fl.getD a1.toNat default).fAt)), eq (.string ((a0.fl.getD a1.toNat default).fKey))]]) (F := F) [1, 0] 1 rfl rfl rfl)
  · refine WP.block ?_
    refine WP.gh (l' := fun _ : Unit => [HHeap.O p0_ a0, blk b669 73 [eq (.int .i64 ((a0.fl.getD a1.toNat default).fAt)), eq (.string ((a0.fl.getD a1.toNat default).fKey))]] ++ F) (gh_of (HHeap.shut (p := p0_) (m := a0) (r := [blk b669 73 [eq (.int .i64 ((a0.fl.getD a1.toNat default).fAt)), eq (.string ((a0.fl.getD a1.toNat default).fKey))]] ++ F) (g665.1, g665.2.1, g665.2.2) h666 (perm_to (L := [blk b669 73 [eq (.int .i64 ((a0.fl.getD a1.toNat default).fAt)), eq (.string ((a0.fl.getD a1.toNat default).fKey))], blk g665.1 61 [eq g665.2.1.1, eq g665.2.2.1], own HEnt.K g665.2.1.1 a0.fl, mp Value.string (fun x : Int => eq (.int .i64 x)) g665.2.2.1 a0.fat]) (F := F) [1, 2, 3, 0] rfl rfl rfl))) (fun _ _ => ?_)
    refine WP.gh (l' := fun _ => [blk b669 73 [eq (.int .i64 ((a0.fl.getD a1.toNat default).fAt)), eq (.string ((a0.fl.getD a1.toNat default).fKey))], HHeap.O p0_ a0] ++ F) (gh_of (st_selg (L := [HHeap.O p0_ a0, blk b669 73 [eq (.int .i64 ((a0.fl.getD a1.toNat default).fAt)), eq (.string ((a0.fl.getD a1.toNat default).fKey))]]) (F := F) [1, 0] 0 rfl rfl rfl)) (fun _ _ => ?_)
    refine WP.loopg (fun j_ (p701 : Int × HHeap) => heap_Heap_down.l0 k a0 a1 j_ p701.1 p701.2) (a1, a0) H (fun p701 => [(0, eq p0_.1), (1, eq (.int .i64 p701.1)), (4, eq (.pointer (some ⟨b669, 0, none⟩)))]) (fun p701 => [blk b669 73 [eq (.int .i64 ((a0.fl.getD a1.toNat default).fAt)), eq (.string ((a0.fl.getD a1.toNat default).fKey))], HHeap.O p0_ p701.2] ++ F) (weak_cons rfl (weak_cons rfl (weak_cons rfl weak_nil))) (List.Perm.refl _) ?_
    rintro j_ ⟨x673, x674⟩ H
    rcases j_ with _ | j700
    · exact (Gets.no H).elim
    replace H : Gets (heap_Heap_down.l0 k a0 a1 (j700 + 1) x673 x674) _ := H
    rw [heap_Heap_down.l0] at H
    refine WP.block ?_
    refine WP.seq ?_
    refine WP.reg [(0, false), (1, false), (2, false), (3, false)] (by kernel_rfl) ?_
    refine Dv.mv rfl trivial rfl ?_
    refine Dv.bin rfl trivial rfl rfl (fun _ => run_mul) ?_
    refine Dv.bin rfl trivial rfl rfl (fun _ => run_add) ?_
    refine Dv.asg rfl trivial rfl ?_
    refine .fin ?_
    refine WP.seqn H id (fun p675 : Int × Bool => [(0, eq p0_.1), (1, eq (.int .i64 x673)), (4, eq (.pointer (some ⟨b669, 0, none⟩))), (5, eq (.int .i64 p675.1)), (42, eq (.bool p675.2))]) (fun p675 : Int × Bool => [blk b669 73 [eq (.int .i64 ((a0.fl.getD a1.toNat default).fAt)), eq (.string ((a0.fl.getD a1.toNat default).fKey))], HHeap.O p0_ x674] ++ F) (fun p675 H => ?_) (fun H => ?_)
    · refine WP.seq ?_
      refine WP.seq ?_
      refine WP.gh (l' := fun (g676 : Nat × OV × OV) => [blk g676.1 61 [eq g676.2.1.1, eq g676.2.2.1], own HEnt.K g676.2.1.1 x674.fl, mp Value.string (fun x : Int => eq (.int .i64 x)) g676.2.2.1 x674.fat, blk b669 73 [eq (.int .i64 ((a0.fl.getD a1.toNat default).fAt)), eq (.string ((a0.fl.getD a1.toNat default).fKey))]] ++ F) (gh_of (HHeap.opn 1 rfl)) (fun g676 h677 => ?_)
      refine WP.dreg Try.checked.mixed [(0, false), (1, false), (2, false), (3, false), (4, false), (5, false), (6, false), (7, false), (8, false), (9, false), (10, false), (11, false), (12, false), (13, false), (14, false), (15, false), (16, false), (17, false), (18, false)] (by kernel_rfl) ?_
      refine Dv.mv rfl trivial rfl ?_
      refine Dv.mv rfl trivial rfl ?_
      refine Dv.nilpp h677 rfl trivial rfl ?_
      refine Dv.fabp h677 rfl trivial rfl Try.underlying61 rfl Try.underlying59 c59 (by decide) ?_
      refine Dv.ldb rfl trivial rfl Try.underlying59 rfl (mem_at 0 rfl) rfl ?_
      refine Dv.lenw rfl trivial rfl (mem_at 1 rfl) Try.underlying59 ?_
      refine Dv.bin rfl trivial rfl rfl (fun _ => run_ge) ?_
      refine Dv.mv rfl trivial rfl ?_
      cases c678 : decide ((x674.fl.length : Int) ≤ p675.1)
      · replace H := Gets.cf H c678
        refine Dv.ldbs rfl ⟨_, _, rfl, rfl, rfl⟩ rfl Try.underlying73 rfl c73 (mem_at 3 rfl) (Nat.le_of_ble_eq_true rfl) ?_
        refine Dv.mv rfl ⟨_, _, rfl, rfl, rfl⟩ rfl ?_
        refine Dv.nilpp h677 rfl ⟨_, _, rfl, rfl, rfl⟩ rfl ?_
        refine Dv.fabp h677 rfl ⟨_, _, rfl, rfl, rfl⟩ rfl Try.underlying61 rfl Try.underlying59 c59 (by decide) ?_
        refine Dv.ldb rfl ⟨_, _, rfl, rfl, rfl⟩ rfl Try.underlying59 rfl (mem_at 0 rfl) rfl ?_
        refine Dv.mv rfl ⟨_, _, rfl, rfl, rfl⟩ rfl ?_
        obtain ⟨g680, H⟩ := Gets.grd H
        have h681 : p675.1.toNat < x674.fl.length := idx_lt g680
        refine Dv.ixw rfl ⟨_, _, rfl, rfl, rfl⟩ rfl (mem_at 1 rfl) rfl Try.underlying59 Try.underlying73 c73 g680.1 g680.2 ?_
        refine Dv.ldws (j := p675.1.toNat) (f := 0) rfl ⟨_, _, rfl, rfl, rfl⟩ rfl (mem_at 1 rfl) h681 Try.underlying73 rfl c73 (Nat.le_of_ble_eq_true rfl) ?_
        obtain ⟨t682, h683, H⟩ := Gets.call H
        refine Dv.call rfl ⟨_, _, rfl, rfl, rfl⟩ cal61 rfl (heap_ahead.c h683) ?_
        refine Dv.bin rfl ⟨_, _, rfl, rfl, rfl⟩ rfl rfl (fun _ => run_lt) ?_
        refine Dv.pickF rfl trivial rfl rfl ?_
        refine .fin ?_
        refine WP.cond rfl (fun c684 => ?_) (fun c684 => ?_)
        · replace H := Gets.ct H c684
          refine WP.exit ?_
          replace H := Gets.out H
          refine Dn.gh (l' := fun _ : Unit => [HHeap.O p0_ x674, blk b669 73 [eq (.int .i64 ((a0.fl.getD a1.toNat default).fAt)), eq (.string ((a0.fl.getD a1.toNat default).fKey))]] ++ F) (gh_of (HHeap.shut (p := p0_) (m := x674) (r := [blk b669 73 [eq (.int .i64 ((a0.fl.getD a1.toNat default).fAt)), eq (.string ((a0.fl.getD a1.toNat default).fKey))]] ++ F) (g676.1, g676.2.1, g676.2.2) h677 (perm_to (L := [blk g676.1 61 [eq g676.2.1.1, eq g676.2.2.1], own HEnt.K g676.2.1.1 x674.fl, mp Value.string (fun x : Int => eq (.int .i64 x)) g676.2.2.1 x674.fat, blk b669 73 [eq (.int .i64 ((a0.fl.getD a1.toNat default).fAt)), eq (.string ((a0.fl.getD a1.toNat default).fKey))]]) (F := F) [0, 1, 2, 3] rfl rfl rfl))) (fun _ _ => ?_)
          refine Dn.gh (l' := fun _ : Unit => [blk b669 73 [eq (.int .i64 ((a0.fl.getD a1.toNat default).fAt)), eq (.string ((a0.fl.getD a1.toNat default).fKey))], HHeap.O p0_ x674] ++ F) (gh_of (st_selg (L := [HHeap.O p0_ x674, blk b669 73 [eq (.int .i64 ((a0.fl.getD a1.toNat default).fAt)), eq (.string ((a0.fl.getD a1.toNat default).fKey))]]) (F := F) [1, 0] 0 rfl rfl rfl)) (fun _ _ => ?_)
          exact Jn.mk (x673, p675.1, p675.2, decide (t682 < 0), x674) H (weak_cons rfl (weak_cons rfl (weak_cons rfl (weak_cons rfl (weak_cons rfl (weak_cons rfl weak_nil)))))) (List.Perm.refl _)
        · replace H := Gets.cf H c684
          refine WP.skip ?_
          refine WP.seq ?_
          refine WP.reg [(0, false), (1, false), (2, false), (3, false), (4, false), (5, false), (6, false), (7, false), (8, false), (9, true)] (by kernel_rfl) ?_
          refine Dv.mv rfl trivial rfl ?_
          refine Dv.mv rfl trivial rfl ?_
          refine Dv.mv rfl trivial rfl ?_
          refine Dv.nilpp h677 rfl trivial rfl ?_
          refine Dv.fabp h677 rfl trivial rfl Try.underlying61 rfl Try.underlying59 c59 (by decide) ?_
          refine Dv.ldb rfl trivial rfl Try.underlying59 rfl (mem_at 0 rfl) rfl ?_
          refine Dv.mv rfl trivial rfl ?_
          obtain ⟨g685, H⟩ := Gets.grd H
          have h686 : p675.1.toNat < x674.fl.length := idx_lt g685
          refine Dv.ixw rfl trivial rfl (mem_at 1 rfl) rfl Try.underlying59 Try.underlying73 c73 g685.1 g685.2 ?_
          refine Dv.ldws (j := p675.1.toNat) (f := 0) rfl trivial rfl (mem_at 1 rfl) h686 Try.underlying73 rfl c73 (Nat.le_of_ble_eq_true rfl) ?_
          refine Dv.gh (l' := fun _ : Unit => [HHeap.O p0_ x674, blk b669 73 [eq (.int .i64 ((a0.fl.getD a1.toNat default).fAt)), eq (.string ((a0.fl.getD a1.toNat default).fKey))]] ++ F) (gh_of (HHeap.shut (p := p0_) (m := x674) (r := [blk b669 73 [eq (.int .i64 ((a0.fl.getD a1.toNat default).fAt)), eq (.string ((a0.fl.getD a1.toNat default).fKey))]] ++ F) (g676.1, g676.2.1, g676.2.2) h677 (perm_to (L := [blk g676.1 61 [eq g676.2.1.1, eq g676.2.2.1], own HEnt.K g676.2.1.1 x674.fl, mp Value.string (fun x : Int => eq (.int .i64 x)) g676.2.2.1 x674.fat, blk b669 73 [eq (.int .i64 ((a0.fl.getD a1.toNat default).fAt)), eq (.string ((a0.fl.getD a1.toNat default).fKey))]]) (F := F) [0, 1, 2, 3] rfl rfl rfl))) (fun _ _ => ?_)
          obtain ⟨t687, h688, H⟩ := Gets.call H
          refine Dv.callx (pre := [HHeap.O p0_ x674]) (F := [blk b669 73 [eq (.int .i64 ((a0.fl.getD a1.toNat default).fAt)), eq (.string ((a0.fl.getD a1.toNat default).fKey))]] ++ F) (fun _ : Unit => [HHeap.O p0_ t687, blk b669 73 [eq (.int .i64 ((a0.fl.getD a1.toNat default).fAt)), eq (.string ((a0.fl.getD a1.toNat default).fKey))]] ++ F) rfl trivial cal41 rfl (heap_Heap_set.c h688 (p0_ := p0_)) (perm_to (L := [HHeap.O p0_ x674, blk b669 73 [eq (.int .i64 ((a0.fl.getD a1.toNat default).fAt)), eq (.string ((a0.fl.getD a1.toNat default).fKey))]]) (F := F) [0, 1] rfl rfl rfl) rfl nofun (fun _ _ => ?_)
          refine .fin ?_
          refine WP.reg [(0, false), (1, false)] (by kernel_rfl) ?_
          refine Dv.mv rfl trivial rfl ?_
          refine Dv.asg rfl trivial rfl ?_
          refine .fin ?_
          refine Dn.gh (l' := fun _ : Unit => [blk b669 73 [eq (.int .i64 ((a0.fl.getD a1.toNat default).fAt)), eq (.string ((a0.fl.getD a1.toNat default).fKey))], HHeap.O p0_ t687] ++ F) (gh_of (st_selg (L := [HHeap.O p0_ t687, blk b669 73 [eq (.int .i64 ((a0.fl.getD a1.toNat default).fAt)), eq (.string ((a0.fl.getD a1.toNat default).fKey))]]) (F := F) [1, 0] 0 rfl rfl rfl)) (fun _ _ => ?_)
          exact Back.mk j700 (p675.1, t687) (Nat.lt_succ_self _) H (weak_cons rfl (weak_cons rfl (weak_cons rfl weak_nil))) (List.Perm.refl _)
      · replace H := Gets.ct H c678
        refine Dv.skip rfl ⟨_, _, rfl, rfl, .inl rfl⟩ ?_
        refine Dv.skip rfl ⟨_, _, rfl, rfl, .inl rfl⟩ ?_
        refine Dv.skip rfl ⟨_, _, rfl, rfl, .inl rfl⟩ ?_
        refine Dv.skip rfl ⟨_, _, rfl, rfl, .inl rfl⟩ ?_
        refine Dv.skip rfl ⟨_, _, rfl, rfl, .inl rfl⟩ ?_
        refine Dv.skip rfl ⟨_, _, rfl, rfl, .inl rfl⟩ ?_
        refine Dv.skip rfl ⟨_, _, rfl, rfl, .inl rfl⟩ ?_
        refine Dv.skip rfl ⟨_, _, rfl, rfl, .inl rfl⟩ ?_
        refine Dv.skip rfl ⟨_, _, rfl, rfl, .inl rfl⟩ ?_
        refine Dv.skip rfl ⟨_, _, rfl, rfl, .inl rfl⟩ ?_
        refine Dv.pickT rfl trivial rfl rfl ?_
        refine .fin ?_
        refine WP.cond rfl (fun _ => ?_) nofun
        refine WP.exit ?_
        replace H := Gets.out H
        refine Dn.gh (l' := fun _ : Unit => [HHeap.O p0_ x674, blk b669 73 [eq (.int .i64 ((a0.fl.getD a1.toNat default).fAt)), eq (.string ((a0.fl.getD a1.toNat default).fKey))]] ++ F) (gh_of (HHeap.shut (p := p0_) (m := x674) (r := [blk b669 73 [eq (.int .i64 ((a0.fl.getD a1.toNat default).fAt)), eq (.string ((a0.fl.getD a1.toNat default).fKey))]] ++ F) (g676.1, g676.2.1, g676.2.2) h677 (perm_to (L := [blk g676.1 61 [eq g676.2.1.1, eq g676.2.2.1], own HEnt.K g676.2.1.1 x674.fl, mp Value.string (fun x : Int => eq (.int .i64 x)) g676.2.2.1 x674.fat, blk b669 73 [eq (.int .i64 ((a0.fl.getD a1.toNat default).fAt)), eq (.string ((a0.fl.getD a1.toNat default).fKey))]]) (F := F) [0, 1, 2, 3] rfl rfl rfl))) (fun _ _ => ?_)
        refine Dn.gh (l' := fun _ : Unit => [blk b669 73 [eq (.int .i64 ((a0.fl.getD a1.toNat default).fAt)), eq (.string ((a0.fl.getD a1.toNat default).fKey))], HHeap.O p0_ x674] ++ F) (gh_of (st_selg (L := [HHeap.O p0_ x674, blk b669 73 [eq (.int .i64 ((a0.fl.getD a1.toNat default).fAt)), eq (.string ((a0.fl.getD a1.toNat default).fKey))]]) (F := F) [1, 0] 0 rfl rfl rfl)) (fun _ _ => ?_)
        exact Jn.mk (x673, p675.1, p675.2, true, x674) H (weak_cons rfl (weak_cons rfl (weak_cons rfl (weak_cons rfl (weak_cons rfl (weak_cons rfl weak_nil)))))) (List.Perm.refl _)
    · refine WP.seq ?_
      refine WP.gh (l' := fun (g689 : Nat × OV × OV) => [blk g689.1 61 [eq g689.2.1.1, eq g689.2.2.1], own HEnt.K g689.2.1.1 x674.fl, mp Value.string (fun x : Int => eq (.int .i64 x)) g689.2.2.1 x674.fat, blk b669 73 [eq (.int .i64 ((a0.fl.getD a1.toNat default).fAt)), eq (.string ((a0.fl.getD a1.toNat default).fKey))]] ++ F) (gh_of (HHeap.opn 1 rfl)) (fun g689 h690 => ?_)
      refine WP.dreg Try.checked.mixed [(0, false), (1, false), (2, false), (3, false), (4, false), (5, false), (6, false), (7, false), (8, false), (9, false), (10, false), (11, false), (12, false), (13, false), (14, false), (15, false), (16, false), (17, false), (18, false), (19, false), (20, false), (21, false), (22, false), (23, false), (24, false), (25, false), (26, false)] (by kernel_rfl) ?_
      refine Dv.mv rfl trivial rfl ?_
      refine Dv.bin rfl trivial rfl rfl (fun _ => run_add) ?_
      refine Dv.mv rfl trivial rfl ?_
      refine Dv.nilpp h690 rfl trivial rfl ?_
      refine Dv.fabp h690 rfl trivial rfl Try.underlying61 rfl Try.underlying59 c59 (by decide) ?_
      refine Dv.ldb rfl trivial rfl Try.underlying59 rfl (mem_at 0 rfl) rfl ?_
      refine Dv.lenw rfl trivial rfl (mem_at 1 rfl) Try.underlying59 ?_
      refine Dv.bin rfl trivial rfl rfl (fun _ => run_lt) ?_
      refine Dv.mv rfl trivial rfl ?_
      cases c691 : decide ((w64 ((w64 ((w64 (2 * x673)) + 1)) + 1)) < (x674.fl.length : Int))
      · replace H := Gets.cf H c691
        refine Dv.skip rfl ⟨_, _, rfl, rfl, .inl rfl⟩ ?_
        refine Dv.skip rfl ⟨_, _, rfl, rfl, .inl rfl⟩ ?_
        refine Dv.skip rfl ⟨_, _, rfl, rfl, .inl rfl⟩ ?_
        refine Dv.skip rfl ⟨_, _, rfl, rfl, .inl rfl⟩ ?_
        refine Dv.skip rfl ⟨_, _, rfl, rfl, .inl rfl⟩ ?_
        refine Dv.skip rfl ⟨_, _, rfl, rfl, .inl rfl⟩ ?_
        refine Dv.skip rfl ⟨_, _, rfl, rfl, .inl rfl⟩ ?_
        refine Dv.skip rfl ⟨_, _, rfl, rfl, .inl rfl⟩ ?_
        refine Dv.skip rfl ⟨_, _, rfl, rfl, .inl rfl⟩ ?_
        refine Dv.skip rfl ⟨_, _, rfl, rfl, .inl rfl⟩ ?_
        refine Dv.skip rfl ⟨_, _, rfl, rfl, .inl rfl⟩ ?_
        refine Dv.skip rfl ⟨_, _, rfl, rfl, .inl rfl⟩ ?_
        refine Dv.skip rfl ⟨_, _, rfl, rfl, .inl rfl⟩ ?_
        refine Dv.skip rfl ⟨_, _, rfl, rfl, .inl rfl⟩ ?_
        refine Dv.skip rfl ⟨_, _, rfl, rfl, .inl rfl⟩ ?_
        refine Dv.skip rfl ⟨_, _, rfl, rfl, .inl rfl⟩ ?_
        refine Dv.skip rfl ⟨_, _, rfl, rfl, .inl rfl⟩ ?_
        refine Dv.pickF rfl trivial rfl rfl ?_
        refine .fin ?_
        refine WP.cond rfl nofun (fun _ => ?_)
        refine WP.skip ?_
        replace H := Gets.out H
        refine Dn.gh (l' := fun _ : Unit => [HHeap.O p0_ x674, blk b669 73 [eq (.int .i64 ((a0.fl.getD a1.toNat default).fAt)), eq (.string ((a0.fl.getD a1.toNat default).fKey))]] ++ F) (gh_of (HHeap.shut (p := p0_) (m := x674) (r := [blk b669 73 [eq (.int .i64 ((a0.fl.getD a1.toNat default).fAt)), eq (.string ((a0.fl.getD a1.toNat default).fKey))]] ++ F) (g689.1, g689.2.1, g689.2.2) h690 (perm_to (L := [blk g689.1 61 [eq g689.2.1.1, eq g689.2.2.1], own HEnt.K g689.2.1.1 x674.fl, mp Value.string (fun x : Int => eq (.int .i64 x)) g689.2.2.1 x674.fat, blk b669 73 [eq (.int .i64 ((a0.fl.getD a1.toNat default).fAt)), eq (.string ((a0.fl.getD a1.toNat default).fKey))]]) (F := F) [0, 1, 2, 3] rfl rfl rfl))) (fun _ _ => ?_)
        refine Dn.gh (l' := fun _ : Unit => [blk b669 73 [eq (.int .i64 ((a0.fl.getD a1.toNat default).fAt)), eq (.string ((a0.fl.getD a1.toNat default).fKey))], HHeap.O p0_ x674] ++ F) (gh_of (st_selg (L := [HHeap.O p0_ x674, blk b669 73 [eq (.int .i64 ((a0.fl.getD a1.toNat default).fAt)), eq (.string ((a0.fl.getD a1.toNat default).fKey))]]) (F := F) [1, 0] 0 rfl rfl rfl)) (fun _ _ => ?_)
        exact Jn.mk (w64 ((w64 (2 * x673)) + 1), false) H (weak_cons rfl (weak_cons rfl (weak_cons rfl (weak_cons rfl (weak_cons rfl weak_nil))))) (List.Perm.refl _)
      · replace H := Gets.ct H c691
        refine Dv.mv rfl ⟨_, _, rfl, rfl, rfl⟩ rfl ?_
        refine Dv.nilpp h690 rfl ⟨_, _, rfl, rfl, rfl⟩ rfl ?_
        refine Dv.fabp h690 rfl ⟨_, _, rfl, rfl, rfl⟩ rfl Try.underlying61 rfl Try.underlying59 c59 (by decide) ?_
        refine Dv.ldb rfl ⟨_, _, rfl, rfl, rfl⟩ rfl Try.underlying59 rfl (mem_at 0 rfl) rfl ?_
        refine Dv.mv rfl ⟨_, _, rfl, rfl, rfl⟩ rfl ?_
        refine Dv.bin rfl ⟨_, _, rfl, rfl, rfl⟩ rfl rfl (fun _ => run_add) ?_
        obtain ⟨g692, H⟩ := Gets.grd H
        have h693 : (w64 ((w64 ((w64 (2 * x673)) + 1)) + 1)).toNat < x674.fl.length := idx_lt g692
        refine Dv.ixw rfl ⟨_, _, rfl, rfl, rfl⟩ rfl (mem_at 1 rfl) rfl Try.underlying59 Try.underlying73 c73 g692.1 g692.2 ?_
        refine Dv.ldws (j := ((w64 ((w64 ((w64 (2 * x673)) + 1)) + 1)).toNat)) (f := 0) rfl ⟨_, _, rfl, rfl, rfl⟩ rfl (mem_at 1 rfl) h693 Try.underlying73 rfl c73 (Nat.le_of_ble_eq_true rfl) ?_
        refine Dv.mv rfl ⟨_, _, rfl, rfl, rfl⟩ rfl ?_
        refine Dv.nilpp h690 rfl ⟨_, _, rfl, rfl, rfl⟩ rfl ?_
        refine Dv.fabp h690 rfl ⟨_, _, rfl, rfl, rfl⟩ rfl Try.underlying61 rfl Try.underlying59 c59 (by decide) ?_
        refine Dv.ldb rfl ⟨_, _, rfl, rfl, rfl⟩ rfl Try.underlying59 rfl (mem_at 0 rfl) rfl ?_
        refine Dv.mv rfl ⟨_, _, rfl, rfl, rfl⟩ rfl ?_
        obtain ⟨g694, H⟩ := Gets.grd H
        have h695 : (w64 ((w64 (2 * x673)) + 1)).toNat < x674.fl.length := idx_lt g694
        refine Dv.ixw rfl ⟨_, _, rfl, rfl, rfl⟩ rfl (mem_at 1 rfl) rfl Try.underlying59 Try.underlying73 c73 g694.1 g694.2 ?_
        refine Dv.ldws (j := ((w64 ((w64 (2 * x673)) + 1)).toNat)) (f := 0) rfl ⟨_, _, rfl, rfl, rfl⟩ rfl (mem_at 1 rfl) h695 Try.underlying73 rfl c73 (Nat.le_of_ble_eq_true rfl) ?_
        obtain ⟨t696, h697, H⟩ := Gets.call H
        refine Dv.call rfl ⟨_, _, rfl, rfl, rfl⟩ cal61 rfl (heap_ahead.c h697) ?_
        refine Dv.bin rfl ⟨_, _, rfl, rfl, rfl⟩ rfl rfl (fun _ => run_lt) ?_
        refine Dv.pickT rfl trivial rfl rfl ?_
        refine .fin ?_
        refine WP.cond rfl (fun c698 => ?_) (fun c698 => ?_)
        · replace H := Gets.ct H c698
          refine WP.reg [(0, false), (1, false), (2, false)] (by kernel_rfl) ?_
          refine Dv.mv rfl trivial rfl ?_
          refine Dv.bin rfl trivial rfl rfl (fun _ => run_add) ?_
          refine Dv.asg rfl trivial rfl ?_
          refine .fin ?_
          replace H := Gets.out H
          refine Dn.gh (l' := fun _ : Unit => [HHeap.O p0_ x674, blk b669 73 [eq (.int .i64 ((a0.fl.getD a1.toNat default).fAt)), eq (.string ((a0.fl.getD a1.toNat default).fKey))]] ++ F) (gh_of (HHeap.shut (p := p0_) (m := x674) (r := [blk b669 73 [eq (.int .i64 ((a0.fl.getD a1.toNat default).fAt)), eq (.string ((a0.fl.getD a1.toNat default).fKey))]] ++ F) (g689.1, g689.2.1, g689.2.2) h690 (perm_to (L := [blk g689.1 61 [eq g689.2.1.1, eq g689.2.2.1], own HEnt.K g689.2.1.1 x674.fl, mp Value.string (fun x : Int => eq (.int .i64 x)) g689.2.2.1 x674.fat, blk b669 73 [eq (.int .i64 ((a0.fl.getD a1.toNat default).fAt)), eq (.string ((a0.fl.getD a1.toNat default).fKey))]]) (F := F) [0, 1, 2, 3] rfl rfl rfl))) (fun _ _ => ?_)
          refine Dn.gh (l' := fun _ : Unit => [blk b669 73 [eq (.int .i64 ((a0.fl.getD a1.toNat default).fAt)), eq (.string ((a0.fl.getD a1.toNat default).fKey))], HHeap.O p0_ x674] ++ F) (gh_of (st_selg (L := [HHeap.O p0_ x674, blk b669 73 [eq (.int .i64 ((a0.fl.getD a1.toNat default).fAt)), eq (.string ((a0.fl.getD a1.toNat default).fKey))]]) (F := F) [1, 0] 0 rfl rfl rfl)) (fun _ _ => ?_)
          exact Jn.mk (w64 ((w64 ((w64 (2 * x673)) + 1)) + 1), decide (t696 < 0)) H (weak_cons rfl (weak_cons rfl (weak_cons rfl (weak_cons rfl (weak_cons rfl weak_nil))))) (List.Perm.refl _)
        · replace H := Gets.cf H c698
          refine WP.skip ?_
          replace H := Gets.out H
          refine Dn.gh (l' := fun _ : Unit => [HHeap.O p0_ x674, blk b669 73 [eq (.int .i64 ((a0.fl.getD a1.toNat default).fAt)), eq (.string ((a0.fl.getD a1.toNat default).fKey))]] ++ F) (gh_of (HHeap.shut (p := p0_) (m := x674) (r := [blk b669 73 [eq (.int .i64 ((a0.fl.getD a1.toNat default).fAt)), eq (.string ((a0.fl.getD a1.toNat default).fKey))]] ++ F) (g689.1, g689.2.1, g689.2.2) h690 (perm_to (L := [blk g689.1 61 [eq g689.2.1.1, eq g689.2.2.1], own HEnt.K g689.2.1.1 x674.fl, mp Value.string (fun x : Int => eq (.int .i64 x)) g689.2.2.1 x674.fat, blk b669 73 [eq (.int .i64 ((a0.fl.getD a1.toNat default).fAt)), eq (.string ((a0.fl.getD a1.toNat default).fKey))]]) (F := F) [0, 1, 2, 3] rfl rfl rfl))) (fun _ _ => ?_)
          refine Dn.gh (l' := fun _ : Unit => [blk b669 73 [eq (.int .i64 ((a0.fl.getD a1.toNat default).fAt)), eq (.string ((a0.fl.getD a1.toNat default).fKey))], HHeap.O p0_ x674] ++ F) (gh_of (st_selg (L := [HHeap.O p0_ x674, blk b669 73 [eq (.int .i64 ((a0.fl.getD a1.toNat default).fAt)), eq (.string ((a0.fl.getD a1.toNat default).fKey))]]) (F := F) [1, 0] 0 rfl rfl rfl)) (fun _ _ => ?_)
          exact Jn.mk (w64 ((w64 (2 * x673)) + 1), decide (t696 < 0)) H (weak_cons rfl (weak_cons rfl (weak_cons rfl (weak_cons rfl (weak_cons rfl weak_nil))))) (List.Perm.refl _)
theorem heap_Heap_up.c {k : Nat} {a0 : HHeap} {a1 : Int} {p0_ : OV} {r : HHeap} (h : heap_Heap_up.f k a0 a1 = some r) : Tr Try.prog 43 [eq p0_.1, eq (.int .i64 a1)] [HHeap.O p0_ a0] (γ := Unit) (fun _ => True) (fun g => tup []) (fun g => [HHeap.O p0_ r]) := by
  unfold heap_Heap_up.f at h
  refine Tr.body Try.func43 (c := _) rfl Try.ntmps43 (Nat.le_of_ble_eq_true rfl) fun R0 F => ?_
  replace h := Gets.of h
  have H := h
  clear h
  refine WP.seq ?_
  refine WP.reg [(0, false), (1, false), (2, false), (3, false), (4, false), (5, false), (6, false), (7, true), (8, true)] (by kernel_rfl) ?_
  refine Dv.mv rfl trivial rfl ?_
  refine Dv.nilA HHeap.nn rfl trivial rfl (mem_at 0 rfl) ?_
  refine Dv.gh (l' := fun (g702 : Nat × OV × OV) => [blk g702.1 61 [eq g702.2.1.1, eq g702.2.2.1], own HEnt.K g702.2.1.1 a0.fl, mp Value.string (fun x : Int => eq (.int .i64 x)) g702.2.2.1 a0.fat] ++ F) (gh_of (HHeap.opn 0 rfl)) (fun g702 h703 => ?_)
  refine Dv.fabp h703 rfl trivial rfl Try.underlying61 rfl Try.underlying59 c59 (by decide) ?_
  refine Dv.ldb rfl trivial rfl Try.underlying59 rfl (mem_at 0 rfl) rfl ?_
  refine Dv.mv rfl trivial rfl ?_
  obtain ⟨g704, H⟩ := Gets.grd H
  have h705 : a1.toNat < a0.fl.length := idx_lt g704
  refine Dv.ixw rfl trivial rfl (mem_at 1 rfl) rfl Try.underlying59 Try.underlying73 c73 g704.1 g704.2 ?_
  refine Dv.ldws (j := a1.toNat) (f := 0) rfl trivial rfl (mem_at 1 rfl) h705 Try.underlying73 rfl c73 (Nat.le_of_ble_eq_true rfl) ?_
  refine Dv.alloc (z := .agg #[.int .i64 0, .string ⟨#[]⟩]) (qs := [eq (.int .i64 0), eq (.string (⟨#[]⟩ : ByteArray))]) rfl trivial z73 rfl nofun (fun b706 => ?_)
  refine Dv.stx ([blk b706 73 [eq (.int .i64 ((a0.fl.getD a1.toNat default).fAt)), eq (.string ((a0.fl.getD a1.toNat default).fKey))], blk g702.1 61 [eq g702.2.1.1, eq g702.2.2.1], own HEnt.K g702.2.1.1 a0.fl, mp Value.string (fun x : Int => eq (.int .i64 x)) g702.2.2.1 a0.fat] ++ F) rfl trivial rfl rfl (cells_agg (HEnt.K.one _)) Try.underlying73 c73 rfl (j := 0) rfl (Nat.le_of_ble_eq_true rfl) rfl nofun ?_
  refine .fin ?_
  refine WP.seqn H id (fun p707 : Int × Bool × HHeap => [(0, eq p0_.1), (1, eq (.int .i64 p707.1)), (4, eq (.pointer (some ⟨b706, 0, none⟩))), (27, eq (.bool p707.2.1))]) (fun p707 : Int × Bool × HHeap => [blk b706 73 [eq (.int .i64 ((a0.fl.getD a1.toNat default).fAt)), eq (.string ((a0.fl.getD a1.toNat default).fKey))], HHeap.O p0_ p707.2.2] ++ F) (fun p707 H => ?_) (fun H => ?_)
  · refine WP.reg [(0, false), (1, false), (2, false), (3, true)] (by kernel_rfl) ?_
    refine Dv.mv rfl trivial rfl ?_
    refine Dv.mv rfl trivial rfl ?_
    refine Dv.ldbs rfl trivial rfl Try.underlying73 rfl c73 (mem_at 0 rfl) (Nat.le_of_ble_eq_true rfl) ?_
    obtain ⟨t708, h709, H⟩ := Gets.call H
    refine Dv.callx (pre := [HHeap.O p0_ p707.2.2]) (F := [blk b706 73 [eq (.int .i64 ((a0.fl.getD a1.toNat default).fAt)), eq (.string ((a0.fl.getD a1.toNat default).fKey))]] ++ F) (fun _ : Unit => [HHeap.O p0_ t708, blk b706 73 [eq (.int .i64 ((a0.fl.getD a1.toNat default).fAt)), eq (.string ((a0.fl.getD a1.toNat default).fKey))]] ++ F) rfl trivial cal41 rfl (heap_Heap_set.c h709 (p0_ := p0_)) (perm_to (L := [blk b706 73 [eq (.int .i64 ((a0.fl.getD a1.toNat default).fAt)), eq (.string ((a0.fl.getD a1.toNat default).fKey))], HHeap.O p0_ p707.2.2]) (F := F) [1, 0] rfl rfl rfl) rfl nofun (fun _ _ => ?_)
    refine .fin ?_
    obtain rfl := Gets.out H
    exact res_end rfl () trivial .nil rfl (st_sel (L := [HHeap.O p0_ t708, blk b706 73 [eq (.int .i64 ((a0.fl.getD a1.toNat default).fAt)), eq (.string ((a0.fl.getD a1.toNat default).fKey))]]) (F := F) [1, 0] 1 rfl rfl rfl)
  · refine WP.block ?_
    refine WP.gh (l' := fun _ : Unit => [HHeap.O p0_ a0, blk b706 73 [eq (.int .i64 ((a0.fl.getD a1.toNat default).fAt)), eq (.string ((a0.fl.getD a1.toNat default).fKey))]] ++ F) (gh_of (HHeap.shut (p := p0_) (m := a0) (r := [blk b706 73 [eq (.int .i64 ((a0.fl.getD a1.toNat default).fAt)), eq (.string ((a0.fl.getD a1.toNat default).fKey))]] ++ F) (g702.1, g702.2.1, g702.2.2) h703 (perm_to (L := [blk b706 73 [eq (.int .i64 ((a0.fl.getD a1.toNat default).fAt)), eq (.string ((a0.fl.getD a1.toNat default).fKey))], blk g702.1 61 [eq g702.2.1.1, eq g702.2.2.1], own HEnt.K g702.2.1.1 a0.fl, mp Value.string (fun x : Int => eq (.int .i64 x)) g702.2.2.1 a0.fat]) (F := F) [1, 2, 3, 0] rfl rfl rfl))) (fun _ _ => ?_)
    refine WP.gh (l' := fun _ => [blk b706 73 [eq (.int .i64 ((a0.fl.getD a1.toNat default).fAt)), eq (.string ((a0.fl.getD a1.toNat default).fKey))], HHeap.O p0_ a0] ++ F) (gh_of (st_selg (L := [HHeap.O p0_ a0, blk b706 73 [eq (.int .i64 ((a0.fl.getD a1.toNat default).fAt)), eq (.string ((a0.fl.getD a1.toNat default).fKey))]]) (F := F) [1, 0] 0 rfl rfl rfl)) (fun _ _ => ?_)
    refine WP.loopg (fun j_ (p726 : Int × HHeap) => heap_Heap_up.l0 k a0 a1 j_ p726.1 p726.2) (a1, a0) H (fun p726 => [(0, eq p0_.1), (1, eq (.int .i64 p726.1)), (4, eq (.pointer (some ⟨b706, 0, none⟩)))]) (fun p726 => [blk b706 73 [eq (.int .i64 ((a0.fl.getD a1.toNat default).fAt)), eq (.string ((a0.fl.getD a1.toNat default).fKey))], HHeap.O p0_ p726.2] ++ F) (weak_cons rfl (weak_cons rfl (weak_cons rfl weak_nil))) (List.Perm.refl _) ?_
    rintro j_ ⟨x710, x711⟩ H
    rcases j_ with _ | j725
    · exact (Gets.no H).elim
    replace H : Gets (heap_Heap_up.l0 k a0 a1 (j725 + 1) x710 x711) _ := H
    rw [heap_Heap_up.l0] at H
    refine WP.seq ?_
    refine WP.seq ?_
    refine WP.gh (l' := fun (g712 : Nat × OV × OV) => [blk g712.1 61 [eq g712.2.1.1, eq g712.2.2.1], own HEnt.K g712.2.1.1 x711.fl, mp Value.string (fun x : Int => eq (.int .i64 x)) g712.2.2.1 x711.fat, blk b706 73 [eq (.int .i64 ((a0.fl.getD a1.toNat default).fAt)), eq (.string ((a0.fl.getD a1.toNat default).fKey))]] ++ F) (gh_of (HHeap.opn 1 rfl)) (fun g712 h713 => ?_)
    refine WP.dreg Try.checked.mixed [(0, false), (1, false), (2, false), (3, false), (4, false), (5, false), (6, false), (7, false), (8, false), (9, false), (10, false), (11, false), (12, false), (13, false), (14, false), (15, false)] (by kernel_rfl) ?_
    refine Dv.mv rfl trivial rfl ?_
    refine Dv.bin rfl trivial rfl rfl (fun _ => run_gt) ?_
    refine Dv.mv rfl trivial rfl ?_
    cases c714 : decide (0 < x710)
    · replace H := Gets.cf H c714
      refine Dv.skip rfl ⟨_, _, rfl, rfl, .inl rfl⟩ ?_
      refine Dv.skip rfl ⟨_, _, rfl, rfl, .inl rfl⟩ ?_
      refine Dv.skip rfl ⟨_, _, rfl, rfl, .inl rfl⟩ ?_
      refine Dv.skip rfl ⟨_, _, rfl, rfl, .inl rfl⟩ ?_
      refine Dv.skip rfl ⟨_, _, rfl, rfl, .inl rfl⟩ ?_
      refine Dv.skip rfl ⟨_, _, rfl, rfl, .inl rfl⟩ ?_
      refine Dv.skip rfl ⟨_, _, rfl, rfl, .inl rfl⟩ ?_
      refine Dv.skip rfl ⟨_, _, rfl, rfl, .inl rfl⟩ ?_
      refine Dv.skip rfl ⟨_, _, rfl, rfl, .inl rfl⟩ ?_
      refine Dv.skip rfl ⟨_, _, rfl, rfl, .inl rfl⟩ ?_
      refine Dv.skip rfl ⟨_, _, rfl, rfl, .inl rfl⟩ ?_
      refine Dv.skip rfl ⟨_, _, rfl, rfl, .inl rfl⟩ ?_
      refine Dv.pickF rfl trivial rfl rfl ?_
      refine .fin ?_
      refine WP.cond rfl nofun (fun _ => ?_)
      refine WP.exit ?_
      replace H := Gets.out H
      refine Dn.gh (l' := fun _ : Unit => [HHeap.O p0_ x711, blk b706 73 [eq (.int .i64 ((a0.fl.getD a1.toNat default).fAt)), eq (.string ((a0.fl.getD a1.toNat default).fKey))]] ++ F) (gh_of (HHeap.shut (p := p0_) (m := x711) (r := [blk b706 73 [eq (.int .i64 ((a0.fl.getD a1.toNat default).fAt)), eq (.string ((a0.fl.getD a1.toNat default).fKey))]] ++ F) (g712.1, g712.2.1, g712.2.2) h713 (perm_to (L := [blk g712.1 61 [eq g712.2.1.1, eq g712.2.2.1], own HEnt.K g712.2.1.1 x711.fl, mp Value.string (fun x : Int => eq (.int .i64 x)) g712.2.2.1 x711.fat, blk b706 73 [eq (.int .i64 ((a0.fl.getD a1.toNat default).fAt)), eq (.string ((a0.fl.getD a1.toNat default).fKey))]]) (F := F) [0, 1, 2, 3] rfl rfl rfl))) (fun _ _ => ?_)
      refine Dn.gh (l' := fun _ : Unit => [blk b706 73 [eq (.int .i64 ((a0.fl.getD a1.toNat default).fAt)), eq (.string ((a0.fl.getD a1.toNat default).fKey))], HHeap.O p0_ x711] ++ F) (gh_of (st_selg (L := [HHeap.O p0_ x711, blk b706 73 [eq (.int .i64 ((a0.fl.getD a1.toNat default).fAt)), eq (.string ((a0.fl.getD a1.toNat default).fKey))]]) (F := F) [1, 0] 0 rfl rfl rfl)) (fun _ _ => ?_)
      exact Jn.mk (x710, false, x711) H (weak_cons rfl (weak_cons rfl (weak_cons rfl (weak_cons rfl weak_nil)))) (List.Perm.refl _)
    · replace H := Gets.ct H c714
      refine Dv.ldbs rfl ⟨_, _, rfl, rfl, rfl⟩ rfl Try.underlying73 rfl c73 (mem_at 3 rfl) (Nat.le_of_ble_eq_true rfl) ?_
      refine Dv.mv rfl ⟨_, _, rfl, rfl, rfl⟩ rfl ?_
      refine Dv.nilpp h713 rfl ⟨_, _, rfl, rfl, rfl⟩ rfl ?_
      refine Dv.fabp h713 rfl ⟨_, _, rfl, rfl, rfl⟩ rfl Try.underlying61 rfl Try.underlying59 c59 (by decide) ?_
      refine Dv.ldb rfl ⟨_, _, rfl, rfl, rfl⟩ rfl Try.underlying59 rfl (mem_at 0 rfl) rfl ?_
      refine Dv.mv rfl ⟨_, _, rfl, rfl, rfl⟩ rfl ?_
      refine Dv.bin rfl ⟨_, _, rfl, rfl, rfl⟩ rfl rfl (fun _ => run_sub) ?_
      refine Dv.bin rfl ⟨_, _, rfl, rfl, rfl⟩ rfl rfl (fun _ => run_quo (by decide)) ?_
      obtain ⟨g715, H⟩ := Gets.grd H
      have h716 : (w64 ((w64 (x710 - 1)).tdiv 2)).toNat < x711.fl.length := idx_lt g715
      refine Dv.ixw rfl ⟨_, _, rfl, rfl, rfl⟩ rfl (mem_at 1 rfl) rfl Try.underlying59 Try.underlying73 c73 g715.1 g715.2 ?_
      refine Dv.ldws (j := ((w64 ((w64 (x710 - 1)).tdiv 2)).toNat)) (f := 0) rfl ⟨_, _, rfl, rfl, rfl⟩ rfl (mem_at 1 rfl) h716 Try.underlying73 rfl c73 (Nat.le_of_ble_eq_true rfl) ?_
      obtain ⟨t717, h718, H⟩ := Gets.call H
      refine Dv.call rfl ⟨_, _, rfl, rfl, rfl⟩ cal61 rfl (heap_ahead.c h718) ?_
      refine Dv.bin rfl ⟨_, _, rfl, rfl, rfl⟩ rfl rfl (fun _ => run_lt) ?_
      refine Dv.pickT rfl trivial rfl rfl ?_
      refine .fin ?_
      refine WP.cond rfl (fun c719 => ?_) (fun c719 => ?_)
      · replace H := Gets.ct H c719
        refine WP.skip ?_
        refine WP.block ?_
        refine WP.seq ?_
        refine WP.reg [(0, false), (1, false), (2, false), (3, false), (4, false), (5, false), (6, false), (7, false), (8, false), (9, false), (10, false), (11, true)] (by kernel_rfl) ?_
        refine Dv.mv rfl trivial rfl ?_
        refine Dv.mv rfl trivial rfl ?_
        refine Dv.mv rfl trivial rfl ?_
        refine Dv.nilpp h713 rfl trivial rfl ?_
        refine Dv.fabp h713 rfl trivial rfl Try.underlying61 rfl Try.underlying59 c59 (by decide) ?_
        refine Dv.ldb rfl trivial rfl Try.underlying59 rfl (mem_at 0 rfl) rfl ?_
        refine Dv.mv rfl trivial rfl ?_
        refine Dv.bin rfl trivial rfl rfl (fun _ => run_sub) ?_
        refine Dv.bin rfl trivial rfl rfl (fun _ => run_quo (by decide)) ?_
        obtain ⟨g720, H⟩ := Gets.grd H
        have h721 : (w64 ((w64 (x710 - 1)).tdiv 2)).toNat < x711.fl.length := idx_lt g720
        refine Dv.ixw rfl trivial rfl (mem_at 1 rfl) rfl Try.underlying59 Try.underlying73 c73 g720.1 g720.2 ?_
        refine Dv.ldws (j := ((w64 ((w64 (x710 - 1)).tdiv 2)).toNat)) (f := 0) rfl trivial rfl (mem_at 1 rfl) h721 Try.underlying73 rfl c73 (Nat.le_of_ble_eq_true rfl) ?_
        refine Dv.gh (l' := fun _ : Unit => [HHeap.O p0_ x711, blk b706 73 [eq (.int .i64 ((a0.fl.getD a1.toNat default).fAt)), eq (.string ((a0.fl.getD a1.toNat default).fKey))]] ++ F) (gh_of (HHeap.shut (p := p0_) (m := x711) (r := [blk b706 73 [eq (.int .i64 ((a0.fl.getD a1.toNat default).fAt)), eq (.string ((a0.fl.getD a1.toNat default).fKey))]] ++ F) (g712.1, g712.2.1, g712.2.2) h713 (perm_to (L := [blk g712.1 61 [eq g712.2.1.1, eq g712.2.2.1], own HEnt.K g712.2.1.1 x711.fl, mp Value.string (fun x : Int => eq (.int .i64 x)) g712.2.2.1 x711.fat, blk b706 73 [eq (.int .i64 ((a0.fl.getD a1.toNat default).fAt)), eq (.string ((a0.fl.getD a1.toNat default).fKey))]]) (F := F) [0, 1, 2, 3] rfl rfl rfl))) (fun _ _ => ?_)
        obtain ⟨t722, h723, H⟩ := Gets.call H
        refine Dv.callx (pre := [HHeap.O p0_ x711]) (F := [blk b706 73 [eq (.int .i64 ((a0.fl.getD a1.toNat default).fAt)), eq (.string ((a0.fl.getD a1.toNat default).fKey))]] ++ F) (fun _ : Unit => [HHeap.O p0_ t722, blk b706 73 [eq (.int .i64 ((a0.fl.getD a1.toNat default).fAt)), eq (.string ((a0.fl.getD a1.toNat default).fKey))]] ++ F) rfl trivial cal41 rfl (heap_Heap_set.c h723 (p0_ := p0_)) (perm_to (L := [HHeap.O p0_ x711, blk b706 73 [eq (.int .i64 ((a0.fl.getD a1.toNat default).fAt)), eq (.string ((a0.fl.getD a1.toNat default).fKey))]]) (F := F) [0, 1] rfl rfl rfl) rfl nofun (fun _ _ => ?_)
        refine .fin ?_
        refine WP.reg [(0, false), (1, false), (2, false), (3, false)] (by kernel_rfl) ?_
        refine Dv.mv rfl trivial rfl ?_
        refine Dv.bin rfl trivial rfl rfl (fun _ => run_sub) ?_
        refine Dv.bin rfl trivial rfl rfl (fun _ => run_quo (by decide)) ?_
        refine Dv.asg rfl trivial rfl ?_
        refine .fin ?_
        refine Dn.gh (l' := fun _ : Unit => [blk b706 73 [eq (.int .i64 ((a0.fl.getD a1.toNat default).fAt)), eq (.string ((a0.fl.getD a1.toNat default).fKey))], HHeap.O p0_ t722] ++ F) (gh_of (st_selg (L := [HHeap.O p0_ t722, blk b706 73 [eq (.int .i64 ((a0.fl.getD a1.toNat default).fAt)), eq (.string ((a0.fl.getD a1.toNat default).fKey))]]) (F := F) [1, 0] 0 rfl rfl rfl)) (fun _ _ => ?_)
        exact Back.mk j725 (w64 ((w64 (x710 - 1)).tdiv 2), t722) (Nat.lt_succ_self _) H (weak_cons rfl (weak_cons rfl (weak_cons rfl weak_nil))) (List.Perm.refl _)
      · replace H := Gets.cf H c719
        refine WP.exit ?_
        replace H := Gets.out H
        refine Dn.gh (l' := fun _ : Unit => [HHeap.O p0_ x711, blk b706 73 [eq (.int .i64 ((a0.fl.getD a1.toNat default).fAt)), eq (.string ((a0.fl.getD a1.toNat default).fKey))]] ++ F) (gh_of (HHeap.shut (p := p0_) (m := x711) (r := [blk b706 73 [eq (.int .i64 ((a0.fl.getD a1.toNat default).fAt)), eq (.string ((a0.fl.getD a1.toNat default).fKey))]] ++ F) (g712.1, g712.2.1, g712.2.2) h713 (perm_to (L := [blk g712.1 61 [eq g712.2.1.1, eq g712.2.2.1], own HEnt.K g712.2.1.1 x711.fl, mp Value.string (fun x : Int => eq (.int .i64 x)) g712.2.2.1 x711.fat, blk b706 73 [eq (.int .i64 ((a0.fl.getD a1.toNat default).fAt)), eq (.string ((a0.fl.getD a1.toNat default).fKey))]]) (F := F) [0, 1, 2, 3] rfl rfl rfl))) (fun _ _ => ?_)
        refine Dn.gh (l' := fun _ : Unit => [blk b706 73 [eq (.int .i64 ((a0.fl.getD a1.toNat default).fAt)), eq (.string ((a0.fl.getD a1.toNat default).fKey))], HHeap.O p0_ x711] ++ F) (gh_of (st_selg (L := [HHeap.O p0_ x711, blk b706 73 [eq (.int .i64 ((a0.fl.getD a1.toNat default).fAt)), eq (.string ((a0.fl.getD a1.toNat default).fKey))]]) (F := F) [1, 0] 0 rfl rfl rfl)) (fun _ _ => ?_)
        exact Jn.mk (x710, decide (t717 < 0), x711) H (weak_cons rfl (weak_cons rfl (weak_cons rfl (weak_cons rfl weak_nil)))) (List.Perm.refl _)
theorem heap_Heap_Drop.c {k : Nat} {a0 : HHeap} {a1 : ByteArray} {p0_ : OV} {r : Bool × HHeap} (h : heap_Heap_Drop.f k a0 a1 = some r) : Tr Try.prog 23 [eq p0_.1, eq (.string a1)] [HHeap.O p0_ a0] (γ := Unit) (fun _ => True) (fun g => eq (.bool r.1)) (fun g => [HHeap.O p0_ r.2]) := by
  unfold heap_Heap_Drop.f at h
  refine Tr.body Try.func23 (c := _) rfl Try.ntmps23 (Nat.le_of_ble_eq_true rfl) fun R0 F => ?_
  replace h := Gets.of h
  have H := h
  clear h
  refine WP.seq ?_
  refine WP.reg [(0, false)] (by kernel_rfl) ?_
  refine Dv.asg rfl trivial rfl ?_
  refine .fin ?_
  refine WP.seq ?_
  refine WP.reg [(0, false), (1, false), (2, false), (3, false), (4, false), (5, false), (6, false), (7, false), (8, false), (9, false), (10, false)] (by kernel_rfl) ?_
  refine Dv.mv rfl trivial rfl ?_
  refine Dv.nilA HHeap.nn rfl trivial rfl (mem_at 0 rfl) ?_
  refine Dv.gh (l' := fun (g727 : Nat × OV × OV) => [blk g727.1 61 [eq g727.2.1.1, eq g727.2.2.1], own HEnt.K g727.2.1.1 a0.fl, mp Value.string (fun x : Int => eq (.int .i64 x)) g727.2.2.1 a0.fat] ++ F) (gh_of (HHeap.opn 0 rfl)) (fun g727 h728 => ?_)
  refine Dv.fabp h728 rfl trivial rfl Try.underlying61 rfl Try.underlying58 c58 (by decide) ?_
  refine Dv.ldb rfl trivial rfl Try.underlying58 rfl (mem_at 0 rfl) rfl ?_
  refine Dv.mv rfl trivial rfl ?_
  refine Dv.mlk 0 rfl trivial rfl (mem_at 2 rfl) rfl Try.underlying58 (keyOk_str Try.underlying9) z3 (fun _ => rfl) ?_
  refine Dv.mv rfl trivial rfl ?_
  refine Dv.ext rfl trivial rfl rfl ?_
  refine Dv.ext rfl trivial rfl rfl ?_
  refine Dv.asg rfl trivial rfl ?_
  refine Dv.asg rfl trivial rfl ?_
  refine .fin ?_
  refine WP.seq ?_
  refine WP.seq ?_
  refine WP.reg [(0, false), (1, false)] (by kernel_rfl) ?_
  refine Dv.mv rfl trivial rfl ?_
  refine Dv.un rfl trivial rfl (fun _ => run_not _) ?_
  refine .fin ?_
  refine WP.cond rfl (fun c729 => ?_) (fun c729 => ?_)
  · replace H := Gets.ct H c729
    refine WP.seq ?_
    refine WP.reg [(0, false)] (by kernel_rfl) ?_
    refine Dv.asg rfl trivial rfl ?_
    refine .fin ?_
    refine WP.gh (l' := fun _ : Unit => [HHeap.O p0_ a0] ++ F) (gh_of (HHeap.shut (p := p0_) (m := a0) (r := [] ++ F) (g727.1, g727.2.1, g727.2.2) h728 (perm_to (L := [blk g727.1 61 [eq g727.2.1.1, eq g727.2.2.1], own HEnt.K g727.2.1.1 a0.fl, mp Value.string (fun x : Int => eq (.int .i64 x)) g727.2.2.1 a0.fat]) (F := F) [0, 1, 2] rfl rfl rfl))) (fun _ _ => ?_)
    obtain rfl := Gets.out H
    exact WP.retL (fun _ _ h => h) rfl () trivial (.cons (res_tmp rfl) .nil) rfl (st_sel (L := [HHeap.O p0_ a0]) (F := F) [0] 0 rfl rfl rfl)
  · replace H := Gets.cf H c729
    refine WP.skip ?_
    refine WP.seq ?_
    refine WP.reg [(0, false), (1, false), (2, false), (3, false), (4, false), (5, true)] (by kernel_rfl) ?_
    refine Dv.mv rfl trivial rfl ?_
    refine Dv.nilpp h728 rfl trivial rfl ?_
    refine Dv.fabp h728 rfl trivial rfl Try.underlying61 rfl Try.underlying58 c58 (by decide) ?_
    refine Dv.ldb rfl trivial rfl Try.underlying58 rfl (mem_at 0 rfl) rfl ?_
    refine Dv.mv rfl trivial rfl ?_
    refine Dv.mdl (jj := 2) rfl trivial rfl rfl rfl Try.underlying58 (keyOk_str Try.underlying9) nofun ?_
    refine .fin ?_
    refine WP.seq ?_
    refine WP.reg [(0, false), (1, false), (2, false), (3, false), (4, false), (5, false), (6, false)] (by kernel_rfl) ?_
    refine Dv.mv rfl trivial rfl ?_
    refine Dv.nilpp h728 rfl trivial rfl ?_
    refine Dv.fabp h728 rfl trivial rfl Try.underlying61 rfl Try.underlying59 c59 (by decide) ?_
    refine Dv.ldb rfl trivial rfl Try.underlying59 rfl (mem_at 0 rfl) rfl ?_
    refine Dv.lenw rfl trivial rfl (mem_at 1 rfl) Try.underlying59 ?_
    refine Dv.bin rfl trivial rfl rfl (fun _ => run_sub) ?_
    refine Dv.asg rfl trivial rfl ?_
    refine .fin ?_
    refine WP.seq ?_
    refine WP.reg [(0, false), (1, false), (2, false), (3, false), (4, false), (5, false), (6, false), (7, true), (8, true)] (by kernel_rfl) ?_
    refine Dv.mv rfl trivial rfl ?_
    refine Dv.nilpp h728 rfl trivial rfl ?_
    refine Dv.fabp h728 rfl trivial rfl Try.underlying61 rfl Try.underlying59 c59 (by decide) ?_
    refine Dv.ldb rfl trivial rfl Try.underlying59 rfl (mem_at 0 rfl) rfl ?_
    refine Dv.mv rfl trivial rfl ?_
    obtain ⟨g730, H⟩ := Gets.grd H
    have h731 : (w64 ((a0.fl.length : Int) - 1)).toNat < a0.fl.length := idx_lt g730
    refine Dv.ixw rfl trivial rfl (mem_at 1 rfl) rfl Try.underlying59 Try.underlying73 c73 g730.1 g730.2 ?_
    refine Dv.ldws (j := ((w64 ((a0.fl.length : Int) - 1)).toNat)) (f := 0) rfl trivial rfl (mem_at 1 rfl) h731 Try.underlying73 rfl c73 (Nat.le_of_ble_eq_true rfl) ?_
    refine Dv.alloc (z := .agg #[.int .i64 0, .string ⟨#[]⟩]) (qs := [eq (.int .i64 0), eq (.string (⟨#[]⟩ : ByteArray))]) rfl trivial z73 rfl nofun (fun b732 => ?_)
    refine Dv.stx ([blk b732 73 [eq (.int .i64 ((a0.fl.getD ((w64 ((a0.fl.length : Int) - 1)).toNat) default).fAt)), eq (.string ((a0.fl.getD ((w64 ((a0.fl.length : Int) - 1)).toNat) default).fKey))], blk g727.1 61 [eq g727.2.1.1, eq g727.2.2.1], own HEnt.K g727.2.1.1 a0.fl, mp Value.string (fun x : Int => eq (.int .i64 x)) g727.2.2.1 (mdel a0.fat a1)] ++ F) rfl trivial rfl rfl (cells_agg (HEnt.K.one _)) Try.underlying73 c73 rfl (j := 0) rfl (Nat.le_of_ble_eq_true rfl) rfl nofun ?_
    refine .fin ?_
    refine WP.seq ?_
    refine WP.reg [(0, false), (1, false), (2, false), (3, false), (4, false), (5, false), (6, true), (7, false), (8, false), (9, true)] (by kernel_rfl) ?_
    refine Dv.mv rfl trivial rfl ?_
    refine Dv.mv rfl trivial rfl ?_
    refine Dv.nilpp h728 rfl trivial rfl ?_
    refine Dv.fabp h728 rfl trivial rfl Try.underlying61 rfl Try.underlying59 c59 (by decide) ?_
    refine Dv.ldb rfl trivial rfl Try.underlying59 rfl (mem_at 1 rfl) rfl ?_
    refine Dv.mv rfl trivial rfl ?_
    obtain ⟨g733, H⟩ := Gets.grd H
    refine Dv.slo (jj := 2) rfl trivial rfl rfl Try.underlying59 Try.underlying73 c73 bdE_none (bdE_some rfl g733.1) (.inl rfl) g733.2.1 g733.2.2 nofun (fun v734 => ?_)
    refine Dv.nilpp h728 rfl trivial rfl ?_
    refine Dv.fabp h728 rfl trivial rfl Try.underlying61 rfl Try.underlying59 c59 (by decide) ?_
    refine Dv.stx ([blk b732 73 [eq (.int .i64 ((a0.fl.getD ((w64 ((a0.fl.length : Int) - 1)).toNat) default).fAt)), eq (.string ((a0.fl.getD ((w64 ((a0.fl.length : Int) - 1)).toNat) default).fKey))], blk g727.1 61 [eq v734.1, eq g727.2.2.1], own HEnt.K v734.1 ((a0.fl.take ((w64 ((a0.fl.length : Int) - 1)).toNat)).drop 0), mp Value.string (fun x : Int => eq (.int .i64 x)) g727.2.2.1 (mdel a0.fat a1)] ++ F) rfl trivial rfl rfl (cells_one one_ov) Try.underlying59 c59 rfl (j := 1) rfl (Nat.le_of_ble_eq_true rfl) rfl nofun ?_
    refine .fin ?_
    refine WP.seq ?_
    refine WP.seq ?_
    refine WP.reg [(0, false), (1, false), (2, false)] (by kernel_rfl) ?_
    refine Dv.mv rfl trivial rfl ?_
    refine Dv.mv rfl trivial rfl ?_
    refine Dv.bin rfl trivial rfl rfl (fun _ => run_lt) ?_
    refine .fin ?_
    refine WP.cond rfl (fun c735 => ?_) (fun c735 => ?_)
    · replace H := Gets.ct H c735
      refine WP.seq ?_
      refine WP.reg [(0, false), (1, false), (2, false), (3, true)] (by kernel_rfl) ?_
      refine Dv.mv rfl trivial rfl ?_
      refine Dv.mv rfl trivial rfl ?_
      refine Dv.ldbs rfl trivial rfl Try.underlying73 rfl c73 (mem_at 0 rfl) (Nat.le_of_ble_eq_true rfl) ?_
      refine Dv.gh (l' := fun _ : Unit => [HHeap.O p0_ (⟨(a0.fl.take ((w64 ((a0.fl.length : Int) - 1)).toNat)).drop 0, mdel a0.fat a1⟩ : HHeap), blk b732 73 [eq (.int .i64 ((a0.fl.getD ((w64 ((a0.fl.length : Int) - 1)).toNat) default).fAt)), eq (.string ((a0.fl.getD ((w64 ((a0.fl.length : Int) - 1)).toNat) default).fKey))]] ++ F) (gh_of (HHeap.shut (p := p0_) (m := (⟨(a0.fl.take ((w64 ((a0.fl.length : Int) - 1)).toNat)).drop 0, mdel a0.fat a1⟩ : HHeap)) (r := [blk b732 73 [eq (.int .i64 ((a0.fl.getD ((w64 ((a0.fl.length : Int) - 1)).toNat) default).fAt)), eq (.string ((a0.fl.getD ((w64 ((a0.fl.length : Int) - 1)).toNat) default).fKey))]] ++ F) (g727.1, v734, g727.2.2) h728 (perm_to (L := [blk b732 73 [eq (.int .i64 ((a0.fl.getD ((w64 ((a0.fl.length : Int) - 1)).toNat) default).fAt)), eq (.string ((a0.fl.getD ((w64 ((a0.fl.length : Int) - 1)).toNat) default).fKey))], blk g727.1 61 [eq v734.1, eq g727.2.2.1], own HEnt.K v734.1 ((a0.fl.take ((w64 ((a0.fl.length : Int) - 1)).toNat)).drop 0), mp Value.string (fun x : Int => eq (.int .i64 x)) g727.2.2.1 (mdel a0.fat a1)]) (F := F) [1, 2, 3, 0] rfl rfl rfl))) (fun _ _ => ?_)
      obtain ⟨t736, h737, H⟩ := Gets.call H
      refine Dv.callx (pre := [HHeap.O p0_ (⟨(a0.fl.take ((w64 ((a0.fl.length : Int) - 1)).toNat)).drop 0, mdel a0.fat a1⟩ : HHeap)]) (F := [blk b732 73 [eq (.int .i64 ((a0.fl.getD ((w64 ((a0.fl.length : Int) - 1)).toNat) default).fAt)), eq (.string ((a0.fl.getD ((w64 ((a0.fl.length : Int) - 1)).toNat) default).fKey))]] ++ F) (fun _ : Unit => [HHeap.O p0_ t736, blk b732 73 [eq (.int .i64 ((a0.fl.getD ((w64 ((a0.fl.length : Int) - 1)).toNat) default).fAt)), eq (.string ((a0.fl.getD ((w64 ((a0.fl.length : Int) - 1)).toNat) default).fKey))]] ++ F) rfl trivial cal41 rfl (heap_Heap_set.c h737 (p0_ := p0_)) (perm_to (L := [HHeap.O p0_ (⟨(a0.fl.take ((w64 ((a0.fl.length : Int) - 1)).toNat)).drop 0, mdel a0.fat a1⟩ : HHeap), blk b732 73 [eq (.int .i64 ((a0.fl.getD ((w64 ((a0.fl.length : Int) - 1)).toNat) default).fAt)), eq (.string ((a0.fl.getD ((w64 ((a0.fl.length : Int) - 1)).toNat) default).fKey))]]) (F := F) [0, 1] rfl rfl rfl) rfl nofun (fun _ _ => ?_)
      refine .fin ?_
      refine WP.seq ?_
      refine WP.reg [(0, false), (1, false), (2, true)] (by kernel_rfl) ?_
      refine Dv.mv rfl trivial rfl ?_
      refine Dv.mv rfl trivial rfl ?_
      obtain ⟨t738, h739, H⟩ := Gets.call H
      refine Dv.callx (pre := [HHeap.O p0_ t736]) (F := [blk b732 73 [eq (.int .i64 ((a0.fl.getD ((w64 ((a0.fl.length : Int) - 1)).toNat) default).fAt)), eq (.string ((a0.fl.getD ((w64 ((a0.fl.length : Int) - 1)).toNat) default).fKey))]] ++ F) (fun _ : Unit => [HHeap.O p0_ t738, blk b732 73 [eq (.int .i64 ((a0.fl.getD ((w64 ((a0.fl.length : Int) - 1)).toNat) default).fAt)), eq (.string ((a0.fl.getD ((w64 ((a0.fl.length : Int) - 1)).toNat) default).fKey))]] ++ F) rfl trivial cal42 rfl (heap_Heap_down.c h739 (p0_ := p0_)) (perm_to (L := [HHeap.O p0_ t736, blk b732 73 [eq (.int .i64 ((a0.fl.getD ((w64 ((a0.fl.length : Int) - 1)).toNat) default).fAt)), eq (.string ((a0.fl.getD ((w64 ((a0.fl.length : Int) - 1)).toNat) default).fKey))]]) (F := F) [0, 1] rfl rfl rfl) rfl nofun (fun _ _ => ?_)
      refine .fin ?_
      refine WP.gh (l' := fun (g740 : Nat × OV × OV) => [blk g740.1 61 [eq g740.2.1.1, eq g740.2.2.1], own HEnt.K g740.2.1.1 t738.fl, mp Value.string (fun x : Int => eq (.int .i64 x)) g740.2.2.1 t738.fat, blk b732 73 [eq (.int .i64 ((a0.fl.getD ((w64 ((a0.fl.length : Int) - 1)).toNat) default).fAt)), eq (.string ((a0.fl.getD ((w64 ((a0.fl.length : Int) - 1)).toNat) default).fKey))]] ++ F) (gh_of (HHeap.opn 0 rfl)) (fun g740 h741 => ?_)
      refine WP.dreg Try.checked.mixed [(0, false), (1, false), (2, false), (3, false), (4, false), (5, false), (6, false), (7, false), (8, true)] (by kernel_rfl) ?_
      refine Dv.mv rfl trivial rfl ?_
      refine Dv.mv rfl trivial rfl ?_
      refine Dv.nilpp h741 rfl trivial rfl ?_
      refine Dv.fabp h741 rfl trivial rfl Try.underlying61 rfl Try.underlying58 c58 (by decide) ?_
      refine Dv.ldb rfl trivial rfl Try.underlying58 rfl (mem_at 0 rfl) rfl ?_
      refine Dv.fab rfl trivial rfl Try.underlying73 rfl Try.underlying9 c9 (by decide) ?_
      refine Dv.ldb rfl trivial rfl Try.underlying9 rfl (mem_at 3 rfl) rfl ?_
      refine Dv.mlv 0 rfl trivial rfl (mem_at 2 rfl) rfl Try.underlying58 (keyOk_str Try.underlying9) z3 (fun _ => rfl) ?_
      obtain ⟨t742, h743, H⟩ := Gets.call H
      refine Dv.callx (pre := [blk g740.1 61 [eq g740.2.1.1, eq g740.2.2.1], own HEnt.K g740.2.1.1 t738.fl, mp Value.string (fun x : Int => eq (.int .i64 x)) g740.2.2.1 t738.fat]) (F := [blk b732 73 [eq (.int .i64 ((a0.fl.getD ((w64 ((a0.fl.length : Int) - 1)).toNat) default).fAt)), eq (.string ((a0.fl.getD ((w64 ((a0.fl.length : Int) - 1)).toNat) default).fKey))]] ++ F) (fun _ : Unit => [HHeap.O p0_ t742, blk b732 73 [eq (.int .i64 ((a0.fl.getD ((w64 ((a0.fl.length : Int) - 1)).toNat) default).fAt)), eq (.string ((a0.fl.getD ((w64 ((a0.fl.length : Int) - 1)).toNat) default).fKey))]] ++ F) rfl trivial cal43 rfl (Tr.pre (pre' := [blk g740.1 61 [eq g740.2.1.1, eq g740.2.2.1], own HEnt.K g740.2.1.1 t738.fl, mp Value.string (fun x : Int => eq (.int .i64 x)) g740.2.2.1 t738.fat]) (heap_Heap_up.c h743 (p0_ := p0_)) (fun F R w => HHeap.shut (p := p0_) (m := t738) (r := F) (g740.1, g740.2.1, g740.2.2) h741 (List.Perm.refl _) R w)) (perm_to (L := [blk g740.1 61 [eq g740.2.1.1, eq g740.2.2.1], own HEnt.K g740.2.1.1 t738.fl, mp Value.string (fun x : Int => eq (.int .i64 x)) g740.2.2.1 t738.fat, blk b732 73 [eq (.int .i64 ((a0.fl.getD ((w64 ((a0.fl.length : Int) - 1)).toNat) default).fAt)), eq (.string ((a0.fl.getD ((w64 ((a0.fl.length : Int) - 1)).toNat) default).fKey))]]) (F := F) [0, 1, 2, 3] rfl rfl rfl) rfl (fun _ => pendc (pend_bits (by kernel_rfl))) (fun _ _ => ?_)
      refine .fin ?_
      refine WP.seq ?_
      refine WP.reg [(0, false)] (by kernel_rfl) ?_
      refine Dv.asg rfl trivial rfl ?_
      refine .fin ?_
      obtain rfl := Gets.out H
      exact WP.retL (fun _ _ h => h) rfl () trivial (.cons (res_tmp rfl) .nil) rfl (st_sel (L := [HHeap.O p0_ t742, blk b732 73 [eq (.int .i64 ((a0.fl.getD ((w64 ((a0.fl.length : Int) - 1)).toNat) default).fAt)), eq (.string ((a0.fl.getD ((w64 ((a0.fl.length : Int) - 1)).toNat) default).fKey))]]) (F := F) [1, 0] 1 rfl rfl rfl)
    · replace H := Gets.cf H c735
      refine WP.skip ?_
      refine WP.seq ?_
      refine WP.reg [(0, false)] (by kernel_rfl) ?_
      refine Dv.asg rfl trivial rfl ?_
      refine .fin ?_
      refine WP.gh (l' := fun _ : Unit => [HHeap.O p0_ (⟨(a0.fl.take ((w64 ((a0.fl.length : Int) - 1)).toNat)).drop 0, mdel a0.fat a1⟩ : HHeap), blk b732 73 [eq (.int .i64 ((a0.fl.getD ((w64 ((a0.fl.length : Int) - 1)).toNat) default).fAt)), eq (.string ((a0.fl.getD ((w64 ((a0.fl.length : Int) - 1)).toNat) default).fKey))]] ++ F) (gh_of (HHeap.shut (p := p0_) (m := (⟨(a0.fl.take ((w64 ((a0.fl.length : Int) - 1)).toNat)).drop 0, mdel a0.fat a1⟩ : HHeap)) (r := [blk b732 73 [eq (.int .i64 ((a0.fl.getD ((w64 ((a0.fl.length : Int) - 1)).toNat) default).fAt)), eq (.string ((a0.fl.getD ((w64 ((a0.fl.length : Int) - 1)).toNat) default).fKey))]] ++ F) (g727.1, v734, g727.2.2) h728 (perm_to (L := [blk b732 73 [eq (.int .i64 ((a0.fl.getD ((w64 ((a0.fl.length : Int) - 1)).toNat) default).fAt)), eq (.string ((a0.fl.getD ((w64 ((a0.fl.length : Int) - 1)).toNat) default).fKey))], blk g727.1 61 [eq v734.1, eq g727.2.2.1], own HEnt.K v734.1 ((a0.fl.take ((w64 ((a0.fl.length : Int) - 1)).toNat)).drop 0), mp Value.string (fun x : Int => eq (.int .i64 x)) g727.2.2.1 (mdel a0.fat a1)]) (F := F) [1, 2, 3, 0] rfl rfl rfl))) (fun _ _ => ?_)
      obtain rfl := Gets.out H
      exact WP.retL (fun _ _ h => h) rfl () trivial (.cons (res_tmp rfl) .nil) rfl (st_sel (L := [HHeap.O p0_ (⟨(a0.fl.take ((w64 ((a0.fl.length : Int) - 1)).toNat)).drop 0, mdel a0.fat a1⟩ : HHeap), blk b732 73 [eq (.int .i64 ((a0.fl.getD ((w64 ((a0.fl.length : Int) - 1)).toNat) default).fAt)), eq (.string ((a0.fl.getD ((w64 ((a0.fl.length : Int) - 1)).toNat) default).fKey))]]) (F := F) [1, 0] 1 rfl rfl rfl)
theorem presence_state.c {a0 : Edu} {a1 : Int} {r : Int} (h : presence_state.f a0 a1 = some r) : Pt Try.prog 26 [agg (Edu.enc a0), eq (.int .i64 a1)] (eq (.int .i64 r)) := by
  unfold presence_state.f at h
  refine (Tr.body Try.func26 (c := _) rfl Try.ntmps26 (Nat.le_of_ble_eq_true rfl) fun R0 F => ?_).pt
  replace h := Gets.of h
  have H := h
  clear h
  refine WP.seq ?_
  refine WP.reg [(0, true), (1, false)] (by kernel_rfl) ?_
  refine Dv.box rfl trivial rfl (cells_agg (Edu.K.one _)) nofun (fun b744 => ?_)
  refine Dv.asg rfl trivial rfl ?_
  refine .fin ?_
  refine WP.seq ?_
  refine WP.seq ?_
  refine WP.reg [(0, false), (1, false)] (by kernel_rfl) ?_
  refine Dv.fab rfl trivial rfl Try.underlying24 rfl Try.underlying3 c3 (by decide) ?_
  refine Dv.ldb rfl trivial rfl Try.underlying3 rfl (mem_at 0 rfl) rfl ?_
  refine .fin ?_
  refine WP.block ?_
  refine WP.seq ?_
  refine WP.block ?_
  refine WP.seq ?_
  refine WP.block ?_
  refine WP.seq ?_
  refine WP.seq ?_
  refine WP.seq ?_
  refine WP.reg [(0, false), (1, false)] (by kernel_rfl) ?_
  refine Dv.bin rfl trivial rfl rfl (fun _ => run_eq) ?_
  refine Dv.asg rfl trivial rfl ?_
  refine .fin ?_
  refine WP.cond rfl (fun c745 => ?_) (fun c745 => ?_)
  · replace H := Gets.ct H c745
    refine WP.exit ?_
    refine WP.seq ?_
    refine WP.reg [(0, false), (1, false), (2, false), (3, false), (4, false)] (by kernel_rfl) ?_
    refine Dv.mv rfl trivial rfl ?_
    refine Dv.fab rfl trivial rfl Try.underlying24 rfl Try.underlying3 c3 (by decide) ?_
    refine Dv.ldb rfl trivial rfl Try.underlying3 rfl (mem_at 0 rfl) rfl ?_
    refine Dv.bin rfl trivial rfl rfl (fun _ => run_add) ?_
    refine Dv.bin rfl trivial rfl rfl (fun _ => run_lt) ?_
    refine .fin ?_
    refine WP.cond rfl (fun c746 => ?_) (fun c746 => ?_)
    · replace H := Gets.ct H c746
      refine WP.seq ?_
      refine WP.reg [(0, false)] (by kernel_rfl) ?_
      refine Dv.asg rfl trivial rfl ?_
      refine .fin ?_
      obtain rfl := Gets.out H
      exact WP.retL (fun _ _ h => h) rfl () trivial (.cons (res_tmp rfl) .nil) rfl (st_sel (L := [blk b744 24 [eq (.int .i64 a0.fKind), eq (.string a0.fRoom), eq (.string a0.fUser), eq (.string a0.fEvent), eq (.string a0.fThread), eq (.bool a0.fPrivate), eq (.bool a0.fOn), eq (.int .i64 a0.fSpan), eq (.int .i64 a0.fState), eq (.int .i64 a0.fTick), eq (.int .i64 a0.fStamp)]]) (F := F) [0] 1 rfl rfl rfl)
    · replace H := Gets.cf H c746
      refine WP.skip ?_
      refine WP.seq ?_
      refine WP.seq ?_
      refine WP.reg [(0, false), (1, false), (2, false), (3, false), (4, false)] (by kernel_rfl) ?_
      refine Dv.mv rfl trivial rfl ?_
      refine Dv.fab rfl trivial rfl Try.underlying24 rfl Try.underlying3 c3 (by decide) ?_
      refine Dv.ldb rfl trivial rfl Try.underlying3 rfl (mem_at 0 rfl) rfl ?_
      refine Dv.bin rfl trivial rfl rfl (fun _ => run_add) ?_
      refine Dv.bin rfl trivial rfl rfl (fun _ => run_lt) ?_
      refine .fin ?_
      refine WP.cond rfl (fun c747 => ?_) (fun c747 => ?_)
      · replace H := Gets.ct H c747
        refine WP.seq ?_
        refine WP.reg [(0, false)] (by kernel_rfl) ?_
        refine Dv.asg rfl trivial rfl ?_
        refine .fin ?_
        obtain rfl := Gets.out H
        exact WP.retL (fun _ _ h => h) rfl () trivial (.cons (res_tmp rfl) .nil) rfl (st_sel (L := [blk b744 24 [eq (.int .i64 a0.fKind), eq (.string a0.fRoom), eq (.string a0.fUser), eq (.string a0.fEvent), eq (.string a0.fThread), eq (.bool a0.fPrivate), eq (.bool a0.fOn), eq (.int .i64 a0.fSpan), eq (.int .i64 a0.fState), eq (.int .i64 a0.fTick), eq (.int .i64 a0.fStamp)]]) (F := F) [0] 1 rfl rfl rfl)
      · replace H := Gets.cf H c747
        refine WP.skip ?_
        refine WP.exit ?_
        refine WP.seq ?_
        refine WP.reg [(0, false)] (by kernel_rfl) ?_
        refine Dv.asg rfl trivial rfl ?_
        refine .fin ?_
        obtain rfl := Gets.out H
        exact WP.retL (fun _ _ h => h) rfl () trivial (.cons (res_tmp rfl) .nil) rfl (st_sel (L := [blk b744 24 [eq (.int .i64 a0.fKind), eq (.string a0.fRoom), eq (.string a0.fUser), eq (.string a0.fEvent), eq (.string a0.fThread), eq (.bool a0.fPrivate), eq (.bool a0.fOn), eq (.int .i64 a0.fSpan), eq (.int .i64 a0.fState), eq (.int .i64 a0.fTick), eq (.int .i64 a0.fStamp)]]) (F := F) [0] 1 rfl rfl rfl)
  · replace H := Gets.cf H c745
    refine WP.skip ?_
    refine WP.seq ?_
    refine WP.reg [(0, false), (1, false)] (by kernel_rfl) ?_
    refine Dv.bin rfl trivial rfl rfl (fun _ => run_eq) ?_
    refine Dv.asg rfl trivial rfl ?_
    refine .fin ?_
    refine WP.cond rfl (fun c748 => ?_) (fun c748 => ?_)
    · replace H := Gets.ct H c748
      refine WP.exit ?_
      refine WP.seq ?_
      refine WP.seq ?_
      refine WP.reg [(0, false), (1, false), (2, false), (3, false), (4, false)] (by kernel_rfl) ?_
      refine Dv.mv rfl trivial rfl ?_
      refine Dv.fab rfl trivial rfl Try.underlying24 rfl Try.underlying3 c3 (by decide) ?_
      refine Dv.ldb rfl trivial rfl Try.underlying3 rfl (mem_at 0 rfl) rfl ?_
      refine Dv.bin rfl trivial rfl rfl (fun _ => run_add) ?_
      refine Dv.bin rfl trivial rfl rfl (fun _ => run_lt) ?_
      refine .fin ?_
      refine WP.cond rfl (fun c749 => ?_) (fun c749 => ?_)
      · replace H := Gets.ct H c749
        refine WP.seq ?_
        refine WP.reg [(0, false)] (by kernel_rfl) ?_
        refine Dv.asg rfl trivial rfl ?_
        refine .fin ?_
        obtain rfl := Gets.out H
        exact WP.retL (fun _ _ h => h) rfl () trivial (.cons (res_tmp rfl) .nil) rfl (st_sel (L := [blk b744 24 [eq (.int .i64 a0.fKind), eq (.string a0.fRoom), eq (.string a0.fUser), eq (.string a0.fEvent), eq (.string a0.fThread), eq (.bool a0.fPrivate), eq (.bool a0.fOn), eq (.int .i64 a0.fSpan), eq (.int .i64 a0.fState), eq (.int .i64 a0.fTick), eq (.int .i64 a0.fStamp)]]) (F := F) [0] 1 rfl rfl rfl)
      · replace H := Gets.cf H c749
        refine WP.skip ?_
        refine WP.exit ?_
        refine WP.seq ?_
        refine WP.reg [(0, false)] (by kernel_rfl) ?_
        refine Dv.asg rfl trivial rfl ?_
        refine .fin ?_
        obtain rfl := Gets.out H
        exact WP.retL (fun _ _ h => h) rfl () trivial (.cons (res_tmp rfl) .nil) rfl (st_sel (L := [blk b744 24 [eq (.int .i64 a0.fKind), eq (.string a0.fRoom), eq (.string a0.fUser), eq (.string a0.fEvent), eq (.string a0.fThread), eq (.bool a0.fPrivate), eq (.bool a0.fOn), eq (.int .i64 a0.fSpan), eq (.int .i64 a0.fState), eq (.int .i64 a0.fTick), eq (.int .i64 a0.fStamp)]]) (F := F) [0] 1 rfl rfl rfl)
    · replace H := Gets.cf H c748
      refine WP.skip ?_
      refine WP.exit ?_
      refine WP.seq ?_
      refine WP.reg [(0, false)] (by kernel_rfl) ?_
      refine Dv.asg rfl trivial rfl ?_
      refine .fin ?_
      obtain rfl := Gets.out H
      exact WP.retL (fun _ _ h => h) rfl () trivial (.cons (res_tmp rfl) .nil) rfl (st_sel (L := [blk b744 24 [eq (.int .i64 a0.fKind), eq (.string a0.fRoom), eq (.string a0.fUser), eq (.string a0.fEvent), eq (.string a0.fThread), eq (.bool a0.fPrivate), eq (.bool a0.fOn), eq (.int .i64 a0.fSpan), eq (.int .i64 a0.fState), eq (.int .i64 a0.fTick), eq (.int .i64 a0.fStamp)]]) (F := F) [0] 1 rfl rfl rfl)
theorem presence_turn.c {k : Nat} {a0 : Edu} {a1 : Int} {r : Int × Bool} (h : presence_turn.f k a0 a1 = some r) : Pt Try.prog 24 [agg (Edu.enc a0), eq (.int .i64 a1)] (tup [eq (.int .i64 r.1), eq (.bool r.2)]) := by
  unfold presence_turn.f at h
  refine (Tr.body Try.func24 (c := _) rfl Try.ntmps24 (Nat.le_of_ble_eq_true rfl) fun R0 F => ?_).pt
  replace h := Gets.of h
  have H := h
  clear h
  refine WP.seq ?_
  refine WP.reg [(0, true), (1, false), (2, false)] (by kernel_rfl) ?_
  refine Dv.box rfl trivial rfl (cells_agg (Edu.K.one _)) nofun (fun b750 => ?_)
  refine Dv.asg rfl trivial rfl ?_
  refine Dv.asg rfl trivial rfl ?_
  refine .fin ?_
  refine WP.seqr H id (fun p751 : Int × Bool => [(0, agg (Edu.enc a0)), (1, eq (.int .i64 a1)), (2, eq (.pointer (some ⟨b750, 0, none⟩))), (4, eq (.int .i64 0)), (5, eq (.bool false)), (9, agg [eq (.int .i64 30), eq (.int .i64 90)]), (10, eq (.int .i64 p751.1)), (11, eq (.bool p751.2))]) (fun p751 : Int × Bool => [blk b750 24 [eq (.int .i64 a0.fKind), eq (.string a0.fRoom), eq (.string a0.fUser), eq (.string a0.fEvent), eq (.string a0.fThread), eq (.bool a0.fPrivate), eq (.bool a0.fOn), eq (.int .i64 a0.fSpan), eq (.int .i64 a0.fState), eq (.int .i64 a0.fTick), eq (.int .i64 a0.fStamp)]] ++ F) (fun p751 H => ?_) (fun H => ?_)
  · refine WP.seq ?_
    refine WP.reg [(0, false), (1, false)] (by kernel_rfl) ?_
    refine Dv.asg rfl trivial rfl ?_
    refine Dv.asg rfl trivial rfl ?_
    refine .fin ?_
    obtain rfl := Gets.out H
    exact WP.retL (fun _ _ h => h) rfl () trivial (.cons (res_tmp rfl) (.cons (res_tmp rfl) .nil)) rfl (st_sel (L := [blk b750 24 [eq (.int .i64 a0.fKind), eq (.string a0.fRoom), eq (.string a0.fUser), eq (.string a0.fEvent), eq (.string a0.fThread), eq (.bool a0.fPrivate), eq (.bool a0.fOn), eq (.int .i64 a0.fSpan), eq (.int .i64 a0.fState), eq (.int .i64 a0.fTick), eq (.int .i64 a0.fStamp)]]) (F := F) [0] 1 rfl rfl rfl)
  · refine WP.seq ?_
    refine WP.reg [(0, false), (1, false)] (by kernel_rfl) ?_
    refine Dv.blda (qs := [eq (.int .i64 30), eq (.int .i64 90)]) (css := [[eq (.int .i64 30)], [eq (.int .i64 90)]]) rfl trivial Try.underlying76 Try.underlying3 c3 z76 rfl ⟨(cells_one (one_eq rfl)), ⟨(cells_one (one_eq rfl)), trivial⟩⟩ rfl rfl ?_
    refine Dv.mv rfl trivial rfl ?_
    refine .fin ?_
    refine WP.block ?_
    refine WP.gh (l' := fun _ => [blk b750 24 [eq (.int .i64 a0.fKind), eq (.string a0.fRoom), eq (.string a0.fUser), eq (.string a0.fEvent), eq (.string a0.fThread), eq (.bool a0.fPrivate), eq (.bool a0.fOn), eq (.int .i64 a0.fSpan), eq (.int .i64 a0.fState), eq (.int .i64 a0.fTick), eq (.int .i64 a0.fStamp)]] ++ F) (gh_of (st_selg (L := [blk b750 24 [eq (.int .i64 a0.fKind), eq (.string a0.fRoom), eq (.string a0.fUser), eq (.string a0.fEvent), eq (.string a0.fThread), eq (.bool a0.fPrivate), eq (.bool a0.fOn), eq (.int .i64 a0.fSpan), eq (.int .i64 a0.fState), eq (.int .i64 a0.fTick), eq (.int .i64 a0.fStamp)]]) (F := F) [0] 0 rfl rfl rfl)) (fun _ _ => ?_)
    refine WP.loopg (fun j_ (p763 : Int) => presence_turn.l0 k a0 a1 j_ p763) 0 H (fun p763 => [(0, agg (Edu.enc a0)), (1, eq (.int .i64 a1)), (2, eq (.pointer (some ⟨b750, 0, none⟩))), (4, eq (.int .i64 0)), (5, eq (.bool false)), (9, agg [eq (.int .i64 30), eq (.int .i64 90)]), (10, eq (.int .i64 p763))]) (fun p763 => [blk b750 24 [eq (.int .i64 a0.fKind), eq (.string a0.fRoom), eq (.string a0.fUser), eq (.string a0.fEvent), eq (.string a0.fThread), eq (.bool a0.fPrivate), eq (.bool a0.fOn), eq (.int .i64 a0.fSpan), eq (.int .i64 a0.fState), eq (.int .i64 a0.fTick), eq (.int .i64 a0.fStamp)]] ++ F) (weak_cons rfl (weak_cons rfl (weak_cons rfl (weak_cons rfl (weak_cons rfl (weak_cons rfl (weak_cons rfl weak_nil))))))) (List.Perm.refl _) ?_
    rintro j_ x752 H
    rcases j_ with _ | j762
    · exact (Gets.no H).elim
    replace H : Gets (presence_turn.l0 k a0 a1 (j762 + 1) x752) _ := H
    rw [presence_turn.l0] at H
    refine WP.seq ?_
    refine WP.reg [(0, false)] (by kernel_rfl) ?_
    refine Dv.bin rfl trivial rfl rfl (fun _ => run_lt) ?_
    refine .fin ?_
    refine WP.seq ?_
    refine WP.cond rfl (fun c753 => ?_) (fun c753 => ?_)
    · replace H := Gets.ct H c753
      refine WP.skip ?_
      refine WP.seq ?_
      refine WP.block ?_
      refine WP.seq ?_
      refine WP.reg [(0, false), (1, false)] (by kernel_rfl) ?_
      obtain ⟨g754, H⟩ := Gets.grd H
      refine Dv.ixa (Kd := (intK .i64)) (xs := ([30, 90] : List Int)) rfl trivial rfl rfl rfl Try.underlying76 Try.underlying3 rfl c3 rfl rfl g754.1 g754.2 rfl ?_
      refine Dv.asg rfl trivial rfl ?_
      refine .fin ?_
      refine WP.seq ?_
      refine WP.reg [(0, false), (1, false), (2, false), (3, false), (4, false)] (by kernel_rfl) ?_
      refine Dv.fab rfl trivial rfl Try.underlying24 rfl Try.underlying3 c3 (by decide) ?_
      refine Dv.ldb rfl trivial rfl Try.underlying3 rfl (mem_at 0 rfl) rfl ?_
      refine Dv.mv rfl trivial rfl ?_
      refine Dv.bin rfl trivial rfl rfl (fun _ => run_add) ?_
      refine Dv.asg rfl trivial rfl ?_
      refine .fin ?_
      refine WP.seq ?_
      refine WP.dreg Try.checked.mixed [(0, false), (1, false), (2, false), (3, false), (4, false), (5, false), (6, false), (7, false), (8, false), (9, false), (10, false), (11, false), (12, false)] (by kernel_rfl) ?_
      refine Dv.mv rfl trivial rfl ?_
      refine Dv.mv rfl trivial rfl ?_
      refine Dv.bin rfl trivial rfl rfl (fun _ => run_gt) ?_
      refine Dv.mv rfl trivial rfl ?_
      cases c755 : decide (a1 < (w64 (a0.fTick + ((intK .i64).at ([30, 90] : List Int) x752))))
      · replace H := Gets.cf H c755
        refine Dv.skip rfl ⟨_, _, rfl, rfl, .inl rfl⟩ ?_
        refine Dv.skip rfl ⟨_, _, rfl, rfl, .inl rfl⟩ ?_
        refine Dv.skip rfl ⟨_, _, rfl, rfl, .inl rfl⟩ ?_
        refine Dv.skip rfl ⟨_, _, rfl, rfl, .inl rfl⟩ ?_
        refine Dv.skip rfl ⟨_, _, rfl, rfl, .inl rfl⟩ ?_
        refine Dv.skip rfl ⟨_, _, rfl, rfl, .inl rfl⟩ ?_
        refine Dv.skip rfl ⟨_, _, rfl, rfl, .inl rfl⟩ ?_
        refine Dv.skip rfl ⟨_, _, rfl, rfl, .inl rfl⟩ ?_
        refine Dv.pickF rfl trivial rfl rfl ?_
        refine .fin ?_
        refine WP.cond rfl nofun (fun _ => ?_)
        refine WP.skip ?_
        refine WP.reg [(0, false), (1, false)] (by kernel_rfl) ?_
        refine Dv.bin rfl trivial rfl rfl (fun _ => run_add) ?_
        refine Dv.mv rfl trivial rfl ?_
        refine .fin ?_
        exact Back.mk j762 (w64 (x752 + 1)) (Nat.lt_succ_self _) H (weak_cons rfl (weak_cons rfl (weak_cons rfl (weak_cons rfl (weak_cons rfl (weak_cons rfl (weak_cons rfl weak_nil))))))) (List.Perm.refl _)
      · replace H := Gets.ct H c755
        refine Dv.ldbs rfl ⟨_, _, rfl, rfl, rfl⟩ rfl Try.underlying24 rfl c24 (mem_at 0 rfl) (Nat.le_of_ble_eq_true rfl) ?_
        refine Dv.mv rfl ⟨_, _, rfl, rfl, rfl⟩ rfl ?_
        refine Dv.bin rfl ⟨_, _, rfl, rfl, rfl⟩ rfl rfl (fun _ => run_sub) ?_
        obtain ⟨t756, h757, H⟩ := Gets.call H
        refine Dv.call rfl ⟨_, _, rfl, rfl, rfl⟩ cal26 rfl (presence_state.c h757) ?_
        refine Dv.ldbs rfl ⟨_, _, rfl, rfl, rfl⟩ rfl Try.underlying24 rfl c24 (mem_at 0 rfl) (Nat.le_of_ble_eq_true rfl) ?_
        refine Dv.mv rfl ⟨_, _, rfl, rfl, rfl⟩ rfl ?_
        obtain ⟨t758, h759, H⟩ := Gets.call H
        refine Dv.call rfl ⟨_, _, rfl, rfl, rfl⟩ cal26 rfl (presence_state.c h759) ?_
        refine Dv.bin rfl ⟨_, _, rfl, rfl, rfl⟩ rfl rfl (fun _ => run_gt) ?_
        refine Dv.pickT rfl trivial rfl rfl ?_
        refine .fin ?_
        refine WP.cond rfl (fun c760 => ?_) (fun c760 => ?_)
        · replace H := Gets.ct H c760
          refine WP.seq ?_
          refine WP.reg [(0, false), (1, false), (2, false)] (by kernel_rfl) ?_
          refine Dv.mv rfl trivial rfl ?_
          refine Dv.asg rfl trivial rfl ?_
          refine Dv.asg rfl trivial rfl ?_
          refine .fin ?_
          replace H := Gets.outr H
          obtain rfl := Gets.out H
          exact WP.retL (fun _ _ h => h) rfl () trivial (.cons (res_tmp rfl) (.cons (res_tmp rfl) .nil)) rfl (st_sel (L := [blk b750 24 [eq (.int .i64 a0.fKind), eq (.string a0.fRoom), eq (.string a0.fUser), eq (.string a0.fEvent), eq (.string a0.fThread), eq (.bool a0.fPrivate), eq (.bool a0.fOn), eq (.int .i64 a0.fSpan), eq (.int .i64 a0.fState), eq (.int .i64 a0.fTick), eq (.int .i64 a0.fStamp)]]) (F := F) [0] 1 rfl rfl rfl)
        · replace H := Gets.cf H c760
          refine WP.skip ?_
          refine WP.reg [(0, false), (1, false)] (by kernel_rfl) ?_
          refine Dv.bin rfl trivial rfl rfl (fun _ => run_add) ?_
          refine Dv.mv rfl trivial rfl ?_
          refine .fin ?_
          exact Back.mk j762 (w64 (x752 + 1)) (Nat.lt_succ_self _) H (weak_cons rfl (weak_cons rfl (weak_cons rfl (weak_cons rfl (weak_cons rfl (weak_cons rfl (weak_cons rfl weak_nil))))))) (List.Perm.refl _)
    · replace H := Gets.cf H c753
      refine WP.exit ?_
      replace H := Gets.out H
      exact Jn.mk (x752, decide (x752 < 2)) H (weak_cons rfl (weak_cons rfl (weak_cons rfl (weak_cons rfl (weak_cons rfl (weak_cons rfl (weak_cons rfl (weak_cons rfl weak_nil)))))))) (List.Perm.refl _)
theorem heap_Heap_Put.c {k : Nat} {a0 : HHeap} {a1 : Int} {a2 : ByteArray} {p0_ : OV} {r : HHeap} (h : heap_Heap_Put.f k a0 a1 a2 = some r) : Tr Try.prog 25 [eq p0_.1, eq (.int .i64 a1), eq (.string a2)] [HHeap.O p0_ a0] (γ := Unit) (fun _ => True) (fun g => tup []) (fun g => [HHeap.O p0_ r]) := by
  unfold heap_Heap_Put.f at h
  refine Tr.body Try.func25 (c := _) rfl Try.ntmps25 (Nat.le_of_ble_eq_true rfl) fun R0 F => ?_
  replace h := Gets.of h
  have H := h
  clear h
  refine WP.seq ?_
  refine WP.reg [(0, false), (1, false), (2, true)] (by kernel_rfl) ?_
  refine Dv.mv rfl trivial rfl ?_
  refine Dv.mv rfl trivial rfl ?_
  obtain ⟨t764, h765, H⟩ := Gets.call H
  refine Dv.callx (pre := [HHeap.O p0_ a0]) (F := [] ++ F) (fun _ : Unit => [HHeap.O p0_ t764.2] ++ F) rfl trivial cal23 rfl (heap_Heap_Drop.c h765 (p0_ := p0_)) (perm_to (L := [HHeap.O p0_ a0]) (F := F) [0] rfl rfl rfl) rfl nofun (fun _ _ => ?_)
  refine .fin ?_
  refine WP.seq ?_
  refine WP.reg [(0, false), (1, false), (2, false), (3, false), (4, false), (5, false), (6, false), (7, false), (8, false), (9, true), (10, false), (11, false), (12, true)] (by kernel_rfl) ?_
  refine Dv.mv rfl trivial rfl ?_
  refine Dv.mv rfl trivial rfl ?_
  refine Dv.nilA HHeap.nn rfl trivial rfl (mem_at 0 rfl) ?_
  refine Dv.gh (l' := fun (g766 : Nat × OV × OV) => [blk g766.1 61 [eq g766.2.1.1, eq g766.2.2.1], own HEnt.K g766.2.1.1 t764.2.fl, mp Value.string (fun x : Int => eq (.int .i64 x)) g766.2.2.1 t764.2.fat] ++ F) (gh_of (HHeap.opn 0 rfl)) (fun g766 h767 => ?_)
  refine Dv.fabp h767 rfl trivial rfl Try.underlying61 rfl Try.underlying59 c59 (by decide) ?_
  refine Dv.ldb rfl trivial rfl Try.underlying59 rfl (mem_at 0 rfl) rfl ?_
  refine Dv.mv rfl trivial rfl ?_
  refine Dv.mv rfl trivial rfl ?_
  refine Dv.bld (css := [[eq (.int .i64 a1)], [eq (.string a2)]]) rfl trivial Try.underlying73 pl73 z73 rfl ⟨(cells_one (one_eq rfl)), ⟨(cells_one (one_eq rfl)), trivial⟩⟩ rfl rfl ?_
  refine Dv.lit HEnt.K ([(⟨a1, a2⟩ : HEnt)] : List HEnt) (css := [[eq (.int .i64 a1), eq (.string a2)]]) rfl trivial Try.underlying59 Try.underlying73 c73 z73 rfl (by decide) (by decide) rfl ⟨(cells_agg (ones_cons (one_eq rfl) (ones_cons (one_eq rfl) ones_nil))), trivial⟩ rfl rfl rfl ?_
  obtain ⟨g768, H⟩ := Gets.grd H
  refine Dv.appx (jj := 1) (ys := ([(⟨a1, a2⟩ : HEnt)] : List HEnt)) (fun v769 : OV => [blk g766.1 61 [eq g766.2.1.1, eq g766.2.2.1], own HEnt.K v769.1 (t764.2.fl ++ ([(⟨a1, a2⟩ : HEnt)] : List HEnt)), mp Value.string (fun x : Int => eq (.int .i64 x)) g766.2.2.1 t764.2.fat] ++ F) rfl trivial rfl rfl rfl src_sl Try.underlying59 (.inr ⟨_, Try.underlying59⟩) inf73 rfl (by decide) g768 rfl nofun (fun v769 => ?_)
  refine Dv.nilpp h767 rfl trivial rfl ?_
  refine Dv.fabp h767 rfl trivial rfl Try.underlying61 rfl Try.underlying59 c59 (by decide) ?_
  refine Dv.stx ([blk g766.1 61 [eq v769.1, eq g766.2.2.1], own HEnt.K v769.1 (t764.2.fl ++ ([(⟨a1, a2⟩ : HEnt)] : List HEnt)), mp Value.string (fun x : Int => eq (.int .i64 x)) g766.2.2.1 t764.2.fat] ++ F) rfl trivial rfl rfl (cells_one one_ov) Try.underlying59 c59 rfl (j := 0) rfl (Nat.le_of_ble_eq_true rfl) rfl nofun ?_
  refine .fin ?_
  refine WP.reg [(0, false), (1, false), (2, false), (3, false), (4, false), (5, false), (6, false), (7, true)] (by kernel_rfl) ?_
  refine Dv.mv rfl trivial rfl ?_
  refine Dv.mv rfl trivial rfl ?_
  refine Dv.nilpp h767 rfl trivial rfl ?_
  refine Dv.fabp h767 rfl trivial rfl Try.underlying61 rfl Try.underlying59 c59 (by decide) ?_
  refine Dv.ldb rfl trivial rfl Try.underlying59 rfl (mem_at 0 rfl) rfl ?_
  refine Dv.lenw rfl trivial rfl (mem_at 1 rfl) Try.underlying59 ?_
  refine Dv.bin rfl trivial rfl rfl (fun _ => run_sub) ?_
  refine Dv.gh (l' := fun _ : Unit => [HHeap.O p0_ (⟨t764.2.fl ++ ([(⟨a1, a2⟩ : HEnt)] : List HEnt), t764.2.fat⟩ : HHeap)] ++ F) (gh_of (HHeap.shut (p := p0_) (m := (⟨t764.2.fl ++ ([(⟨a1, a2⟩ : HEnt)] : List HEnt), t764.2.fat⟩ : HHeap)) (r := [] ++ F) (g766.1, v769, g766.2.2) h767 (perm_to (L := [blk g766.1 61 [eq v769.1, eq g766.2.2.1], own HEnt.K v769.1 (t764.2.fl ++ ([(⟨a1, a2⟩ : HEnt)] : List HEnt)), mp Value.string (fun x : Int => eq (.int .i64 x)) g766.2.2.1 t764.2.fat]) (F := F) [0, 1, 2] rfl rfl rfl))) (fun _ _ => ?_)
  obtain ⟨t770, h771, H⟩ := Gets.call H
  refine Dv.callx (pre := [HHeap.O p0_ (⟨t764.2.fl ++ ([(⟨a1, a2⟩ : HEnt)] : List HEnt), t764.2.fat⟩ : HHeap)]) (F := [] ++ F) (fun _ : Unit => [HHeap.O p0_ t770] ++ F) rfl trivial cal43 rfl (heap_Heap_up.c h771 (p0_ := p0_)) (perm_to (L := [HHeap.O p0_ (⟨t764.2.fl ++ ([(⟨a1, a2⟩ : HEnt)] : List HEnt), t764.2.fat⟩ : HHeap)]) (F := F) [0] rfl rfl rfl) rfl nofun (fun _ _ => ?_)
  refine .fin ?_
  obtain rfl := Gets.out H
  exact res_end rfl () trivial .nil rfl (st_sel (L := [HHeap.O p0_ t770]) (F := F) [0] 0 rfl rfl rfl)
theorem presence_Table_Put.c {k : Nat} {a0 : PTab} {a1 : Edu} {p0_ : OV} {r : Bool × Int × PTab} (h : presence_Table_Put.f k a0 a1 = some r) : Tr Try.prog 8 [eq p0_.1, agg (Edu.enc a1)] [PTab.O p0_ a0] (γ := Unit) (fun _ => True) (fun g => tup [eq (.bool r.1), eq (.int .i64 r.2.1)]) (fun g => [PTab.O p0_ r.2.2]) := by
  unfold presence_Table_Put.f at h
  refine Tr.body Try.func8 (c := _) rfl Try.ntmps8 (Nat.le_of_ble_eq_true rfl) fun R0 F => ?_
  replace h := Gets.of h
  have H := h
  clear h
  refine WP.seq ?_
  refine WP.reg [(0, true), (1, false), (2, false)] (by kernel_rfl) ?_
  refine Dv.box rfl trivial rfl (cells_agg (Edu.K.one _)) nofun (fun b772 => ?_)
  refine Dv.asg rfl trivial rfl ?_
  refine Dv.asg rfl trivial rfl ?_
  refine .fin ?_
  refine WP.seq ?_
  refine WP.seq ?_
  refine WP.reg [(0, false), (1, false), (2, false), (3, false), (4, false), (5, false), (6, false), (7, false)] (by kernel_rfl) ?_
  refine Dv.fab rfl trivial rfl Try.underlying24 rfl Try.underlying3 c3 (by decide) ?_
  refine Dv.ldb rfl trivial rfl Try.underlying3 rfl (mem_at 0 rfl) rfl ?_
  refine Dv.bin rfl trivial rfl rfl (fun _ => run_ne) ?_
  refine Dv.mv rfl trivial rfl ?_
  cases c773 : (a1.fKind != 3)
  · replace H := Gets.cf H c773
    refine Dv.ldbs rfl ⟨_, _, rfl, rfl, rfl⟩ rfl Try.underlying24 rfl c24 (mem_at 0 rfl) (Nat.le_of_ble_eq_true rfl) ?_
    obtain ⟨t775, h776, H⟩ := Gets.call H
    refine Dv.call rfl ⟨_, _, rfl, rfl, rfl⟩ cal19 rfl (edu_May.c h776) ?_
    refine Dv.un rfl ⟨_, _, rfl, rfl, rfl⟩ rfl (fun _ => run_not _) ?_
    refine Dv.pickF rfl trivial rfl rfl ?_
    refine .fin ?_
    refine WP.cond rfl (fun c777 => ?_) (fun c777 => ?_)
    · replace H := Gets.ct H c777
      refine WP.seq ?_
      refine WP.reg [(0, false), (1, false)] (by kernel_rfl) ?_
      refine Dv.asg rfl trivial rfl ?_
      refine Dv.asg rfl trivial rfl ?_
      refine .fin ?_
      obtain rfl := Gets.out H
      exact WP.retL (fun _ _ h => h) rfl () trivial (.cons (res_tmp rfl) (.cons (res_tmp rfl) .nil)) rfl (st_sel (L := [blk b772 24 [eq (.int .i64 a1.fKind), eq (.string a1.fRoom), eq (.string a1.fUser), eq (.string a1.fEvent), eq (.string a1.fThread), eq (.bool a1.fPrivate), eq (.bool a1.fOn), eq (.int .i64 a1.fSpan), eq (.int .i64 a1.fState), eq (.int .i64 a1.fTick), eq (.int .i64 a1.fStamp)], PTab.O p0_ a0]) (F := F) [0, 1] 1 rfl rfl rfl)
    · replace H := Gets.cf H c777
      refine WP.skip ?_
      refine WP.seq ?_
      refine WP.reg [(0, false), (1, false), (2, false), (3, false), (4, false), (5, false), (6, false), (7, false), (8, false)] (by kernel_rfl) ?_
      refine Dv.mv rfl trivial rfl ?_
      refine Dv.fab rfl trivial rfl Try.underlying24 rfl Try.underlying9 c9 (by decide) ?_
      refine Dv.ldb rfl trivial rfl Try.underlying9 rfl (mem_at 0 rfl) rfl ?_
      refine Dv.gh (l' := fun (g778 : Nat × OV × OV) => [blk g778.1 48 [eq g778.2.1.1, eq g778.2.2.1], own Edu.K g778.2.1.1 a0.fl, HHeap.O g778.2.2 a0.fturns, blk b772 24 [eq (.int .i64 a1.fKind), eq (.string a1.fRoom), eq (.string a1.fUser), eq (.string a1.fEvent), eq (.string a1.fThread), eq (.bool a1.fPrivate), eq (.bool a1.fOn), eq (.int .i64 a1.fSpan), eq (.int .i64 a1.fState), eq (.int .i64 a1.fTick), eq (.int .i64 a1.fStamp)]] ++ F) (gh_of (PTab.opn 1 rfl)) (fun g778 h779 => ?_)
      obtain ⟨t780, h781, H⟩ := Gets.call H
      refine Dv.calll (B := [blk g778.1 48 [eq g778.2.1.1, eq g778.2.2.1], own Edu.K g778.2.1.1 a0.fl]) (F := [HHeap.O g778.2.2 a0.fturns, blk b772 24 [eq (.int .i64 a1.fKind), eq (.string a1.fRoom), eq (.string a1.fUser), eq (.string a1.fEvent), eq (.string a1.fThread), eq (.bool a1.fPrivate), eq (.bool a1.fOn), eq (.int .i64 a1.fSpan), eq (.int .i64 a1.fState), eq (.int .i64 a1.fTick), eq (.int .i64 a1.fStamp)]] ++ F) rfl trivial cal20 rfl (Tr.weak (presence_Table_place.c h781 (b0_ := g778.1) (v0_0 := g778.2.1) (v0_1 := g778.2.2)) (.cons (wk_ptr h779) (.cons wk_id .nil))) (perm_to (L := [blk g778.1 48 [eq g778.2.1.1, eq g778.2.2.1], own Edu.K g778.2.1.1 a0.fl, HHeap.O g778.2.2 a0.fturns, blk b772 24 [eq (.int .i64 a1.fKind), eq (.string a1.fRoom), eq (.string a1.fUser), eq (.string a1.fEvent), eq (.string a1.fThread), eq (.bool a1.fPrivate), eq (.bool a1.fOn), eq (.int .i64 a1.fSpan), eq (.int .i64 a1.fState), eq (.int .i64 a1.fTick), eq (.int .i64 a1.fStamp)]]) (F := F) [0, 1, 2, 3] rfl rfl rfl) ?_
      refine Dv.mv rfl trivial rfl ?_
      refine Dv.ext rfl trivial rfl rfl ?_
      refine Dv.ext rfl trivial rfl rfl ?_
      refine Dv.asg rfl trivial rfl ?_
      refine Dv.asg rfl trivial rfl ?_
      refine .fin ?_
      refine WP.seqr H id (fun p782 : Bool × Bool × Bool × PTab => [(0, eq p0_.1), (1, agg (Edu.enc a1)), (3, eq (.pointer (some ⟨b772, 0, none⟩))), (4, eq (.bool false)), (5, eq (.int .i64 0)), (6, eq (.int .i64 t780.1)), (7, eq (.bool p782.1)), (17, eq (.bool (!t775))), (36, eq (.bool p782.2.1)), (50, eq (.bool p782.2.2.1))]) (fun p782 : Bool × Bool × Bool × PTab => [blk b772 24 [eq (.int .i64 a1.fKind), eq (.string a1.fRoom), eq (.string a1.fUser), eq (.string a1.fEvent), eq (.string a1.fThread), eq (.bool a1.fPrivate), eq (.bool a1.fOn), eq (.int .i64 a1.fSpan), eq (.int .i64 a1.fState), eq (.int .i64 a1.fTick), eq (.int .i64 a1.fStamp)], PTab.O p0_ p782.2.2.2] ++ F) (fun p782 H => ?_) (fun H => ?_)
      · refine WP.seq ?_
        refine WP.gh (l' := fun (g783 : Nat × OV × OV) => [blk g783.1 48 [eq g783.2.1.1, eq g783.2.2.1], own Edu.K g783.2.1.1 p782.2.2.2.fl, HHeap.O g783.2.2 p782.2.2.2.fturns, blk b772 24 [eq (.int .i64 a1.fKind), eq (.string a1.fRoom), eq (.string a1.fUser), eq (.string a1.fEvent), eq (.string a1.fThread), eq (.bool a1.fPrivate), eq (.bool a1.fOn), eq (.int .i64 a1.fSpan), eq (.int .i64 a1.fState), eq (.int .i64 a1.fTick), eq (.int .i64 a1.fStamp)]] ++ F) (gh_of (PTab.opn 1 rfl)) (fun g783 h784 => ?_)
        refine WP.dreg Try.checked.mixed [(0, false), (1, false), (2, false), (3, false), (4, false), (5, false), (6, true)] (by kernel_rfl) ?_
        refine Dv.mv rfl trivial rfl ?_
        refine Dv.nilpp h784 rfl trivial rfl ?_
        refine Dv.fabp h784 rfl trivial rfl Try.underlying48 rfl Try.underlying45 c45 (by decide) ?_
        refine Dv.ldb rfl trivial rfl Try.underlying45 rfl (mem_at 0 rfl) rfl ?_
        refine Dv.fab rfl trivial rfl Try.underlying24 rfl Try.underlying9 c9 (by decide) ?_
        refine Dv.ldb rfl trivial rfl Try.underlying9 rfl (mem_at 3 rfl) rfl ?_
        obtain ⟨t785, h786, H⟩ := Gets.call H
        refine Dv.callx (pre := [HHeap.O g783.2.2 p782.2.2.2.fturns]) (F := [blk g783.1 48 [eq g783.2.1.1, eq g783.2.2.1], own Edu.K g783.2.1.1 p782.2.2.2.fl, blk b772 24 [eq (.int .i64 a1.fKind), eq (.string a1.fRoom), eq (.string a1.fUser), eq (.string a1.fEvent), eq (.string a1.fThread), eq (.bool a1.fPrivate), eq (.bool a1.fOn), eq (.int .i64 a1.fSpan), eq (.int .i64 a1.fState), eq (.int .i64 a1.fTick), eq (.int .i64 a1.fStamp)]] ++ F) (fun _ : Unit => [HHeap.O g783.2.2 t785.2, blk g783.1 48 [eq g783.2.1.1, eq g783.2.2.1], own Edu.K g783.2.1.1 p782.2.2.2.fl, blk b772 24 [eq (.int .i64 a1.fKind), eq (.string a1.fRoom), eq (.string a1.fUser), eq (.string a1.fEvent), eq (.string a1.fThread), eq (.bool a1.fPrivate), eq (.bool a1.fOn), eq (.int .i64 a1.fSpan), eq (.int .i64 a1.fState), eq (.int .i64 a1.fTick), eq (.int .i64 a1.fStamp)]] ++ F) rfl trivial cal23 rfl (heap_Heap_Drop.c h786 (p0_ := g783.2.2)) (perm_to (L := [blk g783.1 48 [eq g783.2.1.1, eq g783.2.2.1], own Edu.K g783.2.1.1 p782.2.2.2.fl, HHeap.O g783.2.2 p782.2.2.2.fturns, blk b772 24 [eq (.int .i64 a1.fKind), eq (.string a1.fRoom), eq (.string a1.fUser), eq (.string a1.fEvent), eq (.string a1.fThread), eq (.bool a1.fPrivate), eq (.bool a1.fOn), eq (.int .i64 a1.fSpan), eq (.int .i64 a1.fState), eq (.int .i64 a1.fTick), eq (.int .i64 a1.fStamp)]]) (F := F) [2, 0, 1, 3] rfl rfl rfl) rfl (fun _ => pendc (pend_bits (by kernel_rfl))) (fun _ _ => ?_)
        refine .fin ?_
        refine WP.seq ?_
        refine WP.seq ?_
        refine WP.reg [(0, false), (1, false), (2, false), (3, false), (4, false), (5, false), (6, false)] (by kernel_rfl) ?_
        refine Dv.ldbs rfl trivial rfl Try.underlying24 rfl c24 (mem_at 3 rfl) (Nat.le_of_ble_eq_true rfl) ?_
        obtain ⟨t787, h788, H⟩ := Gets.call H
        refine Dv.call rfl trivial cal24 rfl (presence_turn.c h788) ?_
        refine Dv.mv rfl trivial rfl ?_
        refine Dv.ext rfl trivial rfl rfl ?_
        refine Dv.ext rfl trivial rfl rfl ?_
        refine Dv.asg rfl trivial rfl ?_
        refine Dv.asg rfl trivial rfl ?_
        refine .fin ?_
        refine WP.seq ?_
        refine WP.reg [(0, false)] (by kernel_rfl) ?_
        refine Dv.mv rfl trivial rfl ?_
        refine .fin ?_
        refine WP.cond rfl (fun c789 => ?_) (fun c789 => ?_)
        · replace H := Gets.ct H c789
          refine WP.dreg Try.checked.mixed [(0, false), (1, false), (2, false), (3, false), (4, false), (5, false), (6, false), (7, true)] (by kernel_rfl) ?_
          refine Dv.mv rfl trivial rfl ?_
          refine Dv.nilpp h784 rfl trivial rfl ?_
          refine Dv.fabp h784 rfl trivial rfl Try.underlying48 rfl Try.underlying45 c45 (by decide) ?_
          refine Dv.ldb rfl trivial rfl Try.underlying45 rfl (mem_at 1 rfl) rfl ?_
          refine Dv.mv rfl trivial rfl ?_
          refine Dv.fab rfl trivial rfl Try.underlying24 rfl Try.underlying9 c9 (by decide) ?_
          refine Dv.ldb rfl trivial rfl Try.underlying9 rfl (mem_at 3 rfl) rfl ?_
          obtain ⟨t790, h791, H⟩ := Gets.call H
          refine Dv.callx (pre := [HHeap.O g783.2.2 t785.2]) (F := [blk g783.1 48 [eq g783.2.1.1, eq g783.2.2.1], own Edu.K g783.2.1.1 p782.2.2.2.fl, blk b772 24 [eq (.int .i64 a1.fKind), eq (.string a1.fRoom), eq (.string a1.fUser), eq (.string a1.fEvent), eq (.string a1.fThread), eq (.bool a1.fPrivate), eq (.bool a1.fOn), eq (.int .i64 a1.fSpan), eq (.int .i64 a1.fState), eq (.int .i64 a1.fTick), eq (.int .i64 a1.fStamp)]] ++ F) (fun _ : Unit => [HHeap.O g783.2.2 t790, blk g783.1 48 [eq g783.2.1.1, eq g783.2.2.1], own Edu.K g783.2.1.1 p782.2.2.2.fl, blk b772 24 [eq (.int .i64 a1.fKind), eq (.string a1.fRoom), eq (.string a1.fUser), eq (.string a1.fEvent), eq (.string a1.fThread), eq (.bool a1.fPrivate), eq (.bool a1.fOn), eq (.int .i64 a1.fSpan), eq (.int .i64 a1.fState), eq (.int .i64 a1.fTick), eq (.int .i64 a1.fStamp)]] ++ F) rfl trivial cal25 rfl (heap_Heap_Put.c h791 (p0_ := g783.2.2)) (perm_to (L := [HHeap.O g783.2.2 t785.2, blk g783.1 48 [eq g783.2.1.1, eq g783.2.2.1], own Edu.K g783.2.1.1 p782.2.2.2.fl, blk b772 24 [eq (.int .i64 a1.fKind), eq (.string a1.fRoom), eq (.string a1.fUser), eq (.string a1.fEvent), eq (.string a1.fThread), eq (.bool a1.fPrivate), eq (.bool a1.fOn), eq (.int .i64 a1.fSpan), eq (.int .i64 a1.fState), eq (.int .i64 a1.fTick), eq (.int .i64 a1.fStamp)]]) (F := F) [0, 1, 2, 3] rfl rfl rfl) rfl (fun _ => pendc (pend_bits (by kernel_rfl))) (fun _ _ => ?_)
          refine .fin ?_
          refine WP.seq ?_
          refine WP.reg [(0, false), (1, false)] (by kernel_rfl) ?_
          refine Dv.asg rfl trivial rfl ?_
          refine Dv.asg rfl trivial rfl ?_
          refine .fin ?_
          refine WP.gh (l' := fun _ : Unit => [PTab.O p0_ (⟨p782.2.2.2.fl, t790⟩ : PTab), blk b772 24 [eq (.int .i64 a1.fKind), eq (.string a1.fRoom), eq (.string a1.fUser), eq (.string a1.fEvent), eq (.string a1.fThread), eq (.bool a1.fPrivate), eq (.bool a1.fOn), eq (.int .i64 a1.fSpan), eq (.int .i64 a1.fState), eq (.int .i64 a1.fTick), eq (.int .i64 a1.fStamp)]] ++ F) (gh_of (PTab.shut (p := p0_) (m := (⟨p782.2.2.2.fl, t790⟩ : PTab)) (r := [blk b772 24 [eq (.int .i64 a1.fKind), eq (.string a1.fRoom), eq (.string a1.fUser), eq (.string a1.fEvent), eq (.string a1.fThread), eq (.bool a1.fPrivate), eq (.bool a1.fOn), eq (.int .i64 a1.fSpan), eq (.int .i64 a1.fState), eq (.int .i64 a1.fTick), eq (.int .i64 a1.fStamp)]] ++ F) (g783.1, g783.2.1, g783.2.2) h784 (perm_to (L := [HHeap.O g783.2.2 t790, blk g783.1 48 [eq g783.2.1.1, eq g783.2.2.1], own Edu.K g783.2.1.1 p782.2.2.2.fl, blk b772 24 [eq (.int .i64 a1.fKind), eq (.string a1.fRoom), eq (.string a1.fUser), eq (.string a1.fEvent), eq (.string a1.fThread), eq (.bool a1.fPrivate), eq (.bool a1.fOn), eq (.int .i64 a1.fSpan), eq (.int .i64 a1.fState), eq (.int .i64 a1.fTick), eq (.int .i64 a1.fStamp)]]) (F := F) [1, 2, 0, 3] rfl rfl rfl))) (fun _ _ => ?_)
          obtain rfl := Gets.out H
          exact WP.retL (fun _ _ h => h) rfl () trivial (.cons (res_tmp rfl) (.cons (res_tmp rfl) .nil)) rfl (st_sel (L := [PTab.O p0_ (⟨p782.2.2.2.fl, t790⟩ : PTab), blk b772 24 [eq (.int .i64 a1.fKind), eq (.string a1.fRoom), eq (.string a1.fUser), eq (.string a1.fEvent), eq (.string a1.fThread), eq (.bool a1.fPrivate), eq (.bool a1.fOn), eq (.int .i64 a1.fSpan), eq (.int .i64 a1.fState), eq (.int .i64 a1.fTick), eq (.int .i64 a1.fStamp)]]) (F := F) [1, 0] 1 rfl rfl rfl)
        · replace H := Gets.cf H c789
          refine WP.skip ?_
          refine WP.seq ?_
          refine WP.reg [(0, false), (1, false)] (by kernel_rfl) ?_
          refine Dv.asg rfl trivial rfl ?_
          refine Dv.asg rfl trivial rfl ?_
          refine .fin ?_
          refine WP.gh (l' := fun _ : Unit => [PTab.O p0_ (⟨p782.2.2.2.fl, t785.2⟩ : PTab), blk b772 24 [eq (.int .i64 a1.fKind), eq (.string a1.fRoom), eq (.string a1.fUser), eq (.string a1.fEvent), eq (.string a1.fThread), eq (.bool a1.fPrivate), eq (.bool a1.fOn), eq (.int .i64 a1.fSpan), eq (.int .i64 a1.fState), eq (.int .i64 a1.fTick), eq (.int .i64 a1.fStamp)]] ++ F) (gh_of (PTab.shut (p := p0_) (m := (⟨p782.2.2.2.fl, t785.2⟩ : PTab)) (r := [blk b772 24 [eq (.int .i64 a1.fKind), eq (.string a1.fRoom), eq (.string a1.fUser), eq (.string a1.fEvent), eq (.string a1.fThread), eq (.bool a1.fPrivate), eq (.bool a1.fOn), eq (.int .i64 a1.fSpan), eq (.int .i64 a1.fState), eq (.int .i64 a1.fTick), eq (.int .i64 a1.fStamp)]] ++ F) (g783.1, g783.2.1, g783.2.2) h784 (perm_to (L := [HHeap.O g783.2.2 t785.2, blk g783.1 48 [eq g783.2.1.1, eq g783.2.2.1], own Edu.K g783.2.1.1 p782.2.2.2.fl, blk b772 24 [eq (.int .i64 a1.fKind), eq (.string a1.fRoom), eq (.string a1.fUser), eq (.string a1.fEvent), eq (.string a1.fThread), eq (.bool a1.fPrivate), eq (.bool a1.fOn), eq (.int .i64 a1.fSpan), eq (.int .i64 a1.fState), eq (.int .i64 a1.fTick), eq (.int .i64 a1.fStamp)]]) (F := F) [1, 2, 0, 3] rfl rfl rfl))) (fun _ _ => ?_)
          obtain rfl := Gets.out H
          exact WP.retL (fun _ _ h => h) rfl () trivial (.cons (res_tmp rfl) (.cons (res_tmp rfl) .nil)) rfl (st_sel (L := [PTab.O p0_ (⟨p782.2.2.2.fl, t785.2⟩ : PTab), blk b772 24 [eq (.int .i64 a1.fKind), eq (.string a1.fRoom), eq (.string a1.fUser), eq (.string a1.fEvent), eq (.string a1.fThread), eq (.bool a1.fPrivate), eq (.bool a1.fOn), eq (.int .i64 a1.fSpan), eq (.int .i64 a1.fState), eq (.int .i64 a1.fTick), eq (.int .i64 a1.fStamp)]]) (F := F) [1, 0] 1 rfl rfl rfl)
      · refine WP.block ?_
        refine WP.seq ?_
        refine WP.dreg Try.checked.mixed [(0, false), (1, false), (2, false), (3, false), (4, false), (5, false), (6, false), (7, false), (8, false), (9, false), (10, false), (11, false), (12, false), (13, false)] (by kernel_rfl) ?_
        refine Dv.mv rfl trivial rfl ?_
        refine Dv.mv rfl trivial rfl ?_
        cases c792 : t780.2
        · replace H := Gets.cf H c792
          refine Dv.skip rfl ⟨_, _, rfl, rfl, .inl rfl⟩ ?_
          refine Dv.skip rfl ⟨_, _, rfl, rfl, .inl rfl⟩ ?_
          refine Dv.skip rfl ⟨_, _, rfl, rfl, .inl rfl⟩ ?_
          refine Dv.skip rfl ⟨_, _, rfl, rfl, .inl rfl⟩ ?_
          refine Dv.skip rfl ⟨_, _, rfl, rfl, .inl rfl⟩ ?_
          refine Dv.skip rfl ⟨_, _, rfl, rfl, .inl rfl⟩ ?_
          refine Dv.skip rfl ⟨_, _, rfl, rfl, .inl rfl⟩ ?_
          refine Dv.skip rfl ⟨_, _, rfl, rfl, .inl rfl⟩ ?_
          refine Dv.skip rfl ⟨_, _, rfl, rfl, .inl rfl⟩ ?_
          refine Dv.skip rfl ⟨_, _, rfl, rfl, .inl rfl⟩ ?_
          refine Dv.pickF rfl trivial rfl rfl ?_
          refine Dv.asg rfl trivial rfl ?_
          refine .fin ?_
          refine WP.cond rfl nofun (fun _ => ?_)
          refine WP.seq ?_
          refine WP.reg [(0, false), (1, false)] (by kernel_rfl) ?_
          refine Dv.mv rfl trivial rfl ?_
          refine Dv.asg rfl trivial rfl ?_
          refine .fin ?_
          refine WP.cond rfl nofun (fun _ => ?_)
          refine WP.dreg Try.checked.mixed [(0, false), (1, false), (2, false), (3, false), (4, false), (5, false), (6, false), (7, false), (8, true), (9, false), (10, false), (11, true)] (by kernel_rfl) ?_
          refine Dv.mv rfl trivial rfl ?_
          refine Dv.mv rfl trivial rfl ?_
          refine Dv.nilpp h779 rfl trivial rfl ?_
          refine Dv.fabp h779 rfl trivial rfl Try.underlying48 rfl Try.underlying22 c22 (by decide) ?_
          refine Dv.ldb rfl trivial rfl Try.underlying22 rfl (mem_at 0 rfl) rfl ?_
          refine Dv.mv rfl trivial rfl ?_
          refine Dv.ldbs rfl trivial rfl Try.underlying24 rfl c24 (mem_at 3 rfl) (Nat.le_of_ble_eq_true rfl) ?_
          refine Dv.lit Edu.K ([a1] : List Edu) (css := [Edu.enc a1]) rfl trivial Try.underlying22 Try.underlying24 c24 z24 rfl (by decide) (by decide) rfl ⟨(cells_agg (Edu.K.one _)), trivial⟩ rfl rfl rfl ?_
          obtain ⟨t803, h804, H⟩ := Gets.call H
          refine Dv.callx (pre := [own Edu.K g778.2.1.1 a0.fl]) (F := [blk g778.1 48 [eq g778.2.1.1, eq g778.2.2.1], HHeap.O g778.2.2 a0.fturns, blk b772 24 [eq (.int .i64 a1.fKind), eq (.string a1.fRoom), eq (.string a1.fUser), eq (.string a1.fEvent), eq (.string a1.fThread), eq (.bool a1.fPrivate), eq (.bool a1.fOn), eq (.int .i64 a1.fSpan), eq (.int .i64 a1.fState), eq (.int .i64 a1.fTick), eq (.int .i64 a1.fStamp)]] ++ F) (fun g805 : OV => [own Edu.K g805.1 t803, blk g778.1 48 [eq g778.2.1.1, eq g778.2.2.1], HHeap.O g778.2.2 a0.fturns, blk b772 24 [eq (.int .i64 a1.fKind), eq (.string a1.fRoom), eq (.string a1.fUser), eq (.string a1.fEvent), eq (.string a1.fThread), eq (.bool a1.fPrivate), eq (.bool a1.fOn), eq (.int .i64 a1.fSpan), eq (.int .i64 a1.fState), eq (.int .i64 a1.fTick), eq (.int .i64 a1.fStamp)]] ++ F) rfl trivial cal22 rfl (slices_Insert_Edu.c h804 (p0_ := g778.2.1)) (perm_to (L := [blk g778.1 48 [eq g778.2.1.1, eq g778.2.2.1], own Edu.K g778.2.1.1 a0.fl, HHeap.O g778.2.2 a0.fturns, blk b772 24 [eq (.int .i64 a1.fKind), eq (.string a1.fRoom), eq (.string a1.fUser), eq (.string a1.fEvent), eq (.string a1.fThread), eq (.bool a1.fPrivate), eq (.bool a1.fOn), eq (.int .i64 a1.fSpan), eq (.int .i64 a1.fState), eq (.int .i64 a1.fTick), eq (.int .i64 a1.fStamp)]]) (F := F) [1, 0, 2, 3] rfl rfl rfl) rfl (fun _ => pendc (pend_by (by kernel_rfl) (pend_by (by kernel_rfl) (pend_by (by kernel_rfl) (pend_by (by kernel_rfl) (pend_by (by kernel_rfl) (pend_by (by kernel_rfl) (pend_by (by kernel_rfl) (pend_in (fun _ => trivial) pend_nil))))))))) (fun g805 _ => ?_)
          refine Dv.nilpp h779 rfl trivial rfl ?_
          refine Dv.fabp h779 rfl trivial rfl Try.underlying48 rfl Try.underlying22 c22 (by decide) ?_
          refine Dv.stx ([own Edu.K g805.1 t803, blk g778.1 48 [eq g805.1, eq g778.2.2.1], HHeap.O g778.2.2 a0.fturns, blk b772 24 [eq (.int .i64 a1.fKind), eq (.string a1.fRoom), eq (.string a1.fUser), eq (.string a1.fEvent), eq (.string a1.fThread), eq (.bool a1.fPrivate), eq (.bool a1.fOn), eq (.int .i64 a1.fSpan), eq (.int .i64 a1.fState), eq (.int .i64 a1.fTick), eq (.int .i64 a1.fStamp)]] ++ F) rfl trivial rfl rfl (cells_one one_ov) Try.underlying22 c22 rfl (j := 1) rfl (Nat.le_of_ble_eq_true rfl) rfl (fun _ => pend_bits (by kernel_rfl)) ?_
          refine .fin ?_
          replace H := Gets.out H
          refine Dn.gh (l' := fun _ : Unit => [PTab.O p0_ (⟨t803, a0.fturns⟩ : PTab), blk b772 24 [eq (.int .i64 a1.fKind), eq (.string a1.fRoom), eq (.string a1.fUser), eq (.string a1.fEvent), eq (.string a1.fThread), eq (.bool a1.fPrivate), eq (.bool a1.fOn), eq (.int .i64 a1.fSpan), eq (.int .i64 a1.fState), eq (.int .i64 a1.fTick), eq (.int .i64 a1.fStamp)]] ++ F) (gh_of (PTab.shut (p := p0_) (m := (⟨t803, a0.fturns⟩ : PTab)) (r := [blk b772 24 [eq (.int .i64 a1.fKind), eq (.string a1.fRoom), eq (.string a1.fUser), eq (.string a1.fEvent), eq (.string a1.fThread), eq (.bool a1.fPrivate), eq (.bool a1.fOn), eq (.int .i64 a1.fSpan), eq (.int .i64 a1.fState), eq (.int .i64 a1.fTick), eq (.int .i64 a1.fStamp)]] ++ F) (g778.1, g805, g778.2.2) h779 (perm_to (L := [own Edu.K g805.1 t803, blk g778.1 48 [eq g805.1, eq g778.2.2.1], HHeap.O g778.2.2 a0.fturns, blk b772 24 [eq (.int .i64 a1.fKind), eq (.string a1.fRoom), eq (.string a1.fUser), eq (.string a1.fEvent), eq (.string a1.fThread), eq (.bool a1.fPrivate), eq (.bool a1.fOn), eq (.int .i64 a1.fSpan), eq (.int .i64 a1.fState), eq (.int .i64 a1.fTick), eq (.int .i64 a1.fStamp)]]) (F := F) [1, 0, 2, 3] rfl rfl rfl))) (fun _ _ => ?_)
          refine Dn.gh (l' := fun _ : Unit => [blk b772 24 [eq (.int .i64 a1.fKind), eq (.string a1.fRoom), eq (.string a1.fUser), eq (.string a1.fEvent), eq (.string a1.fThread), eq (.bool a1.fPrivate), eq (.bool a1.fOn), eq (.int .i64 a1.fSpan), eq (.int .i64 a1.fState), eq (.int .i64 a1.fTick), eq (.int .i64 a1.fStamp)], PTab.O p0_ (⟨t803, a0.fturns⟩ : PTab)] ++ F) (gh_of (st_selg (L := [PTab.O p0_ (⟨t803, a0.fturns⟩ : PTab), blk b772 24 [eq (.int .i64 a1.fKind), eq (.string a1.fRoom), eq (.string a1.fUser), eq (.string a1.fEvent), eq (.string a1.fThread), eq (.bool a1.fPrivate), eq (.bool a1.fOn), eq (.int .i64 a1.fSpan), eq (.int .i64 a1.fState), eq (.int .i64 a1.fTick), eq (.int .i64 a1.fStamp)]]) (F := F) [1, 0] 0 rfl rfl rfl)) (fun _ _ => ?_)
          exact Jn.mk (false, false, false, (⟨t803, a0.fturns⟩ : PTab)) H (weak_cons rfl (weak_cons rfl (weak_cons rfl (weak_cons rfl (weak_cons rfl (weak_cons rfl (weak_cons rfl (weak_cons rfl (weak_cons rfl (weak_cons rfl weak_nil)))))))))) (List.Perm.refl _)
        · replace H := Gets.ct H c792
          refine Dv.ldbs rfl ⟨_, _, rfl, rfl, rfl⟩ rfl Try.underlying24 rfl c24 (mem_at 3 rfl) (Nat.le_of_ble_eq_true rfl) ?_
          refine Dv.mv rfl ⟨_, _, rfl, rfl, rfl⟩ rfl ?_
          refine Dv.nilpp h779 rfl ⟨_, _, rfl, rfl, rfl⟩ rfl ?_
          refine Dv.fabp h779 rfl ⟨_, _, rfl, rfl, rfl⟩ rfl Try.underlying48 rfl Try.underlying22 c22 (by decide) ?_
          refine Dv.ldb rfl ⟨_, _, rfl, rfl, rfl⟩ rfl Try.underlying22 rfl (mem_at 0 rfl) rfl ?_
          refine Dv.mv rfl ⟨_, _, rfl, rfl, rfl⟩ rfl ?_
          obtain ⟨g793, H⟩ := Gets.grd H
          have h794 : t780.1.toNat < a0.fl.length := idx_lt g793
          refine Dv.ixw rfl ⟨_, _, rfl, rfl, rfl⟩ rfl (mem_at 1 rfl) rfl Try.underlying22 Try.underlying24 c24 g793.1 g793.2 ?_
          refine Dv.ldws (j := t780.1.toNat) (f := 0) rfl ⟨_, _, rfl, rfl, rfl⟩ rfl (mem_at 1 rfl) h794 Try.underlying24 rfl c24 (Nat.le_of_ble_eq_true rfl) ?_
          obtain ⟨t795, h796, H⟩ := Gets.call H
          refine Dv.call rfl ⟨_, _, rfl, rfl, rfl⟩ cal21 rfl (edu_Later.c h796) ?_
          refine Dv.un rfl ⟨_, _, rfl, rfl, rfl⟩ rfl (fun _ => run_not _) ?_
          refine Dv.pickT rfl trivial rfl rfl ?_
          refine Dv.asg rfl trivial rfl ?_
          refine .fin ?_
          refine WP.cond rfl (fun c797 => ?_) (fun c797 => ?_)
          · replace H := Gets.ct H c797
            refine WP.seq ?_
            refine WP.reg [(0, false), (1, false)] (by kernel_rfl) ?_
            refine Dv.asg rfl trivial rfl ?_
            refine Dv.asg rfl trivial rfl ?_
            refine .fin ?_
            refine WP.gh (l' := fun _ : Unit => [PTab.O p0_ a0, blk b772 24 [eq (.int .i64 a1.fKind), eq (.string a1.fRoom), eq (.string a1.fUser), eq (.string a1.fEvent), eq (.string a1.fThread), eq (.bool a1.fPrivate), eq (.bool a1.fOn), eq (.int .i64 a1.fSpan), eq (.int .i64 a1.fState), eq (.int .i64 a1.fTick), eq (.int .i64 a1.fStamp)]] ++ F) (gh_of (PTab.shut (p := p0_) (m := a0) (r := [blk b772 24 [eq (.int .i64 a1.fKind), eq (.string a1.fRoom), eq (.string a1.fUser), eq (.string a1.fEvent), eq (.string a1.fThread), eq (.bool a1.fPrivate), eq (.bool a1.fOn), eq (.int .i64 a1.fSpan), eq (.int .i64 a1.fState), eq (.int .i64 a1.fTick), eq (.int .i64 a1.fStamp)]] ++ F) (g778.1, g778.2.1, g778.2.2) h779 (perm_to (L := [blk g778.1 48 [eq g778.2.1.1, eq g778.2.2.1], own Edu.K g778.2.1.1 a0.fl, HHeap.O g778.2.2 a0.fturns, blk b772 24 [eq (.int .i64 a1.fKind), eq (.string a1.fRoom), eq (.string a1.fUser), eq (.string a1.fEvent), eq (.string a1.fThread), eq (.bool a1.fPrivate), eq (.bool a1.fOn), eq (.int .i64 a1.fSpan), eq (.int .i64 a1.fState), eq (.int .i64 a1.fTick), eq (.int .i64 a1.fStamp)]]) (F := F) [0, 1, 2, 3] rfl rfl rfl))) (fun _ _ => ?_)
            replace H := Gets.outr H
            obtain rfl := Gets.out H
            exact WP.retL (fun _ _ h => h) rfl () trivial (.cons (res_tmp rfl) (.cons (res_tmp rfl) .nil)) rfl (st_sel (L := [PTab.O p0_ a0, blk b772 24 [eq (.int .i64 a1.fKind), eq (.string a1.fRoom), eq (.string a1.fUser), eq (.string a1.fEvent), eq (.string a1.fThread), eq (.bool a1.fPrivate), eq (.bool a1.fOn), eq (.int .i64 a1.fSpan), eq (.int .i64 a1.fState), eq (.int .i64 a1.fTick), eq (.int .i64 a1.fStamp)]]) (F := F) [1, 0] 1 rfl rfl rfl)
          · replace H := Gets.cf H c797
            refine WP.seq ?_
            refine WP.reg [(0, false), (1, false)] (by kernel_rfl) ?_
            refine Dv.mv rfl trivial rfl ?_
            refine Dv.asg rfl trivial rfl ?_
            refine .fin ?_
            refine WP.cond rfl (fun _ => ?_) nofun
            refine WP.dreg Try.checked.mixed [(0, false), (1, false), (2, false), (3, false), (4, false), (5, false), (6, false), (7, true)] (by kernel_rfl) ?_
            refine Dv.mv rfl trivial rfl ?_
            refine Dv.nilpp h779 rfl trivial rfl ?_
            refine Dv.fabp h779 rfl trivial rfl Try.underlying48 rfl Try.underlying22 c22 (by decide) ?_
            refine Dv.ldb rfl trivial rfl Try.underlying22 rfl (mem_at 0 rfl) rfl ?_
            refine Dv.mv rfl trivial rfl ?_
            refine Dv.ldbs rfl trivial rfl Try.underlying24 rfl c24 (mem_at 3 rfl) (Nat.le_of_ble_eq_true rfl) ?_
            obtain ⟨g799, H⟩ := Gets.grd H
            have h800 : t780.1.toNat < a0.fl.length := idx_lt g799
            refine Dv.ixw rfl trivial rfl (mem_at 1 rfl) rfl Try.underlying22 Try.underlying24 c24 g799.1 g799.2 ?_
            refine Dv.stw (j := t780.1.toNat) (f := 0) (jj := 1) a1 rfl trivial rfl rfl (cells_agg (Edu.K.one _)) Try.underlying24 c24 rfl rfl h800 (Nat.le_of_ble_eq_true rfl) rfl (fun _ => pend_bits (by kernel_rfl)) ?_
            refine .fin ?_
            replace H := Gets.out H
            refine Dn.gh (l' := fun _ : Unit => [PTab.O p0_ (⟨a0.fl.set t780.1.toNat a1, a0.fturns⟩ : PTab), blk b772 24 [eq (.int .i64 a1.fKind), eq (.string a1.fRoom), eq (.string a1.fUser), eq (.string a1.fEvent), eq (.string a1.fThread), eq (.bool a1.fPrivate), eq (.bool a1.fOn), eq (.int .i64 a1.fSpan), eq (.int .i64 a1.fState), eq (.int .i64 a1.fTick), eq (.int .i64 a1.fStamp)]] ++ F) (gh_of (PTab.shut (p := p0_) (m := (⟨a0.fl.set t780.1.toNat a1, a0.fturns⟩ : PTab)) (r := [blk b772 24 [eq (.int .i64 a1.fKind), eq (.string a1.fRoom), eq (.string a1.fUser), eq (.string a1.fEvent), eq (.string a1.fThread), eq (.bool a1.fPrivate), eq (.bool a1.fOn), eq (.int .i64 a1.fSpan), eq (.int .i64 a1.fState), eq (.int .i64 a1.fTick), eq (.int .i64 a1.fStamp)]] ++ F) (g778.1, g778.2.1, g778.2.2) h779 (perm_to (L := [blk g778.1 48 [eq g778.2.1.1, eq g778.2.2.1], own Edu.K g778.2.1.1 (a0.fl.set t780.1.toNat a1), HHeap.O g778.2.2 a0.fturns, blk b772 24 [eq (.int .i64 a1.fKind), eq (.string a1.fRoom), eq (.string a1.fUser), eq (.string a1.fEvent), eq (.string a1.fThread), eq (.bool a1.fPrivate), eq (.bool a1.fOn), eq (.int .i64 a1.fSpan), eq (.int .i64 a1.fState), eq (.int .i64 a1.fTick), eq (.int .i64 a1.fStamp)]]) (F := F) [0, 1, 2, 3] rfl rfl rfl))) (fun _ _ => ?_)
            refine Dn.gh (l' := fun _ : Unit => [blk b772 24 [eq (.int .i64 a1.fKind), eq (.string a1.fRoom), eq (.string a1.fUser), eq (.string a1.fEvent), eq (.string a1.fThread), eq (.bool a1.fPrivate), eq (.bool a1.fOn), eq (.int .i64 a1.fSpan), eq (.int .i64 a1.fState), eq (.int .i64 a1.fTick), eq (.int .i64 a1.fStamp)], PTab.O p0_ (⟨a0.fl.set t780.1.toNat a1, a0.fturns⟩ : PTab)] ++ F) (gh_of (st_selg (L := [PTab.O p0_ (⟨a0.fl.set t780.1.toNat a1, a0.fturns⟩ : PTab), blk b772 24 [eq (.int .i64 a1.fKind), eq (.string a1.fRoom), eq (.string a1.fUser), eq (.string a1.fEvent), eq (.string a1.fThread), eq (.bool a1.fPrivate), eq (.bool a1.fOn), eq (.int .i64 a1.fSpan), eq (.int .i64 a1.fState), eq (.int .i64 a1.fTick), eq (.int .i64 a1.fStamp)]]) (F := F) [1, 0] 0 rfl rfl rfl)) (fun _ _ => ?_)
            exact Jn.mk (true, !t795, true, (⟨a0.fl.set t780.1.toNat a1, a0.fturns⟩ : PTab)) H (weak_cons rfl (weak_cons rfl (weak_cons rfl (weak_cons rfl (weak_cons rfl (weak_cons rfl (weak_cons rfl (weak_cons rfl (weak_cons rfl (weak_cons rfl weak_nil)))))))))) (List.Perm.refl _)
  · replace H := Gets.ct H c773
    refine Dv.skip rfl ⟨_, _, rfl, rfl, .inl rfl⟩ ?_
    refine Dv.skip rfl ⟨_, _, rfl, rfl, .inl rfl⟩ ?_
    refine Dv.skip rfl ⟨_, _, rfl, rfl, .inl rfl⟩ ?_
    refine Dv.pickT rfl trivial rfl rfl ?_
    refine .fin ?_
    refine WP.cond rfl (fun _ => ?_) nofun
    refine WP.seq ?_
    refine WP.reg [(0, false), (1, false)] (by kernel_rfl) ?_
    refine Dv.asg rfl trivial rfl ?_
    refine Dv.asg rfl trivial rfl ?_
    refine .fin ?_
    obtain rfl := Gets.out H
    exact WP.retL (fun _ _ h => h) rfl () trivial (.cons (res_tmp rfl) (.cons (res_tmp rfl) .nil)) rfl (st_sel (L := [blk b772 24 [eq (.int .i64 a1.fKind), eq (.string a1.fRoom), eq (.string a1.fUser), eq (.string a1.fEvent), eq (.string a1.fThread), eq (.bool a1.fPrivate), eq (.bool a1.fOn), eq (.int .i64 a1.fSpan), eq (.int .i64 a1.fState), eq (.int .i64 a1.fTick), eq (.int .i64 a1.fStamp)], PTab.O p0_ a0]) (F := F) [0, 1] 1 rfl rfl rfl)
theorem presence_Table_State.c {k : Nat} {a0 : PTab} {a1 : ByteArray} {a2 : Int} {v0_0 v0_1 : OV} {b0_ : Nat} {r : Int} (h : presence_Table_State.f k a0 a1 a2 = some r) : Tr Try.prog 9 [eq (.pointer (some ⟨b0_, 0, none⟩)), eq (.string a1), eq (.int .i64 a2)] [blk b0_ 48 [eq v0_0.1, eq v0_1.1], own Edu.K v0_0.1 a0.fl] (γ := Unit) (fun _ => True) (fun g => eq (.int .i64 r)) (fun g => [blk b0_ 48 [eq v0_0.1, eq v0_1.1], own Edu.K v0_0.1 a0.fl]) := by
  unfold presence_Table_State.f at h
  refine Tr.body Try.func9 (c := _) rfl Try.ntmps9 (Nat.le_of_ble_eq_true rfl) fun R0 F => ?_
  replace h := Gets.of h
  have H := h
  clear h
  refine WP.seq ?_
  refine WP.reg [(0, false)] (by kernel_rfl) ?_
  refine Dv.asg rfl trivial rfl ?_
  refine .fin ?_
  refine WP.seq ?_
  refine WP.reg [(0, false), (1, false), (2, false), (3, false), (4, false), (5, false), (6, false), (7, false)] (by kernel_rfl) ?_
  refine Dv.mv rfl trivial rfl ?_
  refine Dv.mv rfl trivial rfl ?_
  obtain ⟨t806, h807, H⟩ := Gets.call H
  refine Dv.calll (B := [blk b0_ 48 [eq v0_0.1, eq v0_1.1], own Edu.K v0_0.1 a0.fl]) (F := [] ++ F) rfl trivial cal20 rfl (presence_Table_place.c h807 (b0_ := b0_) (v0_0 := v0_0) (v0_1 := v0_1)) (perm_to (L := [blk b0_ 48 [eq v0_0.1, eq v0_1.1], own Edu.K v0_0.1 a0.fl]) (F := F) [0, 1] rfl rfl rfl) ?_
  refine Dv.mv rfl trivial rfl ?_
  refine Dv.ext rfl trivial rfl rfl ?_
  refine Dv.ext rfl trivial rfl rfl ?_
  refine Dv.asg rfl trivial rfl ?_
  refine Dv.asg rfl trivial rfl ?_
  refine .fin ?_
  refine WP.seq ?_
  refine WP.seq ?_
  refine WP.reg [(0, false), (1, false)] (by kernel_rfl) ?_
  refine Dv.mv rfl trivial rfl ?_
  refine Dv.un rfl trivial rfl (fun _ => run_not _) ?_
  refine .fin ?_
  refine WP.cond rfl (fun c808 => ?_) (fun c808 => ?_)
  · replace H := Gets.ct H c808
    refine WP.seq ?_
    refine WP.reg [(0, false)] (by kernel_rfl) ?_
    refine Dv.asg rfl trivial rfl ?_
    refine .fin ?_
    obtain rfl := Gets.out H
    exact WP.retL (fun _ _ h => h) rfl () trivial (.cons (res_tmp rfl) .nil) rfl (st_sel (L := [blk b0_ 48 [eq v0_0.1, eq v0_1.1], own Edu.K v0_0.1 a0.fl]) (F := F) [0, 1] 0 rfl rfl rfl)
  · replace H := Gets.cf H c808
    refine WP.skip ?_
    refine WP.seq ?_
    refine WP.reg [(0, false), (1, false), (2, false), (3, false), (4, false), (5, false), (6, false), (7, false), (8, false), (9, false)] (by kernel_rfl) ?_
    refine Dv.mv rfl trivial rfl ?_
    refine Dv.nilp rfl trivial rfl ?_
    refine Dv.fab rfl trivial rfl Try.underlying48 rfl Try.underlying22 c22 (by decide) ?_
    refine Dv.ldb rfl trivial rfl Try.underlying22 rfl (mem_at 0 rfl) rfl ?_
    refine Dv.mv rfl trivial rfl ?_
    obtain ⟨g809, H⟩ := Gets.grd H
    have h810 : t806.1.toNat < a0.fl.length := idx_lt g809
    refine Dv.ixw rfl trivial rfl (mem_at 1 rfl) rfl Try.underlying22 Try.underlying24 c24 g809.1 g809.2 ?_
    refine Dv.ldws (j := t806.1.toNat) (f := 0) rfl trivial rfl (mem_at 1 rfl) h810 Try.underlying24 rfl c24 (Nat.le_of_ble_eq_true rfl) ?_
    refine Dv.mv rfl trivial rfl ?_
    obtain ⟨t811, h812, H⟩ := Gets.call H
    refine Dv.call rfl trivial cal26 rfl (presence_state.c h812) ?_
    refine Dv.asg rfl trivial rfl ?_
    refine .fin ?_
    obtain rfl := Gets.out H
    exact WP.retL (fun _ _ h => h) rfl () trivial (.cons (res_tmp rfl) .nil) rfl (st_sel (L := [blk b0_ 48 [eq v0_0.1, eq v0_1.1], own Edu.K v0_0.1 a0.fl]) (F := F) [0, 1] 0 rfl rfl rfl)
theorem concourseref15_Of.c {a0 : Edu} {a1 : Int} {r : Int} (h : concourseref15_Of.f a0 a1 = some r) : Pt Try.prog 11 [agg (Edu.enc a0), eq (.int .i64 a1)] (eq (.int .i64 r)) := by
  unfold concourseref15_Of.f at h
  refine (Tr.body Try.func11 (c := _) rfl Try.ntmps11 (Nat.le_of_ble_eq_true rfl) fun R0 F => ?_).pt
  replace h := Gets.of h
  have H := h
  clear h
  refine WP.seq ?_
  refine WP.reg [(0, true), (1, false)] (by kernel_rfl) ?_
  refine Dv.box rfl trivial rfl (cells_agg (Edu.K.one _)) nofun (fun b813 => ?_)
  refine Dv.asg rfl trivial rfl ?_
  refine .fin ?_
  refine WP.seq ?_
  refine WP.seq ?_
  refine WP.reg [(0, false), (1, false), (2, false), (3, false), (4, false), (5, false), (6, false), (7, false), (8, false), (9, false)] (by kernel_rfl) ?_
  refine Dv.fab rfl trivial rfl Try.underlying24 rfl Try.underlying3 c3 (by decide) ?_
  refine Dv.ldb rfl trivial rfl Try.underlying3 rfl (mem_at 0 rfl) rfl ?_
  refine Dv.bin rfl trivial rfl rfl (fun _ => run_eq) ?_
  refine Dv.mv rfl trivial rfl ?_
  cases c814 : (a0.fState == 2)
  · replace H := Gets.cf H c814
    refine Dv.skip rfl ⟨_, _, rfl, rfl, .inl rfl⟩ ?_
    refine Dv.skip rfl ⟨_, _, rfl, rfl, .inl rfl⟩ ?_
    refine Dv.skip rfl ⟨_, _, rfl, rfl, .inl rfl⟩ ?_
    refine Dv.skip rfl ⟨_, _, rfl, rfl, .inl rfl⟩ ?_
    refine Dv.skip rfl ⟨_, _, rfl, rfl, .inl rfl⟩ ?_
    refine Dv.pickF rfl trivial rfl rfl ?_
    refine .fin ?_
    refine WP.cond rfl nofun (fun _ => ?_)
    refine WP.skip ?_
    refine WP.seq ?_
    refine WP.seq ?_
    refine WP.reg [(0, false), (1, false), (2, false), (3, false), (4, false), (5, false), (6, false), (7, false), (8, false), (9, false)] (by kernel_rfl) ?_
    refine Dv.fab rfl trivial rfl Try.underlying24 rfl Try.underlying3 c3 (by decide) ?_
    refine Dv.ldb rfl trivial rfl Try.underlying3 rfl (mem_at 0 rfl) rfl ?_
    refine Dv.bin rfl trivial rfl rfl (fun _ => run_gt) ?_
    refine Dv.mv rfl trivial rfl ?_
    cases c820 : decide (0 < a0.fState)
    · replace H := Gets.cf H c820
      refine Dv.skip rfl ⟨_, _, rfl, rfl, .inl rfl⟩ ?_
      refine Dv.skip rfl ⟨_, _, rfl, rfl, .inl rfl⟩ ?_
      refine Dv.skip rfl ⟨_, _, rfl, rfl, .inl rfl⟩ ?_
      refine Dv.skip rfl ⟨_, _, rfl, rfl, .inl rfl⟩ ?_
      refine Dv.skip rfl ⟨_, _, rfl, rfl, .inl rfl⟩ ?_
      refine Dv.pickF rfl trivial rfl rfl ?_
      refine .fin ?_
      refine WP.cond rfl nofun (fun _ => ?_)
      refine WP.skip ?_
      refine WP.seq ?_
      refine WP.reg [(0, false)] (by kernel_rfl) ?_
      refine Dv.asg rfl trivial rfl ?_
      refine .fin ?_
      obtain rfl := Gets.out H
      exact WP.retL (fun _ _ h => h) rfl () trivial (.cons (res_tmp rfl) .nil) rfl (st_sel (L := [blk b813 24 [eq (.int .i64 a0.fKind), eq (.string a0.fRoom), eq (.string a0.fUser), eq (.string a0.fEvent), eq (.string a0.fThread), eq (.bool a0.fPrivate), eq (.bool a0.fOn), eq (.int .i64 a0.fSpan), eq (.int .i64 a0.fState), eq (.int .i64 a0.fTick), eq (.int .i64 a0.fStamp)]]) (F := F) [0] 1 rfl rfl rfl)
    · replace H := Gets.ct H c820
      refine Dv.mv rfl ⟨_, _, rfl, rfl, rfl⟩ rfl ?_
      refine Dv.fab rfl ⟨_, _, rfl, rfl, rfl⟩ rfl Try.underlying24 rfl Try.underlying3 c3 (by decide) ?_
      refine Dv.ldb rfl ⟨_, _, rfl, rfl, rfl⟩ rfl Try.underlying3 rfl (mem_at 0 rfl) rfl ?_
      refine Dv.bin rfl ⟨_, _, rfl, rfl, rfl⟩ rfl rfl (fun _ => run_add) ?_
      refine Dv.bin rfl ⟨_, _, rfl, rfl, rfl⟩ rfl rfl (fun _ => run_lt) ?_
      refine Dv.pickT rfl trivial rfl rfl ?_
      refine .fin ?_
      refine WP.cond rfl (fun c821 => ?_) (fun c821 => ?_)
      · replace H := Gets.ct H c821
        refine WP.seq ?_
        refine WP.reg [(0, false)] (by kernel_rfl) ?_
        refine Dv.asg rfl trivial rfl ?_
        refine .fin ?_
        obtain rfl := Gets.out H
        exact WP.retL (fun _ _ h => h) rfl () trivial (.cons (res_tmp rfl) .nil) rfl (st_sel (L := [blk b813 24 [eq (.int .i64 a0.fKind), eq (.string a0.fRoom), eq (.string a0.fUser), eq (.string a0.fEvent), eq (.string a0.fThread), eq (.bool a0.fPrivate), eq (.bool a0.fOn), eq (.int .i64 a0.fSpan), eq (.int .i64 a0.fState), eq (.int .i64 a0.fTick), eq (.int .i64 a0.fStamp)]]) (F := F) [0] 1 rfl rfl rfl)
      · replace H := Gets.cf H c821
        refine WP.skip ?_
        refine WP.seq ?_
        refine WP.reg [(0, false)] (by kernel_rfl) ?_
        refine Dv.asg rfl trivial rfl ?_
        refine .fin ?_
        obtain rfl := Gets.out H
        exact WP.retL (fun _ _ h => h) rfl () trivial (.cons (res_tmp rfl) .nil) rfl (st_sel (L := [blk b813 24 [eq (.int .i64 a0.fKind), eq (.string a0.fRoom), eq (.string a0.fUser), eq (.string a0.fEvent), eq (.string a0.fThread), eq (.bool a0.fPrivate), eq (.bool a0.fOn), eq (.int .i64 a0.fSpan), eq (.int .i64 a0.fState), eq (.int .i64 a0.fTick), eq (.int .i64 a0.fStamp)]]) (F := F) [0] 1 rfl rfl rfl)
  · replace H := Gets.ct H c814
    refine Dv.mv rfl ⟨_, _, rfl, rfl, rfl⟩ rfl ?_
    refine Dv.fab rfl ⟨_, _, rfl, rfl, rfl⟩ rfl Try.underlying24 rfl Try.underlying3 c3 (by decide) ?_
    refine Dv.ldb rfl ⟨_, _, rfl, rfl, rfl⟩ rfl Try.underlying3 rfl (mem_at 0 rfl) rfl ?_
    refine Dv.bin rfl ⟨_, _, rfl, rfl, rfl⟩ rfl rfl (fun _ => run_add) ?_
    refine Dv.bin rfl ⟨_, _, rfl, rfl, rfl⟩ rfl rfl (fun _ => run_lt) ?_
    refine Dv.pickT rfl trivial rfl rfl ?_
    refine .fin ?_
    refine WP.cond rfl (fun c815 => ?_) (fun c815 => ?_)
    · replace H := Gets.ct H c815
      refine WP.seq ?_
      refine WP.reg [(0, false)] (by kernel_rfl) ?_
      refine Dv.asg rfl trivial rfl ?_
      refine .fin ?_
      obtain rfl := Gets.out H
      exact WP.retL (fun _ _ h => h) rfl () trivial (.cons (res_tmp rfl) .nil) rfl (st_sel (L := [blk b813 24 [eq (.int .i64 a0.fKind), eq (.string a0.fRoom), eq (.string a0.fUser), eq (.string a0.fEvent), eq (.string a0.fThread), eq (.bool a0.fPrivate), eq (.bool a0.fOn), eq (.int .i64 a0.fSpan), eq (.int .i64 a0.fState), eq (.int .i64 a0.fTick), eq (.int .i64 a0.fStamp)]]) (F := F) [0] 1 rfl rfl rfl)
    · replace H := Gets.cf H c815
      refine WP.skip ?_
      refine WP.seq ?_
      refine WP.seq ?_
      refine WP.reg [(0, false), (1, false), (2, false), (3, false), (4, false), (5, false), (6, false), (7, false), (8, false), (9, false)] (by kernel_rfl) ?_
      refine Dv.fab rfl trivial rfl Try.underlying24 rfl Try.underlying3 c3 (by decide) ?_
      refine Dv.ldb rfl trivial rfl Try.underlying3 rfl (mem_at 0 rfl) rfl ?_
      refine Dv.bin rfl trivial rfl rfl (fun _ => run_gt) ?_
      refine Dv.mv rfl trivial rfl ?_
      cases c816 : decide (0 < a0.fState)
      · replace H := Gets.cf H c816
        refine Dv.skip rfl ⟨_, _, rfl, rfl, .inl rfl⟩ ?_
        refine Dv.skip rfl ⟨_, _, rfl, rfl, .inl rfl⟩ ?_
        refine Dv.skip rfl ⟨_, _, rfl, rfl, .inl rfl⟩ ?_
        refine Dv.skip rfl ⟨_, _, rfl, rfl, .inl rfl⟩ ?_
        refine Dv.skip rfl ⟨_, _, rfl, rfl, .inl rfl⟩ ?_
        refine Dv.pickF rfl trivial rfl rfl ?_
        refine .fin ?_
        refine WP.cond rfl nofun (fun _ => ?_)
        refine WP.skip ?_
        refine WP.seq ?_
        refine WP.reg [(0, false)] (by kernel_rfl) ?_
        refine Dv.asg rfl trivial rfl ?_
        refine .fin ?_
        obtain rfl := Gets.out H
        exact WP.retL (fun _ _ h => h) rfl () trivial (.cons (res_tmp rfl) .nil) rfl (st_sel (L := [blk b813 24 [eq (.int .i64 a0.fKind), eq (.string a0.fRoom), eq (.string a0.fUser), eq (.string a0.fEvent), eq (.string a0.fThread), eq (.bool a0.fPrivate), eq (.bool a0.fOn), eq (.int .i64 a0.fSpan), eq (.int .i64 a0.fState), eq (.int .i64 a0.fTick), eq (.int .i64 a0.fStamp)]]) (F := F) [0] 1 rfl rfl rfl)
      · replace H := Gets.ct H c816
        refine Dv.mv rfl ⟨_, _, rfl, rfl, rfl⟩ rfl ?_
        refine Dv.fab rfl ⟨_, _, rfl, rfl, rfl⟩ rfl Try.underlying24 rfl Try.underlying3 c3 (by decide) ?_
        refine Dv.ldb rfl ⟨_, _, rfl, rfl, rfl⟩ rfl Try.underlying3 rfl (mem_at 0 rfl) rfl ?_
        refine Dv.bin rfl ⟨_, _, rfl, rfl, rfl⟩ rfl rfl (fun _ => run_add) ?_
        refine Dv.bin rfl ⟨_, _, rfl, rfl, rfl⟩ rfl rfl (fun _ => run_lt) ?_
        refine Dv.pickT rfl trivial rfl rfl ?_
        refine .fin ?_
        refine WP.cond rfl (fun c817 => ?_) (fun c817 => ?_)
        · replace H := Gets.ct H c817
          refine WP.seq ?_
          refine WP.reg [(0, false)] (by kernel_rfl) ?_
          refine Dv.asg rfl trivial rfl ?_
          refine .fin ?_
          obtain rfl := Gets.out H
          exact WP.retL (fun _ _ h => h) rfl () trivial (.cons (res_tmp rfl) .nil) rfl (st_sel (L := [blk b813 24 [eq (.int .i64 a0.fKind), eq (.string a0.fRoom), eq (.string a0.fUser), eq (.string a0.fEvent), eq (.string a0.fThread), eq (.bool a0.fPrivate), eq (.bool a0.fOn), eq (.int .i64 a0.fSpan), eq (.int .i64 a0.fState), eq (.int .i64 a0.fTick), eq (.int .i64 a0.fStamp)]]) (F := F) [0] 1 rfl rfl rfl)
        · replace H := Gets.cf H c817
          refine WP.skip ?_
          refine WP.seq ?_
          refine WP.reg [(0, false)] (by kernel_rfl) ?_
          refine Dv.asg rfl trivial rfl ?_
          refine .fin ?_
          obtain rfl := Gets.out H
          exact WP.retL (fun _ _ h => h) rfl () trivial (.cons (res_tmp rfl) .nil) rfl (st_sel (L := [blk b813 24 [eq (.int .i64 a0.fKind), eq (.string a0.fRoom), eq (.string a0.fUser), eq (.string a0.fEvent), eq (.string a0.fThread), eq (.bool a0.fPrivate), eq (.bool a0.fOn), eq (.int .i64 a0.fSpan), eq (.int .i64 a0.fState), eq (.int .i64 a0.fTick), eq (.int .i64 a0.fStamp)]]) (F := F) [0] 1 rfl rfl rfl)
theorem concourselaw15_lives.c {k : Nat} {r : Bool} (h : concourselaw15_lives.f k = some r) : Pt Try.prog 12 [] (eq (.bool r)) := by
  unfold concourselaw15_lives.f at h
  refine (Tr.body Try.func12 (c := _) rfl Try.ntmps12 (Nat.le_of_ble_eq_true rfl) fun R0 F => ?_).pt
  replace h := Gets.of h
  have H := h
  clear h
  refine WP.seq ?_
  refine WP.reg [(0, false)] (by kernel_rfl) ?_
  refine Dv.asg rfl trivial rfl ?_
  refine .fin ?_
  refine WP.seq ?_
  refine WP.reg [(0, true), (1, false)] (by kernel_rfl) ?_
  obtain ⟨t823, h824, H⟩ := Gets.call H
  refine Dv.callx (pre := []) (F := [] ++ F) (fun g825 : OV => [PTab.O g825 t823] ++ F) rfl trivial cal5 rfl (presence_New.c h824) (perm_to (L := []) (F := F) [] rfl rfl rfl) rfl nofun (fun g825 _ => ?_)
  refine Dv.asg rfl trivial rfl ?_
  refine .fin ?_
  refine WP.seq ?_
  refine WP.seq ?_
  refine WP.reg [(0, false), (1, false)] (by kernel_rfl) ?_
  refine Dv.mv rfl trivial rfl ?_
  refine Dv.peq0 PTab.nn rfl trivial rfl rfl Try.underlying25 (mem_at 0 rfl) ?_
  refine .fin ?_
  refine WP.cond rfl nofun (fun _ => ?_)
  refine WP.skip ?_
  refine WP.seq ?_
  refine WP.reg [(0, false), (1, false), (2, true), (3, false), (4, false), (5, false), (6, false), (7, false)] (by kernel_rfl) ?_
  refine Dv.mv rfl trivial rfl ?_
  refine Dv.bld (css := [[eq (.int .i64 3)], [eq (.string (⟨#[64, 97, 58, 115]⟩ : ByteArray))], [eq (.int .i64 2)], [eq (.int .i64 10)]]) rfl trivial Try.underlying24 pl24 z24 rfl ⟨(cells_one (one_eq rfl)), ⟨(cells_one (one_eq rfl)), ⟨(cells_one (one_eq rfl)), ⟨(cells_one (one_eq rfl)), trivial⟩⟩⟩⟩ rfl rfl ?_
  obtain ⟨t827, h828, H⟩ := Gets.call H
  refine Dv.callx (pre := [PTab.O g825 t823]) (F := [] ++ F) (fun _ : Unit => [PTab.O g825 t827.2.2] ++ F) rfl trivial cal8 rfl (presence_Table_Put.c h828 (p0_ := g825)) (perm_to (L := [PTab.O g825 t823]) (F := F) [0] rfl rfl rfl) rfl nofun (fun _ _ => ?_)
  refine Dv.mv rfl trivial rfl ?_
  refine Dv.ext rfl trivial rfl rfl ?_
  refine Dv.ext rfl trivial rfl rfl ?_
  refine Dv.asg rfl trivial rfl ?_
  refine Dv.asg rfl trivial rfl ?_
  refine .fin ?_
  refine WP.seq ?_
  refine WP.reg [(0, false), (1, false), (2, false), (3, false), (4, false), (5, false), (6, false), (7, false), (8, false), (9, false), (10, false), (11, false), (12, false), (13, false), (14, false), (15, false), (16, false), (17, false), (18, false), (19, false), (20, false)] (by kernel_rfl) ?_
  refine Dv.mv rfl trivial rfl ?_
  refine Dv.mv rfl trivial rfl ?_
  cases c829 : t827.1
  · replace H := Gets.cf H c829
    refine Dv.skip rfl ⟨_, _, rfl, rfl, .inl rfl⟩ ?_
    refine Dv.skip rfl ⟨_, _, rfl, rfl, .inl rfl⟩ ?_
    refine Dv.pickF rfl trivial rfl rfl ?_
    refine Dv.mv rfl trivial rfl ?_
    refine Dv.skip rfl ⟨_, _, rfl, rfl, .inl rfl⟩ ?_
    refine Dv.skip rfl ⟨_, _, rfl, rfl, .inl rfl⟩ ?_
    refine Dv.skip rfl ⟨_, _, rfl, rfl, .inl rfl⟩ ?_
    refine Dv.pickF rfl trivial rfl rfl ?_
    refine Dv.mv rfl trivial rfl ?_
    refine Dv.skip rfl ⟨_, _, rfl, rfl, .inl rfl⟩ ?_
    refine Dv.skip rfl ⟨_, _, rfl, rfl, .inl rfl⟩ ?_
    refine Dv.skip rfl ⟨_, _, rfl, rfl, .inl rfl⟩ ?_
    refine Dv.pickF rfl trivial rfl rfl ?_
    refine Dv.mv rfl trivial rfl ?_
    refine Dv.skip rfl ⟨_, _, rfl, rfl, .inl rfl⟩ ?_
    refine Dv.skip rfl ⟨_, _, rfl, rfl, .inl rfl⟩ ?_
    refine Dv.skip rfl ⟨_, _, rfl, rfl, .inl rfl⟩ ?_
    refine Dv.pickF rfl trivial rfl rfl ?_
    refine Dv.asg rfl trivial rfl ?_
    refine .fin ?_
    obtain rfl := Gets.out H
    exact WP.retL (fun _ _ h => h) rfl () trivial (.cons (res_tmp rfl) .nil) rfl (st_sel (L := [PTab.O g825 t827.2.2]) (F := F) [0] 1 rfl rfl rfl)
  · replace H := Gets.ct H c829
    refine Dv.mv rfl ⟨_, _, rfl, rfl, rfl⟩ rfl ?_
    refine Dv.bin rfl ⟨_, _, rfl, rfl, rfl⟩ rfl rfl (fun _ => run_eq) ?_
    refine Dv.pickT rfl trivial rfl rfl ?_
    refine Dv.mv rfl trivial rfl ?_
    cases c830 : (t827.2.1 == 0)
    · replace H := Gets.cf H c830
      refine Dv.skip rfl ⟨_, _, rfl, rfl, .inl rfl⟩ ?_
      refine Dv.skip rfl ⟨_, _, rfl, rfl, .inl rfl⟩ ?_
      refine Dv.skip rfl ⟨_, _, rfl, rfl, .inl rfl⟩ ?_
      refine Dv.pickF rfl trivial rfl rfl ?_
      refine Dv.mv rfl trivial rfl ?_
      refine Dv.skip rfl ⟨_, _, rfl, rfl, .inl rfl⟩ ?_
      refine Dv.skip rfl ⟨_, _, rfl, rfl, .inl rfl⟩ ?_
      refine Dv.skip rfl ⟨_, _, rfl, rfl, .inl rfl⟩ ?_
      refine Dv.pickF rfl trivial rfl rfl ?_
      refine Dv.mv rfl trivial rfl ?_
      refine Dv.skip rfl ⟨_, _, rfl, rfl, .inl rfl⟩ ?_
      refine Dv.skip rfl ⟨_, _, rfl, rfl, .inl rfl⟩ ?_
      refine Dv.skip rfl ⟨_, _, rfl, rfl, .inl rfl⟩ ?_
      refine Dv.pickF rfl trivial rfl rfl ?_
      refine Dv.asg rfl trivial rfl ?_
      refine .fin ?_
      obtain rfl := Gets.out H
      exact WP.retL (fun _ _ h => h) rfl () trivial (.cons (res_tmp rfl) .nil) rfl (st_sel (L := [PTab.O g825 t827.2.2]) (F := F) [0] 1 rfl rfl rfl)
    · replace H := Gets.ct H c830
      refine Dv.mv rfl ⟨_, _, rfl, rfl, rfl⟩ rfl ?_
      refine Dv.gh (l' := fun (g831 : Nat × OV × OV) => [blk g831.1 48 [eq g831.2.1.1, eq g831.2.2.1], own Edu.K g831.2.1.1 t827.2.2.fl, HHeap.O g831.2.2 t827.2.2.fturns] ++ F) (gh_of (PTab.opn 0 rfl)) (fun g831 h832 => ?_)
      obtain ⟨t833, h834, H⟩ := Gets.call H
      refine Dv.calll (B := [blk g831.1 48 [eq g831.2.1.1, eq g831.2.2.1], own Edu.K g831.2.1.1 t827.2.2.fl]) (F := [HHeap.O g831.2.2 t827.2.2.fturns] ++ F) rfl ⟨_, _, rfl, rfl, rfl⟩ cal9 rfl (Tr.weak (presence_Table_State.c h834 (b0_ := g831.1) (v0_0 := g831.2.1) (v0_1 := g831.2.2)) (.cons (wk_ptr h832) (.cons wk_id (.cons wk_id .nil)))) (perm_to (L := [blk g831.1 48 [eq g831.2.1.1, eq g831.2.2.1], own Edu.K g831.2.1.1 t827.2.2.fl, HHeap.O g831.2.2 t827.2.2.fturns]) (F := F) [0, 1, 2] rfl rfl rfl) ?_
      refine Dv.bin rfl ⟨_, _, rfl, rfl, rfl⟩ rfl rfl (fun _ => run_eq) ?_
      refine Dv.pickT rfl trivial rfl rfl ?_
      refine Dv.mv rfl trivial rfl ?_
      cases c835 : (t833 == 2)
      · replace H := Gets.cf H c835
        refine Dv.skip rfl ⟨_, _, rfl, rfl, .inl rfl⟩ ?_
        refine Dv.skip rfl ⟨_, _, rfl, rfl, .inl rfl⟩ ?_
        refine Dv.skip rfl ⟨_, _, rfl, rfl, .inl rfl⟩ ?_
        refine Dv.pickF rfl trivial rfl rfl ?_
        refine Dv.mv rfl trivial rfl ?_
        refine Dv.skip rfl ⟨_, _, rfl, rfl, .inl rfl⟩ ?_
        refine Dv.skip rfl ⟨_, _, rfl, rfl, .inl rfl⟩ ?_
        refine Dv.skip rfl ⟨_, _, rfl, rfl, .inl rfl⟩ ?_
        refine Dv.pickF rfl trivial rfl rfl ?_
        refine Dv.asg rfl trivial rfl ?_
        refine .fin ?_
        refine WP.gh (l' := fun _ : Unit => [PTab.O g825 t827.2.2] ++ F) (gh_of (PTab.shut (p := g825) (m := t827.2.2) (r := [] ++ F) (g831.1, g831.2.1, g831.2.2) h832 (perm_to (L := [blk g831.1 48 [eq g831.2.1.1, eq g831.2.2.1], own Edu.K g831.2.1.1 t827.2.2.fl, HHeap.O g831.2.2 t827.2.2.fturns]) (F := F) [0, 1, 2] rfl rfl rfl))) (fun _ _ => ?_)
        obtain rfl := Gets.out H
        exact WP.retL (fun _ _ h => h) rfl () trivial (.cons (res_tmp rfl) .nil) rfl (st_sel (L := [PTab.O g825 t827.2.2]) (F := F) [0] 1 rfl rfl rfl)
      · replace H := Gets.ct H c835
        refine Dv.mv rfl ⟨_, _, rfl, rfl, rfl⟩ rfl ?_
        obtain ⟨t836, h837, H⟩ := Gets.call H
        refine Dv.calll (B := [blk g831.1 48 [eq g831.2.1.1, eq g831.2.2.1], own Edu.K g831.2.1.1 t827.2.2.fl]) (F := [HHeap.O g831.2.2 t827.2.2.fturns] ++ F) rfl ⟨_, _, rfl, rfl, rfl⟩ cal9 rfl (Tr.weak (presence_Table_State.c h837 (b0_ := g831.1) (v0_0 := g831.2.1) (v0_1 := g831.2.2)) (.cons (wk_ptr h832) (.cons wk_id (.cons wk_id .nil)))) (perm_to (L := [blk g831.1 48 [eq g831.2.1.1, eq g831.2.2.1], own Edu.K g831.2.1.1 t827.2.2.fl, HHeap.O g831.2.2 t827.2.2.fturns]) (F := F) [0, 1, 2] rfl rfl rfl) ?_
        refine Dv.bin rfl ⟨_, _, rfl, rfl, rfl⟩ rfl rfl (fun _ => run_eq) ?_
        refine Dv.pickT rfl trivial rfl rfl ?_
        refine Dv.mv rfl trivial rfl ?_
        cases c838 : (t836 == 1)
        · replace H := Gets.cf H c838
          refine Dv.skip rfl ⟨_, _, rfl, rfl, .inl rfl⟩ ?_
          refine Dv.skip rfl ⟨_, _, rfl, rfl, .inl rfl⟩ ?_
          refine Dv.skip rfl ⟨_, _, rfl, rfl, .inl rfl⟩ ?_
          refine Dv.pickF rfl trivial rfl rfl ?_
          refine Dv.asg rfl trivial rfl ?_
          refine .fin ?_
          refine WP.gh (l' := fun _ : Unit => [PTab.O g825 t827.2.2] ++ F) (gh_of (PTab.shut (p := g825) (m := t827.2.2) (r := [] ++ F) (g831.1, g831.2.1, g831.2.2) h832 (perm_to (L := [blk g831.1 48 [eq g831.2.1.1, eq g831.2.2.1], own Edu.K g831.2.1.1 t827.2.2.fl, HHeap.O g831.2.2 t827.2.2.fturns]) (F := F) [0, 1, 2] rfl rfl rfl))) (fun _ _ => ?_)
          obtain rfl := Gets.out H
          exact WP.retL (fun _ _ h => h) rfl () trivial (.cons (res_tmp rfl) .nil) rfl (st_sel (L := [PTab.O g825 t827.2.2]) (F := F) [0] 1 rfl rfl rfl)
        · replace H := Gets.ct H c838
          refine Dv.mv rfl ⟨_, _, rfl, rfl, rfl⟩ rfl ?_
          obtain ⟨t839, h840, H⟩ := Gets.call H
          refine Dv.calll (B := [blk g831.1 48 [eq g831.2.1.1, eq g831.2.2.1], own Edu.K g831.2.1.1 t827.2.2.fl]) (F := [HHeap.O g831.2.2 t827.2.2.fturns] ++ F) rfl ⟨_, _, rfl, rfl, rfl⟩ cal9 rfl (Tr.weak (presence_Table_State.c h840 (b0_ := g831.1) (v0_0 := g831.2.1) (v0_1 := g831.2.2)) (.cons (wk_ptr h832) (.cons wk_id (.cons wk_id .nil)))) (perm_to (L := [blk g831.1 48 [eq g831.2.1.1, eq g831.2.2.1], own Edu.K g831.2.1.1 t827.2.2.fl, HHeap.O g831.2.2 t827.2.2.fturns]) (F := F) [0, 1, 2] rfl rfl rfl) ?_
          refine Dv.bin rfl ⟨_, _, rfl, rfl, rfl⟩ rfl rfl (fun _ => run_eq) ?_
          refine Dv.pickT rfl trivial rfl rfl ?_
          refine Dv.asg rfl trivial rfl ?_
          refine .fin ?_
          refine WP.gh (l' := fun _ : Unit => [PTab.O g825 t827.2.2] ++ F) (gh_of (PTab.shut (p := g825) (m := t827.2.2) (r := [] ++ F) (g831.1, g831.2.1, g831.2.2) h832 (perm_to (L := [blk g831.1 48 [eq g831.2.1.1, eq g831.2.2.1], own Edu.K g831.2.1.1 t827.2.2.fl, HHeap.O g831.2.2 t827.2.2.fturns]) (F := F) [0, 1, 2] rfl rfl rfl))) (fun _ _ => ?_)
          obtain rfl := Gets.out H
          exact WP.retL (fun _ _ h => h) rfl () trivial (.cons (res_tmp rfl) .nil) rfl (st_sel (L := [PTab.O g825 t827.2.2]) (F := F) [0] 1 rfl rfl rfl)
theorem presence_Table_There.c {k : Nat} {a0 : PTab} {a1 : Int} {v0_0 v0_1 : OV} {b0_ : Nat} {r : (List ByteArray)} (h : presence_Table_There.f k a0 a1 = some r) : Tr Try.prog 14 [eq (.pointer (some ⟨b0_, 0, none⟩)), eq (.int .i64 a1)] [blk b0_ 48 [eq v0_0.1, eq v0_1.1], own Edu.K v0_0.1 a0.fl] (γ := OV) (fun _ => True) (fun g => eq g.1) (fun g => [blk b0_ 48 [eq v0_0.1, eq v0_1.1], own Edu.K v0_0.1 a0.fl, own strK g.1 r]) := by
  unfold presence_Table_There.f at h
  refine Tr.body Try.func14 (c := _) rfl Try.ntmps14 (Nat.le_of_ble_eq_true rfl) fun R0 F => ?_
  replace h := Gets.of h
  have H := h
  clear h
  refine WP.seq ?_
  refine WP.reg [(0, false)] (by kernel_rfl) ?_
  refine Dv.asg rfl trivial rfl ?_
  refine .fin ?_
  refine WP.seq ?_
  refine WP.reg [(0, false)] (by kernel_rfl) ?_
  refine Dv.asg rfl trivial rfl ?_
  refine .fin ?_
  refine WP.seqn H (fun q942 : (Int × Bool × (List ByteArray)) × OV => q942.1) (fun q942 : (Int × Bool × (List ByteArray)) × OV => [(0, eq (.pointer (some ⟨b0_, 0, none⟩))), (1, eq (.int .i64 a1)), (4, eq (.slice none 0 0)), (5, eq q942.2.1), (11, eq v0_0.1), (12, eq (.int .i64 (a0.fl.length : Int))), (13, eq (.int .i64 q942.1.1)), (14, eq (.bool q942.1.2.1))]) (fun q942 : (Int × Bool × (List ByteArray)) × OV => [blk b0_ 48 [eq v0_0.1, eq v0_1.1], own Edu.K v0_0.1 a0.fl, own strK q942.2.1 q942.1.2.2] ++ F) (fun q942 H => ?_) (fun H => ?_)
  · obtain ⟨p926, v927⟩ := q942
    refine WP.seq ?_
    refine WP.reg [(0, false), (1, false)] (by kernel_rfl) ?_
    refine Dv.mv rfl trivial rfl ?_
    refine Dv.asg rfl trivial rfl ?_
    refine .fin ?_
    obtain rfl := Gets.out H
    exact WP.retL (fun _ _ h => h) rfl v927 trivial (.cons (res_tmp rfl) .nil) rfl (st_sel (L := [blk b0_ 48 [eq v0_0.1, eq v0_1.1], own Edu.K v0_0.1 a0.fl, own strK v927.1 p926.2.2]) (F := F) [0, 1, 2] 0 rfl rfl rfl)
  · refine WP.seq ?_
    refine WP.reg [(0, false), (1, false), (2, false), (3, false), (4, false), (5, false)] (by kernel_rfl) ?_
    refine Dv.mv rfl trivial rfl ?_
    refine Dv.nilp rfl trivial rfl ?_
    refine Dv.fab rfl trivial rfl Try.underlying48 rfl Try.underlying22 c22 (by decide) ?_
    refine Dv.ldb rfl trivial rfl Try.underlying22 rfl (mem_at 0 rfl) rfl ?_
    refine Dv.lenw rfl trivial rfl (mem_at 1 rfl) Try.underlying22 ?_
    refine Dv.mv rfl trivial rfl ?_
    refine .fin ?_
    refine WP.block ?_
    refine WP.gh (gh_of (st_nil strK none)) (fun _ _ => ?_)
    refine WP.gh (l' := fun _ => [blk b0_ 48 [eq v0_0.1, eq v0_1.1], own Edu.K v0_0.1 a0.fl, own strK nilV.1 ([] : List ByteArray)] ++ F) (gh_of (st_selg (L := [own strK nilV.1 ([] : List ByteArray), blk b0_ 48 [eq v0_0.1, eq v0_1.1], own Edu.K v0_0.1 a0.fl]) (F := F) [1, 2, 0] 0 rfl rfl rfl)) (fun _ _ => ?_)
    refine WP.loopg (fun j_ (p941 : Int × (List ByteArray) × OV) => presence_Table_There.l0 k a0 a1 j_ p941.1 p941.2.1) (0, ([] : List ByteArray), nilV) H (fun p941 => [(0, eq (.pointer (some ⟨b0_, 0, none⟩))), (1, eq (.int .i64 a1)), (4, eq (.slice none 0 0)), (5, eq p941.2.2.1), (11, eq v0_0.1), (12, eq (.int .i64 (a0.fl.length : Int))), (13, eq (.int .i64 p941.1))]) (fun p941 => [blk b0_ 48 [eq v0_0.1, eq v0_1.1], own Edu.K v0_0.1 a0.fl, own strK p941.2.2.1 p941.2.1] ++ F) (weak_cons rfl (weak_cons rfl (weak_cons rfl (weak_cons rfl (weak_cons rfl (weak_cons rfl (weak_cons rfl weak_nil))))))) (List.Perm.refl _) ?_
    rintro j_ ⟨x928, x929, v930⟩ H
    rcases j_ with _ | j940
    · exact (Gets.no H).elim
    replace H : Gets (presence_Table_There.l0 k a0 a1 (j940 + 1) x928 x929) _ := H
    rw [presence_Table_There.l0] at H
    refine WP.seq ?_
    refine WP.reg [(0, false)] (by kernel_rfl) ?_
    refine Dv.bin rfl trivial rfl rfl (fun _ => run_lt) ?_
    refine .fin ?_
    refine WP.seq ?_
    refine WP.cond rfl (fun c931 => ?_) (fun c931 => ?_)
    · replace H := Gets.ct H c931
      refine WP.skip ?_
      refine WP.seq ?_
      refine WP.block ?_
      refine WP.seq ?_
      refine WP.reg [(0, false), (1, false), (2, true), (3, true)] (by kernel_rfl) ?_
      obtain ⟨g932, H⟩ := Gets.grd H
      have h933 : x928.toNat < a0.fl.length := idx_lt g932
      refine Dv.ixw rfl trivial rfl (mem_at 1 rfl) rfl Try.underlying22 Try.underlying24 c24 g932.1 g932.2 ?_
      refine Dv.ldws (j := x928.toNat) (f := 0) rfl trivial rfl (mem_at 1 rfl) h933 Try.underlying24 rfl c24 (Nat.le_of_ble_eq_true rfl) ?_
      refine Dv.alloc (z := .agg #[.int .i64 0, .string ⟨#[]⟩, .string ⟨#[]⟩, .string ⟨#[]⟩, .string ⟨#[]⟩, .bool false, .bool false, .int .i64 0, .int .i64 0, .int .i64 0, .int .i64 0]) (qs := [eq (.int .i64 0), eq (.string (⟨#[]⟩ : ByteArray)), eq (.string (⟨#[]⟩ : ByteArray)), eq (.string (⟨#[]⟩ : ByteArray)), eq (.string (⟨#[]⟩ : ByteArray)), eq (.bool false), eq (.bool false), eq (.int .i64 0), eq (.int .i64 0), eq (.int .i64 0), eq (.int .i64 0)]) rfl trivial z24 rfl nofun (fun b934 => ?_)
      refine Dv.stx ([blk b934 24 [eq (.int .i64 ((a0.fl.getD x928.toNat default).fKind)), eq (.string ((a0.fl.getD x928.toNat default).fRoom)), eq (.string ((a0.fl.getD x928.toNat default).fUser)), eq (.string ((a0.fl.getD x928.toNat default).fEvent)), eq (.string ((a0.fl.getD x928.toNat default).fThread)), eq (.bool ((a0.fl.getD x928.toNat default).fPrivate)), eq (.bool ((a0.fl.getD x928.toNat default).fOn)), eq (.int .i64 ((a0.fl.getD x928.toNat default).fSpan)), eq (.int .i64 ((a0.fl.getD x928.toNat default).fState)), eq (.int .i64 ((a0.fl.getD x928.toNat default).fTick)), eq (.int .i64 ((a0.fl.getD x928.toNat default).fStamp))], blk b0_ 48 [eq v0_0.1, eq v0_1.1], own Edu.K v0_0.1 a0.fl, own strK v930.1 x929] ++ F) rfl trivial rfl rfl (cells_agg (Edu.K.one _)) Try.underlying24 c24 rfl (j := 0) rfl (Nat.le_of_ble_eq_true rfl) rfl nofun ?_
      refine .fin ?_
      refine WP.seq ?_
      refine WP.reg [(0, false), (1, false), (2, false), (3, false)] (by kernel_rfl) ?_
      refine Dv.ldbs rfl trivial rfl Try.underlying24 rfl c24 (mem_at 0 rfl) (Nat.le_of_ble_eq_true rfl) ?_
      refine Dv.mv rfl trivial rfl ?_
      obtain ⟨t935, h936, H⟩ := Gets.call H
      refine Dv.call rfl trivial cal26 rfl (presence_state.c h936) ?_
      refine Dv.bin rfl trivial rfl rfl (fun _ => run_ne) ?_
      refine .fin ?_
      refine WP.cond rfl (fun c937 => ?_) (fun c937 => ?_)
      · replace H := Gets.ct H c937
        refine WP.reg [(0, false), (1, false), (2, false), (3, false), (4, true), (5, false)] (by kernel_rfl) ?_
        refine Dv.mv rfl trivial rfl ?_
        refine Dv.fab rfl trivial rfl Try.underlying24 rfl Try.underlying9 c9 (by decide) ?_
        refine Dv.ldb rfl trivial rfl Try.underlying9 rfl (mem_at 0 rfl) rfl ?_
        refine Dv.lit strK ([(a0.fl.getD x928.toNat default).fUser] : List ByteArray) (css := [[eq (.string ((a0.fl.getD x928.toNat default).fUser))]]) rfl trivial Try.underlying42 Try.underlying9 c9 z9 rfl (by decide) (by decide) rfl ⟨(cells_one (one_eq rfl)), trivial⟩ rfl rfl rfl ?_
        obtain ⟨g938, H⟩ := Gets.grd H
        refine Dv.appx (jj := 3) (ys := ([(a0.fl.getD x928.toNat default).fUser] : List ByteArray)) (fun v939 : OV => [blk b934 24 [eq (.int .i64 ((a0.fl.getD x928.toNat default).fKind)), eq (.string ((a0.fl.getD x928.toNat default).fRoom)), eq (.string ((a0.fl.getD x928.toNat default).fUser)), eq (.string ((a0.fl.getD x928.toNat default).fEvent)), eq (.string ((a0.fl.getD x928.toNat default).fThread)), eq (.bool ((a0.fl.getD x928.toNat default).fPrivate)), eq (.bool ((a0.fl.getD x928.toNat default).fOn)), eq (.int .i64 ((a0.fl.getD x928.toNat default).fSpan)), eq (.int .i64 ((a0.fl.getD x928.toNat default).fState)), eq (.int .i64 ((a0.fl.getD x928.toNat default).fTick)), eq (.int .i64 ((a0.fl.getD x928.toNat default).fStamp))], blk b0_ 48 [eq v0_0.1, eq v0_1.1], own Edu.K v0_0.1 a0.fl, own strK v939.1 (x929 ++ ([(a0.fl.getD x928.toNat default).fUser] : List ByteArray))] ++ F) rfl trivial rfl rfl rfl src_sl Try.underlying42 (.inr ⟨_, Try.underlying42⟩) inf9 rfl (by decide) g938 rfl nofun (fun v939 => ?_)
        refine Dv.asg rfl trivial rfl ?_
        refine .fin ?_
        refine WP.reg [(0, false), (1, false)] (by kernel_rfl) ?_
        refine Dv.bin rfl trivial rfl rfl (fun _ => run_add) ?_
        refine Dv.mv rfl trivial rfl ?_
        refine .fin ?_
        refine Dn.gh (l' := fun _ : Unit => [blk b0_ 48 [eq v0_0.1, eq v0_1.1], own Edu.K v0_0.1 a0.fl, own strK v939.1 (x929 ++ ([(a0.fl.getD x928.toNat default).fUser] : List ByteArray))] ++ F) (gh_of (st_selg (L := [blk b934 24 [eq (.int .i64 ((a0.fl.getD x928.toNat default).fKind)), eq (.string ((a0.fl.getD x928.toNat default).fRoom)), eq (.string ((a0.fl.getD x928.toNat default).fUser)), eq (.string ((a0.fl.getD x928.toNat default).fEvent)), eq (.string ((a0.fl.getD x928.toNat default).fThread)), eq (.bool ((a0.fl.getD x928.toNat default).fPrivate)), eq (.bool ((a0.fl.getD x928.toNat default).fOn)), eq (.int .i64 ((a0.fl.getD x928.toNat default).fSpan)), eq (.int .i64 ((a0.fl.getD x928.toNat default).fState)), eq (.int .i64 ((a0.fl.getD x928.toNat default).fTick)), eq (.int .i64 ((a0.fl.getD x928.toNat default).fStamp))], blk b0_ 48 [eq v0_0.1, eq v0_1.1], own Edu.K v0_0.1 a0.fl, own strK v939.1 (x929 ++ ([(a0.fl.getD x928.toNat default).fUser] : List ByteArray))]) (F := F) [0, 1, 2, 3] 1 rfl rfl rfl)) (fun _ _ => ?_)
        exact Back.mk j940 (w64 (x928 + 1), x929 ++ ([(a0.fl.getD x928.toNat default).fUser] : List ByteArray), v939) (Nat.lt_succ_self _) H (weak_cons rfl (weak_cons rfl (weak_cons rfl (weak_cons rfl (weak_cons rfl (weak_cons rfl (weak_cons rfl weak_nil))))))) (List.Perm.refl _)
      · replace H := Gets.cf H c937
        refine WP.skip ?_
        refine WP.reg [(0, false), (1, false)] (by kernel_rfl) ?_
        refine Dv.bin rfl trivial rfl rfl (fun _ => run_add) ?_
        refine Dv.mv rfl trivial rfl ?_
        refine .fin ?_
        refine Dn.gh (l' := fun _ : Unit => [blk b0_ 48 [eq v0_0.1, eq v0_1.1], own Edu.K v0_0.1 a0.fl, own strK v930.1 x929] ++ F) (gh_of (st_selg (L := [blk b934 24 [eq (.int .i64 ((a0.fl.getD x928.toNat default).fKind)), eq (.string ((a0.fl.getD x928.toNat default).fRoom)), eq (.string ((a0.fl.getD x928.toNat default).fUser)), eq (.string ((a0.fl.getD x928.toNat default).fEvent)), eq (.string ((a0.fl.getD x928.toNat default).fThread)), eq (.bool ((a0.fl.getD x928.toNat default).fPrivate)), eq (.bool ((a0.fl.getD x928.toNat default).fOn)), eq (.int .i64 ((a0.fl.getD x928.toNat default).fSpan)), eq (.int .i64 ((a0.fl.getD x928.toNat default).fState)), eq (.int .i64 ((a0.fl.getD x928.toNat default).fTick)), eq (.int .i64 ((a0.fl.getD x928.toNat default).fStamp))], blk b0_ 48 [eq v0_0.1, eq v0_1.1], own Edu.K v0_0.1 a0.fl, own strK v930.1 x929]) (F := F) [0, 1, 2, 3] 1 rfl rfl rfl)) (fun _ _ => ?_)
        exact Back.mk j940 (w64 (x928 + 1), x929, v930) (Nat.lt_succ_self _) H (weak_cons rfl (weak_cons rfl (weak_cons rfl (weak_cons rfl (weak_cons rfl (weak_cons rfl (weak_cons rfl weak_nil))))))) (List.Perm.refl _)
    · replace H := Gets.cf H c931
      refine WP.exit ?_
      replace H := Gets.out H
      exact Jn.mk ((x928, decide (x928 < (a0.fl.length : Int)), x929), v930) H (weak_cons rfl (weak_cons rfl (weak_cons rfl (weak_cons rfl (weak_cons rfl (weak_cons rfl (weak_cons rfl (weak_cons rfl weak_nil)))))))) (List.Perm.refl _)
end Go.Proofs.Ytegmafgodoikiaa
