/- The walks. -/
import Derived.Test.YtegmafgodoikiaaGreatZWalks2
import Derived.Test.YtegmafgodoikiaaGreatConQ
import Derived.Eval
set_option linter.all false
set_option maxRecDepth 10000
set_option maxHeartbeats 20000000
namespace Go.Proofs.YtegmafgodoikiaaGreat
open Go Go.Sp
theorem concourseref03_Bytes.c {k : Nat} {a0 : Edu} {r : (List Int)} (h : concourseref03_Bytes.f k a0 = some r) : Tr Tryz.prog 47 [agg (Edu.enc a0)] [] (γ := OV) (fun _ => True) (fun g => eq g.1) (fun g => [own (intK .u8) g.1 r]) := by
  unfold concourseref03_Bytes.f at h
  refine Tr.body Tryz.func47 (c := _) rfl Tryz.ntmps47 (Nat.le_of_ble_eq_true rfl) fun R0 F => ?_
  replace h := Gets.of h
  have H := h
  clear h
  refine WP.seq ?_
  refine WP.reg [(0, true), (1, false)] (by kernel_rfl) ?_
  refine Dv.box rfl trivial rfl (cells_agg (Edu.K.one _)) nofun (fun b859 => ?_)
  refine as0 rfl rfl ?_
  refine .fin ?_
  refine WP.seq ?_
  refine WP.reg [(0, false), (1, false), (2, true), (3, false)] (by kernel_rfl) ?_
  refine Dv.fab rfl trivial rfl Tryz.underlying32 rfl Tryz.underlying3 c3 (by decide) ?_
  refine Dv.ldb rfl trivial rfl Tryz.underlying3 rfl (mem_at 0 rfl) rfl ?_
  obtain ⟨t860, h861, H⟩ := Gets.call H
  refine Dv.callx (pre := []) (F := [blk b859 32 [eq (.int .i64 a0.fKind), eq (.string a0.fRoom), eq (.string a0.fUser), eq (.string a0.fEvent), eq (.string a0.fThread), eq (.bool a0.fPrivate), eq (.bool a0.fOn), eq (.int .i64 a0.fSpan), eq (.int .i64 a0.fState), eq (.int .i64 a0.fTick), eq (.int .i64 a0.fStamp)]] ++ F) (fun g862 : OV => [own (intK .u8) g862.1 t860, blk b859 32 [eq (.int .i64 a0.fKind), eq (.string a0.fRoom), eq (.string a0.fUser), eq (.string a0.fEvent), eq (.string a0.fThread), eq (.bool a0.fPrivate), eq (.bool a0.fOn), eq (.int .i64 a0.fSpan), eq (.int .i64 a0.fState), eq (.int .i64 a0.fTick), eq (.int .i64 a0.fStamp)]] ++ F) rfl trivial cal67 rfl (concourseref02_Number.c _ h861) (perm_ton 1 [0] rfl rfl rfl) rfl nofun (fun g862 _ => ?_)
  refine as0 rfl rfl ?_
  refine .fin ?_
  refine WP.seq ?_
  refine WP.reg [(0, false), (1, false), (2, false), (3, true), (4, true), (5, false)] (by kernel_rfl) ?_
  refine mv0 rfl rfl ?_
  refine Dv.fab rfl trivial rfl Tryz.underlying32 rfl Tryz.underlying9 c9 (by decide) ?_
  refine Dv.ldb rfl trivial rfl Tryz.underlying9 rfl (mem_at 1 rfl) rfl ?_
  obtain ⟨t863, h864, H⟩ := Gets.call H
  refine Dv.callx (pre := []) (F := [own (intK .u8) g862.1 t860, blk b859 32 [eq (.int .i64 a0.fKind), eq (.string a0.fRoom), eq (.string a0.fUser), eq (.string a0.fEvent), eq (.string a0.fThread), eq (.bool a0.fPrivate), eq (.bool a0.fOn), eq (.int .i64 a0.fSpan), eq (.int .i64 a0.fState), eq (.int .i64 a0.fTick), eq (.int .i64 a0.fStamp)]] ++ F) (fun g865 : OV => [own (intK .u8) g865.1 t863, own (intK .u8) g862.1 t860, blk b859 32 [eq (.int .i64 a0.fKind), eq (.string a0.fRoom), eq (.string a0.fUser), eq (.string a0.fEvent), eq (.string a0.fThread), eq (.bool a0.fPrivate), eq (.bool a0.fOn), eq (.int .i64 a0.fSpan), eq (.int .i64 a0.fState), eq (.int .i64 a0.fTick), eq (.int .i64 a0.fStamp)]] ++ F) rfl trivial cal68 rfl (concourseref02_Text.c h864) (perm_ton 2 [0, 1] rfl rfl rfl) rfl nofun (fun g865 _ => ?_)
  obtain ⟨g866, H⟩ := Gets.grd H
  refine Dv.appx (jj := 1) (ys := t863) (fun v867 : OV => [own (intK .u8) g865.1 t863, own (intK .u8) v867.1 (t860 ++ t863), blk b859 32 [eq (.int .i64 a0.fKind), eq (.string a0.fRoom), eq (.string a0.fUser), eq (.string a0.fEvent), eq (.string a0.fThread), eq (.bool a0.fPrivate), eq (.bool a0.fOn), eq (.int .i64 a0.fSpan), eq (.int .i64 a0.fState), eq (.int .i64 a0.fTick), eq (.int .i64 a0.fStamp)]] ++ F) rfl trivial rfl rfl rfl (src_own (mem_at 0 rfl)) Tryz.underlying82 (.inr ⟨_, Tryz.underlying82⟩) inf5 rfl (by decide) g866 rfl nofun (fun v867 => ?_)
  refine as0 rfl rfl ?_
  refine .fin ?_
  refine WP.seq ?_
  refine WP.reg [(0, false), (1, false), (2, false), (3, true), (4, true), (5, false)] (by kernel_rfl) ?_
  refine mv0 rfl rfl ?_
  refine Dv.fab rfl trivial rfl Tryz.underlying32 rfl Tryz.underlying9 c9 (by decide) ?_
  refine Dv.ldb rfl trivial rfl Tryz.underlying9 rfl (mem_at 2 rfl) rfl ?_
  obtain ⟨t868, h869, H⟩ := Gets.call H
  refine Dv.callx (pre := []) (F := [own (intK .u8) g865.1 t863, own (intK .u8) v867.1 (t860 ++ t863), blk b859 32 [eq (.int .i64 a0.fKind), eq (.string a0.fRoom), eq (.string a0.fUser), eq (.string a0.fEvent), eq (.string a0.fThread), eq (.bool a0.fPrivate), eq (.bool a0.fOn), eq (.int .i64 a0.fSpan), eq (.int .i64 a0.fState), eq (.int .i64 a0.fTick), eq (.int .i64 a0.fStamp)]] ++ F) (fun g870 : OV => [own (intK .u8) g870.1 t868, own (intK .u8) g865.1 t863, own (intK .u8) v867.1 (t860 ++ t863), blk b859 32 [eq (.int .i64 a0.fKind), eq (.string a0.fRoom), eq (.string a0.fUser), eq (.string a0.fEvent), eq (.string a0.fThread), eq (.bool a0.fPrivate), eq (.bool a0.fOn), eq (.int .i64 a0.fSpan), eq (.int .i64 a0.fState), eq (.int .i64 a0.fTick), eq (.int .i64 a0.fStamp)]] ++ F) rfl trivial cal68 rfl (concourseref02_Text.c h869) (perm_ton 3 [0, 1, 2] rfl rfl rfl) rfl nofun (fun g870 _ => ?_)
  obtain ⟨g871, H⟩ := Gets.grd H
  refine Dv.appx (jj := 2) (ys := t868) (fun v872 : OV => [own (intK .u8) g870.1 t868, own (intK .u8) g865.1 t863, own (intK .u8) v872.1 ((t860 ++ t863) ++ t868), blk b859 32 [eq (.int .i64 a0.fKind), eq (.string a0.fRoom), eq (.string a0.fUser), eq (.string a0.fEvent), eq (.string a0.fThread), eq (.bool a0.fPrivate), eq (.bool a0.fOn), eq (.int .i64 a0.fSpan), eq (.int .i64 a0.fState), eq (.int .i64 a0.fTick), eq (.int .i64 a0.fStamp)]] ++ F) rfl trivial rfl rfl rfl (src_own (mem_at 0 rfl)) Tryz.underlying82 (.inr ⟨_, Tryz.underlying82⟩) inf5 rfl (by decide) g871 rfl nofun (fun v872 => ?_)
  refine as0 rfl rfl ?_
  refine .fin ?_
  refine WP.seq ?_
  refine WP.reg [(0, false), (1, false), (2, false), (3, true), (4, true), (5, false)] (by kernel_rfl) ?_
  refine mv0 rfl rfl ?_
  refine Dv.fab rfl trivial rfl Tryz.underlying32 rfl Tryz.underlying9 c9 (by decide) ?_
  refine Dv.ldb rfl trivial rfl Tryz.underlying9 rfl (mem_at 3 rfl) rfl ?_
  obtain ⟨t873, h874, H⟩ := Gets.call H
  refine Dv.callx (pre := []) (F := [own (intK .u8) g870.1 t868, own (intK .u8) g865.1 t863, own (intK .u8) v872.1 ((t860 ++ t863) ++ t868), blk b859 32 [eq (.int .i64 a0.fKind), eq (.string a0.fRoom), eq (.string a0.fUser), eq (.string a0.fEvent), eq (.string a0.fThread), eq (.bool a0.fPrivate), eq (.bool a0.fOn), eq (.int .i64 a0.fSpan), eq (.int .i64 a0.fState), eq (.int .i64 a0.fTick), eq (.int .i64 a0.fStamp)]] ++ F) (fun g875 : OV => [own (intK .u8) g875.1 t873, own (intK .u8) g870.1 t868, own (intK .u8) g865.1 t863, own (intK .u8) v872.1 ((t860 ++ t863) ++ t868), blk b859 32 [eq (.int .i64 a0.fKind), eq (.string a0.fRoom), eq (.string a0.fUser), eq (.string a0.fEvent), eq (.string a0.fThread), eq (.bool a0.fPrivate), eq (.bool a0.fOn), eq (.int .i64 a0.fSpan), eq (.int .i64 a0.fState), eq (.int .i64 a0.fTick), eq (.int .i64 a0.fStamp)]] ++ F) rfl trivial cal68 rfl (concourseref02_Text.c h874) (perm_ton 4 [0, 1, 2, 3] rfl rfl rfl) rfl nofun (fun g875 _ => ?_)
  obtain ⟨g876, H⟩ := Gets.grd H
  refine Dv.appx (jj := 3) (ys := t873) (fun v877 : OV => [own (intK .u8) g875.1 t873, own (intK .u8) g870.1 t868, own (intK .u8) g865.1 t863, own (intK .u8) v877.1 (((t860 ++ t863) ++ t868) ++ t873), blk b859 32 [eq (.int .i64 a0.fKind), eq (.string a0.fRoom), eq (.string a0.fUser), eq (.string a0.fEvent), eq (.string a0.fThread), eq (.bool a0.fPrivate), eq (.bool a0.fOn), eq (.int .i64 a0.fSpan), eq (.int .i64 a0.fState), eq (.int .i64 a0.fTick), eq (.int .i64 a0.fStamp)]] ++ F) rfl trivial rfl rfl rfl (src_own (mem_at 0 rfl)) Tryz.underlying82 (.inr ⟨_, Tryz.underlying82⟩) inf5 rfl (by decide) g876 rfl nofun (fun v877 => ?_)
  refine as0 rfl rfl ?_
  refine .fin ?_
  refine WP.seq ?_
  refine WP.reg [(0, false), (1, false), (2, false), (3, true), (4, true), (5, false)] (by kernel_rfl) ?_
  refine mv0 rfl rfl ?_
  refine Dv.fab rfl trivial rfl Tryz.underlying32 rfl Tryz.underlying9 c9 (by decide) ?_
  refine Dv.ldb rfl trivial rfl Tryz.underlying9 rfl (mem_at 4 rfl) rfl ?_
  obtain ⟨t878, h879, H⟩ := Gets.call H
  refine Dv.callx (pre := []) (F := [own (intK .u8) g875.1 t873, own (intK .u8) g870.1 t868, own (intK .u8) g865.1 t863, own (intK .u8) v877.1 (((t860 ++ t863) ++ t868) ++ t873), blk b859 32 [eq (.int .i64 a0.fKind), eq (.string a0.fRoom), eq (.string a0.fUser), eq (.string a0.fEvent), eq (.string a0.fThread), eq (.bool a0.fPrivate), eq (.bool a0.fOn), eq (.int .i64 a0.fSpan), eq (.int .i64 a0.fState), eq (.int .i64 a0.fTick), eq (.int .i64 a0.fStamp)]] ++ F) (fun g880 : OV => [own (intK .u8) g880.1 t878, own (intK .u8) g875.1 t873, own (intK .u8) g870.1 t868, own (intK .u8) g865.1 t863, own (intK .u8) v877.1 (((t860 ++ t863) ++ t868) ++ t873), blk b859 32 [eq (.int .i64 a0.fKind), eq (.string a0.fRoom), eq (.string a0.fUser), eq (.string a0.fEvent), eq (.string a0.fThread), eq (.bool a0.fPrivate), eq (.bool a0.fOn), eq (.int .i64 a0.fSpan), eq (.int .i64 a0.fState), eq (.int .i64 a0.fTick), eq (.int .i64 a0.fStamp)]] ++ F) rfl trivial cal68 rfl (concourseref02_Text.c h879) (perm_ton 5 [0, 1, 2, 3, 4] (by kernel_rfl) rfl rfl) rfl nofun (fun g880 _ => ?_)
  obtain ⟨g881, H⟩ := Gets.grd H
  refine Dv.appx (jj := 4) (ys := t878) (fun v882 : OV => [own (intK .u8) g880.1 t878, own (intK .u8) g875.1 t873, own (intK .u8) g870.1 t868, own (intK .u8) g865.1 t863, own (intK .u8) v882.1 ((((t860 ++ t863) ++ t868) ++ t873) ++ t878), blk b859 32 [eq (.int .i64 a0.fKind), eq (.string a0.fRoom), eq (.string a0.fUser), eq (.string a0.fEvent), eq (.string a0.fThread), eq (.bool a0.fPrivate), eq (.bool a0.fOn), eq (.int .i64 a0.fSpan), eq (.int .i64 a0.fState), eq (.int .i64 a0.fTick), eq (.int .i64 a0.fStamp)]] ++ F) rfl trivial rfl rfl rfl (src_own (mem_at 0 rfl)) Tryz.underlying82 (.inr ⟨_, Tryz.underlying82⟩) inf5 rfl (by decide) g881 rfl nofun (fun v882 => ?_)
  refine as0 rfl rfl ?_
  refine .fin ?_
  refine WP.seq ?_
  refine WP.reg [(0, false), (1, false), (2, false), (3, false), (4, true), (5, false)] (by kernel_rfl) ?_
  refine mv0 rfl rfl ?_
  refine Dv.fab rfl trivial rfl Tryz.underlying32 rfl Tryz.underlying4 c4 (by decide) ?_
  refine Dv.ldb rfl trivial rfl Tryz.underlying4 rfl (mem_at 5 rfl) rfl ?_
  obtain ⟨t883, h884, H⟩ := Gets.call H
  refine Dv.call rfl trivial cal69 rfl (concourseref02_Flag.c h884) ?_
  obtain ⟨g885, H⟩ := Gets.grd H
  refine Dv.appx (jj := 4) (ys := t883) (fun v886 : OV => [own (intK .u8) g880.1 t878, own (intK .u8) g875.1 t873, own (intK .u8) g870.1 t868, own (intK .u8) g865.1 t863, own (intK .u8) v886.1 (((((t860 ++ t863) ++ t868) ++ t873) ++ t878) ++ t883), blk b859 32 [eq (.int .i64 a0.fKind), eq (.string a0.fRoom), eq (.string a0.fUser), eq (.string a0.fEvent), eq (.string a0.fThread), eq (.bool a0.fPrivate), eq (.bool a0.fOn), eq (.int .i64 a0.fSpan), eq (.int .i64 a0.fState), eq (.int .i64 a0.fTick), eq (.int .i64 a0.fStamp)]] ++ F) rfl trivial rfl rfl rfl src_sl Tryz.underlying82 (.inr ⟨_, Tryz.underlying82⟩) inf5 rfl (by decide) g885 rfl nofun (fun v886 => ?_)
  refine as0 rfl rfl ?_
  refine .fin ?_
  refine WP.seq ?_
  refine WP.reg [(0, false), (1, false), (2, false), (3, true), (4, true), (5, false)] (by kernel_rfl) ?_
  refine mv0 rfl rfl ?_
  refine Dv.fab rfl trivial rfl Tryz.underlying32 rfl Tryz.underlying3 c3 (by decide) ?_
  refine Dv.ldb rfl trivial rfl Tryz.underlying3 rfl (mem_at 5 rfl) rfl ?_
  obtain ⟨t887, h888, H⟩ := Gets.call H
  refine Dv.callx (pre := []) (F := [own (intK .u8) g880.1 t878, own (intK .u8) g875.1 t873, own (intK .u8) g870.1 t868, own (intK .u8) g865.1 t863, own (intK .u8) v886.1 (((((t860 ++ t863) ++ t868) ++ t873) ++ t878) ++ t883), blk b859 32 [eq (.int .i64 a0.fKind), eq (.string a0.fRoom), eq (.string a0.fUser), eq (.string a0.fEvent), eq (.string a0.fThread), eq (.bool a0.fPrivate), eq (.bool a0.fOn), eq (.int .i64 a0.fSpan), eq (.int .i64 a0.fState), eq (.int .i64 a0.fTick), eq (.int .i64 a0.fStamp)]] ++ F) (fun g889 : OV => [own (intK .u8) g889.1 t887, own (intK .u8) g880.1 t878, own (intK .u8) g875.1 t873, own (intK .u8) g870.1 t868, own (intK .u8) g865.1 t863, own (intK .u8) v886.1 (((((t860 ++ t863) ++ t868) ++ t873) ++ t878) ++ t883), blk b859 32 [eq (.int .i64 a0.fKind), eq (.string a0.fRoom), eq (.string a0.fUser), eq (.string a0.fEvent), eq (.string a0.fThread), eq (.bool a0.fPrivate), eq (.bool a0.fOn), eq (.int .i64 a0.fSpan), eq (.int .i64 a0.fState), eq (.int .i64 a0.fTick), eq (.int .i64 a0.fStamp)]] ++ F) rfl trivial cal67 rfl (concourseref02_Number.c _ h888) (perm_ton 6 [0, 1, 2, 3, 4, 5] (by kernel_rfl) rfl rfl) rfl nofun (fun g889 _ => ?_)
  obtain ⟨g890, H⟩ := Gets.grd H
  refine Dv.appx (jj := 5) (ys := t887) (fun v891 : OV => [own (intK .u8) g889.1 t887, own (intK .u8) g880.1 t878, own (intK .u8) g875.1 t873, own (intK .u8) g870.1 t868, own (intK .u8) g865.1 t863, own (intK .u8) v891.1 ((((((t860 ++ t863) ++ t868) ++ t873) ++ t878) ++ t883) ++ t887), blk b859 32 [eq (.int .i64 a0.fKind), eq (.string a0.fRoom), eq (.string a0.fUser), eq (.string a0.fEvent), eq (.string a0.fThread), eq (.bool a0.fPrivate), eq (.bool a0.fOn), eq (.int .i64 a0.fSpan), eq (.int .i64 a0.fState), eq (.int .i64 a0.fTick), eq (.int .i64 a0.fStamp)]] ++ F) rfl trivial rfl rfl rfl (src_own (mem_at 0 rfl)) Tryz.underlying82 (.inr ⟨_, Tryz.underlying82⟩) inf5 rfl (by decide) g890 rfl nofun (fun v891 => ?_)
  refine as0 rfl rfl ?_
  refine .fin ?_
  refine WP.seq ?_
  refine WP.reg [(0, false), (1, false), (2, false), (3, true), (4, true), (5, false)] (by kernel_rfl) ?_
  refine mv0 rfl rfl ?_
  refine Dv.fab rfl trivial rfl Tryz.underlying32 rfl Tryz.underlying3 c3 (by decide) ?_
  refine Dv.ldb rfl trivial rfl Tryz.underlying3 rfl (mem_at 6 rfl) rfl ?_
  obtain ⟨t892, h893, H⟩ := Gets.call H
  refine Dv.callx (pre := []) (F := [own (intK .u8) g889.1 t887, own (intK .u8) g880.1 t878, own (intK .u8) g875.1 t873, own (intK .u8) g870.1 t868, own (intK .u8) g865.1 t863, own (intK .u8) v891.1 ((((((t860 ++ t863) ++ t868) ++ t873) ++ t878) ++ t883) ++ t887), blk b859 32 [eq (.int .i64 a0.fKind), eq (.string a0.fRoom), eq (.string a0.fUser), eq (.string a0.fEvent), eq (.string a0.fThread), eq (.bool a0.fPrivate), eq (.bool a0.fOn), eq (.int .i64 a0.fSpan), eq (.int .i64 a0.fState), eq (.int .i64 a0.fTick), eq (.int .i64 a0.fStamp)]] ++ F) (fun g894 : OV => [own (intK .u8) g894.1 t892, own (intK .u8) g889.1 t887, own (intK .u8) g880.1 t878, own (intK .u8) g875.1 t873, own (intK .u8) g870.1 t868, own (intK .u8) g865.1 t863, own (intK .u8) v891.1 ((((((t860 ++ t863) ++ t868) ++ t873) ++ t878) ++ t883) ++ t887), blk b859 32 [eq (.int .i64 a0.fKind), eq (.string a0.fRoom), eq (.string a0.fUser), eq (.string a0.fEvent), eq (.string a0.fThread), eq (.bool a0.fPrivate), eq (.bool a0.fOn), eq (.int .i64 a0.fSpan), eq (.int .i64 a0.fState), eq (.int .i64 a0.fTick), eq (.int .i64 a0.fStamp)]] ++ F) rfl trivial cal67 rfl (concourseref02_Number.c _ h893) (perm_ton 7 [0, 1, 2, 3, 4, 5, 6] (by kernel_rfl) rfl rfl) rfl nofun (fun g894 _ => ?_)
  obtain ⟨g895, H⟩ := Gets.grd H
  refine Dv.appx (jj := 6) (ys := t892) (fun v896 : OV => [own (intK .u8) g894.1 t892, own (intK .u8) g889.1 t887, own (intK .u8) g880.1 t878, own (intK .u8) g875.1 t873, own (intK .u8) g870.1 t868, own (intK .u8) g865.1 t863, own (intK .u8) v896.1 (((((((t860 ++ t863) ++ t868) ++ t873) ++ t878) ++ t883) ++ t887) ++ t892), blk b859 32 [eq (.int .i64 a0.fKind), eq (.string a0.fRoom), eq (.string a0.fUser), eq (.string a0.fEvent), eq (.string a0.fThread), eq (.bool a0.fPrivate), eq (.bool a0.fOn), eq (.int .i64 a0.fSpan), eq (.int .i64 a0.fState), eq (.int .i64 a0.fTick), eq (.int .i64 a0.fStamp)]] ++ F) rfl trivial rfl rfl rfl (src_own (mem_at 0 rfl)) Tryz.underlying82 (.inr ⟨_, Tryz.underlying82⟩) inf5 rfl (by decide) g895 rfl nofun (fun v896 => ?_)
  refine as0 rfl rfl ?_
  refine .fin ?_
  refine WP.seq ?_
  refine WP.reg [(0, false), (1, false), (2, false), (3, true), (4, true), (5, false)] (by kernel_rfl) ?_
  refine mv0 rfl rfl ?_
  refine Dv.fab rfl trivial rfl Tryz.underlying32 rfl Tryz.underlying3 c3 (by decide) ?_
  refine Dv.ldb rfl trivial rfl Tryz.underlying3 rfl (mem_at 7 rfl) rfl ?_
  obtain ⟨t897, h898, H⟩ := Gets.call H
  refine Dv.callx (pre := []) (F := [own (intK .u8) g894.1 t892, own (intK .u8) g889.1 t887, own (intK .u8) g880.1 t878, own (intK .u8) g875.1 t873, own (intK .u8) g870.1 t868, own (intK .u8) g865.1 t863, own (intK .u8) v896.1 (((((((t860 ++ t863) ++ t868) ++ t873) ++ t878) ++ t883) ++ t887) ++ t892), blk b859 32 [eq (.int .i64 a0.fKind), eq (.string a0.fRoom), eq (.string a0.fUser), eq (.string a0.fEvent), eq (.string a0.fThread), eq (.bool a0.fPrivate), eq (.bool a0.fOn), eq (.int .i64 a0.fSpan), eq (.int .i64 a0.fState), eq (.int .i64 a0.fTick), eq (.int .i64 a0.fStamp)]] ++ F) (fun g899 : OV => [own (intK .u8) g899.1 t897, own (intK .u8) g894.1 t892, own (intK .u8) g889.1 t887, own (intK .u8) g880.1 t878, own (intK .u8) g875.1 t873, own (intK .u8) g870.1 t868, own (intK .u8) g865.1 t863, own (intK .u8) v896.1 (((((((t860 ++ t863) ++ t868) ++ t873) ++ t878) ++ t883) ++ t887) ++ t892), blk b859 32 [eq (.int .i64 a0.fKind), eq (.string a0.fRoom), eq (.string a0.fUser), eq (.string a0.fEvent), eq (.string a0.fThread), eq (.bool a0.fPrivate), eq (.bool a0.fOn), eq (.int .i64 a0.fSpan), eq (.int .i64 a0.fState), eq (.int .i64 a0.fTick), eq (.int .i64 a0.fStamp)]] ++ F) rfl trivial cal67 rfl (concourseref02_Number.c _ h898) (perm_ton 8 [0, 1, 2, 3, 4, 5, 6, 7] (by kernel_rfl) rfl rfl) rfl nofun (fun g899 _ => ?_)
  obtain ⟨g900, H⟩ := Gets.grd H
  refine Dv.appx (jj := 7) (ys := t897) (fun v901 : OV => [own (intK .u8) g899.1 t897, own (intK .u8) g894.1 t892, own (intK .u8) g889.1 t887, own (intK .u8) g880.1 t878, own (intK .u8) g875.1 t873, own (intK .u8) g870.1 t868, own (intK .u8) g865.1 t863, own (intK .u8) v901.1 ((((((((t860 ++ t863) ++ t868) ++ t873) ++ t878) ++ t883) ++ t887) ++ t892) ++ t897), blk b859 32 [eq (.int .i64 a0.fKind), eq (.string a0.fRoom), eq (.string a0.fUser), eq (.string a0.fEvent), eq (.string a0.fThread), eq (.bool a0.fPrivate), eq (.bool a0.fOn), eq (.int .i64 a0.fSpan), eq (.int .i64 a0.fState), eq (.int .i64 a0.fTick), eq (.int .i64 a0.fStamp)]] ++ F) rfl trivial rfl rfl rfl (src_own (mem_at 0 rfl)) Tryz.underlying82 (.inr ⟨_, Tryz.underlying82⟩) inf5 rfl (by decide) g900 rfl nofun (fun v901 => ?_)
  refine as0 rfl rfl ?_
  refine .fin ?_
  refine WP.seq ?_
  refine WP.reg [(0, false), (1, false), (2, false), (3, true), (4, true), (5, false)] (by kernel_rfl) ?_
  refine mv0 rfl rfl ?_
  refine Dv.fab rfl trivial rfl Tryz.underlying32 rfl Tryz.underlying3 c3 (by decide) ?_
  refine Dv.ldb rfl trivial rfl Tryz.underlying3 rfl (mem_at 8 rfl) rfl ?_
  obtain ⟨t902, h903, H⟩ := Gets.call H
  refine Dv.callx (pre := []) (F := [own (intK .u8) g899.1 t897, own (intK .u8) g894.1 t892, own (intK .u8) g889.1 t887, own (intK .u8) g880.1 t878, own (intK .u8) g875.1 t873, own (intK .u8) g870.1 t868, own (intK .u8) g865.1 t863, own (intK .u8) v901.1 ((((((((t860 ++ t863) ++ t868) ++ t873) ++ t878) ++ t883) ++ t887) ++ t892) ++ t897), blk b859 32 [eq (.int .i64 a0.fKind), eq (.string a0.fRoom), eq (.string a0.fUser), eq (.string a0.fEvent), eq (.string a0.fThread), eq (.bool a0.fPrivate), eq (.bool a0.fOn), eq (.int .i64 a0.fSpan), eq (.int .i64 a0.fState), eq (.int .i64 a0.fTick), eq (.int .i64 a0.fStamp)]] ++ F) (fun g904 : OV => [own (intK .u8) g904.1 t902, own (intK .u8) g899.1 t897, own (intK .u8) g894.1 t892, own (intK .u8) g889.1 t887, own (intK .u8) g880.1 t878, own (intK .u8) g875.1 t873, own (intK .u8) g870.1 t868, own (intK .u8) g865.1 t863, own (intK .u8) v901.1 ((((((((t860 ++ t863) ++ t868) ++ t873) ++ t878) ++ t883) ++ t887) ++ t892) ++ t897), blk b859 32 [eq (.int .i64 a0.fKind), eq (.string a0.fRoom), eq (.string a0.fUser), eq (.string a0.fEvent), eq (.string a0.fThread), eq (.bool a0.fPrivate), eq (.bool a0.fOn), eq (.int .i64 a0.fSpan), eq (.int .i64 a0.fState), eq (.int .i64 a0.fTick), eq (.int .i64 a0.fStamp)]] ++ F) rfl trivial cal67 rfl (concourseref02_Number.c _ h903) (perm_ton 9 [0, 1, 2, 3, 4, 5, 6, 7, 8] (by kernel_rfl) rfl rfl) rfl nofun (fun g904 _ => ?_)
  obtain ⟨g905, H⟩ := Gets.grd H
  refine Dv.appx (jj := 8) (ys := t902) (fun v906 : OV => [own (intK .u8) g904.1 t902, own (intK .u8) g899.1 t897, own (intK .u8) g894.1 t892, own (intK .u8) g889.1 t887, own (intK .u8) g880.1 t878, own (intK .u8) g875.1 t873, own (intK .u8) g870.1 t868, own (intK .u8) g865.1 t863, own (intK .u8) v906.1 (((((((((t860 ++ t863) ++ t868) ++ t873) ++ t878) ++ t883) ++ t887) ++ t892) ++ t897) ++ t902), blk b859 32 [eq (.int .i64 a0.fKind), eq (.string a0.fRoom), eq (.string a0.fUser), eq (.string a0.fEvent), eq (.string a0.fThread), eq (.bool a0.fPrivate), eq (.bool a0.fOn), eq (.int .i64 a0.fSpan), eq (.int .i64 a0.fState), eq (.int .i64 a0.fTick), eq (.int .i64 a0.fStamp)]] ++ F) rfl trivial rfl rfl rfl (src_own (mem_at 0 rfl)) Tryz.underlying82 (.inr ⟨_, Tryz.underlying82⟩) inf5 rfl (by decide) g905 rfl nofun (fun v906 => ?_)
  refine as0 rfl rfl ?_
  refine .fin ?_
  obtain rfl := Gets.out H
  exact WP.retL (fun _ _ h => h) rfl v906 trivial (.cons (res_tmp rfl) .nil) rfl (st_seln 10 [0, 1, 2, 3, 4, 5, 6, 7, 9, 8] 9 (by kernel_rfl) rfl rfl)
theorem concourseref03_Compare.c {k : Nat} {a0 : Edu} {a1 : Edu} {r : Int} (h : concourseref03_Compare.f k a0 a1 = some r) : Pt Tryz.prog 29 [agg (Edu.enc a0), agg (Edu.enc a1)] (eq (.int .i64 r)) := by
  unfold concourseref03_Compare.f at h
  refine (Tr.body Tryz.func29 (c := _) rfl Tryz.ntmps29 (Nat.le_of_ble_eq_true rfl) fun R0 F => ?_).pt
  replace h := Gets.of h
  have H := h
  clear h
  refine WP.seq ?_
  refine WP.reg [(0, true), (1, true), (2, false)] (by kernel_rfl) ?_
  refine Dv.box rfl trivial rfl (cells_agg (Edu.K.one _)) nofun (fun b907 => ?_)
  refine Dv.box rfl trivial rfl (cells_agg (Edu.K.one _)) nofun (fun b908 => ?_)
  refine as0 rfl rfl ?_
  refine .fin ?_
  refine WP.seq ?_
  refine WP.seq ?_
  refine WP.reg [(0, false), (1, false), (2, false), (3, false), (4, false)] (by kernel_rfl) ?_
  refine Dv.fab rfl trivial rfl Tryz.underlying32 rfl Tryz.underlying3 c3 (by decide) ?_
  refine Dv.ldb rfl trivial rfl Tryz.underlying3 rfl (mem_at 1 rfl) rfl ?_
  refine Dv.fab rfl trivial rfl Tryz.underlying32 rfl Tryz.underlying3 c3 (by decide) ?_
  refine Dv.ldb rfl trivial rfl Tryz.underlying3 rfl (mem_at 0 rfl) rfl ?_
  refine Dv.bin rfl trivial rfl rfl (fun _ => run_lt) ?_
  refine .fin ?_
  refine WP.cond rfl (fun c909 => ?_) (fun c909 => ?_)
  · replace H := Gets.ct H c909
    refine WP.seq ?_
    refine WP.reg [(0, false)] (by kernel_rfl) ?_
    refine as0 rfl rfl ?_
    refine .fin ?_
    obtain rfl := Gets.out H
    exact WP.retL (fun _ _ h => h) rfl () trivial (.cons (res_tmp rfl) .nil) rfl (st_seln 2 [0, 1] 2 rfl rfl rfl)
  · replace H := Gets.cf H c909
    refine WP.skip ?_
    refine WP.seq ?_
    refine WP.seq ?_
    refine WP.reg [(0, false), (1, false), (2, false), (3, false), (4, false)] (by kernel_rfl) ?_
    refine Dv.fab rfl trivial rfl Tryz.underlying32 rfl Tryz.underlying3 c3 (by decide) ?_
    refine Dv.ldb rfl trivial rfl Tryz.underlying3 rfl (mem_at 1 rfl) rfl ?_
    refine Dv.fab rfl trivial rfl Tryz.underlying32 rfl Tryz.underlying3 c3 (by decide) ?_
    refine Dv.ldb rfl trivial rfl Tryz.underlying3 rfl (mem_at 0 rfl) rfl ?_
    refine Dv.bin rfl trivial rfl rfl (fun _ => run_gt) ?_
    refine .fin ?_
    refine WP.cond rfl (fun c910 => ?_) (fun c910 => ?_)
    · replace H := Gets.ct H c910
      refine WP.seq ?_
      refine WP.reg [(0, false)] (by kernel_rfl) ?_
      refine as0 rfl rfl ?_
      refine .fin ?_
      obtain rfl := Gets.out H
      exact WP.retL (fun _ _ h => h) rfl () trivial (.cons (res_tmp rfl) .nil) rfl (st_seln 2 [0, 1] 2 rfl rfl rfl)
    · replace H := Gets.cf H c910
      refine WP.skip ?_
      refine WP.seq ?_
      refine WP.reg [(0, false), (1, true), (2, false), (3, false)] (by kernel_rfl) ?_
      refine Dv.ldbs rfl trivial rfl Tryz.underlying32 rfl c32 (mem_at 1 rfl) (Nat.le_of_ble_eq_true rfl) ?_
      obtain ⟨t911, h912, H⟩ := Gets.call H
      refine Dv.callx (pre := []) (F := [blk b908 32 [eq (.int .i64 a1.fKind), eq (.string a1.fRoom), eq (.string a1.fUser), eq (.string a1.fEvent), eq (.string a1.fThread), eq (.bool a1.fPrivate), eq (.bool a1.fOn), eq (.int .i64 a1.fSpan), eq (.int .i64 a1.fState), eq (.int .i64 a1.fTick), eq (.int .i64 a1.fStamp)], blk b907 32 [eq (.int .i64 a0.fKind), eq (.string a0.fRoom), eq (.string a0.fUser), eq (.string a0.fEvent), eq (.string a0.fThread), eq (.bool a0.fPrivate), eq (.bool a0.fOn), eq (.int .i64 a0.fSpan), eq (.int .i64 a0.fState), eq (.int .i64 a0.fTick), eq (.int .i64 a0.fStamp)]] ++ F) (fun g913 : OV => [own (intK .u8) g913.1 t911, blk b908 32 [eq (.int .i64 a1.fKind), eq (.string a1.fRoom), eq (.string a1.fUser), eq (.string a1.fEvent), eq (.string a1.fThread), eq (.bool a1.fPrivate), eq (.bool a1.fOn), eq (.int .i64 a1.fSpan), eq (.int .i64 a1.fState), eq (.int .i64 a1.fTick), eq (.int .i64 a1.fStamp)], blk b907 32 [eq (.int .i64 a0.fKind), eq (.string a0.fRoom), eq (.string a0.fUser), eq (.string a0.fEvent), eq (.string a0.fThread), eq (.bool a0.fPrivate), eq (.bool a0.fOn), eq (.int .i64 a0.fSpan), eq (.int .i64 a0.fState), eq (.int .i64 a0.fTick), eq (.int .i64 a0.fStamp)]] ++ F) rfl trivial cal47 rfl (concourseref03_Bytes.c h912) (perm_ton 2 [0, 1] rfl rfl rfl) rfl nofun (fun g913 _ => ?_)
      refine Dv.gh (gh_frz (E' := [(0, agg (Edu.enc a0)), (1, agg (Edu.enc a1)), (2, eq (.pointer (some ⟨b907, 0, none⟩))), (3, eq (.pointer (some ⟨b908, 0, none⟩))), (4, eq (.int .i64 0)), (11, eq (.bool (decide (a0.fStamp < a1.fStamp)))), (16, eq (.bool (decide (a1.fStamp < a0.fStamp)))), (18, sl (intK .u8) t911)]) (l' := [blk b908 32 [eq (.int .i64 a1.fKind), eq (.string a1.fRoom), eq (.string a1.fUser), eq (.string a1.fEvent), eq (.string a1.fThread), eq (.bool a1.fPrivate), eq (.bool a1.fOn), eq (.int .i64 a1.fSpan), eq (.int .i64 a1.fState), eq (.int .i64 a1.fTick), eq (.int .i64 a1.fStamp)], blk b907 32 [eq (.int .i64 a0.fKind), eq (.string a0.fRoom), eq (.string a0.fUser), eq (.string a0.fEvent), eq (.string a0.fThread), eq (.bool a0.fPrivate), eq (.bool a0.fOn), eq (.int .i64 a0.fSpan), eq (.int .i64 a0.fState), eq (.int .i64 a0.fTick), eq (.int .i64 a0.fStamp)]] ++ F) 0 rfl (cve_cons rfl cv_id (cve_cons rfl cv_id (cve_cons rfl cv_id (cve_cons rfl cv_id (cve_cons rfl cv_id (cve_cons rfl cv_id (cve_cons rfl cv_id (cve_cons rfl cv_eq cve_nil)))))))) (all2_app (.cons cva_id (.cons cva_id .nil)) fun _ => cva_id)) (fun _ _ => ?_)
      refine Dv.cvbs rfl trivial rfl Tryz.underlying82 Tryz.underlying5 Tryz.underlying9 ?_
      refine as0 rfl rfl ?_
      refine .fin ?_
      refine WP.seq ?_
      refine WP.reg [(0, false), (1, true), (2, false), (3, false)] (by kernel_rfl) ?_
      refine Dv.ldbs rfl trivial rfl Tryz.underlying32 rfl c32 (mem_at 0 rfl) (Nat.le_of_ble_eq_true rfl) ?_
      obtain ⟨t914, h915, H⟩ := Gets.call H
      refine Dv.callx (pre := []) (F := [blk b908 32 [eq (.int .i64 a1.fKind), eq (.string a1.fRoom), eq (.string a1.fUser), eq (.string a1.fEvent), eq (.string a1.fThread), eq (.bool a1.fPrivate), eq (.bool a1.fOn), eq (.int .i64 a1.fSpan), eq (.int .i64 a1.fState), eq (.int .i64 a1.fTick), eq (.int .i64 a1.fStamp)], blk b907 32 [eq (.int .i64 a0.fKind), eq (.string a0.fRoom), eq (.string a0.fUser), eq (.string a0.fEvent), eq (.string a0.fThread), eq (.bool a0.fPrivate), eq (.bool a0.fOn), eq (.int .i64 a0.fSpan), eq (.int .i64 a0.fState), eq (.int .i64 a0.fTick), eq (.int .i64 a0.fStamp)]] ++ F) (fun g916 : OV => [own (intK .u8) g916.1 t914, blk b908 32 [eq (.int .i64 a1.fKind), eq (.string a1.fRoom), eq (.string a1.fUser), eq (.string a1.fEvent), eq (.string a1.fThread), eq (.bool a1.fPrivate), eq (.bool a1.fOn), eq (.int .i64 a1.fSpan), eq (.int .i64 a1.fState), eq (.int .i64 a1.fTick), eq (.int .i64 a1.fStamp)], blk b907 32 [eq (.int .i64 a0.fKind), eq (.string a0.fRoom), eq (.string a0.fUser), eq (.string a0.fEvent), eq (.string a0.fThread), eq (.bool a0.fPrivate), eq (.bool a0.fOn), eq (.int .i64 a0.fSpan), eq (.int .i64 a0.fState), eq (.int .i64 a0.fTick), eq (.int .i64 a0.fStamp)]] ++ F) rfl trivial cal47 rfl (concourseref03_Bytes.c h915) (perm_ton 2 [0, 1] rfl rfl rfl) rfl nofun (fun g916 _ => ?_)
      refine Dv.gh (gh_frz (E' := [(0, agg (Edu.enc a0)), (1, agg (Edu.enc a1)), (2, eq (.pointer (some ⟨b907, 0, none⟩))), (3, eq (.pointer (some ⟨b908, 0, none⟩))), (4, eq (.int .i64 0)), (5, eq (.string (ofNums t911))), (11, eq (.bool (decide (a0.fStamp < a1.fStamp)))), (16, eq (.bool (decide (a1.fStamp < a0.fStamp)))), (21, sl (intK .u8) t914)]) (l' := [blk b908 32 [eq (.int .i64 a1.fKind), eq (.string a1.fRoom), eq (.string a1.fUser), eq (.string a1.fEvent), eq (.string a1.fThread), eq (.bool a1.fPrivate), eq (.bool a1.fOn), eq (.int .i64 a1.fSpan), eq (.int .i64 a1.fState), eq (.int .i64 a1.fTick), eq (.int .i64 a1.fStamp)], blk b907 32 [eq (.int .i64 a0.fKind), eq (.string a0.fRoom), eq (.string a0.fUser), eq (.string a0.fEvent), eq (.string a0.fThread), eq (.bool a0.fPrivate), eq (.bool a0.fOn), eq (.int .i64 a0.fSpan), eq (.int .i64 a0.fState), eq (.int .i64 a0.fTick), eq (.int .i64 a0.fStamp)]] ++ F) 0 rfl (cve_cons rfl cv_id (cve_cons rfl cv_id (cve_cons rfl cv_id (cve_cons rfl cv_id (cve_cons rfl cv_id (cve_cons rfl cv_id (cve_cons rfl cv_id (cve_cons rfl cv_id (cve_cons rfl cv_eq cve_nil))))))))) (all2_app (.cons cva_id (.cons cva_id .nil)) fun _ => cva_id)) (fun _ _ => ?_)
      refine Dv.cvbs rfl trivial rfl Tryz.underlying82 Tryz.underlying5 Tryz.underlying9 ?_
      refine as0 rfl rfl ?_
      refine .fin ?_
      refine WP.seq ?_
      refine WP.seq ?_
      refine WP.reg [(0, false), (1, false), (2, false)] (by kernel_rfl) ?_
      refine mv0 rfl rfl ?_
      refine mv0 rfl rfl ?_
      refine Dv.bin rfl trivial rfl rfl (fun _ => run_slt) ?_
      refine .fin ?_
      refine WP.cond rfl (fun c917 => ?_) (fun c917 => ?_)
      · replace H := Gets.ct H c917
        refine WP.seq ?_
        refine WP.reg [(0, false)] (by kernel_rfl) ?_
        refine as0 rfl rfl ?_
        refine .fin ?_
        obtain rfl := Gets.out H
        exact WP.retL (fun _ _ h => h) rfl () trivial (.cons (res_tmp rfl) .nil) rfl (st_seln 2 [0, 1] 2 rfl rfl rfl)
      · replace H := Gets.cf H c917
        refine WP.skip ?_
        refine WP.seq ?_
        refine WP.seq ?_
        refine WP.reg [(0, false), (1, false), (2, false)] (by kernel_rfl) ?_
        refine mv0 rfl rfl ?_
        refine mv0 rfl rfl ?_
        refine Dv.bin rfl trivial rfl rfl (fun _ => run_sgt) ?_
        refine .fin ?_
        refine WP.cond rfl (fun c918 => ?_) (fun c918 => ?_)
        · replace H := Gets.ct H c918
          refine WP.seq ?_
          refine WP.reg [(0, false)] (by kernel_rfl) ?_
          refine as0 rfl rfl ?_
          refine .fin ?_
          obtain rfl := Gets.out H
          exact WP.retL (fun _ _ h => h) rfl () trivial (.cons (res_tmp rfl) .nil) rfl (st_seln 2 [0, 1] 2 rfl rfl rfl)
        · replace H := Gets.cf H c918
          refine WP.skip ?_
          refine WP.seq ?_
          refine WP.reg [(0, false)] (by kernel_rfl) ?_
          refine as0 rfl rfl ?_
          refine .fin ?_
          obtain rfl := Gets.out H
          exact WP.retL (fun _ _ h => h) rfl () trivial (.cons (res_tmp rfl) .nil) rfl (st_seln 2 [0, 1] 2 rfl rfl rfl)
theorem concourseref15_Put.c {k : Nat} {a0 : TRef} {a1 : Edu} {r : TRef × Bool × Int} (h : concourseref15_Put.f k a0 a1 = some r) : Pt Tryz.prog 8 [agg (TRef.enc a0), agg (Edu.enc a1)] (tup [agg (TRef.enc r.1), eq (.bool r.2.1), eq (.int .i64 r.2.2)]) := by
  unfold concourseref15_Put.f at h
  refine (Tr.body Tryz.func8 (c := _) rfl Tryz.ntmps8 (Nat.le_of_ble_eq_true rfl) fun R0 F => ?_).pt
  replace h := Gets.of h
  have H := h
  clear h
  refine WP.seq ?_
  refine WP.reg [(0, true), (1, true), (2, true), (3, false), (4, false)] (by kernel_rfl) ?_
  refine Dv.box rfl trivial rfl (cells_agg (TRef.K.one _)) nofun (fun b919 => ?_)
  refine Dv.box rfl trivial rfl (cells_agg (Edu.K.one _)) nofun (fun b920 => ?_)
  refine Dv.alloc (z := .agg #[.slice none 0 0, .slice none 0 0]) (qs := [eq (.slice none 0 0), eq (.slice none 0 0)]) rfl trivial z27 rfl nofun (fun b921 => ?_)
  refine as0 rfl rfl ?_
  refine as0 rfl rfl ?_
  refine .fin ?_
  refine WP.seq ?_
  refine WP.reg [(0, false), (1, false), (2, false)] (by kernel_rfl) ?_
  refine Dv.ldbs rfl trivial rfl Tryz.underlying32 rfl c32 (mem_at 1 rfl) (Nat.le_of_ble_eq_true rfl) ?_
  obtain ⟨t922, h923, H⟩ := Gets.call H
  refine Dv.call rfl trivial cal28 rfl (concourseref03_May.c h923) ?_
  refine as0 rfl rfl ?_
  refine .fin ?_
  refine WP.seq ?_
  refine WP.seq ?_
  refine WP.reg [(0, false), (1, false), (2, false), (3, false), (4, false), (5, false), (6, false)] (by kernel_rfl) ?_
  refine Dv.fab rfl trivial rfl Tryz.underlying32 rfl Tryz.underlying3 c3 (by decide) ?_
  refine Dv.ldb rfl trivial rfl Tryz.underlying3 rfl (mem_at 1 rfl) rfl ?_
  refine Dv.bin rfl trivial rfl rfl (fun _ => run_ne) ?_
  refine mv0 rfl rfl ?_
  cases c924 : (a1.fKind != 3)
  · replace H := Gets.cf H c924
    refine Dv.mv rfl ⟨_, _, rfl, rfl, rfl⟩ rfl ?_
    refine Dv.un rfl ⟨_, _, rfl, rfl, rfl⟩ rfl (fun _ => run_not _) ?_
    refine Dv.pickF rfl trivial rfl rfl ?_
    refine .fin ?_
    refine WP.cond rfl (fun c926 => ?_) (fun c926 => ?_)
    · replace H := Gets.ct H c926
      refine WP.seq ?_
      refine WP.reg [(0, false), (1, true), (2, false), (3, false)] (by kernel_rfl) ?_
      refine Dv.ldbs rfl trivial rfl Tryz.underlying27 rfl c27 (mem_at 2 rfl) (Nat.le_of_ble_eq_true rfl) ?_
      refine Dv.stx ([blk b921 27 [sl Edu.K a0.fL, sl (intK .i64) a0.fTold], blk b920 32 [eq (.int .i64 a1.fKind), eq (.string a1.fRoom), eq (.string a1.fUser), eq (.string a1.fEvent), eq (.string a1.fThread), eq (.bool a1.fPrivate), eq (.bool a1.fOn), eq (.int .i64 a1.fSpan), eq (.int .i64 a1.fState), eq (.int .i64 a1.fTick), eq (.int .i64 a1.fStamp)], blk b919 27 [sl Edu.K a0.fL, sl (intK .i64) a0.fTold]] ++ F) rfl trivial rfl rfl (cells_agg (TRef.K.one _)) Tryz.underlying27 c27 rfl (j := 0) rfl (Nat.le_of_ble_eq_true rfl) rfl nofun ?_
      refine as0 rfl rfl ?_
      refine as0 rfl rfl ?_
      refine .fin ?_
      obtain rfl := Gets.out H
      exact WP.retL (fun _ _ h => h) rfl () trivial (.cons (res_cells rfl Tryz.underlying27 rfl c27 (mem_at 0 rfl) rfl) (.cons (res_tmp rfl) (.cons (res_tmp rfl) .nil))) rfl (st_seln 3 [0, 1, 2] 3 rfl rfl rfl)
    · replace H := Gets.cf H c926
      refine WP.skip ?_
      refine WP.seq ?_
      refine WP.reg [(0, true)] (by kernel_rfl) ?_
      refine Dv.alloc (z := .agg #[.slice none 0 0, .slice none 0 0]) (qs := [eq (.slice none 0 0), eq (.slice none 0 0)]) rfl trivial z27 rfl nofun (fun b927 => ?_)
      refine .fin ?_
      refine WP.seq ?_
      refine WP.reg [(0, false)] (by kernel_rfl) ?_
      refine as0 rfl rfl ?_
      refine .fin ?_
      refine WP.seqr H (fun q967 : (Bool × Int × Bool × (List Edu) × (List Int)) × OV × OV => q967.1) (fun q967 : (Bool × Int × Bool × (List Edu) × (List Int)) × OV × OV => [(0, agg (TRef.enc a0)), (1, agg (Edu.enc a1)), (2, eq (.pointer (some ⟨b919, 0, none⟩))), (3, eq (.pointer (some ⟨b920, 0, none⟩))), (4, eq (.pointer (some ⟨b921, 0, none⟩))), (5, eq (.bool false)), (6, eq (.int .i64 0)), (7, eq (.bool t922)), (8, eq (.pointer (some ⟨b927, 0, none⟩))), (9, eq (.bool q967.1.1)), (10, eq (.int .i64 q967.1.2.1)), (20, eq (.bool (!t922))), (26, eq (.bool q967.1.2.2.1))]) (fun q967 : (Bool × Int × Bool × (List Edu) × (List Int)) × OV × OV => [blk b927 27 [eq q967.2.1.1, eq q967.2.2.1], blk b921 27 [eq (.slice none 0 0), eq (.slice none 0 0)], blk b920 32 [eq (.int .i64 a1.fKind), eq (.string a1.fRoom), eq (.string a1.fUser), eq (.string a1.fEvent), eq (.string a1.fThread), eq (.bool a1.fPrivate), eq (.bool a1.fOn), eq (.int .i64 a1.fSpan), eq (.int .i64 a1.fState), eq (.int .i64 a1.fTick), eq (.int .i64 a1.fStamp)], blk b919 27 [sl Edu.K a0.fL, sl (intK .i64) a0.fTold], own Edu.K q967.2.1.1 q967.1.2.2.2.1, own (intK .i64) q967.2.2.1 q967.1.2.2.2.2] ++ F) (fun q967 H => ?_) (fun H => ?_)
      · obtain ⟨p928, v929, v930⟩ := q967
        refine WP.seq ?_
        refine WP.seq ?_
        refine WP.reg [(0, false), (1, false)] (by kernel_rfl) ?_
        refine mv0 rfl rfl ?_
        refine Dv.un rfl trivial rfl (fun _ => run_not _) ?_
        refine .fin ?_
        refine WP.cond rfl (fun c931 => ?_) (fun c931 => ?_)
        · replace H := Gets.ct H c931
          refine WP.seq ?_
          refine WP.reg [(0, false), (1, false), (2, false), (3, false), (4, true), (5, false), (6, true)] (by kernel_rfl) ?_
          refine Dv.fab rfl trivial rfl Tryz.underlying27 rfl Tryz.underlying22 c22 (by decide) ?_
          refine Dv.ldb rfl trivial rfl Tryz.underlying22 rfl (mem_at 0 rfl) rfl ?_
          refine Dv.ldbs rfl trivial rfl Tryz.underlying32 rfl c32 (mem_at 2 rfl) (Nat.le_of_ble_eq_true rfl) ?_
          refine Dv.lit Edu.K ([a1] : List Edu) (css := [Edu.enc a1]) rfl trivial Tryz.underlying22 Tryz.underlying32 c32 z32 rfl (by decide) (by decide) rfl ⟨(cells_agg (Edu.K.one _)), trivial⟩ rfl rfl rfl ?_
          obtain ⟨g932, H⟩ := Gets.grd H
          refine Dv.appx (jj := 4) (ys := ([a1] : List Edu)) (fun v933 : OV => [blk b927 27 [eq v929.1, eq v930.1], blk b921 27 [eq (.slice none 0 0), eq (.slice none 0 0)], blk b920 32 [eq (.int .i64 a1.fKind), eq (.string a1.fRoom), eq (.string a1.fUser), eq (.string a1.fEvent), eq (.string a1.fThread), eq (.bool a1.fPrivate), eq (.bool a1.fOn), eq (.int .i64 a1.fSpan), eq (.int .i64 a1.fState), eq (.int .i64 a1.fTick), eq (.int .i64 a1.fStamp)], blk b919 27 [sl Edu.K a0.fL, sl (intK .i64) a0.fTold], own Edu.K v933.1 (p928.2.2.2.1 ++ ([a1] : List Edu)), own (intK .i64) v930.1 p928.2.2.2.2] ++ F) rfl trivial rfl rfl rfl src_sl Tryz.underlying22 (.inr ⟨_, Tryz.underlying22⟩) inf32 rfl (by decide) g932 rfl nofun (fun v933 => ?_)
          refine Dv.fab rfl trivial rfl Tryz.underlying27 rfl Tryz.underlying22 c22 (by decide) ?_
          refine Dv.stx ([blk b927 27 [eq v933.1, eq v930.1], blk b921 27 [eq (.slice none 0 0), eq (.slice none 0 0)], blk b920 32 [eq (.int .i64 a1.fKind), eq (.string a1.fRoom), eq (.string a1.fUser), eq (.string a1.fEvent), eq (.string a1.fThread), eq (.bool a1.fPrivate), eq (.bool a1.fOn), eq (.int .i64 a1.fSpan), eq (.int .i64 a1.fState), eq (.int .i64 a1.fTick), eq (.int .i64 a1.fStamp)], blk b919 27 [sl Edu.K a0.fL, sl (intK .i64) a0.fTold], own Edu.K v933.1 (p928.2.2.2.1 ++ ([a1] : List Edu)), own (intK .i64) v930.1 p928.2.2.2.2] ++ F) rfl trivial rfl rfl (cells_one one_ov) Tryz.underlying22 c22 rfl (j := 0) rfl (Nat.le_of_ble_eq_true rfl) rfl nofun ?_
          refine .fin ?_
          refine WP.reg [(0, false), (1, false), (2, false), (3, true), (4, false), (5, true)] (by kernel_rfl) ?_
          refine Dv.fab rfl trivial rfl Tryz.underlying27 rfl Tryz.underlying25 c25 (by decide) ?_
          refine Dv.ldb rfl trivial rfl Tryz.underlying25 rfl (mem_at 0 rfl) rfl ?_
          refine Dv.lit (intK .i64) ([(-1)] : List Int) (css := [[eq (.int .i64 (-1))]]) rfl trivial Tryz.underlying25 Tryz.underlying3 c3 z3 rfl (by decide) (by decide) rfl ⟨(cells_one (one_eq rfl)), trivial⟩ rfl rfl rfl ?_
          obtain ⟨g934, H⟩ := Gets.grd H
          refine Dv.appx (jj := 5) (ys := ([(-1)] : List Int)) (fun v935 : OV => [blk b927 27 [eq v933.1, eq v930.1], blk b921 27 [eq (.slice none 0 0), eq (.slice none 0 0)], blk b920 32 [eq (.int .i64 a1.fKind), eq (.string a1.fRoom), eq (.string a1.fUser), eq (.string a1.fEvent), eq (.string a1.fThread), eq (.bool a1.fPrivate), eq (.bool a1.fOn), eq (.int .i64 a1.fSpan), eq (.int .i64 a1.fState), eq (.int .i64 a1.fTick), eq (.int .i64 a1.fStamp)], blk b919 27 [sl Edu.K a0.fL, sl (intK .i64) a0.fTold], own Edu.K v933.1 (p928.2.2.2.1 ++ ([a1] : List Edu)), own (intK .i64) v935.1 (p928.2.2.2.2 ++ ([(-1)] : List Int))] ++ F) rfl trivial rfl rfl rfl src_sl Tryz.underlying25 (.inr ⟨_, Tryz.underlying25⟩) inf3 rfl (by decide) g934 rfl nofun (fun v935 => ?_)
          refine Dv.fab rfl trivial rfl Tryz.underlying27 rfl Tryz.underlying25 c25 (by decide) ?_
          refine Dv.stx ([blk b927 27 [eq v933.1, eq v935.1], blk b921 27 [eq (.slice none 0 0), eq (.slice none 0 0)], blk b920 32 [eq (.int .i64 a1.fKind), eq (.string a1.fRoom), eq (.string a1.fUser), eq (.string a1.fEvent), eq (.string a1.fThread), eq (.bool a1.fPrivate), eq (.bool a1.fOn), eq (.int .i64 a1.fSpan), eq (.int .i64 a1.fState), eq (.int .i64 a1.fTick), eq (.int .i64 a1.fStamp)], blk b919 27 [sl Edu.K a0.fL, sl (intK .i64) a0.fTold], own Edu.K v933.1 (p928.2.2.2.1 ++ ([a1] : List Edu)), own (intK .i64) v935.1 (p928.2.2.2.2 ++ ([(-1)] : List Int))] ++ F) rfl trivial rfl rfl (cells_one one_ov) Tryz.underlying25 c25 rfl (j := 0) rfl (Nat.le_of_ble_eq_true rfl) rfl nofun ?_
          refine .fin ?_
          refine WP.seq ?_
          refine WP.reg [(0, false), (1, true), (2, false), (3, false)] (by kernel_rfl) ?_
          refine Dv.ldbs rfl trivial rfl Tryz.underlying27 rfl c27 (mem_at 0 rfl) (Nat.le_of_ble_eq_true rfl) ?_
          refine Dv.stx ([blk b927 27 [eq v933.1, eq v935.1], blk b921 27 [eq v933.1, eq v935.1], blk b920 32 [eq (.int .i64 a1.fKind), eq (.string a1.fRoom), eq (.string a1.fUser), eq (.string a1.fEvent), eq (.string a1.fThread), eq (.bool a1.fPrivate), eq (.bool a1.fOn), eq (.int .i64 a1.fSpan), eq (.int .i64 a1.fState), eq (.int .i64 a1.fTick), eq (.int .i64 a1.fStamp)], blk b919 27 [sl Edu.K a0.fL, sl (intK .i64) a0.fTold], own Edu.K v933.1 (p928.2.2.2.1 ++ ([a1] : List Edu)), own (intK .i64) v935.1 (p928.2.2.2.2 ++ ([(-1)] : List Int))] ++ F) rfl trivial rfl rfl (cells_agg (ones_cons one_ov (ones_cons one_ov ones_nil))) Tryz.underlying27 c27 rfl (j := 1) rfl (Nat.le_of_ble_eq_true rfl) rfl nofun ?_
          refine as0 rfl rfl ?_
          refine as0 rfl rfl ?_
          refine .fin ?_
          refine WP.gh (gh_frz (E' := [(4, eq (.pointer (some ⟨b921, 0, none⟩))), (5, eq (.bool true)), (6, eq (.int .i64 0))]) (l' := [blk b927 27 [sl Edu.K (p928.2.2.2.1 ++ ([a1] : List Edu)), eq v935.1], blk b921 27 [sl Edu.K (p928.2.2.2.1 ++ ([a1] : List Edu)), eq v935.1], blk b920 32 [eq (.int .i64 a1.fKind), eq (.string a1.fRoom), eq (.string a1.fUser), eq (.string a1.fEvent), eq (.string a1.fThread), eq (.bool a1.fPrivate), eq (.bool a1.fOn), eq (.int .i64 a1.fSpan), eq (.int .i64 a1.fState), eq (.int .i64 a1.fTick), eq (.int .i64 a1.fStamp)], blk b919 27 [sl Edu.K a0.fL, sl (intK .i64) a0.fTold], own (intK .i64) v935.1 (p928.2.2.2.2 ++ ([(-1)] : List Int))] ++ F) 4 rfl (cve_cons rfl cv_id (cve_cons rfl cv_id (cve_cons rfl cv_id cve_nil))) (all2_app (.cons (cva_blk (.cons cv_eq (.cons cv_id .nil))) (.cons (cva_blk (.cons cv_eq (.cons cv_id .nil))) (.cons cva_id (.cons cva_id (.cons cva_id .nil))))) fun _ => cva_id)) (fun _ _ => ?_)
          refine WP.gh (gh_frz (E' := [(4, eq (.pointer (some ⟨b921, 0, none⟩))), (5, eq (.bool true)), (6, eq (.int .i64 0))]) (l' := [blk b927 27 [sl Edu.K (p928.2.2.2.1 ++ ([a1] : List Edu)), sl (intK .i64) (p928.2.2.2.2 ++ ([(-1)] : List Int))], blk b921 27 [sl Edu.K (p928.2.2.2.1 ++ ([a1] : List Edu)), sl (intK .i64) (p928.2.2.2.2 ++ ([(-1)] : List Int))], blk b920 32 [eq (.int .i64 a1.fKind), eq (.string a1.fRoom), eq (.string a1.fUser), eq (.string a1.fEvent), eq (.string a1.fThread), eq (.bool a1.fPrivate), eq (.bool a1.fOn), eq (.int .i64 a1.fSpan), eq (.int .i64 a1.fState), eq (.int .i64 a1.fTick), eq (.int .i64 a1.fStamp)], blk b919 27 [sl Edu.K a0.fL, sl (intK .i64) a0.fTold]] ++ F) 4 rfl (cve_cons rfl cv_id (cve_cons rfl cv_id (cve_cons rfl cv_id cve_nil))) (all2_app (.cons (cva_blk (.cons cv_id (.cons cv_eq .nil))) (.cons (cva_blk (.cons cv_id (.cons cv_eq .nil))) (.cons cva_id (.cons cva_id .nil)))) fun _ => cva_id)) (fun _ _ => ?_)
          obtain rfl := Gets.out H
          exact WP.retL (fun _ _ h => h) rfl () trivial (.cons (res_cells rfl Tryz.underlying27 rfl c27 (mem_at 1 rfl) rfl) (.cons (res_tmp rfl) (.cons (res_tmp rfl) .nil))) rfl (st_seln 4 [0, 1, 2, 3] 4 rfl rfl rfl)
        · replace H := Gets.cf H c931
          refine WP.skip ?_
          refine WP.seq ?_
          refine WP.reg [(0, false), (1, true), (2, false), (3, false)] (by kernel_rfl) ?_
          refine Dv.ldbs rfl trivial rfl Tryz.underlying27 rfl c27 (mem_at 0 rfl) (Nat.le_of_ble_eq_true rfl) ?_
          refine Dv.stx ([blk b927 27 [eq v929.1, eq v930.1], blk b921 27 [eq v929.1, eq v930.1], blk b920 32 [eq (.int .i64 a1.fKind), eq (.string a1.fRoom), eq (.string a1.fUser), eq (.string a1.fEvent), eq (.string a1.fThread), eq (.bool a1.fPrivate), eq (.bool a1.fOn), eq (.int .i64 a1.fSpan), eq (.int .i64 a1.fState), eq (.int .i64 a1.fTick), eq (.int .i64 a1.fStamp)], blk b919 27 [sl Edu.K a0.fL, sl (intK .i64) a0.fTold], own Edu.K v929.1 p928.2.2.2.1, own (intK .i64) v930.1 p928.2.2.2.2] ++ F) rfl trivial rfl rfl (cells_agg (ones_cons one_ov (ones_cons one_ov ones_nil))) Tryz.underlying27 c27 rfl (j := 1) rfl (Nat.le_of_ble_eq_true rfl) rfl nofun ?_
          refine as0 rfl rfl ?_
          refine as0 rfl rfl ?_
          refine .fin ?_
          refine WP.gh (gh_frz (E' := [(4, eq (.pointer (some ⟨b921, 0, none⟩))), (5, eq (.bool true)), (6, eq (.int .i64 0))]) (l' := [blk b927 27 [sl Edu.K p928.2.2.2.1, eq v930.1], blk b921 27 [sl Edu.K p928.2.2.2.1, eq v930.1], blk b920 32 [eq (.int .i64 a1.fKind), eq (.string a1.fRoom), eq (.string a1.fUser), eq (.string a1.fEvent), eq (.string a1.fThread), eq (.bool a1.fPrivate), eq (.bool a1.fOn), eq (.int .i64 a1.fSpan), eq (.int .i64 a1.fState), eq (.int .i64 a1.fTick), eq (.int .i64 a1.fStamp)], blk b919 27 [sl Edu.K a0.fL, sl (intK .i64) a0.fTold], own (intK .i64) v930.1 p928.2.2.2.2] ++ F) 4 rfl (cve_cons rfl cv_id (cve_cons rfl cv_id (cve_cons rfl cv_id cve_nil))) (all2_app (.cons (cva_blk (.cons cv_eq (.cons cv_id .nil))) (.cons (cva_blk (.cons cv_eq (.cons cv_id .nil))) (.cons cva_id (.cons cva_id (.cons cva_id .nil))))) fun _ => cva_id)) (fun _ _ => ?_)
          refine WP.gh (gh_frz (E' := [(4, eq (.pointer (some ⟨b921, 0, none⟩))), (5, eq (.bool true)), (6, eq (.int .i64 0))]) (l' := [blk b927 27 [sl Edu.K p928.2.2.2.1, sl (intK .i64) p928.2.2.2.2], blk b921 27 [sl Edu.K p928.2.2.2.1, sl (intK .i64) p928.2.2.2.2], blk b920 32 [eq (.int .i64 a1.fKind), eq (.string a1.fRoom), eq (.string a1.fUser), eq (.string a1.fEvent), eq (.string a1.fThread), eq (.bool a1.fPrivate), eq (.bool a1.fOn), eq (.int .i64 a1.fSpan), eq (.int .i64 a1.fState), eq (.int .i64 a1.fTick), eq (.int .i64 a1.fStamp)], blk b919 27 [sl Edu.K a0.fL, sl (intK .i64) a0.fTold]] ++ F) 4 rfl (cve_cons rfl cv_id (cve_cons rfl cv_id (cve_cons rfl cv_id cve_nil))) (all2_app (.cons (cva_blk (.cons cv_id (.cons cv_eq .nil))) (.cons (cva_blk (.cons cv_id (.cons cv_eq .nil))) (.cons cva_id (.cons cva_id .nil)))) fun _ => cva_id)) (fun _ _ => ?_)
          obtain rfl := Gets.out H
          exact WP.retL (fun _ _ h => h) rfl () trivial (.cons (res_cells rfl Tryz.underlying27 rfl c27 (mem_at 1 rfl) rfl) (.cons (res_tmp rfl) (.cons (res_tmp rfl) .nil))) rfl (st_seln 4 [0, 1, 2, 3] 4 rfl rfl rfl)
      · refine WP.seq ?_
        refine WP.reg [(0, false)] (by kernel_rfl) ?_
        refine as0 rfl rfl ?_
        refine .fin ?_
        refine WP.block ?_
        refine WP.gh (gh_of (st_nil Edu.K none)) (fun _ _ => ?_)
        refine WP.gh (gh_of (st_nil (intK .i64) none)) (fun _ _ => ?_)
        refine WP.gh (l' := fun _ => [blk b927 27 [eq nilV.1, eq nilV1.1], blk b921 27 [eq (.slice none 0 0), eq (.slice none 0 0)], blk b920 32 [eq (.int .i64 a1.fKind), eq (.string a1.fRoom), eq (.string a1.fUser), eq (.string a1.fEvent), eq (.string a1.fThread), eq (.bool a1.fPrivate), eq (.bool a1.fOn), eq (.int .i64 a1.fSpan), eq (.int .i64 a1.fState), eq (.int .i64 a1.fTick), eq (.int .i64 a1.fStamp)], blk b919 27 [sl Edu.K a0.fL, sl (intK .i64) a0.fTold], own Edu.K nilV.1 ([] : List Edu), own (intK .i64) nilV1.1 ([] : List Int)] ++ F) (gh_of (st_selgn 6 [2, 3, 4, 5, 1, 0] 0 (by kernel_rfl) rfl rfl)) (fun _ _ => ?_)
        refine WP.loopg (fun j_ (p966 : Bool × Int × (List Edu) × (List Int) × OV × OV) => concourseref15_Put.l0 k a0 a1 j_ p966.1 p966.2.1 p966.2.2.1 p966.2.2.2.1) (false, 0, ([] : List Edu), ([] : List Int), nilV, nilV1) H (fun p966 => [(0, agg (TRef.enc a0)), (1, agg (Edu.enc a1)), (2, eq (.pointer (some ⟨b919, 0, none⟩))), (3, eq (.pointer (some ⟨b920, 0, none⟩))), (4, eq (.pointer (some ⟨b921, 0, none⟩))), (5, eq (.bool false)), (6, eq (.int .i64 0)), (7, eq (.bool t922)), (8, eq (.pointer (some ⟨b927, 0, none⟩))), (9, eq (.bool p966.1)), (10, eq (.int .i64 p966.2.1)), (20, eq (.bool (!t922)))]) (fun p966 => [blk b927 27 [eq p966.2.2.2.2.1.1, eq p966.2.2.2.2.2.1], blk b921 27 [eq (.slice none 0 0), eq (.slice none 0 0)], blk b920 32 [eq (.int .i64 a1.fKind), eq (.string a1.fRoom), eq (.string a1.fUser), eq (.string a1.fEvent), eq (.string a1.fThread), eq (.bool a1.fPrivate), eq (.bool a1.fOn), eq (.int .i64 a1.fSpan), eq (.int .i64 a1.fState), eq (.int .i64 a1.fTick), eq (.int .i64 a1.fStamp)], blk b919 27 [sl Edu.K a0.fL, sl (intK .i64) a0.fTold], own Edu.K p966.2.2.2.2.1.1 p966.2.2.1, own (intK .i64) p966.2.2.2.2.2.1 p966.2.2.2.1] ++ F) (weak_cons rfl (weak_cons rfl (weak_cons rfl (weak_cons rfl (weak_cons rfl (weak_cons rfl (weak_cons rfl (weak_cons rfl (weak_cons rfl (weak_cons rfl (weak_cons rfl (weak_cons rfl weak_nil)))))))))))) (List.Perm.refl _) ?_
        rintro j_ ⟨x936, x937, x938, x939, v940, v941⟩ H
        rcases j_ with _ | j965
        · exact (Gets.no H).elim
        replace H : Gets (concourseref15_Put.l0 k a0 a1 (j965 + 1) x936 x937 x938 x939) _ := H
        rw [concourseref15_Put.l0] at H
        refine WP.seq ?_
        refine WP.seq ?_
        refine WP.reg [(0, false), (1, false), (2, false), (3, false), (4, false)] (by kernel_rfl) ?_
        refine mv0 rfl rfl ?_
        refine Dv.fab rfl trivial rfl Tryz.underlying27 rfl Tryz.underlying22 c22 (by decide) ?_
        refine Dv.ldb rfl trivial rfl Tryz.underlying22 rfl (mem_at 3 rfl) rfl ?_
        refine Dv.lenl rfl trivial rfl Tryz.underlying22 ?_
        refine Dv.bin rfl trivial rfl rfl (fun _ => run_lt) ?_
        refine .fin ?_
        refine WP.cond rfl (fun c942 => ?_) (fun c942 => ?_)
        · replace H := Gets.ct H c942
          refine WP.skip ?_
          refine WP.seq ?_
          refine WP.block ?_
          refine WP.seq ?_
          refine WP.reg [(0, false), (1, false), (2, false), (3, false), (4, false), (5, true), (6, true)] (by kernel_rfl) ?_
          refine Dv.fab rfl trivial rfl Tryz.underlying27 rfl Tryz.underlying22 c22 (by decide) ?_
          refine Dv.ldb rfl trivial rfl Tryz.underlying22 rfl (mem_at 3 rfl) rfl ?_
          refine mv0 rfl rfl ?_
          obtain ⟨g943, H⟩ := Gets.grd H
          refine Dv.ixr rfl trivial rfl rfl Tryz.underlying22 Tryz.underlying32 c32 g943.1 g943.2 ?_
          refine Dv.ldrs rfl trivial rfl Tryz.underlying32 rfl c32 (Nat.le_of_ble_eq_true rfl) ?_
          refine Dv.alloc (z := .agg #[.int .i64 0, .string ⟨#[]⟩, .string ⟨#[]⟩, .string ⟨#[]⟩, .string ⟨#[]⟩, .bool false, .bool false, .int .i64 0, .int .i64 0, .int .i64 0, .int .i64 0]) (qs := [eq (.int .i64 0), eq (.string (⟨#[]⟩ : ByteArray)), eq (.string (⟨#[]⟩ : ByteArray)), eq (.string (⟨#[]⟩ : ByteArray)), eq (.string (⟨#[]⟩ : ByteArray)), eq (.bool false), eq (.bool false), eq (.int .i64 0), eq (.int .i64 0), eq (.int .i64 0), eq (.int .i64 0)]) rfl trivial z32 rfl nofun (fun b944 => ?_)
          refine Dv.stx ([blk b944 32 [eq (.int .i64 ((Edu.K.at a0.fL x937).fKind)), eq (.string ((Edu.K.at a0.fL x937).fRoom)), eq (.string ((Edu.K.at a0.fL x937).fUser)), eq (.string ((Edu.K.at a0.fL x937).fEvent)), eq (.string ((Edu.K.at a0.fL x937).fThread)), eq (.bool ((Edu.K.at a0.fL x937).fPrivate)), eq (.bool ((Edu.K.at a0.fL x937).fOn)), eq (.int .i64 ((Edu.K.at a0.fL x937).fSpan)), eq (.int .i64 ((Edu.K.at a0.fL x937).fState)), eq (.int .i64 ((Edu.K.at a0.fL x937).fTick)), eq (.int .i64 ((Edu.K.at a0.fL x937).fStamp))], blk b927 27 [eq v940.1, eq v941.1], blk b921 27 [eq (.slice none 0 0), eq (.slice none 0 0)], blk b920 32 [eq (.int .i64 a1.fKind), eq (.string a1.fRoom), eq (.string a1.fUser), eq (.string a1.fEvent), eq (.string a1.fThread), eq (.bool a1.fPrivate), eq (.bool a1.fOn), eq (.int .i64 a1.fSpan), eq (.int .i64 a1.fState), eq (.int .i64 a1.fTick), eq (.int .i64 a1.fStamp)], blk b919 27 [sl Edu.K a0.fL, sl (intK .i64) a0.fTold], own Edu.K v940.1 x938, own (intK .i64) v941.1 x939] ++ F) rfl trivial rfl rfl (cells_agg (Edu.K.one _)) Tryz.underlying32 c32 rfl (j := 0) rfl (Nat.le_of_ble_eq_true rfl) rfl nofun ?_
          refine .fin ?_
          refine WP.seq ?_
          refine WP.seq ?_
          refine WP.reg [(0, false), (1, false), (2, false), (3, false), (4, false)] (by kernel_rfl) ?_
          refine Dv.fab rfl trivial rfl Tryz.underlying32 rfl Tryz.underlying9 c9 (by decide) ?_
          refine Dv.ldb rfl trivial rfl Tryz.underlying9 rfl (mem_at 0 rfl) rfl ?_
          refine Dv.fab rfl trivial rfl Tryz.underlying32 rfl Tryz.underlying9 c9 (by decide) ?_
          refine Dv.ldb rfl trivial rfl Tryz.underlying9 rfl (mem_at 3 rfl) rfl ?_
          refine Dv.bin rfl trivial rfl rfl (fun _ => run_seq) ?_
          refine .fin ?_
          refine WP.cond rfl (fun c945 => ?_) (fun c945 => ?_)
          · replace H := Gets.ct H c945
            refine WP.seq ?_
            refine WP.seq ?_
            refine WP.reg [(0, false), (1, false), (2, false), (3, false)] (by kernel_rfl) ?_
            refine Dv.ldbs rfl trivial rfl Tryz.underlying32 rfl c32 (mem_at 3 rfl) (Nat.le_of_ble_eq_true rfl) ?_
            refine Dv.ldbs rfl trivial rfl Tryz.underlying32 rfl c32 (mem_at 0 rfl) (Nat.le_of_ble_eq_true rfl) ?_
            obtain ⟨t946, h947, H⟩ := Gets.call H
            refine Dv.call rfl trivial cal29 rfl (concourseref03_Compare.c h947) ?_
            refine Dv.bin rfl trivial rfl rfl (fun _ => run_le) ?_
            refine .fin ?_
            refine WP.cond rfl (fun c948 => ?_) (fun c948 => ?_)
            · replace H := Gets.ct H c948
              refine WP.seq ?_
              refine WP.reg [(0, false), (1, true), (2, false), (3, false)] (by kernel_rfl) ?_
              refine Dv.ldbs rfl trivial rfl Tryz.underlying27 rfl c27 (mem_at 4 rfl) (Nat.le_of_ble_eq_true rfl) ?_
              refine Dv.stx ([blk b944 32 [eq (.int .i64 ((Edu.K.at a0.fL x937).fKind)), eq (.string ((Edu.K.at a0.fL x937).fRoom)), eq (.string ((Edu.K.at a0.fL x937).fUser)), eq (.string ((Edu.K.at a0.fL x937).fEvent)), eq (.string ((Edu.K.at a0.fL x937).fThread)), eq (.bool ((Edu.K.at a0.fL x937).fPrivate)), eq (.bool ((Edu.K.at a0.fL x937).fOn)), eq (.int .i64 ((Edu.K.at a0.fL x937).fSpan)), eq (.int .i64 ((Edu.K.at a0.fL x937).fState)), eq (.int .i64 ((Edu.K.at a0.fL x937).fTick)), eq (.int .i64 ((Edu.K.at a0.fL x937).fStamp))], blk b927 27 [eq v940.1, eq v941.1], blk b921 27 [sl Edu.K a0.fL, sl (intK .i64) a0.fTold], blk b920 32 [eq (.int .i64 a1.fKind), eq (.string a1.fRoom), eq (.string a1.fUser), eq (.string a1.fEvent), eq (.string a1.fThread), eq (.bool a1.fPrivate), eq (.bool a1.fOn), eq (.int .i64 a1.fSpan), eq (.int .i64 a1.fState), eq (.int .i64 a1.fTick), eq (.int .i64 a1.fStamp)], blk b919 27 [sl Edu.K a0.fL, sl (intK .i64) a0.fTold], own Edu.K v940.1 x938, own (intK .i64) v941.1 x939] ++ F) rfl trivial rfl rfl (cells_agg (TRef.K.one _)) Tryz.underlying27 c27 rfl (j := 2) rfl (Nat.le_of_ble_eq_true rfl) rfl nofun ?_
              refine as0 rfl rfl ?_
              refine as0 rfl rfl ?_
              refine .fin ?_
              replace H := Gets.outr H
              obtain rfl := Gets.out H
              exact WP.retL (fun _ _ h => h) rfl () trivial (.cons (res_cells rfl Tryz.underlying27 rfl c27 (mem_at 2 rfl) rfl) (.cons (res_tmp rfl) (.cons (res_tmp rfl) .nil))) rfl (st_seln 7 [0, 1, 2, 3, 4, 5, 6] 7 (by kernel_rfl) rfl rfl)
            · replace H := Gets.cf H c948
              refine WP.skip ?_
              refine WP.exit ?_
              refine WP.reg [(0, false), (1, false), (2, false)] (by kernel_rfl) ?_
              refine mv0 rfl rfl ?_
              refine Dv.bin rfl trivial rfl rfl (fun _ => run_add) ?_
              refine as0 rfl rfl ?_
              refine .fin ?_
              refine Dn.gh (l' := fun _ : Unit => [blk b927 27 [eq v940.1, eq v941.1], blk b921 27 [eq (.slice none 0 0), eq (.slice none 0 0)], blk b920 32 [eq (.int .i64 a1.fKind), eq (.string a1.fRoom), eq (.string a1.fUser), eq (.string a1.fEvent), eq (.string a1.fThread), eq (.bool a1.fPrivate), eq (.bool a1.fOn), eq (.int .i64 a1.fSpan), eq (.int .i64 a1.fState), eq (.int .i64 a1.fTick), eq (.int .i64 a1.fStamp)], blk b919 27 [sl Edu.K a0.fL, sl (intK .i64) a0.fTold], own Edu.K v940.1 x938, own (intK .i64) v941.1 x939] ++ F) (gh_of (st_selgn 7 [0, 1, 2, 3, 4, 5, 6] 1 (by kernel_rfl) rfl rfl)) (fun _ _ => ?_)
              exact Back.mk j965 (x936, w64 (x937 + 1), x938, x939, v940, v941) (Nat.lt_succ_self _) H (weak_cons rfl (weak_cons rfl (weak_cons rfl (weak_cons rfl (weak_cons rfl (weak_cons rfl (weak_cons rfl (weak_cons rfl (weak_cons rfl (weak_cons rfl (weak_cons rfl (weak_cons rfl weak_nil)))))))))))) (List.Perm.refl _)
          · replace H := Gets.cf H c945
            refine WP.skip ?_
            refine WP.seqn H (fun q964 : (Bool × Bool × (List Edu) × (List Int)) × OV × OV => q964.1) (fun q964 : (Bool × Bool × (List Edu) × (List Int)) × OV × OV => [(0, agg (TRef.enc a0)), (1, agg (Edu.enc a1)), (2, eq (.pointer (some ⟨b919, 0, none⟩))), (3, eq (.pointer (some ⟨b920, 0, none⟩))), (4, eq (.pointer (some ⟨b921, 0, none⟩))), (5, eq (.bool false)), (6, eq (.int .i64 0)), (7, eq (.bool t922)), (8, eq (.pointer (some ⟨b927, 0, none⟩))), (9, eq (.bool q964.1.1)), (10, eq (.int .i64 x937)), (11, eq (.pointer (some ⟨b944, 0, none⟩))), (20, eq (.bool (!t922))), (26, eq (.bool (decide (x937 < (a0.fL.length : Int))))), (38, eq (.bool (decide (((Edu.K.at a0.fL x937).fUser) = a1.fUser)))), (52, eq (.bool q964.1.2.1))]) (fun q964 : (Bool × Bool × (List Edu) × (List Int)) × OV × OV => [blk b944 32 [eq (.int .i64 ((Edu.K.at a0.fL x937).fKind)), eq (.string ((Edu.K.at a0.fL x937).fRoom)), eq (.string ((Edu.K.at a0.fL x937).fUser)), eq (.string ((Edu.K.at a0.fL x937).fEvent)), eq (.string ((Edu.K.at a0.fL x937).fThread)), eq (.bool ((Edu.K.at a0.fL x937).fPrivate)), eq (.bool ((Edu.K.at a0.fL x937).fOn)), eq (.int .i64 ((Edu.K.at a0.fL x937).fSpan)), eq (.int .i64 ((Edu.K.at a0.fL x937).fState)), eq (.int .i64 ((Edu.K.at a0.fL x937).fTick)), eq (.int .i64 ((Edu.K.at a0.fL x937).fStamp))], blk b927 27 [eq q964.2.1.1, eq q964.2.2.1], blk b921 27 [eq (.slice none 0 0), eq (.slice none 0 0)], blk b920 32 [eq (.int .i64 a1.fKind), eq (.string a1.fRoom), eq (.string a1.fUser), eq (.string a1.fEvent), eq (.string a1.fThread), eq (.bool a1.fPrivate), eq (.bool a1.fOn), eq (.int .i64 a1.fSpan), eq (.int .i64 a1.fState), eq (.int .i64 a1.fTick), eq (.int .i64 a1.fStamp)], blk b919 27 [sl Edu.K a0.fL, sl (intK .i64) a0.fTold], own Edu.K q964.2.1.1 q964.1.2.2.1, own (intK .i64) q964.2.2.1 q964.1.2.2.2] ++ F) (fun q964 H => ?_) (fun H => ?_)
            · obtain ⟨p949, v950, v951⟩ := q964
              refine WP.seq ?_
              refine WP.reg [(0, false), (1, false), (2, false), (3, false), (4, true), (5, false), (6, true)] (by kernel_rfl) ?_
              refine Dv.fab rfl trivial rfl Tryz.underlying27 rfl Tryz.underlying22 c22 (by decide) ?_
              refine Dv.ldb rfl trivial rfl Tryz.underlying22 rfl (mem_at 1 rfl) rfl ?_
              refine Dv.ldbs rfl trivial rfl Tryz.underlying32 rfl c32 (mem_at 0 rfl) (Nat.le_of_ble_eq_true rfl) ?_
              refine Dv.lit Edu.K ([Edu.K.at a0.fL x937] : List Edu) (css := [Edu.enc (Edu.K.at a0.fL x937)]) rfl trivial Tryz.underlying22 Tryz.underlying32 c32 z32 rfl (by decide) (by decide) rfl ⟨(cells_agg (Edu.K.one _)), trivial⟩ rfl rfl rfl ?_
              obtain ⟨g952, H⟩ := Gets.grd H
              refine Dv.appx (jj := 5) (ys := ([Edu.K.at a0.fL x937] : List Edu)) (fun v953 : OV => [blk b944 32 [eq (.int .i64 ((Edu.K.at a0.fL x937).fKind)), eq (.string ((Edu.K.at a0.fL x937).fRoom)), eq (.string ((Edu.K.at a0.fL x937).fUser)), eq (.string ((Edu.K.at a0.fL x937).fEvent)), eq (.string ((Edu.K.at a0.fL x937).fThread)), eq (.bool ((Edu.K.at a0.fL x937).fPrivate)), eq (.bool ((Edu.K.at a0.fL x937).fOn)), eq (.int .i64 ((Edu.K.at a0.fL x937).fSpan)), eq (.int .i64 ((Edu.K.at a0.fL x937).fState)), eq (.int .i64 ((Edu.K.at a0.fL x937).fTick)), eq (.int .i64 ((Edu.K.at a0.fL x937).fStamp))], blk b927 27 [eq v950.1, eq v951.1], blk b921 27 [eq (.slice none 0 0), eq (.slice none 0 0)], blk b920 32 [eq (.int .i64 a1.fKind), eq (.string a1.fRoom), eq (.string a1.fUser), eq (.string a1.fEvent), eq (.string a1.fThread), eq (.bool a1.fPrivate), eq (.bool a1.fOn), eq (.int .i64 a1.fSpan), eq (.int .i64 a1.fState), eq (.int .i64 a1.fTick), eq (.int .i64 a1.fStamp)], blk b919 27 [sl Edu.K a0.fL, sl (intK .i64) a0.fTold], own Edu.K v953.1 (p949.2.2.1 ++ ([Edu.K.at a0.fL x937] : List Edu)), own (intK .i64) v951.1 p949.2.2.2] ++ F) rfl trivial rfl rfl rfl src_sl Tryz.underlying22 (.inr ⟨_, Tryz.underlying22⟩) inf32 rfl (by decide) g952 rfl nofun (fun v953 => ?_)
              refine Dv.fab rfl trivial rfl Tryz.underlying27 rfl Tryz.underlying22 c22 (by decide) ?_
              refine Dv.stx ([blk b944 32 [eq (.int .i64 ((Edu.K.at a0.fL x937).fKind)), eq (.string ((Edu.K.at a0.fL x937).fRoom)), eq (.string ((Edu.K.at a0.fL x937).fUser)), eq (.string ((Edu.K.at a0.fL x937).fEvent)), eq (.string ((Edu.K.at a0.fL x937).fThread)), eq (.bool ((Edu.K.at a0.fL x937).fPrivate)), eq (.bool ((Edu.K.at a0.fL x937).fOn)), eq (.int .i64 ((Edu.K.at a0.fL x937).fSpan)), eq (.int .i64 ((Edu.K.at a0.fL x937).fState)), eq (.int .i64 ((Edu.K.at a0.fL x937).fTick)), eq (.int .i64 ((Edu.K.at a0.fL x937).fStamp))], blk b927 27 [eq v953.1, eq v951.1], blk b921 27 [eq (.slice none 0 0), eq (.slice none 0 0)], blk b920 32 [eq (.int .i64 a1.fKind), eq (.string a1.fRoom), eq (.string a1.fUser), eq (.string a1.fEvent), eq (.string a1.fThread), eq (.bool a1.fPrivate), eq (.bool a1.fOn), eq (.int .i64 a1.fSpan), eq (.int .i64 a1.fState), eq (.int .i64 a1.fTick), eq (.int .i64 a1.fStamp)], blk b919 27 [sl Edu.K a0.fL, sl (intK .i64) a0.fTold], own Edu.K v953.1 (p949.2.2.1 ++ ([Edu.K.at a0.fL x937] : List Edu)), own (intK .i64) v951.1 p949.2.2.2] ++ F) rfl trivial rfl rfl (cells_one one_ov) Tryz.underlying22 c22 rfl (j := 1) rfl (Nat.le_of_ble_eq_true rfl) rfl nofun ?_
              refine .fin ?_
              refine WP.dreg Tryz.checked.mixed [(0, false), (1, false), (2, false), (3, false), (4, false), (5, false), (6, false), (7, false), (8, true), (9, false), (10, true)] (by kernel_rfl) ?_
              refine Dv.fab rfl trivial rfl Tryz.underlying27 rfl Tryz.underlying25 c25 (by decide) ?_
              refine Dv.ldb rfl trivial rfl Tryz.underlying25 rfl (mem_at 1 rfl) rfl ?_
              refine Dv.fab rfl trivial rfl Tryz.underlying27 rfl Tryz.underlying25 c25 (by decide) ?_
              refine Dv.ldb rfl trivial rfl Tryz.underlying25 rfl (mem_at 4 rfl) rfl ?_
              refine mv0 rfl rfl ?_
              obtain ⟨g954, H⟩ := Gets.grd H
              refine Dv.ixr rfl trivial rfl rfl Tryz.underlying25 Tryz.underlying3 c3 g954.1 g954.2 ?_
              refine Dv.ldr rfl trivial rfl Tryz.underlying3 rfl rfl ?_
              refine Dv.lit (intK .i64) ([(intK .i64).at a0.fTold x937] : List Int) (css := [[eq (.int .i64 ((intK .i64).at a0.fTold x937))]]) rfl trivial Tryz.underlying25 Tryz.underlying3 c3 z3 rfl (by decide) (by decide) rfl ⟨(cells_one (one_eq rfl)), trivial⟩ rfl rfl rfl ?_
              obtain ⟨g955, H⟩ := Gets.grd H
              refine Dv.appx (jj := 6) (ys := ([(intK .i64).at a0.fTold x937] : List Int)) (fun v956 : OV => [blk b944 32 [eq (.int .i64 ((Edu.K.at a0.fL x937).fKind)), eq (.string ((Edu.K.at a0.fL x937).fRoom)), eq (.string ((Edu.K.at a0.fL x937).fUser)), eq (.string ((Edu.K.at a0.fL x937).fEvent)), eq (.string ((Edu.K.at a0.fL x937).fThread)), eq (.bool ((Edu.K.at a0.fL x937).fPrivate)), eq (.bool ((Edu.K.at a0.fL x937).fOn)), eq (.int .i64 ((Edu.K.at a0.fL x937).fSpan)), eq (.int .i64 ((Edu.K.at a0.fL x937).fState)), eq (.int .i64 ((Edu.K.at a0.fL x937).fTick)), eq (.int .i64 ((Edu.K.at a0.fL x937).fStamp))], blk b927 27 [eq v953.1, eq v951.1], blk b921 27 [eq (.slice none 0 0), eq (.slice none 0 0)], blk b920 32 [eq (.int .i64 a1.fKind), eq (.string a1.fRoom), eq (.string a1.fUser), eq (.string a1.fEvent), eq (.string a1.fThread), eq (.bool a1.fPrivate), eq (.bool a1.fOn), eq (.int .i64 a1.fSpan), eq (.int .i64 a1.fState), eq (.int .i64 a1.fTick), eq (.int .i64 a1.fStamp)], blk b919 27 [sl Edu.K a0.fL, sl (intK .i64) a0.fTold], own Edu.K v953.1 (p949.2.2.1 ++ ([Edu.K.at a0.fL x937] : List Edu)), own (intK .i64) v956.1 (p949.2.2.2 ++ ([(intK .i64).at a0.fTold x937] : List Int))] ++ F) rfl trivial rfl rfl rfl src_sl Tryz.underlying25 (.inr ⟨_, Tryz.underlying25⟩) inf3 rfl (by decide) g955 rfl (fun _ => pend_bits (by kernel_rfl)) (fun v956 => ?_)
              refine Dv.fab rfl trivial rfl Tryz.underlying27 rfl Tryz.underlying25 c25 (by decide) ?_
              refine Dv.stx ([blk b944 32 [eq (.int .i64 ((Edu.K.at a0.fL x937).fKind)), eq (.string ((Edu.K.at a0.fL x937).fRoom)), eq (.string ((Edu.K.at a0.fL x937).fUser)), eq (.string ((Edu.K.at a0.fL x937).fEvent)), eq (.string ((Edu.K.at a0.fL x937).fThread)), eq (.bool ((Edu.K.at a0.fL x937).fPrivate)), eq (.bool ((Edu.K.at a0.fL x937).fOn)), eq (.int .i64 ((Edu.K.at a0.fL x937).fSpan)), eq (.int .i64 ((Edu.K.at a0.fL x937).fState)), eq (.int .i64 ((Edu.K.at a0.fL x937).fTick)), eq (.int .i64 ((Edu.K.at a0.fL x937).fStamp))], blk b927 27 [eq v953.1, eq v956.1], blk b921 27 [eq (.slice none 0 0), eq (.slice none 0 0)], blk b920 32 [eq (.int .i64 a1.fKind), eq (.string a1.fRoom), eq (.string a1.fUser), eq (.string a1.fEvent), eq (.string a1.fThread), eq (.bool a1.fPrivate), eq (.bool a1.fOn), eq (.int .i64 a1.fSpan), eq (.int .i64 a1.fState), eq (.int .i64 a1.fTick), eq (.int .i64 a1.fStamp)], blk b919 27 [sl Edu.K a0.fL, sl (intK .i64) a0.fTold], own Edu.K v953.1 (p949.2.2.1 ++ ([Edu.K.at a0.fL x937] : List Edu)), own (intK .i64) v956.1 (p949.2.2.2 ++ ([(intK .i64).at a0.fTold x937] : List Int))] ++ F) rfl trivial rfl rfl (cells_one one_ov) Tryz.underlying25 c25 rfl (j := 1) rfl (Nat.le_of_ble_eq_true rfl) rfl (fun _ => pend_bits (by kernel_rfl)) ?_
              refine .fin ?_
              refine WP.reg [(0, false), (1, false), (2, false)] (by kernel_rfl) ?_
              refine mv0 rfl rfl ?_
              refine Dv.bin rfl trivial rfl rfl (fun _ => run_add) ?_
              refine as0 rfl rfl ?_
              refine .fin ?_
              refine Dn.gh (l' := fun _ : Unit => [blk b927 27 [eq v953.1, eq v956.1], blk b921 27 [eq (.slice none 0 0), eq (.slice none 0 0)], blk b920 32 [eq (.int .i64 a1.fKind), eq (.string a1.fRoom), eq (.string a1.fUser), eq (.string a1.fEvent), eq (.string a1.fThread), eq (.bool a1.fPrivate), eq (.bool a1.fOn), eq (.int .i64 a1.fSpan), eq (.int .i64 a1.fState), eq (.int .i64 a1.fTick), eq (.int .i64 a1.fStamp)], blk b919 27 [sl Edu.K a0.fL, sl (intK .i64) a0.fTold], own Edu.K v953.1 (p949.2.2.1 ++ ([Edu.K.at a0.fL x937] : List Edu)), own (intK .i64) v956.1 (p949.2.2.2 ++ ([(intK .i64).at a0.fTold x937] : List Int))] ++ F) (gh_of (st_selgn 7 [0, 1, 2, 3, 4, 5, 6] 1 (by kernel_rfl) rfl rfl)) (fun _ _ => ?_)
              exact Back.mk j965 (p949.1, w64 (x937 + 1), p949.2.2.1 ++ ([Edu.K.at a0.fL x937] : List Edu), p949.2.2.2 ++ ([(intK .i64).at a0.fTold x937] : List Int), v953, v956) (Nat.lt_succ_self _) H (weak_cons rfl (weak_cons rfl (weak_cons rfl (weak_cons rfl (weak_cons rfl (weak_cons rfl (weak_cons rfl (weak_cons rfl (weak_cons rfl (weak_cons rfl (weak_cons rfl (weak_cons rfl weak_nil)))))))))))) (List.Perm.refl _)
            · refine WP.seq ?_
              refine WP.reg [(0, false), (1, false), (2, false), (3, false), (4, false), (5, false), (6, false), (7, false), (8, false)] (by kernel_rfl) ?_
              refine mv0 rfl rfl ?_
              refine Dv.un rfl trivial rfl (fun _ => run_not _) ?_
              refine mv0 rfl rfl ?_
              cases c957 : !x936
              · replace H := Gets.cf H c957
                refine sk rfl rfl rfl rfl rfl ?_
                refine sk rfl rfl rfl rfl rfl ?_
                refine sk rfl rfl rfl rfl rfl ?_
                refine sk rfl rfl rfl rfl rfl ?_
                refine sk rfl rfl rfl rfl rfl ?_
                refine Dv.pickF rfl trivial rfl rfl ?_
                refine .fin ?_
                refine WP.cond rfl nofun (fun _ => ?_)
                refine WP.skip ?_
                replace H := Gets.out H
                exact Jn.mk ((x936, false, x938, x939), v940, v941) H (weak_cons rfl (weak_cons rfl (weak_cons rfl (weak_cons rfl (weak_cons rfl (weak_cons rfl (weak_cons rfl (weak_cons rfl (weak_cons rfl (weak_cons rfl (weak_cons rfl (weak_cons rfl (weak_cons rfl (weak_cons rfl (weak_cons rfl (weak_cons rfl weak_nil)))))))))))))))) (List.Perm.refl _)
              · replace H := Gets.ct H c957
                refine Dv.fab rfl ⟨_, _, rfl, rfl, rfl⟩ rfl Tryz.underlying32 rfl Tryz.underlying9 c9 (by decide) ?_
                refine Dv.ldb rfl ⟨_, _, rfl, rfl, rfl⟩ rfl Tryz.underlying9 rfl (mem_at 3 rfl) rfl ?_
                refine Dv.fab rfl ⟨_, _, rfl, rfl, rfl⟩ rfl Tryz.underlying32 rfl Tryz.underlying9 c9 (by decide) ?_
                refine Dv.ldb rfl ⟨_, _, rfl, rfl, rfl⟩ rfl Tryz.underlying9 rfl (mem_at 0 rfl) rfl ?_
                refine Dv.bin rfl ⟨_, _, rfl, rfl, rfl⟩ rfl rfl (fun _ => run_slt) ?_
                refine Dv.pickT rfl trivial rfl rfl ?_
                refine .fin ?_
                refine WP.cond rfl (fun c958 => ?_) (fun c958 => ?_)
                · replace H := Gets.ct H c958
                  refine WP.seq ?_
                  refine WP.reg [(0, false), (1, false), (2, false), (3, false), (4, true), (5, false), (6, true)] (by kernel_rfl) ?_
                  refine Dv.fab rfl trivial rfl Tryz.underlying27 rfl Tryz.underlying22 c22 (by decide) ?_
                  refine Dv.ldb rfl trivial rfl Tryz.underlying22 rfl (mem_at 1 rfl) rfl ?_
                  refine Dv.ldbs rfl trivial rfl Tryz.underlying32 rfl c32 (mem_at 3 rfl) (Nat.le_of_ble_eq_true rfl) ?_
                  refine Dv.lit Edu.K ([a1] : List Edu) (css := [Edu.enc a1]) rfl trivial Tryz.underlying22 Tryz.underlying32 c32 z32 rfl (by decide) (by decide) rfl ⟨(cells_agg (Edu.K.one _)), trivial⟩ rfl rfl rfl ?_
                  obtain ⟨g959, H⟩ := Gets.grd H
                  refine Dv.appx (jj := 5) (ys := ([a1] : List Edu)) (fun v960 : OV => [blk b944 32 [eq (.int .i64 ((Edu.K.at a0.fL x937).fKind)), eq (.string ((Edu.K.at a0.fL x937).fRoom)), eq (.string ((Edu.K.at a0.fL x937).fUser)), eq (.string ((Edu.K.at a0.fL x937).fEvent)), eq (.string ((Edu.K.at a0.fL x937).fThread)), eq (.bool ((Edu.K.at a0.fL x937).fPrivate)), eq (.bool ((Edu.K.at a0.fL x937).fOn)), eq (.int .i64 ((Edu.K.at a0.fL x937).fSpan)), eq (.int .i64 ((Edu.K.at a0.fL x937).fState)), eq (.int .i64 ((Edu.K.at a0.fL x937).fTick)), eq (.int .i64 ((Edu.K.at a0.fL x937).fStamp))], blk b927 27 [eq v940.1, eq v941.1], blk b921 27 [eq (.slice none 0 0), eq (.slice none 0 0)], blk b920 32 [eq (.int .i64 a1.fKind), eq (.string a1.fRoom), eq (.string a1.fUser), eq (.string a1.fEvent), eq (.string a1.fThread), eq (.bool a1.fPrivate), eq (.bool a1.fOn), eq (.int .i64 a1.fSpan), eq (.int .i64 a1.fState), eq (.int .i64 a1.fTick), eq (.int .i64 a1.fStamp)], blk b919 27 [sl Edu.K a0.fL, sl (intK .i64) a0.fTold], own Edu.K v960.1 (x938 ++ ([a1] : List Edu)), own (intK .i64) v941.1 x939] ++ F) rfl trivial rfl rfl rfl src_sl Tryz.underlying22 (.inr ⟨_, Tryz.underlying22⟩) inf32 rfl (by decide) g959 rfl nofun (fun v960 => ?_)
                  refine Dv.fab rfl trivial rfl Tryz.underlying27 rfl Tryz.underlying22 c22 (by decide) ?_
                  refine Dv.stx ([blk b944 32 [eq (.int .i64 ((Edu.K.at a0.fL x937).fKind)), eq (.string ((Edu.K.at a0.fL x937).fRoom)), eq (.string ((Edu.K.at a0.fL x937).fUser)), eq (.string ((Edu.K.at a0.fL x937).fEvent)), eq (.string ((Edu.K.at a0.fL x937).fThread)), eq (.bool ((Edu.K.at a0.fL x937).fPrivate)), eq (.bool ((Edu.K.at a0.fL x937).fOn)), eq (.int .i64 ((Edu.K.at a0.fL x937).fSpan)), eq (.int .i64 ((Edu.K.at a0.fL x937).fState)), eq (.int .i64 ((Edu.K.at a0.fL x937).fTick)), eq (.int .i64 ((Edu.K.at a0.fL x937).fStamp))], blk b927 27 [eq v960.1, eq v941.1], blk b921 27 [eq (.slice none 0 0), eq (.slice none 0 0)], blk b920 32 [eq (.int .i64 a1.fKind), eq (.string a1.fRoom), eq (.string a1.fUser), eq (.string a1.fEvent), eq (.string a1.fThread), eq (.bool a1.fPrivate), eq (.bool a1.fOn), eq (.int .i64 a1.fSpan), eq (.int .i64 a1.fState), eq (.int .i64 a1.fTick), eq (.int .i64 a1.fStamp)], blk b919 27 [sl Edu.K a0.fL, sl (intK .i64) a0.fTold], own Edu.K v960.1 (x938 ++ ([a1] : List Edu)), own (intK .i64) v941.1 x939] ++ F) rfl trivial rfl rfl (cells_one one_ov) Tryz.underlying22 c22 rfl (j := 1) rfl (Nat.le_of_ble_eq_true rfl) rfl nofun ?_
                  refine .fin ?_
                  refine WP.seq ?_
                  refine WP.reg [(0, false), (1, false), (2, false), (3, true), (4, false), (5, true)] (by kernel_rfl) ?_
                  refine Dv.fab rfl trivial rfl Tryz.underlying27 rfl Tryz.underlying25 c25 (by decide) ?_
                  refine Dv.ldb rfl trivial rfl Tryz.underlying25 rfl (mem_at 1 rfl) rfl ?_
                  refine Dv.lit (intK .i64) ([(-1)] : List Int) (css := [[eq (.int .i64 (-1))]]) rfl trivial Tryz.underlying25 Tryz.underlying3 c3 z3 rfl (by decide) (by decide) rfl ⟨(cells_one (one_eq rfl)), trivial⟩ rfl rfl rfl ?_
                  obtain ⟨g961, H⟩ := Gets.grd H
                  refine Dv.appx (jj := 6) (ys := ([(-1)] : List Int)) (fun v962 : OV => [blk b944 32 [eq (.int .i64 ((Edu.K.at a0.fL x937).fKind)), eq (.string ((Edu.K.at a0.fL x937).fRoom)), eq (.string ((Edu.K.at a0.fL x937).fUser)), eq (.string ((Edu.K.at a0.fL x937).fEvent)), eq (.string ((Edu.K.at a0.fL x937).fThread)), eq (.bool ((Edu.K.at a0.fL x937).fPrivate)), eq (.bool ((Edu.K.at a0.fL x937).fOn)), eq (.int .i64 ((Edu.K.at a0.fL x937).fSpan)), eq (.int .i64 ((Edu.K.at a0.fL x937).fState)), eq (.int .i64 ((Edu.K.at a0.fL x937).fTick)), eq (.int .i64 ((Edu.K.at a0.fL x937).fStamp))], blk b927 27 [eq v960.1, eq v941.1], blk b921 27 [eq (.slice none 0 0), eq (.slice none 0 0)], blk b920 32 [eq (.int .i64 a1.fKind), eq (.string a1.fRoom), eq (.string a1.fUser), eq (.string a1.fEvent), eq (.string a1.fThread), eq (.bool a1.fPrivate), eq (.bool a1.fOn), eq (.int .i64 a1.fSpan), eq (.int .i64 a1.fState), eq (.int .i64 a1.fTick), eq (.int .i64 a1.fStamp)], blk b919 27 [sl Edu.K a0.fL, sl (intK .i64) a0.fTold], own Edu.K v960.1 (x938 ++ ([a1] : List Edu)), own (intK .i64) v962.1 (x939 ++ ([(-1)] : List Int))] ++ F) rfl trivial rfl rfl rfl src_sl Tryz.underlying25 (.inr ⟨_, Tryz.underlying25⟩) inf3 rfl (by decide) g961 rfl nofun (fun v962 => ?_)
                  refine Dv.fab rfl trivial rfl Tryz.underlying27 rfl Tryz.underlying25 c25 (by decide) ?_
                  refine Dv.stx ([blk b944 32 [eq (.int .i64 ((Edu.K.at a0.fL x937).fKind)), eq (.string ((Edu.K.at a0.fL x937).fRoom)), eq (.string ((Edu.K.at a0.fL x937).fUser)), eq (.string ((Edu.K.at a0.fL x937).fEvent)), eq (.string ((Edu.K.at a0.fL x937).fThread)), eq (.bool ((Edu.K.at a0.fL x937).fPrivate)), eq (.bool ((Edu.K.at a0.fL x937).fOn)), eq (.int .i64 ((Edu.K.at a0.fL x937).fSpan)), eq (.int .i64 ((Edu.K.at a0.fL x937).fState)), eq (.int .i64 ((Edu.K.at a0.fL x937).fTick)), eq (.int .i64 ((Edu.K.at a0.fL x937).fStamp))], blk b927 27 [eq v960.1, eq v962.1], blk b921 27 [eq (.slice none 0 0), eq (.slice none 0 0)], blk b920 32 [eq (.int .i64 a1.fKind), eq (.string a1.fRoom), eq (.string a1.fUser), eq (.string a1.fEvent), eq (.string a1.fThread), eq (.bool a1.fPrivate), eq (.bool a1.fOn), eq (.int .i64 a1.fSpan), eq (.int .i64 a1.fState), eq (.int .i64 a1.fTick), eq (.int .i64 a1.fStamp)], blk b919 27 [sl Edu.K a0.fL, sl (intK .i64) a0.fTold], own Edu.K v960.1 (x938 ++ ([a1] : List Edu)), own (intK .i64) v962.1 (x939 ++ ([(-1)] : List Int))] ++ F) rfl trivial rfl rfl (cells_one one_ov) Tryz.underlying25 c25 rfl (j := 1) rfl (Nat.le_of_ble_eq_true rfl) rfl nofun ?_
                  refine .fin ?_
                  refine WP.reg [(0, false)] (by kernel_rfl) ?_
                  refine as0 rfl rfl ?_
                  refine .fin ?_
                  replace H := Gets.out H
                  exact Jn.mk ((true, sLt a1.fUser ((Edu.K.at a0.fL x937).fUser), x938 ++ ([a1] : List Edu), x939 ++ ([(-1)] : List Int)), v960, v962) H (weak_cons rfl (weak_cons rfl (weak_cons rfl (weak_cons rfl (weak_cons rfl (weak_cons rfl (weak_cons rfl (weak_cons rfl (weak_cons rfl (weak_cons rfl (weak_cons rfl (weak_cons rfl (weak_cons rfl (weak_cons rfl (weak_cons rfl (weak_cons rfl weak_nil)))))))))))))))) (List.Perm.refl _)
                · replace H := Gets.cf H c958
                  refine WP.skip ?_
                  replace H := Gets.out H
                  exact Jn.mk ((x936, sLt a1.fUser ((Edu.K.at a0.fL x937).fUser), x938, x939), v940, v941) H (weak_cons rfl (weak_cons rfl (weak_cons rfl (weak_cons rfl (weak_cons rfl (weak_cons rfl (weak_cons rfl (weak_cons rfl (weak_cons rfl (weak_cons rfl (weak_cons rfl (weak_cons rfl (weak_cons rfl (weak_cons rfl (weak_cons rfl (weak_cons rfl weak_nil)))))))))))))))) (List.Perm.refl _)
        · replace H := Gets.cf H c942
          refine WP.exit ?_
          replace H := Gets.out H
          exact Jn.mk ((x936, x937, decide (x937 < (a0.fL.length : Int)), x938, x939), v940, v941) H (weak_cons rfl (weak_cons rfl (weak_cons rfl (weak_cons rfl (weak_cons rfl (weak_cons rfl (weak_cons rfl (weak_cons rfl (weak_cons rfl (weak_cons rfl (weak_cons rfl (weak_cons rfl (weak_cons rfl weak_nil))))))))))))) (List.Perm.refl _)
  · replace H := Gets.ct H c924
    refine sk rfl rfl rfl rfl rfl ?_
    refine sk rfl rfl rfl rfl rfl ?_
    refine Dv.pickT rfl trivial rfl rfl ?_
    refine .fin ?_
    refine WP.cond rfl (fun _ => ?_) nofun
    refine WP.seq ?_
    refine WP.reg [(0, false), (1, true), (2, false), (3, false)] (by kernel_rfl) ?_
    refine Dv.ldbs rfl trivial rfl Tryz.underlying27 rfl c27 (mem_at 2 rfl) (Nat.le_of_ble_eq_true rfl) ?_
    refine Dv.stx ([blk b921 27 [sl Edu.K a0.fL, sl (intK .i64) a0.fTold], blk b920 32 [eq (.int .i64 a1.fKind), eq (.string a1.fRoom), eq (.string a1.fUser), eq (.string a1.fEvent), eq (.string a1.fThread), eq (.bool a1.fPrivate), eq (.bool a1.fOn), eq (.int .i64 a1.fSpan), eq (.int .i64 a1.fState), eq (.int .i64 a1.fTick), eq (.int .i64 a1.fStamp)], blk b919 27 [sl Edu.K a0.fL, sl (intK .i64) a0.fTold]] ++ F) rfl trivial rfl rfl (cells_agg (TRef.K.one _)) Tryz.underlying27 c27 rfl (j := 0) rfl (Nat.le_of_ble_eq_true rfl) rfl nofun ?_
    refine as0 rfl rfl ?_
    refine as0 rfl rfl ?_
    refine .fin ?_
    obtain rfl := Gets.out H
    exact WP.retL (fun _ _ h => h) rfl () trivial (.cons (res_cells rfl Tryz.underlying27 rfl c27 (mem_at 0 rfl) rfl) (.cons (res_tmp rfl) (.cons (res_tmp rfl) .nil))) rfl (st_seln 3 [0, 1, 2] 3 rfl rfl rfl)
theorem concourseref04_SameEdus.c {k : Nat} {a0 : List Edu} {a1 : List Edu} {r : Bool} (h : concourseref04_SameEdus.f k a0 a1 = some r) : Pt Tryz.prog 20 [sl Edu.K a0, sl Edu.K a1] (eq (.bool r)) := by
  unfold concourseref04_SameEdus.f at h
  refine (Tr.body Tryz.func20 (c := _) rfl Tryz.ntmps20 (Nat.le_of_ble_eq_true rfl) fun R0 F => ?_).pt
  replace h := Gets.of h
  have H := h
  clear h
  refine WP.seq ?_
  refine WP.reg [(0, false)] (by kernel_rfl) ?_
  refine as0 rfl rfl ?_
  refine .fin ?_
  refine WP.seq ?_
  refine WP.seq ?_
  refine WP.reg [(0, false), (1, false), (2, false), (3, false), (4, false)] (by kernel_rfl) ?_
  refine mv0 rfl rfl ?_
  refine Dv.lenl rfl trivial rfl Tryz.underlying22 ?_
  refine mv0 rfl rfl ?_
  refine Dv.lenl rfl trivial rfl Tryz.underlying22 ?_
  refine Dv.bin rfl trivial rfl rfl (fun _ => run_ne) ?_
  refine .fin ?_
  refine WP.cond rfl (fun c968 => ?_) (fun c968 => ?_)
  · replace H := Gets.ct H c968
    refine WP.seq ?_
    refine WP.reg [(0, false)] (by kernel_rfl) ?_
    refine as0 rfl rfl ?_
    refine .fin ?_
    obtain rfl := Gets.out H
    exact WP.retL (fun _ _ h => h) rfl () trivial (.cons (res_tmp rfl) .nil) rfl (st_seln 0 [] 0 rfl rfl rfl)
  · replace H := Gets.cf H c968
    refine WP.skip ?_
    refine WP.seqr H id (fun p969 : Int × Bool => [(0, sl Edu.K a0), (1, sl Edu.K a1), (4, eq (.bool false)), (5, eq (.int .i64 p969.1)), (10, eq (.bool ((a0.length : Int) != (a1.length : Int)))), (14, eq (.bool p969.2))]) (fun p969 : Int × Bool => [] ++ F) (fun p969 H => ?_) (fun H => ?_)
    · refine WP.seq ?_
      refine WP.reg [(0, false)] (by kernel_rfl) ?_
      refine as0 rfl rfl ?_
      refine .fin ?_
      obtain rfl := Gets.out H
      exact WP.retL (fun _ _ h => h) rfl () trivial (.cons (res_tmp rfl) .nil) rfl (st_seln 0 [] 0 rfl rfl rfl)
    · refine WP.seq ?_
      refine WP.reg [(0, false)] (by kernel_rfl) ?_
      refine as0 rfl rfl ?_
      refine .fin ?_
      refine WP.block ?_
      refine WP.gh (l' := fun _ => [] ++ F) (gh_of (st_selgn 0 [] 0 rfl rfl rfl)) (fun _ _ => ?_)
      refine WP.loopg (fun j_ (p976 : Int) => concourseref04_SameEdus.l0 k a0 a1 j_ p976) 0 H (fun p976 => [(0, sl Edu.K a0), (1, sl Edu.K a1), (4, eq (.bool false)), (5, eq (.int .i64 p976)), (10, eq (.bool ((a0.length : Int) != (a1.length : Int))))]) (fun p976 => [] ++ F) (weak_cons rfl (weak_cons rfl (weak_cons rfl (weak_cons rfl (weak_cons rfl weak_nil))))) (List.Perm.refl _) ?_
      rintro j_ x970 H
      rcases j_ with _ | j975
      · exact (Gets.no H).elim
      replace H : Gets (concourseref04_SameEdus.l0 k a0 a1 (j975 + 1) x970) _ := H
      rw [concourseref04_SameEdus.l0] at H
      refine WP.seq ?_
      refine WP.seq ?_
      refine WP.reg [(0, false), (1, false), (2, false), (3, false)] (by kernel_rfl) ?_
      refine mv0 rfl rfl ?_
      refine mv0 rfl rfl ?_
      refine Dv.lenl rfl trivial rfl Tryz.underlying22 ?_
      refine Dv.bin rfl trivial rfl rfl (fun _ => run_lt) ?_
      refine .fin ?_
      refine WP.cond rfl (fun c971 => ?_) (fun c971 => ?_)
      · replace H := Gets.ct H c971
        refine WP.skip ?_
        refine WP.seq ?_
        refine WP.block ?_
        refine WP.seq ?_
        refine WP.dreg Tryz.checked.mixed [(0, false), (1, false), (2, false), (3, false), (4, false), (5, false), (6, false), (7, false), (8, false)] (by kernel_rfl) ?_
        refine mv0 rfl rfl ?_
        refine mv0 rfl rfl ?_
        obtain ⟨g972, H⟩ := Gets.grd H
        refine Dv.ixr rfl trivial rfl rfl Tryz.underlying22 Tryz.underlying32 c32 g972.1 g972.2 ?_
        refine Dv.ldrs rfl trivial rfl Tryz.underlying32 rfl c32 (Nat.le_of_ble_eq_true rfl) ?_
        refine mv0 rfl rfl ?_
        refine mv0 rfl rfl ?_
        obtain ⟨g973, H⟩ := Gets.grd H
        refine Dv.ixr rfl trivial rfl rfl Tryz.underlying22 Tryz.underlying32 c32 g973.1 g973.2 ?_
        refine Dv.ldrs rfl trivial rfl Tryz.underlying32 rfl c32 (Nat.le_of_ble_eq_true rfl) ?_
        refine Dv.nes [.int .i64 ((Edu.K.at a0 x970).fKind), .string ((Edu.K.at a0 x970).fRoom), .string ((Edu.K.at a0 x970).fUser), .string ((Edu.K.at a0 x970).fEvent), .string ((Edu.K.at a0 x970).fThread), .bool ((Edu.K.at a0 x970).fPrivate), .bool ((Edu.K.at a0 x970).fOn), .int .i64 ((Edu.K.at a0 x970).fSpan), .int .i64 ((Edu.K.at a0 x970).fState), .int .i64 ((Edu.K.at a0 x970).fTick), .int .i64 ((Edu.K.at a0 x970).fStamp)] [.int .i64 ((Edu.K.at a1 x970).fKind), .string ((Edu.K.at a1 x970).fRoom), .string ((Edu.K.at a1 x970).fUser), .string ((Edu.K.at a1 x970).fEvent), .string ((Edu.K.at a1 x970).fThread), .bool ((Edu.K.at a1 x970).fPrivate), .bool ((Edu.K.at a1 x970).fOn), .int .i64 ((Edu.K.at a1 x970).fSpan), .int .i64 ((Edu.K.at a1 x970).fState), .int .i64 ((Edu.K.at a1 x970).fTick), .int .i64 ((Edu.K.at a1 x970).fStamp)] rfl trivial rfl rfl rfl rfl eg32 (fun _ => equal_of 2 (by decide) (fun _ => eqt32 (Edu.K.at a0 x970) (Edu.K.at a1 x970))) ?_
        refine .fin ?_
        refine WP.cond rfl (fun c974 => ?_) (fun c974 => ?_)
        · replace H := Gets.ct H c974
          refine WP.seq ?_
          refine WP.reg [(0, false)] (by kernel_rfl) ?_
          refine as0 rfl rfl ?_
          refine .fin ?_
          replace H := Gets.outr H
          obtain rfl := Gets.out H
          exact WP.retL (fun _ _ h => h) rfl () trivial (.cons (res_tmp rfl) .nil) rfl (st_seln 0 [] 0 rfl rfl rfl)
        · replace H := Gets.cf H c974
          refine WP.skip ?_
          refine WP.reg [(0, false), (1, false), (2, false)] (by kernel_rfl) ?_
          refine mv0 rfl rfl ?_
          refine Dv.bin rfl trivial rfl rfl (fun _ => run_add) ?_
          refine as0 rfl rfl ?_
          refine .fin ?_
          exact Back.mk j975 (w64 (x970 + 1)) (Nat.lt_succ_self _) H (weak_cons rfl (weak_cons rfl (weak_cons rfl (weak_cons rfl (weak_cons rfl weak_nil))))) (List.Perm.refl _)
      · replace H := Gets.cf H c971
        refine WP.exit ?_
        replace H := Gets.out H
        exact Jn.mk (x970, decide (x970 < (a0.length : Int))) H (weak_cons rfl (weak_cons rfl (weak_cons rfl (weak_cons rfl (weak_cons rfl (weak_cons rfl weak_nil)))))) (List.Perm.refl _)
theorem slices_Clone_Edu.c {a0 : List Edu} {r : List Edu} (h : slices_Clone_Edu.f a0 = some r) : Tr Tryz.prog 41 [sl Edu.K a0] [] (γ := OV) (fun _ => True) (fun g => eq g.1) (fun g => [own Edu.K g.1 r]) := by
  unfold slices_Clone_Edu.f at h
  obtain ⟨h0, h5⟩ := (Gets.of h).grd
  obtain rfl := Gets.out h5
  clear h h5
  refine (Tr.body Tryz.func41 (c := _) rfl Tryz.ntmps41 (Nat.le_of_ble_eq_true rfl) fun R0 F => ?_)
  refine WP.seq ?_
  refine WP.reg [(0, false)] (by kernel_rfl) ?_
  refine as0 rfl rfl ?_
  refine .fin ?_
  refine WP.seq ?_
  refine WP.seq ?_
  refine WP.reg [(0, false), (1, true)] (by kernel_rfl) ?_
  refine mv0 rfl rfl ?_
  refine Dv.snil rfl trivial rfl rfl Tryz.underlying22 nofun (fun b hb => ?_)
  refine .fin ?_
  refine WP.cond rfl (fun c0 => ?_) (fun c0 => ?_)
  · obtain rfl := hb c0
    refine WP.seq ?_
    refine WP.reg [(0, false)] (by kernel_rfl) ?_
    refine as0 rfl rfl ?_
    refine .fin ?_
    refine WP.gh (gh_of (st_nil Edu.K none)) (fun _ _ => ?_)
    exact WP.retL (fun _ _ h => h) rfl nilV trivial (.cons (res_tmp rfl) .nil) rfl (st_seln 1 [0] 0 rfl rfl rfl)
  refine WP.skip ?_
  refine WP.seq ?_
  refine WP.reg [(0, true), (1, false), (2, true), (3, false)] (by kernel_rfl) ?_
  refine Dv.lit0 Edu.K rfl trivial Tryz.underlying22 Tryz.underlying32 c32 z32 nofun (fun v1 => ?_)
  refine mv0 rfl rfl ?_
  refine Dv.appx (Kd := Edu.K) (xs := []) (v := v1.1) (jj := 0) (ys := a0) (fun v2 : OV => [own Edu.K v2.1 a0] ++ F) rfl trivial rfl rfl rfl src_sl Tryz.underlying22 (.inr ⟨_, Tryz.underlying22⟩) inf32 rfl (by decide) (by simpa using h0) rfl nofun (fun v2 => ?_)
  refine as0 rfl rfl ?_
  refine .fin ?_
  exact WP.retL (fun _ _ h => h) rfl v2 trivial (.cons (res_tmp rfl) .nil) rfl (st_seln 1 [0] 0 rfl rfl rfl)
theorem presence_Table_All.c {a0 : PTab} {v0_0 v0_1 : OV} {b0_ : Nat} {r : (List Edu)} (h : presence_Table_All.f a0 = some r) : Tr Tryz.prog 21 [eq (.pointer (some ⟨b0_, 0, none⟩))] [blk b0_ 61 [eq v0_0.1, eq v0_1.1], own Edu.K v0_0.1 a0.fl] (γ := OV) (fun _ => True) (fun g => eq g.1) (fun g => [blk b0_ 61 [eq v0_0.1, eq v0_1.1], own Edu.K v0_0.1 a0.fl, own Edu.K g.1 r]) := by
  unfold presence_Table_All.f at h
  refine Tr.body Tryz.func21 (c := _) rfl Tryz.ntmps21 (Nat.le_of_ble_eq_true rfl) fun R0 F => ?_
  replace h := Gets.of h
  have H := h
  clear h
  refine WP.seq ?_
  refine WP.reg [(0, false)] (by kernel_rfl) ?_
  refine as0 rfl rfl ?_
  refine .fin ?_
  refine WP.seq ?_
  refine WP.reg [(0, false), (1, false), (2, false), (3, false), (4, true), (5, false)] (by kernel_rfl) ?_
  refine mv0 rfl rfl ?_
  refine Dv.nilp rfl trivial rfl ?_
  refine Dv.fab rfl trivial rfl Tryz.underlying61 rfl Tryz.underlying22 c22 (by decide) ?_
  refine Dv.ldb rfl trivial rfl Tryz.underlying22 rfl (mem_at 0 rfl) rfl ?_
  obtain ⟨t977, h978, H⟩ := Gets.call H
  refine Dv.callx (pre := [own Edu.K v0_0.1 a0.fl]) (F := [blk b0_ 61 [eq v0_0.1, eq v0_1.1]] ++ F) (fun g979 : OV => [own Edu.K v0_0.1 a0.fl, own Edu.K g979.1 t977, blk b0_ 61 [eq v0_0.1, eq v0_1.1]] ++ F) rfl trivial cal41 rfl (Tr.lend [own Edu.K v0_0.1 a0.fl] (slices_Clone_Edu.c h978) (.cons (lt_own (mem_at 0 rfl)) .nil) (fun _ => flat_eq) (fun _ => (flatAs_cons (flatA_own (fun _ => (flats_cons flat_eq (flats_cons flat_eq (flats_cons flat_eq (flats_cons flat_eq (flats_cons flat_eq (flats_cons flat_eq (flats_cons flat_eq (flats_cons flat_eq (flats_cons flat_eq (flats_cons flat_eq (flats_cons flat_eq flats_nil))))))))))))) flatAs_nil))) (perm_ton 2 [1, 0] rfl rfl rfl) rfl nofun (fun g979 _ => ?_)
  refine as0 rfl rfl ?_
  refine .fin ?_
  obtain rfl := Gets.out H
  exact WP.retL (fun _ _ h => h) rfl g979 trivial (.cons (res_tmp rfl) .nil) rfl (st_seln 3 [2, 0, 1] 0 rfl rfl rfl)
theorem concourseref01_Few.c {a0 : ByteArray} {a1 : Int} {r : ByteArray} (h : concourseref01_Few.f a0 a1 = some r) : Pt Tryz.prog 11 [eq (.string a0), eq (.int .i64 a1)] (eq (.string r)) := by
  unfold concourseref01_Few.f at h
  refine (Tr.body Tryz.func11 (c := _) rfl Tryz.ntmps11 (Nat.le_of_ble_eq_true rfl) fun R0 F => ?_).pt
  replace h := Gets.of h
  have H := h
  clear h
  refine WP.seq ?_
  refine WP.reg [(0, false)] (by kernel_rfl) ?_
  refine as0 rfl rfl ?_
  refine .fin ?_
  refine WP.seq ?_
  refine WP.seq ?_
  refine WP.reg [(0, false), (1, false), (2, false), (3, false)] (by kernel_rfl) ?_
  refine mv0 rfl rfl ?_
  refine Dv.lens rfl trivial rfl Tryz.underlying9 ?_
  refine mv0 rfl rfl ?_
  refine Dv.bin rfl trivial rfl rfl (fun _ => run_gt) ?_
  refine .fin ?_
  refine WP.cond rfl (fun c980 => ?_) (fun c980 => ?_)
  · replace H := Gets.ct H c980
    refine WP.seq ?_
    refine WP.reg [(0, false), (1, false), (2, false), (3, false)] (by kernel_rfl) ?_
    refine mv0 rfl rfl ?_
    refine mv0 rfl rfl ?_
    obtain ⟨g981, H⟩ := Gets.grd H
    refine Dv.sss rfl trivial rfl Tryz.underlying9 bdE_none (bdE_some rfl g981.1) g981.2.1 g981.2.2 ?_
    refine as0 rfl rfl ?_
    refine .fin ?_
    obtain rfl := Gets.out H
    exact WP.retL (fun _ _ h => h) rfl () trivial (.cons (res_tmp rfl) .nil) rfl (st_seln 0 [] 0 rfl rfl rfl)
  · replace H := Gets.cf H c980
    refine WP.skip ?_
    refine WP.seq ?_
    refine WP.reg [(0, false), (1, false)] (by kernel_rfl) ?_
    refine mv0 rfl rfl ?_
    refine as0 rfl rfl ?_
    refine .fin ?_
    obtain rfl := Gets.out H
    exact WP.retL (fun _ _ h => h) rfl () trivial (.cons (res_tmp rfl) .nil) rfl (st_seln 0 [] 0 rfl rfl rfl)
theorem concourseref03_Few.c {a0 : Edu} {r : Edu} (h : concourseref03_Few.f a0 = some r) : Pt Tryz.prog 24 [agg (Edu.enc a0)] (agg (Edu.enc r)) := by
  unfold concourseref03_Few.f at h
  refine (Tr.body Tryz.func24 (c := _) rfl Tryz.ntmps24 (Nat.le_of_ble_eq_true rfl) fun R0 F => ?_).pt
  replace h := Gets.of h
  have H := h
  clear h
  refine WP.seq ?_
  refine WP.reg [(0, true), (1, true)] (by kernel_rfl) ?_
  refine Dv.box rfl trivial rfl (cells_agg (Edu.K.one _)) nofun (fun b982 => ?_)
  refine Dv.alloc (z := .agg #[.int .i64 0, .string ⟨#[]⟩, .string ⟨#[]⟩, .string ⟨#[]⟩, .string ⟨#[]⟩, .bool false, .bool false, .int .i64 0, .int .i64 0, .int .i64 0, .int .i64 0]) (qs := [eq (.int .i64 0), eq (.string (⟨#[]⟩ : ByteArray)), eq (.string (⟨#[]⟩ : ByteArray)), eq (.string (⟨#[]⟩ : ByteArray)), eq (.string (⟨#[]⟩ : ByteArray)), eq (.bool false), eq (.bool false), eq (.int .i64 0), eq (.int .i64 0), eq (.int .i64 0), eq (.int .i64 0)]) rfl trivial z32 rfl nofun (fun b983 => ?_)
  refine .fin ?_
  refine WP.seq ?_
  refine WP.reg [(0, false), (1, false), (2, false), (3, false), (4, true)] (by kernel_rfl) ?_
  refine Dv.fab rfl trivial rfl Tryz.underlying32 rfl Tryz.underlying9 c9 (by decide) ?_
  refine Dv.ldb rfl trivial rfl Tryz.underlying9 rfl (mem_at 1 rfl) rfl ?_
  obtain ⟨t984, h985, H⟩ := Gets.call H
  refine Dv.call rfl trivial cal11 rfl (concourseref01_Few.c h985) ?_
  refine Dv.fab rfl trivial rfl Tryz.underlying32 rfl Tryz.underlying9 c9 (by decide) ?_
  refine Dv.stx ([blk b983 32 [eq (.int .i64 0), eq (.string (⟨#[]⟩ : ByteArray)), eq (.string (⟨#[]⟩ : ByteArray)), eq (.string (⟨#[]⟩ : ByteArray)), eq (.string (⟨#[]⟩ : ByteArray)), eq (.bool false), eq (.bool false), eq (.int .i64 0), eq (.int .i64 0), eq (.int .i64 0), eq (.int .i64 0)], blk b982 32 [eq (.int .i64 a0.fKind), eq (.string t984), eq (.string a0.fUser), eq (.string a0.fEvent), eq (.string a0.fThread), eq (.bool a0.fPrivate), eq (.bool a0.fOn), eq (.int .i64 a0.fSpan), eq (.int .i64 a0.fState), eq (.int .i64 a0.fTick), eq (.int .i64 a0.fStamp)]] ++ F) rfl trivial rfl rfl (cells_one (one_eq rfl)) Tryz.underlying9 c9 rfl (j := 1) rfl (Nat.le_of_ble_eq_true rfl) rfl nofun ?_
  refine .fin ?_
  refine WP.seq ?_
  refine WP.reg [(0, false), (1, false), (2, false), (3, false), (4, true)] (by kernel_rfl) ?_
  refine Dv.fab rfl trivial rfl Tryz.underlying32 rfl Tryz.underlying9 c9 (by decide) ?_
  refine Dv.ldb rfl trivial rfl Tryz.underlying9 rfl (mem_at 1 rfl) rfl ?_
  obtain ⟨t986, h987, H⟩ := Gets.call H
  refine Dv.call rfl trivial cal11 rfl (concourseref01_Few.c h987) ?_
  refine Dv.fab rfl trivial rfl Tryz.underlying32 rfl Tryz.underlying9 c9 (by decide) ?_
  refine Dv.stx ([blk b983 32 [eq (.int .i64 0), eq (.string (⟨#[]⟩ : ByteArray)), eq (.string (⟨#[]⟩ : ByteArray)), eq (.string (⟨#[]⟩ : ByteArray)), eq (.string (⟨#[]⟩ : ByteArray)), eq (.bool false), eq (.bool false), eq (.int .i64 0), eq (.int .i64 0), eq (.int .i64 0), eq (.int .i64 0)], blk b982 32 [eq (.int .i64 a0.fKind), eq (.string t984), eq (.string t986), eq (.string a0.fEvent), eq (.string a0.fThread), eq (.bool a0.fPrivate), eq (.bool a0.fOn), eq (.int .i64 a0.fSpan), eq (.int .i64 a0.fState), eq (.int .i64 a0.fTick), eq (.int .i64 a0.fStamp)]] ++ F) rfl trivial rfl rfl (cells_one (one_eq rfl)) Tryz.underlying9 c9 rfl (j := 1) rfl (Nat.le_of_ble_eq_true rfl) rfl nofun ?_
  refine .fin ?_
  refine WP.seq ?_
  refine WP.reg [(0, false), (1, false), (2, false), (3, false), (4, true)] (by kernel_rfl) ?_
  refine Dv.fab rfl trivial rfl Tryz.underlying32 rfl Tryz.underlying9 c9 (by decide) ?_
  refine Dv.ldb rfl trivial rfl Tryz.underlying9 rfl (mem_at 1 rfl) rfl ?_
  obtain ⟨t988, h989, H⟩ := Gets.call H
  refine Dv.call rfl trivial cal11 rfl (concourseref01_Few.c h989) ?_
  refine Dv.fab rfl trivial rfl Tryz.underlying32 rfl Tryz.underlying9 c9 (by decide) ?_
  refine Dv.stx ([blk b983 32 [eq (.int .i64 0), eq (.string (⟨#[]⟩ : ByteArray)), eq (.string (⟨#[]⟩ : ByteArray)), eq (.string (⟨#[]⟩ : ByteArray)), eq (.string (⟨#[]⟩ : ByteArray)), eq (.bool false), eq (.bool false), eq (.int .i64 0), eq (.int .i64 0), eq (.int .i64 0), eq (.int .i64 0)], blk b982 32 [eq (.int .i64 a0.fKind), eq (.string t984), eq (.string t986), eq (.string t988), eq (.string a0.fThread), eq (.bool a0.fPrivate), eq (.bool a0.fOn), eq (.int .i64 a0.fSpan), eq (.int .i64 a0.fState), eq (.int .i64 a0.fTick), eq (.int .i64 a0.fStamp)]] ++ F) rfl trivial rfl rfl (cells_one (one_eq rfl)) Tryz.underlying9 c9 rfl (j := 1) rfl (Nat.le_of_ble_eq_true rfl) rfl nofun ?_
  refine .fin ?_
  refine WP.seq ?_
  refine WP.reg [(0, false), (1, false), (2, false), (3, false), (4, true)] (by kernel_rfl) ?_
  refine Dv.fab rfl trivial rfl Tryz.underlying32 rfl Tryz.underlying9 c9 (by decide) ?_
  refine Dv.ldb rfl trivial rfl Tryz.underlying9 rfl (mem_at 1 rfl) rfl ?_
  obtain ⟨t990, h991, H⟩ := Gets.call H
  refine Dv.call rfl trivial cal11 rfl (concourseref01_Few.c h991) ?_
  refine Dv.fab rfl trivial rfl Tryz.underlying32 rfl Tryz.underlying9 c9 (by decide) ?_
  refine Dv.stx ([blk b983 32 [eq (.int .i64 0), eq (.string (⟨#[]⟩ : ByteArray)), eq (.string (⟨#[]⟩ : ByteArray)), eq (.string (⟨#[]⟩ : ByteArray)), eq (.string (⟨#[]⟩ : ByteArray)), eq (.bool false), eq (.bool false), eq (.int .i64 0), eq (.int .i64 0), eq (.int .i64 0), eq (.int .i64 0)], blk b982 32 [eq (.int .i64 a0.fKind), eq (.string t984), eq (.string t986), eq (.string t988), eq (.string t990), eq (.bool a0.fPrivate), eq (.bool a0.fOn), eq (.int .i64 a0.fSpan), eq (.int .i64 a0.fState), eq (.int .i64 a0.fTick), eq (.int .i64 a0.fStamp)]] ++ F) rfl trivial rfl rfl (cells_one (one_eq rfl)) Tryz.underlying9 c9 rfl (j := 1) rfl (Nat.le_of_ble_eq_true rfl) rfl nofun ?_
  refine .fin ?_
  refine WP.seq ?_
  refine WP.reg [(0, false), (1, true)] (by kernel_rfl) ?_
  refine Dv.ldbs rfl trivial rfl Tryz.underlying32 rfl c32 (mem_at 1 rfl) (Nat.le_of_ble_eq_true rfl) ?_
  refine Dv.stx ([blk b983 32 [eq (.int .i64 a0.fKind), eq (.string t984), eq (.string t986), eq (.string t988), eq (.string t990), eq (.bool a0.fPrivate), eq (.bool a0.fOn), eq (.int .i64 a0.fSpan), eq (.int .i64 a0.fState), eq (.int .i64 a0.fTick), eq (.int .i64 a0.fStamp)], blk b982 32 [eq (.int .i64 a0.fKind), eq (.string t984), eq (.string t986), eq (.string t988), eq (.string t990), eq (.bool a0.fPrivate), eq (.bool a0.fOn), eq (.int .i64 a0.fSpan), eq (.int .i64 a0.fState), eq (.int .i64 a0.fTick), eq (.int .i64 a0.fStamp)]] ++ F) rfl trivial rfl rfl (cells_agg (ones_cons (one_eq rfl) (ones_cons (one_eq rfl) (ones_cons (one_eq rfl) (ones_cons (one_eq rfl) (ones_cons (one_eq rfl) (ones_cons (one_eq rfl) (ones_cons (one_eq rfl) (ones_cons (one_eq rfl) (ones_cons (one_eq rfl) (ones_cons (one_eq rfl) (ones_cons (one_eq rfl) ones_nil)))))))))))) Tryz.underlying32 c32 rfl (j := 0) rfl (Nat.le_of_ble_eq_true rfl) rfl nofun ?_
  refine .fin ?_
  obtain rfl := Gets.out H
  exact WP.retL (fun _ _ h => h) rfl () trivial (.cons (res_cells rfl Tryz.underlying32 rfl c32 (mem_at 0 rfl) rfl) .nil) rfl (st_seln 2 [0, 1] 2 rfl rfl rfl)
theorem concourseref15_turns.c {a0 : Edu} {r : (List Int)} (h : concourseref15_turns.f a0 = some r) : Pt Tryz.prog 45 [agg (Edu.enc a0)] (sl (intK .i64) r) := by
  unfold concourseref15_turns.f at h
  refine (Tr.body Tryz.func45 (c := _) rfl Tryz.ntmps45 (Nat.le_of_ble_eq_true rfl) fun R0 F => ?_).pt
  replace h := Gets.of h
  have H := h
  clear h
  refine WP.seq ?_
  refine WP.reg [(0, true), (1, false)] (by kernel_rfl) ?_
  refine Dv.box rfl trivial rfl (cells_agg (Edu.K.one _)) nofun (fun b992 => ?_)
  refine as0 rfl rfl ?_
  refine .fin ?_
  refine WP.seq ?_
  refine WP.seq ?_
  refine WP.reg [(0, false), (1, false), (2, false)] (by kernel_rfl) ?_
  refine Dv.fab rfl trivial rfl Tryz.underlying32 rfl Tryz.underlying3 c3 (by decide) ?_
  refine Dv.ldb rfl trivial rfl Tryz.underlying3 rfl (mem_at 0 rfl) rfl ?_
  refine Dv.bin rfl trivial rfl rfl (fun _ => run_eq) ?_
  refine .fin ?_
  refine WP.cond rfl (fun c993 => ?_) (fun c993 => ?_)
  · replace H := Gets.ct H c993
    refine WP.seq ?_
    refine WP.reg [(0, false), (1, false), (2, false), (3, false), (4, false), (5, false), (6, false), (7, false)] (by kernel_rfl) ?_
    refine Dv.fab rfl trivial rfl Tryz.underlying32 rfl Tryz.underlying3 c3 (by decide) ?_
    refine Dv.ldb rfl trivial rfl Tryz.underlying3 rfl (mem_at 0 rfl) rfl ?_
    refine Dv.bin rfl trivial rfl rfl (fun _ => run_add) ?_
    refine Dv.fab rfl trivial rfl Tryz.underlying32 rfl Tryz.underlying3 c3 (by decide) ?_
    refine Dv.ldb rfl trivial rfl Tryz.underlying3 rfl (mem_at 0 rfl) rfl ?_
    refine Dv.bin rfl trivial rfl rfl (fun _ => run_add) ?_
    refine Dv.lit (intK .i64) ([w64 (a0.fTick + 30), w64 (a0.fTick + 90)] : List Int) (css := [[eq (.int .i64 (w64 (a0.fTick + 30)))], [eq (.int .i64 (w64 (a0.fTick + 90)))]]) rfl trivial Tryz.underlying25 Tryz.underlying3 c3 z3 rfl (by decide) (by decide) rfl ⟨(cells_one (one_eq rfl)), ⟨(cells_one (one_eq rfl)), trivial⟩⟩ rfl rfl rfl ?_
    refine as0 rfl rfl ?_
    refine .fin ?_
    obtain rfl := Gets.out H
    exact WP.retL (fun _ _ h => h) rfl () trivial (.cons (res_tmp rfl) .nil) rfl (st_seln 1 [0] 1 rfl rfl rfl)
  · replace H := Gets.cf H c993
    refine WP.skip ?_
    refine WP.seq ?_
    refine WP.seq ?_
    refine WP.reg [(0, false), (1, false), (2, false)] (by kernel_rfl) ?_
    refine Dv.fab rfl trivial rfl Tryz.underlying32 rfl Tryz.underlying3 c3 (by decide) ?_
    refine Dv.ldb rfl trivial rfl Tryz.underlying3 rfl (mem_at 0 rfl) rfl ?_
    refine Dv.bin rfl trivial rfl rfl (fun _ => run_eq) ?_
    refine .fin ?_
    refine WP.cond rfl (fun c994 => ?_) (fun c994 => ?_)
    · replace H := Gets.ct H c994
      refine WP.seq ?_
      refine WP.reg [(0, false), (1, false), (2, false), (3, false), (4, false)] (by kernel_rfl) ?_
      refine Dv.fab rfl trivial rfl Tryz.underlying32 rfl Tryz.underlying3 c3 (by decide) ?_
      refine Dv.ldb rfl trivial rfl Tryz.underlying3 rfl (mem_at 0 rfl) rfl ?_
      refine Dv.bin rfl trivial rfl rfl (fun _ => run_add) ?_
      refine Dv.lit (intK .i64) ([w64 (a0.fTick + 90)] : List Int) (css := [[eq (.int .i64 (w64 (a0.fTick + 90)))]]) rfl trivial Tryz.underlying25 Tryz.underlying3 c3 z3 rfl (by decide) (by decide) rfl ⟨(cells_one (one_eq rfl)), trivial⟩ rfl rfl rfl ?_
      refine as0 rfl rfl ?_
      refine .fin ?_
      obtain rfl := Gets.out H
      exact WP.retL (fun _ _ h => h) rfl () trivial (.cons (res_tmp rfl) .nil) rfl (st_seln 1 [0] 1 rfl rfl rfl)
    · replace H := Gets.cf H c994
      refine WP.skip ?_
      refine WP.seq ?_
      refine WP.reg [(0, false)] (by kernel_rfl) ?_
      refine as0 rfl rfl ?_
      refine .fin ?_
      obtain rfl := Gets.out H
      exact WP.retL (fun _ _ h => h) rfl () trivial (.cons (res_wk (res_tmp rfl) wk_nil) .nil) rfl (st_seln 1 [0] 1 rfl rfl rfl)
theorem concourseref15_Turned.c {k : Nat} {a0 : TRef} {a1 : Int} {r : TRef × (List ByteArray)} (h : concourseref15_Turned.f k a0 a1 = some r) : Tr Tryz.prog 25 [agg (TRef.enc a0), eq (.int .i64 a1)] [] (γ := OV) (fun _ => True) (fun g => tup [agg (TRef.enc r.1), eq g.1]) (fun g => [own strK g.1 r.2]) := by
  unfold concourseref15_Turned.f at h
  refine Tr.body Tryz.func25 (c := _) rfl Tryz.ntmps25 (Nat.le_of_ble_eq_true rfl) fun R0 F => ?_
  replace h := Gets.of h
  have H := h
  clear h
  refine WP.seq ?_
  refine WP.reg [(0, true), (1, true), (2, false)] (by kernel_rfl) ?_
  refine Dv.box rfl trivial rfl (cells_agg (TRef.K.one _)) nofun (fun b995 => ?_)
  refine Dv.alloc (z := .agg #[.slice none 0 0, .slice none 0 0]) (qs := [eq (.slice none 0 0), eq (.slice none 0 0)]) rfl trivial z27 rfl nofun (fun b996 => ?_)
  refine as0 rfl rfl ?_
  refine .fin ?_
  refine WP.seq ?_
  refine WP.reg [(0, false)] (by kernel_rfl) ?_
  refine as0 rfl rfl ?_
  refine .fin ?_
  refine WP.seq ?_
  refine WP.reg [(0, false), (1, false), (2, false), (3, true), (4, false)] (by kernel_rfl) ?_
  refine Dv.fab rfl trivial rfl Tryz.underlying27 rfl Tryz.underlying22 c22 (by decide) ?_
  refine Dv.ldb rfl trivial rfl Tryz.underlying22 rfl (mem_at 1 rfl) rfl ?_
  refine Dv.lenl rfl trivial rfl Tryz.underlying22 ?_
  obtain ⟨g997, H⟩ := Gets.grd H
  obtain ⟨ti998, ti998a, ti998b, ti998c, ti998d⟩ := inf3
  refine Dv.mks (Kd := (intK .i64)) (0 : Int) rfl trivial rfl rfl Tryz.underlying25 ti998a ti998b ti998c ti998d rfl (by decide) rfl g997 nofun (fun v999 => ?_)
  refine as0 rfl rfl ?_
  refine .fin ?_
  refine WP.seqn H (fun q1033 : (Int × Bool × (List Int) × (List ByteArray)) × OV => q1033.1) (fun q1033 : (Int × Bool × (List Int) × (List ByteArray)) × OV => [(0, agg (TRef.enc a0)), (1, eq (.int .i64 a1)), (2, eq (.pointer (some ⟨b995, 0, none⟩))), (4, eq (.pointer (some ⟨b996, 0, none⟩))), (5, eq (.slice none 0 0)), (6, eq q1033.2.1), (7, eq v999.1), (8, eq (.int .i64 q1033.1.1)), (20, eq (.bool q1033.1.2.1))]) (fun q1033 : (Int × Bool × (List Int) × (List ByteArray)) × OV => [blk b996 27 [eq (.slice none 0 0), eq (.slice none 0 0)], blk b995 27 [sl Edu.K a0.fL, sl (intK .i64) a0.fTold], own (intK .i64) v999.1 q1033.1.2.2.1, own strK q1033.2.1 q1033.1.2.2.2] ++ F) (fun q1033 H => ?_) (fun H => ?_)
  · obtain ⟨p1000, v1001⟩ := q1033
    refine WP.seq ?_
    refine WP.reg [(0, false), (1, false), (2, false), (3, false), (4, false), (5, true), (6, false)] (by kernel_rfl) ?_
    refine Dv.fab rfl trivial rfl Tryz.underlying27 rfl Tryz.underlying22 c22 (by decide) ?_
    refine Dv.ldb rfl trivial rfl Tryz.underlying22 rfl (mem_at 1 rfl) rfl ?_
    refine mv0 rfl rfl ?_
    refine Dv.bld (css := [[sl Edu.K a0.fL], [eq v999.1]]) rfl trivial Tryz.underlying27 pl27 z27 rfl ⟨(cells_one one_sl), ⟨(cells_one one_ov), trivial⟩⟩ rfl rfl ?_
    refine mv0 rfl rfl ?_
    refine Dv.stx ([blk b996 27 [sl Edu.K a0.fL, eq v999.1], blk b995 27 [sl Edu.K a0.fL, sl (intK .i64) a0.fTold], own (intK .i64) v999.1 p1000.2.2.1, own strK v1001.1 p1000.2.2.2] ++ F) rfl trivial rfl rfl (cells_agg (ones_cons one_sl (ones_cons one_ov ones_nil))) Tryz.underlying27 c27 rfl (j := 0) rfl (Nat.le_of_ble_eq_true rfl) rfl nofun ?_
    refine as0 rfl rfl ?_
    refine .fin ?_
    refine WP.gh (gh_frz (E' := [(4, eq (.pointer (some ⟨b996, 0, none⟩))), (5, eq v1001.1)]) (l' := [blk b996 27 [sl Edu.K a0.fL, sl (intK .i64) p1000.2.2.1], blk b995 27 [sl Edu.K a0.fL, sl (intK .i64) a0.fTold], own strK v1001.1 p1000.2.2.2] ++ F) 2 rfl (cve_cons rfl cv_id (cve_cons rfl cv_id cve_nil)) (all2_app (.cons (cva_blk (.cons cv_id (.cons cv_eq .nil))) (.cons cva_id (.cons cva_id .nil))) fun _ => cva_id)) (fun _ _ => ?_)
    obtain rfl := Gets.out H
    exact WP.retL (fun _ _ h => h) rfl v1001 trivial (.cons (res_cells rfl Tryz.underlying27 rfl c27 (mem_at 0 rfl) rfl) (.cons (res_tmp rfl) .nil)) rfl (st_seln 3 [0, 1, 2] 2 rfl rfl rfl)
  · refine WP.seq ?_
    refine WP.reg [(0, false)] (by kernel_rfl) ?_
    refine as0 rfl rfl ?_
    refine .fin ?_
    refine WP.block ?_
    refine WP.gh (gh_of (st_nil strK none)) (fun _ _ => ?_)
    refine WP.gh (l' := fun _ => [blk b996 27 [eq (.slice none 0 0), eq (.slice none 0 0)], blk b995 27 [sl Edu.K a0.fL, sl (intK .i64) a0.fTold], own (intK .i64) v999.1 (List.replicate (a0.fL.length : Int).toNat (0 : Int)), own strK nilV.1 ([] : List ByteArray)] ++ F) (gh_of (st_selgn 4 [2, 3, 1, 0] 0 rfl rfl rfl)) (fun _ _ => ?_)
    refine WP.loopg (fun j_ (p1032 : Int × (List Int) × (List ByteArray) × OV) => concourseref15_Turned.l0 k a0 a1 j_ p1032.1 p1032.2.1 p1032.2.2.1) (0, List.replicate (a0.fL.length : Int).toNat (0 : Int), ([] : List ByteArray), nilV) H (fun p1032 => [(0, agg (TRef.enc a0)), (1, eq (.int .i64 a1)), (2, eq (.pointer (some ⟨b995, 0, none⟩))), (4, eq (.pointer (some ⟨b996, 0, none⟩))), (5, eq (.slice none 0 0)), (6, eq p1032.2.2.2.1), (7, eq v999.1), (8, eq (.int .i64 p1032.1))]) (fun p1032 => [blk b996 27 [eq (.slice none 0 0), eq (.slice none 0 0)], blk b995 27 [sl Edu.K a0.fL, sl (intK .i64) a0.fTold], own (intK .i64) v999.1 p1032.2.1, own strK p1032.2.2.2.1 p1032.2.2.1] ++ F) (weak_cons rfl (weak_cons rfl (weak_cons rfl (weak_cons rfl (weak_cons rfl (weak_cons rfl (weak_cons rfl (weak_cons rfl weak_nil)))))))) (List.Perm.refl _) ?_
    rintro j_ ⟨x1002, x1003, x1004, v1005⟩ H
    rcases j_ with _ | j1031
    · exact (Gets.no H).elim
    replace H : Gets (concourseref15_Turned.l0 k a0 a1 (j1031 + 1) x1002 x1003 x1004) _ := H
    rw [concourseref15_Turned.l0] at H
    refine WP.seq ?_
    refine WP.seq ?_
    refine WP.reg [(0, false), (1, false), (2, false), (3, false), (4, false)] (by kernel_rfl) ?_
    refine mv0 rfl rfl ?_
    refine Dv.fab rfl trivial rfl Tryz.underlying27 rfl Tryz.underlying22 c22 (by decide) ?_
    refine Dv.ldb rfl trivial rfl Tryz.underlying22 rfl (mem_at 1 rfl) rfl ?_
    refine Dv.lenl rfl trivial rfl Tryz.underlying22 ?_
    refine Dv.bin rfl trivial rfl rfl (fun _ => run_lt) ?_
    refine .fin ?_
    refine WP.cond rfl (fun c1006 => ?_) (fun c1006 => ?_)
    · replace H := Gets.ct H c1006
      refine WP.skip ?_
      refine WP.seqn H (fun q1030 : ((List Int) × Bool × Int × Bool × Bool × (List ByteArray)) × OV => q1030.1) (fun q1030 : ((List Int) × Bool × Int × Bool × Bool × (List ByteArray)) × OV => [(0, agg (TRef.enc a0)), (1, eq (.int .i64 a1)), (2, eq (.pointer (some ⟨b995, 0, none⟩))), (4, eq (.pointer (some ⟨b996, 0, none⟩))), (5, eq (.slice none 0 0)), (6, eq q1030.2.1), (7, eq v999.1), (8, eq (.int .i64 x1002)), (9, sl (intK .i64) q1030.1.1), (10, eq (.bool q1030.1.2.1)), (11, eq (.int .i64 q1030.1.2.2.1)), (20, eq (.bool (decide (x1002 < (a0.fL.length : Int))))), (42, eq (.bool q1030.1.2.2.2.1)), (66, eq (.bool q1030.1.2.2.2.2.1))]) (fun q1030 : ((List Int) × Bool × Int × Bool × Bool × (List ByteArray)) × OV => [blk b996 27 [eq (.slice none 0 0), eq (.slice none 0 0)], blk b995 27 [sl Edu.K a0.fL, sl (intK .i64) a0.fTold], own (intK .i64) v999.1 (x1003.set x1002.toNat (max ((intK .i64).at a0.fTold x1002) a1)), own strK q1030.2.1 q1030.1.2.2.2.2.2] ++ F) (fun q1030 H => ?_) (fun H => ?_)
      · obtain ⟨p1007, v1008⟩ := q1030
        refine WP.reg [(0, false), (1, false), (2, false)] (by kernel_rfl) ?_
        refine mv0 rfl rfl ?_
        refine Dv.bin rfl trivial rfl rfl (fun _ => run_add) ?_
        refine as0 rfl rfl ?_
        refine .fin ?_
        exact Back.mk j1031 (w64 (x1002 + 1), x1003.set x1002.toNat (max ((intK .i64).at a0.fTold x1002) a1), p1007.2.2.2.2.2, v1008) (Nat.lt_succ_self _) H (weak_cons rfl (weak_cons rfl (weak_cons rfl (weak_cons rfl (weak_cons rfl (weak_cons rfl (weak_cons rfl (weak_cons rfl weak_nil)))))))) (List.Perm.refl _)
      · refine WP.block ?_
        refine WP.seq ?_
        refine WP.reg [(0, false), (1, false), (2, false), (3, false), (4, false), (5, false), (6, false), (7, false), (8, false), (9, false), (10, true)] (by kernel_rfl) ?_
        refine mv0 rfl rfl ?_
        refine mv0 rfl rfl ?_
        refine Dv.fab rfl trivial rfl Tryz.underlying27 rfl Tryz.underlying25 c25 (by decide) ?_
        refine Dv.ldb rfl trivial rfl Tryz.underlying25 rfl (mem_at 1 rfl) rfl ?_
        refine mv0 rfl rfl ?_
        obtain ⟨g1009, H⟩ := Gets.grd H
        refine Dv.ixr rfl trivial rfl rfl Tryz.underlying25 Tryz.underlying3 c3 g1009.1 g1009.2 ?_
        refine Dv.ldr rfl trivial rfl Tryz.underlying3 rfl rfl ?_
        refine mv0 rfl rfl ?_
        refine Dv.maxi rfl trivial rfl rfl ?_
        obtain ⟨g1010, H⟩ := Gets.grd H
        have h1011 : x1002.toNat < x1003.length := idx_lt g1010
        refine Dv.ixw rfl trivial rfl (mem_at 2 rfl) rfl Tryz.underlying25 Tryz.underlying3 c3 g1010.1 g1010.2 ?_
        refine Dv.stw (j := x1002.toNat) (f := 0) (jj := 2) (max ((intK .i64).at a0.fTold x1002) a1) rfl trivial rfl rfl (cells_one (one_eq rfl)) Tryz.underlying3 c3 rfl rfl h1011 (Nat.le_of_ble_eq_true rfl) rfl nofun ?_
        refine .fin ?_
        refine WP.seq ?_
        refine WP.reg [(0, false), (1, false), (2, false), (3, false), (4, false), (5, false), (6, false)] (by kernel_rfl) ?_
        refine Dv.fab rfl trivial rfl Tryz.underlying27 rfl Tryz.underlying22 c22 (by decide) ?_
        refine Dv.ldb rfl trivial rfl Tryz.underlying22 rfl (mem_at 1 rfl) rfl ?_
        refine mv0 rfl rfl ?_
        obtain ⟨g1012, H⟩ := Gets.grd H
        refine Dv.ixr rfl trivial rfl rfl Tryz.underlying22 Tryz.underlying32 c32 g1012.1 g1012.2 ?_
        refine Dv.ldrs rfl trivial rfl Tryz.underlying32 rfl c32 (Nat.le_of_ble_eq_true rfl) ?_
        obtain ⟨t1013, h1014, H⟩ := Gets.call H
        refine Dv.call rfl trivial cal45 rfl (concourseref15_turns.c h1014) ?_
        refine as0 rfl rfl ?_
        refine .fin ?_
        refine WP.seq ?_
        refine WP.reg [(0, false)] (by kernel_rfl) ?_
        refine as0 rfl rfl ?_
        refine .fin ?_
        refine WP.seqn H id (fun p1015 : Bool × Int × Bool => [(0, agg (TRef.enc a0)), (1, eq (.int .i64 a1)), (2, eq (.pointer (some ⟨b995, 0, none⟩))), (4, eq (.pointer (some ⟨b996, 0, none⟩))), (5, eq (.slice none 0 0)), (6, eq v1005.1), (7, eq v999.1), (8, eq (.int .i64 x1002)), (9, sl (intK .i64) t1013), (10, eq (.bool p1015.1)), (11, eq (.int .i64 p1015.2.1)), (20, eq (.bool (decide (x1002 < (a0.fL.length : Int))))), (42, eq (.bool p1015.2.2))]) (fun p1015 : Bool × Int × Bool => [blk b996 27 [eq (.slice none 0 0), eq (.slice none 0 0)], blk b995 27 [sl Edu.K a0.fL, sl (intK .i64) a0.fTold], own (intK .i64) v999.1 (x1003.set x1002.toNat (max ((intK .i64).at a0.fTold x1002) a1)), own strK v1005.1 x1004] ++ F) (fun p1015 H => ?_) (fun H => ?_)
        · refine WP.seq ?_
          refine WP.reg [(0, false)] (by kernel_rfl) ?_
          refine mv0 rfl rfl ?_
          refine .fin ?_
          refine WP.cond rfl (fun c1016 => ?_) (fun c1016 => ?_)
          · replace H := Gets.ct H c1016
            refine WP.reg [(0, false), (1, false), (2, false), (3, false), (4, false), (5, false), (6, false), (7, false), (8, true), (9, false)] (by kernel_rfl) ?_
            refine mv0 rfl rfl ?_
            refine Dv.fab rfl trivial rfl Tryz.underlying27 rfl Tryz.underlying22 c22 (by decide) ?_
            refine Dv.ldb rfl trivial rfl Tryz.underlying22 rfl (mem_at 1 rfl) rfl ?_
            refine mv0 rfl rfl ?_
            obtain ⟨g1017, H⟩ := Gets.grd H
            refine Dv.ixr rfl trivial rfl rfl Tryz.underlying22 Tryz.underlying32 c32 g1017.1 g1017.2 ?_
            refine Dv.far rfl trivial rfl Tryz.underlying32 rfl Tryz.underlying9 c9 (by decide) (Nat.le_of_ble_eq_true rfl) ?_
            refine Dv.ldr rfl trivial rfl Tryz.underlying9 rfl rfl ?_
            refine Dv.lit strK ([(Edu.K.at a0.fL x1002).fUser] : List ByteArray) (css := [[eq (.string ((Edu.K.at a0.fL x1002).fUser))]]) rfl trivial Tryz.underlying39 Tryz.underlying9 c9 z9 rfl (by decide) (by decide) rfl ⟨(cells_one (one_eq rfl)), trivial⟩ rfl rfl rfl ?_
            obtain ⟨g1018, H⟩ := Gets.grd H
            refine Dv.appx (jj := 3) (ys := ([(Edu.K.at a0.fL x1002).fUser] : List ByteArray)) (fun v1019 : OV => [blk b996 27 [eq (.slice none 0 0), eq (.slice none 0 0)], blk b995 27 [sl Edu.K a0.fL, sl (intK .i64) a0.fTold], own (intK .i64) v999.1 (x1003.set x1002.toNat (max ((intK .i64).at a0.fTold x1002) a1)), own strK v1019.1 (x1004 ++ ([(Edu.K.at a0.fL x1002).fUser] : List ByteArray))] ++ F) rfl trivial rfl rfl rfl src_sl Tryz.underlying39 (.inr ⟨_, Tryz.underlying39⟩) inf9 rfl (by decide) g1018 rfl nofun (fun v1019 => ?_)
            refine as0 rfl rfl ?_
            refine .fin ?_
            replace H := Gets.out H
            exact Jn.mk ((t1013, p1015.1, p1015.2.1, p1015.2.2, p1015.1, x1004 ++ ([(Edu.K.at a0.fL x1002).fUser] : List ByteArray)), v1019) H (weak_cons rfl (weak_cons rfl (weak_cons rfl (weak_cons rfl (weak_cons rfl (weak_cons rfl (weak_cons rfl (weak_cons rfl (weak_cons rfl (weak_cons rfl (weak_cons rfl (weak_cons rfl (weak_cons rfl (weak_cons rfl weak_nil)))))))))))))) (List.Perm.refl _)
          · replace H := Gets.cf H c1016
            refine WP.skip ?_
            replace H := Gets.out H
            exact Jn.mk ((t1013, p1015.1, p1015.2.1, p1015.2.2, p1015.1, x1004), v1005) H (weak_cons rfl (weak_cons rfl (weak_cons rfl (weak_cons rfl (weak_cons rfl (weak_cons rfl (weak_cons rfl (weak_cons rfl (weak_cons rfl (weak_cons rfl (weak_cons rfl (weak_cons rfl (weak_cons rfl (weak_cons rfl weak_nil)))))))))))))) (List.Perm.refl _)
        · refine WP.seq ?_
          refine WP.reg [(0, false)] (by kernel_rfl) ?_
          refine as0 rfl rfl ?_
          refine .fin ?_
          refine WP.block ?_
          refine WP.gh (l' := fun _ => [blk b996 27 [eq (.slice none 0 0), eq (.slice none 0 0)], blk b995 27 [sl Edu.K a0.fL, sl (intK .i64) a0.fTold], own (intK .i64) v999.1 (x1003.set x1002.toNat (max ((intK .i64).at a0.fTold x1002) a1)), own strK v1005.1 x1004] ++ F) (gh_of (st_selgn 4 [0, 1, 2, 3] 0 rfl rfl rfl)) (fun _ _ => ?_)
          refine WP.loopg (fun j_ (p1029 : Bool × Int) => concourseref15_Turned.l1 k a0 a1 x1002 t1013 j_ p1029.1 p1029.2) (false, 0) H (fun p1029 => [(0, agg (TRef.enc a0)), (1, eq (.int .i64 a1)), (2, eq (.pointer (some ⟨b995, 0, none⟩))), (4, eq (.pointer (some ⟨b996, 0, none⟩))), (5, eq (.slice none 0 0)), (6, eq v1005.1), (7, eq v999.1), (8, eq (.int .i64 x1002)), (9, sl (intK .i64) t1013), (10, eq (.bool p1029.1)), (11, eq (.int .i64 p1029.2)), (20, eq (.bool (decide (x1002 < (a0.fL.length : Int)))))]) (fun p1029 => [blk b996 27 [eq (.slice none 0 0), eq (.slice none 0 0)], blk b995 27 [sl Edu.K a0.fL, sl (intK .i64) a0.fTold], own (intK .i64) v999.1 (x1003.set x1002.toNat (max ((intK .i64).at a0.fTold x1002) a1)), own strK v1005.1 x1004] ++ F) (weak_cons rfl (weak_cons rfl (weak_cons rfl (weak_cons rfl (weak_cons rfl (weak_cons rfl (weak_cons rfl (weak_cons rfl (weak_cons rfl (weak_cons rfl (weak_cons rfl (weak_cons rfl weak_nil)))))))))))) (List.Perm.refl _) ?_
          rintro j_ ⟨x1020, x1021⟩ H
          rcases j_ with _ | j1028
          · exact (Gets.no H).elim
          replace H : Gets (concourseref15_Turned.l1 k a0 a1 x1002 t1013 (j1028 + 1) x1020 x1021) _ := H
          rw [concourseref15_Turned.l1] at H
          refine WP.seq ?_
          refine WP.seq ?_
          refine WP.reg [(0, false), (1, false), (2, false), (3, false)] (by kernel_rfl) ?_
          refine mv0 rfl rfl ?_
          refine mv0 rfl rfl ?_
          refine Dv.lenl rfl trivial rfl Tryz.underlying25 ?_
          refine Dv.bin rfl trivial rfl rfl (fun _ => run_lt) ?_
          refine .fin ?_
          refine WP.cond rfl (fun c1022 => ?_) (fun c1022 => ?_)
          · replace H := Gets.ct H c1022
            refine WP.skip ?_
            refine WP.seq ?_
            refine WP.block ?_
            refine WP.dreg Tryz.checked.mixed [(0, false), (1, false), (2, false), (3, false), (4, false), (5, false), (6, false), (7, false), (8, false), (9, false), (10, false), (11, false), (12, false), (13, false), (14, false), (15, false), (16, false), (17, false), (18, false), (19, false), (20, false), (21, false)] (by kernel_rfl) ?_
            refine mv0 rfl rfl ?_
            refine mv0 rfl rfl ?_
            cases c1023 : x1020
            · replace H := Gets.cf H c1023
              refine Dv.mv rfl ⟨_, _, rfl, rfl, rfl⟩ rfl ?_
              refine Dv.mv rfl ⟨_, _, rfl, rfl, rfl⟩ rfl ?_
              obtain ⟨g1024, H⟩ := Gets.grd H
              refine Dv.ixr rfl ⟨_, _, rfl, rfl, rfl⟩ rfl rfl Tryz.underlying25 Tryz.underlying3 c3 g1024.1 g1024.2 ?_
              refine Dv.ldr rfl ⟨_, _, rfl, rfl, rfl⟩ rfl Tryz.underlying3 rfl rfl ?_
              refine Dv.mv rfl ⟨_, _, rfl, rfl, rfl⟩ rfl ?_
              refine Dv.bin rfl ⟨_, _, rfl, rfl, rfl⟩ rfl rfl (fun _ => run_le) ?_
              refine Dv.mv rfl ⟨_, _, rfl, rfl, rfl⟩ rfl ?_
              cases c1025 : decide (((intK .i64).at t1013 x1021) ≤ a1)
              · replace H := Gets.cf H c1025
                refine sk rfl rfl rfl rfl rfl ?_
                refine sk rfl rfl rfl rfl rfl ?_
                refine sk rfl rfl rfl rfl rfl ?_
                refine sk rfl rfl rfl rfl rfl ?_
                refine sk rfl rfl rfl rfl rfl ?_
                refine sk rfl rfl rfl rfl rfl ?_
                refine sk rfl rfl rfl rfl rfl ?_
                refine sk rfl rfl rfl rfl rfl ?_
                refine sk rfl rfl rfl rfl rfl ?_
                refine sk rfl rfl rfl rfl rfl ?_
                refine Dv.pickF rfl ⟨_, _, rfl, rfl, rfl⟩ rfl rfl ?_
                refine Dv.pickF rfl trivial rfl rfl ?_
                refine as0 rfl rfl ?_
                refine .fin ?_
                refine WP.reg [(0, false), (1, false), (2, false)] (by kernel_rfl) ?_
                refine mv0 rfl rfl ?_
                refine Dv.bin rfl trivial rfl rfl (fun _ => run_add) ?_
                refine as0 rfl rfl ?_
                refine .fin ?_
                exact Back.mk j1028 (false, w64 (x1021 + 1)) (Nat.lt_succ_self _) H (weak_cons rfl (weak_cons rfl (weak_cons rfl (weak_cons rfl (weak_cons rfl (weak_cons rfl (weak_cons rfl (weak_cons rfl (weak_cons rfl (weak_cons rfl (weak_cons rfl (weak_cons rfl weak_nil)))))))))))) (List.Perm.refl _)
              · replace H := Gets.ct H c1025
                refine Dv.mv rfl ⟨_, _, rfl, rfl, rfl⟩ rfl ?_
                refine Dv.mv rfl ⟨_, _, rfl, rfl, rfl⟩ rfl ?_
                obtain ⟨g1026, H⟩ := Gets.grd H
                refine Dv.ixr rfl ⟨_, _, rfl, rfl, rfl⟩ rfl rfl Tryz.underlying25 Tryz.underlying3 c3 g1026.1 g1026.2 ?_
                refine Dv.ldr rfl ⟨_, _, rfl, rfl, rfl⟩ rfl Tryz.underlying3 rfl rfl ?_
                refine Dv.fab rfl ⟨_, _, rfl, rfl, rfl⟩ rfl Tryz.underlying27 rfl Tryz.underlying25 c25 (by decide) ?_
                refine Dv.ldb rfl ⟨_, _, rfl, rfl, rfl⟩ rfl Tryz.underlying25 rfl (mem_at 1 rfl) rfl ?_
                refine Dv.mv rfl ⟨_, _, rfl, rfl, rfl⟩ rfl ?_
                obtain ⟨g1027, H⟩ := Gets.grd H
                refine Dv.ixr rfl ⟨_, _, rfl, rfl, rfl⟩ rfl rfl Tryz.underlying25 Tryz.underlying3 c3 g1027.1 g1027.2 ?_
                refine Dv.ldr rfl ⟨_, _, rfl, rfl, rfl⟩ rfl Tryz.underlying3 rfl rfl ?_
                refine Dv.bin rfl ⟨_, _, rfl, rfl, rfl⟩ rfl rfl (fun _ => run_gt) ?_
                refine Dv.pickT rfl ⟨_, _, rfl, rfl, rfl⟩ rfl rfl ?_
                refine Dv.pickF rfl trivial rfl rfl ?_
                refine as0 rfl rfl ?_
                refine .fin ?_
                refine WP.reg [(0, false), (1, false), (2, false)] (by kernel_rfl) ?_
                refine mv0 rfl rfl ?_
                refine Dv.bin rfl trivial rfl rfl (fun _ => run_add) ?_
                refine as0 rfl rfl ?_
                refine .fin ?_
                exact Back.mk j1028 (decide (((intK .i64).at a0.fTold x1002) < ((intK .i64).at t1013 x1021)), w64 (x1021 + 1)) (Nat.lt_succ_self _) H (weak_cons rfl (weak_cons rfl (weak_cons rfl (weak_cons rfl (weak_cons rfl (weak_cons rfl (weak_cons rfl (weak_cons rfl (weak_cons rfl (weak_cons rfl (weak_cons rfl (weak_cons rfl weak_nil)))))))))))) (List.Perm.refl _)
            · replace H := Gets.ct H c1023
              refine sk rfl rfl rfl rfl rfl ?_
              refine sk rfl rfl rfl rfl rfl ?_
              refine sk rfl rfl rfl rfl rfl ?_
              refine sk rfl rfl rfl rfl rfl ?_
              refine sk rfl rfl rfl rfl rfl ?_
              refine sk rfl rfl rfl rfl rfl ?_
              refine sk rfl rfl rfl rfl rfl ?_
              refine Dv.skip rfl ⟨_, _, rfl, rfl, .inr rfl⟩ ?_
              refine Dv.skip rfl ⟨_, _, rfl, rfl, .inr rfl⟩ ?_
              refine Dv.skip rfl ⟨_, _, rfl, rfl, .inr rfl⟩ ?_
              refine Dv.skip rfl ⟨_, _, rfl, rfl, .inr rfl⟩ ?_
              refine Dv.skip rfl ⟨_, _, rfl, rfl, .inr rfl⟩ ?_
              refine Dv.skip rfl ⟨_, _, rfl, rfl, .inr rfl⟩ ?_
              refine Dv.skip rfl ⟨_, _, rfl, rfl, .inr rfl⟩ ?_
              refine Dv.skip rfl ⟨_, _, rfl, rfl, .inr rfl⟩ ?_
              refine Dv.skip rfl ⟨_, _, rfl, rfl, .inr rfl⟩ ?_
              refine Dv.skip rfl ⟨_, _, rfl, rfl, .inr rfl⟩ ?_
              refine sk rfl rfl rfl rfl rfl ?_
              refine Dv.pickT rfl trivial rfl rfl ?_
              refine as0 rfl rfl ?_
              refine .fin ?_
              refine WP.reg [(0, false), (1, false), (2, false)] (by kernel_rfl) ?_
              refine mv0 rfl rfl ?_
              refine Dv.bin rfl trivial rfl rfl (fun _ => run_add) ?_
              refine as0 rfl rfl ?_
              refine .fin ?_
              exact Back.mk j1028 (true, w64 (x1021 + 1)) (Nat.lt_succ_self _) H (weak_cons rfl (weak_cons rfl (weak_cons rfl (weak_cons rfl (weak_cons rfl (weak_cons rfl (weak_cons rfl (weak_cons rfl (weak_cons rfl (weak_cons rfl (weak_cons rfl (weak_cons rfl weak_nil)))))))))))) (List.Perm.refl _)
          · replace H := Gets.cf H c1022
            refine WP.exit ?_
            replace H := Gets.out H
            exact Jn.mk (x1020, x1021, decide (x1021 < (t1013.length : Int))) H (weak_cons rfl (weak_cons rfl (weak_cons rfl (weak_cons rfl (weak_cons rfl (weak_cons rfl (weak_cons rfl (weak_cons rfl (weak_cons rfl (weak_cons rfl (weak_cons rfl (weak_cons rfl (weak_cons rfl weak_nil))))))))))))) (List.Perm.refl _)
    · replace H := Gets.cf H c1006
      refine WP.exit ?_
      replace H := Gets.out H
      exact Jn.mk ((x1002, decide (x1002 < (a0.fL.length : Int)), x1003, x1004), v1005) H (weak_cons rfl (weak_cons rfl (weak_cons rfl (weak_cons rfl (weak_cons rfl (weak_cons rfl (weak_cons rfl (weak_cons rfl (weak_cons rfl weak_nil))))))))) (List.Perm.refl _)
theorem concourseref15_Next.c {k : Nat} {a0 : TRef} {r : Int × Bool} (h : concourseref15_Next.f k a0 = some r) : Pt Tryz.prog 26 [agg (TRef.enc a0)] (tup [eq (.int .i64 r.1), eq (.bool r.2)]) := by
  unfold concourseref15_Next.f at h
  refine (Tr.body Tryz.func26 (c := _) rfl Tryz.ntmps26 (Nat.le_of_ble_eq_true rfl) fun R0 F => ?_).pt
  replace h := Gets.of h
  have H := h
  clear h
  refine WP.seq ?_
  refine WP.reg [(0, true), (1, false), (2, false)] (by kernel_rfl) ?_
  refine Dv.box rfl trivial rfl (cells_agg (TRef.K.one _)) nofun (fun b1034 => ?_)
  refine as0 rfl rfl ?_
  refine as0 rfl rfl ?_
  refine .fin ?_
  refine WP.seq ?_
  refine WP.reg [(0, false)] (by kernel_rfl) ?_
  refine as0 rfl rfl ?_
  refine .fin ?_
  refine WP.seq ?_
  refine WP.reg [(0, false)] (by kernel_rfl) ?_
  refine as0 rfl rfl ?_
  refine .fin ?_
  refine WP.seqn H id (fun p1035 : Int × Bool × Int × Bool => [(0, agg (TRef.enc a0)), (1, eq (.pointer (some ⟨b1034, 0, none⟩))), (2, eq (.int .i64 0)), (3, eq (.bool false)), (4, eq (.int .i64 p1035.1)), (5, eq (.bool p1035.2.1)), (6, eq (.int .i64 p1035.2.2.1)), (13, eq (.bool p1035.2.2.2))]) (fun p1035 : Int × Bool × Int × Bool => [blk b1034 27 [sl Edu.K a0.fL, sl (intK .i64) a0.fTold]] ++ F) (fun p1035 H => ?_) (fun H => ?_)
  · refine WP.seq ?_
    refine WP.reg [(0, false), (1, false), (2, false), (3, false)] (by kernel_rfl) ?_
    refine mv0 rfl rfl ?_
    refine mv0 rfl rfl ?_
    refine as0 rfl rfl ?_
    refine as0 rfl rfl ?_
    refine .fin ?_
    obtain rfl := Gets.out H
    exact WP.retL (fun _ _ h => h) rfl () trivial (.cons (res_tmp rfl) (.cons (res_tmp rfl) .nil)) rfl (st_seln 1 [0] 1 rfl rfl rfl)
  · refine WP.seq ?_
    refine WP.reg [(0, false)] (by kernel_rfl) ?_
    refine as0 rfl rfl ?_
    refine .fin ?_
    refine WP.block ?_
    refine WP.gh (l' := fun _ => [blk b1034 27 [sl Edu.K a0.fL, sl (intK .i64) a0.fTold]] ++ F) (gh_of (st_selgn 1 [0] 0 rfl rfl rfl)) (fun _ _ => ?_)
    refine WP.loopg (fun j_ (p1061 : Int × Bool × Int) => concourseref15_Next.l0 k a0 j_ p1061.1 p1061.2.1 p1061.2.2) (0, false, 0) H (fun p1061 => [(0, agg (TRef.enc a0)), (1, eq (.pointer (some ⟨b1034, 0, none⟩))), (2, eq (.int .i64 0)), (3, eq (.bool false)), (4, eq (.int .i64 p1061.1)), (5, eq (.bool p1061.2.1)), (6, eq (.int .i64 p1061.2.2))]) (fun p1061 => [blk b1034 27 [sl Edu.K a0.fL, sl (intK .i64) a0.fTold]] ++ F) (weak_cons rfl (weak_cons rfl (weak_cons rfl (weak_cons rfl (weak_cons rfl (weak_cons rfl (weak_cons rfl weak_nil))))))) (List.Perm.refl _) ?_
    rintro j_ ⟨x1036, x1037, x1038⟩ H
    rcases j_ with _ | j1060
    · exact (Gets.no H).elim
    replace H : Gets (concourseref15_Next.l0 k a0 (j1060 + 1) x1036 x1037 x1038) _ := H
    rw [concourseref15_Next.l0] at H
    refine WP.seq ?_
    refine WP.seq ?_
    refine WP.reg [(0, false), (1, false), (2, false), (3, false), (4, false)] (by kernel_rfl) ?_
    refine mv0 rfl rfl ?_
    refine Dv.fab rfl trivial rfl Tryz.underlying27 rfl Tryz.underlying22 c22 (by decide) ?_
    refine Dv.ldb rfl trivial rfl Tryz.underlying22 rfl (mem_at 0 rfl) rfl ?_
    refine Dv.lenl rfl trivial rfl Tryz.underlying22 ?_
    refine Dv.bin rfl trivial rfl rfl (fun _ => run_lt) ?_
    refine .fin ?_
    refine WP.cond rfl (fun c1039 => ?_) (fun c1039 => ?_)
    · replace H := Gets.ct H c1039
      refine WP.skip ?_
      refine WP.seqn H id (fun p1040 : Int × Bool × (List Int) × Int × Bool => [(0, agg (TRef.enc a0)), (1, eq (.pointer (some ⟨b1034, 0, none⟩))), (2, eq (.int .i64 0)), (3, eq (.bool false)), (4, eq (.int .i64 p1040.1)), (5, eq (.bool p1040.2.1)), (6, eq (.int .i64 x1038)), (7, sl (intK .i64) p1040.2.2.1), (8, eq (.int .i64 p1040.2.2.2.1)), (13, eq (.bool (decide (x1038 < (a0.fL.length : Int))))), (25, eq (.bool p1040.2.2.2.2))]) (fun p1040 : Int × Bool × (List Int) × Int × Bool => [blk b1034 27 [sl Edu.K a0.fL, sl (intK .i64) a0.fTold]] ++ F) (fun p1040 H => ?_) (fun H => ?_)
      · refine WP.reg [(0, false), (1, false), (2, false)] (by kernel_rfl) ?_
        refine mv0 rfl rfl ?_
        refine Dv.bin rfl trivial rfl rfl (fun _ => run_add) ?_
        refine as0 rfl rfl ?_
        refine .fin ?_
        exact Back.mk j1060 (p1040.1, p1040.2.1, w64 (x1038 + 1)) (Nat.lt_succ_self _) H (weak_cons rfl (weak_cons rfl (weak_cons rfl (weak_cons rfl (weak_cons rfl (weak_cons rfl (weak_cons rfl weak_nil))))))) (List.Perm.refl _)
      · refine WP.block ?_
        refine WP.seq ?_
        refine WP.reg [(0, false), (1, false), (2, false), (3, false), (4, false), (5, false), (6, false)] (by kernel_rfl) ?_
        refine Dv.fab rfl trivial rfl Tryz.underlying27 rfl Tryz.underlying22 c22 (by decide) ?_
        refine Dv.ldb rfl trivial rfl Tryz.underlying22 rfl (mem_at 0 rfl) rfl ?_
        refine mv0 rfl rfl ?_
        obtain ⟨g1041, H⟩ := Gets.grd H
        refine Dv.ixr rfl trivial rfl rfl Tryz.underlying22 Tryz.underlying32 c32 g1041.1 g1041.2 ?_
        refine Dv.ldrs rfl trivial rfl Tryz.underlying32 rfl c32 (Nat.le_of_ble_eq_true rfl) ?_
        obtain ⟨t1042, h1043, H⟩ := Gets.call H
        refine Dv.call rfl trivial cal45 rfl (concourseref15_turns.c h1043) ?_
        refine as0 rfl rfl ?_
        refine .fin ?_
        refine WP.seq ?_
        refine WP.reg [(0, false)] (by kernel_rfl) ?_
        refine as0 rfl rfl ?_
        refine .fin ?_
        refine WP.block ?_
        refine WP.gh (l' := fun _ => [blk b1034 27 [sl Edu.K a0.fL, sl (intK .i64) a0.fTold]] ++ F) (gh_of (st_selgn 1 [0] 0 rfl rfl rfl)) (fun _ _ => ?_)
        refine WP.loopg (fun j_ (p1059 : Int × Bool × Int) => concourseref15_Next.l1 k a0 x1038 t1042 j_ p1059.1 p1059.2.1 p1059.2.2) (x1036, x1037, 0) H (fun p1059 => [(0, agg (TRef.enc a0)), (1, eq (.pointer (some ⟨b1034, 0, none⟩))), (2, eq (.int .i64 0)), (3, eq (.bool false)), (4, eq (.int .i64 p1059.1)), (5, eq (.bool p1059.2.1)), (6, eq (.int .i64 x1038)), (7, sl (intK .i64) t1042), (8, eq (.int .i64 p1059.2.2)), (13, eq (.bool (decide (x1038 < (a0.fL.length : Int)))))]) (fun p1059 => [blk b1034 27 [sl Edu.K a0.fL, sl (intK .i64) a0.fTold]] ++ F) (weak_cons rfl (weak_cons rfl (weak_cons rfl (weak_cons rfl (weak_cons rfl (weak_cons rfl (weak_cons rfl (weak_cons rfl (weak_cons rfl (weak_cons rfl weak_nil)))))))))) (List.Perm.refl _) ?_
        rintro j_ ⟨x1044, x1045, x1046⟩ H
        rcases j_ with _ | j1058
        · exact (Gets.no H).elim
        replace H : Gets (concourseref15_Next.l1 k a0 x1038 t1042 (j1058 + 1) x1044 x1045 x1046) _ := H
        rw [concourseref15_Next.l1] at H
        refine WP.seq ?_
        refine WP.seq ?_
        refine WP.reg [(0, false), (1, false), (2, false), (3, false)] (by kernel_rfl) ?_
        refine mv0 rfl rfl ?_
        refine mv0 rfl rfl ?_
        refine Dv.lenl rfl trivial rfl Tryz.underlying25 ?_
        refine Dv.bin rfl trivial rfl rfl (fun _ => run_lt) ?_
        refine .fin ?_
        refine WP.cond rfl (fun c1047 => ?_) (fun c1047 => ?_)
        · replace H := Gets.ct H c1047
          refine WP.skip ?_
          refine WP.seq ?_
          refine WP.block ?_
          refine WP.seq ?_
          refine WP.dreg Tryz.checked.mixed [(0, false), (1, false), (2, false), (3, false), (4, false), (5, false), (6, false), (7, false), (8, false), (9, false), (10, false), (11, false), (12, false), (13, false), (14, false), (15, false), (16, false), (17, false), (18, false), (19, false), (20, false), (21, false)] (by kernel_rfl) ?_
          refine mv0 rfl rfl ?_
          refine mv0 rfl rfl ?_
          obtain ⟨g1048, H⟩ := Gets.grd H
          refine Dv.ixr rfl trivial rfl rfl Tryz.underlying25 Tryz.underlying3 c3 g1048.1 g1048.2 ?_
          refine Dv.ldr rfl trivial rfl Tryz.underlying3 rfl rfl ?_
          refine Dv.fab rfl trivial rfl Tryz.underlying27 rfl Tryz.underlying25 c25 (by decide) ?_
          refine Dv.ldb rfl trivial rfl Tryz.underlying25 rfl (mem_at 0 rfl) rfl ?_
          refine mv0 rfl rfl ?_
          obtain ⟨g1049, H⟩ := Gets.grd H
          refine Dv.ixr rfl trivial rfl rfl Tryz.underlying25 Tryz.underlying3 c3 g1049.1 g1049.2 ?_
          refine Dv.ldr rfl trivial rfl Tryz.underlying3 rfl rfl ?_
          refine Dv.bin rfl trivial rfl rfl (fun _ => run_gt) ?_
          refine mv0 rfl rfl ?_
          cases c1050 : decide (((intK .i64).at a0.fTold x1038) < ((intK .i64).at t1042 x1046))
          · replace H := Gets.cf H c1050
            refine sk rfl rfl rfl rfl rfl ?_
            refine sk rfl rfl rfl rfl rfl ?_
            refine sk rfl rfl rfl rfl rfl ?_
            refine Dv.skip rfl ⟨_, _, rfl, rfl, .inr rfl⟩ ?_
            refine Dv.skip rfl ⟨_, _, rfl, rfl, .inr rfl⟩ ?_
            refine Dv.skip rfl ⟨_, _, rfl, rfl, .inr rfl⟩ ?_
            refine Dv.skip rfl ⟨_, _, rfl, rfl, .inr rfl⟩ ?_
            refine Dv.skip rfl ⟨_, _, rfl, rfl, .inr rfl⟩ ?_
            refine Dv.skip rfl ⟨_, _, rfl, rfl, .inr rfl⟩ ?_
            refine sk rfl rfl rfl rfl rfl ?_
            refine Dv.pickF rfl trivial rfl rfl ?_
            refine .fin ?_
            refine WP.cond rfl nofun (fun _ => ?_)
            refine WP.skip ?_
            refine WP.reg [(0, false), (1, false), (2, false)] (by kernel_rfl) ?_
            refine mv0 rfl rfl ?_
            refine Dv.bin rfl trivial rfl rfl (fun _ => run_add) ?_
            refine as0 rfl rfl ?_
            refine .fin ?_
            exact Back.mk j1058 (x1044, x1045, w64 (x1046 + 1)) (Nat.lt_succ_self _) H (weak_cons rfl (weak_cons rfl (weak_cons rfl (weak_cons rfl (weak_cons rfl (weak_cons rfl (weak_cons rfl (weak_cons rfl (weak_cons rfl (weak_cons rfl weak_nil)))))))))) (List.Perm.refl _)
          · replace H := Gets.ct H c1050
            refine Dv.mv rfl ⟨_, _, rfl, rfl, rfl⟩ rfl ?_
            refine Dv.un rfl ⟨_, _, rfl, rfl, rfl⟩ rfl (fun _ => run_not _) ?_
            refine Dv.mv rfl ⟨_, _, rfl, rfl, rfl⟩ rfl ?_
            cases c1051 : !x1045
            · replace H := Gets.cf H c1051
              refine Dv.mv rfl ⟨_, _, rfl, rfl, rfl⟩ rfl ?_
              refine Dv.mv rfl ⟨_, _, rfl, rfl, rfl⟩ rfl ?_
              obtain ⟨g1054, H⟩ := Gets.grd H
              refine Dv.ixr rfl ⟨_, _, rfl, rfl, rfl⟩ rfl rfl Tryz.underlying25 Tryz.underlying3 c3 g1054.1 g1054.2 ?_
              refine Dv.ldr rfl ⟨_, _, rfl, rfl, rfl⟩ rfl Tryz.underlying3 rfl rfl ?_
              refine Dv.mv rfl ⟨_, _, rfl, rfl, rfl⟩ rfl ?_
              refine Dv.bin rfl ⟨_, _, rfl, rfl, rfl⟩ rfl rfl (fun _ => run_lt) ?_
              refine Dv.pickF rfl ⟨_, _, rfl, rfl, rfl⟩ rfl rfl ?_
              refine Dv.pickT rfl trivial rfl rfl ?_
              refine .fin ?_
              refine WP.cond rfl (fun c1055 => ?_) (fun c1055 => ?_)
              · replace H := Gets.ct H c1055
                refine WP.seq ?_
                refine WP.reg [(0, false), (1, false), (2, false), (3, false), (4, false)] (by kernel_rfl) ?_
                refine mv0 rfl rfl ?_
                refine mv0 rfl rfl ?_
                obtain ⟨g1056, H⟩ := Gets.grd H
                refine Dv.ixr rfl trivial rfl rfl Tryz.underlying25 Tryz.underlying3 c3 g1056.1 g1056.2 ?_
                refine Dv.ldr rfl trivial rfl Tryz.underlying3 rfl rfl ?_
                refine as0 rfl rfl ?_
                refine .fin ?_
                refine WP.reg [(0, false)] (by kernel_rfl) ?_
                refine as0 rfl rfl ?_
                refine .fin ?_
                refine WP.reg [(0, false), (1, false), (2, false)] (by kernel_rfl) ?_
                refine mv0 rfl rfl ?_
                refine Dv.bin rfl trivial rfl rfl (fun _ => run_add) ?_
                refine as0 rfl rfl ?_
                refine .fin ?_
                exact Back.mk j1058 ((intK .i64).at t1042 x1046, true, w64 (x1046 + 1)) (Nat.lt_succ_self _) H (weak_cons rfl (weak_cons rfl (weak_cons rfl (weak_cons rfl (weak_cons rfl (weak_cons rfl (weak_cons rfl (weak_cons rfl (weak_cons rfl (weak_cons rfl weak_nil)))))))))) (List.Perm.refl _)
              · replace H := Gets.cf H c1055
                refine WP.skip ?_
                refine WP.reg [(0, false), (1, false), (2, false)] (by kernel_rfl) ?_
                refine mv0 rfl rfl ?_
                refine Dv.bin rfl trivial rfl rfl (fun _ => run_add) ?_
                refine as0 rfl rfl ?_
                refine .fin ?_
                exact Back.mk j1058 (x1044, x1045, w64 (x1046 + 1)) (Nat.lt_succ_self _) H (weak_cons rfl (weak_cons rfl (weak_cons rfl (weak_cons rfl (weak_cons rfl (weak_cons rfl (weak_cons rfl (weak_cons rfl (weak_cons rfl (weak_cons rfl weak_nil)))))))))) (List.Perm.refl _)
            · replace H := Gets.ct H c1051
              refine sk rfl rfl rfl rfl rfl ?_
              refine sk rfl rfl rfl rfl rfl ?_
              refine sk rfl rfl rfl rfl rfl ?_
              refine sk rfl rfl rfl rfl rfl ?_
              refine sk rfl rfl rfl rfl rfl ?_
              refine sk rfl rfl rfl rfl rfl ?_
              refine Dv.pickT rfl ⟨_, _, rfl, rfl, rfl⟩ rfl rfl ?_
              refine Dv.pickT rfl trivial rfl rfl ?_
              refine .fin ?_
              refine WP.cond rfl (fun _ => ?_) nofun
              refine WP.seq ?_
              refine WP.reg [(0, false), (1, false), (2, false), (3, false), (4, false)] (by kernel_rfl) ?_
              refine mv0 rfl rfl ?_
              refine mv0 rfl rfl ?_
              obtain ⟨g1053, H⟩ := Gets.grd H
              refine Dv.ixr rfl trivial rfl rfl Tryz.underlying25 Tryz.underlying3 c3 g1053.1 g1053.2 ?_
              refine Dv.ldr rfl trivial rfl Tryz.underlying3 rfl rfl ?_
              refine as0 rfl rfl ?_
              refine .fin ?_
              refine WP.reg [(0, false)] (by kernel_rfl) ?_
              refine as0 rfl rfl ?_
              refine .fin ?_
              refine WP.reg [(0, false), (1, false), (2, false)] (by kernel_rfl) ?_
              refine mv0 rfl rfl ?_
              refine Dv.bin rfl trivial rfl rfl (fun _ => run_add) ?_
              refine as0 rfl rfl ?_
              refine .fin ?_
              exact Back.mk j1058 ((intK .i64).at t1042 x1046, true, w64 (x1046 + 1)) (Nat.lt_succ_self _) H (weak_cons rfl (weak_cons rfl (weak_cons rfl (weak_cons rfl (weak_cons rfl (weak_cons rfl (weak_cons rfl (weak_cons rfl (weak_cons rfl (weak_cons rfl weak_nil)))))))))) (List.Perm.refl _)
        · replace H := Gets.cf H c1047
          refine WP.exit ?_
          replace H := Gets.out H
          exact Jn.mk (x1044, x1045, t1042, x1046, decide (x1046 < (t1042.length : Int))) H (weak_cons rfl (weak_cons rfl (weak_cons rfl (weak_cons rfl (weak_cons rfl (weak_cons rfl (weak_cons rfl (weak_cons rfl (weak_cons rfl (weak_cons rfl (weak_cons rfl weak_nil))))))))))) (List.Perm.refl _)
    · replace H := Gets.cf H c1039
      refine WP.exit ?_
      replace H := Gets.out H
      exact Jn.mk (x1036, x1037, x1038, decide (x1038 < (a0.fL.length : Int))) H (weak_cons rfl (weak_cons rfl (weak_cons rfl (weak_cons rfl (weak_cons rfl (weak_cons rfl (weak_cons rfl (weak_cons rfl weak_nil)))))))) (List.Perm.refl _)
end Go.Proofs.YtegmafgodoikiaaGreat
