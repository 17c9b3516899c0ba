/- The walks. -/
import Derived.Test.YtmbodanckhidiaaGreatZWalks2
import Derived.Test.YtmbodanckhidiaaGreatConQ
import Derived.Eval
set_option linter.all false
set_option maxRecDepth 10000
set_option maxHeartbeats 20000000
namespace Go.Proofs.YtmbodanckhidiaaGreat
open Go Go.Sp
theorem concourseref03_Bytes.c {k : Nat} {a0 : Edu} {r : (List Int)} (h : concourseref03_Bytes.f k a0 = some r) : Tr Tryz.prog 45 [agg (Edu.enc a0)] [] (γ := OV) (fun _ => True) (fun g => eq g.1) (fun g => [own (intK .u8) g.1 r]) := by
  unfold concourseref03_Bytes.f at h
  refine Tr.body Tryz.func45 (c := _) rfl Tryz.ntmps45 (Nat.le_of_ble_eq_true rfl) fun R0 F => ?_
  replace h := Gets.of h
  have H := h
  clear h
  refine WP.seq ?_
  refine WP.reg [(0, true), (1, false)] (by kernel_rfl) ?_
  refine Dv.box rfl trivial rfl (cells_agg (Edu.K.one _)) nofun (fun b925 => ?_)
  refine as0 rfl rfl ?_
  refine .fin ?_
  refine WP.seq ?_
  refine WP.reg [(0, false), (1, false), (2, true), (3, false)] (by kernel_rfl) ?_
  refine Dv.fab rfl trivial rfl Tryz.underlying30 rfl Tryz.underlying3 c3 (by decide) ?_
  refine Dv.ldb rfl trivial rfl Tryz.underlying3 rfl (mem_at 0 rfl) rfl ?_
  obtain ⟨t926, h927, H⟩ := Gets.call H
  refine Dv.callx (pre := []) (F := [blk b925 30 [eq (.int .i64 a0.fKind), eq (.string a0.fRoom), eq (.string a0.fUser), eq (.string a0.fEvent), eq (.string a0.fThread), eq (.bool a0.fPrivate), eq (.bool a0.fOn), eq (.int .i64 a0.fSpan), eq (.int .i64 a0.fState), eq (.int .i64 a0.fTick), eq (.int .i64 a0.fStamp)]] ++ F) (fun g928 : OV => [own (intK .u8) g928.1 t926, blk b925 30 [eq (.int .i64 a0.fKind), eq (.string a0.fRoom), eq (.string a0.fUser), eq (.string a0.fEvent), eq (.string a0.fThread), eq (.bool a0.fPrivate), eq (.bool a0.fOn), eq (.int .i64 a0.fSpan), eq (.int .i64 a0.fState), eq (.int .i64 a0.fTick), eq (.int .i64 a0.fStamp)]] ++ F) rfl trivial cal66 rfl (concourseref02_Number.c _ h927) (perm_ton 1 [0] rfl rfl rfl) rfl nofun (fun g928 _ => ?_)
  refine as0 rfl rfl ?_
  refine .fin ?_
  refine WP.seq ?_
  refine WP.reg [(0, false), (1, false), (2, false), (3, true), (4, true), (5, false)] (by kernel_rfl) ?_
  refine mv0 rfl rfl ?_
  refine Dv.fab rfl trivial rfl Tryz.underlying30 rfl Tryz.underlying9 c9 (by decide) ?_
  refine Dv.ldb rfl trivial rfl Tryz.underlying9 rfl (mem_at 1 rfl) rfl ?_
  obtain ⟨t929, h930, H⟩ := Gets.call H
  refine Dv.callx (pre := []) (F := [own (intK .u8) g928.1 t926, blk b925 30 [eq (.int .i64 a0.fKind), eq (.string a0.fRoom), eq (.string a0.fUser), eq (.string a0.fEvent), eq (.string a0.fThread), eq (.bool a0.fPrivate), eq (.bool a0.fOn), eq (.int .i64 a0.fSpan), eq (.int .i64 a0.fState), eq (.int .i64 a0.fTick), eq (.int .i64 a0.fStamp)]] ++ F) (fun g931 : OV => [own (intK .u8) g931.1 t929, own (intK .u8) g928.1 t926, blk b925 30 [eq (.int .i64 a0.fKind), eq (.string a0.fRoom), eq (.string a0.fUser), eq (.string a0.fEvent), eq (.string a0.fThread), eq (.bool a0.fPrivate), eq (.bool a0.fOn), eq (.int .i64 a0.fSpan), eq (.int .i64 a0.fState), eq (.int .i64 a0.fTick), eq (.int .i64 a0.fStamp)]] ++ F) rfl trivial cal67 rfl (concourseref02_Text.c h930) (perm_ton 2 [0, 1] rfl rfl rfl) rfl nofun (fun g931 _ => ?_)
  obtain ⟨g932, H⟩ := Gets.grd H
  refine Dv.appx (jj := 1) (ys := t929) (fun v933 : OV => [own (intK .u8) g931.1 t929, own (intK .u8) v933.1 (t926 ++ t929), blk b925 30 [eq (.int .i64 a0.fKind), eq (.string a0.fRoom), eq (.string a0.fUser), eq (.string a0.fEvent), eq (.string a0.fThread), eq (.bool a0.fPrivate), eq (.bool a0.fOn), eq (.int .i64 a0.fSpan), eq (.int .i64 a0.fState), eq (.int .i64 a0.fTick), eq (.int .i64 a0.fStamp)]] ++ F) rfl trivial rfl rfl rfl (src_own (mem_at 0 rfl)) Tryz.underlying81 (.inr ⟨_, Tryz.underlying81⟩) inf5 rfl (by decide) g932 rfl nofun (fun v933 => ?_)
  refine as0 rfl rfl ?_
  refine .fin ?_
  refine WP.seq ?_
  refine WP.reg [(0, false), (1, false), (2, false), (3, true), (4, true), (5, false)] (by kernel_rfl) ?_
  refine mv0 rfl rfl ?_
  refine Dv.fab rfl trivial rfl Tryz.underlying30 rfl Tryz.underlying9 c9 (by decide) ?_
  refine Dv.ldb rfl trivial rfl Tryz.underlying9 rfl (mem_at 2 rfl) rfl ?_
  obtain ⟨t934, h935, H⟩ := Gets.call H
  refine Dv.callx (pre := []) (F := [own (intK .u8) g931.1 t929, own (intK .u8) v933.1 (t926 ++ t929), blk b925 30 [eq (.int .i64 a0.fKind), eq (.string a0.fRoom), eq (.string a0.fUser), eq (.string a0.fEvent), eq (.string a0.fThread), eq (.bool a0.fPrivate), eq (.bool a0.fOn), eq (.int .i64 a0.fSpan), eq (.int .i64 a0.fState), eq (.int .i64 a0.fTick), eq (.int .i64 a0.fStamp)]] ++ F) (fun g936 : OV => [own (intK .u8) g936.1 t934, own (intK .u8) g931.1 t929, own (intK .u8) v933.1 (t926 ++ t929), blk b925 30 [eq (.int .i64 a0.fKind), eq (.string a0.fRoom), eq (.string a0.fUser), eq (.string a0.fEvent), eq (.string a0.fThread), eq (.bool a0.fPrivate), eq (.bool a0.fOn), eq (.int .i64 a0.fSpan), eq (.int .i64 a0.fState), eq (.int .i64 a0.fTick), eq (.int .i64 a0.fStamp)]] ++ F) rfl trivial cal67 rfl (concourseref02_Text.c h935) (perm_ton 3 [0, 1, 2] rfl rfl rfl) rfl nofun (fun g936 _ => ?_)
  obtain ⟨g937, H⟩ := Gets.grd H
  refine Dv.appx (jj := 2) (ys := t934) (fun v938 : OV => [own (intK .u8) g936.1 t934, own (intK .u8) g931.1 t929, own (intK .u8) v938.1 ((t926 ++ t929) ++ t934), blk b925 30 [eq (.int .i64 a0.fKind), eq (.string a0.fRoom), eq (.string a0.fUser), eq (.string a0.fEvent), eq (.string a0.fThread), eq (.bool a0.fPrivate), eq (.bool a0.fOn), eq (.int .i64 a0.fSpan), eq (.int .i64 a0.fState), eq (.int .i64 a0.fTick), eq (.int .i64 a0.fStamp)]] ++ F) rfl trivial rfl rfl rfl (src_own (mem_at 0 rfl)) Tryz.underlying81 (.inr ⟨_, Tryz.underlying81⟩) inf5 rfl (by decide) g937 rfl nofun (fun v938 => ?_)
  refine as0 rfl rfl ?_
  refine .fin ?_
  refine WP.seq ?_
  refine WP.reg [(0, false), (1, false), (2, false), (3, true), (4, true), (5, false)] (by kernel_rfl) ?_
  refine mv0 rfl rfl ?_
  refine Dv.fab rfl trivial rfl Tryz.underlying30 rfl Tryz.underlying9 c9 (by decide) ?_
  refine Dv.ldb rfl trivial rfl Tryz.underlying9 rfl (mem_at 3 rfl) rfl ?_
  obtain ⟨t939, h940, H⟩ := Gets.call H
  refine Dv.callx (pre := []) (F := [own (intK .u8) g936.1 t934, own (intK .u8) g931.1 t929, own (intK .u8) v938.1 ((t926 ++ t929) ++ t934), blk b925 30 [eq (.int .i64 a0.fKind), eq (.string a0.fRoom), eq (.string a0.fUser), eq (.string a0.fEvent), eq (.string a0.fThread), eq (.bool a0.fPrivate), eq (.bool a0.fOn), eq (.int .i64 a0.fSpan), eq (.int .i64 a0.fState), eq (.int .i64 a0.fTick), eq (.int .i64 a0.fStamp)]] ++ F) (fun g941 : OV => [own (intK .u8) g941.1 t939, own (intK .u8) g936.1 t934, own (intK .u8) g931.1 t929, own (intK .u8) v938.1 ((t926 ++ t929) ++ t934), blk b925 30 [eq (.int .i64 a0.fKind), eq (.string a0.fRoom), eq (.string a0.fUser), eq (.string a0.fEvent), eq (.string a0.fThread), eq (.bool a0.fPrivate), eq (.bool a0.fOn), eq (.int .i64 a0.fSpan), eq (.int .i64 a0.fState), eq (.int .i64 a0.fTick), eq (.int .i64 a0.fStamp)]] ++ F) rfl trivial cal67 rfl (concourseref02_Text.c h940) (perm_ton 4 [0, 1, 2, 3] rfl rfl rfl) rfl nofun (fun g941 _ => ?_)
  obtain ⟨g942, H⟩ := Gets.grd H
  refine Dv.appx (jj := 3) (ys := t939) (fun v943 : OV => [own (intK .u8) g941.1 t939, own (intK .u8) g936.1 t934, own (intK .u8) g931.1 t929, own (intK .u8) v943.1 (((t926 ++ t929) ++ t934) ++ t939), blk b925 30 [eq (.int .i64 a0.fKind), eq (.string a0.fRoom), eq (.string a0.fUser), eq (.string a0.fEvent), eq (.string a0.fThread), eq (.bool a0.fPrivate), eq (.bool a0.fOn), eq (.int .i64 a0.fSpan), eq (.int .i64 a0.fState), eq (.int .i64 a0.fTick), eq (.int .i64 a0.fStamp)]] ++ F) rfl trivial rfl rfl rfl (src_own (mem_at 0 rfl)) Tryz.underlying81 (.inr ⟨_, Tryz.underlying81⟩) inf5 rfl (by decide) g942 rfl nofun (fun v943 => ?_)
  refine as0 rfl rfl ?_
  refine .fin ?_
  refine WP.seq ?_
  refine WP.reg [(0, false), (1, false), (2, false), (3, true), (4, true), (5, false)] (by kernel_rfl) ?_
  refine mv0 rfl rfl ?_
  refine Dv.fab rfl trivial rfl Tryz.underlying30 rfl Tryz.underlying9 c9 (by decide) ?_
  refine Dv.ldb rfl trivial rfl Tryz.underlying9 rfl (mem_at 4 rfl) rfl ?_
  obtain ⟨t944, h945, H⟩ := Gets.call H
  refine Dv.callx (pre := []) (F := [own (intK .u8) g941.1 t939, own (intK .u8) g936.1 t934, own (intK .u8) g931.1 t929, own (intK .u8) v943.1 (((t926 ++ t929) ++ t934) ++ t939), blk b925 30 [eq (.int .i64 a0.fKind), eq (.string a0.fRoom), eq (.string a0.fUser), eq (.string a0.fEvent), eq (.string a0.fThread), eq (.bool a0.fPrivate), eq (.bool a0.fOn), eq (.int .i64 a0.fSpan), eq (.int .i64 a0.fState), eq (.int .i64 a0.fTick), eq (.int .i64 a0.fStamp)]] ++ F) (fun g946 : OV => [own (intK .u8) g946.1 t944, own (intK .u8) g941.1 t939, own (intK .u8) g936.1 t934, own (intK .u8) g931.1 t929, own (intK .u8) v943.1 (((t926 ++ t929) ++ t934) ++ t939), blk b925 30 [eq (.int .i64 a0.fKind), eq (.string a0.fRoom), eq (.string a0.fUser), eq (.string a0.fEvent), eq (.string a0.fThread), eq (.bool a0.fPrivate), eq (.bool a0.fOn), eq (.int .i64 a0.fSpan), eq (.int .i64 a0.fState), eq (.int .i64 a0.fTick), eq (.int .i64 a0.fStamp)]] ++ F) rfl trivial cal67 rfl (concourseref02_Text.c h945) (perm_ton 5 [0, 1, 2, 3, 4] (by kernel_rfl) rfl rfl) rfl nofun (fun g946 _ => ?_)
  obtain ⟨g947, H⟩ := Gets.grd H
  refine Dv.appx (jj := 4) (ys := t944) (fun v948 : OV => [own (intK .u8) g946.1 t944, own (intK .u8) g941.1 t939, own (intK .u8) g936.1 t934, own (intK .u8) g931.1 t929, own (intK .u8) v948.1 ((((t926 ++ t929) ++ t934) ++ t939) ++ t944), blk b925 30 [eq (.int .i64 a0.fKind), eq (.string a0.fRoom), eq (.string a0.fUser), eq (.string a0.fEvent), eq (.string a0.fThread), eq (.bool a0.fPrivate), eq (.bool a0.fOn), eq (.int .i64 a0.fSpan), eq (.int .i64 a0.fState), eq (.int .i64 a0.fTick), eq (.int .i64 a0.fStamp)]] ++ F) rfl trivial rfl rfl rfl (src_own (mem_at 0 rfl)) Tryz.underlying81 (.inr ⟨_, Tryz.underlying81⟩) inf5 rfl (by decide) g947 rfl nofun (fun v948 => ?_)
  refine as0 rfl rfl ?_
  refine .fin ?_
  refine WP.seq ?_
  refine WP.reg [(0, false), (1, false), (2, false), (3, false), (4, true), (5, false)] (by kernel_rfl) ?_
  refine mv0 rfl rfl ?_
  refine Dv.fab rfl trivial rfl Tryz.underlying30 rfl Tryz.underlying4 c4 (by decide) ?_
  refine Dv.ldb rfl trivial rfl Tryz.underlying4 rfl (mem_at 5 rfl) rfl ?_
  obtain ⟨t949, h950, H⟩ := Gets.call H
  refine Dv.call rfl trivial cal68 rfl (concourseref02_Flag.c h950) ?_
  obtain ⟨g951, H⟩ := Gets.grd H
  refine Dv.appx (jj := 4) (ys := t949) (fun v952 : OV => [own (intK .u8) g946.1 t944, own (intK .u8) g941.1 t939, own (intK .u8) g936.1 t934, own (intK .u8) g931.1 t929, own (intK .u8) v952.1 (((((t926 ++ t929) ++ t934) ++ t939) ++ t944) ++ t949), blk b925 30 [eq (.int .i64 a0.fKind), eq (.string a0.fRoom), eq (.string a0.fUser), eq (.string a0.fEvent), eq (.string a0.fThread), eq (.bool a0.fPrivate), eq (.bool a0.fOn), eq (.int .i64 a0.fSpan), eq (.int .i64 a0.fState), eq (.int .i64 a0.fTick), eq (.int .i64 a0.fStamp)]] ++ F) rfl trivial rfl rfl rfl src_sl Tryz.underlying81 (.inr ⟨_, Tryz.underlying81⟩) inf5 rfl (by decide) g951 rfl nofun (fun v952 => ?_)
  refine as0 rfl rfl ?_
  refine .fin ?_
  refine WP.seq ?_
  refine WP.reg [(0, false), (1, false), (2, false), (3, true), (4, true), (5, false)] (by kernel_rfl) ?_
  refine mv0 rfl rfl ?_
  refine Dv.fab rfl trivial rfl Tryz.underlying30 rfl Tryz.underlying3 c3 (by decide) ?_
  refine Dv.ldb rfl trivial rfl Tryz.underlying3 rfl (mem_at 5 rfl) rfl ?_
  obtain ⟨t953, h954, H⟩ := Gets.call H
  refine Dv.callx (pre := []) (F := [own (intK .u8) g946.1 t944, own (intK .u8) g941.1 t939, own (intK .u8) g936.1 t934, own (intK .u8) g931.1 t929, own (intK .u8) v952.1 (((((t926 ++ t929) ++ t934) ++ t939) ++ t944) ++ t949), blk b925 30 [eq (.int .i64 a0.fKind), eq (.string a0.fRoom), eq (.string a0.fUser), eq (.string a0.fEvent), eq (.string a0.fThread), eq (.bool a0.fPrivate), eq (.bool a0.fOn), eq (.int .i64 a0.fSpan), eq (.int .i64 a0.fState), eq (.int .i64 a0.fTick), eq (.int .i64 a0.fStamp)]] ++ F) (fun g955 : OV => [own (intK .u8) g955.1 t953, own (intK .u8) g946.1 t944, own (intK .u8) g941.1 t939, own (intK .u8) g936.1 t934, own (intK .u8) g931.1 t929, own (intK .u8) v952.1 (((((t926 ++ t929) ++ t934) ++ t939) ++ t944) ++ t949), blk b925 30 [eq (.int .i64 a0.fKind), eq (.string a0.fRoom), eq (.string a0.fUser), eq (.string a0.fEvent), eq (.string a0.fThread), eq (.bool a0.fPrivate), eq (.bool a0.fOn), eq (.int .i64 a0.fSpan), eq (.int .i64 a0.fState), eq (.int .i64 a0.fTick), eq (.int .i64 a0.fStamp)]] ++ F) rfl trivial cal66 rfl (concourseref02_Number.c _ h954) (perm_ton 6 [0, 1, 2, 3, 4, 5] (by kernel_rfl) rfl rfl) rfl nofun (fun g955 _ => ?_)
  obtain ⟨g956, H⟩ := Gets.grd H
  refine Dv.appx (jj := 5) (ys := t953) (fun v957 : OV => [own (intK .u8) g955.1 t953, own (intK .u8) g946.1 t944, own (intK .u8) g941.1 t939, own (intK .u8) g936.1 t934, own (intK .u8) g931.1 t929, own (intK .u8) v957.1 ((((((t926 ++ t929) ++ t934) ++ t939) ++ t944) ++ t949) ++ t953), blk b925 30 [eq (.int .i64 a0.fKind), eq (.string a0.fRoom), eq (.string a0.fUser), eq (.string a0.fEvent), eq (.string a0.fThread), eq (.bool a0.fPrivate), eq (.bool a0.fOn), eq (.int .i64 a0.fSpan), eq (.int .i64 a0.fState), eq (.int .i64 a0.fTick), eq (.int .i64 a0.fStamp)]] ++ F) rfl trivial rfl rfl rfl (src_own (mem_at 0 rfl)) Tryz.underlying81 (.inr ⟨_, Tryz.underlying81⟩) inf5 rfl (by decide) g956 rfl nofun (fun v957 => ?_)
  refine as0 rfl rfl ?_
  refine .fin ?_
  refine WP.seq ?_
  refine WP.reg [(0, false), (1, false), (2, false), (3, true), (4, true), (5, false)] (by kernel_rfl) ?_
  refine mv0 rfl rfl ?_
  refine Dv.fab rfl trivial rfl Tryz.underlying30 rfl Tryz.underlying3 c3 (by decide) ?_
  refine Dv.ldb rfl trivial rfl Tryz.underlying3 rfl (mem_at 6 rfl) rfl ?_
  obtain ⟨t958, h959, H⟩ := Gets.call H
  refine Dv.callx (pre := []) (F := [own (intK .u8) g955.1 t953, own (intK .u8) g946.1 t944, own (intK .u8) g941.1 t939, own (intK .u8) g936.1 t934, own (intK .u8) g931.1 t929, own (intK .u8) v957.1 ((((((t926 ++ t929) ++ t934) ++ t939) ++ t944) ++ t949) ++ t953), blk b925 30 [eq (.int .i64 a0.fKind), eq (.string a0.fRoom), eq (.string a0.fUser), eq (.string a0.fEvent), eq (.string a0.fThread), eq (.bool a0.fPrivate), eq (.bool a0.fOn), eq (.int .i64 a0.fSpan), eq (.int .i64 a0.fState), eq (.int .i64 a0.fTick), eq (.int .i64 a0.fStamp)]] ++ F) (fun g960 : OV => [own (intK .u8) g960.1 t958, own (intK .u8) g955.1 t953, own (intK .u8) g946.1 t944, own (intK .u8) g941.1 t939, own (intK .u8) g936.1 t934, own (intK .u8) g931.1 t929, own (intK .u8) v957.1 ((((((t926 ++ t929) ++ t934) ++ t939) ++ t944) ++ t949) ++ t953), blk b925 30 [eq (.int .i64 a0.fKind), eq (.string a0.fRoom), eq (.string a0.fUser), eq (.string a0.fEvent), eq (.string a0.fThread), eq (.bool a0.fPrivate), eq (.bool a0.fOn), eq (.int .i64 a0.fSpan), eq (.int .i64 a0.fState), eq (.int .i64 a0.fTick), eq (.int .i64 a0.fStamp)]] ++ F) rfl trivial cal66 rfl (concourseref02_Number.c _ h959) (perm_ton 7 [0, 1, 2, 3, 4, 5, 6] (by kernel_rfl) rfl rfl) rfl nofun (fun g960 _ => ?_)
  obtain ⟨g961, H⟩ := Gets.grd H
  refine Dv.appx (jj := 6) (ys := t958) (fun v962 : OV => [own (intK .u8) g960.1 t958, own (intK .u8) g955.1 t953, own (intK .u8) g946.1 t944, own (intK .u8) g941.1 t939, own (intK .u8) g936.1 t934, own (intK .u8) g931.1 t929, own (intK .u8) v962.1 (((((((t926 ++ t929) ++ t934) ++ t939) ++ t944) ++ t949) ++ t953) ++ t958), blk b925 30 [eq (.int .i64 a0.fKind), eq (.string a0.fRoom), eq (.string a0.fUser), eq (.string a0.fEvent), eq (.string a0.fThread), eq (.bool a0.fPrivate), eq (.bool a0.fOn), eq (.int .i64 a0.fSpan), eq (.int .i64 a0.fState), eq (.int .i64 a0.fTick), eq (.int .i64 a0.fStamp)]] ++ F) rfl trivial rfl rfl rfl (src_own (mem_at 0 rfl)) Tryz.underlying81 (.inr ⟨_, Tryz.underlying81⟩) inf5 rfl (by decide) g961 rfl nofun (fun v962 => ?_)
  refine as0 rfl rfl ?_
  refine .fin ?_
  refine WP.seq ?_
  refine WP.reg [(0, false), (1, false), (2, false), (3, true), (4, true), (5, false)] (by kernel_rfl) ?_
  refine mv0 rfl rfl ?_
  refine Dv.fab rfl trivial rfl Tryz.underlying30 rfl Tryz.underlying3 c3 (by decide) ?_
  refine Dv.ldb rfl trivial rfl Tryz.underlying3 rfl (mem_at 7 rfl) rfl ?_
  obtain ⟨t963, h964, H⟩ := Gets.call H
  refine Dv.callx (pre := []) (F := [own (intK .u8) g960.1 t958, own (intK .u8) g955.1 t953, own (intK .u8) g946.1 t944, own (intK .u8) g941.1 t939, own (intK .u8) g936.1 t934, own (intK .u8) g931.1 t929, own (intK .u8) v962.1 (((((((t926 ++ t929) ++ t934) ++ t939) ++ t944) ++ t949) ++ t953) ++ t958), blk b925 30 [eq (.int .i64 a0.fKind), eq (.string a0.fRoom), eq (.string a0.fUser), eq (.string a0.fEvent), eq (.string a0.fThread), eq (.bool a0.fPrivate), eq (.bool a0.fOn), eq (.int .i64 a0.fSpan), eq (.int .i64 a0.fState), eq (.int .i64 a0.fTick), eq (.int .i64 a0.fStamp)]] ++ F) (fun g965 : OV => [own (intK .u8) g965.1 t963, own (intK .u8) g960.1 t958, own (intK .u8) g955.1 t953, own (intK .u8) g946.1 t944, own (intK .u8) g941.1 t939, own (intK .u8) g936.1 t934, own (intK .u8) g931.1 t929, own (intK .u8) v962.1 (((((((t926 ++ t929) ++ t934) ++ t939) ++ t944) ++ t949) ++ t953) ++ t958), blk b925 30 [eq (.int .i64 a0.fKind), eq (.string a0.fRoom), eq (.string a0.fUser), eq (.string a0.fEvent), eq (.string a0.fThread), eq (.bool a0.fPrivate), eq (.bool a0.fOn), eq (.int .i64 a0.fSpan), eq (.int .i64 a0.fState), eq (.int .i64 a0.fTick), eq (.int .i64 a0.fStamp)]] ++ F) rfl trivial cal66 rfl (concourseref02_Number.c _ h964) (perm_ton 8 [0, 1, 2, 3, 4, 5, 6, 7] (by kernel_rfl) rfl rfl) rfl nofun (fun g965 _ => ?_)
  obtain ⟨g966, H⟩ := Gets.grd H
  refine Dv.appx (jj := 7) (ys := t963) (fun v967 : OV => [own (intK .u8) g965.1 t963, own (intK .u8) g960.1 t958, own (intK .u8) g955.1 t953, own (intK .u8) g946.1 t944, own (intK .u8) g941.1 t939, own (intK .u8) g936.1 t934, own (intK .u8) g931.1 t929, own (intK .u8) v967.1 ((((((((t926 ++ t929) ++ t934) ++ t939) ++ t944) ++ t949) ++ t953) ++ t958) ++ t963), blk b925 30 [eq (.int .i64 a0.fKind), eq (.string a0.fRoom), eq (.string a0.fUser), eq (.string a0.fEvent), eq (.string a0.fThread), eq (.bool a0.fPrivate), eq (.bool a0.fOn), eq (.int .i64 a0.fSpan), eq (.int .i64 a0.fState), eq (.int .i64 a0.fTick), eq (.int .i64 a0.fStamp)]] ++ F) rfl trivial rfl rfl rfl (src_own (mem_at 0 rfl)) Tryz.underlying81 (.inr ⟨_, Tryz.underlying81⟩) inf5 rfl (by decide) g966 rfl nofun (fun v967 => ?_)
  refine as0 rfl rfl ?_
  refine .fin ?_
  refine WP.seq ?_
  refine WP.reg [(0, false), (1, false), (2, false), (3, true), (4, true), (5, false)] (by kernel_rfl) ?_
  refine mv0 rfl rfl ?_
  refine Dv.fab rfl trivial rfl Tryz.underlying30 rfl Tryz.underlying3 c3 (by decide) ?_
  refine Dv.ldb rfl trivial rfl Tryz.underlying3 rfl (mem_at 8 rfl) rfl ?_
  obtain ⟨t968, h969, H⟩ := Gets.call H
  refine Dv.callx (pre := []) (F := [own (intK .u8) g965.1 t963, own (intK .u8) g960.1 t958, own (intK .u8) g955.1 t953, own (intK .u8) g946.1 t944, own (intK .u8) g941.1 t939, own (intK .u8) g936.1 t934, own (intK .u8) g931.1 t929, own (intK .u8) v967.1 ((((((((t926 ++ t929) ++ t934) ++ t939) ++ t944) ++ t949) ++ t953) ++ t958) ++ t963), blk b925 30 [eq (.int .i64 a0.fKind), eq (.string a0.fRoom), eq (.string a0.fUser), eq (.string a0.fEvent), eq (.string a0.fThread), eq (.bool a0.fPrivate), eq (.bool a0.fOn), eq (.int .i64 a0.fSpan), eq (.int .i64 a0.fState), eq (.int .i64 a0.fTick), eq (.int .i64 a0.fStamp)]] ++ F) (fun g970 : OV => [own (intK .u8) g970.1 t968, own (intK .u8) g965.1 t963, own (intK .u8) g960.1 t958, own (intK .u8) g955.1 t953, own (intK .u8) g946.1 t944, own (intK .u8) g941.1 t939, own (intK .u8) g936.1 t934, own (intK .u8) g931.1 t929, own (intK .u8) v967.1 ((((((((t926 ++ t929) ++ t934) ++ t939) ++ t944) ++ t949) ++ t953) ++ t958) ++ t963), blk b925 30 [eq (.int .i64 a0.fKind), eq (.string a0.fRoom), eq (.string a0.fUser), eq (.string a0.fEvent), eq (.string a0.fThread), eq (.bool a0.fPrivate), eq (.bool a0.fOn), eq (.int .i64 a0.fSpan), eq (.int .i64 a0.fState), eq (.int .i64 a0.fTick), eq (.int .i64 a0.fStamp)]] ++ F) rfl trivial cal66 rfl (concourseref02_Number.c _ h969) (perm_ton 9 [0, 1, 2, 3, 4, 5, 6, 7, 8] (by kernel_rfl) rfl rfl) rfl nofun (fun g970 _ => ?_)
  obtain ⟨g971, H⟩ := Gets.grd H
  refine Dv.appx (jj := 8) (ys := t968) (fun v972 : OV => [own (intK .u8) g970.1 t968, own (intK .u8) g965.1 t963, own (intK .u8) g960.1 t958, own (intK .u8) g955.1 t953, own (intK .u8) g946.1 t944, own (intK .u8) g941.1 t939, own (intK .u8) g936.1 t934, own (intK .u8) g931.1 t929, own (intK .u8) v972.1 (((((((((t926 ++ t929) ++ t934) ++ t939) ++ t944) ++ t949) ++ t953) ++ t958) ++ t963) ++ t968), blk b925 30 [eq (.int .i64 a0.fKind), eq (.string a0.fRoom), eq (.string a0.fUser), eq (.string a0.fEvent), eq (.string a0.fThread), eq (.bool a0.fPrivate), eq (.bool a0.fOn), eq (.int .i64 a0.fSpan), eq (.int .i64 a0.fState), eq (.int .i64 a0.fTick), eq (.int .i64 a0.fStamp)]] ++ F) rfl trivial rfl rfl rfl (src_own (mem_at 0 rfl)) Tryz.underlying81 (.inr ⟨_, Tryz.underlying81⟩) inf5 rfl (by decide) g971 rfl nofun (fun v972 => ?_)
  refine as0 rfl rfl ?_
  refine .fin ?_
  obtain rfl := Gets.out H
  exact WP.retL (fun _ _ h => h) rfl v972 trivial (.cons (res_tmp rfl) .nil) rfl (st_seln 10 [0, 1, 2, 3, 4, 5, 6, 7, 9, 8] 9 (by kernel_rfl) rfl rfl)
theorem concourseref03_Compare.c {k : Nat} {a0 : Edu} {a1 : Edu} {r : Int} (h : concourseref03_Compare.f k a0 a1 = some r) : Pt Tryz.prog 25 [agg (Edu.enc a0), agg (Edu.enc a1)] (eq (.int .i64 r)) := by
  unfold concourseref03_Compare.f at h
  refine (Tr.body Tryz.func25 (c := _) rfl Tryz.ntmps25 (Nat.le_of_ble_eq_true rfl) fun R0 F => ?_).pt
  replace h := Gets.of h
  have H := h
  clear h
  refine WP.seq ?_
  refine WP.reg [(0, true), (1, true), (2, false)] (by kernel_rfl) ?_
  refine Dv.box rfl trivial rfl (cells_agg (Edu.K.one _)) nofun (fun b973 => ?_)
  refine Dv.box rfl trivial rfl (cells_agg (Edu.K.one _)) nofun (fun b974 => ?_)
  refine as0 rfl rfl ?_
  refine .fin ?_
  refine WP.seq ?_
  refine WP.seq ?_
  refine WP.reg [(0, false), (1, false), (2, false), (3, false), (4, false)] (by kernel_rfl) ?_
  refine Dv.fab rfl trivial rfl Tryz.underlying30 rfl Tryz.underlying3 c3 (by decide) ?_
  refine Dv.ldb rfl trivial rfl Tryz.underlying3 rfl (mem_at 1 rfl) rfl ?_
  refine Dv.fab rfl trivial rfl Tryz.underlying30 rfl Tryz.underlying3 c3 (by decide) ?_
  refine Dv.ldb rfl trivial rfl Tryz.underlying3 rfl (mem_at 0 rfl) rfl ?_
  refine Dv.bin rfl trivial rfl rfl (fun _ => run_lt) ?_
  refine .fin ?_
  refine WP.cond rfl (fun c975 => ?_) (fun c975 => ?_)
  · replace H := Gets.ct H c975
    refine WP.seq ?_
    refine WP.reg [(0, false)] (by kernel_rfl) ?_
    refine as0 rfl rfl ?_
    refine .fin ?_
    obtain rfl := Gets.out H
    exact WP.retL (fun _ _ h => h) rfl () trivial (.cons (res_tmp rfl) .nil) rfl (st_seln 2 [0, 1] 2 rfl rfl rfl)
  · replace H := Gets.cf H c975
    refine WP.skip ?_
    refine WP.seq ?_
    refine WP.seq ?_
    refine WP.reg [(0, false), (1, false), (2, false), (3, false), (4, false)] (by kernel_rfl) ?_
    refine Dv.fab rfl trivial rfl Tryz.underlying30 rfl Tryz.underlying3 c3 (by decide) ?_
    refine Dv.ldb rfl trivial rfl Tryz.underlying3 rfl (mem_at 1 rfl) rfl ?_
    refine Dv.fab rfl trivial rfl Tryz.underlying30 rfl Tryz.underlying3 c3 (by decide) ?_
    refine Dv.ldb rfl trivial rfl Tryz.underlying3 rfl (mem_at 0 rfl) rfl ?_
    refine Dv.bin rfl trivial rfl rfl (fun _ => run_gt) ?_
    refine .fin ?_
    refine WP.cond rfl (fun c976 => ?_) (fun c976 => ?_)
    · replace H := Gets.ct H c976
      refine WP.seq ?_
      refine WP.reg [(0, false)] (by kernel_rfl) ?_
      refine as0 rfl rfl ?_
      refine .fin ?_
      obtain rfl := Gets.out H
      exact WP.retL (fun _ _ h => h) rfl () trivial (.cons (res_tmp rfl) .nil) rfl (st_seln 2 [0, 1] 2 rfl rfl rfl)
    · replace H := Gets.cf H c976
      refine WP.skip ?_
      refine WP.seq ?_
      refine WP.reg [(0, false), (1, true), (2, false), (3, false)] (by kernel_rfl) ?_
      refine Dv.ldbs rfl trivial rfl Tryz.underlying30 rfl c30 (mem_at 1 rfl) (Nat.le_of_ble_eq_true rfl) ?_
      obtain ⟨t977, h978, H⟩ := Gets.call H
      refine Dv.callx (pre := []) (F := [blk b974 30 [eq (.int .i64 a1.fKind), eq (.string a1.fRoom), eq (.string a1.fUser), eq (.string a1.fEvent), eq (.string a1.fThread), eq (.bool a1.fPrivate), eq (.bool a1.fOn), eq (.int .i64 a1.fSpan), eq (.int .i64 a1.fState), eq (.int .i64 a1.fTick), eq (.int .i64 a1.fStamp)], blk b973 30 [eq (.int .i64 a0.fKind), eq (.string a0.fRoom), eq (.string a0.fUser), eq (.string a0.fEvent), eq (.string a0.fThread), eq (.bool a0.fPrivate), eq (.bool a0.fOn), eq (.int .i64 a0.fSpan), eq (.int .i64 a0.fState), eq (.int .i64 a0.fTick), eq (.int .i64 a0.fStamp)]] ++ F) (fun g979 : OV => [own (intK .u8) g979.1 t977, blk b974 30 [eq (.int .i64 a1.fKind), eq (.string a1.fRoom), eq (.string a1.fUser), eq (.string a1.fEvent), eq (.string a1.fThread), eq (.bool a1.fPrivate), eq (.bool a1.fOn), eq (.int .i64 a1.fSpan), eq (.int .i64 a1.fState), eq (.int .i64 a1.fTick), eq (.int .i64 a1.fStamp)], blk b973 30 [eq (.int .i64 a0.fKind), eq (.string a0.fRoom), eq (.string a0.fUser), eq (.string a0.fEvent), eq (.string a0.fThread), eq (.bool a0.fPrivate), eq (.bool a0.fOn), eq (.int .i64 a0.fSpan), eq (.int .i64 a0.fState), eq (.int .i64 a0.fTick), eq (.int .i64 a0.fStamp)]] ++ F) rfl trivial cal45 rfl (concourseref03_Bytes.c h978) (perm_ton 2 [0, 1] rfl rfl rfl) rfl nofun (fun g979 _ => ?_)
      refine Dv.gh (gh_frz (E' := [(0, agg (Edu.enc a0)), (1, agg (Edu.enc a1)), (2, eq (.pointer (some ⟨b973, 0, none⟩))), (3, eq (.pointer (some ⟨b974, 0, none⟩))), (4, eq (.int .i64 0)), (11, eq (.bool (decide (a0.fStamp < a1.fStamp)))), (16, eq (.bool (decide (a1.fStamp < a0.fStamp)))), (18, sl (intK .u8) t977)]) (l' := [blk b974 30 [eq (.int .i64 a1.fKind), eq (.string a1.fRoom), eq (.string a1.fUser), eq (.string a1.fEvent), eq (.string a1.fThread), eq (.bool a1.fPrivate), eq (.bool a1.fOn), eq (.int .i64 a1.fSpan), eq (.int .i64 a1.fState), eq (.int .i64 a1.fTick), eq (.int .i64 a1.fStamp)], blk b973 30 [eq (.int .i64 a0.fKind), eq (.string a0.fRoom), eq (.string a0.fUser), eq (.string a0.fEvent), eq (.string a0.fThread), eq (.bool a0.fPrivate), eq (.bool a0.fOn), eq (.int .i64 a0.fSpan), eq (.int .i64 a0.fState), eq (.int .i64 a0.fTick), eq (.int .i64 a0.fStamp)]] ++ F) 0 rfl (cve_cons rfl cv_id (cve_cons rfl cv_id (cve_cons rfl cv_id (cve_cons rfl cv_id (cve_cons rfl cv_id (cve_cons rfl cv_id (cve_cons rfl cv_id (cve_cons rfl cv_eq cve_nil)))))))) (all2_app (.cons cva_id (.cons cva_id .nil)) fun _ => cva_id)) (fun _ _ => ?_)
      refine Dv.cvbs rfl trivial rfl Tryz.underlying81 Tryz.underlying5 Tryz.underlying9 ?_
      refine as0 rfl rfl ?_
      refine .fin ?_
      refine WP.seq ?_
      refine WP.reg [(0, false), (1, true), (2, false), (3, false)] (by kernel_rfl) ?_
      refine Dv.ldbs rfl trivial rfl Tryz.underlying30 rfl c30 (mem_at 0 rfl) (Nat.le_of_ble_eq_true rfl) ?_
      obtain ⟨t980, h981, H⟩ := Gets.call H
      refine Dv.callx (pre := []) (F := [blk b974 30 [eq (.int .i64 a1.fKind), eq (.string a1.fRoom), eq (.string a1.fUser), eq (.string a1.fEvent), eq (.string a1.fThread), eq (.bool a1.fPrivate), eq (.bool a1.fOn), eq (.int .i64 a1.fSpan), eq (.int .i64 a1.fState), eq (.int .i64 a1.fTick), eq (.int .i64 a1.fStamp)], blk b973 30 [eq (.int .i64 a0.fKind), eq (.string a0.fRoom), eq (.string a0.fUser), eq (.string a0.fEvent), eq (.string a0.fThread), eq (.bool a0.fPrivate), eq (.bool a0.fOn), eq (.int .i64 a0.fSpan), eq (.int .i64 a0.fState), eq (.int .i64 a0.fTick), eq (.int .i64 a0.fStamp)]] ++ F) (fun g982 : OV => [own (intK .u8) g982.1 t980, blk b974 30 [eq (.int .i64 a1.fKind), eq (.string a1.fRoom), eq (.string a1.fUser), eq (.string a1.fEvent), eq (.string a1.fThread), eq (.bool a1.fPrivate), eq (.bool a1.fOn), eq (.int .i64 a1.fSpan), eq (.int .i64 a1.fState), eq (.int .i64 a1.fTick), eq (.int .i64 a1.fStamp)], blk b973 30 [eq (.int .i64 a0.fKind), eq (.string a0.fRoom), eq (.string a0.fUser), eq (.string a0.fEvent), eq (.string a0.fThread), eq (.bool a0.fPrivate), eq (.bool a0.fOn), eq (.int .i64 a0.fSpan), eq (.int .i64 a0.fState), eq (.int .i64 a0.fTick), eq (.int .i64 a0.fStamp)]] ++ F) rfl trivial cal45 rfl (concourseref03_Bytes.c h981) (perm_ton 2 [0, 1] rfl rfl rfl) rfl nofun (fun g982 _ => ?_)
      refine Dv.gh (gh_frz (E' := [(0, agg (Edu.enc a0)), (1, agg (Edu.enc a1)), (2, eq (.pointer (some ⟨b973, 0, none⟩))), (3, eq (.pointer (some ⟨b974, 0, none⟩))), (4, eq (.int .i64 0)), (5, eq (.string (ofNums t977))), (11, eq (.bool (decide (a0.fStamp < a1.fStamp)))), (16, eq (.bool (decide (a1.fStamp < a0.fStamp)))), (21, sl (intK .u8) t980)]) (l' := [blk b974 30 [eq (.int .i64 a1.fKind), eq (.string a1.fRoom), eq (.string a1.fUser), eq (.string a1.fEvent), eq (.string a1.fThread), eq (.bool a1.fPrivate), eq (.bool a1.fOn), eq (.int .i64 a1.fSpan), eq (.int .i64 a1.fState), eq (.int .i64 a1.fTick), eq (.int .i64 a1.fStamp)], blk b973 30 [eq (.int .i64 a0.fKind), eq (.string a0.fRoom), eq (.string a0.fUser), eq (.string a0.fEvent), eq (.string a0.fThread), eq (.bool a0.fPrivate), eq (.bool a0.fOn), eq (.int .i64 a0.fSpan), eq (.int .i64 a0.fState), eq (.int .i64 a0.fTick), eq (.int .i64 a0.fStamp)]] ++ F) 0 rfl (cve_cons rfl cv_id (cve_cons rfl cv_id (cve_cons rfl cv_id (cve_cons rfl cv_id (cve_cons rfl cv_id (cve_cons rfl cv_id (cve_cons rfl cv_id (cve_cons rfl cv_id (cve_cons rfl cv_eq cve_nil))))))))) (all2_app (.cons cva_id (.cons cva_id .nil)) fun _ => cva_id)) (fun _ _ => ?_)
      refine Dv.cvbs rfl trivial rfl Tryz.underlying81 Tryz.underlying5 Tryz.underlying9 ?_
      refine as0 rfl rfl ?_
      refine .fin ?_
      refine WP.seq ?_
      refine WP.seq ?_
      refine WP.reg [(0, false), (1, false), (2, false)] (by kernel_rfl) ?_
      refine mv0 rfl rfl ?_
      refine mv0 rfl rfl ?_
      refine Dv.bin rfl trivial rfl rfl (fun _ => run_slt) ?_
      refine .fin ?_
      refine WP.cond rfl (fun c983 => ?_) (fun c983 => ?_)
      · replace H := Gets.ct H c983
        refine WP.seq ?_
        refine WP.reg [(0, false)] (by kernel_rfl) ?_
        refine as0 rfl rfl ?_
        refine .fin ?_
        obtain rfl := Gets.out H
        exact WP.retL (fun _ _ h => h) rfl () trivial (.cons (res_tmp rfl) .nil) rfl (st_seln 2 [0, 1] 2 rfl rfl rfl)
      · replace H := Gets.cf H c983
        refine WP.skip ?_
        refine WP.seq ?_
        refine WP.seq ?_
        refine WP.reg [(0, false), (1, false), (2, false)] (by kernel_rfl) ?_
        refine mv0 rfl rfl ?_
        refine mv0 rfl rfl ?_
        refine Dv.bin rfl trivial rfl rfl (fun _ => run_sgt) ?_
        refine .fin ?_
        refine WP.cond rfl (fun c984 => ?_) (fun c984 => ?_)
        · replace H := Gets.ct H c984
          refine WP.seq ?_
          refine WP.reg [(0, false)] (by kernel_rfl) ?_
          refine as0 rfl rfl ?_
          refine .fin ?_
          obtain rfl := Gets.out H
          exact WP.retL (fun _ _ h => h) rfl () trivial (.cons (res_tmp rfl) .nil) rfl (st_seln 2 [0, 1] 2 rfl rfl rfl)
        · replace H := Gets.cf H c984
          refine WP.skip ?_
          refine WP.seq ?_
          refine WP.reg [(0, false)] (by kernel_rfl) ?_
          refine as0 rfl rfl ?_
          refine .fin ?_
          obtain rfl := Gets.out H
          exact WP.retL (fun _ _ h => h) rfl () trivial (.cons (res_tmp rfl) .nil) rfl (st_seln 2 [0, 1] 2 rfl rfl rfl)
theorem concourseref14_Put.c {k : Nat} {a0 : TRef} {a1 : Edu} {r : TRef × Bool × Int} (h : concourseref14_Put.f k a0 a1 = some r) : Pt Tryz.prog 8 [agg (TRef.enc a0), agg (Edu.enc a1)] (tup [agg (TRef.enc r.1), eq (.bool r.2.1), eq (.int .i64 r.2.2)]) := by
  unfold concourseref14_Put.f at h
  refine (Tr.body Tryz.func8 (c := _) rfl Tryz.ntmps8 (Nat.le_of_ble_eq_true rfl) fun R0 F => ?_).pt
  replace h := Gets.of h
  have H := h
  clear h
  refine WP.seq ?_
  refine WP.reg [(0, true), (1, true), (2, true), (3, false), (4, false)] (by kernel_rfl) ?_
  refine Dv.box rfl trivial rfl (cells_agg (TRef.K.one _)) nofun (fun b985 => ?_)
  refine Dv.box rfl trivial rfl (cells_agg (Edu.K.one _)) nofun (fun b986 => ?_)
  refine Dv.alloc (z := .agg #[.slice none 0 0, .slice none 0 0]) (qs := [eq (.slice none 0 0), eq (.slice none 0 0)]) rfl trivial z28 rfl nofun (fun b987 => ?_)
  refine as0 rfl rfl ?_
  refine as0 rfl rfl ?_
  refine .fin ?_
  refine WP.seq ?_
  refine WP.reg [(0, false), (1, false), (2, false)] (by kernel_rfl) ?_
  refine Dv.ldbs rfl trivial rfl Tryz.underlying30 rfl c30 (mem_at 1 rfl) (Nat.le_of_ble_eq_true rfl) ?_
  obtain ⟨t988, h989, H⟩ := Gets.call H
  refine Dv.call rfl trivial cal24 rfl (concourseref03_May.c h989) ?_
  refine as0 rfl rfl ?_
  refine .fin ?_
  refine WP.seq ?_
  refine WP.seq ?_
  refine WP.reg [(0, false), (1, false), (2, false), (3, false), (4, false), (5, false), (6, false)] (by kernel_rfl) ?_
  refine Dv.fab rfl trivial rfl Tryz.underlying30 rfl Tryz.underlying3 c3 (by decide) ?_
  refine Dv.ldb rfl trivial rfl Tryz.underlying3 rfl (mem_at 1 rfl) rfl ?_
  refine Dv.bin rfl trivial rfl rfl (fun _ => run_ne) ?_
  refine mv0 rfl rfl ?_
  cases c990 : (a1.fKind != 2)
  · replace H := Gets.cf H c990
    refine Dv.mv rfl ⟨_, _, rfl, rfl, rfl⟩ rfl ?_
    refine Dv.un rfl ⟨_, _, rfl, rfl, rfl⟩ rfl (fun _ => run_not _) ?_
    refine Dv.pickF rfl trivial rfl rfl ?_
    refine .fin ?_
    refine WP.cond rfl (fun c992 => ?_) (fun c992 => ?_)
    · replace H := Gets.ct H c992
      refine WP.seq ?_
      refine WP.reg [(0, false), (1, true), (2, false), (3, false)] (by kernel_rfl) ?_
      refine Dv.ldbs rfl trivial rfl Tryz.underlying28 rfl c28 (mem_at 2 rfl) (Nat.le_of_ble_eq_true rfl) ?_
      refine Dv.stx ([blk b987 28 [sl Edu.K a0.fL, sl boolK a0.fTold], blk b986 30 [eq (.int .i64 a1.fKind), eq (.string a1.fRoom), eq (.string a1.fUser), eq (.string a1.fEvent), eq (.string a1.fThread), eq (.bool a1.fPrivate), eq (.bool a1.fOn), eq (.int .i64 a1.fSpan), eq (.int .i64 a1.fState), eq (.int .i64 a1.fTick), eq (.int .i64 a1.fStamp)], blk b985 28 [sl Edu.K a0.fL, sl boolK a0.fTold]] ++ F) rfl trivial rfl rfl (cells_agg (TRef.K.one _)) Tryz.underlying28 c28 rfl (j := 0) rfl (Nat.le_of_ble_eq_true rfl) rfl nofun ?_
      refine as0 rfl rfl ?_
      refine as0 rfl rfl ?_
      refine .fin ?_
      obtain rfl := Gets.out H
      exact WP.retL (fun _ _ h => h) rfl () trivial (.cons (res_cells rfl Tryz.underlying28 rfl c28 (mem_at 0 rfl) rfl) (.cons (res_tmp rfl) (.cons (res_tmp rfl) .nil))) rfl (st_seln 3 [0, 1, 2] 3 rfl rfl rfl)
    · replace H := Gets.cf H c992
      refine WP.skip ?_
      refine WP.seq ?_
      refine WP.reg [(0, true)] (by kernel_rfl) ?_
      refine Dv.alloc (z := .agg #[.slice none 0 0, .slice none 0 0]) (qs := [eq (.slice none 0 0), eq (.slice none 0 0)]) rfl trivial z28 rfl nofun (fun b993 => ?_)
      refine .fin ?_
      refine WP.seq ?_
      refine WP.reg [(0, false)] (by kernel_rfl) ?_
      refine as0 rfl rfl ?_
      refine .fin ?_
      refine WP.seqr H (fun q1067 : (Bool × Int × Bool × (List Edu) × (List Bool)) × OV × OV => q1067.1) (fun q1067 : (Bool × Int × Bool × (List Edu) × (List Bool)) × OV × OV => [(0, agg (TRef.enc a0)), (1, agg (Edu.enc a1)), (2, eq (.pointer (some ⟨b985, 0, none⟩))), (3, eq (.pointer (some ⟨b986, 0, none⟩))), (4, eq (.pointer (some ⟨b987, 0, none⟩))), (5, eq (.bool false)), (6, eq (.int .i64 0)), (7, eq (.bool t988)), (8, eq (.pointer (some ⟨b993, 0, none⟩))), (9, eq (.bool q1067.1.1)), (10, eq (.int .i64 q1067.1.2.1)), (20, eq (.bool (!t988))), (26, eq (.bool q1067.1.2.2.1))]) (fun q1067 : (Bool × Int × Bool × (List Edu) × (List Bool)) × OV × OV => [blk b993 28 [eq q1067.2.1.1, eq q1067.2.2.1], blk b987 28 [eq (.slice none 0 0), eq (.slice none 0 0)], blk b986 30 [eq (.int .i64 a1.fKind), eq (.string a1.fRoom), eq (.string a1.fUser), eq (.string a1.fEvent), eq (.string a1.fThread), eq (.bool a1.fPrivate), eq (.bool a1.fOn), eq (.int .i64 a1.fSpan), eq (.int .i64 a1.fState), eq (.int .i64 a1.fTick), eq (.int .i64 a1.fStamp)], blk b985 28 [sl Edu.K a0.fL, sl boolK a0.fTold], own Edu.K q1067.2.1.1 q1067.1.2.2.2.1, own boolK q1067.2.2.1 q1067.1.2.2.2.2] ++ F) (fun q1067 H => ?_) (fun H => ?_)
      · obtain ⟨p994, v995, v996⟩ := q1067
        refine WP.seq ?_
        refine WP.seq ?_
        refine WP.reg [(0, false), (1, false)] (by kernel_rfl) ?_
        refine mv0 rfl rfl ?_
        refine Dv.un rfl trivial rfl (fun _ => run_not _) ?_
        refine .fin ?_
        refine WP.cond rfl (fun c997 => ?_) (fun c997 => ?_)
        · replace H := Gets.ct H c997
          refine WP.seq ?_
          refine WP.reg [(0, false), (1, false), (2, false), (3, false), (4, true), (5, false), (6, true)] (by kernel_rfl) ?_
          refine Dv.fab rfl trivial rfl Tryz.underlying28 rfl Tryz.underlying22 c22 (by decide) ?_
          refine Dv.ldb rfl trivial rfl Tryz.underlying22 rfl (mem_at 0 rfl) rfl ?_
          refine Dv.ldbs rfl trivial rfl Tryz.underlying30 rfl c30 (mem_at 2 rfl) (Nat.le_of_ble_eq_true rfl) ?_
          refine Dv.lit Edu.K ([a1] : List Edu) (css := [Edu.enc a1]) rfl trivial Tryz.underlying22 Tryz.underlying30 c30 z30 rfl (by decide) (by decide) rfl ⟨(cells_agg (Edu.K.one _)), trivial⟩ rfl rfl rfl ?_
          obtain ⟨g998, H⟩ := Gets.grd H
          refine Dv.appx (jj := 4) (ys := ([a1] : List Edu)) (fun v999 : OV => [blk b993 28 [eq v995.1, eq v996.1], blk b987 28 [eq (.slice none 0 0), eq (.slice none 0 0)], blk b986 30 [eq (.int .i64 a1.fKind), eq (.string a1.fRoom), eq (.string a1.fUser), eq (.string a1.fEvent), eq (.string a1.fThread), eq (.bool a1.fPrivate), eq (.bool a1.fOn), eq (.int .i64 a1.fSpan), eq (.int .i64 a1.fState), eq (.int .i64 a1.fTick), eq (.int .i64 a1.fStamp)], blk b985 28 [sl Edu.K a0.fL, sl boolK a0.fTold], own Edu.K v999.1 (p994.2.2.2.1 ++ ([a1] : List Edu)), own boolK v996.1 p994.2.2.2.2] ++ F) rfl trivial rfl rfl rfl src_sl Tryz.underlying22 (.inr ⟨_, Tryz.underlying22⟩) inf30 rfl (by decide) g998 rfl nofun (fun v999 => ?_)
          refine Dv.fab rfl trivial rfl Tryz.underlying28 rfl Tryz.underlying22 c22 (by decide) ?_
          refine Dv.stx ([blk b993 28 [eq v999.1, eq v996.1], blk b987 28 [eq (.slice none 0 0), eq (.slice none 0 0)], blk b986 30 [eq (.int .i64 a1.fKind), eq (.string a1.fRoom), eq (.string a1.fUser), eq (.string a1.fEvent), eq (.string a1.fThread), eq (.bool a1.fPrivate), eq (.bool a1.fOn), eq (.int .i64 a1.fSpan), eq (.int .i64 a1.fState), eq (.int .i64 a1.fTick), eq (.int .i64 a1.fStamp)], blk b985 28 [sl Edu.K a0.fL, sl boolK a0.fTold], own Edu.K v999.1 (p994.2.2.2.1 ++ ([a1] : List Edu)), own boolK v996.1 p994.2.2.2.2] ++ F) rfl trivial rfl rfl (cells_one one_ov) Tryz.underlying22 c22 rfl (j := 0) rfl (Nat.le_of_ble_eq_true rfl) rfl nofun ?_
          refine .fin ?_
          refine WP.reg [(0, false), (1, false), (2, false), (3, true), (4, false), (5, true)] (by kernel_rfl) ?_
          refine Dv.fab rfl trivial rfl Tryz.underlying28 rfl Tryz.underlying23 c23 (by decide) ?_
          refine Dv.ldb rfl trivial rfl Tryz.underlying23 rfl (mem_at 0 rfl) rfl ?_
          refine Dv.lit boolK ([false] : List Bool) (css := [[eq (.bool false)]]) rfl trivial Tryz.underlying23 Tryz.underlying4 c4 z4 rfl (by decide) (by decide) rfl ⟨(cells_one (one_eq rfl)), trivial⟩ rfl rfl rfl ?_
          obtain ⟨g1000, H⟩ := Gets.grd H
          refine Dv.appx (jj := 5) (ys := ([false] : List Bool)) (fun v1001 : OV => [blk b993 28 [eq v999.1, eq v996.1], blk b987 28 [eq (.slice none 0 0), eq (.slice none 0 0)], blk b986 30 [eq (.int .i64 a1.fKind), eq (.string a1.fRoom), eq (.string a1.fUser), eq (.string a1.fEvent), eq (.string a1.fThread), eq (.bool a1.fPrivate), eq (.bool a1.fOn), eq (.int .i64 a1.fSpan), eq (.int .i64 a1.fState), eq (.int .i64 a1.fTick), eq (.int .i64 a1.fStamp)], blk b985 28 [sl Edu.K a0.fL, sl boolK a0.fTold], own Edu.K v999.1 (p994.2.2.2.1 ++ ([a1] : List Edu)), own boolK v1001.1 (p994.2.2.2.2 ++ ([false] : List Bool))] ++ F) rfl trivial rfl rfl rfl src_sl Tryz.underlying23 (.inr ⟨_, Tryz.underlying23⟩) inf4 rfl (by decide) g1000 rfl nofun (fun v1001 => ?_)
          refine Dv.fab rfl trivial rfl Tryz.underlying28 rfl Tryz.underlying23 c23 (by decide) ?_
          refine Dv.stx ([blk b993 28 [eq v999.1, eq v1001.1], blk b987 28 [eq (.slice none 0 0), eq (.slice none 0 0)], blk b986 30 [eq (.int .i64 a1.fKind), eq (.string a1.fRoom), eq (.string a1.fUser), eq (.string a1.fEvent), eq (.string a1.fThread), eq (.bool a1.fPrivate), eq (.bool a1.fOn), eq (.int .i64 a1.fSpan), eq (.int .i64 a1.fState), eq (.int .i64 a1.fTick), eq (.int .i64 a1.fStamp)], blk b985 28 [sl Edu.K a0.fL, sl boolK a0.fTold], own Edu.K v999.1 (p994.2.2.2.1 ++ ([a1] : List Edu)), own boolK v1001.1 (p994.2.2.2.2 ++ ([false] : List Bool))] ++ F) rfl trivial rfl rfl (cells_one one_ov) Tryz.underlying23 c23 rfl (j := 0) rfl (Nat.le_of_ble_eq_true rfl) rfl nofun ?_
          refine .fin ?_
          refine WP.seq ?_
          refine WP.reg [(0, false), (1, true), (2, false), (3, false)] (by kernel_rfl) ?_
          refine Dv.ldbs rfl trivial rfl Tryz.underlying28 rfl c28 (mem_at 0 rfl) (Nat.le_of_ble_eq_true rfl) ?_
          refine Dv.stx ([blk b993 28 [eq v999.1, eq v1001.1], blk b987 28 [eq v999.1, eq v1001.1], blk b986 30 [eq (.int .i64 a1.fKind), eq (.string a1.fRoom), eq (.string a1.fUser), eq (.string a1.fEvent), eq (.string a1.fThread), eq (.bool a1.fPrivate), eq (.bool a1.fOn), eq (.int .i64 a1.fSpan), eq (.int .i64 a1.fState), eq (.int .i64 a1.fTick), eq (.int .i64 a1.fStamp)], blk b985 28 [sl Edu.K a0.fL, sl boolK a0.fTold], own Edu.K v999.1 (p994.2.2.2.1 ++ ([a1] : List Edu)), own boolK v1001.1 (p994.2.2.2.2 ++ ([false] : List Bool))] ++ F) rfl trivial rfl rfl (cells_agg (ones_cons one_ov (ones_cons one_ov ones_nil))) Tryz.underlying28 c28 rfl (j := 1) rfl (Nat.le_of_ble_eq_true rfl) rfl nofun ?_
          refine as0 rfl rfl ?_
          refine as0 rfl rfl ?_
          refine .fin ?_
          refine WP.gh (gh_frz (E' := [(4, eq (.pointer (some ⟨b987, 0, none⟩))), (5, eq (.bool true)), (6, eq (.int .i64 0))]) (l' := [blk b993 28 [sl Edu.K (p994.2.2.2.1 ++ ([a1] : List Edu)), eq v1001.1], blk b987 28 [sl Edu.K (p994.2.2.2.1 ++ ([a1] : List Edu)), eq v1001.1], blk b986 30 [eq (.int .i64 a1.fKind), eq (.string a1.fRoom), eq (.string a1.fUser), eq (.string a1.fEvent), eq (.string a1.fThread), eq (.bool a1.fPrivate), eq (.bool a1.fOn), eq (.int .i64 a1.fSpan), eq (.int .i64 a1.fState), eq (.int .i64 a1.fTick), eq (.int .i64 a1.fStamp)], blk b985 28 [sl Edu.K a0.fL, sl boolK a0.fTold], own boolK v1001.1 (p994.2.2.2.2 ++ ([false] : List Bool))] ++ F) 4 rfl (cve_cons rfl cv_id (cve_cons rfl cv_id (cve_cons rfl cv_id cve_nil))) (all2_app (.cons (cva_blk (.cons cv_eq (.cons cv_id .nil))) (.cons (cva_blk (.cons cv_eq (.cons cv_id .nil))) (.cons cva_id (.cons cva_id (.cons cva_id .nil))))) fun _ => cva_id)) (fun _ _ => ?_)
          refine WP.gh (gh_frz (E' := [(4, eq (.pointer (some ⟨b987, 0, none⟩))), (5, eq (.bool true)), (6, eq (.int .i64 0))]) (l' := [blk b993 28 [sl Edu.K (p994.2.2.2.1 ++ ([a1] : List Edu)), sl boolK (p994.2.2.2.2 ++ ([false] : List Bool))], blk b987 28 [sl Edu.K (p994.2.2.2.1 ++ ([a1] : List Edu)), sl boolK (p994.2.2.2.2 ++ ([false] : List Bool))], blk b986 30 [eq (.int .i64 a1.fKind), eq (.string a1.fRoom), eq (.string a1.fUser), eq (.string a1.fEvent), eq (.string a1.fThread), eq (.bool a1.fPrivate), eq (.bool a1.fOn), eq (.int .i64 a1.fSpan), eq (.int .i64 a1.fState), eq (.int .i64 a1.fTick), eq (.int .i64 a1.fStamp)], blk b985 28 [sl Edu.K a0.fL, sl boolK a0.fTold]] ++ F) 4 rfl (cve_cons rfl cv_id (cve_cons rfl cv_id (cve_cons rfl cv_id cve_nil))) (all2_app (.cons (cva_blk (.cons cv_id (.cons cv_eq .nil))) (.cons (cva_blk (.cons cv_id (.cons cv_eq .nil))) (.cons cva_id (.cons cva_id .nil)))) fun _ => cva_id)) (fun _ _ => ?_)
          obtain rfl := Gets.out H
          exact WP.retL (fun _ _ h => h) rfl () trivial (.cons (res_cells rfl Tryz.underlying28 rfl c28 (mem_at 1 rfl) rfl) (.cons (res_tmp rfl) (.cons (res_tmp rfl) .nil))) rfl (st_seln 4 [0, 1, 2, 3] 4 rfl rfl rfl)
        · replace H := Gets.cf H c997
          refine WP.skip ?_
          refine WP.seq ?_
          refine WP.reg [(0, false), (1, true), (2, false), (3, false)] (by kernel_rfl) ?_
          refine Dv.ldbs rfl trivial rfl Tryz.underlying28 rfl c28 (mem_at 0 rfl) (Nat.le_of_ble_eq_true rfl) ?_
          refine Dv.stx ([blk b993 28 [eq v995.1, eq v996.1], blk b987 28 [eq v995.1, eq v996.1], blk b986 30 [eq (.int .i64 a1.fKind), eq (.string a1.fRoom), eq (.string a1.fUser), eq (.string a1.fEvent), eq (.string a1.fThread), eq (.bool a1.fPrivate), eq (.bool a1.fOn), eq (.int .i64 a1.fSpan), eq (.int .i64 a1.fState), eq (.int .i64 a1.fTick), eq (.int .i64 a1.fStamp)], blk b985 28 [sl Edu.K a0.fL, sl boolK a0.fTold], own Edu.K v995.1 p994.2.2.2.1, own boolK v996.1 p994.2.2.2.2] ++ F) rfl trivial rfl rfl (cells_agg (ones_cons one_ov (ones_cons one_ov ones_nil))) Tryz.underlying28 c28 rfl (j := 1) rfl (Nat.le_of_ble_eq_true rfl) rfl nofun ?_
          refine as0 rfl rfl ?_
          refine as0 rfl rfl ?_
          refine .fin ?_
          refine WP.gh (gh_frz (E' := [(4, eq (.pointer (some ⟨b987, 0, none⟩))), (5, eq (.bool true)), (6, eq (.int .i64 0))]) (l' := [blk b993 28 [sl Edu.K p994.2.2.2.1, eq v996.1], blk b987 28 [sl Edu.K p994.2.2.2.1, eq v996.1], blk b986 30 [eq (.int .i64 a1.fKind), eq (.string a1.fRoom), eq (.string a1.fUser), eq (.string a1.fEvent), eq (.string a1.fThread), eq (.bool a1.fPrivate), eq (.bool a1.fOn), eq (.int .i64 a1.fSpan), eq (.int .i64 a1.fState), eq (.int .i64 a1.fTick), eq (.int .i64 a1.fStamp)], blk b985 28 [sl Edu.K a0.fL, sl boolK a0.fTold], own boolK v996.1 p994.2.2.2.2] ++ F) 4 rfl (cve_cons rfl cv_id (cve_cons rfl cv_id (cve_cons rfl cv_id cve_nil))) (all2_app (.cons (cva_blk (.cons cv_eq (.cons cv_id .nil))) (.cons (cva_blk (.cons cv_eq (.cons cv_id .nil))) (.cons cva_id (.cons cva_id (.cons cva_id .nil))))) fun _ => cva_id)) (fun _ _ => ?_)
          refine WP.gh (gh_frz (E' := [(4, eq (.pointer (some ⟨b987, 0, none⟩))), (5, eq (.bool true)), (6, eq (.int .i64 0))]) (l' := [blk b993 28 [sl Edu.K p994.2.2.2.1, sl boolK p994.2.2.2.2], blk b987 28 [sl Edu.K p994.2.2.2.1, sl boolK p994.2.2.2.2], blk b986 30 [eq (.int .i64 a1.fKind), eq (.string a1.fRoom), eq (.string a1.fUser), eq (.string a1.fEvent), eq (.string a1.fThread), eq (.bool a1.fPrivate), eq (.bool a1.fOn), eq (.int .i64 a1.fSpan), eq (.int .i64 a1.fState), eq (.int .i64 a1.fTick), eq (.int .i64 a1.fStamp)], blk b985 28 [sl Edu.K a0.fL, sl boolK a0.fTold]] ++ F) 4 rfl (cve_cons rfl cv_id (cve_cons rfl cv_id (cve_cons rfl cv_id cve_nil))) (all2_app (.cons (cva_blk (.cons cv_id (.cons cv_eq .nil))) (.cons (cva_blk (.cons cv_id (.cons cv_eq .nil))) (.cons cva_id (.cons cva_id .nil)))) fun _ => cva_id)) (fun _ _ => ?_)
          obtain rfl := Gets.out H
          exact WP.retL (fun _ _ h => h) rfl () trivial (.cons (res_cells rfl Tryz.underlying28 rfl c28 (mem_at 1 rfl) rfl) (.cons (res_tmp rfl) (.cons (res_tmp rfl) .nil))) rfl (st_seln 4 [0, 1, 2, 3] 4 rfl rfl rfl)
      · refine WP.seq ?_
        refine WP.reg [(0, false)] (by kernel_rfl) ?_
        refine as0 rfl rfl ?_
        refine .fin ?_
        refine WP.block ?_
        refine WP.gh (gh_of (st_nil Edu.K none)) (fun _ _ => ?_)
        refine WP.gh (gh_of (st_nil boolK none)) (fun _ _ => ?_)
        refine WP.gh (l' := fun _ => [blk b993 28 [eq nilV.1, eq nilV1.1], blk b987 28 [eq (.slice none 0 0), eq (.slice none 0 0)], blk b986 30 [eq (.int .i64 a1.fKind), eq (.string a1.fRoom), eq (.string a1.fUser), eq (.string a1.fEvent), eq (.string a1.fThread), eq (.bool a1.fPrivate), eq (.bool a1.fOn), eq (.int .i64 a1.fSpan), eq (.int .i64 a1.fState), eq (.int .i64 a1.fTick), eq (.int .i64 a1.fStamp)], blk b985 28 [sl Edu.K a0.fL, sl boolK a0.fTold], own Edu.K nilV.1 ([] : List Edu), own boolK nilV1.1 ([] : List Bool)] ++ F) (gh_of (st_selgn 6 [2, 3, 4, 5, 1, 0] 0 (by kernel_rfl) rfl rfl)) (fun _ _ => ?_)
        refine WP.loopg (fun j_ (p1066 : Bool × Int × (List Edu) × (List Bool) × OV × OV) => concourseref14_Put.l0 k a0 a1 j_ p1066.1 p1066.2.1 p1066.2.2.1 p1066.2.2.2.1) (false, 0, ([] : List Edu), ([] : List Bool), nilV, nilV1) H (fun p1066 => [(0, agg (TRef.enc a0)), (1, agg (Edu.enc a1)), (2, eq (.pointer (some ⟨b985, 0, none⟩))), (3, eq (.pointer (some ⟨b986, 0, none⟩))), (4, eq (.pointer (some ⟨b987, 0, none⟩))), (5, eq (.bool false)), (6, eq (.int .i64 0)), (7, eq (.bool t988)), (8, eq (.pointer (some ⟨b993, 0, none⟩))), (9, eq (.bool p1066.1)), (10, eq (.int .i64 p1066.2.1)), (20, eq (.bool (!t988)))]) (fun p1066 => [blk b993 28 [eq p1066.2.2.2.2.1.1, eq p1066.2.2.2.2.2.1], blk b987 28 [eq (.slice none 0 0), eq (.slice none 0 0)], blk b986 30 [eq (.int .i64 a1.fKind), eq (.string a1.fRoom), eq (.string a1.fUser), eq (.string a1.fEvent), eq (.string a1.fThread), eq (.bool a1.fPrivate), eq (.bool a1.fOn), eq (.int .i64 a1.fSpan), eq (.int .i64 a1.fState), eq (.int .i64 a1.fTick), eq (.int .i64 a1.fStamp)], blk b985 28 [sl Edu.K a0.fL, sl boolK a0.fTold], own Edu.K p1066.2.2.2.2.1.1 p1066.2.2.1, own boolK p1066.2.2.2.2.2.1 p1066.2.2.2.1] ++ F) (weak_cons rfl (weak_cons rfl (weak_cons rfl (weak_cons rfl (weak_cons rfl (weak_cons rfl (weak_cons rfl (weak_cons rfl (weak_cons rfl (weak_cons rfl (weak_cons rfl (weak_cons rfl weak_nil)))))))))))) (List.Perm.refl _) ?_
        rintro j_ ⟨x1002, x1003, x1004, x1005, v1006, v1007⟩ H
        rcases j_ with _ | j1065
        · exact (Gets.no H).elim
        replace H : Gets (concourseref14_Put.l0 k a0 a1 (j1065 + 1) x1002 x1003 x1004 x1005) _ := H
        rw [concourseref14_Put.l0] at H
        refine WP.seq ?_
        refine WP.seq ?_
        refine WP.reg [(0, false), (1, false), (2, false), (3, false), (4, false)] (by kernel_rfl) ?_
        refine mv0 rfl rfl ?_
        refine Dv.fab rfl trivial rfl Tryz.underlying28 rfl Tryz.underlying22 c22 (by decide) ?_
        refine Dv.ldb rfl trivial rfl Tryz.underlying22 rfl (mem_at 3 rfl) rfl ?_
        refine Dv.lenl rfl trivial rfl Tryz.underlying22 ?_
        refine Dv.bin rfl trivial rfl rfl (fun _ => run_lt) ?_
        refine .fin ?_
        refine WP.cond rfl (fun c1008 => ?_) (fun c1008 => ?_)
        · replace H := Gets.ct H c1008
          refine WP.skip ?_
          refine WP.seq ?_
          refine WP.block ?_
          refine WP.seq ?_
          refine WP.reg [(0, false), (1, false), (2, false), (3, false), (4, false), (5, true), (6, true)] (by kernel_rfl) ?_
          refine Dv.fab rfl trivial rfl Tryz.underlying28 rfl Tryz.underlying22 c22 (by decide) ?_
          refine Dv.ldb rfl trivial rfl Tryz.underlying22 rfl (mem_at 3 rfl) rfl ?_
          refine mv0 rfl rfl ?_
          obtain ⟨g1009, H⟩ := Gets.grd H
          refine Dv.ixr rfl trivial rfl rfl Tryz.underlying22 Tryz.underlying30 c30 g1009.1 g1009.2 ?_
          refine Dv.ldrs rfl trivial rfl Tryz.underlying30 rfl c30 (Nat.le_of_ble_eq_true rfl) ?_
          refine Dv.alloc (z := .agg #[.int .i64 0, .string ⟨#[]⟩, .string ⟨#[]⟩, .string ⟨#[]⟩, .string ⟨#[]⟩, .bool false, .bool false, .int .i64 0, .int .i64 0, .int .i64 0, .int .i64 0]) (qs := [eq (.int .i64 0), eq (.string (⟨#[]⟩ : ByteArray)), eq (.string (⟨#[]⟩ : ByteArray)), eq (.string (⟨#[]⟩ : ByteArray)), eq (.string (⟨#[]⟩ : ByteArray)), eq (.bool false), eq (.bool false), eq (.int .i64 0), eq (.int .i64 0), eq (.int .i64 0), eq (.int .i64 0)]) rfl trivial z30 rfl nofun (fun b1010 => ?_)
          refine Dv.stx ([blk b1010 30 [eq (.int .i64 ((Edu.K.at a0.fL x1003).fKind)), eq (.string ((Edu.K.at a0.fL x1003).fRoom)), eq (.string ((Edu.K.at a0.fL x1003).fUser)), eq (.string ((Edu.K.at a0.fL x1003).fEvent)), eq (.string ((Edu.K.at a0.fL x1003).fThread)), eq (.bool ((Edu.K.at a0.fL x1003).fPrivate)), eq (.bool ((Edu.K.at a0.fL x1003).fOn)), eq (.int .i64 ((Edu.K.at a0.fL x1003).fSpan)), eq (.int .i64 ((Edu.K.at a0.fL x1003).fState)), eq (.int .i64 ((Edu.K.at a0.fL x1003).fTick)), eq (.int .i64 ((Edu.K.at a0.fL x1003).fStamp))], blk b993 28 [eq v1006.1, eq v1007.1], blk b987 28 [eq (.slice none 0 0), eq (.slice none 0 0)], blk b986 30 [eq (.int .i64 a1.fKind), eq (.string a1.fRoom), eq (.string a1.fUser), eq (.string a1.fEvent), eq (.string a1.fThread), eq (.bool a1.fPrivate), eq (.bool a1.fOn), eq (.int .i64 a1.fSpan), eq (.int .i64 a1.fState), eq (.int .i64 a1.fTick), eq (.int .i64 a1.fStamp)], blk b985 28 [sl Edu.K a0.fL, sl boolK a0.fTold], own Edu.K v1006.1 x1004, own boolK v1007.1 x1005] ++ F) rfl trivial rfl rfl (cells_agg (Edu.K.one _)) Tryz.underlying30 c30 rfl (j := 0) rfl (Nat.le_of_ble_eq_true rfl) rfl nofun ?_
          refine .fin ?_
          refine WP.seq ?_
          refine WP.seq ?_
          refine WP.reg [(0, false), (1, false), (2, false), (3, false), (4, false), (5, false), (6, false), (7, false), (8, false), (9, false), (10, false), (11, false)] (by kernel_rfl) ?_
          refine Dv.fab rfl trivial rfl Tryz.underlying30 rfl Tryz.underlying9 c9 (by decide) ?_
          refine Dv.ldb rfl trivial rfl Tryz.underlying9 rfl (mem_at 0 rfl) rfl ?_
          refine Dv.fab rfl trivial rfl Tryz.underlying30 rfl Tryz.underlying9 c9 (by decide) ?_
          refine Dv.ldb rfl trivial rfl Tryz.underlying9 rfl (mem_at 3 rfl) rfl ?_
          refine Dv.bin rfl trivial rfl rfl (fun _ => run_seq) ?_
          refine mv0 rfl rfl ?_
          cases c1011 : decide (((Edu.K.at a0.fL x1003).fRoom) = a1.fRoom)
          · replace H := Gets.cf H c1011
            refine sk rfl rfl rfl rfl rfl ?_
            refine sk rfl rfl rfl rfl rfl ?_
            refine sk rfl rfl rfl rfl rfl ?_
            refine sk rfl rfl rfl rfl rfl ?_
            refine sk rfl rfl rfl rfl rfl ?_
            refine Dv.pickF rfl trivial rfl rfl ?_
            refine .fin ?_
            refine WP.cond rfl nofun (fun _ => ?_)
            refine WP.skip ?_
            refine WP.seqn H (fun q1064 : (Bool × Bool × (List Edu) × (List Bool)) × OV × OV => q1064.1) (fun q1064 : (Bool × Bool × (List Edu) × (List Bool)) × OV × OV => [(0, agg (TRef.enc a0)), (1, agg (Edu.enc a1)), (2, eq (.pointer (some ⟨b985, 0, none⟩))), (3, eq (.pointer (some ⟨b986, 0, none⟩))), (4, eq (.pointer (some ⟨b987, 0, none⟩))), (5, eq (.bool false)), (6, eq (.int .i64 0)), (7, eq (.bool t988)), (8, eq (.pointer (some ⟨b993, 0, none⟩))), (9, eq (.bool q1064.1.1)), (10, eq (.int .i64 x1003)), (11, eq (.pointer (some ⟨b1010, 0, none⟩))), (20, eq (.bool (!t988))), (26, eq (.bool (decide (x1003 < (a0.fL.length : Int))))), (45, eq (.bool false)), (73, eq (.bool q1064.1.2.1))]) (fun q1064 : (Bool × Bool × (List Edu) × (List Bool)) × OV × OV => [blk b1010 30 [eq (.int .i64 ((Edu.K.at a0.fL x1003).fKind)), eq (.string ((Edu.K.at a0.fL x1003).fRoom)), eq (.string ((Edu.K.at a0.fL x1003).fUser)), eq (.string ((Edu.K.at a0.fL x1003).fEvent)), eq (.string ((Edu.K.at a0.fL x1003).fThread)), eq (.bool ((Edu.K.at a0.fL x1003).fPrivate)), eq (.bool ((Edu.K.at a0.fL x1003).fOn)), eq (.int .i64 ((Edu.K.at a0.fL x1003).fSpan)), eq (.int .i64 ((Edu.K.at a0.fL x1003).fState)), eq (.int .i64 ((Edu.K.at a0.fL x1003).fTick)), eq (.int .i64 ((Edu.K.at a0.fL x1003).fStamp))], blk b993 28 [eq q1064.2.1.1, eq q1064.2.2.1], blk b987 28 [eq (.slice none 0 0), eq (.slice none 0 0)], blk b986 30 [eq (.int .i64 a1.fKind), eq (.string a1.fRoom), eq (.string a1.fUser), eq (.string a1.fEvent), eq (.string a1.fThread), eq (.bool a1.fPrivate), eq (.bool a1.fOn), eq (.int .i64 a1.fSpan), eq (.int .i64 a1.fState), eq (.int .i64 a1.fTick), eq (.int .i64 a1.fStamp)], blk b985 28 [sl Edu.K a0.fL, sl boolK a0.fTold], own Edu.K q1064.2.1.1 q1064.1.2.2.1, own boolK q1064.2.2.1 q1064.1.2.2.2] ++ F) (fun q1064 H => ?_) (fun H => ?_)
            · obtain ⟨p1041, v1042, v1043⟩ := q1064
              refine WP.seq ?_
              refine WP.reg [(0, false), (1, false), (2, false), (3, false), (4, true), (5, false), (6, true)] (by kernel_rfl) ?_
              refine Dv.fab rfl trivial rfl Tryz.underlying28 rfl Tryz.underlying22 c22 (by decide) ?_
              refine Dv.ldb rfl trivial rfl Tryz.underlying22 rfl (mem_at 1 rfl) rfl ?_
              refine Dv.ldbs rfl trivial rfl Tryz.underlying30 rfl c30 (mem_at 0 rfl) (Nat.le_of_ble_eq_true rfl) ?_
              refine Dv.lit Edu.K ([Edu.K.at a0.fL x1003] : List Edu) (css := [Edu.enc (Edu.K.at a0.fL x1003)]) rfl trivial Tryz.underlying22 Tryz.underlying30 c30 z30 rfl (by decide) (by decide) rfl ⟨(cells_agg (Edu.K.one _)), trivial⟩ rfl rfl rfl ?_
              obtain ⟨g1044, H⟩ := Gets.grd H
              refine Dv.appx (jj := 5) (ys := ([Edu.K.at a0.fL x1003] : List Edu)) (fun v1045 : OV => [blk b1010 30 [eq (.int .i64 ((Edu.K.at a0.fL x1003).fKind)), eq (.string ((Edu.K.at a0.fL x1003).fRoom)), eq (.string ((Edu.K.at a0.fL x1003).fUser)), eq (.string ((Edu.K.at a0.fL x1003).fEvent)), eq (.string ((Edu.K.at a0.fL x1003).fThread)), eq (.bool ((Edu.K.at a0.fL x1003).fPrivate)), eq (.bool ((Edu.K.at a0.fL x1003).fOn)), eq (.int .i64 ((Edu.K.at a0.fL x1003).fSpan)), eq (.int .i64 ((Edu.K.at a0.fL x1003).fState)), eq (.int .i64 ((Edu.K.at a0.fL x1003).fTick)), eq (.int .i64 ((Edu.K.at a0.fL x1003).fStamp))], blk b993 28 [eq v1042.1, eq v1043.1], blk b987 28 [eq (.slice none 0 0), eq (.slice none 0 0)], blk b986 30 [eq (.int .i64 a1.fKind), eq (.string a1.fRoom), eq (.string a1.fUser), eq (.string a1.fEvent), eq (.string a1.fThread), eq (.bool a1.fPrivate), eq (.bool a1.fOn), eq (.int .i64 a1.fSpan), eq (.int .i64 a1.fState), eq (.int .i64 a1.fTick), eq (.int .i64 a1.fStamp)], blk b985 28 [sl Edu.K a0.fL, sl boolK a0.fTold], own Edu.K v1045.1 (p1041.2.2.1 ++ ([Edu.K.at a0.fL x1003] : List Edu)), own boolK v1043.1 p1041.2.2.2] ++ F) rfl trivial rfl rfl rfl src_sl Tryz.underlying22 (.inr ⟨_, Tryz.underlying22⟩) inf30 rfl (by decide) g1044 rfl nofun (fun v1045 => ?_)
              refine Dv.fab rfl trivial rfl Tryz.underlying28 rfl Tryz.underlying22 c22 (by decide) ?_
              refine Dv.stx ([blk b1010 30 [eq (.int .i64 ((Edu.K.at a0.fL x1003).fKind)), eq (.string ((Edu.K.at a0.fL x1003).fRoom)), eq (.string ((Edu.K.at a0.fL x1003).fUser)), eq (.string ((Edu.K.at a0.fL x1003).fEvent)), eq (.string ((Edu.K.at a0.fL x1003).fThread)), eq (.bool ((Edu.K.at a0.fL x1003).fPrivate)), eq (.bool ((Edu.K.at a0.fL x1003).fOn)), eq (.int .i64 ((Edu.K.at a0.fL x1003).fSpan)), eq (.int .i64 ((Edu.K.at a0.fL x1003).fState)), eq (.int .i64 ((Edu.K.at a0.fL x1003).fTick)), eq (.int .i64 ((Edu.K.at a0.fL x1003).fStamp))], blk b993 28 [eq v1045.1, eq v1043.1], blk b987 28 [eq (.slice none 0 0), eq (.slice none 0 0)], blk b986 30 [eq (.int .i64 a1.fKind), eq (.string a1.fRoom), eq (.string a1.fUser), eq (.string a1.fEvent), eq (.string a1.fThread), eq (.bool a1.fPrivate), eq (.bool a1.fOn), eq (.int .i64 a1.fSpan), eq (.int .i64 a1.fState), eq (.int .i64 a1.fTick), eq (.int .i64 a1.fStamp)], blk b985 28 [sl Edu.K a0.fL, sl boolK a0.fTold], own Edu.K v1045.1 (p1041.2.2.1 ++ ([Edu.K.at a0.fL x1003] : List Edu)), own boolK v1043.1 p1041.2.2.2] ++ F) rfl trivial rfl rfl (cells_one one_ov) Tryz.underlying22 c22 rfl (j := 1) rfl (Nat.le_of_ble_eq_true rfl) rfl nofun ?_
              refine .fin ?_
              refine WP.dreg Tryz.checked.mixed [(0, false), (1, false), (2, false), (3, false), (4, false), (5, false), (6, false), (7, false), (8, true), (9, false), (10, true)] (by kernel_rfl) ?_
              refine Dv.fab rfl trivial rfl Tryz.underlying28 rfl Tryz.underlying23 c23 (by decide) ?_
              refine Dv.ldb rfl trivial rfl Tryz.underlying23 rfl (mem_at 1 rfl) rfl ?_
              refine Dv.fab rfl trivial rfl Tryz.underlying28 rfl Tryz.underlying23 c23 (by decide) ?_
              refine Dv.ldb rfl trivial rfl Tryz.underlying23 rfl (mem_at 4 rfl) rfl ?_
              refine mv0 rfl rfl ?_
              obtain ⟨g1046, H⟩ := Gets.grd H
              refine Dv.ixr rfl trivial rfl rfl Tryz.underlying23 Tryz.underlying4 c4 g1046.1 g1046.2 ?_
              refine Dv.ldr rfl trivial rfl Tryz.underlying4 rfl rfl ?_
              refine Dv.lit boolK ([boolK.at a0.fTold x1003] : List Bool) (css := [[eq (.bool (boolK.at a0.fTold x1003))]]) rfl trivial Tryz.underlying23 Tryz.underlying4 c4 z4 rfl (by decide) (by decide) rfl ⟨(cells_one (one_eq rfl)), trivial⟩ rfl rfl rfl ?_
              obtain ⟨g1047, H⟩ := Gets.grd H
              refine Dv.appx (jj := 6) (ys := ([boolK.at a0.fTold x1003] : List Bool)) (fun v1048 : OV => [blk b1010 30 [eq (.int .i64 ((Edu.K.at a0.fL x1003).fKind)), eq (.string ((Edu.K.at a0.fL x1003).fRoom)), eq (.string ((Edu.K.at a0.fL x1003).fUser)), eq (.string ((Edu.K.at a0.fL x1003).fEvent)), eq (.string ((Edu.K.at a0.fL x1003).fThread)), eq (.bool ((Edu.K.at a0.fL x1003).fPrivate)), eq (.bool ((Edu.K.at a0.fL x1003).fOn)), eq (.int .i64 ((Edu.K.at a0.fL x1003).fSpan)), eq (.int .i64 ((Edu.K.at a0.fL x1003).fState)), eq (.int .i64 ((Edu.K.at a0.fL x1003).fTick)), eq (.int .i64 ((Edu.K.at a0.fL x1003).fStamp))], blk b993 28 [eq v1045.1, eq v1043.1], blk b987 28 [eq (.slice none 0 0), eq (.slice none 0 0)], blk b986 30 [eq (.int .i64 a1.fKind), eq (.string a1.fRoom), eq (.string a1.fUser), eq (.string a1.fEvent), eq (.string a1.fThread), eq (.bool a1.fPrivate), eq (.bool a1.fOn), eq (.int .i64 a1.fSpan), eq (.int .i64 a1.fState), eq (.int .i64 a1.fTick), eq (.int .i64 a1.fStamp)], blk b985 28 [sl Edu.K a0.fL, sl boolK a0.fTold], own Edu.K v1045.1 (p1041.2.2.1 ++ ([Edu.K.at a0.fL x1003] : List Edu)), own boolK v1048.1 (p1041.2.2.2 ++ ([boolK.at a0.fTold x1003] : List Bool))] ++ F) rfl trivial rfl rfl rfl src_sl Tryz.underlying23 (.inr ⟨_, Tryz.underlying23⟩) inf4 rfl (by decide) g1047 rfl (fun _ => pend_bits (by kernel_rfl)) (fun v1048 => ?_)
              refine Dv.fab rfl trivial rfl Tryz.underlying28 rfl Tryz.underlying23 c23 (by decide) ?_
              refine Dv.stx ([blk b1010 30 [eq (.int .i64 ((Edu.K.at a0.fL x1003).fKind)), eq (.string ((Edu.K.at a0.fL x1003).fRoom)), eq (.string ((Edu.K.at a0.fL x1003).fUser)), eq (.string ((Edu.K.at a0.fL x1003).fEvent)), eq (.string ((Edu.K.at a0.fL x1003).fThread)), eq (.bool ((Edu.K.at a0.fL x1003).fPrivate)), eq (.bool ((Edu.K.at a0.fL x1003).fOn)), eq (.int .i64 ((Edu.K.at a0.fL x1003).fSpan)), eq (.int .i64 ((Edu.K.at a0.fL x1003).fState)), eq (.int .i64 ((Edu.K.at a0.fL x1003).fTick)), eq (.int .i64 ((Edu.K.at a0.fL x1003).fStamp))], blk b993 28 [eq v1045.1, eq v1048.1], blk b987 28 [eq (.slice none 0 0), eq (.slice none 0 0)], blk b986 30 [eq (.int .i64 a1.fKind), eq (.string a1.fRoom), eq (.string a1.fUser), eq (.string a1.fEvent), eq (.string a1.fThread), eq (.bool a1.fPrivate), eq (.bool a1.fOn), eq (.int .i64 a1.fSpan), eq (.int .i64 a1.fState), eq (.int .i64 a1.fTick), eq (.int .i64 a1.fStamp)], blk b985 28 [sl Edu.K a0.fL, sl boolK a0.fTold], own Edu.K v1045.1 (p1041.2.2.1 ++ ([Edu.K.at a0.fL x1003] : List Edu)), own boolK v1048.1 (p1041.2.2.2 ++ ([boolK.at a0.fTold x1003] : List Bool))] ++ F) rfl trivial rfl rfl (cells_one one_ov) Tryz.underlying23 c23 rfl (j := 1) rfl (Nat.le_of_ble_eq_true rfl) rfl (fun _ => pend_bits (by kernel_rfl)) ?_
              refine .fin ?_
              refine WP.reg [(0, false), (1, false), (2, false)] (by kernel_rfl) ?_
              refine mv0 rfl rfl ?_
              refine Dv.bin rfl trivial rfl rfl (fun _ => run_add) ?_
              refine as0 rfl rfl ?_
              refine .fin ?_
              refine Dn.gh (l' := fun _ : Unit => [blk b993 28 [eq v1045.1, eq v1048.1], blk b987 28 [eq (.slice none 0 0), eq (.slice none 0 0)], blk b986 30 [eq (.int .i64 a1.fKind), eq (.string a1.fRoom), eq (.string a1.fUser), eq (.string a1.fEvent), eq (.string a1.fThread), eq (.bool a1.fPrivate), eq (.bool a1.fOn), eq (.int .i64 a1.fSpan), eq (.int .i64 a1.fState), eq (.int .i64 a1.fTick), eq (.int .i64 a1.fStamp)], blk b985 28 [sl Edu.K a0.fL, sl boolK a0.fTold], own Edu.K v1045.1 (p1041.2.2.1 ++ ([Edu.K.at a0.fL x1003] : List Edu)), own boolK v1048.1 (p1041.2.2.2 ++ ([boolK.at a0.fTold x1003] : List Bool))] ++ F) (gh_of (st_selgn 7 [0, 1, 2, 3, 4, 5, 6] 1 (by kernel_rfl) rfl rfl)) (fun _ _ => ?_)
              exact Back.mk j1065 (p1041.1, w64 (x1003 + 1), p1041.2.2.1 ++ ([Edu.K.at a0.fL x1003] : List Edu), p1041.2.2.2 ++ ([boolK.at a0.fTold x1003] : List Bool), v1045, v1048) (Nat.lt_succ_self _) H (weak_cons rfl (weak_cons rfl (weak_cons rfl (weak_cons rfl (weak_cons rfl (weak_cons rfl (weak_cons rfl (weak_cons rfl (weak_cons rfl (weak_cons rfl (weak_cons rfl (weak_cons rfl weak_nil)))))))))))) (List.Perm.refl _)
            · refine WP.seq ?_
              refine WP.reg [(0, false), (1, false), (2, false), (3, false), (4, false), (5, false), (6, false), (7, false), (8, false), (9, false), (10, false), (11, false), (12, false), (13, false), (14, false), (15, false), (16, false), (17, false), (18, false), (19, false), (20, false), (21, false), (22, false)] (by kernel_rfl) ?_
              refine mv0 rfl rfl ?_
              refine Dv.un rfl trivial rfl (fun _ => run_not _) ?_
              refine mv0 rfl rfl ?_
              cases c1049 : !x1002
              · replace H := Gets.cf H c1049
                refine sk rfl rfl rfl rfl rfl ?_
                refine sk rfl rfl rfl rfl rfl ?_
                refine sk rfl rfl rfl rfl rfl ?_
                refine sk rfl rfl rfl rfl rfl ?_
                refine sk rfl rfl rfl rfl rfl ?_
                refine sk rfl rfl rfl rfl rfl ?_
                refine Dv.skip rfl ⟨_, _, rfl, rfl, .inr rfl⟩ ?_
                refine Dv.skip rfl ⟨_, _, rfl, rfl, .inr rfl⟩ ?_
                refine Dv.skip rfl ⟨_, _, rfl, rfl, .inr rfl⟩ ?_
                refine Dv.skip rfl ⟨_, _, rfl, rfl, .inr rfl⟩ ?_
                refine Dv.skip rfl ⟨_, _, rfl, rfl, .inr rfl⟩ ?_
                refine Dv.skip rfl ⟨_, _, rfl, rfl, .inr rfl⟩ ?_
                refine Dv.skip rfl ⟨_, _, rfl, rfl, .inr rfl⟩ ?_
                refine Dv.skip rfl ⟨_, _, rfl, rfl, .inr rfl⟩ ?_
                refine Dv.skip rfl ⟨_, _, rfl, rfl, .inr rfl⟩ ?_
                refine Dv.skip rfl ⟨_, _, rfl, rfl, .inr rfl⟩ ?_
                refine Dv.skip rfl ⟨_, _, rfl, rfl, .inr rfl⟩ ?_
                refine Dv.skip rfl ⟨_, _, rfl, rfl, .inr rfl⟩ ?_
                refine sk rfl rfl rfl rfl rfl ?_
                refine Dv.pickF rfl trivial rfl rfl ?_
                refine .fin ?_
                refine WP.cond rfl nofun (fun _ => ?_)
                refine WP.skip ?_
                replace H := Gets.out H
                exact Jn.mk ((x1002, false, x1004, x1005), v1006, v1007) H (weak_cons rfl (weak_cons rfl (weak_cons rfl (weak_cons rfl (weak_cons rfl (weak_cons rfl (weak_cons rfl (weak_cons rfl (weak_cons rfl (weak_cons rfl (weak_cons rfl (weak_cons rfl (weak_cons rfl (weak_cons rfl (weak_cons rfl (weak_cons rfl weak_nil)))))))))))))))) (List.Perm.refl _)
              · replace H := Gets.ct H c1049
                refine Dv.fab rfl ⟨_, _, rfl, rfl, rfl⟩ rfl Tryz.underlying30 rfl Tryz.underlying9 c9 (by decide) ?_
                refine Dv.ldb rfl ⟨_, _, rfl, rfl, rfl⟩ rfl Tryz.underlying9 rfl (mem_at 3 rfl) rfl ?_
                refine Dv.fab rfl ⟨_, _, rfl, rfl, rfl⟩ rfl Tryz.underlying30 rfl Tryz.underlying9 c9 (by decide) ?_
                refine Dv.ldb rfl ⟨_, _, rfl, rfl, rfl⟩ rfl Tryz.underlying9 rfl (mem_at 0 rfl) rfl ?_
                refine Dv.bin rfl ⟨_, _, rfl, rfl, rfl⟩ rfl rfl (fun _ => run_slt) ?_
                refine Dv.mv rfl ⟨_, _, rfl, rfl, rfl⟩ rfl ?_
                cases c1050 : sLt a1.fRoom ((Edu.K.at a0.fL x1003).fRoom)
                · replace H := Gets.cf H c1050
                  refine Dv.fab rfl ⟨_, _, rfl, rfl, rfl⟩ rfl Tryz.underlying30 rfl Tryz.underlying9 c9 (by decide) ?_
                  refine Dv.ldb rfl ⟨_, _, rfl, rfl, rfl⟩ rfl Tryz.underlying9 rfl (mem_at 3 rfl) rfl ?_
                  refine Dv.fab rfl ⟨_, _, rfl, rfl, rfl⟩ rfl Tryz.underlying30 rfl Tryz.underlying9 c9 (by decide) ?_
                  refine Dv.ldb rfl ⟨_, _, rfl, rfl, rfl⟩ rfl Tryz.underlying9 rfl (mem_at 0 rfl) rfl ?_
                  refine Dv.bin rfl ⟨_, _, rfl, rfl, rfl⟩ rfl rfl (fun _ => run_seq) ?_
                  refine Dv.mv rfl ⟨_, _, rfl, rfl, rfl⟩ rfl ?_
                  cases c1056 : decide (a1.fRoom = ((Edu.K.at a0.fL x1003).fRoom))
                  · replace H := Gets.cf H c1056
                    refine sk rfl rfl rfl rfl rfl ?_
                    refine sk rfl rfl rfl rfl rfl ?_
                    refine sk rfl rfl rfl rfl rfl ?_
                    refine sk rfl rfl rfl rfl rfl ?_
                    refine sk rfl rfl rfl rfl rfl ?_
                    refine Dv.pickF rfl ⟨_, _, rfl, rfl, rfl⟩ rfl rfl ?_
                    refine Dv.pickF rfl ⟨_, _, rfl, rfl, rfl⟩ rfl rfl ?_
                    refine Dv.pickT rfl trivial rfl rfl ?_
                    refine .fin ?_
                    refine WP.cond rfl nofun (fun _ => ?_)
                    refine WP.skip ?_
                    replace H := Gets.out H
                    exact Jn.mk ((x1002, false, x1004, x1005), v1006, v1007) H (weak_cons rfl (weak_cons rfl (weak_cons rfl (weak_cons rfl (weak_cons rfl (weak_cons rfl (weak_cons rfl (weak_cons rfl (weak_cons rfl (weak_cons rfl (weak_cons rfl (weak_cons rfl (weak_cons rfl (weak_cons rfl (weak_cons rfl (weak_cons rfl weak_nil)))))))))))))))) (List.Perm.refl _)
                  · replace H := Gets.ct H c1056
                    refine Dv.fab rfl ⟨_, _, rfl, rfl, rfl⟩ rfl Tryz.underlying30 rfl Tryz.underlying9 c9 (by decide) ?_
                    refine Dv.ldb rfl ⟨_, _, rfl, rfl, rfl⟩ rfl Tryz.underlying9 rfl (mem_at 3 rfl) rfl ?_
                    refine Dv.fab rfl ⟨_, _, rfl, rfl, rfl⟩ rfl Tryz.underlying30 rfl Tryz.underlying9 c9 (by decide) ?_
                    refine Dv.ldb rfl ⟨_, _, rfl, rfl, rfl⟩ rfl Tryz.underlying9 rfl (mem_at 0 rfl) rfl ?_
                    refine Dv.bin rfl ⟨_, _, rfl, rfl, rfl⟩ rfl rfl (fun _ => run_slt) ?_
                    refine Dv.pickT rfl ⟨_, _, rfl, rfl, rfl⟩ rfl rfl ?_
                    refine Dv.pickF rfl ⟨_, _, rfl, rfl, rfl⟩ rfl rfl ?_
                    refine Dv.pickT rfl trivial rfl rfl ?_
                    refine .fin ?_
                    refine WP.cond rfl (fun c1057 => ?_) (fun c1057 => ?_)
                    · replace H := Gets.ct H c1057
                      refine WP.seq ?_
                      refine WP.reg [(0, false), (1, false), (2, false), (3, false), (4, true), (5, false), (6, true)] (by kernel_rfl) ?_
                      refine Dv.fab rfl trivial rfl Tryz.underlying28 rfl Tryz.underlying22 c22 (by decide) ?_
                      refine Dv.ldb rfl trivial rfl Tryz.underlying22 rfl (mem_at 1 rfl) rfl ?_
                      refine Dv.ldbs rfl trivial rfl Tryz.underlying30 rfl c30 (mem_at 3 rfl) (Nat.le_of_ble_eq_true rfl) ?_
                      refine Dv.lit Edu.K ([a1] : List Edu) (css := [Edu.enc a1]) rfl trivial Tryz.underlying22 Tryz.underlying30 c30 z30 rfl (by decide) (by decide) rfl ⟨(cells_agg (Edu.K.one _)), trivial⟩ rfl rfl rfl ?_
                      obtain ⟨g1058, H⟩ := Gets.grd H
                      refine Dv.appx (jj := 5) (ys := ([a1] : List Edu)) (fun v1059 : OV => [blk b1010 30 [eq (.int .i64 ((Edu.K.at a0.fL x1003).fKind)), eq (.string ((Edu.K.at a0.fL x1003).fRoom)), eq (.string ((Edu.K.at a0.fL x1003).fUser)), eq (.string ((Edu.K.at a0.fL x1003).fEvent)), eq (.string ((Edu.K.at a0.fL x1003).fThread)), eq (.bool ((Edu.K.at a0.fL x1003).fPrivate)), eq (.bool ((Edu.K.at a0.fL x1003).fOn)), eq (.int .i64 ((Edu.K.at a0.fL x1003).fSpan)), eq (.int .i64 ((Edu.K.at a0.fL x1003).fState)), eq (.int .i64 ((Edu.K.at a0.fL x1003).fTick)), eq (.int .i64 ((Edu.K.at a0.fL x1003).fStamp))], blk b993 28 [eq v1006.1, eq v1007.1], blk b987 28 [eq (.slice none 0 0), eq (.slice none 0 0)], blk b986 30 [eq (.int .i64 a1.fKind), eq (.string a1.fRoom), eq (.string a1.fUser), eq (.string a1.fEvent), eq (.string a1.fThread), eq (.bool a1.fPrivate), eq (.bool a1.fOn), eq (.int .i64 a1.fSpan), eq (.int .i64 a1.fState), eq (.int .i64 a1.fTick), eq (.int .i64 a1.fStamp)], blk b985 28 [sl Edu.K a0.fL, sl boolK a0.fTold], own Edu.K v1059.1 (x1004 ++ ([a1] : List Edu)), own boolK v1007.1 x1005] ++ F) rfl trivial rfl rfl rfl src_sl Tryz.underlying22 (.inr ⟨_, Tryz.underlying22⟩) inf30 rfl (by decide) g1058 rfl nofun (fun v1059 => ?_)
                      refine Dv.fab rfl trivial rfl Tryz.underlying28 rfl Tryz.underlying22 c22 (by decide) ?_
                      refine Dv.stx ([blk b1010 30 [eq (.int .i64 ((Edu.K.at a0.fL x1003).fKind)), eq (.string ((Edu.K.at a0.fL x1003).fRoom)), eq (.string ((Edu.K.at a0.fL x1003).fUser)), eq (.string ((Edu.K.at a0.fL x1003).fEvent)), eq (.string ((Edu.K.at a0.fL x1003).fThread)), eq (.bool ((Edu.K.at a0.fL x1003).fPrivate)), eq (.bool ((Edu.K.at a0.fL x1003).fOn)), eq (.int .i64 ((Edu.K.at a0.fL x1003).fSpan)), eq (.int .i64 ((Edu.K.at a0.fL x1003).fState)), eq (.int .i64 ((Edu.K.at a0.fL x1003).fTick)), eq (.int .i64 ((Edu.K.at a0.fL x1003).fStamp))], blk b993 28 [eq v1059.1, eq v1007.1], blk b987 28 [eq (.slice none 0 0), eq (.slice none 0 0)], blk b986 30 [eq (.int .i64 a1.fKind), eq (.string a1.fRoom), eq (.string a1.fUser), eq (.string a1.fEvent), eq (.string a1.fThread), eq (.bool a1.fPrivate), eq (.bool a1.fOn), eq (.int .i64 a1.fSpan), eq (.int .i64 a1.fState), eq (.int .i64 a1.fTick), eq (.int .i64 a1.fStamp)], blk b985 28 [sl Edu.K a0.fL, sl boolK a0.fTold], own Edu.K v1059.1 (x1004 ++ ([a1] : List Edu)), own boolK v1007.1 x1005] ++ F) rfl trivial rfl rfl (cells_one one_ov) Tryz.underlying22 c22 rfl (j := 1) rfl (Nat.le_of_ble_eq_true rfl) rfl nofun ?_
                      refine .fin ?_
                      refine WP.seq ?_
                      refine WP.reg [(0, false), (1, false), (2, false), (3, true), (4, false), (5, true)] (by kernel_rfl) ?_
                      refine Dv.fab rfl trivial rfl Tryz.underlying28 rfl Tryz.underlying23 c23 (by decide) ?_
                      refine Dv.ldb rfl trivial rfl Tryz.underlying23 rfl (mem_at 1 rfl) rfl ?_
                      refine Dv.lit boolK ([false] : List Bool) (css := [[eq (.bool false)]]) rfl trivial Tryz.underlying23 Tryz.underlying4 c4 z4 rfl (by decide) (by decide) rfl ⟨(cells_one (one_eq rfl)), trivial⟩ rfl rfl rfl ?_
                      obtain ⟨g1060, H⟩ := Gets.grd H
                      refine Dv.appx (jj := 6) (ys := ([false] : List Bool)) (fun v1061 : OV => [blk b1010 30 [eq (.int .i64 ((Edu.K.at a0.fL x1003).fKind)), eq (.string ((Edu.K.at a0.fL x1003).fRoom)), eq (.string ((Edu.K.at a0.fL x1003).fUser)), eq (.string ((Edu.K.at a0.fL x1003).fEvent)), eq (.string ((Edu.K.at a0.fL x1003).fThread)), eq (.bool ((Edu.K.at a0.fL x1003).fPrivate)), eq (.bool ((Edu.K.at a0.fL x1003).fOn)), eq (.int .i64 ((Edu.K.at a0.fL x1003).fSpan)), eq (.int .i64 ((Edu.K.at a0.fL x1003).fState)), eq (.int .i64 ((Edu.K.at a0.fL x1003).fTick)), eq (.int .i64 ((Edu.K.at a0.fL x1003).fStamp))], blk b993 28 [eq v1059.1, eq v1007.1], blk b987 28 [eq (.slice none 0 0), eq (.slice none 0 0)], blk b986 30 [eq (.int .i64 a1.fKind), eq (.string a1.fRoom), eq (.string a1.fUser), eq (.string a1.fEvent), eq (.string a1.fThread), eq (.bool a1.fPrivate), eq (.bool a1.fOn), eq (.int .i64 a1.fSpan), eq (.int .i64 a1.fState), eq (.int .i64 a1.fTick), eq (.int .i64 a1.fStamp)], blk b985 28 [sl Edu.K a0.fL, sl boolK a0.fTold], own Edu.K v1059.1 (x1004 ++ ([a1] : List Edu)), own boolK v1061.1 (x1005 ++ ([false] : List Bool))] ++ F) rfl trivial rfl rfl rfl src_sl Tryz.underlying23 (.inr ⟨_, Tryz.underlying23⟩) inf4 rfl (by decide) g1060 rfl nofun (fun v1061 => ?_)
                      refine Dv.fab rfl trivial rfl Tryz.underlying28 rfl Tryz.underlying23 c23 (by decide) ?_
                      refine Dv.stx ([blk b1010 30 [eq (.int .i64 ((Edu.K.at a0.fL x1003).fKind)), eq (.string ((Edu.K.at a0.fL x1003).fRoom)), eq (.string ((Edu.K.at a0.fL x1003).fUser)), eq (.string ((Edu.K.at a0.fL x1003).fEvent)), eq (.string ((Edu.K.at a0.fL x1003).fThread)), eq (.bool ((Edu.K.at a0.fL x1003).fPrivate)), eq (.bool ((Edu.K.at a0.fL x1003).fOn)), eq (.int .i64 ((Edu.K.at a0.fL x1003).fSpan)), eq (.int .i64 ((Edu.K.at a0.fL x1003).fState)), eq (.int .i64 ((Edu.K.at a0.fL x1003).fTick)), eq (.int .i64 ((Edu.K.at a0.fL x1003).fStamp))], blk b993 28 [eq v1059.1, eq v1061.1], blk b987 28 [eq (.slice none 0 0), eq (.slice none 0 0)], blk b986 30 [eq (.int .i64 a1.fKind), eq (.string a1.fRoom), eq (.string a1.fUser), eq (.string a1.fEvent), eq (.string a1.fThread), eq (.bool a1.fPrivate), eq (.bool a1.fOn), eq (.int .i64 a1.fSpan), eq (.int .i64 a1.fState), eq (.int .i64 a1.fTick), eq (.int .i64 a1.fStamp)], blk b985 28 [sl Edu.K a0.fL, sl boolK a0.fTold], own Edu.K v1059.1 (x1004 ++ ([a1] : List Edu)), own boolK v1061.1 (x1005 ++ ([false] : List Bool))] ++ F) rfl trivial rfl rfl (cells_one one_ov) Tryz.underlying23 c23 rfl (j := 1) rfl (Nat.le_of_ble_eq_true rfl) rfl nofun ?_
                      refine .fin ?_
                      refine WP.reg [(0, false)] (by kernel_rfl) ?_
                      refine as0 rfl rfl ?_
                      refine .fin ?_
                      replace H := Gets.out H
                      exact Jn.mk ((true, sLt a1.fUser ((Edu.K.at a0.fL x1003).fUser), x1004 ++ ([a1] : List Edu), x1005 ++ ([false] : List Bool)), v1059, v1061) H (weak_cons rfl (weak_cons rfl (weak_cons rfl (weak_cons rfl (weak_cons rfl (weak_cons rfl (weak_cons rfl (weak_cons rfl (weak_cons rfl (weak_cons rfl (weak_cons rfl (weak_cons rfl (weak_cons rfl (weak_cons rfl (weak_cons rfl (weak_cons rfl weak_nil)))))))))))))))) (List.Perm.refl _)
                    · replace H := Gets.cf H c1057
                      refine WP.skip ?_
                      replace H := Gets.out H
                      exact Jn.mk ((x1002, sLt a1.fUser ((Edu.K.at a0.fL x1003).fUser), x1004, x1005), v1006, v1007) H (weak_cons rfl (weak_cons rfl (weak_cons rfl (weak_cons rfl (weak_cons rfl (weak_cons rfl (weak_cons rfl (weak_cons rfl (weak_cons rfl (weak_cons rfl (weak_cons rfl (weak_cons rfl (weak_cons rfl (weak_cons rfl (weak_cons rfl (weak_cons rfl weak_nil)))))))))))))))) (List.Perm.refl _)
                · replace H := Gets.ct H c1050
                  refine sk rfl rfl rfl rfl rfl ?_
                  refine sk rfl rfl rfl rfl rfl ?_
                  refine sk rfl rfl rfl rfl rfl ?_
                  refine sk rfl rfl rfl rfl rfl ?_
                  refine sk rfl rfl rfl rfl rfl ?_
                  refine sk rfl rfl rfl rfl rfl ?_
                  refine Dv.skip rfl ⟨_, _, rfl, rfl, .inr rfl⟩ ?_
                  refine Dv.skip rfl ⟨_, _, rfl, rfl, .inr rfl⟩ ?_
                  refine Dv.skip rfl ⟨_, _, rfl, rfl, .inr rfl⟩ ?_
                  refine Dv.skip rfl ⟨_, _, rfl, rfl, .inr rfl⟩ ?_
                  refine Dv.skip rfl ⟨_, _, rfl, rfl, .inr rfl⟩ ?_
                  refine sk rfl rfl rfl rfl rfl ?_
                  refine Dv.pickT rfl ⟨_, _, rfl, rfl, rfl⟩ rfl rfl ?_
                  refine Dv.pickT rfl trivial rfl rfl ?_
                  refine .fin ?_
                  refine WP.cond rfl (fun _ => ?_) nofun
                  refine WP.seq ?_
                  refine WP.reg [(0, false), (1, false), (2, false), (3, false), (4, true), (5, false), (6, true)] (by kernel_rfl) ?_
                  refine Dv.fab rfl trivial rfl Tryz.underlying28 rfl Tryz.underlying22 c22 (by decide) ?_
                  refine Dv.ldb rfl trivial rfl Tryz.underlying22 rfl (mem_at 1 rfl) rfl ?_
                  refine Dv.ldbs rfl trivial rfl Tryz.underlying30 rfl c30 (mem_at 3 rfl) (Nat.le_of_ble_eq_true rfl) ?_
                  refine Dv.lit Edu.K ([a1] : List Edu) (css := [Edu.enc a1]) rfl trivial Tryz.underlying22 Tryz.underlying30 c30 z30 rfl (by decide) (by decide) rfl ⟨(cells_agg (Edu.K.one _)), trivial⟩ rfl rfl rfl ?_
                  obtain ⟨g1052, H⟩ := Gets.grd H
                  refine Dv.appx (jj := 5) (ys := ([a1] : List Edu)) (fun v1053 : OV => [blk b1010 30 [eq (.int .i64 ((Edu.K.at a0.fL x1003).fKind)), eq (.string ((Edu.K.at a0.fL x1003).fRoom)), eq (.string ((Edu.K.at a0.fL x1003).fUser)), eq (.string ((Edu.K.at a0.fL x1003).fEvent)), eq (.string ((Edu.K.at a0.fL x1003).fThread)), eq (.bool ((Edu.K.at a0.fL x1003).fPrivate)), eq (.bool ((Edu.K.at a0.fL x1003).fOn)), eq (.int .i64 ((Edu.K.at a0.fL x1003).fSpan)), eq (.int .i64 ((Edu.K.at a0.fL x1003).fState)), eq (.int .i64 ((Edu.K.at a0.fL x1003).fTick)), eq (.int .i64 ((Edu.K.at a0.fL x1003).fStamp))], blk b993 28 [eq v1006.1, eq v1007.1], blk b987 28 [eq (.slice none 0 0), eq (.slice none 0 0)], blk b986 30 [eq (.int .i64 a1.fKind), eq (.string a1.fRoom), eq (.string a1.fUser), eq (.string a1.fEvent), eq (.string a1.fThread), eq (.bool a1.fPrivate), eq (.bool a1.fOn), eq (.int .i64 a1.fSpan), eq (.int .i64 a1.fState), eq (.int .i64 a1.fTick), eq (.int .i64 a1.fStamp)], blk b985 28 [sl Edu.K a0.fL, sl boolK a0.fTold], own Edu.K v1053.1 (x1004 ++ ([a1] : List Edu)), own boolK v1007.1 x1005] ++ F) rfl trivial rfl rfl rfl src_sl Tryz.underlying22 (.inr ⟨_, Tryz.underlying22⟩) inf30 rfl (by decide) g1052 rfl nofun (fun v1053 => ?_)
                  refine Dv.fab rfl trivial rfl Tryz.underlying28 rfl Tryz.underlying22 c22 (by decide) ?_
                  refine Dv.stx ([blk b1010 30 [eq (.int .i64 ((Edu.K.at a0.fL x1003).fKind)), eq (.string ((Edu.K.at a0.fL x1003).fRoom)), eq (.string ((Edu.K.at a0.fL x1003).fUser)), eq (.string ((Edu.K.at a0.fL x1003).fEvent)), eq (.string ((Edu.K.at a0.fL x1003).fThread)), eq (.bool ((Edu.K.at a0.fL x1003).fPrivate)), eq (.bool ((Edu.K.at a0.fL x1003).fOn)), eq (.int .i64 ((Edu.K.at a0.fL x1003).fSpan)), eq (.int .i64 ((Edu.K.at a0.fL x1003).fState)), eq (.int .i64 ((Edu.K.at a0.fL x1003).fTick)), eq (.int .i64 ((Edu.K.at a0.fL x1003).fStamp))], blk b993 28 [eq v1053.1, eq v1007.1], blk b987 28 [eq (.slice none 0 0), eq (.slice none 0 0)], blk b986 30 [eq (.int .i64 a1.fKind), eq (.string a1.fRoom), eq (.string a1.fUser), eq (.string a1.fEvent), eq (.string a1.fThread), eq (.bool a1.fPrivate), eq (.bool a1.fOn), eq (.int .i64 a1.fSpan), eq (.int .i64 a1.fState), eq (.int .i64 a1.fTick), eq (.int .i64 a1.fStamp)], blk b985 28 [sl Edu.K a0.fL, sl boolK a0.fTold], own Edu.K v1053.1 (x1004 ++ ([a1] : List Edu)), own boolK v1007.1 x1005] ++ F) rfl trivial rfl rfl (cells_one one_ov) Tryz.underlying22 c22 rfl (j := 1) rfl (Nat.le_of_ble_eq_true rfl) rfl nofun ?_
                  refine .fin ?_
                  refine WP.seq ?_
                  refine WP.reg [(0, false), (1, false), (2, false), (3, true), (4, false), (5, true)] (by kernel_rfl) ?_
                  refine Dv.fab rfl trivial rfl Tryz.underlying28 rfl Tryz.underlying23 c23 (by decide) ?_
                  refine Dv.ldb rfl trivial rfl Tryz.underlying23 rfl (mem_at 1 rfl) rfl ?_
                  refine Dv.lit boolK ([false] : List Bool) (css := [[eq (.bool false)]]) rfl trivial Tryz.underlying23 Tryz.underlying4 c4 z4 rfl (by decide) (by decide) rfl ⟨(cells_one (one_eq rfl)), trivial⟩ rfl rfl rfl ?_
                  obtain ⟨g1054, H⟩ := Gets.grd H
                  refine Dv.appx (jj := 6) (ys := ([false] : List Bool)) (fun v1055 : OV => [blk b1010 30 [eq (.int .i64 ((Edu.K.at a0.fL x1003).fKind)), eq (.string ((Edu.K.at a0.fL x1003).fRoom)), eq (.string ((Edu.K.at a0.fL x1003).fUser)), eq (.string ((Edu.K.at a0.fL x1003).fEvent)), eq (.string ((Edu.K.at a0.fL x1003).fThread)), eq (.bool ((Edu.K.at a0.fL x1003).fPrivate)), eq (.bool ((Edu.K.at a0.fL x1003).fOn)), eq (.int .i64 ((Edu.K.at a0.fL x1003).fSpan)), eq (.int .i64 ((Edu.K.at a0.fL x1003).fState)), eq (.int .i64 ((Edu.K.at a0.fL x1003).fTick)), eq (.int .i64 ((Edu.K.at a0.fL x1003).fStamp))], blk b993 28 [eq v1053.1, eq v1007.1], blk b987 28 [eq (.slice none 0 0), eq (.slice none 0 0)], blk b986 30 [eq (.int .i64 a1.fKind), eq (.string a1.fRoom), eq (.string a1.fUser), eq (.string a1.fEvent), eq (.string a1.fThread), eq (.bool a1.fPrivate), eq (.bool a1.fOn), eq (.int .i64 a1.fSpan), eq (.int .i64 a1.fState), eq (.int .i64 a1.fTick), eq (.int .i64 a1.fStamp)], blk b985 28 [sl Edu.K a0.fL, sl boolK a0.fTold], own Edu.K v1053.1 (x1004 ++ ([a1] : List Edu)), own boolK v1055.1 (x1005 ++ ([false] : List Bool))] ++ F) rfl trivial rfl rfl rfl src_sl Tryz.underlying23 (.inr ⟨_, Tryz.underlying23⟩) inf4 rfl (by decide) g1054 rfl nofun (fun v1055 => ?_)
                  refine Dv.fab rfl trivial rfl Tryz.underlying28 rfl Tryz.underlying23 c23 (by decide) ?_
                  refine Dv.stx ([blk b1010 30 [eq (.int .i64 ((Edu.K.at a0.fL x1003).fKind)), eq (.string ((Edu.K.at a0.fL x1003).fRoom)), eq (.string ((Edu.K.at a0.fL x1003).fUser)), eq (.string ((Edu.K.at a0.fL x1003).fEvent)), eq (.string ((Edu.K.at a0.fL x1003).fThread)), eq (.bool ((Edu.K.at a0.fL x1003).fPrivate)), eq (.bool ((Edu.K.at a0.fL x1003).fOn)), eq (.int .i64 ((Edu.K.at a0.fL x1003).fSpan)), eq (.int .i64 ((Edu.K.at a0.fL x1003).fState)), eq (.int .i64 ((Edu.K.at a0.fL x1003).fTick)), eq (.int .i64 ((Edu.K.at a0.fL x1003).fStamp))], blk b993 28 [eq v1053.1, eq v1055.1], blk b987 28 [eq (.slice none 0 0), eq (.slice none 0 0)], blk b986 30 [eq (.int .i64 a1.fKind), eq (.string a1.fRoom), eq (.string a1.fUser), eq (.string a1.fEvent), eq (.string a1.fThread), eq (.bool a1.fPrivate), eq (.bool a1.fOn), eq (.int .i64 a1.fSpan), eq (.int .i64 a1.fState), eq (.int .i64 a1.fTick), eq (.int .i64 a1.fStamp)], blk b985 28 [sl Edu.K a0.fL, sl boolK a0.fTold], own Edu.K v1053.1 (x1004 ++ ([a1] : List Edu)), own boolK v1055.1 (x1005 ++ ([false] : List Bool))] ++ F) rfl trivial rfl rfl (cells_one one_ov) Tryz.underlying23 c23 rfl (j := 1) rfl (Nat.le_of_ble_eq_true rfl) rfl nofun ?_
                  refine .fin ?_
                  refine WP.reg [(0, false)] (by kernel_rfl) ?_
                  refine as0 rfl rfl ?_
                  refine .fin ?_
                  replace H := Gets.out H
                  exact Jn.mk ((true, true, x1004 ++ ([a1] : List Edu), x1005 ++ ([false] : List Bool)), v1053, v1055) H (weak_cons rfl (weak_cons rfl (weak_cons rfl (weak_cons rfl (weak_cons rfl (weak_cons rfl (weak_cons rfl (weak_cons rfl (weak_cons rfl (weak_cons rfl (weak_cons rfl (weak_cons rfl (weak_cons rfl (weak_cons rfl (weak_cons rfl (weak_cons rfl weak_nil)))))))))))))))) (List.Perm.refl _)
          · replace H := Gets.ct H c1011
            refine Dv.fab rfl ⟨_, _, rfl, rfl, rfl⟩ rfl Tryz.underlying30 rfl Tryz.underlying9 c9 (by decide) ?_
            refine Dv.ldb rfl ⟨_, _, rfl, rfl, rfl⟩ rfl Tryz.underlying9 rfl (mem_at 0 rfl) rfl ?_
            refine Dv.fab rfl ⟨_, _, rfl, rfl, rfl⟩ rfl Tryz.underlying30 rfl Tryz.underlying9 c9 (by decide) ?_
            refine Dv.ldb rfl ⟨_, _, rfl, rfl, rfl⟩ rfl Tryz.underlying9 rfl (mem_at 3 rfl) rfl ?_
            refine Dv.bin rfl ⟨_, _, rfl, rfl, rfl⟩ rfl rfl (fun _ => run_seq) ?_
            refine Dv.pickT rfl trivial rfl rfl ?_
            refine .fin ?_
            refine WP.cond rfl (fun c1012 => ?_) (fun c1012 => ?_)
            · replace H := Gets.ct H c1012
              refine WP.seq ?_
              refine WP.seq ?_
              refine WP.reg [(0, false), (1, false), (2, false), (3, false)] (by kernel_rfl) ?_
              refine Dv.ldbs rfl trivial rfl Tryz.underlying30 rfl c30 (mem_at 3 rfl) (Nat.le_of_ble_eq_true rfl) ?_
              refine Dv.ldbs rfl trivial rfl Tryz.underlying30 rfl c30 (mem_at 0 rfl) (Nat.le_of_ble_eq_true rfl) ?_
              obtain ⟨t1013, h1014, H⟩ := Gets.call H
              refine Dv.call rfl trivial cal25 rfl (concourseref03_Compare.c h1014) ?_
              refine Dv.bin rfl trivial rfl rfl (fun _ => run_le) ?_
              refine .fin ?_
              refine WP.cond rfl (fun c1015 => ?_) (fun c1015 => ?_)
              · replace H := Gets.ct H c1015
                refine WP.seq ?_
                refine WP.reg [(0, false), (1, true), (2, false), (3, false)] (by kernel_rfl) ?_
                refine Dv.ldbs rfl trivial rfl Tryz.underlying28 rfl c28 (mem_at 4 rfl) (Nat.le_of_ble_eq_true rfl) ?_
                refine Dv.stx ([blk b1010 30 [eq (.int .i64 ((Edu.K.at a0.fL x1003).fKind)), eq (.string ((Edu.K.at a0.fL x1003).fRoom)), eq (.string ((Edu.K.at a0.fL x1003).fUser)), eq (.string ((Edu.K.at a0.fL x1003).fEvent)), eq (.string ((Edu.K.at a0.fL x1003).fThread)), eq (.bool ((Edu.K.at a0.fL x1003).fPrivate)), eq (.bool ((Edu.K.at a0.fL x1003).fOn)), eq (.int .i64 ((Edu.K.at a0.fL x1003).fSpan)), eq (.int .i64 ((Edu.K.at a0.fL x1003).fState)), eq (.int .i64 ((Edu.K.at a0.fL x1003).fTick)), eq (.int .i64 ((Edu.K.at a0.fL x1003).fStamp))], blk b993 28 [eq v1006.1, eq v1007.1], blk b987 28 [sl Edu.K a0.fL, sl boolK a0.fTold], blk b986 30 [eq (.int .i64 a1.fKind), eq (.string a1.fRoom), eq (.string a1.fUser), eq (.string a1.fEvent), eq (.string a1.fThread), eq (.bool a1.fPrivate), eq (.bool a1.fOn), eq (.int .i64 a1.fSpan), eq (.int .i64 a1.fState), eq (.int .i64 a1.fTick), eq (.int .i64 a1.fStamp)], blk b985 28 [sl Edu.K a0.fL, sl boolK a0.fTold], own Edu.K v1006.1 x1004, own boolK v1007.1 x1005] ++ F) rfl trivial rfl rfl (cells_agg (TRef.K.one _)) Tryz.underlying28 c28 rfl (j := 2) rfl (Nat.le_of_ble_eq_true rfl) rfl nofun ?_
                refine as0 rfl rfl ?_
                refine as0 rfl rfl ?_
                refine .fin ?_
                replace H := Gets.outr H
                obtain rfl := Gets.out H
                exact WP.retL (fun _ _ h => h) rfl () trivial (.cons (res_cells rfl Tryz.underlying28 rfl c28 (mem_at 2 rfl) rfl) (.cons (res_tmp rfl) (.cons (res_tmp rfl) .nil))) rfl (st_seln 7 [0, 1, 2, 3, 4, 5, 6] 7 (by kernel_rfl) rfl rfl)
              · replace H := Gets.cf H c1015
                refine WP.skip ?_
                refine WP.exit ?_
                refine WP.reg [(0, false), (1, false), (2, false)] (by kernel_rfl) ?_
                refine mv0 rfl rfl ?_
                refine Dv.bin rfl trivial rfl rfl (fun _ => run_add) ?_
                refine as0 rfl rfl ?_
                refine .fin ?_
                refine Dn.gh (l' := fun _ : Unit => [blk b993 28 [eq v1006.1, eq v1007.1], blk b987 28 [eq (.slice none 0 0), eq (.slice none 0 0)], blk b986 30 [eq (.int .i64 a1.fKind), eq (.string a1.fRoom), eq (.string a1.fUser), eq (.string a1.fEvent), eq (.string a1.fThread), eq (.bool a1.fPrivate), eq (.bool a1.fOn), eq (.int .i64 a1.fSpan), eq (.int .i64 a1.fState), eq (.int .i64 a1.fTick), eq (.int .i64 a1.fStamp)], blk b985 28 [sl Edu.K a0.fL, sl boolK a0.fTold], own Edu.K v1006.1 x1004, own boolK v1007.1 x1005] ++ F) (gh_of (st_selgn 7 [0, 1, 2, 3, 4, 5, 6] 1 (by kernel_rfl) rfl rfl)) (fun _ _ => ?_)
                exact Back.mk j1065 (x1002, w64 (x1003 + 1), x1004, x1005, v1006, v1007) (Nat.lt_succ_self _) H (weak_cons rfl (weak_cons rfl (weak_cons rfl (weak_cons rfl (weak_cons rfl (weak_cons rfl (weak_cons rfl (weak_cons rfl (weak_cons rfl (weak_cons rfl (weak_cons rfl (weak_cons rfl weak_nil)))))))))))) (List.Perm.refl _)
            · replace H := Gets.cf H c1012
              refine WP.skip ?_
              refine WP.seqn H (fun q1039 : (Bool × Bool × (List Edu) × (List Bool)) × OV × OV => q1039.1) (fun q1039 : (Bool × Bool × (List Edu) × (List Bool)) × OV × OV => [(0, agg (TRef.enc a0)), (1, agg (Edu.enc a1)), (2, eq (.pointer (some ⟨b985, 0, none⟩))), (3, eq (.pointer (some ⟨b986, 0, none⟩))), (4, eq (.pointer (some ⟨b987, 0, none⟩))), (5, eq (.bool false)), (6, eq (.int .i64 0)), (7, eq (.bool t988)), (8, eq (.pointer (some ⟨b993, 0, none⟩))), (9, eq (.bool q1039.1.1)), (10, eq (.int .i64 x1003)), (11, eq (.pointer (some ⟨b1010, 0, none⟩))), (20, eq (.bool (!t988))), (26, eq (.bool (decide (x1003 < (a0.fL.length : Int))))), (45, eq (.bool (decide (((Edu.K.at a0.fL x1003).fUser) = a1.fUser)))), (73, eq (.bool q1039.1.2.1))]) (fun q1039 : (Bool × Bool × (List Edu) × (List Bool)) × OV × OV => [blk b1010 30 [eq (.int .i64 ((Edu.K.at a0.fL x1003).fKind)), eq (.string ((Edu.K.at a0.fL x1003).fRoom)), eq (.string ((Edu.K.at a0.fL x1003).fUser)), eq (.string ((Edu.K.at a0.fL x1003).fEvent)), eq (.string ((Edu.K.at a0.fL x1003).fThread)), eq (.bool ((Edu.K.at a0.fL x1003).fPrivate)), eq (.bool ((Edu.K.at a0.fL x1003).fOn)), eq (.int .i64 ((Edu.K.at a0.fL x1003).fSpan)), eq (.int .i64 ((Edu.K.at a0.fL x1003).fState)), eq (.int .i64 ((Edu.K.at a0.fL x1003).fTick)), eq (.int .i64 ((Edu.K.at a0.fL x1003).fStamp))], blk b993 28 [eq q1039.2.1.1, eq q1039.2.2.1], blk b987 28 [eq (.slice none 0 0), eq (.slice none 0 0)], blk b986 30 [eq (.int .i64 a1.fKind), eq (.string a1.fRoom), eq (.string a1.fUser), eq (.string a1.fEvent), eq (.string a1.fThread), eq (.bool a1.fPrivate), eq (.bool a1.fOn), eq (.int .i64 a1.fSpan), eq (.int .i64 a1.fState), eq (.int .i64 a1.fTick), eq (.int .i64 a1.fStamp)], blk b985 28 [sl Edu.K a0.fL, sl boolK a0.fTold], own Edu.K q1039.2.1.1 q1039.1.2.2.1, own boolK q1039.2.2.1 q1039.1.2.2.2] ++ F) (fun q1039 H => ?_) (fun H => ?_)
              · obtain ⟨p1016, v1017, v1018⟩ := q1039
                refine WP.seq ?_
                refine WP.reg [(0, false), (1, false), (2, false), (3, false), (4, true), (5, false), (6, true)] (by kernel_rfl) ?_
                refine Dv.fab rfl trivial rfl Tryz.underlying28 rfl Tryz.underlying22 c22 (by decide) ?_
                refine Dv.ldb rfl trivial rfl Tryz.underlying22 rfl (mem_at 1 rfl) rfl ?_
                refine Dv.ldbs rfl trivial rfl Tryz.underlying30 rfl c30 (mem_at 0 rfl) (Nat.le_of_ble_eq_true rfl) ?_
                refine Dv.lit Edu.K ([Edu.K.at a0.fL x1003] : List Edu) (css := [Edu.enc (Edu.K.at a0.fL x1003)]) rfl trivial Tryz.underlying22 Tryz.underlying30 c30 z30 rfl (by decide) (by decide) rfl ⟨(cells_agg (Edu.K.one _)), trivial⟩ rfl rfl rfl ?_
                obtain ⟨g1019, H⟩ := Gets.grd H
                refine Dv.appx (jj := 5) (ys := ([Edu.K.at a0.fL x1003] : List Edu)) (fun v1020 : OV => [blk b1010 30 [eq (.int .i64 ((Edu.K.at a0.fL x1003).fKind)), eq (.string ((Edu.K.at a0.fL x1003).fRoom)), eq (.string ((Edu.K.at a0.fL x1003).fUser)), eq (.string ((Edu.K.at a0.fL x1003).fEvent)), eq (.string ((Edu.K.at a0.fL x1003).fThread)), eq (.bool ((Edu.K.at a0.fL x1003).fPrivate)), eq (.bool ((Edu.K.at a0.fL x1003).fOn)), eq (.int .i64 ((Edu.K.at a0.fL x1003).fSpan)), eq (.int .i64 ((Edu.K.at a0.fL x1003).fState)), eq (.int .i64 ((Edu.K.at a0.fL x1003).fTick)), eq (.int .i64 ((Edu.K.at a0.fL x1003).fStamp))], blk b993 28 [eq v1017.1, eq v1018.1], blk b987 28 [eq (.slice none 0 0), eq (.slice none 0 0)], blk b986 30 [eq (.int .i64 a1.fKind), eq (.string a1.fRoom), eq (.string a1.fUser), eq (.string a1.fEvent), eq (.string a1.fThread), eq (.bool a1.fPrivate), eq (.bool a1.fOn), eq (.int .i64 a1.fSpan), eq (.int .i64 a1.fState), eq (.int .i64 a1.fTick), eq (.int .i64 a1.fStamp)], blk b985 28 [sl Edu.K a0.fL, sl boolK a0.fTold], own Edu.K v1020.1 (p1016.2.2.1 ++ ([Edu.K.at a0.fL x1003] : List Edu)), own boolK v1018.1 p1016.2.2.2] ++ F) rfl trivial rfl rfl rfl src_sl Tryz.underlying22 (.inr ⟨_, Tryz.underlying22⟩) inf30 rfl (by decide) g1019 rfl nofun (fun v1020 => ?_)
                refine Dv.fab rfl trivial rfl Tryz.underlying28 rfl Tryz.underlying22 c22 (by decide) ?_
                refine Dv.stx ([blk b1010 30 [eq (.int .i64 ((Edu.K.at a0.fL x1003).fKind)), eq (.string ((Edu.K.at a0.fL x1003).fRoom)), eq (.string ((Edu.K.at a0.fL x1003).fUser)), eq (.string ((Edu.K.at a0.fL x1003).fEvent)), eq (.string ((Edu.K.at a0.fL x1003).fThread)), eq (.bool ((Edu.K.at a0.fL x1003).fPrivate)), eq (.bool ((Edu.K.at a0.fL x1003).fOn)), eq (.int .i64 ((Edu.K.at a0.fL x1003).fSpan)), eq (.int .i64 ((Edu.K.at a0.fL x1003).fState)), eq (.int .i64 ((Edu.K.at a0.fL x1003).fTick)), eq (.int .i64 ((Edu.K.at a0.fL x1003).fStamp))], blk b993 28 [eq v1020.1, eq v1018.1], blk b987 28 [eq (.slice none 0 0), eq (.slice none 0 0)], blk b986 30 [eq (.int .i64 a1.fKind), eq (.string a1.fRoom), eq (.string a1.fUser), eq (.string a1.fEvent), eq (.string a1.fThread), eq (.bool a1.fPrivate), eq (.bool a1.fOn), eq (.int .i64 a1.fSpan), eq (.int .i64 a1.fState), eq (.int .i64 a1.fTick), eq (.int .i64 a1.fStamp)], blk b985 28 [sl Edu.K a0.fL, sl boolK a0.fTold], own Edu.K v1020.1 (p1016.2.2.1 ++ ([Edu.K.at a0.fL x1003] : List Edu)), own boolK v1018.1 p1016.2.2.2] ++ F) rfl trivial rfl rfl (cells_one one_ov) Tryz.underlying22 c22 rfl (j := 1) rfl (Nat.le_of_ble_eq_true rfl) rfl nofun ?_
                refine .fin ?_
                refine WP.dreg Tryz.checked.mixed [(0, false), (1, false), (2, false), (3, false), (4, false), (5, false), (6, false), (7, false), (8, true), (9, false), (10, true)] (by kernel_rfl) ?_
                refine Dv.fab rfl trivial rfl Tryz.underlying28 rfl Tryz.underlying23 c23 (by decide) ?_
                refine Dv.ldb rfl trivial rfl Tryz.underlying23 rfl (mem_at 1 rfl) rfl ?_
                refine Dv.fab rfl trivial rfl Tryz.underlying28 rfl Tryz.underlying23 c23 (by decide) ?_
                refine Dv.ldb rfl trivial rfl Tryz.underlying23 rfl (mem_at 4 rfl) rfl ?_
                refine mv0 rfl rfl ?_
                obtain ⟨g1021, H⟩ := Gets.grd H
                refine Dv.ixr rfl trivial rfl rfl Tryz.underlying23 Tryz.underlying4 c4 g1021.1 g1021.2 ?_
                refine Dv.ldr rfl trivial rfl Tryz.underlying4 rfl rfl ?_
                refine Dv.lit boolK ([boolK.at a0.fTold x1003] : List Bool) (css := [[eq (.bool (boolK.at a0.fTold x1003))]]) rfl trivial Tryz.underlying23 Tryz.underlying4 c4 z4 rfl (by decide) (by decide) rfl ⟨(cells_one (one_eq rfl)), trivial⟩ rfl rfl rfl ?_
                obtain ⟨g1022, H⟩ := Gets.grd H
                refine Dv.appx (jj := 6) (ys := ([boolK.at a0.fTold x1003] : List Bool)) (fun v1023 : OV => [blk b1010 30 [eq (.int .i64 ((Edu.K.at a0.fL x1003).fKind)), eq (.string ((Edu.K.at a0.fL x1003).fRoom)), eq (.string ((Edu.K.at a0.fL x1003).fUser)), eq (.string ((Edu.K.at a0.fL x1003).fEvent)), eq (.string ((Edu.K.at a0.fL x1003).fThread)), eq (.bool ((Edu.K.at a0.fL x1003).fPrivate)), eq (.bool ((Edu.K.at a0.fL x1003).fOn)), eq (.int .i64 ((Edu.K.at a0.fL x1003).fSpan)), eq (.int .i64 ((Edu.K.at a0.fL x1003).fState)), eq (.int .i64 ((Edu.K.at a0.fL x1003).fTick)), eq (.int .i64 ((Edu.K.at a0.fL x1003).fStamp))], blk b993 28 [eq v1020.1, eq v1018.1], blk b987 28 [eq (.slice none 0 0), eq (.slice none 0 0)], blk b986 30 [eq (.int .i64 a1.fKind), eq (.string a1.fRoom), eq (.string a1.fUser), eq (.string a1.fEvent), eq (.string a1.fThread), eq (.bool a1.fPrivate), eq (.bool a1.fOn), eq (.int .i64 a1.fSpan), eq (.int .i64 a1.fState), eq (.int .i64 a1.fTick), eq (.int .i64 a1.fStamp)], blk b985 28 [sl Edu.K a0.fL, sl boolK a0.fTold], own Edu.K v1020.1 (p1016.2.2.1 ++ ([Edu.K.at a0.fL x1003] : List Edu)), own boolK v1023.1 (p1016.2.2.2 ++ ([boolK.at a0.fTold x1003] : List Bool))] ++ F) rfl trivial rfl rfl rfl src_sl Tryz.underlying23 (.inr ⟨_, Tryz.underlying23⟩) inf4 rfl (by decide) g1022 rfl (fun _ => pend_bits (by kernel_rfl)) (fun v1023 => ?_)
                refine Dv.fab rfl trivial rfl Tryz.underlying28 rfl Tryz.underlying23 c23 (by decide) ?_
                refine Dv.stx ([blk b1010 30 [eq (.int .i64 ((Edu.K.at a0.fL x1003).fKind)), eq (.string ((Edu.K.at a0.fL x1003).fRoom)), eq (.string ((Edu.K.at a0.fL x1003).fUser)), eq (.string ((Edu.K.at a0.fL x1003).fEvent)), eq (.string ((Edu.K.at a0.fL x1003).fThread)), eq (.bool ((Edu.K.at a0.fL x1003).fPrivate)), eq (.bool ((Edu.K.at a0.fL x1003).fOn)), eq (.int .i64 ((Edu.K.at a0.fL x1003).fSpan)), eq (.int .i64 ((Edu.K.at a0.fL x1003).fState)), eq (.int .i64 ((Edu.K.at a0.fL x1003).fTick)), eq (.int .i64 ((Edu.K.at a0.fL x1003).fStamp))], blk b993 28 [eq v1020.1, eq v1023.1], blk b987 28 [eq (.slice none 0 0), eq (.slice none 0 0)], blk b986 30 [eq (.int .i64 a1.fKind), eq (.string a1.fRoom), eq (.string a1.fUser), eq (.string a1.fEvent), eq (.string a1.fThread), eq (.bool a1.fPrivate), eq (.bool a1.fOn), eq (.int .i64 a1.fSpan), eq (.int .i64 a1.fState), eq (.int .i64 a1.fTick), eq (.int .i64 a1.fStamp)], blk b985 28 [sl Edu.K a0.fL, sl boolK a0.fTold], own Edu.K v1020.1 (p1016.2.2.1 ++ ([Edu.K.at a0.fL x1003] : List Edu)), own boolK v1023.1 (p1016.2.2.2 ++ ([boolK.at a0.fTold x1003] : List Bool))] ++ F) rfl trivial rfl rfl (cells_one one_ov) Tryz.underlying23 c23 rfl (j := 1) rfl (Nat.le_of_ble_eq_true rfl) rfl (fun _ => pend_bits (by kernel_rfl)) ?_
                refine .fin ?_
                refine WP.reg [(0, false), (1, false), (2, false)] (by kernel_rfl) ?_
                refine mv0 rfl rfl ?_
                refine Dv.bin rfl trivial rfl rfl (fun _ => run_add) ?_
                refine as0 rfl rfl ?_
                refine .fin ?_
                refine Dn.gh (l' := fun _ : Unit => [blk b993 28 [eq v1020.1, eq v1023.1], blk b987 28 [eq (.slice none 0 0), eq (.slice none 0 0)], blk b986 30 [eq (.int .i64 a1.fKind), eq (.string a1.fRoom), eq (.string a1.fUser), eq (.string a1.fEvent), eq (.string a1.fThread), eq (.bool a1.fPrivate), eq (.bool a1.fOn), eq (.int .i64 a1.fSpan), eq (.int .i64 a1.fState), eq (.int .i64 a1.fTick), eq (.int .i64 a1.fStamp)], blk b985 28 [sl Edu.K a0.fL, sl boolK a0.fTold], own Edu.K v1020.1 (p1016.2.2.1 ++ ([Edu.K.at a0.fL x1003] : List Edu)), own boolK v1023.1 (p1016.2.2.2 ++ ([boolK.at a0.fTold x1003] : List Bool))] ++ F) (gh_of (st_selgn 7 [0, 1, 2, 3, 4, 5, 6] 1 (by kernel_rfl) rfl rfl)) (fun _ _ => ?_)
                exact Back.mk j1065 (p1016.1, w64 (x1003 + 1), p1016.2.2.1 ++ ([Edu.K.at a0.fL x1003] : List Edu), p1016.2.2.2 ++ ([boolK.at a0.fTold x1003] : List Bool), v1020, v1023) (Nat.lt_succ_self _) H (weak_cons rfl (weak_cons rfl (weak_cons rfl (weak_cons rfl (weak_cons rfl (weak_cons rfl (weak_cons rfl (weak_cons rfl (weak_cons rfl (weak_cons rfl (weak_cons rfl (weak_cons rfl weak_nil)))))))))))) (List.Perm.refl _)
              · refine WP.seq ?_
                refine WP.reg [(0, false), (1, false), (2, false), (3, false), (4, false), (5, false), (6, false), (7, false), (8, false), (9, false), (10, false), (11, false), (12, false), (13, false), (14, false), (15, false), (16, false), (17, false), (18, false), (19, false), (20, false), (21, false), (22, false)] (by kernel_rfl) ?_
                refine mv0 rfl rfl ?_
                refine Dv.un rfl trivial rfl (fun _ => run_not _) ?_
                refine mv0 rfl rfl ?_
                cases c1024 : !x1002
                · replace H := Gets.cf H c1024
                  refine sk rfl rfl rfl rfl rfl ?_
                  refine sk rfl rfl rfl rfl rfl ?_
                  refine sk rfl rfl rfl rfl rfl ?_
                  refine sk rfl rfl rfl rfl rfl ?_
                  refine sk rfl rfl rfl rfl rfl ?_
                  refine sk rfl rfl rfl rfl rfl ?_
                  refine Dv.skip rfl ⟨_, _, rfl, rfl, .inr rfl⟩ ?_
                  refine Dv.skip rfl ⟨_, _, rfl, rfl, .inr rfl⟩ ?_
                  refine Dv.skip rfl ⟨_, _, rfl, rfl, .inr rfl⟩ ?_
                  refine Dv.skip rfl ⟨_, _, rfl, rfl, .inr rfl⟩ ?_
                  refine Dv.skip rfl ⟨_, _, rfl, rfl, .inr rfl⟩ ?_
                  refine Dv.skip rfl ⟨_, _, rfl, rfl, .inr rfl⟩ ?_
                  refine Dv.skip rfl ⟨_, _, rfl, rfl, .inr rfl⟩ ?_
                  refine Dv.skip rfl ⟨_, _, rfl, rfl, .inr rfl⟩ ?_
                  refine Dv.skip rfl ⟨_, _, rfl, rfl, .inr rfl⟩ ?_
                  refine Dv.skip rfl ⟨_, _, rfl, rfl, .inr rfl⟩ ?_
                  refine Dv.skip rfl ⟨_, _, rfl, rfl, .inr rfl⟩ ?_
                  refine Dv.skip rfl ⟨_, _, rfl, rfl, .inr rfl⟩ ?_
                  refine sk rfl rfl rfl rfl rfl ?_
                  refine Dv.pickF rfl trivial rfl rfl ?_
                  refine .fin ?_
                  refine WP.cond rfl nofun (fun _ => ?_)
                  refine WP.skip ?_
                  replace H := Gets.out H
                  exact Jn.mk ((x1002, false, x1004, x1005), v1006, v1007) H (weak_cons rfl (weak_cons rfl (weak_cons rfl (weak_cons rfl (weak_cons rfl (weak_cons rfl (weak_cons rfl (weak_cons rfl (weak_cons rfl (weak_cons rfl (weak_cons rfl (weak_cons rfl (weak_cons rfl (weak_cons rfl (weak_cons rfl (weak_cons rfl weak_nil)))))))))))))))) (List.Perm.refl _)
                · replace H := Gets.ct H c1024
                  refine Dv.fab rfl ⟨_, _, rfl, rfl, rfl⟩ rfl Tryz.underlying30 rfl Tryz.underlying9 c9 (by decide) ?_
                  refine Dv.ldb rfl ⟨_, _, rfl, rfl, rfl⟩ rfl Tryz.underlying9 rfl (mem_at 3 rfl) rfl ?_
                  refine Dv.fab rfl ⟨_, _, rfl, rfl, rfl⟩ rfl Tryz.underlying30 rfl Tryz.underlying9 c9 (by decide) ?_
                  refine Dv.ldb rfl ⟨_, _, rfl, rfl, rfl⟩ rfl Tryz.underlying9 rfl (mem_at 0 rfl) rfl ?_
                  refine Dv.bin rfl ⟨_, _, rfl, rfl, rfl⟩ rfl rfl (fun _ => run_slt) ?_
                  refine Dv.mv rfl ⟨_, _, rfl, rfl, rfl⟩ rfl ?_
                  cases c1025 : sLt a1.fRoom ((Edu.K.at a0.fL x1003).fRoom)
                  · replace H := Gets.cf H c1025
                    refine Dv.fab rfl ⟨_, _, rfl, rfl, rfl⟩ rfl Tryz.underlying30 rfl Tryz.underlying9 c9 (by decide) ?_
                    refine Dv.ldb rfl ⟨_, _, rfl, rfl, rfl⟩ rfl Tryz.underlying9 rfl (mem_at 3 rfl) rfl ?_
                    refine Dv.fab rfl ⟨_, _, rfl, rfl, rfl⟩ rfl Tryz.underlying30 rfl Tryz.underlying9 c9 (by decide) ?_
                    refine Dv.ldb rfl ⟨_, _, rfl, rfl, rfl⟩ rfl Tryz.underlying9 rfl (mem_at 0 rfl) rfl ?_
                    refine Dv.bin rfl ⟨_, _, rfl, rfl, rfl⟩ rfl rfl (fun _ => run_seq) ?_
                    refine Dv.mv rfl ⟨_, _, rfl, rfl, rfl⟩ rfl ?_
                    cases c1031 : decide (a1.fRoom = ((Edu.K.at a0.fL x1003).fRoom))
                    · replace H := Gets.cf H c1031
                      refine sk rfl rfl rfl rfl rfl ?_
                      refine sk rfl rfl rfl rfl rfl ?_
                      refine sk rfl rfl rfl rfl rfl ?_
                      refine sk rfl rfl rfl rfl rfl ?_
                      refine sk rfl rfl rfl rfl rfl ?_
                      refine Dv.pickF rfl ⟨_, _, rfl, rfl, rfl⟩ rfl rfl ?_
                      refine Dv.pickF rfl ⟨_, _, rfl, rfl, rfl⟩ rfl rfl ?_
                      refine Dv.pickT rfl trivial rfl rfl ?_
                      refine .fin ?_
                      refine WP.cond rfl nofun (fun _ => ?_)
                      refine WP.skip ?_
                      replace H := Gets.out H
                      exact Jn.mk ((x1002, false, x1004, x1005), v1006, v1007) H (weak_cons rfl (weak_cons rfl (weak_cons rfl (weak_cons rfl (weak_cons rfl (weak_cons rfl (weak_cons rfl (weak_cons rfl (weak_cons rfl (weak_cons rfl (weak_cons rfl (weak_cons rfl (weak_cons rfl (weak_cons rfl (weak_cons rfl (weak_cons rfl weak_nil)))))))))))))))) (List.Perm.refl _)
                    · replace H := Gets.ct H c1031
                      refine Dv.fab rfl ⟨_, _, rfl, rfl, rfl⟩ rfl Tryz.underlying30 rfl Tryz.underlying9 c9 (by decide) ?_
                      refine Dv.ldb rfl ⟨_, _, rfl, rfl, rfl⟩ rfl Tryz.underlying9 rfl (mem_at 3 rfl) rfl ?_
                      refine Dv.fab rfl ⟨_, _, rfl, rfl, rfl⟩ rfl Tryz.underlying30 rfl Tryz.underlying9 c9 (by decide) ?_
                      refine Dv.ldb rfl ⟨_, _, rfl, rfl, rfl⟩ rfl Tryz.underlying9 rfl (mem_at 0 rfl) rfl ?_
                      refine Dv.bin rfl ⟨_, _, rfl, rfl, rfl⟩ rfl rfl (fun _ => run_slt) ?_
                      refine Dv.pickT rfl ⟨_, _, rfl, rfl, rfl⟩ rfl rfl ?_
                      refine Dv.pickF rfl ⟨_, _, rfl, rfl, rfl⟩ rfl rfl ?_
                      refine Dv.pickT rfl trivial rfl rfl ?_
                      refine .fin ?_
                      refine WP.cond rfl (fun c1032 => ?_) (fun c1032 => ?_)
                      · replace H := Gets.ct H c1032
                        refine WP.seq ?_
                        refine WP.reg [(0, false), (1, false), (2, false), (3, false), (4, true), (5, false), (6, true)] (by kernel_rfl) ?_
                        refine Dv.fab rfl trivial rfl Tryz.underlying28 rfl Tryz.underlying22 c22 (by decide) ?_
                        refine Dv.ldb rfl trivial rfl Tryz.underlying22 rfl (mem_at 1 rfl) rfl ?_
                        refine Dv.ldbs rfl trivial rfl Tryz.underlying30 rfl c30 (mem_at 3 rfl) (Nat.le_of_ble_eq_true rfl) ?_
                        refine Dv.lit Edu.K ([a1] : List Edu) (css := [Edu.enc a1]) rfl trivial Tryz.underlying22 Tryz.underlying30 c30 z30 rfl (by decide) (by decide) rfl ⟨(cells_agg (Edu.K.one _)), trivial⟩ rfl rfl rfl ?_
                        obtain ⟨g1033, H⟩ := Gets.grd H
                        refine Dv.appx (jj := 5) (ys := ([a1] : List Edu)) (fun v1034 : OV => [blk b1010 30 [eq (.int .i64 ((Edu.K.at a0.fL x1003).fKind)), eq (.string ((Edu.K.at a0.fL x1003).fRoom)), eq (.string ((Edu.K.at a0.fL x1003).fUser)), eq (.string ((Edu.K.at a0.fL x1003).fEvent)), eq (.string ((Edu.K.at a0.fL x1003).fThread)), eq (.bool ((Edu.K.at a0.fL x1003).fPrivate)), eq (.bool ((Edu.K.at a0.fL x1003).fOn)), eq (.int .i64 ((Edu.K.at a0.fL x1003).fSpan)), eq (.int .i64 ((Edu.K.at a0.fL x1003).fState)), eq (.int .i64 ((Edu.K.at a0.fL x1003).fTick)), eq (.int .i64 ((Edu.K.at a0.fL x1003).fStamp))], blk b993 28 [eq v1006.1, eq v1007.1], blk b987 28 [eq (.slice none 0 0), eq (.slice none 0 0)], blk b986 30 [eq (.int .i64 a1.fKind), eq (.string a1.fRoom), eq (.string a1.fUser), eq (.string a1.fEvent), eq (.string a1.fThread), eq (.bool a1.fPrivate), eq (.bool a1.fOn), eq (.int .i64 a1.fSpan), eq (.int .i64 a1.fState), eq (.int .i64 a1.fTick), eq (.int .i64 a1.fStamp)], blk b985 28 [sl Edu.K a0.fL, sl boolK a0.fTold], own Edu.K v1034.1 (x1004 ++ ([a1] : List Edu)), own boolK v1007.1 x1005] ++ F) rfl trivial rfl rfl rfl src_sl Tryz.underlying22 (.inr ⟨_, Tryz.underlying22⟩) inf30 rfl (by decide) g1033 rfl nofun (fun v1034 => ?_)
                        refine Dv.fab rfl trivial rfl Tryz.underlying28 rfl Tryz.underlying22 c22 (by decide) ?_
                        refine Dv.stx ([blk b1010 30 [eq (.int .i64 ((Edu.K.at a0.fL x1003).fKind)), eq (.string ((Edu.K.at a0.fL x1003).fRoom)), eq (.string ((Edu.K.at a0.fL x1003).fUser)), eq (.string ((Edu.K.at a0.fL x1003).fEvent)), eq (.string ((Edu.K.at a0.fL x1003).fThread)), eq (.bool ((Edu.K.at a0.fL x1003).fPrivate)), eq (.bool ((Edu.K.at a0.fL x1003).fOn)), eq (.int .i64 ((Edu.K.at a0.fL x1003).fSpan)), eq (.int .i64 ((Edu.K.at a0.fL x1003).fState)), eq (.int .i64 ((Edu.K.at a0.fL x1003).fTick)), eq (.int .i64 ((Edu.K.at a0.fL x1003).fStamp))], blk b993 28 [eq v1034.1, eq v1007.1], blk b987 28 [eq (.slice none 0 0), eq (.slice none 0 0)], blk b986 30 [eq (.int .i64 a1.fKind), eq (.string a1.fRoom), eq (.string a1.fUser), eq (.string a1.fEvent), eq (.string a1.fThread), eq (.bool a1.fPrivate), eq (.bool a1.fOn), eq (.int .i64 a1.fSpan), eq (.int .i64 a1.fState), eq (.int .i64 a1.fTick), eq (.int .i64 a1.fStamp)], blk b985 28 [sl Edu.K a0.fL, sl boolK a0.fTold], own Edu.K v1034.1 (x1004 ++ ([a1] : List Edu)), own boolK v1007.1 x1005] ++ F) rfl trivial rfl rfl (cells_one one_ov) Tryz.underlying22 c22 rfl (j := 1) rfl (Nat.le_of_ble_eq_true rfl) rfl nofun ?_
                        refine .fin ?_
                        refine WP.seq ?_
                        refine WP.reg [(0, false), (1, false), (2, false), (3, true), (4, false), (5, true)] (by kernel_rfl) ?_
                        refine Dv.fab rfl trivial rfl Tryz.underlying28 rfl Tryz.underlying23 c23 (by decide) ?_
                        refine Dv.ldb rfl trivial rfl Tryz.underlying23 rfl (mem_at 1 rfl) rfl ?_
                        refine Dv.lit boolK ([false] : List Bool) (css := [[eq (.bool false)]]) rfl trivial Tryz.underlying23 Tryz.underlying4 c4 z4 rfl (by decide) (by decide) rfl ⟨(cells_one (one_eq rfl)), trivial⟩ rfl rfl rfl ?_
                        obtain ⟨g1035, H⟩ := Gets.grd H
                        refine Dv.appx (jj := 6) (ys := ([false] : List Bool)) (fun v1036 : OV => [blk b1010 30 [eq (.int .i64 ((Edu.K.at a0.fL x1003).fKind)), eq (.string ((Edu.K.at a0.fL x1003).fRoom)), eq (.string ((Edu.K.at a0.fL x1003).fUser)), eq (.string ((Edu.K.at a0.fL x1003).fEvent)), eq (.string ((Edu.K.at a0.fL x1003).fThread)), eq (.bool ((Edu.K.at a0.fL x1003).fPrivate)), eq (.bool ((Edu.K.at a0.fL x1003).fOn)), eq (.int .i64 ((Edu.K.at a0.fL x1003).fSpan)), eq (.int .i64 ((Edu.K.at a0.fL x1003).fState)), eq (.int .i64 ((Edu.K.at a0.fL x1003).fTick)), eq (.int .i64 ((Edu.K.at a0.fL x1003).fStamp))], blk b993 28 [eq v1034.1, eq v1007.1], blk b987 28 [eq (.slice none 0 0), eq (.slice none 0 0)], blk b986 30 [eq (.int .i64 a1.fKind), eq (.string a1.fRoom), eq (.string a1.fUser), eq (.string a1.fEvent), eq (.string a1.fThread), eq (.bool a1.fPrivate), eq (.bool a1.fOn), eq (.int .i64 a1.fSpan), eq (.int .i64 a1.fState), eq (.int .i64 a1.fTick), eq (.int .i64 a1.fStamp)], blk b985 28 [sl Edu.K a0.fL, sl boolK a0.fTold], own Edu.K v1034.1 (x1004 ++ ([a1] : List Edu)), own boolK v1036.1 (x1005 ++ ([false] : List Bool))] ++ F) rfl trivial rfl rfl rfl src_sl Tryz.underlying23 (.inr ⟨_, Tryz.underlying23⟩) inf4 rfl (by decide) g1035 rfl nofun (fun v1036 => ?_)
                        refine Dv.fab rfl trivial rfl Tryz.underlying28 rfl Tryz.underlying23 c23 (by decide) ?_
                        refine Dv.stx ([blk b1010 30 [eq (.int .i64 ((Edu.K.at a0.fL x1003).fKind)), eq (.string ((Edu.K.at a0.fL x1003).fRoom)), eq (.string ((Edu.K.at a0.fL x1003).fUser)), eq (.string ((Edu.K.at a0.fL x1003).fEvent)), eq (.string ((Edu.K.at a0.fL x1003).fThread)), eq (.bool ((Edu.K.at a0.fL x1003).fPrivate)), eq (.bool ((Edu.K.at a0.fL x1003).fOn)), eq (.int .i64 ((Edu.K.at a0.fL x1003).fSpan)), eq (.int .i64 ((Edu.K.at a0.fL x1003).fState)), eq (.int .i64 ((Edu.K.at a0.fL x1003).fTick)), eq (.int .i64 ((Edu.K.at a0.fL x1003).fStamp))], blk b993 28 [eq v1034.1, eq v1036.1], blk b987 28 [eq (.slice none 0 0), eq (.slice none 0 0)], blk b986 30 [eq (.int .i64 a1.fKind), eq (.string a1.fRoom), eq (.string a1.fUser), eq (.string a1.fEvent), eq (.string a1.fThread), eq (.bool a1.fPrivate), eq (.bool a1.fOn), eq (.int .i64 a1.fSpan), eq (.int .i64 a1.fState), eq (.int .i64 a1.fTick), eq (.int .i64 a1.fStamp)], blk b985 28 [sl Edu.K a0.fL, sl boolK a0.fTold], own Edu.K v1034.1 (x1004 ++ ([a1] : List Edu)), own boolK v1036.1 (x1005 ++ ([false] : List Bool))] ++ F) rfl trivial rfl rfl (cells_one one_ov) Tryz.underlying23 c23 rfl (j := 1) rfl (Nat.le_of_ble_eq_true rfl) rfl nofun ?_
                        refine .fin ?_
                        refine WP.reg [(0, false)] (by kernel_rfl) ?_
                        refine as0 rfl rfl ?_
                        refine .fin ?_
                        replace H := Gets.out H
                        exact Jn.mk ((true, sLt a1.fUser ((Edu.K.at a0.fL x1003).fUser), x1004 ++ ([a1] : List Edu), x1005 ++ ([false] : List Bool)), v1034, v1036) H (weak_cons rfl (weak_cons rfl (weak_cons rfl (weak_cons rfl (weak_cons rfl (weak_cons rfl (weak_cons rfl (weak_cons rfl (weak_cons rfl (weak_cons rfl (weak_cons rfl (weak_cons rfl (weak_cons rfl (weak_cons rfl (weak_cons rfl (weak_cons rfl weak_nil)))))))))))))))) (List.Perm.refl _)
                      · replace H := Gets.cf H c1032
                        refine WP.skip ?_
                        replace H := Gets.out H
                        exact Jn.mk ((x1002, sLt a1.fUser ((Edu.K.at a0.fL x1003).fUser), x1004, x1005), v1006, v1007) H (weak_cons rfl (weak_cons rfl (weak_cons rfl (weak_cons rfl (weak_cons rfl (weak_cons rfl (weak_cons rfl (weak_cons rfl (weak_cons rfl (weak_cons rfl (weak_cons rfl (weak_cons rfl (weak_cons rfl (weak_cons rfl (weak_cons rfl (weak_cons rfl weak_nil)))))))))))))))) (List.Perm.refl _)
                  · replace H := Gets.ct H c1025
                    refine sk rfl rfl rfl rfl rfl ?_
                    refine sk rfl rfl rfl rfl rfl ?_
                    refine sk rfl rfl rfl rfl rfl ?_
                    refine sk rfl rfl rfl rfl rfl ?_
                    refine sk rfl rfl rfl rfl rfl ?_
                    refine sk rfl rfl rfl rfl rfl ?_
                    refine Dv.skip rfl ⟨_, _, rfl, rfl, .inr rfl⟩ ?_
                    refine Dv.skip rfl ⟨_, _, rfl, rfl, .inr rfl⟩ ?_
                    refine Dv.skip rfl ⟨_, _, rfl, rfl, .inr rfl⟩ ?_
                    refine Dv.skip rfl ⟨_, _, rfl, rfl, .inr rfl⟩ ?_
                    refine Dv.skip rfl ⟨_, _, rfl, rfl, .inr rfl⟩ ?_
                    refine sk rfl rfl rfl rfl rfl ?_
                    refine Dv.pickT rfl ⟨_, _, rfl, rfl, rfl⟩ rfl rfl ?_
                    refine Dv.pickT rfl trivial rfl rfl ?_
                    refine .fin ?_
                    refine WP.cond rfl (fun _ => ?_) nofun
                    refine WP.seq ?_
                    refine WP.reg [(0, false), (1, false), (2, false), (3, false), (4, true), (5, false), (6, true)] (by kernel_rfl) ?_
                    refine Dv.fab rfl trivial rfl Tryz.underlying28 rfl Tryz.underlying22 c22 (by decide) ?_
                    refine Dv.ldb rfl trivial rfl Tryz.underlying22 rfl (mem_at 1 rfl) rfl ?_
                    refine Dv.ldbs rfl trivial rfl Tryz.underlying30 rfl c30 (mem_at 3 rfl) (Nat.le_of_ble_eq_true rfl) ?_
                    refine Dv.lit Edu.K ([a1] : List Edu) (css := [Edu.enc a1]) rfl trivial Tryz.underlying22 Tryz.underlying30 c30 z30 rfl (by decide) (by decide) rfl ⟨(cells_agg (Edu.K.one _)), trivial⟩ rfl rfl rfl ?_
                    obtain ⟨g1027, H⟩ := Gets.grd H
                    refine Dv.appx (jj := 5) (ys := ([a1] : List Edu)) (fun v1028 : OV => [blk b1010 30 [eq (.int .i64 ((Edu.K.at a0.fL x1003).fKind)), eq (.string ((Edu.K.at a0.fL x1003).fRoom)), eq (.string ((Edu.K.at a0.fL x1003).fUser)), eq (.string ((Edu.K.at a0.fL x1003).fEvent)), eq (.string ((Edu.K.at a0.fL x1003).fThread)), eq (.bool ((Edu.K.at a0.fL x1003).fPrivate)), eq (.bool ((Edu.K.at a0.fL x1003).fOn)), eq (.int .i64 ((Edu.K.at a0.fL x1003).fSpan)), eq (.int .i64 ((Edu.K.at a0.fL x1003).fState)), eq (.int .i64 ((Edu.K.at a0.fL x1003).fTick)), eq (.int .i64 ((Edu.K.at a0.fL x1003).fStamp))], blk b993 28 [eq v1006.1, eq v1007.1], blk b987 28 [eq (.slice none 0 0), eq (.slice none 0 0)], blk b986 30 [eq (.int .i64 a1.fKind), eq (.string a1.fRoom), eq (.string a1.fUser), eq (.string a1.fEvent), eq (.string a1.fThread), eq (.bool a1.fPrivate), eq (.bool a1.fOn), eq (.int .i64 a1.fSpan), eq (.int .i64 a1.fState), eq (.int .i64 a1.fTick), eq (.int .i64 a1.fStamp)], blk b985 28 [sl Edu.K a0.fL, sl boolK a0.fTold], own Edu.K v1028.1 (x1004 ++ ([a1] : List Edu)), own boolK v1007.1 x1005] ++ F) rfl trivial rfl rfl rfl src_sl Tryz.underlying22 (.inr ⟨_, Tryz.underlying22⟩) inf30 rfl (by decide) g1027 rfl nofun (fun v1028 => ?_)
                    refine Dv.fab rfl trivial rfl Tryz.underlying28 rfl Tryz.underlying22 c22 (by decide) ?_
                    refine Dv.stx ([blk b1010 30 [eq (.int .i64 ((Edu.K.at a0.fL x1003).fKind)), eq (.string ((Edu.K.at a0.fL x1003).fRoom)), eq (.string ((Edu.K.at a0.fL x1003).fUser)), eq (.string ((Edu.K.at a0.fL x1003).fEvent)), eq (.string ((Edu.K.at a0.fL x1003).fThread)), eq (.bool ((Edu.K.at a0.fL x1003).fPrivate)), eq (.bool ((Edu.K.at a0.fL x1003).fOn)), eq (.int .i64 ((Edu.K.at a0.fL x1003).fSpan)), eq (.int .i64 ((Edu.K.at a0.fL x1003).fState)), eq (.int .i64 ((Edu.K.at a0.fL x1003).fTick)), eq (.int .i64 ((Edu.K.at a0.fL x1003).fStamp))], blk b993 28 [eq v1028.1, eq v1007.1], blk b987 28 [eq (.slice none 0 0), eq (.slice none 0 0)], blk b986 30 [eq (.int .i64 a1.fKind), eq (.string a1.fRoom), eq (.string a1.fUser), eq (.string a1.fEvent), eq (.string a1.fThread), eq (.bool a1.fPrivate), eq (.bool a1.fOn), eq (.int .i64 a1.fSpan), eq (.int .i64 a1.fState), eq (.int .i64 a1.fTick), eq (.int .i64 a1.fStamp)], blk b985 28 [sl Edu.K a0.fL, sl boolK a0.fTold], own Edu.K v1028.1 (x1004 ++ ([a1] : List Edu)), own boolK v1007.1 x1005] ++ F) rfl trivial rfl rfl (cells_one one_ov) Tryz.underlying22 c22 rfl (j := 1) rfl (Nat.le_of_ble_eq_true rfl) rfl nofun ?_
                    refine .fin ?_
                    refine WP.seq ?_
                    refine WP.reg [(0, false), (1, false), (2, false), (3, true), (4, false), (5, true)] (by kernel_rfl) ?_
                    refine Dv.fab rfl trivial rfl Tryz.underlying28 rfl Tryz.underlying23 c23 (by decide) ?_
                    refine Dv.ldb rfl trivial rfl Tryz.underlying23 rfl (mem_at 1 rfl) rfl ?_
                    refine Dv.lit boolK ([false] : List Bool) (css := [[eq (.bool false)]]) rfl trivial Tryz.underlying23 Tryz.underlying4 c4 z4 rfl (by decide) (by decide) rfl ⟨(cells_one (one_eq rfl)), trivial⟩ rfl rfl rfl ?_
                    obtain ⟨g1029, H⟩ := Gets.grd H
                    refine Dv.appx (jj := 6) (ys := ([false] : List Bool)) (fun v1030 : OV => [blk b1010 30 [eq (.int .i64 ((Edu.K.at a0.fL x1003).fKind)), eq (.string ((Edu.K.at a0.fL x1003).fRoom)), eq (.string ((Edu.K.at a0.fL x1003).fUser)), eq (.string ((Edu.K.at a0.fL x1003).fEvent)), eq (.string ((Edu.K.at a0.fL x1003).fThread)), eq (.bool ((Edu.K.at a0.fL x1003).fPrivate)), eq (.bool ((Edu.K.at a0.fL x1003).fOn)), eq (.int .i64 ((Edu.K.at a0.fL x1003).fSpan)), eq (.int .i64 ((Edu.K.at a0.fL x1003).fState)), eq (.int .i64 ((Edu.K.at a0.fL x1003).fTick)), eq (.int .i64 ((Edu.K.at a0.fL x1003).fStamp))], blk b993 28 [eq v1028.1, eq v1007.1], blk b987 28 [eq (.slice none 0 0), eq (.slice none 0 0)], blk b986 30 [eq (.int .i64 a1.fKind), eq (.string a1.fRoom), eq (.string a1.fUser), eq (.string a1.fEvent), eq (.string a1.fThread), eq (.bool a1.fPrivate), eq (.bool a1.fOn), eq (.int .i64 a1.fSpan), eq (.int .i64 a1.fState), eq (.int .i64 a1.fTick), eq (.int .i64 a1.fStamp)], blk b985 28 [sl Edu.K a0.fL, sl boolK a0.fTold], own Edu.K v1028.1 (x1004 ++ ([a1] : List Edu)), own boolK v1030.1 (x1005 ++ ([false] : List Bool))] ++ F) rfl trivial rfl rfl rfl src_sl Tryz.underlying23 (.inr ⟨_, Tryz.underlying23⟩) inf4 rfl (by decide) g1029 rfl nofun (fun v1030 => ?_)
                    refine Dv.fab rfl trivial rfl Tryz.underlying28 rfl Tryz.underlying23 c23 (by decide) ?_
                    refine Dv.stx ([blk b1010 30 [eq (.int .i64 ((Edu.K.at a0.fL x1003).fKind)), eq (.string ((Edu.K.at a0.fL x1003).fRoom)), eq (.string ((Edu.K.at a0.fL x1003).fUser)), eq (.string ((Edu.K.at a0.fL x1003).fEvent)), eq (.string ((Edu.K.at a0.fL x1003).fThread)), eq (.bool ((Edu.K.at a0.fL x1003).fPrivate)), eq (.bool ((Edu.K.at a0.fL x1003).fOn)), eq (.int .i64 ((Edu.K.at a0.fL x1003).fSpan)), eq (.int .i64 ((Edu.K.at a0.fL x1003).fState)), eq (.int .i64 ((Edu.K.at a0.fL x1003).fTick)), eq (.int .i64 ((Edu.K.at a0.fL x1003).fStamp))], blk b993 28 [eq v1028.1, eq v1030.1], blk b987 28 [eq (.slice none 0 0), eq (.slice none 0 0)], blk b986 30 [eq (.int .i64 a1.fKind), eq (.string a1.fRoom), eq (.string a1.fUser), eq (.string a1.fEvent), eq (.string a1.fThread), eq (.bool a1.fPrivate), eq (.bool a1.fOn), eq (.int .i64 a1.fSpan), eq (.int .i64 a1.fState), eq (.int .i64 a1.fTick), eq (.int .i64 a1.fStamp)], blk b985 28 [sl Edu.K a0.fL, sl boolK a0.fTold], own Edu.K v1028.1 (x1004 ++ ([a1] : List Edu)), own boolK v1030.1 (x1005 ++ ([false] : List Bool))] ++ F) rfl trivial rfl rfl (cells_one one_ov) Tryz.underlying23 c23 rfl (j := 1) rfl (Nat.le_of_ble_eq_true rfl) rfl nofun ?_
                    refine .fin ?_
                    refine WP.reg [(0, false)] (by kernel_rfl) ?_
                    refine as0 rfl rfl ?_
                    refine .fin ?_
                    replace H := Gets.out H
                    exact Jn.mk ((true, true, x1004 ++ ([a1] : List Edu), x1005 ++ ([false] : List Bool)), v1028, v1030) H (weak_cons rfl (weak_cons rfl (weak_cons rfl (weak_cons rfl (weak_cons rfl (weak_cons rfl (weak_cons rfl (weak_cons rfl (weak_cons rfl (weak_cons rfl (weak_cons rfl (weak_cons rfl (weak_cons rfl (weak_cons rfl (weak_cons rfl (weak_cons rfl weak_nil)))))))))))))))) (List.Perm.refl _)
        · replace H := Gets.cf H c1008
          refine WP.exit ?_
          replace H := Gets.out H
          exact Jn.mk ((x1002, x1003, decide (x1003 < (a0.fL.length : Int)), x1004, x1005), v1006, v1007) H (weak_cons rfl (weak_cons rfl (weak_cons rfl (weak_cons rfl (weak_cons rfl (weak_cons rfl (weak_cons rfl (weak_cons rfl (weak_cons rfl (weak_cons rfl (weak_cons rfl (weak_cons rfl (weak_cons rfl weak_nil))))))))))))) (List.Perm.refl _)
  · replace H := Gets.ct H c990
    refine sk rfl rfl rfl rfl rfl ?_
    refine sk rfl rfl rfl rfl rfl ?_
    refine Dv.pickT rfl trivial rfl rfl ?_
    refine .fin ?_
    refine WP.cond rfl (fun _ => ?_) nofun
    refine WP.seq ?_
    refine WP.reg [(0, false), (1, true), (2, false), (3, false)] (by kernel_rfl) ?_
    refine Dv.ldbs rfl trivial rfl Tryz.underlying28 rfl c28 (mem_at 2 rfl) (Nat.le_of_ble_eq_true rfl) ?_
    refine Dv.stx ([blk b987 28 [sl Edu.K a0.fL, sl boolK a0.fTold], blk b986 30 [eq (.int .i64 a1.fKind), eq (.string a1.fRoom), eq (.string a1.fUser), eq (.string a1.fEvent), eq (.string a1.fThread), eq (.bool a1.fPrivate), eq (.bool a1.fOn), eq (.int .i64 a1.fSpan), eq (.int .i64 a1.fState), eq (.int .i64 a1.fTick), eq (.int .i64 a1.fStamp)], blk b985 28 [sl Edu.K a0.fL, sl boolK a0.fTold]] ++ F) rfl trivial rfl rfl (cells_agg (TRef.K.one _)) Tryz.underlying28 c28 rfl (j := 0) rfl (Nat.le_of_ble_eq_true rfl) rfl nofun ?_
    refine as0 rfl rfl ?_
    refine as0 rfl rfl ?_
    refine .fin ?_
    obtain rfl := Gets.out H
    exact WP.retL (fun _ _ h => h) rfl () trivial (.cons (res_cells rfl Tryz.underlying28 rfl c28 (mem_at 0 rfl) rfl) (.cons (res_tmp rfl) (.cons (res_tmp rfl) .nil))) rfl (st_seln 3 [0, 1, 2] 3 rfl rfl rfl)
theorem concourseref09_Put.c {k : Nat} {a0 : List ByteArray} {a1 : ByteArray} {r : (List ByteArray)} (h : concourseref09_Put.f k a0 a1 = some r) : Tr Tryz.prog 33 [sl strK a0, eq (.string a1)] [] (γ := OV) (fun _ => True) (fun g => eq g.1) (fun g => [own strK g.1 r]) := by
  unfold concourseref09_Put.f at h
  refine Tr.body Tryz.func33 (c := _) rfl Tryz.ntmps33 (Nat.le_of_ble_eq_true rfl) fun R0 F => ?_
  replace h := Gets.of h
  have H := h
  clear h
  refine WP.seq ?_
  refine WP.reg [(0, false)] (by kernel_rfl) ?_
  refine as0 rfl rfl ?_
  refine .fin ?_
  refine WP.seq ?_
  refine WP.reg [(0, false)] (by kernel_rfl) ?_
  refine as0 rfl rfl ?_
  refine .fin ?_
  refine WP.seq ?_
  refine WP.reg [(0, false)] (by kernel_rfl) ?_
  refine as0 rfl rfl ?_
  refine .fin ?_
  refine WP.seqn H (fun q1094 : (Bool × Int × Bool × (List ByteArray)) × OV => q1094.1) (fun q1094 : (Bool × Int × Bool × (List ByteArray)) × OV => [(0, sl strK a0), (1, eq (.string a1)), (4, eq (.slice none 0 0)), (5, eq q1094.2.1), (6, eq (.bool q1094.1.1)), (7, eq (.int .i64 q1094.1.2.1)), (11, eq (.bool q1094.1.2.2.1))]) (fun q1094 : (Bool × Int × Bool × (List ByteArray)) × OV => [own strK q1094.2.1 q1094.1.2.2.2] ++ F) (fun q1094 H => ?_) (fun H => ?_)
  · obtain ⟨p1068, v1069⟩ := q1094
    refine WP.seq ?_
    refine WP.seq ?_
    refine WP.reg [(0, false), (1, false)] (by kernel_rfl) ?_
    refine mv0 rfl rfl ?_
    refine Dv.un rfl trivial rfl (fun _ => run_not _) ?_
    refine .fin ?_
    refine WP.cond rfl (fun c1070 => ?_) (fun c1070 => ?_)
    · replace H := Gets.ct H c1070
      refine WP.reg [(0, false), (1, false), (2, false), (3, true), (4, false)] (by kernel_rfl) ?_
      refine mv0 rfl rfl ?_
      refine mv0 rfl rfl ?_
      refine Dv.lit strK ([a1] : List ByteArray) (css := [[eq (.string a1)]]) rfl trivial Tryz.underlying37 Tryz.underlying9 c9 z9 rfl (by decide) (by decide) rfl ⟨(cells_one (one_eq rfl)), trivial⟩ rfl rfl rfl ?_
      obtain ⟨g1071, H⟩ := Gets.grd H
      refine Dv.appx (jj := 0) (ys := ([a1] : List ByteArray)) (fun v1072 : OV => [own strK v1072.1 (p1068.2.2.2 ++ ([a1] : List ByteArray))] ++ F) rfl trivial rfl rfl rfl src_sl Tryz.underlying37 (.inr ⟨_, Tryz.underlying37⟩) inf9 rfl (by decide) g1071 rfl nofun (fun v1072 => ?_)
      refine as0 rfl rfl ?_
      refine .fin ?_
      refine WP.seq ?_
      refine WP.reg [(0, false), (1, false)] (by kernel_rfl) ?_
      refine mv0 rfl rfl ?_
      refine as0 rfl rfl ?_
      refine .fin ?_
      obtain rfl := Gets.out H
      exact WP.retL (fun _ _ h => h) rfl v1072 trivial (.cons (res_tmp rfl) .nil) rfl (st_seln 1 [0] 0 rfl rfl rfl)
    · replace H := Gets.cf H c1070
      refine WP.skip ?_
      refine WP.seq ?_
      refine WP.reg [(0, false), (1, false)] (by kernel_rfl) ?_
      refine mv0 rfl rfl ?_
      refine as0 rfl rfl ?_
      refine .fin ?_
      obtain rfl := Gets.out H
      exact WP.retL (fun _ _ h => h) rfl v1069 trivial (.cons (res_tmp rfl) .nil) rfl (st_seln 1 [0] 0 rfl rfl rfl)
  · refine WP.seq ?_
    refine WP.reg [(0, false)] (by kernel_rfl) ?_
    refine as0 rfl rfl ?_
    refine .fin ?_
    refine WP.block ?_
    refine WP.gh (gh_of (st_nil strK none)) (fun _ _ => ?_)
    refine WP.gh (l' := fun _ => [own strK nilV.1 ([] : List ByteArray)] ++ F) (gh_of (st_selgn 1 [0] 0 rfl rfl rfl)) (fun _ _ => ?_)
    refine WP.loopg (fun j_ (p1093 : Bool × Int × (List ByteArray) × OV) => concourseref09_Put.l0 k a0 a1 j_ p1093.1 p1093.2.1 p1093.2.2.1) (false, 0, ([] : List ByteArray), nilV) H (fun p1093 => [(0, sl strK a0), (1, eq (.string a1)), (4, eq (.slice none 0 0)), (5, eq p1093.2.2.2.1), (6, eq (.bool p1093.1)), (7, eq (.int .i64 p1093.2.1))]) (fun p1093 => [own strK p1093.2.2.2.1 p1093.2.2.1] ++ F) (weak_cons rfl (weak_cons rfl (weak_cons rfl (weak_cons rfl (weak_cons rfl (weak_cons rfl weak_nil)))))) (List.Perm.refl _) ?_
    rintro j_ ⟨x1073, x1074, x1075, v1076⟩ H
    rcases j_ with _ | j1092
    · exact (Gets.no H).elim
    replace H : Gets (concourseref09_Put.l0 k a0 a1 (j1092 + 1) x1073 x1074 x1075) _ := H
    rw [concourseref09_Put.l0] at H
    refine WP.seq ?_
    refine WP.seq ?_
    refine WP.reg [(0, false), (1, false), (2, false), (3, false)] (by kernel_rfl) ?_
    refine mv0 rfl rfl ?_
    refine mv0 rfl rfl ?_
    refine Dv.lenl rfl trivial rfl Tryz.underlying37 ?_
    refine Dv.bin rfl trivial rfl rfl (fun _ => run_lt) ?_
    refine .fin ?_
    refine WP.cond rfl (fun c1077 => ?_) (fun c1077 => ?_)
    · replace H := Gets.ct H c1077
      refine WP.skip ?_
      refine WP.seq ?_
      refine WP.block ?_
      refine WP.seqn H (fun q1091 : (Bool × Bool × (List ByteArray)) × OV => q1091.1) (fun q1091 : (Bool × Bool × (List ByteArray)) × OV => [(0, sl strK a0), (1, eq (.string a1)), (4, eq (.slice none 0 0)), (5, eq q1091.2.1), (6, eq (.bool q1091.1.1)), (7, eq (.int .i64 x1074)), (11, eq (.bool (decide (x1074 < (a0.length : Int))))), (23, eq (.bool q1091.1.2.1))]) (fun q1091 : (Bool × Bool × (List ByteArray)) × OV => [own strK q1091.2.1 q1091.1.2.2] ++ F) (fun q1091 H => ?_) (fun H => ?_)
      · obtain ⟨p1078, v1079⟩ := q1091
        refine WP.seq ?_
        refine WP.reg [(0, false), (1, false), (2, false), (3, false), (4, false), (5, false)] (by kernel_rfl) ?_
        refine mv0 rfl rfl ?_
        refine mv0 rfl rfl ?_
        obtain ⟨g1080, H⟩ := Gets.grd H
        refine Dv.ixr rfl trivial rfl rfl Tryz.underlying37 Tryz.underlying9 c9 g1080.1 g1080.2 ?_
        refine Dv.ldr rfl trivial rfl Tryz.underlying9 rfl rfl ?_
        refine mv0 rfl rfl ?_
        refine Dv.bin rfl trivial rfl rfl (fun _ => run_sne) ?_
        refine .fin ?_
        refine WP.cond rfl (fun c1081 => ?_) (fun c1081 => ?_)
        · replace H := Gets.ct H c1081
          refine WP.reg [(0, false), (1, false), (2, false), (3, false), (4, false), (5, false), (6, true), (7, false)] (by kernel_rfl) ?_
          refine mv0 rfl rfl ?_
          refine mv0 rfl rfl ?_
          refine mv0 rfl rfl ?_
          obtain ⟨g1082, H⟩ := Gets.grd H
          refine Dv.ixr rfl trivial rfl rfl Tryz.underlying37 Tryz.underlying9 c9 g1082.1 g1082.2 ?_
          refine Dv.ldr rfl trivial rfl Tryz.underlying9 rfl rfl ?_
          refine Dv.lit strK ([strK.at a0 x1074] : List ByteArray) (css := [[eq (.string (strK.at a0 x1074))]]) rfl trivial Tryz.underlying37 Tryz.underlying9 c9 z9 rfl (by decide) (by decide) rfl ⟨(cells_one (one_eq rfl)), trivial⟩ rfl rfl rfl ?_
          obtain ⟨g1083, H⟩ := Gets.grd H
          refine Dv.appx (jj := 0) (ys := ([strK.at a0 x1074] : List ByteArray)) (fun v1084 : OV => [own strK v1084.1 (p1078.2.2 ++ ([strK.at a0 x1074] : List ByteArray))] ++ F) rfl trivial rfl rfl rfl src_sl Tryz.underlying37 (.inr ⟨_, Tryz.underlying37⟩) inf9 rfl (by decide) g1083 rfl nofun (fun v1084 => ?_)
          refine as0 rfl rfl ?_
          refine .fin ?_
          refine WP.reg [(0, false), (1, false), (2, false)] (by kernel_rfl) ?_
          refine mv0 rfl rfl ?_
          refine Dv.bin rfl trivial rfl rfl (fun _ => run_add) ?_
          refine as0 rfl rfl ?_
          refine .fin ?_
          exact Back.mk j1092 (p1078.1, w64 (x1074 + 1), p1078.2.2 ++ ([strK.at a0 x1074] : List ByteArray), v1084) (Nat.lt_succ_self _) H (weak_cons rfl (weak_cons rfl (weak_cons rfl (weak_cons rfl (weak_cons rfl (weak_cons rfl weak_nil)))))) (List.Perm.refl _)
        · replace H := Gets.cf H c1081
          refine WP.skip ?_
          refine WP.reg [(0, false), (1, false), (2, false)] (by kernel_rfl) ?_
          refine mv0 rfl rfl ?_
          refine Dv.bin rfl trivial rfl rfl (fun _ => run_add) ?_
          refine as0 rfl rfl ?_
          refine .fin ?_
          exact Back.mk j1092 (p1078.1, w64 (x1074 + 1), p1078.2.2, v1079) (Nat.lt_succ_self _) H (weak_cons rfl (weak_cons rfl (weak_cons rfl (weak_cons rfl (weak_cons rfl (weak_cons rfl weak_nil)))))) (List.Perm.refl _)
      · refine WP.seq ?_
        refine WP.reg [(0, false), (1, false), (2, false), (3, false), (4, false), (5, false), (6, false), (7, false), (8, false), (9, false)] (by kernel_rfl) ?_
        refine mv0 rfl rfl ?_
        refine Dv.un rfl trivial rfl (fun _ => run_not _) ?_
        refine mv0 rfl rfl ?_
        cases c1085 : !x1073
        · replace H := Gets.cf H c1085
          refine sk rfl rfl rfl rfl rfl ?_
          refine sk rfl rfl rfl rfl rfl ?_
          refine sk rfl rfl rfl rfl rfl ?_
          refine sk rfl rfl rfl rfl rfl ?_
          refine sk rfl rfl rfl rfl rfl ?_
          refine sk rfl rfl rfl rfl rfl ?_
          refine Dv.pickF rfl trivial rfl rfl ?_
          refine .fin ?_
          refine WP.cond rfl nofun (fun _ => ?_)
          refine WP.skip ?_
          replace H := Gets.out H
          exact Jn.mk ((x1073, false, x1075), v1076) H (weak_cons rfl (weak_cons rfl (weak_cons rfl (weak_cons rfl (weak_cons rfl (weak_cons rfl (weak_cons rfl (weak_cons rfl weak_nil)))))))) (List.Perm.refl _)
        · replace H := Gets.ct H c1085
          refine Dv.mv rfl ⟨_, _, rfl, rfl, rfl⟩ rfl ?_
          refine Dv.mv rfl ⟨_, _, rfl, rfl, rfl⟩ rfl ?_
          refine Dv.mv rfl ⟨_, _, rfl, rfl, rfl⟩ rfl ?_
          obtain ⟨g1086, H⟩ := Gets.grd H
          refine Dv.ixr rfl ⟨_, _, rfl, rfl, rfl⟩ rfl rfl Tryz.underlying37 Tryz.underlying9 c9 g1086.1 g1086.2 ?_
          refine Dv.ldr rfl ⟨_, _, rfl, rfl, rfl⟩ rfl Tryz.underlying9 rfl rfl ?_
          refine Dv.bin rfl ⟨_, _, rfl, rfl, rfl⟩ rfl rfl (fun _ => run_sle) ?_
          refine Dv.pickT rfl trivial rfl rfl ?_
          refine .fin ?_
          refine WP.cond rfl (fun c1087 => ?_) (fun c1087 => ?_)
          · replace H := Gets.ct H c1087
            refine WP.seq ?_
            refine WP.reg [(0, false), (1, false), (2, false), (3, true), (4, false)] (by kernel_rfl) ?_
            refine mv0 rfl rfl ?_
            refine mv0 rfl rfl ?_
            refine Dv.lit strK ([a1] : List ByteArray) (css := [[eq (.string a1)]]) rfl trivial Tryz.underlying37 Tryz.underlying9 c9 z9 rfl (by decide) (by decide) rfl ⟨(cells_one (one_eq rfl)), trivial⟩ rfl rfl rfl ?_
            obtain ⟨g1088, H⟩ := Gets.grd H
            refine Dv.appx (jj := 0) (ys := ([a1] : List ByteArray)) (fun v1089 : OV => [own strK v1089.1 (x1075 ++ ([a1] : List ByteArray))] ++ F) rfl trivial rfl rfl rfl src_sl Tryz.underlying37 (.inr ⟨_, Tryz.underlying37⟩) inf9 rfl (by decide) g1088 rfl nofun (fun v1089 => ?_)
            refine as0 rfl rfl ?_
            refine .fin ?_
            refine WP.reg [(0, false)] (by kernel_rfl) ?_
            refine as0 rfl rfl ?_
            refine .fin ?_
            replace H := Gets.out H
            exact Jn.mk ((true, !sLt (strK.at a0 x1074) a1, x1075 ++ ([a1] : List ByteArray)), v1089) H (weak_cons rfl (weak_cons rfl (weak_cons rfl (weak_cons rfl (weak_cons rfl (weak_cons rfl (weak_cons rfl (weak_cons rfl weak_nil)))))))) (List.Perm.refl _)
          · replace H := Gets.cf H c1087
            refine WP.skip ?_
            replace H := Gets.out H
            exact Jn.mk ((x1073, !sLt (strK.at a0 x1074) a1, x1075), v1076) H (weak_cons rfl (weak_cons rfl (weak_cons rfl (weak_cons rfl (weak_cons rfl (weak_cons rfl (weak_cons rfl (weak_cons rfl weak_nil)))))))) (List.Perm.refl _)
    · replace H := Gets.cf H c1077
      refine WP.exit ?_
      replace H := Gets.out H
      exact Jn.mk ((x1073, x1074, decide (x1074 < (a0.length : Int)), x1075), v1076) H (weak_cons rfl (weak_cons rfl (weak_cons rfl (weak_cons rfl (weak_cons rfl (weak_cons rfl (weak_cons rfl weak_nil))))))) (List.Perm.refl _)
theorem concourseref14_Ended.c {k : Nat} {a0 : TRef} {a1 : Int} {r : TRef × (List ByteArray)} (h : concourseref14_Ended.f k a0 a1 = some r) : Tr Tryz.prog 10 [agg (TRef.enc a0), eq (.int .i64 a1)] [] (γ := OV) (fun _ => True) (fun g => tup [agg (TRef.enc r.1), eq g.1]) (fun g => [own strK g.1 r.2]) := by
  unfold concourseref14_Ended.f at h
  refine Tr.body Tryz.func10 (c := _) rfl Tryz.ntmps10 (Nat.le_of_ble_eq_true rfl) fun R0 F => ?_
  replace h := Gets.of h
  have H := h
  clear h
  refine WP.seq ?_
  refine WP.reg [(0, true), (1, true), (2, false)] (by kernel_rfl) ?_
  refine Dv.box rfl trivial rfl (cells_agg (TRef.K.one _)) nofun (fun b1095 => ?_)
  refine Dv.alloc (z := .agg #[.slice none 0 0, .slice none 0 0]) (qs := [eq (.slice none 0 0), eq (.slice none 0 0)]) rfl trivial z28 rfl nofun (fun b1096 => ?_)
  refine as0 rfl rfl ?_
  refine .fin ?_
  refine WP.seq ?_
  refine WP.reg [(0, false)] (by kernel_rfl) ?_
  refine as0 rfl rfl ?_
  refine .fin ?_
  refine WP.seq ?_
  refine WP.reg [(0, false), (1, false), (2, false), (3, true), (4, false)] (by kernel_rfl) ?_
  refine Dv.fab rfl trivial rfl Tryz.underlying28 rfl Tryz.underlying22 c22 (by decide) ?_
  refine Dv.ldb rfl trivial rfl Tryz.underlying22 rfl (mem_at 1 rfl) rfl ?_
  refine Dv.lenl rfl trivial rfl Tryz.underlying22 ?_
  obtain ⟨g1097, H⟩ := Gets.grd H
  obtain ⟨ti1098, ti1098a, ti1098b, ti1098c, ti1098d⟩ := inf4
  refine Dv.mks (Kd := boolK) (false : Bool) rfl trivial rfl rfl Tryz.underlying23 ti1098a ti1098b ti1098c ti1098d rfl (by decide) rfl g1097 nofun (fun v1099 => ?_)
  refine as0 rfl rfl ?_
  refine .fin ?_
  refine WP.seqn H (fun q1127 : (Int × Bool × (List Bool) × (List ByteArray)) × OV => q1127.1) (fun q1127 : (Int × Bool × (List Bool) × (List ByteArray)) × OV => [(0, agg (TRef.enc a0)), (1, eq (.int .i64 a1)), (2, eq (.pointer (some ⟨b1095, 0, none⟩))), (4, eq (.pointer (some ⟨b1096, 0, none⟩))), (5, eq (.slice none 0 0)), (6, eq q1127.2.1), (7, eq v1099.1), (8, eq (.int .i64 q1127.1.1)), (17, eq (.bool q1127.1.2.1))]) (fun q1127 : (Int × Bool × (List Bool) × (List ByteArray)) × OV => [blk b1096 28 [eq (.slice none 0 0), eq (.slice none 0 0)], blk b1095 28 [sl Edu.K a0.fL, sl boolK a0.fTold], own boolK v1099.1 q1127.1.2.2.1, own strK q1127.2.1 q1127.1.2.2.2] ++ F) (fun q1127 H => ?_) (fun H => ?_)
  · obtain ⟨p1100, v1101⟩ := q1127
    refine WP.seq ?_
    refine WP.reg [(0, false), (1, false), (2, false), (3, false), (4, false), (5, true), (6, false)] (by kernel_rfl) ?_
    refine Dv.fab rfl trivial rfl Tryz.underlying28 rfl Tryz.underlying22 c22 (by decide) ?_
    refine Dv.ldb rfl trivial rfl Tryz.underlying22 rfl (mem_at 1 rfl) rfl ?_
    refine mv0 rfl rfl ?_
    refine Dv.bld (css := [[sl Edu.K a0.fL], [eq v1099.1]]) rfl trivial Tryz.underlying28 pl28 z28 rfl ⟨(cells_one one_sl), ⟨(cells_one one_ov), trivial⟩⟩ rfl rfl ?_
    refine mv0 rfl rfl ?_
    refine Dv.stx ([blk b1096 28 [sl Edu.K a0.fL, eq v1099.1], blk b1095 28 [sl Edu.K a0.fL, sl boolK a0.fTold], own boolK v1099.1 p1100.2.2.1, own strK v1101.1 p1100.2.2.2] ++ F) rfl trivial rfl rfl (cells_agg (ones_cons one_sl (ones_cons one_ov ones_nil))) Tryz.underlying28 c28 rfl (j := 0) rfl (Nat.le_of_ble_eq_true rfl) rfl nofun ?_
    refine as0 rfl rfl ?_
    refine .fin ?_
    refine WP.gh (gh_frz (E' := [(4, eq (.pointer (some ⟨b1096, 0, none⟩))), (5, eq v1101.1)]) (l' := [blk b1096 28 [sl Edu.K a0.fL, sl boolK p1100.2.2.1], blk b1095 28 [sl Edu.K a0.fL, sl boolK a0.fTold], own strK v1101.1 p1100.2.2.2] ++ F) 2 rfl (cve_cons rfl cv_id (cve_cons rfl cv_id cve_nil)) (all2_app (.cons (cva_blk (.cons cv_id (.cons cv_eq .nil))) (.cons cva_id (.cons cva_id .nil))) fun _ => cva_id)) (fun _ _ => ?_)
    obtain rfl := Gets.out H
    exact WP.retL (fun _ _ h => h) rfl v1101 trivial (.cons (res_cells rfl Tryz.underlying28 rfl c28 (mem_at 0 rfl) rfl) (.cons (res_tmp rfl) .nil)) rfl (st_seln 3 [0, 1, 2] 2 rfl rfl rfl)
  · refine WP.seq ?_
    refine WP.reg [(0, false)] (by kernel_rfl) ?_
    refine as0 rfl rfl ?_
    refine .fin ?_
    refine WP.block ?_
    refine WP.gh (gh_of (st_nil strK none)) (fun _ _ => ?_)
    refine WP.gh (l' := fun _ => [blk b1096 28 [eq (.slice none 0 0), eq (.slice none 0 0)], blk b1095 28 [sl Edu.K a0.fL, sl boolK a0.fTold], own boolK v1099.1 (List.replicate (a0.fL.length : Int).toNat (false : Bool)), own strK nilV.1 ([] : List ByteArray)] ++ F) (gh_of (st_selgn 4 [2, 3, 1, 0] 0 rfl rfl rfl)) (fun _ _ => ?_)
    refine WP.loopg (fun j_ (p1126 : Int × (List Bool) × (List ByteArray) × OV) => concourseref14_Ended.l0 k a0 a1 j_ p1126.1 p1126.2.1 p1126.2.2.1) (0, List.replicate (a0.fL.length : Int).toNat (false : Bool), ([] : List ByteArray), nilV) H (fun p1126 => [(0, agg (TRef.enc a0)), (1, eq (.int .i64 a1)), (2, eq (.pointer (some ⟨b1095, 0, none⟩))), (4, eq (.pointer (some ⟨b1096, 0, none⟩))), (5, eq (.slice none 0 0)), (6, eq p1126.2.2.2.1), (7, eq v1099.1), (8, eq (.int .i64 p1126.1))]) (fun p1126 => [blk b1096 28 [eq (.slice none 0 0), eq (.slice none 0 0)], blk b1095 28 [sl Edu.K a0.fL, sl boolK a0.fTold], own boolK v1099.1 p1126.2.1, own strK p1126.2.2.2.1 p1126.2.2.1] ++ F) (weak_cons rfl (weak_cons rfl (weak_cons rfl (weak_cons rfl (weak_cons rfl (weak_cons rfl (weak_cons rfl (weak_cons rfl weak_nil)))))))) (List.Perm.refl _) ?_
    rintro j_ ⟨x1102, x1103, x1104, v1105⟩ H
    rcases j_ with _ | j1125
    · exact (Gets.no H).elim
    replace H : Gets (concourseref14_Ended.l0 k a0 a1 (j1125 + 1) x1102 x1103 x1104) _ := H
    rw [concourseref14_Ended.l0] at H
    refine WP.seq ?_
    refine WP.seq ?_
    refine WP.reg [(0, false), (1, false), (2, false), (3, false), (4, false)] (by kernel_rfl) ?_
    refine mv0 rfl rfl ?_
    refine Dv.fab rfl trivial rfl Tryz.underlying28 rfl Tryz.underlying22 c22 (by decide) ?_
    refine Dv.ldb rfl trivial rfl Tryz.underlying22 rfl (mem_at 1 rfl) rfl ?_
    refine Dv.lenl rfl trivial rfl Tryz.underlying22 ?_
    refine Dv.bin rfl trivial rfl rfl (fun _ => run_lt) ?_
    refine .fin ?_
    refine WP.cond rfl (fun c1106 => ?_) (fun c1106 => ?_)
    · replace H := Gets.ct H c1106
      refine WP.skip ?_
      refine WP.seq ?_
      refine WP.block ?_
      refine WP.seq ?_
      refine WP.reg [(0, false), (1, false), (2, false), (3, false), (4, false), (5, false), (6, false), (7, false), (8, true)] (by kernel_rfl) ?_
      refine mv0 rfl rfl ?_
      refine mv0 rfl rfl ?_
      refine Dv.fab rfl trivial rfl Tryz.underlying28 rfl Tryz.underlying23 c23 (by decide) ?_
      refine Dv.ldb rfl trivial rfl Tryz.underlying23 rfl (mem_at 1 rfl) rfl ?_
      refine mv0 rfl rfl ?_
      obtain ⟨g1107, H⟩ := Gets.grd H
      refine Dv.ixr rfl trivial rfl rfl Tryz.underlying23 Tryz.underlying4 c4 g1107.1 g1107.2 ?_
      refine Dv.ldr rfl trivial rfl Tryz.underlying4 rfl rfl ?_
      obtain ⟨g1108, H⟩ := Gets.grd H
      have h1109 : x1102.toNat < x1103.length := idx_lt g1108
      refine Dv.ixw rfl trivial rfl (mem_at 2 rfl) rfl Tryz.underlying23 Tryz.underlying4 c4 g1108.1 g1108.2 ?_
      refine Dv.stw (j := x1102.toNat) (f := 0) (jj := 2) (boolK.at a0.fTold x1102) rfl trivial rfl rfl (cells_one (one_eq rfl)) Tryz.underlying4 c4 rfl rfl h1109 (Nat.le_of_ble_eq_true rfl) rfl nofun ?_
      refine .fin ?_
      refine WP.seq ?_
      refine WP.dreg Tryz.checked.mixed [(0, false), (1, false), (2, false), (3, false), (4, false), (5, false), (6, false), (7, false), (8, false), (9, false), (10, false), (11, false), (12, false), (13, false), (14, false), (15, false), (16, false), (17, false), (18, false), (19, false), (20, false), (21, false), (22, false), (23, false), (24, false), (25, false), (26, false), (27, false), (28, false), (29, false), (30, false)] (by kernel_rfl) ?_
      refine Dv.fab rfl trivial rfl Tryz.underlying28 rfl Tryz.underlying22 c22 (by decide) ?_
      refine Dv.ldb rfl trivial rfl Tryz.underlying22 rfl (mem_at 1 rfl) rfl ?_
      refine mv0 rfl rfl ?_
      obtain ⟨g1110, H⟩ := Gets.grd H
      refine Dv.ixr rfl trivial rfl rfl Tryz.underlying22 Tryz.underlying30 c30 g1110.1 g1110.2 ?_
      refine Dv.far rfl trivial rfl Tryz.underlying30 rfl Tryz.underlying4 c4 (by decide) (Nat.le_of_ble_eq_true rfl) ?_
      refine Dv.ldr rfl trivial rfl Tryz.underlying4 rfl rfl ?_
      refine mv0 rfl rfl ?_
      cases c1111 : (Edu.K.at a0.fL x1102).fOn
      · replace H := Gets.cf H c1111
        refine sk rfl rfl rfl rfl rfl ?_
        refine sk rfl rfl rfl rfl rfl ?_
        refine sk rfl rfl rfl rfl rfl ?_
        refine sk rfl rfl rfl rfl rfl ?_
        refine sk rfl rfl rfl rfl rfl ?_
        refine sk rfl rfl rfl rfl rfl ?_
        refine Dv.pickF rfl trivial rfl rfl ?_
        refine mv0 rfl rfl ?_
        refine sk rfl rfl rfl rfl rfl ?_
        refine sk rfl rfl rfl rfl rfl ?_
        refine sk rfl rfl rfl rfl rfl ?_
        refine sk rfl rfl rfl rfl rfl ?_
        refine sk rfl rfl rfl rfl rfl ?_
        refine sk rfl rfl rfl rfl rfl ?_
        refine sk rfl rfl rfl rfl rfl ?_
        refine sk rfl rfl rfl rfl rfl ?_
        refine sk rfl rfl rfl rfl rfl ?_
        refine sk rfl rfl rfl rfl rfl ?_
        refine sk rfl rfl rfl rfl rfl ?_
        refine sk rfl rfl rfl rfl rfl ?_
        refine sk rfl rfl rfl rfl rfl ?_
        refine sk rfl rfl rfl rfl rfl ?_
        refine sk rfl rfl rfl rfl rfl ?_
        refine Dv.pickF rfl trivial rfl rfl ?_
        refine .fin ?_
        refine WP.cond rfl nofun (fun _ => ?_)
        refine WP.skip ?_
        refine WP.reg [(0, false), (1, false), (2, false)] (by kernel_rfl) ?_
        refine mv0 rfl rfl ?_
        refine Dv.bin rfl trivial rfl rfl (fun _ => run_add) ?_
        refine as0 rfl rfl ?_
        refine .fin ?_
        exact Back.mk j1125 (w64 (x1102 + 1), x1103.set x1102.toNat (boolK.at a0.fTold x1102), x1104, v1105) (Nat.lt_succ_self _) H (weak_cons rfl (weak_cons rfl (weak_cons rfl (weak_cons rfl (weak_cons rfl (weak_cons rfl (weak_cons rfl (weak_cons rfl weak_nil)))))))) (List.Perm.refl _)
      · replace H := Gets.ct H c1111
        refine Dv.fab rfl ⟨_, _, rfl, rfl, rfl⟩ rfl Tryz.underlying28 rfl Tryz.underlying23 c23 (by decide) ?_
        refine Dv.ldb rfl ⟨_, _, rfl, rfl, rfl⟩ rfl Tryz.underlying23 rfl (mem_at 1 rfl) rfl ?_
        refine Dv.mv rfl ⟨_, _, rfl, rfl, rfl⟩ rfl ?_
        obtain ⟨g1112, H⟩ := Gets.grd H
        refine Dv.ixr rfl ⟨_, _, rfl, rfl, rfl⟩ rfl rfl Tryz.underlying23 Tryz.underlying4 c4 g1112.1 g1112.2 ?_
        refine Dv.ldr rfl ⟨_, _, rfl, rfl, rfl⟩ rfl Tryz.underlying4 rfl rfl ?_
        refine Dv.un rfl ⟨_, _, rfl, rfl, rfl⟩ rfl (fun _ => run_not _) ?_
        refine Dv.pickT rfl trivial rfl rfl ?_
        refine mv0 rfl rfl ?_
        cases c1113 : !(boolK.at a0.fTold x1102)
        · replace H := Gets.cf H c1113
          refine sk rfl rfl rfl rfl rfl ?_
          refine sk rfl rfl rfl rfl rfl ?_
          refine sk rfl rfl rfl rfl rfl ?_
          refine sk rfl rfl rfl rfl rfl ?_
          refine sk rfl rfl rfl rfl rfl ?_
          refine sk rfl rfl rfl rfl rfl ?_
          refine sk rfl rfl rfl rfl rfl ?_
          refine sk rfl rfl rfl rfl rfl ?_
          refine sk rfl rfl rfl rfl rfl ?_
          refine sk rfl rfl rfl rfl rfl ?_
          refine sk rfl rfl rfl rfl rfl ?_
          refine sk rfl rfl rfl rfl rfl ?_
          refine sk rfl rfl rfl rfl rfl ?_
          refine sk rfl rfl rfl rfl rfl ?_
          refine sk rfl rfl rfl rfl rfl ?_
          refine Dv.pickF rfl trivial rfl rfl ?_
          refine .fin ?_
          refine WP.cond rfl nofun (fun _ => ?_)
          refine WP.skip ?_
          refine WP.reg [(0, false), (1, false), (2, false)] (by kernel_rfl) ?_
          refine mv0 rfl rfl ?_
          refine Dv.bin rfl trivial rfl rfl (fun _ => run_add) ?_
          refine as0 rfl rfl ?_
          refine .fin ?_
          exact Back.mk j1125 (w64 (x1102 + 1), x1103.set x1102.toNat (boolK.at a0.fTold x1102), x1104, v1105) (Nat.lt_succ_self _) H (weak_cons rfl (weak_cons rfl (weak_cons rfl (weak_cons rfl (weak_cons rfl (weak_cons rfl (weak_cons rfl (weak_cons rfl weak_nil)))))))) (List.Perm.refl _)
        · replace H := Gets.ct H c1113
          refine Dv.fab rfl ⟨_, _, rfl, rfl, rfl⟩ rfl Tryz.underlying28 rfl Tryz.underlying22 c22 (by decide) ?_
          refine Dv.ldb rfl ⟨_, _, rfl, rfl, rfl⟩ rfl Tryz.underlying22 rfl (mem_at 1 rfl) rfl ?_
          refine Dv.mv rfl ⟨_, _, rfl, rfl, rfl⟩ rfl ?_
          obtain ⟨g1114, H⟩ := Gets.grd H
          refine Dv.ixr rfl ⟨_, _, rfl, rfl, rfl⟩ rfl rfl Tryz.underlying22 Tryz.underlying30 c30 g1114.1 g1114.2 ?_
          refine Dv.far rfl ⟨_, _, rfl, rfl, rfl⟩ rfl Tryz.underlying30 rfl Tryz.underlying3 c3 (by decide) (Nat.le_of_ble_eq_true rfl) ?_
          refine Dv.ldr rfl ⟨_, _, rfl, rfl, rfl⟩ rfl Tryz.underlying3 rfl rfl ?_
          refine Dv.fab rfl ⟨_, _, rfl, rfl, rfl⟩ rfl Tryz.underlying28 rfl Tryz.underlying22 c22 (by decide) ?_
          refine Dv.ldb rfl ⟨_, _, rfl, rfl, rfl⟩ rfl Tryz.underlying22 rfl (mem_at 1 rfl) rfl ?_
          refine Dv.mv rfl ⟨_, _, rfl, rfl, rfl⟩ rfl ?_
          obtain ⟨g1115, H⟩ := Gets.grd H
          refine Dv.ixr rfl ⟨_, _, rfl, rfl, rfl⟩ rfl rfl Tryz.underlying22 Tryz.underlying30 c30 g1115.1 g1115.2 ?_
          refine Dv.far rfl ⟨_, _, rfl, rfl, rfl⟩ rfl Tryz.underlying30 rfl Tryz.underlying3 c3 (by decide) (Nat.le_of_ble_eq_true rfl) ?_
          refine Dv.ldr rfl ⟨_, _, rfl, rfl, rfl⟩ rfl Tryz.underlying3 rfl rfl ?_
          refine Dv.bin rfl ⟨_, _, rfl, rfl, rfl⟩ rfl rfl (fun _ => run_add) ?_
          refine Dv.mv rfl ⟨_, _, rfl, rfl, rfl⟩ rfl ?_
          refine Dv.bin rfl ⟨_, _, rfl, rfl, rfl⟩ rfl rfl (fun _ => run_le) ?_
          refine Dv.pickT rfl trivial rfl rfl ?_
          refine .fin ?_
          refine WP.cond rfl (fun c1116 => ?_) (fun c1116 => ?_)
          · replace H := Gets.ct H c1116
            refine WP.seq ?_
            refine WP.reg [(0, false), (1, false), (2, false), (3, true)] (by kernel_rfl) ?_
            refine mv0 rfl rfl ?_
            refine mv0 rfl rfl ?_
            obtain ⟨g1117, H⟩ := Gets.grd H
            have h1118 : x1102.toNat < (x1103.set x1102.toNat (boolK.at a0.fTold x1102)).length := idx_lt g1117
            refine Dv.ixw rfl trivial rfl (mem_at 2 rfl) rfl Tryz.underlying23 Tryz.underlying4 c4 g1117.1 g1117.2 ?_
            refine Dv.stw (j := x1102.toNat) (f := 0) (jj := 2) true rfl trivial rfl rfl (cells_one (one_eq rfl)) Tryz.underlying4 c4 rfl rfl h1118 (Nat.le_of_ble_eq_true rfl) rfl nofun ?_
            refine .fin ?_
            refine WP.reg [(0, false), (1, false), (2, false), (3, false), (4, false), (5, false), (6, false), (7, true), (8, false)] (by kernel_rfl) ?_
            refine mv0 rfl rfl ?_
            refine Dv.fab rfl trivial rfl Tryz.underlying28 rfl Tryz.underlying22 c22 (by decide) ?_
            refine Dv.ldb rfl trivial rfl Tryz.underlying22 rfl (mem_at 1 rfl) rfl ?_
            refine mv0 rfl rfl ?_
            obtain ⟨g1119, H⟩ := Gets.grd H
            refine Dv.ixr rfl trivial rfl rfl Tryz.underlying22 Tryz.underlying30 c30 g1119.1 g1119.2 ?_
            refine Dv.far rfl trivial rfl Tryz.underlying30 rfl Tryz.underlying9 c9 (by decide) (Nat.le_of_ble_eq_true rfl) ?_
            refine Dv.ldr rfl trivial rfl Tryz.underlying9 rfl rfl ?_
            obtain ⟨t1120, h1121, H⟩ := Gets.call H
            refine Dv.callx (pre := [own strK v1105.1 x1104]) (F := [blk b1096 28 [eq (.slice none 0 0), eq (.slice none 0 0)], blk b1095 28 [sl Edu.K a0.fL, sl boolK a0.fTold], own boolK v1099.1 ((x1103.set x1102.toNat (boolK.at a0.fTold x1102)).set x1102.toNat true)] ++ F) (fun g1122 : OV => [own strK v1105.1 x1104, own strK g1122.1 t1120, blk b1096 28 [eq (.slice none 0 0), eq (.slice none 0 0)], blk b1095 28 [sl Edu.K a0.fL, sl boolK a0.fTold], own boolK v1099.1 ((x1103.set x1102.toNat (boolK.at a0.fTold x1102)).set x1102.toNat true)] ++ F) rfl trivial cal33 rfl (Tr.lend [own strK v1105.1 x1104] (concourseref09_Put.c h1121) (.cons (lt_own (mem_at 0 rfl)) (.cons lt_id .nil)) (fun _ => flat_eq) (fun _ => (flatAs_cons (flatA_own flatK_str) flatAs_nil))) (perm_ton 4 [3, 0, 1, 2] rfl rfl rfl) rfl nofun (fun g1122 _ => ?_)
            refine as0 rfl rfl ?_
            refine .fin ?_
            refine WP.reg [(0, false), (1, false), (2, false)] (by kernel_rfl) ?_
            refine mv0 rfl rfl ?_
            refine Dv.bin rfl trivial rfl rfl (fun _ => run_add) ?_
            refine as0 rfl rfl ?_
            refine .fin ?_
            refine Dn.gh (l' := fun _ : Unit => [blk b1096 28 [eq (.slice none 0 0), eq (.slice none 0 0)], blk b1095 28 [sl Edu.K a0.fL, sl boolK a0.fTold], own boolK v1099.1 ((x1103.set x1102.toNat (boolK.at a0.fTold x1102)).set x1102.toNat true), own strK g1122.1 t1120] ++ F) (gh_of (st_selgn 5 [0, 2, 3, 4, 1] 1 (by kernel_rfl) rfl rfl)) (fun _ _ => ?_)
            exact Back.mk j1125 (w64 (x1102 + 1), (x1103.set x1102.toNat (boolK.at a0.fTold x1102)).set x1102.toNat true, t1120, g1122) (Nat.lt_succ_self _) H (weak_cons rfl (weak_cons rfl (weak_cons rfl (weak_cons rfl (weak_cons rfl (weak_cons rfl (weak_cons rfl (weak_cons rfl weak_nil)))))))) (List.Perm.refl _)
          · replace H := Gets.cf H c1116
            refine WP.skip ?_
            refine WP.reg [(0, false), (1, false), (2, false)] (by kernel_rfl) ?_
            refine mv0 rfl rfl ?_
            refine Dv.bin rfl trivial rfl rfl (fun _ => run_add) ?_
            refine as0 rfl rfl ?_
            refine .fin ?_
            exact Back.mk j1125 (w64 (x1102 + 1), x1103.set x1102.toNat (boolK.at a0.fTold x1102), x1104, v1105) (Nat.lt_succ_self _) H (weak_cons rfl (weak_cons rfl (weak_cons rfl (weak_cons rfl (weak_cons rfl (weak_cons rfl (weak_cons rfl (weak_cons rfl weak_nil)))))))) (List.Perm.refl _)
    · replace H := Gets.cf H c1106
      refine WP.exit ?_
      replace H := Gets.out H
      exact Jn.mk ((x1102, decide (x1102 < (a0.fL.length : Int)), x1103, x1104), v1105) H (weak_cons rfl (weak_cons rfl (weak_cons rfl (weak_cons rfl (weak_cons rfl (weak_cons rfl (weak_cons rfl (weak_cons rfl (weak_cons rfl weak_nil))))))))) (List.Perm.refl _)
theorem concourseref01_SameTexts.c {k : Nat} {a0 : List ByteArray} {a1 : List ByteArray} {r : Bool} (h : concourseref01_SameTexts.f k a0 a1 = some r) : Pt Tryz.prog 11 [sl strK a0, sl strK a1] (eq (.bool r)) := by
  unfold concourseref01_SameTexts.f at h
  refine (Tr.body Tryz.func11 (c := _) rfl Tryz.ntmps11 (Nat.le_of_ble_eq_true rfl) fun R0 F => ?_).pt
  replace h := Gets.of h
  have H := h
  clear h
  refine WP.seq ?_
  refine WP.reg [(0, false)] (by kernel_rfl) ?_
  refine as0 rfl rfl ?_
  refine .fin ?_
  refine WP.seq ?_
  refine WP.seq ?_
  refine WP.reg [(0, false), (1, false), (2, false), (3, false), (4, false)] (by kernel_rfl) ?_
  refine mv0 rfl rfl ?_
  refine Dv.lenl rfl trivial rfl Tryz.underlying37 ?_
  refine mv0 rfl rfl ?_
  refine Dv.lenl rfl trivial rfl Tryz.underlying37 ?_
  refine Dv.bin rfl trivial rfl rfl (fun _ => run_ne) ?_
  refine .fin ?_
  refine WP.cond rfl (fun c1128 => ?_) (fun c1128 => ?_)
  · replace H := Gets.ct H c1128
    refine WP.seq ?_
    refine WP.reg [(0, false)] (by kernel_rfl) ?_
    refine as0 rfl rfl ?_
    refine .fin ?_
    obtain rfl := Gets.out H
    exact WP.retL (fun _ _ h => h) rfl () trivial (.cons (res_tmp rfl) .nil) rfl (st_seln 0 [] 0 rfl rfl rfl)
  · replace H := Gets.cf H c1128
    refine WP.skip ?_
    refine WP.seqr H id (fun p1129 : Int × Bool => [(0, sl strK a0), (1, sl strK a1), (4, eq (.bool false)), (5, eq (.int .i64 p1129.1)), (10, eq (.bool ((a0.length : Int) != (a1.length : Int)))), (14, eq (.bool p1129.2))]) (fun p1129 : Int × Bool => [] ++ F) (fun p1129 H => ?_) (fun H => ?_)
    · refine WP.seq ?_
      refine WP.reg [(0, false)] (by kernel_rfl) ?_
      refine as0 rfl rfl ?_
      refine .fin ?_
      obtain rfl := Gets.out H
      exact WP.retL (fun _ _ h => h) rfl () trivial (.cons (res_tmp rfl) .nil) rfl (st_seln 0 [] 0 rfl rfl rfl)
    · refine WP.seq ?_
      refine WP.reg [(0, false)] (by kernel_rfl) ?_
      refine as0 rfl rfl ?_
      refine .fin ?_
      refine WP.block ?_
      refine WP.gh (l' := fun _ => [] ++ F) (gh_of (st_selgn 0 [] 0 rfl rfl rfl)) (fun _ _ => ?_)
      refine WP.loopg (fun j_ (p1136 : Int) => concourseref01_SameTexts.l0 k a0 a1 j_ p1136) 0 H (fun p1136 => [(0, sl strK a0), (1, sl strK a1), (4, eq (.bool false)), (5, eq (.int .i64 p1136)), (10, eq (.bool ((a0.length : Int) != (a1.length : Int))))]) (fun p1136 => [] ++ F) (weak_cons rfl (weak_cons rfl (weak_cons rfl (weak_cons rfl (weak_cons rfl weak_nil))))) (List.Perm.refl _) ?_
      rintro j_ x1130 H
      rcases j_ with _ | j1135
      · exact (Gets.no H).elim
      replace H : Gets (concourseref01_SameTexts.l0 k a0 a1 (j1135 + 1) x1130) _ := H
      rw [concourseref01_SameTexts.l0] at H
      refine WP.seq ?_
      refine WP.seq ?_
      refine WP.reg [(0, false), (1, false), (2, false), (3, false)] (by kernel_rfl) ?_
      refine mv0 rfl rfl ?_
      refine mv0 rfl rfl ?_
      refine Dv.lenl rfl trivial rfl Tryz.underlying37 ?_
      refine Dv.bin rfl trivial rfl rfl (fun _ => run_lt) ?_
      refine .fin ?_
      refine WP.cond rfl (fun c1131 => ?_) (fun c1131 => ?_)
      · replace H := Gets.ct H c1131
        refine WP.skip ?_
        refine WP.seq ?_
        refine WP.block ?_
        refine WP.seq ?_
        refine WP.dreg Tryz.checked.mixed [(0, false), (1, false), (2, false), (3, false), (4, false), (5, false), (6, false), (7, false), (8, false)] (by kernel_rfl) ?_
        refine mv0 rfl rfl ?_
        refine mv0 rfl rfl ?_
        obtain ⟨g1132, H⟩ := Gets.grd H
        refine Dv.ixr rfl trivial rfl rfl Tryz.underlying37 Tryz.underlying9 c9 g1132.1 g1132.2 ?_
        refine Dv.ldr rfl trivial rfl Tryz.underlying9 rfl rfl ?_
        refine mv0 rfl rfl ?_
        refine mv0 rfl rfl ?_
        obtain ⟨g1133, H⟩ := Gets.grd H
        refine Dv.ixr rfl trivial rfl rfl Tryz.underlying37 Tryz.underlying9 c9 g1133.1 g1133.2 ?_
        refine Dv.ldr rfl trivial rfl Tryz.underlying9 rfl rfl ?_
        refine Dv.bin rfl trivial rfl rfl (fun _ => run_sne) ?_
        refine .fin ?_
        refine WP.cond rfl (fun c1134 => ?_) (fun c1134 => ?_)
        · replace H := Gets.ct H c1134
          refine WP.seq ?_
          refine WP.reg [(0, false)] (by kernel_rfl) ?_
          refine as0 rfl rfl ?_
          refine .fin ?_
          replace H := Gets.outr H
          obtain rfl := Gets.out H
          exact WP.retL (fun _ _ h => h) rfl () trivial (.cons (res_tmp rfl) .nil) rfl (st_seln 0 [] 0 rfl rfl rfl)
        · replace H := Gets.cf H c1134
          refine WP.skip ?_
          refine WP.reg [(0, false), (1, false), (2, false)] (by kernel_rfl) ?_
          refine mv0 rfl rfl ?_
          refine Dv.bin rfl trivial rfl rfl (fun _ => run_add) ?_
          refine as0 rfl rfl ?_
          refine .fin ?_
          exact Back.mk j1135 (w64 (x1130 + 1)) (Nat.lt_succ_self _) H (weak_cons rfl (weak_cons rfl (weak_cons rfl (weak_cons rfl (weak_cons rfl weak_nil))))) (List.Perm.refl _)
      · replace H := Gets.cf H c1131
        refine WP.exit ?_
        replace H := Gets.out H
        exact Jn.mk (x1130, decide (x1130 < (a0.length : Int))) H (weak_cons rfl (weak_cons rfl (weak_cons rfl (weak_cons rfl (weak_cons rfl (weak_cons rfl weak_nil)))))) (List.Perm.refl _)
theorem concourseref14_Next.c {k : Nat} {a0 : TRef} {r : Int × Bool} (h : concourseref14_Next.f k a0 = some r) : Pt Tryz.prog 14 [agg (TRef.enc a0)] (tup [eq (.int .i64 r.1), eq (.bool r.2)]) := by
  unfold concourseref14_Next.f at h
  refine (Tr.body Tryz.func14 (c := _) rfl Tryz.ntmps14 (Nat.le_of_ble_eq_true rfl) fun R0 F => ?_).pt
  replace h := Gets.of h
  have H := h
  clear h
  refine WP.seq ?_
  refine WP.reg [(0, true), (1, false), (2, false)] (by kernel_rfl) ?_
  refine Dv.box rfl trivial rfl (cells_agg (TRef.K.one _)) nofun (fun b1137 => ?_)
  refine as0 rfl rfl ?_
  refine as0 rfl rfl ?_
  refine .fin ?_
  refine WP.seq ?_
  refine WP.reg [(0, false)] (by kernel_rfl) ?_
  refine as0 rfl rfl ?_
  refine .fin ?_
  refine WP.seq ?_
  refine WP.reg [(0, false)] (by kernel_rfl) ?_
  refine as0 rfl rfl ?_
  refine .fin ?_
  refine WP.seqn H id (fun p1138 : Int × Bool × Int × Bool => [(0, agg (TRef.enc a0)), (1, eq (.pointer (some ⟨b1137, 0, none⟩))), (2, eq (.int .i64 0)), (3, eq (.bool false)), (4, eq (.int .i64 p1138.1)), (5, eq (.bool p1138.2.1)), (6, eq (.int .i64 p1138.2.2.1)), (12, eq (.bool p1138.2.2.2))]) (fun p1138 : Int × Bool × Int × Bool => [blk b1137 28 [sl Edu.K a0.fL, sl boolK a0.fTold]] ++ F) (fun p1138 H => ?_) (fun H => ?_)
  · refine WP.seq ?_
    refine WP.reg [(0, false), (1, false), (2, false), (3, false)] (by kernel_rfl) ?_
    refine mv0 rfl rfl ?_
    refine mv0 rfl rfl ?_
    refine as0 rfl rfl ?_
    refine as0 rfl rfl ?_
    refine .fin ?_
    obtain rfl := Gets.out H
    exact WP.retL (fun _ _ h => h) rfl () trivial (.cons (res_tmp rfl) (.cons (res_tmp rfl) .nil)) rfl (st_seln 1 [0] 1 rfl rfl rfl)
  · refine WP.seq ?_
    refine WP.reg [(0, false)] (by kernel_rfl) ?_
    refine as0 rfl rfl ?_
    refine .fin ?_
    refine WP.block ?_
    refine WP.gh (l' := fun _ => [blk b1137 28 [sl Edu.K a0.fL, sl boolK a0.fTold]] ++ F) (gh_of (st_selgn 1 [0] 0 rfl rfl rfl)) (fun _ _ => ?_)
    refine WP.loopg (fun j_ (p1155 : Int × Bool × Int) => concourseref14_Next.l0 k a0 j_ p1155.1 p1155.2.1 p1155.2.2) (0, false, 0) H (fun p1155 => [(0, agg (TRef.enc a0)), (1, eq (.pointer (some ⟨b1137, 0, none⟩))), (2, eq (.int .i64 0)), (3, eq (.bool false)), (4, eq (.int .i64 p1155.1)), (5, eq (.bool p1155.2.1)), (6, eq (.int .i64 p1155.2.2))]) (fun p1155 => [blk b1137 28 [sl Edu.K a0.fL, sl boolK a0.fTold]] ++ F) (weak_cons rfl (weak_cons rfl (weak_cons rfl (weak_cons rfl (weak_cons rfl (weak_cons rfl (weak_cons rfl weak_nil))))))) (List.Perm.refl _) ?_
    rintro j_ ⟨x1139, x1140, x1141⟩ H
    rcases j_ with _ | j1154
    · exact (Gets.no H).elim
    replace H : Gets (concourseref14_Next.l0 k a0 (j1154 + 1) x1139 x1140 x1141) _ := H
    rw [concourseref14_Next.l0] at H
    refine WP.seq ?_
    refine WP.seq ?_
    refine WP.reg [(0, false), (1, false), (2, false), (3, false), (4, false)] (by kernel_rfl) ?_
    refine mv0 rfl rfl ?_
    refine Dv.fab rfl trivial rfl Tryz.underlying28 rfl Tryz.underlying22 c22 (by decide) ?_
    refine Dv.ldb rfl trivial rfl Tryz.underlying22 rfl (mem_at 0 rfl) rfl ?_
    refine Dv.lenl rfl trivial rfl Tryz.underlying22 ?_
    refine Dv.bin rfl trivial rfl rfl (fun _ => run_lt) ?_
    refine .fin ?_
    refine WP.cond rfl (fun c1142 => ?_) (fun c1142 => ?_)
    · replace H := Gets.ct H c1142
      refine WP.skip ?_
      refine WP.seq ?_
      refine WP.block ?_
      refine WP.seq ?_
      refine WP.dreg Tryz.checked.mixed [(0, false), (1, false), (2, false), (3, false), (4, false), (5, false), (6, false), (7, false), (8, false), (9, false), (10, false), (11, false), (12, false), (13, false)] (by kernel_rfl) ?_
      refine Dv.fab rfl trivial rfl Tryz.underlying28 rfl Tryz.underlying22 c22 (by decide) ?_
      refine Dv.ldb rfl trivial rfl Tryz.underlying22 rfl (mem_at 0 rfl) rfl ?_
      refine mv0 rfl rfl ?_
      obtain ⟨g1143, H⟩ := Gets.grd H
      refine Dv.ixr rfl trivial rfl rfl Tryz.underlying22 Tryz.underlying30 c30 g1143.1 g1143.2 ?_
      refine Dv.far rfl trivial rfl Tryz.underlying30 rfl Tryz.underlying3 c3 (by decide) (Nat.le_of_ble_eq_true rfl) ?_
      refine Dv.ldr rfl trivial rfl Tryz.underlying3 rfl rfl ?_
      refine Dv.fab rfl trivial rfl Tryz.underlying28 rfl Tryz.underlying22 c22 (by decide) ?_
      refine Dv.ldb rfl trivial rfl Tryz.underlying22 rfl (mem_at 0 rfl) rfl ?_
      refine mv0 rfl rfl ?_
      obtain ⟨g1144, H⟩ := Gets.grd H
      refine Dv.ixr rfl trivial rfl rfl Tryz.underlying22 Tryz.underlying30 c30 g1144.1 g1144.2 ?_
      refine Dv.far rfl trivial rfl Tryz.underlying30 rfl Tryz.underlying3 c3 (by decide) (Nat.le_of_ble_eq_true rfl) ?_
      refine Dv.ldr rfl trivial rfl Tryz.underlying3 rfl rfl ?_
      refine Dv.bin rfl trivial rfl rfl (fun _ => run_add) ?_
      refine as0 rfl rfl ?_
      refine .fin ?_
      refine WP.seq ?_
      refine WP.reg [(0, false), (1, false), (2, false), (3, false), (4, false), (5, false), (6, false), (7, false), (8, false), (9, false), (10, false), (11, false), (12, false), (13, false), (14, false), (15, false), (16, false), (17, false), (18, false), (19, false), (20, false), (21, false), (22, false)] (by kernel_rfl) ?_
      refine Dv.fab rfl trivial rfl Tryz.underlying28 rfl Tryz.underlying22 c22 (by decide) ?_
      refine Dv.ldb rfl trivial rfl Tryz.underlying22 rfl (mem_at 0 rfl) rfl ?_
      refine mv0 rfl rfl ?_
      obtain ⟨g1145, H⟩ := Gets.grd H
      refine Dv.ixr rfl trivial rfl rfl Tryz.underlying22 Tryz.underlying30 c30 g1145.1 g1145.2 ?_
      refine Dv.far rfl trivial rfl Tryz.underlying30 rfl Tryz.underlying4 c4 (by decide) (Nat.le_of_ble_eq_true rfl) ?_
      refine Dv.ldr rfl trivial rfl Tryz.underlying4 rfl rfl ?_
      refine mv0 rfl rfl ?_
      cases c1146 : (Edu.K.at a0.fL x1141).fOn
      · replace H := Gets.cf H c1146
        refine sk rfl rfl rfl rfl rfl ?_
        refine sk rfl rfl rfl rfl rfl ?_
        refine sk rfl rfl rfl rfl rfl ?_
        refine sk rfl rfl rfl rfl rfl ?_
        refine sk rfl rfl rfl rfl rfl ?_
        refine sk rfl rfl rfl rfl rfl ?_
        refine Dv.pickF rfl trivial rfl rfl ?_
        refine mv0 rfl rfl ?_
        refine sk rfl rfl rfl rfl rfl ?_
        refine sk rfl rfl rfl rfl rfl ?_
        refine sk rfl rfl rfl rfl rfl ?_
        refine Dv.skip rfl ⟨_, _, rfl, rfl, .inr rfl⟩ ?_
        refine Dv.skip rfl ⟨_, _, rfl, rfl, .inr rfl⟩ ?_
        refine Dv.skip rfl ⟨_, _, rfl, rfl, .inr rfl⟩ ?_
        refine sk rfl rfl rfl rfl rfl ?_
        refine Dv.pickF rfl trivial rfl rfl ?_
        refine .fin ?_
        refine WP.cond rfl nofun (fun _ => ?_)
        refine WP.skip ?_
        refine WP.reg [(0, false), (1, false), (2, false)] (by kernel_rfl) ?_
        refine mv0 rfl rfl ?_
        refine Dv.bin rfl trivial rfl rfl (fun _ => run_add) ?_
        refine as0 rfl rfl ?_
        refine .fin ?_
        exact Back.mk j1154 (x1139, x1140, w64 (x1141 + 1)) (Nat.lt_succ_self _) H (weak_cons rfl (weak_cons rfl (weak_cons rfl (weak_cons rfl (weak_cons rfl (weak_cons rfl (weak_cons rfl weak_nil))))))) (List.Perm.refl _)
      · replace H := Gets.ct H c1146
        refine Dv.fab rfl ⟨_, _, rfl, rfl, rfl⟩ rfl Tryz.underlying28 rfl Tryz.underlying23 c23 (by decide) ?_
        refine Dv.ldb rfl ⟨_, _, rfl, rfl, rfl⟩ rfl Tryz.underlying23 rfl (mem_at 0 rfl) rfl ?_
        refine Dv.mv rfl ⟨_, _, rfl, rfl, rfl⟩ rfl ?_
        obtain ⟨g1147, H⟩ := Gets.grd H
        refine Dv.ixr rfl ⟨_, _, rfl, rfl, rfl⟩ rfl rfl Tryz.underlying23 Tryz.underlying4 c4 g1147.1 g1147.2 ?_
        refine Dv.ldr rfl ⟨_, _, rfl, rfl, rfl⟩ rfl Tryz.underlying4 rfl rfl ?_
        refine Dv.un rfl ⟨_, _, rfl, rfl, rfl⟩ rfl (fun _ => run_not _) ?_
        refine Dv.pickT rfl trivial rfl rfl ?_
        refine mv0 rfl rfl ?_
        cases c1148 : !(boolK.at a0.fTold x1141)
        · replace H := Gets.cf H c1148
          refine sk rfl rfl rfl rfl rfl ?_
          refine sk rfl rfl rfl rfl rfl ?_
          refine sk rfl rfl rfl rfl rfl ?_
          refine Dv.skip rfl ⟨_, _, rfl, rfl, .inr rfl⟩ ?_
          refine Dv.skip rfl ⟨_, _, rfl, rfl, .inr rfl⟩ ?_
          refine Dv.skip rfl ⟨_, _, rfl, rfl, .inr rfl⟩ ?_
          refine sk rfl rfl rfl rfl rfl ?_
          refine Dv.pickF rfl trivial rfl rfl ?_
          refine .fin ?_
          refine WP.cond rfl nofun (fun _ => ?_)
          refine WP.skip ?_
          refine WP.reg [(0, false), (1, false), (2, false)] (by kernel_rfl) ?_
          refine mv0 rfl rfl ?_
          refine Dv.bin rfl trivial rfl rfl (fun _ => run_add) ?_
          refine as0 rfl rfl ?_
          refine .fin ?_
          exact Back.mk j1154 (x1139, x1140, w64 (x1141 + 1)) (Nat.lt_succ_self _) H (weak_cons rfl (weak_cons rfl (weak_cons rfl (weak_cons rfl (weak_cons rfl (weak_cons rfl (weak_cons rfl weak_nil))))))) (List.Perm.refl _)
        · replace H := Gets.ct H c1148
          refine Dv.mv rfl ⟨_, _, rfl, rfl, rfl⟩ rfl ?_
          refine Dv.un rfl ⟨_, _, rfl, rfl, rfl⟩ rfl (fun _ => run_not _) ?_
          refine Dv.mv rfl ⟨_, _, rfl, rfl, rfl⟩ rfl ?_
          cases c1149 : !x1140
          · replace H := Gets.cf H c1149
            refine Dv.mv rfl ⟨_, _, rfl, rfl, rfl⟩ rfl ?_
            refine Dv.mv rfl ⟨_, _, rfl, rfl, rfl⟩ rfl ?_
            refine Dv.bin rfl ⟨_, _, rfl, rfl, rfl⟩ rfl rfl (fun _ => run_lt) ?_
            refine Dv.pickF rfl ⟨_, _, rfl, rfl, rfl⟩ rfl rfl ?_
            refine Dv.pickT rfl trivial rfl rfl ?_
            refine .fin ?_
            refine WP.cond rfl (fun c1151 => ?_) (fun c1151 => ?_)
            · replace H := Gets.ct H c1151
              refine WP.seq ?_
              refine WP.reg [(0, false), (1, false)] (by kernel_rfl) ?_
              refine mv0 rfl rfl ?_
              refine as0 rfl rfl ?_
              refine .fin ?_
              refine WP.reg [(0, false)] (by kernel_rfl) ?_
              refine as0 rfl rfl ?_
              refine .fin ?_
              refine WP.reg [(0, false), (1, false), (2, false)] (by kernel_rfl) ?_
              refine mv0 rfl rfl ?_
              refine Dv.bin rfl trivial rfl rfl (fun _ => run_add) ?_
              refine as0 rfl rfl ?_
              refine .fin ?_
              exact Back.mk j1154 (w64 (((Edu.K.at a0.fL x1141).fTick) + ((Edu.K.at a0.fL x1141).fSpan)), true, w64 (x1141 + 1)) (Nat.lt_succ_self _) H (weak_cons rfl (weak_cons rfl (weak_cons rfl (weak_cons rfl (weak_cons rfl (weak_cons rfl (weak_cons rfl weak_nil))))))) (List.Perm.refl _)
            · replace H := Gets.cf H c1151
              refine WP.skip ?_
              refine WP.reg [(0, false), (1, false), (2, false)] (by kernel_rfl) ?_
              refine mv0 rfl rfl ?_
              refine Dv.bin rfl trivial rfl rfl (fun _ => run_add) ?_
              refine as0 rfl rfl ?_
              refine .fin ?_
              exact Back.mk j1154 (x1139, x1140, w64 (x1141 + 1)) (Nat.lt_succ_self _) H (weak_cons rfl (weak_cons rfl (weak_cons rfl (weak_cons rfl (weak_cons rfl (weak_cons rfl (weak_cons rfl weak_nil))))))) (List.Perm.refl _)
          · replace H := Gets.ct H c1149
            refine sk rfl rfl rfl rfl rfl ?_
            refine sk rfl rfl rfl rfl rfl ?_
            refine sk rfl rfl rfl rfl rfl ?_
            refine Dv.pickT rfl ⟨_, _, rfl, rfl, rfl⟩ rfl rfl ?_
            refine Dv.pickT rfl trivial rfl rfl ?_
            refine .fin ?_
            refine WP.cond rfl (fun _ => ?_) nofun
            refine WP.seq ?_
            refine WP.reg [(0, false), (1, false)] (by kernel_rfl) ?_
            refine mv0 rfl rfl ?_
            refine as0 rfl rfl ?_
            refine .fin ?_
            refine WP.reg [(0, false)] (by kernel_rfl) ?_
            refine as0 rfl rfl ?_
            refine .fin ?_
            refine WP.reg [(0, false), (1, false), (2, false)] (by kernel_rfl) ?_
            refine mv0 rfl rfl ?_
            refine Dv.bin rfl trivial rfl rfl (fun _ => run_add) ?_
            refine as0 rfl rfl ?_
            refine .fin ?_
            exact Back.mk j1154 (w64 (((Edu.K.at a0.fL x1141).fTick) + ((Edu.K.at a0.fL x1141).fSpan)), true, w64 (x1141 + 1)) (Nat.lt_succ_self _) H (weak_cons rfl (weak_cons rfl (weak_cons rfl (weak_cons rfl (weak_cons rfl (weak_cons rfl (weak_cons rfl weak_nil))))))) (List.Perm.refl _)
    · replace H := Gets.cf H c1142
      refine WP.exit ?_
      replace H := Gets.out H
      exact Jn.mk (x1139, x1140, x1141, decide (x1141 < (a0.fL.length : Int))) H (weak_cons rfl (weak_cons rfl (weak_cons rfl (weak_cons rfl (weak_cons rfl (weak_cons rfl (weak_cons rfl (weak_cons rfl weak_nil)))))))) (List.Perm.refl _)
theorem concourseref04_SameEdus.c {k : Nat} {a0 : List Edu} {a1 : List Edu} {r : Bool} (h : concourseref04_SameEdus.f k a0 a1 = some r) : Pt Tryz.prog 15 [sl Edu.K a0, sl Edu.K a1] (eq (.bool r)) := by
  unfold concourseref04_SameEdus.f at h
  refine (Tr.body Tryz.func15 (c := _) rfl Tryz.ntmps15 (Nat.le_of_ble_eq_true rfl) fun R0 F => ?_).pt
  replace h := Gets.of h
  have H := h
  clear h
  refine WP.seq ?_
  refine WP.reg [(0, false)] (by kernel_rfl) ?_
  refine as0 rfl rfl ?_
  refine .fin ?_
  refine WP.seq ?_
  refine WP.seq ?_
  refine WP.reg [(0, false), (1, false), (2, false), (3, false), (4, false)] (by kernel_rfl) ?_
  refine mv0 rfl rfl ?_
  refine Dv.lenl rfl trivial rfl Tryz.underlying22 ?_
  refine mv0 rfl rfl ?_
  refine Dv.lenl rfl trivial rfl Tryz.underlying22 ?_
  refine Dv.bin rfl trivial rfl rfl (fun _ => run_ne) ?_
  refine .fin ?_
  refine WP.cond rfl (fun c1156 => ?_) (fun c1156 => ?_)
  · replace H := Gets.ct H c1156
    refine WP.seq ?_
    refine WP.reg [(0, false)] (by kernel_rfl) ?_
    refine as0 rfl rfl ?_
    refine .fin ?_
    obtain rfl := Gets.out H
    exact WP.retL (fun _ _ h => h) rfl () trivial (.cons (res_tmp rfl) .nil) rfl (st_seln 0 [] 0 rfl rfl rfl)
  · replace H := Gets.cf H c1156
    refine WP.skip ?_
    refine WP.seqr H id (fun p1157 : Int × Bool => [(0, sl Edu.K a0), (1, sl Edu.K a1), (4, eq (.bool false)), (5, eq (.int .i64 p1157.1)), (10, eq (.bool ((a0.length : Int) != (a1.length : Int)))), (14, eq (.bool p1157.2))]) (fun p1157 : Int × Bool => [] ++ F) (fun p1157 H => ?_) (fun H => ?_)
    · refine WP.seq ?_
      refine WP.reg [(0, false)] (by kernel_rfl) ?_
      refine as0 rfl rfl ?_
      refine .fin ?_
      obtain rfl := Gets.out H
      exact WP.retL (fun _ _ h => h) rfl () trivial (.cons (res_tmp rfl) .nil) rfl (st_seln 0 [] 0 rfl rfl rfl)
    · refine WP.seq ?_
      refine WP.reg [(0, false)] (by kernel_rfl) ?_
      refine as0 rfl rfl ?_
      refine .fin ?_
      refine WP.block ?_
      refine WP.gh (l' := fun _ => [] ++ F) (gh_of (st_selgn 0 [] 0 rfl rfl rfl)) (fun _ _ => ?_)
      refine WP.loopg (fun j_ (p1164 : Int) => concourseref04_SameEdus.l0 k a0 a1 j_ p1164) 0 H (fun p1164 => [(0, sl Edu.K a0), (1, sl Edu.K a1), (4, eq (.bool false)), (5, eq (.int .i64 p1164)), (10, eq (.bool ((a0.length : Int) != (a1.length : Int))))]) (fun p1164 => [] ++ F) (weak_cons rfl (weak_cons rfl (weak_cons rfl (weak_cons rfl (weak_cons rfl weak_nil))))) (List.Perm.refl _) ?_
      rintro j_ x1158 H
      rcases j_ with _ | j1163
      · exact (Gets.no H).elim
      replace H : Gets (concourseref04_SameEdus.l0 k a0 a1 (j1163 + 1) x1158) _ := H
      rw [concourseref04_SameEdus.l0] at H
      refine WP.seq ?_
      refine WP.seq ?_
      refine WP.reg [(0, false), (1, false), (2, false), (3, false)] (by kernel_rfl) ?_
      refine mv0 rfl rfl ?_
      refine mv0 rfl rfl ?_
      refine Dv.lenl rfl trivial rfl Tryz.underlying22 ?_
      refine Dv.bin rfl trivial rfl rfl (fun _ => run_lt) ?_
      refine .fin ?_
      refine WP.cond rfl (fun c1159 => ?_) (fun c1159 => ?_)
      · replace H := Gets.ct H c1159
        refine WP.skip ?_
        refine WP.seq ?_
        refine WP.block ?_
        refine WP.seq ?_
        refine WP.dreg Tryz.checked.mixed [(0, false), (1, false), (2, false), (3, false), (4, false), (5, false), (6, false), (7, false), (8, false)] (by kernel_rfl) ?_
        refine mv0 rfl rfl ?_
        refine mv0 rfl rfl ?_
        obtain ⟨g1160, H⟩ := Gets.grd H
        refine Dv.ixr rfl trivial rfl rfl Tryz.underlying22 Tryz.underlying30 c30 g1160.1 g1160.2 ?_
        refine Dv.ldrs rfl trivial rfl Tryz.underlying30 rfl c30 (Nat.le_of_ble_eq_true rfl) ?_
        refine mv0 rfl rfl ?_
        refine mv0 rfl rfl ?_
        obtain ⟨g1161, H⟩ := Gets.grd H
        refine Dv.ixr rfl trivial rfl rfl Tryz.underlying22 Tryz.underlying30 c30 g1161.1 g1161.2 ?_
        refine Dv.ldrs rfl trivial rfl Tryz.underlying30 rfl c30 (Nat.le_of_ble_eq_true rfl) ?_
        refine Dv.nes [.int .i64 ((Edu.K.at a0 x1158).fKind), .string ((Edu.K.at a0 x1158).fRoom), .string ((Edu.K.at a0 x1158).fUser), .string ((Edu.K.at a0 x1158).fEvent), .string ((Edu.K.at a0 x1158).fThread), .bool ((Edu.K.at a0 x1158).fPrivate), .bool ((Edu.K.at a0 x1158).fOn), .int .i64 ((Edu.K.at a0 x1158).fSpan), .int .i64 ((Edu.K.at a0 x1158).fState), .int .i64 ((Edu.K.at a0 x1158).fTick), .int .i64 ((Edu.K.at a0 x1158).fStamp)] [.int .i64 ((Edu.K.at a1 x1158).fKind), .string ((Edu.K.at a1 x1158).fRoom), .string ((Edu.K.at a1 x1158).fUser), .string ((Edu.K.at a1 x1158).fEvent), .string ((Edu.K.at a1 x1158).fThread), .bool ((Edu.K.at a1 x1158).fPrivate), .bool ((Edu.K.at a1 x1158).fOn), .int .i64 ((Edu.K.at a1 x1158).fSpan), .int .i64 ((Edu.K.at a1 x1158).fState), .int .i64 ((Edu.K.at a1 x1158).fTick), .int .i64 ((Edu.K.at a1 x1158).fStamp)] rfl trivial rfl rfl rfl rfl eg30 (fun _ => equal_of 2 (by decide) (fun _ => eqt30 (Edu.K.at a0 x1158) (Edu.K.at a1 x1158))) ?_
        refine .fin ?_
        refine WP.cond rfl (fun c1162 => ?_) (fun c1162 => ?_)
        · replace H := Gets.ct H c1162
          refine WP.seq ?_
          refine WP.reg [(0, false)] (by kernel_rfl) ?_
          refine as0 rfl rfl ?_
          refine .fin ?_
          replace H := Gets.outr H
          obtain rfl := Gets.out H
          exact WP.retL (fun _ _ h => h) rfl () trivial (.cons (res_tmp rfl) .nil) rfl (st_seln 0 [] 0 rfl rfl rfl)
        · replace H := Gets.cf H c1162
          refine WP.skip ?_
          refine WP.reg [(0, false), (1, false), (2, false)] (by kernel_rfl) ?_
          refine mv0 rfl rfl ?_
          refine Dv.bin rfl trivial rfl rfl (fun _ => run_add) ?_
          refine as0 rfl rfl ?_
          refine .fin ?_
          exact Back.mk j1163 (w64 (x1158 + 1)) (Nat.lt_succ_self _) H (weak_cons rfl (weak_cons rfl (weak_cons rfl (weak_cons rfl (weak_cons rfl weak_nil))))) (List.Perm.refl _)
      · replace H := Gets.cf H c1159
        refine WP.exit ?_
        replace H := Gets.out H
        exact Jn.mk (x1158, decide (x1158 < (a0.length : Int))) H (weak_cons rfl (weak_cons rfl (weak_cons rfl (weak_cons rfl (weak_cons rfl (weak_cons rfl weak_nil)))))) (List.Perm.refl _)
end Go.Proofs.YtmbodanckhidiaaGreat
