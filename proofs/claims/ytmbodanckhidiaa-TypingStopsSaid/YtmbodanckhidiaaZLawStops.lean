/- The walks. -/
import Derived.Test.YtmbodanckhidiaaZWalks4
import Derived.Test.YtmbodanckhidiaaConU
import Derived.Eval
set_option linter.all false
set_option maxRecDepth 10000
set_option maxHeartbeats 20000000
namespace Go.Proofs.Ytmbodanckhidiaa
open Go Go.Sp
theorem concourselaw14_TypingStops.c {k : Nat} {a0 : Edu} {a1 : Int} {a2 : Int} {a3 : Int} {r : Bool} (h : concourselaw14_TypingStops.f k a0 a1 a2 a3 = some r) : Pt Try.prog 6 [agg (Edu.enc a0), eq (.int .i64 a1), eq (.int .i64 a2), eq (.int .i64 a3)] (eq (.bool r)) := by
  unfold concourselaw14_TypingStops.f at h
  refine (Tr.body Try.func6 (c := _) rfl Try.ntmps6 (Nat.le_of_ble_eq_true rfl) fun R0 F => ?_).pt
  replace h := Gets.of h
  have H := h
  clear h
  refine WP.seq ?_
  refine WP.reg [(0, true), (1, false)] (by kernel_rfl) ?_
  refine Dv.box rfl trivial rfl (cells_agg (Edu.K.one _)) nofun (fun b1215 => ?_)
  refine Dv.asg rfl trivial rfl ?_
  refine .fin ?_
  refine WP.seq ?_
  refine WP.reg [(0, false), (1, true)] (by kernel_rfl) ?_
  refine Dv.fab rfl trivial rfl Try.underlying32 rfl Try.underlying4 c4 (by decide) ?_
  refine Dv.stx ([blk b1215 32 [eq (.int .i64 a0.fKind), eq (.string a0.fRoom), eq (.string a0.fUser), eq (.string a0.fEvent), eq (.string a0.fThread), eq (.bool a0.fPrivate), eq (.bool true), eq (.int .i64 a0.fSpan), eq (.int .i64 a0.fState), eq (.int .i64 a0.fTick), eq (.int .i64 a0.fStamp)]] ++ F) rfl trivial rfl rfl (cells_one (one_eq rfl)) Try.underlying4 c4 rfl (j := 0) rfl (Nat.le_of_ble_eq_true rfl) rfl nofun ?_
  refine .fin ?_
  refine WP.seq ?_
  refine WP.reg [(0, false), (1, false), (2, true), (3, true)] (by kernel_rfl) ?_
  refine Dv.ldbs rfl trivial rfl Try.underlying32 rfl c32 (mem_at 0 rfl) (Nat.le_of_ble_eq_true rfl) ?_
  obtain ⟨t1216, h1217, H⟩ := Gets.call H
  refine Dv.call rfl trivial cal9 rfl (concourseref14_Made.c h1217) ?_
  refine Dv.alloc (z := .agg #[.int .i64 0, .string ⟨#[]⟩, .string ⟨#[]⟩, .string ⟨#[]⟩, .string ⟨#[]⟩, .bool false, .bool false, .int .i64 0, .int .i64 0, .int .i64 0, .int .i64 0]) (qs := [eq (.int .i64 0), eq (.string (⟨#[]⟩ : ByteArray)), eq (.string (⟨#[]⟩ : ByteArray)), eq (.string (⟨#[]⟩ : ByteArray)), eq (.string (⟨#[]⟩ : ByteArray)), eq (.bool false), eq (.bool false), eq (.int .i64 0), eq (.int .i64 0), eq (.int .i64 0), eq (.int .i64 0)]) rfl trivial z32 rfl nofun (fun b1218 => ?_)
  refine Dv.stx ([blk b1218 32 [eq (.int .i64 t1216.fKind), eq (.string t1216.fRoom), eq (.string t1216.fUser), eq (.string t1216.fEvent), eq (.string t1216.fThread), eq (.bool t1216.fPrivate), eq (.bool t1216.fOn), eq (.int .i64 t1216.fSpan), eq (.int .i64 t1216.fState), eq (.int .i64 t1216.fTick), eq (.int .i64 t1216.fStamp)], blk b1215 32 [eq (.int .i64 a0.fKind), eq (.string a0.fRoom), eq (.string a0.fUser), eq (.string a0.fEvent), eq (.string a0.fThread), eq (.bool a0.fPrivate), eq (.bool true), eq (.int .i64 a0.fSpan), eq (.int .i64 a0.fState), eq (.int .i64 a0.fTick), eq (.int .i64 a0.fStamp)]] ++ F) rfl trivial rfl rfl (cells_agg (Edu.K.one _)) Try.underlying32 c32 rfl (j := 0) rfl (Nat.le_of_ble_eq_true rfl) rfl nofun ?_
  refine .fin ?_
  refine WP.seq ?_
  refine WP.reg [(0, false), (1, false), (2, false), (3, true)] (by kernel_rfl) ?_
  refine Dv.mv rfl trivial rfl ?_
  obtain ⟨t1219, h1220, H⟩ := Gets.call H
  refine Dv.call rfl trivial cal12 rfl (concourseref01_Around.c h1220) ?_
  refine Dv.fab rfl trivial rfl Try.underlying32 rfl Try.underlying3 c3 (by decide) ?_
  refine Dv.stx ([blk b1218 32 [eq (.int .i64 t1216.fKind), eq (.string t1216.fRoom), eq (.string t1216.fUser), eq (.string t1216.fEvent), eq (.string t1216.fThread), eq (.bool t1216.fPrivate), eq (.bool t1216.fOn), eq (.int .i64 t1216.fSpan), eq (.int .i64 t1216.fState), eq (.int .i64 t1216.fTick), eq (.int .i64 t1219)], blk b1215 32 [eq (.int .i64 a0.fKind), eq (.string a0.fRoom), eq (.string a0.fUser), eq (.string a0.fEvent), eq (.string a0.fThread), eq (.bool a0.fPrivate), eq (.bool true), eq (.int .i64 a0.fSpan), eq (.int .i64 a0.fState), eq (.int .i64 a0.fTick), eq (.int .i64 a0.fStamp)]] ++ F) rfl trivial rfl rfl (cells_one (one_eq rfl)) Try.underlying3 c3 rfl (j := 0) rfl (Nat.le_of_ble_eq_true rfl) rfl nofun ?_
  refine .fin ?_
  refine WP.seq ?_
  refine WP.reg [(0, false), (1, true), (2, true)] (by kernel_rfl) ?_
  refine Dv.ldbs rfl trivial rfl Try.underlying32 rfl c32 (mem_at 0 rfl) (Nat.le_of_ble_eq_true rfl) ?_
  refine Dv.alloc (z := .agg #[.int .i64 0, .string ⟨#[]⟩, .string ⟨#[]⟩, .string ⟨#[]⟩, .string ⟨#[]⟩, .bool false, .bool false, .int .i64 0, .int .i64 0, .int .i64 0, .int .i64 0]) (qs := [eq (.int .i64 0), eq (.string (⟨#[]⟩ : ByteArray)), eq (.string (⟨#[]⟩ : ByteArray)), eq (.string (⟨#[]⟩ : ByteArray)), eq (.string (⟨#[]⟩ : ByteArray)), eq (.bool false), eq (.bool false), eq (.int .i64 0), eq (.int .i64 0), eq (.int .i64 0), eq (.int .i64 0)]) rfl trivial z32 rfl nofun (fun b1221 => ?_)
  refine Dv.stx ([blk b1221 32 [eq (.int .i64 t1216.fKind), eq (.string t1216.fRoom), eq (.string t1216.fUser), eq (.string t1216.fEvent), eq (.string t1216.fThread), eq (.bool t1216.fPrivate), eq (.bool t1216.fOn), eq (.int .i64 t1216.fSpan), eq (.int .i64 t1216.fState), eq (.int .i64 t1216.fTick), eq (.int .i64 t1219)], blk b1218 32 [eq (.int .i64 t1216.fKind), eq (.string t1216.fRoom), eq (.string t1216.fUser), eq (.string t1216.fEvent), eq (.string t1216.fThread), eq (.bool t1216.fPrivate), eq (.bool t1216.fOn), eq (.int .i64 t1216.fSpan), eq (.int .i64 t1216.fState), eq (.int .i64 t1216.fTick), eq (.int .i64 t1219)], blk b1215 32 [eq (.int .i64 a0.fKind), eq (.string a0.fRoom), eq (.string a0.fUser), eq (.string a0.fEvent), eq (.string a0.fThread), eq (.bool a0.fPrivate), eq (.bool true), eq (.int .i64 a0.fSpan), eq (.int .i64 a0.fState), eq (.int .i64 a0.fTick), eq (.int .i64 a0.fStamp)]] ++ F) rfl trivial rfl rfl (cells_agg (ones_cons (one_eq rfl) (ones_cons (one_eq rfl) (ones_cons (one_eq rfl) (ones_cons (one_eq rfl) (ones_cons (one_eq rfl) (ones_cons (one_eq rfl) (ones_cons (one_eq rfl) (ones_cons (one_eq rfl) (ones_cons (one_eq rfl) (ones_cons (one_eq rfl) (ones_cons (one_eq rfl) ones_nil)))))))))))) Try.underlying32 c32 rfl (j := 0) rfl (Nat.le_of_ble_eq_true rfl) rfl nofun ?_
  refine .fin ?_
  refine WP.seq ?_
  refine WP.reg [(0, false), (1, true)] (by kernel_rfl) ?_
  refine Dv.fab rfl trivial rfl Try.underlying32 rfl Try.underlying4 c4 (by decide) ?_
  refine Dv.stx ([blk b1221 32 [eq (.int .i64 t1216.fKind), eq (.string t1216.fRoom), eq (.string t1216.fUser), eq (.string t1216.fEvent), eq (.string t1216.fThread), eq (.bool t1216.fPrivate), eq (.bool false), eq (.int .i64 t1216.fSpan), eq (.int .i64 t1216.fState), eq (.int .i64 t1216.fTick), eq (.int .i64 t1219)], blk b1218 32 [eq (.int .i64 t1216.fKind), eq (.string t1216.fRoom), eq (.string t1216.fUser), eq (.string t1216.fEvent), eq (.string t1216.fThread), eq (.bool t1216.fPrivate), eq (.bool t1216.fOn), eq (.int .i64 t1216.fSpan), eq (.int .i64 t1216.fState), eq (.int .i64 t1216.fTick), eq (.int .i64 t1219)], blk b1215 32 [eq (.int .i64 a0.fKind), eq (.string a0.fRoom), eq (.string a0.fUser), eq (.string a0.fEvent), eq (.string a0.fThread), eq (.bool a0.fPrivate), eq (.bool true), eq (.int .i64 a0.fSpan), eq (.int .i64 a0.fState), eq (.int .i64 a0.fTick), eq (.int .i64 a0.fStamp)]] ++ F) rfl trivial rfl rfl (cells_one (one_eq rfl)) Try.underlying4 c4 rfl (j := 0) rfl (Nat.le_of_ble_eq_true rfl) rfl nofun ?_
  refine .fin ?_
  refine WP.seq ?_
  refine WP.reg [(0, false), (1, true)] (by kernel_rfl) ?_
  refine Dv.fab rfl trivial rfl Try.underlying32 rfl Try.underlying3 c3 (by decide) ?_
  refine Dv.stx ([blk b1221 32 [eq (.int .i64 t1216.fKind), eq (.string t1216.fRoom), eq (.string t1216.fUser), eq (.string t1216.fEvent), eq (.string t1216.fThread), eq (.bool t1216.fPrivate), eq (.bool false), eq (.int .i64 0), eq (.int .i64 t1216.fState), eq (.int .i64 t1216.fTick), eq (.int .i64 t1219)], blk b1218 32 [eq (.int .i64 t1216.fKind), eq (.string t1216.fRoom), eq (.string t1216.fUser), eq (.string t1216.fEvent), eq (.string t1216.fThread), eq (.bool t1216.fPrivate), eq (.bool t1216.fOn), eq (.int .i64 t1216.fSpan), eq (.int .i64 t1216.fState), eq (.int .i64 t1216.fTick), eq (.int .i64 t1219)], blk b1215 32 [eq (.int .i64 a0.fKind), eq (.string a0.fRoom), eq (.string a0.fUser), eq (.string a0.fEvent), eq (.string a0.fThread), eq (.bool a0.fPrivate), eq (.bool true), eq (.int .i64 a0.fSpan), eq (.int .i64 a0.fState), eq (.int .i64 a0.fTick), eq (.int .i64 a0.fStamp)]] ++ F) rfl trivial rfl rfl (cells_one (one_eq rfl)) Try.underlying3 c3 rfl (j := 0) rfl (Nat.le_of_ble_eq_true rfl) rfl nofun ?_
  refine .fin ?_
  refine WP.seq ?_
  refine WP.reg [(0, false), (1, false), (2, false), (3, true)] (by kernel_rfl) ?_
  refine Dv.mv rfl trivial rfl ?_
  obtain ⟨t1222, h1223, H⟩ := Gets.call H
  refine Dv.call rfl trivial cal12 rfl (concourseref01_Around.c h1223) ?_
  refine Dv.fab rfl trivial rfl Try.underlying32 rfl Try.underlying3 c3 (by decide) ?_
  refine Dv.stx ([blk b1221 32 [eq (.int .i64 t1216.fKind), eq (.string t1216.fRoom), eq (.string t1216.fUser), eq (.string t1216.fEvent), eq (.string t1216.fThread), eq (.bool t1216.fPrivate), eq (.bool false), eq (.int .i64 0), eq (.int .i64 t1216.fState), eq (.int .i64 t1216.fTick), eq (.int .i64 t1222)], blk b1218 32 [eq (.int .i64 t1216.fKind), eq (.string t1216.fRoom), eq (.string t1216.fUser), eq (.string t1216.fEvent), eq (.string t1216.fThread), eq (.bool t1216.fPrivate), eq (.bool t1216.fOn), eq (.int .i64 t1216.fSpan), eq (.int .i64 t1216.fState), eq (.int .i64 t1216.fTick), eq (.int .i64 t1219)], blk b1215 32 [eq (.int .i64 a0.fKind), eq (.string a0.fRoom), eq (.string a0.fUser), eq (.string a0.fEvent), eq (.string a0.fThread), eq (.bool a0.fPrivate), eq (.bool true), eq (.int .i64 a0.fSpan), eq (.int .i64 a0.fState), eq (.int .i64 a0.fTick), eq (.int .i64 a0.fStamp)]] ++ F) rfl trivial rfl rfl (cells_one (one_eq rfl)) Try.underlying3 c3 rfl (j := 0) rfl (Nat.le_of_ble_eq_true rfl) rfl nofun ?_
  refine .fin ?_
  refine WP.seq ?_
  refine WP.reg [(0, true), (1, false)] (by kernel_rfl) ?_
  obtain ⟨t1224, h1225, H⟩ := Gets.call H
  refine Dv.callx (pre := []) (F := [blk b1221 32 [eq (.int .i64 t1216.fKind), eq (.string t1216.fRoom), eq (.string t1216.fUser), eq (.string t1216.fEvent), eq (.string t1216.fThread), eq (.bool t1216.fPrivate), eq (.bool false), eq (.int .i64 0), eq (.int .i64 t1216.fState), eq (.int .i64 t1216.fTick), eq (.int .i64 t1222)], blk b1218 32 [eq (.int .i64 t1216.fKind), eq (.string t1216.fRoom), eq (.string t1216.fUser), eq (.string t1216.fEvent), eq (.string t1216.fThread), eq (.bool t1216.fPrivate), eq (.bool t1216.fOn), eq (.int .i64 t1216.fSpan), eq (.int .i64 t1216.fState), eq (.int .i64 t1216.fTick), eq (.int .i64 t1219)], blk b1215 32 [eq (.int .i64 a0.fKind), eq (.string a0.fRoom), eq (.string a0.fUser), eq (.string a0.fEvent), eq (.string a0.fThread), eq (.bool a0.fPrivate), eq (.bool true), eq (.int .i64 a0.fSpan), eq (.int .i64 a0.fState), eq (.int .i64 a0.fTick), eq (.int .i64 a0.fStamp)]] ++ F) (fun g1226 : OV => [TTab.O g1226 t1224, blk b1221 32 [eq (.int .i64 t1216.fKind), eq (.string t1216.fRoom), eq (.string t1216.fUser), eq (.string t1216.fEvent), eq (.string t1216.fThread), eq (.bool t1216.fPrivate), eq (.bool false), eq (.int .i64 0), eq (.int .i64 t1216.fState), eq (.int .i64 t1216.fTick), eq (.int .i64 t1222)], blk b1218 32 [eq (.int .i64 t1216.fKind), eq (.string t1216.fRoom), eq (.string t1216.fUser), eq (.string t1216.fEvent), eq (.string t1216.fThread), eq (.bool t1216.fPrivate), eq (.bool t1216.fOn), eq (.int .i64 t1216.fSpan), eq (.int .i64 t1216.fState), eq (.int .i64 t1216.fTick), eq (.int .i64 t1219)], blk b1215 32 [eq (.int .i64 a0.fKind), eq (.string a0.fRoom), eq (.string a0.fUser), eq (.string a0.fEvent), eq (.string a0.fThread), eq (.bool a0.fPrivate), eq (.bool true), eq (.int .i64 a0.fSpan), eq (.int .i64 a0.fState), eq (.int .i64 a0.fTick), eq (.int .i64 a0.fStamp)]] ++ F) rfl trivial cal7 rfl (typing_New.c h1225) (perm_to (L := [blk b1221 32 [eq (.int .i64 t1216.fKind), eq (.string t1216.fRoom), eq (.string t1216.fUser), eq (.string t1216.fEvent), eq (.string t1216.fThread), eq (.bool t1216.fPrivate), eq (.bool false), eq (.int .i64 0), eq (.int .i64 t1216.fState), eq (.int .i64 t1216.fTick), eq (.int .i64 t1222)], blk b1218 32 [eq (.int .i64 t1216.fKind), eq (.string t1216.fRoom), eq (.string t1216.fUser), eq (.string t1216.fEvent), eq (.string t1216.fThread), eq (.bool t1216.fPrivate), eq (.bool t1216.fOn), eq (.int .i64 t1216.fSpan), eq (.int .i64 t1216.fState), eq (.int .i64 t1216.fTick), eq (.int .i64 t1219)], blk b1215 32 [eq (.int .i64 a0.fKind), eq (.string a0.fRoom), eq (.string a0.fUser), eq (.string a0.fEvent), eq (.string a0.fThread), eq (.bool a0.fPrivate), eq (.bool true), eq (.int .i64 a0.fSpan), eq (.int .i64 a0.fState), eq (.int .i64 a0.fTick), eq (.int .i64 a0.fStamp)]]) (F := F) [0, 1, 2] rfl rfl rfl) rfl nofun (fun g1226 _ => ?_)
  refine Dv.asg rfl trivial rfl ?_
  refine .fin ?_
  refine WP.seq ?_
  refine WP.seq ?_
  refine WP.reg [(0, false), (1, false)] (by kernel_rfl) ?_
  refine Dv.mv rfl trivial rfl ?_
  refine Dv.peq0 TTab.nn rfl trivial rfl rfl Try.underlying23 (mem_at 0 rfl) ?_
  refine .fin ?_
  refine WP.cond rfl nofun (fun _ => ?_)
  refine WP.skip ?_
  refine WP.seq ?_
  refine WP.reg [(0, false), (1, false), (2, true)] (by kernel_rfl) ?_
  refine Dv.mv rfl trivial rfl ?_
  refine Dv.ldbs rfl trivial rfl Try.underlying32 rfl c32 (mem_at 2 rfl) (Nat.le_of_ble_eq_true rfl) ?_
  obtain ⟨t1228, h1229, H⟩ := Gets.call H
  refine Dv.callx (pre := [TTab.O g1226 t1224]) (F := [blk b1221 32 [eq (.int .i64 t1216.fKind), eq (.string t1216.fRoom), eq (.string t1216.fUser), eq (.string t1216.fEvent), eq (.string t1216.fThread), eq (.bool t1216.fPrivate), eq (.bool false), eq (.int .i64 0), eq (.int .i64 t1216.fState), eq (.int .i64 t1216.fTick), eq (.int .i64 t1222)], blk b1218 32 [eq (.int .i64 t1216.fKind), eq (.string t1216.fRoom), eq (.string t1216.fUser), eq (.string t1216.fEvent), eq (.string t1216.fThread), eq (.bool t1216.fPrivate), eq (.bool t1216.fOn), eq (.int .i64 t1216.fSpan), eq (.int .i64 t1216.fState), eq (.int .i64 t1216.fTick), eq (.int .i64 t1219)], blk b1215 32 [eq (.int .i64 a0.fKind), eq (.string a0.fRoom), eq (.string a0.fUser), eq (.string a0.fEvent), eq (.string a0.fThread), eq (.bool a0.fPrivate), eq (.bool true), eq (.int .i64 a0.fSpan), eq (.int .i64 a0.fState), eq (.int .i64 a0.fTick), eq (.int .i64 a0.fStamp)]] ++ F) (fun _ : Unit => [TTab.O g1226 t1228.2.2, blk b1221 32 [eq (.int .i64 t1216.fKind), eq (.string t1216.fRoom), eq (.string t1216.fUser), eq (.string t1216.fEvent), eq (.string t1216.fThread), eq (.bool t1216.fPrivate), eq (.bool false), eq (.int .i64 0), eq (.int .i64 t1216.fState), eq (.int .i64 t1216.fTick), eq (.int .i64 t1222)], blk b1218 32 [eq (.int .i64 t1216.fKind), eq (.string t1216.fRoom), eq (.string t1216.fUser), eq (.string t1216.fEvent), eq (.string t1216.fThread), eq (.bool t1216.fPrivate), eq (.bool t1216.fOn), eq (.int .i64 t1216.fSpan), eq (.int .i64 t1216.fState), eq (.int .i64 t1216.fTick), eq (.int .i64 t1219)], blk b1215 32 [eq (.int .i64 a0.fKind), eq (.string a0.fRoom), eq (.string a0.fUser), eq (.string a0.fEvent), eq (.string a0.fThread), eq (.bool a0.fPrivate), eq (.bool true), eq (.int .i64 a0.fSpan), eq (.int .i64 a0.fState), eq (.int .i64 a0.fTick), eq (.int .i64 a0.fStamp)]] ++ F) rfl trivial cal10 rfl (typing_Table_Put.c h1229 (p0_ := g1226)) (perm_to (L := [TTab.O g1226 t1224, blk b1221 32 [eq (.int .i64 t1216.fKind), eq (.string t1216.fRoom), eq (.string t1216.fUser), eq (.string t1216.fEvent), eq (.string t1216.fThread), eq (.bool t1216.fPrivate), eq (.bool false), eq (.int .i64 0), eq (.int .i64 t1216.fState), eq (.int .i64 t1216.fTick), eq (.int .i64 t1222)], blk b1218 32 [eq (.int .i64 t1216.fKind), eq (.string t1216.fRoom), eq (.string t1216.fUser), eq (.string t1216.fEvent), eq (.string t1216.fThread), eq (.bool t1216.fPrivate), eq (.bool t1216.fOn), eq (.int .i64 t1216.fSpan), eq (.int .i64 t1216.fState), eq (.int .i64 t1216.fTick), eq (.int .i64 t1219)], blk b1215 32 [eq (.int .i64 a0.fKind), eq (.string a0.fRoom), eq (.string a0.fUser), eq (.string a0.fEvent), eq (.string a0.fThread), eq (.bool a0.fPrivate), eq (.bool true), eq (.int .i64 a0.fSpan), eq (.int .i64 a0.fState), eq (.int .i64 a0.fTick), eq (.int .i64 a0.fStamp)]]) (F := F) [0, 1, 2, 3] rfl rfl rfl) rfl nofun (fun _ _ => ?_)
  refine .fin ?_
  refine WP.seq ?_
  refine WP.reg [(0, false), (1, false), (2, true), (3, false), (4, false), (5, false), (6, false), (7, false)] (by kernel_rfl) ?_
  refine Dv.mv rfl trivial rfl ?_
  refine Dv.ldbs rfl trivial rfl Try.underlying32 rfl c32 (mem_at 1 rfl) (Nat.le_of_ble_eq_true rfl) ?_
  obtain ⟨t1230, h1231, H⟩ := Gets.call H
  refine Dv.callx (pre := [TTab.O g1226 t1228.2.2]) (F := [blk b1221 32 [eq (.int .i64 t1216.fKind), eq (.string t1216.fRoom), eq (.string t1216.fUser), eq (.string t1216.fEvent), eq (.string t1216.fThread), eq (.bool t1216.fPrivate), eq (.bool false), eq (.int .i64 0), eq (.int .i64 t1216.fState), eq (.int .i64 t1216.fTick), eq (.int .i64 t1222)], blk b1218 32 [eq (.int .i64 t1216.fKind), eq (.string t1216.fRoom), eq (.string t1216.fUser), eq (.string t1216.fEvent), eq (.string t1216.fThread), eq (.bool t1216.fPrivate), eq (.bool t1216.fOn), eq (.int .i64 t1216.fSpan), eq (.int .i64 t1216.fState), eq (.int .i64 t1216.fTick), eq (.int .i64 t1219)], blk b1215 32 [eq (.int .i64 a0.fKind), eq (.string a0.fRoom), eq (.string a0.fUser), eq (.string a0.fEvent), eq (.string a0.fThread), eq (.bool a0.fPrivate), eq (.bool true), eq (.int .i64 a0.fSpan), eq (.int .i64 a0.fState), eq (.int .i64 a0.fTick), eq (.int .i64 a0.fStamp)]] ++ F) (fun _ : Unit => [TTab.O g1226 t1230.2.2, blk b1221 32 [eq (.int .i64 t1216.fKind), eq (.string t1216.fRoom), eq (.string t1216.fUser), eq (.string t1216.fEvent), eq (.string t1216.fThread), eq (.bool t1216.fPrivate), eq (.bool false), eq (.int .i64 0), eq (.int .i64 t1216.fState), eq (.int .i64 t1216.fTick), eq (.int .i64 t1222)], blk b1218 32 [eq (.int .i64 t1216.fKind), eq (.string t1216.fRoom), eq (.string t1216.fUser), eq (.string t1216.fEvent), eq (.string t1216.fThread), eq (.bool t1216.fPrivate), eq (.bool t1216.fOn), eq (.int .i64 t1216.fSpan), eq (.int .i64 t1216.fState), eq (.int .i64 t1216.fTick), eq (.int .i64 t1219)], blk b1215 32 [eq (.int .i64 a0.fKind), eq (.string a0.fRoom), eq (.string a0.fUser), eq (.string a0.fEvent), eq (.string a0.fThread), eq (.bool a0.fPrivate), eq (.bool true), eq (.int .i64 a0.fSpan), eq (.int .i64 a0.fState), eq (.int .i64 a0.fTick), eq (.int .i64 a0.fStamp)]] ++ F) rfl trivial cal10 rfl (typing_Table_Put.c h1231 (p0_ := g1226)) (perm_to (L := [TTab.O g1226 t1228.2.2, blk b1221 32 [eq (.int .i64 t1216.fKind), eq (.string t1216.fRoom), eq (.string t1216.fUser), eq (.string t1216.fEvent), eq (.string t1216.fThread), eq (.bool t1216.fPrivate), eq (.bool false), eq (.int .i64 0), eq (.int .i64 t1216.fState), eq (.int .i64 t1216.fTick), eq (.int .i64 t1222)], blk b1218 32 [eq (.int .i64 t1216.fKind), eq (.string t1216.fRoom), eq (.string t1216.fUser), eq (.string t1216.fEvent), eq (.string t1216.fThread), eq (.bool t1216.fPrivate), eq (.bool t1216.fOn), eq (.int .i64 t1216.fSpan), eq (.int .i64 t1216.fState), eq (.int .i64 t1216.fTick), eq (.int .i64 t1219)], blk b1215 32 [eq (.int .i64 a0.fKind), eq (.string a0.fRoom), eq (.string a0.fUser), eq (.string a0.fEvent), eq (.string a0.fThread), eq (.bool a0.fPrivate), eq (.bool true), eq (.int .i64 a0.fSpan), eq (.int .i64 a0.fState), eq (.int .i64 a0.fTick), eq (.int .i64 a0.fStamp)]]) (F := F) [0, 1, 2, 3] rfl rfl rfl) rfl nofun (fun _ _ => ?_)
  refine Dv.mv rfl trivial rfl ?_
  refine Dv.ext rfl trivial rfl rfl ?_
  refine Dv.ext rfl trivial rfl rfl ?_
  refine Dv.asg rfl trivial rfl ?_
  refine Dv.asg rfl trivial rfl ?_
  refine .fin ?_
  refine WP.seq ?_
  refine WP.reg [(0, false), (1, false), (2, false), (3, false), (4, false)] (by kernel_rfl) ?_
  refine Dv.ldbs rfl trivial rfl Try.underlying32 rfl c32 (mem_at 1 rfl) (Nat.le_of_ble_eq_true rfl) ?_
  refine Dv.ldbs rfl trivial rfl Try.underlying32 rfl c32 (mem_at 2 rfl) (Nat.le_of_ble_eq_true rfl) ?_
  obtain ⟨t1232, h1233, H⟩ := Gets.call H
  refine Dv.call rfl trivial cal23 rfl (concourseref03_Compare.c h1233) ?_
  refine Dv.bin rfl trivial rfl rfl (fun _ => run_gt) ?_
  refine Dv.asg rfl trivial rfl ?_
  refine .fin ?_
  refine WP.seq ?_
  refine WP.reg [(0, false), (1, false), (2, false), (3, false), (4, false), (5, false), (6, false), (7, false)] (by kernel_rfl) ?_
  refine Dv.mv rfl trivial rfl ?_
  refine Dv.fab rfl trivial rfl Try.underlying32 rfl Try.underlying9 c9 (by decide) ?_
  refine Dv.ldb rfl trivial rfl Try.underlying9 rfl (mem_at 2 rfl) rfl ?_
  refine Dv.fab rfl trivial rfl Try.underlying32 rfl Try.underlying9 c9 (by decide) ?_
  refine Dv.ldb rfl trivial rfl Try.underlying9 rfl (mem_at 2 rfl) rfl ?_
  refine Dv.mv rfl trivial rfl ?_
  refine Dv.gh (l' := fun (g1234 : Nat × OV × OV) => [blk g1234.1 59 [eq g1234.2.1.1, eq g1234.2.2.1], own Edu.K g1234.2.1.1 t1230.2.2.fl, HHeap.O g1234.2.2 t1230.2.2.fends, blk b1221 32 [eq (.int .i64 t1216.fKind), eq (.string t1216.fRoom), eq (.string t1216.fUser), eq (.string t1216.fEvent), eq (.string t1216.fThread), eq (.bool t1216.fPrivate), eq (.bool false), eq (.int .i64 0), eq (.int .i64 t1216.fState), eq (.int .i64 t1216.fTick), eq (.int .i64 t1222)], blk b1218 32 [eq (.int .i64 t1216.fKind), eq (.string t1216.fRoom), eq (.string t1216.fUser), eq (.string t1216.fEvent), eq (.string t1216.fThread), eq (.bool t1216.fPrivate), eq (.bool t1216.fOn), eq (.int .i64 t1216.fSpan), eq (.int .i64 t1216.fState), eq (.int .i64 t1216.fTick), eq (.int .i64 t1219)], blk b1215 32 [eq (.int .i64 a0.fKind), eq (.string a0.fRoom), eq (.string a0.fUser), eq (.string a0.fEvent), eq (.string a0.fThread), eq (.bool a0.fPrivate), eq (.bool true), eq (.int .i64 a0.fSpan), eq (.int .i64 a0.fState), eq (.int .i64 a0.fTick), eq (.int .i64 a0.fStamp)]] ++ F) (gh_of (TTab.opn 0 rfl)) (fun g1234 h1235 => ?_)
  obtain ⟨t1236, h1237, H⟩ := Gets.call H
  refine Dv.calll (B := [blk g1234.1 59 [eq g1234.2.1.1, eq g1234.2.2.1], own Edu.K g1234.2.1.1 t1230.2.2.fl]) (F := [HHeap.O g1234.2.2 t1230.2.2.fends, blk b1221 32 [eq (.int .i64 t1216.fKind), eq (.string t1216.fRoom), eq (.string t1216.fUser), eq (.string t1216.fEvent), eq (.string t1216.fThread), eq (.bool t1216.fPrivate), eq (.bool false), eq (.int .i64 0), eq (.int .i64 t1216.fState), eq (.int .i64 t1216.fTick), eq (.int .i64 t1222)], blk b1218 32 [eq (.int .i64 t1216.fKind), eq (.string t1216.fRoom), eq (.string t1216.fUser), eq (.string t1216.fEvent), eq (.string t1216.fThread), eq (.bool t1216.fPrivate), eq (.bool t1216.fOn), eq (.int .i64 t1216.fSpan), eq (.int .i64 t1216.fState), eq (.int .i64 t1216.fTick), eq (.int .i64 t1219)], blk b1215 32 [eq (.int .i64 a0.fKind), eq (.string a0.fRoom), eq (.string a0.fUser), eq (.string a0.fEvent), eq (.string a0.fThread), eq (.bool a0.fPrivate), eq (.bool true), eq (.int .i64 a0.fSpan), eq (.int .i64 a0.fState), eq (.int .i64 a0.fTick), eq (.int .i64 a0.fStamp)]] ++ F) rfl trivial cal17 rfl (Tr.weak (typing_Table_Types.c h1237 (b0_ := g1234.1) (v0_0 := g1234.2.1) (v0_1 := g1234.2.2)) (.cons (wk_ptr h1235) (.cons wk_id (.cons wk_id (.cons wk_id .nil))))) (perm_to (L := [blk g1234.1 59 [eq g1234.2.1.1, eq g1234.2.2.1], own Edu.K g1234.2.1.1 t1230.2.2.fl, HHeap.O g1234.2.2 t1230.2.2.fends, blk b1221 32 [eq (.int .i64 t1216.fKind), eq (.string t1216.fRoom), eq (.string t1216.fUser), eq (.string t1216.fEvent), eq (.string t1216.fThread), eq (.bool t1216.fPrivate), eq (.bool false), eq (.int .i64 0), eq (.int .i64 t1216.fState), eq (.int .i64 t1216.fTick), eq (.int .i64 t1222)], blk b1218 32 [eq (.int .i64 t1216.fKind), eq (.string t1216.fRoom), eq (.string t1216.fUser), eq (.string t1216.fEvent), eq (.string t1216.fThread), eq (.bool t1216.fPrivate), eq (.bool t1216.fOn), eq (.int .i64 t1216.fSpan), eq (.int .i64 t1216.fState), eq (.int .i64 t1216.fTick), eq (.int .i64 t1219)], blk b1215 32 [eq (.int .i64 a0.fKind), eq (.string a0.fRoom), eq (.string a0.fUser), eq (.string a0.fEvent), eq (.string a0.fThread), eq (.bool a0.fPrivate), eq (.bool true), eq (.int .i64 a0.fSpan), eq (.int .i64 a0.fState), eq (.int .i64 a0.fTick), eq (.int .i64 a0.fStamp)]]) (F := F) [0, 1, 2, 3, 4, 5] (by kernel_rfl) rfl rfl) ?_
  refine Dv.asg rfl trivial rfl ?_
  refine .fin ?_
  refine WP.seq ?_
  refine WP.reg [(0, false), (1, true), (2, false), (3, false), (4, false), (5, false), (6, false)] (by kernel_rfl) ?_
  refine Dv.mv rfl trivial rfl ?_
  refine Dv.gh (l' := fun _ : Unit => [TTab.O g1226 t1230.2.2, blk b1221 32 [eq (.int .i64 t1216.fKind), eq (.string t1216.fRoom), eq (.string t1216.fUser), eq (.string t1216.fEvent), eq (.string t1216.fThread), eq (.bool t1216.fPrivate), eq (.bool false), eq (.int .i64 0), eq (.int .i64 t1216.fState), eq (.int .i64 t1216.fTick), eq (.int .i64 t1222)], blk b1218 32 [eq (.int .i64 t1216.fKind), eq (.string t1216.fRoom), eq (.string t1216.fUser), eq (.string t1216.fEvent), eq (.string t1216.fThread), eq (.bool t1216.fPrivate), eq (.bool t1216.fOn), eq (.int .i64 t1216.fSpan), eq (.int .i64 t1216.fState), eq (.int .i64 t1216.fTick), eq (.int .i64 t1219)], blk b1215 32 [eq (.int .i64 a0.fKind), eq (.string a0.fRoom), eq (.string a0.fUser), eq (.string a0.fEvent), eq (.string a0.fThread), eq (.bool a0.fPrivate), eq (.bool true), eq (.int .i64 a0.fSpan), eq (.int .i64 a0.fState), eq (.int .i64 a0.fTick), eq (.int .i64 a0.fStamp)]] ++ F) (gh_of (TTab.shut (p := g1226) (m := t1230.2.2) (r := [blk b1221 32 [eq (.int .i64 t1216.fKind), eq (.string t1216.fRoom), eq (.string t1216.fUser), eq (.string t1216.fEvent), eq (.string t1216.fThread), eq (.bool t1216.fPrivate), eq (.bool false), eq (.int .i64 0), eq (.int .i64 t1216.fState), eq (.int .i64 t1216.fTick), eq (.int .i64 t1222)], blk b1218 32 [eq (.int .i64 t1216.fKind), eq (.string t1216.fRoom), eq (.string t1216.fUser), eq (.string t1216.fEvent), eq (.string t1216.fThread), eq (.bool t1216.fPrivate), eq (.bool t1216.fOn), eq (.int .i64 t1216.fSpan), eq (.int .i64 t1216.fState), eq (.int .i64 t1216.fTick), eq (.int .i64 t1219)], blk b1215 32 [eq (.int .i64 a0.fKind), eq (.string a0.fRoom), eq (.string a0.fUser), eq (.string a0.fEvent), eq (.string a0.fThread), eq (.bool a0.fPrivate), eq (.bool true), eq (.int .i64 a0.fSpan), eq (.int .i64 a0.fState), eq (.int .i64 a0.fTick), eq (.int .i64 a0.fStamp)]] ++ F) (g1234.1, g1234.2.1, g1234.2.2) h1235 (perm_to (L := [blk g1234.1 59 [eq g1234.2.1.1, eq g1234.2.2.1], own Edu.K g1234.2.1.1 t1230.2.2.fl, HHeap.O g1234.2.2 t1230.2.2.fends, blk b1221 32 [eq (.int .i64 t1216.fKind), eq (.string t1216.fRoom), eq (.string t1216.fUser), eq (.string t1216.fEvent), eq (.string t1216.fThread), eq (.bool t1216.fPrivate), eq (.bool false), eq (.int .i64 0), eq (.int .i64 t1216.fState), eq (.int .i64 t1216.fTick), eq (.int .i64 t1222)], blk b1218 32 [eq (.int .i64 t1216.fKind), eq (.string t1216.fRoom), eq (.string t1216.fUser), eq (.string t1216.fEvent), eq (.string t1216.fThread), eq (.bool t1216.fPrivate), eq (.bool t1216.fOn), eq (.int .i64 t1216.fSpan), eq (.int .i64 t1216.fState), eq (.int .i64 t1216.fTick), eq (.int .i64 t1219)], blk b1215 32 [eq (.int .i64 a0.fKind), eq (.string a0.fRoom), eq (.string a0.fUser), eq (.string a0.fEvent), eq (.string a0.fThread), eq (.bool a0.fPrivate), eq (.bool true), eq (.int .i64 a0.fSpan), eq (.int .i64 a0.fState), eq (.int .i64 a0.fTick), eq (.int .i64 a0.fStamp)]]) (F := F) [0, 1, 2, 3, 4, 5] (by kernel_rfl) rfl rfl))) (fun _ _ => ?_)
  obtain ⟨t1238, h1239, H⟩ := Gets.call H
  refine Dv.callx (pre := [TTab.O g1226 t1230.2.2]) (F := [blk b1221 32 [eq (.int .i64 t1216.fKind), eq (.string t1216.fRoom), eq (.string t1216.fUser), eq (.string t1216.fEvent), eq (.string t1216.fThread), eq (.bool t1216.fPrivate), eq (.bool false), eq (.int .i64 0), eq (.int .i64 t1216.fState), eq (.int .i64 t1216.fTick), eq (.int .i64 t1222)], blk b1218 32 [eq (.int .i64 t1216.fKind), eq (.string t1216.fRoom), eq (.string t1216.fUser), eq (.string t1216.fEvent), eq (.string t1216.fThread), eq (.bool t1216.fPrivate), eq (.bool t1216.fOn), eq (.int .i64 t1216.fSpan), eq (.int .i64 t1216.fState), eq (.int .i64 t1216.fTick), eq (.int .i64 t1219)], blk b1215 32 [eq (.int .i64 a0.fKind), eq (.string a0.fRoom), eq (.string a0.fUser), eq (.string a0.fEvent), eq (.string a0.fThread), eq (.bool a0.fPrivate), eq (.bool true), eq (.int .i64 a0.fSpan), eq (.int .i64 a0.fState), eq (.int .i64 a0.fTick), eq (.int .i64 a0.fStamp)]] ++ F) (fun _ : Unit => [TTab.O g1226 t1230.2.2, blk b1221 32 [eq (.int .i64 t1216.fKind), eq (.string t1216.fRoom), eq (.string t1216.fUser), eq (.string t1216.fEvent), eq (.string t1216.fThread), eq (.bool t1216.fPrivate), eq (.bool false), eq (.int .i64 0), eq (.int .i64 t1216.fState), eq (.int .i64 t1216.fTick), eq (.int .i64 t1222)], blk b1218 32 [eq (.int .i64 t1216.fKind), eq (.string t1216.fRoom), eq (.string t1216.fUser), eq (.string t1216.fEvent), eq (.string t1216.fThread), eq (.bool t1216.fPrivate), eq (.bool t1216.fOn), eq (.int .i64 t1216.fSpan), eq (.int .i64 t1216.fState), eq (.int .i64 t1216.fTick), eq (.int .i64 t1219)], blk b1215 32 [eq (.int .i64 a0.fKind), eq (.string a0.fRoom), eq (.string a0.fUser), eq (.string a0.fEvent), eq (.string a0.fThread), eq (.bool a0.fPrivate), eq (.bool true), eq (.int .i64 a0.fSpan), eq (.int .i64 a0.fState), eq (.int .i64 a0.fTick), eq (.int .i64 a0.fStamp)]] ++ F) rfl trivial cal24 rfl (typing_Table_Next.c h1239 (p0_ := g1226)) (perm_to (L := [TTab.O g1226 t1230.2.2, blk b1221 32 [eq (.int .i64 t1216.fKind), eq (.string t1216.fRoom), eq (.string t1216.fUser), eq (.string t1216.fEvent), eq (.string t1216.fThread), eq (.bool t1216.fPrivate), eq (.bool false), eq (.int .i64 0), eq (.int .i64 t1216.fState), eq (.int .i64 t1216.fTick), eq (.int .i64 t1222)], blk b1218 32 [eq (.int .i64 t1216.fKind), eq (.string t1216.fRoom), eq (.string t1216.fUser), eq (.string t1216.fEvent), eq (.string t1216.fThread), eq (.bool t1216.fPrivate), eq (.bool t1216.fOn), eq (.int .i64 t1216.fSpan), eq (.int .i64 t1216.fState), eq (.int .i64 t1216.fTick), eq (.int .i64 t1219)], blk b1215 32 [eq (.int .i64 a0.fKind), eq (.string a0.fRoom), eq (.string a0.fUser), eq (.string a0.fEvent), eq (.string a0.fThread), eq (.bool a0.fPrivate), eq (.bool true), eq (.int .i64 a0.fSpan), eq (.int .i64 a0.fState), eq (.int .i64 a0.fTick), eq (.int .i64 a0.fStamp)]]) (F := F) [0, 1, 2, 3] rfl rfl rfl) rfl nofun (fun _ _ => ?_)
  refine Dv.mv rfl trivial rfl ?_
  refine Dv.ext rfl trivial rfl rfl ?_
  refine Dv.ext rfl trivial rfl rfl ?_
  refine Dv.asg rfl trivial rfl ?_
  refine Dv.asg rfl trivial rfl ?_
  refine .fin ?_
  refine WP.seq ?_
  refine WP.reg [(0, false), (1, false), (2, false), (3, false), (4, false), (5, false), (6, false), (7, false), (8, false), (9, false), (10, false), (11, false), (12, false), (13, false), (14, false), (15, false), (16, false), (17, false), (18, false), (19, false), (20, false), (21, false), (22, false), (23, false), (24, false), (25, false), (26, false), (27, false), (28, false), (29, false), (30, true), (31, false), (32, false), (33, false), (34, false), (35, false), (36, false), (37, false)] (by kernel_rfl) ?_
  refine Dv.mv rfl trivial rfl ?_
  refine Dv.bin rfl trivial rfl rfl (fun _ => run_eq) ?_
  refine Dv.mv rfl trivial rfl ?_
  cases c1240 : (t1230.2.1 == 0)
  · replace H := Gets.cf H c1240
    refine Dv.skip rfl ⟨_, _, rfl, rfl, .inl rfl⟩ ?_
    refine Dv.skip rfl ⟨_, _, rfl, rfl, .inl rfl⟩ ?_
    refine Dv.skip rfl ⟨_, _, rfl, rfl, .inl rfl⟩ ?_
    refine Dv.pickF rfl trivial rfl rfl ?_
    refine Dv.mv rfl trivial rfl ?_
    refine Dv.skip rfl ⟨_, _, rfl, rfl, .inl rfl⟩ ?_
    refine Dv.skip rfl ⟨_, _, rfl, rfl, .inl rfl⟩ ?_
    refine Dv.skip rfl ⟨_, _, rfl, rfl, .inl rfl⟩ ?_
    refine Dv.skip rfl ⟨_, _, rfl, rfl, .inl rfl⟩ ?_
    refine Dv.skip rfl ⟨_, _, rfl, rfl, .inr rfl⟩ ?_
    refine Dv.skip rfl ⟨_, _, rfl, rfl, .inr rfl⟩ ?_
    refine Dv.skip rfl ⟨_, _, rfl, rfl, .inr rfl⟩ ?_
    refine Dv.skip rfl ⟨_, _, rfl, rfl, .inr rfl⟩ ?_
    refine Dv.skip rfl ⟨_, _, rfl, rfl, .inr rfl⟩ ?_
    refine Dv.skip rfl ⟨_, _, rfl, rfl, .inr rfl⟩ ?_
    refine Dv.skip rfl ⟨_, _, rfl, rfl, .inr rfl⟩ ?_
    refine Dv.skip rfl ⟨_, _, rfl, rfl, .inl rfl⟩ ?_
    refine Dv.skip rfl ⟨_, _, rfl, rfl, .inl rfl⟩ ?_
    refine Dv.pickF rfl trivial rfl rfl ?_
    refine Dv.mv rfl trivial rfl ?_
    refine Dv.skip rfl ⟨_, _, rfl, rfl, .inl rfl⟩ ?_
    refine Dv.skip rfl ⟨_, _, rfl, rfl, .inl rfl⟩ ?_
    refine Dv.skip rfl ⟨_, _, rfl, rfl, .inl rfl⟩ ?_
    refine Dv.skip rfl ⟨_, _, rfl, rfl, .inl rfl⟩ ?_
    refine Dv.pickF rfl trivial rfl rfl ?_
    refine Dv.mv rfl trivial rfl ?_
    refine Dv.skip rfl ⟨_, _, rfl, rfl, .inl rfl⟩ ?_
    refine Dv.skipb rfl ⟨_, _, rfl, rfl, .inl rfl⟩ nofun ?_
    refine Dv.skip rfl ⟨_, _, rfl, rfl, .inl rfl⟩ ?_
    refine Dv.skip rfl ⟨_, _, rfl, rfl, .inl rfl⟩ ?_
    refine Dv.pickF rfl trivial rfl rfl ?_
    refine Dv.mv rfl trivial rfl ?_
    refine Dv.skip rfl ⟨_, _, rfl, rfl, .inl rfl⟩ ?_
    refine Dv.pickF rfl trivial rfl rfl ?_
    refine Dv.asg rfl trivial rfl ?_
    refine .fin ?_
    obtain rfl := Gets.out H
    exact WP.retL (fun _ _ h => h) rfl () trivial (.cons (res_tmp rfl) .nil) rfl (st_sel (L := [TTab.O g1226 t1230.2.2, blk b1221 32 [eq (.int .i64 t1216.fKind), eq (.string t1216.fRoom), eq (.string t1216.fUser), eq (.string t1216.fEvent), eq (.string t1216.fThread), eq (.bool t1216.fPrivate), eq (.bool false), eq (.int .i64 0), eq (.int .i64 t1216.fState), eq (.int .i64 t1216.fTick), eq (.int .i64 t1222)], blk b1218 32 [eq (.int .i64 t1216.fKind), eq (.string t1216.fRoom), eq (.string t1216.fUser), eq (.string t1216.fEvent), eq (.string t1216.fThread), eq (.bool t1216.fPrivate), eq (.bool t1216.fOn), eq (.int .i64 t1216.fSpan), eq (.int .i64 t1216.fState), eq (.int .i64 t1216.fTick), eq (.int .i64 t1219)], blk b1215 32 [eq (.int .i64 a0.fKind), eq (.string a0.fRoom), eq (.string a0.fUser), eq (.string a0.fEvent), eq (.string a0.fThread), eq (.bool a0.fPrivate), eq (.bool true), eq (.int .i64 a0.fSpan), eq (.int .i64 a0.fState), eq (.int .i64 a0.fTick), eq (.int .i64 a0.fStamp)]]) (F := F) [0, 1, 2, 3] 4 rfl rfl rfl)
  · replace H := Gets.ct H c1240
    refine Dv.mv rfl ⟨_, _, rfl, rfl, rfl⟩ rfl ?_
    refine Dv.mv rfl ⟨_, _, rfl, rfl, rfl⟩ rfl ?_
    refine Dv.bin rfl ⟨_, _, rfl, rfl, rfl⟩ rfl rfl (fun _ => run_beq Try.underlying4) ?_
    refine Dv.pickT rfl trivial rfl rfl ?_
    refine Dv.mv rfl trivial rfl ?_
    cases c1241 : (t1230.1 == (decide (0 < t1232)))
    · replace H := Gets.cf H c1241
      refine Dv.skip rfl ⟨_, _, rfl, rfl, .inl rfl⟩ ?_
      refine Dv.skip rfl ⟨_, _, rfl, rfl, .inl rfl⟩ ?_
      refine Dv.skip rfl ⟨_, _, rfl, rfl, .inl rfl⟩ ?_
      refine Dv.skip rfl ⟨_, _, rfl, rfl, .inl rfl⟩ ?_
      refine Dv.skip rfl ⟨_, _, rfl, rfl, .inr rfl⟩ ?_
      refine Dv.skip rfl ⟨_, _, rfl, rfl, .inr rfl⟩ ?_
      refine Dv.skip rfl ⟨_, _, rfl, rfl, .inr rfl⟩ ?_
      refine Dv.skip rfl ⟨_, _, rfl, rfl, .inr rfl⟩ ?_
      refine Dv.skip rfl ⟨_, _, rfl, rfl, .inr rfl⟩ ?_
      refine Dv.skip rfl ⟨_, _, rfl, rfl, .inr rfl⟩ ?_
      refine Dv.skip rfl ⟨_, _, rfl, rfl, .inr rfl⟩ ?_
      refine Dv.skip rfl ⟨_, _, rfl, rfl, .inl rfl⟩ ?_
      refine Dv.skip rfl ⟨_, _, rfl, rfl, .inl rfl⟩ ?_
      refine Dv.pickF rfl trivial rfl rfl ?_
      refine Dv.mv rfl trivial rfl ?_
      refine Dv.skip rfl ⟨_, _, rfl, rfl, .inl rfl⟩ ?_
      refine Dv.skip rfl ⟨_, _, rfl, rfl, .inl rfl⟩ ?_
      refine Dv.skip rfl ⟨_, _, rfl, rfl, .inl rfl⟩ ?_
      refine Dv.skip rfl ⟨_, _, rfl, rfl, .inl rfl⟩ ?_
      refine Dv.pickF rfl trivial rfl rfl ?_
      refine Dv.mv rfl trivial rfl ?_
      refine Dv.skip rfl ⟨_, _, rfl, rfl, .inl rfl⟩ ?_
      refine Dv.skipb rfl ⟨_, _, rfl, rfl, .inl rfl⟩ nofun ?_
      refine Dv.skip rfl ⟨_, _, rfl, rfl, .inl rfl⟩ ?_
      refine Dv.skip rfl ⟨_, _, rfl, rfl, .inl rfl⟩ ?_
      refine Dv.pickF rfl trivial rfl rfl ?_
      refine Dv.mv rfl trivial rfl ?_
      refine Dv.skip rfl ⟨_, _, rfl, rfl, .inl rfl⟩ ?_
      refine Dv.pickF rfl trivial rfl rfl ?_
      refine Dv.asg rfl trivial rfl ?_
      refine .fin ?_
      obtain rfl := Gets.out H
      exact WP.retL (fun _ _ h => h) rfl () trivial (.cons (res_tmp rfl) .nil) rfl (st_sel (L := [TTab.O g1226 t1230.2.2, blk b1221 32 [eq (.int .i64 t1216.fKind), eq (.string t1216.fRoom), eq (.string t1216.fUser), eq (.string t1216.fEvent), eq (.string t1216.fThread), eq (.bool t1216.fPrivate), eq (.bool false), eq (.int .i64 0), eq (.int .i64 t1216.fState), eq (.int .i64 t1216.fTick), eq (.int .i64 t1222)], blk b1218 32 [eq (.int .i64 t1216.fKind), eq (.string t1216.fRoom), eq (.string t1216.fUser), eq (.string t1216.fEvent), eq (.string t1216.fThread), eq (.bool t1216.fPrivate), eq (.bool t1216.fOn), eq (.int .i64 t1216.fSpan), eq (.int .i64 t1216.fState), eq (.int .i64 t1216.fTick), eq (.int .i64 t1219)], blk b1215 32 [eq (.int .i64 a0.fKind), eq (.string a0.fRoom), eq (.string a0.fUser), eq (.string a0.fEvent), eq (.string a0.fThread), eq (.bool a0.fPrivate), eq (.bool true), eq (.int .i64 a0.fSpan), eq (.int .i64 a0.fState), eq (.int .i64 a0.fTick), eq (.int .i64 a0.fStamp)]]) (F := F) [0, 1, 2, 3] 4 rfl rfl rfl)
    · replace H := Gets.ct H c1241
      refine Dv.mv rfl ⟨_, _, rfl, rfl, rfl⟩ rfl ?_
      refine Dv.mv rfl ⟨_, _, rfl, rfl, rfl⟩ rfl ?_
      refine Dv.un rfl ⟨_, _, rfl, rfl, rfl⟩ rfl (fun _ => run_not _) ?_
      refine Dv.mv rfl ⟨_, _, rfl, rfl, rfl⟩ rfl ?_
      cases c1242 : !(decide (0 < t1232))
      · replace H := Gets.cf H c1242
        refine Dv.skip rfl ⟨_, _, rfl, rfl, .inl rfl⟩ ?_
        refine Dv.skip rfl ⟨_, _, rfl, rfl, .inl rfl⟩ ?_
        refine Dv.skip rfl ⟨_, _, rfl, rfl, .inl rfl⟩ ?_
        refine Dv.skip rfl ⟨_, _, rfl, rfl, .inl rfl⟩ ?_
        refine Dv.skip rfl ⟨_, _, rfl, rfl, .inl rfl⟩ ?_
        refine Dv.skip rfl ⟨_, _, rfl, rfl, .inl rfl⟩ ?_
        refine Dv.skip rfl ⟨_, _, rfl, rfl, .inl rfl⟩ ?_
        refine Dv.pickF rfl ⟨_, _, rfl, rfl, rfl⟩ rfl rfl ?_
        refine Dv.bin rfl ⟨_, _, rfl, rfl, rfl⟩ rfl rfl (fun _ => run_beq Try.underlying4) ?_
        refine Dv.pickT rfl trivial rfl rfl ?_
        refine Dv.mv rfl trivial rfl ?_
        cases c1253 : (t1236 == false)
        · replace H := Gets.cf H c1253
          refine Dv.skip rfl ⟨_, _, rfl, rfl, .inl rfl⟩ ?_
          refine Dv.skip rfl ⟨_, _, rfl, rfl, .inl rfl⟩ ?_
          refine Dv.skip rfl ⟨_, _, rfl, rfl, .inl rfl⟩ ?_
          refine Dv.skip rfl ⟨_, _, rfl, rfl, .inl rfl⟩ ?_
          refine Dv.pickF rfl trivial rfl rfl ?_
          refine Dv.mv rfl trivial rfl ?_
          refine Dv.skip rfl ⟨_, _, rfl, rfl, .inl rfl⟩ ?_
          refine Dv.skipb rfl ⟨_, _, rfl, rfl, .inl rfl⟩ nofun ?_
          refine Dv.skip rfl ⟨_, _, rfl, rfl, .inl rfl⟩ ?_
          refine Dv.skip rfl ⟨_, _, rfl, rfl, .inl rfl⟩ ?_
          refine Dv.pickF rfl trivial rfl rfl ?_
          refine Dv.mv rfl trivial rfl ?_
          refine Dv.skip rfl ⟨_, _, rfl, rfl, .inl rfl⟩ ?_
          refine Dv.pickF rfl trivial rfl rfl ?_
          refine Dv.asg rfl trivial rfl ?_
          refine .fin ?_
          obtain rfl := Gets.out H
          exact WP.retL (fun _ _ h => h) rfl () trivial (.cons (res_tmp rfl) .nil) rfl (st_sel (L := [TTab.O g1226 t1230.2.2, blk b1221 32 [eq (.int .i64 t1216.fKind), eq (.string t1216.fRoom), eq (.string t1216.fUser), eq (.string t1216.fEvent), eq (.string t1216.fThread), eq (.bool t1216.fPrivate), eq (.bool false), eq (.int .i64 0), eq (.int .i64 t1216.fState), eq (.int .i64 t1216.fTick), eq (.int .i64 t1222)], blk b1218 32 [eq (.int .i64 t1216.fKind), eq (.string t1216.fRoom), eq (.string t1216.fUser), eq (.string t1216.fEvent), eq (.string t1216.fThread), eq (.bool t1216.fPrivate), eq (.bool t1216.fOn), eq (.int .i64 t1216.fSpan), eq (.int .i64 t1216.fState), eq (.int .i64 t1216.fTick), eq (.int .i64 t1219)], blk b1215 32 [eq (.int .i64 a0.fKind), eq (.string a0.fRoom), eq (.string a0.fUser), eq (.string a0.fEvent), eq (.string a0.fThread), eq (.bool a0.fPrivate), eq (.bool true), eq (.int .i64 a0.fSpan), eq (.int .i64 a0.fState), eq (.int .i64 a0.fTick), eq (.int .i64 a0.fStamp)]]) (F := F) [0, 1, 2, 3] 4 rfl rfl rfl)
        · replace H := Gets.ct H c1253
          refine Dv.mv rfl ⟨_, _, rfl, rfl, rfl⟩ rfl ?_
          refine Dv.mv rfl ⟨_, _, rfl, rfl, rfl⟩ rfl ?_
          refine Dv.un rfl ⟨_, _, rfl, rfl, rfl⟩ rfl (fun _ => run_not _) ?_
          refine Dv.bin rfl ⟨_, _, rfl, rfl, rfl⟩ rfl rfl (fun _ => run_beq Try.underlying4) ?_
          refine Dv.pickT rfl trivial rfl rfl ?_
          refine Dv.mv rfl trivial rfl ?_
          cases c1254 : (t1238.2 == (!(decide (0 < t1232))))
          · replace H := Gets.cf H c1254
            refine Dv.skip rfl ⟨_, _, rfl, rfl, .inl rfl⟩ ?_
            refine Dv.skipb rfl ⟨_, _, rfl, rfl, .inl rfl⟩ nofun ?_
            refine Dv.skip rfl ⟨_, _, rfl, rfl, .inl rfl⟩ ?_
            refine Dv.skip rfl ⟨_, _, rfl, rfl, .inl rfl⟩ ?_
            refine Dv.pickF rfl trivial rfl rfl ?_
            refine Dv.mv rfl trivial rfl ?_
            refine Dv.skip rfl ⟨_, _, rfl, rfl, .inl rfl⟩ ?_
            refine Dv.pickF rfl trivial rfl rfl ?_
            refine Dv.asg rfl trivial rfl ?_
            refine .fin ?_
            obtain rfl := Gets.out H
            exact WP.retL (fun _ _ h => h) rfl () trivial (.cons (res_tmp rfl) .nil) rfl (st_sel (L := [TTab.O g1226 t1230.2.2, blk b1221 32 [eq (.int .i64 t1216.fKind), eq (.string t1216.fRoom), eq (.string t1216.fUser), eq (.string t1216.fEvent), eq (.string t1216.fThread), eq (.bool t1216.fPrivate), eq (.bool false), eq (.int .i64 0), eq (.int .i64 t1216.fState), eq (.int .i64 t1216.fTick), eq (.int .i64 t1222)], blk b1218 32 [eq (.int .i64 t1216.fKind), eq (.string t1216.fRoom), eq (.string t1216.fUser), eq (.string t1216.fEvent), eq (.string t1216.fThread), eq (.bool t1216.fPrivate), eq (.bool t1216.fOn), eq (.int .i64 t1216.fSpan), eq (.int .i64 t1216.fState), eq (.int .i64 t1216.fTick), eq (.int .i64 t1219)], blk b1215 32 [eq (.int .i64 a0.fKind), eq (.string a0.fRoom), eq (.string a0.fUser), eq (.string a0.fEvent), eq (.string a0.fThread), eq (.bool a0.fPrivate), eq (.bool true), eq (.int .i64 a0.fSpan), eq (.int .i64 a0.fState), eq (.int .i64 a0.fTick), eq (.int .i64 a0.fStamp)]]) (F := F) [0, 1, 2, 3] 4 rfl rfl rfl)
          · replace H := Gets.ct H c1254
            refine Dv.mv rfl ⟨_, _, rfl, rfl, rfl⟩ rfl ?_
            refine Dv.gh (l' := fun (g1255 : Nat × OV × OV) => [blk g1255.1 59 [eq g1255.2.1.1, eq g1255.2.2.1], own Edu.K g1255.2.1.1 t1230.2.2.fl, HHeap.O g1255.2.2 t1230.2.2.fends, blk b1221 32 [eq (.int .i64 t1216.fKind), eq (.string t1216.fRoom), eq (.string t1216.fUser), eq (.string t1216.fEvent), eq (.string t1216.fThread), eq (.bool t1216.fPrivate), eq (.bool false), eq (.int .i64 0), eq (.int .i64 t1216.fState), eq (.int .i64 t1216.fTick), eq (.int .i64 t1222)], blk b1218 32 [eq (.int .i64 t1216.fKind), eq (.string t1216.fRoom), eq (.string t1216.fUser), eq (.string t1216.fEvent), eq (.string t1216.fThread), eq (.bool t1216.fPrivate), eq (.bool t1216.fOn), eq (.int .i64 t1216.fSpan), eq (.int .i64 t1216.fState), eq (.int .i64 t1216.fTick), eq (.int .i64 t1219)], blk b1215 32 [eq (.int .i64 a0.fKind), eq (.string a0.fRoom), eq (.string a0.fUser), eq (.string a0.fEvent), eq (.string a0.fThread), eq (.bool a0.fPrivate), eq (.bool true), eq (.int .i64 a0.fSpan), eq (.int .i64 a0.fState), eq (.int .i64 a0.fTick), eq (.int .i64 a0.fStamp)]] ++ F) (gh_of (TTab.opn 0 rfl)) (fun g1255 h1256 => ?_)
            obtain ⟨t1257, h1258, H⟩ := Gets.call H
            refine Dv.callx (pre := [blk g1255.1 59 [eq g1255.2.1.1, eq g1255.2.2.1], own Edu.K g1255.2.1.1 t1230.2.2.fl]) (F := [HHeap.O g1255.2.2 t1230.2.2.fends, blk b1221 32 [eq (.int .i64 t1216.fKind), eq (.string t1216.fRoom), eq (.string t1216.fUser), eq (.string t1216.fEvent), eq (.string t1216.fThread), eq (.bool t1216.fPrivate), eq (.bool false), eq (.int .i64 0), eq (.int .i64 t1216.fState), eq (.int .i64 t1216.fTick), eq (.int .i64 t1222)], blk b1218 32 [eq (.int .i64 t1216.fKind), eq (.string t1216.fRoom), eq (.string t1216.fUser), eq (.string t1216.fEvent), eq (.string t1216.fThread), eq (.bool t1216.fPrivate), eq (.bool t1216.fOn), eq (.int .i64 t1216.fSpan), eq (.int .i64 t1216.fState), eq (.int .i64 t1216.fTick), eq (.int .i64 t1219)], blk b1215 32 [eq (.int .i64 a0.fKind), eq (.string a0.fRoom), eq (.string a0.fUser), eq (.string a0.fEvent), eq (.string a0.fThread), eq (.bool a0.fPrivate), eq (.bool true), eq (.int .i64 a0.fSpan), eq (.int .i64 a0.fState), eq (.int .i64 a0.fTick), eq (.int .i64 a0.fStamp)]] ++ F) (fun g1259 : OV => [blk g1255.1 59 [eq g1255.2.1.1, eq g1255.2.2.1], own Edu.K g1255.2.1.1 t1230.2.2.fl, own Edu.K g1259.1 t1257, HHeap.O g1255.2.2 t1230.2.2.fends, blk b1221 32 [eq (.int .i64 t1216.fKind), eq (.string t1216.fRoom), eq (.string t1216.fUser), eq (.string t1216.fEvent), eq (.string t1216.fThread), eq (.bool t1216.fPrivate), eq (.bool false), eq (.int .i64 0), eq (.int .i64 t1216.fState), eq (.int .i64 t1216.fTick), eq (.int .i64 t1222)], blk b1218 32 [eq (.int .i64 t1216.fKind), eq (.string t1216.fRoom), eq (.string t1216.fUser), eq (.string t1216.fEvent), eq (.string t1216.fThread), eq (.bool t1216.fPrivate), eq (.bool t1216.fOn), eq (.int .i64 t1216.fSpan), eq (.int .i64 t1216.fState), eq (.int .i64 t1216.fTick), eq (.int .i64 t1219)], blk b1215 32 [eq (.int .i64 a0.fKind), eq (.string a0.fRoom), eq (.string a0.fUser), eq (.string a0.fEvent), eq (.string a0.fThread), eq (.bool a0.fPrivate), eq (.bool true), eq (.int .i64 a0.fSpan), eq (.int .i64 a0.fState), eq (.int .i64 a0.fTick), eq (.int .i64 a0.fStamp)]] ++ F) rfl ⟨_, _, rfl, rfl, rfl⟩ cal21 rfl (Tr.weak (typing_Table_All.c h1258 (b0_ := g1255.1) (v0_0 := g1255.2.1) (v0_1 := g1255.2.2)) (.cons (wk_ptr h1256) .nil)) (perm_to (L := [blk g1255.1 59 [eq g1255.2.1.1, eq g1255.2.2.1], own Edu.K g1255.2.1.1 t1230.2.2.fl, HHeap.O g1255.2.2 t1230.2.2.fends, blk b1221 32 [eq (.int .i64 t1216.fKind), eq (.string t1216.fRoom), eq (.string t1216.fUser), eq (.string t1216.fEvent), eq (.string t1216.fThread), eq (.bool t1216.fPrivate), eq (.bool false), eq (.int .i64 0), eq (.int .i64 t1216.fState), eq (.int .i64 t1216.fTick), eq (.int .i64 t1222)], blk b1218 32 [eq (.int .i64 t1216.fKind), eq (.string t1216.fRoom), eq (.string t1216.fUser), eq (.string t1216.fEvent), eq (.string t1216.fThread), eq (.bool t1216.fPrivate), eq (.bool t1216.fOn), eq (.int .i64 t1216.fSpan), eq (.int .i64 t1216.fState), eq (.int .i64 t1216.fTick), eq (.int .i64 t1219)], blk b1215 32 [eq (.int .i64 a0.fKind), eq (.string a0.fRoom), eq (.string a0.fUser), eq (.string a0.fEvent), eq (.string a0.fThread), eq (.bool a0.fPrivate), eq (.bool true), eq (.int .i64 a0.fSpan), eq (.int .i64 a0.fState), eq (.int .i64 a0.fTick), eq (.int .i64 a0.fStamp)]]) (F := F) [0, 1, 2, 3, 4, 5] (by kernel_rfl) rfl rfl) rfl nofun (fun g1259 _ => ?_)
            refine Dv.lenw rfl ⟨_, _, rfl, rfl, rfl⟩ rfl (mem_at 2 rfl) Try.underlying22 ?_
            refine Dv.bin rfl ⟨_, _, rfl, rfl, rfl⟩ rfl rfl (fun _ => run_eq) ?_
            refine Dv.pickT rfl trivial rfl rfl ?_
            refine Dv.mv rfl trivial rfl ?_
            cases c1260 : ((t1257.length : Int) == 1)
            · replace H := Gets.cf H c1260
              refine Dv.skip rfl ⟨_, _, rfl, rfl, .inl rfl⟩ ?_
              refine Dv.pickF rfl trivial rfl rfl ?_
              refine Dv.asg rfl trivial rfl ?_
              refine .fin ?_
              refine WP.gh (l' := fun _ : Unit => [TTab.O g1226 t1230.2.2, own Edu.K g1259.1 t1257, blk b1221 32 [eq (.int .i64 t1216.fKind), eq (.string t1216.fRoom), eq (.string t1216.fUser), eq (.string t1216.fEvent), eq (.string t1216.fThread), eq (.bool t1216.fPrivate), eq (.bool false), eq (.int .i64 0), eq (.int .i64 t1216.fState), eq (.int .i64 t1216.fTick), eq (.int .i64 t1222)], blk b1218 32 [eq (.int .i64 t1216.fKind), eq (.string t1216.fRoom), eq (.string t1216.fUser), eq (.string t1216.fEvent), eq (.string t1216.fThread), eq (.bool t1216.fPrivate), eq (.bool t1216.fOn), eq (.int .i64 t1216.fSpan), eq (.int .i64 t1216.fState), eq (.int .i64 t1216.fTick), eq (.int .i64 t1219)], blk b1215 32 [eq (.int .i64 a0.fKind), eq (.string a0.fRoom), eq (.string a0.fUser), eq (.string a0.fEvent), eq (.string a0.fThread), eq (.bool a0.fPrivate), eq (.bool true), eq (.int .i64 a0.fSpan), eq (.int .i64 a0.fState), eq (.int .i64 a0.fTick), eq (.int .i64 a0.fStamp)]] ++ F) (gh_of (TTab.shut (p := g1226) (m := t1230.2.2) (r := [own Edu.K g1259.1 t1257, blk b1221 32 [eq (.int .i64 t1216.fKind), eq (.string t1216.fRoom), eq (.string t1216.fUser), eq (.string t1216.fEvent), eq (.string t1216.fThread), eq (.bool t1216.fPrivate), eq (.bool false), eq (.int .i64 0), eq (.int .i64 t1216.fState), eq (.int .i64 t1216.fTick), eq (.int .i64 t1222)], blk b1218 32 [eq (.int .i64 t1216.fKind), eq (.string t1216.fRoom), eq (.string t1216.fUser), eq (.string t1216.fEvent), eq (.string t1216.fThread), eq (.bool t1216.fPrivate), eq (.bool t1216.fOn), eq (.int .i64 t1216.fSpan), eq (.int .i64 t1216.fState), eq (.int .i64 t1216.fTick), eq (.int .i64 t1219)], blk b1215 32 [eq (.int .i64 a0.fKind), eq (.string a0.fRoom), eq (.string a0.fUser), eq (.string a0.fEvent), eq (.string a0.fThread), eq (.bool a0.fPrivate), eq (.bool true), eq (.int .i64 a0.fSpan), eq (.int .i64 a0.fState), eq (.int .i64 a0.fTick), eq (.int .i64 a0.fStamp)]] ++ F) (g1255.1, g1255.2.1, g1255.2.2) h1256 (perm_to (L := [blk g1255.1 59 [eq g1255.2.1.1, eq g1255.2.2.1], own Edu.K g1255.2.1.1 t1230.2.2.fl, own Edu.K g1259.1 t1257, HHeap.O g1255.2.2 t1230.2.2.fends, blk b1221 32 [eq (.int .i64 t1216.fKind), eq (.string t1216.fRoom), eq (.string t1216.fUser), eq (.string t1216.fEvent), eq (.string t1216.fThread), eq (.bool t1216.fPrivate), eq (.bool false), eq (.int .i64 0), eq (.int .i64 t1216.fState), eq (.int .i64 t1216.fTick), eq (.int .i64 t1222)], blk b1218 32 [eq (.int .i64 t1216.fKind), eq (.string t1216.fRoom), eq (.string t1216.fUser), eq (.string t1216.fEvent), eq (.string t1216.fThread), eq (.bool t1216.fPrivate), eq (.bool t1216.fOn), eq (.int .i64 t1216.fSpan), eq (.int .i64 t1216.fState), eq (.int .i64 t1216.fTick), eq (.int .i64 t1219)], blk b1215 32 [eq (.int .i64 a0.fKind), eq (.string a0.fRoom), eq (.string a0.fUser), eq (.string a0.fEvent), eq (.string a0.fThread), eq (.bool a0.fPrivate), eq (.bool true), eq (.int .i64 a0.fSpan), eq (.int .i64 a0.fState), eq (.int .i64 a0.fTick), eq (.int .i64 a0.fStamp)]]) (F := F) [0, 1, 3, 2, 4, 5, 6] (by kernel_rfl) rfl rfl))) (fun _ _ => ?_)
              obtain rfl := Gets.out H
              exact WP.retL (fun _ _ h => h) rfl () trivial (.cons (res_tmp rfl) .nil) rfl (st_sel (L := [TTab.O g1226 t1230.2.2, own Edu.K g1259.1 t1257, blk b1221 32 [eq (.int .i64 t1216.fKind), eq (.string t1216.fRoom), eq (.string t1216.fUser), eq (.string t1216.fEvent), eq (.string t1216.fThread), eq (.bool t1216.fPrivate), eq (.bool false), eq (.int .i64 0), eq (.int .i64 t1216.fState), eq (.int .i64 t1216.fTick), eq (.int .i64 t1222)], blk b1218 32 [eq (.int .i64 t1216.fKind), eq (.string t1216.fRoom), eq (.string t1216.fUser), eq (.string t1216.fEvent), eq (.string t1216.fThread), eq (.bool t1216.fPrivate), eq (.bool t1216.fOn), eq (.int .i64 t1216.fSpan), eq (.int .i64 t1216.fState), eq (.int .i64 t1216.fTick), eq (.int .i64 t1219)], blk b1215 32 [eq (.int .i64 a0.fKind), eq (.string a0.fRoom), eq (.string a0.fUser), eq (.string a0.fEvent), eq (.string a0.fThread), eq (.bool a0.fPrivate), eq (.bool true), eq (.int .i64 a0.fSpan), eq (.int .i64 a0.fState), eq (.int .i64 a0.fTick), eq (.int .i64 a0.fStamp)]]) (F := F) [0, 1, 2, 3, 4] 5 (by kernel_rfl) rfl rfl)
            · replace H := Gets.ct H c1260
              obtain ⟨t1261, h1262, H⟩ := Gets.call H
              refine Dv.call rfl ⟨_, _, rfl, rfl, rfl⟩ cal20 rfl (concourselaw14_lives.c h1262) ?_
              refine Dv.pickT rfl trivial rfl rfl ?_
              refine Dv.asg rfl trivial rfl ?_
              refine .fin ?_
              refine WP.gh (l' := fun _ : Unit => [TTab.O g1226 t1230.2.2, own Edu.K g1259.1 t1257, blk b1221 32 [eq (.int .i64 t1216.fKind), eq (.string t1216.fRoom), eq (.string t1216.fUser), eq (.string t1216.fEvent), eq (.string t1216.fThread), eq (.bool t1216.fPrivate), eq (.bool false), eq (.int .i64 0), eq (.int .i64 t1216.fState), eq (.int .i64 t1216.fTick), eq (.int .i64 t1222)], blk b1218 32 [eq (.int .i64 t1216.fKind), eq (.string t1216.fRoom), eq (.string t1216.fUser), eq (.string t1216.fEvent), eq (.string t1216.fThread), eq (.bool t1216.fPrivate), eq (.bool t1216.fOn), eq (.int .i64 t1216.fSpan), eq (.int .i64 t1216.fState), eq (.int .i64 t1216.fTick), eq (.int .i64 t1219)], blk b1215 32 [eq (.int .i64 a0.fKind), eq (.string a0.fRoom), eq (.string a0.fUser), eq (.string a0.fEvent), eq (.string a0.fThread), eq (.bool a0.fPrivate), eq (.bool true), eq (.int .i64 a0.fSpan), eq (.int .i64 a0.fState), eq (.int .i64 a0.fTick), eq (.int .i64 a0.fStamp)]] ++ F) (gh_of (TTab.shut (p := g1226) (m := t1230.2.2) (r := [own Edu.K g1259.1 t1257, blk b1221 32 [eq (.int .i64 t1216.fKind), eq (.string t1216.fRoom), eq (.string t1216.fUser), eq (.string t1216.fEvent), eq (.string t1216.fThread), eq (.bool t1216.fPrivate), eq (.bool false), eq (.int .i64 0), eq (.int .i64 t1216.fState), eq (.int .i64 t1216.fTick), eq (.int .i64 t1222)], blk b1218 32 [eq (.int .i64 t1216.fKind), eq (.string t1216.fRoom), eq (.string t1216.fUser), eq (.string t1216.fEvent), eq (.string t1216.fThread), eq (.bool t1216.fPrivate), eq (.bool t1216.fOn), eq (.int .i64 t1216.fSpan), eq (.int .i64 t1216.fState), eq (.int .i64 t1216.fTick), eq (.int .i64 t1219)], blk b1215 32 [eq (.int .i64 a0.fKind), eq (.string a0.fRoom), eq (.string a0.fUser), eq (.string a0.fEvent), eq (.string a0.fThread), eq (.bool a0.fPrivate), eq (.bool true), eq (.int .i64 a0.fSpan), eq (.int .i64 a0.fState), eq (.int .i64 a0.fTick), eq (.int .i64 a0.fStamp)]] ++ F) (g1255.1, g1255.2.1, g1255.2.2) h1256 (perm_to (L := [blk g1255.1 59 [eq g1255.2.1.1, eq g1255.2.2.1], own Edu.K g1255.2.1.1 t1230.2.2.fl, own Edu.K g1259.1 t1257, HHeap.O g1255.2.2 t1230.2.2.fends, blk b1221 32 [eq (.int .i64 t1216.fKind), eq (.string t1216.fRoom), eq (.string t1216.fUser), eq (.string t1216.fEvent), eq (.string t1216.fThread), eq (.bool t1216.fPrivate), eq (.bool false), eq (.int .i64 0), eq (.int .i64 t1216.fState), eq (.int .i64 t1216.fTick), eq (.int .i64 t1222)], blk b1218 32 [eq (.int .i64 t1216.fKind), eq (.string t1216.fRoom), eq (.string t1216.fUser), eq (.string t1216.fEvent), eq (.string t1216.fThread), eq (.bool t1216.fPrivate), eq (.bool t1216.fOn), eq (.int .i64 t1216.fSpan), eq (.int .i64 t1216.fState), eq (.int .i64 t1216.fTick), eq (.int .i64 t1219)], blk b1215 32 [eq (.int .i64 a0.fKind), eq (.string a0.fRoom), eq (.string a0.fUser), eq (.string a0.fEvent), eq (.string a0.fThread), eq (.bool a0.fPrivate), eq (.bool true), eq (.int .i64 a0.fSpan), eq (.int .i64 a0.fState), eq (.int .i64 a0.fTick), eq (.int .i64 a0.fStamp)]]) (F := F) [0, 1, 3, 2, 4, 5, 6] (by kernel_rfl) rfl rfl))) (fun _ _ => ?_)
              obtain rfl := Gets.out H
              exact WP.retL (fun _ _ h => h) rfl () trivial (.cons (res_tmp rfl) .nil) rfl (st_sel (L := [TTab.O g1226 t1230.2.2, own Edu.K g1259.1 t1257, blk b1221 32 [eq (.int .i64 t1216.fKind), eq (.string t1216.fRoom), eq (.string t1216.fUser), eq (.string t1216.fEvent), eq (.string t1216.fThread), eq (.bool t1216.fPrivate), eq (.bool false), eq (.int .i64 0), eq (.int .i64 t1216.fState), eq (.int .i64 t1216.fTick), eq (.int .i64 t1222)], blk b1218 32 [eq (.int .i64 t1216.fKind), eq (.string t1216.fRoom), eq (.string t1216.fUser), eq (.string t1216.fEvent), eq (.string t1216.fThread), eq (.bool t1216.fPrivate), eq (.bool t1216.fOn), eq (.int .i64 t1216.fSpan), eq (.int .i64 t1216.fState), eq (.int .i64 t1216.fTick), eq (.int .i64 t1219)], blk b1215 32 [eq (.int .i64 a0.fKind), eq (.string a0.fRoom), eq (.string a0.fUser), eq (.string a0.fEvent), eq (.string a0.fThread), eq (.bool a0.fPrivate), eq (.bool true), eq (.int .i64 a0.fSpan), eq (.int .i64 a0.fState), eq (.int .i64 a0.fTick), eq (.int .i64 a0.fStamp)]]) (F := F) [0, 1, 2, 3, 4] 5 (by kernel_rfl) rfl rfl)
      · replace H := Gets.ct H c1242
        refine Dv.mv rfl ⟨_, _, rfl, rfl, rfl⟩ rfl ?_
        refine Dv.fab rfl ⟨_, _, rfl, rfl, rfl⟩ rfl Try.underlying32 rfl Try.underlying3 c3 (by decide) ?_
        refine Dv.ldb rfl ⟨_, _, rfl, rfl, rfl⟩ rfl Try.underlying3 rfl (mem_at 2 rfl) rfl ?_
        refine Dv.fab rfl ⟨_, _, rfl, rfl, rfl⟩ rfl Try.underlying32 rfl Try.underlying3 c3 (by decide) ?_
        refine Dv.ldb rfl ⟨_, _, rfl, rfl, rfl⟩ rfl Try.underlying3 rfl (mem_at 2 rfl) rfl ?_
        refine Dv.bin rfl ⟨_, _, rfl, rfl, rfl⟩ rfl rfl (fun _ => run_add) ?_
        refine Dv.bin rfl ⟨_, _, rfl, rfl, rfl⟩ rfl rfl (fun _ => run_lt) ?_
        refine Dv.pickT rfl ⟨_, _, rfl, rfl, rfl⟩ rfl rfl ?_
        refine Dv.bin rfl ⟨_, _, rfl, rfl, rfl⟩ rfl rfl (fun _ => run_beq Try.underlying4) ?_
        refine Dv.pickT rfl trivial rfl rfl ?_
        refine Dv.mv rfl trivial rfl ?_
        cases c1243 : (t1236 == (decide (a3 < (w64 (t1216.fTick + t1216.fSpan)))))
        · replace H := Gets.cf H c1243
          refine Dv.skip rfl ⟨_, _, rfl, rfl, .inl rfl⟩ ?_
          refine Dv.skip rfl ⟨_, _, rfl, rfl, .inl rfl⟩ ?_
          refine Dv.skip rfl ⟨_, _, rfl, rfl, .inl rfl⟩ ?_
          refine Dv.skip rfl ⟨_, _, rfl, rfl, .inl rfl⟩ ?_
          refine Dv.pickF rfl trivial rfl rfl ?_
          refine Dv.mv rfl trivial rfl ?_
          refine Dv.skip rfl ⟨_, _, rfl, rfl, .inl rfl⟩ ?_
          refine Dv.skipb rfl ⟨_, _, rfl, rfl, .inl rfl⟩ nofun ?_
          refine Dv.skip rfl ⟨_, _, rfl, rfl, .inl rfl⟩ ?_
          refine Dv.skip rfl ⟨_, _, rfl, rfl, .inl rfl⟩ ?_
          refine Dv.pickF rfl trivial rfl rfl ?_
          refine Dv.mv rfl trivial rfl ?_
          refine Dv.skip rfl ⟨_, _, rfl, rfl, .inl rfl⟩ ?_
          refine Dv.pickF rfl trivial rfl rfl ?_
          refine Dv.asg rfl trivial rfl ?_
          refine .fin ?_
          obtain rfl := Gets.out H
          exact WP.retL (fun _ _ h => h) rfl () trivial (.cons (res_tmp rfl) .nil) rfl (st_sel (L := [TTab.O g1226 t1230.2.2, blk b1221 32 [eq (.int .i64 t1216.fKind), eq (.string t1216.fRoom), eq (.string t1216.fUser), eq (.string t1216.fEvent), eq (.string t1216.fThread), eq (.bool t1216.fPrivate), eq (.bool false), eq (.int .i64 0), eq (.int .i64 t1216.fState), eq (.int .i64 t1216.fTick), eq (.int .i64 t1222)], blk b1218 32 [eq (.int .i64 t1216.fKind), eq (.string t1216.fRoom), eq (.string t1216.fUser), eq (.string t1216.fEvent), eq (.string t1216.fThread), eq (.bool t1216.fPrivate), eq (.bool t1216.fOn), eq (.int .i64 t1216.fSpan), eq (.int .i64 t1216.fState), eq (.int .i64 t1216.fTick), eq (.int .i64 t1219)], blk b1215 32 [eq (.int .i64 a0.fKind), eq (.string a0.fRoom), eq (.string a0.fUser), eq (.string a0.fEvent), eq (.string a0.fThread), eq (.bool a0.fPrivate), eq (.bool true), eq (.int .i64 a0.fSpan), eq (.int .i64 a0.fState), eq (.int .i64 a0.fTick), eq (.int .i64 a0.fStamp)]]) (F := F) [0, 1, 2, 3] 4 rfl rfl rfl)
        · replace H := Gets.ct H c1243
          refine Dv.mv rfl ⟨_, _, rfl, rfl, rfl⟩ rfl ?_
          refine Dv.mv rfl ⟨_, _, rfl, rfl, rfl⟩ rfl ?_
          refine Dv.un rfl ⟨_, _, rfl, rfl, rfl⟩ rfl (fun _ => run_not _) ?_
          refine Dv.bin rfl ⟨_, _, rfl, rfl, rfl⟩ rfl rfl (fun _ => run_beq Try.underlying4) ?_
          refine Dv.pickT rfl trivial rfl rfl ?_
          refine Dv.mv rfl trivial rfl ?_
          cases c1244 : (t1238.2 == (!(decide (0 < t1232))))
          · replace H := Gets.cf H c1244
            refine Dv.skip rfl ⟨_, _, rfl, rfl, .inl rfl⟩ ?_
            refine Dv.skipb rfl ⟨_, _, rfl, rfl, .inl rfl⟩ nofun ?_
            refine Dv.skip rfl ⟨_, _, rfl, rfl, .inl rfl⟩ ?_
            refine Dv.skip rfl ⟨_, _, rfl, rfl, .inl rfl⟩ ?_
            refine Dv.pickF rfl trivial rfl rfl ?_
            refine Dv.mv rfl trivial rfl ?_
            refine Dv.skip rfl ⟨_, _, rfl, rfl, .inl rfl⟩ ?_
            refine Dv.pickF rfl trivial rfl rfl ?_
            refine Dv.asg rfl trivial rfl ?_
            refine .fin ?_
            obtain rfl := Gets.out H
            exact WP.retL (fun _ _ h => h) rfl () trivial (.cons (res_tmp rfl) .nil) rfl (st_sel (L := [TTab.O g1226 t1230.2.2, blk b1221 32 [eq (.int .i64 t1216.fKind), eq (.string t1216.fRoom), eq (.string t1216.fUser), eq (.string t1216.fEvent), eq (.string t1216.fThread), eq (.bool t1216.fPrivate), eq (.bool false), eq (.int .i64 0), eq (.int .i64 t1216.fState), eq (.int .i64 t1216.fTick), eq (.int .i64 t1222)], blk b1218 32 [eq (.int .i64 t1216.fKind), eq (.string t1216.fRoom), eq (.string t1216.fUser), eq (.string t1216.fEvent), eq (.string t1216.fThread), eq (.bool t1216.fPrivate), eq (.bool t1216.fOn), eq (.int .i64 t1216.fSpan), eq (.int .i64 t1216.fState), eq (.int .i64 t1216.fTick), eq (.int .i64 t1219)], blk b1215 32 [eq (.int .i64 a0.fKind), eq (.string a0.fRoom), eq (.string a0.fUser), eq (.string a0.fEvent), eq (.string a0.fThread), eq (.bool a0.fPrivate), eq (.bool true), eq (.int .i64 a0.fSpan), eq (.int .i64 a0.fState), eq (.int .i64 a0.fTick), eq (.int .i64 a0.fStamp)]]) (F := F) [0, 1, 2, 3] 4 rfl rfl rfl)
          · replace H := Gets.ct H c1244
            refine Dv.mv rfl ⟨_, _, rfl, rfl, rfl⟩ rfl ?_
            refine Dv.gh (l' := fun (g1245 : Nat × OV × OV) => [blk g1245.1 59 [eq g1245.2.1.1, eq g1245.2.2.1], own Edu.K g1245.2.1.1 t1230.2.2.fl, HHeap.O g1245.2.2 t1230.2.2.fends, blk b1221 32 [eq (.int .i64 t1216.fKind), eq (.string t1216.fRoom), eq (.string t1216.fUser), eq (.string t1216.fEvent), eq (.string t1216.fThread), eq (.bool t1216.fPrivate), eq (.bool false), eq (.int .i64 0), eq (.int .i64 t1216.fState), eq (.int .i64 t1216.fTick), eq (.int .i64 t1222)], blk b1218 32 [eq (.int .i64 t1216.fKind), eq (.string t1216.fRoom), eq (.string t1216.fUser), eq (.string t1216.fEvent), eq (.string t1216.fThread), eq (.bool t1216.fPrivate), eq (.bool t1216.fOn), eq (.int .i64 t1216.fSpan), eq (.int .i64 t1216.fState), eq (.int .i64 t1216.fTick), eq (.int .i64 t1219)], blk b1215 32 [eq (.int .i64 a0.fKind), eq (.string a0.fRoom), eq (.string a0.fUser), eq (.string a0.fEvent), eq (.string a0.fThread), eq (.bool a0.fPrivate), eq (.bool true), eq (.int .i64 a0.fSpan), eq (.int .i64 a0.fState), eq (.int .i64 a0.fTick), eq (.int .i64 a0.fStamp)]] ++ F) (gh_of (TTab.opn 0 rfl)) (fun g1245 h1246 => ?_)
            obtain ⟨t1247, h1248, H⟩ := Gets.call H
            refine Dv.callx (pre := [blk g1245.1 59 [eq g1245.2.1.1, eq g1245.2.2.1], own Edu.K g1245.2.1.1 t1230.2.2.fl]) (F := [HHeap.O g1245.2.2 t1230.2.2.fends, blk b1221 32 [eq (.int .i64 t1216.fKind), eq (.string t1216.fRoom), eq (.string t1216.fUser), eq (.string t1216.fEvent), eq (.string t1216.fThread), eq (.bool t1216.fPrivate), eq (.bool false), eq (.int .i64 0), eq (.int .i64 t1216.fState), eq (.int .i64 t1216.fTick), eq (.int .i64 t1222)], blk b1218 32 [eq (.int .i64 t1216.fKind), eq (.string t1216.fRoom), eq (.string t1216.fUser), eq (.string t1216.fEvent), eq (.string t1216.fThread), eq (.bool t1216.fPrivate), eq (.bool t1216.fOn), eq (.int .i64 t1216.fSpan), eq (.int .i64 t1216.fState), eq (.int .i64 t1216.fTick), eq (.int .i64 t1219)], blk b1215 32 [eq (.int .i64 a0.fKind), eq (.string a0.fRoom), eq (.string a0.fUser), eq (.string a0.fEvent), eq (.string a0.fThread), eq (.bool a0.fPrivate), eq (.bool true), eq (.int .i64 a0.fSpan), eq (.int .i64 a0.fState), eq (.int .i64 a0.fTick), eq (.int .i64 a0.fStamp)]] ++ F) (fun g1249 : OV => [blk g1245.1 59 [eq g1245.2.1.1, eq g1245.2.2.1], own Edu.K g1245.2.1.1 t1230.2.2.fl, own Edu.K g1249.1 t1247, HHeap.O g1245.2.2 t1230.2.2.fends, blk b1221 32 [eq (.int .i64 t1216.fKind), eq (.string t1216.fRoom), eq (.string t1216.fUser), eq (.string t1216.fEvent), eq (.string t1216.fThread), eq (.bool t1216.fPrivate), eq (.bool false), eq (.int .i64 0), eq (.int .i64 t1216.fState), eq (.int .i64 t1216.fTick), eq (.int .i64 t1222)], blk b1218 32 [eq (.int .i64 t1216.fKind), eq (.string t1216.fRoom), eq (.string t1216.fUser), eq (.string t1216.fEvent), eq (.string t1216.fThread), eq (.bool t1216.fPrivate), eq (.bool t1216.fOn), eq (.int .i64 t1216.fSpan), eq (.int .i64 t1216.fState), eq (.int .i64 t1216.fTick), eq (.int .i64 t1219)], blk b1215 32 [eq (.int .i64 a0.fKind), eq (.string a0.fRoom), eq (.string a0.fUser), eq (.string a0.fEvent), eq (.string a0.fThread), eq (.bool a0.fPrivate), eq (.bool true), eq (.int .i64 a0.fSpan), eq (.int .i64 a0.fState), eq (.int .i64 a0.fTick), eq (.int .i64 a0.fStamp)]] ++ F) rfl ⟨_, _, rfl, rfl, rfl⟩ cal21 rfl (Tr.weak (typing_Table_All.c h1248 (b0_ := g1245.1) (v0_0 := g1245.2.1) (v0_1 := g1245.2.2)) (.cons (wk_ptr h1246) .nil)) (perm_to (L := [blk g1245.1 59 [eq g1245.2.1.1, eq g1245.2.2.1], own Edu.K g1245.2.1.1 t1230.2.2.fl, HHeap.O g1245.2.2 t1230.2.2.fends, blk b1221 32 [eq (.int .i64 t1216.fKind), eq (.string t1216.fRoom), eq (.string t1216.fUser), eq (.string t1216.fEvent), eq (.string t1216.fThread), eq (.bool t1216.fPrivate), eq (.bool false), eq (.int .i64 0), eq (.int .i64 t1216.fState), eq (.int .i64 t1216.fTick), eq (.int .i64 t1222)], blk b1218 32 [eq (.int .i64 t1216.fKind), eq (.string t1216.fRoom), eq (.string t1216.fUser), eq (.string t1216.fEvent), eq (.string t1216.fThread), eq (.bool t1216.fPrivate), eq (.bool t1216.fOn), eq (.int .i64 t1216.fSpan), eq (.int .i64 t1216.fState), eq (.int .i64 t1216.fTick), eq (.int .i64 t1219)], blk b1215 32 [eq (.int .i64 a0.fKind), eq (.string a0.fRoom), eq (.string a0.fUser), eq (.string a0.fEvent), eq (.string a0.fThread), eq (.bool a0.fPrivate), eq (.bool true), eq (.int .i64 a0.fSpan), eq (.int .i64 a0.fState), eq (.int .i64 a0.fTick), eq (.int .i64 a0.fStamp)]]) (F := F) [0, 1, 2, 3, 4, 5] (by kernel_rfl) rfl rfl) rfl nofun (fun g1249 _ => ?_)
            refine Dv.lenw rfl ⟨_, _, rfl, rfl, rfl⟩ rfl (mem_at 2 rfl) Try.underlying22 ?_
            refine Dv.bin rfl ⟨_, _, rfl, rfl, rfl⟩ rfl rfl (fun _ => run_eq) ?_
            refine Dv.pickT rfl trivial rfl rfl ?_
            refine Dv.mv rfl trivial rfl ?_
            cases c1250 : ((t1247.length : Int) == 1)
            · replace H := Gets.cf H c1250
              refine Dv.skip rfl ⟨_, _, rfl, rfl, .inl rfl⟩ ?_
              refine Dv.pickF rfl trivial rfl rfl ?_
              refine Dv.asg rfl trivial rfl ?_
              refine .fin ?_
              refine WP.gh (l' := fun _ : Unit => [TTab.O g1226 t1230.2.2, own Edu.K g1249.1 t1247, blk b1221 32 [eq (.int .i64 t1216.fKind), eq (.string t1216.fRoom), eq (.string t1216.fUser), eq (.string t1216.fEvent), eq (.string t1216.fThread), eq (.bool t1216.fPrivate), eq (.bool false), eq (.int .i64 0), eq (.int .i64 t1216.fState), eq (.int .i64 t1216.fTick), eq (.int .i64 t1222)], blk b1218 32 [eq (.int .i64 t1216.fKind), eq (.string t1216.fRoom), eq (.string t1216.fUser), eq (.string t1216.fEvent), eq (.string t1216.fThread), eq (.bool t1216.fPrivate), eq (.bool t1216.fOn), eq (.int .i64 t1216.fSpan), eq (.int .i64 t1216.fState), eq (.int .i64 t1216.fTick), eq (.int .i64 t1219)], blk b1215 32 [eq (.int .i64 a0.fKind), eq (.string a0.fRoom), eq (.string a0.fUser), eq (.string a0.fEvent), eq (.string a0.fThread), eq (.bool a0.fPrivate), eq (.bool true), eq (.int .i64 a0.fSpan), eq (.int .i64 a0.fState), eq (.int .i64 a0.fTick), eq (.int .i64 a0.fStamp)]] ++ F) (gh_of (TTab.shut (p := g1226) (m := t1230.2.2) (r := [own Edu.K g1249.1 t1247, blk b1221 32 [eq (.int .i64 t1216.fKind), eq (.string t1216.fRoom), eq (.string t1216.fUser), eq (.string t1216.fEvent), eq (.string t1216.fThread), eq (.bool t1216.fPrivate), eq (.bool false), eq (.int .i64 0), eq (.int .i64 t1216.fState), eq (.int .i64 t1216.fTick), eq (.int .i64 t1222)], blk b1218 32 [eq (.int .i64 t1216.fKind), eq (.string t1216.fRoom), eq (.string t1216.fUser), eq (.string t1216.fEvent), eq (.string t1216.fThread), eq (.bool t1216.fPrivate), eq (.bool t1216.fOn), eq (.int .i64 t1216.fSpan), eq (.int .i64 t1216.fState), eq (.int .i64 t1216.fTick), eq (.int .i64 t1219)], blk b1215 32 [eq (.int .i64 a0.fKind), eq (.string a0.fRoom), eq (.string a0.fUser), eq (.string a0.fEvent), eq (.string a0.fThread), eq (.bool a0.fPrivate), eq (.bool true), eq (.int .i64 a0.fSpan), eq (.int .i64 a0.fState), eq (.int .i64 a0.fTick), eq (.int .i64 a0.fStamp)]] ++ F) (g1245.1, g1245.2.1, g1245.2.2) h1246 (perm_to (L := [blk g1245.1 59 [eq g1245.2.1.1, eq g1245.2.2.1], own Edu.K g1245.2.1.1 t1230.2.2.fl, own Edu.K g1249.1 t1247, HHeap.O g1245.2.2 t1230.2.2.fends, blk b1221 32 [eq (.int .i64 t1216.fKind), eq (.string t1216.fRoom), eq (.string t1216.fUser), eq (.string t1216.fEvent), eq (.string t1216.fThread), eq (.bool t1216.fPrivate), eq (.bool false), eq (.int .i64 0), eq (.int .i64 t1216.fState), eq (.int .i64 t1216.fTick), eq (.int .i64 t1222)], blk b1218 32 [eq (.int .i64 t1216.fKind), eq (.string t1216.fRoom), eq (.string t1216.fUser), eq (.string t1216.fEvent), eq (.string t1216.fThread), eq (.bool t1216.fPrivate), eq (.bool t1216.fOn), eq (.int .i64 t1216.fSpan), eq (.int .i64 t1216.fState), eq (.int .i64 t1216.fTick), eq (.int .i64 t1219)], blk b1215 32 [eq (.int .i64 a0.fKind), eq (.string a0.fRoom), eq (.string a0.fUser), eq (.string a0.fEvent), eq (.string a0.fThread), eq (.bool a0.fPrivate), eq (.bool true), eq (.int .i64 a0.fSpan), eq (.int .i64 a0.fState), eq (.int .i64 a0.fTick), eq (.int .i64 a0.fStamp)]]) (F := F) [0, 1, 3, 2, 4, 5, 6] (by kernel_rfl) rfl rfl))) (fun _ _ => ?_)
              obtain rfl := Gets.out H
              exact WP.retL (fun _ _ h => h) rfl () trivial (.cons (res_tmp rfl) .nil) rfl (st_sel (L := [TTab.O g1226 t1230.2.2, own Edu.K g1249.1 t1247, blk b1221 32 [eq (.int .i64 t1216.fKind), eq (.string t1216.fRoom), eq (.string t1216.fUser), eq (.string t1216.fEvent), eq (.string t1216.fThread), eq (.bool t1216.fPrivate), eq (.bool false), eq (.int .i64 0), eq (.int .i64 t1216.fState), eq (.int .i64 t1216.fTick), eq (.int .i64 t1222)], blk b1218 32 [eq (.int .i64 t1216.fKind), eq (.string t1216.fRoom), eq (.string t1216.fUser), eq (.string t1216.fEvent), eq (.string t1216.fThread), eq (.bool t1216.fPrivate), eq (.bool t1216.fOn), eq (.int .i64 t1216.fSpan), eq (.int .i64 t1216.fState), eq (.int .i64 t1216.fTick), eq (.int .i64 t1219)], blk b1215 32 [eq (.int .i64 a0.fKind), eq (.string a0.fRoom), eq (.string a0.fUser), eq (.string a0.fEvent), eq (.string a0.fThread), eq (.bool a0.fPrivate), eq (.bool true), eq (.int .i64 a0.fSpan), eq (.int .i64 a0.fState), eq (.int .i64 a0.fTick), eq (.int .i64 a0.fStamp)]]) (F := F) [0, 1, 2, 3, 4] 5 (by kernel_rfl) rfl rfl)
            · replace H := Gets.ct H c1250
              obtain ⟨t1251, h1252, H⟩ := Gets.call H
              refine Dv.call rfl ⟨_, _, rfl, rfl, rfl⟩ cal20 rfl (concourselaw14_lives.c h1252) ?_
              refine Dv.pickT rfl trivial rfl rfl ?_
              refine Dv.asg rfl trivial rfl ?_
              refine .fin ?_
              refine WP.gh (l' := fun _ : Unit => [TTab.O g1226 t1230.2.2, own Edu.K g1249.1 t1247, blk b1221 32 [eq (.int .i64 t1216.fKind), eq (.string t1216.fRoom), eq (.string t1216.fUser), eq (.string t1216.fEvent), eq (.string t1216.fThread), eq (.bool t1216.fPrivate), eq (.bool false), eq (.int .i64 0), eq (.int .i64 t1216.fState), eq (.int .i64 t1216.fTick), eq (.int .i64 t1222)], blk b1218 32 [eq (.int .i64 t1216.fKind), eq (.string t1216.fRoom), eq (.string t1216.fUser), eq (.string t1216.fEvent), eq (.string t1216.fThread), eq (.bool t1216.fPrivate), eq (.bool t1216.fOn), eq (.int .i64 t1216.fSpan), eq (.int .i64 t1216.fState), eq (.int .i64 t1216.fTick), eq (.int .i64 t1219)], blk b1215 32 [eq (.int .i64 a0.fKind), eq (.string a0.fRoom), eq (.string a0.fUser), eq (.string a0.fEvent), eq (.string a0.fThread), eq (.bool a0.fPrivate), eq (.bool true), eq (.int .i64 a0.fSpan), eq (.int .i64 a0.fState), eq (.int .i64 a0.fTick), eq (.int .i64 a0.fStamp)]] ++ F) (gh_of (TTab.shut (p := g1226) (m := t1230.2.2) (r := [own Edu.K g1249.1 t1247, blk b1221 32 [eq (.int .i64 t1216.fKind), eq (.string t1216.fRoom), eq (.string t1216.fUser), eq (.string t1216.fEvent), eq (.string t1216.fThread), eq (.bool t1216.fPrivate), eq (.bool false), eq (.int .i64 0), eq (.int .i64 t1216.fState), eq (.int .i64 t1216.fTick), eq (.int .i64 t1222)], blk b1218 32 [eq (.int .i64 t1216.fKind), eq (.string t1216.fRoom), eq (.string t1216.fUser), eq (.string t1216.fEvent), eq (.string t1216.fThread), eq (.bool t1216.fPrivate), eq (.bool t1216.fOn), eq (.int .i64 t1216.fSpan), eq (.int .i64 t1216.fState), eq (.int .i64 t1216.fTick), eq (.int .i64 t1219)], blk b1215 32 [eq (.int .i64 a0.fKind), eq (.string a0.fRoom), eq (.string a0.fUser), eq (.string a0.fEvent), eq (.string a0.fThread), eq (.bool a0.fPrivate), eq (.bool true), eq (.int .i64 a0.fSpan), eq (.int .i64 a0.fState), eq (.int .i64 a0.fTick), eq (.int .i64 a0.fStamp)]] ++ F) (g1245.1, g1245.2.1, g1245.2.2) h1246 (perm_to (L := [blk g1245.1 59 [eq g1245.2.1.1, eq g1245.2.2.1], own Edu.K g1245.2.1.1 t1230.2.2.fl, own Edu.K g1249.1 t1247, HHeap.O g1245.2.2 t1230.2.2.fends, blk b1221 32 [eq (.int .i64 t1216.fKind), eq (.string t1216.fRoom), eq (.string t1216.fUser), eq (.string t1216.fEvent), eq (.string t1216.fThread), eq (.bool t1216.fPrivate), eq (.bool false), eq (.int .i64 0), eq (.int .i64 t1216.fState), eq (.int .i64 t1216.fTick), eq (.int .i64 t1222)], blk b1218 32 [eq (.int .i64 t1216.fKind), eq (.string t1216.fRoom), eq (.string t1216.fUser), eq (.string t1216.fEvent), eq (.string t1216.fThread), eq (.bool t1216.fPrivate), eq (.bool t1216.fOn), eq (.int .i64 t1216.fSpan), eq (.int .i64 t1216.fState), eq (.int .i64 t1216.fTick), eq (.int .i64 t1219)], blk b1215 32 [eq (.int .i64 a0.fKind), eq (.string a0.fRoom), eq (.string a0.fUser), eq (.string a0.fEvent), eq (.string a0.fThread), eq (.bool a0.fPrivate), eq (.bool true), eq (.int .i64 a0.fSpan), eq (.int .i64 a0.fState), eq (.int .i64 a0.fTick), eq (.int .i64 a0.fStamp)]]) (F := F) [0, 1, 3, 2, 4, 5, 6] (by kernel_rfl) rfl rfl))) (fun _ _ => ?_)
              obtain rfl := Gets.out H
              exact WP.retL (fun _ _ h => h) rfl () trivial (.cons (res_tmp rfl) .nil) rfl (st_sel (L := [TTab.O g1226 t1230.2.2, own Edu.K g1249.1 t1247, blk b1221 32 [eq (.int .i64 t1216.fKind), eq (.string t1216.fRoom), eq (.string t1216.fUser), eq (.string t1216.fEvent), eq (.string t1216.fThread), eq (.bool t1216.fPrivate), eq (.bool false), eq (.int .i64 0), eq (.int .i64 t1216.fState), eq (.int .i64 t1216.fTick), eq (.int .i64 t1222)], blk b1218 32 [eq (.int .i64 t1216.fKind), eq (.string t1216.fRoom), eq (.string t1216.fUser), eq (.string t1216.fEvent), eq (.string t1216.fThread), eq (.bool t1216.fPrivate), eq (.bool t1216.fOn), eq (.int .i64 t1216.fSpan), eq (.int .i64 t1216.fState), eq (.int .i64 t1216.fTick), eq (.int .i64 t1219)], blk b1215 32 [eq (.int .i64 a0.fKind), eq (.string a0.fRoom), eq (.string a0.fUser), eq (.string a0.fEvent), eq (.string a0.fThread), eq (.bool a0.fPrivate), eq (.bool true), eq (.int .i64 a0.fSpan), eq (.int .i64 a0.fState), eq (.int .i64 a0.fTick), eq (.int .i64 a0.fStamp)]]) (F := F) [0, 1, 2, 3, 4] 5 (by kernel_rfl) rfl rfl)
end Go.Proofs.Ytmbodanckhidiaa
