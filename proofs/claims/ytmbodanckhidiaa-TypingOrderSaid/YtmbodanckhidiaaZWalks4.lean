/- The walks. -/
import Derived.Test.YtmbodanckhidiaaZWalks3
import Derived.Test.YtmbodanckhidiaaConU
import Derived.Eval
set_option linter.all false
set_option maxRecDepth 10000
set_option maxHeartbeats 20000000
namespace Go.Proofs.Ytmbodanckhidiaa
open Go Go.Sp
theorem heap_Heap_First.c {a0 : HHeap} {p0_ : OV} {r : HEnt × Bool} (h : heap_Heap_First.f a0 = some r) : Tr Try.prog 38 [eq p0_.1] [HHeap.O p0_ a0] (γ := Unit) (fun _ => True) (fun g => tup [agg (HEnt.enc r.1), eq (.bool r.2)]) (fun g => [HHeap.O p0_ a0]) := by
  unfold heap_Heap_First.f at h
  refine Tr.body Try.func38 (c := _) rfl Try.ntmps38 (Nat.le_of_ble_eq_true rfl) fun R0 F => ?_
  replace h := Gets.of h
  have H := h
  clear h
  refine WP.seq ?_
  refine WP.reg [(0, true), (1, false)] (by kernel_rfl) ?_
  refine Dv.alloc (z := .agg #[.int .i64 0, .string ⟨#[]⟩]) (qs := [eq (.int .i64 0), eq (.string (⟨#[]⟩ : ByteArray))]) rfl trivial z71 rfl nofun (fun b1204 => ?_)
  refine Dv.asg rfl trivial rfl ?_
  refine .fin ?_
  refine WP.seq ?_
  refine WP.seq ?_
  refine WP.reg [(0, false), (1, false), (2, false), (3, false), (4, false), (5, false)] (by kernel_rfl) ?_
  refine Dv.mv rfl trivial rfl ?_
  refine Dv.nilA HHeap.nn rfl trivial rfl (mem_at 1 rfl) ?_
  refine Dv.gh (l' := fun (g1205 : Nat × OV × OV) => [blk g1205.1 77 [eq g1205.2.1.1, eq g1205.2.2.1], own HEnt.K g1205.2.1.1 a0.fl, mp Value.string (fun x : Int => eq (.int .i64 x)) g1205.2.2.1 a0.fat, blk b1204 71 [eq (.int .i64 0), eq (.string (⟨#[]⟩ : ByteArray))]] ++ F) (gh_of (HHeap.opn 1 rfl)) (fun g1205 h1206 => ?_)
  refine Dv.fabp h1206 rfl trivial rfl Try.underlying77 rfl Try.underlying75 c75 (by decide) ?_
  refine Dv.ldb rfl trivial rfl Try.underlying75 rfl (mem_at 0 rfl) rfl ?_
  refine Dv.lenw rfl trivial rfl (mem_at 1 rfl) Try.underlying75 ?_
  refine Dv.bin rfl trivial rfl rfl (fun _ => run_eq) ?_
  refine .fin ?_
  refine WP.cond rfl (fun c1207 => ?_) (fun c1207 => ?_)
  · replace H := Gets.ct H c1207
    refine WP.seq ?_
    refine WP.reg [(0, false), (1, true), (2, false)] (by kernel_rfl) ?_
    refine Dv.bld (css := []) rfl trivial Try.underlying71 pl71 z71 rfl trivial rfl rfl ?_
    refine Dv.stx ([blk g1205.1 77 [eq g1205.2.1.1, eq g1205.2.2.1], own HEnt.K g1205.2.1.1 a0.fl, mp Value.string (fun x : Int => eq (.int .i64 x)) g1205.2.2.1 a0.fat, blk b1204 71 [eq (.int .i64 0), eq (.string (⟨#[]⟩ : ByteArray))]] ++ F) rfl trivial rfl rfl (cells_agg (ones_cons (one_eq rfl) (ones_cons (one_eq rfl) ones_nil))) Try.underlying71 c71 rfl (j := 3) rfl (Nat.le_of_ble_eq_true rfl) rfl nofun ?_
    refine Dv.asg rfl trivial rfl ?_
    refine .fin ?_
    refine WP.gh (l' := fun _ : Unit => [HHeap.O p0_ a0, blk b1204 71 [eq (.int .i64 0), eq (.string (⟨#[]⟩ : ByteArray))]] ++ F) (gh_of (HHeap.shut (p := p0_) (m := a0) (r := [blk b1204 71 [eq (.int .i64 0), eq (.string (⟨#[]⟩ : ByteArray))]] ++ F) (g1205.1, g1205.2.1, g1205.2.2) h1206 (perm_to (L := [blk g1205.1 77 [eq g1205.2.1.1, eq g1205.2.2.1], own HEnt.K g1205.2.1.1 a0.fl, mp Value.string (fun x : Int => eq (.int .i64 x)) g1205.2.2.1 a0.fat, blk b1204 71 [eq (.int .i64 0), eq (.string (⟨#[]⟩ : ByteArray))]]) (F := F) [0, 1, 2, 3] rfl rfl rfl))) (fun _ _ => ?_)
    obtain rfl := Gets.out H
    exact WP.retL (fun _ _ h => h) rfl () trivial (.cons (res_cells rfl Try.underlying71 rfl c71 (mem_at 1 rfl) rfl) (.cons (res_tmp rfl) .nil)) rfl (st_sel (L := [HHeap.O p0_ a0, blk b1204 71 [eq (.int .i64 0), eq (.string (⟨#[]⟩ : ByteArray))]]) (F := F) [1, 0] 1 rfl rfl rfl)
  · replace H := Gets.cf H c1207
    refine WP.skip ?_
    refine WP.seq ?_
    refine WP.reg [(0, false), (1, false), (2, false), (3, false), (4, false), (5, false), (6, true), (7, false)] (by kernel_rfl) ?_
    refine Dv.mv rfl trivial rfl ?_
    refine Dv.nilpp h1206 rfl trivial rfl ?_
    refine Dv.fabp h1206 rfl trivial rfl Try.underlying77 rfl Try.underlying75 c75 (by decide) ?_
    refine Dv.ldb rfl trivial rfl Try.underlying75 rfl (mem_at 0 rfl) rfl ?_
    obtain ⟨g1208, H⟩ := Gets.grd H
    have h1209 : (0 : Int).toNat < a0.fl.length := idx_lt g1208
    refine Dv.ixw rfl trivial rfl (mem_at 1 rfl) rfl Try.underlying75 Try.underlying71 c71 g1208.1 g1208.2 ?_
    refine Dv.ldws (j := ((0 : Int).toNat)) (f := 0) rfl trivial rfl (mem_at 1 rfl) h1209 Try.underlying71 rfl c71 (Nat.le_of_ble_eq_true rfl) ?_
    refine Dv.stx ([blk g1205.1 77 [eq g1205.2.1.1, eq g1205.2.2.1], own HEnt.K g1205.2.1.1 a0.fl, mp Value.string (fun x : Int => eq (.int .i64 x)) g1205.2.2.1 a0.fat, blk b1204 71 [eq (.int .i64 ((a0.fl.getD ((0 : Int).toNat) default).fAt)), eq (.string ((a0.fl.getD ((0 : Int).toNat) default).fKey))]] ++ F) rfl trivial rfl rfl (cells_agg (HEnt.K.one _)) Try.underlying71 c71 rfl (j := 3) rfl (Nat.le_of_ble_eq_true rfl) rfl nofun ?_
    refine Dv.asg rfl trivial rfl ?_
    refine .fin ?_
    refine WP.gh (l' := fun _ : Unit => [HHeap.O p0_ a0, blk b1204 71 [eq (.int .i64 ((a0.fl.getD ((0 : Int).toNat) default).fAt)), eq (.string ((a0.fl.getD ((0 : Int).toNat) default).fKey))]] ++ F) (gh_of (HHeap.shut (p := p0_) (m := a0) (r := [blk b1204 71 [eq (.int .i64 ((a0.fl.getD ((0 : Int).toNat) default).fAt)), eq (.string ((a0.fl.getD ((0 : Int).toNat) default).fKey))]] ++ F) (g1205.1, g1205.2.1, g1205.2.2) h1206 (perm_to (L := [blk g1205.1 77 [eq g1205.2.1.1, eq g1205.2.2.1], own HEnt.K g1205.2.1.1 a0.fl, mp Value.string (fun x : Int => eq (.int .i64 x)) g1205.2.2.1 a0.fat, blk b1204 71 [eq (.int .i64 ((a0.fl.getD ((0 : Int).toNat) default).fAt)), eq (.string ((a0.fl.getD ((0 : Int).toNat) default).fKey))]]) (F := F) [0, 1, 2, 3] rfl rfl rfl))) (fun _ _ => ?_)
    obtain rfl := Gets.out H
    exact WP.retL (fun _ _ h => h) rfl () trivial (.cons (res_cells rfl Try.underlying71 rfl c71 (mem_at 1 rfl) rfl) (.cons (res_tmp rfl) .nil)) rfl (st_sel (L := [HHeap.O p0_ a0, blk b1204 71 [eq (.int .i64 ((a0.fl.getD ((0 : Int).toNat) default).fAt)), eq (.string ((a0.fl.getD ((0 : Int).toNat) default).fKey))]]) (F := F) [1, 0] 1 rfl rfl rfl)
theorem typing_Table_Next.c {a0 : TTab} {p0_ : OV} {r : Int × Bool} (h : typing_Table_Next.f a0 = some r) : Tr Try.prog 24 [eq p0_.1] [TTab.O p0_ a0] (γ := Unit) (fun _ => True) (fun g => tup [eq (.int .i64 r.1), eq (.bool r.2)]) (fun g => [TTab.O p0_ a0]) := by
  unfold typing_Table_Next.f at h
  refine Tr.body Try.func24 (c := _) rfl Try.ntmps24 (Nat.le_of_ble_eq_true rfl) fun R0 F => ?_
  replace h := Gets.of h
  have H := h
  clear h
  refine WP.seq ?_
  refine WP.reg [(0, false), (1, false)] (by kernel_rfl) ?_
  refine Dv.asg rfl trivial rfl ?_
  refine Dv.asg rfl trivial rfl ?_
  refine .fin ?_
  refine WP.seq ?_
  refine WP.reg [(0, false), (1, false), (2, false), (3, false), (4, true), (5, false), (6, false), (7, false), (8, true), (9, true), (10, false)] (by kernel_rfl) ?_
  refine Dv.mv rfl trivial rfl ?_
  refine Dv.nilA TTab.nn rfl trivial rfl (mem_at 0 rfl) ?_
  refine Dv.gh (l' := fun (g1210 : Nat × OV × OV) => [blk g1210.1 59 [eq g1210.2.1.1, eq g1210.2.2.1], own Edu.K g1210.2.1.1 a0.fl, HHeap.O g1210.2.2 a0.fends] ++ F) (gh_of (TTab.opn 0 rfl)) (fun g1210 h1211 => ?_)
  refine Dv.fabp h1211 rfl trivial rfl Try.underlying59 rfl Try.underlying56 c56 (by decide) ?_
  refine Dv.ldb rfl trivial rfl Try.underlying56 rfl (mem_at 0 rfl) rfl ?_
  obtain ⟨t1212, h1213, H⟩ := Gets.call H
  refine Dv.callx (pre := [HHeap.O g1210.2.2 a0.fends]) (F := [blk g1210.1 59 [eq g1210.2.1.1, eq g1210.2.2.1], own Edu.K g1210.2.1.1 a0.fl] ++ F) (fun _ : Unit => [HHeap.O g1210.2.2 a0.fends, blk g1210.1 59 [eq g1210.2.1.1, eq g1210.2.2.1], own Edu.K g1210.2.1.1 a0.fl] ++ F) rfl trivial cal38 rfl (heap_Heap_First.c h1213 (p0_ := g1210.2.2)) (perm_to (L := [blk g1210.1 59 [eq g1210.2.1.1, eq g1210.2.2.1], own Edu.K g1210.2.1.1 a0.fl, HHeap.O g1210.2.2 a0.fends]) (F := F) [2, 0, 1] rfl rfl rfl) rfl nofun (fun _ _ => ?_)
  refine Dv.mv rfl trivial rfl ?_
  refine Dv.ext rfl trivial rfl rfl ?_
  refine Dv.ext rfl trivial rfl rfl ?_
  refine Dv.alloc (z := .agg #[.int .i64 0, .string ⟨#[]⟩]) (qs := [eq (.int .i64 0), eq (.string (⟨#[]⟩ : ByteArray))]) rfl trivial z71 rfl nofun (fun b1214 => ?_)
  refine Dv.stx ([blk b1214 71 [eq (.int .i64 t1212.1.fAt), eq (.string t1212.1.fKey)], HHeap.O g1210.2.2 a0.fends, blk g1210.1 59 [eq g1210.2.1.1, eq g1210.2.2.1], own Edu.K g1210.2.1.1 a0.fl] ++ F) rfl trivial rfl rfl (cells_agg (HEnt.K.one _)) Try.underlying71 c71 rfl (j := 0) rfl (Nat.le_of_ble_eq_true rfl) rfl nofun ?_
  refine Dv.asg rfl trivial rfl ?_
  refine .fin ?_
  refine WP.seq ?_
  refine WP.reg [(0, false), (1, false), (2, false), (3, false), (4, false)] (by kernel_rfl) ?_
  refine Dv.fab rfl trivial rfl Try.underlying71 rfl Try.underlying3 c3 (by decide) ?_
  refine Dv.ldb rfl trivial rfl Try.underlying3 rfl (mem_at 0 rfl) rfl ?_
  refine Dv.mv rfl trivial rfl ?_
  refine Dv.asg rfl trivial rfl ?_
  refine Dv.asg rfl trivial rfl ?_
  refine .fin ?_
  refine WP.gh (l' := fun _ : Unit => [TTab.O p0_ a0, blk b1214 71 [eq (.int .i64 t1212.1.fAt), eq (.string t1212.1.fKey)]] ++ F) (gh_of (TTab.shut (p := p0_) (m := a0) (r := [blk b1214 71 [eq (.int .i64 t1212.1.fAt), eq (.string t1212.1.fKey)]] ++ F) (g1210.1, g1210.2.1, g1210.2.2) h1211 (perm_to (L := [blk b1214 71 [eq (.int .i64 t1212.1.fAt), eq (.string t1212.1.fKey)], HHeap.O g1210.2.2 a0.fends, blk g1210.1 59 [eq g1210.2.1.1, eq g1210.2.2.1], own Edu.K g1210.2.1.1 a0.fl]) (F := F) [2, 3, 1, 0] rfl rfl rfl))) (fun _ _ => ?_)
  obtain rfl := Gets.out H
  exact WP.retL (fun _ _ h => h) rfl () trivial (.cons (res_tmp rfl) (.cons (res_tmp rfl) .nil)) rfl (st_sel (L := [TTab.O p0_ a0, blk b1214 71 [eq (.int .i64 t1212.1.fAt), eq (.string t1212.1.fKey)]]) (F := F) [1, 0] 1 rfl rfl rfl)
end Go.Proofs.Ytmbodanckhidiaa
