/- The walks. -/
import Derived.Test.YtegmafgodoikiaaGreatZWalks1
import Derived.Test.YtegmafgodoikiaaGreatConQ
import Derived.Eval
set_option linter.all false
set_option maxRecDepth 10000
set_option maxHeartbeats 20000000
namespace Go.Proofs.YtegmafgodoikiaaGreat
open Go Go.Sp
theorem heap_Heap_Drop.c {k : Nat} {a0 : HHeap} {a1 : ByteArray} {p0_ : OV} {r : Bool × HHeap} (h : heap_Heap_Drop.f k a0 a1 = some r) : Tr Tryz.prog 35 [eq p0_.1, eq (.string a1)] [HHeap.O p0_ a0] (γ := Unit) (fun _ => True) (fun g => eq (.bool r.1)) (fun g => [HHeap.O p0_ r.2]) := by
  unfold heap_Heap_Drop.f at h
  refine Tr.body Tryz.func35 (c := _) rfl Tryz.ntmps35 (Nat.le_of_ble_eq_true rfl) fun R0 F => ?_
  replace h := Gets.of h
  have H := h
  clear h
  refine WP.seq ?_
  refine WP.reg [(0, false)] (by kernel_rfl) ?_
  refine as0 rfl rfl ?_
  refine .fin ?_
  refine WP.seq ?_
  refine WP.reg [(0, false), (1, false), (2, false), (3, false), (4, false), (5, false), (6, false), (7, false), (8, false), (9, false), (10, false)] (by kernel_rfl) ?_
  refine mv0 rfl rfl ?_
  refine Dv.nilA HHeap.nn rfl trivial rfl (mem_at 0 rfl) ?_
  refine Dv.gh (l' := fun (g431 : Nat × OV × OV) => [blk g431.1 81 [eq g431.2.1.1, eq g431.2.2.1], own HEnt.K g431.2.1.1 a0.fl, mp Value.string (fun x : Int => eq (.int .i64 x)) g431.2.2.1 a0.fat] ++ F) (gh_of (HHeap.opn 0 rfl)) (fun g431 h432 => ?_)
  refine Dv.fabp h432 rfl trivial rfl Tryz.underlying81 rfl Tryz.underlying78 c78 (by decide) ?_
  refine Dv.ldb rfl trivial rfl Tryz.underlying78 rfl (mem_at 0 rfl) rfl ?_
  refine mv0 rfl rfl ?_
  refine Dv.mlk 0 rfl trivial rfl (mem_at 2 rfl) rfl Tryz.underlying78 (keyOk_str Tryz.underlying9) z3 (fun _ => rfl) ?_
  refine mv0 rfl rfl ?_
  refine Dv.ext rfl trivial rfl rfl ?_
  refine Dv.ext rfl trivial rfl rfl ?_
  refine as0 rfl rfl ?_
  refine as0 rfl rfl ?_
  refine .fin ?_
  refine WP.seq ?_
  refine WP.seq ?_
  refine WP.reg [(0, false), (1, false)] (by kernel_rfl) ?_
  refine mv0 rfl rfl ?_
  refine Dv.un rfl trivial rfl (fun _ => run_not _) ?_
  refine .fin ?_
  refine WP.cond rfl (fun c433 => ?_) (fun c433 => ?_)
  · replace H := Gets.ct H c433
    refine WP.seq ?_
    refine WP.reg [(0, false)] (by kernel_rfl) ?_
    refine as0 rfl rfl ?_
    refine .fin ?_
    refine WP.gh (l' := fun _ : Unit => [HHeap.O p0_ a0] ++ F) (gh_of (HHeap.shut (p := p0_) (m := a0) (r := F) (g431.1, g431.2.1, g431.2.2) h432 (perm_ton 3 [0, 1, 2] rfl rfl rfl))) (fun _ _ => ?_)
    obtain rfl := Gets.out H
    exact WP.retL (fun _ _ h => h) rfl () trivial (.cons (res_tmp rfl) .nil) rfl (st_seln 1 [0] 0 rfl rfl rfl)
  · replace H := Gets.cf H c433
    refine WP.skip ?_
    refine WP.seq ?_
    refine WP.reg [(0, false), (1, false), (2, false), (3, false), (4, false), (5, true)] (by kernel_rfl) ?_
    refine mv0 rfl rfl ?_
    refine Dv.nilpp h432 rfl trivial rfl ?_
    refine Dv.fabp h432 rfl trivial rfl Tryz.underlying81 rfl Tryz.underlying78 c78 (by decide) ?_
    refine Dv.ldb rfl trivial rfl Tryz.underlying78 rfl (mem_at 0 rfl) rfl ?_
    refine mv0 rfl rfl ?_
    refine Dv.mdl (jj := 2) rfl trivial rfl rfl rfl Tryz.underlying78 (keyOk_str Tryz.underlying9) nofun ?_
    refine .fin ?_
    refine WP.seq ?_
    refine WP.reg [(0, false), (1, false), (2, false), (3, false), (4, false), (5, false), (6, false)] (by kernel_rfl) ?_
    refine mv0 rfl rfl ?_
    refine Dv.nilpp h432 rfl trivial rfl ?_
    refine Dv.fabp h432 rfl trivial rfl Tryz.underlying81 rfl Tryz.underlying79 c79 (by decide) ?_
    refine Dv.ldb rfl trivial rfl Tryz.underlying79 rfl (mem_at 0 rfl) rfl ?_
    refine Dv.lenw rfl trivial rfl (mem_at 1 rfl) Tryz.underlying79 ?_
    refine Dv.bin rfl trivial rfl rfl (fun _ => run_sub) ?_
    refine as0 rfl rfl ?_
    refine .fin ?_
    refine WP.seq ?_
    refine WP.reg [(0, false), (1, false), (2, false), (3, false), (4, false), (5, false), (6, false), (7, true), (8, true)] (by kernel_rfl) ?_
    refine mv0 rfl rfl ?_
    refine Dv.nilpp h432 rfl trivial rfl ?_
    refine Dv.fabp h432 rfl trivial rfl Tryz.underlying81 rfl Tryz.underlying79 c79 (by decide) ?_
    refine Dv.ldb rfl trivial rfl Tryz.underlying79 rfl (mem_at 0 rfl) rfl ?_
    refine mv0 rfl rfl ?_
    obtain ⟨g434, H⟩ := Gets.grd H
    have h435 : (w64 ((a0.fl.length : Int) - 1)).toNat < a0.fl.length := idx_lt g434
    refine Dv.ixw rfl trivial rfl (mem_at 1 rfl) rfl Tryz.underlying79 Tryz.underlying74 c74 g434.1 g434.2 ?_
    refine Dv.ldws (j := ((w64 ((a0.fl.length : Int) - 1)).toNat)) (f := 0) rfl trivial rfl (mem_at 1 rfl) h435 Tryz.underlying74 rfl c74 (Nat.le_of_ble_eq_true rfl) ?_
    refine Dv.alloc (z := .agg #[.int .i64 0, .string ⟨#[]⟩]) (qs := [eq (.int .i64 0), eq (.string (⟨#[]⟩ : ByteArray))]) rfl trivial z74 rfl nofun (fun b436 => ?_)
    refine Dv.stx ([blk b436 74 [eq (.int .i64 ((a0.fl.getD ((w64 ((a0.fl.length : Int) - 1)).toNat) default).fAt)), eq (.string ((a0.fl.getD ((w64 ((a0.fl.length : Int) - 1)).toNat) default).fKey))], blk g431.1 81 [eq g431.2.1.1, eq g431.2.2.1], own HEnt.K g431.2.1.1 a0.fl, mp Value.string (fun x : Int => eq (.int .i64 x)) g431.2.2.1 (mdel a0.fat a1)] ++ F) rfl trivial rfl rfl (cells_agg (HEnt.K.one _)) Tryz.underlying74 c74 rfl (j := 0) rfl (Nat.le_of_ble_eq_true rfl) rfl nofun ?_
    refine .fin ?_
    refine WP.seq ?_
    refine WP.reg [(0, false), (1, false), (2, false), (3, false), (4, false), (5, false), (6, true), (7, false), (8, false), (9, true)] (by kernel_rfl) ?_
    refine mv0 rfl rfl ?_
    refine mv0 rfl rfl ?_
    refine Dv.nilpp h432 rfl trivial rfl ?_
    refine Dv.fabp h432 rfl trivial rfl Tryz.underlying81 rfl Tryz.underlying79 c79 (by decide) ?_
    refine Dv.ldb rfl trivial rfl Tryz.underlying79 rfl (mem_at 1 rfl) rfl ?_
    refine mv0 rfl rfl ?_
    obtain ⟨g437, H⟩ := Gets.grd H
    refine Dv.slo (jj := 2) rfl trivial rfl rfl Tryz.underlying79 Tryz.underlying74 c74 bdE_none (bdE_some rfl g437.1) (.inl rfl) g437.2.1 g437.2.2 nofun (fun v438 => ?_)
    refine Dv.nilpp h432 rfl trivial rfl ?_
    refine Dv.fabp h432 rfl trivial rfl Tryz.underlying81 rfl Tryz.underlying79 c79 (by decide) ?_
    refine Dv.stx ([blk b436 74 [eq (.int .i64 ((a0.fl.getD ((w64 ((a0.fl.length : Int) - 1)).toNat) default).fAt)), eq (.string ((a0.fl.getD ((w64 ((a0.fl.length : Int) - 1)).toNat) default).fKey))], blk g431.1 81 [eq v438.1, eq g431.2.2.1], own HEnt.K v438.1 ((a0.fl.take ((w64 ((a0.fl.length : Int) - 1)).toNat)).drop 0), mp Value.string (fun x : Int => eq (.int .i64 x)) g431.2.2.1 (mdel a0.fat a1)] ++ F) rfl trivial rfl rfl (cells_one one_ov) Tryz.underlying79 c79 rfl (j := 1) rfl (Nat.le_of_ble_eq_true rfl) rfl nofun ?_
    refine .fin ?_
    refine WP.seq ?_
    refine WP.seq ?_
    refine WP.reg [(0, false), (1, false), (2, false)] (by kernel_rfl) ?_
    refine mv0 rfl rfl ?_
    refine mv0 rfl rfl ?_
    refine Dv.bin rfl trivial rfl rfl (fun _ => run_lt) ?_
    refine .fin ?_
    refine WP.cond rfl (fun c439 => ?_) (fun c439 => ?_)
    · replace H := Gets.ct H c439
      refine WP.seq ?_
      refine WP.reg [(0, false), (1, false), (2, false), (3, true)] (by kernel_rfl) ?_
      refine mv0 rfl rfl ?_
      refine mv0 rfl rfl ?_
      refine Dv.ldbs rfl trivial rfl Tryz.underlying74 rfl c74 (mem_at 0 rfl) (Nat.le_of_ble_eq_true rfl) ?_
      refine Dv.gh (l' := fun _ : Unit => [HHeap.O p0_ (⟨(a0.fl.take ((w64 ((a0.fl.length : Int) - 1)).toNat)).drop 0, mdel a0.fat a1⟩ : HHeap), blk b436 74 [eq (.int .i64 ((a0.fl.getD ((w64 ((a0.fl.length : Int) - 1)).toNat) default).fAt)), eq (.string ((a0.fl.getD ((w64 ((a0.fl.length : Int) - 1)).toNat) default).fKey))]] ++ F) (gh_of (HHeap.shut (p := p0_) (m := (⟨(a0.fl.take ((w64 ((a0.fl.length : Int) - 1)).toNat)).drop 0, mdel a0.fat a1⟩ : HHeap)) (r := [blk b436 74 [eq (.int .i64 ((a0.fl.getD ((w64 ((a0.fl.length : Int) - 1)).toNat) default).fAt)), eq (.string ((a0.fl.getD ((w64 ((a0.fl.length : Int) - 1)).toNat) default).fKey))]] ++ F) (g431.1, v438, g431.2.2) h432 (perm_ton 4 [1, 2, 3, 0] rfl rfl rfl))) (fun _ _ => ?_)
      obtain ⟨t440, h441, H⟩ := Gets.call H
      refine Dv.callx (pre := [HHeap.O p0_ (⟨(a0.fl.take ((w64 ((a0.fl.length : Int) - 1)).toNat)).drop 0, mdel a0.fat a1⟩ : HHeap)]) (F := [blk b436 74 [eq (.int .i64 ((a0.fl.getD ((w64 ((a0.fl.length : Int) - 1)).toNat) default).fAt)), eq (.string ((a0.fl.getD ((w64 ((a0.fl.length : Int) - 1)).toNat) default).fKey))]] ++ F) (fun _ : Unit => [HHeap.O p0_ t440, blk b436 74 [eq (.int .i64 ((a0.fl.getD ((w64 ((a0.fl.length : Int) - 1)).toNat) default).fAt)), eq (.string ((a0.fl.getD ((w64 ((a0.fl.length : Int) - 1)).toNat) default).fKey))]] ++ F) rfl trivial cal59 rfl (heap_Heap_set.c h441 (p0_ := p0_)) (perm_ton 2 [0, 1] rfl rfl rfl) rfl nofun (fun _ _ => ?_)
      refine .fin ?_
      refine WP.seq ?_
      refine WP.reg [(0, false), (1, false), (2, true)] (by kernel_rfl) ?_
      refine mv0 rfl rfl ?_
      refine mv0 rfl rfl ?_
      obtain ⟨t442, h443, H⟩ := Gets.call H
      refine Dv.callx (pre := [HHeap.O p0_ t440]) (F := [blk b436 74 [eq (.int .i64 ((a0.fl.getD ((w64 ((a0.fl.length : Int) - 1)).toNat) default).fAt)), eq (.string ((a0.fl.getD ((w64 ((a0.fl.length : Int) - 1)).toNat) default).fKey))]] ++ F) (fun _ : Unit => [HHeap.O p0_ t442, blk b436 74 [eq (.int .i64 ((a0.fl.getD ((w64 ((a0.fl.length : Int) - 1)).toNat) default).fAt)), eq (.string ((a0.fl.getD ((w64 ((a0.fl.length : Int) - 1)).toNat) default).fKey))]] ++ F) rfl trivial cal60 rfl (heap_Heap_down.c h443 (p0_ := p0_)) (perm_ton 2 [0, 1] rfl rfl rfl) rfl nofun (fun _ _ => ?_)
      refine .fin ?_
      refine WP.gh (l' := fun (g444 : Nat × OV × OV) => [blk g444.1 81 [eq g444.2.1.1, eq g444.2.2.1], own HEnt.K g444.2.1.1 t442.fl, mp Value.string (fun x : Int => eq (.int .i64 x)) g444.2.2.1 t442.fat, blk b436 74 [eq (.int .i64 ((a0.fl.getD ((w64 ((a0.fl.length : Int) - 1)).toNat) default).fAt)), eq (.string ((a0.fl.getD ((w64 ((a0.fl.length : Int) - 1)).toNat) default).fKey))]] ++ F) (gh_of (HHeap.opn 0 rfl)) (fun g444 h445 => ?_)
      refine WP.dreg Tryz.checked.mixed [(0, false), (1, false), (2, false), (3, false), (4, false), (5, false), (6, false), (7, false), (8, true)] (by kernel_rfl) ?_
      refine mv0 rfl rfl ?_
      refine mv0 rfl rfl ?_
      refine Dv.nilpp h445 rfl trivial rfl ?_
      refine Dv.fabp h445 rfl trivial rfl Tryz.underlying81 rfl Tryz.underlying78 c78 (by decide) ?_
      refine Dv.ldb rfl trivial rfl Tryz.underlying78 rfl (mem_at 0 rfl) rfl ?_
      refine Dv.fab rfl trivial rfl Tryz.underlying74 rfl Tryz.underlying9 c9 (by decide) ?_
      refine Dv.ldb rfl trivial rfl Tryz.underlying9 rfl (mem_at 3 rfl) rfl ?_
      refine Dv.mlv 0 rfl trivial rfl (mem_at 2 rfl) rfl Tryz.underlying78 (keyOk_str Tryz.underlying9) z3 (fun _ => rfl) ?_
      obtain ⟨t446, h447, H⟩ := Gets.call H
      refine Dv.callx (pre := [blk g444.1 81 [eq g444.2.1.1, eq g444.2.2.1], own HEnt.K g444.2.1.1 t442.fl, mp Value.string (fun x : Int => eq (.int .i64 x)) g444.2.2.1 t442.fat]) (F := [blk b436 74 [eq (.int .i64 ((a0.fl.getD ((w64 ((a0.fl.length : Int) - 1)).toNat) default).fAt)), eq (.string ((a0.fl.getD ((w64 ((a0.fl.length : Int) - 1)).toNat) default).fKey))]] ++ F) (fun _ : Unit => [HHeap.O p0_ t446, blk b436 74 [eq (.int .i64 ((a0.fl.getD ((w64 ((a0.fl.length : Int) - 1)).toNat) default).fAt)), eq (.string ((a0.fl.getD ((w64 ((a0.fl.length : Int) - 1)).toNat) default).fKey))]] ++ F) rfl trivial cal61 rfl (Tr.pre (pre' := [blk g444.1 81 [eq g444.2.1.1, eq g444.2.2.1], own HEnt.K g444.2.1.1 t442.fl, mp Value.string (fun x : Int => eq (.int .i64 x)) g444.2.2.1 t442.fat]) (heap_Heap_up.c h447 (p0_ := p0_)) (fun F R w => HHeap.shut (p := p0_) (m := t442) (r := F) (g444.1, g444.2.1, g444.2.2) h445 (List.Perm.refl _) R w)) (perm_ton 4 [0, 1, 2, 3] rfl rfl rfl) rfl (fun _ => pendc (pend_bits (by kernel_rfl))) (fun _ _ => ?_)
      refine .fin ?_
      refine WP.seq ?_
      refine WP.reg [(0, false)] (by kernel_rfl) ?_
      refine as0 rfl rfl ?_
      refine .fin ?_
      obtain rfl := Gets.out H
      exact WP.retL (fun _ _ h => h) rfl () trivial (.cons (res_tmp rfl) .nil) rfl (st_seln 2 [1, 0] 1 rfl rfl rfl)
    · replace H := Gets.cf H c439
      refine WP.skip ?_
      refine WP.seq ?_
      refine WP.reg [(0, false)] (by kernel_rfl) ?_
      refine as0 rfl rfl ?_
      refine .fin ?_
      refine WP.gh (l' := fun _ : Unit => [HHeap.O p0_ (⟨(a0.fl.take ((w64 ((a0.fl.length : Int) - 1)).toNat)).drop 0, mdel a0.fat a1⟩ : HHeap), blk b436 74 [eq (.int .i64 ((a0.fl.getD ((w64 ((a0.fl.length : Int) - 1)).toNat) default).fAt)), eq (.string ((a0.fl.getD ((w64 ((a0.fl.length : Int) - 1)).toNat) default).fKey))]] ++ F) (gh_of (HHeap.shut (p := p0_) (m := (⟨(a0.fl.take ((w64 ((a0.fl.length : Int) - 1)).toNat)).drop 0, mdel a0.fat a1⟩ : HHeap)) (r := [blk b436 74 [eq (.int .i64 ((a0.fl.getD ((w64 ((a0.fl.length : Int) - 1)).toNat) default).fAt)), eq (.string ((a0.fl.getD ((w64 ((a0.fl.length : Int) - 1)).toNat) default).fKey))]] ++ F) (g431.1, v438, g431.2.2) h432 (perm_ton 4 [1, 2, 3, 0] rfl rfl rfl))) (fun _ _ => ?_)
      obtain rfl := Gets.out H
      exact WP.retL (fun _ _ h => h) rfl () trivial (.cons (res_tmp rfl) .nil) rfl (st_seln 2 [1, 0] 1 rfl rfl rfl)
theorem presence_state.c {a0 : Edu} {a1 : Int} {r : Int} (h : presence_state.f a0 a1 = some r) : Pt Tryz.prog 38 [agg (Edu.enc a0), eq (.int .i64 a1)] (eq (.int .i64 r)) := by
  unfold presence_state.f at h
  refine (Tr.body Tryz.func38 (c := _) rfl Tryz.ntmps38 (Nat.le_of_ble_eq_true rfl) fun R0 F => ?_).pt
  replace h := Gets.of h
  have H := h
  clear h
  refine WP.seq ?_
  refine WP.reg [(0, true), (1, false)] (by kernel_rfl) ?_
  refine Dv.box rfl trivial rfl (cells_agg (Edu.K.one _)) nofun (fun b448 => ?_)
  refine as0 rfl rfl ?_
  refine .fin ?_
  refine WP.seq ?_
  refine WP.seq ?_
  refine WP.reg [(0, false), (1, false)] (by kernel_rfl) ?_
  refine Dv.fab rfl trivial rfl Tryz.underlying32 rfl Tryz.underlying3 c3 (by decide) ?_
  refine Dv.ldb rfl trivial rfl Tryz.underlying3 rfl (mem_at 0 rfl) rfl ?_
  refine .fin ?_
  refine WP.block ?_
  refine WP.seq ?_
  refine WP.block ?_
  refine WP.seq ?_
  refine WP.block ?_
  refine WP.seq ?_
  refine WP.seq ?_
  refine WP.seq ?_
  refine WP.reg [(0, false), (1, false)] (by kernel_rfl) ?_
  refine Dv.bin rfl trivial rfl rfl (fun _ => run_eq) ?_
  refine as0 rfl rfl ?_
  refine .fin ?_
  refine WP.cond rfl (fun c449 => ?_) (fun c449 => ?_)
  · replace H := Gets.ct H c449
    refine WP.exit ?_
    refine WP.seq ?_
    refine WP.reg [(0, false), (1, false), (2, false), (3, false), (4, false)] (by kernel_rfl) ?_
    refine mv0 rfl rfl ?_
    refine Dv.fab rfl trivial rfl Tryz.underlying32 rfl Tryz.underlying3 c3 (by decide) ?_
    refine Dv.ldb rfl trivial rfl Tryz.underlying3 rfl (mem_at 0 rfl) rfl ?_
    refine Dv.bin rfl trivial rfl rfl (fun _ => run_add) ?_
    refine Dv.bin rfl trivial rfl rfl (fun _ => run_lt) ?_
    refine .fin ?_
    refine WP.cond rfl (fun c450 => ?_) (fun c450 => ?_)
    · replace H := Gets.ct H c450
      refine WP.seq ?_
      refine WP.reg [(0, false)] (by kernel_rfl) ?_
      refine as0 rfl rfl ?_
      refine .fin ?_
      obtain rfl := Gets.out H
      exact WP.retL (fun _ _ h => h) rfl () trivial (.cons (res_tmp rfl) .nil) rfl (st_seln 1 [0] 1 rfl rfl rfl)
    · replace H := Gets.cf H c450
      refine WP.skip ?_
      refine WP.seq ?_
      refine WP.seq ?_
      refine WP.reg [(0, false), (1, false), (2, false), (3, false), (4, false)] (by kernel_rfl) ?_
      refine mv0 rfl rfl ?_
      refine Dv.fab rfl trivial rfl Tryz.underlying32 rfl Tryz.underlying3 c3 (by decide) ?_
      refine Dv.ldb rfl trivial rfl Tryz.underlying3 rfl (mem_at 0 rfl) rfl ?_
      refine Dv.bin rfl trivial rfl rfl (fun _ => run_add) ?_
      refine Dv.bin rfl trivial rfl rfl (fun _ => run_lt) ?_
      refine .fin ?_
      refine WP.cond rfl (fun c451 => ?_) (fun c451 => ?_)
      · replace H := Gets.ct H c451
        refine WP.seq ?_
        refine WP.reg [(0, false)] (by kernel_rfl) ?_
        refine as0 rfl rfl ?_
        refine .fin ?_
        obtain rfl := Gets.out H
        exact WP.retL (fun _ _ h => h) rfl () trivial (.cons (res_tmp rfl) .nil) rfl (st_seln 1 [0] 1 rfl rfl rfl)
      · replace H := Gets.cf H c451
        refine WP.skip ?_
        refine WP.exit ?_
        refine WP.seq ?_
        refine WP.reg [(0, false)] (by kernel_rfl) ?_
        refine as0 rfl rfl ?_
        refine .fin ?_
        obtain rfl := Gets.out H
        exact WP.retL (fun _ _ h => h) rfl () trivial (.cons (res_tmp rfl) .nil) rfl (st_seln 1 [0] 1 rfl rfl rfl)
  · replace H := Gets.cf H c449
    refine WP.skip ?_
    refine WP.seq ?_
    refine WP.reg [(0, false), (1, false)] (by kernel_rfl) ?_
    refine Dv.bin rfl trivial rfl rfl (fun _ => run_eq) ?_
    refine as0 rfl rfl ?_
    refine .fin ?_
    refine WP.cond rfl (fun c452 => ?_) (fun c452 => ?_)
    · replace H := Gets.ct H c452
      refine WP.exit ?_
      refine WP.seq ?_
      refine WP.seq ?_
      refine WP.reg [(0, false), (1, false), (2, false), (3, false), (4, false)] (by kernel_rfl) ?_
      refine mv0 rfl rfl ?_
      refine Dv.fab rfl trivial rfl Tryz.underlying32 rfl Tryz.underlying3 c3 (by decide) ?_
      refine Dv.ldb rfl trivial rfl Tryz.underlying3 rfl (mem_at 0 rfl) rfl ?_
      refine Dv.bin rfl trivial rfl rfl (fun _ => run_add) ?_
      refine Dv.bin rfl trivial rfl rfl (fun _ => run_lt) ?_
      refine .fin ?_
      refine WP.cond rfl (fun c453 => ?_) (fun c453 => ?_)
      · replace H := Gets.ct H c453
        refine WP.seq ?_
        refine WP.reg [(0, false)] (by kernel_rfl) ?_
        refine as0 rfl rfl ?_
        refine .fin ?_
        obtain rfl := Gets.out H
        exact WP.retL (fun _ _ h => h) rfl () trivial (.cons (res_tmp rfl) .nil) rfl (st_seln 1 [0] 1 rfl rfl rfl)
      · replace H := Gets.cf H c453
        refine WP.skip ?_
        refine WP.exit ?_
        refine WP.seq ?_
        refine WP.reg [(0, false)] (by kernel_rfl) ?_
        refine as0 rfl rfl ?_
        refine .fin ?_
        obtain rfl := Gets.out H
        exact WP.retL (fun _ _ h => h) rfl () trivial (.cons (res_tmp rfl) .nil) rfl (st_seln 1 [0] 1 rfl rfl rfl)
    · replace H := Gets.cf H c452
      refine WP.skip ?_
      refine WP.exit ?_
      refine WP.seq ?_
      refine WP.reg [(0, false)] (by kernel_rfl) ?_
      refine as0 rfl rfl ?_
      refine .fin ?_
      obtain rfl := Gets.out H
      exact WP.retL (fun _ _ h => h) rfl () trivial (.cons (res_tmp rfl) .nil) rfl (st_seln 1 [0] 1 rfl rfl rfl)
theorem presence_turn.c {k : Nat} {a0 : Edu} {a1 : Int} {r : Int × Bool} (h : presence_turn.f k a0 a1 = some r) : Pt Tryz.prog 36 [agg (Edu.enc a0), eq (.int .i64 a1)] (tup [eq (.int .i64 r.1), eq (.bool r.2)]) := by
  unfold presence_turn.f at h
  refine (Tr.body Tryz.func36 (c := _) rfl Tryz.ntmps36 (Nat.le_of_ble_eq_true rfl) fun R0 F => ?_).pt
  replace h := Gets.of h
  have H := h
  clear h
  refine WP.seq ?_
  refine WP.reg [(0, true), (1, false), (2, false)] (by kernel_rfl) ?_
  refine Dv.box rfl trivial rfl (cells_agg (Edu.K.one _)) nofun (fun b454 => ?_)
  refine as0 rfl rfl ?_
  refine as0 rfl rfl ?_
  refine .fin ?_
  refine WP.seqr H id (fun p455 : Int × Bool => [(0, agg (Edu.enc a0)), (1, eq (.int .i64 a1)), (2, eq (.pointer (some ⟨b454, 0, none⟩))), (4, eq (.int .i64 0)), (5, eq (.bool false)), (9, agg [eq (.int .i64 30), eq (.int .i64 90)]), (10, eq (.int .i64 p455.1)), (11, eq (.bool p455.2))]) (fun p455 : Int × Bool => [blk b454 32 [eq (.int .i64 a0.fKind), eq (.string a0.fRoom), eq (.string a0.fUser), eq (.string a0.fEvent), eq (.string a0.fThread), eq (.bool a0.fPrivate), eq (.bool a0.fOn), eq (.int .i64 a0.fSpan), eq (.int .i64 a0.fState), eq (.int .i64 a0.fTick), eq (.int .i64 a0.fStamp)]] ++ F) (fun p455 H => ?_) (fun H => ?_)
  · refine WP.seq ?_
    refine WP.reg [(0, false), (1, false)] (by kernel_rfl) ?_
    refine as0 rfl rfl ?_
    refine as0 rfl rfl ?_
    refine .fin ?_
    obtain rfl := Gets.out H
    exact WP.retL (fun _ _ h => h) rfl () trivial (.cons (res_tmp rfl) (.cons (res_tmp rfl) .nil)) rfl (st_seln 1 [0] 1 rfl rfl rfl)
  · refine WP.seq ?_
    refine WP.reg [(0, false), (1, false)] (by kernel_rfl) ?_
    refine Dv.blda (qs := [eq (.int .i64 30), eq (.int .i64 90)]) (css := [[eq (.int .i64 30)], [eq (.int .i64 90)]]) rfl trivial Tryz.underlying93 Tryz.underlying3 c3 z93 rfl ⟨(cells_one (one_eq rfl)), ⟨(cells_one (one_eq rfl)), trivial⟩⟩ rfl rfl ?_
    refine mv0 rfl rfl ?_
    refine .fin ?_
    refine WP.block ?_
    refine WP.gh (l' := fun _ => [blk b454 32 [eq (.int .i64 a0.fKind), eq (.string a0.fRoom), eq (.string a0.fUser), eq (.string a0.fEvent), eq (.string a0.fThread), eq (.bool a0.fPrivate), eq (.bool a0.fOn), eq (.int .i64 a0.fSpan), eq (.int .i64 a0.fState), eq (.int .i64 a0.fTick), eq (.int .i64 a0.fStamp)]] ++ F) (gh_of (st_selgn 1 [0] 0 rfl rfl rfl)) (fun _ _ => ?_)
    refine WP.loopg (fun j_ (p467 : Int) => presence_turn.l0 k a0 a1 j_ p467) 0 H (fun p467 => [(0, agg (Edu.enc a0)), (1, eq (.int .i64 a1)), (2, eq (.pointer (some ⟨b454, 0, none⟩))), (4, eq (.int .i64 0)), (5, eq (.bool false)), (9, agg [eq (.int .i64 30), eq (.int .i64 90)]), (10, eq (.int .i64 p467))]) (fun p467 => [blk b454 32 [eq (.int .i64 a0.fKind), eq (.string a0.fRoom), eq (.string a0.fUser), eq (.string a0.fEvent), eq (.string a0.fThread), eq (.bool a0.fPrivate), eq (.bool a0.fOn), eq (.int .i64 a0.fSpan), eq (.int .i64 a0.fState), eq (.int .i64 a0.fTick), eq (.int .i64 a0.fStamp)]] ++ F) (weak_cons rfl (weak_cons rfl (weak_cons rfl (weak_cons rfl (weak_cons rfl (weak_cons rfl (weak_cons rfl weak_nil))))))) (List.Perm.refl _) ?_
    rintro j_ x456 H
    rcases j_ with _ | j466
    · exact (Gets.no H).elim
    replace H : Gets (presence_turn.l0 k a0 a1 (j466 + 1) x456) _ := H
    rw [presence_turn.l0] at H
    refine WP.seq ?_
    refine WP.reg [(0, false)] (by kernel_rfl) ?_
    refine Dv.bin rfl trivial rfl rfl (fun _ => run_lt) ?_
    refine .fin ?_
    refine WP.seq ?_
    refine WP.cond rfl (fun c457 => ?_) (fun c457 => ?_)
    · replace H := Gets.ct H c457
      refine WP.skip ?_
      refine WP.seq ?_
      refine WP.block ?_
      refine WP.seq ?_
      refine WP.reg [(0, false), (1, false)] (by kernel_rfl) ?_
      obtain ⟨g458, H⟩ := Gets.grd H
      refine Dv.ixa (Kd := (intK .i64)) (xs := ([30, 90] : List Int)) rfl trivial rfl rfl rfl Tryz.underlying93 Tryz.underlying3 rfl c3 rfl rfl g458.1 g458.2 rfl ?_
      refine as0 rfl rfl ?_
      refine .fin ?_
      refine WP.seq ?_
      refine WP.reg [(0, false), (1, false), (2, false), (3, false), (4, false)] (by kernel_rfl) ?_
      refine Dv.fab rfl trivial rfl Tryz.underlying32 rfl Tryz.underlying3 c3 (by decide) ?_
      refine Dv.ldb rfl trivial rfl Tryz.underlying3 rfl (mem_at 0 rfl) rfl ?_
      refine mv0 rfl rfl ?_
      refine Dv.bin rfl trivial rfl rfl (fun _ => run_add) ?_
      refine as0 rfl rfl ?_
      refine .fin ?_
      refine WP.seq ?_
      refine WP.dreg Tryz.checked.mixed [(0, false), (1, false), (2, false), (3, false), (4, false), (5, false), (6, false), (7, false), (8, false), (9, false), (10, false), (11, false), (12, false)] (by kernel_rfl) ?_
      refine mv0 rfl rfl ?_
      refine mv0 rfl rfl ?_
      refine Dv.bin rfl trivial rfl rfl (fun _ => run_gt) ?_
      refine mv0 rfl rfl ?_
      cases c459 : decide (a1 < (w64 (a0.fTick + ((intK .i64).at ([30, 90] : List Int) x456))))
      · replace H := Gets.cf H c459
        refine sk rfl rfl rfl rfl rfl ?_
        refine sk rfl rfl rfl rfl rfl ?_
        refine sk rfl rfl rfl rfl rfl ?_
        refine sk rfl rfl rfl rfl rfl ?_
        refine sk rfl rfl rfl rfl rfl ?_
        refine sk rfl rfl rfl rfl rfl ?_
        refine sk rfl rfl rfl rfl rfl ?_
        refine sk rfl rfl rfl rfl rfl ?_
        refine Dv.pickF rfl trivial rfl rfl ?_
        refine .fin ?_
        refine WP.cond rfl nofun (fun _ => ?_)
        refine WP.skip ?_
        refine WP.reg [(0, false), (1, false)] (by kernel_rfl) ?_
        refine Dv.bin rfl trivial rfl rfl (fun _ => run_add) ?_
        refine mv0 rfl rfl ?_
        refine .fin ?_
        exact Back.mk j466 (w64 (x456 + 1)) (Nat.lt_succ_self _) H (weak_cons rfl (weak_cons rfl (weak_cons rfl (weak_cons rfl (weak_cons rfl (weak_cons rfl (weak_cons rfl weak_nil))))))) (List.Perm.refl _)
      · replace H := Gets.ct H c459
        refine Dv.ldbs rfl ⟨_, _, rfl, rfl, rfl⟩ rfl Tryz.underlying32 rfl c32 (mem_at 0 rfl) (Nat.le_of_ble_eq_true rfl) ?_
        refine Dv.mv rfl ⟨_, _, rfl, rfl, rfl⟩ rfl ?_
        refine Dv.bin rfl ⟨_, _, rfl, rfl, rfl⟩ rfl rfl (fun _ => run_sub) ?_
        obtain ⟨t460, h461, H⟩ := Gets.call H
        refine Dv.call rfl ⟨_, _, rfl, rfl, rfl⟩ cal38 rfl (presence_state.c h461) ?_
        refine Dv.ldbs rfl ⟨_, _, rfl, rfl, rfl⟩ rfl Tryz.underlying32 rfl c32 (mem_at 0 rfl) (Nat.le_of_ble_eq_true rfl) ?_
        refine Dv.mv rfl ⟨_, _, rfl, rfl, rfl⟩ rfl ?_
        obtain ⟨t462, h463, H⟩ := Gets.call H
        refine Dv.call rfl ⟨_, _, rfl, rfl, rfl⟩ cal38 rfl (presence_state.c h463) ?_
        refine Dv.bin rfl ⟨_, _, rfl, rfl, rfl⟩ rfl rfl (fun _ => run_gt) ?_
        refine Dv.pickT rfl trivial rfl rfl ?_
        refine .fin ?_
        refine WP.cond rfl (fun c464 => ?_) (fun c464 => ?_)
        · replace H := Gets.ct H c464
          refine WP.seq ?_
          refine WP.reg [(0, false), (1, false), (2, false)] (by kernel_rfl) ?_
          refine mv0 rfl rfl ?_
          refine as0 rfl rfl ?_
          refine as0 rfl rfl ?_
          refine .fin ?_
          replace H := Gets.outr H
          obtain rfl := Gets.out H
          exact WP.retL (fun _ _ h => h) rfl () trivial (.cons (res_tmp rfl) (.cons (res_tmp rfl) .nil)) rfl (st_seln 1 [0] 1 rfl rfl rfl)
        · replace H := Gets.cf H c464
          refine WP.skip ?_
          refine WP.reg [(0, false), (1, false)] (by kernel_rfl) ?_
          refine Dv.bin rfl trivial rfl rfl (fun _ => run_add) ?_
          refine mv0 rfl rfl ?_
          refine .fin ?_
          exact Back.mk j466 (w64 (x456 + 1)) (Nat.lt_succ_self _) H (weak_cons rfl (weak_cons rfl (weak_cons rfl (weak_cons rfl (weak_cons rfl (weak_cons rfl (weak_cons rfl weak_nil))))))) (List.Perm.refl _)
    · replace H := Gets.cf H c457
      refine WP.exit ?_
      replace H := Gets.out H
      exact Jn.mk (x456, decide (x456 < 2)) H (weak_cons rfl (weak_cons rfl (weak_cons rfl (weak_cons rfl (weak_cons rfl (weak_cons rfl (weak_cons rfl (weak_cons rfl weak_nil)))))))) (List.Perm.refl _)
theorem heap_Heap_Put.c {k : Nat} {a0 : HHeap} {a1 : Int} {a2 : ByteArray} {p0_ : OV} {r : HHeap} (h : heap_Heap_Put.f k a0 a1 a2 = some r) : Tr Tryz.prog 37 [eq p0_.1, eq (.int .i64 a1), eq (.string a2)] [HHeap.O p0_ a0] (γ := Unit) (fun _ => True) (fun g => tup []) (fun g => [HHeap.O p0_ r]) := by
  unfold heap_Heap_Put.f at h
  refine Tr.body Tryz.func37 (c := _) rfl Tryz.ntmps37 (Nat.le_of_ble_eq_true rfl) fun R0 F => ?_
  replace h := Gets.of h
  have H := h
  clear h
  refine WP.seq ?_
  refine WP.reg [(0, false), (1, false), (2, true)] (by kernel_rfl) ?_
  refine mv0 rfl rfl ?_
  refine mv0 rfl rfl ?_
  obtain ⟨t468, h469, H⟩ := Gets.call H
  refine Dv.callx (pre := [HHeap.O p0_ a0]) (F := [] ++ F) (fun _ : Unit => [HHeap.O p0_ t468.2] ++ F) rfl trivial cal35 rfl (heap_Heap_Drop.c h469 (p0_ := p0_)) (perm_ton 1 [0] rfl rfl rfl) rfl nofun (fun _ _ => ?_)
  refine .fin ?_
  refine WP.seq ?_
  refine WP.reg [(0, false), (1, false), (2, false), (3, false), (4, false), (5, false), (6, false), (7, false), (8, false), (9, true), (10, false), (11, false), (12, true)] (by kernel_rfl) ?_
  refine mv0 rfl rfl ?_
  refine mv0 rfl rfl ?_
  refine Dv.nilA HHeap.nn rfl trivial rfl (mem_at 0 rfl) ?_
  refine Dv.gh (l' := fun (g470 : Nat × OV × OV) => [blk g470.1 81 [eq g470.2.1.1, eq g470.2.2.1], own HEnt.K g470.2.1.1 t468.2.fl, mp Value.string (fun x : Int => eq (.int .i64 x)) g470.2.2.1 t468.2.fat] ++ F) (gh_of (HHeap.opn 0 rfl)) (fun g470 h471 => ?_)
  refine Dv.fabp h471 rfl trivial rfl Tryz.underlying81 rfl Tryz.underlying79 c79 (by decide) ?_
  refine Dv.ldb rfl trivial rfl Tryz.underlying79 rfl (mem_at 0 rfl) rfl ?_
  refine mv0 rfl rfl ?_
  refine mv0 rfl rfl ?_
  refine Dv.bld (css := [[eq (.int .i64 a1)], [eq (.string a2)]]) rfl trivial Tryz.underlying74 pl74 z74 rfl ⟨(cells_one (one_eq rfl)), ⟨(cells_one (one_eq rfl)), trivial⟩⟩ rfl rfl ?_
  refine Dv.lit HEnt.K ([(⟨a1, a2⟩ : HEnt)] : List HEnt) (css := [[eq (.int .i64 a1), eq (.string a2)]]) rfl trivial Tryz.underlying79 Tryz.underlying74 c74 z74 rfl (by decide) (by decide) rfl ⟨(cells_agg (ones_cons (one_eq rfl) (ones_cons (one_eq rfl) ones_nil))), trivial⟩ rfl rfl rfl ?_
  obtain ⟨g472, H⟩ := Gets.grd H
  refine Dv.appx (jj := 1) (ys := ([(⟨a1, a2⟩ : HEnt)] : List HEnt)) (fun v473 : OV => [blk g470.1 81 [eq g470.2.1.1, eq g470.2.2.1], own HEnt.K v473.1 (t468.2.fl ++ ([(⟨a1, a2⟩ : HEnt)] : List HEnt)), mp Value.string (fun x : Int => eq (.int .i64 x)) g470.2.2.1 t468.2.fat] ++ F) rfl trivial rfl rfl rfl src_sl Tryz.underlying79 (.inr ⟨_, Tryz.underlying79⟩) inf74 rfl (by decide) g472 rfl nofun (fun v473 => ?_)
  refine Dv.nilpp h471 rfl trivial rfl ?_
  refine Dv.fabp h471 rfl trivial rfl Tryz.underlying81 rfl Tryz.underlying79 c79 (by decide) ?_
  refine Dv.stx ([blk g470.1 81 [eq v473.1, eq g470.2.2.1], own HEnt.K v473.1 (t468.2.fl ++ ([(⟨a1, a2⟩ : HEnt)] : List HEnt)), mp Value.string (fun x : Int => eq (.int .i64 x)) g470.2.2.1 t468.2.fat] ++ F) rfl trivial rfl rfl (cells_one one_ov) Tryz.underlying79 c79 rfl (j := 0) rfl (Nat.le_of_ble_eq_true rfl) rfl nofun ?_
  refine .fin ?_
  refine WP.reg [(0, false), (1, false), (2, false), (3, false), (4, false), (5, false), (6, false), (7, true)] (by kernel_rfl) ?_
  refine mv0 rfl rfl ?_
  refine mv0 rfl rfl ?_
  refine Dv.nilpp h471 rfl trivial rfl ?_
  refine Dv.fabp h471 rfl trivial rfl Tryz.underlying81 rfl Tryz.underlying79 c79 (by decide) ?_
  refine Dv.ldb rfl trivial rfl Tryz.underlying79 rfl (mem_at 0 rfl) rfl ?_
  refine Dv.lenw rfl trivial rfl (mem_at 1 rfl) Tryz.underlying79 ?_
  refine Dv.bin rfl trivial rfl rfl (fun _ => run_sub) ?_
  refine Dv.gh (l' := fun _ : Unit => [HHeap.O p0_ (⟨t468.2.fl ++ ([(⟨a1, a2⟩ : HEnt)] : List HEnt), t468.2.fat⟩ : HHeap)] ++ F) (gh_of (HHeap.shut (p := p0_) (m := (⟨t468.2.fl ++ ([(⟨a1, a2⟩ : HEnt)] : List HEnt), t468.2.fat⟩ : HHeap)) (r := F) (g470.1, v473, g470.2.2) h471 (perm_ton 3 [0, 1, 2] rfl rfl rfl))) (fun _ _ => ?_)
  obtain ⟨t474, h475, H⟩ := Gets.call H
  refine Dv.callx (pre := [HHeap.O p0_ (⟨t468.2.fl ++ ([(⟨a1, a2⟩ : HEnt)] : List HEnt), t468.2.fat⟩ : HHeap)]) (F := [] ++ F) (fun _ : Unit => [HHeap.O p0_ t474] ++ F) rfl trivial cal61 rfl (heap_Heap_up.c h475 (p0_ := p0_)) (perm_ton 1 [0] rfl rfl rfl) rfl nofun (fun _ _ => ?_)
  refine .fin ?_
  obtain rfl := Gets.out H
  exact res_end rfl () trivial .nil rfl (st_seln 1 [0] 0 rfl rfl rfl)
theorem presence_Table_Put.c {k : Nat} {a0 : PTab} {a1 : Edu} {p0_ : OV} {r : Bool × Int × PTab} (h : presence_Table_Put.f k a0 a1 = some r) : Tr Tryz.prog 10 [eq p0_.1, agg (Edu.enc a1)] [PTab.O p0_ a0] (γ := Unit) (fun _ => True) (fun g => tup [eq (.bool r.1), eq (.int .i64 r.2.1)]) (fun g => [PTab.O p0_ r.2.2]) := by
  unfold presence_Table_Put.f at h
  refine Tr.body Tryz.func10 (c := _) rfl Tryz.ntmps10 (Nat.le_of_ble_eq_true rfl) fun R0 F => ?_
  replace h := Gets.of h
  have H := h
  clear h
  refine WP.seq ?_
  refine WP.reg [(0, true), (1, false), (2, false)] (by kernel_rfl) ?_
  refine Dv.box rfl trivial rfl (cells_agg (Edu.K.one _)) nofun (fun b476 => ?_)
  refine as0 rfl rfl ?_
  refine as0 rfl rfl ?_
  refine .fin ?_
  refine WP.seq ?_
  refine WP.seq ?_
  refine WP.reg [(0, false), (1, false), (2, false), (3, false), (4, false), (5, false), (6, false), (7, false)] (by kernel_rfl) ?_
  refine Dv.fab rfl trivial rfl Tryz.underlying32 rfl Tryz.underlying3 c3 (by decide) ?_
  refine Dv.ldb rfl trivial rfl Tryz.underlying3 rfl (mem_at 0 rfl) rfl ?_
  refine Dv.bin rfl trivial rfl rfl (fun _ => run_ne) ?_
  refine mv0 rfl rfl ?_
  cases c477 : (a1.fKind != 3)
  · replace H := Gets.cf H c477
    refine Dv.ldbs rfl ⟨_, _, rfl, rfl, rfl⟩ rfl Tryz.underlying32 rfl c32 (mem_at 0 rfl) (Nat.le_of_ble_eq_true rfl) ?_
    obtain ⟨t479, h480, H⟩ := Gets.call H
    refine Dv.call rfl ⟨_, _, rfl, rfl, rfl⟩ cal31 rfl (edu_May.c h480) ?_
    refine Dv.un rfl ⟨_, _, rfl, rfl, rfl⟩ rfl (fun _ => run_not _) ?_
    refine Dv.pickF rfl trivial rfl rfl ?_
    refine .fin ?_
    refine WP.cond rfl (fun c481 => ?_) (fun c481 => ?_)
    · replace H := Gets.ct H c481
      refine WP.seq ?_
      refine WP.reg [(0, false), (1, false)] (by kernel_rfl) ?_
      refine as0 rfl rfl ?_
      refine as0 rfl rfl ?_
      refine .fin ?_
      obtain rfl := Gets.out H
      exact WP.retL (fun _ _ h => h) rfl () trivial (.cons (res_tmp rfl) (.cons (res_tmp rfl) .nil)) rfl (st_seln 2 [0, 1] 1 rfl rfl rfl)
    · replace H := Gets.cf H c481
      refine WP.skip ?_
      refine WP.seq ?_
      refine WP.reg [(0, false), (1, false), (2, false), (3, false), (4, false), (5, false), (6, false), (7, false), (8, false)] (by kernel_rfl) ?_
      refine mv0 rfl rfl ?_
      refine Dv.fab rfl trivial rfl Tryz.underlying32 rfl Tryz.underlying9 c9 (by decide) ?_
      refine Dv.ldb rfl trivial rfl Tryz.underlying9 rfl (mem_at 0 rfl) rfl ?_
      refine Dv.gh (l' := fun (g482 : Nat × OV × OV) => [blk g482.1 61 [eq g482.2.1.1, eq g482.2.2.1], own Edu.K g482.2.1.1 a0.fl, HHeap.O g482.2.2 a0.fturns, blk b476 32 [eq (.int .i64 a1.fKind), eq (.string a1.fRoom), eq (.string a1.fUser), eq (.string a1.fEvent), eq (.string a1.fThread), eq (.bool a1.fPrivate), eq (.bool a1.fOn), eq (.int .i64 a1.fSpan), eq (.int .i64 a1.fState), eq (.int .i64 a1.fTick), eq (.int .i64 a1.fStamp)]] ++ F) (gh_of (PTab.opn 1 rfl)) (fun g482 h483 => ?_)
      obtain ⟨t484, h485, H⟩ := Gets.call H
      refine Dv.calll (B := [blk g482.1 61 [eq g482.2.1.1, eq g482.2.2.1], own Edu.K g482.2.1.1 a0.fl]) (F := [HHeap.O g482.2.2 a0.fturns, blk b476 32 [eq (.int .i64 a1.fKind), eq (.string a1.fRoom), eq (.string a1.fUser), eq (.string a1.fEvent), eq (.string a1.fThread), eq (.bool a1.fPrivate), eq (.bool a1.fOn), eq (.int .i64 a1.fSpan), eq (.int .i64 a1.fState), eq (.int .i64 a1.fTick), eq (.int .i64 a1.fStamp)]] ++ F) rfl trivial cal32 rfl (Tr.weak (presence_Table_place.c h485 (b0_ := g482.1) (v0_0 := g482.2.1) (v0_1 := g482.2.2)) (.cons (wk_ptr h483) (.cons wk_id .nil))) (perm_ton 4 [0, 1, 2, 3] rfl rfl rfl) ?_
      refine mv0 rfl rfl ?_
      refine Dv.ext rfl trivial rfl rfl ?_
      refine Dv.ext rfl trivial rfl rfl ?_
      refine as0 rfl rfl ?_
      refine as0 rfl rfl ?_
      refine .fin ?_
      refine WP.seqr H id (fun p486 : Bool × Bool × Bool × PTab => [(0, eq p0_.1), (1, agg (Edu.enc a1)), (3, eq (.pointer (some ⟨b476, 0, none⟩))), (4, eq (.bool false)), (5, eq (.int .i64 0)), (6, eq (.int .i64 t484.1)), (7, eq (.bool p486.1)), (17, eq (.bool (!t479))), (36, eq (.bool p486.2.1)), (50, eq (.bool p486.2.2.1))]) (fun p486 : Bool × Bool × Bool × PTab => [blk b476 32 [eq (.int .i64 a1.fKind), eq (.string a1.fRoom), eq (.string a1.fUser), eq (.string a1.fEvent), eq (.string a1.fThread), eq (.bool a1.fPrivate), eq (.bool a1.fOn), eq (.int .i64 a1.fSpan), eq (.int .i64 a1.fState), eq (.int .i64 a1.fTick), eq (.int .i64 a1.fStamp)], PTab.O p0_ p486.2.2.2] ++ F) (fun p486 H => ?_) (fun H => ?_)
      · refine WP.seq ?_
        refine WP.gh (l' := fun (g487 : Nat × OV × OV) => [blk g487.1 61 [eq g487.2.1.1, eq g487.2.2.1], own Edu.K g487.2.1.1 p486.2.2.2.fl, HHeap.O g487.2.2 p486.2.2.2.fturns, blk b476 32 [eq (.int .i64 a1.fKind), eq (.string a1.fRoom), eq (.string a1.fUser), eq (.string a1.fEvent), eq (.string a1.fThread), eq (.bool a1.fPrivate), eq (.bool a1.fOn), eq (.int .i64 a1.fSpan), eq (.int .i64 a1.fState), eq (.int .i64 a1.fTick), eq (.int .i64 a1.fStamp)]] ++ F) (gh_of (PTab.opn 1 rfl)) (fun g487 h488 => ?_)
        refine WP.dreg Tryz.checked.mixed [(0, false), (1, false), (2, false), (3, false), (4, false), (5, false), (6, true)] (by kernel_rfl) ?_
        refine mv0 rfl rfl ?_
        refine Dv.nilpp h488 rfl trivial rfl ?_
        refine Dv.fabp h488 rfl trivial rfl Tryz.underlying61 rfl Tryz.underlying58 c58 (by decide) ?_
        refine Dv.ldb rfl trivial rfl Tryz.underlying58 rfl (mem_at 0 rfl) rfl ?_
        refine Dv.fab rfl trivial rfl Tryz.underlying32 rfl Tryz.underlying9 c9 (by decide) ?_
        refine Dv.ldb rfl trivial rfl Tryz.underlying9 rfl (mem_at 3 rfl) rfl ?_
        obtain ⟨t489, h490, H⟩ := Gets.call H
        refine Dv.callx (pre := [HHeap.O g487.2.2 p486.2.2.2.fturns]) (F := [blk g487.1 61 [eq g487.2.1.1, eq g487.2.2.1], own Edu.K g487.2.1.1 p486.2.2.2.fl, blk b476 32 [eq (.int .i64 a1.fKind), eq (.string a1.fRoom), eq (.string a1.fUser), eq (.string a1.fEvent), eq (.string a1.fThread), eq (.bool a1.fPrivate), eq (.bool a1.fOn), eq (.int .i64 a1.fSpan), eq (.int .i64 a1.fState), eq (.int .i64 a1.fTick), eq (.int .i64 a1.fStamp)]] ++ F) (fun _ : Unit => [HHeap.O g487.2.2 t489.2, blk g487.1 61 [eq g487.2.1.1, eq g487.2.2.1], own Edu.K g487.2.1.1 p486.2.2.2.fl, blk b476 32 [eq (.int .i64 a1.fKind), eq (.string a1.fRoom), eq (.string a1.fUser), eq (.string a1.fEvent), eq (.string a1.fThread), eq (.bool a1.fPrivate), eq (.bool a1.fOn), eq (.int .i64 a1.fSpan), eq (.int .i64 a1.fState), eq (.int .i64 a1.fTick), eq (.int .i64 a1.fStamp)]] ++ F) rfl trivial cal35 rfl (heap_Heap_Drop.c h490 (p0_ := g487.2.2)) (perm_ton 4 [2, 0, 1, 3] rfl rfl rfl) rfl (fun _ => pendc (pend_bits (by kernel_rfl))) (fun _ _ => ?_)
        refine .fin ?_
        refine WP.seq ?_
        refine WP.seq ?_
        refine WP.reg [(0, false), (1, false), (2, false), (3, false), (4, false), (5, false), (6, false)] (by kernel_rfl) ?_
        refine Dv.ldbs rfl trivial rfl Tryz.underlying32 rfl c32 (mem_at 3 rfl) (Nat.le_of_ble_eq_true rfl) ?_
        obtain ⟨t491, h492, H⟩ := Gets.call H
        refine Dv.call rfl trivial cal36 rfl (presence_turn.c h492) ?_
        refine mv0 rfl rfl ?_
        refine Dv.ext rfl trivial rfl rfl ?_
        refine Dv.ext rfl trivial rfl rfl ?_
        refine as0 rfl rfl ?_
        refine as0 rfl rfl ?_
        refine .fin ?_
        refine WP.seq ?_
        refine WP.reg [(0, false)] (by kernel_rfl) ?_
        refine mv0 rfl rfl ?_
        refine .fin ?_
        refine WP.cond rfl (fun c493 => ?_) (fun c493 => ?_)
        · replace H := Gets.ct H c493
          refine WP.dreg Tryz.checked.mixed [(0, false), (1, false), (2, false), (3, false), (4, false), (5, false), (6, false), (7, true)] (by kernel_rfl) ?_
          refine mv0 rfl rfl ?_
          refine Dv.nilpp h488 rfl trivial rfl ?_
          refine Dv.fabp h488 rfl trivial rfl Tryz.underlying61 rfl Tryz.underlying58 c58 (by decide) ?_
          refine Dv.ldb rfl trivial rfl Tryz.underlying58 rfl (mem_at 1 rfl) rfl ?_
          refine mv0 rfl rfl ?_
          refine Dv.fab rfl trivial rfl Tryz.underlying32 rfl Tryz.underlying9 c9 (by decide) ?_
          refine Dv.ldb rfl trivial rfl Tryz.underlying9 rfl (mem_at 3 rfl) rfl ?_
          obtain ⟨t494, h495, H⟩ := Gets.call H
          refine Dv.callx (pre := [HHeap.O g487.2.2 t489.2]) (F := [blk g487.1 61 [eq g487.2.1.1, eq g487.2.2.1], own Edu.K g487.2.1.1 p486.2.2.2.fl, blk b476 32 [eq (.int .i64 a1.fKind), eq (.string a1.fRoom), eq (.string a1.fUser), eq (.string a1.fEvent), eq (.string a1.fThread), eq (.bool a1.fPrivate), eq (.bool a1.fOn), eq (.int .i64 a1.fSpan), eq (.int .i64 a1.fState), eq (.int .i64 a1.fTick), eq (.int .i64 a1.fStamp)]] ++ F) (fun _ : Unit => [HHeap.O g487.2.2 t494, blk g487.1 61 [eq g487.2.1.1, eq g487.2.2.1], own Edu.K g487.2.1.1 p486.2.2.2.fl, blk b476 32 [eq (.int .i64 a1.fKind), eq (.string a1.fRoom), eq (.string a1.fUser), eq (.string a1.fEvent), eq (.string a1.fThread), eq (.bool a1.fPrivate), eq (.bool a1.fOn), eq (.int .i64 a1.fSpan), eq (.int .i64 a1.fState), eq (.int .i64 a1.fTick), eq (.int .i64 a1.fStamp)]] ++ F) rfl trivial cal37 rfl (heap_Heap_Put.c h495 (p0_ := g487.2.2)) (perm_ton 4 [0, 1, 2, 3] rfl rfl rfl) rfl (fun _ => pendc (pend_bits (by kernel_rfl))) (fun _ _ => ?_)
          refine .fin ?_
          refine WP.seq ?_
          refine WP.reg [(0, false), (1, false)] (by kernel_rfl) ?_
          refine as0 rfl rfl ?_
          refine as0 rfl rfl ?_
          refine .fin ?_
          refine WP.gh (l' := fun _ : Unit => [PTab.O p0_ (⟨p486.2.2.2.fl, t494⟩ : PTab), blk b476 32 [eq (.int .i64 a1.fKind), eq (.string a1.fRoom), eq (.string a1.fUser), eq (.string a1.fEvent), eq (.string a1.fThread), eq (.bool a1.fPrivate), eq (.bool a1.fOn), eq (.int .i64 a1.fSpan), eq (.int .i64 a1.fState), eq (.int .i64 a1.fTick), eq (.int .i64 a1.fStamp)]] ++ F) (gh_of (PTab.shut (p := p0_) (m := (⟨p486.2.2.2.fl, t494⟩ : PTab)) (r := [blk b476 32 [eq (.int .i64 a1.fKind), eq (.string a1.fRoom), eq (.string a1.fUser), eq (.string a1.fEvent), eq (.string a1.fThread), eq (.bool a1.fPrivate), eq (.bool a1.fOn), eq (.int .i64 a1.fSpan), eq (.int .i64 a1.fState), eq (.int .i64 a1.fTick), eq (.int .i64 a1.fStamp)]] ++ F) (g487.1, g487.2.1, g487.2.2) h488 (perm_ton 4 [1, 2, 0, 3] rfl rfl rfl))) (fun _ _ => ?_)
          obtain rfl := Gets.out H
          exact WP.retL (fun _ _ h => h) rfl () trivial (.cons (res_tmp rfl) (.cons (res_tmp rfl) .nil)) rfl (st_seln 2 [1, 0] 1 rfl rfl rfl)
        · replace H := Gets.cf H c493
          refine WP.skip ?_
          refine WP.seq ?_
          refine WP.reg [(0, false), (1, false)] (by kernel_rfl) ?_
          refine as0 rfl rfl ?_
          refine as0 rfl rfl ?_
          refine .fin ?_
          refine WP.gh (l' := fun _ : Unit => [PTab.O p0_ (⟨p486.2.2.2.fl, t489.2⟩ : PTab), blk b476 32 [eq (.int .i64 a1.fKind), eq (.string a1.fRoom), eq (.string a1.fUser), eq (.string a1.fEvent), eq (.string a1.fThread), eq (.bool a1.fPrivate), eq (.bool a1.fOn), eq (.int .i64 a1.fSpan), eq (.int .i64 a1.fState), eq (.int .i64 a1.fTick), eq (.int .i64 a1.fStamp)]] ++ F) (gh_of (PTab.shut (p := p0_) (m := (⟨p486.2.2.2.fl, t489.2⟩ : PTab)) (r := [blk b476 32 [eq (.int .i64 a1.fKind), eq (.string a1.fRoom), eq (.string a1.fUser), eq (.string a1.fEvent), eq (.string a1.fThread), eq (.bool a1.fPrivate), eq (.bool a1.fOn), eq (.int .i64 a1.fSpan), eq (.int .i64 a1.fState), eq (.int .i64 a1.fTick), eq (.int .i64 a1.fStamp)]] ++ F) (g487.1, g487.2.1, g487.2.2) h488 (perm_ton 4 [1, 2, 0, 3] rfl rfl rfl))) (fun _ _ => ?_)
          obtain rfl := Gets.out H
          exact WP.retL (fun _ _ h => h) rfl () trivial (.cons (res_tmp rfl) (.cons (res_tmp rfl) .nil)) rfl (st_seln 2 [1, 0] 1 rfl rfl rfl)
      · refine WP.block ?_
        refine WP.seq ?_
        refine WP.dreg Tryz.checked.mixed [(0, false), (1, false), (2, false), (3, false), (4, false), (5, false), (6, false), (7, false), (8, false), (9, false), (10, false), (11, false), (12, false), (13, false)] (by kernel_rfl) ?_
        refine mv0 rfl rfl ?_
        refine mv0 rfl rfl ?_
        cases c496 : t484.2
        · replace H := Gets.cf H c496
          refine sk rfl rfl rfl rfl rfl ?_
          refine sk rfl rfl rfl rfl rfl ?_
          refine sk rfl rfl rfl rfl rfl ?_
          refine sk rfl rfl rfl rfl rfl ?_
          refine sk rfl rfl rfl rfl rfl ?_
          refine sk rfl rfl rfl rfl rfl ?_
          refine sk rfl rfl rfl rfl rfl ?_
          refine sk rfl rfl rfl rfl rfl ?_
          refine sk rfl rfl rfl rfl rfl ?_
          refine sk rfl rfl rfl rfl rfl ?_
          refine Dv.pickF rfl trivial rfl rfl ?_
          refine as0 rfl rfl ?_
          refine .fin ?_
          refine WP.cond rfl nofun (fun _ => ?_)
          refine WP.seq ?_
          refine WP.reg [(0, false), (1, false)] (by kernel_rfl) ?_
          refine mv0 rfl rfl ?_
          refine as0 rfl rfl ?_
          refine .fin ?_
          refine WP.cond rfl nofun (fun _ => ?_)
          refine WP.dreg Tryz.checked.mixed [(0, false), (1, false), (2, false), (3, false), (4, false), (5, false), (6, false), (7, false), (8, true), (9, false), (10, false), (11, true)] (by kernel_rfl) ?_
          refine mv0 rfl rfl ?_
          refine mv0 rfl rfl ?_
          refine Dv.nilpp h483 rfl trivial rfl ?_
          refine Dv.fabp h483 rfl trivial rfl Tryz.underlying61 rfl Tryz.underlying22 c22 (by decide) ?_
          refine Dv.ldb rfl trivial rfl Tryz.underlying22 rfl (mem_at 0 rfl) rfl ?_
          refine mv0 rfl rfl ?_
          refine Dv.ldbs rfl trivial rfl Tryz.underlying32 rfl c32 (mem_at 3 rfl) (Nat.le_of_ble_eq_true rfl) ?_
          refine Dv.lit Edu.K ([a1] : List Edu) (css := [Edu.enc a1]) rfl trivial Tryz.underlying22 Tryz.underlying32 c32 z32 rfl (by decide) (by decide) rfl ⟨(cells_agg (Edu.K.one _)), trivial⟩ rfl rfl rfl ?_
          obtain ⟨t507, h508, H⟩ := Gets.call H
          refine Dv.callx (pre := [own Edu.K g482.2.1.1 a0.fl]) (F := [blk g482.1 61 [eq g482.2.1.1, eq g482.2.2.1], HHeap.O g482.2.2 a0.fturns, blk b476 32 [eq (.int .i64 a1.fKind), eq (.string a1.fRoom), eq (.string a1.fUser), eq (.string a1.fEvent), eq (.string a1.fThread), eq (.bool a1.fPrivate), eq (.bool a1.fOn), eq (.int .i64 a1.fSpan), eq (.int .i64 a1.fState), eq (.int .i64 a1.fTick), eq (.int .i64 a1.fStamp)]] ++ F) (fun g509 : OV => [own Edu.K g509.1 t507, blk g482.1 61 [eq g482.2.1.1, eq g482.2.2.1], HHeap.O g482.2.2 a0.fturns, blk b476 32 [eq (.int .i64 a1.fKind), eq (.string a1.fRoom), eq (.string a1.fUser), eq (.string a1.fEvent), eq (.string a1.fThread), eq (.bool a1.fPrivate), eq (.bool a1.fOn), eq (.int .i64 a1.fSpan), eq (.int .i64 a1.fState), eq (.int .i64 a1.fTick), eq (.int .i64 a1.fStamp)]] ++ F) rfl trivial cal34 rfl (slices_Insert_Edu.c h508 (p0_ := g482.2.1)) (perm_ton 4 [1, 0, 2, 3] rfl rfl rfl) rfl (fun _ => pendc (pend_by (by kernel_rfl) (pend_by (by kernel_rfl) (pend_by (by kernel_rfl) (pend_by (by kernel_rfl) (pend_by (by kernel_rfl) (pend_by (by kernel_rfl) (pend_by (by kernel_rfl) (pend_in (fun _ => trivial) pend_nil))))))))) (fun g509 _ => ?_)
          refine Dv.nilpp h483 rfl trivial rfl ?_
          refine Dv.fabp h483 rfl trivial rfl Tryz.underlying61 rfl Tryz.underlying22 c22 (by decide) ?_
          refine Dv.stx ([own Edu.K g509.1 t507, blk g482.1 61 [eq g509.1, eq g482.2.2.1], HHeap.O g482.2.2 a0.fturns, blk b476 32 [eq (.int .i64 a1.fKind), eq (.string a1.fRoom), eq (.string a1.fUser), eq (.string a1.fEvent), eq (.string a1.fThread), eq (.bool a1.fPrivate), eq (.bool a1.fOn), eq (.int .i64 a1.fSpan), eq (.int .i64 a1.fState), eq (.int .i64 a1.fTick), eq (.int .i64 a1.fStamp)]] ++ F) rfl trivial rfl rfl (cells_one one_ov) Tryz.underlying22 c22 rfl (j := 1) rfl (Nat.le_of_ble_eq_true rfl) rfl (fun _ => pend_bits (by kernel_rfl)) ?_
          refine .fin ?_
          replace H := Gets.out H
          refine Dn.gh (l' := fun _ : Unit => [PTab.O p0_ (⟨t507, a0.fturns⟩ : PTab), blk b476 32 [eq (.int .i64 a1.fKind), eq (.string a1.fRoom), eq (.string a1.fUser), eq (.string a1.fEvent), eq (.string a1.fThread), eq (.bool a1.fPrivate), eq (.bool a1.fOn), eq (.int .i64 a1.fSpan), eq (.int .i64 a1.fState), eq (.int .i64 a1.fTick), eq (.int .i64 a1.fStamp)]] ++ F) (gh_of (PTab.shut (p := p0_) (m := (⟨t507, a0.fturns⟩ : PTab)) (r := [blk b476 32 [eq (.int .i64 a1.fKind), eq (.string a1.fRoom), eq (.string a1.fUser), eq (.string a1.fEvent), eq (.string a1.fThread), eq (.bool a1.fPrivate), eq (.bool a1.fOn), eq (.int .i64 a1.fSpan), eq (.int .i64 a1.fState), eq (.int .i64 a1.fTick), eq (.int .i64 a1.fStamp)]] ++ F) (g482.1, g509, g482.2.2) h483 (perm_ton 4 [1, 0, 2, 3] rfl rfl rfl))) (fun _ _ => ?_)
          refine Dn.gh (l' := fun _ : Unit => [blk b476 32 [eq (.int .i64 a1.fKind), eq (.string a1.fRoom), eq (.string a1.fUser), eq (.string a1.fEvent), eq (.string a1.fThread), eq (.bool a1.fPrivate), eq (.bool a1.fOn), eq (.int .i64 a1.fSpan), eq (.int .i64 a1.fState), eq (.int .i64 a1.fTick), eq (.int .i64 a1.fStamp)], PTab.O p0_ (⟨t507, a0.fturns⟩ : PTab)] ++ F) (gh_of (st_selgn 2 [1, 0] 0 rfl rfl rfl)) (fun _ _ => ?_)
          exact Jn.mk (false, false, false, (⟨t507, a0.fturns⟩ : PTab)) H (weak_cons rfl (weak_cons rfl (weak_cons rfl (weak_cons rfl (weak_cons rfl (weak_cons rfl (weak_cons rfl (weak_cons rfl (weak_cons rfl (weak_cons rfl weak_nil)))))))))) (List.Perm.refl _)
        · replace H := Gets.ct H c496
          refine Dv.ldbs rfl ⟨_, _, rfl, rfl, rfl⟩ rfl Tryz.underlying32 rfl c32 (mem_at 3 rfl) (Nat.le_of_ble_eq_true rfl) ?_
          refine Dv.mv rfl ⟨_, _, rfl, rfl, rfl⟩ rfl ?_
          refine Dv.nilpp h483 rfl ⟨_, _, rfl, rfl, rfl⟩ rfl ?_
          refine Dv.fabp h483 rfl ⟨_, _, rfl, rfl, rfl⟩ rfl Tryz.underlying61 rfl Tryz.underlying22 c22 (by decide) ?_
          refine Dv.ldb rfl ⟨_, _, rfl, rfl, rfl⟩ rfl Tryz.underlying22 rfl (mem_at 0 rfl) rfl ?_
          refine Dv.mv rfl ⟨_, _, rfl, rfl, rfl⟩ rfl ?_
          obtain ⟨g497, H⟩ := Gets.grd H
          have h498 : t484.1.toNat < a0.fl.length := idx_lt g497
          refine Dv.ixw rfl ⟨_, _, rfl, rfl, rfl⟩ rfl (mem_at 1 rfl) rfl Tryz.underlying22 Tryz.underlying32 c32 g497.1 g497.2 ?_
          refine Dv.ldws (j := t484.1.toNat) (f := 0) rfl ⟨_, _, rfl, rfl, rfl⟩ rfl (mem_at 1 rfl) h498 Tryz.underlying32 rfl c32 (Nat.le_of_ble_eq_true rfl) ?_
          obtain ⟨t499, h500, H⟩ := Gets.call H
          refine Dv.call rfl ⟨_, _, rfl, rfl, rfl⟩ cal33 rfl (edu_Later.c h500) ?_
          refine Dv.un rfl ⟨_, _, rfl, rfl, rfl⟩ rfl (fun _ => run_not _) ?_
          refine Dv.pickT rfl trivial rfl rfl ?_
          refine as0 rfl rfl ?_
          refine .fin ?_
          refine WP.cond rfl (fun c501 => ?_) (fun c501 => ?_)
          · replace H := Gets.ct H c501
            refine WP.seq ?_
            refine WP.reg [(0, false), (1, false)] (by kernel_rfl) ?_
            refine as0 rfl rfl ?_
            refine as0 rfl rfl ?_
            refine .fin ?_
            refine WP.gh (l' := fun _ : Unit => [PTab.O p0_ a0, blk b476 32 [eq (.int .i64 a1.fKind), eq (.string a1.fRoom), eq (.string a1.fUser), eq (.string a1.fEvent), eq (.string a1.fThread), eq (.bool a1.fPrivate), eq (.bool a1.fOn), eq (.int .i64 a1.fSpan), eq (.int .i64 a1.fState), eq (.int .i64 a1.fTick), eq (.int .i64 a1.fStamp)]] ++ F) (gh_of (PTab.shut (p := p0_) (m := a0) (r := [blk b476 32 [eq (.int .i64 a1.fKind), eq (.string a1.fRoom), eq (.string a1.fUser), eq (.string a1.fEvent), eq (.string a1.fThread), eq (.bool a1.fPrivate), eq (.bool a1.fOn), eq (.int .i64 a1.fSpan), eq (.int .i64 a1.fState), eq (.int .i64 a1.fTick), eq (.int .i64 a1.fStamp)]] ++ F) (g482.1, g482.2.1, g482.2.2) h483 (perm_ton 4 [0, 1, 2, 3] rfl rfl rfl))) (fun _ _ => ?_)
            replace H := Gets.outr H
            obtain rfl := Gets.out H
            exact WP.retL (fun _ _ h => h) rfl () trivial (.cons (res_tmp rfl) (.cons (res_tmp rfl) .nil)) rfl (st_seln 2 [1, 0] 1 rfl rfl rfl)
          · replace H := Gets.cf H c501
            refine WP.seq ?_
            refine WP.reg [(0, false), (1, false)] (by kernel_rfl) ?_
            refine mv0 rfl rfl ?_
            refine as0 rfl rfl ?_
            refine .fin ?_
            refine WP.cond rfl (fun _ => ?_) nofun
            refine WP.dreg Tryz.checked.mixed [(0, false), (1, false), (2, false), (3, false), (4, false), (5, false), (6, false), (7, true)] (by kernel_rfl) ?_
            refine mv0 rfl rfl ?_
            refine Dv.nilpp h483 rfl trivial rfl ?_
            refine Dv.fabp h483 rfl trivial rfl Tryz.underlying61 rfl Tryz.underlying22 c22 (by decide) ?_
            refine Dv.ldb rfl trivial rfl Tryz.underlying22 rfl (mem_at 0 rfl) rfl ?_
            refine mv0 rfl rfl ?_
            refine Dv.ldbs rfl trivial rfl Tryz.underlying32 rfl c32 (mem_at 3 rfl) (Nat.le_of_ble_eq_true rfl) ?_
            obtain ⟨g503, H⟩ := Gets.grd H
            have h504 : t484.1.toNat < a0.fl.length := idx_lt g503
            refine Dv.ixw rfl trivial rfl (mem_at 1 rfl) rfl Tryz.underlying22 Tryz.underlying32 c32 g503.1 g503.2 ?_
            refine Dv.stw (j := t484.1.toNat) (f := 0) (jj := 1) a1 rfl trivial rfl rfl (cells_agg (Edu.K.one _)) Tryz.underlying32 c32 rfl rfl h504 (Nat.le_of_ble_eq_true rfl) rfl (fun _ => pend_bits (by kernel_rfl)) ?_
            refine .fin ?_
            replace H := Gets.out H
            refine Dn.gh (l' := fun _ : Unit => [PTab.O p0_ (⟨a0.fl.set t484.1.toNat a1, a0.fturns⟩ : PTab), blk b476 32 [eq (.int .i64 a1.fKind), eq (.string a1.fRoom), eq (.string a1.fUser), eq (.string a1.fEvent), eq (.string a1.fThread), eq (.bool a1.fPrivate), eq (.bool a1.fOn), eq (.int .i64 a1.fSpan), eq (.int .i64 a1.fState), eq (.int .i64 a1.fTick), eq (.int .i64 a1.fStamp)]] ++ F) (gh_of (PTab.shut (p := p0_) (m := (⟨a0.fl.set t484.1.toNat a1, a0.fturns⟩ : PTab)) (r := [blk b476 32 [eq (.int .i64 a1.fKind), eq (.string a1.fRoom), eq (.string a1.fUser), eq (.string a1.fEvent), eq (.string a1.fThread), eq (.bool a1.fPrivate), eq (.bool a1.fOn), eq (.int .i64 a1.fSpan), eq (.int .i64 a1.fState), eq (.int .i64 a1.fTick), eq (.int .i64 a1.fStamp)]] ++ F) (g482.1, g482.2.1, g482.2.2) h483 (perm_ton 4 [0, 1, 2, 3] rfl rfl rfl))) (fun _ _ => ?_)
            refine Dn.gh (l' := fun _ : Unit => [blk b476 32 [eq (.int .i64 a1.fKind), eq (.string a1.fRoom), eq (.string a1.fUser), eq (.string a1.fEvent), eq (.string a1.fThread), eq (.bool a1.fPrivate), eq (.bool a1.fOn), eq (.int .i64 a1.fSpan), eq (.int .i64 a1.fState), eq (.int .i64 a1.fTick), eq (.int .i64 a1.fStamp)], PTab.O p0_ (⟨a0.fl.set t484.1.toNat a1, a0.fturns⟩ : PTab)] ++ F) (gh_of (st_selgn 2 [1, 0] 0 rfl rfl rfl)) (fun _ _ => ?_)
            exact Jn.mk (true, !t499, true, (⟨a0.fl.set t484.1.toNat a1, a0.fturns⟩ : PTab)) H (weak_cons rfl (weak_cons rfl (weak_cons rfl (weak_cons rfl (weak_cons rfl (weak_cons rfl (weak_cons rfl (weak_cons rfl (weak_cons rfl (weak_cons rfl weak_nil)))))))))) (List.Perm.refl _)
  · replace H := Gets.ct H c477
    refine sk rfl rfl rfl rfl rfl ?_
    refine sk rfl rfl rfl rfl rfl ?_
    refine sk rfl rfl rfl rfl rfl ?_
    refine Dv.pickT rfl trivial rfl rfl ?_
    refine .fin ?_
    refine WP.cond rfl (fun _ => ?_) nofun
    refine WP.seq ?_
    refine WP.reg [(0, false), (1, false)] (by kernel_rfl) ?_
    refine as0 rfl rfl ?_
    refine as0 rfl rfl ?_
    refine .fin ?_
    obtain rfl := Gets.out H
    exact WP.retL (fun _ _ h => h) rfl () trivial (.cons (res_tmp rfl) (.cons (res_tmp rfl) .nil)) rfl (st_seln 2 [0, 1] 1 rfl rfl rfl)
theorem concourseref01_SameTexts.c {k : Nat} {a0 : List ByteArray} {a1 : List ByteArray} {r : Bool} (h : concourseref01_SameTexts.f k a0 a1 = some r) : Pt Tryz.prog 13 [sl strK a0, sl strK a1] (eq (.bool r)) := by
  unfold concourseref01_SameTexts.f at h
  refine (Tr.body Tryz.func13 (c := _) rfl Tryz.ntmps13 (Nat.le_of_ble_eq_true rfl) fun R0 F => ?_).pt
  replace h := Gets.of h
  have H := h
  clear h
  refine WP.seq ?_
  refine WP.reg [(0, false)] (by kernel_rfl) ?_
  refine as0 rfl rfl ?_
  refine .fin ?_
  refine WP.seq ?_
  refine WP.seq ?_
  refine WP.reg [(0, false), (1, false), (2, false), (3, false), (4, false)] (by kernel_rfl) ?_
  refine mv0 rfl rfl ?_
  refine Dv.lenl rfl trivial rfl Tryz.underlying39 ?_
  refine mv0 rfl rfl ?_
  refine Dv.lenl rfl trivial rfl Tryz.underlying39 ?_
  refine Dv.bin rfl trivial rfl rfl (fun _ => run_ne) ?_
  refine .fin ?_
  refine WP.cond rfl (fun c510 => ?_) (fun c510 => ?_)
  · replace H := Gets.ct H c510
    refine WP.seq ?_
    refine WP.reg [(0, false)] (by kernel_rfl) ?_
    refine as0 rfl rfl ?_
    refine .fin ?_
    obtain rfl := Gets.out H
    exact WP.retL (fun _ _ h => h) rfl () trivial (.cons (res_tmp rfl) .nil) rfl (st_seln 0 [] 0 rfl rfl rfl)
  · replace H := Gets.cf H c510
    refine WP.skip ?_
    refine WP.seqr H id (fun p511 : Int × Bool => [(0, sl strK a0), (1, sl strK a1), (4, eq (.bool false)), (5, eq (.int .i64 p511.1)), (10, eq (.bool ((a0.length : Int) != (a1.length : Int)))), (14, eq (.bool p511.2))]) (fun p511 : Int × Bool => [] ++ F) (fun p511 H => ?_) (fun H => ?_)
    · refine WP.seq ?_
      refine WP.reg [(0, false)] (by kernel_rfl) ?_
      refine as0 rfl rfl ?_
      refine .fin ?_
      obtain rfl := Gets.out H
      exact WP.retL (fun _ _ h => h) rfl () trivial (.cons (res_tmp rfl) .nil) rfl (st_seln 0 [] 0 rfl rfl rfl)
    · refine WP.seq ?_
      refine WP.reg [(0, false)] (by kernel_rfl) ?_
      refine as0 rfl rfl ?_
      refine .fin ?_
      refine WP.block ?_
      refine WP.gh (l' := fun _ => [] ++ F) (gh_of (st_selgn 0 [] 0 rfl rfl rfl)) (fun _ _ => ?_)
      refine WP.loopg (fun j_ (p518 : Int) => concourseref01_SameTexts.l0 k a0 a1 j_ p518) 0 H (fun p518 => [(0, sl strK a0), (1, sl strK a1), (4, eq (.bool false)), (5, eq (.int .i64 p518)), (10, eq (.bool ((a0.length : Int) != (a1.length : Int))))]) (fun p518 => [] ++ F) (weak_cons rfl (weak_cons rfl (weak_cons rfl (weak_cons rfl (weak_cons rfl weak_nil))))) (List.Perm.refl _) ?_
      rintro j_ x512 H
      rcases j_ with _ | j517
      · exact (Gets.no H).elim
      replace H : Gets (concourseref01_SameTexts.l0 k a0 a1 (j517 + 1) x512) _ := H
      rw [concourseref01_SameTexts.l0] at H
      refine WP.seq ?_
      refine WP.seq ?_
      refine WP.reg [(0, false), (1, false), (2, false), (3, false)] (by kernel_rfl) ?_
      refine mv0 rfl rfl ?_
      refine mv0 rfl rfl ?_
      refine Dv.lenl rfl trivial rfl Tryz.underlying39 ?_
      refine Dv.bin rfl trivial rfl rfl (fun _ => run_lt) ?_
      refine .fin ?_
      refine WP.cond rfl (fun c513 => ?_) (fun c513 => ?_)
      · replace H := Gets.ct H c513
        refine WP.skip ?_
        refine WP.seq ?_
        refine WP.block ?_
        refine WP.seq ?_
        refine WP.dreg Tryz.checked.mixed [(0, false), (1, false), (2, false), (3, false), (4, false), (5, false), (6, false), (7, false), (8, false)] (by kernel_rfl) ?_
        refine mv0 rfl rfl ?_
        refine mv0 rfl rfl ?_
        obtain ⟨g514, H⟩ := Gets.grd H
        refine Dv.ixr rfl trivial rfl rfl Tryz.underlying39 Tryz.underlying9 c9 g514.1 g514.2 ?_
        refine Dv.ldr rfl trivial rfl Tryz.underlying9 rfl rfl ?_
        refine mv0 rfl rfl ?_
        refine mv0 rfl rfl ?_
        obtain ⟨g515, H⟩ := Gets.grd H
        refine Dv.ixr rfl trivial rfl rfl Tryz.underlying39 Tryz.underlying9 c9 g515.1 g515.2 ?_
        refine Dv.ldr rfl trivial rfl Tryz.underlying9 rfl rfl ?_
        refine Dv.bin rfl trivial rfl rfl (fun _ => run_sne) ?_
        refine .fin ?_
        refine WP.cond rfl (fun c516 => ?_) (fun c516 => ?_)
        · replace H := Gets.ct H c516
          refine WP.seq ?_
          refine WP.reg [(0, false)] (by kernel_rfl) ?_
          refine as0 rfl rfl ?_
          refine .fin ?_
          replace H := Gets.outr H
          obtain rfl := Gets.out H
          exact WP.retL (fun _ _ h => h) rfl () trivial (.cons (res_tmp rfl) .nil) rfl (st_seln 0 [] 0 rfl rfl rfl)
        · replace H := Gets.cf H c516
          refine WP.skip ?_
          refine WP.reg [(0, false), (1, false), (2, false)] (by kernel_rfl) ?_
          refine mv0 rfl rfl ?_
          refine Dv.bin rfl trivial rfl rfl (fun _ => run_add) ?_
          refine as0 rfl rfl ?_
          refine .fin ?_
          exact Back.mk j517 (w64 (x512 + 1)) (Nat.lt_succ_self _) H (weak_cons rfl (weak_cons rfl (weak_cons rfl (weak_cons rfl (weak_cons rfl weak_nil))))) (List.Perm.refl _)
      · replace H := Gets.cf H c513
        refine WP.exit ?_
        replace H := Gets.out H
        exact Jn.mk (x512, decide (x512 < (a0.length : Int))) H (weak_cons rfl (weak_cons rfl (weak_cons rfl (weak_cons rfl (weak_cons rfl (weak_cons rfl weak_nil)))))) (List.Perm.refl _)
theorem presence_Table_State.c {k : Nat} {a0 : PTab} {a1 : ByteArray} {a2 : Int} {v0_0 v0_1 : OV} {b0_ : Nat} {r : Int} (h : presence_Table_State.f k a0 a1 a2 = some r) : Tr Tryz.prog 16 [eq (.pointer (some ⟨b0_, 0, none⟩)), eq (.string a1), eq (.int .i64 a2)] [blk b0_ 61 [eq v0_0.1, eq v0_1.1], own Edu.K v0_0.1 a0.fl] (γ := Unit) (fun _ => True) (fun g => eq (.int .i64 r)) (fun g => [blk b0_ 61 [eq v0_0.1, eq v0_1.1], own Edu.K v0_0.1 a0.fl]) := by
  unfold presence_Table_State.f at h
  refine Tr.body Tryz.func16 (c := _) rfl Tryz.ntmps16 (Nat.le_of_ble_eq_true rfl) fun R0 F => ?_
  replace h := Gets.of h
  have H := h
  clear h
  refine WP.seq ?_
  refine WP.reg [(0, false)] (by kernel_rfl) ?_
  refine as0 rfl rfl ?_
  refine .fin ?_
  refine WP.seq ?_
  refine WP.reg [(0, false), (1, false), (2, false), (3, false), (4, false), (5, false), (6, false), (7, false)] (by kernel_rfl) ?_
  refine mv0 rfl rfl ?_
  refine mv0 rfl rfl ?_
  obtain ⟨t519, h520, H⟩ := Gets.call H
  refine Dv.calll (B := [blk b0_ 61 [eq v0_0.1, eq v0_1.1], own Edu.K v0_0.1 a0.fl]) (F := [] ++ F) rfl trivial cal32 rfl (presence_Table_place.c h520 (b0_ := b0_) (v0_0 := v0_0) (v0_1 := v0_1)) (perm_ton 2 [0, 1] rfl rfl rfl) ?_
  refine mv0 rfl rfl ?_
  refine Dv.ext rfl trivial rfl rfl ?_
  refine Dv.ext rfl trivial rfl rfl ?_
  refine as0 rfl rfl ?_
  refine as0 rfl rfl ?_
  refine .fin ?_
  refine WP.seq ?_
  refine WP.seq ?_
  refine WP.reg [(0, false), (1, false)] (by kernel_rfl) ?_
  refine mv0 rfl rfl ?_
  refine Dv.un rfl trivial rfl (fun _ => run_not _) ?_
  refine .fin ?_
  refine WP.cond rfl (fun c521 => ?_) (fun c521 => ?_)
  · replace H := Gets.ct H c521
    refine WP.seq ?_
    refine WP.reg [(0, false)] (by kernel_rfl) ?_
    refine as0 rfl rfl ?_
    refine .fin ?_
    obtain rfl := Gets.out H
    exact WP.retL (fun _ _ h => h) rfl () trivial (.cons (res_tmp rfl) .nil) rfl (st_seln 2 [0, 1] 0 rfl rfl rfl)
  · replace H := Gets.cf H c521
    refine WP.skip ?_
    refine WP.seq ?_
    refine WP.reg [(0, false), (1, false), (2, false), (3, false), (4, false), (5, false), (6, false), (7, false), (8, false), (9, false)] (by kernel_rfl) ?_
    refine mv0 rfl rfl ?_
    refine Dv.nilp rfl trivial rfl ?_
    refine Dv.fab rfl trivial rfl Tryz.underlying61 rfl Tryz.underlying22 c22 (by decide) ?_
    refine Dv.ldb rfl trivial rfl Tryz.underlying22 rfl (mem_at 0 rfl) rfl ?_
    refine mv0 rfl rfl ?_
    obtain ⟨g522, H⟩ := Gets.grd H
    have h523 : t519.1.toNat < a0.fl.length := idx_lt g522
    refine Dv.ixw rfl trivial rfl (mem_at 1 rfl) rfl Tryz.underlying22 Tryz.underlying32 c32 g522.1 g522.2 ?_
    refine Dv.ldws (j := t519.1.toNat) (f := 0) rfl trivial rfl (mem_at 1 rfl) h523 Tryz.underlying32 rfl c32 (Nat.le_of_ble_eq_true rfl) ?_
    refine mv0 rfl rfl ?_
    obtain ⟨t524, h525, H⟩ := Gets.call H
    refine Dv.call rfl trivial cal38 rfl (presence_state.c h525) ?_
    refine as0 rfl rfl ?_
    refine .fin ?_
    obtain rfl := Gets.out H
    exact WP.retL (fun _ _ h => h) rfl () trivial (.cons (res_tmp rfl) .nil) rfl (st_seln 2 [0, 1] 0 rfl rfl rfl)
theorem concourselaw15_lives.c {k : Nat} {r : Bool} (h : concourselaw15_lives.f k = some r) : Pt Tryz.prog 19 [] (eq (.bool r)) := by
  unfold concourselaw15_lives.f at h
  refine (Tr.body Tryz.func19 (c := _) rfl Tryz.ntmps19 (Nat.le_of_ble_eq_true rfl) fun R0 F => ?_).pt
  replace h := Gets.of h
  have H := h
  clear h
  refine WP.seq ?_
  refine WP.reg [(0, false)] (by kernel_rfl) ?_
  refine as0 rfl rfl ?_
  refine .fin ?_
  refine WP.seq ?_
  refine WP.reg [(0, true), (1, false)] (by kernel_rfl) ?_
  obtain ⟨t526, h527, H⟩ := Gets.call H
  refine Dv.callx (pre := []) (F := [] ++ F) (fun g528 : OV => [PTab.O g528 t526] ++ F) rfl trivial cal7 rfl (presence_New.c h527) (perm_ton 0 [] rfl rfl rfl) rfl nofun (fun g528 _ => ?_)
  refine as0 rfl rfl ?_
  refine .fin ?_
  refine WP.seq ?_
  refine WP.seq ?_
  refine WP.reg [(0, false), (1, false)] (by kernel_rfl) ?_
  refine mv0 rfl rfl ?_
  refine Dv.peq0 PTab.nn rfl trivial rfl rfl Tryz.underlying23 (mem_at 0 rfl) ?_
  refine .fin ?_
  refine WP.cond rfl nofun (fun _ => ?_)
  refine WP.skip ?_
  refine WP.seq ?_
  refine WP.reg [(0, false), (1, false), (2, true), (3, false), (4, false), (5, false), (6, false), (7, false)] (by kernel_rfl) ?_
  refine mv0 rfl rfl ?_
  refine Dv.bld (css := [[eq (.int .i64 3)], [eq (.string (⟨#[64, 97, 58, 115]⟩ : ByteArray))], [eq (.int .i64 2)], [eq (.int .i64 10)]]) rfl trivial Tryz.underlying32 pl32 z32 rfl ⟨(cells_one (one_eq rfl)), ⟨(cells_one (one_eq rfl)), ⟨(cells_one (one_eq rfl)), ⟨(cells_one (one_eq rfl)), trivial⟩⟩⟩⟩ rfl rfl ?_
  obtain ⟨t530, h531, H⟩ := Gets.call H
  refine Dv.callx (pre := [PTab.O g528 t526]) (F := [] ++ F) (fun _ : Unit => [PTab.O g528 t530.2.2] ++ F) rfl trivial cal10 rfl (presence_Table_Put.c h531 (p0_ := g528)) (perm_ton 1 [0] rfl rfl rfl) rfl nofun (fun _ _ => ?_)
  refine mv0 rfl rfl ?_
  refine Dv.ext rfl trivial rfl rfl ?_
  refine Dv.ext rfl trivial rfl rfl ?_
  refine as0 rfl rfl ?_
  refine as0 rfl rfl ?_
  refine .fin ?_
  refine WP.seq ?_
  refine WP.reg [(0, false), (1, false), (2, false), (3, false), (4, false), (5, false), (6, false), (7, false), (8, false), (9, false), (10, false), (11, false), (12, false), (13, false), (14, false), (15, false), (16, false), (17, false), (18, false), (19, false), (20, false)] (by kernel_rfl) ?_
  refine mv0 rfl rfl ?_
  refine mv0 rfl rfl ?_
  cases c532 : t530.1
  · replace H := Gets.cf H c532
    refine sk rfl rfl rfl rfl rfl ?_
    refine sk rfl rfl rfl rfl rfl ?_
    refine Dv.pickF rfl trivial rfl rfl ?_
    refine mv0 rfl rfl ?_
    refine sk rfl rfl rfl rfl rfl ?_
    refine sk rfl rfl rfl rfl rfl ?_
    refine sk rfl rfl rfl rfl rfl ?_
    refine Dv.pickF rfl trivial rfl rfl ?_
    refine mv0 rfl rfl ?_
    refine sk rfl rfl rfl rfl rfl ?_
    refine sk rfl rfl rfl rfl rfl ?_
    refine sk rfl rfl rfl rfl rfl ?_
    refine Dv.pickF rfl trivial rfl rfl ?_
    refine mv0 rfl rfl ?_
    refine sk rfl rfl rfl rfl rfl ?_
    refine sk rfl rfl rfl rfl rfl ?_
    refine sk rfl rfl rfl rfl rfl ?_
    refine Dv.pickF rfl trivial rfl rfl ?_
    refine as0 rfl rfl ?_
    refine .fin ?_
    obtain rfl := Gets.out H
    exact WP.retL (fun _ _ h => h) rfl () trivial (.cons (res_tmp rfl) .nil) rfl (st_seln 1 [0] 1 rfl rfl rfl)
  · replace H := Gets.ct H c532
    refine Dv.mv rfl ⟨_, _, rfl, rfl, rfl⟩ rfl ?_
    refine Dv.bin rfl ⟨_, _, rfl, rfl, rfl⟩ rfl rfl (fun _ => run_eq) ?_
    refine Dv.pickT rfl trivial rfl rfl ?_
    refine mv0 rfl rfl ?_
    cases c533 : (t530.2.1 == 0)
    · replace H := Gets.cf H c533
      refine sk rfl rfl rfl rfl rfl ?_
      refine sk rfl rfl rfl rfl rfl ?_
      refine sk rfl rfl rfl rfl rfl ?_
      refine Dv.pickF rfl trivial rfl rfl ?_
      refine mv0 rfl rfl ?_
      refine sk rfl rfl rfl rfl rfl ?_
      refine sk rfl rfl rfl rfl rfl ?_
      refine sk rfl rfl rfl rfl rfl ?_
      refine Dv.pickF rfl trivial rfl rfl ?_
      refine mv0 rfl rfl ?_
      refine sk rfl rfl rfl rfl rfl ?_
      refine sk rfl rfl rfl rfl rfl ?_
      refine sk rfl rfl rfl rfl rfl ?_
      refine Dv.pickF rfl trivial rfl rfl ?_
      refine as0 rfl rfl ?_
      refine .fin ?_
      obtain rfl := Gets.out H
      exact WP.retL (fun _ _ h => h) rfl () trivial (.cons (res_tmp rfl) .nil) rfl (st_seln 1 [0] 1 rfl rfl rfl)
    · replace H := Gets.ct H c533
      refine Dv.mv rfl ⟨_, _, rfl, rfl, rfl⟩ rfl ?_
      refine Dv.gh (l' := fun (g534 : Nat × OV × OV) => [blk g534.1 61 [eq g534.2.1.1, eq g534.2.2.1], own Edu.K g534.2.1.1 t530.2.2.fl, HHeap.O g534.2.2 t530.2.2.fturns] ++ F) (gh_of (PTab.opn 0 rfl)) (fun g534 h535 => ?_)
      obtain ⟨t536, h537, H⟩ := Gets.call H
      refine Dv.calll (B := [blk g534.1 61 [eq g534.2.1.1, eq g534.2.2.1], own Edu.K g534.2.1.1 t530.2.2.fl]) (F := [HHeap.O g534.2.2 t530.2.2.fturns] ++ F) rfl ⟨_, _, rfl, rfl, rfl⟩ cal16 rfl (Tr.weak (presence_Table_State.c h537 (b0_ := g534.1) (v0_0 := g534.2.1) (v0_1 := g534.2.2)) (.cons (wk_ptr h535) (.cons wk_id (.cons wk_id .nil)))) (perm_ton 3 [0, 1, 2] rfl rfl rfl) ?_
      refine Dv.bin rfl ⟨_, _, rfl, rfl, rfl⟩ rfl rfl (fun _ => run_eq) ?_
      refine Dv.pickT rfl trivial rfl rfl ?_
      refine mv0 rfl rfl ?_
      cases c538 : (t536 == 2)
      · replace H := Gets.cf H c538
        refine sk rfl rfl rfl rfl rfl ?_
        refine sk rfl rfl rfl rfl rfl ?_
        refine sk rfl rfl rfl rfl rfl ?_
        refine Dv.pickF rfl trivial rfl rfl ?_
        refine mv0 rfl rfl ?_
        refine sk rfl rfl rfl rfl rfl ?_
        refine sk rfl rfl rfl rfl rfl ?_
        refine sk rfl rfl rfl rfl rfl ?_
        refine Dv.pickF rfl trivial rfl rfl ?_
        refine as0 rfl rfl ?_
        refine .fin ?_
        refine WP.gh (l' := fun _ : Unit => [PTab.O g528 t530.2.2] ++ F) (gh_of (PTab.shut (p := g528) (m := t530.2.2) (r := F) (g534.1, g534.2.1, g534.2.2) h535 (perm_ton 3 [0, 1, 2] rfl rfl rfl))) (fun _ _ => ?_)
        obtain rfl := Gets.out H
        exact WP.retL (fun _ _ h => h) rfl () trivial (.cons (res_tmp rfl) .nil) rfl (st_seln 1 [0] 1 rfl rfl rfl)
      · replace H := Gets.ct H c538
        refine Dv.mv rfl ⟨_, _, rfl, rfl, rfl⟩ rfl ?_
        obtain ⟨t539, h540, H⟩ := Gets.call H
        refine Dv.calll (B := [blk g534.1 61 [eq g534.2.1.1, eq g534.2.2.1], own Edu.K g534.2.1.1 t530.2.2.fl]) (F := [HHeap.O g534.2.2 t530.2.2.fturns] ++ F) rfl ⟨_, _, rfl, rfl, rfl⟩ cal16 rfl (Tr.weak (presence_Table_State.c h540 (b0_ := g534.1) (v0_0 := g534.2.1) (v0_1 := g534.2.2)) (.cons (wk_ptr h535) (.cons wk_id (.cons wk_id .nil)))) (perm_ton 3 [0, 1, 2] rfl rfl rfl) ?_
        refine Dv.bin rfl ⟨_, _, rfl, rfl, rfl⟩ rfl rfl (fun _ => run_eq) ?_
        refine Dv.pickT rfl trivial rfl rfl ?_
        refine mv0 rfl rfl ?_
        cases c541 : (t539 == 1)
        · replace H := Gets.cf H c541
          refine sk rfl rfl rfl rfl rfl ?_
          refine sk rfl rfl rfl rfl rfl ?_
          refine sk rfl rfl rfl rfl rfl ?_
          refine Dv.pickF rfl trivial rfl rfl ?_
          refine as0 rfl rfl ?_
          refine .fin ?_
          refine WP.gh (l' := fun _ : Unit => [PTab.O g528 t530.2.2] ++ F) (gh_of (PTab.shut (p := g528) (m := t530.2.2) (r := F) (g534.1, g534.2.1, g534.2.2) h535 (perm_ton 3 [0, 1, 2] rfl rfl rfl))) (fun _ _ => ?_)
          obtain rfl := Gets.out H
          exact WP.retL (fun _ _ h => h) rfl () trivial (.cons (res_tmp rfl) .nil) rfl (st_seln 1 [0] 1 rfl rfl rfl)
        · replace H := Gets.ct H c541
          refine Dv.mv rfl ⟨_, _, rfl, rfl, rfl⟩ rfl ?_
          obtain ⟨t542, h543, H⟩ := Gets.call H
          refine Dv.calll (B := [blk g534.1 61 [eq g534.2.1.1, eq g534.2.2.1], own Edu.K g534.2.1.1 t530.2.2.fl]) (F := [HHeap.O g534.2.2 t530.2.2.fturns] ++ F) rfl ⟨_, _, rfl, rfl, rfl⟩ cal16 rfl (Tr.weak (presence_Table_State.c h543 (b0_ := g534.1) (v0_0 := g534.2.1) (v0_1 := g534.2.2)) (.cons (wk_ptr h535) (.cons wk_id (.cons wk_id .nil)))) (perm_ton 3 [0, 1, 2] rfl rfl rfl) ?_
          refine Dv.bin rfl ⟨_, _, rfl, rfl, rfl⟩ rfl rfl (fun _ => run_eq) ?_
          refine Dv.pickT rfl trivial rfl rfl ?_
          refine as0 rfl rfl ?_
          refine .fin ?_
          refine WP.gh (l' := fun _ : Unit => [PTab.O g528 t530.2.2] ++ F) (gh_of (PTab.shut (p := g528) (m := t530.2.2) (r := F) (g534.1, g534.2.1, g534.2.2) h535 (perm_ton 3 [0, 1, 2] rfl rfl rfl))) (fun _ _ => ?_)
          obtain rfl := Gets.out H
          exact WP.retL (fun _ _ h => h) rfl () trivial (.cons (res_tmp rfl) .nil) rfl (st_seln 1 [0] 1 rfl rfl rfl)
theorem heap_Heap_Due.c {k : Nat} {a0 : HHeap} {a1 : Int} {p0_ : OV} {r : (List ByteArray) × HHeap} (h : heap_Heap_Due.f k a0 a1 = some r) : Tr Tryz.prog 42 [eq p0_.1, eq (.int .i64 a1)] [HHeap.O p0_ a0] (γ := OV) (fun _ => True) (fun g => eq g.1) (fun g => [HHeap.O p0_ r.2, own strK g.1 r.1]) := by
  unfold heap_Heap_Due.f at h
  refine Tr.body Tryz.func42 (c := _) rfl Tryz.ntmps42 (Nat.le_of_ble_eq_true rfl) fun R0 F => ?_
  replace h := Gets.of h
  have H := h
  clear h
  refine WP.seq ?_
  refine WP.reg [(0, false)] (by kernel_rfl) ?_
  refine as0 rfl rfl ?_
  refine .fin ?_
  refine WP.seq ?_
  refine WP.reg [(0, false)] (by kernel_rfl) ?_
  refine as0 rfl rfl ?_
  refine .fin ?_
  refine WP.seqn H (fun q566 : (Bool × HHeap × (List ByteArray)) × OV => q566.1) (fun q566 : (Bool × HHeap × (List ByteArray)) × OV => [(0, eq p0_.1), (1, eq (.int .i64 a1)), (4, eq (.slice none 0 0)), (5, eq q566.2.1), (22, eq (.bool q566.1.1))]) (fun q566 : (Bool × HHeap × (List ByteArray)) × OV => [HHeap.O p0_ q566.1.2.1, own strK q566.2.1 q566.1.2.2] ++ F) (fun q566 H => ?_) (fun H => ?_)
  · obtain ⟨p544, v545⟩ := q566
    refine WP.seq ?_
    refine WP.reg [(0, false), (1, false)] (by kernel_rfl) ?_
    refine mv0 rfl rfl ?_
    refine as0 rfl rfl ?_
    refine .fin ?_
    obtain rfl := Gets.out H
    exact WP.retL (fun _ _ h => h) rfl v545 trivial (.cons (res_tmp rfl) .nil) rfl (st_seln 2 [0, 1] 0 rfl rfl rfl)
  · refine WP.block ?_
    refine WP.gh (gh_of (st_nil strK none)) (fun _ _ => ?_)
    refine WP.gh (l' := fun _ => [HHeap.O p0_ a0, own strK nilV.1 ([] : List ByteArray)] ++ F) (gh_of (st_selgn 2 [1, 0] 0 rfl rfl rfl)) (fun _ _ => ?_)
    refine WP.loopg (fun j_ (p565 : HHeap × (List ByteArray) × OV) => heap_Heap_Due.l0 k a1 j_ p565.1 p565.2.1) (a0, ([] : List ByteArray), nilV) H (fun p565 => [(0, eq p0_.1), (1, eq (.int .i64 a1)), (4, eq (.slice none 0 0)), (5, eq p565.2.2.1)]) (fun p565 => [HHeap.O p0_ p565.1, own strK p565.2.2.1 p565.2.1] ++ F) (weak_cons rfl (weak_cons rfl (weak_cons rfl (weak_cons rfl weak_nil)))) (List.Perm.refl _) ?_
    rintro j_ ⟨x546, x547, v548⟩ H
    rcases j_ with _ | j564
    · exact (Gets.no H).elim
    replace H : Gets (heap_Heap_Due.l0 k a1 (j564 + 1) x546 x547) _ := H
    rw [heap_Heap_Due.l0] at H
    refine WP.seq ?_
    refine WP.seq ?_
    refine WP.reg [(0, false), (1, false), (2, false), (3, false), (4, false), (5, false), (6, false), (7, false), (8, false), (9, false), (10, false), (11, false), (12, false), (13, false), (14, false), (15, false), (16, false)] (by kernel_rfl) ?_
    refine mv0 rfl rfl ?_
    refine Dv.nilA HHeap.nn rfl trivial rfl (mem_at 0 rfl) ?_
    refine Dv.gh (l' := fun (g549 : Nat × OV × OV) => [blk g549.1 81 [eq g549.2.1.1, eq g549.2.2.1], own HEnt.K g549.2.1.1 x546.fl, mp Value.string (fun x : Int => eq (.int .i64 x)) g549.2.2.1 x546.fat, own strK v548.1 x547] ++ F) (gh_of (HHeap.opn 0 rfl)) (fun g549 h550 => ?_)
    refine Dv.fabp h550 rfl trivial rfl Tryz.underlying81 rfl Tryz.underlying79 c79 (by decide) ?_
    refine Dv.ldb rfl trivial rfl Tryz.underlying79 rfl (mem_at 0 rfl) rfl ?_
    refine Dv.lenw rfl trivial rfl (mem_at 1 rfl) Tryz.underlying79 ?_
    refine Dv.bin rfl trivial rfl rfl (fun _ => run_gt) ?_
    refine mv0 rfl rfl ?_
    cases c551 : decide (0 < (x546.fl.length : Int))
    · replace H := Gets.cf H c551
      refine sk rfl rfl rfl rfl rfl ?_
      refine sk rfl rfl rfl rfl rfl ?_
      refine sk rfl rfl rfl rfl rfl ?_
      refine sk rfl rfl rfl rfl rfl ?_
      refine sk rfl rfl rfl rfl rfl ?_
      refine sk rfl rfl rfl rfl rfl ?_
      refine sk rfl rfl rfl rfl rfl ?_
      refine sk rfl rfl rfl rfl rfl ?_
      refine sk rfl rfl rfl rfl rfl ?_
      refine Dv.pickF rfl trivial rfl rfl ?_
      refine .fin ?_
      refine WP.cond rfl nofun (fun _ => ?_)
      refine WP.exit ?_
      replace H := Gets.out H
      refine Dn.gh (l' := fun _ : Unit => [HHeap.O p0_ x546, own strK v548.1 x547] ++ F) (gh_of (HHeap.shut (p := p0_) (m := x546) (r := [own strK v548.1 x547] ++ F) (g549.1, g549.2.1, g549.2.2) h550 (perm_ton 4 [0, 1, 2, 3] rfl rfl rfl))) (fun _ _ => ?_)
      exact Jn.mk ((false, x546, x547), v548) H (weak_cons rfl (weak_cons rfl (weak_cons rfl (weak_cons rfl (weak_cons rfl weak_nil))))) (List.Perm.refl _)
    · replace H := Gets.ct H c551
      refine Dv.mv rfl ⟨_, _, rfl, rfl, rfl⟩ rfl ?_
      refine Dv.nilpp h550 rfl ⟨_, _, rfl, rfl, rfl⟩ rfl ?_
      refine Dv.fabp h550 rfl ⟨_, _, rfl, rfl, rfl⟩ rfl Tryz.underlying81 rfl Tryz.underlying79 c79 (by decide) ?_
      refine Dv.ldb rfl ⟨_, _, rfl, rfl, rfl⟩ rfl Tryz.underlying79 rfl (mem_at 0 rfl) rfl ?_
      obtain ⟨g552, H⟩ := Gets.grd H
      have h553 : (0 : Int).toNat < x546.fl.length := idx_lt g552
      refine Dv.ixw rfl ⟨_, _, rfl, rfl, rfl⟩ rfl (mem_at 1 rfl) rfl Tryz.underlying79 Tryz.underlying74 c74 g552.1 g552.2 ?_
      refine Dv.faw rfl ⟨_, _, rfl, rfl, rfl⟩ rfl Tryz.underlying74 rfl Tryz.underlying3 c3 (by decide) ?_
      refine Dv.ldw (j := ((0 : Int).toNat)) (f := 0) (p := eq (.int .i64 ((x546.fl.getD ((0 : Int).toNat) default).fAt))) rfl ⟨_, _, rfl, rfl, rfl⟩ rfl (mem_at 1 rfl) h553 Tryz.underlying3 rfl rfl ?_
      refine Dv.mv rfl ⟨_, _, rfl, rfl, rfl⟩ rfl ?_
      refine Dv.bin rfl ⟨_, _, rfl, rfl, rfl⟩ rfl rfl (fun _ => run_le) ?_
      refine Dv.pickT rfl trivial rfl rfl ?_
      refine .fin ?_
      refine WP.cond rfl (fun c554 => ?_) (fun c554 => ?_)
      · replace H := Gets.ct H c554
        refine WP.skip ?_
        refine WP.block ?_
        refine WP.seq ?_
        refine WP.reg [(0, false), (1, false), (2, false), (3, false), (4, false), (5, false), (6, false), (7, false), (8, false), (9, true), (10, false)] (by kernel_rfl) ?_
        refine mv0 rfl rfl ?_
        refine mv0 rfl rfl ?_
        refine Dv.nilpp h550 rfl trivial rfl ?_
        refine Dv.fabp h550 rfl trivial rfl Tryz.underlying81 rfl Tryz.underlying79 c79 (by decide) ?_
        refine Dv.ldb rfl trivial rfl Tryz.underlying79 rfl (mem_at 0 rfl) rfl ?_
        obtain ⟨g555, H⟩ := Gets.grd H
        have h556 : (0 : Int).toNat < x546.fl.length := idx_lt g555
        refine Dv.ixw rfl trivial rfl (mem_at 1 rfl) rfl Tryz.underlying79 Tryz.underlying74 c74 g555.1 g555.2 ?_
        refine Dv.faw rfl trivial rfl Tryz.underlying74 rfl Tryz.underlying9 c9 (by decide) ?_
        refine Dv.ldw (j := ((0 : Int).toNat)) (f := 1) (p := eq (.string ((x546.fl.getD ((0 : Int).toNat) default).fKey))) rfl trivial rfl (mem_at 1 rfl) h556 Tryz.underlying9 rfl rfl ?_
        refine Dv.lit strK ([(x546.fl.getD ((0 : Int).toNat) default).fKey] : List ByteArray) (css := [[eq (.string ((x546.fl.getD ((0 : Int).toNat) default).fKey))]]) rfl trivial Tryz.underlying39 Tryz.underlying9 c9 z9 rfl (by decide) (by decide) rfl ⟨(cells_one (one_eq rfl)), trivial⟩ rfl rfl rfl ?_
        obtain ⟨g557, H⟩ := Gets.grd H
        refine Dv.appx (jj := 3) (ys := ([(x546.fl.getD ((0 : Int).toNat) default).fKey] : List ByteArray)) (fun v558 : OV => [blk g549.1 81 [eq g549.2.1.1, eq g549.2.2.1], own HEnt.K g549.2.1.1 x546.fl, mp Value.string (fun x : Int => eq (.int .i64 x)) g549.2.2.1 x546.fat, own strK v558.1 (x547 ++ ([(x546.fl.getD ((0 : Int).toNat) default).fKey] : List ByteArray))] ++ F) rfl trivial rfl rfl rfl src_sl Tryz.underlying39 (.inr ⟨_, Tryz.underlying39⟩) inf9 rfl (by decide) g557 rfl nofun (fun v558 => ?_)
        refine as0 rfl rfl ?_
        refine .fin ?_
        refine WP.reg [(0, false), (1, false), (2, false), (3, false), (4, false), (5, false), (6, false), (7, false), (8, true)] (by kernel_rfl) ?_
        refine mv0 rfl rfl ?_
        refine mv0 rfl rfl ?_
        refine Dv.nilpp h550 rfl trivial rfl ?_
        refine Dv.fabp h550 rfl trivial rfl Tryz.underlying81 rfl Tryz.underlying79 c79 (by decide) ?_
        refine Dv.ldb rfl trivial rfl Tryz.underlying79 rfl (mem_at 0 rfl) rfl ?_
        obtain ⟨g559, H⟩ := Gets.grd H
        have h560 : (0 : Int).toNat < x546.fl.length := idx_lt g559
        refine Dv.ixw rfl trivial rfl (mem_at 1 rfl) rfl Tryz.underlying79 Tryz.underlying74 c74 g559.1 g559.2 ?_
        refine Dv.faw rfl trivial rfl Tryz.underlying74 rfl Tryz.underlying9 c9 (by decide) ?_
        refine Dv.ldw (j := ((0 : Int).toNat)) (f := 1) (p := eq (.string ((x546.fl.getD ((0 : Int).toNat) default).fKey))) rfl trivial rfl (mem_at 1 rfl) h560 Tryz.underlying9 rfl rfl ?_
        refine Dv.gh (l' := fun _ : Unit => [HHeap.O p0_ x546, own strK v558.1 (x547 ++ ([(x546.fl.getD ((0 : Int).toNat) default).fKey] : List ByteArray))] ++ F) (gh_of (HHeap.shut (p := p0_) (m := x546) (r := [own strK v558.1 (x547 ++ ([(x546.fl.getD ((0 : Int).toNat) default).fKey] : List ByteArray))] ++ F) (g549.1, g549.2.1, g549.2.2) h550 (perm_ton 4 [0, 1, 2, 3] rfl rfl rfl))) (fun _ _ => ?_)
        obtain ⟨t561, h562, H⟩ := Gets.call H
        refine Dv.callx (pre := [HHeap.O p0_ x546]) (F := [own strK v558.1 (x547 ++ ([(x546.fl.getD ((0 : Int).toNat) default).fKey] : List ByteArray))] ++ F) (fun _ : Unit => [HHeap.O p0_ t561.2, own strK v558.1 (x547 ++ ([(x546.fl.getD ((0 : Int).toNat) default).fKey] : List ByteArray))] ++ F) rfl trivial cal35 rfl (heap_Heap_Drop.c h562 (p0_ := p0_)) (perm_ton 2 [0, 1] rfl rfl rfl) rfl nofun (fun _ _ => ?_)
        refine .fin ?_
        exact Back.mk j564 (t561.2, x547 ++ ([(x546.fl.getD ((0 : Int).toNat) default).fKey] : List ByteArray), v558) (Nat.lt_succ_self _) H (weak_cons rfl (weak_cons rfl (weak_cons rfl (weak_cons rfl weak_nil)))) (List.Perm.refl _)
      · replace H := Gets.cf H c554
        refine WP.exit ?_
        replace H := Gets.out H
        refine Dn.gh (l' := fun _ : Unit => [HHeap.O p0_ x546, own strK v548.1 x547] ++ F) (gh_of (HHeap.shut (p := p0_) (m := x546) (r := [own strK v548.1 x547] ++ F) (g549.1, g549.2.1, g549.2.2) h550 (perm_ton 4 [0, 1, 2, 3] rfl rfl rfl))) (fun _ _ => ?_)
        exact Jn.mk ((decide (((x546.fl.getD ((0 : Int).toNat) default).fAt) ≤ a1), x546, x547), v548) H (weak_cons rfl (weak_cons rfl (weak_cons rfl (weak_cons rfl (weak_cons rfl weak_nil))))) (List.Perm.refl _)
theorem slices_Sort_string.c {a0 : List ByteArray} {p0_ : OV} {r : List ByteArray} (h : slices_Sort_string.f a0 = some r) : Tr Tryz.prog 43 [eq p0_.1] [own strK p0_.1 a0] (γ := Unit) (fun _ => True) (fun g => tup []) (fun g => [own strK p0_.1 r]) := by
  unfold slices_Sort_string.f at h
  obtain ⟨h0, h5⟩ := (Gets.of h).grd
  obtain rfl := Gets.out h5
  exact sort_tr (fun blk off cap ss w => Go.Proofs.Any.slices_Sort_string Tryz.lays190 blk off cap ss w) (fun q cap w => Go.Proofs.Any.slices_Sort_string_none Tryz.lays190 q cap w) h0

theorem presence_Table_Turned.c {k : Nat} {a0 : PTab} {a1 : Int} {p0_ : OV} {r : (List ByteArray) × PTab} (h : presence_Table_Turned.f k a0 a1 = some r) : Tr Tryz.prog 22 [eq p0_.1, eq (.int .i64 a1)] [PTab.O p0_ a0] (γ := OV) (fun _ => True) (fun g => eq g.1) (fun g => [PTab.O p0_ r.2, own strK g.1 r.1]) := by
  unfold presence_Table_Turned.f at h
  refine Tr.body Tryz.func22 (c := _) rfl Tryz.ntmps22 (Nat.le_of_ble_eq_true rfl) fun R0 F => ?_
  replace h := Gets.of h
  have H := h
  clear h
  refine WP.seq ?_
  refine WP.reg [(0, false)] (by kernel_rfl) ?_
  refine as0 rfl rfl ?_
  refine .fin ?_
  refine WP.seq ?_
  refine WP.reg [(0, false), (1, false), (2, false), (3, false), (4, false), (5, true), (6, false)] (by kernel_rfl) ?_
  refine mv0 rfl rfl ?_
  refine Dv.nilA PTab.nn rfl trivial rfl (mem_at 0 rfl) ?_
  refine Dv.gh (l' := fun (g567 : Nat × OV × OV) => [blk g567.1 61 [eq g567.2.1.1, eq g567.2.2.1], own Edu.K g567.2.1.1 a0.fl, HHeap.O g567.2.2 a0.fturns] ++ F) (gh_of (PTab.opn 0 rfl)) (fun g567 h568 => ?_)
  refine Dv.fabp h568 rfl trivial rfl Tryz.underlying61 rfl Tryz.underlying58 c58 (by decide) ?_
  refine Dv.ldb rfl trivial rfl Tryz.underlying58 rfl (mem_at 0 rfl) rfl ?_
  refine mv0 rfl rfl ?_
  obtain ⟨t569, h570, H⟩ := Gets.call H
  refine Dv.callx (pre := [HHeap.O g567.2.2 a0.fturns]) (F := [blk g567.1 61 [eq g567.2.1.1, eq g567.2.2.1], own Edu.K g567.2.1.1 a0.fl] ++ F) (fun g571 : OV => [HHeap.O g567.2.2 t569.2, own strK g571.1 t569.1, blk g567.1 61 [eq g567.2.1.1, eq g567.2.2.1], own Edu.K g567.2.1.1 a0.fl] ++ F) rfl trivial cal42 rfl (heap_Heap_Due.c h570 (p0_ := g567.2.2)) (perm_ton 3 [2, 0, 1] rfl rfl rfl) rfl nofun (fun g571 _ => ?_)
  refine as0 rfl rfl ?_
  refine .fin ?_
  refine WP.seqn H id (fun p572 : Int × Bool × PTab => [(0, eq p0_.1), (1, eq (.int .i64 a1)), (4, eq (.slice none 0 0)), (5, eq g571.1), (18, eq g571.1), (19, eq (.int .i64 (t569.1.length : Int))), (20, eq (.int .i64 p572.1)), (21, eq (.bool p572.2.1))]) (fun p572 : Int × Bool × PTab => [PTab.O p0_ p572.2.2, own strK g571.1 t569.1] ++ F) (fun p572 H => ?_) (fun H => ?_)
  · refine WP.seq ?_
    refine WP.reg [(0, false), (1, true)] (by kernel_rfl) ?_
    refine mv0 rfl rfl ?_
    obtain ⟨t573, h574, H⟩ := Gets.call H
    refine Dv.callx (pre := [own strK g571.1 t569.1]) (F := [PTab.O p0_ p572.2.2] ++ F) (fun _ : Unit => [own strK g571.1 t573, PTab.O p0_ p572.2.2] ++ F) rfl trivial cal43 rfl (slices_Sort_string.c h574 (p0_ := g571)) (perm_ton 2 [1, 0] rfl rfl rfl) rfl nofun (fun _ _ => ?_)
    refine .fin ?_
    refine WP.seq ?_
    refine WP.reg [(0, false), (1, false)] (by kernel_rfl) ?_
    refine mv0 rfl rfl ?_
    refine as0 rfl rfl ?_
    refine .fin ?_
    obtain rfl := Gets.out H
    exact WP.retL (fun _ _ h => h) rfl g571 trivial (.cons (res_tmp rfl) .nil) rfl (st_seln 2 [1, 0] 0 rfl rfl rfl)
  · refine WP.seq ?_
    refine WP.reg [(0, false), (1, false), (2, false)] (by kernel_rfl) ?_
    refine mv0 rfl rfl ?_
    refine Dv.lenw rfl trivial rfl (mem_at 1 rfl) Tryz.underlying39 ?_
    refine mv0 rfl rfl ?_
    refine .fin ?_
    refine WP.block ?_
    refine WP.gh (l' := fun _ : Unit => [PTab.O p0_ (⟨a0.fl, t569.2⟩ : PTab), own strK g571.1 t569.1] ++ F) (gh_of (PTab.shut (p := p0_) (m := (⟨a0.fl, t569.2⟩ : PTab)) (r := [own strK g571.1 t569.1] ++ F) (g567.1, g567.2.1, g567.2.2) h568 (perm_ton 4 [2, 3, 0, 1] rfl rfl rfl))) (fun _ _ => ?_)
    refine WP.gh (l' := fun _ => [PTab.O p0_ (⟨a0.fl, t569.2⟩ : PTab), own strK g571.1 t569.1] ++ F) (gh_of (st_selgn 2 [0, 1] 0 rfl rfl rfl)) (fun _ _ => ?_)
    refine WP.loopg (fun j_ (p592 : Int × PTab) => presence_Table_Turned.l0 k a1 t569 j_ p592.1 p592.2) (0, (⟨a0.fl, t569.2⟩ : PTab)) H (fun p592 => [(0, eq p0_.1), (1, eq (.int .i64 a1)), (4, eq (.slice none 0 0)), (5, eq g571.1), (18, eq g571.1), (19, eq (.int .i64 (t569.1.length : Int))), (20, eq (.int .i64 p592.1))]) (fun p592 => [PTab.O p0_ p592.2, own strK g571.1 t569.1] ++ F) (weak_cons rfl (weak_cons rfl (weak_cons rfl (weak_cons rfl (weak_cons rfl (weak_cons rfl (weak_cons rfl weak_nil))))))) (List.Perm.refl _) ?_
    rintro j_ ⟨x575, x576⟩ H
    rcases j_ with _ | j591
    · exact (Gets.no H).elim
    replace H : Gets (presence_Table_Turned.l0 k a1 t569 (j591 + 1) x575 x576) _ := H
    rw [presence_Table_Turned.l0] at H
    refine WP.seq ?_
    refine WP.reg [(0, false)] (by kernel_rfl) ?_
    refine Dv.bin rfl trivial rfl rfl (fun _ => run_lt) ?_
    refine .fin ?_
    refine WP.seq ?_
    refine WP.cond rfl (fun c577 => ?_) (fun c577 => ?_)
    · replace H := Gets.ct H c577
      refine WP.skip ?_
      refine WP.seq ?_
      refine WP.block ?_
      refine WP.seq ?_
      refine WP.reg [(0, false), (1, false), (2, false)] (by kernel_rfl) ?_
      obtain ⟨g578, H⟩ := Gets.grd H
      have h579 : x575.toNat < t569.1.length := idx_lt g578
      refine Dv.ixw rfl trivial rfl (mem_at 1 rfl) rfl Tryz.underlying39 Tryz.underlying9 c9 g578.1 g578.2 ?_
      refine Dv.ldw (j := x575.toNat) (f := 0) (p := eq (.string (t569.1.getD x575.toNat default))) rfl trivial rfl (mem_at 1 rfl) h579 Tryz.underlying9 rfl rfl ?_
      refine as0 rfl rfl ?_
      refine .fin ?_
      refine WP.seq ?_
      refine WP.reg [(0, false), (1, false), (2, false), (3, false), (4, false), (5, false), (6, false), (7, false)] (by kernel_rfl) ?_
      refine mv0 rfl rfl ?_
      refine mv0 rfl rfl ?_
      refine Dv.gh (l' := fun (g580 : Nat × OV × OV) => [blk g580.1 61 [eq g580.2.1.1, eq g580.2.2.1], own Edu.K g580.2.1.1 x576.fl, HHeap.O g580.2.2 x576.fturns, own strK g571.1 t569.1] ++ F) (gh_of (PTab.opn 0 rfl)) (fun g580 h581 => ?_)
      obtain ⟨t582, h583, H⟩ := Gets.call H
      refine Dv.calll (B := [blk g580.1 61 [eq g580.2.1.1, eq g580.2.2.1], own Edu.K g580.2.1.1 x576.fl]) (F := [HHeap.O g580.2.2 x576.fturns, own strK g571.1 t569.1] ++ F) rfl trivial cal32 rfl (Tr.weak (presence_Table_place.c h583 (b0_ := g580.1) (v0_0 := g580.2.1) (v0_1 := g580.2.2)) (.cons (wk_ptr h581) (.cons wk_id .nil))) (perm_ton 4 [0, 1, 2, 3] rfl rfl rfl) ?_
      refine mv0 rfl rfl ?_
      refine Dv.ext rfl trivial rfl rfl ?_
      refine Dv.ext rfl trivial rfl rfl ?_
      refine as0 rfl rfl ?_
      refine as0 rfl rfl ?_
      refine .fin ?_
      refine WP.seq ?_
      refine WP.reg [(0, false), (1, false), (2, false), (3, false), (4, false), (5, false), (6, false), (7, false), (8, false), (9, false), (10, false), (11, false), (12, false), (13, false)] (by kernel_rfl) ?_
      refine mv0 rfl rfl ?_
      refine Dv.nilpp h581 rfl trivial rfl ?_
      refine Dv.fabp h581 rfl trivial rfl Tryz.underlying61 rfl Tryz.underlying22 c22 (by decide) ?_
      refine Dv.ldb rfl trivial rfl Tryz.underlying22 rfl (mem_at 0 rfl) rfl ?_
      refine mv0 rfl rfl ?_
      obtain ⟨g584, H⟩ := Gets.grd H
      have h585 : t582.1.toNat < x576.fl.length := idx_lt g584
      refine Dv.ixw rfl trivial rfl (mem_at 1 rfl) rfl Tryz.underlying22 Tryz.underlying32 c32 g584.1 g584.2 ?_
      refine Dv.ldws (j := t582.1.toNat) (f := 0) rfl trivial rfl (mem_at 1 rfl) h585 Tryz.underlying32 rfl c32 (Nat.le_of_ble_eq_true rfl) ?_
      refine mv0 rfl rfl ?_
      obtain ⟨t586, h587, H⟩ := Gets.call H
      refine Dv.call rfl trivial cal36 rfl (presence_turn.c h587) ?_
      refine mv0 rfl rfl ?_
      refine Dv.ext rfl trivial rfl rfl ?_
      refine Dv.ext rfl trivial rfl rfl ?_
      refine as0 rfl rfl ?_
      refine as0 rfl rfl ?_
      refine .fin ?_
      refine WP.seq ?_
      refine WP.reg [(0, false)] (by kernel_rfl) ?_
      refine mv0 rfl rfl ?_
      refine .fin ?_
      refine WP.cond rfl (fun c588 => ?_) (fun c588 => ?_)
      · replace H := Gets.ct H c588
        refine WP.reg [(0, false), (1, false), (2, false), (3, false), (4, false), (5, false), (6, true)] (by kernel_rfl) ?_
        refine mv0 rfl rfl ?_
        refine Dv.nilpp h581 rfl trivial rfl ?_
        refine Dv.fabp h581 rfl trivial rfl Tryz.underlying61 rfl Tryz.underlying58 c58 (by decide) ?_
        refine Dv.ldb rfl trivial rfl Tryz.underlying58 rfl (mem_at 0 rfl) rfl ?_
        refine mv0 rfl rfl ?_
        refine mv0 rfl rfl ?_
        obtain ⟨t589, h590, H⟩ := Gets.call H
        refine Dv.callx (pre := [HHeap.O g580.2.2 x576.fturns]) (F := [blk g580.1 61 [eq g580.2.1.1, eq g580.2.2.1], own Edu.K g580.2.1.1 x576.fl, own strK g571.1 t569.1] ++ F) (fun _ : Unit => [HHeap.O g580.2.2 t589, blk g580.1 61 [eq g580.2.1.1, eq g580.2.2.1], own Edu.K g580.2.1.1 x576.fl, own strK g571.1 t569.1] ++ F) rfl trivial cal37 rfl (heap_Heap_Put.c h590 (p0_ := g580.2.2)) (perm_ton 4 [2, 0, 1, 3] rfl rfl rfl) rfl nofun (fun _ _ => ?_)
        refine .fin ?_
        refine WP.reg [(0, false), (1, false)] (by kernel_rfl) ?_
        refine Dv.bin rfl trivial rfl rfl (fun _ => run_add) ?_
        refine mv0 rfl rfl ?_
        refine .fin ?_
        refine Dn.gh (l' := fun _ : Unit => [PTab.O p0_ (⟨x576.fl, t589⟩ : PTab), own strK g571.1 t569.1] ++ F) (gh_of (PTab.shut (p := p0_) (m := (⟨x576.fl, t589⟩ : PTab)) (r := [own strK g571.1 t569.1] ++ F) (g580.1, g580.2.1, g580.2.2) h581 (perm_ton 4 [1, 2, 0, 3] rfl rfl rfl))) (fun _ _ => ?_)
        exact Back.mk j591 (w64 (x575 + 1), (⟨x576.fl, t589⟩ : PTab)) (Nat.lt_succ_self _) H (weak_cons rfl (weak_cons rfl (weak_cons rfl (weak_cons rfl (weak_cons rfl (weak_cons rfl (weak_cons rfl weak_nil))))))) (List.Perm.refl _)
      · replace H := Gets.cf H c588
        refine WP.skip ?_
        refine WP.reg [(0, false), (1, false)] (by kernel_rfl) ?_
        refine Dv.bin rfl trivial rfl rfl (fun _ => run_add) ?_
        refine mv0 rfl rfl ?_
        refine .fin ?_
        refine Dn.gh (l' := fun _ : Unit => [PTab.O p0_ x576, own strK g571.1 t569.1] ++ F) (gh_of (PTab.shut (p := p0_) (m := x576) (r := [own strK g571.1 t569.1] ++ F) (g580.1, g580.2.1, g580.2.2) h581 (perm_ton 4 [0, 1, 2, 3] rfl rfl rfl))) (fun _ _ => ?_)
        exact Back.mk j591 (w64 (x575 + 1), x576) (Nat.lt_succ_self _) H (weak_cons rfl (weak_cons rfl (weak_cons rfl (weak_cons rfl (weak_cons rfl (weak_cons rfl (weak_cons rfl weak_nil))))))) (List.Perm.refl _)
    · replace H := Gets.cf H c577
      refine WP.exit ?_
      replace H := Gets.out H
      exact Jn.mk (x575, decide (x575 < (t569.1.length : Int)), x576) H (weak_cons rfl (weak_cons rfl (weak_cons rfl (weak_cons rfl (weak_cons rfl (weak_cons rfl (weak_cons rfl (weak_cons rfl weak_nil)))))))) (List.Perm.refl _)
theorem heap_Heap_First.c {a0 : HHeap} {p0_ : OV} {r : HEnt × Bool} (h : heap_Heap_First.f a0 = some r) : Tr Tryz.prog 44 [eq p0_.1] [HHeap.O p0_ a0] (γ := Unit) (fun _ => True) (fun g => tup [agg (HEnt.enc r.1), eq (.bool r.2)]) (fun g => [HHeap.O p0_ a0]) := by
  unfold heap_Heap_First.f at h
  refine Tr.body Tryz.func44 (c := _) rfl Tryz.ntmps44 (Nat.le_of_ble_eq_true rfl) fun R0 F => ?_
  replace h := Gets.of h
  have H := h
  clear h
  refine WP.seq ?_
  refine WP.reg [(0, true), (1, false)] (by kernel_rfl) ?_
  refine Dv.alloc (z := .agg #[.int .i64 0, .string ⟨#[]⟩]) (qs := [eq (.int .i64 0), eq (.string (⟨#[]⟩ : ByteArray))]) rfl trivial z74 rfl nofun (fun b593 => ?_)
  refine as0 rfl rfl ?_
  refine .fin ?_
  refine WP.seq ?_
  refine WP.seq ?_
  refine WP.reg [(0, false), (1, false), (2, false), (3, false), (4, false), (5, false)] (by kernel_rfl) ?_
  refine mv0 rfl rfl ?_
  refine Dv.nilA HHeap.nn rfl trivial rfl (mem_at 1 rfl) ?_
  refine Dv.gh (l' := fun (g594 : Nat × OV × OV) => [blk g594.1 81 [eq g594.2.1.1, eq g594.2.2.1], own HEnt.K g594.2.1.1 a0.fl, mp Value.string (fun x : Int => eq (.int .i64 x)) g594.2.2.1 a0.fat, blk b593 74 [eq (.int .i64 0), eq (.string (⟨#[]⟩ : ByteArray))]] ++ F) (gh_of (HHeap.opn 1 rfl)) (fun g594 h595 => ?_)
  refine Dv.fabp h595 rfl trivial rfl Tryz.underlying81 rfl Tryz.underlying79 c79 (by decide) ?_
  refine Dv.ldb rfl trivial rfl Tryz.underlying79 rfl (mem_at 0 rfl) rfl ?_
  refine Dv.lenw rfl trivial rfl (mem_at 1 rfl) Tryz.underlying79 ?_
  refine Dv.bin rfl trivial rfl rfl (fun _ => run_eq) ?_
  refine .fin ?_
  refine WP.cond rfl (fun c596 => ?_) (fun c596 => ?_)
  · replace H := Gets.ct H c596
    refine WP.seq ?_
    refine WP.reg [(0, false), (1, true), (2, false)] (by kernel_rfl) ?_
    refine Dv.bld (css := []) rfl trivial Tryz.underlying74 pl74 z74 rfl trivial rfl rfl ?_
    refine Dv.stx ([blk g594.1 81 [eq g594.2.1.1, eq g594.2.2.1], own HEnt.K g594.2.1.1 a0.fl, mp Value.string (fun x : Int => eq (.int .i64 x)) g594.2.2.1 a0.fat, blk b593 74 [eq (.int .i64 0), eq (.string (⟨#[]⟩ : ByteArray))]] ++ F) rfl trivial rfl rfl (cells_agg (ones_cons (one_eq rfl) (ones_cons (one_eq rfl) ones_nil))) Tryz.underlying74 c74 rfl (j := 3) rfl (Nat.le_of_ble_eq_true rfl) rfl nofun ?_
    refine as0 rfl rfl ?_
    refine .fin ?_
    refine WP.gh (l' := fun _ : Unit => [HHeap.O p0_ a0, blk b593 74 [eq (.int .i64 0), eq (.string (⟨#[]⟩ : ByteArray))]] ++ F) (gh_of (HHeap.shut (p := p0_) (m := a0) (r := [blk b593 74 [eq (.int .i64 0), eq (.string (⟨#[]⟩ : ByteArray))]] ++ F) (g594.1, g594.2.1, g594.2.2) h595 (perm_ton 4 [0, 1, 2, 3] rfl rfl rfl))) (fun _ _ => ?_)
    obtain rfl := Gets.out H
    exact WP.retL (fun _ _ h => h) rfl () trivial (.cons (res_cells rfl Tryz.underlying74 rfl c74 (mem_at 1 rfl) rfl) (.cons (res_tmp rfl) .nil)) rfl (st_seln 2 [1, 0] 1 rfl rfl rfl)
  · replace H := Gets.cf H c596
    refine WP.skip ?_
    refine WP.seq ?_
    refine WP.reg [(0, false), (1, false), (2, false), (3, false), (4, false), (5, false), (6, true), (7, false)] (by kernel_rfl) ?_
    refine mv0 rfl rfl ?_
    refine Dv.nilpp h595 rfl trivial rfl ?_
    refine Dv.fabp h595 rfl trivial rfl Tryz.underlying81 rfl Tryz.underlying79 c79 (by decide) ?_
    refine Dv.ldb rfl trivial rfl Tryz.underlying79 rfl (mem_at 0 rfl) rfl ?_
    obtain ⟨g597, H⟩ := Gets.grd H
    have h598 : (0 : Int).toNat < a0.fl.length := idx_lt g597
    refine Dv.ixw rfl trivial rfl (mem_at 1 rfl) rfl Tryz.underlying79 Tryz.underlying74 c74 g597.1 g597.2 ?_
    refine Dv.ldws (j := ((0 : Int).toNat)) (f := 0) rfl trivial rfl (mem_at 1 rfl) h598 Tryz.underlying74 rfl c74 (Nat.le_of_ble_eq_true rfl) ?_
    refine Dv.stx ([blk g594.1 81 [eq g594.2.1.1, eq g594.2.2.1], own HEnt.K g594.2.1.1 a0.fl, mp Value.string (fun x : Int => eq (.int .i64 x)) g594.2.2.1 a0.fat, blk b593 74 [eq (.int .i64 ((a0.fl.getD ((0 : Int).toNat) default).fAt)), eq (.string ((a0.fl.getD ((0 : Int).toNat) default).fKey))]] ++ F) rfl trivial rfl rfl (cells_agg (HEnt.K.one _)) Tryz.underlying74 c74 rfl (j := 3) rfl (Nat.le_of_ble_eq_true rfl) rfl nofun ?_
    refine as0 rfl rfl ?_
    refine .fin ?_
    refine WP.gh (l' := fun _ : Unit => [HHeap.O p0_ a0, blk b593 74 [eq (.int .i64 ((a0.fl.getD ((0 : Int).toNat) default).fAt)), eq (.string ((a0.fl.getD ((0 : Int).toNat) default).fKey))]] ++ F) (gh_of (HHeap.shut (p := p0_) (m := a0) (r := [blk b593 74 [eq (.int .i64 ((a0.fl.getD ((0 : Int).toNat) default).fAt)), eq (.string ((a0.fl.getD ((0 : Int).toNat) default).fKey))]] ++ F) (g594.1, g594.2.1, g594.2.2) h595 (perm_ton 4 [0, 1, 2, 3] rfl rfl rfl))) (fun _ _ => ?_)
    obtain rfl := Gets.out H
    exact WP.retL (fun _ _ h => h) rfl () trivial (.cons (res_cells rfl Tryz.underlying74 rfl c74 (mem_at 1 rfl) rfl) (.cons (res_tmp rfl) .nil)) rfl (st_seln 2 [1, 0] 1 rfl rfl rfl)
theorem presence_Table_Next.c {a0 : PTab} {p0_ : OV} {r : Int × Bool} (h : presence_Table_Next.f a0 = some r) : Tr Tryz.prog 23 [eq p0_.1] [PTab.O p0_ a0] (γ := Unit) (fun _ => True) (fun g => tup [eq (.int .i64 r.1), eq (.bool r.2)]) (fun g => [PTab.O p0_ a0]) := by
  unfold presence_Table_Next.f at h
  refine Tr.body Tryz.func23 (c := _) rfl Tryz.ntmps23 (Nat.le_of_ble_eq_true rfl) fun R0 F => ?_
  replace h := Gets.of h
  have H := h
  clear h
  refine WP.seq ?_
  refine WP.reg [(0, false), (1, false)] (by kernel_rfl) ?_
  refine as0 rfl rfl ?_
  refine as0 rfl rfl ?_
  refine .fin ?_
  refine WP.seq ?_
  refine WP.reg [(0, false), (1, false), (2, false), (3, false), (4, true), (5, false), (6, false), (7, false), (8, true), (9, true), (10, false)] (by kernel_rfl) ?_
  refine mv0 rfl rfl ?_
  refine Dv.nilA PTab.nn rfl trivial rfl (mem_at 0 rfl) ?_
  refine Dv.gh (l' := fun (g599 : Nat × OV × OV) => [blk g599.1 61 [eq g599.2.1.1, eq g599.2.2.1], own Edu.K g599.2.1.1 a0.fl, HHeap.O g599.2.2 a0.fturns] ++ F) (gh_of (PTab.opn 0 rfl)) (fun g599 h600 => ?_)
  refine Dv.fabp h600 rfl trivial rfl Tryz.underlying61 rfl Tryz.underlying58 c58 (by decide) ?_
  refine Dv.ldb rfl trivial rfl Tryz.underlying58 rfl (mem_at 0 rfl) rfl ?_
  obtain ⟨t601, h602, H⟩ := Gets.call H
  refine Dv.callx (pre := [HHeap.O g599.2.2 a0.fturns]) (F := [blk g599.1 61 [eq g599.2.1.1, eq g599.2.2.1], own Edu.K g599.2.1.1 a0.fl] ++ F) (fun _ : Unit => [HHeap.O g599.2.2 a0.fturns, blk g599.1 61 [eq g599.2.1.1, eq g599.2.2.1], own Edu.K g599.2.1.1 a0.fl] ++ F) rfl trivial cal44 rfl (heap_Heap_First.c h602 (p0_ := g599.2.2)) (perm_ton 3 [2, 0, 1] rfl rfl rfl) rfl nofun (fun _ _ => ?_)
  refine mv0 rfl rfl ?_
  refine Dv.ext rfl trivial rfl rfl ?_
  refine Dv.ext rfl trivial rfl rfl ?_
  refine Dv.alloc (z := .agg #[.int .i64 0, .string ⟨#[]⟩]) (qs := [eq (.int .i64 0), eq (.string (⟨#[]⟩ : ByteArray))]) rfl trivial z74 rfl nofun (fun b603 => ?_)
  refine Dv.stx ([blk b603 74 [eq (.int .i64 t601.1.fAt), eq (.string t601.1.fKey)], HHeap.O g599.2.2 a0.fturns, blk g599.1 61 [eq g599.2.1.1, eq g599.2.2.1], own Edu.K g599.2.1.1 a0.fl] ++ F) rfl trivial rfl rfl (cells_agg (HEnt.K.one _)) Tryz.underlying74 c74 rfl (j := 0) rfl (Nat.le_of_ble_eq_true rfl) rfl nofun ?_
  refine as0 rfl rfl ?_
  refine .fin ?_
  refine WP.seq ?_
  refine WP.reg [(0, false), (1, false), (2, false), (3, false), (4, false)] (by kernel_rfl) ?_
  refine Dv.fab rfl trivial rfl Tryz.underlying74 rfl Tryz.underlying3 c3 (by decide) ?_
  refine Dv.ldb rfl trivial rfl Tryz.underlying3 rfl (mem_at 0 rfl) rfl ?_
  refine mv0 rfl rfl ?_
  refine as0 rfl rfl ?_
  refine as0 rfl rfl ?_
  refine .fin ?_
  refine WP.gh (l' := fun _ : Unit => [PTab.O p0_ a0, blk b603 74 [eq (.int .i64 t601.1.fAt), eq (.string t601.1.fKey)]] ++ F) (gh_of (PTab.shut (p := p0_) (m := a0) (r := [blk b603 74 [eq (.int .i64 t601.1.fAt), eq (.string t601.1.fKey)]] ++ F) (g599.1, g599.2.1, g599.2.2) h600 (perm_ton 4 [2, 3, 1, 0] rfl rfl rfl))) (fun _ _ => ?_)
  obtain rfl := Gets.out H
  exact WP.retL (fun _ _ h => h) rfl () trivial (.cons (res_tmp rfl) (.cons (res_tmp rfl) .nil)) rfl (st_seln 2 [1, 0] 1 rfl rfl rfl)
theorem concourseref01_colon.c {k : Nat} {a0 : ByteArray} {r : Int} (h : concourseref01_colon.f k a0 = some r) : Pt Tryz.prog 93 [eq (.string a0)] (eq (.int .i64 r)) := by
  unfold concourseref01_colon.f at h
  refine (Tr.body Tryz.func93 (c := _) rfl Tryz.ntmps93 (Nat.le_of_ble_eq_true rfl) fun R0 F => ?_).pt
  replace h := Gets.of h
  have H := h
  clear h
  refine WP.seq ?_
  refine WP.reg [(0, false)] (by kernel_rfl) ?_
  refine as0 rfl rfl ?_
  refine .fin ?_
  refine WP.seqr H id (fun p672 : Int × Bool => [(0, eq (.string a0)), (2, eq (.int .i64 0)), (3, eq (.int .i64 p672.1)), (7, eq (.bool p672.2))]) (fun p672 : Int × Bool => [] ++ F) (fun p672 H => ?_) (fun H => ?_)
  · refine WP.seq ?_
    refine WP.reg [(0, false)] (by kernel_rfl) ?_
    refine as0 rfl rfl ?_
    refine .fin ?_
    obtain rfl := Gets.out H
    exact WP.retL (fun _ _ h => h) rfl () trivial (.cons (res_tmp rfl) .nil) rfl (st_seln 0 [] 0 rfl rfl rfl)
  · refine WP.seq ?_
    refine WP.reg [(0, false)] (by kernel_rfl) ?_
    refine as0 rfl rfl ?_
    refine .fin ?_
    refine WP.block ?_
    refine WP.gh (l' := fun _ => [] ++ F) (gh_of (st_selgn 0 [] 0 rfl rfl rfl)) (fun _ _ => ?_)
    refine WP.loopg (fun j_ (p678 : Int) => concourseref01_colon.l0 k a0 j_ p678) 0 H (fun p678 => [(0, eq (.string a0)), (2, eq (.int .i64 0)), (3, eq (.int .i64 p678))]) (fun p678 => [] ++ F) (weak_cons rfl (weak_cons rfl (weak_cons rfl weak_nil))) (List.Perm.refl _) ?_
    rintro j_ x673 H
    rcases j_ with _ | j677
    · exact (Gets.no H).elim
    replace H : Gets (concourseref01_colon.l0 k a0 (j677 + 1) x673) _ := H
    rw [concourseref01_colon.l0] at H
    refine WP.seq ?_
    refine WP.seq ?_
    refine WP.reg [(0, false), (1, false), (2, false), (3, false)] (by kernel_rfl) ?_
    refine mv0 rfl rfl ?_
    refine mv0 rfl rfl ?_
    refine Dv.lens rfl trivial rfl Tryz.underlying9 ?_
    refine Dv.bin rfl trivial rfl rfl (fun _ => run_lt) ?_
    refine .fin ?_
    refine WP.cond rfl (fun c674 => ?_) (fun c674 => ?_)
    · replace H := Gets.ct H c674
      refine WP.skip ?_
      refine WP.seq ?_
      refine WP.block ?_
      refine WP.seq ?_
      refine WP.reg [(0, false), (1, false), (2, false), (3, false)] (by kernel_rfl) ?_
      refine mv0 rfl rfl ?_
      refine mv0 rfl rfl ?_
      obtain ⟨g675, H⟩ := Gets.grd H
      refine Dv.ixs rfl trivial rfl rfl Tryz.underlying9 g675.1 g675.2 ?_
      refine Dv.bin rfl trivial rfl rfl (fun _ => run_eq) ?_
      refine .fin ?_
      refine WP.cond rfl (fun c676 => ?_) (fun c676 => ?_)
      · replace H := Gets.ct H c676
        refine WP.seq ?_
        refine WP.reg [(0, false), (1, false)] (by kernel_rfl) ?_
        refine mv0 rfl rfl ?_
        refine as0 rfl rfl ?_
        refine .fin ?_
        replace H := Gets.outr H
        obtain rfl := Gets.out H
        exact WP.retL (fun _ _ h => h) rfl () trivial (.cons (res_tmp rfl) .nil) rfl (st_seln 0 [] 0 rfl rfl rfl)
      · replace H := Gets.cf H c676
        refine WP.skip ?_
        refine WP.reg [(0, false), (1, false), (2, false)] (by kernel_rfl) ?_
        refine mv0 rfl rfl ?_
        refine Dv.bin rfl trivial rfl rfl (fun _ => run_add) ?_
        refine as0 rfl rfl ?_
        refine .fin ?_
        exact Back.mk j677 (w64 (x673 + 1)) (Nat.lt_succ_self _) H (weak_cons rfl (weak_cons rfl (weak_cons rfl weak_nil))) (List.Perm.refl _)
    · replace H := Gets.cf H c674
      refine WP.exit ?_
      replace H := Gets.out H
      exact Jn.mk (x673, decide (x673 < (a0.size : Int))) H (weak_cons rfl (weak_cons rfl (weak_cons rfl (weak_cons rfl weak_nil)))) (List.Perm.refl _)
theorem concourseref01_low.c {a0 : Int} {r : Bool} (h : concourseref01_low.f a0 = some r) : Pt Tryz.prog 96 [eq (.int .u8 a0)] (eq (.bool r)) := by
  unfold concourseref01_low.f at h
  refine (Tr.body Tryz.func96 (c := _) rfl Tryz.ntmps96 (Nat.le_of_ble_eq_true rfl) fun R0 F => ?_).pt
  replace h := Gets.of h
  have H := h
  clear h
  refine WP.seq ?_
  refine WP.reg [(0, false)] (by kernel_rfl) ?_
  refine as0 rfl rfl ?_
  refine .fin ?_
  refine WP.seq ?_
  refine WP.reg [(0, false), (1, false), (2, false), (3, false), (4, false), (5, false), (6, false), (7, false), (8, false), (9, false), (10, false), (11, false), (12, false), (13, false), (14, false)] (by kernel_rfl) ?_
  refine mv0 rfl rfl ?_
  refine Dv.bin rfl trivial rfl rfl (fun _ => run_ge) ?_
  refine mv0 rfl rfl ?_
  cases c679 : decide (97 ≤ a0)
  · replace H := Gets.cf H c679
    refine sk rfl rfl rfl rfl rfl ?_
    refine sk rfl rfl rfl rfl rfl ?_
    refine Dv.pickF rfl trivial rfl rfl ?_
    refine mv0 rfl rfl ?_
    refine Dv.mv rfl ⟨_, _, rfl, rfl, rfl⟩ rfl ?_
    refine Dv.bin rfl ⟨_, _, rfl, rfl, rfl⟩ rfl rfl (fun _ => run_ge) ?_
    refine Dv.mv rfl ⟨_, _, rfl, rfl, rfl⟩ rfl ?_
    cases c682 : decide (48 ≤ a0)
    · replace H := Gets.cf H c682
      refine sk rfl rfl rfl rfl rfl ?_
      refine sk rfl rfl rfl rfl rfl ?_
      refine Dv.pickF rfl ⟨_, _, rfl, rfl, rfl⟩ rfl rfl ?_
      refine Dv.pickF rfl trivial rfl rfl ?_
      refine as0 rfl rfl ?_
      refine .fin ?_
      obtain rfl := Gets.out H
      exact WP.retL (fun _ _ h => h) rfl () trivial (.cons (res_tmp rfl) .nil) rfl (st_seln 0 [] 0 rfl rfl rfl)
    · replace H := Gets.ct H c682
      refine Dv.mv rfl ⟨_, _, rfl, rfl, rfl⟩ rfl ?_
      refine Dv.bin rfl ⟨_, _, rfl, rfl, rfl⟩ rfl rfl (fun _ => run_le) ?_
      refine Dv.pickT rfl ⟨_, _, rfl, rfl, rfl⟩ rfl rfl ?_
      refine Dv.pickF rfl trivial rfl rfl ?_
      refine as0 rfl rfl ?_
      refine .fin ?_
      obtain rfl := Gets.out H
      exact WP.retL (fun _ _ h => h) rfl () trivial (.cons (res_tmp rfl) .nil) rfl (st_seln 0 [] 0 rfl rfl rfl)
  · replace H := Gets.ct H c679
    refine Dv.mv rfl ⟨_, _, rfl, rfl, rfl⟩ rfl ?_
    refine Dv.bin rfl ⟨_, _, rfl, rfl, rfl⟩ rfl rfl (fun _ => run_le) ?_
    refine Dv.pickT rfl trivial rfl rfl ?_
    refine mv0 rfl rfl ?_
    cases c680 : decide (a0 ≤ 122)
    · replace H := Gets.cf H c680
      refine Dv.mv rfl ⟨_, _, rfl, rfl, rfl⟩ rfl ?_
      refine Dv.bin rfl ⟨_, _, rfl, rfl, rfl⟩ rfl rfl (fun _ => run_ge) ?_
      refine Dv.mv rfl ⟨_, _, rfl, rfl, rfl⟩ rfl ?_
      cases c681 : decide (48 ≤ a0)
      · replace H := Gets.cf H c681
        refine sk rfl rfl rfl rfl rfl ?_
        refine sk rfl rfl rfl rfl rfl ?_
        refine Dv.pickF rfl ⟨_, _, rfl, rfl, rfl⟩ rfl rfl ?_
        refine Dv.pickF rfl trivial rfl rfl ?_
        refine as0 rfl rfl ?_
        refine .fin ?_
        obtain rfl := Gets.out H
        exact WP.retL (fun _ _ h => h) rfl () trivial (.cons (res_tmp rfl) .nil) rfl (st_seln 0 [] 0 rfl rfl rfl)
      · replace H := Gets.ct H c681
        refine Dv.mv rfl ⟨_, _, rfl, rfl, rfl⟩ rfl ?_
        refine Dv.bin rfl ⟨_, _, rfl, rfl, rfl⟩ rfl rfl (fun _ => run_le) ?_
        refine Dv.pickT rfl ⟨_, _, rfl, rfl, rfl⟩ rfl rfl ?_
        refine Dv.pickF rfl trivial rfl rfl ?_
        refine as0 rfl rfl ?_
        refine .fin ?_
        obtain rfl := Gets.out H
        exact WP.retL (fun _ _ h => h) rfl () trivial (.cons (res_tmp rfl) .nil) rfl (st_seln 0 [] 0 rfl rfl rfl)
    · replace H := Gets.ct H c680
      refine sk rfl rfl rfl rfl rfl ?_
      refine sk rfl rfl rfl rfl rfl ?_
      refine sk rfl rfl rfl rfl rfl ?_
      refine Dv.skip rfl ⟨_, _, rfl, rfl, .inr rfl⟩ ?_
      refine Dv.skip rfl ⟨_, _, rfl, rfl, .inr rfl⟩ ?_
      refine sk rfl rfl rfl rfl rfl ?_
      refine Dv.pickT rfl trivial rfl rfl ?_
      refine as0 rfl rfl ?_
      refine .fin ?_
      obtain rfl := Gets.out H
      exact WP.retL (fun _ _ h => h) rfl () trivial (.cons (res_tmp rfl) .nil) rfl (st_seln 0 [] 0 rfl rfl rfl)
theorem concourseref01_Part.c {k : Nat} {a0 : ByteArray} {r : Bool} (h : concourseref01_Part.f k a0 = some r) : Pt Tryz.prog 94 [eq (.string a0)] (eq (.bool r)) := by
  unfold concourseref01_Part.f at h
  refine (Tr.body Tryz.func94 (c := _) rfl Tryz.ntmps94 (Nat.le_of_ble_eq_true rfl) fun R0 F => ?_).pt
  replace h := Gets.of h
  have H := h
  clear h
  refine WP.seq ?_
  refine WP.reg [(0, false)] (by kernel_rfl) ?_
  refine as0 rfl rfl ?_
  refine .fin ?_
  refine WP.seqr H id (fun p683 : Int × Bool => [(0, eq (.string a0)), (2, eq (.bool false)), (3, eq (.int .i64 p683.1)), (8, eq (.bool p683.2))]) (fun p683 : Int × Bool => [] ++ F) (fun p683 H => ?_) (fun H => ?_)
  · refine WP.seq ?_
    refine WP.reg [(0, false), (1, false), (2, false), (3, false), (4, false), (5, false), (6, false), (7, false), (8, false)] (by kernel_rfl) ?_
    refine mv0 rfl rfl ?_
    refine Dv.lens rfl trivial rfl Tryz.underlying9 ?_
    refine Dv.bin rfl trivial rfl rfl (fun _ => run_gt) ?_
    refine mv0 rfl rfl ?_
    cases c684 : decide (0 < (a0.size : Int))
    · replace H := Gets.cf H c684
      refine sk rfl rfl rfl rfl rfl ?_
      refine sk rfl rfl rfl rfl rfl ?_
      refine sk rfl rfl rfl rfl rfl ?_
      refine Dv.pickF rfl trivial rfl rfl ?_
      refine as0 rfl rfl ?_
      refine .fin ?_
      obtain rfl := Gets.out H
      exact WP.retL (fun _ _ h => h) rfl () trivial (.cons (res_tmp rfl) .nil) rfl (st_seln 0 [] 0 rfl rfl rfl)
    · replace H := Gets.ct H c684
      refine Dv.mv rfl ⟨_, _, rfl, rfl, rfl⟩ rfl ?_
      refine Dv.lens rfl ⟨_, _, rfl, rfl, rfl⟩ rfl Tryz.underlying9 ?_
      refine Dv.bin rfl ⟨_, _, rfl, rfl, rfl⟩ rfl rfl (fun _ => run_lt) ?_
      refine Dv.pickT rfl trivial rfl rfl ?_
      refine as0 rfl rfl ?_
      refine .fin ?_
      obtain rfl := Gets.out H
      exact WP.retL (fun _ _ h => h) rfl () trivial (.cons (res_tmp rfl) .nil) rfl (st_seln 0 [] 0 rfl rfl rfl)
  · refine WP.seq ?_
    refine WP.reg [(0, false)] (by kernel_rfl) ?_
    refine as0 rfl rfl ?_
    refine .fin ?_
    refine WP.block ?_
    refine WP.gh (l' := fun _ => [] ++ F) (gh_of (st_selgn 0 [] 0 rfl rfl rfl)) (fun _ _ => ?_)
    refine WP.loopg (fun j_ (p701 : Int) => concourseref01_Part.l0 k a0 j_ p701) 0 H (fun p701 => [(0, eq (.string a0)), (2, eq (.bool false)), (3, eq (.int .i64 p701))]) (fun p701 => [] ++ F) (weak_cons rfl (weak_cons rfl (weak_cons rfl weak_nil))) (List.Perm.refl _) ?_
    rintro j_ x685 H
    rcases j_ with _ | j700
    · exact (Gets.no H).elim
    replace H : Gets (concourseref01_Part.l0 k a0 (j700 + 1) x685) _ := H
    rw [concourseref01_Part.l0] at H
    refine WP.seq ?_
    refine WP.seq ?_
    refine WP.reg [(0, false), (1, false), (2, false), (3, false)] (by kernel_rfl) ?_
    refine mv0 rfl rfl ?_
    refine mv0 rfl rfl ?_
    refine Dv.lens rfl trivial rfl Tryz.underlying9 ?_
    refine Dv.bin rfl trivial rfl rfl (fun _ => run_lt) ?_
    refine .fin ?_
    refine WP.cond rfl (fun c686 => ?_) (fun c686 => ?_)
    · replace H := Gets.ct H c686
      refine WP.skip ?_
      refine WP.seq ?_
      refine WP.block ?_
      refine WP.seq ?_
      refine WP.reg [(0, false), (1, false), (2, false), (3, false), (4, false)] (by kernel_rfl) ?_
      refine mv0 rfl rfl ?_
      refine mv0 rfl rfl ?_
      obtain ⟨g687, H⟩ := Gets.grd H
      refine Dv.ixs rfl trivial rfl rfl Tryz.underlying9 g687.1 g687.2 ?_
      obtain ⟨t688, h689, H⟩ := Gets.call H
      refine Dv.call rfl trivial cal96 rfl (concourseref01_low.c h689) ?_
      refine as0 rfl rfl ?_
      refine .fin ?_
      refine WP.seq ?_
      refine WP.reg [(0, false), (1, false), (2, false), (3, false), (4, false), (5, false), (6, false), (7, false), (8, false), (9, false), (10, false), (11, false), (12, false), (13, false), (14, false), (15, false), (16, false), (17, false), (18, false), (19, false)] (by kernel_rfl) ?_
      refine mv0 rfl rfl ?_
      refine Dv.un rfl trivial rfl (fun _ => run_not _) ?_
      refine mv0 rfl rfl ?_
      cases c690 : !t688
      · replace H := Gets.cf H c690
        refine sk rfl rfl rfl rfl rfl ?_
        refine sk rfl rfl rfl rfl rfl ?_
        refine sk rfl rfl rfl rfl rfl ?_
        refine sk rfl rfl rfl rfl rfl ?_
        refine Dv.pickF rfl trivial rfl rfl ?_
        refine mv0 rfl rfl ?_
        refine sk rfl rfl rfl rfl rfl ?_
        refine sk rfl rfl rfl rfl rfl ?_
        refine sk rfl rfl rfl rfl rfl ?_
        refine sk rfl rfl rfl rfl rfl ?_
        refine Dv.pickF rfl trivial rfl rfl ?_
        refine mv0 rfl rfl ?_
        refine sk rfl rfl rfl rfl rfl ?_
        refine sk rfl rfl rfl rfl rfl ?_
        refine sk rfl rfl rfl rfl rfl ?_
        refine sk rfl rfl rfl rfl rfl ?_
        refine Dv.pickF rfl trivial rfl rfl ?_
        refine .fin ?_
        refine WP.cond rfl nofun (fun _ => ?_)
        refine WP.skip ?_
        refine WP.reg [(0, false), (1, false), (2, false)] (by kernel_rfl) ?_
        refine mv0 rfl rfl ?_
        refine Dv.bin rfl trivial rfl rfl (fun _ => run_add) ?_
        refine as0 rfl rfl ?_
        refine .fin ?_
        exact Back.mk j700 (w64 (x685 + 1)) (Nat.lt_succ_self _) H (weak_cons rfl (weak_cons rfl (weak_cons rfl weak_nil))) (List.Perm.refl _)
      · replace H := Gets.ct H c690
        refine Dv.mv rfl ⟨_, _, rfl, rfl, rfl⟩ rfl ?_
        refine Dv.mv rfl ⟨_, _, rfl, rfl, rfl⟩ rfl ?_
        obtain ⟨g691, H⟩ := Gets.grd H
        refine Dv.ixs rfl ⟨_, _, rfl, rfl, rfl⟩ rfl rfl Tryz.underlying9 g691.1 g691.2 ?_
        refine Dv.bin rfl ⟨_, _, rfl, rfl, rfl⟩ rfl rfl (fun _ => run_ne) ?_
        refine Dv.pickT rfl trivial rfl rfl ?_
        refine mv0 rfl rfl ?_
        cases c692 : ((bt a0 x685) != 46)
        · replace H := Gets.cf H c692
          refine sk rfl rfl rfl rfl rfl ?_
          refine sk rfl rfl rfl rfl rfl ?_
          refine sk rfl rfl rfl rfl rfl ?_
          refine sk rfl rfl rfl rfl rfl ?_
          refine Dv.pickF rfl trivial rfl rfl ?_
          refine mv0 rfl rfl ?_
          refine sk rfl rfl rfl rfl rfl ?_
          refine sk rfl rfl rfl rfl rfl ?_
          refine sk rfl rfl rfl rfl rfl ?_
          refine sk rfl rfl rfl rfl rfl ?_
          refine Dv.pickF rfl trivial rfl rfl ?_
          refine .fin ?_
          refine WP.cond rfl nofun (fun _ => ?_)
          refine WP.skip ?_
          refine WP.reg [(0, false), (1, false), (2, false)] (by kernel_rfl) ?_
          refine mv0 rfl rfl ?_
          refine Dv.bin rfl trivial rfl rfl (fun _ => run_add) ?_
          refine as0 rfl rfl ?_
          refine .fin ?_
          exact Back.mk j700 (w64 (x685 + 1)) (Nat.lt_succ_self _) H (weak_cons rfl (weak_cons rfl (weak_cons rfl weak_nil))) (List.Perm.refl _)
        · replace H := Gets.ct H c692
          refine Dv.mv rfl ⟨_, _, rfl, rfl, rfl⟩ rfl ?_
          refine Dv.mv rfl ⟨_, _, rfl, rfl, rfl⟩ rfl ?_
          obtain ⟨g693, H⟩ := Gets.grd H
          refine Dv.ixs rfl ⟨_, _, rfl, rfl, rfl⟩ rfl rfl Tryz.underlying9 g693.1 g693.2 ?_
          refine Dv.bin rfl ⟨_, _, rfl, rfl, rfl⟩ rfl rfl (fun _ => run_ne) ?_
          refine Dv.pickT rfl trivial rfl rfl ?_
          refine mv0 rfl rfl ?_
          cases c694 : ((bt a0 x685) != 45)
          · replace H := Gets.cf H c694
            refine sk rfl rfl rfl rfl rfl ?_
            refine sk rfl rfl rfl rfl rfl ?_
            refine sk rfl rfl rfl rfl rfl ?_
            refine sk rfl rfl rfl rfl rfl ?_
            refine Dv.pickF rfl trivial rfl rfl ?_
            refine .fin ?_
            refine WP.cond rfl nofun (fun _ => ?_)
            refine WP.skip ?_
            refine WP.reg [(0, false), (1, false), (2, false)] (by kernel_rfl) ?_
            refine mv0 rfl rfl ?_
            refine Dv.bin rfl trivial rfl rfl (fun _ => run_add) ?_
            refine as0 rfl rfl ?_
            refine .fin ?_
            exact Back.mk j700 (w64 (x685 + 1)) (Nat.lt_succ_self _) H (weak_cons rfl (weak_cons rfl (weak_cons rfl weak_nil))) (List.Perm.refl _)
          · replace H := Gets.ct H c694
            refine Dv.mv rfl ⟨_, _, rfl, rfl, rfl⟩ rfl ?_
            refine Dv.mv rfl ⟨_, _, rfl, rfl, rfl⟩ rfl ?_
            obtain ⟨g695, H⟩ := Gets.grd H
            refine Dv.ixs rfl ⟨_, _, rfl, rfl, rfl⟩ rfl rfl Tryz.underlying9 g695.1 g695.2 ?_
            refine Dv.bin rfl ⟨_, _, rfl, rfl, rfl⟩ rfl rfl (fun _ => run_ne) ?_
            refine Dv.pickT rfl trivial rfl rfl ?_
            refine .fin ?_
            refine WP.cond rfl (fun c696 => ?_) (fun c696 => ?_)
            · replace H := Gets.ct H c696
              refine WP.seq ?_
              refine WP.reg [(0, false)] (by kernel_rfl) ?_
              refine as0 rfl rfl ?_
              refine .fin ?_
              replace H := Gets.outr H
              obtain rfl := Gets.out H
              exact WP.retL (fun _ _ h => h) rfl () trivial (.cons (res_tmp rfl) .nil) rfl (st_seln 0 [] 0 rfl rfl rfl)
            · replace H := Gets.cf H c696
              refine WP.skip ?_
              refine WP.reg [(0, false), (1, false), (2, false)] (by kernel_rfl) ?_
              refine mv0 rfl rfl ?_
              refine Dv.bin rfl trivial rfl rfl (fun _ => run_add) ?_
              refine as0 rfl rfl ?_
              refine .fin ?_
              exact Back.mk j700 (w64 (x685 + 1)) (Nat.lt_succ_self _) H (weak_cons rfl (weak_cons rfl (weak_cons rfl weak_nil))) (List.Perm.refl _)
    · replace H := Gets.cf H c686
      refine WP.exit ?_
      replace H := Gets.out H
      exact Jn.mk (x685, decide (x685 < (a0.size : Int))) H (weak_cons rfl (weak_cons rfl (weak_cons rfl (weak_cons rfl weak_nil)))) (List.Perm.refl _)
theorem concourseref01_Server.c {k : Nat} {a0 : ByteArray} {r : Bool} (h : concourseref01_Server.f k a0 = some r) : Pt Tryz.prog 95 [eq (.string a0)] (eq (.bool r)) := by
  unfold concourseref01_Server.f at h
  refine (Tr.body Tryz.func95 (c := _) rfl Tryz.ntmps95 (Nat.le_of_ble_eq_true rfl) fun R0 F => ?_).pt
  replace h := Gets.of h
  have H := h
  clear h
  refine WP.seq ?_
  refine WP.reg [(0, false)] (by kernel_rfl) ?_
  refine as0 rfl rfl ?_
  refine .fin ?_
  refine WP.seqr H id (fun p702 : Int × Bool => [(0, eq (.string a0)), (2, eq (.bool false)), (3, eq (.int .i64 p702.1)), (9, eq (.bool p702.2))]) (fun p702 : Int × Bool => [] ++ F) (fun p702 H => ?_) (fun H => ?_)
  · refine WP.seq ?_
    refine WP.reg [(0, false), (1, false), (2, false), (3, false), (4, false), (5, false), (6, false), (7, false), (8, false)] (by kernel_rfl) ?_
    refine mv0 rfl rfl ?_
    refine Dv.lens rfl trivial rfl Tryz.underlying9 ?_
    refine Dv.bin rfl trivial rfl rfl (fun _ => run_gt) ?_
    refine mv0 rfl rfl ?_
    cases c703 : decide (0 < (a0.size : Int))
    · replace H := Gets.cf H c703
      refine sk rfl rfl rfl rfl rfl ?_
      refine sk rfl rfl rfl rfl rfl ?_
      refine sk rfl rfl rfl rfl rfl ?_
      refine Dv.pickF rfl trivial rfl rfl ?_
      refine as0 rfl rfl ?_
      refine .fin ?_
      obtain rfl := Gets.out H
      exact WP.retL (fun _ _ h => h) rfl () trivial (.cons (res_tmp rfl) .nil) rfl (st_seln 0 [] 0 rfl rfl rfl)
    · replace H := Gets.ct H c703
      refine Dv.mv rfl ⟨_, _, rfl, rfl, rfl⟩ rfl ?_
      refine Dv.lens rfl ⟨_, _, rfl, rfl, rfl⟩ rfl Tryz.underlying9 ?_
      refine Dv.bin rfl ⟨_, _, rfl, rfl, rfl⟩ rfl rfl (fun _ => run_lt) ?_
      refine Dv.pickT rfl trivial rfl rfl ?_
      refine as0 rfl rfl ?_
      refine .fin ?_
      obtain rfl := Gets.out H
      exact WP.retL (fun _ _ h => h) rfl () trivial (.cons (res_tmp rfl) .nil) rfl (st_seln 0 [] 0 rfl rfl rfl)
  · refine WP.seq ?_
    refine WP.reg [(0, false)] (by kernel_rfl) ?_
    refine as0 rfl rfl ?_
    refine .fin ?_
    refine WP.block ?_
    refine WP.gh (l' := fun _ => [] ++ F) (gh_of (st_selgn 0 [] 0 rfl rfl rfl)) (fun _ _ => ?_)
    refine WP.loopg (fun j_ (p727 : Int) => concourseref01_Server.l0 k a0 j_ p727) 0 H (fun p727 => [(0, eq (.string a0)), (2, eq (.bool false)), (3, eq (.int .i64 p727))]) (fun p727 => [] ++ F) (weak_cons rfl (weak_cons rfl (weak_cons rfl weak_nil))) (List.Perm.refl _) ?_
    rintro j_ x704 H
    rcases j_ with _ | j726
    · exact (Gets.no H).elim
    replace H : Gets (concourseref01_Server.l0 k a0 (j726 + 1) x704) _ := H
    rw [concourseref01_Server.l0] at H
    refine WP.seq ?_
    refine WP.seq ?_
    refine WP.reg [(0, false), (1, false), (2, false), (3, false)] (by kernel_rfl) ?_
    refine mv0 rfl rfl ?_
    refine mv0 rfl rfl ?_
    refine Dv.lens rfl trivial rfl Tryz.underlying9 ?_
    refine Dv.bin rfl trivial rfl rfl (fun _ => run_lt) ?_
    refine .fin ?_
    refine WP.cond rfl (fun c705 => ?_) (fun c705 => ?_)
    · replace H := Gets.ct H c705
      refine WP.skip ?_
      refine WP.seq ?_
      refine WP.block ?_
      refine WP.seq ?_
      refine WP.reg [(0, false), (1, false), (2, false), (3, false), (4, false)] (by kernel_rfl) ?_
      refine mv0 rfl rfl ?_
      refine mv0 rfl rfl ?_
      obtain ⟨g706, H⟩ := Gets.grd H
      refine Dv.ixs rfl trivial rfl rfl Tryz.underlying9 g706.1 g706.2 ?_
      obtain ⟨t707, h708, H⟩ := Gets.call H
      refine Dv.call rfl trivial cal96 rfl (concourseref01_low.c h708) ?_
      refine as0 rfl rfl ?_
      refine .fin ?_
      refine WP.seq ?_
      refine WP.reg [(0, false), (1, false), (2, false), (3, false), (4, false), (5, false), (6, false), (7, false), (8, false), (9, false), (10, false), (11, false), (12, false), (13, false), (14, false), (15, false), (16, false), (17, false), (18, false), (19, false), (20, false), (21, false)] (by kernel_rfl) ?_
      refine mv0 rfl rfl ?_
      refine Dv.bin rfl trivial rfl rfl (fun _ => run_gt) ?_
      refine mv0 rfl rfl ?_
      cases c709 : decide (0 < x704)
      · replace H := Gets.cf H c709
        refine sk rfl rfl rfl rfl rfl ?_
        refine sk rfl rfl rfl rfl rfl ?_
        refine sk rfl rfl rfl rfl rfl ?_
        refine sk rfl rfl rfl rfl rfl ?_
        refine sk rfl rfl rfl rfl rfl ?_
        refine Dv.pickF rfl trivial rfl rfl ?_
        refine mv0 rfl rfl ?_
        refine sk rfl rfl rfl rfl rfl ?_
        refine sk rfl rfl rfl rfl rfl ?_
        refine sk rfl rfl rfl rfl rfl ?_
        refine sk rfl rfl rfl rfl rfl ?_
        refine sk rfl rfl rfl rfl rfl ?_
        refine Dv.skip rfl ⟨_, _, rfl, rfl, .inr rfl⟩ ?_
        refine Dv.skip rfl ⟨_, _, rfl, rfl, .inr rfl⟩ ?_
        refine Dv.skip rfl ⟨_, _, rfl, rfl, .inr rfl⟩ ?_
        refine Dv.skip rfl ⟨_, _, rfl, rfl, .inr rfl⟩ ?_
        refine sk rfl rfl rfl rfl rfl ?_
        refine Dv.pickF rfl trivial rfl rfl ?_
        refine as0 rfl rfl ?_
        refine .fin ?_
        refine WP.seq ?_
        refine WP.reg [(0, false), (1, false), (2, false), (3, false), (4, false), (5, false)] (by kernel_rfl) ?_
        refine mv0 rfl rfl ?_
        refine Dv.un rfl trivial rfl (fun _ => run_not _) ?_
        refine mv0 rfl rfl ?_
        cases c723 : !t707
        · replace H := Gets.cf H c723
          refine sk rfl rfl rfl rfl rfl ?_
          refine sk rfl rfl rfl rfl rfl ?_
          refine Dv.pickF rfl trivial rfl rfl ?_
          refine .fin ?_
          refine WP.cond rfl nofun (fun _ => ?_)
          refine WP.skip ?_
          refine WP.reg [(0, false), (1, false), (2, false)] (by kernel_rfl) ?_
          refine mv0 rfl rfl ?_
          refine Dv.bin rfl trivial rfl rfl (fun _ => run_add) ?_
          refine as0 rfl rfl ?_
          refine .fin ?_
          exact Back.mk j726 (w64 (x704 + 1)) (Nat.lt_succ_self _) H (weak_cons rfl (weak_cons rfl (weak_cons rfl weak_nil))) (List.Perm.refl _)
        · replace H := Gets.ct H c723
          refine Dv.mv rfl ⟨_, _, rfl, rfl, rfl⟩ rfl ?_
          refine Dv.un rfl ⟨_, _, rfl, rfl, rfl⟩ rfl (fun _ => run_not _) ?_
          refine Dv.pickT rfl trivial rfl rfl ?_
          refine .fin ?_
          refine WP.cond rfl (fun _ => ?_) nofun
          refine WP.seq ?_
          refine WP.reg [(0, false)] (by kernel_rfl) ?_
          refine as0 rfl rfl ?_
          refine .fin ?_
          replace H := Gets.outr H
          obtain rfl := Gets.out H
          exact WP.retL (fun _ _ h => h) rfl () trivial (.cons (res_tmp rfl) .nil) rfl (st_seln 0 [] 0 rfl rfl rfl)
      · replace H := Gets.ct H c709
        refine Dv.mv rfl ⟨_, _, rfl, rfl, rfl⟩ rfl ?_
        refine Dv.mv rfl ⟨_, _, rfl, rfl, rfl⟩ rfl ?_
        refine Dv.lens rfl ⟨_, _, rfl, rfl, rfl⟩ rfl Tryz.underlying9 ?_
        refine Dv.bin rfl ⟨_, _, rfl, rfl, rfl⟩ rfl rfl (fun _ => run_sub) ?_
        refine Dv.bin rfl ⟨_, _, rfl, rfl, rfl⟩ rfl rfl (fun _ => run_lt) ?_
        refine Dv.pickT rfl trivial rfl rfl ?_
        refine mv0 rfl rfl ?_
        cases c710 : decide (x704 < (w64 ((a0.size : Int) - 1)))
        · replace H := Gets.cf H c710
          refine sk rfl rfl rfl rfl rfl ?_
          refine sk rfl rfl rfl rfl rfl ?_
          refine sk rfl rfl rfl rfl rfl ?_
          refine sk rfl rfl rfl rfl rfl ?_
          refine sk rfl rfl rfl rfl rfl ?_
          refine Dv.skip rfl ⟨_, _, rfl, rfl, .inr rfl⟩ ?_
          refine Dv.skip rfl ⟨_, _, rfl, rfl, .inr rfl⟩ ?_
          refine Dv.skip rfl ⟨_, _, rfl, rfl, .inr rfl⟩ ?_
          refine Dv.skip rfl ⟨_, _, rfl, rfl, .inr rfl⟩ ?_
          refine sk rfl rfl rfl rfl rfl ?_
          refine Dv.pickF rfl trivial rfl rfl ?_
          refine as0 rfl rfl ?_
          refine .fin ?_
          refine WP.seq ?_
          refine WP.reg [(0, false), (1, false), (2, false), (3, false), (4, false), (5, false)] (by kernel_rfl) ?_
          refine mv0 rfl rfl ?_
          refine Dv.un rfl trivial rfl (fun _ => run_not _) ?_
          refine mv0 rfl rfl ?_
          cases c720 : !t707
          · replace H := Gets.cf H c720
            refine sk rfl rfl rfl rfl rfl ?_
            refine sk rfl rfl rfl rfl rfl ?_
            refine Dv.pickF rfl trivial rfl rfl ?_
            refine .fin ?_
            refine WP.cond rfl nofun (fun _ => ?_)
            refine WP.skip ?_
            refine WP.reg [(0, false), (1, false), (2, false)] (by kernel_rfl) ?_
            refine mv0 rfl rfl ?_
            refine Dv.bin rfl trivial rfl rfl (fun _ => run_add) ?_
            refine as0 rfl rfl ?_
            refine .fin ?_
            exact Back.mk j726 (w64 (x704 + 1)) (Nat.lt_succ_self _) H (weak_cons rfl (weak_cons rfl (weak_cons rfl weak_nil))) (List.Perm.refl _)
          · replace H := Gets.ct H c720
            refine Dv.mv rfl ⟨_, _, rfl, rfl, rfl⟩ rfl ?_
            refine Dv.un rfl ⟨_, _, rfl, rfl, rfl⟩ rfl (fun _ => run_not _) ?_
            refine Dv.pickT rfl trivial rfl rfl ?_
            refine .fin ?_
            refine WP.cond rfl (fun _ => ?_) nofun
            refine WP.seq ?_
            refine WP.reg [(0, false)] (by kernel_rfl) ?_
            refine as0 rfl rfl ?_
            refine .fin ?_
            replace H := Gets.outr H
            obtain rfl := Gets.out H
            exact WP.retL (fun _ _ h => h) rfl () trivial (.cons (res_tmp rfl) .nil) rfl (st_seln 0 [] 0 rfl rfl rfl)
        · replace H := Gets.ct H c710
          refine Dv.mv rfl ⟨_, _, rfl, rfl, rfl⟩ rfl ?_
          refine Dv.mv rfl ⟨_, _, rfl, rfl, rfl⟩ rfl ?_
          obtain ⟨g711, H⟩ := Gets.grd H
          refine Dv.ixs rfl ⟨_, _, rfl, rfl, rfl⟩ rfl rfl Tryz.underlying9 g711.1 g711.2 ?_
          refine Dv.bin rfl ⟨_, _, rfl, rfl, rfl⟩ rfl rfl (fun _ => run_eq) ?_
          refine Dv.mv rfl ⟨_, _, rfl, rfl, rfl⟩ rfl ?_
          cases c712 : ((bt a0 x704) == 46)
          · replace H := Gets.cf H c712
            refine Dv.mv rfl ⟨_, _, rfl, rfl, rfl⟩ rfl ?_
            refine Dv.mv rfl ⟨_, _, rfl, rfl, rfl⟩ rfl ?_
            obtain ⟨g716, H⟩ := Gets.grd H
            refine Dv.ixs rfl ⟨_, _, rfl, rfl, rfl⟩ rfl rfl Tryz.underlying9 g716.1 g716.2 ?_
            refine Dv.bin rfl ⟨_, _, rfl, rfl, rfl⟩ rfl rfl (fun _ => run_eq) ?_
            refine Dv.pickF rfl ⟨_, _, rfl, rfl, rfl⟩ rfl rfl ?_
            refine Dv.pickT rfl trivial rfl rfl ?_
            refine as0 rfl rfl ?_
            refine .fin ?_
            refine WP.seq ?_
            refine WP.reg [(0, false), (1, false), (2, false), (3, false), (4, false), (5, false)] (by kernel_rfl) ?_
            refine mv0 rfl rfl ?_
            refine Dv.un rfl trivial rfl (fun _ => run_not _) ?_
            refine mv0 rfl rfl ?_
            cases c717 : !t707
            · replace H := Gets.cf H c717
              refine sk rfl rfl rfl rfl rfl ?_
              refine sk rfl rfl rfl rfl rfl ?_
              refine Dv.pickF rfl trivial rfl rfl ?_
              refine .fin ?_
              refine WP.cond rfl nofun (fun _ => ?_)
              refine WP.skip ?_
              refine WP.reg [(0, false), (1, false), (2, false)] (by kernel_rfl) ?_
              refine mv0 rfl rfl ?_
              refine Dv.bin rfl trivial rfl rfl (fun _ => run_add) ?_
              refine as0 rfl rfl ?_
              refine .fin ?_
              exact Back.mk j726 (w64 (x704 + 1)) (Nat.lt_succ_self _) H (weak_cons rfl (weak_cons rfl (weak_cons rfl weak_nil))) (List.Perm.refl _)
            · replace H := Gets.ct H c717
              refine Dv.mv rfl ⟨_, _, rfl, rfl, rfl⟩ rfl ?_
              refine Dv.un rfl ⟨_, _, rfl, rfl, rfl⟩ rfl (fun _ => run_not _) ?_
              refine Dv.pickT rfl trivial rfl rfl ?_
              refine .fin ?_
              refine WP.cond rfl (fun c718 => ?_) (fun c718 => ?_)
              · replace H := Gets.ct H c718
                refine WP.seq ?_
                refine WP.reg [(0, false)] (by kernel_rfl) ?_
                refine as0 rfl rfl ?_
                refine .fin ?_
                replace H := Gets.outr H
                obtain rfl := Gets.out H
                exact WP.retL (fun _ _ h => h) rfl () trivial (.cons (res_tmp rfl) .nil) rfl (st_seln 0 [] 0 rfl rfl rfl)
              · replace H := Gets.cf H c718
                refine WP.skip ?_
                refine WP.reg [(0, false), (1, false), (2, false)] (by kernel_rfl) ?_
                refine mv0 rfl rfl ?_
                refine Dv.bin rfl trivial rfl rfl (fun _ => run_add) ?_
                refine as0 rfl rfl ?_
                refine .fin ?_
                exact Back.mk j726 (w64 (x704 + 1)) (Nat.lt_succ_self _) H (weak_cons rfl (weak_cons rfl (weak_cons rfl weak_nil))) (List.Perm.refl _)
          · replace H := Gets.ct H c712
            refine sk rfl rfl rfl rfl rfl ?_
            refine sk rfl rfl rfl rfl rfl ?_
            refine sk rfl rfl rfl rfl rfl ?_
            refine sk rfl rfl rfl rfl rfl ?_
            refine Dv.pickT rfl ⟨_, _, rfl, rfl, rfl⟩ rfl rfl ?_
            refine Dv.pickT rfl trivial rfl rfl ?_
            refine as0 rfl rfl ?_
            refine .fin ?_
            refine WP.seq ?_
            refine WP.reg [(0, false), (1, false), (2, false), (3, false), (4, false), (5, false)] (by kernel_rfl) ?_
            refine mv0 rfl rfl ?_
            refine Dv.un rfl trivial rfl (fun _ => run_not _) ?_
            refine mv0 rfl rfl ?_
            cases c713 : !t707
            · replace H := Gets.cf H c713
              refine sk rfl rfl rfl rfl rfl ?_
              refine sk rfl rfl rfl rfl rfl ?_
              refine Dv.pickF rfl trivial rfl rfl ?_
              refine .fin ?_
              refine WP.cond rfl nofun (fun _ => ?_)
              refine WP.skip ?_
              refine WP.reg [(0, false), (1, false), (2, false)] (by kernel_rfl) ?_
              refine mv0 rfl rfl ?_
              refine Dv.bin rfl trivial rfl rfl (fun _ => run_add) ?_
              refine as0 rfl rfl ?_
              refine .fin ?_
              exact Back.mk j726 (w64 (x704 + 1)) (Nat.lt_succ_self _) H (weak_cons rfl (weak_cons rfl (weak_cons rfl weak_nil))) (List.Perm.refl _)
            · replace H := Gets.ct H c713
              refine Dv.mv rfl ⟨_, _, rfl, rfl, rfl⟩ rfl ?_
              refine Dv.un rfl ⟨_, _, rfl, rfl, rfl⟩ rfl (fun _ => run_not _) ?_
              refine Dv.pickT rfl trivial rfl rfl ?_
              refine .fin ?_
              refine WP.cond rfl nofun (fun _ => ?_)
              refine WP.skip ?_
              refine WP.reg [(0, false), (1, false), (2, false)] (by kernel_rfl) ?_
              refine mv0 rfl rfl ?_
              refine Dv.bin rfl trivial rfl rfl (fun _ => run_add) ?_
              refine as0 rfl rfl ?_
              refine .fin ?_
              exact Back.mk j726 (w64 (x704 + 1)) (Nat.lt_succ_self _) H (weak_cons rfl (weak_cons rfl (weak_cons rfl weak_nil))) (List.Perm.refl _)
    · replace H := Gets.cf H c705
      refine WP.exit ?_
      replace H := Gets.out H
      exact Jn.mk (x704, decide (x704 < (a0.size : Int))) H (weak_cons rfl (weak_cons rfl (weak_cons rfl (weak_cons rfl weak_nil)))) (List.Perm.refl _)
theorem concourseref01_Named.c {k : Nat} {a0 : ByteArray} {a1 : Int} {r : Bool} (h : concourseref01_Named.f k a0 a1 = some r) : Pt Tryz.prog 64 [eq (.string a0), eq (.int .u8 a1)] (eq (.bool r)) := by
  unfold concourseref01_Named.f at h
  refine (Tr.body Tryz.func64 (c := _) rfl Tryz.ntmps64 (Nat.le_of_ble_eq_true rfl) fun R0 F => ?_).pt
  replace h := Gets.of h
  have H := h
  clear h
  refine WP.seq ?_
  refine WP.reg [(0, false)] (by kernel_rfl) ?_
  refine as0 rfl rfl ?_
  refine .fin ?_
  refine WP.seq ?_
  refine WP.reg [(0, false), (1, false), (2, false)] (by kernel_rfl) ?_
  refine mv0 rfl rfl ?_
  obtain ⟨t728, h729, H⟩ := Gets.call H
  refine Dv.call rfl trivial cal93 rfl (concourseref01_colon.c h729) ?_
  refine as0 rfl rfl ?_
  refine .fin ?_
  refine WP.seq ?_
  refine WP.seq ?_
  refine WP.reg [(0, false), (1, false), (2, false), (3, false), (4, false), (5, false), (6, false), (7, false)] (by kernel_rfl) ?_
  refine mv0 rfl rfl ?_
  refine Dv.bin rfl trivial rfl rfl (fun _ => run_lt) ?_
  refine mv0 rfl rfl ?_
  cases c730 : decide (t728 < 1)
  · replace H := Gets.cf H c730
    refine Dv.mv rfl ⟨_, _, rfl, rfl, rfl⟩ rfl ?_
    obtain ⟨g732, H⟩ := Gets.grd H
    refine Dv.ixs rfl ⟨_, _, rfl, rfl, rfl⟩ rfl rfl Tryz.underlying9 g732.1 g732.2 ?_
    refine Dv.mv rfl ⟨_, _, rfl, rfl, rfl⟩ rfl ?_
    refine Dv.bin rfl ⟨_, _, rfl, rfl, rfl⟩ rfl rfl (fun _ => run_ne) ?_
    refine Dv.pickF rfl trivial rfl rfl ?_
    refine .fin ?_
    refine WP.cond rfl (fun c733 => ?_) (fun c733 => ?_)
    · replace H := Gets.ct H c733
      refine WP.seq ?_
      refine WP.reg [(0, false)] (by kernel_rfl) ?_
      refine as0 rfl rfl ?_
      refine .fin ?_
      obtain rfl := Gets.out H
      exact WP.retL (fun _ _ h => h) rfl () trivial (.cons (res_tmp rfl) .nil) rfl (st_seln 0 [] 0 rfl rfl rfl)
    · replace H := Gets.cf H c733
      refine WP.skip ?_
      refine WP.seq ?_
      refine WP.reg [(0, false), (1, false), (2, false), (3, false), (4, false)] (by kernel_rfl) ?_
      refine mv0 rfl rfl ?_
      refine mv0 rfl rfl ?_
      obtain ⟨g734, H⟩ := Gets.grd H
      refine Dv.sss rfl trivial rfl Tryz.underlying9 (bdE_some rfl g734.1) (bdE_some rfl g734.2.1) g734.2.2.1 g734.2.2.2 ?_
      obtain ⟨t735, h736, H⟩ := Gets.call H
      refine Dv.call rfl trivial cal94 rfl (concourseref01_Part.c h736) ?_
      refine as0 rfl rfl ?_
      refine .fin ?_
      refine WP.seq ?_
      refine WP.reg [(0, false), (1, false), (2, false), (3, false), (4, false), (5, false)] (by kernel_rfl) ?_
      refine mv0 rfl rfl ?_
      refine mv0 rfl rfl ?_
      refine Dv.bin rfl trivial rfl rfl (fun _ => run_add) ?_
      obtain ⟨g737, H⟩ := Gets.grd H
      refine Dv.sss rfl trivial rfl Tryz.underlying9 (bdE_some rfl g737.1) bdE_none g737.2.1 g737.2.2 ?_
      obtain ⟨t738, h739, H⟩ := Gets.call H
      refine Dv.call rfl trivial cal95 rfl (concourseref01_Server.c h739) ?_
      refine as0 rfl rfl ?_
      refine .fin ?_
      refine WP.seq ?_
      refine WP.reg [(0, false), (1, false), (2, false), (3, false), (4, false)] (by kernel_rfl) ?_
      refine mv0 rfl rfl ?_
      refine mv0 rfl rfl ?_
      cases c740 : t735
      · replace H := Gets.cf H c740
        refine sk rfl rfl rfl rfl rfl ?_
        refine Dv.pickF rfl trivial rfl rfl ?_
        refine as0 rfl rfl ?_
        refine .fin ?_
        obtain rfl := Gets.out H
        exact WP.retL (fun _ _ h => h) rfl () trivial (.cons (res_tmp rfl) .nil) rfl (st_seln 0 [] 0 rfl rfl rfl)
      · replace H := Gets.ct H c740
        refine Dv.mv rfl ⟨_, _, rfl, rfl, rfl⟩ rfl ?_
        refine Dv.pickT rfl trivial rfl rfl ?_
        refine as0 rfl rfl ?_
        refine .fin ?_
        obtain rfl := Gets.out H
        exact WP.retL (fun _ _ h => h) rfl () trivial (.cons (res_tmp rfl) .nil) rfl (st_seln 0 [] 0 rfl rfl rfl)
  · replace H := Gets.ct H c730
    refine sk rfl rfl rfl rfl rfl ?_
    refine sk rfl rfl rfl rfl rfl ?_
    refine sk rfl rfl rfl rfl rfl ?_
    refine sk rfl rfl rfl rfl rfl ?_
    refine Dv.pickT rfl trivial rfl rfl ?_
    refine .fin ?_
    refine WP.cond rfl (fun _ => ?_) nofun
    refine WP.seq ?_
    refine WP.reg [(0, false)] (by kernel_rfl) ?_
    refine as0 rfl rfl ?_
    refine .fin ?_
    obtain rfl := Gets.out H
    exact WP.retL (fun _ _ h => h) rfl () trivial (.cons (res_tmp rfl) .nil) rfl (st_seln 0 [] 0 rfl rfl rfl)
theorem concourseref01_Event.c {k : Nat} {a0 : ByteArray} {r : Bool} (h : concourseref01_Event.f k a0 = some r) : Pt Tryz.prog 65 [eq (.string a0)] (eq (.bool r)) := by
  unfold concourseref01_Event.f at h
  refine (Tr.body Tryz.func65 (c := _) rfl Tryz.ntmps65 (Nat.le_of_ble_eq_true rfl) fun R0 F => ?_).pt
  replace h := Gets.of h
  have H := h
  clear h
  refine WP.seq ?_
  refine WP.reg [(0, false)] (by kernel_rfl) ?_
  refine as0 rfl rfl ?_
  refine .fin ?_
  refine WP.seq ?_
  refine WP.seq ?_
  refine WP.reg [(0, false), (1, false), (2, false), (3, false), (4, false), (5, false), (6, false), (7, false), (8, false), (9, false), (10, false), (11, false), (12, false)] (by kernel_rfl) ?_
  refine mv0 rfl rfl ?_
  refine Dv.lens rfl trivial rfl Tryz.underlying9 ?_
  refine Dv.bin rfl trivial rfl rfl (fun _ => run_lt) ?_
  refine mv0 rfl rfl ?_
  cases c741 : decide ((a0.size : Int) < 2)
  · replace H := Gets.cf H c741
    refine Dv.mv rfl ⟨_, _, rfl, rfl, rfl⟩ rfl ?_
    refine Dv.lens rfl ⟨_, _, rfl, rfl, rfl⟩ rfl Tryz.underlying9 ?_
    refine Dv.bin rfl ⟨_, _, rfl, rfl, rfl⟩ rfl rfl (fun _ => run_gt) ?_
    refine Dv.pickF rfl trivial rfl rfl ?_
    refine mv0 rfl rfl ?_
    cases c743 : decide (17 < (a0.size : Int))
    · replace H := Gets.cf H c743
      refine Dv.mv rfl ⟨_, _, rfl, rfl, rfl⟩ rfl ?_
      obtain ⟨g745, H⟩ := Gets.grd H
      refine Dv.ixs rfl ⟨_, _, rfl, rfl, rfl⟩ rfl rfl Tryz.underlying9 g745.1 g745.2 ?_
      refine Dv.bin rfl ⟨_, _, rfl, rfl, rfl⟩ rfl rfl (fun _ => run_ne) ?_
      refine Dv.pickF rfl trivial rfl rfl ?_
      refine .fin ?_
      refine WP.cond rfl (fun c746 => ?_) (fun c746 => ?_)
      · replace H := Gets.ct H c746
        refine WP.seq ?_
        refine WP.reg [(0, false)] (by kernel_rfl) ?_
        refine as0 rfl rfl ?_
        refine .fin ?_
        obtain rfl := Gets.out H
        exact WP.retL (fun _ _ h => h) rfl () trivial (.cons (res_tmp rfl) .nil) rfl (st_seln 0 [] 0 rfl rfl rfl)
      · replace H := Gets.cf H c746
        refine WP.skip ?_
        refine WP.seqr H id (fun p747 : Int × Bool => [(0, eq (.string a0)), (2, eq (.bool false)), (3, eq (.int .i64 p747.1)), (18, eq (.bool ((bt a0 0) != 36))), (22, eq (.bool p747.2))]) (fun p747 : Int × Bool => [] ++ F) (fun p747 H => ?_) (fun H => ?_)
        · refine WP.seq ?_
          refine WP.reg [(0, false)] (by kernel_rfl) ?_
          refine as0 rfl rfl ?_
          refine .fin ?_
          obtain rfl := Gets.out H
          exact WP.retL (fun _ _ h => h) rfl () trivial (.cons (res_tmp rfl) .nil) rfl (st_seln 0 [] 0 rfl rfl rfl)
        · refine WP.seq ?_
          refine WP.reg [(0, false)] (by kernel_rfl) ?_
          refine as0 rfl rfl ?_
          refine .fin ?_
          refine WP.block ?_
          refine WP.gh (l' := fun _ => [] ++ F) (gh_of (st_selgn 0 [] 0 rfl rfl rfl)) (fun _ _ => ?_)
          refine WP.loopg (fun j_ (p773 : Int) => concourseref01_Event.l0 k a0 j_ p773) 1 H (fun p773 => [(0, eq (.string a0)), (2, eq (.bool false)), (3, eq (.int .i64 p773)), (18, eq (.bool ((bt a0 0) != 36)))]) (fun p773 => [] ++ F) (weak_cons rfl (weak_cons rfl (weak_cons rfl (weak_cons rfl weak_nil)))) (List.Perm.refl _) ?_
          rintro j_ x748 H
          rcases j_ with _ | j772
          · exact (Gets.no H).elim
          replace H : Gets (concourseref01_Event.l0 k a0 (j772 + 1) x748) _ := H
          rw [concourseref01_Event.l0] at H
          refine WP.seq ?_
          refine WP.seq ?_
          refine WP.reg [(0, false), (1, false), (2, false), (3, false)] (by kernel_rfl) ?_
          refine mv0 rfl rfl ?_
          refine mv0 rfl rfl ?_
          refine Dv.lens rfl trivial rfl Tryz.underlying9 ?_
          refine Dv.bin rfl trivial rfl rfl (fun _ => run_lt) ?_
          refine .fin ?_
          refine WP.cond rfl (fun c749 => ?_) (fun c749 => ?_)
          · replace H := Gets.ct H c749
            refine WP.skip ?_
            refine WP.seq ?_
            refine WP.block ?_
            refine WP.seq ?_
            refine WP.reg [(0, false), (1, false), (2, false), (3, false), (4, false)] (by kernel_rfl) ?_
            refine mv0 rfl rfl ?_
            refine mv0 rfl rfl ?_
            obtain ⟨g750, H⟩ := Gets.grd H
            refine Dv.ixs rfl trivial rfl rfl Tryz.underlying9 g750.1 g750.2 ?_
            obtain ⟨t751, h752, H⟩ := Gets.call H
            refine Dv.call rfl trivial cal96 rfl (concourseref01_low.c h752) ?_
            refine as0 rfl rfl ?_
            refine .fin ?_
            refine WP.seq ?_
            refine WP.reg [(0, false), (1, false), (2, false), (3, false), (4, false), (5, false), (6, false), (7, false), (8, false), (9, false), (10, false)] (by kernel_rfl) ?_
            refine mv0 rfl rfl ?_
            refine mv0 rfl rfl ?_
            obtain ⟨g753, H⟩ := Gets.grd H
            refine Dv.ixs rfl trivial rfl rfl Tryz.underlying9 g753.1 g753.2 ?_
            refine Dv.bin rfl trivial rfl rfl (fun _ => run_ge) ?_
            refine mv0 rfl rfl ?_
            cases c754 : decide (65 ≤ (bt a0 x748))
            · replace H := Gets.cf H c754
              refine sk rfl rfl rfl rfl rfl ?_
              refine sk rfl rfl rfl rfl rfl ?_
              refine sk rfl rfl rfl rfl rfl ?_
              refine sk rfl rfl rfl rfl rfl ?_
              refine Dv.pickF rfl trivial rfl rfl ?_
              refine as0 rfl rfl ?_
              refine .fin ?_
              refine WP.seq ?_
              refine WP.reg [(0, false), (1, false), (2, false), (3, false), (4, false), (5, false), (6, false), (7, false), (8, false), (9, false), (10, false), (11, false), (12, false), (13, false), (14, false), (15, false), (16, false), (17, false)] (by kernel_rfl) ?_
              refine mv0 rfl rfl ?_
              refine Dv.un rfl trivial rfl (fun _ => run_not _) ?_
              refine mv0 rfl rfl ?_
              cases c765 : !t751
              · replace H := Gets.cf H c765
                refine sk rfl rfl rfl rfl rfl ?_
                refine sk rfl rfl rfl rfl rfl ?_
                refine Dv.pickF rfl trivial rfl rfl ?_
                refine mv0 rfl rfl ?_
                refine sk rfl rfl rfl rfl rfl ?_
                refine sk rfl rfl rfl rfl rfl ?_
                refine sk rfl rfl rfl rfl rfl ?_
                refine sk rfl rfl rfl rfl rfl ?_
                refine Dv.pickF rfl trivial rfl rfl ?_
                refine mv0 rfl rfl ?_
                refine sk rfl rfl rfl rfl rfl ?_
                refine sk rfl rfl rfl rfl rfl ?_
                refine sk rfl rfl rfl rfl rfl ?_
                refine sk rfl rfl rfl rfl rfl ?_
                refine Dv.pickF rfl trivial rfl rfl ?_
                refine .fin ?_
                refine WP.cond rfl nofun (fun _ => ?_)
                refine WP.skip ?_
                refine WP.reg [(0, false), (1, false), (2, false)] (by kernel_rfl) ?_
                refine mv0 rfl rfl ?_
                refine Dv.bin rfl trivial rfl rfl (fun _ => run_add) ?_
                refine as0 rfl rfl ?_
                refine .fin ?_
                exact Back.mk j772 (w64 (x748 + 1)) (Nat.lt_succ_self _) H (weak_cons rfl (weak_cons rfl (weak_cons rfl (weak_cons rfl weak_nil)))) (List.Perm.refl _)
              · replace H := Gets.ct H c765
                refine Dv.mv rfl ⟨_, _, rfl, rfl, rfl⟩ rfl ?_
                refine Dv.un rfl ⟨_, _, rfl, rfl, rfl⟩ rfl (fun _ => run_not _) ?_
                refine Dv.pickT rfl trivial rfl rfl ?_
                refine mv0 rfl rfl ?_
                refine Dv.mv rfl ⟨_, _, rfl, rfl, rfl⟩ rfl ?_
                refine Dv.mv rfl ⟨_, _, rfl, rfl, rfl⟩ rfl ?_
                obtain ⟨g766, H⟩ := Gets.grd H
                refine Dv.ixs rfl ⟨_, _, rfl, rfl, rfl⟩ rfl rfl Tryz.underlying9 g766.1 g766.2 ?_
                refine Dv.bin rfl ⟨_, _, rfl, rfl, rfl⟩ rfl rfl (fun _ => run_ne) ?_
                refine Dv.pickT rfl trivial rfl rfl ?_
                refine mv0 rfl rfl ?_
                cases c767 : ((bt a0 x748) != 45)
                · replace H := Gets.cf H c767
                  refine sk rfl rfl rfl rfl rfl ?_
                  refine sk rfl rfl rfl rfl rfl ?_
                  refine sk rfl rfl rfl rfl rfl ?_
                  refine sk rfl rfl rfl rfl rfl ?_
                  refine Dv.pickF rfl trivial rfl rfl ?_
                  refine .fin ?_
                  refine WP.cond rfl nofun (fun _ => ?_)
                  refine WP.skip ?_
                  refine WP.reg [(0, false), (1, false), (2, false)] (by kernel_rfl) ?_
                  refine mv0 rfl rfl ?_
                  refine Dv.bin rfl trivial rfl rfl (fun _ => run_add) ?_
                  refine as0 rfl rfl ?_
                  refine .fin ?_
                  exact Back.mk j772 (w64 (x748 + 1)) (Nat.lt_succ_self _) H (weak_cons rfl (weak_cons rfl (weak_cons rfl (weak_cons rfl weak_nil)))) (List.Perm.refl _)
                · replace H := Gets.ct H c767
                  refine Dv.mv rfl ⟨_, _, rfl, rfl, rfl⟩ rfl ?_
                  refine Dv.mv rfl ⟨_, _, rfl, rfl, rfl⟩ rfl ?_
                  obtain ⟨g768, H⟩ := Gets.grd H
                  refine Dv.ixs rfl ⟨_, _, rfl, rfl, rfl⟩ rfl rfl Tryz.underlying9 g768.1 g768.2 ?_
                  refine Dv.bin rfl ⟨_, _, rfl, rfl, rfl⟩ rfl rfl (fun _ => run_ne) ?_
                  refine Dv.pickT rfl trivial rfl rfl ?_
                  refine .fin ?_
                  refine WP.cond rfl (fun c769 => ?_) (fun c769 => ?_)
                  · replace H := Gets.ct H c769
                    refine WP.seq ?_
                    refine WP.reg [(0, false)] (by kernel_rfl) ?_
                    refine as0 rfl rfl ?_
                    refine .fin ?_
                    replace H := Gets.outr H
                    obtain rfl := Gets.out H
                    exact WP.retL (fun _ _ h => h) rfl () trivial (.cons (res_tmp rfl) .nil) rfl (st_seln 0 [] 0 rfl rfl rfl)
                  · replace H := Gets.cf H c769
                    refine WP.skip ?_
                    refine WP.reg [(0, false), (1, false), (2, false)] (by kernel_rfl) ?_
                    refine mv0 rfl rfl ?_
                    refine Dv.bin rfl trivial rfl rfl (fun _ => run_add) ?_
                    refine as0 rfl rfl ?_
                    refine .fin ?_
                    exact Back.mk j772 (w64 (x748 + 1)) (Nat.lt_succ_self _) H (weak_cons rfl (weak_cons rfl (weak_cons rfl (weak_cons rfl weak_nil)))) (List.Perm.refl _)
            · replace H := Gets.ct H c754
              refine Dv.mv rfl ⟨_, _, rfl, rfl, rfl⟩ rfl ?_
              refine Dv.mv rfl ⟨_, _, rfl, rfl, rfl⟩ rfl ?_
              obtain ⟨g755, H⟩ := Gets.grd H
              refine Dv.ixs rfl ⟨_, _, rfl, rfl, rfl⟩ rfl rfl Tryz.underlying9 g755.1 g755.2 ?_
              refine Dv.bin rfl ⟨_, _, rfl, rfl, rfl⟩ rfl rfl (fun _ => run_le) ?_
              refine Dv.pickT rfl trivial rfl rfl ?_
              refine as0 rfl rfl ?_
              refine .fin ?_
              refine WP.seq ?_
              refine WP.reg [(0, false), (1, false), (2, false), (3, false), (4, false), (5, false), (6, false), (7, false), (8, false), (9, false), (10, false), (11, false), (12, false), (13, false), (14, false), (15, false), (16, false), (17, false)] (by kernel_rfl) ?_
              refine mv0 rfl rfl ?_
              refine Dv.un rfl trivial rfl (fun _ => run_not _) ?_
              refine mv0 rfl rfl ?_
              cases c756 : !t751
              · replace H := Gets.cf H c756
                refine sk rfl rfl rfl rfl rfl ?_
                refine sk rfl rfl rfl rfl rfl ?_
                refine Dv.pickF rfl trivial rfl rfl ?_
                refine mv0 rfl rfl ?_
                refine sk rfl rfl rfl rfl rfl ?_
                refine sk rfl rfl rfl rfl rfl ?_
                refine sk rfl rfl rfl rfl rfl ?_
                refine sk rfl rfl rfl rfl rfl ?_
                refine Dv.pickF rfl trivial rfl rfl ?_
                refine mv0 rfl rfl ?_
                refine sk rfl rfl rfl rfl rfl ?_
                refine sk rfl rfl rfl rfl rfl ?_
                refine sk rfl rfl rfl rfl rfl ?_
                refine sk rfl rfl rfl rfl rfl ?_
                refine Dv.pickF rfl trivial rfl rfl ?_
                refine .fin ?_
                refine WP.cond rfl nofun (fun _ => ?_)
                refine WP.skip ?_
                refine WP.reg [(0, false), (1, false), (2, false)] (by kernel_rfl) ?_
                refine mv0 rfl rfl ?_
                refine Dv.bin rfl trivial rfl rfl (fun _ => run_add) ?_
                refine as0 rfl rfl ?_
                refine .fin ?_
                exact Back.mk j772 (w64 (x748 + 1)) (Nat.lt_succ_self _) H (weak_cons rfl (weak_cons rfl (weak_cons rfl (weak_cons rfl weak_nil)))) (List.Perm.refl _)
              · replace H := Gets.ct H c756
                refine Dv.mv rfl ⟨_, _, rfl, rfl, rfl⟩ rfl ?_
                refine Dv.un rfl ⟨_, _, rfl, rfl, rfl⟩ rfl (fun _ => run_not _) ?_
                refine Dv.pickT rfl trivial rfl rfl ?_
                refine mv0 rfl rfl ?_
                cases c757 : !(decide ((bt a0 x748) ≤ 90))
                · replace H := Gets.cf H c757
                  refine sk rfl rfl rfl rfl rfl ?_
                  refine sk rfl rfl rfl rfl rfl ?_
                  refine sk rfl rfl rfl rfl rfl ?_
                  refine sk rfl rfl rfl rfl rfl ?_
                  refine Dv.pickF rfl trivial rfl rfl ?_
                  refine mv0 rfl rfl ?_
                  refine sk rfl rfl rfl rfl rfl ?_
                  refine sk rfl rfl rfl rfl rfl ?_
                  refine sk rfl rfl rfl rfl rfl ?_
                  refine sk rfl rfl rfl rfl rfl ?_
                  refine Dv.pickF rfl trivial rfl rfl ?_
                  refine .fin ?_
                  refine WP.cond rfl nofun (fun _ => ?_)
                  refine WP.skip ?_
                  refine WP.reg [(0, false), (1, false), (2, false)] (by kernel_rfl) ?_
                  refine mv0 rfl rfl ?_
                  refine Dv.bin rfl trivial rfl rfl (fun _ => run_add) ?_
                  refine as0 rfl rfl ?_
                  refine .fin ?_
                  exact Back.mk j772 (w64 (x748 + 1)) (Nat.lt_succ_self _) H (weak_cons rfl (weak_cons rfl (weak_cons rfl (weak_cons rfl weak_nil)))) (List.Perm.refl _)
                · replace H := Gets.ct H c757
                  refine Dv.mv rfl ⟨_, _, rfl, rfl, rfl⟩ rfl ?_
                  refine Dv.mv rfl ⟨_, _, rfl, rfl, rfl⟩ rfl ?_
                  obtain ⟨g758, H⟩ := Gets.grd H
                  refine Dv.ixs rfl ⟨_, _, rfl, rfl, rfl⟩ rfl rfl Tryz.underlying9 g758.1 g758.2 ?_
                  refine Dv.bin rfl ⟨_, _, rfl, rfl, rfl⟩ rfl rfl (fun _ => run_ne) ?_
                  refine Dv.pickT rfl trivial rfl rfl ?_
                  refine mv0 rfl rfl ?_
                  cases c759 : ((bt a0 x748) != 45)
                  · replace H := Gets.cf H c759
                    refine sk rfl rfl rfl rfl rfl ?_
                    refine sk rfl rfl rfl rfl rfl ?_
                    refine sk rfl rfl rfl rfl rfl ?_
                    refine sk rfl rfl rfl rfl rfl ?_
                    refine Dv.pickF rfl trivial rfl rfl ?_
                    refine .fin ?_
                    refine WP.cond rfl nofun (fun _ => ?_)
                    refine WP.skip ?_
                    refine WP.reg [(0, false), (1, false), (2, false)] (by kernel_rfl) ?_
                    refine mv0 rfl rfl ?_
                    refine Dv.bin rfl trivial rfl rfl (fun _ => run_add) ?_
                    refine as0 rfl rfl ?_
                    refine .fin ?_
                    exact Back.mk j772 (w64 (x748 + 1)) (Nat.lt_succ_self _) H (weak_cons rfl (weak_cons rfl (weak_cons rfl (weak_cons rfl weak_nil)))) (List.Perm.refl _)
                  · replace H := Gets.ct H c759
                    refine Dv.mv rfl ⟨_, _, rfl, rfl, rfl⟩ rfl ?_
                    refine Dv.mv rfl ⟨_, _, rfl, rfl, rfl⟩ rfl ?_
                    obtain ⟨g760, H⟩ := Gets.grd H
                    refine Dv.ixs rfl ⟨_, _, rfl, rfl, rfl⟩ rfl rfl Tryz.underlying9 g760.1 g760.2 ?_
                    refine Dv.bin rfl ⟨_, _, rfl, rfl, rfl⟩ rfl rfl (fun _ => run_ne) ?_
                    refine Dv.pickT rfl trivial rfl rfl ?_
                    refine .fin ?_
                    refine WP.cond rfl (fun c761 => ?_) (fun c761 => ?_)
                    · replace H := Gets.ct H c761
                      refine WP.seq ?_
                      refine WP.reg [(0, false)] (by kernel_rfl) ?_
                      refine as0 rfl rfl ?_
                      refine .fin ?_
                      replace H := Gets.outr H
                      obtain rfl := Gets.out H
                      exact WP.retL (fun _ _ h => h) rfl () trivial (.cons (res_tmp rfl) .nil) rfl (st_seln 0 [] 0 rfl rfl rfl)
                    · replace H := Gets.cf H c761
                      refine WP.skip ?_
                      refine WP.reg [(0, false), (1, false), (2, false)] (by kernel_rfl) ?_
                      refine mv0 rfl rfl ?_
                      refine Dv.bin rfl trivial rfl rfl (fun _ => run_add) ?_
                      refine as0 rfl rfl ?_
                      refine .fin ?_
                      exact Back.mk j772 (w64 (x748 + 1)) (Nat.lt_succ_self _) H (weak_cons rfl (weak_cons rfl (weak_cons rfl (weak_cons rfl weak_nil)))) (List.Perm.refl _)
          · replace H := Gets.cf H c749
            refine WP.exit ?_
            replace H := Gets.out H
            exact Jn.mk (x748, decide (x748 < (a0.size : Int))) H (weak_cons rfl (weak_cons rfl (weak_cons rfl (weak_cons rfl (weak_cons rfl weak_nil))))) (List.Perm.refl _)
    · replace H := Gets.ct H c743
      refine sk rfl rfl rfl rfl rfl ?_
      refine sk rfl rfl rfl rfl rfl ?_
      refine sk rfl rfl rfl rfl rfl ?_
      refine Dv.pickT rfl trivial rfl rfl ?_
      refine .fin ?_
      refine WP.cond rfl (fun _ => ?_) nofun
      refine WP.seq ?_
      refine WP.reg [(0, false)] (by kernel_rfl) ?_
      refine as0 rfl rfl ?_
      refine .fin ?_
      obtain rfl := Gets.out H
      exact WP.retL (fun _ _ h => h) rfl () trivial (.cons (res_tmp rfl) .nil) rfl (st_seln 0 [] 0 rfl rfl rfl)
  · replace H := Gets.ct H c741
    refine sk rfl rfl rfl rfl rfl ?_
    refine sk rfl rfl rfl rfl rfl ?_
    refine sk rfl rfl rfl rfl rfl ?_
    refine Dv.pickT rfl trivial rfl rfl ?_
    refine mv0 rfl rfl ?_
    refine sk rfl rfl rfl rfl rfl ?_
    refine sk rfl rfl rfl rfl rfl ?_
    refine sk rfl rfl rfl rfl rfl ?_
    refine Dv.pickT rfl trivial rfl rfl ?_
    refine .fin ?_
    refine WP.cond rfl (fun _ => ?_) nofun
    refine WP.seq ?_
    refine WP.reg [(0, false)] (by kernel_rfl) ?_
    refine as0 rfl rfl ?_
    refine .fin ?_
    obtain rfl := Gets.out H
    exact WP.retL (fun _ _ h => h) rfl () trivial (.cons (res_tmp rfl) .nil) rfl (st_seln 0 [] 0 rfl rfl rfl)
theorem concourseref01_Thread.c {k : Nat} {a0 : ByteArray} {r : Bool} (h : concourseref01_Thread.f k a0 = some r) : Pt Tryz.prog 66 [eq (.string a0)] (eq (.bool r)) := by
  unfold concourseref01_Thread.f at h
  refine (Tr.body Tryz.func66 (c := _) rfl Tryz.ntmps66 (Nat.le_of_ble_eq_true rfl) fun R0 F => ?_).pt
  replace h := Gets.of h
  have H := h
  clear h
  refine WP.seq ?_
  refine WP.reg [(0, false)] (by kernel_rfl) ?_
  refine as0 rfl rfl ?_
  refine .fin ?_
  refine WP.seq ?_
  refine WP.reg [(0, false), (1, false), (2, false)] (by kernel_rfl) ?_
  refine mv0 rfl rfl ?_
  obtain ⟨t774, h775, H⟩ := Gets.call H
  refine Dv.call rfl trivial cal65 rfl (concourseref01_Event.c h775) ?_
  refine as0 rfl rfl ?_
  refine .fin ?_
  refine WP.seq ?_
  refine WP.reg [(0, false), (1, false), (2, false), (3, false), (4, false), (5, false), (6, false), (7, false), (8, false), (9, false)] (by kernel_rfl) ?_
  refine mv0 rfl rfl ?_
  refine Dv.bin rfl trivial rfl rfl (fun _ => run_seq) ?_
  refine mv0 rfl rfl ?_
  cases c776 : decide (a0 = (⟨#[]⟩ : ByteArray))
  · replace H := Gets.cf H c776
    refine Dv.mv rfl ⟨_, _, rfl, rfl, rfl⟩ rfl ?_
    refine Dv.bin rfl ⟨_, _, rfl, rfl, rfl⟩ rfl rfl (fun _ => run_seq) ?_
    refine Dv.pickF rfl trivial rfl rfl ?_
    refine mv0 rfl rfl ?_
    cases c777 : decide (a0 = (⟨#[109, 97, 105, 110]⟩ : ByteArray))
    · replace H := Gets.cf H c777
      refine Dv.mv rfl ⟨_, _, rfl, rfl, rfl⟩ rfl ?_
      refine Dv.pickF rfl trivial rfl rfl ?_
      refine as0 rfl rfl ?_
      refine .fin ?_
      obtain rfl := Gets.out H
      exact WP.retL (fun _ _ h => h) rfl () trivial (.cons (res_tmp rfl) .nil) rfl (st_seln 0 [] 0 rfl rfl rfl)
    · replace H := Gets.ct H c777
      refine sk rfl rfl rfl rfl rfl ?_
      refine Dv.pickT rfl trivial rfl rfl ?_
      refine as0 rfl rfl ?_
      refine .fin ?_
      obtain rfl := Gets.out H
      exact WP.retL (fun _ _ h => h) rfl () trivial (.cons (res_tmp rfl) .nil) rfl (st_seln 0 [] 0 rfl rfl rfl)
  · replace H := Gets.ct H c776
    refine sk rfl rfl rfl rfl rfl ?_
    refine sk rfl rfl rfl rfl rfl ?_
    refine Dv.pickT rfl trivial rfl rfl ?_
    refine mv0 rfl rfl ?_
    refine sk rfl rfl rfl rfl rfl ?_
    refine Dv.pickT rfl trivial rfl rfl ?_
    refine as0 rfl rfl ?_
    refine .fin ?_
    obtain rfl := Gets.out H
    exact WP.retL (fun _ _ h => h) rfl () trivial (.cons (res_tmp rfl) .nil) rfl (st_seln 0 [] 0 rfl rfl rfl)
theorem concourseref03_Local.c {k : Nat} {a0 : Edu} {r : Bool} (h : concourseref03_Local.f k a0 = some r) : Pt Tryz.prog 46 [agg (Edu.enc a0)] (eq (.bool r)) := by
  unfold concourseref03_Local.f at h
  refine (Tr.body Tryz.func46 (c := _) rfl Tryz.ntmps46 (Nat.le_of_ble_eq_true rfl) fun R0 F => ?_).pt
  replace h := Gets.of h
  have H := h
  clear h
  refine WP.seq ?_
  refine WP.reg [(0, true), (1, false)] (by kernel_rfl) ?_
  refine Dv.box rfl trivial rfl (cells_agg (Edu.K.one _)) nofun (fun b778 => ?_)
  refine as0 rfl rfl ?_
  refine .fin ?_
  refine WP.seq ?_
  refine WP.reg [(0, false), (1, false), (2, false), (3, false)] (by kernel_rfl) ?_
  refine Dv.fab rfl trivial rfl Tryz.underlying32 rfl Tryz.underlying9 c9 (by decide) ?_
  refine Dv.ldb rfl trivial rfl Tryz.underlying9 rfl (mem_at 0 rfl) rfl ?_
  obtain ⟨t779, h780, H⟩ := Gets.call H
  refine Dv.call rfl trivial cal64 rfl (concourseref01_Named.c h780) ?_
  refine as0 rfl rfl ?_
  refine .fin ?_
  refine WP.seq ?_
  refine WP.reg [(0, false), (1, false), (2, false), (3, false)] (by kernel_rfl) ?_
  refine Dv.fab rfl trivial rfl Tryz.underlying32 rfl Tryz.underlying9 c9 (by decide) ?_
  refine Dv.ldb rfl trivial rfl Tryz.underlying9 rfl (mem_at 0 rfl) rfl ?_
  obtain ⟨t781, h782, H⟩ := Gets.call H
  refine Dv.call rfl trivial cal64 rfl (concourseref01_Named.c h782) ?_
  refine as0 rfl rfl ?_
  refine .fin ?_
  refine WP.seq ?_
  refine WP.reg [(0, false), (1, false), (2, false), (3, false)] (by kernel_rfl) ?_
  refine Dv.fab rfl trivial rfl Tryz.underlying32 rfl Tryz.underlying9 c9 (by decide) ?_
  refine Dv.ldb rfl trivial rfl Tryz.underlying9 rfl (mem_at 0 rfl) rfl ?_
  obtain ⟨t783, h784, H⟩ := Gets.call H
  refine Dv.call rfl trivial cal65 rfl (concourseref01_Event.c h784) ?_
  refine as0 rfl rfl ?_
  refine .fin ?_
  refine WP.seq ?_
  refine WP.reg [(0, false), (1, false), (2, false), (3, false)] (by kernel_rfl) ?_
  refine Dv.fab rfl trivial rfl Tryz.underlying32 rfl Tryz.underlying9 c9 (by decide) ?_
  refine Dv.ldb rfl trivial rfl Tryz.underlying9 rfl (mem_at 0 rfl) rfl ?_
  obtain ⟨t785, h786, H⟩ := Gets.call H
  refine Dv.call rfl trivial cal66 rfl (concourseref01_Thread.c h786) ?_
  refine as0 rfl rfl ?_
  refine .fin ?_
  refine WP.seq ?_
  refine WP.seq ?_
  refine WP.reg [(0, false), (1, false), (2, false), (3, false), (4, false), (5, false), (6, false), (7, false), (8, false), (9, false), (10, false), (11, false), (12, false), (13, false), (14, false), (15, false), (16, false), (17, false), (18, false), (19, false), (20, false), (21, false)] (by kernel_rfl) ?_
  refine mv0 rfl rfl ?_
  refine Dv.un rfl trivial rfl (fun _ => run_not _) ?_
  refine mv0 rfl rfl ?_
  cases c787 : !t779
  · replace H := Gets.cf H c787
    refine Dv.fab rfl ⟨_, _, rfl, rfl, rfl⟩ rfl Tryz.underlying32 rfl Tryz.underlying3 c3 (by decide) ?_
    refine Dv.ldb rfl ⟨_, _, rfl, rfl, rfl⟩ rfl Tryz.underlying3 rfl (mem_at 0 rfl) rfl ?_
    refine Dv.bin rfl ⟨_, _, rfl, rfl, rfl⟩ rfl rfl (fun _ => run_lt) ?_
    refine Dv.pickF rfl trivial rfl rfl ?_
    refine mv0 rfl rfl ?_
    cases c789 : decide (a0.fTick < 0)
    · replace H := Gets.cf H c789
      refine Dv.fab rfl ⟨_, _, rfl, rfl, rfl⟩ rfl Tryz.underlying32 rfl Tryz.underlying3 c3 (by decide) ?_
      refine Dv.ldb rfl ⟨_, _, rfl, rfl, rfl⟩ rfl Tryz.underlying3 rfl (mem_at 0 rfl) rfl ?_
      refine Dv.bin rfl ⟨_, _, rfl, rfl, rfl⟩ rfl rfl (fun _ => run_gt) ?_
      refine Dv.pickF rfl trivial rfl rfl ?_
      refine mv0 rfl rfl ?_
      cases c791 : decide (1099511627776 < a0.fTick)
      · replace H := Gets.cf H c791
        refine Dv.fab rfl ⟨_, _, rfl, rfl, rfl⟩ rfl Tryz.underlying32 rfl Tryz.underlying3 c3 (by decide) ?_
        refine Dv.ldb rfl ⟨_, _, rfl, rfl, rfl⟩ rfl Tryz.underlying3 rfl (mem_at 0 rfl) rfl ?_
        refine Dv.bin rfl ⟨_, _, rfl, rfl, rfl⟩ rfl rfl (fun _ => run_lt) ?_
        refine Dv.pickF rfl trivial rfl rfl ?_
        refine mv0 rfl rfl ?_
        cases c793 : decide (a0.fStamp < 0)
        · replace H := Gets.cf H c793
          refine Dv.fab rfl ⟨_, _, rfl, rfl, rfl⟩ rfl Tryz.underlying32 rfl Tryz.underlying3 c3 (by decide) ?_
          refine Dv.ldb rfl ⟨_, _, rfl, rfl, rfl⟩ rfl Tryz.underlying3 rfl (mem_at 0 rfl) rfl ?_
          refine Dv.bin rfl ⟨_, _, rfl, rfl, rfl⟩ rfl rfl (fun _ => run_gt) ?_
          refine Dv.pickF rfl trivial rfl rfl ?_
          refine .fin ?_
          refine WP.cond rfl (fun c795 => ?_) (fun c795 => ?_)
          · replace H := Gets.ct H c795
            refine WP.seq ?_
            refine WP.reg [(0, false)] (by kernel_rfl) ?_
            refine as0 rfl rfl ?_
            refine .fin ?_
            obtain rfl := Gets.out H
            exact WP.retL (fun _ _ h => h) rfl () trivial (.cons (res_tmp rfl) .nil) rfl (st_seln 1 [0] 1 rfl rfl rfl)
          · replace H := Gets.cf H c795
            refine WP.skip ?_
            refine WP.seq ?_
            refine WP.seq ?_
            refine WP.reg [(0, false), (1, false)] (by kernel_rfl) ?_
            refine Dv.fab rfl trivial rfl Tryz.underlying32 rfl Tryz.underlying3 c3 (by decide) ?_
            refine Dv.ldb rfl trivial rfl Tryz.underlying3 rfl (mem_at 0 rfl) rfl ?_
            refine .fin ?_
            refine WP.block ?_
            refine WP.seq ?_
            refine WP.reg [(0, false), (1, false)] (by kernel_rfl) ?_
            refine Dv.bin rfl trivial rfl rfl (fun _ => run_eq) ?_
            refine as0 rfl rfl ?_
            refine .fin ?_
            refine WP.cond rfl (fun c796 => ?_) (fun c796 => ?_)
            · replace H := Gets.ct H c796
              refine WP.seq ?_
              refine WP.reg [(0, false), (1, false), (2, false), (3, false), (4, false), (5, false), (6, false), (7, false), (8, false), (9, false), (10, false), (11, false), (12, false), (13, false), (14, false), (15, false), (16, false), (17, false), (18, false), (19, false), (20, false), (21, false), (22, false)] (by kernel_rfl) ?_
              refine mv0 rfl rfl ?_
              refine mv0 rfl rfl ?_
              cases c797 : t781
              · replace H := Gets.cf H c797
                refine sk rfl rfl rfl rfl rfl ?_
                refine Dv.pickF rfl trivial rfl rfl ?_
                refine mv0 rfl rfl ?_
                refine sk rfl rfl rfl rfl rfl ?_
                refine Dv.pickF rfl trivial rfl rfl ?_
                refine mv0 rfl rfl ?_
                refine sk rfl rfl rfl rfl rfl ?_
                refine sk rfl rfl rfl rfl rfl ?_
                refine sk rfl rfl rfl rfl rfl ?_
                refine Dv.pickF rfl trivial rfl rfl ?_
                refine mv0 rfl rfl ?_
                refine sk rfl rfl rfl rfl rfl ?_
                refine sk rfl rfl rfl rfl rfl ?_
                refine sk rfl rfl rfl rfl rfl ?_
                refine Dv.pickF rfl trivial rfl rfl ?_
                refine mv0 rfl rfl ?_
                refine sk rfl rfl rfl rfl rfl ?_
                refine sk rfl rfl rfl rfl rfl ?_
                refine sk rfl rfl rfl rfl rfl ?_
                refine Dv.pickF rfl trivial rfl rfl ?_
                refine as0 rfl rfl ?_
                refine .fin ?_
                obtain rfl := Gets.out H
                exact WP.retL (fun _ _ h => h) rfl () trivial (.cons (res_tmp rfl) .nil) rfl (st_seln 1 [0] 1 rfl rfl rfl)
              · replace H := Gets.ct H c797
                refine Dv.mv rfl ⟨_, _, rfl, rfl, rfl⟩ rfl ?_
                refine Dv.pickT rfl trivial rfl rfl ?_
                refine mv0 rfl rfl ?_
                cases c798 : t783
                · replace H := Gets.cf H c798
                  refine sk rfl rfl rfl rfl rfl ?_
                  refine Dv.pickF rfl trivial rfl rfl ?_
                  refine mv0 rfl rfl ?_
                  refine sk rfl rfl rfl rfl rfl ?_
                  refine sk rfl rfl rfl rfl rfl ?_
                  refine sk rfl rfl rfl rfl rfl ?_
                  refine Dv.pickF rfl trivial rfl rfl ?_
                  refine mv0 rfl rfl ?_
                  refine sk rfl rfl rfl rfl rfl ?_
                  refine sk rfl rfl rfl rfl rfl ?_
                  refine sk rfl rfl rfl rfl rfl ?_
                  refine Dv.pickF rfl trivial rfl rfl ?_
                  refine mv0 rfl rfl ?_
                  refine sk rfl rfl rfl rfl rfl ?_
                  refine sk rfl rfl rfl rfl rfl ?_
                  refine sk rfl rfl rfl rfl rfl ?_
                  refine Dv.pickF rfl trivial rfl rfl ?_
                  refine as0 rfl rfl ?_
                  refine .fin ?_
                  obtain rfl := Gets.out H
                  exact WP.retL (fun _ _ h => h) rfl () trivial (.cons (res_tmp rfl) .nil) rfl (st_seln 1 [0] 1 rfl rfl rfl)
                · replace H := Gets.ct H c798
                  refine Dv.mv rfl ⟨_, _, rfl, rfl, rfl⟩ rfl ?_
                  refine Dv.pickT rfl trivial rfl rfl ?_
                  refine mv0 rfl rfl ?_
                  cases c799 : t785
                  · replace H := Gets.cf H c799
                    refine sk rfl rfl rfl rfl rfl ?_
                    refine sk rfl rfl rfl rfl rfl ?_
                    refine sk rfl rfl rfl rfl rfl ?_
                    refine Dv.pickF rfl trivial rfl rfl ?_
                    refine mv0 rfl rfl ?_
                    refine sk rfl rfl rfl rfl rfl ?_
                    refine sk rfl rfl rfl rfl rfl ?_
                    refine sk rfl rfl rfl rfl rfl ?_
                    refine Dv.pickF rfl trivial rfl rfl ?_
                    refine mv0 rfl rfl ?_
                    refine sk rfl rfl rfl rfl rfl ?_
                    refine sk rfl rfl rfl rfl rfl ?_
                    refine sk rfl rfl rfl rfl rfl ?_
                    refine Dv.pickF rfl trivial rfl rfl ?_
                    refine as0 rfl rfl ?_
                    refine .fin ?_
                    obtain rfl := Gets.out H
                    exact WP.retL (fun _ _ h => h) rfl () trivial (.cons (res_tmp rfl) .nil) rfl (st_seln 1 [0] 1 rfl rfl rfl)
                  · replace H := Gets.ct H c799
                    refine Dv.fab rfl ⟨_, _, rfl, rfl, rfl⟩ rfl Tryz.underlying32 rfl Tryz.underlying4 c4 (by decide) ?_
                    refine Dv.ldb rfl ⟨_, _, rfl, rfl, rfl⟩ rfl Tryz.underlying4 rfl (mem_at 0 rfl) rfl ?_
                    refine Dv.un rfl ⟨_, _, rfl, rfl, rfl⟩ rfl (fun _ => run_not _) ?_
                    refine Dv.pickT rfl trivial rfl rfl ?_
                    refine mv0 rfl rfl ?_
                    cases c800 : !a0.fOn
                    · replace H := Gets.cf H c800
                      refine sk rfl rfl rfl rfl rfl ?_
                      refine sk rfl rfl rfl rfl rfl ?_
                      refine sk rfl rfl rfl rfl rfl ?_
                      refine Dv.pickF rfl trivial rfl rfl ?_
                      refine mv0 rfl rfl ?_
                      refine sk rfl rfl rfl rfl rfl ?_
                      refine sk rfl rfl rfl rfl rfl ?_
                      refine sk rfl rfl rfl rfl rfl ?_
                      refine Dv.pickF rfl trivial rfl rfl ?_
                      refine as0 rfl rfl ?_
                      refine .fin ?_
                      obtain rfl := Gets.out H
                      exact WP.retL (fun _ _ h => h) rfl () trivial (.cons (res_tmp rfl) .nil) rfl (st_seln 1 [0] 1 rfl rfl rfl)
                    · replace H := Gets.ct H c800
                      refine Dv.fab rfl ⟨_, _, rfl, rfl, rfl⟩ rfl Tryz.underlying32 rfl Tryz.underlying3 c3 (by decide) ?_
                      refine Dv.ldb rfl ⟨_, _, rfl, rfl, rfl⟩ rfl Tryz.underlying3 rfl (mem_at 0 rfl) rfl ?_
                      refine Dv.bin rfl ⟨_, _, rfl, rfl, rfl⟩ rfl rfl (fun _ => run_eq) ?_
                      refine Dv.pickT rfl trivial rfl rfl ?_
                      refine mv0 rfl rfl ?_
                      cases c801 : (a0.fSpan == 0)
                      · replace H := Gets.cf H c801
                        refine sk rfl rfl rfl rfl rfl ?_
                        refine sk rfl rfl rfl rfl rfl ?_
                        refine sk rfl rfl rfl rfl rfl ?_
                        refine Dv.pickF rfl trivial rfl rfl ?_
                        refine as0 rfl rfl ?_
                        refine .fin ?_
                        obtain rfl := Gets.out H
                        exact WP.retL (fun _ _ h => h) rfl () trivial (.cons (res_tmp rfl) .nil) rfl (st_seln 1 [0] 1 rfl rfl rfl)
                      · replace H := Gets.ct H c801
                        refine Dv.fab rfl ⟨_, _, rfl, rfl, rfl⟩ rfl Tryz.underlying32 rfl Tryz.underlying3 c3 (by decide) ?_
                        refine Dv.ldb rfl ⟨_, _, rfl, rfl, rfl⟩ rfl Tryz.underlying3 rfl (mem_at 0 rfl) rfl ?_
                        refine Dv.bin rfl ⟨_, _, rfl, rfl, rfl⟩ rfl rfl (fun _ => run_eq) ?_
                        refine Dv.pickT rfl trivial rfl rfl ?_
                        refine as0 rfl rfl ?_
                        refine .fin ?_
                        obtain rfl := Gets.out H
                        exact WP.retL (fun _ _ h => h) rfl () trivial (.cons (res_tmp rfl) .nil) rfl (st_seln 1 [0] 1 rfl rfl rfl)
            · replace H := Gets.cf H c796
              refine WP.seq ?_
              refine WP.reg [(0, false), (1, false)] (by kernel_rfl) ?_
              refine Dv.bin rfl trivial rfl rfl (fun _ => run_eq) ?_
              refine as0 rfl rfl ?_
              refine .fin ?_
              refine WP.cond rfl (fun c802 => ?_) (fun c802 => ?_)
              · replace H := Gets.ct H c802
                refine WP.seq ?_
                refine WP.reg [(0, false), (1, false), (2, false), (3, false), (4, false), (5, false), (6, false), (7, false), (8, false), (9, false), (10, false), (11, false), (12, false), (13, false), (14, false), (15, false), (16, false), (17, false), (18, false), (19, false), (20, false), (21, false), (22, false)] (by kernel_rfl) ?_
                refine Dv.fab rfl trivial rfl Tryz.underlying32 rfl Tryz.underlying4 c4 (by decide) ?_
                refine Dv.ldb rfl trivial rfl Tryz.underlying4 rfl (mem_at 0 rfl) rfl ?_
                refine mv0 rfl rfl ?_
                cases c803 : a0.fOn
                · replace H := Gets.cf H c803
                  refine sk rfl rfl rfl rfl rfl ?_
                  refine sk rfl rfl rfl rfl rfl ?_
                  refine sk rfl rfl rfl rfl rfl ?_
                  refine Dv.pickF rfl trivial rfl rfl ?_
                  refine mv0 rfl rfl ?_
                  refine sk rfl rfl rfl rfl rfl ?_
                  refine sk rfl rfl rfl rfl rfl ?_
                  refine sk rfl rfl rfl rfl rfl ?_
                  refine Dv.pickF rfl trivial rfl rfl ?_
                  refine mv0 rfl rfl ?_
                  refine Dv.fab rfl ⟨_, _, rfl, rfl, rfl⟩ rfl Tryz.underlying32 rfl Tryz.underlying4 c4 (by decide) ?_
                  refine Dv.ldb rfl ⟨_, _, rfl, rfl, rfl⟩ rfl Tryz.underlying4 rfl (mem_at 0 rfl) rfl ?_
                  refine Dv.un rfl ⟨_, _, rfl, rfl, rfl⟩ rfl (fun _ => run_not _) ?_
                  refine Dv.mv rfl ⟨_, _, rfl, rfl, rfl⟩ rfl ?_
                  cases c824 : !a0.fOn
                  · replace H := Gets.cf H c824
                    refine sk rfl rfl rfl rfl rfl ?_
                    refine sk rfl rfl rfl rfl rfl ?_
                    refine sk rfl rfl rfl rfl rfl ?_
                    refine Dv.pickF rfl ⟨_, _, rfl, rfl, rfl⟩ rfl rfl ?_
                    refine Dv.pickF rfl trivial rfl rfl ?_
                    refine as0 rfl rfl ?_
                    refine .fin ?_
                    refine WP.seq ?_
                    refine WP.reg [(0, false), (1, false), (2, false), (3, false), (4, false), (5, false), (6, false), (7, false), (8, false), (9, false), (10, false), (11, false), (12, false), (13, false), (14, false), (15, false), (16, false), (17, false), (18, false), (19, false), (20, false), (21, false), (22, false), (23, false), (24, false)] (by kernel_rfl) ?_
                    refine mv0 rfl rfl ?_
                    refine mv0 rfl rfl ?_
                    cases c830 : t781
                    · replace H := Gets.cf H c830
                      refine sk rfl rfl rfl rfl rfl ?_
                      refine Dv.pickF rfl trivial rfl rfl ?_
                      refine mv0 rfl rfl ?_
                      refine sk rfl rfl rfl rfl rfl ?_
                      refine sk rfl rfl rfl rfl rfl ?_
                      refine sk rfl rfl rfl rfl rfl ?_
                      refine Dv.pickF rfl trivial rfl rfl ?_
                      refine mv0 rfl rfl ?_
                      refine sk rfl rfl rfl rfl rfl ?_
                      refine sk rfl rfl rfl rfl rfl ?_
                      refine sk rfl rfl rfl rfl rfl ?_
                      refine Dv.pickF rfl trivial rfl rfl ?_
                      refine mv0 rfl rfl ?_
                      refine sk rfl rfl rfl rfl rfl ?_
                      refine sk rfl rfl rfl rfl rfl ?_
                      refine sk rfl rfl rfl rfl rfl ?_
                      refine Dv.pickF rfl trivial rfl rfl ?_
                      refine mv0 rfl rfl ?_
                      refine sk rfl rfl rfl rfl rfl ?_
                      refine sk rfl rfl rfl rfl rfl ?_
                      refine sk rfl rfl rfl rfl rfl ?_
                      refine Dv.pickF rfl trivial rfl rfl ?_
                      refine as0 rfl rfl ?_
                      refine .fin ?_
                      obtain rfl := Gets.out H
                      exact WP.retL (fun _ _ h => h) rfl () trivial (.cons (res_tmp rfl) .nil) rfl (st_seln 1 [0] 1 rfl rfl rfl)
                    · replace H := Gets.ct H c830
                      refine Dv.mv rfl ⟨_, _, rfl, rfl, rfl⟩ rfl ?_
                      refine Dv.pickT rfl trivial rfl rfl ?_
                      refine mv0 rfl rfl ?_
                      refine sk rfl rfl rfl rfl rfl ?_
                      refine sk rfl rfl rfl rfl rfl ?_
                      refine sk rfl rfl rfl rfl rfl ?_
                      refine Dv.pickF rfl trivial rfl rfl ?_
                      refine mv0 rfl rfl ?_
                      refine sk rfl rfl rfl rfl rfl ?_
                      refine sk rfl rfl rfl rfl rfl ?_
                      refine sk rfl rfl rfl rfl rfl ?_
                      refine Dv.pickF rfl trivial rfl rfl ?_
                      refine mv0 rfl rfl ?_
                      refine sk rfl rfl rfl rfl rfl ?_
                      refine sk rfl rfl rfl rfl rfl ?_
                      refine sk rfl rfl rfl rfl rfl ?_
                      refine Dv.pickF rfl trivial rfl rfl ?_
                      refine mv0 rfl rfl ?_
                      refine sk rfl rfl rfl rfl rfl ?_
                      refine sk rfl rfl rfl rfl rfl ?_
                      refine sk rfl rfl rfl rfl rfl ?_
                      refine Dv.pickF rfl trivial rfl rfl ?_
                      refine as0 rfl rfl ?_
                      refine .fin ?_
                      obtain rfl := Gets.out H
                      exact WP.retL (fun _ _ h => h) rfl () trivial (.cons (res_tmp rfl) .nil) rfl (st_seln 1 [0] 1 rfl rfl rfl)
                  · replace H := Gets.ct H c824
                    refine Dv.fab rfl ⟨_, _, rfl, rfl, rfl⟩ rfl Tryz.underlying32 rfl Tryz.underlying3 c3 (by decide) ?_
                    refine Dv.ldb rfl ⟨_, _, rfl, rfl, rfl⟩ rfl Tryz.underlying3 rfl (mem_at 0 rfl) rfl ?_
                    refine Dv.bin rfl ⟨_, _, rfl, rfl, rfl⟩ rfl rfl (fun _ => run_eq) ?_
                    refine Dv.pickT rfl ⟨_, _, rfl, rfl, rfl⟩ rfl rfl ?_
                    refine Dv.pickF rfl trivial rfl rfl ?_
                    refine as0 rfl rfl ?_
                    refine .fin ?_
                    refine WP.seq ?_
                    refine WP.reg [(0, false), (1, false), (2, false), (3, false), (4, false), (5, false), (6, false), (7, false), (8, false), (9, false), (10, false), (11, false), (12, false), (13, false), (14, false), (15, false), (16, false), (17, false), (18, false), (19, false), (20, false), (21, false), (22, false), (23, false), (24, false)] (by kernel_rfl) ?_
                    refine mv0 rfl rfl ?_
                    refine mv0 rfl rfl ?_
                    cases c825 : t781
                    · replace H := Gets.cf H c825
                      refine sk rfl rfl rfl rfl rfl ?_
                      refine Dv.pickF rfl trivial rfl rfl ?_
                      refine mv0 rfl rfl ?_
                      refine sk rfl rfl rfl rfl rfl ?_
                      refine sk rfl rfl rfl rfl rfl ?_
                      refine sk rfl rfl rfl rfl rfl ?_
                      refine Dv.pickF rfl trivial rfl rfl ?_
                      refine mv0 rfl rfl ?_
                      refine sk rfl rfl rfl rfl rfl ?_
                      refine sk rfl rfl rfl rfl rfl ?_
                      refine sk rfl rfl rfl rfl rfl ?_
                      refine Dv.pickF rfl trivial rfl rfl ?_
                      refine mv0 rfl rfl ?_
                      refine sk rfl rfl rfl rfl rfl ?_
                      refine sk rfl rfl rfl rfl rfl ?_
                      refine sk rfl rfl rfl rfl rfl ?_
                      refine Dv.pickF rfl trivial rfl rfl ?_
                      refine mv0 rfl rfl ?_
                      refine sk rfl rfl rfl rfl rfl ?_
                      refine sk rfl rfl rfl rfl rfl ?_
                      refine sk rfl rfl rfl rfl rfl ?_
                      refine Dv.pickF rfl trivial rfl rfl ?_
                      refine as0 rfl rfl ?_
                      refine .fin ?_
                      obtain rfl := Gets.out H
                      exact WP.retL (fun _ _ h => h) rfl () trivial (.cons (res_tmp rfl) .nil) rfl (st_seln 1 [0] 1 rfl rfl rfl)
                    · replace H := Gets.ct H c825
                      refine Dv.mv rfl ⟨_, _, rfl, rfl, rfl⟩ rfl ?_
                      refine Dv.pickT rfl trivial rfl rfl ?_
                      refine mv0 rfl rfl ?_
                      cases c826 : (a0.fSpan == 0)
                      · replace H := Gets.cf H c826
                        refine sk rfl rfl rfl rfl rfl ?_
                        refine sk rfl rfl rfl rfl rfl ?_
                        refine sk rfl rfl rfl rfl rfl ?_
                        refine Dv.pickF rfl trivial rfl rfl ?_
                        refine mv0 rfl rfl ?_
                        refine sk rfl rfl rfl rfl rfl ?_
                        refine sk rfl rfl rfl rfl rfl ?_
                        refine sk rfl rfl rfl rfl rfl ?_
                        refine Dv.pickF rfl trivial rfl rfl ?_
                        refine mv0 rfl rfl ?_
                        refine sk rfl rfl rfl rfl rfl ?_
                        refine sk rfl rfl rfl rfl rfl ?_
                        refine sk rfl rfl rfl rfl rfl ?_
                        refine Dv.pickF rfl trivial rfl rfl ?_
                        refine mv0 rfl rfl ?_
                        refine sk rfl rfl rfl rfl rfl ?_
                        refine sk rfl rfl rfl rfl rfl ?_
                        refine sk rfl rfl rfl rfl rfl ?_
                        refine Dv.pickF rfl trivial rfl rfl ?_
                        refine as0 rfl rfl ?_
                        refine .fin ?_
                        obtain rfl := Gets.out H
                        exact WP.retL (fun _ _ h => h) rfl () trivial (.cons (res_tmp rfl) .nil) rfl (st_seln 1 [0] 1 rfl rfl rfl)
                      · replace H := Gets.ct H c826
                        refine Dv.fab rfl ⟨_, _, rfl, rfl, rfl⟩ rfl Tryz.underlying32 rfl Tryz.underlying9 c9 (by decide) ?_
                        refine Dv.ldb rfl ⟨_, _, rfl, rfl, rfl⟩ rfl Tryz.underlying9 rfl (mem_at 0 rfl) rfl ?_
                        refine Dv.bin rfl ⟨_, _, rfl, rfl, rfl⟩ rfl rfl (fun _ => run_seq) ?_
                        refine Dv.pickT rfl trivial rfl rfl ?_
                        refine mv0 rfl rfl ?_
                        cases c827 : decide (a0.fEvent = (⟨#[]⟩ : ByteArray))
                        · replace H := Gets.cf H c827
                          refine sk rfl rfl rfl rfl rfl ?_
                          refine sk rfl rfl rfl rfl rfl ?_
                          refine sk rfl rfl rfl rfl rfl ?_
                          refine Dv.pickF rfl trivial rfl rfl ?_
                          refine mv0 rfl rfl ?_
                          refine sk rfl rfl rfl rfl rfl ?_
                          refine sk rfl rfl rfl rfl rfl ?_
                          refine sk rfl rfl rfl rfl rfl ?_
                          refine Dv.pickF rfl trivial rfl rfl ?_
                          refine mv0 rfl rfl ?_
                          refine sk rfl rfl rfl rfl rfl ?_
                          refine sk rfl rfl rfl rfl rfl ?_
                          refine sk rfl rfl rfl rfl rfl ?_
                          refine Dv.pickF rfl trivial rfl rfl ?_
                          refine as0 rfl rfl ?_
                          refine .fin ?_
                          obtain rfl := Gets.out H
                          exact WP.retL (fun _ _ h => h) rfl () trivial (.cons (res_tmp rfl) .nil) rfl (st_seln 1 [0] 1 rfl rfl rfl)
                        · replace H := Gets.ct H c827
                          refine Dv.fab rfl ⟨_, _, rfl, rfl, rfl⟩ rfl Tryz.underlying32 rfl Tryz.underlying9 c9 (by decide) ?_
                          refine Dv.ldb rfl ⟨_, _, rfl, rfl, rfl⟩ rfl Tryz.underlying9 rfl (mem_at 0 rfl) rfl ?_
                          refine Dv.bin rfl ⟨_, _, rfl, rfl, rfl⟩ rfl rfl (fun _ => run_seq) ?_
                          refine Dv.pickT rfl trivial rfl rfl ?_
                          refine mv0 rfl rfl ?_
                          cases c828 : decide (a0.fThread = (⟨#[]⟩ : ByteArray))
                          · replace H := Gets.cf H c828
                            refine sk rfl rfl rfl rfl rfl ?_
                            refine sk rfl rfl rfl rfl rfl ?_
                            refine sk rfl rfl rfl rfl rfl ?_
                            refine Dv.pickF rfl trivial rfl rfl ?_
                            refine mv0 rfl rfl ?_
                            refine sk rfl rfl rfl rfl rfl ?_
                            refine sk rfl rfl rfl rfl rfl ?_
                            refine sk rfl rfl rfl rfl rfl ?_
                            refine Dv.pickF rfl trivial rfl rfl ?_
                            refine as0 rfl rfl ?_
                            refine .fin ?_
                            obtain rfl := Gets.out H
                            exact WP.retL (fun _ _ h => h) rfl () trivial (.cons (res_tmp rfl) .nil) rfl (st_seln 1 [0] 1 rfl rfl rfl)
                          · replace H := Gets.ct H c828
                            refine Dv.fab rfl ⟨_, _, rfl, rfl, rfl⟩ rfl Tryz.underlying32 rfl Tryz.underlying3 c3 (by decide) ?_
                            refine Dv.ldb rfl ⟨_, _, rfl, rfl, rfl⟩ rfl Tryz.underlying3 rfl (mem_at 0 rfl) rfl ?_
                            refine Dv.bin rfl ⟨_, _, rfl, rfl, rfl⟩ rfl rfl (fun _ => run_eq) ?_
                            refine Dv.pickT rfl trivial rfl rfl ?_
                            refine mv0 rfl rfl ?_
                            cases c829 : (a0.fState == 0)
                            · replace H := Gets.cf H c829
                              refine sk rfl rfl rfl rfl rfl ?_
                              refine sk rfl rfl rfl rfl rfl ?_
                              refine sk rfl rfl rfl rfl rfl ?_
                              refine Dv.pickF rfl trivial rfl rfl ?_
                              refine as0 rfl rfl ?_
                              refine .fin ?_
                              obtain rfl := Gets.out H
                              exact WP.retL (fun _ _ h => h) rfl () trivial (.cons (res_tmp rfl) .nil) rfl (st_seln 1 [0] 1 rfl rfl rfl)
                            · replace H := Gets.ct H c829
                              refine Dv.fab rfl ⟨_, _, rfl, rfl, rfl⟩ rfl Tryz.underlying32 rfl Tryz.underlying4 c4 (by decide) ?_
                              refine Dv.ldb rfl ⟨_, _, rfl, rfl, rfl⟩ rfl Tryz.underlying4 rfl (mem_at 0 rfl) rfl ?_
                              refine Dv.un rfl ⟨_, _, rfl, rfl, rfl⟩ rfl (fun _ => run_not _) ?_
                              refine Dv.pickT rfl trivial rfl rfl ?_
                              refine as0 rfl rfl ?_
                              refine .fin ?_
                              obtain rfl := Gets.out H
                              exact WP.retL (fun _ _ h => h) rfl () trivial (.cons (res_tmp rfl) .nil) rfl (st_seln 1 [0] 1 rfl rfl rfl)
                · replace H := Gets.ct H c803
                  refine Dv.fab rfl ⟨_, _, rfl, rfl, rfl⟩ rfl Tryz.underlying32 rfl Tryz.underlying3 c3 (by decide) ?_
                  refine Dv.ldb rfl ⟨_, _, rfl, rfl, rfl⟩ rfl Tryz.underlying3 rfl (mem_at 0 rfl) rfl ?_
                  refine Dv.bin rfl ⟨_, _, rfl, rfl, rfl⟩ rfl rfl (fun _ => run_ge) ?_
                  refine Dv.pickT rfl trivial rfl rfl ?_
                  refine mv0 rfl rfl ?_
                  cases c804 : decide (1 ≤ a0.fSpan)
                  · replace H := Gets.cf H c804
                    refine sk rfl rfl rfl rfl rfl ?_
                    refine sk rfl rfl rfl rfl rfl ?_
                    refine sk rfl rfl rfl rfl rfl ?_
                    refine Dv.pickF rfl trivial rfl rfl ?_
                    refine mv0 rfl rfl ?_
                    refine Dv.fab rfl ⟨_, _, rfl, rfl, rfl⟩ rfl Tryz.underlying32 rfl Tryz.underlying4 c4 (by decide) ?_
                    refine Dv.ldb rfl ⟨_, _, rfl, rfl, rfl⟩ rfl Tryz.underlying4 rfl (mem_at 0 rfl) rfl ?_
                    refine Dv.un rfl ⟨_, _, rfl, rfl, rfl⟩ rfl (fun _ => run_not _) ?_
                    refine Dv.mv rfl ⟨_, _, rfl, rfl, rfl⟩ rfl ?_
                    cases c817 : !a0.fOn
                    · replace H := Gets.cf H c817
                      refine sk rfl rfl rfl rfl rfl ?_
                      refine sk rfl rfl rfl rfl rfl ?_
                      refine sk rfl rfl rfl rfl rfl ?_
                      refine Dv.pickF rfl ⟨_, _, rfl, rfl, rfl⟩ rfl rfl ?_
                      refine Dv.pickF rfl trivial rfl rfl ?_
                      refine as0 rfl rfl ?_
                      refine .fin ?_
                      refine WP.seq ?_
                      refine WP.reg [(0, false), (1, false), (2, false), (3, false), (4, false), (5, false), (6, false), (7, false), (8, false), (9, false), (10, false), (11, false), (12, false), (13, false), (14, false), (15, false), (16, false), (17, false), (18, false), (19, false), (20, false), (21, false), (22, false), (23, false), (24, false)] (by kernel_rfl) ?_
                      refine mv0 rfl rfl ?_
                      refine mv0 rfl rfl ?_
                      cases c823 : t781
                      · replace H := Gets.cf H c823
                        refine sk rfl rfl rfl rfl rfl ?_
                        refine Dv.pickF rfl trivial rfl rfl ?_
                        refine mv0 rfl rfl ?_
                        refine sk rfl rfl rfl rfl rfl ?_
                        refine sk rfl rfl rfl rfl rfl ?_
                        refine sk rfl rfl rfl rfl rfl ?_
                        refine Dv.pickF rfl trivial rfl rfl ?_
                        refine mv0 rfl rfl ?_
                        refine sk rfl rfl rfl rfl rfl ?_
                        refine sk rfl rfl rfl rfl rfl ?_
                        refine sk rfl rfl rfl rfl rfl ?_
                        refine Dv.pickF rfl trivial rfl rfl ?_
                        refine mv0 rfl rfl ?_
                        refine sk rfl rfl rfl rfl rfl ?_
                        refine sk rfl rfl rfl rfl rfl ?_
                        refine sk rfl rfl rfl rfl rfl ?_
                        refine Dv.pickF rfl trivial rfl rfl ?_
                        refine mv0 rfl rfl ?_
                        refine sk rfl rfl rfl rfl rfl ?_
                        refine sk rfl rfl rfl rfl rfl ?_
                        refine sk rfl rfl rfl rfl rfl ?_
                        refine Dv.pickF rfl trivial rfl rfl ?_
                        refine as0 rfl rfl ?_
                        refine .fin ?_
                        obtain rfl := Gets.out H
                        exact WP.retL (fun _ _ h => h) rfl () trivial (.cons (res_tmp rfl) .nil) rfl (st_seln 1 [0] 1 rfl rfl rfl)
                      · replace H := Gets.ct H c823
                        refine Dv.mv rfl ⟨_, _, rfl, rfl, rfl⟩ rfl ?_
                        refine Dv.pickT rfl trivial rfl rfl ?_
                        refine mv0 rfl rfl ?_
                        refine sk rfl rfl rfl rfl rfl ?_
                        refine sk rfl rfl rfl rfl rfl ?_
                        refine sk rfl rfl rfl rfl rfl ?_
                        refine Dv.pickF rfl trivial rfl rfl ?_
                        refine mv0 rfl rfl ?_
                        refine sk rfl rfl rfl rfl rfl ?_
                        refine sk rfl rfl rfl rfl rfl ?_
                        refine sk rfl rfl rfl rfl rfl ?_
                        refine Dv.pickF rfl trivial rfl rfl ?_
                        refine mv0 rfl rfl ?_
                        refine sk rfl rfl rfl rfl rfl ?_
                        refine sk rfl rfl rfl rfl rfl ?_
                        refine sk rfl rfl rfl rfl rfl ?_
                        refine Dv.pickF rfl trivial rfl rfl ?_
                        refine mv0 rfl rfl ?_
                        refine sk rfl rfl rfl rfl rfl ?_
                        refine sk rfl rfl rfl rfl rfl ?_
                        refine sk rfl rfl rfl rfl rfl ?_
                        refine Dv.pickF rfl trivial rfl rfl ?_
                        refine as0 rfl rfl ?_
                        refine .fin ?_
                        obtain rfl := Gets.out H
                        exact WP.retL (fun _ _ h => h) rfl () trivial (.cons (res_tmp rfl) .nil) rfl (st_seln 1 [0] 1 rfl rfl rfl)
                    · replace H := Gets.ct H c817
                      refine Dv.fab rfl ⟨_, _, rfl, rfl, rfl⟩ rfl Tryz.underlying32 rfl Tryz.underlying3 c3 (by decide) ?_
                      refine Dv.ldb rfl ⟨_, _, rfl, rfl, rfl⟩ rfl Tryz.underlying3 rfl (mem_at 0 rfl) rfl ?_
                      refine Dv.bin rfl ⟨_, _, rfl, rfl, rfl⟩ rfl rfl (fun _ => run_eq) ?_
                      refine Dv.pickT rfl ⟨_, _, rfl, rfl, rfl⟩ rfl rfl ?_
                      refine Dv.pickF rfl trivial rfl rfl ?_
                      refine as0 rfl rfl ?_
                      refine .fin ?_
                      refine WP.seq ?_
                      refine WP.reg [(0, false), (1, false), (2, false), (3, false), (4, false), (5, false), (6, false), (7, false), (8, false), (9, false), (10, false), (11, false), (12, false), (13, false), (14, false), (15, false), (16, false), (17, false), (18, false), (19, false), (20, false), (21, false), (22, false), (23, false), (24, false)] (by kernel_rfl) ?_
                      refine mv0 rfl rfl ?_
                      refine mv0 rfl rfl ?_
                      cases c818 : t781
                      · replace H := Gets.cf H c818
                        refine sk rfl rfl rfl rfl rfl ?_
                        refine Dv.pickF rfl trivial rfl rfl ?_
                        refine mv0 rfl rfl ?_
                        refine sk rfl rfl rfl rfl rfl ?_
                        refine sk rfl rfl rfl rfl rfl ?_
                        refine sk rfl rfl rfl rfl rfl ?_
                        refine Dv.pickF rfl trivial rfl rfl ?_
                        refine mv0 rfl rfl ?_
                        refine sk rfl rfl rfl rfl rfl ?_
                        refine sk rfl rfl rfl rfl rfl ?_
                        refine sk rfl rfl rfl rfl rfl ?_
                        refine Dv.pickF rfl trivial rfl rfl ?_
                        refine mv0 rfl rfl ?_
                        refine sk rfl rfl rfl rfl rfl ?_
                        refine sk rfl rfl rfl rfl rfl ?_
                        refine sk rfl rfl rfl rfl rfl ?_
                        refine Dv.pickF rfl trivial rfl rfl ?_
                        refine mv0 rfl rfl ?_
                        refine sk rfl rfl rfl rfl rfl ?_
                        refine sk rfl rfl rfl rfl rfl ?_
                        refine sk rfl rfl rfl rfl rfl ?_
                        refine Dv.pickF rfl trivial rfl rfl ?_
                        refine as0 rfl rfl ?_
                        refine .fin ?_
                        obtain rfl := Gets.out H
                        exact WP.retL (fun _ _ h => h) rfl () trivial (.cons (res_tmp rfl) .nil) rfl (st_seln 1 [0] 1 rfl rfl rfl)
                      · replace H := Gets.ct H c818
                        refine Dv.mv rfl ⟨_, _, rfl, rfl, rfl⟩ rfl ?_
                        refine Dv.pickT rfl trivial rfl rfl ?_
                        refine mv0 rfl rfl ?_
                        cases c819 : (a0.fSpan == 0)
                        · replace H := Gets.cf H c819
                          refine sk rfl rfl rfl rfl rfl ?_
                          refine sk rfl rfl rfl rfl rfl ?_
                          refine sk rfl rfl rfl rfl rfl ?_
                          refine Dv.pickF rfl trivial rfl rfl ?_
                          refine mv0 rfl rfl ?_
                          refine sk rfl rfl rfl rfl rfl ?_
                          refine sk rfl rfl rfl rfl rfl ?_
                          refine sk rfl rfl rfl rfl rfl ?_
                          refine Dv.pickF rfl trivial rfl rfl ?_
                          refine mv0 rfl rfl ?_
                          refine sk rfl rfl rfl rfl rfl ?_
                          refine sk rfl rfl rfl rfl rfl ?_
                          refine sk rfl rfl rfl rfl rfl ?_
                          refine Dv.pickF rfl trivial rfl rfl ?_
                          refine mv0 rfl rfl ?_
                          refine sk rfl rfl rfl rfl rfl ?_
                          refine sk rfl rfl rfl rfl rfl ?_
                          refine sk rfl rfl rfl rfl rfl ?_
                          refine Dv.pickF rfl trivial rfl rfl ?_
                          refine as0 rfl rfl ?_
                          refine .fin ?_
                          obtain rfl := Gets.out H
                          exact WP.retL (fun _ _ h => h) rfl () trivial (.cons (res_tmp rfl) .nil) rfl (st_seln 1 [0] 1 rfl rfl rfl)
                        · replace H := Gets.ct H c819
                          refine Dv.fab rfl ⟨_, _, rfl, rfl, rfl⟩ rfl Tryz.underlying32 rfl Tryz.underlying9 c9 (by decide) ?_
                          refine Dv.ldb rfl ⟨_, _, rfl, rfl, rfl⟩ rfl Tryz.underlying9 rfl (mem_at 0 rfl) rfl ?_
                          refine Dv.bin rfl ⟨_, _, rfl, rfl, rfl⟩ rfl rfl (fun _ => run_seq) ?_
                          refine Dv.pickT rfl trivial rfl rfl ?_
                          refine mv0 rfl rfl ?_
                          cases c820 : decide (a0.fEvent = (⟨#[]⟩ : ByteArray))
                          · replace H := Gets.cf H c820
                            refine sk rfl rfl rfl rfl rfl ?_
                            refine sk rfl rfl rfl rfl rfl ?_
                            refine sk rfl rfl rfl rfl rfl ?_
                            refine Dv.pickF rfl trivial rfl rfl ?_
                            refine mv0 rfl rfl ?_
                            refine sk rfl rfl rfl rfl rfl ?_
                            refine sk rfl rfl rfl rfl rfl ?_
                            refine sk rfl rfl rfl rfl rfl ?_
                            refine Dv.pickF rfl trivial rfl rfl ?_
                            refine mv0 rfl rfl ?_
                            refine sk rfl rfl rfl rfl rfl ?_
                            refine sk rfl rfl rfl rfl rfl ?_
                            refine sk rfl rfl rfl rfl rfl ?_
                            refine Dv.pickF rfl trivial rfl rfl ?_
                            refine as0 rfl rfl ?_
                            refine .fin ?_
                            obtain rfl := Gets.out H
                            exact WP.retL (fun _ _ h => h) rfl () trivial (.cons (res_tmp rfl) .nil) rfl (st_seln 1 [0] 1 rfl rfl rfl)
                          · replace H := Gets.ct H c820
                            refine Dv.fab rfl ⟨_, _, rfl, rfl, rfl⟩ rfl Tryz.underlying32 rfl Tryz.underlying9 c9 (by decide) ?_
                            refine Dv.ldb rfl ⟨_, _, rfl, rfl, rfl⟩ rfl Tryz.underlying9 rfl (mem_at 0 rfl) rfl ?_
                            refine Dv.bin rfl ⟨_, _, rfl, rfl, rfl⟩ rfl rfl (fun _ => run_seq) ?_
                            refine Dv.pickT rfl trivial rfl rfl ?_
                            refine mv0 rfl rfl ?_
                            cases c821 : decide (a0.fThread = (⟨#[]⟩ : ByteArray))
                            · replace H := Gets.cf H c821
                              refine sk rfl rfl rfl rfl rfl ?_
                              refine sk rfl rfl rfl rfl rfl ?_
                              refine sk rfl rfl rfl rfl rfl ?_
                              refine Dv.pickF rfl trivial rfl rfl ?_
                              refine mv0 rfl rfl ?_
                              refine sk rfl rfl rfl rfl rfl ?_
                              refine sk rfl rfl rfl rfl rfl ?_
                              refine sk rfl rfl rfl rfl rfl ?_
                              refine Dv.pickF rfl trivial rfl rfl ?_
                              refine as0 rfl rfl ?_
                              refine .fin ?_
                              obtain rfl := Gets.out H
                              exact WP.retL (fun _ _ h => h) rfl () trivial (.cons (res_tmp rfl) .nil) rfl (st_seln 1 [0] 1 rfl rfl rfl)
                            · replace H := Gets.ct H c821
                              refine Dv.fab rfl ⟨_, _, rfl, rfl, rfl⟩ rfl Tryz.underlying32 rfl Tryz.underlying3 c3 (by decide) ?_
                              refine Dv.ldb rfl ⟨_, _, rfl, rfl, rfl⟩ rfl Tryz.underlying3 rfl (mem_at 0 rfl) rfl ?_
                              refine Dv.bin rfl ⟨_, _, rfl, rfl, rfl⟩ rfl rfl (fun _ => run_eq) ?_
                              refine Dv.pickT rfl trivial rfl rfl ?_
                              refine mv0 rfl rfl ?_
                              cases c822 : (a0.fState == 0)
                              · replace H := Gets.cf H c822
                                refine sk rfl rfl rfl rfl rfl ?_
                                refine sk rfl rfl rfl rfl rfl ?_
                                refine sk rfl rfl rfl rfl rfl ?_
                                refine Dv.pickF rfl trivial rfl rfl ?_
                                refine as0 rfl rfl ?_
                                refine .fin ?_
                                obtain rfl := Gets.out H
                                exact WP.retL (fun _ _ h => h) rfl () trivial (.cons (res_tmp rfl) .nil) rfl (st_seln 1 [0] 1 rfl rfl rfl)
                              · replace H := Gets.ct H c822
                                refine Dv.fab rfl ⟨_, _, rfl, rfl, rfl⟩ rfl Tryz.underlying32 rfl Tryz.underlying4 c4 (by decide) ?_
                                refine Dv.ldb rfl ⟨_, _, rfl, rfl, rfl⟩ rfl Tryz.underlying4 rfl (mem_at 0 rfl) rfl ?_
                                refine Dv.un rfl ⟨_, _, rfl, rfl, rfl⟩ rfl (fun _ => run_not _) ?_
                                refine Dv.pickT rfl trivial rfl rfl ?_
                                refine as0 rfl rfl ?_
                                refine .fin ?_
                                obtain rfl := Gets.out H
                                exact WP.retL (fun _ _ h => h) rfl () trivial (.cons (res_tmp rfl) .nil) rfl (st_seln 1 [0] 1 rfl rfl rfl)
                  · replace H := Gets.ct H c804
                    refine Dv.fab rfl ⟨_, _, rfl, rfl, rfl⟩ rfl Tryz.underlying32 rfl Tryz.underlying3 c3 (by decide) ?_
                    refine Dv.ldb rfl ⟨_, _, rfl, rfl, rfl⟩ rfl Tryz.underlying3 rfl (mem_at 0 rfl) rfl ?_
                    refine Dv.bin rfl ⟨_, _, rfl, rfl, rfl⟩ rfl rfl (fun _ => run_le) ?_
                    refine Dv.pickT rfl trivial rfl rfl ?_
                    refine mv0 rfl rfl ?_
                    cases c805 : decide (a0.fSpan ≤ 60)
                    · replace H := Gets.cf H c805
                      refine Dv.fab rfl ⟨_, _, rfl, rfl, rfl⟩ rfl Tryz.underlying32 rfl Tryz.underlying4 c4 (by decide) ?_
                      refine Dv.ldb rfl ⟨_, _, rfl, rfl, rfl⟩ rfl Tryz.underlying4 rfl (mem_at 0 rfl) rfl ?_
                      refine Dv.un rfl ⟨_, _, rfl, rfl, rfl⟩ rfl (fun _ => run_not _) ?_
                      refine Dv.mv rfl ⟨_, _, rfl, rfl, rfl⟩ rfl ?_
                      cases c810 : !a0.fOn
                      · replace H := Gets.cf H c810
                        refine sk rfl rfl rfl rfl rfl ?_
                        refine sk rfl rfl rfl rfl rfl ?_
                        refine sk rfl rfl rfl rfl rfl ?_
                        refine Dv.pickF rfl ⟨_, _, rfl, rfl, rfl⟩ rfl rfl ?_
                        refine Dv.pickF rfl trivial rfl rfl ?_
                        refine as0 rfl rfl ?_
                        refine .fin ?_
                        refine WP.seq ?_
                        refine WP.reg [(0, false), (1, false), (2, false), (3, false), (4, false), (5, false), (6, false), (7, false), (8, false), (9, false), (10, false), (11, false), (12, false), (13, false), (14, false), (15, false), (16, false), (17, false), (18, false), (19, false), (20, false), (21, false), (22, false), (23, false), (24, false)] (by kernel_rfl) ?_
                        refine mv0 rfl rfl ?_
                        refine mv0 rfl rfl ?_
                        cases c816 : t781
                        · replace H := Gets.cf H c816
                          refine sk rfl rfl rfl rfl rfl ?_
                          refine Dv.pickF rfl trivial rfl rfl ?_
                          refine mv0 rfl rfl ?_
                          refine sk rfl rfl rfl rfl rfl ?_
                          refine sk rfl rfl rfl rfl rfl ?_
                          refine sk rfl rfl rfl rfl rfl ?_
                          refine Dv.pickF rfl trivial rfl rfl ?_
                          refine mv0 rfl rfl ?_
                          refine sk rfl rfl rfl rfl rfl ?_
                          refine sk rfl rfl rfl rfl rfl ?_
                          refine sk rfl rfl rfl rfl rfl ?_
                          refine Dv.pickF rfl trivial rfl rfl ?_
                          refine mv0 rfl rfl ?_
                          refine sk rfl rfl rfl rfl rfl ?_
                          refine sk rfl rfl rfl rfl rfl ?_
                          refine sk rfl rfl rfl rfl rfl ?_
                          refine Dv.pickF rfl trivial rfl rfl ?_
                          refine mv0 rfl rfl ?_
                          refine sk rfl rfl rfl rfl rfl ?_
                          refine sk rfl rfl rfl rfl rfl ?_
                          refine sk rfl rfl rfl rfl rfl ?_
                          refine Dv.pickF rfl trivial rfl rfl ?_
                          refine as0 rfl rfl ?_
                          refine .fin ?_
                          obtain rfl := Gets.out H
                          exact WP.retL (fun _ _ h => h) rfl () trivial (.cons (res_tmp rfl) .nil) rfl (st_seln 1 [0] 1 rfl rfl rfl)
                        · replace H := Gets.ct H c816
                          refine Dv.mv rfl ⟨_, _, rfl, rfl, rfl⟩ rfl ?_
                          refine Dv.pickT rfl trivial rfl rfl ?_
                          refine mv0 rfl rfl ?_
                          refine sk rfl rfl rfl rfl rfl ?_
                          refine sk rfl rfl rfl rfl rfl ?_
                          refine sk rfl rfl rfl rfl rfl ?_
                          refine Dv.pickF rfl trivial rfl rfl ?_
                          refine mv0 rfl rfl ?_
                          refine sk rfl rfl rfl rfl rfl ?_
                          refine sk rfl rfl rfl rfl rfl ?_
                          refine sk rfl rfl rfl rfl rfl ?_
                          refine Dv.pickF rfl trivial rfl rfl ?_
                          refine mv0 rfl rfl ?_
                          refine sk rfl rfl rfl rfl rfl ?_
                          refine sk rfl rfl rfl rfl rfl ?_
                          refine sk rfl rfl rfl rfl rfl ?_
                          refine Dv.pickF rfl trivial rfl rfl ?_
                          refine mv0 rfl rfl ?_
                          refine sk rfl rfl rfl rfl rfl ?_
                          refine sk rfl rfl rfl rfl rfl ?_
                          refine sk rfl rfl rfl rfl rfl ?_
                          refine Dv.pickF rfl trivial rfl rfl ?_
                          refine as0 rfl rfl ?_
                          refine .fin ?_
                          obtain rfl := Gets.out H
                          exact WP.retL (fun _ _ h => h) rfl () trivial (.cons (res_tmp rfl) .nil) rfl (st_seln 1 [0] 1 rfl rfl rfl)
                      · replace H := Gets.ct H c810
                        refine Dv.fab rfl ⟨_, _, rfl, rfl, rfl⟩ rfl Tryz.underlying32 rfl Tryz.underlying3 c3 (by decide) ?_
                        refine Dv.ldb rfl ⟨_, _, rfl, rfl, rfl⟩ rfl Tryz.underlying3 rfl (mem_at 0 rfl) rfl ?_
                        refine Dv.bin rfl ⟨_, _, rfl, rfl, rfl⟩ rfl rfl (fun _ => run_eq) ?_
                        refine Dv.pickT rfl ⟨_, _, rfl, rfl, rfl⟩ rfl rfl ?_
                        refine Dv.pickF rfl trivial rfl rfl ?_
                        refine as0 rfl rfl ?_
                        refine .fin ?_
                        refine WP.seq ?_
                        refine WP.reg [(0, false), (1, false), (2, false), (3, false), (4, false), (5, false), (6, false), (7, false), (8, false), (9, false), (10, false), (11, false), (12, false), (13, false), (14, false), (15, false), (16, false), (17, false), (18, false), (19, false), (20, false), (21, false), (22, false), (23, false), (24, false)] (by kernel_rfl) ?_
                        refine mv0 rfl rfl ?_
                        refine mv0 rfl rfl ?_
                        cases c811 : t781
                        · replace H := Gets.cf H c811
                          refine sk rfl rfl rfl rfl rfl ?_
                          refine Dv.pickF rfl trivial rfl rfl ?_
                          refine mv0 rfl rfl ?_
                          refine sk rfl rfl rfl rfl rfl ?_
                          refine sk rfl rfl rfl rfl rfl ?_
                          refine sk rfl rfl rfl rfl rfl ?_
                          refine Dv.pickF rfl trivial rfl rfl ?_
                          refine mv0 rfl rfl ?_
                          refine sk rfl rfl rfl rfl rfl ?_
                          refine sk rfl rfl rfl rfl rfl ?_
                          refine sk rfl rfl rfl rfl rfl ?_
                          refine Dv.pickF rfl trivial rfl rfl ?_
                          refine mv0 rfl rfl ?_
                          refine sk rfl rfl rfl rfl rfl ?_
                          refine sk rfl rfl rfl rfl rfl ?_
                          refine sk rfl rfl rfl rfl rfl ?_
                          refine Dv.pickF rfl trivial rfl rfl ?_
                          refine mv0 rfl rfl ?_
                          refine sk rfl rfl rfl rfl rfl ?_
                          refine sk rfl rfl rfl rfl rfl ?_
                          refine sk rfl rfl rfl rfl rfl ?_
                          refine Dv.pickF rfl trivial rfl rfl ?_
                          refine as0 rfl rfl ?_
                          refine .fin ?_
                          obtain rfl := Gets.out H
                          exact WP.retL (fun _ _ h => h) rfl () trivial (.cons (res_tmp rfl) .nil) rfl (st_seln 1 [0] 1 rfl rfl rfl)
                        · replace H := Gets.ct H c811
                          refine Dv.mv rfl ⟨_, _, rfl, rfl, rfl⟩ rfl ?_
                          refine Dv.pickT rfl trivial rfl rfl ?_
                          refine mv0 rfl rfl ?_
                          cases c812 : (a0.fSpan == 0)
                          · replace H := Gets.cf H c812
                            refine sk rfl rfl rfl rfl rfl ?_
                            refine sk rfl rfl rfl rfl rfl ?_
                            refine sk rfl rfl rfl rfl rfl ?_
                            refine Dv.pickF rfl trivial rfl rfl ?_
                            refine mv0 rfl rfl ?_
                            refine sk rfl rfl rfl rfl rfl ?_
                            refine sk rfl rfl rfl rfl rfl ?_
                            refine sk rfl rfl rfl rfl rfl ?_
                            refine Dv.pickF rfl trivial rfl rfl ?_
                            refine mv0 rfl rfl ?_
                            refine sk rfl rfl rfl rfl rfl ?_
                            refine sk rfl rfl rfl rfl rfl ?_
                            refine sk rfl rfl rfl rfl rfl ?_
                            refine Dv.pickF rfl trivial rfl rfl ?_
                            refine mv0 rfl rfl ?_
                            refine sk rfl rfl rfl rfl rfl ?_
                            refine sk rfl rfl rfl rfl rfl ?_
                            refine sk rfl rfl rfl rfl rfl ?_
                            refine Dv.pickF rfl trivial rfl rfl ?_
                            refine as0 rfl rfl ?_
                            refine .fin ?_
                            obtain rfl := Gets.out H
                            exact WP.retL (fun _ _ h => h) rfl () trivial (.cons (res_tmp rfl) .nil) rfl (st_seln 1 [0] 1 rfl rfl rfl)
                          · replace H := Gets.ct H c812
                            refine Dv.fab rfl ⟨_, _, rfl, rfl, rfl⟩ rfl Tryz.underlying32 rfl Tryz.underlying9 c9 (by decide) ?_
                            refine Dv.ldb rfl ⟨_, _, rfl, rfl, rfl⟩ rfl Tryz.underlying9 rfl (mem_at 0 rfl) rfl ?_
                            refine Dv.bin rfl ⟨_, _, rfl, rfl, rfl⟩ rfl rfl (fun _ => run_seq) ?_
                            refine Dv.pickT rfl trivial rfl rfl ?_
                            refine mv0 rfl rfl ?_
                            cases c813 : decide (a0.fEvent = (⟨#[]⟩ : ByteArray))
                            · replace H := Gets.cf H c813
                              refine sk rfl rfl rfl rfl rfl ?_
                              refine sk rfl rfl rfl rfl rfl ?_
                              refine sk rfl rfl rfl rfl rfl ?_
                              refine Dv.pickF rfl trivial rfl rfl ?_
                              refine mv0 rfl rfl ?_
                              refine sk rfl rfl rfl rfl rfl ?_
                              refine sk rfl rfl rfl rfl rfl ?_
                              refine sk rfl rfl rfl rfl rfl ?_
                              refine Dv.pickF rfl trivial rfl rfl ?_
                              refine mv0 rfl rfl ?_
                              refine sk rfl rfl rfl rfl rfl ?_
                              refine sk rfl rfl rfl rfl rfl ?_
                              refine sk rfl rfl rfl rfl rfl ?_
                              refine Dv.pickF rfl trivial rfl rfl ?_
                              refine as0 rfl rfl ?_
                              refine .fin ?_
                              obtain rfl := Gets.out H
                              exact WP.retL (fun _ _ h => h) rfl () trivial (.cons (res_tmp rfl) .nil) rfl (st_seln 1 [0] 1 rfl rfl rfl)
                            · replace H := Gets.ct H c813
                              refine Dv.fab rfl ⟨_, _, rfl, rfl, rfl⟩ rfl Tryz.underlying32 rfl Tryz.underlying9 c9 (by decide) ?_
                              refine Dv.ldb rfl ⟨_, _, rfl, rfl, rfl⟩ rfl Tryz.underlying9 rfl (mem_at 0 rfl) rfl ?_
                              refine Dv.bin rfl ⟨_, _, rfl, rfl, rfl⟩ rfl rfl (fun _ => run_seq) ?_
                              refine Dv.pickT rfl trivial rfl rfl ?_
                              refine mv0 rfl rfl ?_
                              cases c814 : decide (a0.fThread = (⟨#[]⟩ : ByteArray))
                              · replace H := Gets.cf H c814
                                refine sk rfl rfl rfl rfl rfl ?_
                                refine sk rfl rfl rfl rfl rfl ?_
                                refine sk rfl rfl rfl rfl rfl ?_
                                refine Dv.pickF rfl trivial rfl rfl ?_
                                refine mv0 rfl rfl ?_
                                refine sk rfl rfl rfl rfl rfl ?_
                                refine sk rfl rfl rfl rfl rfl ?_
                                refine sk rfl rfl rfl rfl rfl ?_
                                refine Dv.pickF rfl trivial rfl rfl ?_
                                refine as0 rfl rfl ?_
                                refine .fin ?_
                                obtain rfl := Gets.out H
                                exact WP.retL (fun _ _ h => h) rfl () trivial (.cons (res_tmp rfl) .nil) rfl (st_seln 1 [0] 1 rfl rfl rfl)
                              · replace H := Gets.ct H c814
                                refine Dv.fab rfl ⟨_, _, rfl, rfl, rfl⟩ rfl Tryz.underlying32 rfl Tryz.underlying3 c3 (by decide) ?_
                                refine Dv.ldb rfl ⟨_, _, rfl, rfl, rfl⟩ rfl Tryz.underlying3 rfl (mem_at 0 rfl) rfl ?_
                                refine Dv.bin rfl ⟨_, _, rfl, rfl, rfl⟩ rfl rfl (fun _ => run_eq) ?_
                                refine Dv.pickT rfl trivial rfl rfl ?_
                                refine mv0 rfl rfl ?_
                                cases c815 : (a0.fState == 0)
                                · replace H := Gets.cf H c815
                                  refine sk rfl rfl rfl rfl rfl ?_
                                  refine sk rfl rfl rfl rfl rfl ?_
                                  refine sk rfl rfl rfl rfl rfl ?_
                                  refine Dv.pickF rfl trivial rfl rfl ?_
                                  refine as0 rfl rfl ?_
                                  refine .fin ?_
                                  obtain rfl := Gets.out H
                                  exact WP.retL (fun _ _ h => h) rfl () trivial (.cons (res_tmp rfl) .nil) rfl (st_seln 1 [0] 1 rfl rfl rfl)
                                · replace H := Gets.ct H c815
                                  refine Dv.fab rfl ⟨_, _, rfl, rfl, rfl⟩ rfl Tryz.underlying32 rfl Tryz.underlying4 c4 (by decide) ?_
                                  refine Dv.ldb rfl ⟨_, _, rfl, rfl, rfl⟩ rfl Tryz.underlying4 rfl (mem_at 0 rfl) rfl ?_
                                  refine Dv.un rfl ⟨_, _, rfl, rfl, rfl⟩ rfl (fun _ => run_not _) ?_
                                  refine Dv.pickT rfl trivial rfl rfl ?_
                                  refine as0 rfl rfl ?_
                                  refine .fin ?_
                                  obtain rfl := Gets.out H
                                  exact WP.retL (fun _ _ h => h) rfl () trivial (.cons (res_tmp rfl) .nil) rfl (st_seln 1 [0] 1 rfl rfl rfl)
                    · replace H := Gets.ct H c805
                      refine sk rfl rfl rfl rfl rfl ?_
                      refine sk rfl rfl rfl rfl rfl ?_
                      refine sk rfl rfl rfl rfl rfl ?_
                      refine sk rfl rfl rfl rfl rfl ?_
                      refine Dv.skip rfl ⟨_, _, rfl, rfl, .inr rfl⟩ ?_
                      refine Dv.skip rfl ⟨_, _, rfl, rfl, .inr rfl⟩ ?_
                      refine Dv.skip rfl ⟨_, _, rfl, rfl, .inr rfl⟩ ?_
                      refine sk rfl rfl rfl rfl rfl ?_
                      refine Dv.pickT rfl trivial rfl rfl ?_
                      refine as0 rfl rfl ?_
                      refine .fin ?_
                      refine WP.seq ?_
                      refine WP.reg [(0, false), (1, false), (2, false), (3, false), (4, false), (5, false), (6, false), (7, false), (8, false), (9, false), (10, false), (11, false), (12, false), (13, false), (14, false), (15, false), (16, false), (17, false), (18, false), (19, false), (20, false), (21, false), (22, false), (23, false), (24, false)] (by kernel_rfl) ?_
                      refine mv0 rfl rfl ?_
                      refine mv0 rfl rfl ?_
                      cases c806 : t781
                      · replace H := Gets.cf H c806
                        refine sk rfl rfl rfl rfl rfl ?_
                        refine Dv.pickF rfl trivial rfl rfl ?_
                        refine mv0 rfl rfl ?_
                        refine sk rfl rfl rfl rfl rfl ?_
                        refine sk rfl rfl rfl rfl rfl ?_
                        refine sk rfl rfl rfl rfl rfl ?_
                        refine Dv.pickF rfl trivial rfl rfl ?_
                        refine mv0 rfl rfl ?_
                        refine sk rfl rfl rfl rfl rfl ?_
                        refine sk rfl rfl rfl rfl rfl ?_
                        refine sk rfl rfl rfl rfl rfl ?_
                        refine Dv.pickF rfl trivial rfl rfl ?_
                        refine mv0 rfl rfl ?_
                        refine sk rfl rfl rfl rfl rfl ?_
                        refine sk rfl rfl rfl rfl rfl ?_
                        refine sk rfl rfl rfl rfl rfl ?_
                        refine Dv.pickF rfl trivial rfl rfl ?_
                        refine mv0 rfl rfl ?_
                        refine sk rfl rfl rfl rfl rfl ?_
                        refine sk rfl rfl rfl rfl rfl ?_
                        refine sk rfl rfl rfl rfl rfl ?_
                        refine Dv.pickF rfl trivial rfl rfl ?_
                        refine as0 rfl rfl ?_
                        refine .fin ?_
                        obtain rfl := Gets.out H
                        exact WP.retL (fun _ _ h => h) rfl () trivial (.cons (res_tmp rfl) .nil) rfl (st_seln 1 [0] 1 rfl rfl rfl)
                      · replace H := Gets.ct H c806
                        refine Dv.mv rfl ⟨_, _, rfl, rfl, rfl⟩ rfl ?_
                        refine Dv.pickT rfl trivial rfl rfl ?_
                        refine mv0 rfl rfl ?_
                        refine Dv.fab rfl ⟨_, _, rfl, rfl, rfl⟩ rfl Tryz.underlying32 rfl Tryz.underlying9 c9 (by decide) ?_
                        refine Dv.ldb rfl ⟨_, _, rfl, rfl, rfl⟩ rfl Tryz.underlying9 rfl (mem_at 0 rfl) rfl ?_
                        refine Dv.bin rfl ⟨_, _, rfl, rfl, rfl⟩ rfl rfl (fun _ => run_seq) ?_
                        refine Dv.pickT rfl trivial rfl rfl ?_
                        refine mv0 rfl rfl ?_
                        cases c807 : decide (a0.fEvent = (⟨#[]⟩ : ByteArray))
                        · replace H := Gets.cf H c807
                          refine sk rfl rfl rfl rfl rfl ?_
                          refine sk rfl rfl rfl rfl rfl ?_
                          refine sk rfl rfl rfl rfl rfl ?_
                          refine Dv.pickF rfl trivial rfl rfl ?_
                          refine mv0 rfl rfl ?_
                          refine sk rfl rfl rfl rfl rfl ?_
                          refine sk rfl rfl rfl rfl rfl ?_
                          refine sk rfl rfl rfl rfl rfl ?_
                          refine Dv.pickF rfl trivial rfl rfl ?_
                          refine mv0 rfl rfl ?_
                          refine sk rfl rfl rfl rfl rfl ?_
                          refine sk rfl rfl rfl rfl rfl ?_
                          refine sk rfl rfl rfl rfl rfl ?_
                          refine Dv.pickF rfl trivial rfl rfl ?_
                          refine as0 rfl rfl ?_
                          refine .fin ?_
                          obtain rfl := Gets.out H
                          exact WP.retL (fun _ _ h => h) rfl () trivial (.cons (res_tmp rfl) .nil) rfl (st_seln 1 [0] 1 rfl rfl rfl)
                        · replace H := Gets.ct H c807
                          refine Dv.fab rfl ⟨_, _, rfl, rfl, rfl⟩ rfl Tryz.underlying32 rfl Tryz.underlying9 c9 (by decide) ?_
                          refine Dv.ldb rfl ⟨_, _, rfl, rfl, rfl⟩ rfl Tryz.underlying9 rfl (mem_at 0 rfl) rfl ?_
                          refine Dv.bin rfl ⟨_, _, rfl, rfl, rfl⟩ rfl rfl (fun _ => run_seq) ?_
                          refine Dv.pickT rfl trivial rfl rfl ?_
                          refine mv0 rfl rfl ?_
                          cases c808 : decide (a0.fThread = (⟨#[]⟩ : ByteArray))
                          · replace H := Gets.cf H c808
                            refine sk rfl rfl rfl rfl rfl ?_
                            refine sk rfl rfl rfl rfl rfl ?_
                            refine sk rfl rfl rfl rfl rfl ?_
                            refine Dv.pickF rfl trivial rfl rfl ?_
                            refine mv0 rfl rfl ?_
                            refine sk rfl rfl rfl rfl rfl ?_
                            refine sk rfl rfl rfl rfl rfl ?_
                            refine sk rfl rfl rfl rfl rfl ?_
                            refine Dv.pickF rfl trivial rfl rfl ?_
                            refine as0 rfl rfl ?_
                            refine .fin ?_
                            obtain rfl := Gets.out H
                            exact WP.retL (fun _ _ h => h) rfl () trivial (.cons (res_tmp rfl) .nil) rfl (st_seln 1 [0] 1 rfl rfl rfl)
                          · replace H := Gets.ct H c808
                            refine Dv.fab rfl ⟨_, _, rfl, rfl, rfl⟩ rfl Tryz.underlying32 rfl Tryz.underlying3 c3 (by decide) ?_
                            refine Dv.ldb rfl ⟨_, _, rfl, rfl, rfl⟩ rfl Tryz.underlying3 rfl (mem_at 0 rfl) rfl ?_
                            refine Dv.bin rfl ⟨_, _, rfl, rfl, rfl⟩ rfl rfl (fun _ => run_eq) ?_
                            refine Dv.pickT rfl trivial rfl rfl ?_
                            refine mv0 rfl rfl ?_
                            cases c809 : (a0.fState == 0)
                            · replace H := Gets.cf H c809
                              refine sk rfl rfl rfl rfl rfl ?_
                              refine sk rfl rfl rfl rfl rfl ?_
                              refine sk rfl rfl rfl rfl rfl ?_
                              refine Dv.pickF rfl trivial rfl rfl ?_
                              refine as0 rfl rfl ?_
                              refine .fin ?_
                              obtain rfl := Gets.out H
                              exact WP.retL (fun _ _ h => h) rfl () trivial (.cons (res_tmp rfl) .nil) rfl (st_seln 1 [0] 1 rfl rfl rfl)
                            · replace H := Gets.ct H c809
                              refine Dv.fab rfl ⟨_, _, rfl, rfl, rfl⟩ rfl Tryz.underlying32 rfl Tryz.underlying4 c4 (by decide) ?_
                              refine Dv.ldb rfl ⟨_, _, rfl, rfl, rfl⟩ rfl Tryz.underlying4 rfl (mem_at 0 rfl) rfl ?_
                              refine Dv.un rfl ⟨_, _, rfl, rfl, rfl⟩ rfl (fun _ => run_not _) ?_
                              refine Dv.pickT rfl trivial rfl rfl ?_
                              refine as0 rfl rfl ?_
                              refine .fin ?_
                              obtain rfl := Gets.out H
                              exact WP.retL (fun _ _ h => h) rfl () trivial (.cons (res_tmp rfl) .nil) rfl (st_seln 1 [0] 1 rfl rfl rfl)
              · replace H := Gets.cf H c802
                refine WP.seq ?_
                refine WP.reg [(0, false), (1, false)] (by kernel_rfl) ?_
                refine Dv.bin rfl trivial rfl rfl (fun _ => run_eq) ?_
                refine as0 rfl rfl ?_
                refine .fin ?_
                refine WP.cond rfl (fun c831 => ?_) (fun c831 => ?_)
                · replace H := Gets.ct H c831
                  refine WP.seq ?_
                  refine WP.reg [(0, false), (1, false), (2, false), (3, false), (4, false), (5, false), (6, false), (7, false), (8, false), (9, false), (10, false), (11, false), (12, false), (13, false), (14, false), (15, false), (16, false), (17, false), (18, false), (19, false), (20, false), (21, false), (22, false), (23, false), (24, false), (25, false), (26, false), (27, false), (28, false), (29, false), (30, false), (31, false), (32, false), (33, false), (34, false), (35, false), (36, false), (37, false), (38, false)] (by kernel_rfl) ?_
                  refine Dv.fab rfl trivial rfl Tryz.underlying32 rfl Tryz.underlying9 c9 (by decide) ?_
                  refine Dv.ldb rfl trivial rfl Tryz.underlying9 rfl (mem_at 0 rfl) rfl ?_
                  refine Dv.bin rfl trivial rfl rfl (fun _ => run_seq) ?_
                  refine mv0 rfl rfl ?_
                  cases c832 : decide (a0.fRoom = (⟨#[]⟩ : ByteArray))
                  · replace H := Gets.cf H c832
                    refine sk rfl rfl rfl rfl rfl ?_
                    refine sk rfl rfl rfl rfl rfl ?_
                    refine sk rfl rfl rfl rfl rfl ?_
                    refine Dv.pickF rfl trivial rfl rfl ?_
                    refine mv0 rfl rfl ?_
                    refine sk rfl rfl rfl rfl rfl ?_
                    refine sk rfl rfl rfl rfl rfl ?_
                    refine sk rfl rfl rfl rfl rfl ?_
                    refine Dv.pickF rfl trivial rfl rfl ?_
                    refine mv0 rfl rfl ?_
                    refine sk rfl rfl rfl rfl rfl ?_
                    refine sk rfl rfl rfl rfl rfl ?_
                    refine sk rfl rfl rfl rfl rfl ?_
                    refine Dv.pickF rfl trivial rfl rfl ?_
                    refine mv0 rfl rfl ?_
                    refine sk rfl rfl rfl rfl rfl ?_
                    refine sk rfl rfl rfl rfl rfl ?_
                    refine sk rfl rfl rfl rfl rfl ?_
                    refine Dv.pickF rfl trivial rfl rfl ?_
                    refine mv0 rfl rfl ?_
                    refine sk rfl rfl rfl rfl rfl ?_
                    refine sk rfl rfl rfl rfl rfl ?_
                    refine sk rfl rfl rfl rfl rfl ?_
                    refine Dv.pickF rfl trivial rfl rfl ?_
                    refine mv0 rfl rfl ?_
                    refine sk rfl rfl rfl rfl rfl ?_
                    refine sk rfl rfl rfl rfl rfl ?_
                    refine sk rfl rfl rfl rfl rfl ?_
                    refine Dv.pickF rfl trivial rfl rfl ?_
                    refine mv0 rfl rfl ?_
                    refine sk rfl rfl rfl rfl rfl ?_
                    refine sk rfl rfl rfl rfl rfl ?_
                    refine sk rfl rfl rfl rfl rfl ?_
                    refine Dv.pickF rfl trivial rfl rfl ?_
                    refine as0 rfl rfl ?_
                    refine .fin ?_
                    obtain rfl := Gets.out H
                    exact WP.retL (fun _ _ h => h) rfl () trivial (.cons (res_tmp rfl) .nil) rfl (st_seln 1 [0] 1 rfl rfl rfl)
                  · replace H := Gets.ct H c832
                    refine Dv.fab rfl ⟨_, _, rfl, rfl, rfl⟩ rfl Tryz.underlying32 rfl Tryz.underlying9 c9 (by decide) ?_
                    refine Dv.ldb rfl ⟨_, _, rfl, rfl, rfl⟩ rfl Tryz.underlying9 rfl (mem_at 0 rfl) rfl ?_
                    refine Dv.bin rfl ⟨_, _, rfl, rfl, rfl⟩ rfl rfl (fun _ => run_seq) ?_
                    refine Dv.pickT rfl trivial rfl rfl ?_
                    refine mv0 rfl rfl ?_
                    cases c833 : decide (a0.fEvent = (⟨#[]⟩ : ByteArray))
                    · replace H := Gets.cf H c833
                      refine sk rfl rfl rfl rfl rfl ?_
                      refine sk rfl rfl rfl rfl rfl ?_
                      refine sk rfl rfl rfl rfl rfl ?_
                      refine Dv.pickF rfl trivial rfl rfl ?_
                      refine mv0 rfl rfl ?_
                      refine sk rfl rfl rfl rfl rfl ?_
                      refine sk rfl rfl rfl rfl rfl ?_
                      refine sk rfl rfl rfl rfl rfl ?_
                      refine Dv.pickF rfl trivial rfl rfl ?_
                      refine mv0 rfl rfl ?_
                      refine sk rfl rfl rfl rfl rfl ?_
                      refine sk rfl rfl rfl rfl rfl ?_
                      refine sk rfl rfl rfl rfl rfl ?_
                      refine Dv.pickF rfl trivial rfl rfl ?_
                      refine mv0 rfl rfl ?_
                      refine sk rfl rfl rfl rfl rfl ?_
                      refine sk rfl rfl rfl rfl rfl ?_
                      refine sk rfl rfl rfl rfl rfl ?_
                      refine Dv.pickF rfl trivial rfl rfl ?_
                      refine mv0 rfl rfl ?_
                      refine sk rfl rfl rfl rfl rfl ?_
                      refine sk rfl rfl rfl rfl rfl ?_
                      refine sk rfl rfl rfl rfl rfl ?_
                      refine Dv.pickF rfl trivial rfl rfl ?_
                      refine mv0 rfl rfl ?_
                      refine sk rfl rfl rfl rfl rfl ?_
                      refine sk rfl rfl rfl rfl rfl ?_
                      refine sk rfl rfl rfl rfl rfl ?_
                      refine Dv.pickF rfl trivial rfl rfl ?_
                      refine as0 rfl rfl ?_
                      refine .fin ?_
                      obtain rfl := Gets.out H
                      exact WP.retL (fun _ _ h => h) rfl () trivial (.cons (res_tmp rfl) .nil) rfl (st_seln 1 [0] 1 rfl rfl rfl)
                    · replace H := Gets.ct H c833
                      refine Dv.fab rfl ⟨_, _, rfl, rfl, rfl⟩ rfl Tryz.underlying32 rfl Tryz.underlying9 c9 (by decide) ?_
                      refine Dv.ldb rfl ⟨_, _, rfl, rfl, rfl⟩ rfl Tryz.underlying9 rfl (mem_at 0 rfl) rfl ?_
                      refine Dv.bin rfl ⟨_, _, rfl, rfl, rfl⟩ rfl rfl (fun _ => run_seq) ?_
                      refine Dv.pickT rfl trivial rfl rfl ?_
                      refine mv0 rfl rfl ?_
                      cases c834 : decide (a0.fThread = (⟨#[]⟩ : ByteArray))
                      · replace H := Gets.cf H c834
                        refine sk rfl rfl rfl rfl rfl ?_
                        refine sk rfl rfl rfl rfl rfl ?_
                        refine sk rfl rfl rfl rfl rfl ?_
                        refine Dv.pickF rfl trivial rfl rfl ?_
                        refine mv0 rfl rfl ?_
                        refine sk rfl rfl rfl rfl rfl ?_
                        refine sk rfl rfl rfl rfl rfl ?_
                        refine sk rfl rfl rfl rfl rfl ?_
                        refine Dv.pickF rfl trivial rfl rfl ?_
                        refine mv0 rfl rfl ?_
                        refine sk rfl rfl rfl rfl rfl ?_
                        refine sk rfl rfl rfl rfl rfl ?_
                        refine sk rfl rfl rfl rfl rfl ?_
                        refine Dv.pickF rfl trivial rfl rfl ?_
                        refine mv0 rfl rfl ?_
                        refine sk rfl rfl rfl rfl rfl ?_
                        refine sk rfl rfl rfl rfl rfl ?_
                        refine sk rfl rfl rfl rfl rfl ?_
                        refine Dv.pickF rfl trivial rfl rfl ?_
                        refine mv0 rfl rfl ?_
                        refine sk rfl rfl rfl rfl rfl ?_
                        refine sk rfl rfl rfl rfl rfl ?_
                        refine sk rfl rfl rfl rfl rfl ?_
                        refine Dv.pickF rfl trivial rfl rfl ?_
                        refine as0 rfl rfl ?_
                        refine .fin ?_
                        obtain rfl := Gets.out H
                        exact WP.retL (fun _ _ h => h) rfl () trivial (.cons (res_tmp rfl) .nil) rfl (st_seln 1 [0] 1 rfl rfl rfl)
                      · replace H := Gets.ct H c834
                        refine Dv.fab rfl ⟨_, _, rfl, rfl, rfl⟩ rfl Tryz.underlying32 rfl Tryz.underlying4 c4 (by decide) ?_
                        refine Dv.ldb rfl ⟨_, _, rfl, rfl, rfl⟩ rfl Tryz.underlying4 rfl (mem_at 0 rfl) rfl ?_
                        refine Dv.un rfl ⟨_, _, rfl, rfl, rfl⟩ rfl (fun _ => run_not _) ?_
                        refine Dv.pickT rfl trivial rfl rfl ?_
                        refine mv0 rfl rfl ?_
                        cases c835 : !a0.fOn
                        · replace H := Gets.cf H c835
                          refine sk rfl rfl rfl rfl rfl ?_
                          refine sk rfl rfl rfl rfl rfl ?_
                          refine sk rfl rfl rfl rfl rfl ?_
                          refine Dv.pickF rfl trivial rfl rfl ?_
                          refine mv0 rfl rfl ?_
                          refine sk rfl rfl rfl rfl rfl ?_
                          refine sk rfl rfl rfl rfl rfl ?_
                          refine sk rfl rfl rfl rfl rfl ?_
                          refine Dv.pickF rfl trivial rfl rfl ?_
                          refine mv0 rfl rfl ?_
                          refine sk rfl rfl rfl rfl rfl ?_
                          refine sk rfl rfl rfl rfl rfl ?_
                          refine sk rfl rfl rfl rfl rfl ?_
                          refine Dv.pickF rfl trivial rfl rfl ?_
                          refine mv0 rfl rfl ?_
                          refine sk rfl rfl rfl rfl rfl ?_
                          refine sk rfl rfl rfl rfl rfl ?_
                          refine sk rfl rfl rfl rfl rfl ?_
                          refine Dv.pickF rfl trivial rfl rfl ?_
                          refine as0 rfl rfl ?_
                          refine .fin ?_
                          obtain rfl := Gets.out H
                          exact WP.retL (fun _ _ h => h) rfl () trivial (.cons (res_tmp rfl) .nil) rfl (st_seln 1 [0] 1 rfl rfl rfl)
                        · replace H := Gets.ct H c835
                          refine Dv.fab rfl ⟨_, _, rfl, rfl, rfl⟩ rfl Tryz.underlying32 rfl Tryz.underlying3 c3 (by decide) ?_
                          refine Dv.ldb rfl ⟨_, _, rfl, rfl, rfl⟩ rfl Tryz.underlying3 rfl (mem_at 0 rfl) rfl ?_
                          refine Dv.bin rfl ⟨_, _, rfl, rfl, rfl⟩ rfl rfl (fun _ => run_eq) ?_
                          refine Dv.pickT rfl trivial rfl rfl ?_
                          refine mv0 rfl rfl ?_
                          cases c836 : (a0.fSpan == 0)
                          · replace H := Gets.cf H c836
                            refine sk rfl rfl rfl rfl rfl ?_
                            refine sk rfl rfl rfl rfl rfl ?_
                            refine sk rfl rfl rfl rfl rfl ?_
                            refine Dv.pickF rfl trivial rfl rfl ?_
                            refine mv0 rfl rfl ?_
                            refine sk rfl rfl rfl rfl rfl ?_
                            refine sk rfl rfl rfl rfl rfl ?_
                            refine sk rfl rfl rfl rfl rfl ?_
                            refine Dv.pickF rfl trivial rfl rfl ?_
                            refine mv0 rfl rfl ?_
                            refine sk rfl rfl rfl rfl rfl ?_
                            refine sk rfl rfl rfl rfl rfl ?_
                            refine sk rfl rfl rfl rfl rfl ?_
                            refine Dv.pickF rfl trivial rfl rfl ?_
                            refine as0 rfl rfl ?_
                            refine .fin ?_
                            obtain rfl := Gets.out H
                            exact WP.retL (fun _ _ h => h) rfl () trivial (.cons (res_tmp rfl) .nil) rfl (st_seln 1 [0] 1 rfl rfl rfl)
                          · replace H := Gets.ct H c836
                            refine Dv.fab rfl ⟨_, _, rfl, rfl, rfl⟩ rfl Tryz.underlying32 rfl Tryz.underlying4 c4 (by decide) ?_
                            refine Dv.ldb rfl ⟨_, _, rfl, rfl, rfl⟩ rfl Tryz.underlying4 rfl (mem_at 0 rfl) rfl ?_
                            refine Dv.un rfl ⟨_, _, rfl, rfl, rfl⟩ rfl (fun _ => run_not _) ?_
                            refine Dv.pickT rfl trivial rfl rfl ?_
                            refine mv0 rfl rfl ?_
                            cases c837 : !a0.fPrivate
                            · replace H := Gets.cf H c837
                              refine sk rfl rfl rfl rfl rfl ?_
                              refine sk rfl rfl rfl rfl rfl ?_
                              refine sk rfl rfl rfl rfl rfl ?_
                              refine Dv.pickF rfl trivial rfl rfl ?_
                              refine mv0 rfl rfl ?_
                              refine sk rfl rfl rfl rfl rfl ?_
                              refine sk rfl rfl rfl rfl rfl ?_
                              refine sk rfl rfl rfl rfl rfl ?_
                              refine Dv.pickF rfl trivial rfl rfl ?_
                              refine as0 rfl rfl ?_
                              refine .fin ?_
                              obtain rfl := Gets.out H
                              exact WP.retL (fun _ _ h => h) rfl () trivial (.cons (res_tmp rfl) .nil) rfl (st_seln 1 [0] 1 rfl rfl rfl)
                            · replace H := Gets.ct H c837
                              refine Dv.fab rfl ⟨_, _, rfl, rfl, rfl⟩ rfl Tryz.underlying32 rfl Tryz.underlying3 c3 (by decide) ?_
                              refine Dv.ldb rfl ⟨_, _, rfl, rfl, rfl⟩ rfl Tryz.underlying3 rfl (mem_at 0 rfl) rfl ?_
                              refine Dv.bin rfl ⟨_, _, rfl, rfl, rfl⟩ rfl rfl (fun _ => run_ge) ?_
                              refine Dv.pickT rfl trivial rfl rfl ?_
                              refine mv0 rfl rfl ?_
                              cases c838 : decide (0 ≤ a0.fState)
                              · replace H := Gets.cf H c838
                                refine sk rfl rfl rfl rfl rfl ?_
                                refine sk rfl rfl rfl rfl rfl ?_
                                refine sk rfl rfl rfl rfl rfl ?_
                                refine Dv.pickF rfl trivial rfl rfl ?_
                                refine as0 rfl rfl ?_
                                refine .fin ?_
                                obtain rfl := Gets.out H
                                exact WP.retL (fun _ _ h => h) rfl () trivial (.cons (res_tmp rfl) .nil) rfl (st_seln 1 [0] 1 rfl rfl rfl)
                              · replace H := Gets.ct H c838
                                refine Dv.fab rfl ⟨_, _, rfl, rfl, rfl⟩ rfl Tryz.underlying32 rfl Tryz.underlying3 c3 (by decide) ?_
                                refine Dv.ldb rfl ⟨_, _, rfl, rfl, rfl⟩ rfl Tryz.underlying3 rfl (mem_at 0 rfl) rfl ?_
                                refine Dv.bin rfl ⟨_, _, rfl, rfl, rfl⟩ rfl rfl (fun _ => run_le) ?_
                                refine Dv.pickT rfl trivial rfl rfl ?_
                                refine as0 rfl rfl ?_
                                refine .fin ?_
                                obtain rfl := Gets.out H
                                exact WP.retL (fun _ _ h => h) rfl () trivial (.cons (res_tmp rfl) .nil) rfl (st_seln 1 [0] 1 rfl rfl rfl)
                · replace H := Gets.cf H c831
                  refine WP.skip ?_
                  refine WP.seq ?_
                  refine WP.reg [(0, false)] (by kernel_rfl) ?_
                  refine as0 rfl rfl ?_
                  refine .fin ?_
                  obtain rfl := Gets.out H
                  exact WP.retL (fun _ _ h => h) rfl () trivial (.cons (res_tmp rfl) .nil) rfl (st_seln 1 [0] 1 rfl rfl rfl)
        · replace H := Gets.ct H c793
          refine sk rfl rfl rfl rfl rfl ?_
          refine sk rfl rfl rfl rfl rfl ?_
          refine sk rfl rfl rfl rfl rfl ?_
          refine Dv.pickT rfl trivial rfl rfl ?_
          refine .fin ?_
          refine WP.cond rfl (fun _ => ?_) nofun
          refine WP.seq ?_
          refine WP.reg [(0, false)] (by kernel_rfl) ?_
          refine as0 rfl rfl ?_
          refine .fin ?_
          obtain rfl := Gets.out H
          exact WP.retL (fun _ _ h => h) rfl () trivial (.cons (res_tmp rfl) .nil) rfl (st_seln 1 [0] 1 rfl rfl rfl)
      · replace H := Gets.ct H c791
        refine sk rfl rfl rfl rfl rfl ?_
        refine sk rfl rfl rfl rfl rfl ?_
        refine sk rfl rfl rfl rfl rfl ?_
        refine Dv.pickT rfl trivial rfl rfl ?_
        refine mv0 rfl rfl ?_
        refine sk rfl rfl rfl rfl rfl ?_
        refine sk rfl rfl rfl rfl rfl ?_
        refine sk rfl rfl rfl rfl rfl ?_
        refine Dv.pickT rfl trivial rfl rfl ?_
        refine .fin ?_
        refine WP.cond rfl (fun _ => ?_) nofun
        refine WP.seq ?_
        refine WP.reg [(0, false)] (by kernel_rfl) ?_
        refine as0 rfl rfl ?_
        refine .fin ?_
        obtain rfl := Gets.out H
        exact WP.retL (fun _ _ h => h) rfl () trivial (.cons (res_tmp rfl) .nil) rfl (st_seln 1 [0] 1 rfl rfl rfl)
    · replace H := Gets.ct H c789
      refine sk rfl rfl rfl rfl rfl ?_
      refine sk rfl rfl rfl rfl rfl ?_
      refine sk rfl rfl rfl rfl rfl ?_
      refine Dv.pickT rfl trivial rfl rfl ?_
      refine mv0 rfl rfl ?_
      refine sk rfl rfl rfl rfl rfl ?_
      refine sk rfl rfl rfl rfl rfl ?_
      refine sk rfl rfl rfl rfl rfl ?_
      refine Dv.pickT rfl trivial rfl rfl ?_
      refine mv0 rfl rfl ?_
      refine sk rfl rfl rfl rfl rfl ?_
      refine sk rfl rfl rfl rfl rfl ?_
      refine sk rfl rfl rfl rfl rfl ?_
      refine Dv.pickT rfl trivial rfl rfl ?_
      refine .fin ?_
      refine WP.cond rfl (fun _ => ?_) nofun
      refine WP.seq ?_
      refine WP.reg [(0, false)] (by kernel_rfl) ?_
      refine as0 rfl rfl ?_
      refine .fin ?_
      obtain rfl := Gets.out H
      exact WP.retL (fun _ _ h => h) rfl () trivial (.cons (res_tmp rfl) .nil) rfl (st_seln 1 [0] 1 rfl rfl rfl)
  · replace H := Gets.ct H c787
    refine sk rfl rfl rfl rfl rfl ?_
    refine sk rfl rfl rfl rfl rfl ?_
    refine sk rfl rfl rfl rfl rfl ?_
    refine Dv.pickT rfl trivial rfl rfl ?_
    refine mv0 rfl rfl ?_
    refine sk rfl rfl rfl rfl rfl ?_
    refine sk rfl rfl rfl rfl rfl ?_
    refine sk rfl rfl rfl rfl rfl ?_
    refine Dv.pickT rfl trivial rfl rfl ?_
    refine mv0 rfl rfl ?_
    refine sk rfl rfl rfl rfl rfl ?_
    refine sk rfl rfl rfl rfl rfl ?_
    refine sk rfl rfl rfl rfl rfl ?_
    refine Dv.pickT rfl trivial rfl rfl ?_
    refine mv0 rfl rfl ?_
    refine sk rfl rfl rfl rfl rfl ?_
    refine sk rfl rfl rfl rfl rfl ?_
    refine sk rfl rfl rfl rfl rfl ?_
    refine Dv.pickT rfl trivial rfl rfl ?_
    refine .fin ?_
    refine WP.cond rfl (fun _ => ?_) nofun
    refine WP.seq ?_
    refine WP.reg [(0, false)] (by kernel_rfl) ?_
    refine as0 rfl rfl ?_
    refine .fin ?_
    obtain rfl := Gets.out H
    exact WP.retL (fun _ _ h => h) rfl () trivial (.cons (res_tmp rfl) .nil) rfl (st_seln 1 [0] 1 rfl rfl rfl)
theorem concourseref03_May.c {k : Nat} {a0 : Edu} {r : Bool} (h : concourseref03_May.f k a0 = some r) : Pt Tryz.prog 28 [agg (Edu.enc a0)] (eq (.bool r)) := by
  unfold concourseref03_May.f at h
  refine (Tr.body Tryz.func28 (c := _) rfl Tryz.ntmps28 (Nat.le_of_ble_eq_true rfl) fun R0 F => ?_).pt
  replace h := Gets.of h
  have H := h
  clear h
  refine WP.seq ?_
  refine WP.reg [(0, true), (1, false)] (by kernel_rfl) ?_
  refine Dv.box rfl trivial rfl (cells_agg (Edu.K.one _)) nofun (fun b839 => ?_)
  refine as0 rfl rfl ?_
  refine .fin ?_
  refine WP.seq ?_
  refine WP.reg [(0, false), (1, false), (2, false)] (by kernel_rfl) ?_
  refine Dv.ldbs rfl trivial rfl Tryz.underlying32 rfl c32 (mem_at 0 rfl) (Nat.le_of_ble_eq_true rfl) ?_
  obtain ⟨t840, h841, H⟩ := Gets.call H
  refine Dv.call rfl trivial cal46 rfl (concourseref03_Local.c h841) ?_
  refine as0 rfl rfl ?_
  refine .fin ?_
  refine WP.seq ?_
  refine WP.reg [(0, false), (1, false), (2, false), (3, false), (4, false), (5, false), (6, false)] (by kernel_rfl) ?_
  refine mv0 rfl rfl ?_
  refine mv0 rfl rfl ?_
  cases c842 : t840
  · replace H := Gets.cf H c842
    refine sk rfl rfl rfl rfl rfl ?_
    refine sk rfl rfl rfl rfl rfl ?_
    refine sk rfl rfl rfl rfl rfl ?_
    refine Dv.pickF rfl trivial rfl rfl ?_
    refine as0 rfl rfl ?_
    refine .fin ?_
    obtain rfl := Gets.out H
    exact WP.retL (fun _ _ h => h) rfl () trivial (.cons (res_tmp rfl) .nil) rfl (st_seln 1 [0] 1 rfl rfl rfl)
  · replace H := Gets.ct H c842
    refine Dv.fab rfl ⟨_, _, rfl, rfl, rfl⟩ rfl Tryz.underlying32 rfl Tryz.underlying4 c4 (by decide) ?_
    refine Dv.ldb rfl ⟨_, _, rfl, rfl, rfl⟩ rfl Tryz.underlying4 rfl (mem_at 0 rfl) rfl ?_
    refine Dv.un rfl ⟨_, _, rfl, rfl, rfl⟩ rfl (fun _ => run_not _) ?_
    refine Dv.pickT rfl trivial rfl rfl ?_
    refine as0 rfl rfl ?_
    refine .fin ?_
    obtain rfl := Gets.out H
    exact WP.retL (fun _ _ h => h) rfl () trivial (.cons (res_tmp rfl) .nil) rfl (st_seln 1 [0] 1 rfl rfl rfl)
theorem concourseref02_Number.c : ∀ (k : Nat) {a0 : Int} {r : (List Int)} (h : concourseref02_Number.f k a0 = some r), Tr Tryz.prog 67 [eq (.int .i64 a0)] [] (γ := OV) (fun _ => True) (fun g => eq g.1) (fun g => [own (intK .u8) g.1 r])
  | 0, _, _, h => by cases h
  | k + 1, a0, r, h => by
    rw [concourseref02_Number.f] at h
    refine Tr.body Tryz.func67 (c := _) rfl Tryz.ntmps67 (Nat.le_of_ble_eq_true rfl) fun R0 F => ?_
    replace h := Gets.of h
    have H := h
    clear h
    refine WP.seq ?_
    refine WP.reg [(0, false)] (by kernel_rfl) ?_
    refine as0 rfl rfl ?_
    refine .fin ?_
    refine WP.seqn H id (fun p843 : Int => [(0, eq (.int .i64 p843)), (2, eq (.slice none 0 0)), (5, eq (.bool (decide (a0 < 0))))]) (fun p843 : Int => [] ++ F) (fun p843 H => ?_) (fun H => ?_)
    · refine WP.seq ?_
      refine WP.seq ?_
      refine WP.reg [(0, false), (1, false)] (by kernel_rfl) ?_
      refine mv0 rfl rfl ?_
      refine Dv.bin rfl trivial rfl rfl (fun _ => run_lt) ?_
      refine .fin ?_
      refine WP.cond rfl (fun c844 => ?_) (fun c844 => ?_)
      · replace H := Gets.ct H c844
        refine WP.seq ?_
        refine WP.reg [(0, false), (1, false), (2, true), (3, false)] (by kernel_rfl) ?_
        refine mv0 rfl rfl ?_
        refine Dv.cvi rfl trivial rfl Tryz.underlying3 Tryz.underlying5 ?_
        refine Dv.lito (intK .u8) ([IntKind.u8.wrap (p843)] : List Int) (css := [[eq (.int .u8 (IntKind.u8.wrap (p843)))]]) rfl trivial Tryz.underlying82 Tryz.underlying5 c5 z5 rfl (by decide) (by decide) rfl ⟨(cells_one (one_eq rfl)), trivial⟩ rfl rfl rfl nofun (fun v845 => ?_)
        refine as0 rfl rfl ?_
        refine .fin ?_
        obtain rfl := Gets.out H
        exact WP.retL (fun _ _ h => h) rfl v845 trivial (.cons (res_tmp rfl) .nil) rfl (st_seln 1 [0] 0 rfl rfl rfl)
      · replace H := Gets.cf H c844
        refine WP.skip ?_
        refine WP.seq ?_
        refine WP.reg [(0, false), (1, false), (2, false), (3, false), (4, true), (5, false)] (by kernel_rfl) ?_
        refine mv0 rfl rfl ?_
        refine Dv.bin rfl trivial rfl rfl (fun _ => run_rem (by decide)) ?_
        refine Dv.bin rfl trivial rfl rfl (fun _ => run_add) ?_
        refine Dv.cvi rfl trivial rfl Tryz.underlying3 Tryz.underlying5 ?_
        refine Dv.lito (intK .u8) ([IntKind.u8.wrap (w64 (128 + (p843.tmod 128)))] : List Int) (css := [[eq (.int .u8 (IntKind.u8.wrap (w64 (128 + (p843.tmod 128)))))]]) rfl trivial Tryz.underlying82 Tryz.underlying5 c5 z5 rfl (by decide) (by decide) rfl ⟨(cells_one (one_eq rfl)), trivial⟩ rfl rfl rfl nofun (fun v846 => ?_)
        refine as0 rfl rfl ?_
        refine .fin ?_
        refine WP.seq ?_
        refine WP.reg [(0, false), (1, false), (2, false), (3, true), (4, true), (5, false)] (by kernel_rfl) ?_
        refine mv0 rfl rfl ?_
        refine mv0 rfl rfl ?_
        refine Dv.bin rfl trivial rfl rfl (fun _ => run_quo (by decide)) ?_
        obtain ⟨t847, h848, H⟩ := Gets.call H
        refine Dv.callx (pre := []) (F := [own (intK .u8) v846.1 ([IntKind.u8.wrap (w64 (128 + (p843.tmod 128)))] : List Int)] ++ F) (fun g849 : OV => [own (intK .u8) g849.1 t847, own (intK .u8) v846.1 ([IntKind.u8.wrap (w64 (128 + (p843.tmod 128)))] : List Int)] ++ F) rfl trivial cal67 rfl (concourseref02_Number.c k h848) (perm_ton 1 [0] rfl rfl rfl) rfl nofun (fun g849 _ => ?_)
        obtain ⟨g850, H⟩ := Gets.grd H
        refine Dv.appx (jj := 1) (ys := t847) (fun v851 : OV => [own (intK .u8) g849.1 t847, own (intK .u8) v851.1 (([IntKind.u8.wrap (w64 (128 + (p843.tmod 128)))] : List Int) ++ t847)] ++ F) rfl trivial rfl rfl rfl (src_own (mem_at 0 rfl)) Tryz.underlying82 (.inr ⟨_, Tryz.underlying82⟩) inf5 rfl (by decide) g850 rfl nofun (fun v851 => ?_)
        refine as0 rfl rfl ?_
        refine .fin ?_
        obtain rfl := Gets.out H
        exact WP.retL (fun _ _ h => h) rfl v851 trivial (.cons (res_tmp rfl) .nil) rfl (st_seln 2 [0, 1] 1 rfl rfl rfl)
    · refine WP.seq ?_
      refine WP.reg [(0, false), (1, false)] (by kernel_rfl) ?_
      refine mv0 rfl rfl ?_
      refine Dv.bin rfl trivial rfl rfl (fun _ => run_lt) ?_
      refine .fin ?_
      refine WP.cond rfl (fun c852 => ?_) (fun c852 => ?_)
      · replace H := Gets.ct H c852
        refine WP.reg [(0, false)] (by kernel_rfl) ?_
        refine as0 rfl rfl ?_
        refine .fin ?_
        replace H := Gets.out H
        exact Jn.mk 0 H (weak_cons rfl (weak_cons rfl (weak_cons rfl weak_nil))) (List.Perm.refl _)
      · replace H := Gets.cf H c852
        refine WP.skip ?_
        replace H := Gets.out H
        exact Jn.mk a0 H (weak_cons rfl (weak_cons rfl (weak_cons rfl weak_nil))) (List.Perm.refl _)
theorem concourseref02_Text.c {k : Nat} {a0 : ByteArray} {r : (List Int)} (h : concourseref02_Text.f k a0 = some r) : Tr Tryz.prog 68 [eq (.string a0)] [] (γ := OV) (fun _ => True) (fun g => eq g.1) (fun g => [own (intK .u8) g.1 r]) := by
  unfold concourseref02_Text.f at h
  refine Tr.body Tryz.func68 (c := _) rfl Tryz.ntmps68 (Nat.le_of_ble_eq_true rfl) fun R0 F => ?_
  replace h := Gets.of h
  have H := h
  clear h
  refine WP.seq ?_
  refine WP.reg [(0, false)] (by kernel_rfl) ?_
  refine as0 rfl rfl ?_
  refine .fin ?_
  refine WP.seq ?_
  refine WP.reg [(0, false), (1, false), (2, true), (3, false), (4, true), (5, false)] (by kernel_rfl) ?_
  refine mv0 rfl rfl ?_
  refine Dv.lens rfl trivial rfl Tryz.underlying9 ?_
  obtain ⟨t853, h854, H⟩ := Gets.call H
  refine Dv.callx (pre := []) (F := [] ++ F) (fun g855 : OV => [own (intK .u8) g855.1 t853] ++ F) rfl trivial cal67 rfl (concourseref02_Number.c _ h854) (perm_ton 0 [] rfl rfl rfl) rfl nofun (fun g855 _ => ?_)
  refine mv0 rfl rfl ?_
  obtain ⟨g856, H⟩ := Gets.grd H
  refine Dv.appx (jj := 0) (ys := strBs a0) (fun v857 : OV => [own (intK .u8) v857.1 (t853 ++ (strBs a0))] ++ F) rfl trivial rfl rfl rfl src_str Tryz.underlying82 (.inl Tryz.underlying9) inf5 rfl (by decide) g856 rfl nofun (fun v857 => ?_)
  refine as0 rfl rfl ?_
  refine .fin ?_
  obtain rfl := Gets.out H
  exact WP.retL (fun _ _ h => h) rfl v857 trivial (.cons (res_tmp rfl) .nil) rfl (st_seln 1 [0] 0 rfl rfl rfl)
theorem concourseref02_Flag.c {a0 : Bool} {r : (List Int)} (h : concourseref02_Flag.f a0 = some r) : Pt Tryz.prog 69 [eq (.bool a0)] (sl (intK .u8) r) := by
  unfold concourseref02_Flag.f at h
  refine (Tr.body Tryz.func69 (c := _) rfl Tryz.ntmps69 (Nat.le_of_ble_eq_true rfl) fun R0 F => ?_).pt
  replace h := Gets.of h
  have H := h
  clear h
  refine WP.seq ?_
  refine WP.reg [(0, false)] (by kernel_rfl) ?_
  refine as0 rfl rfl ?_
  refine .fin ?_
  refine WP.seq ?_
  refine WP.seq ?_
  refine WP.reg [(0, false)] (by kernel_rfl) ?_
  refine mv0 rfl rfl ?_
  refine .fin ?_
  refine WP.cond rfl (fun c858 => ?_) (fun c858 => ?_)
  · replace H := Gets.ct H c858
    refine WP.seq ?_
    refine WP.reg [(0, false), (1, false)] (by kernel_rfl) ?_
    refine Dv.lit (intK .u8) ([1] : List Int) (css := [[eq (.int .u8 1)]]) rfl trivial Tryz.underlying82 Tryz.underlying5 c5 z5 rfl (by decide) (by decide) rfl ⟨(cells_one (one_eq rfl)), trivial⟩ rfl rfl rfl ?_
    refine as0 rfl rfl ?_
    refine .fin ?_
    obtain rfl := Gets.out H
    exact WP.retL (fun _ _ h => h) rfl () trivial (.cons (res_tmp rfl) .nil) rfl (st_seln 0 [] 0 rfl rfl rfl)
  · replace H := Gets.cf H c858
    refine WP.skip ?_
    refine WP.seq ?_
    refine WP.reg [(0, false), (1, false)] (by kernel_rfl) ?_
    refine Dv.lit (intK .u8) ([0] : List Int) (css := [[eq (.int .u8 0)]]) rfl trivial Tryz.underlying82 Tryz.underlying5 c5 z5 rfl (by decide) (by decide) rfl ⟨(cells_one (one_eq rfl)), trivial⟩ rfl rfl rfl ?_
    refine as0 rfl rfl ?_
    refine .fin ?_
    obtain rfl := Gets.out H
    exact WP.retL (fun _ _ h => h) rfl () trivial (.cons (res_tmp rfl) .nil) rfl (st_seln 0 [] 0 rfl rfl rfl)
end Go.Proofs.YtegmafgodoikiaaGreat
