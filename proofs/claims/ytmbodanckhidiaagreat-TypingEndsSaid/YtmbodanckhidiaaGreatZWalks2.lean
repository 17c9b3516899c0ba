/- The walks. -/
import Derived.Test.YtmbodanckhidiaaGreatZWalks1
import Derived.Test.YtmbodanckhidiaaGreatConQ
import Derived.Eval
set_option linter.all false
set_option maxRecDepth 10000
set_option maxHeartbeats 20000000
namespace Go.Proofs.YtmbodanckhidiaaGreat
open Go Go.Sp
theorem heap_Heap_Drop.c {k : Nat} {a0 : HHeap} {a1 : ByteArray} {p0_ : OV} {r : Bool × HHeap} (h : heap_Heap_Drop.f k a0 a1 = some r) : Tr Tryz.prog 30 [eq p0_.1, eq (.string a1)] [HHeap.O p0_ a0] (γ := Unit) (fun _ => True) (fun g => eq (.bool r.1)) (fun g => [HHeap.O p0_ r.2]) := by
  unfold heap_Heap_Drop.f at h
  refine Tr.body Tryz.func30 (c := _) rfl Tryz.ntmps30 (Nat.le_of_ble_eq_true rfl) fun R0 F => ?_
  replace h := Gets.of h
  have H := h
  clear h
  refine WP.seq ?_
  refine WP.reg [(0, false)] (by kernel_rfl) ?_
  refine as0 rfl rfl ?_
  refine .fin ?_
  refine WP.seq ?_
  refine WP.reg [(0, false), (1, false), (2, false), (3, false), (4, false), (5, false), (6, false), (7, false), (8, false), (9, false), (10, false)] (by kernel_rfl) ?_
  refine mv0 rfl rfl ?_
  refine Dv.nilA HHeap.nn rfl trivial rfl (mem_at 0 rfl) ?_
  refine Dv.gh (l' := fun (g438 : Nat × OV × OV) => [blk g438.1 80 [eq g438.2.1.1, eq g438.2.2.1], own HEnt.K g438.2.1.1 a0.fl, mp Value.string (fun x : Int => eq (.int .i64 x)) g438.2.2.1 a0.fat] ++ F) (gh_of (HHeap.opn 0 rfl)) (fun g438 h439 => ?_)
  refine Dv.fabp h439 rfl trivial rfl Tryz.underlying80 rfl Tryz.underlying77 c77 (by decide) ?_
  refine Dv.ldb rfl trivial rfl Tryz.underlying77 rfl (mem_at 0 rfl) rfl ?_
  refine mv0 rfl rfl ?_
  refine Dv.mlk 0 rfl trivial rfl (mem_at 2 rfl) rfl Tryz.underlying77 (keyOk_str Tryz.underlying9) z3 (fun _ => rfl) ?_
  refine mv0 rfl rfl ?_
  refine Dv.ext rfl trivial rfl rfl ?_
  refine Dv.ext rfl trivial rfl rfl ?_
  refine as0 rfl rfl ?_
  refine as0 rfl rfl ?_
  refine .fin ?_
  refine WP.seq ?_
  refine WP.seq ?_
  refine WP.reg [(0, false), (1, false)] (by kernel_rfl) ?_
  refine mv0 rfl rfl ?_
  refine Dv.un rfl trivial rfl (fun _ => run_not _) ?_
  refine .fin ?_
  refine WP.cond rfl (fun c440 => ?_) (fun c440 => ?_)
  · replace H := Gets.ct H c440
    refine WP.seq ?_
    refine WP.reg [(0, false)] (by kernel_rfl) ?_
    refine as0 rfl rfl ?_
    refine .fin ?_
    refine WP.gh (l' := fun _ : Unit => [HHeap.O p0_ a0] ++ F) (gh_of (HHeap.shut (p := p0_) (m := a0) (r := F) (g438.1, g438.2.1, g438.2.2) h439 (perm_ton 3 [0, 1, 2] rfl rfl rfl))) (fun _ _ => ?_)
    obtain rfl := Gets.out H
    exact WP.retL (fun _ _ h => h) rfl () trivial (.cons (res_tmp rfl) .nil) rfl (st_seln 1 [0] 0 rfl rfl rfl)
  · replace H := Gets.cf H c440
    refine WP.skip ?_
    refine WP.seq ?_
    refine WP.reg [(0, false), (1, false), (2, false), (3, false), (4, false), (5, true)] (by kernel_rfl) ?_
    refine mv0 rfl rfl ?_
    refine Dv.nilpp h439 rfl trivial rfl ?_
    refine Dv.fabp h439 rfl trivial rfl Tryz.underlying80 rfl Tryz.underlying77 c77 (by decide) ?_
    refine Dv.ldb rfl trivial rfl Tryz.underlying77 rfl (mem_at 0 rfl) rfl ?_
    refine mv0 rfl rfl ?_
    refine Dv.mdl (jj := 2) rfl trivial rfl rfl rfl Tryz.underlying77 (keyOk_str Tryz.underlying9) nofun ?_
    refine .fin ?_
    refine WP.seq ?_
    refine WP.reg [(0, false), (1, false), (2, false), (3, false), (4, false), (5, false), (6, false)] (by kernel_rfl) ?_
    refine mv0 rfl rfl ?_
    refine Dv.nilpp h439 rfl trivial rfl ?_
    refine Dv.fabp h439 rfl trivial rfl Tryz.underlying80 rfl Tryz.underlying78 c78 (by decide) ?_
    refine Dv.ldb rfl trivial rfl Tryz.underlying78 rfl (mem_at 0 rfl) rfl ?_
    refine Dv.lenw rfl trivial rfl (mem_at 1 rfl) Tryz.underlying78 ?_
    refine Dv.bin rfl trivial rfl rfl (fun _ => run_sub) ?_
    refine as0 rfl rfl ?_
    refine .fin ?_
    refine WP.seq ?_
    refine WP.reg [(0, false), (1, false), (2, false), (3, false), (4, false), (5, false), (6, false), (7, true), (8, true)] (by kernel_rfl) ?_
    refine mv0 rfl rfl ?_
    refine Dv.nilpp h439 rfl trivial rfl ?_
    refine Dv.fabp h439 rfl trivial rfl Tryz.underlying80 rfl Tryz.underlying78 c78 (by decide) ?_
    refine Dv.ldb rfl trivial rfl Tryz.underlying78 rfl (mem_at 0 rfl) rfl ?_
    refine mv0 rfl rfl ?_
    obtain ⟨g441, H⟩ := Gets.grd H
    have h442 : (w64 ((a0.fl.length : Int) - 1)).toNat < a0.fl.length := idx_lt g441
    refine Dv.ixw rfl trivial rfl (mem_at 1 rfl) rfl Tryz.underlying78 Tryz.underlying72 c72 g441.1 g441.2 ?_
    refine Dv.ldws (j := ((w64 ((a0.fl.length : Int) - 1)).toNat)) (f := 0) rfl trivial rfl (mem_at 1 rfl) h442 Tryz.underlying72 rfl c72 (Nat.le_of_ble_eq_true rfl) ?_
    refine Dv.alloc (z := .agg #[.int .i64 0, .string ⟨#[]⟩]) (qs := [eq (.int .i64 0), eq (.string (⟨#[]⟩ : ByteArray))]) rfl trivial z72 rfl nofun (fun b443 => ?_)
    refine Dv.stx ([blk b443 72 [eq (.int .i64 ((a0.fl.getD ((w64 ((a0.fl.length : Int) - 1)).toNat) default).fAt)), eq (.string ((a0.fl.getD ((w64 ((a0.fl.length : Int) - 1)).toNat) default).fKey))], blk g438.1 80 [eq g438.2.1.1, eq g438.2.2.1], own HEnt.K g438.2.1.1 a0.fl, mp Value.string (fun x : Int => eq (.int .i64 x)) g438.2.2.1 (mdel a0.fat a1)] ++ F) rfl trivial rfl rfl (cells_agg (HEnt.K.one _)) Tryz.underlying72 c72 rfl (j := 0) rfl (Nat.le_of_ble_eq_true rfl) rfl nofun ?_
    refine .fin ?_
    refine WP.seq ?_
    refine WP.reg [(0, false), (1, false), (2, false), (3, false), (4, false), (5, false), (6, true), (7, false), (8, false), (9, true)] (by kernel_rfl) ?_
    refine mv0 rfl rfl ?_
    refine mv0 rfl rfl ?_
    refine Dv.nilpp h439 rfl trivial rfl ?_
    refine Dv.fabp h439 rfl trivial rfl Tryz.underlying80 rfl Tryz.underlying78 c78 (by decide) ?_
    refine Dv.ldb rfl trivial rfl Tryz.underlying78 rfl (mem_at 1 rfl) rfl ?_
    refine mv0 rfl rfl ?_
    obtain ⟨g444, H⟩ := Gets.grd H
    refine Dv.slo (jj := 2) rfl trivial rfl rfl Tryz.underlying78 Tryz.underlying72 c72 bdE_none (bdE_some rfl g444.1) (.inl rfl) g444.2.1 g444.2.2 nofun (fun v445 => ?_)
    refine Dv.nilpp h439 rfl trivial rfl ?_
    refine Dv.fabp h439 rfl trivial rfl Tryz.underlying80 rfl Tryz.underlying78 c78 (by decide) ?_
    refine Dv.stx ([blk b443 72 [eq (.int .i64 ((a0.fl.getD ((w64 ((a0.fl.length : Int) - 1)).toNat) default).fAt)), eq (.string ((a0.fl.getD ((w64 ((a0.fl.length : Int) - 1)).toNat) default).fKey))], blk g438.1 80 [eq v445.1, eq g438.2.2.1], own HEnt.K v445.1 ((a0.fl.take ((w64 ((a0.fl.length : Int) - 1)).toNat)).drop 0), mp Value.string (fun x : Int => eq (.int .i64 x)) g438.2.2.1 (mdel a0.fat a1)] ++ F) rfl trivial rfl rfl (cells_one one_ov) Tryz.underlying78 c78 rfl (j := 1) rfl (Nat.le_of_ble_eq_true rfl) rfl nofun ?_
    refine .fin ?_
    refine WP.seq ?_
    refine WP.seq ?_
    refine WP.reg [(0, false), (1, false), (2, false)] (by kernel_rfl) ?_
    refine mv0 rfl rfl ?_
    refine mv0 rfl rfl ?_
    refine Dv.bin rfl trivial rfl rfl (fun _ => run_lt) ?_
    refine .fin ?_
    refine WP.cond rfl (fun c446 => ?_) (fun c446 => ?_)
    · replace H := Gets.ct H c446
      refine WP.seq ?_
      refine WP.reg [(0, false), (1, false), (2, false), (3, true)] (by kernel_rfl) ?_
      refine mv0 rfl rfl ?_
      refine mv0 rfl rfl ?_
      refine Dv.ldbs rfl trivial rfl Tryz.underlying72 rfl c72 (mem_at 0 rfl) (Nat.le_of_ble_eq_true rfl) ?_
      refine Dv.gh (l' := fun _ : Unit => [HHeap.O p0_ (⟨(a0.fl.take ((w64 ((a0.fl.length : Int) - 1)).toNat)).drop 0, mdel a0.fat a1⟩ : HHeap), blk b443 72 [eq (.int .i64 ((a0.fl.getD ((w64 ((a0.fl.length : Int) - 1)).toNat) default).fAt)), eq (.string ((a0.fl.getD ((w64 ((a0.fl.length : Int) - 1)).toNat) default).fKey))]] ++ F) (gh_of (HHeap.shut (p := p0_) (m := (⟨(a0.fl.take ((w64 ((a0.fl.length : Int) - 1)).toNat)).drop 0, mdel a0.fat a1⟩ : HHeap)) (r := [blk b443 72 [eq (.int .i64 ((a0.fl.getD ((w64 ((a0.fl.length : Int) - 1)).toNat) default).fAt)), eq (.string ((a0.fl.getD ((w64 ((a0.fl.length : Int) - 1)).toNat) default).fKey))]] ++ F) (g438.1, v445, g438.2.2) h439 (perm_ton 4 [1, 2, 3, 0] rfl rfl rfl))) (fun _ _ => ?_)
      obtain ⟨t447, h448, H⟩ := Gets.call H
      refine Dv.callx (pre := [HHeap.O p0_ (⟨(a0.fl.take ((w64 ((a0.fl.length : Int) - 1)).toNat)).drop 0, mdel a0.fat a1⟩ : HHeap)]) (F := [blk b443 72 [eq (.int .i64 ((a0.fl.getD ((w64 ((a0.fl.length : Int) - 1)).toNat) default).fAt)), eq (.string ((a0.fl.getD ((w64 ((a0.fl.length : Int) - 1)).toNat) default).fKey))]] ++ F) (fun _ : Unit => [HHeap.O p0_ t447, blk b443 72 [eq (.int .i64 ((a0.fl.getD ((w64 ((a0.fl.length : Int) - 1)).toNat) default).fAt)), eq (.string ((a0.fl.getD ((w64 ((a0.fl.length : Int) - 1)).toNat) default).fKey))]] ++ F) rfl trivial cal55 rfl (heap_Heap_set.c h448 (p0_ := p0_)) (perm_ton 2 [0, 1] rfl rfl rfl) rfl nofun (fun _ _ => ?_)
      refine .fin ?_
      refine WP.seq ?_
      refine WP.reg [(0, false), (1, false), (2, true)] (by kernel_rfl) ?_
      refine mv0 rfl rfl ?_
      refine mv0 rfl rfl ?_
      obtain ⟨t449, h450, H⟩ := Gets.call H
      refine Dv.callx (pre := [HHeap.O p0_ t447]) (F := [blk b443 72 [eq (.int .i64 ((a0.fl.getD ((w64 ((a0.fl.length : Int) - 1)).toNat) default).fAt)), eq (.string ((a0.fl.getD ((w64 ((a0.fl.length : Int) - 1)).toNat) default).fKey))]] ++ F) (fun _ : Unit => [HHeap.O p0_ t449, blk b443 72 [eq (.int .i64 ((a0.fl.getD ((w64 ((a0.fl.length : Int) - 1)).toNat) default).fAt)), eq (.string ((a0.fl.getD ((w64 ((a0.fl.length : Int) - 1)).toNat) default).fKey))]] ++ F) rfl trivial cal56 rfl (heap_Heap_down.c h450 (p0_ := p0_)) (perm_ton 2 [0, 1] rfl rfl rfl) rfl nofun (fun _ _ => ?_)
      refine .fin ?_
      refine WP.gh (l' := fun (g451 : Nat × OV × OV) => [blk g451.1 80 [eq g451.2.1.1, eq g451.2.2.1], own HEnt.K g451.2.1.1 t449.fl, mp Value.string (fun x : Int => eq (.int .i64 x)) g451.2.2.1 t449.fat, blk b443 72 [eq (.int .i64 ((a0.fl.getD ((w64 ((a0.fl.length : Int) - 1)).toNat) default).fAt)), eq (.string ((a0.fl.getD ((w64 ((a0.fl.length : Int) - 1)).toNat) default).fKey))]] ++ F) (gh_of (HHeap.opn 0 rfl)) (fun g451 h452 => ?_)
      refine WP.dreg Tryz.checked.mixed [(0, false), (1, false), (2, false), (3, false), (4, false), (5, false), (6, false), (7, false), (8, true)] (by kernel_rfl) ?_
      refine mv0 rfl rfl ?_
      refine mv0 rfl rfl ?_
      refine Dv.nilpp h452 rfl trivial rfl ?_
      refine Dv.fabp h452 rfl trivial rfl Tryz.underlying80 rfl Tryz.underlying77 c77 (by decide) ?_
      refine Dv.ldb rfl trivial rfl Tryz.underlying77 rfl (mem_at 0 rfl) rfl ?_
      refine Dv.fab rfl trivial rfl Tryz.underlying72 rfl Tryz.underlying9 c9 (by decide) ?_
      refine Dv.ldb rfl trivial rfl Tryz.underlying9 rfl (mem_at 3 rfl) rfl ?_
      refine Dv.mlv 0 rfl trivial rfl (mem_at 2 rfl) rfl Tryz.underlying77 (keyOk_str Tryz.underlying9) z3 (fun _ => rfl) ?_
      obtain ⟨t453, h454, H⟩ := Gets.call H
      refine Dv.callx (pre := [blk g451.1 80 [eq g451.2.1.1, eq g451.2.2.1], own HEnt.K g451.2.1.1 t449.fl, mp Value.string (fun x : Int => eq (.int .i64 x)) g451.2.2.1 t449.fat]) (F := [blk b443 72 [eq (.int .i64 ((a0.fl.getD ((w64 ((a0.fl.length : Int) - 1)).toNat) default).fAt)), eq (.string ((a0.fl.getD ((w64 ((a0.fl.length : Int) - 1)).toNat) default).fKey))]] ++ F) (fun _ : Unit => [HHeap.O p0_ t453, blk b443 72 [eq (.int .i64 ((a0.fl.getD ((w64 ((a0.fl.length : Int) - 1)).toNat) default).fAt)), eq (.string ((a0.fl.getD ((w64 ((a0.fl.length : Int) - 1)).toNat) default).fKey))]] ++ F) rfl trivial cal57 rfl (Tr.pre (pre' := [blk g451.1 80 [eq g451.2.1.1, eq g451.2.2.1], own HEnt.K g451.2.1.1 t449.fl, mp Value.string (fun x : Int => eq (.int .i64 x)) g451.2.2.1 t449.fat]) (heap_Heap_up.c h454 (p0_ := p0_)) (fun F R w => HHeap.shut (p := p0_) (m := t449) (r := F) (g451.1, g451.2.1, g451.2.2) h452 (List.Perm.refl _) R w)) (perm_ton 4 [0, 1, 2, 3] rfl rfl rfl) rfl (fun _ => pendc (pend_bits (by kernel_rfl))) (fun _ _ => ?_)
      refine .fin ?_
      refine WP.seq ?_
      refine WP.reg [(0, false)] (by kernel_rfl) ?_
      refine as0 rfl rfl ?_
      refine .fin ?_
      obtain rfl := Gets.out H
      exact WP.retL (fun _ _ h => h) rfl () trivial (.cons (res_tmp rfl) .nil) rfl (st_seln 2 [1, 0] 1 rfl rfl rfl)
    · replace H := Gets.cf H c446
      refine WP.skip ?_
      refine WP.seq ?_
      refine WP.reg [(0, false)] (by kernel_rfl) ?_
      refine as0 rfl rfl ?_
      refine .fin ?_
      refine WP.gh (l' := fun _ : Unit => [HHeap.O p0_ (⟨(a0.fl.take ((w64 ((a0.fl.length : Int) - 1)).toNat)).drop 0, mdel a0.fat a1⟩ : HHeap), blk b443 72 [eq (.int .i64 ((a0.fl.getD ((w64 ((a0.fl.length : Int) - 1)).toNat) default).fAt)), eq (.string ((a0.fl.getD ((w64 ((a0.fl.length : Int) - 1)).toNat) default).fKey))]] ++ F) (gh_of (HHeap.shut (p := p0_) (m := (⟨(a0.fl.take ((w64 ((a0.fl.length : Int) - 1)).toNat)).drop 0, mdel a0.fat a1⟩ : HHeap)) (r := [blk b443 72 [eq (.int .i64 ((a0.fl.getD ((w64 ((a0.fl.length : Int) - 1)).toNat) default).fAt)), eq (.string ((a0.fl.getD ((w64 ((a0.fl.length : Int) - 1)).toNat) default).fKey))]] ++ F) (g438.1, v445, g438.2.2) h439 (perm_ton 4 [1, 2, 3, 0] rfl rfl rfl))) (fun _ _ => ?_)
      obtain rfl := Gets.out H
      exact WP.retL (fun _ _ h => h) rfl () trivial (.cons (res_tmp rfl) .nil) rfl (st_seln 2 [1, 0] 1 rfl rfl rfl)
theorem heap_Heap_Put.c {k : Nat} {a0 : HHeap} {a1 : Int} {a2 : ByteArray} {p0_ : OV} {r : HHeap} (h : heap_Heap_Put.f k a0 a1 a2 = some r) : Tr Tryz.prog 31 [eq p0_.1, eq (.int .i64 a1), eq (.string a2)] [HHeap.O p0_ a0] (γ := Unit) (fun _ => True) (fun g => tup []) (fun g => [HHeap.O p0_ r]) := by
  unfold heap_Heap_Put.f at h
  refine Tr.body Tryz.func31 (c := _) rfl Tryz.ntmps31 (Nat.le_of_ble_eq_true rfl) fun R0 F => ?_
  replace h := Gets.of h
  have H := h
  clear h
  refine WP.seq ?_
  refine WP.reg [(0, false), (1, false), (2, true)] (by kernel_rfl) ?_
  refine mv0 rfl rfl ?_
  refine mv0 rfl rfl ?_
  obtain ⟨t455, h456, H⟩ := Gets.call H
  refine Dv.callx (pre := [HHeap.O p0_ a0]) (F := [] ++ F) (fun _ : Unit => [HHeap.O p0_ t455.2] ++ F) rfl trivial cal30 rfl (heap_Heap_Drop.c h456 (p0_ := p0_)) (perm_ton 1 [0] rfl rfl rfl) rfl nofun (fun _ _ => ?_)
  refine .fin ?_
  refine WP.seq ?_
  refine WP.reg [(0, false), (1, false), (2, false), (3, false), (4, false), (5, false), (6, false), (7, false), (8, false), (9, true), (10, false), (11, false), (12, true)] (by kernel_rfl) ?_
  refine mv0 rfl rfl ?_
  refine mv0 rfl rfl ?_
  refine Dv.nilA HHeap.nn rfl trivial rfl (mem_at 0 rfl) ?_
  refine Dv.gh (l' := fun (g457 : Nat × OV × OV) => [blk g457.1 80 [eq g457.2.1.1, eq g457.2.2.1], own HEnt.K g457.2.1.1 t455.2.fl, mp Value.string (fun x : Int => eq (.int .i64 x)) g457.2.2.1 t455.2.fat] ++ F) (gh_of (HHeap.opn 0 rfl)) (fun g457 h458 => ?_)
  refine Dv.fabp h458 rfl trivial rfl Tryz.underlying80 rfl Tryz.underlying78 c78 (by decide) ?_
  refine Dv.ldb rfl trivial rfl Tryz.underlying78 rfl (mem_at 0 rfl) rfl ?_
  refine mv0 rfl rfl ?_
  refine mv0 rfl rfl ?_
  refine Dv.bld (css := [[eq (.int .i64 a1)], [eq (.string a2)]]) rfl trivial Tryz.underlying72 pl72 z72 rfl ⟨(cells_one (one_eq rfl)), ⟨(cells_one (one_eq rfl)), trivial⟩⟩ rfl rfl ?_
  refine Dv.lit HEnt.K ([(⟨a1, a2⟩ : HEnt)] : List HEnt) (css := [[eq (.int .i64 a1), eq (.string a2)]]) rfl trivial Tryz.underlying78 Tryz.underlying72 c72 z72 rfl (by decide) (by decide) rfl ⟨(cells_agg (ones_cons (one_eq rfl) (ones_cons (one_eq rfl) ones_nil))), trivial⟩ rfl rfl rfl ?_
  obtain ⟨g459, H⟩ := Gets.grd H
  refine Dv.appx (jj := 1) (ys := ([(⟨a1, a2⟩ : HEnt)] : List HEnt)) (fun v460 : OV => [blk g457.1 80 [eq g457.2.1.1, eq g457.2.2.1], own HEnt.K v460.1 (t455.2.fl ++ ([(⟨a1, a2⟩ : HEnt)] : List HEnt)), mp Value.string (fun x : Int => eq (.int .i64 x)) g457.2.2.1 t455.2.fat] ++ F) rfl trivial rfl rfl rfl src_sl Tryz.underlying78 (.inr ⟨_, Tryz.underlying78⟩) inf72 rfl (by decide) g459 rfl nofun (fun v460 => ?_)
  refine Dv.nilpp h458 rfl trivial rfl ?_
  refine Dv.fabp h458 rfl trivial rfl Tryz.underlying80 rfl Tryz.underlying78 c78 (by decide) ?_
  refine Dv.stx ([blk g457.1 80 [eq v460.1, eq g457.2.2.1], own HEnt.K v460.1 (t455.2.fl ++ ([(⟨a1, a2⟩ : HEnt)] : List HEnt)), mp Value.string (fun x : Int => eq (.int .i64 x)) g457.2.2.1 t455.2.fat] ++ F) rfl trivial rfl rfl (cells_one one_ov) Tryz.underlying78 c78 rfl (j := 0) rfl (Nat.le_of_ble_eq_true rfl) rfl nofun ?_
  refine .fin ?_
  refine WP.reg [(0, false), (1, false), (2, false), (3, false), (4, false), (5, false), (6, false), (7, true)] (by kernel_rfl) ?_
  refine mv0 rfl rfl ?_
  refine mv0 rfl rfl ?_
  refine Dv.nilpp h458 rfl trivial rfl ?_
  refine Dv.fabp h458 rfl trivial rfl Tryz.underlying80 rfl Tryz.underlying78 c78 (by decide) ?_
  refine Dv.ldb rfl trivial rfl Tryz.underlying78 rfl (mem_at 0 rfl) rfl ?_
  refine Dv.lenw rfl trivial rfl (mem_at 1 rfl) Tryz.underlying78 ?_
  refine Dv.bin rfl trivial rfl rfl (fun _ => run_sub) ?_
  refine Dv.gh (l' := fun _ : Unit => [HHeap.O p0_ (⟨t455.2.fl ++ ([(⟨a1, a2⟩ : HEnt)] : List HEnt), t455.2.fat⟩ : HHeap)] ++ F) (gh_of (HHeap.shut (p := p0_) (m := (⟨t455.2.fl ++ ([(⟨a1, a2⟩ : HEnt)] : List HEnt), t455.2.fat⟩ : HHeap)) (r := F) (g457.1, v460, g457.2.2) h458 (perm_ton 3 [0, 1, 2] rfl rfl rfl))) (fun _ _ => ?_)
  obtain ⟨t461, h462, H⟩ := Gets.call H
  refine Dv.callx (pre := [HHeap.O p0_ (⟨t455.2.fl ++ ([(⟨a1, a2⟩ : HEnt)] : List HEnt), t455.2.fat⟩ : HHeap)]) (F := [] ++ F) (fun _ : Unit => [HHeap.O p0_ t461] ++ F) rfl trivial cal57 rfl (heap_Heap_up.c h462 (p0_ := p0_)) (perm_ton 1 [0] rfl rfl rfl) rfl nofun (fun _ _ => ?_)
  refine .fin ?_
  obtain rfl := Gets.out H
  exact res_end rfl () trivial .nil rfl (st_seln 1 [0] 0 rfl rfl rfl)
theorem typing_end.c {a0 : Edu} {r : Int} (h : typing_end.f a0 = some r) : Pt Tryz.prog 32 [agg (Edu.enc a0)] (eq (.int .i64 r)) := by
  unfold typing_end.f at h
  refine (Tr.body Tryz.func32 (c := _) rfl Tryz.ntmps32 (Nat.le_of_ble_eq_true rfl) fun R0 F => ?_).pt
  replace h := Gets.of h
  have H := h
  clear h
  refine WP.seq ?_
  refine WP.reg [(0, true), (1, false)] (by kernel_rfl) ?_
  refine Dv.box rfl trivial rfl (cells_agg (Edu.K.one _)) nofun (fun b463 => ?_)
  refine as0 rfl rfl ?_
  refine .fin ?_
  refine WP.seq ?_
  refine WP.reg [(0, false), (1, false), (2, false), (3, false), (4, false), (5, false)] (by kernel_rfl) ?_
  refine Dv.fab rfl trivial rfl Tryz.underlying30 rfl Tryz.underlying3 c3 (by decide) ?_
  refine Dv.ldb rfl trivial rfl Tryz.underlying3 rfl (mem_at 0 rfl) rfl ?_
  refine Dv.fab rfl trivial rfl Tryz.underlying30 rfl Tryz.underlying3 c3 (by decide) ?_
  refine Dv.ldb rfl trivial rfl Tryz.underlying3 rfl (mem_at 0 rfl) rfl ?_
  refine Dv.bin rfl trivial rfl rfl (fun _ => run_add) ?_
  refine as0 rfl rfl ?_
  refine .fin ?_
  obtain rfl := Gets.out H
  exact WP.retL (fun _ _ h => h) rfl () trivial (.cons (res_tmp rfl) .nil) rfl (st_seln 1 [0] 1 rfl rfl rfl)
theorem typing_Table_Put.c {k : Nat} {a0 : TTab} {a1 : Edu} {p0_ : OV} {r : Bool × Int × TTab} (h : typing_Table_Put.f k a0 a1 = some r) : Tr Tryz.prog 9 [eq p0_.1, agg (Edu.enc a1)] [TTab.O p0_ a0] (γ := Unit) (fun _ => True) (fun g => tup [eq (.bool r.1), eq (.int .i64 r.2.1)]) (fun g => [TTab.O p0_ r.2.2]) := by
  unfold typing_Table_Put.f at h
  refine Tr.body Tryz.func9 (c := _) rfl Tryz.ntmps9 (Nat.le_of_ble_eq_true rfl) fun R0 F => ?_
  replace h := Gets.of h
  have H := h
  clear h
  refine WP.seq ?_
  refine WP.reg [(0, true), (1, false), (2, false)] (by kernel_rfl) ?_
  refine Dv.box rfl trivial rfl (cells_agg (Edu.K.one _)) nofun (fun b464 => ?_)
  refine as0 rfl rfl ?_
  refine as0 rfl rfl ?_
  refine .fin ?_
  refine WP.seq ?_
  refine WP.seq ?_
  refine WP.reg [(0, false), (1, false), (2, false), (3, false), (4, false), (5, false), (6, false), (7, false)] (by kernel_rfl) ?_
  refine Dv.fab rfl trivial rfl Tryz.underlying30 rfl Tryz.underlying3 c3 (by decide) ?_
  refine Dv.ldb rfl trivial rfl Tryz.underlying3 rfl (mem_at 0 rfl) rfl ?_
  refine Dv.bin rfl trivial rfl rfl (fun _ => run_ne) ?_
  refine mv0 rfl rfl ?_
  cases c465 : (a1.fKind != 2)
  · replace H := Gets.cf H c465
    refine Dv.ldbs rfl ⟨_, _, rfl, rfl, rfl⟩ rfl Tryz.underlying30 rfl c30 (mem_at 0 rfl) (Nat.le_of_ble_eq_true rfl) ?_
    obtain ⟨t467, h468, H⟩ := Gets.call H
    refine Dv.call rfl ⟨_, _, rfl, rfl, rfl⟩ cal26 rfl (edu_May.c h468) ?_
    refine Dv.un rfl ⟨_, _, rfl, rfl, rfl⟩ rfl (fun _ => run_not _) ?_
    refine Dv.pickF rfl trivial rfl rfl ?_
    refine .fin ?_
    refine WP.cond rfl (fun c469 => ?_) (fun c469 => ?_)
    · replace H := Gets.ct H c469
      refine WP.seq ?_
      refine WP.reg [(0, false), (1, false)] (by kernel_rfl) ?_
      refine as0 rfl rfl ?_
      refine as0 rfl rfl ?_
      refine .fin ?_
      obtain rfl := Gets.out H
      exact WP.retL (fun _ _ h => h) rfl () trivial (.cons (res_tmp rfl) (.cons (res_tmp rfl) .nil)) rfl (st_seln 2 [0, 1] 1 rfl rfl rfl)
    · replace H := Gets.cf H c469
      refine WP.skip ?_
      refine WP.seq ?_
      refine WP.reg [(0, false), (1, false), (2, false), (3, false), (4, false), (5, false), (6, false), (7, false)] (by kernel_rfl) ?_
      refine mv0 rfl rfl ?_
      refine Dv.ldbs rfl trivial rfl Tryz.underlying30 rfl c30 (mem_at 0 rfl) (Nat.le_of_ble_eq_true rfl) ?_
      refine Dv.gh (l' := fun (g470 : Nat × OV × OV) => [blk g470.1 56 [eq g470.2.1.1, eq g470.2.2.1], own Edu.K g470.2.1.1 a0.fl, HHeap.O g470.2.2 a0.fends, blk b464 30 [eq (.int .i64 a1.fKind), eq (.string a1.fRoom), eq (.string a1.fUser), eq (.string a1.fEvent), eq (.string a1.fThread), eq (.bool a1.fPrivate), eq (.bool a1.fOn), eq (.int .i64 a1.fSpan), eq (.int .i64 a1.fState), eq (.int .i64 a1.fTick), eq (.int .i64 a1.fStamp)]] ++ F) (gh_of (TTab.opn 1 rfl)) (fun g470 h471 => ?_)
      obtain ⟨t472, h473, H⟩ := Gets.call H
      refine Dv.calll (B := [blk g470.1 56 [eq g470.2.1.1, eq g470.2.2.1], own Edu.K g470.2.1.1 a0.fl]) (F := [HHeap.O g470.2.2 a0.fends, blk b464 30 [eq (.int .i64 a1.fKind), eq (.string a1.fRoom), eq (.string a1.fUser), eq (.string a1.fEvent), eq (.string a1.fThread), eq (.bool a1.fPrivate), eq (.bool a1.fOn), eq (.int .i64 a1.fSpan), eq (.int .i64 a1.fState), eq (.int .i64 a1.fTick), eq (.int .i64 a1.fStamp)]] ++ F) rfl trivial cal27 rfl (Tr.weak (typing_Table_place.c h473 (b0_ := g470.1) (v0_0 := g470.2.1) (v0_1 := g470.2.2)) (.cons (wk_ptr h471) (.cons wk_id .nil))) (perm_ton 4 [0, 1, 2, 3] rfl rfl rfl) ?_
      refine mv0 rfl rfl ?_
      refine Dv.ext rfl trivial rfl rfl ?_
      refine Dv.ext rfl trivial rfl rfl ?_
      refine as0 rfl rfl ?_
      refine as0 rfl rfl ?_
      refine .fin ?_
      refine WP.seqr H id (fun p474 : Bool × Bool × Bool × TTab => [(0, eq p0_.1), (1, agg (Edu.enc a1)), (3, eq (.pointer (some ⟨b464, 0, none⟩))), (4, eq (.bool false)), (5, eq (.int .i64 0)), (6, eq (.int .i64 t472.1)), (7, eq (.bool p474.1)), (16, eq (.bool (!t467))), (34, eq (.bool p474.2.1)), (59, eq (.bool p474.2.2.1))]) (fun p474 : Bool × Bool × Bool × TTab => [blk b464 30 [eq (.int .i64 a1.fKind), eq (.string a1.fRoom), eq (.string a1.fUser), eq (.string a1.fEvent), eq (.string a1.fThread), eq (.bool a1.fPrivate), eq (.bool a1.fOn), eq (.int .i64 a1.fSpan), eq (.int .i64 a1.fState), eq (.int .i64 a1.fTick), eq (.int .i64 a1.fStamp)], TTab.O p0_ p474.2.2.2] ++ F) (fun p474 H => ?_) (fun H => ?_)
      · refine WP.seq ?_
        refine WP.reg [(0, false), (1, false), (2, false), (3, false), (4, false), (5, false), (6, false)] (by kernel_rfl) ?_
        refine Dv.fab rfl trivial rfl Tryz.underlying30 rfl Tryz.underlying9 c9 (by decide) ?_
        refine Dv.ldb rfl trivial rfl Tryz.underlying9 rfl (mem_at 0 rfl) rfl ?_
        obtain ⟨g475, H⟩ := Gets.grd H
        refine Dv.bin rfl trivial rfl rfl (fun _ => run_cat g475) ?_
        refine Dv.fab rfl trivial rfl Tryz.underlying30 rfl Tryz.underlying9 c9 (by decide) ?_
        refine Dv.ldb rfl trivial rfl Tryz.underlying9 rfl (mem_at 0 rfl) rfl ?_
        obtain ⟨g476, H⟩ := Gets.grd H
        refine Dv.bin rfl trivial rfl rfl (fun _ => run_cat g476) ?_
        refine as0 rfl rfl ?_
        refine .fin ?_
        refine WP.seq ?_
        refine WP.reg [(0, false), (1, false), (2, false), (3, false), (4, false), (5, true)] (by kernel_rfl) ?_
        refine mv0 rfl rfl ?_
        refine Dv.nilA TTab.nn rfl trivial rfl (mem_at 1 rfl) ?_
        refine Dv.gh (l' := fun (g477 : Nat × OV × OV) => [blk g477.1 56 [eq g477.2.1.1, eq g477.2.2.1], own Edu.K g477.2.1.1 p474.2.2.2.fl, HHeap.O g477.2.2 p474.2.2.2.fends, blk b464 30 [eq (.int .i64 a1.fKind), eq (.string a1.fRoom), eq (.string a1.fUser), eq (.string a1.fEvent), eq (.string a1.fThread), eq (.bool a1.fPrivate), eq (.bool a1.fOn), eq (.int .i64 a1.fSpan), eq (.int .i64 a1.fState), eq (.int .i64 a1.fTick), eq (.int .i64 a1.fStamp)]] ++ F) (gh_of (TTab.opn 1 rfl)) (fun g477 h478 => ?_)
        refine Dv.fabp h478 rfl trivial rfl Tryz.underlying56 rfl Tryz.underlying53 c53 (by decide) ?_
        refine Dv.ldb rfl trivial rfl Tryz.underlying53 rfl (mem_at 0 rfl) rfl ?_
        refine mv0 rfl rfl ?_
        obtain ⟨t479, h480, H⟩ := Gets.call H
        refine Dv.callx (pre := [HHeap.O g477.2.2 p474.2.2.2.fends]) (F := [blk g477.1 56 [eq g477.2.1.1, eq g477.2.2.1], own Edu.K g477.2.1.1 p474.2.2.2.fl, blk b464 30 [eq (.int .i64 a1.fKind), eq (.string a1.fRoom), eq (.string a1.fUser), eq (.string a1.fEvent), eq (.string a1.fThread), eq (.bool a1.fPrivate), eq (.bool a1.fOn), eq (.int .i64 a1.fSpan), eq (.int .i64 a1.fState), eq (.int .i64 a1.fTick), eq (.int .i64 a1.fStamp)]] ++ F) (fun _ : Unit => [HHeap.O g477.2.2 t479.2, blk g477.1 56 [eq g477.2.1.1, eq g477.2.2.1], own Edu.K g477.2.1.1 p474.2.2.2.fl, blk b464 30 [eq (.int .i64 a1.fKind), eq (.string a1.fRoom), eq (.string a1.fUser), eq (.string a1.fEvent), eq (.string a1.fThread), eq (.bool a1.fPrivate), eq (.bool a1.fOn), eq (.int .i64 a1.fSpan), eq (.int .i64 a1.fState), eq (.int .i64 a1.fTick), eq (.int .i64 a1.fStamp)]] ++ F) rfl trivial cal30 rfl (heap_Heap_Drop.c h480 (p0_ := g477.2.2)) (perm_ton 4 [2, 0, 1, 3] rfl rfl rfl) rfl nofun (fun _ _ => ?_)
        refine .fin ?_
        refine WP.seq ?_
        refine WP.seq ?_
        refine WP.reg [(0, false), (1, false)] (by kernel_rfl) ?_
        refine Dv.fab rfl trivial rfl Tryz.underlying30 rfl Tryz.underlying4 c4 (by decide) ?_
        refine Dv.ldb rfl trivial rfl Tryz.underlying4 rfl (mem_at 3 rfl) rfl ?_
        refine .fin ?_
        refine WP.cond rfl (fun c481 => ?_) (fun c481 => ?_)
        · replace H := Gets.ct H c481
          refine WP.dreg Tryz.checked.mixed [(0, false), (1, false), (2, false), (3, false), (4, false), (5, false), (6, false), (7, true)] (by kernel_rfl) ?_
          refine mv0 rfl rfl ?_
          refine Dv.nilpp h478 rfl trivial rfl ?_
          refine Dv.fabp h478 rfl trivial rfl Tryz.underlying56 rfl Tryz.underlying53 c53 (by decide) ?_
          refine Dv.ldb rfl trivial rfl Tryz.underlying53 rfl (mem_at 1 rfl) rfl ?_
          refine Dv.ldbs rfl trivial rfl Tryz.underlying30 rfl c30 (mem_at 3 rfl) (Nat.le_of_ble_eq_true rfl) ?_
          obtain ⟨t482, h483, H⟩ := Gets.call H
          refine Dv.call rfl trivial cal32 rfl (typing_end.c h483) ?_
          refine mv0 rfl rfl ?_
          obtain ⟨t484, h485, H⟩ := Gets.call H
          refine Dv.callx (pre := [HHeap.O g477.2.2 t479.2]) (F := [blk g477.1 56 [eq g477.2.1.1, eq g477.2.2.1], own Edu.K g477.2.1.1 p474.2.2.2.fl, blk b464 30 [eq (.int .i64 a1.fKind), eq (.string a1.fRoom), eq (.string a1.fUser), eq (.string a1.fEvent), eq (.string a1.fThread), eq (.bool a1.fPrivate), eq (.bool a1.fOn), eq (.int .i64 a1.fSpan), eq (.int .i64 a1.fState), eq (.int .i64 a1.fTick), eq (.int .i64 a1.fStamp)]] ++ F) (fun _ : Unit => [HHeap.O g477.2.2 t484, blk g477.1 56 [eq g477.2.1.1, eq g477.2.2.1], own Edu.K g477.2.1.1 p474.2.2.2.fl, blk b464 30 [eq (.int .i64 a1.fKind), eq (.string a1.fRoom), eq (.string a1.fUser), eq (.string a1.fEvent), eq (.string a1.fThread), eq (.bool a1.fPrivate), eq (.bool a1.fOn), eq (.int .i64 a1.fSpan), eq (.int .i64 a1.fState), eq (.int .i64 a1.fTick), eq (.int .i64 a1.fStamp)]] ++ F) rfl trivial cal31 rfl (heap_Heap_Put.c h485 (p0_ := g477.2.2)) (perm_ton 4 [0, 1, 2, 3] rfl rfl rfl) rfl (fun _ => pendc (pend_bits (by kernel_rfl))) (fun _ _ => ?_)
          refine .fin ?_
          refine WP.seq ?_
          refine WP.reg [(0, false), (1, false)] (by kernel_rfl) ?_
          refine as0 rfl rfl ?_
          refine as0 rfl rfl ?_
          refine .fin ?_
          refine WP.gh (l' := fun _ : Unit => [TTab.O p0_ (⟨p474.2.2.2.fl, t484⟩ : TTab), blk b464 30 [eq (.int .i64 a1.fKind), eq (.string a1.fRoom), eq (.string a1.fUser), eq (.string a1.fEvent), eq (.string a1.fThread), eq (.bool a1.fPrivate), eq (.bool a1.fOn), eq (.int .i64 a1.fSpan), eq (.int .i64 a1.fState), eq (.int .i64 a1.fTick), eq (.int .i64 a1.fStamp)]] ++ F) (gh_of (TTab.shut (p := p0_) (m := (⟨p474.2.2.2.fl, t484⟩ : TTab)) (r := [blk b464 30 [eq (.int .i64 a1.fKind), eq (.string a1.fRoom), eq (.string a1.fUser), eq (.string a1.fEvent), eq (.string a1.fThread), eq (.bool a1.fPrivate), eq (.bool a1.fOn), eq (.int .i64 a1.fSpan), eq (.int .i64 a1.fState), eq (.int .i64 a1.fTick), eq (.int .i64 a1.fStamp)]] ++ F) (g477.1, g477.2.1, g477.2.2) h478 (perm_ton 4 [1, 2, 0, 3] rfl rfl rfl))) (fun _ _ => ?_)
          obtain rfl := Gets.out H
          exact WP.retL (fun _ _ h => h) rfl () trivial (.cons (res_tmp rfl) (.cons (res_tmp rfl) .nil)) rfl (st_seln 2 [1, 0] 1 rfl rfl rfl)
        · replace H := Gets.cf H c481
          refine WP.skip ?_
          refine WP.seq ?_
          refine WP.reg [(0, false), (1, false)] (by kernel_rfl) ?_
          refine as0 rfl rfl ?_
          refine as0 rfl rfl ?_
          refine .fin ?_
          refine WP.gh (l' := fun _ : Unit => [TTab.O p0_ (⟨p474.2.2.2.fl, t479.2⟩ : TTab), blk b464 30 [eq (.int .i64 a1.fKind), eq (.string a1.fRoom), eq (.string a1.fUser), eq (.string a1.fEvent), eq (.string a1.fThread), eq (.bool a1.fPrivate), eq (.bool a1.fOn), eq (.int .i64 a1.fSpan), eq (.int .i64 a1.fState), eq (.int .i64 a1.fTick), eq (.int .i64 a1.fStamp)]] ++ F) (gh_of (TTab.shut (p := p0_) (m := (⟨p474.2.2.2.fl, t479.2⟩ : TTab)) (r := [blk b464 30 [eq (.int .i64 a1.fKind), eq (.string a1.fRoom), eq (.string a1.fUser), eq (.string a1.fEvent), eq (.string a1.fThread), eq (.bool a1.fPrivate), eq (.bool a1.fOn), eq (.int .i64 a1.fSpan), eq (.int .i64 a1.fState), eq (.int .i64 a1.fTick), eq (.int .i64 a1.fStamp)]] ++ F) (g477.1, g477.2.1, g477.2.2) h478 (perm_ton 4 [1, 2, 0, 3] rfl rfl rfl))) (fun _ _ => ?_)
          obtain rfl := Gets.out H
          exact WP.retL (fun _ _ h => h) rfl () trivial (.cons (res_tmp rfl) (.cons (res_tmp rfl) .nil)) rfl (st_seln 2 [1, 0] 1 rfl rfl rfl)
      · refine WP.block ?_
        refine WP.seq ?_
        refine WP.dreg Tryz.checked.mixed [(0, false), (1, false), (2, false), (3, false), (4, false), (5, false), (6, false), (7, false), (8, false), (9, false), (10, false), (11, false), (12, false), (13, false), (14, false), (15, false), (16, false), (17, false), (18, false), (19, false), (20, false), (21, false), (22, false), (23, false), (24, false)] (by kernel_rfl) ?_
        refine mv0 rfl rfl ?_
        refine mv0 rfl rfl ?_
        cases c486 : t472.2
        · replace H := Gets.cf H c486
          refine sk rfl rfl rfl rfl rfl ?_
          refine sk rfl rfl rfl rfl rfl ?_
          refine sk rfl rfl rfl rfl rfl ?_
          refine sk rfl rfl rfl rfl rfl ?_
          refine sk rfl rfl rfl rfl rfl ?_
          refine sk rfl rfl rfl rfl rfl ?_
          refine sk rfl rfl rfl rfl rfl ?_
          refine sk rfl rfl rfl rfl rfl ?_
          refine sk rfl rfl rfl rfl rfl ?_
          refine sk rfl rfl rfl rfl rfl ?_
          refine Dv.skip rfl ⟨_, _, rfl, rfl, .inr rfl⟩ ?_
          refine Dv.skip rfl ⟨_, _, rfl, rfl, .inr rfl⟩ ?_
          refine Dv.skip rfl ⟨_, _, rfl, rfl, .inr rfl⟩ ?_
          refine Dv.skip rfl ⟨_, _, rfl, rfl, .inr rfl⟩ ?_
          refine Dv.skip rfl ⟨_, _, rfl, rfl, .inr rfl⟩ ?_
          refine Dv.skip rfl ⟨_, _, rfl, rfl, .inr rfl⟩ ?_
          refine Dv.skip rfl ⟨_, _, rfl, rfl, .inr rfl⟩ ?_
          refine Dv.skip rfl ⟨_, _, rfl, rfl, .inr rfl⟩ ?_
          refine Dv.skip rfl ⟨_, _, rfl, rfl, .inr rfl⟩ ?_
          refine Dv.skip rfl ⟨_, _, rfl, rfl, .inr rfl⟩ ?_
          refine sk rfl rfl rfl rfl rfl ?_
          refine Dv.pickF rfl trivial rfl rfl ?_
          refine as0 rfl rfl ?_
          refine .fin ?_
          refine WP.cond rfl nofun (fun _ => ?_)
          refine WP.seq ?_
          refine WP.reg [(0, false), (1, false)] (by kernel_rfl) ?_
          refine mv0 rfl rfl ?_
          refine as0 rfl rfl ?_
          refine .fin ?_
          refine WP.cond rfl nofun (fun _ => ?_)
          refine WP.dreg Tryz.checked.mixed [(0, false), (1, false), (2, false), (3, false), (4, false), (5, false), (6, false), (7, false), (8, true), (9, false), (10, false), (11, true)] (by kernel_rfl) ?_
          refine mv0 rfl rfl ?_
          refine mv0 rfl rfl ?_
          refine Dv.nilpp h471 rfl trivial rfl ?_
          refine Dv.fabp h471 rfl trivial rfl Tryz.underlying56 rfl Tryz.underlying22 c22 (by decide) ?_
          refine Dv.ldb rfl trivial rfl Tryz.underlying22 rfl (mem_at 0 rfl) rfl ?_
          refine mv0 rfl rfl ?_
          refine Dv.ldbs rfl trivial rfl Tryz.underlying30 rfl c30 (mem_at 3 rfl) (Nat.le_of_ble_eq_true rfl) ?_
          refine Dv.lit Edu.K ([a1] : List Edu) (css := [Edu.enc a1]) rfl trivial Tryz.underlying22 Tryz.underlying30 c30 z30 rfl (by decide) (by decide) rfl ⟨(cells_agg (Edu.K.one _)), trivial⟩ rfl rfl rfl ?_
          obtain ⟨t501, h502, H⟩ := Gets.call H
          refine Dv.callx (pre := [own Edu.K g470.2.1.1 a0.fl]) (F := [blk g470.1 56 [eq g470.2.1.1, eq g470.2.2.1], HHeap.O g470.2.2 a0.fends, blk b464 30 [eq (.int .i64 a1.fKind), eq (.string a1.fRoom), eq (.string a1.fUser), eq (.string a1.fEvent), eq (.string a1.fThread), eq (.bool a1.fPrivate), eq (.bool a1.fOn), eq (.int .i64 a1.fSpan), eq (.int .i64 a1.fState), eq (.int .i64 a1.fTick), eq (.int .i64 a1.fStamp)]] ++ F) (fun g503 : OV => [own Edu.K g503.1 t501, blk g470.1 56 [eq g470.2.1.1, eq g470.2.2.1], HHeap.O g470.2.2 a0.fends, blk b464 30 [eq (.int .i64 a1.fKind), eq (.string a1.fRoom), eq (.string a1.fUser), eq (.string a1.fEvent), eq (.string a1.fThread), eq (.bool a1.fPrivate), eq (.bool a1.fOn), eq (.int .i64 a1.fSpan), eq (.int .i64 a1.fState), eq (.int .i64 a1.fTick), eq (.int .i64 a1.fStamp)]] ++ F) rfl trivial cal29 rfl (slices_Insert_Edu.c h502 (p0_ := g470.2.1)) (perm_ton 4 [1, 0, 2, 3] rfl rfl rfl) rfl (fun _ => pendc (pend_by (by kernel_rfl) (pend_by (by kernel_rfl) (pend_by (by kernel_rfl) (pend_by (by kernel_rfl) (pend_by (by kernel_rfl) (pend_by (by kernel_rfl) (pend_by (by kernel_rfl) (pend_in (fun _ => trivial) pend_nil))))))))) (fun g503 _ => ?_)
          refine Dv.nilpp h471 rfl trivial rfl ?_
          refine Dv.fabp h471 rfl trivial rfl Tryz.underlying56 rfl Tryz.underlying22 c22 (by decide) ?_
          refine Dv.stx ([own Edu.K g503.1 t501, blk g470.1 56 [eq g503.1, eq g470.2.2.1], HHeap.O g470.2.2 a0.fends, blk b464 30 [eq (.int .i64 a1.fKind), eq (.string a1.fRoom), eq (.string a1.fUser), eq (.string a1.fEvent), eq (.string a1.fThread), eq (.bool a1.fPrivate), eq (.bool a1.fOn), eq (.int .i64 a1.fSpan), eq (.int .i64 a1.fState), eq (.int .i64 a1.fTick), eq (.int .i64 a1.fStamp)]] ++ F) rfl trivial rfl rfl (cells_one one_ov) Tryz.underlying22 c22 rfl (j := 1) rfl (Nat.le_of_ble_eq_true rfl) rfl (fun _ => pend_bits (by kernel_rfl)) ?_
          refine .fin ?_
          replace H := Gets.out H
          refine Dn.gh (l' := fun _ : Unit => [TTab.O p0_ (⟨t501, a0.fends⟩ : TTab), blk b464 30 [eq (.int .i64 a1.fKind), eq (.string a1.fRoom), eq (.string a1.fUser), eq (.string a1.fEvent), eq (.string a1.fThread), eq (.bool a1.fPrivate), eq (.bool a1.fOn), eq (.int .i64 a1.fSpan), eq (.int .i64 a1.fState), eq (.int .i64 a1.fTick), eq (.int .i64 a1.fStamp)]] ++ F) (gh_of (TTab.shut (p := p0_) (m := (⟨t501, a0.fends⟩ : TTab)) (r := [blk b464 30 [eq (.int .i64 a1.fKind), eq (.string a1.fRoom), eq (.string a1.fUser), eq (.string a1.fEvent), eq (.string a1.fThread), eq (.bool a1.fPrivate), eq (.bool a1.fOn), eq (.int .i64 a1.fSpan), eq (.int .i64 a1.fState), eq (.int .i64 a1.fTick), eq (.int .i64 a1.fStamp)]] ++ F) (g470.1, g503, g470.2.2) h471 (perm_ton 4 [1, 0, 2, 3] rfl rfl rfl))) (fun _ _ => ?_)
          refine Dn.gh (l' := fun _ : Unit => [blk b464 30 [eq (.int .i64 a1.fKind), eq (.string a1.fRoom), eq (.string a1.fUser), eq (.string a1.fEvent), eq (.string a1.fThread), eq (.bool a1.fPrivate), eq (.bool a1.fOn), eq (.int .i64 a1.fSpan), eq (.int .i64 a1.fState), eq (.int .i64 a1.fTick), eq (.int .i64 a1.fStamp)], TTab.O p0_ (⟨t501, a0.fends⟩ : TTab)] ++ F) (gh_of (st_selgn 2 [1, 0] 0 rfl rfl rfl)) (fun _ _ => ?_)
          exact Jn.mk (false, false, false, (⟨t501, a0.fends⟩ : TTab)) H (weak_cons rfl (weak_cons rfl (weak_cons rfl (weak_cons rfl (weak_cons rfl (weak_cons rfl (weak_cons rfl (weak_cons rfl (weak_cons rfl (weak_cons rfl weak_nil)))))))))) (List.Perm.refl _)
        · replace H := Gets.ct H c486
          refine Dv.mv rfl ⟨_, _, rfl, rfl, rfl⟩ rfl ?_
          refine Dv.nilpp h471 rfl ⟨_, _, rfl, rfl, rfl⟩ rfl ?_
          refine Dv.fabp h471 rfl ⟨_, _, rfl, rfl, rfl⟩ rfl Tryz.underlying56 rfl Tryz.underlying22 c22 (by decide) ?_
          refine Dv.ldb rfl ⟨_, _, rfl, rfl, rfl⟩ rfl Tryz.underlying22 rfl (mem_at 0 rfl) rfl ?_
          refine Dv.mv rfl ⟨_, _, rfl, rfl, rfl⟩ rfl ?_
          obtain ⟨g487, H⟩ := Gets.grd H
          have h488 : t472.1.toNat < a0.fl.length := idx_lt g487
          refine Dv.ixw rfl ⟨_, _, rfl, rfl, rfl⟩ rfl (mem_at 1 rfl) rfl Tryz.underlying22 Tryz.underlying30 c30 g487.1 g487.2 ?_
          refine Dv.ldws (j := t472.1.toNat) (f := 0) rfl ⟨_, _, rfl, rfl, rfl⟩ rfl (mem_at 1 rfl) h488 Tryz.underlying30 rfl c30 (Nat.le_of_ble_eq_true rfl) ?_
          refine Dv.ldbs rfl ⟨_, _, rfl, rfl, rfl⟩ rfl Tryz.underlying30 rfl c30 (mem_at 3 rfl) (Nat.le_of_ble_eq_true rfl) ?_
          refine Dv.eqs [.int .i64 ((a0.fl.getD t472.1.toNat default).fKind), .string ((a0.fl.getD t472.1.toNat default).fRoom), .string ((a0.fl.getD t472.1.toNat default).fUser), .string ((a0.fl.getD t472.1.toNat default).fEvent), .string ((a0.fl.getD t472.1.toNat default).fThread), .bool ((a0.fl.getD t472.1.toNat default).fPrivate), .bool ((a0.fl.getD t472.1.toNat default).fOn), .int .i64 ((a0.fl.getD t472.1.toNat default).fSpan), .int .i64 ((a0.fl.getD t472.1.toNat default).fState), .int .i64 ((a0.fl.getD t472.1.toNat default).fTick), .int .i64 ((a0.fl.getD t472.1.toNat default).fStamp)] [.int .i64 a1.fKind, .string a1.fRoom, .string a1.fUser, .string a1.fEvent, .string a1.fThread, .bool a1.fPrivate, .bool a1.fOn, .int .i64 a1.fSpan, .int .i64 a1.fState, .int .i64 a1.fTick, .int .i64 a1.fStamp] rfl ⟨_, _, rfl, rfl, rfl⟩ rfl rfl rfl rfl eg30 (fun _ => equal_of 2 (by decide) (fun _ => eqt30 (a0.fl.getD t472.1.toNat default) a1)) ?_
          refine Dv.mv rfl ⟨_, _, rfl, rfl, rfl⟩ rfl ?_
          cases c489 : decide (a0.fl.getD t472.1.toNat default = a1)
          · replace H := Gets.cf H c489
            refine Dv.ldbs rfl ⟨_, _, rfl, rfl, rfl⟩ rfl Tryz.underlying30 rfl c30 (mem_at 3 rfl) (Nat.le_of_ble_eq_true rfl) ?_
            refine Dv.mv rfl ⟨_, _, rfl, rfl, rfl⟩ rfl ?_
            refine Dv.nilpp h471 rfl ⟨_, _, rfl, rfl, rfl⟩ rfl ?_
            refine Dv.fabp h471 rfl ⟨_, _, rfl, rfl, rfl⟩ rfl Tryz.underlying56 rfl Tryz.underlying22 c22 (by decide) ?_
            refine Dv.ldb rfl ⟨_, _, rfl, rfl, rfl⟩ rfl Tryz.underlying22 rfl (mem_at 0 rfl) rfl ?_
            refine Dv.mv rfl ⟨_, _, rfl, rfl, rfl⟩ rfl ?_
            obtain ⟨g491, H⟩ := Gets.grd H
            have h492 : t472.1.toNat < a0.fl.length := idx_lt g491
            refine Dv.ixw rfl ⟨_, _, rfl, rfl, rfl⟩ rfl (mem_at 1 rfl) rfl Tryz.underlying22 Tryz.underlying30 c30 g491.1 g491.2 ?_
            refine Dv.ldws (j := t472.1.toNat) (f := 0) rfl ⟨_, _, rfl, rfl, rfl⟩ rfl (mem_at 1 rfl) h492 Tryz.underlying30 rfl c30 (Nat.le_of_ble_eq_true rfl) ?_
            obtain ⟨t493, h494, H⟩ := Gets.call H
            refine Dv.call rfl ⟨_, _, rfl, rfl, rfl⟩ cal28 rfl (edu_Later.c h494) ?_
            refine Dv.un rfl ⟨_, _, rfl, rfl, rfl⟩ rfl (fun _ => run_not _) ?_
            refine Dv.pickF rfl ⟨_, _, rfl, rfl, rfl⟩ rfl rfl ?_
            refine Dv.pickT rfl trivial rfl rfl ?_
            refine as0 rfl rfl ?_
            refine .fin ?_
            refine WP.cond rfl (fun c495 => ?_) (fun c495 => ?_)
            · replace H := Gets.ct H c495
              refine WP.seq ?_
              refine WP.reg [(0, false), (1, false)] (by kernel_rfl) ?_
              refine as0 rfl rfl ?_
              refine as0 rfl rfl ?_
              refine .fin ?_
              refine WP.gh (l' := fun _ : Unit => [TTab.O p0_ a0, blk b464 30 [eq (.int .i64 a1.fKind), eq (.string a1.fRoom), eq (.string a1.fUser), eq (.string a1.fEvent), eq (.string a1.fThread), eq (.bool a1.fPrivate), eq (.bool a1.fOn), eq (.int .i64 a1.fSpan), eq (.int .i64 a1.fState), eq (.int .i64 a1.fTick), eq (.int .i64 a1.fStamp)]] ++ F) (gh_of (TTab.shut (p := p0_) (m := a0) (r := [blk b464 30 [eq (.int .i64 a1.fKind), eq (.string a1.fRoom), eq (.string a1.fUser), eq (.string a1.fEvent), eq (.string a1.fThread), eq (.bool a1.fPrivate), eq (.bool a1.fOn), eq (.int .i64 a1.fSpan), eq (.int .i64 a1.fState), eq (.int .i64 a1.fTick), eq (.int .i64 a1.fStamp)]] ++ F) (g470.1, g470.2.1, g470.2.2) h471 (perm_ton 4 [0, 1, 2, 3] rfl rfl rfl))) (fun _ _ => ?_)
              replace H := Gets.outr H
              obtain rfl := Gets.out H
              exact WP.retL (fun _ _ h => h) rfl () trivial (.cons (res_tmp rfl) (.cons (res_tmp rfl) .nil)) rfl (st_seln 2 [1, 0] 1 rfl rfl rfl)
            · replace H := Gets.cf H c495
              refine WP.seq ?_
              refine WP.reg [(0, false), (1, false)] (by kernel_rfl) ?_
              refine mv0 rfl rfl ?_
              refine as0 rfl rfl ?_
              refine .fin ?_
              refine WP.cond rfl (fun _ => ?_) nofun
              refine WP.dreg Tryz.checked.mixed [(0, false), (1, false), (2, false), (3, false), (4, false), (5, false), (6, false), (7, true)] (by kernel_rfl) ?_
              refine mv0 rfl rfl ?_
              refine Dv.nilpp h471 rfl trivial rfl ?_
              refine Dv.fabp h471 rfl trivial rfl Tryz.underlying56 rfl Tryz.underlying22 c22 (by decide) ?_
              refine Dv.ldb rfl trivial rfl Tryz.underlying22 rfl (mem_at 0 rfl) rfl ?_
              refine mv0 rfl rfl ?_
              refine Dv.ldbs rfl trivial rfl Tryz.underlying30 rfl c30 (mem_at 3 rfl) (Nat.le_of_ble_eq_true rfl) ?_
              obtain ⟨g497, H⟩ := Gets.grd H
              have h498 : t472.1.toNat < a0.fl.length := idx_lt g497
              refine Dv.ixw rfl trivial rfl (mem_at 1 rfl) rfl Tryz.underlying22 Tryz.underlying30 c30 g497.1 g497.2 ?_
              refine Dv.stw (j := t472.1.toNat) (f := 0) (jj := 1) a1 rfl trivial rfl rfl (cells_agg (Edu.K.one _)) Tryz.underlying30 c30 rfl rfl h498 (Nat.le_of_ble_eq_true rfl) rfl (fun _ => pend_bits (by kernel_rfl)) ?_
              refine .fin ?_
              replace H := Gets.out H
              refine Dn.gh (l' := fun _ : Unit => [TTab.O p0_ (⟨a0.fl.set t472.1.toNat a1, a0.fends⟩ : TTab), blk b464 30 [eq (.int .i64 a1.fKind), eq (.string a1.fRoom), eq (.string a1.fUser), eq (.string a1.fEvent), eq (.string a1.fThread), eq (.bool a1.fPrivate), eq (.bool a1.fOn), eq (.int .i64 a1.fSpan), eq (.int .i64 a1.fState), eq (.int .i64 a1.fTick), eq (.int .i64 a1.fStamp)]] ++ F) (gh_of (TTab.shut (p := p0_) (m := (⟨a0.fl.set t472.1.toNat a1, a0.fends⟩ : TTab)) (r := [blk b464 30 [eq (.int .i64 a1.fKind), eq (.string a1.fRoom), eq (.string a1.fUser), eq (.string a1.fEvent), eq (.string a1.fThread), eq (.bool a1.fPrivate), eq (.bool a1.fOn), eq (.int .i64 a1.fSpan), eq (.int .i64 a1.fState), eq (.int .i64 a1.fTick), eq (.int .i64 a1.fStamp)]] ++ F) (g470.1, g470.2.1, g470.2.2) h471 (perm_ton 4 [0, 1, 2, 3] rfl rfl rfl))) (fun _ _ => ?_)
              refine Dn.gh (l' := fun _ : Unit => [blk b464 30 [eq (.int .i64 a1.fKind), eq (.string a1.fRoom), eq (.string a1.fUser), eq (.string a1.fEvent), eq (.string a1.fThread), eq (.bool a1.fPrivate), eq (.bool a1.fOn), eq (.int .i64 a1.fSpan), eq (.int .i64 a1.fState), eq (.int .i64 a1.fTick), eq (.int .i64 a1.fStamp)], TTab.O p0_ (⟨a0.fl.set t472.1.toNat a1, a0.fends⟩ : TTab)] ++ F) (gh_of (st_selgn 2 [1, 0] 0 rfl rfl rfl)) (fun _ _ => ?_)
              exact Jn.mk (true, !t493, true, (⟨a0.fl.set t472.1.toNat a1, a0.fends⟩ : TTab)) H (weak_cons rfl (weak_cons rfl (weak_cons rfl (weak_cons rfl (weak_cons rfl (weak_cons rfl (weak_cons rfl (weak_cons rfl (weak_cons rfl (weak_cons rfl weak_nil)))))))))) (List.Perm.refl _)
          · replace H := Gets.ct H c489
            refine sk rfl rfl rfl rfl rfl ?_
            refine sk rfl rfl rfl rfl rfl ?_
            refine sk rfl rfl rfl rfl rfl ?_
            refine sk rfl rfl rfl rfl rfl ?_
            refine sk rfl rfl rfl rfl rfl ?_
            refine sk rfl rfl rfl rfl rfl ?_
            refine sk rfl rfl rfl rfl rfl ?_
            refine sk rfl rfl rfl rfl rfl ?_
            refine sk rfl rfl rfl rfl rfl ?_
            refine sk rfl rfl rfl rfl rfl ?_
            refine Dv.pickT rfl ⟨_, _, rfl, rfl, rfl⟩ rfl rfl ?_
            refine Dv.pickT rfl trivial rfl rfl ?_
            refine as0 rfl rfl ?_
            refine .fin ?_
            refine WP.cond rfl (fun _ => ?_) nofun
            refine WP.seq ?_
            refine WP.reg [(0, false), (1, false)] (by kernel_rfl) ?_
            refine as0 rfl rfl ?_
            refine as0 rfl rfl ?_
            refine .fin ?_
            refine WP.gh (l' := fun _ : Unit => [TTab.O p0_ a0, blk b464 30 [eq (.int .i64 a1.fKind), eq (.string a1.fRoom), eq (.string a1.fUser), eq (.string a1.fEvent), eq (.string a1.fThread), eq (.bool a1.fPrivate), eq (.bool a1.fOn), eq (.int .i64 a1.fSpan), eq (.int .i64 a1.fState), eq (.int .i64 a1.fTick), eq (.int .i64 a1.fStamp)]] ++ F) (gh_of (TTab.shut (p := p0_) (m := a0) (r := [blk b464 30 [eq (.int .i64 a1.fKind), eq (.string a1.fRoom), eq (.string a1.fUser), eq (.string a1.fEvent), eq (.string a1.fThread), eq (.bool a1.fPrivate), eq (.bool a1.fOn), eq (.int .i64 a1.fSpan), eq (.int .i64 a1.fState), eq (.int .i64 a1.fTick), eq (.int .i64 a1.fStamp)]] ++ F) (g470.1, g470.2.1, g470.2.2) h471 (perm_ton 4 [0, 1, 2, 3] rfl rfl rfl))) (fun _ _ => ?_)
            replace H := Gets.outr H
            obtain rfl := Gets.out H
            exact WP.retL (fun _ _ h => h) rfl () trivial (.cons (res_tmp rfl) (.cons (res_tmp rfl) .nil)) rfl (st_seln 2 [1, 0] 1 rfl rfl rfl)
  · replace H := Gets.ct H c465
    refine sk rfl rfl rfl rfl rfl ?_
    refine sk rfl rfl rfl rfl rfl ?_
    refine sk rfl rfl rfl rfl rfl ?_
    refine Dv.pickT rfl trivial rfl rfl ?_
    refine .fin ?_
    refine WP.cond rfl (fun _ => ?_) nofun
    refine WP.seq ?_
    refine WP.reg [(0, false), (1, false)] (by kernel_rfl) ?_
    refine as0 rfl rfl ?_
    refine as0 rfl rfl ?_
    refine .fin ?_
    obtain rfl := Gets.out H
    exact WP.retL (fun _ _ h => h) rfl () trivial (.cons (res_tmp rfl) (.cons (res_tmp rfl) .nil)) rfl (st_seln 2 [0, 1] 1 rfl rfl rfl)
theorem heap_Heap_Due.c {k : Nat} {a0 : HHeap} {a1 : Int} {p0_ : OV} {r : (List ByteArray) × HHeap} (h : heap_Heap_Due.f k a0 a1 = some r) : Tr Tryz.prog 34 [eq p0_.1, eq (.int .i64 a1)] [HHeap.O p0_ a0] (γ := OV) (fun _ => True) (fun g => eq g.1) (fun g => [HHeap.O p0_ r.2, own strK g.1 r.1]) := by
  unfold heap_Heap_Due.f at h
  refine Tr.body Tryz.func34 (c := _) rfl Tryz.ntmps34 (Nat.le_of_ble_eq_true rfl) fun R0 F => ?_
  replace h := Gets.of h
  have H := h
  clear h
  refine WP.seq ?_
  refine WP.reg [(0, false)] (by kernel_rfl) ?_
  refine as0 rfl rfl ?_
  refine .fin ?_
  refine WP.seq ?_
  refine WP.reg [(0, false)] (by kernel_rfl) ?_
  refine as0 rfl rfl ?_
  refine .fin ?_
  refine WP.seqn H (fun q526 : (Bool × HHeap × (List ByteArray)) × OV => q526.1) (fun q526 : (Bool × HHeap × (List ByteArray)) × OV => [(0, eq p0_.1), (1, eq (.int .i64 a1)), (4, eq (.slice none 0 0)), (5, eq q526.2.1), (22, eq (.bool q526.1.1))]) (fun q526 : (Bool × HHeap × (List ByteArray)) × OV => [HHeap.O p0_ q526.1.2.1, own strK q526.2.1 q526.1.2.2] ++ F) (fun q526 H => ?_) (fun H => ?_)
  · obtain ⟨p504, v505⟩ := q526
    refine WP.seq ?_
    refine WP.reg [(0, false), (1, false)] (by kernel_rfl) ?_
    refine mv0 rfl rfl ?_
    refine as0 rfl rfl ?_
    refine .fin ?_
    obtain rfl := Gets.out H
    exact WP.retL (fun _ _ h => h) rfl v505 trivial (.cons (res_tmp rfl) .nil) rfl (st_seln 2 [0, 1] 0 rfl rfl rfl)
  · refine WP.block ?_
    refine WP.gh (gh_of (st_nil strK none)) (fun _ _ => ?_)
    refine WP.gh (l' := fun _ => [HHeap.O p0_ a0, own strK nilV.1 ([] : List ByteArray)] ++ F) (gh_of (st_selgn 2 [1, 0] 0 rfl rfl rfl)) (fun _ _ => ?_)
    refine WP.loopg (fun j_ (p525 : HHeap × (List ByteArray) × OV) => heap_Heap_Due.l0 k a1 j_ p525.1 p525.2.1) (a0, ([] : List ByteArray), nilV) H (fun p525 => [(0, eq p0_.1), (1, eq (.int .i64 a1)), (4, eq (.slice none 0 0)), (5, eq p525.2.2.1)]) (fun p525 => [HHeap.O p0_ p525.1, own strK p525.2.2.1 p525.2.1] ++ F) (weak_cons rfl (weak_cons rfl (weak_cons rfl (weak_cons rfl weak_nil)))) (List.Perm.refl _) ?_
    rintro j_ ⟨x506, x507, v508⟩ H
    rcases j_ with _ | j524
    · exact (Gets.no H).elim
    replace H : Gets (heap_Heap_Due.l0 k a1 (j524 + 1) x506 x507) _ := H
    rw [heap_Heap_Due.l0] at H
    refine WP.seq ?_
    refine WP.seq ?_
    refine WP.reg [(0, false), (1, false), (2, false), (3, false), (4, false), (5, false), (6, false), (7, false), (8, false), (9, false), (10, false), (11, false), (12, false), (13, false), (14, false), (15, false), (16, false)] (by kernel_rfl) ?_
    refine mv0 rfl rfl ?_
    refine Dv.nilA HHeap.nn rfl trivial rfl (mem_at 0 rfl) ?_
    refine Dv.gh (l' := fun (g509 : Nat × OV × OV) => [blk g509.1 80 [eq g509.2.1.1, eq g509.2.2.1], own HEnt.K g509.2.1.1 x506.fl, mp Value.string (fun x : Int => eq (.int .i64 x)) g509.2.2.1 x506.fat, own strK v508.1 x507] ++ F) (gh_of (HHeap.opn 0 rfl)) (fun g509 h510 => ?_)
    refine Dv.fabp h510 rfl trivial rfl Tryz.underlying80 rfl Tryz.underlying78 c78 (by decide) ?_
    refine Dv.ldb rfl trivial rfl Tryz.underlying78 rfl (mem_at 0 rfl) rfl ?_
    refine Dv.lenw rfl trivial rfl (mem_at 1 rfl) Tryz.underlying78 ?_
    refine Dv.bin rfl trivial rfl rfl (fun _ => run_gt) ?_
    refine mv0 rfl rfl ?_
    cases c511 : decide (0 < (x506.fl.length : Int))
    · replace H := Gets.cf H c511
      refine sk rfl rfl rfl rfl rfl ?_
      refine sk rfl rfl rfl rfl rfl ?_
      refine sk rfl rfl rfl rfl rfl ?_
      refine sk rfl rfl rfl rfl rfl ?_
      refine sk rfl rfl rfl rfl rfl ?_
      refine sk rfl rfl rfl rfl rfl ?_
      refine sk rfl rfl rfl rfl rfl ?_
      refine sk rfl rfl rfl rfl rfl ?_
      refine sk rfl rfl rfl rfl rfl ?_
      refine Dv.pickF rfl trivial rfl rfl ?_
      refine .fin ?_
      refine WP.cond rfl nofun (fun _ => ?_)
      refine WP.exit ?_
      replace H := Gets.out H
      refine Dn.gh (l' := fun _ : Unit => [HHeap.O p0_ x506, own strK v508.1 x507] ++ F) (gh_of (HHeap.shut (p := p0_) (m := x506) (r := [own strK v508.1 x507] ++ F) (g509.1, g509.2.1, g509.2.2) h510 (perm_ton 4 [0, 1, 2, 3] rfl rfl rfl))) (fun _ _ => ?_)
      exact Jn.mk ((false, x506, x507), v508) H (weak_cons rfl (weak_cons rfl (weak_cons rfl (weak_cons rfl (weak_cons rfl weak_nil))))) (List.Perm.refl _)
    · replace H := Gets.ct H c511
      refine Dv.mv rfl ⟨_, _, rfl, rfl, rfl⟩ rfl ?_
      refine Dv.nilpp h510 rfl ⟨_, _, rfl, rfl, rfl⟩ rfl ?_
      refine Dv.fabp h510 rfl ⟨_, _, rfl, rfl, rfl⟩ rfl Tryz.underlying80 rfl Tryz.underlying78 c78 (by decide) ?_
      refine Dv.ldb rfl ⟨_, _, rfl, rfl, rfl⟩ rfl Tryz.underlying78 rfl (mem_at 0 rfl) rfl ?_
      obtain ⟨g512, H⟩ := Gets.grd H
      have h513 : (0 : Int).toNat < x506.fl.length := idx_lt g512
      refine Dv.ixw rfl ⟨_, _, rfl, rfl, rfl⟩ rfl (mem_at 1 rfl) rfl Tryz.underlying78 Tryz.underlying72 c72 g512.1 g512.2 ?_
      refine Dv.faw rfl ⟨_, _, rfl, rfl, rfl⟩ rfl Tryz.underlying72 rfl Tryz.underlying3 c3 (by decide) ?_
      refine Dv.ldw (j := ((0 : Int).toNat)) (f := 0) (p := eq (.int .i64 ((x506.fl.getD ((0 : Int).toNat) default).fAt))) rfl ⟨_, _, rfl, rfl, rfl⟩ rfl (mem_at 1 rfl) h513 Tryz.underlying3 rfl rfl ?_
      refine Dv.mv rfl ⟨_, _, rfl, rfl, rfl⟩ rfl ?_
      refine Dv.bin rfl ⟨_, _, rfl, rfl, rfl⟩ rfl rfl (fun _ => run_le) ?_
      refine Dv.pickT rfl trivial rfl rfl ?_
      refine .fin ?_
      refine WP.cond rfl (fun c514 => ?_) (fun c514 => ?_)
      · replace H := Gets.ct H c514
        refine WP.skip ?_
        refine WP.block ?_
        refine WP.seq ?_
        refine WP.reg [(0, false), (1, false), (2, false), (3, false), (4, false), (5, false), (6, false), (7, false), (8, false), (9, true), (10, false)] (by kernel_rfl) ?_
        refine mv0 rfl rfl ?_
        refine mv0 rfl rfl ?_
        refine Dv.nilpp h510 rfl trivial rfl ?_
        refine Dv.fabp h510 rfl trivial rfl Tryz.underlying80 rfl Tryz.underlying78 c78 (by decide) ?_
        refine Dv.ldb rfl trivial rfl Tryz.underlying78 rfl (mem_at 0 rfl) rfl ?_
        obtain ⟨g515, H⟩ := Gets.grd H
        have h516 : (0 : Int).toNat < x506.fl.length := idx_lt g515
        refine Dv.ixw rfl trivial rfl (mem_at 1 rfl) rfl Tryz.underlying78 Tryz.underlying72 c72 g515.1 g515.2 ?_
        refine Dv.faw rfl trivial rfl Tryz.underlying72 rfl Tryz.underlying9 c9 (by decide) ?_
        refine Dv.ldw (j := ((0 : Int).toNat)) (f := 1) (p := eq (.string ((x506.fl.getD ((0 : Int).toNat) default).fKey))) rfl trivial rfl (mem_at 1 rfl) h516 Tryz.underlying9 rfl rfl ?_
        refine Dv.lit strK ([(x506.fl.getD ((0 : Int).toNat) default).fKey] : List ByteArray) (css := [[eq (.string ((x506.fl.getD ((0 : Int).toNat) default).fKey))]]) rfl trivial Tryz.underlying37 Tryz.underlying9 c9 z9 rfl (by decide) (by decide) rfl ⟨(cells_one (one_eq rfl)), trivial⟩ rfl rfl rfl ?_
        obtain ⟨g517, H⟩ := Gets.grd H
        refine Dv.appx (jj := 3) (ys := ([(x506.fl.getD ((0 : Int).toNat) default).fKey] : List ByteArray)) (fun v518 : OV => [blk g509.1 80 [eq g509.2.1.1, eq g509.2.2.1], own HEnt.K g509.2.1.1 x506.fl, mp Value.string (fun x : Int => eq (.int .i64 x)) g509.2.2.1 x506.fat, own strK v518.1 (x507 ++ ([(x506.fl.getD ((0 : Int).toNat) default).fKey] : List ByteArray))] ++ F) rfl trivial rfl rfl rfl src_sl Tryz.underlying37 (.inr ⟨_, Tryz.underlying37⟩) inf9 rfl (by decide) g517 rfl nofun (fun v518 => ?_)
        refine as0 rfl rfl ?_
        refine .fin ?_
        refine WP.reg [(0, false), (1, false), (2, false), (3, false), (4, false), (5, false), (6, false), (7, false), (8, true)] (by kernel_rfl) ?_
        refine mv0 rfl rfl ?_
        refine mv0 rfl rfl ?_
        refine Dv.nilpp h510 rfl trivial rfl ?_
        refine Dv.fabp h510 rfl trivial rfl Tryz.underlying80 rfl Tryz.underlying78 c78 (by decide) ?_
        refine Dv.ldb rfl trivial rfl Tryz.underlying78 rfl (mem_at 0 rfl) rfl ?_
        obtain ⟨g519, H⟩ := Gets.grd H
        have h520 : (0 : Int).toNat < x506.fl.length := idx_lt g519
        refine Dv.ixw rfl trivial rfl (mem_at 1 rfl) rfl Tryz.underlying78 Tryz.underlying72 c72 g519.1 g519.2 ?_
        refine Dv.faw rfl trivial rfl Tryz.underlying72 rfl Tryz.underlying9 c9 (by decide) ?_
        refine Dv.ldw (j := ((0 : Int).toNat)) (f := 1) (p := eq (.string ((x506.fl.getD ((0 : Int).toNat) default).fKey))) rfl trivial rfl (mem_at 1 rfl) h520 Tryz.underlying9 rfl rfl ?_
        refine Dv.gh (l' := fun _ : Unit => [HHeap.O p0_ x506, own strK v518.1 (x507 ++ ([(x506.fl.getD ((0 : Int).toNat) default).fKey] : List ByteArray))] ++ F) (gh_of (HHeap.shut (p := p0_) (m := x506) (r := [own strK v518.1 (x507 ++ ([(x506.fl.getD ((0 : Int).toNat) default).fKey] : List ByteArray))] ++ F) (g509.1, g509.2.1, g509.2.2) h510 (perm_ton 4 [0, 1, 2, 3] rfl rfl rfl))) (fun _ _ => ?_)
        obtain ⟨t521, h522, H⟩ := Gets.call H
        refine Dv.callx (pre := [HHeap.O p0_ x506]) (F := [own strK v518.1 (x507 ++ ([(x506.fl.getD ((0 : Int).toNat) default).fKey] : List ByteArray))] ++ F) (fun _ : Unit => [HHeap.O p0_ t521.2, own strK v518.1 (x507 ++ ([(x506.fl.getD ((0 : Int).toNat) default).fKey] : List ByteArray))] ++ F) rfl trivial cal30 rfl (heap_Heap_Drop.c h522 (p0_ := p0_)) (perm_ton 2 [0, 1] rfl rfl rfl) rfl nofun (fun _ _ => ?_)
        refine .fin ?_
        exact Back.mk j524 (t521.2, x507 ++ ([(x506.fl.getD ((0 : Int).toNat) default).fKey] : List ByteArray), v518) (Nat.lt_succ_self _) H (weak_cons rfl (weak_cons rfl (weak_cons rfl (weak_cons rfl weak_nil)))) (List.Perm.refl _)
      · replace H := Gets.cf H c514
        refine WP.exit ?_
        replace H := Gets.out H
        refine Dn.gh (l' := fun _ : Unit => [HHeap.O p0_ x506, own strK v508.1 x507] ++ F) (gh_of (HHeap.shut (p := p0_) (m := x506) (r := [own strK v508.1 x507] ++ F) (g509.1, g509.2.1, g509.2.2) h510 (perm_ton 4 [0, 1, 2, 3] rfl rfl rfl))) (fun _ _ => ?_)
        exact Jn.mk ((decide (((x506.fl.getD ((0 : Int).toNat) default).fAt) ≤ a1), x506, x507), v508) H (weak_cons rfl (weak_cons rfl (weak_cons rfl (weak_cons rfl (weak_cons rfl weak_nil))))) (List.Perm.refl _)
theorem slices_Sort_string.c {a0 : List ByteArray} {p0_ : OV} {r : List ByteArray} (h : slices_Sort_string.f a0 = some r) : Tr Tryz.prog 36 [eq p0_.1] [own strK p0_.1 a0] (γ := Unit) (fun _ => True) (fun g => tup []) (fun g => [own strK p0_.1 r]) := by
  unfold slices_Sort_string.f at h
  obtain ⟨h0, h5⟩ := (Gets.of h).grd
  obtain rfl := Gets.out h5
  exact sort_tr (fun blk off cap ss w => Go.Proofs.Any.slices_Sort_string Tryz.lays190 blk off cap ss w) (fun q cap w => Go.Proofs.Any.slices_Sort_string_none Tryz.lays190 q cap w) h0

theorem slices_Compact_string.c {a0 : List ByteArray} {p0_ : OV} {r : List ByteArray} (h : slices_Compact_string.f a0 = some r) : Tr Tryz.prog 37 [eq p0_.1] [own strK p0_.1 a0] (γ := OV) (fun _ => True) (fun g => eq g.1) (fun g => [own strK g.1 r]) := by
  unfold slices_Compact_string.f at h
  obtain ⟨h0, h5⟩ := (Gets.of h).grd
  obtain rfl := Gets.out h5
  exact compact_tr (fun blk off cap ss w => Go.Proofs.Any.slices_Compact_string Tryz.lays194 blk off cap ss w) (fun q cap w => Go.Proofs.Any.slices_Compact_string_empty Tryz.lays194 q cap w) h0

theorem typing_Table_Ended.c {k : Nat} {a0 : TTab} {a1 : Int} {p0_ : OV} {r : (List ByteArray) × TTab} (h : typing_Table_Ended.f k a0 a1 = some r) : Tr Tryz.prog 12 [eq p0_.1, eq (.int .i64 a1)] [TTab.O p0_ a0] (γ := OV) (fun _ => True) (fun g => eq g.1) (fun g => [TTab.O p0_ r.2, own strK g.1 r.1]) := by
  unfold typing_Table_Ended.f at h
  refine Tr.body Tryz.func12 (c := _) rfl Tryz.ntmps12 (Nat.le_of_ble_eq_true rfl) fun R0 F => ?_
  replace h := Gets.of h
  have H := h
  clear h
  refine WP.seq ?_
  refine WP.reg [(0, false)] (by kernel_rfl) ?_
  refine as0 rfl rfl ?_
  refine .fin ?_
  refine WP.seq ?_
  refine WP.reg [(0, false)] (by kernel_rfl) ?_
  refine as0 rfl rfl ?_
  refine .fin ?_
  refine WP.seqn H (fun q552 : (Int × Int × Bool × TTab × (List ByteArray) × (List ByteArray)) × OV × OV => q552.1) (fun q552 : (Int × Int × Bool × TTab × (List ByteArray) × (List ByteArray)) × OV × OV => [(0, eq p0_.1), (1, eq (.int .i64 a1)), (4, eq (.slice none 0 0)), (5, eq q552.2.1.1), (16, eq q552.2.2.1), (17, eq (.int .i64 q552.1.1)), (18, eq (.int .i64 q552.1.2.1)), (19, eq (.bool q552.1.2.2.1))]) (fun q552 : (Int × Int × Bool × TTab × (List ByteArray) × (List ByteArray)) × OV × OV => [TTab.O p0_ q552.1.2.2.2.1, own strK q552.2.1.1 q552.1.2.2.2.2.1, own strK q552.2.2.1 q552.1.2.2.2.2.2] ++ F) (fun q552 H => ?_) (fun H => ?_)
  · obtain ⟨p527, v528, v529⟩ := q552
    refine WP.seq ?_
    refine WP.reg [(0, false), (1, true)] (by kernel_rfl) ?_
    refine mv0 rfl rfl ?_
    obtain ⟨t530, h531, H⟩ := Gets.call H
    refine Dv.callx (pre := [own strK v528.1 p527.2.2.2.2.1]) (F := [TTab.O p0_ p527.2.2.2.1, own strK v529.1 p527.2.2.2.2.2] ++ F) (fun _ : Unit => [own strK v528.1 t530, TTab.O p0_ p527.2.2.2.1, own strK v529.1 p527.2.2.2.2.2] ++ F) rfl trivial cal36 rfl (slices_Sort_string.c h531 (p0_ := v528)) (perm_ton 3 [1, 0, 2] rfl rfl rfl) rfl nofun (fun _ _ => ?_)
    refine .fin ?_
    refine WP.seq ?_
    refine WP.reg [(0, false), (1, true), (2, false)] (by kernel_rfl) ?_
    refine mv0 rfl rfl ?_
    obtain ⟨t532, h533, H⟩ := Gets.call H
    refine Dv.callx (pre := [own strK v528.1 t530]) (F := [TTab.O p0_ p527.2.2.2.1, own strK v529.1 p527.2.2.2.2.2] ++ F) (fun g534 : OV => [own strK g534.1 t532, TTab.O p0_ p527.2.2.2.1, own strK v529.1 p527.2.2.2.2.2] ++ F) rfl trivial cal37 rfl (slices_Compact_string.c h533 (p0_ := v528)) (perm_ton 3 [0, 1, 2] rfl rfl rfl) rfl nofun (fun g534 _ => ?_)
    refine as0 rfl rfl ?_
    refine .fin ?_
    obtain rfl := Gets.out H
    exact WP.retL (fun _ _ h => h) rfl g534 trivial (.cons (res_tmp rfl) .nil) rfl (st_seln 3 [2, 1, 0] 1 rfl rfl rfl)
  · refine WP.seq ?_
    refine WP.reg [(0, false), (1, false), (2, false), (3, false), (4, false), (5, true), (6, false), (7, false)] (by kernel_rfl) ?_
    refine mv0 rfl rfl ?_
    refine Dv.nilA TTab.nn rfl trivial rfl (mem_at 0 rfl) ?_
    refine Dv.gh (l' := fun (g535 : Nat × OV × OV) => [blk g535.1 56 [eq g535.2.1.1, eq g535.2.2.1], own Edu.K g535.2.1.1 a0.fl, HHeap.O g535.2.2 a0.fends] ++ F) (gh_of (TTab.opn 0 rfl)) (fun g535 h536 => ?_)
    refine Dv.fabp h536 rfl trivial rfl Tryz.underlying56 rfl Tryz.underlying53 c53 (by decide) ?_
    refine Dv.ldb rfl trivial rfl Tryz.underlying53 rfl (mem_at 0 rfl) rfl ?_
    refine mv0 rfl rfl ?_
    obtain ⟨t537, h538, H⟩ := Gets.call H
    refine Dv.callx (pre := [HHeap.O g535.2.2 a0.fends]) (F := [blk g535.1 56 [eq g535.2.1.1, eq g535.2.2.1], own Edu.K g535.2.1.1 a0.fl] ++ F) (fun g539 : OV => [HHeap.O g535.2.2 t537.2, own strK g539.1 t537.1, blk g535.1 56 [eq g535.2.1.1, eq g535.2.2.1], own Edu.K g535.2.1.1 a0.fl] ++ F) rfl trivial cal34 rfl (heap_Heap_Due.c h538 (p0_ := g535.2.2)) (perm_ton 3 [2, 0, 1] rfl rfl rfl) rfl nofun (fun g539 _ => ?_)
    refine Dv.lenw rfl trivial rfl (mem_at 1 rfl) Tryz.underlying37 ?_
    refine mv0 rfl rfl ?_
    refine .fin ?_
    refine WP.block ?_
    refine WP.gh (l' := fun _ : Unit => [TTab.O p0_ (⟨a0.fl, t537.2⟩ : TTab), own strK g539.1 t537.1] ++ F) (gh_of (TTab.shut (p := p0_) (m := (⟨a0.fl, t537.2⟩ : TTab)) (r := [own strK g539.1 t537.1] ++ F) (g535.1, g535.2.1, g535.2.2) h536 (perm_ton 4 [2, 3, 0, 1] rfl rfl rfl))) (fun _ _ => ?_)
    refine WP.gh (gh_of (st_nil strK none)) (fun _ _ => ?_)
    refine WP.gh (l' := fun _ => [TTab.O p0_ (⟨a0.fl, t537.2⟩ : TTab), own strK g539.1 t537.1, own strK nilV.1 ([] : List ByteArray)] ++ F) (gh_of (st_selgn 3 [1, 2, 0] 0 rfl rfl rfl)) (fun _ _ => ?_)
    refine WP.loopg (fun j_ (p551 : Int × (List ByteArray) × OV) => typing_Table_Ended.l0 k a0 t537 j_ p551.1 p551.2.1) (0, ([] : List ByteArray), nilV) H (fun p551 => [(0, eq p0_.1), (1, eq (.int .i64 a1)), (4, eq (.slice none 0 0)), (5, eq p551.2.2.1), (16, eq g539.1), (17, eq (.int .i64 (t537.1.length : Int))), (18, eq (.int .i64 p551.1))]) (fun p551 => [TTab.O p0_ (⟨a0.fl, t537.2⟩ : TTab), own strK g539.1 t537.1, own strK p551.2.2.1 p551.2.1] ++ F) (weak_cons rfl (weak_cons rfl (weak_cons rfl (weak_cons rfl (weak_cons rfl (weak_cons rfl (weak_cons rfl weak_nil))))))) (List.Perm.refl _) ?_
    rintro j_ ⟨x540, x541, v542⟩ H
    rcases j_ with _ | j550
    · exact (Gets.no H).elim
    replace H : Gets (typing_Table_Ended.l0 k a0 t537 (j550 + 1) x540 x541) _ := H
    rw [typing_Table_Ended.l0] at H
    refine WP.seq ?_
    refine WP.reg [(0, false)] (by kernel_rfl) ?_
    refine Dv.bin rfl trivial rfl rfl (fun _ => run_lt) ?_
    refine .fin ?_
    refine WP.seq ?_
    refine WP.cond rfl (fun c543 => ?_) (fun c543 => ?_)
    · replace H := Gets.ct H c543
      refine WP.skip ?_
      refine WP.seq ?_
      refine WP.block ?_
      refine WP.seq ?_
      refine WP.reg [(0, false), (1, false), (2, false)] (by kernel_rfl) ?_
      obtain ⟨g544, H⟩ := Gets.grd H
      have h545 : x540.toNat < t537.1.length := idx_lt g544
      refine Dv.ixw rfl trivial rfl (mem_at 1 rfl) rfl Tryz.underlying37 Tryz.underlying9 c9 g544.1 g544.2 ?_
      refine Dv.ldw (j := x540.toNat) (f := 0) (p := eq (.string (t537.1.getD x540.toNat default))) rfl trivial rfl (mem_at 1 rfl) h545 Tryz.underlying9 rfl rfl ?_
      refine as0 rfl rfl ?_
      refine .fin ?_
      refine WP.seq ?_
      refine WP.reg [(0, false), (1, false), (2, false), (3, false), (4, false), (5, false), (6, false), (7, false), (8, false)] (by kernel_rfl) ?_
      refine mv0 rfl rfl ?_
      obtain ⟨t546, h547, H⟩ := Gets.call H
      refine Dv.call rfl trivial cal35 rfl (strings_Cut.c h547) ?_
      refine mv0 rfl rfl ?_
      refine Dv.ext rfl trivial rfl rfl ?_
      refine Dv.ext rfl trivial rfl rfl ?_
      refine Dv.ext rfl trivial rfl rfl ?_
      refine as0 rfl rfl ?_
      refine as0 rfl rfl ?_
      refine as0 rfl rfl ?_
      refine .fin ?_
      refine WP.reg [(0, false), (1, false), (2, false), (3, true), (4, false)] (by kernel_rfl) ?_
      refine mv0 rfl rfl ?_
      refine mv0 rfl rfl ?_
      refine Dv.lit strK ([t546.1] : List ByteArray) (css := [[eq (.string t546.1)]]) rfl trivial Tryz.underlying37 Tryz.underlying9 c9 z9 rfl (by decide) (by decide) rfl ⟨(cells_one (one_eq rfl)), trivial⟩ rfl rfl rfl ?_
      obtain ⟨g548, H⟩ := Gets.grd H
      refine Dv.appx (jj := 2) (ys := ([t546.1] : List ByteArray)) (fun v549 : OV => [TTab.O p0_ (⟨a0.fl, t537.2⟩ : TTab), own strK g539.1 t537.1, own strK v549.1 (x541 ++ ([t546.1] : List ByteArray))] ++ F) rfl trivial rfl rfl rfl src_sl Tryz.underlying37 (.inr ⟨_, Tryz.underlying37⟩) inf9 rfl (by decide) g548 rfl nofun (fun v549 => ?_)
      refine as0 rfl rfl ?_
      refine .fin ?_
      refine WP.reg [(0, false), (1, false)] (by kernel_rfl) ?_
      refine Dv.bin rfl trivial rfl rfl (fun _ => run_add) ?_
      refine mv0 rfl rfl ?_
      refine .fin ?_
      exact Back.mk j550 (w64 (x540 + 1), x541 ++ ([t546.1] : List ByteArray), v549) (Nat.lt_succ_self _) H (weak_cons rfl (weak_cons rfl (weak_cons rfl (weak_cons rfl (weak_cons rfl (weak_cons rfl (weak_cons rfl weak_nil))))))) (List.Perm.refl _)
    · replace H := Gets.cf H c543
      refine WP.exit ?_
      replace H := Gets.out H
      refine Dn.gh (l' := fun _ : Unit => [TTab.O p0_ (⟨a0.fl, t537.2⟩ : TTab), own strK v542.1 x541, own strK g539.1 t537.1] ++ F) (gh_of (st_selgn 3 [0, 2, 1] 0 rfl rfl rfl)) (fun _ _ => ?_)
      exact Jn.mk (((t537.1.length : Int), x540, decide (x540 < (t537.1.length : Int)), (⟨a0.fl, t537.2⟩ : TTab), x541, t537.1), v542, g539) H (weak_cons rfl (weak_cons rfl (weak_cons rfl (weak_cons rfl (weak_cons rfl (weak_cons rfl (weak_cons rfl (weak_cons rfl weak_nil)))))))) (List.Perm.refl _)
theorem heap_Heap_First.c {a0 : HHeap} {p0_ : OV} {r : HEnt × Bool} (h : heap_Heap_First.f a0 = some r) : Tr Tryz.prog 38 [eq p0_.1] [HHeap.O p0_ a0] (γ := Unit) (fun _ => True) (fun g => tup [agg (HEnt.enc r.1), eq (.bool r.2)]) (fun g => [HHeap.O p0_ a0]) := by
  unfold heap_Heap_First.f at h
  refine Tr.body Tryz.func38 (c := _) rfl Tryz.ntmps38 (Nat.le_of_ble_eq_true rfl) fun R0 F => ?_
  replace h := Gets.of h
  have H := h
  clear h
  refine WP.seq ?_
  refine WP.reg [(0, true), (1, false)] (by kernel_rfl) ?_
  refine Dv.alloc (z := .agg #[.int .i64 0, .string ⟨#[]⟩]) (qs := [eq (.int .i64 0), eq (.string (⟨#[]⟩ : ByteArray))]) rfl trivial z72 rfl nofun (fun b553 => ?_)
  refine as0 rfl rfl ?_
  refine .fin ?_
  refine WP.seq ?_
  refine WP.seq ?_
  refine WP.reg [(0, false), (1, false), (2, false), (3, false), (4, false), (5, false)] (by kernel_rfl) ?_
  refine mv0 rfl rfl ?_
  refine Dv.nilA HHeap.nn rfl trivial rfl (mem_at 1 rfl) ?_
  refine Dv.gh (l' := fun (g554 : Nat × OV × OV) => [blk g554.1 80 [eq g554.2.1.1, eq g554.2.2.1], own HEnt.K g554.2.1.1 a0.fl, mp Value.string (fun x : Int => eq (.int .i64 x)) g554.2.2.1 a0.fat, blk b553 72 [eq (.int .i64 0), eq (.string (⟨#[]⟩ : ByteArray))]] ++ F) (gh_of (HHeap.opn 1 rfl)) (fun g554 h555 => ?_)
  refine Dv.fabp h555 rfl trivial rfl Tryz.underlying80 rfl Tryz.underlying78 c78 (by decide) ?_
  refine Dv.ldb rfl trivial rfl Tryz.underlying78 rfl (mem_at 0 rfl) rfl ?_
  refine Dv.lenw rfl trivial rfl (mem_at 1 rfl) Tryz.underlying78 ?_
  refine Dv.bin rfl trivial rfl rfl (fun _ => run_eq) ?_
  refine .fin ?_
  refine WP.cond rfl (fun c556 => ?_) (fun c556 => ?_)
  · replace H := Gets.ct H c556
    refine WP.seq ?_
    refine WP.reg [(0, false), (1, true), (2, false)] (by kernel_rfl) ?_
    refine Dv.bld (css := []) rfl trivial Tryz.underlying72 pl72 z72 rfl trivial rfl rfl ?_
    refine Dv.stx ([blk g554.1 80 [eq g554.2.1.1, eq g554.2.2.1], own HEnt.K g554.2.1.1 a0.fl, mp Value.string (fun x : Int => eq (.int .i64 x)) g554.2.2.1 a0.fat, blk b553 72 [eq (.int .i64 0), eq (.string (⟨#[]⟩ : ByteArray))]] ++ F) rfl trivial rfl rfl (cells_agg (ones_cons (one_eq rfl) (ones_cons (one_eq rfl) ones_nil))) Tryz.underlying72 c72 rfl (j := 3) rfl (Nat.le_of_ble_eq_true rfl) rfl nofun ?_
    refine as0 rfl rfl ?_
    refine .fin ?_
    refine WP.gh (l' := fun _ : Unit => [HHeap.O p0_ a0, blk b553 72 [eq (.int .i64 0), eq (.string (⟨#[]⟩ : ByteArray))]] ++ F) (gh_of (HHeap.shut (p := p0_) (m := a0) (r := [blk b553 72 [eq (.int .i64 0), eq (.string (⟨#[]⟩ : ByteArray))]] ++ F) (g554.1, g554.2.1, g554.2.2) h555 (perm_ton 4 [0, 1, 2, 3] rfl rfl rfl))) (fun _ _ => ?_)
    obtain rfl := Gets.out H
    exact WP.retL (fun _ _ h => h) rfl () trivial (.cons (res_cells rfl Tryz.underlying72 rfl c72 (mem_at 1 rfl) rfl) (.cons (res_tmp rfl) .nil)) rfl (st_seln 2 [1, 0] 1 rfl rfl rfl)
  · replace H := Gets.cf H c556
    refine WP.skip ?_
    refine WP.seq ?_
    refine WP.reg [(0, false), (1, false), (2, false), (3, false), (4, false), (5, false), (6, true), (7, false)] (by kernel_rfl) ?_
    refine mv0 rfl rfl ?_
    refine Dv.nilpp h555 rfl trivial rfl ?_
    refine Dv.fabp h555 rfl trivial rfl Tryz.underlying80 rfl Tryz.underlying78 c78 (by decide) ?_
    refine Dv.ldb rfl trivial rfl Tryz.underlying78 rfl (mem_at 0 rfl) rfl ?_
    obtain ⟨g557, H⟩ := Gets.grd H
    have h558 : (0 : Int).toNat < a0.fl.length := idx_lt g557
    refine Dv.ixw rfl trivial rfl (mem_at 1 rfl) rfl Tryz.underlying78 Tryz.underlying72 c72 g557.1 g557.2 ?_
    refine Dv.ldws (j := ((0 : Int).toNat)) (f := 0) rfl trivial rfl (mem_at 1 rfl) h558 Tryz.underlying72 rfl c72 (Nat.le_of_ble_eq_true rfl) ?_
    refine Dv.stx ([blk g554.1 80 [eq g554.2.1.1, eq g554.2.2.1], own HEnt.K g554.2.1.1 a0.fl, mp Value.string (fun x : Int => eq (.int .i64 x)) g554.2.2.1 a0.fat, blk b553 72 [eq (.int .i64 ((a0.fl.getD ((0 : Int).toNat) default).fAt)), eq (.string ((a0.fl.getD ((0 : Int).toNat) default).fKey))]] ++ F) rfl trivial rfl rfl (cells_agg (HEnt.K.one _)) Tryz.underlying72 c72 rfl (j := 3) rfl (Nat.le_of_ble_eq_true rfl) rfl nofun ?_
    refine as0 rfl rfl ?_
    refine .fin ?_
    refine WP.gh (l' := fun _ : Unit => [HHeap.O p0_ a0, blk b553 72 [eq (.int .i64 ((a0.fl.getD ((0 : Int).toNat) default).fAt)), eq (.string ((a0.fl.getD ((0 : Int).toNat) default).fKey))]] ++ F) (gh_of (HHeap.shut (p := p0_) (m := a0) (r := [blk b553 72 [eq (.int .i64 ((a0.fl.getD ((0 : Int).toNat) default).fAt)), eq (.string ((a0.fl.getD ((0 : Int).toNat) default).fKey))]] ++ F) (g554.1, g554.2.1, g554.2.2) h555 (perm_ton 4 [0, 1, 2, 3] rfl rfl rfl))) (fun _ _ => ?_)
    obtain rfl := Gets.out H
    exact WP.retL (fun _ _ h => h) rfl () trivial (.cons (res_cells rfl Tryz.underlying72 rfl c72 (mem_at 1 rfl) rfl) (.cons (res_tmp rfl) .nil)) rfl (st_seln 2 [1, 0] 1 rfl rfl rfl)
theorem typing_Table_Next.c {a0 : TTab} {p0_ : OV} {r : Int × Bool} (h : typing_Table_Next.f a0 = some r) : Tr Tryz.prog 13 [eq p0_.1] [TTab.O p0_ a0] (γ := Unit) (fun _ => True) (fun g => tup [eq (.int .i64 r.1), eq (.bool r.2)]) (fun g => [TTab.O p0_ a0]) := by
  unfold typing_Table_Next.f at h
  refine Tr.body Tryz.func13 (c := _) rfl Tryz.ntmps13 (Nat.le_of_ble_eq_true rfl) fun R0 F => ?_
  replace h := Gets.of h
  have H := h
  clear h
  refine WP.seq ?_
  refine WP.reg [(0, false), (1, false)] (by kernel_rfl) ?_
  refine as0 rfl rfl ?_
  refine as0 rfl rfl ?_
  refine .fin ?_
  refine WP.seq ?_
  refine WP.reg [(0, false), (1, false), (2, false), (3, false), (4, true), (5, false), (6, false), (7, false), (8, true), (9, true), (10, false)] (by kernel_rfl) ?_
  refine mv0 rfl rfl ?_
  refine Dv.nilA TTab.nn rfl trivial rfl (mem_at 0 rfl) ?_
  refine Dv.gh (l' := fun (g559 : Nat × OV × OV) => [blk g559.1 56 [eq g559.2.1.1, eq g559.2.2.1], own Edu.K g559.2.1.1 a0.fl, HHeap.O g559.2.2 a0.fends] ++ F) (gh_of (TTab.opn 0 rfl)) (fun g559 h560 => ?_)
  refine Dv.fabp h560 rfl trivial rfl Tryz.underlying56 rfl Tryz.underlying53 c53 (by decide) ?_
  refine Dv.ldb rfl trivial rfl Tryz.underlying53 rfl (mem_at 0 rfl) rfl ?_
  obtain ⟨t561, h562, H⟩ := Gets.call H
  refine Dv.callx (pre := [HHeap.O g559.2.2 a0.fends]) (F := [blk g559.1 56 [eq g559.2.1.1, eq g559.2.2.1], own Edu.K g559.2.1.1 a0.fl] ++ F) (fun _ : Unit => [HHeap.O g559.2.2 a0.fends, blk g559.1 56 [eq g559.2.1.1, eq g559.2.2.1], own Edu.K g559.2.1.1 a0.fl] ++ F) rfl trivial cal38 rfl (heap_Heap_First.c h562 (p0_ := g559.2.2)) (perm_ton 3 [2, 0, 1] rfl rfl rfl) rfl nofun (fun _ _ => ?_)
  refine mv0 rfl rfl ?_
  refine Dv.ext rfl trivial rfl rfl ?_
  refine Dv.ext rfl trivial rfl rfl ?_
  refine Dv.alloc (z := .agg #[.int .i64 0, .string ⟨#[]⟩]) (qs := [eq (.int .i64 0), eq (.string (⟨#[]⟩ : ByteArray))]) rfl trivial z72 rfl nofun (fun b563 => ?_)
  refine Dv.stx ([blk b563 72 [eq (.int .i64 t561.1.fAt), eq (.string t561.1.fKey)], HHeap.O g559.2.2 a0.fends, blk g559.1 56 [eq g559.2.1.1, eq g559.2.2.1], own Edu.K g559.2.1.1 a0.fl] ++ F) rfl trivial rfl rfl (cells_agg (HEnt.K.one _)) Tryz.underlying72 c72 rfl (j := 0) rfl (Nat.le_of_ble_eq_true rfl) rfl nofun ?_
  refine as0 rfl rfl ?_
  refine .fin ?_
  refine WP.seq ?_
  refine WP.reg [(0, false), (1, false), (2, false), (3, false), (4, false)] (by kernel_rfl) ?_
  refine Dv.fab rfl trivial rfl Tryz.underlying72 rfl Tryz.underlying3 c3 (by decide) ?_
  refine Dv.ldb rfl trivial rfl Tryz.underlying3 rfl (mem_at 0 rfl) rfl ?_
  refine mv0 rfl rfl ?_
  refine as0 rfl rfl ?_
  refine as0 rfl rfl ?_
  refine .fin ?_
  refine WP.gh (l' := fun _ : Unit => [TTab.O p0_ a0, blk b563 72 [eq (.int .i64 t561.1.fAt), eq (.string t561.1.fKey)]] ++ F) (gh_of (TTab.shut (p := p0_) (m := a0) (r := [blk b563 72 [eq (.int .i64 t561.1.fAt), eq (.string t561.1.fKey)]] ++ F) (g559.1, g559.2.1, g559.2.2) h560 (perm_ton 4 [2, 3, 1, 0] rfl rfl rfl))) (fun _ _ => ?_)
  obtain rfl := Gets.out H
  exact WP.retL (fun _ _ h => h) rfl () trivial (.cons (res_tmp rfl) (.cons (res_tmp rfl) .nil)) rfl (st_seln 2 [1, 0] 1 rfl rfl rfl)
theorem slices_Clone_Edu.c {a0 : List Edu} {r : List Edu} (h : slices_Clone_Edu.f a0 = some r) : Tr Tryz.prog 39 [sl Edu.K a0] [] (γ := OV) (fun _ => True) (fun g => eq g.1) (fun g => [own Edu.K g.1 r]) := by
  unfold slices_Clone_Edu.f at h
  obtain ⟨h0, h5⟩ := (Gets.of h).grd
  obtain rfl := Gets.out h5
  clear h h5
  refine (Tr.body Tryz.func39 (c := _) rfl Tryz.ntmps39 (Nat.le_of_ble_eq_true rfl) fun R0 F => ?_)
  refine WP.seq ?_
  refine WP.reg [(0, false)] (by kernel_rfl) ?_
  refine as0 rfl rfl ?_
  refine .fin ?_
  refine WP.seq ?_
  refine WP.seq ?_
  refine WP.reg [(0, false), (1, true)] (by kernel_rfl) ?_
  refine mv0 rfl rfl ?_
  refine Dv.snil rfl trivial rfl rfl Tryz.underlying22 nofun (fun b hb => ?_)
  refine .fin ?_
  refine WP.cond rfl (fun c0 => ?_) (fun c0 => ?_)
  · obtain rfl := hb c0
    refine WP.seq ?_
    refine WP.reg [(0, false)] (by kernel_rfl) ?_
    refine as0 rfl rfl ?_
    refine .fin ?_
    refine WP.gh (gh_of (st_nil Edu.K none)) (fun _ _ => ?_)
    exact WP.retL (fun _ _ h => h) rfl nilV trivial (.cons (res_tmp rfl) .nil) rfl (st_seln 1 [0] 0 rfl rfl rfl)
  refine WP.skip ?_
  refine WP.seq ?_
  refine WP.reg [(0, true), (1, false), (2, true), (3, false)] (by kernel_rfl) ?_
  refine Dv.lit0 Edu.K rfl trivial Tryz.underlying22 Tryz.underlying30 c30 z30 nofun (fun v1 => ?_)
  refine mv0 rfl rfl ?_
  refine Dv.appx (Kd := Edu.K) (xs := []) (v := v1.1) (jj := 0) (ys := a0) (fun v2 : OV => [own Edu.K v2.1 a0] ++ F) rfl trivial rfl rfl rfl src_sl Tryz.underlying22 (.inr ⟨_, Tryz.underlying22⟩) inf30 rfl (by decide) (by simpa using h0) rfl nofun (fun v2 => ?_)
  refine as0 rfl rfl ?_
  refine .fin ?_
  exact WP.retL (fun _ _ h => h) rfl v2 trivial (.cons (res_tmp rfl) .nil) rfl (st_seln 1 [0] 0 rfl rfl rfl)
theorem typing_Table_All.c {a0 : TTab} {v0_0 v0_1 : OV} {b0_ : Nat} {r : (List Edu)} (h : typing_Table_All.f a0 = some r) : Tr Tryz.prog 16 [eq (.pointer (some ⟨b0_, 0, none⟩))] [blk b0_ 56 [eq v0_0.1, eq v0_1.1], own Edu.K v0_0.1 a0.fl] (γ := OV) (fun _ => True) (fun g => eq g.1) (fun g => [blk b0_ 56 [eq v0_0.1, eq v0_1.1], own Edu.K v0_0.1 a0.fl, own Edu.K g.1 r]) := by
  unfold typing_Table_All.f at h
  refine Tr.body Tryz.func16 (c := _) rfl Tryz.ntmps16 (Nat.le_of_ble_eq_true rfl) fun R0 F => ?_
  replace h := Gets.of h
  have H := h
  clear h
  refine WP.seq ?_
  refine WP.reg [(0, false)] (by kernel_rfl) ?_
  refine as0 rfl rfl ?_
  refine .fin ?_
  refine WP.seq ?_
  refine WP.reg [(0, false), (1, false), (2, false), (3, false), (4, true), (5, false)] (by kernel_rfl) ?_
  refine mv0 rfl rfl ?_
  refine Dv.nilp rfl trivial rfl ?_
  refine Dv.fab rfl trivial rfl Tryz.underlying56 rfl Tryz.underlying22 c22 (by decide) ?_
  refine Dv.ldb rfl trivial rfl Tryz.underlying22 rfl (mem_at 0 rfl) rfl ?_
  obtain ⟨t564, h565, H⟩ := Gets.call H
  refine Dv.callx (pre := [own Edu.K v0_0.1 a0.fl]) (F := [blk b0_ 56 [eq v0_0.1, eq v0_1.1]] ++ F) (fun g566 : OV => [own Edu.K v0_0.1 a0.fl, own Edu.K g566.1 t564, blk b0_ 56 [eq v0_0.1, eq v0_1.1]] ++ F) rfl trivial cal39 rfl (Tr.lend [own Edu.K v0_0.1 a0.fl] (slices_Clone_Edu.c h565) (.cons (lt_own (mem_at 0 rfl)) .nil) (fun _ => flat_eq) (fun _ => (flatAs_cons (flatA_own (fun _ => (flats_cons flat_eq (flats_cons flat_eq (flats_cons flat_eq (flats_cons flat_eq (flats_cons flat_eq (flats_cons flat_eq (flats_cons flat_eq (flats_cons flat_eq (flats_cons flat_eq (flats_cons flat_eq (flats_cons flat_eq flats_nil))))))))))))) flatAs_nil))) (perm_ton 2 [1, 0] rfl rfl rfl) rfl nofun (fun g566 _ => ?_)
  refine as0 rfl rfl ?_
  refine .fin ?_
  obtain rfl := Gets.out H
  exact WP.retL (fun _ _ h => h) rfl g566 trivial (.cons (res_tmp rfl) .nil) rfl (st_seln 3 [2, 0, 1] 0 rfl rfl rfl)
theorem typing_Table_Types.c {k : Nat} {a0 : TTab} {a1 : ByteArray} {a2 : ByteArray} {a3 : Int} {v0_0 v0_1 : OV} {b0_ : Nat} {r : Bool} (h : typing_Table_Types.f k a0 a1 a2 a3 = some r) : Tr Tryz.prog 18 [eq (.pointer (some ⟨b0_, 0, none⟩)), eq (.string a1), eq (.string a2), eq (.int .i64 a3)] [blk b0_ 56 [eq v0_0.1, eq v0_1.1], own Edu.K v0_0.1 a0.fl] (γ := Unit) (fun _ => True) (fun g => eq (.bool r)) (fun g => [blk b0_ 56 [eq v0_0.1, eq v0_1.1], own Edu.K v0_0.1 a0.fl]) := by
  unfold typing_Table_Types.f at h
  refine Tr.body Tryz.func18 (c := _) rfl Tryz.ntmps18 (Nat.le_of_ble_eq_true rfl) fun R0 F => ?_
  replace h := Gets.of h
  have H := h
  clear h
  refine WP.seq ?_
  refine WP.reg [(0, false)] (by kernel_rfl) ?_
  refine as0 rfl rfl ?_
  refine .fin ?_
  refine WP.seq ?_
  refine WP.reg [(0, false), (1, false), (2, false), (3, false), (4, false), (5, false), (6, false), (7, false), (8, false), (9, false)] (by kernel_rfl) ?_
  refine mv0 rfl rfl ?_
  refine mv0 rfl rfl ?_
  refine mv0 rfl rfl ?_
  refine Dv.bld (css := [[eq (.string a1)], [eq (.string a2)]]) rfl trivial Tryz.underlying30 pl30 z30 rfl ⟨(cells_one (one_eq rfl)), ⟨(cells_one (one_eq rfl)), trivial⟩⟩ rfl rfl ?_
  obtain ⟨t567, h568, H⟩ := Gets.call H
  refine Dv.calll (B := [blk b0_ 56 [eq v0_0.1, eq v0_1.1], own Edu.K v0_0.1 a0.fl]) (F := [] ++ F) rfl trivial cal27 rfl (typing_Table_place.c h568 (b0_ := b0_) (v0_0 := v0_0) (v0_1 := v0_1)) (perm_ton 2 [0, 1] rfl rfl rfl) ?_
  refine mv0 rfl rfl ?_
  refine Dv.ext rfl trivial rfl rfl ?_
  refine Dv.ext rfl trivial rfl rfl ?_
  refine as0 rfl rfl ?_
  refine as0 rfl rfl ?_
  refine .fin ?_
  refine WP.seq ?_
  refine WP.reg [(0, false), (1, false), (2, false), (3, false), (4, false), (5, false), (6, false), (7, false), (8, false), (9, false), (10, false), (11, false), (12, false), (13, false), (14, false), (15, false), (16, false), (17, false), (18, false), (19, false), (20, false), (21, false), (22, false), (23, false)] (by kernel_rfl) ?_
  refine mv0 rfl rfl ?_
  refine mv0 rfl rfl ?_
  cases c569 : t567.2
  · replace H := Gets.cf H c569
    refine sk rfl rfl rfl rfl rfl ?_
    refine sk rfl rfl rfl rfl rfl ?_
    refine sk rfl rfl rfl rfl rfl ?_
    refine sk rfl rfl rfl rfl rfl ?_
    refine sk rfl rfl rfl rfl rfl ?_
    refine sk rfl rfl rfl rfl rfl ?_
    refine sk rfl rfl rfl rfl rfl ?_
    refine sk rfl rfl rfl rfl rfl ?_
    refine Dv.pickF rfl trivial rfl rfl ?_
    refine mv0 rfl rfl ?_
    refine sk rfl rfl rfl rfl rfl ?_
    refine sk rfl rfl rfl rfl rfl ?_
    refine sk rfl rfl rfl rfl rfl ?_
    refine sk rfl rfl rfl rfl rfl ?_
    refine sk rfl rfl rfl rfl rfl ?_
    refine sk rfl rfl rfl rfl rfl ?_
    refine sk rfl rfl rfl rfl rfl ?_
    refine sk rfl rfl rfl rfl rfl ?_
    refine sk rfl rfl rfl rfl rfl ?_
    refine sk rfl rfl rfl rfl rfl ?_
    refine Dv.pickF rfl trivial rfl rfl ?_
    refine as0 rfl rfl ?_
    refine .fin ?_
    obtain rfl := Gets.out H
    exact WP.retL (fun _ _ h => h) rfl () trivial (.cons (res_tmp rfl) .nil) rfl (st_seln 2 [0, 1] 0 rfl rfl rfl)
  · replace H := Gets.ct H c569
    refine Dv.mv rfl ⟨_, _, rfl, rfl, rfl⟩ rfl ?_
    refine Dv.nilp rfl ⟨_, _, rfl, rfl, rfl⟩ rfl ?_
    refine Dv.fab rfl ⟨_, _, rfl, rfl, rfl⟩ rfl Tryz.underlying56 rfl Tryz.underlying22 c22 (by decide) ?_
    refine Dv.ldb rfl ⟨_, _, rfl, rfl, rfl⟩ rfl Tryz.underlying22 rfl (mem_at 0 rfl) rfl ?_
    refine Dv.mv rfl ⟨_, _, rfl, rfl, rfl⟩ rfl ?_
    obtain ⟨g570, H⟩ := Gets.grd H
    have h571 : t567.1.toNat < a0.fl.length := idx_lt g570
    refine Dv.ixw rfl ⟨_, _, rfl, rfl, rfl⟩ rfl (mem_at 1 rfl) rfl Tryz.underlying22 Tryz.underlying30 c30 g570.1 g570.2 ?_
    refine Dv.faw rfl ⟨_, _, rfl, rfl, rfl⟩ rfl Tryz.underlying30 rfl Tryz.underlying4 c4 (by decide) ?_
    refine Dv.ldw (j := t567.1.toNat) (f := 6) (p := eq (.bool ((a0.fl.getD t567.1.toNat default).fOn))) rfl ⟨_, _, rfl, rfl, rfl⟩ rfl (mem_at 1 rfl) h571 Tryz.underlying4 rfl rfl ?_
    refine Dv.pickT rfl trivial rfl rfl ?_
    refine mv0 rfl rfl ?_
    cases c572 : (a0.fl.getD t567.1.toNat default).fOn
    · replace H := Gets.cf H c572
      refine sk rfl rfl rfl rfl rfl ?_
      refine sk rfl rfl rfl rfl rfl ?_
      refine sk rfl rfl rfl rfl rfl ?_
      refine sk rfl rfl rfl rfl rfl ?_
      refine sk rfl rfl rfl rfl rfl ?_
      refine sk rfl rfl rfl rfl rfl ?_
      refine sk rfl rfl rfl rfl rfl ?_
      refine sk rfl rfl rfl rfl rfl ?_
      refine sk rfl rfl rfl rfl rfl ?_
      refine sk rfl rfl rfl rfl rfl ?_
      refine Dv.pickF rfl trivial rfl rfl ?_
      refine as0 rfl rfl ?_
      refine .fin ?_
      obtain rfl := Gets.out H
      exact WP.retL (fun _ _ h => h) rfl () trivial (.cons (res_tmp rfl) .nil) rfl (st_seln 2 [0, 1] 0 rfl rfl rfl)
    · replace H := Gets.ct H c572
      refine Dv.mv rfl ⟨_, _, rfl, rfl, rfl⟩ rfl ?_
      refine Dv.mv rfl ⟨_, _, rfl, rfl, rfl⟩ rfl ?_
      refine Dv.nilp rfl ⟨_, _, rfl, rfl, rfl⟩ rfl ?_
      refine Dv.fab rfl ⟨_, _, rfl, rfl, rfl⟩ rfl Tryz.underlying56 rfl Tryz.underlying22 c22 (by decide) ?_
      refine Dv.ldb rfl ⟨_, _, rfl, rfl, rfl⟩ rfl Tryz.underlying22 rfl (mem_at 0 rfl) rfl ?_
      refine Dv.mv rfl ⟨_, _, rfl, rfl, rfl⟩ rfl ?_
      obtain ⟨g573, H⟩ := Gets.grd H
      have h574 : t567.1.toNat < a0.fl.length := idx_lt g573
      refine Dv.ixw rfl ⟨_, _, rfl, rfl, rfl⟩ rfl (mem_at 1 rfl) rfl Tryz.underlying22 Tryz.underlying30 c30 g573.1 g573.2 ?_
      refine Dv.ldws (j := t567.1.toNat) (f := 0) rfl ⟨_, _, rfl, rfl, rfl⟩ rfl (mem_at 1 rfl) h574 Tryz.underlying30 rfl c30 (Nat.le_of_ble_eq_true rfl) ?_
      obtain ⟨t575, h576, H⟩ := Gets.call H
      refine Dv.call rfl ⟨_, _, rfl, rfl, rfl⟩ cal32 rfl (typing_end.c h576) ?_
      refine Dv.bin rfl ⟨_, _, rfl, rfl, rfl⟩ rfl rfl (fun _ => run_lt) ?_
      refine Dv.pickT rfl trivial rfl rfl ?_
      refine as0 rfl rfl ?_
      refine .fin ?_
      obtain rfl := Gets.out H
      exact WP.retL (fun _ _ h => h) rfl () trivial (.cons (res_tmp rfl) .nil) rfl (st_seln 2 [0, 1] 0 rfl rfl rfl)
theorem concourselaw14_lives.c {k : Nat} {r : Bool} (h : concourselaw14_lives.f k = some r) : Pt Tryz.prog 17 [] (eq (.bool r)) := by
  unfold concourselaw14_lives.f at h
  refine (Tr.body Tryz.func17 (c := _) rfl Tryz.ntmps17 (Nat.le_of_ble_eq_true rfl) fun R0 F => ?_).pt
  replace h := Gets.of h
  have H := h
  clear h
  refine WP.seq ?_
  refine WP.reg [(0, false)] (by kernel_rfl) ?_
  refine as0 rfl rfl ?_
  refine .fin ?_
  refine WP.seq ?_
  refine WP.reg [(0, true), (1, false)] (by kernel_rfl) ?_
  obtain ⟨t577, h578, H⟩ := Gets.call H
  refine Dv.callx (pre := []) (F := [] ++ F) (fun g579 : OV => [TTab.O g579 t577] ++ F) rfl trivial cal5 rfl (typing_New.c h578) (perm_ton 0 [] rfl rfl rfl) rfl nofun (fun g579 _ => ?_)
  refine as0 rfl rfl ?_
  refine .fin ?_
  refine WP.seq ?_
  refine WP.seq ?_
  refine WP.reg [(0, false), (1, false)] (by kernel_rfl) ?_
  refine mv0 rfl rfl ?_
  refine Dv.peq0 TTab.nn rfl trivial rfl rfl Tryz.underlying25 (mem_at 0 rfl) ?_
  refine .fin ?_
  refine WP.cond rfl nofun (fun _ => ?_)
  refine WP.skip ?_
  refine WP.seq ?_
  refine WP.reg [(0, false), (1, false), (2, true), (3, false), (4, false), (5, false), (6, false), (7, false)] (by kernel_rfl) ?_
  refine mv0 rfl rfl ?_
  refine Dv.bld (css := [[eq (.int .i64 2)], [eq (.string (⟨#[33, 114, 58, 115]⟩ : ByteArray))], [eq (.string (⟨#[64, 97, 58, 115]⟩ : ByteArray))], [eq (.bool true)], [eq (.int .i64 5)], [eq (.int .i64 10)]]) rfl trivial Tryz.underlying30 pl30 z30 rfl ⟨(cells_one (one_eq rfl)), ⟨(cells_one (one_eq rfl)), ⟨(cells_one (one_eq rfl)), ⟨(cells_one (one_eq rfl)), ⟨(cells_one (one_eq rfl)), ⟨(cells_one (one_eq rfl)), trivial⟩⟩⟩⟩⟩⟩ rfl rfl ?_
  obtain ⟨t581, h582, H⟩ := Gets.call H
  refine Dv.callx (pre := [TTab.O g579 t577]) (F := [] ++ F) (fun _ : Unit => [TTab.O g579 t581.2.2] ++ F) rfl trivial cal9 rfl (typing_Table_Put.c h582 (p0_ := g579)) (perm_ton 1 [0] rfl rfl rfl) rfl nofun (fun _ _ => ?_)
  refine mv0 rfl rfl ?_
  refine Dv.ext rfl trivial rfl rfl ?_
  refine Dv.ext rfl trivial rfl rfl ?_
  refine as0 rfl rfl ?_
  refine as0 rfl rfl ?_
  refine .fin ?_
  refine WP.seq ?_
  refine WP.reg [(0, false), (1, false), (2, false), (3, false), (4, false), (5, false), (6, false), (7, false), (8, false), (9, false), (10, false), (11, false), (12, false), (13, false), (14, false)] (by kernel_rfl) ?_
  refine mv0 rfl rfl ?_
  refine mv0 rfl rfl ?_
  cases c583 : t581.1
  · replace H := Gets.cf H c583
    refine sk rfl rfl rfl rfl rfl ?_
    refine sk rfl rfl rfl rfl rfl ?_
    refine Dv.pickF rfl trivial rfl rfl ?_
    refine mv0 rfl rfl ?_
    refine sk rfl rfl rfl rfl rfl ?_
    refine sk rfl rfl rfl rfl rfl ?_
    refine Dv.pickF rfl trivial rfl rfl ?_
    refine mv0 rfl rfl ?_
    refine sk rfl rfl rfl rfl rfl ?_
    refine sk rfl rfl rfl rfl rfl ?_
    refine sk rfl rfl rfl rfl rfl ?_
    refine Dv.pickF rfl trivial rfl rfl ?_
    refine as0 rfl rfl ?_
    refine .fin ?_
    obtain rfl := Gets.out H
    exact WP.retL (fun _ _ h => h) rfl () trivial (.cons (res_tmp rfl) .nil) rfl (st_seln 1 [0] 1 rfl rfl rfl)
  · replace H := Gets.ct H c583
    refine Dv.mv rfl ⟨_, _, rfl, rfl, rfl⟩ rfl ?_
    refine Dv.bin rfl ⟨_, _, rfl, rfl, rfl⟩ rfl rfl (fun _ => run_eq) ?_
    refine Dv.pickT rfl trivial rfl rfl ?_
    refine mv0 rfl rfl ?_
    cases c584 : (t581.2.1 == 0)
    · replace H := Gets.cf H c584
      refine sk rfl rfl rfl rfl rfl ?_
      refine sk rfl rfl rfl rfl rfl ?_
      refine Dv.pickF rfl trivial rfl rfl ?_
      refine mv0 rfl rfl ?_
      refine sk rfl rfl rfl rfl rfl ?_
      refine sk rfl rfl rfl rfl rfl ?_
      refine sk rfl rfl rfl rfl rfl ?_
      refine Dv.pickF rfl trivial rfl rfl ?_
      refine as0 rfl rfl ?_
      refine .fin ?_
      obtain rfl := Gets.out H
      exact WP.retL (fun _ _ h => h) rfl () trivial (.cons (res_tmp rfl) .nil) rfl (st_seln 1 [0] 1 rfl rfl rfl)
    · replace H := Gets.ct H c584
      refine Dv.mv rfl ⟨_, _, rfl, rfl, rfl⟩ rfl ?_
      refine Dv.gh (l' := fun (g585 : Nat × OV × OV) => [blk g585.1 56 [eq g585.2.1.1, eq g585.2.2.1], own Edu.K g585.2.1.1 t581.2.2.fl, HHeap.O g585.2.2 t581.2.2.fends] ++ F) (gh_of (TTab.opn 0 rfl)) (fun g585 h586 => ?_)
      obtain ⟨t587, h588, H⟩ := Gets.call H
      refine Dv.calll (B := [blk g585.1 56 [eq g585.2.1.1, eq g585.2.2.1], own Edu.K g585.2.1.1 t581.2.2.fl]) (F := [HHeap.O g585.2.2 t581.2.2.fends] ++ F) rfl ⟨_, _, rfl, rfl, rfl⟩ cal18 rfl (Tr.weak (typing_Table_Types.c h588 (b0_ := g585.1) (v0_0 := g585.2.1) (v0_1 := g585.2.2)) (.cons (wk_ptr h586) (.cons wk_id (.cons wk_id (.cons wk_id .nil))))) (perm_ton 3 [0, 1, 2] rfl rfl rfl) ?_
      refine Dv.pickT rfl trivial rfl rfl ?_
      refine mv0 rfl rfl ?_
      cases c589 : t587
      · replace H := Gets.cf H c589
        refine sk rfl rfl rfl rfl rfl ?_
        refine sk rfl rfl rfl rfl rfl ?_
        refine sk rfl rfl rfl rfl rfl ?_
        refine Dv.pickF rfl trivial rfl rfl ?_
        refine as0 rfl rfl ?_
        refine .fin ?_
        refine WP.gh (l' := fun _ : Unit => [TTab.O g579 t581.2.2] ++ F) (gh_of (TTab.shut (p := g579) (m := t581.2.2) (r := F) (g585.1, g585.2.1, g585.2.2) h586 (perm_ton 3 [0, 1, 2] rfl rfl rfl))) (fun _ _ => ?_)
        obtain rfl := Gets.out H
        exact WP.retL (fun _ _ h => h) rfl () trivial (.cons (res_tmp rfl) .nil) rfl (st_seln 1 [0] 1 rfl rfl rfl)
      · replace H := Gets.ct H c589
        refine Dv.mv rfl ⟨_, _, rfl, rfl, rfl⟩ rfl ?_
        obtain ⟨t590, h591, H⟩ := Gets.call H
        refine Dv.calll (B := [blk g585.1 56 [eq g585.2.1.1, eq g585.2.2.1], own Edu.K g585.2.1.1 t581.2.2.fl]) (F := [HHeap.O g585.2.2 t581.2.2.fends] ++ F) rfl ⟨_, _, rfl, rfl, rfl⟩ cal18 rfl (Tr.weak (typing_Table_Types.c h591 (b0_ := g585.1) (v0_0 := g585.2.1) (v0_1 := g585.2.2)) (.cons (wk_ptr h586) (.cons wk_id (.cons wk_id (.cons wk_id .nil))))) (perm_ton 3 [0, 1, 2] rfl rfl rfl) ?_
        refine Dv.un rfl ⟨_, _, rfl, rfl, rfl⟩ rfl (fun _ => run_not _) ?_
        refine Dv.pickT rfl trivial rfl rfl ?_
        refine as0 rfl rfl ?_
        refine .fin ?_
        refine WP.gh (l' := fun _ : Unit => [TTab.O g579 t581.2.2] ++ F) (gh_of (TTab.shut (p := g579) (m := t581.2.2) (r := F) (g585.1, g585.2.1, g585.2.2) h586 (perm_ton 3 [0, 1, 2] rfl rfl rfl))) (fun _ _ => ?_)
        obtain rfl := Gets.out H
        exact WP.retL (fun _ _ h => h) rfl () trivial (.cons (res_tmp rfl) .nil) rfl (st_seln 1 [0] 1 rfl rfl rfl)
theorem typing_Table_Users.c {k : Nat} {a0 : TTab} {a1 : ByteArray} {a2 : Int} {v0_0 v0_1 : OV} {b0_ : Nat} {r : (List ByteArray)} (h : typing_Table_Users.f k a0 a1 a2 = some r) : Tr Tryz.prog 19 [eq (.pointer (some ⟨b0_, 0, none⟩)), eq (.string a1), eq (.int .i64 a2)] [blk b0_ 56 [eq v0_0.1, eq v0_1.1], own Edu.K v0_0.1 a0.fl] (γ := OV) (fun _ => True) (fun g => eq g.1) (fun g => [blk b0_ 56 [eq v0_0.1, eq v0_1.1], own Edu.K v0_0.1 a0.fl, own strK g.1 r]) := by
  unfold typing_Table_Users.f at h
  refine Tr.body Tryz.func19 (c := _) rfl Tryz.ntmps19 (Nat.le_of_ble_eq_true rfl) fun R0 F => ?_
  replace h := Gets.of h
  have H := h
  clear h
  refine WP.seq ?_
  refine WP.reg [(0, false)] (by kernel_rfl) ?_
  refine as0 rfl rfl ?_
  refine .fin ?_
  refine WP.seq ?_
  refine WP.reg [(0, false)] (by kernel_rfl) ?_
  refine as0 rfl rfl ?_
  refine .fin ?_
  refine WP.seq ?_
  refine WP.reg [(0, false), (1, false), (2, false)] (by kernel_rfl) ?_
  refine mv0 rfl rfl ?_
  refine Dv.mkc (fst := #[.pointer (some ⟨b0_, 0, none⟩)]) rfl trivial rfl ?_
  refine as0 rfl rfl ?_
  refine .fin ?_
  refine WP.seqn H (fun q610 : (Int × Bool × (List ByteArray)) × OV => q610.1) (fun q610 : (Int × Bool × (List ByteArray)) × OV => [(0, eq (.pointer (some ⟨b0_, 0, none⟩))), (1, eq (.string a1)), (2, eq (.int .i64 a2)), (6, eq (.slice none 0 0)), (7, eq q610.2.1), (8, eq (.func (.func 18) #[.pointer (some ⟨b0_, 0, none⟩)] #[])), (16, eq v0_0.1), (17, eq (.int .i64 (a0.fl.length : Int))), (18, eq (.int .i64 q610.1.1)), (19, eq (.bool q610.1.2.1))]) (fun q610 : (Int × Bool × (List ByteArray)) × OV => [blk b0_ 56 [eq v0_0.1, eq v0_1.1], own Edu.K v0_0.1 a0.fl, own strK q610.2.1 q610.1.2.2] ++ F) (fun q610 H => ?_) (fun H => ?_)
  · obtain ⟨p592, v593⟩ := q610
    refine WP.seq ?_
    refine WP.reg [(0, false), (1, false)] (by kernel_rfl) ?_
    refine mv0 rfl rfl ?_
    refine as0 rfl rfl ?_
    refine .fin ?_
    obtain rfl := Gets.out H
    exact WP.retL (fun _ _ h => h) rfl v593 trivial (.cons (res_tmp rfl) .nil) rfl (st_seln 3 [0, 1, 2] 0 rfl rfl rfl)
  · refine WP.seq ?_
    refine WP.reg [(0, false), (1, false), (2, false), (3, false), (4, false), (5, false)] (by kernel_rfl) ?_
    refine mv0 rfl rfl ?_
    refine Dv.nilp rfl trivial rfl ?_
    refine Dv.fab rfl trivial rfl Tryz.underlying56 rfl Tryz.underlying22 c22 (by decide) ?_
    refine Dv.ldb rfl trivial rfl Tryz.underlying22 rfl (mem_at 0 rfl) rfl ?_
    refine Dv.lenw rfl trivial rfl (mem_at 1 rfl) Tryz.underlying22 ?_
    refine mv0 rfl rfl ?_
    refine .fin ?_
    refine WP.block ?_
    refine WP.gh (gh_of (st_nil strK none)) (fun _ _ => ?_)
    refine WP.gh (l' := fun _ => [blk b0_ 56 [eq v0_0.1, eq v0_1.1], own Edu.K v0_0.1 a0.fl, own strK nilV.1 ([] : List ByteArray)] ++ F) (gh_of (st_selgn 3 [1, 2, 0] 0 rfl rfl rfl)) (fun _ _ => ?_)
    refine WP.loopg (fun j_ (p609 : Int × (List ByteArray) × OV) => typing_Table_Users.l0 k a0 a1 a2 j_ p609.1 p609.2.1) (0, ([] : List ByteArray), nilV) H (fun p609 => [(0, eq (.pointer (some ⟨b0_, 0, none⟩))), (1, eq (.string a1)), (2, eq (.int .i64 a2)), (6, eq (.slice none 0 0)), (7, eq p609.2.2.1), (8, eq (.func (.func 18) #[.pointer (some ⟨b0_, 0, none⟩)] #[])), (16, eq v0_0.1), (17, eq (.int .i64 (a0.fl.length : Int))), (18, eq (.int .i64 p609.1))]) (fun p609 => [blk b0_ 56 [eq v0_0.1, eq v0_1.1], own Edu.K v0_0.1 a0.fl, own strK p609.2.2.1 p609.2.1] ++ F) (weak_cons rfl (weak_cons rfl (weak_cons rfl (weak_cons rfl (weak_cons rfl (weak_cons rfl (weak_cons rfl (weak_cons rfl (weak_cons rfl weak_nil))))))))) (List.Perm.refl _) ?_
    rintro j_ ⟨x594, x595, v596⟩ H
    rcases j_ with _ | j608
    · exact (Gets.no H).elim
    replace H : Gets (typing_Table_Users.l0 k a0 a1 a2 (j608 + 1) x594 x595) _ := H
    rw [typing_Table_Users.l0] at H
    refine WP.seq ?_
    refine WP.reg [(0, false)] (by kernel_rfl) ?_
    refine Dv.bin rfl trivial rfl rfl (fun _ => run_lt) ?_
    refine .fin ?_
    refine WP.seq ?_
    refine WP.cond rfl (fun c597 => ?_) (fun c597 => ?_)
    · replace H := Gets.ct H c597
      refine WP.skip ?_
      refine WP.seq ?_
      refine WP.block ?_
      refine WP.seq ?_
      refine WP.reg [(0, false), (1, false), (2, true), (3, true)] (by kernel_rfl) ?_
      obtain ⟨g598, H⟩ := Gets.grd H
      have h599 : x594.toNat < a0.fl.length := idx_lt g598
      refine Dv.ixw rfl trivial rfl (mem_at 1 rfl) rfl Tryz.underlying22 Tryz.underlying30 c30 g598.1 g598.2 ?_
      refine Dv.ldws (j := x594.toNat) (f := 0) rfl trivial rfl (mem_at 1 rfl) h599 Tryz.underlying30 rfl c30 (Nat.le_of_ble_eq_true rfl) ?_
      refine Dv.alloc (z := .agg #[.int .i64 0, .string ⟨#[]⟩, .string ⟨#[]⟩, .string ⟨#[]⟩, .string ⟨#[]⟩, .bool false, .bool false, .int .i64 0, .int .i64 0, .int .i64 0, .int .i64 0]) (qs := [eq (.int .i64 0), eq (.string (⟨#[]⟩ : ByteArray)), eq (.string (⟨#[]⟩ : ByteArray)), eq (.string (⟨#[]⟩ : ByteArray)), eq (.string (⟨#[]⟩ : ByteArray)), eq (.bool false), eq (.bool false), eq (.int .i64 0), eq (.int .i64 0), eq (.int .i64 0), eq (.int .i64 0)]) rfl trivial z30 rfl nofun (fun b600 => ?_)
      refine Dv.stx ([blk b600 30 [eq (.int .i64 ((a0.fl.getD x594.toNat default).fKind)), eq (.string ((a0.fl.getD x594.toNat default).fRoom)), eq (.string ((a0.fl.getD x594.toNat default).fUser)), eq (.string ((a0.fl.getD x594.toNat default).fEvent)), eq (.string ((a0.fl.getD x594.toNat default).fThread)), eq (.bool ((a0.fl.getD x594.toNat default).fPrivate)), eq (.bool ((a0.fl.getD x594.toNat default).fOn)), eq (.int .i64 ((a0.fl.getD x594.toNat default).fSpan)), eq (.int .i64 ((a0.fl.getD x594.toNat default).fState)), eq (.int .i64 ((a0.fl.getD x594.toNat default).fTick)), eq (.int .i64 ((a0.fl.getD x594.toNat default).fStamp))], blk b0_ 56 [eq v0_0.1, eq v0_1.1], own Edu.K v0_0.1 a0.fl, own strK v596.1 x595] ++ F) rfl trivial rfl rfl (cells_agg (Edu.K.one _)) Tryz.underlying30 c30 rfl (j := 0) rfl (Nat.le_of_ble_eq_true rfl) rfl nofun ?_
      refine .fin ?_
      refine WP.seq ?_
      refine WP.reg [(0, false), (1, false), (2, false), (3, false), (4, false), (5, false), (6, false), (7, false), (8, false), (9, false), (10, false), (11, false)] (by kernel_rfl) ?_
      refine Dv.fab rfl trivial rfl Tryz.underlying30 rfl Tryz.underlying9 c9 (by decide) ?_
      refine Dv.ldb rfl trivial rfl Tryz.underlying9 rfl (mem_at 0 rfl) rfl ?_
      refine mv0 rfl rfl ?_
      refine Dv.bin rfl trivial rfl rfl (fun _ => run_seq) ?_
      refine mv0 rfl rfl ?_
      cases c601 : decide (((a0.fl.getD x594.toNat default).fRoom) = a1)
      · replace H := Gets.cf H c601
        refine sk rfl rfl rfl rfl rfl ?_
        refine sk rfl rfl rfl rfl rfl ?_
        refine sk rfl rfl rfl rfl rfl ?_
        refine sk rfl rfl rfl rfl rfl ?_
        refine sk rfl rfl rfl rfl rfl ?_
        refine sk rfl rfl rfl rfl rfl ?_
        refine Dv.pickF rfl trivial rfl rfl ?_
        refine .fin ?_
        refine WP.cond rfl nofun (fun _ => ?_)
        refine WP.skip ?_
        refine WP.reg [(0, false), (1, false)] (by kernel_rfl) ?_
        refine Dv.bin rfl trivial rfl rfl (fun _ => run_add) ?_
        refine mv0 rfl rfl ?_
        refine .fin ?_
        refine Dn.gh (l' := fun _ : Unit => [blk b0_ 56 [eq v0_0.1, eq v0_1.1], own Edu.K v0_0.1 a0.fl, own strK v596.1 x595] ++ F) (gh_of (st_selgn 4 [0, 1, 2, 3] 1 rfl rfl rfl)) (fun _ _ => ?_)
        exact Back.mk j608 (w64 (x594 + 1), x595, v596) (Nat.lt_succ_self _) H (weak_cons rfl (weak_cons rfl (weak_cons rfl (weak_cons rfl (weak_cons rfl (weak_cons rfl (weak_cons rfl (weak_cons rfl (weak_cons rfl weak_nil))))))))) (List.Perm.refl _)
      · replace H := Gets.ct H c601
        refine Dv.mv rfl ⟨_, _, rfl, rfl, rfl⟩ rfl ?_
        refine Dv.mv rfl ⟨_, _, rfl, rfl, rfl⟩ rfl ?_
        refine Dv.fab rfl ⟨_, _, rfl, rfl, rfl⟩ rfl Tryz.underlying30 rfl Tryz.underlying9 c9 (by decide) ?_
        refine Dv.ldb rfl ⟨_, _, rfl, rfl, rfl⟩ rfl Tryz.underlying9 rfl (mem_at 0 rfl) rfl ?_
        refine Dv.mv rfl ⟨_, _, rfl, rfl, rfl⟩ rfl ?_
        obtain ⟨t602, h603, H⟩ := Gets.call H
        refine Dv.callc (fst := #[.pointer (some ⟨b0_, 0, none⟩)]) (B := [blk b0_ 56 [eq v0_0.1, eq v0_1.1], own Edu.K v0_0.1 a0.fl]) (F := [blk b600 30 [eq (.int .i64 ((a0.fl.getD x594.toNat default).fKind)), eq (.string ((a0.fl.getD x594.toNat default).fRoom)), eq (.string ((a0.fl.getD x594.toNat default).fUser)), eq (.string ((a0.fl.getD x594.toNat default).fEvent)), eq (.string ((a0.fl.getD x594.toNat default).fThread)), eq (.bool ((a0.fl.getD x594.toNat default).fPrivate)), eq (.bool ((a0.fl.getD x594.toNat default).fOn)), eq (.int .i64 ((a0.fl.getD x594.toNat default).fSpan)), eq (.int .i64 ((a0.fl.getD x594.toNat default).fState)), eq (.int .i64 ((a0.fl.getD x594.toNat default).fTick)), eq (.int .i64 ((a0.fl.getD x594.toNat default).fStamp))], own strK v596.1 x595] ++ F) rfl ⟨_, _, rfl, rfl, rfl⟩ rfl cal18 rfl (typing_Table_Types.c h603 (b0_ := b0_) (v0_0 := v0_0) (v0_1 := v0_1)) (perm_ton 4 [1, 2, 0, 3] rfl rfl rfl) ?_
        refine Dv.pickT rfl trivial rfl rfl ?_
        refine .fin ?_
        refine WP.cond rfl (fun c604 => ?_) (fun c604 => ?_)
        · replace H := Gets.ct H c604
          refine WP.reg [(0, false), (1, false), (2, false), (3, false), (4, true), (5, false)] (by kernel_rfl) ?_
          refine mv0 rfl rfl ?_
          refine Dv.fab rfl trivial rfl Tryz.underlying30 rfl Tryz.underlying9 c9 (by decide) ?_
          refine Dv.ldb rfl trivial rfl Tryz.underlying9 rfl (mem_at 0 rfl) rfl ?_
          refine Dv.lit strK ([(a0.fl.getD x594.toNat default).fUser] : List ByteArray) (css := [[eq (.string ((a0.fl.getD x594.toNat default).fUser))]]) rfl trivial Tryz.underlying37 Tryz.underlying9 c9 z9 rfl (by decide) (by decide) rfl ⟨(cells_one (one_eq rfl)), trivial⟩ rfl rfl rfl ?_
          obtain ⟨g605, H⟩ := Gets.grd H
          refine Dv.appx (jj := 3) (ys := ([(a0.fl.getD x594.toNat default).fUser] : List ByteArray)) (fun v606 : OV => [blk b600 30 [eq (.int .i64 ((a0.fl.getD x594.toNat default).fKind)), eq (.string ((a0.fl.getD x594.toNat default).fRoom)), eq (.string ((a0.fl.getD x594.toNat default).fUser)), eq (.string ((a0.fl.getD x594.toNat default).fEvent)), eq (.string ((a0.fl.getD x594.toNat default).fThread)), eq (.bool ((a0.fl.getD x594.toNat default).fPrivate)), eq (.bool ((a0.fl.getD x594.toNat default).fOn)), eq (.int .i64 ((a0.fl.getD x594.toNat default).fSpan)), eq (.int .i64 ((a0.fl.getD x594.toNat default).fState)), eq (.int .i64 ((a0.fl.getD x594.toNat default).fTick)), eq (.int .i64 ((a0.fl.getD x594.toNat default).fStamp))], blk b0_ 56 [eq v0_0.1, eq v0_1.1], own Edu.K v0_0.1 a0.fl, own strK v606.1 (x595 ++ ([(a0.fl.getD x594.toNat default).fUser] : List ByteArray))] ++ F) rfl trivial rfl rfl rfl src_sl Tryz.underlying37 (.inr ⟨_, Tryz.underlying37⟩) inf9 rfl (by decide) g605 rfl nofun (fun v606 => ?_)
          refine as0 rfl rfl ?_
          refine .fin ?_
          refine WP.reg [(0, false), (1, false)] (by kernel_rfl) ?_
          refine Dv.bin rfl trivial rfl rfl (fun _ => run_add) ?_
          refine mv0 rfl rfl ?_
          refine .fin ?_
          refine Dn.gh (l' := fun _ : Unit => [blk b0_ 56 [eq v0_0.1, eq v0_1.1], own Edu.K v0_0.1 a0.fl, own strK v606.1 (x595 ++ ([(a0.fl.getD x594.toNat default).fUser] : List ByteArray))] ++ F) (gh_of (st_selgn 4 [0, 1, 2, 3] 1 rfl rfl rfl)) (fun _ _ => ?_)
          exact Back.mk j608 (w64 (x594 + 1), x595 ++ ([(a0.fl.getD x594.toNat default).fUser] : List ByteArray), v606) (Nat.lt_succ_self _) H (weak_cons rfl (weak_cons rfl (weak_cons rfl (weak_cons rfl (weak_cons rfl (weak_cons rfl (weak_cons rfl (weak_cons rfl (weak_cons rfl weak_nil))))))))) (List.Perm.refl _)
        · replace H := Gets.cf H c604
          refine WP.skip ?_
          refine WP.reg [(0, false), (1, false)] (by kernel_rfl) ?_
          refine Dv.bin rfl trivial rfl rfl (fun _ => run_add) ?_
          refine mv0 rfl rfl ?_
          refine .fin ?_
          refine Dn.gh (l' := fun _ : Unit => [blk b0_ 56 [eq v0_0.1, eq v0_1.1], own Edu.K v0_0.1 a0.fl, own strK v596.1 x595] ++ F) (gh_of (st_selgn 4 [0, 1, 2, 3] 1 rfl rfl rfl)) (fun _ _ => ?_)
          exact Back.mk j608 (w64 (x594 + 1), x595, v596) (Nat.lt_succ_self _) H (weak_cons rfl (weak_cons rfl (weak_cons rfl (weak_cons rfl (weak_cons rfl (weak_cons rfl (weak_cons rfl (weak_cons rfl (weak_cons rfl weak_nil))))))))) (List.Perm.refl _)
    · replace H := Gets.cf H c597
      refine WP.exit ?_
      replace H := Gets.out H
      exact Jn.mk ((x594, decide (x594 < (a0.fl.length : Int)), x595), v596) H (weak_cons rfl (weak_cons rfl (weak_cons rfl (weak_cons rfl (weak_cons rfl (weak_cons rfl (weak_cons rfl (weak_cons rfl (weak_cons rfl (weak_cons rfl weak_nil)))))))))) (List.Perm.refl _)
theorem concourseref01_Few.c {a0 : ByteArray} {a1 : Int} {r : ByteArray} (h : concourseref01_Few.f a0 a1 = some r) : Pt Tryz.prog 23 [eq (.string a0), eq (.int .i64 a1)] (eq (.string r)) := by
  unfold concourseref01_Few.f at h
  refine (Tr.body Tryz.func23 (c := _) rfl Tryz.ntmps23 (Nat.le_of_ble_eq_true rfl) fun R0 F => ?_).pt
  replace h := Gets.of h
  have H := h
  clear h
  refine WP.seq ?_
  refine WP.reg [(0, false)] (by kernel_rfl) ?_
  refine as0 rfl rfl ?_
  refine .fin ?_
  refine WP.seq ?_
  refine WP.seq ?_
  refine WP.reg [(0, false), (1, false), (2, false), (3, false)] (by kernel_rfl) ?_
  refine mv0 rfl rfl ?_
  refine Dv.lens rfl trivial rfl Tryz.underlying9 ?_
  refine mv0 rfl rfl ?_
  refine Dv.bin rfl trivial rfl rfl (fun _ => run_gt) ?_
  refine .fin ?_
  refine WP.cond rfl (fun c726 => ?_) (fun c726 => ?_)
  · replace H := Gets.ct H c726
    refine WP.seq ?_
    refine WP.reg [(0, false), (1, false), (2, false), (3, false)] (by kernel_rfl) ?_
    refine mv0 rfl rfl ?_
    refine mv0 rfl rfl ?_
    obtain ⟨g727, H⟩ := Gets.grd H
    refine Dv.sss rfl trivial rfl Tryz.underlying9 bdE_none (bdE_some rfl g727.1) g727.2.1 g727.2.2 ?_
    refine as0 rfl rfl ?_
    refine .fin ?_
    obtain rfl := Gets.out H
    exact WP.retL (fun _ _ h => h) rfl () trivial (.cons (res_tmp rfl) .nil) rfl (st_seln 0 [] 0 rfl rfl rfl)
  · replace H := Gets.cf H c726
    refine WP.skip ?_
    refine WP.seq ?_
    refine WP.reg [(0, false), (1, false)] (by kernel_rfl) ?_
    refine mv0 rfl rfl ?_
    refine as0 rfl rfl ?_
    refine .fin ?_
    obtain rfl := Gets.out H
    exact WP.retL (fun _ _ h => h) rfl () trivial (.cons (res_tmp rfl) .nil) rfl (st_seln 0 [] 0 rfl rfl rfl)
theorem concourseref03_Few.c {a0 : Edu} {r : Edu} (h : concourseref03_Few.f a0 = some r) : Pt Tryz.prog 7 [agg (Edu.enc a0)] (agg (Edu.enc r)) := by
  unfold concourseref03_Few.f at h
  refine (Tr.body Tryz.func7 (c := _) rfl Tryz.ntmps7 (Nat.le_of_ble_eq_true rfl) fun R0 F => ?_).pt
  replace h := Gets.of h
  have H := h
  clear h
  refine WP.seq ?_
  refine WP.reg [(0, true), (1, true)] (by kernel_rfl) ?_
  refine Dv.box rfl trivial rfl (cells_agg (Edu.K.one _)) nofun (fun b728 => ?_)
  refine Dv.alloc (z := .agg #[.int .i64 0, .string ⟨#[]⟩, .string ⟨#[]⟩, .string ⟨#[]⟩, .string ⟨#[]⟩, .bool false, .bool false, .int .i64 0, .int .i64 0, .int .i64 0, .int .i64 0]) (qs := [eq (.int .i64 0), eq (.string (⟨#[]⟩ : ByteArray)), eq (.string (⟨#[]⟩ : ByteArray)), eq (.string (⟨#[]⟩ : ByteArray)), eq (.string (⟨#[]⟩ : ByteArray)), eq (.bool false), eq (.bool false), eq (.int .i64 0), eq (.int .i64 0), eq (.int .i64 0), eq (.int .i64 0)]) rfl trivial z30 rfl nofun (fun b729 => ?_)
  refine .fin ?_
  refine WP.seq ?_
  refine WP.reg [(0, false), (1, false), (2, false), (3, false), (4, true)] (by kernel_rfl) ?_
  refine Dv.fab rfl trivial rfl Tryz.underlying30 rfl Tryz.underlying9 c9 (by decide) ?_
  refine Dv.ldb rfl trivial rfl Tryz.underlying9 rfl (mem_at 1 rfl) rfl ?_
  obtain ⟨t730, h731, H⟩ := Gets.call H
  refine Dv.call rfl trivial cal23 rfl (concourseref01_Few.c h731) ?_
  refine Dv.fab rfl trivial rfl Tryz.underlying30 rfl Tryz.underlying9 c9 (by decide) ?_
  refine Dv.stx ([blk b729 30 [eq (.int .i64 0), eq (.string (⟨#[]⟩ : ByteArray)), eq (.string (⟨#[]⟩ : ByteArray)), eq (.string (⟨#[]⟩ : ByteArray)), eq (.string (⟨#[]⟩ : ByteArray)), eq (.bool false), eq (.bool false), eq (.int .i64 0), eq (.int .i64 0), eq (.int .i64 0), eq (.int .i64 0)], blk b728 30 [eq (.int .i64 a0.fKind), eq (.string t730), eq (.string a0.fUser), eq (.string a0.fEvent), eq (.string a0.fThread), eq (.bool a0.fPrivate), eq (.bool a0.fOn), eq (.int .i64 a0.fSpan), eq (.int .i64 a0.fState), eq (.int .i64 a0.fTick), eq (.int .i64 a0.fStamp)]] ++ F) rfl trivial rfl rfl (cells_one (one_eq rfl)) Tryz.underlying9 c9 rfl (j := 1) rfl (Nat.le_of_ble_eq_true rfl) rfl nofun ?_
  refine .fin ?_
  refine WP.seq ?_
  refine WP.reg [(0, false), (1, false), (2, false), (3, false), (4, true)] (by kernel_rfl) ?_
  refine Dv.fab rfl trivial rfl Tryz.underlying30 rfl Tryz.underlying9 c9 (by decide) ?_
  refine Dv.ldb rfl trivial rfl Tryz.underlying9 rfl (mem_at 1 rfl) rfl ?_
  obtain ⟨t732, h733, H⟩ := Gets.call H
  refine Dv.call rfl trivial cal23 rfl (concourseref01_Few.c h733) ?_
  refine Dv.fab rfl trivial rfl Tryz.underlying30 rfl Tryz.underlying9 c9 (by decide) ?_
  refine Dv.stx ([blk b729 30 [eq (.int .i64 0), eq (.string (⟨#[]⟩ : ByteArray)), eq (.string (⟨#[]⟩ : ByteArray)), eq (.string (⟨#[]⟩ : ByteArray)), eq (.string (⟨#[]⟩ : ByteArray)), eq (.bool false), eq (.bool false), eq (.int .i64 0), eq (.int .i64 0), eq (.int .i64 0), eq (.int .i64 0)], blk b728 30 [eq (.int .i64 a0.fKind), eq (.string t730), eq (.string t732), eq (.string a0.fEvent), eq (.string a0.fThread), eq (.bool a0.fPrivate), eq (.bool a0.fOn), eq (.int .i64 a0.fSpan), eq (.int .i64 a0.fState), eq (.int .i64 a0.fTick), eq (.int .i64 a0.fStamp)]] ++ F) rfl trivial rfl rfl (cells_one (one_eq rfl)) Tryz.underlying9 c9 rfl (j := 1) rfl (Nat.le_of_ble_eq_true rfl) rfl nofun ?_
  refine .fin ?_
  refine WP.seq ?_
  refine WP.reg [(0, false), (1, false), (2, false), (3, false), (4, true)] (by kernel_rfl) ?_
  refine Dv.fab rfl trivial rfl Tryz.underlying30 rfl Tryz.underlying9 c9 (by decide) ?_
  refine Dv.ldb rfl trivial rfl Tryz.underlying9 rfl (mem_at 1 rfl) rfl ?_
  obtain ⟨t734, h735, H⟩ := Gets.call H
  refine Dv.call rfl trivial cal23 rfl (concourseref01_Few.c h735) ?_
  refine Dv.fab rfl trivial rfl Tryz.underlying30 rfl Tryz.underlying9 c9 (by decide) ?_
  refine Dv.stx ([blk b729 30 [eq (.int .i64 0), eq (.string (⟨#[]⟩ : ByteArray)), eq (.string (⟨#[]⟩ : ByteArray)), eq (.string (⟨#[]⟩ : ByteArray)), eq (.string (⟨#[]⟩ : ByteArray)), eq (.bool false), eq (.bool false), eq (.int .i64 0), eq (.int .i64 0), eq (.int .i64 0), eq (.int .i64 0)], blk b728 30 [eq (.int .i64 a0.fKind), eq (.string t730), eq (.string t732), eq (.string t734), eq (.string a0.fThread), eq (.bool a0.fPrivate), eq (.bool a0.fOn), eq (.int .i64 a0.fSpan), eq (.int .i64 a0.fState), eq (.int .i64 a0.fTick), eq (.int .i64 a0.fStamp)]] ++ F) rfl trivial rfl rfl (cells_one (one_eq rfl)) Tryz.underlying9 c9 rfl (j := 1) rfl (Nat.le_of_ble_eq_true rfl) rfl nofun ?_
  refine .fin ?_
  refine WP.seq ?_
  refine WP.reg [(0, false), (1, false), (2, false), (3, false), (4, true)] (by kernel_rfl) ?_
  refine Dv.fab rfl trivial rfl Tryz.underlying30 rfl Tryz.underlying9 c9 (by decide) ?_
  refine Dv.ldb rfl trivial rfl Tryz.underlying9 rfl (mem_at 1 rfl) rfl ?_
  obtain ⟨t736, h737, H⟩ := Gets.call H
  refine Dv.call rfl trivial cal23 rfl (concourseref01_Few.c h737) ?_
  refine Dv.fab rfl trivial rfl Tryz.underlying30 rfl Tryz.underlying9 c9 (by decide) ?_
  refine Dv.stx ([blk b729 30 [eq (.int .i64 0), eq (.string (⟨#[]⟩ : ByteArray)), eq (.string (⟨#[]⟩ : ByteArray)), eq (.string (⟨#[]⟩ : ByteArray)), eq (.string (⟨#[]⟩ : ByteArray)), eq (.bool false), eq (.bool false), eq (.int .i64 0), eq (.int .i64 0), eq (.int .i64 0), eq (.int .i64 0)], blk b728 30 [eq (.int .i64 a0.fKind), eq (.string t730), eq (.string t732), eq (.string t734), eq (.string t736), eq (.bool a0.fPrivate), eq (.bool a0.fOn), eq (.int .i64 a0.fSpan), eq (.int .i64 a0.fState), eq (.int .i64 a0.fTick), eq (.int .i64 a0.fStamp)]] ++ F) rfl trivial rfl rfl (cells_one (one_eq rfl)) Tryz.underlying9 c9 rfl (j := 1) rfl (Nat.le_of_ble_eq_true rfl) rfl nofun ?_
  refine .fin ?_
  refine WP.seq ?_
  refine WP.reg [(0, false), (1, true)] (by kernel_rfl) ?_
  refine Dv.ldbs rfl trivial rfl Tryz.underlying30 rfl c30 (mem_at 1 rfl) (Nat.le_of_ble_eq_true rfl) ?_
  refine Dv.stx ([blk b729 30 [eq (.int .i64 a0.fKind), eq (.string t730), eq (.string t732), eq (.string t734), eq (.string t736), eq (.bool a0.fPrivate), eq (.bool a0.fOn), eq (.int .i64 a0.fSpan), eq (.int .i64 a0.fState), eq (.int .i64 a0.fTick), eq (.int .i64 a0.fStamp)], blk b728 30 [eq (.int .i64 a0.fKind), eq (.string t730), eq (.string t732), eq (.string t734), eq (.string t736), eq (.bool a0.fPrivate), eq (.bool a0.fOn), eq (.int .i64 a0.fSpan), eq (.int .i64 a0.fState), eq (.int .i64 a0.fTick), eq (.int .i64 a0.fStamp)]] ++ F) rfl trivial rfl rfl (cells_agg (ones_cons (one_eq rfl) (ones_cons (one_eq rfl) (ones_cons (one_eq rfl) (ones_cons (one_eq rfl) (ones_cons (one_eq rfl) (ones_cons (one_eq rfl) (ones_cons (one_eq rfl) (ones_cons (one_eq rfl) (ones_cons (one_eq rfl) (ones_cons (one_eq rfl) (ones_cons (one_eq rfl) ones_nil)))))))))))) Tryz.underlying30 c30 rfl (j := 0) rfl (Nat.le_of_ble_eq_true rfl) rfl nofun ?_
  refine .fin ?_
  obtain rfl := Gets.out H
  exact WP.retL (fun _ _ h => h) rfl () trivial (.cons (res_cells rfl Tryz.underlying30 rfl c30 (mem_at 0 rfl) rfl) .nil) rfl (st_seln 2 [0, 1] 2 rfl rfl rfl)
theorem concourseref01_colon.c {k : Nat} {a0 : ByteArray} {r : Int} (h : concourseref01_colon.f k a0 = some r) : Pt Tryz.prog 91 [eq (.string a0)] (eq (.int .i64 r)) := by
  unfold concourseref01_colon.f at h
  refine (Tr.body Tryz.func91 (c := _) rfl Tryz.ntmps91 (Nat.le_of_ble_eq_true rfl) fun R0 F => ?_).pt
  replace h := Gets.of h
  have H := h
  clear h
  refine WP.seq ?_
  refine WP.reg [(0, false)] (by kernel_rfl) ?_
  refine as0 rfl rfl ?_
  refine .fin ?_
  refine WP.seqr H id (fun p738 : Int × Bool => [(0, eq (.string a0)), (2, eq (.int .i64 0)), (3, eq (.int .i64 p738.1)), (7, eq (.bool p738.2))]) (fun p738 : Int × Bool => [] ++ F) (fun p738 H => ?_) (fun H => ?_)
  · refine WP.seq ?_
    refine WP.reg [(0, false)] (by kernel_rfl) ?_
    refine as0 rfl rfl ?_
    refine .fin ?_
    obtain rfl := Gets.out H
    exact WP.retL (fun _ _ h => h) rfl () trivial (.cons (res_tmp rfl) .nil) rfl (st_seln 0 [] 0 rfl rfl rfl)
  · refine WP.seq ?_
    refine WP.reg [(0, false)] (by kernel_rfl) ?_
    refine as0 rfl rfl ?_
    refine .fin ?_
    refine WP.block ?_
    refine WP.gh (l' := fun _ => [] ++ F) (gh_of (st_selgn 0 [] 0 rfl rfl rfl)) (fun _ _ => ?_)
    refine WP.loopg (fun j_ (p744 : Int) => concourseref01_colon.l0 k a0 j_ p744) 0 H (fun p744 => [(0, eq (.string a0)), (2, eq (.int .i64 0)), (3, eq (.int .i64 p744))]) (fun p744 => [] ++ F) (weak_cons rfl (weak_cons rfl (weak_cons rfl weak_nil))) (List.Perm.refl _) ?_
    rintro j_ x739 H
    rcases j_ with _ | j743
    · exact (Gets.no H).elim
    replace H : Gets (concourseref01_colon.l0 k a0 (j743 + 1) x739) _ := H
    rw [concourseref01_colon.l0] at H
    refine WP.seq ?_
    refine WP.seq ?_
    refine WP.reg [(0, false), (1, false), (2, false), (3, false)] (by kernel_rfl) ?_
    refine mv0 rfl rfl ?_
    refine mv0 rfl rfl ?_
    refine Dv.lens rfl trivial rfl Tryz.underlying9 ?_
    refine Dv.bin rfl trivial rfl rfl (fun _ => run_lt) ?_
    refine .fin ?_
    refine WP.cond rfl (fun c740 => ?_) (fun c740 => ?_)
    · replace H := Gets.ct H c740
      refine WP.skip ?_
      refine WP.seq ?_
      refine WP.block ?_
      refine WP.seq ?_
      refine WP.reg [(0, false), (1, false), (2, false), (3, false)] (by kernel_rfl) ?_
      refine mv0 rfl rfl ?_
      refine mv0 rfl rfl ?_
      obtain ⟨g741, H⟩ := Gets.grd H
      refine Dv.ixs rfl trivial rfl rfl Tryz.underlying9 g741.1 g741.2 ?_
      refine Dv.bin rfl trivial rfl rfl (fun _ => run_eq) ?_
      refine .fin ?_
      refine WP.cond rfl (fun c742 => ?_) (fun c742 => ?_)
      · replace H := Gets.ct H c742
        refine WP.seq ?_
        refine WP.reg [(0, false), (1, false)] (by kernel_rfl) ?_
        refine mv0 rfl rfl ?_
        refine as0 rfl rfl ?_
        refine .fin ?_
        replace H := Gets.outr H
        obtain rfl := Gets.out H
        exact WP.retL (fun _ _ h => h) rfl () trivial (.cons (res_tmp rfl) .nil) rfl (st_seln 0 [] 0 rfl rfl rfl)
      · replace H := Gets.cf H c742
        refine WP.skip ?_
        refine WP.reg [(0, false), (1, false), (2, false)] (by kernel_rfl) ?_
        refine mv0 rfl rfl ?_
        refine Dv.bin rfl trivial rfl rfl (fun _ => run_add) ?_
        refine as0 rfl rfl ?_
        refine .fin ?_
        exact Back.mk j743 (w64 (x739 + 1)) (Nat.lt_succ_self _) H (weak_cons rfl (weak_cons rfl (weak_cons rfl weak_nil))) (List.Perm.refl _)
    · replace H := Gets.cf H c740
      refine WP.exit ?_
      replace H := Gets.out H
      exact Jn.mk (x739, decide (x739 < (a0.size : Int))) H (weak_cons rfl (weak_cons rfl (weak_cons rfl (weak_cons rfl weak_nil)))) (List.Perm.refl _)
theorem concourseref01_low.c {a0 : Int} {r : Bool} (h : concourseref01_low.f a0 = some r) : Pt Tryz.prog 94 [eq (.int .u8 a0)] (eq (.bool r)) := by
  unfold concourseref01_low.f at h
  refine (Tr.body Tryz.func94 (c := _) rfl Tryz.ntmps94 (Nat.le_of_ble_eq_true rfl) fun R0 F => ?_).pt
  replace h := Gets.of h
  have H := h
  clear h
  refine WP.seq ?_
  refine WP.reg [(0, false)] (by kernel_rfl) ?_
  refine as0 rfl rfl ?_
  refine .fin ?_
  refine WP.seq ?_
  refine WP.reg [(0, false), (1, false), (2, false), (3, false), (4, false), (5, false), (6, false), (7, false), (8, false), (9, false), (10, false), (11, false), (12, false), (13, false), (14, false)] (by kernel_rfl) ?_
  refine mv0 rfl rfl ?_
  refine Dv.bin rfl trivial rfl rfl (fun _ => run_ge) ?_
  refine mv0 rfl rfl ?_
  cases c745 : decide (97 ≤ a0)
  · replace H := Gets.cf H c745
    refine sk rfl rfl rfl rfl rfl ?_
    refine sk rfl rfl rfl rfl rfl ?_
    refine Dv.pickF rfl trivial rfl rfl ?_
    refine mv0 rfl rfl ?_
    refine Dv.mv rfl ⟨_, _, rfl, rfl, rfl⟩ rfl ?_
    refine Dv.bin rfl ⟨_, _, rfl, rfl, rfl⟩ rfl rfl (fun _ => run_ge) ?_
    refine Dv.mv rfl ⟨_, _, rfl, rfl, rfl⟩ rfl ?_
    cases c748 : decide (48 ≤ a0)
    · replace H := Gets.cf H c748
      refine sk rfl rfl rfl rfl rfl ?_
      refine sk rfl rfl rfl rfl rfl ?_
      refine Dv.pickF rfl ⟨_, _, rfl, rfl, rfl⟩ rfl rfl ?_
      refine Dv.pickF rfl trivial rfl rfl ?_
      refine as0 rfl rfl ?_
      refine .fin ?_
      obtain rfl := Gets.out H
      exact WP.retL (fun _ _ h => h) rfl () trivial (.cons (res_tmp rfl) .nil) rfl (st_seln 0 [] 0 rfl rfl rfl)
    · replace H := Gets.ct H c748
      refine Dv.mv rfl ⟨_, _, rfl, rfl, rfl⟩ rfl ?_
      refine Dv.bin rfl ⟨_, _, rfl, rfl, rfl⟩ rfl rfl (fun _ => run_le) ?_
      refine Dv.pickT rfl ⟨_, _, rfl, rfl, rfl⟩ rfl rfl ?_
      refine Dv.pickF rfl trivial rfl rfl ?_
      refine as0 rfl rfl ?_
      refine .fin ?_
      obtain rfl := Gets.out H
      exact WP.retL (fun _ _ h => h) rfl () trivial (.cons (res_tmp rfl) .nil) rfl (st_seln 0 [] 0 rfl rfl rfl)
  · replace H := Gets.ct H c745
    refine Dv.mv rfl ⟨_, _, rfl, rfl, rfl⟩ rfl ?_
    refine Dv.bin rfl ⟨_, _, rfl, rfl, rfl⟩ rfl rfl (fun _ => run_le) ?_
    refine Dv.pickT rfl trivial rfl rfl ?_
    refine mv0 rfl rfl ?_
    cases c746 : decide (a0 ≤ 122)
    · replace H := Gets.cf H c746
      refine Dv.mv rfl ⟨_, _, rfl, rfl, rfl⟩ rfl ?_
      refine Dv.bin rfl ⟨_, _, rfl, rfl, rfl⟩ rfl rfl (fun _ => run_ge) ?_
      refine Dv.mv rfl ⟨_, _, rfl, rfl, rfl⟩ rfl ?_
      cases c747 : decide (48 ≤ a0)
      · replace H := Gets.cf H c747
        refine sk rfl rfl rfl rfl rfl ?_
        refine sk rfl rfl rfl rfl rfl ?_
        refine Dv.pickF rfl ⟨_, _, rfl, rfl, rfl⟩ rfl rfl ?_
        refine Dv.pickF rfl trivial rfl rfl ?_
        refine as0 rfl rfl ?_
        refine .fin ?_
        obtain rfl := Gets.out H
        exact WP.retL (fun _ _ h => h) rfl () trivial (.cons (res_tmp rfl) .nil) rfl (st_seln 0 [] 0 rfl rfl rfl)
      · replace H := Gets.ct H c747
        refine Dv.mv rfl ⟨_, _, rfl, rfl, rfl⟩ rfl ?_
        refine Dv.bin rfl ⟨_, _, rfl, rfl, rfl⟩ rfl rfl (fun _ => run_le) ?_
        refine Dv.pickT rfl ⟨_, _, rfl, rfl, rfl⟩ rfl rfl ?_
        refine Dv.pickF rfl trivial rfl rfl ?_
        refine as0 rfl rfl ?_
        refine .fin ?_
        obtain rfl := Gets.out H
        exact WP.retL (fun _ _ h => h) rfl () trivial (.cons (res_tmp rfl) .nil) rfl (st_seln 0 [] 0 rfl rfl rfl)
    · replace H := Gets.ct H c746
      refine sk rfl rfl rfl rfl rfl ?_
      refine sk rfl rfl rfl rfl rfl ?_
      refine sk rfl rfl rfl rfl rfl ?_
      refine Dv.skip rfl ⟨_, _, rfl, rfl, .inr rfl⟩ ?_
      refine Dv.skip rfl ⟨_, _, rfl, rfl, .inr rfl⟩ ?_
      refine sk rfl rfl rfl rfl rfl ?_
      refine Dv.pickT rfl trivial rfl rfl ?_
      refine as0 rfl rfl ?_
      refine .fin ?_
      obtain rfl := Gets.out H
      exact WP.retL (fun _ _ h => h) rfl () trivial (.cons (res_tmp rfl) .nil) rfl (st_seln 0 [] 0 rfl rfl rfl)
theorem concourseref01_Part.c {k : Nat} {a0 : ByteArray} {r : Bool} (h : concourseref01_Part.f k a0 = some r) : Pt Tryz.prog 92 [eq (.string a0)] (eq (.bool r)) := by
  unfold concourseref01_Part.f at h
  refine (Tr.body Tryz.func92 (c := _) rfl Tryz.ntmps92 (Nat.le_of_ble_eq_true rfl) fun R0 F => ?_).pt
  replace h := Gets.of h
  have H := h
  clear h
  refine WP.seq ?_
  refine WP.reg [(0, false)] (by kernel_rfl) ?_
  refine as0 rfl rfl ?_
  refine .fin ?_
  refine WP.seqr H id (fun p749 : Int × Bool => [(0, eq (.string a0)), (2, eq (.bool false)), (3, eq (.int .i64 p749.1)), (8, eq (.bool p749.2))]) (fun p749 : Int × Bool => [] ++ F) (fun p749 H => ?_) (fun H => ?_)
  · refine WP.seq ?_
    refine WP.reg [(0, false), (1, false), (2, false), (3, false), (4, false), (5, false), (6, false), (7, false), (8, false)] (by kernel_rfl) ?_
    refine mv0 rfl rfl ?_
    refine Dv.lens rfl trivial rfl Tryz.underlying9 ?_
    refine Dv.bin rfl trivial rfl rfl (fun _ => run_gt) ?_
    refine mv0 rfl rfl ?_
    cases c750 : decide (0 < (a0.size : Int))
    · replace H := Gets.cf H c750
      refine sk rfl rfl rfl rfl rfl ?_
      refine sk rfl rfl rfl rfl rfl ?_
      refine sk rfl rfl rfl rfl rfl ?_
      refine Dv.pickF rfl trivial rfl rfl ?_
      refine as0 rfl rfl ?_
      refine .fin ?_
      obtain rfl := Gets.out H
      exact WP.retL (fun _ _ h => h) rfl () trivial (.cons (res_tmp rfl) .nil) rfl (st_seln 0 [] 0 rfl rfl rfl)
    · replace H := Gets.ct H c750
      refine Dv.mv rfl ⟨_, _, rfl, rfl, rfl⟩ rfl ?_
      refine Dv.lens rfl ⟨_, _, rfl, rfl, rfl⟩ rfl Tryz.underlying9 ?_
      refine Dv.bin rfl ⟨_, _, rfl, rfl, rfl⟩ rfl rfl (fun _ => run_lt) ?_
      refine Dv.pickT rfl trivial rfl rfl ?_
      refine as0 rfl rfl ?_
      refine .fin ?_
      obtain rfl := Gets.out H
      exact WP.retL (fun _ _ h => h) rfl () trivial (.cons (res_tmp rfl) .nil) rfl (st_seln 0 [] 0 rfl rfl rfl)
  · refine WP.seq ?_
    refine WP.reg [(0, false)] (by kernel_rfl) ?_
    refine as0 rfl rfl ?_
    refine .fin ?_
    refine WP.block ?_
    refine WP.gh (l' := fun _ => [] ++ F) (gh_of (st_selgn 0 [] 0 rfl rfl rfl)) (fun _ _ => ?_)
    refine WP.loopg (fun j_ (p767 : Int) => concourseref01_Part.l0 k a0 j_ p767) 0 H (fun p767 => [(0, eq (.string a0)), (2, eq (.bool false)), (3, eq (.int .i64 p767))]) (fun p767 => [] ++ F) (weak_cons rfl (weak_cons rfl (weak_cons rfl weak_nil))) (List.Perm.refl _) ?_
    rintro j_ x751 H
    rcases j_ with _ | j766
    · exact (Gets.no H).elim
    replace H : Gets (concourseref01_Part.l0 k a0 (j766 + 1) x751) _ := H
    rw [concourseref01_Part.l0] at H
    refine WP.seq ?_
    refine WP.seq ?_
    refine WP.reg [(0, false), (1, false), (2, false), (3, false)] (by kernel_rfl) ?_
    refine mv0 rfl rfl ?_
    refine mv0 rfl rfl ?_
    refine Dv.lens rfl trivial rfl Tryz.underlying9 ?_
    refine Dv.bin rfl trivial rfl rfl (fun _ => run_lt) ?_
    refine .fin ?_
    refine WP.cond rfl (fun c752 => ?_) (fun c752 => ?_)
    · replace H := Gets.ct H c752
      refine WP.skip ?_
      refine WP.seq ?_
      refine WP.block ?_
      refine WP.seq ?_
      refine WP.reg [(0, false), (1, false), (2, false), (3, false), (4, false)] (by kernel_rfl) ?_
      refine mv0 rfl rfl ?_
      refine mv0 rfl rfl ?_
      obtain ⟨g753, H⟩ := Gets.grd H
      refine Dv.ixs rfl trivial rfl rfl Tryz.underlying9 g753.1 g753.2 ?_
      obtain ⟨t754, h755, H⟩ := Gets.call H
      refine Dv.call rfl trivial cal94 rfl (concourseref01_low.c h755) ?_
      refine as0 rfl rfl ?_
      refine .fin ?_
      refine WP.seq ?_
      refine WP.reg [(0, false), (1, false), (2, false), (3, false), (4, false), (5, false), (6, false), (7, false), (8, false), (9, false), (10, false), (11, false), (12, false), (13, false), (14, false), (15, false), (16, false), (17, false), (18, false), (19, false)] (by kernel_rfl) ?_
      refine mv0 rfl rfl ?_
      refine Dv.un rfl trivial rfl (fun _ => run_not _) ?_
      refine mv0 rfl rfl ?_
      cases c756 : !t754
      · replace H := Gets.cf H c756
        refine sk rfl rfl rfl rfl rfl ?_
        refine sk rfl rfl rfl rfl rfl ?_
        refine sk rfl rfl rfl rfl rfl ?_
        refine sk rfl rfl rfl rfl rfl ?_
        refine Dv.pickF rfl trivial rfl rfl ?_
        refine mv0 rfl rfl ?_
        refine sk rfl rfl rfl rfl rfl ?_
        refine sk rfl rfl rfl rfl rfl ?_
        refine sk rfl rfl rfl rfl rfl ?_
        refine sk rfl rfl rfl rfl rfl ?_
        refine Dv.pickF rfl trivial rfl rfl ?_
        refine mv0 rfl rfl ?_
        refine sk rfl rfl rfl rfl rfl ?_
        refine sk rfl rfl rfl rfl rfl ?_
        refine sk rfl rfl rfl rfl rfl ?_
        refine sk rfl rfl rfl rfl rfl ?_
        refine Dv.pickF rfl trivial rfl rfl ?_
        refine .fin ?_
        refine WP.cond rfl nofun (fun _ => ?_)
        refine WP.skip ?_
        refine WP.reg [(0, false), (1, false), (2, false)] (by kernel_rfl) ?_
        refine mv0 rfl rfl ?_
        refine Dv.bin rfl trivial rfl rfl (fun _ => run_add) ?_
        refine as0 rfl rfl ?_
        refine .fin ?_
        exact Back.mk j766 (w64 (x751 + 1)) (Nat.lt_succ_self _) H (weak_cons rfl (weak_cons rfl (weak_cons rfl weak_nil))) (List.Perm.refl _)
      · replace H := Gets.ct H c756
        refine Dv.mv rfl ⟨_, _, rfl, rfl, rfl⟩ rfl ?_
        refine Dv.mv rfl ⟨_, _, rfl, rfl, rfl⟩ rfl ?_
        obtain ⟨g757, H⟩ := Gets.grd H
        refine Dv.ixs rfl ⟨_, _, rfl, rfl, rfl⟩ rfl rfl Tryz.underlying9 g757.1 g757.2 ?_
        refine Dv.bin rfl ⟨_, _, rfl, rfl, rfl⟩ rfl rfl (fun _ => run_ne) ?_
        refine Dv.pickT rfl trivial rfl rfl ?_
        refine mv0 rfl rfl ?_
        cases c758 : ((bt a0 x751) != 46)
        · replace H := Gets.cf H c758
          refine sk rfl rfl rfl rfl rfl ?_
          refine sk rfl rfl rfl rfl rfl ?_
          refine sk rfl rfl rfl rfl rfl ?_
          refine sk rfl rfl rfl rfl rfl ?_
          refine Dv.pickF rfl trivial rfl rfl ?_
          refine mv0 rfl rfl ?_
          refine sk rfl rfl rfl rfl rfl ?_
          refine sk rfl rfl rfl rfl rfl ?_
          refine sk rfl rfl rfl rfl rfl ?_
          refine sk rfl rfl rfl rfl rfl ?_
          refine Dv.pickF rfl trivial rfl rfl ?_
          refine .fin ?_
          refine WP.cond rfl nofun (fun _ => ?_)
          refine WP.skip ?_
          refine WP.reg [(0, false), (1, false), (2, false)] (by kernel_rfl) ?_
          refine mv0 rfl rfl ?_
          refine Dv.bin rfl trivial rfl rfl (fun _ => run_add) ?_
          refine as0 rfl rfl ?_
          refine .fin ?_
          exact Back.mk j766 (w64 (x751 + 1)) (Nat.lt_succ_self _) H (weak_cons rfl (weak_cons rfl (weak_cons rfl weak_nil))) (List.Perm.refl _)
        · replace H := Gets.ct H c758
          refine Dv.mv rfl ⟨_, _, rfl, rfl, rfl⟩ rfl ?_
          refine Dv.mv rfl ⟨_, _, rfl, rfl, rfl⟩ rfl ?_
          obtain ⟨g759, H⟩ := Gets.grd H
          refine Dv.ixs rfl ⟨_, _, rfl, rfl, rfl⟩ rfl rfl Tryz.underlying9 g759.1 g759.2 ?_
          refine Dv.bin rfl ⟨_, _, rfl, rfl, rfl⟩ rfl rfl (fun _ => run_ne) ?_
          refine Dv.pickT rfl trivial rfl rfl ?_
          refine mv0 rfl rfl ?_
          cases c760 : ((bt a0 x751) != 45)
          · replace H := Gets.cf H c760
            refine sk rfl rfl rfl rfl rfl ?_
            refine sk rfl rfl rfl rfl rfl ?_
            refine sk rfl rfl rfl rfl rfl ?_
            refine sk rfl rfl rfl rfl rfl ?_
            refine Dv.pickF rfl trivial rfl rfl ?_
            refine .fin ?_
            refine WP.cond rfl nofun (fun _ => ?_)
            refine WP.skip ?_
            refine WP.reg [(0, false), (1, false), (2, false)] (by kernel_rfl) ?_
            refine mv0 rfl rfl ?_
            refine Dv.bin rfl trivial rfl rfl (fun _ => run_add) ?_
            refine as0 rfl rfl ?_
            refine .fin ?_
            exact Back.mk j766 (w64 (x751 + 1)) (Nat.lt_succ_self _) H (weak_cons rfl (weak_cons rfl (weak_cons rfl weak_nil))) (List.Perm.refl _)
          · replace H := Gets.ct H c760
            refine Dv.mv rfl ⟨_, _, rfl, rfl, rfl⟩ rfl ?_
            refine Dv.mv rfl ⟨_, _, rfl, rfl, rfl⟩ rfl ?_
            obtain ⟨g761, H⟩ := Gets.grd H
            refine Dv.ixs rfl ⟨_, _, rfl, rfl, rfl⟩ rfl rfl Tryz.underlying9 g761.1 g761.2 ?_
            refine Dv.bin rfl ⟨_, _, rfl, rfl, rfl⟩ rfl rfl (fun _ => run_ne) ?_
            refine Dv.pickT rfl trivial rfl rfl ?_
            refine .fin ?_
            refine WP.cond rfl (fun c762 => ?_) (fun c762 => ?_)
            · replace H := Gets.ct H c762
              refine WP.seq ?_
              refine WP.reg [(0, false)] (by kernel_rfl) ?_
              refine as0 rfl rfl ?_
              refine .fin ?_
              replace H := Gets.outr H
              obtain rfl := Gets.out H
              exact WP.retL (fun _ _ h => h) rfl () trivial (.cons (res_tmp rfl) .nil) rfl (st_seln 0 [] 0 rfl rfl rfl)
            · replace H := Gets.cf H c762
              refine WP.skip ?_
              refine WP.reg [(0, false), (1, false), (2, false)] (by kernel_rfl) ?_
              refine mv0 rfl rfl ?_
              refine Dv.bin rfl trivial rfl rfl (fun _ => run_add) ?_
              refine as0 rfl rfl ?_
              refine .fin ?_
              exact Back.mk j766 (w64 (x751 + 1)) (Nat.lt_succ_self _) H (weak_cons rfl (weak_cons rfl (weak_cons rfl weak_nil))) (List.Perm.refl _)
    · replace H := Gets.cf H c752
      refine WP.exit ?_
      replace H := Gets.out H
      exact Jn.mk (x751, decide (x751 < (a0.size : Int))) H (weak_cons rfl (weak_cons rfl (weak_cons rfl (weak_cons rfl weak_nil)))) (List.Perm.refl _)
theorem concourseref01_Server.c {k : Nat} {a0 : ByteArray} {r : Bool} (h : concourseref01_Server.f k a0 = some r) : Pt Tryz.prog 93 [eq (.string a0)] (eq (.bool r)) := by
  unfold concourseref01_Server.f at h
  refine (Tr.body Tryz.func93 (c := _) rfl Tryz.ntmps93 (Nat.le_of_ble_eq_true rfl) fun R0 F => ?_).pt
  replace h := Gets.of h
  have H := h
  clear h
  refine WP.seq ?_
  refine WP.reg [(0, false)] (by kernel_rfl) ?_
  refine as0 rfl rfl ?_
  refine .fin ?_
  refine WP.seqr H id (fun p768 : Int × Bool => [(0, eq (.string a0)), (2, eq (.bool false)), (3, eq (.int .i64 p768.1)), (9, eq (.bool p768.2))]) (fun p768 : Int × Bool => [] ++ F) (fun p768 H => ?_) (fun H => ?_)
  · refine WP.seq ?_
    refine WP.reg [(0, false), (1, false), (2, false), (3, false), (4, false), (5, false), (6, false), (7, false), (8, false)] (by kernel_rfl) ?_
    refine mv0 rfl rfl ?_
    refine Dv.lens rfl trivial rfl Tryz.underlying9 ?_
    refine Dv.bin rfl trivial rfl rfl (fun _ => run_gt) ?_
    refine mv0 rfl rfl ?_
    cases c769 : decide (0 < (a0.size : Int))
    · replace H := Gets.cf H c769
      refine sk rfl rfl rfl rfl rfl ?_
      refine sk rfl rfl rfl rfl rfl ?_
      refine sk rfl rfl rfl rfl rfl ?_
      refine Dv.pickF rfl trivial rfl rfl ?_
      refine as0 rfl rfl ?_
      refine .fin ?_
      obtain rfl := Gets.out H
      exact WP.retL (fun _ _ h => h) rfl () trivial (.cons (res_tmp rfl) .nil) rfl (st_seln 0 [] 0 rfl rfl rfl)
    · replace H := Gets.ct H c769
      refine Dv.mv rfl ⟨_, _, rfl, rfl, rfl⟩ rfl ?_
      refine Dv.lens rfl ⟨_, _, rfl, rfl, rfl⟩ rfl Tryz.underlying9 ?_
      refine Dv.bin rfl ⟨_, _, rfl, rfl, rfl⟩ rfl rfl (fun _ => run_lt) ?_
      refine Dv.pickT rfl trivial rfl rfl ?_
      refine as0 rfl rfl ?_
      refine .fin ?_
      obtain rfl := Gets.out H
      exact WP.retL (fun _ _ h => h) rfl () trivial (.cons (res_tmp rfl) .nil) rfl (st_seln 0 [] 0 rfl rfl rfl)
  · refine WP.seq ?_
    refine WP.reg [(0, false)] (by kernel_rfl) ?_
    refine as0 rfl rfl ?_
    refine .fin ?_
    refine WP.block ?_
    refine WP.gh (l' := fun _ => [] ++ F) (gh_of (st_selgn 0 [] 0 rfl rfl rfl)) (fun _ _ => ?_)
    refine WP.loopg (fun j_ (p793 : Int) => concourseref01_Server.l0 k a0 j_ p793) 0 H (fun p793 => [(0, eq (.string a0)), (2, eq (.bool false)), (3, eq (.int .i64 p793))]) (fun p793 => [] ++ F) (weak_cons rfl (weak_cons rfl (weak_cons rfl weak_nil))) (List.Perm.refl _) ?_
    rintro j_ x770 H
    rcases j_ with _ | j792
    · exact (Gets.no H).elim
    replace H : Gets (concourseref01_Server.l0 k a0 (j792 + 1) x770) _ := H
    rw [concourseref01_Server.l0] at H
    refine WP.seq ?_
    refine WP.seq ?_
    refine WP.reg [(0, false), (1, false), (2, false), (3, false)] (by kernel_rfl) ?_
    refine mv0 rfl rfl ?_
    refine mv0 rfl rfl ?_
    refine Dv.lens rfl trivial rfl Tryz.underlying9 ?_
    refine Dv.bin rfl trivial rfl rfl (fun _ => run_lt) ?_
    refine .fin ?_
    refine WP.cond rfl (fun c771 => ?_) (fun c771 => ?_)
    · replace H := Gets.ct H c771
      refine WP.skip ?_
      refine WP.seq ?_
      refine WP.block ?_
      refine WP.seq ?_
      refine WP.reg [(0, false), (1, false), (2, false), (3, false), (4, false)] (by kernel_rfl) ?_
      refine mv0 rfl rfl ?_
      refine mv0 rfl rfl ?_
      obtain ⟨g772, H⟩ := Gets.grd H
      refine Dv.ixs rfl trivial rfl rfl Tryz.underlying9 g772.1 g772.2 ?_
      obtain ⟨t773, h774, H⟩ := Gets.call H
      refine Dv.call rfl trivial cal94 rfl (concourseref01_low.c h774) ?_
      refine as0 rfl rfl ?_
      refine .fin ?_
      refine WP.seq ?_
      refine WP.reg [(0, false), (1, false), (2, false), (3, false), (4, false), (5, false), (6, false), (7, false), (8, false), (9, false), (10, false), (11, false), (12, false), (13, false), (14, false), (15, false), (16, false), (17, false), (18, false), (19, false), (20, false), (21, false)] (by kernel_rfl) ?_
      refine mv0 rfl rfl ?_
      refine Dv.bin rfl trivial rfl rfl (fun _ => run_gt) ?_
      refine mv0 rfl rfl ?_
      cases c775 : decide (0 < x770)
      · replace H := Gets.cf H c775
        refine sk rfl rfl rfl rfl rfl ?_
        refine sk rfl rfl rfl rfl rfl ?_
        refine sk rfl rfl rfl rfl rfl ?_
        refine sk rfl rfl rfl rfl rfl ?_
        refine sk rfl rfl rfl rfl rfl ?_
        refine Dv.pickF rfl trivial rfl rfl ?_
        refine mv0 rfl rfl ?_
        refine sk rfl rfl rfl rfl rfl ?_
        refine sk rfl rfl rfl rfl rfl ?_
        refine sk rfl rfl rfl rfl rfl ?_
        refine sk rfl rfl rfl rfl rfl ?_
        refine sk rfl rfl rfl rfl rfl ?_
        refine Dv.skip rfl ⟨_, _, rfl, rfl, .inr rfl⟩ ?_
        refine Dv.skip rfl ⟨_, _, rfl, rfl, .inr rfl⟩ ?_
        refine Dv.skip rfl ⟨_, _, rfl, rfl, .inr rfl⟩ ?_
        refine Dv.skip rfl ⟨_, _, rfl, rfl, .inr rfl⟩ ?_
        refine sk rfl rfl rfl rfl rfl ?_
        refine Dv.pickF rfl trivial rfl rfl ?_
        refine as0 rfl rfl ?_
        refine .fin ?_
        refine WP.seq ?_
        refine WP.reg [(0, false), (1, false), (2, false), (3, false), (4, false), (5, false)] (by kernel_rfl) ?_
        refine mv0 rfl rfl ?_
        refine Dv.un rfl trivial rfl (fun _ => run_not _) ?_
        refine mv0 rfl rfl ?_
        cases c789 : !t773
        · replace H := Gets.cf H c789
          refine sk rfl rfl rfl rfl rfl ?_
          refine sk rfl rfl rfl rfl rfl ?_
          refine Dv.pickF rfl trivial rfl rfl ?_
          refine .fin ?_
          refine WP.cond rfl nofun (fun _ => ?_)
          refine WP.skip ?_
          refine WP.reg [(0, false), (1, false), (2, false)] (by kernel_rfl) ?_
          refine mv0 rfl rfl ?_
          refine Dv.bin rfl trivial rfl rfl (fun _ => run_add) ?_
          refine as0 rfl rfl ?_
          refine .fin ?_
          exact Back.mk j792 (w64 (x770 + 1)) (Nat.lt_succ_self _) H (weak_cons rfl (weak_cons rfl (weak_cons rfl weak_nil))) (List.Perm.refl _)
        · replace H := Gets.ct H c789
          refine Dv.mv rfl ⟨_, _, rfl, rfl, rfl⟩ rfl ?_
          refine Dv.un rfl ⟨_, _, rfl, rfl, rfl⟩ rfl (fun _ => run_not _) ?_
          refine Dv.pickT rfl trivial rfl rfl ?_
          refine .fin ?_
          refine WP.cond rfl (fun _ => ?_) nofun
          refine WP.seq ?_
          refine WP.reg [(0, false)] (by kernel_rfl) ?_
          refine as0 rfl rfl ?_
          refine .fin ?_
          replace H := Gets.outr H
          obtain rfl := Gets.out H
          exact WP.retL (fun _ _ h => h) rfl () trivial (.cons (res_tmp rfl) .nil) rfl (st_seln 0 [] 0 rfl rfl rfl)
      · replace H := Gets.ct H c775
        refine Dv.mv rfl ⟨_, _, rfl, rfl, rfl⟩ rfl ?_
        refine Dv.mv rfl ⟨_, _, rfl, rfl, rfl⟩ rfl ?_
        refine Dv.lens rfl ⟨_, _, rfl, rfl, rfl⟩ rfl Tryz.underlying9 ?_
        refine Dv.bin rfl ⟨_, _, rfl, rfl, rfl⟩ rfl rfl (fun _ => run_sub) ?_
        refine Dv.bin rfl ⟨_, _, rfl, rfl, rfl⟩ rfl rfl (fun _ => run_lt) ?_
        refine Dv.pickT rfl trivial rfl rfl ?_
        refine mv0 rfl rfl ?_
        cases c776 : decide (x770 < (w64 ((a0.size : Int) - 1)))
        · replace H := Gets.cf H c776
          refine sk rfl rfl rfl rfl rfl ?_
          refine sk rfl rfl rfl rfl rfl ?_
          refine sk rfl rfl rfl rfl rfl ?_
          refine sk rfl rfl rfl rfl rfl ?_
          refine sk rfl rfl rfl rfl rfl ?_
          refine Dv.skip rfl ⟨_, _, rfl, rfl, .inr rfl⟩ ?_
          refine Dv.skip rfl ⟨_, _, rfl, rfl, .inr rfl⟩ ?_
          refine Dv.skip rfl ⟨_, _, rfl, rfl, .inr rfl⟩ ?_
          refine Dv.skip rfl ⟨_, _, rfl, rfl, .inr rfl⟩ ?_
          refine sk rfl rfl rfl rfl rfl ?_
          refine Dv.pickF rfl trivial rfl rfl ?_
          refine as0 rfl rfl ?_
          refine .fin ?_
          refine WP.seq ?_
          refine WP.reg [(0, false), (1, false), (2, false), (3, false), (4, false), (5, false)] (by kernel_rfl) ?_
          refine mv0 rfl rfl ?_
          refine Dv.un rfl trivial rfl (fun _ => run_not _) ?_
          refine mv0 rfl rfl ?_
          cases c786 : !t773
          · replace H := Gets.cf H c786
            refine sk rfl rfl rfl rfl rfl ?_
            refine sk rfl rfl rfl rfl rfl ?_
            refine Dv.pickF rfl trivial rfl rfl ?_
            refine .fin ?_
            refine WP.cond rfl nofun (fun _ => ?_)
            refine WP.skip ?_
            refine WP.reg [(0, false), (1, false), (2, false)] (by kernel_rfl) ?_
            refine mv0 rfl rfl ?_
            refine Dv.bin rfl trivial rfl rfl (fun _ => run_add) ?_
            refine as0 rfl rfl ?_
            refine .fin ?_
            exact Back.mk j792 (w64 (x770 + 1)) (Nat.lt_succ_self _) H (weak_cons rfl (weak_cons rfl (weak_cons rfl weak_nil))) (List.Perm.refl _)
          · replace H := Gets.ct H c786
            refine Dv.mv rfl ⟨_, _, rfl, rfl, rfl⟩ rfl ?_
            refine Dv.un rfl ⟨_, _, rfl, rfl, rfl⟩ rfl (fun _ => run_not _) ?_
            refine Dv.pickT rfl trivial rfl rfl ?_
            refine .fin ?_
            refine WP.cond rfl (fun _ => ?_) nofun
            refine WP.seq ?_
            refine WP.reg [(0, false)] (by kernel_rfl) ?_
            refine as0 rfl rfl ?_
            refine .fin ?_
            replace H := Gets.outr H
            obtain rfl := Gets.out H
            exact WP.retL (fun _ _ h => h) rfl () trivial (.cons (res_tmp rfl) .nil) rfl (st_seln 0 [] 0 rfl rfl rfl)
        · replace H := Gets.ct H c776
          refine Dv.mv rfl ⟨_, _, rfl, rfl, rfl⟩ rfl ?_
          refine Dv.mv rfl ⟨_, _, rfl, rfl, rfl⟩ rfl ?_
          obtain ⟨g777, H⟩ := Gets.grd H
          refine Dv.ixs rfl ⟨_, _, rfl, rfl, rfl⟩ rfl rfl Tryz.underlying9 g777.1 g777.2 ?_
          refine Dv.bin rfl ⟨_, _, rfl, rfl, rfl⟩ rfl rfl (fun _ => run_eq) ?_
          refine Dv.mv rfl ⟨_, _, rfl, rfl, rfl⟩ rfl ?_
          cases c778 : ((bt a0 x770) == 46)
          · replace H := Gets.cf H c778
            refine Dv.mv rfl ⟨_, _, rfl, rfl, rfl⟩ rfl ?_
            refine Dv.mv rfl ⟨_, _, rfl, rfl, rfl⟩ rfl ?_
            obtain ⟨g782, H⟩ := Gets.grd H
            refine Dv.ixs rfl ⟨_, _, rfl, rfl, rfl⟩ rfl rfl Tryz.underlying9 g782.1 g782.2 ?_
            refine Dv.bin rfl ⟨_, _, rfl, rfl, rfl⟩ rfl rfl (fun _ => run_eq) ?_
            refine Dv.pickF rfl ⟨_, _, rfl, rfl, rfl⟩ rfl rfl ?_
            refine Dv.pickT rfl trivial rfl rfl ?_
            refine as0 rfl rfl ?_
            refine .fin ?_
            refine WP.seq ?_
            refine WP.reg [(0, false), (1, false), (2, false), (3, false), (4, false), (5, false)] (by kernel_rfl) ?_
            refine mv0 rfl rfl ?_
            refine Dv.un rfl trivial rfl (fun _ => run_not _) ?_
            refine mv0 rfl rfl ?_
            cases c783 : !t773
            · replace H := Gets.cf H c783
              refine sk rfl rfl rfl rfl rfl ?_
              refine sk rfl rfl rfl rfl rfl ?_
              refine Dv.pickF rfl trivial rfl rfl ?_
              refine .fin ?_
              refine WP.cond rfl nofun (fun _ => ?_)
              refine WP.skip ?_
              refine WP.reg [(0, false), (1, false), (2, false)] (by kernel_rfl) ?_
              refine mv0 rfl rfl ?_
              refine Dv.bin rfl trivial rfl rfl (fun _ => run_add) ?_
              refine as0 rfl rfl ?_
              refine .fin ?_
              exact Back.mk j792 (w64 (x770 + 1)) (Nat.lt_succ_self _) H (weak_cons rfl (weak_cons rfl (weak_cons rfl weak_nil))) (List.Perm.refl _)
            · replace H := Gets.ct H c783
              refine Dv.mv rfl ⟨_, _, rfl, rfl, rfl⟩ rfl ?_
              refine Dv.un rfl ⟨_, _, rfl, rfl, rfl⟩ rfl (fun _ => run_not _) ?_
              refine Dv.pickT rfl trivial rfl rfl ?_
              refine .fin ?_
              refine WP.cond rfl (fun c784 => ?_) (fun c784 => ?_)
              · replace H := Gets.ct H c784
                refine WP.seq ?_
                refine WP.reg [(0, false)] (by kernel_rfl) ?_
                refine as0 rfl rfl ?_
                refine .fin ?_
                replace H := Gets.outr H
                obtain rfl := Gets.out H
                exact WP.retL (fun _ _ h => h) rfl () trivial (.cons (res_tmp rfl) .nil) rfl (st_seln 0 [] 0 rfl rfl rfl)
              · replace H := Gets.cf H c784
                refine WP.skip ?_
                refine WP.reg [(0, false), (1, false), (2, false)] (by kernel_rfl) ?_
                refine mv0 rfl rfl ?_
                refine Dv.bin rfl trivial rfl rfl (fun _ => run_add) ?_
                refine as0 rfl rfl ?_
                refine .fin ?_
                exact Back.mk j792 (w64 (x770 + 1)) (Nat.lt_succ_self _) H (weak_cons rfl (weak_cons rfl (weak_cons rfl weak_nil))) (List.Perm.refl _)
          · replace H := Gets.ct H c778
            refine sk rfl rfl rfl rfl rfl ?_
            refine sk rfl rfl rfl rfl rfl ?_
            refine sk rfl rfl rfl rfl rfl ?_
            refine sk rfl rfl rfl rfl rfl ?_
            refine Dv.pickT rfl ⟨_, _, rfl, rfl, rfl⟩ rfl rfl ?_
            refine Dv.pickT rfl trivial rfl rfl ?_
            refine as0 rfl rfl ?_
            refine .fin ?_
            refine WP.seq ?_
            refine WP.reg [(0, false), (1, false), (2, false), (3, false), (4, false), (5, false)] (by kernel_rfl) ?_
            refine mv0 rfl rfl ?_
            refine Dv.un rfl trivial rfl (fun _ => run_not _) ?_
            refine mv0 rfl rfl ?_
            cases c779 : !t773
            · replace H := Gets.cf H c779
              refine sk rfl rfl rfl rfl rfl ?_
              refine sk rfl rfl rfl rfl rfl ?_
              refine Dv.pickF rfl trivial rfl rfl ?_
              refine .fin ?_
              refine WP.cond rfl nofun (fun _ => ?_)
              refine WP.skip ?_
              refine WP.reg [(0, false), (1, false), (2, false)] (by kernel_rfl) ?_
              refine mv0 rfl rfl ?_
              refine Dv.bin rfl trivial rfl rfl (fun _ => run_add) ?_
              refine as0 rfl rfl ?_
              refine .fin ?_
              exact Back.mk j792 (w64 (x770 + 1)) (Nat.lt_succ_self _) H (weak_cons rfl (weak_cons rfl (weak_cons rfl weak_nil))) (List.Perm.refl _)
            · replace H := Gets.ct H c779
              refine Dv.mv rfl ⟨_, _, rfl, rfl, rfl⟩ rfl ?_
              refine Dv.un rfl ⟨_, _, rfl, rfl, rfl⟩ rfl (fun _ => run_not _) ?_
              refine Dv.pickT rfl trivial rfl rfl ?_
              refine .fin ?_
              refine WP.cond rfl nofun (fun _ => ?_)
              refine WP.skip ?_
              refine WP.reg [(0, false), (1, false), (2, false)] (by kernel_rfl) ?_
              refine mv0 rfl rfl ?_
              refine Dv.bin rfl trivial rfl rfl (fun _ => run_add) ?_
              refine as0 rfl rfl ?_
              refine .fin ?_
              exact Back.mk j792 (w64 (x770 + 1)) (Nat.lt_succ_self _) H (weak_cons rfl (weak_cons rfl (weak_cons rfl weak_nil))) (List.Perm.refl _)
    · replace H := Gets.cf H c771
      refine WP.exit ?_
      replace H := Gets.out H
      exact Jn.mk (x770, decide (x770 < (a0.size : Int))) H (weak_cons rfl (weak_cons rfl (weak_cons rfl (weak_cons rfl weak_nil)))) (List.Perm.refl _)
theorem concourseref01_Named.c {k : Nat} {a0 : ByteArray} {a1 : Int} {r : Bool} (h : concourseref01_Named.f k a0 a1 = some r) : Pt Tryz.prog 63 [eq (.string a0), eq (.int .u8 a1)] (eq (.bool r)) := by
  unfold concourseref01_Named.f at h
  refine (Tr.body Tryz.func63 (c := _) rfl Tryz.ntmps63 (Nat.le_of_ble_eq_true rfl) fun R0 F => ?_).pt
  replace h := Gets.of h
  have H := h
  clear h
  refine WP.seq ?_
  refine WP.reg [(0, false)] (by kernel_rfl) ?_
  refine as0 rfl rfl ?_
  refine .fin ?_
  refine WP.seq ?_
  refine WP.reg [(0, false), (1, false), (2, false)] (by kernel_rfl) ?_
  refine mv0 rfl rfl ?_
  obtain ⟨t794, h795, H⟩ := Gets.call H
  refine Dv.call rfl trivial cal91 rfl (concourseref01_colon.c h795) ?_
  refine as0 rfl rfl ?_
  refine .fin ?_
  refine WP.seq ?_
  refine WP.seq ?_
  refine WP.reg [(0, false), (1, false), (2, false), (3, false), (4, false), (5, false), (6, false), (7, false)] (by kernel_rfl) ?_
  refine mv0 rfl rfl ?_
  refine Dv.bin rfl trivial rfl rfl (fun _ => run_lt) ?_
  refine mv0 rfl rfl ?_
  cases c796 : decide (t794 < 1)
  · replace H := Gets.cf H c796
    refine Dv.mv rfl ⟨_, _, rfl, rfl, rfl⟩ rfl ?_
    obtain ⟨g798, H⟩ := Gets.grd H
    refine Dv.ixs rfl ⟨_, _, rfl, rfl, rfl⟩ rfl rfl Tryz.underlying9 g798.1 g798.2 ?_
    refine Dv.mv rfl ⟨_, _, rfl, rfl, rfl⟩ rfl ?_
    refine Dv.bin rfl ⟨_, _, rfl, rfl, rfl⟩ rfl rfl (fun _ => run_ne) ?_
    refine Dv.pickF rfl trivial rfl rfl ?_
    refine .fin ?_
    refine WP.cond rfl (fun c799 => ?_) (fun c799 => ?_)
    · replace H := Gets.ct H c799
      refine WP.seq ?_
      refine WP.reg [(0, false)] (by kernel_rfl) ?_
      refine as0 rfl rfl ?_
      refine .fin ?_
      obtain rfl := Gets.out H
      exact WP.retL (fun _ _ h => h) rfl () trivial (.cons (res_tmp rfl) .nil) rfl (st_seln 0 [] 0 rfl rfl rfl)
    · replace H := Gets.cf H c799
      refine WP.skip ?_
      refine WP.seq ?_
      refine WP.reg [(0, false), (1, false), (2, false), (3, false), (4, false)] (by kernel_rfl) ?_
      refine mv0 rfl rfl ?_
      refine mv0 rfl rfl ?_
      obtain ⟨g800, H⟩ := Gets.grd H
      refine Dv.sss rfl trivial rfl Tryz.underlying9 (bdE_some rfl g800.1) (bdE_some rfl g800.2.1) g800.2.2.1 g800.2.2.2 ?_
      obtain ⟨t801, h802, H⟩ := Gets.call H
      refine Dv.call rfl trivial cal92 rfl (concourseref01_Part.c h802) ?_
      refine as0 rfl rfl ?_
      refine .fin ?_
      refine WP.seq ?_
      refine WP.reg [(0, false), (1, false), (2, false), (3, false), (4, false), (5, false)] (by kernel_rfl) ?_
      refine mv0 rfl rfl ?_
      refine mv0 rfl rfl ?_
      refine Dv.bin rfl trivial rfl rfl (fun _ => run_add) ?_
      obtain ⟨g803, H⟩ := Gets.grd H
      refine Dv.sss rfl trivial rfl Tryz.underlying9 (bdE_some rfl g803.1) bdE_none g803.2.1 g803.2.2 ?_
      obtain ⟨t804, h805, H⟩ := Gets.call H
      refine Dv.call rfl trivial cal93 rfl (concourseref01_Server.c h805) ?_
      refine as0 rfl rfl ?_
      refine .fin ?_
      refine WP.seq ?_
      refine WP.reg [(0, false), (1, false), (2, false), (3, false), (4, false)] (by kernel_rfl) ?_
      refine mv0 rfl rfl ?_
      refine mv0 rfl rfl ?_
      cases c806 : t801
      · replace H := Gets.cf H c806
        refine sk rfl rfl rfl rfl rfl ?_
        refine Dv.pickF rfl trivial rfl rfl ?_
        refine as0 rfl rfl ?_
        refine .fin ?_
        obtain rfl := Gets.out H
        exact WP.retL (fun _ _ h => h) rfl () trivial (.cons (res_tmp rfl) .nil) rfl (st_seln 0 [] 0 rfl rfl rfl)
      · replace H := Gets.ct H c806
        refine Dv.mv rfl ⟨_, _, rfl, rfl, rfl⟩ rfl ?_
        refine Dv.pickT rfl trivial rfl rfl ?_
        refine as0 rfl rfl ?_
        refine .fin ?_
        obtain rfl := Gets.out H
        exact WP.retL (fun _ _ h => h) rfl () trivial (.cons (res_tmp rfl) .nil) rfl (st_seln 0 [] 0 rfl rfl rfl)
  · replace H := Gets.ct H c796
    refine sk rfl rfl rfl rfl rfl ?_
    refine sk rfl rfl rfl rfl rfl ?_
    refine sk rfl rfl rfl rfl rfl ?_
    refine sk rfl rfl rfl rfl rfl ?_
    refine Dv.pickT rfl trivial rfl rfl ?_
    refine .fin ?_
    refine WP.cond rfl (fun _ => ?_) nofun
    refine WP.seq ?_
    refine WP.reg [(0, false)] (by kernel_rfl) ?_
    refine as0 rfl rfl ?_
    refine .fin ?_
    obtain rfl := Gets.out H
    exact WP.retL (fun _ _ h => h) rfl () trivial (.cons (res_tmp rfl) .nil) rfl (st_seln 0 [] 0 rfl rfl rfl)
theorem concourseref01_Event.c {k : Nat} {a0 : ByteArray} {r : Bool} (h : concourseref01_Event.f k a0 = some r) : Pt Tryz.prog 64 [eq (.string a0)] (eq (.bool r)) := by
  unfold concourseref01_Event.f at h
  refine (Tr.body Tryz.func64 (c := _) rfl Tryz.ntmps64 (Nat.le_of_ble_eq_true rfl) fun R0 F => ?_).pt
  replace h := Gets.of h
  have H := h
  clear h
  refine WP.seq ?_
  refine WP.reg [(0, false)] (by kernel_rfl) ?_
  refine as0 rfl rfl ?_
  refine .fin ?_
  refine WP.seq ?_
  refine WP.seq ?_
  refine WP.reg [(0, false), (1, false), (2, false), (3, false), (4, false), (5, false), (6, false), (7, false), (8, false), (9, false), (10, false), (11, false), (12, false)] (by kernel_rfl) ?_
  refine mv0 rfl rfl ?_
  refine Dv.lens rfl trivial rfl Tryz.underlying9 ?_
  refine Dv.bin rfl trivial rfl rfl (fun _ => run_lt) ?_
  refine mv0 rfl rfl ?_
  cases c807 : decide ((a0.size : Int) < 2)
  · replace H := Gets.cf H c807
    refine Dv.mv rfl ⟨_, _, rfl, rfl, rfl⟩ rfl ?_
    refine Dv.lens rfl ⟨_, _, rfl, rfl, rfl⟩ rfl Tryz.underlying9 ?_
    refine Dv.bin rfl ⟨_, _, rfl, rfl, rfl⟩ rfl rfl (fun _ => run_gt) ?_
    refine Dv.pickF rfl trivial rfl rfl ?_
    refine mv0 rfl rfl ?_
    cases c809 : decide (17 < (a0.size : Int))
    · replace H := Gets.cf H c809
      refine Dv.mv rfl ⟨_, _, rfl, rfl, rfl⟩ rfl ?_
      obtain ⟨g811, H⟩ := Gets.grd H
      refine Dv.ixs rfl ⟨_, _, rfl, rfl, rfl⟩ rfl rfl Tryz.underlying9 g811.1 g811.2 ?_
      refine Dv.bin rfl ⟨_, _, rfl, rfl, rfl⟩ rfl rfl (fun _ => run_ne) ?_
      refine Dv.pickF rfl trivial rfl rfl ?_
      refine .fin ?_
      refine WP.cond rfl (fun c812 => ?_) (fun c812 => ?_)
      · replace H := Gets.ct H c812
        refine WP.seq ?_
        refine WP.reg [(0, false)] (by kernel_rfl) ?_
        refine as0 rfl rfl ?_
        refine .fin ?_
        obtain rfl := Gets.out H
        exact WP.retL (fun _ _ h => h) rfl () trivial (.cons (res_tmp rfl) .nil) rfl (st_seln 0 [] 0 rfl rfl rfl)
      · replace H := Gets.cf H c812
        refine WP.skip ?_
        refine WP.seqr H id (fun p813 : Int × Bool => [(0, eq (.string a0)), (2, eq (.bool false)), (3, eq (.int .i64 p813.1)), (18, eq (.bool ((bt a0 0) != 36))), (22, eq (.bool p813.2))]) (fun p813 : Int × Bool => [] ++ F) (fun p813 H => ?_) (fun H => ?_)
        · refine WP.seq ?_
          refine WP.reg [(0, false)] (by kernel_rfl) ?_
          refine as0 rfl rfl ?_
          refine .fin ?_
          obtain rfl := Gets.out H
          exact WP.retL (fun _ _ h => h) rfl () trivial (.cons (res_tmp rfl) .nil) rfl (st_seln 0 [] 0 rfl rfl rfl)
        · refine WP.seq ?_
          refine WP.reg [(0, false)] (by kernel_rfl) ?_
          refine as0 rfl rfl ?_
          refine .fin ?_
          refine WP.block ?_
          refine WP.gh (l' := fun _ => [] ++ F) (gh_of (st_selgn 0 [] 0 rfl rfl rfl)) (fun _ _ => ?_)
          refine WP.loopg (fun j_ (p839 : Int) => concourseref01_Event.l0 k a0 j_ p839) 1 H (fun p839 => [(0, eq (.string a0)), (2, eq (.bool false)), (3, eq (.int .i64 p839)), (18, eq (.bool ((bt a0 0) != 36)))]) (fun p839 => [] ++ F) (weak_cons rfl (weak_cons rfl (weak_cons rfl (weak_cons rfl weak_nil)))) (List.Perm.refl _) ?_
          rintro j_ x814 H
          rcases j_ with _ | j838
          · exact (Gets.no H).elim
          replace H : Gets (concourseref01_Event.l0 k a0 (j838 + 1) x814) _ := H
          rw [concourseref01_Event.l0] at H
          refine WP.seq ?_
          refine WP.seq ?_
          refine WP.reg [(0, false), (1, false), (2, false), (3, false)] (by kernel_rfl) ?_
          refine mv0 rfl rfl ?_
          refine mv0 rfl rfl ?_
          refine Dv.lens rfl trivial rfl Tryz.underlying9 ?_
          refine Dv.bin rfl trivial rfl rfl (fun _ => run_lt) ?_
          refine .fin ?_
          refine WP.cond rfl (fun c815 => ?_) (fun c815 => ?_)
          · replace H := Gets.ct H c815
            refine WP.skip ?_
            refine WP.seq ?_
            refine WP.block ?_
            refine WP.seq ?_
            refine WP.reg [(0, false), (1, false), (2, false), (3, false), (4, false)] (by kernel_rfl) ?_
            refine mv0 rfl rfl ?_
            refine mv0 rfl rfl ?_
            obtain ⟨g816, H⟩ := Gets.grd H
            refine Dv.ixs rfl trivial rfl rfl Tryz.underlying9 g816.1 g816.2 ?_
            obtain ⟨t817, h818, H⟩ := Gets.call H
            refine Dv.call rfl trivial cal94 rfl (concourseref01_low.c h818) ?_
            refine as0 rfl rfl ?_
            refine .fin ?_
            refine WP.seq ?_
            refine WP.reg [(0, false), (1, false), (2, false), (3, false), (4, false), (5, false), (6, false), (7, false), (8, false), (9, false), (10, false)] (by kernel_rfl) ?_
            refine mv0 rfl rfl ?_
            refine mv0 rfl rfl ?_
            obtain ⟨g819, H⟩ := Gets.grd H
            refine Dv.ixs rfl trivial rfl rfl Tryz.underlying9 g819.1 g819.2 ?_
            refine Dv.bin rfl trivial rfl rfl (fun _ => run_ge) ?_
            refine mv0 rfl rfl ?_
            cases c820 : decide (65 ≤ (bt a0 x814))
            · replace H := Gets.cf H c820
              refine sk rfl rfl rfl rfl rfl ?_
              refine sk rfl rfl rfl rfl rfl ?_
              refine sk rfl rfl rfl rfl rfl ?_
              refine sk rfl rfl rfl rfl rfl ?_
              refine Dv.pickF rfl trivial rfl rfl ?_
              refine as0 rfl rfl ?_
              refine .fin ?_
              refine WP.seq ?_
              refine WP.reg [(0, false), (1, false), (2, false), (3, false), (4, false), (5, false), (6, false), (7, false), (8, false), (9, false), (10, false), (11, false), (12, false), (13, false), (14, false), (15, false), (16, false), (17, false)] (by kernel_rfl) ?_
              refine mv0 rfl rfl ?_
              refine Dv.un rfl trivial rfl (fun _ => run_not _) ?_
              refine mv0 rfl rfl ?_
              cases c831 : !t817
              · replace H := Gets.cf H c831
                refine sk rfl rfl rfl rfl rfl ?_
                refine sk rfl rfl rfl rfl rfl ?_
                refine Dv.pickF rfl trivial rfl rfl ?_
                refine mv0 rfl rfl ?_
                refine sk rfl rfl rfl rfl rfl ?_
                refine sk rfl rfl rfl rfl rfl ?_
                refine sk rfl rfl rfl rfl rfl ?_
                refine sk rfl rfl rfl rfl rfl ?_
                refine Dv.pickF rfl trivial rfl rfl ?_
                refine mv0 rfl rfl ?_
                refine sk rfl rfl rfl rfl rfl ?_
                refine sk rfl rfl rfl rfl rfl ?_
                refine sk rfl rfl rfl rfl rfl ?_
                refine sk rfl rfl rfl rfl rfl ?_
                refine Dv.pickF rfl trivial rfl rfl ?_
                refine .fin ?_
                refine WP.cond rfl nofun (fun _ => ?_)
                refine WP.skip ?_
                refine WP.reg [(0, false), (1, false), (2, false)] (by kernel_rfl) ?_
                refine mv0 rfl rfl ?_
                refine Dv.bin rfl trivial rfl rfl (fun _ => run_add) ?_
                refine as0 rfl rfl ?_
                refine .fin ?_
                exact Back.mk j838 (w64 (x814 + 1)) (Nat.lt_succ_self _) H (weak_cons rfl (weak_cons rfl (weak_cons rfl (weak_cons rfl weak_nil)))) (List.Perm.refl _)
              · replace H := Gets.ct H c831
                refine Dv.mv rfl ⟨_, _, rfl, rfl, rfl⟩ rfl ?_
                refine Dv.un rfl ⟨_, _, rfl, rfl, rfl⟩ rfl (fun _ => run_not _) ?_
                refine Dv.pickT rfl trivial rfl rfl ?_
                refine mv0 rfl rfl ?_
                refine Dv.mv rfl ⟨_, _, rfl, rfl, rfl⟩ rfl ?_
                refine Dv.mv rfl ⟨_, _, rfl, rfl, rfl⟩ rfl ?_
                obtain ⟨g832, H⟩ := Gets.grd H
                refine Dv.ixs rfl ⟨_, _, rfl, rfl, rfl⟩ rfl rfl Tryz.underlying9 g832.1 g832.2 ?_
                refine Dv.bin rfl ⟨_, _, rfl, rfl, rfl⟩ rfl rfl (fun _ => run_ne) ?_
                refine Dv.pickT rfl trivial rfl rfl ?_
                refine mv0 rfl rfl ?_
                cases c833 : ((bt a0 x814) != 45)
                · replace H := Gets.cf H c833
                  refine sk rfl rfl rfl rfl rfl ?_
                  refine sk rfl rfl rfl rfl rfl ?_
                  refine sk rfl rfl rfl rfl rfl ?_
                  refine sk rfl rfl rfl rfl rfl ?_
                  refine Dv.pickF rfl trivial rfl rfl ?_
                  refine .fin ?_
                  refine WP.cond rfl nofun (fun _ => ?_)
                  refine WP.skip ?_
                  refine WP.reg [(0, false), (1, false), (2, false)] (by kernel_rfl) ?_
                  refine mv0 rfl rfl ?_
                  refine Dv.bin rfl trivial rfl rfl (fun _ => run_add) ?_
                  refine as0 rfl rfl ?_
                  refine .fin ?_
                  exact Back.mk j838 (w64 (x814 + 1)) (Nat.lt_succ_self _) H (weak_cons rfl (weak_cons rfl (weak_cons rfl (weak_cons rfl weak_nil)))) (List.Perm.refl _)
                · replace H := Gets.ct H c833
                  refine Dv.mv rfl ⟨_, _, rfl, rfl, rfl⟩ rfl ?_
                  refine Dv.mv rfl ⟨_, _, rfl, rfl, rfl⟩ rfl ?_
                  obtain ⟨g834, H⟩ := Gets.grd H
                  refine Dv.ixs rfl ⟨_, _, rfl, rfl, rfl⟩ rfl rfl Tryz.underlying9 g834.1 g834.2 ?_
                  refine Dv.bin rfl ⟨_, _, rfl, rfl, rfl⟩ rfl rfl (fun _ => run_ne) ?_
                  refine Dv.pickT rfl trivial rfl rfl ?_
                  refine .fin ?_
                  refine WP.cond rfl (fun c835 => ?_) (fun c835 => ?_)
                  · replace H := Gets.ct H c835
                    refine WP.seq ?_
                    refine WP.reg [(0, false)] (by kernel_rfl) ?_
                    refine as0 rfl rfl ?_
                    refine .fin ?_
                    replace H := Gets.outr H
                    obtain rfl := Gets.out H
                    exact WP.retL (fun _ _ h => h) rfl () trivial (.cons (res_tmp rfl) .nil) rfl (st_seln 0 [] 0 rfl rfl rfl)
                  · replace H := Gets.cf H c835
                    refine WP.skip ?_
                    refine WP.reg [(0, false), (1, false), (2, false)] (by kernel_rfl) ?_
                    refine mv0 rfl rfl ?_
                    refine Dv.bin rfl trivial rfl rfl (fun _ => run_add) ?_
                    refine as0 rfl rfl ?_
                    refine .fin ?_
                    exact Back.mk j838 (w64 (x814 + 1)) (Nat.lt_succ_self _) H (weak_cons rfl (weak_cons rfl (weak_cons rfl (weak_cons rfl weak_nil)))) (List.Perm.refl _)
            · replace H := Gets.ct H c820
              refine Dv.mv rfl ⟨_, _, rfl, rfl, rfl⟩ rfl ?_
              refine Dv.mv rfl ⟨_, _, rfl, rfl, rfl⟩ rfl ?_
              obtain ⟨g821, H⟩ := Gets.grd H
              refine Dv.ixs rfl ⟨_, _, rfl, rfl, rfl⟩ rfl rfl Tryz.underlying9 g821.1 g821.2 ?_
              refine Dv.bin rfl ⟨_, _, rfl, rfl, rfl⟩ rfl rfl (fun _ => run_le) ?_
              refine Dv.pickT rfl trivial rfl rfl ?_
              refine as0 rfl rfl ?_
              refine .fin ?_
              refine WP.seq ?_
              refine WP.reg [(0, false), (1, false), (2, false), (3, false), (4, false), (5, false), (6, false), (7, false), (8, false), (9, false), (10, false), (11, false), (12, false), (13, false), (14, false), (15, false), (16, false), (17, false)] (by kernel_rfl) ?_
              refine mv0 rfl rfl ?_
              refine Dv.un rfl trivial rfl (fun _ => run_not _) ?_
              refine mv0 rfl rfl ?_
              cases c822 : !t817
              · replace H := Gets.cf H c822
                refine sk rfl rfl rfl rfl rfl ?_
                refine sk rfl rfl rfl rfl rfl ?_
                refine Dv.pickF rfl trivial rfl rfl ?_
                refine mv0 rfl rfl ?_
                refine sk rfl rfl rfl rfl rfl ?_
                refine sk rfl rfl rfl rfl rfl ?_
                refine sk rfl rfl rfl rfl rfl ?_
                refine sk rfl rfl rfl rfl rfl ?_
                refine Dv.pickF rfl trivial rfl rfl ?_
                refine mv0 rfl rfl ?_
                refine sk rfl rfl rfl rfl rfl ?_
                refine sk rfl rfl rfl rfl rfl ?_
                refine sk rfl rfl rfl rfl rfl ?_
                refine sk rfl rfl rfl rfl rfl ?_
                refine Dv.pickF rfl trivial rfl rfl ?_
                refine .fin ?_
                refine WP.cond rfl nofun (fun _ => ?_)
                refine WP.skip ?_
                refine WP.reg [(0, false), (1, false), (2, false)] (by kernel_rfl) ?_
                refine mv0 rfl rfl ?_
                refine Dv.bin rfl trivial rfl rfl (fun _ => run_add) ?_
                refine as0 rfl rfl ?_
                refine .fin ?_
                exact Back.mk j838 (w64 (x814 + 1)) (Nat.lt_succ_self _) H (weak_cons rfl (weak_cons rfl (weak_cons rfl (weak_cons rfl weak_nil)))) (List.Perm.refl _)
              · replace H := Gets.ct H c822
                refine Dv.mv rfl ⟨_, _, rfl, rfl, rfl⟩ rfl ?_
                refine Dv.un rfl ⟨_, _, rfl, rfl, rfl⟩ rfl (fun _ => run_not _) ?_
                refine Dv.pickT rfl trivial rfl rfl ?_
                refine mv0 rfl rfl ?_
                cases c823 : !(decide ((bt a0 x814) ≤ 90))
                · replace H := Gets.cf H c823
                  refine sk rfl rfl rfl rfl rfl ?_
                  refine sk rfl rfl rfl rfl rfl ?_
                  refine sk rfl rfl rfl rfl rfl ?_
                  refine sk rfl rfl rfl rfl rfl ?_
                  refine Dv.pickF rfl trivial rfl rfl ?_
                  refine mv0 rfl rfl ?_
                  refine sk rfl rfl rfl rfl rfl ?_
                  refine sk rfl rfl rfl rfl rfl ?_
                  refine sk rfl rfl rfl rfl rfl ?_
                  refine sk rfl rfl rfl rfl rfl ?_
                  refine Dv.pickF rfl trivial rfl rfl ?_
                  refine .fin ?_
                  refine WP.cond rfl nofun (fun _ => ?_)
                  refine WP.skip ?_
                  refine WP.reg [(0, false), (1, false), (2, false)] (by kernel_rfl) ?_
                  refine mv0 rfl rfl ?_
                  refine Dv.bin rfl trivial rfl rfl (fun _ => run_add) ?_
                  refine as0 rfl rfl ?_
                  refine .fin ?_
                  exact Back.mk j838 (w64 (x814 + 1)) (Nat.lt_succ_self _) H (weak_cons rfl (weak_cons rfl (weak_cons rfl (weak_cons rfl weak_nil)))) (List.Perm.refl _)
                · replace H := Gets.ct H c823
                  refine Dv.mv rfl ⟨_, _, rfl, rfl, rfl⟩ rfl ?_
                  refine Dv.mv rfl ⟨_, _, rfl, rfl, rfl⟩ rfl ?_
                  obtain ⟨g824, H⟩ := Gets.grd H
                  refine Dv.ixs rfl ⟨_, _, rfl, rfl, rfl⟩ rfl rfl Tryz.underlying9 g824.1 g824.2 ?_
                  refine Dv.bin rfl ⟨_, _, rfl, rfl, rfl⟩ rfl rfl (fun _ => run_ne) ?_
                  refine Dv.pickT rfl trivial rfl rfl ?_
                  refine mv0 rfl rfl ?_
                  cases c825 : ((bt a0 x814) != 45)
                  · replace H := Gets.cf H c825
                    refine sk rfl rfl rfl rfl rfl ?_
                    refine sk rfl rfl rfl rfl rfl ?_
                    refine sk rfl rfl rfl rfl rfl ?_
                    refine sk rfl rfl rfl rfl rfl ?_
                    refine Dv.pickF rfl trivial rfl rfl ?_
                    refine .fin ?_
                    refine WP.cond rfl nofun (fun _ => ?_)
                    refine WP.skip ?_
                    refine WP.reg [(0, false), (1, false), (2, false)] (by kernel_rfl) ?_
                    refine mv0 rfl rfl ?_
                    refine Dv.bin rfl trivial rfl rfl (fun _ => run_add) ?_
                    refine as0 rfl rfl ?_
                    refine .fin ?_
                    exact Back.mk j838 (w64 (x814 + 1)) (Nat.lt_succ_self _) H (weak_cons rfl (weak_cons rfl (weak_cons rfl (weak_cons rfl weak_nil)))) (List.Perm.refl _)
                  · replace H := Gets.ct H c825
                    refine Dv.mv rfl ⟨_, _, rfl, rfl, rfl⟩ rfl ?_
                    refine Dv.mv rfl ⟨_, _, rfl, rfl, rfl⟩ rfl ?_
                    obtain ⟨g826, H⟩ := Gets.grd H
                    refine Dv.ixs rfl ⟨_, _, rfl, rfl, rfl⟩ rfl rfl Tryz.underlying9 g826.1 g826.2 ?_
                    refine Dv.bin rfl ⟨_, _, rfl, rfl, rfl⟩ rfl rfl (fun _ => run_ne) ?_
                    refine Dv.pickT rfl trivial rfl rfl ?_
                    refine .fin ?_
                    refine WP.cond rfl (fun c827 => ?_) (fun c827 => ?_)
                    · replace H := Gets.ct H c827
                      refine WP.seq ?_
                      refine WP.reg [(0, false)] (by kernel_rfl) ?_
                      refine as0 rfl rfl ?_
                      refine .fin ?_
                      replace H := Gets.outr H
                      obtain rfl := Gets.out H
                      exact WP.retL (fun _ _ h => h) rfl () trivial (.cons (res_tmp rfl) .nil) rfl (st_seln 0 [] 0 rfl rfl rfl)
                    · replace H := Gets.cf H c827
                      refine WP.skip ?_
                      refine WP.reg [(0, false), (1, false), (2, false)] (by kernel_rfl) ?_
                      refine mv0 rfl rfl ?_
                      refine Dv.bin rfl trivial rfl rfl (fun _ => run_add) ?_
                      refine as0 rfl rfl ?_
                      refine .fin ?_
                      exact Back.mk j838 (w64 (x814 + 1)) (Nat.lt_succ_self _) H (weak_cons rfl (weak_cons rfl (weak_cons rfl (weak_cons rfl weak_nil)))) (List.Perm.refl _)
          · replace H := Gets.cf H c815
            refine WP.exit ?_
            replace H := Gets.out H
            exact Jn.mk (x814, decide (x814 < (a0.size : Int))) H (weak_cons rfl (weak_cons rfl (weak_cons rfl (weak_cons rfl (weak_cons rfl weak_nil))))) (List.Perm.refl _)
    · replace H := Gets.ct H c809
      refine sk rfl rfl rfl rfl rfl ?_
      refine sk rfl rfl rfl rfl rfl ?_
      refine sk rfl rfl rfl rfl rfl ?_
      refine Dv.pickT rfl trivial rfl rfl ?_
      refine .fin ?_
      refine WP.cond rfl (fun _ => ?_) nofun
      refine WP.seq ?_
      refine WP.reg [(0, false)] (by kernel_rfl) ?_
      refine as0 rfl rfl ?_
      refine .fin ?_
      obtain rfl := Gets.out H
      exact WP.retL (fun _ _ h => h) rfl () trivial (.cons (res_tmp rfl) .nil) rfl (st_seln 0 [] 0 rfl rfl rfl)
  · replace H := Gets.ct H c807
    refine sk rfl rfl rfl rfl rfl ?_
    refine sk rfl rfl rfl rfl rfl ?_
    refine sk rfl rfl rfl rfl rfl ?_
    refine Dv.pickT rfl trivial rfl rfl ?_
    refine mv0 rfl rfl ?_
    refine sk rfl rfl rfl rfl rfl ?_
    refine sk rfl rfl rfl rfl rfl ?_
    refine sk rfl rfl rfl rfl rfl ?_
    refine Dv.pickT rfl trivial rfl rfl ?_
    refine .fin ?_
    refine WP.cond rfl (fun _ => ?_) nofun
    refine WP.seq ?_
    refine WP.reg [(0, false)] (by kernel_rfl) ?_
    refine as0 rfl rfl ?_
    refine .fin ?_
    obtain rfl := Gets.out H
    exact WP.retL (fun _ _ h => h) rfl () trivial (.cons (res_tmp rfl) .nil) rfl (st_seln 0 [] 0 rfl rfl rfl)
theorem concourseref01_Thread.c {k : Nat} {a0 : ByteArray} {r : Bool} (h : concourseref01_Thread.f k a0 = some r) : Pt Tryz.prog 65 [eq (.string a0)] (eq (.bool r)) := by
  unfold concourseref01_Thread.f at h
  refine (Tr.body Tryz.func65 (c := _) rfl Tryz.ntmps65 (Nat.le_of_ble_eq_true rfl) fun R0 F => ?_).pt
  replace h := Gets.of h
  have H := h
  clear h
  refine WP.seq ?_
  refine WP.reg [(0, false)] (by kernel_rfl) ?_
  refine as0 rfl rfl ?_
  refine .fin ?_
  refine WP.seq ?_
  refine WP.reg [(0, false), (1, false), (2, false)] (by kernel_rfl) ?_
  refine mv0 rfl rfl ?_
  obtain ⟨t840, h841, H⟩ := Gets.call H
  refine Dv.call rfl trivial cal64 rfl (concourseref01_Event.c h841) ?_
  refine as0 rfl rfl ?_
  refine .fin ?_
  refine WP.seq ?_
  refine WP.reg [(0, false), (1, false), (2, false), (3, false), (4, false), (5, false), (6, false), (7, false), (8, false), (9, false)] (by kernel_rfl) ?_
  refine mv0 rfl rfl ?_
  refine Dv.bin rfl trivial rfl rfl (fun _ => run_seq) ?_
  refine mv0 rfl rfl ?_
  cases c842 : decide (a0 = (⟨#[]⟩ : ByteArray))
  · replace H := Gets.cf H c842
    refine Dv.mv rfl ⟨_, _, rfl, rfl, rfl⟩ rfl ?_
    refine Dv.bin rfl ⟨_, _, rfl, rfl, rfl⟩ rfl rfl (fun _ => run_seq) ?_
    refine Dv.pickF rfl trivial rfl rfl ?_
    refine mv0 rfl rfl ?_
    cases c843 : decide (a0 = (⟨#[109, 97, 105, 110]⟩ : ByteArray))
    · replace H := Gets.cf H c843
      refine Dv.mv rfl ⟨_, _, rfl, rfl, rfl⟩ rfl ?_
      refine Dv.pickF rfl trivial rfl rfl ?_
      refine as0 rfl rfl ?_
      refine .fin ?_
      obtain rfl := Gets.out H
      exact WP.retL (fun _ _ h => h) rfl () trivial (.cons (res_tmp rfl) .nil) rfl (st_seln 0 [] 0 rfl rfl rfl)
    · replace H := Gets.ct H c843
      refine sk rfl rfl rfl rfl rfl ?_
      refine Dv.pickT rfl trivial rfl rfl ?_
      refine as0 rfl rfl ?_
      refine .fin ?_
      obtain rfl := Gets.out H
      exact WP.retL (fun _ _ h => h) rfl () trivial (.cons (res_tmp rfl) .nil) rfl (st_seln 0 [] 0 rfl rfl rfl)
  · replace H := Gets.ct H c842
    refine sk rfl rfl rfl rfl rfl ?_
    refine sk rfl rfl rfl rfl rfl ?_
    refine Dv.pickT rfl trivial rfl rfl ?_
    refine mv0 rfl rfl ?_
    refine sk rfl rfl rfl rfl rfl ?_
    refine Dv.pickT rfl trivial rfl rfl ?_
    refine as0 rfl rfl ?_
    refine .fin ?_
    obtain rfl := Gets.out H
    exact WP.retL (fun _ _ h => h) rfl () trivial (.cons (res_tmp rfl) .nil) rfl (st_seln 0 [] 0 rfl rfl rfl)
theorem concourseref03_Local.c {k : Nat} {a0 : Edu} {r : Bool} (h : concourseref03_Local.f k a0 = some r) : Pt Tryz.prog 44 [agg (Edu.enc a0)] (eq (.bool r)) := by
  unfold concourseref03_Local.f at h
  refine (Tr.body Tryz.func44 (c := _) rfl Tryz.ntmps44 (Nat.le_of_ble_eq_true rfl) fun R0 F => ?_).pt
  replace h := Gets.of h
  have H := h
  clear h
  refine WP.seq ?_
  refine WP.reg [(0, true), (1, false)] (by kernel_rfl) ?_
  refine Dv.box rfl trivial rfl (cells_agg (Edu.K.one _)) nofun (fun b844 => ?_)
  refine as0 rfl rfl ?_
  refine .fin ?_
  refine WP.seq ?_
  refine WP.reg [(0, false), (1, false), (2, false), (3, false)] (by kernel_rfl) ?_
  refine Dv.fab rfl trivial rfl Tryz.underlying30 rfl Tryz.underlying9 c9 (by decide) ?_
  refine Dv.ldb rfl trivial rfl Tryz.underlying9 rfl (mem_at 0 rfl) rfl ?_
  obtain ⟨t845, h846, H⟩ := Gets.call H
  refine Dv.call rfl trivial cal63 rfl (concourseref01_Named.c h846) ?_
  refine as0 rfl rfl ?_
  refine .fin ?_
  refine WP.seq ?_
  refine WP.reg [(0, false), (1, false), (2, false), (3, false)] (by kernel_rfl) ?_
  refine Dv.fab rfl trivial rfl Tryz.underlying30 rfl Tryz.underlying9 c9 (by decide) ?_
  refine Dv.ldb rfl trivial rfl Tryz.underlying9 rfl (mem_at 0 rfl) rfl ?_
  obtain ⟨t847, h848, H⟩ := Gets.call H
  refine Dv.call rfl trivial cal63 rfl (concourseref01_Named.c h848) ?_
  refine as0 rfl rfl ?_
  refine .fin ?_
  refine WP.seq ?_
  refine WP.reg [(0, false), (1, false), (2, false), (3, false)] (by kernel_rfl) ?_
  refine Dv.fab rfl trivial rfl Tryz.underlying30 rfl Tryz.underlying9 c9 (by decide) ?_
  refine Dv.ldb rfl trivial rfl Tryz.underlying9 rfl (mem_at 0 rfl) rfl ?_
  obtain ⟨t849, h850, H⟩ := Gets.call H
  refine Dv.call rfl trivial cal64 rfl (concourseref01_Event.c h850) ?_
  refine as0 rfl rfl ?_
  refine .fin ?_
  refine WP.seq ?_
  refine WP.reg [(0, false), (1, false), (2, false), (3, false)] (by kernel_rfl) ?_
  refine Dv.fab rfl trivial rfl Tryz.underlying30 rfl Tryz.underlying9 c9 (by decide) ?_
  refine Dv.ldb rfl trivial rfl Tryz.underlying9 rfl (mem_at 0 rfl) rfl ?_
  obtain ⟨t851, h852, H⟩ := Gets.call H
  refine Dv.call rfl trivial cal65 rfl (concourseref01_Thread.c h852) ?_
  refine as0 rfl rfl ?_
  refine .fin ?_
  refine WP.seq ?_
  refine WP.seq ?_
  refine WP.reg [(0, false), (1, false), (2, false), (3, false), (4, false), (5, false), (6, false), (7, false), (8, false), (9, false), (10, false), (11, false), (12, false), (13, false), (14, false), (15, false), (16, false), (17, false), (18, false), (19, false), (20, false), (21, false)] (by kernel_rfl) ?_
  refine mv0 rfl rfl ?_
  refine Dv.un rfl trivial rfl (fun _ => run_not _) ?_
  refine mv0 rfl rfl ?_
  cases c853 : !t845
  · replace H := Gets.cf H c853
    refine Dv.fab rfl ⟨_, _, rfl, rfl, rfl⟩ rfl Tryz.underlying30 rfl Tryz.underlying3 c3 (by decide) ?_
    refine Dv.ldb rfl ⟨_, _, rfl, rfl, rfl⟩ rfl Tryz.underlying3 rfl (mem_at 0 rfl) rfl ?_
    refine Dv.bin rfl ⟨_, _, rfl, rfl, rfl⟩ rfl rfl (fun _ => run_lt) ?_
    refine Dv.pickF rfl trivial rfl rfl ?_
    refine mv0 rfl rfl ?_
    cases c855 : decide (a0.fTick < 0)
    · replace H := Gets.cf H c855
      refine Dv.fab rfl ⟨_, _, rfl, rfl, rfl⟩ rfl Tryz.underlying30 rfl Tryz.underlying3 c3 (by decide) ?_
      refine Dv.ldb rfl ⟨_, _, rfl, rfl, rfl⟩ rfl Tryz.underlying3 rfl (mem_at 0 rfl) rfl ?_
      refine Dv.bin rfl ⟨_, _, rfl, rfl, rfl⟩ rfl rfl (fun _ => run_gt) ?_
      refine Dv.pickF rfl trivial rfl rfl ?_
      refine mv0 rfl rfl ?_
      cases c857 : decide (1099511627776 < a0.fTick)
      · replace H := Gets.cf H c857
        refine Dv.fab rfl ⟨_, _, rfl, rfl, rfl⟩ rfl Tryz.underlying30 rfl Tryz.underlying3 c3 (by decide) ?_
        refine Dv.ldb rfl ⟨_, _, rfl, rfl, rfl⟩ rfl Tryz.underlying3 rfl (mem_at 0 rfl) rfl ?_
        refine Dv.bin rfl ⟨_, _, rfl, rfl, rfl⟩ rfl rfl (fun _ => run_lt) ?_
        refine Dv.pickF rfl trivial rfl rfl ?_
        refine mv0 rfl rfl ?_
        cases c859 : decide (a0.fStamp < 0)
        · replace H := Gets.cf H c859
          refine Dv.fab rfl ⟨_, _, rfl, rfl, rfl⟩ rfl Tryz.underlying30 rfl Tryz.underlying3 c3 (by decide) ?_
          refine Dv.ldb rfl ⟨_, _, rfl, rfl, rfl⟩ rfl Tryz.underlying3 rfl (mem_at 0 rfl) rfl ?_
          refine Dv.bin rfl ⟨_, _, rfl, rfl, rfl⟩ rfl rfl (fun _ => run_gt) ?_
          refine Dv.pickF rfl trivial rfl rfl ?_
          refine .fin ?_
          refine WP.cond rfl (fun c861 => ?_) (fun c861 => ?_)
          · replace H := Gets.ct H c861
            refine WP.seq ?_
            refine WP.reg [(0, false)] (by kernel_rfl) ?_
            refine as0 rfl rfl ?_
            refine .fin ?_
            obtain rfl := Gets.out H
            exact WP.retL (fun _ _ h => h) rfl () trivial (.cons (res_tmp rfl) .nil) rfl (st_seln 1 [0] 1 rfl rfl rfl)
          · replace H := Gets.cf H c861
            refine WP.skip ?_
            refine WP.seq ?_
            refine WP.seq ?_
            refine WP.reg [(0, false), (1, false)] (by kernel_rfl) ?_
            refine Dv.fab rfl trivial rfl Tryz.underlying30 rfl Tryz.underlying3 c3 (by decide) ?_
            refine Dv.ldb rfl trivial rfl Tryz.underlying3 rfl (mem_at 0 rfl) rfl ?_
            refine .fin ?_
            refine WP.block ?_
            refine WP.seq ?_
            refine WP.reg [(0, false), (1, false)] (by kernel_rfl) ?_
            refine Dv.bin rfl trivial rfl rfl (fun _ => run_eq) ?_
            refine as0 rfl rfl ?_
            refine .fin ?_
            refine WP.cond rfl (fun c862 => ?_) (fun c862 => ?_)
            · replace H := Gets.ct H c862
              refine WP.seq ?_
              refine WP.reg [(0, false), (1, false), (2, false), (3, false), (4, false), (5, false), (6, false), (7, false), (8, false), (9, false), (10, false), (11, false), (12, false), (13, false), (14, false), (15, false), (16, false), (17, false), (18, false), (19, false), (20, false), (21, false), (22, false)] (by kernel_rfl) ?_
              refine mv0 rfl rfl ?_
              refine mv0 rfl rfl ?_
              cases c863 : t847
              · replace H := Gets.cf H c863
                refine sk rfl rfl rfl rfl rfl ?_
                refine Dv.pickF rfl trivial rfl rfl ?_
                refine mv0 rfl rfl ?_
                refine sk rfl rfl rfl rfl rfl ?_
                refine Dv.pickF rfl trivial rfl rfl ?_
                refine mv0 rfl rfl ?_
                refine sk rfl rfl rfl rfl rfl ?_
                refine sk rfl rfl rfl rfl rfl ?_
                refine sk rfl rfl rfl rfl rfl ?_
                refine Dv.pickF rfl trivial rfl rfl ?_
                refine mv0 rfl rfl ?_
                refine sk rfl rfl rfl rfl rfl ?_
                refine sk rfl rfl rfl rfl rfl ?_
                refine sk rfl rfl rfl rfl rfl ?_
                refine Dv.pickF rfl trivial rfl rfl ?_
                refine mv0 rfl rfl ?_
                refine sk rfl rfl rfl rfl rfl ?_
                refine sk rfl rfl rfl rfl rfl ?_
                refine sk rfl rfl rfl rfl rfl ?_
                refine Dv.pickF rfl trivial rfl rfl ?_
                refine as0 rfl rfl ?_
                refine .fin ?_
                obtain rfl := Gets.out H
                exact WP.retL (fun _ _ h => h) rfl () trivial (.cons (res_tmp rfl) .nil) rfl (st_seln 1 [0] 1 rfl rfl rfl)
              · replace H := Gets.ct H c863
                refine Dv.mv rfl ⟨_, _, rfl, rfl, rfl⟩ rfl ?_
                refine Dv.pickT rfl trivial rfl rfl ?_
                refine mv0 rfl rfl ?_
                cases c864 : t849
                · replace H := Gets.cf H c864
                  refine sk rfl rfl rfl rfl rfl ?_
                  refine Dv.pickF rfl trivial rfl rfl ?_
                  refine mv0 rfl rfl ?_
                  refine sk rfl rfl rfl rfl rfl ?_
                  refine sk rfl rfl rfl rfl rfl ?_
                  refine sk rfl rfl rfl rfl rfl ?_
                  refine Dv.pickF rfl trivial rfl rfl ?_
                  refine mv0 rfl rfl ?_
                  refine sk rfl rfl rfl rfl rfl ?_
                  refine sk rfl rfl rfl rfl rfl ?_
                  refine sk rfl rfl rfl rfl rfl ?_
                  refine Dv.pickF rfl trivial rfl rfl ?_
                  refine mv0 rfl rfl ?_
                  refine sk rfl rfl rfl rfl rfl ?_
                  refine sk rfl rfl rfl rfl rfl ?_
                  refine sk rfl rfl rfl rfl rfl ?_
                  refine Dv.pickF rfl trivial rfl rfl ?_
                  refine as0 rfl rfl ?_
                  refine .fin ?_
                  obtain rfl := Gets.out H
                  exact WP.retL (fun _ _ h => h) rfl () trivial (.cons (res_tmp rfl) .nil) rfl (st_seln 1 [0] 1 rfl rfl rfl)
                · replace H := Gets.ct H c864
                  refine Dv.mv rfl ⟨_, _, rfl, rfl, rfl⟩ rfl ?_
                  refine Dv.pickT rfl trivial rfl rfl ?_
                  refine mv0 rfl rfl ?_
                  cases c865 : t851
                  · replace H := Gets.cf H c865
                    refine sk rfl rfl rfl rfl rfl ?_
                    refine sk rfl rfl rfl rfl rfl ?_
                    refine sk rfl rfl rfl rfl rfl ?_
                    refine Dv.pickF rfl trivial rfl rfl ?_
                    refine mv0 rfl rfl ?_
                    refine sk rfl rfl rfl rfl rfl ?_
                    refine sk rfl rfl rfl rfl rfl ?_
                    refine sk rfl rfl rfl rfl rfl ?_
                    refine Dv.pickF rfl trivial rfl rfl ?_
                    refine mv0 rfl rfl ?_
                    refine sk rfl rfl rfl rfl rfl ?_
                    refine sk rfl rfl rfl rfl rfl ?_
                    refine sk rfl rfl rfl rfl rfl ?_
                    refine Dv.pickF rfl trivial rfl rfl ?_
                    refine as0 rfl rfl ?_
                    refine .fin ?_
                    obtain rfl := Gets.out H
                    exact WP.retL (fun _ _ h => h) rfl () trivial (.cons (res_tmp rfl) .nil) rfl (st_seln 1 [0] 1 rfl rfl rfl)
                  · replace H := Gets.ct H c865
                    refine Dv.fab rfl ⟨_, _, rfl, rfl, rfl⟩ rfl Tryz.underlying30 rfl Tryz.underlying4 c4 (by decide) ?_
                    refine Dv.ldb rfl ⟨_, _, rfl, rfl, rfl⟩ rfl Tryz.underlying4 rfl (mem_at 0 rfl) rfl ?_
                    refine Dv.un rfl ⟨_, _, rfl, rfl, rfl⟩ rfl (fun _ => run_not _) ?_
                    refine Dv.pickT rfl trivial rfl rfl ?_
                    refine mv0 rfl rfl ?_
                    cases c866 : !a0.fOn
                    · replace H := Gets.cf H c866
                      refine sk rfl rfl rfl rfl rfl ?_
                      refine sk rfl rfl rfl rfl rfl ?_
                      refine sk rfl rfl rfl rfl rfl ?_
                      refine Dv.pickF rfl trivial rfl rfl ?_
                      refine mv0 rfl rfl ?_
                      refine sk rfl rfl rfl rfl rfl ?_
                      refine sk rfl rfl rfl rfl rfl ?_
                      refine sk rfl rfl rfl rfl rfl ?_
                      refine Dv.pickF rfl trivial rfl rfl ?_
                      refine as0 rfl rfl ?_
                      refine .fin ?_
                      obtain rfl := Gets.out H
                      exact WP.retL (fun _ _ h => h) rfl () trivial (.cons (res_tmp rfl) .nil) rfl (st_seln 1 [0] 1 rfl rfl rfl)
                    · replace H := Gets.ct H c866
                      refine Dv.fab rfl ⟨_, _, rfl, rfl, rfl⟩ rfl Tryz.underlying30 rfl Tryz.underlying3 c3 (by decide) ?_
                      refine Dv.ldb rfl ⟨_, _, rfl, rfl, rfl⟩ rfl Tryz.underlying3 rfl (mem_at 0 rfl) rfl ?_
                      refine Dv.bin rfl ⟨_, _, rfl, rfl, rfl⟩ rfl rfl (fun _ => run_eq) ?_
                      refine Dv.pickT rfl trivial rfl rfl ?_
                      refine mv0 rfl rfl ?_
                      cases c867 : (a0.fSpan == 0)
                      · replace H := Gets.cf H c867
                        refine sk rfl rfl rfl rfl rfl ?_
                        refine sk rfl rfl rfl rfl rfl ?_
                        refine sk rfl rfl rfl rfl rfl ?_
                        refine Dv.pickF rfl trivial rfl rfl ?_
                        refine as0 rfl rfl ?_
                        refine .fin ?_
                        obtain rfl := Gets.out H
                        exact WP.retL (fun _ _ h => h) rfl () trivial (.cons (res_tmp rfl) .nil) rfl (st_seln 1 [0] 1 rfl rfl rfl)
                      · replace H := Gets.ct H c867
                        refine Dv.fab rfl ⟨_, _, rfl, rfl, rfl⟩ rfl Tryz.underlying30 rfl Tryz.underlying3 c3 (by decide) ?_
                        refine Dv.ldb rfl ⟨_, _, rfl, rfl, rfl⟩ rfl Tryz.underlying3 rfl (mem_at 0 rfl) rfl ?_
                        refine Dv.bin rfl ⟨_, _, rfl, rfl, rfl⟩ rfl rfl (fun _ => run_eq) ?_
                        refine Dv.pickT rfl trivial rfl rfl ?_
                        refine as0 rfl rfl ?_
                        refine .fin ?_
                        obtain rfl := Gets.out H
                        exact WP.retL (fun _ _ h => h) rfl () trivial (.cons (res_tmp rfl) .nil) rfl (st_seln 1 [0] 1 rfl rfl rfl)
            · replace H := Gets.cf H c862
              refine WP.seq ?_
              refine WP.reg [(0, false), (1, false)] (by kernel_rfl) ?_
              refine Dv.bin rfl trivial rfl rfl (fun _ => run_eq) ?_
              refine as0 rfl rfl ?_
              refine .fin ?_
              refine WP.cond rfl (fun c868 => ?_) (fun c868 => ?_)
              · replace H := Gets.ct H c868
                refine WP.seq ?_
                refine WP.reg [(0, false), (1, false), (2, false), (3, false), (4, false), (5, false), (6, false), (7, false), (8, false), (9, false), (10, false), (11, false), (12, false), (13, false), (14, false), (15, false), (16, false), (17, false), (18, false), (19, false), (20, false), (21, false), (22, false)] (by kernel_rfl) ?_
                refine Dv.fab rfl trivial rfl Tryz.underlying30 rfl Tryz.underlying4 c4 (by decide) ?_
                refine Dv.ldb rfl trivial rfl Tryz.underlying4 rfl (mem_at 0 rfl) rfl ?_
                refine mv0 rfl rfl ?_
                cases c869 : a0.fOn
                · replace H := Gets.cf H c869
                  refine sk rfl rfl rfl rfl rfl ?_
                  refine sk rfl rfl rfl rfl rfl ?_
                  refine sk rfl rfl rfl rfl rfl ?_
                  refine Dv.pickF rfl trivial rfl rfl ?_
                  refine mv0 rfl rfl ?_
                  refine sk rfl rfl rfl rfl rfl ?_
                  refine sk rfl rfl rfl rfl rfl ?_
                  refine sk rfl rfl rfl rfl rfl ?_
                  refine Dv.pickF rfl trivial rfl rfl ?_
                  refine mv0 rfl rfl ?_
                  refine Dv.fab rfl ⟨_, _, rfl, rfl, rfl⟩ rfl Tryz.underlying30 rfl Tryz.underlying4 c4 (by decide) ?_
                  refine Dv.ldb rfl ⟨_, _, rfl, rfl, rfl⟩ rfl Tryz.underlying4 rfl (mem_at 0 rfl) rfl ?_
                  refine Dv.un rfl ⟨_, _, rfl, rfl, rfl⟩ rfl (fun _ => run_not _) ?_
                  refine Dv.mv rfl ⟨_, _, rfl, rfl, rfl⟩ rfl ?_
                  cases c890 : !a0.fOn
                  · replace H := Gets.cf H c890
                    refine sk rfl rfl rfl rfl rfl ?_
                    refine sk rfl rfl rfl rfl rfl ?_
                    refine sk rfl rfl rfl rfl rfl ?_
                    refine Dv.pickF rfl ⟨_, _, rfl, rfl, rfl⟩ rfl rfl ?_
                    refine Dv.pickF rfl trivial rfl rfl ?_
                    refine as0 rfl rfl ?_
                    refine .fin ?_
                    refine WP.seq ?_
                    refine WP.reg [(0, false), (1, false), (2, false), (3, false), (4, false), (5, false), (6, false), (7, false), (8, false), (9, false), (10, false), (11, false), (12, false), (13, false), (14, false), (15, false), (16, false), (17, false), (18, false), (19, false), (20, false), (21, false), (22, false), (23, false), (24, false)] (by kernel_rfl) ?_
                    refine mv0 rfl rfl ?_
                    refine mv0 rfl rfl ?_
                    cases c896 : t847
                    · replace H := Gets.cf H c896
                      refine sk rfl rfl rfl rfl rfl ?_
                      refine Dv.pickF rfl trivial rfl rfl ?_
                      refine mv0 rfl rfl ?_
                      refine sk rfl rfl rfl rfl rfl ?_
                      refine sk rfl rfl rfl rfl rfl ?_
                      refine sk rfl rfl rfl rfl rfl ?_
                      refine Dv.pickF rfl trivial rfl rfl ?_
                      refine mv0 rfl rfl ?_
                      refine sk rfl rfl rfl rfl rfl ?_
                      refine sk rfl rfl rfl rfl rfl ?_
                      refine sk rfl rfl rfl rfl rfl ?_
                      refine Dv.pickF rfl trivial rfl rfl ?_
                      refine mv0 rfl rfl ?_
                      refine sk rfl rfl rfl rfl rfl ?_
                      refine sk rfl rfl rfl rfl rfl ?_
                      refine sk rfl rfl rfl rfl rfl ?_
                      refine Dv.pickF rfl trivial rfl rfl ?_
                      refine mv0 rfl rfl ?_
                      refine sk rfl rfl rfl rfl rfl ?_
                      refine sk rfl rfl rfl rfl rfl ?_
                      refine sk rfl rfl rfl rfl rfl ?_
                      refine Dv.pickF rfl trivial rfl rfl ?_
                      refine as0 rfl rfl ?_
                      refine .fin ?_
                      obtain rfl := Gets.out H
                      exact WP.retL (fun _ _ h => h) rfl () trivial (.cons (res_tmp rfl) .nil) rfl (st_seln 1 [0] 1 rfl rfl rfl)
                    · replace H := Gets.ct H c896
                      refine Dv.mv rfl ⟨_, _, rfl, rfl, rfl⟩ rfl ?_
                      refine Dv.pickT rfl trivial rfl rfl ?_
                      refine mv0 rfl rfl ?_
                      refine sk rfl rfl rfl rfl rfl ?_
                      refine sk rfl rfl rfl rfl rfl ?_
                      refine sk rfl rfl rfl rfl rfl ?_
                      refine Dv.pickF rfl trivial rfl rfl ?_
                      refine mv0 rfl rfl ?_
                      refine sk rfl rfl rfl rfl rfl ?_
                      refine sk rfl rfl rfl rfl rfl ?_
                      refine sk rfl rfl rfl rfl rfl ?_
                      refine Dv.pickF rfl trivial rfl rfl ?_
                      refine mv0 rfl rfl ?_
                      refine sk rfl rfl rfl rfl rfl ?_
                      refine sk rfl rfl rfl rfl rfl ?_
                      refine sk rfl rfl rfl rfl rfl ?_
                      refine Dv.pickF rfl trivial rfl rfl ?_
                      refine mv0 rfl rfl ?_
                      refine sk rfl rfl rfl rfl rfl ?_
                      refine sk rfl rfl rfl rfl rfl ?_
                      refine sk rfl rfl rfl rfl rfl ?_
                      refine Dv.pickF rfl trivial rfl rfl ?_
                      refine as0 rfl rfl ?_
                      refine .fin ?_
                      obtain rfl := Gets.out H
                      exact WP.retL (fun _ _ h => h) rfl () trivial (.cons (res_tmp rfl) .nil) rfl (st_seln 1 [0] 1 rfl rfl rfl)
                  · replace H := Gets.ct H c890
                    refine Dv.fab rfl ⟨_, _, rfl, rfl, rfl⟩ rfl Tryz.underlying30 rfl Tryz.underlying3 c3 (by decide) ?_
                    refine Dv.ldb rfl ⟨_, _, rfl, rfl, rfl⟩ rfl Tryz.underlying3 rfl (mem_at 0 rfl) rfl ?_
                    refine Dv.bin rfl ⟨_, _, rfl, rfl, rfl⟩ rfl rfl (fun _ => run_eq) ?_
                    refine Dv.pickT rfl ⟨_, _, rfl, rfl, rfl⟩ rfl rfl ?_
                    refine Dv.pickF rfl trivial rfl rfl ?_
                    refine as0 rfl rfl ?_
                    refine .fin ?_
                    refine WP.seq ?_
                    refine WP.reg [(0, false), (1, false), (2, false), (3, false), (4, false), (5, false), (6, false), (7, false), (8, false), (9, false), (10, false), (11, false), (12, false), (13, false), (14, false), (15, false), (16, false), (17, false), (18, false), (19, false), (20, false), (21, false), (22, false), (23, false), (24, false)] (by kernel_rfl) ?_
                    refine mv0 rfl rfl ?_
                    refine mv0 rfl rfl ?_
                    cases c891 : t847
                    · replace H := Gets.cf H c891
                      refine sk rfl rfl rfl rfl rfl ?_
                      refine Dv.pickF rfl trivial rfl rfl ?_
                      refine mv0 rfl rfl ?_
                      refine sk rfl rfl rfl rfl rfl ?_
                      refine sk rfl rfl rfl rfl rfl ?_
                      refine sk rfl rfl rfl rfl rfl ?_
                      refine Dv.pickF rfl trivial rfl rfl ?_
                      refine mv0 rfl rfl ?_
                      refine sk rfl rfl rfl rfl rfl ?_
                      refine sk rfl rfl rfl rfl rfl ?_
                      refine sk rfl rfl rfl rfl rfl ?_
                      refine Dv.pickF rfl trivial rfl rfl ?_
                      refine mv0 rfl rfl ?_
                      refine sk rfl rfl rfl rfl rfl ?_
                      refine sk rfl rfl rfl rfl rfl ?_
                      refine sk rfl rfl rfl rfl rfl ?_
                      refine Dv.pickF rfl trivial rfl rfl ?_
                      refine mv0 rfl rfl ?_
                      refine sk rfl rfl rfl rfl rfl ?_
                      refine sk rfl rfl rfl rfl rfl ?_
                      refine sk rfl rfl rfl rfl rfl ?_
                      refine Dv.pickF rfl trivial rfl rfl ?_
                      refine as0 rfl rfl ?_
                      refine .fin ?_
                      obtain rfl := Gets.out H
                      exact WP.retL (fun _ _ h => h) rfl () trivial (.cons (res_tmp rfl) .nil) rfl (st_seln 1 [0] 1 rfl rfl rfl)
                    · replace H := Gets.ct H c891
                      refine Dv.mv rfl ⟨_, _, rfl, rfl, rfl⟩ rfl ?_
                      refine Dv.pickT rfl trivial rfl rfl ?_
                      refine mv0 rfl rfl ?_
                      cases c892 : (a0.fSpan == 0)
                      · replace H := Gets.cf H c892
                        refine sk rfl rfl rfl rfl rfl ?_
                        refine sk rfl rfl rfl rfl rfl ?_
                        refine sk rfl rfl rfl rfl rfl ?_
                        refine Dv.pickF rfl trivial rfl rfl ?_
                        refine mv0 rfl rfl ?_
                        refine sk rfl rfl rfl rfl rfl ?_
                        refine sk rfl rfl rfl rfl rfl ?_
                        refine sk rfl rfl rfl rfl rfl ?_
                        refine Dv.pickF rfl trivial rfl rfl ?_
                        refine mv0 rfl rfl ?_
                        refine sk rfl rfl rfl rfl rfl ?_
                        refine sk rfl rfl rfl rfl rfl ?_
                        refine sk rfl rfl rfl rfl rfl ?_
                        refine Dv.pickF rfl trivial rfl rfl ?_
                        refine mv0 rfl rfl ?_
                        refine sk rfl rfl rfl rfl rfl ?_
                        refine sk rfl rfl rfl rfl rfl ?_
                        refine sk rfl rfl rfl rfl rfl ?_
                        refine Dv.pickF rfl trivial rfl rfl ?_
                        refine as0 rfl rfl ?_
                        refine .fin ?_
                        obtain rfl := Gets.out H
                        exact WP.retL (fun _ _ h => h) rfl () trivial (.cons (res_tmp rfl) .nil) rfl (st_seln 1 [0] 1 rfl rfl rfl)
                      · replace H := Gets.ct H c892
                        refine Dv.fab rfl ⟨_, _, rfl, rfl, rfl⟩ rfl Tryz.underlying30 rfl Tryz.underlying9 c9 (by decide) ?_
                        refine Dv.ldb rfl ⟨_, _, rfl, rfl, rfl⟩ rfl Tryz.underlying9 rfl (mem_at 0 rfl) rfl ?_
                        refine Dv.bin rfl ⟨_, _, rfl, rfl, rfl⟩ rfl rfl (fun _ => run_seq) ?_
                        refine Dv.pickT rfl trivial rfl rfl ?_
                        refine mv0 rfl rfl ?_
                        cases c893 : decide (a0.fEvent = (⟨#[]⟩ : ByteArray))
                        · replace H := Gets.cf H c893
                          refine sk rfl rfl rfl rfl rfl ?_
                          refine sk rfl rfl rfl rfl rfl ?_
                          refine sk rfl rfl rfl rfl rfl ?_
                          refine Dv.pickF rfl trivial rfl rfl ?_
                          refine mv0 rfl rfl ?_
                          refine sk rfl rfl rfl rfl rfl ?_
                          refine sk rfl rfl rfl rfl rfl ?_
                          refine sk rfl rfl rfl rfl rfl ?_
                          refine Dv.pickF rfl trivial rfl rfl ?_
                          refine mv0 rfl rfl ?_
                          refine sk rfl rfl rfl rfl rfl ?_
                          refine sk rfl rfl rfl rfl rfl ?_
                          refine sk rfl rfl rfl rfl rfl ?_
                          refine Dv.pickF rfl trivial rfl rfl ?_
                          refine as0 rfl rfl ?_
                          refine .fin ?_
                          obtain rfl := Gets.out H
                          exact WP.retL (fun _ _ h => h) rfl () trivial (.cons (res_tmp rfl) .nil) rfl (st_seln 1 [0] 1 rfl rfl rfl)
                        · replace H := Gets.ct H c893
                          refine Dv.fab rfl ⟨_, _, rfl, rfl, rfl⟩ rfl Tryz.underlying30 rfl Tryz.underlying9 c9 (by decide) ?_
                          refine Dv.ldb rfl ⟨_, _, rfl, rfl, rfl⟩ rfl Tryz.underlying9 rfl (mem_at 0 rfl) rfl ?_
                          refine Dv.bin rfl ⟨_, _, rfl, rfl, rfl⟩ rfl rfl (fun _ => run_seq) ?_
                          refine Dv.pickT rfl trivial rfl rfl ?_
                          refine mv0 rfl rfl ?_
                          cases c894 : decide (a0.fThread = (⟨#[]⟩ : ByteArray))
                          · replace H := Gets.cf H c894
                            refine sk rfl rfl rfl rfl rfl ?_
                            refine sk rfl rfl rfl rfl rfl ?_
                            refine sk rfl rfl rfl rfl rfl ?_
                            refine Dv.pickF rfl trivial rfl rfl ?_
                            refine mv0 rfl rfl ?_
                            refine sk rfl rfl rfl rfl rfl ?_
                            refine sk rfl rfl rfl rfl rfl ?_
                            refine sk rfl rfl rfl rfl rfl ?_
                            refine Dv.pickF rfl trivial rfl rfl ?_
                            refine as0 rfl rfl ?_
                            refine .fin ?_
                            obtain rfl := Gets.out H
                            exact WP.retL (fun _ _ h => h) rfl () trivial (.cons (res_tmp rfl) .nil) rfl (st_seln 1 [0] 1 rfl rfl rfl)
                          · replace H := Gets.ct H c894
                            refine Dv.fab rfl ⟨_, _, rfl, rfl, rfl⟩ rfl Tryz.underlying30 rfl Tryz.underlying3 c3 (by decide) ?_
                            refine Dv.ldb rfl ⟨_, _, rfl, rfl, rfl⟩ rfl Tryz.underlying3 rfl (mem_at 0 rfl) rfl ?_
                            refine Dv.bin rfl ⟨_, _, rfl, rfl, rfl⟩ rfl rfl (fun _ => run_eq) ?_
                            refine Dv.pickT rfl trivial rfl rfl ?_
                            refine mv0 rfl rfl ?_
                            cases c895 : (a0.fState == 0)
                            · replace H := Gets.cf H c895
                              refine sk rfl rfl rfl rfl rfl ?_
                              refine sk rfl rfl rfl rfl rfl ?_
                              refine sk rfl rfl rfl rfl rfl ?_
                              refine Dv.pickF rfl trivial rfl rfl ?_
                              refine as0 rfl rfl ?_
                              refine .fin ?_
                              obtain rfl := Gets.out H
                              exact WP.retL (fun _ _ h => h) rfl () trivial (.cons (res_tmp rfl) .nil) rfl (st_seln 1 [0] 1 rfl rfl rfl)
                            · replace H := Gets.ct H c895
                              refine Dv.fab rfl ⟨_, _, rfl, rfl, rfl⟩ rfl Tryz.underlying30 rfl Tryz.underlying4 c4 (by decide) ?_
                              refine Dv.ldb rfl ⟨_, _, rfl, rfl, rfl⟩ rfl Tryz.underlying4 rfl (mem_at 0 rfl) rfl ?_
                              refine Dv.un rfl ⟨_, _, rfl, rfl, rfl⟩ rfl (fun _ => run_not _) ?_
                              refine Dv.pickT rfl trivial rfl rfl ?_
                              refine as0 rfl rfl ?_
                              refine .fin ?_
                              obtain rfl := Gets.out H
                              exact WP.retL (fun _ _ h => h) rfl () trivial (.cons (res_tmp rfl) .nil) rfl (st_seln 1 [0] 1 rfl rfl rfl)
                · replace H := Gets.ct H c869
                  refine Dv.fab rfl ⟨_, _, rfl, rfl, rfl⟩ rfl Tryz.underlying30 rfl Tryz.underlying3 c3 (by decide) ?_
                  refine Dv.ldb rfl ⟨_, _, rfl, rfl, rfl⟩ rfl Tryz.underlying3 rfl (mem_at 0 rfl) rfl ?_
                  refine Dv.bin rfl ⟨_, _, rfl, rfl, rfl⟩ rfl rfl (fun _ => run_ge) ?_
                  refine Dv.pickT rfl trivial rfl rfl ?_
                  refine mv0 rfl rfl ?_
                  cases c870 : decide (1 ≤ a0.fSpan)
                  · replace H := Gets.cf H c870
                    refine sk rfl rfl rfl rfl rfl ?_
                    refine sk rfl rfl rfl rfl rfl ?_
                    refine sk rfl rfl rfl rfl rfl ?_
                    refine Dv.pickF rfl trivial rfl rfl ?_
                    refine mv0 rfl rfl ?_
                    refine Dv.fab rfl ⟨_, _, rfl, rfl, rfl⟩ rfl Tryz.underlying30 rfl Tryz.underlying4 c4 (by decide) ?_
                    refine Dv.ldb rfl ⟨_, _, rfl, rfl, rfl⟩ rfl Tryz.underlying4 rfl (mem_at 0 rfl) rfl ?_
                    refine Dv.un rfl ⟨_, _, rfl, rfl, rfl⟩ rfl (fun _ => run_not _) ?_
                    refine Dv.mv rfl ⟨_, _, rfl, rfl, rfl⟩ rfl ?_
                    cases c883 : !a0.fOn
                    · replace H := Gets.cf H c883
                      refine sk rfl rfl rfl rfl rfl ?_
                      refine sk rfl rfl rfl rfl rfl ?_
                      refine sk rfl rfl rfl rfl rfl ?_
                      refine Dv.pickF rfl ⟨_, _, rfl, rfl, rfl⟩ rfl rfl ?_
                      refine Dv.pickF rfl trivial rfl rfl ?_
                      refine as0 rfl rfl ?_
                      refine .fin ?_
                      refine WP.seq ?_
                      refine WP.reg [(0, false), (1, false), (2, false), (3, false), (4, false), (5, false), (6, false), (7, false), (8, false), (9, false), (10, false), (11, false), (12, false), (13, false), (14, false), (15, false), (16, false), (17, false), (18, false), (19, false), (20, false), (21, false), (22, false), (23, false), (24, false)] (by kernel_rfl) ?_
                      refine mv0 rfl rfl ?_
                      refine mv0 rfl rfl ?_
                      cases c889 : t847
                      · replace H := Gets.cf H c889
                        refine sk rfl rfl rfl rfl rfl ?_
                        refine Dv.pickF rfl trivial rfl rfl ?_
                        refine mv0 rfl rfl ?_
                        refine sk rfl rfl rfl rfl rfl ?_
                        refine sk rfl rfl rfl rfl rfl ?_
                        refine sk rfl rfl rfl rfl rfl ?_
                        refine Dv.pickF rfl trivial rfl rfl ?_
                        refine mv0 rfl rfl ?_
                        refine sk rfl rfl rfl rfl rfl ?_
                        refine sk rfl rfl rfl rfl rfl ?_
                        refine sk rfl rfl rfl rfl rfl ?_
                        refine Dv.pickF rfl trivial rfl rfl ?_
                        refine mv0 rfl rfl ?_
                        refine sk rfl rfl rfl rfl rfl ?_
                        refine sk rfl rfl rfl rfl rfl ?_
                        refine sk rfl rfl rfl rfl rfl ?_
                        refine Dv.pickF rfl trivial rfl rfl ?_
                        refine mv0 rfl rfl ?_
                        refine sk rfl rfl rfl rfl rfl ?_
                        refine sk rfl rfl rfl rfl rfl ?_
                        refine sk rfl rfl rfl rfl rfl ?_
                        refine Dv.pickF rfl trivial rfl rfl ?_
                        refine as0 rfl rfl ?_
                        refine .fin ?_
                        obtain rfl := Gets.out H
                        exact WP.retL (fun _ _ h => h) rfl () trivial (.cons (res_tmp rfl) .nil) rfl (st_seln 1 [0] 1 rfl rfl rfl)
                      · replace H := Gets.ct H c889
                        refine Dv.mv rfl ⟨_, _, rfl, rfl, rfl⟩ rfl ?_
                        refine Dv.pickT rfl trivial rfl rfl ?_
                        refine mv0 rfl rfl ?_
                        refine sk rfl rfl rfl rfl rfl ?_
                        refine sk rfl rfl rfl rfl rfl ?_
                        refine sk rfl rfl rfl rfl rfl ?_
                        refine Dv.pickF rfl trivial rfl rfl ?_
                        refine mv0 rfl rfl ?_
                        refine sk rfl rfl rfl rfl rfl ?_
                        refine sk rfl rfl rfl rfl rfl ?_
                        refine sk rfl rfl rfl rfl rfl ?_
                        refine Dv.pickF rfl trivial rfl rfl ?_
                        refine mv0 rfl rfl ?_
                        refine sk rfl rfl rfl rfl rfl ?_
                        refine sk rfl rfl rfl rfl rfl ?_
                        refine sk rfl rfl rfl rfl rfl ?_
                        refine Dv.pickF rfl trivial rfl rfl ?_
                        refine mv0 rfl rfl ?_
                        refine sk rfl rfl rfl rfl rfl ?_
                        refine sk rfl rfl rfl rfl rfl ?_
                        refine sk rfl rfl rfl rfl rfl ?_
                        refine Dv.pickF rfl trivial rfl rfl ?_
                        refine as0 rfl rfl ?_
                        refine .fin ?_
                        obtain rfl := Gets.out H
                        exact WP.retL (fun _ _ h => h) rfl () trivial (.cons (res_tmp rfl) .nil) rfl (st_seln 1 [0] 1 rfl rfl rfl)
                    · replace H := Gets.ct H c883
                      refine Dv.fab rfl ⟨_, _, rfl, rfl, rfl⟩ rfl Tryz.underlying30 rfl Tryz.underlying3 c3 (by decide) ?_
                      refine Dv.ldb rfl ⟨_, _, rfl, rfl, rfl⟩ rfl Tryz.underlying3 rfl (mem_at 0 rfl) rfl ?_
                      refine Dv.bin rfl ⟨_, _, rfl, rfl, rfl⟩ rfl rfl (fun _ => run_eq) ?_
                      refine Dv.pickT rfl ⟨_, _, rfl, rfl, rfl⟩ rfl rfl ?_
                      refine Dv.pickF rfl trivial rfl rfl ?_
                      refine as0 rfl rfl ?_
                      refine .fin ?_
                      refine WP.seq ?_
                      refine WP.reg [(0, false), (1, false), (2, false), (3, false), (4, false), (5, false), (6, false), (7, false), (8, false), (9, false), (10, false), (11, false), (12, false), (13, false), (14, false), (15, false), (16, false), (17, false), (18, false), (19, false), (20, false), (21, false), (22, false), (23, false), (24, false)] (by kernel_rfl) ?_
                      refine mv0 rfl rfl ?_
                      refine mv0 rfl rfl ?_
                      cases c884 : t847
                      · replace H := Gets.cf H c884
                        refine sk rfl rfl rfl rfl rfl ?_
                        refine Dv.pickF rfl trivial rfl rfl ?_
                        refine mv0 rfl rfl ?_
                        refine sk rfl rfl rfl rfl rfl ?_
                        refine sk rfl rfl rfl rfl rfl ?_
                        refine sk rfl rfl rfl rfl rfl ?_
                        refine Dv.pickF rfl trivial rfl rfl ?_
                        refine mv0 rfl rfl ?_
                        refine sk rfl rfl rfl rfl rfl ?_
                        refine sk rfl rfl rfl rfl rfl ?_
                        refine sk rfl rfl rfl rfl rfl ?_
                        refine Dv.pickF rfl trivial rfl rfl ?_
                        refine mv0 rfl rfl ?_
                        refine sk rfl rfl rfl rfl rfl ?_
                        refine sk rfl rfl rfl rfl rfl ?_
                        refine sk rfl rfl rfl rfl rfl ?_
                        refine Dv.pickF rfl trivial rfl rfl ?_
                        refine mv0 rfl rfl ?_
                        refine sk rfl rfl rfl rfl rfl ?_
                        refine sk rfl rfl rfl rfl rfl ?_
                        refine sk rfl rfl rfl rfl rfl ?_
                        refine Dv.pickF rfl trivial rfl rfl ?_
                        refine as0 rfl rfl ?_
                        refine .fin ?_
                        obtain rfl := Gets.out H
                        exact WP.retL (fun _ _ h => h) rfl () trivial (.cons (res_tmp rfl) .nil) rfl (st_seln 1 [0] 1 rfl rfl rfl)
                      · replace H := Gets.ct H c884
                        refine Dv.mv rfl ⟨_, _, rfl, rfl, rfl⟩ rfl ?_
                        refine Dv.pickT rfl trivial rfl rfl ?_
                        refine mv0 rfl rfl ?_
                        cases c885 : (a0.fSpan == 0)
                        · replace H := Gets.cf H c885
                          refine sk rfl rfl rfl rfl rfl ?_
                          refine sk rfl rfl rfl rfl rfl ?_
                          refine sk rfl rfl rfl rfl rfl ?_
                          refine Dv.pickF rfl trivial rfl rfl ?_
                          refine mv0 rfl rfl ?_
                          refine sk rfl rfl rfl rfl rfl ?_
                          refine sk rfl rfl rfl rfl rfl ?_
                          refine sk rfl rfl rfl rfl rfl ?_
                          refine Dv.pickF rfl trivial rfl rfl ?_
                          refine mv0 rfl rfl ?_
                          refine sk rfl rfl rfl rfl rfl ?_
                          refine sk rfl rfl rfl rfl rfl ?_
                          refine sk rfl rfl rfl rfl rfl ?_
                          refine Dv.pickF rfl trivial rfl rfl ?_
                          refine mv0 rfl rfl ?_
                          refine sk rfl rfl rfl rfl rfl ?_
                          refine sk rfl rfl rfl rfl rfl ?_
                          refine sk rfl rfl rfl rfl rfl ?_
                          refine Dv.pickF rfl trivial rfl rfl ?_
                          refine as0 rfl rfl ?_
                          refine .fin ?_
                          obtain rfl := Gets.out H
                          exact WP.retL (fun _ _ h => h) rfl () trivial (.cons (res_tmp rfl) .nil) rfl (st_seln 1 [0] 1 rfl rfl rfl)
                        · replace H := Gets.ct H c885
                          refine Dv.fab rfl ⟨_, _, rfl, rfl, rfl⟩ rfl Tryz.underlying30 rfl Tryz.underlying9 c9 (by decide) ?_
                          refine Dv.ldb rfl ⟨_, _, rfl, rfl, rfl⟩ rfl Tryz.underlying9 rfl (mem_at 0 rfl) rfl ?_
                          refine Dv.bin rfl ⟨_, _, rfl, rfl, rfl⟩ rfl rfl (fun _ => run_seq) ?_
                          refine Dv.pickT rfl trivial rfl rfl ?_
                          refine mv0 rfl rfl ?_
                          cases c886 : decide (a0.fEvent = (⟨#[]⟩ : ByteArray))
                          · replace H := Gets.cf H c886
                            refine sk rfl rfl rfl rfl rfl ?_
                            refine sk rfl rfl rfl rfl rfl ?_
                            refine sk rfl rfl rfl rfl rfl ?_
                            refine Dv.pickF rfl trivial rfl rfl ?_
                            refine mv0 rfl rfl ?_
                            refine sk rfl rfl rfl rfl rfl ?_
                            refine sk rfl rfl rfl rfl rfl ?_
                            refine sk rfl rfl rfl rfl rfl ?_
                            refine Dv.pickF rfl trivial rfl rfl ?_
                            refine mv0 rfl rfl ?_
                            refine sk rfl rfl rfl rfl rfl ?_
                            refine sk rfl rfl rfl rfl rfl ?_
                            refine sk rfl rfl rfl rfl rfl ?_
                            refine Dv.pickF rfl trivial rfl rfl ?_
                            refine as0 rfl rfl ?_
                            refine .fin ?_
                            obtain rfl := Gets.out H
                            exact WP.retL (fun _ _ h => h) rfl () trivial (.cons (res_tmp rfl) .nil) rfl (st_seln 1 [0] 1 rfl rfl rfl)
                          · replace H := Gets.ct H c886
                            refine Dv.fab rfl ⟨_, _, rfl, rfl, rfl⟩ rfl Tryz.underlying30 rfl Tryz.underlying9 c9 (by decide) ?_
                            refine Dv.ldb rfl ⟨_, _, rfl, rfl, rfl⟩ rfl Tryz.underlying9 rfl (mem_at 0 rfl) rfl ?_
                            refine Dv.bin rfl ⟨_, _, rfl, rfl, rfl⟩ rfl rfl (fun _ => run_seq) ?_
                            refine Dv.pickT rfl trivial rfl rfl ?_
                            refine mv0 rfl rfl ?_
                            cases c887 : decide (a0.fThread = (⟨#[]⟩ : ByteArray))
                            · replace H := Gets.cf H c887
                              refine sk rfl rfl rfl rfl rfl ?_
                              refine sk rfl rfl rfl rfl rfl ?_
                              refine sk rfl rfl rfl rfl rfl ?_
                              refine Dv.pickF rfl trivial rfl rfl ?_
                              refine mv0 rfl rfl ?_
                              refine sk rfl rfl rfl rfl rfl ?_
                              refine sk rfl rfl rfl rfl rfl ?_
                              refine sk rfl rfl rfl rfl rfl ?_
                              refine Dv.pickF rfl trivial rfl rfl ?_
                              refine as0 rfl rfl ?_
                              refine .fin ?_
                              obtain rfl := Gets.out H
                              exact WP.retL (fun _ _ h => h) rfl () trivial (.cons (res_tmp rfl) .nil) rfl (st_seln 1 [0] 1 rfl rfl rfl)
                            · replace H := Gets.ct H c887
                              refine Dv.fab rfl ⟨_, _, rfl, rfl, rfl⟩ rfl Tryz.underlying30 rfl Tryz.underlying3 c3 (by decide) ?_
                              refine Dv.ldb rfl ⟨_, _, rfl, rfl, rfl⟩ rfl Tryz.underlying3 rfl (mem_at 0 rfl) rfl ?_
                              refine Dv.bin rfl ⟨_, _, rfl, rfl, rfl⟩ rfl rfl (fun _ => run_eq) ?_
                              refine Dv.pickT rfl trivial rfl rfl ?_
                              refine mv0 rfl rfl ?_
                              cases c888 : (a0.fState == 0)
                              · replace H := Gets.cf H c888
                                refine sk rfl rfl rfl rfl rfl ?_
                                refine sk rfl rfl rfl rfl rfl ?_
                                refine sk rfl rfl rfl rfl rfl ?_
                                refine Dv.pickF rfl trivial rfl rfl ?_
                                refine as0 rfl rfl ?_
                                refine .fin ?_
                                obtain rfl := Gets.out H
                                exact WP.retL (fun _ _ h => h) rfl () trivial (.cons (res_tmp rfl) .nil) rfl (st_seln 1 [0] 1 rfl rfl rfl)
                              · replace H := Gets.ct H c888
                                refine Dv.fab rfl ⟨_, _, rfl, rfl, rfl⟩ rfl Tryz.underlying30 rfl Tryz.underlying4 c4 (by decide) ?_
                                refine Dv.ldb rfl ⟨_, _, rfl, rfl, rfl⟩ rfl Tryz.underlying4 rfl (mem_at 0 rfl) rfl ?_
                                refine Dv.un rfl ⟨_, _, rfl, rfl, rfl⟩ rfl (fun _ => run_not _) ?_
                                refine Dv.pickT rfl trivial rfl rfl ?_
                                refine as0 rfl rfl ?_
                                refine .fin ?_
                                obtain rfl := Gets.out H
                                exact WP.retL (fun _ _ h => h) rfl () trivial (.cons (res_tmp rfl) .nil) rfl (st_seln 1 [0] 1 rfl rfl rfl)
                  · replace H := Gets.ct H c870
                    refine Dv.fab rfl ⟨_, _, rfl, rfl, rfl⟩ rfl Tryz.underlying30 rfl Tryz.underlying3 c3 (by decide) ?_
                    refine Dv.ldb rfl ⟨_, _, rfl, rfl, rfl⟩ rfl Tryz.underlying3 rfl (mem_at 0 rfl) rfl ?_
                    refine Dv.bin rfl ⟨_, _, rfl, rfl, rfl⟩ rfl rfl (fun _ => run_le) ?_
                    refine Dv.pickT rfl trivial rfl rfl ?_
                    refine mv0 rfl rfl ?_
                    cases c871 : decide (a0.fSpan ≤ 60)
                    · replace H := Gets.cf H c871
                      refine Dv.fab rfl ⟨_, _, rfl, rfl, rfl⟩ rfl Tryz.underlying30 rfl Tryz.underlying4 c4 (by decide) ?_
                      refine Dv.ldb rfl ⟨_, _, rfl, rfl, rfl⟩ rfl Tryz.underlying4 rfl (mem_at 0 rfl) rfl ?_
                      refine Dv.un rfl ⟨_, _, rfl, rfl, rfl⟩ rfl (fun _ => run_not _) ?_
                      refine Dv.mv rfl ⟨_, _, rfl, rfl, rfl⟩ rfl ?_
                      cases c876 : !a0.fOn
                      · replace H := Gets.cf H c876
                        refine sk rfl rfl rfl rfl rfl ?_
                        refine sk rfl rfl rfl rfl rfl ?_
                        refine sk rfl rfl rfl rfl rfl ?_
                        refine Dv.pickF rfl ⟨_, _, rfl, rfl, rfl⟩ rfl rfl ?_
                        refine Dv.pickF rfl trivial rfl rfl ?_
                        refine as0 rfl rfl ?_
                        refine .fin ?_
                        refine WP.seq ?_
                        refine WP.reg [(0, false), (1, false), (2, false), (3, false), (4, false), (5, false), (6, false), (7, false), (8, false), (9, false), (10, false), (11, false), (12, false), (13, false), (14, false), (15, false), (16, false), (17, false), (18, false), (19, false), (20, false), (21, false), (22, false), (23, false), (24, false)] (by kernel_rfl) ?_
                        refine mv0 rfl rfl ?_
                        refine mv0 rfl rfl ?_
                        cases c882 : t847
                        · replace H := Gets.cf H c882
                          refine sk rfl rfl rfl rfl rfl ?_
                          refine Dv.pickF rfl trivial rfl rfl ?_
                          refine mv0 rfl rfl ?_
                          refine sk rfl rfl rfl rfl rfl ?_
                          refine sk rfl rfl rfl rfl rfl ?_
                          refine sk rfl rfl rfl rfl rfl ?_
                          refine Dv.pickF rfl trivial rfl rfl ?_
                          refine mv0 rfl rfl ?_
                          refine sk rfl rfl rfl rfl rfl ?_
                          refine sk rfl rfl rfl rfl rfl ?_
                          refine sk rfl rfl rfl rfl rfl ?_
                          refine Dv.pickF rfl trivial rfl rfl ?_
                          refine mv0 rfl rfl ?_
                          refine sk rfl rfl rfl rfl rfl ?_
                          refine sk rfl rfl rfl rfl rfl ?_
                          refine sk rfl rfl rfl rfl rfl ?_
                          refine Dv.pickF rfl trivial rfl rfl ?_
                          refine mv0 rfl rfl ?_
                          refine sk rfl rfl rfl rfl rfl ?_
                          refine sk rfl rfl rfl rfl rfl ?_
                          refine sk rfl rfl rfl rfl rfl ?_
                          refine Dv.pickF rfl trivial rfl rfl ?_
                          refine as0 rfl rfl ?_
                          refine .fin ?_
                          obtain rfl := Gets.out H
                          exact WP.retL (fun _ _ h => h) rfl () trivial (.cons (res_tmp rfl) .nil) rfl (st_seln 1 [0] 1 rfl rfl rfl)
                        · replace H := Gets.ct H c882
                          refine Dv.mv rfl ⟨_, _, rfl, rfl, rfl⟩ rfl ?_
                          refine Dv.pickT rfl trivial rfl rfl ?_
                          refine mv0 rfl rfl ?_
                          refine sk rfl rfl rfl rfl rfl ?_
                          refine sk rfl rfl rfl rfl rfl ?_
                          refine sk rfl rfl rfl rfl rfl ?_
                          refine Dv.pickF rfl trivial rfl rfl ?_
                          refine mv0 rfl rfl ?_
                          refine sk rfl rfl rfl rfl rfl ?_
                          refine sk rfl rfl rfl rfl rfl ?_
                          refine sk rfl rfl rfl rfl rfl ?_
                          refine Dv.pickF rfl trivial rfl rfl ?_
                          refine mv0 rfl rfl ?_
                          refine sk rfl rfl rfl rfl rfl ?_
                          refine sk rfl rfl rfl rfl rfl ?_
                          refine sk rfl rfl rfl rfl rfl ?_
                          refine Dv.pickF rfl trivial rfl rfl ?_
                          refine mv0 rfl rfl ?_
                          refine sk rfl rfl rfl rfl rfl ?_
                          refine sk rfl rfl rfl rfl rfl ?_
                          refine sk rfl rfl rfl rfl rfl ?_
                          refine Dv.pickF rfl trivial rfl rfl ?_
                          refine as0 rfl rfl ?_
                          refine .fin ?_
                          obtain rfl := Gets.out H
                          exact WP.retL (fun _ _ h => h) rfl () trivial (.cons (res_tmp rfl) .nil) rfl (st_seln 1 [0] 1 rfl rfl rfl)
                      · replace H := Gets.ct H c876
                        refine Dv.fab rfl ⟨_, _, rfl, rfl, rfl⟩ rfl Tryz.underlying30 rfl Tryz.underlying3 c3 (by decide) ?_
                        refine Dv.ldb rfl ⟨_, _, rfl, rfl, rfl⟩ rfl Tryz.underlying3 rfl (mem_at 0 rfl) rfl ?_
                        refine Dv.bin rfl ⟨_, _, rfl, rfl, rfl⟩ rfl rfl (fun _ => run_eq) ?_
                        refine Dv.pickT rfl ⟨_, _, rfl, rfl, rfl⟩ rfl rfl ?_
                        refine Dv.pickF rfl trivial rfl rfl ?_
                        refine as0 rfl rfl ?_
                        refine .fin ?_
                        refine WP.seq ?_
                        refine WP.reg [(0, false), (1, false), (2, false), (3, false), (4, false), (5, false), (6, false), (7, false), (8, false), (9, false), (10, false), (11, false), (12, false), (13, false), (14, false), (15, false), (16, false), (17, false), (18, false), (19, false), (20, false), (21, false), (22, false), (23, false), (24, false)] (by kernel_rfl) ?_
                        refine mv0 rfl rfl ?_
                        refine mv0 rfl rfl ?_
                        cases c877 : t847
                        · replace H := Gets.cf H c877
                          refine sk rfl rfl rfl rfl rfl ?_
                          refine Dv.pickF rfl trivial rfl rfl ?_
                          refine mv0 rfl rfl ?_
                          refine sk rfl rfl rfl rfl rfl ?_
                          refine sk rfl rfl rfl rfl rfl ?_
                          refine sk rfl rfl rfl rfl rfl ?_
                          refine Dv.pickF rfl trivial rfl rfl ?_
                          refine mv0 rfl rfl ?_
                          refine sk rfl rfl rfl rfl rfl ?_
                          refine sk rfl rfl rfl rfl rfl ?_
                          refine sk rfl rfl rfl rfl rfl ?_
                          refine Dv.pickF rfl trivial rfl rfl ?_
                          refine mv0 rfl rfl ?_
                          refine sk rfl rfl rfl rfl rfl ?_
                          refine sk rfl rfl rfl rfl rfl ?_
                          refine sk rfl rfl rfl rfl rfl ?_
                          refine Dv.pickF rfl trivial rfl rfl ?_
                          refine mv0 rfl rfl ?_
                          refine sk rfl rfl rfl rfl rfl ?_
                          refine sk rfl rfl rfl rfl rfl ?_
                          refine sk rfl rfl rfl rfl rfl ?_
                          refine Dv.pickF rfl trivial rfl rfl ?_
                          refine as0 rfl rfl ?_
                          refine .fin ?_
                          obtain rfl := Gets.out H
                          exact WP.retL (fun _ _ h => h) rfl () trivial (.cons (res_tmp rfl) .nil) rfl (st_seln 1 [0] 1 rfl rfl rfl)
                        · replace H := Gets.ct H c877
                          refine Dv.mv rfl ⟨_, _, rfl, rfl, rfl⟩ rfl ?_
                          refine Dv.pickT rfl trivial rfl rfl ?_
                          refine mv0 rfl rfl ?_
                          cases c878 : (a0.fSpan == 0)
                          · replace H := Gets.cf H c878
                            refine sk rfl rfl rfl rfl rfl ?_
                            refine sk rfl rfl rfl rfl rfl ?_
                            refine sk rfl rfl rfl rfl rfl ?_
                            refine Dv.pickF rfl trivial rfl rfl ?_
                            refine mv0 rfl rfl ?_
                            refine sk rfl rfl rfl rfl rfl ?_
                            refine sk rfl rfl rfl rfl rfl ?_
                            refine sk rfl rfl rfl rfl rfl ?_
                            refine Dv.pickF rfl trivial rfl rfl ?_
                            refine mv0 rfl rfl ?_
                            refine sk rfl rfl rfl rfl rfl ?_
                            refine sk rfl rfl rfl rfl rfl ?_
                            refine sk rfl rfl rfl rfl rfl ?_
                            refine Dv.pickF rfl trivial rfl rfl ?_
                            refine mv0 rfl rfl ?_
                            refine sk rfl rfl rfl rfl rfl ?_
                            refine sk rfl rfl rfl rfl rfl ?_
                            refine sk rfl rfl rfl rfl rfl ?_
                            refine Dv.pickF rfl trivial rfl rfl ?_
                            refine as0 rfl rfl ?_
                            refine .fin ?_
                            obtain rfl := Gets.out H
                            exact WP.retL (fun _ _ h => h) rfl () trivial (.cons (res_tmp rfl) .nil) rfl (st_seln 1 [0] 1 rfl rfl rfl)
                          · replace H := Gets.ct H c878
                            refine Dv.fab rfl ⟨_, _, rfl, rfl, rfl⟩ rfl Tryz.underlying30 rfl Tryz.underlying9 c9 (by decide) ?_
                            refine Dv.ldb rfl ⟨_, _, rfl, rfl, rfl⟩ rfl Tryz.underlying9 rfl (mem_at 0 rfl) rfl ?_
                            refine Dv.bin rfl ⟨_, _, rfl, rfl, rfl⟩ rfl rfl (fun _ => run_seq) ?_
                            refine Dv.pickT rfl trivial rfl rfl ?_
                            refine mv0 rfl rfl ?_
                            cases c879 : decide (a0.fEvent = (⟨#[]⟩ : ByteArray))
                            · replace H := Gets.cf H c879
                              refine sk rfl rfl rfl rfl rfl ?_
                              refine sk rfl rfl rfl rfl rfl ?_
                              refine sk rfl rfl rfl rfl rfl ?_
                              refine Dv.pickF rfl trivial rfl rfl ?_
                              refine mv0 rfl rfl ?_
                              refine sk rfl rfl rfl rfl rfl ?_
                              refine sk rfl rfl rfl rfl rfl ?_
                              refine sk rfl rfl rfl rfl rfl ?_
                              refine Dv.pickF rfl trivial rfl rfl ?_
                              refine mv0 rfl rfl ?_
                              refine sk rfl rfl rfl rfl rfl ?_
                              refine sk rfl rfl rfl rfl rfl ?_
                              refine sk rfl rfl rfl rfl rfl ?_
                              refine Dv.pickF rfl trivial rfl rfl ?_
                              refine as0 rfl rfl ?_
                              refine .fin ?_
                              obtain rfl := Gets.out H
                              exact WP.retL (fun _ _ h => h) rfl () trivial (.cons (res_tmp rfl) .nil) rfl (st_seln 1 [0] 1 rfl rfl rfl)
                            · replace H := Gets.ct H c879
                              refine Dv.fab rfl ⟨_, _, rfl, rfl, rfl⟩ rfl Tryz.underlying30 rfl Tryz.underlying9 c9 (by decide) ?_
                              refine Dv.ldb rfl ⟨_, _, rfl, rfl, rfl⟩ rfl Tryz.underlying9 rfl (mem_at 0 rfl) rfl ?_
                              refine Dv.bin rfl ⟨_, _, rfl, rfl, rfl⟩ rfl rfl (fun _ => run_seq) ?_
                              refine Dv.pickT rfl trivial rfl rfl ?_
                              refine mv0 rfl rfl ?_
                              cases c880 : decide (a0.fThread = (⟨#[]⟩ : ByteArray))
                              · replace H := Gets.cf H c880
                                refine sk rfl rfl rfl rfl rfl ?_
                                refine sk rfl rfl rfl rfl rfl ?_
                                refine sk rfl rfl rfl rfl rfl ?_
                                refine Dv.pickF rfl trivial rfl rfl ?_
                                refine mv0 rfl rfl ?_
                                refine sk rfl rfl rfl rfl rfl ?_
                                refine sk rfl rfl rfl rfl rfl ?_
                                refine sk rfl rfl rfl rfl rfl ?_
                                refine Dv.pickF rfl trivial rfl rfl ?_
                                refine as0 rfl rfl ?_
                                refine .fin ?_
                                obtain rfl := Gets.out H
                                exact WP.retL (fun _ _ h => h) rfl () trivial (.cons (res_tmp rfl) .nil) rfl (st_seln 1 [0] 1 rfl rfl rfl)
                              · replace H := Gets.ct H c880
                                refine Dv.fab rfl ⟨_, _, rfl, rfl, rfl⟩ rfl Tryz.underlying30 rfl Tryz.underlying3 c3 (by decide) ?_
                                refine Dv.ldb rfl ⟨_, _, rfl, rfl, rfl⟩ rfl Tryz.underlying3 rfl (mem_at 0 rfl) rfl ?_
                                refine Dv.bin rfl ⟨_, _, rfl, rfl, rfl⟩ rfl rfl (fun _ => run_eq) ?_
                                refine Dv.pickT rfl trivial rfl rfl ?_
                                refine mv0 rfl rfl ?_
                                cases c881 : (a0.fState == 0)
                                · replace H := Gets.cf H c881
                                  refine sk rfl rfl rfl rfl rfl ?_
                                  refine sk rfl rfl rfl rfl rfl ?_
                                  refine sk rfl rfl rfl rfl rfl ?_
                                  refine Dv.pickF rfl trivial rfl rfl ?_
                                  refine as0 rfl rfl ?_
                                  refine .fin ?_
                                  obtain rfl := Gets.out H
                                  exact WP.retL (fun _ _ h => h) rfl () trivial (.cons (res_tmp rfl) .nil) rfl (st_seln 1 [0] 1 rfl rfl rfl)
                                · replace H := Gets.ct H c881
                                  refine Dv.fab rfl ⟨_, _, rfl, rfl, rfl⟩ rfl Tryz.underlying30 rfl Tryz.underlying4 c4 (by decide) ?_
                                  refine Dv.ldb rfl ⟨_, _, rfl, rfl, rfl⟩ rfl Tryz.underlying4 rfl (mem_at 0 rfl) rfl ?_
                                  refine Dv.un rfl ⟨_, _, rfl, rfl, rfl⟩ rfl (fun _ => run_not _) ?_
                                  refine Dv.pickT rfl trivial rfl rfl ?_
                                  refine as0 rfl rfl ?_
                                  refine .fin ?_
                                  obtain rfl := Gets.out H
                                  exact WP.retL (fun _ _ h => h) rfl () trivial (.cons (res_tmp rfl) .nil) rfl (st_seln 1 [0] 1 rfl rfl rfl)
                    · replace H := Gets.ct H c871
                      refine sk rfl rfl rfl rfl rfl ?_
                      refine sk rfl rfl rfl rfl rfl ?_
                      refine sk rfl rfl rfl rfl rfl ?_
                      refine sk rfl rfl rfl rfl rfl ?_
                      refine Dv.skip rfl ⟨_, _, rfl, rfl, .inr rfl⟩ ?_
                      refine Dv.skip rfl ⟨_, _, rfl, rfl, .inr rfl⟩ ?_
                      refine Dv.skip rfl ⟨_, _, rfl, rfl, .inr rfl⟩ ?_
                      refine sk rfl rfl rfl rfl rfl ?_
                      refine Dv.pickT rfl trivial rfl rfl ?_
                      refine as0 rfl rfl ?_
                      refine .fin ?_
                      refine WP.seq ?_
                      refine WP.reg [(0, false), (1, false), (2, false), (3, false), (4, false), (5, false), (6, false), (7, false), (8, false), (9, false), (10, false), (11, false), (12, false), (13, false), (14, false), (15, false), (16, false), (17, false), (18, false), (19, false), (20, false), (21, false), (22, false), (23, false), (24, false)] (by kernel_rfl) ?_
                      refine mv0 rfl rfl ?_
                      refine mv0 rfl rfl ?_
                      cases c872 : t847
                      · replace H := Gets.cf H c872
                        refine sk rfl rfl rfl rfl rfl ?_
                        refine Dv.pickF rfl trivial rfl rfl ?_
                        refine mv0 rfl rfl ?_
                        refine sk rfl rfl rfl rfl rfl ?_
                        refine sk rfl rfl rfl rfl rfl ?_
                        refine sk rfl rfl rfl rfl rfl ?_
                        refine Dv.pickF rfl trivial rfl rfl ?_
                        refine mv0 rfl rfl ?_
                        refine sk rfl rfl rfl rfl rfl ?_
                        refine sk rfl rfl rfl rfl rfl ?_
                        refine sk rfl rfl rfl rfl rfl ?_
                        refine Dv.pickF rfl trivial rfl rfl ?_
                        refine mv0 rfl rfl ?_
                        refine sk rfl rfl rfl rfl rfl ?_
                        refine sk rfl rfl rfl rfl rfl ?_
                        refine sk rfl rfl rfl rfl rfl ?_
                        refine Dv.pickF rfl trivial rfl rfl ?_
                        refine mv0 rfl rfl ?_
                        refine sk rfl rfl rfl rfl rfl ?_
                        refine sk rfl rfl rfl rfl rfl ?_
                        refine sk rfl rfl rfl rfl rfl ?_
                        refine Dv.pickF rfl trivial rfl rfl ?_
                        refine as0 rfl rfl ?_
                        refine .fin ?_
                        obtain rfl := Gets.out H
                        exact WP.retL (fun _ _ h => h) rfl () trivial (.cons (res_tmp rfl) .nil) rfl (st_seln 1 [0] 1 rfl rfl rfl)
                      · replace H := Gets.ct H c872
                        refine Dv.mv rfl ⟨_, _, rfl, rfl, rfl⟩ rfl ?_
                        refine Dv.pickT rfl trivial rfl rfl ?_
                        refine mv0 rfl rfl ?_
                        refine Dv.fab rfl ⟨_, _, rfl, rfl, rfl⟩ rfl Tryz.underlying30 rfl Tryz.underlying9 c9 (by decide) ?_
                        refine Dv.ldb rfl ⟨_, _, rfl, rfl, rfl⟩ rfl Tryz.underlying9 rfl (mem_at 0 rfl) rfl ?_
                        refine Dv.bin rfl ⟨_, _, rfl, rfl, rfl⟩ rfl rfl (fun _ => run_seq) ?_
                        refine Dv.pickT rfl trivial rfl rfl ?_
                        refine mv0 rfl rfl ?_
                        cases c873 : decide (a0.fEvent = (⟨#[]⟩ : ByteArray))
                        · replace H := Gets.cf H c873
                          refine sk rfl rfl rfl rfl rfl ?_
                          refine sk rfl rfl rfl rfl rfl ?_
                          refine sk rfl rfl rfl rfl rfl ?_
                          refine Dv.pickF rfl trivial rfl rfl ?_
                          refine mv0 rfl rfl ?_
                          refine sk rfl rfl rfl rfl rfl ?_
                          refine sk rfl rfl rfl rfl rfl ?_
                          refine sk rfl rfl rfl rfl rfl ?_
                          refine Dv.pickF rfl trivial rfl rfl ?_
                          refine mv0 rfl rfl ?_
                          refine sk rfl rfl rfl rfl rfl ?_
                          refine sk rfl rfl rfl rfl rfl ?_
                          refine sk rfl rfl rfl rfl rfl ?_
                          refine Dv.pickF rfl trivial rfl rfl ?_
                          refine as0 rfl rfl ?_
                          refine .fin ?_
                          obtain rfl := Gets.out H
                          exact WP.retL (fun _ _ h => h) rfl () trivial (.cons (res_tmp rfl) .nil) rfl (st_seln 1 [0] 1 rfl rfl rfl)
                        · replace H := Gets.ct H c873
                          refine Dv.fab rfl ⟨_, _, rfl, rfl, rfl⟩ rfl Tryz.underlying30 rfl Tryz.underlying9 c9 (by decide) ?_
                          refine Dv.ldb rfl ⟨_, _, rfl, rfl, rfl⟩ rfl Tryz.underlying9 rfl (mem_at 0 rfl) rfl ?_
                          refine Dv.bin rfl ⟨_, _, rfl, rfl, rfl⟩ rfl rfl (fun _ => run_seq) ?_
                          refine Dv.pickT rfl trivial rfl rfl ?_
                          refine mv0 rfl rfl ?_
                          cases c874 : decide (a0.fThread = (⟨#[]⟩ : ByteArray))
                          · replace H := Gets.cf H c874
                            refine sk rfl rfl rfl rfl rfl ?_
                            refine sk rfl rfl rfl rfl rfl ?_
                            refine sk rfl rfl rfl rfl rfl ?_
                            refine Dv.pickF rfl trivial rfl rfl ?_
                            refine mv0 rfl rfl ?_
                            refine sk rfl rfl rfl rfl rfl ?_
                            refine sk rfl rfl rfl rfl rfl ?_
                            refine sk rfl rfl rfl rfl rfl ?_
                            refine Dv.pickF rfl trivial rfl rfl ?_
                            refine as0 rfl rfl ?_
                            refine .fin ?_
                            obtain rfl := Gets.out H
                            exact WP.retL (fun _ _ h => h) rfl () trivial (.cons (res_tmp rfl) .nil) rfl (st_seln 1 [0] 1 rfl rfl rfl)
                          · replace H := Gets.ct H c874
                            refine Dv.fab rfl ⟨_, _, rfl, rfl, rfl⟩ rfl Tryz.underlying30 rfl Tryz.underlying3 c3 (by decide) ?_
                            refine Dv.ldb rfl ⟨_, _, rfl, rfl, rfl⟩ rfl Tryz.underlying3 rfl (mem_at 0 rfl) rfl ?_
                            refine Dv.bin rfl ⟨_, _, rfl, rfl, rfl⟩ rfl rfl (fun _ => run_eq) ?_
                            refine Dv.pickT rfl trivial rfl rfl ?_
                            refine mv0 rfl rfl ?_
                            cases c875 : (a0.fState == 0)
                            · replace H := Gets.cf H c875
                              refine sk rfl rfl rfl rfl rfl ?_
                              refine sk rfl rfl rfl rfl rfl ?_
                              refine sk rfl rfl rfl rfl rfl ?_
                              refine Dv.pickF rfl trivial rfl rfl ?_
                              refine as0 rfl rfl ?_
                              refine .fin ?_
                              obtain rfl := Gets.out H
                              exact WP.retL (fun _ _ h => h) rfl () trivial (.cons (res_tmp rfl) .nil) rfl (st_seln 1 [0] 1 rfl rfl rfl)
                            · replace H := Gets.ct H c875
                              refine Dv.fab rfl ⟨_, _, rfl, rfl, rfl⟩ rfl Tryz.underlying30 rfl Tryz.underlying4 c4 (by decide) ?_
                              refine Dv.ldb rfl ⟨_, _, rfl, rfl, rfl⟩ rfl Tryz.underlying4 rfl (mem_at 0 rfl) rfl ?_
                              refine Dv.un rfl ⟨_, _, rfl, rfl, rfl⟩ rfl (fun _ => run_not _) ?_
                              refine Dv.pickT rfl trivial rfl rfl ?_
                              refine as0 rfl rfl ?_
                              refine .fin ?_
                              obtain rfl := Gets.out H
                              exact WP.retL (fun _ _ h => h) rfl () trivial (.cons (res_tmp rfl) .nil) rfl (st_seln 1 [0] 1 rfl rfl rfl)
              · replace H := Gets.cf H c868
                refine WP.seq ?_
                refine WP.reg [(0, false), (1, false)] (by kernel_rfl) ?_
                refine Dv.bin rfl trivial rfl rfl (fun _ => run_eq) ?_
                refine as0 rfl rfl ?_
                refine .fin ?_
                refine WP.cond rfl (fun c897 => ?_) (fun c897 => ?_)
                · replace H := Gets.ct H c897
                  refine WP.seq ?_
                  refine WP.reg [(0, false), (1, false), (2, false), (3, false), (4, false), (5, false), (6, false), (7, false), (8, false), (9, false), (10, false), (11, false), (12, false), (13, false), (14, false), (15, false), (16, false), (17, false), (18, false), (19, false), (20, false), (21, false), (22, false), (23, false), (24, false), (25, false), (26, false), (27, false), (28, false), (29, false), (30, false), (31, false), (32, false), (33, false), (34, false), (35, false), (36, false), (37, false), (38, false)] (by kernel_rfl) ?_
                  refine Dv.fab rfl trivial rfl Tryz.underlying30 rfl Tryz.underlying9 c9 (by decide) ?_
                  refine Dv.ldb rfl trivial rfl Tryz.underlying9 rfl (mem_at 0 rfl) rfl ?_
                  refine Dv.bin rfl trivial rfl rfl (fun _ => run_seq) ?_
                  refine mv0 rfl rfl ?_
                  cases c898 : decide (a0.fRoom = (⟨#[]⟩ : ByteArray))
                  · replace H := Gets.cf H c898
                    refine sk rfl rfl rfl rfl rfl ?_
                    refine sk rfl rfl rfl rfl rfl ?_
                    refine sk rfl rfl rfl rfl rfl ?_
                    refine Dv.pickF rfl trivial rfl rfl ?_
                    refine mv0 rfl rfl ?_
                    refine sk rfl rfl rfl rfl rfl ?_
                    refine sk rfl rfl rfl rfl rfl ?_
                    refine sk rfl rfl rfl rfl rfl ?_
                    refine Dv.pickF rfl trivial rfl rfl ?_
                    refine mv0 rfl rfl ?_
                    refine sk rfl rfl rfl rfl rfl ?_
                    refine sk rfl rfl rfl rfl rfl ?_
                    refine sk rfl rfl rfl rfl rfl ?_
                    refine Dv.pickF rfl trivial rfl rfl ?_
                    refine mv0 rfl rfl ?_
                    refine sk rfl rfl rfl rfl rfl ?_
                    refine sk rfl rfl rfl rfl rfl ?_
                    refine sk rfl rfl rfl rfl rfl ?_
                    refine Dv.pickF rfl trivial rfl rfl ?_
                    refine mv0 rfl rfl ?_
                    refine sk rfl rfl rfl rfl rfl ?_
                    refine sk rfl rfl rfl rfl rfl ?_
                    refine sk rfl rfl rfl rfl rfl ?_
                    refine Dv.pickF rfl trivial rfl rfl ?_
                    refine mv0 rfl rfl ?_
                    refine sk rfl rfl rfl rfl rfl ?_
                    refine sk rfl rfl rfl rfl rfl ?_
                    refine sk rfl rfl rfl rfl rfl ?_
                    refine Dv.pickF rfl trivial rfl rfl ?_
                    refine mv0 rfl rfl ?_
                    refine sk rfl rfl rfl rfl rfl ?_
                    refine sk rfl rfl rfl rfl rfl ?_
                    refine sk rfl rfl rfl rfl rfl ?_
                    refine Dv.pickF rfl trivial rfl rfl ?_
                    refine as0 rfl rfl ?_
                    refine .fin ?_
                    obtain rfl := Gets.out H
                    exact WP.retL (fun _ _ h => h) rfl () trivial (.cons (res_tmp rfl) .nil) rfl (st_seln 1 [0] 1 rfl rfl rfl)
                  · replace H := Gets.ct H c898
                    refine Dv.fab rfl ⟨_, _, rfl, rfl, rfl⟩ rfl Tryz.underlying30 rfl Tryz.underlying9 c9 (by decide) ?_
                    refine Dv.ldb rfl ⟨_, _, rfl, rfl, rfl⟩ rfl Tryz.underlying9 rfl (mem_at 0 rfl) rfl ?_
                    refine Dv.bin rfl ⟨_, _, rfl, rfl, rfl⟩ rfl rfl (fun _ => run_seq) ?_
                    refine Dv.pickT rfl trivial rfl rfl ?_
                    refine mv0 rfl rfl ?_
                    cases c899 : decide (a0.fEvent = (⟨#[]⟩ : ByteArray))
                    · replace H := Gets.cf H c899
                      refine sk rfl rfl rfl rfl rfl ?_
                      refine sk rfl rfl rfl rfl rfl ?_
                      refine sk rfl rfl rfl rfl rfl ?_
                      refine Dv.pickF rfl trivial rfl rfl ?_
                      refine mv0 rfl rfl ?_
                      refine sk rfl rfl rfl rfl rfl ?_
                      refine sk rfl rfl rfl rfl rfl ?_
                      refine sk rfl rfl rfl rfl rfl ?_
                      refine Dv.pickF rfl trivial rfl rfl ?_
                      refine mv0 rfl rfl ?_
                      refine sk rfl rfl rfl rfl rfl ?_
                      refine sk rfl rfl rfl rfl rfl ?_
                      refine sk rfl rfl rfl rfl rfl ?_
                      refine Dv.pickF rfl trivial rfl rfl ?_
                      refine mv0 rfl rfl ?_
                      refine sk rfl rfl rfl rfl rfl ?_
                      refine sk rfl rfl rfl rfl rfl ?_
                      refine sk rfl rfl rfl rfl rfl ?_
                      refine Dv.pickF rfl trivial rfl rfl ?_
                      refine mv0 rfl rfl ?_
                      refine sk rfl rfl rfl rfl rfl ?_
                      refine sk rfl rfl rfl rfl rfl ?_
                      refine sk rfl rfl rfl rfl rfl ?_
                      refine Dv.pickF rfl trivial rfl rfl ?_
                      refine mv0 rfl rfl ?_
                      refine sk rfl rfl rfl rfl rfl ?_
                      refine sk rfl rfl rfl rfl rfl ?_
                      refine sk rfl rfl rfl rfl rfl ?_
                      refine Dv.pickF rfl trivial rfl rfl ?_
                      refine as0 rfl rfl ?_
                      refine .fin ?_
                      obtain rfl := Gets.out H
                      exact WP.retL (fun _ _ h => h) rfl () trivial (.cons (res_tmp rfl) .nil) rfl (st_seln 1 [0] 1 rfl rfl rfl)
                    · replace H := Gets.ct H c899
                      refine Dv.fab rfl ⟨_, _, rfl, rfl, rfl⟩ rfl Tryz.underlying30 rfl Tryz.underlying9 c9 (by decide) ?_
                      refine Dv.ldb rfl ⟨_, _, rfl, rfl, rfl⟩ rfl Tryz.underlying9 rfl (mem_at 0 rfl) rfl ?_
                      refine Dv.bin rfl ⟨_, _, rfl, rfl, rfl⟩ rfl rfl (fun _ => run_seq) ?_
                      refine Dv.pickT rfl trivial rfl rfl ?_
                      refine mv0 rfl rfl ?_
                      cases c900 : decide (a0.fThread = (⟨#[]⟩ : ByteArray))
                      · replace H := Gets.cf H c900
                        refine sk rfl rfl rfl rfl rfl ?_
                        refine sk rfl rfl rfl rfl rfl ?_
                        refine sk rfl rfl rfl rfl rfl ?_
                        refine Dv.pickF rfl trivial rfl rfl ?_
                        refine mv0 rfl rfl ?_
                        refine sk rfl rfl rfl rfl rfl ?_
                        refine sk rfl rfl rfl rfl rfl ?_
                        refine sk rfl rfl rfl rfl rfl ?_
                        refine Dv.pickF rfl trivial rfl rfl ?_
                        refine mv0 rfl rfl ?_
                        refine sk rfl rfl rfl rfl rfl ?_
                        refine sk rfl rfl rfl rfl rfl ?_
                        refine sk rfl rfl rfl rfl rfl ?_
                        refine Dv.pickF rfl trivial rfl rfl ?_
                        refine mv0 rfl rfl ?_
                        refine sk rfl rfl rfl rfl rfl ?_
                        refine sk rfl rfl rfl rfl rfl ?_
                        refine sk rfl rfl rfl rfl rfl ?_
                        refine Dv.pickF rfl trivial rfl rfl ?_
                        refine mv0 rfl rfl ?_
                        refine sk rfl rfl rfl rfl rfl ?_
                        refine sk rfl rfl rfl rfl rfl ?_
                        refine sk rfl rfl rfl rfl rfl ?_
                        refine Dv.pickF rfl trivial rfl rfl ?_
                        refine as0 rfl rfl ?_
                        refine .fin ?_
                        obtain rfl := Gets.out H
                        exact WP.retL (fun _ _ h => h) rfl () trivial (.cons (res_tmp rfl) .nil) rfl (st_seln 1 [0] 1 rfl rfl rfl)
                      · replace H := Gets.ct H c900
                        refine Dv.fab rfl ⟨_, _, rfl, rfl, rfl⟩ rfl Tryz.underlying30 rfl Tryz.underlying4 c4 (by decide) ?_
                        refine Dv.ldb rfl ⟨_, _, rfl, rfl, rfl⟩ rfl Tryz.underlying4 rfl (mem_at 0 rfl) rfl ?_
                        refine Dv.un rfl ⟨_, _, rfl, rfl, rfl⟩ rfl (fun _ => run_not _) ?_
                        refine Dv.pickT rfl trivial rfl rfl ?_
                        refine mv0 rfl rfl ?_
                        cases c901 : !a0.fOn
                        · replace H := Gets.cf H c901
                          refine sk rfl rfl rfl rfl rfl ?_
                          refine sk rfl rfl rfl rfl rfl ?_
                          refine sk rfl rfl rfl rfl rfl ?_
                          refine Dv.pickF rfl trivial rfl rfl ?_
                          refine mv0 rfl rfl ?_
                          refine sk rfl rfl rfl rfl rfl ?_
                          refine sk rfl rfl rfl rfl rfl ?_
                          refine sk rfl rfl rfl rfl rfl ?_
                          refine Dv.pickF rfl trivial rfl rfl ?_
                          refine mv0 rfl rfl ?_
                          refine sk rfl rfl rfl rfl rfl ?_
                          refine sk rfl rfl rfl rfl rfl ?_
                          refine sk rfl rfl rfl rfl rfl ?_
                          refine Dv.pickF rfl trivial rfl rfl ?_
                          refine mv0 rfl rfl ?_
                          refine sk rfl rfl rfl rfl rfl ?_
                          refine sk rfl rfl rfl rfl rfl ?_
                          refine sk rfl rfl rfl rfl rfl ?_
                          refine Dv.pickF rfl trivial rfl rfl ?_
                          refine as0 rfl rfl ?_
                          refine .fin ?_
                          obtain rfl := Gets.out H
                          exact WP.retL (fun _ _ h => h) rfl () trivial (.cons (res_tmp rfl) .nil) rfl (st_seln 1 [0] 1 rfl rfl rfl)
                        · replace H := Gets.ct H c901
                          refine Dv.fab rfl ⟨_, _, rfl, rfl, rfl⟩ rfl Tryz.underlying30 rfl Tryz.underlying3 c3 (by decide) ?_
                          refine Dv.ldb rfl ⟨_, _, rfl, rfl, rfl⟩ rfl Tryz.underlying3 rfl (mem_at 0 rfl) rfl ?_
                          refine Dv.bin rfl ⟨_, _, rfl, rfl, rfl⟩ rfl rfl (fun _ => run_eq) ?_
                          refine Dv.pickT rfl trivial rfl rfl ?_
                          refine mv0 rfl rfl ?_
                          cases c902 : (a0.fSpan == 0)
                          · replace H := Gets.cf H c902
                            refine sk rfl rfl rfl rfl rfl ?_
                            refine sk rfl rfl rfl rfl rfl ?_
                            refine sk rfl rfl rfl rfl rfl ?_
                            refine Dv.pickF rfl trivial rfl rfl ?_
                            refine mv0 rfl rfl ?_
                            refine sk rfl rfl rfl rfl rfl ?_
                            refine sk rfl rfl rfl rfl rfl ?_
                            refine sk rfl rfl rfl rfl rfl ?_
                            refine Dv.pickF rfl trivial rfl rfl ?_
                            refine mv0 rfl rfl ?_
                            refine sk rfl rfl rfl rfl rfl ?_
                            refine sk rfl rfl rfl rfl rfl ?_
                            refine sk rfl rfl rfl rfl rfl ?_
                            refine Dv.pickF rfl trivial rfl rfl ?_
                            refine as0 rfl rfl ?_
                            refine .fin ?_
                            obtain rfl := Gets.out H
                            exact WP.retL (fun _ _ h => h) rfl () trivial (.cons (res_tmp rfl) .nil) rfl (st_seln 1 [0] 1 rfl rfl rfl)
                          · replace H := Gets.ct H c902
                            refine Dv.fab rfl ⟨_, _, rfl, rfl, rfl⟩ rfl Tryz.underlying30 rfl Tryz.underlying4 c4 (by decide) ?_
                            refine Dv.ldb rfl ⟨_, _, rfl, rfl, rfl⟩ rfl Tryz.underlying4 rfl (mem_at 0 rfl) rfl ?_
                            refine Dv.un rfl ⟨_, _, rfl, rfl, rfl⟩ rfl (fun _ => run_not _) ?_
                            refine Dv.pickT rfl trivial rfl rfl ?_
                            refine mv0 rfl rfl ?_
                            cases c903 : !a0.fPrivate
                            · replace H := Gets.cf H c903
                              refine sk rfl rfl rfl rfl rfl ?_
                              refine sk rfl rfl rfl rfl rfl ?_
                              refine sk rfl rfl rfl rfl rfl ?_
                              refine Dv.pickF rfl trivial rfl rfl ?_
                              refine mv0 rfl rfl ?_
                              refine sk rfl rfl rfl rfl rfl ?_
                              refine sk rfl rfl rfl rfl rfl ?_
                              refine sk rfl rfl rfl rfl rfl ?_
                              refine Dv.pickF rfl trivial rfl rfl ?_
                              refine as0 rfl rfl ?_
                              refine .fin ?_
                              obtain rfl := Gets.out H
                              exact WP.retL (fun _ _ h => h) rfl () trivial (.cons (res_tmp rfl) .nil) rfl (st_seln 1 [0] 1 rfl rfl rfl)
                            · replace H := Gets.ct H c903
                              refine Dv.fab rfl ⟨_, _, rfl, rfl, rfl⟩ rfl Tryz.underlying30 rfl Tryz.underlying3 c3 (by decide) ?_
                              refine Dv.ldb rfl ⟨_, _, rfl, rfl, rfl⟩ rfl Tryz.underlying3 rfl (mem_at 0 rfl) rfl ?_
                              refine Dv.bin rfl ⟨_, _, rfl, rfl, rfl⟩ rfl rfl (fun _ => run_ge) ?_
                              refine Dv.pickT rfl trivial rfl rfl ?_
                              refine mv0 rfl rfl ?_
                              cases c904 : decide (0 ≤ a0.fState)
                              · replace H := Gets.cf H c904
                                refine sk rfl rfl rfl rfl rfl ?_
                                refine sk rfl rfl rfl rfl rfl ?_
                                refine sk rfl rfl rfl rfl rfl ?_
                                refine Dv.pickF rfl trivial rfl rfl ?_
                                refine as0 rfl rfl ?_
                                refine .fin ?_
                                obtain rfl := Gets.out H
                                exact WP.retL (fun _ _ h => h) rfl () trivial (.cons (res_tmp rfl) .nil) rfl (st_seln 1 [0] 1 rfl rfl rfl)
                              · replace H := Gets.ct H c904
                                refine Dv.fab rfl ⟨_, _, rfl, rfl, rfl⟩ rfl Tryz.underlying30 rfl Tryz.underlying3 c3 (by decide) ?_
                                refine Dv.ldb rfl ⟨_, _, rfl, rfl, rfl⟩ rfl Tryz.underlying3 rfl (mem_at 0 rfl) rfl ?_
                                refine Dv.bin rfl ⟨_, _, rfl, rfl, rfl⟩ rfl rfl (fun _ => run_le) ?_
                                refine Dv.pickT rfl trivial rfl rfl ?_
                                refine as0 rfl rfl ?_
                                refine .fin ?_
                                obtain rfl := Gets.out H
                                exact WP.retL (fun _ _ h => h) rfl () trivial (.cons (res_tmp rfl) .nil) rfl (st_seln 1 [0] 1 rfl rfl rfl)
                · replace H := Gets.cf H c897
                  refine WP.skip ?_
                  refine WP.seq ?_
                  refine WP.reg [(0, false)] (by kernel_rfl) ?_
                  refine as0 rfl rfl ?_
                  refine .fin ?_
                  obtain rfl := Gets.out H
                  exact WP.retL (fun _ _ h => h) rfl () trivial (.cons (res_tmp rfl) .nil) rfl (st_seln 1 [0] 1 rfl rfl rfl)
        · replace H := Gets.ct H c859
          refine sk rfl rfl rfl rfl rfl ?_
          refine sk rfl rfl rfl rfl rfl ?_
          refine sk rfl rfl rfl rfl rfl ?_
          refine Dv.pickT rfl trivial rfl rfl ?_
          refine .fin ?_
          refine WP.cond rfl (fun _ => ?_) nofun
          refine WP.seq ?_
          refine WP.reg [(0, false)] (by kernel_rfl) ?_
          refine as0 rfl rfl ?_
          refine .fin ?_
          obtain rfl := Gets.out H
          exact WP.retL (fun _ _ h => h) rfl () trivial (.cons (res_tmp rfl) .nil) rfl (st_seln 1 [0] 1 rfl rfl rfl)
      · replace H := Gets.ct H c857
        refine sk rfl rfl rfl rfl rfl ?_
        refine sk rfl rfl rfl rfl rfl ?_
        refine sk rfl rfl rfl rfl rfl ?_
        refine Dv.pickT rfl trivial rfl rfl ?_
        refine mv0 rfl rfl ?_
        refine sk rfl rfl rfl rfl rfl ?_
        refine sk rfl rfl rfl rfl rfl ?_
        refine sk rfl rfl rfl rfl rfl ?_
        refine Dv.pickT rfl trivial rfl rfl ?_
        refine .fin ?_
        refine WP.cond rfl (fun _ => ?_) nofun
        refine WP.seq ?_
        refine WP.reg [(0, false)] (by kernel_rfl) ?_
        refine as0 rfl rfl ?_
        refine .fin ?_
        obtain rfl := Gets.out H
        exact WP.retL (fun _ _ h => h) rfl () trivial (.cons (res_tmp rfl) .nil) rfl (st_seln 1 [0] 1 rfl rfl rfl)
    · replace H := Gets.ct H c855
      refine sk rfl rfl rfl rfl rfl ?_
      refine sk rfl rfl rfl rfl rfl ?_
      refine sk rfl rfl rfl rfl rfl ?_
      refine Dv.pickT rfl trivial rfl rfl ?_
      refine mv0 rfl rfl ?_
      refine sk rfl rfl rfl rfl rfl ?_
      refine sk rfl rfl rfl rfl rfl ?_
      refine sk rfl rfl rfl rfl rfl ?_
      refine Dv.pickT rfl trivial rfl rfl ?_
      refine mv0 rfl rfl ?_
      refine sk rfl rfl rfl rfl rfl ?_
      refine sk rfl rfl rfl rfl rfl ?_
      refine sk rfl rfl rfl rfl rfl ?_
      refine Dv.pickT rfl trivial rfl rfl ?_
      refine .fin ?_
      refine WP.cond rfl (fun _ => ?_) nofun
      refine WP.seq ?_
      refine WP.reg [(0, false)] (by kernel_rfl) ?_
      refine as0 rfl rfl ?_
      refine .fin ?_
      obtain rfl := Gets.out H
      exact WP.retL (fun _ _ h => h) rfl () trivial (.cons (res_tmp rfl) .nil) rfl (st_seln 1 [0] 1 rfl rfl rfl)
  · replace H := Gets.ct H c853
    refine sk rfl rfl rfl rfl rfl ?_
    refine sk rfl rfl rfl rfl rfl ?_
    refine sk rfl rfl rfl rfl rfl ?_
    refine Dv.pickT rfl trivial rfl rfl ?_
    refine mv0 rfl rfl ?_
    refine sk rfl rfl rfl rfl rfl ?_
    refine sk rfl rfl rfl rfl rfl ?_
    refine sk rfl rfl rfl rfl rfl ?_
    refine Dv.pickT rfl trivial rfl rfl ?_
    refine mv0 rfl rfl ?_
    refine sk rfl rfl rfl rfl rfl ?_
    refine sk rfl rfl rfl rfl rfl ?_
    refine sk rfl rfl rfl rfl rfl ?_
    refine Dv.pickT rfl trivial rfl rfl ?_
    refine mv0 rfl rfl ?_
    refine sk rfl rfl rfl rfl rfl ?_
    refine sk rfl rfl rfl rfl rfl ?_
    refine sk rfl rfl rfl rfl rfl ?_
    refine Dv.pickT rfl trivial rfl rfl ?_
    refine .fin ?_
    refine WP.cond rfl (fun _ => ?_) nofun
    refine WP.seq ?_
    refine WP.reg [(0, false)] (by kernel_rfl) ?_
    refine as0 rfl rfl ?_
    refine .fin ?_
    obtain rfl := Gets.out H
    exact WP.retL (fun _ _ h => h) rfl () trivial (.cons (res_tmp rfl) .nil) rfl (st_seln 1 [0] 1 rfl rfl rfl)
theorem concourseref03_May.c {k : Nat} {a0 : Edu} {r : Bool} (h : concourseref03_May.f k a0 = some r) : Pt Tryz.prog 24 [agg (Edu.enc a0)] (eq (.bool r)) := by
  unfold concourseref03_May.f at h
  refine (Tr.body Tryz.func24 (c := _) rfl Tryz.ntmps24 (Nat.le_of_ble_eq_true rfl) fun R0 F => ?_).pt
  replace h := Gets.of h
  have H := h
  clear h
  refine WP.seq ?_
  refine WP.reg [(0, true), (1, false)] (by kernel_rfl) ?_
  refine Dv.box rfl trivial rfl (cells_agg (Edu.K.one _)) nofun (fun b905 => ?_)
  refine as0 rfl rfl ?_
  refine .fin ?_
  refine WP.seq ?_
  refine WP.reg [(0, false), (1, false), (2, false)] (by kernel_rfl) ?_
  refine Dv.ldbs rfl trivial rfl Tryz.underlying30 rfl c30 (mem_at 0 rfl) (Nat.le_of_ble_eq_true rfl) ?_
  obtain ⟨t906, h907, H⟩ := Gets.call H
  refine Dv.call rfl trivial cal44 rfl (concourseref03_Local.c h907) ?_
  refine as0 rfl rfl ?_
  refine .fin ?_
  refine WP.seq ?_
  refine WP.reg [(0, false), (1, false), (2, false), (3, false), (4, false), (5, false), (6, false)] (by kernel_rfl) ?_
  refine mv0 rfl rfl ?_
  refine mv0 rfl rfl ?_
  cases c908 : t906
  · replace H := Gets.cf H c908
    refine sk rfl rfl rfl rfl rfl ?_
    refine sk rfl rfl rfl rfl rfl ?_
    refine sk rfl rfl rfl rfl rfl ?_
    refine Dv.pickF rfl trivial rfl rfl ?_
    refine as0 rfl rfl ?_
    refine .fin ?_
    obtain rfl := Gets.out H
    exact WP.retL (fun _ _ h => h) rfl () trivial (.cons (res_tmp rfl) .nil) rfl (st_seln 1 [0] 1 rfl rfl rfl)
  · replace H := Gets.ct H c908
    refine Dv.fab rfl ⟨_, _, rfl, rfl, rfl⟩ rfl Tryz.underlying30 rfl Tryz.underlying4 c4 (by decide) ?_
    refine Dv.ldb rfl ⟨_, _, rfl, rfl, rfl⟩ rfl Tryz.underlying4 rfl (mem_at 0 rfl) rfl ?_
    refine Dv.un rfl ⟨_, _, rfl, rfl, rfl⟩ rfl (fun _ => run_not _) ?_
    refine Dv.pickT rfl trivial rfl rfl ?_
    refine as0 rfl rfl ?_
    refine .fin ?_
    obtain rfl := Gets.out H
    exact WP.retL (fun _ _ h => h) rfl () trivial (.cons (res_tmp rfl) .nil) rfl (st_seln 1 [0] 1 rfl rfl rfl)
theorem concourseref02_Number.c : ∀ (k : Nat) {a0 : Int} {r : (List Int)} (h : concourseref02_Number.f k a0 = some r), Tr Tryz.prog 66 [eq (.int .i64 a0)] [] (γ := OV) (fun _ => True) (fun g => eq g.1) (fun g => [own (intK .u8) g.1 r])
  | 0, _, _, h => by cases h
  | k + 1, a0, r, h => by
    rw [concourseref02_Number.f] at h
    refine Tr.body Tryz.func66 (c := _) rfl Tryz.ntmps66 (Nat.le_of_ble_eq_true rfl) fun R0 F => ?_
    replace h := Gets.of h
    have H := h
    clear h
    refine WP.seq ?_
    refine WP.reg [(0, false)] (by kernel_rfl) ?_
    refine as0 rfl rfl ?_
    refine .fin ?_
    refine WP.seqn H id (fun p909 : Int => [(0, eq (.int .i64 p909)), (2, eq (.slice none 0 0)), (5, eq (.bool (decide (a0 < 0))))]) (fun p909 : Int => [] ++ F) (fun p909 H => ?_) (fun H => ?_)
    · refine WP.seq ?_
      refine WP.seq ?_
      refine WP.reg [(0, false), (1, false)] (by kernel_rfl) ?_
      refine mv0 rfl rfl ?_
      refine Dv.bin rfl trivial rfl rfl (fun _ => run_lt) ?_
      refine .fin ?_
      refine WP.cond rfl (fun c910 => ?_) (fun c910 => ?_)
      · replace H := Gets.ct H c910
        refine WP.seq ?_
        refine WP.reg [(0, false), (1, false), (2, true), (3, false)] (by kernel_rfl) ?_
        refine mv0 rfl rfl ?_
        refine Dv.cvi rfl trivial rfl Tryz.underlying3 Tryz.underlying5 ?_
        refine Dv.lito (intK .u8) ([IntKind.u8.wrap (p909)] : List Int) (css := [[eq (.int .u8 (IntKind.u8.wrap (p909)))]]) rfl trivial Tryz.underlying81 Tryz.underlying5 c5 z5 rfl (by decide) (by decide) rfl ⟨(cells_one (one_eq rfl)), trivial⟩ rfl rfl rfl nofun (fun v911 => ?_)
        refine as0 rfl rfl ?_
        refine .fin ?_
        obtain rfl := Gets.out H
        exact WP.retL (fun _ _ h => h) rfl v911 trivial (.cons (res_tmp rfl) .nil) rfl (st_seln 1 [0] 0 rfl rfl rfl)
      · replace H := Gets.cf H c910
        refine WP.skip ?_
        refine WP.seq ?_
        refine WP.reg [(0, false), (1, false), (2, false), (3, false), (4, true), (5, false)] (by kernel_rfl) ?_
        refine mv0 rfl rfl ?_
        refine Dv.bin rfl trivial rfl rfl (fun _ => run_rem (by decide)) ?_
        refine Dv.bin rfl trivial rfl rfl (fun _ => run_add) ?_
        refine Dv.cvi rfl trivial rfl Tryz.underlying3 Tryz.underlying5 ?_
        refine Dv.lito (intK .u8) ([IntKind.u8.wrap (w64 (128 + (p909.tmod 128)))] : List Int) (css := [[eq (.int .u8 (IntKind.u8.wrap (w64 (128 + (p909.tmod 128)))))]]) rfl trivial Tryz.underlying81 Tryz.underlying5 c5 z5 rfl (by decide) (by decide) rfl ⟨(cells_one (one_eq rfl)), trivial⟩ rfl rfl rfl nofun (fun v912 => ?_)
        refine as0 rfl rfl ?_
        refine .fin ?_
        refine WP.seq ?_
        refine WP.reg [(0, false), (1, false), (2, false), (3, true), (4, true), (5, false)] (by kernel_rfl) ?_
        refine mv0 rfl rfl ?_
        refine mv0 rfl rfl ?_
        refine Dv.bin rfl trivial rfl rfl (fun _ => run_quo (by decide)) ?_
        obtain ⟨t913, h914, H⟩ := Gets.call H
        refine Dv.callx (pre := []) (F := [own (intK .u8) v912.1 ([IntKind.u8.wrap (w64 (128 + (p909.tmod 128)))] : List Int)] ++ F) (fun g915 : OV => [own (intK .u8) g915.1 t913, own (intK .u8) v912.1 ([IntKind.u8.wrap (w64 (128 + (p909.tmod 128)))] : List Int)] ++ F) rfl trivial cal66 rfl (concourseref02_Number.c k h914) (perm_ton 1 [0] rfl rfl rfl) rfl nofun (fun g915 _ => ?_)
        obtain ⟨g916, H⟩ := Gets.grd H
        refine Dv.appx (jj := 1) (ys := t913) (fun v917 : OV => [own (intK .u8) g915.1 t913, own (intK .u8) v917.1 (([IntKind.u8.wrap (w64 (128 + (p909.tmod 128)))] : List Int) ++ t913)] ++ F) rfl trivial rfl rfl rfl (src_own (mem_at 0 rfl)) Tryz.underlying81 (.inr ⟨_, Tryz.underlying81⟩) inf5 rfl (by decide) g916 rfl nofun (fun v917 => ?_)
        refine as0 rfl rfl ?_
        refine .fin ?_
        obtain rfl := Gets.out H
        exact WP.retL (fun _ _ h => h) rfl v917 trivial (.cons (res_tmp rfl) .nil) rfl (st_seln 2 [0, 1] 1 rfl rfl rfl)
    · refine WP.seq ?_
      refine WP.reg [(0, false), (1, false)] (by kernel_rfl) ?_
      refine mv0 rfl rfl ?_
      refine Dv.bin rfl trivial rfl rfl (fun _ => run_lt) ?_
      refine .fin ?_
      refine WP.cond rfl (fun c918 => ?_) (fun c918 => ?_)
      · replace H := Gets.ct H c918
        refine WP.reg [(0, false)] (by kernel_rfl) ?_
        refine as0 rfl rfl ?_
        refine .fin ?_
        replace H := Gets.out H
        exact Jn.mk 0 H (weak_cons rfl (weak_cons rfl (weak_cons rfl weak_nil))) (List.Perm.refl _)
      · replace H := Gets.cf H c918
        refine WP.skip ?_
        replace H := Gets.out H
        exact Jn.mk a0 H (weak_cons rfl (weak_cons rfl (weak_cons rfl weak_nil))) (List.Perm.refl _)
theorem concourseref02_Text.c {k : Nat} {a0 : ByteArray} {r : (List Int)} (h : concourseref02_Text.f k a0 = some r) : Tr Tryz.prog 67 [eq (.string a0)] [] (γ := OV) (fun _ => True) (fun g => eq g.1) (fun g => [own (intK .u8) g.1 r]) := by
  unfold concourseref02_Text.f at h
  refine Tr.body Tryz.func67 (c := _) rfl Tryz.ntmps67 (Nat.le_of_ble_eq_true rfl) fun R0 F => ?_
  replace h := Gets.of h
  have H := h
  clear h
  refine WP.seq ?_
  refine WP.reg [(0, false)] (by kernel_rfl) ?_
  refine as0 rfl rfl ?_
  refine .fin ?_
  refine WP.seq ?_
  refine WP.reg [(0, false), (1, false), (2, true), (3, false), (4, true), (5, false)] (by kernel_rfl) ?_
  refine mv0 rfl rfl ?_
  refine Dv.lens rfl trivial rfl Tryz.underlying9 ?_
  obtain ⟨t919, h920, H⟩ := Gets.call H
  refine Dv.callx (pre := []) (F := [] ++ F) (fun g921 : OV => [own (intK .u8) g921.1 t919] ++ F) rfl trivial cal66 rfl (concourseref02_Number.c _ h920) (perm_ton 0 [] rfl rfl rfl) rfl nofun (fun g921 _ => ?_)
  refine mv0 rfl rfl ?_
  obtain ⟨g922, H⟩ := Gets.grd H
  refine Dv.appx (jj := 0) (ys := strBs a0) (fun v923 : OV => [own (intK .u8) v923.1 (t919 ++ (strBs a0))] ++ F) rfl trivial rfl rfl rfl src_str Tryz.underlying81 (.inl Tryz.underlying9) inf5 rfl (by decide) g922 rfl nofun (fun v923 => ?_)
  refine as0 rfl rfl ?_
  refine .fin ?_
  obtain rfl := Gets.out H
  exact WP.retL (fun _ _ h => h) rfl v923 trivial (.cons (res_tmp rfl) .nil) rfl (st_seln 1 [0] 0 rfl rfl rfl)
theorem concourseref02_Flag.c {a0 : Bool} {r : (List Int)} (h : concourseref02_Flag.f a0 = some r) : Pt Tryz.prog 68 [eq (.bool a0)] (sl (intK .u8) r) := by
  unfold concourseref02_Flag.f at h
  refine (Tr.body Tryz.func68 (c := _) rfl Tryz.ntmps68 (Nat.le_of_ble_eq_true rfl) fun R0 F => ?_).pt
  replace h := Gets.of h
  have H := h
  clear h
  refine WP.seq ?_
  refine WP.reg [(0, false)] (by kernel_rfl) ?_
  refine as0 rfl rfl ?_
  refine .fin ?_
  refine WP.seq ?_
  refine WP.seq ?_
  refine WP.reg [(0, false)] (by kernel_rfl) ?_
  refine mv0 rfl rfl ?_
  refine .fin ?_
  refine WP.cond rfl (fun c924 => ?_) (fun c924 => ?_)
  · replace H := Gets.ct H c924
    refine WP.seq ?_
    refine WP.reg [(0, false), (1, false)] (by kernel_rfl) ?_
    refine Dv.lit (intK .u8) ([1] : List Int) (css := [[eq (.int .u8 1)]]) rfl trivial Tryz.underlying81 Tryz.underlying5 c5 z5 rfl (by decide) (by decide) rfl ⟨(cells_one (one_eq rfl)), trivial⟩ rfl rfl rfl ?_
    refine as0 rfl rfl ?_
    refine .fin ?_
    obtain rfl := Gets.out H
    exact WP.retL (fun _ _ h => h) rfl () trivial (.cons (res_tmp rfl) .nil) rfl (st_seln 0 [] 0 rfl rfl rfl)
  · replace H := Gets.cf H c924
    refine WP.skip ?_
    refine WP.seq ?_
    refine WP.reg [(0, false), (1, false)] (by kernel_rfl) ?_
    refine Dv.lit (intK .u8) ([0] : List Int) (css := [[eq (.int .u8 0)]]) rfl trivial Tryz.underlying81 Tryz.underlying5 c5 z5 rfl (by decide) (by decide) rfl ⟨(cells_one (one_eq rfl)), trivial⟩ rfl rfl rfl ?_
    refine as0 rfl rfl ?_
    refine .fin ?_
    obtain rfl := Gets.out H
    exact WP.retL (fun _ _ h => h) rfl () trivial (.cons (res_tmp rfl) .nil) rfl (st_seln 0 [] 0 rfl rfl rfl)
end Go.Proofs.YtmbodanckhidiaaGreat
