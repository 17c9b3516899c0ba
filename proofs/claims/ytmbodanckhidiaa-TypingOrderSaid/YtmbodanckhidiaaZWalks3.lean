/- The walks. -/
import Derived.Test.YtmbodanckhidiaaZWalks2
import Derived.Test.YtmbodanckhidiaaConU
import Derived.Eval
set_option linter.all false
set_option maxRecDepth 10000
set_option maxHeartbeats 20000000
namespace Go.Proofs.Ytmbodanckhidiaa
open Go Go.Sp
theorem slices_BinarySearchFunc.c {k : Nat} {a0 : List Edu} {a1 : Edu} {a2 : Edu → Edu → Option Int} {r : Int × Bool} (h : slices_BinarySearchFunc.f k a0 a1 a2 = some r) : Pt Try.prog 43 [sl Edu.K a0, agg (Edu.enc a1), fq52 a2] (tup [eq (.int .i64 r.1), eq (.bool r.2)]) := by
  unfold slices_BinarySearchFunc.f at h
  refine (Tr.body Try.func43 (c := _) rfl Try.ntmps43 (Nat.le_of_ble_eq_true rfl) fun R0 F => ?_).pt
  replace h := Gets.of h
  have H := h
  clear h
  refine WP.seq ?_
  refine WP.reg [(0, true), (1, false), (2, false)] (by kernel_rfl) ?_
  refine Dv.box rfl trivial rfl (cells_agg (Edu.K.one _)) nofun (fun b552 => ?_)
  refine Dv.asg rfl trivial rfl ?_
  refine Dv.asg rfl trivial rfl ?_
  refine .fin ?_
  refine WP.seq ?_
  refine WP.reg [(0, false), (1, false), (2, false)] (by kernel_rfl) ?_
  refine Dv.mv rfl trivial rfl ?_
  refine Dv.lenl rfl trivial rfl Try.underlying22 ?_
  refine Dv.asg rfl trivial rfl ?_
  refine .fin ?_
  refine WP.seq ?_
  refine WP.reg [(0, false), (1, false), (2, false)] (by kernel_rfl) ?_
  refine Dv.mv rfl trivial rfl ?_
  refine Dv.asg rfl trivial rfl ?_
  refine Dv.asg rfl trivial rfl ?_
  refine .fin ?_
  refine WP.seqn H id (fun p553 : Int × Int × Bool => [(0, sl Edu.K a0), (1, agg (Edu.enc a1)), (2, fq52 a2), (4, eq (.pointer (some ⟨b552, 0, none⟩))), (6, eq (.int .i64 0)), (7, eq (.bool false)), (8, eq (.int .i64 (a0.length : Int))), (9, eq (.int .i64 p553.1)), (10, eq (.int .i64 p553.2.1)), (17, eq (.bool p553.2.2))]) (fun p553 : Int × Int × Bool => [blk b552 32 [eq (.int .i64 a1.fKind), eq (.string a1.fRoom), eq (.string a1.fUser), eq (.string a1.fEvent), eq (.string a1.fThread), eq (.bool a1.fPrivate), eq (.bool a1.fOn), eq (.int .i64 a1.fSpan), eq (.int .i64 a1.fState), eq (.int .i64 a1.fTick), eq (.int .i64 a1.fStamp)]] ++ F) (fun p553 H => ?_) (fun H => ?_)
  · refine WP.seq ?_
    refine WP.dreg Try.checked.mixed [(0, false), (1, false), (2, false), (3, false), (4, false), (5, false), (6, false), (7, false), (8, false), (9, false), (10, false), (11, false), (12, false), (13, false), (14, false), (15, false)] (by kernel_rfl) ?_
    refine Dv.mv rfl trivial rfl ?_
    refine Dv.mv rfl trivial rfl ?_
    refine Dv.mv rfl trivial rfl ?_
    refine Dv.bin rfl trivial rfl rfl (fun _ => run_lt) ?_
    refine Dv.mv rfl trivial rfl ?_
    cases c554 : decide (p553.1 < (a0.length : Int))
    · replace H := Gets.cf H c554
      refine Dv.skip rfl ⟨_, _, rfl, rfl, .inl rfl⟩ ?_
      refine Dv.skip rfl ⟨_, _, rfl, rfl, .inl rfl⟩ ?_
      refine Dv.skip rfl ⟨_, _, rfl, rfl, .inl rfl⟩ ?_
      refine Dv.skip rfl ⟨_, _, rfl, rfl, .inl rfl⟩ ?_
      refine Dv.skip rfl ⟨_, _, rfl, rfl, .inl rfl⟩ ?_
      refine Dv.skip rfl ⟨_, _, rfl, rfl, .inl rfl⟩ ?_
      refine Dv.skip rfl ⟨_, _, rfl, rfl, .inl rfl⟩ ?_
      refine Dv.skip rfl ⟨_, _, rfl, rfl, .inl rfl⟩ ?_
      refine Dv.pickF rfl trivial rfl rfl ?_
      refine Dv.asg rfl trivial rfl ?_
      refine Dv.asg rfl trivial rfl ?_
      refine .fin ?_
      obtain rfl := Gets.out H
      exact WP.retL (fun _ _ h => h) rfl () trivial (.cons (res_tmp rfl) (.cons (res_tmp rfl) .nil)) rfl (st_sel (L := [blk b552 32 [eq (.int .i64 a1.fKind), eq (.string a1.fRoom), eq (.string a1.fUser), eq (.string a1.fEvent), eq (.string a1.fThread), eq (.bool a1.fPrivate), eq (.bool a1.fOn), eq (.int .i64 a1.fSpan), eq (.int .i64 a1.fState), eq (.int .i64 a1.fTick), eq (.int .i64 a1.fStamp)]]) (F := F) [0] 1 rfl rfl rfl)
    · replace H := Gets.ct H c554
      refine Dv.mv rfl ⟨_, _, rfl, rfl, rfl⟩ rfl ?_
      refine Dv.mv rfl ⟨_, _, rfl, rfl, rfl⟩ rfl ?_
      refine Dv.mv rfl ⟨_, _, rfl, rfl, rfl⟩ rfl ?_
      obtain ⟨g555, H⟩ := Gets.grd H
      refine Dv.ixr rfl ⟨_, _, rfl, rfl, rfl⟩ rfl rfl Try.underlying22 Try.underlying32 c32 g555.1 g555.2 ?_
      refine Dv.ldrs rfl ⟨_, _, rfl, rfl, rfl⟩ rfl Try.underlying32 rfl c32 (Nat.le_of_ble_eq_true rfl) ?_
      refine Dv.ldbs rfl ⟨_, _, rfl, rfl, rfl⟩ rfl Try.underlying32 rfl c32 (mem_at 0 rfl) (Nat.le_of_ble_eq_true rfl) ?_
      obtain ⟨t556, h557, H⟩ := Gets.call H
      refine Dv.callq (ret := eq (.int .i64 t556)) rfl ⟨_, _, rfl, rfl, rfl⟩ rfl rfl ⟨_, _, _, h557, rfl, rfl⟩ ?_
      refine Dv.bin rfl ⟨_, _, rfl, rfl, rfl⟩ rfl rfl (fun _ => run_eq) ?_
      refine Dv.pickT rfl trivial rfl rfl ?_
      refine Dv.asg rfl trivial rfl ?_
      refine Dv.asg rfl trivial rfl ?_
      refine .fin ?_
      obtain rfl := Gets.out H
      exact WP.retL (fun _ _ h => h) rfl () trivial (.cons (res_tmp rfl) (.cons (res_tmp rfl) .nil)) rfl (st_sel (L := [blk b552 32 [eq (.int .i64 a1.fKind), eq (.string a1.fRoom), eq (.string a1.fUser), eq (.string a1.fEvent), eq (.string a1.fThread), eq (.bool a1.fPrivate), eq (.bool a1.fOn), eq (.int .i64 a1.fSpan), eq (.int .i64 a1.fState), eq (.int .i64 a1.fTick), eq (.int .i64 a1.fStamp)]]) (F := F) [0] 1 rfl rfl rfl)
  · refine WP.block ?_
    refine WP.gh (l' := fun _ => [blk b552 32 [eq (.int .i64 a1.fKind), eq (.string a1.fRoom), eq (.string a1.fUser), eq (.string a1.fEvent), eq (.string a1.fThread), eq (.bool a1.fPrivate), eq (.bool a1.fOn), eq (.int .i64 a1.fSpan), eq (.int .i64 a1.fState), eq (.int .i64 a1.fTick), eq (.int .i64 a1.fStamp)]] ++ F) (gh_of (st_selg (L := [blk b552 32 [eq (.int .i64 a1.fKind), eq (.string a1.fRoom), eq (.string a1.fUser), eq (.string a1.fEvent), eq (.string a1.fThread), eq (.bool a1.fPrivate), eq (.bool a1.fOn), eq (.int .i64 a1.fSpan), eq (.int .i64 a1.fState), eq (.int .i64 a1.fTick), eq (.int .i64 a1.fStamp)]]) (F := F) [0] 0 rfl rfl rfl)) (fun _ _ => ?_)
    refine WP.loopg (fun j_ (p566 : Int × Int) => slices_BinarySearchFunc.l0 k a0 a1 a2 j_ p566.1 p566.2) (0, (a0.length : Int)) H (fun p566 => [(0, sl Edu.K a0), (1, agg (Edu.enc a1)), (2, fq52 a2), (4, eq (.pointer (some ⟨b552, 0, none⟩))), (6, eq (.int .i64 0)), (7, eq (.bool false)), (8, eq (.int .i64 (a0.length : Int))), (9, eq (.int .i64 p566.1)), (10, eq (.int .i64 p566.2))]) (fun p566 => [blk b552 32 [eq (.int .i64 a1.fKind), eq (.string a1.fRoom), eq (.string a1.fUser), eq (.string a1.fEvent), eq (.string a1.fThread), eq (.bool a1.fPrivate), eq (.bool a1.fOn), eq (.int .i64 a1.fSpan), eq (.int .i64 a1.fState), eq (.int .i64 a1.fTick), eq (.int .i64 a1.fStamp)]] ++ F) (weak_cons rfl (weak_cons rfl (weak_cons rfl (weak_cons rfl (weak_cons rfl (weak_cons rfl (weak_cons rfl (weak_cons rfl (weak_cons rfl weak_nil))))))))) (List.Perm.refl _) ?_
    rintro j_ ⟨x558, x559⟩ H
    rcases j_ with _ | j565
    · exact (Gets.no H).elim
    replace H : Gets (slices_BinarySearchFunc.l0 k a0 a1 a2 (j565 + 1) x558 x559) _ := H
    rw [slices_BinarySearchFunc.l0] at H
    refine WP.seq ?_
    refine WP.seq ?_
    refine WP.reg [(0, false), (1, false), (2, false)] (by kernel_rfl) ?_
    refine Dv.mv rfl trivial rfl ?_
    refine Dv.mv rfl trivial rfl ?_
    refine Dv.bin rfl trivial rfl rfl (fun _ => run_lt) ?_
    refine .fin ?_
    refine WP.cond rfl (fun c560 => ?_) (fun c560 => ?_)
    · replace H := Gets.ct H c560
      refine WP.skip ?_
      refine WP.block ?_
      refine WP.seq ?_
      refine WP.reg [(0, false), (1, false), (2, false), (3, false), (4, false), (5, false), (6, false)] (by kernel_rfl) ?_
      refine Dv.mv rfl trivial rfl ?_
      refine Dv.mv rfl trivial rfl ?_
      refine Dv.bin rfl trivial rfl rfl (fun _ => run_add) ?_
      refine Dv.cvi rfl trivial rfl Try.underlying3 Try.underlying94 ?_
      refine Dv.bin rfl trivial rfl rfl (fun _ => run_shr (by decide)) ?_
      refine Dv.cvi rfl trivial rfl Try.underlying94 Try.underlying3 ?_
      refine Dv.asg rfl trivial rfl ?_
      refine .fin ?_
      refine WP.seq ?_
      refine WP.dreg Try.checked.mixed [(0, false), (1, false), (2, false), (3, false), (4, false), (5, false), (6, false), (7, false)] (by kernel_rfl) ?_
      refine Dv.mv rfl trivial rfl ?_
      refine Dv.mv rfl trivial rfl ?_
      refine Dv.mv rfl trivial rfl ?_
      obtain ⟨g561, H⟩ := Gets.grd H
      refine Dv.ixr rfl trivial rfl rfl Try.underlying22 Try.underlying32 c32 g561.1 g561.2 ?_
      refine Dv.ldrs rfl trivial rfl Try.underlying32 rfl c32 (Nat.le_of_ble_eq_true rfl) ?_
      refine Dv.ldbs rfl trivial rfl Try.underlying32 rfl c32 (mem_at 0 rfl) (Nat.le_of_ble_eq_true rfl) ?_
      obtain ⟨t562, h563, H⟩ := Gets.call H
      refine Dv.callq (ret := eq (.int .i64 t562)) rfl trivial rfl rfl ⟨_, _, _, h563, rfl, rfl⟩ ?_
      refine Dv.bin rfl trivial rfl rfl (fun _ => run_lt) ?_
      refine .fin ?_
      refine WP.cond rfl (fun c564 => ?_) (fun c564 => ?_)
      · replace H := Gets.ct H c564
        refine WP.reg [(0, false), (1, false), (2, false)] (by kernel_rfl) ?_
        refine Dv.mv rfl trivial rfl ?_
        refine Dv.bin rfl trivial rfl rfl (fun _ => run_add) ?_
        refine Dv.asg rfl trivial rfl ?_
        refine .fin ?_
        exact Back.mk j565 (w64 ((w64 ((IntKind.u64.wrap (w64 (x558 + x559))).fdiv 2)) + 1), x559) (Nat.lt_succ_self _) H (weak_cons rfl (weak_cons rfl (weak_cons rfl (weak_cons rfl (weak_cons rfl (weak_cons rfl (weak_cons rfl (weak_cons rfl (weak_cons rfl weak_nil))))))))) (List.Perm.refl _)
      · replace H := Gets.cf H c564
        refine WP.reg [(0, false), (1, false)] (by kernel_rfl) ?_
        refine Dv.mv rfl trivial rfl ?_
        refine Dv.asg rfl trivial rfl ?_
        refine .fin ?_
        exact Back.mk j565 (x558, w64 ((IntKind.u64.wrap (w64 (x558 + x559))).fdiv 2)) (Nat.lt_succ_self _) H (weak_cons rfl (weak_cons rfl (weak_cons rfl (weak_cons rfl (weak_cons rfl (weak_cons rfl (weak_cons rfl (weak_cons rfl (weak_cons rfl weak_nil))))))))) (List.Perm.refl _)
    · replace H := Gets.cf H c560
      refine WP.exit ?_
      replace H := Gets.out H
      exact Jn.mk (x558, x559, decide (x558 < x559)) H (weak_cons rfl (weak_cons rfl (weak_cons rfl (weak_cons rfl (weak_cons rfl (weak_cons rfl (weak_cons rfl (weak_cons rfl (weak_cons rfl (weak_cons rfl weak_nil)))))))))) (List.Perm.refl _)
theorem cmp_Or.c {k : Nat} {a0 : List Int} {r : Int} (h : cmp_Or.f k a0 = some r) : Pt Try.prog 45 [sl (intK .i64) a0] (eq (.int .i64 r)) := by
  unfold cmp_Or.f at h
  refine (Tr.body Try.func45 (c := _) rfl Try.ntmps45 (Nat.le_of_ble_eq_true rfl) fun R0 F => ?_).pt
  replace h := Gets.of h
  have H := h
  clear h
  refine WP.seq ?_
  refine WP.reg [(0, false)] (by kernel_rfl) ?_
  refine Dv.asg rfl trivial rfl ?_
  refine .fin ?_
  refine WP.seq ?_
  refine WP.reg [(0, false)] (by kernel_rfl) ?_
  refine Dv.asg rfl trivial rfl ?_
  refine .fin ?_
  refine WP.seqr H id (fun p567 : Int × Bool => [(0, sl (intK .i64) a0), (2, eq (.int .i64 0)), (3, eq (.int .i64 0)), (6, sl (intK .i64) a0), (7, eq (.int .i64 (a0.length : Int))), (8, eq (.int .i64 p567.1)), (9, eq (.bool p567.2))]) (fun p567 : Int × Bool => [] ++ F) (fun p567 H => ?_) (fun H => ?_)
  · refine WP.seq ?_
    refine WP.reg [(0, false), (1, false)] (by kernel_rfl) ?_
    refine Dv.mv rfl trivial rfl ?_
    refine Dv.asg rfl trivial rfl ?_
    refine .fin ?_
    obtain rfl := Gets.out H
    exact WP.retL (fun _ _ h => h) rfl () trivial (.cons (res_tmp rfl) .nil) rfl (st_sel (L := []) (F := F) [] 0 rfl rfl rfl)
  · refine WP.seq ?_
    refine WP.reg [(0, false), (1, false), (2, false)] (by kernel_rfl) ?_
    refine Dv.mv rfl trivial rfl ?_
    refine Dv.lenl rfl trivial rfl Try.underlying38 ?_
    refine Dv.mv rfl trivial rfl ?_
    refine .fin ?_
    refine WP.block ?_
    refine WP.gh (l' := fun _ => [] ++ F) (gh_of (st_selg (L := []) (F := F) [] 0 rfl rfl rfl)) (fun _ _ => ?_)
    refine WP.loopg (fun j_ (p573 : Int) => cmp_Or.l0 k a0 j_ p573) 0 H (fun p573 => [(0, sl (intK .i64) a0), (2, eq (.int .i64 0)), (3, eq (.int .i64 0)), (6, sl (intK .i64) a0), (7, eq (.int .i64 (a0.length : Int))), (8, eq (.int .i64 p573))]) (fun p573 => [] ++ F) (weak_cons rfl (weak_cons rfl (weak_cons rfl (weak_cons rfl (weak_cons rfl (weak_cons rfl weak_nil)))))) (List.Perm.refl _) ?_
    rintro j_ x568 H
    rcases j_ with _ | j572
    · exact (Gets.no H).elim
    replace H : Gets (cmp_Or.l0 k a0 (j572 + 1) x568) _ := H
    rw [cmp_Or.l0] at H
    refine WP.seq ?_
    refine WP.reg [(0, false)] (by kernel_rfl) ?_
    refine Dv.bin rfl trivial rfl rfl (fun _ => run_lt) ?_
    refine .fin ?_
    refine WP.seq ?_
    refine WP.cond rfl (fun c569 => ?_) (fun c569 => ?_)
    · replace H := Gets.ct H c569
      refine WP.skip ?_
      refine WP.seq ?_
      refine WP.block ?_
      refine WP.seq ?_
      refine WP.reg [(0, false), (1, false), (2, false)] (by kernel_rfl) ?_
      obtain ⟨g570, H⟩ := Gets.grd H
      refine Dv.ixr rfl trivial rfl rfl Try.underlying38 Try.underlying3 c3 g570.1 g570.2 ?_
      refine Dv.ldr rfl trivial rfl Try.underlying3 rfl rfl ?_
      refine Dv.asg rfl trivial rfl ?_
      refine .fin ?_
      refine WP.seq ?_
      refine WP.reg [(0, false), (1, false), (2, false)] (by kernel_rfl) ?_
      refine Dv.mv rfl trivial rfl ?_
      refine Dv.mv rfl trivial rfl ?_
      refine Dv.bin rfl trivial rfl rfl (fun _ => run_ne) ?_
      refine .fin ?_
      refine WP.cond rfl (fun c571 => ?_) (fun c571 => ?_)
      · replace H := Gets.ct H c571
        refine WP.seq ?_
        refine WP.reg [(0, false), (1, false)] (by kernel_rfl) ?_
        refine Dv.mv rfl trivial rfl ?_
        refine Dv.asg rfl trivial rfl ?_
        refine .fin ?_
        replace H := Gets.outr H
        obtain rfl := Gets.out H
        exact WP.retL (fun _ _ h => h) rfl () trivial (.cons (res_tmp rfl) .nil) rfl (st_sel (L := []) (F := F) [] 0 rfl rfl rfl)
      · replace H := Gets.cf H c571
        refine WP.skip ?_
        refine WP.reg [(0, false), (1, false)] (by kernel_rfl) ?_
        refine Dv.bin rfl trivial rfl rfl (fun _ => run_add) ?_
        refine Dv.mv rfl trivial rfl ?_
        refine .fin ?_
        exact Back.mk j572 (w64 (x568 + 1)) (Nat.lt_succ_self _) H (weak_cons rfl (weak_cons rfl (weak_cons rfl (weak_cons rfl (weak_cons rfl (weak_cons rfl weak_nil)))))) (List.Perm.refl _)
    · replace H := Gets.cf H c569
      refine WP.exit ?_
      replace H := Gets.out H
      exact Jn.mk (x568, decide (x568 < (a0.length : Int))) H (weak_cons rfl (weak_cons rfl (weak_cons rfl (weak_cons rfl (weak_cons rfl (weak_cons rfl (weak_cons rfl weak_nil))))))) (List.Perm.refl _)
theorem cmp_isNaN.c {a0 : ByteArray} {r : Bool} (h : cmp_isNaN.f a0 = some r) : Pt Try.prog 65 [eq (.string a0)] (eq (.bool r)) := by
  unfold cmp_isNaN.f at h
  refine (Tr.body Try.func65 (c := _) rfl Try.ntmps65 (Nat.le_of_ble_eq_true rfl) fun R0 F => ?_).pt
  replace h := Gets.of h
  have H := h
  clear h
  refine WP.seq ?_
  refine WP.reg [(0, false)] (by kernel_rfl) ?_
  refine Dv.asg rfl trivial rfl ?_
  refine .fin ?_
  refine WP.seq ?_
  refine WP.reg [(0, false), (1, false), (2, false), (3, false)] (by kernel_rfl) ?_
  refine Dv.mv rfl trivial rfl ?_
  refine Dv.mv rfl trivial rfl ?_
  refine Dv.bin rfl trivial rfl rfl (fun _ => run_sne) ?_
  refine Dv.asg rfl trivial rfl ?_
  refine .fin ?_
  obtain rfl := Gets.out H
  exact WP.retL (fun _ _ h => h) rfl () trivial (.cons (res_tmp rfl) .nil) rfl (st_sel (L := []) (F := F) [] 0 rfl rfl rfl)
theorem cmp_Compare.c {a0 : ByteArray} {a1 : ByteArray} {r : Int} (h : cmp_Compare.f a0 a1 = some r) : Pt Try.prog 46 [eq (.string a0), eq (.string a1)] (eq (.int .i64 r)) := by
  unfold cmp_Compare.f at h
  refine (Tr.body Try.func46 (c := _) rfl Try.ntmps46 (Nat.le_of_ble_eq_true rfl) fun R0 F => ?_).pt
  replace h := Gets.of h
  have H := h
  clear h
  refine WP.seq ?_
  refine WP.reg [(0, false)] (by kernel_rfl) ?_
  refine Dv.asg rfl trivial rfl ?_
  refine .fin ?_
  refine WP.seq ?_
  refine WP.reg [(0, false), (1, false), (2, false)] (by kernel_rfl) ?_
  refine Dv.mv rfl trivial rfl ?_
  obtain ⟨t574, h575, H⟩ := Gets.call H
  refine Dv.call rfl trivial cal65 rfl (cmp_isNaN.c h575) ?_
  refine Dv.asg rfl trivial rfl ?_
  refine .fin ?_
  refine WP.seq ?_
  refine WP.reg [(0, false), (1, false), (2, false)] (by kernel_rfl) ?_
  refine Dv.mv rfl trivial rfl ?_
  obtain ⟨t576, h577, H⟩ := Gets.call H
  refine Dv.call rfl trivial cal65 rfl (cmp_isNaN.c h577) ?_
  refine Dv.asg rfl trivial rfl ?_
  refine .fin ?_
  refine WP.seq ?_
  refine WP.seq ?_
  refine WP.reg [(0, false)] (by kernel_rfl) ?_
  refine Dv.mv rfl trivial rfl ?_
  refine .fin ?_
  refine WP.cond rfl (fun c578 => ?_) (fun c578 => ?_)
  · replace H := Gets.ct H c578
    refine WP.seq ?_
    refine WP.seq ?_
    refine WP.reg [(0, false)] (by kernel_rfl) ?_
    refine Dv.mv rfl trivial rfl ?_
    refine .fin ?_
    refine WP.cond rfl (fun c579 => ?_) (fun c579 => ?_)
    · replace H := Gets.ct H c579
      refine WP.seq ?_
      refine WP.reg [(0, false)] (by kernel_rfl) ?_
      refine Dv.asg rfl trivial rfl ?_
      refine .fin ?_
      obtain rfl := Gets.out H
      exact WP.retL (fun _ _ h => h) rfl () trivial (.cons (res_tmp rfl) .nil) rfl (st_sel (L := []) (F := F) [] 0 rfl rfl rfl)
    · replace H := Gets.cf H c579
      refine WP.skip ?_
      refine WP.seq ?_
      refine WP.reg [(0, false)] (by kernel_rfl) ?_
      refine Dv.asg rfl trivial rfl ?_
      refine .fin ?_
      obtain rfl := Gets.out H
      exact WP.retL (fun _ _ h => h) rfl () trivial (.cons (res_tmp rfl) .nil) rfl (st_sel (L := []) (F := F) [] 0 rfl rfl rfl)
  · replace H := Gets.cf H c578
    refine WP.skip ?_
    refine WP.seq ?_
    refine WP.seq ?_
    refine WP.reg [(0, false)] (by kernel_rfl) ?_
    refine Dv.mv rfl trivial rfl ?_
    refine .fin ?_
    refine WP.cond rfl (fun c580 => ?_) (fun c580 => ?_)
    · replace H := Gets.ct H c580
      refine WP.seq ?_
      refine WP.reg [(0, false)] (by kernel_rfl) ?_
      refine Dv.asg rfl trivial rfl ?_
      refine .fin ?_
      obtain rfl := Gets.out H
      exact WP.retL (fun _ _ h => h) rfl () trivial (.cons (res_tmp rfl) .nil) rfl (st_sel (L := []) (F := F) [] 0 rfl rfl rfl)
    · replace H := Gets.cf H c580
      refine WP.skip ?_
      refine WP.seq ?_
      refine WP.seq ?_
      refine WP.reg [(0, false), (1, false), (2, false)] (by kernel_rfl) ?_
      refine Dv.mv rfl trivial rfl ?_
      refine Dv.mv rfl trivial rfl ?_
      refine Dv.bin rfl trivial rfl rfl (fun _ => run_slt) ?_
      refine .fin ?_
      refine WP.cond rfl (fun c581 => ?_) (fun c581 => ?_)
      · replace H := Gets.ct H c581
        refine WP.seq ?_
        refine WP.reg [(0, false)] (by kernel_rfl) ?_
        refine Dv.asg rfl trivial rfl ?_
        refine .fin ?_
        obtain rfl := Gets.out H
        exact WP.retL (fun _ _ h => h) rfl () trivial (.cons (res_tmp rfl) .nil) rfl (st_sel (L := []) (F := F) [] 0 rfl rfl rfl)
      · replace H := Gets.cf H c581
        refine WP.skip ?_
        refine WP.seq ?_
        refine WP.seq ?_
        refine WP.reg [(0, false), (1, false), (2, false)] (by kernel_rfl) ?_
        refine Dv.mv rfl trivial rfl ?_
        refine Dv.mv rfl trivial rfl ?_
        refine Dv.bin rfl trivial rfl rfl (fun _ => run_sgt) ?_
        refine .fin ?_
        refine WP.cond rfl (fun c582 => ?_) (fun c582 => ?_)
        · replace H := Gets.ct H c582
          refine WP.seq ?_
          refine WP.reg [(0, false)] (by kernel_rfl) ?_
          refine Dv.asg rfl trivial rfl ?_
          refine .fin ?_
          obtain rfl := Gets.out H
          exact WP.retL (fun _ _ h => h) rfl () trivial (.cons (res_tmp rfl) .nil) rfl (st_sel (L := []) (F := F) [] 0 rfl rfl rfl)
        · replace H := Gets.cf H c582
          refine WP.skip ?_
          refine WP.seq ?_
          refine WP.reg [(0, false)] (by kernel_rfl) ?_
          refine Dv.asg rfl trivial rfl ?_
          refine .fin ?_
          obtain rfl := Gets.out H
          exact WP.retL (fun _ _ h => h) rfl () trivial (.cons (res_tmp rfl) .nil) rfl (st_sel (L := []) (F := F) [] 0 rfl rfl rfl)
theorem typing_Table_place_1.c {k : Nat} {a0 : Edu} {a1 : Edu} {r : Int} (h : typing_Table_place_1.f k a0 a1 = some r) : Pt Try.prog 44 [agg (Edu.enc a0), agg (Edu.enc a1)] (eq (.int .i64 r)) := by
  unfold typing_Table_place_1.f at h
  refine (Tr.body Try.func44 (c := _) rfl Try.ntmps44 (Nat.le_of_ble_eq_true rfl) fun R0 F => ?_).pt
  replace h := Gets.of h
  have H := h
  clear h
  refine WP.seq ?_
  refine WP.reg [(0, true), (1, true), (2, false)] (by kernel_rfl) ?_
  refine Dv.box rfl trivial rfl (cells_agg (Edu.K.one _)) nofun (fun b583 => ?_)
  refine Dv.box rfl trivial rfl (cells_agg (Edu.K.one _)) nofun (fun b584 => ?_)
  refine Dv.asg rfl trivial rfl ?_
  refine .fin ?_
  refine WP.seq ?_
  refine WP.dreg Try.checked.mixed [(0, false), (1, false), (2, false), (3, false), (4, false), (5, false), (6, false), (7, false), (8, false), (9, false), (10, false), (11, false), (12, false)] (by kernel_rfl) ?_
  refine Dv.fab rfl trivial rfl Try.underlying32 rfl Try.underlying9 c9 (by decide) ?_
  refine Dv.ldb rfl trivial rfl Try.underlying9 rfl (mem_at 1 rfl) rfl ?_
  refine Dv.fab rfl trivial rfl Try.underlying32 rfl Try.underlying9 c9 (by decide) ?_
  refine Dv.ldb rfl trivial rfl Try.underlying9 rfl (mem_at 0 rfl) rfl ?_
  obtain ⟨t585, h586, H⟩ := Gets.call H
  refine Dv.call rfl trivial cal46 rfl (cmp_Compare.c h586) ?_
  refine Dv.fab rfl trivial rfl Try.underlying32 rfl Try.underlying9 c9 (by decide) ?_
  refine Dv.ldb rfl trivial rfl Try.underlying9 rfl (mem_at 1 rfl) rfl ?_
  refine Dv.fab rfl trivial rfl Try.underlying32 rfl Try.underlying9 c9 (by decide) ?_
  refine Dv.ldb rfl trivial rfl Try.underlying9 rfl (mem_at 0 rfl) rfl ?_
  obtain ⟨t587, h588, H⟩ := Gets.call H
  refine Dv.call rfl trivial cal46 rfl (cmp_Compare.c h588) ?_
  refine Dv.lit (intK .i64) ([t585, t587] : List Int) (css := [[eq (.int .i64 t585)], [eq (.int .i64 t587)]]) rfl trivial Try.underlying38 Try.underlying3 c3 z3 rfl (by decide) (by decide) rfl ⟨(cells_one (one_eq rfl)), ⟨(cells_one (one_eq rfl)), trivial⟩⟩ rfl rfl rfl ?_
  obtain ⟨t589, h590, H⟩ := Gets.call H
  refine Dv.call rfl trivial cal45 rfl (cmp_Or.c h590) ?_
  refine Dv.asg rfl trivial rfl ?_
  refine .fin ?_
  obtain rfl := Gets.out H
  exact WP.retL (fun _ _ h => h) rfl () trivial (.cons (res_tmp rfl) .nil) rfl (st_sel (L := [blk b584 32 [eq (.int .i64 a1.fKind), eq (.string a1.fRoom), eq (.string a1.fUser), eq (.string a1.fEvent), eq (.string a1.fThread), eq (.bool a1.fPrivate), eq (.bool a1.fOn), eq (.int .i64 a1.fSpan), eq (.int .i64 a1.fState), eq (.int .i64 a1.fTick), eq (.int .i64 a1.fStamp)], blk b583 32 [eq (.int .i64 a0.fKind), eq (.string a0.fRoom), eq (.string a0.fUser), eq (.string a0.fEvent), eq (.string a0.fThread), eq (.bool a0.fPrivate), eq (.bool a0.fOn), eq (.int .i64 a0.fSpan), eq (.int .i64 a0.fState), eq (.int .i64 a0.fTick), eq (.int .i64 a0.fStamp)]]) (F := F) [0, 1] 2 rfl rfl rfl)
theorem typing_Table_place.c {k : Nat} {a0 : TTab} {a1 : Edu} {v0_0 v0_1 : OV} {b0_ : Nat} {r : Int × Bool} (h : typing_Table_place.f k a0 a1 = some r) : Tr Try.prog 29 [eq (.pointer (some ⟨b0_, 0, none⟩)), agg (Edu.enc a1)] [blk b0_ 59 [eq v0_0.1, eq v0_1.1], own Edu.K v0_0.1 a0.fl] (γ := Unit) (fun _ => True) (fun g => tup [eq (.int .i64 r.1), eq (.bool r.2)]) (fun g => [blk b0_ 59 [eq v0_0.1, eq v0_1.1], own Edu.K v0_0.1 a0.fl]) := by
  unfold typing_Table_place.f at h
  refine Tr.body Try.func29 (c := _) rfl Try.ntmps29 (Nat.le_of_ble_eq_true rfl) fun R0 F => ?_
  replace h := Gets.of h
  have H := h
  clear h
  refine WP.seq ?_
  refine WP.reg [(0, true), (1, false), (2, false)] (by kernel_rfl) ?_
  refine Dv.box rfl trivial rfl (cells_agg (Edu.K.one _)) nofun (fun b591 => ?_)
  refine Dv.asg rfl trivial rfl ?_
  refine Dv.asg rfl trivial rfl ?_
  refine .fin ?_
  refine WP.seq ?_
  refine WP.dreg Try.checked.mixed [(0, false), (1, false), (2, false), (3, false), (4, false), (5, false), (6, false), (7, false), (8, false), (9, false)] (by kernel_rfl) ?_
  refine Dv.mv rfl trivial rfl ?_
  refine Dv.nilp rfl trivial rfl ?_
  refine Dv.fab rfl trivial rfl Try.underlying59 rfl Try.underlying22 c22 (by decide) ?_
  refine Dv.ldb rfl trivial rfl Try.underlying22 rfl (mem_at 1 rfl) rfl ?_
  refine Dv.ldbs rfl trivial rfl Try.underlying32 rfl c32 (mem_at 0 rfl) (Nat.le_of_ble_eq_true rfl) ?_
  obtain ⟨t592, h593, H⟩ := Gets.call H
  refine Dv.calll (B := [own Edu.K v0_0.1 a0.fl]) (F := [blk b591 32 [eq (.int .i64 a1.fKind), eq (.string a1.fRoom), eq (.string a1.fUser), eq (.string a1.fEvent), eq (.string a1.fThread), eq (.bool a1.fPrivate), eq (.bool a1.fOn), eq (.int .i64 a1.fSpan), eq (.int .i64 a1.fState), eq (.int .i64 a1.fTick), eq (.int .i64 a1.fStamp)], blk b0_ 59 [eq v0_0.1, eq v0_1.1]] ++ F) rfl trivial cal43 rfl (Pt.lend _ (Pt.weak (slices_BinarySearchFunc.c h593) (.cons wk_id (.cons wk_id (.cons (wk_fn cal44 (by rintro _ _ ⟨a0_, a1_, r_, h_, rfl, rfl⟩; exact typing_Table_place_1.c h_)) .nil)))) (.cons (lt_own (mem_at 0 rfl)) (.cons lt_id (.cons lt_id .nil))) (flat_tup (flats_cons flat_eq (flats_cons flat_eq flats_nil)))) (perm_to (L := [blk b591 32 [eq (.int .i64 a1.fKind), eq (.string a1.fRoom), eq (.string a1.fUser), eq (.string a1.fEvent), eq (.string a1.fThread), eq (.bool a1.fPrivate), eq (.bool a1.fOn), eq (.int .i64 a1.fSpan), eq (.int .i64 a1.fState), eq (.int .i64 a1.fTick), eq (.int .i64 a1.fStamp)], blk b0_ 59 [eq v0_0.1, eq v0_1.1], own Edu.K v0_0.1 a0.fl]) (F := F) [2, 0, 1] rfl rfl rfl) ?_
  refine Dv.ext rfl trivial rfl rfl ?_
  refine Dv.ext rfl trivial rfl rfl ?_
  refine Dv.asg rfl trivial rfl ?_
  refine Dv.asg rfl trivial rfl ?_
  refine .fin ?_
  obtain rfl := Gets.out H
  exact WP.retL (fun _ _ h => h) rfl () trivial (.cons (res_tmp rfl) (.cons (res_tmp rfl) .nil)) rfl (st_sel (L := [blk b591 32 [eq (.int .i64 a1.fKind), eq (.string a1.fRoom), eq (.string a1.fUser), eq (.string a1.fEvent), eq (.string a1.fThread), eq (.bool a1.fPrivate), eq (.bool a1.fOn), eq (.int .i64 a1.fSpan), eq (.int .i64 a1.fState), eq (.int .i64 a1.fTick), eq (.int .i64 a1.fStamp)], blk b0_ 59 [eq v0_0.1, eq v0_1.1], own Edu.K v0_0.1 a0.fl]) (F := F) [0, 1, 2] 1 rfl rfl rfl)
theorem edu_Of.c {a0 : Edu} {r : EKey} (h : edu_Of.f a0 = some r) : Pt Try.prog 47 [agg (Edu.enc a0)] (agg (EKey.enc r)) := by
  unfold edu_Of.f at h
  refine (Tr.body Try.func47 (c := _) rfl Try.ntmps47 (Nat.le_of_ble_eq_true rfl) fun R0 F => ?_).pt
  replace h := Gets.of h
  have H := h
  clear h
  refine WP.seq ?_
  refine WP.reg [(0, true), (1, true)] (by kernel_rfl) ?_
  refine Dv.box rfl trivial rfl (cells_agg (Edu.K.one _)) nofun (fun b594 => ?_)
  refine Dv.alloc (z := .agg #[.int .i64 0, .string ⟨#[]⟩, .string ⟨#[]⟩, .string ⟨#[]⟩, .bool false]) (qs := [eq (.int .i64 0), eq (.string (⟨#[]⟩ : ByteArray)), eq (.string (⟨#[]⟩ : ByteArray)), eq (.string (⟨#[]⟩ : ByteArray)), eq (.bool false)]) rfl trivial z82 rfl nofun (fun b595 => ?_)
  refine .fin ?_
  refine WP.seq ?_
  refine WP.reg [(0, false), (1, false), (2, false), (3, false), (4, false), (5, false), (6, false), (7, false), (8, false), (9, false), (10, false), (11, true)] (by kernel_rfl) ?_
  refine Dv.fab rfl trivial rfl Try.underlying32 rfl Try.underlying3 c3 (by decide) ?_
  refine Dv.ldb rfl trivial rfl Try.underlying3 rfl (mem_at 1 rfl) rfl ?_
  refine Dv.fab rfl trivial rfl Try.underlying32 rfl Try.underlying9 c9 (by decide) ?_
  refine Dv.ldb rfl trivial rfl Try.underlying9 rfl (mem_at 1 rfl) rfl ?_
  refine Dv.fab rfl trivial rfl Try.underlying32 rfl Try.underlying9 c9 (by decide) ?_
  refine Dv.ldb rfl trivial rfl Try.underlying9 rfl (mem_at 1 rfl) rfl ?_
  refine Dv.fab rfl trivial rfl Try.underlying32 rfl Try.underlying9 c9 (by decide) ?_
  refine Dv.ldb rfl trivial rfl Try.underlying9 rfl (mem_at 1 rfl) rfl ?_
  refine Dv.fab rfl trivial rfl Try.underlying32 rfl Try.underlying4 c4 (by decide) ?_
  refine Dv.ldb rfl trivial rfl Try.underlying4 rfl (mem_at 1 rfl) rfl ?_
  refine Dv.bld (css := [[eq (.int .i64 a0.fKind)], [eq (.string a0.fRoom)], [eq (.string a0.fUser)], [eq (.string a0.fThread)], [eq (.bool a0.fPrivate)]]) rfl trivial Try.underlying82 pl82 z82 rfl ⟨(cells_one (one_eq rfl)), ⟨(cells_one (one_eq rfl)), ⟨(cells_one (one_eq rfl)), ⟨(cells_one (one_eq rfl)), ⟨(cells_one (one_eq rfl)), trivial⟩⟩⟩⟩⟩ rfl rfl ?_
  refine Dv.stx ([blk b595 82 [eq (.int .i64 a0.fKind), eq (.string a0.fRoom), eq (.string a0.fUser), eq (.string a0.fThread), eq (.bool a0.fPrivate)], blk b594 32 [eq (.int .i64 a0.fKind), eq (.string a0.fRoom), eq (.string a0.fUser), eq (.string a0.fEvent), eq (.string a0.fThread), eq (.bool a0.fPrivate), eq (.bool a0.fOn), eq (.int .i64 a0.fSpan), eq (.int .i64 a0.fState), eq (.int .i64 a0.fTick), eq (.int .i64 a0.fStamp)]] ++ F) rfl trivial rfl rfl (cells_agg (ones_cons (one_eq rfl) (ones_cons (one_eq rfl) (ones_cons (one_eq rfl) (ones_cons (one_eq rfl) (ones_cons (one_eq rfl) ones_nil)))))) Try.underlying82 c82 rfl (j := 0) rfl (Nat.le_of_ble_eq_true rfl) rfl nofun ?_
  refine .fin ?_
  obtain rfl := Gets.out H
  exact WP.retL (fun _ _ h => h) rfl () trivial (.cons (res_cells rfl Try.underlying82 rfl c82 (mem_at 0 rfl) rfl) .nil) rfl (st_sel (L := [blk b595 82 [eq (.int .i64 a0.fKind), eq (.string a0.fRoom), eq (.string a0.fUser), eq (.string a0.fThread), eq (.bool a0.fPrivate)], blk b594 32 [eq (.int .i64 a0.fKind), eq (.string a0.fRoom), eq (.string a0.fUser), eq (.string a0.fEvent), eq (.string a0.fThread), eq (.bool a0.fPrivate), eq (.bool a0.fOn), eq (.int .i64 a0.fSpan), eq (.int .i64 a0.fState), eq (.int .i64 a0.fTick), eq (.int .i64 a0.fStamp)]]) (F := F) [0, 1] 2 rfl rfl rfl)
theorem cmp_isNaN_84.c {a0 : Int} {r : Bool} (h : cmp_isNaN_84.f a0 = some r) : Pt Try.prog 84 [eq (.int .i64 a0)] (eq (.bool r)) := by
  unfold cmp_isNaN_84.f at h
  refine (Tr.body Try.func84 (c := _) rfl Try.ntmps84 (Nat.le_of_ble_eq_true rfl) fun R0 F => ?_).pt
  replace h := Gets.of h
  have H := h
  clear h
  refine WP.seq ?_
  refine WP.reg [(0, false)] (by kernel_rfl) ?_
  refine Dv.asg rfl trivial rfl ?_
  refine .fin ?_
  refine WP.seq ?_
  refine WP.reg [(0, false), (1, false), (2, false), (3, false)] (by kernel_rfl) ?_
  refine Dv.mv rfl trivial rfl ?_
  refine Dv.mv rfl trivial rfl ?_
  refine Dv.bin rfl trivial rfl rfl (fun _ => run_ne) ?_
  refine Dv.asg rfl trivial rfl ?_
  refine .fin ?_
  obtain rfl := Gets.out H
  exact WP.retL (fun _ _ h => h) rfl () trivial (.cons (res_tmp rfl) .nil) rfl (st_sel (L := []) (F := F) [] 0 rfl rfl rfl)
theorem cmp_Compare_66.c {a0 : Int} {a1 : Int} {r : Int} (h : cmp_Compare_66.f a0 a1 = some r) : Pt Try.prog 66 [eq (.int .i64 a0), eq (.int .i64 a1)] (eq (.int .i64 r)) := by
  unfold cmp_Compare_66.f at h
  refine (Tr.body Try.func66 (c := _) rfl Try.ntmps66 (Nat.le_of_ble_eq_true rfl) fun R0 F => ?_).pt
  replace h := Gets.of h
  have H := h
  clear h
  refine WP.seq ?_
  refine WP.reg [(0, false)] (by kernel_rfl) ?_
  refine Dv.asg rfl trivial rfl ?_
  refine .fin ?_
  refine WP.seq ?_
  refine WP.reg [(0, false), (1, false), (2, false)] (by kernel_rfl) ?_
  refine Dv.mv rfl trivial rfl ?_
  obtain ⟨t596, h597, H⟩ := Gets.call H
  refine Dv.call rfl trivial cal84 rfl (cmp_isNaN_84.c h597) ?_
  refine Dv.asg rfl trivial rfl ?_
  refine .fin ?_
  refine WP.seq ?_
  refine WP.reg [(0, false), (1, false), (2, false)] (by kernel_rfl) ?_
  refine Dv.mv rfl trivial rfl ?_
  obtain ⟨t598, h599, H⟩ := Gets.call H
  refine Dv.call rfl trivial cal84 rfl (cmp_isNaN_84.c h599) ?_
  refine Dv.asg rfl trivial rfl ?_
  refine .fin ?_
  refine WP.seq ?_
  refine WP.seq ?_
  refine WP.reg [(0, false)] (by kernel_rfl) ?_
  refine Dv.mv rfl trivial rfl ?_
  refine .fin ?_
  refine WP.cond rfl (fun c600 => ?_) (fun c600 => ?_)
  · replace H := Gets.ct H c600
    refine WP.seq ?_
    refine WP.seq ?_
    refine WP.reg [(0, false)] (by kernel_rfl) ?_
    refine Dv.mv rfl trivial rfl ?_
    refine .fin ?_
    refine WP.cond rfl (fun c601 => ?_) (fun c601 => ?_)
    · replace H := Gets.ct H c601
      refine WP.seq ?_
      refine WP.reg [(0, false)] (by kernel_rfl) ?_
      refine Dv.asg rfl trivial rfl ?_
      refine .fin ?_
      obtain rfl := Gets.out H
      exact WP.retL (fun _ _ h => h) rfl () trivial (.cons (res_tmp rfl) .nil) rfl (st_sel (L := []) (F := F) [] 0 rfl rfl rfl)
    · replace H := Gets.cf H c601
      refine WP.skip ?_
      refine WP.seq ?_
      refine WP.reg [(0, false)] (by kernel_rfl) ?_
      refine Dv.asg rfl trivial rfl ?_
      refine .fin ?_
      obtain rfl := Gets.out H
      exact WP.retL (fun _ _ h => h) rfl () trivial (.cons (res_tmp rfl) .nil) rfl (st_sel (L := []) (F := F) [] 0 rfl rfl rfl)
  · replace H := Gets.cf H c600
    refine WP.skip ?_
    refine WP.seq ?_
    refine WP.seq ?_
    refine WP.reg [(0, false)] (by kernel_rfl) ?_
    refine Dv.mv rfl trivial rfl ?_
    refine .fin ?_
    refine WP.cond rfl (fun c602 => ?_) (fun c602 => ?_)
    · replace H := Gets.ct H c602
      refine WP.seq ?_
      refine WP.reg [(0, false)] (by kernel_rfl) ?_
      refine Dv.asg rfl trivial rfl ?_
      refine .fin ?_
      obtain rfl := Gets.out H
      exact WP.retL (fun _ _ h => h) rfl () trivial (.cons (res_tmp rfl) .nil) rfl (st_sel (L := []) (F := F) [] 0 rfl rfl rfl)
    · replace H := Gets.cf H c602
      refine WP.skip ?_
      refine WP.seq ?_
      refine WP.seq ?_
      refine WP.reg [(0, false), (1, false), (2, false)] (by kernel_rfl) ?_
      refine Dv.mv rfl trivial rfl ?_
      refine Dv.mv rfl trivial rfl ?_
      refine Dv.bin rfl trivial rfl rfl (fun _ => run_lt) ?_
      refine .fin ?_
      refine WP.cond rfl (fun c603 => ?_) (fun c603 => ?_)
      · replace H := Gets.ct H c603
        refine WP.seq ?_
        refine WP.reg [(0, false)] (by kernel_rfl) ?_
        refine Dv.asg rfl trivial rfl ?_
        refine .fin ?_
        obtain rfl := Gets.out H
        exact WP.retL (fun _ _ h => h) rfl () trivial (.cons (res_tmp rfl) .nil) rfl (st_sel (L := []) (F := F) [] 0 rfl rfl rfl)
      · replace H := Gets.cf H c603
        refine WP.skip ?_
        refine WP.seq ?_
        refine WP.seq ?_
        refine WP.reg [(0, false), (1, false), (2, false)] (by kernel_rfl) ?_
        refine Dv.mv rfl trivial rfl ?_
        refine Dv.mv rfl trivial rfl ?_
        refine Dv.bin rfl trivial rfl rfl (fun _ => run_gt) ?_
        refine .fin ?_
        refine WP.cond rfl (fun c604 => ?_) (fun c604 => ?_)
        · replace H := Gets.ct H c604
          refine WP.seq ?_
          refine WP.reg [(0, false)] (by kernel_rfl) ?_
          refine Dv.asg rfl trivial rfl ?_
          refine .fin ?_
          obtain rfl := Gets.out H
          exact WP.retL (fun _ _ h => h) rfl () trivial (.cons (res_tmp rfl) .nil) rfl (st_sel (L := []) (F := F) [] 0 rfl rfl rfl)
        · replace H := Gets.cf H c604
          refine WP.skip ?_
          refine WP.seq ?_
          refine WP.reg [(0, false)] (by kernel_rfl) ?_
          refine Dv.asg rfl trivial rfl ?_
          refine .fin ?_
          obtain rfl := Gets.out H
          exact WP.retL (fun _ _ h => h) rfl () trivial (.cons (res_tmp rfl) .nil) rfl (st_sel (L := []) (F := F) [] 0 rfl rfl rfl)
theorem bytes_Compare.c {a0 : List Int} {a1 : List Int} {r : Int} (h : bytes_Compare.f a0 a1 = some r) : Pt Try.prog 67 [sl (intK .u8) a0, sl (intK .u8) a1] (eq (.int .i64 r)) := by
  unfold bytes_Compare.f at h
  refine (Tr.body Try.func67 (c := _) rfl Try.ntmps67 (Nat.le_of_ble_eq_true rfl) fun R0 F => ?_).pt
  replace h := Gets.of h
  have H := h
  clear h
  refine WP.seq ?_
  refine WP.reg [(0, false)] (by kernel_rfl) ?_
  refine Dv.asg rfl trivial rfl ?_
  refine .fin ?_
  refine WP.seq ?_
  refine WP.reg [(0, false), (1, false), (2, false), (3, false)] (by kernel_rfl) ?_
  refine Dv.mv rfl trivial rfl ?_
  refine Dv.mv rfl trivial rfl ?_
  refine Dv.cext rfl trivial rfl (xt_cmp Try.func85 (by kernel_rfl) rfl xf85 xg85) ?_
  refine Dv.asg rfl trivial rfl ?_
  refine .fin ?_
  obtain rfl := Gets.out H
  exact WP.retL (fun _ _ h => h) rfl () trivial (.cons (res_tmp rfl) .nil) rfl (st_sel (L := []) (F := F) [] 0 rfl rfl rfl)
theorem lay_Number.c {k : Nat} {a0 : List Int} {a1 : Int} {p0_ : OV} {r : (List Int)} (h : lay_Number.f k a0 a1 = some r) : Tr Try.prog 86 [eq p0_.1, eq (.int .i64 a1)] [own (intK .u8) p0_.1 a0] (γ := OV) (fun _ => True) (fun g => eq g.1) (fun g => [own (intK .u8) g.1 r]) := by
  unfold lay_Number.f at h
  refine Tr.body Try.func86 (c := _) rfl Try.ntmps86 (Nat.le_of_ble_eq_true rfl) fun R0 F => ?_
  replace h := Gets.of h
  have H := h
  clear h
  refine WP.seq ?_
  refine WP.reg [(0, false)] (by kernel_rfl) ?_
  refine Dv.asg rfl trivial rfl ?_
  refine .fin ?_
  refine WP.seq ?_
  refine WP.reg [(0, false), (1, false), (2, false)] (by kernel_rfl) ?_
  refine Dv.mv rfl trivial rfl ?_
  refine Dv.maxi rfl trivial rfl rfl ?_
  refine Dv.asg rfl trivial rfl ?_
  refine .fin ?_
  refine WP.seq ?_
  refine WP.reg [(0, false), (1, false), (2, false), (3, false), (4, false), (5, true), (6, false)] (by kernel_rfl) ?_
  refine Dv.mv rfl trivial rfl ?_
  refine Dv.mv rfl trivial rfl ?_
  refine Dv.lenw rfl trivial rfl (mem_at 0 rfl) Try.underlying68 ?_
  refine Dv.mv rfl trivial rfl ?_
  refine Dv.lenw rfl trivial rfl (mem_at 0 rfl) Try.underlying68 ?_
  obtain ⟨g605, H⟩ := Gets.grd H
  refine Dv.slo (jj := 0) rfl trivial rfl rfl Try.underlying68 Try.underlying5 c5 bdE_none (bdE_some rfl g605.1) (.inr ⟨⟨_, _, rfl, g605.1, rfl⟩, rfl, rfl⟩) g605.2.1 g605.2.2 nofun (fun v606 => ?_)
  refine Dv.asg rfl trivial rfl ?_
  refine .fin ?_
  refine WP.seqn H (fun q619 : (Int × Bool × (List Int)) × OV => q619.1) (fun q619 : (Int × Bool × (List Int)) × OV => [(0, eq q619.2.1), (1, eq (.int .i64 q619.1.1)), (4, eq (.slice none 0 0)), (14, eq (.bool q619.1.2.1))]) (fun q619 : (Int × Bool × (List Int)) × OV => [own (intK .u8) q619.2.1 q619.1.2.2] ++ F) (fun q619 H => ?_) (fun H => ?_)
  · obtain ⟨p607, v608⟩ := q619
    refine WP.seq ?_
    refine WP.reg [(0, false), (1, false), (2, false), (3, false), (4, true), (5, false)] (by kernel_rfl) ?_
    refine Dv.mv rfl trivial rfl ?_
    refine Dv.mv rfl trivial rfl ?_
    refine Dv.cvi rfl trivial rfl Try.underlying3 Try.underlying5 ?_
    refine Dv.lit (intK .u8) ([IntKind.u8.wrap (p607.1)] : List Int) (css := [[eq (.int .u8 (IntKind.u8.wrap (p607.1)))]]) rfl trivial Try.underlying68 Try.underlying5 c5 z5 rfl (by decide) (by decide) rfl ⟨(cells_one (one_eq rfl)), trivial⟩ rfl rfl rfl ?_
    obtain ⟨g609, H⟩ := Gets.grd H
    refine Dv.appx (jj := 0) (ys := ([IntKind.u8.wrap (p607.1)] : List Int)) (fun v610 : OV => [own (intK .u8) v610.1 (p607.2.2 ++ ([IntKind.u8.wrap (p607.1)] : List Int))] ++ F) rfl trivial rfl rfl rfl src_sl Try.underlying68 (.inr ⟨_, Try.underlying68⟩) inf5 rfl (by decide) g609 rfl nofun (fun v610 => ?_)
    refine Dv.asg rfl trivial rfl ?_
    refine .fin ?_
    obtain rfl := Gets.out H
    exact WP.retL (fun _ _ h => h) rfl v610 trivial (.cons (res_tmp rfl) .nil) rfl (st_sel (L := [own (intK .u8) v610.1 (p607.2.2 ++ ([IntKind.u8.wrap (p607.1)] : List Int))]) (F := F) [0] 0 rfl rfl rfl)
  · refine WP.block ?_
    refine WP.gh (l' := fun _ => [own (intK .u8) v606.1 ((a0.take ((a0.length : Int).toNat)).drop 0)] ++ F) (gh_of (st_selg (L := [own (intK .u8) v606.1 ((a0.take ((a0.length : Int).toNat)).drop 0)]) (F := F) [0] 0 rfl rfl rfl)) (fun _ _ => ?_)
    refine WP.loopg (fun j_ (p618 : Int × (List Int) × OV) => lay_Number.l0 k j_ p618.1 p618.2.1) (max a1 0, (a0.take ((a0.length : Int).toNat)).drop 0, v606) H (fun p618 => [(0, eq p618.2.2.1), (1, eq (.int .i64 p618.1)), (4, eq (.slice none 0 0))]) (fun p618 => [own (intK .u8) p618.2.2.1 p618.2.1] ++ F) (weak_cons rfl (weak_cons rfl (weak_cons rfl weak_nil))) (List.Perm.refl _) ?_
    rintro j_ ⟨x611, x612, v613⟩ H
    rcases j_ with _ | j617
    · exact (Gets.no H).elim
    replace H : Gets (lay_Number.l0 k (j617 + 1) x611 x612) _ := H
    rw [lay_Number.l0] at H
    refine WP.seq ?_
    refine WP.seq ?_
    refine WP.reg [(0, false), (1, false)] (by kernel_rfl) ?_
    refine Dv.mv rfl trivial rfl ?_
    refine Dv.bin rfl trivial rfl rfl (fun _ => run_ge) ?_
    refine .fin ?_
    refine WP.cond rfl (fun c614 => ?_) (fun c614 => ?_)
    · replace H := Gets.ct H c614
      refine WP.skip ?_
      refine WP.seq ?_
      refine WP.block ?_
      refine WP.reg [(0, false), (1, false), (2, false), (3, false), (4, false), (5, false), (6, true), (7, false)] (by kernel_rfl) ?_
      refine Dv.mv rfl trivial rfl ?_
      refine Dv.mv rfl trivial rfl ?_
      refine Dv.bin rfl trivial rfl rfl (fun _ => run_rem (by decide)) ?_
      refine Dv.bin rfl trivial rfl rfl (fun _ => run_add) ?_
      refine Dv.cvi rfl trivial rfl Try.underlying3 Try.underlying5 ?_
      refine Dv.lit (intK .u8) ([IntKind.u8.wrap (w64 ((x611.tmod 128) + 128))] : List Int) (css := [[eq (.int .u8 (IntKind.u8.wrap (w64 ((x611.tmod 128) + 128))))]]) rfl trivial Try.underlying68 Try.underlying5 c5 z5 rfl (by decide) (by decide) rfl ⟨(cells_one (one_eq rfl)), trivial⟩ rfl rfl rfl ?_
      obtain ⟨g615, H⟩ := Gets.grd H
      refine Dv.appx (jj := 0) (ys := ([IntKind.u8.wrap (w64 ((x611.tmod 128) + 128))] : List Int)) (fun v616 : OV => [own (intK .u8) v616.1 (x612 ++ ([IntKind.u8.wrap (w64 ((x611.tmod 128) + 128))] : List Int))] ++ F) rfl trivial rfl rfl rfl src_sl Try.underlying68 (.inr ⟨_, Try.underlying68⟩) inf5 rfl (by decide) g615 rfl nofun (fun v616 => ?_)
      refine Dv.asg rfl trivial rfl ?_
      refine .fin ?_
      refine WP.reg [(0, false), (1, false), (2, false)] (by kernel_rfl) ?_
      refine Dv.mv rfl trivial rfl ?_
      refine Dv.bin rfl trivial rfl rfl (fun _ => run_quo (by decide)) ?_
      refine Dv.asg rfl trivial rfl ?_
      refine .fin ?_
      exact Back.mk j617 (w64 (x611.tdiv 128), x612 ++ ([IntKind.u8.wrap (w64 ((x611.tmod 128) + 128))] : List Int), v616) (Nat.lt_succ_self _) H (weak_cons rfl (weak_cons rfl (weak_cons rfl weak_nil))) (List.Perm.refl _)
    · replace H := Gets.cf H c614
      refine WP.exit ?_
      replace H := Gets.out H
      exact Jn.mk ((x611, decide (128 ≤ x611), x612), v613) H (weak_cons rfl (weak_cons rfl (weak_cons rfl (weak_cons rfl weak_nil)))) (List.Perm.refl _)
theorem lay_Text.c {k : Nat} {a0 : List Int} {a1 : ByteArray} {p0_ : OV} {r : (List Int)} (h : lay_Text.f k a0 a1 = some r) : Tr Try.prog 87 [eq p0_.1, eq (.string a1)] [own (intK .u8) p0_.1 a0] (γ := OV) (fun _ => True) (fun g => eq g.1) (fun g => [own (intK .u8) g.1 r]) := by
  unfold lay_Text.f at h
  refine Tr.body Try.func87 (c := _) rfl Try.ntmps87 (Nat.le_of_ble_eq_true rfl) fun R0 F => ?_
  replace h := Gets.of h
  have H := h
  clear h
  refine WP.seq ?_
  refine WP.reg [(0, false)] (by kernel_rfl) ?_
  refine Dv.asg rfl trivial rfl ?_
  refine .fin ?_
  refine WP.seq ?_
  refine WP.reg [(0, false), (1, false), (2, false), (3, true), (4, false), (5, true), (6, false)] (by kernel_rfl) ?_
  refine Dv.mv rfl trivial rfl ?_
  refine Dv.mv rfl trivial rfl ?_
  refine Dv.lens rfl trivial rfl Try.underlying9 ?_
  obtain ⟨t620, h621, H⟩ := Gets.call H
  refine Dv.callx (pre := [own (intK .u8) p0_.1 a0]) (F := [] ++ F) (fun g622 : OV => [own (intK .u8) g622.1 t620] ++ F) rfl trivial cal86 rfl (lay_Number.c h621 (p0_ := p0_)) (perm_to (L := [own (intK .u8) p0_.1 a0]) (F := F) [0] rfl rfl rfl) rfl nofun (fun g622 _ => ?_)
  refine Dv.mv rfl trivial rfl ?_
  obtain ⟨g623, H⟩ := Gets.grd H
  refine Dv.appx (jj := 0) (ys := strBs a1) (fun v624 : OV => [own (intK .u8) v624.1 (t620 ++ (strBs a1))] ++ F) rfl trivial rfl rfl rfl src_str Try.underlying68 (.inl Try.underlying9) inf5 rfl (by decide) g623 rfl nofun (fun v624 => ?_)
  refine Dv.asg rfl trivial rfl ?_
  refine .fin ?_
  obtain rfl := Gets.out H
  exact WP.retL (fun _ _ h => h) rfl v624 trivial (.cons (res_tmp rfl) .nil) rfl (st_sel (L := [own (intK .u8) v624.1 (t620 ++ (strBs a1))]) (F := F) [0] 0 rfl rfl rfl)
theorem lay_Flag.c {k : Nat} {a0 : List Int} {a1 : Bool} {p0_ : OV} {r : (List Int)} (h : lay_Flag.f k a0 a1 = some r) : Tr Try.prog 88 [eq p0_.1, eq (.bool a1)] [own (intK .u8) p0_.1 a0] (γ := OV) (fun _ => True) (fun g => eq g.1) (fun g => [own (intK .u8) g.1 r]) := by
  unfold lay_Flag.f at h
  refine Tr.body Try.func88 (c := _) rfl Try.ntmps88 (Nat.le_of_ble_eq_true rfl) fun R0 F => ?_
  replace h := Gets.of h
  have H := h
  clear h
  refine WP.seq ?_
  refine WP.reg [(0, false)] (by kernel_rfl) ?_
  refine Dv.asg rfl trivial rfl ?_
  refine .fin ?_
  refine WP.seq ?_
  refine WP.seq ?_
  refine WP.reg [(0, false)] (by kernel_rfl) ?_
  refine Dv.mv rfl trivial rfl ?_
  refine .fin ?_
  refine WP.cond rfl (fun c625 => ?_) (fun c625 => ?_)
  · replace H := Gets.ct H c625
    refine WP.seq ?_
    refine WP.reg [(0, false), (1, true), (2, false)] (by kernel_rfl) ?_
    refine Dv.mv rfl trivial rfl ?_
    obtain ⟨t626, h627, H⟩ := Gets.call H
    refine Dv.callx (pre := [own (intK .u8) p0_.1 a0]) (F := [] ++ F) (fun g628 : OV => [own (intK .u8) g628.1 t626] ++ F) rfl trivial cal86 rfl (lay_Number.c h627 (p0_ := p0_)) (perm_to (L := [own (intK .u8) p0_.1 a0]) (F := F) [0] rfl rfl rfl) rfl nofun (fun g628 _ => ?_)
    refine Dv.asg rfl trivial rfl ?_
    refine .fin ?_
    obtain rfl := Gets.out H
    exact WP.retL (fun _ _ h => h) rfl g628 trivial (.cons (res_tmp rfl) .nil) rfl (st_sel (L := [own (intK .u8) g628.1 t626]) (F := F) [0] 0 rfl rfl rfl)
  · replace H := Gets.cf H c625
    refine WP.skip ?_
    refine WP.seq ?_
    refine WP.reg [(0, false), (1, true), (2, false)] (by kernel_rfl) ?_
    refine Dv.mv rfl trivial rfl ?_
    obtain ⟨t629, h630, H⟩ := Gets.call H
    refine Dv.callx (pre := [own (intK .u8) p0_.1 a0]) (F := [] ++ F) (fun g631 : OV => [own (intK .u8) g631.1 t629] ++ F) rfl trivial cal86 rfl (lay_Number.c h630 (p0_ := p0_)) (perm_to (L := [own (intK .u8) p0_.1 a0]) (F := F) [0] rfl rfl rfl) rfl nofun (fun g631 _ => ?_)
    refine Dv.asg rfl trivial rfl ?_
    refine .fin ?_
    obtain rfl := Gets.out H
    exact WP.retL (fun _ _ h => h) rfl g631 trivial (.cons (res_tmp rfl) .nil) rfl (st_sel (L := [own (intK .u8) g631.1 t629]) (F := F) [0] 0 rfl rfl rfl)
theorem edu_laid.c {k : Nat} {a0 : Edu} {r : (List Int)} (h : edu_laid.f k a0 = some r) : Tr Try.prog 68 [agg (Edu.enc a0)] [] (γ := OV) (fun _ => True) (fun g => eq g.1) (fun g => [own (intK .u8) g.1 r]) := by
  unfold edu_laid.f at h
  refine Tr.body Try.func68 (c := _) rfl Try.ntmps68 (Nat.le_of_ble_eq_true rfl) fun R0 F => ?_
  replace h := Gets.of h
  have H := h
  clear h
  refine WP.seq ?_
  refine WP.reg [(0, true), (1, false)] (by kernel_rfl) ?_
  refine Dv.box rfl trivial rfl (cells_agg (Edu.K.one _)) nofun (fun b632 => ?_)
  refine Dv.asg rfl trivial rfl ?_
  refine .fin ?_
  refine WP.seq ?_
  refine WP.reg [(0, false), (1, false), (2, true), (3, false)] (by kernel_rfl) ?_
  refine Dv.fab rfl trivial rfl Try.underlying32 rfl Try.underlying3 c3 (by decide) ?_
  refine Dv.ldb rfl trivial rfl Try.underlying3 rfl (mem_at 0 rfl) rfl ?_
  refine Dv.gh (gh_of (st_nil (intK .u8) none)) (fun _ _ => ?_)
  obtain ⟨t633, h634, H⟩ := Gets.call H
  refine Dv.callx (pre := [own (intK .u8) nilV.1 ([] : List Int)]) (F := [blk b632 32 [eq (.int .i64 a0.fKind), eq (.string a0.fRoom), eq (.string a0.fUser), eq (.string a0.fEvent), eq (.string a0.fThread), eq (.bool a0.fPrivate), eq (.bool a0.fOn), eq (.int .i64 a0.fSpan), eq (.int .i64 a0.fState), eq (.int .i64 a0.fTick), eq (.int .i64 a0.fStamp)]] ++ F) (fun g635 : OV => [own (intK .u8) g635.1 t633, blk b632 32 [eq (.int .i64 a0.fKind), eq (.string a0.fRoom), eq (.string a0.fUser), eq (.string a0.fEvent), eq (.string a0.fThread), eq (.bool a0.fPrivate), eq (.bool a0.fOn), eq (.int .i64 a0.fSpan), eq (.int .i64 a0.fState), eq (.int .i64 a0.fTick), eq (.int .i64 a0.fStamp)]] ++ F) rfl trivial cal86 rfl (lay_Number.c h634 (p0_ := nilV)) (perm_to (L := [own (intK .u8) nilV.1 ([] : List Int), blk b632 32 [eq (.int .i64 a0.fKind), eq (.string a0.fRoom), eq (.string a0.fUser), eq (.string a0.fEvent), eq (.string a0.fThread), eq (.bool a0.fPrivate), eq (.bool a0.fOn), eq (.int .i64 a0.fSpan), eq (.int .i64 a0.fState), eq (.int .i64 a0.fTick), eq (.int .i64 a0.fStamp)]]) (F := F) [0, 1] rfl rfl rfl) rfl nofun (fun g635 _ => ?_)
  refine Dv.asg rfl trivial rfl ?_
  refine .fin ?_
  refine WP.seqn H (fun q664 : (Int × Bool × (List Int)) × OV => q664.1) (fun q664 : (Int × Bool × (List Int)) × OV => [(0, agg (Edu.enc a0)), (1, eq (.pointer (some ⟨b632, 0, none⟩))), (2, eq (.slice none 0 0)), (3, eq q664.2.1), (19, sl strK ([a0.fRoom, a0.fUser, a0.fEvent, a0.fThread] : List ByteArray)), (20, eq (.int .i64 (([a0.fRoom, a0.fUser, a0.fEvent, a0.fThread] : List ByteArray).length : Int))), (21, eq (.int .i64 q664.1.1)), (22, eq (.bool q664.1.2.1))]) (fun q664 : (Int × Bool × (List Int)) × OV => [blk b632 32 [eq (.int .i64 a0.fKind), eq (.string a0.fRoom), eq (.string a0.fUser), eq (.string a0.fEvent), eq (.string a0.fThread), eq (.bool a0.fPrivate), eq (.bool a0.fOn), eq (.int .i64 a0.fSpan), eq (.int .i64 a0.fState), eq (.int .i64 a0.fTick), eq (.int .i64 a0.fStamp)], own (intK .u8) q664.2.1 q664.1.2.2] ++ F) (fun q664 H => ?_) (fun H => ?_)
  · obtain ⟨p636, v637⟩ := q664
    refine WP.seq ?_
    refine WP.reg [(0, false), (1, false), (2, false), (3, true), (4, false)] (by kernel_rfl) ?_
    refine Dv.mv rfl trivial rfl ?_
    refine Dv.fab rfl trivial rfl Try.underlying32 rfl Try.underlying4 c4 (by decide) ?_
    refine Dv.ldb rfl trivial rfl Try.underlying4 rfl (mem_at 0 rfl) rfl ?_
    obtain ⟨t638, h639, H⟩ := Gets.call H
    refine Dv.callx (pre := [own (intK .u8) v637.1 p636.2.2]) (F := [blk b632 32 [eq (.int .i64 a0.fKind), eq (.string a0.fRoom), eq (.string a0.fUser), eq (.string a0.fEvent), eq (.string a0.fThread), eq (.bool a0.fPrivate), eq (.bool a0.fOn), eq (.int .i64 a0.fSpan), eq (.int .i64 a0.fState), eq (.int .i64 a0.fTick), eq (.int .i64 a0.fStamp)]] ++ F) (fun g640 : OV => [own (intK .u8) g640.1 t638, blk b632 32 [eq (.int .i64 a0.fKind), eq (.string a0.fRoom), eq (.string a0.fUser), eq (.string a0.fEvent), eq (.string a0.fThread), eq (.bool a0.fPrivate), eq (.bool a0.fOn), eq (.int .i64 a0.fSpan), eq (.int .i64 a0.fState), eq (.int .i64 a0.fTick), eq (.int .i64 a0.fStamp)]] ++ F) rfl trivial cal88 rfl (lay_Flag.c h639 (p0_ := v637)) (perm_to (L := [blk b632 32 [eq (.int .i64 a0.fKind), eq (.string a0.fRoom), eq (.string a0.fUser), eq (.string a0.fEvent), eq (.string a0.fThread), eq (.bool a0.fPrivate), eq (.bool a0.fOn), eq (.int .i64 a0.fSpan), eq (.int .i64 a0.fState), eq (.int .i64 a0.fTick), eq (.int .i64 a0.fStamp)], own (intK .u8) v637.1 p636.2.2]) (F := F) [1, 0] rfl rfl rfl) rfl nofun (fun g640 _ => ?_)
    refine Dv.asg rfl trivial rfl ?_
    refine .fin ?_
    refine WP.seqn H (fun q653 : (Int × Bool × (List Int)) × OV => q653.1) (fun q653 : (Int × Bool × (List Int)) × OV => [(0, agg (Edu.enc a0)), (1, eq (.pointer (some ⟨b632, 0, none⟩))), (2, eq (.slice none 0 0)), (3, eq q653.2.1), (19, sl strK ([a0.fRoom, a0.fUser, a0.fEvent, a0.fThread] : List ByteArray)), (20, eq (.int .i64 (([a0.fRoom, a0.fUser, a0.fEvent, a0.fThread] : List ByteArray).length : Int))), (21, eq (.int .i64 p636.1)), (22, eq (.bool p636.2.1)), (41, sl (intK .i64) ([a0.fSpan, a0.fState, a0.fTick, a0.fStamp] : List Int)), (42, eq (.int .i64 (([a0.fSpan, a0.fState, a0.fTick, a0.fStamp] : List Int).length : Int))), (43, eq (.int .i64 q653.1.1)), (44, eq (.bool q653.1.2.1))]) (fun q653 : (Int × Bool × (List Int)) × OV => [blk b632 32 [eq (.int .i64 a0.fKind), eq (.string a0.fRoom), eq (.string a0.fUser), eq (.string a0.fEvent), eq (.string a0.fThread), eq (.bool a0.fPrivate), eq (.bool a0.fOn), eq (.int .i64 a0.fSpan), eq (.int .i64 a0.fState), eq (.int .i64 a0.fTick), eq (.int .i64 a0.fStamp)], own (intK .u8) q653.2.1 q653.1.2.2] ++ F) (fun q653 H => ?_) (fun H => ?_)
    · obtain ⟨p641, v642⟩ := q653
      refine WP.seq ?_
      refine WP.reg [(0, false), (1, false)] (by kernel_rfl) ?_
      refine Dv.mv rfl trivial rfl ?_
      refine Dv.asg rfl trivial rfl ?_
      refine .fin ?_
      obtain rfl := Gets.out H
      exact WP.retL (fun _ _ h => h) rfl v642 trivial (.cons (res_tmp rfl) .nil) rfl (st_sel (L := [blk b632 32 [eq (.int .i64 a0.fKind), eq (.string a0.fRoom), eq (.string a0.fUser), eq (.string a0.fEvent), eq (.string a0.fThread), eq (.bool a0.fPrivate), eq (.bool a0.fOn), eq (.int .i64 a0.fSpan), eq (.int .i64 a0.fState), eq (.int .i64 a0.fTick), eq (.int .i64 a0.fStamp)], own (intK .u8) v642.1 p641.2.2]) (F := F) [0, 1] 1 rfl rfl rfl)
    · refine WP.seq ?_
      refine WP.reg [(0, false), (1, false), (2, false), (3, false), (4, false), (5, false), (6, false), (7, false), (8, false), (9, false), (10, false)] (by kernel_rfl) ?_
      refine Dv.fab rfl trivial rfl Try.underlying32 rfl Try.underlying3 c3 (by decide) ?_
      refine Dv.ldb rfl trivial rfl Try.underlying3 rfl (mem_at 1 rfl) rfl ?_
      refine Dv.fab rfl trivial rfl Try.underlying32 rfl Try.underlying3 c3 (by decide) ?_
      refine Dv.ldb rfl trivial rfl Try.underlying3 rfl (mem_at 1 rfl) rfl ?_
      refine Dv.fab rfl trivial rfl Try.underlying32 rfl Try.underlying3 c3 (by decide) ?_
      refine Dv.ldb rfl trivial rfl Try.underlying3 rfl (mem_at 1 rfl) rfl ?_
      refine Dv.fab rfl trivial rfl Try.underlying32 rfl Try.underlying3 c3 (by decide) ?_
      refine Dv.ldb rfl trivial rfl Try.underlying3 rfl (mem_at 1 rfl) rfl ?_
      refine Dv.lit (intK .i64) ([a0.fSpan, a0.fState, a0.fTick, a0.fStamp] : List Int) (css := [[eq (.int .i64 a0.fSpan)], [eq (.int .i64 a0.fState)], [eq (.int .i64 a0.fTick)], [eq (.int .i64 a0.fStamp)]]) rfl trivial Try.underlying38 Try.underlying3 c3 z3 rfl (by decide) (by decide) rfl ⟨(cells_one (one_eq rfl)), ⟨(cells_one (one_eq rfl)), ⟨(cells_one (one_eq rfl)), ⟨(cells_one (one_eq rfl)), trivial⟩⟩⟩⟩ rfl rfl rfl ?_
      refine Dv.lenl rfl trivial rfl Try.underlying38 ?_
      refine Dv.mv rfl trivial rfl ?_
      refine .fin ?_
      refine WP.block ?_
      refine WP.gh (l' := fun _ => [blk b632 32 [eq (.int .i64 a0.fKind), eq (.string a0.fRoom), eq (.string a0.fUser), eq (.string a0.fEvent), eq (.string a0.fThread), eq (.bool a0.fPrivate), eq (.bool a0.fOn), eq (.int .i64 a0.fSpan), eq (.int .i64 a0.fState), eq (.int .i64 a0.fTick), eq (.int .i64 a0.fStamp)], own (intK .u8) g640.1 t638] ++ F) (gh_of (st_selg (L := [own (intK .u8) g640.1 t638, blk b632 32 [eq (.int .i64 a0.fKind), eq (.string a0.fRoom), eq (.string a0.fUser), eq (.string a0.fEvent), eq (.string a0.fThread), eq (.bool a0.fPrivate), eq (.bool a0.fOn), eq (.int .i64 a0.fSpan), eq (.int .i64 a0.fState), eq (.int .i64 a0.fTick), eq (.int .i64 a0.fStamp)]]) (F := F) [1, 0] 0 rfl rfl rfl)) (fun _ _ => ?_)
      refine WP.loopg (fun j_ (p652 : Int × (List Int) × OV) => edu_laid.l0 k a0 j_ p652.1 p652.2.1) (0, t638, g640) H (fun p652 => [(0, agg (Edu.enc a0)), (1, eq (.pointer (some ⟨b632, 0, none⟩))), (2, eq (.slice none 0 0)), (3, eq p652.2.2.1), (19, sl strK ([a0.fRoom, a0.fUser, a0.fEvent, a0.fThread] : List ByteArray)), (20, eq (.int .i64 (([a0.fRoom, a0.fUser, a0.fEvent, a0.fThread] : List ByteArray).length : Int))), (21, eq (.int .i64 p636.1)), (22, eq (.bool p636.2.1)), (41, sl (intK .i64) ([a0.fSpan, a0.fState, a0.fTick, a0.fStamp] : List Int)), (42, eq (.int .i64 (([a0.fSpan, a0.fState, a0.fTick, a0.fStamp] : List Int).length : Int))), (43, eq (.int .i64 p652.1))]) (fun p652 => [blk b632 32 [eq (.int .i64 a0.fKind), eq (.string a0.fRoom), eq (.string a0.fUser), eq (.string a0.fEvent), eq (.string a0.fThread), eq (.bool a0.fPrivate), eq (.bool a0.fOn), eq (.int .i64 a0.fSpan), eq (.int .i64 a0.fState), eq (.int .i64 a0.fTick), eq (.int .i64 a0.fStamp)], own (intK .u8) p652.2.2.1 p652.2.1] ++ F) (weak_cons rfl (weak_cons rfl (weak_cons rfl (weak_cons rfl (weak_cons rfl (weak_cons rfl (weak_cons rfl (weak_cons rfl (weak_cons rfl (weak_cons rfl (weak_cons rfl weak_nil))))))))))) (List.Perm.refl _) ?_
      rintro j_ ⟨x643, x644, v645⟩ H
      rcases j_ with _ | j651
      · exact (Gets.no H).elim
      replace H : Gets (edu_laid.l0 k a0 (j651 + 1) x643 x644) _ := H
      rw [edu_laid.l0] at H
      refine WP.seq ?_
      refine WP.reg [(0, false)] (by kernel_rfl) ?_
      refine Dv.bin rfl trivial rfl rfl (fun _ => run_lt) ?_
      refine .fin ?_
      refine WP.seq ?_
      refine WP.cond rfl (fun c646 => ?_) (fun c646 => ?_)
      · replace H := Gets.ct H c646
        refine WP.skip ?_
        refine WP.seq ?_
        refine WP.block ?_
        refine WP.seq ?_
        refine WP.reg [(0, false), (1, false), (2, false)] (by kernel_rfl) ?_
        obtain ⟨g647, H⟩ := Gets.grd H
        refine Dv.ixr rfl trivial rfl rfl Try.underlying38 Try.underlying3 c3 g647.1 g647.2 ?_
        refine Dv.ldr rfl trivial rfl Try.underlying3 rfl rfl ?_
        refine Dv.asg rfl trivial rfl ?_
        refine .fin ?_
        refine WP.reg [(0, false), (1, false), (2, true), (3, false)] (by kernel_rfl) ?_
        refine Dv.mv rfl trivial rfl ?_
        refine Dv.mv rfl trivial rfl ?_
        obtain ⟨t648, h649, H⟩ := Gets.call H
        refine Dv.callx (pre := [own (intK .u8) v645.1 x644]) (F := [blk b632 32 [eq (.int .i64 a0.fKind), eq (.string a0.fRoom), eq (.string a0.fUser), eq (.string a0.fEvent), eq (.string a0.fThread), eq (.bool a0.fPrivate), eq (.bool a0.fOn), eq (.int .i64 a0.fSpan), eq (.int .i64 a0.fState), eq (.int .i64 a0.fTick), eq (.int .i64 a0.fStamp)]] ++ F) (fun g650 : OV => [own (intK .u8) g650.1 t648, blk b632 32 [eq (.int .i64 a0.fKind), eq (.string a0.fRoom), eq (.string a0.fUser), eq (.string a0.fEvent), eq (.string a0.fThread), eq (.bool a0.fPrivate), eq (.bool a0.fOn), eq (.int .i64 a0.fSpan), eq (.int .i64 a0.fState), eq (.int .i64 a0.fTick), eq (.int .i64 a0.fStamp)]] ++ F) rfl trivial cal86 rfl (lay_Number.c h649 (p0_ := v645)) (perm_to (L := [blk b632 32 [eq (.int .i64 a0.fKind), eq (.string a0.fRoom), eq (.string a0.fUser), eq (.string a0.fEvent), eq (.string a0.fThread), eq (.bool a0.fPrivate), eq (.bool a0.fOn), eq (.int .i64 a0.fSpan), eq (.int .i64 a0.fState), eq (.int .i64 a0.fTick), eq (.int .i64 a0.fStamp)], own (intK .u8) v645.1 x644]) (F := F) [1, 0] rfl rfl rfl) rfl nofun (fun g650 _ => ?_)
        refine Dv.asg rfl trivial rfl ?_
        refine .fin ?_
        refine WP.reg [(0, false), (1, false)] (by kernel_rfl) ?_
        refine Dv.bin rfl trivial rfl rfl (fun _ => run_add) ?_
        refine Dv.mv rfl trivial rfl ?_
        refine .fin ?_
        refine Dn.gh (l' := fun _ : Unit => [blk b632 32 [eq (.int .i64 a0.fKind), eq (.string a0.fRoom), eq (.string a0.fUser), eq (.string a0.fEvent), eq (.string a0.fThread), eq (.bool a0.fPrivate), eq (.bool a0.fOn), eq (.int .i64 a0.fSpan), eq (.int .i64 a0.fState), eq (.int .i64 a0.fTick), eq (.int .i64 a0.fStamp)], own (intK .u8) g650.1 t648] ++ F) (gh_of (st_selg (L := [own (intK .u8) g650.1 t648, blk b632 32 [eq (.int .i64 a0.fKind), eq (.string a0.fRoom), eq (.string a0.fUser), eq (.string a0.fEvent), eq (.string a0.fThread), eq (.bool a0.fPrivate), eq (.bool a0.fOn), eq (.int .i64 a0.fSpan), eq (.int .i64 a0.fState), eq (.int .i64 a0.fTick), eq (.int .i64 a0.fStamp)]]) (F := F) [1, 0] 0 rfl rfl rfl)) (fun _ _ => ?_)
        exact Back.mk j651 (w64 (x643 + 1), t648, g650) (Nat.lt_succ_self _) H (weak_cons rfl (weak_cons rfl (weak_cons rfl (weak_cons rfl (weak_cons rfl (weak_cons rfl (weak_cons rfl (weak_cons rfl (weak_cons rfl (weak_cons rfl (weak_cons rfl weak_nil))))))))))) (List.Perm.refl _)
      · replace H := Gets.cf H c646
        refine WP.exit ?_
        replace H := Gets.out H
        exact Jn.mk ((x643, decide (x643 < (([a0.fSpan, a0.fState, a0.fTick, a0.fStamp] : List Int).length : Int)), x644), v645) H (weak_cons rfl (weak_cons rfl (weak_cons rfl (weak_cons rfl (weak_cons rfl (weak_cons rfl (weak_cons rfl (weak_cons rfl (weak_cons rfl (weak_cons rfl (weak_cons rfl (weak_cons rfl weak_nil)))))))))))) (List.Perm.refl _)
  · refine WP.seq ?_
    refine WP.reg [(0, false), (1, false), (2, false), (3, false), (4, false), (5, false), (6, false), (7, false), (8, false), (9, false), (10, false)] (by kernel_rfl) ?_
    refine Dv.fab rfl trivial rfl Try.underlying32 rfl Try.underlying9 c9 (by decide) ?_
    refine Dv.ldb rfl trivial rfl Try.underlying9 rfl (mem_at 1 rfl) rfl ?_
    refine Dv.fab rfl trivial rfl Try.underlying32 rfl Try.underlying9 c9 (by decide) ?_
    refine Dv.ldb rfl trivial rfl Try.underlying9 rfl (mem_at 1 rfl) rfl ?_
    refine Dv.fab rfl trivial rfl Try.underlying32 rfl Try.underlying9 c9 (by decide) ?_
    refine Dv.ldb rfl trivial rfl Try.underlying9 rfl (mem_at 1 rfl) rfl ?_
    refine Dv.fab rfl trivial rfl Try.underlying32 rfl Try.underlying9 c9 (by decide) ?_
    refine Dv.ldb rfl trivial rfl Try.underlying9 rfl (mem_at 1 rfl) rfl ?_
    refine Dv.lit strK ([a0.fRoom, a0.fUser, a0.fEvent, a0.fThread] : List ByteArray) (css := [[eq (.string a0.fRoom)], [eq (.string a0.fUser)], [eq (.string a0.fEvent)], [eq (.string a0.fThread)]]) rfl trivial Try.underlying40 Try.underlying9 c9 z9 rfl (by decide) (by decide) rfl ⟨(cells_one (one_eq rfl)), ⟨(cells_one (one_eq rfl)), ⟨(cells_one (one_eq rfl)), ⟨(cells_one (one_eq rfl)), trivial⟩⟩⟩⟩ rfl rfl rfl ?_
    refine Dv.lenl rfl trivial rfl Try.underlying40 ?_
    refine Dv.mv rfl trivial rfl ?_
    refine .fin ?_
    refine WP.block ?_
    refine WP.gh (l' := fun _ => [blk b632 32 [eq (.int .i64 a0.fKind), eq (.string a0.fRoom), eq (.string a0.fUser), eq (.string a0.fEvent), eq (.string a0.fThread), eq (.bool a0.fPrivate), eq (.bool a0.fOn), eq (.int .i64 a0.fSpan), eq (.int .i64 a0.fState), eq (.int .i64 a0.fTick), eq (.int .i64 a0.fStamp)], own (intK .u8) g635.1 t633] ++ F) (gh_of (st_selg (L := [own (intK .u8) g635.1 t633, blk b632 32 [eq (.int .i64 a0.fKind), eq (.string a0.fRoom), eq (.string a0.fUser), eq (.string a0.fEvent), eq (.string a0.fThread), eq (.bool a0.fPrivate), eq (.bool a0.fOn), eq (.int .i64 a0.fSpan), eq (.int .i64 a0.fState), eq (.int .i64 a0.fTick), eq (.int .i64 a0.fStamp)]]) (F := F) [1, 0] 0 rfl rfl rfl)) (fun _ _ => ?_)
    refine WP.loopg (fun j_ (p663 : Int × (List Int) × OV) => edu_laid.l1 k a0 j_ p663.1 p663.2.1) (0, t633, g635) H (fun p663 => [(0, agg (Edu.enc a0)), (1, eq (.pointer (some ⟨b632, 0, none⟩))), (2, eq (.slice none 0 0)), (3, eq p663.2.2.1), (19, sl strK ([a0.fRoom, a0.fUser, a0.fEvent, a0.fThread] : List ByteArray)), (20, eq (.int .i64 (([a0.fRoom, a0.fUser, a0.fEvent, a0.fThread] : List ByteArray).length : Int))), (21, eq (.int .i64 p663.1))]) (fun p663 => [blk b632 32 [eq (.int .i64 a0.fKind), eq (.string a0.fRoom), eq (.string a0.fUser), eq (.string a0.fEvent), eq (.string a0.fThread), eq (.bool a0.fPrivate), eq (.bool a0.fOn), eq (.int .i64 a0.fSpan), eq (.int .i64 a0.fState), eq (.int .i64 a0.fTick), eq (.int .i64 a0.fStamp)], own (intK .u8) p663.2.2.1 p663.2.1] ++ F) (weak_cons rfl (weak_cons rfl (weak_cons rfl (weak_cons rfl (weak_cons rfl (weak_cons rfl (weak_cons rfl weak_nil))))))) (List.Perm.refl _) ?_
    rintro j_ ⟨x654, x655, v656⟩ H
    rcases j_ with _ | j662
    · exact (Gets.no H).elim
    replace H : Gets (edu_laid.l1 k a0 (j662 + 1) x654 x655) _ := H
    rw [edu_laid.l1] at H
    refine WP.seq ?_
    refine WP.reg [(0, false)] (by kernel_rfl) ?_
    refine Dv.bin rfl trivial rfl rfl (fun _ => run_lt) ?_
    refine .fin ?_
    refine WP.seq ?_
    refine WP.cond rfl (fun c657 => ?_) (fun c657 => ?_)
    · replace H := Gets.ct H c657
      refine WP.skip ?_
      refine WP.seq ?_
      refine WP.block ?_
      refine WP.seq ?_
      refine WP.reg [(0, false), (1, false), (2, false)] (by kernel_rfl) ?_
      obtain ⟨g658, H⟩ := Gets.grd H
      refine Dv.ixr rfl trivial rfl rfl Try.underlying40 Try.underlying9 c9 g658.1 g658.2 ?_
      refine Dv.ldr rfl trivial rfl Try.underlying9 rfl rfl ?_
      refine Dv.asg rfl trivial rfl ?_
      refine .fin ?_
      refine WP.reg [(0, false), (1, false), (2, true), (3, false)] (by kernel_rfl) ?_
      refine Dv.mv rfl trivial rfl ?_
      refine Dv.mv rfl trivial rfl ?_
      obtain ⟨t659, h660, H⟩ := Gets.call H
      refine Dv.callx (pre := [own (intK .u8) v656.1 x655]) (F := [blk b632 32 [eq (.int .i64 a0.fKind), eq (.string a0.fRoom), eq (.string a0.fUser), eq (.string a0.fEvent), eq (.string a0.fThread), eq (.bool a0.fPrivate), eq (.bool a0.fOn), eq (.int .i64 a0.fSpan), eq (.int .i64 a0.fState), eq (.int .i64 a0.fTick), eq (.int .i64 a0.fStamp)]] ++ F) (fun g661 : OV => [own (intK .u8) g661.1 t659, blk b632 32 [eq (.int .i64 a0.fKind), eq (.string a0.fRoom), eq (.string a0.fUser), eq (.string a0.fEvent), eq (.string a0.fThread), eq (.bool a0.fPrivate), eq (.bool a0.fOn), eq (.int .i64 a0.fSpan), eq (.int .i64 a0.fState), eq (.int .i64 a0.fTick), eq (.int .i64 a0.fStamp)]] ++ F) rfl trivial cal87 rfl (lay_Text.c h660 (p0_ := v656)) (perm_to (L := [blk b632 32 [eq (.int .i64 a0.fKind), eq (.string a0.fRoom), eq (.string a0.fUser), eq (.string a0.fEvent), eq (.string a0.fThread), eq (.bool a0.fPrivate), eq (.bool a0.fOn), eq (.int .i64 a0.fSpan), eq (.int .i64 a0.fState), eq (.int .i64 a0.fTick), eq (.int .i64 a0.fStamp)], own (intK .u8) v656.1 x655]) (F := F) [1, 0] rfl rfl rfl) rfl nofun (fun g661 _ => ?_)
      refine Dv.asg rfl trivial rfl ?_
      refine .fin ?_
      refine WP.reg [(0, false), (1, false)] (by kernel_rfl) ?_
      refine Dv.bin rfl trivial rfl rfl (fun _ => run_add) ?_
      refine Dv.mv rfl trivial rfl ?_
      refine .fin ?_
      refine Dn.gh (l' := fun _ : Unit => [blk b632 32 [eq (.int .i64 a0.fKind), eq (.string a0.fRoom), eq (.string a0.fUser), eq (.string a0.fEvent), eq (.string a0.fThread), eq (.bool a0.fPrivate), eq (.bool a0.fOn), eq (.int .i64 a0.fSpan), eq (.int .i64 a0.fState), eq (.int .i64 a0.fTick), eq (.int .i64 a0.fStamp)], own (intK .u8) g661.1 t659] ++ F) (gh_of (st_selg (L := [own (intK .u8) g661.1 t659, blk b632 32 [eq (.int .i64 a0.fKind), eq (.string a0.fRoom), eq (.string a0.fUser), eq (.string a0.fEvent), eq (.string a0.fThread), eq (.bool a0.fPrivate), eq (.bool a0.fOn), eq (.int .i64 a0.fSpan), eq (.int .i64 a0.fState), eq (.int .i64 a0.fTick), eq (.int .i64 a0.fStamp)]]) (F := F) [1, 0] 0 rfl rfl rfl)) (fun _ _ => ?_)
      exact Back.mk j662 (w64 (x654 + 1), t659, g661) (Nat.lt_succ_self _) H (weak_cons rfl (weak_cons rfl (weak_cons rfl (weak_cons rfl (weak_cons rfl (weak_cons rfl (weak_cons rfl weak_nil))))))) (List.Perm.refl _)
    · replace H := Gets.cf H c657
      refine WP.exit ?_
      replace H := Gets.out H
      exact Jn.mk ((x654, decide (x654 < (([a0.fRoom, a0.fUser, a0.fEvent, a0.fThread] : List ByteArray).length : Int)), x655), v656) H (weak_cons rfl (weak_cons rfl (weak_cons rfl (weak_cons rfl (weak_cons rfl (weak_cons rfl (weak_cons rfl (weak_cons rfl weak_nil)))))))) (List.Perm.refl _)
theorem edu_Compare.c {k : Nat} {a0 : Edu} {a1 : Edu} {r : Int} (h : edu_Compare.f k a0 a1 = some r) : Pt Try.prog 48 [agg (Edu.enc a0), agg (Edu.enc a1)] (eq (.int .i64 r)) := by
  unfold edu_Compare.f at h
  refine (Tr.body Try.func48 (c := _) rfl Try.ntmps48 (Nat.le_of_ble_eq_true rfl) fun R0 F => ?_).pt
  replace h := Gets.of h
  have H := h
  clear h
  refine WP.seq ?_
  refine WP.reg [(0, true), (1, true), (2, false)] (by kernel_rfl) ?_
  refine Dv.box rfl trivial rfl (cells_agg (Edu.K.one _)) nofun (fun b665 => ?_)
  refine Dv.box rfl trivial rfl (cells_agg (Edu.K.one _)) nofun (fun b666 => ?_)
  refine Dv.asg rfl trivial rfl ?_
  refine .fin ?_
  refine WP.seq ?_
  refine WP.dreg Try.checked.mixed [(0, false), (1, false), (2, false), (3, false), (4, false), (5, false), (7, false), (6, true), (8, true), (9, false), (10, false), (11, false), (12, false)] (by kernel_rfl) ?_
  refine Dv.fab rfl trivial rfl Try.underlying32 rfl Try.underlying3 c3 (by decide) ?_
  refine Dv.ldb rfl trivial rfl Try.underlying3 rfl (mem_at 1 rfl) rfl ?_
  refine Dv.fab rfl trivial rfl Try.underlying32 rfl Try.underlying3 c3 (by decide) ?_
  refine Dv.ldb rfl trivial rfl Try.underlying3 rfl (mem_at 0 rfl) rfl ?_
  obtain ⟨t667, h668, H⟩ := Gets.call H
  refine Dv.call rfl trivial cal66 rfl (cmp_Compare_66.c h668) ?_
  refine Dv.ldbs rfl trivial rfl Try.underlying32 rfl c32 (mem_at 1 rfl) (Nat.le_of_ble_eq_true rfl) ?_
  refine Dv.ldbs rfl trivial rfl Try.underlying32 rfl c32 (mem_at 0 rfl) (Nat.le_of_ble_eq_true rfl) ?_
  obtain ⟨t669, h670, H⟩ := Gets.call H
  refine Dv.callx (pre := []) (F := [blk b666 32 [eq (.int .i64 a1.fKind), eq (.string a1.fRoom), eq (.string a1.fUser), eq (.string a1.fEvent), eq (.string a1.fThread), eq (.bool a1.fPrivate), eq (.bool a1.fOn), eq (.int .i64 a1.fSpan), eq (.int .i64 a1.fState), eq (.int .i64 a1.fTick), eq (.int .i64 a1.fStamp)], blk b665 32 [eq (.int .i64 a0.fKind), eq (.string a0.fRoom), eq (.string a0.fUser), eq (.string a0.fEvent), eq (.string a0.fThread), eq (.bool a0.fPrivate), eq (.bool a0.fOn), eq (.int .i64 a0.fSpan), eq (.int .i64 a0.fState), eq (.int .i64 a0.fTick), eq (.int .i64 a0.fStamp)]] ++ F) (fun g671 : OV => [own (intK .u8) g671.1 t669, blk b666 32 [eq (.int .i64 a1.fKind), eq (.string a1.fRoom), eq (.string a1.fUser), eq (.string a1.fEvent), eq (.string a1.fThread), eq (.bool a1.fPrivate), eq (.bool a1.fOn), eq (.int .i64 a1.fSpan), eq (.int .i64 a1.fState), eq (.int .i64 a1.fTick), eq (.int .i64 a1.fStamp)], blk b665 32 [eq (.int .i64 a0.fKind), eq (.string a0.fRoom), eq (.string a0.fUser), eq (.string a0.fEvent), eq (.string a0.fThread), eq (.bool a0.fPrivate), eq (.bool a0.fOn), eq (.int .i64 a0.fSpan), eq (.int .i64 a0.fState), eq (.int .i64 a0.fTick), eq (.int .i64 a0.fStamp)]] ++ F) rfl trivial cal68 rfl (edu_laid.c h670) (perm_to (L := [blk b666 32 [eq (.int .i64 a1.fKind), eq (.string a1.fRoom), eq (.string a1.fUser), eq (.string a1.fEvent), eq (.string a1.fThread), eq (.bool a1.fPrivate), eq (.bool a1.fOn), eq (.int .i64 a1.fSpan), eq (.int .i64 a1.fState), eq (.int .i64 a1.fTick), eq (.int .i64 a1.fStamp)], blk b665 32 [eq (.int .i64 a0.fKind), eq (.string a0.fRoom), eq (.string a0.fUser), eq (.string a0.fEvent), eq (.string a0.fThread), eq (.bool a0.fPrivate), eq (.bool a0.fOn), eq (.int .i64 a0.fSpan), eq (.int .i64 a0.fState), eq (.int .i64 a0.fTick), eq (.int .i64 a0.fStamp)]]) (F := F) [0, 1] rfl rfl rfl) rfl (fun _ => pendc (pend_in (fun _ => (mem_at 1 rfl)) (pend_by (by kernel_rfl) (pend_by (by kernel_rfl) (pend_by (by kernel_rfl) (pend_by (by kernel_rfl) (pend_by (by kernel_rfl) (pend_by (by kernel_rfl) pend_nil)))))))) (fun g671 _ => ?_)
  obtain ⟨t672, h673, H⟩ := Gets.call H
  refine Dv.callx (pre := []) (F := [own (intK .u8) g671.1 t669, blk b666 32 [eq (.int .i64 a1.fKind), eq (.string a1.fRoom), eq (.string a1.fUser), eq (.string a1.fEvent), eq (.string a1.fThread), eq (.bool a1.fPrivate), eq (.bool a1.fOn), eq (.int .i64 a1.fSpan), eq (.int .i64 a1.fState), eq (.int .i64 a1.fTick), eq (.int .i64 a1.fStamp)], blk b665 32 [eq (.int .i64 a0.fKind), eq (.string a0.fRoom), eq (.string a0.fUser), eq (.string a0.fEvent), eq (.string a0.fThread), eq (.bool a0.fPrivate), eq (.bool a0.fOn), eq (.int .i64 a0.fSpan), eq (.int .i64 a0.fState), eq (.int .i64 a0.fTick), eq (.int .i64 a0.fStamp)]] ++ F) (fun g674 : OV => [own (intK .u8) g674.1 t672, own (intK .u8) g671.1 t669, blk b666 32 [eq (.int .i64 a1.fKind), eq (.string a1.fRoom), eq (.string a1.fUser), eq (.string a1.fEvent), eq (.string a1.fThread), eq (.bool a1.fPrivate), eq (.bool a1.fOn), eq (.int .i64 a1.fSpan), eq (.int .i64 a1.fState), eq (.int .i64 a1.fTick), eq (.int .i64 a1.fStamp)], blk b665 32 [eq (.int .i64 a0.fKind), eq (.string a0.fRoom), eq (.string a0.fUser), eq (.string a0.fEvent), eq (.string a0.fThread), eq (.bool a0.fPrivate), eq (.bool a0.fOn), eq (.int .i64 a0.fSpan), eq (.int .i64 a0.fState), eq (.int .i64 a0.fTick), eq (.int .i64 a0.fStamp)]] ++ F) rfl trivial cal68 rfl (edu_laid.c h673) (perm_to (L := [own (intK .u8) g671.1 t669, blk b666 32 [eq (.int .i64 a1.fKind), eq (.string a1.fRoom), eq (.string a1.fUser), eq (.string a1.fEvent), eq (.string a1.fThread), eq (.bool a1.fPrivate), eq (.bool a1.fOn), eq (.int .i64 a1.fSpan), eq (.int .i64 a1.fState), eq (.int .i64 a1.fTick), eq (.int .i64 a1.fStamp)], blk b665 32 [eq (.int .i64 a0.fKind), eq (.string a0.fRoom), eq (.string a0.fUser), eq (.string a0.fEvent), eq (.string a0.fThread), eq (.bool a0.fPrivate), eq (.bool a0.fOn), eq (.int .i64 a0.fSpan), eq (.int .i64 a0.fState), eq (.int .i64 a0.fTick), eq (.int .i64 a0.fStamp)]]) (F := F) [0, 1, 2] rfl rfl rfl) rfl (fun _ => pendc (pend_bits (by kernel_rfl))) (fun g674 _ => ?_)
  obtain ⟨t675, h676, H⟩ := Gets.call H
  refine Dv.calll (B := [own (intK .u8) g671.1 t669, own (intK .u8) g674.1 t672]) (F := [blk b666 32 [eq (.int .i64 a1.fKind), eq (.string a1.fRoom), eq (.string a1.fUser), eq (.string a1.fEvent), eq (.string a1.fThread), eq (.bool a1.fPrivate), eq (.bool a1.fOn), eq (.int .i64 a1.fSpan), eq (.int .i64 a1.fState), eq (.int .i64 a1.fTick), eq (.int .i64 a1.fStamp)], blk b665 32 [eq (.int .i64 a0.fKind), eq (.string a0.fRoom), eq (.string a0.fUser), eq (.string a0.fEvent), eq (.string a0.fThread), eq (.bool a0.fPrivate), eq (.bool a0.fOn), eq (.int .i64 a0.fSpan), eq (.int .i64 a0.fState), eq (.int .i64 a0.fTick), eq (.int .i64 a0.fStamp)]] ++ F) rfl trivial cal67 rfl (Pt.lend _ (bytes_Compare.c h676) (.cons (lt_own (mem_at 0 rfl)) (.cons (lt_own (mem_at 1 rfl)) .nil)) flat_eq) (perm_to (L := [own (intK .u8) g674.1 t672, own (intK .u8) g671.1 t669, blk b666 32 [eq (.int .i64 a1.fKind), eq (.string a1.fRoom), eq (.string a1.fUser), eq (.string a1.fEvent), eq (.string a1.fThread), eq (.bool a1.fPrivate), eq (.bool a1.fOn), eq (.int .i64 a1.fSpan), eq (.int .i64 a1.fState), eq (.int .i64 a1.fTick), eq (.int .i64 a1.fStamp)], blk b665 32 [eq (.int .i64 a0.fKind), eq (.string a0.fRoom), eq (.string a0.fUser), eq (.string a0.fEvent), eq (.string a0.fThread), eq (.bool a0.fPrivate), eq (.bool a0.fOn), eq (.int .i64 a0.fSpan), eq (.int .i64 a0.fState), eq (.int .i64 a0.fTick), eq (.int .i64 a0.fStamp)]]) (F := F) [1, 0, 2, 3] rfl rfl rfl) ?_
  refine Dv.lit (intK .i64) ([t667, t675] : List Int) (css := [[eq (.int .i64 t667)], [eq (.int .i64 t675)]]) rfl trivial Try.underlying38 Try.underlying3 c3 z3 rfl (by decide) (by decide) rfl ⟨(cells_one (one_eq rfl)), ⟨(cells_one (one_eq rfl)), trivial⟩⟩ rfl rfl rfl ?_
  obtain ⟨t677, h678, H⟩ := Gets.call H
  refine Dv.call rfl trivial cal45 rfl (cmp_Or.c h678) ?_
  refine Dv.asg rfl trivial rfl ?_
  refine .fin ?_
  obtain rfl := Gets.out H
  exact WP.retL (fun _ _ h => h) rfl () trivial (.cons (res_tmp rfl) .nil) rfl (st_sel (L := [own (intK .u8) g674.1 t672, own (intK .u8) g671.1 t669, blk b666 32 [eq (.int .i64 a1.fKind), eq (.string a1.fRoom), eq (.string a1.fUser), eq (.string a1.fEvent), eq (.string a1.fThread), eq (.bool a1.fPrivate), eq (.bool a1.fOn), eq (.int .i64 a1.fSpan), eq (.int .i64 a1.fState), eq (.int .i64 a1.fTick), eq (.int .i64 a1.fStamp)], blk b665 32 [eq (.int .i64 a0.fKind), eq (.string a0.fRoom), eq (.string a0.fUser), eq (.string a0.fEvent), eq (.string a0.fThread), eq (.bool a0.fPrivate), eq (.bool a0.fOn), eq (.int .i64 a0.fSpan), eq (.int .i64 a0.fState), eq (.int .i64 a0.fTick), eq (.int .i64 a0.fStamp)]]) (F := F) [0, 1, 2, 3] 4 rfl rfl rfl)
theorem edu_Later.c {k : Nat} {a0 : Edu} {a1 : Edu} {r : Bool} (h : edu_Later.f k a0 a1 = some r) : Pt Try.prog 30 [agg (Edu.enc a0), agg (Edu.enc a1)] (eq (.bool r)) := by
  unfold edu_Later.f at h
  refine (Tr.body Try.func30 (c := _) rfl Try.ntmps30 (Nat.le_of_ble_eq_true rfl) fun R0 F => ?_).pt
  replace h := Gets.of h
  have H := h
  clear h
  refine WP.seq ?_
  refine WP.reg [(0, true), (1, true), (2, false)] (by kernel_rfl) ?_
  refine Dv.box rfl trivial rfl (cells_agg (Edu.K.one _)) nofun (fun b679 => ?_)
  refine Dv.box rfl trivial rfl (cells_agg (Edu.K.one _)) nofun (fun b680 => ?_)
  refine Dv.asg rfl trivial rfl ?_
  refine .fin ?_
  refine WP.seq ?_
  refine WP.dreg Try.checked.mixed [(0, false), (1, false), (2, false), (3, false), (4, false), (5, false), (6, false), (7, false), (8, false), (9, false), (10, false), (11, false)] (by kernel_rfl) ?_
  refine Dv.ldbs rfl trivial rfl Try.underlying32 rfl c32 (mem_at 1 rfl) (Nat.le_of_ble_eq_true rfl) ?_
  obtain ⟨t681, h682, H⟩ := Gets.call H
  refine Dv.call rfl trivial cal47 rfl (edu_Of.c h682) ?_
  refine Dv.ldbs rfl trivial rfl Try.underlying32 rfl c32 (mem_at 0 rfl) (Nat.le_of_ble_eq_true rfl) ?_
  obtain ⟨t683, h684, H⟩ := Gets.call H
  refine Dv.call rfl trivial cal47 rfl (edu_Of.c h684) ?_
  refine Dv.eqs [.int .i64 t681.fKind, .string t681.fRoom, .string t681.fUser, .string t681.fThread, .bool t681.fPrivate] [.int .i64 t683.fKind, .string t683.fRoom, .string t683.fUser, .string t683.fThread, .bool t683.fPrivate] rfl trivial rfl rfl rfl rfl eg82 (fun _ => equal_of 2 (by decide) (fun _ => eqt82 t681 t683)) ?_
  refine Dv.mv rfl trivial rfl ?_
  cases c685 : decide (t681 = t683)
  · replace H := Gets.cf H c685
    refine Dv.skip rfl ⟨_, _, rfl, rfl, .inl rfl⟩ ?_
    refine Dv.skip rfl ⟨_, _, rfl, rfl, .inl rfl⟩ ?_
    refine Dv.skip rfl ⟨_, _, rfl, rfl, .inl rfl⟩ ?_
    refine Dv.skip rfl ⟨_, _, rfl, rfl, .inl rfl⟩ ?_
    refine Dv.pickF rfl trivial rfl rfl ?_
    refine Dv.asg rfl trivial rfl ?_
    refine .fin ?_
    obtain rfl := Gets.out H
    exact WP.retL (fun _ _ h => h) rfl () trivial (.cons (res_tmp rfl) .nil) rfl (st_sel (L := [blk b680 32 [eq (.int .i64 a1.fKind), eq (.string a1.fRoom), eq (.string a1.fUser), eq (.string a1.fEvent), eq (.string a1.fThread), eq (.bool a1.fPrivate), eq (.bool a1.fOn), eq (.int .i64 a1.fSpan), eq (.int .i64 a1.fState), eq (.int .i64 a1.fTick), eq (.int .i64 a1.fStamp)], blk b679 32 [eq (.int .i64 a0.fKind), eq (.string a0.fRoom), eq (.string a0.fUser), eq (.string a0.fEvent), eq (.string a0.fThread), eq (.bool a0.fPrivate), eq (.bool a0.fOn), eq (.int .i64 a0.fSpan), eq (.int .i64 a0.fState), eq (.int .i64 a0.fTick), eq (.int .i64 a0.fStamp)]]) (F := F) [0, 1] 2 rfl rfl rfl)
  · replace H := Gets.ct H c685
    refine Dv.ldbs rfl ⟨_, _, rfl, rfl, rfl⟩ rfl Try.underlying32 rfl c32 (mem_at 1 rfl) (Nat.le_of_ble_eq_true rfl) ?_
    refine Dv.ldbs rfl ⟨_, _, rfl, rfl, rfl⟩ rfl Try.underlying32 rfl c32 (mem_at 0 rfl) (Nat.le_of_ble_eq_true rfl) ?_
    obtain ⟨t686, h687, H⟩ := Gets.call H
    refine Dv.call rfl ⟨_, _, rfl, rfl, rfl⟩ cal48 rfl (edu_Compare.c h687) ?_
    refine Dv.bin rfl ⟨_, _, rfl, rfl, rfl⟩ rfl rfl (fun _ => run_gt) ?_
    refine Dv.pickT rfl trivial rfl rfl ?_
    refine Dv.asg rfl trivial rfl ?_
    refine .fin ?_
    obtain rfl := Gets.out H
    exact WP.retL (fun _ _ h => h) rfl () trivial (.cons (res_tmp rfl) .nil) rfl (st_sel (L := [blk b680 32 [eq (.int .i64 a1.fKind), eq (.string a1.fRoom), eq (.string a1.fUser), eq (.string a1.fEvent), eq (.string a1.fThread), eq (.bool a1.fPrivate), eq (.bool a1.fOn), eq (.int .i64 a1.fSpan), eq (.int .i64 a1.fState), eq (.int .i64 a1.fTick), eq (.int .i64 a1.fStamp)], blk b679 32 [eq (.int .i64 a0.fKind), eq (.string a0.fRoom), eq (.string a0.fUser), eq (.string a0.fEvent), eq (.string a0.fThread), eq (.bool a0.fPrivate), eq (.bool a0.fOn), eq (.int .i64 a0.fSpan), eq (.int .i64 a0.fState), eq (.int .i64 a0.fTick), eq (.int .i64 a0.fStamp)]]) (F := F) [0, 1] 2 rfl rfl rfl)
theorem slices_Insert.c {a0 : List Edu} {a1 : Int} {a2 : List Edu} {p0_ : OV} {r : List Edu} (h : slices_Insert.f a0 a1 a2 = some r) : Tr Try.prog 31 [eq p0_.1, eq (.int .i64 a1), sl Edu.K a2] [own Edu.K p0_.1 a0] (γ := OV) (fun _ => True) (fun g => eq g.1) (fun g => [own Edu.K g.1 r]) := by
  unfold slices_Insert.f at h
  obtain ⟨⟨h0, h1, h2, h3, h4⟩, h5⟩ := (Gets.of h).grd
  obtain rfl := Gets.out h5
  clear h h5
  obtain ⟨i, rfl⟩ := Int.eq_ofNat_of_zero_le h0
  have hi : i ≤ a0.length := by omega
  obtain ⟨v, hv⟩ := p0_
  obtain ⟨ti, i1, i2, i3, i4⟩ := inf32
  refine Tr.body Try.func31 (c := _) rfl Try.ntmps31 (Nat.le_of_ble_eq_true rfl) fun R0 F => ?_
  refine WP.seq ?_
  refine WP.reg [(0, false)] (by kernel_rfl) ?_
  refine Dv.asg rfl trivial rfl ?_
  refine .fin ?_
  refine WP.seq ?_
  refine WP.reg [(0, false), (1, false), (2, false)] (by kernel_rfl) ?_
  refine Dv.mv rfl trivial rfl ?_
  refine Dv.mv rfl trivial rfl ?_
  refine Dv.sloa (Kd := Edu.K) (xs := a0) (v := v) rfl trivial rfl (mem_at 0 rfl) Try.underlying22 Try.underlying32 c32 (bdE_nat (m := i) rfl) hi ?_
  refine .fin ?_
  refine WP.seq ?_
  refine WP.reg [(0, false), (1, false), (2, false)] (by kernel_rfl) ?_
  refine Dv.mv rfl trivial rfl ?_
  refine Dv.lenl rfl trivial rfl Try.underlying22 ?_
  refine Dv.asg rfl trivial rfl ?_
  refine .fin ?_
  refine WP.seq ?_
  refine WP.seq ?_
  refine WP.reg [(0, false), (1, false)] (by kernel_rfl) ?_
  refine Dv.mv rfl trivial rfl ?_
  refine Dv.bin rfl trivial rfl rfl (fun _ => run_eq) ?_
  refine .fin ?_
  refine WP.cond rfl (fun c0 => ?_) (fun c0 => ?_)
  · exfalso; have := beq_iff_eq.1 c0; omega
  refine WP.skip ?_
  refine WP.seq ?_
  refine WP.reg [(0, false), (1, false), (2, false)] (by kernel_rfl) ?_
  refine Dv.mv rfl trivial rfl ?_
  refine Dv.lenw (Kd := Edu.K) (xs := a0) (v := v) rfl trivial rfl (mem_at 0 rfl) Try.underlying22 ?_
  refine Dv.asg rfl trivial rfl ?_
  refine .fin ?_
  refine WP.seq ?_
  refine WP.seq ?_
  refine WP.reg [(0, false), (1, false), (2, false)] (by kernel_rfl) ?_
  refine Dv.mv rfl trivial rfl ?_
  refine Dv.mv rfl trivial rfl ?_
  refine Dv.bin rfl trivial rfl rfl (fun _ => run_eq) ?_
  refine .fin ?_
  refine WP.cond rfl (fun c1 => ?_) (fun c1 => ?_)
  · have e1 : i = a0.length := by have := beq_iff_eq.1 c1; omega
    subst e1
    refine WP.seq ?_
    refine WP.reg [(0, false), (1, false), (2, true), (3, false)] (by kernel_rfl) ?_
    refine Dv.mv rfl trivial rfl ?_
    refine Dv.mv rfl trivial rfl ?_
    refine Dv.appx (Kd := Edu.K) (xs := a0) (v := v) (jj := 0) (ys := a2) (fun v1 : OV => [own Edu.K v1.1 (a0 ++ a2)] ++ F) rfl trivial rfl rfl rfl src_sl Try.underlying22 (.inr ⟨_, Try.underlying22⟩) inf32 rfl (by decide) (by omega) rfl nofun (fun v1 => ?_)
    refine Dv.asg rfl trivial rfl ?_
    refine .fin ?_
    have e2 : a0.take (a0.length : Int).toNat ++ a2 ++ a0.drop (a0.length : Int).toNat = a0 ++ a2 := by simp
    rw [e2]
    exact WP.retL (fun _ _ h => h) rfl v1 trivial (.cons (res_tmp rfl) .nil) rfl (st_sel (L := [own Edu.K v1.1 (a0 ++ a2)]) (F := F) [0] 0 rfl rfl rfl)
  refine WP.skip ?_
  have hlt : i < a0.length := by have : ¬ ((i : Int) = (a0.length : Int)) := by simpa using c1
                                 omega
  have hne : a0 ≠ [] := by intro e; subst e; simp at hlt
  rw [Int.toNat_natCast]
  refine WP.gh (gh_of (st_own_blk 0 rfl hne)) (fun g hg => ?_)
  rcases g with ⟨b, off, c, bT, A, C⟩
  change v = .slice (some ⟨b, off, none⟩) a0.length c ∧ a0.length ≤ c ∧ A.length = off ∧ off + c * Edu.K.sz ≤ (A ++ a0.flatMap Edu.K.enc ++ C).length at hg
  obtain ⟨rfl, hc, hA, hlen⟩ := hg
  change WP _ _ _ _ _ _ (blk b bT (A ++ a0.flatMap Edu.K.enc ++ C) :: F)
  have hsz : 0 < Edu.K.sz := by decide
  have ml : ∀ {p q : Nat}, p ≤ q → p * Edu.K.sz ≤ q * Edu.K.sz := fun h => Nat.mul_le_mul_right _ h
  have fl : (A ++ a0.flatMap Edu.K.enc ++ C).length = off + a0.length * Edu.K.sz + C.length := by rw [List.length_append, List.length_append, flatMap_len, hA]
  have fd : ((a0.drop i).flatMap Edu.K.enc).length = (a0.length - i) * Edu.K.sz := by rw [flatMap_len, List.length_drop]
  have fy : (a2.flatMap Edu.K.enc).length = a2.length * Edu.K.sz := flatMap_len _
  have s1 : i * Edu.K.sz + a2.length * Edu.K.sz + (a0.length - i) * Edu.K.sz = (a0.length + a2.length) * Edu.K.sz := by rw [← Nat.add_mul, ← Nat.add_mul]; congr 1; omega
  have s2 : (i + a2.length) * Edu.K.sz = i * Edu.K.sz + a2.length * Edu.K.sz := Nat.add_mul ..
  have zl : (a0.take i ++ a2 ++ a0.drop i).length = a0.length + a2.length := by simp only [List.length_append, List.length_take, List.length_drop]; omega
  refine WP.seq ?_
  refine WP.seq ?_
  refine WP.reg [(0, false), (1, false), (2, false), (3, false), (4, false), (5, false)] (by kernel_rfl) ?_
  refine Dv.mv rfl trivial rfl ?_
  refine Dv.mv rfl trivial rfl ?_
  refine Dv.bin rfl trivial rfl rfl (fun _ => run_addn (a := a0.length) (b := a2.length) (by omega)) ?_
  refine Dv.mv rfl trivial rfl ?_
  refine Dv.capk rfl trivial rfl Try.underlying22 ?_
  refine Dv.bin rfl trivial rfl rfl (fun _ => run_gt) ?_
  refine .fin ?_
  refine WP.cond rfl (fun c2 => ?_) (fun c2 => ?_)
  · have hg : c < a0.length + a2.length := by have := of_decide_eq_true c2; omega
    refine WP.seq ?_
    refine WP.reg [(0, false), (1, false), (2, false), (3, false), (4, false), (5, false), (6, false), (7, false), (8, true), (9, false)] (by kernel_rfl) ?_
    refine Dv.mv rfl trivial rfl ?_
    refine Dv.mv rfl trivial rfl ?_
    refine Dv.slkm (o' := off) (m' := i) (c' := c) rfl trivial rfl Try.underlying22 Try.underlying32 c32 bdE_none (bdE_nat (m := i) rfl) (Nat.zero_le _) (by omega) (.inr rfl) (by simp) (by simp) (by simp) ?_
    refine Dv.mv rfl trivial rfl ?_
    refine Dv.mv rfl trivial rfl ?_
    refine Dv.bin rfl trivial rfl rfl (fun _ => run_addn (a := a0.length) (b := a2.length) (by omega)) ?_
    refine Dv.mv rfl trivial rfl ?_
    refine Dv.bin rfl trivial rfl rfl (fun _ => run_subn (a := a0.length + a2.length) (b := i) (by omega) (by omega)) ?_
    refine Dv.apmn (sz := Edu.K.sz) (jj := 0) (k1 := a0.length + a2.length - i) (N := a0.length + a2.length) (Q := (a0.take i).flatMap Edu.K.enc) rfl trivial rfl rfl Try.underlying22 Try.underlying3 i1 i2 i3 i4 rfl (by decide) (by omega) (by omega) hg (by omega) h4 rfl ?_ (ins_pre (Kd := Edu.K) hi hA) nofun (fun w hw => ?_)
    · rw [fl]; have := ml (Nat.le_of_lt hlt); omega
    rcases w with ⟨b2, nc⟩
    replace hw : a0.length + a2.length ≤ nc := hw
    refine Dv.asg rfl trivial rfl ?_
    refine .fin ?_
    generalize hZ : (Builtin.zeroCells (Value.cells _) ((b2, nc).2 - i)).toList.map eq = Z
    have zz : Z.length = (nc - i) * Edu.K.sz := by rw [← hZ, List.length_map, Array.length_toList, Builtin.zeroCells, Array.size_map, Array.size_range]; rfl
    have ft : ((a0.take i).flatMap Edu.K.enc ++ Z).length = nc * Edu.K.sz := by rw [List.length_append, flatMap_len, List.length_take, Nat.min_eq_left hi, zz, ← Nat.add_mul]; congr 1; omega
    have s3 := ml hw
    have s4 : i * Edu.K.sz + (a0.length - i) * Edu.K.sz = a0.length * Edu.K.sz := by rw [← Nat.add_mul]; congr 1; omega
    refine WP.seq ?_
    refine WP.reg [(0, false), (1, false), (2, false), (3, false), (4, true)] (by kernel_rfl) ?_
    refine Dv.mv rfl trivial rfl ?_
    refine Dv.mv rfl trivial rfl ?_
    refine Dv.slkm (o' := i * Edu.K.sz) (m' := a0.length + a2.length - i) (c' := nc - i) rfl trivial rfl Try.underlying22 Try.underlying32 c32 (bdE_nat (m := i) rfl) bdE_none (by omega) hw (.inl (Nat.lt_of_lt_of_le (by omega) hw)) (Nat.zero_add _) rfl rfl ?_
    refine Dv.mv rfl trivial rfl ?_
    refine Dv.cpkn (jj := 0) (kk := a2.length) rfl trivial rfl rfl Try.underlying22 Try.underlying32 c32 srcN_all (by omega) rfl ?_ nofun ?_
    · rw [ft, fy]; omega
    refine .fin ?_
    have l1 : (spl ((a0.take i).flatMap Edu.K.enc ++ Z) (i * Edu.K.sz) (a2.flatMap Edu.K.enc)).length = nc * Edu.K.sz := by rw [spl_len (by rw [ft, fy]; omega), ft]
    refine WP.seq ?_
    refine WP.dreg Try.checked.mixed [(0, false), (1, false), (2, false), (3, false), (4, false), (5, false), (6, false), (7, false), (8, true)] (by kernel_rfl) ?_
    refine Dv.mv rfl trivial rfl ?_
    refine Dv.mv rfl trivial rfl ?_
    refine Dv.mv rfl trivial rfl ?_
    refine Dv.bin rfl trivial rfl rfl (fun _ => run_addn (a := i) (b := a2.length) (by omega)) ?_
    refine Dv.slkm (o' := (i + a2.length) * Edu.K.sz) (m' := a0.length - i) (c' := nc - (i + a2.length)) rfl trivial rfl Try.underlying22 Try.underlying32 c32 (bdE_nat (m := i + a2.length) rfl) bdE_none (by omega) hw (.inl (Nat.lt_of_lt_of_le (by omega) hw)) (Nat.zero_add _) (by omega) rfl ?_
    refine Dv.mv rfl trivial rfl ?_
    refine Dv.mv rfl trivial rfl ?_
    refine Dv.slkm (o' := off + i * Edu.K.sz) (m' := a0.length - i) (c' := c - i) rfl trivial rfl Try.underlying22 Try.underlying32 c32 (bdE_nat (m := i) rfl) bdE_none hi hc (.inl (by omega)) rfl rfl rfl ?_
    refine Dv.cpkn (jj := 0) (kk := a0.length - i) rfl trivial rfl rfl Try.underlying22 Try.underlying32 c32 (srcN_own (mem_at 1 rfl) hi hA) (Nat.min_self _) rfl ?_ (fun _ => pend_bits (by kernel_rfl)) ?_
    · rw [l1, fd]; omega
    refine .fin ?_
    have l2 : (spl (spl ((a0.take i).flatMap Edu.K.enc ++ Z) (i * Edu.K.sz) (a2.flatMap Edu.K.enc)) ((i + a2.length) * Edu.K.sz) ((a0.drop i).flatMap Edu.K.enc)).length = nc * Edu.K.sz := by rw [spl_len (by rw [l1, fd]; omega), l1]
    refine WP.seq ?_
    refine WP.reg [(0, false), (1, false)] (by kernel_rfl) ?_
    refine Dv.mv rfl trivial rfl ?_
    refine Dv.asg rfl trivial rfl ?_
    refine .fin ?_
    refine WP.gh (gh_of (st_blk_own (Kd := Edu.K) (off := 0) (n := a0.length + a2.length) (c := nc) (zs := a0.take i ++ a2 ++ a0.drop i) 0 rfl zl hw (by rw [l2]; omega) (ins_new hi))) (fun _ _ => ?_)
    exact WP.retL (fun _ _ h => h) rfl (⟨.slice (some ⟨b2, 0, none⟩) (a0.length + a2.length) nc, rfl⟩ : OV) trivial (.cons (res_tmp rfl) .nil) rfl (st_sel (L := [own Edu.K (.slice (some ⟨b2, 0, none⟩) (a0.length + a2.length) nc) (a0.take i ++ a2 ++ a0.drop i), blk b bT (A ++ a0.flatMap Edu.K.enc ++ C)]) (F := F) [1, 0] 1 rfl rfl rfl)
  have hg : a0.length + a2.length ≤ c := by have := of_decide_eq_false c2; omega
  refine WP.skip ?_
  have s3 := ml hg
  refine WP.seq ?_
  refine WP.reg [(0, false), (1, false), (2, false), (3, false), (4, false), (5, false)] (by kernel_rfl) ?_
  refine Dv.mv rfl trivial rfl ?_
  refine Dv.mv rfl trivial rfl ?_
  refine Dv.mv rfl trivial rfl ?_
  refine Dv.bin rfl trivial rfl rfl (fun _ => run_addn (a := a0.length) (b := a2.length) (by omega)) ?_
  refine Dv.slkm (o' := off) (m' := a0.length + a2.length) (c' := c) rfl trivial rfl Try.underlying22 Try.underlying32 c32 bdE_none (bdE_nat (m := a0.length + a2.length) rfl) (Nat.zero_le _) hg (.inr rfl) (by simp) (by simp) (by simp) ?_
  refine Dv.asg rfl trivial rfl ?_
  refine .fin ?_
  refine WP.seq ?_
  refine WP.seq ?_
  refine WP.reg [(0, false), (1, false), (2, false), (3, false), (4, false), (5, false), (6, false), (7, false)] (by kernel_rfl) ?_
  refine Dv.mv rfl trivial rfl ?_
  refine Dv.mv rfl trivial rfl ?_
  refine Dv.mv rfl trivial rfl ?_
  refine Dv.mv rfl trivial rfl ?_
  refine Dv.bin rfl trivial rfl rfl (fun _ => run_addn (a := i) (b := a2.length) (by omega)) ?_
  refine Dv.slkm (o' := off + (i + a2.length) * Edu.K.sz) (m' := a0.length - i) (c' := c - (i + a2.length)) rfl trivial rfl Try.underlying22 Try.underlying32 c32 (bdE_nat (m := i + a2.length) rfl) bdE_none (by omega) hg (.inl (Nat.lt_of_lt_of_le (by omega) hg)) rfl (by omega) rfl ?_
  refine Dv.ovl rfl trivial rfl rfl (mem_at 0 rfl) h2 hsz Try.func49 (by kernel_rfl) rfl xf49 xg49 rfl Try.underlying22 Try.underlying32 ?_
  refine Dv.un rfl trivial rfl (fun _ => run_not _) ?_
  refine .fin ?_
  refine WP.cond rfl (fun c3 => ?_) (fun c3 => by cases c3)
  refine WP.seq ?_
  refine WP.dreg Try.checked.mixed [(0, false), (1, false), (2, false), (3, false), (4, false), (5, false), (6, false), (7, false), (8, true)] (by kernel_rfl) ?_
  refine Dv.mv rfl trivial rfl ?_
  refine Dv.mv rfl trivial rfl ?_
  refine Dv.mv rfl trivial rfl ?_
  refine Dv.bin rfl trivial rfl rfl (fun _ => run_addn (a := i) (b := a2.length) (by omega)) ?_
  refine Dv.slkm (o' := off + (i + a2.length) * Edu.K.sz) (m' := a0.length - i) (c' := c - (i + a2.length)) rfl trivial rfl Try.underlying22 Try.underlying32 c32 (bdE_nat (m := i + a2.length) rfl) bdE_none (by omega) hg (.inl (Nat.lt_of_lt_of_le (by omega) hg)) rfl (by omega) rfl ?_
  refine Dv.mv rfl trivial rfl ?_
  refine Dv.mv rfl trivial rfl ?_
  refine Dv.slkm (o' := off + i * Edu.K.sz) (m' := a0.length + a2.length - i) (c' := c - i) rfl trivial rfl Try.underlying22 Try.underlying32 c32 (bdE_nat (m := i) rfl) bdE_none (by omega) hg (.inl (by omega)) rfl rfl rfl ?_
  refine Dv.cpkn (jj := 0) (kk := a0.length - i) rfl trivial rfl rfl Try.underlying22 Try.underlying32 c32 (srcN_own (mem_at 0 rfl) hi hA) (by omega) rfl ?_ (fun _ => pend_bits (by kernel_rfl)) ?_
  · rw [fd]; omega
  refine .fin ?_
  have l1 : (spl (A ++ a0.flatMap Edu.K.enc ++ C) (off + (i + a2.length) * Edu.K.sz) ((a0.drop i).flatMap Edu.K.enc)).length = (A ++ a0.flatMap Edu.K.enc ++ C).length := spl_len (by rw [fd]; omega)
  refine WP.seq ?_
  refine WP.reg [(0, false), (1, false), (2, false), (3, false), (4, true)] (by kernel_rfl) ?_
  refine Dv.mv rfl trivial rfl ?_
  refine Dv.mv rfl trivial rfl ?_
  refine Dv.slkm (o' := off + i * Edu.K.sz) (m' := a0.length + a2.length - i) (c' := c - i) rfl trivial rfl Try.underlying22 Try.underlying32 c32 (bdE_nat (m := i) rfl) bdE_none (by omega) hg (.inl (by omega)) rfl rfl rfl ?_
  refine Dv.mv rfl trivial rfl ?_
  refine Dv.cpkn (jj := 0) (kk := a2.length) rfl trivial rfl rfl Try.underlying22 Try.underlying32 c32 srcN_all (by omega) rfl ?_ nofun ?_
  · rw [l1, fy]; omega
  refine .fin ?_
  refine WP.seq ?_
  refine WP.reg [(0, false), (1, false)] (by kernel_rfl) ?_
  refine Dv.mv rfl trivial rfl ?_
  refine Dv.asg rfl trivial rfl ?_
  refine .fin ?_
  refine WP.gh (gh_of (st_blk_own (Kd := Edu.K) (off := off) (n := a0.length + a2.length) (c := c) (zs := a0.take i ++ a2 ++ a0.drop i) 0 rfl zl hg (by rw [spl_len (by rw [l1, fy]; omega), l1]; exact hlen) (ins_old hi hA (by omega)))) (fun _ _ => ?_)
  exact WP.retL (fun _ _ h => h) rfl (⟨.slice (some ⟨b, off, none⟩) (a0.length + a2.length) c, rfl⟩ : OV) trivial (.cons (res_tmp rfl) .nil) rfl (st_sel (L := [own Edu.K (.slice (some ⟨b, off, none⟩) (a0.length + a2.length) c) (a0.take i ++ a2 ++ a0.drop i)]) (F := F) [0] 0 rfl rfl rfl)
theorem heap_Heap_set.c {a0 : HHeap} {a1 : Int} {a2 : HEnt} {p0_ : OV} {r : HHeap} (h : heap_Heap_set.f a0 a1 a2 = some r) : Tr Try.prog 51 [eq p0_.1, eq (.int .i64 a1), agg (HEnt.enc a2)] [HHeap.O p0_ a0] (γ := Unit) (fun _ => True) (fun g => tup []) (fun g => [HHeap.O p0_ r]) := by
  unfold heap_Heap_set.f at h
  refine Tr.body Try.func51 (c := _) rfl Try.ntmps51 (Nat.le_of_ble_eq_true rfl) fun R0 F => ?_
  replace h := Gets.of h
  have H := h
  clear h
  refine WP.seq ?_
  refine WP.reg [(0, true)] (by kernel_rfl) ?_
  refine Dv.box rfl trivial rfl (cells_agg (HEnt.K.one _)) nofun (fun b693 => ?_)
  refine .fin ?_
  refine WP.seq ?_
  refine WP.gh (l' := fun (g694 : Nat × OV × OV) => [blk g694.1 77 [eq g694.2.1.1, eq g694.2.2.1], own HEnt.K g694.2.1.1 a0.fl, mp Value.string (fun x : Int => eq (.int .i64 x)) g694.2.2.1 a0.fat, blk b693 71 [eq (.int .i64 a2.fAt), eq (.string a2.fKey)]] ++ F) (gh_of (HHeap.opn 1 rfl)) (fun g694 h695 => ?_)
  refine WP.dreg Try.checked.mixed [(0, false), (1, false), (2, false), (3, false), (4, false), (5, false), (6, false), (7, true)] (by kernel_rfl) ?_
  refine Dv.mv rfl trivial rfl ?_
  refine Dv.nilpp h695 rfl trivial rfl ?_
  refine Dv.fabp h695 rfl trivial rfl Try.underlying77 rfl Try.underlying75 c75 (by decide) ?_
  refine Dv.ldb rfl trivial rfl Try.underlying75 rfl (mem_at 0 rfl) rfl ?_
  refine Dv.mv rfl trivial rfl ?_
  refine Dv.ldbs rfl trivial rfl Try.underlying71 rfl c71 (mem_at 3 rfl) (Nat.le_of_ble_eq_true rfl) ?_
  obtain ⟨g696, H⟩ := Gets.grd H
  have h697 : a1.toNat < a0.fl.length := idx_lt g696
  refine Dv.ixw rfl trivial rfl (mem_at 1 rfl) rfl Try.underlying75 Try.underlying71 c71 g696.1 g696.2 ?_
  refine Dv.stw (j := a1.toNat) (f := 0) (jj := 1) a2 rfl trivial rfl rfl (cells_agg (HEnt.K.one _)) Try.underlying71 c71 rfl rfl h697 (Nat.le_of_ble_eq_true rfl) rfl (fun _ => pend_bits (by kernel_rfl)) ?_
  refine .fin ?_
  refine WP.dreg Try.checked.mixed [(0, false), (1, false), (2, false), (3, false), (4, false), (5, false), (6, false), (7, true)] (by kernel_rfl) ?_
  refine Dv.mv rfl trivial rfl ?_
  refine Dv.nilpp h695 rfl trivial rfl ?_
  refine Dv.fabp h695 rfl trivial rfl Try.underlying77 rfl Try.underlying74 c74 (by decide) ?_
  refine Dv.ldb rfl trivial rfl Try.underlying74 rfl (mem_at 0 rfl) rfl ?_
  refine Dv.fab rfl trivial rfl Try.underlying71 rfl Try.underlying9 c9 (by decide) ?_
  refine Dv.ldb rfl trivial rfl Try.underlying9 rfl (mem_at 3 rfl) rfl ?_
  refine Dv.mv rfl trivial rfl ?_
  refine Dv.mup (jj := 2) a1 rfl trivial rfl rfl rfl rfl Try.underlying74 (keyOk_str Try.underlying9) (fun _ => pend_bits (by kernel_rfl)) ?_
  refine .fin ?_
  refine Dn.gh (l' := fun _ : Unit => [HHeap.O p0_ (⟨a0.fl.set a1.toNat a2, mput a0.fat a2.fKey a1⟩ : HHeap), blk b693 71 [eq (.int .i64 a2.fAt), eq (.string a2.fKey)]] ++ F) (gh_of (HHeap.shut (p := p0_) (m := (⟨a0.fl.set a1.toNat a2, mput a0.fat a2.fKey a1⟩ : HHeap)) (r := [blk b693 71 [eq (.int .i64 a2.fAt), eq (.string a2.fKey)]] ++ F) (g694.1, g694.2.1, g694.2.2) h695 (perm_to (L := [blk g694.1 77 [eq g694.2.1.1, eq g694.2.2.1], own HEnt.K g694.2.1.1 (a0.fl.set a1.toNat a2), mp Value.string (fun x : Int => eq (.int .i64 x)) g694.2.2.1 (mput a0.fat a2.fKey a1), blk b693 71 [eq (.int .i64 a2.fAt), eq (.string a2.fKey)]]) (F := F) [0, 1, 2, 3] rfl rfl rfl))) (fun _ _ => ?_)
  obtain rfl := Gets.out H
  exact res_end rfl () trivial .nil rfl (st_sel (L := [HHeap.O p0_ (⟨a0.fl.set a1.toNat a2, mput a0.fat a2.fKey a1⟩ : HHeap), blk b693 71 [eq (.int .i64 a2.fAt), eq (.string a2.fKey)]]) (F := F) [1, 0] 1 rfl rfl rfl)
theorem heap_ahead.c {k : Nat} {a0 : HEnt} {a1 : HEnt} {r : Int} (h : heap_ahead.f k a0 a1 = some r) : Pt Try.prog 70 [agg (HEnt.enc a0), agg (HEnt.enc a1)] (eq (.int .i64 r)) := by
  unfold heap_ahead.f at h
  refine (Tr.body Try.func70 (c := _) rfl Try.ntmps70 (Nat.le_of_ble_eq_true rfl) fun R0 F => ?_).pt
  replace h := Gets.of h
  have H := h
  clear h
  refine WP.seq ?_
  refine WP.reg [(0, true), (1, true), (2, false)] (by kernel_rfl) ?_
  refine Dv.box rfl trivial rfl (cells_agg (HEnt.K.one _)) nofun (fun b698 => ?_)
  refine Dv.box rfl trivial rfl (cells_agg (HEnt.K.one _)) nofun (fun b699 => ?_)
  refine Dv.asg rfl trivial rfl ?_
  refine .fin ?_
  refine WP.seq ?_
  refine WP.dreg Try.checked.mixed [(0, false), (1, false), (2, false), (3, false), (4, false), (5, false), (6, false), (7, false), (8, false), (9, false), (10, false), (11, false), (12, false)] (by kernel_rfl) ?_
  refine Dv.fab rfl trivial rfl Try.underlying71 rfl Try.underlying3 c3 (by decide) ?_
  refine Dv.ldb rfl trivial rfl Try.underlying3 rfl (mem_at 1 rfl) rfl ?_
  refine Dv.fab rfl trivial rfl Try.underlying71 rfl Try.underlying3 c3 (by decide) ?_
  refine Dv.ldb rfl trivial rfl Try.underlying3 rfl (mem_at 0 rfl) rfl ?_
  obtain ⟨t700, h701, H⟩ := Gets.call H
  refine Dv.call rfl trivial cal66 rfl (cmp_Compare_66.c h701) ?_
  refine Dv.fab rfl trivial rfl Try.underlying71 rfl Try.underlying9 c9 (by decide) ?_
  refine Dv.ldb rfl trivial rfl Try.underlying9 rfl (mem_at 1 rfl) rfl ?_
  refine Dv.fab rfl trivial rfl Try.underlying71 rfl Try.underlying9 c9 (by decide) ?_
  refine Dv.ldb rfl trivial rfl Try.underlying9 rfl (mem_at 0 rfl) rfl ?_
  obtain ⟨t702, h703, H⟩ := Gets.call H
  refine Dv.call rfl trivial cal46 rfl (cmp_Compare.c h703) ?_
  refine Dv.lit (intK .i64) ([t700, t702] : List Int) (css := [[eq (.int .i64 t700)], [eq (.int .i64 t702)]]) rfl trivial Try.underlying38 Try.underlying3 c3 z3 rfl (by decide) (by decide) rfl ⟨(cells_one (one_eq rfl)), ⟨(cells_one (one_eq rfl)), trivial⟩⟩ rfl rfl rfl ?_
  obtain ⟨t704, h705, H⟩ := Gets.call H
  refine Dv.call rfl trivial cal45 rfl (cmp_Or.c h705) ?_
  refine Dv.asg rfl trivial rfl ?_
  refine .fin ?_
  obtain rfl := Gets.out H
  exact WP.retL (fun _ _ h => h) rfl () trivial (.cons (res_tmp rfl) .nil) rfl (st_sel (L := [blk b699 71 [eq (.int .i64 a1.fAt), eq (.string a1.fKey)], blk b698 71 [eq (.int .i64 a0.fAt), eq (.string a0.fKey)]]) (F := F) [0, 1] 2 rfl rfl rfl)
theorem heap_Heap_down.c {k : Nat} {a0 : HHeap} {a1 : Int} {p0_ : OV} {r : HHeap} (h : heap_Heap_down.f k a0 a1 = some r) : Tr Try.prog 52 [eq p0_.1, eq (.int .i64 a1)] [HHeap.O p0_ a0] (γ := Unit) (fun _ => True) (fun g => tup []) (fun g => [HHeap.O p0_ r]) := by
  unfold heap_Heap_down.f at h
  refine Tr.body Try.func52 (c := _) rfl Try.ntmps52 (Nat.le_of_ble_eq_true rfl) fun R0 F => ?_
  replace h := Gets.of h
  have H := h
  clear h
  refine WP.seq ?_
  refine WP.reg [(0, false), (1, false), (2, false), (3, false), (4, false), (5, false), (6, false), (7, true), (8, true)] (by kernel_rfl) ?_
  refine Dv.mv rfl trivial rfl ?_
  refine Dv.nilA HHeap.nn rfl trivial rfl (mem_at 0 rfl) ?_
  refine Dv.gh (l' := fun (g706 : Nat × OV × OV) => [blk g706.1 77 [eq g706.2.1.1, eq g706.2.2.1], own HEnt.K g706.2.1.1 a0.fl, mp Value.string (fun x : Int => eq (.int .i64 x)) g706.2.2.1 a0.fat] ++ F) (gh_of (HHeap.opn 0 rfl)) (fun g706 h707 => ?_)
  refine Dv.fabp h707 rfl trivial rfl Try.underlying77 rfl Try.underlying75 c75 (by decide) ?_
  refine Dv.ldb rfl trivial rfl Try.underlying75 rfl (mem_at 0 rfl) rfl ?_
  refine Dv.mv rfl trivial rfl ?_
  obtain ⟨g708, H⟩ := Gets.grd H
  have h709 : a1.toNat < a0.fl.length := idx_lt g708
  refine Dv.ixw rfl trivial rfl (mem_at 1 rfl) rfl Try.underlying75 Try.underlying71 c71 g708.1 g708.2 ?_
  refine Dv.ldws (j := a1.toNat) (f := 0) rfl trivial rfl (mem_at 1 rfl) h709 Try.underlying71 rfl c71 (Nat.le_of_ble_eq_true rfl) ?_
  refine Dv.alloc (z := .agg #[.int .i64 0, .string ⟨#[]⟩]) (qs := [eq (.int .i64 0), eq (.string (⟨#[]⟩ : ByteArray))]) rfl trivial z71 rfl nofun (fun b710 => ?_)
  refine Dv.stx ([blk b710 71 [eq (.int .i64 ((a0.fl.getD a1.toNat default).fAt)), eq (.string ((a0.fl.getD a1.toNat default).fKey))], blk g706.1 77 [eq g706.2.1.1, eq g706.2.2.1], own HEnt.K g706.2.1.1 a0.fl, mp Value.string (fun x : Int => eq (.int .i64 x)) g706.2.2.1 a0.fat] ++ F) rfl trivial rfl rfl (cells_agg (HEnt.K.one _)) Try.underlying71 c71 rfl (j := 0) rfl (Nat.le_of_ble_eq_true rfl) rfl nofun ?_
  refine .fin ?_
  refine WP.seqn H id (fun p711 : Int × Int × Bool × Bool × HHeap => [(0, eq p0_.1), (1, eq (.int .i64 p711.1)), (4, eq (.pointer (some ⟨b710, 0, none⟩))), (5, eq (.int .i64 p711.2.1)), (42, eq (.bool p711.2.2.1)), (63, eq (.bool p711.2.2.2.1))]) (fun p711 : Int × Int × Bool × Bool × HHeap => [blk b710 71 [eq (.int .i64 ((a0.fl.getD a1.toNat default).fAt)), eq (.string ((a0.fl.getD a1.toNat default).fKey))], HHeap.O p0_ p711.2.2.2.2] ++ F) (fun p711 H => ?_) (fun H => ?_)
  · refine WP.reg [(0, false), (1, false), (2, false), (3, true)] (by kernel_rfl) ?_
    refine Dv.mv rfl trivial rfl ?_
    refine Dv.mv rfl trivial rfl ?_
    refine Dv.ldbs rfl trivial rfl Try.underlying71 rfl c71 (mem_at 0 rfl) (Nat.le_of_ble_eq_true rfl) ?_
    obtain ⟨t712, h713, H⟩ := Gets.call H
    refine Dv.callx (pre := [HHeap.O p0_ p711.2.2.2.2]) (F := [blk b710 71 [eq (.int .i64 ((a0.fl.getD a1.toNat default).fAt)), eq (.string ((a0.fl.getD a1.toNat default).fKey))]] ++ F) (fun _ : Unit => [HHeap.O p0_ t712, blk b710 71 [eq (.int .i64 ((a0.fl.getD a1.toNat default).fAt)), eq (.string ((a0.fl.getD a1.toNat default).fKey))]] ++ F) rfl trivial cal51 rfl (heap_Heap_set.c h713 (p0_ := p0_)) (perm_to (L := [blk b710 71 [eq (.int .i64 ((a0.fl.getD a1.toNat default).fAt)), eq (.string ((a0.fl.getD a1.toNat default).fKey))], HHeap.O p0_ p711.2.2.2.2]) (F := F) [1, 0] rfl rfl rfl) rfl nofun (fun _ _ => ?_)
    refine .fin ?_
    obtain rfl := Gets.out H
    exact res_end rfl () trivial .nil rfl (st_sel (L := [HHeap.O p0_ t712, blk b710 71 [eq (.int .i64 ((a0.fl.getD a1.toNat default).fAt)), eq (.string ((a0.fl.getD a1.toNat default).fKey))]]) (F := F) [1, 0] 1 rfl rfl rfl)
  · refine WP.block ?_
    refine WP.gh (l' := fun _ : Unit => [HHeap.O p0_ a0, blk b710 71 [eq (.int .i64 ((a0.fl.getD a1.toNat default).fAt)), eq (.string ((a0.fl.getD a1.toNat default).fKey))]] ++ F) (gh_of (HHeap.shut (p := p0_) (m := a0) (r := [blk b710 71 [eq (.int .i64 ((a0.fl.getD a1.toNat default).fAt)), eq (.string ((a0.fl.getD a1.toNat default).fKey))]] ++ F) (g706.1, g706.2.1, g706.2.2) h707 (perm_to (L := [blk b710 71 [eq (.int .i64 ((a0.fl.getD a1.toNat default).fAt)), eq (.string ((a0.fl.getD a1.toNat default).fKey))], blk g706.1 77 [eq g706.2.1.1, eq g706.2.2.1], own HEnt.K g706.2.1.1 a0.fl, mp Value.string (fun x : Int => eq (.int .i64 x)) g706.2.2.1 a0.fat]) (F := F) [1, 2, 3, 0] rfl rfl rfl))) (fun _ _ => ?_)
    refine WP.gh (l' := fun _ => [blk b710 71 [eq (.int .i64 ((a0.fl.getD a1.toNat default).fAt)), eq (.string ((a0.fl.getD a1.toNat default).fKey))], HHeap.O p0_ a0] ++ F) (gh_of (st_selg (L := [HHeap.O p0_ a0, blk b710 71 [eq (.int .i64 ((a0.fl.getD a1.toNat default).fAt)), eq (.string ((a0.fl.getD a1.toNat default).fKey))]]) (F := F) [1, 0] 0 rfl rfl rfl)) (fun _ _ => ?_)
    refine WP.loopg (fun j_ (p742 : Int × HHeap) => heap_Heap_down.l0 k a0 a1 j_ p742.1 p742.2) (a1, a0) H (fun p742 => [(0, eq p0_.1), (1, eq (.int .i64 p742.1)), (4, eq (.pointer (some ⟨b710, 0, none⟩)))]) (fun p742 => [blk b710 71 [eq (.int .i64 ((a0.fl.getD a1.toNat default).fAt)), eq (.string ((a0.fl.getD a1.toNat default).fKey))], HHeap.O p0_ p742.2] ++ F) (weak_cons rfl (weak_cons rfl (weak_cons rfl weak_nil))) (List.Perm.refl _) ?_
    rintro j_ ⟨x714, x715⟩ H
    rcases j_ with _ | j741
    · exact (Gets.no H).elim
    replace H : Gets (heap_Heap_down.l0 k a0 a1 (j741 + 1) x714 x715) _ := H
    rw [heap_Heap_down.l0] at H
    refine WP.block ?_
    refine WP.seq ?_
    refine WP.reg [(0, false), (1, false), (2, false), (3, false)] (by kernel_rfl) ?_
    refine Dv.mv rfl trivial rfl ?_
    refine Dv.bin rfl trivial rfl rfl (fun _ => run_mul) ?_
    refine Dv.bin rfl trivial rfl rfl (fun _ => run_add) ?_
    refine Dv.asg rfl trivial rfl ?_
    refine .fin ?_
    refine WP.seqn H id (fun p716 : Int × Bool => [(0, eq p0_.1), (1, eq (.int .i64 x714)), (4, eq (.pointer (some ⟨b710, 0, none⟩))), (5, eq (.int .i64 p716.1)), (42, eq (.bool p716.2))]) (fun p716 : Int × Bool => [blk b710 71 [eq (.int .i64 ((a0.fl.getD a1.toNat default).fAt)), eq (.string ((a0.fl.getD a1.toNat default).fKey))], HHeap.O p0_ x715] ++ F) (fun p716 H => ?_) (fun H => ?_)
    · refine WP.seq ?_
      refine WP.seq ?_
      refine WP.gh (l' := fun (g717 : Nat × OV × OV) => [blk g717.1 77 [eq g717.2.1.1, eq g717.2.2.1], own HEnt.K g717.2.1.1 x715.fl, mp Value.string (fun x : Int => eq (.int .i64 x)) g717.2.2.1 x715.fat, blk b710 71 [eq (.int .i64 ((a0.fl.getD a1.toNat default).fAt)), eq (.string ((a0.fl.getD a1.toNat default).fKey))]] ++ F) (gh_of (HHeap.opn 1 rfl)) (fun g717 h718 => ?_)
      refine WP.dreg Try.checked.mixed [(0, false), (1, false), (2, false), (3, false), (4, false), (5, false), (6, false), (7, false), (8, false), (9, false), (10, false), (11, false), (12, false), (13, false), (14, false), (15, false), (16, false), (17, false), (18, false)] (by kernel_rfl) ?_
      refine Dv.mv rfl trivial rfl ?_
      refine Dv.mv rfl trivial rfl ?_
      refine Dv.nilpp h718 rfl trivial rfl ?_
      refine Dv.fabp h718 rfl trivial rfl Try.underlying77 rfl Try.underlying75 c75 (by decide) ?_
      refine Dv.ldb rfl trivial rfl Try.underlying75 rfl (mem_at 0 rfl) rfl ?_
      refine Dv.lenw rfl trivial rfl (mem_at 1 rfl) Try.underlying75 ?_
      refine Dv.bin rfl trivial rfl rfl (fun _ => run_ge) ?_
      refine Dv.mv rfl trivial rfl ?_
      cases c719 : decide ((x715.fl.length : Int) ≤ p716.1)
      · replace H := Gets.cf H c719
        refine Dv.ldbs rfl ⟨_, _, rfl, rfl, rfl⟩ rfl Try.underlying71 rfl c71 (mem_at 3 rfl) (Nat.le_of_ble_eq_true rfl) ?_
        refine Dv.mv rfl ⟨_, _, rfl, rfl, rfl⟩ rfl ?_
        refine Dv.nilpp h718 rfl ⟨_, _, rfl, rfl, rfl⟩ rfl ?_
        refine Dv.fabp h718 rfl ⟨_, _, rfl, rfl, rfl⟩ rfl Try.underlying77 rfl Try.underlying75 c75 (by decide) ?_
        refine Dv.ldb rfl ⟨_, _, rfl, rfl, rfl⟩ rfl Try.underlying75 rfl (mem_at 0 rfl) rfl ?_
        refine Dv.mv rfl ⟨_, _, rfl, rfl, rfl⟩ rfl ?_
        obtain ⟨g721, H⟩ := Gets.grd H
        have h722 : p716.1.toNat < x715.fl.length := idx_lt g721
        refine Dv.ixw rfl ⟨_, _, rfl, rfl, rfl⟩ rfl (mem_at 1 rfl) rfl Try.underlying75 Try.underlying71 c71 g721.1 g721.2 ?_
        refine Dv.ldws (j := p716.1.toNat) (f := 0) rfl ⟨_, _, rfl, rfl, rfl⟩ rfl (mem_at 1 rfl) h722 Try.underlying71 rfl c71 (Nat.le_of_ble_eq_true rfl) ?_
        obtain ⟨t723, h724, H⟩ := Gets.call H
        refine Dv.call rfl ⟨_, _, rfl, rfl, rfl⟩ cal70 rfl (heap_ahead.c h724) ?_
        refine Dv.bin rfl ⟨_, _, rfl, rfl, rfl⟩ rfl rfl (fun _ => run_lt) ?_
        refine Dv.pickF rfl trivial rfl rfl ?_
        refine .fin ?_
        refine WP.cond rfl (fun c725 => ?_) (fun c725 => ?_)
        · replace H := Gets.ct H c725
          refine WP.exit ?_
          replace H := Gets.out H
          refine Dn.gh (l' := fun _ : Unit => [HHeap.O p0_ x715, blk b710 71 [eq (.int .i64 ((a0.fl.getD a1.toNat default).fAt)), eq (.string ((a0.fl.getD a1.toNat default).fKey))]] ++ F) (gh_of (HHeap.shut (p := p0_) (m := x715) (r := [blk b710 71 [eq (.int .i64 ((a0.fl.getD a1.toNat default).fAt)), eq (.string ((a0.fl.getD a1.toNat default).fKey))]] ++ F) (g717.1, g717.2.1, g717.2.2) h718 (perm_to (L := [blk g717.1 77 [eq g717.2.1.1, eq g717.2.2.1], own HEnt.K g717.2.1.1 x715.fl, mp Value.string (fun x : Int => eq (.int .i64 x)) g717.2.2.1 x715.fat, blk b710 71 [eq (.int .i64 ((a0.fl.getD a1.toNat default).fAt)), eq (.string ((a0.fl.getD a1.toNat default).fKey))]]) (F := F) [0, 1, 2, 3] rfl rfl rfl))) (fun _ _ => ?_)
          refine Dn.gh (l' := fun _ : Unit => [blk b710 71 [eq (.int .i64 ((a0.fl.getD a1.toNat default).fAt)), eq (.string ((a0.fl.getD a1.toNat default).fKey))], HHeap.O p0_ x715] ++ F) (gh_of (st_selg (L := [HHeap.O p0_ x715, blk b710 71 [eq (.int .i64 ((a0.fl.getD a1.toNat default).fAt)), eq (.string ((a0.fl.getD a1.toNat default).fKey))]]) (F := F) [1, 0] 0 rfl rfl rfl)) (fun _ _ => ?_)
          exact Jn.mk (x714, p716.1, p716.2, decide (t723 < 0), x715) H (weak_cons rfl (weak_cons rfl (weak_cons rfl (weak_cons rfl (weak_cons rfl (weak_cons rfl weak_nil)))))) (List.Perm.refl _)
        · replace H := Gets.cf H c725
          refine WP.skip ?_
          refine WP.seq ?_
          refine WP.reg [(0, false), (1, false), (2, false), (3, false), (4, false), (5, false), (6, false), (7, false), (8, false), (9, true)] (by kernel_rfl) ?_
          refine Dv.mv rfl trivial rfl ?_
          refine Dv.mv rfl trivial rfl ?_
          refine Dv.mv rfl trivial rfl ?_
          refine Dv.nilpp h718 rfl trivial rfl ?_
          refine Dv.fabp h718 rfl trivial rfl Try.underlying77 rfl Try.underlying75 c75 (by decide) ?_
          refine Dv.ldb rfl trivial rfl Try.underlying75 rfl (mem_at 0 rfl) rfl ?_
          refine Dv.mv rfl trivial rfl ?_
          obtain ⟨g726, H⟩ := Gets.grd H
          have h727 : p716.1.toNat < x715.fl.length := idx_lt g726
          refine Dv.ixw rfl trivial rfl (mem_at 1 rfl) rfl Try.underlying75 Try.underlying71 c71 g726.1 g726.2 ?_
          refine Dv.ldws (j := p716.1.toNat) (f := 0) rfl trivial rfl (mem_at 1 rfl) h727 Try.underlying71 rfl c71 (Nat.le_of_ble_eq_true rfl) ?_
          refine Dv.gh (l' := fun _ : Unit => [HHeap.O p0_ x715, blk b710 71 [eq (.int .i64 ((a0.fl.getD a1.toNat default).fAt)), eq (.string ((a0.fl.getD a1.toNat default).fKey))]] ++ F) (gh_of (HHeap.shut (p := p0_) (m := x715) (r := [blk b710 71 [eq (.int .i64 ((a0.fl.getD a1.toNat default).fAt)), eq (.string ((a0.fl.getD a1.toNat default).fKey))]] ++ F) (g717.1, g717.2.1, g717.2.2) h718 (perm_to (L := [blk g717.1 77 [eq g717.2.1.1, eq g717.2.2.1], own HEnt.K g717.2.1.1 x715.fl, mp Value.string (fun x : Int => eq (.int .i64 x)) g717.2.2.1 x715.fat, blk b710 71 [eq (.int .i64 ((a0.fl.getD a1.toNat default).fAt)), eq (.string ((a0.fl.getD a1.toNat default).fKey))]]) (F := F) [0, 1, 2, 3] rfl rfl rfl))) (fun _ _ => ?_)
          obtain ⟨t728, h729, H⟩ := Gets.call H
          refine Dv.callx (pre := [HHeap.O p0_ x715]) (F := [blk b710 71 [eq (.int .i64 ((a0.fl.getD a1.toNat default).fAt)), eq (.string ((a0.fl.getD a1.toNat default).fKey))]] ++ F) (fun _ : Unit => [HHeap.O p0_ t728, blk b710 71 [eq (.int .i64 ((a0.fl.getD a1.toNat default).fAt)), eq (.string ((a0.fl.getD a1.toNat default).fKey))]] ++ F) rfl trivial cal51 rfl (heap_Heap_set.c h729 (p0_ := p0_)) (perm_to (L := [HHeap.O p0_ x715, blk b710 71 [eq (.int .i64 ((a0.fl.getD a1.toNat default).fAt)), eq (.string ((a0.fl.getD a1.toNat default).fKey))]]) (F := F) [0, 1] rfl rfl rfl) rfl nofun (fun _ _ => ?_)
          refine .fin ?_
          refine WP.reg [(0, false), (1, false)] (by kernel_rfl) ?_
          refine Dv.mv rfl trivial rfl ?_
          refine Dv.asg rfl trivial rfl ?_
          refine .fin ?_
          refine Dn.gh (l' := fun _ : Unit => [blk b710 71 [eq (.int .i64 ((a0.fl.getD a1.toNat default).fAt)), eq (.string ((a0.fl.getD a1.toNat default).fKey))], HHeap.O p0_ t728] ++ F) (gh_of (st_selg (L := [HHeap.O p0_ t728, blk b710 71 [eq (.int .i64 ((a0.fl.getD a1.toNat default).fAt)), eq (.string ((a0.fl.getD a1.toNat default).fKey))]]) (F := F) [1, 0] 0 rfl rfl rfl)) (fun _ _ => ?_)
          exact Back.mk j741 (p716.1, t728) (Nat.lt_succ_self _) H (weak_cons rfl (weak_cons rfl (weak_cons rfl weak_nil))) (List.Perm.refl _)
      · replace H := Gets.ct H c719
        refine Dv.skip rfl ⟨_, _, rfl, rfl, .inl rfl⟩ ?_
        refine Dv.skip rfl ⟨_, _, rfl, rfl, .inl rfl⟩ ?_
        refine Dv.skip rfl ⟨_, _, rfl, rfl, .inl rfl⟩ ?_
        refine Dv.skip rfl ⟨_, _, rfl, rfl, .inl rfl⟩ ?_
        refine Dv.skip rfl ⟨_, _, rfl, rfl, .inl rfl⟩ ?_
        refine Dv.skip rfl ⟨_, _, rfl, rfl, .inl rfl⟩ ?_
        refine Dv.skip rfl ⟨_, _, rfl, rfl, .inl rfl⟩ ?_
        refine Dv.skip rfl ⟨_, _, rfl, rfl, .inl rfl⟩ ?_
        refine Dv.skip rfl ⟨_, _, rfl, rfl, .inl rfl⟩ ?_
        refine Dv.skip rfl ⟨_, _, rfl, rfl, .inl rfl⟩ ?_
        refine Dv.pickT rfl trivial rfl rfl ?_
        refine .fin ?_
        refine WP.cond rfl (fun _ => ?_) nofun
        refine WP.exit ?_
        replace H := Gets.out H
        refine Dn.gh (l' := fun _ : Unit => [HHeap.O p0_ x715, blk b710 71 [eq (.int .i64 ((a0.fl.getD a1.toNat default).fAt)), eq (.string ((a0.fl.getD a1.toNat default).fKey))]] ++ F) (gh_of (HHeap.shut (p := p0_) (m := x715) (r := [blk b710 71 [eq (.int .i64 ((a0.fl.getD a1.toNat default).fAt)), eq (.string ((a0.fl.getD a1.toNat default).fKey))]] ++ F) (g717.1, g717.2.1, g717.2.2) h718 (perm_to (L := [blk g717.1 77 [eq g717.2.1.1, eq g717.2.2.1], own HEnt.K g717.2.1.1 x715.fl, mp Value.string (fun x : Int => eq (.int .i64 x)) g717.2.2.1 x715.fat, blk b710 71 [eq (.int .i64 ((a0.fl.getD a1.toNat default).fAt)), eq (.string ((a0.fl.getD a1.toNat default).fKey))]]) (F := F) [0, 1, 2, 3] rfl rfl rfl))) (fun _ _ => ?_)
        refine Dn.gh (l' := fun _ : Unit => [blk b710 71 [eq (.int .i64 ((a0.fl.getD a1.toNat default).fAt)), eq (.string ((a0.fl.getD a1.toNat default).fKey))], HHeap.O p0_ x715] ++ F) (gh_of (st_selg (L := [HHeap.O p0_ x715, blk b710 71 [eq (.int .i64 ((a0.fl.getD a1.toNat default).fAt)), eq (.string ((a0.fl.getD a1.toNat default).fKey))]]) (F := F) [1, 0] 0 rfl rfl rfl)) (fun _ _ => ?_)
        exact Jn.mk (x714, p716.1, p716.2, true, x715) H (weak_cons rfl (weak_cons rfl (weak_cons rfl (weak_cons rfl (weak_cons rfl (weak_cons rfl weak_nil)))))) (List.Perm.refl _)
    · refine WP.seq ?_
      refine WP.gh (l' := fun (g730 : Nat × OV × OV) => [blk g730.1 77 [eq g730.2.1.1, eq g730.2.2.1], own HEnt.K g730.2.1.1 x715.fl, mp Value.string (fun x : Int => eq (.int .i64 x)) g730.2.2.1 x715.fat, blk b710 71 [eq (.int .i64 ((a0.fl.getD a1.toNat default).fAt)), eq (.string ((a0.fl.getD a1.toNat default).fKey))]] ++ F) (gh_of (HHeap.opn 1 rfl)) (fun g730 h731 => ?_)
      refine WP.dreg Try.checked.mixed [(0, false), (1, false), (2, false), (3, false), (4, false), (5, false), (6, false), (7, false), (8, false), (9, false), (10, false), (11, false), (12, false), (13, false), (14, false), (15, false), (16, false), (17, false), (18, false), (19, false), (20, false), (21, false), (22, false), (23, false), (24, false), (25, false), (26, false)] (by kernel_rfl) ?_
      refine Dv.mv rfl trivial rfl ?_
      refine Dv.bin rfl trivial rfl rfl (fun _ => run_add) ?_
      refine Dv.mv rfl trivial rfl ?_
      refine Dv.nilpp h731 rfl trivial rfl ?_
      refine Dv.fabp h731 rfl trivial rfl Try.underlying77 rfl Try.underlying75 c75 (by decide) ?_
      refine Dv.ldb rfl trivial rfl Try.underlying75 rfl (mem_at 0 rfl) rfl ?_
      refine Dv.lenw rfl trivial rfl (mem_at 1 rfl) Try.underlying75 ?_
      refine Dv.bin rfl trivial rfl rfl (fun _ => run_lt) ?_
      refine Dv.mv rfl trivial rfl ?_
      cases c732 : decide ((w64 ((w64 ((w64 (2 * x714)) + 1)) + 1)) < (x715.fl.length : Int))
      · replace H := Gets.cf H c732
        refine Dv.skip rfl ⟨_, _, rfl, rfl, .inl rfl⟩ ?_
        refine Dv.skip rfl ⟨_, _, rfl, rfl, .inl rfl⟩ ?_
        refine Dv.skip rfl ⟨_, _, rfl, rfl, .inl rfl⟩ ?_
        refine Dv.skip rfl ⟨_, _, rfl, rfl, .inl rfl⟩ ?_
        refine Dv.skip rfl ⟨_, _, rfl, rfl, .inl rfl⟩ ?_
        refine Dv.skip rfl ⟨_, _, rfl, rfl, .inl rfl⟩ ?_
        refine Dv.skip rfl ⟨_, _, rfl, rfl, .inl rfl⟩ ?_
        refine Dv.skip rfl ⟨_, _, rfl, rfl, .inl rfl⟩ ?_
        refine Dv.skip rfl ⟨_, _, rfl, rfl, .inl rfl⟩ ?_
        refine Dv.skip rfl ⟨_, _, rfl, rfl, .inl rfl⟩ ?_
        refine Dv.skip rfl ⟨_, _, rfl, rfl, .inl rfl⟩ ?_
        refine Dv.skip rfl ⟨_, _, rfl, rfl, .inl rfl⟩ ?_
        refine Dv.skip rfl ⟨_, _, rfl, rfl, .inl rfl⟩ ?_
        refine Dv.skip rfl ⟨_, _, rfl, rfl, .inl rfl⟩ ?_
        refine Dv.skip rfl ⟨_, _, rfl, rfl, .inl rfl⟩ ?_
        refine Dv.skip rfl ⟨_, _, rfl, rfl, .inl rfl⟩ ?_
        refine Dv.skip rfl ⟨_, _, rfl, rfl, .inl rfl⟩ ?_
        refine Dv.pickF rfl trivial rfl rfl ?_
        refine .fin ?_
        refine WP.cond rfl nofun (fun _ => ?_)
        refine WP.skip ?_
        replace H := Gets.out H
        refine Dn.gh (l' := fun _ : Unit => [HHeap.O p0_ x715, blk b710 71 [eq (.int .i64 ((a0.fl.getD a1.toNat default).fAt)), eq (.string ((a0.fl.getD a1.toNat default).fKey))]] ++ F) (gh_of (HHeap.shut (p := p0_) (m := x715) (r := [blk b710 71 [eq (.int .i64 ((a0.fl.getD a1.toNat default).fAt)), eq (.string ((a0.fl.getD a1.toNat default).fKey))]] ++ F) (g730.1, g730.2.1, g730.2.2) h731 (perm_to (L := [blk g730.1 77 [eq g730.2.1.1, eq g730.2.2.1], own HEnt.K g730.2.1.1 x715.fl, mp Value.string (fun x : Int => eq (.int .i64 x)) g730.2.2.1 x715.fat, blk b710 71 [eq (.int .i64 ((a0.fl.getD a1.toNat default).fAt)), eq (.string ((a0.fl.getD a1.toNat default).fKey))]]) (F := F) [0, 1, 2, 3] rfl rfl rfl))) (fun _ _ => ?_)
        refine Dn.gh (l' := fun _ : Unit => [blk b710 71 [eq (.int .i64 ((a0.fl.getD a1.toNat default).fAt)), eq (.string ((a0.fl.getD a1.toNat default).fKey))], HHeap.O p0_ x715] ++ F) (gh_of (st_selg (L := [HHeap.O p0_ x715, blk b710 71 [eq (.int .i64 ((a0.fl.getD a1.toNat default).fAt)), eq (.string ((a0.fl.getD a1.toNat default).fKey))]]) (F := F) [1, 0] 0 rfl rfl rfl)) (fun _ _ => ?_)
        exact Jn.mk (w64 ((w64 (2 * x714)) + 1), false) H (weak_cons rfl (weak_cons rfl (weak_cons rfl (weak_cons rfl (weak_cons rfl weak_nil))))) (List.Perm.refl _)
      · replace H := Gets.ct H c732
        refine Dv.mv rfl ⟨_, _, rfl, rfl, rfl⟩ rfl ?_
        refine Dv.nilpp h731 rfl ⟨_, _, rfl, rfl, rfl⟩ rfl ?_
        refine Dv.fabp h731 rfl ⟨_, _, rfl, rfl, rfl⟩ rfl Try.underlying77 rfl Try.underlying75 c75 (by decide) ?_
        refine Dv.ldb rfl ⟨_, _, rfl, rfl, rfl⟩ rfl Try.underlying75 rfl (mem_at 0 rfl) rfl ?_
        refine Dv.mv rfl ⟨_, _, rfl, rfl, rfl⟩ rfl ?_
        refine Dv.bin rfl ⟨_, _, rfl, rfl, rfl⟩ rfl rfl (fun _ => run_add) ?_
        obtain ⟨g733, H⟩ := Gets.grd H
        have h734 : (w64 ((w64 ((w64 (2 * x714)) + 1)) + 1)).toNat < x715.fl.length := idx_lt g733
        refine Dv.ixw rfl ⟨_, _, rfl, rfl, rfl⟩ rfl (mem_at 1 rfl) rfl Try.underlying75 Try.underlying71 c71 g733.1 g733.2 ?_
        refine Dv.ldws (j := ((w64 ((w64 ((w64 (2 * x714)) + 1)) + 1)).toNat)) (f := 0) rfl ⟨_, _, rfl, rfl, rfl⟩ rfl (mem_at 1 rfl) h734 Try.underlying71 rfl c71 (Nat.le_of_ble_eq_true rfl) ?_
        refine Dv.mv rfl ⟨_, _, rfl, rfl, rfl⟩ rfl ?_
        refine Dv.nilpp h731 rfl ⟨_, _, rfl, rfl, rfl⟩ rfl ?_
        refine Dv.fabp h731 rfl ⟨_, _, rfl, rfl, rfl⟩ rfl Try.underlying77 rfl Try.underlying75 c75 (by decide) ?_
        refine Dv.ldb rfl ⟨_, _, rfl, rfl, rfl⟩ rfl Try.underlying75 rfl (mem_at 0 rfl) rfl ?_
        refine Dv.mv rfl ⟨_, _, rfl, rfl, rfl⟩ rfl ?_
        obtain ⟨g735, H⟩ := Gets.grd H
        have h736 : (w64 ((w64 (2 * x714)) + 1)).toNat < x715.fl.length := idx_lt g735
        refine Dv.ixw rfl ⟨_, _, rfl, rfl, rfl⟩ rfl (mem_at 1 rfl) rfl Try.underlying75 Try.underlying71 c71 g735.1 g735.2 ?_
        refine Dv.ldws (j := ((w64 ((w64 (2 * x714)) + 1)).toNat)) (f := 0) rfl ⟨_, _, rfl, rfl, rfl⟩ rfl (mem_at 1 rfl) h736 Try.underlying71 rfl c71 (Nat.le_of_ble_eq_true rfl) ?_
        obtain ⟨t737, h738, H⟩ := Gets.call H
        refine Dv.call rfl ⟨_, _, rfl, rfl, rfl⟩ cal70 rfl (heap_ahead.c h738) ?_
        refine Dv.bin rfl ⟨_, _, rfl, rfl, rfl⟩ rfl rfl (fun _ => run_lt) ?_
        refine Dv.pickT rfl trivial rfl rfl ?_
        refine .fin ?_
        refine WP.cond rfl (fun c739 => ?_) (fun c739 => ?_)
        · replace H := Gets.ct H c739
          refine WP.reg [(0, false), (1, false), (2, false)] (by kernel_rfl) ?_
          refine Dv.mv rfl trivial rfl ?_
          refine Dv.bin rfl trivial rfl rfl (fun _ => run_add) ?_
          refine Dv.asg rfl trivial rfl ?_
          refine .fin ?_
          replace H := Gets.out H
          refine Dn.gh (l' := fun _ : Unit => [HHeap.O p0_ x715, blk b710 71 [eq (.int .i64 ((a0.fl.getD a1.toNat default).fAt)), eq (.string ((a0.fl.getD a1.toNat default).fKey))]] ++ F) (gh_of (HHeap.shut (p := p0_) (m := x715) (r := [blk b710 71 [eq (.int .i64 ((a0.fl.getD a1.toNat default).fAt)), eq (.string ((a0.fl.getD a1.toNat default).fKey))]] ++ F) (g730.1, g730.2.1, g730.2.2) h731 (perm_to (L := [blk g730.1 77 [eq g730.2.1.1, eq g730.2.2.1], own HEnt.K g730.2.1.1 x715.fl, mp Value.string (fun x : Int => eq (.int .i64 x)) g730.2.2.1 x715.fat, blk b710 71 [eq (.int .i64 ((a0.fl.getD a1.toNat default).fAt)), eq (.string ((a0.fl.getD a1.toNat default).fKey))]]) (F := F) [0, 1, 2, 3] rfl rfl rfl))) (fun _ _ => ?_)
          refine Dn.gh (l' := fun _ : Unit => [blk b710 71 [eq (.int .i64 ((a0.fl.getD a1.toNat default).fAt)), eq (.string ((a0.fl.getD a1.toNat default).fKey))], HHeap.O p0_ x715] ++ F) (gh_of (st_selg (L := [HHeap.O p0_ x715, blk b710 71 [eq (.int .i64 ((a0.fl.getD a1.toNat default).fAt)), eq (.string ((a0.fl.getD a1.toNat default).fKey))]]) (F := F) [1, 0] 0 rfl rfl rfl)) (fun _ _ => ?_)
          exact Jn.mk (w64 ((w64 ((w64 (2 * x714)) + 1)) + 1), decide (t737 < 0)) H (weak_cons rfl (weak_cons rfl (weak_cons rfl (weak_cons rfl (weak_cons rfl weak_nil))))) (List.Perm.refl _)
        · replace H := Gets.cf H c739
          refine WP.skip ?_
          replace H := Gets.out H
          refine Dn.gh (l' := fun _ : Unit => [HHeap.O p0_ x715, blk b710 71 [eq (.int .i64 ((a0.fl.getD a1.toNat default).fAt)), eq (.string ((a0.fl.getD a1.toNat default).fKey))]] ++ F) (gh_of (HHeap.shut (p := p0_) (m := x715) (r := [blk b710 71 [eq (.int .i64 ((a0.fl.getD a1.toNat default).fAt)), eq (.string ((a0.fl.getD a1.toNat default).fKey))]] ++ F) (g730.1, g730.2.1, g730.2.2) h731 (perm_to (L := [blk g730.1 77 [eq g730.2.1.1, eq g730.2.2.1], own HEnt.K g730.2.1.1 x715.fl, mp Value.string (fun x : Int => eq (.int .i64 x)) g730.2.2.1 x715.fat, blk b710 71 [eq (.int .i64 ((a0.fl.getD a1.toNat default).fAt)), eq (.string ((a0.fl.getD a1.toNat default).fKey))]]) (F := F) [0, 1, 2, 3] rfl rfl rfl))) (fun _ _ => ?_)
          refine Dn.gh (l' := fun _ : Unit => [blk b710 71 [eq (.int .i64 ((a0.fl.getD a1.toNat default).fAt)), eq (.string ((a0.fl.getD a1.toNat default).fKey))], HHeap.O p0_ x715] ++ F) (gh_of (st_selg (L := [HHeap.O p0_ x715, blk b710 71 [eq (.int .i64 ((a0.fl.getD a1.toNat default).fAt)), eq (.string ((a0.fl.getD a1.toNat default).fKey))]]) (F := F) [1, 0] 0 rfl rfl rfl)) (fun _ _ => ?_)
          exact Jn.mk (w64 ((w64 (2 * x714)) + 1), decide (t737 < 0)) H (weak_cons rfl (weak_cons rfl (weak_cons rfl (weak_cons rfl (weak_cons rfl weak_nil))))) (List.Perm.refl _)
theorem heap_Heap_up.c {k : Nat} {a0 : HHeap} {a1 : Int} {p0_ : OV} {r : HHeap} (h : heap_Heap_up.f k a0 a1 = some r) : Tr Try.prog 53 [eq p0_.1, eq (.int .i64 a1)] [HHeap.O p0_ a0] (γ := Unit) (fun _ => True) (fun g => tup []) (fun g => [HHeap.O p0_ r]) := by
  unfold heap_Heap_up.f at h
  refine Tr.body Try.func53 (c := _) rfl Try.ntmps53 (Nat.le_of_ble_eq_true rfl) fun R0 F => ?_
  replace h := Gets.of h
  have H := h
  clear h
  refine WP.seq ?_
  refine WP.reg [(0, false), (1, false), (2, false), (3, false), (4, false), (5, false), (6, false), (7, true), (8, true)] (by kernel_rfl) ?_
  refine Dv.mv rfl trivial rfl ?_
  refine Dv.nilA HHeap.nn rfl trivial rfl (mem_at 0 rfl) ?_
  refine Dv.gh (l' := fun (g743 : Nat × OV × OV) => [blk g743.1 77 [eq g743.2.1.1, eq g743.2.2.1], own HEnt.K g743.2.1.1 a0.fl, mp Value.string (fun x : Int => eq (.int .i64 x)) g743.2.2.1 a0.fat] ++ F) (gh_of (HHeap.opn 0 rfl)) (fun g743 h744 => ?_)
  refine Dv.fabp h744 rfl trivial rfl Try.underlying77 rfl Try.underlying75 c75 (by decide) ?_
  refine Dv.ldb rfl trivial rfl Try.underlying75 rfl (mem_at 0 rfl) rfl ?_
  refine Dv.mv rfl trivial rfl ?_
  obtain ⟨g745, H⟩ := Gets.grd H
  have h746 : a1.toNat < a0.fl.length := idx_lt g745
  refine Dv.ixw rfl trivial rfl (mem_at 1 rfl) rfl Try.underlying75 Try.underlying71 c71 g745.1 g745.2 ?_
  refine Dv.ldws (j := a1.toNat) (f := 0) rfl trivial rfl (mem_at 1 rfl) h746 Try.underlying71 rfl c71 (Nat.le_of_ble_eq_true rfl) ?_
  refine Dv.alloc (z := .agg #[.int .i64 0, .string ⟨#[]⟩]) (qs := [eq (.int .i64 0), eq (.string (⟨#[]⟩ : ByteArray))]) rfl trivial z71 rfl nofun (fun b747 => ?_)
  refine Dv.stx ([blk b747 71 [eq (.int .i64 ((a0.fl.getD a1.toNat default).fAt)), eq (.string ((a0.fl.getD a1.toNat default).fKey))], blk g743.1 77 [eq g743.2.1.1, eq g743.2.2.1], own HEnt.K g743.2.1.1 a0.fl, mp Value.string (fun x : Int => eq (.int .i64 x)) g743.2.2.1 a0.fat] ++ F) rfl trivial rfl rfl (cells_agg (HEnt.K.one _)) Try.underlying71 c71 rfl (j := 0) rfl (Nat.le_of_ble_eq_true rfl) rfl nofun ?_
  refine .fin ?_
  refine WP.seqn H id (fun p748 : Int × Bool × HHeap => [(0, eq p0_.1), (1, eq (.int .i64 p748.1)), (4, eq (.pointer (some ⟨b747, 0, none⟩))), (27, eq (.bool p748.2.1))]) (fun p748 : Int × Bool × HHeap => [blk b747 71 [eq (.int .i64 ((a0.fl.getD a1.toNat default).fAt)), eq (.string ((a0.fl.getD a1.toNat default).fKey))], HHeap.O p0_ p748.2.2] ++ F) (fun p748 H => ?_) (fun H => ?_)
  · refine WP.reg [(0, false), (1, false), (2, false), (3, true)] (by kernel_rfl) ?_
    refine Dv.mv rfl trivial rfl ?_
    refine Dv.mv rfl trivial rfl ?_
    refine Dv.ldbs rfl trivial rfl Try.underlying71 rfl c71 (mem_at 0 rfl) (Nat.le_of_ble_eq_true rfl) ?_
    obtain ⟨t749, h750, H⟩ := Gets.call H
    refine Dv.callx (pre := [HHeap.O p0_ p748.2.2]) (F := [blk b747 71 [eq (.int .i64 ((a0.fl.getD a1.toNat default).fAt)), eq (.string ((a0.fl.getD a1.toNat default).fKey))]] ++ F) (fun _ : Unit => [HHeap.O p0_ t749, blk b747 71 [eq (.int .i64 ((a0.fl.getD a1.toNat default).fAt)), eq (.string ((a0.fl.getD a1.toNat default).fKey))]] ++ F) rfl trivial cal51 rfl (heap_Heap_set.c h750 (p0_ := p0_)) (perm_to (L := [blk b747 71 [eq (.int .i64 ((a0.fl.getD a1.toNat default).fAt)), eq (.string ((a0.fl.getD a1.toNat default).fKey))], HHeap.O p0_ p748.2.2]) (F := F) [1, 0] rfl rfl rfl) rfl nofun (fun _ _ => ?_)
    refine .fin ?_
    obtain rfl := Gets.out H
    exact res_end rfl () trivial .nil rfl (st_sel (L := [HHeap.O p0_ t749, blk b747 71 [eq (.int .i64 ((a0.fl.getD a1.toNat default).fAt)), eq (.string ((a0.fl.getD a1.toNat default).fKey))]]) (F := F) [1, 0] 1 rfl rfl rfl)
  · refine WP.block ?_
    refine WP.gh (l' := fun _ : Unit => [HHeap.O p0_ a0, blk b747 71 [eq (.int .i64 ((a0.fl.getD a1.toNat default).fAt)), eq (.string ((a0.fl.getD a1.toNat default).fKey))]] ++ F) (gh_of (HHeap.shut (p := p0_) (m := a0) (r := [blk b747 71 [eq (.int .i64 ((a0.fl.getD a1.toNat default).fAt)), eq (.string ((a0.fl.getD a1.toNat default).fKey))]] ++ F) (g743.1, g743.2.1, g743.2.2) h744 (perm_to (L := [blk b747 71 [eq (.int .i64 ((a0.fl.getD a1.toNat default).fAt)), eq (.string ((a0.fl.getD a1.toNat default).fKey))], blk g743.1 77 [eq g743.2.1.1, eq g743.2.2.1], own HEnt.K g743.2.1.1 a0.fl, mp Value.string (fun x : Int => eq (.int .i64 x)) g743.2.2.1 a0.fat]) (F := F) [1, 2, 3, 0] rfl rfl rfl))) (fun _ _ => ?_)
    refine WP.gh (l' := fun _ => [blk b747 71 [eq (.int .i64 ((a0.fl.getD a1.toNat default).fAt)), eq (.string ((a0.fl.getD a1.toNat default).fKey))], HHeap.O p0_ a0] ++ F) (gh_of (st_selg (L := [HHeap.O p0_ a0, blk b747 71 [eq (.int .i64 ((a0.fl.getD a1.toNat default).fAt)), eq (.string ((a0.fl.getD a1.toNat default).fKey))]]) (F := F) [1, 0] 0 rfl rfl rfl)) (fun _ _ => ?_)
    refine WP.loopg (fun j_ (p767 : Int × HHeap) => heap_Heap_up.l0 k a0 a1 j_ p767.1 p767.2) (a1, a0) H (fun p767 => [(0, eq p0_.1), (1, eq (.int .i64 p767.1)), (4, eq (.pointer (some ⟨b747, 0, none⟩)))]) (fun p767 => [blk b747 71 [eq (.int .i64 ((a0.fl.getD a1.toNat default).fAt)), eq (.string ((a0.fl.getD a1.toNat default).fKey))], HHeap.O p0_ p767.2] ++ F) (weak_cons rfl (weak_cons rfl (weak_cons rfl weak_nil))) (List.Perm.refl _) ?_
    rintro j_ ⟨x751, x752⟩ H
    rcases j_ with _ | j766
    · exact (Gets.no H).elim
    replace H : Gets (heap_Heap_up.l0 k a0 a1 (j766 + 1) x751 x752) _ := H
    rw [heap_Heap_up.l0] at H
    refine WP.seq ?_
    refine WP.seq ?_
    refine WP.gh (l' := fun (g753 : Nat × OV × OV) => [blk g753.1 77 [eq g753.2.1.1, eq g753.2.2.1], own HEnt.K g753.2.1.1 x752.fl, mp Value.string (fun x : Int => eq (.int .i64 x)) g753.2.2.1 x752.fat, blk b747 71 [eq (.int .i64 ((a0.fl.getD a1.toNat default).fAt)), eq (.string ((a0.fl.getD a1.toNat default).fKey))]] ++ F) (gh_of (HHeap.opn 1 rfl)) (fun g753 h754 => ?_)
    refine WP.dreg Try.checked.mixed [(0, false), (1, false), (2, false), (3, false), (4, false), (5, false), (6, false), (7, false), (8, false), (9, false), (10, false), (11, false), (12, false), (13, false), (14, false), (15, false)] (by kernel_rfl) ?_
    refine Dv.mv rfl trivial rfl ?_
    refine Dv.bin rfl trivial rfl rfl (fun _ => run_gt) ?_
    refine Dv.mv rfl trivial rfl ?_
    cases c755 : decide (0 < x751)
    · replace H := Gets.cf H c755
      refine Dv.skip rfl ⟨_, _, rfl, rfl, .inl rfl⟩ ?_
      refine Dv.skip rfl ⟨_, _, rfl, rfl, .inl rfl⟩ ?_
      refine Dv.skip rfl ⟨_, _, rfl, rfl, .inl rfl⟩ ?_
      refine Dv.skip rfl ⟨_, _, rfl, rfl, .inl rfl⟩ ?_
      refine Dv.skip rfl ⟨_, _, rfl, rfl, .inl rfl⟩ ?_
      refine Dv.skip rfl ⟨_, _, rfl, rfl, .inl rfl⟩ ?_
      refine Dv.skip rfl ⟨_, _, rfl, rfl, .inl rfl⟩ ?_
      refine Dv.skip rfl ⟨_, _, rfl, rfl, .inl rfl⟩ ?_
      refine Dv.skip rfl ⟨_, _, rfl, rfl, .inl rfl⟩ ?_
      refine Dv.skip rfl ⟨_, _, rfl, rfl, .inl rfl⟩ ?_
      refine Dv.skip rfl ⟨_, _, rfl, rfl, .inl rfl⟩ ?_
      refine Dv.skip rfl ⟨_, _, rfl, rfl, .inl rfl⟩ ?_
      refine Dv.pickF rfl trivial rfl rfl ?_
      refine .fin ?_
      refine WP.cond rfl nofun (fun _ => ?_)
      refine WP.exit ?_
      replace H := Gets.out H
      refine Dn.gh (l' := fun _ : Unit => [HHeap.O p0_ x752, blk b747 71 [eq (.int .i64 ((a0.fl.getD a1.toNat default).fAt)), eq (.string ((a0.fl.getD a1.toNat default).fKey))]] ++ F) (gh_of (HHeap.shut (p := p0_) (m := x752) (r := [blk b747 71 [eq (.int .i64 ((a0.fl.getD a1.toNat default).fAt)), eq (.string ((a0.fl.getD a1.toNat default).fKey))]] ++ F) (g753.1, g753.2.1, g753.2.2) h754 (perm_to (L := [blk g753.1 77 [eq g753.2.1.1, eq g753.2.2.1], own HEnt.K g753.2.1.1 x752.fl, mp Value.string (fun x : Int => eq (.int .i64 x)) g753.2.2.1 x752.fat, blk b747 71 [eq (.int .i64 ((a0.fl.getD a1.toNat default).fAt)), eq (.string ((a0.fl.getD a1.toNat default).fKey))]]) (F := F) [0, 1, 2, 3] rfl rfl rfl))) (fun _ _ => ?_)
      refine Dn.gh (l' := fun _ : Unit => [blk b747 71 [eq (.int .i64 ((a0.fl.getD a1.toNat default).fAt)), eq (.string ((a0.fl.getD a1.toNat default).fKey))], HHeap.O p0_ x752] ++ F) (gh_of (st_selg (L := [HHeap.O p0_ x752, blk b747 71 [eq (.int .i64 ((a0.fl.getD a1.toNat default).fAt)), eq (.string ((a0.fl.getD a1.toNat default).fKey))]]) (F := F) [1, 0] 0 rfl rfl rfl)) (fun _ _ => ?_)
      exact Jn.mk (x751, false, x752) H (weak_cons rfl (weak_cons rfl (weak_cons rfl (weak_cons rfl weak_nil)))) (List.Perm.refl _)
    · replace H := Gets.ct H c755
      refine Dv.ldbs rfl ⟨_, _, rfl, rfl, rfl⟩ rfl Try.underlying71 rfl c71 (mem_at 3 rfl) (Nat.le_of_ble_eq_true rfl) ?_
      refine Dv.mv rfl ⟨_, _, rfl, rfl, rfl⟩ rfl ?_
      refine Dv.nilpp h754 rfl ⟨_, _, rfl, rfl, rfl⟩ rfl ?_
      refine Dv.fabp h754 rfl ⟨_, _, rfl, rfl, rfl⟩ rfl Try.underlying77 rfl Try.underlying75 c75 (by decide) ?_
      refine Dv.ldb rfl ⟨_, _, rfl, rfl, rfl⟩ rfl Try.underlying75 rfl (mem_at 0 rfl) rfl ?_
      refine Dv.mv rfl ⟨_, _, rfl, rfl, rfl⟩ rfl ?_
      refine Dv.bin rfl ⟨_, _, rfl, rfl, rfl⟩ rfl rfl (fun _ => run_sub) ?_
      refine Dv.bin rfl ⟨_, _, rfl, rfl, rfl⟩ rfl rfl (fun _ => run_quo (by decide)) ?_
      obtain ⟨g756, H⟩ := Gets.grd H
      have h757 : (w64 ((w64 (x751 - 1)).tdiv 2)).toNat < x752.fl.length := idx_lt g756
      refine Dv.ixw rfl ⟨_, _, rfl, rfl, rfl⟩ rfl (mem_at 1 rfl) rfl Try.underlying75 Try.underlying71 c71 g756.1 g756.2 ?_
      refine Dv.ldws (j := ((w64 ((w64 (x751 - 1)).tdiv 2)).toNat)) (f := 0) rfl ⟨_, _, rfl, rfl, rfl⟩ rfl (mem_at 1 rfl) h757 Try.underlying71 rfl c71 (Nat.le_of_ble_eq_true rfl) ?_
      obtain ⟨t758, h759, H⟩ := Gets.call H
      refine Dv.call rfl ⟨_, _, rfl, rfl, rfl⟩ cal70 rfl (heap_ahead.c h759) ?_
      refine Dv.bin rfl ⟨_, _, rfl, rfl, rfl⟩ rfl rfl (fun _ => run_lt) ?_
      refine Dv.pickT rfl trivial rfl rfl ?_
      refine .fin ?_
      refine WP.cond rfl (fun c760 => ?_) (fun c760 => ?_)
      · replace H := Gets.ct H c760
        refine WP.skip ?_
        refine WP.block ?_
        refine WP.seq ?_
        refine WP.reg [(0, false), (1, false), (2, false), (3, false), (4, false), (5, false), (6, false), (7, false), (8, false), (9, false), (10, false), (11, true)] (by kernel_rfl) ?_
        refine Dv.mv rfl trivial rfl ?_
        refine Dv.mv rfl trivial rfl ?_
        refine Dv.mv rfl trivial rfl ?_
        refine Dv.nilpp h754 rfl trivial rfl ?_
        refine Dv.fabp h754 rfl trivial rfl Try.underlying77 rfl Try.underlying75 c75 (by decide) ?_
        refine Dv.ldb rfl trivial rfl Try.underlying75 rfl (mem_at 0 rfl) rfl ?_
        refine Dv.mv rfl trivial rfl ?_
        refine Dv.bin rfl trivial rfl rfl (fun _ => run_sub) ?_
        refine Dv.bin rfl trivial rfl rfl (fun _ => run_quo (by decide)) ?_
        obtain ⟨g761, H⟩ := Gets.grd H
        have h762 : (w64 ((w64 (x751 - 1)).tdiv 2)).toNat < x752.fl.length := idx_lt g761
        refine Dv.ixw rfl trivial rfl (mem_at 1 rfl) rfl Try.underlying75 Try.underlying71 c71 g761.1 g761.2 ?_
        refine Dv.ldws (j := ((w64 ((w64 (x751 - 1)).tdiv 2)).toNat)) (f := 0) rfl trivial rfl (mem_at 1 rfl) h762 Try.underlying71 rfl c71 (Nat.le_of_ble_eq_true rfl) ?_
        refine Dv.gh (l' := fun _ : Unit => [HHeap.O p0_ x752, blk b747 71 [eq (.int .i64 ((a0.fl.getD a1.toNat default).fAt)), eq (.string ((a0.fl.getD a1.toNat default).fKey))]] ++ F) (gh_of (HHeap.shut (p := p0_) (m := x752) (r := [blk b747 71 [eq (.int .i64 ((a0.fl.getD a1.toNat default).fAt)), eq (.string ((a0.fl.getD a1.toNat default).fKey))]] ++ F) (g753.1, g753.2.1, g753.2.2) h754 (perm_to (L := [blk g753.1 77 [eq g753.2.1.1, eq g753.2.2.1], own HEnt.K g753.2.1.1 x752.fl, mp Value.string (fun x : Int => eq (.int .i64 x)) g753.2.2.1 x752.fat, blk b747 71 [eq (.int .i64 ((a0.fl.getD a1.toNat default).fAt)), eq (.string ((a0.fl.getD a1.toNat default).fKey))]]) (F := F) [0, 1, 2, 3] rfl rfl rfl))) (fun _ _ => ?_)
        obtain ⟨t763, h764, H⟩ := Gets.call H
        refine Dv.callx (pre := [HHeap.O p0_ x752]) (F := [blk b747 71 [eq (.int .i64 ((a0.fl.getD a1.toNat default).fAt)), eq (.string ((a0.fl.getD a1.toNat default).fKey))]] ++ F) (fun _ : Unit => [HHeap.O p0_ t763, blk b747 71 [eq (.int .i64 ((a0.fl.getD a1.toNat default).fAt)), eq (.string ((a0.fl.getD a1.toNat default).fKey))]] ++ F) rfl trivial cal51 rfl (heap_Heap_set.c h764 (p0_ := p0_)) (perm_to (L := [HHeap.O p0_ x752, blk b747 71 [eq (.int .i64 ((a0.fl.getD a1.toNat default).fAt)), eq (.string ((a0.fl.getD a1.toNat default).fKey))]]) (F := F) [0, 1] rfl rfl rfl) rfl nofun (fun _ _ => ?_)
        refine .fin ?_
        refine WP.reg [(0, false), (1, false), (2, false), (3, false)] (by kernel_rfl) ?_
        refine Dv.mv rfl trivial rfl ?_
        refine Dv.bin rfl trivial rfl rfl (fun _ => run_sub) ?_
        refine Dv.bin rfl trivial rfl rfl (fun _ => run_quo (by decide)) ?_
        refine Dv.asg rfl trivial rfl ?_
        refine .fin ?_
        refine Dn.gh (l' := fun _ : Unit => [blk b747 71 [eq (.int .i64 ((a0.fl.getD a1.toNat default).fAt)), eq (.string ((a0.fl.getD a1.toNat default).fKey))], HHeap.O p0_ t763] ++ F) (gh_of (st_selg (L := [HHeap.O p0_ t763, blk b747 71 [eq (.int .i64 ((a0.fl.getD a1.toNat default).fAt)), eq (.string ((a0.fl.getD a1.toNat default).fKey))]]) (F := F) [1, 0] 0 rfl rfl rfl)) (fun _ _ => ?_)
        exact Back.mk j766 (w64 ((w64 (x751 - 1)).tdiv 2), t763) (Nat.lt_succ_self _) H (weak_cons rfl (weak_cons rfl (weak_cons rfl weak_nil))) (List.Perm.refl _)
      · replace H := Gets.cf H c760
        refine WP.exit ?_
        replace H := Gets.out H
        refine Dn.gh (l' := fun _ : Unit => [HHeap.O p0_ x752, blk b747 71 [eq (.int .i64 ((a0.fl.getD a1.toNat default).fAt)), eq (.string ((a0.fl.getD a1.toNat default).fKey))]] ++ F) (gh_of (HHeap.shut (p := p0_) (m := x752) (r := [blk b747 71 [eq (.int .i64 ((a0.fl.getD a1.toNat default).fAt)), eq (.string ((a0.fl.getD a1.toNat default).fKey))]] ++ F) (g753.1, g753.2.1, g753.2.2) h754 (perm_to (L := [blk g753.1 77 [eq g753.2.1.1, eq g753.2.2.1], own HEnt.K g753.2.1.1 x752.fl, mp Value.string (fun x : Int => eq (.int .i64 x)) g753.2.2.1 x752.fat, blk b747 71 [eq (.int .i64 ((a0.fl.getD a1.toNat default).fAt)), eq (.string ((a0.fl.getD a1.toNat default).fKey))]]) (F := F) [0, 1, 2, 3] rfl rfl rfl))) (fun _ _ => ?_)
        refine Dn.gh (l' := fun _ : Unit => [blk b747 71 [eq (.int .i64 ((a0.fl.getD a1.toNat default).fAt)), eq (.string ((a0.fl.getD a1.toNat default).fKey))], HHeap.O p0_ x752] ++ F) (gh_of (st_selg (L := [HHeap.O p0_ x752, blk b747 71 [eq (.int .i64 ((a0.fl.getD a1.toNat default).fAt)), eq (.string ((a0.fl.getD a1.toNat default).fKey))]]) (F := F) [1, 0] 0 rfl rfl rfl)) (fun _ _ => ?_)
        exact Jn.mk (x751, decide (t758 < 0), x752) H (weak_cons rfl (weak_cons rfl (weak_cons rfl (weak_cons rfl weak_nil)))) (List.Perm.refl _)
theorem heap_Heap_Drop.c {k : Nat} {a0 : HHeap} {a1 : ByteArray} {p0_ : OV} {r : Bool × HHeap} (h : heap_Heap_Drop.f k a0 a1 = some r) : Tr Try.prog 32 [eq p0_.1, eq (.string a1)] [HHeap.O p0_ a0] (γ := Unit) (fun _ => True) (fun g => eq (.bool r.1)) (fun g => [HHeap.O p0_ r.2]) := by
  unfold heap_Heap_Drop.f at h
  refine Tr.body Try.func32 (c := _) rfl Try.ntmps32 (Nat.le_of_ble_eq_true rfl) fun R0 F => ?_
  replace h := Gets.of h
  have H := h
  clear h
  refine WP.seq ?_
  refine WP.reg [(0, false)] (by kernel_rfl) ?_
  refine Dv.asg rfl trivial rfl ?_
  refine .fin ?_
  refine WP.seq ?_
  refine WP.reg [(0, false), (1, false), (2, false), (3, false), (4, false), (5, false), (6, false), (7, false), (8, false), (9, false), (10, false)] (by kernel_rfl) ?_
  refine Dv.mv rfl trivial rfl ?_
  refine Dv.nilA HHeap.nn rfl trivial rfl (mem_at 0 rfl) ?_
  refine Dv.gh (l' := fun (g768 : Nat × OV × OV) => [blk g768.1 77 [eq g768.2.1.1, eq g768.2.2.1], own HEnt.K g768.2.1.1 a0.fl, mp Value.string (fun x : Int => eq (.int .i64 x)) g768.2.2.1 a0.fat] ++ F) (gh_of (HHeap.opn 0 rfl)) (fun g768 h769 => ?_)
  refine Dv.fabp h769 rfl trivial rfl Try.underlying77 rfl Try.underlying74 c74 (by decide) ?_
  refine Dv.ldb rfl trivial rfl Try.underlying74 rfl (mem_at 0 rfl) rfl ?_
  refine Dv.mv rfl trivial rfl ?_
  refine Dv.mlk 0 rfl trivial rfl (mem_at 2 rfl) rfl Try.underlying74 (keyOk_str Try.underlying9) z3 (fun _ => rfl) ?_
  refine Dv.mv rfl trivial rfl ?_
  refine Dv.ext rfl trivial rfl rfl ?_
  refine Dv.ext rfl trivial rfl rfl ?_
  refine Dv.asg rfl trivial rfl ?_
  refine Dv.asg rfl trivial rfl ?_
  refine .fin ?_
  refine WP.seq ?_
  refine WP.seq ?_
  refine WP.reg [(0, false), (1, false)] (by kernel_rfl) ?_
  refine Dv.mv rfl trivial rfl ?_
  refine Dv.un rfl trivial rfl (fun _ => run_not _) ?_
  refine .fin ?_
  refine WP.cond rfl (fun c770 => ?_) (fun c770 => ?_)
  · replace H := Gets.ct H c770
    refine WP.seq ?_
    refine WP.reg [(0, false)] (by kernel_rfl) ?_
    refine Dv.asg rfl trivial rfl ?_
    refine .fin ?_
    refine WP.gh (l' := fun _ : Unit => [HHeap.O p0_ a0] ++ F) (gh_of (HHeap.shut (p := p0_) (m := a0) (r := [] ++ F) (g768.1, g768.2.1, g768.2.2) h769 (perm_to (L := [blk g768.1 77 [eq g768.2.1.1, eq g768.2.2.1], own HEnt.K g768.2.1.1 a0.fl, mp Value.string (fun x : Int => eq (.int .i64 x)) g768.2.2.1 a0.fat]) (F := F) [0, 1, 2] rfl rfl rfl))) (fun _ _ => ?_)
    obtain rfl := Gets.out H
    exact WP.retL (fun _ _ h => h) rfl () trivial (.cons (res_tmp rfl) .nil) rfl (st_sel (L := [HHeap.O p0_ a0]) (F := F) [0] 0 rfl rfl rfl)
  · replace H := Gets.cf H c770
    refine WP.skip ?_
    refine WP.seq ?_
    refine WP.reg [(0, false), (1, false), (2, false), (3, false), (4, false), (5, true)] (by kernel_rfl) ?_
    refine Dv.mv rfl trivial rfl ?_
    refine Dv.nilpp h769 rfl trivial rfl ?_
    refine Dv.fabp h769 rfl trivial rfl Try.underlying77 rfl Try.underlying74 c74 (by decide) ?_
    refine Dv.ldb rfl trivial rfl Try.underlying74 rfl (mem_at 0 rfl) rfl ?_
    refine Dv.mv rfl trivial rfl ?_
    refine Dv.mdl (jj := 2) rfl trivial rfl rfl rfl Try.underlying74 (keyOk_str Try.underlying9) nofun ?_
    refine .fin ?_
    refine WP.seq ?_
    refine WP.reg [(0, false), (1, false), (2, false), (3, false), (4, false), (5, false), (6, false)] (by kernel_rfl) ?_
    refine Dv.mv rfl trivial rfl ?_
    refine Dv.nilpp h769 rfl trivial rfl ?_
    refine Dv.fabp h769 rfl trivial rfl Try.underlying77 rfl Try.underlying75 c75 (by decide) ?_
    refine Dv.ldb rfl trivial rfl Try.underlying75 rfl (mem_at 0 rfl) rfl ?_
    refine Dv.lenw rfl trivial rfl (mem_at 1 rfl) Try.underlying75 ?_
    refine Dv.bin rfl trivial rfl rfl (fun _ => run_sub) ?_
    refine Dv.asg rfl trivial rfl ?_
    refine .fin ?_
    refine WP.seq ?_
    refine WP.reg [(0, false), (1, false), (2, false), (3, false), (4, false), (5, false), (6, false), (7, true), (8, true)] (by kernel_rfl) ?_
    refine Dv.mv rfl trivial rfl ?_
    refine Dv.nilpp h769 rfl trivial rfl ?_
    refine Dv.fabp h769 rfl trivial rfl Try.underlying77 rfl Try.underlying75 c75 (by decide) ?_
    refine Dv.ldb rfl trivial rfl Try.underlying75 rfl (mem_at 0 rfl) rfl ?_
    refine Dv.mv rfl trivial rfl ?_
    obtain ⟨g771, H⟩ := Gets.grd H
    have h772 : (w64 ((a0.fl.length : Int) - 1)).toNat < a0.fl.length := idx_lt g771
    refine Dv.ixw rfl trivial rfl (mem_at 1 rfl) rfl Try.underlying75 Try.underlying71 c71 g771.1 g771.2 ?_
    refine Dv.ldws (j := ((w64 ((a0.fl.length : Int) - 1)).toNat)) (f := 0) rfl trivial rfl (mem_at 1 rfl) h772 Try.underlying71 rfl c71 (Nat.le_of_ble_eq_true rfl) ?_
    refine Dv.alloc (z := .agg #[.int .i64 0, .string ⟨#[]⟩]) (qs := [eq (.int .i64 0), eq (.string (⟨#[]⟩ : ByteArray))]) rfl trivial z71 rfl nofun (fun b773 => ?_)
    refine Dv.stx ([blk b773 71 [eq (.int .i64 ((a0.fl.getD ((w64 ((a0.fl.length : Int) - 1)).toNat) default).fAt)), eq (.string ((a0.fl.getD ((w64 ((a0.fl.length : Int) - 1)).toNat) default).fKey))], blk g768.1 77 [eq g768.2.1.1, eq g768.2.2.1], own HEnt.K g768.2.1.1 a0.fl, mp Value.string (fun x : Int => eq (.int .i64 x)) g768.2.2.1 (mdel a0.fat a1)] ++ F) rfl trivial rfl rfl (cells_agg (HEnt.K.one _)) Try.underlying71 c71 rfl (j := 0) rfl (Nat.le_of_ble_eq_true rfl) rfl nofun ?_
    refine .fin ?_
    refine WP.seq ?_
    refine WP.reg [(0, false), (1, false), (2, false), (3, false), (4, false), (5, false), (6, true), (7, false), (8, false), (9, true)] (by kernel_rfl) ?_
    refine Dv.mv rfl trivial rfl ?_
    refine Dv.mv rfl trivial rfl ?_
    refine Dv.nilpp h769 rfl trivial rfl ?_
    refine Dv.fabp h769 rfl trivial rfl Try.underlying77 rfl Try.underlying75 c75 (by decide) ?_
    refine Dv.ldb rfl trivial rfl Try.underlying75 rfl (mem_at 1 rfl) rfl ?_
    refine Dv.mv rfl trivial rfl ?_
    obtain ⟨g774, H⟩ := Gets.grd H
    refine Dv.slo (jj := 2) rfl trivial rfl rfl Try.underlying75 Try.underlying71 c71 bdE_none (bdE_some rfl g774.1) (.inl rfl) g774.2.1 g774.2.2 nofun (fun v775 => ?_)
    refine Dv.nilpp h769 rfl trivial rfl ?_
    refine Dv.fabp h769 rfl trivial rfl Try.underlying77 rfl Try.underlying75 c75 (by decide) ?_
    refine Dv.stx ([blk b773 71 [eq (.int .i64 ((a0.fl.getD ((w64 ((a0.fl.length : Int) - 1)).toNat) default).fAt)), eq (.string ((a0.fl.getD ((w64 ((a0.fl.length : Int) - 1)).toNat) default).fKey))], blk g768.1 77 [eq v775.1, eq g768.2.2.1], own HEnt.K v775.1 ((a0.fl.take ((w64 ((a0.fl.length : Int) - 1)).toNat)).drop 0), mp Value.string (fun x : Int => eq (.int .i64 x)) g768.2.2.1 (mdel a0.fat a1)] ++ F) rfl trivial rfl rfl (cells_one one_ov) Try.underlying75 c75 rfl (j := 1) rfl (Nat.le_of_ble_eq_true rfl) rfl nofun ?_
    refine .fin ?_
    refine WP.seq ?_
    refine WP.seq ?_
    refine WP.reg [(0, false), (1, false), (2, false)] (by kernel_rfl) ?_
    refine Dv.mv rfl trivial rfl ?_
    refine Dv.mv rfl trivial rfl ?_
    refine Dv.bin rfl trivial rfl rfl (fun _ => run_lt) ?_
    refine .fin ?_
    refine WP.cond rfl (fun c776 => ?_) (fun c776 => ?_)
    · replace H := Gets.ct H c776
      refine WP.seq ?_
      refine WP.reg [(0, false), (1, false), (2, false), (3, true)] (by kernel_rfl) ?_
      refine Dv.mv rfl trivial rfl ?_
      refine Dv.mv rfl trivial rfl ?_
      refine Dv.ldbs rfl trivial rfl Try.underlying71 rfl c71 (mem_at 0 rfl) (Nat.le_of_ble_eq_true rfl) ?_
      refine Dv.gh (l' := fun _ : Unit => [HHeap.O p0_ (⟨(a0.fl.take ((w64 ((a0.fl.length : Int) - 1)).toNat)).drop 0, mdel a0.fat a1⟩ : HHeap), blk b773 71 [eq (.int .i64 ((a0.fl.getD ((w64 ((a0.fl.length : Int) - 1)).toNat) default).fAt)), eq (.string ((a0.fl.getD ((w64 ((a0.fl.length : Int) - 1)).toNat) default).fKey))]] ++ F) (gh_of (HHeap.shut (p := p0_) (m := (⟨(a0.fl.take ((w64 ((a0.fl.length : Int) - 1)).toNat)).drop 0, mdel a0.fat a1⟩ : HHeap)) (r := [blk b773 71 [eq (.int .i64 ((a0.fl.getD ((w64 ((a0.fl.length : Int) - 1)).toNat) default).fAt)), eq (.string ((a0.fl.getD ((w64 ((a0.fl.length : Int) - 1)).toNat) default).fKey))]] ++ F) (g768.1, v775, g768.2.2) h769 (perm_to (L := [blk b773 71 [eq (.int .i64 ((a0.fl.getD ((w64 ((a0.fl.length : Int) - 1)).toNat) default).fAt)), eq (.string ((a0.fl.getD ((w64 ((a0.fl.length : Int) - 1)).toNat) default).fKey))], blk g768.1 77 [eq v775.1, eq g768.2.2.1], own HEnt.K v775.1 ((a0.fl.take ((w64 ((a0.fl.length : Int) - 1)).toNat)).drop 0), mp Value.string (fun x : Int => eq (.int .i64 x)) g768.2.2.1 (mdel a0.fat a1)]) (F := F) [1, 2, 3, 0] rfl rfl rfl))) (fun _ _ => ?_)
      obtain ⟨t777, h778, H⟩ := Gets.call H
      refine Dv.callx (pre := [HHeap.O p0_ (⟨(a0.fl.take ((w64 ((a0.fl.length : Int) - 1)).toNat)).drop 0, mdel a0.fat a1⟩ : HHeap)]) (F := [blk b773 71 [eq (.int .i64 ((a0.fl.getD ((w64 ((a0.fl.length : Int) - 1)).toNat) default).fAt)), eq (.string ((a0.fl.getD ((w64 ((a0.fl.length : Int) - 1)).toNat) default).fKey))]] ++ F) (fun _ : Unit => [HHeap.O p0_ t777, blk b773 71 [eq (.int .i64 ((a0.fl.getD ((w64 ((a0.fl.length : Int) - 1)).toNat) default).fAt)), eq (.string ((a0.fl.getD ((w64 ((a0.fl.length : Int) - 1)).toNat) default).fKey))]] ++ F) rfl trivial cal51 rfl (heap_Heap_set.c h778 (p0_ := p0_)) (perm_to (L := [HHeap.O p0_ (⟨(a0.fl.take ((w64 ((a0.fl.length : Int) - 1)).toNat)).drop 0, mdel a0.fat a1⟩ : HHeap), blk b773 71 [eq (.int .i64 ((a0.fl.getD ((w64 ((a0.fl.length : Int) - 1)).toNat) default).fAt)), eq (.string ((a0.fl.getD ((w64 ((a0.fl.length : Int) - 1)).toNat) default).fKey))]]) (F := F) [0, 1] rfl rfl rfl) rfl nofun (fun _ _ => ?_)
      refine .fin ?_
      refine WP.seq ?_
      refine WP.reg [(0, false), (1, false), (2, true)] (by kernel_rfl) ?_
      refine Dv.mv rfl trivial rfl ?_
      refine Dv.mv rfl trivial rfl ?_
      obtain ⟨t779, h780, H⟩ := Gets.call H
      refine Dv.callx (pre := [HHeap.O p0_ t777]) (F := [blk b773 71 [eq (.int .i64 ((a0.fl.getD ((w64 ((a0.fl.length : Int) - 1)).toNat) default).fAt)), eq (.string ((a0.fl.getD ((w64 ((a0.fl.length : Int) - 1)).toNat) default).fKey))]] ++ F) (fun _ : Unit => [HHeap.O p0_ t779, blk b773 71 [eq (.int .i64 ((a0.fl.getD ((w64 ((a0.fl.length : Int) - 1)).toNat) default).fAt)), eq (.string ((a0.fl.getD ((w64 ((a0.fl.length : Int) - 1)).toNat) default).fKey))]] ++ F) rfl trivial cal52 rfl (heap_Heap_down.c h780 (p0_ := p0_)) (perm_to (L := [HHeap.O p0_ t777, blk b773 71 [eq (.int .i64 ((a0.fl.getD ((w64 ((a0.fl.length : Int) - 1)).toNat) default).fAt)), eq (.string ((a0.fl.getD ((w64 ((a0.fl.length : Int) - 1)).toNat) default).fKey))]]) (F := F) [0, 1] rfl rfl rfl) rfl nofun (fun _ _ => ?_)
      refine .fin ?_
      refine WP.gh (l' := fun (g781 : Nat × OV × OV) => [blk g781.1 77 [eq g781.2.1.1, eq g781.2.2.1], own HEnt.K g781.2.1.1 t779.fl, mp Value.string (fun x : Int => eq (.int .i64 x)) g781.2.2.1 t779.fat, blk b773 71 [eq (.int .i64 ((a0.fl.getD ((w64 ((a0.fl.length : Int) - 1)).toNat) default).fAt)), eq (.string ((a0.fl.getD ((w64 ((a0.fl.length : Int) - 1)).toNat) default).fKey))]] ++ F) (gh_of (HHeap.opn 0 rfl)) (fun g781 h782 => ?_)
      refine WP.dreg Try.checked.mixed [(0, false), (1, false), (2, false), (3, false), (4, false), (5, false), (6, false), (7, false), (8, true)] (by kernel_rfl) ?_
      refine Dv.mv rfl trivial rfl ?_
      refine Dv.mv rfl trivial rfl ?_
      refine Dv.nilpp h782 rfl trivial rfl ?_
      refine Dv.fabp h782 rfl trivial rfl Try.underlying77 rfl Try.underlying74 c74 (by decide) ?_
      refine Dv.ldb rfl trivial rfl Try.underlying74 rfl (mem_at 0 rfl) rfl ?_
      refine Dv.fab rfl trivial rfl Try.underlying71 rfl Try.underlying9 c9 (by decide) ?_
      refine Dv.ldb rfl trivial rfl Try.underlying9 rfl (mem_at 3 rfl) rfl ?_
      refine Dv.mlv 0 rfl trivial rfl (mem_at 2 rfl) rfl Try.underlying74 (keyOk_str Try.underlying9) z3 (fun _ => rfl) ?_
      obtain ⟨t783, h784, H⟩ := Gets.call H
      refine Dv.callx (pre := [blk g781.1 77 [eq g781.2.1.1, eq g781.2.2.1], own HEnt.K g781.2.1.1 t779.fl, mp Value.string (fun x : Int => eq (.int .i64 x)) g781.2.2.1 t779.fat]) (F := [blk b773 71 [eq (.int .i64 ((a0.fl.getD ((w64 ((a0.fl.length : Int) - 1)).toNat) default).fAt)), eq (.string ((a0.fl.getD ((w64 ((a0.fl.length : Int) - 1)).toNat) default).fKey))]] ++ F) (fun _ : Unit => [HHeap.O p0_ t783, blk b773 71 [eq (.int .i64 ((a0.fl.getD ((w64 ((a0.fl.length : Int) - 1)).toNat) default).fAt)), eq (.string ((a0.fl.getD ((w64 ((a0.fl.length : Int) - 1)).toNat) default).fKey))]] ++ F) rfl trivial cal53 rfl (Tr.pre (pre' := [blk g781.1 77 [eq g781.2.1.1, eq g781.2.2.1], own HEnt.K g781.2.1.1 t779.fl, mp Value.string (fun x : Int => eq (.int .i64 x)) g781.2.2.1 t779.fat]) (heap_Heap_up.c h784 (p0_ := p0_)) (fun F R w => HHeap.shut (p := p0_) (m := t779) (r := F) (g781.1, g781.2.1, g781.2.2) h782 (List.Perm.refl _) R w)) (perm_to (L := [blk g781.1 77 [eq g781.2.1.1, eq g781.2.2.1], own HEnt.K g781.2.1.1 t779.fl, mp Value.string (fun x : Int => eq (.int .i64 x)) g781.2.2.1 t779.fat, blk b773 71 [eq (.int .i64 ((a0.fl.getD ((w64 ((a0.fl.length : Int) - 1)).toNat) default).fAt)), eq (.string ((a0.fl.getD ((w64 ((a0.fl.length : Int) - 1)).toNat) default).fKey))]]) (F := F) [0, 1, 2, 3] rfl rfl rfl) rfl (fun _ => pendc (pend_bits (by kernel_rfl))) (fun _ _ => ?_)
      refine .fin ?_
      refine WP.seq ?_
      refine WP.reg [(0, false)] (by kernel_rfl) ?_
      refine Dv.asg rfl trivial rfl ?_
      refine .fin ?_
      obtain rfl := Gets.out H
      exact WP.retL (fun _ _ h => h) rfl () trivial (.cons (res_tmp rfl) .nil) rfl (st_sel (L := [HHeap.O p0_ t783, blk b773 71 [eq (.int .i64 ((a0.fl.getD ((w64 ((a0.fl.length : Int) - 1)).toNat) default).fAt)), eq (.string ((a0.fl.getD ((w64 ((a0.fl.length : Int) - 1)).toNat) default).fKey))]]) (F := F) [1, 0] 1 rfl rfl rfl)
    · replace H := Gets.cf H c776
      refine WP.skip ?_
      refine WP.seq ?_
      refine WP.reg [(0, false)] (by kernel_rfl) ?_
      refine Dv.asg rfl trivial rfl ?_
      refine .fin ?_
      refine WP.gh (l' := fun _ : Unit => [HHeap.O p0_ (⟨(a0.fl.take ((w64 ((a0.fl.length : Int) - 1)).toNat)).drop 0, mdel a0.fat a1⟩ : HHeap), blk b773 71 [eq (.int .i64 ((a0.fl.getD ((w64 ((a0.fl.length : Int) - 1)).toNat) default).fAt)), eq (.string ((a0.fl.getD ((w64 ((a0.fl.length : Int) - 1)).toNat) default).fKey))]] ++ F) (gh_of (HHeap.shut (p := p0_) (m := (⟨(a0.fl.take ((w64 ((a0.fl.length : Int) - 1)).toNat)).drop 0, mdel a0.fat a1⟩ : HHeap)) (r := [blk b773 71 [eq (.int .i64 ((a0.fl.getD ((w64 ((a0.fl.length : Int) - 1)).toNat) default).fAt)), eq (.string ((a0.fl.getD ((w64 ((a0.fl.length : Int) - 1)).toNat) default).fKey))]] ++ F) (g768.1, v775, g768.2.2) h769 (perm_to (L := [blk b773 71 [eq (.int .i64 ((a0.fl.getD ((w64 ((a0.fl.length : Int) - 1)).toNat) default).fAt)), eq (.string ((a0.fl.getD ((w64 ((a0.fl.length : Int) - 1)).toNat) default).fKey))], blk g768.1 77 [eq v775.1, eq g768.2.2.1], own HEnt.K v775.1 ((a0.fl.take ((w64 ((a0.fl.length : Int) - 1)).toNat)).drop 0), mp Value.string (fun x : Int => eq (.int .i64 x)) g768.2.2.1 (mdel a0.fat a1)]) (F := F) [1, 2, 3, 0] rfl rfl rfl))) (fun _ _ => ?_)
      obtain rfl := Gets.out H
      exact WP.retL (fun _ _ h => h) rfl () trivial (.cons (res_tmp rfl) .nil) rfl (st_sel (L := [HHeap.O p0_ (⟨(a0.fl.take ((w64 ((a0.fl.length : Int) - 1)).toNat)).drop 0, mdel a0.fat a1⟩ : HHeap), blk b773 71 [eq (.int .i64 ((a0.fl.getD ((w64 ((a0.fl.length : Int) - 1)).toNat) default).fAt)), eq (.string ((a0.fl.getD ((w64 ((a0.fl.length : Int) - 1)).toNat) default).fKey))]]) (F := F) [1, 0] 1 rfl rfl rfl)
theorem heap_Heap_Put.c {k : Nat} {a0 : HHeap} {a1 : Int} {a2 : ByteArray} {p0_ : OV} {r : HHeap} (h : heap_Heap_Put.f k a0 a1 a2 = some r) : Tr Try.prog 33 [eq p0_.1, eq (.int .i64 a1), eq (.string a2)] [HHeap.O p0_ a0] (γ := Unit) (fun _ => True) (fun g => tup []) (fun g => [HHeap.O p0_ r]) := by
  unfold heap_Heap_Put.f at h
  refine Tr.body Try.func33 (c := _) rfl Try.ntmps33 (Nat.le_of_ble_eq_true rfl) fun R0 F => ?_
  replace h := Gets.of h
  have H := h
  clear h
  refine WP.seq ?_
  refine WP.reg [(0, false), (1, false), (2, true)] (by kernel_rfl) ?_
  refine Dv.mv rfl trivial rfl ?_
  refine Dv.mv rfl trivial rfl ?_
  obtain ⟨t785, h786, H⟩ := Gets.call H
  refine Dv.callx (pre := [HHeap.O p0_ a0]) (F := [] ++ F) (fun _ : Unit => [HHeap.O p0_ t785.2] ++ F) rfl trivial cal32 rfl (heap_Heap_Drop.c h786 (p0_ := p0_)) (perm_to (L := [HHeap.O p0_ a0]) (F := F) [0] rfl rfl rfl) rfl nofun (fun _ _ => ?_)
  refine .fin ?_
  refine WP.seq ?_
  refine WP.reg [(0, false), (1, false), (2, false), (3, false), (4, false), (5, false), (6, false), (7, false), (8, false), (9, true), (10, false), (11, false), (12, true)] (by kernel_rfl) ?_
  refine Dv.mv rfl trivial rfl ?_
  refine Dv.mv rfl trivial rfl ?_
  refine Dv.nilA HHeap.nn rfl trivial rfl (mem_at 0 rfl) ?_
  refine Dv.gh (l' := fun (g787 : Nat × OV × OV) => [blk g787.1 77 [eq g787.2.1.1, eq g787.2.2.1], own HEnt.K g787.2.1.1 t785.2.fl, mp Value.string (fun x : Int => eq (.int .i64 x)) g787.2.2.1 t785.2.fat] ++ F) (gh_of (HHeap.opn 0 rfl)) (fun g787 h788 => ?_)
  refine Dv.fabp h788 rfl trivial rfl Try.underlying77 rfl Try.underlying75 c75 (by decide) ?_
  refine Dv.ldb rfl trivial rfl Try.underlying75 rfl (mem_at 0 rfl) rfl ?_
  refine Dv.mv rfl trivial rfl ?_
  refine Dv.mv rfl trivial rfl ?_
  refine Dv.bld (css := [[eq (.int .i64 a1)], [eq (.string a2)]]) rfl trivial Try.underlying71 pl71 z71 rfl ⟨(cells_one (one_eq rfl)), ⟨(cells_one (one_eq rfl)), trivial⟩⟩ rfl rfl ?_
  refine Dv.lit HEnt.K ([(⟨a1, a2⟩ : HEnt)] : List HEnt) (css := [[eq (.int .i64 a1), eq (.string a2)]]) rfl trivial Try.underlying75 Try.underlying71 c71 z71 rfl (by decide) (by decide) rfl ⟨(cells_agg (ones_cons (one_eq rfl) (ones_cons (one_eq rfl) ones_nil))), trivial⟩ rfl rfl rfl ?_
  obtain ⟨g789, H⟩ := Gets.grd H
  refine Dv.appx (jj := 1) (ys := ([(⟨a1, a2⟩ : HEnt)] : List HEnt)) (fun v790 : OV => [blk g787.1 77 [eq g787.2.1.1, eq g787.2.2.1], own HEnt.K v790.1 (t785.2.fl ++ ([(⟨a1, a2⟩ : HEnt)] : List HEnt)), mp Value.string (fun x : Int => eq (.int .i64 x)) g787.2.2.1 t785.2.fat] ++ F) rfl trivial rfl rfl rfl src_sl Try.underlying75 (.inr ⟨_, Try.underlying75⟩) inf71 rfl (by decide) g789 rfl nofun (fun v790 => ?_)
  refine Dv.nilpp h788 rfl trivial rfl ?_
  refine Dv.fabp h788 rfl trivial rfl Try.underlying77 rfl Try.underlying75 c75 (by decide) ?_
  refine Dv.stx ([blk g787.1 77 [eq v790.1, eq g787.2.2.1], own HEnt.K v790.1 (t785.2.fl ++ ([(⟨a1, a2⟩ : HEnt)] : List HEnt)), mp Value.string (fun x : Int => eq (.int .i64 x)) g787.2.2.1 t785.2.fat] ++ F) rfl trivial rfl rfl (cells_one one_ov) Try.underlying75 c75 rfl (j := 0) rfl (Nat.le_of_ble_eq_true rfl) rfl nofun ?_
  refine .fin ?_
  refine WP.reg [(0, false), (1, false), (2, false), (3, false), (4, false), (5, false), (6, false), (7, true)] (by kernel_rfl) ?_
  refine Dv.mv rfl trivial rfl ?_
  refine Dv.mv rfl trivial rfl ?_
  refine Dv.nilpp h788 rfl trivial rfl ?_
  refine Dv.fabp h788 rfl trivial rfl Try.underlying77 rfl Try.underlying75 c75 (by decide) ?_
  refine Dv.ldb rfl trivial rfl Try.underlying75 rfl (mem_at 0 rfl) rfl ?_
  refine Dv.lenw rfl trivial rfl (mem_at 1 rfl) Try.underlying75 ?_
  refine Dv.bin rfl trivial rfl rfl (fun _ => run_sub) ?_
  refine Dv.gh (l' := fun _ : Unit => [HHeap.O p0_ (⟨t785.2.fl ++ ([(⟨a1, a2⟩ : HEnt)] : List HEnt), t785.2.fat⟩ : HHeap)] ++ F) (gh_of (HHeap.shut (p := p0_) (m := (⟨t785.2.fl ++ ([(⟨a1, a2⟩ : HEnt)] : List HEnt), t785.2.fat⟩ : HHeap)) (r := [] ++ F) (g787.1, v790, g787.2.2) h788 (perm_to (L := [blk g787.1 77 [eq v790.1, eq g787.2.2.1], own HEnt.K v790.1 (t785.2.fl ++ ([(⟨a1, a2⟩ : HEnt)] : List HEnt)), mp Value.string (fun x : Int => eq (.int .i64 x)) g787.2.2.1 t785.2.fat]) (F := F) [0, 1, 2] rfl rfl rfl))) (fun _ _ => ?_)
  obtain ⟨t791, h792, H⟩ := Gets.call H
  refine Dv.callx (pre := [HHeap.O p0_ (⟨t785.2.fl ++ ([(⟨a1, a2⟩ : HEnt)] : List HEnt), t785.2.fat⟩ : HHeap)]) (F := [] ++ F) (fun _ : Unit => [HHeap.O p0_ t791] ++ F) rfl trivial cal53 rfl (heap_Heap_up.c h792 (p0_ := p0_)) (perm_to (L := [HHeap.O p0_ (⟨t785.2.fl ++ ([(⟨a1, a2⟩ : HEnt)] : List HEnt), t785.2.fat⟩ : HHeap)]) (F := F) [0] rfl rfl rfl) rfl nofun (fun _ _ => ?_)
  refine .fin ?_
  obtain rfl := Gets.out H
  exact res_end rfl () trivial .nil rfl (st_sel (L := [HHeap.O p0_ t791]) (F := F) [0] 0 rfl rfl rfl)
theorem typing_end.c {a0 : Edu} {r : Int} (h : typing_end.f a0 = some r) : Pt Try.prog 34 [agg (Edu.enc a0)] (eq (.int .i64 r)) := by
  unfold typing_end.f at h
  refine (Tr.body Try.func34 (c := _) rfl Try.ntmps34 (Nat.le_of_ble_eq_true rfl) fun R0 F => ?_).pt
  replace h := Gets.of h
  have H := h
  clear h
  refine WP.seq ?_
  refine WP.reg [(0, true), (1, false)] (by kernel_rfl) ?_
  refine Dv.box rfl trivial rfl (cells_agg (Edu.K.one _)) nofun (fun b793 => ?_)
  refine Dv.asg rfl trivial rfl ?_
  refine .fin ?_
  refine WP.seq ?_
  refine WP.reg [(0, false), (1, false), (2, false), (3, false), (4, false), (5, false)] (by kernel_rfl) ?_
  refine Dv.fab rfl trivial rfl Try.underlying32 rfl Try.underlying3 c3 (by decide) ?_
  refine Dv.ldb rfl trivial rfl Try.underlying3 rfl (mem_at 0 rfl) rfl ?_
  refine Dv.fab rfl trivial rfl Try.underlying32 rfl Try.underlying3 c3 (by decide) ?_
  refine Dv.ldb rfl trivial rfl Try.underlying3 rfl (mem_at 0 rfl) rfl ?_
  refine Dv.bin rfl trivial rfl rfl (fun _ => run_add) ?_
  refine Dv.asg rfl trivial rfl ?_
  refine .fin ?_
  obtain rfl := Gets.out H
  exact WP.retL (fun _ _ h => h) rfl () trivial (.cons (res_tmp rfl) .nil) rfl (st_sel (L := [blk b793 32 [eq (.int .i64 a0.fKind), eq (.string a0.fRoom), eq (.string a0.fUser), eq (.string a0.fEvent), eq (.string a0.fThread), eq (.bool a0.fPrivate), eq (.bool a0.fOn), eq (.int .i64 a0.fSpan), eq (.int .i64 a0.fState), eq (.int .i64 a0.fTick), eq (.int .i64 a0.fStamp)]]) (F := F) [0] 1 rfl rfl rfl)
theorem typing_Table_Put.c {k : Nat} {a0 : TTab} {a1 : Edu} {p0_ : OV} {r : Bool × Int × TTab} (h : typing_Table_Put.f k a0 a1 = some r) : Tr Try.prog 10 [eq p0_.1, agg (Edu.enc a1)] [TTab.O p0_ a0] (γ := Unit) (fun _ => True) (fun g => tup [eq (.bool r.1), eq (.int .i64 r.2.1)]) (fun g => [TTab.O p0_ r.2.2]) := by
  unfold typing_Table_Put.f at h
  refine Tr.body Try.func10 (c := _) rfl Try.ntmps10 (Nat.le_of_ble_eq_true rfl) fun R0 F => ?_
  replace h := Gets.of h
  have H := h
  clear h
  refine WP.seq ?_
  refine WP.reg [(0, true), (1, false), (2, false)] (by kernel_rfl) ?_
  refine Dv.box rfl trivial rfl (cells_agg (Edu.K.one _)) nofun (fun b794 => ?_)
  refine Dv.asg rfl trivial rfl ?_
  refine Dv.asg rfl trivial rfl ?_
  refine .fin ?_
  refine WP.seq ?_
  refine WP.seq ?_
  refine WP.reg [(0, false), (1, false), (2, false), (3, false), (4, false), (5, false), (6, false), (7, false)] (by kernel_rfl) ?_
  refine Dv.fab rfl trivial rfl Try.underlying32 rfl Try.underlying3 c3 (by decide) ?_
  refine Dv.ldb rfl trivial rfl Try.underlying3 rfl (mem_at 0 rfl) rfl ?_
  refine Dv.bin rfl trivial rfl rfl (fun _ => run_ne) ?_
  refine Dv.mv rfl trivial rfl ?_
  cases c795 : (a1.fKind != 2)
  · replace H := Gets.cf H c795
    refine Dv.ldbs rfl ⟨_, _, rfl, rfl, rfl⟩ rfl Try.underlying32 rfl c32 (mem_at 0 rfl) (Nat.le_of_ble_eq_true rfl) ?_
    obtain ⟨t797, h798, H⟩ := Gets.call H
    refine Dv.call rfl ⟨_, _, rfl, rfl, rfl⟩ cal28 rfl (edu_May.c h798) ?_
    refine Dv.un rfl ⟨_, _, rfl, rfl, rfl⟩ rfl (fun _ => run_not _) ?_
    refine Dv.pickF rfl trivial rfl rfl ?_
    refine .fin ?_
    refine WP.cond rfl (fun c799 => ?_) (fun c799 => ?_)
    · replace H := Gets.ct H c799
      refine WP.seq ?_
      refine WP.reg [(0, false), (1, false)] (by kernel_rfl) ?_
      refine Dv.asg rfl trivial rfl ?_
      refine Dv.asg rfl trivial rfl ?_
      refine .fin ?_
      obtain rfl := Gets.out H
      exact WP.retL (fun _ _ h => h) rfl () trivial (.cons (res_tmp rfl) (.cons (res_tmp rfl) .nil)) rfl (st_sel (L := [blk b794 32 [eq (.int .i64 a1.fKind), eq (.string a1.fRoom), eq (.string a1.fUser), eq (.string a1.fEvent), eq (.string a1.fThread), eq (.bool a1.fPrivate), eq (.bool a1.fOn), eq (.int .i64 a1.fSpan), eq (.int .i64 a1.fState), eq (.int .i64 a1.fTick), eq (.int .i64 a1.fStamp)], TTab.O p0_ a0]) (F := F) [0, 1] 1 rfl rfl rfl)
    · replace H := Gets.cf H c799
      refine WP.skip ?_
      refine WP.seq ?_
      refine WP.reg [(0, false), (1, false), (2, false), (3, false), (4, false), (5, false), (6, false), (7, false)] (by kernel_rfl) ?_
      refine Dv.mv rfl trivial rfl ?_
      refine Dv.ldbs rfl trivial rfl Try.underlying32 rfl c32 (mem_at 0 rfl) (Nat.le_of_ble_eq_true rfl) ?_
      refine Dv.gh (l' := fun (g800 : Nat × OV × OV) => [blk g800.1 59 [eq g800.2.1.1, eq g800.2.2.1], own Edu.K g800.2.1.1 a0.fl, HHeap.O g800.2.2 a0.fends, blk b794 32 [eq (.int .i64 a1.fKind), eq (.string a1.fRoom), eq (.string a1.fUser), eq (.string a1.fEvent), eq (.string a1.fThread), eq (.bool a1.fPrivate), eq (.bool a1.fOn), eq (.int .i64 a1.fSpan), eq (.int .i64 a1.fState), eq (.int .i64 a1.fTick), eq (.int .i64 a1.fStamp)]] ++ F) (gh_of (TTab.opn 1 rfl)) (fun g800 h801 => ?_)
      obtain ⟨t802, h803, H⟩ := Gets.call H
      refine Dv.calll (B := [blk g800.1 59 [eq g800.2.1.1, eq g800.2.2.1], own Edu.K g800.2.1.1 a0.fl]) (F := [HHeap.O g800.2.2 a0.fends, blk b794 32 [eq (.int .i64 a1.fKind), eq (.string a1.fRoom), eq (.string a1.fUser), eq (.string a1.fEvent), eq (.string a1.fThread), eq (.bool a1.fPrivate), eq (.bool a1.fOn), eq (.int .i64 a1.fSpan), eq (.int .i64 a1.fState), eq (.int .i64 a1.fTick), eq (.int .i64 a1.fStamp)]] ++ F) rfl trivial cal29 rfl (Tr.weak (typing_Table_place.c h803 (b0_ := g800.1) (v0_0 := g800.2.1) (v0_1 := g800.2.2)) (.cons (wk_ptr h801) (.cons wk_id .nil))) (perm_to (L := [blk g800.1 59 [eq g800.2.1.1, eq g800.2.2.1], own Edu.K g800.2.1.1 a0.fl, HHeap.O g800.2.2 a0.fends, blk b794 32 [eq (.int .i64 a1.fKind), eq (.string a1.fRoom), eq (.string a1.fUser), eq (.string a1.fEvent), eq (.string a1.fThread), eq (.bool a1.fPrivate), eq (.bool a1.fOn), eq (.int .i64 a1.fSpan), eq (.int .i64 a1.fState), eq (.int .i64 a1.fTick), eq (.int .i64 a1.fStamp)]]) (F := F) [0, 1, 2, 3] rfl rfl rfl) ?_
      refine Dv.mv rfl trivial rfl ?_
      refine Dv.ext rfl trivial rfl rfl ?_
      refine Dv.ext rfl trivial rfl rfl ?_
      refine Dv.asg rfl trivial rfl ?_
      refine Dv.asg rfl trivial rfl ?_
      refine .fin ?_
      refine WP.seqr H id (fun p804 : Bool × Bool × Bool × TTab => [(0, eq p0_.1), (1, agg (Edu.enc a1)), (3, eq (.pointer (some ⟨b794, 0, none⟩))), (4, eq (.bool false)), (5, eq (.int .i64 0)), (6, eq (.int .i64 t802.1)), (7, eq (.bool p804.1)), (16, eq (.bool (!t797))), (34, eq (.bool p804.2.1)), (59, eq (.bool p804.2.2.1))]) (fun p804 : Bool × Bool × Bool × TTab => [blk b794 32 [eq (.int .i64 a1.fKind), eq (.string a1.fRoom), eq (.string a1.fUser), eq (.string a1.fEvent), eq (.string a1.fThread), eq (.bool a1.fPrivate), eq (.bool a1.fOn), eq (.int .i64 a1.fSpan), eq (.int .i64 a1.fState), eq (.int .i64 a1.fTick), eq (.int .i64 a1.fStamp)], TTab.O p0_ p804.2.2.2] ++ F) (fun p804 H => ?_) (fun H => ?_)
      · refine WP.seq ?_
        refine WP.reg [(0, false), (1, false), (2, false), (3, false), (4, false), (5, false), (6, false)] (by kernel_rfl) ?_
        refine Dv.fab rfl trivial rfl Try.underlying32 rfl Try.underlying9 c9 (by decide) ?_
        refine Dv.ldb rfl trivial rfl Try.underlying9 rfl (mem_at 0 rfl) rfl ?_
        obtain ⟨g805, H⟩ := Gets.grd H
        refine Dv.bin rfl trivial rfl rfl (fun _ => run_cat g805) ?_
        refine Dv.fab rfl trivial rfl Try.underlying32 rfl Try.underlying9 c9 (by decide) ?_
        refine Dv.ldb rfl trivial rfl Try.underlying9 rfl (mem_at 0 rfl) rfl ?_
        obtain ⟨g806, H⟩ := Gets.grd H
        refine Dv.bin rfl trivial rfl rfl (fun _ => run_cat g806) ?_
        refine Dv.asg rfl trivial rfl ?_
        refine .fin ?_
        refine WP.seq ?_
        refine WP.reg [(0, false), (1, false), (2, false), (3, false), (4, false), (5, true)] (by kernel_rfl) ?_
        refine Dv.mv rfl trivial rfl ?_
        refine Dv.nilA TTab.nn rfl trivial rfl (mem_at 1 rfl) ?_
        refine Dv.gh (l' := fun (g807 : Nat × OV × OV) => [blk g807.1 59 [eq g807.2.1.1, eq g807.2.2.1], own Edu.K g807.2.1.1 p804.2.2.2.fl, HHeap.O g807.2.2 p804.2.2.2.fends, blk b794 32 [eq (.int .i64 a1.fKind), eq (.string a1.fRoom), eq (.string a1.fUser), eq (.string a1.fEvent), eq (.string a1.fThread), eq (.bool a1.fPrivate), eq (.bool a1.fOn), eq (.int .i64 a1.fSpan), eq (.int .i64 a1.fState), eq (.int .i64 a1.fTick), eq (.int .i64 a1.fStamp)]] ++ F) (gh_of (TTab.opn 1 rfl)) (fun g807 h808 => ?_)
        refine Dv.fabp h808 rfl trivial rfl Try.underlying59 rfl Try.underlying56 c56 (by decide) ?_
        refine Dv.ldb rfl trivial rfl Try.underlying56 rfl (mem_at 0 rfl) rfl ?_
        refine Dv.mv rfl trivial rfl ?_
        obtain ⟨t809, h810, H⟩ := Gets.call H
        refine Dv.callx (pre := [HHeap.O g807.2.2 p804.2.2.2.fends]) (F := [blk g807.1 59 [eq g807.2.1.1, eq g807.2.2.1], own Edu.K g807.2.1.1 p804.2.2.2.fl, blk b794 32 [eq (.int .i64 a1.fKind), eq (.string a1.fRoom), eq (.string a1.fUser), eq (.string a1.fEvent), eq (.string a1.fThread), eq (.bool a1.fPrivate), eq (.bool a1.fOn), eq (.int .i64 a1.fSpan), eq (.int .i64 a1.fState), eq (.int .i64 a1.fTick), eq (.int .i64 a1.fStamp)]] ++ F) (fun _ : Unit => [HHeap.O g807.2.2 t809.2, blk g807.1 59 [eq g807.2.1.1, eq g807.2.2.1], own Edu.K g807.2.1.1 p804.2.2.2.fl, blk b794 32 [eq (.int .i64 a1.fKind), eq (.string a1.fRoom), eq (.string a1.fUser), eq (.string a1.fEvent), eq (.string a1.fThread), eq (.bool a1.fPrivate), eq (.bool a1.fOn), eq (.int .i64 a1.fSpan), eq (.int .i64 a1.fState), eq (.int .i64 a1.fTick), eq (.int .i64 a1.fStamp)]] ++ F) rfl trivial cal32 rfl (heap_Heap_Drop.c h810 (p0_ := g807.2.2)) (perm_to (L := [blk g807.1 59 [eq g807.2.1.1, eq g807.2.2.1], own Edu.K g807.2.1.1 p804.2.2.2.fl, HHeap.O g807.2.2 p804.2.2.2.fends, blk b794 32 [eq (.int .i64 a1.fKind), eq (.string a1.fRoom), eq (.string a1.fUser), eq (.string a1.fEvent), eq (.string a1.fThread), eq (.bool a1.fPrivate), eq (.bool a1.fOn), eq (.int .i64 a1.fSpan), eq (.int .i64 a1.fState), eq (.int .i64 a1.fTick), eq (.int .i64 a1.fStamp)]]) (F := F) [2, 0, 1, 3] rfl rfl rfl) rfl nofun (fun _ _ => ?_)
        refine .fin ?_
        refine WP.seq ?_
        refine WP.seq ?_
        refine WP.reg [(0, false), (1, false)] (by kernel_rfl) ?_
        refine Dv.fab rfl trivial rfl Try.underlying32 rfl Try.underlying4 c4 (by decide) ?_
        refine Dv.ldb rfl trivial rfl Try.underlying4 rfl (mem_at 3 rfl) rfl ?_
        refine .fin ?_
        refine WP.cond rfl (fun c811 => ?_) (fun c811 => ?_)
        · replace H := Gets.ct H c811
          refine WP.dreg Try.checked.mixed [(0, false), (1, false), (2, false), (3, false), (4, false), (5, false), (6, false), (7, true)] (by kernel_rfl) ?_
          refine Dv.mv rfl trivial rfl ?_
          refine Dv.nilpp h808 rfl trivial rfl ?_
          refine Dv.fabp h808 rfl trivial rfl Try.underlying59 rfl Try.underlying56 c56 (by decide) ?_
          refine Dv.ldb rfl trivial rfl Try.underlying56 rfl (mem_at 1 rfl) rfl ?_
          refine Dv.ldbs rfl trivial rfl Try.underlying32 rfl c32 (mem_at 3 rfl) (Nat.le_of_ble_eq_true rfl) ?_
          obtain ⟨t812, h813, H⟩ := Gets.call H
          refine Dv.call rfl trivial cal34 rfl (typing_end.c h813) ?_
          refine Dv.mv rfl trivial rfl ?_
          obtain ⟨t814, h815, H⟩ := Gets.call H
          refine Dv.callx (pre := [HHeap.O g807.2.2 t809.2]) (F := [blk g807.1 59 [eq g807.2.1.1, eq g807.2.2.1], own Edu.K g807.2.1.1 p804.2.2.2.fl, blk b794 32 [eq (.int .i64 a1.fKind), eq (.string a1.fRoom), eq (.string a1.fUser), eq (.string a1.fEvent), eq (.string a1.fThread), eq (.bool a1.fPrivate), eq (.bool a1.fOn), eq (.int .i64 a1.fSpan), eq (.int .i64 a1.fState), eq (.int .i64 a1.fTick), eq (.int .i64 a1.fStamp)]] ++ F) (fun _ : Unit => [HHeap.O g807.2.2 t814, blk g807.1 59 [eq g807.2.1.1, eq g807.2.2.1], own Edu.K g807.2.1.1 p804.2.2.2.fl, blk b794 32 [eq (.int .i64 a1.fKind), eq (.string a1.fRoom), eq (.string a1.fUser), eq (.string a1.fEvent), eq (.string a1.fThread), eq (.bool a1.fPrivate), eq (.bool a1.fOn), eq (.int .i64 a1.fSpan), eq (.int .i64 a1.fState), eq (.int .i64 a1.fTick), eq (.int .i64 a1.fStamp)]] ++ F) rfl trivial cal33 rfl (heap_Heap_Put.c h815 (p0_ := g807.2.2)) (perm_to (L := [HHeap.O g807.2.2 t809.2, blk g807.1 59 [eq g807.2.1.1, eq g807.2.2.1], own Edu.K g807.2.1.1 p804.2.2.2.fl, blk b794 32 [eq (.int .i64 a1.fKind), eq (.string a1.fRoom), eq (.string a1.fUser), eq (.string a1.fEvent), eq (.string a1.fThread), eq (.bool a1.fPrivate), eq (.bool a1.fOn), eq (.int .i64 a1.fSpan), eq (.int .i64 a1.fState), eq (.int .i64 a1.fTick), eq (.int .i64 a1.fStamp)]]) (F := F) [0, 1, 2, 3] rfl rfl rfl) rfl (fun _ => pendc (pend_bits (by kernel_rfl))) (fun _ _ => ?_)
          refine .fin ?_
          refine WP.seq ?_
          refine WP.reg [(0, false), (1, false)] (by kernel_rfl) ?_
          refine Dv.asg rfl trivial rfl ?_
          refine Dv.asg rfl trivial rfl ?_
          refine .fin ?_
          refine WP.gh (l' := fun _ : Unit => [TTab.O p0_ (⟨p804.2.2.2.fl, t814⟩ : TTab), blk b794 32 [eq (.int .i64 a1.fKind), eq (.string a1.fRoom), eq (.string a1.fUser), eq (.string a1.fEvent), eq (.string a1.fThread), eq (.bool a1.fPrivate), eq (.bool a1.fOn), eq (.int .i64 a1.fSpan), eq (.int .i64 a1.fState), eq (.int .i64 a1.fTick), eq (.int .i64 a1.fStamp)]] ++ F) (gh_of (TTab.shut (p := p0_) (m := (⟨p804.2.2.2.fl, t814⟩ : TTab)) (r := [blk b794 32 [eq (.int .i64 a1.fKind), eq (.string a1.fRoom), eq (.string a1.fUser), eq (.string a1.fEvent), eq (.string a1.fThread), eq (.bool a1.fPrivate), eq (.bool a1.fOn), eq (.int .i64 a1.fSpan), eq (.int .i64 a1.fState), eq (.int .i64 a1.fTick), eq (.int .i64 a1.fStamp)]] ++ F) (g807.1, g807.2.1, g807.2.2) h808 (perm_to (L := [HHeap.O g807.2.2 t814, blk g807.1 59 [eq g807.2.1.1, eq g807.2.2.1], own Edu.K g807.2.1.1 p804.2.2.2.fl, blk b794 32 [eq (.int .i64 a1.fKind), eq (.string a1.fRoom), eq (.string a1.fUser), eq (.string a1.fEvent), eq (.string a1.fThread), eq (.bool a1.fPrivate), eq (.bool a1.fOn), eq (.int .i64 a1.fSpan), eq (.int .i64 a1.fState), eq (.int .i64 a1.fTick), eq (.int .i64 a1.fStamp)]]) (F := F) [1, 2, 0, 3] rfl rfl rfl))) (fun _ _ => ?_)
          obtain rfl := Gets.out H
          exact WP.retL (fun _ _ h => h) rfl () trivial (.cons (res_tmp rfl) (.cons (res_tmp rfl) .nil)) rfl (st_sel (L := [TTab.O p0_ (⟨p804.2.2.2.fl, t814⟩ : TTab), blk b794 32 [eq (.int .i64 a1.fKind), eq (.string a1.fRoom), eq (.string a1.fUser), eq (.string a1.fEvent), eq (.string a1.fThread), eq (.bool a1.fPrivate), eq (.bool a1.fOn), eq (.int .i64 a1.fSpan), eq (.int .i64 a1.fState), eq (.int .i64 a1.fTick), eq (.int .i64 a1.fStamp)]]) (F := F) [1, 0] 1 rfl rfl rfl)
        · replace H := Gets.cf H c811
          refine WP.skip ?_
          refine WP.seq ?_
          refine WP.reg [(0, false), (1, false)] (by kernel_rfl) ?_
          refine Dv.asg rfl trivial rfl ?_
          refine Dv.asg rfl trivial rfl ?_
          refine .fin ?_
          refine WP.gh (l' := fun _ : Unit => [TTab.O p0_ (⟨p804.2.2.2.fl, t809.2⟩ : TTab), blk b794 32 [eq (.int .i64 a1.fKind), eq (.string a1.fRoom), eq (.string a1.fUser), eq (.string a1.fEvent), eq (.string a1.fThread), eq (.bool a1.fPrivate), eq (.bool a1.fOn), eq (.int .i64 a1.fSpan), eq (.int .i64 a1.fState), eq (.int .i64 a1.fTick), eq (.int .i64 a1.fStamp)]] ++ F) (gh_of (TTab.shut (p := p0_) (m := (⟨p804.2.2.2.fl, t809.2⟩ : TTab)) (r := [blk b794 32 [eq (.int .i64 a1.fKind), eq (.string a1.fRoom), eq (.string a1.fUser), eq (.string a1.fEvent), eq (.string a1.fThread), eq (.bool a1.fPrivate), eq (.bool a1.fOn), eq (.int .i64 a1.fSpan), eq (.int .i64 a1.fState), eq (.int .i64 a1.fTick), eq (.int .i64 a1.fStamp)]] ++ F) (g807.1, g807.2.1, g807.2.2) h808 (perm_to (L := [HHeap.O g807.2.2 t809.2, blk g807.1 59 [eq g807.2.1.1, eq g807.2.2.1], own Edu.K g807.2.1.1 p804.2.2.2.fl, blk b794 32 [eq (.int .i64 a1.fKind), eq (.string a1.fRoom), eq (.string a1.fUser), eq (.string a1.fEvent), eq (.string a1.fThread), eq (.bool a1.fPrivate), eq (.bool a1.fOn), eq (.int .i64 a1.fSpan), eq (.int .i64 a1.fState), eq (.int .i64 a1.fTick), eq (.int .i64 a1.fStamp)]]) (F := F) [1, 2, 0, 3] rfl rfl rfl))) (fun _ _ => ?_)
          obtain rfl := Gets.out H
          exact WP.retL (fun _ _ h => h) rfl () trivial (.cons (res_tmp rfl) (.cons (res_tmp rfl) .nil)) rfl (st_sel (L := [TTab.O p0_ (⟨p804.2.2.2.fl, t809.2⟩ : TTab), blk b794 32 [eq (.int .i64 a1.fKind), eq (.string a1.fRoom), eq (.string a1.fUser), eq (.string a1.fEvent), eq (.string a1.fThread), eq (.bool a1.fPrivate), eq (.bool a1.fOn), eq (.int .i64 a1.fSpan), eq (.int .i64 a1.fState), eq (.int .i64 a1.fTick), eq (.int .i64 a1.fStamp)]]) (F := F) [1, 0] 1 rfl rfl rfl)
      · refine WP.block ?_
        refine WP.seq ?_
        refine WP.dreg Try.checked.mixed [(0, false), (1, false), (2, false), (3, false), (4, false), (5, false), (6, false), (7, false), (8, false), (9, false), (10, false), (11, false), (12, false), (13, false), (14, false), (15, false), (16, false), (17, false), (18, false), (19, false), (20, false), (21, false), (22, false), (23, false), (24, false)] (by kernel_rfl) ?_
        refine Dv.mv rfl trivial rfl ?_
        refine Dv.mv rfl trivial rfl ?_
        cases c816 : t802.2
        · replace H := Gets.cf H c816
          refine Dv.skip rfl ⟨_, _, rfl, rfl, .inl rfl⟩ ?_
          refine Dv.skip rfl ⟨_, _, rfl, rfl, .inl rfl⟩ ?_
          refine Dv.skip rfl ⟨_, _, rfl, rfl, .inl rfl⟩ ?_
          refine Dv.skip rfl ⟨_, _, rfl, rfl, .inl rfl⟩ ?_
          refine Dv.skip rfl ⟨_, _, rfl, rfl, .inl rfl⟩ ?_
          refine Dv.skip rfl ⟨_, _, rfl, rfl, .inl rfl⟩ ?_
          refine Dv.skip rfl ⟨_, _, rfl, rfl, .inl rfl⟩ ?_
          refine Dv.skip rfl ⟨_, _, rfl, rfl, .inl rfl⟩ ?_
          refine Dv.skip rfl ⟨_, _, rfl, rfl, .inl rfl⟩ ?_
          refine Dv.skip rfl ⟨_, _, rfl, rfl, .inl rfl⟩ ?_
          refine Dv.skip rfl ⟨_, _, rfl, rfl, .inr rfl⟩ ?_
          refine Dv.skip rfl ⟨_, _, rfl, rfl, .inr rfl⟩ ?_
          refine Dv.skip rfl ⟨_, _, rfl, rfl, .inr rfl⟩ ?_
          refine Dv.skip rfl ⟨_, _, rfl, rfl, .inr rfl⟩ ?_
          refine Dv.skip rfl ⟨_, _, rfl, rfl, .inr rfl⟩ ?_
          refine Dv.skip rfl ⟨_, _, rfl, rfl, .inr rfl⟩ ?_
          refine Dv.skip rfl ⟨_, _, rfl, rfl, .inr rfl⟩ ?_
          refine Dv.skip rfl ⟨_, _, rfl, rfl, .inr rfl⟩ ?_
          refine Dv.skip rfl ⟨_, _, rfl, rfl, .inr rfl⟩ ?_
          refine Dv.skip rfl ⟨_, _, rfl, rfl, .inr rfl⟩ ?_
          refine Dv.skip rfl ⟨_, _, rfl, rfl, .inl rfl⟩ ?_
          refine Dv.pickF rfl trivial rfl rfl ?_
          refine Dv.asg rfl trivial rfl ?_
          refine .fin ?_
          refine WP.cond rfl nofun (fun _ => ?_)
          refine WP.seq ?_
          refine WP.reg [(0, false), (1, false)] (by kernel_rfl) ?_
          refine Dv.mv rfl trivial rfl ?_
          refine Dv.asg rfl trivial rfl ?_
          refine .fin ?_
          refine WP.cond rfl nofun (fun _ => ?_)
          refine WP.dreg Try.checked.mixed [(0, false), (1, false), (2, false), (3, false), (4, false), (5, false), (6, false), (7, false), (8, true), (9, false), (10, false), (11, true)] (by kernel_rfl) ?_
          refine Dv.mv rfl trivial rfl ?_
          refine Dv.mv rfl trivial rfl ?_
          refine Dv.nilpp h801 rfl trivial rfl ?_
          refine Dv.fabp h801 rfl trivial rfl Try.underlying59 rfl Try.underlying22 c22 (by decide) ?_
          refine Dv.ldb rfl trivial rfl Try.underlying22 rfl (mem_at 0 rfl) rfl ?_
          refine Dv.mv rfl trivial rfl ?_
          refine Dv.ldbs rfl trivial rfl Try.underlying32 rfl c32 (mem_at 3 rfl) (Nat.le_of_ble_eq_true rfl) ?_
          refine Dv.lit Edu.K ([a1] : List Edu) (css := [Edu.enc a1]) rfl trivial Try.underlying22 Try.underlying32 c32 z32 rfl (by decide) (by decide) rfl ⟨(cells_agg (Edu.K.one _)), trivial⟩ rfl rfl rfl ?_
          obtain ⟨t831, h832, H⟩ := Gets.call H
          refine Dv.callx (pre := [own Edu.K g800.2.1.1 a0.fl]) (F := [blk g800.1 59 [eq g800.2.1.1, eq g800.2.2.1], HHeap.O g800.2.2 a0.fends, blk b794 32 [eq (.int .i64 a1.fKind), eq (.string a1.fRoom), eq (.string a1.fUser), eq (.string a1.fEvent), eq (.string a1.fThread), eq (.bool a1.fPrivate), eq (.bool a1.fOn), eq (.int .i64 a1.fSpan), eq (.int .i64 a1.fState), eq (.int .i64 a1.fTick), eq (.int .i64 a1.fStamp)]] ++ F) (fun g833 : OV => [own Edu.K g833.1 t831, blk g800.1 59 [eq g800.2.1.1, eq g800.2.2.1], HHeap.O g800.2.2 a0.fends, blk b794 32 [eq (.int .i64 a1.fKind), eq (.string a1.fRoom), eq (.string a1.fUser), eq (.string a1.fEvent), eq (.string a1.fThread), eq (.bool a1.fPrivate), eq (.bool a1.fOn), eq (.int .i64 a1.fSpan), eq (.int .i64 a1.fState), eq (.int .i64 a1.fTick), eq (.int .i64 a1.fStamp)]] ++ F) rfl trivial cal31 rfl (slices_Insert.c h832 (p0_ := g800.2.1)) (perm_to (L := [blk g800.1 59 [eq g800.2.1.1, eq g800.2.2.1], own Edu.K g800.2.1.1 a0.fl, HHeap.O g800.2.2 a0.fends, blk b794 32 [eq (.int .i64 a1.fKind), eq (.string a1.fRoom), eq (.string a1.fUser), eq (.string a1.fEvent), eq (.string a1.fThread), eq (.bool a1.fPrivate), eq (.bool a1.fOn), eq (.int .i64 a1.fSpan), eq (.int .i64 a1.fState), eq (.int .i64 a1.fTick), eq (.int .i64 a1.fStamp)]]) (F := F) [1, 0, 2, 3] rfl rfl rfl) rfl (fun _ => pendc (pend_by (by kernel_rfl) (pend_by (by kernel_rfl) (pend_by (by kernel_rfl) (pend_by (by kernel_rfl) (pend_by (by kernel_rfl) (pend_by (by kernel_rfl) (pend_by (by kernel_rfl) (pend_in (fun _ => trivial) pend_nil))))))))) (fun g833 _ => ?_)
          refine Dv.nilpp h801 rfl trivial rfl ?_
          refine Dv.fabp h801 rfl trivial rfl Try.underlying59 rfl Try.underlying22 c22 (by decide) ?_
          refine Dv.stx ([own Edu.K g833.1 t831, blk g800.1 59 [eq g833.1, eq g800.2.2.1], HHeap.O g800.2.2 a0.fends, blk b794 32 [eq (.int .i64 a1.fKind), eq (.string a1.fRoom), eq (.string a1.fUser), eq (.string a1.fEvent), eq (.string a1.fThread), eq (.bool a1.fPrivate), eq (.bool a1.fOn), eq (.int .i64 a1.fSpan), eq (.int .i64 a1.fState), eq (.int .i64 a1.fTick), eq (.int .i64 a1.fStamp)]] ++ F) rfl trivial rfl rfl (cells_one one_ov) Try.underlying22 c22 rfl (j := 1) rfl (Nat.le_of_ble_eq_true rfl) rfl (fun _ => pend_bits (by kernel_rfl)) ?_
          refine .fin ?_
          replace H := Gets.out H
          refine Dn.gh (l' := fun _ : Unit => [TTab.O p0_ (⟨t831, a0.fends⟩ : TTab), blk b794 32 [eq (.int .i64 a1.fKind), eq (.string a1.fRoom), eq (.string a1.fUser), eq (.string a1.fEvent), eq (.string a1.fThread), eq (.bool a1.fPrivate), eq (.bool a1.fOn), eq (.int .i64 a1.fSpan), eq (.int .i64 a1.fState), eq (.int .i64 a1.fTick), eq (.int .i64 a1.fStamp)]] ++ F) (gh_of (TTab.shut (p := p0_) (m := (⟨t831, a0.fends⟩ : TTab)) (r := [blk b794 32 [eq (.int .i64 a1.fKind), eq (.string a1.fRoom), eq (.string a1.fUser), eq (.string a1.fEvent), eq (.string a1.fThread), eq (.bool a1.fPrivate), eq (.bool a1.fOn), eq (.int .i64 a1.fSpan), eq (.int .i64 a1.fState), eq (.int .i64 a1.fTick), eq (.int .i64 a1.fStamp)]] ++ F) (g800.1, g833, g800.2.2) h801 (perm_to (L := [own Edu.K g833.1 t831, blk g800.1 59 [eq g833.1, eq g800.2.2.1], HHeap.O g800.2.2 a0.fends, blk b794 32 [eq (.int .i64 a1.fKind), eq (.string a1.fRoom), eq (.string a1.fUser), eq (.string a1.fEvent), eq (.string a1.fThread), eq (.bool a1.fPrivate), eq (.bool a1.fOn), eq (.int .i64 a1.fSpan), eq (.int .i64 a1.fState), eq (.int .i64 a1.fTick), eq (.int .i64 a1.fStamp)]]) (F := F) [1, 0, 2, 3] rfl rfl rfl))) (fun _ _ => ?_)
          refine Dn.gh (l' := fun _ : Unit => [blk b794 32 [eq (.int .i64 a1.fKind), eq (.string a1.fRoom), eq (.string a1.fUser), eq (.string a1.fEvent), eq (.string a1.fThread), eq (.bool a1.fPrivate), eq (.bool a1.fOn), eq (.int .i64 a1.fSpan), eq (.int .i64 a1.fState), eq (.int .i64 a1.fTick), eq (.int .i64 a1.fStamp)], TTab.O p0_ (⟨t831, a0.fends⟩ : TTab)] ++ F) (gh_of (st_selg (L := [TTab.O p0_ (⟨t831, a0.fends⟩ : TTab), blk b794 32 [eq (.int .i64 a1.fKind), eq (.string a1.fRoom), eq (.string a1.fUser), eq (.string a1.fEvent), eq (.string a1.fThread), eq (.bool a1.fPrivate), eq (.bool a1.fOn), eq (.int .i64 a1.fSpan), eq (.int .i64 a1.fState), eq (.int .i64 a1.fTick), eq (.int .i64 a1.fStamp)]]) (F := F) [1, 0] 0 rfl rfl rfl)) (fun _ _ => ?_)
          exact Jn.mk (false, false, false, (⟨t831, a0.fends⟩ : TTab)) H (weak_cons rfl (weak_cons rfl (weak_cons rfl (weak_cons rfl (weak_cons rfl (weak_cons rfl (weak_cons rfl (weak_cons rfl (weak_cons rfl (weak_cons rfl weak_nil)))))))))) (List.Perm.refl _)
        · replace H := Gets.ct H c816
          refine Dv.mv rfl ⟨_, _, rfl, rfl, rfl⟩ rfl ?_
          refine Dv.nilpp h801 rfl ⟨_, _, rfl, rfl, rfl⟩ rfl ?_
          refine Dv.fabp h801 rfl ⟨_, _, rfl, rfl, rfl⟩ rfl Try.underlying59 rfl Try.underlying22 c22 (by decide) ?_
          refine Dv.ldb rfl ⟨_, _, rfl, rfl, rfl⟩ rfl Try.underlying22 rfl (mem_at 0 rfl) rfl ?_
          refine Dv.mv rfl ⟨_, _, rfl, rfl, rfl⟩ rfl ?_
          obtain ⟨g817, H⟩ := Gets.grd H
          have h818 : t802.1.toNat < a0.fl.length := idx_lt g817
          refine Dv.ixw rfl ⟨_, _, rfl, rfl, rfl⟩ rfl (mem_at 1 rfl) rfl Try.underlying22 Try.underlying32 c32 g817.1 g817.2 ?_
          refine Dv.ldws (j := t802.1.toNat) (f := 0) rfl ⟨_, _, rfl, rfl, rfl⟩ rfl (mem_at 1 rfl) h818 Try.underlying32 rfl c32 (Nat.le_of_ble_eq_true rfl) ?_
          refine Dv.ldbs rfl ⟨_, _, rfl, rfl, rfl⟩ rfl Try.underlying32 rfl c32 (mem_at 3 rfl) (Nat.le_of_ble_eq_true rfl) ?_
          refine Dv.eqs [.int .i64 ((a0.fl.getD t802.1.toNat default).fKind), .string ((a0.fl.getD t802.1.toNat default).fRoom), .string ((a0.fl.getD t802.1.toNat default).fUser), .string ((a0.fl.getD t802.1.toNat default).fEvent), .string ((a0.fl.getD t802.1.toNat default).fThread), .bool ((a0.fl.getD t802.1.toNat default).fPrivate), .bool ((a0.fl.getD t802.1.toNat default).fOn), .int .i64 ((a0.fl.getD t802.1.toNat default).fSpan), .int .i64 ((a0.fl.getD t802.1.toNat default).fState), .int .i64 ((a0.fl.getD t802.1.toNat default).fTick), .int .i64 ((a0.fl.getD t802.1.toNat default).fStamp)] [.int .i64 a1.fKind, .string a1.fRoom, .string a1.fUser, .string a1.fEvent, .string a1.fThread, .bool a1.fPrivate, .bool a1.fOn, .int .i64 a1.fSpan, .int .i64 a1.fState, .int .i64 a1.fTick, .int .i64 a1.fStamp] rfl ⟨_, _, rfl, rfl, rfl⟩ rfl rfl rfl rfl eg32 (fun _ => equal_of 2 (by decide) (fun _ => eqt32 (a0.fl.getD t802.1.toNat default) a1)) ?_
          refine Dv.mv rfl ⟨_, _, rfl, rfl, rfl⟩ rfl ?_
          cases c819 : decide (a0.fl.getD t802.1.toNat default = a1)
          · replace H := Gets.cf H c819
            refine Dv.ldbs rfl ⟨_, _, rfl, rfl, rfl⟩ rfl Try.underlying32 rfl c32 (mem_at 3 rfl) (Nat.le_of_ble_eq_true rfl) ?_
            refine Dv.mv rfl ⟨_, _, rfl, rfl, rfl⟩ rfl ?_
            refine Dv.nilpp h801 rfl ⟨_, _, rfl, rfl, rfl⟩ rfl ?_
            refine Dv.fabp h801 rfl ⟨_, _, rfl, rfl, rfl⟩ rfl Try.underlying59 rfl Try.underlying22 c22 (by decide) ?_
            refine Dv.ldb rfl ⟨_, _, rfl, rfl, rfl⟩ rfl Try.underlying22 rfl (mem_at 0 rfl) rfl ?_
            refine Dv.mv rfl ⟨_, _, rfl, rfl, rfl⟩ rfl ?_
            obtain ⟨g821, H⟩ := Gets.grd H
            have h822 : t802.1.toNat < a0.fl.length := idx_lt g821
            refine Dv.ixw rfl ⟨_, _, rfl, rfl, rfl⟩ rfl (mem_at 1 rfl) rfl Try.underlying22 Try.underlying32 c32 g821.1 g821.2 ?_
            refine Dv.ldws (j := t802.1.toNat) (f := 0) rfl ⟨_, _, rfl, rfl, rfl⟩ rfl (mem_at 1 rfl) h822 Try.underlying32 rfl c32 (Nat.le_of_ble_eq_true rfl) ?_
            obtain ⟨t823, h824, H⟩ := Gets.call H
            refine Dv.call rfl ⟨_, _, rfl, rfl, rfl⟩ cal30 rfl (edu_Later.c h824) ?_
            refine Dv.un rfl ⟨_, _, rfl, rfl, rfl⟩ rfl (fun _ => run_not _) ?_
            refine Dv.pickF rfl ⟨_, _, rfl, rfl, rfl⟩ rfl rfl ?_
            refine Dv.pickT rfl trivial rfl rfl ?_
            refine Dv.asg rfl trivial rfl ?_
            refine .fin ?_
            refine WP.cond rfl (fun c825 => ?_) (fun c825 => ?_)
            · replace H := Gets.ct H c825
              refine WP.seq ?_
              refine WP.reg [(0, false), (1, false)] (by kernel_rfl) ?_
              refine Dv.asg rfl trivial rfl ?_
              refine Dv.asg rfl trivial rfl ?_
              refine .fin ?_
              refine WP.gh (l' := fun _ : Unit => [TTab.O p0_ a0, blk b794 32 [eq (.int .i64 a1.fKind), eq (.string a1.fRoom), eq (.string a1.fUser), eq (.string a1.fEvent), eq (.string a1.fThread), eq (.bool a1.fPrivate), eq (.bool a1.fOn), eq (.int .i64 a1.fSpan), eq (.int .i64 a1.fState), eq (.int .i64 a1.fTick), eq (.int .i64 a1.fStamp)]] ++ F) (gh_of (TTab.shut (p := p0_) (m := a0) (r := [blk b794 32 [eq (.int .i64 a1.fKind), eq (.string a1.fRoom), eq (.string a1.fUser), eq (.string a1.fEvent), eq (.string a1.fThread), eq (.bool a1.fPrivate), eq (.bool a1.fOn), eq (.int .i64 a1.fSpan), eq (.int .i64 a1.fState), eq (.int .i64 a1.fTick), eq (.int .i64 a1.fStamp)]] ++ F) (g800.1, g800.2.1, g800.2.2) h801 (perm_to (L := [blk g800.1 59 [eq g800.2.1.1, eq g800.2.2.1], own Edu.K g800.2.1.1 a0.fl, HHeap.O g800.2.2 a0.fends, blk b794 32 [eq (.int .i64 a1.fKind), eq (.string a1.fRoom), eq (.string a1.fUser), eq (.string a1.fEvent), eq (.string a1.fThread), eq (.bool a1.fPrivate), eq (.bool a1.fOn), eq (.int .i64 a1.fSpan), eq (.int .i64 a1.fState), eq (.int .i64 a1.fTick), eq (.int .i64 a1.fStamp)]]) (F := F) [0, 1, 2, 3] rfl rfl rfl))) (fun _ _ => ?_)
              replace H := Gets.outr H
              obtain rfl := Gets.out H
              exact WP.retL (fun _ _ h => h) rfl () trivial (.cons (res_tmp rfl) (.cons (res_tmp rfl) .nil)) rfl (st_sel (L := [TTab.O p0_ a0, blk b794 32 [eq (.int .i64 a1.fKind), eq (.string a1.fRoom), eq (.string a1.fUser), eq (.string a1.fEvent), eq (.string a1.fThread), eq (.bool a1.fPrivate), eq (.bool a1.fOn), eq (.int .i64 a1.fSpan), eq (.int .i64 a1.fState), eq (.int .i64 a1.fTick), eq (.int .i64 a1.fStamp)]]) (F := F) [1, 0] 1 rfl rfl rfl)
            · replace H := Gets.cf H c825
              refine WP.seq ?_
              refine WP.reg [(0, false), (1, false)] (by kernel_rfl) ?_
              refine Dv.mv rfl trivial rfl ?_
              refine Dv.asg rfl trivial rfl ?_
              refine .fin ?_
              refine WP.cond rfl (fun _ => ?_) nofun
              refine WP.dreg Try.checked.mixed [(0, false), (1, false), (2, false), (3, false), (4, false), (5, false), (6, false), (7, true)] (by kernel_rfl) ?_
              refine Dv.mv rfl trivial rfl ?_
              refine Dv.nilpp h801 rfl trivial rfl ?_
              refine Dv.fabp h801 rfl trivial rfl Try.underlying59 rfl Try.underlying22 c22 (by decide) ?_
              refine Dv.ldb rfl trivial rfl Try.underlying22 rfl (mem_at 0 rfl) rfl ?_
              refine Dv.mv rfl trivial rfl ?_
              refine Dv.ldbs rfl trivial rfl Try.underlying32 rfl c32 (mem_at 3 rfl) (Nat.le_of_ble_eq_true rfl) ?_
              obtain ⟨g827, H⟩ := Gets.grd H
              have h828 : t802.1.toNat < a0.fl.length := idx_lt g827
              refine Dv.ixw rfl trivial rfl (mem_at 1 rfl) rfl Try.underlying22 Try.underlying32 c32 g827.1 g827.2 ?_
              refine Dv.stw (j := t802.1.toNat) (f := 0) (jj := 1) a1 rfl trivial rfl rfl (cells_agg (Edu.K.one _)) Try.underlying32 c32 rfl rfl h828 (Nat.le_of_ble_eq_true rfl) rfl (fun _ => pend_bits (by kernel_rfl)) ?_
              refine .fin ?_
              replace H := Gets.out H
              refine Dn.gh (l' := fun _ : Unit => [TTab.O p0_ (⟨a0.fl.set t802.1.toNat a1, a0.fends⟩ : TTab), blk b794 32 [eq (.int .i64 a1.fKind), eq (.string a1.fRoom), eq (.string a1.fUser), eq (.string a1.fEvent), eq (.string a1.fThread), eq (.bool a1.fPrivate), eq (.bool a1.fOn), eq (.int .i64 a1.fSpan), eq (.int .i64 a1.fState), eq (.int .i64 a1.fTick), eq (.int .i64 a1.fStamp)]] ++ F) (gh_of (TTab.shut (p := p0_) (m := (⟨a0.fl.set t802.1.toNat a1, a0.fends⟩ : TTab)) (r := [blk b794 32 [eq (.int .i64 a1.fKind), eq (.string a1.fRoom), eq (.string a1.fUser), eq (.string a1.fEvent), eq (.string a1.fThread), eq (.bool a1.fPrivate), eq (.bool a1.fOn), eq (.int .i64 a1.fSpan), eq (.int .i64 a1.fState), eq (.int .i64 a1.fTick), eq (.int .i64 a1.fStamp)]] ++ F) (g800.1, g800.2.1, g800.2.2) h801 (perm_to (L := [blk g800.1 59 [eq g800.2.1.1, eq g800.2.2.1], own Edu.K g800.2.1.1 (a0.fl.set t802.1.toNat a1), HHeap.O g800.2.2 a0.fends, blk b794 32 [eq (.int .i64 a1.fKind), eq (.string a1.fRoom), eq (.string a1.fUser), eq (.string a1.fEvent), eq (.string a1.fThread), eq (.bool a1.fPrivate), eq (.bool a1.fOn), eq (.int .i64 a1.fSpan), eq (.int .i64 a1.fState), eq (.int .i64 a1.fTick), eq (.int .i64 a1.fStamp)]]) (F := F) [0, 1, 2, 3] rfl rfl rfl))) (fun _ _ => ?_)
              refine Dn.gh (l' := fun _ : Unit => [blk b794 32 [eq (.int .i64 a1.fKind), eq (.string a1.fRoom), eq (.string a1.fUser), eq (.string a1.fEvent), eq (.string a1.fThread), eq (.bool a1.fPrivate), eq (.bool a1.fOn), eq (.int .i64 a1.fSpan), eq (.int .i64 a1.fState), eq (.int .i64 a1.fTick), eq (.int .i64 a1.fStamp)], TTab.O p0_ (⟨a0.fl.set t802.1.toNat a1, a0.fends⟩ : TTab)] ++ F) (gh_of (st_selg (L := [TTab.O p0_ (⟨a0.fl.set t802.1.toNat a1, a0.fends⟩ : TTab), blk b794 32 [eq (.int .i64 a1.fKind), eq (.string a1.fRoom), eq (.string a1.fUser), eq (.string a1.fEvent), eq (.string a1.fThread), eq (.bool a1.fPrivate), eq (.bool a1.fOn), eq (.int .i64 a1.fSpan), eq (.int .i64 a1.fState), eq (.int .i64 a1.fTick), eq (.int .i64 a1.fStamp)]]) (F := F) [1, 0] 0 rfl rfl rfl)) (fun _ _ => ?_)
              exact Jn.mk (true, !t823, true, (⟨a0.fl.set t802.1.toNat a1, a0.fends⟩ : TTab)) H (weak_cons rfl (weak_cons rfl (weak_cons rfl (weak_cons rfl (weak_cons rfl (weak_cons rfl (weak_cons rfl (weak_cons rfl (weak_cons rfl (weak_cons rfl weak_nil)))))))))) (List.Perm.refl _)
          · replace H := Gets.ct H c819
            refine Dv.skip rfl ⟨_, _, rfl, rfl, .inl rfl⟩ ?_
            refine Dv.skip rfl ⟨_, _, rfl, rfl, .inl rfl⟩ ?_
            refine Dv.skip rfl ⟨_, _, rfl, rfl, .inl rfl⟩ ?_
            refine Dv.skip rfl ⟨_, _, rfl, rfl, .inl rfl⟩ ?_
            refine Dv.skip rfl ⟨_, _, rfl, rfl, .inl rfl⟩ ?_
            refine Dv.skip rfl ⟨_, _, rfl, rfl, .inl rfl⟩ ?_
            refine Dv.skip rfl ⟨_, _, rfl, rfl, .inl rfl⟩ ?_
            refine Dv.skip rfl ⟨_, _, rfl, rfl, .inl rfl⟩ ?_
            refine Dv.skip rfl ⟨_, _, rfl, rfl, .inl rfl⟩ ?_
            refine Dv.skip rfl ⟨_, _, rfl, rfl, .inl rfl⟩ ?_
            refine Dv.pickT rfl ⟨_, _, rfl, rfl, rfl⟩ rfl rfl ?_
            refine Dv.pickT rfl trivial rfl rfl ?_
            refine Dv.asg rfl trivial rfl ?_
            refine .fin ?_
            refine WP.cond rfl (fun _ => ?_) nofun
            refine WP.seq ?_
            refine WP.reg [(0, false), (1, false)] (by kernel_rfl) ?_
            refine Dv.asg rfl trivial rfl ?_
            refine Dv.asg rfl trivial rfl ?_
            refine .fin ?_
            refine WP.gh (l' := fun _ : Unit => [TTab.O p0_ a0, blk b794 32 [eq (.int .i64 a1.fKind), eq (.string a1.fRoom), eq (.string a1.fUser), eq (.string a1.fEvent), eq (.string a1.fThread), eq (.bool a1.fPrivate), eq (.bool a1.fOn), eq (.int .i64 a1.fSpan), eq (.int .i64 a1.fState), eq (.int .i64 a1.fTick), eq (.int .i64 a1.fStamp)]] ++ F) (gh_of (TTab.shut (p := p0_) (m := a0) (r := [blk b794 32 [eq (.int .i64 a1.fKind), eq (.string a1.fRoom), eq (.string a1.fUser), eq (.string a1.fEvent), eq (.string a1.fThread), eq (.bool a1.fPrivate), eq (.bool a1.fOn), eq (.int .i64 a1.fSpan), eq (.int .i64 a1.fState), eq (.int .i64 a1.fTick), eq (.int .i64 a1.fStamp)]] ++ F) (g800.1, g800.2.1, g800.2.2) h801 (perm_to (L := [blk g800.1 59 [eq g800.2.1.1, eq g800.2.2.1], own Edu.K g800.2.1.1 a0.fl, HHeap.O g800.2.2 a0.fends, blk b794 32 [eq (.int .i64 a1.fKind), eq (.string a1.fRoom), eq (.string a1.fUser), eq (.string a1.fEvent), eq (.string a1.fThread), eq (.bool a1.fPrivate), eq (.bool a1.fOn), eq (.int .i64 a1.fSpan), eq (.int .i64 a1.fState), eq (.int .i64 a1.fTick), eq (.int .i64 a1.fStamp)]]) (F := F) [0, 1, 2, 3] rfl rfl rfl))) (fun _ _ => ?_)
            replace H := Gets.outr H
            obtain rfl := Gets.out H
            exact WP.retL (fun _ _ h => h) rfl () trivial (.cons (res_tmp rfl) (.cons (res_tmp rfl) .nil)) rfl (st_sel (L := [TTab.O p0_ a0, blk b794 32 [eq (.int .i64 a1.fKind), eq (.string a1.fRoom), eq (.string a1.fUser), eq (.string a1.fEvent), eq (.string a1.fThread), eq (.bool a1.fPrivate), eq (.bool a1.fOn), eq (.int .i64 a1.fSpan), eq (.int .i64 a1.fState), eq (.int .i64 a1.fTick), eq (.int .i64 a1.fStamp)]]) (F := F) [1, 0] 1 rfl rfl rfl)
  · replace H := Gets.ct H c795
    refine Dv.skip rfl ⟨_, _, rfl, rfl, .inl rfl⟩ ?_
    refine Dv.skip rfl ⟨_, _, rfl, rfl, .inl rfl⟩ ?_
    refine Dv.skip rfl ⟨_, _, rfl, rfl, .inl rfl⟩ ?_
    refine Dv.pickT rfl trivial rfl rfl ?_
    refine .fin ?_
    refine WP.cond rfl (fun _ => ?_) nofun
    refine WP.seq ?_
    refine WP.reg [(0, false), (1, false)] (by kernel_rfl) ?_
    refine Dv.asg rfl trivial rfl ?_
    refine Dv.asg rfl trivial rfl ?_
    refine .fin ?_
    obtain rfl := Gets.out H
    exact WP.retL (fun _ _ h => h) rfl () trivial (.cons (res_tmp rfl) (.cons (res_tmp rfl) .nil)) rfl (st_sel (L := [blk b794 32 [eq (.int .i64 a1.fKind), eq (.string a1.fRoom), eq (.string a1.fUser), eq (.string a1.fEvent), eq (.string a1.fThread), eq (.bool a1.fPrivate), eq (.bool a1.fOn), eq (.int .i64 a1.fSpan), eq (.int .i64 a1.fState), eq (.int .i64 a1.fTick), eq (.int .i64 a1.fStamp)], TTab.O p0_ a0]) (F := F) [0, 1] 1 rfl rfl rfl)
theorem concourseref01_Few.c {a0 : ByteArray} {a1 : Int} {r : ByteArray} (h : concourseref01_Few.f a0 a1 = some r) : Pt Try.prog 11 [eq (.string a0), eq (.int .i64 a1)] (eq (.string r)) := by
  unfold concourseref01_Few.f at h
  refine (Tr.body Try.func11 (c := _) rfl Try.ntmps11 (Nat.le_of_ble_eq_true rfl) fun R0 F => ?_).pt
  replace h := Gets.of h
  have H := h
  clear h
  refine WP.seq ?_
  refine WP.reg [(0, false)] (by kernel_rfl) ?_
  refine Dv.asg rfl trivial rfl ?_
  refine .fin ?_
  refine WP.seq ?_
  refine WP.seq ?_
  refine WP.reg [(0, false), (1, false), (2, false), (3, false)] (by kernel_rfl) ?_
  refine Dv.mv rfl trivial rfl ?_
  refine Dv.lens rfl trivial rfl Try.underlying9 ?_
  refine Dv.mv rfl trivial rfl ?_
  refine Dv.bin rfl trivial rfl rfl (fun _ => run_gt) ?_
  refine .fin ?_
  refine WP.cond rfl (fun c834 => ?_) (fun c834 => ?_)
  · replace H := Gets.ct H c834
    refine WP.seq ?_
    refine WP.reg [(0, false), (1, false), (2, false), (3, false)] (by kernel_rfl) ?_
    refine Dv.mv rfl trivial rfl ?_
    refine Dv.mv rfl trivial rfl ?_
    obtain ⟨g835, H⟩ := Gets.grd H
    refine Dv.sss rfl trivial rfl Try.underlying9 bdE_none (bdE_some rfl g835.1) g835.2.1 g835.2.2 ?_
    refine Dv.asg rfl trivial rfl ?_
    refine .fin ?_
    obtain rfl := Gets.out H
    exact WP.retL (fun _ _ h => h) rfl () trivial (.cons (res_tmp rfl) .nil) rfl (st_sel (L := []) (F := F) [] 0 rfl rfl rfl)
  · replace H := Gets.cf H c834
    refine WP.skip ?_
    refine WP.seq ?_
    refine WP.reg [(0, false), (1, false)] (by kernel_rfl) ?_
    refine Dv.mv rfl trivial rfl ?_
    refine Dv.asg rfl trivial rfl ?_
    refine .fin ?_
    obtain rfl := Gets.out H
    exact WP.retL (fun _ _ h => h) rfl () trivial (.cons (res_tmp rfl) .nil) rfl (st_sel (L := []) (F := F) [] 0 rfl rfl rfl)
theorem concourseref01_SameTexts.c {k : Nat} {a0 : List ByteArray} {a1 : List ByteArray} {r : Bool} (h : concourseref01_SameTexts.f k a0 a1 = some r) : Pt Try.prog 14 [sl strK a0, sl strK a1] (eq (.bool r)) := by
  unfold concourseref01_SameTexts.f at h
  refine (Tr.body Try.func14 (c := _) rfl Try.ntmps14 (Nat.le_of_ble_eq_true rfl) fun R0 F => ?_).pt
  replace h := Gets.of h
  have H := h
  clear h
  refine WP.seq ?_
  refine WP.reg [(0, false)] (by kernel_rfl) ?_
  refine Dv.asg rfl trivial rfl ?_
  refine .fin ?_
  refine WP.seq ?_
  refine WP.seq ?_
  refine WP.reg [(0, false), (1, false), (2, false), (3, false), (4, false)] (by kernel_rfl) ?_
  refine Dv.mv rfl trivial rfl ?_
  refine Dv.lenl rfl trivial rfl Try.underlying40 ?_
  refine Dv.mv rfl trivial rfl ?_
  refine Dv.lenl rfl trivial rfl Try.underlying40 ?_
  refine Dv.bin rfl trivial rfl rfl (fun _ => run_ne) ?_
  refine .fin ?_
  refine WP.cond rfl (fun c836 => ?_) (fun c836 => ?_)
  · replace H := Gets.ct H c836
    refine WP.seq ?_
    refine WP.reg [(0, false)] (by kernel_rfl) ?_
    refine Dv.asg rfl trivial rfl ?_
    refine .fin ?_
    obtain rfl := Gets.out H
    exact WP.retL (fun _ _ h => h) rfl () trivial (.cons (res_tmp rfl) .nil) rfl (st_sel (L := []) (F := F) [] 0 rfl rfl rfl)
  · replace H := Gets.cf H c836
    refine WP.skip ?_
    refine WP.seqr H id (fun p837 : Int × Bool => [(0, sl strK a0), (1, sl strK a1), (4, eq (.bool false)), (5, eq (.int .i64 p837.1)), (10, eq (.bool ((a0.length : Int) != (a1.length : Int)))), (14, eq (.bool p837.2))]) (fun p837 : Int × Bool => [] ++ F) (fun p837 H => ?_) (fun H => ?_)
    · refine WP.seq ?_
      refine WP.reg [(0, false)] (by kernel_rfl) ?_
      refine Dv.asg rfl trivial rfl ?_
      refine .fin ?_
      obtain rfl := Gets.out H
      exact WP.retL (fun _ _ h => h) rfl () trivial (.cons (res_tmp rfl) .nil) rfl (st_sel (L := []) (F := F) [] 0 rfl rfl rfl)
    · refine WP.seq ?_
      refine WP.reg [(0, false)] (by kernel_rfl) ?_
      refine Dv.asg rfl trivial rfl ?_
      refine .fin ?_
      refine WP.block ?_
      refine WP.gh (l' := fun _ => [] ++ F) (gh_of (st_selg (L := []) (F := F) [] 0 rfl rfl rfl)) (fun _ _ => ?_)
      refine WP.loopg (fun j_ (p844 : Int) => concourseref01_SameTexts.l0 k a0 a1 j_ p844) 0 H (fun p844 => [(0, sl strK a0), (1, sl strK a1), (4, eq (.bool false)), (5, eq (.int .i64 p844)), (10, eq (.bool ((a0.length : Int) != (a1.length : Int))))]) (fun p844 => [] ++ F) (weak_cons rfl (weak_cons rfl (weak_cons rfl (weak_cons rfl (weak_cons rfl weak_nil))))) (List.Perm.refl _) ?_
      rintro j_ x838 H
      rcases j_ with _ | j843
      · exact (Gets.no H).elim
      replace H : Gets (concourseref01_SameTexts.l0 k a0 a1 (j843 + 1) x838) _ := H
      rw [concourseref01_SameTexts.l0] at H
      refine WP.seq ?_
      refine WP.seq ?_
      refine WP.reg [(0, false), (1, false), (2, false), (3, false)] (by kernel_rfl) ?_
      refine Dv.mv rfl trivial rfl ?_
      refine Dv.mv rfl trivial rfl ?_
      refine Dv.lenl rfl trivial rfl Try.underlying40 ?_
      refine Dv.bin rfl trivial rfl rfl (fun _ => run_lt) ?_
      refine .fin ?_
      refine WP.cond rfl (fun c839 => ?_) (fun c839 => ?_)
      · replace H := Gets.ct H c839
        refine WP.skip ?_
        refine WP.seq ?_
        refine WP.block ?_
        refine WP.seq ?_
        refine WP.dreg Try.checked.mixed [(0, false), (1, false), (2, false), (3, false), (4, false), (5, false), (6, false), (7, false), (8, false)] (by kernel_rfl) ?_
        refine Dv.mv rfl trivial rfl ?_
        refine Dv.mv rfl trivial rfl ?_
        obtain ⟨g840, H⟩ := Gets.grd H
        refine Dv.ixr rfl trivial rfl rfl Try.underlying40 Try.underlying9 c9 g840.1 g840.2 ?_
        refine Dv.ldr rfl trivial rfl Try.underlying9 rfl rfl ?_
        refine Dv.mv rfl trivial rfl ?_
        refine Dv.mv rfl trivial rfl ?_
        obtain ⟨g841, H⟩ := Gets.grd H
        refine Dv.ixr rfl trivial rfl rfl Try.underlying40 Try.underlying9 c9 g841.1 g841.2 ?_
        refine Dv.ldr rfl trivial rfl Try.underlying9 rfl rfl ?_
        refine Dv.bin rfl trivial rfl rfl (fun _ => run_sne) ?_
        refine .fin ?_
        refine WP.cond rfl (fun c842 => ?_) (fun c842 => ?_)
        · replace H := Gets.ct H c842
          refine WP.seq ?_
          refine WP.reg [(0, false)] (by kernel_rfl) ?_
          refine Dv.asg rfl trivial rfl ?_
          refine .fin ?_
          replace H := Gets.outr H
          obtain rfl := Gets.out H
          exact WP.retL (fun _ _ h => h) rfl () trivial (.cons (res_tmp rfl) .nil) rfl (st_sel (L := []) (F := F) [] 0 rfl rfl rfl)
        · replace H := Gets.cf H c842
          refine WP.skip ?_
          refine WP.reg [(0, false), (1, false), (2, false)] (by kernel_rfl) ?_
          refine Dv.mv rfl trivial rfl ?_
          refine Dv.bin rfl trivial rfl rfl (fun _ => run_add) ?_
          refine Dv.asg rfl trivial rfl ?_
          refine .fin ?_
          exact Back.mk j843 (w64 (x838 + 1)) (Nat.lt_succ_self _) H (weak_cons rfl (weak_cons rfl (weak_cons rfl (weak_cons rfl (weak_cons rfl weak_nil))))) (List.Perm.refl _)
      · replace H := Gets.cf H c839
        refine WP.exit ?_
        replace H := Gets.out H
        exact Jn.mk (x838, decide (x838 < (a0.length : Int))) H (weak_cons rfl (weak_cons rfl (weak_cons rfl (weak_cons rfl (weak_cons rfl (weak_cons rfl weak_nil)))))) (List.Perm.refl _)
theorem typing_Table_Types.c {k : Nat} {a0 : TTab} {a1 : ByteArray} {a2 : ByteArray} {a3 : Int} {v0_0 v0_1 : OV} {b0_ : Nat} {r : Bool} (h : typing_Table_Types.f k a0 a1 a2 a3 = some r) : Tr Try.prog 17 [eq (.pointer (some ⟨b0_, 0, none⟩)), eq (.string a1), eq (.string a2), eq (.int .i64 a3)] [blk b0_ 59 [eq v0_0.1, eq v0_1.1], own Edu.K v0_0.1 a0.fl] (γ := Unit) (fun _ => True) (fun g => eq (.bool r)) (fun g => [blk b0_ 59 [eq v0_0.1, eq v0_1.1], own Edu.K v0_0.1 a0.fl]) := by
  unfold typing_Table_Types.f at h
  refine Tr.body Try.func17 (c := _) rfl Try.ntmps17 (Nat.le_of_ble_eq_true rfl) fun R0 F => ?_
  replace h := Gets.of h
  have H := h
  clear h
  refine WP.seq ?_
  refine WP.reg [(0, false)] (by kernel_rfl) ?_
  refine Dv.asg rfl trivial rfl ?_
  refine .fin ?_
  refine WP.seq ?_
  refine WP.reg [(0, false), (1, false), (2, false), (3, false), (4, false), (5, false), (6, false), (7, false), (8, false), (9, false)] (by kernel_rfl) ?_
  refine Dv.mv rfl trivial rfl ?_
  refine Dv.mv rfl trivial rfl ?_
  refine Dv.mv rfl trivial rfl ?_
  refine Dv.bld (css := [[eq (.string a1)], [eq (.string a2)]]) rfl trivial Try.underlying32 pl32 z32 rfl ⟨(cells_one (one_eq rfl)), ⟨(cells_one (one_eq rfl)), trivial⟩⟩ rfl rfl ?_
  obtain ⟨t845, h846, H⟩ := Gets.call H
  refine Dv.calll (B := [blk b0_ 59 [eq v0_0.1, eq v0_1.1], own Edu.K v0_0.1 a0.fl]) (F := [] ++ F) rfl trivial cal29 rfl (typing_Table_place.c h846 (b0_ := b0_) (v0_0 := v0_0) (v0_1 := v0_1)) (perm_to (L := [blk b0_ 59 [eq v0_0.1, eq v0_1.1], own Edu.K v0_0.1 a0.fl]) (F := F) [0, 1] rfl rfl rfl) ?_
  refine Dv.mv rfl trivial rfl ?_
  refine Dv.ext rfl trivial rfl rfl ?_
  refine Dv.ext rfl trivial rfl rfl ?_
  refine Dv.asg rfl trivial rfl ?_
  refine Dv.asg rfl trivial rfl ?_
  refine .fin ?_
  refine WP.seq ?_
  refine WP.reg [(0, false), (1, false), (2, false), (3, false), (4, false), (5, false), (6, false), (7, false), (8, false), (9, false), (10, false), (11, false), (12, false), (13, false), (14, false), (15, false), (16, false), (17, false), (18, false), (19, false), (20, false), (21, false), (22, false), (23, false)] (by kernel_rfl) ?_
  refine Dv.mv rfl trivial rfl ?_
  refine Dv.mv rfl trivial rfl ?_
  cases c847 : t845.2
  · replace H := Gets.cf H c847
    refine Dv.skip rfl ⟨_, _, rfl, rfl, .inl rfl⟩ ?_
    refine Dv.skip rfl ⟨_, _, rfl, rfl, .inl rfl⟩ ?_
    refine Dv.skip rfl ⟨_, _, rfl, rfl, .inl rfl⟩ ?_
    refine Dv.skip rfl ⟨_, _, rfl, rfl, .inl rfl⟩ ?_
    refine Dv.skip rfl ⟨_, _, rfl, rfl, .inl rfl⟩ ?_
    refine Dv.skip rfl ⟨_, _, rfl, rfl, .inl rfl⟩ ?_
    refine Dv.skip rfl ⟨_, _, rfl, rfl, .inl rfl⟩ ?_
    refine Dv.skip rfl ⟨_, _, rfl, rfl, .inl rfl⟩ ?_
    refine Dv.pickF rfl trivial rfl rfl ?_
    refine Dv.mv rfl trivial rfl ?_
    refine Dv.skip rfl ⟨_, _, rfl, rfl, .inl rfl⟩ ?_
    refine Dv.skip rfl ⟨_, _, rfl, rfl, .inl rfl⟩ ?_
    refine Dv.skip rfl ⟨_, _, rfl, rfl, .inl rfl⟩ ?_
    refine Dv.skip rfl ⟨_, _, rfl, rfl, .inl rfl⟩ ?_
    refine Dv.skip rfl ⟨_, _, rfl, rfl, .inl rfl⟩ ?_
    refine Dv.skip rfl ⟨_, _, rfl, rfl, .inl rfl⟩ ?_
    refine Dv.skip rfl ⟨_, _, rfl, rfl, .inl rfl⟩ ?_
    refine Dv.skip rfl ⟨_, _, rfl, rfl, .inl rfl⟩ ?_
    refine Dv.skip rfl ⟨_, _, rfl, rfl, .inl rfl⟩ ?_
    refine Dv.skip rfl ⟨_, _, rfl, rfl, .inl rfl⟩ ?_
    refine Dv.pickF rfl trivial rfl rfl ?_
    refine Dv.asg rfl trivial rfl ?_
    refine .fin ?_
    obtain rfl := Gets.out H
    exact WP.retL (fun _ _ h => h) rfl () trivial (.cons (res_tmp rfl) .nil) rfl (st_sel (L := [blk b0_ 59 [eq v0_0.1, eq v0_1.1], own Edu.K v0_0.1 a0.fl]) (F := F) [0, 1] 0 rfl rfl rfl)
  · replace H := Gets.ct H c847
    refine Dv.mv rfl ⟨_, _, rfl, rfl, rfl⟩ rfl ?_
    refine Dv.nilp rfl ⟨_, _, rfl, rfl, rfl⟩ rfl ?_
    refine Dv.fab rfl ⟨_, _, rfl, rfl, rfl⟩ rfl Try.underlying59 rfl Try.underlying22 c22 (by decide) ?_
    refine Dv.ldb rfl ⟨_, _, rfl, rfl, rfl⟩ rfl Try.underlying22 rfl (mem_at 0 rfl) rfl ?_
    refine Dv.mv rfl ⟨_, _, rfl, rfl, rfl⟩ rfl ?_
    obtain ⟨g848, H⟩ := Gets.grd H
    have h849 : t845.1.toNat < a0.fl.length := idx_lt g848
    refine Dv.ixw rfl ⟨_, _, rfl, rfl, rfl⟩ rfl (mem_at 1 rfl) rfl Try.underlying22 Try.underlying32 c32 g848.1 g848.2 ?_
    refine Dv.faw rfl ⟨_, _, rfl, rfl, rfl⟩ rfl Try.underlying32 rfl Try.underlying4 c4 (by decide) ?_
    refine Dv.ldw (j := t845.1.toNat) (f := 6) (p := eq (.bool ((a0.fl.getD t845.1.toNat default).fOn))) rfl ⟨_, _, rfl, rfl, rfl⟩ rfl (mem_at 1 rfl) h849 Try.underlying4 rfl rfl ?_
    refine Dv.pickT rfl trivial rfl rfl ?_
    refine Dv.mv rfl trivial rfl ?_
    cases c850 : (a0.fl.getD t845.1.toNat default).fOn
    · replace H := Gets.cf H c850
      refine Dv.skip rfl ⟨_, _, rfl, rfl, .inl rfl⟩ ?_
      refine Dv.skip rfl ⟨_, _, rfl, rfl, .inl rfl⟩ ?_
      refine Dv.skip rfl ⟨_, _, rfl, rfl, .inl rfl⟩ ?_
      refine Dv.skip rfl ⟨_, _, rfl, rfl, .inl rfl⟩ ?_
      refine Dv.skip rfl ⟨_, _, rfl, rfl, .inl rfl⟩ ?_
      refine Dv.skip rfl ⟨_, _, rfl, rfl, .inl rfl⟩ ?_
      refine Dv.skip rfl ⟨_, _, rfl, rfl, .inl rfl⟩ ?_
      refine Dv.skip rfl ⟨_, _, rfl, rfl, .inl rfl⟩ ?_
      refine Dv.skip rfl ⟨_, _, rfl, rfl, .inl rfl⟩ ?_
      refine Dv.skip rfl ⟨_, _, rfl, rfl, .inl rfl⟩ ?_
      refine Dv.pickF rfl trivial rfl rfl ?_
      refine Dv.asg rfl trivial rfl ?_
      refine .fin ?_
      obtain rfl := Gets.out H
      exact WP.retL (fun _ _ h => h) rfl () trivial (.cons (res_tmp rfl) .nil) rfl (st_sel (L := [blk b0_ 59 [eq v0_0.1, eq v0_1.1], own Edu.K v0_0.1 a0.fl]) (F := F) [0, 1] 0 rfl rfl rfl)
    · replace H := Gets.ct H c850
      refine Dv.mv rfl ⟨_, _, rfl, rfl, rfl⟩ rfl ?_
      refine Dv.mv rfl ⟨_, _, rfl, rfl, rfl⟩ rfl ?_
      refine Dv.nilp rfl ⟨_, _, rfl, rfl, rfl⟩ rfl ?_
      refine Dv.fab rfl ⟨_, _, rfl, rfl, rfl⟩ rfl Try.underlying59 rfl Try.underlying22 c22 (by decide) ?_
      refine Dv.ldb rfl ⟨_, _, rfl, rfl, rfl⟩ rfl Try.underlying22 rfl (mem_at 0 rfl) rfl ?_
      refine Dv.mv rfl ⟨_, _, rfl, rfl, rfl⟩ rfl ?_
      obtain ⟨g851, H⟩ := Gets.grd H
      have h852 : t845.1.toNat < a0.fl.length := idx_lt g851
      refine Dv.ixw rfl ⟨_, _, rfl, rfl, rfl⟩ rfl (mem_at 1 rfl) rfl Try.underlying22 Try.underlying32 c32 g851.1 g851.2 ?_
      refine Dv.ldws (j := t845.1.toNat) (f := 0) rfl ⟨_, _, rfl, rfl, rfl⟩ rfl (mem_at 1 rfl) h852 Try.underlying32 rfl c32 (Nat.le_of_ble_eq_true rfl) ?_
      obtain ⟨t853, h854, H⟩ := Gets.call H
      refine Dv.call rfl ⟨_, _, rfl, rfl, rfl⟩ cal34 rfl (typing_end.c h854) ?_
      refine Dv.bin rfl ⟨_, _, rfl, rfl, rfl⟩ rfl rfl (fun _ => run_lt) ?_
      refine Dv.pickT rfl trivial rfl rfl ?_
      refine Dv.asg rfl trivial rfl ?_
      refine .fin ?_
      obtain rfl := Gets.out H
      exact WP.retL (fun _ _ h => h) rfl () trivial (.cons (res_tmp rfl) .nil) rfl (st_sel (L := [blk b0_ 59 [eq v0_0.1, eq v0_1.1], own Edu.K v0_0.1 a0.fl]) (F := F) [0, 1] 0 rfl rfl rfl)
theorem typing_Table_Users.c {k : Nat} {a0 : TTab} {a1 : ByteArray} {a2 : Int} {v0_0 v0_1 : OV} {b0_ : Nat} {r : (List ByteArray)} (h : typing_Table_Users.f k a0 a1 a2 = some r) : Tr Try.prog 15 [eq (.pointer (some ⟨b0_, 0, none⟩)), eq (.string a1), eq (.int .i64 a2)] [blk b0_ 59 [eq v0_0.1, eq v0_1.1], own Edu.K v0_0.1 a0.fl] (γ := OV) (fun _ => True) (fun g => eq g.1) (fun g => [blk b0_ 59 [eq v0_0.1, eq v0_1.1], own Edu.K v0_0.1 a0.fl, own strK g.1 r]) := by
  unfold typing_Table_Users.f at h
  refine Tr.body Try.func15 (c := _) rfl Try.ntmps15 (Nat.le_of_ble_eq_true rfl) fun R0 F => ?_
  replace h := Gets.of h
  have H := h
  clear h
  refine WP.seq ?_
  refine WP.reg [(0, false)] (by kernel_rfl) ?_
  refine Dv.asg rfl trivial rfl ?_
  refine .fin ?_
  refine WP.seq ?_
  refine WP.reg [(0, false)] (by kernel_rfl) ?_
  refine Dv.asg rfl trivial rfl ?_
  refine .fin ?_
  refine WP.seq ?_
  refine WP.reg [(0, false), (1, false), (2, false)] (by kernel_rfl) ?_
  refine Dv.mv rfl trivial rfl ?_
  refine Dv.mkc (fst := #[.pointer (some ⟨b0_, 0, none⟩)]) rfl trivial rfl ?_
  refine Dv.asg rfl trivial rfl ?_
  refine .fin ?_
  refine WP.seqn H (fun q873 : (Int × Bool × (List ByteArray)) × OV => q873.1) (fun q873 : (Int × Bool × (List ByteArray)) × OV => [(0, eq (.pointer (some ⟨b0_, 0, none⟩))), (1, eq (.string a1)), (2, eq (.int .i64 a2)), (6, eq (.slice none 0 0)), (7, eq q873.2.1), (8, eq (.func (.func 17) #[.pointer (some ⟨b0_, 0, none⟩)] #[])), (16, eq v0_0.1), (17, eq (.int .i64 (a0.fl.length : Int))), (18, eq (.int .i64 q873.1.1)), (19, eq (.bool q873.1.2.1))]) (fun q873 : (Int × Bool × (List ByteArray)) × OV => [blk b0_ 59 [eq v0_0.1, eq v0_1.1], own Edu.K v0_0.1 a0.fl, own strK q873.2.1 q873.1.2.2] ++ F) (fun q873 H => ?_) (fun H => ?_)
  · obtain ⟨p855, v856⟩ := q873
    refine WP.seq ?_
    refine WP.reg [(0, false), (1, false)] (by kernel_rfl) ?_
    refine Dv.mv rfl trivial rfl ?_
    refine Dv.asg rfl trivial rfl ?_
    refine .fin ?_
    obtain rfl := Gets.out H
    exact WP.retL (fun _ _ h => h) rfl v856 trivial (.cons (res_tmp rfl) .nil) rfl (st_sel (L := [blk b0_ 59 [eq v0_0.1, eq v0_1.1], own Edu.K v0_0.1 a0.fl, own strK v856.1 p855.2.2]) (F := F) [0, 1, 2] 0 rfl rfl rfl)
  · refine WP.seq ?_
    refine WP.reg [(0, false), (1, false), (2, false), (3, false), (4, false), (5, false)] (by kernel_rfl) ?_
    refine Dv.mv rfl trivial rfl ?_
    refine Dv.nilp rfl trivial rfl ?_
    refine Dv.fab rfl trivial rfl Try.underlying59 rfl Try.underlying22 c22 (by decide) ?_
    refine Dv.ldb rfl trivial rfl Try.underlying22 rfl (mem_at 0 rfl) rfl ?_
    refine Dv.lenw rfl trivial rfl (mem_at 1 rfl) Try.underlying22 ?_
    refine Dv.mv rfl trivial rfl ?_
    refine .fin ?_
    refine WP.block ?_
    refine WP.gh (gh_of (st_nil strK none)) (fun _ _ => ?_)
    refine WP.gh (l' := fun _ => [blk b0_ 59 [eq v0_0.1, eq v0_1.1], own Edu.K v0_0.1 a0.fl, own strK nilV.1 ([] : List ByteArray)] ++ F) (gh_of (st_selg (L := [own strK nilV.1 ([] : List ByteArray), blk b0_ 59 [eq v0_0.1, eq v0_1.1], own Edu.K v0_0.1 a0.fl]) (F := F) [1, 2, 0] 0 rfl rfl rfl)) (fun _ _ => ?_)
    refine WP.loopg (fun j_ (p872 : Int × (List ByteArray) × OV) => typing_Table_Users.l0 k a0 a1 a2 j_ p872.1 p872.2.1) (0, ([] : List ByteArray), nilV) H (fun p872 => [(0, eq (.pointer (some ⟨b0_, 0, none⟩))), (1, eq (.string a1)), (2, eq (.int .i64 a2)), (6, eq (.slice none 0 0)), (7, eq p872.2.2.1), (8, eq (.func (.func 17) #[.pointer (some ⟨b0_, 0, none⟩)] #[])), (16, eq v0_0.1), (17, eq (.int .i64 (a0.fl.length : Int))), (18, eq (.int .i64 p872.1))]) (fun p872 => [blk b0_ 59 [eq v0_0.1, eq v0_1.1], own Edu.K v0_0.1 a0.fl, own strK p872.2.2.1 p872.2.1] ++ F) (weak_cons rfl (weak_cons rfl (weak_cons rfl (weak_cons rfl (weak_cons rfl (weak_cons rfl (weak_cons rfl (weak_cons rfl (weak_cons rfl weak_nil))))))))) (List.Perm.refl _) ?_
    rintro j_ ⟨x857, x858, v859⟩ H
    rcases j_ with _ | j871
    · exact (Gets.no H).elim
    replace H : Gets (typing_Table_Users.l0 k a0 a1 a2 (j871 + 1) x857 x858) _ := H
    rw [typing_Table_Users.l0] at H
    refine WP.seq ?_
    refine WP.reg [(0, false)] (by kernel_rfl) ?_
    refine Dv.bin rfl trivial rfl rfl (fun _ => run_lt) ?_
    refine .fin ?_
    refine WP.seq ?_
    refine WP.cond rfl (fun c860 => ?_) (fun c860 => ?_)
    · replace H := Gets.ct H c860
      refine WP.skip ?_
      refine WP.seq ?_
      refine WP.block ?_
      refine WP.seq ?_
      refine WP.reg [(0, false), (1, false), (2, true), (3, true)] (by kernel_rfl) ?_
      obtain ⟨g861, H⟩ := Gets.grd H
      have h862 : x857.toNat < a0.fl.length := idx_lt g861
      refine Dv.ixw rfl trivial rfl (mem_at 1 rfl) rfl Try.underlying22 Try.underlying32 c32 g861.1 g861.2 ?_
      refine Dv.ldws (j := x857.toNat) (f := 0) rfl trivial rfl (mem_at 1 rfl) h862 Try.underlying32 rfl c32 (Nat.le_of_ble_eq_true rfl) ?_
      refine Dv.alloc (z := .agg #[.int .i64 0, .string ⟨#[]⟩, .string ⟨#[]⟩, .string ⟨#[]⟩, .string ⟨#[]⟩, .bool false, .bool false, .int .i64 0, .int .i64 0, .int .i64 0, .int .i64 0]) (qs := [eq (.int .i64 0), eq (.string (⟨#[]⟩ : ByteArray)), eq (.string (⟨#[]⟩ : ByteArray)), eq (.string (⟨#[]⟩ : ByteArray)), eq (.string (⟨#[]⟩ : ByteArray)), eq (.bool false), eq (.bool false), eq (.int .i64 0), eq (.int .i64 0), eq (.int .i64 0), eq (.int .i64 0)]) rfl trivial z32 rfl nofun (fun b863 => ?_)
      refine Dv.stx ([blk b863 32 [eq (.int .i64 ((a0.fl.getD x857.toNat default).fKind)), eq (.string ((a0.fl.getD x857.toNat default).fRoom)), eq (.string ((a0.fl.getD x857.toNat default).fUser)), eq (.string ((a0.fl.getD x857.toNat default).fEvent)), eq (.string ((a0.fl.getD x857.toNat default).fThread)), eq (.bool ((a0.fl.getD x857.toNat default).fPrivate)), eq (.bool ((a0.fl.getD x857.toNat default).fOn)), eq (.int .i64 ((a0.fl.getD x857.toNat default).fSpan)), eq (.int .i64 ((a0.fl.getD x857.toNat default).fState)), eq (.int .i64 ((a0.fl.getD x857.toNat default).fTick)), eq (.int .i64 ((a0.fl.getD x857.toNat default).fStamp))], blk b0_ 59 [eq v0_0.1, eq v0_1.1], own Edu.K v0_0.1 a0.fl, own strK v859.1 x858] ++ F) rfl trivial rfl rfl (cells_agg (Edu.K.one _)) Try.underlying32 c32 rfl (j := 0) rfl (Nat.le_of_ble_eq_true rfl) rfl nofun ?_
      refine .fin ?_
      refine WP.seq ?_
      refine WP.reg [(0, false), (1, false), (2, false), (3, false), (4, false), (5, false), (6, false), (7, false), (8, false), (9, false), (10, false), (11, false)] (by kernel_rfl) ?_
      refine Dv.fab rfl trivial rfl Try.underlying32 rfl Try.underlying9 c9 (by decide) ?_
      refine Dv.ldb rfl trivial rfl Try.underlying9 rfl (mem_at 0 rfl) rfl ?_
      refine Dv.mv rfl trivial rfl ?_
      refine Dv.bin rfl trivial rfl rfl (fun _ => run_seq) ?_
      refine Dv.mv rfl trivial rfl ?_
      cases c864 : decide (((a0.fl.getD x857.toNat default).fRoom) = a1)
      · replace H := Gets.cf H c864
        refine Dv.skip rfl ⟨_, _, rfl, rfl, .inl rfl⟩ ?_
        refine Dv.skip rfl ⟨_, _, rfl, rfl, .inl rfl⟩ ?_
        refine Dv.skip rfl ⟨_, _, rfl, rfl, .inl rfl⟩ ?_
        refine Dv.skip rfl ⟨_, _, rfl, rfl, .inl rfl⟩ ?_
        refine Dv.skip rfl ⟨_, _, rfl, rfl, .inl rfl⟩ ?_
        refine Dv.skip rfl ⟨_, _, rfl, rfl, .inl rfl⟩ ?_
        refine Dv.pickF rfl trivial rfl rfl ?_
        refine .fin ?_
        refine WP.cond rfl nofun (fun _ => ?_)
        refine WP.skip ?_
        refine WP.reg [(0, false), (1, false)] (by kernel_rfl) ?_
        refine Dv.bin rfl trivial rfl rfl (fun _ => run_add) ?_
        refine Dv.mv rfl trivial rfl ?_
        refine .fin ?_
        refine Dn.gh (l' := fun _ : Unit => [blk b0_ 59 [eq v0_0.1, eq v0_1.1], own Edu.K v0_0.1 a0.fl, own strK v859.1 x858] ++ F) (gh_of (st_selg (L := [blk b863 32 [eq (.int .i64 ((a0.fl.getD x857.toNat default).fKind)), eq (.string ((a0.fl.getD x857.toNat default).fRoom)), eq (.string ((a0.fl.getD x857.toNat default).fUser)), eq (.string ((a0.fl.getD x857.toNat default).fEvent)), eq (.string ((a0.fl.getD x857.toNat default).fThread)), eq (.bool ((a0.fl.getD x857.toNat default).fPrivate)), eq (.bool ((a0.fl.getD x857.toNat default).fOn)), eq (.int .i64 ((a0.fl.getD x857.toNat default).fSpan)), eq (.int .i64 ((a0.fl.getD x857.toNat default).fState)), eq (.int .i64 ((a0.fl.getD x857.toNat default).fTick)), eq (.int .i64 ((a0.fl.getD x857.toNat default).fStamp))], blk b0_ 59 [eq v0_0.1, eq v0_1.1], own Edu.K v0_0.1 a0.fl, own strK v859.1 x858]) (F := F) [0, 1, 2, 3] 1 rfl rfl rfl)) (fun _ _ => ?_)
        exact Back.mk j871 (w64 (x857 + 1), x858, v859) (Nat.lt_succ_self _) H (weak_cons rfl (weak_cons rfl (weak_cons rfl (weak_cons rfl (weak_cons rfl (weak_cons rfl (weak_cons rfl (weak_cons rfl (weak_cons rfl weak_nil))))))))) (List.Perm.refl _)
      · replace H := Gets.ct H c864
        refine Dv.mv rfl ⟨_, _, rfl, rfl, rfl⟩ rfl ?_
        refine Dv.mv rfl ⟨_, _, rfl, rfl, rfl⟩ rfl ?_
        refine Dv.fab rfl ⟨_, _, rfl, rfl, rfl⟩ rfl Try.underlying32 rfl Try.underlying9 c9 (by decide) ?_
        refine Dv.ldb rfl ⟨_, _, rfl, rfl, rfl⟩ rfl Try.underlying9 rfl (mem_at 0 rfl) rfl ?_
        refine Dv.mv rfl ⟨_, _, rfl, rfl, rfl⟩ rfl ?_
        obtain ⟨t865, h866, H⟩ := Gets.call H
        refine Dv.callc (fst := #[.pointer (some ⟨b0_, 0, none⟩)]) (B := [blk b0_ 59 [eq v0_0.1, eq v0_1.1], own Edu.K v0_0.1 a0.fl]) (F := [blk b863 32 [eq (.int .i64 ((a0.fl.getD x857.toNat default).fKind)), eq (.string ((a0.fl.getD x857.toNat default).fRoom)), eq (.string ((a0.fl.getD x857.toNat default).fUser)), eq (.string ((a0.fl.getD x857.toNat default).fEvent)), eq (.string ((a0.fl.getD x857.toNat default).fThread)), eq (.bool ((a0.fl.getD x857.toNat default).fPrivate)), eq (.bool ((a0.fl.getD x857.toNat default).fOn)), eq (.int .i64 ((a0.fl.getD x857.toNat default).fSpan)), eq (.int .i64 ((a0.fl.getD x857.toNat default).fState)), eq (.int .i64 ((a0.fl.getD x857.toNat default).fTick)), eq (.int .i64 ((a0.fl.getD x857.toNat default).fStamp))], own strK v859.1 x858] ++ F) rfl ⟨_, _, rfl, rfl, rfl⟩ rfl cal17 rfl (typing_Table_Types.c h866 (b0_ := b0_) (v0_0 := v0_0) (v0_1 := v0_1)) (perm_to (L := [blk b863 32 [eq (.int .i64 ((a0.fl.getD x857.toNat default).fKind)), eq (.string ((a0.fl.getD x857.toNat default).fRoom)), eq (.string ((a0.fl.getD x857.toNat default).fUser)), eq (.string ((a0.fl.getD x857.toNat default).fEvent)), eq (.string ((a0.fl.getD x857.toNat default).fThread)), eq (.bool ((a0.fl.getD x857.toNat default).fPrivate)), eq (.bool ((a0.fl.getD x857.toNat default).fOn)), eq (.int .i64 ((a0.fl.getD x857.toNat default).fSpan)), eq (.int .i64 ((a0.fl.getD x857.toNat default).fState)), eq (.int .i64 ((a0.fl.getD x857.toNat default).fTick)), eq (.int .i64 ((a0.fl.getD x857.toNat default).fStamp))], blk b0_ 59 [eq v0_0.1, eq v0_1.1], own Edu.K v0_0.1 a0.fl, own strK v859.1 x858]) (F := F) [1, 2, 0, 3] rfl rfl rfl) ?_
        refine Dv.pickT rfl trivial rfl rfl ?_
        refine .fin ?_
        refine WP.cond rfl (fun c867 => ?_) (fun c867 => ?_)
        · replace H := Gets.ct H c867
          refine WP.reg [(0, false), (1, false), (2, false), (3, false), (4, true), (5, false)] (by kernel_rfl) ?_
          refine Dv.mv rfl trivial rfl ?_
          refine Dv.fab rfl trivial rfl Try.underlying32 rfl Try.underlying9 c9 (by decide) ?_
          refine Dv.ldb rfl trivial rfl Try.underlying9 rfl (mem_at 0 rfl) rfl ?_
          refine Dv.lit strK ([(a0.fl.getD x857.toNat default).fUser] : List ByteArray) (css := [[eq (.string ((a0.fl.getD x857.toNat default).fUser))]]) rfl trivial Try.underlying40 Try.underlying9 c9 z9 rfl (by decide) (by decide) rfl ⟨(cells_one (one_eq rfl)), trivial⟩ rfl rfl rfl ?_
          obtain ⟨g868, H⟩ := Gets.grd H
          refine Dv.appx (jj := 3) (ys := ([(a0.fl.getD x857.toNat default).fUser] : List ByteArray)) (fun v869 : OV => [blk b863 32 [eq (.int .i64 ((a0.fl.getD x857.toNat default).fKind)), eq (.string ((a0.fl.getD x857.toNat default).fRoom)), eq (.string ((a0.fl.getD x857.toNat default).fUser)), eq (.string ((a0.fl.getD x857.toNat default).fEvent)), eq (.string ((a0.fl.getD x857.toNat default).fThread)), eq (.bool ((a0.fl.getD x857.toNat default).fPrivate)), eq (.bool ((a0.fl.getD x857.toNat default).fOn)), eq (.int .i64 ((a0.fl.getD x857.toNat default).fSpan)), eq (.int .i64 ((a0.fl.getD x857.toNat default).fState)), eq (.int .i64 ((a0.fl.getD x857.toNat default).fTick)), eq (.int .i64 ((a0.fl.getD x857.toNat default).fStamp))], blk b0_ 59 [eq v0_0.1, eq v0_1.1], own Edu.K v0_0.1 a0.fl, own strK v869.1 (x858 ++ ([(a0.fl.getD x857.toNat default).fUser] : List ByteArray))] ++ F) rfl trivial rfl rfl rfl src_sl Try.underlying40 (.inr ⟨_, Try.underlying40⟩) inf9 rfl (by decide) g868 rfl nofun (fun v869 => ?_)
          refine Dv.asg rfl trivial rfl ?_
          refine .fin ?_
          refine WP.reg [(0, false), (1, false)] (by kernel_rfl) ?_
          refine Dv.bin rfl trivial rfl rfl (fun _ => run_add) ?_
          refine Dv.mv rfl trivial rfl ?_
          refine .fin ?_
          refine Dn.gh (l' := fun _ : Unit => [blk b0_ 59 [eq v0_0.1, eq v0_1.1], own Edu.K v0_0.1 a0.fl, own strK v869.1 (x858 ++ ([(a0.fl.getD x857.toNat default).fUser] : List ByteArray))] ++ F) (gh_of (st_selg (L := [blk b863 32 [eq (.int .i64 ((a0.fl.getD x857.toNat default).fKind)), eq (.string ((a0.fl.getD x857.toNat default).fRoom)), eq (.string ((a0.fl.getD x857.toNat default).fUser)), eq (.string ((a0.fl.getD x857.toNat default).fEvent)), eq (.string ((a0.fl.getD x857.toNat default).fThread)), eq (.bool ((a0.fl.getD x857.toNat default).fPrivate)), eq (.bool ((a0.fl.getD x857.toNat default).fOn)), eq (.int .i64 ((a0.fl.getD x857.toNat default).fSpan)), eq (.int .i64 ((a0.fl.getD x857.toNat default).fState)), eq (.int .i64 ((a0.fl.getD x857.toNat default).fTick)), eq (.int .i64 ((a0.fl.getD x857.toNat default).fStamp))], blk b0_ 59 [eq v0_0.1, eq v0_1.1], own Edu.K v0_0.1 a0.fl, own strK v869.1 (x858 ++ ([(a0.fl.getD x857.toNat default).fUser] : List ByteArray))]) (F := F) [0, 1, 2, 3] 1 rfl rfl rfl)) (fun _ _ => ?_)
          exact Back.mk j871 (w64 (x857 + 1), x858 ++ ([(a0.fl.getD x857.toNat default).fUser] : List ByteArray), v869) (Nat.lt_succ_self _) H (weak_cons rfl (weak_cons rfl (weak_cons rfl (weak_cons rfl (weak_cons rfl (weak_cons rfl (weak_cons rfl (weak_cons rfl (weak_cons rfl weak_nil))))))))) (List.Perm.refl _)
        · replace H := Gets.cf H c867
          refine WP.skip ?_
          refine WP.reg [(0, false), (1, false)] (by kernel_rfl) ?_
          refine Dv.bin rfl trivial rfl rfl (fun _ => run_add) ?_
          refine Dv.mv rfl trivial rfl ?_
          refine .fin ?_
          refine Dn.gh (l' := fun _ : Unit => [blk b0_ 59 [eq v0_0.1, eq v0_1.1], own Edu.K v0_0.1 a0.fl, own strK v859.1 x858] ++ F) (gh_of (st_selg (L := [blk b863 32 [eq (.int .i64 ((a0.fl.getD x857.toNat default).fKind)), eq (.string ((a0.fl.getD x857.toNat default).fRoom)), eq (.string ((a0.fl.getD x857.toNat default).fUser)), eq (.string ((a0.fl.getD x857.toNat default).fEvent)), eq (.string ((a0.fl.getD x857.toNat default).fThread)), eq (.bool ((a0.fl.getD x857.toNat default).fPrivate)), eq (.bool ((a0.fl.getD x857.toNat default).fOn)), eq (.int .i64 ((a0.fl.getD x857.toNat default).fSpan)), eq (.int .i64 ((a0.fl.getD x857.toNat default).fState)), eq (.int .i64 ((a0.fl.getD x857.toNat default).fTick)), eq (.int .i64 ((a0.fl.getD x857.toNat default).fStamp))], blk b0_ 59 [eq v0_0.1, eq v0_1.1], own Edu.K v0_0.1 a0.fl, own strK v859.1 x858]) (F := F) [0, 1, 2, 3] 1 rfl rfl rfl)) (fun _ _ => ?_)
          exact Back.mk j871 (w64 (x857 + 1), x858, v859) (Nat.lt_succ_self _) H (weak_cons rfl (weak_cons rfl (weak_cons rfl (weak_cons rfl (weak_cons rfl (weak_cons rfl (weak_cons rfl (weak_cons rfl (weak_cons rfl weak_nil))))))))) (List.Perm.refl _)
    · replace H := Gets.cf H c860
      refine WP.exit ?_
      replace H := Gets.out H
      exact Jn.mk ((x857, decide (x857 < (a0.fl.length : Int)), x858), v859) H (weak_cons rfl (weak_cons rfl (weak_cons rfl (weak_cons rfl (weak_cons rfl (weak_cons rfl (weak_cons rfl (weak_cons rfl (weak_cons rfl (weak_cons rfl weak_nil)))))))))) (List.Perm.refl _)
theorem concourseref14_Types.c {k : Nat} {a0 : TRef} {a1 : ByteArray} {a2 : ByteArray} {a3 : Int} {r : Bool} (h : concourseref14_Types.f k a0 a1 a2 a3 = some r) : Pt Try.prog 18 [agg (TRef.enc a0), eq (.string a1), eq (.string a2), eq (.int .i64 a3)] (eq (.bool r)) := by
  unfold concourseref14_Types.f at h
  refine (Tr.body Try.func18 (c := _) rfl Try.ntmps18 (Nat.le_of_ble_eq_true rfl) fun R0 F => ?_).pt
  replace h := Gets.of h
  have H := h
  clear h
  refine WP.seq ?_
  refine WP.reg [(0, true), (1, false)] (by kernel_rfl) ?_
  refine Dv.box rfl trivial rfl (cells_agg (TRef.K.one _)) nofun (fun b874 => ?_)
  refine Dv.asg rfl trivial rfl ?_
  refine .fin ?_
  refine WP.seqr H id (fun p875 : Int × Bool => [(0, agg (TRef.enc a0)), (1, eq (.string a1)), (2, eq (.string a2)), (3, eq (.int .i64 a3)), (4, eq (.pointer (some ⟨b874, 0, none⟩))), (8, eq (.bool false)), (9, eq (.int .i64 p875.1)), (14, eq (.bool p875.2))]) (fun p875 : Int × Bool => [blk b874 27 [sl Edu.K a0.fL, sl boolK a0.fTold]] ++ F) (fun p875 H => ?_) (fun H => ?_)
  · refine WP.seq ?_
    refine WP.reg [(0, false)] (by kernel_rfl) ?_
    refine Dv.asg rfl trivial rfl ?_
    refine .fin ?_
    obtain rfl := Gets.out H
    exact WP.retL (fun _ _ h => h) rfl () trivial (.cons (res_tmp rfl) .nil) rfl (st_sel (L := [blk b874 27 [sl Edu.K a0.fL, sl boolK a0.fTold]]) (F := F) [0] 1 rfl rfl rfl)
  · refine WP.seq ?_
    refine WP.reg [(0, false)] (by kernel_rfl) ?_
    refine Dv.asg rfl trivial rfl ?_
    refine .fin ?_
    refine WP.block ?_
    refine WP.gh (l' := fun _ => [blk b874 27 [sl Edu.K a0.fL, sl boolK a0.fTold]] ++ F) (gh_of (st_selg (L := [blk b874 27 [sl Edu.K a0.fL, sl boolK a0.fTold]]) (F := F) [0] 0 rfl rfl rfl)) (fun _ _ => ?_)
    refine WP.loopg (fun j_ (p888 : Int) => concourseref14_Types.l0 k a0 a1 a2 a3 j_ p888) 0 H (fun p888 => [(0, agg (TRef.enc a0)), (1, eq (.string a1)), (2, eq (.string a2)), (3, eq (.int .i64 a3)), (4, eq (.pointer (some ⟨b874, 0, none⟩))), (8, eq (.bool false)), (9, eq (.int .i64 p888))]) (fun p888 => [blk b874 27 [sl Edu.K a0.fL, sl boolK a0.fTold]] ++ F) (weak_cons rfl (weak_cons rfl (weak_cons rfl (weak_cons rfl (weak_cons rfl (weak_cons rfl (weak_cons rfl weak_nil))))))) (List.Perm.refl _) ?_
    rintro j_ x876 H
    rcases j_ with _ | j887
    · exact (Gets.no H).elim
    replace H : Gets (concourseref14_Types.l0 k a0 a1 a2 a3 (j887 + 1) x876) _ := H
    rw [concourseref14_Types.l0] at H
    refine WP.seq ?_
    refine WP.seq ?_
    refine WP.reg [(0, false), (1, false), (2, false), (3, false), (4, false)] (by kernel_rfl) ?_
    refine Dv.mv rfl trivial rfl ?_
    refine Dv.fab rfl trivial rfl Try.underlying27 rfl Try.underlying22 c22 (by decide) ?_
    refine Dv.ldb rfl trivial rfl Try.underlying22 rfl (mem_at 0 rfl) rfl ?_
    refine Dv.lenl rfl trivial rfl Try.underlying22 ?_
    refine Dv.bin rfl trivial rfl rfl (fun _ => run_lt) ?_
    refine .fin ?_
    refine WP.cond rfl (fun c877 => ?_) (fun c877 => ?_)
    · replace H := Gets.ct H c877
      refine WP.skip ?_
      refine WP.seq ?_
      refine WP.block ?_
      refine WP.seq ?_
      refine WP.reg [(0, false), (1, false), (2, false), (3, false), (4, false), (5, false), (6, false), (7, false), (8, false), (9, false), (10, false), (11, false), (12, false), (13, false), (14, false), (15, false), (16, false), (17, false)] (by kernel_rfl) ?_
      refine Dv.fab rfl trivial rfl Try.underlying27 rfl Try.underlying22 c22 (by decide) ?_
      refine Dv.ldb rfl trivial rfl Try.underlying22 rfl (mem_at 0 rfl) rfl ?_
      refine Dv.mv rfl trivial rfl ?_
      obtain ⟨g878, H⟩ := Gets.grd H
      refine Dv.ixr rfl trivial rfl rfl Try.underlying22 Try.underlying32 c32 g878.1 g878.2 ?_
      refine Dv.far rfl trivial rfl Try.underlying32 rfl Try.underlying9 c9 (by decide) (Nat.le_of_ble_eq_true rfl) ?_
      refine Dv.ldr rfl trivial rfl Try.underlying9 rfl rfl ?_
      refine Dv.mv rfl trivial rfl ?_
      refine Dv.bin rfl trivial rfl rfl (fun _ => run_seq) ?_
      refine Dv.mv rfl trivial rfl ?_
      cases c879 : decide (((Edu.K.at a0.fL x876).fRoom) = a1)
      · replace H := Gets.cf H c879
        refine Dv.skip rfl ⟨_, _, rfl, rfl, .inl rfl⟩ ?_
        refine Dv.skip rfl ⟨_, _, rfl, rfl, .inl rfl⟩ ?_
        refine Dv.skip rfl ⟨_, _, rfl, rfl, .inl rfl⟩ ?_
        refine Dv.skip rfl ⟨_, _, rfl, rfl, .inl rfl⟩ ?_
        refine Dv.skip rfl ⟨_, _, rfl, rfl, .inl rfl⟩ ?_
        refine Dv.skip rfl ⟨_, _, rfl, rfl, .inl rfl⟩ ?_
        refine Dv.skip rfl ⟨_, _, rfl, rfl, .inl rfl⟩ ?_
        refine Dv.skip rfl ⟨_, _, rfl, rfl, .inl rfl⟩ ?_
        refine Dv.pickF rfl trivial rfl rfl ?_
        refine .fin ?_
        refine WP.cond rfl nofun (fun _ => ?_)
        refine WP.skip ?_
        refine WP.reg [(0, false), (1, false), (2, false)] (by kernel_rfl) ?_
        refine Dv.mv rfl trivial rfl ?_
        refine Dv.bin rfl trivial rfl rfl (fun _ => run_add) ?_
        refine Dv.asg rfl trivial rfl ?_
        refine .fin ?_
        exact Back.mk j887 (w64 (x876 + 1)) (Nat.lt_succ_self _) H (weak_cons rfl (weak_cons rfl (weak_cons rfl (weak_cons rfl (weak_cons rfl (weak_cons rfl (weak_cons rfl weak_nil))))))) (List.Perm.refl _)
      · replace H := Gets.ct H c879
        refine Dv.fab rfl ⟨_, _, rfl, rfl, rfl⟩ rfl Try.underlying27 rfl Try.underlying22 c22 (by decide) ?_
        refine Dv.ldb rfl ⟨_, _, rfl, rfl, rfl⟩ rfl Try.underlying22 rfl (mem_at 0 rfl) rfl ?_
        refine Dv.mv rfl ⟨_, _, rfl, rfl, rfl⟩ rfl ?_
        obtain ⟨g880, H⟩ := Gets.grd H
        refine Dv.ixr rfl ⟨_, _, rfl, rfl, rfl⟩ rfl rfl Try.underlying22 Try.underlying32 c32 g880.1 g880.2 ?_
        refine Dv.far rfl ⟨_, _, rfl, rfl, rfl⟩ rfl Try.underlying32 rfl Try.underlying9 c9 (by decide) (Nat.le_of_ble_eq_true rfl) ?_
        refine Dv.ldr rfl ⟨_, _, rfl, rfl, rfl⟩ rfl Try.underlying9 rfl rfl ?_
        refine Dv.mv rfl ⟨_, _, rfl, rfl, rfl⟩ rfl ?_
        refine Dv.bin rfl ⟨_, _, rfl, rfl, rfl⟩ rfl rfl (fun _ => run_seq) ?_
        refine Dv.pickT rfl trivial rfl rfl ?_
        refine .fin ?_
        refine WP.cond rfl (fun c881 => ?_) (fun c881 => ?_)
        · replace H := Gets.ct H c881
          refine WP.seq ?_
          refine WP.dreg Try.checked.mixed [(0, false), (1, false), (2, false), (3, false), (4, false), (5, false), (6, false), (7, false), (8, false), (9, false), (10, false), (11, false), (12, false), (13, false), (14, false), (15, false), (16, false), (17, false), (18, false), (19, false), (20, false), (21, false), (22, false), (23, false)] (by kernel_rfl) ?_
          refine Dv.fab rfl trivial rfl Try.underlying27 rfl Try.underlying22 c22 (by decide) ?_
          refine Dv.ldb rfl trivial rfl Try.underlying22 rfl (mem_at 0 rfl) rfl ?_
          refine Dv.mv rfl trivial rfl ?_
          obtain ⟨g882, H⟩ := Gets.grd H
          refine Dv.ixr rfl trivial rfl rfl Try.underlying22 Try.underlying32 c32 g882.1 g882.2 ?_
          refine Dv.far rfl trivial rfl Try.underlying32 rfl Try.underlying4 c4 (by decide) (Nat.le_of_ble_eq_true rfl) ?_
          refine Dv.ldr rfl trivial rfl Try.underlying4 rfl rfl ?_
          refine Dv.mv rfl trivial rfl ?_
          cases c883 : (Edu.K.at a0.fL x876).fOn
          · replace H := Gets.cf H c883
            refine Dv.skip rfl ⟨_, _, rfl, rfl, .inl rfl⟩ ?_
            refine Dv.skip rfl ⟨_, _, rfl, rfl, .inl rfl⟩ ?_
            refine Dv.skip rfl ⟨_, _, rfl, rfl, .inl rfl⟩ ?_
            refine Dv.skip rfl ⟨_, _, rfl, rfl, .inl rfl⟩ ?_
            refine Dv.skip rfl ⟨_, _, rfl, rfl, .inl rfl⟩ ?_
            refine Dv.skip rfl ⟨_, _, rfl, rfl, .inl rfl⟩ ?_
            refine Dv.skip rfl ⟨_, _, rfl, rfl, .inl rfl⟩ ?_
            refine Dv.skip rfl ⟨_, _, rfl, rfl, .inl rfl⟩ ?_
            refine Dv.skip rfl ⟨_, _, rfl, rfl, .inl rfl⟩ ?_
            refine Dv.skip rfl ⟨_, _, rfl, rfl, .inl rfl⟩ ?_
            refine Dv.skip rfl ⟨_, _, rfl, rfl, .inl rfl⟩ ?_
            refine Dv.skip rfl ⟨_, _, rfl, rfl, .inl rfl⟩ ?_
            refine Dv.skip rfl ⟨_, _, rfl, rfl, .inl rfl⟩ ?_
            refine Dv.skip rfl ⟨_, _, rfl, rfl, .inl rfl⟩ ?_
            refine Dv.skip rfl ⟨_, _, rfl, rfl, .inl rfl⟩ ?_
            refine Dv.pickF rfl trivial rfl rfl ?_
            refine Dv.asg rfl trivial rfl ?_
            refine .fin ?_
            replace H := Gets.outr H
            obtain rfl := Gets.out H
            exact WP.retL (fun _ _ h => h) rfl () trivial (.cons (res_tmp rfl) .nil) rfl (st_sel (L := [blk b874 27 [sl Edu.K a0.fL, sl boolK a0.fTold]]) (F := F) [0] 1 rfl rfl rfl)
          · replace H := Gets.ct H c883
            refine Dv.mv rfl ⟨_, _, rfl, rfl, rfl⟩ rfl ?_
            refine Dv.fab rfl ⟨_, _, rfl, rfl, rfl⟩ rfl Try.underlying27 rfl Try.underlying22 c22 (by decide) ?_
            refine Dv.ldb rfl ⟨_, _, rfl, rfl, rfl⟩ rfl Try.underlying22 rfl (mem_at 0 rfl) rfl ?_
            refine Dv.mv rfl ⟨_, _, rfl, rfl, rfl⟩ rfl ?_
            obtain ⟨g884, H⟩ := Gets.grd H
            refine Dv.ixr rfl ⟨_, _, rfl, rfl, rfl⟩ rfl rfl Try.underlying22 Try.underlying32 c32 g884.1 g884.2 ?_
            refine Dv.far rfl ⟨_, _, rfl, rfl, rfl⟩ rfl Try.underlying32 rfl Try.underlying3 c3 (by decide) (Nat.le_of_ble_eq_true rfl) ?_
            refine Dv.ldr rfl ⟨_, _, rfl, rfl, rfl⟩ rfl Try.underlying3 rfl rfl ?_
            refine Dv.fab rfl ⟨_, _, rfl, rfl, rfl⟩ rfl Try.underlying27 rfl Try.underlying22 c22 (by decide) ?_
            refine Dv.ldb rfl ⟨_, _, rfl, rfl, rfl⟩ rfl Try.underlying22 rfl (mem_at 0 rfl) rfl ?_
            refine Dv.mv rfl ⟨_, _, rfl, rfl, rfl⟩ rfl ?_
            obtain ⟨g885, H⟩ := Gets.grd H
            refine Dv.ixr rfl ⟨_, _, rfl, rfl, rfl⟩ rfl rfl Try.underlying22 Try.underlying32 c32 g885.1 g885.2 ?_
            refine Dv.far rfl ⟨_, _, rfl, rfl, rfl⟩ rfl Try.underlying32 rfl Try.underlying3 c3 (by decide) (Nat.le_of_ble_eq_true rfl) ?_
            refine Dv.ldr rfl ⟨_, _, rfl, rfl, rfl⟩ rfl Try.underlying3 rfl rfl ?_
            refine Dv.bin rfl ⟨_, _, rfl, rfl, rfl⟩ rfl rfl (fun _ => run_add) ?_
            refine Dv.bin rfl ⟨_, _, rfl, rfl, rfl⟩ rfl rfl (fun _ => run_lt) ?_
            refine Dv.pickT rfl trivial rfl rfl ?_
            refine Dv.asg rfl trivial rfl ?_
            refine .fin ?_
            replace H := Gets.outr H
            obtain rfl := Gets.out H
            exact WP.retL (fun _ _ h => h) rfl () trivial (.cons (res_tmp rfl) .nil) rfl (st_sel (L := [blk b874 27 [sl Edu.K a0.fL, sl boolK a0.fTold]]) (F := F) [0] 1 rfl rfl rfl)
        · replace H := Gets.cf H c881
          refine WP.skip ?_
          refine WP.reg [(0, false), (1, false), (2, false)] (by kernel_rfl) ?_
          refine Dv.mv rfl trivial rfl ?_
          refine Dv.bin rfl trivial rfl rfl (fun _ => run_add) ?_
          refine Dv.asg rfl trivial rfl ?_
          refine .fin ?_
          exact Back.mk j887 (w64 (x876 + 1)) (Nat.lt_succ_self _) H (weak_cons rfl (weak_cons rfl (weak_cons rfl (weak_cons rfl (weak_cons rfl (weak_cons rfl (weak_cons rfl weak_nil))))))) (List.Perm.refl _)
    · replace H := Gets.cf H c877
      refine WP.exit ?_
      replace H := Gets.out H
      exact Jn.mk (x876, decide (x876 < (a0.fL.length : Int))) H (weak_cons rfl (weak_cons rfl (weak_cons rfl (weak_cons rfl (weak_cons rfl (weak_cons rfl (weak_cons rfl (weak_cons rfl weak_nil)))))))) (List.Perm.refl _)
theorem concourseref14_Users.c {k : Nat} {a0 : TRef} {a1 : ByteArray} {a2 : Int} {r : (List ByteArray)} (h : concourseref14_Users.f k a0 a1 a2 = some r) : Tr Try.prog 16 [agg (TRef.enc a0), eq (.string a1), eq (.int .i64 a2)] [] (γ := OV) (fun _ => True) (fun g => eq g.1) (fun g => [own strK g.1 r]) := by
  unfold concourseref14_Users.f at h
  refine Tr.body Try.func16 (c := _) rfl Try.ntmps16 (Nat.le_of_ble_eq_true rfl) fun R0 F => ?_
  replace h := Gets.of h
  have H := h
  clear h
  refine WP.seq ?_
  refine WP.reg [(0, true), (1, false)] (by kernel_rfl) ?_
  refine Dv.box rfl trivial rfl (cells_agg (TRef.K.one _)) nofun (fun b889 => ?_)
  refine Dv.asg rfl trivial rfl ?_
  refine .fin ?_
  refine WP.seq ?_
  refine WP.reg [(0, false)] (by kernel_rfl) ?_
  refine Dv.asg rfl trivial rfl ?_
  refine .fin ?_
  refine WP.seqn H (fun q908 : (Int × Bool × (List ByteArray)) × OV => q908.1) (fun q908 : (Int × Bool × (List ByteArray)) × OV => [(0, agg (TRef.enc a0)), (1, eq (.string a1)), (2, eq (.int .i64 a2)), (3, eq (.pointer (some ⟨b889, 0, none⟩))), (6, eq (.slice none 0 0)), (7, eq q908.2.1), (8, eq (.int .i64 q908.1.1)), (14, eq (.bool q908.1.2.1))]) (fun q908 : (Int × Bool × (List ByteArray)) × OV => [blk b889 27 [sl Edu.K a0.fL, sl boolK a0.fTold], own strK q908.2.1 q908.1.2.2] ++ F) (fun q908 H => ?_) (fun H => ?_)
  · obtain ⟨p890, v891⟩ := q908
    refine WP.seq ?_
    refine WP.reg [(0, false), (1, false)] (by kernel_rfl) ?_
    refine Dv.mv rfl trivial rfl ?_
    refine Dv.asg rfl trivial rfl ?_
    refine .fin ?_
    obtain rfl := Gets.out H
    exact WP.retL (fun _ _ h => h) rfl v891 trivial (.cons (res_tmp rfl) .nil) rfl (st_sel (L := [blk b889 27 [sl Edu.K a0.fL, sl boolK a0.fTold], own strK v891.1 p890.2.2]) (F := F) [0, 1] 1 rfl rfl rfl)
  · refine WP.seq ?_
    refine WP.reg [(0, false)] (by kernel_rfl) ?_
    refine Dv.asg rfl trivial rfl ?_
    refine .fin ?_
    refine WP.block ?_
    refine WP.gh (gh_of (st_nil strK none)) (fun _ _ => ?_)
    refine WP.gh (l' := fun _ => [blk b889 27 [sl Edu.K a0.fL, sl boolK a0.fTold], own strK nilV.1 ([] : List ByteArray)] ++ F) (gh_of (st_selg (L := [own strK nilV.1 ([] : List ByteArray), blk b889 27 [sl Edu.K a0.fL, sl boolK a0.fTold]]) (F := F) [1, 0] 0 rfl rfl rfl)) (fun _ _ => ?_)
    refine WP.loopg (fun j_ (p907 : Int × (List ByteArray) × OV) => concourseref14_Users.l0 k a0 a1 a2 j_ p907.1 p907.2.1) (0, ([] : List ByteArray), nilV) H (fun p907 => [(0, agg (TRef.enc a0)), (1, eq (.string a1)), (2, eq (.int .i64 a2)), (3, eq (.pointer (some ⟨b889, 0, none⟩))), (6, eq (.slice none 0 0)), (7, eq p907.2.2.1), (8, eq (.int .i64 p907.1))]) (fun p907 => [blk b889 27 [sl Edu.K a0.fL, sl boolK a0.fTold], own strK p907.2.2.1 p907.2.1] ++ F) (weak_cons rfl (weak_cons rfl (weak_cons rfl (weak_cons rfl (weak_cons rfl (weak_cons rfl (weak_cons rfl weak_nil))))))) (List.Perm.refl _) ?_
    rintro j_ ⟨x892, x893, v894⟩ H
    rcases j_ with _ | j906
    · exact (Gets.no H).elim
    replace H : Gets (concourseref14_Users.l0 k a0 a1 a2 (j906 + 1) x892 x893) _ := H
    rw [concourseref14_Users.l0] at H
    refine WP.seq ?_
    refine WP.seq ?_
    refine WP.reg [(0, false), (1, false), (2, false), (3, false), (4, false)] (by kernel_rfl) ?_
    refine Dv.mv rfl trivial rfl ?_
    refine Dv.fab rfl trivial rfl Try.underlying27 rfl Try.underlying22 c22 (by decide) ?_
    refine Dv.ldb rfl trivial rfl Try.underlying22 rfl (mem_at 0 rfl) rfl ?_
    refine Dv.lenl rfl trivial rfl Try.underlying22 ?_
    refine Dv.bin rfl trivial rfl rfl (fun _ => run_lt) ?_
    refine .fin ?_
    refine WP.cond rfl (fun c895 => ?_) (fun c895 => ?_)
    · replace H := Gets.ct H c895
      refine WP.skip ?_
      refine WP.seq ?_
      refine WP.block ?_
      refine WP.seq ?_
      refine WP.dreg Try.checked.mixed [(0, false), (1, false), (2, false), (3, false), (4, false), (5, false), (6, false), (7, false), (8, false), (9, false), (10, false)] (by kernel_rfl) ?_
      refine Dv.ldbs rfl trivial rfl Try.underlying27 rfl c27 (mem_at 0 rfl) (Nat.le_of_ble_eq_true rfl) ?_
      refine Dv.mv rfl trivial rfl ?_
      refine Dv.fab rfl trivial rfl Try.underlying27 rfl Try.underlying22 c22 (by decide) ?_
      refine Dv.ldb rfl trivial rfl Try.underlying22 rfl (mem_at 0 rfl) rfl ?_
      refine Dv.mv rfl trivial rfl ?_
      obtain ⟨g896, H⟩ := Gets.grd H
      refine Dv.ixr rfl trivial rfl rfl Try.underlying22 Try.underlying32 c32 g896.1 g896.2 ?_
      refine Dv.far rfl trivial rfl Try.underlying32 rfl Try.underlying9 c9 (by decide) (Nat.le_of_ble_eq_true rfl) ?_
      refine Dv.ldr rfl trivial rfl Try.underlying9 rfl rfl ?_
      refine Dv.mv rfl trivial rfl ?_
      obtain ⟨t897, h898, H⟩ := Gets.call H
      refine Dv.call rfl trivial cal18 rfl (concourseref14_Types.c h898) ?_
      refine Dv.asg rfl trivial rfl ?_
      refine .fin ?_
      refine WP.seq ?_
      refine WP.reg [(0, false), (1, false), (2, false), (3, false), (4, false), (5, false), (6, false), (7, false), (8, false), (9, false), (10, false)] (by kernel_rfl) ?_
      refine Dv.fab rfl trivial rfl Try.underlying27 rfl Try.underlying22 c22 (by decide) ?_
      refine Dv.ldb rfl trivial rfl Try.underlying22 rfl (mem_at 0 rfl) rfl ?_
      refine Dv.mv rfl trivial rfl ?_
      obtain ⟨g899, H⟩ := Gets.grd H
      refine Dv.ixr rfl trivial rfl rfl Try.underlying22 Try.underlying32 c32 g899.1 g899.2 ?_
      refine Dv.far rfl trivial rfl Try.underlying32 rfl Try.underlying9 c9 (by decide) (Nat.le_of_ble_eq_true rfl) ?_
      refine Dv.ldr rfl trivial rfl Try.underlying9 rfl rfl ?_
      refine Dv.mv rfl trivial rfl ?_
      refine Dv.bin rfl trivial rfl rfl (fun _ => run_seq) ?_
      refine Dv.mv rfl trivial rfl ?_
      cases c900 : decide (((Edu.K.at a0.fL x892).fRoom) = a1)
      · replace H := Gets.cf H c900
        refine Dv.skip rfl ⟨_, _, rfl, rfl, .inl rfl⟩ ?_
        refine Dv.pickF rfl trivial rfl rfl ?_
        refine .fin ?_
        refine WP.cond rfl nofun (fun _ => ?_)
        refine WP.skip ?_
        refine WP.reg [(0, false), (1, false), (2, false)] (by kernel_rfl) ?_
        refine Dv.mv rfl trivial rfl ?_
        refine Dv.bin rfl trivial rfl rfl (fun _ => run_add) ?_
        refine Dv.asg rfl trivial rfl ?_
        refine .fin ?_
        exact Back.mk j906 (w64 (x892 + 1), x893, v894) (Nat.lt_succ_self _) H (weak_cons rfl (weak_cons rfl (weak_cons rfl (weak_cons rfl (weak_cons rfl (weak_cons rfl (weak_cons rfl weak_nil))))))) (List.Perm.refl _)
      · replace H := Gets.ct H c900
        refine Dv.mv rfl ⟨_, _, rfl, rfl, rfl⟩ rfl ?_
        refine Dv.pickT rfl trivial rfl rfl ?_
        refine .fin ?_
        refine WP.cond rfl (fun c901 => ?_) (fun c901 => ?_)
        · replace H := Gets.ct H c901
          refine WP.reg [(0, false), (1, false), (2, false), (3, false), (4, false), (5, false), (6, false), (7, false), (8, true), (9, false)] (by kernel_rfl) ?_
          refine Dv.mv rfl trivial rfl ?_
          refine Dv.fab rfl trivial rfl Try.underlying27 rfl Try.underlying22 c22 (by decide) ?_
          refine Dv.ldb rfl trivial rfl Try.underlying22 rfl (mem_at 0 rfl) rfl ?_
          refine Dv.mv rfl trivial rfl ?_
          obtain ⟨g902, H⟩ := Gets.grd H
          refine Dv.ixr rfl trivial rfl rfl Try.underlying22 Try.underlying32 c32 g902.1 g902.2 ?_
          refine Dv.far rfl trivial rfl Try.underlying32 rfl Try.underlying9 c9 (by decide) (Nat.le_of_ble_eq_true rfl) ?_
          refine Dv.ldr rfl trivial rfl Try.underlying9 rfl rfl ?_
          refine Dv.lit strK ([(Edu.K.at a0.fL x892).fUser] : List ByteArray) (css := [[eq (.string ((Edu.K.at a0.fL x892).fUser))]]) rfl trivial Try.underlying40 Try.underlying9 c9 z9 rfl (by decide) (by decide) rfl ⟨(cells_one (one_eq rfl)), trivial⟩ rfl rfl rfl ?_
          obtain ⟨g903, H⟩ := Gets.grd H
          refine Dv.appx (jj := 1) (ys := ([(Edu.K.at a0.fL x892).fUser] : List ByteArray)) (fun v904 : OV => [blk b889 27 [sl Edu.K a0.fL, sl boolK a0.fTold], own strK v904.1 (x893 ++ ([(Edu.K.at a0.fL x892).fUser] : List ByteArray))] ++ F) rfl trivial rfl rfl rfl src_sl Try.underlying40 (.inr ⟨_, Try.underlying40⟩) inf9 rfl (by decide) g903 rfl nofun (fun v904 => ?_)
          refine Dv.asg rfl trivial rfl ?_
          refine .fin ?_
          refine WP.reg [(0, false), (1, false), (2, false)] (by kernel_rfl) ?_
          refine Dv.mv rfl trivial rfl ?_
          refine Dv.bin rfl trivial rfl rfl (fun _ => run_add) ?_
          refine Dv.asg rfl trivial rfl ?_
          refine .fin ?_
          exact Back.mk j906 (w64 (x892 + 1), x893 ++ ([(Edu.K.at a0.fL x892).fUser] : List ByteArray), v904) (Nat.lt_succ_self _) H (weak_cons rfl (weak_cons rfl (weak_cons rfl (weak_cons rfl (weak_cons rfl (weak_cons rfl (weak_cons rfl weak_nil))))))) (List.Perm.refl _)
        · replace H := Gets.cf H c901
          refine WP.skip ?_
          refine WP.reg [(0, false), (1, false), (2, false)] (by kernel_rfl) ?_
          refine Dv.mv rfl trivial rfl ?_
          refine Dv.bin rfl trivial rfl rfl (fun _ => run_add) ?_
          refine Dv.asg rfl trivial rfl ?_
          refine .fin ?_
          exact Back.mk j906 (w64 (x892 + 1), x893, v894) (Nat.lt_succ_self _) H (weak_cons rfl (weak_cons rfl (weak_cons rfl (weak_cons rfl (weak_cons rfl (weak_cons rfl (weak_cons rfl weak_nil))))))) (List.Perm.refl _)
    · replace H := Gets.cf H c895
      refine WP.exit ?_
      replace H := Gets.out H
      exact Jn.mk ((x892, decide (x892 < (a0.fL.length : Int)), x893), v894) H (weak_cons rfl (weak_cons rfl (weak_cons rfl (weak_cons rfl (weak_cons rfl (weak_cons rfl (weak_cons rfl (weak_cons rfl weak_nil)))))))) (List.Perm.refl _)
theorem concourselaw14_lives.c {k : Nat} {r : Bool} (h : concourselaw14_lives.f k = some r) : Pt Try.prog 20 [] (eq (.bool r)) := by
  unfold concourselaw14_lives.f at h
  refine (Tr.body Try.func20 (c := _) rfl Try.ntmps20 (Nat.le_of_ble_eq_true rfl) fun R0 F => ?_).pt
  replace h := Gets.of h
  have H := h
  clear h
  refine WP.seq ?_
  refine WP.reg [(0, false)] (by kernel_rfl) ?_
  refine Dv.asg rfl trivial rfl ?_
  refine .fin ?_
  refine WP.seq ?_
  refine WP.reg [(0, true), (1, false)] (by kernel_rfl) ?_
  obtain ⟨t909, h910, H⟩ := Gets.call H
  refine Dv.callx (pre := []) (F := [] ++ F) (fun g911 : OV => [TTab.O g911 t909] ++ F) rfl trivial cal7 rfl (typing_New.c h910) (perm_to (L := []) (F := F) [] rfl rfl rfl) rfl nofun (fun g911 _ => ?_)
  refine Dv.asg rfl trivial rfl ?_
  refine .fin ?_
  refine WP.seq ?_
  refine WP.seq ?_
  refine WP.reg [(0, false), (1, false)] (by kernel_rfl) ?_
  refine Dv.mv rfl trivial rfl ?_
  refine Dv.peq0 TTab.nn rfl trivial rfl rfl Try.underlying23 (mem_at 0 rfl) ?_
  refine .fin ?_
  refine WP.cond rfl nofun (fun _ => ?_)
  refine WP.skip ?_
  refine WP.seq ?_
  refine WP.reg [(0, false), (1, false), (2, true), (3, false), (4, false), (5, false), (6, false), (7, false)] (by kernel_rfl) ?_
  refine Dv.mv rfl trivial rfl ?_
  refine Dv.bld (css := [[eq (.int .i64 2)], [eq (.string (⟨#[33, 114, 58, 115]⟩ : ByteArray))], [eq (.string (⟨#[64, 97, 58, 115]⟩ : ByteArray))], [eq (.bool true)], [eq (.int .i64 5)], [eq (.int .i64 10)]]) rfl trivial Try.underlying32 pl32 z32 rfl ⟨(cells_one (one_eq rfl)), ⟨(cells_one (one_eq rfl)), ⟨(cells_one (one_eq rfl)), ⟨(cells_one (one_eq rfl)), ⟨(cells_one (one_eq rfl)), ⟨(cells_one (one_eq rfl)), trivial⟩⟩⟩⟩⟩⟩ rfl rfl ?_
  obtain ⟨t913, h914, H⟩ := Gets.call H
  refine Dv.callx (pre := [TTab.O g911 t909]) (F := [] ++ F) (fun _ : Unit => [TTab.O g911 t913.2.2] ++ F) rfl trivial cal10 rfl (typing_Table_Put.c h914 (p0_ := g911)) (perm_to (L := [TTab.O g911 t909]) (F := F) [0] rfl rfl rfl) rfl nofun (fun _ _ => ?_)
  refine Dv.mv rfl trivial rfl ?_
  refine Dv.ext rfl trivial rfl rfl ?_
  refine Dv.ext rfl trivial rfl rfl ?_
  refine Dv.asg rfl trivial rfl ?_
  refine Dv.asg rfl trivial rfl ?_
  refine .fin ?_
  refine WP.seq ?_
  refine WP.reg [(0, false), (1, false), (2, false), (3, false), (4, false), (5, false), (6, false), (7, false), (8, false), (9, false), (10, false), (11, false), (12, false), (13, false), (14, false)] (by kernel_rfl) ?_
  refine Dv.mv rfl trivial rfl ?_
  refine Dv.mv rfl trivial rfl ?_
  cases c915 : t913.1
  · replace H := Gets.cf H c915
    refine Dv.skip rfl ⟨_, _, rfl, rfl, .inl rfl⟩ ?_
    refine Dv.skip rfl ⟨_, _, rfl, rfl, .inl rfl⟩ ?_
    refine Dv.pickF rfl trivial rfl rfl ?_
    refine Dv.mv rfl trivial rfl ?_
    refine Dv.skip rfl ⟨_, _, rfl, rfl, .inl rfl⟩ ?_
    refine Dv.skip rfl ⟨_, _, rfl, rfl, .inl rfl⟩ ?_
    refine Dv.pickF rfl trivial rfl rfl ?_
    refine Dv.mv rfl trivial rfl ?_
    refine Dv.skip rfl ⟨_, _, rfl, rfl, .inl rfl⟩ ?_
    refine Dv.skip rfl ⟨_, _, rfl, rfl, .inl rfl⟩ ?_
    refine Dv.skip rfl ⟨_, _, rfl, rfl, .inl rfl⟩ ?_
    refine Dv.pickF rfl trivial rfl rfl ?_
    refine Dv.asg rfl trivial rfl ?_
    refine .fin ?_
    obtain rfl := Gets.out H
    exact WP.retL (fun _ _ h => h) rfl () trivial (.cons (res_tmp rfl) .nil) rfl (st_sel (L := [TTab.O g911 t913.2.2]) (F := F) [0] 1 rfl rfl rfl)
  · replace H := Gets.ct H c915
    refine Dv.mv rfl ⟨_, _, rfl, rfl, rfl⟩ rfl ?_
    refine Dv.bin rfl ⟨_, _, rfl, rfl, rfl⟩ rfl rfl (fun _ => run_eq) ?_
    refine Dv.pickT rfl trivial rfl rfl ?_
    refine Dv.mv rfl trivial rfl ?_
    cases c916 : (t913.2.1 == 0)
    · replace H := Gets.cf H c916
      refine Dv.skip rfl ⟨_, _, rfl, rfl, .inl rfl⟩ ?_
      refine Dv.skip rfl ⟨_, _, rfl, rfl, .inl rfl⟩ ?_
      refine Dv.pickF rfl trivial rfl rfl ?_
      refine Dv.mv rfl trivial rfl ?_
      refine Dv.skip rfl ⟨_, _, rfl, rfl, .inl rfl⟩ ?_
      refine Dv.skip rfl ⟨_, _, rfl, rfl, .inl rfl⟩ ?_
      refine Dv.skip rfl ⟨_, _, rfl, rfl, .inl rfl⟩ ?_
      refine Dv.pickF rfl trivial rfl rfl ?_
      refine Dv.asg rfl trivial rfl ?_
      refine .fin ?_
      obtain rfl := Gets.out H
      exact WP.retL (fun _ _ h => h) rfl () trivial (.cons (res_tmp rfl) .nil) rfl (st_sel (L := [TTab.O g911 t913.2.2]) (F := F) [0] 1 rfl rfl rfl)
    · replace H := Gets.ct H c916
      refine Dv.mv rfl ⟨_, _, rfl, rfl, rfl⟩ rfl ?_
      refine Dv.gh (l' := fun (g917 : Nat × OV × OV) => [blk g917.1 59 [eq g917.2.1.1, eq g917.2.2.1], own Edu.K g917.2.1.1 t913.2.2.fl, HHeap.O g917.2.2 t913.2.2.fends] ++ F) (gh_of (TTab.opn 0 rfl)) (fun g917 h918 => ?_)
      obtain ⟨t919, h920, H⟩ := Gets.call H
      refine Dv.calll (B := [blk g917.1 59 [eq g917.2.1.1, eq g917.2.2.1], own Edu.K g917.2.1.1 t913.2.2.fl]) (F := [HHeap.O g917.2.2 t913.2.2.fends] ++ F) rfl ⟨_, _, rfl, rfl, rfl⟩ cal17 rfl (Tr.weak (typing_Table_Types.c h920 (b0_ := g917.1) (v0_0 := g917.2.1) (v0_1 := g917.2.2)) (.cons (wk_ptr h918) (.cons wk_id (.cons wk_id (.cons wk_id .nil))))) (perm_to (L := [blk g917.1 59 [eq g917.2.1.1, eq g917.2.2.1], own Edu.K g917.2.1.1 t913.2.2.fl, HHeap.O g917.2.2 t913.2.2.fends]) (F := F) [0, 1, 2] rfl rfl rfl) ?_
      refine Dv.pickT rfl trivial rfl rfl ?_
      refine Dv.mv rfl trivial rfl ?_
      cases c921 : t919
      · replace H := Gets.cf H c921
        refine Dv.skip rfl ⟨_, _, rfl, rfl, .inl rfl⟩ ?_
        refine Dv.skip rfl ⟨_, _, rfl, rfl, .inl rfl⟩ ?_
        refine Dv.skip rfl ⟨_, _, rfl, rfl, .inl rfl⟩ ?_
        refine Dv.pickF rfl trivial rfl rfl ?_
        refine Dv.asg rfl trivial rfl ?_
        refine .fin ?_
        refine WP.gh (l' := fun _ : Unit => [TTab.O g911 t913.2.2] ++ F) (gh_of (TTab.shut (p := g911) (m := t913.2.2) (r := [] ++ F) (g917.1, g917.2.1, g917.2.2) h918 (perm_to (L := [blk g917.1 59 [eq g917.2.1.1, eq g917.2.2.1], own Edu.K g917.2.1.1 t913.2.2.fl, HHeap.O g917.2.2 t913.2.2.fends]) (F := F) [0, 1, 2] rfl rfl rfl))) (fun _ _ => ?_)
        obtain rfl := Gets.out H
        exact WP.retL (fun _ _ h => h) rfl () trivial (.cons (res_tmp rfl) .nil) rfl (st_sel (L := [TTab.O g911 t913.2.2]) (F := F) [0] 1 rfl rfl rfl)
      · replace H := Gets.ct H c921
        refine Dv.mv rfl ⟨_, _, rfl, rfl, rfl⟩ rfl ?_
        obtain ⟨t922, h923, H⟩ := Gets.call H
        refine Dv.calll (B := [blk g917.1 59 [eq g917.2.1.1, eq g917.2.2.1], own Edu.K g917.2.1.1 t913.2.2.fl]) (F := [HHeap.O g917.2.2 t913.2.2.fends] ++ F) rfl ⟨_, _, rfl, rfl, rfl⟩ cal17 rfl (Tr.weak (typing_Table_Types.c h923 (b0_ := g917.1) (v0_0 := g917.2.1) (v0_1 := g917.2.2)) (.cons (wk_ptr h918) (.cons wk_id (.cons wk_id (.cons wk_id .nil))))) (perm_to (L := [blk g917.1 59 [eq g917.2.1.1, eq g917.2.2.1], own Edu.K g917.2.1.1 t913.2.2.fl, HHeap.O g917.2.2 t913.2.2.fends]) (F := F) [0, 1, 2] rfl rfl rfl) ?_
        refine Dv.un rfl ⟨_, _, rfl, rfl, rfl⟩ rfl (fun _ => run_not _) ?_
        refine Dv.pickT rfl trivial rfl rfl ?_
        refine Dv.asg rfl trivial rfl ?_
        refine .fin ?_
        refine WP.gh (l' := fun _ : Unit => [TTab.O g911 t913.2.2] ++ F) (gh_of (TTab.shut (p := g911) (m := t913.2.2) (r := [] ++ F) (g917.1, g917.2.1, g917.2.2) h918 (perm_to (L := [blk g917.1 59 [eq g917.2.1.1, eq g917.2.2.1], own Edu.K g917.2.1.1 t913.2.2.fl, HHeap.O g917.2.2 t913.2.2.fends]) (F := F) [0, 1, 2] rfl rfl rfl))) (fun _ _ => ?_)
        obtain rfl := Gets.out H
        exact WP.retL (fun _ _ h => h) rfl () trivial (.cons (res_tmp rfl) .nil) rfl (st_sel (L := [TTab.O g911 t913.2.2]) (F := F) [0] 1 rfl rfl rfl)
theorem slices_Clone.c {a0 : List Edu} {r : List Edu} (h : slices_Clone.f a0 = some r) : Tr Try.prog 36 [sl Edu.K a0] [] (γ := OV) (fun _ => True) (fun g => eq g.1) (fun g => [own Edu.K g.1 r]) := by
  unfold slices_Clone.f at h
  obtain ⟨h0, h5⟩ := (Gets.of h).grd
  obtain rfl := Gets.out h5
  clear h h5
  refine (Tr.body Try.func36 (c := _) rfl Try.ntmps36 (Nat.le_of_ble_eq_true rfl) fun R0 F => ?_)
  refine WP.seq ?_
  refine WP.reg [(0, false)] (by kernel_rfl) ?_
  refine Dv.asg rfl trivial rfl ?_
  refine .fin ?_
  refine WP.seq ?_
  refine WP.seq ?_
  refine WP.reg [(0, false), (1, true)] (by kernel_rfl) ?_
  refine Dv.mv rfl trivial rfl ?_
  refine Dv.snil rfl trivial rfl rfl Try.underlying22 nofun (fun b hb => ?_)
  refine .fin ?_
  refine WP.cond rfl (fun c0 => ?_) (fun c0 => ?_)
  · obtain rfl := hb c0
    refine WP.seq ?_
    refine WP.reg [(0, false)] (by kernel_rfl) ?_
    refine Dv.asg rfl trivial rfl ?_
    refine .fin ?_
    refine WP.gh (gh_of (st_nil Edu.K none)) (fun _ _ => ?_)
    exact WP.retL (fun _ _ h => h) rfl nilV trivial (.cons (res_tmp rfl) .nil) rfl (st_sel (L := [own Edu.K nilV.1 []]) (F := F) [0] 0 rfl rfl rfl)
  refine WP.skip ?_
  refine WP.seq ?_
  refine WP.reg [(0, true), (1, false), (2, true), (3, false)] (by kernel_rfl) ?_
  refine Dv.lit0 Edu.K rfl trivial Try.underlying22 Try.underlying32 c32 z32 nofun (fun v1 => ?_)
  refine Dv.mv rfl trivial rfl ?_
  refine Dv.appx (Kd := Edu.K) (xs := []) (v := v1.1) (jj := 0) (ys := a0) (fun v2 : OV => [own Edu.K v2.1 a0] ++ F) rfl trivial rfl rfl rfl src_sl Try.underlying22 (.inr ⟨_, Try.underlying22⟩) inf32 rfl (by decide) (by simpa using h0) rfl nofun (fun v2 => ?_)
  refine Dv.asg rfl trivial rfl ?_
  refine .fin ?_
  exact WP.retL (fun _ _ h => h) rfl v2 trivial (.cons (res_tmp rfl) .nil) rfl (st_sel (L := [own Edu.K v2.1 a0]) (F := F) [0] 0 rfl rfl rfl)
theorem typing_Table_All.c {a0 : TTab} {v0_0 v0_1 : OV} {b0_ : Nat} {r : (List Edu)} (h : typing_Table_All.f a0 = some r) : Tr Try.prog 21 [eq (.pointer (some ⟨b0_, 0, none⟩))] [blk b0_ 59 [eq v0_0.1, eq v0_1.1], own Edu.K v0_0.1 a0.fl] (γ := OV) (fun _ => True) (fun g => eq g.1) (fun g => [blk b0_ 59 [eq v0_0.1, eq v0_1.1], own Edu.K v0_0.1 a0.fl, own Edu.K g.1 r]) := by
  unfold typing_Table_All.f at h
  refine Tr.body Try.func21 (c := _) rfl Try.ntmps21 (Nat.le_of_ble_eq_true rfl) fun R0 F => ?_
  replace h := Gets.of h
  have H := h
  clear h
  refine WP.seq ?_
  refine WP.reg [(0, false)] (by kernel_rfl) ?_
  refine Dv.asg rfl trivial rfl ?_
  refine .fin ?_
  refine WP.seq ?_
  refine WP.reg [(0, false), (1, false), (2, false), (3, false), (4, true), (5, false)] (by kernel_rfl) ?_
  refine Dv.mv rfl trivial rfl ?_
  refine Dv.nilp rfl trivial rfl ?_
  refine Dv.fab rfl trivial rfl Try.underlying59 rfl Try.underlying22 c22 (by decide) ?_
  refine Dv.ldb rfl trivial rfl Try.underlying22 rfl (mem_at 0 rfl) rfl ?_
  obtain ⟨t1013, h1014, H⟩ := Gets.call H
  refine Dv.callx (pre := [own Edu.K v0_0.1 a0.fl]) (F := [blk b0_ 59 [eq v0_0.1, eq v0_1.1]] ++ F) (fun g1015 : OV => [own Edu.K v0_0.1 a0.fl, own Edu.K g1015.1 t1013, blk b0_ 59 [eq v0_0.1, eq v0_1.1]] ++ F) rfl trivial cal36 rfl (Tr.lend [own Edu.K v0_0.1 a0.fl] (slices_Clone.c h1014) (.cons (lt_own (mem_at 0 rfl)) .nil) (fun _ => flat_eq) (fun _ => (flatAs_cons (flatA_own (fun _ => (flats_cons flat_eq (flats_cons flat_eq (flats_cons flat_eq (flats_cons flat_eq (flats_cons flat_eq (flats_cons flat_eq (flats_cons flat_eq (flats_cons flat_eq (flats_cons flat_eq (flats_cons flat_eq (flats_cons flat_eq flats_nil))))))))))))) flatAs_nil))) (perm_to (L := [blk b0_ 59 [eq v0_0.1, eq v0_1.1], own Edu.K v0_0.1 a0.fl]) (F := F) [1, 0] rfl rfl rfl) rfl nofun (fun g1015 _ => ?_)
  refine Dv.asg rfl trivial rfl ?_
  refine .fin ?_
  obtain rfl := Gets.out H
  exact WP.retL (fun _ _ h => h) rfl g1015 trivial (.cons (res_tmp rfl) .nil) rfl (st_sel (L := [own Edu.K v0_0.1 a0.fl, own Edu.K g1015.1 t1013, blk b0_ 59 [eq v0_0.1, eq v0_1.1]]) (F := F) [2, 0, 1] 0 rfl rfl rfl)
theorem concourseref04_SameEdus.c {k : Nat} {a0 : List Edu} {a1 : List Edu} {r : Bool} (h : concourseref04_SameEdus.f k a0 a1 = some r) : Pt Try.prog 22 [sl Edu.K a0, sl Edu.K a1] (eq (.bool r)) := by
  unfold concourseref04_SameEdus.f at h
  refine (Tr.body Try.func22 (c := _) rfl Try.ntmps22 (Nat.le_of_ble_eq_true rfl) fun R0 F => ?_).pt
  replace h := Gets.of h
  have H := h
  clear h
  refine WP.seq ?_
  refine WP.reg [(0, false)] (by kernel_rfl) ?_
  refine Dv.asg rfl trivial rfl ?_
  refine .fin ?_
  refine WP.seq ?_
  refine WP.seq ?_
  refine WP.reg [(0, false), (1, false), (2, false), (3, false), (4, false)] (by kernel_rfl) ?_
  refine Dv.mv rfl trivial rfl ?_
  refine Dv.lenl rfl trivial rfl Try.underlying22 ?_
  refine Dv.mv rfl trivial rfl ?_
  refine Dv.lenl rfl trivial rfl Try.underlying22 ?_
  refine Dv.bin rfl trivial rfl rfl (fun _ => run_ne) ?_
  refine .fin ?_
  refine WP.cond rfl (fun c1099 => ?_) (fun c1099 => ?_)
  · replace H := Gets.ct H c1099
    refine WP.seq ?_
    refine WP.reg [(0, false)] (by kernel_rfl) ?_
    refine Dv.asg rfl trivial rfl ?_
    refine .fin ?_
    obtain rfl := Gets.out H
    exact WP.retL (fun _ _ h => h) rfl () trivial (.cons (res_tmp rfl) .nil) rfl (st_sel (L := []) (F := F) [] 0 rfl rfl rfl)
  · replace H := Gets.cf H c1099
    refine WP.skip ?_
    refine WP.seqr H id (fun p1100 : Int × Bool => [(0, sl Edu.K a0), (1, sl Edu.K a1), (4, eq (.bool false)), (5, eq (.int .i64 p1100.1)), (10, eq (.bool ((a0.length : Int) != (a1.length : Int)))), (14, eq (.bool p1100.2))]) (fun p1100 : Int × Bool => [] ++ F) (fun p1100 H => ?_) (fun H => ?_)
    · refine WP.seq ?_
      refine WP.reg [(0, false)] (by kernel_rfl) ?_
      refine Dv.asg rfl trivial rfl ?_
      refine .fin ?_
      obtain rfl := Gets.out H
      exact WP.retL (fun _ _ h => h) rfl () trivial (.cons (res_tmp rfl) .nil) rfl (st_sel (L := []) (F := F) [] 0 rfl rfl rfl)
    · refine WP.seq ?_
      refine WP.reg [(0, false)] (by kernel_rfl) ?_
      refine Dv.asg rfl trivial rfl ?_
      refine .fin ?_
      refine WP.block ?_
      refine WP.gh (l' := fun _ => [] ++ F) (gh_of (st_selg (L := []) (F := F) [] 0 rfl rfl rfl)) (fun _ _ => ?_)
      refine WP.loopg (fun j_ (p1107 : Int) => concourseref04_SameEdus.l0 k a0 a1 j_ p1107) 0 H (fun p1107 => [(0, sl Edu.K a0), (1, sl Edu.K a1), (4, eq (.bool false)), (5, eq (.int .i64 p1107)), (10, eq (.bool ((a0.length : Int) != (a1.length : Int))))]) (fun p1107 => [] ++ F) (weak_cons rfl (weak_cons rfl (weak_cons rfl (weak_cons rfl (weak_cons rfl weak_nil))))) (List.Perm.refl _) ?_
      rintro j_ x1101 H
      rcases j_ with _ | j1106
      · exact (Gets.no H).elim
      replace H : Gets (concourseref04_SameEdus.l0 k a0 a1 (j1106 + 1) x1101) _ := H
      rw [concourseref04_SameEdus.l0] at H
      refine WP.seq ?_
      refine WP.seq ?_
      refine WP.reg [(0, false), (1, false), (2, false), (3, false)] (by kernel_rfl) ?_
      refine Dv.mv rfl trivial rfl ?_
      refine Dv.mv rfl trivial rfl ?_
      refine Dv.lenl rfl trivial rfl Try.underlying22 ?_
      refine Dv.bin rfl trivial rfl rfl (fun _ => run_lt) ?_
      refine .fin ?_
      refine WP.cond rfl (fun c1102 => ?_) (fun c1102 => ?_)
      · replace H := Gets.ct H c1102
        refine WP.skip ?_
        refine WP.seq ?_
        refine WP.block ?_
        refine WP.seq ?_
        refine WP.dreg Try.checked.mixed [(0, false), (1, false), (2, false), (3, false), (4, false), (5, false), (6, false), (7, false), (8, false)] (by kernel_rfl) ?_
        refine Dv.mv rfl trivial rfl ?_
        refine Dv.mv rfl trivial rfl ?_
        obtain ⟨g1103, H⟩ := Gets.grd H
        refine Dv.ixr rfl trivial rfl rfl Try.underlying22 Try.underlying32 c32 g1103.1 g1103.2 ?_
        refine Dv.ldrs rfl trivial rfl Try.underlying32 rfl c32 (Nat.le_of_ble_eq_true rfl) ?_
        refine Dv.mv rfl trivial rfl ?_
        refine Dv.mv rfl trivial rfl ?_
        obtain ⟨g1104, H⟩ := Gets.grd H
        refine Dv.ixr rfl trivial rfl rfl Try.underlying22 Try.underlying32 c32 g1104.1 g1104.2 ?_
        refine Dv.ldrs rfl trivial rfl Try.underlying32 rfl c32 (Nat.le_of_ble_eq_true rfl) ?_
        refine Dv.nes [.int .i64 ((Edu.K.at a0 x1101).fKind), .string ((Edu.K.at a0 x1101).fRoom), .string ((Edu.K.at a0 x1101).fUser), .string ((Edu.K.at a0 x1101).fEvent), .string ((Edu.K.at a0 x1101).fThread), .bool ((Edu.K.at a0 x1101).fPrivate), .bool ((Edu.K.at a0 x1101).fOn), .int .i64 ((Edu.K.at a0 x1101).fSpan), .int .i64 ((Edu.K.at a0 x1101).fState), .int .i64 ((Edu.K.at a0 x1101).fTick), .int .i64 ((Edu.K.at a0 x1101).fStamp)] [.int .i64 ((Edu.K.at a1 x1101).fKind), .string ((Edu.K.at a1 x1101).fRoom), .string ((Edu.K.at a1 x1101).fUser), .string ((Edu.K.at a1 x1101).fEvent), .string ((Edu.K.at a1 x1101).fThread), .bool ((Edu.K.at a1 x1101).fPrivate), .bool ((Edu.K.at a1 x1101).fOn), .int .i64 ((Edu.K.at a1 x1101).fSpan), .int .i64 ((Edu.K.at a1 x1101).fState), .int .i64 ((Edu.K.at a1 x1101).fTick), .int .i64 ((Edu.K.at a1 x1101).fStamp)] rfl trivial rfl rfl rfl rfl eg32 (fun _ => equal_of 2 (by decide) (fun _ => eqt32 (Edu.K.at a0 x1101) (Edu.K.at a1 x1101))) ?_
        refine .fin ?_
        refine WP.cond rfl (fun c1105 => ?_) (fun c1105 => ?_)
        · replace H := Gets.ct H c1105
          refine WP.seq ?_
          refine WP.reg [(0, false)] (by kernel_rfl) ?_
          refine Dv.asg rfl trivial rfl ?_
          refine .fin ?_
          replace H := Gets.outr H
          obtain rfl := Gets.out H
          exact WP.retL (fun _ _ h => h) rfl () trivial (.cons (res_tmp rfl) .nil) rfl (st_sel (L := []) (F := F) [] 0 rfl rfl rfl)
        · replace H := Gets.cf H c1105
          refine WP.skip ?_
          refine WP.reg [(0, false), (1, false), (2, false)] (by kernel_rfl) ?_
          refine Dv.mv rfl trivial rfl ?_
          refine Dv.bin rfl trivial rfl rfl (fun _ => run_add) ?_
          refine Dv.asg rfl trivial rfl ?_
          refine .fin ?_
          exact Back.mk j1106 (w64 (x1101 + 1)) (Nat.lt_succ_self _) H (weak_cons rfl (weak_cons rfl (weak_cons rfl (weak_cons rfl (weak_cons rfl weak_nil))))) (List.Perm.refl _)
      · replace H := Gets.cf H c1102
        refine WP.exit ?_
        replace H := Gets.out H
        exact Jn.mk (x1101, decide (x1101 < (a0.length : Int))) H (weak_cons rfl (weak_cons rfl (weak_cons rfl (weak_cons rfl (weak_cons rfl (weak_cons rfl weak_nil)))))) (List.Perm.refl _)
end Go.Proofs.Ytmbodanckhidiaa
