/- The walks. -/
import Derived.Test.YtigmkniiojpdiaaZMir
import Derived.Test.YtigmkniiojpdiaaConY
import Derived.Eval
set_option linter.all false
set_option maxRecDepth 10000
set_option maxHeartbeats 20000000
namespace Go.Proofs.Ytigmkniiojpdiaa
open Go Go.Sp
theorem concourseref01_Around.c {a0 : Int} {a1 : Int} {r : Int} (h : concourseref01_Around.f a0 a1 = some r) : Pt Try.prog 16 [eq (.int .i64 a0), eq (.int .i64 a1)] (eq (.int .i64 r)) := by
  unfold concourseref01_Around.f at h
  refine (Tr.body Try.func16 (c := _) rfl Try.ntmps16 (Nat.le_of_ble_eq_true rfl) fun R0 F => ?_).pt
  replace h := Gets.of h
  have H := h
  clear h
  refine WP.seq ?_
  refine WP.reg [(0, false)] (by kernel_rfl) ?_
  refine Dv.asg rfl trivial rfl ?_
  refine .fin ?_
  refine WP.seq ?_
  refine WP.seq ?_
  refine WP.reg [(0, false), (1, false)] (by kernel_rfl) ?_
  refine Dv.mv rfl trivial rfl ?_
  refine Dv.bin rfl trivial rfl rfl (fun _ => run_lt) ?_
  refine .fin ?_
  refine WP.cond rfl (fun c1 => ?_) (fun c1 => ?_)
  · replace H := Gets.ct H c1
    refine WP.reg [(0, false), (1, false), (2, false), (3, false)] (by kernel_rfl) ?_
    refine Dv.mv rfl trivial rfl ?_
    refine Dv.bin rfl trivial rfl rfl (fun _ => run_add) ?_
    refine Dv.un rfl trivial rfl (fun _ => run_neg _ _) ?_
    refine Dv.asg rfl trivial rfl ?_
    refine .fin ?_
    refine WP.seq ?_
    refine WP.reg [(0, false), (1, false), (2, false), (3, false)] (by kernel_rfl) ?_
    refine Dv.mv rfl trivial rfl ?_
    refine Dv.mv rfl trivial rfl ?_
    obtain ⟨g2, H⟩ := Gets.grd H
    refine Dv.bin rfl trivial rfl rfl (fun _ => run_rem g2) ?_
    refine Dv.asg rfl trivial rfl ?_
    refine .fin ?_
    obtain rfl := Gets.out H
    exact WP.retL (fun _ _ h => h) rfl () trivial (.cons (res_tmp rfl) .nil) rfl (st_sel (L := []) (F := F) [] 0 rfl rfl rfl)
  · replace H := Gets.cf H c1
    refine WP.skip ?_
    refine WP.seq ?_
    refine WP.reg [(0, false), (1, false), (2, false), (3, false)] (by kernel_rfl) ?_
    refine Dv.mv rfl trivial rfl ?_
    refine Dv.mv rfl trivial rfl ?_
    obtain ⟨g3, H⟩ := Gets.grd H
    refine Dv.bin rfl trivial rfl rfl (fun _ => run_rem g3) ?_
    refine Dv.asg rfl trivial rfl ?_
    refine .fin ?_
    obtain rfl := Gets.out H
    exact WP.retL (fun _ _ h => h) rfl () trivial (.cons (res_tmp rfl) .nil) rfl (st_sel (L := []) (F := F) [] 0 rfl rfl rfl)
theorem concourseref01_RoomOf.c {a0 : Int} {r : ByteArray} (h : concourseref01_RoomOf.f a0 = some r) : Pt Try.prog 6 [eq (.int .i64 a0)] (eq (.string r)) := by
  unfold concourseref01_RoomOf.f at h
  refine (Tr.body Try.func6 (c := _) rfl Try.ntmps6 (Nat.le_of_ble_eq_true rfl) fun R0 F => ?_).pt
  replace h := Gets.of h
  have H := h
  clear h
  refine WP.seq ?_
  refine WP.reg [(0, false)] (by kernel_rfl) ?_
  refine Dv.asg rfl trivial rfl ?_
  refine .fin ?_
  refine WP.seq ?_
  refine WP.reg [(0, false), (1, false), (2, false), (3, false), (4, false), (5, false)] (by kernel_rfl) ?_
  refine Dv.lit strK ([(⟨#[33, 114, 58, 115, 49]⟩ : ByteArray), (⟨#[33, 113, 58, 115, 50]⟩ : ByteArray)] : List ByteArray) (css := [[eq (.string (⟨#[33, 114, 58, 115, 49]⟩ : ByteArray))], [eq (.string (⟨#[33, 113, 58, 115, 50]⟩ : ByteArray))]]) rfl trivial Try.underlying40 Try.underlying9 c9 z9 rfl (by decide) (by decide) rfl ⟨(cells_one (one_eq rfl)), ⟨(cells_one (one_eq rfl)), trivial⟩⟩ rfl rfl rfl ?_
  refine Dv.mv rfl trivial rfl ?_
  obtain ⟨t4, h5, H⟩ := Gets.call H
  refine Dv.call rfl trivial cal16 rfl (concourseref01_Around.c h5) ?_
  obtain ⟨g6, H⟩ := Gets.grd H
  refine Dv.ixr rfl trivial rfl rfl Try.underlying40 Try.underlying9 c9 g6.1 g6.2 ?_
  refine Dv.ldr rfl trivial rfl Try.underlying9 rfl rfl ?_
  refine Dv.asg rfl trivial rfl ?_
  refine .fin ?_
  obtain rfl := Gets.out H
  exact WP.retL (fun _ _ h => h) rfl () trivial (.cons (res_tmp rfl) .nil) rfl (st_sel (L := []) (F := F) [] 0 rfl rfl rfl)
theorem concourseref01_Decimal.c : ∀ (k : Nat) {a0 : Int} {r : ByteArray} (h : concourseref01_Decimal.f k a0 = some r), Pt Try.prog 17 [eq (.int .i64 a0)] (eq (.string r))
  | 0, _, _, h => by cases h
  | k + 1, a0, r, h => by
    rw [concourseref01_Decimal.f] at h
    refine (Tr.body Try.func17 (c := _) rfl Try.ntmps17 (Nat.le_of_ble_eq_true rfl) fun R0 F => ?_).pt
    replace h := Gets.of h
    have H := h
    clear h
    refine WP.seq ?_
    refine WP.reg [(0, false)] (by kernel_rfl) ?_
    refine Dv.asg rfl trivial rfl ?_
    refine .fin ?_
    refine WP.seq ?_
    refine WP.reg [(0, false), (1, false), (2, false)] (by kernel_rfl) ?_
    refine Dv.mv rfl trivial rfl ?_
    refine Dv.bin rfl trivial rfl rfl (fun _ => run_rem (by decide)) ?_
    refine Dv.asg rfl trivial rfl ?_
    refine .fin ?_
    refine WP.seqn H id (fun p7 : Int => [(0, eq (.int .i64 a0)), (2, eq (.string (⟨#[]⟩ : ByteArray))), (3, eq (.int .i64 p7)), (8, eq (.bool (decide ((a0.tmod 10) < 0))))]) (fun p7 : Int => [] ++ F) (fun p7 H => ?_) (fun H => ?_)
    · refine WP.seq ?_
      refine WP.reg [(0, false), (1, false), (2, false), (3, false), (4, false), (5, false)] (by kernel_rfl) ?_
      refine Dv.mv rfl trivial rfl ?_
      refine Dv.bin rfl trivial rfl rfl (fun _ => run_add) ?_
      refine Dv.cvi rfl trivial rfl Try.underlying3 Try.underlying5 ?_
      refine Dv.lit (intK .u8) ([IntKind.u8.wrap (w64 (48 + p7))] : List Int) (css := [[eq (.int .u8 (IntKind.u8.wrap (w64 (48 + p7))))]]) rfl trivial Try.underlying59 Try.underlying5 c5 z5 rfl (by decide) (by decide) rfl ⟨(cells_one (one_eq rfl)), trivial⟩ rfl rfl rfl ?_
      refine Dv.cvbs rfl trivial rfl Try.underlying59 Try.underlying5 Try.underlying9 ?_
      refine Dv.asg rfl trivial rfl ?_
      refine .fin ?_
      refine WP.seq ?_
      refine WP.seq ?_
      refine WP.reg [(0, false), (1, false), (2, false), (3, false), (4, false), (5, false)] (by kernel_rfl) ?_
      refine Dv.mv rfl trivial rfl ?_
      refine Dv.bin rfl trivial rfl rfl (fun _ => run_gt) ?_
      refine Dv.mv rfl trivial rfl ?_
      cases c8 : decide ((-10) < a0)
      · replace H := Gets.cf H c8
        refine Dv.skip rfl ⟨_, _, rfl, rfl, .inl rfl⟩ ?_
        refine Dv.skip rfl ⟨_, _, rfl, rfl, .inl rfl⟩ ?_
        refine Dv.pickF rfl trivial rfl rfl ?_
        refine .fin ?_
        refine WP.cond rfl nofun (fun _ => ?_)
        refine WP.skip ?_
        refine WP.seq ?_
        refine WP.reg [(0, false), (1, false), (2, false), (3, false), (4, false), (5, false)] (by kernel_rfl) ?_
        refine Dv.mv rfl trivial rfl ?_
        refine Dv.bin rfl trivial rfl rfl (fun _ => run_quo (by decide)) ?_
        obtain ⟨t16, h17, H⟩ := Gets.call H
        refine Dv.call rfl trivial cal17 rfl (concourseref01_Decimal.c k h17) ?_
        refine Dv.mv rfl trivial rfl ?_
        obtain ⟨g18, H⟩ := Gets.grd H
        refine Dv.bin rfl trivial rfl rfl (fun _ => run_cat g18) ?_
        refine Dv.asg rfl trivial rfl ?_
        refine .fin ?_
        obtain rfl := Gets.out H
        exact WP.retL (fun _ _ h => h) rfl () trivial (.cons (res_tmp rfl) .nil) rfl (st_sel (L := []) (F := F) [] 0 rfl rfl rfl)
      · replace H := Gets.ct H c8
        refine Dv.mv rfl ⟨_, _, rfl, rfl, rfl⟩ rfl ?_
        refine Dv.bin rfl ⟨_, _, rfl, rfl, rfl⟩ rfl rfl (fun _ => run_lt) ?_
        refine Dv.pickT rfl trivial rfl rfl ?_
        refine .fin ?_
        refine WP.cond rfl (fun c9 => ?_) (fun c9 => ?_)
        · replace H := Gets.ct H c9
          refine WP.seq ?_
          refine WP.seq ?_
          refine WP.reg [(0, false), (1, false)] (by kernel_rfl) ?_
          refine Dv.mv rfl trivial rfl ?_
          refine Dv.bin rfl trivial rfl rfl (fun _ => run_lt) ?_
          refine .fin ?_
          refine WP.cond rfl (fun c10 => ?_) (fun c10 => ?_)
          · replace H := Gets.ct H c10
            refine WP.seq ?_
            refine WP.reg [(0, false), (1, false), (2, false)] (by kernel_rfl) ?_
            refine Dv.mv rfl trivial rfl ?_
            obtain ⟨g11, H⟩ := Gets.grd H
            refine Dv.bin rfl trivial rfl rfl (fun _ => run_cat g11) ?_
            refine Dv.asg rfl trivial rfl ?_
            refine .fin ?_
            obtain rfl := Gets.out H
            exact WP.retL (fun _ _ h => h) rfl () trivial (.cons (res_tmp rfl) .nil) rfl (st_sel (L := []) (F := F) [] 0 rfl rfl rfl)
          · replace H := Gets.cf H c10
            refine WP.skip ?_
            refine WP.seq ?_
            refine WP.reg [(0, false), (1, false)] (by kernel_rfl) ?_
            refine Dv.mv rfl trivial rfl ?_
            refine Dv.asg rfl trivial rfl ?_
            refine .fin ?_
            obtain rfl := Gets.out H
            exact WP.retL (fun _ _ h => h) rfl () trivial (.cons (res_tmp rfl) .nil) rfl (st_sel (L := []) (F := F) [] 0 rfl rfl rfl)
        · replace H := Gets.cf H c9
          refine WP.skip ?_
          refine WP.seq ?_
          refine WP.reg [(0, false), (1, false), (2, false), (3, false), (4, false), (5, false)] (by kernel_rfl) ?_
          refine Dv.mv rfl trivial rfl ?_
          refine Dv.bin rfl trivial rfl rfl (fun _ => run_quo (by decide)) ?_
          obtain ⟨t12, h13, H⟩ := Gets.call H
          refine Dv.call rfl trivial cal17 rfl (concourseref01_Decimal.c k h13) ?_
          refine Dv.mv rfl trivial rfl ?_
          obtain ⟨g14, H⟩ := Gets.grd H
          refine Dv.bin rfl trivial rfl rfl (fun _ => run_cat g14) ?_
          refine Dv.asg rfl trivial rfl ?_
          refine .fin ?_
          obtain rfl := Gets.out H
          exact WP.retL (fun _ _ h => h) rfl () trivial (.cons (res_tmp rfl) .nil) rfl (st_sel (L := []) (F := F) [] 0 rfl rfl rfl)
    · refine WP.seq ?_
      refine WP.reg [(0, false), (1, false)] (by kernel_rfl) ?_
      refine Dv.mv rfl trivial rfl ?_
      refine Dv.bin rfl trivial rfl rfl (fun _ => run_lt) ?_
      refine .fin ?_
      refine WP.cond rfl (fun c19 => ?_) (fun c19 => ?_)
      · replace H := Gets.ct H c19
        refine WP.reg [(0, false), (1, false), (2, false)] (by kernel_rfl) ?_
        refine Dv.mv rfl trivial rfl ?_
        refine Dv.un rfl trivial rfl (fun _ => run_neg _ _) ?_
        refine Dv.asg rfl trivial rfl ?_
        refine .fin ?_
        replace H := Gets.out H
        exact Jn.mk (w64 (0 - (a0.tmod 10))) H (weak_cons rfl (weak_cons rfl (weak_cons rfl (weak_cons rfl weak_nil)))) (List.Perm.refl _)
      · replace H := Gets.cf H c19
        refine WP.skip ?_
        replace H := Gets.out H
        exact Jn.mk (a0.tmod 10) H (weak_cons rfl (weak_cons rfl (weak_cons rfl (weak_cons rfl weak_nil)))) (List.Perm.refl _)
theorem concourseref01_EventOf.c {k : Nat} {a0 : Int} {r : ByteArray} (h : concourseref01_EventOf.f k a0 = some r) : Pt Try.prog 7 [eq (.int .i64 a0)] (eq (.string r)) := by
  unfold concourseref01_EventOf.f at h
  refine (Tr.body Try.func7 (c := _) rfl Try.ntmps7 (Nat.le_of_ble_eq_true rfl) fun R0 F => ?_).pt
  replace h := Gets.of h
  have H := h
  clear h
  refine WP.seq ?_
  refine WP.reg [(0, false)] (by kernel_rfl) ?_
  refine Dv.asg rfl trivial rfl ?_
  refine .fin ?_
  refine WP.seq ?_
  refine WP.reg [(0, false), (1, false), (2, false), (3, false), (4, false)] (by kernel_rfl) ?_
  refine Dv.mv rfl trivial rfl ?_
  obtain ⟨t20, h21, H⟩ := Gets.call H
  refine Dv.call rfl trivial cal16 rfl (concourseref01_Around.c h21) ?_
  obtain ⟨t22, h23, H⟩ := Gets.call H
  refine Dv.call rfl trivial cal17 rfl (concourseref01_Decimal.c _ h23) ?_
  obtain ⟨g24, H⟩ := Gets.grd H
  refine Dv.bin rfl trivial rfl rfl (fun _ => run_cat g24) ?_
  refine Dv.asg rfl trivial rfl ?_
  refine .fin ?_
  obtain rfl := Gets.out H
  exact WP.retL (fun _ _ h => h) rfl () trivial (.cons (res_tmp rfl) .nil) rfl (st_sel (L := []) (F := F) [] 0 rfl rfl rfl)
theorem concourseref01_ServerOf.c {a0 : Int} {r : ByteArray} (h : concourseref01_ServerOf.f a0 = some r) : Pt Try.prog 34 [eq (.int .i64 a0)] (eq (.string r)) := by
  unfold concourseref01_ServerOf.f at h
  refine (Tr.body Try.func34 (c := _) rfl Try.ntmps34 (Nat.le_of_ble_eq_true rfl) fun R0 F => ?_).pt
  replace h := Gets.of h
  have H := h
  clear h
  refine WP.seq ?_
  refine WP.reg [(0, false)] (by kernel_rfl) ?_
  refine Dv.asg rfl trivial rfl ?_
  refine .fin ?_
  refine WP.seq ?_
  refine WP.reg [(0, false), (1, false), (2, false), (3, false), (4, false), (5, false)] (by kernel_rfl) ?_
  refine Dv.lit strK ([(⟨#[115, 49]⟩ : ByteArray), (⟨#[115, 50]⟩ : ByteArray), (⟨#[115, 51]⟩ : ByteArray)] : List ByteArray) (css := [[eq (.string (⟨#[115, 49]⟩ : ByteArray))], [eq (.string (⟨#[115, 50]⟩ : ByteArray))], [eq (.string (⟨#[115, 51]⟩ : ByteArray))]]) rfl trivial Try.underlying40 Try.underlying9 c9 z9 rfl (by decide) (by decide) rfl ⟨(cells_one (one_eq rfl)), ⟨(cells_one (one_eq rfl)), ⟨(cells_one (one_eq rfl)), trivial⟩⟩⟩ rfl rfl rfl ?_
  refine Dv.mv rfl trivial rfl ?_
  obtain ⟨t25, h26, H⟩ := Gets.call H
  refine Dv.call rfl trivial cal16 rfl (concourseref01_Around.c h26) ?_
  obtain ⟨g27, H⟩ := Gets.grd H
  refine Dv.ixr rfl trivial rfl rfl Try.underlying40 Try.underlying9 c9 g27.1 g27.2 ?_
  refine Dv.ldr rfl trivial rfl Try.underlying9 rfl rfl ?_
  refine Dv.asg rfl trivial rfl ?_
  refine .fin ?_
  obtain rfl := Gets.out H
  exact WP.retL (fun _ _ h => h) rfl () trivial (.cons (res_tmp rfl) .nil) rfl (st_sel (L := []) (F := F) [] 0 rfl rfl rfl)
theorem concourseref01_UserOf.c {a0 : Int} {r : ByteArray} (h : concourseref01_UserOf.f a0 = some r) : Pt Try.prog 28 [eq (.int .i64 a0)] (eq (.string r)) := by
  unfold concourseref01_UserOf.f at h
  refine (Tr.body Try.func28 (c := _) rfl Try.ntmps28 (Nat.le_of_ble_eq_true rfl) fun R0 F => ?_).pt
  replace h := Gets.of h
  have H := h
  clear h
  refine WP.seq ?_
  refine WP.reg [(0, false)] (by kernel_rfl) ?_
  refine Dv.asg rfl trivial rfl ?_
  refine .fin ?_
  refine WP.seq ?_
  refine WP.reg [(0, false), (1, false), (2, false)] (by kernel_rfl) ?_
  refine Dv.mv rfl trivial rfl ?_
  obtain ⟨t28, h29, H⟩ := Gets.call H
  refine Dv.call rfl trivial cal16 rfl (concourseref01_Around.c h29) ?_
  refine Dv.asg rfl trivial rfl ?_
  refine .fin ?_
  refine WP.seq ?_
  refine WP.dreg Try.checked.mixed [(0, false), (1, false), (2, false), (3, false), (4, false), (5, false), (6, false), (7, false), (8, false), (9, false)] (by kernel_rfl) ?_
  refine Dv.lit strK ([(⟨#[64, 97, 58]⟩ : ByteArray), (⟨#[64, 98, 58]⟩ : ByteArray), (⟨#[64, 99, 58]⟩ : ByteArray)] : List ByteArray) (css := [[eq (.string (⟨#[64, 97, 58]⟩ : ByteArray))], [eq (.string (⟨#[64, 98, 58]⟩ : ByteArray))], [eq (.string (⟨#[64, 99, 58]⟩ : ByteArray))]]) rfl trivial Try.underlying40 Try.underlying9 c9 z9 rfl (by decide) (by decide) rfl ⟨(cells_one (one_eq rfl)), ⟨(cells_one (one_eq rfl)), ⟨(cells_one (one_eq rfl)), trivial⟩⟩⟩ rfl rfl rfl ?_
  refine Dv.mv rfl trivial rfl ?_
  refine Dv.bin rfl trivial rfl rfl (fun _ => run_quo (by decide)) ?_
  obtain ⟨g30, H⟩ := Gets.grd H
  refine Dv.ixr rfl trivial rfl rfl Try.underlying40 Try.underlying9 c9 g30.1 g30.2 ?_
  refine Dv.ldr rfl trivial rfl Try.underlying9 rfl rfl ?_
  refine Dv.mv rfl trivial rfl ?_
  refine Dv.bin rfl trivial rfl rfl (fun _ => run_rem (by decide)) ?_
  obtain ⟨t31, h32, H⟩ := Gets.call H
  refine Dv.call rfl trivial cal34 rfl (concourseref01_ServerOf.c h32) ?_
  obtain ⟨g33, H⟩ := Gets.grd H
  refine Dv.bin rfl trivial rfl rfl (fun _ => run_cat g33) ?_
  refine Dv.asg rfl trivial rfl ?_
  refine .fin ?_
  obtain rfl := Gets.out H
  exact WP.retL (fun _ _ h => h) rfl () trivial (.cons (res_tmp rfl) .nil) rfl (st_sel (L := []) (F := F) [] 0 rfl rfl rfl)
theorem concourseref07_At.c {k : Nat} {a0 : RDag} {a1 : ByteArray} {r : Int} (h : concourseref07_At.f k a0 a1 = some r) : Pt Try.prog 21 [agg (RDag.enc a0), eq (.string a1)] (eq (.int .i64 r)) := by
  unfold concourseref07_At.f at h
  refine (Tr.body Try.func21 (c := _) rfl Try.ntmps21 (Nat.le_of_ble_eq_true rfl) fun R0 F => ?_).pt
  replace h := Gets.of h
  have H := h
  clear h
  refine WP.seq ?_
  refine WP.reg [(0, true), (1, false)] (by kernel_rfl) ?_
  refine Dv.box rfl trivial rfl (cells_agg (RDag.K.one _)) nofun (fun b34 => ?_)
  refine Dv.asg rfl trivial rfl ?_
  refine .fin ?_
  refine WP.seqr H id (fun p35 : Int × Bool => [(0, agg (RDag.enc a0)), (1, eq (.string a1)), (2, eq (.pointer (some ⟨b34, 0, none⟩))), (4, eq (.int .i64 0)), (5, eq (.int .i64 p35.1)), (10, eq (.bool p35.2))]) (fun p35 : Int × Bool => [blk b34 50 [eq (.string a0.fRoom), sl Event.K a0.fL]] ++ F) (fun p35 H => ?_) (fun H => ?_)
  · refine WP.seq ?_
    refine WP.reg [(0, false)] (by kernel_rfl) ?_
    refine Dv.asg rfl trivial rfl ?_
    refine .fin ?_
    obtain rfl := Gets.out H
    exact WP.retL (fun _ _ h => h) rfl () trivial (.cons (res_tmp rfl) .nil) rfl (st_sel (L := [blk b34 50 [eq (.string a0.fRoom), sl Event.K a0.fL]]) (F := F) [0] 1 rfl rfl rfl)
  · refine WP.seq ?_
    refine WP.reg [(0, false)] (by kernel_rfl) ?_
    refine Dv.asg rfl trivial rfl ?_
    refine .fin ?_
    refine WP.block ?_
    refine WP.gh (l' := fun _ => [blk b34 50 [eq (.string a0.fRoom), sl Event.K a0.fL]] ++ F) (gh_of (st_selg (L := [blk b34 50 [eq (.string a0.fRoom), sl Event.K a0.fL]]) (F := F) [0] 0 rfl rfl rfl)) (fun _ _ => ?_)
    refine WP.loopg (fun j_ (p41 : Int) => concourseref07_At.l0 k a0 a1 j_ p41) 0 H (fun p41 => [(0, agg (RDag.enc a0)), (1, eq (.string a1)), (2, eq (.pointer (some ⟨b34, 0, none⟩))), (4, eq (.int .i64 0)), (5, eq (.int .i64 p41))]) (fun p41 => [blk b34 50 [eq (.string a0.fRoom), sl Event.K a0.fL]] ++ F) (weak_cons rfl (weak_cons rfl (weak_cons rfl (weak_cons rfl (weak_cons rfl weak_nil))))) (List.Perm.refl _) ?_
    rintro j_ x36 H
    rcases j_ with _ | j40
    · exact (Gets.no H).elim
    replace H : Gets (concourseref07_At.l0 k a0 a1 (j40 + 1) x36) _ := H
    rw [concourseref07_At.l0] at H
    refine WP.seq ?_
    refine WP.seq ?_
    refine WP.reg [(0, false), (1, false), (2, false), (3, false), (4, false)] (by kernel_rfl) ?_
    refine Dv.mv rfl trivial rfl ?_
    refine Dv.fab rfl trivial rfl Try.underlying50 rfl Try.underlying36 c36 (by decide) ?_
    refine Dv.ldb rfl trivial rfl Try.underlying36 rfl (mem_at 0 rfl) rfl ?_
    refine Dv.lenl rfl trivial rfl Try.underlying36 ?_
    refine Dv.bin rfl trivial rfl rfl (fun _ => run_lt) ?_
    refine .fin ?_
    refine WP.cond rfl (fun c37 => ?_) (fun c37 => ?_)
    · replace H := Gets.ct H c37
      refine WP.skip ?_
      refine WP.seq ?_
      refine WP.block ?_
      refine WP.seq ?_
      refine WP.reg [(0, false), (1, false), (2, false), (3, false), (4, false), (5, false), (6, false), (7, false)] (by kernel_rfl) ?_
      refine Dv.fab rfl trivial rfl Try.underlying50 rfl Try.underlying36 c36 (by decide) ?_
      refine Dv.ldb rfl trivial rfl Try.underlying36 rfl (mem_at 0 rfl) rfl ?_
      refine Dv.mv rfl trivial rfl ?_
      obtain ⟨g38, H⟩ := Gets.grd H
      refine Dv.ixr rfl trivial rfl rfl Try.underlying36 Try.underlying42 c42 g38.1 g38.2 ?_
      refine Dv.far rfl trivial rfl Try.underlying42 rfl Try.underlying9 c9 (by decide) (Nat.le_of_ble_eq_true rfl) ?_
      refine Dv.ldr rfl trivial rfl Try.underlying9 rfl rfl ?_
      refine Dv.mv rfl trivial rfl ?_
      refine Dv.bin rfl trivial rfl rfl (fun _ => run_seq) ?_
      refine .fin ?_
      refine WP.cond rfl (fun c39 => ?_) (fun c39 => ?_)
      · replace H := Gets.ct H c39
        refine WP.seq ?_
        refine WP.reg [(0, false), (1, false)] (by kernel_rfl) ?_
        refine Dv.mv rfl trivial rfl ?_
        refine Dv.asg rfl trivial rfl ?_
        refine .fin ?_
        replace H := Gets.outr H
        obtain rfl := Gets.out H
        exact WP.retL (fun _ _ h => h) rfl () trivial (.cons (res_tmp rfl) .nil) rfl (st_sel (L := [blk b34 50 [eq (.string a0.fRoom), sl Event.K a0.fL]]) (F := F) [0] 1 rfl rfl rfl)
      · replace H := Gets.cf H c39
        refine WP.skip ?_
        refine WP.reg [(0, false), (1, false), (2, false)] (by kernel_rfl) ?_
        refine Dv.mv rfl trivial rfl ?_
        refine Dv.bin rfl trivial rfl rfl (fun _ => run_add) ?_
        refine Dv.asg rfl trivial rfl ?_
        refine .fin ?_
        exact Back.mk j40 (w64 (x36 + 1)) (Nat.lt_succ_self _) H (weak_cons rfl (weak_cons rfl (weak_cons rfl (weak_cons rfl (weak_cons rfl weak_nil))))) (List.Perm.refl _)
    · replace H := Gets.cf H c37
      refine WP.exit ?_
      replace H := Gets.out H
      exact Jn.mk (x36, decide (x36 < (a0.fL.length : Int))) H (weak_cons rfl (weak_cons rfl (weak_cons rfl (weak_cons rfl (weak_cons rfl (weak_cons rfl weak_nil)))))) (List.Perm.refl _)
theorem concourseref01_low.c {a0 : Int} {r : Bool} (h : concourseref01_low.f a0 = some r) : Pt Try.prog 45 [eq (.int .u8 a0)] (eq (.bool r)) := by
  unfold concourseref01_low.f at h
  refine (Tr.body Try.func45 (c := _) rfl Try.ntmps45 (Nat.le_of_ble_eq_true rfl) fun R0 F => ?_).pt
  replace h := Gets.of h
  have H := h
  clear h
  refine WP.seq ?_
  refine WP.reg [(0, false)] (by kernel_rfl) ?_
  refine Dv.asg rfl trivial rfl ?_
  refine .fin ?_
  refine WP.seq ?_
  refine WP.reg [(0, false), (1, false), (2, false), (3, false), (4, false), (5, false), (6, false), (7, false), (8, false), (9, false), (10, false), (11, false), (12, false), (13, false), (14, false)] (by kernel_rfl) ?_
  refine Dv.mv rfl trivial rfl ?_
  refine Dv.bin rfl trivial rfl rfl (fun _ => run_ge) ?_
  refine Dv.mv rfl trivial rfl ?_
  cases c42 : decide (97 ≤ a0)
  · replace H := Gets.cf H c42
    refine Dv.skip rfl ⟨_, _, rfl, rfl, .inl rfl⟩ ?_
    refine Dv.skip rfl ⟨_, _, rfl, rfl, .inl rfl⟩ ?_
    refine Dv.pickF rfl trivial rfl rfl ?_
    refine Dv.mv rfl trivial rfl ?_
    refine Dv.mv rfl ⟨_, _, rfl, rfl, rfl⟩ rfl ?_
    refine Dv.bin rfl ⟨_, _, rfl, rfl, rfl⟩ rfl rfl (fun _ => run_ge) ?_
    refine Dv.mv rfl ⟨_, _, rfl, rfl, rfl⟩ rfl ?_
    cases c45 : decide (48 ≤ a0)
    · replace H := Gets.cf H c45
      refine Dv.skip rfl ⟨_, _, rfl, rfl, .inl rfl⟩ ?_
      refine Dv.skip rfl ⟨_, _, rfl, rfl, .inl rfl⟩ ?_
      refine Dv.pickF rfl ⟨_, _, rfl, rfl, rfl⟩ rfl rfl ?_
      refine Dv.pickF rfl trivial rfl rfl ?_
      refine Dv.asg rfl trivial rfl ?_
      refine .fin ?_
      obtain rfl := Gets.out H
      exact WP.retL (fun _ _ h => h) rfl () trivial (.cons (res_tmp rfl) .nil) rfl (st_sel (L := []) (F := F) [] 0 rfl rfl rfl)
    · replace H := Gets.ct H c45
      refine Dv.mv rfl ⟨_, _, rfl, rfl, rfl⟩ rfl ?_
      refine Dv.bin rfl ⟨_, _, rfl, rfl, rfl⟩ rfl rfl (fun _ => run_le) ?_
      refine Dv.pickT rfl ⟨_, _, rfl, rfl, rfl⟩ rfl rfl ?_
      refine Dv.pickF rfl trivial rfl rfl ?_
      refine Dv.asg rfl trivial rfl ?_
      refine .fin ?_
      obtain rfl := Gets.out H
      exact WP.retL (fun _ _ h => h) rfl () trivial (.cons (res_tmp rfl) .nil) rfl (st_sel (L := []) (F := F) [] 0 rfl rfl rfl)
  · replace H := Gets.ct H c42
    refine Dv.mv rfl ⟨_, _, rfl, rfl, rfl⟩ rfl ?_
    refine Dv.bin rfl ⟨_, _, rfl, rfl, rfl⟩ rfl rfl (fun _ => run_le) ?_
    refine Dv.pickT rfl trivial rfl rfl ?_
    refine Dv.mv rfl trivial rfl ?_
    cases c43 : decide (a0 ≤ 122)
    · replace H := Gets.cf H c43
      refine Dv.mv rfl ⟨_, _, rfl, rfl, rfl⟩ rfl ?_
      refine Dv.bin rfl ⟨_, _, rfl, rfl, rfl⟩ rfl rfl (fun _ => run_ge) ?_
      refine Dv.mv rfl ⟨_, _, rfl, rfl, rfl⟩ rfl ?_
      cases c44 : decide (48 ≤ a0)
      · replace H := Gets.cf H c44
        refine Dv.skip rfl ⟨_, _, rfl, rfl, .inl rfl⟩ ?_
        refine Dv.skip rfl ⟨_, _, rfl, rfl, .inl rfl⟩ ?_
        refine Dv.pickF rfl ⟨_, _, rfl, rfl, rfl⟩ rfl rfl ?_
        refine Dv.pickF rfl trivial rfl rfl ?_
        refine Dv.asg rfl trivial rfl ?_
        refine .fin ?_
        obtain rfl := Gets.out H
        exact WP.retL (fun _ _ h => h) rfl () trivial (.cons (res_tmp rfl) .nil) rfl (st_sel (L := []) (F := F) [] 0 rfl rfl rfl)
      · replace H := Gets.ct H c44
        refine Dv.mv rfl ⟨_, _, rfl, rfl, rfl⟩ rfl ?_
        refine Dv.bin rfl ⟨_, _, rfl, rfl, rfl⟩ rfl rfl (fun _ => run_le) ?_
        refine Dv.pickT rfl ⟨_, _, rfl, rfl, rfl⟩ rfl rfl ?_
        refine Dv.pickF rfl trivial rfl rfl ?_
        refine Dv.asg rfl trivial rfl ?_
        refine .fin ?_
        obtain rfl := Gets.out H
        exact WP.retL (fun _ _ h => h) rfl () trivial (.cons (res_tmp rfl) .nil) rfl (st_sel (L := []) (F := F) [] 0 rfl rfl rfl)
    · replace H := Gets.ct H c43
      refine Dv.skip rfl ⟨_, _, rfl, rfl, .inl rfl⟩ ?_
      refine Dv.skip rfl ⟨_, _, rfl, rfl, .inl rfl⟩ ?_
      refine Dv.skip rfl ⟨_, _, rfl, rfl, .inl rfl⟩ ?_
      refine Dv.skip rfl ⟨_, _, rfl, rfl, .inr rfl⟩ ?_
      refine Dv.skip rfl ⟨_, _, rfl, rfl, .inr rfl⟩ ?_
      refine Dv.skip rfl ⟨_, _, rfl, rfl, .inl rfl⟩ ?_
      refine Dv.pickT rfl trivial rfl rfl ?_
      refine Dv.asg rfl trivial rfl ?_
      refine .fin ?_
      obtain rfl := Gets.out H
      exact WP.retL (fun _ _ h => h) rfl () trivial (.cons (res_tmp rfl) .nil) rfl (st_sel (L := []) (F := F) [] 0 rfl rfl rfl)
theorem concourseref01_Event.c {k : Nat} {a0 : ByteArray} {r : Bool} (h : concourseref01_Event.f k a0 = some r) : Pt Try.prog 40 [eq (.string a0)] (eq (.bool r)) := by
  unfold concourseref01_Event.f at h
  refine (Tr.body Try.func40 (c := _) rfl Try.ntmps40 (Nat.le_of_ble_eq_true rfl) fun R0 F => ?_).pt
  replace h := Gets.of h
  have H := h
  clear h
  refine WP.seq ?_
  refine WP.reg [(0, false)] (by kernel_rfl) ?_
  refine Dv.asg rfl trivial rfl ?_
  refine .fin ?_
  refine WP.seq ?_
  refine WP.seq ?_
  refine WP.reg [(0, false), (1, false), (2, false), (3, false), (4, false), (5, false), (6, false), (7, false), (8, false), (9, false), (10, false), (11, false), (12, false)] (by kernel_rfl) ?_
  refine Dv.mv rfl trivial rfl ?_
  refine Dv.lens rfl trivial rfl Try.underlying9 ?_
  refine Dv.bin rfl trivial rfl rfl (fun _ => run_lt) ?_
  refine Dv.mv rfl trivial rfl ?_
  cases c46 : decide ((a0.size : Int) < 2)
  · replace H := Gets.cf H c46
    refine Dv.mv rfl ⟨_, _, rfl, rfl, rfl⟩ rfl ?_
    refine Dv.lens rfl ⟨_, _, rfl, rfl, rfl⟩ rfl Try.underlying9 ?_
    refine Dv.bin rfl ⟨_, _, rfl, rfl, rfl⟩ rfl rfl (fun _ => run_gt) ?_
    refine Dv.pickF rfl trivial rfl rfl ?_
    refine Dv.mv rfl trivial rfl ?_
    cases c48 : decide (17 < (a0.size : Int))
    · replace H := Gets.cf H c48
      refine Dv.mv rfl ⟨_, _, rfl, rfl, rfl⟩ rfl ?_
      obtain ⟨g50, H⟩ := Gets.grd H
      refine Dv.ixs rfl ⟨_, _, rfl, rfl, rfl⟩ rfl rfl Try.underlying9 g50.1 g50.2 ?_
      refine Dv.bin rfl ⟨_, _, rfl, rfl, rfl⟩ rfl rfl (fun _ => run_ne) ?_
      refine Dv.pickF rfl trivial rfl rfl ?_
      refine .fin ?_
      refine WP.cond rfl (fun c51 => ?_) (fun c51 => ?_)
      · replace H := Gets.ct H c51
        refine WP.seq ?_
        refine WP.reg [(0, false)] (by kernel_rfl) ?_
        refine Dv.asg rfl trivial rfl ?_
        refine .fin ?_
        obtain rfl := Gets.out H
        exact WP.retL (fun _ _ h => h) rfl () trivial (.cons (res_tmp rfl) .nil) rfl (st_sel (L := []) (F := F) [] 0 rfl rfl rfl)
      · replace H := Gets.cf H c51
        refine WP.skip ?_
        refine WP.seqr H id (fun p52 : Int × Bool => [(0, eq (.string a0)), (2, eq (.bool false)), (3, eq (.int .i64 p52.1)), (18, eq (.bool ((bt a0 0) != 36))), (22, eq (.bool p52.2))]) (fun p52 : Int × Bool => [] ++ F) (fun p52 H => ?_) (fun H => ?_)
        · refine WP.seq ?_
          refine WP.reg [(0, false)] (by kernel_rfl) ?_
          refine Dv.asg rfl trivial rfl ?_
          refine .fin ?_
          obtain rfl := Gets.out H
          exact WP.retL (fun _ _ h => h) rfl () trivial (.cons (res_tmp rfl) .nil) rfl (st_sel (L := []) (F := F) [] 0 rfl rfl rfl)
        · refine WP.seq ?_
          refine WP.reg [(0, false)] (by kernel_rfl) ?_
          refine Dv.asg rfl trivial rfl ?_
          refine .fin ?_
          refine WP.block ?_
          refine WP.gh (l' := fun _ => [] ++ F) (gh_of (st_selg (L := []) (F := F) [] 0 rfl rfl rfl)) (fun _ _ => ?_)
          refine WP.loopg (fun j_ (p78 : Int) => concourseref01_Event.l0 k a0 j_ p78) 1 H (fun p78 => [(0, eq (.string a0)), (2, eq (.bool false)), (3, eq (.int .i64 p78)), (18, eq (.bool ((bt a0 0) != 36)))]) (fun p78 => [] ++ F) (weak_cons rfl (weak_cons rfl (weak_cons rfl (weak_cons rfl weak_nil)))) (List.Perm.refl _) ?_
          rintro j_ x53 H
          rcases j_ with _ | j77
          · exact (Gets.no H).elim
          replace H : Gets (concourseref01_Event.l0 k a0 (j77 + 1) x53) _ := H
          rw [concourseref01_Event.l0] at H
          refine WP.seq ?_
          refine WP.seq ?_
          refine WP.reg [(0, false), (1, false), (2, false), (3, false)] (by kernel_rfl) ?_
          refine Dv.mv rfl trivial rfl ?_
          refine Dv.mv rfl trivial rfl ?_
          refine Dv.lens rfl trivial rfl Try.underlying9 ?_
          refine Dv.bin rfl trivial rfl rfl (fun _ => run_lt) ?_
          refine .fin ?_
          refine WP.cond rfl (fun c54 => ?_) (fun c54 => ?_)
          · replace H := Gets.ct H c54
            refine WP.skip ?_
            refine WP.seq ?_
            refine WP.block ?_
            refine WP.seq ?_
            refine WP.reg [(0, false), (1, false), (2, false), (3, false), (4, false)] (by kernel_rfl) ?_
            refine Dv.mv rfl trivial rfl ?_
            refine Dv.mv rfl trivial rfl ?_
            obtain ⟨g55, H⟩ := Gets.grd H
            refine Dv.ixs rfl trivial rfl rfl Try.underlying9 g55.1 g55.2 ?_
            obtain ⟨t56, h57, H⟩ := Gets.call H
            refine Dv.call rfl trivial cal45 rfl (concourseref01_low.c h57) ?_
            refine Dv.asg rfl trivial rfl ?_
            refine .fin ?_
            refine WP.seq ?_
            refine WP.reg [(0, false), (1, false), (2, false), (3, false), (4, false), (5, false), (6, false), (7, false), (8, false), (9, false), (10, false)] (by kernel_rfl) ?_
            refine Dv.mv rfl trivial rfl ?_
            refine Dv.mv rfl trivial rfl ?_
            obtain ⟨g58, H⟩ := Gets.grd H
            refine Dv.ixs rfl trivial rfl rfl Try.underlying9 g58.1 g58.2 ?_
            refine Dv.bin rfl trivial rfl rfl (fun _ => run_ge) ?_
            refine Dv.mv rfl trivial rfl ?_
            cases c59 : decide (65 ≤ (bt a0 x53))
            · replace H := Gets.cf H c59
              refine Dv.skip rfl ⟨_, _, rfl, rfl, .inl rfl⟩ ?_
              refine Dv.skip rfl ⟨_, _, rfl, rfl, .inl rfl⟩ ?_
              refine Dv.skip rfl ⟨_, _, rfl, rfl, .inl rfl⟩ ?_
              refine Dv.skip rfl ⟨_, _, rfl, rfl, .inl rfl⟩ ?_
              refine Dv.pickF rfl trivial rfl rfl ?_
              refine Dv.asg rfl trivial rfl ?_
              refine .fin ?_
              refine WP.seq ?_
              refine WP.reg [(0, false), (1, false), (2, false), (3, false), (4, false), (5, false), (6, false), (7, false), (8, false), (9, false), (10, false), (11, false), (12, false), (13, false), (14, false), (15, false), (16, false), (17, false)] (by kernel_rfl) ?_
              refine Dv.mv rfl trivial rfl ?_
              refine Dv.un rfl trivial rfl (fun _ => run_not _) ?_
              refine Dv.mv rfl trivial rfl ?_
              cases c70 : !t56
              · replace H := Gets.cf H c70
                refine Dv.skip rfl ⟨_, _, rfl, rfl, .inl rfl⟩ ?_
                refine Dv.skip rfl ⟨_, _, rfl, rfl, .inl rfl⟩ ?_
                refine Dv.pickF rfl trivial rfl rfl ?_
                refine Dv.mv rfl trivial rfl ?_
                refine Dv.skip rfl ⟨_, _, rfl, rfl, .inl rfl⟩ ?_
                refine Dv.skip rfl ⟨_, _, rfl, rfl, .inl rfl⟩ ?_
                refine Dv.skip rfl ⟨_, _, rfl, rfl, .inl rfl⟩ ?_
                refine Dv.skip rfl ⟨_, _, rfl, rfl, .inl rfl⟩ ?_
                refine Dv.pickF rfl trivial rfl rfl ?_
                refine Dv.mv rfl trivial rfl ?_
                refine Dv.skip rfl ⟨_, _, rfl, rfl, .inl rfl⟩ ?_
                refine Dv.skip rfl ⟨_, _, rfl, rfl, .inl rfl⟩ ?_
                refine Dv.skip rfl ⟨_, _, rfl, rfl, .inl rfl⟩ ?_
                refine Dv.skip rfl ⟨_, _, rfl, rfl, .inl rfl⟩ ?_
                refine Dv.pickF rfl trivial rfl rfl ?_
                refine .fin ?_
                refine WP.cond rfl nofun (fun _ => ?_)
                refine WP.skip ?_
                refine WP.reg [(0, false), (1, false), (2, false)] (by kernel_rfl) ?_
                refine Dv.mv rfl trivial rfl ?_
                refine Dv.bin rfl trivial rfl rfl (fun _ => run_add) ?_
                refine Dv.asg rfl trivial rfl ?_
                refine .fin ?_
                exact Back.mk j77 (w64 (x53 + 1)) (Nat.lt_succ_self _) H (weak_cons rfl (weak_cons rfl (weak_cons rfl (weak_cons rfl weak_nil)))) (List.Perm.refl _)
              · replace H := Gets.ct H c70
                refine Dv.mv rfl ⟨_, _, rfl, rfl, rfl⟩ rfl ?_
                refine Dv.un rfl ⟨_, _, rfl, rfl, rfl⟩ rfl (fun _ => run_not _) ?_
                refine Dv.pickT rfl trivial rfl rfl ?_
                refine Dv.mv rfl trivial rfl ?_
                refine Dv.mv rfl ⟨_, _, rfl, rfl, rfl⟩ rfl ?_
                refine Dv.mv rfl ⟨_, _, rfl, rfl, rfl⟩ rfl ?_
                obtain ⟨g71, H⟩ := Gets.grd H
                refine Dv.ixs rfl ⟨_, _, rfl, rfl, rfl⟩ rfl rfl Try.underlying9 g71.1 g71.2 ?_
                refine Dv.bin rfl ⟨_, _, rfl, rfl, rfl⟩ rfl rfl (fun _ => run_ne) ?_
                refine Dv.pickT rfl trivial rfl rfl ?_
                refine Dv.mv rfl trivial rfl ?_
                cases c72 : ((bt a0 x53) != 45)
                · replace H := Gets.cf H c72
                  refine Dv.skip rfl ⟨_, _, rfl, rfl, .inl rfl⟩ ?_
                  refine Dv.skip rfl ⟨_, _, rfl, rfl, .inl rfl⟩ ?_
                  refine Dv.skip rfl ⟨_, _, rfl, rfl, .inl rfl⟩ ?_
                  refine Dv.skip rfl ⟨_, _, rfl, rfl, .inl rfl⟩ ?_
                  refine Dv.pickF rfl trivial rfl rfl ?_
                  refine .fin ?_
                  refine WP.cond rfl nofun (fun _ => ?_)
                  refine WP.skip ?_
                  refine WP.reg [(0, false), (1, false), (2, false)] (by kernel_rfl) ?_
                  refine Dv.mv rfl trivial rfl ?_
                  refine Dv.bin rfl trivial rfl rfl (fun _ => run_add) ?_
                  refine Dv.asg rfl trivial rfl ?_
                  refine .fin ?_
                  exact Back.mk j77 (w64 (x53 + 1)) (Nat.lt_succ_self _) H (weak_cons rfl (weak_cons rfl (weak_cons rfl (weak_cons rfl weak_nil)))) (List.Perm.refl _)
                · replace H := Gets.ct H c72
                  refine Dv.mv rfl ⟨_, _, rfl, rfl, rfl⟩ rfl ?_
                  refine Dv.mv rfl ⟨_, _, rfl, rfl, rfl⟩ rfl ?_
                  obtain ⟨g73, H⟩ := Gets.grd H
                  refine Dv.ixs rfl ⟨_, _, rfl, rfl, rfl⟩ rfl rfl Try.underlying9 g73.1 g73.2 ?_
                  refine Dv.bin rfl ⟨_, _, rfl, rfl, rfl⟩ rfl rfl (fun _ => run_ne) ?_
                  refine Dv.pickT rfl trivial rfl rfl ?_
                  refine .fin ?_
                  refine WP.cond rfl (fun c74 => ?_) (fun c74 => ?_)
                  · replace H := Gets.ct H c74
                    refine WP.seq ?_
                    refine WP.reg [(0, false)] (by kernel_rfl) ?_
                    refine Dv.asg rfl trivial rfl ?_
                    refine .fin ?_
                    replace H := Gets.outr H
                    obtain rfl := Gets.out H
                    exact WP.retL (fun _ _ h => h) rfl () trivial (.cons (res_tmp rfl) .nil) rfl (st_sel (L := []) (F := F) [] 0 rfl rfl rfl)
                  · replace H := Gets.cf H c74
                    refine WP.skip ?_
                    refine WP.reg [(0, false), (1, false), (2, false)] (by kernel_rfl) ?_
                    refine Dv.mv rfl trivial rfl ?_
                    refine Dv.bin rfl trivial rfl rfl (fun _ => run_add) ?_
                    refine Dv.asg rfl trivial rfl ?_
                    refine .fin ?_
                    exact Back.mk j77 (w64 (x53 + 1)) (Nat.lt_succ_self _) H (weak_cons rfl (weak_cons rfl (weak_cons rfl (weak_cons rfl weak_nil)))) (List.Perm.refl _)
            · replace H := Gets.ct H c59
              refine Dv.mv rfl ⟨_, _, rfl, rfl, rfl⟩ rfl ?_
              refine Dv.mv rfl ⟨_, _, rfl, rfl, rfl⟩ rfl ?_
              obtain ⟨g60, H⟩ := Gets.grd H
              refine Dv.ixs rfl ⟨_, _, rfl, rfl, rfl⟩ rfl rfl Try.underlying9 g60.1 g60.2 ?_
              refine Dv.bin rfl ⟨_, _, rfl, rfl, rfl⟩ rfl rfl (fun _ => run_le) ?_
              refine Dv.pickT rfl trivial rfl rfl ?_
              refine Dv.asg rfl trivial rfl ?_
              refine .fin ?_
              refine WP.seq ?_
              refine WP.reg [(0, false), (1, false), (2, false), (3, false), (4, false), (5, false), (6, false), (7, false), (8, false), (9, false), (10, false), (11, false), (12, false), (13, false), (14, false), (15, false), (16, false), (17, false)] (by kernel_rfl) ?_
              refine Dv.mv rfl trivial rfl ?_
              refine Dv.un rfl trivial rfl (fun _ => run_not _) ?_
              refine Dv.mv rfl trivial rfl ?_
              cases c61 : !t56
              · replace H := Gets.cf H c61
                refine Dv.skip rfl ⟨_, _, rfl, rfl, .inl rfl⟩ ?_
                refine Dv.skip rfl ⟨_, _, rfl, rfl, .inl rfl⟩ ?_
                refine Dv.pickF rfl trivial rfl rfl ?_
                refine Dv.mv rfl trivial rfl ?_
                refine Dv.skip rfl ⟨_, _, rfl, rfl, .inl rfl⟩ ?_
                refine Dv.skip rfl ⟨_, _, rfl, rfl, .inl rfl⟩ ?_
                refine Dv.skip rfl ⟨_, _, rfl, rfl, .inl rfl⟩ ?_
                refine Dv.skip rfl ⟨_, _, rfl, rfl, .inl rfl⟩ ?_
                refine Dv.pickF rfl trivial rfl rfl ?_
                refine Dv.mv rfl trivial rfl ?_
                refine Dv.skip rfl ⟨_, _, rfl, rfl, .inl rfl⟩ ?_
                refine Dv.skip rfl ⟨_, _, rfl, rfl, .inl rfl⟩ ?_
                refine Dv.skip rfl ⟨_, _, rfl, rfl, .inl rfl⟩ ?_
                refine Dv.skip rfl ⟨_, _, rfl, rfl, .inl rfl⟩ ?_
                refine Dv.pickF rfl trivial rfl rfl ?_
                refine .fin ?_
                refine WP.cond rfl nofun (fun _ => ?_)
                refine WP.skip ?_
                refine WP.reg [(0, false), (1, false), (2, false)] (by kernel_rfl) ?_
                refine Dv.mv rfl trivial rfl ?_
                refine Dv.bin rfl trivial rfl rfl (fun _ => run_add) ?_
                refine Dv.asg rfl trivial rfl ?_
                refine .fin ?_
                exact Back.mk j77 (w64 (x53 + 1)) (Nat.lt_succ_self _) H (weak_cons rfl (weak_cons rfl (weak_cons rfl (weak_cons rfl weak_nil)))) (List.Perm.refl _)
              · replace H := Gets.ct H c61
                refine Dv.mv rfl ⟨_, _, rfl, rfl, rfl⟩ rfl ?_
                refine Dv.un rfl ⟨_, _, rfl, rfl, rfl⟩ rfl (fun _ => run_not _) ?_
                refine Dv.pickT rfl trivial rfl rfl ?_
                refine Dv.mv rfl trivial rfl ?_
                cases c62 : !(decide ((bt a0 x53) ≤ 90))
                · replace H := Gets.cf H c62
                  refine Dv.skip rfl ⟨_, _, rfl, rfl, .inl rfl⟩ ?_
                  refine Dv.skip rfl ⟨_, _, rfl, rfl, .inl rfl⟩ ?_
                  refine Dv.skip rfl ⟨_, _, rfl, rfl, .inl rfl⟩ ?_
                  refine Dv.skip rfl ⟨_, _, rfl, rfl, .inl rfl⟩ ?_
                  refine Dv.pickF rfl trivial rfl rfl ?_
                  refine Dv.mv rfl trivial rfl ?_
                  refine Dv.skip rfl ⟨_, _, rfl, rfl, .inl rfl⟩ ?_
                  refine Dv.skip rfl ⟨_, _, rfl, rfl, .inl rfl⟩ ?_
                  refine Dv.skip rfl ⟨_, _, rfl, rfl, .inl rfl⟩ ?_
                  refine Dv.skip rfl ⟨_, _, rfl, rfl, .inl rfl⟩ ?_
                  refine Dv.pickF rfl trivial rfl rfl ?_
                  refine .fin ?_
                  refine WP.cond rfl nofun (fun _ => ?_)
                  refine WP.skip ?_
                  refine WP.reg [(0, false), (1, false), (2, false)] (by kernel_rfl) ?_
                  refine Dv.mv rfl trivial rfl ?_
                  refine Dv.bin rfl trivial rfl rfl (fun _ => run_add) ?_
                  refine Dv.asg rfl trivial rfl ?_
                  refine .fin ?_
                  exact Back.mk j77 (w64 (x53 + 1)) (Nat.lt_succ_self _) H (weak_cons rfl (weak_cons rfl (weak_cons rfl (weak_cons rfl weak_nil)))) (List.Perm.refl _)
                · replace H := Gets.ct H c62
                  refine Dv.mv rfl ⟨_, _, rfl, rfl, rfl⟩ rfl ?_
                  refine Dv.mv rfl ⟨_, _, rfl, rfl, rfl⟩ rfl ?_
                  obtain ⟨g63, H⟩ := Gets.grd H
                  refine Dv.ixs rfl ⟨_, _, rfl, rfl, rfl⟩ rfl rfl Try.underlying9 g63.1 g63.2 ?_
                  refine Dv.bin rfl ⟨_, _, rfl, rfl, rfl⟩ rfl rfl (fun _ => run_ne) ?_
                  refine Dv.pickT rfl trivial rfl rfl ?_
                  refine Dv.mv rfl trivial rfl ?_
                  cases c64 : ((bt a0 x53) != 45)
                  · replace H := Gets.cf H c64
                    refine Dv.skip rfl ⟨_, _, rfl, rfl, .inl rfl⟩ ?_
                    refine Dv.skip rfl ⟨_, _, rfl, rfl, .inl rfl⟩ ?_
                    refine Dv.skip rfl ⟨_, _, rfl, rfl, .inl rfl⟩ ?_
                    refine Dv.skip rfl ⟨_, _, rfl, rfl, .inl rfl⟩ ?_
                    refine Dv.pickF rfl trivial rfl rfl ?_
                    refine .fin ?_
                    refine WP.cond rfl nofun (fun _ => ?_)
                    refine WP.skip ?_
                    refine WP.reg [(0, false), (1, false), (2, false)] (by kernel_rfl) ?_
                    refine Dv.mv rfl trivial rfl ?_
                    refine Dv.bin rfl trivial rfl rfl (fun _ => run_add) ?_
                    refine Dv.asg rfl trivial rfl ?_
                    refine .fin ?_
                    exact Back.mk j77 (w64 (x53 + 1)) (Nat.lt_succ_self _) H (weak_cons rfl (weak_cons rfl (weak_cons rfl (weak_cons rfl weak_nil)))) (List.Perm.refl _)
                  · replace H := Gets.ct H c64
                    refine Dv.mv rfl ⟨_, _, rfl, rfl, rfl⟩ rfl ?_
                    refine Dv.mv rfl ⟨_, _, rfl, rfl, rfl⟩ rfl ?_
                    obtain ⟨g65, H⟩ := Gets.grd H
                    refine Dv.ixs rfl ⟨_, _, rfl, rfl, rfl⟩ rfl rfl Try.underlying9 g65.1 g65.2 ?_
                    refine Dv.bin rfl ⟨_, _, rfl, rfl, rfl⟩ rfl rfl (fun _ => run_ne) ?_
                    refine Dv.pickT rfl trivial rfl rfl ?_
                    refine .fin ?_
                    refine WP.cond rfl (fun c66 => ?_) (fun c66 => ?_)
                    · replace H := Gets.ct H c66
                      refine WP.seq ?_
                      refine WP.reg [(0, false)] (by kernel_rfl) ?_
                      refine Dv.asg rfl trivial rfl ?_
                      refine .fin ?_
                      replace H := Gets.outr H
                      obtain rfl := Gets.out H
                      exact WP.retL (fun _ _ h => h) rfl () trivial (.cons (res_tmp rfl) .nil) rfl (st_sel (L := []) (F := F) [] 0 rfl rfl rfl)
                    · replace H := Gets.cf H c66
                      refine WP.skip ?_
                      refine WP.reg [(0, false), (1, false), (2, false)] (by kernel_rfl) ?_
                      refine Dv.mv rfl trivial rfl ?_
                      refine Dv.bin rfl trivial rfl rfl (fun _ => run_add) ?_
                      refine Dv.asg rfl trivial rfl ?_
                      refine .fin ?_
                      exact Back.mk j77 (w64 (x53 + 1)) (Nat.lt_succ_self _) H (weak_cons rfl (weak_cons rfl (weak_cons rfl (weak_cons rfl weak_nil)))) (List.Perm.refl _)
          · replace H := Gets.cf H c54
            refine WP.exit ?_
            replace H := Gets.out H
            exact Jn.mk (x53, decide (x53 < (a0.size : Int))) H (weak_cons rfl (weak_cons rfl (weak_cons rfl (weak_cons rfl (weak_cons rfl weak_nil))))) (List.Perm.refl _)
    · replace H := Gets.ct H c48
      refine Dv.skip rfl ⟨_, _, rfl, rfl, .inl rfl⟩ ?_
      refine Dv.skip rfl ⟨_, _, rfl, rfl, .inl rfl⟩ ?_
      refine Dv.skip rfl ⟨_, _, rfl, rfl, .inl rfl⟩ ?_
      refine Dv.pickT rfl trivial rfl rfl ?_
      refine .fin ?_
      refine WP.cond rfl (fun _ => ?_) nofun
      refine WP.seq ?_
      refine WP.reg [(0, false)] (by kernel_rfl) ?_
      refine Dv.asg rfl trivial rfl ?_
      refine .fin ?_
      obtain rfl := Gets.out H
      exact WP.retL (fun _ _ h => h) rfl () trivial (.cons (res_tmp rfl) .nil) rfl (st_sel (L := []) (F := F) [] 0 rfl rfl rfl)
  · replace H := Gets.ct H c46
    refine Dv.skip rfl ⟨_, _, rfl, rfl, .inl rfl⟩ ?_
    refine Dv.skip rfl ⟨_, _, rfl, rfl, .inl rfl⟩ ?_
    refine Dv.skip rfl ⟨_, _, rfl, rfl, .inl rfl⟩ ?_
    refine Dv.pickT rfl trivial rfl rfl ?_
    refine Dv.mv rfl trivial rfl ?_
    refine Dv.skip rfl ⟨_, _, rfl, rfl, .inl rfl⟩ ?_
    refine Dv.skip rfl ⟨_, _, rfl, rfl, .inl rfl⟩ ?_
    refine Dv.skip rfl ⟨_, _, rfl, rfl, .inl rfl⟩ ?_
    refine Dv.pickT rfl trivial rfl rfl ?_
    refine .fin ?_
    refine WP.cond rfl (fun _ => ?_) nofun
    refine WP.seq ?_
    refine WP.reg [(0, false)] (by kernel_rfl) ?_
    refine Dv.asg rfl trivial rfl ?_
    refine .fin ?_
    obtain rfl := Gets.out H
    exact WP.retL (fun _ _ h => h) rfl () trivial (.cons (res_tmp rfl) .nil) rfl (st_sel (L := []) (F := F) [] 0 rfl rfl rfl)
theorem concourseref01_colon.c {k : Nat} {a0 : ByteArray} {r : Int} (h : concourseref01_colon.f k a0 = some r) : Pt Try.prog 46 [eq (.string a0)] (eq (.int .i64 r)) := by
  unfold concourseref01_colon.f at h
  refine (Tr.body Try.func46 (c := _) rfl Try.ntmps46 (Nat.le_of_ble_eq_true rfl) fun R0 F => ?_).pt
  replace h := Gets.of h
  have H := h
  clear h
  refine WP.seq ?_
  refine WP.reg [(0, false)] (by kernel_rfl) ?_
  refine Dv.asg rfl trivial rfl ?_
  refine .fin ?_
  refine WP.seqr H id (fun p79 : Int × Bool => [(0, eq (.string a0)), (2, eq (.int .i64 0)), (3, eq (.int .i64 p79.1)), (7, eq (.bool p79.2))]) (fun p79 : Int × Bool => [] ++ F) (fun p79 H => ?_) (fun H => ?_)
  · refine WP.seq ?_
    refine WP.reg [(0, false)] (by kernel_rfl) ?_
    refine Dv.asg rfl trivial rfl ?_
    refine .fin ?_
    obtain rfl := Gets.out H
    exact WP.retL (fun _ _ h => h) rfl () trivial (.cons (res_tmp rfl) .nil) rfl (st_sel (L := []) (F := F) [] 0 rfl rfl rfl)
  · refine WP.seq ?_
    refine WP.reg [(0, false)] (by kernel_rfl) ?_
    refine Dv.asg rfl trivial rfl ?_
    refine .fin ?_
    refine WP.block ?_
    refine WP.gh (l' := fun _ => [] ++ F) (gh_of (st_selg (L := []) (F := F) [] 0 rfl rfl rfl)) (fun _ _ => ?_)
    refine WP.loopg (fun j_ (p85 : Int) => concourseref01_colon.l0 k a0 j_ p85) 0 H (fun p85 => [(0, eq (.string a0)), (2, eq (.int .i64 0)), (3, eq (.int .i64 p85))]) (fun p85 => [] ++ F) (weak_cons rfl (weak_cons rfl (weak_cons rfl weak_nil))) (List.Perm.refl _) ?_
    rintro j_ x80 H
    rcases j_ with _ | j84
    · exact (Gets.no H).elim
    replace H : Gets (concourseref01_colon.l0 k a0 (j84 + 1) x80) _ := H
    rw [concourseref01_colon.l0] at H
    refine WP.seq ?_
    refine WP.seq ?_
    refine WP.reg [(0, false), (1, false), (2, false), (3, false)] (by kernel_rfl) ?_
    refine Dv.mv rfl trivial rfl ?_
    refine Dv.mv rfl trivial rfl ?_
    refine Dv.lens rfl trivial rfl Try.underlying9 ?_
    refine Dv.bin rfl trivial rfl rfl (fun _ => run_lt) ?_
    refine .fin ?_
    refine WP.cond rfl (fun c81 => ?_) (fun c81 => ?_)
    · replace H := Gets.ct H c81
      refine WP.skip ?_
      refine WP.seq ?_
      refine WP.block ?_
      refine WP.seq ?_
      refine WP.reg [(0, false), (1, false), (2, false), (3, false)] (by kernel_rfl) ?_
      refine Dv.mv rfl trivial rfl ?_
      refine Dv.mv rfl trivial rfl ?_
      obtain ⟨g82, H⟩ := Gets.grd H
      refine Dv.ixs rfl trivial rfl rfl Try.underlying9 g82.1 g82.2 ?_
      refine Dv.bin rfl trivial rfl rfl (fun _ => run_eq) ?_
      refine .fin ?_
      refine WP.cond rfl (fun c83 => ?_) (fun c83 => ?_)
      · replace H := Gets.ct H c83
        refine WP.seq ?_
        refine WP.reg [(0, false), (1, false)] (by kernel_rfl) ?_
        refine Dv.mv rfl trivial rfl ?_
        refine Dv.asg rfl trivial rfl ?_
        refine .fin ?_
        replace H := Gets.outr H
        obtain rfl := Gets.out H
        exact WP.retL (fun _ _ h => h) rfl () trivial (.cons (res_tmp rfl) .nil) rfl (st_sel (L := []) (F := F) [] 0 rfl rfl rfl)
      · replace H := Gets.cf H c83
        refine WP.skip ?_
        refine WP.reg [(0, false), (1, false), (2, false)] (by kernel_rfl) ?_
        refine Dv.mv rfl trivial rfl ?_
        refine Dv.bin rfl trivial rfl rfl (fun _ => run_add) ?_
        refine Dv.asg rfl trivial rfl ?_
        refine .fin ?_
        exact Back.mk j84 (w64 (x80 + 1)) (Nat.lt_succ_self _) H (weak_cons rfl (weak_cons rfl (weak_cons rfl weak_nil))) (List.Perm.refl _)
    · replace H := Gets.cf H c81
      refine WP.exit ?_
      replace H := Gets.out H
      exact Jn.mk (x80, decide (x80 < (a0.size : Int))) H (weak_cons rfl (weak_cons rfl (weak_cons rfl (weak_cons rfl weak_nil)))) (List.Perm.refl _)
theorem concourseref01_Part.c {k : Nat} {a0 : ByteArray} {r : Bool} (h : concourseref01_Part.f k a0 = some r) : Pt Try.prog 47 [eq (.string a0)] (eq (.bool r)) := by
  unfold concourseref01_Part.f at h
  refine (Tr.body Try.func47 (c := _) rfl Try.ntmps47 (Nat.le_of_ble_eq_true rfl) fun R0 F => ?_).pt
  replace h := Gets.of h
  have H := h
  clear h
  refine WP.seq ?_
  refine WP.reg [(0, false)] (by kernel_rfl) ?_
  refine Dv.asg rfl trivial rfl ?_
  refine .fin ?_
  refine WP.seqr H id (fun p86 : Int × Bool => [(0, eq (.string a0)), (2, eq (.bool false)), (3, eq (.int .i64 p86.1)), (8, eq (.bool p86.2))]) (fun p86 : Int × Bool => [] ++ F) (fun p86 H => ?_) (fun H => ?_)
  · refine WP.seq ?_
    refine WP.reg [(0, false), (1, false), (2, false), (3, false), (4, false), (5, false), (6, false), (7, false), (8, false)] (by kernel_rfl) ?_
    refine Dv.mv rfl trivial rfl ?_
    refine Dv.lens rfl trivial rfl Try.underlying9 ?_
    refine Dv.bin rfl trivial rfl rfl (fun _ => run_gt) ?_
    refine Dv.mv rfl trivial rfl ?_
    cases c87 : decide (0 < (a0.size : Int))
    · replace H := Gets.cf H c87
      refine Dv.skip rfl ⟨_, _, rfl, rfl, .inl rfl⟩ ?_
      refine Dv.skip rfl ⟨_, _, rfl, rfl, .inl rfl⟩ ?_
      refine Dv.skip rfl ⟨_, _, rfl, rfl, .inl rfl⟩ ?_
      refine Dv.pickF rfl trivial rfl rfl ?_
      refine Dv.asg rfl trivial rfl ?_
      refine .fin ?_
      obtain rfl := Gets.out H
      exact WP.retL (fun _ _ h => h) rfl () trivial (.cons (res_tmp rfl) .nil) rfl (st_sel (L := []) (F := F) [] 0 rfl rfl rfl)
    · replace H := Gets.ct H c87
      refine Dv.mv rfl ⟨_, _, rfl, rfl, rfl⟩ rfl ?_
      refine Dv.lens rfl ⟨_, _, rfl, rfl, rfl⟩ rfl Try.underlying9 ?_
      refine Dv.bin rfl ⟨_, _, rfl, rfl, rfl⟩ rfl rfl (fun _ => run_lt) ?_
      refine Dv.pickT rfl trivial rfl rfl ?_
      refine Dv.asg rfl trivial rfl ?_
      refine .fin ?_
      obtain rfl := Gets.out H
      exact WP.retL (fun _ _ h => h) rfl () trivial (.cons (res_tmp rfl) .nil) rfl (st_sel (L := []) (F := F) [] 0 rfl rfl rfl)
  · refine WP.seq ?_
    refine WP.reg [(0, false)] (by kernel_rfl) ?_
    refine Dv.asg rfl trivial rfl ?_
    refine .fin ?_
    refine WP.block ?_
    refine WP.gh (l' := fun _ => [] ++ F) (gh_of (st_selg (L := []) (F := F) [] 0 rfl rfl rfl)) (fun _ _ => ?_)
    refine WP.loopg (fun j_ (p104 : Int) => concourseref01_Part.l0 k a0 j_ p104) 0 H (fun p104 => [(0, eq (.string a0)), (2, eq (.bool false)), (3, eq (.int .i64 p104))]) (fun p104 => [] ++ F) (weak_cons rfl (weak_cons rfl (weak_cons rfl weak_nil))) (List.Perm.refl _) ?_
    rintro j_ x88 H
    rcases j_ with _ | j103
    · exact (Gets.no H).elim
    replace H : Gets (concourseref01_Part.l0 k a0 (j103 + 1) x88) _ := H
    rw [concourseref01_Part.l0] at H
    refine WP.seq ?_
    refine WP.seq ?_
    refine WP.reg [(0, false), (1, false), (2, false), (3, false)] (by kernel_rfl) ?_
    refine Dv.mv rfl trivial rfl ?_
    refine Dv.mv rfl trivial rfl ?_
    refine Dv.lens rfl trivial rfl Try.underlying9 ?_
    refine Dv.bin rfl trivial rfl rfl (fun _ => run_lt) ?_
    refine .fin ?_
    refine WP.cond rfl (fun c89 => ?_) (fun c89 => ?_)
    · replace H := Gets.ct H c89
      refine WP.skip ?_
      refine WP.seq ?_
      refine WP.block ?_
      refine WP.seq ?_
      refine WP.reg [(0, false), (1, false), (2, false), (3, false), (4, false)] (by kernel_rfl) ?_
      refine Dv.mv rfl trivial rfl ?_
      refine Dv.mv rfl trivial rfl ?_
      obtain ⟨g90, H⟩ := Gets.grd H
      refine Dv.ixs rfl trivial rfl rfl Try.underlying9 g90.1 g90.2 ?_
      obtain ⟨t91, h92, H⟩ := Gets.call H
      refine Dv.call rfl trivial cal45 rfl (concourseref01_low.c h92) ?_
      refine Dv.asg rfl trivial rfl ?_
      refine .fin ?_
      refine WP.seq ?_
      refine WP.reg [(0, false), (1, false), (2, false), (3, false), (4, false), (5, false), (6, false), (7, false), (8, false), (9, false), (10, false), (11, false), (12, false), (13, false), (14, false), (15, false), (16, false), (17, false), (18, false), (19, false)] (by kernel_rfl) ?_
      refine Dv.mv rfl trivial rfl ?_
      refine Dv.un rfl trivial rfl (fun _ => run_not _) ?_
      refine Dv.mv rfl trivial rfl ?_
      cases c93 : !t91
      · replace H := Gets.cf H c93
        refine Dv.skip rfl ⟨_, _, rfl, rfl, .inl rfl⟩ ?_
        refine Dv.skip rfl ⟨_, _, rfl, rfl, .inl rfl⟩ ?_
        refine Dv.skip rfl ⟨_, _, rfl, rfl, .inl rfl⟩ ?_
        refine Dv.skip rfl ⟨_, _, rfl, rfl, .inl rfl⟩ ?_
        refine Dv.pickF rfl trivial rfl rfl ?_
        refine Dv.mv rfl trivial rfl ?_
        refine Dv.skip rfl ⟨_, _, rfl, rfl, .inl rfl⟩ ?_
        refine Dv.skip rfl ⟨_, _, rfl, rfl, .inl rfl⟩ ?_
        refine Dv.skip rfl ⟨_, _, rfl, rfl, .inl rfl⟩ ?_
        refine Dv.skip rfl ⟨_, _, rfl, rfl, .inl rfl⟩ ?_
        refine Dv.pickF rfl trivial rfl rfl ?_
        refine Dv.mv rfl trivial rfl ?_
        refine Dv.skip rfl ⟨_, _, rfl, rfl, .inl rfl⟩ ?_
        refine Dv.skip rfl ⟨_, _, rfl, rfl, .inl rfl⟩ ?_
        refine Dv.skip rfl ⟨_, _, rfl, rfl, .inl rfl⟩ ?_
        refine Dv.skip rfl ⟨_, _, rfl, rfl, .inl rfl⟩ ?_
        refine Dv.pickF rfl trivial rfl rfl ?_
        refine .fin ?_
        refine WP.cond rfl nofun (fun _ => ?_)
        refine WP.skip ?_
        refine WP.reg [(0, false), (1, false), (2, false)] (by kernel_rfl) ?_
        refine Dv.mv rfl trivial rfl ?_
        refine Dv.bin rfl trivial rfl rfl (fun _ => run_add) ?_
        refine Dv.asg rfl trivial rfl ?_
        refine .fin ?_
        exact Back.mk j103 (w64 (x88 + 1)) (Nat.lt_succ_self _) H (weak_cons rfl (weak_cons rfl (weak_cons rfl weak_nil))) (List.Perm.refl _)
      · replace H := Gets.ct H c93
        refine Dv.mv rfl ⟨_, _, rfl, rfl, rfl⟩ rfl ?_
        refine Dv.mv rfl ⟨_, _, rfl, rfl, rfl⟩ rfl ?_
        obtain ⟨g94, H⟩ := Gets.grd H
        refine Dv.ixs rfl ⟨_, _, rfl, rfl, rfl⟩ rfl rfl Try.underlying9 g94.1 g94.2 ?_
        refine Dv.bin rfl ⟨_, _, rfl, rfl, rfl⟩ rfl rfl (fun _ => run_ne) ?_
        refine Dv.pickT rfl trivial rfl rfl ?_
        refine Dv.mv rfl trivial rfl ?_
        cases c95 : ((bt a0 x88) != 46)
        · replace H := Gets.cf H c95
          refine Dv.skip rfl ⟨_, _, rfl, rfl, .inl rfl⟩ ?_
          refine Dv.skip rfl ⟨_, _, rfl, rfl, .inl rfl⟩ ?_
          refine Dv.skip rfl ⟨_, _, rfl, rfl, .inl rfl⟩ ?_
          refine Dv.skip rfl ⟨_, _, rfl, rfl, .inl rfl⟩ ?_
          refine Dv.pickF rfl trivial rfl rfl ?_
          refine Dv.mv rfl trivial rfl ?_
          refine Dv.skip rfl ⟨_, _, rfl, rfl, .inl rfl⟩ ?_
          refine Dv.skip rfl ⟨_, _, rfl, rfl, .inl rfl⟩ ?_
          refine Dv.skip rfl ⟨_, _, rfl, rfl, .inl rfl⟩ ?_
          refine Dv.skip rfl ⟨_, _, rfl, rfl, .inl rfl⟩ ?_
          refine Dv.pickF rfl trivial rfl rfl ?_
          refine .fin ?_
          refine WP.cond rfl nofun (fun _ => ?_)
          refine WP.skip ?_
          refine WP.reg [(0, false), (1, false), (2, false)] (by kernel_rfl) ?_
          refine Dv.mv rfl trivial rfl ?_
          refine Dv.bin rfl trivial rfl rfl (fun _ => run_add) ?_
          refine Dv.asg rfl trivial rfl ?_
          refine .fin ?_
          exact Back.mk j103 (w64 (x88 + 1)) (Nat.lt_succ_self _) H (weak_cons rfl (weak_cons rfl (weak_cons rfl weak_nil))) (List.Perm.refl _)
        · replace H := Gets.ct H c95
          refine Dv.mv rfl ⟨_, _, rfl, rfl, rfl⟩ rfl ?_
          refine Dv.mv rfl ⟨_, _, rfl, rfl, rfl⟩ rfl ?_
          obtain ⟨g96, H⟩ := Gets.grd H
          refine Dv.ixs rfl ⟨_, _, rfl, rfl, rfl⟩ rfl rfl Try.underlying9 g96.1 g96.2 ?_
          refine Dv.bin rfl ⟨_, _, rfl, rfl, rfl⟩ rfl rfl (fun _ => run_ne) ?_
          refine Dv.pickT rfl trivial rfl rfl ?_
          refine Dv.mv rfl trivial rfl ?_
          cases c97 : ((bt a0 x88) != 45)
          · replace H := Gets.cf H c97
            refine Dv.skip rfl ⟨_, _, rfl, rfl, .inl rfl⟩ ?_
            refine Dv.skip rfl ⟨_, _, rfl, rfl, .inl rfl⟩ ?_
            refine Dv.skip rfl ⟨_, _, rfl, rfl, .inl rfl⟩ ?_
            refine Dv.skip rfl ⟨_, _, rfl, rfl, .inl rfl⟩ ?_
            refine Dv.pickF rfl trivial rfl rfl ?_
            refine .fin ?_
            refine WP.cond rfl nofun (fun _ => ?_)
            refine WP.skip ?_
            refine WP.reg [(0, false), (1, false), (2, false)] (by kernel_rfl) ?_
            refine Dv.mv rfl trivial rfl ?_
            refine Dv.bin rfl trivial rfl rfl (fun _ => run_add) ?_
            refine Dv.asg rfl trivial rfl ?_
            refine .fin ?_
            exact Back.mk j103 (w64 (x88 + 1)) (Nat.lt_succ_self _) H (weak_cons rfl (weak_cons rfl (weak_cons rfl weak_nil))) (List.Perm.refl _)
          · replace H := Gets.ct H c97
            refine Dv.mv rfl ⟨_, _, rfl, rfl, rfl⟩ rfl ?_
            refine Dv.mv rfl ⟨_, _, rfl, rfl, rfl⟩ rfl ?_
            obtain ⟨g98, H⟩ := Gets.grd H
            refine Dv.ixs rfl ⟨_, _, rfl, rfl, rfl⟩ rfl rfl Try.underlying9 g98.1 g98.2 ?_
            refine Dv.bin rfl ⟨_, _, rfl, rfl, rfl⟩ rfl rfl (fun _ => run_ne) ?_
            refine Dv.pickT rfl trivial rfl rfl ?_
            refine .fin ?_
            refine WP.cond rfl (fun c99 => ?_) (fun c99 => ?_)
            · replace H := Gets.ct H c99
              refine WP.seq ?_
              refine WP.reg [(0, false)] (by kernel_rfl) ?_
              refine Dv.asg rfl trivial rfl ?_
              refine .fin ?_
              replace H := Gets.outr H
              obtain rfl := Gets.out H
              exact WP.retL (fun _ _ h => h) rfl () trivial (.cons (res_tmp rfl) .nil) rfl (st_sel (L := []) (F := F) [] 0 rfl rfl rfl)
            · replace H := Gets.cf H c99
              refine WP.skip ?_
              refine WP.reg [(0, false), (1, false), (2, false)] (by kernel_rfl) ?_
              refine Dv.mv rfl trivial rfl ?_
              refine Dv.bin rfl trivial rfl rfl (fun _ => run_add) ?_
              refine Dv.asg rfl trivial rfl ?_
              refine .fin ?_
              exact Back.mk j103 (w64 (x88 + 1)) (Nat.lt_succ_self _) H (weak_cons rfl (weak_cons rfl (weak_cons rfl weak_nil))) (List.Perm.refl _)
    · replace H := Gets.cf H c89
      refine WP.exit ?_
      replace H := Gets.out H
      exact Jn.mk (x88, decide (x88 < (a0.size : Int))) H (weak_cons rfl (weak_cons rfl (weak_cons rfl (weak_cons rfl weak_nil)))) (List.Perm.refl _)
theorem concourseref01_Server.c {k : Nat} {a0 : ByteArray} {r : Bool} (h : concourseref01_Server.f k a0 = some r) : Pt Try.prog 48 [eq (.string a0)] (eq (.bool r)) := by
  unfold concourseref01_Server.f at h
  refine (Tr.body Try.func48 (c := _) rfl Try.ntmps48 (Nat.le_of_ble_eq_true rfl) fun R0 F => ?_).pt
  replace h := Gets.of h
  have H := h
  clear h
  refine WP.seq ?_
  refine WP.reg [(0, false)] (by kernel_rfl) ?_
  refine Dv.asg rfl trivial rfl ?_
  refine .fin ?_
  refine WP.seqr H id (fun p105 : Int × Bool => [(0, eq (.string a0)), (2, eq (.bool false)), (3, eq (.int .i64 p105.1)), (9, eq (.bool p105.2))]) (fun p105 : Int × Bool => [] ++ F) (fun p105 H => ?_) (fun H => ?_)
  · refine WP.seq ?_
    refine WP.reg [(0, false), (1, false), (2, false), (3, false), (4, false), (5, false), (6, false), (7, false), (8, false)] (by kernel_rfl) ?_
    refine Dv.mv rfl trivial rfl ?_
    refine Dv.lens rfl trivial rfl Try.underlying9 ?_
    refine Dv.bin rfl trivial rfl rfl (fun _ => run_gt) ?_
    refine Dv.mv rfl trivial rfl ?_
    cases c106 : decide (0 < (a0.size : Int))
    · replace H := Gets.cf H c106
      refine Dv.skip rfl ⟨_, _, rfl, rfl, .inl rfl⟩ ?_
      refine Dv.skip rfl ⟨_, _, rfl, rfl, .inl rfl⟩ ?_
      refine Dv.skip rfl ⟨_, _, rfl, rfl, .inl rfl⟩ ?_
      refine Dv.pickF rfl trivial rfl rfl ?_
      refine Dv.asg rfl trivial rfl ?_
      refine .fin ?_
      obtain rfl := Gets.out H
      exact WP.retL (fun _ _ h => h) rfl () trivial (.cons (res_tmp rfl) .nil) rfl (st_sel (L := []) (F := F) [] 0 rfl rfl rfl)
    · replace H := Gets.ct H c106
      refine Dv.mv rfl ⟨_, _, rfl, rfl, rfl⟩ rfl ?_
      refine Dv.lens rfl ⟨_, _, rfl, rfl, rfl⟩ rfl Try.underlying9 ?_
      refine Dv.bin rfl ⟨_, _, rfl, rfl, rfl⟩ rfl rfl (fun _ => run_lt) ?_
      refine Dv.pickT rfl trivial rfl rfl ?_
      refine Dv.asg rfl trivial rfl ?_
      refine .fin ?_
      obtain rfl := Gets.out H
      exact WP.retL (fun _ _ h => h) rfl () trivial (.cons (res_tmp rfl) .nil) rfl (st_sel (L := []) (F := F) [] 0 rfl rfl rfl)
  · refine WP.seq ?_
    refine WP.reg [(0, false)] (by kernel_rfl) ?_
    refine Dv.asg rfl trivial rfl ?_
    refine .fin ?_
    refine WP.block ?_
    refine WP.gh (l' := fun _ => [] ++ F) (gh_of (st_selg (L := []) (F := F) [] 0 rfl rfl rfl)) (fun _ _ => ?_)
    refine WP.loopg (fun j_ (p130 : Int) => concourseref01_Server.l0 k a0 j_ p130) 0 H (fun p130 => [(0, eq (.string a0)), (2, eq (.bool false)), (3, eq (.int .i64 p130))]) (fun p130 => [] ++ F) (weak_cons rfl (weak_cons rfl (weak_cons rfl weak_nil))) (List.Perm.refl _) ?_
    rintro j_ x107 H
    rcases j_ with _ | j129
    · exact (Gets.no H).elim
    replace H : Gets (concourseref01_Server.l0 k a0 (j129 + 1) x107) _ := H
    rw [concourseref01_Server.l0] at H
    refine WP.seq ?_
    refine WP.seq ?_
    refine WP.reg [(0, false), (1, false), (2, false), (3, false)] (by kernel_rfl) ?_
    refine Dv.mv rfl trivial rfl ?_
    refine Dv.mv rfl trivial rfl ?_
    refine Dv.lens rfl trivial rfl Try.underlying9 ?_
    refine Dv.bin rfl trivial rfl rfl (fun _ => run_lt) ?_
    refine .fin ?_
    refine WP.cond rfl (fun c108 => ?_) (fun c108 => ?_)
    · replace H := Gets.ct H c108
      refine WP.skip ?_
      refine WP.seq ?_
      refine WP.block ?_
      refine WP.seq ?_
      refine WP.reg [(0, false), (1, false), (2, false), (3, false), (4, false)] (by kernel_rfl) ?_
      refine Dv.mv rfl trivial rfl ?_
      refine Dv.mv rfl trivial rfl ?_
      obtain ⟨g109, H⟩ := Gets.grd H
      refine Dv.ixs rfl trivial rfl rfl Try.underlying9 g109.1 g109.2 ?_
      obtain ⟨t110, h111, H⟩ := Gets.call H
      refine Dv.call rfl trivial cal45 rfl (concourseref01_low.c h111) ?_
      refine Dv.asg rfl trivial rfl ?_
      refine .fin ?_
      refine WP.seq ?_
      refine WP.reg [(0, false), (1, false), (2, false), (3, false), (4, false), (5, false), (6, false), (7, false), (8, false), (9, false), (10, false), (11, false), (12, false), (13, false), (14, false), (15, false), (16, false), (17, false), (18, false), (19, false), (20, false), (21, false)] (by kernel_rfl) ?_
      refine Dv.mv rfl trivial rfl ?_
      refine Dv.bin rfl trivial rfl rfl (fun _ => run_gt) ?_
      refine Dv.mv rfl trivial rfl ?_
      cases c112 : decide (0 < x107)
      · replace H := Gets.cf H c112
        refine Dv.skip rfl ⟨_, _, rfl, rfl, .inl rfl⟩ ?_
        refine Dv.skip rfl ⟨_, _, rfl, rfl, .inl rfl⟩ ?_
        refine Dv.skip rfl ⟨_, _, rfl, rfl, .inl rfl⟩ ?_
        refine Dv.skip rfl ⟨_, _, rfl, rfl, .inl rfl⟩ ?_
        refine Dv.skip rfl ⟨_, _, rfl, rfl, .inl rfl⟩ ?_
        refine Dv.pickF rfl trivial rfl rfl ?_
        refine Dv.mv rfl trivial rfl ?_
        refine Dv.skip rfl ⟨_, _, rfl, rfl, .inl rfl⟩ ?_
        refine Dv.skip rfl ⟨_, _, rfl, rfl, .inl rfl⟩ ?_
        refine Dv.skip rfl ⟨_, _, rfl, rfl, .inl rfl⟩ ?_
        refine Dv.skip rfl ⟨_, _, rfl, rfl, .inl rfl⟩ ?_
        refine Dv.skip rfl ⟨_, _, rfl, rfl, .inl rfl⟩ ?_
        refine Dv.skip rfl ⟨_, _, rfl, rfl, .inr rfl⟩ ?_
        refine Dv.skip rfl ⟨_, _, rfl, rfl, .inr rfl⟩ ?_
        refine Dv.skip rfl ⟨_, _, rfl, rfl, .inr rfl⟩ ?_
        refine Dv.skip rfl ⟨_, _, rfl, rfl, .inr rfl⟩ ?_
        refine Dv.skip rfl ⟨_, _, rfl, rfl, .inl rfl⟩ ?_
        refine Dv.pickF rfl trivial rfl rfl ?_
        refine Dv.asg rfl trivial rfl ?_
        refine .fin ?_
        refine WP.seq ?_
        refine WP.reg [(0, false), (1, false), (2, false), (3, false), (4, false), (5, false)] (by kernel_rfl) ?_
        refine Dv.mv rfl trivial rfl ?_
        refine Dv.un rfl trivial rfl (fun _ => run_not _) ?_
        refine Dv.mv rfl trivial rfl ?_
        cases c126 : !t110
        · replace H := Gets.cf H c126
          refine Dv.skip rfl ⟨_, _, rfl, rfl, .inl rfl⟩ ?_
          refine Dv.skip rfl ⟨_, _, rfl, rfl, .inl rfl⟩ ?_
          refine Dv.pickF rfl trivial rfl rfl ?_
          refine .fin ?_
          refine WP.cond rfl nofun (fun _ => ?_)
          refine WP.skip ?_
          refine WP.reg [(0, false), (1, false), (2, false)] (by kernel_rfl) ?_
          refine Dv.mv rfl trivial rfl ?_
          refine Dv.bin rfl trivial rfl rfl (fun _ => run_add) ?_
          refine Dv.asg rfl trivial rfl ?_
          refine .fin ?_
          exact Back.mk j129 (w64 (x107 + 1)) (Nat.lt_succ_self _) H (weak_cons rfl (weak_cons rfl (weak_cons rfl weak_nil))) (List.Perm.refl _)
        · replace H := Gets.ct H c126
          refine Dv.mv rfl ⟨_, _, rfl, rfl, rfl⟩ rfl ?_
          refine Dv.un rfl ⟨_, _, rfl, rfl, rfl⟩ rfl (fun _ => run_not _) ?_
          refine Dv.pickT rfl trivial rfl rfl ?_
          refine .fin ?_
          refine WP.cond rfl (fun _ => ?_) nofun
          refine WP.seq ?_
          refine WP.reg [(0, false)] (by kernel_rfl) ?_
          refine Dv.asg rfl trivial rfl ?_
          refine .fin ?_
          replace H := Gets.outr H
          obtain rfl := Gets.out H
          exact WP.retL (fun _ _ h => h) rfl () trivial (.cons (res_tmp rfl) .nil) rfl (st_sel (L := []) (F := F) [] 0 rfl rfl rfl)
      · replace H := Gets.ct H c112
        refine Dv.mv rfl ⟨_, _, rfl, rfl, rfl⟩ rfl ?_
        refine Dv.mv rfl ⟨_, _, rfl, rfl, rfl⟩ rfl ?_
        refine Dv.lens rfl ⟨_, _, rfl, rfl, rfl⟩ rfl Try.underlying9 ?_
        refine Dv.bin rfl ⟨_, _, rfl, rfl, rfl⟩ rfl rfl (fun _ => run_sub) ?_
        refine Dv.bin rfl ⟨_, _, rfl, rfl, rfl⟩ rfl rfl (fun _ => run_lt) ?_
        refine Dv.pickT rfl trivial rfl rfl ?_
        refine Dv.mv rfl trivial rfl ?_
        cases c113 : decide (x107 < (w64 ((a0.size : Int) - 1)))
        · replace H := Gets.cf H c113
          refine Dv.skip rfl ⟨_, _, rfl, rfl, .inl rfl⟩ ?_
          refine Dv.skip rfl ⟨_, _, rfl, rfl, .inl rfl⟩ ?_
          refine Dv.skip rfl ⟨_, _, rfl, rfl, .inl rfl⟩ ?_
          refine Dv.skip rfl ⟨_, _, rfl, rfl, .inl rfl⟩ ?_
          refine Dv.skip rfl ⟨_, _, rfl, rfl, .inl rfl⟩ ?_
          refine Dv.skip rfl ⟨_, _, rfl, rfl, .inr rfl⟩ ?_
          refine Dv.skip rfl ⟨_, _, rfl, rfl, .inr rfl⟩ ?_
          refine Dv.skip rfl ⟨_, _, rfl, rfl, .inr rfl⟩ ?_
          refine Dv.skip rfl ⟨_, _, rfl, rfl, .inr rfl⟩ ?_
          refine Dv.skip rfl ⟨_, _, rfl, rfl, .inl rfl⟩ ?_
          refine Dv.pickF rfl trivial rfl rfl ?_
          refine Dv.asg rfl trivial rfl ?_
          refine .fin ?_
          refine WP.seq ?_
          refine WP.reg [(0, false), (1, false), (2, false), (3, false), (4, false), (5, false)] (by kernel_rfl) ?_
          refine Dv.mv rfl trivial rfl ?_
          refine Dv.un rfl trivial rfl (fun _ => run_not _) ?_
          refine Dv.mv rfl trivial rfl ?_
          cases c123 : !t110
          · replace H := Gets.cf H c123
            refine Dv.skip rfl ⟨_, _, rfl, rfl, .inl rfl⟩ ?_
            refine Dv.skip rfl ⟨_, _, rfl, rfl, .inl rfl⟩ ?_
            refine Dv.pickF rfl trivial rfl rfl ?_
            refine .fin ?_
            refine WP.cond rfl nofun (fun _ => ?_)
            refine WP.skip ?_
            refine WP.reg [(0, false), (1, false), (2, false)] (by kernel_rfl) ?_
            refine Dv.mv rfl trivial rfl ?_
            refine Dv.bin rfl trivial rfl rfl (fun _ => run_add) ?_
            refine Dv.asg rfl trivial rfl ?_
            refine .fin ?_
            exact Back.mk j129 (w64 (x107 + 1)) (Nat.lt_succ_self _) H (weak_cons rfl (weak_cons rfl (weak_cons rfl weak_nil))) (List.Perm.refl _)
          · replace H := Gets.ct H c123
            refine Dv.mv rfl ⟨_, _, rfl, rfl, rfl⟩ rfl ?_
            refine Dv.un rfl ⟨_, _, rfl, rfl, rfl⟩ rfl (fun _ => run_not _) ?_
            refine Dv.pickT rfl trivial rfl rfl ?_
            refine .fin ?_
            refine WP.cond rfl (fun _ => ?_) nofun
            refine WP.seq ?_
            refine WP.reg [(0, false)] (by kernel_rfl) ?_
            refine Dv.asg rfl trivial rfl ?_
            refine .fin ?_
            replace H := Gets.outr H
            obtain rfl := Gets.out H
            exact WP.retL (fun _ _ h => h) rfl () trivial (.cons (res_tmp rfl) .nil) rfl (st_sel (L := []) (F := F) [] 0 rfl rfl rfl)
        · replace H := Gets.ct H c113
          refine Dv.mv rfl ⟨_, _, rfl, rfl, rfl⟩ rfl ?_
          refine Dv.mv rfl ⟨_, _, rfl, rfl, rfl⟩ rfl ?_
          obtain ⟨g114, H⟩ := Gets.grd H
          refine Dv.ixs rfl ⟨_, _, rfl, rfl, rfl⟩ rfl rfl Try.underlying9 g114.1 g114.2 ?_
          refine Dv.bin rfl ⟨_, _, rfl, rfl, rfl⟩ rfl rfl (fun _ => run_eq) ?_
          refine Dv.mv rfl ⟨_, _, rfl, rfl, rfl⟩ rfl ?_
          cases c115 : ((bt a0 x107) == 46)
          · replace H := Gets.cf H c115
            refine Dv.mv rfl ⟨_, _, rfl, rfl, rfl⟩ rfl ?_
            refine Dv.mv rfl ⟨_, _, rfl, rfl, rfl⟩ rfl ?_
            obtain ⟨g119, H⟩ := Gets.grd H
            refine Dv.ixs rfl ⟨_, _, rfl, rfl, rfl⟩ rfl rfl Try.underlying9 g119.1 g119.2 ?_
            refine Dv.bin rfl ⟨_, _, rfl, rfl, rfl⟩ rfl rfl (fun _ => run_eq) ?_
            refine Dv.pickF rfl ⟨_, _, rfl, rfl, rfl⟩ rfl rfl ?_
            refine Dv.pickT rfl trivial rfl rfl ?_
            refine Dv.asg rfl trivial rfl ?_
            refine .fin ?_
            refine WP.seq ?_
            refine WP.reg [(0, false), (1, false), (2, false), (3, false), (4, false), (5, false)] (by kernel_rfl) ?_
            refine Dv.mv rfl trivial rfl ?_
            refine Dv.un rfl trivial rfl (fun _ => run_not _) ?_
            refine Dv.mv rfl trivial rfl ?_
            cases c120 : !t110
            · replace H := Gets.cf H c120
              refine Dv.skip rfl ⟨_, _, rfl, rfl, .inl rfl⟩ ?_
              refine Dv.skip rfl ⟨_, _, rfl, rfl, .inl rfl⟩ ?_
              refine Dv.pickF rfl trivial rfl rfl ?_
              refine .fin ?_
              refine WP.cond rfl nofun (fun _ => ?_)
              refine WP.skip ?_
              refine WP.reg [(0, false), (1, false), (2, false)] (by kernel_rfl) ?_
              refine Dv.mv rfl trivial rfl ?_
              refine Dv.bin rfl trivial rfl rfl (fun _ => run_add) ?_
              refine Dv.asg rfl trivial rfl ?_
              refine .fin ?_
              exact Back.mk j129 (w64 (x107 + 1)) (Nat.lt_succ_self _) H (weak_cons rfl (weak_cons rfl (weak_cons rfl weak_nil))) (List.Perm.refl _)
            · replace H := Gets.ct H c120
              refine Dv.mv rfl ⟨_, _, rfl, rfl, rfl⟩ rfl ?_
              refine Dv.un rfl ⟨_, _, rfl, rfl, rfl⟩ rfl (fun _ => run_not _) ?_
              refine Dv.pickT rfl trivial rfl rfl ?_
              refine .fin ?_
              refine WP.cond rfl (fun c121 => ?_) (fun c121 => ?_)
              · replace H := Gets.ct H c121
                refine WP.seq ?_
                refine WP.reg [(0, false)] (by kernel_rfl) ?_
                refine Dv.asg rfl trivial rfl ?_
                refine .fin ?_
                replace H := Gets.outr H
                obtain rfl := Gets.out H
                exact WP.retL (fun _ _ h => h) rfl () trivial (.cons (res_tmp rfl) .nil) rfl (st_sel (L := []) (F := F) [] 0 rfl rfl rfl)
              · replace H := Gets.cf H c121
                refine WP.skip ?_
                refine WP.reg [(0, false), (1, false), (2, false)] (by kernel_rfl) ?_
                refine Dv.mv rfl trivial rfl ?_
                refine Dv.bin rfl trivial rfl rfl (fun _ => run_add) ?_
                refine Dv.asg rfl trivial rfl ?_
                refine .fin ?_
                exact Back.mk j129 (w64 (x107 + 1)) (Nat.lt_succ_self _) H (weak_cons rfl (weak_cons rfl (weak_cons rfl weak_nil))) (List.Perm.refl _)
          · replace H := Gets.ct H c115
            refine Dv.skip rfl ⟨_, _, rfl, rfl, .inl rfl⟩ ?_
            refine Dv.skip rfl ⟨_, _, rfl, rfl, .inl rfl⟩ ?_
            refine Dv.skip rfl ⟨_, _, rfl, rfl, .inl rfl⟩ ?_
            refine Dv.skip rfl ⟨_, _, rfl, rfl, .inl rfl⟩ ?_
            refine Dv.pickT rfl ⟨_, _, rfl, rfl, rfl⟩ rfl rfl ?_
            refine Dv.pickT rfl trivial rfl rfl ?_
            refine Dv.asg rfl trivial rfl ?_
            refine .fin ?_
            refine WP.seq ?_
            refine WP.reg [(0, false), (1, false), (2, false), (3, false), (4, false), (5, false)] (by kernel_rfl) ?_
            refine Dv.mv rfl trivial rfl ?_
            refine Dv.un rfl trivial rfl (fun _ => run_not _) ?_
            refine Dv.mv rfl trivial rfl ?_
            cases c116 : !t110
            · replace H := Gets.cf H c116
              refine Dv.skip rfl ⟨_, _, rfl, rfl, .inl rfl⟩ ?_
              refine Dv.skip rfl ⟨_, _, rfl, rfl, .inl rfl⟩ ?_
              refine Dv.pickF rfl trivial rfl rfl ?_
              refine .fin ?_
              refine WP.cond rfl nofun (fun _ => ?_)
              refine WP.skip ?_
              refine WP.reg [(0, false), (1, false), (2, false)] (by kernel_rfl) ?_
              refine Dv.mv rfl trivial rfl ?_
              refine Dv.bin rfl trivial rfl rfl (fun _ => run_add) ?_
              refine Dv.asg rfl trivial rfl ?_
              refine .fin ?_
              exact Back.mk j129 (w64 (x107 + 1)) (Nat.lt_succ_self _) H (weak_cons rfl (weak_cons rfl (weak_cons rfl weak_nil))) (List.Perm.refl _)
            · replace H := Gets.ct H c116
              refine Dv.mv rfl ⟨_, _, rfl, rfl, rfl⟩ rfl ?_
              refine Dv.un rfl ⟨_, _, rfl, rfl, rfl⟩ rfl (fun _ => run_not _) ?_
              refine Dv.pickT rfl trivial rfl rfl ?_
              refine .fin ?_
              refine WP.cond rfl nofun (fun _ => ?_)
              refine WP.skip ?_
              refine WP.reg [(0, false), (1, false), (2, false)] (by kernel_rfl) ?_
              refine Dv.mv rfl trivial rfl ?_
              refine Dv.bin rfl trivial rfl rfl (fun _ => run_add) ?_
              refine Dv.asg rfl trivial rfl ?_
              refine .fin ?_
              exact Back.mk j129 (w64 (x107 + 1)) (Nat.lt_succ_self _) H (weak_cons rfl (weak_cons rfl (weak_cons rfl weak_nil))) (List.Perm.refl _)
    · replace H := Gets.cf H c108
      refine WP.exit ?_
      replace H := Gets.out H
      exact Jn.mk (x107, decide (x107 < (a0.size : Int))) H (weak_cons rfl (weak_cons rfl (weak_cons rfl (weak_cons rfl weak_nil)))) (List.Perm.refl _)
theorem concourseref01_Named.c {k : Nat} {a0 : ByteArray} {a1 : Int} {r : Bool} (h : concourseref01_Named.f k a0 a1 = some r) : Pt Try.prog 41 [eq (.string a0), eq (.int .u8 a1)] (eq (.bool r)) := by
  unfold concourseref01_Named.f at h
  refine (Tr.body Try.func41 (c := _) rfl Try.ntmps41 (Nat.le_of_ble_eq_true rfl) fun R0 F => ?_).pt
  replace h := Gets.of h
  have H := h
  clear h
  refine WP.seq ?_
  refine WP.reg [(0, false)] (by kernel_rfl) ?_
  refine Dv.asg rfl trivial rfl ?_
  refine .fin ?_
  refine WP.seq ?_
  refine WP.reg [(0, false), (1, false), (2, false)] (by kernel_rfl) ?_
  refine Dv.mv rfl trivial rfl ?_
  obtain ⟨t131, h132, H⟩ := Gets.call H
  refine Dv.call rfl trivial cal46 rfl (concourseref01_colon.c h132) ?_
  refine Dv.asg rfl trivial rfl ?_
  refine .fin ?_
  refine WP.seq ?_
  refine WP.seq ?_
  refine WP.reg [(0, false), (1, false), (2, false), (3, false), (4, false), (5, false), (6, false), (7, false)] (by kernel_rfl) ?_
  refine Dv.mv rfl trivial rfl ?_
  refine Dv.bin rfl trivial rfl rfl (fun _ => run_lt) ?_
  refine Dv.mv rfl trivial rfl ?_
  cases c133 : decide (t131 < 1)
  · replace H := Gets.cf H c133
    refine Dv.mv rfl ⟨_, _, rfl, rfl, rfl⟩ rfl ?_
    obtain ⟨g135, H⟩ := Gets.grd H
    refine Dv.ixs rfl ⟨_, _, rfl, rfl, rfl⟩ rfl rfl Try.underlying9 g135.1 g135.2 ?_
    refine Dv.mv rfl ⟨_, _, rfl, rfl, rfl⟩ rfl ?_
    refine Dv.bin rfl ⟨_, _, rfl, rfl, rfl⟩ rfl rfl (fun _ => run_ne) ?_
    refine Dv.pickF rfl trivial rfl rfl ?_
    refine .fin ?_
    refine WP.cond rfl (fun c136 => ?_) (fun c136 => ?_)
    · replace H := Gets.ct H c136
      refine WP.seq ?_
      refine WP.reg [(0, false)] (by kernel_rfl) ?_
      refine Dv.asg rfl trivial rfl ?_
      refine .fin ?_
      obtain rfl := Gets.out H
      exact WP.retL (fun _ _ h => h) rfl () trivial (.cons (res_tmp rfl) .nil) rfl (st_sel (L := []) (F := F) [] 0 rfl rfl rfl)
    · replace H := Gets.cf H c136
      refine WP.skip ?_
      refine WP.seq ?_
      refine WP.reg [(0, false), (1, false), (2, false), (3, false), (4, false)] (by kernel_rfl) ?_
      refine Dv.mv rfl trivial rfl ?_
      refine Dv.mv rfl trivial rfl ?_
      obtain ⟨g137, H⟩ := Gets.grd H
      refine Dv.sss rfl trivial rfl Try.underlying9 (bdE_some rfl g137.1) (bdE_some rfl g137.2.1) g137.2.2.1 g137.2.2.2 ?_
      obtain ⟨t138, h139, H⟩ := Gets.call H
      refine Dv.call rfl trivial cal47 rfl (concourseref01_Part.c h139) ?_
      refine Dv.asg rfl trivial rfl ?_
      refine .fin ?_
      refine WP.seq ?_
      refine WP.reg [(0, false), (1, false), (2, false), (3, false), (4, false), (5, false)] (by kernel_rfl) ?_
      refine Dv.mv rfl trivial rfl ?_
      refine Dv.mv rfl trivial rfl ?_
      refine Dv.bin rfl trivial rfl rfl (fun _ => run_add) ?_
      obtain ⟨g140, H⟩ := Gets.grd H
      refine Dv.sss rfl trivial rfl Try.underlying9 (bdE_some rfl g140.1) bdE_none g140.2.1 g140.2.2 ?_
      obtain ⟨t141, h142, H⟩ := Gets.call H
      refine Dv.call rfl trivial cal48 rfl (concourseref01_Server.c h142) ?_
      refine Dv.asg rfl trivial rfl ?_
      refine .fin ?_
      refine WP.seq ?_
      refine WP.reg [(0, false), (1, false), (2, false), (3, false), (4, false)] (by kernel_rfl) ?_
      refine Dv.mv rfl trivial rfl ?_
      refine Dv.mv rfl trivial rfl ?_
      cases c143 : t138
      · replace H := Gets.cf H c143
        refine Dv.skip rfl ⟨_, _, rfl, rfl, .inl rfl⟩ ?_
        refine Dv.pickF rfl trivial rfl rfl ?_
        refine Dv.asg rfl trivial rfl ?_
        refine .fin ?_
        obtain rfl := Gets.out H
        exact WP.retL (fun _ _ h => h) rfl () trivial (.cons (res_tmp rfl) .nil) rfl (st_sel (L := []) (F := F) [] 0 rfl rfl rfl)
      · replace H := Gets.ct H c143
        refine Dv.mv rfl ⟨_, _, rfl, rfl, rfl⟩ rfl ?_
        refine Dv.pickT rfl trivial rfl rfl ?_
        refine Dv.asg rfl trivial rfl ?_
        refine .fin ?_
        obtain rfl := Gets.out H
        exact WP.retL (fun _ _ h => h) rfl () trivial (.cons (res_tmp rfl) .nil) rfl (st_sel (L := []) (F := F) [] 0 rfl rfl rfl)
  · replace H := Gets.ct H c133
    refine Dv.skip rfl ⟨_, _, rfl, rfl, .inl rfl⟩ ?_
    refine Dv.skip rfl ⟨_, _, rfl, rfl, .inl rfl⟩ ?_
    refine Dv.skip rfl ⟨_, _, rfl, rfl, .inl rfl⟩ ?_
    refine Dv.skip rfl ⟨_, _, rfl, rfl, .inl rfl⟩ ?_
    refine Dv.pickT rfl trivial rfl rfl ?_
    refine .fin ?_
    refine WP.cond rfl (fun _ => ?_) nofun
    refine WP.seq ?_
    refine WP.reg [(0, false)] (by kernel_rfl) ?_
    refine Dv.asg rfl trivial rfl ?_
    refine .fin ?_
    obtain rfl := Gets.out H
    exact WP.retL (fun _ _ h => h) rfl () trivial (.cons (res_tmp rfl) .nil) rfl (st_sel (L := []) (F := F) [] 0 rfl rfl rfl)
theorem concourseref07_May.c {k : Nat} {a0 : Event} {r : Bool} (h : concourseref07_May.f k a0 = some r) : Pt Try.prog 35 [agg (Event.enc a0)] (eq (.bool r)) := by
  unfold concourseref07_May.f at h
  refine (Tr.body Try.func35 (c := _) rfl Try.ntmps35 (Nat.le_of_ble_eq_true rfl) fun R0 F => ?_).pt
  replace h := Gets.of h
  have H := h
  clear h
  refine WP.seq ?_
  refine WP.reg [(0, true), (1, false)] (by kernel_rfl) ?_
  refine Dv.box rfl trivial rfl (cells_agg (Event.K.one _)) nofun (fun b144 => ?_)
  refine Dv.asg rfl trivial rfl ?_
  refine .fin ?_
  refine WP.seq ?_
  refine WP.reg [(0, false), (1, false), (2, false), (3, false)] (by kernel_rfl) ?_
  refine Dv.fab rfl trivial rfl Try.underlying42 rfl Try.underlying9 c9 (by decide) ?_
  refine Dv.ldb rfl trivial rfl Try.underlying9 rfl (mem_at 0 rfl) rfl ?_
  obtain ⟨t145, h146, H⟩ := Gets.call H
  refine Dv.call rfl trivial cal40 rfl (concourseref01_Event.c h146) ?_
  refine Dv.asg rfl trivial rfl ?_
  refine .fin ?_
  refine WP.seq ?_
  refine WP.reg [(0, false), (1, false), (2, false), (3, false)] (by kernel_rfl) ?_
  refine Dv.fab rfl trivial rfl Try.underlying42 rfl Try.underlying9 c9 (by decide) ?_
  refine Dv.ldb rfl trivial rfl Try.underlying9 rfl (mem_at 0 rfl) rfl ?_
  obtain ⟨t147, h148, H⟩ := Gets.call H
  refine Dv.call rfl trivial cal41 rfl (concourseref01_Named.c h148) ?_
  refine Dv.asg rfl trivial rfl ?_
  refine .fin ?_
  refine WP.seq ?_
  refine WP.reg [(0, false), (1, false), (2, false), (3, false)] (by kernel_rfl) ?_
  refine Dv.fab rfl trivial rfl Try.underlying42 rfl Try.underlying9 c9 (by decide) ?_
  refine Dv.ldb rfl trivial rfl Try.underlying9 rfl (mem_at 0 rfl) rfl ?_
  obtain ⟨t149, h150, H⟩ := Gets.call H
  refine Dv.call rfl trivial cal41 rfl (concourseref01_Named.c h150) ?_
  refine Dv.asg rfl trivial rfl ?_
  refine .fin ?_
  refine WP.seq ?_
  refine WP.seq ?_
  refine WP.reg [(0, false), (1, false), (2, false), (3, false), (4, false), (5, false), (6, false), (7, false), (8, false), (9, false), (10, false), (11, false), (12, false), (13, false), (14, false), (15, false), (16, false), (17, false), (18, false), (19, false), (20, false), (21, false), (22, false), (23, false), (24, false), (25, false)] (by kernel_rfl) ?_
  refine Dv.mv rfl trivial rfl ?_
  refine Dv.un rfl trivial rfl (fun _ => run_not _) ?_
  refine Dv.mv rfl trivial rfl ?_
  cases c151 : !t145
  · replace H := Gets.cf H c151
    refine Dv.mv rfl ⟨_, _, rfl, rfl, rfl⟩ rfl ?_
    refine Dv.un rfl ⟨_, _, rfl, rfl, rfl⟩ rfl (fun _ => run_not _) ?_
    refine Dv.pickF rfl trivial rfl rfl ?_
    refine Dv.mv rfl trivial rfl ?_
    cases c153 : !t147
    · replace H := Gets.cf H c153
      refine Dv.mv rfl ⟨_, _, rfl, rfl, rfl⟩ rfl ?_
      refine Dv.un rfl ⟨_, _, rfl, rfl, rfl⟩ rfl (fun _ => run_not _) ?_
      refine Dv.pickF rfl trivial rfl rfl ?_
      refine Dv.mv rfl trivial rfl ?_
      cases c155 : !t149
      · replace H := Gets.cf H c155
        refine Dv.fab rfl ⟨_, _, rfl, rfl, rfl⟩ rfl Try.underlying42 rfl Try.underlying40 c40 (by decide) ?_
        refine Dv.ldb rfl ⟨_, _, rfl, rfl, rfl⟩ rfl Try.underlying40 rfl (mem_at 0 rfl) rfl ?_
        refine Dv.lenl rfl ⟨_, _, rfl, rfl, rfl⟩ rfl Try.underlying40 ?_
        refine Dv.bin rfl ⟨_, _, rfl, rfl, rfl⟩ rfl rfl (fun _ => run_gt) ?_
        refine Dv.pickF rfl trivial rfl rfl ?_
        refine Dv.mv rfl trivial rfl ?_
        cases c157 : decide (4 < (a0.fParents.length : Int))
        · replace H := Gets.cf H c157
          refine Dv.fab rfl ⟨_, _, rfl, rfl, rfl⟩ rfl Try.underlying42 rfl Try.underlying3 c3 (by decide) ?_
          refine Dv.ldb rfl ⟨_, _, rfl, rfl, rfl⟩ rfl Try.underlying3 rfl (mem_at 0 rfl) rfl ?_
          refine Dv.bin rfl ⟨_, _, rfl, rfl, rfl⟩ rfl rfl (fun _ => run_lt) ?_
          refine Dv.pickF rfl trivial rfl rfl ?_
          refine Dv.mv rfl trivial rfl ?_
          cases c159 : decide (a0.fDoes < 0)
          · replace H := Gets.cf H c159
            refine Dv.fab rfl ⟨_, _, rfl, rfl, rfl⟩ rfl Try.underlying42 rfl Try.underlying3 c3 (by decide) ?_
            refine Dv.ldb rfl ⟨_, _, rfl, rfl, rfl⟩ rfl Try.underlying3 rfl (mem_at 0 rfl) rfl ?_
            refine Dv.bin rfl ⟨_, _, rfl, rfl, rfl⟩ rfl rfl (fun _ => run_gt) ?_
            refine Dv.pickF rfl trivial rfl rfl ?_
            refine .fin ?_
            refine WP.cond rfl (fun c161 => ?_) (fun c161 => ?_)
            · replace H := Gets.ct H c161
              refine WP.seq ?_
              refine WP.reg [(0, false)] (by kernel_rfl) ?_
              refine Dv.asg rfl trivial rfl ?_
              refine .fin ?_
              obtain rfl := Gets.out H
              exact WP.retL (fun _ _ h => h) rfl () trivial (.cons (res_tmp rfl) .nil) rfl (st_sel (L := [blk b144 42 [eq (.string a0.fID), eq (.string a0.fRoom), sl strK a0.fParents, eq (.string a0.fThread), eq (.string a0.fUser), eq (.int .i64 a0.fDoes)]]) (F := F) [0] 1 rfl rfl rfl)
            · replace H := Gets.cf H c161
              refine WP.skip ?_
              refine WP.seqr H id (fun p162 : Unit => [(0, agg (Event.enc a0)), (1, eq (.pointer (some ⟨b144, 0, none⟩))), (2, eq (.bool false)), (3, eq (.bool t145)), (4, eq (.bool t147)), (5, eq (.bool t149)), (43, eq (.bool (decide (2 < a0.fDoes)))), (46, eq (.bool (!decide (a0.fThread = (⟨#[]⟩ : ByteArray)))))]) (fun p162 : Unit => [blk b144 42 [eq (.string a0.fID), eq (.string a0.fRoom), sl strK a0.fParents, eq (.string a0.fThread), eq (.string a0.fUser), eq (.int .i64 a0.fDoes)]] ++ F) (fun p162 H => ?_) (fun H => ?_)
              · refine WP.seqr H id (fun p163 : Int × Bool => [(0, agg (Event.enc a0)), (1, eq (.pointer (some ⟨b144, 0, none⟩))), (2, eq (.bool false)), (3, eq (.bool t145)), (4, eq (.bool t147)), (5, eq (.bool t149)), (7, eq (.int .i64 p163.1)), (43, eq (.bool (decide (2 < a0.fDoes)))), (46, eq (.bool (!decide (a0.fThread = (⟨#[]⟩ : ByteArray))))), (68, eq (.bool p163.2))]) (fun p163 : Int × Bool => [blk b144 42 [eq (.string a0.fID), eq (.string a0.fRoom), sl strK a0.fParents, eq (.string a0.fThread), eq (.string a0.fUser), eq (.int .i64 a0.fDoes)]] ++ F) (fun p163 H => ?_) (fun H => ?_)
                · refine WP.seq ?_
                  refine WP.reg [(0, false)] (by kernel_rfl) ?_
                  refine Dv.asg rfl trivial rfl ?_
                  refine .fin ?_
                  obtain rfl := Gets.out H
                  exact WP.retL (fun _ _ h => h) rfl () trivial (.cons (res_tmp rfl) .nil) rfl (st_sel (L := [blk b144 42 [eq (.string a0.fID), eq (.string a0.fRoom), sl strK a0.fParents, eq (.string a0.fThread), eq (.string a0.fUser), eq (.int .i64 a0.fDoes)]]) (F := F) [0] 1 rfl rfl rfl)
                · refine WP.seq ?_
                  refine WP.reg [(0, false)] (by kernel_rfl) ?_
                  refine Dv.asg rfl trivial rfl ?_
                  refine .fin ?_
                  refine WP.block ?_
                  refine WP.gh (l' := fun _ => [blk b144 42 [eq (.string a0.fID), eq (.string a0.fRoom), sl strK a0.fParents, eq (.string a0.fThread), eq (.string a0.fUser), eq (.int .i64 a0.fDoes)]] ++ F) (gh_of (st_selg (L := [blk b144 42 [eq (.string a0.fID), eq (.string a0.fRoom), sl strK a0.fParents, eq (.string a0.fThread), eq (.string a0.fUser), eq (.int .i64 a0.fDoes)]]) (F := F) [0] 0 rfl rfl rfl)) (fun _ _ => ?_)
                  refine WP.loopg (fun j_ (p179 : Int) => concourseref07_May.l0 k a0 j_ p179) 0 H (fun p179 => [(0, agg (Event.enc a0)), (1, eq (.pointer (some ⟨b144, 0, none⟩))), (2, eq (.bool false)), (3, eq (.bool t145)), (4, eq (.bool t147)), (5, eq (.bool t149)), (7, eq (.int .i64 p179)), (43, eq (.bool (decide (2 < a0.fDoes)))), (46, eq (.bool (!decide (a0.fThread = (⟨#[]⟩ : ByteArray)))))]) (fun p179 => [blk b144 42 [eq (.string a0.fID), eq (.string a0.fRoom), sl strK a0.fParents, eq (.string a0.fThread), eq (.string a0.fUser), eq (.int .i64 a0.fDoes)]] ++ F) (weak_cons rfl (weak_cons rfl (weak_cons rfl (weak_cons rfl (weak_cons rfl (weak_cons rfl (weak_cons rfl (weak_cons rfl (weak_cons rfl weak_nil))))))))) (List.Perm.refl _) ?_
                  rintro j_ x164 H
                  rcases j_ with _ | j178
                  · exact (Gets.no H).elim
                  replace H : Gets (concourseref07_May.l0 k a0 (j178 + 1) x164) _ := H
                  rw [concourseref07_May.l0] at H
                  refine WP.seq ?_
                  refine WP.seq ?_
                  refine WP.reg [(0, false), (1, false), (2, false), (3, false), (4, false)] (by kernel_rfl) ?_
                  refine Dv.mv rfl trivial rfl ?_
                  refine Dv.fab rfl trivial rfl Try.underlying42 rfl Try.underlying40 c40 (by decide) ?_
                  refine Dv.ldb rfl trivial rfl Try.underlying40 rfl (mem_at 0 rfl) rfl ?_
                  refine Dv.lenl rfl trivial rfl Try.underlying40 ?_
                  refine Dv.bin rfl trivial rfl rfl (fun _ => run_lt) ?_
                  refine .fin ?_
                  refine WP.cond rfl (fun c165 => ?_) (fun c165 => ?_)
                  · replace H := Gets.ct H c165
                    refine WP.skip ?_
                    refine WP.seq ?_
                    refine WP.block ?_
                    refine WP.seq ?_
                    refine WP.reg [(0, false), (1, false), (2, false), (3, false), (4, false), (5, false), (6, false)] (by kernel_rfl) ?_
                    refine Dv.fab rfl trivial rfl Try.underlying42 rfl Try.underlying40 c40 (by decide) ?_
                    refine Dv.ldb rfl trivial rfl Try.underlying40 rfl (mem_at 0 rfl) rfl ?_
                    refine Dv.mv rfl trivial rfl ?_
                    obtain ⟨g166, H⟩ := Gets.grd H
                    refine Dv.ixr rfl trivial rfl rfl Try.underlying40 Try.underlying9 c9 g166.1 g166.2 ?_
                    refine Dv.ldr rfl trivial rfl Try.underlying9 rfl rfl ?_
                    obtain ⟨t167, h168, H⟩ := Gets.call H
                    refine Dv.call rfl trivial cal40 rfl (concourseref01_Event.c h168) ?_
                    refine Dv.asg rfl trivial rfl ?_
                    refine .fin ?_
                    refine WP.seq ?_
                    refine WP.seq ?_
                    refine WP.dreg Try.checked.mixed [(0, false), (1, false), (2, false), (3, false), (4, false), (5, false), (6, false), (7, false), (8, false), (9, false), (10, false), (11, false)] (by kernel_rfl) ?_
                    refine Dv.mv rfl trivial rfl ?_
                    refine Dv.un rfl trivial rfl (fun _ => run_not _) ?_
                    refine Dv.mv rfl trivial rfl ?_
                    cases c169 : !t167
                    · replace H := Gets.cf H c169
                      refine Dv.fab rfl ⟨_, _, rfl, rfl, rfl⟩ rfl Try.underlying42 rfl Try.underlying40 c40 (by decide) ?_
                      refine Dv.ldb rfl ⟨_, _, rfl, rfl, rfl⟩ rfl Try.underlying40 rfl (mem_at 0 rfl) rfl ?_
                      refine Dv.mv rfl ⟨_, _, rfl, rfl, rfl⟩ rfl ?_
                      obtain ⟨g171, H⟩ := Gets.grd H
                      refine Dv.ixr rfl ⟨_, _, rfl, rfl, rfl⟩ rfl rfl Try.underlying40 Try.underlying9 c9 g171.1 g171.2 ?_
                      refine Dv.ldr rfl ⟨_, _, rfl, rfl, rfl⟩ rfl Try.underlying9 rfl rfl ?_
                      refine Dv.fab rfl ⟨_, _, rfl, rfl, rfl⟩ rfl Try.underlying42 rfl Try.underlying9 c9 (by decide) ?_
                      refine Dv.ldb rfl ⟨_, _, rfl, rfl, rfl⟩ rfl Try.underlying9 rfl (mem_at 0 rfl) rfl ?_
                      refine Dv.bin rfl ⟨_, _, rfl, rfl, rfl⟩ rfl rfl (fun _ => run_seq) ?_
                      refine Dv.pickF rfl trivial rfl rfl ?_
                      refine .fin ?_
                      refine WP.cond rfl (fun c172 => ?_) (fun c172 => ?_)
                      · replace H := Gets.ct H c172
                        refine WP.seq ?_
                        refine WP.reg [(0, false)] (by kernel_rfl) ?_
                        refine Dv.asg rfl trivial rfl ?_
                        refine .fin ?_
                        replace H := Gets.outr H
                        obtain rfl := Gets.out H
                        exact WP.retL (fun _ _ h => h) rfl () trivial (.cons (res_tmp rfl) .nil) rfl (st_sel (L := [blk b144 42 [eq (.string a0.fID), eq (.string a0.fRoom), sl strK a0.fParents, eq (.string a0.fThread), eq (.string a0.fUser), eq (.int .i64 a0.fDoes)]]) (F := F) [0] 1 rfl rfl rfl)
                      · replace H := Gets.cf H c172
                        refine WP.skip ?_
                        refine WP.seq ?_
                        refine WP.dreg Try.checked.mixed [(0, false), (1, false), (2, false), (3, false), (4, false), (5, false), (6, false), (7, false), (8, false), (9, false), (10, false), (11, false), (12, false), (13, false), (14, false), (15, false), (16, false)] (by kernel_rfl) ?_
                        refine Dv.mv rfl trivial rfl ?_
                        refine Dv.bin rfl trivial rfl rfl (fun _ => run_gt) ?_
                        refine Dv.mv rfl trivial rfl ?_
                        cases c173 : decide (0 < x164)
                        · replace H := Gets.cf H c173
                          refine Dv.skip rfl ⟨_, _, rfl, rfl, .inl rfl⟩ ?_
                          refine Dv.skip rfl ⟨_, _, rfl, rfl, .inl rfl⟩ ?_
                          refine Dv.skip rfl ⟨_, _, rfl, rfl, .inl rfl⟩ ?_
                          refine Dv.skip rfl ⟨_, _, rfl, rfl, .inl rfl⟩ ?_
                          refine Dv.skip rfl ⟨_, _, rfl, rfl, .inl rfl⟩ ?_
                          refine Dv.skip rfl ⟨_, _, rfl, rfl, .inl rfl⟩ ?_
                          refine Dv.skip rfl ⟨_, _, rfl, rfl, .inl rfl⟩ ?_
                          refine Dv.skip rfl ⟨_, _, rfl, rfl, .inl rfl⟩ ?_
                          refine Dv.skip rfl ⟨_, _, rfl, rfl, .inl rfl⟩ ?_
                          refine Dv.skip rfl ⟨_, _, rfl, rfl, .inl rfl⟩ ?_
                          refine Dv.skip rfl ⟨_, _, rfl, rfl, .inl rfl⟩ ?_
                          refine Dv.skip rfl ⟨_, _, rfl, rfl, .inl rfl⟩ ?_
                          refine Dv.skip rfl ⟨_, _, rfl, rfl, .inl rfl⟩ ?_
                          refine Dv.pickF rfl trivial rfl rfl ?_
                          refine .fin ?_
                          refine WP.cond rfl nofun (fun _ => ?_)
                          refine WP.skip ?_
                          refine WP.reg [(0, false), (1, false), (2, false)] (by kernel_rfl) ?_
                          refine Dv.mv rfl trivial rfl ?_
                          refine Dv.bin rfl trivial rfl rfl (fun _ => run_add) ?_
                          refine Dv.asg rfl trivial rfl ?_
                          refine .fin ?_
                          exact Back.mk j178 (w64 (x164 + 1)) (Nat.lt_succ_self _) H (weak_cons rfl (weak_cons rfl (weak_cons rfl (weak_cons rfl (weak_cons rfl (weak_cons rfl (weak_cons rfl (weak_cons rfl (weak_cons rfl weak_nil))))))))) (List.Perm.refl _)
                        · replace H := Gets.ct H c173
                          refine Dv.fab rfl ⟨_, _, rfl, rfl, rfl⟩ rfl Try.underlying42 rfl Try.underlying40 c40 (by decide) ?_
                          refine Dv.ldb rfl ⟨_, _, rfl, rfl, rfl⟩ rfl Try.underlying40 rfl (mem_at 0 rfl) rfl ?_
                          refine Dv.mv rfl ⟨_, _, rfl, rfl, rfl⟩ rfl ?_
                          refine Dv.bin rfl ⟨_, _, rfl, rfl, rfl⟩ rfl rfl (fun _ => run_sub) ?_
                          refine Dv.maxi rfl ⟨_, _, rfl, rfl, rfl⟩ rfl rfl ?_
                          obtain ⟨g174, H⟩ := Gets.grd H
                          refine Dv.ixr rfl ⟨_, _, rfl, rfl, rfl⟩ rfl rfl Try.underlying40 Try.underlying9 c9 g174.1 g174.2 ?_
                          refine Dv.ldr rfl ⟨_, _, rfl, rfl, rfl⟩ rfl Try.underlying9 rfl rfl ?_
                          refine Dv.fab rfl ⟨_, _, rfl, rfl, rfl⟩ rfl Try.underlying42 rfl Try.underlying40 c40 (by decide) ?_
                          refine Dv.ldb rfl ⟨_, _, rfl, rfl, rfl⟩ rfl Try.underlying40 rfl (mem_at 0 rfl) rfl ?_
                          refine Dv.mv rfl ⟨_, _, rfl, rfl, rfl⟩ rfl ?_
                          obtain ⟨g175, H⟩ := Gets.grd H
                          refine Dv.ixr rfl ⟨_, _, rfl, rfl, rfl⟩ rfl rfl Try.underlying40 Try.underlying9 c9 g175.1 g175.2 ?_
                          refine Dv.ldr rfl ⟨_, _, rfl, rfl, rfl⟩ rfl Try.underlying9 rfl rfl ?_
                          refine Dv.bin rfl ⟨_, _, rfl, rfl, rfl⟩ rfl rfl (fun _ => run_sge) ?_
                          refine Dv.pickT rfl trivial rfl rfl ?_
                          refine .fin ?_
                          refine WP.cond rfl (fun c176 => ?_) (fun c176 => ?_)
                          · replace H := Gets.ct H c176
                            refine WP.seq ?_
                            refine WP.reg [(0, false)] (by kernel_rfl) ?_
                            refine Dv.asg rfl trivial rfl ?_
                            refine .fin ?_
                            replace H := Gets.outr H
                            obtain rfl := Gets.out H
                            exact WP.retL (fun _ _ h => h) rfl () trivial (.cons (res_tmp rfl) .nil) rfl (st_sel (L := [blk b144 42 [eq (.string a0.fID), eq (.string a0.fRoom), sl strK a0.fParents, eq (.string a0.fThread), eq (.string a0.fUser), eq (.int .i64 a0.fDoes)]]) (F := F) [0] 1 rfl rfl rfl)
                          · replace H := Gets.cf H c176
                            refine WP.skip ?_
                            refine WP.reg [(0, false), (1, false), (2, false)] (by kernel_rfl) ?_
                            refine Dv.mv rfl trivial rfl ?_
                            refine Dv.bin rfl trivial rfl rfl (fun _ => run_add) ?_
                            refine Dv.asg rfl trivial rfl ?_
                            refine .fin ?_
                            exact Back.mk j178 (w64 (x164 + 1)) (Nat.lt_succ_self _) H (weak_cons rfl (weak_cons rfl (weak_cons rfl (weak_cons rfl (weak_cons rfl (weak_cons rfl (weak_cons rfl (weak_cons rfl (weak_cons rfl weak_nil))))))))) (List.Perm.refl _)
                    · replace H := Gets.ct H c169
                      refine Dv.skip rfl ⟨_, _, rfl, rfl, .inl rfl⟩ ?_
                      refine Dv.skip rfl ⟨_, _, rfl, rfl, .inl rfl⟩ ?_
                      refine Dv.skip rfl ⟨_, _, rfl, rfl, .inl rfl⟩ ?_
                      refine Dv.skip rfl ⟨_, _, rfl, rfl, .inl rfl⟩ ?_
                      refine Dv.skip rfl ⟨_, _, rfl, rfl, .inl rfl⟩ ?_
                      refine Dv.skip rfl ⟨_, _, rfl, rfl, .inl rfl⟩ ?_
                      refine Dv.skip rfl ⟨_, _, rfl, rfl, .inl rfl⟩ ?_
                      refine Dv.skip rfl ⟨_, _, rfl, rfl, .inl rfl⟩ ?_
                      refine Dv.pickT rfl trivial rfl rfl ?_
                      refine .fin ?_
                      refine WP.cond rfl (fun _ => ?_) nofun
                      refine WP.seq ?_
                      refine WP.reg [(0, false)] (by kernel_rfl) ?_
                      refine Dv.asg rfl trivial rfl ?_
                      refine .fin ?_
                      replace H := Gets.outr H
                      obtain rfl := Gets.out H
                      exact WP.retL (fun _ _ h => h) rfl () trivial (.cons (res_tmp rfl) .nil) rfl (st_sel (L := [blk b144 42 [eq (.string a0.fID), eq (.string a0.fRoom), sl strK a0.fParents, eq (.string a0.fThread), eq (.string a0.fUser), eq (.int .i64 a0.fDoes)]]) (F := F) [0] 1 rfl rfl rfl)
                  · replace H := Gets.cf H c165
                    refine WP.exit ?_
                    replace H := Gets.out H
                    exact Jn.mk (x164, decide (x164 < (a0.fParents.length : Int))) H (weak_cons rfl (weak_cons rfl (weak_cons rfl (weak_cons rfl (weak_cons rfl (weak_cons rfl (weak_cons rfl (weak_cons rfl (weak_cons rfl (weak_cons rfl weak_nil)))))))))) (List.Perm.refl _)
              · refine WP.seq ?_
                refine WP.reg [(0, false), (1, false), (2, false)] (by kernel_rfl) ?_
                refine Dv.fab rfl trivial rfl Try.underlying42 rfl Try.underlying9 c9 (by decide) ?_
                refine Dv.ldb rfl trivial rfl Try.underlying9 rfl (mem_at 0 rfl) rfl ?_
                refine Dv.bin rfl trivial rfl rfl (fun _ => run_sne) ?_
                refine .fin ?_
                refine WP.cond rfl (fun c180 => ?_) (fun c180 => ?_)
                · replace H := Gets.ct H c180
                  refine WP.seq ?_
                  refine WP.reg [(0, false), (1, false), (2, false), (3, false)] (by kernel_rfl) ?_
                  refine Dv.fab rfl trivial rfl Try.underlying42 rfl Try.underlying9 c9 (by decide) ?_
                  refine Dv.ldb rfl trivial rfl Try.underlying9 rfl (mem_at 0 rfl) rfl ?_
                  obtain ⟨t181, h182, H⟩ := Gets.call H
                  refine Dv.call rfl trivial cal40 rfl (concourseref01_Event.c h182) ?_
                  refine Dv.asg rfl trivial rfl ?_
                  refine .fin ?_
                  refine WP.seq ?_
                  refine WP.reg [(0, false), (1, false), (2, false), (3, false), (4, false), (5, false), (6, false), (7, false), (8, false), (9, false), (10, false), (11, false), (12, false), (13, false)] (by kernel_rfl) ?_
                  refine Dv.mv rfl trivial rfl ?_
                  refine Dv.un rfl trivial rfl (fun _ => run_not _) ?_
                  refine Dv.mv rfl trivial rfl ?_
                  cases c183 : !t181
                  · replace H := Gets.cf H c183
                    refine Dv.fab rfl ⟨_, _, rfl, rfl, rfl⟩ rfl Try.underlying42 rfl Try.underlying9 c9 (by decide) ?_
                    refine Dv.ldb rfl ⟨_, _, rfl, rfl, rfl⟩ rfl Try.underlying9 rfl (mem_at 0 rfl) rfl ?_
                    refine Dv.fab rfl ⟨_, _, rfl, rfl, rfl⟩ rfl Try.underlying42 rfl Try.underlying9 c9 (by decide) ?_
                    refine Dv.ldb rfl ⟨_, _, rfl, rfl, rfl⟩ rfl Try.underlying9 rfl (mem_at 0 rfl) rfl ?_
                    refine Dv.bin rfl ⟨_, _, rfl, rfl, rfl⟩ rfl rfl (fun _ => run_seq) ?_
                    refine Dv.pickF rfl trivial rfl rfl ?_
                    refine Dv.mv rfl trivial rfl ?_
                    cases c185 : decide (a0.fThread = a0.fID)
                    · replace H := Gets.cf H c185
                      refine Dv.fab rfl ⟨_, _, rfl, rfl, rfl⟩ rfl Try.underlying42 rfl Try.underlying3 c3 (by decide) ?_
                      refine Dv.ldb rfl ⟨_, _, rfl, rfl, rfl⟩ rfl Try.underlying3 rfl (mem_at 0 rfl) rfl ?_
                      refine Dv.bin rfl ⟨_, _, rfl, rfl, rfl⟩ rfl rfl (fun _ => run_ne) ?_
                      refine Dv.pickF rfl trivial rfl rfl ?_
                      refine .fin ?_
                      refine WP.cond rfl (fun c187 => ?_) (fun c187 => ?_)
                      · replace H := Gets.ct H c187
                        refine WP.seq ?_
                        refine WP.reg [(0, false)] (by kernel_rfl) ?_
                        refine Dv.asg rfl trivial rfl ?_
                        refine .fin ?_
                        replace H := Gets.outr H
                        obtain rfl := Gets.out H
                        exact WP.retL (fun _ _ h => h) rfl () trivial (.cons (res_tmp rfl) .nil) rfl (st_sel (L := [blk b144 42 [eq (.string a0.fID), eq (.string a0.fRoom), sl strK a0.fParents, eq (.string a0.fThread), eq (.string a0.fUser), eq (.int .i64 a0.fDoes)]]) (F := F) [0] 1 rfl rfl rfl)
                      · replace H := Gets.cf H c187
                        refine WP.skip ?_
                        replace H := Gets.out H
                        exact Jn.mk () H (weak_cons rfl (weak_cons rfl (weak_cons rfl (weak_cons rfl (weak_cons rfl (weak_cons rfl (weak_cons rfl (weak_cons rfl weak_nil)))))))) (List.Perm.refl _)
                    · replace H := Gets.ct H c185
                      refine Dv.skip rfl ⟨_, _, rfl, rfl, .inl rfl⟩ ?_
                      refine Dv.skip rfl ⟨_, _, rfl, rfl, .inl rfl⟩ ?_
                      refine Dv.skip rfl ⟨_, _, rfl, rfl, .inl rfl⟩ ?_
                      refine Dv.pickT rfl trivial rfl rfl ?_
                      refine .fin ?_
                      refine WP.cond rfl (fun _ => ?_) nofun
                      refine WP.seq ?_
                      refine WP.reg [(0, false)] (by kernel_rfl) ?_
                      refine Dv.asg rfl trivial rfl ?_
                      refine .fin ?_
                      replace H := Gets.outr H
                      obtain rfl := Gets.out H
                      exact WP.retL (fun _ _ h => h) rfl () trivial (.cons (res_tmp rfl) .nil) rfl (st_sel (L := [blk b144 42 [eq (.string a0.fID), eq (.string a0.fRoom), sl strK a0.fParents, eq (.string a0.fThread), eq (.string a0.fUser), eq (.int .i64 a0.fDoes)]]) (F := F) [0] 1 rfl rfl rfl)
                  · replace H := Gets.ct H c183
                    refine Dv.skip rfl ⟨_, _, rfl, rfl, .inl rfl⟩ ?_
                    refine Dv.skip rfl ⟨_, _, rfl, rfl, .inl rfl⟩ ?_
                    refine Dv.skip rfl ⟨_, _, rfl, rfl, .inl rfl⟩ ?_
                    refine Dv.skip rfl ⟨_, _, rfl, rfl, .inl rfl⟩ ?_
                    refine Dv.skip rfl ⟨_, _, rfl, rfl, .inl rfl⟩ ?_
                    refine Dv.pickT rfl trivial rfl rfl ?_
                    refine Dv.mv rfl trivial rfl ?_
                    refine Dv.skip rfl ⟨_, _, rfl, rfl, .inl rfl⟩ ?_
                    refine Dv.skip rfl ⟨_, _, rfl, rfl, .inl rfl⟩ ?_
                    refine Dv.skip rfl ⟨_, _, rfl, rfl, .inl rfl⟩ ?_
                    refine Dv.pickT rfl trivial rfl rfl ?_
                    refine .fin ?_
                    refine WP.cond rfl (fun _ => ?_) nofun
                    refine WP.seq ?_
                    refine WP.reg [(0, false)] (by kernel_rfl) ?_
                    refine Dv.asg rfl trivial rfl ?_
                    refine .fin ?_
                    replace H := Gets.outr H
                    obtain rfl := Gets.out H
                    exact WP.retL (fun _ _ h => h) rfl () trivial (.cons (res_tmp rfl) .nil) rfl (st_sel (L := [blk b144 42 [eq (.string a0.fID), eq (.string a0.fRoom), sl strK a0.fParents, eq (.string a0.fThread), eq (.string a0.fUser), eq (.int .i64 a0.fDoes)]]) (F := F) [0] 1 rfl rfl rfl)
                · replace H := Gets.cf H c180
                  refine WP.skip ?_
                  replace H := Gets.out H
                  exact Jn.mk () H (weak_cons rfl (weak_cons rfl (weak_cons rfl (weak_cons rfl (weak_cons rfl (weak_cons rfl (weak_cons rfl (weak_cons rfl weak_nil)))))))) (List.Perm.refl _)
          · replace H := Gets.ct H c159
            refine Dv.skip rfl ⟨_, _, rfl, rfl, .inl rfl⟩ ?_
            refine Dv.skip rfl ⟨_, _, rfl, rfl, .inl rfl⟩ ?_
            refine Dv.skip rfl ⟨_, _, rfl, rfl, .inl rfl⟩ ?_
            refine Dv.pickT rfl trivial rfl rfl ?_
            refine .fin ?_
            refine WP.cond rfl (fun _ => ?_) nofun
            refine WP.seq ?_
            refine WP.reg [(0, false)] (by kernel_rfl) ?_
            refine Dv.asg rfl trivial rfl ?_
            refine .fin ?_
            obtain rfl := Gets.out H
            exact WP.retL (fun _ _ h => h) rfl () trivial (.cons (res_tmp rfl) .nil) rfl (st_sel (L := [blk b144 42 [eq (.string a0.fID), eq (.string a0.fRoom), sl strK a0.fParents, eq (.string a0.fThread), eq (.string a0.fUser), eq (.int .i64 a0.fDoes)]]) (F := F) [0] 1 rfl rfl rfl)
        · replace H := Gets.ct H c157
          refine Dv.skip rfl ⟨_, _, rfl, rfl, .inl rfl⟩ ?_
          refine Dv.skip rfl ⟨_, _, rfl, rfl, .inl rfl⟩ ?_
          refine Dv.skip rfl ⟨_, _, rfl, rfl, .inl rfl⟩ ?_
          refine Dv.pickT rfl trivial rfl rfl ?_
          refine Dv.mv rfl trivial rfl ?_
          refine Dv.skip rfl ⟨_, _, rfl, rfl, .inl rfl⟩ ?_
          refine Dv.skip rfl ⟨_, _, rfl, rfl, .inl rfl⟩ ?_
          refine Dv.skip rfl ⟨_, _, rfl, rfl, .inl rfl⟩ ?_
          refine Dv.pickT rfl trivial rfl rfl ?_
          refine .fin ?_
          refine WP.cond rfl (fun _ => ?_) nofun
          refine WP.seq ?_
          refine WP.reg [(0, false)] (by kernel_rfl) ?_
          refine Dv.asg rfl trivial rfl ?_
          refine .fin ?_
          obtain rfl := Gets.out H
          exact WP.retL (fun _ _ h => h) rfl () trivial (.cons (res_tmp rfl) .nil) rfl (st_sel (L := [blk b144 42 [eq (.string a0.fID), eq (.string a0.fRoom), sl strK a0.fParents, eq (.string a0.fThread), eq (.string a0.fUser), eq (.int .i64 a0.fDoes)]]) (F := F) [0] 1 rfl rfl rfl)
      · replace H := Gets.ct H c155
        refine Dv.skip rfl ⟨_, _, rfl, rfl, .inl rfl⟩ ?_
        refine Dv.skip rfl ⟨_, _, rfl, rfl, .inl rfl⟩ ?_
        refine Dv.skip rfl ⟨_, _, rfl, rfl, .inl rfl⟩ ?_
        refine Dv.skip rfl ⟨_, _, rfl, rfl, .inl rfl⟩ ?_
        refine Dv.pickT rfl trivial rfl rfl ?_
        refine Dv.mv rfl trivial rfl ?_
        refine Dv.skip rfl ⟨_, _, rfl, rfl, .inl rfl⟩ ?_
        refine Dv.skip rfl ⟨_, _, rfl, rfl, .inl rfl⟩ ?_
        refine Dv.skip rfl ⟨_, _, rfl, rfl, .inl rfl⟩ ?_
        refine Dv.pickT rfl trivial rfl rfl ?_
        refine Dv.mv rfl trivial rfl ?_
        refine Dv.skip rfl ⟨_, _, rfl, rfl, .inl rfl⟩ ?_
        refine Dv.skip rfl ⟨_, _, rfl, rfl, .inl rfl⟩ ?_
        refine Dv.skip rfl ⟨_, _, rfl, rfl, .inl rfl⟩ ?_
        refine Dv.pickT rfl trivial rfl rfl ?_
        refine .fin ?_
        refine WP.cond rfl (fun _ => ?_) nofun
        refine WP.seq ?_
        refine WP.reg [(0, false)] (by kernel_rfl) ?_
        refine Dv.asg rfl trivial rfl ?_
        refine .fin ?_
        obtain rfl := Gets.out H
        exact WP.retL (fun _ _ h => h) rfl () trivial (.cons (res_tmp rfl) .nil) rfl (st_sel (L := [blk b144 42 [eq (.string a0.fID), eq (.string a0.fRoom), sl strK a0.fParents, eq (.string a0.fThread), eq (.string a0.fUser), eq (.int .i64 a0.fDoes)]]) (F := F) [0] 1 rfl rfl rfl)
    · replace H := Gets.ct H c153
      refine Dv.skip rfl ⟨_, _, rfl, rfl, .inl rfl⟩ ?_
      refine Dv.skip rfl ⟨_, _, rfl, rfl, .inl rfl⟩ ?_
      refine Dv.pickT rfl trivial rfl rfl ?_
      refine Dv.mv rfl trivial rfl ?_
      refine Dv.skip rfl ⟨_, _, rfl, rfl, .inl rfl⟩ ?_
      refine Dv.skip rfl ⟨_, _, rfl, rfl, .inl rfl⟩ ?_
      refine Dv.skip rfl ⟨_, _, rfl, rfl, .inl rfl⟩ ?_
      refine Dv.skip rfl ⟨_, _, rfl, rfl, .inl rfl⟩ ?_
      refine Dv.pickT rfl trivial rfl rfl ?_
      refine Dv.mv rfl trivial rfl ?_
      refine Dv.skip rfl ⟨_, _, rfl, rfl, .inl rfl⟩ ?_
      refine Dv.skip rfl ⟨_, _, rfl, rfl, .inl rfl⟩ ?_
      refine Dv.skip rfl ⟨_, _, rfl, rfl, .inl rfl⟩ ?_
      refine Dv.pickT rfl trivial rfl rfl ?_
      refine Dv.mv rfl trivial rfl ?_
      refine Dv.skip rfl ⟨_, _, rfl, rfl, .inl rfl⟩ ?_
      refine Dv.skip rfl ⟨_, _, rfl, rfl, .inl rfl⟩ ?_
      refine Dv.skip rfl ⟨_, _, rfl, rfl, .inl rfl⟩ ?_
      refine Dv.pickT rfl trivial rfl rfl ?_
      refine .fin ?_
      refine WP.cond rfl (fun _ => ?_) nofun
      refine WP.seq ?_
      refine WP.reg [(0, false)] (by kernel_rfl) ?_
      refine Dv.asg rfl trivial rfl ?_
      refine .fin ?_
      obtain rfl := Gets.out H
      exact WP.retL (fun _ _ h => h) rfl () trivial (.cons (res_tmp rfl) .nil) rfl (st_sel (L := [blk b144 42 [eq (.string a0.fID), eq (.string a0.fRoom), sl strK a0.fParents, eq (.string a0.fThread), eq (.string a0.fUser), eq (.int .i64 a0.fDoes)]]) (F := F) [0] 1 rfl rfl rfl)
  · replace H := Gets.ct H c151
    refine Dv.skip rfl ⟨_, _, rfl, rfl, .inl rfl⟩ ?_
    refine Dv.skip rfl ⟨_, _, rfl, rfl, .inl rfl⟩ ?_
    refine Dv.pickT rfl trivial rfl rfl ?_
    refine Dv.mv rfl trivial rfl ?_
    refine Dv.skip rfl ⟨_, _, rfl, rfl, .inl rfl⟩ ?_
    refine Dv.skip rfl ⟨_, _, rfl, rfl, .inl rfl⟩ ?_
    refine Dv.pickT rfl trivial rfl rfl ?_
    refine Dv.mv rfl trivial rfl ?_
    refine Dv.skip rfl ⟨_, _, rfl, rfl, .inl rfl⟩ ?_
    refine Dv.skip rfl ⟨_, _, rfl, rfl, .inl rfl⟩ ?_
    refine Dv.skip rfl ⟨_, _, rfl, rfl, .inl rfl⟩ ?_
    refine Dv.skip rfl ⟨_, _, rfl, rfl, .inl rfl⟩ ?_
    refine Dv.pickT rfl trivial rfl rfl ?_
    refine Dv.mv rfl trivial rfl ?_
    refine Dv.skip rfl ⟨_, _, rfl, rfl, .inl rfl⟩ ?_
    refine Dv.skip rfl ⟨_, _, rfl, rfl, .inl rfl⟩ ?_
    refine Dv.skip rfl ⟨_, _, rfl, rfl, .inl rfl⟩ ?_
    refine Dv.pickT rfl trivial rfl rfl ?_
    refine Dv.mv rfl trivial rfl ?_
    refine Dv.skip rfl ⟨_, _, rfl, rfl, .inl rfl⟩ ?_
    refine Dv.skip rfl ⟨_, _, rfl, rfl, .inl rfl⟩ ?_
    refine Dv.skip rfl ⟨_, _, rfl, rfl, .inl rfl⟩ ?_
    refine Dv.pickT rfl trivial rfl rfl ?_
    refine .fin ?_
    refine WP.cond rfl (fun _ => ?_) nofun
    refine WP.seq ?_
    refine WP.reg [(0, false)] (by kernel_rfl) ?_
    refine Dv.asg rfl trivial rfl ?_
    refine .fin ?_
    obtain rfl := Gets.out H
    exact WP.retL (fun _ _ h => h) rfl () trivial (.cons (res_tmp rfl) .nil) rfl (st_sel (L := [blk b144 42 [eq (.string a0.fID), eq (.string a0.fRoom), sl strK a0.fParents, eq (.string a0.fThread), eq (.string a0.fUser), eq (.int .i64 a0.fDoes)]]) (F := F) [0] 1 rfl rfl rfl)
theorem concourseref07_Add.c {k : Nat} {a0 : RDag} {a1 : Event} {r : RDag × Int} (h : concourseref07_Add.f k a0 a1 = some r) : Pt Try.prog 29 [agg (RDag.enc a0), agg (Event.enc a1)] (tup [agg (RDag.enc r.1), eq (.int .i64 r.2)]) := by
  unfold concourseref07_Add.f at h
  refine (Tr.body Try.func29 (c := _) rfl Try.ntmps29 (Nat.le_of_ble_eq_true rfl) fun R0 F => ?_).pt
  replace h := Gets.of h
  have H := h
  clear h
  refine WP.seq ?_
  refine WP.reg [(0, true), (1, true), (2, true), (3, false)] (by kernel_rfl) ?_
  refine Dv.box rfl trivial rfl (cells_agg (RDag.K.one _)) nofun (fun b188 => ?_)
  refine Dv.box rfl trivial rfl (cells_agg (Event.K.one _)) nofun (fun b189 => ?_)
  refine Dv.alloc (z := .agg #[.string ⟨#[]⟩, .slice none 0 0]) (qs := [eq (.string (⟨#[]⟩ : ByteArray)), eq (.slice none 0 0)]) rfl trivial z50 rfl nofun (fun b190 => ?_)
  refine Dv.asg rfl trivial rfl ?_
  refine .fin ?_
  refine WP.seq ?_
  refine WP.reg [(0, false), (1, false), (2, false)] (by kernel_rfl) ?_
  refine Dv.ldbs rfl trivial rfl Try.underlying42 rfl c42 (mem_at 1 rfl) (Nat.le_of_ble_eq_true rfl) ?_
  obtain ⟨t191, h192, H⟩ := Gets.call H
  refine Dv.call rfl trivial cal35 rfl (concourseref07_May.c h192) ?_
  refine Dv.asg rfl trivial rfl ?_
  refine .fin ?_
  refine WP.seq ?_
  refine WP.seq ?_
  refine WP.reg [(0, false), (1, false), (2, false), (3, false), (4, false), (5, false), (6, false), (7, false), (8, false)] (by kernel_rfl) ?_
  refine Dv.mv rfl trivial rfl ?_
  refine Dv.un rfl trivial rfl (fun _ => run_not _) ?_
  refine Dv.mv rfl trivial rfl ?_
  cases c193 : !t191
  · replace H := Gets.cf H c193
    refine Dv.fab rfl ⟨_, _, rfl, rfl, rfl⟩ rfl Try.underlying42 rfl Try.underlying9 c9 (by decide) ?_
    refine Dv.ldb rfl ⟨_, _, rfl, rfl, rfl⟩ rfl Try.underlying9 rfl (mem_at 1 rfl) rfl ?_
    refine Dv.fab rfl ⟨_, _, rfl, rfl, rfl⟩ rfl Try.underlying50 rfl Try.underlying9 c9 (by decide) ?_
    refine Dv.ldb rfl ⟨_, _, rfl, rfl, rfl⟩ rfl Try.underlying9 rfl (mem_at 2 rfl) rfl ?_
    refine Dv.bin rfl ⟨_, _, rfl, rfl, rfl⟩ rfl rfl (fun _ => run_sne) ?_
    refine Dv.pickF rfl trivial rfl rfl ?_
    refine .fin ?_
    refine WP.cond rfl (fun c195 => ?_) (fun c195 => ?_)
    · replace H := Gets.ct H c195
      refine WP.seq ?_
      refine WP.reg [(0, false), (1, true), (2, false)] (by kernel_rfl) ?_
      refine Dv.ldbs rfl trivial rfl Try.underlying50 rfl c50 (mem_at 2 rfl) (Nat.le_of_ble_eq_true rfl) ?_
      refine Dv.stx ([blk b190 50 [eq (.string a0.fRoom), sl Event.K a0.fL], blk b189 42 [eq (.string a1.fID), eq (.string a1.fRoom), sl strK a1.fParents, eq (.string a1.fThread), eq (.string a1.fUser), eq (.int .i64 a1.fDoes)], blk b188 50 [eq (.string a0.fRoom), sl Event.K a0.fL]] ++ F) rfl trivial rfl rfl (cells_agg (RDag.K.one _)) Try.underlying50 c50 rfl (j := 0) rfl (Nat.le_of_ble_eq_true rfl) rfl nofun ?_
      refine Dv.asg rfl trivial rfl ?_
      refine .fin ?_
      obtain rfl := Gets.out H
      exact WP.retL (fun _ _ h => h) rfl () trivial (.cons (res_cells rfl Try.underlying50 rfl c50 (mem_at 0 rfl) rfl) (.cons (res_tmp rfl) .nil)) rfl (st_sel (L := [blk b190 50 [eq (.string a0.fRoom), sl Event.K a0.fL], blk b189 42 [eq (.string a1.fID), eq (.string a1.fRoom), sl strK a1.fParents, eq (.string a1.fThread), eq (.string a1.fUser), eq (.int .i64 a1.fDoes)], blk b188 50 [eq (.string a0.fRoom), sl Event.K a0.fL]]) (F := F) [0, 1, 2] 3 rfl rfl rfl)
    · replace H := Gets.cf H c195
      refine WP.skip ?_
      refine WP.seq ?_
      refine WP.seq ?_
      refine WP.reg [(0, false), (1, false), (2, false), (3, false), (4, false)] (by kernel_rfl) ?_
      refine Dv.ldbs rfl trivial rfl Try.underlying50 rfl c50 (mem_at 2 rfl) (Nat.le_of_ble_eq_true rfl) ?_
      refine Dv.fab rfl trivial rfl Try.underlying42 rfl Try.underlying9 c9 (by decide) ?_
      refine Dv.ldb rfl trivial rfl Try.underlying9 rfl (mem_at 1 rfl) rfl ?_
      obtain ⟨t196, h197, H⟩ := Gets.call H
      refine Dv.call rfl trivial cal21 rfl (concourseref07_At.c h197) ?_
      refine Dv.bin rfl trivial rfl rfl (fun _ => run_ge) ?_
      refine .fin ?_
      refine WP.cond rfl (fun c198 => ?_) (fun c198 => ?_)
      · replace H := Gets.ct H c198
        refine WP.seq ?_
        refine WP.reg [(0, false), (1, true), (2, false)] (by kernel_rfl) ?_
        refine Dv.ldbs rfl trivial rfl Try.underlying50 rfl c50 (mem_at 2 rfl) (Nat.le_of_ble_eq_true rfl) ?_
        refine Dv.stx ([blk b190 50 [eq (.string a0.fRoom), sl Event.K a0.fL], blk b189 42 [eq (.string a1.fID), eq (.string a1.fRoom), sl strK a1.fParents, eq (.string a1.fThread), eq (.string a1.fUser), eq (.int .i64 a1.fDoes)], blk b188 50 [eq (.string a0.fRoom), sl Event.K a0.fL]] ++ F) rfl trivial rfl rfl (cells_agg (RDag.K.one _)) Try.underlying50 c50 rfl (j := 0) rfl (Nat.le_of_ble_eq_true rfl) rfl nofun ?_
        refine Dv.asg rfl trivial rfl ?_
        refine .fin ?_
        obtain rfl := Gets.out H
        exact WP.retL (fun _ _ h => h) rfl () trivial (.cons (res_cells rfl Try.underlying50 rfl c50 (mem_at 0 rfl) rfl) (.cons (res_tmp rfl) .nil)) rfl (st_sel (L := [blk b190 50 [eq (.string a0.fRoom), sl Event.K a0.fL], blk b189 42 [eq (.string a1.fID), eq (.string a1.fRoom), sl strK a1.fParents, eq (.string a1.fThread), eq (.string a1.fUser), eq (.int .i64 a1.fDoes)], blk b188 50 [eq (.string a0.fRoom), sl Event.K a0.fL]]) (F := F) [0, 1, 2] 3 rfl rfl rfl)
      · replace H := Gets.cf H c198
        refine WP.skip ?_
        refine WP.seqr H id (fun p199 : Int × Bool => [(0, agg (RDag.enc a0)), (1, agg (Event.enc a1)), (2, eq (.pointer (some ⟨b188, 0, none⟩))), (3, eq (.pointer (some ⟨b189, 0, none⟩))), (4, eq (.pointer (some ⟨b190, 0, none⟩))), (5, eq (.int .i64 0)), (6, eq (.bool t191)), (7, eq (.int .i64 p199.1)), (20, eq (.bool (!decide (a1.fRoom = a0.fRoom)))), (26, eq (.bool (decide (0 ≤ t196)))), (32, eq (.bool p199.2))]) (fun p199 : Int × Bool => [blk b190 50 [eq (.string (⟨#[]⟩ : ByteArray)), eq (.slice none 0 0)], blk b189 42 [eq (.string a1.fID), eq (.string a1.fRoom), sl strK a1.fParents, eq (.string a1.fThread), eq (.string a1.fUser), eq (.int .i64 a1.fDoes)], blk b188 50 [eq (.string a0.fRoom), sl Event.K a0.fL]] ++ F) (fun p199 H => ?_) (fun H => ?_)
        · refine WP.seqr H id (fun p200 : Unit => [(0, agg (RDag.enc a0)), (1, agg (Event.enc a1)), (2, eq (.pointer (some ⟨b188, 0, none⟩))), (3, eq (.pointer (some ⟨b189, 0, none⟩))), (4, eq (.pointer (some ⟨b190, 0, none⟩))), (5, eq (.int .i64 0)), (6, eq (.bool t191)), (7, eq (.int .i64 p199.1)), (20, eq (.bool (!decide (a1.fRoom = a0.fRoom)))), (26, eq (.bool (decide (0 ≤ t196)))), (32, eq (.bool p199.2)), (46, eq (.bool (!decide (a1.fThread = (⟨#[]⟩ : ByteArray)))))]) (fun p200 : Unit => [blk b190 50 [eq (.string (⟨#[]⟩ : ByteArray)), eq (.slice none 0 0)], blk b189 42 [eq (.string a1.fID), eq (.string a1.fRoom), sl strK a1.fParents, eq (.string a1.fThread), eq (.string a1.fUser), eq (.int .i64 a1.fDoes)], blk b188 50 [eq (.string a0.fRoom), sl Event.K a0.fL]] ++ F) (fun p200 H => ?_) (fun H => ?_)
          · refine WP.seq ?_
            refine WP.reg [(0, false)] (by kernel_rfl) ?_
            refine Dv.asg rfl trivial rfl ?_
            refine .fin ?_
            refine WP.seq ?_
            refine WP.reg [(0, false), (1, false), (2, false), (3, true), (4, false)] (by kernel_rfl) ?_
            refine Dv.mv rfl trivial rfl ?_
            refine Dv.fab rfl trivial rfl Try.underlying50 rfl Try.underlying36 c36 (by decide) ?_
            refine Dv.ldb rfl trivial rfl Try.underlying36 rfl (mem_at 2 rfl) rfl ?_
            refine Dv.gh (gh_of (st_nil Event.K none)) (fun _ _ => ?_)
            obtain ⟨g201, H⟩ := Gets.grd H
            refine Dv.appx (jj := 0) (ys := a0.fL) (fun v202 : OV => [own Event.K v202.1 (([] : List Event) ++ a0.fL), blk b190 50 [eq (.string (⟨#[]⟩ : ByteArray)), eq (.slice none 0 0)], blk b189 42 [eq (.string a1.fID), eq (.string a1.fRoom), sl strK a1.fParents, eq (.string a1.fThread), eq (.string a1.fUser), eq (.int .i64 a1.fDoes)], blk b188 50 [eq (.string a0.fRoom), sl Event.K a0.fL]] ++ F) rfl trivial rfl rfl rfl src_sl Try.underlying36 (.inr ⟨_, Try.underlying36⟩) inf42 rfl (by decide) g201 rfl nofun (fun v202 => ?_)
            refine Dv.asg rfl trivial rfl ?_
            refine .fin ?_
            refine WP.seq ?_
            refine WP.dreg Try.checked.mixed [(0, false), (1, false), (2, false), (3, false), (4, false), (5, true), (6, false), (7, true), (8, false)] (by kernel_rfl) ?_
            refine Dv.fab rfl trivial rfl Try.underlying50 rfl Try.underlying9 c9 (by decide) ?_
            refine Dv.ldb rfl trivial rfl Try.underlying9 rfl (mem_at 3 rfl) rfl ?_
            refine Dv.mv rfl trivial rfl ?_
            refine Dv.ldbs rfl trivial rfl Try.underlying42 rfl c42 (mem_at 2 rfl) (Nat.le_of_ble_eq_true rfl) ?_
            refine Dv.lit Event.K ([a1] : List Event) (css := [Event.enc a1]) rfl trivial Try.underlying36 Try.underlying42 c42 z42 rfl (by decide) (by decide) rfl ⟨(cells_agg (Event.K.one _)), trivial⟩ rfl rfl rfl ?_
            obtain ⟨g203, H⟩ := Gets.grd H
            refine Dv.appx (jj := 0) (ys := ([a1] : List Event)) (fun v204 : OV => [own Event.K v204.1 ((([] : List Event) ++ a0.fL) ++ ([a1] : List Event)), blk b190 50 [eq (.string (⟨#[]⟩ : ByteArray)), eq (.slice none 0 0)], blk b189 42 [eq (.string a1.fID), eq (.string a1.fRoom), sl strK a1.fParents, eq (.string a1.fThread), eq (.string a1.fUser), eq (.int .i64 a1.fDoes)], blk b188 50 [eq (.string a0.fRoom), sl Event.K a0.fL]] ++ F) rfl trivial rfl rfl rfl src_sl Try.underlying36 (.inr ⟨_, Try.underlying36⟩) inf42 rfl (by decide) g203 rfl (fun _ => (pend_by (by kernel_rfl) (pend_by (by kernel_rfl) (pend_by (by kernel_rfl) (pend_in (fun _ => (mem_at 3 rfl)) (pend_in (fun _ => trivial) pend_nil)))))) (fun v204 => ?_)
            refine Dv.bld (css := [[eq (.string a0.fRoom)], [eq v204.1]]) rfl trivial Try.underlying50 pl50 z50 rfl ⟨(cells_one (one_eq rfl)), ⟨(cells_one one_ov), trivial⟩⟩ rfl rfl ?_
            refine Dv.stx ([own Event.K v204.1 ((([] : List Event) ++ a0.fL) ++ ([a1] : List Event)), blk b190 50 [eq (.string a0.fRoom), eq v204.1], blk b189 42 [eq (.string a1.fID), eq (.string a1.fRoom), sl strK a1.fParents, eq (.string a1.fThread), eq (.string a1.fUser), eq (.int .i64 a1.fDoes)], blk b188 50 [eq (.string a0.fRoom), sl Event.K a0.fL]] ++ F) rfl trivial rfl rfl (cells_agg (ones_cons (one_eq rfl) (ones_cons one_ov ones_nil))) Try.underlying50 c50 rfl (j := 1) rfl (Nat.le_of_ble_eq_true rfl) rfl (fun _ => pend_bits (by kernel_rfl)) ?_
            refine Dv.asg rfl trivial rfl ?_
            refine .fin ?_
            refine WP.gh (gh_frz (E' := [(4, eq (.pointer (some ⟨b190, 0, none⟩))), (5, eq (.int .i64 0))]) (l' := [blk b190 50 [eq (.string a0.fRoom), sl Event.K ((([] : List Event) ++ a0.fL) ++ ([a1] : List Event))], blk b189 42 [eq (.string a1.fID), eq (.string a1.fRoom), sl strK a1.fParents, eq (.string a1.fThread), eq (.string a1.fUser), eq (.int .i64 a1.fDoes)], blk b188 50 [eq (.string a0.fRoom), sl Event.K a0.fL]] ++ F) 0 rfl (cve_cons rfl cv_id (cve_cons rfl cv_id cve_nil)) (all2_app (.cons (cva_blk (.cons cv_id (.cons cv_eq .nil))) (.cons cva_id (.cons cva_id .nil))) fun _ => cva_id)) (fun _ _ => ?_)
            obtain rfl := Gets.out H
            exact WP.retL (fun _ _ h => h) rfl () trivial (.cons (res_cells rfl Try.underlying50 rfl c50 (mem_at 0 rfl) rfl) (.cons (res_tmp rfl) .nil)) rfl (st_sel (L := [blk b190 50 [eq (.string a0.fRoom), sl Event.K ((([] : List Event) ++ a0.fL) ++ ([a1] : List Event))], blk b189 42 [eq (.string a1.fID), eq (.string a1.fRoom), sl strK a1.fParents, eq (.string a1.fThread), eq (.string a1.fUser), eq (.int .i64 a1.fDoes)], blk b188 50 [eq (.string a0.fRoom), sl Event.K a0.fL]]) (F := F) [0, 1, 2] 3 rfl rfl rfl)
          · refine WP.seq ?_
            refine WP.reg [(0, false), (1, false), (2, false)] (by kernel_rfl) ?_
            refine Dv.fab rfl trivial rfl Try.underlying42 rfl Try.underlying9 c9 (by decide) ?_
            refine Dv.ldb rfl trivial rfl Try.underlying9 rfl (mem_at 1 rfl) rfl ?_
            refine Dv.bin rfl trivial rfl rfl (fun _ => run_sne) ?_
            refine .fin ?_
            refine WP.cond rfl (fun c205 => ?_) (fun c205 => ?_)
            · replace H := Gets.ct H c205
              refine WP.seq ?_
              refine WP.reg [(0, false), (1, false), (2, false), (3, false), (4, false)] (by kernel_rfl) ?_
              refine Dv.ldbs rfl trivial rfl Try.underlying50 rfl c50 (mem_at 2 rfl) (Nat.le_of_ble_eq_true rfl) ?_
              refine Dv.fab rfl trivial rfl Try.underlying42 rfl Try.underlying9 c9 (by decide) ?_
              refine Dv.ldb rfl trivial rfl Try.underlying9 rfl (mem_at 1 rfl) rfl ?_
              obtain ⟨t206, h207, H⟩ := Gets.call H
              refine Dv.call rfl trivial cal21 rfl (concourseref07_At.c h207) ?_
              refine Dv.asg rfl trivial rfl ?_
              refine .fin ?_
              refine WP.seq ?_
              refine WP.seq ?_
              refine WP.reg [(0, false), (1, false)] (by kernel_rfl) ?_
              refine Dv.mv rfl trivial rfl ?_
              refine Dv.bin rfl trivial rfl rfl (fun _ => run_lt) ?_
              refine .fin ?_
              refine WP.cond rfl (fun c208 => ?_) (fun c208 => ?_)
              · replace H := Gets.ct H c208
                refine WP.seq ?_
                refine WP.reg [(0, false), (1, true), (2, false)] (by kernel_rfl) ?_
                refine Dv.ldbs rfl trivial rfl Try.underlying50 rfl c50 (mem_at 2 rfl) (Nat.le_of_ble_eq_true rfl) ?_
                refine Dv.stx ([blk b190 50 [eq (.string a0.fRoom), sl Event.K a0.fL], blk b189 42 [eq (.string a1.fID), eq (.string a1.fRoom), sl strK a1.fParents, eq (.string a1.fThread), eq (.string a1.fUser), eq (.int .i64 a1.fDoes)], blk b188 50 [eq (.string a0.fRoom), sl Event.K a0.fL]] ++ F) rfl trivial rfl rfl (cells_agg (RDag.K.one _)) Try.underlying50 c50 rfl (j := 0) rfl (Nat.le_of_ble_eq_true rfl) rfl nofun ?_
                refine Dv.asg rfl trivial rfl ?_
                refine .fin ?_
                replace H := Gets.outr H
                obtain rfl := Gets.out H
                exact WP.retL (fun _ _ h => h) rfl () trivial (.cons (res_cells rfl Try.underlying50 rfl c50 (mem_at 0 rfl) rfl) (.cons (res_tmp rfl) .nil)) rfl (st_sel (L := [blk b190 50 [eq (.string a0.fRoom), sl Event.K a0.fL], blk b189 42 [eq (.string a1.fID), eq (.string a1.fRoom), sl strK a1.fParents, eq (.string a1.fThread), eq (.string a1.fUser), eq (.int .i64 a1.fDoes)], blk b188 50 [eq (.string a0.fRoom), sl Event.K a0.fL]]) (F := F) [0, 1, 2] 3 rfl rfl rfl)
              · replace H := Gets.cf H c208
                refine WP.skip ?_
                refine WP.seq ?_
                refine WP.reg [(0, false), (1, false), (2, false), (3, false), (4, false), (5, false), (6, false), (7, false), (8, false), (9, false), (10, false), (11, false), (12, false), (13, false), (14, false), (15, false)] (by kernel_rfl) ?_
                refine Dv.fab rfl trivial rfl Try.underlying50 rfl Try.underlying36 c36 (by decide) ?_
                refine Dv.ldb rfl trivial rfl Try.underlying36 rfl (mem_at 2 rfl) rfl ?_
                refine Dv.mv rfl trivial rfl ?_
                obtain ⟨g209, H⟩ := Gets.grd H
                refine Dv.ixr rfl trivial rfl rfl Try.underlying36 Try.underlying42 c42 g209.1 g209.2 ?_
                refine Dv.far rfl trivial rfl Try.underlying42 rfl Try.underlying9 c9 (by decide) (Nat.le_of_ble_eq_true rfl) ?_
                refine Dv.ldr rfl trivial rfl Try.underlying9 rfl rfl ?_
                refine Dv.bin rfl trivial rfl rfl (fun _ => run_sne) ?_
                refine Dv.mv rfl trivial rfl ?_
                cases c210 : !decide (((Event.K.at a0.fL t206).fThread) = (⟨#[]⟩ : ByteArray))
                · replace H := Gets.cf H c210
                  refine Dv.fab rfl ⟨_, _, rfl, rfl, rfl⟩ rfl Try.underlying50 rfl Try.underlying36 c36 (by decide) ?_
                  refine Dv.ldb rfl ⟨_, _, rfl, rfl, rfl⟩ rfl Try.underlying36 rfl (mem_at 2 rfl) rfl ?_
                  refine Dv.mv rfl ⟨_, _, rfl, rfl, rfl⟩ rfl ?_
                  obtain ⟨g212, H⟩ := Gets.grd H
                  refine Dv.ixr rfl ⟨_, _, rfl, rfl, rfl⟩ rfl rfl Try.underlying36 Try.underlying42 c42 g212.1 g212.2 ?_
                  refine Dv.far rfl ⟨_, _, rfl, rfl, rfl⟩ rfl Try.underlying42 rfl Try.underlying3 c3 (by decide) (Nat.le_of_ble_eq_true rfl) ?_
                  refine Dv.ldr rfl ⟨_, _, rfl, rfl, rfl⟩ rfl Try.underlying3 rfl rfl ?_
                  refine Dv.bin rfl ⟨_, _, rfl, rfl, rfl⟩ rfl rfl (fun _ => run_ne) ?_
                  refine Dv.pickF rfl trivial rfl rfl ?_
                  refine .fin ?_
                  refine WP.cond rfl (fun c213 => ?_) (fun c213 => ?_)
                  · replace H := Gets.ct H c213
                    refine WP.seq ?_
                    refine WP.reg [(0, false), (1, true), (2, false)] (by kernel_rfl) ?_
                    refine Dv.ldbs rfl trivial rfl Try.underlying50 rfl c50 (mem_at 2 rfl) (Nat.le_of_ble_eq_true rfl) ?_
                    refine Dv.stx ([blk b190 50 [eq (.string a0.fRoom), sl Event.K a0.fL], blk b189 42 [eq (.string a1.fID), eq (.string a1.fRoom), sl strK a1.fParents, eq (.string a1.fThread), eq (.string a1.fUser), eq (.int .i64 a1.fDoes)], blk b188 50 [eq (.string a0.fRoom), sl Event.K a0.fL]] ++ F) rfl trivial rfl rfl (cells_agg (RDag.K.one _)) Try.underlying50 c50 rfl (j := 0) rfl (Nat.le_of_ble_eq_true rfl) rfl nofun ?_
                    refine Dv.asg rfl trivial rfl ?_
                    refine .fin ?_
                    replace H := Gets.outr H
                    obtain rfl := Gets.out H
                    exact WP.retL (fun _ _ h => h) rfl () trivial (.cons (res_cells rfl Try.underlying50 rfl c50 (mem_at 0 rfl) rfl) (.cons (res_tmp rfl) .nil)) rfl (st_sel (L := [blk b190 50 [eq (.string a0.fRoom), sl Event.K a0.fL], blk b189 42 [eq (.string a1.fID), eq (.string a1.fRoom), sl strK a1.fParents, eq (.string a1.fThread), eq (.string a1.fUser), eq (.int .i64 a1.fDoes)], blk b188 50 [eq (.string a0.fRoom), sl Event.K a0.fL]]) (F := F) [0, 1, 2] 3 rfl rfl rfl)
                  · replace H := Gets.cf H c213
                    refine WP.skip ?_
                    replace H := Gets.out H
                    exact Jn.mk () H (weak_cons rfl (weak_cons rfl (weak_cons rfl (weak_cons rfl (weak_cons rfl (weak_cons rfl (weak_cons rfl (weak_cons rfl (weak_cons rfl (weak_cons rfl (weak_cons rfl (weak_cons rfl weak_nil)))))))))))) (List.Perm.refl _)
                · replace H := Gets.ct H c210
                  refine Dv.skip rfl ⟨_, _, rfl, rfl, .inl rfl⟩ ?_
                  refine Dv.skip rfl ⟨_, _, rfl, rfl, .inl rfl⟩ ?_
                  refine Dv.skip rfl ⟨_, _, rfl, rfl, .inl rfl⟩ ?_
                  refine Dv.skip rfl ⟨_, _, rfl, rfl, .inl rfl⟩ ?_
                  refine Dv.skip rfl ⟨_, _, rfl, rfl, .inl rfl⟩ ?_
                  refine Dv.skip rfl ⟨_, _, rfl, rfl, .inl rfl⟩ ?_
                  refine Dv.skip rfl ⟨_, _, rfl, rfl, .inl rfl⟩ ?_
                  refine Dv.pickT rfl trivial rfl rfl ?_
                  refine .fin ?_
                  refine WP.cond rfl (fun _ => ?_) nofun
                  refine WP.seq ?_
                  refine WP.reg [(0, false), (1, true), (2, false)] (by kernel_rfl) ?_
                  refine Dv.ldbs rfl trivial rfl Try.underlying50 rfl c50 (mem_at 2 rfl) (Nat.le_of_ble_eq_true rfl) ?_
                  refine Dv.stx ([blk b190 50 [eq (.string a0.fRoom), sl Event.K a0.fL], blk b189 42 [eq (.string a1.fID), eq (.string a1.fRoom), sl strK a1.fParents, eq (.string a1.fThread), eq (.string a1.fUser), eq (.int .i64 a1.fDoes)], blk b188 50 [eq (.string a0.fRoom), sl Event.K a0.fL]] ++ F) rfl trivial rfl rfl (cells_agg (RDag.K.one _)) Try.underlying50 c50 rfl (j := 0) rfl (Nat.le_of_ble_eq_true rfl) rfl nofun ?_
                  refine Dv.asg rfl trivial rfl ?_
                  refine .fin ?_
                  replace H := Gets.outr H
                  obtain rfl := Gets.out H
                  exact WP.retL (fun _ _ h => h) rfl () trivial (.cons (res_cells rfl Try.underlying50 rfl c50 (mem_at 0 rfl) rfl) (.cons (res_tmp rfl) .nil)) rfl (st_sel (L := [blk b190 50 [eq (.string a0.fRoom), sl Event.K a0.fL], blk b189 42 [eq (.string a1.fID), eq (.string a1.fRoom), sl strK a1.fParents, eq (.string a1.fThread), eq (.string a1.fUser), eq (.int .i64 a1.fDoes)], blk b188 50 [eq (.string a0.fRoom), sl Event.K a0.fL]]) (F := F) [0, 1, 2] 3 rfl rfl rfl)
            · replace H := Gets.cf H c205
              refine WP.skip ?_
              replace H := Gets.out H
              exact Jn.mk () H (weak_cons rfl (weak_cons rfl (weak_cons rfl (weak_cons rfl (weak_cons rfl (weak_cons rfl (weak_cons rfl (weak_cons rfl (weak_cons rfl (weak_cons rfl (weak_cons rfl (weak_cons rfl weak_nil)))))))))))) (List.Perm.refl _)
        · refine WP.seq ?_
          refine WP.reg [(0, false)] (by kernel_rfl) ?_
          refine Dv.asg rfl trivial rfl ?_
          refine .fin ?_
          refine WP.block ?_
          refine WP.gh (l' := fun _ => [blk b190 50 [eq (.string (⟨#[]⟩ : ByteArray)), eq (.slice none 0 0)], blk b189 42 [eq (.string a1.fID), eq (.string a1.fRoom), sl strK a1.fParents, eq (.string a1.fThread), eq (.string a1.fUser), eq (.int .i64 a1.fDoes)], blk b188 50 [eq (.string a0.fRoom), sl Event.K a0.fL]] ++ F) (gh_of (st_selg (L := [blk b190 50 [eq (.string (⟨#[]⟩ : ByteArray)), eq (.slice none 0 0)], blk b189 42 [eq (.string a1.fID), eq (.string a1.fRoom), sl strK a1.fParents, eq (.string a1.fThread), eq (.string a1.fUser), eq (.int .i64 a1.fDoes)], blk b188 50 [eq (.string a0.fRoom), sl Event.K a0.fL]]) (F := F) [0, 1, 2] 0 rfl rfl rfl)) (fun _ _ => ?_)
          refine WP.loopg (fun j_ (p221 : Int) => concourseref07_Add.l0 k a0 a1 j_ p221) 0 H (fun p221 => [(0, agg (RDag.enc a0)), (1, agg (Event.enc a1)), (2, eq (.pointer (some ⟨b188, 0, none⟩))), (3, eq (.pointer (some ⟨b189, 0, none⟩))), (4, eq (.pointer (some ⟨b190, 0, none⟩))), (5, eq (.int .i64 0)), (6, eq (.bool t191)), (7, eq (.int .i64 p221)), (20, eq (.bool (!decide (a1.fRoom = a0.fRoom)))), (26, eq (.bool (decide (0 ≤ t196))))]) (fun p221 => [blk b190 50 [eq (.string (⟨#[]⟩ : ByteArray)), eq (.slice none 0 0)], blk b189 42 [eq (.string a1.fID), eq (.string a1.fRoom), sl strK a1.fParents, eq (.string a1.fThread), eq (.string a1.fUser), eq (.int .i64 a1.fDoes)], blk b188 50 [eq (.string a0.fRoom), sl Event.K a0.fL]] ++ F) (weak_cons rfl (weak_cons rfl (weak_cons rfl (weak_cons rfl (weak_cons rfl (weak_cons rfl (weak_cons rfl (weak_cons rfl (weak_cons rfl (weak_cons rfl weak_nil)))))))))) (List.Perm.refl _) ?_
          rintro j_ x214 H
          rcases j_ with _ | j220
          · exact (Gets.no H).elim
          replace H : Gets (concourseref07_Add.l0 k a0 a1 (j220 + 1) x214) _ := H
          rw [concourseref07_Add.l0] at H
          refine WP.seq ?_
          refine WP.seq ?_
          refine WP.reg [(0, false), (1, false), (2, false), (3, false), (4, false)] (by kernel_rfl) ?_
          refine Dv.mv rfl trivial rfl ?_
          refine Dv.fab rfl trivial rfl Try.underlying42 rfl Try.underlying40 c40 (by decide) ?_
          refine Dv.ldb rfl trivial rfl Try.underlying40 rfl (mem_at 1 rfl) rfl ?_
          refine Dv.lenl rfl trivial rfl Try.underlying40 ?_
          refine Dv.bin rfl trivial rfl rfl (fun _ => run_lt) ?_
          refine .fin ?_
          refine WP.cond rfl (fun c215 => ?_) (fun c215 => ?_)
          · replace H := Gets.ct H c215
            refine WP.skip ?_
            refine WP.seq ?_
            refine WP.block ?_
            refine WP.seq ?_
            refine WP.dreg Try.checked.mixed [(0, false), (1, false), (2, false), (3, false), (4, false), (5, false), (6, false), (7, false)] (by kernel_rfl) ?_
            refine Dv.ldbs rfl trivial rfl Try.underlying50 rfl c50 (mem_at 2 rfl) (Nat.le_of_ble_eq_true rfl) ?_
            refine Dv.fab rfl trivial rfl Try.underlying42 rfl Try.underlying40 c40 (by decide) ?_
            refine Dv.ldb rfl trivial rfl Try.underlying40 rfl (mem_at 1 rfl) rfl ?_
            refine Dv.mv rfl trivial rfl ?_
            obtain ⟨g216, H⟩ := Gets.grd H
            refine Dv.ixr rfl trivial rfl rfl Try.underlying40 Try.underlying9 c9 g216.1 g216.2 ?_
            refine Dv.ldr rfl trivial rfl Try.underlying9 rfl rfl ?_
            obtain ⟨t217, h218, H⟩ := Gets.call H
            refine Dv.call rfl trivial cal21 rfl (concourseref07_At.c h218) ?_
            refine Dv.bin rfl trivial rfl rfl (fun _ => run_lt) ?_
            refine .fin ?_
            refine WP.cond rfl (fun c219 => ?_) (fun c219 => ?_)
            · replace H := Gets.ct H c219
              refine WP.seq ?_
              refine WP.reg [(0, false), (1, true), (2, false)] (by kernel_rfl) ?_
              refine Dv.ldbs rfl trivial rfl Try.underlying50 rfl c50 (mem_at 2 rfl) (Nat.le_of_ble_eq_true rfl) ?_
              refine Dv.stx ([blk b190 50 [eq (.string a0.fRoom), sl Event.K a0.fL], blk b189 42 [eq (.string a1.fID), eq (.string a1.fRoom), sl strK a1.fParents, eq (.string a1.fThread), eq (.string a1.fUser), eq (.int .i64 a1.fDoes)], blk b188 50 [eq (.string a0.fRoom), sl Event.K a0.fL]] ++ F) rfl trivial rfl rfl (cells_agg (RDag.K.one _)) Try.underlying50 c50 rfl (j := 0) rfl (Nat.le_of_ble_eq_true rfl) rfl nofun ?_
              refine Dv.asg rfl trivial rfl ?_
              refine .fin ?_
              replace H := Gets.outr H
              obtain rfl := Gets.out H
              exact WP.retL (fun _ _ h => h) rfl () trivial (.cons (res_cells rfl Try.underlying50 rfl c50 (mem_at 0 rfl) rfl) (.cons (res_tmp rfl) .nil)) rfl (st_sel (L := [blk b190 50 [eq (.string a0.fRoom), sl Event.K a0.fL], blk b189 42 [eq (.string a1.fID), eq (.string a1.fRoom), sl strK a1.fParents, eq (.string a1.fThread), eq (.string a1.fUser), eq (.int .i64 a1.fDoes)], blk b188 50 [eq (.string a0.fRoom), sl Event.K a0.fL]]) (F := F) [0, 1, 2] 3 rfl rfl rfl)
            · replace H := Gets.cf H c219
              refine WP.skip ?_
              refine WP.reg [(0, false), (1, false), (2, false)] (by kernel_rfl) ?_
              refine Dv.mv rfl trivial rfl ?_
              refine Dv.bin rfl trivial rfl rfl (fun _ => run_add) ?_
              refine Dv.asg rfl trivial rfl ?_
              refine .fin ?_
              exact Back.mk j220 (w64 (x214 + 1)) (Nat.lt_succ_self _) H (weak_cons rfl (weak_cons rfl (weak_cons rfl (weak_cons rfl (weak_cons rfl (weak_cons rfl (weak_cons rfl (weak_cons rfl (weak_cons rfl (weak_cons rfl weak_nil)))))))))) (List.Perm.refl _)
          · replace H := Gets.cf H c215
            refine WP.exit ?_
            replace H := Gets.out H
            exact Jn.mk (x214, decide (x214 < (a1.fParents.length : Int))) H (weak_cons rfl (weak_cons rfl (weak_cons rfl (weak_cons rfl (weak_cons rfl (weak_cons rfl (weak_cons rfl (weak_cons rfl (weak_cons rfl (weak_cons rfl (weak_cons rfl weak_nil))))))))))) (List.Perm.refl _)
  · replace H := Gets.ct H c193
    refine Dv.skip rfl ⟨_, _, rfl, rfl, .inl rfl⟩ ?_
    refine Dv.skip rfl ⟨_, _, rfl, rfl, .inl rfl⟩ ?_
    refine Dv.skip rfl ⟨_, _, rfl, rfl, .inl rfl⟩ ?_
    refine Dv.skip rfl ⟨_, _, rfl, rfl, .inl rfl⟩ ?_
    refine Dv.skip rfl ⟨_, _, rfl, rfl, .inl rfl⟩ ?_
    refine Dv.pickT rfl trivial rfl rfl ?_
    refine .fin ?_
    refine WP.cond rfl (fun _ => ?_) nofun
    refine WP.seq ?_
    refine WP.reg [(0, false), (1, true), (2, false)] (by kernel_rfl) ?_
    refine Dv.ldbs rfl trivial rfl Try.underlying50 rfl c50 (mem_at 2 rfl) (Nat.le_of_ble_eq_true rfl) ?_
    refine Dv.stx ([blk b190 50 [eq (.string a0.fRoom), sl Event.K a0.fL], blk b189 42 [eq (.string a1.fID), eq (.string a1.fRoom), sl strK a1.fParents, eq (.string a1.fThread), eq (.string a1.fUser), eq (.int .i64 a1.fDoes)], blk b188 50 [eq (.string a0.fRoom), sl Event.K a0.fL]] ++ F) rfl trivial rfl rfl (cells_agg (RDag.K.one _)) Try.underlying50 c50 rfl (j := 0) rfl (Nat.le_of_ble_eq_true rfl) rfl nofun ?_
    refine Dv.asg rfl trivial rfl ?_
    refine .fin ?_
    obtain rfl := Gets.out H
    exact WP.retL (fun _ _ h => h) rfl () trivial (.cons (res_cells rfl Try.underlying50 rfl c50 (mem_at 0 rfl) rfl) (.cons (res_tmp rfl) .nil)) rfl (st_sel (L := [blk b190 50 [eq (.string a0.fRoom), sl Event.K a0.fL], blk b189 42 [eq (.string a1.fID), eq (.string a1.fRoom), sl strK a1.fParents, eq (.string a1.fThread), eq (.string a1.fUser), eq (.int .i64 a1.fDoes)], blk b188 50 [eq (.string a0.fRoom), sl Event.K a0.fL]]) (F := F) [0, 1, 2] 3 rfl rfl rfl)
theorem concourseref07_Made.c {k : Nat} {a0 : ByteArray} {a1 : List GMade} {r : RDag} (h : concourseref07_Made.f k a0 a1 = some r) : Pt Try.prog 22 [eq (.string a0), sl GMade.K a1] (agg (RDag.enc r)) := by
  unfold concourseref07_Made.f at h
  refine (Tr.body Try.func22 (c := _) rfl Try.ntmps22 (Nat.le_of_ble_eq_true rfl) fun R0 F => ?_).pt
  replace h := Gets.of h
  have H := h
  clear h
  refine WP.seq ?_
  refine WP.reg [(0, true)] (by kernel_rfl) ?_
  refine Dv.alloc (z := .agg #[.string ⟨#[]⟩, .slice none 0 0]) (qs := [eq (.string (⟨#[]⟩ : ByteArray)), eq (.slice none 0 0)]) rfl trivial z50 rfl nofun (fun b222 => ?_)
  refine .fin ?_
  refine WP.seq ?_
  refine WP.reg [(0, false), (1, false), (2, true), (3, true)] (by kernel_rfl) ?_
  refine Dv.mv rfl trivial rfl ?_
  refine Dv.bld (css := [[eq (.string a0)]]) rfl trivial Try.underlying50 pl50 z50 rfl ⟨(cells_one (one_eq rfl)), trivial⟩ rfl rfl ?_
  refine Dv.alloc (z := .agg #[.string ⟨#[]⟩, .slice none 0 0]) (qs := [eq (.string (⟨#[]⟩ : ByteArray)), eq (.slice none 0 0)]) rfl trivial z50 rfl nofun (fun b223 => ?_)
  refine Dv.stx ([blk b223 50 [eq (.string a0), eq (.slice none 0 0)], blk b222 50 [eq (.string (⟨#[]⟩ : ByteArray)), eq (.slice none 0 0)]] ++ F) rfl trivial rfl rfl (cells_agg (ones_cons (one_eq rfl) (ones_cons (one_eq rfl) ones_nil))) Try.underlying50 c50 rfl (j := 0) rfl (Nat.le_of_ble_eq_true rfl) rfl nofun ?_
  refine .fin ?_
  refine WP.seqn H id (fun p224 : Int × Bool × ByteArray × (List Event) => [(0, eq (.string a0)), (1, sl GMade.K a1), (4, eq (.pointer (some ⟨b222, 0, none⟩))), (5, eq (.pointer (some ⟨b223, 0, none⟩))), (6, eq (.int .i64 p224.1)), (23, eq (.bool p224.2.1))]) (fun p224 : Int × Bool × ByteArray × (List Event) => [blk b223 50 [eq (.string p224.2.2.1), sl Event.K p224.2.2.2], blk b222 50 [eq (.string (⟨#[]⟩ : ByteArray)), eq (.slice none 0 0)]] ++ F) (fun p224 H => ?_) (fun H => ?_)
  · refine WP.seq ?_
    refine WP.reg [(0, false), (1, true)] (by kernel_rfl) ?_
    refine Dv.ldbs rfl trivial rfl Try.underlying50 rfl c50 (mem_at 0 rfl) (Nat.le_of_ble_eq_true rfl) ?_
    refine Dv.stx ([blk b223 50 [eq (.string p224.2.2.1), sl Event.K p224.2.2.2], blk b222 50 [eq (.string p224.2.2.1), sl Event.K p224.2.2.2]] ++ F) rfl trivial rfl rfl (cells_agg (ones_cons (one_eq rfl) (ones_cons one_sl ones_nil))) Try.underlying50 c50 rfl (j := 1) rfl (Nat.le_of_ble_eq_true rfl) rfl nofun ?_
    refine .fin ?_
    obtain rfl := Gets.out H
    exact WP.retL (fun _ _ h => h) rfl () trivial (.cons (res_cells rfl Try.underlying50 rfl c50 (mem_at 1 rfl) rfl) .nil) rfl (st_sel (L := [blk b223 50 [eq (.string p224.2.2.1), sl Event.K p224.2.2.2], blk b222 50 [eq (.string p224.2.2.1), sl Event.K p224.2.2.2]]) (F := F) [0, 1] 2 rfl rfl rfl)
  · refine WP.seq ?_
    refine WP.reg [(0, false)] (by kernel_rfl) ?_
    refine Dv.asg rfl trivial rfl ?_
    refine .fin ?_
    refine WP.block ?_
    refine WP.gh (gh_wk (E' := [(0, eq (.string a0)), (1, sl GMade.K a1), (4, eq (.pointer (some ⟨b222, 0, none⟩))), (5, eq (.pointer (some ⟨b223, 0, none⟩))), (6, eq (.int .i64 0))]) (l' := [blk b223 50 [eq (.string a0), sl Event.K ([] : List Event)], blk b222 50 [eq (.string (⟨#[]⟩ : ByteArray)), eq (.slice none 0 0)]] ++ F) (wke_cons rfl wk_id (wke_cons rfl wk_id (wke_cons rfl wk_id (wke_cons rfl wk_id (wke_cons rfl wk_id wke_nil))))) (all2_app (.cons (wka_blk (.cons wk_id (.cons wk_nil .nil))) (.cons wka_id .nil)) fun _ => wka_id)) (fun _ _ => ?_)
    refine WP.gh (l' := fun _ => [blk b223 50 [eq (.string a0), sl Event.K ([] : List Event)], blk b222 50 [eq (.string (⟨#[]⟩ : ByteArray)), eq (.slice none 0 0)]] ++ F) (gh_of (st_selg (L := [blk b223 50 [eq (.string a0), sl Event.K ([] : List Event)], blk b222 50 [eq (.string (⟨#[]⟩ : ByteArray)), eq (.slice none 0 0)]]) (F := F) [0, 1] 0 rfl rfl rfl)) (fun _ _ => ?_)
    refine WP.loopg (fun j_ (p313 : Int × ByteArray × (List Event)) => concourseref07_Made.l0 k a0 a1 j_ p313.1 p313.2.1 p313.2.2) (0, a0, ([] : List Event)) H (fun p313 => [(0, eq (.string a0)), (1, sl GMade.K a1), (4, eq (.pointer (some ⟨b222, 0, none⟩))), (5, eq (.pointer (some ⟨b223, 0, none⟩))), (6, eq (.int .i64 p313.1))]) (fun p313 => [blk b223 50 [eq (.string p313.2.1), sl Event.K p313.2.2], blk b222 50 [eq (.string (⟨#[]⟩ : ByteArray)), eq (.slice none 0 0)]] ++ F) (weak_cons rfl (weak_cons rfl (weak_cons rfl (weak_cons rfl (weak_cons rfl weak_nil))))) (List.Perm.refl _) ?_
    rintro j_ ⟨x225, x226, x227⟩ H
    rcases j_ with _ | j312
    · exact (Gets.no H).elim
    replace H : Gets (concourseref07_Made.l0 k a0 a1 (j312 + 1) x225 x226 x227) _ := H
    rw [concourseref07_Made.l0] at H
    refine WP.seq ?_
    refine WP.seq ?_
    refine WP.reg [(0, false), (1, false), (2, false), (3, false), (4, false), (5, false), (6, false), (7, false)] (by kernel_rfl) ?_
    refine Dv.mv rfl trivial rfl ?_
    refine Dv.mv rfl trivial rfl ?_
    refine Dv.lenl rfl trivial rfl Try.underlying22 ?_
    refine Dv.bin rfl trivial rfl rfl (fun _ => run_lt) ?_
    refine Dv.mv rfl trivial rfl ?_
    cases c228 : decide (x225 < (a1.length : Int))
    · replace H := Gets.cf H c228
      refine Dv.skip rfl ⟨_, _, rfl, rfl, .inl rfl⟩ ?_
      refine Dv.skip rfl ⟨_, _, rfl, rfl, .inl rfl⟩ ?_
      refine Dv.pickF rfl trivial rfl rfl ?_
      refine .fin ?_
      refine WP.cond rfl nofun (fun _ => ?_)
      refine WP.exit ?_
      replace H := Gets.out H
      exact Jn.mk (x225, false, x226, x227) H (weak_cons rfl (weak_cons rfl (weak_cons rfl (weak_cons rfl (weak_cons rfl (weak_cons rfl weak_nil)))))) (List.Perm.refl _)
    · replace H := Gets.ct H c228
      refine Dv.mv rfl ⟨_, _, rfl, rfl, rfl⟩ rfl ?_
      refine Dv.bin rfl ⟨_, _, rfl, rfl, rfl⟩ rfl rfl (fun _ => run_lt) ?_
      refine Dv.pickT rfl trivial rfl rfl ?_
      refine .fin ?_
      refine WP.cond rfl (fun c229 => ?_) (fun c229 => ?_)
      · replace H := Gets.ct H c229
        refine WP.skip ?_
        refine WP.seqn H (fun q310 : (Int × Int × Bool × Bool × Bool × ByteArray × (List Event) × (List Bool)) × OV => q310.1) (fun q310 : (Int × Int × Bool × Bool × Bool × ByteArray × (List Event) × (List Bool)) × OV => [(0, eq (.string a0)), (1, sl GMade.K a1), (4, eq (.pointer (some ⟨b222, 0, none⟩))), (5, eq (.pointer (some ⟨b223, 0, none⟩))), (6, eq (.int .i64 x225)), (8, eq q310.2.1), (9, eq (.int .i64 q310.1.1)), (10, eq (.int .i64 q310.1.2.1)), (23, eq (.bool (decide (x225 < 9)))), (58, eq (.bool q310.1.2.2.1)), (75, eq (.bool q310.1.2.2.2.1)), (95, eq (.bool q310.1.2.2.2.2.1))]) (fun q310 : (Int × Int × Bool × Bool × Bool × ByteArray × (List Event) × (List Bool)) × OV => [blk b223 50 [eq (.string q310.1.2.2.2.2.2.1), sl Event.K q310.1.2.2.2.2.2.2.1], blk b222 50 [eq (.string (⟨#[]⟩ : ByteArray)), eq (.slice none 0 0)], own boolK q310.2.1 q310.1.2.2.2.2.2.2.2] ++ F) (fun q310 H => ?_) (fun H => ?_)
        · obtain ⟨p230, v231⟩ := q310
          refine WP.reg [(0, false), (1, false), (2, false)] (by kernel_rfl) ?_
          refine Dv.mv rfl trivial rfl ?_
          refine Dv.bin rfl trivial rfl rfl (fun _ => run_add) ?_
          refine Dv.asg rfl trivial rfl ?_
          refine .fin ?_
          refine Dn.gh (l' := fun _ : Unit => [blk b223 50 [eq (.string p230.2.2.2.2.2.1), sl Event.K p230.2.2.2.2.2.2.1], blk b222 50 [eq (.string (⟨#[]⟩ : ByteArray)), eq (.slice none 0 0)]] ++ F) (gh_of (st_selg (L := [blk b223 50 [eq (.string p230.2.2.2.2.2.1), sl Event.K p230.2.2.2.2.2.2.1], blk b222 50 [eq (.string (⟨#[]⟩ : ByteArray)), eq (.slice none 0 0)], own boolK v231.1 p230.2.2.2.2.2.2.2]) (F := F) [2, 0, 1] 1 rfl rfl rfl)) (fun _ _ => ?_)
          exact Back.mk j312 (w64 (x225 + 1), p230.2.2.2.2.2.1, p230.2.2.2.2.2.2.1) (Nat.lt_succ_self _) H (weak_cons rfl (weak_cons rfl (weak_cons rfl (weak_cons rfl (weak_cons rfl weak_nil))))) (List.Perm.refl _)
        · refine WP.block ?_
          refine WP.seq ?_
          refine WP.dreg Try.checked.mixed [(0, false), (1, false), (2, false), (3, false), (4, false), (5, false), (6, false), (7, false), (8, false), (9, false), (10, false), (11, false), (12, false), (13, false), (14, false), (15, false), (16, true), (17, true)] (by kernel_rfl) ?_
          refine Dv.mv rfl trivial rfl ?_
          obtain ⟨t232, h233, H⟩ := Gets.call H
          refine Dv.call rfl trivial cal7 rfl (concourseref01_EventOf.c h233) ?_
          refine Dv.mv rfl trivial rfl ?_
          refine Dv.mv rfl trivial rfl ?_
          refine Dv.mv rfl trivial rfl ?_
          obtain ⟨g234, H⟩ := Gets.grd H
          refine Dv.ixr rfl trivial rfl rfl Try.underlying22 Try.underlying70 c70 g234.1 g234.2 ?_
          refine Dv.far rfl trivial rfl Try.underlying70 rfl Try.underlying3 c3 (by decide) (Nat.le_of_ble_eq_true rfl) ?_
          refine Dv.ldr rfl trivial rfl Try.underlying3 rfl rfl ?_
          obtain ⟨t235, h236, H⟩ := Gets.call H
          refine Dv.call rfl trivial cal28 rfl (concourseref01_UserOf.c h236) ?_
          refine Dv.mv rfl trivial rfl ?_
          refine Dv.mv rfl trivial rfl ?_
          obtain ⟨g237, H⟩ := Gets.grd H
          refine Dv.ixr rfl trivial rfl rfl Try.underlying22 Try.underlying70 c70 g237.1 g237.2 ?_
          refine Dv.far rfl trivial rfl Try.underlying70 rfl Try.underlying3 c3 (by decide) (Nat.le_of_ble_eq_true rfl) ?_
          refine Dv.ldr rfl trivial rfl Try.underlying3 rfl rfl ?_
          obtain ⟨t238, h239, H⟩ := Gets.call H
          refine Dv.call rfl trivial cal16 rfl (concourseref01_Around.c h239) ?_
          refine Dv.bld (css := [[eq (.string t232)], [eq (.string a0)], [eq (.string t235)], [eq (.int .i64 t238)]]) rfl trivial Try.underlying42 pl42 z42 rfl ⟨(cells_one (one_eq rfl)), ⟨(cells_one (one_eq rfl)), ⟨(cells_one (one_eq rfl)), ⟨(cells_one (one_eq rfl)), trivial⟩⟩⟩⟩ rfl rfl ?_
          refine Dv.alloc (z := .agg #[.string ⟨#[]⟩, .string ⟨#[]⟩, .slice none 0 0, .string ⟨#[]⟩, .string ⟨#[]⟩, .int .i64 0]) (qs := [eq (.string (⟨#[]⟩ : ByteArray)), eq (.string (⟨#[]⟩ : ByteArray)), eq (.slice none 0 0), eq (.string (⟨#[]⟩ : ByteArray)), eq (.string (⟨#[]⟩ : ByteArray)), eq (.int .i64 0)]) rfl trivial z42 rfl (fun _ => (pend_in (fun _ => trivial) (pend_in (fun _ => trivial) (pend_in (fun _ => trivial) (pend_in (fun _ => trivial) (pend_in (fun _ => trivial) (pend_in (fun _ => trivial) (pend_in (fun _ => trivial) (pend_in (fun _ => trivial) (pend_in (fun _ => trivial) (pend_in (fun _ => trivial) (pend_in (fun _ => trivial) (pend_in (fun _ => trivial) (pend_in (fun _ => trivial) (pend_in (fun _ => trivial) (pend_in (fun _ => trivial) (pend_in (fun _ => trivial) pend_nil))))))))))))))))) (fun b240 => ?_)
          refine Dv.stx ([blk b240 42 [eq (.string t232), eq (.string a0), eq (.slice none 0 0), eq (.string (⟨#[]⟩ : ByteArray)), eq (.string t235), eq (.int .i64 t238)], blk b223 50 [eq (.string x226), sl Event.K x227], blk b222 50 [eq (.string (⟨#[]⟩ : ByteArray)), eq (.slice none 0 0)]] ++ F) rfl trivial rfl rfl (cells_agg (ones_cons (one_eq rfl) (ones_cons (one_eq rfl) (ones_cons (one_eq rfl) (ones_cons (one_eq rfl) (ones_cons (one_eq rfl) (ones_cons (one_eq rfl) ones_nil))))))) Try.underlying42 c42 rfl (j := 0) rfl (Nat.le_of_ble_eq_true rfl) rfl (fun _ => pend_bits (by kernel_rfl)) ?_
          refine .fin ?_
          refine WP.seq ?_
          refine WP.reg [(0, true), (1, false)] (by kernel_rfl) ?_
          obtain ⟨g241, H⟩ := Gets.grd H
          obtain ⟨ti242, ti242a, ti242b, ti242c, ti242d⟩ := inf4
          refine Dv.mks (Kd := boolK) (false : Bool) rfl trivial rfl rfl Try.underlying71 ti242a ti242b ti242c ti242d rfl (by decide) rfl g241 nofun (fun v243 => ?_)
          refine Dv.asg rfl trivial rfl ?_
          refine .fin ?_
          refine WP.seqn H id (fun p244 : Int × Bool × (List Bool) => [(0, eq (.string a0)), (1, sl GMade.K a1), (4, eq (.pointer (some ⟨b222, 0, none⟩))), (5, eq (.pointer (some ⟨b223, 0, none⟩))), (6, eq (.int .i64 x225)), (7, eq (.pointer (some ⟨b240, 0, none⟩))), (8, eq v243.1), (9, eq (.int .i64 p244.1)), (23, eq (.bool (decide (x225 < 9)))), (58, eq (.bool p244.2.1))]) (fun p244 : Int × Bool × (List Bool) => [blk b240 42 [eq (.string t232), eq (.string a0), eq (.slice none 0 0), eq (.string (⟨#[]⟩ : ByteArray)), eq (.string t235), eq (.int .i64 t238)], blk b223 50 [eq (.string x226), sl Event.K x227], blk b222 50 [eq (.string (⟨#[]⟩ : ByteArray)), eq (.slice none 0 0)], own boolK v243.1 p244.2.2] ++ F) (fun p244 H => ?_) (fun H => ?_)
          · refine WP.seqn H (fun q293 : (Int × Bool × (List ByteArray)) × OV => q293.1) (fun q293 : (Int × Bool × (List ByteArray)) × OV => [(0, eq (.string a0)), (1, sl GMade.K a1), (4, eq (.pointer (some ⟨b222, 0, none⟩))), (5, eq (.pointer (some ⟨b223, 0, none⟩))), (6, eq (.int .i64 x225)), (7, eq (.pointer (some ⟨b240, 0, none⟩))), (8, eq v243.1), (9, eq (.int .i64 p244.1)), (10, eq (.int .i64 q293.1.1)), (23, eq (.bool (decide (x225 < 9)))), (58, eq (.bool p244.2.1)), (75, eq (.bool q293.1.2.1))]) (fun q293 : (Int × Bool × (List ByteArray)) × OV => [blk b240 42 [eq (.string t232), eq (.string a0), eq q293.2.1, eq (.string (⟨#[]⟩ : ByteArray)), eq (.string t235), eq (.int .i64 t238)], blk b223 50 [eq (.string x226), sl Event.K x227], blk b222 50 [eq (.string (⟨#[]⟩ : ByteArray)), eq (.slice none 0 0)], own boolK v243.1 p244.2.2, own strK q293.2.1 q293.1.2.2] ++ F) (fun q293 H => ?_) (fun H => ?_)
            · obtain ⟨p245, v246⟩ := q293
              refine WP.seq ?_
              refine WP.seq ?_
              refine WP.reg [(0, false), (1, false), (2, false), (3, false), (4, false), (5, false), (6, false)] (by kernel_rfl) ?_
              refine Dv.fab rfl trivial rfl Try.underlying42 rfl Try.underlying3 c3 (by decide) ?_
              refine Dv.ldb rfl trivial rfl Try.underlying3 rfl (mem_at 0 rfl) rfl ?_
              refine Dv.bin rfl trivial rfl rfl (fun _ => run_eq) ?_
              refine Dv.mv rfl trivial rfl ?_
              cases c247 : (t238 == 0)
              · replace H := Gets.cf H c247
                refine Dv.skip rfl ⟨_, _, rfl, rfl, .inl rfl⟩ ?_
                refine Dv.skip rfl ⟨_, _, rfl, rfl, .inl rfl⟩ ?_
                refine Dv.pickF rfl trivial rfl rfl ?_
                refine .fin ?_
                refine WP.cond rfl nofun (fun _ => ?_)
                refine WP.skip ?_
                refine WP.seq ?_
                refine WP.reg [(0, false), (1, false), (2, false), (3, false), (4, false), (5, false), (6, true), (7, true), (8, false)] (by kernel_rfl) ?_
                refine Dv.ldbs rfl trivial rfl Try.underlying50 rfl c50 (mem_at 1 rfl) (Nat.le_of_ble_eq_true rfl) ?_
                refine Dv.ldbs rfl trivial rfl Try.underlying42 rfl c42 (mem_at 0 rfl) (Nat.le_of_ble_eq_true rfl) ?_
                refine Dv.gh (gh_frz (E' := [(0, eq (.string a0)), (1, sl GMade.K a1), (4, eq (.pointer (some ⟨b222, 0, none⟩))), (5, eq (.pointer (some ⟨b223, 0, none⟩))), (6, eq (.int .i64 x225)), (7, eq (.pointer (some ⟨b240, 0, none⟩))), (8, eq v243.1), (9, eq (.int .i64 p244.1)), (10, eq (.int .i64 p245.1)), (23, eq (.bool (decide (x225 < 9)))), (58, eq (.bool p244.2.1)), (75, eq (.bool p245.2.1)), (95, eq (.bool false)), (129, agg [eq (.string x226), sl Event.K x227]), (130, agg [eq (.string t232), eq (.string a0), sl strK p245.2.2, eq (.string (⟨#[]⟩ : ByteArray)), eq (.string t235), eq (.int .i64 t238)])]) (l' := [blk b240 42 [eq (.string t232), eq (.string a0), sl strK p245.2.2, eq (.string (⟨#[]⟩ : ByteArray)), eq (.string t235), eq (.int .i64 t238)], blk b223 50 [eq (.string x226), sl Event.K x227], blk b222 50 [eq (.string (⟨#[]⟩ : ByteArray)), eq (.slice none 0 0)], own boolK v243.1 p244.2.2] ++ F) 4 rfl (cve_cons rfl cv_id (cve_cons rfl cv_id (cve_cons rfl cv_id (cve_cons rfl cv_id (cve_cons rfl cv_id (cve_cons rfl cv_id (cve_cons rfl cv_id (cve_cons rfl cv_id (cve_cons rfl cv_id (cve_cons rfl cv_id (cve_cons rfl cv_id (cve_cons rfl cv_id (cve_cons rfl cv_id (cve_cons rfl cv_id (cve_cons rfl (cv_agg (.cons cv_id (.cons cv_id (.cons cv_eq (.cons cv_id (.cons cv_id (.cons cv_id .nil))))))) cve_nil))))))))))))))) (all2_app (.cons (cva_blk (.cons cv_id (.cons cv_id (.cons cv_eq (.cons cv_id (.cons cv_id (.cons cv_id .nil))))))) (.cons cva_id (.cons cva_id (.cons cva_id .nil)))) fun _ => cva_id)) (fun _ _ => ?_)
                obtain ⟨t277, h278, H⟩ := Gets.call H
                refine Dv.call rfl trivial cal29 rfl (concourseref07_Add.c h278) ?_
                refine Dv.mv rfl trivial rfl ?_
                refine Dv.ext rfl trivial rfl rfl ?_
                refine Dv.ext rfl trivial rfl rfl ?_
                refine Dv.alloc (z := .agg #[.string ⟨#[]⟩, .slice none 0 0]) (qs := [eq (.string (⟨#[]⟩ : ByteArray)), eq (.slice none 0 0)]) rfl trivial z50 rfl nofun (fun b279 => ?_)
                refine Dv.stx ([blk b279 50 [eq (.string t277.1.fRoom), sl Event.K t277.1.fL], blk b240 42 [eq (.string t232), eq (.string a0), sl strK p245.2.2, eq (.string (⟨#[]⟩ : ByteArray)), eq (.string t235), eq (.int .i64 t238)], blk b223 50 [eq (.string x226), sl Event.K x227], blk b222 50 [eq (.string (⟨#[]⟩ : ByteArray)), eq (.slice none 0 0)], own boolK v243.1 p244.2.2] ++ F) rfl trivial rfl rfl (cells_agg (RDag.K.one _)) Try.underlying50 c50 rfl (j := 0) rfl (Nat.le_of_ble_eq_true rfl) rfl nofun ?_
                refine Dv.asg rfl trivial rfl ?_
                refine .fin ?_
                refine WP.reg [(0, false), (1, true)] (by kernel_rfl) ?_
                refine Dv.ldbs rfl trivial rfl Try.underlying50 rfl c50 (mem_at 0 rfl) (Nat.le_of_ble_eq_true rfl) ?_
                refine Dv.stx ([blk b279 50 [eq (.string t277.1.fRoom), sl Event.K t277.1.fL], blk b240 42 [eq (.string t232), eq (.string a0), sl strK p245.2.2, eq (.string (⟨#[]⟩ : ByteArray)), eq (.string t235), eq (.int .i64 t238)], blk b223 50 [eq (.string t277.1.fRoom), sl Event.K t277.1.fL], blk b222 50 [eq (.string (⟨#[]⟩ : ByteArray)), eq (.slice none 0 0)], own boolK v243.1 p244.2.2] ++ F) rfl trivial rfl rfl (cells_agg (RDag.K.one _)) Try.underlying50 c50 rfl (j := 2) rfl (Nat.le_of_ble_eq_true rfl) rfl nofun ?_
                refine .fin ?_
                replace H := Gets.out H
                refine Dn.gh (l' := fun _ : Unit => [blk b223 50 [eq (.string t277.1.fRoom), sl Event.K t277.1.fL], blk b222 50 [eq (.string (⟨#[]⟩ : ByteArray)), eq (.slice none 0 0)], own boolK v243.1 p244.2.2] ++ F) (gh_of (st_selg (L := [blk b279 50 [eq (.string t277.1.fRoom), sl Event.K t277.1.fL], blk b240 42 [eq (.string t232), eq (.string a0), sl strK p245.2.2, eq (.string (⟨#[]⟩ : ByteArray)), eq (.string t235), eq (.int .i64 t238)], blk b223 50 [eq (.string t277.1.fRoom), sl Event.K t277.1.fL], blk b222 50 [eq (.string (⟨#[]⟩ : ByteArray)), eq (.slice none 0 0)], own boolK v243.1 p244.2.2]) (F := F) [0, 1, 2, 3, 4] 2 (by kernel_rfl) rfl rfl)) (fun _ _ => ?_)
                exact Jn.mk ((p244.1, p245.1, p244.2.1, p245.2.1, false, t277.1.fRoom, t277.1.fL, p244.2.2), v243) H (weak_cons rfl (weak_cons rfl (weak_cons rfl (weak_cons rfl (weak_cons rfl (weak_cons rfl (weak_cons rfl (weak_cons rfl (weak_cons rfl (weak_cons rfl (weak_cons rfl (weak_cons rfl weak_nil)))))))))))) (List.Perm.refl _)
              · replace H := Gets.ct H c247
                refine Dv.mv rfl ⟨_, _, rfl, rfl, rfl⟩ rfl ?_
                refine Dv.bin rfl ⟨_, _, rfl, rfl, rfl⟩ rfl rfl (fun _ => run_gt) ?_
                refine Dv.pickT rfl trivial rfl rfl ?_
                refine .fin ?_
                refine WP.cond rfl (fun c248 => ?_) (fun c248 => ?_)
                · replace H := Gets.ct H c248
                  refine WP.seq ?_
                  refine WP.reg [(0, false), (1, false), (2, false), (3, false), (4, false), (5, false), (6, false), (7, false), (8, false)] (by kernel_rfl) ?_
                  refine Dv.mv rfl trivial rfl ?_
                  refine Dv.mv rfl trivial rfl ?_
                  obtain ⟨g249, H⟩ := Gets.grd H
                  refine Dv.ixr rfl trivial rfl rfl Try.underlying22 Try.underlying70 c70 g249.1 g249.2 ?_
                  refine Dv.far rfl trivial rfl Try.underlying70 rfl Try.underlying3 c3 (by decide) (Nat.le_of_ble_eq_true rfl) ?_
                  refine Dv.ldr rfl trivial rfl Try.underlying3 rfl rfl ?_
                  refine Dv.mv rfl trivial rfl ?_
                  refine Dv.bin rfl trivial rfl rfl (fun _ => run_mul) ?_
                  obtain ⟨t250, h251, H⟩ := Gets.call H
                  refine Dv.call rfl trivial cal16 rfl (concourseref01_Around.c h251) ?_
                  refine Dv.asg rfl trivial rfl ?_
                  refine .fin ?_
                  refine WP.seq ?_
                  refine WP.reg [(0, false), (1, false), (2, false), (3, false), (4, false), (5, false), (6, false), (7, false), (8, false), (9, false), (10, false), (11, false), (12, false), (13, false), (14, false), (15, false), (16, false), (17, false), (18, false), (19, false), (20, false)] (by kernel_rfl) ?_
                  refine Dv.mv rfl trivial rfl ?_
                  refine Dv.mv rfl trivial rfl ?_
                  refine Dv.bin rfl trivial rfl rfl (fun _ => run_lt) ?_
                  refine Dv.mv rfl trivial rfl ?_
                  cases c252 : decide (t250 < x225)
                  · replace H := Gets.cf H c252
                    refine Dv.skip rfl ⟨_, _, rfl, rfl, .inl rfl⟩ ?_
                    refine Dv.skip rfl ⟨_, _, rfl, rfl, .inl rfl⟩ ?_
                    refine Dv.skip rfl ⟨_, _, rfl, rfl, .inl rfl⟩ ?_
                    refine Dv.skip rfl ⟨_, _, rfl, rfl, .inl rfl⟩ ?_
                    refine Dv.skip rfl ⟨_, _, rfl, rfl, .inl rfl⟩ ?_
                    refine Dv.skip rfl ⟨_, _, rfl, rfl, .inl rfl⟩ ?_
                    refine Dv.skip rfl ⟨_, _, rfl, rfl, .inl rfl⟩ ?_
                    refine Dv.pickF rfl trivial rfl rfl ?_
                    refine Dv.mv rfl trivial rfl ?_
                    refine Dv.skip rfl ⟨_, _, rfl, rfl, .inl rfl⟩ ?_
                    refine Dv.skip rfl ⟨_, _, rfl, rfl, .inl rfl⟩ ?_
                    refine Dv.skip rfl ⟨_, _, rfl, rfl, .inl rfl⟩ ?_
                    refine Dv.skip rfl ⟨_, _, rfl, rfl, .inl rfl⟩ ?_
                    refine Dv.skip rfl ⟨_, _, rfl, rfl, .inl rfl⟩ ?_
                    refine Dv.skip rfl ⟨_, _, rfl, rfl, .inl rfl⟩ ?_
                    refine Dv.skip rfl ⟨_, _, rfl, rfl, .inl rfl⟩ ?_
                    refine Dv.pickF rfl trivial rfl rfl ?_
                    refine .fin ?_
                    refine WP.cond rfl nofun (fun _ => ?_)
                    refine WP.skip ?_
                    refine WP.seq ?_
                    refine WP.reg [(0, false), (1, false), (2, false), (3, false), (4, false), (5, false), (6, true), (7, true), (8, false)] (by kernel_rfl) ?_
                    refine Dv.ldbs rfl trivial rfl Try.underlying50 rfl c50 (mem_at 1 rfl) (Nat.le_of_ble_eq_true rfl) ?_
                    refine Dv.ldbs rfl trivial rfl Try.underlying42 rfl c42 (mem_at 0 rfl) (Nat.le_of_ble_eq_true rfl) ?_
                    refine Dv.gh (gh_frz (E' := [(0, eq (.string a0)), (1, sl GMade.K a1), (4, eq (.pointer (some ⟨b222, 0, none⟩))), (5, eq (.pointer (some ⟨b223, 0, none⟩))), (6, eq (.int .i64 x225)), (7, eq (.pointer (some ⟨b240, 0, none⟩))), (8, eq v243.1), (9, eq (.int .i64 p244.1)), (10, eq (.int .i64 p245.1)), (11, eq (.int .i64 t250)), (23, eq (.bool (decide (x225 < 9)))), (58, eq (.bool p244.2.1)), (75, eq (.bool p245.2.1)), (95, eq (.bool (decide (0 < x225)))), (124, eq (.bool false)), (129, agg [eq (.string x226), sl Event.K x227]), (130, agg [eq (.string t232), eq (.string a0), sl strK p245.2.2, eq (.string (⟨#[]⟩ : ByteArray)), eq (.string t235), eq (.int .i64 t238)])]) (l' := [blk b240 42 [eq (.string t232), eq (.string a0), sl strK p245.2.2, eq (.string (⟨#[]⟩ : ByteArray)), eq (.string t235), eq (.int .i64 t238)], blk b223 50 [eq (.string x226), sl Event.K x227], blk b222 50 [eq (.string (⟨#[]⟩ : ByteArray)), eq (.slice none 0 0)], own boolK v243.1 p244.2.2] ++ F) 4 rfl (cve_cons rfl cv_id (cve_cons rfl cv_id (cve_cons rfl cv_id (cve_cons rfl cv_id (cve_cons rfl cv_id (cve_cons rfl cv_id (cve_cons rfl cv_id (cve_cons rfl cv_id (cve_cons rfl cv_id (cve_cons rfl cv_id (cve_cons rfl cv_id (cve_cons rfl cv_id (cve_cons rfl cv_id (cve_cons rfl cv_id (cve_cons rfl cv_id (cve_cons rfl cv_id (cve_cons rfl (cv_agg (.cons cv_id (.cons cv_id (.cons cv_eq (.cons cv_id (.cons cv_id (.cons cv_id .nil))))))) cve_nil))))))))))))))))) (all2_app (.cons (cva_blk (.cons cv_id (.cons cv_id (.cons cv_eq (.cons cv_id (.cons cv_id (.cons cv_id .nil))))))) (.cons cva_id (.cons cva_id (.cons cva_id .nil)))) fun _ => cva_id)) (fun _ _ => ?_)
                    obtain ⟨t270, h271, H⟩ := Gets.call H
                    refine Dv.call rfl trivial cal29 rfl (concourseref07_Add.c h271) ?_
                    refine Dv.mv rfl trivial rfl ?_
                    refine Dv.ext rfl trivial rfl rfl ?_
                    refine Dv.ext rfl trivial rfl rfl ?_
                    refine Dv.alloc (z := .agg #[.string ⟨#[]⟩, .slice none 0 0]) (qs := [eq (.string (⟨#[]⟩ : ByteArray)), eq (.slice none 0 0)]) rfl trivial z50 rfl nofun (fun b272 => ?_)
                    refine Dv.stx ([blk b272 50 [eq (.string t270.1.fRoom), sl Event.K t270.1.fL], blk b240 42 [eq (.string t232), eq (.string a0), sl strK p245.2.2, eq (.string (⟨#[]⟩ : ByteArray)), eq (.string t235), eq (.int .i64 t238)], blk b223 50 [eq (.string x226), sl Event.K x227], blk b222 50 [eq (.string (⟨#[]⟩ : ByteArray)), eq (.slice none 0 0)], own boolK v243.1 p244.2.2] ++ F) rfl trivial rfl rfl (cells_agg (RDag.K.one _)) Try.underlying50 c50 rfl (j := 0) rfl (Nat.le_of_ble_eq_true rfl) rfl nofun ?_
                    refine Dv.asg rfl trivial rfl ?_
                    refine .fin ?_
                    refine WP.reg [(0, false), (1, true)] (by kernel_rfl) ?_
                    refine Dv.ldbs rfl trivial rfl Try.underlying50 rfl c50 (mem_at 0 rfl) (Nat.le_of_ble_eq_true rfl) ?_
                    refine Dv.stx ([blk b272 50 [eq (.string t270.1.fRoom), sl Event.K t270.1.fL], blk b240 42 [eq (.string t232), eq (.string a0), sl strK p245.2.2, eq (.string (⟨#[]⟩ : ByteArray)), eq (.string t235), eq (.int .i64 t238)], blk b223 50 [eq (.string t270.1.fRoom), sl Event.K t270.1.fL], blk b222 50 [eq (.string (⟨#[]⟩ : ByteArray)), eq (.slice none 0 0)], own boolK v243.1 p244.2.2] ++ F) rfl trivial rfl rfl (cells_agg (RDag.K.one _)) Try.underlying50 c50 rfl (j := 2) rfl (Nat.le_of_ble_eq_true rfl) rfl nofun ?_
                    refine .fin ?_
                    replace H := Gets.out H
                    refine Dn.gh (l' := fun _ : Unit => [blk b223 50 [eq (.string t270.1.fRoom), sl Event.K t270.1.fL], blk b222 50 [eq (.string (⟨#[]⟩ : ByteArray)), eq (.slice none 0 0)], own boolK v243.1 p244.2.2] ++ F) (gh_of (st_selg (L := [blk b272 50 [eq (.string t270.1.fRoom), sl Event.K t270.1.fL], blk b240 42 [eq (.string t232), eq (.string a0), sl strK p245.2.2, eq (.string (⟨#[]⟩ : ByteArray)), eq (.string t235), eq (.int .i64 t238)], blk b223 50 [eq (.string t270.1.fRoom), sl Event.K t270.1.fL], blk b222 50 [eq (.string (⟨#[]⟩ : ByteArray)), eq (.slice none 0 0)], own boolK v243.1 p244.2.2]) (F := F) [0, 1, 2, 3, 4] 2 (by kernel_rfl) rfl rfl)) (fun _ _ => ?_)
                    exact Jn.mk ((p244.1, p245.1, p244.2.1, p245.2.1, decide (0 < x225), t270.1.fRoom, t270.1.fL, p244.2.2), v243) H (weak_cons rfl (weak_cons rfl (weak_cons rfl (weak_cons rfl (weak_cons rfl (weak_cons rfl (weak_cons rfl (weak_cons rfl (weak_cons rfl (weak_cons rfl (weak_cons rfl (weak_cons rfl weak_nil)))))))))))) (List.Perm.refl _)
                  · replace H := Gets.ct H c252
                    refine Dv.fab rfl ⟨_, _, rfl, rfl, rfl⟩ rfl Try.underlying50 rfl Try.underlying36 c36 (by decide) ?_
                    refine Dv.ldb rfl ⟨_, _, rfl, rfl, rfl⟩ rfl Try.underlying36 rfl (mem_at 1 rfl) rfl ?_
                    refine Dv.mv rfl ⟨_, _, rfl, rfl, rfl⟩ rfl ?_
                    obtain ⟨g253, H⟩ := Gets.grd H
                    refine Dv.ixr rfl ⟨_, _, rfl, rfl, rfl⟩ rfl rfl Try.underlying36 Try.underlying42 c42 g253.1 g253.2 ?_
                    refine Dv.far rfl ⟨_, _, rfl, rfl, rfl⟩ rfl Try.underlying42 rfl Try.underlying3 c3 (by decide) (Nat.le_of_ble_eq_true rfl) ?_
                    refine Dv.ldr rfl ⟨_, _, rfl, rfl, rfl⟩ rfl Try.underlying3 rfl rfl ?_
                    refine Dv.bin rfl ⟨_, _, rfl, rfl, rfl⟩ rfl rfl (fun _ => run_eq) ?_
                    refine Dv.pickT rfl trivial rfl rfl ?_
                    refine Dv.mv rfl trivial rfl ?_
                    cases c254 : (((Event.K.at x227 t250).fDoes) == 0)
                    · replace H := Gets.cf H c254
                      refine Dv.skip rfl ⟨_, _, rfl, rfl, .inl rfl⟩ ?_
                      refine Dv.skip rfl ⟨_, _, rfl, rfl, .inl rfl⟩ ?_
                      refine Dv.skip rfl ⟨_, _, rfl, rfl, .inl rfl⟩ ?_
                      refine Dv.skip rfl ⟨_, _, rfl, rfl, .inl rfl⟩ ?_
                      refine Dv.skip rfl ⟨_, _, rfl, rfl, .inl rfl⟩ ?_
                      refine Dv.skip rfl ⟨_, _, rfl, rfl, .inl rfl⟩ ?_
                      refine Dv.skip rfl ⟨_, _, rfl, rfl, .inl rfl⟩ ?_
                      refine Dv.pickF rfl trivial rfl rfl ?_
                      refine .fin ?_
                      refine WP.cond rfl nofun (fun _ => ?_)
                      refine WP.skip ?_
                      refine WP.seq ?_
                      refine WP.reg [(0, false), (1, false), (2, false), (3, false), (4, false), (5, false), (6, true), (7, true), (8, false)] (by kernel_rfl) ?_
                      refine Dv.ldbs rfl trivial rfl Try.underlying50 rfl c50 (mem_at 1 rfl) (Nat.le_of_ble_eq_true rfl) ?_
                      refine Dv.ldbs rfl trivial rfl Try.underlying42 rfl c42 (mem_at 0 rfl) (Nat.le_of_ble_eq_true rfl) ?_
                      refine Dv.gh (gh_frz (E' := [(0, eq (.string a0)), (1, sl GMade.K a1), (4, eq (.pointer (some ⟨b222, 0, none⟩))), (5, eq (.pointer (some ⟨b223, 0, none⟩))), (6, eq (.int .i64 x225)), (7, eq (.pointer (some ⟨b240, 0, none⟩))), (8, eq v243.1), (9, eq (.int .i64 p244.1)), (10, eq (.int .i64 p245.1)), (11, eq (.int .i64 t250)), (23, eq (.bool (decide (x225 < 9)))), (58, eq (.bool p244.2.1)), (75, eq (.bool p245.2.1)), (95, eq (.bool (decide (0 < x225)))), (124, eq (.bool false)), (129, agg [eq (.string x226), sl Event.K x227]), (130, agg [eq (.string t232), eq (.string a0), sl strK p245.2.2, eq (.string (⟨#[]⟩ : ByteArray)), eq (.string t235), eq (.int .i64 t238)])]) (l' := [blk b240 42 [eq (.string t232), eq (.string a0), sl strK p245.2.2, eq (.string (⟨#[]⟩ : ByteArray)), eq (.string t235), eq (.int .i64 t238)], blk b223 50 [eq (.string x226), sl Event.K x227], blk b222 50 [eq (.string (⟨#[]⟩ : ByteArray)), eq (.slice none 0 0)], own boolK v243.1 p244.2.2] ++ F) 4 rfl (cve_cons rfl cv_id (cve_cons rfl cv_id (cve_cons rfl cv_id (cve_cons rfl cv_id (cve_cons rfl cv_id (cve_cons rfl cv_id (cve_cons rfl cv_id (cve_cons rfl cv_id (cve_cons rfl cv_id (cve_cons rfl cv_id (cve_cons rfl cv_id (cve_cons rfl cv_id (cve_cons rfl cv_id (cve_cons rfl cv_id (cve_cons rfl cv_id (cve_cons rfl cv_id (cve_cons rfl (cv_agg (.cons cv_id (.cons cv_id (.cons cv_eq (.cons cv_id (.cons cv_id (.cons cv_id .nil))))))) cve_nil))))))))))))))))) (all2_app (.cons (cva_blk (.cons cv_id (.cons cv_id (.cons cv_eq (.cons cv_id (.cons cv_id (.cons cv_id .nil))))))) (.cons cva_id (.cons cva_id (.cons cva_id .nil)))) fun _ => cva_id)) (fun _ _ => ?_)
                      obtain ⟨t266, h267, H⟩ := Gets.call H
                      refine Dv.call rfl trivial cal29 rfl (concourseref07_Add.c h267) ?_
                      refine Dv.mv rfl trivial rfl ?_
                      refine Dv.ext rfl trivial rfl rfl ?_
                      refine Dv.ext rfl trivial rfl rfl ?_
                      refine Dv.alloc (z := .agg #[.string ⟨#[]⟩, .slice none 0 0]) (qs := [eq (.string (⟨#[]⟩ : ByteArray)), eq (.slice none 0 0)]) rfl trivial z50 rfl nofun (fun b268 => ?_)
                      refine Dv.stx ([blk b268 50 [eq (.string t266.1.fRoom), sl Event.K t266.1.fL], blk b240 42 [eq (.string t232), eq (.string a0), sl strK p245.2.2, eq (.string (⟨#[]⟩ : ByteArray)), eq (.string t235), eq (.int .i64 t238)], blk b223 50 [eq (.string x226), sl Event.K x227], blk b222 50 [eq (.string (⟨#[]⟩ : ByteArray)), eq (.slice none 0 0)], own boolK v243.1 p244.2.2] ++ F) rfl trivial rfl rfl (cells_agg (RDag.K.one _)) Try.underlying50 c50 rfl (j := 0) rfl (Nat.le_of_ble_eq_true rfl) rfl nofun ?_
                      refine Dv.asg rfl trivial rfl ?_
                      refine .fin ?_
                      refine WP.reg [(0, false), (1, true)] (by kernel_rfl) ?_
                      refine Dv.ldbs rfl trivial rfl Try.underlying50 rfl c50 (mem_at 0 rfl) (Nat.le_of_ble_eq_true rfl) ?_
                      refine Dv.stx ([blk b268 50 [eq (.string t266.1.fRoom), sl Event.K t266.1.fL], blk b240 42 [eq (.string t232), eq (.string a0), sl strK p245.2.2, eq (.string (⟨#[]⟩ : ByteArray)), eq (.string t235), eq (.int .i64 t238)], blk b223 50 [eq (.string t266.1.fRoom), sl Event.K t266.1.fL], blk b222 50 [eq (.string (⟨#[]⟩ : ByteArray)), eq (.slice none 0 0)], own boolK v243.1 p244.2.2] ++ F) rfl trivial rfl rfl (cells_agg (RDag.K.one _)) Try.underlying50 c50 rfl (j := 2) rfl (Nat.le_of_ble_eq_true rfl) rfl nofun ?_
                      refine .fin ?_
                      replace H := Gets.out H
                      refine Dn.gh (l' := fun _ : Unit => [blk b223 50 [eq (.string t266.1.fRoom), sl Event.K t266.1.fL], blk b222 50 [eq (.string (⟨#[]⟩ : ByteArray)), eq (.slice none 0 0)], own boolK v243.1 p244.2.2] ++ F) (gh_of (st_selg (L := [blk b268 50 [eq (.string t266.1.fRoom), sl Event.K t266.1.fL], blk b240 42 [eq (.string t232), eq (.string a0), sl strK p245.2.2, eq (.string (⟨#[]⟩ : ByteArray)), eq (.string t235), eq (.int .i64 t238)], blk b223 50 [eq (.string t266.1.fRoom), sl Event.K t266.1.fL], blk b222 50 [eq (.string (⟨#[]⟩ : ByteArray)), eq (.slice none 0 0)], own boolK v243.1 p244.2.2]) (F := F) [0, 1, 2, 3, 4] 2 (by kernel_rfl) rfl rfl)) (fun _ _ => ?_)
                      exact Jn.mk ((p244.1, p245.1, p244.2.1, p245.2.1, decide (0 < x225), t266.1.fRoom, t266.1.fL, p244.2.2), v243) H (weak_cons rfl (weak_cons rfl (weak_cons rfl (weak_cons rfl (weak_cons rfl (weak_cons rfl (weak_cons rfl (weak_cons rfl (weak_cons rfl (weak_cons rfl (weak_cons rfl (weak_cons rfl weak_nil)))))))))))) (List.Perm.refl _)
                    · replace H := Gets.ct H c254
                      refine Dv.fab rfl ⟨_, _, rfl, rfl, rfl⟩ rfl Try.underlying50 rfl Try.underlying36 c36 (by decide) ?_
                      refine Dv.ldb rfl ⟨_, _, rfl, rfl, rfl⟩ rfl Try.underlying36 rfl (mem_at 1 rfl) rfl ?_
                      refine Dv.mv rfl ⟨_, _, rfl, rfl, rfl⟩ rfl ?_
                      obtain ⟨g255, H⟩ := Gets.grd H
                      refine Dv.ixr rfl ⟨_, _, rfl, rfl, rfl⟩ rfl rfl Try.underlying36 Try.underlying42 c42 g255.1 g255.2 ?_
                      refine Dv.far rfl ⟨_, _, rfl, rfl, rfl⟩ rfl Try.underlying42 rfl Try.underlying9 c9 (by decide) (Nat.le_of_ble_eq_true rfl) ?_
                      refine Dv.ldr rfl ⟨_, _, rfl, rfl, rfl⟩ rfl Try.underlying9 rfl rfl ?_
                      refine Dv.bin rfl ⟨_, _, rfl, rfl, rfl⟩ rfl rfl (fun _ => run_seq) ?_
                      refine Dv.pickT rfl trivial rfl rfl ?_
                      refine .fin ?_
                      refine WP.cond rfl (fun c256 => ?_) (fun c256 => ?_)
                      · replace H := Gets.ct H c256
                        refine WP.reg [(0, false), (1, false), (2, false), (3, true)] (by kernel_rfl) ?_
                        refine Dv.mv rfl trivial rfl ?_
                        obtain ⟨t257, h258, H⟩ := Gets.call H
                        refine Dv.call rfl trivial cal7 rfl (concourseref01_EventOf.c h258) ?_
                        refine Dv.fab rfl trivial rfl Try.underlying42 rfl Try.underlying9 c9 (by decide) ?_
                        refine Dv.stx ([blk b240 42 [eq (.string t232), eq (.string a0), eq v246.1, eq (.string t257), eq (.string t235), eq (.int .i64 t238)], blk b223 50 [eq (.string x226), sl Event.K x227], blk b222 50 [eq (.string (⟨#[]⟩ : ByteArray)), eq (.slice none 0 0)], own boolK v243.1 p244.2.2, own strK v246.1 p245.2.2] ++ F) rfl trivial rfl rfl (cells_one (one_eq rfl)) Try.underlying9 c9 rfl (j := 0) rfl (Nat.le_of_ble_eq_true rfl) rfl nofun ?_
                        refine .fin ?_
                        refine WP.seq ?_
                        refine WP.reg [(0, false), (1, false), (2, false), (3, false), (4, false), (5, false), (6, true), (7, true), (8, false)] (by kernel_rfl) ?_
                        refine Dv.ldbs rfl trivial rfl Try.underlying50 rfl c50 (mem_at 1 rfl) (Nat.le_of_ble_eq_true rfl) ?_
                        refine Dv.ldbs rfl trivial rfl Try.underlying42 rfl c42 (mem_at 0 rfl) (Nat.le_of_ble_eq_true rfl) ?_
                        refine Dv.gh (gh_frz (E' := [(0, eq (.string a0)), (1, sl GMade.K a1), (4, eq (.pointer (some ⟨b222, 0, none⟩))), (5, eq (.pointer (some ⟨b223, 0, none⟩))), (6, eq (.int .i64 x225)), (7, eq (.pointer (some ⟨b240, 0, none⟩))), (8, eq v243.1), (9, eq (.int .i64 p244.1)), (10, eq (.int .i64 p245.1)), (11, eq (.int .i64 t250)), (23, eq (.bool (decide (x225 < 9)))), (58, eq (.bool p244.2.1)), (75, eq (.bool p245.2.1)), (95, eq (.bool (decide (0 < x225)))), (124, eq (.bool (decide (((Event.K.at x227 t250).fThread) = (⟨#[]⟩ : ByteArray))))), (129, agg [eq (.string x226), sl Event.K x227]), (130, agg [eq (.string t232), eq (.string a0), sl strK p245.2.2, eq (.string t257), eq (.string t235), eq (.int .i64 t238)])]) (l' := [blk b240 42 [eq (.string t232), eq (.string a0), sl strK p245.2.2, eq (.string t257), eq (.string t235), eq (.int .i64 t238)], blk b223 50 [eq (.string x226), sl Event.K x227], blk b222 50 [eq (.string (⟨#[]⟩ : ByteArray)), eq (.slice none 0 0)], own boolK v243.1 p244.2.2] ++ F) 4 rfl (cve_cons rfl cv_id (cve_cons rfl cv_id (cve_cons rfl cv_id (cve_cons rfl cv_id (cve_cons rfl cv_id (cve_cons rfl cv_id (cve_cons rfl cv_id (cve_cons rfl cv_id (cve_cons rfl cv_id (cve_cons rfl cv_id (cve_cons rfl cv_id (cve_cons rfl cv_id (cve_cons rfl cv_id (cve_cons rfl cv_id (cve_cons rfl cv_id (cve_cons rfl cv_id (cve_cons rfl (cv_agg (.cons cv_id (.cons cv_id (.cons cv_eq (.cons cv_id (.cons cv_id (.cons cv_id .nil))))))) cve_nil))))))))))))))))) (all2_app (.cons (cva_blk (.cons cv_id (.cons cv_id (.cons cv_eq (.cons cv_id (.cons cv_id (.cons cv_id .nil))))))) (.cons cva_id (.cons cva_id (.cons cva_id .nil)))) fun _ => cva_id)) (fun _ _ => ?_)
                        obtain ⟨t259, h260, H⟩ := Gets.call H
                        refine Dv.call rfl trivial cal29 rfl (concourseref07_Add.c h260) ?_
                        refine Dv.mv rfl trivial rfl ?_
                        refine Dv.ext rfl trivial rfl rfl ?_
                        refine Dv.ext rfl trivial rfl rfl ?_
                        refine Dv.alloc (z := .agg #[.string ⟨#[]⟩, .slice none 0 0]) (qs := [eq (.string (⟨#[]⟩ : ByteArray)), eq (.slice none 0 0)]) rfl trivial z50 rfl nofun (fun b261 => ?_)
                        refine Dv.stx ([blk b261 50 [eq (.string t259.1.fRoom), sl Event.K t259.1.fL], blk b240 42 [eq (.string t232), eq (.string a0), sl strK p245.2.2, eq (.string t257), eq (.string t235), eq (.int .i64 t238)], blk b223 50 [eq (.string x226), sl Event.K x227], blk b222 50 [eq (.string (⟨#[]⟩ : ByteArray)), eq (.slice none 0 0)], own boolK v243.1 p244.2.2] ++ F) rfl trivial rfl rfl (cells_agg (RDag.K.one _)) Try.underlying50 c50 rfl (j := 0) rfl (Nat.le_of_ble_eq_true rfl) rfl nofun ?_
                        refine Dv.asg rfl trivial rfl ?_
                        refine .fin ?_
                        refine WP.reg [(0, false), (1, true)] (by kernel_rfl) ?_
                        refine Dv.ldbs rfl trivial rfl Try.underlying50 rfl c50 (mem_at 0 rfl) (Nat.le_of_ble_eq_true rfl) ?_
                        refine Dv.stx ([blk b261 50 [eq (.string t259.1.fRoom), sl Event.K t259.1.fL], blk b240 42 [eq (.string t232), eq (.string a0), sl strK p245.2.2, eq (.string t257), eq (.string t235), eq (.int .i64 t238)], blk b223 50 [eq (.string t259.1.fRoom), sl Event.K t259.1.fL], blk b222 50 [eq (.string (⟨#[]⟩ : ByteArray)), eq (.slice none 0 0)], own boolK v243.1 p244.2.2] ++ F) rfl trivial rfl rfl (cells_agg (RDag.K.one _)) Try.underlying50 c50 rfl (j := 2) rfl (Nat.le_of_ble_eq_true rfl) rfl nofun ?_
                        refine .fin ?_
                        replace H := Gets.out H
                        refine Dn.gh (l' := fun _ : Unit => [blk b223 50 [eq (.string t259.1.fRoom), sl Event.K t259.1.fL], blk b222 50 [eq (.string (⟨#[]⟩ : ByteArray)), eq (.slice none 0 0)], own boolK v243.1 p244.2.2] ++ F) (gh_of (st_selg (L := [blk b261 50 [eq (.string t259.1.fRoom), sl Event.K t259.1.fL], blk b240 42 [eq (.string t232), eq (.string a0), sl strK p245.2.2, eq (.string t257), eq (.string t235), eq (.int .i64 t238)], blk b223 50 [eq (.string t259.1.fRoom), sl Event.K t259.1.fL], blk b222 50 [eq (.string (⟨#[]⟩ : ByteArray)), eq (.slice none 0 0)], own boolK v243.1 p244.2.2]) (F := F) [0, 1, 2, 3, 4] 2 (by kernel_rfl) rfl rfl)) (fun _ _ => ?_)
                        exact Jn.mk ((p244.1, p245.1, p244.2.1, p245.2.1, decide (0 < x225), t259.1.fRoom, t259.1.fL, p244.2.2), v243) H (weak_cons rfl (weak_cons rfl (weak_cons rfl (weak_cons rfl (weak_cons rfl (weak_cons rfl (weak_cons rfl (weak_cons rfl (weak_cons rfl (weak_cons rfl (weak_cons rfl (weak_cons rfl weak_nil)))))))))))) (List.Perm.refl _)
                      · replace H := Gets.cf H c256
                        refine WP.skip ?_
                        refine WP.seq ?_
                        refine WP.reg [(0, false), (1, false), (2, false), (3, false), (4, false), (5, false), (6, true), (7, true), (8, false)] (by kernel_rfl) ?_
                        refine Dv.ldbs rfl trivial rfl Try.underlying50 rfl c50 (mem_at 1 rfl) (Nat.le_of_ble_eq_true rfl) ?_
                        refine Dv.ldbs rfl trivial rfl Try.underlying42 rfl c42 (mem_at 0 rfl) (Nat.le_of_ble_eq_true rfl) ?_
                        refine Dv.gh (gh_frz (E' := [(0, eq (.string a0)), (1, sl GMade.K a1), (4, eq (.pointer (some ⟨b222, 0, none⟩))), (5, eq (.pointer (some ⟨b223, 0, none⟩))), (6, eq (.int .i64 x225)), (7, eq (.pointer (some ⟨b240, 0, none⟩))), (8, eq v243.1), (9, eq (.int .i64 p244.1)), (10, eq (.int .i64 p245.1)), (11, eq (.int .i64 t250)), (23, eq (.bool (decide (x225 < 9)))), (58, eq (.bool p244.2.1)), (75, eq (.bool p245.2.1)), (95, eq (.bool (decide (0 < x225)))), (124, eq (.bool (decide (((Event.K.at x227 t250).fThread) = (⟨#[]⟩ : ByteArray))))), (129, agg [eq (.string x226), sl Event.K x227]), (130, agg [eq (.string t232), eq (.string a0), sl strK p245.2.2, eq (.string (⟨#[]⟩ : ByteArray)), eq (.string t235), eq (.int .i64 t238)])]) (l' := [blk b240 42 [eq (.string t232), eq (.string a0), sl strK p245.2.2, eq (.string (⟨#[]⟩ : ByteArray)), eq (.string t235), eq (.int .i64 t238)], blk b223 50 [eq (.string x226), sl Event.K x227], blk b222 50 [eq (.string (⟨#[]⟩ : ByteArray)), eq (.slice none 0 0)], own boolK v243.1 p244.2.2] ++ F) 4 rfl (cve_cons rfl cv_id (cve_cons rfl cv_id (cve_cons rfl cv_id (cve_cons rfl cv_id (cve_cons rfl cv_id (cve_cons rfl cv_id (cve_cons rfl cv_id (cve_cons rfl cv_id (cve_cons rfl cv_id (cve_cons rfl cv_id (cve_cons rfl cv_id (cve_cons rfl cv_id (cve_cons rfl cv_id (cve_cons rfl cv_id (cve_cons rfl cv_id (cve_cons rfl cv_id (cve_cons rfl (cv_agg (.cons cv_id (.cons cv_id (.cons cv_eq (.cons cv_id (.cons cv_id (.cons cv_id .nil))))))) cve_nil))))))))))))))))) (all2_app (.cons (cva_blk (.cons cv_id (.cons cv_id (.cons cv_eq (.cons cv_id (.cons cv_id (.cons cv_id .nil))))))) (.cons cva_id (.cons cva_id (.cons cva_id .nil)))) fun _ => cva_id)) (fun _ _ => ?_)
                        obtain ⟨t262, h263, H⟩ := Gets.call H
                        refine Dv.call rfl trivial cal29 rfl (concourseref07_Add.c h263) ?_
                        refine Dv.mv rfl trivial rfl ?_
                        refine Dv.ext rfl trivial rfl rfl ?_
                        refine Dv.ext rfl trivial rfl rfl ?_
                        refine Dv.alloc (z := .agg #[.string ⟨#[]⟩, .slice none 0 0]) (qs := [eq (.string (⟨#[]⟩ : ByteArray)), eq (.slice none 0 0)]) rfl trivial z50 rfl nofun (fun b264 => ?_)
                        refine Dv.stx ([blk b264 50 [eq (.string t262.1.fRoom), sl Event.K t262.1.fL], blk b240 42 [eq (.string t232), eq (.string a0), sl strK p245.2.2, eq (.string (⟨#[]⟩ : ByteArray)), eq (.string t235), eq (.int .i64 t238)], blk b223 50 [eq (.string x226), sl Event.K x227], blk b222 50 [eq (.string (⟨#[]⟩ : ByteArray)), eq (.slice none 0 0)], own boolK v243.1 p244.2.2] ++ F) rfl trivial rfl rfl (cells_agg (RDag.K.one _)) Try.underlying50 c50 rfl (j := 0) rfl (Nat.le_of_ble_eq_true rfl) rfl nofun ?_
                        refine Dv.asg rfl trivial rfl ?_
                        refine .fin ?_
                        refine WP.reg [(0, false), (1, true)] (by kernel_rfl) ?_
                        refine Dv.ldbs rfl trivial rfl Try.underlying50 rfl c50 (mem_at 0 rfl) (Nat.le_of_ble_eq_true rfl) ?_
                        refine Dv.stx ([blk b264 50 [eq (.string t262.1.fRoom), sl Event.K t262.1.fL], blk b240 42 [eq (.string t232), eq (.string a0), sl strK p245.2.2, eq (.string (⟨#[]⟩ : ByteArray)), eq (.string t235), eq (.int .i64 t238)], blk b223 50 [eq (.string t262.1.fRoom), sl Event.K t262.1.fL], blk b222 50 [eq (.string (⟨#[]⟩ : ByteArray)), eq (.slice none 0 0)], own boolK v243.1 p244.2.2] ++ F) rfl trivial rfl rfl (cells_agg (RDag.K.one _)) Try.underlying50 c50 rfl (j := 2) rfl (Nat.le_of_ble_eq_true rfl) rfl nofun ?_
                        refine .fin ?_
                        replace H := Gets.out H
                        refine Dn.gh (l' := fun _ : Unit => [blk b223 50 [eq (.string t262.1.fRoom), sl Event.K t262.1.fL], blk b222 50 [eq (.string (⟨#[]⟩ : ByteArray)), eq (.slice none 0 0)], own boolK v243.1 p244.2.2] ++ F) (gh_of (st_selg (L := [blk b264 50 [eq (.string t262.1.fRoom), sl Event.K t262.1.fL], blk b240 42 [eq (.string t232), eq (.string a0), sl strK p245.2.2, eq (.string (⟨#[]⟩ : ByteArray)), eq (.string t235), eq (.int .i64 t238)], blk b223 50 [eq (.string t262.1.fRoom), sl Event.K t262.1.fL], blk b222 50 [eq (.string (⟨#[]⟩ : ByteArray)), eq (.slice none 0 0)], own boolK v243.1 p244.2.2]) (F := F) [0, 1, 2, 3, 4] 2 (by kernel_rfl) rfl rfl)) (fun _ _ => ?_)
                        exact Jn.mk ((p244.1, p245.1, p244.2.1, p245.2.1, decide (0 < x225), t262.1.fRoom, t262.1.fL, p244.2.2), v243) H (weak_cons rfl (weak_cons rfl (weak_cons rfl (weak_cons rfl (weak_cons rfl (weak_cons rfl (weak_cons rfl (weak_cons rfl (weak_cons rfl (weak_cons rfl (weak_cons rfl (weak_cons rfl weak_nil)))))))))))) (List.Perm.refl _)
                · replace H := Gets.cf H c248
                  refine WP.skip ?_
                  refine WP.seq ?_
                  refine WP.reg [(0, false), (1, false), (2, false), (3, false), (4, false), (5, false), (6, true), (7, true), (8, false)] (by kernel_rfl) ?_
                  refine Dv.ldbs rfl trivial rfl Try.underlying50 rfl c50 (mem_at 1 rfl) (Nat.le_of_ble_eq_true rfl) ?_
                  refine Dv.ldbs rfl trivial rfl Try.underlying42 rfl c42 (mem_at 0 rfl) (Nat.le_of_ble_eq_true rfl) ?_
                  refine Dv.gh (gh_frz (E' := [(0, eq (.string a0)), (1, sl GMade.K a1), (4, eq (.pointer (some ⟨b222, 0, none⟩))), (5, eq (.pointer (some ⟨b223, 0, none⟩))), (6, eq (.int .i64 x225)), (7, eq (.pointer (some ⟨b240, 0, none⟩))), (8, eq v243.1), (9, eq (.int .i64 p244.1)), (10, eq (.int .i64 p245.1)), (23, eq (.bool (decide (x225 < 9)))), (58, eq (.bool p244.2.1)), (75, eq (.bool p245.2.1)), (95, eq (.bool (decide (0 < x225)))), (129, agg [eq (.string x226), sl Event.K x227]), (130, agg [eq (.string t232), eq (.string a0), sl strK p245.2.2, eq (.string (⟨#[]⟩ : ByteArray)), eq (.string t235), eq (.int .i64 t238)])]) (l' := [blk b240 42 [eq (.string t232), eq (.string a0), sl strK p245.2.2, eq (.string (⟨#[]⟩ : ByteArray)), eq (.string t235), eq (.int .i64 t238)], blk b223 50 [eq (.string x226), sl Event.K x227], blk b222 50 [eq (.string (⟨#[]⟩ : ByteArray)), eq (.slice none 0 0)], own boolK v243.1 p244.2.2] ++ F) 4 rfl (cve_cons rfl cv_id (cve_cons rfl cv_id (cve_cons rfl cv_id (cve_cons rfl cv_id (cve_cons rfl cv_id (cve_cons rfl cv_id (cve_cons rfl cv_id (cve_cons rfl cv_id (cve_cons rfl cv_id (cve_cons rfl cv_id (cve_cons rfl cv_id (cve_cons rfl cv_id (cve_cons rfl cv_id (cve_cons rfl cv_id (cve_cons rfl (cv_agg (.cons cv_id (.cons cv_id (.cons cv_eq (.cons cv_id (.cons cv_id (.cons cv_id .nil))))))) cve_nil))))))))))))))) (all2_app (.cons (cva_blk (.cons cv_id (.cons cv_id (.cons cv_eq (.cons cv_id (.cons cv_id (.cons cv_id .nil))))))) (.cons cva_id (.cons cva_id (.cons cva_id .nil)))) fun _ => cva_id)) (fun _ _ => ?_)
                  obtain ⟨t273, h274, H⟩ := Gets.call H
                  refine Dv.call rfl trivial cal29 rfl (concourseref07_Add.c h274) ?_
                  refine Dv.mv rfl trivial rfl ?_
                  refine Dv.ext rfl trivial rfl rfl ?_
                  refine Dv.ext rfl trivial rfl rfl ?_
                  refine Dv.alloc (z := .agg #[.string ⟨#[]⟩, .slice none 0 0]) (qs := [eq (.string (⟨#[]⟩ : ByteArray)), eq (.slice none 0 0)]) rfl trivial z50 rfl nofun (fun b275 => ?_)
                  refine Dv.stx ([blk b275 50 [eq (.string t273.1.fRoom), sl Event.K t273.1.fL], blk b240 42 [eq (.string t232), eq (.string a0), sl strK p245.2.2, eq (.string (⟨#[]⟩ : ByteArray)), eq (.string t235), eq (.int .i64 t238)], blk b223 50 [eq (.string x226), sl Event.K x227], blk b222 50 [eq (.string (⟨#[]⟩ : ByteArray)), eq (.slice none 0 0)], own boolK v243.1 p244.2.2] ++ F) rfl trivial rfl rfl (cells_agg (RDag.K.one _)) Try.underlying50 c50 rfl (j := 0) rfl (Nat.le_of_ble_eq_true rfl) rfl nofun ?_
                  refine Dv.asg rfl trivial rfl ?_
                  refine .fin ?_
                  refine WP.reg [(0, false), (1, true)] (by kernel_rfl) ?_
                  refine Dv.ldbs rfl trivial rfl Try.underlying50 rfl c50 (mem_at 0 rfl) (Nat.le_of_ble_eq_true rfl) ?_
                  refine Dv.stx ([blk b275 50 [eq (.string t273.1.fRoom), sl Event.K t273.1.fL], blk b240 42 [eq (.string t232), eq (.string a0), sl strK p245.2.2, eq (.string (⟨#[]⟩ : ByteArray)), eq (.string t235), eq (.int .i64 t238)], blk b223 50 [eq (.string t273.1.fRoom), sl Event.K t273.1.fL], blk b222 50 [eq (.string (⟨#[]⟩ : ByteArray)), eq (.slice none 0 0)], own boolK v243.1 p244.2.2] ++ F) rfl trivial rfl rfl (cells_agg (RDag.K.one _)) Try.underlying50 c50 rfl (j := 2) rfl (Nat.le_of_ble_eq_true rfl) rfl nofun ?_
                  refine .fin ?_
                  replace H := Gets.out H
                  refine Dn.gh (l' := fun _ : Unit => [blk b223 50 [eq (.string t273.1.fRoom), sl Event.K t273.1.fL], blk b222 50 [eq (.string (⟨#[]⟩ : ByteArray)), eq (.slice none 0 0)], own boolK v243.1 p244.2.2] ++ F) (gh_of (st_selg (L := [blk b275 50 [eq (.string t273.1.fRoom), sl Event.K t273.1.fL], blk b240 42 [eq (.string t232), eq (.string a0), sl strK p245.2.2, eq (.string (⟨#[]⟩ : ByteArray)), eq (.string t235), eq (.int .i64 t238)], blk b223 50 [eq (.string t273.1.fRoom), sl Event.K t273.1.fL], blk b222 50 [eq (.string (⟨#[]⟩ : ByteArray)), eq (.slice none 0 0)], own boolK v243.1 p244.2.2]) (F := F) [0, 1, 2, 3, 4] 2 (by kernel_rfl) rfl rfl)) (fun _ _ => ?_)
                  exact Jn.mk ((p244.1, p245.1, p244.2.1, p245.2.1, decide (0 < x225), t273.1.fRoom, t273.1.fL, p244.2.2), v243) H (weak_cons rfl (weak_cons rfl (weak_cons rfl (weak_cons rfl (weak_cons rfl (weak_cons rfl (weak_cons rfl (weak_cons rfl (weak_cons rfl (weak_cons rfl (weak_cons rfl (weak_cons rfl weak_nil)))))))))))) (List.Perm.refl _)
            · refine WP.seq ?_
              refine WP.reg [(0, false)] (by kernel_rfl) ?_
              refine Dv.asg rfl trivial rfl ?_
              refine .fin ?_
              refine WP.block ?_
              refine WP.gh (gh_of (st_nil strK none)) (fun _ _ => ?_)
              refine WP.gh (l' := fun _ => [blk b240 42 [eq (.string t232), eq (.string a0), eq nilV.1, eq (.string (⟨#[]⟩ : ByteArray)), eq (.string t235), eq (.int .i64 t238)], blk b223 50 [eq (.string x226), sl Event.K x227], blk b222 50 [eq (.string (⟨#[]⟩ : ByteArray)), eq (.slice none 0 0)], own boolK v243.1 p244.2.2, own strK nilV.1 ([] : List ByteArray)] ++ F) (gh_of (st_selg (L := [own strK nilV.1 ([] : List ByteArray), blk b240 42 [eq (.string t232), eq (.string a0), eq nilV.1, eq (.string (⟨#[]⟩ : ByteArray)), eq (.string t235), eq (.int .i64 t238)], blk b223 50 [eq (.string x226), sl Event.K x227], blk b222 50 [eq (.string (⟨#[]⟩ : ByteArray)), eq (.slice none 0 0)], own boolK v243.1 p244.2.2]) (F := F) [1, 2, 3, 4, 0] 0 (by kernel_rfl) rfl rfl)) (fun _ _ => ?_)
              refine WP.loopg (fun j_ (p292 : Int × (List ByteArray) × OV) => concourseref07_Made.l1 k x225 p244 j_ p292.1 p292.2.1) (0, ([] : List ByteArray), nilV) H (fun p292 => [(0, eq (.string a0)), (1, sl GMade.K a1), (4, eq (.pointer (some ⟨b222, 0, none⟩))), (5, eq (.pointer (some ⟨b223, 0, none⟩))), (6, eq (.int .i64 x225)), (7, eq (.pointer (some ⟨b240, 0, none⟩))), (8, eq v243.1), (9, eq (.int .i64 p244.1)), (10, eq (.int .i64 p292.1)), (23, eq (.bool (decide (x225 < 9)))), (58, eq (.bool p244.2.1))]) (fun p292 => [blk b240 42 [eq (.string t232), eq (.string a0), eq p292.2.2.1, eq (.string (⟨#[]⟩ : ByteArray)), eq (.string t235), eq (.int .i64 t238)], blk b223 50 [eq (.string x226), sl Event.K x227], blk b222 50 [eq (.string (⟨#[]⟩ : ByteArray)), eq (.slice none 0 0)], own boolK v243.1 p244.2.2, own strK p292.2.2.1 p292.2.1] ++ F) (weak_cons rfl (weak_cons rfl (weak_cons rfl (weak_cons rfl (weak_cons rfl (weak_cons rfl (weak_cons rfl (weak_cons rfl (weak_cons rfl (weak_cons rfl (weak_cons rfl weak_nil))))))))))) (List.Perm.refl _) ?_
              rintro j_ ⟨x280, x281, v282⟩ H
              rcases j_ with _ | j291
              · exact (Gets.no H).elim
              replace H : Gets (concourseref07_Made.l1 k x225 p244 (j291 + 1) x280 x281) _ := H
              rw [concourseref07_Made.l1] at H
              refine WP.seq ?_
              refine WP.seq ?_
              refine WP.reg [(0, false), (1, false), (2, false)] (by kernel_rfl) ?_
              refine Dv.mv rfl trivial rfl ?_
              refine Dv.mv rfl trivial rfl ?_
              refine Dv.bin rfl trivial rfl rfl (fun _ => run_lt) ?_
              refine .fin ?_
              refine WP.cond rfl (fun c283 => ?_) (fun c283 => ?_)
              · replace H := Gets.ct H c283
                refine WP.skip ?_
                refine WP.seq ?_
                refine WP.block ?_
                refine WP.seq ?_
                refine WP.reg [(0, false), (1, false), (2, false), (3, false)] (by kernel_rfl) ?_
                refine Dv.mv rfl trivial rfl ?_
                refine Dv.mv rfl trivial rfl ?_
                obtain ⟨g284, H⟩ := Gets.grd H
                have h285 : x280.toNat < p244.2.2.length := idx_lt g284
                refine Dv.ixw rfl trivial rfl (mem_at 3 rfl) rfl Try.underlying71 Try.underlying4 c4 g284.1 g284.2 ?_
                refine Dv.ldw (j := x280.toNat) (f := 0) (p := eq (.bool (p244.2.2.getD x280.toNat default))) rfl trivial rfl (mem_at 3 rfl) h285 Try.underlying4 rfl rfl ?_
                refine .fin ?_
                refine WP.cond rfl (fun c286 => ?_) (fun c286 => ?_)
                · replace H := Gets.ct H c286
                  refine WP.dreg Try.checked.mixed [(0, false), (1, false), (2, false), (3, false), (4, false), (5, true), (6, false), (7, true)] (by kernel_rfl) ?_
                  refine Dv.fab rfl trivial rfl Try.underlying42 rfl Try.underlying40 c40 (by decide) ?_
                  refine Dv.ldb rfl trivial rfl Try.underlying40 rfl (mem_at 0 rfl) rfl ?_
                  refine Dv.mv rfl trivial rfl ?_
                  obtain ⟨t287, h288, H⟩ := Gets.call H
                  refine Dv.call rfl trivial cal7 rfl (concourseref01_EventOf.c h288) ?_
                  refine Dv.lit strK ([t287] : List ByteArray) (css := [[eq (.string t287)]]) rfl trivial Try.underlying40 Try.underlying9 c9 z9 rfl (by decide) (by decide) rfl ⟨(cells_one (one_eq rfl)), trivial⟩ rfl rfl rfl ?_
                  obtain ⟨g289, H⟩ := Gets.grd H
                  refine Dv.appx (jj := 4) (ys := ([t287] : List ByteArray)) (fun v290 : OV => [blk b240 42 [eq (.string t232), eq (.string a0), eq v282.1, eq (.string (⟨#[]⟩ : ByteArray)), eq (.string t235), eq (.int .i64 t238)], blk b223 50 [eq (.string x226), sl Event.K x227], blk b222 50 [eq (.string (⟨#[]⟩ : ByteArray)), eq (.slice none 0 0)], own boolK v243.1 p244.2.2, own strK v290.1 (x281 ++ ([t287] : List ByteArray))] ++ F) rfl trivial rfl rfl rfl src_sl Try.underlying40 (.inr ⟨_, Try.underlying40⟩) inf9 rfl (by decide) g289 rfl (fun _ => pend_bits (by kernel_rfl)) (fun v290 => ?_)
                  refine Dv.fab rfl trivial rfl Try.underlying42 rfl Try.underlying40 c40 (by decide) ?_
                  refine Dv.stx ([blk b240 42 [eq (.string t232), eq (.string a0), eq v290.1, eq (.string (⟨#[]⟩ : ByteArray)), eq (.string t235), eq (.int .i64 t238)], blk b223 50 [eq (.string x226), sl Event.K x227], blk b222 50 [eq (.string (⟨#[]⟩ : ByteArray)), eq (.slice none 0 0)], own boolK v243.1 p244.2.2, own strK v290.1 (x281 ++ ([t287] : List ByteArray))] ++ F) rfl trivial rfl rfl (cells_one one_ov) Try.underlying40 c40 rfl (j := 0) rfl (Nat.le_of_ble_eq_true rfl) rfl (fun _ => pend_bits (by kernel_rfl)) ?_
                  refine .fin ?_
                  refine WP.reg [(0, false), (1, false), (2, false)] (by kernel_rfl) ?_
                  refine Dv.mv rfl trivial rfl ?_
                  refine Dv.bin rfl trivial rfl rfl (fun _ => run_add) ?_
                  refine Dv.asg rfl trivial rfl ?_
                  refine .fin ?_
                  exact Back.mk j291 (w64 (x280 + 1), x281 ++ ([t287] : List ByteArray), v290) (Nat.lt_succ_self _) H (weak_cons rfl (weak_cons rfl (weak_cons rfl (weak_cons rfl (weak_cons rfl (weak_cons rfl (weak_cons rfl (weak_cons rfl (weak_cons rfl (weak_cons rfl (weak_cons rfl weak_nil))))))))))) (List.Perm.refl _)
                · replace H := Gets.cf H c286
                  refine WP.skip ?_
                  refine WP.reg [(0, false), (1, false), (2, false)] (by kernel_rfl) ?_
                  refine Dv.mv rfl trivial rfl ?_
                  refine Dv.bin rfl trivial rfl rfl (fun _ => run_add) ?_
                  refine Dv.asg rfl trivial rfl ?_
                  refine .fin ?_
                  exact Back.mk j291 (w64 (x280 + 1), x281, v282) (Nat.lt_succ_self _) H (weak_cons rfl (weak_cons rfl (weak_cons rfl (weak_cons rfl (weak_cons rfl (weak_cons rfl (weak_cons rfl (weak_cons rfl (weak_cons rfl (weak_cons rfl (weak_cons rfl weak_nil))))))))))) (List.Perm.refl _)
              · replace H := Gets.cf H c283
                refine WP.exit ?_
                replace H := Gets.out H
                exact Jn.mk ((x280, decide (x280 < x225), x281), v282) H (weak_cons rfl (weak_cons rfl (weak_cons rfl (weak_cons rfl (weak_cons rfl (weak_cons rfl (weak_cons rfl (weak_cons rfl (weak_cons rfl (weak_cons rfl (weak_cons rfl (weak_cons rfl weak_nil)))))))))))) (List.Perm.refl _)
          · refine WP.seq ?_
            refine WP.reg [(0, false)] (by kernel_rfl) ?_
            refine Dv.asg rfl trivial rfl ?_
            refine .fin ?_
            refine WP.block ?_
            refine WP.gh (l' := fun _ => [blk b240 42 [eq (.string t232), eq (.string a0), eq (.slice none 0 0), eq (.string (⟨#[]⟩ : ByteArray)), eq (.string t235), eq (.int .i64 t238)], blk b223 50 [eq (.string x226), sl Event.K x227], blk b222 50 [eq (.string (⟨#[]⟩ : ByteArray)), eq (.slice none 0 0)], own boolK v243.1 (List.replicate (9 : Int).toNat (false : Bool))] ++ F) (gh_of (st_selg (L := [own boolK v243.1 (List.replicate (9 : Int).toNat (false : Bool)), blk b240 42 [eq (.string t232), eq (.string a0), eq (.slice none 0 0), eq (.string (⟨#[]⟩ : ByteArray)), eq (.string t235), eq (.int .i64 t238)], blk b223 50 [eq (.string x226), sl Event.K x227], blk b222 50 [eq (.string (⟨#[]⟩ : ByteArray)), eq (.slice none 0 0)]]) (F := F) [1, 2, 3, 0] 0 rfl rfl rfl)) (fun _ _ => ?_)
            refine WP.loopg (fun j_ (p309 : Int × (List Bool)) => concourseref07_Made.l2 k a1 x225 j_ p309.1 p309.2) (0, List.replicate (9 : Int).toNat (false : Bool)) H (fun p309 => [(0, eq (.string a0)), (1, sl GMade.K a1), (4, eq (.pointer (some ⟨b222, 0, none⟩))), (5, eq (.pointer (some ⟨b223, 0, none⟩))), (6, eq (.int .i64 x225)), (7, eq (.pointer (some ⟨b240, 0, none⟩))), (8, eq v243.1), (9, eq (.int .i64 p309.1)), (23, eq (.bool (decide (x225 < 9))))]) (fun p309 => [blk b240 42 [eq (.string t232), eq (.string a0), eq (.slice none 0 0), eq (.string (⟨#[]⟩ : ByteArray)), eq (.string t235), eq (.int .i64 t238)], blk b223 50 [eq (.string x226), sl Event.K x227], blk b222 50 [eq (.string (⟨#[]⟩ : ByteArray)), eq (.slice none 0 0)], own boolK v243.1 p309.2] ++ F) (weak_cons rfl (weak_cons rfl (weak_cons rfl (weak_cons rfl (weak_cons rfl (weak_cons rfl (weak_cons rfl (weak_cons rfl (weak_cons rfl weak_nil))))))))) (List.Perm.refl _) ?_
            rintro j_ ⟨x294, x295⟩ H
            rcases j_ with _ | j308
            · exact (Gets.no H).elim
            replace H : Gets (concourseref07_Made.l2 k a1 x225 (j308 + 1) x294 x295) _ := H
            rw [concourseref07_Made.l2] at H
            refine WP.seq ?_
            refine WP.seq ?_
            refine WP.reg [(0, false), (1, false), (2, false), (3, false), (4, false), (5, false), (6, false), (7, false), (8, false), (9, false), (10, false), (11, false), (12, false), (13, false), (14, false), (15, false)] (by kernel_rfl) ?_
            refine Dv.mv rfl trivial rfl ?_
            refine Dv.mv rfl trivial rfl ?_
            refine Dv.mv rfl trivial rfl ?_
            obtain ⟨g296, H⟩ := Gets.grd H
            refine Dv.ixr rfl trivial rfl rfl Try.underlying22 Try.underlying70 c70 g296.1 g296.2 ?_
            refine Dv.far rfl trivial rfl Try.underlying70 rfl Try.underlying68 c68 (by decide) (Nat.le_of_ble_eq_true rfl) ?_
            refine Dv.ldr rfl trivial rfl Try.underlying68 rfl rfl ?_
            refine Dv.lenl rfl trivial rfl Try.underlying68 ?_
            refine Dv.bin rfl trivial rfl rfl (fun _ => run_lt) ?_
            refine Dv.mv rfl trivial rfl ?_
            cases c297 : decide (x294 < (((GMade.K.at a1 x225).fParents).length : Int))
            · replace H := Gets.cf H c297
              refine Dv.skip rfl ⟨_, _, rfl, rfl, .inl rfl⟩ ?_
              refine Dv.skip rfl ⟨_, _, rfl, rfl, .inl rfl⟩ ?_
              refine Dv.pickF rfl trivial rfl rfl ?_
              refine Dv.mv rfl trivial rfl ?_
              refine Dv.skip rfl ⟨_, _, rfl, rfl, .inl rfl⟩ ?_
              refine Dv.skip rfl ⟨_, _, rfl, rfl, .inl rfl⟩ ?_
              refine Dv.pickF rfl trivial rfl rfl ?_
              refine .fin ?_
              refine WP.cond rfl nofun (fun _ => ?_)
              refine WP.exit ?_
              replace H := Gets.out H
              exact Jn.mk (x294, false, x295) H (weak_cons rfl (weak_cons rfl (weak_cons rfl (weak_cons rfl (weak_cons rfl (weak_cons rfl (weak_cons rfl (weak_cons rfl (weak_cons rfl (weak_cons rfl weak_nil)))))))))) (List.Perm.refl _)
            · replace H := Gets.ct H c297
              refine Dv.mv rfl ⟨_, _, rfl, rfl, rfl⟩ rfl ?_
              refine Dv.bin rfl ⟨_, _, rfl, rfl, rfl⟩ rfl rfl (fun _ => run_lt) ?_
              refine Dv.pickT rfl trivial rfl rfl ?_
              refine Dv.mv rfl trivial rfl ?_
              cases c298 : decide (x294 < 3)
              · replace H := Gets.cf H c298
                refine Dv.skip rfl ⟨_, _, rfl, rfl, .inl rfl⟩ ?_
                refine Dv.skip rfl ⟨_, _, rfl, rfl, .inl rfl⟩ ?_
                refine Dv.pickF rfl trivial rfl rfl ?_
                refine .fin ?_
                refine WP.cond rfl nofun (fun _ => ?_)
                refine WP.exit ?_
                replace H := Gets.out H
                exact Jn.mk (x294, false, x295) H (weak_cons rfl (weak_cons rfl (weak_cons rfl (weak_cons rfl (weak_cons rfl (weak_cons rfl (weak_cons rfl (weak_cons rfl (weak_cons rfl (weak_cons rfl weak_nil)))))))))) (List.Perm.refl _)
              · replace H := Gets.ct H c298
                refine Dv.mv rfl ⟨_, _, rfl, rfl, rfl⟩ rfl ?_
                refine Dv.bin rfl ⟨_, _, rfl, rfl, rfl⟩ rfl rfl (fun _ => run_gt) ?_
                refine Dv.pickT rfl trivial rfl rfl ?_
                refine .fin ?_
                refine WP.cond rfl (fun c299 => ?_) (fun c299 => ?_)
                · replace H := Gets.ct H c299
                  refine WP.skip ?_
                  refine WP.seq ?_
                  refine WP.block ?_
                  refine WP.reg [(0, false), (1, false), (2, false), (3, false), (4, false), (5, false), (6, false), (7, false), (8, false), (9, false), (10, false), (11, false), (12, true)] (by kernel_rfl) ?_
                  refine Dv.mv rfl trivial rfl ?_
                  refine Dv.mv rfl trivial rfl ?_
                  refine Dv.mv rfl trivial rfl ?_
                  obtain ⟨g300, H⟩ := Gets.grd H
                  refine Dv.ixr rfl trivial rfl rfl Try.underlying22 Try.underlying70 c70 g300.1 g300.2 ?_
                  refine Dv.far rfl trivial rfl Try.underlying70 rfl Try.underlying68 c68 (by decide) (Nat.le_of_ble_eq_true rfl) ?_
                  refine Dv.ldr rfl trivial rfl Try.underlying68 rfl rfl ?_
                  refine Dv.mv rfl trivial rfl ?_
                  obtain ⟨g301, H⟩ := Gets.grd H
                  refine Dv.ixr rfl trivial rfl rfl Try.underlying68 Try.underlying3 c3 g301.1 g301.2 ?_
                  refine Dv.ldr rfl trivial rfl Try.underlying3 rfl rfl ?_
                  refine Dv.mv rfl trivial rfl ?_
                  obtain ⟨t302, h303, H⟩ := Gets.call H
                  refine Dv.call rfl trivial cal16 rfl (concourseref01_Around.c h303) ?_
                  obtain ⟨g304, H⟩ := Gets.grd H
                  have h305 : t302.toNat < x295.length := idx_lt g304
                  refine Dv.ixw rfl trivial rfl (mem_at 3 rfl) rfl Try.underlying71 Try.underlying4 c4 g304.1 g304.2 ?_
                  refine Dv.stw (j := t302.toNat) (f := 0) (jj := 3) true rfl trivial rfl rfl (cells_one (one_eq rfl)) Try.underlying4 c4 rfl rfl h305 (Nat.le_of_ble_eq_true rfl) rfl nofun ?_
                  refine .fin ?_
                  refine WP.reg [(0, false), (1, false), (2, false)] (by kernel_rfl) ?_
                  refine Dv.mv rfl trivial rfl ?_
                  refine Dv.bin rfl trivial rfl rfl (fun _ => run_add) ?_
                  refine Dv.asg rfl trivial rfl ?_
                  refine .fin ?_
                  exact Back.mk j308 (w64 (x294 + 1), x295.set t302.toNat true) (Nat.lt_succ_self _) H (weak_cons rfl (weak_cons rfl (weak_cons rfl (weak_cons rfl (weak_cons rfl (weak_cons rfl (weak_cons rfl (weak_cons rfl (weak_cons rfl weak_nil))))))))) (List.Perm.refl _)
                · replace H := Gets.cf H c299
                  refine WP.exit ?_
                  replace H := Gets.out H
                  exact Jn.mk (x294, decide (0 < x225), x295) H (weak_cons rfl (weak_cons rfl (weak_cons rfl (weak_cons rfl (weak_cons rfl (weak_cons rfl (weak_cons rfl (weak_cons rfl (weak_cons rfl (weak_cons rfl weak_nil)))))))))) (List.Perm.refl _)
      · replace H := Gets.cf H c229
        refine WP.exit ?_
        replace H := Gets.out H
        exact Jn.mk (x225, decide (x225 < 9), x226, x227) H (weak_cons rfl (weak_cons rfl (weak_cons rfl (weak_cons rfl (weak_cons rfl (weak_cons rfl weak_nil)))))) (List.Perm.refl _)
theorem concourseref10_Made.c {k : Nat} {a0 : List GMade} {a1 : List GMade} {r : (List Event)} (h : concourseref10_Made.f k a0 a1 = some r) : Tr Try.prog 12 [sl GMade.K a0, sl GMade.K a1] [] (γ := OV) (fun _ => True) (fun g => eq g.1) (fun g => [own Event.K g.1 r]) := by
  unfold concourseref10_Made.f at h
  refine Tr.body Try.func12 (c := _) rfl Try.ntmps12 (Nat.le_of_ble_eq_true rfl) fun R0 F => ?_
  replace h := Gets.of h
  have H := h
  clear h
  refine WP.seq ?_
  refine WP.reg [(0, false)] (by kernel_rfl) ?_
  refine Dv.asg rfl trivial rfl ?_
  refine .fin ?_
  refine WP.seq ?_
  refine WP.reg [(0, false)] (by kernel_rfl) ?_
  refine Dv.asg rfl trivial rfl ?_
  refine .fin ?_
  refine WP.seq ?_
  refine WP.reg [(0, false), (1, false), (2, false), (3, false), (4, false), (5, true), (6, false)] (by kernel_rfl) ?_
  refine Dv.mv rfl trivial rfl ?_
  obtain ⟨t314, h315, H⟩ := Gets.call H
  refine Dv.call rfl trivial cal6 rfl (concourseref01_RoomOf.c h315) ?_
  refine Dv.mv rfl trivial rfl ?_
  obtain ⟨t316, h317, H⟩ := Gets.call H
  refine Dv.call rfl trivial cal22 rfl (concourseref07_Made.c h317) ?_
  refine Dv.fld rfl trivial rfl Try.underlying50 rfl Try.underlying36 rfl rfl ?_
  refine Dv.gh (gh_of (st_nil Event.K none)) (fun _ _ => ?_)
  obtain ⟨g318, H⟩ := Gets.grd H
  refine Dv.appx (jj := 0) (ys := t316.fL) (fun v319 : OV => [own Event.K v319.1 (([] : List Event) ++ t316.fL)] ++ F) rfl trivial rfl rfl rfl src_sl Try.underlying36 (.inr ⟨_, Try.underlying36⟩) inf42 rfl (by decide) g318 rfl nofun (fun v319 => ?_)
  refine Dv.asg rfl trivial rfl ?_
  refine .fin ?_
  refine WP.seq ?_
  refine WP.reg [(0, false), (1, false), (2, false), (3, false), (4, false), (5, true), (6, false)] (by kernel_rfl) ?_
  refine Dv.mv rfl trivial rfl ?_
  obtain ⟨t320, h321, H⟩ := Gets.call H
  refine Dv.call rfl trivial cal6 rfl (concourseref01_RoomOf.c h321) ?_
  refine Dv.mv rfl trivial rfl ?_
  obtain ⟨t322, h323, H⟩ := Gets.call H
  refine Dv.call rfl trivial cal22 rfl (concourseref07_Made.c h323) ?_
  refine Dv.fld rfl trivial rfl Try.underlying50 rfl Try.underlying36 rfl rfl ?_
  obtain ⟨g324, H⟩ := Gets.grd H
  refine Dv.appx (jj := 0) (ys := t322.fL) (fun v325 : OV => [own Event.K v325.1 ((([] : List Event) ++ t316.fL) ++ t322.fL)] ++ F) rfl trivial rfl rfl rfl src_sl Try.underlying36 (.inr ⟨_, Try.underlying36⟩) inf42 rfl (by decide) g324 rfl nofun (fun v325 => ?_)
  refine Dv.asg rfl trivial rfl ?_
  refine .fin ?_
  obtain rfl := Gets.out H
  exact WP.retL (fun _ _ h => h) rfl v325 trivial (.cons (res_tmp rfl) .nil) rfl (st_sel (L := [own Event.K v325.1 ((([] : List Event) ++ t316.fL) ++ t322.fL)]) (F := F) [0] 0 rfl rfl rfl)
theorem view_New.c {r : VView} (h : view_New.f = some r) : Tr Try.prog 13 [] [] (γ := OV) (fun _ => True) (fun g => eq g.1) (fun g => [VView.O g r]) := by
  unfold view_New.f at h
  refine Tr.body Try.func13 (c := _) rfl Try.ntmps13 (Nat.le_of_ble_eq_true rfl) fun R0 F => ?_
  replace h := Gets.of h
  have H := h
  clear h
  refine WP.seq ?_
  refine WP.reg [(0, false)] (by kernel_rfl) ?_
  refine Dv.asg rfl trivial rfl ?_
  refine .fin ?_
  refine WP.seq ?_
  refine WP.reg [(0, true), (1, false), (2, true), (3, false)] (by kernel_rfl) ?_
  refine Dv.mmk Value.string (fun p : OV => eq p.1) rfl trivial nofun (fun v326 => ?_)
  refine Dv.gh (l' := fun _ : Unit => [mpo Value.string DDag.O v326.1 ([] : List (ByteArray × DDag))] ++ F) (gh_of (mpo_new DDag.O)) (fun _ _ => ?_)
  refine Dv.bld (qs := [eq v326.1]) (css := [[eq v326.1]]) rfl trivial Try.underlying56 pl56 z56 rfl ⟨(cells_one one_ov), trivial⟩ rfl rfl ?_
  refine Dv.box (qs := [eq v326.1]) rfl trivial rfl (cells_agg (ones_cons one_ov ones_nil)) nofun (fun b327 => ?_)
  refine Dv.asg rfl trivial rfl ?_
  refine .fin ?_
  refine WP.gh (l' := fun _ : Unit => [VView.O (⟨.pointer (some ⟨b327, 0, none⟩), rfl⟩ : OV) (⟨([] : List (ByteArray × DDag))⟩ : VView)] ++ F) (gh_of (VView.shut (p := (⟨.pointer (some ⟨b327, 0, none⟩), rfl⟩ : OV)) (m := (⟨([] : List (ByteArray × DDag))⟩ : VView)) (r := F) (b327, v326) rfl (perm_to (L := [blk b327 56 [eq v326.1], mpo Value.string DDag.O v326.1 ([] : List (ByteArray × DDag))]) (F := F) [0, 1] rfl rfl rfl))) (fun _ _ => ?_)
  obtain rfl := Gets.out H
  exact WP.retL (fun _ _ h => h) rfl (⟨.pointer (some ⟨b327, 0, none⟩), rfl⟩ : OV) trivial (.cons (res_tmp rfl) .nil) rfl (st_sel (L := [VView.O (⟨.pointer (some ⟨b327, 0, none⟩), rfl⟩ : OV) (⟨([] : List (ByteArray × DDag))⟩ : VView)]) (F := F) [0] 0 rfl rfl rfl)
theorem dag_New.c {a0 : ByteArray} {r : DDag} (h : dag_New.f a0 = some r) : Tr Try.prog 25 [eq (.string a0)] [] (γ := OV) (fun _ => True) (fun g => eq g.1) (fun g => [DDag.O g r]) := by
  unfold dag_New.f at h
  refine Tr.body Try.func25 (c := _) rfl Try.ntmps25 (Nat.le_of_ble_eq_true rfl) fun R0 F => ?_
  replace h := Gets.of h
  have H := h
  clear h
  refine WP.seq ?_
  refine WP.reg [(0, false)] (by kernel_rfl) ?_
  refine Dv.asg rfl trivial rfl ?_
  refine .fin ?_
  refine WP.seq ?_
  refine WP.reg [(0, false), (1, true), (2, false), (3, true), (4, false)] (by kernel_rfl) ?_
  refine Dv.mv rfl trivial rfl ?_
  refine Dv.mmk Value.string (fun p : OV => eq p.1) rfl trivial nofun (fun v328 => ?_)
  refine Dv.gh (l' := fun _ : Unit => [mpo Value.string DNode.O v328.1 ([] : List (ByteArray × DNode))] ++ F) (gh_of (mpo_new DNode.O)) (fun _ _ => ?_)
  refine Dv.bld (qs := [eq (.string a0), eq v328.1]) (css := [[eq (.string a0)], [eq v328.1]]) rfl trivial Try.underlying67 pl67 z67 rfl ⟨(cells_one (one_eq rfl)), ⟨(cells_one one_ov), trivial⟩⟩ rfl rfl ?_
  refine Dv.box (qs := [eq (.string a0), eq v328.1]) rfl trivial rfl (cells_agg (ones_cons (one_eq rfl) (ones_cons one_ov ones_nil))) nofun (fun b329 => ?_)
  refine Dv.asg rfl trivial rfl ?_
  refine .fin ?_
  refine WP.gh (l' := fun _ : Unit => [DDag.O (⟨.pointer (some ⟨b329, 0, none⟩), rfl⟩ : OV) (⟨a0, ([] : List (ByteArray × DNode))⟩ : DDag)] ++ F) (gh_of (DDag.shut (p := (⟨.pointer (some ⟨b329, 0, none⟩), rfl⟩ : OV)) (m := (⟨a0, ([] : List (ByteArray × DNode))⟩ : DDag)) (r := F) (b329, v328) rfl (perm_to (L := [blk b329 67 [eq (.string a0), eq v328.1], mpo Value.string DNode.O v328.1 ([] : List (ByteArray × DNode))]) (F := F) [0, 1] rfl rfl rfl))) (fun _ _ => ?_)
  obtain rfl := Gets.out H
  exact WP.retL (fun _ _ h => h) rfl (⟨.pointer (some ⟨b329, 0, none⟩), rfl⟩ : OV) trivial (.cons (res_tmp rfl) .nil) rfl (st_sel (L := [DDag.O (⟨.pointer (some ⟨b329, 0, none⟩), rfl⟩ : OV) (⟨a0, ([] : List (ByteArray × DNode))⟩ : DDag)]) (F := F) [0] 0 rfl rfl rfl)
theorem view_View_room.r {a0 : VView} {a1 : ByteArray} {r : DDag} (h : view_View_room.f a0 a1 = some r) : ∀ x, mget a0.fdags a1 = some x → x = r := fun x e => by
  unfold view_View_room.f at h; rw [e] at h; exact Option.some.inj h
theorem view_View_room.c {a0 : VView} {a1 : ByteArray} {b0_ : Nat} {v0_0 : OV} {r : DDag} (h : view_View_room.f a0 a1 = some r) : Tr Try.prog 18 [eq (.pointer (some ⟨b0_, 0, none⟩)), eq (.string a1)] [blk b0_ 56 [eq v0_0.1], mpo Value.string DDag.O v0_0.1 a0.fdags] (γ := OV) (fun _ => True) (fun g => eq g.1) (fun g => [blk b0_ 56 [eq v0_0.1], mpl Value.string DDag.O v0_0.1 a0.fdags a1 g, DDag.O g r]) := by
  unfold view_View_room.f at h
  refine Tr.body Try.func18 (c := _) rfl Try.ntmps18 (Nat.le_of_ble_eq_true rfl) fun R0 F => ?_
  replace h := Gets.of h
  have H := h
  clear h
  refine WP.seq ?_
  refine WP.reg [(0, false)] (by kernel_rfl) ?_
  refine Dv.asg rfl trivial rfl ?_
  refine .fin ?_
  refine WP.seq ?_
  refine WP.seq ?_
  refine WP.reg [(0, false), (1, false), (2, false), (3, false), (4, false), (5, false), (6, false)] (by kernel_rfl) ?_
  refine Dv.mv rfl trivial rfl ?_
  refine Dv.nilp rfl trivial rfl ?_
  refine Dv.fab rfl trivial rfl Try.underlying56 rfl Try.underlying54 c54 (by decide) ?_
  refine Dv.ldb rfl trivial rfl Try.underlying54 rfl (mem_at 0 rfl) rfl ?_
  refine Dv.mv rfl trivial rfl ?_
  refine Dv.gh (l' := fun z1 : List OV => [mp Value.string (fun p : OV => eq p.1) v0_0.1 (zipK a0.fdags z1), thg DDag.O a0.fdags z1, blk b0_ 56 [eq v0_0.1]] ++ F) (gh_of (mpo_opn 1 rfl)) (fun z1 h1 => ?_)
  refine Dv.mlv nilP rfl trivial rfl (mem_at 0 rfl) rfl Try.underlying54 (keyOk_str Try.underlying9) z46 (fun _ => rfl) ?_
  refine Dv.asg rfl trivial rfl ?_
  refine .fin ?_
  refine WP.seq ?_
  refine WP.reg [(0, false), (1, false)] (by kernel_rfl) ?_
  refine Dv.mv rfl trivial rfl ?_
  refine Dv.pm1 (pm_nil h1 rfl) rfl trivial rfl rfl Try.underlying46 ?_
  refine .fin ?_
  refine WP.cond rfl (fun c1 => ?_) (fun c1 => ?_)
  · have e1 : (mget a0.fdags a1).isSome = true := by cases e : mget a0.fdags a1 with | none => rw [e] at c1; cases c1 | some _ => rfl
    replace H := Gets.ct H e1
    obtain rfl := Gets.out H
    refine WP.seq ?_
    refine WP.reg [(0, false), (1, false)] (by kernel_rfl) ?_
    refine Dv.mv rfl trivial rfl ?_
    refine Dv.asg rfl trivial rfl ?_
    refine .fin ?_
    refine WP.gh (l' := fun _ : Unit => [mpl Value.string DDag.O v0_0.1 a0.fdags a1 ((mget (zipK a0.fdags z1) a1).getD nilP), DDag.O ((mget (zipK a0.fdags z1) a1).getD nilP) ((mget a0.fdags a1).getD default), blk b0_ 56 [eq v0_0.1]] ++ F) (gh_of (mpl_some h1 rfl e1 (perm_to (L := [mp Value.string (fun p : OV => eq p.1) v0_0.1 (zipK a0.fdags z1), thg DDag.O a0.fdags z1, blk b0_ 56 [eq v0_0.1]]) (F := F) [0, 1, 2] rfl rfl rfl))) (fun _ _ => ?_)
    exact WP.retL (fun _ _ h => h) rfl ((mget (zipK a0.fdags z1) a1).getD nilP) trivial (.cons (res_tmp rfl) .nil) rfl (st_sel (L := [mpl Value.string DDag.O v0_0.1 a0.fdags a1 ((mget (zipK a0.fdags z1) a1).getD nilP), DDag.O ((mget (zipK a0.fdags z1) a1).getD nilP) ((mget a0.fdags a1).getD default), blk b0_ 56 [eq v0_0.1]]) (F := F) [2, 0, 1] 0 rfl rfl rfl)
  have e1 : (mget a0.fdags a1).isSome = false := by cases e : mget a0.fdags a1 with | none => rfl | some _ => rw [e] at c1; cases c1
  replace H := Gets.cf H e1
  refine WP.skip ?_
  refine WP.seq ?_
  refine WP.reg [(0, false), (1, true), (2, false)] (by kernel_rfl) ?_
  refine Dv.mv rfl trivial rfl ?_
  refine Dv.callx (pre := []) (F := [mp Value.string (fun p : OV => eq p.1) v0_0.1 (zipK a0.fdags z1), thg DDag.O a0.fdags z1, blk b0_ 56 [eq v0_0.1]] ++ F) (fun g2 : OV => [DDag.O g2 r, mp Value.string (fun p : OV => eq p.1) v0_0.1 (zipK a0.fdags z1), thg DDag.O a0.fdags z1, blk b0_ 56 [eq v0_0.1]] ++ F) rfl trivial cal25 rfl (dag_New.c (by obtain ⟨_, e, rfl⟩ := H; exact e)) (List.Perm.refl _) rfl nofun (fun g2 _ => ?_)
  refine Dv.asg rfl trivial rfl ?_
  refine .fin ?_
  refine WP.gh (l' := fun _ : Unit => [mpl Value.string DDag.O v0_0.1 a0.fdags a1 g2, DDag.O g2 r, blk b0_ 56 [eq v0_0.1]] ++ F) (gh_of (mpl_none g2 h1 rfl e1 (perm_to (L := [DDag.O g2 r, mp Value.string (fun p : OV => eq p.1) v0_0.1 (zipK a0.fdags z1), thg DDag.O a0.fdags z1, blk b0_ 56 [eq v0_0.1]]) (F := F) [1, 2, 0, 3] rfl rfl rfl))) (fun _ _ => ?_)
  exact WP.retL (fun _ _ h => h) rfl g2 trivial (.cons (res_tmp rfl) .nil) rfl (st_sel (L := [mpl Value.string DDag.O v0_0.1 a0.fdags a1 g2, DDag.O g2 r, blk b0_ 56 [eq v0_0.1]]) (F := F) [2, 0, 1] 0 rfl rfl rfl)
theorem dag_Dag_Has.c {a0 : DDag} {a1 : ByteArray} {v0_0 : OV} {b0_ : Nat} {r : Bool} (h : dag_Dag_Has.f a0 a1 = some r) : Tr Try.prog 26 [eq (.pointer (some ⟨b0_, 0, none⟩)), eq (.string a1)] [blk b0_ 67 [eq (.string a0.froom), eq v0_0.1], mpo Value.string DNode.O v0_0.1 a0.fnodes] (γ := Unit) (fun _ => True) (fun g => eq (.bool r)) (fun g => [blk b0_ 67 [eq (.string a0.froom), eq v0_0.1], mpo Value.string DNode.O v0_0.1 a0.fnodes]) := by
  unfold dag_Dag_Has.f at h
  refine Tr.body Try.func26 (c := _) rfl Try.ntmps26 (Nat.le_of_ble_eq_true rfl) fun R0 F => ?_
  replace h := Gets.of h
  have H := h
  clear h
  refine WP.seq ?_
  refine WP.reg [(0, false)] (by kernel_rfl) ?_
  refine Dv.asg rfl trivial rfl ?_
  refine .fin ?_
  refine WP.seq ?_
  refine WP.reg [(0, false), (1, false), (2, false), (3, false), (4, false), (5, false), (6, false), (7, false)] (by kernel_rfl) ?_
  refine Dv.mv rfl trivial rfl ?_
  refine Dv.nilp rfl trivial rfl ?_
  refine Dv.fab rfl trivial rfl Try.underlying67 rfl Try.underlying65 c65 (by decide) ?_
  refine Dv.ldb rfl trivial rfl Try.underlying65 rfl (mem_at 0 rfl) rfl ?_
  refine Dv.mv rfl trivial rfl ?_
  refine Dv.gh (l' := fun z330 : List OV => [mp Value.string (fun p : OV => eq p.1) v0_0.1 (zipK a0.fnodes z330), thg DNode.O a0.fnodes z330, blk b0_ 67 [eq (.string a0.froom), eq v0_0.1]] ++ F) (gh_of (mpo_opn 1 rfl)) (fun z330 h331 => ?_)
  refine Dv.mlv nilP rfl trivial rfl (mem_at 0 rfl) rfl Try.underlying65 (keyOk_str Try.underlying9) z64 (fun _ => rfl) ?_
  refine Dv.pm1 (pm_nil h331 rfl) rfl trivial rfl rfl Try.underlying64 ?_
  refine Dv.asg rfl trivial rfl ?_
  refine .fin ?_
  refine WP.gh (l' := fun _ : Unit => [mpo Value.string DNode.O v0_0.1 a0.fnodes, blk b0_ 67 [eq (.string a0.froom), eq v0_0.1]] ++ F) (gh_of (mpo_shut h331 rfl (perm_to (L := [mp Value.string (fun p : OV => eq p.1) v0_0.1 (zipK a0.fnodes z330), thg DNode.O a0.fnodes z330, blk b0_ 67 [eq (.string a0.froom), eq v0_0.1]]) (F := F) [0, 1, 2] rfl rfl rfl))) (fun _ _ => ?_)
  obtain rfl := Gets.out H
  exact WP.retL (fun _ _ h => h) rfl () trivial (.cons (res_tmp rfl) .nil) rfl (st_sel (L := [mpo Value.string DNode.O v0_0.1 a0.fnodes, blk b0_ 67 [eq (.string a0.froom), eq v0_0.1]]) (F := F) [1, 0] 0 rfl rfl rfl)
theorem slices_Clone_string.c {a0 : List ByteArray} {r : List ByteArray} (h : slices_Clone_string.f a0 = some r) : Tr Try.prog 33 [sl strK a0] [] (γ := OV) (fun _ => True) (fun g => eq g.1) (fun g => [own strK g.1 r]) := by
  unfold slices_Clone_string.f at h
  obtain ⟨h0, h5⟩ := (Gets.of h).grd
  obtain rfl := Gets.out h5
  clear h h5
  refine (Tr.body Try.func33 (c := _) rfl Try.ntmps33 (Nat.le_of_ble_eq_true rfl) fun R0 F => ?_)
  refine WP.seq ?_
  refine WP.reg [(0, false)] (by kernel_rfl) ?_
  refine Dv.asg rfl trivial rfl ?_
  refine .fin ?_
  refine WP.seq ?_
  refine WP.seq ?_
  refine WP.reg [(0, false), (1, true)] (by kernel_rfl) ?_
  refine Dv.mv rfl trivial rfl ?_
  refine Dv.snil rfl trivial rfl rfl Try.underlying40 nofun (fun b hb => ?_)
  refine .fin ?_
  refine WP.cond rfl (fun c0 => ?_) (fun c0 => ?_)
  · obtain rfl := hb c0
    refine WP.seq ?_
    refine WP.reg [(0, false)] (by kernel_rfl) ?_
    refine Dv.asg rfl trivial rfl ?_
    refine .fin ?_
    refine WP.gh (gh_of (st_nil strK none)) (fun _ _ => ?_)
    exact WP.retL (fun _ _ h => h) rfl nilV trivial (.cons (res_tmp rfl) .nil) rfl (st_sel (L := [own strK nilV.1 []]) (F := F) [0] 0 rfl rfl rfl)
  refine WP.skip ?_
  refine WP.seq ?_
  refine WP.reg [(0, true), (1, false), (2, true), (3, false)] (by kernel_rfl) ?_
  refine Dv.lit0 strK rfl trivial Try.underlying40 Try.underlying9 c9 z9 nofun (fun v1 => ?_)
  refine Dv.mv rfl trivial rfl ?_
  refine Dv.appx (Kd := strK) (xs := []) (v := v1.1) (jj := 0) (ys := a0) (fun v2 : OV => [own strK v2.1 a0] ++ F) rfl trivial rfl rfl rfl src_sl Try.underlying40 (.inr ⟨_, Try.underlying40⟩) inf9 rfl (by decide) (by simpa using h0) rfl nofun (fun v2 => ?_)
  refine Dv.asg rfl trivial rfl ?_
  refine .fin ?_
  exact WP.retL (fun _ _ h => h) rfl v2 trivial (.cons (res_tmp rfl) .nil) rfl (st_sel (L := [own strK v2.1 a0]) (F := F) [0] 0 rfl rfl rfl)
theorem dag_own.c {a0 : Event} {r : Event} (h : dag_own.f a0 = some r) : Pt Try.prog 27 [agg (Event.enc a0)] (agg (Event.enc r)) := by
  unfold dag_own.f at h
  refine (Tr.body Try.func27 (c := _) rfl Try.ntmps27 (Nat.le_of_ble_eq_true rfl) fun R0 F => ?_).pt
  replace h := Gets.of h
  have H := h
  clear h
  refine WP.seq ?_
  refine WP.reg [(0, true), (1, true)] (by kernel_rfl) ?_
  refine Dv.box rfl trivial rfl (cells_agg (Event.K.one _)) nofun (fun b332 => ?_)
  refine Dv.alloc (z := .agg #[.string ⟨#[]⟩, .string ⟨#[]⟩, .slice none 0 0, .string ⟨#[]⟩, .string ⟨#[]⟩, .int .i64 0]) (qs := [eq (.string (⟨#[]⟩ : ByteArray)), eq (.string (⟨#[]⟩ : ByteArray)), eq (.slice none 0 0), eq (.string (⟨#[]⟩ : ByteArray)), eq (.string (⟨#[]⟩ : ByteArray)), eq (.int .i64 0)]) rfl trivial z42 rfl nofun (fun b333 => ?_)
  refine .fin ?_
  refine WP.seq ?_
  refine WP.reg [(0, false), (1, false), (2, true), (3, false), (4, true)] (by kernel_rfl) ?_
  refine Dv.fab rfl trivial rfl Try.underlying42 rfl Try.underlying40 c40 (by decide) ?_
  refine Dv.ldb rfl trivial rfl Try.underlying40 rfl (mem_at 1 rfl) rfl ?_
  obtain ⟨t334, h335, H⟩ := Gets.call H
  refine Dv.callx (pre := []) (F := [blk b333 42 [eq (.string (⟨#[]⟩ : ByteArray)), eq (.string (⟨#[]⟩ : ByteArray)), eq (.slice none 0 0), eq (.string (⟨#[]⟩ : ByteArray)), eq (.string (⟨#[]⟩ : ByteArray)), eq (.int .i64 0)], blk b332 42 [eq (.string a0.fID), eq (.string a0.fRoom), sl strK a0.fParents, eq (.string a0.fThread), eq (.string a0.fUser), eq (.int .i64 a0.fDoes)]] ++ F) (fun g336 : OV => [own strK g336.1 t334, blk b333 42 [eq (.string (⟨#[]⟩ : ByteArray)), eq (.string (⟨#[]⟩ : ByteArray)), eq (.slice none 0 0), eq (.string (⟨#[]⟩ : ByteArray)), eq (.string (⟨#[]⟩ : ByteArray)), eq (.int .i64 0)], blk b332 42 [eq (.string a0.fID), eq (.string a0.fRoom), sl strK a0.fParents, eq (.string a0.fThread), eq (.string a0.fUser), eq (.int .i64 a0.fDoes)]] ++ F) rfl trivial cal33 rfl (slices_Clone_string.c h335) (perm_to (L := [blk b333 42 [eq (.string (⟨#[]⟩ : ByteArray)), eq (.string (⟨#[]⟩ : ByteArray)), eq (.slice none 0 0), eq (.string (⟨#[]⟩ : ByteArray)), eq (.string (⟨#[]⟩ : ByteArray)), eq (.int .i64 0)], blk b332 42 [eq (.string a0.fID), eq (.string a0.fRoom), sl strK a0.fParents, eq (.string a0.fThread), eq (.string a0.fUser), eq (.int .i64 a0.fDoes)]]) (F := F) [0, 1] rfl rfl rfl) rfl nofun (fun g336 _ => ?_)
  refine Dv.fab rfl trivial rfl Try.underlying42 rfl Try.underlying40 c40 (by decide) ?_
  refine Dv.stx ([own strK g336.1 t334, blk b333 42 [eq (.string (⟨#[]⟩ : ByteArray)), eq (.string (⟨#[]⟩ : ByteArray)), eq (.slice none 0 0), eq (.string (⟨#[]⟩ : ByteArray)), eq (.string (⟨#[]⟩ : ByteArray)), eq (.int .i64 0)], blk b332 42 [eq (.string a0.fID), eq (.string a0.fRoom), eq g336.1, eq (.string a0.fThread), eq (.string a0.fUser), eq (.int .i64 a0.fDoes)]] ++ F) rfl trivial rfl rfl (cells_one one_ov) Try.underlying40 c40 rfl (j := 2) rfl (Nat.le_of_ble_eq_true rfl) rfl nofun ?_
  refine .fin ?_
  refine WP.seq ?_
  refine WP.reg [(0, false), (1, true)] (by kernel_rfl) ?_
  refine Dv.ldbs rfl trivial rfl Try.underlying42 rfl c42 (mem_at 2 rfl) (Nat.le_of_ble_eq_true rfl) ?_
  refine Dv.stx ([own strK g336.1 t334, blk b333 42 [eq (.string a0.fID), eq (.string a0.fRoom), eq g336.1, eq (.string a0.fThread), eq (.string a0.fUser), eq (.int .i64 a0.fDoes)], blk b332 42 [eq (.string a0.fID), eq (.string a0.fRoom), eq g336.1, eq (.string a0.fThread), eq (.string a0.fUser), eq (.int .i64 a0.fDoes)]] ++ F) rfl trivial rfl rfl (cells_agg (ones_cons (one_eq rfl) (ones_cons (one_eq rfl) (ones_cons one_ov (ones_cons (one_eq rfl) (ones_cons (one_eq rfl) (ones_cons (one_eq rfl) ones_nil))))))) Try.underlying42 c42 rfl (j := 1) rfl (Nat.le_of_ble_eq_true rfl) rfl nofun ?_
  refine .fin ?_
  refine WP.gh (gh_frz (E' := [(2, eq (.pointer (some ⟨b333, 0, none⟩)))]) (l' := [blk b333 42 [eq (.string a0.fID), eq (.string a0.fRoom), sl strK t334, eq (.string a0.fThread), eq (.string a0.fUser), eq (.int .i64 a0.fDoes)], blk b332 42 [eq (.string a0.fID), eq (.string a0.fRoom), sl strK t334, eq (.string a0.fThread), eq (.string a0.fUser), eq (.int .i64 a0.fDoes)]] ++ F) 0 rfl (cve_cons rfl cv_id cve_nil) (all2_app (.cons (cva_blk (.cons cv_id (.cons cv_id (.cons cv_eq (.cons cv_id (.cons cv_id (.cons cv_id .nil))))))) (.cons (cva_blk (.cons cv_id (.cons cv_id (.cons cv_eq (.cons cv_id (.cons cv_id (.cons cv_id .nil))))))) .nil)) fun _ => cva_id)) (fun _ _ => ?_)
  obtain rfl := Gets.out H
  exact WP.retL (fun _ _ h => h) rfl () trivial (.cons (res_cells rfl Try.underlying42 rfl c42 (mem_at 0 rfl) rfl) .nil) rfl (st_sel (L := [blk b333 42 [eq (.string a0.fID), eq (.string a0.fRoom), sl strK t334, eq (.string a0.fThread), eq (.string a0.fUser), eq (.int .i64 a0.fDoes)], blk b332 42 [eq (.string a0.fID), eq (.string a0.fRoom), sl strK t334, eq (.string a0.fThread), eq (.string a0.fUser), eq (.int .i64 a0.fDoes)]]) (F := F) [0, 1] 2 rfl rfl rfl)
theorem stringslite_HasPrefix.c {a0 : ByteArray} {a1 : ByteArray} {r : Bool} (h : stringslite_HasPrefix.f a0 a1 = some r) : Pt Try.prog 53 [eq (.string a0), eq (.string a1)] (eq (.bool r)) := by
  unfold stringslite_HasPrefix.f at h
  refine (Tr.body Try.func53 (c := _) rfl Try.ntmps53 (Nat.le_of_ble_eq_true rfl) fun R0 F => ?_).pt
  replace h := Gets.of h
  have H := h
  clear h
  refine WP.seq ?_
  refine WP.reg [(0, false)] (by kernel_rfl) ?_
  refine Dv.asg rfl trivial rfl ?_
  refine .fin ?_
  refine WP.seq ?_
  refine WP.reg [(0, false), (1, false), (2, false), (3, false), (4, false), (5, false), (6, false), (7, false), (8, false), (9, false), (10, false), (11, false), (12, false), (13, false)] (by kernel_rfl) ?_
  refine Dv.mv rfl trivial rfl ?_
  refine Dv.lens rfl trivial rfl Try.underlying9 ?_
  refine Dv.mv rfl trivial rfl ?_
  refine Dv.lens rfl trivial rfl Try.underlying9 ?_
  refine Dv.bin rfl trivial rfl rfl (fun _ => run_ge) ?_
  refine Dv.mv rfl trivial rfl ?_
  cases c337 : decide ((a1.size : Int) ≤ (a0.size : Int))
  · replace H := Gets.cf H c337
    refine Dv.skip rfl ⟨_, _, rfl, rfl, .inl rfl⟩ ?_
    refine Dv.skip rfl ⟨_, _, rfl, rfl, .inl rfl⟩ ?_
    refine Dv.skip rfl ⟨_, _, rfl, rfl, .inl rfl⟩ ?_
    refine Dv.skip rfl ⟨_, _, rfl, rfl, .inl rfl⟩ ?_
    refine Dv.skip rfl ⟨_, _, rfl, rfl, .inl rfl⟩ ?_
    refine Dv.skip rfl ⟨_, _, rfl, rfl, .inl rfl⟩ ?_
    refine Dv.pickF rfl trivial rfl rfl ?_
    refine Dv.asg rfl trivial rfl ?_
    refine .fin ?_
    obtain rfl := Gets.out H
    exact WP.retL (fun _ _ h => h) rfl () trivial (.cons (res_tmp rfl) .nil) rfl (st_sel (L := []) (F := F) [] 0 rfl rfl rfl)
  · replace H := Gets.ct H c337
    refine Dv.mv rfl ⟨_, _, rfl, rfl, rfl⟩ rfl ?_
    refine Dv.mv rfl ⟨_, _, rfl, rfl, rfl⟩ rfl ?_
    refine Dv.lens rfl ⟨_, _, rfl, rfl, rfl⟩ rfl Try.underlying9 ?_
    obtain ⟨g338, H⟩ := Gets.grd H
    refine Dv.sss rfl ⟨_, _, rfl, rfl, rfl⟩ rfl Try.underlying9 bdE_none (bdE_some rfl g338.1) g338.2.1 g338.2.2 ?_
    refine Dv.mv rfl ⟨_, _, rfl, rfl, rfl⟩ rfl ?_
    refine Dv.bin rfl ⟨_, _, rfl, rfl, rfl⟩ rfl rfl (fun _ => run_seq) ?_
    refine Dv.pickT rfl trivial rfl rfl ?_
    refine Dv.asg rfl trivial rfl ?_
    refine .fin ?_
    obtain rfl := Gets.out H
    exact WP.retL (fun _ _ h => h) rfl () trivial (.cons (res_tmp rfl) .nil) rfl (st_sel (L := []) (F := F) [] 0 rfl rfl rfl)
theorem stringslite_CutPrefix.c {a0 : ByteArray} {a1 : ByteArray} {r : ByteArray × Bool} (h : stringslite_CutPrefix.f a0 a1 = some r) : Pt Try.prog 49 [eq (.string a0), eq (.string a1)] (tup [eq (.string r.1), eq (.bool r.2)]) := by
  unfold stringslite_CutPrefix.f at h
  refine (Tr.body Try.func49 (c := _) rfl Try.ntmps49 (Nat.le_of_ble_eq_true rfl) fun R0 F => ?_).pt
  replace h := Gets.of h
  have H := h
  clear h
  refine WP.seq ?_
  refine WP.reg [(0, false), (1, false)] (by kernel_rfl) ?_
  refine Dv.asg rfl trivial rfl ?_
  refine Dv.asg rfl trivial rfl ?_
  refine .fin ?_
  refine WP.seq ?_
  refine WP.seq ?_
  refine WP.reg [(0, false), (1, false), (2, false), (3, false)] (by kernel_rfl) ?_
  refine Dv.mv rfl trivial rfl ?_
  refine Dv.mv rfl trivial rfl ?_
  obtain ⟨t339, h340, H⟩ := Gets.call H
  refine Dv.call rfl trivial cal53 rfl (stringslite_HasPrefix.c h340) ?_
  refine Dv.un rfl trivial rfl (fun _ => run_not _) ?_
  refine .fin ?_
  refine WP.cond rfl (fun c341 => ?_) (fun c341 => ?_)
  · replace H := Gets.ct H c341
    refine WP.seq ?_
    refine WP.reg [(0, false), (1, false), (2, false)] (by kernel_rfl) ?_
    refine Dv.mv rfl trivial rfl ?_
    refine Dv.asg rfl trivial rfl ?_
    refine Dv.asg rfl trivial rfl ?_
    refine .fin ?_
    obtain rfl := Gets.out H
    exact WP.retL (fun _ _ h => h) rfl () trivial (.cons (res_tmp rfl) (.cons (res_tmp rfl) .nil)) rfl (st_sel (L := []) (F := F) [] 0 rfl rfl rfl)
  · replace H := Gets.cf H c341
    refine WP.skip ?_
    refine WP.seq ?_
    refine WP.reg [(0, false), (1, false), (2, false), (3, false), (4, false), (5, false)] (by kernel_rfl) ?_
    refine Dv.mv rfl trivial rfl ?_
    refine Dv.mv rfl trivial rfl ?_
    refine Dv.lens rfl trivial rfl Try.underlying9 ?_
    obtain ⟨g342, H⟩ := Gets.grd H
    refine Dv.sss rfl trivial rfl Try.underlying9 (bdE_some rfl g342.1) bdE_none g342.2.1 g342.2.2 ?_
    refine Dv.asg rfl trivial rfl ?_
    refine Dv.asg rfl trivial rfl ?_
    refine .fin ?_
    obtain rfl := Gets.out H
    exact WP.retL (fun _ _ h => h) rfl () trivial (.cons (res_tmp rfl) (.cons (res_tmp rfl) .nil)) rfl (st_sel (L := []) (F := F) [] 0 rfl rfl rfl)
theorem strings_CutPrefix.c {a0 : ByteArray} {a1 : ByteArray} {r : ByteArray × Bool} (h : strings_CutPrefix.f a0 a1 = some r) : Pt Try.prog 42 [eq (.string a0), eq (.string a1)] (tup [eq (.string r.1), eq (.bool r.2)]) := by
  unfold strings_CutPrefix.f at h
  refine (Tr.body Try.func42 (c := _) rfl Try.ntmps42 (Nat.le_of_ble_eq_true rfl) fun R0 F => ?_).pt
  replace h := Gets.of h
  have H := h
  clear h
  refine WP.seq ?_
  refine WP.reg [(0, false), (1, false)] (by kernel_rfl) ?_
  refine Dv.asg rfl trivial rfl ?_
  refine Dv.asg rfl trivial rfl ?_
  refine .fin ?_
  refine WP.seq ?_
  refine WP.reg [(0, false), (1, false), (2, false), (3, false), (4, false), (5, false), (6, false)] (by kernel_rfl) ?_
  refine Dv.mv rfl trivial rfl ?_
  refine Dv.mv rfl trivial rfl ?_
  obtain ⟨t343, h344, H⟩ := Gets.call H
  refine Dv.call rfl trivial cal49 rfl (stringslite_CutPrefix.c h344) ?_
  refine Dv.ext rfl trivial rfl rfl ?_
  refine Dv.ext rfl trivial rfl rfl ?_
  refine Dv.asg rfl trivial rfl ?_
  refine Dv.asg rfl trivial rfl ?_
  refine .fin ?_
  obtain rfl := Gets.out H
  exact WP.retL (fun _ _ h => h) rfl () trivial (.cons (res_tmp rfl) (.cons (res_tmp rfl) .nil)) rfl (st_sel (L := []) (F := F) [] 0 rfl rfl rfl)
theorem name_small.c {a0 : Int} {r : Bool} (h : name_small.f a0 = some r) : Pt Try.prog 55 [eq (.int .u8 a0)] (eq (.bool r)) := by
  unfold name_small.f at h
  refine (Tr.body Try.func55 (c := _) rfl Try.ntmps55 (Nat.le_of_ble_eq_true rfl) fun R0 F => ?_).pt
  replace h := Gets.of h
  have H := h
  clear h
  refine WP.seq ?_
  refine WP.reg [(0, false)] (by kernel_rfl) ?_
  refine Dv.asg rfl trivial rfl ?_
  refine .fin ?_
  refine WP.seq ?_
  refine WP.reg [(0, false), (1, false), (2, false), (3, false), (4, false), (5, false), (6, false), (7, false), (8, false), (9, false), (10, false), (11, false), (12, false), (13, false), (14, false)] (by kernel_rfl) ?_
  refine Dv.mv rfl trivial rfl ?_
  refine Dv.bin rfl trivial rfl rfl (fun _ => run_ge) ?_
  refine Dv.mv rfl trivial rfl ?_
  cases c345 : decide (97 ≤ a0)
  · replace H := Gets.cf H c345
    refine Dv.skip rfl ⟨_, _, rfl, rfl, .inl rfl⟩ ?_
    refine Dv.skip rfl ⟨_, _, rfl, rfl, .inl rfl⟩ ?_
    refine Dv.pickF rfl trivial rfl rfl ?_
    refine Dv.mv rfl trivial rfl ?_
    refine Dv.mv rfl ⟨_, _, rfl, rfl, rfl⟩ rfl ?_
    refine Dv.bin rfl ⟨_, _, rfl, rfl, rfl⟩ rfl rfl (fun _ => run_ge) ?_
    refine Dv.mv rfl ⟨_, _, rfl, rfl, rfl⟩ rfl ?_
    cases c348 : decide (48 ≤ a0)
    · replace H := Gets.cf H c348
      refine Dv.skip rfl ⟨_, _, rfl, rfl, .inl rfl⟩ ?_
      refine Dv.skip rfl ⟨_, _, rfl, rfl, .inl rfl⟩ ?_
      refine Dv.pickF rfl ⟨_, _, rfl, rfl, rfl⟩ rfl rfl ?_
      refine Dv.pickF rfl trivial rfl rfl ?_
      refine Dv.asg rfl trivial rfl ?_
      refine .fin ?_
      obtain rfl := Gets.out H
      exact WP.retL (fun _ _ h => h) rfl () trivial (.cons (res_tmp rfl) .nil) rfl (st_sel (L := []) (F := F) [] 0 rfl rfl rfl)
    · replace H := Gets.ct H c348
      refine Dv.mv rfl ⟨_, _, rfl, rfl, rfl⟩ rfl ?_
      refine Dv.bin rfl ⟨_, _, rfl, rfl, rfl⟩ rfl rfl (fun _ => run_le) ?_
      refine Dv.pickT rfl ⟨_, _, rfl, rfl, rfl⟩ rfl rfl ?_
      refine Dv.pickF rfl trivial rfl rfl ?_
      refine Dv.asg rfl trivial rfl ?_
      refine .fin ?_
      obtain rfl := Gets.out H
      exact WP.retL (fun _ _ h => h) rfl () trivial (.cons (res_tmp rfl) .nil) rfl (st_sel (L := []) (F := F) [] 0 rfl rfl rfl)
  · replace H := Gets.ct H c345
    refine Dv.mv rfl ⟨_, _, rfl, rfl, rfl⟩ rfl ?_
    refine Dv.bin rfl ⟨_, _, rfl, rfl, rfl⟩ rfl rfl (fun _ => run_le) ?_
    refine Dv.pickT rfl trivial rfl rfl ?_
    refine Dv.mv rfl trivial rfl ?_
    cases c346 : decide (a0 ≤ 122)
    · replace H := Gets.cf H c346
      refine Dv.mv rfl ⟨_, _, rfl, rfl, rfl⟩ rfl ?_
      refine Dv.bin rfl ⟨_, _, rfl, rfl, rfl⟩ rfl rfl (fun _ => run_ge) ?_
      refine Dv.mv rfl ⟨_, _, rfl, rfl, rfl⟩ rfl ?_
      cases c347 : decide (48 ≤ a0)
      · replace H := Gets.cf H c347
        refine Dv.skip rfl ⟨_, _, rfl, rfl, .inl rfl⟩ ?_
        refine Dv.skip rfl ⟨_, _, rfl, rfl, .inl rfl⟩ ?_
        refine Dv.pickF rfl ⟨_, _, rfl, rfl, rfl⟩ rfl rfl ?_
        refine Dv.pickF rfl trivial rfl rfl ?_
        refine Dv.asg rfl trivial rfl ?_
        refine .fin ?_
        obtain rfl := Gets.out H
        exact WP.retL (fun _ _ h => h) rfl () trivial (.cons (res_tmp rfl) .nil) rfl (st_sel (L := []) (F := F) [] 0 rfl rfl rfl)
      · replace H := Gets.ct H c347
        refine Dv.mv rfl ⟨_, _, rfl, rfl, rfl⟩ rfl ?_
        refine Dv.bin rfl ⟨_, _, rfl, rfl, rfl⟩ rfl rfl (fun _ => run_le) ?_
        refine Dv.pickT rfl ⟨_, _, rfl, rfl, rfl⟩ rfl rfl ?_
        refine Dv.pickF rfl trivial rfl rfl ?_
        refine Dv.asg rfl trivial rfl ?_
        refine .fin ?_
        obtain rfl := Gets.out H
        exact WP.retL (fun _ _ h => h) rfl () trivial (.cons (res_tmp rfl) .nil) rfl (st_sel (L := []) (F := F) [] 0 rfl rfl rfl)
    · replace H := Gets.ct H c346
      refine Dv.skip rfl ⟨_, _, rfl, rfl, .inl rfl⟩ ?_
      refine Dv.skip rfl ⟨_, _, rfl, rfl, .inl rfl⟩ ?_
      refine Dv.skip rfl ⟨_, _, rfl, rfl, .inl rfl⟩ ?_
      refine Dv.skip rfl ⟨_, _, rfl, rfl, .inr rfl⟩ ?_
      refine Dv.skip rfl ⟨_, _, rfl, rfl, .inr rfl⟩ ?_
      refine Dv.skip rfl ⟨_, _, rfl, rfl, .inl rfl⟩ ?_
      refine Dv.pickT rfl trivial rfl rfl ?_
      refine Dv.asg rfl trivial rfl ?_
      refine .fin ?_
      obtain rfl := Gets.out H
      exact WP.retL (fun _ _ h => h) rfl () trivial (.cons (res_tmp rfl) .nil) rfl (st_sel (L := []) (F := F) [] 0 rfl rfl rfl)
theorem stringslite_IndexByte.c {a0 : ByteArray} {a1 : Int} {r : Int} (h : stringslite_IndexByte.f a0 a1 = some r) : Pt Try.prog 58 [eq (.string a0), eq (.int .u8 a1)] (eq (.int .i64 r)) := by
  unfold stringslite_IndexByte.f at h
  refine (Tr.body Try.func58 (c := _) rfl Try.ntmps58 (Nat.le_of_ble_eq_true rfl) fun R0 F => ?_).pt
  replace h := Gets.of h
  have H := h
  clear h
  refine WP.seq ?_
  refine WP.reg [(0, false)] (by kernel_rfl) ?_
  refine Dv.asg rfl trivial rfl ?_
  refine .fin ?_
  refine WP.seq ?_
  refine WP.reg [(0, false), (1, false), (2, false), (3, false)] (by kernel_rfl) ?_
  refine Dv.mv rfl trivial rfl ?_
  refine Dv.mv rfl trivial rfl ?_
  refine Dv.cext rfl trivial rfl (xt_index Try.func60 (by kernel_rfl) rfl xf60 xg60) ?_
  refine Dv.asg rfl trivial rfl ?_
  refine .fin ?_
  obtain rfl := Gets.out H
  exact WP.retL (fun _ _ h => h) rfl () trivial (.cons (res_tmp rfl) .nil) rfl (st_sel (L := []) (F := F) [] 0 rfl rfl rfl)
theorem strings_IndexByte.c {a0 : ByteArray} {a1 : Int} {r : Int} (h : strings_IndexByte.f a0 a1 = some r) : Pt Try.prog 56 [eq (.string a0), eq (.int .u8 a1)] (eq (.int .i64 r)) := by
  unfold strings_IndexByte.f at h
  refine (Tr.body Try.func56 (c := _) rfl Try.ntmps56 (Nat.le_of_ble_eq_true rfl) fun R0 F => ?_).pt
  replace h := Gets.of h
  have H := h
  clear h
  refine WP.seq ?_
  refine WP.reg [(0, false)] (by kernel_rfl) ?_
  refine Dv.asg rfl trivial rfl ?_
  refine .fin ?_
  refine WP.seq ?_
  refine WP.reg [(0, false), (1, false), (2, false), (3, false)] (by kernel_rfl) ?_
  refine Dv.mv rfl trivial rfl ?_
  refine Dv.mv rfl trivial rfl ?_
  obtain ⟨t349, h350, H⟩ := Gets.call H
  refine Dv.call rfl trivial cal58 rfl (stringslite_IndexByte.c h350) ?_
  refine Dv.asg rfl trivial rfl ?_
  refine .fin ?_
  obtain rfl := Gets.out H
  exact WP.retL (fun _ _ h => h) rfl () trivial (.cons (res_tmp rfl) .nil) rfl (st_sel (L := []) (F := F) [] 0 rfl rfl rfl)
theorem name_among_1.c {a0 : Int} {c0 : ByteArray} {r : Bool} (h : name_among_1.f a0 c0 = some r) : Pt Try.prog 54 [eq (.int .u8 a0), rp [eq (.string c0)]] (eq (.bool r)) := by
  unfold name_among_1.f at h
  refine (Tr.body Try.func54 (c := _) rfl Try.ntmps54 (Nat.le_of_ble_eq_true rfl) fun R0 F => ?_).pt
  replace h := Gets.of h
  have H := h
  clear h
  refine WP.seq ?_
  refine WP.reg [(0, false)] (by kernel_rfl) ?_
  refine Dv.asg rfl trivial rfl ?_
  refine .fin ?_
  refine WP.seq ?_
  refine WP.reg [(0, false), (1, false), (2, false), (3, false), (4, false), (5, false), (6, false), (7, false), (8, false)] (by kernel_rfl) ?_
  refine Dv.mv rfl trivial rfl ?_
  obtain ⟨t351, h352, H⟩ := Gets.call H
  refine Dv.call rfl trivial cal55 rfl (name_small.c h352) ?_
  refine Dv.mv rfl trivial rfl ?_
  cases c353 : t351
  · replace H := Gets.cf H c353
    refine Dv.ldr rfl ⟨_, _, rfl, rfl, rfl⟩ rfl Try.underlying9 rfl rfl ?_
    refine Dv.mv rfl ⟨_, _, rfl, rfl, rfl⟩ rfl ?_
    obtain ⟨t354, h355, H⟩ := Gets.call H
    refine Dv.call rfl ⟨_, _, rfl, rfl, rfl⟩ cal56 rfl (strings_IndexByte.c h355) ?_
    refine Dv.bin rfl ⟨_, _, rfl, rfl, rfl⟩ rfl rfl (fun _ => run_ge) ?_
    refine Dv.pickF rfl trivial rfl rfl ?_
    refine Dv.asg rfl trivial rfl ?_
    refine .fin ?_
    obtain rfl := Gets.out H
    exact WP.retL (fun _ _ h => h) rfl () trivial (.cons (res_tmp rfl) .nil) rfl (st_sel (L := []) (F := F) [] 0 rfl rfl rfl)
  · replace H := Gets.ct H c353
    refine Dv.skip rfl ⟨_, _, rfl, rfl, .inl rfl⟩ ?_
    refine Dv.skip rfl ⟨_, _, rfl, rfl, .inl rfl⟩ ?_
    refine Dv.skip rfl ⟨_, _, rfl, rfl, .inl rfl⟩ ?_
    refine Dv.skip rfl ⟨_, _, rfl, rfl, .inl rfl⟩ ?_
    refine Dv.pickT rfl trivial rfl rfl ?_
    refine Dv.asg rfl trivial rfl ?_
    refine .fin ?_
    obtain rfl := Gets.out H
    exact WP.retL (fun _ _ h => h) rfl () trivial (.cons (res_tmp rfl) .nil) rfl (st_sel (L := []) (F := F) [] 0 rfl rfl rfl)
theorem name_among.c {a0 : ByteArray} {r : (Int → Option Bool)} (h : name_among.f a0 = some r) : Pt Try.prog 50 [eq (.string a0)] (fq_uint8_bool r) := by
  unfold name_among.f at h
  refine (Tr.body Try.func50 (c := _) rfl Try.ntmps50 (Nat.le_of_ble_eq_true rfl) fun R0 F => ?_).pt
  replace h := Gets.of h
  have H := h
  clear h
  refine WP.seq ?_
  refine WP.reg [(0, true), (1, false)] (by kernel_rfl) ?_
  refine Dv.box rfl trivial rfl (cells_one (one_eq rfl)) nofun (fun b356 => ?_)
  refine Dv.asg rfl trivial rfl ?_
  refine .fin ?_
  refine WP.seq ?_
  refine WP.reg [(0, false), (1, false)] (by kernel_rfl) ?_
  refine Dv.gh (gh_frzb (E' := [(0, eq (.string a0)), (1, rp [eq (.string a0)]), (2, eq .nilFunc)]) (l' := [] ++ F) 0 rfl (cve_cons rfl cv_id (cve_cons rfl cv_eq (cve_cons rfl cv_id cve_nil))) (all2_app .nil fun _ => cva_id)) (fun _ _ => ?_)
  refine Dv.mkf (Q := fqQ_uint8_bool (fun a0_ => name_among_1.f a0_ a0)) cal54 (by rintro _ _ ⟨a0_, r_, h_, rfl, rfl⟩; exact name_among_1.c h_) rfl trivial rfl rfl ?_
  refine Dv.asg rfl trivial rfl ?_
  refine .fin ?_
  obtain rfl := Gets.out H
  exact WP.retL (fun _ _ h => h) rfl () trivial (.cons (res_tmp rfl) .nil) rfl (st_sel (L := []) (F := F) [] 0 rfl rfl rfl)
theorem name_may.c {k : Nat} {a0 : ByteArray} {a1 : Int} {r : Bool} (h : name_may.f k a0 a1 = some r) : Pt Try.prog 43 [eq (.string a0), eq (.int .i64 a1)] (eq (.bool r)) := by
  unfold name_may.f at h
  refine (Tr.body Try.func43 (c := _) rfl Try.ntmps43 (Nat.le_of_ble_eq_true rfl) fun R0 F => ?_).pt
  replace h := Gets.of h
  have H := h
  clear h
  refine WP.seq ?_
  refine WP.reg [(0, false)] (by kernel_rfl) ?_
  refine Dv.asg rfl trivial rfl ?_
  refine .fin ?_
  refine WP.seq ?_
  refine WP.reg [(0, false), (1, false), (2, false), (3, false), (4, false), (5, false), (6, false)] (by kernel_rfl) ?_
  obtain ⟨t357, h358, H⟩ := Gets.call H
  refine Dv.call rfl trivial cal50 rfl (name_among.c h358) ?_
  obtain ⟨t359, h360, H⟩ := Gets.call H
  refine Dv.call rfl trivial cal50 rfl (name_among.c h360) ?_
  obtain ⟨t361, h362, H⟩ := Gets.call H
  refine Dv.call rfl trivial cal50 rfl (name_among.c h362) ?_
  refine Dv.blda (qs := [fq_uint8_bool t357, fq_uint8_bool t359, fq_uint8_bool t361]) (css := [[fq_uint8_bool t357], [fq_uint8_bool t359], [fq_uint8_bool t361]]) rfl trivial Try.underlying87 Try.underlying84 c84 z87 rfl ⟨(cells_one one_fnq), ⟨(cells_one one_fnq), ⟨(cells_one one_fnq), trivial⟩⟩⟩ rfl rfl ?_
  refine Dv.mv rfl trivial rfl ?_
  obtain ⟨g363, H⟩ := Gets.grd H
  refine Dv.ixa (Kd := fK_uint8_bool) (xs := ([t357, t359, t361] : List (Int → Option Bool))) rfl trivial rfl rfl rfl Try.underlying87 Try.underlying84 rfl c84 rfl rfl g363.1 g363.2 rfl ?_
  refine Dv.asg rfl trivial rfl ?_
  refine .fin ?_
  refine WP.seqr H id (fun p364 : Int × Bool => [(0, eq (.string a0)), (1, eq (.int .i64 a1)), (4, eq (.bool false)), (5, fq_uint8_bool (fK_uint8_bool.at ([t357, t359, t361] : List (Int → Option Bool)) a1)), (14, eq (.int .i64 (a0.size : Int))), (15, eq (.int .i64 p364.1)), (16, eq (.bool p364.2))]) (fun p364 : Int × Bool => [] ++ F) (fun p364 H => ?_) (fun H => ?_)
  · refine WP.seq ?_
    refine WP.reg [(0, false), (1, false), (2, false), (3, false), (4, false), (5, false), (6, false), (7, false)] (by kernel_rfl) ?_
    refine Dv.mv rfl trivial rfl ?_
    refine Dv.bin rfl trivial rfl rfl (fun _ => run_sne) ?_
    refine Dv.mv rfl trivial rfl ?_
    cases c365 : !decide (a0 = (⟨#[]⟩ : ByteArray))
    · replace H := Gets.cf H c365
      refine Dv.skip rfl ⟨_, _, rfl, rfl, .inl rfl⟩ ?_
      refine Dv.skip rfl ⟨_, _, rfl, rfl, .inl rfl⟩ ?_
      refine Dv.skip rfl ⟨_, _, rfl, rfl, .inl rfl⟩ ?_
      refine Dv.pickF rfl trivial rfl rfl ?_
      refine Dv.asg rfl trivial rfl ?_
      refine .fin ?_
      obtain rfl := Gets.out H
      exact WP.retL (fun _ _ h => h) rfl () trivial (.cons (res_tmp rfl) .nil) rfl (st_sel (L := []) (F := F) [] 0 rfl rfl rfl)
    · replace H := Gets.ct H c365
      refine Dv.mv rfl ⟨_, _, rfl, rfl, rfl⟩ rfl ?_
      refine Dv.lens rfl ⟨_, _, rfl, rfl, rfl⟩ rfl Try.underlying9 ?_
      refine Dv.bin rfl ⟨_, _, rfl, rfl, rfl⟩ rfl rfl (fun _ => run_le) ?_
      refine Dv.pickT rfl trivial rfl rfl ?_
      refine Dv.asg rfl trivial rfl ?_
      refine .fin ?_
      obtain rfl := Gets.out H
      exact WP.retL (fun _ _ h => h) rfl () trivial (.cons (res_tmp rfl) .nil) rfl (st_sel (L := []) (F := F) [] 0 rfl rfl rfl)
  · refine WP.seq ?_
    refine WP.reg [(0, false), (1, false), (2, false)] (by kernel_rfl) ?_
    refine Dv.mv rfl trivial rfl ?_
    refine Dv.lens rfl trivial rfl Try.underlying9 ?_
    refine Dv.mv rfl trivial rfl ?_
    refine .fin ?_
    refine WP.block ?_
    refine WP.gh (l' := fun _ => [] ++ F) (gh_of (st_selg (L := []) (F := F) [] 0 rfl rfl rfl)) (fun _ _ => ?_)
    refine WP.loopg (fun j_ (p373 : Int) => name_may.l0 k a0 a1 t357 t359 t361 j_ p373) 0 H (fun p373 => [(0, eq (.string a0)), (1, eq (.int .i64 a1)), (4, eq (.bool false)), (5, fq_uint8_bool (fK_uint8_bool.at ([t357, t359, t361] : List (Int → Option Bool)) a1)), (14, eq (.int .i64 (a0.size : Int))), (15, eq (.int .i64 p373))]) (fun p373 => [] ++ F) (weak_cons rfl (weak_cons rfl (weak_cons rfl (weak_cons rfl (weak_cons rfl (weak_cons rfl weak_nil)))))) (List.Perm.refl _) ?_
    rintro j_ x366 H
    rcases j_ with _ | j372
    · exact (Gets.no H).elim
    replace H : Gets (name_may.l0 k a0 a1 t357 t359 t361 (j372 + 1) x366) _ := H
    rw [name_may.l0] at H
    refine WP.seq ?_
    refine WP.reg [(0, false)] (by kernel_rfl) ?_
    refine Dv.bin rfl trivial rfl rfl (fun _ => run_lt) ?_
    refine .fin ?_
    refine WP.seq ?_
    refine WP.cond rfl (fun c367 => ?_) (fun c367 => ?_)
    · replace H := Gets.ct H c367
      refine WP.skip ?_
      refine WP.seq ?_
      refine WP.block ?_
      refine WP.seq ?_
      refine WP.reg [(0, false), (1, false)] (by kernel_rfl) ?_
      refine Dv.mv rfl trivial rfl ?_
      refine Dv.asg rfl trivial rfl ?_
      refine .fin ?_
      refine WP.seq ?_
      refine WP.reg [(0, false), (1, false), (2, false), (3, false), (4, false), (5, false)] (by kernel_rfl) ?_
      refine Dv.mv rfl trivial rfl ?_
      refine Dv.mv rfl trivial rfl ?_
      refine Dv.mv rfl trivial rfl ?_
      obtain ⟨g368, H⟩ := Gets.grd H
      refine Dv.ixs rfl trivial rfl rfl Try.underlying9 g368.1 g368.2 ?_
      obtain ⟨t369, h370, H⟩ := Gets.call H
      refine Dv.callq (ret := eq (.bool t369)) rfl trivial rfl rfl ⟨_, _, h370, rfl, rfl⟩ ?_
      refine Dv.un rfl trivial rfl (fun _ => run_not _) ?_
      refine .fin ?_
      refine WP.cond rfl (fun c371 => ?_) (fun c371 => ?_)
      · replace H := Gets.ct H c371
        refine WP.seq ?_
        refine WP.reg [(0, false)] (by kernel_rfl) ?_
        refine Dv.asg rfl trivial rfl ?_
        refine .fin ?_
        replace H := Gets.outr H
        obtain rfl := Gets.out H
        exact WP.retL (fun _ _ h => h) rfl () trivial (.cons (res_tmp rfl) .nil) rfl (st_sel (L := []) (F := F) [] 0 rfl rfl rfl)
      · replace H := Gets.cf H c371
        refine WP.skip ?_
        refine WP.reg [(0, false), (1, false)] (by kernel_rfl) ?_
        refine Dv.bin rfl trivial rfl rfl (fun _ => run_add) ?_
        refine Dv.mv rfl trivial rfl ?_
        refine .fin ?_
        exact Back.mk j372 (w64 (x366 + 1)) (Nat.lt_succ_self _) H (weak_cons rfl (weak_cons rfl (weak_cons rfl (weak_cons rfl (weak_cons rfl (weak_cons rfl weak_nil)))))) (List.Perm.refl _)
    · replace H := Gets.cf H c367
      refine WP.exit ?_
      replace H := Gets.out H
      exact Jn.mk (x366, decide (x366 < (a0.size : Int))) H (weak_cons rfl (weak_cons rfl (weak_cons rfl (weak_cons rfl (weak_cons rfl (weak_cons rfl (weak_cons rfl weak_nil))))))) (List.Perm.refl _)
theorem name_Event.c {k : Nat} {a0 : ByteArray} {r : Bool} (h : name_Event.f k a0 = some r) : Pt Try.prog 36 [eq (.string a0)] (eq (.bool r)) := by
  unfold name_Event.f at h
  refine (Tr.body Try.func36 (c := _) rfl Try.ntmps36 (Nat.le_of_ble_eq_true rfl) fun R0 F => ?_).pt
  replace h := Gets.of h
  have H := h
  clear h
  refine WP.seq ?_
  refine WP.reg [(0, false)] (by kernel_rfl) ?_
  refine Dv.asg rfl trivial rfl ?_
  refine .fin ?_
  refine WP.seq ?_
  refine WP.reg [(0, false), (1, false), (2, false), (3, false), (4, false), (5, false), (6, false)] (by kernel_rfl) ?_
  refine Dv.mv rfl trivial rfl ?_
  obtain ⟨t374, h375, H⟩ := Gets.call H
  refine Dv.call rfl trivial cal42 rfl (strings_CutPrefix.c h375) ?_
  refine Dv.mv rfl trivial rfl ?_
  refine Dv.ext rfl trivial rfl rfl ?_
  refine Dv.ext rfl trivial rfl rfl ?_
  refine Dv.asg rfl trivial rfl ?_
  refine Dv.asg rfl trivial rfl ?_
  refine .fin ?_
  refine WP.seq ?_
  refine WP.reg [(0, false), (1, false), (2, false), (3, false), (4, false), (5, false)] (by kernel_rfl) ?_
  refine Dv.mv rfl trivial rfl ?_
  refine Dv.mv rfl trivial rfl ?_
  cases c376 : t374.2
  · replace H := Gets.cf H c376
    refine Dv.skip rfl ⟨_, _, rfl, rfl, .inl rfl⟩ ?_
    refine Dv.skip rfl ⟨_, _, rfl, rfl, .inl rfl⟩ ?_
    refine Dv.pickF rfl trivial rfl rfl ?_
    refine Dv.asg rfl trivial rfl ?_
    refine .fin ?_
    obtain rfl := Gets.out H
    exact WP.retL (fun _ _ h => h) rfl () trivial (.cons (res_tmp rfl) .nil) rfl (st_sel (L := []) (F := F) [] 0 rfl rfl rfl)
  · replace H := Gets.ct H c376
    refine Dv.mv rfl ⟨_, _, rfl, rfl, rfl⟩ rfl ?_
    obtain ⟨t377, h378, H⟩ := Gets.call H
    refine Dv.call rfl ⟨_, _, rfl, rfl, rfl⟩ cal43 rfl (name_may.c h378) ?_
    refine Dv.pickT rfl trivial rfl rfl ?_
    refine Dv.asg rfl trivial rfl ?_
    refine .fin ?_
    obtain rfl := Gets.out H
    exact WP.retL (fun _ _ h => h) rfl () trivial (.cons (res_tmp rfl) .nil) rfl (st_sel (L := []) (F := F) [] 0 rfl rfl rfl)
theorem bytealg_Cutover.c {a0 : Int} {r : Int} (h : bytealg_Cutover.f a0 = some r) : Pt Try.prog 62 [eq (.int .i64 a0)] (eq (.int .i64 r)) := by
  unfold bytealg_Cutover.f at h
  refine (Tr.body Try.func62 (c := _) rfl Try.ntmps62 (Nat.le_of_ble_eq_true rfl) fun R0 F => ?_).pt
  replace h := Gets.of h
  have H := h
  clear h
  refine WP.seq ?_
  refine WP.reg [(0, false)] (by kernel_rfl) ?_
  refine Dv.asg rfl trivial rfl ?_
  refine .fin ?_
  refine WP.seq ?_
  refine WP.reg [(0, false), (1, false), (2, false), (3, false)] (by kernel_rfl) ?_
  refine Dv.mv rfl trivial rfl ?_
  refine Dv.bin rfl trivial rfl rfl (fun _ => run_add) ?_
  refine Dv.bin rfl trivial rfl rfl (fun _ => run_quo (by decide)) ?_
  refine Dv.asg rfl trivial rfl ?_
  refine .fin ?_
  obtain rfl := Gets.out H
  exact WP.retL (fun _ _ h => h) rfl () trivial (.cons (res_tmp rfl) .nil) rfl (st_sel (L := []) (F := F) [] 0 rfl rfl rfl)
theorem stringslite_Index.c {a0 : ByteArray} {a1 : ByteArray} {r : Int} (h : stringslite_Index.f a0 a1 = some r) : Pt Try.prog 59 [eq (.string a0), eq (.string a1)] (eq (.int .i64 r)) := by
  unfold stringslite_Index.f at h
  refine (Tr.body Try.func59 (c := _) rfl Try.ntmps59 (Nat.le_of_ble_eq_true rfl) fun R0 F => ?_).pt
  replace h := Gets.of h
  have H := h
  clear h
  refine WP.seq ?_
  refine WP.reg [(0, false)] (by kernel_rfl) ?_
  refine Dv.asg rfl trivial rfl ?_
  refine .fin ?_
  refine WP.seq ?_
  refine WP.reg [(0, false), (1, false), (2, false)] (by kernel_rfl) ?_
  refine Dv.mv rfl trivial rfl ?_
  refine Dv.lens rfl trivial rfl Try.underlying9 ?_
  refine Dv.asg rfl trivial rfl ?_
  refine .fin ?_
  refine WP.seq ?_
  refine WP.block ?_
  refine WP.seq ?_
  refine WP.reg [(0, false), (1, false), (2, false), (3, false), (4, false), (5, false), (6, false), (7, false)] (by kernel_rfl) ?_
  refine Dv.mv rfl trivial rfl ?_
  refine Dv.bin rfl trivial rfl rfl (fun _ => run_eq) ?_
  refine Dv.mv rfl trivial rfl ?_
  cases c381 : ((a1.size : Int) == 0)
  · replace H := Gets.cf H c381
    refine Dv.mv rfl ⟨_, _, rfl, rfl, rfl⟩ rfl ?_
    refine Dv.mv rfl ⟨_, _, rfl, rfl, rfl⟩ rfl ?_
    refine Dv.bin rfl ⟨_, _, rfl, rfl, rfl⟩ rfl rfl (fun _ => run_seq) ?_
    refine Dv.pickF rfl trivial rfl rfl ?_
    refine Dv.asg rfl trivial rfl ?_
    refine .fin ?_
    refine WP.cond rfl (fun c383 => ?_) (fun c383 => ?_)
    · replace H := Gets.ct H c383
      refine WP.seq ?_
      refine WP.reg [(0, false)] (by kernel_rfl) ?_
      refine Dv.asg rfl trivial rfl ?_
      refine .fin ?_
      obtain rfl := Gets.out H
      exact WP.retL (fun _ _ h => h) rfl () trivial (.cons (res_tmp rfl) .nil) rfl (st_sel (L := []) (F := F) [] 0 rfl rfl rfl)
    · replace H := Gets.cf H c383
      refine WP.seq ?_
      refine WP.reg [(0, false), (1, false), (2, false)] (by kernel_rfl) ?_
      refine Dv.mv rfl trivial rfl ?_
      refine Dv.bin rfl trivial rfl rfl (fun _ => run_eq) ?_
      refine Dv.asg rfl trivial rfl ?_
      refine .fin ?_
      refine WP.cond rfl (fun c384 => ?_) (fun c384 => ?_)
      · replace H := Gets.ct H c384
        refine WP.seq ?_
        refine WP.reg [(0, false), (1, false), (2, false), (3, false), (4, false)] (by kernel_rfl) ?_
        refine Dv.mv rfl trivial rfl ?_
        refine Dv.mv rfl trivial rfl ?_
        obtain ⟨g385, H⟩ := Gets.grd H
        refine Dv.ixs rfl trivial rfl rfl Try.underlying9 g385.1 g385.2 ?_
        obtain ⟨t386, h387, H⟩ := Gets.call H
        refine Dv.call rfl trivial cal58 rfl (stringslite_IndexByte.c h387) ?_
        refine Dv.asg rfl trivial rfl ?_
        refine .fin ?_
        obtain rfl := Gets.out H
        exact WP.retL (fun _ _ h => h) rfl () trivial (.cons (res_tmp rfl) .nil) rfl (st_sel (L := []) (F := F) [] 0 rfl rfl rfl)
      · replace H := Gets.cf H c384
        refine WP.seq ?_
        refine WP.reg [(0, false), (1, false), (2, false), (3, false), (4, false)] (by kernel_rfl) ?_
        refine Dv.mv rfl trivial rfl ?_
        refine Dv.mv rfl trivial rfl ?_
        refine Dv.lens rfl trivial rfl Try.underlying9 ?_
        refine Dv.bin rfl trivial rfl rfl (fun _ => run_ge) ?_
        refine Dv.asg rfl trivial rfl ?_
        refine .fin ?_
        refine WP.cond rfl (fun c388 => ?_) (fun c388 => ?_)
        · replace H := Gets.ct H c388
          refine WP.seq ?_
          refine WP.reg [(0, false)] (by kernel_rfl) ?_
          refine Dv.asg rfl trivial rfl ?_
          refine .fin ?_
          obtain rfl := Gets.out H
          exact WP.retL (fun _ _ h => h) rfl () trivial (.cons (res_tmp rfl) .nil) rfl (st_sel (L := []) (F := F) [] 0 rfl rfl rfl)
        · replace H := Gets.cf H c388
          exact (Gets.no H).elim
  · replace H := Gets.ct H c381
    refine Dv.skip rfl ⟨_, _, rfl, rfl, .inl rfl⟩ ?_
    refine Dv.skip rfl ⟨_, _, rfl, rfl, .inl rfl⟩ ?_
    refine Dv.skip rfl ⟨_, _, rfl, rfl, .inl rfl⟩ ?_
    refine Dv.pickT rfl trivial rfl rfl ?_
    refine Dv.asg rfl trivial rfl ?_
    refine .fin ?_
    refine WP.cond rfl (fun _ => ?_) nofun
    refine WP.seq ?_
    refine WP.reg [(0, false)] (by kernel_rfl) ?_
    refine Dv.asg rfl trivial rfl ?_
    refine .fin ?_
    obtain rfl := Gets.out H
    exact WP.retL (fun _ _ h => h) rfl () trivial (.cons (res_tmp rfl) .nil) rfl (st_sel (L := []) (F := F) [] 0 rfl rfl rfl)
theorem stringslite_Cut.c {a0 : ByteArray} {a1 : ByteArray} {r : ByteArray × ByteArray × Bool} (h : stringslite_Cut.f a0 a1 = some r) : Pt Try.prog 57 [eq (.string a0), eq (.string a1)] (tup [eq (.string r.1), eq (.string r.2.1), eq (.bool r.2.2)]) := by
  unfold stringslite_Cut.f at h
  refine (Tr.body Try.func57 (c := _) rfl Try.ntmps57 (Nat.le_of_ble_eq_true rfl) fun R0 F => ?_).pt
  replace h := Gets.of h
  have H := h
  clear h
  refine WP.seq ?_
  refine WP.reg [(0, false), (1, false), (2, false)] (by kernel_rfl) ?_
  refine Dv.asg rfl trivial rfl ?_
  refine Dv.asg rfl trivial rfl ?_
  refine Dv.asg rfl trivial rfl ?_
  refine .fin ?_
  refine WP.seq ?_
  refine WP.seq ?_
  refine WP.reg [(0, false), (1, false), (2, false), (3, false)] (by kernel_rfl) ?_
  refine Dv.mv rfl trivial rfl ?_
  refine Dv.mv rfl trivial rfl ?_
  obtain ⟨t389, h390, H⟩ := Gets.call H
  refine Dv.call rfl trivial cal59 rfl (stringslite_Index.c h390) ?_
  refine Dv.asg rfl trivial rfl ?_
  refine .fin ?_
  refine WP.seq ?_
  refine WP.reg [(0, false), (1, false)] (by kernel_rfl) ?_
  refine Dv.mv rfl trivial rfl ?_
  refine Dv.bin rfl trivial rfl rfl (fun _ => run_ge) ?_
  refine .fin ?_
  refine WP.cond rfl (fun c391 => ?_) (fun c391 => ?_)
  · replace H := Gets.ct H c391
    refine WP.seq ?_
    refine WP.dreg Try.checked.mixed [(0, false), (1, false), (2, false), (3, false), (4, false), (5, false), (6, false), (7, false), (8, false), (9, false), (10, false), (11, false)] (by kernel_rfl) ?_
    refine Dv.mv rfl trivial rfl ?_
    refine Dv.mv rfl trivial rfl ?_
    obtain ⟨g392, H⟩ := Gets.grd H
    refine Dv.sss rfl trivial rfl Try.underlying9 bdE_none (bdE_some rfl g392.1) g392.2.1 g392.2.2 ?_
    refine Dv.mv rfl trivial rfl ?_
    refine Dv.mv rfl trivial rfl ?_
    refine Dv.mv rfl trivial rfl ?_
    refine Dv.lens rfl trivial rfl Try.underlying9 ?_
    refine Dv.bin rfl trivial rfl rfl (fun _ => run_add) ?_
    obtain ⟨g393, H⟩ := Gets.grd H
    refine Dv.sss rfl trivial rfl Try.underlying9 (bdE_some rfl g393.1) bdE_none g393.2.1 g393.2.2 ?_
    refine Dv.asg rfl trivial rfl ?_
    refine Dv.asg rfl trivial rfl ?_
    refine Dv.asg rfl trivial rfl ?_
    refine .fin ?_
    obtain rfl := Gets.out H
    exact WP.retL (fun _ _ h => h) rfl () trivial (.cons (res_tmp rfl) (.cons (res_tmp rfl) (.cons (res_tmp rfl) .nil))) rfl (st_sel (L := []) (F := F) [] 0 rfl rfl rfl)
  · replace H := Gets.cf H c391
    refine WP.skip ?_
    refine WP.seq ?_
    refine WP.reg [(0, false), (1, false), (2, false), (3, false)] (by kernel_rfl) ?_
    refine Dv.mv rfl trivial rfl ?_
    refine Dv.asg rfl trivial rfl ?_
    refine Dv.asg rfl trivial rfl ?_
    refine Dv.asg rfl trivial rfl ?_
    refine .fin ?_
    obtain rfl := Gets.out H
    exact WP.retL (fun _ _ h => h) rfl () trivial (.cons (res_tmp rfl) (.cons (res_tmp rfl) (.cons (res_tmp rfl) .nil))) rfl (st_sel (L := []) (F := F) [] 0 rfl rfl rfl)
theorem strings_Cut.c {a0 : ByteArray} {a1 : ByteArray} {r : ByteArray × ByteArray × Bool} (h : strings_Cut.f a0 a1 = some r) : Pt Try.prog 51 [eq (.string a0), eq (.string a1)] (tup [eq (.string r.1), eq (.string r.2.1), eq (.bool r.2.2)]) := by
  unfold strings_Cut.f at h
  refine (Tr.body Try.func51 (c := _) rfl Try.ntmps51 (Nat.le_of_ble_eq_true rfl) fun R0 F => ?_).pt
  replace h := Gets.of h
  have H := h
  clear h
  refine WP.seq ?_
  refine WP.reg [(0, false), (1, false), (2, false)] (by kernel_rfl) ?_
  refine Dv.asg rfl trivial rfl ?_
  refine Dv.asg rfl trivial rfl ?_
  refine Dv.asg rfl trivial rfl ?_
  refine .fin ?_
  refine WP.seq ?_
  refine WP.reg [(0, false), (1, false), (2, false), (3, false), (4, false), (5, false), (6, false), (7, false), (8, false)] (by kernel_rfl) ?_
  refine Dv.mv rfl trivial rfl ?_
  refine Dv.mv rfl trivial rfl ?_
  obtain ⟨t394, h395, H⟩ := Gets.call H
  refine Dv.call rfl trivial cal57 rfl (stringslite_Cut.c h395) ?_
  refine Dv.ext rfl trivial rfl rfl ?_
  refine Dv.ext rfl trivial rfl rfl ?_
  refine Dv.ext rfl trivial rfl rfl ?_
  refine Dv.asg rfl trivial rfl ?_
  refine Dv.asg rfl trivial rfl ?_
  refine Dv.asg rfl trivial rfl ?_
  refine .fin ?_
  obtain rfl := Gets.out H
  exact WP.retL (fun _ _ h => h) rfl () trivial (.cons (res_tmp rfl) (.cons (res_tmp rfl) (.cons (res_tmp rfl) .nil))) rfl (st_sel (L := []) (F := F) [] 0 rfl rfl rfl)
theorem name_Server.c {k : Nat} {a0 : ByteArray} {r : Bool} (h : name_Server.f k a0 = some r) : Pt Try.prog 52 [eq (.string a0)] (eq (.bool r)) := by
  unfold name_Server.f at h
  refine (Tr.body Try.func52 (c := _) rfl Try.ntmps52 (Nat.le_of_ble_eq_true rfl) fun R0 F => ?_).pt
  replace h := Gets.of h
  have H := h
  clear h
  refine WP.seq ?_
  refine WP.reg [(0, false)] (by kernel_rfl) ?_
  refine Dv.asg rfl trivial rfl ?_
  refine .fin ?_
  refine WP.seq ?_
  refine WP.reg [(0, false), (1, false), (2, false), (3, false), (4, false), (5, false), (6, false), (7, false), (8, false), (9, false), (10, false), (11, false), (12, false), (13, false), (14, false), (15, false)] (by kernel_rfl) ?_
  refine Dv.mv rfl trivial rfl ?_
  obtain ⟨t396, h397, H⟩ := Gets.call H
  refine Dv.call rfl trivial cal43 rfl (name_may.c h397) ?_
  refine Dv.mv rfl trivial rfl ?_
  cases c398 : t396
  · replace H := Gets.cf H c398
    refine Dv.skip rfl ⟨_, _, rfl, rfl, .inl rfl⟩ ?_
    refine Dv.skip rfl ⟨_, _, rfl, rfl, .inl rfl⟩ ?_
    refine Dv.skip rfl ⟨_, _, rfl, rfl, .inl rfl⟩ ?_
    refine Dv.pickF rfl trivial rfl rfl ?_
    refine Dv.mv rfl trivial rfl ?_
    refine Dv.skip rfl ⟨_, _, rfl, rfl, .inl rfl⟩ ?_
    refine Dv.skip rfl ⟨_, _, rfl, rfl, .inl rfl⟩ ?_
    refine Dv.skip rfl ⟨_, _, rfl, rfl, .inl rfl⟩ ?_
    refine Dv.skip rfl ⟨_, _, rfl, rfl, .inl rfl⟩ ?_
    refine Dv.skip rfl ⟨_, _, rfl, rfl, .inl rfl⟩ ?_
    refine Dv.skip rfl ⟨_, _, rfl, rfl, .inl rfl⟩ ?_
    refine Dv.pickF rfl trivial rfl rfl ?_
    refine Dv.asg rfl trivial rfl ?_
    refine .fin ?_
    obtain rfl := Gets.out H
    exact WP.retL (fun _ _ h => h) rfl () trivial (.cons (res_tmp rfl) .nil) rfl (st_sel (L := []) (F := F) [] 0 rfl rfl rfl)
  · replace H := Gets.ct H c398
    refine Dv.mv rfl ⟨_, _, rfl, rfl, rfl⟩ rfl ?_
    obtain ⟨g399, H⟩ := Gets.grd H
    refine Dv.ixs rfl ⟨_, _, rfl, rfl, rfl⟩ rfl rfl Try.underlying9 g399.1 g399.2 ?_
    obtain ⟨t400, h401, H⟩ := Gets.call H
    refine Dv.call rfl ⟨_, _, rfl, rfl, rfl⟩ cal55 rfl (name_small.c h401) ?_
    refine Dv.pickT rfl trivial rfl rfl ?_
    refine Dv.mv rfl trivial rfl ?_
    cases c402 : t400
    · replace H := Gets.cf H c402
      refine Dv.skip rfl ⟨_, _, rfl, rfl, .inl rfl⟩ ?_
      refine Dv.skip rfl ⟨_, _, rfl, rfl, .inl rfl⟩ ?_
      refine Dv.skip rfl ⟨_, _, rfl, rfl, .inl rfl⟩ ?_
      refine Dv.skip rfl ⟨_, _, rfl, rfl, .inl rfl⟩ ?_
      refine Dv.skip rfl ⟨_, _, rfl, rfl, .inl rfl⟩ ?_
      refine Dv.skip rfl ⟨_, _, rfl, rfl, .inl rfl⟩ ?_
      refine Dv.pickF rfl trivial rfl rfl ?_
      refine Dv.asg rfl trivial rfl ?_
      refine .fin ?_
      obtain rfl := Gets.out H
      exact WP.retL (fun _ _ h => h) rfl () trivial (.cons (res_tmp rfl) .nil) rfl (st_sel (L := []) (F := F) [] 0 rfl rfl rfl)
    · replace H := Gets.ct H c402
      refine Dv.mv rfl ⟨_, _, rfl, rfl, rfl⟩ rfl ?_
      refine Dv.mv rfl ⟨_, _, rfl, rfl, rfl⟩ rfl ?_
      refine Dv.lens rfl ⟨_, _, rfl, rfl, rfl⟩ rfl Try.underlying9 ?_
      refine Dv.bin rfl ⟨_, _, rfl, rfl, rfl⟩ rfl rfl (fun _ => run_sub) ?_
      obtain ⟨g403, H⟩ := Gets.grd H
      refine Dv.ixs rfl ⟨_, _, rfl, rfl, rfl⟩ rfl rfl Try.underlying9 g403.1 g403.2 ?_
      obtain ⟨t404, h405, H⟩ := Gets.call H
      refine Dv.call rfl ⟨_, _, rfl, rfl, rfl⟩ cal55 rfl (name_small.c h405) ?_
      refine Dv.pickT rfl trivial rfl rfl ?_
      refine Dv.asg rfl trivial rfl ?_
      refine .fin ?_
      obtain rfl := Gets.out H
      exact WP.retL (fun _ _ h => h) rfl () trivial (.cons (res_tmp rfl) .nil) rfl (st_sel (L := []) (F := F) [] 0 rfl rfl rfl)
end Go.Proofs.Ytigmkniiojpdiaa
