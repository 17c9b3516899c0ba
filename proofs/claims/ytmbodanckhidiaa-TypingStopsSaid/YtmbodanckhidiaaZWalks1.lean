/- The walks. -/
import Derived.Test.YtmbodanckhidiaaZMir
import Derived.Test.YtmbodanckhidiaaConU
import Derived.Eval
set_option linter.all false
set_option maxRecDepth 10000
set_option maxHeartbeats 20000000
namespace Go.Proofs.Ytmbodanckhidiaa
open Go Go.Sp
theorem heap_New.c {r : HHeap} (h : heap_New.f = some r) : Tr Try.prog 25 [] [] (γ := OV) (fun _ => True) (fun g => eq g.1) (fun g => [HHeap.O g r]) := by
  unfold heap_New.f at h
  refine Tr.body Try.func25 (c := _) rfl Try.ntmps25 (Nat.le_of_ble_eq_true rfl) fun R0 F => ?_
  replace h := Gets.of h
  have H := h
  clear h
  refine WP.seq ?_
  refine WP.reg [(0, false)] (by kernel_rfl) ?_
  refine Dv.asg rfl trivial rfl ?_
  refine .fin ?_
  refine WP.seq ?_
  refine WP.reg [(0, true), (1, false), (2, true), (3, false)] (by kernel_rfl) ?_
  refine Dv.mmk Value.string (fun x : Int => eq (.int .i64 x)) rfl trivial nofun (fun v1 => ?_)
  refine Dv.bld (qs := [eq (.slice none 0 0), eq v1.1]) (css := [[eq v1.1]]) rfl trivial Try.underlying77 pl77 z77 rfl ⟨(cells_one one_ov), trivial⟩ rfl rfl ?_
  refine Dv.box (qs := [eq (.slice none 0 0), eq v1.1]) rfl trivial rfl (cells_agg (ones_cons (one_eq rfl) (ones_cons one_ov ones_nil))) nofun (fun b2 => ?_)
  refine Dv.asg rfl trivial rfl ?_
  refine .fin ?_
  refine WP.gh (l' := fun _ : Unit => [own HEnt.K nilV.1 ([] : List HEnt), blk b2 77 [eq nilV.1, eq v1.1], mp Value.string (fun x : Int => eq (.int .i64 x)) v1.1 ([] : List (ByteArray × Int))] ++ F) (gh_of (st_nil HEnt.K none)) (fun _ _ => ?_)
  refine WP.gh (l' := fun _ : Unit => [HHeap.O (⟨.pointer (some ⟨b2, 0, none⟩), rfl⟩ : OV) (⟨([] : List HEnt), ([] : List (ByteArray × Int))⟩ : HHeap)] ++ F) (gh_of (HHeap.shut (p := (⟨.pointer (some ⟨b2, 0, none⟩), rfl⟩ : OV)) (m := (⟨([] : List HEnt), ([] : List (ByteArray × Int))⟩ : HHeap)) (r := [] ++ F) (b2, nilV, v1) rfl (perm_to (L := [own HEnt.K nilV.1 ([] : List HEnt), blk b2 77 [eq nilV.1, eq v1.1], mp Value.string (fun x : Int => eq (.int .i64 x)) v1.1 ([] : List (ByteArray × Int))]) (F := F) [1, 0, 2] rfl rfl rfl))) (fun _ _ => ?_)
  obtain rfl := Gets.out H
  exact WP.retL (fun _ _ h => h) rfl (⟨.pointer (some ⟨b2, 0, none⟩), rfl⟩ : OV) trivial (.cons (res_tmp rfl) .nil) rfl (st_sel (L := [HHeap.O (⟨.pointer (some ⟨b2, 0, none⟩), rfl⟩ : OV) (⟨([] : List HEnt), ([] : List (ByteArray × Int))⟩ : HHeap)]) (F := F) [0] 0 rfl rfl rfl)
theorem typing_New.c {r : TTab} (h : typing_New.f = some r) : Tr Try.prog 7 [] [] (γ := OV) (fun _ => True) (fun g => eq g.1) (fun g => [TTab.O g r]) := by
  unfold typing_New.f at h
  refine Tr.body Try.func7 (c := _) rfl Try.ntmps7 (Nat.le_of_ble_eq_true rfl) fun R0 F => ?_
  replace h := Gets.of h
  have H := h
  clear h
  refine WP.seq ?_
  refine WP.reg [(0, false)] (by kernel_rfl) ?_
  refine Dv.asg rfl trivial rfl ?_
  refine .fin ?_
  refine WP.seq ?_
  refine WP.reg [(0, true), (1, false), (2, true), (3, false)] (by kernel_rfl) ?_
  obtain ⟨t3, h4, H⟩ := Gets.call H
  refine Dv.callx (pre := []) (F := [] ++ F) (fun g5 : OV => [HHeap.O g5 t3] ++ F) rfl trivial cal25 rfl (heap_New.c h4) (perm_to (L := []) (F := F) [] rfl rfl rfl) rfl nofun (fun g5 _ => ?_)
  refine Dv.bld (qs := [eq (.slice none 0 0), eq g5.1]) (css := [[eq g5.1]]) rfl trivial Try.underlying59 pl59 z59 rfl ⟨(cells_one one_ov), trivial⟩ rfl rfl ?_
  refine Dv.box (qs := [eq (.slice none 0 0), eq g5.1]) rfl trivial rfl (cells_agg (ones_cons (one_eq rfl) (ones_cons one_ov ones_nil))) nofun (fun b6 => ?_)
  refine Dv.asg rfl trivial rfl ?_
  refine .fin ?_
  refine WP.gh (l' := fun _ : Unit => [own Edu.K nilV.1 ([] : List Edu), blk b6 59 [eq nilV.1, eq g5.1], HHeap.O g5 t3] ++ F) (gh_of (st_nil Edu.K none)) (fun _ _ => ?_)
  refine WP.gh (l' := fun _ : Unit => [TTab.O (⟨.pointer (some ⟨b6, 0, none⟩), rfl⟩ : OV) (⟨([] : List Edu), t3⟩ : TTab)] ++ F) (gh_of (TTab.shut (p := (⟨.pointer (some ⟨b6, 0, none⟩), rfl⟩ : OV)) (m := (⟨([] : List Edu), t3⟩ : TTab)) (r := [] ++ F) (b6, nilV, g5) rfl (perm_to (L := [own Edu.K nilV.1 ([] : List Edu), blk b6 59 [eq nilV.1, eq g5.1], HHeap.O g5 t3]) (F := F) [1, 0, 2] rfl rfl rfl))) (fun _ _ => ?_)
  obtain rfl := Gets.out H
  exact WP.retL (fun _ _ h => h) rfl (⟨.pointer (some ⟨b6, 0, none⟩), rfl⟩ : OV) trivial (.cons (res_tmp rfl) .nil) rfl (st_sel (L := [TTab.O (⟨.pointer (some ⟨b6, 0, none⟩), rfl⟩ : OV) (⟨([] : List Edu), t3⟩ : TTab)]) (F := F) [0] 0 rfl rfl rfl)
theorem concourseref02_Number.c : ∀ (k : Nat) {a0 : Int} {r : (List Int)} (h : concourseref02_Number.f k a0 = some r), Tr Try.prog 54 [eq (.int .i64 a0)] [] (γ := OV) (fun _ => True) (fun g => eq g.1) (fun g => [own (intK .u8) g.1 r])
  | 0, _, _, h => by cases h
  | k + 1, a0, r, h => by
    rw [concourseref02_Number.f] at h
    refine Tr.body Try.func54 (c := _) rfl Try.ntmps54 (Nat.le_of_ble_eq_true rfl) fun R0 F => ?_
    replace h := Gets.of h
    have H := h
    clear h
    refine WP.seq ?_
    refine WP.reg [(0, false)] (by kernel_rfl) ?_
    refine Dv.asg rfl trivial rfl ?_
    refine .fin ?_
    refine WP.seqn H id (fun p7 : Int => [(0, eq (.int .i64 p7)), (2, eq (.slice none 0 0)), (5, eq (.bool (decide (a0 < 0))))]) (fun p7 : Int => [] ++ F) (fun p7 H => ?_) (fun H => ?_)
    · refine WP.seq ?_
      refine WP.seq ?_
      refine WP.reg [(0, false), (1, false)] (by kernel_rfl) ?_
      refine Dv.mv rfl trivial rfl ?_
      refine Dv.bin rfl trivial rfl rfl (fun _ => run_lt) ?_
      refine .fin ?_
      refine WP.cond rfl (fun c8 => ?_) (fun c8 => ?_)
      · replace H := Gets.ct H c8
        refine WP.seq ?_
        refine WP.reg [(0, false), (1, false), (2, true), (3, false)] (by kernel_rfl) ?_
        refine Dv.mv rfl trivial rfl ?_
        refine Dv.cvi rfl trivial rfl Try.underlying3 Try.underlying5 ?_
        refine Dv.lito (intK .u8) ([IntKind.u8.wrap (p7)] : List Int) (css := [[eq (.int .u8 (IntKind.u8.wrap (p7)))]]) rfl trivial Try.underlying68 Try.underlying5 c5 z5 rfl (by decide) (by decide) rfl ⟨(cells_one (one_eq rfl)), trivial⟩ rfl rfl rfl nofun (fun v9 => ?_)
        refine Dv.asg rfl trivial rfl ?_
        refine .fin ?_
        obtain rfl := Gets.out H
        exact WP.retL (fun _ _ h => h) rfl v9 trivial (.cons (res_tmp rfl) .nil) rfl (st_sel (L := [own (intK .u8) v9.1 ([IntKind.u8.wrap (p7)] : List Int)]) (F := F) [0] 0 rfl rfl rfl)
      · replace H := Gets.cf H c8
        refine WP.skip ?_
        refine WP.seq ?_
        refine WP.reg [(0, false), (1, false), (2, false), (3, false), (4, true), (5, false)] (by kernel_rfl) ?_
        refine Dv.mv rfl trivial rfl ?_
        refine Dv.bin rfl trivial rfl rfl (fun _ => run_rem (by decide)) ?_
        refine Dv.bin rfl trivial rfl rfl (fun _ => run_add) ?_
        refine Dv.cvi rfl trivial rfl Try.underlying3 Try.underlying5 ?_
        refine Dv.lito (intK .u8) ([IntKind.u8.wrap (w64 (128 + (p7.tmod 128)))] : List Int) (css := [[eq (.int .u8 (IntKind.u8.wrap (w64 (128 + (p7.tmod 128)))))]]) rfl trivial Try.underlying68 Try.underlying5 c5 z5 rfl (by decide) (by decide) rfl ⟨(cells_one (one_eq rfl)), trivial⟩ rfl rfl rfl nofun (fun v10 => ?_)
        refine Dv.asg rfl trivial rfl ?_
        refine .fin ?_
        refine WP.seq ?_
        refine WP.reg [(0, false), (1, false), (2, false), (3, true), (4, true), (5, false)] (by kernel_rfl) ?_
        refine Dv.mv rfl trivial rfl ?_
        refine Dv.mv rfl trivial rfl ?_
        refine Dv.bin rfl trivial rfl rfl (fun _ => run_quo (by decide)) ?_
        obtain ⟨t11, h12, H⟩ := Gets.call H
        refine Dv.callx (pre := []) (F := [own (intK .u8) v10.1 ([IntKind.u8.wrap (w64 (128 + (p7.tmod 128)))] : List Int)] ++ F) (fun g13 : OV => [own (intK .u8) g13.1 t11, own (intK .u8) v10.1 ([IntKind.u8.wrap (w64 (128 + (p7.tmod 128)))] : List Int)] ++ F) rfl trivial cal54 rfl (concourseref02_Number.c k h12) (perm_to (L := [own (intK .u8) v10.1 ([IntKind.u8.wrap (w64 (128 + (p7.tmod 128)))] : List Int)]) (F := F) [0] rfl rfl rfl) rfl nofun (fun g13 _ => ?_)
        obtain ⟨g14, H⟩ := Gets.grd H
        refine Dv.appx (jj := 1) (ys := t11) (fun v15 : OV => [own (intK .u8) g13.1 t11, own (intK .u8) v15.1 (([IntKind.u8.wrap (w64 (128 + (p7.tmod 128)))] : List Int) ++ t11)] ++ F) rfl trivial rfl rfl rfl (src_own (mem_at 0 rfl)) Try.underlying68 (.inr ⟨_, Try.underlying68⟩) inf5 rfl (by decide) g14 rfl nofun (fun v15 => ?_)
        refine Dv.asg rfl trivial rfl ?_
        refine .fin ?_
        obtain rfl := Gets.out H
        exact WP.retL (fun _ _ h => h) rfl v15 trivial (.cons (res_tmp rfl) .nil) rfl (st_sel (L := [own (intK .u8) g13.1 t11, own (intK .u8) v15.1 (([IntKind.u8.wrap (w64 (128 + (p7.tmod 128)))] : List Int) ++ t11)]) (F := F) [0, 1] 1 rfl rfl rfl)
    · refine WP.seq ?_
      refine WP.reg [(0, false), (1, false)] (by kernel_rfl) ?_
      refine Dv.mv rfl trivial rfl ?_
      refine Dv.bin rfl trivial rfl rfl (fun _ => run_lt) ?_
      refine .fin ?_
      refine WP.cond rfl (fun c16 => ?_) (fun c16 => ?_)
      · replace H := Gets.ct H c16
        refine WP.reg [(0, false)] (by kernel_rfl) ?_
        refine Dv.asg rfl trivial rfl ?_
        refine .fin ?_
        replace H := Gets.out H
        exact Jn.mk 0 H (weak_cons rfl (weak_cons rfl (weak_cons rfl weak_nil))) (List.Perm.refl _)
      · replace H := Gets.cf H c16
        refine WP.skip ?_
        replace H := Gets.out H
        exact Jn.mk a0 H (weak_cons rfl (weak_cons rfl (weak_cons rfl weak_nil))) (List.Perm.refl _)
theorem concourseref02_Text.c {k : Nat} {a0 : ByteArray} {r : (List Int)} (h : concourseref02_Text.f k a0 = some r) : Tr Try.prog 55 [eq (.string a0)] [] (γ := OV) (fun _ => True) (fun g => eq g.1) (fun g => [own (intK .u8) g.1 r]) := by
  unfold concourseref02_Text.f at h
  refine Tr.body Try.func55 (c := _) rfl Try.ntmps55 (Nat.le_of_ble_eq_true rfl) fun R0 F => ?_
  replace h := Gets.of h
  have H := h
  clear h
  refine WP.seq ?_
  refine WP.reg [(0, false)] (by kernel_rfl) ?_
  refine Dv.asg rfl trivial rfl ?_
  refine .fin ?_
  refine WP.seq ?_
  refine WP.reg [(0, false), (1, false), (2, true), (3, false), (4, true), (5, false)] (by kernel_rfl) ?_
  refine Dv.mv rfl trivial rfl ?_
  refine Dv.lens rfl trivial rfl Try.underlying9 ?_
  obtain ⟨t17, h18, H⟩ := Gets.call H
  refine Dv.callx (pre := []) (F := [] ++ F) (fun g19 : OV => [own (intK .u8) g19.1 t17] ++ F) rfl trivial cal54 rfl (concourseref02_Number.c _ h18) (perm_to (L := []) (F := F) [] rfl rfl rfl) rfl nofun (fun g19 _ => ?_)
  refine Dv.mv rfl trivial rfl ?_
  obtain ⟨g20, H⟩ := Gets.grd H
  refine Dv.appx (jj := 0) (ys := strBs a0) (fun v21 : OV => [own (intK .u8) v21.1 (t17 ++ (strBs a0))] ++ F) rfl trivial rfl rfl rfl src_str Try.underlying68 (.inl Try.underlying9) inf5 rfl (by decide) g20 rfl nofun (fun v21 => ?_)
  refine Dv.asg rfl trivial rfl ?_
  refine .fin ?_
  obtain rfl := Gets.out H
  exact WP.retL (fun _ _ h => h) rfl v21 trivial (.cons (res_tmp rfl) .nil) rfl (st_sel (L := [own (intK .u8) v21.1 (t17 ++ (strBs a0))]) (F := F) [0] 0 rfl rfl rfl)
theorem concourseref02_Flag.c {a0 : Bool} {r : (List Int)} (h : concourseref02_Flag.f a0 = some r) : Pt Try.prog 56 [eq (.bool a0)] (sl (intK .u8) r) := by
  unfold concourseref02_Flag.f at h
  refine (Tr.body Try.func56 (c := _) rfl Try.ntmps56 (Nat.le_of_ble_eq_true rfl) fun R0 F => ?_).pt
  replace h := Gets.of h
  have H := h
  clear h
  refine WP.seq ?_
  refine WP.reg [(0, false)] (by kernel_rfl) ?_
  refine Dv.asg rfl trivial rfl ?_
  refine .fin ?_
  refine WP.seq ?_
  refine WP.seq ?_
  refine WP.reg [(0, false)] (by kernel_rfl) ?_
  refine Dv.mv rfl trivial rfl ?_
  refine .fin ?_
  refine WP.cond rfl (fun c22 => ?_) (fun c22 => ?_)
  · replace H := Gets.ct H c22
    refine WP.seq ?_
    refine WP.reg [(0, false), (1, false)] (by kernel_rfl) ?_
    refine Dv.lit (intK .u8) ([1] : List Int) (css := [[eq (.int .u8 1)]]) rfl trivial Try.underlying68 Try.underlying5 c5 z5 rfl (by decide) (by decide) rfl ⟨(cells_one (one_eq rfl)), trivial⟩ rfl rfl rfl ?_
    refine Dv.asg rfl trivial rfl ?_
    refine .fin ?_
    obtain rfl := Gets.out H
    exact WP.retL (fun _ _ h => h) rfl () trivial (.cons (res_tmp rfl) .nil) rfl (st_sel (L := []) (F := F) [] 0 rfl rfl rfl)
  · replace H := Gets.cf H c22
    refine WP.skip ?_
    refine WP.seq ?_
    refine WP.reg [(0, false), (1, false)] (by kernel_rfl) ?_
    refine Dv.lit (intK .u8) ([0] : List Int) (css := [[eq (.int .u8 0)]]) rfl trivial Try.underlying68 Try.underlying5 c5 z5 rfl (by decide) (by decide) rfl ⟨(cells_one (one_eq rfl)), trivial⟩ rfl rfl rfl ?_
    refine Dv.asg rfl trivial rfl ?_
    refine .fin ?_
    obtain rfl := Gets.out H
    exact WP.retL (fun _ _ h => h) rfl () trivial (.cons (res_tmp rfl) .nil) rfl (st_sel (L := []) (F := F) [] 0 rfl rfl rfl)
theorem concourseref03_Bytes.c {k : Nat} {a0 : Edu} {r : (List Int)} (h : concourseref03_Bytes.f k a0 = some r) : Tr Try.prog 37 [agg (Edu.enc a0)] [] (γ := OV) (fun _ => True) (fun g => eq g.1) (fun g => [own (intK .u8) g.1 r]) := by
  unfold concourseref03_Bytes.f at h
  refine Tr.body Try.func37 (c := _) rfl Try.ntmps37 (Nat.le_of_ble_eq_true rfl) fun R0 F => ?_
  replace h := Gets.of h
  have H := h
  clear h
  refine WP.seq ?_
  refine WP.reg [(0, true), (1, false)] (by kernel_rfl) ?_
  refine Dv.box rfl trivial rfl (cells_agg (Edu.K.one _)) nofun (fun b23 => ?_)
  refine Dv.asg rfl trivial rfl ?_
  refine .fin ?_
  refine WP.seq ?_
  refine WP.reg [(0, false), (1, false), (2, true), (3, false)] (by kernel_rfl) ?_
  refine Dv.fab rfl trivial rfl Try.underlying32 rfl Try.underlying3 c3 (by decide) ?_
  refine Dv.ldb rfl trivial rfl Try.underlying3 rfl (mem_at 0 rfl) rfl ?_
  obtain ⟨t24, h25, H⟩ := Gets.call H
  refine Dv.callx (pre := []) (F := [blk b23 32 [eq (.int .i64 a0.fKind), eq (.string a0.fRoom), eq (.string a0.fUser), eq (.string a0.fEvent), eq (.string a0.fThread), eq (.bool a0.fPrivate), eq (.bool a0.fOn), eq (.int .i64 a0.fSpan), eq (.int .i64 a0.fState), eq (.int .i64 a0.fTick), eq (.int .i64 a0.fStamp)]] ++ F) (fun g26 : OV => [own (intK .u8) g26.1 t24, blk b23 32 [eq (.int .i64 a0.fKind), eq (.string a0.fRoom), eq (.string a0.fUser), eq (.string a0.fEvent), eq (.string a0.fThread), eq (.bool a0.fPrivate), eq (.bool a0.fOn), eq (.int .i64 a0.fSpan), eq (.int .i64 a0.fState), eq (.int .i64 a0.fTick), eq (.int .i64 a0.fStamp)]] ++ F) rfl trivial cal54 rfl (concourseref02_Number.c _ h25) (perm_to (L := [blk b23 32 [eq (.int .i64 a0.fKind), eq (.string a0.fRoom), eq (.string a0.fUser), eq (.string a0.fEvent), eq (.string a0.fThread), eq (.bool a0.fPrivate), eq (.bool a0.fOn), eq (.int .i64 a0.fSpan), eq (.int .i64 a0.fState), eq (.int .i64 a0.fTick), eq (.int .i64 a0.fStamp)]]) (F := F) [0] rfl rfl rfl) rfl nofun (fun g26 _ => ?_)
  refine Dv.asg rfl trivial rfl ?_
  refine .fin ?_
  refine WP.seq ?_
  refine WP.reg [(0, false), (1, false), (2, false), (3, true), (4, true), (5, false)] (by kernel_rfl) ?_
  refine Dv.mv rfl trivial rfl ?_
  refine Dv.fab rfl trivial rfl Try.underlying32 rfl Try.underlying9 c9 (by decide) ?_
  refine Dv.ldb rfl trivial rfl Try.underlying9 rfl (mem_at 1 rfl) rfl ?_
  obtain ⟨t27, h28, H⟩ := Gets.call H
  refine Dv.callx (pre := []) (F := [own (intK .u8) g26.1 t24, blk b23 32 [eq (.int .i64 a0.fKind), eq (.string a0.fRoom), eq (.string a0.fUser), eq (.string a0.fEvent), eq (.string a0.fThread), eq (.bool a0.fPrivate), eq (.bool a0.fOn), eq (.int .i64 a0.fSpan), eq (.int .i64 a0.fState), eq (.int .i64 a0.fTick), eq (.int .i64 a0.fStamp)]] ++ F) (fun g29 : OV => [own (intK .u8) g29.1 t27, own (intK .u8) g26.1 t24, blk b23 32 [eq (.int .i64 a0.fKind), eq (.string a0.fRoom), eq (.string a0.fUser), eq (.string a0.fEvent), eq (.string a0.fThread), eq (.bool a0.fPrivate), eq (.bool a0.fOn), eq (.int .i64 a0.fSpan), eq (.int .i64 a0.fState), eq (.int .i64 a0.fTick), eq (.int .i64 a0.fStamp)]] ++ F) rfl trivial cal55 rfl (concourseref02_Text.c h28) (perm_to (L := [own (intK .u8) g26.1 t24, blk b23 32 [eq (.int .i64 a0.fKind), eq (.string a0.fRoom), eq (.string a0.fUser), eq (.string a0.fEvent), eq (.string a0.fThread), eq (.bool a0.fPrivate), eq (.bool a0.fOn), eq (.int .i64 a0.fSpan), eq (.int .i64 a0.fState), eq (.int .i64 a0.fTick), eq (.int .i64 a0.fStamp)]]) (F := F) [0, 1] rfl rfl rfl) rfl nofun (fun g29 _ => ?_)
  obtain ⟨g30, H⟩ := Gets.grd H
  refine Dv.appx (jj := 1) (ys := t27) (fun v31 : OV => [own (intK .u8) g29.1 t27, own (intK .u8) v31.1 (t24 ++ t27), blk b23 32 [eq (.int .i64 a0.fKind), eq (.string a0.fRoom), eq (.string a0.fUser), eq (.string a0.fEvent), eq (.string a0.fThread), eq (.bool a0.fPrivate), eq (.bool a0.fOn), eq (.int .i64 a0.fSpan), eq (.int .i64 a0.fState), eq (.int .i64 a0.fTick), eq (.int .i64 a0.fStamp)]] ++ F) rfl trivial rfl rfl rfl (src_own (mem_at 0 rfl)) Try.underlying68 (.inr ⟨_, Try.underlying68⟩) inf5 rfl (by decide) g30 rfl nofun (fun v31 => ?_)
  refine Dv.asg rfl trivial rfl ?_
  refine .fin ?_
  refine WP.seq ?_
  refine WP.reg [(0, false), (1, false), (2, false), (3, true), (4, true), (5, false)] (by kernel_rfl) ?_
  refine Dv.mv rfl trivial rfl ?_
  refine Dv.fab rfl trivial rfl Try.underlying32 rfl Try.underlying9 c9 (by decide) ?_
  refine Dv.ldb rfl trivial rfl Try.underlying9 rfl (mem_at 2 rfl) rfl ?_
  obtain ⟨t32, h33, H⟩ := Gets.call H
  refine Dv.callx (pre := []) (F := [own (intK .u8) g29.1 t27, own (intK .u8) v31.1 (t24 ++ t27), blk b23 32 [eq (.int .i64 a0.fKind), eq (.string a0.fRoom), eq (.string a0.fUser), eq (.string a0.fEvent), eq (.string a0.fThread), eq (.bool a0.fPrivate), eq (.bool a0.fOn), eq (.int .i64 a0.fSpan), eq (.int .i64 a0.fState), eq (.int .i64 a0.fTick), eq (.int .i64 a0.fStamp)]] ++ F) (fun g34 : OV => [own (intK .u8) g34.1 t32, own (intK .u8) g29.1 t27, own (intK .u8) v31.1 (t24 ++ t27), blk b23 32 [eq (.int .i64 a0.fKind), eq (.string a0.fRoom), eq (.string a0.fUser), eq (.string a0.fEvent), eq (.string a0.fThread), eq (.bool a0.fPrivate), eq (.bool a0.fOn), eq (.int .i64 a0.fSpan), eq (.int .i64 a0.fState), eq (.int .i64 a0.fTick), eq (.int .i64 a0.fStamp)]] ++ F) rfl trivial cal55 rfl (concourseref02_Text.c h33) (perm_to (L := [own (intK .u8) g29.1 t27, own (intK .u8) v31.1 (t24 ++ t27), blk b23 32 [eq (.int .i64 a0.fKind), eq (.string a0.fRoom), eq (.string a0.fUser), eq (.string a0.fEvent), eq (.string a0.fThread), eq (.bool a0.fPrivate), eq (.bool a0.fOn), eq (.int .i64 a0.fSpan), eq (.int .i64 a0.fState), eq (.int .i64 a0.fTick), eq (.int .i64 a0.fStamp)]]) (F := F) [0, 1, 2] rfl rfl rfl) rfl nofun (fun g34 _ => ?_)
  obtain ⟨g35, H⟩ := Gets.grd H
  refine Dv.appx (jj := 2) (ys := t32) (fun v36 : OV => [own (intK .u8) g34.1 t32, own (intK .u8) g29.1 t27, own (intK .u8) v36.1 ((t24 ++ t27) ++ t32), blk b23 32 [eq (.int .i64 a0.fKind), eq (.string a0.fRoom), eq (.string a0.fUser), eq (.string a0.fEvent), eq (.string a0.fThread), eq (.bool a0.fPrivate), eq (.bool a0.fOn), eq (.int .i64 a0.fSpan), eq (.int .i64 a0.fState), eq (.int .i64 a0.fTick), eq (.int .i64 a0.fStamp)]] ++ F) rfl trivial rfl rfl rfl (src_own (mem_at 0 rfl)) Try.underlying68 (.inr ⟨_, Try.underlying68⟩) inf5 rfl (by decide) g35 rfl nofun (fun v36 => ?_)
  refine Dv.asg rfl trivial rfl ?_
  refine .fin ?_
  refine WP.seq ?_
  refine WP.reg [(0, false), (1, false), (2, false), (3, true), (4, true), (5, false)] (by kernel_rfl) ?_
  refine Dv.mv rfl trivial rfl ?_
  refine Dv.fab rfl trivial rfl Try.underlying32 rfl Try.underlying9 c9 (by decide) ?_
  refine Dv.ldb rfl trivial rfl Try.underlying9 rfl (mem_at 3 rfl) rfl ?_
  obtain ⟨t37, h38, H⟩ := Gets.call H
  refine Dv.callx (pre := []) (F := [own (intK .u8) g34.1 t32, own (intK .u8) g29.1 t27, own (intK .u8) v36.1 ((t24 ++ t27) ++ t32), blk b23 32 [eq (.int .i64 a0.fKind), eq (.string a0.fRoom), eq (.string a0.fUser), eq (.string a0.fEvent), eq (.string a0.fThread), eq (.bool a0.fPrivate), eq (.bool a0.fOn), eq (.int .i64 a0.fSpan), eq (.int .i64 a0.fState), eq (.int .i64 a0.fTick), eq (.int .i64 a0.fStamp)]] ++ F) (fun g39 : OV => [own (intK .u8) g39.1 t37, own (intK .u8) g34.1 t32, own (intK .u8) g29.1 t27, own (intK .u8) v36.1 ((t24 ++ t27) ++ t32), blk b23 32 [eq (.int .i64 a0.fKind), eq (.string a0.fRoom), eq (.string a0.fUser), eq (.string a0.fEvent), eq (.string a0.fThread), eq (.bool a0.fPrivate), eq (.bool a0.fOn), eq (.int .i64 a0.fSpan), eq (.int .i64 a0.fState), eq (.int .i64 a0.fTick), eq (.int .i64 a0.fStamp)]] ++ F) rfl trivial cal55 rfl (concourseref02_Text.c h38) (perm_to (L := [own (intK .u8) g34.1 t32, own (intK .u8) g29.1 t27, own (intK .u8) v36.1 ((t24 ++ t27) ++ t32), blk b23 32 [eq (.int .i64 a0.fKind), eq (.string a0.fRoom), eq (.string a0.fUser), eq (.string a0.fEvent), eq (.string a0.fThread), eq (.bool a0.fPrivate), eq (.bool a0.fOn), eq (.int .i64 a0.fSpan), eq (.int .i64 a0.fState), eq (.int .i64 a0.fTick), eq (.int .i64 a0.fStamp)]]) (F := F) [0, 1, 2, 3] rfl rfl rfl) rfl nofun (fun g39 _ => ?_)
  obtain ⟨g40, H⟩ := Gets.grd H
  refine Dv.appx (jj := 3) (ys := t37) (fun v41 : OV => [own (intK .u8) g39.1 t37, own (intK .u8) g34.1 t32, own (intK .u8) g29.1 t27, own (intK .u8) v41.1 (((t24 ++ t27) ++ t32) ++ t37), blk b23 32 [eq (.int .i64 a0.fKind), eq (.string a0.fRoom), eq (.string a0.fUser), eq (.string a0.fEvent), eq (.string a0.fThread), eq (.bool a0.fPrivate), eq (.bool a0.fOn), eq (.int .i64 a0.fSpan), eq (.int .i64 a0.fState), eq (.int .i64 a0.fTick), eq (.int .i64 a0.fStamp)]] ++ F) rfl trivial rfl rfl rfl (src_own (mem_at 0 rfl)) Try.underlying68 (.inr ⟨_, Try.underlying68⟩) inf5 rfl (by decide) g40 rfl nofun (fun v41 => ?_)
  refine Dv.asg rfl trivial rfl ?_
  refine .fin ?_
  refine WP.seq ?_
  refine WP.reg [(0, false), (1, false), (2, false), (3, true), (4, true), (5, false)] (by kernel_rfl) ?_
  refine Dv.mv rfl trivial rfl ?_
  refine Dv.fab rfl trivial rfl Try.underlying32 rfl Try.underlying9 c9 (by decide) ?_
  refine Dv.ldb rfl trivial rfl Try.underlying9 rfl (mem_at 4 rfl) rfl ?_
  obtain ⟨t42, h43, H⟩ := Gets.call H
  refine Dv.callx (pre := []) (F := [own (intK .u8) g39.1 t37, own (intK .u8) g34.1 t32, own (intK .u8) g29.1 t27, own (intK .u8) v41.1 (((t24 ++ t27) ++ t32) ++ t37), blk b23 32 [eq (.int .i64 a0.fKind), eq (.string a0.fRoom), eq (.string a0.fUser), eq (.string a0.fEvent), eq (.string a0.fThread), eq (.bool a0.fPrivate), eq (.bool a0.fOn), eq (.int .i64 a0.fSpan), eq (.int .i64 a0.fState), eq (.int .i64 a0.fTick), eq (.int .i64 a0.fStamp)]] ++ F) (fun g44 : OV => [own (intK .u8) g44.1 t42, own (intK .u8) g39.1 t37, own (intK .u8) g34.1 t32, own (intK .u8) g29.1 t27, own (intK .u8) v41.1 (((t24 ++ t27) ++ t32) ++ t37), blk b23 32 [eq (.int .i64 a0.fKind), eq (.string a0.fRoom), eq (.string a0.fUser), eq (.string a0.fEvent), eq (.string a0.fThread), eq (.bool a0.fPrivate), eq (.bool a0.fOn), eq (.int .i64 a0.fSpan), eq (.int .i64 a0.fState), eq (.int .i64 a0.fTick), eq (.int .i64 a0.fStamp)]] ++ F) rfl trivial cal55 rfl (concourseref02_Text.c h43) (perm_to (L := [own (intK .u8) g39.1 t37, own (intK .u8) g34.1 t32, own (intK .u8) g29.1 t27, own (intK .u8) v41.1 (((t24 ++ t27) ++ t32) ++ t37), blk b23 32 [eq (.int .i64 a0.fKind), eq (.string a0.fRoom), eq (.string a0.fUser), eq (.string a0.fEvent), eq (.string a0.fThread), eq (.bool a0.fPrivate), eq (.bool a0.fOn), eq (.int .i64 a0.fSpan), eq (.int .i64 a0.fState), eq (.int .i64 a0.fTick), eq (.int .i64 a0.fStamp)]]) (F := F) [0, 1, 2, 3, 4] (by kernel_rfl) rfl rfl) rfl nofun (fun g44 _ => ?_)
  obtain ⟨g45, H⟩ := Gets.grd H
  refine Dv.appx (jj := 4) (ys := t42) (fun v46 : OV => [own (intK .u8) g44.1 t42, own (intK .u8) g39.1 t37, own (intK .u8) g34.1 t32, own (intK .u8) g29.1 t27, own (intK .u8) v46.1 ((((t24 ++ t27) ++ t32) ++ t37) ++ t42), blk b23 32 [eq (.int .i64 a0.fKind), eq (.string a0.fRoom), eq (.string a0.fUser), eq (.string a0.fEvent), eq (.string a0.fThread), eq (.bool a0.fPrivate), eq (.bool a0.fOn), eq (.int .i64 a0.fSpan), eq (.int .i64 a0.fState), eq (.int .i64 a0.fTick), eq (.int .i64 a0.fStamp)]] ++ F) rfl trivial rfl rfl rfl (src_own (mem_at 0 rfl)) Try.underlying68 (.inr ⟨_, Try.underlying68⟩) inf5 rfl (by decide) g45 rfl nofun (fun v46 => ?_)
  refine Dv.asg rfl trivial rfl ?_
  refine .fin ?_
  refine WP.seq ?_
  refine WP.reg [(0, false), (1, false), (2, false), (3, false), (4, true), (5, false)] (by kernel_rfl) ?_
  refine Dv.mv rfl trivial rfl ?_
  refine Dv.fab rfl trivial rfl Try.underlying32 rfl Try.underlying4 c4 (by decide) ?_
  refine Dv.ldb rfl trivial rfl Try.underlying4 rfl (mem_at 5 rfl) rfl ?_
  obtain ⟨t47, h48, H⟩ := Gets.call H
  refine Dv.call rfl trivial cal56 rfl (concourseref02_Flag.c h48) ?_
  obtain ⟨g49, H⟩ := Gets.grd H
  refine Dv.appx (jj := 4) (ys := t47) (fun v50 : OV => [own (intK .u8) g44.1 t42, own (intK .u8) g39.1 t37, own (intK .u8) g34.1 t32, own (intK .u8) g29.1 t27, own (intK .u8) v50.1 (((((t24 ++ t27) ++ t32) ++ t37) ++ t42) ++ t47), blk b23 32 [eq (.int .i64 a0.fKind), eq (.string a0.fRoom), eq (.string a0.fUser), eq (.string a0.fEvent), eq (.string a0.fThread), eq (.bool a0.fPrivate), eq (.bool a0.fOn), eq (.int .i64 a0.fSpan), eq (.int .i64 a0.fState), eq (.int .i64 a0.fTick), eq (.int .i64 a0.fStamp)]] ++ F) rfl trivial rfl rfl rfl src_sl Try.underlying68 (.inr ⟨_, Try.underlying68⟩) inf5 rfl (by decide) g49 rfl nofun (fun v50 => ?_)
  refine Dv.asg rfl trivial rfl ?_
  refine .fin ?_
  refine WP.seq ?_
  refine WP.reg [(0, false), (1, false), (2, false), (3, true), (4, true), (5, false)] (by kernel_rfl) ?_
  refine Dv.mv rfl trivial rfl ?_
  refine Dv.fab rfl trivial rfl Try.underlying32 rfl Try.underlying3 c3 (by decide) ?_
  refine Dv.ldb rfl trivial rfl Try.underlying3 rfl (mem_at 5 rfl) rfl ?_
  obtain ⟨t51, h52, H⟩ := Gets.call H
  refine Dv.callx (pre := []) (F := [own (intK .u8) g44.1 t42, own (intK .u8) g39.1 t37, own (intK .u8) g34.1 t32, own (intK .u8) g29.1 t27, own (intK .u8) v50.1 (((((t24 ++ t27) ++ t32) ++ t37) ++ t42) ++ t47), blk b23 32 [eq (.int .i64 a0.fKind), eq (.string a0.fRoom), eq (.string a0.fUser), eq (.string a0.fEvent), eq (.string a0.fThread), eq (.bool a0.fPrivate), eq (.bool a0.fOn), eq (.int .i64 a0.fSpan), eq (.int .i64 a0.fState), eq (.int .i64 a0.fTick), eq (.int .i64 a0.fStamp)]] ++ F) (fun g53 : OV => [own (intK .u8) g53.1 t51, own (intK .u8) g44.1 t42, own (intK .u8) g39.1 t37, own (intK .u8) g34.1 t32, own (intK .u8) g29.1 t27, own (intK .u8) v50.1 (((((t24 ++ t27) ++ t32) ++ t37) ++ t42) ++ t47), blk b23 32 [eq (.int .i64 a0.fKind), eq (.string a0.fRoom), eq (.string a0.fUser), eq (.string a0.fEvent), eq (.string a0.fThread), eq (.bool a0.fPrivate), eq (.bool a0.fOn), eq (.int .i64 a0.fSpan), eq (.int .i64 a0.fState), eq (.int .i64 a0.fTick), eq (.int .i64 a0.fStamp)]] ++ F) rfl trivial cal54 rfl (concourseref02_Number.c _ h52) (perm_to (L := [own (intK .u8) g44.1 t42, own (intK .u8) g39.1 t37, own (intK .u8) g34.1 t32, own (intK .u8) g29.1 t27, own (intK .u8) v50.1 (((((t24 ++ t27) ++ t32) ++ t37) ++ t42) ++ t47), blk b23 32 [eq (.int .i64 a0.fKind), eq (.string a0.fRoom), eq (.string a0.fUser), eq (.string a0.fEvent), eq (.string a0.fThread), eq (.bool a0.fPrivate), eq (.bool a0.fOn), eq (.int .i64 a0.fSpan), eq (.int .i64 a0.fState), eq (.int .i64 a0.fTick), eq (.int .i64 a0.fStamp)]]) (F := F) [0, 1, 2, 3, 4, 5] (by kernel_rfl) rfl rfl) rfl nofun (fun g53 _ => ?_)
  obtain ⟨g54, H⟩ := Gets.grd H
  refine Dv.appx (jj := 5) (ys := t51) (fun v55 : OV => [own (intK .u8) g53.1 t51, own (intK .u8) g44.1 t42, own (intK .u8) g39.1 t37, own (intK .u8) g34.1 t32, own (intK .u8) g29.1 t27, own (intK .u8) v55.1 ((((((t24 ++ t27) ++ t32) ++ t37) ++ t42) ++ t47) ++ t51), blk b23 32 [eq (.int .i64 a0.fKind), eq (.string a0.fRoom), eq (.string a0.fUser), eq (.string a0.fEvent), eq (.string a0.fThread), eq (.bool a0.fPrivate), eq (.bool a0.fOn), eq (.int .i64 a0.fSpan), eq (.int .i64 a0.fState), eq (.int .i64 a0.fTick), eq (.int .i64 a0.fStamp)]] ++ F) rfl trivial rfl rfl rfl (src_own (mem_at 0 rfl)) Try.underlying68 (.inr ⟨_, Try.underlying68⟩) inf5 rfl (by decide) g54 rfl nofun (fun v55 => ?_)
  refine Dv.asg rfl trivial rfl ?_
  refine .fin ?_
  refine WP.seq ?_
  refine WP.reg [(0, false), (1, false), (2, false), (3, true), (4, true), (5, false)] (by kernel_rfl) ?_
  refine Dv.mv rfl trivial rfl ?_
  refine Dv.fab rfl trivial rfl Try.underlying32 rfl Try.underlying3 c3 (by decide) ?_
  refine Dv.ldb rfl trivial rfl Try.underlying3 rfl (mem_at 6 rfl) rfl ?_
  obtain ⟨t56, h57, H⟩ := Gets.call H
  refine Dv.callx (pre := []) (F := [own (intK .u8) g53.1 t51, own (intK .u8) g44.1 t42, own (intK .u8) g39.1 t37, own (intK .u8) g34.1 t32, own (intK .u8) g29.1 t27, own (intK .u8) v55.1 ((((((t24 ++ t27) ++ t32) ++ t37) ++ t42) ++ t47) ++ t51), blk b23 32 [eq (.int .i64 a0.fKind), eq (.string a0.fRoom), eq (.string a0.fUser), eq (.string a0.fEvent), eq (.string a0.fThread), eq (.bool a0.fPrivate), eq (.bool a0.fOn), eq (.int .i64 a0.fSpan), eq (.int .i64 a0.fState), eq (.int .i64 a0.fTick), eq (.int .i64 a0.fStamp)]] ++ F) (fun g58 : OV => [own (intK .u8) g58.1 t56, own (intK .u8) g53.1 t51, own (intK .u8) g44.1 t42, own (intK .u8) g39.1 t37, own (intK .u8) g34.1 t32, own (intK .u8) g29.1 t27, own (intK .u8) v55.1 ((((((t24 ++ t27) ++ t32) ++ t37) ++ t42) ++ t47) ++ t51), blk b23 32 [eq (.int .i64 a0.fKind), eq (.string a0.fRoom), eq (.string a0.fUser), eq (.string a0.fEvent), eq (.string a0.fThread), eq (.bool a0.fPrivate), eq (.bool a0.fOn), eq (.int .i64 a0.fSpan), eq (.int .i64 a0.fState), eq (.int .i64 a0.fTick), eq (.int .i64 a0.fStamp)]] ++ F) rfl trivial cal54 rfl (concourseref02_Number.c _ h57) (perm_to (L := [own (intK .u8) g53.1 t51, own (intK .u8) g44.1 t42, own (intK .u8) g39.1 t37, own (intK .u8) g34.1 t32, own (intK .u8) g29.1 t27, own (intK .u8) v55.1 ((((((t24 ++ t27) ++ t32) ++ t37) ++ t42) ++ t47) ++ t51), blk b23 32 [eq (.int .i64 a0.fKind), eq (.string a0.fRoom), eq (.string a0.fUser), eq (.string a0.fEvent), eq (.string a0.fThread), eq (.bool a0.fPrivate), eq (.bool a0.fOn), eq (.int .i64 a0.fSpan), eq (.int .i64 a0.fState), eq (.int .i64 a0.fTick), eq (.int .i64 a0.fStamp)]]) (F := F) [0, 1, 2, 3, 4, 5, 6] (by kernel_rfl) rfl rfl) rfl nofun (fun g58 _ => ?_)
  obtain ⟨g59, H⟩ := Gets.grd H
  refine Dv.appx (jj := 6) (ys := t56) (fun v60 : OV => [own (intK .u8) g58.1 t56, own (intK .u8) g53.1 t51, own (intK .u8) g44.1 t42, own (intK .u8) g39.1 t37, own (intK .u8) g34.1 t32, own (intK .u8) g29.1 t27, own (intK .u8) v60.1 (((((((t24 ++ t27) ++ t32) ++ t37) ++ t42) ++ t47) ++ t51) ++ t56), blk b23 32 [eq (.int .i64 a0.fKind), eq (.string a0.fRoom), eq (.string a0.fUser), eq (.string a0.fEvent), eq (.string a0.fThread), eq (.bool a0.fPrivate), eq (.bool a0.fOn), eq (.int .i64 a0.fSpan), eq (.int .i64 a0.fState), eq (.int .i64 a0.fTick), eq (.int .i64 a0.fStamp)]] ++ F) rfl trivial rfl rfl rfl (src_own (mem_at 0 rfl)) Try.underlying68 (.inr ⟨_, Try.underlying68⟩) inf5 rfl (by decide) g59 rfl nofun (fun v60 => ?_)
  refine Dv.asg rfl trivial rfl ?_
  refine .fin ?_
  refine WP.seq ?_
  refine WP.reg [(0, false), (1, false), (2, false), (3, true), (4, true), (5, false)] (by kernel_rfl) ?_
  refine Dv.mv rfl trivial rfl ?_
  refine Dv.fab rfl trivial rfl Try.underlying32 rfl Try.underlying3 c3 (by decide) ?_
  refine Dv.ldb rfl trivial rfl Try.underlying3 rfl (mem_at 7 rfl) rfl ?_
  obtain ⟨t61, h62, H⟩ := Gets.call H
  refine Dv.callx (pre := []) (F := [own (intK .u8) g58.1 t56, own (intK .u8) g53.1 t51, own (intK .u8) g44.1 t42, own (intK .u8) g39.1 t37, own (intK .u8) g34.1 t32, own (intK .u8) g29.1 t27, own (intK .u8) v60.1 (((((((t24 ++ t27) ++ t32) ++ t37) ++ t42) ++ t47) ++ t51) ++ t56), blk b23 32 [eq (.int .i64 a0.fKind), eq (.string a0.fRoom), eq (.string a0.fUser), eq (.string a0.fEvent), eq (.string a0.fThread), eq (.bool a0.fPrivate), eq (.bool a0.fOn), eq (.int .i64 a0.fSpan), eq (.int .i64 a0.fState), eq (.int .i64 a0.fTick), eq (.int .i64 a0.fStamp)]] ++ F) (fun g63 : OV => [own (intK .u8) g63.1 t61, own (intK .u8) g58.1 t56, own (intK .u8) g53.1 t51, own (intK .u8) g44.1 t42, own (intK .u8) g39.1 t37, own (intK .u8) g34.1 t32, own (intK .u8) g29.1 t27, own (intK .u8) v60.1 (((((((t24 ++ t27) ++ t32) ++ t37) ++ t42) ++ t47) ++ t51) ++ t56), blk b23 32 [eq (.int .i64 a0.fKind), eq (.string a0.fRoom), eq (.string a0.fUser), eq (.string a0.fEvent), eq (.string a0.fThread), eq (.bool a0.fPrivate), eq (.bool a0.fOn), eq (.int .i64 a0.fSpan), eq (.int .i64 a0.fState), eq (.int .i64 a0.fTick), eq (.int .i64 a0.fStamp)]] ++ F) rfl trivial cal54 rfl (concourseref02_Number.c _ h62) (perm_to (L := [own (intK .u8) g58.1 t56, own (intK .u8) g53.1 t51, own (intK .u8) g44.1 t42, own (intK .u8) g39.1 t37, own (intK .u8) g34.1 t32, own (intK .u8) g29.1 t27, own (intK .u8) v60.1 (((((((t24 ++ t27) ++ t32) ++ t37) ++ t42) ++ t47) ++ t51) ++ t56), blk b23 32 [eq (.int .i64 a0.fKind), eq (.string a0.fRoom), eq (.string a0.fUser), eq (.string a0.fEvent), eq (.string a0.fThread), eq (.bool a0.fPrivate), eq (.bool a0.fOn), eq (.int .i64 a0.fSpan), eq (.int .i64 a0.fState), eq (.int .i64 a0.fTick), eq (.int .i64 a0.fStamp)]]) (F := F) [0, 1, 2, 3, 4, 5, 6, 7] (by kernel_rfl) rfl rfl) rfl nofun (fun g63 _ => ?_)
  obtain ⟨g64, H⟩ := Gets.grd H
  refine Dv.appx (jj := 7) (ys := t61) (fun v65 : OV => [own (intK .u8) g63.1 t61, own (intK .u8) g58.1 t56, own (intK .u8) g53.1 t51, own (intK .u8) g44.1 t42, own (intK .u8) g39.1 t37, own (intK .u8) g34.1 t32, own (intK .u8) g29.1 t27, own (intK .u8) v65.1 ((((((((t24 ++ t27) ++ t32) ++ t37) ++ t42) ++ t47) ++ t51) ++ t56) ++ t61), blk b23 32 [eq (.int .i64 a0.fKind), eq (.string a0.fRoom), eq (.string a0.fUser), eq (.string a0.fEvent), eq (.string a0.fThread), eq (.bool a0.fPrivate), eq (.bool a0.fOn), eq (.int .i64 a0.fSpan), eq (.int .i64 a0.fState), eq (.int .i64 a0.fTick), eq (.int .i64 a0.fStamp)]] ++ F) rfl trivial rfl rfl rfl (src_own (mem_at 0 rfl)) Try.underlying68 (.inr ⟨_, Try.underlying68⟩) inf5 rfl (by decide) g64 rfl nofun (fun v65 => ?_)
  refine Dv.asg rfl trivial rfl ?_
  refine .fin ?_
  refine WP.seq ?_
  refine WP.reg [(0, false), (1, false), (2, false), (3, true), (4, true), (5, false)] (by kernel_rfl) ?_
  refine Dv.mv rfl trivial rfl ?_
  refine Dv.fab rfl trivial rfl Try.underlying32 rfl Try.underlying3 c3 (by decide) ?_
  refine Dv.ldb rfl trivial rfl Try.underlying3 rfl (mem_at 8 rfl) rfl ?_
  obtain ⟨t66, h67, H⟩ := Gets.call H
  refine Dv.callx (pre := []) (F := [own (intK .u8) g63.1 t61, own (intK .u8) g58.1 t56, own (intK .u8) g53.1 t51, own (intK .u8) g44.1 t42, own (intK .u8) g39.1 t37, own (intK .u8) g34.1 t32, own (intK .u8) g29.1 t27, own (intK .u8) v65.1 ((((((((t24 ++ t27) ++ t32) ++ t37) ++ t42) ++ t47) ++ t51) ++ t56) ++ t61), blk b23 32 [eq (.int .i64 a0.fKind), eq (.string a0.fRoom), eq (.string a0.fUser), eq (.string a0.fEvent), eq (.string a0.fThread), eq (.bool a0.fPrivate), eq (.bool a0.fOn), eq (.int .i64 a0.fSpan), eq (.int .i64 a0.fState), eq (.int .i64 a0.fTick), eq (.int .i64 a0.fStamp)]] ++ F) (fun g68 : OV => [own (intK .u8) g68.1 t66, own (intK .u8) g63.1 t61, own (intK .u8) g58.1 t56, own (intK .u8) g53.1 t51, own (intK .u8) g44.1 t42, own (intK .u8) g39.1 t37, own (intK .u8) g34.1 t32, own (intK .u8) g29.1 t27, own (intK .u8) v65.1 ((((((((t24 ++ t27) ++ t32) ++ t37) ++ t42) ++ t47) ++ t51) ++ t56) ++ t61), blk b23 32 [eq (.int .i64 a0.fKind), eq (.string a0.fRoom), eq (.string a0.fUser), eq (.string a0.fEvent), eq (.string a0.fThread), eq (.bool a0.fPrivate), eq (.bool a0.fOn), eq (.int .i64 a0.fSpan), eq (.int .i64 a0.fState), eq (.int .i64 a0.fTick), eq (.int .i64 a0.fStamp)]] ++ F) rfl trivial cal54 rfl (concourseref02_Number.c _ h67) (perm_to (L := [own (intK .u8) g63.1 t61, own (intK .u8) g58.1 t56, own (intK .u8) g53.1 t51, own (intK .u8) g44.1 t42, own (intK .u8) g39.1 t37, own (intK .u8) g34.1 t32, own (intK .u8) g29.1 t27, own (intK .u8) v65.1 ((((((((t24 ++ t27) ++ t32) ++ t37) ++ t42) ++ t47) ++ t51) ++ t56) ++ t61), blk b23 32 [eq (.int .i64 a0.fKind), eq (.string a0.fRoom), eq (.string a0.fUser), eq (.string a0.fEvent), eq (.string a0.fThread), eq (.bool a0.fPrivate), eq (.bool a0.fOn), eq (.int .i64 a0.fSpan), eq (.int .i64 a0.fState), eq (.int .i64 a0.fTick), eq (.int .i64 a0.fStamp)]]) (F := F) [0, 1, 2, 3, 4, 5, 6, 7, 8] (by kernel_rfl) rfl rfl) rfl nofun (fun g68 _ => ?_)
  obtain ⟨g69, H⟩ := Gets.grd H
  refine Dv.appx (jj := 8) (ys := t66) (fun v70 : OV => [own (intK .u8) g68.1 t66, own (intK .u8) g63.1 t61, own (intK .u8) g58.1 t56, own (intK .u8) g53.1 t51, own (intK .u8) g44.1 t42, own (intK .u8) g39.1 t37, own (intK .u8) g34.1 t32, own (intK .u8) g29.1 t27, own (intK .u8) v70.1 (((((((((t24 ++ t27) ++ t32) ++ t37) ++ t42) ++ t47) ++ t51) ++ t56) ++ t61) ++ t66), blk b23 32 [eq (.int .i64 a0.fKind), eq (.string a0.fRoom), eq (.string a0.fUser), eq (.string a0.fEvent), eq (.string a0.fThread), eq (.bool a0.fPrivate), eq (.bool a0.fOn), eq (.int .i64 a0.fSpan), eq (.int .i64 a0.fState), eq (.int .i64 a0.fTick), eq (.int .i64 a0.fStamp)]] ++ F) rfl trivial rfl rfl rfl (src_own (mem_at 0 rfl)) Try.underlying68 (.inr ⟨_, Try.underlying68⟩) inf5 rfl (by decide) g69 rfl nofun (fun v70 => ?_)
  refine Dv.asg rfl trivial rfl ?_
  refine .fin ?_
  obtain rfl := Gets.out H
  exact WP.retL (fun _ _ h => h) rfl v70 trivial (.cons (res_tmp rfl) .nil) rfl (st_sel (L := [own (intK .u8) g68.1 t66, own (intK .u8) g63.1 t61, own (intK .u8) g58.1 t56, own (intK .u8) g53.1 t51, own (intK .u8) g44.1 t42, own (intK .u8) g39.1 t37, own (intK .u8) g34.1 t32, own (intK .u8) g29.1 t27, own (intK .u8) v70.1 (((((((((t24 ++ t27) ++ t32) ++ t37) ++ t42) ++ t47) ++ t51) ++ t56) ++ t61) ++ t66), blk b23 32 [eq (.int .i64 a0.fKind), eq (.string a0.fRoom), eq (.string a0.fUser), eq (.string a0.fEvent), eq (.string a0.fThread), eq (.bool a0.fPrivate), eq (.bool a0.fOn), eq (.int .i64 a0.fSpan), eq (.int .i64 a0.fState), eq (.int .i64 a0.fTick), eq (.int .i64 a0.fStamp)]]) (F := F) [0, 1, 2, 3, 4, 5, 6, 7, 9, 8] 9 (by kernel_rfl) rfl rfl)
theorem concourseref03_Compare.c {k : Nat} {a0 : Edu} {a1 : Edu} {r : Int} (h : concourseref03_Compare.f k a0 a1 = some r) : Pt Try.prog 23 [agg (Edu.enc a0), agg (Edu.enc a1)] (eq (.int .i64 r)) := by
  unfold concourseref03_Compare.f at h
  refine (Tr.body Try.func23 (c := _) rfl Try.ntmps23 (Nat.le_of_ble_eq_true rfl) fun R0 F => ?_).pt
  replace h := Gets.of h
  have H := h
  clear h
  refine WP.seq ?_
  refine WP.reg [(0, true), (1, true), (2, false)] (by kernel_rfl) ?_
  refine Dv.box rfl trivial rfl (cells_agg (Edu.K.one _)) nofun (fun b71 => ?_)
  refine Dv.box rfl trivial rfl (cells_agg (Edu.K.one _)) nofun (fun b72 => ?_)
  refine Dv.asg rfl trivial rfl ?_
  refine .fin ?_
  refine WP.seq ?_
  refine WP.seq ?_
  refine WP.reg [(0, false), (1, false), (2, false), (3, false), (4, false)] (by kernel_rfl) ?_
  refine Dv.fab rfl trivial rfl Try.underlying32 rfl Try.underlying3 c3 (by decide) ?_
  refine Dv.ldb rfl trivial rfl Try.underlying3 rfl (mem_at 1 rfl) rfl ?_
  refine Dv.fab rfl trivial rfl Try.underlying32 rfl Try.underlying3 c3 (by decide) ?_
  refine Dv.ldb rfl trivial rfl Try.underlying3 rfl (mem_at 0 rfl) rfl ?_
  refine Dv.bin rfl trivial rfl rfl (fun _ => run_lt) ?_
  refine .fin ?_
  refine WP.cond rfl (fun c73 => ?_) (fun c73 => ?_)
  · replace H := Gets.ct H c73
    refine WP.seq ?_
    refine WP.reg [(0, false)] (by kernel_rfl) ?_
    refine Dv.asg rfl trivial rfl ?_
    refine .fin ?_
    obtain rfl := Gets.out H
    exact WP.retL (fun _ _ h => h) rfl () trivial (.cons (res_tmp rfl) .nil) rfl (st_sel (L := [blk b72 32 [eq (.int .i64 a1.fKind), eq (.string a1.fRoom), eq (.string a1.fUser), eq (.string a1.fEvent), eq (.string a1.fThread), eq (.bool a1.fPrivate), eq (.bool a1.fOn), eq (.int .i64 a1.fSpan), eq (.int .i64 a1.fState), eq (.int .i64 a1.fTick), eq (.int .i64 a1.fStamp)], blk b71 32 [eq (.int .i64 a0.fKind), eq (.string a0.fRoom), eq (.string a0.fUser), eq (.string a0.fEvent), eq (.string a0.fThread), eq (.bool a0.fPrivate), eq (.bool a0.fOn), eq (.int .i64 a0.fSpan), eq (.int .i64 a0.fState), eq (.int .i64 a0.fTick), eq (.int .i64 a0.fStamp)]]) (F := F) [0, 1] 2 rfl rfl rfl)
  · replace H := Gets.cf H c73
    refine WP.skip ?_
    refine WP.seq ?_
    refine WP.seq ?_
    refine WP.reg [(0, false), (1, false), (2, false), (3, false), (4, false)] (by kernel_rfl) ?_
    refine Dv.fab rfl trivial rfl Try.underlying32 rfl Try.underlying3 c3 (by decide) ?_
    refine Dv.ldb rfl trivial rfl Try.underlying3 rfl (mem_at 1 rfl) rfl ?_
    refine Dv.fab rfl trivial rfl Try.underlying32 rfl Try.underlying3 c3 (by decide) ?_
    refine Dv.ldb rfl trivial rfl Try.underlying3 rfl (mem_at 0 rfl) rfl ?_
    refine Dv.bin rfl trivial rfl rfl (fun _ => run_gt) ?_
    refine .fin ?_
    refine WP.cond rfl (fun c74 => ?_) (fun c74 => ?_)
    · replace H := Gets.ct H c74
      refine WP.seq ?_
      refine WP.reg [(0, false)] (by kernel_rfl) ?_
      refine Dv.asg rfl trivial rfl ?_
      refine .fin ?_
      obtain rfl := Gets.out H
      exact WP.retL (fun _ _ h => h) rfl () trivial (.cons (res_tmp rfl) .nil) rfl (st_sel (L := [blk b72 32 [eq (.int .i64 a1.fKind), eq (.string a1.fRoom), eq (.string a1.fUser), eq (.string a1.fEvent), eq (.string a1.fThread), eq (.bool a1.fPrivate), eq (.bool a1.fOn), eq (.int .i64 a1.fSpan), eq (.int .i64 a1.fState), eq (.int .i64 a1.fTick), eq (.int .i64 a1.fStamp)], blk b71 32 [eq (.int .i64 a0.fKind), eq (.string a0.fRoom), eq (.string a0.fUser), eq (.string a0.fEvent), eq (.string a0.fThread), eq (.bool a0.fPrivate), eq (.bool a0.fOn), eq (.int .i64 a0.fSpan), eq (.int .i64 a0.fState), eq (.int .i64 a0.fTick), eq (.int .i64 a0.fStamp)]]) (F := F) [0, 1] 2 rfl rfl rfl)
    · replace H := Gets.cf H c74
      refine WP.skip ?_
      refine WP.seq ?_
      refine WP.reg [(0, false), (1, true), (2, false), (3, false)] (by kernel_rfl) ?_
      refine Dv.ldbs rfl trivial rfl Try.underlying32 rfl c32 (mem_at 1 rfl) (Nat.le_of_ble_eq_true rfl) ?_
      obtain ⟨t75, h76, H⟩ := Gets.call H
      refine Dv.callx (pre := []) (F := [blk b72 32 [eq (.int .i64 a1.fKind), eq (.string a1.fRoom), eq (.string a1.fUser), eq (.string a1.fEvent), eq (.string a1.fThread), eq (.bool a1.fPrivate), eq (.bool a1.fOn), eq (.int .i64 a1.fSpan), eq (.int .i64 a1.fState), eq (.int .i64 a1.fTick), eq (.int .i64 a1.fStamp)], blk b71 32 [eq (.int .i64 a0.fKind), eq (.string a0.fRoom), eq (.string a0.fUser), eq (.string a0.fEvent), eq (.string a0.fThread), eq (.bool a0.fPrivate), eq (.bool a0.fOn), eq (.int .i64 a0.fSpan), eq (.int .i64 a0.fState), eq (.int .i64 a0.fTick), eq (.int .i64 a0.fStamp)]] ++ F) (fun g77 : OV => [own (intK .u8) g77.1 t75, blk b72 32 [eq (.int .i64 a1.fKind), eq (.string a1.fRoom), eq (.string a1.fUser), eq (.string a1.fEvent), eq (.string a1.fThread), eq (.bool a1.fPrivate), eq (.bool a1.fOn), eq (.int .i64 a1.fSpan), eq (.int .i64 a1.fState), eq (.int .i64 a1.fTick), eq (.int .i64 a1.fStamp)], blk b71 32 [eq (.int .i64 a0.fKind), eq (.string a0.fRoom), eq (.string a0.fUser), eq (.string a0.fEvent), eq (.string a0.fThread), eq (.bool a0.fPrivate), eq (.bool a0.fOn), eq (.int .i64 a0.fSpan), eq (.int .i64 a0.fState), eq (.int .i64 a0.fTick), eq (.int .i64 a0.fStamp)]] ++ F) rfl trivial cal37 rfl (concourseref03_Bytes.c h76) (perm_to (L := [blk b72 32 [eq (.int .i64 a1.fKind), eq (.string a1.fRoom), eq (.string a1.fUser), eq (.string a1.fEvent), eq (.string a1.fThread), eq (.bool a1.fPrivate), eq (.bool a1.fOn), eq (.int .i64 a1.fSpan), eq (.int .i64 a1.fState), eq (.int .i64 a1.fTick), eq (.int .i64 a1.fStamp)], blk b71 32 [eq (.int .i64 a0.fKind), eq (.string a0.fRoom), eq (.string a0.fUser), eq (.string a0.fEvent), eq (.string a0.fThread), eq (.bool a0.fPrivate), eq (.bool a0.fOn), eq (.int .i64 a0.fSpan), eq (.int .i64 a0.fState), eq (.int .i64 a0.fTick), eq (.int .i64 a0.fStamp)]]) (F := F) [0, 1] rfl rfl rfl) rfl nofun (fun g77 _ => ?_)
      refine Dv.gh (gh_frz (E' := [(0, agg (Edu.enc a0)), (1, agg (Edu.enc a1)), (2, eq (.pointer (some ⟨b71, 0, none⟩))), (3, eq (.pointer (some ⟨b72, 0, none⟩))), (4, eq (.int .i64 0)), (11, eq (.bool (decide (a0.fStamp < a1.fStamp)))), (16, eq (.bool (decide (a1.fStamp < a0.fStamp)))), (18, sl (intK .u8) t75)]) (l' := [blk b72 32 [eq (.int .i64 a1.fKind), eq (.string a1.fRoom), eq (.string a1.fUser), eq (.string a1.fEvent), eq (.string a1.fThread), eq (.bool a1.fPrivate), eq (.bool a1.fOn), eq (.int .i64 a1.fSpan), eq (.int .i64 a1.fState), eq (.int .i64 a1.fTick), eq (.int .i64 a1.fStamp)], blk b71 32 [eq (.int .i64 a0.fKind), eq (.string a0.fRoom), eq (.string a0.fUser), eq (.string a0.fEvent), eq (.string a0.fThread), eq (.bool a0.fPrivate), eq (.bool a0.fOn), eq (.int .i64 a0.fSpan), eq (.int .i64 a0.fState), eq (.int .i64 a0.fTick), eq (.int .i64 a0.fStamp)]] ++ F) 0 rfl (cve_cons rfl cv_id (cve_cons rfl cv_id (cve_cons rfl cv_id (cve_cons rfl cv_id (cve_cons rfl cv_id (cve_cons rfl cv_id (cve_cons rfl cv_id (cve_cons rfl cv_eq cve_nil)))))))) (all2_app (.cons cva_id (.cons cva_id .nil)) fun _ => cva_id)) (fun _ _ => ?_)
      refine Dv.cvbs rfl trivial rfl Try.underlying68 Try.underlying5 Try.underlying9 ?_
      refine Dv.asg rfl trivial rfl ?_
      refine .fin ?_
      refine WP.seq ?_
      refine WP.reg [(0, false), (1, true), (2, false), (3, false)] (by kernel_rfl) ?_
      refine Dv.ldbs rfl trivial rfl Try.underlying32 rfl c32 (mem_at 0 rfl) (Nat.le_of_ble_eq_true rfl) ?_
      obtain ⟨t78, h79, H⟩ := Gets.call H
      refine Dv.callx (pre := []) (F := [blk b72 32 [eq (.int .i64 a1.fKind), eq (.string a1.fRoom), eq (.string a1.fUser), eq (.string a1.fEvent), eq (.string a1.fThread), eq (.bool a1.fPrivate), eq (.bool a1.fOn), eq (.int .i64 a1.fSpan), eq (.int .i64 a1.fState), eq (.int .i64 a1.fTick), eq (.int .i64 a1.fStamp)], blk b71 32 [eq (.int .i64 a0.fKind), eq (.string a0.fRoom), eq (.string a0.fUser), eq (.string a0.fEvent), eq (.string a0.fThread), eq (.bool a0.fPrivate), eq (.bool a0.fOn), eq (.int .i64 a0.fSpan), eq (.int .i64 a0.fState), eq (.int .i64 a0.fTick), eq (.int .i64 a0.fStamp)]] ++ F) (fun g80 : OV => [own (intK .u8) g80.1 t78, blk b72 32 [eq (.int .i64 a1.fKind), eq (.string a1.fRoom), eq (.string a1.fUser), eq (.string a1.fEvent), eq (.string a1.fThread), eq (.bool a1.fPrivate), eq (.bool a1.fOn), eq (.int .i64 a1.fSpan), eq (.int .i64 a1.fState), eq (.int .i64 a1.fTick), eq (.int .i64 a1.fStamp)], blk b71 32 [eq (.int .i64 a0.fKind), eq (.string a0.fRoom), eq (.string a0.fUser), eq (.string a0.fEvent), eq (.string a0.fThread), eq (.bool a0.fPrivate), eq (.bool a0.fOn), eq (.int .i64 a0.fSpan), eq (.int .i64 a0.fState), eq (.int .i64 a0.fTick), eq (.int .i64 a0.fStamp)]] ++ F) rfl trivial cal37 rfl (concourseref03_Bytes.c h79) (perm_to (L := [blk b72 32 [eq (.int .i64 a1.fKind), eq (.string a1.fRoom), eq (.string a1.fUser), eq (.string a1.fEvent), eq (.string a1.fThread), eq (.bool a1.fPrivate), eq (.bool a1.fOn), eq (.int .i64 a1.fSpan), eq (.int .i64 a1.fState), eq (.int .i64 a1.fTick), eq (.int .i64 a1.fStamp)], blk b71 32 [eq (.int .i64 a0.fKind), eq (.string a0.fRoom), eq (.string a0.fUser), eq (.string a0.fEvent), eq (.string a0.fThread), eq (.bool a0.fPrivate), eq (.bool a0.fOn), eq (.int .i64 a0.fSpan), eq (.int .i64 a0.fState), eq (.int .i64 a0.fTick), eq (.int .i64 a0.fStamp)]]) (F := F) [0, 1] rfl rfl rfl) rfl nofun (fun g80 _ => ?_)
      refine Dv.gh (gh_frz (E' := [(0, agg (Edu.enc a0)), (1, agg (Edu.enc a1)), (2, eq (.pointer (some ⟨b71, 0, none⟩))), (3, eq (.pointer (some ⟨b72, 0, none⟩))), (4, eq (.int .i64 0)), (5, eq (.string (ofNums t75))), (11, eq (.bool (decide (a0.fStamp < a1.fStamp)))), (16, eq (.bool (decide (a1.fStamp < a0.fStamp)))), (21, sl (intK .u8) t78)]) (l' := [blk b72 32 [eq (.int .i64 a1.fKind), eq (.string a1.fRoom), eq (.string a1.fUser), eq (.string a1.fEvent), eq (.string a1.fThread), eq (.bool a1.fPrivate), eq (.bool a1.fOn), eq (.int .i64 a1.fSpan), eq (.int .i64 a1.fState), eq (.int .i64 a1.fTick), eq (.int .i64 a1.fStamp)], blk b71 32 [eq (.int .i64 a0.fKind), eq (.string a0.fRoom), eq (.string a0.fUser), eq (.string a0.fEvent), eq (.string a0.fThread), eq (.bool a0.fPrivate), eq (.bool a0.fOn), eq (.int .i64 a0.fSpan), eq (.int .i64 a0.fState), eq (.int .i64 a0.fTick), eq (.int .i64 a0.fStamp)]] ++ F) 0 rfl (cve_cons rfl cv_id (cve_cons rfl cv_id (cve_cons rfl cv_id (cve_cons rfl cv_id (cve_cons rfl cv_id (cve_cons rfl cv_id (cve_cons rfl cv_id (cve_cons rfl cv_id (cve_cons rfl cv_eq cve_nil))))))))) (all2_app (.cons cva_id (.cons cva_id .nil)) fun _ => cva_id)) (fun _ _ => ?_)
      refine Dv.cvbs rfl trivial rfl Try.underlying68 Try.underlying5 Try.underlying9 ?_
      refine Dv.asg rfl trivial rfl ?_
      refine .fin ?_
      refine WP.seq ?_
      refine WP.seq ?_
      refine WP.reg [(0, false), (1, false), (2, false)] (by kernel_rfl) ?_
      refine Dv.mv rfl trivial rfl ?_
      refine Dv.mv rfl trivial rfl ?_
      refine Dv.bin rfl trivial rfl rfl (fun _ => run_slt) ?_
      refine .fin ?_
      refine WP.cond rfl (fun c81 => ?_) (fun c81 => ?_)
      · replace H := Gets.ct H c81
        refine WP.seq ?_
        refine WP.reg [(0, false)] (by kernel_rfl) ?_
        refine Dv.asg rfl trivial rfl ?_
        refine .fin ?_
        obtain rfl := Gets.out H
        exact WP.retL (fun _ _ h => h) rfl () trivial (.cons (res_tmp rfl) .nil) rfl (st_sel (L := [blk b72 32 [eq (.int .i64 a1.fKind), eq (.string a1.fRoom), eq (.string a1.fUser), eq (.string a1.fEvent), eq (.string a1.fThread), eq (.bool a1.fPrivate), eq (.bool a1.fOn), eq (.int .i64 a1.fSpan), eq (.int .i64 a1.fState), eq (.int .i64 a1.fTick), eq (.int .i64 a1.fStamp)], blk b71 32 [eq (.int .i64 a0.fKind), eq (.string a0.fRoom), eq (.string a0.fUser), eq (.string a0.fEvent), eq (.string a0.fThread), eq (.bool a0.fPrivate), eq (.bool a0.fOn), eq (.int .i64 a0.fSpan), eq (.int .i64 a0.fState), eq (.int .i64 a0.fTick), eq (.int .i64 a0.fStamp)]]) (F := F) [0, 1] 2 rfl rfl rfl)
      · replace H := Gets.cf H c81
        refine WP.skip ?_
        refine WP.seq ?_
        refine WP.seq ?_
        refine WP.reg [(0, false), (1, false), (2, false)] (by kernel_rfl) ?_
        refine Dv.mv rfl trivial rfl ?_
        refine Dv.mv rfl trivial rfl ?_
        refine Dv.bin rfl trivial rfl rfl (fun _ => run_sgt) ?_
        refine .fin ?_
        refine WP.cond rfl (fun c82 => ?_) (fun c82 => ?_)
        · replace H := Gets.ct H c82
          refine WP.seq ?_
          refine WP.reg [(0, false)] (by kernel_rfl) ?_
          refine Dv.asg rfl trivial rfl ?_
          refine .fin ?_
          obtain rfl := Gets.out H
          exact WP.retL (fun _ _ h => h) rfl () trivial (.cons (res_tmp rfl) .nil) rfl (st_sel (L := [blk b72 32 [eq (.int .i64 a1.fKind), eq (.string a1.fRoom), eq (.string a1.fUser), eq (.string a1.fEvent), eq (.string a1.fThread), eq (.bool a1.fPrivate), eq (.bool a1.fOn), eq (.int .i64 a1.fSpan), eq (.int .i64 a1.fState), eq (.int .i64 a1.fTick), eq (.int .i64 a1.fStamp)], blk b71 32 [eq (.int .i64 a0.fKind), eq (.string a0.fRoom), eq (.string a0.fUser), eq (.string a0.fEvent), eq (.string a0.fThread), eq (.bool a0.fPrivate), eq (.bool a0.fOn), eq (.int .i64 a0.fSpan), eq (.int .i64 a0.fState), eq (.int .i64 a0.fTick), eq (.int .i64 a0.fStamp)]]) (F := F) [0, 1] 2 rfl rfl rfl)
        · replace H := Gets.cf H c82
          refine WP.skip ?_
          refine WP.seq ?_
          refine WP.reg [(0, false)] (by kernel_rfl) ?_
          refine Dv.asg rfl trivial rfl ?_
          refine .fin ?_
          obtain rfl := Gets.out H
          exact WP.retL (fun _ _ h => h) rfl () trivial (.cons (res_tmp rfl) .nil) rfl (st_sel (L := [blk b72 32 [eq (.int .i64 a1.fKind), eq (.string a1.fRoom), eq (.string a1.fUser), eq (.string a1.fEvent), eq (.string a1.fThread), eq (.bool a1.fPrivate), eq (.bool a1.fOn), eq (.int .i64 a1.fSpan), eq (.int .i64 a1.fState), eq (.int .i64 a1.fTick), eq (.int .i64 a1.fStamp)], blk b71 32 [eq (.int .i64 a0.fKind), eq (.string a0.fRoom), eq (.string a0.fUser), eq (.string a0.fEvent), eq (.string a0.fThread), eq (.bool a0.fPrivate), eq (.bool a0.fOn), eq (.int .i64 a0.fSpan), eq (.int .i64 a0.fState), eq (.int .i64 a0.fTick), eq (.int .i64 a0.fStamp)]]) (F := F) [0, 1] 2 rfl rfl rfl)
theorem concourseref01_colon.c {k : Nat} {a0 : ByteArray} {r : Int} (h : concourseref01_colon.f k a0 = some r) : Pt Try.prog 71 [eq (.string a0)] (eq (.int .i64 r)) := by
  unfold concourseref01_colon.f at h
  refine (Tr.body Try.func71 (c := _) rfl Try.ntmps71 (Nat.le_of_ble_eq_true rfl) fun R0 F => ?_).pt
  replace h := Gets.of h
  have H := h
  clear h
  refine WP.seq ?_
  refine WP.reg [(0, false)] (by kernel_rfl) ?_
  refine Dv.asg rfl trivial rfl ?_
  refine .fin ?_
  refine WP.seqr H id (fun p83 : Int × Bool => [(0, eq (.string a0)), (2, eq (.int .i64 0)), (3, eq (.int .i64 p83.1)), (7, eq (.bool p83.2))]) (fun p83 : Int × Bool => [] ++ F) (fun p83 H => ?_) (fun H => ?_)
  · refine WP.seq ?_
    refine WP.reg [(0, false)] (by kernel_rfl) ?_
    refine Dv.asg rfl trivial rfl ?_
    refine .fin ?_
    obtain rfl := Gets.out H
    exact WP.retL (fun _ _ h => h) rfl () trivial (.cons (res_tmp rfl) .nil) rfl (st_sel (L := []) (F := F) [] 0 rfl rfl rfl)
  · refine WP.seq ?_
    refine WP.reg [(0, false)] (by kernel_rfl) ?_
    refine Dv.asg rfl trivial rfl ?_
    refine .fin ?_
    refine WP.block ?_
    refine WP.gh (l' := fun _ => [] ++ F) (gh_of (st_selg (L := []) (F := F) [] 0 rfl rfl rfl)) (fun _ _ => ?_)
    refine WP.loopg (fun j_ (p89 : Int) => concourseref01_colon.l0 k a0 j_ p89) 0 H (fun p89 => [(0, eq (.string a0)), (2, eq (.int .i64 0)), (3, eq (.int .i64 p89))]) (fun p89 => [] ++ F) (weak_cons rfl (weak_cons rfl (weak_cons rfl weak_nil))) (List.Perm.refl _) ?_
    rintro j_ x84 H
    rcases j_ with _ | j88
    · exact (Gets.no H).elim
    replace H : Gets (concourseref01_colon.l0 k a0 (j88 + 1) x84) _ := H
    rw [concourseref01_colon.l0] at H
    refine WP.seq ?_
    refine WP.seq ?_
    refine WP.reg [(0, false), (1, false), (2, false), (3, false)] (by kernel_rfl) ?_
    refine Dv.mv rfl trivial rfl ?_
    refine Dv.mv rfl trivial rfl ?_
    refine Dv.lens rfl trivial rfl Try.underlying9 ?_
    refine Dv.bin rfl trivial rfl rfl (fun _ => run_lt) ?_
    refine .fin ?_
    refine WP.cond rfl (fun c85 => ?_) (fun c85 => ?_)
    · replace H := Gets.ct H c85
      refine WP.skip ?_
      refine WP.seq ?_
      refine WP.block ?_
      refine WP.seq ?_
      refine WP.reg [(0, false), (1, false), (2, false), (3, false)] (by kernel_rfl) ?_
      refine Dv.mv rfl trivial rfl ?_
      refine Dv.mv rfl trivial rfl ?_
      obtain ⟨g86, H⟩ := Gets.grd H
      refine Dv.ixs rfl trivial rfl rfl Try.underlying9 g86.1 g86.2 ?_
      refine Dv.bin rfl trivial rfl rfl (fun _ => run_eq) ?_
      refine .fin ?_
      refine WP.cond rfl (fun c87 => ?_) (fun c87 => ?_)
      · replace H := Gets.ct H c87
        refine WP.seq ?_
        refine WP.reg [(0, false), (1, false)] (by kernel_rfl) ?_
        refine Dv.mv rfl trivial rfl ?_
        refine Dv.asg rfl trivial rfl ?_
        refine .fin ?_
        replace H := Gets.outr H
        obtain rfl := Gets.out H
        exact WP.retL (fun _ _ h => h) rfl () trivial (.cons (res_tmp rfl) .nil) rfl (st_sel (L := []) (F := F) [] 0 rfl rfl rfl)
      · replace H := Gets.cf H c87
        refine WP.skip ?_
        refine WP.reg [(0, false), (1, false), (2, false)] (by kernel_rfl) ?_
        refine Dv.mv rfl trivial rfl ?_
        refine Dv.bin rfl trivial rfl rfl (fun _ => run_add) ?_
        refine Dv.asg rfl trivial rfl ?_
        refine .fin ?_
        exact Back.mk j88 (w64 (x84 + 1)) (Nat.lt_succ_self _) H (weak_cons rfl (weak_cons rfl (weak_cons rfl weak_nil))) (List.Perm.refl _)
    · replace H := Gets.cf H c85
      refine WP.exit ?_
      replace H := Gets.out H
      exact Jn.mk (x84, decide (x84 < (a0.size : Int))) H (weak_cons rfl (weak_cons rfl (weak_cons rfl (weak_cons rfl weak_nil)))) (List.Perm.refl _)
theorem concourseref01_low.c {a0 : Int} {r : Bool} (h : concourseref01_low.f a0 = some r) : Pt Try.prog 74 [eq (.int .u8 a0)] (eq (.bool r)) := by
  unfold concourseref01_low.f at h
  refine (Tr.body Try.func74 (c := _) rfl Try.ntmps74 (Nat.le_of_ble_eq_true rfl) fun R0 F => ?_).pt
  replace h := Gets.of h
  have H := h
  clear h
  refine WP.seq ?_
  refine WP.reg [(0, false)] (by kernel_rfl) ?_
  refine Dv.asg rfl trivial rfl ?_
  refine .fin ?_
  refine WP.seq ?_
  refine WP.reg [(0, false), (1, false), (2, false), (3, false), (4, false), (5, false), (6, false), (7, false), (8, false), (9, false), (10, false), (11, false), (12, false), (13, false), (14, false)] (by kernel_rfl) ?_
  refine Dv.mv rfl trivial rfl ?_
  refine Dv.bin rfl trivial rfl rfl (fun _ => run_ge) ?_
  refine Dv.mv rfl trivial rfl ?_
  cases c90 : decide (97 ≤ a0)
  · replace H := Gets.cf H c90
    refine Dv.skip rfl ⟨_, _, rfl, rfl, .inl rfl⟩ ?_
    refine Dv.skip rfl ⟨_, _, rfl, rfl, .inl rfl⟩ ?_
    refine Dv.pickF rfl trivial rfl rfl ?_
    refine Dv.mv rfl trivial rfl ?_
    refine Dv.mv rfl ⟨_, _, rfl, rfl, rfl⟩ rfl ?_
    refine Dv.bin rfl ⟨_, _, rfl, rfl, rfl⟩ rfl rfl (fun _ => run_ge) ?_
    refine Dv.mv rfl ⟨_, _, rfl, rfl, rfl⟩ rfl ?_
    cases c93 : decide (48 ≤ a0)
    · replace H := Gets.cf H c93
      refine Dv.skip rfl ⟨_, _, rfl, rfl, .inl rfl⟩ ?_
      refine Dv.skip rfl ⟨_, _, rfl, rfl, .inl rfl⟩ ?_
      refine Dv.pickF rfl ⟨_, _, rfl, rfl, rfl⟩ rfl rfl ?_
      refine Dv.pickF rfl trivial rfl rfl ?_
      refine Dv.asg rfl trivial rfl ?_
      refine .fin ?_
      obtain rfl := Gets.out H
      exact WP.retL (fun _ _ h => h) rfl () trivial (.cons (res_tmp rfl) .nil) rfl (st_sel (L := []) (F := F) [] 0 rfl rfl rfl)
    · replace H := Gets.ct H c93
      refine Dv.mv rfl ⟨_, _, rfl, rfl, rfl⟩ rfl ?_
      refine Dv.bin rfl ⟨_, _, rfl, rfl, rfl⟩ rfl rfl (fun _ => run_le) ?_
      refine Dv.pickT rfl ⟨_, _, rfl, rfl, rfl⟩ rfl rfl ?_
      refine Dv.pickF rfl trivial rfl rfl ?_
      refine Dv.asg rfl trivial rfl ?_
      refine .fin ?_
      obtain rfl := Gets.out H
      exact WP.retL (fun _ _ h => h) rfl () trivial (.cons (res_tmp rfl) .nil) rfl (st_sel (L := []) (F := F) [] 0 rfl rfl rfl)
  · replace H := Gets.ct H c90
    refine Dv.mv rfl ⟨_, _, rfl, rfl, rfl⟩ rfl ?_
    refine Dv.bin rfl ⟨_, _, rfl, rfl, rfl⟩ rfl rfl (fun _ => run_le) ?_
    refine Dv.pickT rfl trivial rfl rfl ?_
    refine Dv.mv rfl trivial rfl ?_
    cases c91 : decide (a0 ≤ 122)
    · replace H := Gets.cf H c91
      refine Dv.mv rfl ⟨_, _, rfl, rfl, rfl⟩ rfl ?_
      refine Dv.bin rfl ⟨_, _, rfl, rfl, rfl⟩ rfl rfl (fun _ => run_ge) ?_
      refine Dv.mv rfl ⟨_, _, rfl, rfl, rfl⟩ rfl ?_
      cases c92 : decide (48 ≤ a0)
      · replace H := Gets.cf H c92
        refine Dv.skip rfl ⟨_, _, rfl, rfl, .inl rfl⟩ ?_
        refine Dv.skip rfl ⟨_, _, rfl, rfl, .inl rfl⟩ ?_
        refine Dv.pickF rfl ⟨_, _, rfl, rfl, rfl⟩ rfl rfl ?_
        refine Dv.pickF rfl trivial rfl rfl ?_
        refine Dv.asg rfl trivial rfl ?_
        refine .fin ?_
        obtain rfl := Gets.out H
        exact WP.retL (fun _ _ h => h) rfl () trivial (.cons (res_tmp rfl) .nil) rfl (st_sel (L := []) (F := F) [] 0 rfl rfl rfl)
      · replace H := Gets.ct H c92
        refine Dv.mv rfl ⟨_, _, rfl, rfl, rfl⟩ rfl ?_
        refine Dv.bin rfl ⟨_, _, rfl, rfl, rfl⟩ rfl rfl (fun _ => run_le) ?_
        refine Dv.pickT rfl ⟨_, _, rfl, rfl, rfl⟩ rfl rfl ?_
        refine Dv.pickF rfl trivial rfl rfl ?_
        refine Dv.asg rfl trivial rfl ?_
        refine .fin ?_
        obtain rfl := Gets.out H
        exact WP.retL (fun _ _ h => h) rfl () trivial (.cons (res_tmp rfl) .nil) rfl (st_sel (L := []) (F := F) [] 0 rfl rfl rfl)
    · replace H := Gets.ct H c91
      refine Dv.skip rfl ⟨_, _, rfl, rfl, .inl rfl⟩ ?_
      refine Dv.skip rfl ⟨_, _, rfl, rfl, .inl rfl⟩ ?_
      refine Dv.skip rfl ⟨_, _, rfl, rfl, .inl rfl⟩ ?_
      refine Dv.skip rfl ⟨_, _, rfl, rfl, .inr rfl⟩ ?_
      refine Dv.skip rfl ⟨_, _, rfl, rfl, .inr rfl⟩ ?_
      refine Dv.skip rfl ⟨_, _, rfl, rfl, .inl rfl⟩ ?_
      refine Dv.pickT rfl trivial rfl rfl ?_
      refine Dv.asg rfl trivial rfl ?_
      refine .fin ?_
      obtain rfl := Gets.out H
      exact WP.retL (fun _ _ h => h) rfl () trivial (.cons (res_tmp rfl) .nil) rfl (st_sel (L := []) (F := F) [] 0 rfl rfl rfl)
theorem concourseref01_Part.c {k : Nat} {a0 : ByteArray} {r : Bool} (h : concourseref01_Part.f k a0 = some r) : Pt Try.prog 72 [eq (.string a0)] (eq (.bool r)) := by
  unfold concourseref01_Part.f at h
  refine (Tr.body Try.func72 (c := _) rfl Try.ntmps72 (Nat.le_of_ble_eq_true rfl) fun R0 F => ?_).pt
  replace h := Gets.of h
  have H := h
  clear h
  refine WP.seq ?_
  refine WP.reg [(0, false)] (by kernel_rfl) ?_
  refine Dv.asg rfl trivial rfl ?_
  refine .fin ?_
  refine WP.seqr H id (fun p94 : Int × Bool => [(0, eq (.string a0)), (2, eq (.bool false)), (3, eq (.int .i64 p94.1)), (8, eq (.bool p94.2))]) (fun p94 : Int × Bool => [] ++ F) (fun p94 H => ?_) (fun H => ?_)
  · refine WP.seq ?_
    refine WP.reg [(0, false), (1, false), (2, false), (3, false), (4, false), (5, false), (6, false), (7, false), (8, false)] (by kernel_rfl) ?_
    refine Dv.mv rfl trivial rfl ?_
    refine Dv.lens rfl trivial rfl Try.underlying9 ?_
    refine Dv.bin rfl trivial rfl rfl (fun _ => run_gt) ?_
    refine Dv.mv rfl trivial rfl ?_
    cases c95 : decide (0 < (a0.size : Int))
    · replace H := Gets.cf H c95
      refine Dv.skip rfl ⟨_, _, rfl, rfl, .inl rfl⟩ ?_
      refine Dv.skip rfl ⟨_, _, rfl, rfl, .inl rfl⟩ ?_
      refine Dv.skip rfl ⟨_, _, rfl, rfl, .inl rfl⟩ ?_
      refine Dv.pickF rfl trivial rfl rfl ?_
      refine Dv.asg rfl trivial rfl ?_
      refine .fin ?_
      obtain rfl := Gets.out H
      exact WP.retL (fun _ _ h => h) rfl () trivial (.cons (res_tmp rfl) .nil) rfl (st_sel (L := []) (F := F) [] 0 rfl rfl rfl)
    · replace H := Gets.ct H c95
      refine Dv.mv rfl ⟨_, _, rfl, rfl, rfl⟩ rfl ?_
      refine Dv.lens rfl ⟨_, _, rfl, rfl, rfl⟩ rfl Try.underlying9 ?_
      refine Dv.bin rfl ⟨_, _, rfl, rfl, rfl⟩ rfl rfl (fun _ => run_lt) ?_
      refine Dv.pickT rfl trivial rfl rfl ?_
      refine Dv.asg rfl trivial rfl ?_
      refine .fin ?_
      obtain rfl := Gets.out H
      exact WP.retL (fun _ _ h => h) rfl () trivial (.cons (res_tmp rfl) .nil) rfl (st_sel (L := []) (F := F) [] 0 rfl rfl rfl)
  · refine WP.seq ?_
    refine WP.reg [(0, false)] (by kernel_rfl) ?_
    refine Dv.asg rfl trivial rfl ?_
    refine .fin ?_
    refine WP.block ?_
    refine WP.gh (l' := fun _ => [] ++ F) (gh_of (st_selg (L := []) (F := F) [] 0 rfl rfl rfl)) (fun _ _ => ?_)
    refine WP.loopg (fun j_ (p112 : Int) => concourseref01_Part.l0 k a0 j_ p112) 0 H (fun p112 => [(0, eq (.string a0)), (2, eq (.bool false)), (3, eq (.int .i64 p112))]) (fun p112 => [] ++ F) (weak_cons rfl (weak_cons rfl (weak_cons rfl weak_nil))) (List.Perm.refl _) ?_
    rintro j_ x96 H
    rcases j_ with _ | j111
    · exact (Gets.no H).elim
    replace H : Gets (concourseref01_Part.l0 k a0 (j111 + 1) x96) _ := H
    rw [concourseref01_Part.l0] at H
    refine WP.seq ?_
    refine WP.seq ?_
    refine WP.reg [(0, false), (1, false), (2, false), (3, false)] (by kernel_rfl) ?_
    refine Dv.mv rfl trivial rfl ?_
    refine Dv.mv rfl trivial rfl ?_
    refine Dv.lens rfl trivial rfl Try.underlying9 ?_
    refine Dv.bin rfl trivial rfl rfl (fun _ => run_lt) ?_
    refine .fin ?_
    refine WP.cond rfl (fun c97 => ?_) (fun c97 => ?_)
    · replace H := Gets.ct H c97
      refine WP.skip ?_
      refine WP.seq ?_
      refine WP.block ?_
      refine WP.seq ?_
      refine WP.reg [(0, false), (1, false), (2, false), (3, false), (4, false)] (by kernel_rfl) ?_
      refine Dv.mv rfl trivial rfl ?_
      refine Dv.mv rfl trivial rfl ?_
      obtain ⟨g98, H⟩ := Gets.grd H
      refine Dv.ixs rfl trivial rfl rfl Try.underlying9 g98.1 g98.2 ?_
      obtain ⟨t99, h100, H⟩ := Gets.call H
      refine Dv.call rfl trivial cal74 rfl (concourseref01_low.c h100) ?_
      refine Dv.asg rfl trivial rfl ?_
      refine .fin ?_
      refine WP.seq ?_
      refine WP.reg [(0, false), (1, false), (2, false), (3, false), (4, false), (5, false), (6, false), (7, false), (8, false), (9, false), (10, false), (11, false), (12, false), (13, false), (14, false), (15, false), (16, false), (17, false), (18, false), (19, false)] (by kernel_rfl) ?_
      refine Dv.mv rfl trivial rfl ?_
      refine Dv.un rfl trivial rfl (fun _ => run_not _) ?_
      refine Dv.mv rfl trivial rfl ?_
      cases c101 : !t99
      · replace H := Gets.cf H c101
        refine Dv.skip rfl ⟨_, _, rfl, rfl, .inl rfl⟩ ?_
        refine Dv.skip rfl ⟨_, _, rfl, rfl, .inl rfl⟩ ?_
        refine Dv.skip rfl ⟨_, _, rfl, rfl, .inl rfl⟩ ?_
        refine Dv.skip rfl ⟨_, _, rfl, rfl, .inl rfl⟩ ?_
        refine Dv.pickF rfl trivial rfl rfl ?_
        refine Dv.mv rfl trivial rfl ?_
        refine Dv.skip rfl ⟨_, _, rfl, rfl, .inl rfl⟩ ?_
        refine Dv.skip rfl ⟨_, _, rfl, rfl, .inl rfl⟩ ?_
        refine Dv.skip rfl ⟨_, _, rfl, rfl, .inl rfl⟩ ?_
        refine Dv.skip rfl ⟨_, _, rfl, rfl, .inl rfl⟩ ?_
        refine Dv.pickF rfl trivial rfl rfl ?_
        refine Dv.mv rfl trivial rfl ?_
        refine Dv.skip rfl ⟨_, _, rfl, rfl, .inl rfl⟩ ?_
        refine Dv.skip rfl ⟨_, _, rfl, rfl, .inl rfl⟩ ?_
        refine Dv.skip rfl ⟨_, _, rfl, rfl, .inl rfl⟩ ?_
        refine Dv.skip rfl ⟨_, _, rfl, rfl, .inl rfl⟩ ?_
        refine Dv.pickF rfl trivial rfl rfl ?_
        refine .fin ?_
        refine WP.cond rfl nofun (fun _ => ?_)
        refine WP.skip ?_
        refine WP.reg [(0, false), (1, false), (2, false)] (by kernel_rfl) ?_
        refine Dv.mv rfl trivial rfl ?_
        refine Dv.bin rfl trivial rfl rfl (fun _ => run_add) ?_
        refine Dv.asg rfl trivial rfl ?_
        refine .fin ?_
        exact Back.mk j111 (w64 (x96 + 1)) (Nat.lt_succ_self _) H (weak_cons rfl (weak_cons rfl (weak_cons rfl weak_nil))) (List.Perm.refl _)
      · replace H := Gets.ct H c101
        refine Dv.mv rfl ⟨_, _, rfl, rfl, rfl⟩ rfl ?_
        refine Dv.mv rfl ⟨_, _, rfl, rfl, rfl⟩ rfl ?_
        obtain ⟨g102, H⟩ := Gets.grd H
        refine Dv.ixs rfl ⟨_, _, rfl, rfl, rfl⟩ rfl rfl Try.underlying9 g102.1 g102.2 ?_
        refine Dv.bin rfl ⟨_, _, rfl, rfl, rfl⟩ rfl rfl (fun _ => run_ne) ?_
        refine Dv.pickT rfl trivial rfl rfl ?_
        refine Dv.mv rfl trivial rfl ?_
        cases c103 : ((bt a0 x96) != 46)
        · replace H := Gets.cf H c103
          refine Dv.skip rfl ⟨_, _, rfl, rfl, .inl rfl⟩ ?_
          refine Dv.skip rfl ⟨_, _, rfl, rfl, .inl rfl⟩ ?_
          refine Dv.skip rfl ⟨_, _, rfl, rfl, .inl rfl⟩ ?_
          refine Dv.skip rfl ⟨_, _, rfl, rfl, .inl rfl⟩ ?_
          refine Dv.pickF rfl trivial rfl rfl ?_
          refine Dv.mv rfl trivial rfl ?_
          refine Dv.skip rfl ⟨_, _, rfl, rfl, .inl rfl⟩ ?_
          refine Dv.skip rfl ⟨_, _, rfl, rfl, .inl rfl⟩ ?_
          refine Dv.skip rfl ⟨_, _, rfl, rfl, .inl rfl⟩ ?_
          refine Dv.skip rfl ⟨_, _, rfl, rfl, .inl rfl⟩ ?_
          refine Dv.pickF rfl trivial rfl rfl ?_
          refine .fin ?_
          refine WP.cond rfl nofun (fun _ => ?_)
          refine WP.skip ?_
          refine WP.reg [(0, false), (1, false), (2, false)] (by kernel_rfl) ?_
          refine Dv.mv rfl trivial rfl ?_
          refine Dv.bin rfl trivial rfl rfl (fun _ => run_add) ?_
          refine Dv.asg rfl trivial rfl ?_
          refine .fin ?_
          exact Back.mk j111 (w64 (x96 + 1)) (Nat.lt_succ_self _) H (weak_cons rfl (weak_cons rfl (weak_cons rfl weak_nil))) (List.Perm.refl _)
        · replace H := Gets.ct H c103
          refine Dv.mv rfl ⟨_, _, rfl, rfl, rfl⟩ rfl ?_
          refine Dv.mv rfl ⟨_, _, rfl, rfl, rfl⟩ rfl ?_
          obtain ⟨g104, H⟩ := Gets.grd H
          refine Dv.ixs rfl ⟨_, _, rfl, rfl, rfl⟩ rfl rfl Try.underlying9 g104.1 g104.2 ?_
          refine Dv.bin rfl ⟨_, _, rfl, rfl, rfl⟩ rfl rfl (fun _ => run_ne) ?_
          refine Dv.pickT rfl trivial rfl rfl ?_
          refine Dv.mv rfl trivial rfl ?_
          cases c105 : ((bt a0 x96) != 45)
          · replace H := Gets.cf H c105
            refine Dv.skip rfl ⟨_, _, rfl, rfl, .inl rfl⟩ ?_
            refine Dv.skip rfl ⟨_, _, rfl, rfl, .inl rfl⟩ ?_
            refine Dv.skip rfl ⟨_, _, rfl, rfl, .inl rfl⟩ ?_
            refine Dv.skip rfl ⟨_, _, rfl, rfl, .inl rfl⟩ ?_
            refine Dv.pickF rfl trivial rfl rfl ?_
            refine .fin ?_
            refine WP.cond rfl nofun (fun _ => ?_)
            refine WP.skip ?_
            refine WP.reg [(0, false), (1, false), (2, false)] (by kernel_rfl) ?_
            refine Dv.mv rfl trivial rfl ?_
            refine Dv.bin rfl trivial rfl rfl (fun _ => run_add) ?_
            refine Dv.asg rfl trivial rfl ?_
            refine .fin ?_
            exact Back.mk j111 (w64 (x96 + 1)) (Nat.lt_succ_self _) H (weak_cons rfl (weak_cons rfl (weak_cons rfl weak_nil))) (List.Perm.refl _)
          · replace H := Gets.ct H c105
            refine Dv.mv rfl ⟨_, _, rfl, rfl, rfl⟩ rfl ?_
            refine Dv.mv rfl ⟨_, _, rfl, rfl, rfl⟩ rfl ?_
            obtain ⟨g106, H⟩ := Gets.grd H
            refine Dv.ixs rfl ⟨_, _, rfl, rfl, rfl⟩ rfl rfl Try.underlying9 g106.1 g106.2 ?_
            refine Dv.bin rfl ⟨_, _, rfl, rfl, rfl⟩ rfl rfl (fun _ => run_ne) ?_
            refine Dv.pickT rfl trivial rfl rfl ?_
            refine .fin ?_
            refine WP.cond rfl (fun c107 => ?_) (fun c107 => ?_)
            · replace H := Gets.ct H c107
              refine WP.seq ?_
              refine WP.reg [(0, false)] (by kernel_rfl) ?_
              refine Dv.asg rfl trivial rfl ?_
              refine .fin ?_
              replace H := Gets.outr H
              obtain rfl := Gets.out H
              exact WP.retL (fun _ _ h => h) rfl () trivial (.cons (res_tmp rfl) .nil) rfl (st_sel (L := []) (F := F) [] 0 rfl rfl rfl)
            · replace H := Gets.cf H c107
              refine WP.skip ?_
              refine WP.reg [(0, false), (1, false), (2, false)] (by kernel_rfl) ?_
              refine Dv.mv rfl trivial rfl ?_
              refine Dv.bin rfl trivial rfl rfl (fun _ => run_add) ?_
              refine Dv.asg rfl trivial rfl ?_
              refine .fin ?_
              exact Back.mk j111 (w64 (x96 + 1)) (Nat.lt_succ_self _) H (weak_cons rfl (weak_cons rfl (weak_cons rfl weak_nil))) (List.Perm.refl _)
    · replace H := Gets.cf H c97
      refine WP.exit ?_
      replace H := Gets.out H
      exact Jn.mk (x96, decide (x96 < (a0.size : Int))) H (weak_cons rfl (weak_cons rfl (weak_cons rfl (weak_cons rfl weak_nil)))) (List.Perm.refl _)
theorem concourseref01_Server.c {k : Nat} {a0 : ByteArray} {r : Bool} (h : concourseref01_Server.f k a0 = some r) : Pt Try.prog 73 [eq (.string a0)] (eq (.bool r)) := by
  unfold concourseref01_Server.f at h
  refine (Tr.body Try.func73 (c := _) rfl Try.ntmps73 (Nat.le_of_ble_eq_true rfl) fun R0 F => ?_).pt
  replace h := Gets.of h
  have H := h
  clear h
  refine WP.seq ?_
  refine WP.reg [(0, false)] (by kernel_rfl) ?_
  refine Dv.asg rfl trivial rfl ?_
  refine .fin ?_
  refine WP.seqr H id (fun p113 : Int × Bool => [(0, eq (.string a0)), (2, eq (.bool false)), (3, eq (.int .i64 p113.1)), (9, eq (.bool p113.2))]) (fun p113 : Int × Bool => [] ++ F) (fun p113 H => ?_) (fun H => ?_)
  · refine WP.seq ?_
    refine WP.reg [(0, false), (1, false), (2, false), (3, false), (4, false), (5, false), (6, false), (7, false), (8, false)] (by kernel_rfl) ?_
    refine Dv.mv rfl trivial rfl ?_
    refine Dv.lens rfl trivial rfl Try.underlying9 ?_
    refine Dv.bin rfl trivial rfl rfl (fun _ => run_gt) ?_
    refine Dv.mv rfl trivial rfl ?_
    cases c114 : decide (0 < (a0.size : Int))
    · replace H := Gets.cf H c114
      refine Dv.skip rfl ⟨_, _, rfl, rfl, .inl rfl⟩ ?_
      refine Dv.skip rfl ⟨_, _, rfl, rfl, .inl rfl⟩ ?_
      refine Dv.skip rfl ⟨_, _, rfl, rfl, .inl rfl⟩ ?_
      refine Dv.pickF rfl trivial rfl rfl ?_
      refine Dv.asg rfl trivial rfl ?_
      refine .fin ?_
      obtain rfl := Gets.out H
      exact WP.retL (fun _ _ h => h) rfl () trivial (.cons (res_tmp rfl) .nil) rfl (st_sel (L := []) (F := F) [] 0 rfl rfl rfl)
    · replace H := Gets.ct H c114
      refine Dv.mv rfl ⟨_, _, rfl, rfl, rfl⟩ rfl ?_
      refine Dv.lens rfl ⟨_, _, rfl, rfl, rfl⟩ rfl Try.underlying9 ?_
      refine Dv.bin rfl ⟨_, _, rfl, rfl, rfl⟩ rfl rfl (fun _ => run_lt) ?_
      refine Dv.pickT rfl trivial rfl rfl ?_
      refine Dv.asg rfl trivial rfl ?_
      refine .fin ?_
      obtain rfl := Gets.out H
      exact WP.retL (fun _ _ h => h) rfl () trivial (.cons (res_tmp rfl) .nil) rfl (st_sel (L := []) (F := F) [] 0 rfl rfl rfl)
  · refine WP.seq ?_
    refine WP.reg [(0, false)] (by kernel_rfl) ?_
    refine Dv.asg rfl trivial rfl ?_
    refine .fin ?_
    refine WP.block ?_
    refine WP.gh (l' := fun _ => [] ++ F) (gh_of (st_selg (L := []) (F := F) [] 0 rfl rfl rfl)) (fun _ _ => ?_)
    refine WP.loopg (fun j_ (p138 : Int) => concourseref01_Server.l0 k a0 j_ p138) 0 H (fun p138 => [(0, eq (.string a0)), (2, eq (.bool false)), (3, eq (.int .i64 p138))]) (fun p138 => [] ++ F) (weak_cons rfl (weak_cons rfl (weak_cons rfl weak_nil))) (List.Perm.refl _) ?_
    rintro j_ x115 H
    rcases j_ with _ | j137
    · exact (Gets.no H).elim
    replace H : Gets (concourseref01_Server.l0 k a0 (j137 + 1) x115) _ := H
    rw [concourseref01_Server.l0] at H
    refine WP.seq ?_
    refine WP.seq ?_
    refine WP.reg [(0, false), (1, false), (2, false), (3, false)] (by kernel_rfl) ?_
    refine Dv.mv rfl trivial rfl ?_
    refine Dv.mv rfl trivial rfl ?_
    refine Dv.lens rfl trivial rfl Try.underlying9 ?_
    refine Dv.bin rfl trivial rfl rfl (fun _ => run_lt) ?_
    refine .fin ?_
    refine WP.cond rfl (fun c116 => ?_) (fun c116 => ?_)
    · replace H := Gets.ct H c116
      refine WP.skip ?_
      refine WP.seq ?_
      refine WP.block ?_
      refine WP.seq ?_
      refine WP.reg [(0, false), (1, false), (2, false), (3, false), (4, false)] (by kernel_rfl) ?_
      refine Dv.mv rfl trivial rfl ?_
      refine Dv.mv rfl trivial rfl ?_
      obtain ⟨g117, H⟩ := Gets.grd H
      refine Dv.ixs rfl trivial rfl rfl Try.underlying9 g117.1 g117.2 ?_
      obtain ⟨t118, h119, H⟩ := Gets.call H
      refine Dv.call rfl trivial cal74 rfl (concourseref01_low.c h119) ?_
      refine Dv.asg rfl trivial rfl ?_
      refine .fin ?_
      refine WP.seq ?_
      refine WP.reg [(0, false), (1, false), (2, false), (3, false), (4, false), (5, false), (6, false), (7, false), (8, false), (9, false), (10, false), (11, false), (12, false), (13, false), (14, false), (15, false), (16, false), (17, false), (18, false), (19, false), (20, false), (21, false)] (by kernel_rfl) ?_
      refine Dv.mv rfl trivial rfl ?_
      refine Dv.bin rfl trivial rfl rfl (fun _ => run_gt) ?_
      refine Dv.mv rfl trivial rfl ?_
      cases c120 : decide (0 < x115)
      · replace H := Gets.cf H c120
        refine Dv.skip rfl ⟨_, _, rfl, rfl, .inl rfl⟩ ?_
        refine Dv.skip rfl ⟨_, _, rfl, rfl, .inl rfl⟩ ?_
        refine Dv.skip rfl ⟨_, _, rfl, rfl, .inl rfl⟩ ?_
        refine Dv.skip rfl ⟨_, _, rfl, rfl, .inl rfl⟩ ?_
        refine Dv.skip rfl ⟨_, _, rfl, rfl, .inl rfl⟩ ?_
        refine Dv.pickF rfl trivial rfl rfl ?_
        refine Dv.mv rfl trivial rfl ?_
        refine Dv.skip rfl ⟨_, _, rfl, rfl, .inl rfl⟩ ?_
        refine Dv.skip rfl ⟨_, _, rfl, rfl, .inl rfl⟩ ?_
        refine Dv.skip rfl ⟨_, _, rfl, rfl, .inl rfl⟩ ?_
        refine Dv.skip rfl ⟨_, _, rfl, rfl, .inl rfl⟩ ?_
        refine Dv.skip rfl ⟨_, _, rfl, rfl, .inl rfl⟩ ?_
        refine Dv.skip rfl ⟨_, _, rfl, rfl, .inr rfl⟩ ?_
        refine Dv.skip rfl ⟨_, _, rfl, rfl, .inr rfl⟩ ?_
        refine Dv.skip rfl ⟨_, _, rfl, rfl, .inr rfl⟩ ?_
        refine Dv.skip rfl ⟨_, _, rfl, rfl, .inr rfl⟩ ?_
        refine Dv.skip rfl ⟨_, _, rfl, rfl, .inl rfl⟩ ?_
        refine Dv.pickF rfl trivial rfl rfl ?_
        refine Dv.asg rfl trivial rfl ?_
        refine .fin ?_
        refine WP.seq ?_
        refine WP.reg [(0, false), (1, false), (2, false), (3, false), (4, false), (5, false)] (by kernel_rfl) ?_
        refine Dv.mv rfl trivial rfl ?_
        refine Dv.un rfl trivial rfl (fun _ => run_not _) ?_
        refine Dv.mv rfl trivial rfl ?_
        cases c134 : !t118
        · replace H := Gets.cf H c134
          refine Dv.skip rfl ⟨_, _, rfl, rfl, .inl rfl⟩ ?_
          refine Dv.skip rfl ⟨_, _, rfl, rfl, .inl rfl⟩ ?_
          refine Dv.pickF rfl trivial rfl rfl ?_
          refine .fin ?_
          refine WP.cond rfl nofun (fun _ => ?_)
          refine WP.skip ?_
          refine WP.reg [(0, false), (1, false), (2, false)] (by kernel_rfl) ?_
          refine Dv.mv rfl trivial rfl ?_
          refine Dv.bin rfl trivial rfl rfl (fun _ => run_add) ?_
          refine Dv.asg rfl trivial rfl ?_
          refine .fin ?_
          exact Back.mk j137 (w64 (x115 + 1)) (Nat.lt_succ_self _) H (weak_cons rfl (weak_cons rfl (weak_cons rfl weak_nil))) (List.Perm.refl _)
        · replace H := Gets.ct H c134
          refine Dv.mv rfl ⟨_, _, rfl, rfl, rfl⟩ rfl ?_
          refine Dv.un rfl ⟨_, _, rfl, rfl, rfl⟩ rfl (fun _ => run_not _) ?_
          refine Dv.pickT rfl trivial rfl rfl ?_
          refine .fin ?_
          refine WP.cond rfl (fun _ => ?_) nofun
          refine WP.seq ?_
          refine WP.reg [(0, false)] (by kernel_rfl) ?_
          refine Dv.asg rfl trivial rfl ?_
          refine .fin ?_
          replace H := Gets.outr H
          obtain rfl := Gets.out H
          exact WP.retL (fun _ _ h => h) rfl () trivial (.cons (res_tmp rfl) .nil) rfl (st_sel (L := []) (F := F) [] 0 rfl rfl rfl)
      · replace H := Gets.ct H c120
        refine Dv.mv rfl ⟨_, _, rfl, rfl, rfl⟩ rfl ?_
        refine Dv.mv rfl ⟨_, _, rfl, rfl, rfl⟩ rfl ?_
        refine Dv.lens rfl ⟨_, _, rfl, rfl, rfl⟩ rfl Try.underlying9 ?_
        refine Dv.bin rfl ⟨_, _, rfl, rfl, rfl⟩ rfl rfl (fun _ => run_sub) ?_
        refine Dv.bin rfl ⟨_, _, rfl, rfl, rfl⟩ rfl rfl (fun _ => run_lt) ?_
        refine Dv.pickT rfl trivial rfl rfl ?_
        refine Dv.mv rfl trivial rfl ?_
        cases c121 : decide (x115 < (w64 ((a0.size : Int) - 1)))
        · replace H := Gets.cf H c121
          refine Dv.skip rfl ⟨_, _, rfl, rfl, .inl rfl⟩ ?_
          refine Dv.skip rfl ⟨_, _, rfl, rfl, .inl rfl⟩ ?_
          refine Dv.skip rfl ⟨_, _, rfl, rfl, .inl rfl⟩ ?_
          refine Dv.skip rfl ⟨_, _, rfl, rfl, .inl rfl⟩ ?_
          refine Dv.skip rfl ⟨_, _, rfl, rfl, .inl rfl⟩ ?_
          refine Dv.skip rfl ⟨_, _, rfl, rfl, .inr rfl⟩ ?_
          refine Dv.skip rfl ⟨_, _, rfl, rfl, .inr rfl⟩ ?_
          refine Dv.skip rfl ⟨_, _, rfl, rfl, .inr rfl⟩ ?_
          refine Dv.skip rfl ⟨_, _, rfl, rfl, .inr rfl⟩ ?_
          refine Dv.skip rfl ⟨_, _, rfl, rfl, .inl rfl⟩ ?_
          refine Dv.pickF rfl trivial rfl rfl ?_
          refine Dv.asg rfl trivial rfl ?_
          refine .fin ?_
          refine WP.seq ?_
          refine WP.reg [(0, false), (1, false), (2, false), (3, false), (4, false), (5, false)] (by kernel_rfl) ?_
          refine Dv.mv rfl trivial rfl ?_
          refine Dv.un rfl trivial rfl (fun _ => run_not _) ?_
          refine Dv.mv rfl trivial rfl ?_
          cases c131 : !t118
          · replace H := Gets.cf H c131
            refine Dv.skip rfl ⟨_, _, rfl, rfl, .inl rfl⟩ ?_
            refine Dv.skip rfl ⟨_, _, rfl, rfl, .inl rfl⟩ ?_
            refine Dv.pickF rfl trivial rfl rfl ?_
            refine .fin ?_
            refine WP.cond rfl nofun (fun _ => ?_)
            refine WP.skip ?_
            refine WP.reg [(0, false), (1, false), (2, false)] (by kernel_rfl) ?_
            refine Dv.mv rfl trivial rfl ?_
            refine Dv.bin rfl trivial rfl rfl (fun _ => run_add) ?_
            refine Dv.asg rfl trivial rfl ?_
            refine .fin ?_
            exact Back.mk j137 (w64 (x115 + 1)) (Nat.lt_succ_self _) H (weak_cons rfl (weak_cons rfl (weak_cons rfl weak_nil))) (List.Perm.refl _)
          · replace H := Gets.ct H c131
            refine Dv.mv rfl ⟨_, _, rfl, rfl, rfl⟩ rfl ?_
            refine Dv.un rfl ⟨_, _, rfl, rfl, rfl⟩ rfl (fun _ => run_not _) ?_
            refine Dv.pickT rfl trivial rfl rfl ?_
            refine .fin ?_
            refine WP.cond rfl (fun _ => ?_) nofun
            refine WP.seq ?_
            refine WP.reg [(0, false)] (by kernel_rfl) ?_
            refine Dv.asg rfl trivial rfl ?_
            refine .fin ?_
            replace H := Gets.outr H
            obtain rfl := Gets.out H
            exact WP.retL (fun _ _ h => h) rfl () trivial (.cons (res_tmp rfl) .nil) rfl (st_sel (L := []) (F := F) [] 0 rfl rfl rfl)
        · replace H := Gets.ct H c121
          refine Dv.mv rfl ⟨_, _, rfl, rfl, rfl⟩ rfl ?_
          refine Dv.mv rfl ⟨_, _, rfl, rfl, rfl⟩ rfl ?_
          obtain ⟨g122, H⟩ := Gets.grd H
          refine Dv.ixs rfl ⟨_, _, rfl, rfl, rfl⟩ rfl rfl Try.underlying9 g122.1 g122.2 ?_
          refine Dv.bin rfl ⟨_, _, rfl, rfl, rfl⟩ rfl rfl (fun _ => run_eq) ?_
          refine Dv.mv rfl ⟨_, _, rfl, rfl, rfl⟩ rfl ?_
          cases c123 : ((bt a0 x115) == 46)
          · replace H := Gets.cf H c123
            refine Dv.mv rfl ⟨_, _, rfl, rfl, rfl⟩ rfl ?_
            refine Dv.mv rfl ⟨_, _, rfl, rfl, rfl⟩ rfl ?_
            obtain ⟨g127, H⟩ := Gets.grd H
            refine Dv.ixs rfl ⟨_, _, rfl, rfl, rfl⟩ rfl rfl Try.underlying9 g127.1 g127.2 ?_
            refine Dv.bin rfl ⟨_, _, rfl, rfl, rfl⟩ rfl rfl (fun _ => run_eq) ?_
            refine Dv.pickF rfl ⟨_, _, rfl, rfl, rfl⟩ rfl rfl ?_
            refine Dv.pickT rfl trivial rfl rfl ?_
            refine Dv.asg rfl trivial rfl ?_
            refine .fin ?_
            refine WP.seq ?_
            refine WP.reg [(0, false), (1, false), (2, false), (3, false), (4, false), (5, false)] (by kernel_rfl) ?_
            refine Dv.mv rfl trivial rfl ?_
            refine Dv.un rfl trivial rfl (fun _ => run_not _) ?_
            refine Dv.mv rfl trivial rfl ?_
            cases c128 : !t118
            · replace H := Gets.cf H c128
              refine Dv.skip rfl ⟨_, _, rfl, rfl, .inl rfl⟩ ?_
              refine Dv.skip rfl ⟨_, _, rfl, rfl, .inl rfl⟩ ?_
              refine Dv.pickF rfl trivial rfl rfl ?_
              refine .fin ?_
              refine WP.cond rfl nofun (fun _ => ?_)
              refine WP.skip ?_
              refine WP.reg [(0, false), (1, false), (2, false)] (by kernel_rfl) ?_
              refine Dv.mv rfl trivial rfl ?_
              refine Dv.bin rfl trivial rfl rfl (fun _ => run_add) ?_
              refine Dv.asg rfl trivial rfl ?_
              refine .fin ?_
              exact Back.mk j137 (w64 (x115 + 1)) (Nat.lt_succ_self _) H (weak_cons rfl (weak_cons rfl (weak_cons rfl weak_nil))) (List.Perm.refl _)
            · replace H := Gets.ct H c128
              refine Dv.mv rfl ⟨_, _, rfl, rfl, rfl⟩ rfl ?_
              refine Dv.un rfl ⟨_, _, rfl, rfl, rfl⟩ rfl (fun _ => run_not _) ?_
              refine Dv.pickT rfl trivial rfl rfl ?_
              refine .fin ?_
              refine WP.cond rfl (fun c129 => ?_) (fun c129 => ?_)
              · replace H := Gets.ct H c129
                refine WP.seq ?_
                refine WP.reg [(0, false)] (by kernel_rfl) ?_
                refine Dv.asg rfl trivial rfl ?_
                refine .fin ?_
                replace H := Gets.outr H
                obtain rfl := Gets.out H
                exact WP.retL (fun _ _ h => h) rfl () trivial (.cons (res_tmp rfl) .nil) rfl (st_sel (L := []) (F := F) [] 0 rfl rfl rfl)
              · replace H := Gets.cf H c129
                refine WP.skip ?_
                refine WP.reg [(0, false), (1, false), (2, false)] (by kernel_rfl) ?_
                refine Dv.mv rfl trivial rfl ?_
                refine Dv.bin rfl trivial rfl rfl (fun _ => run_add) ?_
                refine Dv.asg rfl trivial rfl ?_
                refine .fin ?_
                exact Back.mk j137 (w64 (x115 + 1)) (Nat.lt_succ_self _) H (weak_cons rfl (weak_cons rfl (weak_cons rfl weak_nil))) (List.Perm.refl _)
          · replace H := Gets.ct H c123
            refine Dv.skip rfl ⟨_, _, rfl, rfl, .inl rfl⟩ ?_
            refine Dv.skip rfl ⟨_, _, rfl, rfl, .inl rfl⟩ ?_
            refine Dv.skip rfl ⟨_, _, rfl, rfl, .inl rfl⟩ ?_
            refine Dv.skip rfl ⟨_, _, rfl, rfl, .inl rfl⟩ ?_
            refine Dv.pickT rfl ⟨_, _, rfl, rfl, rfl⟩ rfl rfl ?_
            refine Dv.pickT rfl trivial rfl rfl ?_
            refine Dv.asg rfl trivial rfl ?_
            refine .fin ?_
            refine WP.seq ?_
            refine WP.reg [(0, false), (1, false), (2, false), (3, false), (4, false), (5, false)] (by kernel_rfl) ?_
            refine Dv.mv rfl trivial rfl ?_
            refine Dv.un rfl trivial rfl (fun _ => run_not _) ?_
            refine Dv.mv rfl trivial rfl ?_
            cases c124 : !t118
            · replace H := Gets.cf H c124
              refine Dv.skip rfl ⟨_, _, rfl, rfl, .inl rfl⟩ ?_
              refine Dv.skip rfl ⟨_, _, rfl, rfl, .inl rfl⟩ ?_
              refine Dv.pickF rfl trivial rfl rfl ?_
              refine .fin ?_
              refine WP.cond rfl nofun (fun _ => ?_)
              refine WP.skip ?_
              refine WP.reg [(0, false), (1, false), (2, false)] (by kernel_rfl) ?_
              refine Dv.mv rfl trivial rfl ?_
              refine Dv.bin rfl trivial rfl rfl (fun _ => run_add) ?_
              refine Dv.asg rfl trivial rfl ?_
              refine .fin ?_
              exact Back.mk j137 (w64 (x115 + 1)) (Nat.lt_succ_self _) H (weak_cons rfl (weak_cons rfl (weak_cons rfl weak_nil))) (List.Perm.refl _)
            · replace H := Gets.ct H c124
              refine Dv.mv rfl ⟨_, _, rfl, rfl, rfl⟩ rfl ?_
              refine Dv.un rfl ⟨_, _, rfl, rfl, rfl⟩ rfl (fun _ => run_not _) ?_
              refine Dv.pickT rfl trivial rfl rfl ?_
              refine .fin ?_
              refine WP.cond rfl nofun (fun _ => ?_)
              refine WP.skip ?_
              refine WP.reg [(0, false), (1, false), (2, false)] (by kernel_rfl) ?_
              refine Dv.mv rfl trivial rfl ?_
              refine Dv.bin rfl trivial rfl rfl (fun _ => run_add) ?_
              refine Dv.asg rfl trivial rfl ?_
              refine .fin ?_
              exact Back.mk j137 (w64 (x115 + 1)) (Nat.lt_succ_self _) H (weak_cons rfl (weak_cons rfl (weak_cons rfl weak_nil))) (List.Perm.refl _)
    · replace H := Gets.cf H c116
      refine WP.exit ?_
      replace H := Gets.out H
      exact Jn.mk (x115, decide (x115 < (a0.size : Int))) H (weak_cons rfl (weak_cons rfl (weak_cons rfl (weak_cons rfl weak_nil)))) (List.Perm.refl _)
theorem concourseref01_Named.c {k : Nat} {a0 : ByteArray} {a1 : Int} {r : Bool} (h : concourseref01_Named.f k a0 a1 = some r) : Pt Try.prog 57 [eq (.string a0), eq (.int .u8 a1)] (eq (.bool r)) := by
  unfold concourseref01_Named.f at h
  refine (Tr.body Try.func57 (c := _) rfl Try.ntmps57 (Nat.le_of_ble_eq_true rfl) fun R0 F => ?_).pt
  replace h := Gets.of h
  have H := h
  clear h
  refine WP.seq ?_
  refine WP.reg [(0, false)] (by kernel_rfl) ?_
  refine Dv.asg rfl trivial rfl ?_
  refine .fin ?_
  refine WP.seq ?_
  refine WP.reg [(0, false), (1, false), (2, false)] (by kernel_rfl) ?_
  refine Dv.mv rfl trivial rfl ?_
  obtain ⟨t139, h140, H⟩ := Gets.call H
  refine Dv.call rfl trivial cal71 rfl (concourseref01_colon.c h140) ?_
  refine Dv.asg rfl trivial rfl ?_
  refine .fin ?_
  refine WP.seq ?_
  refine WP.seq ?_
  refine WP.reg [(0, false), (1, false), (2, false), (3, false), (4, false), (5, false), (6, false), (7, false)] (by kernel_rfl) ?_
  refine Dv.mv rfl trivial rfl ?_
  refine Dv.bin rfl trivial rfl rfl (fun _ => run_lt) ?_
  refine Dv.mv rfl trivial rfl ?_
  cases c141 : decide (t139 < 1)
  · replace H := Gets.cf H c141
    refine Dv.mv rfl ⟨_, _, rfl, rfl, rfl⟩ rfl ?_
    obtain ⟨g143, H⟩ := Gets.grd H
    refine Dv.ixs rfl ⟨_, _, rfl, rfl, rfl⟩ rfl rfl Try.underlying9 g143.1 g143.2 ?_
    refine Dv.mv rfl ⟨_, _, rfl, rfl, rfl⟩ rfl ?_
    refine Dv.bin rfl ⟨_, _, rfl, rfl, rfl⟩ rfl rfl (fun _ => run_ne) ?_
    refine Dv.pickF rfl trivial rfl rfl ?_
    refine .fin ?_
    refine WP.cond rfl (fun c144 => ?_) (fun c144 => ?_)
    · replace H := Gets.ct H c144
      refine WP.seq ?_
      refine WP.reg [(0, false)] (by kernel_rfl) ?_
      refine Dv.asg rfl trivial rfl ?_
      refine .fin ?_
      obtain rfl := Gets.out H
      exact WP.retL (fun _ _ h => h) rfl () trivial (.cons (res_tmp rfl) .nil) rfl (st_sel (L := []) (F := F) [] 0 rfl rfl rfl)
    · replace H := Gets.cf H c144
      refine WP.skip ?_
      refine WP.seq ?_
      refine WP.reg [(0, false), (1, false), (2, false), (3, false), (4, false)] (by kernel_rfl) ?_
      refine Dv.mv rfl trivial rfl ?_
      refine Dv.mv rfl trivial rfl ?_
      obtain ⟨g145, H⟩ := Gets.grd H
      refine Dv.sss rfl trivial rfl Try.underlying9 (bdE_some rfl g145.1) (bdE_some rfl g145.2.1) g145.2.2.1 g145.2.2.2 ?_
      obtain ⟨t146, h147, H⟩ := Gets.call H
      refine Dv.call rfl trivial cal72 rfl (concourseref01_Part.c h147) ?_
      refine Dv.asg rfl trivial rfl ?_
      refine .fin ?_
      refine WP.seq ?_
      refine WP.reg [(0, false), (1, false), (2, false), (3, false), (4, false), (5, false)] (by kernel_rfl) ?_
      refine Dv.mv rfl trivial rfl ?_
      refine Dv.mv rfl trivial rfl ?_
      refine Dv.bin rfl trivial rfl rfl (fun _ => run_add) ?_
      obtain ⟨g148, H⟩ := Gets.grd H
      refine Dv.sss rfl trivial rfl Try.underlying9 (bdE_some rfl g148.1) bdE_none g148.2.1 g148.2.2 ?_
      obtain ⟨t149, h150, H⟩ := Gets.call H
      refine Dv.call rfl trivial cal73 rfl (concourseref01_Server.c h150) ?_
      refine Dv.asg rfl trivial rfl ?_
      refine .fin ?_
      refine WP.seq ?_
      refine WP.reg [(0, false), (1, false), (2, false), (3, false), (4, false)] (by kernel_rfl) ?_
      refine Dv.mv rfl trivial rfl ?_
      refine Dv.mv rfl trivial rfl ?_
      cases c151 : t146
      · replace H := Gets.cf H c151
        refine Dv.skip rfl ⟨_, _, rfl, rfl, .inl rfl⟩ ?_
        refine Dv.pickF rfl trivial rfl rfl ?_
        refine Dv.asg rfl trivial rfl ?_
        refine .fin ?_
        obtain rfl := Gets.out H
        exact WP.retL (fun _ _ h => h) rfl () trivial (.cons (res_tmp rfl) .nil) rfl (st_sel (L := []) (F := F) [] 0 rfl rfl rfl)
      · replace H := Gets.ct H c151
        refine Dv.mv rfl ⟨_, _, rfl, rfl, rfl⟩ rfl ?_
        refine Dv.pickT rfl trivial rfl rfl ?_
        refine Dv.asg rfl trivial rfl ?_
        refine .fin ?_
        obtain rfl := Gets.out H
        exact WP.retL (fun _ _ h => h) rfl () trivial (.cons (res_tmp rfl) .nil) rfl (st_sel (L := []) (F := F) [] 0 rfl rfl rfl)
  · replace H := Gets.ct H c141
    refine Dv.skip rfl ⟨_, _, rfl, rfl, .inl rfl⟩ ?_
    refine Dv.skip rfl ⟨_, _, rfl, rfl, .inl rfl⟩ ?_
    refine Dv.skip rfl ⟨_, _, rfl, rfl, .inl rfl⟩ ?_
    refine Dv.skip rfl ⟨_, _, rfl, rfl, .inl rfl⟩ ?_
    refine Dv.pickT rfl trivial rfl rfl ?_
    refine .fin ?_
    refine WP.cond rfl (fun _ => ?_) nofun
    refine WP.seq ?_
    refine WP.reg [(0, false)] (by kernel_rfl) ?_
    refine Dv.asg rfl trivial rfl ?_
    refine .fin ?_
    obtain rfl := Gets.out H
    exact WP.retL (fun _ _ h => h) rfl () trivial (.cons (res_tmp rfl) .nil) rfl (st_sel (L := []) (F := F) [] 0 rfl rfl rfl)
theorem concourseref01_Event.c {k : Nat} {a0 : ByteArray} {r : Bool} (h : concourseref01_Event.f k a0 = some r) : Pt Try.prog 58 [eq (.string a0)] (eq (.bool r)) := by
  unfold concourseref01_Event.f at h
  refine (Tr.body Try.func58 (c := _) rfl Try.ntmps58 (Nat.le_of_ble_eq_true rfl) fun R0 F => ?_).pt
  replace h := Gets.of h
  have H := h
  clear h
  refine WP.seq ?_
  refine WP.reg [(0, false)] (by kernel_rfl) ?_
  refine Dv.asg rfl trivial rfl ?_
  refine .fin ?_
  refine WP.seq ?_
  refine WP.seq ?_
  refine WP.reg [(0, false), (1, false), (2, false), (3, false), (4, false), (5, false), (6, false), (7, false), (8, false), (9, false), (10, false), (11, false), (12, false)] (by kernel_rfl) ?_
  refine Dv.mv rfl trivial rfl ?_
  refine Dv.lens rfl trivial rfl Try.underlying9 ?_
  refine Dv.bin rfl trivial rfl rfl (fun _ => run_lt) ?_
  refine Dv.mv rfl trivial rfl ?_
  cases c152 : decide ((a0.size : Int) < 2)
  · replace H := Gets.cf H c152
    refine Dv.mv rfl ⟨_, _, rfl, rfl, rfl⟩ rfl ?_
    refine Dv.lens rfl ⟨_, _, rfl, rfl, rfl⟩ rfl Try.underlying9 ?_
    refine Dv.bin rfl ⟨_, _, rfl, rfl, rfl⟩ rfl rfl (fun _ => run_gt) ?_
    refine Dv.pickF rfl trivial rfl rfl ?_
    refine Dv.mv rfl trivial rfl ?_
    cases c154 : decide (17 < (a0.size : Int))
    · replace H := Gets.cf H c154
      refine Dv.mv rfl ⟨_, _, rfl, rfl, rfl⟩ rfl ?_
      obtain ⟨g156, H⟩ := Gets.grd H
      refine Dv.ixs rfl ⟨_, _, rfl, rfl, rfl⟩ rfl rfl Try.underlying9 g156.1 g156.2 ?_
      refine Dv.bin rfl ⟨_, _, rfl, rfl, rfl⟩ rfl rfl (fun _ => run_ne) ?_
      refine Dv.pickF rfl trivial rfl rfl ?_
      refine .fin ?_
      refine WP.cond rfl (fun c157 => ?_) (fun c157 => ?_)
      · replace H := Gets.ct H c157
        refine WP.seq ?_
        refine WP.reg [(0, false)] (by kernel_rfl) ?_
        refine Dv.asg rfl trivial rfl ?_
        refine .fin ?_
        obtain rfl := Gets.out H
        exact WP.retL (fun _ _ h => h) rfl () trivial (.cons (res_tmp rfl) .nil) rfl (st_sel (L := []) (F := F) [] 0 rfl rfl rfl)
      · replace H := Gets.cf H c157
        refine WP.skip ?_
        refine WP.seqr H id (fun p158 : Int × Bool => [(0, eq (.string a0)), (2, eq (.bool false)), (3, eq (.int .i64 p158.1)), (18, eq (.bool ((bt a0 0) != 36))), (22, eq (.bool p158.2))]) (fun p158 : Int × Bool => [] ++ F) (fun p158 H => ?_) (fun H => ?_)
        · refine WP.seq ?_
          refine WP.reg [(0, false)] (by kernel_rfl) ?_
          refine Dv.asg rfl trivial rfl ?_
          refine .fin ?_
          obtain rfl := Gets.out H
          exact WP.retL (fun _ _ h => h) rfl () trivial (.cons (res_tmp rfl) .nil) rfl (st_sel (L := []) (F := F) [] 0 rfl rfl rfl)
        · refine WP.seq ?_
          refine WP.reg [(0, false)] (by kernel_rfl) ?_
          refine Dv.asg rfl trivial rfl ?_
          refine .fin ?_
          refine WP.block ?_
          refine WP.gh (l' := fun _ => [] ++ F) (gh_of (st_selg (L := []) (F := F) [] 0 rfl rfl rfl)) (fun _ _ => ?_)
          refine WP.loopg (fun j_ (p184 : Int) => concourseref01_Event.l0 k a0 j_ p184) 1 H (fun p184 => [(0, eq (.string a0)), (2, eq (.bool false)), (3, eq (.int .i64 p184)), (18, eq (.bool ((bt a0 0) != 36)))]) (fun p184 => [] ++ F) (weak_cons rfl (weak_cons rfl (weak_cons rfl (weak_cons rfl weak_nil)))) (List.Perm.refl _) ?_
          rintro j_ x159 H
          rcases j_ with _ | j183
          · exact (Gets.no H).elim
          replace H : Gets (concourseref01_Event.l0 k a0 (j183 + 1) x159) _ := H
          rw [concourseref01_Event.l0] at H
          refine WP.seq ?_
          refine WP.seq ?_
          refine WP.reg [(0, false), (1, false), (2, false), (3, false)] (by kernel_rfl) ?_
          refine Dv.mv rfl trivial rfl ?_
          refine Dv.mv rfl trivial rfl ?_
          refine Dv.lens rfl trivial rfl Try.underlying9 ?_
          refine Dv.bin rfl trivial rfl rfl (fun _ => run_lt) ?_
          refine .fin ?_
          refine WP.cond rfl (fun c160 => ?_) (fun c160 => ?_)
          · replace H := Gets.ct H c160
            refine WP.skip ?_
            refine WP.seq ?_
            refine WP.block ?_
            refine WP.seq ?_
            refine WP.reg [(0, false), (1, false), (2, false), (3, false), (4, false)] (by kernel_rfl) ?_
            refine Dv.mv rfl trivial rfl ?_
            refine Dv.mv rfl trivial rfl ?_
            obtain ⟨g161, H⟩ := Gets.grd H
            refine Dv.ixs rfl trivial rfl rfl Try.underlying9 g161.1 g161.2 ?_
            obtain ⟨t162, h163, H⟩ := Gets.call H
            refine Dv.call rfl trivial cal74 rfl (concourseref01_low.c h163) ?_
            refine Dv.asg rfl trivial rfl ?_
            refine .fin ?_
            refine WP.seq ?_
            refine WP.reg [(0, false), (1, false), (2, false), (3, false), (4, false), (5, false), (6, false), (7, false), (8, false), (9, false), (10, false)] (by kernel_rfl) ?_
            refine Dv.mv rfl trivial rfl ?_
            refine Dv.mv rfl trivial rfl ?_
            obtain ⟨g164, H⟩ := Gets.grd H
            refine Dv.ixs rfl trivial rfl rfl Try.underlying9 g164.1 g164.2 ?_
            refine Dv.bin rfl trivial rfl rfl (fun _ => run_ge) ?_
            refine Dv.mv rfl trivial rfl ?_
            cases c165 : decide (65 ≤ (bt a0 x159))
            · replace H := Gets.cf H c165
              refine Dv.skip rfl ⟨_, _, rfl, rfl, .inl rfl⟩ ?_
              refine Dv.skip rfl ⟨_, _, rfl, rfl, .inl rfl⟩ ?_
              refine Dv.skip rfl ⟨_, _, rfl, rfl, .inl rfl⟩ ?_
              refine Dv.skip rfl ⟨_, _, rfl, rfl, .inl rfl⟩ ?_
              refine Dv.pickF rfl trivial rfl rfl ?_
              refine Dv.asg rfl trivial rfl ?_
              refine .fin ?_
              refine WP.seq ?_
              refine WP.reg [(0, false), (1, false), (2, false), (3, false), (4, false), (5, false), (6, false), (7, false), (8, false), (9, false), (10, false), (11, false), (12, false), (13, false), (14, false), (15, false), (16, false), (17, false)] (by kernel_rfl) ?_
              refine Dv.mv rfl trivial rfl ?_
              refine Dv.un rfl trivial rfl (fun _ => run_not _) ?_
              refine Dv.mv rfl trivial rfl ?_
              cases c176 : !t162
              · replace H := Gets.cf H c176
                refine Dv.skip rfl ⟨_, _, rfl, rfl, .inl rfl⟩ ?_
                refine Dv.skip rfl ⟨_, _, rfl, rfl, .inl rfl⟩ ?_
                refine Dv.pickF rfl trivial rfl rfl ?_
                refine Dv.mv rfl trivial rfl ?_
                refine Dv.skip rfl ⟨_, _, rfl, rfl, .inl rfl⟩ ?_
                refine Dv.skip rfl ⟨_, _, rfl, rfl, .inl rfl⟩ ?_
                refine Dv.skip rfl ⟨_, _, rfl, rfl, .inl rfl⟩ ?_
                refine Dv.skip rfl ⟨_, _, rfl, rfl, .inl rfl⟩ ?_
                refine Dv.pickF rfl trivial rfl rfl ?_
                refine Dv.mv rfl trivial rfl ?_
                refine Dv.skip rfl ⟨_, _, rfl, rfl, .inl rfl⟩ ?_
                refine Dv.skip rfl ⟨_, _, rfl, rfl, .inl rfl⟩ ?_
                refine Dv.skip rfl ⟨_, _, rfl, rfl, .inl rfl⟩ ?_
                refine Dv.skip rfl ⟨_, _, rfl, rfl, .inl rfl⟩ ?_
                refine Dv.pickF rfl trivial rfl rfl ?_
                refine .fin ?_
                refine WP.cond rfl nofun (fun _ => ?_)
                refine WP.skip ?_
                refine WP.reg [(0, false), (1, false), (2, false)] (by kernel_rfl) ?_
                refine Dv.mv rfl trivial rfl ?_
                refine Dv.bin rfl trivial rfl rfl (fun _ => run_add) ?_
                refine Dv.asg rfl trivial rfl ?_
                refine .fin ?_
                exact Back.mk j183 (w64 (x159 + 1)) (Nat.lt_succ_self _) H (weak_cons rfl (weak_cons rfl (weak_cons rfl (weak_cons rfl weak_nil)))) (List.Perm.refl _)
              · replace H := Gets.ct H c176
                refine Dv.mv rfl ⟨_, _, rfl, rfl, rfl⟩ rfl ?_
                refine Dv.un rfl ⟨_, _, rfl, rfl, rfl⟩ rfl (fun _ => run_not _) ?_
                refine Dv.pickT rfl trivial rfl rfl ?_
                refine Dv.mv rfl trivial rfl ?_
                refine Dv.mv rfl ⟨_, _, rfl, rfl, rfl⟩ rfl ?_
                refine Dv.mv rfl ⟨_, _, rfl, rfl, rfl⟩ rfl ?_
                obtain ⟨g177, H⟩ := Gets.grd H
                refine Dv.ixs rfl ⟨_, _, rfl, rfl, rfl⟩ rfl rfl Try.underlying9 g177.1 g177.2 ?_
                refine Dv.bin rfl ⟨_, _, rfl, rfl, rfl⟩ rfl rfl (fun _ => run_ne) ?_
                refine Dv.pickT rfl trivial rfl rfl ?_
                refine Dv.mv rfl trivial rfl ?_
                cases c178 : ((bt a0 x159) != 45)
                · replace H := Gets.cf H c178
                  refine Dv.skip rfl ⟨_, _, rfl, rfl, .inl rfl⟩ ?_
                  refine Dv.skip rfl ⟨_, _, rfl, rfl, .inl rfl⟩ ?_
                  refine Dv.skip rfl ⟨_, _, rfl, rfl, .inl rfl⟩ ?_
                  refine Dv.skip rfl ⟨_, _, rfl, rfl, .inl rfl⟩ ?_
                  refine Dv.pickF rfl trivial rfl rfl ?_
                  refine .fin ?_
                  refine WP.cond rfl nofun (fun _ => ?_)
                  refine WP.skip ?_
                  refine WP.reg [(0, false), (1, false), (2, false)] (by kernel_rfl) ?_
                  refine Dv.mv rfl trivial rfl ?_
                  refine Dv.bin rfl trivial rfl rfl (fun _ => run_add) ?_
                  refine Dv.asg rfl trivial rfl ?_
                  refine .fin ?_
                  exact Back.mk j183 (w64 (x159 + 1)) (Nat.lt_succ_self _) H (weak_cons rfl (weak_cons rfl (weak_cons rfl (weak_cons rfl weak_nil)))) (List.Perm.refl _)
                · replace H := Gets.ct H c178
                  refine Dv.mv rfl ⟨_, _, rfl, rfl, rfl⟩ rfl ?_
                  refine Dv.mv rfl ⟨_, _, rfl, rfl, rfl⟩ rfl ?_
                  obtain ⟨g179, H⟩ := Gets.grd H
                  refine Dv.ixs rfl ⟨_, _, rfl, rfl, rfl⟩ rfl rfl Try.underlying9 g179.1 g179.2 ?_
                  refine Dv.bin rfl ⟨_, _, rfl, rfl, rfl⟩ rfl rfl (fun _ => run_ne) ?_
                  refine Dv.pickT rfl trivial rfl rfl ?_
                  refine .fin ?_
                  refine WP.cond rfl (fun c180 => ?_) (fun c180 => ?_)
                  · replace H := Gets.ct H c180
                    refine WP.seq ?_
                    refine WP.reg [(0, false)] (by kernel_rfl) ?_
                    refine Dv.asg rfl trivial rfl ?_
                    refine .fin ?_
                    replace H := Gets.outr H
                    obtain rfl := Gets.out H
                    exact WP.retL (fun _ _ h => h) rfl () trivial (.cons (res_tmp rfl) .nil) rfl (st_sel (L := []) (F := F) [] 0 rfl rfl rfl)
                  · replace H := Gets.cf H c180
                    refine WP.skip ?_
                    refine WP.reg [(0, false), (1, false), (2, false)] (by kernel_rfl) ?_
                    refine Dv.mv rfl trivial rfl ?_
                    refine Dv.bin rfl trivial rfl rfl (fun _ => run_add) ?_
                    refine Dv.asg rfl trivial rfl ?_
                    refine .fin ?_
                    exact Back.mk j183 (w64 (x159 + 1)) (Nat.lt_succ_self _) H (weak_cons rfl (weak_cons rfl (weak_cons rfl (weak_cons rfl weak_nil)))) (List.Perm.refl _)
            · replace H := Gets.ct H c165
              refine Dv.mv rfl ⟨_, _, rfl, rfl, rfl⟩ rfl ?_
              refine Dv.mv rfl ⟨_, _, rfl, rfl, rfl⟩ rfl ?_
              obtain ⟨g166, H⟩ := Gets.grd H
              refine Dv.ixs rfl ⟨_, _, rfl, rfl, rfl⟩ rfl rfl Try.underlying9 g166.1 g166.2 ?_
              refine Dv.bin rfl ⟨_, _, rfl, rfl, rfl⟩ rfl rfl (fun _ => run_le) ?_
              refine Dv.pickT rfl trivial rfl rfl ?_
              refine Dv.asg rfl trivial rfl ?_
              refine .fin ?_
              refine WP.seq ?_
              refine WP.reg [(0, false), (1, false), (2, false), (3, false), (4, false), (5, false), (6, false), (7, false), (8, false), (9, false), (10, false), (11, false), (12, false), (13, false), (14, false), (15, false), (16, false), (17, false)] (by kernel_rfl) ?_
              refine Dv.mv rfl trivial rfl ?_
              refine Dv.un rfl trivial rfl (fun _ => run_not _) ?_
              refine Dv.mv rfl trivial rfl ?_
              cases c167 : !t162
              · replace H := Gets.cf H c167
                refine Dv.skip rfl ⟨_, _, rfl, rfl, .inl rfl⟩ ?_
                refine Dv.skip rfl ⟨_, _, rfl, rfl, .inl rfl⟩ ?_
                refine Dv.pickF rfl trivial rfl rfl ?_
                refine Dv.mv rfl trivial rfl ?_
                refine Dv.skip rfl ⟨_, _, rfl, rfl, .inl rfl⟩ ?_
                refine Dv.skip rfl ⟨_, _, rfl, rfl, .inl rfl⟩ ?_
                refine Dv.skip rfl ⟨_, _, rfl, rfl, .inl rfl⟩ ?_
                refine Dv.skip rfl ⟨_, _, rfl, rfl, .inl rfl⟩ ?_
                refine Dv.pickF rfl trivial rfl rfl ?_
                refine Dv.mv rfl trivial rfl ?_
                refine Dv.skip rfl ⟨_, _, rfl, rfl, .inl rfl⟩ ?_
                refine Dv.skip rfl ⟨_, _, rfl, rfl, .inl rfl⟩ ?_
                refine Dv.skip rfl ⟨_, _, rfl, rfl, .inl rfl⟩ ?_
                refine Dv.skip rfl ⟨_, _, rfl, rfl, .inl rfl⟩ ?_
                refine Dv.pickF rfl trivial rfl rfl ?_
                refine .fin ?_
                refine WP.cond rfl nofun (fun _ => ?_)
                refine WP.skip ?_
                refine WP.reg [(0, false), (1, false), (2, false)] (by kernel_rfl) ?_
                refine Dv.mv rfl trivial rfl ?_
                refine Dv.bin rfl trivial rfl rfl (fun _ => run_add) ?_
                refine Dv.asg rfl trivial rfl ?_
                refine .fin ?_
                exact Back.mk j183 (w64 (x159 + 1)) (Nat.lt_succ_self _) H (weak_cons rfl (weak_cons rfl (weak_cons rfl (weak_cons rfl weak_nil)))) (List.Perm.refl _)
              · replace H := Gets.ct H c167
                refine Dv.mv rfl ⟨_, _, rfl, rfl, rfl⟩ rfl ?_
                refine Dv.un rfl ⟨_, _, rfl, rfl, rfl⟩ rfl (fun _ => run_not _) ?_
                refine Dv.pickT rfl trivial rfl rfl ?_
                refine Dv.mv rfl trivial rfl ?_
                cases c168 : !(decide ((bt a0 x159) ≤ 90))
                · replace H := Gets.cf H c168
                  refine Dv.skip rfl ⟨_, _, rfl, rfl, .inl rfl⟩ ?_
                  refine Dv.skip rfl ⟨_, _, rfl, rfl, .inl rfl⟩ ?_
                  refine Dv.skip rfl ⟨_, _, rfl, rfl, .inl rfl⟩ ?_
                  refine Dv.skip rfl ⟨_, _, rfl, rfl, .inl rfl⟩ ?_
                  refine Dv.pickF rfl trivial rfl rfl ?_
                  refine Dv.mv rfl trivial rfl ?_
                  refine Dv.skip rfl ⟨_, _, rfl, rfl, .inl rfl⟩ ?_
                  refine Dv.skip rfl ⟨_, _, rfl, rfl, .inl rfl⟩ ?_
                  refine Dv.skip rfl ⟨_, _, rfl, rfl, .inl rfl⟩ ?_
                  refine Dv.skip rfl ⟨_, _, rfl, rfl, .inl rfl⟩ ?_
                  refine Dv.pickF rfl trivial rfl rfl ?_
                  refine .fin ?_
                  refine WP.cond rfl nofun (fun _ => ?_)
                  refine WP.skip ?_
                  refine WP.reg [(0, false), (1, false), (2, false)] (by kernel_rfl) ?_
                  refine Dv.mv rfl trivial rfl ?_
                  refine Dv.bin rfl trivial rfl rfl (fun _ => run_add) ?_
                  refine Dv.asg rfl trivial rfl ?_
                  refine .fin ?_
                  exact Back.mk j183 (w64 (x159 + 1)) (Nat.lt_succ_self _) H (weak_cons rfl (weak_cons rfl (weak_cons rfl (weak_cons rfl weak_nil)))) (List.Perm.refl _)
                · replace H := Gets.ct H c168
                  refine Dv.mv rfl ⟨_, _, rfl, rfl, rfl⟩ rfl ?_
                  refine Dv.mv rfl ⟨_, _, rfl, rfl, rfl⟩ rfl ?_
                  obtain ⟨g169, H⟩ := Gets.grd H
                  refine Dv.ixs rfl ⟨_, _, rfl, rfl, rfl⟩ rfl rfl Try.underlying9 g169.1 g169.2 ?_
                  refine Dv.bin rfl ⟨_, _, rfl, rfl, rfl⟩ rfl rfl (fun _ => run_ne) ?_
                  refine Dv.pickT rfl trivial rfl rfl ?_
                  refine Dv.mv rfl trivial rfl ?_
                  cases c170 : ((bt a0 x159) != 45)
                  · replace H := Gets.cf H c170
                    refine Dv.skip rfl ⟨_, _, rfl, rfl, .inl rfl⟩ ?_
                    refine Dv.skip rfl ⟨_, _, rfl, rfl, .inl rfl⟩ ?_
                    refine Dv.skip rfl ⟨_, _, rfl, rfl, .inl rfl⟩ ?_
                    refine Dv.skip rfl ⟨_, _, rfl, rfl, .inl rfl⟩ ?_
                    refine Dv.pickF rfl trivial rfl rfl ?_
                    refine .fin ?_
                    refine WP.cond rfl nofun (fun _ => ?_)
                    refine WP.skip ?_
                    refine WP.reg [(0, false), (1, false), (2, false)] (by kernel_rfl) ?_
                    refine Dv.mv rfl trivial rfl ?_
                    refine Dv.bin rfl trivial rfl rfl (fun _ => run_add) ?_
                    refine Dv.asg rfl trivial rfl ?_
                    refine .fin ?_
                    exact Back.mk j183 (w64 (x159 + 1)) (Nat.lt_succ_self _) H (weak_cons rfl (weak_cons rfl (weak_cons rfl (weak_cons rfl weak_nil)))) (List.Perm.refl _)
                  · replace H := Gets.ct H c170
                    refine Dv.mv rfl ⟨_, _, rfl, rfl, rfl⟩ rfl ?_
                    refine Dv.mv rfl ⟨_, _, rfl, rfl, rfl⟩ rfl ?_
                    obtain ⟨g171, H⟩ := Gets.grd H
                    refine Dv.ixs rfl ⟨_, _, rfl, rfl, rfl⟩ rfl rfl Try.underlying9 g171.1 g171.2 ?_
                    refine Dv.bin rfl ⟨_, _, rfl, rfl, rfl⟩ rfl rfl (fun _ => run_ne) ?_
                    refine Dv.pickT rfl trivial rfl rfl ?_
                    refine .fin ?_
                    refine WP.cond rfl (fun c172 => ?_) (fun c172 => ?_)
                    · replace H := Gets.ct H c172
                      refine WP.seq ?_
                      refine WP.reg [(0, false)] (by kernel_rfl) ?_
                      refine Dv.asg rfl trivial rfl ?_
                      refine .fin ?_
                      replace H := Gets.outr H
                      obtain rfl := Gets.out H
                      exact WP.retL (fun _ _ h => h) rfl () trivial (.cons (res_tmp rfl) .nil) rfl (st_sel (L := []) (F := F) [] 0 rfl rfl rfl)
                    · replace H := Gets.cf H c172
                      refine WP.skip ?_
                      refine WP.reg [(0, false), (1, false), (2, false)] (by kernel_rfl) ?_
                      refine Dv.mv rfl trivial rfl ?_
                      refine Dv.bin rfl trivial rfl rfl (fun _ => run_add) ?_
                      refine Dv.asg rfl trivial rfl ?_
                      refine .fin ?_
                      exact Back.mk j183 (w64 (x159 + 1)) (Nat.lt_succ_self _) H (weak_cons rfl (weak_cons rfl (weak_cons rfl (weak_cons rfl weak_nil)))) (List.Perm.refl _)
          · replace H := Gets.cf H c160
            refine WP.exit ?_
            replace H := Gets.out H
            exact Jn.mk (x159, decide (x159 < (a0.size : Int))) H (weak_cons rfl (weak_cons rfl (weak_cons rfl (weak_cons rfl (weak_cons rfl weak_nil))))) (List.Perm.refl _)
    · replace H := Gets.ct H c154
      refine Dv.skip rfl ⟨_, _, rfl, rfl, .inl rfl⟩ ?_
      refine Dv.skip rfl ⟨_, _, rfl, rfl, .inl rfl⟩ ?_
      refine Dv.skip rfl ⟨_, _, rfl, rfl, .inl rfl⟩ ?_
      refine Dv.pickT rfl trivial rfl rfl ?_
      refine .fin ?_
      refine WP.cond rfl (fun _ => ?_) nofun
      refine WP.seq ?_
      refine WP.reg [(0, false)] (by kernel_rfl) ?_
      refine Dv.asg rfl trivial rfl ?_
      refine .fin ?_
      obtain rfl := Gets.out H
      exact WP.retL (fun _ _ h => h) rfl () trivial (.cons (res_tmp rfl) .nil) rfl (st_sel (L := []) (F := F) [] 0 rfl rfl rfl)
  · replace H := Gets.ct H c152
    refine Dv.skip rfl ⟨_, _, rfl, rfl, .inl rfl⟩ ?_
    refine Dv.skip rfl ⟨_, _, rfl, rfl, .inl rfl⟩ ?_
    refine Dv.skip rfl ⟨_, _, rfl, rfl, .inl rfl⟩ ?_
    refine Dv.pickT rfl trivial rfl rfl ?_
    refine Dv.mv rfl trivial rfl ?_
    refine Dv.skip rfl ⟨_, _, rfl, rfl, .inl rfl⟩ ?_
    refine Dv.skip rfl ⟨_, _, rfl, rfl, .inl rfl⟩ ?_
    refine Dv.skip rfl ⟨_, _, rfl, rfl, .inl rfl⟩ ?_
    refine Dv.pickT rfl trivial rfl rfl ?_
    refine .fin ?_
    refine WP.cond rfl (fun _ => ?_) nofun
    refine WP.seq ?_
    refine WP.reg [(0, false)] (by kernel_rfl) ?_
    refine Dv.asg rfl trivial rfl ?_
    refine .fin ?_
    obtain rfl := Gets.out H
    exact WP.retL (fun _ _ h => h) rfl () trivial (.cons (res_tmp rfl) .nil) rfl (st_sel (L := []) (F := F) [] 0 rfl rfl rfl)
theorem concourseref01_Thread.c {k : Nat} {a0 : ByteArray} {r : Bool} (h : concourseref01_Thread.f k a0 = some r) : Pt Try.prog 59 [eq (.string a0)] (eq (.bool r)) := by
  unfold concourseref01_Thread.f at h
  refine (Tr.body Try.func59 (c := _) rfl Try.ntmps59 (Nat.le_of_ble_eq_true rfl) fun R0 F => ?_).pt
  replace h := Gets.of h
  have H := h
  clear h
  refine WP.seq ?_
  refine WP.reg [(0, false)] (by kernel_rfl) ?_
  refine Dv.asg rfl trivial rfl ?_
  refine .fin ?_
  refine WP.seq ?_
  refine WP.reg [(0, false), (1, false), (2, false)] (by kernel_rfl) ?_
  refine Dv.mv rfl trivial rfl ?_
  obtain ⟨t185, h186, H⟩ := Gets.call H
  refine Dv.call rfl trivial cal58 rfl (concourseref01_Event.c h186) ?_
  refine Dv.asg rfl trivial rfl ?_
  refine .fin ?_
  refine WP.seq ?_
  refine WP.reg [(0, false), (1, false), (2, false), (3, false), (4, false), (5, false), (6, false), (7, false), (8, false), (9, false)] (by kernel_rfl) ?_
  refine Dv.mv rfl trivial rfl ?_
  refine Dv.bin rfl trivial rfl rfl (fun _ => run_seq) ?_
  refine Dv.mv rfl trivial rfl ?_
  cases c187 : decide (a0 = (⟨#[]⟩ : ByteArray))
  · replace H := Gets.cf H c187
    refine Dv.mv rfl ⟨_, _, rfl, rfl, rfl⟩ rfl ?_
    refine Dv.bin rfl ⟨_, _, rfl, rfl, rfl⟩ rfl rfl (fun _ => run_seq) ?_
    refine Dv.pickF rfl trivial rfl rfl ?_
    refine Dv.mv rfl trivial rfl ?_
    cases c188 : decide (a0 = (⟨#[109, 97, 105, 110]⟩ : ByteArray))
    · replace H := Gets.cf H c188
      refine Dv.mv rfl ⟨_, _, rfl, rfl, rfl⟩ rfl ?_
      refine Dv.pickF rfl trivial rfl rfl ?_
      refine Dv.asg rfl trivial rfl ?_
      refine .fin ?_
      obtain rfl := Gets.out H
      exact WP.retL (fun _ _ h => h) rfl () trivial (.cons (res_tmp rfl) .nil) rfl (st_sel (L := []) (F := F) [] 0 rfl rfl rfl)
    · replace H := Gets.ct H c188
      refine Dv.skip rfl ⟨_, _, rfl, rfl, .inl rfl⟩ ?_
      refine Dv.pickT rfl trivial rfl rfl ?_
      refine Dv.asg rfl trivial rfl ?_
      refine .fin ?_
      obtain rfl := Gets.out H
      exact WP.retL (fun _ _ h => h) rfl () trivial (.cons (res_tmp rfl) .nil) rfl (st_sel (L := []) (F := F) [] 0 rfl rfl rfl)
  · replace H := Gets.ct H c187
    refine Dv.skip rfl ⟨_, _, rfl, rfl, .inl rfl⟩ ?_
    refine Dv.skip rfl ⟨_, _, rfl, rfl, .inl rfl⟩ ?_
    refine Dv.pickT rfl trivial rfl rfl ?_
    refine Dv.mv rfl trivial rfl ?_
    refine Dv.skip rfl ⟨_, _, rfl, rfl, .inl rfl⟩ ?_
    refine Dv.pickT rfl trivial rfl rfl ?_
    refine Dv.asg rfl trivial rfl ?_
    refine .fin ?_
    obtain rfl := Gets.out H
    exact WP.retL (fun _ _ h => h) rfl () trivial (.cons (res_tmp rfl) .nil) rfl (st_sel (L := []) (F := F) [] 0 rfl rfl rfl)
theorem concourseref03_Local.c {k : Nat} {a0 : Edu} {r : Bool} (h : concourseref03_Local.f k a0 = some r) : Pt Try.prog 39 [agg (Edu.enc a0)] (eq (.bool r)) := by
  unfold concourseref03_Local.f at h
  refine (Tr.body Try.func39 (c := _) rfl Try.ntmps39 (Nat.le_of_ble_eq_true rfl) fun R0 F => ?_).pt
  replace h := Gets.of h
  have H := h
  clear h
  refine WP.seq ?_
  refine WP.reg [(0, true), (1, false)] (by kernel_rfl) ?_
  refine Dv.box rfl trivial rfl (cells_agg (Edu.K.one _)) nofun (fun b189 => ?_)
  refine Dv.asg rfl trivial rfl ?_
  refine .fin ?_
  refine WP.seq ?_
  refine WP.reg [(0, false), (1, false), (2, false), (3, false)] (by kernel_rfl) ?_
  refine Dv.fab rfl trivial rfl Try.underlying32 rfl Try.underlying9 c9 (by decide) ?_
  refine Dv.ldb rfl trivial rfl Try.underlying9 rfl (mem_at 0 rfl) rfl ?_
  obtain ⟨t190, h191, H⟩ := Gets.call H
  refine Dv.call rfl trivial cal57 rfl (concourseref01_Named.c h191) ?_
  refine Dv.asg rfl trivial rfl ?_
  refine .fin ?_
  refine WP.seq ?_
  refine WP.reg [(0, false), (1, false), (2, false), (3, false)] (by kernel_rfl) ?_
  refine Dv.fab rfl trivial rfl Try.underlying32 rfl Try.underlying9 c9 (by decide) ?_
  refine Dv.ldb rfl trivial rfl Try.underlying9 rfl (mem_at 0 rfl) rfl ?_
  obtain ⟨t192, h193, H⟩ := Gets.call H
  refine Dv.call rfl trivial cal57 rfl (concourseref01_Named.c h193) ?_
  refine Dv.asg rfl trivial rfl ?_
  refine .fin ?_
  refine WP.seq ?_
  refine WP.reg [(0, false), (1, false), (2, false), (3, false)] (by kernel_rfl) ?_
  refine Dv.fab rfl trivial rfl Try.underlying32 rfl Try.underlying9 c9 (by decide) ?_
  refine Dv.ldb rfl trivial rfl Try.underlying9 rfl (mem_at 0 rfl) rfl ?_
  obtain ⟨t194, h195, H⟩ := Gets.call H
  refine Dv.call rfl trivial cal58 rfl (concourseref01_Event.c h195) ?_
  refine Dv.asg rfl trivial rfl ?_
  refine .fin ?_
  refine WP.seq ?_
  refine WP.reg [(0, false), (1, false), (2, false), (3, false)] (by kernel_rfl) ?_
  refine Dv.fab rfl trivial rfl Try.underlying32 rfl Try.underlying9 c9 (by decide) ?_
  refine Dv.ldb rfl trivial rfl Try.underlying9 rfl (mem_at 0 rfl) rfl ?_
  obtain ⟨t196, h197, H⟩ := Gets.call H
  refine Dv.call rfl trivial cal59 rfl (concourseref01_Thread.c h197) ?_
  refine Dv.asg rfl trivial rfl ?_
  refine .fin ?_
  refine WP.seq ?_
  refine WP.seq ?_
  refine WP.reg [(0, false), (1, false), (2, false), (3, false), (4, false), (5, false), (6, false), (7, false), (8, false), (9, false), (10, false), (11, false), (12, false), (13, false), (14, false), (15, false), (16, false), (17, false), (18, false), (19, false), (20, false), (21, false)] (by kernel_rfl) ?_
  refine Dv.mv rfl trivial rfl ?_
  refine Dv.un rfl trivial rfl (fun _ => run_not _) ?_
  refine Dv.mv rfl trivial rfl ?_
  cases c198 : !t190
  · replace H := Gets.cf H c198
    refine Dv.fab rfl ⟨_, _, rfl, rfl, rfl⟩ rfl Try.underlying32 rfl Try.underlying3 c3 (by decide) ?_
    refine Dv.ldb rfl ⟨_, _, rfl, rfl, rfl⟩ rfl Try.underlying3 rfl (mem_at 0 rfl) rfl ?_
    refine Dv.bin rfl ⟨_, _, rfl, rfl, rfl⟩ rfl rfl (fun _ => run_lt) ?_
    refine Dv.pickF rfl trivial rfl rfl ?_
    refine Dv.mv rfl trivial rfl ?_
    cases c200 : decide (a0.fTick < 0)
    · replace H := Gets.cf H c200
      refine Dv.fab rfl ⟨_, _, rfl, rfl, rfl⟩ rfl Try.underlying32 rfl Try.underlying3 c3 (by decide) ?_
      refine Dv.ldb rfl ⟨_, _, rfl, rfl, rfl⟩ rfl Try.underlying3 rfl (mem_at 0 rfl) rfl ?_
      refine Dv.bin rfl ⟨_, _, rfl, rfl, rfl⟩ rfl rfl (fun _ => run_gt) ?_
      refine Dv.pickF rfl trivial rfl rfl ?_
      refine Dv.mv rfl trivial rfl ?_
      cases c202 : decide (1099511627776 < a0.fTick)
      · replace H := Gets.cf H c202
        refine Dv.fab rfl ⟨_, _, rfl, rfl, rfl⟩ rfl Try.underlying32 rfl Try.underlying3 c3 (by decide) ?_
        refine Dv.ldb rfl ⟨_, _, rfl, rfl, rfl⟩ rfl Try.underlying3 rfl (mem_at 0 rfl) rfl ?_
        refine Dv.bin rfl ⟨_, _, rfl, rfl, rfl⟩ rfl rfl (fun _ => run_lt) ?_
        refine Dv.pickF rfl trivial rfl rfl ?_
        refine Dv.mv rfl trivial rfl ?_
        cases c204 : decide (a0.fStamp < 0)
        · replace H := Gets.cf H c204
          refine Dv.fab rfl ⟨_, _, rfl, rfl, rfl⟩ rfl Try.underlying32 rfl Try.underlying3 c3 (by decide) ?_
          refine Dv.ldb rfl ⟨_, _, rfl, rfl, rfl⟩ rfl Try.underlying3 rfl (mem_at 0 rfl) rfl ?_
          refine Dv.bin rfl ⟨_, _, rfl, rfl, rfl⟩ rfl rfl (fun _ => run_gt) ?_
          refine Dv.pickF rfl trivial rfl rfl ?_
          refine .fin ?_
          refine WP.cond rfl (fun c206 => ?_) (fun c206 => ?_)
          · replace H := Gets.ct H c206
            refine WP.seq ?_
            refine WP.reg [(0, false)] (by kernel_rfl) ?_
            refine Dv.asg rfl trivial rfl ?_
            refine .fin ?_
            obtain rfl := Gets.out H
            exact WP.retL (fun _ _ h => h) rfl () trivial (.cons (res_tmp rfl) .nil) rfl (st_sel (L := [blk b189 32 [eq (.int .i64 a0.fKind), eq (.string a0.fRoom), eq (.string a0.fUser), eq (.string a0.fEvent), eq (.string a0.fThread), eq (.bool a0.fPrivate), eq (.bool a0.fOn), eq (.int .i64 a0.fSpan), eq (.int .i64 a0.fState), eq (.int .i64 a0.fTick), eq (.int .i64 a0.fStamp)]]) (F := F) [0] 1 rfl rfl rfl)
          · replace H := Gets.cf H c206
            refine WP.skip ?_
            refine WP.seq ?_
            refine WP.seq ?_
            refine WP.reg [(0, false), (1, false)] (by kernel_rfl) ?_
            refine Dv.fab rfl trivial rfl Try.underlying32 rfl Try.underlying3 c3 (by decide) ?_
            refine Dv.ldb rfl trivial rfl Try.underlying3 rfl (mem_at 0 rfl) rfl ?_
            refine .fin ?_
            refine WP.block ?_
            refine WP.seq ?_
            refine WP.reg [(0, false), (1, false)] (by kernel_rfl) ?_
            refine Dv.bin rfl trivial rfl rfl (fun _ => run_eq) ?_
            refine Dv.asg rfl trivial rfl ?_
            refine .fin ?_
            refine WP.cond rfl (fun c207 => ?_) (fun c207 => ?_)
            · replace H := Gets.ct H c207
              refine WP.seq ?_
              refine WP.reg [(0, false), (1, false), (2, false), (3, false), (4, false), (5, false), (6, false), (7, false), (8, false), (9, false), (10, false), (11, false), (12, false), (13, false), (14, false), (15, false), (16, false), (17, false), (18, false), (19, false), (20, false), (21, false), (22, false)] (by kernel_rfl) ?_
              refine Dv.mv rfl trivial rfl ?_
              refine Dv.mv rfl trivial rfl ?_
              cases c208 : t192
              · replace H := Gets.cf H c208
                refine Dv.skip rfl ⟨_, _, rfl, rfl, .inl rfl⟩ ?_
                refine Dv.pickF rfl trivial rfl rfl ?_
                refine Dv.mv rfl trivial rfl ?_
                refine Dv.skip rfl ⟨_, _, rfl, rfl, .inl rfl⟩ ?_
                refine Dv.pickF rfl trivial rfl rfl ?_
                refine Dv.mv rfl trivial rfl ?_
                refine Dv.skip rfl ⟨_, _, rfl, rfl, .inl rfl⟩ ?_
                refine Dv.skip rfl ⟨_, _, rfl, rfl, .inl rfl⟩ ?_
                refine Dv.skip rfl ⟨_, _, rfl, rfl, .inl rfl⟩ ?_
                refine Dv.pickF rfl trivial rfl rfl ?_
                refine Dv.mv rfl trivial rfl ?_
                refine Dv.skip rfl ⟨_, _, rfl, rfl, .inl rfl⟩ ?_
                refine Dv.skip rfl ⟨_, _, rfl, rfl, .inl rfl⟩ ?_
                refine Dv.skip rfl ⟨_, _, rfl, rfl, .inl rfl⟩ ?_
                refine Dv.pickF rfl trivial rfl rfl ?_
                refine Dv.mv rfl trivial rfl ?_
                refine Dv.skip rfl ⟨_, _, rfl, rfl, .inl rfl⟩ ?_
                refine Dv.skip rfl ⟨_, _, rfl, rfl, .inl rfl⟩ ?_
                refine Dv.skip rfl ⟨_, _, rfl, rfl, .inl rfl⟩ ?_
                refine Dv.pickF rfl trivial rfl rfl ?_
                refine Dv.asg rfl trivial rfl ?_
                refine .fin ?_
                obtain rfl := Gets.out H
                exact WP.retL (fun _ _ h => h) rfl () trivial (.cons (res_tmp rfl) .nil) rfl (st_sel (L := [blk b189 32 [eq (.int .i64 a0.fKind), eq (.string a0.fRoom), eq (.string a0.fUser), eq (.string a0.fEvent), eq (.string a0.fThread), eq (.bool a0.fPrivate), eq (.bool a0.fOn), eq (.int .i64 a0.fSpan), eq (.int .i64 a0.fState), eq (.int .i64 a0.fTick), eq (.int .i64 a0.fStamp)]]) (F := F) [0] 1 rfl rfl rfl)
              · replace H := Gets.ct H c208
                refine Dv.mv rfl ⟨_, _, rfl, rfl, rfl⟩ rfl ?_
                refine Dv.pickT rfl trivial rfl rfl ?_
                refine Dv.mv rfl trivial rfl ?_
                cases c209 : t194
                · replace H := Gets.cf H c209
                  refine Dv.skip rfl ⟨_, _, rfl, rfl, .inl rfl⟩ ?_
                  refine Dv.pickF rfl trivial rfl rfl ?_
                  refine Dv.mv rfl trivial rfl ?_
                  refine Dv.skip rfl ⟨_, _, rfl, rfl, .inl rfl⟩ ?_
                  refine Dv.skip rfl ⟨_, _, rfl, rfl, .inl rfl⟩ ?_
                  refine Dv.skip rfl ⟨_, _, rfl, rfl, .inl rfl⟩ ?_
                  refine Dv.pickF rfl trivial rfl rfl ?_
                  refine Dv.mv rfl trivial rfl ?_
                  refine Dv.skip rfl ⟨_, _, rfl, rfl, .inl rfl⟩ ?_
                  refine Dv.skip rfl ⟨_, _, rfl, rfl, .inl rfl⟩ ?_
                  refine Dv.skip rfl ⟨_, _, rfl, rfl, .inl rfl⟩ ?_
                  refine Dv.pickF rfl trivial rfl rfl ?_
                  refine Dv.mv rfl trivial rfl ?_
                  refine Dv.skip rfl ⟨_, _, rfl, rfl, .inl rfl⟩ ?_
                  refine Dv.skip rfl ⟨_, _, rfl, rfl, .inl rfl⟩ ?_
                  refine Dv.skip rfl ⟨_, _, rfl, rfl, .inl rfl⟩ ?_
                  refine Dv.pickF rfl trivial rfl rfl ?_
                  refine Dv.asg rfl trivial rfl ?_
                  refine .fin ?_
                  obtain rfl := Gets.out H
                  exact WP.retL (fun _ _ h => h) rfl () trivial (.cons (res_tmp rfl) .nil) rfl (st_sel (L := [blk b189 32 [eq (.int .i64 a0.fKind), eq (.string a0.fRoom), eq (.string a0.fUser), eq (.string a0.fEvent), eq (.string a0.fThread), eq (.bool a0.fPrivate), eq (.bool a0.fOn), eq (.int .i64 a0.fSpan), eq (.int .i64 a0.fState), eq (.int .i64 a0.fTick), eq (.int .i64 a0.fStamp)]]) (F := F) [0] 1 rfl rfl rfl)
                · replace H := Gets.ct H c209
                  refine Dv.mv rfl ⟨_, _, rfl, rfl, rfl⟩ rfl ?_
                  refine Dv.pickT rfl trivial rfl rfl ?_
                  refine Dv.mv rfl trivial rfl ?_
                  cases c210 : t196
                  · replace H := Gets.cf H c210
                    refine Dv.skip rfl ⟨_, _, rfl, rfl, .inl rfl⟩ ?_
                    refine Dv.skip rfl ⟨_, _, rfl, rfl, .inl rfl⟩ ?_
                    refine Dv.skip rfl ⟨_, _, rfl, rfl, .inl rfl⟩ ?_
                    refine Dv.pickF rfl trivial rfl rfl ?_
                    refine Dv.mv rfl trivial rfl ?_
                    refine Dv.skip rfl ⟨_, _, rfl, rfl, .inl rfl⟩ ?_
                    refine Dv.skip rfl ⟨_, _, rfl, rfl, .inl rfl⟩ ?_
                    refine Dv.skip rfl ⟨_, _, rfl, rfl, .inl rfl⟩ ?_
                    refine Dv.pickF rfl trivial rfl rfl ?_
                    refine Dv.mv rfl trivial rfl ?_
                    refine Dv.skip rfl ⟨_, _, rfl, rfl, .inl rfl⟩ ?_
                    refine Dv.skip rfl ⟨_, _, rfl, rfl, .inl rfl⟩ ?_
                    refine Dv.skip rfl ⟨_, _, rfl, rfl, .inl rfl⟩ ?_
                    refine Dv.pickF rfl trivial rfl rfl ?_
                    refine Dv.asg rfl trivial rfl ?_
                    refine .fin ?_
                    obtain rfl := Gets.out H
                    exact WP.retL (fun _ _ h => h) rfl () trivial (.cons (res_tmp rfl) .nil) rfl (st_sel (L := [blk b189 32 [eq (.int .i64 a0.fKind), eq (.string a0.fRoom), eq (.string a0.fUser), eq (.string a0.fEvent), eq (.string a0.fThread), eq (.bool a0.fPrivate), eq (.bool a0.fOn), eq (.int .i64 a0.fSpan), eq (.int .i64 a0.fState), eq (.int .i64 a0.fTick), eq (.int .i64 a0.fStamp)]]) (F := F) [0] 1 rfl rfl rfl)
                  · replace H := Gets.ct H c210
                    refine Dv.fab rfl ⟨_, _, rfl, rfl, rfl⟩ rfl Try.underlying32 rfl Try.underlying4 c4 (by decide) ?_
                    refine Dv.ldb rfl ⟨_, _, rfl, rfl, rfl⟩ rfl Try.underlying4 rfl (mem_at 0 rfl) rfl ?_
                    refine Dv.un rfl ⟨_, _, rfl, rfl, rfl⟩ rfl (fun _ => run_not _) ?_
                    refine Dv.pickT rfl trivial rfl rfl ?_
                    refine Dv.mv rfl trivial rfl ?_
                    cases c211 : !a0.fOn
                    · replace H := Gets.cf H c211
                      refine Dv.skip rfl ⟨_, _, rfl, rfl, .inl rfl⟩ ?_
                      refine Dv.skip rfl ⟨_, _, rfl, rfl, .inl rfl⟩ ?_
                      refine Dv.skip rfl ⟨_, _, rfl, rfl, .inl rfl⟩ ?_
                      refine Dv.pickF rfl trivial rfl rfl ?_
                      refine Dv.mv rfl trivial rfl ?_
                      refine Dv.skip rfl ⟨_, _, rfl, rfl, .inl rfl⟩ ?_
                      refine Dv.skip rfl ⟨_, _, rfl, rfl, .inl rfl⟩ ?_
                      refine Dv.skip rfl ⟨_, _, rfl, rfl, .inl rfl⟩ ?_
                      refine Dv.pickF rfl trivial rfl rfl ?_
                      refine Dv.asg rfl trivial rfl ?_
                      refine .fin ?_
                      obtain rfl := Gets.out H
                      exact WP.retL (fun _ _ h => h) rfl () trivial (.cons (res_tmp rfl) .nil) rfl (st_sel (L := [blk b189 32 [eq (.int .i64 a0.fKind), eq (.string a0.fRoom), eq (.string a0.fUser), eq (.string a0.fEvent), eq (.string a0.fThread), eq (.bool a0.fPrivate), eq (.bool a0.fOn), eq (.int .i64 a0.fSpan), eq (.int .i64 a0.fState), eq (.int .i64 a0.fTick), eq (.int .i64 a0.fStamp)]]) (F := F) [0] 1 rfl rfl rfl)
                    · replace H := Gets.ct H c211
                      refine Dv.fab rfl ⟨_, _, rfl, rfl, rfl⟩ rfl Try.underlying32 rfl Try.underlying3 c3 (by decide) ?_
                      refine Dv.ldb rfl ⟨_, _, rfl, rfl, rfl⟩ rfl Try.underlying3 rfl (mem_at 0 rfl) rfl ?_
                      refine Dv.bin rfl ⟨_, _, rfl, rfl, rfl⟩ rfl rfl (fun _ => run_eq) ?_
                      refine Dv.pickT rfl trivial rfl rfl ?_
                      refine Dv.mv rfl trivial rfl ?_
                      cases c212 : (a0.fSpan == 0)
                      · replace H := Gets.cf H c212
                        refine Dv.skip rfl ⟨_, _, rfl, rfl, .inl rfl⟩ ?_
                        refine Dv.skip rfl ⟨_, _, rfl, rfl, .inl rfl⟩ ?_
                        refine Dv.skip rfl ⟨_, _, rfl, rfl, .inl rfl⟩ ?_
                        refine Dv.pickF rfl trivial rfl rfl ?_
                        refine Dv.asg rfl trivial rfl ?_
                        refine .fin ?_
                        obtain rfl := Gets.out H
                        exact WP.retL (fun _ _ h => h) rfl () trivial (.cons (res_tmp rfl) .nil) rfl (st_sel (L := [blk b189 32 [eq (.int .i64 a0.fKind), eq (.string a0.fRoom), eq (.string a0.fUser), eq (.string a0.fEvent), eq (.string a0.fThread), eq (.bool a0.fPrivate), eq (.bool a0.fOn), eq (.int .i64 a0.fSpan), eq (.int .i64 a0.fState), eq (.int .i64 a0.fTick), eq (.int .i64 a0.fStamp)]]) (F := F) [0] 1 rfl rfl rfl)
                      · replace H := Gets.ct H c212
                        refine Dv.fab rfl ⟨_, _, rfl, rfl, rfl⟩ rfl Try.underlying32 rfl Try.underlying3 c3 (by decide) ?_
                        refine Dv.ldb rfl ⟨_, _, rfl, rfl, rfl⟩ rfl Try.underlying3 rfl (mem_at 0 rfl) rfl ?_
                        refine Dv.bin rfl ⟨_, _, rfl, rfl, rfl⟩ rfl rfl (fun _ => run_eq) ?_
                        refine Dv.pickT rfl trivial rfl rfl ?_
                        refine Dv.asg rfl trivial rfl ?_
                        refine .fin ?_
                        obtain rfl := Gets.out H
                        exact WP.retL (fun _ _ h => h) rfl () trivial (.cons (res_tmp rfl) .nil) rfl (st_sel (L := [blk b189 32 [eq (.int .i64 a0.fKind), eq (.string a0.fRoom), eq (.string a0.fUser), eq (.string a0.fEvent), eq (.string a0.fThread), eq (.bool a0.fPrivate), eq (.bool a0.fOn), eq (.int .i64 a0.fSpan), eq (.int .i64 a0.fState), eq (.int .i64 a0.fTick), eq (.int .i64 a0.fStamp)]]) (F := F) [0] 1 rfl rfl rfl)
            · replace H := Gets.cf H c207
              refine WP.seq ?_
              refine WP.reg [(0, false), (1, false)] (by kernel_rfl) ?_
              refine Dv.bin rfl trivial rfl rfl (fun _ => run_eq) ?_
              refine Dv.asg rfl trivial rfl ?_
              refine .fin ?_
              refine WP.cond rfl (fun c213 => ?_) (fun c213 => ?_)
              · replace H := Gets.ct H c213
                refine WP.seq ?_
                refine WP.reg [(0, false), (1, false), (2, false), (3, false), (4, false), (5, false), (6, false), (7, false), (8, false), (9, false), (10, false), (11, false), (12, false), (13, false), (14, false), (15, false), (16, false), (17, false), (18, false), (19, false), (20, false), (21, false), (22, false)] (by kernel_rfl) ?_
                refine Dv.fab rfl trivial rfl Try.underlying32 rfl Try.underlying4 c4 (by decide) ?_
                refine Dv.ldb rfl trivial rfl Try.underlying4 rfl (mem_at 0 rfl) rfl ?_
                refine Dv.mv rfl trivial rfl ?_
                cases c214 : a0.fOn
                · replace H := Gets.cf H c214
                  refine Dv.skip rfl ⟨_, _, rfl, rfl, .inl rfl⟩ ?_
                  refine Dv.skip rfl ⟨_, _, rfl, rfl, .inl rfl⟩ ?_
                  refine Dv.skip rfl ⟨_, _, rfl, rfl, .inl rfl⟩ ?_
                  refine Dv.pickF rfl trivial rfl rfl ?_
                  refine Dv.mv rfl trivial rfl ?_
                  refine Dv.skip rfl ⟨_, _, rfl, rfl, .inl rfl⟩ ?_
                  refine Dv.skip rfl ⟨_, _, rfl, rfl, .inl rfl⟩ ?_
                  refine Dv.skip rfl ⟨_, _, rfl, rfl, .inl rfl⟩ ?_
                  refine Dv.pickF rfl trivial rfl rfl ?_
                  refine Dv.mv rfl trivial rfl ?_
                  refine Dv.fab rfl ⟨_, _, rfl, rfl, rfl⟩ rfl Try.underlying32 rfl Try.underlying4 c4 (by decide) ?_
                  refine Dv.ldb rfl ⟨_, _, rfl, rfl, rfl⟩ rfl Try.underlying4 rfl (mem_at 0 rfl) rfl ?_
                  refine Dv.un rfl ⟨_, _, rfl, rfl, rfl⟩ rfl (fun _ => run_not _) ?_
                  refine Dv.mv rfl ⟨_, _, rfl, rfl, rfl⟩ rfl ?_
                  cases c235 : !a0.fOn
                  · replace H := Gets.cf H c235
                    refine Dv.skip rfl ⟨_, _, rfl, rfl, .inl rfl⟩ ?_
                    refine Dv.skip rfl ⟨_, _, rfl, rfl, .inl rfl⟩ ?_
                    refine Dv.skip rfl ⟨_, _, rfl, rfl, .inl rfl⟩ ?_
                    refine Dv.pickF rfl ⟨_, _, rfl, rfl, rfl⟩ rfl rfl ?_
                    refine Dv.pickF rfl trivial rfl rfl ?_
                    refine Dv.asg rfl trivial rfl ?_
                    refine .fin ?_
                    refine WP.seq ?_
                    refine WP.reg [(0, false), (1, false), (2, false), (3, false), (4, false), (5, false), (6, false), (7, false), (8, false), (9, false), (10, false), (11, false), (12, false), (13, false), (14, false), (15, false), (16, false), (17, false), (18, false), (19, false), (20, false), (21, false), (22, false), (23, false), (24, false)] (by kernel_rfl) ?_
                    refine Dv.mv rfl trivial rfl ?_
                    refine Dv.mv rfl trivial rfl ?_
                    cases c241 : t192
                    · replace H := Gets.cf H c241
                      refine Dv.skip rfl ⟨_, _, rfl, rfl, .inl rfl⟩ ?_
                      refine Dv.pickF rfl trivial rfl rfl ?_
                      refine Dv.mv rfl trivial rfl ?_
                      refine Dv.skip rfl ⟨_, _, rfl, rfl, .inl rfl⟩ ?_
                      refine Dv.skip rfl ⟨_, _, rfl, rfl, .inl rfl⟩ ?_
                      refine Dv.skip rfl ⟨_, _, rfl, rfl, .inl rfl⟩ ?_
                      refine Dv.pickF rfl trivial rfl rfl ?_
                      refine Dv.mv rfl trivial rfl ?_
                      refine Dv.skip rfl ⟨_, _, rfl, rfl, .inl rfl⟩ ?_
                      refine Dv.skip rfl ⟨_, _, rfl, rfl, .inl rfl⟩ ?_
                      refine Dv.skip rfl ⟨_, _, rfl, rfl, .inl rfl⟩ ?_
                      refine Dv.pickF rfl trivial rfl rfl ?_
                      refine Dv.mv rfl trivial rfl ?_
                      refine Dv.skip rfl ⟨_, _, rfl, rfl, .inl rfl⟩ ?_
                      refine Dv.skip rfl ⟨_, _, rfl, rfl, .inl rfl⟩ ?_
                      refine Dv.skip rfl ⟨_, _, rfl, rfl, .inl rfl⟩ ?_
                      refine Dv.pickF rfl trivial rfl rfl ?_
                      refine Dv.mv rfl trivial rfl ?_
                      refine Dv.skip rfl ⟨_, _, rfl, rfl, .inl rfl⟩ ?_
                      refine Dv.skip rfl ⟨_, _, rfl, rfl, .inl rfl⟩ ?_
                      refine Dv.skip rfl ⟨_, _, rfl, rfl, .inl rfl⟩ ?_
                      refine Dv.pickF rfl trivial rfl rfl ?_
                      refine Dv.asg rfl trivial rfl ?_
                      refine .fin ?_
                      obtain rfl := Gets.out H
                      exact WP.retL (fun _ _ h => h) rfl () trivial (.cons (res_tmp rfl) .nil) rfl (st_sel (L := [blk b189 32 [eq (.int .i64 a0.fKind), eq (.string a0.fRoom), eq (.string a0.fUser), eq (.string a0.fEvent), eq (.string a0.fThread), eq (.bool a0.fPrivate), eq (.bool a0.fOn), eq (.int .i64 a0.fSpan), eq (.int .i64 a0.fState), eq (.int .i64 a0.fTick), eq (.int .i64 a0.fStamp)]]) (F := F) [0] 1 rfl rfl rfl)
                    · replace H := Gets.ct H c241
                      refine Dv.mv rfl ⟨_, _, rfl, rfl, rfl⟩ rfl ?_
                      refine Dv.pickT rfl trivial rfl rfl ?_
                      refine Dv.mv rfl trivial rfl ?_
                      refine Dv.skip rfl ⟨_, _, rfl, rfl, .inl rfl⟩ ?_
                      refine Dv.skip rfl ⟨_, _, rfl, rfl, .inl rfl⟩ ?_
                      refine Dv.skip rfl ⟨_, _, rfl, rfl, .inl rfl⟩ ?_
                      refine Dv.pickF rfl trivial rfl rfl ?_
                      refine Dv.mv rfl trivial rfl ?_
                      refine Dv.skip rfl ⟨_, _, rfl, rfl, .inl rfl⟩ ?_
                      refine Dv.skip rfl ⟨_, _, rfl, rfl, .inl rfl⟩ ?_
                      refine Dv.skip rfl ⟨_, _, rfl, rfl, .inl rfl⟩ ?_
                      refine Dv.pickF rfl trivial rfl rfl ?_
                      refine Dv.mv rfl trivial rfl ?_
                      refine Dv.skip rfl ⟨_, _, rfl, rfl, .inl rfl⟩ ?_
                      refine Dv.skip rfl ⟨_, _, rfl, rfl, .inl rfl⟩ ?_
                      refine Dv.skip rfl ⟨_, _, rfl, rfl, .inl rfl⟩ ?_
                      refine Dv.pickF rfl trivial rfl rfl ?_
                      refine Dv.mv rfl trivial rfl ?_
                      refine Dv.skip rfl ⟨_, _, rfl, rfl, .inl rfl⟩ ?_
                      refine Dv.skip rfl ⟨_, _, rfl, rfl, .inl rfl⟩ ?_
                      refine Dv.skip rfl ⟨_, _, rfl, rfl, .inl rfl⟩ ?_
                      refine Dv.pickF rfl trivial rfl rfl ?_
                      refine Dv.asg rfl trivial rfl ?_
                      refine .fin ?_
                      obtain rfl := Gets.out H
                      exact WP.retL (fun _ _ h => h) rfl () trivial (.cons (res_tmp rfl) .nil) rfl (st_sel (L := [blk b189 32 [eq (.int .i64 a0.fKind), eq (.string a0.fRoom), eq (.string a0.fUser), eq (.string a0.fEvent), eq (.string a0.fThread), eq (.bool a0.fPrivate), eq (.bool a0.fOn), eq (.int .i64 a0.fSpan), eq (.int .i64 a0.fState), eq (.int .i64 a0.fTick), eq (.int .i64 a0.fStamp)]]) (F := F) [0] 1 rfl rfl rfl)
                  · replace H := Gets.ct H c235
                    refine Dv.fab rfl ⟨_, _, rfl, rfl, rfl⟩ rfl Try.underlying32 rfl Try.underlying3 c3 (by decide) ?_
                    refine Dv.ldb rfl ⟨_, _, rfl, rfl, rfl⟩ rfl Try.underlying3 rfl (mem_at 0 rfl) rfl ?_
                    refine Dv.bin rfl ⟨_, _, rfl, rfl, rfl⟩ rfl rfl (fun _ => run_eq) ?_
                    refine Dv.pickT rfl ⟨_, _, rfl, rfl, rfl⟩ rfl rfl ?_
                    refine Dv.pickF rfl trivial rfl rfl ?_
                    refine Dv.asg rfl trivial rfl ?_
                    refine .fin ?_
                    refine WP.seq ?_
                    refine WP.reg [(0, false), (1, false), (2, false), (3, false), (4, false), (5, false), (6, false), (7, false), (8, false), (9, false), (10, false), (11, false), (12, false), (13, false), (14, false), (15, false), (16, false), (17, false), (18, false), (19, false), (20, false), (21, false), (22, false), (23, false), (24, false)] (by kernel_rfl) ?_
                    refine Dv.mv rfl trivial rfl ?_
                    refine Dv.mv rfl trivial rfl ?_
                    cases c236 : t192
                    · replace H := Gets.cf H c236
                      refine Dv.skip rfl ⟨_, _, rfl, rfl, .inl rfl⟩ ?_
                      refine Dv.pickF rfl trivial rfl rfl ?_
                      refine Dv.mv rfl trivial rfl ?_
                      refine Dv.skip rfl ⟨_, _, rfl, rfl, .inl rfl⟩ ?_
                      refine Dv.skip rfl ⟨_, _, rfl, rfl, .inl rfl⟩ ?_
                      refine Dv.skip rfl ⟨_, _, rfl, rfl, .inl rfl⟩ ?_
                      refine Dv.pickF rfl trivial rfl rfl ?_
                      refine Dv.mv rfl trivial rfl ?_
                      refine Dv.skip rfl ⟨_, _, rfl, rfl, .inl rfl⟩ ?_
                      refine Dv.skip rfl ⟨_, _, rfl, rfl, .inl rfl⟩ ?_
                      refine Dv.skip rfl ⟨_, _, rfl, rfl, .inl rfl⟩ ?_
                      refine Dv.pickF rfl trivial rfl rfl ?_
                      refine Dv.mv rfl trivial rfl ?_
                      refine Dv.skip rfl ⟨_, _, rfl, rfl, .inl rfl⟩ ?_
                      refine Dv.skip rfl ⟨_, _, rfl, rfl, .inl rfl⟩ ?_
                      refine Dv.skip rfl ⟨_, _, rfl, rfl, .inl rfl⟩ ?_
                      refine Dv.pickF rfl trivial rfl rfl ?_
                      refine Dv.mv rfl trivial rfl ?_
                      refine Dv.skip rfl ⟨_, _, rfl, rfl, .inl rfl⟩ ?_
                      refine Dv.skip rfl ⟨_, _, rfl, rfl, .inl rfl⟩ ?_
                      refine Dv.skip rfl ⟨_, _, rfl, rfl, .inl rfl⟩ ?_
                      refine Dv.pickF rfl trivial rfl rfl ?_
                      refine Dv.asg rfl trivial rfl ?_
                      refine .fin ?_
                      obtain rfl := Gets.out H
                      exact WP.retL (fun _ _ h => h) rfl () trivial (.cons (res_tmp rfl) .nil) rfl (st_sel (L := [blk b189 32 [eq (.int .i64 a0.fKind), eq (.string a0.fRoom), eq (.string a0.fUser), eq (.string a0.fEvent), eq (.string a0.fThread), eq (.bool a0.fPrivate), eq (.bool a0.fOn), eq (.int .i64 a0.fSpan), eq (.int .i64 a0.fState), eq (.int .i64 a0.fTick), eq (.int .i64 a0.fStamp)]]) (F := F) [0] 1 rfl rfl rfl)
                    · replace H := Gets.ct H c236
                      refine Dv.mv rfl ⟨_, _, rfl, rfl, rfl⟩ rfl ?_
                      refine Dv.pickT rfl trivial rfl rfl ?_
                      refine Dv.mv rfl trivial rfl ?_
                      cases c237 : (a0.fSpan == 0)
                      · replace H := Gets.cf H c237
                        refine Dv.skip rfl ⟨_, _, rfl, rfl, .inl rfl⟩ ?_
                        refine Dv.skip rfl ⟨_, _, rfl, rfl, .inl rfl⟩ ?_
                        refine Dv.skip rfl ⟨_, _, rfl, rfl, .inl rfl⟩ ?_
                        refine Dv.pickF rfl trivial rfl rfl ?_
                        refine Dv.mv rfl trivial rfl ?_
                        refine Dv.skip rfl ⟨_, _, rfl, rfl, .inl rfl⟩ ?_
                        refine Dv.skip rfl ⟨_, _, rfl, rfl, .inl rfl⟩ ?_
                        refine Dv.skip rfl ⟨_, _, rfl, rfl, .inl rfl⟩ ?_
                        refine Dv.pickF rfl trivial rfl rfl ?_
                        refine Dv.mv rfl trivial rfl ?_
                        refine Dv.skip rfl ⟨_, _, rfl, rfl, .inl rfl⟩ ?_
                        refine Dv.skip rfl ⟨_, _, rfl, rfl, .inl rfl⟩ ?_
                        refine Dv.skip rfl ⟨_, _, rfl, rfl, .inl rfl⟩ ?_
                        refine Dv.pickF rfl trivial rfl rfl ?_
                        refine Dv.mv rfl trivial rfl ?_
                        refine Dv.skip rfl ⟨_, _, rfl, rfl, .inl rfl⟩ ?_
                        refine Dv.skip rfl ⟨_, _, rfl, rfl, .inl rfl⟩ ?_
                        refine Dv.skip rfl ⟨_, _, rfl, rfl, .inl rfl⟩ ?_
                        refine Dv.pickF rfl trivial rfl rfl ?_
                        refine Dv.asg rfl trivial rfl ?_
                        refine .fin ?_
                        obtain rfl := Gets.out H
                        exact WP.retL (fun _ _ h => h) rfl () trivial (.cons (res_tmp rfl) .nil) rfl (st_sel (L := [blk b189 32 [eq (.int .i64 a0.fKind), eq (.string a0.fRoom), eq (.string a0.fUser), eq (.string a0.fEvent), eq (.string a0.fThread), eq (.bool a0.fPrivate), eq (.bool a0.fOn), eq (.int .i64 a0.fSpan), eq (.int .i64 a0.fState), eq (.int .i64 a0.fTick), eq (.int .i64 a0.fStamp)]]) (F := F) [0] 1 rfl rfl rfl)
                      · replace H := Gets.ct H c237
                        refine Dv.fab rfl ⟨_, _, rfl, rfl, rfl⟩ rfl Try.underlying32 rfl Try.underlying9 c9 (by decide) ?_
                        refine Dv.ldb rfl ⟨_, _, rfl, rfl, rfl⟩ rfl Try.underlying9 rfl (mem_at 0 rfl) rfl ?_
                        refine Dv.bin rfl ⟨_, _, rfl, rfl, rfl⟩ rfl rfl (fun _ => run_seq) ?_
                        refine Dv.pickT rfl trivial rfl rfl ?_
                        refine Dv.mv rfl trivial rfl ?_
                        cases c238 : decide (a0.fEvent = (⟨#[]⟩ : ByteArray))
                        · replace H := Gets.cf H c238
                          refine Dv.skip rfl ⟨_, _, rfl, rfl, .inl rfl⟩ ?_
                          refine Dv.skip rfl ⟨_, _, rfl, rfl, .inl rfl⟩ ?_
                          refine Dv.skip rfl ⟨_, _, rfl, rfl, .inl rfl⟩ ?_
                          refine Dv.pickF rfl trivial rfl rfl ?_
                          refine Dv.mv rfl trivial rfl ?_
                          refine Dv.skip rfl ⟨_, _, rfl, rfl, .inl rfl⟩ ?_
                          refine Dv.skip rfl ⟨_, _, rfl, rfl, .inl rfl⟩ ?_
                          refine Dv.skip rfl ⟨_, _, rfl, rfl, .inl rfl⟩ ?_
                          refine Dv.pickF rfl trivial rfl rfl ?_
                          refine Dv.mv rfl trivial rfl ?_
                          refine Dv.skip rfl ⟨_, _, rfl, rfl, .inl rfl⟩ ?_
                          refine Dv.skip rfl ⟨_, _, rfl, rfl, .inl rfl⟩ ?_
                          refine Dv.skip rfl ⟨_, _, rfl, rfl, .inl rfl⟩ ?_
                          refine Dv.pickF rfl trivial rfl rfl ?_
                          refine Dv.asg rfl trivial rfl ?_
                          refine .fin ?_
                          obtain rfl := Gets.out H
                          exact WP.retL (fun _ _ h => h) rfl () trivial (.cons (res_tmp rfl) .nil) rfl (st_sel (L := [blk b189 32 [eq (.int .i64 a0.fKind), eq (.string a0.fRoom), eq (.string a0.fUser), eq (.string a0.fEvent), eq (.string a0.fThread), eq (.bool a0.fPrivate), eq (.bool a0.fOn), eq (.int .i64 a0.fSpan), eq (.int .i64 a0.fState), eq (.int .i64 a0.fTick), eq (.int .i64 a0.fStamp)]]) (F := F) [0] 1 rfl rfl rfl)
                        · replace H := Gets.ct H c238
                          refine Dv.fab rfl ⟨_, _, rfl, rfl, rfl⟩ rfl Try.underlying32 rfl Try.underlying9 c9 (by decide) ?_
                          refine Dv.ldb rfl ⟨_, _, rfl, rfl, rfl⟩ rfl Try.underlying9 rfl (mem_at 0 rfl) rfl ?_
                          refine Dv.bin rfl ⟨_, _, rfl, rfl, rfl⟩ rfl rfl (fun _ => run_seq) ?_
                          refine Dv.pickT rfl trivial rfl rfl ?_
                          refine Dv.mv rfl trivial rfl ?_
                          cases c239 : decide (a0.fThread = (⟨#[]⟩ : ByteArray))
                          · replace H := Gets.cf H c239
                            refine Dv.skip rfl ⟨_, _, rfl, rfl, .inl rfl⟩ ?_
                            refine Dv.skip rfl ⟨_, _, rfl, rfl, .inl rfl⟩ ?_
                            refine Dv.skip rfl ⟨_, _, rfl, rfl, .inl rfl⟩ ?_
                            refine Dv.pickF rfl trivial rfl rfl ?_
                            refine Dv.mv rfl trivial rfl ?_
                            refine Dv.skip rfl ⟨_, _, rfl, rfl, .inl rfl⟩ ?_
                            refine Dv.skip rfl ⟨_, _, rfl, rfl, .inl rfl⟩ ?_
                            refine Dv.skip rfl ⟨_, _, rfl, rfl, .inl rfl⟩ ?_
                            refine Dv.pickF rfl trivial rfl rfl ?_
                            refine Dv.asg rfl trivial rfl ?_
                            refine .fin ?_
                            obtain rfl := Gets.out H
                            exact WP.retL (fun _ _ h => h) rfl () trivial (.cons (res_tmp rfl) .nil) rfl (st_sel (L := [blk b189 32 [eq (.int .i64 a0.fKind), eq (.string a0.fRoom), eq (.string a0.fUser), eq (.string a0.fEvent), eq (.string a0.fThread), eq (.bool a0.fPrivate), eq (.bool a0.fOn), eq (.int .i64 a0.fSpan), eq (.int .i64 a0.fState), eq (.int .i64 a0.fTick), eq (.int .i64 a0.fStamp)]]) (F := F) [0] 1 rfl rfl rfl)
                          · replace H := Gets.ct H c239
                            refine Dv.fab rfl ⟨_, _, rfl, rfl, rfl⟩ rfl Try.underlying32 rfl Try.underlying3 c3 (by decide) ?_
                            refine Dv.ldb rfl ⟨_, _, rfl, rfl, rfl⟩ rfl Try.underlying3 rfl (mem_at 0 rfl) rfl ?_
                            refine Dv.bin rfl ⟨_, _, rfl, rfl, rfl⟩ rfl rfl (fun _ => run_eq) ?_
                            refine Dv.pickT rfl trivial rfl rfl ?_
                            refine Dv.mv rfl trivial rfl ?_
                            cases c240 : (a0.fState == 0)
                            · replace H := Gets.cf H c240
                              refine Dv.skip rfl ⟨_, _, rfl, rfl, .inl rfl⟩ ?_
                              refine Dv.skip rfl ⟨_, _, rfl, rfl, .inl rfl⟩ ?_
                              refine Dv.skip rfl ⟨_, _, rfl, rfl, .inl rfl⟩ ?_
                              refine Dv.pickF rfl trivial rfl rfl ?_
                              refine Dv.asg rfl trivial rfl ?_
                              refine .fin ?_
                              obtain rfl := Gets.out H
                              exact WP.retL (fun _ _ h => h) rfl () trivial (.cons (res_tmp rfl) .nil) rfl (st_sel (L := [blk b189 32 [eq (.int .i64 a0.fKind), eq (.string a0.fRoom), eq (.string a0.fUser), eq (.string a0.fEvent), eq (.string a0.fThread), eq (.bool a0.fPrivate), eq (.bool a0.fOn), eq (.int .i64 a0.fSpan), eq (.int .i64 a0.fState), eq (.int .i64 a0.fTick), eq (.int .i64 a0.fStamp)]]) (F := F) [0] 1 rfl rfl rfl)
                            · replace H := Gets.ct H c240
                              refine Dv.fab rfl ⟨_, _, rfl, rfl, rfl⟩ rfl Try.underlying32 rfl Try.underlying4 c4 (by decide) ?_
                              refine Dv.ldb rfl ⟨_, _, rfl, rfl, rfl⟩ rfl Try.underlying4 rfl (mem_at 0 rfl) rfl ?_
                              refine Dv.un rfl ⟨_, _, rfl, rfl, rfl⟩ rfl (fun _ => run_not _) ?_
                              refine Dv.pickT rfl trivial rfl rfl ?_
                              refine Dv.asg rfl trivial rfl ?_
                              refine .fin ?_
                              obtain rfl := Gets.out H
                              exact WP.retL (fun _ _ h => h) rfl () trivial (.cons (res_tmp rfl) .nil) rfl (st_sel (L := [blk b189 32 [eq (.int .i64 a0.fKind), eq (.string a0.fRoom), eq (.string a0.fUser), eq (.string a0.fEvent), eq (.string a0.fThread), eq (.bool a0.fPrivate), eq (.bool a0.fOn), eq (.int .i64 a0.fSpan), eq (.int .i64 a0.fState), eq (.int .i64 a0.fTick), eq (.int .i64 a0.fStamp)]]) (F := F) [0] 1 rfl rfl rfl)
                · replace H := Gets.ct H c214
                  refine Dv.fab rfl ⟨_, _, rfl, rfl, rfl⟩ rfl Try.underlying32 rfl Try.underlying3 c3 (by decide) ?_
                  refine Dv.ldb rfl ⟨_, _, rfl, rfl, rfl⟩ rfl Try.underlying3 rfl (mem_at 0 rfl) rfl ?_
                  refine Dv.bin rfl ⟨_, _, rfl, rfl, rfl⟩ rfl rfl (fun _ => run_ge) ?_
                  refine Dv.pickT rfl trivial rfl rfl ?_
                  refine Dv.mv rfl trivial rfl ?_
                  cases c215 : decide (1 ≤ a0.fSpan)
                  · replace H := Gets.cf H c215
                    refine Dv.skip rfl ⟨_, _, rfl, rfl, .inl rfl⟩ ?_
                    refine Dv.skip rfl ⟨_, _, rfl, rfl, .inl rfl⟩ ?_
                    refine Dv.skip rfl ⟨_, _, rfl, rfl, .inl rfl⟩ ?_
                    refine Dv.pickF rfl trivial rfl rfl ?_
                    refine Dv.mv rfl trivial rfl ?_
                    refine Dv.fab rfl ⟨_, _, rfl, rfl, rfl⟩ rfl Try.underlying32 rfl Try.underlying4 c4 (by decide) ?_
                    refine Dv.ldb rfl ⟨_, _, rfl, rfl, rfl⟩ rfl Try.underlying4 rfl (mem_at 0 rfl) rfl ?_
                    refine Dv.un rfl ⟨_, _, rfl, rfl, rfl⟩ rfl (fun _ => run_not _) ?_
                    refine Dv.mv rfl ⟨_, _, rfl, rfl, rfl⟩ rfl ?_
                    cases c228 : !a0.fOn
                    · replace H := Gets.cf H c228
                      refine Dv.skip rfl ⟨_, _, rfl, rfl, .inl rfl⟩ ?_
                      refine Dv.skip rfl ⟨_, _, rfl, rfl, .inl rfl⟩ ?_
                      refine Dv.skip rfl ⟨_, _, rfl, rfl, .inl rfl⟩ ?_
                      refine Dv.pickF rfl ⟨_, _, rfl, rfl, rfl⟩ rfl rfl ?_
                      refine Dv.pickF rfl trivial rfl rfl ?_
                      refine Dv.asg rfl trivial rfl ?_
                      refine .fin ?_
                      refine WP.seq ?_
                      refine WP.reg [(0, false), (1, false), (2, false), (3, false), (4, false), (5, false), (6, false), (7, false), (8, false), (9, false), (10, false), (11, false), (12, false), (13, false), (14, false), (15, false), (16, false), (17, false), (18, false), (19, false), (20, false), (21, false), (22, false), (23, false), (24, false)] (by kernel_rfl) ?_
                      refine Dv.mv rfl trivial rfl ?_
                      refine Dv.mv rfl trivial rfl ?_
                      cases c234 : t192
                      · replace H := Gets.cf H c234
                        refine Dv.skip rfl ⟨_, _, rfl, rfl, .inl rfl⟩ ?_
                        refine Dv.pickF rfl trivial rfl rfl ?_
                        refine Dv.mv rfl trivial rfl ?_
                        refine Dv.skip rfl ⟨_, _, rfl, rfl, .inl rfl⟩ ?_
                        refine Dv.skip rfl ⟨_, _, rfl, rfl, .inl rfl⟩ ?_
                        refine Dv.skip rfl ⟨_, _, rfl, rfl, .inl rfl⟩ ?_
                        refine Dv.pickF rfl trivial rfl rfl ?_
                        refine Dv.mv rfl trivial rfl ?_
                        refine Dv.skip rfl ⟨_, _, rfl, rfl, .inl rfl⟩ ?_
                        refine Dv.skip rfl ⟨_, _, rfl, rfl, .inl rfl⟩ ?_
                        refine Dv.skip rfl ⟨_, _, rfl, rfl, .inl rfl⟩ ?_
                        refine Dv.pickF rfl trivial rfl rfl ?_
                        refine Dv.mv rfl trivial rfl ?_
                        refine Dv.skip rfl ⟨_, _, rfl, rfl, .inl rfl⟩ ?_
                        refine Dv.skip rfl ⟨_, _, rfl, rfl, .inl rfl⟩ ?_
                        refine Dv.skip rfl ⟨_, _, rfl, rfl, .inl rfl⟩ ?_
                        refine Dv.pickF rfl trivial rfl rfl ?_
                        refine Dv.mv rfl trivial rfl ?_
                        refine Dv.skip rfl ⟨_, _, rfl, rfl, .inl rfl⟩ ?_
                        refine Dv.skip rfl ⟨_, _, rfl, rfl, .inl rfl⟩ ?_
                        refine Dv.skip rfl ⟨_, _, rfl, rfl, .inl rfl⟩ ?_
                        refine Dv.pickF rfl trivial rfl rfl ?_
                        refine Dv.asg rfl trivial rfl ?_
                        refine .fin ?_
                        obtain rfl := Gets.out H
                        exact WP.retL (fun _ _ h => h) rfl () trivial (.cons (res_tmp rfl) .nil) rfl (st_sel (L := [blk b189 32 [eq (.int .i64 a0.fKind), eq (.string a0.fRoom), eq (.string a0.fUser), eq (.string a0.fEvent), eq (.string a0.fThread), eq (.bool a0.fPrivate), eq (.bool a0.fOn), eq (.int .i64 a0.fSpan), eq (.int .i64 a0.fState), eq (.int .i64 a0.fTick), eq (.int .i64 a0.fStamp)]]) (F := F) [0] 1 rfl rfl rfl)
                      · replace H := Gets.ct H c234
                        refine Dv.mv rfl ⟨_, _, rfl, rfl, rfl⟩ rfl ?_
                        refine Dv.pickT rfl trivial rfl rfl ?_
                        refine Dv.mv rfl trivial rfl ?_
                        refine Dv.skip rfl ⟨_, _, rfl, rfl, .inl rfl⟩ ?_
                        refine Dv.skip rfl ⟨_, _, rfl, rfl, .inl rfl⟩ ?_
                        refine Dv.skip rfl ⟨_, _, rfl, rfl, .inl rfl⟩ ?_
                        refine Dv.pickF rfl trivial rfl rfl ?_
                        refine Dv.mv rfl trivial rfl ?_
                        refine Dv.skip rfl ⟨_, _, rfl, rfl, .inl rfl⟩ ?_
                        refine Dv.skip rfl ⟨_, _, rfl, rfl, .inl rfl⟩ ?_
                        refine Dv.skip rfl ⟨_, _, rfl, rfl, .inl rfl⟩ ?_
                        refine Dv.pickF rfl trivial rfl rfl ?_
                        refine Dv.mv rfl trivial rfl ?_
                        refine Dv.skip rfl ⟨_, _, rfl, rfl, .inl rfl⟩ ?_
                        refine Dv.skip rfl ⟨_, _, rfl, rfl, .inl rfl⟩ ?_
                        refine Dv.skip rfl ⟨_, _, rfl, rfl, .inl rfl⟩ ?_
                        refine Dv.pickF rfl trivial rfl rfl ?_
                        refine Dv.mv rfl trivial rfl ?_
                        refine Dv.skip rfl ⟨_, _, rfl, rfl, .inl rfl⟩ ?_
                        refine Dv.skip rfl ⟨_, _, rfl, rfl, .inl rfl⟩ ?_
                        refine Dv.skip rfl ⟨_, _, rfl, rfl, .inl rfl⟩ ?_
                        refine Dv.pickF rfl trivial rfl rfl ?_
                        refine Dv.asg rfl trivial rfl ?_
                        refine .fin ?_
                        obtain rfl := Gets.out H
                        exact WP.retL (fun _ _ h => h) rfl () trivial (.cons (res_tmp rfl) .nil) rfl (st_sel (L := [blk b189 32 [eq (.int .i64 a0.fKind), eq (.string a0.fRoom), eq (.string a0.fUser), eq (.string a0.fEvent), eq (.string a0.fThread), eq (.bool a0.fPrivate), eq (.bool a0.fOn), eq (.int .i64 a0.fSpan), eq (.int .i64 a0.fState), eq (.int .i64 a0.fTick), eq (.int .i64 a0.fStamp)]]) (F := F) [0] 1 rfl rfl rfl)
                    · replace H := Gets.ct H c228
                      refine Dv.fab rfl ⟨_, _, rfl, rfl, rfl⟩ rfl Try.underlying32 rfl Try.underlying3 c3 (by decide) ?_
                      refine Dv.ldb rfl ⟨_, _, rfl, rfl, rfl⟩ rfl Try.underlying3 rfl (mem_at 0 rfl) rfl ?_
                      refine Dv.bin rfl ⟨_, _, rfl, rfl, rfl⟩ rfl rfl (fun _ => run_eq) ?_
                      refine Dv.pickT rfl ⟨_, _, rfl, rfl, rfl⟩ rfl rfl ?_
                      refine Dv.pickF rfl trivial rfl rfl ?_
                      refine Dv.asg rfl trivial rfl ?_
                      refine .fin ?_
                      refine WP.seq ?_
                      refine WP.reg [(0, false), (1, false), (2, false), (3, false), (4, false), (5, false), (6, false), (7, false), (8, false), (9, false), (10, false), (11, false), (12, false), (13, false), (14, false), (15, false), (16, false), (17, false), (18, false), (19, false), (20, false), (21, false), (22, false), (23, false), (24, false)] (by kernel_rfl) ?_
                      refine Dv.mv rfl trivial rfl ?_
                      refine Dv.mv rfl trivial rfl ?_
                      cases c229 : t192
                      · replace H := Gets.cf H c229
                        refine Dv.skip rfl ⟨_, _, rfl, rfl, .inl rfl⟩ ?_
                        refine Dv.pickF rfl trivial rfl rfl ?_
                        refine Dv.mv rfl trivial rfl ?_
                        refine Dv.skip rfl ⟨_, _, rfl, rfl, .inl rfl⟩ ?_
                        refine Dv.skip rfl ⟨_, _, rfl, rfl, .inl rfl⟩ ?_
                        refine Dv.skip rfl ⟨_, _, rfl, rfl, .inl rfl⟩ ?_
                        refine Dv.pickF rfl trivial rfl rfl ?_
                        refine Dv.mv rfl trivial rfl ?_
                        refine Dv.skip rfl ⟨_, _, rfl, rfl, .inl rfl⟩ ?_
                        refine Dv.skip rfl ⟨_, _, rfl, rfl, .inl rfl⟩ ?_
                        refine Dv.skip rfl ⟨_, _, rfl, rfl, .inl rfl⟩ ?_
                        refine Dv.pickF rfl trivial rfl rfl ?_
                        refine Dv.mv rfl trivial rfl ?_
                        refine Dv.skip rfl ⟨_, _, rfl, rfl, .inl rfl⟩ ?_
                        refine Dv.skip rfl ⟨_, _, rfl, rfl, .inl rfl⟩ ?_
                        refine Dv.skip rfl ⟨_, _, rfl, rfl, .inl rfl⟩ ?_
                        refine Dv.pickF rfl trivial rfl rfl ?_
                        refine Dv.mv rfl trivial rfl ?_
                        refine Dv.skip rfl ⟨_, _, rfl, rfl, .inl rfl⟩ ?_
                        refine Dv.skip rfl ⟨_, _, rfl, rfl, .inl rfl⟩ ?_
                        refine Dv.skip rfl ⟨_, _, rfl, rfl, .inl rfl⟩ ?_
                        refine Dv.pickF rfl trivial rfl rfl ?_
                        refine Dv.asg rfl trivial rfl ?_
                        refine .fin ?_
                        obtain rfl := Gets.out H
                        exact WP.retL (fun _ _ h => h) rfl () trivial (.cons (res_tmp rfl) .nil) rfl (st_sel (L := [blk b189 32 [eq (.int .i64 a0.fKind), eq (.string a0.fRoom), eq (.string a0.fUser), eq (.string a0.fEvent), eq (.string a0.fThread), eq (.bool a0.fPrivate), eq (.bool a0.fOn), eq (.int .i64 a0.fSpan), eq (.int .i64 a0.fState), eq (.int .i64 a0.fTick), eq (.int .i64 a0.fStamp)]]) (F := F) [0] 1 rfl rfl rfl)
                      · replace H := Gets.ct H c229
                        refine Dv.mv rfl ⟨_, _, rfl, rfl, rfl⟩ rfl ?_
                        refine Dv.pickT rfl trivial rfl rfl ?_
                        refine Dv.mv rfl trivial rfl ?_
                        cases c230 : (a0.fSpan == 0)
                        · replace H := Gets.cf H c230
                          refine Dv.skip rfl ⟨_, _, rfl, rfl, .inl rfl⟩ ?_
                          refine Dv.skip rfl ⟨_, _, rfl, rfl, .inl rfl⟩ ?_
                          refine Dv.skip rfl ⟨_, _, rfl, rfl, .inl rfl⟩ ?_
                          refine Dv.pickF rfl trivial rfl rfl ?_
                          refine Dv.mv rfl trivial rfl ?_
                          refine Dv.skip rfl ⟨_, _, rfl, rfl, .inl rfl⟩ ?_
                          refine Dv.skip rfl ⟨_, _, rfl, rfl, .inl rfl⟩ ?_
                          refine Dv.skip rfl ⟨_, _, rfl, rfl, .inl rfl⟩ ?_
                          refine Dv.pickF rfl trivial rfl rfl ?_
                          refine Dv.mv rfl trivial rfl ?_
                          refine Dv.skip rfl ⟨_, _, rfl, rfl, .inl rfl⟩ ?_
                          refine Dv.skip rfl ⟨_, _, rfl, rfl, .inl rfl⟩ ?_
                          refine Dv.skip rfl ⟨_, _, rfl, rfl, .inl rfl⟩ ?_
                          refine Dv.pickF rfl trivial rfl rfl ?_
                          refine Dv.mv rfl trivial rfl ?_
                          refine Dv.skip rfl ⟨_, _, rfl, rfl, .inl rfl⟩ ?_
                          refine Dv.skip rfl ⟨_, _, rfl, rfl, .inl rfl⟩ ?_
                          refine Dv.skip rfl ⟨_, _, rfl, rfl, .inl rfl⟩ ?_
                          refine Dv.pickF rfl trivial rfl rfl ?_
                          refine Dv.asg rfl trivial rfl ?_
                          refine .fin ?_
                          obtain rfl := Gets.out H
                          exact WP.retL (fun _ _ h => h) rfl () trivial (.cons (res_tmp rfl) .nil) rfl (st_sel (L := [blk b189 32 [eq (.int .i64 a0.fKind), eq (.string a0.fRoom), eq (.string a0.fUser), eq (.string a0.fEvent), eq (.string a0.fThread), eq (.bool a0.fPrivate), eq (.bool a0.fOn), eq (.int .i64 a0.fSpan), eq (.int .i64 a0.fState), eq (.int .i64 a0.fTick), eq (.int .i64 a0.fStamp)]]) (F := F) [0] 1 rfl rfl rfl)
                        · replace H := Gets.ct H c230
                          refine Dv.fab rfl ⟨_, _, rfl, rfl, rfl⟩ rfl Try.underlying32 rfl Try.underlying9 c9 (by decide) ?_
                          refine Dv.ldb rfl ⟨_, _, rfl, rfl, rfl⟩ rfl Try.underlying9 rfl (mem_at 0 rfl) rfl ?_
                          refine Dv.bin rfl ⟨_, _, rfl, rfl, rfl⟩ rfl rfl (fun _ => run_seq) ?_
                          refine Dv.pickT rfl trivial rfl rfl ?_
                          refine Dv.mv rfl trivial rfl ?_
                          cases c231 : decide (a0.fEvent = (⟨#[]⟩ : ByteArray))
                          · replace H := Gets.cf H c231
                            refine Dv.skip rfl ⟨_, _, rfl, rfl, .inl rfl⟩ ?_
                            refine Dv.skip rfl ⟨_, _, rfl, rfl, .inl rfl⟩ ?_
                            refine Dv.skip rfl ⟨_, _, rfl, rfl, .inl rfl⟩ ?_
                            refine Dv.pickF rfl trivial rfl rfl ?_
                            refine Dv.mv rfl trivial rfl ?_
                            refine Dv.skip rfl ⟨_, _, rfl, rfl, .inl rfl⟩ ?_
                            refine Dv.skip rfl ⟨_, _, rfl, rfl, .inl rfl⟩ ?_
                            refine Dv.skip rfl ⟨_, _, rfl, rfl, .inl rfl⟩ ?_
                            refine Dv.pickF rfl trivial rfl rfl ?_
                            refine Dv.mv rfl trivial rfl ?_
                            refine Dv.skip rfl ⟨_, _, rfl, rfl, .inl rfl⟩ ?_
                            refine Dv.skip rfl ⟨_, _, rfl, rfl, .inl rfl⟩ ?_
                            refine Dv.skip rfl ⟨_, _, rfl, rfl, .inl rfl⟩ ?_
                            refine Dv.pickF rfl trivial rfl rfl ?_
                            refine Dv.asg rfl trivial rfl ?_
                            refine .fin ?_
                            obtain rfl := Gets.out H
                            exact WP.retL (fun _ _ h => h) rfl () trivial (.cons (res_tmp rfl) .nil) rfl (st_sel (L := [blk b189 32 [eq (.int .i64 a0.fKind), eq (.string a0.fRoom), eq (.string a0.fUser), eq (.string a0.fEvent), eq (.string a0.fThread), eq (.bool a0.fPrivate), eq (.bool a0.fOn), eq (.int .i64 a0.fSpan), eq (.int .i64 a0.fState), eq (.int .i64 a0.fTick), eq (.int .i64 a0.fStamp)]]) (F := F) [0] 1 rfl rfl rfl)
                          · replace H := Gets.ct H c231
                            refine Dv.fab rfl ⟨_, _, rfl, rfl, rfl⟩ rfl Try.underlying32 rfl Try.underlying9 c9 (by decide) ?_
                            refine Dv.ldb rfl ⟨_, _, rfl, rfl, rfl⟩ rfl Try.underlying9 rfl (mem_at 0 rfl) rfl ?_
                            refine Dv.bin rfl ⟨_, _, rfl, rfl, rfl⟩ rfl rfl (fun _ => run_seq) ?_
                            refine Dv.pickT rfl trivial rfl rfl ?_
                            refine Dv.mv rfl trivial rfl ?_
                            cases c232 : decide (a0.fThread = (⟨#[]⟩ : ByteArray))
                            · replace H := Gets.cf H c232
                              refine Dv.skip rfl ⟨_, _, rfl, rfl, .inl rfl⟩ ?_
                              refine Dv.skip rfl ⟨_, _, rfl, rfl, .inl rfl⟩ ?_
                              refine Dv.skip rfl ⟨_, _, rfl, rfl, .inl rfl⟩ ?_
                              refine Dv.pickF rfl trivial rfl rfl ?_
                              refine Dv.mv rfl trivial rfl ?_
                              refine Dv.skip rfl ⟨_, _, rfl, rfl, .inl rfl⟩ ?_
                              refine Dv.skip rfl ⟨_, _, rfl, rfl, .inl rfl⟩ ?_
                              refine Dv.skip rfl ⟨_, _, rfl, rfl, .inl rfl⟩ ?_
                              refine Dv.pickF rfl trivial rfl rfl ?_
                              refine Dv.asg rfl trivial rfl ?_
                              refine .fin ?_
                              obtain rfl := Gets.out H
                              exact WP.retL (fun _ _ h => h) rfl () trivial (.cons (res_tmp rfl) .nil) rfl (st_sel (L := [blk b189 32 [eq (.int .i64 a0.fKind), eq (.string a0.fRoom), eq (.string a0.fUser), eq (.string a0.fEvent), eq (.string a0.fThread), eq (.bool a0.fPrivate), eq (.bool a0.fOn), eq (.int .i64 a0.fSpan), eq (.int .i64 a0.fState), eq (.int .i64 a0.fTick), eq (.int .i64 a0.fStamp)]]) (F := F) [0] 1 rfl rfl rfl)
                            · replace H := Gets.ct H c232
                              refine Dv.fab rfl ⟨_, _, rfl, rfl, rfl⟩ rfl Try.underlying32 rfl Try.underlying3 c3 (by decide) ?_
                              refine Dv.ldb rfl ⟨_, _, rfl, rfl, rfl⟩ rfl Try.underlying3 rfl (mem_at 0 rfl) rfl ?_
                              refine Dv.bin rfl ⟨_, _, rfl, rfl, rfl⟩ rfl rfl (fun _ => run_eq) ?_
                              refine Dv.pickT rfl trivial rfl rfl ?_
                              refine Dv.mv rfl trivial rfl ?_
                              cases c233 : (a0.fState == 0)
                              · replace H := Gets.cf H c233
                                refine Dv.skip rfl ⟨_, _, rfl, rfl, .inl rfl⟩ ?_
                                refine Dv.skip rfl ⟨_, _, rfl, rfl, .inl rfl⟩ ?_
                                refine Dv.skip rfl ⟨_, _, rfl, rfl, .inl rfl⟩ ?_
                                refine Dv.pickF rfl trivial rfl rfl ?_
                                refine Dv.asg rfl trivial rfl ?_
                                refine .fin ?_
                                obtain rfl := Gets.out H
                                exact WP.retL (fun _ _ h => h) rfl () trivial (.cons (res_tmp rfl) .nil) rfl (st_sel (L := [blk b189 32 [eq (.int .i64 a0.fKind), eq (.string a0.fRoom), eq (.string a0.fUser), eq (.string a0.fEvent), eq (.string a0.fThread), eq (.bool a0.fPrivate), eq (.bool a0.fOn), eq (.int .i64 a0.fSpan), eq (.int .i64 a0.fState), eq (.int .i64 a0.fTick), eq (.int .i64 a0.fStamp)]]) (F := F) [0] 1 rfl rfl rfl)
                              · replace H := Gets.ct H c233
                                refine Dv.fab rfl ⟨_, _, rfl, rfl, rfl⟩ rfl Try.underlying32 rfl Try.underlying4 c4 (by decide) ?_
                                refine Dv.ldb rfl ⟨_, _, rfl, rfl, rfl⟩ rfl Try.underlying4 rfl (mem_at 0 rfl) rfl ?_
                                refine Dv.un rfl ⟨_, _, rfl, rfl, rfl⟩ rfl (fun _ => run_not _) ?_
                                refine Dv.pickT rfl trivial rfl rfl ?_
                                refine Dv.asg rfl trivial rfl ?_
                                refine .fin ?_
                                obtain rfl := Gets.out H
                                exact WP.retL (fun _ _ h => h) rfl () trivial (.cons (res_tmp rfl) .nil) rfl (st_sel (L := [blk b189 32 [eq (.int .i64 a0.fKind), eq (.string a0.fRoom), eq (.string a0.fUser), eq (.string a0.fEvent), eq (.string a0.fThread), eq (.bool a0.fPrivate), eq (.bool a0.fOn), eq (.int .i64 a0.fSpan), eq (.int .i64 a0.fState), eq (.int .i64 a0.fTick), eq (.int .i64 a0.fStamp)]]) (F := F) [0] 1 rfl rfl rfl)
                  · replace H := Gets.ct H c215
                    refine Dv.fab rfl ⟨_, _, rfl, rfl, rfl⟩ rfl Try.underlying32 rfl Try.underlying3 c3 (by decide) ?_
                    refine Dv.ldb rfl ⟨_, _, rfl, rfl, rfl⟩ rfl Try.underlying3 rfl (mem_at 0 rfl) rfl ?_
                    refine Dv.bin rfl ⟨_, _, rfl, rfl, rfl⟩ rfl rfl (fun _ => run_le) ?_
                    refine Dv.pickT rfl trivial rfl rfl ?_
                    refine Dv.mv rfl trivial rfl ?_
                    cases c216 : decide (a0.fSpan ≤ 60)
                    · replace H := Gets.cf H c216
                      refine Dv.fab rfl ⟨_, _, rfl, rfl, rfl⟩ rfl Try.underlying32 rfl Try.underlying4 c4 (by decide) ?_
                      refine Dv.ldb rfl ⟨_, _, rfl, rfl, rfl⟩ rfl Try.underlying4 rfl (mem_at 0 rfl) rfl ?_
                      refine Dv.un rfl ⟨_, _, rfl, rfl, rfl⟩ rfl (fun _ => run_not _) ?_
                      refine Dv.mv rfl ⟨_, _, rfl, rfl, rfl⟩ rfl ?_
                      cases c221 : !a0.fOn
                      · replace H := Gets.cf H c221
                        refine Dv.skip rfl ⟨_, _, rfl, rfl, .inl rfl⟩ ?_
                        refine Dv.skip rfl ⟨_, _, rfl, rfl, .inl rfl⟩ ?_
                        refine Dv.skip rfl ⟨_, _, rfl, rfl, .inl rfl⟩ ?_
                        refine Dv.pickF rfl ⟨_, _, rfl, rfl, rfl⟩ rfl rfl ?_
                        refine Dv.pickF rfl trivial rfl rfl ?_
                        refine Dv.asg rfl trivial rfl ?_
                        refine .fin ?_
                        refine WP.seq ?_
                        refine WP.reg [(0, false), (1, false), (2, false), (3, false), (4, false), (5, false), (6, false), (7, false), (8, false), (9, false), (10, false), (11, false), (12, false), (13, false), (14, false), (15, false), (16, false), (17, false), (18, false), (19, false), (20, false), (21, false), (22, false), (23, false), (24, false)] (by kernel_rfl) ?_
                        refine Dv.mv rfl trivial rfl ?_
                        refine Dv.mv rfl trivial rfl ?_
                        cases c227 : t192
                        · replace H := Gets.cf H c227
                          refine Dv.skip rfl ⟨_, _, rfl, rfl, .inl rfl⟩ ?_
                          refine Dv.pickF rfl trivial rfl rfl ?_
                          refine Dv.mv rfl trivial rfl ?_
                          refine Dv.skip rfl ⟨_, _, rfl, rfl, .inl rfl⟩ ?_
                          refine Dv.skip rfl ⟨_, _, rfl, rfl, .inl rfl⟩ ?_
                          refine Dv.skip rfl ⟨_, _, rfl, rfl, .inl rfl⟩ ?_
                          refine Dv.pickF rfl trivial rfl rfl ?_
                          refine Dv.mv rfl trivial rfl ?_
                          refine Dv.skip rfl ⟨_, _, rfl, rfl, .inl rfl⟩ ?_
                          refine Dv.skip rfl ⟨_, _, rfl, rfl, .inl rfl⟩ ?_
                          refine Dv.skip rfl ⟨_, _, rfl, rfl, .inl rfl⟩ ?_
                          refine Dv.pickF rfl trivial rfl rfl ?_
                          refine Dv.mv rfl trivial rfl ?_
                          refine Dv.skip rfl ⟨_, _, rfl, rfl, .inl rfl⟩ ?_
                          refine Dv.skip rfl ⟨_, _, rfl, rfl, .inl rfl⟩ ?_
                          refine Dv.skip rfl ⟨_, _, rfl, rfl, .inl rfl⟩ ?_
                          refine Dv.pickF rfl trivial rfl rfl ?_
                          refine Dv.mv rfl trivial rfl ?_
                          refine Dv.skip rfl ⟨_, _, rfl, rfl, .inl rfl⟩ ?_
                          refine Dv.skip rfl ⟨_, _, rfl, rfl, .inl rfl⟩ ?_
                          refine Dv.skip rfl ⟨_, _, rfl, rfl, .inl rfl⟩ ?_
                          refine Dv.pickF rfl trivial rfl rfl ?_
                          refine Dv.asg rfl trivial rfl ?_
                          refine .fin ?_
                          obtain rfl := Gets.out H
                          exact WP.retL (fun _ _ h => h) rfl () trivial (.cons (res_tmp rfl) .nil) rfl (st_sel (L := [blk b189 32 [eq (.int .i64 a0.fKind), eq (.string a0.fRoom), eq (.string a0.fUser), eq (.string a0.fEvent), eq (.string a0.fThread), eq (.bool a0.fPrivate), eq (.bool a0.fOn), eq (.int .i64 a0.fSpan), eq (.int .i64 a0.fState), eq (.int .i64 a0.fTick), eq (.int .i64 a0.fStamp)]]) (F := F) [0] 1 rfl rfl rfl)
                        · replace H := Gets.ct H c227
                          refine Dv.mv rfl ⟨_, _, rfl, rfl, rfl⟩ rfl ?_
                          refine Dv.pickT rfl trivial rfl rfl ?_
                          refine Dv.mv rfl trivial rfl ?_
                          refine Dv.skip rfl ⟨_, _, rfl, rfl, .inl rfl⟩ ?_
                          refine Dv.skip rfl ⟨_, _, rfl, rfl, .inl rfl⟩ ?_
                          refine Dv.skip rfl ⟨_, _, rfl, rfl, .inl rfl⟩ ?_
                          refine Dv.pickF rfl trivial rfl rfl ?_
                          refine Dv.mv rfl trivial rfl ?_
                          refine Dv.skip rfl ⟨_, _, rfl, rfl, .inl rfl⟩ ?_
                          refine Dv.skip rfl ⟨_, _, rfl, rfl, .inl rfl⟩ ?_
                          refine Dv.skip rfl ⟨_, _, rfl, rfl, .inl rfl⟩ ?_
                          refine Dv.pickF rfl trivial rfl rfl ?_
                          refine Dv.mv rfl trivial rfl ?_
                          refine Dv.skip rfl ⟨_, _, rfl, rfl, .inl rfl⟩ ?_
                          refine Dv.skip rfl ⟨_, _, rfl, rfl, .inl rfl⟩ ?_
                          refine Dv.skip rfl ⟨_, _, rfl, rfl, .inl rfl⟩ ?_
                          refine Dv.pickF rfl trivial rfl rfl ?_
                          refine Dv.mv rfl trivial rfl ?_
                          refine Dv.skip rfl ⟨_, _, rfl, rfl, .inl rfl⟩ ?_
                          refine Dv.skip rfl ⟨_, _, rfl, rfl, .inl rfl⟩ ?_
                          refine Dv.skip rfl ⟨_, _, rfl, rfl, .inl rfl⟩ ?_
                          refine Dv.pickF rfl trivial rfl rfl ?_
                          refine Dv.asg rfl trivial rfl ?_
                          refine .fin ?_
                          obtain rfl := Gets.out H
                          exact WP.retL (fun _ _ h => h) rfl () trivial (.cons (res_tmp rfl) .nil) rfl (st_sel (L := [blk b189 32 [eq (.int .i64 a0.fKind), eq (.string a0.fRoom), eq (.string a0.fUser), eq (.string a0.fEvent), eq (.string a0.fThread), eq (.bool a0.fPrivate), eq (.bool a0.fOn), eq (.int .i64 a0.fSpan), eq (.int .i64 a0.fState), eq (.int .i64 a0.fTick), eq (.int .i64 a0.fStamp)]]) (F := F) [0] 1 rfl rfl rfl)
                      · replace H := Gets.ct H c221
                        refine Dv.fab rfl ⟨_, _, rfl, rfl, rfl⟩ rfl Try.underlying32 rfl Try.underlying3 c3 (by decide) ?_
                        refine Dv.ldb rfl ⟨_, _, rfl, rfl, rfl⟩ rfl Try.underlying3 rfl (mem_at 0 rfl) rfl ?_
                        refine Dv.bin rfl ⟨_, _, rfl, rfl, rfl⟩ rfl rfl (fun _ => run_eq) ?_
                        refine Dv.pickT rfl ⟨_, _, rfl, rfl, rfl⟩ rfl rfl ?_
                        refine Dv.pickF rfl trivial rfl rfl ?_
                        refine Dv.asg rfl trivial rfl ?_
                        refine .fin ?_
                        refine WP.seq ?_
                        refine WP.reg [(0, false), (1, false), (2, false), (3, false), (4, false), (5, false), (6, false), (7, false), (8, false), (9, false), (10, false), (11, false), (12, false), (13, false), (14, false), (15, false), (16, false), (17, false), (18, false), (19, false), (20, false), (21, false), (22, false), (23, false), (24, false)] (by kernel_rfl) ?_
                        refine Dv.mv rfl trivial rfl ?_
                        refine Dv.mv rfl trivial rfl ?_
                        cases c222 : t192
                        · replace H := Gets.cf H c222
                          refine Dv.skip rfl ⟨_, _, rfl, rfl, .inl rfl⟩ ?_
                          refine Dv.pickF rfl trivial rfl rfl ?_
                          refine Dv.mv rfl trivial rfl ?_
                          refine Dv.skip rfl ⟨_, _, rfl, rfl, .inl rfl⟩ ?_
                          refine Dv.skip rfl ⟨_, _, rfl, rfl, .inl rfl⟩ ?_
                          refine Dv.skip rfl ⟨_, _, rfl, rfl, .inl rfl⟩ ?_
                          refine Dv.pickF rfl trivial rfl rfl ?_
                          refine Dv.mv rfl trivial rfl ?_
                          refine Dv.skip rfl ⟨_, _, rfl, rfl, .inl rfl⟩ ?_
                          refine Dv.skip rfl ⟨_, _, rfl, rfl, .inl rfl⟩ ?_
                          refine Dv.skip rfl ⟨_, _, rfl, rfl, .inl rfl⟩ ?_
                          refine Dv.pickF rfl trivial rfl rfl ?_
                          refine Dv.mv rfl trivial rfl ?_
                          refine Dv.skip rfl ⟨_, _, rfl, rfl, .inl rfl⟩ ?_
                          refine Dv.skip rfl ⟨_, _, rfl, rfl, .inl rfl⟩ ?_
                          refine Dv.skip rfl ⟨_, _, rfl, rfl, .inl rfl⟩ ?_
                          refine Dv.pickF rfl trivial rfl rfl ?_
                          refine Dv.mv rfl trivial rfl ?_
                          refine Dv.skip rfl ⟨_, _, rfl, rfl, .inl rfl⟩ ?_
                          refine Dv.skip rfl ⟨_, _, rfl, rfl, .inl rfl⟩ ?_
                          refine Dv.skip rfl ⟨_, _, rfl, rfl, .inl rfl⟩ ?_
                          refine Dv.pickF rfl trivial rfl rfl ?_
                          refine Dv.asg rfl trivial rfl ?_
                          refine .fin ?_
                          obtain rfl := Gets.out H
                          exact WP.retL (fun _ _ h => h) rfl () trivial (.cons (res_tmp rfl) .nil) rfl (st_sel (L := [blk b189 32 [eq (.int .i64 a0.fKind), eq (.string a0.fRoom), eq (.string a0.fUser), eq (.string a0.fEvent), eq (.string a0.fThread), eq (.bool a0.fPrivate), eq (.bool a0.fOn), eq (.int .i64 a0.fSpan), eq (.int .i64 a0.fState), eq (.int .i64 a0.fTick), eq (.int .i64 a0.fStamp)]]) (F := F) [0] 1 rfl rfl rfl)
                        · replace H := Gets.ct H c222
                          refine Dv.mv rfl ⟨_, _, rfl, rfl, rfl⟩ rfl ?_
                          refine Dv.pickT rfl trivial rfl rfl ?_
                          refine Dv.mv rfl trivial rfl ?_
                          cases c223 : (a0.fSpan == 0)
                          · replace H := Gets.cf H c223
                            refine Dv.skip rfl ⟨_, _, rfl, rfl, .inl rfl⟩ ?_
                            refine Dv.skip rfl ⟨_, _, rfl, rfl, .inl rfl⟩ ?_
                            refine Dv.skip rfl ⟨_, _, rfl, rfl, .inl rfl⟩ ?_
                            refine Dv.pickF rfl trivial rfl rfl ?_
                            refine Dv.mv rfl trivial rfl ?_
                            refine Dv.skip rfl ⟨_, _, rfl, rfl, .inl rfl⟩ ?_
                            refine Dv.skip rfl ⟨_, _, rfl, rfl, .inl rfl⟩ ?_
                            refine Dv.skip rfl ⟨_, _, rfl, rfl, .inl rfl⟩ ?_
                            refine Dv.pickF rfl trivial rfl rfl ?_
                            refine Dv.mv rfl trivial rfl ?_
                            refine Dv.skip rfl ⟨_, _, rfl, rfl, .inl rfl⟩ ?_
                            refine Dv.skip rfl ⟨_, _, rfl, rfl, .inl rfl⟩ ?_
                            refine Dv.skip rfl ⟨_, _, rfl, rfl, .inl rfl⟩ ?_
                            refine Dv.pickF rfl trivial rfl rfl ?_
                            refine Dv.mv rfl trivial rfl ?_
                            refine Dv.skip rfl ⟨_, _, rfl, rfl, .inl rfl⟩ ?_
                            refine Dv.skip rfl ⟨_, _, rfl, rfl, .inl rfl⟩ ?_
                            refine Dv.skip rfl ⟨_, _, rfl, rfl, .inl rfl⟩ ?_
                            refine Dv.pickF rfl trivial rfl rfl ?_
                            refine Dv.asg rfl trivial rfl ?_
                            refine .fin ?_
                            obtain rfl := Gets.out H
                            exact WP.retL (fun _ _ h => h) rfl () trivial (.cons (res_tmp rfl) .nil) rfl (st_sel (L := [blk b189 32 [eq (.int .i64 a0.fKind), eq (.string a0.fRoom), eq (.string a0.fUser), eq (.string a0.fEvent), eq (.string a0.fThread), eq (.bool a0.fPrivate), eq (.bool a0.fOn), eq (.int .i64 a0.fSpan), eq (.int .i64 a0.fState), eq (.int .i64 a0.fTick), eq (.int .i64 a0.fStamp)]]) (F := F) [0] 1 rfl rfl rfl)
                          · replace H := Gets.ct H c223
                            refine Dv.fab rfl ⟨_, _, rfl, rfl, rfl⟩ rfl Try.underlying32 rfl Try.underlying9 c9 (by decide) ?_
                            refine Dv.ldb rfl ⟨_, _, rfl, rfl, rfl⟩ rfl Try.underlying9 rfl (mem_at 0 rfl) rfl ?_
                            refine Dv.bin rfl ⟨_, _, rfl, rfl, rfl⟩ rfl rfl (fun _ => run_seq) ?_
                            refine Dv.pickT rfl trivial rfl rfl ?_
                            refine Dv.mv rfl trivial rfl ?_
                            cases c224 : decide (a0.fEvent = (⟨#[]⟩ : ByteArray))
                            · replace H := Gets.cf H c224
                              refine Dv.skip rfl ⟨_, _, rfl, rfl, .inl rfl⟩ ?_
                              refine Dv.skip rfl ⟨_, _, rfl, rfl, .inl rfl⟩ ?_
                              refine Dv.skip rfl ⟨_, _, rfl, rfl, .inl rfl⟩ ?_
                              refine Dv.pickF rfl trivial rfl rfl ?_
                              refine Dv.mv rfl trivial rfl ?_
                              refine Dv.skip rfl ⟨_, _, rfl, rfl, .inl rfl⟩ ?_
                              refine Dv.skip rfl ⟨_, _, rfl, rfl, .inl rfl⟩ ?_
                              refine Dv.skip rfl ⟨_, _, rfl, rfl, .inl rfl⟩ ?_
                              refine Dv.pickF rfl trivial rfl rfl ?_
                              refine Dv.mv rfl trivial rfl ?_
                              refine Dv.skip rfl ⟨_, _, rfl, rfl, .inl rfl⟩ ?_
                              refine Dv.skip rfl ⟨_, _, rfl, rfl, .inl rfl⟩ ?_
                              refine Dv.skip rfl ⟨_, _, rfl, rfl, .inl rfl⟩ ?_
                              refine Dv.pickF rfl trivial rfl rfl ?_
                              refine Dv.asg rfl trivial rfl ?_
                              refine .fin ?_
                              obtain rfl := Gets.out H
                              exact WP.retL (fun _ _ h => h) rfl () trivial (.cons (res_tmp rfl) .nil) rfl (st_sel (L := [blk b189 32 [eq (.int .i64 a0.fKind), eq (.string a0.fRoom), eq (.string a0.fUser), eq (.string a0.fEvent), eq (.string a0.fThread), eq (.bool a0.fPrivate), eq (.bool a0.fOn), eq (.int .i64 a0.fSpan), eq (.int .i64 a0.fState), eq (.int .i64 a0.fTick), eq (.int .i64 a0.fStamp)]]) (F := F) [0] 1 rfl rfl rfl)
                            · replace H := Gets.ct H c224
                              refine Dv.fab rfl ⟨_, _, rfl, rfl, rfl⟩ rfl Try.underlying32 rfl Try.underlying9 c9 (by decide) ?_
                              refine Dv.ldb rfl ⟨_, _, rfl, rfl, rfl⟩ rfl Try.underlying9 rfl (mem_at 0 rfl) rfl ?_
                              refine Dv.bin rfl ⟨_, _, rfl, rfl, rfl⟩ rfl rfl (fun _ => run_seq) ?_
                              refine Dv.pickT rfl trivial rfl rfl ?_
                              refine Dv.mv rfl trivial rfl ?_
                              cases c225 : decide (a0.fThread = (⟨#[]⟩ : ByteArray))
                              · replace H := Gets.cf H c225
                                refine Dv.skip rfl ⟨_, _, rfl, rfl, .inl rfl⟩ ?_
                                refine Dv.skip rfl ⟨_, _, rfl, rfl, .inl rfl⟩ ?_
                                refine Dv.skip rfl ⟨_, _, rfl, rfl, .inl rfl⟩ ?_
                                refine Dv.pickF rfl trivial rfl rfl ?_
                                refine Dv.mv rfl trivial rfl ?_
                                refine Dv.skip rfl ⟨_, _, rfl, rfl, .inl rfl⟩ ?_
                                refine Dv.skip rfl ⟨_, _, rfl, rfl, .inl rfl⟩ ?_
                                refine Dv.skip rfl ⟨_, _, rfl, rfl, .inl rfl⟩ ?_
                                refine Dv.pickF rfl trivial rfl rfl ?_
                                refine Dv.asg rfl trivial rfl ?_
                                refine .fin ?_
                                obtain rfl := Gets.out H
                                exact WP.retL (fun _ _ h => h) rfl () trivial (.cons (res_tmp rfl) .nil) rfl (st_sel (L := [blk b189 32 [eq (.int .i64 a0.fKind), eq (.string a0.fRoom), eq (.string a0.fUser), eq (.string a0.fEvent), eq (.string a0.fThread), eq (.bool a0.fPrivate), eq (.bool a0.fOn), eq (.int .i64 a0.fSpan), eq (.int .i64 a0.fState), eq (.int .i64 a0.fTick), eq (.int .i64 a0.fStamp)]]) (F := F) [0] 1 rfl rfl rfl)
                              · replace H := Gets.ct H c225
                                refine Dv.fab rfl ⟨_, _, rfl, rfl, rfl⟩ rfl Try.underlying32 rfl Try.underlying3 c3 (by decide) ?_
                                refine Dv.ldb rfl ⟨_, _, rfl, rfl, rfl⟩ rfl Try.underlying3 rfl (mem_at 0 rfl) rfl ?_
                                refine Dv.bin rfl ⟨_, _, rfl, rfl, rfl⟩ rfl rfl (fun _ => run_eq) ?_
                                refine Dv.pickT rfl trivial rfl rfl ?_
                                refine Dv.mv rfl trivial rfl ?_
                                cases c226 : (a0.fState == 0)
                                · replace H := Gets.cf H c226
                                  refine Dv.skip rfl ⟨_, _, rfl, rfl, .inl rfl⟩ ?_
                                  refine Dv.skip rfl ⟨_, _, rfl, rfl, .inl rfl⟩ ?_
                                  refine Dv.skip rfl ⟨_, _, rfl, rfl, .inl rfl⟩ ?_
                                  refine Dv.pickF rfl trivial rfl rfl ?_
                                  refine Dv.asg rfl trivial rfl ?_
                                  refine .fin ?_
                                  obtain rfl := Gets.out H
                                  exact WP.retL (fun _ _ h => h) rfl () trivial (.cons (res_tmp rfl) .nil) rfl (st_sel (L := [blk b189 32 [eq (.int .i64 a0.fKind), eq (.string a0.fRoom), eq (.string a0.fUser), eq (.string a0.fEvent), eq (.string a0.fThread), eq (.bool a0.fPrivate), eq (.bool a0.fOn), eq (.int .i64 a0.fSpan), eq (.int .i64 a0.fState), eq (.int .i64 a0.fTick), eq (.int .i64 a0.fStamp)]]) (F := F) [0] 1 rfl rfl rfl)
                                · replace H := Gets.ct H c226
                                  refine Dv.fab rfl ⟨_, _, rfl, rfl, rfl⟩ rfl Try.underlying32 rfl Try.underlying4 c4 (by decide) ?_
                                  refine Dv.ldb rfl ⟨_, _, rfl, rfl, rfl⟩ rfl Try.underlying4 rfl (mem_at 0 rfl) rfl ?_
                                  refine Dv.un rfl ⟨_, _, rfl, rfl, rfl⟩ rfl (fun _ => run_not _) ?_
                                  refine Dv.pickT rfl trivial rfl rfl ?_
                                  refine Dv.asg rfl trivial rfl ?_
                                  refine .fin ?_
                                  obtain rfl := Gets.out H
                                  exact WP.retL (fun _ _ h => h) rfl () trivial (.cons (res_tmp rfl) .nil) rfl (st_sel (L := [blk b189 32 [eq (.int .i64 a0.fKind), eq (.string a0.fRoom), eq (.string a0.fUser), eq (.string a0.fEvent), eq (.string a0.fThread), eq (.bool a0.fPrivate), eq (.bool a0.fOn), eq (.int .i64 a0.fSpan), eq (.int .i64 a0.fState), eq (.int .i64 a0.fTick), eq (.int .i64 a0.fStamp)]]) (F := F) [0] 1 rfl rfl rfl)
                    · replace H := Gets.ct H c216
                      refine Dv.skip rfl ⟨_, _, rfl, rfl, .inl rfl⟩ ?_
                      refine Dv.skip rfl ⟨_, _, rfl, rfl, .inl rfl⟩ ?_
                      refine Dv.skip rfl ⟨_, _, rfl, rfl, .inl rfl⟩ ?_
                      refine Dv.skip rfl ⟨_, _, rfl, rfl, .inl rfl⟩ ?_
                      refine Dv.skip rfl ⟨_, _, rfl, rfl, .inr rfl⟩ ?_
                      refine Dv.skip rfl ⟨_, _, rfl, rfl, .inr rfl⟩ ?_
                      refine Dv.skip rfl ⟨_, _, rfl, rfl, .inr rfl⟩ ?_
                      refine Dv.skip rfl ⟨_, _, rfl, rfl, .inl rfl⟩ ?_
                      refine Dv.pickT rfl trivial rfl rfl ?_
                      refine Dv.asg rfl trivial rfl ?_
                      refine .fin ?_
                      refine WP.seq ?_
                      refine WP.reg [(0, false), (1, false), (2, false), (3, false), (4, false), (5, false), (6, false), (7, false), (8, false), (9, false), (10, false), (11, false), (12, false), (13, false), (14, false), (15, false), (16, false), (17, false), (18, false), (19, false), (20, false), (21, false), (22, false), (23, false), (24, false)] (by kernel_rfl) ?_
                      refine Dv.mv rfl trivial rfl ?_
                      refine Dv.mv rfl trivial rfl ?_
                      cases c217 : t192
                      · replace H := Gets.cf H c217
                        refine Dv.skip rfl ⟨_, _, rfl, rfl, .inl rfl⟩ ?_
                        refine Dv.pickF rfl trivial rfl rfl ?_
                        refine Dv.mv rfl trivial rfl ?_
                        refine Dv.skip rfl ⟨_, _, rfl, rfl, .inl rfl⟩ ?_
                        refine Dv.skip rfl ⟨_, _, rfl, rfl, .inl rfl⟩ ?_
                        refine Dv.skip rfl ⟨_, _, rfl, rfl, .inl rfl⟩ ?_
                        refine Dv.pickF rfl trivial rfl rfl ?_
                        refine Dv.mv rfl trivial rfl ?_
                        refine Dv.skip rfl ⟨_, _, rfl, rfl, .inl rfl⟩ ?_
                        refine Dv.skip rfl ⟨_, _, rfl, rfl, .inl rfl⟩ ?_
                        refine Dv.skip rfl ⟨_, _, rfl, rfl, .inl rfl⟩ ?_
                        refine Dv.pickF rfl trivial rfl rfl ?_
                        refine Dv.mv rfl trivial rfl ?_
                        refine Dv.skip rfl ⟨_, _, rfl, rfl, .inl rfl⟩ ?_
                        refine Dv.skip rfl ⟨_, _, rfl, rfl, .inl rfl⟩ ?_
                        refine Dv.skip rfl ⟨_, _, rfl, rfl, .inl rfl⟩ ?_
                        refine Dv.pickF rfl trivial rfl rfl ?_
                        refine Dv.mv rfl trivial rfl ?_
                        refine Dv.skip rfl ⟨_, _, rfl, rfl, .inl rfl⟩ ?_
                        refine Dv.skip rfl ⟨_, _, rfl, rfl, .inl rfl⟩ ?_
                        refine Dv.skip rfl ⟨_, _, rfl, rfl, .inl rfl⟩ ?_
                        refine Dv.pickF rfl trivial rfl rfl ?_
                        refine Dv.asg rfl trivial rfl ?_
                        refine .fin ?_
                        obtain rfl := Gets.out H
                        exact WP.retL (fun _ _ h => h) rfl () trivial (.cons (res_tmp rfl) .nil) rfl (st_sel (L := [blk b189 32 [eq (.int .i64 a0.fKind), eq (.string a0.fRoom), eq (.string a0.fUser), eq (.string a0.fEvent), eq (.string a0.fThread), eq (.bool a0.fPrivate), eq (.bool a0.fOn), eq (.int .i64 a0.fSpan), eq (.int .i64 a0.fState), eq (.int .i64 a0.fTick), eq (.int .i64 a0.fStamp)]]) (F := F) [0] 1 rfl rfl rfl)
                      · replace H := Gets.ct H c217
                        refine Dv.mv rfl ⟨_, _, rfl, rfl, rfl⟩ rfl ?_
                        refine Dv.pickT rfl trivial rfl rfl ?_
                        refine Dv.mv rfl trivial rfl ?_
                        refine Dv.fab rfl ⟨_, _, rfl, rfl, rfl⟩ rfl Try.underlying32 rfl Try.underlying9 c9 (by decide) ?_
                        refine Dv.ldb rfl ⟨_, _, rfl, rfl, rfl⟩ rfl Try.underlying9 rfl (mem_at 0 rfl) rfl ?_
                        refine Dv.bin rfl ⟨_, _, rfl, rfl, rfl⟩ rfl rfl (fun _ => run_seq) ?_
                        refine Dv.pickT rfl trivial rfl rfl ?_
                        refine Dv.mv rfl trivial rfl ?_
                        cases c218 : decide (a0.fEvent = (⟨#[]⟩ : ByteArray))
                        · replace H := Gets.cf H c218
                          refine Dv.skip rfl ⟨_, _, rfl, rfl, .inl rfl⟩ ?_
                          refine Dv.skip rfl ⟨_, _, rfl, rfl, .inl rfl⟩ ?_
                          refine Dv.skip rfl ⟨_, _, rfl, rfl, .inl rfl⟩ ?_
                          refine Dv.pickF rfl trivial rfl rfl ?_
                          refine Dv.mv rfl trivial rfl ?_
                          refine Dv.skip rfl ⟨_, _, rfl, rfl, .inl rfl⟩ ?_
                          refine Dv.skip rfl ⟨_, _, rfl, rfl, .inl rfl⟩ ?_
                          refine Dv.skip rfl ⟨_, _, rfl, rfl, .inl rfl⟩ ?_
                          refine Dv.pickF rfl trivial rfl rfl ?_
                          refine Dv.mv rfl trivial rfl ?_
                          refine Dv.skip rfl ⟨_, _, rfl, rfl, .inl rfl⟩ ?_
                          refine Dv.skip rfl ⟨_, _, rfl, rfl, .inl rfl⟩ ?_
                          refine Dv.skip rfl ⟨_, _, rfl, rfl, .inl rfl⟩ ?_
                          refine Dv.pickF rfl trivial rfl rfl ?_
                          refine Dv.asg rfl trivial rfl ?_
                          refine .fin ?_
                          obtain rfl := Gets.out H
                          exact WP.retL (fun _ _ h => h) rfl () trivial (.cons (res_tmp rfl) .nil) rfl (st_sel (L := [blk b189 32 [eq (.int .i64 a0.fKind), eq (.string a0.fRoom), eq (.string a0.fUser), eq (.string a0.fEvent), eq (.string a0.fThread), eq (.bool a0.fPrivate), eq (.bool a0.fOn), eq (.int .i64 a0.fSpan), eq (.int .i64 a0.fState), eq (.int .i64 a0.fTick), eq (.int .i64 a0.fStamp)]]) (F := F) [0] 1 rfl rfl rfl)
                        · replace H := Gets.ct H c218
                          refine Dv.fab rfl ⟨_, _, rfl, rfl, rfl⟩ rfl Try.underlying32 rfl Try.underlying9 c9 (by decide) ?_
                          refine Dv.ldb rfl ⟨_, _, rfl, rfl, rfl⟩ rfl Try.underlying9 rfl (mem_at 0 rfl) rfl ?_
                          refine Dv.bin rfl ⟨_, _, rfl, rfl, rfl⟩ rfl rfl (fun _ => run_seq) ?_
                          refine Dv.pickT rfl trivial rfl rfl ?_
                          refine Dv.mv rfl trivial rfl ?_
                          cases c219 : decide (a0.fThread = (⟨#[]⟩ : ByteArray))
                          · replace H := Gets.cf H c219
                            refine Dv.skip rfl ⟨_, _, rfl, rfl, .inl rfl⟩ ?_
                            refine Dv.skip rfl ⟨_, _, rfl, rfl, .inl rfl⟩ ?_
                            refine Dv.skip rfl ⟨_, _, rfl, rfl, .inl rfl⟩ ?_
                            refine Dv.pickF rfl trivial rfl rfl ?_
                            refine Dv.mv rfl trivial rfl ?_
                            refine Dv.skip rfl ⟨_, _, rfl, rfl, .inl rfl⟩ ?_
                            refine Dv.skip rfl ⟨_, _, rfl, rfl, .inl rfl⟩ ?_
                            refine Dv.skip rfl ⟨_, _, rfl, rfl, .inl rfl⟩ ?_
                            refine Dv.pickF rfl trivial rfl rfl ?_
                            refine Dv.asg rfl trivial rfl ?_
                            refine .fin ?_
                            obtain rfl := Gets.out H
                            exact WP.retL (fun _ _ h => h) rfl () trivial (.cons (res_tmp rfl) .nil) rfl (st_sel (L := [blk b189 32 [eq (.int .i64 a0.fKind), eq (.string a0.fRoom), eq (.string a0.fUser), eq (.string a0.fEvent), eq (.string a0.fThread), eq (.bool a0.fPrivate), eq (.bool a0.fOn), eq (.int .i64 a0.fSpan), eq (.int .i64 a0.fState), eq (.int .i64 a0.fTick), eq (.int .i64 a0.fStamp)]]) (F := F) [0] 1 rfl rfl rfl)
                          · replace H := Gets.ct H c219
                            refine Dv.fab rfl ⟨_, _, rfl, rfl, rfl⟩ rfl Try.underlying32 rfl Try.underlying3 c3 (by decide) ?_
                            refine Dv.ldb rfl ⟨_, _, rfl, rfl, rfl⟩ rfl Try.underlying3 rfl (mem_at 0 rfl) rfl ?_
                            refine Dv.bin rfl ⟨_, _, rfl, rfl, rfl⟩ rfl rfl (fun _ => run_eq) ?_
                            refine Dv.pickT rfl trivial rfl rfl ?_
                            refine Dv.mv rfl trivial rfl ?_
                            cases c220 : (a0.fState == 0)
                            · replace H := Gets.cf H c220
                              refine Dv.skip rfl ⟨_, _, rfl, rfl, .inl rfl⟩ ?_
                              refine Dv.skip rfl ⟨_, _, rfl, rfl, .inl rfl⟩ ?_
                              refine Dv.skip rfl ⟨_, _, rfl, rfl, .inl rfl⟩ ?_
                              refine Dv.pickF rfl trivial rfl rfl ?_
                              refine Dv.asg rfl trivial rfl ?_
                              refine .fin ?_
                              obtain rfl := Gets.out H
                              exact WP.retL (fun _ _ h => h) rfl () trivial (.cons (res_tmp rfl) .nil) rfl (st_sel (L := [blk b189 32 [eq (.int .i64 a0.fKind), eq (.string a0.fRoom), eq (.string a0.fUser), eq (.string a0.fEvent), eq (.string a0.fThread), eq (.bool a0.fPrivate), eq (.bool a0.fOn), eq (.int .i64 a0.fSpan), eq (.int .i64 a0.fState), eq (.int .i64 a0.fTick), eq (.int .i64 a0.fStamp)]]) (F := F) [0] 1 rfl rfl rfl)
                            · replace H := Gets.ct H c220
                              refine Dv.fab rfl ⟨_, _, rfl, rfl, rfl⟩ rfl Try.underlying32 rfl Try.underlying4 c4 (by decide) ?_
                              refine Dv.ldb rfl ⟨_, _, rfl, rfl, rfl⟩ rfl Try.underlying4 rfl (mem_at 0 rfl) rfl ?_
                              refine Dv.un rfl ⟨_, _, rfl, rfl, rfl⟩ rfl (fun _ => run_not _) ?_
                              refine Dv.pickT rfl trivial rfl rfl ?_
                              refine Dv.asg rfl trivial rfl ?_
                              refine .fin ?_
                              obtain rfl := Gets.out H
                              exact WP.retL (fun _ _ h => h) rfl () trivial (.cons (res_tmp rfl) .nil) rfl (st_sel (L := [blk b189 32 [eq (.int .i64 a0.fKind), eq (.string a0.fRoom), eq (.string a0.fUser), eq (.string a0.fEvent), eq (.string a0.fThread), eq (.bool a0.fPrivate), eq (.bool a0.fOn), eq (.int .i64 a0.fSpan), eq (.int .i64 a0.fState), eq (.int .i64 a0.fTick), eq (.int .i64 a0.fStamp)]]) (F := F) [0] 1 rfl rfl rfl)
              · replace H := Gets.cf H c213
                refine WP.seq ?_
                refine WP.reg [(0, false), (1, false)] (by kernel_rfl) ?_
                refine Dv.bin rfl trivial rfl rfl (fun _ => run_eq) ?_
                refine Dv.asg rfl trivial rfl ?_
                refine .fin ?_
                refine WP.cond rfl (fun c242 => ?_) (fun c242 => ?_)
                · replace H := Gets.ct H c242
                  refine WP.seq ?_
                  refine WP.reg [(0, false), (1, false), (2, false), (3, false), (4, false), (5, false), (6, false), (7, false), (8, false), (9, false), (10, false), (11, false), (12, false), (13, false), (14, false), (15, false), (16, false), (17, false), (18, false), (19, false), (20, false), (21, false), (22, false), (23, false), (24, false), (25, false), (26, false), (27, false), (28, false), (29, false), (30, false), (31, false), (32, false), (33, false), (34, false), (35, false), (36, false), (37, false), (38, false)] (by kernel_rfl) ?_
                  refine Dv.fab rfl trivial rfl Try.underlying32 rfl Try.underlying9 c9 (by decide) ?_
                  refine Dv.ldb rfl trivial rfl Try.underlying9 rfl (mem_at 0 rfl) rfl ?_
                  refine Dv.bin rfl trivial rfl rfl (fun _ => run_seq) ?_
                  refine Dv.mv rfl trivial rfl ?_
                  cases c243 : decide (a0.fRoom = (⟨#[]⟩ : ByteArray))
                  · replace H := Gets.cf H c243
                    refine Dv.skip rfl ⟨_, _, rfl, rfl, .inl rfl⟩ ?_
                    refine Dv.skip rfl ⟨_, _, rfl, rfl, .inl rfl⟩ ?_
                    refine Dv.skip rfl ⟨_, _, rfl, rfl, .inl rfl⟩ ?_
                    refine Dv.pickF rfl trivial rfl rfl ?_
                    refine Dv.mv rfl trivial rfl ?_
                    refine Dv.skip rfl ⟨_, _, rfl, rfl, .inl rfl⟩ ?_
                    refine Dv.skip rfl ⟨_, _, rfl, rfl, .inl rfl⟩ ?_
                    refine Dv.skip rfl ⟨_, _, rfl, rfl, .inl rfl⟩ ?_
                    refine Dv.pickF rfl trivial rfl rfl ?_
                    refine Dv.mv rfl trivial rfl ?_
                    refine Dv.skip rfl ⟨_, _, rfl, rfl, .inl rfl⟩ ?_
                    refine Dv.skip rfl ⟨_, _, rfl, rfl, .inl rfl⟩ ?_
                    refine Dv.skip rfl ⟨_, _, rfl, rfl, .inl rfl⟩ ?_
                    refine Dv.pickF rfl trivial rfl rfl ?_
                    refine Dv.mv rfl trivial rfl ?_
                    refine Dv.skip rfl ⟨_, _, rfl, rfl, .inl rfl⟩ ?_
                    refine Dv.skip rfl ⟨_, _, rfl, rfl, .inl rfl⟩ ?_
                    refine Dv.skip rfl ⟨_, _, rfl, rfl, .inl rfl⟩ ?_
                    refine Dv.pickF rfl trivial rfl rfl ?_
                    refine Dv.mv rfl trivial rfl ?_
                    refine Dv.skip rfl ⟨_, _, rfl, rfl, .inl rfl⟩ ?_
                    refine Dv.skip rfl ⟨_, _, rfl, rfl, .inl rfl⟩ ?_
                    refine Dv.skip rfl ⟨_, _, rfl, rfl, .inl rfl⟩ ?_
                    refine Dv.pickF rfl trivial rfl rfl ?_
                    refine Dv.mv rfl trivial rfl ?_
                    refine Dv.skip rfl ⟨_, _, rfl, rfl, .inl rfl⟩ ?_
                    refine Dv.skip rfl ⟨_, _, rfl, rfl, .inl rfl⟩ ?_
                    refine Dv.skip rfl ⟨_, _, rfl, rfl, .inl rfl⟩ ?_
                    refine Dv.pickF rfl trivial rfl rfl ?_
                    refine Dv.mv rfl trivial rfl ?_
                    refine Dv.skip rfl ⟨_, _, rfl, rfl, .inl rfl⟩ ?_
                    refine Dv.skip rfl ⟨_, _, rfl, rfl, .inl rfl⟩ ?_
                    refine Dv.skip rfl ⟨_, _, rfl, rfl, .inl rfl⟩ ?_
                    refine Dv.pickF rfl trivial rfl rfl ?_
                    refine Dv.asg rfl trivial rfl ?_
                    refine .fin ?_
                    obtain rfl := Gets.out H
                    exact WP.retL (fun _ _ h => h) rfl () trivial (.cons (res_tmp rfl) .nil) rfl (st_sel (L := [blk b189 32 [eq (.int .i64 a0.fKind), eq (.string a0.fRoom), eq (.string a0.fUser), eq (.string a0.fEvent), eq (.string a0.fThread), eq (.bool a0.fPrivate), eq (.bool a0.fOn), eq (.int .i64 a0.fSpan), eq (.int .i64 a0.fState), eq (.int .i64 a0.fTick), eq (.int .i64 a0.fStamp)]]) (F := F) [0] 1 rfl rfl rfl)
                  · replace H := Gets.ct H c243
                    refine Dv.fab rfl ⟨_, _, rfl, rfl, rfl⟩ rfl Try.underlying32 rfl Try.underlying9 c9 (by decide) ?_
                    refine Dv.ldb rfl ⟨_, _, rfl, rfl, rfl⟩ rfl Try.underlying9 rfl (mem_at 0 rfl) rfl ?_
                    refine Dv.bin rfl ⟨_, _, rfl, rfl, rfl⟩ rfl rfl (fun _ => run_seq) ?_
                    refine Dv.pickT rfl trivial rfl rfl ?_
                    refine Dv.mv rfl trivial rfl ?_
                    cases c244 : decide (a0.fEvent = (⟨#[]⟩ : ByteArray))
                    · replace H := Gets.cf H c244
                      refine Dv.skip rfl ⟨_, _, rfl, rfl, .inl rfl⟩ ?_
                      refine Dv.skip rfl ⟨_, _, rfl, rfl, .inl rfl⟩ ?_
                      refine Dv.skip rfl ⟨_, _, rfl, rfl, .inl rfl⟩ ?_
                      refine Dv.pickF rfl trivial rfl rfl ?_
                      refine Dv.mv rfl trivial rfl ?_
                      refine Dv.skip rfl ⟨_, _, rfl, rfl, .inl rfl⟩ ?_
                      refine Dv.skip rfl ⟨_, _, rfl, rfl, .inl rfl⟩ ?_
                      refine Dv.skip rfl ⟨_, _, rfl, rfl, .inl rfl⟩ ?_
                      refine Dv.pickF rfl trivial rfl rfl ?_
                      refine Dv.mv rfl trivial rfl ?_
                      refine Dv.skip rfl ⟨_, _, rfl, rfl, .inl rfl⟩ ?_
                      refine Dv.skip rfl ⟨_, _, rfl, rfl, .inl rfl⟩ ?_
                      refine Dv.skip rfl ⟨_, _, rfl, rfl, .inl rfl⟩ ?_
                      refine Dv.pickF rfl trivial rfl rfl ?_
                      refine Dv.mv rfl trivial rfl ?_
                      refine Dv.skip rfl ⟨_, _, rfl, rfl, .inl rfl⟩ ?_
                      refine Dv.skip rfl ⟨_, _, rfl, rfl, .inl rfl⟩ ?_
                      refine Dv.skip rfl ⟨_, _, rfl, rfl, .inl rfl⟩ ?_
                      refine Dv.pickF rfl trivial rfl rfl ?_
                      refine Dv.mv rfl trivial rfl ?_
                      refine Dv.skip rfl ⟨_, _, rfl, rfl, .inl rfl⟩ ?_
                      refine Dv.skip rfl ⟨_, _, rfl, rfl, .inl rfl⟩ ?_
                      refine Dv.skip rfl ⟨_, _, rfl, rfl, .inl rfl⟩ ?_
                      refine Dv.pickF rfl trivial rfl rfl ?_
                      refine Dv.mv rfl trivial rfl ?_
                      refine Dv.skip rfl ⟨_, _, rfl, rfl, .inl rfl⟩ ?_
                      refine Dv.skip rfl ⟨_, _, rfl, rfl, .inl rfl⟩ ?_
                      refine Dv.skip rfl ⟨_, _, rfl, rfl, .inl rfl⟩ ?_
                      refine Dv.pickF rfl trivial rfl rfl ?_
                      refine Dv.asg rfl trivial rfl ?_
                      refine .fin ?_
                      obtain rfl := Gets.out H
                      exact WP.retL (fun _ _ h => h) rfl () trivial (.cons (res_tmp rfl) .nil) rfl (st_sel (L := [blk b189 32 [eq (.int .i64 a0.fKind), eq (.string a0.fRoom), eq (.string a0.fUser), eq (.string a0.fEvent), eq (.string a0.fThread), eq (.bool a0.fPrivate), eq (.bool a0.fOn), eq (.int .i64 a0.fSpan), eq (.int .i64 a0.fState), eq (.int .i64 a0.fTick), eq (.int .i64 a0.fStamp)]]) (F := F) [0] 1 rfl rfl rfl)
                    · replace H := Gets.ct H c244
                      refine Dv.fab rfl ⟨_, _, rfl, rfl, rfl⟩ rfl Try.underlying32 rfl Try.underlying9 c9 (by decide) ?_
                      refine Dv.ldb rfl ⟨_, _, rfl, rfl, rfl⟩ rfl Try.underlying9 rfl (mem_at 0 rfl) rfl ?_
                      refine Dv.bin rfl ⟨_, _, rfl, rfl, rfl⟩ rfl rfl (fun _ => run_seq) ?_
                      refine Dv.pickT rfl trivial rfl rfl ?_
                      refine Dv.mv rfl trivial rfl ?_
                      cases c245 : decide (a0.fThread = (⟨#[]⟩ : ByteArray))
                      · replace H := Gets.cf H c245
                        refine Dv.skip rfl ⟨_, _, rfl, rfl, .inl rfl⟩ ?_
                        refine Dv.skip rfl ⟨_, _, rfl, rfl, .inl rfl⟩ ?_
                        refine Dv.skip rfl ⟨_, _, rfl, rfl, .inl rfl⟩ ?_
                        refine Dv.pickF rfl trivial rfl rfl ?_
                        refine Dv.mv rfl trivial rfl ?_
                        refine Dv.skip rfl ⟨_, _, rfl, rfl, .inl rfl⟩ ?_
                        refine Dv.skip rfl ⟨_, _, rfl, rfl, .inl rfl⟩ ?_
                        refine Dv.skip rfl ⟨_, _, rfl, rfl, .inl rfl⟩ ?_
                        refine Dv.pickF rfl trivial rfl rfl ?_
                        refine Dv.mv rfl trivial rfl ?_
                        refine Dv.skip rfl ⟨_, _, rfl, rfl, .inl rfl⟩ ?_
                        refine Dv.skip rfl ⟨_, _, rfl, rfl, .inl rfl⟩ ?_
                        refine Dv.skip rfl ⟨_, _, rfl, rfl, .inl rfl⟩ ?_
                        refine Dv.pickF rfl trivial rfl rfl ?_
                        refine Dv.mv rfl trivial rfl ?_
                        refine Dv.skip rfl ⟨_, _, rfl, rfl, .inl rfl⟩ ?_
                        refine Dv.skip rfl ⟨_, _, rfl, rfl, .inl rfl⟩ ?_
                        refine Dv.skip rfl ⟨_, _, rfl, rfl, .inl rfl⟩ ?_
                        refine Dv.pickF rfl trivial rfl rfl ?_
                        refine Dv.mv rfl trivial rfl ?_
                        refine Dv.skip rfl ⟨_, _, rfl, rfl, .inl rfl⟩ ?_
                        refine Dv.skip rfl ⟨_, _, rfl, rfl, .inl rfl⟩ ?_
                        refine Dv.skip rfl ⟨_, _, rfl, rfl, .inl rfl⟩ ?_
                        refine Dv.pickF rfl trivial rfl rfl ?_
                        refine Dv.asg rfl trivial rfl ?_
                        refine .fin ?_
                        obtain rfl := Gets.out H
                        exact WP.retL (fun _ _ h => h) rfl () trivial (.cons (res_tmp rfl) .nil) rfl (st_sel (L := [blk b189 32 [eq (.int .i64 a0.fKind), eq (.string a0.fRoom), eq (.string a0.fUser), eq (.string a0.fEvent), eq (.string a0.fThread), eq (.bool a0.fPrivate), eq (.bool a0.fOn), eq (.int .i64 a0.fSpan), eq (.int .i64 a0.fState), eq (.int .i64 a0.fTick), eq (.int .i64 a0.fStamp)]]) (F := F) [0] 1 rfl rfl rfl)
                      · replace H := Gets.ct H c245
                        refine Dv.fab rfl ⟨_, _, rfl, rfl, rfl⟩ rfl Try.underlying32 rfl Try.underlying4 c4 (by decide) ?_
                        refine Dv.ldb rfl ⟨_, _, rfl, rfl, rfl⟩ rfl Try.underlying4 rfl (mem_at 0 rfl) rfl ?_
                        refine Dv.un rfl ⟨_, _, rfl, rfl, rfl⟩ rfl (fun _ => run_not _) ?_
                        refine Dv.pickT rfl trivial rfl rfl ?_
                        refine Dv.mv rfl trivial rfl ?_
                        cases c246 : !a0.fOn
                        · replace H := Gets.cf H c246
                          refine Dv.skip rfl ⟨_, _, rfl, rfl, .inl rfl⟩ ?_
                          refine Dv.skip rfl ⟨_, _, rfl, rfl, .inl rfl⟩ ?_
                          refine Dv.skip rfl ⟨_, _, rfl, rfl, .inl rfl⟩ ?_
                          refine Dv.pickF rfl trivial rfl rfl ?_
                          refine Dv.mv rfl trivial rfl ?_
                          refine Dv.skip rfl ⟨_, _, rfl, rfl, .inl rfl⟩ ?_
                          refine Dv.skip rfl ⟨_, _, rfl, rfl, .inl rfl⟩ ?_
                          refine Dv.skip rfl ⟨_, _, rfl, rfl, .inl rfl⟩ ?_
                          refine Dv.pickF rfl trivial rfl rfl ?_
                          refine Dv.mv rfl trivial rfl ?_
                          refine Dv.skip rfl ⟨_, _, rfl, rfl, .inl rfl⟩ ?_
                          refine Dv.skip rfl ⟨_, _, rfl, rfl, .inl rfl⟩ ?_
                          refine Dv.skip rfl ⟨_, _, rfl, rfl, .inl rfl⟩ ?_
                          refine Dv.pickF rfl trivial rfl rfl ?_
                          refine Dv.mv rfl trivial rfl ?_
                          refine Dv.skip rfl ⟨_, _, rfl, rfl, .inl rfl⟩ ?_
                          refine Dv.skip rfl ⟨_, _, rfl, rfl, .inl rfl⟩ ?_
                          refine Dv.skip rfl ⟨_, _, rfl, rfl, .inl rfl⟩ ?_
                          refine Dv.pickF rfl trivial rfl rfl ?_
                          refine Dv.asg rfl trivial rfl ?_
                          refine .fin ?_
                          obtain rfl := Gets.out H
                          exact WP.retL (fun _ _ h => h) rfl () trivial (.cons (res_tmp rfl) .nil) rfl (st_sel (L := [blk b189 32 [eq (.int .i64 a0.fKind), eq (.string a0.fRoom), eq (.string a0.fUser), eq (.string a0.fEvent), eq (.string a0.fThread), eq (.bool a0.fPrivate), eq (.bool a0.fOn), eq (.int .i64 a0.fSpan), eq (.int .i64 a0.fState), eq (.int .i64 a0.fTick), eq (.int .i64 a0.fStamp)]]) (F := F) [0] 1 rfl rfl rfl)
                        · replace H := Gets.ct H c246
                          refine Dv.fab rfl ⟨_, _, rfl, rfl, rfl⟩ rfl Try.underlying32 rfl Try.underlying3 c3 (by decide) ?_
                          refine Dv.ldb rfl ⟨_, _, rfl, rfl, rfl⟩ rfl Try.underlying3 rfl (mem_at 0 rfl) rfl ?_
                          refine Dv.bin rfl ⟨_, _, rfl, rfl, rfl⟩ rfl rfl (fun _ => run_eq) ?_
                          refine Dv.pickT rfl trivial rfl rfl ?_
                          refine Dv.mv rfl trivial rfl ?_
                          cases c247 : (a0.fSpan == 0)
                          · replace H := Gets.cf H c247
                            refine Dv.skip rfl ⟨_, _, rfl, rfl, .inl rfl⟩ ?_
                            refine Dv.skip rfl ⟨_, _, rfl, rfl, .inl rfl⟩ ?_
                            refine Dv.skip rfl ⟨_, _, rfl, rfl, .inl rfl⟩ ?_
                            refine Dv.pickF rfl trivial rfl rfl ?_
                            refine Dv.mv rfl trivial rfl ?_
                            refine Dv.skip rfl ⟨_, _, rfl, rfl, .inl rfl⟩ ?_
                            refine Dv.skip rfl ⟨_, _, rfl, rfl, .inl rfl⟩ ?_
                            refine Dv.skip rfl ⟨_, _, rfl, rfl, .inl rfl⟩ ?_
                            refine Dv.pickF rfl trivial rfl rfl ?_
                            refine Dv.mv rfl trivial rfl ?_
                            refine Dv.skip rfl ⟨_, _, rfl, rfl, .inl rfl⟩ ?_
                            refine Dv.skip rfl ⟨_, _, rfl, rfl, .inl rfl⟩ ?_
                            refine Dv.skip rfl ⟨_, _, rfl, rfl, .inl rfl⟩ ?_
                            refine Dv.pickF rfl trivial rfl rfl ?_
                            refine Dv.asg rfl trivial rfl ?_
                            refine .fin ?_
                            obtain rfl := Gets.out H
                            exact WP.retL (fun _ _ h => h) rfl () trivial (.cons (res_tmp rfl) .nil) rfl (st_sel (L := [blk b189 32 [eq (.int .i64 a0.fKind), eq (.string a0.fRoom), eq (.string a0.fUser), eq (.string a0.fEvent), eq (.string a0.fThread), eq (.bool a0.fPrivate), eq (.bool a0.fOn), eq (.int .i64 a0.fSpan), eq (.int .i64 a0.fState), eq (.int .i64 a0.fTick), eq (.int .i64 a0.fStamp)]]) (F := F) [0] 1 rfl rfl rfl)
                          · replace H := Gets.ct H c247
                            refine Dv.fab rfl ⟨_, _, rfl, rfl, rfl⟩ rfl Try.underlying32 rfl Try.underlying4 c4 (by decide) ?_
                            refine Dv.ldb rfl ⟨_, _, rfl, rfl, rfl⟩ rfl Try.underlying4 rfl (mem_at 0 rfl) rfl ?_
                            refine Dv.un rfl ⟨_, _, rfl, rfl, rfl⟩ rfl (fun _ => run_not _) ?_
                            refine Dv.pickT rfl trivial rfl rfl ?_
                            refine Dv.mv rfl trivial rfl ?_
                            cases c248 : !a0.fPrivate
                            · replace H := Gets.cf H c248
                              refine Dv.skip rfl ⟨_, _, rfl, rfl, .inl rfl⟩ ?_
                              refine Dv.skip rfl ⟨_, _, rfl, rfl, .inl rfl⟩ ?_
                              refine Dv.skip rfl ⟨_, _, rfl, rfl, .inl rfl⟩ ?_
                              refine Dv.pickF rfl trivial rfl rfl ?_
                              refine Dv.mv rfl trivial rfl ?_
                              refine Dv.skip rfl ⟨_, _, rfl, rfl, .inl rfl⟩ ?_
                              refine Dv.skip rfl ⟨_, _, rfl, rfl, .inl rfl⟩ ?_
                              refine Dv.skip rfl ⟨_, _, rfl, rfl, .inl rfl⟩ ?_
                              refine Dv.pickF rfl trivial rfl rfl ?_
                              refine Dv.asg rfl trivial rfl ?_
                              refine .fin ?_
                              obtain rfl := Gets.out H
                              exact WP.retL (fun _ _ h => h) rfl () trivial (.cons (res_tmp rfl) .nil) rfl (st_sel (L := [blk b189 32 [eq (.int .i64 a0.fKind), eq (.string a0.fRoom), eq (.string a0.fUser), eq (.string a0.fEvent), eq (.string a0.fThread), eq (.bool a0.fPrivate), eq (.bool a0.fOn), eq (.int .i64 a0.fSpan), eq (.int .i64 a0.fState), eq (.int .i64 a0.fTick), eq (.int .i64 a0.fStamp)]]) (F := F) [0] 1 rfl rfl rfl)
                            · replace H := Gets.ct H c248
                              refine Dv.fab rfl ⟨_, _, rfl, rfl, rfl⟩ rfl Try.underlying32 rfl Try.underlying3 c3 (by decide) ?_
                              refine Dv.ldb rfl ⟨_, _, rfl, rfl, rfl⟩ rfl Try.underlying3 rfl (mem_at 0 rfl) rfl ?_
                              refine Dv.bin rfl ⟨_, _, rfl, rfl, rfl⟩ rfl rfl (fun _ => run_ge) ?_
                              refine Dv.pickT rfl trivial rfl rfl ?_
                              refine Dv.mv rfl trivial rfl ?_
                              cases c249 : decide (0 ≤ a0.fState)
                              · replace H := Gets.cf H c249
                                refine Dv.skip rfl ⟨_, _, rfl, rfl, .inl rfl⟩ ?_
                                refine Dv.skip rfl ⟨_, _, rfl, rfl, .inl rfl⟩ ?_
                                refine Dv.skip rfl ⟨_, _, rfl, rfl, .inl rfl⟩ ?_
                                refine Dv.pickF rfl trivial rfl rfl ?_
                                refine Dv.asg rfl trivial rfl ?_
                                refine .fin ?_
                                obtain rfl := Gets.out H
                                exact WP.retL (fun _ _ h => h) rfl () trivial (.cons (res_tmp rfl) .nil) rfl (st_sel (L := [blk b189 32 [eq (.int .i64 a0.fKind), eq (.string a0.fRoom), eq (.string a0.fUser), eq (.string a0.fEvent), eq (.string a0.fThread), eq (.bool a0.fPrivate), eq (.bool a0.fOn), eq (.int .i64 a0.fSpan), eq (.int .i64 a0.fState), eq (.int .i64 a0.fTick), eq (.int .i64 a0.fStamp)]]) (F := F) [0] 1 rfl rfl rfl)
                              · replace H := Gets.ct H c249
                                refine Dv.fab rfl ⟨_, _, rfl, rfl, rfl⟩ rfl Try.underlying32 rfl Try.underlying3 c3 (by decide) ?_
                                refine Dv.ldb rfl ⟨_, _, rfl, rfl, rfl⟩ rfl Try.underlying3 rfl (mem_at 0 rfl) rfl ?_
                                refine Dv.bin rfl ⟨_, _, rfl, rfl, rfl⟩ rfl rfl (fun _ => run_le) ?_
                                refine Dv.pickT rfl trivial rfl rfl ?_
                                refine Dv.asg rfl trivial rfl ?_
                                refine .fin ?_
                                obtain rfl := Gets.out H
                                exact WP.retL (fun _ _ h => h) rfl () trivial (.cons (res_tmp rfl) .nil) rfl (st_sel (L := [blk b189 32 [eq (.int .i64 a0.fKind), eq (.string a0.fRoom), eq (.string a0.fUser), eq (.string a0.fEvent), eq (.string a0.fThread), eq (.bool a0.fPrivate), eq (.bool a0.fOn), eq (.int .i64 a0.fSpan), eq (.int .i64 a0.fState), eq (.int .i64 a0.fTick), eq (.int .i64 a0.fStamp)]]) (F := F) [0] 1 rfl rfl rfl)
                · replace H := Gets.cf H c242
                  refine WP.skip ?_
                  refine WP.seq ?_
                  refine WP.reg [(0, false)] (by kernel_rfl) ?_
                  refine Dv.asg rfl trivial rfl ?_
                  refine .fin ?_
                  obtain rfl := Gets.out H
                  exact WP.retL (fun _ _ h => h) rfl () trivial (.cons (res_tmp rfl) .nil) rfl (st_sel (L := [blk b189 32 [eq (.int .i64 a0.fKind), eq (.string a0.fRoom), eq (.string a0.fUser), eq (.string a0.fEvent), eq (.string a0.fThread), eq (.bool a0.fPrivate), eq (.bool a0.fOn), eq (.int .i64 a0.fSpan), eq (.int .i64 a0.fState), eq (.int .i64 a0.fTick), eq (.int .i64 a0.fStamp)]]) (F := F) [0] 1 rfl rfl rfl)
        · replace H := Gets.ct H c204
          refine Dv.skip rfl ⟨_, _, rfl, rfl, .inl rfl⟩ ?_
          refine Dv.skip rfl ⟨_, _, rfl, rfl, .inl rfl⟩ ?_
          refine Dv.skip rfl ⟨_, _, rfl, rfl, .inl rfl⟩ ?_
          refine Dv.pickT rfl trivial rfl rfl ?_
          refine .fin ?_
          refine WP.cond rfl (fun _ => ?_) nofun
          refine WP.seq ?_
          refine WP.reg [(0, false)] (by kernel_rfl) ?_
          refine Dv.asg rfl trivial rfl ?_
          refine .fin ?_
          obtain rfl := Gets.out H
          exact WP.retL (fun _ _ h => h) rfl () trivial (.cons (res_tmp rfl) .nil) rfl (st_sel (L := [blk b189 32 [eq (.int .i64 a0.fKind), eq (.string a0.fRoom), eq (.string a0.fUser), eq (.string a0.fEvent), eq (.string a0.fThread), eq (.bool a0.fPrivate), eq (.bool a0.fOn), eq (.int .i64 a0.fSpan), eq (.int .i64 a0.fState), eq (.int .i64 a0.fTick), eq (.int .i64 a0.fStamp)]]) (F := F) [0] 1 rfl rfl rfl)
      · replace H := Gets.ct H c202
        refine Dv.skip rfl ⟨_, _, rfl, rfl, .inl rfl⟩ ?_
        refine Dv.skip rfl ⟨_, _, rfl, rfl, .inl rfl⟩ ?_
        refine Dv.skip rfl ⟨_, _, rfl, rfl, .inl rfl⟩ ?_
        refine Dv.pickT rfl trivial rfl rfl ?_
        refine Dv.mv rfl trivial rfl ?_
        refine Dv.skip rfl ⟨_, _, rfl, rfl, .inl rfl⟩ ?_
        refine Dv.skip rfl ⟨_, _, rfl, rfl, .inl rfl⟩ ?_
        refine Dv.skip rfl ⟨_, _, rfl, rfl, .inl rfl⟩ ?_
        refine Dv.pickT rfl trivial rfl rfl ?_
        refine .fin ?_
        refine WP.cond rfl (fun _ => ?_) nofun
        refine WP.seq ?_
        refine WP.reg [(0, false)] (by kernel_rfl) ?_
        refine Dv.asg rfl trivial rfl ?_
        refine .fin ?_
        obtain rfl := Gets.out H
        exact WP.retL (fun _ _ h => h) rfl () trivial (.cons (res_tmp rfl) .nil) rfl (st_sel (L := [blk b189 32 [eq (.int .i64 a0.fKind), eq (.string a0.fRoom), eq (.string a0.fUser), eq (.string a0.fEvent), eq (.string a0.fThread), eq (.bool a0.fPrivate), eq (.bool a0.fOn), eq (.int .i64 a0.fSpan), eq (.int .i64 a0.fState), eq (.int .i64 a0.fTick), eq (.int .i64 a0.fStamp)]]) (F := F) [0] 1 rfl rfl rfl)
    · replace H := Gets.ct H c200
      refine Dv.skip rfl ⟨_, _, rfl, rfl, .inl rfl⟩ ?_
      refine Dv.skip rfl ⟨_, _, rfl, rfl, .inl rfl⟩ ?_
      refine Dv.skip rfl ⟨_, _, rfl, rfl, .inl rfl⟩ ?_
      refine Dv.pickT rfl trivial rfl rfl ?_
      refine Dv.mv rfl trivial rfl ?_
      refine Dv.skip rfl ⟨_, _, rfl, rfl, .inl rfl⟩ ?_
      refine Dv.skip rfl ⟨_, _, rfl, rfl, .inl rfl⟩ ?_
      refine Dv.skip rfl ⟨_, _, rfl, rfl, .inl rfl⟩ ?_
      refine Dv.pickT rfl trivial rfl rfl ?_
      refine Dv.mv rfl trivial rfl ?_
      refine Dv.skip rfl ⟨_, _, rfl, rfl, .inl rfl⟩ ?_
      refine Dv.skip rfl ⟨_, _, rfl, rfl, .inl rfl⟩ ?_
      refine Dv.skip rfl ⟨_, _, rfl, rfl, .inl rfl⟩ ?_
      refine Dv.pickT rfl trivial rfl rfl ?_
      refine .fin ?_
      refine WP.cond rfl (fun _ => ?_) nofun
      refine WP.seq ?_
      refine WP.reg [(0, false)] (by kernel_rfl) ?_
      refine Dv.asg rfl trivial rfl ?_
      refine .fin ?_
      obtain rfl := Gets.out H
      exact WP.retL (fun _ _ h => h) rfl () trivial (.cons (res_tmp rfl) .nil) rfl (st_sel (L := [blk b189 32 [eq (.int .i64 a0.fKind), eq (.string a0.fRoom), eq (.string a0.fUser), eq (.string a0.fEvent), eq (.string a0.fThread), eq (.bool a0.fPrivate), eq (.bool a0.fOn), eq (.int .i64 a0.fSpan), eq (.int .i64 a0.fState), eq (.int .i64 a0.fTick), eq (.int .i64 a0.fStamp)]]) (F := F) [0] 1 rfl rfl rfl)
  · replace H := Gets.ct H c198
    refine Dv.skip rfl ⟨_, _, rfl, rfl, .inl rfl⟩ ?_
    refine Dv.skip rfl ⟨_, _, rfl, rfl, .inl rfl⟩ ?_
    refine Dv.skip rfl ⟨_, _, rfl, rfl, .inl rfl⟩ ?_
    refine Dv.pickT rfl trivial rfl rfl ?_
    refine Dv.mv rfl trivial rfl ?_
    refine Dv.skip rfl ⟨_, _, rfl, rfl, .inl rfl⟩ ?_
    refine Dv.skip rfl ⟨_, _, rfl, rfl, .inl rfl⟩ ?_
    refine Dv.skip rfl ⟨_, _, rfl, rfl, .inl rfl⟩ ?_
    refine Dv.pickT rfl trivial rfl rfl ?_
    refine Dv.mv rfl trivial rfl ?_
    refine Dv.skip rfl ⟨_, _, rfl, rfl, .inl rfl⟩ ?_
    refine Dv.skip rfl ⟨_, _, rfl, rfl, .inl rfl⟩ ?_
    refine Dv.skip rfl ⟨_, _, rfl, rfl, .inl rfl⟩ ?_
    refine Dv.pickT rfl trivial rfl rfl ?_
    refine Dv.mv rfl trivial rfl ?_
    refine Dv.skip rfl ⟨_, _, rfl, rfl, .inl rfl⟩ ?_
    refine Dv.skip rfl ⟨_, _, rfl, rfl, .inl rfl⟩ ?_
    refine Dv.skip rfl ⟨_, _, rfl, rfl, .inl rfl⟩ ?_
    refine Dv.pickT rfl trivial rfl rfl ?_
    refine .fin ?_
    refine WP.cond rfl (fun _ => ?_) nofun
    refine WP.seq ?_
    refine WP.reg [(0, false)] (by kernel_rfl) ?_
    refine Dv.asg rfl trivial rfl ?_
    refine .fin ?_
    obtain rfl := Gets.out H
    exact WP.retL (fun _ _ h => h) rfl () trivial (.cons (res_tmp rfl) .nil) rfl (st_sel (L := [blk b189 32 [eq (.int .i64 a0.fKind), eq (.string a0.fRoom), eq (.string a0.fUser), eq (.string a0.fEvent), eq (.string a0.fThread), eq (.bool a0.fPrivate), eq (.bool a0.fOn), eq (.int .i64 a0.fSpan), eq (.int .i64 a0.fState), eq (.int .i64 a0.fTick), eq (.int .i64 a0.fStamp)]]) (F := F) [0] 1 rfl rfl rfl)
theorem concourseref03_May.c {k : Nat} {a0 : Edu} {r : Bool} (h : concourseref03_May.f k a0 = some r) : Pt Try.prog 26 [agg (Edu.enc a0)] (eq (.bool r)) := by
  unfold concourseref03_May.f at h
  refine (Tr.body Try.func26 (c := _) rfl Try.ntmps26 (Nat.le_of_ble_eq_true rfl) fun R0 F => ?_).pt
  replace h := Gets.of h
  have H := h
  clear h
  refine WP.seq ?_
  refine WP.reg [(0, true), (1, false)] (by kernel_rfl) ?_
  refine Dv.box rfl trivial rfl (cells_agg (Edu.K.one _)) nofun (fun b250 => ?_)
  refine Dv.asg rfl trivial rfl ?_
  refine .fin ?_
  refine WP.seq ?_
  refine WP.reg [(0, false), (1, false), (2, false)] (by kernel_rfl) ?_
  refine Dv.ldbs rfl trivial rfl Try.underlying32 rfl c32 (mem_at 0 rfl) (Nat.le_of_ble_eq_true rfl) ?_
  obtain ⟨t251, h252, H⟩ := Gets.call H
  refine Dv.call rfl trivial cal39 rfl (concourseref03_Local.c h252) ?_
  refine Dv.asg rfl trivial rfl ?_
  refine .fin ?_
  refine WP.seq ?_
  refine WP.reg [(0, false), (1, false), (2, false), (3, false), (4, false), (5, false), (6, false)] (by kernel_rfl) ?_
  refine Dv.mv rfl trivial rfl ?_
  refine Dv.mv rfl trivial rfl ?_
  cases c253 : t251
  · replace H := Gets.cf H c253
    refine Dv.skip rfl ⟨_, _, rfl, rfl, .inl rfl⟩ ?_
    refine Dv.skip rfl ⟨_, _, rfl, rfl, .inl rfl⟩ ?_
    refine Dv.skip rfl ⟨_, _, rfl, rfl, .inl rfl⟩ ?_
    refine Dv.pickF rfl trivial rfl rfl ?_
    refine Dv.asg rfl trivial rfl ?_
    refine .fin ?_
    obtain rfl := Gets.out H
    exact WP.retL (fun _ _ h => h) rfl () trivial (.cons (res_tmp rfl) .nil) rfl (st_sel (L := [blk b250 32 [eq (.int .i64 a0.fKind), eq (.string a0.fRoom), eq (.string a0.fUser), eq (.string a0.fEvent), eq (.string a0.fThread), eq (.bool a0.fPrivate), eq (.bool a0.fOn), eq (.int .i64 a0.fSpan), eq (.int .i64 a0.fState), eq (.int .i64 a0.fTick), eq (.int .i64 a0.fStamp)]]) (F := F) [0] 1 rfl rfl rfl)
  · replace H := Gets.ct H c253
    refine Dv.fab rfl ⟨_, _, rfl, rfl, rfl⟩ rfl Try.underlying32 rfl Try.underlying4 c4 (by decide) ?_
    refine Dv.ldb rfl ⟨_, _, rfl, rfl, rfl⟩ rfl Try.underlying4 rfl (mem_at 0 rfl) rfl ?_
    refine Dv.un rfl ⟨_, _, rfl, rfl, rfl⟩ rfl (fun _ => run_not _) ?_
    refine Dv.pickT rfl trivial rfl rfl ?_
    refine Dv.asg rfl trivial rfl ?_
    refine .fin ?_
    obtain rfl := Gets.out H
    exact WP.retL (fun _ _ h => h) rfl () trivial (.cons (res_tmp rfl) .nil) rfl (st_sel (L := [blk b250 32 [eq (.int .i64 a0.fKind), eq (.string a0.fRoom), eq (.string a0.fUser), eq (.string a0.fEvent), eq (.string a0.fThread), eq (.bool a0.fPrivate), eq (.bool a0.fOn), eq (.int .i64 a0.fSpan), eq (.int .i64 a0.fState), eq (.int .i64 a0.fTick), eq (.int .i64 a0.fStamp)]]) (F := F) [0] 1 rfl rfl rfl)
end Go.Proofs.Ytmbodanckhidiaa
