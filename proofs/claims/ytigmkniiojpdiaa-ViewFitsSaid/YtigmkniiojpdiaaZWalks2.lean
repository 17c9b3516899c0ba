/- The walks. -/
import Derived.Test.YtigmkniiojpdiaaZWalks1
import Derived.Test.YtigmkniiojpdiaaConY
import Derived.Eval
set_option linter.all false
set_option maxRecDepth 10000
set_option maxHeartbeats 20000000
namespace Go.Proofs.Ytigmkniiojpdiaa
open Go Go.Sp
theorem name_split.c {k : Nat} {a0 : ByteArray} {a1 : ByteArray} {r : ByteArray × ByteArray × Bool} (h : name_split.f k a0 a1 = some r) : Pt Try.prog 44 [eq (.string a0), eq (.string a1)] (tup [eq (.string r.1), eq (.string r.2.1), eq (.bool r.2.2)]) := by
  unfold name_split.f at h
  refine (Tr.body Try.func44 (c := _) rfl Try.ntmps44 (Nat.le_of_ble_eq_true rfl) fun R0 F => ?_).pt
  replace h := Gets.of h
  have H := h
  clear h
  refine WP.seq ?_
  refine WP.reg [(0, false), (1, false), (2, false)] (by kernel_rfl) ?_
  refine Dv.asg rfl trivial rfl ?_
  refine Dv.asg rfl trivial rfl ?_
  refine Dv.asg rfl trivial rfl ?_
  refine .fin ?_
  refine WP.seq ?_
  refine WP.reg [(0, false), (1, false), (2, false), (3, false), (4, false), (5, false), (6, false), (7, false)] (by kernel_rfl) ?_
  refine Dv.mv rfl trivial rfl ?_
  refine Dv.mv rfl trivial rfl ?_
  obtain ⟨t406, h407, H⟩ := Gets.call H
  refine Dv.call rfl trivial cal42 rfl (strings_CutPrefix.c h407) ?_
  refine Dv.mv rfl trivial rfl ?_
  refine Dv.ext rfl trivial rfl rfl ?_
  refine Dv.ext rfl trivial rfl rfl ?_
  refine Dv.asg rfl trivial rfl ?_
  refine Dv.asg rfl trivial rfl ?_
  refine .fin ?_
  refine WP.seq ?_
  refine WP.reg [(0, false), (1, false), (2, false), (3, false), (4, false), (5, false), (6, false), (7, false), (8, false)] (by kernel_rfl) ?_
  refine Dv.mv rfl trivial rfl ?_
  obtain ⟨t408, h409, H⟩ := Gets.call H
  refine Dv.call rfl trivial cal51 rfl (strings_Cut.c h409) ?_
  refine Dv.mv rfl trivial rfl ?_
  refine Dv.ext rfl trivial rfl rfl ?_
  refine Dv.ext rfl trivial rfl rfl ?_
  refine Dv.ext rfl trivial rfl rfl ?_
  refine Dv.asg rfl trivial rfl ?_
  refine Dv.asg rfl trivial rfl ?_
  refine Dv.asg rfl trivial rfl ?_
  refine .fin ?_
  refine WP.seq ?_
  refine WP.reg [(0, false), (1, false), (2, false), (3, false), (4, false), (5, false), (6, false), (7, false), (8, false), (9, false), (10, false), (11, false), (12, false), (13, false), (14, false), (15, false), (16, false)] (by kernel_rfl) ?_
  refine Dv.mv rfl trivial rfl ?_
  refine Dv.mv rfl trivial rfl ?_
  refine Dv.mv rfl trivial rfl ?_
  refine Dv.mv rfl trivial rfl ?_
  cases c410 : t406.2
  · replace H := Gets.cf H c410
    refine Dv.skip rfl ⟨_, _, rfl, rfl, .inl rfl⟩ ?_
    refine Dv.pickF rfl trivial rfl rfl ?_
    refine Dv.mv rfl trivial rfl ?_
    refine Dv.skip rfl ⟨_, _, rfl, rfl, .inl rfl⟩ ?_
    refine Dv.skip rfl ⟨_, _, rfl, rfl, .inl rfl⟩ ?_
    refine Dv.pickF rfl trivial rfl rfl ?_
    refine Dv.mv rfl trivial rfl ?_
    refine Dv.skip rfl ⟨_, _, rfl, rfl, .inl rfl⟩ ?_
    refine Dv.skip rfl ⟨_, _, rfl, rfl, .inl rfl⟩ ?_
    refine Dv.pickF rfl trivial rfl rfl ?_
    refine Dv.asg rfl trivial rfl ?_
    refine Dv.asg rfl trivial rfl ?_
    refine Dv.asg rfl trivial rfl ?_
    refine .fin ?_
    obtain rfl := Gets.out H
    exact WP.retL (fun _ _ h => h) rfl () trivial (.cons (res_tmp rfl) (.cons (res_tmp rfl) (.cons (res_tmp rfl) .nil))) rfl (st_sel (L := []) (F := F) [] 0 rfl rfl rfl)
  · replace H := Gets.ct H c410
    refine Dv.mv rfl ⟨_, _, rfl, rfl, rfl⟩ rfl ?_
    refine Dv.pickT rfl trivial rfl rfl ?_
    refine Dv.mv rfl trivial rfl ?_
    cases c411 : t408.2.2
    · replace H := Gets.cf H c411
      refine Dv.skip rfl ⟨_, _, rfl, rfl, .inl rfl⟩ ?_
      refine Dv.skip rfl ⟨_, _, rfl, rfl, .inl rfl⟩ ?_
      refine Dv.pickF rfl trivial rfl rfl ?_
      refine Dv.mv rfl trivial rfl ?_
      refine Dv.skip rfl ⟨_, _, rfl, rfl, .inl rfl⟩ ?_
      refine Dv.skip rfl ⟨_, _, rfl, rfl, .inl rfl⟩ ?_
      refine Dv.pickF rfl trivial rfl rfl ?_
      refine Dv.asg rfl trivial rfl ?_
      refine Dv.asg rfl trivial rfl ?_
      refine Dv.asg rfl trivial rfl ?_
      refine .fin ?_
      obtain rfl := Gets.out H
      exact WP.retL (fun _ _ h => h) rfl () trivial (.cons (res_tmp rfl) (.cons (res_tmp rfl) (.cons (res_tmp rfl) .nil))) rfl (st_sel (L := []) (F := F) [] 0 rfl rfl rfl)
    · replace H := Gets.ct H c411
      refine Dv.mv rfl ⟨_, _, rfl, rfl, rfl⟩ rfl ?_
      obtain ⟨t412, h413, H⟩ := Gets.call H
      refine Dv.call rfl ⟨_, _, rfl, rfl, rfl⟩ cal43 rfl (name_may.c h413) ?_
      refine Dv.pickT rfl trivial rfl rfl ?_
      refine Dv.mv rfl trivial rfl ?_
      cases c414 : t412
      · replace H := Gets.cf H c414
        refine Dv.skip rfl ⟨_, _, rfl, rfl, .inl rfl⟩ ?_
        refine Dv.skip rfl ⟨_, _, rfl, rfl, .inl rfl⟩ ?_
        refine Dv.pickF rfl trivial rfl rfl ?_
        refine Dv.asg rfl trivial rfl ?_
        refine Dv.asg rfl trivial rfl ?_
        refine Dv.asg rfl trivial rfl ?_
        refine .fin ?_
        obtain rfl := Gets.out H
        exact WP.retL (fun _ _ h => h) rfl () trivial (.cons (res_tmp rfl) (.cons (res_tmp rfl) (.cons (res_tmp rfl) .nil))) rfl (st_sel (L := []) (F := F) [] 0 rfl rfl rfl)
      · replace H := Gets.ct H c414
        refine Dv.mv rfl ⟨_, _, rfl, rfl, rfl⟩ rfl ?_
        obtain ⟨t415, h416, H⟩ := Gets.call H
        refine Dv.call rfl ⟨_, _, rfl, rfl, rfl⟩ cal52 rfl (name_Server.c h416) ?_
        refine Dv.pickT rfl trivial rfl rfl ?_
        refine Dv.asg rfl trivial rfl ?_
        refine Dv.asg rfl trivial rfl ?_
        refine Dv.asg rfl trivial rfl ?_
        refine .fin ?_
        obtain rfl := Gets.out H
        exact WP.retL (fun _ _ h => h) rfl () trivial (.cons (res_tmp rfl) (.cons (res_tmp rfl) (.cons (res_tmp rfl) .nil))) rfl (st_sel (L := []) (F := F) [] 0 rfl rfl rfl)
theorem name_Room.c {k : Nat} {a0 : ByteArray} {r : Bool} (h : name_Room.f k a0 = some r) : Pt Try.prog 37 [eq (.string a0)] (eq (.bool r)) := by
  unfold name_Room.f at h
  refine (Tr.body Try.func37 (c := _) rfl Try.ntmps37 (Nat.le_of_ble_eq_true rfl) fun R0 F => ?_).pt
  replace h := Gets.of h
  have H := h
  clear h
  refine WP.seq ?_
  refine WP.reg [(0, false)] (by kernel_rfl) ?_
  refine Dv.asg rfl trivial rfl ?_
  refine .fin ?_
  refine WP.seq ?_
  refine WP.reg [(0, false), (1, false), (2, false), (3, false), (4, false), (5, false), (6, false), (7, false), (8, false)] (by kernel_rfl) ?_
  refine Dv.mv rfl trivial rfl ?_
  obtain ⟨t417, h418, H⟩ := Gets.call H
  refine Dv.call rfl trivial cal44 rfl (name_split.c h418) ?_
  refine Dv.mv rfl trivial rfl ?_
  refine Dv.ext rfl trivial rfl rfl ?_
  refine Dv.ext rfl trivial rfl rfl ?_
  refine Dv.ext rfl trivial rfl rfl ?_
  refine Dv.asg rfl trivial rfl ?_
  refine Dv.asg rfl trivial rfl ?_
  refine Dv.asg rfl trivial rfl ?_
  refine .fin ?_
  refine WP.seq ?_
  refine WP.reg [(0, false), (1, false)] (by kernel_rfl) ?_
  refine Dv.mv rfl trivial rfl ?_
  refine Dv.asg rfl trivial rfl ?_
  refine .fin ?_
  obtain rfl := Gets.out H
  exact WP.retL (fun _ _ h => h) rfl () trivial (.cons (res_tmp rfl) .nil) rfl (st_sel (L := []) (F := F) [] 0 rfl rfl rfl)
theorem name_User.c {k : Nat} {a0 : ByteArray} {r : Bool} (h : name_User.f k a0 = some r) : Pt Try.prog 38 [eq (.string a0)] (eq (.bool r)) := by
  unfold name_User.f at h
  refine (Tr.body Try.func38 (c := _) rfl Try.ntmps38 (Nat.le_of_ble_eq_true rfl) fun R0 F => ?_).pt
  replace h := Gets.of h
  have H := h
  clear h
  refine WP.seq ?_
  refine WP.reg [(0, false)] (by kernel_rfl) ?_
  refine Dv.asg rfl trivial rfl ?_
  refine .fin ?_
  refine WP.seq ?_
  refine WP.reg [(0, false), (1, false), (2, false), (3, false), (4, false), (5, false), (6, false), (7, false), (8, false)] (by kernel_rfl) ?_
  refine Dv.mv rfl trivial rfl ?_
  obtain ⟨t419, h420, H⟩ := Gets.call H
  refine Dv.call rfl trivial cal44 rfl (name_split.c h420) ?_
  refine Dv.mv rfl trivial rfl ?_
  refine Dv.ext rfl trivial rfl rfl ?_
  refine Dv.ext rfl trivial rfl rfl ?_
  refine Dv.ext rfl trivial rfl rfl ?_
  refine Dv.asg rfl trivial rfl ?_
  refine Dv.asg rfl trivial rfl ?_
  refine Dv.asg rfl trivial rfl ?_
  refine .fin ?_
  refine WP.seq ?_
  refine WP.reg [(0, false), (1, false)] (by kernel_rfl) ?_
  refine Dv.mv rfl trivial rfl ?_
  refine Dv.asg rfl trivial rfl ?_
  refine .fin ?_
  obtain rfl := Gets.out H
  exact WP.retL (fun _ _ h => h) rfl () trivial (.cons (res_tmp rfl) .nil) rfl (st_sel (L := []) (F := F) [] 0 rfl rfl rfl)
theorem dag_May.c {k : Nat} {a0 : Event} {r : Bool} (h : dag_May.f k a0 = some r) : Pt Try.prog 30 [agg (Event.enc a0)] (eq (.bool r)) := by
  unfold dag_May.f at h
  refine (Tr.body Try.func30 (c := _) rfl Try.ntmps30 (Nat.le_of_ble_eq_true rfl) fun R0 F => ?_).pt
  replace h := Gets.of h
  have H := h
  clear h
  refine WP.seq ?_
  refine WP.reg [(0, true), (1, false)] (by kernel_rfl) ?_
  refine Dv.box rfl trivial rfl (cells_agg (Event.K.one _)) nofun (fun b421 => ?_)
  refine Dv.asg rfl trivial rfl ?_
  refine .fin ?_
  refine WP.scope ?_
  refine WP.seq ?_
  refine WP.seq ?_
  refine WP.reg [(0, false), (1, false), (2, false), (3, false), (4, false), (5, false), (6, false), (7, false), (8, false), (9, false), (10, false), (11, false), (12, false), (13, false), (14, false), (15, false), (16, false), (17, false), (18, false), (19, false), (20, false), (21, false), (22, false), (23, false), (24, false), (25, false), (26, false), (27, false), (28, false), (29, false), (30, false), (31, false)] (by kernel_rfl) ?_
  refine Dv.fab rfl trivial rfl Try.underlying42 rfl Try.underlying9 c9 (by decide) ?_
  refine Dv.ldb rfl trivial rfl Try.underlying9 rfl (mem_at 0 rfl) rfl ?_
  obtain ⟨t422, h423, H⟩ := Gets.call H
  refine Dv.call rfl trivial cal36 rfl (name_Event.c h423) ?_
  refine Dv.un rfl trivial rfl (fun _ => run_not _) ?_
  refine Dv.mv rfl trivial rfl ?_
  cases c424 : !t422
  · replace H := Gets.cf H c424
    refine Dv.fab rfl ⟨_, _, rfl, rfl, rfl⟩ rfl Try.underlying42 rfl Try.underlying9 c9 (by decide) ?_
    refine Dv.ldb rfl ⟨_, _, rfl, rfl, rfl⟩ rfl Try.underlying9 rfl (mem_at 0 rfl) rfl ?_
    obtain ⟨t426, h427, H⟩ := Gets.call H
    refine Dv.call rfl ⟨_, _, rfl, rfl, rfl⟩ cal37 rfl (name_Room.c h427) ?_
    refine Dv.un rfl ⟨_, _, rfl, rfl, rfl⟩ rfl (fun _ => run_not _) ?_
    refine Dv.pickF rfl trivial rfl rfl ?_
    refine Dv.mv rfl trivial rfl ?_
    cases c428 : !t426
    · replace H := Gets.cf H c428
      refine Dv.fab rfl ⟨_, _, rfl, rfl, rfl⟩ rfl Try.underlying42 rfl Try.underlying9 c9 (by decide) ?_
      refine Dv.ldb rfl ⟨_, _, rfl, rfl, rfl⟩ rfl Try.underlying9 rfl (mem_at 0 rfl) rfl ?_
      obtain ⟨t430, h431, H⟩ := Gets.call H
      refine Dv.call rfl ⟨_, _, rfl, rfl, rfl⟩ cal38 rfl (name_User.c h431) ?_
      refine Dv.un rfl ⟨_, _, rfl, rfl, rfl⟩ rfl (fun _ => run_not _) ?_
      refine Dv.pickF rfl trivial rfl rfl ?_
      refine Dv.mv rfl trivial rfl ?_
      cases c432 : !t430
      · replace H := Gets.cf H c432
        refine Dv.fab rfl ⟨_, _, rfl, rfl, rfl⟩ rfl Try.underlying42 rfl Try.underlying40 c40 (by decide) ?_
        refine Dv.ldb rfl ⟨_, _, rfl, rfl, rfl⟩ rfl Try.underlying40 rfl (mem_at 0 rfl) rfl ?_
        refine Dv.lenl rfl ⟨_, _, rfl, rfl, rfl⟩ rfl Try.underlying40 ?_
        refine Dv.bin rfl ⟨_, _, rfl, rfl, rfl⟩ rfl rfl (fun _ => run_gt) ?_
        refine Dv.pickF rfl trivial rfl rfl ?_
        refine Dv.mv rfl trivial rfl ?_
        cases c434 : decide (4 < (a0.fParents.length : Int))
        · replace H := Gets.cf H c434
          refine Dv.fab rfl ⟨_, _, rfl, rfl, rfl⟩ rfl Try.underlying42 rfl Try.underlying3 c3 (by decide) ?_
          refine Dv.ldb rfl ⟨_, _, rfl, rfl, rfl⟩ rfl Try.underlying3 rfl (mem_at 0 rfl) rfl ?_
          refine Dv.bin rfl ⟨_, _, rfl, rfl, rfl⟩ rfl rfl (fun _ => run_lt) ?_
          refine Dv.pickF rfl trivial rfl rfl ?_
          refine Dv.mv rfl trivial rfl ?_
          cases c436 : decide (a0.fDoes < 0)
          · replace H := Gets.cf H c436
            refine Dv.fab rfl ⟨_, _, rfl, rfl, rfl⟩ rfl Try.underlying42 rfl Try.underlying3 c3 (by decide) ?_
            refine Dv.ldb rfl ⟨_, _, rfl, rfl, rfl⟩ rfl Try.underlying3 rfl (mem_at 0 rfl) rfl ?_
            refine Dv.bin rfl ⟨_, _, rfl, rfl, rfl⟩ rfl rfl (fun _ => run_gt) ?_
            refine Dv.pickF rfl trivial rfl rfl ?_
            refine .fin ?_
            refine WP.cond rfl (fun c438 => ?_) (fun c438 => ?_)
            · replace H := Gets.ct H c438
              refine WP.seq ?_
              refine WP.reg [(0, false)] (by kernel_rfl) ?_
              refine Dv.asg rfl trivial rfl ?_
              refine .fin ?_
              obtain rfl := Gets.out H
              exact WP.retL (fun _ _ h => h) rfl () trivial (.cons (res_tmp rfl) .nil) rfl (st_sel (L := [blk b421 42 [eq (.string a0.fID), eq (.string a0.fRoom), sl strK a0.fParents, eq (.string a0.fThread), eq (.string a0.fUser), eq (.int .i64 a0.fDoes)]]) (F := F) [0] 1 rfl rfl rfl)
            · replace H := Gets.cf H c438
              refine WP.skip ?_
              refine WP.seq ?_
              refine WP.seq ?_
              refine WP.reg [(0, false), (1, false), (2, false), (3, false), (4, false), (5, false), (6, false), (7, false), (8, false), (9, false), (10, false), (11, false), (12, false), (13, false), (14, false), (15, false), (16, false), (17, false), (18, false), (19, false), (20, false)] (by kernel_rfl) ?_
              refine Dv.fab rfl trivial rfl Try.underlying42 rfl Try.underlying9 c9 (by decide) ?_
              refine Dv.ldb rfl trivial rfl Try.underlying9 rfl (mem_at 0 rfl) rfl ?_
              refine Dv.bin rfl trivial rfl rfl (fun _ => run_sne) ?_
              refine Dv.mv rfl trivial rfl ?_
              cases c439 : !decide (a0.fThread = (⟨#[]⟩ : ByteArray))
              · replace H := Gets.cf H c439
                refine Dv.skip rfl ⟨_, _, rfl, rfl, .inl rfl⟩ ?_
                refine Dv.skip rfl ⟨_, _, rfl, rfl, .inl rfl⟩ ?_
                refine Dv.skip rfl ⟨_, _, rfl, rfl, .inl rfl⟩ ?_
                refine Dv.skip rfl ⟨_, _, rfl, rfl, .inl rfl⟩ ?_
                refine Dv.skip rfl ⟨_, _, rfl, rfl, .inl rfl⟩ ?_
                refine Dv.skip rfl ⟨_, _, rfl, rfl, .inr rfl⟩ ?_
                refine Dv.skip rfl ⟨_, _, rfl, rfl, .inr rfl⟩ ?_
                refine Dv.skip rfl ⟨_, _, rfl, rfl, .inr rfl⟩ ?_
                refine Dv.skip rfl ⟨_, _, rfl, rfl, .inr rfl⟩ ?_
                refine Dv.skip rfl ⟨_, _, rfl, rfl, .inr rfl⟩ ?_
                refine Dv.skip rfl ⟨_, _, rfl, rfl, .inl rfl⟩ ?_
                refine Dv.skip rfl ⟨_, _, rfl, rfl, .inl rfl⟩ ?_
                refine Dv.skip rfl ⟨_, _, rfl, rfl, .inr rfl⟩ ?_
                refine Dv.skip rfl ⟨_, _, rfl, rfl, .inr rfl⟩ ?_
                refine Dv.skip rfl ⟨_, _, rfl, rfl, .inr rfl⟩ ?_
                refine Dv.skip rfl ⟨_, _, rfl, rfl, .inl rfl⟩ ?_
                refine Dv.pickF rfl trivial rfl rfl ?_
                refine .fin ?_
                refine WP.cond rfl nofun (fun _ => ?_)
                refine WP.skip ?_
                refine WP.seq ?_
                refine WP.reg [(0, false)] (by kernel_rfl) ?_
                refine Dv.asg rfl trivial rfl ?_
                refine .fin ?_
                refine WP.seq ?_
                refine WP.label ?_
                refine WP.seqn H id (fun p464 : Bool × Int × Bool => [(0, agg (Event.enc a0)), (1, eq (.pointer (some ⟨b421, 0, none⟩))), (2, eq (.bool false)), (3, eq (.bool p464.1)), (37, eq (.bool (decide (2 < a0.fDoes)))), (58, eq (.bool false)), (60, sl strK a0.fParents), (61, eq (.int .i64 (a0.fParents.length : Int))), (62, eq (.int .i64 p464.2.1)), (63, eq (.bool p464.2.2))]) (fun p464 : Bool × Int × Bool => [blk b421 42 [eq (.string a0.fID), eq (.string a0.fRoom), sl strK a0.fParents, eq (.string a0.fThread), eq (.string a0.fUser), eq (.int .i64 a0.fDoes)]] ++ F) (fun p464 H => ?_) (fun H => ?_)
                · refine WP.seq ?_
                  refine WP.reg [(0, false), (1, false)] (by kernel_rfl) ?_
                  refine Dv.mv rfl trivial rfl ?_
                  refine Dv.asg rfl trivial rfl ?_
                  refine .fin ?_
                  obtain rfl := Gets.out H
                  exact WP.retL (fun _ _ h => h) rfl () trivial (.cons (res_tmp rfl) .nil) rfl (st_sel (L := [blk b421 42 [eq (.string a0.fID), eq (.string a0.fRoom), sl strK a0.fParents, eq (.string a0.fThread), eq (.string a0.fUser), eq (.int .i64 a0.fDoes)]]) (F := F) [0] 1 rfl rfl rfl)
                · refine WP.seq ?_
                  refine WP.reg [(0, false), (1, false), (2, false), (3, false)] (by kernel_rfl) ?_
                  refine Dv.fab rfl trivial rfl Try.underlying42 rfl Try.underlying40 c40 (by decide) ?_
                  refine Dv.ldb rfl trivial rfl Try.underlying40 rfl (mem_at 0 rfl) rfl ?_
                  refine Dv.lenl rfl trivial rfl Try.underlying40 ?_
                  refine Dv.mv rfl trivial rfl ?_
                  refine .fin ?_
                  refine WP.block ?_
                  refine WP.gh (l' := fun _ => [blk b421 42 [eq (.string a0.fID), eq (.string a0.fRoom), sl strK a0.fParents, eq (.string a0.fThread), eq (.string a0.fUser), eq (.int .i64 a0.fDoes)]] ++ F) (gh_of (st_selg (L := [blk b421 42 [eq (.string a0.fID), eq (.string a0.fRoom), sl strK a0.fParents, eq (.string a0.fThread), eq (.string a0.fUser), eq (.int .i64 a0.fDoes)]]) (F := F) [0] 0 rfl rfl rfl)) (fun _ _ => ?_)
                  refine WP.loopg (fun j_ (p479 : Int) => dag_May.l1 k a0 j_ p479) 0 H (fun p479 => [(0, agg (Event.enc a0)), (1, eq (.pointer (some ⟨b421, 0, none⟩))), (2, eq (.bool false)), (3, eq (.bool true)), (37, eq (.bool (decide (2 < a0.fDoes)))), (58, eq (.bool false)), (60, sl strK a0.fParents), (61, eq (.int .i64 (a0.fParents.length : Int))), (62, eq (.int .i64 p479))]) (fun p479 => [blk b421 42 [eq (.string a0.fID), eq (.string a0.fRoom), sl strK a0.fParents, eq (.string a0.fThread), eq (.string a0.fUser), eq (.int .i64 a0.fDoes)]] ++ F) (weak_cons rfl (weak_cons rfl (weak_cons rfl (weak_cons rfl (weak_cons rfl (weak_cons rfl (weak_cons rfl (weak_cons rfl (weak_cons rfl weak_nil))))))))) (List.Perm.refl _) ?_
                  rintro j_ x465 H
                  rcases j_ with _ | j478
                  · exact (Gets.no H).elim
                  replace H : Gets (dag_May.l1 k a0 (j478 + 1) x465) _ := H
                  rw [dag_May.l1] at H
                  refine WP.seq ?_
                  refine WP.reg [(0, false)] (by kernel_rfl) ?_
                  refine Dv.bin rfl trivial rfl rfl (fun _ => run_lt) ?_
                  refine .fin ?_
                  refine WP.seq ?_
                  refine WP.cond rfl (fun c466 => ?_) (fun c466 => ?_)
                  · replace H := Gets.ct H c466
                    refine WP.skip ?_
                    refine WP.seq ?_
                    refine WP.block ?_
                    refine WP.seq ?_
                    refine WP.reg [(0, false), (1, false), (2, false), (3, false), (4, false)] (by kernel_rfl) ?_
                    refine Dv.mv rfl trivial rfl ?_
                    obtain ⟨g467, H⟩ := Gets.grd H
                    refine Dv.ixr rfl trivial rfl rfl Try.underlying40 Try.underlying9 c9 g467.1 g467.2 ?_
                    refine Dv.ldr rfl trivial rfl Try.underlying9 rfl rfl ?_
                    refine Dv.asg rfl trivial rfl ?_
                    refine Dv.asg rfl trivial rfl ?_
                    refine .fin ?_
                    refine WP.seq ?_
                    refine WP.reg [(0, false), (1, false), (2, false), (3, false), (4, false), (5, false), (6, false), (7, false), (8, false), (9, false), (10, false), (11, false), (12, false), (13, false), (14, false), (15, false), (16, false), (17, false), (18, false), (19, false), (20, false), (21, false), (22, false)] (by kernel_rfl) ?_
                    refine Dv.mv rfl trivial rfl ?_
                    obtain ⟨t468, h469, H⟩ := Gets.call H
                    refine Dv.call rfl trivial cal36 rfl (name_Event.c h469) ?_
                    refine Dv.un rfl trivial rfl (fun _ => run_not _) ?_
                    refine Dv.mv rfl trivial rfl ?_
                    cases c470 : !t468
                    · replace H := Gets.cf H c470
                      refine Dv.mv rfl ⟨_, _, rfl, rfl, rfl⟩ rfl ?_
                      refine Dv.fab rfl ⟨_, _, rfl, rfl, rfl⟩ rfl Try.underlying42 rfl Try.underlying9 c9 (by decide) ?_
                      refine Dv.ldb rfl ⟨_, _, rfl, rfl, rfl⟩ rfl Try.underlying9 rfl (mem_at 0 rfl) rfl ?_
                      refine Dv.bin rfl ⟨_, _, rfl, rfl, rfl⟩ rfl rfl (fun _ => run_seq) ?_
                      refine Dv.pickF rfl trivial rfl rfl ?_
                      refine Dv.mv rfl trivial rfl ?_
                      cases c472 : decide ((strK.at a0.fParents x465) = a0.fID)
                      · replace H := Gets.cf H c472
                        refine Dv.mv rfl ⟨_, _, rfl, rfl, rfl⟩ rfl ?_
                        refine Dv.bin rfl ⟨_, _, rfl, rfl, rfl⟩ rfl rfl (fun _ => run_gt) ?_
                        refine Dv.mv rfl ⟨_, _, rfl, rfl, rfl⟩ rfl ?_
                        cases c474 : decide (0 < x465)
                        · replace H := Gets.cf H c474
                          refine Dv.skip rfl ⟨_, _, rfl, rfl, .inl rfl⟩ ?_
                          refine Dv.skip rfl ⟨_, _, rfl, rfl, .inl rfl⟩ ?_
                          refine Dv.skip rfl ⟨_, _, rfl, rfl, .inl rfl⟩ ?_
                          refine Dv.skip rfl ⟨_, _, rfl, rfl, .inl rfl⟩ ?_
                          refine Dv.skip rfl ⟨_, _, rfl, rfl, .inl rfl⟩ ?_
                          refine Dv.skip rfl ⟨_, _, rfl, rfl, .inl rfl⟩ ?_
                          refine Dv.skip rfl ⟨_, _, rfl, rfl, .inl rfl⟩ ?_
                          refine Dv.skip rfl ⟨_, _, rfl, rfl, .inl rfl⟩ ?_
                          refine Dv.pickF rfl ⟨_, _, rfl, rfl, rfl⟩ rfl rfl ?_
                          refine Dv.pickF rfl trivial rfl rfl ?_
                          refine .fin ?_
                          refine WP.cond rfl nofun (fun _ => ?_)
                          refine WP.skip ?_
                          refine WP.reg [(0, false), (1, false)] (by kernel_rfl) ?_
                          refine Dv.bin rfl trivial rfl rfl (fun _ => run_add) ?_
                          refine Dv.mv rfl trivial rfl ?_
                          refine .fin ?_
                          exact Back.mk j478 (w64 (x465 + 1)) (Nat.lt_succ_self _) H (weak_cons rfl (weak_cons rfl (weak_cons rfl (weak_cons rfl (weak_cons rfl (weak_cons rfl (weak_cons rfl (weak_cons rfl (weak_cons rfl weak_nil))))))))) (List.Perm.refl _)
                        · replace H := Gets.ct H c474
                          refine Dv.mv rfl ⟨_, _, rfl, rfl, rfl⟩ rfl ?_
                          refine Dv.fab rfl ⟨_, _, rfl, rfl, rfl⟩ rfl Try.underlying42 rfl Try.underlying40 c40 (by decide) ?_
                          refine Dv.ldb rfl ⟨_, _, rfl, rfl, rfl⟩ rfl Try.underlying40 rfl (mem_at 0 rfl) rfl ?_
                          refine Dv.mv rfl ⟨_, _, rfl, rfl, rfl⟩ rfl ?_
                          refine Dv.bin rfl ⟨_, _, rfl, rfl, rfl⟩ rfl rfl (fun _ => run_sub) ?_
                          obtain ⟨g475, H⟩ := Gets.grd H
                          refine Dv.ixr rfl ⟨_, _, rfl, rfl, rfl⟩ rfl rfl Try.underlying40 Try.underlying9 c9 g475.1 g475.2 ?_
                          refine Dv.ldr rfl ⟨_, _, rfl, rfl, rfl⟩ rfl Try.underlying9 rfl rfl ?_
                          refine Dv.bin rfl ⟨_, _, rfl, rfl, rfl⟩ rfl rfl (fun _ => run_sle) ?_
                          refine Dv.pickT rfl ⟨_, _, rfl, rfl, rfl⟩ rfl rfl ?_
                          refine Dv.pickF rfl trivial rfl rfl ?_
                          refine .fin ?_
                          refine WP.cond rfl (fun c476 => ?_) (fun c476 => ?_)
                          · replace H := Gets.ct H c476
                            refine WP.seq ?_
                            refine WP.reg [(0, false)] (by kernel_rfl) ?_
                            refine Dv.asg rfl trivial rfl ?_
                            refine .fin ?_
                            refine WP.exit ?_
                            replace H := Gets.out H
                            exact Jn.mk (false, x465, decide (x465 < (a0.fParents.length : Int))) H (weak_cons rfl (weak_cons rfl (weak_cons rfl (weak_cons rfl (weak_cons rfl (weak_cons rfl (weak_cons rfl (weak_cons rfl (weak_cons rfl (weak_cons rfl weak_nil)))))))))) (List.Perm.refl _)
                          · replace H := Gets.cf H c476
                            refine WP.skip ?_
                            refine WP.reg [(0, false), (1, false)] (by kernel_rfl) ?_
                            refine Dv.bin rfl trivial rfl rfl (fun _ => run_add) ?_
                            refine Dv.mv rfl trivial rfl ?_
                            refine .fin ?_
                            exact Back.mk j478 (w64 (x465 + 1)) (Nat.lt_succ_self _) H (weak_cons rfl (weak_cons rfl (weak_cons rfl (weak_cons rfl (weak_cons rfl (weak_cons rfl (weak_cons rfl (weak_cons rfl (weak_cons rfl weak_nil))))))))) (List.Perm.refl _)
                      · replace H := Gets.ct H c472
                        refine Dv.skip rfl ⟨_, _, rfl, rfl, .inl rfl⟩ ?_
                        refine Dv.skip rfl ⟨_, _, rfl, rfl, .inl rfl⟩ ?_
                        refine Dv.skip rfl ⟨_, _, rfl, rfl, .inl rfl⟩ ?_
                        refine Dv.skip rfl ⟨_, _, rfl, rfl, .inr rfl⟩ ?_
                        refine Dv.skip rfl ⟨_, _, rfl, rfl, .inr rfl⟩ ?_
                        refine Dv.skip rfl ⟨_, _, rfl, rfl, .inr rfl⟩ ?_
                        refine Dv.skip rfl ⟨_, _, rfl, rfl, .inr rfl⟩ ?_
                        refine Dv.skip rfl ⟨_, _, rfl, rfl, .inr rfl⟩ ?_
                        refine Dv.skip rfl ⟨_, _, rfl, rfl, .inr rfl⟩ ?_
                        refine Dv.skip rfl ⟨_, _, rfl, rfl, .inr rfl⟩ ?_
                        refine Dv.skip rfl ⟨_, _, rfl, rfl, .inr rfl⟩ ?_
                        refine Dv.skip rfl ⟨_, _, rfl, rfl, .inl rfl⟩ ?_
                        refine Dv.pickT rfl trivial rfl rfl ?_
                        refine .fin ?_
                        refine WP.cond rfl (fun _ => ?_) nofun
                        refine WP.seq ?_
                        refine WP.reg [(0, false)] (by kernel_rfl) ?_
                        refine Dv.asg rfl trivial rfl ?_
                        refine .fin ?_
                        refine WP.exit ?_
                        replace H := Gets.out H
                        exact Jn.mk (false, x465, decide (x465 < (a0.fParents.length : Int))) H (weak_cons rfl (weak_cons rfl (weak_cons rfl (weak_cons rfl (weak_cons rfl (weak_cons rfl (weak_cons rfl (weak_cons rfl (weak_cons rfl (weak_cons rfl weak_nil)))))))))) (List.Perm.refl _)
                    · replace H := Gets.ct H c470
                      refine Dv.skip rfl ⟨_, _, rfl, rfl, .inl rfl⟩ ?_
                      refine Dv.skip rfl ⟨_, _, rfl, rfl, .inl rfl⟩ ?_
                      refine Dv.skip rfl ⟨_, _, rfl, rfl, .inl rfl⟩ ?_
                      refine Dv.skip rfl ⟨_, _, rfl, rfl, .inl rfl⟩ ?_
                      refine Dv.pickT rfl trivial rfl rfl ?_
                      refine Dv.mv rfl trivial rfl ?_
                      refine Dv.skip rfl ⟨_, _, rfl, rfl, .inl rfl⟩ ?_
                      refine Dv.skip rfl ⟨_, _, rfl, rfl, .inl rfl⟩ ?_
                      refine Dv.skip rfl ⟨_, _, rfl, rfl, .inl rfl⟩ ?_
                      refine Dv.skip rfl ⟨_, _, rfl, rfl, .inr rfl⟩ ?_
                      refine Dv.skip rfl ⟨_, _, rfl, rfl, .inr rfl⟩ ?_
                      refine Dv.skip rfl ⟨_, _, rfl, rfl, .inr rfl⟩ ?_
                      refine Dv.skip rfl ⟨_, _, rfl, rfl, .inr rfl⟩ ?_
                      refine Dv.skip rfl ⟨_, _, rfl, rfl, .inr rfl⟩ ?_
                      refine Dv.skip rfl ⟨_, _, rfl, rfl, .inr rfl⟩ ?_
                      refine Dv.skip rfl ⟨_, _, rfl, rfl, .inr rfl⟩ ?_
                      refine Dv.skip rfl ⟨_, _, rfl, rfl, .inr rfl⟩ ?_
                      refine Dv.skip rfl ⟨_, _, rfl, rfl, .inl rfl⟩ ?_
                      refine Dv.pickT rfl trivial rfl rfl ?_
                      refine .fin ?_
                      refine WP.cond rfl (fun _ => ?_) nofun
                      refine WP.seq ?_
                      refine WP.reg [(0, false)] (by kernel_rfl) ?_
                      refine Dv.asg rfl trivial rfl ?_
                      refine .fin ?_
                      refine WP.exit ?_
                      replace H := Gets.out H
                      exact Jn.mk (false, x465, decide (x465 < (a0.fParents.length : Int))) H (weak_cons rfl (weak_cons rfl (weak_cons rfl (weak_cons rfl (weak_cons rfl (weak_cons rfl (weak_cons rfl (weak_cons rfl (weak_cons rfl (weak_cons rfl weak_nil)))))))))) (List.Perm.refl _)
                  · replace H := Gets.cf H c466
                    refine WP.exit ?_
                    replace H := Gets.out H
                    exact Jn.mk (true, x465, decide (x465 < (a0.fParents.length : Int))) H (weak_cons rfl (weak_cons rfl (weak_cons rfl (weak_cons rfl (weak_cons rfl (weak_cons rfl (weak_cons rfl (weak_cons rfl (weak_cons rfl (weak_cons rfl weak_nil)))))))))) (List.Perm.refl _)
              · replace H := Gets.ct H c439
                refine Dv.fab rfl ⟨_, _, rfl, rfl, rfl⟩ rfl Try.underlying42 rfl Try.underlying9 c9 (by decide) ?_
                refine Dv.ldb rfl ⟨_, _, rfl, rfl, rfl⟩ rfl Try.underlying9 rfl (mem_at 0 rfl) rfl ?_
                obtain ⟨t440, h441, H⟩ := Gets.call H
                refine Dv.call rfl ⟨_, _, rfl, rfl, rfl⟩ cal36 rfl (name_Event.c h441) ?_
                refine Dv.un rfl ⟨_, _, rfl, rfl, rfl⟩ rfl (fun _ => run_not _) ?_
                refine Dv.mv rfl ⟨_, _, rfl, rfl, rfl⟩ rfl ?_
                cases c442 : !t440
                · replace H := Gets.cf H c442
                  refine Dv.fab rfl ⟨_, _, rfl, rfl, rfl⟩ rfl Try.underlying42 rfl Try.underlying9 c9 (by decide) ?_
                  refine Dv.ldb rfl ⟨_, _, rfl, rfl, rfl⟩ rfl Try.underlying9 rfl (mem_at 0 rfl) rfl ?_
                  refine Dv.fab rfl ⟨_, _, rfl, rfl, rfl⟩ rfl Try.underlying42 rfl Try.underlying9 c9 (by decide) ?_
                  refine Dv.ldb rfl ⟨_, _, rfl, rfl, rfl⟩ rfl Try.underlying9 rfl (mem_at 0 rfl) rfl ?_
                  refine Dv.bin rfl ⟨_, _, rfl, rfl, rfl⟩ rfl rfl (fun _ => run_seq) ?_
                  refine Dv.pickF rfl ⟨_, _, rfl, rfl, rfl⟩ rfl rfl ?_
                  refine Dv.mv rfl ⟨_, _, rfl, rfl, rfl⟩ rfl ?_
                  cases c444 : decide (a0.fThread = a0.fID)
                  · replace H := Gets.cf H c444
                    refine Dv.fab rfl ⟨_, _, rfl, rfl, rfl⟩ rfl Try.underlying42 rfl Try.underlying3 c3 (by decide) ?_
                    refine Dv.ldb rfl ⟨_, _, rfl, rfl, rfl⟩ rfl Try.underlying3 rfl (mem_at 0 rfl) rfl ?_
                    refine Dv.bin rfl ⟨_, _, rfl, rfl, rfl⟩ rfl rfl (fun _ => run_ne) ?_
                    refine Dv.pickF rfl ⟨_, _, rfl, rfl, rfl⟩ rfl rfl ?_
                    refine Dv.pickT rfl trivial rfl rfl ?_
                    refine .fin ?_
                    refine WP.cond rfl (fun c446 => ?_) (fun c446 => ?_)
                    · replace H := Gets.ct H c446
                      refine WP.seq ?_
                      refine WP.reg [(0, false)] (by kernel_rfl) ?_
                      refine Dv.asg rfl trivial rfl ?_
                      refine .fin ?_
                      obtain rfl := Gets.out H
                      exact WP.retL (fun _ _ h => h) rfl () trivial (.cons (res_tmp rfl) .nil) rfl (st_sel (L := [blk b421 42 [eq (.string a0.fID), eq (.string a0.fRoom), sl strK a0.fParents, eq (.string a0.fThread), eq (.string a0.fUser), eq (.int .i64 a0.fDoes)]]) (F := F) [0] 1 rfl rfl rfl)
                    · replace H := Gets.cf H c446
                      refine WP.skip ?_
                      refine WP.seq ?_
                      refine WP.reg [(0, false)] (by kernel_rfl) ?_
                      refine Dv.asg rfl trivial rfl ?_
                      refine .fin ?_
                      refine WP.seq ?_
                      refine WP.label ?_
                      refine WP.seqn H id (fun p447 : Bool × Int × Bool => [(0, agg (Event.enc a0)), (1, eq (.pointer (some ⟨b421, 0, none⟩))), (2, eq (.bool false)), (3, eq (.bool p447.1)), (37, eq (.bool (decide (2 < a0.fDoes)))), (58, eq (.bool (a0.fDoes != 0))), (60, sl strK a0.fParents), (61, eq (.int .i64 (a0.fParents.length : Int))), (62, eq (.int .i64 p447.2.1)), (63, eq (.bool p447.2.2))]) (fun p447 : Bool × Int × Bool => [blk b421 42 [eq (.string a0.fID), eq (.string a0.fRoom), sl strK a0.fParents, eq (.string a0.fThread), eq (.string a0.fUser), eq (.int .i64 a0.fDoes)]] ++ F) (fun p447 H => ?_) (fun H => ?_)
                      · refine WP.seq ?_
                        refine WP.reg [(0, false), (1, false)] (by kernel_rfl) ?_
                        refine Dv.mv rfl trivial rfl ?_
                        refine Dv.asg rfl trivial rfl ?_
                        refine .fin ?_
                        obtain rfl := Gets.out H
                        exact WP.retL (fun _ _ h => h) rfl () trivial (.cons (res_tmp rfl) .nil) rfl (st_sel (L := [blk b421 42 [eq (.string a0.fID), eq (.string a0.fRoom), sl strK a0.fParents, eq (.string a0.fThread), eq (.string a0.fUser), eq (.int .i64 a0.fDoes)]]) (F := F) [0] 1 rfl rfl rfl)
                      · refine WP.seq ?_
                        refine WP.reg [(0, false), (1, false), (2, false), (3, false)] (by kernel_rfl) ?_
                        refine Dv.fab rfl trivial rfl Try.underlying42 rfl Try.underlying40 c40 (by decide) ?_
                        refine Dv.ldb rfl trivial rfl Try.underlying40 rfl (mem_at 0 rfl) rfl ?_
                        refine Dv.lenl rfl trivial rfl Try.underlying40 ?_
                        refine Dv.mv rfl trivial rfl ?_
                        refine .fin ?_
                        refine WP.block ?_
                        refine WP.gh (l' := fun _ => [blk b421 42 [eq (.string a0.fID), eq (.string a0.fRoom), sl strK a0.fParents, eq (.string a0.fThread), eq (.string a0.fUser), eq (.int .i64 a0.fDoes)]] ++ F) (gh_of (st_selg (L := [blk b421 42 [eq (.string a0.fID), eq (.string a0.fRoom), sl strK a0.fParents, eq (.string a0.fThread), eq (.string a0.fUser), eq (.int .i64 a0.fDoes)]]) (F := F) [0] 0 rfl rfl rfl)) (fun _ _ => ?_)
                        refine WP.loopg (fun j_ (p462 : Int) => dag_May.l0 k a0 j_ p462) 0 H (fun p462 => [(0, agg (Event.enc a0)), (1, eq (.pointer (some ⟨b421, 0, none⟩))), (2, eq (.bool false)), (3, eq (.bool true)), (37, eq (.bool (decide (2 < a0.fDoes)))), (58, eq (.bool (a0.fDoes != 0))), (60, sl strK a0.fParents), (61, eq (.int .i64 (a0.fParents.length : Int))), (62, eq (.int .i64 p462))]) (fun p462 => [blk b421 42 [eq (.string a0.fID), eq (.string a0.fRoom), sl strK a0.fParents, eq (.string a0.fThread), eq (.string a0.fUser), eq (.int .i64 a0.fDoes)]] ++ F) (weak_cons rfl (weak_cons rfl (weak_cons rfl (weak_cons rfl (weak_cons rfl (weak_cons rfl (weak_cons rfl (weak_cons rfl (weak_cons rfl weak_nil))))))))) (List.Perm.refl _) ?_
                        rintro j_ x448 H
                        rcases j_ with _ | j461
                        · exact (Gets.no H).elim
                        replace H : Gets (dag_May.l0 k a0 (j461 + 1) x448) _ := H
                        rw [dag_May.l0] at H
                        refine WP.seq ?_
                        refine WP.reg [(0, false)] (by kernel_rfl) ?_
                        refine Dv.bin rfl trivial rfl rfl (fun _ => run_lt) ?_
                        refine .fin ?_
                        refine WP.seq ?_
                        refine WP.cond rfl (fun c449 => ?_) (fun c449 => ?_)
                        · replace H := Gets.ct H c449
                          refine WP.skip ?_
                          refine WP.seq ?_
                          refine WP.block ?_
                          refine WP.seq ?_
                          refine WP.reg [(0, false), (1, false), (2, false), (3, false), (4, false)] (by kernel_rfl) ?_
                          refine Dv.mv rfl trivial rfl ?_
                          obtain ⟨g450, H⟩ := Gets.grd H
                          refine Dv.ixr rfl trivial rfl rfl Try.underlying40 Try.underlying9 c9 g450.1 g450.2 ?_
                          refine Dv.ldr rfl trivial rfl Try.underlying9 rfl rfl ?_
                          refine Dv.asg rfl trivial rfl ?_
                          refine Dv.asg rfl trivial rfl ?_
                          refine .fin ?_
                          refine WP.seq ?_
                          refine WP.reg [(0, false), (1, false), (2, false), (3, false), (4, false), (5, false), (6, false), (7, false), (8, false), (9, false), (10, false), (11, false), (12, false), (13, false), (14, false), (15, false), (16, false), (17, false), (18, false), (19, false), (20, false), (21, false), (22, false)] (by kernel_rfl) ?_
                          refine Dv.mv rfl trivial rfl ?_
                          obtain ⟨t451, h452, H⟩ := Gets.call H
                          refine Dv.call rfl trivial cal36 rfl (name_Event.c h452) ?_
                          refine Dv.un rfl trivial rfl (fun _ => run_not _) ?_
                          refine Dv.mv rfl trivial rfl ?_
                          cases c453 : !t451
                          · replace H := Gets.cf H c453
                            refine Dv.mv rfl ⟨_, _, rfl, rfl, rfl⟩ rfl ?_
                            refine Dv.fab rfl ⟨_, _, rfl, rfl, rfl⟩ rfl Try.underlying42 rfl Try.underlying9 c9 (by decide) ?_
                            refine Dv.ldb rfl ⟨_, _, rfl, rfl, rfl⟩ rfl Try.underlying9 rfl (mem_at 0 rfl) rfl ?_
                            refine Dv.bin rfl ⟨_, _, rfl, rfl, rfl⟩ rfl rfl (fun _ => run_seq) ?_
                            refine Dv.pickF rfl trivial rfl rfl ?_
                            refine Dv.mv rfl trivial rfl ?_
                            cases c455 : decide ((strK.at a0.fParents x448) = a0.fID)
                            · replace H := Gets.cf H c455
                              refine Dv.mv rfl ⟨_, _, rfl, rfl, rfl⟩ rfl ?_
                              refine Dv.bin rfl ⟨_, _, rfl, rfl, rfl⟩ rfl rfl (fun _ => run_gt) ?_
                              refine Dv.mv rfl ⟨_, _, rfl, rfl, rfl⟩ rfl ?_
                              cases c457 : decide (0 < x448)
                              · replace H := Gets.cf H c457
                                refine Dv.skip rfl ⟨_, _, rfl, rfl, .inl rfl⟩ ?_
                                refine Dv.skip rfl ⟨_, _, rfl, rfl, .inl rfl⟩ ?_
                                refine Dv.skip rfl ⟨_, _, rfl, rfl, .inl rfl⟩ ?_
                                refine Dv.skip rfl ⟨_, _, rfl, rfl, .inl rfl⟩ ?_
                                refine Dv.skip rfl ⟨_, _, rfl, rfl, .inl rfl⟩ ?_
                                refine Dv.skip rfl ⟨_, _, rfl, rfl, .inl rfl⟩ ?_
                                refine Dv.skip rfl ⟨_, _, rfl, rfl, .inl rfl⟩ ?_
                                refine Dv.skip rfl ⟨_, _, rfl, rfl, .inl rfl⟩ ?_
                                refine Dv.pickF rfl ⟨_, _, rfl, rfl, rfl⟩ rfl rfl ?_
                                refine Dv.pickF rfl trivial rfl rfl ?_
                                refine .fin ?_
                                refine WP.cond rfl nofun (fun _ => ?_)
                                refine WP.skip ?_
                                refine WP.reg [(0, false), (1, false)] (by kernel_rfl) ?_
                                refine Dv.bin rfl trivial rfl rfl (fun _ => run_add) ?_
                                refine Dv.mv rfl trivial rfl ?_
                                refine .fin ?_
                                exact Back.mk j461 (w64 (x448 + 1)) (Nat.lt_succ_self _) H (weak_cons rfl (weak_cons rfl (weak_cons rfl (weak_cons rfl (weak_cons rfl (weak_cons rfl (weak_cons rfl (weak_cons rfl (weak_cons rfl weak_nil))))))))) (List.Perm.refl _)
                              · replace H := Gets.ct H c457
                                refine Dv.mv rfl ⟨_, _, rfl, rfl, rfl⟩ rfl ?_
                                refine Dv.fab rfl ⟨_, _, rfl, rfl, rfl⟩ rfl Try.underlying42 rfl Try.underlying40 c40 (by decide) ?_
                                refine Dv.ldb rfl ⟨_, _, rfl, rfl, rfl⟩ rfl Try.underlying40 rfl (mem_at 0 rfl) rfl ?_
                                refine Dv.mv rfl ⟨_, _, rfl, rfl, rfl⟩ rfl ?_
                                refine Dv.bin rfl ⟨_, _, rfl, rfl, rfl⟩ rfl rfl (fun _ => run_sub) ?_
                                obtain ⟨g458, H⟩ := Gets.grd H
                                refine Dv.ixr rfl ⟨_, _, rfl, rfl, rfl⟩ rfl rfl Try.underlying40 Try.underlying9 c9 g458.1 g458.2 ?_
                                refine Dv.ldr rfl ⟨_, _, rfl, rfl, rfl⟩ rfl Try.underlying9 rfl rfl ?_
                                refine Dv.bin rfl ⟨_, _, rfl, rfl, rfl⟩ rfl rfl (fun _ => run_sle) ?_
                                refine Dv.pickT rfl ⟨_, _, rfl, rfl, rfl⟩ rfl rfl ?_
                                refine Dv.pickF rfl trivial rfl rfl ?_
                                refine .fin ?_
                                refine WP.cond rfl (fun c459 => ?_) (fun c459 => ?_)
                                · replace H := Gets.ct H c459
                                  refine WP.seq ?_
                                  refine WP.reg [(0, false)] (by kernel_rfl) ?_
                                  refine Dv.asg rfl trivial rfl ?_
                                  refine .fin ?_
                                  refine WP.exit ?_
                                  replace H := Gets.out H
                                  exact Jn.mk (false, x448, decide (x448 < (a0.fParents.length : Int))) H (weak_cons rfl (weak_cons rfl (weak_cons rfl (weak_cons rfl (weak_cons rfl (weak_cons rfl (weak_cons rfl (weak_cons rfl (weak_cons rfl (weak_cons rfl weak_nil)))))))))) (List.Perm.refl _)
                                · replace H := Gets.cf H c459
                                  refine WP.skip ?_
                                  refine WP.reg [(0, false), (1, false)] (by kernel_rfl) ?_
                                  refine Dv.bin rfl trivial rfl rfl (fun _ => run_add) ?_
                                  refine Dv.mv rfl trivial rfl ?_
                                  refine .fin ?_
                                  exact Back.mk j461 (w64 (x448 + 1)) (Nat.lt_succ_self _) H (weak_cons rfl (weak_cons rfl (weak_cons rfl (weak_cons rfl (weak_cons rfl (weak_cons rfl (weak_cons rfl (weak_cons rfl (weak_cons rfl weak_nil))))))))) (List.Perm.refl _)
                            · replace H := Gets.ct H c455
                              refine Dv.skip rfl ⟨_, _, rfl, rfl, .inl rfl⟩ ?_
                              refine Dv.skip rfl ⟨_, _, rfl, rfl, .inl rfl⟩ ?_
                              refine Dv.skip rfl ⟨_, _, rfl, rfl, .inl rfl⟩ ?_
                              refine Dv.skip rfl ⟨_, _, rfl, rfl, .inr rfl⟩ ?_
                              refine Dv.skip rfl ⟨_, _, rfl, rfl, .inr rfl⟩ ?_
                              refine Dv.skip rfl ⟨_, _, rfl, rfl, .inr rfl⟩ ?_
                              refine Dv.skip rfl ⟨_, _, rfl, rfl, .inr rfl⟩ ?_
                              refine Dv.skip rfl ⟨_, _, rfl, rfl, .inr rfl⟩ ?_
                              refine Dv.skip rfl ⟨_, _, rfl, rfl, .inr rfl⟩ ?_
                              refine Dv.skip rfl ⟨_, _, rfl, rfl, .inr rfl⟩ ?_
                              refine Dv.skip rfl ⟨_, _, rfl, rfl, .inr rfl⟩ ?_
                              refine Dv.skip rfl ⟨_, _, rfl, rfl, .inl rfl⟩ ?_
                              refine Dv.pickT rfl trivial rfl rfl ?_
                              refine .fin ?_
                              refine WP.cond rfl (fun _ => ?_) nofun
                              refine WP.seq ?_
                              refine WP.reg [(0, false)] (by kernel_rfl) ?_
                              refine Dv.asg rfl trivial rfl ?_
                              refine .fin ?_
                              refine WP.exit ?_
                              replace H := Gets.out H
                              exact Jn.mk (false, x448, decide (x448 < (a0.fParents.length : Int))) H (weak_cons rfl (weak_cons rfl (weak_cons rfl (weak_cons rfl (weak_cons rfl (weak_cons rfl (weak_cons rfl (weak_cons rfl (weak_cons rfl (weak_cons rfl weak_nil)))))))))) (List.Perm.refl _)
                          · replace H := Gets.ct H c453
                            refine Dv.skip rfl ⟨_, _, rfl, rfl, .inl rfl⟩ ?_
                            refine Dv.skip rfl ⟨_, _, rfl, rfl, .inl rfl⟩ ?_
                            refine Dv.skip rfl ⟨_, _, rfl, rfl, .inl rfl⟩ ?_
                            refine Dv.skip rfl ⟨_, _, rfl, rfl, .inl rfl⟩ ?_
                            refine Dv.pickT rfl trivial rfl rfl ?_
                            refine Dv.mv rfl trivial rfl ?_
                            refine Dv.skip rfl ⟨_, _, rfl, rfl, .inl rfl⟩ ?_
                            refine Dv.skip rfl ⟨_, _, rfl, rfl, .inl rfl⟩ ?_
                            refine Dv.skip rfl ⟨_, _, rfl, rfl, .inl rfl⟩ ?_
                            refine Dv.skip rfl ⟨_, _, rfl, rfl, .inr rfl⟩ ?_
                            refine Dv.skip rfl ⟨_, _, rfl, rfl, .inr rfl⟩ ?_
                            refine Dv.skip rfl ⟨_, _, rfl, rfl, .inr rfl⟩ ?_
                            refine Dv.skip rfl ⟨_, _, rfl, rfl, .inr rfl⟩ ?_
                            refine Dv.skip rfl ⟨_, _, rfl, rfl, .inr rfl⟩ ?_
                            refine Dv.skip rfl ⟨_, _, rfl, rfl, .inr rfl⟩ ?_
                            refine Dv.skip rfl ⟨_, _, rfl, rfl, .inr rfl⟩ ?_
                            refine Dv.skip rfl ⟨_, _, rfl, rfl, .inr rfl⟩ ?_
                            refine Dv.skip rfl ⟨_, _, rfl, rfl, .inl rfl⟩ ?_
                            refine Dv.pickT rfl trivial rfl rfl ?_
                            refine .fin ?_
                            refine WP.cond rfl (fun _ => ?_) nofun
                            refine WP.seq ?_
                            refine WP.reg [(0, false)] (by kernel_rfl) ?_
                            refine Dv.asg rfl trivial rfl ?_
                            refine .fin ?_
                            refine WP.exit ?_
                            replace H := Gets.out H
                            exact Jn.mk (false, x448, decide (x448 < (a0.fParents.length : Int))) H (weak_cons rfl (weak_cons rfl (weak_cons rfl (weak_cons rfl (weak_cons rfl (weak_cons rfl (weak_cons rfl (weak_cons rfl (weak_cons rfl (weak_cons rfl weak_nil)))))))))) (List.Perm.refl _)
                        · replace H := Gets.cf H c449
                          refine WP.exit ?_
                          replace H := Gets.out H
                          exact Jn.mk (true, x448, decide (x448 < (a0.fParents.length : Int))) H (weak_cons rfl (weak_cons rfl (weak_cons rfl (weak_cons rfl (weak_cons rfl (weak_cons rfl (weak_cons rfl (weak_cons rfl (weak_cons rfl (weak_cons rfl weak_nil)))))))))) (List.Perm.refl _)
                  · replace H := Gets.ct H c444
                    refine Dv.skip rfl ⟨_, _, rfl, rfl, .inl rfl⟩ ?_
                    refine Dv.skip rfl ⟨_, _, rfl, rfl, .inl rfl⟩ ?_
                    refine Dv.skip rfl ⟨_, _, rfl, rfl, .inl rfl⟩ ?_
                    refine Dv.pickT rfl ⟨_, _, rfl, rfl, rfl⟩ rfl rfl ?_
                    refine Dv.pickT rfl trivial rfl rfl ?_
                    refine .fin ?_
                    refine WP.cond rfl (fun _ => ?_) nofun
                    refine WP.seq ?_
                    refine WP.reg [(0, false)] (by kernel_rfl) ?_
                    refine Dv.asg rfl trivial rfl ?_
                    refine .fin ?_
                    obtain rfl := Gets.out H
                    exact WP.retL (fun _ _ h => h) rfl () trivial (.cons (res_tmp rfl) .nil) rfl (st_sel (L := [blk b421 42 [eq (.string a0.fID), eq (.string a0.fRoom), sl strK a0.fParents, eq (.string a0.fThread), eq (.string a0.fUser), eq (.int .i64 a0.fDoes)]]) (F := F) [0] 1 rfl rfl rfl)
                · replace H := Gets.ct H c442
                  refine Dv.skip rfl ⟨_, _, rfl, rfl, .inl rfl⟩ ?_
                  refine Dv.skip rfl ⟨_, _, rfl, rfl, .inl rfl⟩ ?_
                  refine Dv.skip rfl ⟨_, _, rfl, rfl, .inl rfl⟩ ?_
                  refine Dv.skip rfl ⟨_, _, rfl, rfl, .inl rfl⟩ ?_
                  refine Dv.skip rfl ⟨_, _, rfl, rfl, .inl rfl⟩ ?_
                  refine Dv.pickT rfl ⟨_, _, rfl, rfl, rfl⟩ rfl rfl ?_
                  refine Dv.mv rfl ⟨_, _, rfl, rfl, rfl⟩ rfl ?_
                  refine Dv.skip rfl ⟨_, _, rfl, rfl, .inl rfl⟩ ?_
                  refine Dv.skip rfl ⟨_, _, rfl, rfl, .inl rfl⟩ ?_
                  refine Dv.skip rfl ⟨_, _, rfl, rfl, .inl rfl⟩ ?_
                  refine Dv.pickT rfl ⟨_, _, rfl, rfl, rfl⟩ rfl rfl ?_
                  refine Dv.pickT rfl trivial rfl rfl ?_
                  refine .fin ?_
                  refine WP.cond rfl (fun _ => ?_) nofun
                  refine WP.seq ?_
                  refine WP.reg [(0, false)] (by kernel_rfl) ?_
                  refine Dv.asg rfl trivial rfl ?_
                  refine .fin ?_
                  obtain rfl := Gets.out H
                  exact WP.retL (fun _ _ h => h) rfl () trivial (.cons (res_tmp rfl) .nil) rfl (st_sel (L := [blk b421 42 [eq (.string a0.fID), eq (.string a0.fRoom), sl strK a0.fParents, eq (.string a0.fThread), eq (.string a0.fUser), eq (.int .i64 a0.fDoes)]]) (F := F) [0] 1 rfl rfl rfl)
          · replace H := Gets.ct H c436
            refine Dv.skip rfl ⟨_, _, rfl, rfl, .inl rfl⟩ ?_
            refine Dv.skip rfl ⟨_, _, rfl, rfl, .inl rfl⟩ ?_
            refine Dv.skip rfl ⟨_, _, rfl, rfl, .inl rfl⟩ ?_
            refine Dv.pickT rfl trivial rfl rfl ?_
            refine .fin ?_
            refine WP.cond rfl (fun _ => ?_) nofun
            refine WP.seq ?_
            refine WP.reg [(0, false)] (by kernel_rfl) ?_
            refine Dv.asg rfl trivial rfl ?_
            refine .fin ?_
            obtain rfl := Gets.out H
            exact WP.retL (fun _ _ h => h) rfl () trivial (.cons (res_tmp rfl) .nil) rfl (st_sel (L := [blk b421 42 [eq (.string a0.fID), eq (.string a0.fRoom), sl strK a0.fParents, eq (.string a0.fThread), eq (.string a0.fUser), eq (.int .i64 a0.fDoes)]]) (F := F) [0] 1 rfl rfl rfl)
        · replace H := Gets.ct H c434
          refine Dv.skip rfl ⟨_, _, rfl, rfl, .inl rfl⟩ ?_
          refine Dv.skip rfl ⟨_, _, rfl, rfl, .inl rfl⟩ ?_
          refine Dv.skip rfl ⟨_, _, rfl, rfl, .inl rfl⟩ ?_
          refine Dv.pickT rfl trivial rfl rfl ?_
          refine Dv.mv rfl trivial rfl ?_
          refine Dv.skip rfl ⟨_, _, rfl, rfl, .inl rfl⟩ ?_
          refine Dv.skip rfl ⟨_, _, rfl, rfl, .inl rfl⟩ ?_
          refine Dv.skip rfl ⟨_, _, rfl, rfl, .inl rfl⟩ ?_
          refine Dv.pickT rfl trivial rfl rfl ?_
          refine .fin ?_
          refine WP.cond rfl (fun _ => ?_) nofun
          refine WP.seq ?_
          refine WP.reg [(0, false)] (by kernel_rfl) ?_
          refine Dv.asg rfl trivial rfl ?_
          refine .fin ?_
          obtain rfl := Gets.out H
          exact WP.retL (fun _ _ h => h) rfl () trivial (.cons (res_tmp rfl) .nil) rfl (st_sel (L := [blk b421 42 [eq (.string a0.fID), eq (.string a0.fRoom), sl strK a0.fParents, eq (.string a0.fThread), eq (.string a0.fUser), eq (.int .i64 a0.fDoes)]]) (F := F) [0] 1 rfl rfl rfl)
      · replace H := Gets.ct H c432
        refine Dv.skip rfl ⟨_, _, rfl, rfl, .inl rfl⟩ ?_
        refine Dv.skip rfl ⟨_, _, rfl, rfl, .inl rfl⟩ ?_
        refine Dv.skip rfl ⟨_, _, rfl, rfl, .inl rfl⟩ ?_
        refine Dv.skip rfl ⟨_, _, rfl, rfl, .inl rfl⟩ ?_
        refine Dv.pickT rfl trivial rfl rfl ?_
        refine Dv.mv rfl trivial rfl ?_
        refine Dv.skip rfl ⟨_, _, rfl, rfl, .inl rfl⟩ ?_
        refine Dv.skip rfl ⟨_, _, rfl, rfl, .inl rfl⟩ ?_
        refine Dv.skip rfl ⟨_, _, rfl, rfl, .inl rfl⟩ ?_
        refine Dv.pickT rfl trivial rfl rfl ?_
        refine Dv.mv rfl trivial rfl ?_
        refine Dv.skip rfl ⟨_, _, rfl, rfl, .inl rfl⟩ ?_
        refine Dv.skip rfl ⟨_, _, rfl, rfl, .inl rfl⟩ ?_
        refine Dv.skip rfl ⟨_, _, rfl, rfl, .inl rfl⟩ ?_
        refine Dv.pickT rfl trivial rfl rfl ?_
        refine .fin ?_
        refine WP.cond rfl (fun _ => ?_) nofun
        refine WP.seq ?_
        refine WP.reg [(0, false)] (by kernel_rfl) ?_
        refine Dv.asg rfl trivial rfl ?_
        refine .fin ?_
        obtain rfl := Gets.out H
        exact WP.retL (fun _ _ h => h) rfl () trivial (.cons (res_tmp rfl) .nil) rfl (st_sel (L := [blk b421 42 [eq (.string a0.fID), eq (.string a0.fRoom), sl strK a0.fParents, eq (.string a0.fThread), eq (.string a0.fUser), eq (.int .i64 a0.fDoes)]]) (F := F) [0] 1 rfl rfl rfl)
    · replace H := Gets.ct H c428
      refine Dv.skip rfl ⟨_, _, rfl, rfl, .inl rfl⟩ ?_
      refine Dv.skip rfl ⟨_, _, rfl, rfl, .inl rfl⟩ ?_
      refine Dv.skip rfl ⟨_, _, rfl, rfl, .inl rfl⟩ ?_
      refine Dv.skip rfl ⟨_, _, rfl, rfl, .inl rfl⟩ ?_
      refine Dv.pickT rfl trivial rfl rfl ?_
      refine Dv.mv rfl trivial rfl ?_
      refine Dv.skip rfl ⟨_, _, rfl, rfl, .inl rfl⟩ ?_
      refine Dv.skip rfl ⟨_, _, rfl, rfl, .inl rfl⟩ ?_
      refine Dv.skip rfl ⟨_, _, rfl, rfl, .inl rfl⟩ ?_
      refine Dv.skip rfl ⟨_, _, rfl, rfl, .inl rfl⟩ ?_
      refine Dv.pickT rfl trivial rfl rfl ?_
      refine Dv.mv rfl trivial rfl ?_
      refine Dv.skip rfl ⟨_, _, rfl, rfl, .inl rfl⟩ ?_
      refine Dv.skip rfl ⟨_, _, rfl, rfl, .inl rfl⟩ ?_
      refine Dv.skip rfl ⟨_, _, rfl, rfl, .inl rfl⟩ ?_
      refine Dv.pickT rfl trivial rfl rfl ?_
      refine Dv.mv rfl trivial rfl ?_
      refine Dv.skip rfl ⟨_, _, rfl, rfl, .inl rfl⟩ ?_
      refine Dv.skip rfl ⟨_, _, rfl, rfl, .inl rfl⟩ ?_
      refine Dv.skip rfl ⟨_, _, rfl, rfl, .inl rfl⟩ ?_
      refine Dv.pickT rfl trivial rfl rfl ?_
      refine .fin ?_
      refine WP.cond rfl (fun _ => ?_) nofun
      refine WP.seq ?_
      refine WP.reg [(0, false)] (by kernel_rfl) ?_
      refine Dv.asg rfl trivial rfl ?_
      refine .fin ?_
      obtain rfl := Gets.out H
      exact WP.retL (fun _ _ h => h) rfl () trivial (.cons (res_tmp rfl) .nil) rfl (st_sel (L := [blk b421 42 [eq (.string a0.fID), eq (.string a0.fRoom), sl strK a0.fParents, eq (.string a0.fThread), eq (.string a0.fUser), eq (.int .i64 a0.fDoes)]]) (F := F) [0] 1 rfl rfl rfl)
  · replace H := Gets.ct H c424
    refine Dv.skip rfl ⟨_, _, rfl, rfl, .inl rfl⟩ ?_
    refine Dv.skip rfl ⟨_, _, rfl, rfl, .inl rfl⟩ ?_
    refine Dv.skip rfl ⟨_, _, rfl, rfl, .inl rfl⟩ ?_
    refine Dv.skip rfl ⟨_, _, rfl, rfl, .inl rfl⟩ ?_
    refine Dv.pickT rfl trivial rfl rfl ?_
    refine Dv.mv rfl trivial rfl ?_
    refine Dv.skip rfl ⟨_, _, rfl, rfl, .inl rfl⟩ ?_
    refine Dv.skip rfl ⟨_, _, rfl, rfl, .inl rfl⟩ ?_
    refine Dv.skip rfl ⟨_, _, rfl, rfl, .inl rfl⟩ ?_
    refine Dv.skip rfl ⟨_, _, rfl, rfl, .inl rfl⟩ ?_
    refine Dv.pickT rfl trivial rfl rfl ?_
    refine Dv.mv rfl trivial rfl ?_
    refine Dv.skip rfl ⟨_, _, rfl, rfl, .inl rfl⟩ ?_
    refine Dv.skip rfl ⟨_, _, rfl, rfl, .inl rfl⟩ ?_
    refine Dv.skip rfl ⟨_, _, rfl, rfl, .inl rfl⟩ ?_
    refine Dv.skip rfl ⟨_, _, rfl, rfl, .inl rfl⟩ ?_
    refine Dv.pickT rfl trivial rfl rfl ?_
    refine Dv.mv rfl trivial rfl ?_
    refine Dv.skip rfl ⟨_, _, rfl, rfl, .inl rfl⟩ ?_
    refine Dv.skip rfl ⟨_, _, rfl, rfl, .inl rfl⟩ ?_
    refine Dv.skip rfl ⟨_, _, rfl, rfl, .inl rfl⟩ ?_
    refine Dv.pickT rfl trivial rfl rfl ?_
    refine Dv.mv rfl trivial rfl ?_
    refine Dv.skip rfl ⟨_, _, rfl, rfl, .inl rfl⟩ ?_
    refine Dv.skip rfl ⟨_, _, rfl, rfl, .inl rfl⟩ ?_
    refine Dv.skip rfl ⟨_, _, rfl, rfl, .inl rfl⟩ ?_
    refine Dv.pickT rfl trivial rfl rfl ?_
    refine .fin ?_
    refine WP.cond rfl (fun _ => ?_) nofun
    refine WP.seq ?_
    refine WP.reg [(0, false)] (by kernel_rfl) ?_
    refine Dv.asg rfl trivial rfl ?_
    refine .fin ?_
    obtain rfl := Gets.out H
    exact WP.retL (fun _ _ h => h) rfl () trivial (.cons (res_tmp rfl) .nil) rfl (st_sel (L := [blk b421 42 [eq (.string a0.fID), eq (.string a0.fRoom), sl strK a0.fParents, eq (.string a0.fThread), eq (.string a0.fUser), eq (.int .i64 a0.fDoes)]]) (F := F) [0] 1 rfl rfl rfl)
theorem slices_IndexFunc_string_x.c {k : Nat} {a0 : List ByteArray} {a1 : (ByteArray → Option Bool)} {X1_ : As} {r : Int} (h : slices_IndexFunc_string_x.f k a0 a1 = some r) : Tr Try.prog 39 [sl strK a0, fx_string_bool X1_ a1] [X1_] (γ := Unit) (fun _ => True) (fun g => eq (.int .i64 r)) (fun g => [X1_]) := by
  unfold slices_IndexFunc_string_x.f at h
  refine Tr.body Try.func39 (c := _) rfl Try.ntmps39 (Nat.le_of_ble_eq_true rfl) fun R0 F => ?_
  replace h := Gets.of h
  have H := h
  clear h
  refine WP.seq ?_
  refine WP.reg [(0, false)] (by kernel_rfl) ?_
  refine Dv.asg rfl trivial rfl ?_
  refine .fin ?_
  refine WP.seqr H id (fun p480 : Int × Bool => [(0, sl strK a0), (1, fx_string_bool X1_ a1), (4, eq (.int .i64 0)), (7, eq (.int .i64 (a0.length : Int))), (8, eq (.int .i64 p480.1)), (9, eq (.bool p480.2))]) (fun p480 : Int × Bool => [X1_] ++ F) (fun p480 H => ?_) (fun H => ?_)
  · refine WP.seq ?_
    refine WP.reg [(0, false)] (by kernel_rfl) ?_
    refine Dv.asg rfl trivial rfl ?_
    refine .fin ?_
    obtain rfl := Gets.out H
    exact WP.retL (fun _ _ h => h) rfl () trivial (.cons (res_tmp rfl) .nil) rfl (st_sel (L := [X1_]) (F := F) [0] 0 rfl rfl rfl)
  · refine WP.seq ?_
    refine WP.reg [(0, false), (1, false), (2, false)] (by kernel_rfl) ?_
    refine Dv.mv rfl trivial rfl ?_
    refine Dv.lenl rfl trivial rfl Try.underlying40 ?_
    refine Dv.mv rfl trivial rfl ?_
    refine .fin ?_
    refine WP.block ?_
    refine WP.gh (l' := fun _ => [X1_] ++ F) (gh_of (st_selg (L := [X1_]) (F := F) [0] 0 rfl rfl rfl)) (fun _ _ => ?_)
    refine WP.loopg (fun j_ (p488 : Int) => slices_IndexFunc_string_x.l0 k a0 a1 j_ p488) 0 H (fun p488 => [(0, sl strK a0), (1, fx_string_bool X1_ a1), (4, eq (.int .i64 0)), (7, eq (.int .i64 (a0.length : Int))), (8, eq (.int .i64 p488))]) (fun p488 => [X1_] ++ F) (weak_cons rfl (weak_cons rfl (weak_cons rfl (weak_cons rfl (weak_cons rfl weak_nil))))) (List.Perm.refl _) ?_
    rintro j_ x481 H
    rcases j_ with _ | j487
    · exact (Gets.no H).elim
    replace H : Gets (slices_IndexFunc_string_x.l0 k a0 a1 (j487 + 1) x481) _ := H
    rw [slices_IndexFunc_string_x.l0] at H
    refine WP.seq ?_
    refine WP.reg [(0, false)] (by kernel_rfl) ?_
    refine Dv.bin rfl trivial rfl rfl (fun _ => run_lt) ?_
    refine .fin ?_
    refine WP.seq ?_
    refine WP.cond rfl (fun c482 => ?_) (fun c482 => ?_)
    · replace H := Gets.ct H c482
      refine WP.skip ?_
      refine WP.seq ?_
      refine WP.block ?_
      refine WP.seq ?_
      refine WP.reg [(0, false), (1, false)] (by kernel_rfl) ?_
      refine Dv.mv rfl trivial rfl ?_
      refine Dv.asg rfl trivial rfl ?_
      refine .fin ?_
      refine WP.seq ?_
      refine WP.reg [(0, false), (1, false), (2, false), (3, false), (4, false), (5, false)] (by kernel_rfl) ?_
      refine Dv.mv rfl trivial rfl ?_
      refine Dv.mv rfl trivial rfl ?_
      refine Dv.mv rfl trivial rfl ?_
      obtain ⟨g483, H⟩ := Gets.grd H
      refine Dv.ixr rfl trivial rfl rfl Try.underlying40 Try.underlying9 c9 g483.1 g483.2 ?_
      refine Dv.ldr rfl trivial rfl Try.underlying9 rfl rfl ?_
      obtain ⟨t484, h485, H⟩ := Gets.call H
      refine Dv.callfx (ret := eq (.bool t484)) (X := X1_) (F := [] ++ F) rfl trivial rfl rfl ⟨_, _, h485, rfl, rfl⟩ (perm_to (L := [X1_]) (F := F) [0] rfl rfl rfl) ?_
      refine .fin ?_
      refine WP.cond rfl (fun c486 => ?_) (fun c486 => ?_)
      · replace H := Gets.ct H c486
        refine WP.seq ?_
        refine WP.reg [(0, false), (1, false)] (by kernel_rfl) ?_
        refine Dv.mv rfl trivial rfl ?_
        refine Dv.asg rfl trivial rfl ?_
        refine .fin ?_
        replace H := Gets.outr H
        obtain rfl := Gets.out H
        exact WP.retL (fun _ _ h => h) rfl () trivial (.cons (res_tmp rfl) .nil) rfl (st_sel (L := [X1_]) (F := F) [0] 0 rfl rfl rfl)
      · replace H := Gets.cf H c486
        refine WP.skip ?_
        refine WP.reg [(0, false), (1, false)] (by kernel_rfl) ?_
        refine Dv.bin rfl trivial rfl rfl (fun _ => run_add) ?_
        refine Dv.mv rfl trivial rfl ?_
        refine .fin ?_
        exact Back.mk j487 (w64 (x481 + 1)) (Nat.lt_succ_self _) H (weak_cons rfl (weak_cons rfl (weak_cons rfl (weak_cons rfl (weak_cons rfl weak_nil))))) (List.Perm.refl _)
    · replace H := Gets.cf H c482
      refine WP.exit ?_
      replace H := Gets.out H
      exact Jn.mk (x481, decide (x481 < (a0.length : Int))) H (weak_cons rfl (weak_cons rfl (weak_cons rfl (weak_cons rfl (weak_cons rfl (weak_cons rfl weak_nil)))))) (List.Perm.refl _)
theorem slices_ContainsFunc_string_x.c {k : Nat} {a0 : List ByteArray} {a1 : (ByteArray → Option Bool)} {X1_ : As} {r : Bool} (h : slices_ContainsFunc_string_x.f k a0 a1 = some r) : Tr Try.prog 31 [sl strK a0, fx_string_bool X1_ a1] [X1_] (γ := Unit) (fun _ => True) (fun g => eq (.bool r)) (fun g => [X1_]) := by
  unfold slices_ContainsFunc_string_x.f at h
  refine Tr.body Try.func31 (c := _) rfl Try.ntmps31 (Nat.le_of_ble_eq_true rfl) fun R0 F => ?_
  replace h := Gets.of h
  have H := h
  clear h
  refine WP.seq ?_
  refine WP.reg [(0, false)] (by kernel_rfl) ?_
  refine Dv.asg rfl trivial rfl ?_
  refine .fin ?_
  refine WP.seq ?_
  refine WP.reg [(0, false), (1, false), (2, false), (3, false), (4, false)] (by kernel_rfl) ?_
  refine Dv.mv rfl trivial rfl ?_
  refine Dv.mv rfl trivial rfl ?_
  obtain ⟨t489, h490, H⟩ := Gets.call H
  refine Dv.calll (B := [X1_]) (F := [] ++ F) rfl trivial cal39 rfl (slices_IndexFunc_string_x.c h490 (X1_ := X1_)) (perm_to (L := [X1_]) (F := F) [0] rfl rfl rfl) ?_
  refine Dv.bin rfl trivial rfl rfl (fun _ => run_ge) ?_
  refine Dv.asg rfl trivial rfl ?_
  refine .fin ?_
  obtain rfl := Gets.out H
  exact WP.retL (fun _ _ h => h) rfl () trivial (.cons (res_tmp rfl) .nil) rfl (st_sel (L := [X1_]) (F := F) [0] 0 rfl rfl rfl)
theorem dag_Dag_Add_1.c {a0 : ByteArray} {cb0_ cd0_ : Nat} {cq0_ cv0_0 : OV} {ch0_ : cq0_.1 = .pointer (some ⟨cd0_, 0, none⟩)} {c0 : DDag} {r : Bool} (h : dag_Dag_Add_1.f a0 c0 = some r) : Tr Try.prog 32 [eq (.string a0), eq (.pointer (some ⟨cb0_, 0, none⟩))] [blk cb0_ 46 [eq cq0_.1], blk cd0_ 67 [eq (.string c0.froom), eq cv0_0.1], mpo Value.string DNode.O cv0_0.1 c0.fnodes] (γ := Unit) (fun _ => True) (fun g => eq (.bool r)) (fun g => [blk cb0_ 46 [eq cq0_.1], blk cd0_ 67 [eq (.string c0.froom), eq cv0_0.1], mpo Value.string DNode.O cv0_0.1 c0.fnodes]) := by
  unfold dag_Dag_Add_1.f at h
  refine Tr.body Try.func32 (c := _) rfl Try.ntmps32 (Nat.le_of_ble_eq_true rfl) fun R0 F => ?_
  replace h := Gets.of h
  have H := h
  clear h
  refine WP.seq ?_
  refine WP.reg [(0, false)] (by kernel_rfl) ?_
  refine Dv.asg rfl trivial rfl ?_
  refine .fin ?_
  refine WP.seq ?_
  refine WP.reg [(0, false), (1, false), (2, false), (3, false), (4, false)] (by kernel_rfl) ?_
  refine Dv.ldb rfl trivial rfl Try.underlying46 rfl (mem_at 0 rfl) rfl ?_
  refine Dv.mv rfl trivial rfl ?_
  obtain ⟨t491, h492, H⟩ := Gets.call H
  refine Dv.calll (B := [blk cd0_ 67 [eq (.string c0.froom), eq cv0_0.1], mpo Value.string DNode.O cv0_0.1 c0.fnodes]) (F := [blk cb0_ 46 [eq cq0_.1]] ++ F) rfl trivial cal26 rfl (Tr.weak (dag_Dag_Has.c h492 (b0_ := cd0_) (v0_0 := cv0_0)) (.cons (wk_ptr ch0_) (.cons wk_id .nil))) (perm_to (L := [blk cb0_ 46 [eq cq0_.1], blk cd0_ 67 [eq (.string c0.froom), eq cv0_0.1], mpo Value.string DNode.O cv0_0.1 c0.fnodes]) (F := F) [1, 2, 0] rfl rfl rfl) ?_
  refine Dv.un rfl trivial rfl (fun _ => run_not _) ?_
  refine Dv.asg rfl trivial rfl ?_
  refine .fin ?_
  obtain rfl := Gets.out H
  exact WP.retL (fun _ _ h => h) rfl () trivial (.cons (res_tmp rfl) .nil) rfl (st_sel (L := [blk cb0_ 46 [eq cq0_.1], blk cd0_ 67 [eq (.string c0.froom), eq cv0_0.1], mpo Value.string DNode.O cv0_0.1 c0.fnodes]) (F := F) [0, 1, 2] 0 rfl rfl rfl)
theorem dag_Dag_Add.c {k : Nat} {a0 : DDag} {a1 : Event} {p0_ : OV} {r : Int × DDag} (h : dag_Dag_Add.f k a0 a1 = some r) : Tr Try.prog 23 [eq p0_.1, agg (Event.enc a1)] [DDag.O p0_ a0] (γ := Unit) (fun _ => True) (fun g => eq (.int .i64 r.1)) (fun g => [DDag.O p0_ r.2]) := by
  unfold dag_Dag_Add.f at h
  refine Tr.body Try.func23 (c := _) rfl Try.ntmps23 (Nat.le_of_ble_eq_true rfl) fun R0 F => ?_
  replace h := Gets.of h
  have H := h
  clear h
  refine WP.seq ?_
  refine WP.reg [(0, true), (1, true), (2, false)] (by kernel_rfl) ?_
  refine Dv.box (qs := [eq p0_.1]) rfl trivial rfl (cells_one one_ov) nofun (fun b493 => ?_)
  refine Dv.box rfl trivial rfl (cells_agg (Event.K.one _)) nofun (fun b494 => ?_)
  refine Dv.asg rfl trivial rfl ?_
  refine .fin ?_
  refine WP.seq ?_
  refine WP.block ?_
  refine WP.seq ?_
  refine WP.gh (l' := fun (g495 : Nat × OV) => [blk g495.1 67 [eq (.string a0.froom), eq g495.2.1], mpo Value.string DNode.O g495.2.1 a0.fnodes, blk b494 42 [eq (.string a1.fID), eq (.string a1.fRoom), sl strK a1.fParents, eq (.string a1.fThread), eq (.string a1.fUser), eq (.int .i64 a1.fDoes)], blk b493 46 [eq p0_.1]] ++ F) (gh_of (DDag.opn 2 rfl)) (fun g495 h496 => ?_)
  refine WP.dreg Try.checked.mixed [(0, false), (1, false), (2, false), (3, false), (4, false), (5, false), (6, false), (7, false), (8, false), (9, false), (10, false), (11, false), (12, false)] (by kernel_rfl) ?_
  refine Dv.ldbs rfl trivial rfl Try.underlying42 rfl c42 (mem_at 2 rfl) (Nat.le_of_ble_eq_true rfl) ?_
  obtain ⟨t497, h498, H⟩ := Gets.call H
  refine Dv.call rfl trivial cal30 rfl (dag_May.c h498) ?_
  refine Dv.un rfl trivial rfl (fun _ => run_not _) ?_
  refine Dv.mv rfl trivial rfl ?_
  cases c499 : !t497
  · replace H := Gets.cf H c499
    refine Dv.fab rfl ⟨_, _, rfl, rfl, rfl⟩ rfl Try.underlying42 rfl Try.underlying9 c9 (by decide) ?_
    refine Dv.ldb rfl ⟨_, _, rfl, rfl, rfl⟩ rfl Try.underlying9 rfl (mem_at 2 rfl) rfl ?_
    refine Dv.ldb rfl ⟨_, _, rfl, rfl, rfl⟩ rfl Try.underlying46 rfl (mem_at 3 rfl) rfl ?_
    refine Dv.nilpp h496 rfl ⟨_, _, rfl, rfl, rfl⟩ rfl ?_
    refine Dv.fabp h496 rfl ⟨_, _, rfl, rfl, rfl⟩ rfl Try.underlying67 rfl Try.underlying9 c9 (by decide) ?_
    refine Dv.ldb rfl ⟨_, _, rfl, rfl, rfl⟩ rfl Try.underlying9 rfl (mem_at 0 rfl) rfl ?_
    refine Dv.bin rfl ⟨_, _, rfl, rfl, rfl⟩ rfl rfl (fun _ => run_sne) ?_
    refine Dv.pickF rfl trivial rfl rfl ?_
    refine Dv.asg rfl trivial rfl ?_
    refine .fin ?_
    refine WP.cond rfl (fun c501 => ?_) (fun c501 => ?_)
    · replace H := Gets.ct H c501
      refine WP.seq ?_
      refine WP.reg [(0, false)] (by kernel_rfl) ?_
      refine Dv.asg rfl trivial rfl ?_
      refine .fin ?_
      refine WP.gh (l' := fun _ : Unit => [DDag.O p0_ a0, blk b494 42 [eq (.string a1.fID), eq (.string a1.fRoom), sl strK a1.fParents, eq (.string a1.fThread), eq (.string a1.fUser), eq (.int .i64 a1.fDoes)], blk b493 46 [eq p0_.1]] ++ F) (gh_of (DDag.shut (p := p0_) (m := a0) (r := [blk b494 42 [eq (.string a1.fID), eq (.string a1.fRoom), sl strK a1.fParents, eq (.string a1.fThread), eq (.string a1.fUser), eq (.int .i64 a1.fDoes)], blk b493 46 [eq p0_.1]] ++ F) (g495.1, g495.2) h496 (perm_to (L := [blk g495.1 67 [eq (.string a0.froom), eq g495.2.1], mpo Value.string DNode.O g495.2.1 a0.fnodes, blk b494 42 [eq (.string a1.fID), eq (.string a1.fRoom), sl strK a1.fParents, eq (.string a1.fThread), eq (.string a1.fUser), eq (.int .i64 a1.fDoes)], blk b493 46 [eq p0_.1]]) (F := F) [0, 1, 2, 3] rfl rfl rfl))) (fun _ _ => ?_)
      obtain rfl := Gets.out H
      exact WP.retL (fun _ _ h => h) rfl () trivial (.cons (res_tmp rfl) .nil) rfl (st_sel (L := [DDag.O p0_ a0, blk b494 42 [eq (.string a1.fID), eq (.string a1.fRoom), sl strK a1.fParents, eq (.string a1.fThread), eq (.string a1.fUser), eq (.int .i64 a1.fDoes)], blk b493 46 [eq p0_.1]]) (F := F) [1, 2, 0] 2 rfl rfl rfl)
    · replace H := Gets.cf H c501
      refine WP.seq ?_
      refine WP.reg [(0, false), (1, false), (2, false), (3, false), (4, false)] (by kernel_rfl) ?_
      refine Dv.ldb rfl trivial rfl Try.underlying46 rfl (mem_at 3 rfl) rfl ?_
      refine Dv.fab rfl trivial rfl Try.underlying42 rfl Try.underlying9 c9 (by decide) ?_
      refine Dv.ldb rfl trivial rfl Try.underlying9 rfl (mem_at 2 rfl) rfl ?_
      obtain ⟨t502, h503, H⟩ := Gets.call H
      refine Dv.calll (B := [blk g495.1 67 [eq (.string a0.froom), eq g495.2.1], mpo Value.string DNode.O g495.2.1 a0.fnodes]) (F := [blk b494 42 [eq (.string a1.fID), eq (.string a1.fRoom), sl strK a1.fParents, eq (.string a1.fThread), eq (.string a1.fUser), eq (.int .i64 a1.fDoes)], blk b493 46 [eq p0_.1]] ++ F) rfl trivial cal26 rfl (Tr.weak (dag_Dag_Has.c h503 (b0_ := g495.1) (v0_0 := g495.2)) (.cons (wk_ptr h496) (.cons wk_id .nil))) (perm_to (L := [blk g495.1 67 [eq (.string a0.froom), eq g495.2.1], mpo Value.string DNode.O g495.2.1 a0.fnodes, blk b494 42 [eq (.string a1.fID), eq (.string a1.fRoom), sl strK a1.fParents, eq (.string a1.fThread), eq (.string a1.fUser), eq (.int .i64 a1.fDoes)], blk b493 46 [eq p0_.1]]) (F := F) [0, 1, 2, 3] rfl rfl rfl) ?_
      refine Dv.asg rfl trivial rfl ?_
      refine .fin ?_
      refine WP.cond rfl (fun c504 => ?_) (fun c504 => ?_)
      · replace H := Gets.ct H c504
        refine WP.seq ?_
        refine WP.reg [(0, false)] (by kernel_rfl) ?_
        refine Dv.asg rfl trivial rfl ?_
        refine .fin ?_
        refine WP.gh (l' := fun _ : Unit => [DDag.O p0_ a0, blk b494 42 [eq (.string a1.fID), eq (.string a1.fRoom), sl strK a1.fParents, eq (.string a1.fThread), eq (.string a1.fUser), eq (.int .i64 a1.fDoes)], blk b493 46 [eq p0_.1]] ++ F) (gh_of (DDag.shut (p := p0_) (m := a0) (r := [blk b494 42 [eq (.string a1.fID), eq (.string a1.fRoom), sl strK a1.fParents, eq (.string a1.fThread), eq (.string a1.fUser), eq (.int .i64 a1.fDoes)], blk b493 46 [eq p0_.1]] ++ F) (g495.1, g495.2) h496 (perm_to (L := [blk g495.1 67 [eq (.string a0.froom), eq g495.2.1], mpo Value.string DNode.O g495.2.1 a0.fnodes, blk b494 42 [eq (.string a1.fID), eq (.string a1.fRoom), sl strK a1.fParents, eq (.string a1.fThread), eq (.string a1.fUser), eq (.int .i64 a1.fDoes)], blk b493 46 [eq p0_.1]]) (F := F) [0, 1, 2, 3] rfl rfl rfl))) (fun _ _ => ?_)
        obtain rfl := Gets.out H
        exact WP.retL (fun _ _ h => h) rfl () trivial (.cons (res_tmp rfl) .nil) rfl (st_sel (L := [DDag.O p0_ a0, blk b494 42 [eq (.string a1.fID), eq (.string a1.fRoom), sl strK a1.fParents, eq (.string a1.fThread), eq (.string a1.fUser), eq (.int .i64 a1.fDoes)], blk b493 46 [eq p0_.1]]) (F := F) [1, 2, 0] 2 rfl rfl rfl)
      · replace H := Gets.cf H c504
        refine WP.seq ?_
        refine WP.reg [(0, false), (1, false), (2, false), (3, false), (4, false)] (by kernel_rfl) ?_
        refine Dv.fab rfl trivial rfl Try.underlying42 rfl Try.underlying40 c40 (by decide) ?_
        refine Dv.ldb rfl trivial rfl Try.underlying40 rfl (mem_at 2 rfl) rfl ?_
        refine Dv.mkx (Q := fqQ_string_bool (fun a0_ => dag_Dag_Add_1.f a0_ a0)) (L := [blk b493 46 [eq p0_.1], blk g495.1 67 [eq (.string a0.froom), eq g495.2.1], mpo Value.string DNode.O g495.2.1 a0.fnodes]) cal32 (by rintro _ _ ⟨a0_, r_, h_, rfl, rfl⟩; exact dag_Dag_Add_1.c h_ (cb0_ := b493) (cq0_ := p0_) (cd0_ := g495.1) (ch0_ := h496) (cv0_0 := g495.2)) rfl trivial rfl rfl ?_
        refine Dv.gh (l' := fun _ : Unit => [(pk [blk b493 46 [eq p0_.1], blk g495.1 67 [eq (.string a0.froom), eq g495.2.1], mpo Value.string DNode.O g495.2.1 a0.fnodes]), blk b494 42 [eq (.string a1.fID), eq (.string a1.fRoom), sl strK a1.fParents, eq (.string a1.fThread), eq (.string a1.fUser), eq (.int .i64 a1.fDoes)]] ++ F) (gh_of (st_pk (perm_to (L := [blk g495.1 67 [eq (.string a0.froom), eq g495.2.1], mpo Value.string DNode.O g495.2.1 a0.fnodes, blk b494 42 [eq (.string a1.fID), eq (.string a1.fRoom), sl strK a1.fParents, eq (.string a1.fThread), eq (.string a1.fUser), eq (.int .i64 a1.fDoes)], blk b493 46 [eq p0_.1]]) (F := F) [3, 0, 1, 2] rfl rfl rfl))) (fun _ _ => ?_)
        obtain ⟨t505, h506, H⟩ := Gets.call H
        refine Dv.calll (B := [(pk [blk b493 46 [eq p0_.1], blk g495.1 67 [eq (.string a0.froom), eq g495.2.1], mpo Value.string DNode.O g495.2.1 a0.fnodes])]) (F := [blk b494 42 [eq (.string a1.fID), eq (.string a1.fRoom), sl strK a1.fParents, eq (.string a1.fThread), eq (.string a1.fUser), eq (.int .i64 a1.fDoes)]] ++ F) rfl trivial cal31 rfl (slices_ContainsFunc_string_x.c h506 (X1_ := (pk [blk b493 46 [eq p0_.1], blk g495.1 67 [eq (.string a0.froom), eq g495.2.1], mpo Value.string DNode.O g495.2.1 a0.fnodes]))) (perm_to (L := [(pk [blk b493 46 [eq p0_.1], blk g495.1 67 [eq (.string a0.froom), eq g495.2.1], mpo Value.string DNode.O g495.2.1 a0.fnodes]), blk b494 42 [eq (.string a1.fID), eq (.string a1.fRoom), sl strK a1.fParents, eq (.string a1.fThread), eq (.string a1.fUser), eq (.int .i64 a1.fDoes)]]) (F := F) [0, 1] rfl rfl rfl) ?_
        refine Dv.gh (l' := fun _ : Unit => [blk b493 46 [eq p0_.1], blk g495.1 67 [eq (.string a0.froom), eq g495.2.1], mpo Value.string DNode.O g495.2.1 a0.fnodes, blk b494 42 [eq (.string a1.fID), eq (.string a1.fRoom), sl strK a1.fParents, eq (.string a1.fThread), eq (.string a1.fUser), eq (.int .i64 a1.fDoes)]] ++ F) (gh_of (st_unpk (L := [blk b493 46 [eq p0_.1], blk g495.1 67 [eq (.string a0.froom), eq g495.2.1], mpo Value.string DNode.O g495.2.1 a0.fnodes]) 0 rfl)) (fun _ _ => ?_)
        refine Dv.asg rfl trivial rfl ?_
        refine .fin ?_
        refine WP.cond rfl (fun c507 => ?_) (fun c507 => ?_)
        · replace H := Gets.ct H c507
          refine WP.seq ?_
          refine WP.reg [(0, false)] (by kernel_rfl) ?_
          refine Dv.asg rfl trivial rfl ?_
          refine .fin ?_
          refine WP.gh (l' := fun _ : Unit => [DDag.O p0_ a0, blk b493 46 [eq p0_.1], blk b494 42 [eq (.string a1.fID), eq (.string a1.fRoom), sl strK a1.fParents, eq (.string a1.fThread), eq (.string a1.fUser), eq (.int .i64 a1.fDoes)]] ++ F) (gh_of (DDag.shut (p := p0_) (m := a0) (r := [blk b493 46 [eq p0_.1], blk b494 42 [eq (.string a1.fID), eq (.string a1.fRoom), sl strK a1.fParents, eq (.string a1.fThread), eq (.string a1.fUser), eq (.int .i64 a1.fDoes)]] ++ F) (g495.1, g495.2) h496 (perm_to (L := [blk b493 46 [eq p0_.1], blk g495.1 67 [eq (.string a0.froom), eq g495.2.1], mpo Value.string DNode.O g495.2.1 a0.fnodes, blk b494 42 [eq (.string a1.fID), eq (.string a1.fRoom), sl strK a1.fParents, eq (.string a1.fThread), eq (.string a1.fUser), eq (.int .i64 a1.fDoes)]]) (F := F) [1, 2, 0, 3] rfl rfl rfl))) (fun _ _ => ?_)
          obtain rfl := Gets.out H
          exact WP.retL (fun _ _ h => h) rfl () trivial (.cons (res_tmp rfl) .nil) rfl (st_sel (L := [DDag.O p0_ a0, blk b493 46 [eq p0_.1], blk b494 42 [eq (.string a1.fID), eq (.string a1.fRoom), sl strK a1.fParents, eq (.string a1.fThread), eq (.string a1.fUser), eq (.int .i64 a1.fDoes)]]) (F := F) [1, 2, 0] 2 rfl rfl rfl)
        · replace H := Gets.cf H c507
          refine WP.skip ?_
          refine WP.seqr H id (fun p508 : Unit => [(0, eq p0_.1), (1, agg (Event.enc a1)), (2, eq (.pointer (some ⟨b493, 0, none⟩))), (3, eq (.pointer (some ⟨b494, 0, none⟩))), (4, eq (.int .i64 0)), (9, eq (.bool (!decide (a1.fRoom = a0.froom)))), (22, eq (.bool t502)), (27, eq (.bool t505)), (34, eq (.bool (!decide (a1.fThread = (⟨#[]⟩ : ByteArray)))))]) (fun p508 : Unit => [blk b493 46 [eq p0_.1], blk b494 42 [eq (.string a1.fID), eq (.string a1.fRoom), sl strK a1.fParents, eq (.string a1.fThread), eq (.string a1.fUser), eq (.int .i64 a1.fDoes)], DDag.O p0_ a0] ++ F) (fun p508 H => ?_) (fun H => ?_)
          · refine WP.seq ?_
            refine WP.reg [(0, false), (1, false), (2, false), (3, true), (4, false)] (by kernel_rfl) ?_
            refine Dv.ldbs rfl trivial rfl Try.underlying42 rfl c42 (mem_at 1 rfl) (Nat.le_of_ble_eq_true rfl) ?_
            obtain ⟨t509, h510, H⟩ := Gets.call H
            refine Dv.call rfl trivial cal27 rfl (dag_own.c h510) ?_
            refine Dv.bld (css := [Event.enc t509]) rfl trivial Try.underlying63 pl63 z63 rfl ⟨(cells_agg (Event.K.one _)), trivial⟩ rfl rfl ?_
            refine Dv.box rfl trivial rfl (cells_agg (ones_cons (one_eq rfl) (ones_cons (one_eq rfl) (ones_cons one_sl (ones_cons (one_eq rfl) (ones_cons (one_eq rfl) (ones_cons (one_eq rfl) (ones_cons (one_eq rfl) (ones_cons (one_eq rfl) ones_nil))))))))) nofun (fun b511 => ?_)
            refine Dv.asg rfl trivial rfl ?_
            refine .fin ?_
            refine WP.seqn H id (fun p512 : Int × Bool × Int × DDag => [(0, eq p0_.1), (1, agg (Event.enc a1)), (2, eq (.pointer (some ⟨b493, 0, none⟩))), (3, eq (.pointer (some ⟨b494, 0, none⟩))), (4, eq (.int .i64 0)), (6, eq (.pointer (some ⟨b511, 0, none⟩))), (9, eq (.bool (!decide (a1.fRoom = a0.froom)))), (22, eq (.bool t502)), (27, eq (.bool t505)), (34, eq (.bool (!decide (a1.fThread = (⟨#[]⟩ : ByteArray))))), (63, sl strK a1.fParents), (64, eq (.int .i64 (a1.fParents.length : Int))), (65, eq (.int .i64 p512.1)), (66, eq (.bool p512.2.1))]) (fun p512 : Int × Bool × Int × DDag => [blk b511 63 [eq (.string t509.fID), eq (.string t509.fRoom), sl strK t509.fParents, eq (.string t509.fThread), eq (.string t509.fUser), eq (.int .i64 t509.fDoes), eq (.int .i64 p512.2.2.1), eq (.bool false)], blk b493 46 [eq p0_.1], blk b494 42 [eq (.string a1.fID), eq (.string a1.fRoom), sl strK a1.fParents, eq (.string a1.fThread), eq (.string a1.fUser), eq (.int .i64 a1.fDoes)], DDag.O p0_ p512.2.2.2] ++ F) (fun p512 H => ?_) (fun H => ?_)
            · refine WP.seq ?_
              refine WP.gh (l' := fun (g513 : Nat × OV) => [blk g513.1 67 [eq (.string p512.2.2.2.froom), eq g513.2.1], mpo Value.string DNode.O g513.2.1 p512.2.2.2.fnodes, blk b511 63 [eq (.string t509.fID), eq (.string t509.fRoom), sl strK t509.fParents, eq (.string t509.fThread), eq (.string t509.fUser), eq (.int .i64 t509.fDoes), eq (.int .i64 p512.2.2.1), eq (.bool false)], blk b493 46 [eq p0_.1], blk b494 42 [eq (.string a1.fID), eq (.string a1.fRoom), sl strK a1.fParents, eq (.string a1.fThread), eq (.string a1.fUser), eq (.int .i64 a1.fDoes)]] ++ F) (gh_of (DDag.opn 3 rfl)) (fun g513 h514 => ?_)
              refine WP.gh (l' := fun _ : Unit => [DNode.O (⟨.pointer (some ⟨b511, 0, none⟩), rfl⟩ : OV) (⟨t509, p512.2.2.1, false⟩ : DNode), blk g513.1 67 [eq (.string p512.2.2.2.froom), eq g513.2.1], mpo Value.string DNode.O g513.2.1 p512.2.2.2.fnodes, blk b493 46 [eq p0_.1], blk b494 42 [eq (.string a1.fID), eq (.string a1.fRoom), sl strK a1.fParents, eq (.string a1.fThread), eq (.string a1.fUser), eq (.int .i64 a1.fDoes)]] ++ F) (gh_of (DNode.shut (p := (⟨.pointer (some ⟨b511, 0, none⟩), rfl⟩ : OV)) (m := (⟨t509, p512.2.2.1, false⟩ : DNode)) (r := [blk g513.1 67 [eq (.string p512.2.2.2.froom), eq g513.2.1], mpo Value.string DNode.O g513.2.1 p512.2.2.2.fnodes, blk b493 46 [eq p0_.1], blk b494 42 [eq (.string a1.fID), eq (.string a1.fRoom), sl strK a1.fParents, eq (.string a1.fThread), eq (.string a1.fUser), eq (.int .i64 a1.fDoes)]] ++ F) b511 rfl (perm_to (L := [blk g513.1 67 [eq (.string p512.2.2.2.froom), eq g513.2.1], mpo Value.string DNode.O g513.2.1 p512.2.2.2.fnodes, blk b511 63 [eq (.string t509.fID), eq (.string t509.fRoom), sl strK t509.fParents, eq (.string t509.fThread), eq (.string t509.fUser), eq (.int .i64 t509.fDoes), eq (.int .i64 p512.2.2.1), eq (.bool false)], blk b493 46 [eq p0_.1], blk b494 42 [eq (.string a1.fID), eq (.string a1.fRoom), sl strK a1.fParents, eq (.string a1.fThread), eq (.string a1.fUser), eq (.int .i64 a1.fDoes)]]) (F := F) [2, 0, 1, 3, 4] (by kernel_rfl) rfl rfl))) (fun _ _ => ?_)
              refine WP.gh (l' := fun z515 : List OV => [mp Value.string (fun p : OV => eq p.1) g513.2.1 (zipK p512.2.2.2.fnodes z515), thg DNode.O p512.2.2.2.fnodes z515, DNode.O (⟨.pointer (some ⟨b511, 0, none⟩), rfl⟩ : OV) (⟨t509, p512.2.2.1, false⟩ : DNode), blk g513.1 67 [eq (.string p512.2.2.2.froom), eq g513.2.1], blk b493 46 [eq p0_.1], blk b494 42 [eq (.string a1.fID), eq (.string a1.fRoom), sl strK a1.fParents, eq (.string a1.fThread), eq (.string a1.fUser), eq (.int .i64 a1.fDoes)]] ++ F) (gh_of (mpo_opn 2 rfl)) (fun z515 h516 => ?_)
              refine WP.dreg Try.checked.mixed [(0, false), (1, false), (2, false), (3, false), (4, false), (5, false), (6, false), (7, true)] (by kernel_rfl) ?_
              refine Dv.ldb rfl trivial rfl Try.underlying46 rfl (mem_at 4 rfl) rfl ?_
              refine Dv.nilpp h514 rfl trivial rfl ?_
              refine Dv.fabp h514 rfl trivial rfl Try.underlying67 rfl Try.underlying65 c65 (by decide) ?_
              refine Dv.ldb rfl trivial rfl Try.underlying65 rfl (mem_at 3 rfl) rfl ?_
              refine Dv.fab rfl trivial rfl Try.underlying42 rfl Try.underlying9 c9 (by decide) ?_
              refine Dv.ldb rfl trivial rfl Try.underlying9 rfl (mem_at 5 rfl) rfl ?_
              refine Dv.mv rfl trivial rfl ?_
              refine Dv.mup (vp := fun p : OV => eq p.1) (jj := 0) (⟨.pointer (some ⟨b511, 0, none⟩), rfl⟩ : OV) rfl trivial rfl rfl rfl rfl Try.underlying65 (keyOk_str Try.underlying9) (fun _ => pend_bits (by kernel_rfl)) ?_
              refine .fin ?_
              refine WP.seq ?_
              refine WP.reg [(0, false)] (by kernel_rfl) ?_
              refine Dv.asg rfl trivial rfl ?_
              refine .fin ?_
              refine WP.gh (l' := fun _ : Unit => [mpo Value.string DNode.O g513.2.1 (mput p512.2.2.2.fnodes a1.fID (⟨t509, p512.2.2.1, false⟩ : DNode)), blk g513.1 67 [eq (.string p512.2.2.2.froom), eq g513.2.1], blk b493 46 [eq p0_.1], blk b494 42 [eq (.string a1.fID), eq (.string a1.fRoom), sl strK a1.fParents, eq (.string a1.fThread), eq (.string a1.fUser), eq (.int .i64 a1.fDoes)]] ++ F) (gh_of (mpo_add DNode.nn h516 rfl (perm_to (L := [mp Value.string (fun p : OV => eq p.1) g513.2.1 (mput (zipK p512.2.2.2.fnodes z515) a1.fID (⟨.pointer (some ⟨b511, 0, none⟩), rfl⟩ : OV)), thg DNode.O p512.2.2.2.fnodes z515, DNode.O (⟨.pointer (some ⟨b511, 0, none⟩), rfl⟩ : OV) (⟨t509, p512.2.2.1, false⟩ : DNode), blk g513.1 67 [eq (.string p512.2.2.2.froom), eq g513.2.1], blk b493 46 [eq p0_.1], blk b494 42 [eq (.string a1.fID), eq (.string a1.fRoom), sl strK a1.fParents, eq (.string a1.fThread), eq (.string a1.fUser), eq (.int .i64 a1.fDoes)]]) (F := F) [0, 1, 2, 3, 4, 5] (by kernel_rfl) rfl rfl))) (fun _ _ => ?_)
              refine WP.gh (l' := fun _ : Unit => [DDag.O p0_ (⟨p512.2.2.2.froom, mput p512.2.2.2.fnodes a1.fID (⟨t509, p512.2.2.1, false⟩ : DNode)⟩ : DDag), blk b493 46 [eq p0_.1], blk b494 42 [eq (.string a1.fID), eq (.string a1.fRoom), sl strK a1.fParents, eq (.string a1.fThread), eq (.string a1.fUser), eq (.int .i64 a1.fDoes)]] ++ F) (gh_of (DDag.shut (p := p0_) (m := (⟨p512.2.2.2.froom, mput p512.2.2.2.fnodes a1.fID (⟨t509, p512.2.2.1, false⟩ : DNode)⟩ : DDag)) (r := [blk b493 46 [eq p0_.1], blk b494 42 [eq (.string a1.fID), eq (.string a1.fRoom), sl strK a1.fParents, eq (.string a1.fThread), eq (.string a1.fUser), eq (.int .i64 a1.fDoes)]] ++ F) (g513.1, g513.2) h514 (perm_to (L := [mpo Value.string DNode.O g513.2.1 (mput p512.2.2.2.fnodes a1.fID (⟨t509, p512.2.2.1, false⟩ : DNode)), blk g513.1 67 [eq (.string p512.2.2.2.froom), eq g513.2.1], blk b493 46 [eq p0_.1], blk b494 42 [eq (.string a1.fID), eq (.string a1.fRoom), sl strK a1.fParents, eq (.string a1.fThread), eq (.string a1.fUser), eq (.int .i64 a1.fDoes)]]) (F := F) [1, 0, 2, 3] rfl rfl rfl))) (fun _ _ => ?_)
              obtain rfl := Gets.out H
              exact WP.retL (fun _ _ h => h) rfl () trivial (.cons (res_tmp rfl) .nil) rfl (st_sel (L := [DDag.O p0_ (⟨p512.2.2.2.froom, mput p512.2.2.2.fnodes a1.fID (⟨t509, p512.2.2.1, false⟩ : DNode)⟩ : DDag), blk b493 46 [eq p0_.1], blk b494 42 [eq (.string a1.fID), eq (.string a1.fRoom), sl strK a1.fParents, eq (.string a1.fThread), eq (.string a1.fUser), eq (.int .i64 a1.fDoes)]]) (F := F) [1, 2, 0] 2 rfl rfl rfl)
            · refine WP.seq ?_
              refine WP.reg [(0, false), (1, false), (2, false), (3, false)] (by kernel_rfl) ?_
              refine Dv.fab rfl trivial rfl Try.underlying42 rfl Try.underlying40 c40 (by decide) ?_
              refine Dv.ldb rfl trivial rfl Try.underlying40 rfl (mem_at 2 rfl) rfl ?_
              refine Dv.lenl rfl trivial rfl Try.underlying40 ?_
              refine Dv.mv rfl trivial rfl ?_
              refine .fin ?_
              refine WP.block ?_
              refine WP.gh (l' := fun _ => [blk b511 63 [eq (.string t509.fID), eq (.string t509.fRoom), sl strK t509.fParents, eq (.string t509.fThread), eq (.string t509.fUser), eq (.int .i64 t509.fDoes), eq (.int .i64 0), eq (.bool false)], blk b493 46 [eq p0_.1], blk b494 42 [eq (.string a1.fID), eq (.string a1.fRoom), sl strK a1.fParents, eq (.string a1.fThread), eq (.string a1.fUser), eq (.int .i64 a1.fDoes)], DDag.O p0_ a0] ++ F) (gh_of (st_selg (L := [blk b511 63 [eq (.string t509.fID), eq (.string t509.fRoom), sl strK t509.fParents, eq (.string t509.fThread), eq (.string t509.fUser), eq (.int .i64 t509.fDoes), eq (.int .i64 0), eq (.bool false)], blk b493 46 [eq p0_.1], blk b494 42 [eq (.string a1.fID), eq (.string a1.fRoom), sl strK a1.fParents, eq (.string a1.fThread), eq (.string a1.fUser), eq (.int .i64 a1.fDoes)], DDag.O p0_ a0]) (F := F) [0, 1, 2, 3] 0 rfl rfl rfl)) (fun _ _ => ?_)
              refine WP.loopg (fun j_ (p531 : Int × Int × DDag) => dag_Dag_Add.l0 k a1 j_ p531.1 p531.2.1 p531.2.2) (0, 0, a0) H (fun p531 => [(0, eq p0_.1), (1, agg (Event.enc a1)), (2, eq (.pointer (some ⟨b493, 0, none⟩))), (3, eq (.pointer (some ⟨b494, 0, none⟩))), (4, eq (.int .i64 0)), (6, eq (.pointer (some ⟨b511, 0, none⟩))), (9, eq (.bool (!decide (a1.fRoom = a0.froom)))), (22, eq (.bool t502)), (27, eq (.bool t505)), (34, eq (.bool (!decide (a1.fThread = (⟨#[]⟩ : ByteArray))))), (63, sl strK a1.fParents), (64, eq (.int .i64 (a1.fParents.length : Int))), (65, eq (.int .i64 p531.1))]) (fun p531 => [blk b511 63 [eq (.string t509.fID), eq (.string t509.fRoom), sl strK t509.fParents, eq (.string t509.fThread), eq (.string t509.fUser), eq (.int .i64 t509.fDoes), eq (.int .i64 p531.2.1), eq (.bool false)], blk b493 46 [eq p0_.1], blk b494 42 [eq (.string a1.fID), eq (.string a1.fRoom), sl strK a1.fParents, eq (.string a1.fThread), eq (.string a1.fUser), eq (.int .i64 a1.fDoes)], DDag.O p0_ p531.2.2] ++ F) (weak_cons rfl (weak_cons rfl (weak_cons rfl (weak_cons rfl (weak_cons rfl (weak_cons rfl (weak_cons rfl (weak_cons rfl (weak_cons rfl (weak_cons rfl (weak_cons rfl (weak_cons rfl (weak_cons rfl weak_nil))))))))))))) (List.Perm.refl _) ?_
              rintro j_ ⟨x517, x518, x519⟩ H
              rcases j_ with _ | j530
              · exact (Gets.no H).elim
              replace H : Gets (dag_Dag_Add.l0 k a1 (j530 + 1) x517 x518 x519) _ := H
              rw [dag_Dag_Add.l0] at H
              refine WP.seq ?_
              refine WP.reg [(0, false)] (by kernel_rfl) ?_
              refine Dv.bin rfl trivial rfl rfl (fun _ => run_lt) ?_
              refine .fin ?_
              refine WP.seq ?_
              refine WP.cond rfl (fun c520 => ?_) (fun c520 => ?_)
              · replace H := Gets.ct H c520
                refine WP.skip ?_
                refine WP.seq ?_
                refine WP.block ?_
                refine WP.seq ?_
                refine WP.reg [(0, false), (1, false), (2, false)] (by kernel_rfl) ?_
                obtain ⟨g521, H⟩ := Gets.grd H
                refine Dv.ixr rfl trivial rfl rfl Try.underlying40 Try.underlying9 c9 g521.1 g521.2 ?_
                refine Dv.ldr rfl trivial rfl Try.underlying9 rfl rfl ?_
                refine Dv.asg rfl trivial rfl ?_
                refine .fin ?_
                refine WP.seq ?_
                refine WP.gh (l' := fun (g522 : Nat × OV) => [blk g522.1 67 [eq (.string x519.froom), eq g522.2.1], mpo Value.string DNode.O g522.2.1 x519.fnodes, blk b511 63 [eq (.string t509.fID), eq (.string t509.fRoom), sl strK t509.fParents, eq (.string t509.fThread), eq (.string t509.fUser), eq (.int .i64 t509.fDoes), eq (.int .i64 x518), eq (.bool false)], blk b493 46 [eq p0_.1], blk b494 42 [eq (.string a1.fID), eq (.string a1.fRoom), sl strK a1.fParents, eq (.string a1.fThread), eq (.string a1.fUser), eq (.int .i64 a1.fDoes)]] ++ F) (gh_of (DDag.opn 3 rfl)) (fun g522 h523 => ?_)
                refine WP.gh (l' := fun z524 : List OV => [mp Value.string (fun p : OV => eq p.1) g522.2.1 (zipK x519.fnodes z524), thg DNode.O x519.fnodes z524, blk g522.1 67 [eq (.string x519.froom), eq g522.2.1], blk b511 63 [eq (.string t509.fID), eq (.string t509.fRoom), sl strK t509.fParents, eq (.string t509.fThread), eq (.string t509.fUser), eq (.int .i64 t509.fDoes), eq (.int .i64 x518), eq (.bool false)], blk b493 46 [eq p0_.1], blk b494 42 [eq (.string a1.fID), eq (.string a1.fRoom), sl strK a1.fParents, eq (.string a1.fThread), eq (.string a1.fUser), eq (.int .i64 a1.fDoes)]] ++ F) (gh_of (mpo_opn 1 rfl)) (fun z524 h525 => ?_)
                obtain ⟨g526, H⟩ := Gets.grd H
                refine WP.gh (l' := fun _ : Unit => [DNode.O ((mget (zipK x519.fnodes z524) (strK.at a1.fParents x517)).getD nilP) ((mget x519.fnodes (strK.at a1.fParents x517)).getD default), thgB DNode.O x519.fnodes z524 (strK.at a1.fParents x517), mp Value.string (fun p : OV => eq p.1) g522.2.1 (zipK x519.fnodes z524), blk g522.1 67 [eq (.string x519.froom), eq g522.2.1], blk b511 63 [eq (.string t509.fID), eq (.string t509.fRoom), sl strK t509.fParents, eq (.string t509.fThread), eq (.string t509.fUser), eq (.int .i64 t509.fDoes), eq (.int .i64 x518), eq (.bool false)], blk b493 46 [eq p0_.1], blk b494 42 [eq (.string a1.fID), eq (.string a1.fRoom), sl strK a1.fParents, eq (.string a1.fThread), eq (.string a1.fUser), eq (.int .i64 a1.fDoes)]] ++ F) (gh_of (mpo_foc h525 rfl g526 (perm_to (L := [mp Value.string (fun p : OV => eq p.1) g522.2.1 (zipK x519.fnodes z524), thg DNode.O x519.fnodes z524, blk g522.1 67 [eq (.string x519.froom), eq g522.2.1], blk b511 63 [eq (.string t509.fID), eq (.string t509.fRoom), sl strK t509.fParents, eq (.string t509.fThread), eq (.string t509.fUser), eq (.int .i64 t509.fDoes), eq (.int .i64 x518), eq (.bool false)], blk b493 46 [eq p0_.1], blk b494 42 [eq (.string a1.fID), eq (.string a1.fRoom), sl strK a1.fParents, eq (.string a1.fThread), eq (.string a1.fUser), eq (.int .i64 a1.fDoes)]]) (F := F) [1, 0, 2, 3, 4, 5] (by kernel_rfl) rfl rfl))) (fun _ _ => ?_)
                refine WP.gh (l' := fun (g527 : Nat) => [blk g527 63 [eq (.string ((((mget x519.fnodes (strK.at a1.fParents x517)).getD default).fe).fID)), eq (.string ((((mget x519.fnodes (strK.at a1.fParents x517)).getD default).fe).fRoom)), sl strK ((((mget x519.fnodes (strK.at a1.fParents x517)).getD default).fe).fParents), eq (.string ((((mget x519.fnodes (strK.at a1.fParents x517)).getD default).fe).fThread)), eq (.string ((((mget x519.fnodes (strK.at a1.fParents x517)).getD default).fe).fUser)), eq (.int .i64 ((((mget x519.fnodes (strK.at a1.fParents x517)).getD default).fe).fDoes)), eq (.int .i64 (((mget x519.fnodes (strK.at a1.fParents x517)).getD default).fdepth)), eq (.bool (((mget x519.fnodes (strK.at a1.fParents x517)).getD default).fparent))], thgB DNode.O x519.fnodes z524 (strK.at a1.fParents x517), mp Value.string (fun p : OV => eq p.1) g522.2.1 (zipK x519.fnodes z524), blk g522.1 67 [eq (.string x519.froom), eq g522.2.1], blk b511 63 [eq (.string t509.fID), eq (.string t509.fRoom), sl strK t509.fParents, eq (.string t509.fThread), eq (.string t509.fUser), eq (.int .i64 t509.fDoes), eq (.int .i64 x518), eq (.bool false)], blk b493 46 [eq p0_.1], blk b494 42 [eq (.string a1.fID), eq (.string a1.fRoom), sl strK a1.fParents, eq (.string a1.fThread), eq (.string a1.fUser), eq (.int .i64 a1.fDoes)]] ++ F) (gh_of (DNode.opn 0 rfl)) (fun g527 h528 => ?_)
                refine WP.dreg Try.checked.mixed [(0, false), (1, false), (2, false), (3, false), (4, false), (5, false), (6, false), (7, false), (8, false), (9, false), (10, false), (11, false), (12, false), (13, false), (14, false), (15, false), (16, false), (17, false), (18, true)] (by kernel_rfl) ?_
                refine Dv.mv rfl trivial rfl ?_
                refine Dv.mv rfl trivial rfl ?_
                refine Dv.nilp rfl trivial rfl ?_
                refine Dv.fab rfl trivial rfl Try.underlying63 rfl Try.underlying3 c3 (by decide) ?_
                refine Dv.ldb rfl trivial rfl Try.underlying3 rfl (mem_at 4 rfl) rfl ?_
                refine Dv.ldb rfl trivial rfl Try.underlying46 rfl (mem_at 5 rfl) rfl ?_
                refine Dv.nilpp h523 rfl trivial rfl ?_
                refine Dv.fabp h523 rfl trivial rfl Try.underlying67 rfl Try.underlying65 c65 (by decide) ?_
                refine Dv.ldb rfl trivial rfl Try.underlying65 rfl (mem_at 3 rfl) rfl ?_
                refine Dv.mv rfl trivial rfl ?_
                refine Dv.mlv nilP rfl trivial rfl (mem_at 2 rfl) rfl Try.underlying65 (keyOk_str Try.underlying9) z64 (fun _ => rfl) ?_
                refine Dv.nilpp h528 rfl trivial rfl ?_
                refine Dv.fabp h528 rfl trivial rfl Try.underlying63 rfl Try.underlying3 c3 (by decide) ?_
                refine Dv.ldb rfl trivial rfl Try.underlying3 rfl (mem_at 0 rfl) rfl ?_
                refine Dv.bin rfl trivial rfl rfl (fun _ => run_add) ?_
                refine Dv.maxi rfl trivial rfl rfl ?_
                refine Dv.nilp rfl trivial rfl ?_
                refine Dv.fab rfl trivial rfl Try.underlying63 rfl Try.underlying3 c3 (by decide) ?_
                refine Dv.stx ([blk g527 63 [eq (.string ((((mget x519.fnodes (strK.at a1.fParents x517)).getD default).fe).fID)), eq (.string ((((mget x519.fnodes (strK.at a1.fParents x517)).getD default).fe).fRoom)), sl strK ((((mget x519.fnodes (strK.at a1.fParents x517)).getD default).fe).fParents), eq (.string ((((mget x519.fnodes (strK.at a1.fParents x517)).getD default).fe).fThread)), eq (.string ((((mget x519.fnodes (strK.at a1.fParents x517)).getD default).fe).fUser)), eq (.int .i64 ((((mget x519.fnodes (strK.at a1.fParents x517)).getD default).fe).fDoes)), eq (.int .i64 (((mget x519.fnodes (strK.at a1.fParents x517)).getD default).fdepth)), eq (.bool (((mget x519.fnodes (strK.at a1.fParents x517)).getD default).fparent))], thgB DNode.O x519.fnodes z524 (strK.at a1.fParents x517), mp Value.string (fun p : OV => eq p.1) g522.2.1 (zipK x519.fnodes z524), blk g522.1 67 [eq (.string x519.froom), eq g522.2.1], blk b511 63 [eq (.string t509.fID), eq (.string t509.fRoom), sl strK t509.fParents, eq (.string t509.fThread), eq (.string t509.fUser), eq (.int .i64 t509.fDoes), eq (.int .i64 (max x518 (w64 ((((mget x519.fnodes (strK.at a1.fParents x517)).getD default).fdepth) + 1)))), eq (.bool false)], blk b493 46 [eq p0_.1], blk b494 42 [eq (.string a1.fID), eq (.string a1.fRoom), sl strK a1.fParents, eq (.string a1.fThread), eq (.string a1.fUser), eq (.int .i64 a1.fDoes)]] ++ F) rfl trivial rfl rfl (cells_one (one_eq rfl)) Try.underlying3 c3 rfl (j := 4) rfl (Nat.le_of_ble_eq_true rfl) rfl (fun _ => pend_bits (by kernel_rfl)) ?_
                refine .fin ?_
                refine WP.reg [(0, false), (1, false), (2, false), (3, false), (4, false), (5, false), (6, false), (7, false), (8, true)] (by kernel_rfl) ?_
                refine Dv.ldb rfl trivial rfl Try.underlying46 rfl (mem_at 5 rfl) rfl ?_
                refine Dv.nilpp h523 rfl trivial rfl ?_
                refine Dv.fabp h523 rfl trivial rfl Try.underlying67 rfl Try.underlying65 c65 (by decide) ?_
                refine Dv.ldb rfl trivial rfl Try.underlying65 rfl (mem_at 3 rfl) rfl ?_
                refine Dv.mv rfl trivial rfl ?_
                refine Dv.mlv nilP rfl trivial rfl (mem_at 2 rfl) rfl Try.underlying65 (keyOk_str Try.underlying9) z64 (fun _ => rfl) ?_
                refine Dv.nilpp h528 rfl trivial rfl ?_
                refine Dv.fabp h528 rfl trivial rfl Try.underlying63 rfl Try.underlying4 c4 (by decide) ?_
                refine Dv.stx ([blk g527 63 [eq (.string ((((mget x519.fnodes (strK.at a1.fParents x517)).getD default).fe).fID)), eq (.string ((((mget x519.fnodes (strK.at a1.fParents x517)).getD default).fe).fRoom)), sl strK ((((mget x519.fnodes (strK.at a1.fParents x517)).getD default).fe).fParents), eq (.string ((((mget x519.fnodes (strK.at a1.fParents x517)).getD default).fe).fThread)), eq (.string ((((mget x519.fnodes (strK.at a1.fParents x517)).getD default).fe).fUser)), eq (.int .i64 ((((mget x519.fnodes (strK.at a1.fParents x517)).getD default).fe).fDoes)), eq (.int .i64 (((mget x519.fnodes (strK.at a1.fParents x517)).getD default).fdepth)), eq (.bool true)], thgB DNode.O x519.fnodes z524 (strK.at a1.fParents x517), mp Value.string (fun p : OV => eq p.1) g522.2.1 (zipK x519.fnodes z524), blk g522.1 67 [eq (.string x519.froom), eq g522.2.1], blk b511 63 [eq (.string t509.fID), eq (.string t509.fRoom), sl strK t509.fParents, eq (.string t509.fThread), eq (.string t509.fUser), eq (.int .i64 t509.fDoes), eq (.int .i64 (max x518 (w64 ((((mget x519.fnodes (strK.at a1.fParents x517)).getD default).fdepth) + 1)))), eq (.bool false)], blk b493 46 [eq p0_.1], blk b494 42 [eq (.string a1.fID), eq (.string a1.fRoom), sl strK a1.fParents, eq (.string a1.fThread), eq (.string a1.fUser), eq (.int .i64 a1.fDoes)]] ++ F) rfl trivial rfl rfl (cells_one (one_eq rfl)) Try.underlying4 c4 rfl (j := 0) rfl (Nat.le_of_ble_eq_true rfl) rfl nofun ?_
                refine .fin ?_
                refine WP.reg [(0, false), (1, false)] (by kernel_rfl) ?_
                refine Dv.bin rfl trivial rfl rfl (fun _ => run_add) ?_
                refine Dv.mv rfl trivial rfl ?_
                refine .fin ?_
                refine Dn.gh (l' := fun _ : Unit => [DNode.O ((mget (zipK x519.fnodes z524) (strK.at a1.fParents x517)).getD nilP) (⟨((mget x519.fnodes (strK.at a1.fParents x517)).getD default).fe, ((mget x519.fnodes (strK.at a1.fParents x517)).getD default).fdepth, true⟩ : DNode), thgB DNode.O x519.fnodes z524 (strK.at a1.fParents x517), mp Value.string (fun p : OV => eq p.1) g522.2.1 (zipK x519.fnodes z524), blk g522.1 67 [eq (.string x519.froom), eq g522.2.1], blk b511 63 [eq (.string t509.fID), eq (.string t509.fRoom), sl strK t509.fParents, eq (.string t509.fThread), eq (.string t509.fUser), eq (.int .i64 t509.fDoes), eq (.int .i64 (max x518 (w64 ((((mget x519.fnodes (strK.at a1.fParents x517)).getD default).fdepth) + 1)))), eq (.bool false)], blk b493 46 [eq p0_.1], blk b494 42 [eq (.string a1.fID), eq (.string a1.fRoom), sl strK a1.fParents, eq (.string a1.fThread), eq (.string a1.fUser), eq (.int .i64 a1.fDoes)]] ++ F) (gh_of (DNode.shut (p := ((mget (zipK x519.fnodes z524) (strK.at a1.fParents x517)).getD nilP)) (m := (⟨((mget x519.fnodes (strK.at a1.fParents x517)).getD default).fe, ((mget x519.fnodes (strK.at a1.fParents x517)).getD default).fdepth, true⟩ : DNode)) (r := [thgB DNode.O x519.fnodes z524 (strK.at a1.fParents x517), mp Value.string (fun p : OV => eq p.1) g522.2.1 (zipK x519.fnodes z524), blk g522.1 67 [eq (.string x519.froom), eq g522.2.1], blk b511 63 [eq (.string t509.fID), eq (.string t509.fRoom), sl strK t509.fParents, eq (.string t509.fThread), eq (.string t509.fUser), eq (.int .i64 t509.fDoes), eq (.int .i64 (max x518 (w64 ((((mget x519.fnodes (strK.at a1.fParents x517)).getD default).fdepth) + 1)))), eq (.bool false)], blk b493 46 [eq p0_.1], blk b494 42 [eq (.string a1.fID), eq (.string a1.fRoom), sl strK a1.fParents, eq (.string a1.fThread), eq (.string a1.fUser), eq (.int .i64 a1.fDoes)]] ++ F) g527 h528 (perm_to (L := [blk g527 63 [eq (.string ((((mget x519.fnodes (strK.at a1.fParents x517)).getD default).fe).fID)), eq (.string ((((mget x519.fnodes (strK.at a1.fParents x517)).getD default).fe).fRoom)), sl strK ((((mget x519.fnodes (strK.at a1.fParents x517)).getD default).fe).fParents), eq (.string ((((mget x519.fnodes (strK.at a1.fParents x517)).getD default).fe).fThread)), eq (.string ((((mget x519.fnodes (strK.at a1.fParents x517)).getD default).fe).fUser)), eq (.int .i64 ((((mget x519.fnodes (strK.at a1.fParents x517)).getD default).fe).fDoes)), eq (.int .i64 (((mget x519.fnodes (strK.at a1.fParents x517)).getD default).fdepth)), eq (.bool true)], thgB DNode.O x519.fnodes z524 (strK.at a1.fParents x517), mp Value.string (fun p : OV => eq p.1) g522.2.1 (zipK x519.fnodes z524), blk g522.1 67 [eq (.string x519.froom), eq g522.2.1], blk b511 63 [eq (.string t509.fID), eq (.string t509.fRoom), sl strK t509.fParents, eq (.string t509.fThread), eq (.string t509.fUser), eq (.int .i64 t509.fDoes), eq (.int .i64 (max x518 (w64 ((((mget x519.fnodes (strK.at a1.fParents x517)).getD default).fdepth) + 1)))), eq (.bool false)], blk b493 46 [eq p0_.1], blk b494 42 [eq (.string a1.fID), eq (.string a1.fRoom), sl strK a1.fParents, eq (.string a1.fThread), eq (.string a1.fUser), eq (.int .i64 a1.fDoes)]]) (F := F) [0, 1, 2, 3, 4, 5, 6] (by kernel_rfl) rfl rfl))) (fun _ _ => ?_)
                refine Dn.gh (l' := fun _ : Unit => [thg DNode.O (mput x519.fnodes (strK.at a1.fParents x517) (⟨((mget x519.fnodes (strK.at a1.fParents x517)).getD default).fe, ((mget x519.fnodes (strK.at a1.fParents x517)).getD default).fdepth, true⟩ : DNode)) z524, mp Value.string (fun p : OV => eq p.1) g522.2.1 (zipK x519.fnodes z524), blk g522.1 67 [eq (.string x519.froom), eq g522.2.1], blk b511 63 [eq (.string t509.fID), eq (.string t509.fRoom), sl strK t509.fParents, eq (.string t509.fThread), eq (.string t509.fUser), eq (.int .i64 t509.fDoes), eq (.int .i64 (max x518 (w64 ((((mget x519.fnodes (strK.at a1.fParents x517)).getD default).fdepth) + 1)))), eq (.bool false)], blk b493 46 [eq p0_.1], blk b494 42 [eq (.string a1.fID), eq (.string a1.fRoom), sl strK a1.fParents, eq (.string a1.fThread), eq (.string a1.fUser), eq (.int .i64 a1.fDoes)]] ++ F) (gh_of (mpo_unf h525 rfl g526 (perm_to (L := [DNode.O ((mget (zipK x519.fnodes z524) (strK.at a1.fParents x517)).getD nilP) (⟨((mget x519.fnodes (strK.at a1.fParents x517)).getD default).fe, ((mget x519.fnodes (strK.at a1.fParents x517)).getD default).fdepth, true⟩ : DNode), thgB DNode.O x519.fnodes z524 (strK.at a1.fParents x517), mp Value.string (fun p : OV => eq p.1) g522.2.1 (zipK x519.fnodes z524), blk g522.1 67 [eq (.string x519.froom), eq g522.2.1], blk b511 63 [eq (.string t509.fID), eq (.string t509.fRoom), sl strK t509.fParents, eq (.string t509.fThread), eq (.string t509.fUser), eq (.int .i64 t509.fDoes), eq (.int .i64 (max x518 (w64 ((((mget x519.fnodes (strK.at a1.fParents x517)).getD default).fdepth) + 1)))), eq (.bool false)], blk b493 46 [eq p0_.1], blk b494 42 [eq (.string a1.fID), eq (.string a1.fRoom), sl strK a1.fParents, eq (.string a1.fThread), eq (.string a1.fUser), eq (.int .i64 a1.fDoes)]]) (F := F) [0, 1, 2, 3, 4, 5, 6] (by kernel_rfl) rfl rfl))) (fun _ h529 => ?_)
                refine Dn.gh (l' := fun _ : Unit => [mpo Value.string DNode.O g522.2.1 (mput x519.fnodes (strK.at a1.fParents x517) (⟨((mget x519.fnodes (strK.at a1.fParents x517)).getD default).fe, ((mget x519.fnodes (strK.at a1.fParents x517)).getD default).fdepth, true⟩ : DNode)), blk g522.1 67 [eq (.string x519.froom), eq g522.2.1], blk b511 63 [eq (.string t509.fID), eq (.string t509.fRoom), sl strK t509.fParents, eq (.string t509.fThread), eq (.string t509.fUser), eq (.int .i64 t509.fDoes), eq (.int .i64 (max x518 (w64 ((((mget x519.fnodes (strK.at a1.fParents x517)).getD default).fdepth) + 1)))), eq (.bool false)], blk b493 46 [eq p0_.1], blk b494 42 [eq (.string a1.fID), eq (.string a1.fRoom), sl strK a1.fParents, eq (.string a1.fThread), eq (.string a1.fUser), eq (.int .i64 a1.fDoes)]] ++ F) (gh_of (mpo_shut h529 (zipK_put' rfl g526) (perm_to (L := [thg DNode.O (mput x519.fnodes (strK.at a1.fParents x517) (⟨((mget x519.fnodes (strK.at a1.fParents x517)).getD default).fe, ((mget x519.fnodes (strK.at a1.fParents x517)).getD default).fdepth, true⟩ : DNode)) z524, mp Value.string (fun p : OV => eq p.1) g522.2.1 (zipK x519.fnodes z524), blk g522.1 67 [eq (.string x519.froom), eq g522.2.1], blk b511 63 [eq (.string t509.fID), eq (.string t509.fRoom), sl strK t509.fParents, eq (.string t509.fThread), eq (.string t509.fUser), eq (.int .i64 t509.fDoes), eq (.int .i64 (max x518 (w64 ((((mget x519.fnodes (strK.at a1.fParents x517)).getD default).fdepth) + 1)))), eq (.bool false)], blk b493 46 [eq p0_.1], blk b494 42 [eq (.string a1.fID), eq (.string a1.fRoom), sl strK a1.fParents, eq (.string a1.fThread), eq (.string a1.fUser), eq (.int .i64 a1.fDoes)]]) (F := F) [1, 0, 2, 3, 4, 5] (by kernel_rfl) rfl rfl))) (fun _ _ => ?_)
                refine Dn.gh (l' := fun _ : Unit => [DDag.O p0_ (⟨x519.froom, mput x519.fnodes (strK.at a1.fParents x517) (⟨((mget x519.fnodes (strK.at a1.fParents x517)).getD default).fe, ((mget x519.fnodes (strK.at a1.fParents x517)).getD default).fdepth, true⟩ : DNode)⟩ : DDag), blk b511 63 [eq (.string t509.fID), eq (.string t509.fRoom), sl strK t509.fParents, eq (.string t509.fThread), eq (.string t509.fUser), eq (.int .i64 t509.fDoes), eq (.int .i64 (max x518 (w64 ((((mget x519.fnodes (strK.at a1.fParents x517)).getD default).fdepth) + 1)))), eq (.bool false)], blk b493 46 [eq p0_.1], blk b494 42 [eq (.string a1.fID), eq (.string a1.fRoom), sl strK a1.fParents, eq (.string a1.fThread), eq (.string a1.fUser), eq (.int .i64 a1.fDoes)]] ++ F) (gh_of (DDag.shut (p := p0_) (m := (⟨x519.froom, mput x519.fnodes (strK.at a1.fParents x517) (⟨((mget x519.fnodes (strK.at a1.fParents x517)).getD default).fe, ((mget x519.fnodes (strK.at a1.fParents x517)).getD default).fdepth, true⟩ : DNode)⟩ : DDag)) (r := [blk b511 63 [eq (.string t509.fID), eq (.string t509.fRoom), sl strK t509.fParents, eq (.string t509.fThread), eq (.string t509.fUser), eq (.int .i64 t509.fDoes), eq (.int .i64 (max x518 (w64 ((((mget x519.fnodes (strK.at a1.fParents x517)).getD default).fdepth) + 1)))), eq (.bool false)], blk b493 46 [eq p0_.1], blk b494 42 [eq (.string a1.fID), eq (.string a1.fRoom), sl strK a1.fParents, eq (.string a1.fThread), eq (.string a1.fUser), eq (.int .i64 a1.fDoes)]] ++ F) (g522.1, g522.2) h523 (perm_to (L := [mpo Value.string DNode.O g522.2.1 (mput x519.fnodes (strK.at a1.fParents x517) (⟨((mget x519.fnodes (strK.at a1.fParents x517)).getD default).fe, ((mget x519.fnodes (strK.at a1.fParents x517)).getD default).fdepth, true⟩ : DNode)), blk g522.1 67 [eq (.string x519.froom), eq g522.2.1], blk b511 63 [eq (.string t509.fID), eq (.string t509.fRoom), sl strK t509.fParents, eq (.string t509.fThread), eq (.string t509.fUser), eq (.int .i64 t509.fDoes), eq (.int .i64 (max x518 (w64 ((((mget x519.fnodes (strK.at a1.fParents x517)).getD default).fdepth) + 1)))), eq (.bool false)], blk b493 46 [eq p0_.1], blk b494 42 [eq (.string a1.fID), eq (.string a1.fRoom), sl strK a1.fParents, eq (.string a1.fThread), eq (.string a1.fUser), eq (.int .i64 a1.fDoes)]]) (F := F) [1, 0, 2, 3, 4] (by kernel_rfl) rfl rfl))) (fun _ _ => ?_)
                refine Dn.gh (l' := fun _ : Unit => [blk b511 63 [eq (.string t509.fID), eq (.string t509.fRoom), sl strK t509.fParents, eq (.string t509.fThread), eq (.string t509.fUser), eq (.int .i64 t509.fDoes), eq (.int .i64 (max x518 (w64 ((((mget x519.fnodes (strK.at a1.fParents x517)).getD default).fdepth) + 1)))), eq (.bool false)], blk b493 46 [eq p0_.1], blk b494 42 [eq (.string a1.fID), eq (.string a1.fRoom), sl strK a1.fParents, eq (.string a1.fThread), eq (.string a1.fUser), eq (.int .i64 a1.fDoes)], DDag.O p0_ (⟨x519.froom, mput x519.fnodes (strK.at a1.fParents x517) (⟨((mget x519.fnodes (strK.at a1.fParents x517)).getD default).fe, ((mget x519.fnodes (strK.at a1.fParents x517)).getD default).fdepth, true⟩ : DNode)⟩ : DDag)] ++ F) (gh_of (st_selg (L := [DDag.O p0_ (⟨x519.froom, mput x519.fnodes (strK.at a1.fParents x517) (⟨((mget x519.fnodes (strK.at a1.fParents x517)).getD default).fe, ((mget x519.fnodes (strK.at a1.fParents x517)).getD default).fdepth, true⟩ : DNode)⟩ : DDag), blk b511 63 [eq (.string t509.fID), eq (.string t509.fRoom), sl strK t509.fParents, eq (.string t509.fThread), eq (.string t509.fUser), eq (.int .i64 t509.fDoes), eq (.int .i64 (max x518 (w64 ((((mget x519.fnodes (strK.at a1.fParents x517)).getD default).fdepth) + 1)))), eq (.bool false)], blk b493 46 [eq p0_.1], blk b494 42 [eq (.string a1.fID), eq (.string a1.fRoom), sl strK a1.fParents, eq (.string a1.fThread), eq (.string a1.fUser), eq (.int .i64 a1.fDoes)]]) (F := F) [1, 2, 3, 0] 0 rfl rfl rfl)) (fun _ _ => ?_)
                exact Back.mk j530 (w64 (x517 + 1), max x518 (w64 ((((mget x519.fnodes (strK.at a1.fParents x517)).getD default).fdepth) + 1)), (⟨x519.froom, mput x519.fnodes (strK.at a1.fParents x517) (⟨((mget x519.fnodes (strK.at a1.fParents x517)).getD default).fe, ((mget x519.fnodes (strK.at a1.fParents x517)).getD default).fdepth, true⟩ : DNode)⟩ : DDag)) (Nat.lt_succ_self _) H (weak_cons rfl (weak_cons rfl (weak_cons rfl (weak_cons rfl (weak_cons rfl (weak_cons rfl (weak_cons rfl (weak_cons rfl (weak_cons rfl (weak_cons rfl (weak_cons rfl (weak_cons rfl (weak_cons rfl weak_nil))))))))))))) (List.Perm.refl _)
              · replace H := Gets.cf H c520
                refine WP.exit ?_
                replace H := Gets.out H
                exact Jn.mk (x517, decide (x517 < (a1.fParents.length : Int)), x518, x519) H (weak_cons rfl (weak_cons rfl (weak_cons rfl (weak_cons rfl (weak_cons rfl (weak_cons rfl (weak_cons rfl (weak_cons rfl (weak_cons rfl (weak_cons rfl (weak_cons rfl (weak_cons rfl (weak_cons rfl (weak_cons rfl weak_nil)))))))))))))) (List.Perm.refl _)
          · refine WP.seq ?_
            refine WP.reg [(0, false), (1, false), (2, false)] (by kernel_rfl) ?_
            refine Dv.fab rfl trivial rfl Try.underlying42 rfl Try.underlying9 c9 (by decide) ?_
            refine Dv.ldb rfl trivial rfl Try.underlying9 rfl (mem_at 3 rfl) rfl ?_
            refine Dv.bin rfl trivial rfl rfl (fun _ => run_sne) ?_
            refine .fin ?_
            refine WP.cond rfl (fun c532 => ?_) (fun c532 => ?_)
            · replace H := Gets.ct H c532
              refine WP.seq ?_
              refine WP.gh (l' := fun z533 : List OV => [mp Value.string (fun p : OV => eq p.1) g495.2.1 (zipK a0.fnodes z533), thg DNode.O a0.fnodes z533, blk b493 46 [eq p0_.1], blk g495.1 67 [eq (.string a0.froom), eq g495.2.1], blk b494 42 [eq (.string a1.fID), eq (.string a1.fRoom), sl strK a1.fParents, eq (.string a1.fThread), eq (.string a1.fUser), eq (.int .i64 a1.fDoes)]] ++ F) (gh_of (mpo_opn 2 rfl)) (fun z533 h534 => ?_)
              refine WP.dreg Try.checked.mixed [(0, false), (1, false), (2, false), (3, false), (4, false), (5, false), (6, false), (7, false)] (by kernel_rfl) ?_
              refine Dv.ldb rfl trivial rfl Try.underlying46 rfl (mem_at 2 rfl) rfl ?_
              refine Dv.nilpp h496 rfl trivial rfl ?_
              refine Dv.fabp h496 rfl trivial rfl Try.underlying67 rfl Try.underlying65 c65 (by decide) ?_
              refine Dv.ldb rfl trivial rfl Try.underlying65 rfl (mem_at 3 rfl) rfl ?_
              refine Dv.fab rfl trivial rfl Try.underlying42 rfl Try.underlying9 c9 (by decide) ?_
              refine Dv.ldb rfl trivial rfl Try.underlying9 rfl (mem_at 4 rfl) rfl ?_
              refine Dv.mlv nilP rfl trivial rfl (mem_at 0 rfl) rfl Try.underlying65 (keyOk_str Try.underlying9) z64 (fun _ => rfl) ?_
              refine Dv.asg rfl trivial rfl ?_
              refine .fin ?_
              refine WP.seq ?_
              refine WP.seq ?_
              refine WP.reg [(0, false), (1, false)] (by kernel_rfl) ?_
              refine Dv.mv rfl trivial rfl ?_
              refine Dv.pm0 (pm_nil h534 rfl) rfl trivial rfl rfl Try.underlying64 ?_
              refine .fin ?_
              refine WP.cond rfl (fun c535 => ?_) (fun c535 => ?_)
              · replace H := Gets.ct H c535
                refine WP.seq ?_
                refine WP.reg [(0, false)] (by kernel_rfl) ?_
                refine Dv.asg rfl trivial rfl ?_
                refine .fin ?_
                refine WP.gh (l' := fun _ : Unit => [mpo Value.string DNode.O g495.2.1 a0.fnodes, blk b493 46 [eq p0_.1], blk g495.1 67 [eq (.string a0.froom), eq g495.2.1], blk b494 42 [eq (.string a1.fID), eq (.string a1.fRoom), sl strK a1.fParents, eq (.string a1.fThread), eq (.string a1.fUser), eq (.int .i64 a1.fDoes)]] ++ F) (gh_of (mpo_shut h534 rfl (perm_to (L := [mp Value.string (fun p : OV => eq p.1) g495.2.1 (zipK a0.fnodes z533), thg DNode.O a0.fnodes z533, blk b493 46 [eq p0_.1], blk g495.1 67 [eq (.string a0.froom), eq g495.2.1], blk b494 42 [eq (.string a1.fID), eq (.string a1.fRoom), sl strK a1.fParents, eq (.string a1.fThread), eq (.string a1.fUser), eq (.int .i64 a1.fDoes)]]) (F := F) [0, 1, 2, 3, 4] (by kernel_rfl) rfl rfl))) (fun _ _ => ?_)
                refine WP.gh (l' := fun _ : Unit => [DDag.O p0_ a0, blk b493 46 [eq p0_.1], blk b494 42 [eq (.string a1.fID), eq (.string a1.fRoom), sl strK a1.fParents, eq (.string a1.fThread), eq (.string a1.fUser), eq (.int .i64 a1.fDoes)]] ++ F) (gh_of (DDag.shut (p := p0_) (m := a0) (r := [blk b493 46 [eq p0_.1], blk b494 42 [eq (.string a1.fID), eq (.string a1.fRoom), sl strK a1.fParents, eq (.string a1.fThread), eq (.string a1.fUser), eq (.int .i64 a1.fDoes)]] ++ F) (g495.1, g495.2) h496 (perm_to (L := [mpo Value.string DNode.O g495.2.1 a0.fnodes, blk b493 46 [eq p0_.1], blk g495.1 67 [eq (.string a0.froom), eq g495.2.1], blk b494 42 [eq (.string a1.fID), eq (.string a1.fRoom), sl strK a1.fParents, eq (.string a1.fThread), eq (.string a1.fUser), eq (.int .i64 a1.fDoes)]]) (F := F) [2, 0, 1, 3] rfl rfl rfl))) (fun _ _ => ?_)
                replace H := Gets.outr H
                obtain rfl := Gets.out H
                exact WP.retL (fun _ _ h => h) rfl () trivial (.cons (res_tmp rfl) .nil) rfl (st_sel (L := [DDag.O p0_ a0, blk b493 46 [eq p0_.1], blk b494 42 [eq (.string a1.fID), eq (.string a1.fRoom), sl strK a1.fParents, eq (.string a1.fThread), eq (.string a1.fUser), eq (.int .i64 a1.fDoes)]]) (F := F) [1, 2, 0] 2 rfl rfl rfl)
              · replace H := Gets.cf H c535
                refine WP.skip ?_
                refine WP.seq ?_
                refine WP.reg [(0, false), (1, false), (2, false), (3, false), (4, false), (5, false), (6, false), (7, false), (8, false), (9, false), (10, false), (11, false), (12, false), (13, false)] (by kernel_rfl) ?_
                refine Dv.mv rfl trivial rfl ?_
                obtain ⟨g536, H⟩ := Gets.grd H
                refine Dv.gh (l' := fun _ : Unit => [DNode.O ((mget (zipK a0.fnodes z533) a1.fThread).getD nilP) ((mget a0.fnodes a1.fThread).getD default), thgB DNode.O a0.fnodes z533 a1.fThread, mp Value.string (fun p : OV => eq p.1) g495.2.1 (zipK a0.fnodes z533), blk b493 46 [eq p0_.1], blk g495.1 67 [eq (.string a0.froom), eq g495.2.1], blk b494 42 [eq (.string a1.fID), eq (.string a1.fRoom), sl strK a1.fParents, eq (.string a1.fThread), eq (.string a1.fUser), eq (.int .i64 a1.fDoes)]] ++ F) (gh_of (mpo_foc h534 rfl g536 (perm_to (L := [mp Value.string (fun p : OV => eq p.1) g495.2.1 (zipK a0.fnodes z533), thg DNode.O a0.fnodes z533, blk b493 46 [eq p0_.1], blk g495.1 67 [eq (.string a0.froom), eq g495.2.1], blk b494 42 [eq (.string a1.fID), eq (.string a1.fRoom), sl strK a1.fParents, eq (.string a1.fThread), eq (.string a1.fUser), eq (.int .i64 a1.fDoes)]]) (F := F) [1, 0, 2, 3, 4] (by kernel_rfl) rfl rfl))) (fun _ _ => ?_)
                refine Dv.nilA DNode.nn rfl trivial rfl (mem_at 0 rfl) ?_
                refine Dv.gh (l' := fun (g537 : Nat) => [blk g537 63 [eq (.string ((((mget a0.fnodes a1.fThread).getD default).fe).fID)), eq (.string ((((mget a0.fnodes a1.fThread).getD default).fe).fRoom)), sl strK ((((mget a0.fnodes a1.fThread).getD default).fe).fParents), eq (.string ((((mget a0.fnodes a1.fThread).getD default).fe).fThread)), eq (.string ((((mget a0.fnodes a1.fThread).getD default).fe).fUser)), eq (.int .i64 ((((mget a0.fnodes a1.fThread).getD default).fe).fDoes)), eq (.int .i64 (((mget a0.fnodes a1.fThread).getD default).fdepth)), eq (.bool (((mget a0.fnodes a1.fThread).getD default).fparent))], thgB DNode.O a0.fnodes z533 a1.fThread, mp Value.string (fun p : OV => eq p.1) g495.2.1 (zipK a0.fnodes z533), blk b493 46 [eq p0_.1], blk g495.1 67 [eq (.string a0.froom), eq g495.2.1], blk b494 42 [eq (.string a1.fID), eq (.string a1.fRoom), sl strK a1.fParents, eq (.string a1.fThread), eq (.string a1.fUser), eq (.int .i64 a1.fDoes)]] ++ F) (gh_of (DNode.opn 0 rfl)) (fun g537 h538 => ?_)
                refine Dv.fabp h538 rfl trivial rfl Try.underlying63 rfl Try.underlying42 c42 (by decide) ?_
                refine Dv.fab rfl trivial rfl Try.underlying42 rfl Try.underlying9 c9 (by decide) ?_
                refine Dv.ldb rfl trivial rfl Try.underlying9 rfl (mem_at 0 rfl) rfl ?_
                refine Dv.bin rfl trivial rfl rfl (fun _ => run_sne) ?_
                refine Dv.mv rfl trivial rfl ?_
                cases c539 : !decide (((((mget a0.fnodes a1.fThread).getD default).fe).fThread) = (⟨#[]⟩ : ByteArray))
                · replace H := Gets.cf H c539
                  refine Dv.mv rfl ⟨_, _, rfl, rfl, rfl⟩ rfl ?_
                  refine Dv.nilpp h538 rfl ⟨_, _, rfl, rfl, rfl⟩ rfl ?_
                  refine Dv.fabp h538 rfl ⟨_, _, rfl, rfl, rfl⟩ rfl Try.underlying63 rfl Try.underlying42 c42 (by decide) ?_
                  refine Dv.fab rfl ⟨_, _, rfl, rfl, rfl⟩ rfl Try.underlying42 rfl Try.underlying3 c3 (by decide) ?_
                  refine Dv.ldb rfl ⟨_, _, rfl, rfl, rfl⟩ rfl Try.underlying3 rfl (mem_at 0 rfl) rfl ?_
                  refine Dv.bin rfl ⟨_, _, rfl, rfl, rfl⟩ rfl rfl (fun _ => run_ne) ?_
                  refine Dv.pickF rfl trivial rfl rfl ?_
                  refine .fin ?_
                  refine WP.cond rfl (fun c541 => ?_) (fun c541 => ?_)
                  · replace H := Gets.ct H c541
                    refine WP.seq ?_
                    refine WP.reg [(0, false)] (by kernel_rfl) ?_
                    refine Dv.asg rfl trivial rfl ?_
                    refine .fin ?_
                    refine WP.gh (l' := fun _ : Unit => [DNode.O ((mget (zipK a0.fnodes z533) a1.fThread).getD nilP) ((mget a0.fnodes a1.fThread).getD default), thgB DNode.O a0.fnodes z533 a1.fThread, mp Value.string (fun p : OV => eq p.1) g495.2.1 (zipK a0.fnodes z533), blk b493 46 [eq p0_.1], blk g495.1 67 [eq (.string a0.froom), eq g495.2.1], blk b494 42 [eq (.string a1.fID), eq (.string a1.fRoom), sl strK a1.fParents, eq (.string a1.fThread), eq (.string a1.fUser), eq (.int .i64 a1.fDoes)]] ++ F) (gh_of (DNode.shut (p := ((mget (zipK a0.fnodes z533) a1.fThread).getD nilP)) (m := (mget a0.fnodes a1.fThread).getD default) (r := [thgB DNode.O a0.fnodes z533 a1.fThread, mp Value.string (fun p : OV => eq p.1) g495.2.1 (zipK a0.fnodes z533), blk b493 46 [eq p0_.1], blk g495.1 67 [eq (.string a0.froom), eq g495.2.1], blk b494 42 [eq (.string a1.fID), eq (.string a1.fRoom), sl strK a1.fParents, eq (.string a1.fThread), eq (.string a1.fUser), eq (.int .i64 a1.fDoes)]] ++ F) g537 h538 (perm_to (L := [blk g537 63 [eq (.string ((((mget a0.fnodes a1.fThread).getD default).fe).fID)), eq (.string ((((mget a0.fnodes a1.fThread).getD default).fe).fRoom)), sl strK ((((mget a0.fnodes a1.fThread).getD default).fe).fParents), eq (.string ((((mget a0.fnodes a1.fThread).getD default).fe).fThread)), eq (.string ((((mget a0.fnodes a1.fThread).getD default).fe).fUser)), eq (.int .i64 ((((mget a0.fnodes a1.fThread).getD default).fe).fDoes)), eq (.int .i64 (((mget a0.fnodes a1.fThread).getD default).fdepth)), eq (.bool (((mget a0.fnodes a1.fThread).getD default).fparent))], thgB DNode.O a0.fnodes z533 a1.fThread, mp Value.string (fun p : OV => eq p.1) g495.2.1 (zipK a0.fnodes z533), blk b493 46 [eq p0_.1], blk g495.1 67 [eq (.string a0.froom), eq g495.2.1], blk b494 42 [eq (.string a1.fID), eq (.string a1.fRoom), sl strK a1.fParents, eq (.string a1.fThread), eq (.string a1.fUser), eq (.int .i64 a1.fDoes)]]) (F := F) [0, 1, 2, 3, 4, 5] (by kernel_rfl) rfl rfl))) (fun _ _ => ?_)
                    refine WP.gh (l' := fun _ : Unit => [thg DNode.O a0.fnodes z533, mp Value.string (fun p : OV => eq p.1) g495.2.1 (zipK a0.fnodes z533), blk b493 46 [eq p0_.1], blk g495.1 67 [eq (.string a0.froom), eq g495.2.1], blk b494 42 [eq (.string a1.fID), eq (.string a1.fRoom), sl strK a1.fParents, eq (.string a1.fThread), eq (.string a1.fUser), eq (.int .i64 a1.fDoes)]] ++ F) (gh_of (mpo_unf0 h534 rfl g536 (perm_to (L := [DNode.O ((mget (zipK a0.fnodes z533) a1.fThread).getD nilP) ((mget a0.fnodes a1.fThread).getD default), thgB DNode.O a0.fnodes z533 a1.fThread, mp Value.string (fun p : OV => eq p.1) g495.2.1 (zipK a0.fnodes z533), blk b493 46 [eq p0_.1], blk g495.1 67 [eq (.string a0.froom), eq g495.2.1], blk b494 42 [eq (.string a1.fID), eq (.string a1.fRoom), sl strK a1.fParents, eq (.string a1.fThread), eq (.string a1.fUser), eq (.int .i64 a1.fDoes)]]) (F := F) [0, 1, 2, 3, 4, 5] (by kernel_rfl) rfl rfl))) (fun _ _ => ?_)
                    refine WP.gh (l' := fun _ : Unit => [mpo Value.string DNode.O g495.2.1 a0.fnodes, blk b493 46 [eq p0_.1], blk g495.1 67 [eq (.string a0.froom), eq g495.2.1], blk b494 42 [eq (.string a1.fID), eq (.string a1.fRoom), sl strK a1.fParents, eq (.string a1.fThread), eq (.string a1.fUser), eq (.int .i64 a1.fDoes)]] ++ F) (gh_of (mpo_shut h534 rfl (perm_to (L := [thg DNode.O a0.fnodes z533, mp Value.string (fun p : OV => eq p.1) g495.2.1 (zipK a0.fnodes z533), blk b493 46 [eq p0_.1], blk g495.1 67 [eq (.string a0.froom), eq g495.2.1], blk b494 42 [eq (.string a1.fID), eq (.string a1.fRoom), sl strK a1.fParents, eq (.string a1.fThread), eq (.string a1.fUser), eq (.int .i64 a1.fDoes)]]) (F := F) [1, 0, 2, 3, 4] (by kernel_rfl) rfl rfl))) (fun _ _ => ?_)
                    refine WP.gh (l' := fun _ : Unit => [DDag.O p0_ a0, blk b493 46 [eq p0_.1], blk b494 42 [eq (.string a1.fID), eq (.string a1.fRoom), sl strK a1.fParents, eq (.string a1.fThread), eq (.string a1.fUser), eq (.int .i64 a1.fDoes)]] ++ F) (gh_of (DDag.shut (p := p0_) (m := a0) (r := [blk b493 46 [eq p0_.1], blk b494 42 [eq (.string a1.fID), eq (.string a1.fRoom), sl strK a1.fParents, eq (.string a1.fThread), eq (.string a1.fUser), eq (.int .i64 a1.fDoes)]] ++ F) (g495.1, g495.2) h496 (perm_to (L := [mpo Value.string DNode.O g495.2.1 a0.fnodes, blk b493 46 [eq p0_.1], blk g495.1 67 [eq (.string a0.froom), eq g495.2.1], blk b494 42 [eq (.string a1.fID), eq (.string a1.fRoom), sl strK a1.fParents, eq (.string a1.fThread), eq (.string a1.fUser), eq (.int .i64 a1.fDoes)]]) (F := F) [2, 0, 1, 3] rfl rfl rfl))) (fun _ _ => ?_)
                    replace H := Gets.outr H
                    obtain rfl := Gets.out H
                    exact WP.retL (fun _ _ h => h) rfl () trivial (.cons (res_tmp rfl) .nil) rfl (st_sel (L := [DDag.O p0_ a0, blk b493 46 [eq p0_.1], blk b494 42 [eq (.string a1.fID), eq (.string a1.fRoom), sl strK a1.fParents, eq (.string a1.fThread), eq (.string a1.fUser), eq (.int .i64 a1.fDoes)]]) (F := F) [1, 2, 0] 2 rfl rfl rfl)
                  · replace H := Gets.cf H c541
                    refine WP.skip ?_
                    replace H := Gets.out H
                    refine Dn.gh (l' := fun _ : Unit => [DNode.O ((mget (zipK a0.fnodes z533) a1.fThread).getD nilP) ((mget a0.fnodes a1.fThread).getD default), thgB DNode.O a0.fnodes z533 a1.fThread, mp Value.string (fun p : OV => eq p.1) g495.2.1 (zipK a0.fnodes z533), blk b493 46 [eq p0_.1], blk g495.1 67 [eq (.string a0.froom), eq g495.2.1], blk b494 42 [eq (.string a1.fID), eq (.string a1.fRoom), sl strK a1.fParents, eq (.string a1.fThread), eq (.string a1.fUser), eq (.int .i64 a1.fDoes)]] ++ F) (gh_of (DNode.shut (p := ((mget (zipK a0.fnodes z533) a1.fThread).getD nilP)) (m := (mget a0.fnodes a1.fThread).getD default) (r := [thgB DNode.O a0.fnodes z533 a1.fThread, mp Value.string (fun p : OV => eq p.1) g495.2.1 (zipK a0.fnodes z533), blk b493 46 [eq p0_.1], blk g495.1 67 [eq (.string a0.froom), eq g495.2.1], blk b494 42 [eq (.string a1.fID), eq (.string a1.fRoom), sl strK a1.fParents, eq (.string a1.fThread), eq (.string a1.fUser), eq (.int .i64 a1.fDoes)]] ++ F) g537 h538 (perm_to (L := [blk g537 63 [eq (.string ((((mget a0.fnodes a1.fThread).getD default).fe).fID)), eq (.string ((((mget a0.fnodes a1.fThread).getD default).fe).fRoom)), sl strK ((((mget a0.fnodes a1.fThread).getD default).fe).fParents), eq (.string ((((mget a0.fnodes a1.fThread).getD default).fe).fThread)), eq (.string ((((mget a0.fnodes a1.fThread).getD default).fe).fUser)), eq (.int .i64 ((((mget a0.fnodes a1.fThread).getD default).fe).fDoes)), eq (.int .i64 (((mget a0.fnodes a1.fThread).getD default).fdepth)), eq (.bool (((mget a0.fnodes a1.fThread).getD default).fparent))], thgB DNode.O a0.fnodes z533 a1.fThread, mp Value.string (fun p : OV => eq p.1) g495.2.1 (zipK a0.fnodes z533), blk b493 46 [eq p0_.1], blk g495.1 67 [eq (.string a0.froom), eq g495.2.1], blk b494 42 [eq (.string a1.fID), eq (.string a1.fRoom), sl strK a1.fParents, eq (.string a1.fThread), eq (.string a1.fUser), eq (.int .i64 a1.fDoes)]]) (F := F) [0, 1, 2, 3, 4, 5] (by kernel_rfl) rfl rfl))) (fun _ _ => ?_)
                    refine Dn.gh (l' := fun _ : Unit => [thg DNode.O a0.fnodes z533, mp Value.string (fun p : OV => eq p.1) g495.2.1 (zipK a0.fnodes z533), blk b493 46 [eq p0_.1], blk g495.1 67 [eq (.string a0.froom), eq g495.2.1], blk b494 42 [eq (.string a1.fID), eq (.string a1.fRoom), sl strK a1.fParents, eq (.string a1.fThread), eq (.string a1.fUser), eq (.int .i64 a1.fDoes)]] ++ F) (gh_of (mpo_unf0 h534 rfl g536 (perm_to (L := [DNode.O ((mget (zipK a0.fnodes z533) a1.fThread).getD nilP) ((mget a0.fnodes a1.fThread).getD default), thgB DNode.O a0.fnodes z533 a1.fThread, mp Value.string (fun p : OV => eq p.1) g495.2.1 (zipK a0.fnodes z533), blk b493 46 [eq p0_.1], blk g495.1 67 [eq (.string a0.froom), eq g495.2.1], blk b494 42 [eq (.string a1.fID), eq (.string a1.fRoom), sl strK a1.fParents, eq (.string a1.fThread), eq (.string a1.fUser), eq (.int .i64 a1.fDoes)]]) (F := F) [0, 1, 2, 3, 4, 5] (by kernel_rfl) rfl rfl))) (fun _ _ => ?_)
                    refine Dn.gh (l' := fun _ : Unit => [mpo Value.string DNode.O g495.2.1 a0.fnodes, blk b493 46 [eq p0_.1], blk g495.1 67 [eq (.string a0.froom), eq g495.2.1], blk b494 42 [eq (.string a1.fID), eq (.string a1.fRoom), sl strK a1.fParents, eq (.string a1.fThread), eq (.string a1.fUser), eq (.int .i64 a1.fDoes)]] ++ F) (gh_of (mpo_shut h534 rfl (perm_to (L := [thg DNode.O a0.fnodes z533, mp Value.string (fun p : OV => eq p.1) g495.2.1 (zipK a0.fnodes z533), blk b493 46 [eq p0_.1], blk g495.1 67 [eq (.string a0.froom), eq g495.2.1], blk b494 42 [eq (.string a1.fID), eq (.string a1.fRoom), sl strK a1.fParents, eq (.string a1.fThread), eq (.string a1.fUser), eq (.int .i64 a1.fDoes)]]) (F := F) [1, 0, 2, 3, 4] (by kernel_rfl) rfl rfl))) (fun _ _ => ?_)
                    refine Dn.gh (l' := fun _ : Unit => [DDag.O p0_ a0, blk b493 46 [eq p0_.1], blk b494 42 [eq (.string a1.fID), eq (.string a1.fRoom), sl strK a1.fParents, eq (.string a1.fThread), eq (.string a1.fUser), eq (.int .i64 a1.fDoes)]] ++ F) (gh_of (DDag.shut (p := p0_) (m := a0) (r := [blk b493 46 [eq p0_.1], blk b494 42 [eq (.string a1.fID), eq (.string a1.fRoom), sl strK a1.fParents, eq (.string a1.fThread), eq (.string a1.fUser), eq (.int .i64 a1.fDoes)]] ++ F) (g495.1, g495.2) h496 (perm_to (L := [mpo Value.string DNode.O g495.2.1 a0.fnodes, blk b493 46 [eq p0_.1], blk g495.1 67 [eq (.string a0.froom), eq g495.2.1], blk b494 42 [eq (.string a1.fID), eq (.string a1.fRoom), sl strK a1.fParents, eq (.string a1.fThread), eq (.string a1.fUser), eq (.int .i64 a1.fDoes)]]) (F := F) [2, 0, 1, 3] rfl rfl rfl))) (fun _ _ => ?_)
                    refine Dn.gh (l' := fun _ : Unit => [blk b493 46 [eq p0_.1], blk b494 42 [eq (.string a1.fID), eq (.string a1.fRoom), sl strK a1.fParents, eq (.string a1.fThread), eq (.string a1.fUser), eq (.int .i64 a1.fDoes)], DDag.O p0_ a0] ++ F) (gh_of (st_selg (L := [DDag.O p0_ a0, blk b493 46 [eq p0_.1], blk b494 42 [eq (.string a1.fID), eq (.string a1.fRoom), sl strK a1.fParents, eq (.string a1.fThread), eq (.string a1.fUser), eq (.int .i64 a1.fDoes)]]) (F := F) [1, 2, 0] 0 rfl rfl rfl)) (fun _ _ => ?_)
                    exact Jn.mk () H (weak_cons rfl (weak_cons rfl (weak_cons rfl (weak_cons rfl (weak_cons rfl (weak_cons rfl (weak_cons rfl (weak_cons rfl (weak_cons rfl weak_nil))))))))) (List.Perm.refl _)
                · replace H := Gets.ct H c539
                  refine Dv.skip rfl ⟨_, _, rfl, rfl, .inl rfl⟩ ?_
                  refine Dv.skip rfl ⟨_, _, rfl, rfl, .inl rfl⟩ ?_
                  refine Dv.skip rfl ⟨_, _, rfl, rfl, .inl rfl⟩ ?_
                  refine Dv.skip rfl ⟨_, _, rfl, rfl, .inl rfl⟩ ?_
                  refine Dv.skip rfl ⟨_, _, rfl, rfl, .inl rfl⟩ ?_
                  refine Dv.skip rfl ⟨_, _, rfl, rfl, .inl rfl⟩ ?_
                  refine Dv.pickT rfl trivial rfl rfl ?_
                  refine .fin ?_
                  refine WP.cond rfl (fun _ => ?_) nofun
                  refine WP.seq ?_
                  refine WP.reg [(0, false)] (by kernel_rfl) ?_
                  refine Dv.asg rfl trivial rfl ?_
                  refine .fin ?_
                  refine WP.gh (l' := fun _ : Unit => [DNode.O ((mget (zipK a0.fnodes z533) a1.fThread).getD nilP) ((mget a0.fnodes a1.fThread).getD default), thgB DNode.O a0.fnodes z533 a1.fThread, mp Value.string (fun p : OV => eq p.1) g495.2.1 (zipK a0.fnodes z533), blk b493 46 [eq p0_.1], blk g495.1 67 [eq (.string a0.froom), eq g495.2.1], blk b494 42 [eq (.string a1.fID), eq (.string a1.fRoom), sl strK a1.fParents, eq (.string a1.fThread), eq (.string a1.fUser), eq (.int .i64 a1.fDoes)]] ++ F) (gh_of (DNode.shut (p := ((mget (zipK a0.fnodes z533) a1.fThread).getD nilP)) (m := (mget a0.fnodes a1.fThread).getD default) (r := [thgB DNode.O a0.fnodes z533 a1.fThread, mp Value.string (fun p : OV => eq p.1) g495.2.1 (zipK a0.fnodes z533), blk b493 46 [eq p0_.1], blk g495.1 67 [eq (.string a0.froom), eq g495.2.1], blk b494 42 [eq (.string a1.fID), eq (.string a1.fRoom), sl strK a1.fParents, eq (.string a1.fThread), eq (.string a1.fUser), eq (.int .i64 a1.fDoes)]] ++ F) g537 h538 (perm_to (L := [blk g537 63 [eq (.string ((((mget a0.fnodes a1.fThread).getD default).fe).fID)), eq (.string ((((mget a0.fnodes a1.fThread).getD default).fe).fRoom)), sl strK ((((mget a0.fnodes a1.fThread).getD default).fe).fParents), eq (.string ((((mget a0.fnodes a1.fThread).getD default).fe).fThread)), eq (.string ((((mget a0.fnodes a1.fThread).getD default).fe).fUser)), eq (.int .i64 ((((mget a0.fnodes a1.fThread).getD default).fe).fDoes)), eq (.int .i64 (((mget a0.fnodes a1.fThread).getD default).fdepth)), eq (.bool (((mget a0.fnodes a1.fThread).getD default).fparent))], thgB DNode.O a0.fnodes z533 a1.fThread, mp Value.string (fun p : OV => eq p.1) g495.2.1 (zipK a0.fnodes z533), blk b493 46 [eq p0_.1], blk g495.1 67 [eq (.string a0.froom), eq g495.2.1], blk b494 42 [eq (.string a1.fID), eq (.string a1.fRoom), sl strK a1.fParents, eq (.string a1.fThread), eq (.string a1.fUser), eq (.int .i64 a1.fDoes)]]) (F := F) [0, 1, 2, 3, 4, 5] (by kernel_rfl) rfl rfl))) (fun _ _ => ?_)
                  refine WP.gh (l' := fun _ : Unit => [thg DNode.O a0.fnodes z533, mp Value.string (fun p : OV => eq p.1) g495.2.1 (zipK a0.fnodes z533), blk b493 46 [eq p0_.1], blk g495.1 67 [eq (.string a0.froom), eq g495.2.1], blk b494 42 [eq (.string a1.fID), eq (.string a1.fRoom), sl strK a1.fParents, eq (.string a1.fThread), eq (.string a1.fUser), eq (.int .i64 a1.fDoes)]] ++ F) (gh_of (mpo_unf0 h534 rfl g536 (perm_to (L := [DNode.O ((mget (zipK a0.fnodes z533) a1.fThread).getD nilP) ((mget a0.fnodes a1.fThread).getD default), thgB DNode.O a0.fnodes z533 a1.fThread, mp Value.string (fun p : OV => eq p.1) g495.2.1 (zipK a0.fnodes z533), blk b493 46 [eq p0_.1], blk g495.1 67 [eq (.string a0.froom), eq g495.2.1], blk b494 42 [eq (.string a1.fID), eq (.string a1.fRoom), sl strK a1.fParents, eq (.string a1.fThread), eq (.string a1.fUser), eq (.int .i64 a1.fDoes)]]) (F := F) [0, 1, 2, 3, 4, 5] (by kernel_rfl) rfl rfl))) (fun _ _ => ?_)
                  refine WP.gh (l' := fun _ : Unit => [mpo Value.string DNode.O g495.2.1 a0.fnodes, blk b493 46 [eq p0_.1], blk g495.1 67 [eq (.string a0.froom), eq g495.2.1], blk b494 42 [eq (.string a1.fID), eq (.string a1.fRoom), sl strK a1.fParents, eq (.string a1.fThread), eq (.string a1.fUser), eq (.int .i64 a1.fDoes)]] ++ F) (gh_of (mpo_shut h534 rfl (perm_to (L := [thg DNode.O a0.fnodes z533, mp Value.string (fun p : OV => eq p.1) g495.2.1 (zipK a0.fnodes z533), blk b493 46 [eq p0_.1], blk g495.1 67 [eq (.string a0.froom), eq g495.2.1], blk b494 42 [eq (.string a1.fID), eq (.string a1.fRoom), sl strK a1.fParents, eq (.string a1.fThread), eq (.string a1.fUser), eq (.int .i64 a1.fDoes)]]) (F := F) [1, 0, 2, 3, 4] (by kernel_rfl) rfl rfl))) (fun _ _ => ?_)
                  refine WP.gh (l' := fun _ : Unit => [DDag.O p0_ a0, blk b493 46 [eq p0_.1], blk b494 42 [eq (.string a1.fID), eq (.string a1.fRoom), sl strK a1.fParents, eq (.string a1.fThread), eq (.string a1.fUser), eq (.int .i64 a1.fDoes)]] ++ F) (gh_of (DDag.shut (p := p0_) (m := a0) (r := [blk b493 46 [eq p0_.1], blk b494 42 [eq (.string a1.fID), eq (.string a1.fRoom), sl strK a1.fParents, eq (.string a1.fThread), eq (.string a1.fUser), eq (.int .i64 a1.fDoes)]] ++ F) (g495.1, g495.2) h496 (perm_to (L := [mpo Value.string DNode.O g495.2.1 a0.fnodes, blk b493 46 [eq p0_.1], blk g495.1 67 [eq (.string a0.froom), eq g495.2.1], blk b494 42 [eq (.string a1.fID), eq (.string a1.fRoom), sl strK a1.fParents, eq (.string a1.fThread), eq (.string a1.fUser), eq (.int .i64 a1.fDoes)]]) (F := F) [2, 0, 1, 3] rfl rfl rfl))) (fun _ _ => ?_)
                  replace H := Gets.outr H
                  obtain rfl := Gets.out H
                  exact WP.retL (fun _ _ h => h) rfl () trivial (.cons (res_tmp rfl) .nil) rfl (st_sel (L := [DDag.O p0_ a0, blk b493 46 [eq p0_.1], blk b494 42 [eq (.string a1.fID), eq (.string a1.fRoom), sl strK a1.fParents, eq (.string a1.fThread), eq (.string a1.fUser), eq (.int .i64 a1.fDoes)]]) (F := F) [1, 2, 0] 2 rfl rfl rfl)
            · replace H := Gets.cf H c532
              refine WP.skip ?_
              replace H := Gets.out H
              refine Dn.gh (l' := fun _ : Unit => [DDag.O p0_ a0, blk b493 46 [eq p0_.1], blk b494 42 [eq (.string a1.fID), eq (.string a1.fRoom), sl strK a1.fParents, eq (.string a1.fThread), eq (.string a1.fUser), eq (.int .i64 a1.fDoes)]] ++ F) (gh_of (DDag.shut (p := p0_) (m := a0) (r := [blk b493 46 [eq p0_.1], blk b494 42 [eq (.string a1.fID), eq (.string a1.fRoom), sl strK a1.fParents, eq (.string a1.fThread), eq (.string a1.fUser), eq (.int .i64 a1.fDoes)]] ++ F) (g495.1, g495.2) h496 (perm_to (L := [blk b493 46 [eq p0_.1], blk g495.1 67 [eq (.string a0.froom), eq g495.2.1], mpo Value.string DNode.O g495.2.1 a0.fnodes, blk b494 42 [eq (.string a1.fID), eq (.string a1.fRoom), sl strK a1.fParents, eq (.string a1.fThread), eq (.string a1.fUser), eq (.int .i64 a1.fDoes)]]) (F := F) [1, 2, 0, 3] rfl rfl rfl))) (fun _ _ => ?_)
              refine Dn.gh (l' := fun _ : Unit => [blk b493 46 [eq p0_.1], blk b494 42 [eq (.string a1.fID), eq (.string a1.fRoom), sl strK a1.fParents, eq (.string a1.fThread), eq (.string a1.fUser), eq (.int .i64 a1.fDoes)], DDag.O p0_ a0] ++ F) (gh_of (st_selg (L := [DDag.O p0_ a0, blk b493 46 [eq p0_.1], blk b494 42 [eq (.string a1.fID), eq (.string a1.fRoom), sl strK a1.fParents, eq (.string a1.fThread), eq (.string a1.fUser), eq (.int .i64 a1.fDoes)]]) (F := F) [1, 2, 0] 0 rfl rfl rfl)) (fun _ _ => ?_)
              exact Jn.mk () H (weak_cons rfl (weak_cons rfl (weak_cons rfl (weak_cons rfl (weak_cons rfl (weak_cons rfl (weak_cons rfl (weak_cons rfl (weak_cons rfl weak_nil))))))))) (List.Perm.refl _)
  · replace H := Gets.ct H c499
    refine Dv.skip rfl ⟨_, _, rfl, rfl, .inl rfl⟩ ?_
    refine Dv.skip rfl ⟨_, _, rfl, rfl, .inl rfl⟩ ?_
    refine Dv.skip rfl ⟨_, _, rfl, rfl, .inl rfl⟩ ?_
    refine Dv.skip rfl ⟨_, _, rfl, rfl, .inl rfl⟩ ?_
    refine Dv.skip rfl ⟨_, _, rfl, rfl, .inl rfl⟩ ?_
    refine Dv.skip rfl ⟨_, _, rfl, rfl, .inl rfl⟩ ?_
    refine Dv.skip rfl ⟨_, _, rfl, rfl, .inl rfl⟩ ?_
    refine Dv.pickT rfl trivial rfl rfl ?_
    refine Dv.asg rfl trivial rfl ?_
    refine .fin ?_
    refine WP.cond rfl (fun _ => ?_) nofun
    refine WP.seq ?_
    refine WP.reg [(0, false)] (by kernel_rfl) ?_
    refine Dv.asg rfl trivial rfl ?_
    refine .fin ?_
    refine WP.gh (l' := fun _ : Unit => [DDag.O p0_ a0, blk b494 42 [eq (.string a1.fID), eq (.string a1.fRoom), sl strK a1.fParents, eq (.string a1.fThread), eq (.string a1.fUser), eq (.int .i64 a1.fDoes)], blk b493 46 [eq p0_.1]] ++ F) (gh_of (DDag.shut (p := p0_) (m := a0) (r := [blk b494 42 [eq (.string a1.fID), eq (.string a1.fRoom), sl strK a1.fParents, eq (.string a1.fThread), eq (.string a1.fUser), eq (.int .i64 a1.fDoes)], blk b493 46 [eq p0_.1]] ++ F) (g495.1, g495.2) h496 (perm_to (L := [blk g495.1 67 [eq (.string a0.froom), eq g495.2.1], mpo Value.string DNode.O g495.2.1 a0.fnodes, blk b494 42 [eq (.string a1.fID), eq (.string a1.fRoom), sl strK a1.fParents, eq (.string a1.fThread), eq (.string a1.fUser), eq (.int .i64 a1.fDoes)], blk b493 46 [eq p0_.1]]) (F := F) [0, 1, 2, 3] rfl rfl rfl))) (fun _ _ => ?_)
    obtain rfl := Gets.out H
    exact WP.retL (fun _ _ h => h) rfl () trivial (.cons (res_tmp rfl) .nil) rfl (st_sel (L := [DDag.O p0_ a0, blk b494 42 [eq (.string a1.fID), eq (.string a1.fRoom), sl strK a1.fParents, eq (.string a1.fThread), eq (.string a1.fUser), eq (.int .i64 a1.fDoes)], blk b493 46 [eq p0_.1]]) (F := F) [1, 2, 0] 2 rfl rfl rfl)
theorem view_View_Add.c {k : Nat} {a0 : VView} {a1 : Event} {p0_ : OV} {r : Int × VView} (h : view_View_Add.f k a0 a1 = some r) : Tr Try.prog 14 [eq p0_.1, agg (Event.enc a1)] [VView.O p0_ a0] (γ := Unit) (fun _ => True) (fun g => eq (.int .i64 r.1)) (fun g => [VView.O p0_ r.2]) := by
  unfold view_View_Add.f at h
  refine Tr.body Try.func14 (c := _) rfl Try.ntmps14 (Nat.le_of_ble_eq_true rfl) fun R0 F => ?_
  replace h := Gets.of h
  have H := h
  clear h
  refine WP.seq ?_
  refine WP.reg [(0, true), (1, false)] (by kernel_rfl) ?_
  refine Dv.box rfl trivial rfl (cells_agg (Event.K.one _)) nofun (fun b542 => ?_)
  refine Dv.asg rfl trivial rfl ?_
  refine .fin ?_
  refine WP.seq ?_
  refine WP.reg [(0, false), (1, false), (2, false), (3, true), (4, false)] (by kernel_rfl) ?_
  refine Dv.mv rfl trivial rfl ?_
  refine Dv.fab rfl trivial rfl Try.underlying42 rfl Try.underlying9 c9 (by decide) ?_
  refine Dv.ldb rfl trivial rfl Try.underlying9 rfl (mem_at 0 rfl) rfl ?_
  refine Dv.gh (l' := fun (g543 : Nat × OV) => [blk g543.1 56 [eq g543.2.1], mpo Value.string DDag.O g543.2.1 a0.fdags, blk b542 42 [eq (.string a1.fID), eq (.string a1.fRoom), sl strK a1.fParents, eq (.string a1.fThread), eq (.string a1.fUser), eq (.int .i64 a1.fDoes)]] ++ F) (gh_of (VView.opn 1 rfl)) (fun g543 h544 => ?_)
  obtain ⟨t545, h546, H⟩ := Gets.call H
  refine Dv.callx (pre := [blk g543.1 56 [eq g543.2.1], mpo Value.string DDag.O g543.2.1 a0.fdags]) (F := [blk b542 42 [eq (.string a1.fID), eq (.string a1.fRoom), sl strK a1.fParents, eq (.string a1.fThread), eq (.string a1.fUser), eq (.int .i64 a1.fDoes)]] ++ F) (fun v547 : OV => [blk g543.1 56 [eq g543.2.1], mpl Value.string DDag.O g543.2.1 a0.fdags a1.fRoom v547, DDag.O v547 t545, blk b542 42 [eq (.string a1.fID), eq (.string a1.fRoom), sl strK a1.fParents, eq (.string a1.fThread), eq (.string a1.fUser), eq (.int .i64 a1.fDoes)]] ++ F) rfl trivial cal18 rfl (Tr.weak (view_View_room.c h546 (b0_ := g543.1) (v0_0 := g543.2)) (.cons (wk_ptr h544) (.cons wk_id .nil))) (perm_to (L := [blk g543.1 56 [eq g543.2.1], mpo Value.string DDag.O g543.2.1 a0.fdags, blk b542 42 [eq (.string a1.fID), eq (.string a1.fRoom), sl strK a1.fParents, eq (.string a1.fThread), eq (.string a1.fUser), eq (.int .i64 a1.fDoes)]]) (F := F) [0, 1, 2] rfl rfl rfl) rfl nofun (fun v547 _ => ?_)
  refine Dv.asg rfl trivial rfl ?_
  refine .fin ?_
  refine WP.seq ?_
  refine WP.seq ?_
  refine WP.reg [(0, false), (1, false), (2, true), (3, false)] (by kernel_rfl) ?_
  refine Dv.mv rfl trivial rfl ?_
  refine Dv.ldbs rfl trivial rfl Try.underlying42 rfl c42 (mem_at 3 rfl) (Nat.le_of_ble_eq_true rfl) ?_
  obtain ⟨t548, h549, H⟩ := Gets.call H
  refine Dv.callx (pre := [DDag.O v547 t545]) (F := [blk g543.1 56 [eq g543.2.1], mpl Value.string DDag.O g543.2.1 a0.fdags a1.fRoom v547, blk b542 42 [eq (.string a1.fID), eq (.string a1.fRoom), sl strK a1.fParents, eq (.string a1.fThread), eq (.string a1.fUser), eq (.int .i64 a1.fDoes)]] ++ F) (fun _ : Unit => [DDag.O v547 t548.2, blk g543.1 56 [eq g543.2.1], mpl Value.string DDag.O g543.2.1 a0.fdags a1.fRoom v547, blk b542 42 [eq (.string a1.fID), eq (.string a1.fRoom), sl strK a1.fParents, eq (.string a1.fThread), eq (.string a1.fUser), eq (.int .i64 a1.fDoes)]] ++ F) rfl trivial cal23 rfl (dag_Dag_Add.c h549 (p0_ := v547)) (perm_to (L := [blk g543.1 56 [eq g543.2.1], mpl Value.string DDag.O g543.2.1 a0.fdags a1.fRoom v547, DDag.O v547 t545, blk b542 42 [eq (.string a1.fID), eq (.string a1.fRoom), sl strK a1.fParents, eq (.string a1.fThread), eq (.string a1.fUser), eq (.int .i64 a1.fDoes)]]) (F := F) [2, 0, 1, 3] rfl rfl rfl) rfl nofun (fun _ _ => ?_)
  refine Dv.asg rfl trivial rfl ?_
  refine .fin ?_
  refine WP.seq ?_
  refine WP.reg [(0, false), (1, false)] (by kernel_rfl) ?_
  refine Dv.mv rfl trivial rfl ?_
  refine Dv.bin rfl trivial rfl rfl (fun _ => run_ne) ?_
  refine .fin ?_
  refine WP.cond rfl (fun c550 => ?_) (fun c550 => ?_)
  · replace H := Gets.ct H c550
    refine WP.seq ?_
    refine WP.reg [(0, false), (1, false)] (by kernel_rfl) ?_
    refine Dv.mv rfl trivial rfl ?_
    refine Dv.asg rfl trivial rfl ?_
    refine .fin ?_
    refine WP.gh (l' := fun _ : Unit => [mpo Value.string DDag.O g543.2.1 (mres a0.fdags a1.fRoom t548.2), blk g543.1 56 [eq g543.2.1], blk b542 42 [eq (.string a1.fID), eq (.string a1.fRoom), sl strK a1.fParents, eq (.string a1.fThread), eq (.string a1.fUser), eq (.int .i64 a1.fDoes)]] ++ F) (gh_of (mpl_back (perm_to (L := [DDag.O v547 t548.2, blk g543.1 56 [eq g543.2.1], mpl Value.string DDag.O g543.2.1 a0.fdags a1.fRoom v547, blk b542 42 [eq (.string a1.fID), eq (.string a1.fRoom), sl strK a1.fParents, eq (.string a1.fThread), eq (.string a1.fUser), eq (.int .i64 a1.fDoes)]]) (F := F) [2, 0, 1, 3] rfl rfl rfl))) (fun _ _ => ?_)
    refine WP.gh (l' := fun _ : Unit => [VView.O p0_ (⟨mres a0.fdags a1.fRoom t548.2⟩ : VView), blk b542 42 [eq (.string a1.fID), eq (.string a1.fRoom), sl strK a1.fParents, eq (.string a1.fThread), eq (.string a1.fUser), eq (.int .i64 a1.fDoes)]] ++ F) (gh_of (VView.shut (p := p0_) (m := (⟨mres a0.fdags a1.fRoom t548.2⟩ : VView)) (r := [blk b542 42 [eq (.string a1.fID), eq (.string a1.fRoom), sl strK a1.fParents, eq (.string a1.fThread), eq (.string a1.fUser), eq (.int .i64 a1.fDoes)]] ++ F) (g543.1, g543.2) h544 (perm_to (L := [mpo Value.string DDag.O g543.2.1 (mres a0.fdags a1.fRoom t548.2), blk g543.1 56 [eq g543.2.1], blk b542 42 [eq (.string a1.fID), eq (.string a1.fRoom), sl strK a1.fParents, eq (.string a1.fThread), eq (.string a1.fUser), eq (.int .i64 a1.fDoes)]]) (F := F) [1, 0, 2] rfl rfl rfl))) (fun _ _ => ?_)
    obtain rfl := Gets.out H
    exact WP.retL (fun _ _ h => h) rfl () trivial (.cons (res_tmp rfl) .nil) rfl (st_sel (L := [VView.O p0_ (⟨mres a0.fdags a1.fRoom t548.2⟩ : VView), blk b542 42 [eq (.string a1.fID), eq (.string a1.fRoom), sl strK a1.fParents, eq (.string a1.fThread), eq (.string a1.fUser), eq (.int .i64 a1.fDoes)]]) (F := F) [1, 0] 1 rfl rfl rfl)
  · replace H := Gets.cf H c550
    refine WP.skip ?_
    refine WP.seq ?_
    refine WP.gh (l' := fun z551 : List OV => [mp Value.string (fun p : OV => eq p.1) g543.2.1 (zipK a0.fdags z551), mplB DDag.O a0.fdags z551 a1.fRoom, DDag.O v547 t548.2, blk g543.1 56 [eq g543.2.1], blk b542 42 [eq (.string a1.fID), eq (.string a1.fRoom), sl strK a1.fParents, eq (.string a1.fThread), eq (.string a1.fUser), eq (.int .i64 a1.fDoes)]] ++ F) (gh_of (mpl_opn 2 rfl)) (fun z551 h552 => ?_)
    refine WP.dreg Try.checked.mixed [(0, false), (1, false), (2, false), (3, false), (4, false), (5, false), (6, false), (7, true)] (by kernel_rfl) ?_
    refine Dv.mv rfl trivial rfl ?_
    refine Dv.nilpp h544 rfl trivial rfl ?_
    refine Dv.fabp h544 rfl trivial rfl Try.underlying56 rfl Try.underlying54 c54 (by decide) ?_
    refine Dv.ldb rfl trivial rfl Try.underlying54 rfl (mem_at 3 rfl) rfl ?_
    refine Dv.fab rfl trivial rfl Try.underlying42 rfl Try.underlying9 c9 (by decide) ?_
    refine Dv.ldb rfl trivial rfl Try.underlying9 rfl (mem_at 4 rfl) rfl ?_
    refine Dv.mv rfl trivial rfl ?_
    refine Dv.mup (vp := fun p : OV => eq p.1) (jj := 0) v547 rfl trivial rfl rfl rfl rfl Try.underlying54 (keyOk_str Try.underlying9) (fun _ => pend_bits (by kernel_rfl)) ?_
    refine .fin ?_
    refine WP.seq ?_
    refine WP.reg [(0, false)] (by kernel_rfl) ?_
    refine Dv.asg rfl trivial rfl ?_
    refine .fin ?_
    refine WP.gh (l' := fun _ : Unit => [mpo Value.string DDag.O g543.2.1 (mput a0.fdags a1.fRoom t548.2), blk g543.1 56 [eq g543.2.1], blk b542 42 [eq (.string a1.fID), eq (.string a1.fRoom), sl strK a1.fParents, eq (.string a1.fThread), eq (.string a1.fUser), eq (.int .i64 a1.fDoes)]] ++ F) (gh_of (mpl_add DDag.nn h552 (perm_to (L := [mp Value.string (fun p : OV => eq p.1) g543.2.1 (mput (zipK a0.fdags z551) a1.fRoom v547), mplB DDag.O a0.fdags z551 a1.fRoom, DDag.O v547 t548.2, blk g543.1 56 [eq g543.2.1], blk b542 42 [eq (.string a1.fID), eq (.string a1.fRoom), sl strK a1.fParents, eq (.string a1.fThread), eq (.string a1.fUser), eq (.int .i64 a1.fDoes)]]) (F := F) [0, 1, 2, 3, 4] (by kernel_rfl) rfl rfl))) (fun _ _ => ?_)
    refine WP.gh (l' := fun _ : Unit => [VView.O p0_ (⟨mput a0.fdags a1.fRoom t548.2⟩ : VView), blk b542 42 [eq (.string a1.fID), eq (.string a1.fRoom), sl strK a1.fParents, eq (.string a1.fThread), eq (.string a1.fUser), eq (.int .i64 a1.fDoes)]] ++ F) (gh_of (VView.shut (p := p0_) (m := (⟨mput a0.fdags a1.fRoom t548.2⟩ : VView)) (r := [blk b542 42 [eq (.string a1.fID), eq (.string a1.fRoom), sl strK a1.fParents, eq (.string a1.fThread), eq (.string a1.fUser), eq (.int .i64 a1.fDoes)]] ++ F) (g543.1, g543.2) h544 (perm_to (L := [mpo Value.string DDag.O g543.2.1 (mput a0.fdags a1.fRoom t548.2), blk g543.1 56 [eq g543.2.1], blk b542 42 [eq (.string a1.fID), eq (.string a1.fRoom), sl strK a1.fParents, eq (.string a1.fThread), eq (.string a1.fUser), eq (.int .i64 a1.fDoes)]]) (F := F) [1, 0, 2] rfl rfl rfl))) (fun _ _ => ?_)
    obtain rfl := Gets.out H
    exact WP.retL (fun _ _ h => h) rfl () trivial (.cons (res_tmp rfl) .nil) rfl (st_sel (L := [VView.O p0_ (⟨mput a0.fdags a1.fRoom t548.2⟩ : VView), blk b542 42 [eq (.string a1.fID), eq (.string a1.fRoom), sl strK a1.fParents, eq (.string a1.fThread), eq (.string a1.fUser), eq (.int .i64 a1.fDoes)]]) (F := F) [1, 0] 1 rfl rfl rfl)
theorem concourseref10_Of.c {k : Nat} {a0 : RView} {a1 : ByteArray} {r : RDag} (h : concourseref10_Of.f k a0 a1 = some r) : Pt Try.prog 20 [agg (RView.enc a0), eq (.string a1)] (agg (RDag.enc r)) := by
  unfold concourseref10_Of.f at h
  refine (Tr.body Try.func20 (c := _) rfl Try.ntmps20 (Nat.le_of_ble_eq_true rfl) fun R0 F => ?_).pt
  replace h := Gets.of h
  have H := h
  clear h
  refine WP.seq ?_
  refine WP.reg [(0, true), (1, true)] (by kernel_rfl) ?_
  refine Dv.box rfl trivial rfl (cells_agg (RView.K.one _)) nofun (fun b553 => ?_)
  refine Dv.alloc (z := .agg #[.string ⟨#[]⟩, .slice none 0 0]) (qs := [eq (.string (⟨#[]⟩ : ByteArray)), eq (.slice none 0 0)]) rfl trivial z50 rfl nofun (fun b554 => ?_)
  refine .fin ?_
  refine WP.seqr H id (fun p555 : Int × Bool => [(0, agg (RView.enc a0)), (1, eq (.string a1)), (2, eq (.pointer (some ⟨b553, 0, none⟩))), (4, eq (.pointer (some ⟨b554, 0, none⟩))), (5, eq (.int .i64 p555.1)), (10, eq (.bool p555.2))]) (fun p555 : Int × Bool => [blk b554 50 [eq (.string (⟨#[]⟩ : ByteArray)), eq (.slice none 0 0)], blk b553 26 [sl RDag.K a0.fD]] ++ F) (fun p555 H => ?_) (fun H => ?_)
  · refine WP.seq ?_
    refine WP.reg [(0, false), (1, false), (2, true)] (by kernel_rfl) ?_
    refine Dv.mv rfl trivial rfl ?_
    refine Dv.bld (css := [[eq (.string a1)]]) rfl trivial Try.underlying50 pl50 z50 rfl ⟨(cells_one (one_eq rfl)), trivial⟩ rfl rfl ?_
    refine Dv.stx ([blk b554 50 [eq (.string a1), eq (.slice none 0 0)], blk b553 26 [sl RDag.K a0.fD]] ++ F) rfl trivial rfl rfl (cells_agg (ones_cons (one_eq rfl) (ones_cons (one_eq rfl) ones_nil))) Try.underlying50 c50 rfl (j := 0) rfl (Nat.le_of_ble_eq_true rfl) rfl nofun ?_
    refine .fin ?_
    obtain rfl := Gets.out H
    exact WP.retL (fun _ _ h => h) rfl () trivial (.cons (res_wk (res_cells rfl Try.underlying50 rfl c50 (mem_at 0 rfl) rfl) (wk_agg (.cons wk_id (.cons wk_nil .nil)))) .nil) rfl (st_sel (L := [blk b554 50 [eq (.string a1), eq (.slice none 0 0)], blk b553 26 [sl RDag.K a0.fD]]) (F := F) [0, 1] 2 rfl rfl rfl)
  · refine WP.seq ?_
    refine WP.reg [(0, false)] (by kernel_rfl) ?_
    refine Dv.asg rfl trivial rfl ?_
    refine .fin ?_
    refine WP.block ?_
    refine WP.gh (l' := fun _ => [blk b554 50 [eq (.string (⟨#[]⟩ : ByteArray)), eq (.slice none 0 0)], blk b553 26 [sl RDag.K a0.fD]] ++ F) (gh_of (st_selg (L := [blk b554 50 [eq (.string (⟨#[]⟩ : ByteArray)), eq (.slice none 0 0)], blk b553 26 [sl RDag.K a0.fD]]) (F := F) [0, 1] 0 rfl rfl rfl)) (fun _ _ => ?_)
    refine WP.loopg (fun j_ (p562 : Int) => concourseref10_Of.l0 k a0 a1 j_ p562) 0 H (fun p562 => [(0, agg (RView.enc a0)), (1, eq (.string a1)), (2, eq (.pointer (some ⟨b553, 0, none⟩))), (4, eq (.pointer (some ⟨b554, 0, none⟩))), (5, eq (.int .i64 p562))]) (fun p562 => [blk b554 50 [eq (.string (⟨#[]⟩ : ByteArray)), eq (.slice none 0 0)], blk b553 26 [sl RDag.K a0.fD]] ++ F) (weak_cons rfl (weak_cons rfl (weak_cons rfl (weak_cons rfl (weak_cons rfl weak_nil))))) (List.Perm.refl _) ?_
    rintro j_ x556 H
    rcases j_ with _ | j561
    · exact (Gets.no H).elim
    replace H : Gets (concourseref10_Of.l0 k a0 a1 (j561 + 1) x556) _ := H
    rw [concourseref10_Of.l0] at H
    refine WP.seq ?_
    refine WP.seq ?_
    refine WP.reg [(0, false), (1, false), (2, false), (3, false), (4, false)] (by kernel_rfl) ?_
    refine Dv.mv rfl trivial rfl ?_
    refine Dv.fab rfl trivial rfl Try.underlying26 rfl Try.underlying24 c24 (by decide) ?_
    refine Dv.ldb rfl trivial rfl Try.underlying24 rfl (mem_at 1 rfl) rfl ?_
    refine Dv.lenl rfl trivial rfl Try.underlying24 ?_
    refine Dv.bin rfl trivial rfl rfl (fun _ => run_lt) ?_
    refine .fin ?_
    refine WP.cond rfl (fun c557 => ?_) (fun c557 => ?_)
    · replace H := Gets.ct H c557
      refine WP.skip ?_
      refine WP.seq ?_
      refine WP.block ?_
      refine WP.seq ?_
      refine WP.reg [(0, false), (1, false), (2, false), (3, false), (4, false), (5, false), (6, false), (7, false)] (by kernel_rfl) ?_
      refine Dv.fab rfl trivial rfl Try.underlying26 rfl Try.underlying24 c24 (by decide) ?_
      refine Dv.ldb rfl trivial rfl Try.underlying24 rfl (mem_at 1 rfl) rfl ?_
      refine Dv.mv rfl trivial rfl ?_
      obtain ⟨g558, H⟩ := Gets.grd H
      refine Dv.ixr rfl trivial rfl rfl Try.underlying24 Try.underlying50 c50 g558.1 g558.2 ?_
      refine Dv.far rfl trivial rfl Try.underlying50 rfl Try.underlying9 c9 (by decide) (Nat.le_of_ble_eq_true rfl) ?_
      refine Dv.ldr rfl trivial rfl Try.underlying9 rfl rfl ?_
      refine Dv.mv rfl trivial rfl ?_
      refine Dv.bin rfl trivial rfl rfl (fun _ => run_seq) ?_
      refine .fin ?_
      refine WP.cond rfl (fun c559 => ?_) (fun c559 => ?_)
      · replace H := Gets.ct H c559
        refine WP.seq ?_
        refine WP.reg [(0, false), (1, false), (2, false), (3, false), (4, false), (5, true)] (by kernel_rfl) ?_
        refine Dv.fab rfl trivial rfl Try.underlying26 rfl Try.underlying24 c24 (by decide) ?_
        refine Dv.ldb rfl trivial rfl Try.underlying24 rfl (mem_at 1 rfl) rfl ?_
        refine Dv.mv rfl trivial rfl ?_
        obtain ⟨g560, H⟩ := Gets.grd H
        refine Dv.ixr rfl trivial rfl rfl Try.underlying24 Try.underlying50 c50 g560.1 g560.2 ?_
        refine Dv.ldrs rfl trivial rfl Try.underlying50 rfl c50 (Nat.le_of_ble_eq_true rfl) ?_
        refine Dv.stx ([blk b554 50 [eq (.string ((RDag.K.at a0.fD x556).fRoom)), sl Event.K ((RDag.K.at a0.fD x556).fL)], blk b553 26 [sl RDag.K a0.fD]] ++ F) rfl trivial rfl rfl (cells_agg (RDag.K.one _)) Try.underlying50 c50 rfl (j := 0) rfl (Nat.le_of_ble_eq_true rfl) rfl nofun ?_
        refine .fin ?_
        replace H := Gets.outr H
        obtain rfl := Gets.out H
        exact WP.retL (fun _ _ h => h) rfl () trivial (.cons (res_cells rfl Try.underlying50 rfl c50 (mem_at 0 rfl) rfl) .nil) rfl (st_sel (L := [blk b554 50 [eq (.string ((RDag.K.at a0.fD x556).fRoom)), sl Event.K ((RDag.K.at a0.fD x556).fL)], blk b553 26 [sl RDag.K a0.fD]]) (F := F) [0, 1] 2 rfl rfl rfl)
      · replace H := Gets.cf H c559
        refine WP.skip ?_
        refine WP.reg [(0, false), (1, false), (2, false)] (by kernel_rfl) ?_
        refine Dv.mv rfl trivial rfl ?_
        refine Dv.bin rfl trivial rfl rfl (fun _ => run_add) ?_
        refine Dv.asg rfl trivial rfl ?_
        refine .fin ?_
        exact Back.mk j561 (w64 (x556 + 1)) (Nat.lt_succ_self _) H (weak_cons rfl (weak_cons rfl (weak_cons rfl (weak_cons rfl (weak_cons rfl weak_nil))))) (List.Perm.refl _)
    · replace H := Gets.cf H c557
      refine WP.exit ?_
      replace H := Gets.out H
      exact Jn.mk (x556, decide (x556 < (a0.fD.length : Int))) H (weak_cons rfl (weak_cons rfl (weak_cons rfl (weak_cons rfl (weak_cons rfl (weak_cons rfl weak_nil)))))) (List.Perm.refl _)
theorem concourseref10_Add.c {k : Nat} {a0 : RView} {a1 : Event} {r : RView × Int} (h : concourseref10_Add.f k a0 a1 = some r) : Pt Try.prog 24 [agg (RView.enc a0), agg (Event.enc a1)] (tup [agg (RView.enc r.1), eq (.int .i64 r.2)]) := by
  unfold concourseref10_Add.f at h
  refine (Tr.body Try.func24 (c := _) rfl Try.ntmps24 (Nat.le_of_ble_eq_true rfl) fun R0 F => ?_).pt
  replace h := Gets.of h
  have H := h
  clear h
  refine WP.seq ?_
  refine WP.reg [(0, true), (1, true), (2, true), (3, false)] (by kernel_rfl) ?_
  refine Dv.box rfl trivial rfl (cells_agg (RView.K.one _)) nofun (fun b563 => ?_)
  refine Dv.box rfl trivial rfl (cells_agg (Event.K.one _)) nofun (fun b564 => ?_)
  refine Dv.alloc (z := .agg #[.slice none 0 0]) (qs := [eq (.slice none 0 0)]) rfl trivial z26 rfl nofun (fun b565 => ?_)
  refine Dv.asg rfl trivial rfl ?_
  refine .fin ?_
  refine WP.seq ?_
  refine WP.dreg Try.checked.mixed [(0, false), (1, false), (2, false), (3, false), (4, false), (5, false), (6, false), (7, false), (8, false), (9, true), (10, true), (11, false)] (by kernel_rfl) ?_
  refine Dv.ldbs rfl trivial rfl Try.underlying26 rfl c26 (mem_at 2 rfl) (Nat.le_of_ble_eq_true rfl) ?_
  refine Dv.fab rfl trivial rfl Try.underlying42 rfl Try.underlying9 c9 (by decide) ?_
  refine Dv.ldb rfl trivial rfl Try.underlying9 rfl (mem_at 1 rfl) rfl ?_
  obtain ⟨t566, h567, H⟩ := Gets.call H
  refine Dv.call rfl trivial cal20 rfl (concourseref10_Of.c h567) ?_
  refine Dv.ldbs rfl trivial rfl Try.underlying42 rfl c42 (mem_at 1 rfl) (Nat.le_of_ble_eq_true rfl) ?_
  obtain ⟨t568, h569, H⟩ := Gets.call H
  refine Dv.call rfl trivial cal29 rfl (concourseref07_Add.c h569) ?_
  refine Dv.mv rfl trivial rfl ?_
  refine Dv.ext rfl trivial rfl rfl ?_
  refine Dv.ext rfl trivial rfl rfl ?_
  refine Dv.alloc (z := .agg #[.string ⟨#[]⟩, .slice none 0 0]) (qs := [eq (.string (⟨#[]⟩ : ByteArray)), eq (.slice none 0 0)]) rfl trivial z50 rfl (fun _ => (pend_in (fun _ => trivial) (pend_in (fun _ => trivial) (pend_in (fun _ => trivial) (pend_in (fun _ => trivial) (pend_in (fun _ => (mem_at 2 rfl)) (pend_in (fun _ => trivial) (pend_in (fun _ => (mem_at 2 rfl)) (pend_in (fun _ => trivial) (pend_in (fun _ => (mem_at 3 rfl)) pend_nil)))))))))) (fun b570 => ?_)
  refine Dv.stx ([blk b570 50 [eq (.string t568.1.fRoom), sl Event.K t568.1.fL], blk b565 26 [eq (.slice none 0 0)], blk b564 42 [eq (.string a1.fID), eq (.string a1.fRoom), sl strK a1.fParents, eq (.string a1.fThread), eq (.string a1.fUser), eq (.int .i64 a1.fDoes)], blk b563 26 [sl RDag.K a0.fD]] ++ F) rfl trivial rfl rfl (cells_agg (RDag.K.one _)) Try.underlying50 c50 rfl (j := 0) rfl (Nat.le_of_ble_eq_true rfl) rfl (fun _ => (pend_in (fun _ => trivial) (pend_by (by kernel_rfl) (pend_by (by kernel_rfl) (pend_by (by kernel_rfl) (pend_by (by kernel_rfl) (pend_by (by kernel_rfl) (pend_by (by kernel_rfl) (pend_by (by kernel_rfl) (pend_by (by kernel_rfl) pend_nil)))))))))) ?_
  refine Dv.asg rfl trivial rfl ?_
  refine .fin ?_
  refine WP.seq ?_
  refine WP.seq ?_
  refine WP.reg [(0, false), (1, false)] (by kernel_rfl) ?_
  refine Dv.mv rfl trivial rfl ?_
  refine Dv.bin rfl trivial rfl rfl (fun _ => run_ne) ?_
  refine .fin ?_
  refine WP.cond rfl (fun c571 => ?_) (fun c571 => ?_)
  · replace H := Gets.ct H c571
    refine WP.seq ?_
    refine WP.reg [(0, false), (1, false), (2, true), (3, false)] (by kernel_rfl) ?_
    refine Dv.ldbs rfl trivial rfl Try.underlying26 rfl c26 (mem_at 3 rfl) (Nat.le_of_ble_eq_true rfl) ?_
    refine Dv.mv rfl trivial rfl ?_
    refine Dv.stx ([blk b570 50 [eq (.string t568.1.fRoom), sl Event.K t568.1.fL], blk b565 26 [sl RDag.K a0.fD], blk b564 42 [eq (.string a1.fID), eq (.string a1.fRoom), sl strK a1.fParents, eq (.string a1.fThread), eq (.string a1.fUser), eq (.int .i64 a1.fDoes)], blk b563 26 [sl RDag.K a0.fD]] ++ F) rfl trivial rfl rfl (cells_agg (RView.K.one _)) Try.underlying26 c26 rfl (j := 1) rfl (Nat.le_of_ble_eq_true rfl) rfl nofun ?_
    refine Dv.asg rfl trivial rfl ?_
    refine .fin ?_
    obtain rfl := Gets.out H
    exact WP.retL (fun _ _ h => h) rfl () trivial (.cons (res_cells rfl Try.underlying26 rfl c26 (mem_at 1 rfl) rfl) (.cons (res_tmp rfl) .nil)) rfl (st_sel (L := [blk b570 50 [eq (.string t568.1.fRoom), sl Event.K t568.1.fL], blk b565 26 [sl RDag.K a0.fD], blk b564 42 [eq (.string a1.fID), eq (.string a1.fRoom), sl strK a1.fParents, eq (.string a1.fThread), eq (.string a1.fUser), eq (.int .i64 a1.fDoes)], blk b563 26 [sl RDag.K a0.fD]]) (F := F) [0, 1, 2, 3] 4 rfl rfl rfl)
  · replace H := Gets.cf H c571
    refine WP.skip ?_
    refine WP.seq ?_
    refine WP.reg [(0, false)] (by kernel_rfl) ?_
    refine Dv.asg rfl trivial rfl ?_
    refine .fin ?_
    refine WP.seq ?_
    refine WP.reg [(0, false)] (by kernel_rfl) ?_
    refine Dv.asg rfl trivial rfl ?_
    refine .fin ?_
    refine WP.seqn H (fun q598 : (Bool × Int × Bool × (List RDag)) × OV => q598.1) (fun q598 : (Bool × Int × Bool × (List RDag)) × OV => [(0, agg (RView.enc a0)), (1, agg (Event.enc a1)), (2, eq (.pointer (some ⟨b563, 0, none⟩))), (3, eq (.pointer (some ⟨b564, 0, none⟩))), (4, eq (.pointer (some ⟨b565, 0, none⟩))), (5, eq (.int .i64 0)), (6, eq (.pointer (some ⟨b570, 0, none⟩))), (7, eq (.int .i64 t568.2)), (8, eq q598.2.1), (9, eq (.bool q598.1.1)), (10, eq (.int .i64 q598.1.2.1)), (21, eq (.bool (t568.2 != 0))), (28, eq (.bool q598.1.2.2.1))]) (fun q598 : (Bool × Int × Bool × (List RDag)) × OV => [blk b570 50 [eq (.string t568.1.fRoom), sl Event.K t568.1.fL], blk b565 26 [eq (.slice none 0 0)], blk b564 42 [eq (.string a1.fID), eq (.string a1.fRoom), sl strK a1.fParents, eq (.string a1.fThread), eq (.string a1.fUser), eq (.int .i64 a1.fDoes)], blk b563 26 [sl RDag.K a0.fD], own RDag.K q598.2.1 q598.1.2.2.2] ++ F) (fun q598 H => ?_) (fun H => ?_)
    · obtain ⟨p572, v573⟩ := q598
      refine WP.seq ?_
      refine WP.seq ?_
      refine WP.reg [(0, false), (1, false)] (by kernel_rfl) ?_
      refine Dv.mv rfl trivial rfl ?_
      refine Dv.un rfl trivial rfl (fun _ => run_not _) ?_
      refine .fin ?_
      refine WP.cond rfl (fun c574 => ?_) (fun c574 => ?_)
      · replace H := Gets.ct H c574
        refine WP.reg [(0, false), (1, false), (2, false), (3, true), (4, false)] (by kernel_rfl) ?_
        refine Dv.mv rfl trivial rfl ?_
        refine Dv.ldbs rfl trivial rfl Try.underlying50 rfl c50 (mem_at 0 rfl) (Nat.le_of_ble_eq_true rfl) ?_
        refine Dv.lit RDag.K ([t568.1] : List RDag) (css := [RDag.enc t568.1]) rfl trivial Try.underlying24 Try.underlying50 c50 z50 rfl (by decide) (by decide) rfl ⟨(cells_agg (RDag.K.one _)), trivial⟩ rfl rfl rfl ?_
        obtain ⟨g575, H⟩ := Gets.grd H
        refine Dv.appx (jj := 4) (ys := ([t568.1] : List RDag)) (fun v576 : OV => [blk b570 50 [eq (.string t568.1.fRoom), sl Event.K t568.1.fL], blk b565 26 [eq (.slice none 0 0)], blk b564 42 [eq (.string a1.fID), eq (.string a1.fRoom), sl strK a1.fParents, eq (.string a1.fThread), eq (.string a1.fUser), eq (.int .i64 a1.fDoes)], blk b563 26 [sl RDag.K a0.fD], own RDag.K v576.1 (p572.2.2.2 ++ ([t568.1] : List RDag))] ++ F) rfl trivial rfl rfl rfl src_sl Try.underlying24 (.inr ⟨_, Try.underlying24⟩) inf50 rfl (by decide) g575 rfl nofun (fun v576 => ?_)
        refine Dv.asg rfl trivial rfl ?_
        refine .fin ?_
        refine WP.seq ?_
        refine WP.reg [(0, false), (1, false), (2, true), (3, false)] (by kernel_rfl) ?_
        refine Dv.mv rfl trivial rfl ?_
        refine Dv.bld (css := [[eq v576.1]]) rfl trivial Try.underlying26 pl26 z26 rfl ⟨(cells_one one_ov), trivial⟩ rfl rfl ?_
        refine Dv.stx ([blk b570 50 [eq (.string t568.1.fRoom), sl Event.K t568.1.fL], blk b565 26 [eq v576.1], blk b564 42 [eq (.string a1.fID), eq (.string a1.fRoom), sl strK a1.fParents, eq (.string a1.fThread), eq (.string a1.fUser), eq (.int .i64 a1.fDoes)], blk b563 26 [sl RDag.K a0.fD], own RDag.K v576.1 (p572.2.2.2 ++ ([t568.1] : List RDag))] ++ F) rfl trivial rfl rfl (cells_agg (ones_cons one_ov ones_nil)) Try.underlying26 c26 rfl (j := 1) rfl (Nat.le_of_ble_eq_true rfl) rfl nofun ?_
        refine Dv.asg rfl trivial rfl ?_
        refine .fin ?_
        refine WP.gh (gh_frz (E' := [(4, eq (.pointer (some ⟨b565, 0, none⟩))), (5, eq (.int .i64 0))]) (l' := [blk b570 50 [eq (.string t568.1.fRoom), sl Event.K t568.1.fL], blk b565 26 [sl RDag.K (p572.2.2.2 ++ ([t568.1] : List RDag))], blk b564 42 [eq (.string a1.fID), eq (.string a1.fRoom), sl strK a1.fParents, eq (.string a1.fThread), eq (.string a1.fUser), eq (.int .i64 a1.fDoes)], blk b563 26 [sl RDag.K a0.fD]] ++ F) 4 rfl (cve_cons rfl cv_id (cve_cons rfl cv_id cve_nil)) (all2_app (.cons cva_id (.cons (cva_blk (.cons cv_eq .nil)) (.cons cva_id (.cons cva_id .nil)))) fun _ => cva_id)) (fun _ _ => ?_)
        obtain rfl := Gets.out H
        exact WP.retL (fun _ _ h => h) rfl () trivial (.cons (res_cells rfl Try.underlying26 rfl c26 (mem_at 1 rfl) rfl) (.cons (res_tmp rfl) .nil)) rfl (st_sel (L := [blk b570 50 [eq (.string t568.1.fRoom), sl Event.K t568.1.fL], blk b565 26 [sl RDag.K (p572.2.2.2 ++ ([t568.1] : List RDag))], blk b564 42 [eq (.string a1.fID), eq (.string a1.fRoom), sl strK a1.fParents, eq (.string a1.fThread), eq (.string a1.fUser), eq (.int .i64 a1.fDoes)], blk b563 26 [sl RDag.K a0.fD]]) (F := F) [0, 1, 2, 3] 4 rfl rfl rfl)
      · replace H := Gets.cf H c574
        refine WP.skip ?_
        refine WP.seq ?_
        refine WP.reg [(0, false), (1, false), (2, true), (3, false)] (by kernel_rfl) ?_
        refine Dv.mv rfl trivial rfl ?_
        refine Dv.bld (css := [[eq v573.1]]) rfl trivial Try.underlying26 pl26 z26 rfl ⟨(cells_one one_ov), trivial⟩ rfl rfl ?_
        refine Dv.stx ([blk b570 50 [eq (.string t568.1.fRoom), sl Event.K t568.1.fL], blk b565 26 [eq v573.1], blk b564 42 [eq (.string a1.fID), eq (.string a1.fRoom), sl strK a1.fParents, eq (.string a1.fThread), eq (.string a1.fUser), eq (.int .i64 a1.fDoes)], blk b563 26 [sl RDag.K a0.fD], own RDag.K v573.1 p572.2.2.2] ++ F) rfl trivial rfl rfl (cells_agg (ones_cons one_ov ones_nil)) Try.underlying26 c26 rfl (j := 1) rfl (Nat.le_of_ble_eq_true rfl) rfl nofun ?_
        refine Dv.asg rfl trivial rfl ?_
        refine .fin ?_
        refine WP.gh (gh_frz (E' := [(4, eq (.pointer (some ⟨b565, 0, none⟩))), (5, eq (.int .i64 0))]) (l' := [blk b570 50 [eq (.string t568.1.fRoom), sl Event.K t568.1.fL], blk b565 26 [sl RDag.K p572.2.2.2], blk b564 42 [eq (.string a1.fID), eq (.string a1.fRoom), sl strK a1.fParents, eq (.string a1.fThread), eq (.string a1.fUser), eq (.int .i64 a1.fDoes)], blk b563 26 [sl RDag.K a0.fD]] ++ F) 4 rfl (cve_cons rfl cv_id (cve_cons rfl cv_id cve_nil)) (all2_app (.cons cva_id (.cons (cva_blk (.cons cv_eq .nil)) (.cons cva_id (.cons cva_id .nil)))) fun _ => cva_id)) (fun _ _ => ?_)
        obtain rfl := Gets.out H
        exact WP.retL (fun _ _ h => h) rfl () trivial (.cons (res_cells rfl Try.underlying26 rfl c26 (mem_at 1 rfl) rfl) (.cons (res_tmp rfl) .nil)) rfl (st_sel (L := [blk b570 50 [eq (.string t568.1.fRoom), sl Event.K t568.1.fL], blk b565 26 [sl RDag.K p572.2.2.2], blk b564 42 [eq (.string a1.fID), eq (.string a1.fRoom), sl strK a1.fParents, eq (.string a1.fThread), eq (.string a1.fUser), eq (.int .i64 a1.fDoes)], blk b563 26 [sl RDag.K a0.fD]]) (F := F) [0, 1, 2, 3] 4 rfl rfl rfl)
    · refine WP.seq ?_
      refine WP.reg [(0, false)] (by kernel_rfl) ?_
      refine Dv.asg rfl trivial rfl ?_
      refine .fin ?_
      refine WP.block ?_
      refine WP.gh (gh_of (st_nil RDag.K none)) (fun _ _ => ?_)
      refine WP.gh (l' := fun _ => [blk b570 50 [eq (.string t568.1.fRoom), sl Event.K t568.1.fL], blk b565 26 [eq (.slice none 0 0)], blk b564 42 [eq (.string a1.fID), eq (.string a1.fRoom), sl strK a1.fParents, eq (.string a1.fThread), eq (.string a1.fUser), eq (.int .i64 a1.fDoes)], blk b563 26 [sl RDag.K a0.fD], own RDag.K nilV.1 ([] : List RDag)] ++ F) (gh_of (st_selg (L := [own RDag.K nilV.1 ([] : List RDag), blk b570 50 [eq (.string t568.1.fRoom), sl Event.K t568.1.fL], blk b565 26 [eq (.slice none 0 0)], blk b564 42 [eq (.string a1.fID), eq (.string a1.fRoom), sl strK a1.fParents, eq (.string a1.fThread), eq (.string a1.fUser), eq (.int .i64 a1.fDoes)], blk b563 26 [sl RDag.K a0.fD]]) (F := F) [1, 2, 3, 4, 0] 0 (by kernel_rfl) rfl rfl)) (fun _ _ => ?_)
      refine WP.loopg (fun j_ (p597 : Bool × Int × (List RDag) × OV) => concourseref10_Add.l0 k a0 a1 t568 j_ p597.1 p597.2.1 p597.2.2.1) (false, 0, ([] : List RDag), nilV) H (fun p597 => [(0, agg (RView.enc a0)), (1, agg (Event.enc a1)), (2, eq (.pointer (some ⟨b563, 0, none⟩))), (3, eq (.pointer (some ⟨b564, 0, none⟩))), (4, eq (.pointer (some ⟨b565, 0, none⟩))), (5, eq (.int .i64 0)), (6, eq (.pointer (some ⟨b570, 0, none⟩))), (7, eq (.int .i64 t568.2)), (8, eq p597.2.2.2.1), (9, eq (.bool p597.1)), (10, eq (.int .i64 p597.2.1)), (21, eq (.bool (t568.2 != 0)))]) (fun p597 => [blk b570 50 [eq (.string t568.1.fRoom), sl Event.K t568.1.fL], blk b565 26 [eq (.slice none 0 0)], blk b564 42 [eq (.string a1.fID), eq (.string a1.fRoom), sl strK a1.fParents, eq (.string a1.fThread), eq (.string a1.fUser), eq (.int .i64 a1.fDoes)], blk b563 26 [sl RDag.K a0.fD], own RDag.K p597.2.2.2.1 p597.2.2.1] ++ F) (weak_cons rfl (weak_cons rfl (weak_cons rfl (weak_cons rfl (weak_cons rfl (weak_cons rfl (weak_cons rfl (weak_cons rfl (weak_cons rfl (weak_cons rfl (weak_cons rfl (weak_cons rfl weak_nil)))))))))))) (List.Perm.refl _) ?_
      rintro j_ ⟨x577, x578, x579, v580⟩ H
      rcases j_ with _ | j596
      · exact (Gets.no H).elim
      replace H : Gets (concourseref10_Add.l0 k a0 a1 t568 (j596 + 1) x577 x578 x579) _ := H
      rw [concourseref10_Add.l0] at H
      refine WP.seq ?_
      refine WP.seq ?_
      refine WP.reg [(0, false), (1, false), (2, false), (3, false), (4, false)] (by kernel_rfl) ?_
      refine Dv.mv rfl trivial rfl ?_
      refine Dv.fab rfl trivial rfl Try.underlying26 rfl Try.underlying24 c24 (by decide) ?_
      refine Dv.ldb rfl trivial rfl Try.underlying24 rfl (mem_at 3 rfl) rfl ?_
      refine Dv.lenl rfl trivial rfl Try.underlying24 ?_
      refine Dv.bin rfl trivial rfl rfl (fun _ => run_lt) ?_
      refine .fin ?_
      refine WP.cond rfl (fun c581 => ?_) (fun c581 => ?_)
      · replace H := Gets.ct H c581
        refine WP.skip ?_
        refine WP.seq ?_
        refine WP.block ?_
        refine WP.seqn H (fun q595 : (Bool × Bool × (List RDag)) × OV => q595.1) (fun q595 : (Bool × Bool × (List RDag)) × OV => [(0, agg (RView.enc a0)), (1, agg (Event.enc a1)), (2, eq (.pointer (some ⟨b563, 0, none⟩))), (3, eq (.pointer (some ⟨b564, 0, none⟩))), (4, eq (.pointer (some ⟨b565, 0, none⟩))), (5, eq (.int .i64 0)), (6, eq (.pointer (some ⟨b570, 0, none⟩))), (7, eq (.int .i64 t568.2)), (8, eq q595.2.1), (9, eq (.bool q595.1.1)), (10, eq (.int .i64 x578)), (21, eq (.bool (t568.2 != 0))), (28, eq (.bool (decide (x578 < (a0.fD.length : Int))))), (43, eq (.bool q595.1.2.1))]) (fun q595 : (Bool × Bool × (List RDag)) × OV => [blk b570 50 [eq (.string t568.1.fRoom), sl Event.K t568.1.fL], blk b565 26 [eq (.slice none 0 0)], blk b564 42 [eq (.string a1.fID), eq (.string a1.fRoom), sl strK a1.fParents, eq (.string a1.fThread), eq (.string a1.fUser), eq (.int .i64 a1.fDoes)], blk b563 26 [sl RDag.K a0.fD], own RDag.K q595.2.1 q595.1.2.2] ++ F) (fun q595 H => ?_) (fun H => ?_)
        · obtain ⟨p582, v583⟩ := q595
          refine WP.seq ?_
          refine WP.dreg Try.checked.mixed [(0, false), (1, false), (2, false), (3, false), (4, false), (5, false), (6, false), (7, false), (8, false)] (by kernel_rfl) ?_
          refine Dv.fab rfl trivial rfl Try.underlying26 rfl Try.underlying24 c24 (by decide) ?_
          refine Dv.ldb rfl trivial rfl Try.underlying24 rfl (mem_at 3 rfl) rfl ?_
          refine Dv.mv rfl trivial rfl ?_
          obtain ⟨g584, H⟩ := Gets.grd H
          refine Dv.ixr rfl trivial rfl rfl Try.underlying24 Try.underlying50 c50 g584.1 g584.2 ?_
          refine Dv.far rfl trivial rfl Try.underlying50 rfl Try.underlying9 c9 (by decide) (Nat.le_of_ble_eq_true rfl) ?_
          refine Dv.ldr rfl trivial rfl Try.underlying9 rfl rfl ?_
          refine Dv.fab rfl trivial rfl Try.underlying42 rfl Try.underlying9 c9 (by decide) ?_
          refine Dv.ldb rfl trivial rfl Try.underlying9 rfl (mem_at 2 rfl) rfl ?_
          refine Dv.bin rfl trivial rfl rfl (fun _ => run_sne) ?_
          refine .fin ?_
          refine WP.cond rfl (fun c585 => ?_) (fun c585 => ?_)
          · replace H := Gets.ct H c585
            refine WP.reg [(0, false), (1, false), (2, false), (3, false), (4, false), (5, false), (6, false), (7, true), (8, false)] (by kernel_rfl) ?_
            refine Dv.mv rfl trivial rfl ?_
            refine Dv.fab rfl trivial rfl Try.underlying26 rfl Try.underlying24 c24 (by decide) ?_
            refine Dv.ldb rfl trivial rfl Try.underlying24 rfl (mem_at 3 rfl) rfl ?_
            refine Dv.mv rfl trivial rfl ?_
            obtain ⟨g586, H⟩ := Gets.grd H
            refine Dv.ixr rfl trivial rfl rfl Try.underlying24 Try.underlying50 c50 g586.1 g586.2 ?_
            refine Dv.ldrs rfl trivial rfl Try.underlying50 rfl c50 (Nat.le_of_ble_eq_true rfl) ?_
            refine Dv.lit RDag.K ([RDag.K.at a0.fD x578] : List RDag) (css := [RDag.enc (RDag.K.at a0.fD x578)]) rfl trivial Try.underlying24 Try.underlying50 c50 z50 rfl (by decide) (by decide) rfl ⟨(cells_agg (RDag.K.one _)), trivial⟩ rfl rfl rfl ?_
            obtain ⟨g587, H⟩ := Gets.grd H
            refine Dv.appx (jj := 4) (ys := ([RDag.K.at a0.fD x578] : List RDag)) (fun v588 : OV => [blk b570 50 [eq (.string t568.1.fRoom), sl Event.K t568.1.fL], blk b565 26 [eq (.slice none 0 0)], blk b564 42 [eq (.string a1.fID), eq (.string a1.fRoom), sl strK a1.fParents, eq (.string a1.fThread), eq (.string a1.fUser), eq (.int .i64 a1.fDoes)], blk b563 26 [sl RDag.K a0.fD], own RDag.K v588.1 (p582.2.2 ++ ([RDag.K.at a0.fD x578] : List RDag))] ++ F) rfl trivial rfl rfl rfl src_sl Try.underlying24 (.inr ⟨_, Try.underlying24⟩) inf50 rfl (by decide) g587 rfl nofun (fun v588 => ?_)
            refine Dv.asg rfl trivial rfl ?_
            refine .fin ?_
            refine WP.reg [(0, false), (1, false), (2, false)] (by kernel_rfl) ?_
            refine Dv.mv rfl trivial rfl ?_
            refine Dv.bin rfl trivial rfl rfl (fun _ => run_add) ?_
            refine Dv.asg rfl trivial rfl ?_
            refine .fin ?_
            exact Back.mk j596 (p582.1, w64 (x578 + 1), p582.2.2 ++ ([RDag.K.at a0.fD x578] : List RDag), v588) (Nat.lt_succ_self _) H (weak_cons rfl (weak_cons rfl (weak_cons rfl (weak_cons rfl (weak_cons rfl (weak_cons rfl (weak_cons rfl (weak_cons rfl (weak_cons rfl (weak_cons rfl (weak_cons rfl (weak_cons rfl weak_nil)))))))))))) (List.Perm.refl _)
          · replace H := Gets.cf H c585
            refine WP.skip ?_
            refine WP.reg [(0, false), (1, false), (2, false)] (by kernel_rfl) ?_
            refine Dv.mv rfl trivial rfl ?_
            refine Dv.bin rfl trivial rfl rfl (fun _ => run_add) ?_
            refine Dv.asg rfl trivial rfl ?_
            refine .fin ?_
            exact Back.mk j596 (p582.1, w64 (x578 + 1), p582.2.2, v583) (Nat.lt_succ_self _) H (weak_cons rfl (weak_cons rfl (weak_cons rfl (weak_cons rfl (weak_cons rfl (weak_cons rfl (weak_cons rfl (weak_cons rfl (weak_cons rfl (weak_cons rfl (weak_cons rfl (weak_cons rfl weak_nil)))))))))))) (List.Perm.refl _)
        · refine WP.seq ?_
          refine WP.dreg Try.checked.mixed [(0, false), (1, false), (2, false), (3, false), (4, false), (5, false), (6, false), (7, false), (8, false), (9, false), (10, false), (11, false), (12, false)] (by kernel_rfl) ?_
          refine Dv.mv rfl trivial rfl ?_
          refine Dv.un rfl trivial rfl (fun _ => run_not _) ?_
          refine Dv.mv rfl trivial rfl ?_
          cases c589 : !x577
          · replace H := Gets.cf H c589
            refine Dv.skip rfl ⟨_, _, rfl, rfl, .inl rfl⟩ ?_
            refine Dv.skip rfl ⟨_, _, rfl, rfl, .inl rfl⟩ ?_
            refine Dv.skip rfl ⟨_, _, rfl, rfl, .inl rfl⟩ ?_
            refine Dv.skip rfl ⟨_, _, rfl, rfl, .inl rfl⟩ ?_
            refine Dv.skip rfl ⟨_, _, rfl, rfl, .inl rfl⟩ ?_
            refine Dv.skip rfl ⟨_, _, rfl, rfl, .inl rfl⟩ ?_
            refine Dv.skip rfl ⟨_, _, rfl, rfl, .inl rfl⟩ ?_
            refine Dv.skip rfl ⟨_, _, rfl, rfl, .inl rfl⟩ ?_
            refine Dv.skip rfl ⟨_, _, rfl, rfl, .inl rfl⟩ ?_
            refine Dv.pickF rfl trivial rfl rfl ?_
            refine .fin ?_
            refine WP.cond rfl nofun (fun _ => ?_)
            refine WP.skip ?_
            replace H := Gets.out H
            exact Jn.mk ((x577, false, x579), v580) H (weak_cons rfl (weak_cons rfl (weak_cons rfl (weak_cons rfl (weak_cons rfl (weak_cons rfl (weak_cons rfl (weak_cons rfl (weak_cons rfl (weak_cons rfl (weak_cons rfl (weak_cons rfl (weak_cons rfl (weak_cons rfl weak_nil)))))))))))))) (List.Perm.refl _)
          · replace H := Gets.ct H c589
            refine Dv.fab rfl ⟨_, _, rfl, rfl, rfl⟩ rfl Try.underlying42 rfl Try.underlying9 c9 (by decide) ?_
            refine Dv.ldb rfl ⟨_, _, rfl, rfl, rfl⟩ rfl Try.underlying9 rfl (mem_at 2 rfl) rfl ?_
            refine Dv.fab rfl ⟨_, _, rfl, rfl, rfl⟩ rfl Try.underlying26 rfl Try.underlying24 c24 (by decide) ?_
            refine Dv.ldb rfl ⟨_, _, rfl, rfl, rfl⟩ rfl Try.underlying24 rfl (mem_at 3 rfl) rfl ?_
            refine Dv.mv rfl ⟨_, _, rfl, rfl, rfl⟩ rfl ?_
            obtain ⟨g590, H⟩ := Gets.grd H
            refine Dv.ixr rfl ⟨_, _, rfl, rfl, rfl⟩ rfl rfl Try.underlying24 Try.underlying50 c50 g590.1 g590.2 ?_
            refine Dv.far rfl ⟨_, _, rfl, rfl, rfl⟩ rfl Try.underlying50 rfl Try.underlying9 c9 (by decide) (Nat.le_of_ble_eq_true rfl) ?_
            refine Dv.ldr rfl ⟨_, _, rfl, rfl, rfl⟩ rfl Try.underlying9 rfl rfl ?_
            refine Dv.bin rfl ⟨_, _, rfl, rfl, rfl⟩ rfl rfl (fun _ => run_sle) ?_
            refine Dv.pickT rfl trivial rfl rfl ?_
            refine .fin ?_
            refine WP.cond rfl (fun c591 => ?_) (fun c591 => ?_)
            · replace H := Gets.ct H c591
              refine WP.seq ?_
              refine WP.reg [(0, false), (1, false), (2, false), (3, true), (4, false)] (by kernel_rfl) ?_
              refine Dv.mv rfl trivial rfl ?_
              refine Dv.ldbs rfl trivial rfl Try.underlying50 rfl c50 (mem_at 0 rfl) (Nat.le_of_ble_eq_true rfl) ?_
              refine Dv.lit RDag.K ([t568.1] : List RDag) (css := [RDag.enc t568.1]) rfl trivial Try.underlying24 Try.underlying50 c50 z50 rfl (by decide) (by decide) rfl ⟨(cells_agg (RDag.K.one _)), trivial⟩ rfl rfl rfl ?_
              obtain ⟨g592, H⟩ := Gets.grd H
              refine Dv.appx (jj := 4) (ys := ([t568.1] : List RDag)) (fun v593 : OV => [blk b570 50 [eq (.string t568.1.fRoom), sl Event.K t568.1.fL], blk b565 26 [eq (.slice none 0 0)], blk b564 42 [eq (.string a1.fID), eq (.string a1.fRoom), sl strK a1.fParents, eq (.string a1.fThread), eq (.string a1.fUser), eq (.int .i64 a1.fDoes)], blk b563 26 [sl RDag.K a0.fD], own RDag.K v593.1 (x579 ++ ([t568.1] : List RDag))] ++ F) rfl trivial rfl rfl rfl src_sl Try.underlying24 (.inr ⟨_, Try.underlying24⟩) inf50 rfl (by decide) g592 rfl nofun (fun v593 => ?_)
              refine Dv.asg rfl trivial rfl ?_
              refine .fin ?_
              refine WP.reg [(0, false)] (by kernel_rfl) ?_
              refine Dv.asg rfl trivial rfl ?_
              refine .fin ?_
              replace H := Gets.out H
              exact Jn.mk ((true, !sLt ((RDag.K.at a0.fD x578).fRoom) a1.fRoom, x579 ++ ([t568.1] : List RDag)), v593) H (weak_cons rfl (weak_cons rfl (weak_cons rfl (weak_cons rfl (weak_cons rfl (weak_cons rfl (weak_cons rfl (weak_cons rfl (weak_cons rfl (weak_cons rfl (weak_cons rfl (weak_cons rfl (weak_cons rfl (weak_cons rfl weak_nil)))))))))))))) (List.Perm.refl _)
            · replace H := Gets.cf H c591
              refine WP.skip ?_
              replace H := Gets.out H
              exact Jn.mk ((x577, !sLt ((RDag.K.at a0.fD x578).fRoom) a1.fRoom, x579), v580) H (weak_cons rfl (weak_cons rfl (weak_cons rfl (weak_cons rfl (weak_cons rfl (weak_cons rfl (weak_cons rfl (weak_cons rfl (weak_cons rfl (weak_cons rfl (weak_cons rfl (weak_cons rfl (weak_cons rfl (weak_cons rfl weak_nil)))))))))))))) (List.Perm.refl _)
      · replace H := Gets.cf H c581
        refine WP.exit ?_
        replace H := Gets.out H
        exact Jn.mk ((x577, x578, decide (x578 < (a0.fD.length : Int)), x579), v580) H (weak_cons rfl (weak_cons rfl (weak_cons rfl (weak_cons rfl (weak_cons rfl (weak_cons rfl (weak_cons rfl (weak_cons rfl (weak_cons rfl (weak_cons rfl (weak_cons rfl (weak_cons rfl (weak_cons rfl weak_nil))))))))))))) (List.Perm.refl _)
theorem concourseref10_Build.c {k : Nat} {a0 : List Event} {r : RView} (h : concourseref10_Build.f k a0 = some r) : Pt Try.prog 15 [sl Event.K a0] (agg (RView.enc r)) := by
  unfold concourseref10_Build.f at h
  refine (Tr.body Try.func15 (c := _) rfl Try.ntmps15 (Nat.le_of_ble_eq_true rfl) fun R0 F => ?_).pt
  replace h := Gets.of h
  have H := h
  clear h
  refine WP.seq ?_
  refine WP.reg [(0, true)] (by kernel_rfl) ?_
  refine Dv.alloc (z := .agg #[.slice none 0 0]) (qs := [eq (.slice none 0 0)]) rfl trivial z26 rfl nofun (fun b599 => ?_)
  refine .fin ?_
  refine WP.seq ?_
  refine WP.reg [(0, true)] (by kernel_rfl) ?_
  refine Dv.alloc (z := .agg #[.slice none 0 0]) (qs := [eq (.slice none 0 0)]) rfl trivial z26 rfl nofun (fun b600 => ?_)
  refine .fin ?_
  refine WP.seqn H id (fun p601 : Int × Bool × (List RDag) => [(0, sl Event.K a0), (2, eq (.pointer (some ⟨b599, 0, none⟩))), (3, eq (.pointer (some ⟨b600, 0, none⟩))), (4, eq (.int .i64 p601.1)), (10, eq (.bool p601.2.1))]) (fun p601 : Int × Bool × (List RDag) => [blk b600 26 [sl RDag.K p601.2.2], blk b599 26 [eq (.slice none 0 0)]] ++ F) (fun p601 H => ?_) (fun H => ?_)
  · refine WP.seq ?_
    refine WP.reg [(0, false), (1, true)] (by kernel_rfl) ?_
    refine Dv.ldbs rfl trivial rfl Try.underlying26 rfl c26 (mem_at 0 rfl) (Nat.le_of_ble_eq_true rfl) ?_
    refine Dv.stx ([blk b600 26 [sl RDag.K p601.2.2], blk b599 26 [sl RDag.K p601.2.2]] ++ F) rfl trivial rfl rfl (cells_agg (ones_cons one_sl ones_nil)) Try.underlying26 c26 rfl (j := 1) rfl (Nat.le_of_ble_eq_true rfl) rfl nofun ?_
    refine .fin ?_
    obtain rfl := Gets.out H
    exact WP.retL (fun _ _ h => h) rfl () trivial (.cons (res_cells rfl Try.underlying26 rfl c26 (mem_at 1 rfl) rfl) .nil) rfl (st_sel (L := [blk b600 26 [sl RDag.K p601.2.2], blk b599 26 [sl RDag.K p601.2.2]]) (F := F) [0, 1] 2 rfl rfl rfl)
  · refine WP.seq ?_
    refine WP.reg [(0, false)] (by kernel_rfl) ?_
    refine Dv.asg rfl trivial rfl ?_
    refine .fin ?_
    refine WP.block ?_
    refine WP.gh (gh_wk (E' := [(0, sl Event.K a0), (2, eq (.pointer (some ⟨b599, 0, none⟩))), (3, eq (.pointer (some ⟨b600, 0, none⟩))), (4, eq (.int .i64 0))]) (l' := [blk b600 26 [sl RDag.K ([] : List RDag)], blk b599 26 [eq (.slice none 0 0)]] ++ F) (wke_cons rfl wk_id (wke_cons rfl wk_id (wke_cons rfl wk_id (wke_cons rfl wk_id wke_nil)))) (all2_app (.cons (wka_blk (.cons wk_nil .nil)) (.cons wka_id .nil)) fun _ => wka_id)) (fun _ _ => ?_)
    refine WP.gh (l' := fun _ => [blk b600 26 [sl RDag.K ([] : List RDag)], blk b599 26 [eq (.slice none 0 0)]] ++ F) (gh_of (st_selg (L := [blk b600 26 [sl RDag.K ([] : List RDag)], blk b599 26 [eq (.slice none 0 0)]]) (F := F) [0, 1] 0 rfl rfl rfl)) (fun _ _ => ?_)
    refine WP.loopg (fun j_ (p610 : Int × (List RDag)) => concourseref10_Build.l0 k a0 j_ p610.1 p610.2) (0, ([] : List RDag)) H (fun p610 => [(0, sl Event.K a0), (2, eq (.pointer (some ⟨b599, 0, none⟩))), (3, eq (.pointer (some ⟨b600, 0, none⟩))), (4, eq (.int .i64 p610.1))]) (fun p610 => [blk b600 26 [sl RDag.K p610.2], blk b599 26 [eq (.slice none 0 0)]] ++ F) (weak_cons rfl (weak_cons rfl (weak_cons rfl (weak_cons rfl weak_nil)))) (List.Perm.refl _) ?_
    rintro j_ ⟨x602, x603⟩ H
    rcases j_ with _ | j609
    · exact (Gets.no H).elim
    replace H : Gets (concourseref10_Build.l0 k a0 (j609 + 1) x602 x603) _ := H
    rw [concourseref10_Build.l0] at H
    refine WP.seq ?_
    refine WP.seq ?_
    refine WP.reg [(0, false), (1, false), (2, false), (3, false)] (by kernel_rfl) ?_
    refine Dv.mv rfl trivial rfl ?_
    refine Dv.mv rfl trivial rfl ?_
    refine Dv.lenl rfl trivial rfl Try.underlying36 ?_
    refine Dv.bin rfl trivial rfl rfl (fun _ => run_lt) ?_
    refine .fin ?_
    refine WP.cond rfl (fun c604 => ?_) (fun c604 => ?_)
    · replace H := Gets.ct H c604
      refine WP.skip ?_
      refine WP.seq ?_
      refine WP.block ?_
      refine WP.seq ?_
      refine WP.dreg Try.checked.mixed [(0, false), (1, false), (2, false), (3, false), (4, false), (5, false), (6, false), (7, false), (8, false), (9, true), (10, true), (11, false)] (by kernel_rfl) ?_
      refine Dv.ldbs rfl trivial rfl Try.underlying26 rfl c26 (mem_at 0 rfl) (Nat.le_of_ble_eq_true rfl) ?_
      refine Dv.mv rfl trivial rfl ?_
      refine Dv.mv rfl trivial rfl ?_
      obtain ⟨g605, H⟩ := Gets.grd H
      refine Dv.ixr rfl trivial rfl rfl Try.underlying36 Try.underlying42 c42 g605.1 g605.2 ?_
      refine Dv.ldrs rfl trivial rfl Try.underlying42 rfl c42 (Nat.le_of_ble_eq_true rfl) ?_
      obtain ⟨t606, h607, H⟩ := Gets.call H
      refine Dv.call rfl trivial cal24 rfl (concourseref10_Add.c h607) ?_
      refine Dv.mv rfl trivial rfl ?_
      refine Dv.ext rfl trivial rfl rfl ?_
      refine Dv.ext rfl trivial rfl rfl ?_
      refine Dv.alloc (z := .agg #[.slice none 0 0]) (qs := [eq (.slice none 0 0)]) rfl trivial z26 rfl (fun _ => (pend_in (fun _ => trivial) (pend_in (fun _ => trivial) (pend_in (fun _ => trivial) (pend_in (fun _ => trivial) (pend_in (fun _ => trivial) (pend_in (fun _ => trivial) (pend_in (fun _ => trivial) (pend_in (fun _ => trivial) (pend_in (fun _ => (mem_at 1 rfl)) pend_nil)))))))))) (fun b608 => ?_)
      refine Dv.stx ([blk b608 26 [sl RDag.K t606.1.fD], blk b600 26 [sl RDag.K x603], blk b599 26 [eq (.slice none 0 0)]] ++ F) rfl trivial rfl rfl (cells_agg (RView.K.one _)) Try.underlying26 c26 rfl (j := 0) rfl (Nat.le_of_ble_eq_true rfl) rfl (fun _ => (pend_in (fun _ => trivial) (pend_by (by kernel_rfl) (pend_by (by kernel_rfl) (pend_by (by kernel_rfl) (pend_by (by kernel_rfl) (pend_by (by kernel_rfl) (pend_by (by kernel_rfl) (pend_by (by kernel_rfl) (pend_by (by kernel_rfl) pend_nil)))))))))) ?_
      refine Dv.asg rfl trivial rfl ?_
      refine .fin ?_
      refine WP.reg [(0, false), (1, true)] (by kernel_rfl) ?_
      refine Dv.ldbs rfl trivial rfl Try.underlying26 rfl c26 (mem_at 0 rfl) (Nat.le_of_ble_eq_true rfl) ?_
      refine Dv.stx ([blk b608 26 [sl RDag.K t606.1.fD], blk b600 26 [sl RDag.K t606.1.fD], blk b599 26 [eq (.slice none 0 0)]] ++ F) rfl trivial rfl rfl (cells_agg (RView.K.one _)) Try.underlying26 c26 rfl (j := 1) rfl (Nat.le_of_ble_eq_true rfl) rfl nofun ?_
      refine .fin ?_
      refine WP.reg [(0, false), (1, false), (2, false)] (by kernel_rfl) ?_
      refine Dv.mv rfl trivial rfl ?_
      refine Dv.bin rfl trivial rfl rfl (fun _ => run_add) ?_
      refine Dv.asg rfl trivial rfl ?_
      refine .fin ?_
      refine Dn.gh (l' := fun _ : Unit => [blk b600 26 [sl RDag.K t606.1.fD], blk b599 26 [eq (.slice none 0 0)]] ++ F) (gh_of (st_selg (L := [blk b608 26 [sl RDag.K t606.1.fD], blk b600 26 [sl RDag.K t606.1.fD], blk b599 26 [eq (.slice none 0 0)]]) (F := F) [0, 1, 2] 1 rfl rfl rfl)) (fun _ _ => ?_)
      exact Back.mk j609 (w64 (x602 + 1), t606.1.fD) (Nat.lt_succ_self _) H (weak_cons rfl (weak_cons rfl (weak_cons rfl (weak_cons rfl weak_nil)))) (List.Perm.refl _)
    · replace H := Gets.cf H c604
      refine WP.exit ?_
      replace H := Gets.out H
      exact Jn.mk (x602, decide (x602 < (a0.length : Int)), x603) H (weak_cons rfl (weak_cons rfl (weak_cons rfl (weak_cons rfl (weak_cons rfl weak_nil))))) (List.Perm.refl _)
theorem concourselaw10_build.c {k : Nat} {a0 : List GMade} {a1 : List GMade} {r : (Option VView) × RView} (h : concourselaw10_build.f k a0 a1 = some r) : Tr Try.prog 4 [sl GMade.K a0, sl GMade.K a1] [] (γ := OV) (fun _ => True) (fun g => tup [eq g.1, agg (RView.enc r.2)]) (fun g => [optO VView.O g r.1]) := by
  unfold concourselaw10_build.f at h
  refine Tr.body Try.func4 (c := _) rfl Try.ntmps4 (Nat.le_of_ble_eq_true rfl) fun R0 F => ?_
  replace h := Gets.of h
  have H := h
  clear h
  refine WP.seq ?_
  refine WP.reg [(0, false), (1, true)] (by kernel_rfl) ?_
  refine Dv.asg rfl trivial rfl ?_
  refine Dv.alloc (z := .agg #[.slice none 0 0]) (qs := [eq (.slice none 0 0)]) rfl trivial z26 rfl nofun (fun b611 => ?_)
  refine .fin ?_
  refine WP.seq ?_
  refine WP.reg [(0, false), (1, false), (2, true), (3, false)] (by kernel_rfl) ?_
  refine Dv.mv rfl trivial rfl ?_
  refine Dv.mv rfl trivial rfl ?_
  obtain ⟨t612, h613, H⟩ := Gets.call H
  refine Dv.callx (pre := []) (F := [blk b611 26 [eq (.slice none 0 0)]] ++ F) (fun g614 : OV => [own Event.K g614.1 t612, blk b611 26 [eq (.slice none 0 0)]] ++ F) rfl trivial cal12 rfl (concourseref10_Made.c h613) (perm_to (L := [blk b611 26 [eq (.slice none 0 0)]]) (F := F) [0] rfl rfl rfl) rfl nofun (fun g614 _ => ?_)
  refine Dv.asg rfl trivial rfl ?_
  refine .fin ?_
  refine WP.seq ?_
  refine WP.reg [(0, true), (1, false)] (by kernel_rfl) ?_
  obtain ⟨t615, h616, H⟩ := Gets.call H
  refine Dv.callx (pre := []) (F := [own Event.K g614.1 t612, blk b611 26 [eq (.slice none 0 0)]] ++ F) (fun g617 : OV => [VView.O g617 t615, own Event.K g614.1 t612, blk b611 26 [eq (.slice none 0 0)]] ++ F) rfl trivial cal13 rfl (view_New.c h616) (perm_to (L := [own Event.K g614.1 t612, blk b611 26 [eq (.slice none 0 0)]]) (F := F) [0, 1] rfl rfl rfl) rfl nofun (fun g617 _ => ?_)
  refine Dv.asg rfl trivial rfl ?_
  refine .fin ?_
  refine WP.seq ?_
  refine WP.seq ?_
  refine WP.reg [(0, false), (1, false)] (by kernel_rfl) ?_
  refine Dv.mv rfl trivial rfl ?_
  refine Dv.peq0 VView.nn rfl trivial rfl rfl Try.underlying23 (mem_at 0 rfl) ?_
  refine .fin ?_
  refine WP.cond rfl nofun (fun _ => ?_)
  refine WP.skip ?_
  refine WP.seqr H id (fun p619 : Int × Bool × VView => [(0, sl GMade.K a0), (1, sl GMade.K a1), (4, eq (.pointer none)), (5, eq (.pointer (some ⟨b611, 0, none⟩))), (6, eq g614.1), (7, eq g617.1), (8, eq (.int .i64 p619.1)), (14, eq (.bool false)), (19, eq (.bool p619.2.1))]) (fun p619 : Int × Bool × VView => [blk b611 26 [eq (.slice none 0 0)], VView.O g617 p619.2.2, own Event.K g614.1 t612] ++ F) (fun p619 H => ?_) (fun H => ?_)
  · refine WP.seq ?_
    refine WP.reg [(0, false), (1, false), (2, false), (3, false), (4, true)] (by kernel_rfl) ?_
    refine Dv.mv rfl trivial rfl ?_
    refine Dv.mv rfl trivial rfl ?_
    refine Dv.gh (gh_frz (E' := [(0, sl GMade.K a0), (1, sl GMade.K a1), (4, eq (.pointer none)), (5, eq (.pointer (some ⟨b611, 0, none⟩))), (6, sl Event.K t612), (7, eq g617.1), (8, eq (.int .i64 p619.1)), (14, eq (.bool false)), (19, eq (.bool p619.2.1)), (30, eq g617.1), (31, sl Event.K t612)]) (l' := [blk b611 26 [eq (.slice none 0 0)], VView.O g617 p619.2.2] ++ F) 2 rfl (cve_cons rfl cv_id (cve_cons rfl cv_id (cve_cons rfl cv_id (cve_cons rfl cv_id (cve_cons rfl cv_eq (cve_cons rfl cv_id (cve_cons rfl cv_id (cve_cons rfl cv_id (cve_cons rfl cv_id (cve_cons rfl cv_id (cve_cons rfl cv_eq cve_nil))))))))))) (all2_app (.cons cva_id (.cons cva_id .nil)) fun _ => cva_id)) (fun _ _ => ?_)
    obtain ⟨t620, h621, H⟩ := Gets.call H
    refine Dv.call rfl trivial cal15 rfl (concourseref10_Build.c h621) ?_
    refine Dv.asg rfl trivial rfl ?_
    refine Dv.stx ([blk b611 26 [sl RDag.K t620.fD], VView.O g617 p619.2.2] ++ F) rfl trivial rfl rfl (cells_agg (RView.K.one _)) Try.underlying26 c26 rfl (j := 0) rfl (Nat.le_of_ble_eq_true rfl) rfl nofun ?_
    refine .fin ?_
    obtain rfl := Gets.out H
    exact WP.retL (fun _ _ h => h) rfl g617 trivial (.cons (res_tmp rfl) (.cons (res_cells rfl Try.underlying26 rfl c26 (mem_at 0 rfl) rfl) .nil)) rfl (st_sel (L := [blk b611 26 [sl RDag.K t620.fD], VView.O g617 p619.2.2]) (F := F) [0, 1] 1 rfl rfl rfl)
  · refine WP.seq ?_
    refine WP.reg [(0, false)] (by kernel_rfl) ?_
    refine Dv.asg rfl trivial rfl ?_
    refine .fin ?_
    refine WP.block ?_
    refine WP.gh (l' := fun _ => [blk b611 26 [eq (.slice none 0 0)], VView.O g617 t615, own Event.K g614.1 t612] ++ F) (gh_of (st_selg (L := [VView.O g617 t615, own Event.K g614.1 t612, blk b611 26 [eq (.slice none 0 0)]]) (F := F) [2, 0, 1] 0 rfl rfl rfl)) (fun _ _ => ?_)
    refine WP.loopg (fun j_ (p631 : Int × VView) => concourselaw10_build.l0 k t612 j_ p631.1 p631.2) (0, t615) H (fun p631 => [(0, sl GMade.K a0), (1, sl GMade.K a1), (4, eq (.pointer none)), (5, eq (.pointer (some ⟨b611, 0, none⟩))), (6, eq g614.1), (7, eq g617.1), (8, eq (.int .i64 p631.1)), (14, eq (.bool false))]) (fun p631 => [blk b611 26 [eq (.slice none 0 0)], VView.O g617 p631.2, own Event.K g614.1 t612] ++ F) (weak_cons rfl (weak_cons rfl (weak_cons rfl (weak_cons rfl (weak_cons rfl (weak_cons rfl (weak_cons rfl (weak_cons rfl weak_nil)))))))) (List.Perm.refl _) ?_
    rintro j_ ⟨x622, x623⟩ H
    rcases j_ with _ | j630
    · exact (Gets.no H).elim
    replace H : Gets (concourselaw10_build.l0 k t612 (j630 + 1) x622 x623) _ := H
    rw [concourselaw10_build.l0] at H
    refine WP.seq ?_
    refine WP.seq ?_
    refine WP.reg [(0, false), (1, false), (2, false), (3, false)] (by kernel_rfl) ?_
    refine Dv.mv rfl trivial rfl ?_
    refine Dv.mv rfl trivial rfl ?_
    refine Dv.lenw rfl trivial rfl (mem_at 2 rfl) Try.underlying36 ?_
    refine Dv.bin rfl trivial rfl rfl (fun _ => run_lt) ?_
    refine .fin ?_
    refine WP.cond rfl (fun c624 => ?_) (fun c624 => ?_)
    · replace H := Gets.ct H c624
      refine WP.skip ?_
      refine WP.seq ?_
      refine WP.block ?_
      refine WP.seq ?_
      refine WP.reg [(0, false), (1, false), (2, false), (3, false), (4, false), (5, true), (6, false)] (by kernel_rfl) ?_
      refine Dv.mv rfl trivial rfl ?_
      refine Dv.mv rfl trivial rfl ?_
      refine Dv.mv rfl trivial rfl ?_
      obtain ⟨g625, H⟩ := Gets.grd H
      have h626 : x622.toNat < t612.length := idx_lt g625
      refine Dv.ixw rfl trivial rfl (mem_at 2 rfl) rfl Try.underlying36 Try.underlying42 c42 g625.1 g625.2 ?_
      refine Dv.ldws (j := x622.toNat) (f := 0) rfl trivial rfl (mem_at 2 rfl) h626 Try.underlying42 rfl c42 (Nat.le_of_ble_eq_true rfl) ?_
      obtain ⟨t627, h628, H⟩ := Gets.call H
      refine Dv.callx (pre := [VView.O g617 x623]) (F := [blk b611 26 [eq (.slice none 0 0)], own Event.K g614.1 t612] ++ F) (fun _ : Unit => [VView.O g617 t627.2, blk b611 26 [eq (.slice none 0 0)], own Event.K g614.1 t612] ++ F) rfl trivial cal14 rfl (view_View_Add.c h628 (p0_ := g617)) (perm_to (L := [blk b611 26 [eq (.slice none 0 0)], VView.O g617 x623, own Event.K g614.1 t612]) (F := F) [1, 0, 2] rfl rfl rfl) rfl nofun (fun _ _ => ?_)
      refine Dv.bin rfl trivial rfl rfl (fun _ => run_ne) ?_
      refine .fin ?_
      refine WP.cond rfl (fun c629 => ?_) (fun c629 => ?_)
      · replace H := Gets.ct H c629
        refine WP.seq ?_
        refine WP.reg [(0, false), (1, false), (2, true)] (by kernel_rfl) ?_
        refine Dv.bld (css := []) rfl trivial Try.underlying26 pl26 z26 rfl trivial rfl rfl ?_
        refine Dv.asg rfl trivial rfl ?_
        refine Dv.stx ([VView.O g617 t627.2, blk b611 26 [eq (.slice none 0 0)], own Event.K g614.1 t612] ++ F) rfl trivial rfl rfl (cells_agg (ones_cons (one_eq rfl) ones_nil)) Try.underlying26 c26 rfl (j := 1) rfl (Nat.le_of_ble_eq_true rfl) rfl nofun ?_
        refine .fin ?_
        refine WP.gh (l' := fun _ : Unit => [optO VView.O nilP none, VView.O g617 t627.2, blk b611 26 [eq (.slice none 0 0)], own Event.K g614.1 t612] ++ F) (gh_of (st_nilP (O := VView.O))) (fun _ _ => ?_)
        replace H := Gets.outr H
        obtain rfl := Gets.out H
        exact WP.retL (fun _ _ h => h) rfl nilP trivial (.cons (res_tmp rfl) (.cons (res_wk (res_cells rfl Try.underlying26 rfl c26 (mem_at 2 rfl) rfl) (wk_agg (.cons wk_nil .nil))) .nil)) rfl (st_sel (L := [optO VView.O nilP none, VView.O g617 t627.2, blk b611 26 [eq (.slice none 0 0)], own Event.K g614.1 t612]) (F := F) [1, 2, 3, 0] 3 rfl rfl rfl)
      · replace H := Gets.cf H c629
        refine WP.skip ?_
        refine WP.reg [(0, false), (1, false), (2, false)] (by kernel_rfl) ?_
        refine Dv.mv rfl trivial rfl ?_
        refine Dv.bin rfl trivial rfl rfl (fun _ => run_add) ?_
        refine Dv.asg rfl trivial rfl ?_
        refine .fin ?_
        refine Dn.gh (l' := fun _ : Unit => [blk b611 26 [eq (.slice none 0 0)], VView.O g617 t627.2, own Event.K g614.1 t612] ++ F) (gh_of (st_selg (L := [VView.O g617 t627.2, blk b611 26 [eq (.slice none 0 0)], own Event.K g614.1 t612]) (F := F) [1, 0, 2] 0 rfl rfl rfl)) (fun _ _ => ?_)
        exact Back.mk j630 (w64 (x622 + 1), t627.2) (Nat.lt_succ_self _) H (weak_cons rfl (weak_cons rfl (weak_cons rfl (weak_cons rfl (weak_cons rfl (weak_cons rfl (weak_cons rfl (weak_cons rfl weak_nil)))))))) (List.Perm.refl _)
    · replace H := Gets.cf H c624
      refine WP.exit ?_
      replace H := Gets.out H
      exact Jn.mk (x622, decide (x622 < (t612.length : Int)), x623) H (weak_cons rfl (weak_cons rfl (weak_cons rfl (weak_cons rfl (weak_cons rfl (weak_cons rfl (weak_cons rfl (weak_cons rfl (weak_cons rfl weak_nil))))))))) (List.Perm.refl _)
theorem concourseref01_Few.c {a0 : ByteArray} {a1 : Int} {r : ByteArray} (h : concourseref01_Few.f a0 a1 = some r) : Pt Try.prog 5 [eq (.string a0), eq (.int .i64 a1)] (eq (.string r)) := by
  unfold concourseref01_Few.f at h
  refine (Tr.body Try.func5 (c := _) rfl Try.ntmps5 (Nat.le_of_ble_eq_true rfl) fun R0 F => ?_).pt
  replace h := Gets.of h
  have H := h
  clear h
  refine WP.seq ?_
  refine WP.reg [(0, false)] (by kernel_rfl) ?_
  refine Dv.asg rfl trivial rfl ?_
  refine .fin ?_
  refine WP.seq ?_
  refine WP.seq ?_
  refine WP.reg [(0, false), (1, false), (2, false), (3, false)] (by kernel_rfl) ?_
  refine Dv.mv rfl trivial rfl ?_
  refine Dv.lens rfl trivial rfl Try.underlying9 ?_
  refine Dv.mv rfl trivial rfl ?_
  refine Dv.bin rfl trivial rfl rfl (fun _ => run_gt) ?_
  refine .fin ?_
  refine WP.cond rfl (fun c632 => ?_) (fun c632 => ?_)
  · replace H := Gets.ct H c632
    refine WP.seq ?_
    refine WP.reg [(0, false), (1, false), (2, false), (3, false)] (by kernel_rfl) ?_
    refine Dv.mv rfl trivial rfl ?_
    refine Dv.mv rfl trivial rfl ?_
    obtain ⟨g633, H⟩ := Gets.grd H
    refine Dv.sss rfl trivial rfl Try.underlying9 bdE_none (bdE_some rfl g633.1) g633.2.1 g633.2.2 ?_
    refine Dv.asg rfl trivial rfl ?_
    refine .fin ?_
    obtain rfl := Gets.out H
    exact WP.retL (fun _ _ h => h) rfl () trivial (.cons (res_tmp rfl) .nil) rfl (st_sel (L := []) (F := F) [] 0 rfl rfl rfl)
  · replace H := Gets.cf H c632
    refine WP.skip ?_
    refine WP.seq ?_
    refine WP.reg [(0, false), (1, false)] (by kernel_rfl) ?_
    refine Dv.mv rfl trivial rfl ?_
    refine Dv.asg rfl trivial rfl ?_
    refine .fin ?_
    obtain rfl := Gets.out H
    exact WP.retL (fun _ _ h => h) rfl () trivial (.cons (res_tmp rfl) .nil) rfl (st_sel (L := []) (F := F) [] 0 rfl rfl rfl)
theorem concourseref01_ThreadOf.c {k : Nat} {a0 : Int} {r : ByteArray} (h : concourseref01_ThreadOf.f k a0 = some r) : Pt Try.prog 8 [eq (.int .i64 a0)] (eq (.string r)) := by
  unfold concourseref01_ThreadOf.f at h
  refine (Tr.body Try.func8 (c := _) rfl Try.ntmps8 (Nat.le_of_ble_eq_true rfl) fun R0 F => ?_).pt
  replace h := Gets.of h
  have H := h
  clear h
  refine WP.seq ?_
  refine WP.reg [(0, false)] (by kernel_rfl) ?_
  refine Dv.asg rfl trivial rfl ?_
  refine .fin ?_
  refine WP.seq ?_
  refine WP.reg [(0, false), (1, false), (2, false)] (by kernel_rfl) ?_
  refine Dv.mv rfl trivial rfl ?_
  obtain ⟨t634, h635, H⟩ := Gets.call H
  refine Dv.call rfl trivial cal16 rfl (concourseref01_Around.c h635) ?_
  refine Dv.asg rfl trivial rfl ?_
  refine .fin ?_
  refine WP.seq ?_
  refine WP.seq ?_
  refine WP.reg [(0, false), (1, false)] (by kernel_rfl) ?_
  refine Dv.mv rfl trivial rfl ?_
  refine Dv.bin rfl trivial rfl rfl (fun _ => run_eq) ?_
  refine .fin ?_
  refine WP.cond rfl (fun c636 => ?_) (fun c636 => ?_)
  · replace H := Gets.ct H c636
    refine WP.seq ?_
    refine WP.reg [(0, false)] (by kernel_rfl) ?_
    refine Dv.asg rfl trivial rfl ?_
    refine .fin ?_
    obtain rfl := Gets.out H
    exact WP.retL (fun _ _ h => h) rfl () trivial (.cons (res_tmp rfl) .nil) rfl (st_sel (L := []) (F := F) [] 0 rfl rfl rfl)
  · replace H := Gets.cf H c636
    refine WP.skip ?_
    refine WP.seq ?_
    refine WP.seq ?_
    refine WP.reg [(0, false), (1, false)] (by kernel_rfl) ?_
    refine Dv.mv rfl trivial rfl ?_
    refine Dv.bin rfl trivial rfl rfl (fun _ => run_eq) ?_
    refine .fin ?_
    refine WP.cond rfl (fun c637 => ?_) (fun c637 => ?_)
    · replace H := Gets.ct H c637
      refine WP.seq ?_
      refine WP.reg [(0, false)] (by kernel_rfl) ?_
      refine Dv.asg rfl trivial rfl ?_
      refine .fin ?_
      obtain rfl := Gets.out H
      exact WP.retL (fun _ _ h => h) rfl () trivial (.cons (res_tmp rfl) .nil) rfl (st_sel (L := []) (F := F) [] 0 rfl rfl rfl)
    · replace H := Gets.cf H c637
      refine WP.skip ?_
      refine WP.seq ?_
      refine WP.reg [(0, false), (1, false), (2, false)] (by kernel_rfl) ?_
      refine Dv.mv rfl trivial rfl ?_
      obtain ⟨t638, h639, H⟩ := Gets.call H
      refine Dv.call rfl trivial cal7 rfl (concourseref01_EventOf.c h639) ?_
      refine Dv.asg rfl trivial rfl ?_
      refine .fin ?_
      obtain rfl := Gets.out H
      exact WP.retL (fun _ _ h => h) rfl () trivial (.cons (res_tmp rfl) .nil) rfl (st_sel (L := []) (F := F) [] 0 rfl rfl rfl)
theorem dag_Dag_Event.c {a0 : DDag} {a1 : ByteArray} {v0_0 : OV} {b0_ : Nat} {r : Event × Bool} (h : dag_Dag_Event.f a0 a1 = some r) : Tr Try.prog 19 [eq (.pointer (some ⟨b0_, 0, none⟩)), eq (.string a1)] [blk b0_ 67 [eq (.string a0.froom), eq v0_0.1], mpo Value.string DNode.O v0_0.1 a0.fnodes] (γ := Unit) (fun _ => True) (fun g => tup [agg (Event.enc r.1), eq (.bool r.2)]) (fun g => [blk b0_ 67 [eq (.string a0.froom), eq v0_0.1], mpo Value.string DNode.O v0_0.1 a0.fnodes]) := by
  unfold dag_Dag_Event.f at h
  refine Tr.body Try.func19 (c := _) rfl Try.ntmps19 (Nat.le_of_ble_eq_true rfl) fun R0 F => ?_
  replace h := Gets.of h
  have H := h
  clear h
  refine WP.seq ?_
  refine WP.reg [(0, true), (1, false)] (by kernel_rfl) ?_
  refine Dv.alloc (z := .agg #[.string ⟨#[]⟩, .string ⟨#[]⟩, .slice none 0 0, .string ⟨#[]⟩, .string ⟨#[]⟩, .int .i64 0]) (qs := [eq (.string (⟨#[]⟩ : ByteArray)), eq (.string (⟨#[]⟩ : ByteArray)), eq (.slice none 0 0), eq (.string (⟨#[]⟩ : ByteArray)), eq (.string (⟨#[]⟩ : ByteArray)), eq (.int .i64 0)]) rfl trivial z42 rfl nofun (fun b640 => ?_)
  refine Dv.asg rfl trivial rfl ?_
  refine .fin ?_
  refine WP.seq ?_
  refine WP.seq ?_
  refine WP.reg [(0, false), (1, false), (2, false), (3, false)] (by kernel_rfl) ?_
  refine Dv.mv rfl trivial rfl ?_
  refine Dv.mv rfl trivial rfl ?_
  obtain ⟨t641, h642, H⟩ := Gets.call H
  refine Dv.calll (B := [blk b0_ 67 [eq (.string a0.froom), eq v0_0.1], mpo Value.string DNode.O v0_0.1 a0.fnodes]) (F := [blk b640 42 [eq (.string (⟨#[]⟩ : ByteArray)), eq (.string (⟨#[]⟩ : ByteArray)), eq (.slice none 0 0), eq (.string (⟨#[]⟩ : ByteArray)), eq (.string (⟨#[]⟩ : ByteArray)), eq (.int .i64 0)]] ++ F) rfl trivial cal26 rfl (dag_Dag_Has.c h642 (b0_ := b0_) (v0_0 := v0_0)) (perm_to (L := [blk b640 42 [eq (.string (⟨#[]⟩ : ByteArray)), eq (.string (⟨#[]⟩ : ByteArray)), eq (.slice none 0 0), eq (.string (⟨#[]⟩ : ByteArray)), eq (.string (⟨#[]⟩ : ByteArray)), eq (.int .i64 0)], blk b0_ 67 [eq (.string a0.froom), eq v0_0.1], mpo Value.string DNode.O v0_0.1 a0.fnodes]) (F := F) [1, 2, 0] rfl rfl rfl) ?_
  refine Dv.un rfl trivial rfl (fun _ => run_not _) ?_
  refine .fin ?_
  refine WP.cond rfl (fun c643 => ?_) (fun c643 => ?_)
  · replace H := Gets.ct H c643
    refine WP.seq ?_
    refine WP.reg [(0, false), (1, true), (2, false)] (by kernel_rfl) ?_
    refine Dv.bld (css := []) rfl trivial Try.underlying42 pl42 z42 rfl trivial rfl rfl ?_
    refine Dv.stx ([blk b640 42 [eq (.string (⟨#[]⟩ : ByteArray)), eq (.string (⟨#[]⟩ : ByteArray)), eq (.slice none 0 0), eq (.string (⟨#[]⟩ : ByteArray)), eq (.string (⟨#[]⟩ : ByteArray)), eq (.int .i64 0)], blk b0_ 67 [eq (.string a0.froom), eq v0_0.1], mpo Value.string DNode.O v0_0.1 a0.fnodes] ++ F) rfl trivial rfl rfl (cells_agg (ones_cons (one_eq rfl) (ones_cons (one_eq rfl) (ones_cons (one_eq rfl) (ones_cons (one_eq rfl) (ones_cons (one_eq rfl) (ones_cons (one_eq rfl) ones_nil))))))) Try.underlying42 c42 rfl (j := 0) rfl (Nat.le_of_ble_eq_true rfl) rfl nofun ?_
    refine Dv.asg rfl trivial rfl ?_
    refine .fin ?_
    obtain rfl := Gets.out H
    exact WP.retL (fun _ _ h => h) rfl () trivial (.cons (res_wk (res_cells rfl Try.underlying42 rfl c42 (mem_at 0 rfl) rfl) (wk_agg (.cons wk_id (.cons wk_id (.cons wk_nil (.cons wk_id (.cons wk_id (.cons wk_id .nil)))))))) (.cons (res_tmp rfl) .nil)) rfl (st_sel (L := [blk b640 42 [eq (.string (⟨#[]⟩ : ByteArray)), eq (.string (⟨#[]⟩ : ByteArray)), eq (.slice none 0 0), eq (.string (⟨#[]⟩ : ByteArray)), eq (.string (⟨#[]⟩ : ByteArray)), eq (.int .i64 0)], blk b0_ 67 [eq (.string a0.froom), eq v0_0.1], mpo Value.string DNode.O v0_0.1 a0.fnodes]) (F := F) [0, 1, 2] 1 rfl rfl rfl)
  · replace H := Gets.cf H c643
    refine WP.skip ?_
    refine WP.seq ?_
    refine WP.reg [(0, false), (1, false), (2, false), (3, false), (4, false), (5, false), (6, false), (7, false), (8, false), (9, false), (10, true), (11, false)] (by kernel_rfl) ?_
    refine Dv.mv rfl trivial rfl ?_
    refine Dv.nilp rfl trivial rfl ?_
    refine Dv.fab rfl trivial rfl Try.underlying67 rfl Try.underlying65 c65 (by decide) ?_
    refine Dv.ldb rfl trivial rfl Try.underlying65 rfl (mem_at 1 rfl) rfl ?_
    refine Dv.mv rfl trivial rfl ?_
    refine Dv.gh (l' := fun z644 : List OV => [mp Value.string (fun p : OV => eq p.1) v0_0.1 (zipK a0.fnodes z644), thg DNode.O a0.fnodes z644, blk b640 42 [eq (.string (⟨#[]⟩ : ByteArray)), eq (.string (⟨#[]⟩ : ByteArray)), eq (.slice none 0 0), eq (.string (⟨#[]⟩ : ByteArray)), eq (.string (⟨#[]⟩ : ByteArray)), eq (.int .i64 0)], blk b0_ 67 [eq (.string a0.froom), eq v0_0.1]] ++ F) (gh_of (mpo_opn 2 rfl)) (fun z644 h645 => ?_)
    refine Dv.mlv nilP rfl trivial rfl (mem_at 0 rfl) rfl Try.underlying65 (keyOk_str Try.underlying9) z64 (fun _ => rfl) ?_
    obtain ⟨g646, H⟩ := Gets.grd H
    refine Dv.gh (l' := fun _ : Unit => [DNode.O ((mget (zipK a0.fnodes z644) a1).getD nilP) ((mget a0.fnodes a1).getD default), thgB DNode.O a0.fnodes z644 a1, mp Value.string (fun p : OV => eq p.1) v0_0.1 (zipK a0.fnodes z644), blk b640 42 [eq (.string (⟨#[]⟩ : ByteArray)), eq (.string (⟨#[]⟩ : ByteArray)), eq (.slice none 0 0), eq (.string (⟨#[]⟩ : ByteArray)), eq (.string (⟨#[]⟩ : ByteArray)), eq (.int .i64 0)], blk b0_ 67 [eq (.string a0.froom), eq v0_0.1]] ++ F) (gh_of (mpo_foc h645 rfl g646 (perm_to (L := [mp Value.string (fun p : OV => eq p.1) v0_0.1 (zipK a0.fnodes z644), thg DNode.O a0.fnodes z644, blk b640 42 [eq (.string (⟨#[]⟩ : ByteArray)), eq (.string (⟨#[]⟩ : ByteArray)), eq (.slice none 0 0), eq (.string (⟨#[]⟩ : ByteArray)), eq (.string (⟨#[]⟩ : ByteArray)), eq (.int .i64 0)], blk b0_ 67 [eq (.string a0.froom), eq v0_0.1]]) (F := F) [1, 0, 2, 3] rfl rfl rfl))) (fun _ _ => ?_)
    refine Dv.nilA DNode.nn rfl trivial rfl (mem_at 0 rfl) ?_
    refine Dv.gh (l' := fun (g647 : Nat) => [blk g647 63 [eq (.string ((((mget a0.fnodes a1).getD default).fe).fID)), eq (.string ((((mget a0.fnodes a1).getD default).fe).fRoom)), sl strK ((((mget a0.fnodes a1).getD default).fe).fParents), eq (.string ((((mget a0.fnodes a1).getD default).fe).fThread)), eq (.string ((((mget a0.fnodes a1).getD default).fe).fUser)), eq (.int .i64 ((((mget a0.fnodes a1).getD default).fe).fDoes)), eq (.int .i64 (((mget a0.fnodes a1).getD default).fdepth)), eq (.bool (((mget a0.fnodes a1).getD default).fparent))], thgB DNode.O a0.fnodes z644 a1, mp Value.string (fun p : OV => eq p.1) v0_0.1 (zipK a0.fnodes z644), blk b640 42 [eq (.string (⟨#[]⟩ : ByteArray)), eq (.string (⟨#[]⟩ : ByteArray)), eq (.slice none 0 0), eq (.string (⟨#[]⟩ : ByteArray)), eq (.string (⟨#[]⟩ : ByteArray)), eq (.int .i64 0)], blk b0_ 67 [eq (.string a0.froom), eq v0_0.1]] ++ F) (gh_of (DNode.opn 0 rfl)) (fun g647 h648 => ?_)
    refine Dv.fabp h648 rfl trivial rfl Try.underlying63 rfl Try.underlying42 c42 (by decide) ?_
    refine Dv.ldbs rfl trivial rfl Try.underlying42 rfl c42 (mem_at 0 rfl) (Nat.le_of_ble_eq_true rfl) ?_
    obtain ⟨t649, h650, H⟩ := Gets.call H
    refine Dv.call rfl trivial cal27 rfl (dag_own.c h650) ?_
    refine Dv.stx ([blk g647 63 [eq (.string ((((mget a0.fnodes a1).getD default).fe).fID)), eq (.string ((((mget a0.fnodes a1).getD default).fe).fRoom)), sl strK ((((mget a0.fnodes a1).getD default).fe).fParents), eq (.string ((((mget a0.fnodes a1).getD default).fe).fThread)), eq (.string ((((mget a0.fnodes a1).getD default).fe).fUser)), eq (.int .i64 ((((mget a0.fnodes a1).getD default).fe).fDoes)), eq (.int .i64 (((mget a0.fnodes a1).getD default).fdepth)), eq (.bool (((mget a0.fnodes a1).getD default).fparent))], thgB DNode.O a0.fnodes z644 a1, mp Value.string (fun p : OV => eq p.1) v0_0.1 (zipK a0.fnodes z644), blk b640 42 [eq (.string t649.fID), eq (.string t649.fRoom), sl strK t649.fParents, eq (.string t649.fThread), eq (.string t649.fUser), eq (.int .i64 t649.fDoes)], blk b0_ 67 [eq (.string a0.froom), eq v0_0.1]] ++ F) rfl trivial rfl rfl (cells_agg (Event.K.one _)) Try.underlying42 c42 rfl (j := 3) rfl (Nat.le_of_ble_eq_true rfl) rfl nofun ?_
    refine Dv.asg rfl trivial rfl ?_
    refine .fin ?_
    refine WP.gh (l' := fun _ : Unit => [DNode.O ((mget (zipK a0.fnodes z644) a1).getD nilP) ((mget a0.fnodes a1).getD default), thgB DNode.O a0.fnodes z644 a1, mp Value.string (fun p : OV => eq p.1) v0_0.1 (zipK a0.fnodes z644), blk b640 42 [eq (.string t649.fID), eq (.string t649.fRoom), sl strK t649.fParents, eq (.string t649.fThread), eq (.string t649.fUser), eq (.int .i64 t649.fDoes)], blk b0_ 67 [eq (.string a0.froom), eq v0_0.1]] ++ F) (gh_of (DNode.shut (p := ((mget (zipK a0.fnodes z644) a1).getD nilP)) (m := (mget a0.fnodes a1).getD default) (r := [thgB DNode.O a0.fnodes z644 a1, mp Value.string (fun p : OV => eq p.1) v0_0.1 (zipK a0.fnodes z644), blk b640 42 [eq (.string t649.fID), eq (.string t649.fRoom), sl strK t649.fParents, eq (.string t649.fThread), eq (.string t649.fUser), eq (.int .i64 t649.fDoes)], blk b0_ 67 [eq (.string a0.froom), eq v0_0.1]] ++ F) g647 h648 (perm_to (L := [blk g647 63 [eq (.string ((((mget a0.fnodes a1).getD default).fe).fID)), eq (.string ((((mget a0.fnodes a1).getD default).fe).fRoom)), sl strK ((((mget a0.fnodes a1).getD default).fe).fParents), eq (.string ((((mget a0.fnodes a1).getD default).fe).fThread)), eq (.string ((((mget a0.fnodes a1).getD default).fe).fUser)), eq (.int .i64 ((((mget a0.fnodes a1).getD default).fe).fDoes)), eq (.int .i64 (((mget a0.fnodes a1).getD default).fdepth)), eq (.bool (((mget a0.fnodes a1).getD default).fparent))], thgB DNode.O a0.fnodes z644 a1, mp Value.string (fun p : OV => eq p.1) v0_0.1 (zipK a0.fnodes z644), blk b640 42 [eq (.string t649.fID), eq (.string t649.fRoom), sl strK t649.fParents, eq (.string t649.fThread), eq (.string t649.fUser), eq (.int .i64 t649.fDoes)], blk b0_ 67 [eq (.string a0.froom), eq v0_0.1]]) (F := F) [0, 1, 2, 3, 4] (by kernel_rfl) rfl rfl))) (fun _ _ => ?_)
    refine WP.gh (l' := fun _ : Unit => [thg DNode.O a0.fnodes z644, mp Value.string (fun p : OV => eq p.1) v0_0.1 (zipK a0.fnodes z644), blk b640 42 [eq (.string t649.fID), eq (.string t649.fRoom), sl strK t649.fParents, eq (.string t649.fThread), eq (.string t649.fUser), eq (.int .i64 t649.fDoes)], blk b0_ 67 [eq (.string a0.froom), eq v0_0.1]] ++ F) (gh_of (mpo_unf0 h645 rfl g646 (perm_to (L := [DNode.O ((mget (zipK a0.fnodes z644) a1).getD nilP) ((mget a0.fnodes a1).getD default), thgB DNode.O a0.fnodes z644 a1, mp Value.string (fun p : OV => eq p.1) v0_0.1 (zipK a0.fnodes z644), blk b640 42 [eq (.string t649.fID), eq (.string t649.fRoom), sl strK t649.fParents, eq (.string t649.fThread), eq (.string t649.fUser), eq (.int .i64 t649.fDoes)], blk b0_ 67 [eq (.string a0.froom), eq v0_0.1]]) (F := F) [0, 1, 2, 3, 4] (by kernel_rfl) rfl rfl))) (fun _ _ => ?_)
    refine WP.gh (l' := fun _ : Unit => [mpo Value.string DNode.O v0_0.1 a0.fnodes, blk b640 42 [eq (.string t649.fID), eq (.string t649.fRoom), sl strK t649.fParents, eq (.string t649.fThread), eq (.string t649.fUser), eq (.int .i64 t649.fDoes)], blk b0_ 67 [eq (.string a0.froom), eq v0_0.1]] ++ F) (gh_of (mpo_shut h645 rfl (perm_to (L := [thg DNode.O a0.fnodes z644, mp Value.string (fun p : OV => eq p.1) v0_0.1 (zipK a0.fnodes z644), blk b640 42 [eq (.string t649.fID), eq (.string t649.fRoom), sl strK t649.fParents, eq (.string t649.fThread), eq (.string t649.fUser), eq (.int .i64 t649.fDoes)], blk b0_ 67 [eq (.string a0.froom), eq v0_0.1]]) (F := F) [1, 0, 2, 3] rfl rfl rfl))) (fun _ _ => ?_)
    obtain rfl := Gets.out H
    exact WP.retL (fun _ _ h => h) rfl () trivial (.cons (res_cells rfl Try.underlying42 rfl c42 (mem_at 1 rfl) rfl) (.cons (res_tmp rfl) .nil)) rfl (st_sel (L := [mpo Value.string DNode.O v0_0.1 a0.fnodes, blk b640 42 [eq (.string t649.fID), eq (.string t649.fRoom), sl strK t649.fParents, eq (.string t649.fThread), eq (.string t649.fUser), eq (.int .i64 t649.fDoes)], blk b0_ 67 [eq (.string a0.froom), eq v0_0.1]]) (F := F) [1, 2, 0] 1 rfl rfl rfl)
theorem view_View_Fits.c {a0 : VView} {a1 : ByteArray} {a2 : ByteArray} {a3 : ByteArray} {v0_0 : OV} {b0_ : Nat} {r : Int} (h : view_View_Fits.f a0 a1 a2 a3 = some r) : Tr Try.prog 9 [eq (.pointer (some ⟨b0_, 0, none⟩)), eq (.string a1), eq (.string a2), eq (.string a3)] [blk b0_ 56 [eq v0_0.1], mpo Value.string DDag.O v0_0.1 a0.fdags] (γ := Unit) (fun _ => True) (fun g => eq (.int .i64 r)) (fun g => [blk b0_ 56 [eq v0_0.1], mpo Value.string DDag.O v0_0.1 a0.fdags]) := by
  unfold view_View_Fits.f at h
  refine Tr.body Try.func9 (c := _) rfl Try.ntmps9 (Nat.le_of_ble_eq_true rfl) fun R0 F => ?_
  replace h := Gets.of h
  have H := h
  clear h
  refine WP.seq ?_
  refine WP.reg [(0, false)] (by kernel_rfl) ?_
  refine Dv.asg rfl trivial rfl ?_
  refine .fin ?_
  refine WP.seq ?_
  refine WP.reg [(0, false), (1, false), (2, true), (3, false), (4, false)] (by kernel_rfl) ?_
  refine Dv.mv rfl trivial rfl ?_
  refine Dv.mv rfl trivial rfl ?_
  obtain ⟨t651, h652, H⟩ := Gets.call H
  refine Dv.callx (pre := [blk b0_ 56 [eq v0_0.1], mpo Value.string DDag.O v0_0.1 a0.fdags]) (F := F) (fun v653 : OV => [blk b0_ 56 [eq v0_0.1], mpl Value.string DDag.O v0_0.1 a0.fdags a1 v653, DDag.O v653 t651] ++ F) rfl trivial cal18 rfl (view_View_room.c h652 (b0_ := b0_) (v0_0 := v0_0)) (perm_to (L := [blk b0_ 56 [eq v0_0.1], mpo Value.string DDag.O v0_0.1 a0.fdags]) (F := F) [0, 1] rfl rfl rfl) rfl nofun (fun v653 _ => ?_)
  refine Dv.mkc (fst := #[v653.1]) rfl trivial rfl ?_
  refine Dv.asg rfl trivial rfl ?_
  refine .fin ?_
  refine WP.seq ?_
  refine WP.reg [(0, false), (1, false), (2, false), (3, false), (4, false), (5, false), (6, true), (7, true), (8, false)] (by kernel_rfl) ?_
  refine Dv.mv rfl trivial rfl ?_
  refine Dv.mv rfl trivial rfl ?_
  refine Dv.gh (l' := fun (g654 : Nat × OV) => [blk g654.1 67 [eq (.string t651.froom), eq g654.2.1], mpo Value.string DNode.O g654.2.1 t651.fnodes, blk b0_ 56 [eq v0_0.1], mpl Value.string DDag.O v0_0.1 a0.fdags a1 v653] ++ F) (gh_of (DDag.opn 2 rfl)) (fun g654 h655 => ?_)
  obtain ⟨t656, h657, H⟩ := Gets.call H
  refine Dv.callc (fst := #[v653.1]) (B := [blk g654.1 67 [eq (.string t651.froom), eq g654.2.1], mpo Value.string DNode.O g654.2.1 t651.fnodes]) (F := [blk b0_ 56 [eq v0_0.1], mpl Value.string DDag.O v0_0.1 a0.fdags a1 v653] ++ F) rfl trivial rfl cal19 rfl (Tr.weak (dag_Dag_Event.c h657 (b0_ := g654.1) (v0_0 := g654.2)) (.cons (wk_ptr h655) (.cons wk_id .nil))) (perm_to (L := [blk g654.1 67 [eq (.string t651.froom), eq g654.2.1], mpo Value.string DNode.O g654.2.1 t651.fnodes, blk b0_ 56 [eq v0_0.1], mpl Value.string DDag.O v0_0.1 a0.fdags a1 v653]) (F := F) [0, 1, 2, 3] rfl rfl rfl) ?_
  refine Dv.mv rfl trivial rfl ?_
  refine Dv.ext rfl trivial rfl rfl ?_
  refine Dv.ext rfl trivial rfl rfl ?_
  refine Dv.alloc (z := .agg #[.string ⟨#[]⟩, .string ⟨#[]⟩, .slice none 0 0, .string ⟨#[]⟩, .string ⟨#[]⟩, .int .i64 0]) (qs := [eq (.string (⟨#[]⟩ : ByteArray)), eq (.string (⟨#[]⟩ : ByteArray)), eq (.slice none 0 0), eq (.string (⟨#[]⟩ : ByteArray)), eq (.string (⟨#[]⟩ : ByteArray)), eq (.int .i64 0)]) rfl trivial z42 rfl nofun (fun b658 => ?_)
  refine Dv.stx ([blk b658 42 [eq (.string t656.1.fID), eq (.string t656.1.fRoom), sl strK t656.1.fParents, eq (.string t656.1.fThread), eq (.string t656.1.fUser), eq (.int .i64 t656.1.fDoes)], blk g654.1 67 [eq (.string t651.froom), eq g654.2.1], mpo Value.string DNode.O g654.2.1 t651.fnodes, blk b0_ 56 [eq v0_0.1], mpl Value.string DDag.O v0_0.1 a0.fdags a1 v653] ++ F) rfl trivial rfl rfl (cells_agg (Event.K.one _)) Try.underlying42 c42 rfl (j := 0) rfl (Nat.le_of_ble_eq_true rfl) rfl nofun ?_
  refine Dv.asg rfl trivial rfl ?_
  refine .fin ?_
  refine WP.seq ?_
  refine WP.block ?_
  refine WP.seq ?_
  refine WP.reg [(0, false), (1, false), (2, false)] (by kernel_rfl) ?_
  refine Dv.mv rfl trivial rfl ?_
  refine Dv.un rfl trivial rfl (fun _ => run_not _) ?_
  refine Dv.asg rfl trivial rfl ?_
  refine .fin ?_
  refine WP.cond rfl (fun c659 => ?_) (fun c659 => ?_)
  · replace H := Gets.ct H c659
    refine WP.seq ?_
    refine WP.reg [(0, false)] (by kernel_rfl) ?_
    refine Dv.asg rfl trivial rfl ?_
    refine .fin ?_
    refine WP.gh (l' := fun _ : Unit => [DDag.O v653 t651, blk b658 42 [eq (.string t656.1.fID), eq (.string t656.1.fRoom), sl strK t656.1.fParents, eq (.string t656.1.fThread), eq (.string t656.1.fUser), eq (.int .i64 t656.1.fDoes)], blk b0_ 56 [eq v0_0.1], mpl Value.string DDag.O v0_0.1 a0.fdags a1 v653] ++ F) (gh_of (DDag.shut (p := v653) (m := t651) (r := [blk b658 42 [eq (.string t656.1.fID), eq (.string t656.1.fRoom), sl strK t656.1.fParents, eq (.string t656.1.fThread), eq (.string t656.1.fUser), eq (.int .i64 t656.1.fDoes)], blk b0_ 56 [eq v0_0.1], mpl Value.string DDag.O v0_0.1 a0.fdags a1 v653] ++ F) (g654.1, g654.2) h655 (perm_to (L := [blk b658 42 [eq (.string t656.1.fID), eq (.string t656.1.fRoom), sl strK t656.1.fParents, eq (.string t656.1.fThread), eq (.string t656.1.fUser), eq (.int .i64 t656.1.fDoes)], blk g654.1 67 [eq (.string t651.froom), eq g654.2.1], mpo Value.string DNode.O g654.2.1 t651.fnodes, blk b0_ 56 [eq v0_0.1], mpl Value.string DDag.O v0_0.1 a0.fdags a1 v653]) (F := F) [1, 2, 0, 3, 4] (by kernel_rfl) rfl rfl))) (fun _ _ => ?_)
    refine WP.gh (l' := fun _ : Unit => [mpo Value.string DDag.O v0_0.1 a0.fdags, blk b658 42 [eq (.string t656.1.fID), eq (.string t656.1.fRoom), sl strK t656.1.fParents, eq (.string t656.1.fThread), eq (.string t656.1.fUser), eq (.int .i64 t656.1.fDoes)], blk b0_ 56 [eq v0_0.1]] ++ F) (gh_of (mpl_back0 (view_View_room.r h652) (perm_to (L := [DDag.O v653 t651, blk b658 42 [eq (.string t656.1.fID), eq (.string t656.1.fRoom), sl strK t656.1.fParents, eq (.string t656.1.fThread), eq (.string t656.1.fUser), eq (.int .i64 t656.1.fDoes)], blk b0_ 56 [eq v0_0.1], mpl Value.string DDag.O v0_0.1 a0.fdags a1 v653]) (F := F) [3, 0, 1, 2] rfl rfl rfl))) (fun _ _ => ?_)
    obtain rfl := Gets.out H
    exact WP.retL (fun _ _ h => h) rfl () trivial (.cons (res_tmp rfl) .nil) rfl (st_sel (L := [mpo Value.string DDag.O v0_0.1 a0.fdags, blk b658 42 [eq (.string t656.1.fID), eq (.string t656.1.fRoom), sl strK t656.1.fParents, eq (.string t656.1.fThread), eq (.string t656.1.fUser), eq (.int .i64 t656.1.fDoes)], blk b0_ 56 [eq v0_0.1]]) (F := F) [1, 2, 0] 1 rfl rfl rfl)
  · replace H := Gets.cf H c659
    refine WP.seq ?_
    refine WP.seq ?_
    refine WP.reg [(0, false), (1, false), (2, false)] (by kernel_rfl) ?_
    refine Dv.mv rfl trivial rfl ?_
    refine Dv.bin rfl trivial rfl rfl (fun _ => run_seq) ?_
    refine Dv.asg rfl trivial rfl ?_
    refine .fin ?_
    refine WP.cond rfl (fun c660 => ?_) (fun c660 => ?_)
    · replace H := Gets.ct H c660
      refine WP.skip ?_
      refine WP.cond rfl (fun c661 => ?_) (fun c661 => ?_)
      · replace H := Gets.ct H c661
        refine WP.seq ?_
        refine WP.reg [(0, false)] (by kernel_rfl) ?_
        refine Dv.asg rfl trivial rfl ?_
        refine .fin ?_
        refine WP.gh (l' := fun _ : Unit => [DDag.O v653 t651, blk b658 42 [eq (.string t656.1.fID), eq (.string t656.1.fRoom), sl strK t656.1.fParents, eq (.string t656.1.fThread), eq (.string t656.1.fUser), eq (.int .i64 t656.1.fDoes)], blk b0_ 56 [eq v0_0.1], mpl Value.string DDag.O v0_0.1 a0.fdags a1 v653] ++ F) (gh_of (DDag.shut (p := v653) (m := t651) (r := [blk b658 42 [eq (.string t656.1.fID), eq (.string t656.1.fRoom), sl strK t656.1.fParents, eq (.string t656.1.fThread), eq (.string t656.1.fUser), eq (.int .i64 t656.1.fDoes)], blk b0_ 56 [eq v0_0.1], mpl Value.string DDag.O v0_0.1 a0.fdags a1 v653] ++ F) (g654.1, g654.2) h655 (perm_to (L := [blk b658 42 [eq (.string t656.1.fID), eq (.string t656.1.fRoom), sl strK t656.1.fParents, eq (.string t656.1.fThread), eq (.string t656.1.fUser), eq (.int .i64 t656.1.fDoes)], blk g654.1 67 [eq (.string t651.froom), eq g654.2.1], mpo Value.string DNode.O g654.2.1 t651.fnodes, blk b0_ 56 [eq v0_0.1], mpl Value.string DDag.O v0_0.1 a0.fdags a1 v653]) (F := F) [1, 2, 0, 3, 4] (by kernel_rfl) rfl rfl))) (fun _ _ => ?_)
        refine WP.gh (l' := fun _ : Unit => [mpo Value.string DDag.O v0_0.1 a0.fdags, blk b658 42 [eq (.string t656.1.fID), eq (.string t656.1.fRoom), sl strK t656.1.fParents, eq (.string t656.1.fThread), eq (.string t656.1.fUser), eq (.int .i64 t656.1.fDoes)], blk b0_ 56 [eq v0_0.1]] ++ F) (gh_of (mpl_back0 (view_View_room.r h652) (perm_to (L := [DDag.O v653 t651, blk b658 42 [eq (.string t656.1.fID), eq (.string t656.1.fRoom), sl strK t656.1.fParents, eq (.string t656.1.fThread), eq (.string t656.1.fUser), eq (.int .i64 t656.1.fDoes)], blk b0_ 56 [eq v0_0.1], mpl Value.string DDag.O v0_0.1 a0.fdags a1 v653]) (F := F) [3, 0, 1, 2] rfl rfl rfl))) (fun _ _ => ?_)
        obtain rfl := Gets.out H
        exact WP.retL (fun _ _ h => h) rfl () trivial (.cons (res_tmp rfl) .nil) rfl (st_sel (L := [mpo Value.string DDag.O v0_0.1 a0.fdags, blk b658 42 [eq (.string t656.1.fID), eq (.string t656.1.fRoom), sl strK t656.1.fParents, eq (.string t656.1.fThread), eq (.string t656.1.fUser), eq (.int .i64 t656.1.fDoes)], blk b0_ 56 [eq v0_0.1]]) (F := F) [1, 2, 0] 1 rfl rfl rfl)
      · replace H := Gets.cf H c661
        refine WP.skip ?_
        refine WP.seq ?_
        refine WP.reg [(0, false)] (by kernel_rfl) ?_
        refine Dv.asg rfl trivial rfl ?_
        refine .fin ?_
        refine WP.gh (l' := fun _ : Unit => [DDag.O v653 t651, blk b658 42 [eq (.string t656.1.fID), eq (.string t656.1.fRoom), sl strK t656.1.fParents, eq (.string t656.1.fThread), eq (.string t656.1.fUser), eq (.int .i64 t656.1.fDoes)], blk b0_ 56 [eq v0_0.1], mpl Value.string DDag.O v0_0.1 a0.fdags a1 v653] ++ F) (gh_of (DDag.shut (p := v653) (m := t651) (r := [blk b658 42 [eq (.string t656.1.fID), eq (.string t656.1.fRoom), sl strK t656.1.fParents, eq (.string t656.1.fThread), eq (.string t656.1.fUser), eq (.int .i64 t656.1.fDoes)], blk b0_ 56 [eq v0_0.1], mpl Value.string DDag.O v0_0.1 a0.fdags a1 v653] ++ F) (g654.1, g654.2) h655 (perm_to (L := [blk b658 42 [eq (.string t656.1.fID), eq (.string t656.1.fRoom), sl strK t656.1.fParents, eq (.string t656.1.fThread), eq (.string t656.1.fUser), eq (.int .i64 t656.1.fDoes)], blk g654.1 67 [eq (.string t651.froom), eq g654.2.1], mpo Value.string DNode.O g654.2.1 t651.fnodes, blk b0_ 56 [eq v0_0.1], mpl Value.string DDag.O v0_0.1 a0.fdags a1 v653]) (F := F) [1, 2, 0, 3, 4] (by kernel_rfl) rfl rfl))) (fun _ _ => ?_)
        refine WP.gh (l' := fun _ : Unit => [mpo Value.string DDag.O v0_0.1 a0.fdags, blk b658 42 [eq (.string t656.1.fID), eq (.string t656.1.fRoom), sl strK t656.1.fParents, eq (.string t656.1.fThread), eq (.string t656.1.fUser), eq (.int .i64 t656.1.fDoes)], blk b0_ 56 [eq v0_0.1]] ++ F) (gh_of (mpl_back0 (view_View_room.r h652) (perm_to (L := [DDag.O v653 t651, blk b658 42 [eq (.string t656.1.fID), eq (.string t656.1.fRoom), sl strK t656.1.fParents, eq (.string t656.1.fThread), eq (.string t656.1.fUser), eq (.int .i64 t656.1.fDoes)], blk b0_ 56 [eq v0_0.1], mpl Value.string DDag.O v0_0.1 a0.fdags a1 v653]) (F := F) [3, 0, 1, 2] rfl rfl rfl))) (fun _ _ => ?_)
        obtain rfl := Gets.out H
        exact WP.retL (fun _ _ h => h) rfl () trivial (.cons (res_tmp rfl) .nil) rfl (st_sel (L := [mpo Value.string DDag.O v0_0.1 a0.fdags, blk b658 42 [eq (.string t656.1.fID), eq (.string t656.1.fRoom), sl strK t656.1.fParents, eq (.string t656.1.fThread), eq (.string t656.1.fUser), eq (.int .i64 t656.1.fDoes)], blk b0_ 56 [eq v0_0.1]]) (F := F) [1, 2, 0] 1 rfl rfl rfl)
    · replace H := Gets.cf H c660
      refine WP.seq ?_
      refine WP.reg [(0, false), (1, false), (2, false), (3, false), (4, false), (5, false), (6, false), (7, false)] (by kernel_rfl) ?_
      refine Dv.mv rfl trivial rfl ?_
      refine Dv.bin rfl trivial rfl rfl (fun _ => run_seq) ?_
      refine Dv.mv rfl trivial rfl ?_
      cases c662 : decide (a3 = (⟨#[109, 97, 105, 110]⟩ : ByteArray))
      · replace H := Gets.cf H c662
        refine Dv.skip rfl ⟨_, _, rfl, rfl, .inl rfl⟩ ?_
        refine Dv.skip rfl ⟨_, _, rfl, rfl, .inl rfl⟩ ?_
        refine Dv.skip rfl ⟨_, _, rfl, rfl, .inl rfl⟩ ?_
        refine Dv.pickF rfl trivial rfl rfl ?_
        refine Dv.asg rfl trivial rfl ?_
        refine .fin ?_
        refine WP.cond rfl nofun (fun _ => ?_)
        refine WP.seq ?_
        refine WP.reg [(0, false), (1, false), (2, false), (3, false)] (by kernel_rfl) ?_
        refine Dv.mv rfl trivial rfl ?_
        refine Dv.mv rfl trivial rfl ?_
        refine Dv.bin rfl trivial rfl rfl (fun _ => run_seq) ?_
        refine Dv.asg rfl trivial rfl ?_
        refine .fin ?_
        refine WP.cond rfl (fun c669 => ?_) (fun c669 => ?_)
        · replace H := Gets.ct H c669
          refine WP.skip ?_
          refine WP.cond rfl (fun c670 => ?_) (fun c670 => ?_)
          · replace H := Gets.ct H c670
            refine WP.seq ?_
            refine WP.reg [(0, false)] (by kernel_rfl) ?_
            refine Dv.asg rfl trivial rfl ?_
            refine .fin ?_
            refine WP.gh (l' := fun _ : Unit => [DDag.O v653 t651, blk b658 42 [eq (.string t656.1.fID), eq (.string t656.1.fRoom), sl strK t656.1.fParents, eq (.string t656.1.fThread), eq (.string t656.1.fUser), eq (.int .i64 t656.1.fDoes)], blk b0_ 56 [eq v0_0.1], mpl Value.string DDag.O v0_0.1 a0.fdags a1 v653] ++ F) (gh_of (DDag.shut (p := v653) (m := t651) (r := [blk b658 42 [eq (.string t656.1.fID), eq (.string t656.1.fRoom), sl strK t656.1.fParents, eq (.string t656.1.fThread), eq (.string t656.1.fUser), eq (.int .i64 t656.1.fDoes)], blk b0_ 56 [eq v0_0.1], mpl Value.string DDag.O v0_0.1 a0.fdags a1 v653] ++ F) (g654.1, g654.2) h655 (perm_to (L := [blk b658 42 [eq (.string t656.1.fID), eq (.string t656.1.fRoom), sl strK t656.1.fParents, eq (.string t656.1.fThread), eq (.string t656.1.fUser), eq (.int .i64 t656.1.fDoes)], blk g654.1 67 [eq (.string t651.froom), eq g654.2.1], mpo Value.string DNode.O g654.2.1 t651.fnodes, blk b0_ 56 [eq v0_0.1], mpl Value.string DDag.O v0_0.1 a0.fdags a1 v653]) (F := F) [1, 2, 0, 3, 4] (by kernel_rfl) rfl rfl))) (fun _ _ => ?_)
            refine WP.gh (l' := fun _ : Unit => [mpo Value.string DDag.O v0_0.1 a0.fdags, blk b658 42 [eq (.string t656.1.fID), eq (.string t656.1.fRoom), sl strK t656.1.fParents, eq (.string t656.1.fThread), eq (.string t656.1.fUser), eq (.int .i64 t656.1.fDoes)], blk b0_ 56 [eq v0_0.1]] ++ F) (gh_of (mpl_back0 (view_View_room.r h652) (perm_to (L := [DDag.O v653 t651, blk b658 42 [eq (.string t656.1.fID), eq (.string t656.1.fRoom), sl strK t656.1.fParents, eq (.string t656.1.fThread), eq (.string t656.1.fUser), eq (.int .i64 t656.1.fDoes)], blk b0_ 56 [eq v0_0.1], mpl Value.string DDag.O v0_0.1 a0.fdags a1 v653]) (F := F) [3, 0, 1, 2] rfl rfl rfl))) (fun _ _ => ?_)
            obtain rfl := Gets.out H
            exact WP.retL (fun _ _ h => h) rfl () trivial (.cons (res_tmp rfl) .nil) rfl (st_sel (L := [mpo Value.string DDag.O v0_0.1 a0.fdags, blk b658 42 [eq (.string t656.1.fID), eq (.string t656.1.fRoom), sl strK t656.1.fParents, eq (.string t656.1.fThread), eq (.string t656.1.fUser), eq (.int .i64 t656.1.fDoes)], blk b0_ 56 [eq v0_0.1]]) (F := F) [1, 2, 0] 1 rfl rfl rfl)
          · replace H := Gets.cf H c670
            refine WP.skip ?_
            refine WP.seq ?_
            refine WP.reg [(0, false)] (by kernel_rfl) ?_
            refine Dv.asg rfl trivial rfl ?_
            refine .fin ?_
            refine WP.gh (l' := fun _ : Unit => [DDag.O v653 t651, blk b658 42 [eq (.string t656.1.fID), eq (.string t656.1.fRoom), sl strK t656.1.fParents, eq (.string t656.1.fThread), eq (.string t656.1.fUser), eq (.int .i64 t656.1.fDoes)], blk b0_ 56 [eq v0_0.1], mpl Value.string DDag.O v0_0.1 a0.fdags a1 v653] ++ F) (gh_of (DDag.shut (p := v653) (m := t651) (r := [blk b658 42 [eq (.string t656.1.fID), eq (.string t656.1.fRoom), sl strK t656.1.fParents, eq (.string t656.1.fThread), eq (.string t656.1.fUser), eq (.int .i64 t656.1.fDoes)], blk b0_ 56 [eq v0_0.1], mpl Value.string DDag.O v0_0.1 a0.fdags a1 v653] ++ F) (g654.1, g654.2) h655 (perm_to (L := [blk b658 42 [eq (.string t656.1.fID), eq (.string t656.1.fRoom), sl strK t656.1.fParents, eq (.string t656.1.fThread), eq (.string t656.1.fUser), eq (.int .i64 t656.1.fDoes)], blk g654.1 67 [eq (.string t651.froom), eq g654.2.1], mpo Value.string DNode.O g654.2.1 t651.fnodes, blk b0_ 56 [eq v0_0.1], mpl Value.string DDag.O v0_0.1 a0.fdags a1 v653]) (F := F) [1, 2, 0, 3, 4] (by kernel_rfl) rfl rfl))) (fun _ _ => ?_)
            refine WP.gh (l' := fun _ : Unit => [mpo Value.string DDag.O v0_0.1 a0.fdags, blk b658 42 [eq (.string t656.1.fID), eq (.string t656.1.fRoom), sl strK t656.1.fParents, eq (.string t656.1.fThread), eq (.string t656.1.fUser), eq (.int .i64 t656.1.fDoes)], blk b0_ 56 [eq v0_0.1]] ++ F) (gh_of (mpl_back0 (view_View_room.r h652) (perm_to (L := [DDag.O v653 t651, blk b658 42 [eq (.string t656.1.fID), eq (.string t656.1.fRoom), sl strK t656.1.fParents, eq (.string t656.1.fThread), eq (.string t656.1.fUser), eq (.int .i64 t656.1.fDoes)], blk b0_ 56 [eq v0_0.1], mpl Value.string DDag.O v0_0.1 a0.fdags a1 v653]) (F := F) [3, 0, 1, 2] rfl rfl rfl))) (fun _ _ => ?_)
            obtain rfl := Gets.out H
            exact WP.retL (fun _ _ h => h) rfl () trivial (.cons (res_tmp rfl) .nil) rfl (st_sel (L := [mpo Value.string DDag.O v0_0.1 a0.fdags, blk b658 42 [eq (.string t656.1.fID), eq (.string t656.1.fRoom), sl strK t656.1.fParents, eq (.string t656.1.fThread), eq (.string t656.1.fUser), eq (.int .i64 t656.1.fDoes)], blk b0_ 56 [eq v0_0.1]]) (F := F) [1, 2, 0] 1 rfl rfl rfl)
        · replace H := Gets.cf H c669
          refine WP.reg [(0, false), (1, false), (2, false), (3, false), (4, false)] (by kernel_rfl) ?_
          refine Dv.mv rfl trivial rfl ?_
          refine Dv.fab rfl trivial rfl Try.underlying42 rfl Try.underlying9 c9 (by decide) ?_
          refine Dv.ldb rfl trivial rfl Try.underlying9 rfl (mem_at 0 rfl) rfl ?_
          refine Dv.bin rfl trivial rfl rfl (fun _ => run_seq) ?_
          refine Dv.asg rfl trivial rfl ?_
          refine .fin ?_
          refine WP.cond rfl (fun c671 => ?_) (fun c671 => ?_)
          · replace H := Gets.ct H c671
            refine WP.seq ?_
            refine WP.reg [(0, false)] (by kernel_rfl) ?_
            refine Dv.asg rfl trivial rfl ?_
            refine .fin ?_
            refine WP.gh (l' := fun _ : Unit => [DDag.O v653 t651, blk b658 42 [eq (.string t656.1.fID), eq (.string t656.1.fRoom), sl strK t656.1.fParents, eq (.string t656.1.fThread), eq (.string t656.1.fUser), eq (.int .i64 t656.1.fDoes)], blk b0_ 56 [eq v0_0.1], mpl Value.string DDag.O v0_0.1 a0.fdags a1 v653] ++ F) (gh_of (DDag.shut (p := v653) (m := t651) (r := [blk b658 42 [eq (.string t656.1.fID), eq (.string t656.1.fRoom), sl strK t656.1.fParents, eq (.string t656.1.fThread), eq (.string t656.1.fUser), eq (.int .i64 t656.1.fDoes)], blk b0_ 56 [eq v0_0.1], mpl Value.string DDag.O v0_0.1 a0.fdags a1 v653] ++ F) (g654.1, g654.2) h655 (perm_to (L := [blk b658 42 [eq (.string t656.1.fID), eq (.string t656.1.fRoom), sl strK t656.1.fParents, eq (.string t656.1.fThread), eq (.string t656.1.fUser), eq (.int .i64 t656.1.fDoes)], blk g654.1 67 [eq (.string t651.froom), eq g654.2.1], mpo Value.string DNode.O g654.2.1 t651.fnodes, blk b0_ 56 [eq v0_0.1], mpl Value.string DDag.O v0_0.1 a0.fdags a1 v653]) (F := F) [1, 2, 0, 3, 4] (by kernel_rfl) rfl rfl))) (fun _ _ => ?_)
            refine WP.gh (l' := fun _ : Unit => [mpo Value.string DDag.O v0_0.1 a0.fdags, blk b658 42 [eq (.string t656.1.fID), eq (.string t656.1.fRoom), sl strK t656.1.fParents, eq (.string t656.1.fThread), eq (.string t656.1.fUser), eq (.int .i64 t656.1.fDoes)], blk b0_ 56 [eq v0_0.1]] ++ F) (gh_of (mpl_back0 (view_View_room.r h652) (perm_to (L := [DDag.O v653 t651, blk b658 42 [eq (.string t656.1.fID), eq (.string t656.1.fRoom), sl strK t656.1.fParents, eq (.string t656.1.fThread), eq (.string t656.1.fUser), eq (.int .i64 t656.1.fDoes)], blk b0_ 56 [eq v0_0.1], mpl Value.string DDag.O v0_0.1 a0.fdags a1 v653]) (F := F) [3, 0, 1, 2] rfl rfl rfl))) (fun _ _ => ?_)
            obtain rfl := Gets.out H
            exact WP.retL (fun _ _ h => h) rfl () trivial (.cons (res_tmp rfl) .nil) rfl (st_sel (L := [mpo Value.string DDag.O v0_0.1 a0.fdags, blk b658 42 [eq (.string t656.1.fID), eq (.string t656.1.fRoom), sl strK t656.1.fParents, eq (.string t656.1.fThread), eq (.string t656.1.fUser), eq (.int .i64 t656.1.fDoes)], blk b0_ 56 [eq v0_0.1]]) (F := F) [1, 2, 0] 1 rfl rfl rfl)
          · replace H := Gets.cf H c671
            refine WP.skip ?_
            refine WP.seq ?_
            refine WP.reg [(0, false)] (by kernel_rfl) ?_
            refine Dv.asg rfl trivial rfl ?_
            refine .fin ?_
            refine WP.gh (l' := fun _ : Unit => [DDag.O v653 t651, blk b658 42 [eq (.string t656.1.fID), eq (.string t656.1.fRoom), sl strK t656.1.fParents, eq (.string t656.1.fThread), eq (.string t656.1.fUser), eq (.int .i64 t656.1.fDoes)], blk b0_ 56 [eq v0_0.1], mpl Value.string DDag.O v0_0.1 a0.fdags a1 v653] ++ F) (gh_of (DDag.shut (p := v653) (m := t651) (r := [blk b658 42 [eq (.string t656.1.fID), eq (.string t656.1.fRoom), sl strK t656.1.fParents, eq (.string t656.1.fThread), eq (.string t656.1.fUser), eq (.int .i64 t656.1.fDoes)], blk b0_ 56 [eq v0_0.1], mpl Value.string DDag.O v0_0.1 a0.fdags a1 v653] ++ F) (g654.1, g654.2) h655 (perm_to (L := [blk b658 42 [eq (.string t656.1.fID), eq (.string t656.1.fRoom), sl strK t656.1.fParents, eq (.string t656.1.fThread), eq (.string t656.1.fUser), eq (.int .i64 t656.1.fDoes)], blk g654.1 67 [eq (.string t651.froom), eq g654.2.1], mpo Value.string DNode.O g654.2.1 t651.fnodes, blk b0_ 56 [eq v0_0.1], mpl Value.string DDag.O v0_0.1 a0.fdags a1 v653]) (F := F) [1, 2, 0, 3, 4] (by kernel_rfl) rfl rfl))) (fun _ _ => ?_)
            refine WP.gh (l' := fun _ : Unit => [mpo Value.string DDag.O v0_0.1 a0.fdags, blk b658 42 [eq (.string t656.1.fID), eq (.string t656.1.fRoom), sl strK t656.1.fParents, eq (.string t656.1.fThread), eq (.string t656.1.fUser), eq (.int .i64 t656.1.fDoes)], blk b0_ 56 [eq v0_0.1]] ++ F) (gh_of (mpl_back0 (view_View_room.r h652) (perm_to (L := [DDag.O v653 t651, blk b658 42 [eq (.string t656.1.fID), eq (.string t656.1.fRoom), sl strK t656.1.fParents, eq (.string t656.1.fThread), eq (.string t656.1.fUser), eq (.int .i64 t656.1.fDoes)], blk b0_ 56 [eq v0_0.1], mpl Value.string DDag.O v0_0.1 a0.fdags a1 v653]) (F := F) [3, 0, 1, 2] rfl rfl rfl))) (fun _ _ => ?_)
            obtain rfl := Gets.out H
            exact WP.retL (fun _ _ h => h) rfl () trivial (.cons (res_tmp rfl) .nil) rfl (st_sel (L := [mpo Value.string DDag.O v0_0.1 a0.fdags, blk b658 42 [eq (.string t656.1.fID), eq (.string t656.1.fRoom), sl strK t656.1.fParents, eq (.string t656.1.fThread), eq (.string t656.1.fUser), eq (.int .i64 t656.1.fDoes)], blk b0_ 56 [eq v0_0.1]]) (F := F) [1, 2, 0] 1 rfl rfl rfl)
      · replace H := Gets.ct H c662
        refine Dv.fab rfl ⟨_, _, rfl, rfl, rfl⟩ rfl Try.underlying42 rfl Try.underlying9 c9 (by decide) ?_
        refine Dv.ldb rfl ⟨_, _, rfl, rfl, rfl⟩ rfl Try.underlying9 rfl (mem_at 0 rfl) rfl ?_
        refine Dv.bin rfl ⟨_, _, rfl, rfl, rfl⟩ rfl rfl (fun _ => run_seq) ?_
        refine Dv.pickT rfl trivial rfl rfl ?_
        refine Dv.asg rfl trivial rfl ?_
        refine .fin ?_
        refine WP.cond rfl (fun c663 => ?_) (fun c663 => ?_)
        · replace H := Gets.ct H c663
          refine WP.skip ?_
          refine WP.cond rfl (fun c664 => ?_) (fun c664 => ?_)
          · replace H := Gets.ct H c664
            refine WP.seq ?_
            refine WP.reg [(0, false)] (by kernel_rfl) ?_
            refine Dv.asg rfl trivial rfl ?_
            refine .fin ?_
            refine WP.gh (l' := fun _ : Unit => [DDag.O v653 t651, blk b658 42 [eq (.string t656.1.fID), eq (.string t656.1.fRoom), sl strK t656.1.fParents, eq (.string t656.1.fThread), eq (.string t656.1.fUser), eq (.int .i64 t656.1.fDoes)], blk b0_ 56 [eq v0_0.1], mpl Value.string DDag.O v0_0.1 a0.fdags a1 v653] ++ F) (gh_of (DDag.shut (p := v653) (m := t651) (r := [blk b658 42 [eq (.string t656.1.fID), eq (.string t656.1.fRoom), sl strK t656.1.fParents, eq (.string t656.1.fThread), eq (.string t656.1.fUser), eq (.int .i64 t656.1.fDoes)], blk b0_ 56 [eq v0_0.1], mpl Value.string DDag.O v0_0.1 a0.fdags a1 v653] ++ F) (g654.1, g654.2) h655 (perm_to (L := [blk b658 42 [eq (.string t656.1.fID), eq (.string t656.1.fRoom), sl strK t656.1.fParents, eq (.string t656.1.fThread), eq (.string t656.1.fUser), eq (.int .i64 t656.1.fDoes)], blk g654.1 67 [eq (.string t651.froom), eq g654.2.1], mpo Value.string DNode.O g654.2.1 t651.fnodes, blk b0_ 56 [eq v0_0.1], mpl Value.string DDag.O v0_0.1 a0.fdags a1 v653]) (F := F) [1, 2, 0, 3, 4] (by kernel_rfl) rfl rfl))) (fun _ _ => ?_)
            refine WP.gh (l' := fun _ : Unit => [mpo Value.string DDag.O v0_0.1 a0.fdags, blk b658 42 [eq (.string t656.1.fID), eq (.string t656.1.fRoom), sl strK t656.1.fParents, eq (.string t656.1.fThread), eq (.string t656.1.fUser), eq (.int .i64 t656.1.fDoes)], blk b0_ 56 [eq v0_0.1]] ++ F) (gh_of (mpl_back0 (view_View_room.r h652) (perm_to (L := [DDag.O v653 t651, blk b658 42 [eq (.string t656.1.fID), eq (.string t656.1.fRoom), sl strK t656.1.fParents, eq (.string t656.1.fThread), eq (.string t656.1.fUser), eq (.int .i64 t656.1.fDoes)], blk b0_ 56 [eq v0_0.1], mpl Value.string DDag.O v0_0.1 a0.fdags a1 v653]) (F := F) [3, 0, 1, 2] rfl rfl rfl))) (fun _ _ => ?_)
            obtain rfl := Gets.out H
            exact WP.retL (fun _ _ h => h) rfl () trivial (.cons (res_tmp rfl) .nil) rfl (st_sel (L := [mpo Value.string DDag.O v0_0.1 a0.fdags, blk b658 42 [eq (.string t656.1.fID), eq (.string t656.1.fRoom), sl strK t656.1.fParents, eq (.string t656.1.fThread), eq (.string t656.1.fUser), eq (.int .i64 t656.1.fDoes)], blk b0_ 56 [eq v0_0.1]]) (F := F) [1, 2, 0] 1 rfl rfl rfl)
          · replace H := Gets.cf H c664
            refine WP.skip ?_
            refine WP.seq ?_
            refine WP.reg [(0, false)] (by kernel_rfl) ?_
            refine Dv.asg rfl trivial rfl ?_
            refine .fin ?_
            refine WP.gh (l' := fun _ : Unit => [DDag.O v653 t651, blk b658 42 [eq (.string t656.1.fID), eq (.string t656.1.fRoom), sl strK t656.1.fParents, eq (.string t656.1.fThread), eq (.string t656.1.fUser), eq (.int .i64 t656.1.fDoes)], blk b0_ 56 [eq v0_0.1], mpl Value.string DDag.O v0_0.1 a0.fdags a1 v653] ++ F) (gh_of (DDag.shut (p := v653) (m := t651) (r := [blk b658 42 [eq (.string t656.1.fID), eq (.string t656.1.fRoom), sl strK t656.1.fParents, eq (.string t656.1.fThread), eq (.string t656.1.fUser), eq (.int .i64 t656.1.fDoes)], blk b0_ 56 [eq v0_0.1], mpl Value.string DDag.O v0_0.1 a0.fdags a1 v653] ++ F) (g654.1, g654.2) h655 (perm_to (L := [blk b658 42 [eq (.string t656.1.fID), eq (.string t656.1.fRoom), sl strK t656.1.fParents, eq (.string t656.1.fThread), eq (.string t656.1.fUser), eq (.int .i64 t656.1.fDoes)], blk g654.1 67 [eq (.string t651.froom), eq g654.2.1], mpo Value.string DNode.O g654.2.1 t651.fnodes, blk b0_ 56 [eq v0_0.1], mpl Value.string DDag.O v0_0.1 a0.fdags a1 v653]) (F := F) [1, 2, 0, 3, 4] (by kernel_rfl) rfl rfl))) (fun _ _ => ?_)
            refine WP.gh (l' := fun _ : Unit => [mpo Value.string DDag.O v0_0.1 a0.fdags, blk b658 42 [eq (.string t656.1.fID), eq (.string t656.1.fRoom), sl strK t656.1.fParents, eq (.string t656.1.fThread), eq (.string t656.1.fUser), eq (.int .i64 t656.1.fDoes)], blk b0_ 56 [eq v0_0.1]] ++ F) (gh_of (mpl_back0 (view_View_room.r h652) (perm_to (L := [DDag.O v653 t651, blk b658 42 [eq (.string t656.1.fID), eq (.string t656.1.fRoom), sl strK t656.1.fParents, eq (.string t656.1.fThread), eq (.string t656.1.fUser), eq (.int .i64 t656.1.fDoes)], blk b0_ 56 [eq v0_0.1], mpl Value.string DDag.O v0_0.1 a0.fdags a1 v653]) (F := F) [3, 0, 1, 2] rfl rfl rfl))) (fun _ _ => ?_)
            obtain rfl := Gets.out H
            exact WP.retL (fun _ _ h => h) rfl () trivial (.cons (res_tmp rfl) .nil) rfl (st_sel (L := [mpo Value.string DDag.O v0_0.1 a0.fdags, blk b658 42 [eq (.string t656.1.fID), eq (.string t656.1.fRoom), sl strK t656.1.fParents, eq (.string t656.1.fThread), eq (.string t656.1.fUser), eq (.int .i64 t656.1.fDoes)], blk b0_ 56 [eq v0_0.1]]) (F := F) [1, 2, 0] 1 rfl rfl rfl)
        · replace H := Gets.cf H c663
          refine WP.seq ?_
          refine WP.reg [(0, false), (1, false), (2, false), (3, false)] (by kernel_rfl) ?_
          refine Dv.mv rfl trivial rfl ?_
          refine Dv.mv rfl trivial rfl ?_
          refine Dv.bin rfl trivial rfl rfl (fun _ => run_seq) ?_
          refine Dv.asg rfl trivial rfl ?_
          refine .fin ?_
          refine WP.cond rfl (fun c665 => ?_) (fun c665 => ?_)
          · replace H := Gets.ct H c665
            refine WP.skip ?_
            refine WP.cond rfl (fun c666 => ?_) (fun c666 => ?_)
            · replace H := Gets.ct H c666
              refine WP.seq ?_
              refine WP.reg [(0, false)] (by kernel_rfl) ?_
              refine Dv.asg rfl trivial rfl ?_
              refine .fin ?_
              refine WP.gh (l' := fun _ : Unit => [DDag.O v653 t651, blk b658 42 [eq (.string t656.1.fID), eq (.string t656.1.fRoom), sl strK t656.1.fParents, eq (.string t656.1.fThread), eq (.string t656.1.fUser), eq (.int .i64 t656.1.fDoes)], blk b0_ 56 [eq v0_0.1], mpl Value.string DDag.O v0_0.1 a0.fdags a1 v653] ++ F) (gh_of (DDag.shut (p := v653) (m := t651) (r := [blk b658 42 [eq (.string t656.1.fID), eq (.string t656.1.fRoom), sl strK t656.1.fParents, eq (.string t656.1.fThread), eq (.string t656.1.fUser), eq (.int .i64 t656.1.fDoes)], blk b0_ 56 [eq v0_0.1], mpl Value.string DDag.O v0_0.1 a0.fdags a1 v653] ++ F) (g654.1, g654.2) h655 (perm_to (L := [blk b658 42 [eq (.string t656.1.fID), eq (.string t656.1.fRoom), sl strK t656.1.fParents, eq (.string t656.1.fThread), eq (.string t656.1.fUser), eq (.int .i64 t656.1.fDoes)], blk g654.1 67 [eq (.string t651.froom), eq g654.2.1], mpo Value.string DNode.O g654.2.1 t651.fnodes, blk b0_ 56 [eq v0_0.1], mpl Value.string DDag.O v0_0.1 a0.fdags a1 v653]) (F := F) [1, 2, 0, 3, 4] (by kernel_rfl) rfl rfl))) (fun _ _ => ?_)
              refine WP.gh (l' := fun _ : Unit => [mpo Value.string DDag.O v0_0.1 a0.fdags, blk b658 42 [eq (.string t656.1.fID), eq (.string t656.1.fRoom), sl strK t656.1.fParents, eq (.string t656.1.fThread), eq (.string t656.1.fUser), eq (.int .i64 t656.1.fDoes)], blk b0_ 56 [eq v0_0.1]] ++ F) (gh_of (mpl_back0 (view_View_room.r h652) (perm_to (L := [DDag.O v653 t651, blk b658 42 [eq (.string t656.1.fID), eq (.string t656.1.fRoom), sl strK t656.1.fParents, eq (.string t656.1.fThread), eq (.string t656.1.fUser), eq (.int .i64 t656.1.fDoes)], blk b0_ 56 [eq v0_0.1], mpl Value.string DDag.O v0_0.1 a0.fdags a1 v653]) (F := F) [3, 0, 1, 2] rfl rfl rfl))) (fun _ _ => ?_)
              obtain rfl := Gets.out H
              exact WP.retL (fun _ _ h => h) rfl () trivial (.cons (res_tmp rfl) .nil) rfl (st_sel (L := [mpo Value.string DDag.O v0_0.1 a0.fdags, blk b658 42 [eq (.string t656.1.fID), eq (.string t656.1.fRoom), sl strK t656.1.fParents, eq (.string t656.1.fThread), eq (.string t656.1.fUser), eq (.int .i64 t656.1.fDoes)], blk b0_ 56 [eq v0_0.1]]) (F := F) [1, 2, 0] 1 rfl rfl rfl)
            · replace H := Gets.cf H c666
              refine WP.skip ?_
              refine WP.seq ?_
              refine WP.reg [(0, false)] (by kernel_rfl) ?_
              refine Dv.asg rfl trivial rfl ?_
              refine .fin ?_
              refine WP.gh (l' := fun _ : Unit => [DDag.O v653 t651, blk b658 42 [eq (.string t656.1.fID), eq (.string t656.1.fRoom), sl strK t656.1.fParents, eq (.string t656.1.fThread), eq (.string t656.1.fUser), eq (.int .i64 t656.1.fDoes)], blk b0_ 56 [eq v0_0.1], mpl Value.string DDag.O v0_0.1 a0.fdags a1 v653] ++ F) (gh_of (DDag.shut (p := v653) (m := t651) (r := [blk b658 42 [eq (.string t656.1.fID), eq (.string t656.1.fRoom), sl strK t656.1.fParents, eq (.string t656.1.fThread), eq (.string t656.1.fUser), eq (.int .i64 t656.1.fDoes)], blk b0_ 56 [eq v0_0.1], mpl Value.string DDag.O v0_0.1 a0.fdags a1 v653] ++ F) (g654.1, g654.2) h655 (perm_to (L := [blk b658 42 [eq (.string t656.1.fID), eq (.string t656.1.fRoom), sl strK t656.1.fParents, eq (.string t656.1.fThread), eq (.string t656.1.fUser), eq (.int .i64 t656.1.fDoes)], blk g654.1 67 [eq (.string t651.froom), eq g654.2.1], mpo Value.string DNode.O g654.2.1 t651.fnodes, blk b0_ 56 [eq v0_0.1], mpl Value.string DDag.O v0_0.1 a0.fdags a1 v653]) (F := F) [1, 2, 0, 3, 4] (by kernel_rfl) rfl rfl))) (fun _ _ => ?_)
              refine WP.gh (l' := fun _ : Unit => [mpo Value.string DDag.O v0_0.1 a0.fdags, blk b658 42 [eq (.string t656.1.fID), eq (.string t656.1.fRoom), sl strK t656.1.fParents, eq (.string t656.1.fThread), eq (.string t656.1.fUser), eq (.int .i64 t656.1.fDoes)], blk b0_ 56 [eq v0_0.1]] ++ F) (gh_of (mpl_back0 (view_View_room.r h652) (perm_to (L := [DDag.O v653 t651, blk b658 42 [eq (.string t656.1.fID), eq (.string t656.1.fRoom), sl strK t656.1.fParents, eq (.string t656.1.fThread), eq (.string t656.1.fUser), eq (.int .i64 t656.1.fDoes)], blk b0_ 56 [eq v0_0.1], mpl Value.string DDag.O v0_0.1 a0.fdags a1 v653]) (F := F) [3, 0, 1, 2] rfl rfl rfl))) (fun _ _ => ?_)
              obtain rfl := Gets.out H
              exact WP.retL (fun _ _ h => h) rfl () trivial (.cons (res_tmp rfl) .nil) rfl (st_sel (L := [mpo Value.string DDag.O v0_0.1 a0.fdags, blk b658 42 [eq (.string t656.1.fID), eq (.string t656.1.fRoom), sl strK t656.1.fParents, eq (.string t656.1.fThread), eq (.string t656.1.fUser), eq (.int .i64 t656.1.fDoes)], blk b0_ 56 [eq v0_0.1]]) (F := F) [1, 2, 0] 1 rfl rfl rfl)
          · replace H := Gets.cf H c665
            refine WP.reg [(0, false), (1, false), (2, false), (3, false), (4, false)] (by kernel_rfl) ?_
            refine Dv.mv rfl trivial rfl ?_
            refine Dv.fab rfl trivial rfl Try.underlying42 rfl Try.underlying9 c9 (by decide) ?_
            refine Dv.ldb rfl trivial rfl Try.underlying9 rfl (mem_at 0 rfl) rfl ?_
            refine Dv.bin rfl trivial rfl rfl (fun _ => run_seq) ?_
            refine Dv.asg rfl trivial rfl ?_
            refine .fin ?_
            refine WP.cond rfl (fun c667 => ?_) (fun c667 => ?_)
            · replace H := Gets.ct H c667
              refine WP.seq ?_
              refine WP.reg [(0, false)] (by kernel_rfl) ?_
              refine Dv.asg rfl trivial rfl ?_
              refine .fin ?_
              refine WP.gh (l' := fun _ : Unit => [DDag.O v653 t651, blk b658 42 [eq (.string t656.1.fID), eq (.string t656.1.fRoom), sl strK t656.1.fParents, eq (.string t656.1.fThread), eq (.string t656.1.fUser), eq (.int .i64 t656.1.fDoes)], blk b0_ 56 [eq v0_0.1], mpl Value.string DDag.O v0_0.1 a0.fdags a1 v653] ++ F) (gh_of (DDag.shut (p := v653) (m := t651) (r := [blk b658 42 [eq (.string t656.1.fID), eq (.string t656.1.fRoom), sl strK t656.1.fParents, eq (.string t656.1.fThread), eq (.string t656.1.fUser), eq (.int .i64 t656.1.fDoes)], blk b0_ 56 [eq v0_0.1], mpl Value.string DDag.O v0_0.1 a0.fdags a1 v653] ++ F) (g654.1, g654.2) h655 (perm_to (L := [blk b658 42 [eq (.string t656.1.fID), eq (.string t656.1.fRoom), sl strK t656.1.fParents, eq (.string t656.1.fThread), eq (.string t656.1.fUser), eq (.int .i64 t656.1.fDoes)], blk g654.1 67 [eq (.string t651.froom), eq g654.2.1], mpo Value.string DNode.O g654.2.1 t651.fnodes, blk b0_ 56 [eq v0_0.1], mpl Value.string DDag.O v0_0.1 a0.fdags a1 v653]) (F := F) [1, 2, 0, 3, 4] (by kernel_rfl) rfl rfl))) (fun _ _ => ?_)
              refine WP.gh (l' := fun _ : Unit => [mpo Value.string DDag.O v0_0.1 a0.fdags, blk b658 42 [eq (.string t656.1.fID), eq (.string t656.1.fRoom), sl strK t656.1.fParents, eq (.string t656.1.fThread), eq (.string t656.1.fUser), eq (.int .i64 t656.1.fDoes)], blk b0_ 56 [eq v0_0.1]] ++ F) (gh_of (mpl_back0 (view_View_room.r h652) (perm_to (L := [DDag.O v653 t651, blk b658 42 [eq (.string t656.1.fID), eq (.string t656.1.fRoom), sl strK t656.1.fParents, eq (.string t656.1.fThread), eq (.string t656.1.fUser), eq (.int .i64 t656.1.fDoes)], blk b0_ 56 [eq v0_0.1], mpl Value.string DDag.O v0_0.1 a0.fdags a1 v653]) (F := F) [3, 0, 1, 2] rfl rfl rfl))) (fun _ _ => ?_)
              obtain rfl := Gets.out H
              exact WP.retL (fun _ _ h => h) rfl () trivial (.cons (res_tmp rfl) .nil) rfl (st_sel (L := [mpo Value.string DDag.O v0_0.1 a0.fdags, blk b658 42 [eq (.string t656.1.fID), eq (.string t656.1.fRoom), sl strK t656.1.fParents, eq (.string t656.1.fThread), eq (.string t656.1.fUser), eq (.int .i64 t656.1.fDoes)], blk b0_ 56 [eq v0_0.1]]) (F := F) [1, 2, 0] 1 rfl rfl rfl)
            · replace H := Gets.cf H c667
              refine WP.skip ?_
              refine WP.seq ?_
              refine WP.reg [(0, false)] (by kernel_rfl) ?_
              refine Dv.asg rfl trivial rfl ?_
              refine .fin ?_
              refine WP.gh (l' := fun _ : Unit => [DDag.O v653 t651, blk b658 42 [eq (.string t656.1.fID), eq (.string t656.1.fRoom), sl strK t656.1.fParents, eq (.string t656.1.fThread), eq (.string t656.1.fUser), eq (.int .i64 t656.1.fDoes)], blk b0_ 56 [eq v0_0.1], mpl Value.string DDag.O v0_0.1 a0.fdags a1 v653] ++ F) (gh_of (DDag.shut (p := v653) (m := t651) (r := [blk b658 42 [eq (.string t656.1.fID), eq (.string t656.1.fRoom), sl strK t656.1.fParents, eq (.string t656.1.fThread), eq (.string t656.1.fUser), eq (.int .i64 t656.1.fDoes)], blk b0_ 56 [eq v0_0.1], mpl Value.string DDag.O v0_0.1 a0.fdags a1 v653] ++ F) (g654.1, g654.2) h655 (perm_to (L := [blk b658 42 [eq (.string t656.1.fID), eq (.string t656.1.fRoom), sl strK t656.1.fParents, eq (.string t656.1.fThread), eq (.string t656.1.fUser), eq (.int .i64 t656.1.fDoes)], blk g654.1 67 [eq (.string t651.froom), eq g654.2.1], mpo Value.string DNode.O g654.2.1 t651.fnodes, blk b0_ 56 [eq v0_0.1], mpl Value.string DDag.O v0_0.1 a0.fdags a1 v653]) (F := F) [1, 2, 0, 3, 4] (by kernel_rfl) rfl rfl))) (fun _ _ => ?_)
              refine WP.gh (l' := fun _ : Unit => [mpo Value.string DDag.O v0_0.1 a0.fdags, blk b658 42 [eq (.string t656.1.fID), eq (.string t656.1.fRoom), sl strK t656.1.fParents, eq (.string t656.1.fThread), eq (.string t656.1.fUser), eq (.int .i64 t656.1.fDoes)], blk b0_ 56 [eq v0_0.1]] ++ F) (gh_of (mpl_back0 (view_View_room.r h652) (perm_to (L := [DDag.O v653 t651, blk b658 42 [eq (.string t656.1.fID), eq (.string t656.1.fRoom), sl strK t656.1.fParents, eq (.string t656.1.fThread), eq (.string t656.1.fUser), eq (.int .i64 t656.1.fDoes)], blk b0_ 56 [eq v0_0.1], mpl Value.string DDag.O v0_0.1 a0.fdags a1 v653]) (F := F) [3, 0, 1, 2] rfl rfl rfl))) (fun _ _ => ?_)
              obtain rfl := Gets.out H
              exact WP.retL (fun _ _ h => h) rfl () trivial (.cons (res_tmp rfl) .nil) rfl (st_sel (L := [mpo Value.string DDag.O v0_0.1 a0.fdags, blk b658 42 [eq (.string t656.1.fID), eq (.string t656.1.fRoom), sl strK t656.1.fParents, eq (.string t656.1.fThread), eq (.string t656.1.fUser), eq (.int .i64 t656.1.fDoes)], blk b0_ 56 [eq v0_0.1]]) (F := F) [1, 2, 0] 1 rfl rfl rfl)
theorem concourseref10_Fits.c {k : Nat} {a0 : RView} {a1 : ByteArray} {a2 : ByteArray} {a3 : ByteArray} {r : Int} (h : concourseref10_Fits.f k a0 a1 a2 a3 = some r) : Pt Try.prog 10 [agg (RView.enc a0), eq (.string a1), eq (.string a2), eq (.string a3)] (eq (.int .i64 r)) := by
  unfold concourseref10_Fits.f at h
  refine (Tr.body Try.func10 (c := _) rfl Try.ntmps10 (Nat.le_of_ble_eq_true rfl) fun R0 F => ?_).pt
  replace h := Gets.of h
  have H := h
  clear h
  refine WP.seq ?_
  refine WP.reg [(0, true), (1, false)] (by kernel_rfl) ?_
  refine Dv.box rfl trivial rfl (cells_agg (RView.K.one _)) nofun (fun b672 => ?_)
  refine Dv.asg rfl trivial rfl ?_
  refine .fin ?_
  refine WP.seq ?_
  refine WP.reg [(0, false), (1, false), (2, false), (3, true), (4, true)] (by kernel_rfl) ?_
  refine Dv.ldbs rfl trivial rfl Try.underlying26 rfl c26 (mem_at 0 rfl) (Nat.le_of_ble_eq_true rfl) ?_
  refine Dv.mv rfl trivial rfl ?_
  obtain ⟨t673, h674, H⟩ := Gets.call H
  refine Dv.call rfl trivial cal20 rfl (concourseref10_Of.c h674) ?_
  refine Dv.alloc (z := .agg #[.string ⟨#[]⟩, .slice none 0 0]) (qs := [eq (.string (⟨#[]⟩ : ByteArray)), eq (.slice none 0 0)]) rfl trivial z50 rfl nofun (fun b675 => ?_)
  refine Dv.stx ([blk b675 50 [eq (.string t673.fRoom), sl Event.K t673.fL], blk b672 26 [sl RDag.K a0.fD]] ++ F) rfl trivial rfl rfl (cells_agg (RDag.K.one _)) Try.underlying50 c50 rfl (j := 0) rfl (Nat.le_of_ble_eq_true rfl) rfl nofun ?_
  refine .fin ?_
  refine WP.seq ?_
  refine WP.reg [(0, false), (1, false), (2, false), (3, false)] (by kernel_rfl) ?_
  refine Dv.ldbs rfl trivial rfl Try.underlying50 rfl c50 (mem_at 0 rfl) (Nat.le_of_ble_eq_true rfl) ?_
  refine Dv.mv rfl trivial rfl ?_
  obtain ⟨t676, h677, H⟩ := Gets.call H
  refine Dv.call rfl trivial cal21 rfl (concourseref07_At.c h677) ?_
  refine Dv.asg rfl trivial rfl ?_
  refine .fin ?_
  refine WP.seq ?_
  refine WP.seq ?_
  refine WP.reg [(0, false), (1, false)] (by kernel_rfl) ?_
  refine Dv.mv rfl trivial rfl ?_
  refine Dv.bin rfl trivial rfl rfl (fun _ => run_lt) ?_
  refine .fin ?_
  refine WP.cond rfl (fun c678 => ?_) (fun c678 => ?_)
  · replace H := Gets.ct H c678
    refine WP.seq ?_
    refine WP.reg [(0, false)] (by kernel_rfl) ?_
    refine Dv.asg rfl trivial rfl ?_
    refine .fin ?_
    obtain rfl := Gets.out H
    exact WP.retL (fun _ _ h => h) rfl () trivial (.cons (res_tmp rfl) .nil) rfl (st_sel (L := [blk b675 50 [eq (.string t673.fRoom), sl Event.K t673.fL], blk b672 26 [sl RDag.K a0.fD]]) (F := F) [0, 1] 2 rfl rfl rfl)
  · replace H := Gets.cf H c678
    refine WP.skip ?_
    refine WP.seq ?_
    refine WP.reg [(0, false), (1, false), (2, false), (3, false), (4, false), (5, false), (6, false)] (by kernel_rfl) ?_
    refine Dv.fab rfl trivial rfl Try.underlying50 rfl Try.underlying36 c36 (by decide) ?_
    refine Dv.ldb rfl trivial rfl Try.underlying36 rfl (mem_at 0 rfl) rfl ?_
    refine Dv.mv rfl trivial rfl ?_
    obtain ⟨g679, H⟩ := Gets.grd H
    refine Dv.ixr rfl trivial rfl rfl Try.underlying36 Try.underlying42 c42 g679.1 g679.2 ?_
    refine Dv.far rfl trivial rfl Try.underlying42 rfl Try.underlying9 c9 (by decide) (Nat.le_of_ble_eq_true rfl) ?_
    refine Dv.ldr rfl trivial rfl Try.underlying9 rfl rfl ?_
    refine Dv.asg rfl trivial rfl ?_
    refine .fin ?_
    refine WP.seq ?_
    refine WP.seq ?_
    refine WP.reg [(0, false), (1, false), (2, false), (3, false), (4, false), (5, false), (6, false), (7, false), (8, false), (9, false), (10, false), (11, false), (12, false), (13, false), (14, false), (15, false), (16, false), (17, false), (18, false), (19, false), (20, false), (21, false), (22, false), (23, false)] (by kernel_rfl) ?_
    refine Dv.mv rfl trivial rfl ?_
    refine Dv.bin rfl trivial rfl rfl (fun _ => run_seq) ?_
    refine Dv.mv rfl trivial rfl ?_
    cases c680 : decide (a3 = (⟨#[]⟩ : ByteArray))
    · replace H := Gets.cf H c680
      refine Dv.mv rfl ⟨_, _, rfl, rfl, rfl⟩ rfl ?_
      refine Dv.mv rfl ⟨_, _, rfl, rfl, rfl⟩ rfl ?_
      refine Dv.bin rfl ⟨_, _, rfl, rfl, rfl⟩ rfl rfl (fun _ => run_seq) ?_
      refine Dv.pickF rfl trivial rfl rfl ?_
      refine Dv.mv rfl trivial rfl ?_
      cases c682 : decide (a3 = a2)
      · replace H := Gets.cf H c682
        refine Dv.mv rfl ⟨_, _, rfl, rfl, rfl⟩ rfl ?_
        refine Dv.bin rfl ⟨_, _, rfl, rfl, rfl⟩ rfl rfl (fun _ => run_seq) ?_
        refine Dv.mv rfl ⟨_, _, rfl, rfl, rfl⟩ rfl ?_
        cases c684 : decide (a3 = (⟨#[109, 97, 105, 110]⟩ : ByteArray))
        · replace H := Gets.cf H c684
          refine Dv.skip rfl ⟨_, _, rfl, rfl, .inl rfl⟩ ?_
          refine Dv.skip rfl ⟨_, _, rfl, rfl, .inl rfl⟩ ?_
          refine Dv.pickF rfl ⟨_, _, rfl, rfl, rfl⟩ rfl rfl ?_
          refine Dv.pickF rfl trivial rfl rfl ?_
          refine Dv.mv rfl trivial rfl ?_
          refine Dv.mv rfl ⟨_, _, rfl, rfl, rfl⟩ rfl ?_
          refine Dv.bin rfl ⟨_, _, rfl, rfl, rfl⟩ rfl rfl (fun _ => run_sne) ?_
          refine Dv.mv rfl ⟨_, _, rfl, rfl, rfl⟩ rfl ?_
          cases c690 : !decide (((Event.K.at t673.fL t676).fThread) = (⟨#[]⟩ : ByteArray))
          · replace H := Gets.cf H c690
            refine Dv.skip rfl ⟨_, _, rfl, rfl, .inl rfl⟩ ?_
            refine Dv.skip rfl ⟨_, _, rfl, rfl, .inl rfl⟩ ?_
            refine Dv.skip rfl ⟨_, _, rfl, rfl, .inl rfl⟩ ?_
            refine Dv.pickF rfl ⟨_, _, rfl, rfl, rfl⟩ rfl rfl ?_
            refine Dv.pickF rfl trivial rfl rfl ?_
            refine .fin ?_
            refine WP.cond rfl nofun (fun _ => ?_)
            refine WP.skip ?_
            refine WP.seq ?_
            refine WP.reg [(0, false)] (by kernel_rfl) ?_
            refine Dv.asg rfl trivial rfl ?_
            refine .fin ?_
            obtain rfl := Gets.out H
            exact WP.retL (fun _ _ h => h) rfl () trivial (.cons (res_tmp rfl) .nil) rfl (st_sel (L := [blk b675 50 [eq (.string t673.fRoom), sl Event.K t673.fL], blk b672 26 [sl RDag.K a0.fD]]) (F := F) [0, 1] 2 rfl rfl rfl)
          · replace H := Gets.ct H c690
            refine Dv.mv rfl ⟨_, _, rfl, rfl, rfl⟩ rfl ?_
            refine Dv.mv rfl ⟨_, _, rfl, rfl, rfl⟩ rfl ?_
            refine Dv.bin rfl ⟨_, _, rfl, rfl, rfl⟩ rfl rfl (fun _ => run_seq) ?_
            refine Dv.pickT rfl ⟨_, _, rfl, rfl, rfl⟩ rfl rfl ?_
            refine Dv.pickF rfl trivial rfl rfl ?_
            refine .fin ?_
            refine WP.cond rfl (fun c691 => ?_) (fun c691 => ?_)
            · replace H := Gets.ct H c691
              refine WP.seq ?_
              refine WP.reg [(0, false)] (by kernel_rfl) ?_
              refine Dv.asg rfl trivial rfl ?_
              refine .fin ?_
              obtain rfl := Gets.out H
              exact WP.retL (fun _ _ h => h) rfl () trivial (.cons (res_tmp rfl) .nil) rfl (st_sel (L := [blk b675 50 [eq (.string t673.fRoom), sl Event.K t673.fL], blk b672 26 [sl RDag.K a0.fD]]) (F := F) [0, 1] 2 rfl rfl rfl)
            · replace H := Gets.cf H c691
              refine WP.skip ?_
              refine WP.seq ?_
              refine WP.reg [(0, false)] (by kernel_rfl) ?_
              refine Dv.asg rfl trivial rfl ?_
              refine .fin ?_
              obtain rfl := Gets.out H
              exact WP.retL (fun _ _ h => h) rfl () trivial (.cons (res_tmp rfl) .nil) rfl (st_sel (L := [blk b675 50 [eq (.string t673.fRoom), sl Event.K t673.fL], blk b672 26 [sl RDag.K a0.fD]]) (F := F) [0, 1] 2 rfl rfl rfl)
        · replace H := Gets.ct H c684
          refine Dv.mv rfl ⟨_, _, rfl, rfl, rfl⟩ rfl ?_
          refine Dv.bin rfl ⟨_, _, rfl, rfl, rfl⟩ rfl rfl (fun _ => run_seq) ?_
          refine Dv.pickT rfl ⟨_, _, rfl, rfl, rfl⟩ rfl rfl ?_
          refine Dv.pickF rfl trivial rfl rfl ?_
          refine Dv.mv rfl trivial rfl ?_
          cases c685 : decide (((Event.K.at t673.fL t676).fThread) = (⟨#[]⟩ : ByteArray))
          · replace H := Gets.cf H c685
            refine Dv.mv rfl ⟨_, _, rfl, rfl, rfl⟩ rfl ?_
            refine Dv.bin rfl ⟨_, _, rfl, rfl, rfl⟩ rfl rfl (fun _ => run_sne) ?_
            refine Dv.mv rfl ⟨_, _, rfl, rfl, rfl⟩ rfl ?_
            cases c687 : !decide (((Event.K.at t673.fL t676).fThread) = (⟨#[]⟩ : ByteArray))
            · replace H := Gets.cf H c687
              refine Dv.skip rfl ⟨_, _, rfl, rfl, .inl rfl⟩ ?_
              refine Dv.skip rfl ⟨_, _, rfl, rfl, .inl rfl⟩ ?_
              refine Dv.skip rfl ⟨_, _, rfl, rfl, .inl rfl⟩ ?_
              refine Dv.pickF rfl ⟨_, _, rfl, rfl, rfl⟩ rfl rfl ?_
              refine Dv.pickF rfl trivial rfl rfl ?_
              refine .fin ?_
              refine WP.cond rfl nofun (fun _ => ?_)
              refine WP.skip ?_
              refine WP.seq ?_
              refine WP.reg [(0, false)] (by kernel_rfl) ?_
              refine Dv.asg rfl trivial rfl ?_
              refine .fin ?_
              obtain rfl := Gets.out H
              exact WP.retL (fun _ _ h => h) rfl () trivial (.cons (res_tmp rfl) .nil) rfl (st_sel (L := [blk b675 50 [eq (.string t673.fRoom), sl Event.K t673.fL], blk b672 26 [sl RDag.K a0.fD]]) (F := F) [0, 1] 2 rfl rfl rfl)
            · replace H := Gets.ct H c687
              refine Dv.mv rfl ⟨_, _, rfl, rfl, rfl⟩ rfl ?_
              refine Dv.mv rfl ⟨_, _, rfl, rfl, rfl⟩ rfl ?_
              refine Dv.bin rfl ⟨_, _, rfl, rfl, rfl⟩ rfl rfl (fun _ => run_seq) ?_
              refine Dv.pickT rfl ⟨_, _, rfl, rfl, rfl⟩ rfl rfl ?_
              refine Dv.pickF rfl trivial rfl rfl ?_
              refine .fin ?_
              refine WP.cond rfl (fun c688 => ?_) (fun c688 => ?_)
              · replace H := Gets.ct H c688
                refine WP.seq ?_
                refine WP.reg [(0, false)] (by kernel_rfl) ?_
                refine Dv.asg rfl trivial rfl ?_
                refine .fin ?_
                obtain rfl := Gets.out H
                exact WP.retL (fun _ _ h => h) rfl () trivial (.cons (res_tmp rfl) .nil) rfl (st_sel (L := [blk b675 50 [eq (.string t673.fRoom), sl Event.K t673.fL], blk b672 26 [sl RDag.K a0.fD]]) (F := F) [0, 1] 2 rfl rfl rfl)
              · replace H := Gets.cf H c688
                refine WP.skip ?_
                refine WP.seq ?_
                refine WP.reg [(0, false)] (by kernel_rfl) ?_
                refine Dv.asg rfl trivial rfl ?_
                refine .fin ?_
                obtain rfl := Gets.out H
                exact WP.retL (fun _ _ h => h) rfl () trivial (.cons (res_tmp rfl) .nil) rfl (st_sel (L := [blk b675 50 [eq (.string t673.fRoom), sl Event.K t673.fL], blk b672 26 [sl RDag.K a0.fD]]) (F := F) [0, 1] 2 rfl rfl rfl)
          · replace H := Gets.ct H c685
            refine Dv.skip rfl ⟨_, _, rfl, rfl, .inl rfl⟩ ?_
            refine Dv.skip rfl ⟨_, _, rfl, rfl, .inl rfl⟩ ?_
            refine Dv.skip rfl ⟨_, _, rfl, rfl, .inl rfl⟩ ?_
            refine Dv.skip rfl ⟨_, _, rfl, rfl, .inr rfl⟩ ?_
            refine Dv.skip rfl ⟨_, _, rfl, rfl, .inr rfl⟩ ?_
            refine Dv.skip rfl ⟨_, _, rfl, rfl, .inr rfl⟩ ?_
            refine Dv.skip rfl ⟨_, _, rfl, rfl, .inl rfl⟩ ?_
            refine Dv.pickT rfl trivial rfl rfl ?_
            refine .fin ?_
            refine WP.cond rfl (fun _ => ?_) nofun
            refine WP.seq ?_
            refine WP.reg [(0, false)] (by kernel_rfl) ?_
            refine Dv.asg rfl trivial rfl ?_
            refine .fin ?_
            obtain rfl := Gets.out H
            exact WP.retL (fun _ _ h => h) rfl () trivial (.cons (res_tmp rfl) .nil) rfl (st_sel (L := [blk b675 50 [eq (.string t673.fRoom), sl Event.K t673.fL], blk b672 26 [sl RDag.K a0.fD]]) (F := F) [0, 1] 2 rfl rfl rfl)
      · replace H := Gets.ct H c682
        refine Dv.skip rfl ⟨_, _, rfl, rfl, .inl rfl⟩ ?_
        refine Dv.skip rfl ⟨_, _, rfl, rfl, .inl rfl⟩ ?_
        refine Dv.skip rfl ⟨_, _, rfl, rfl, .inl rfl⟩ ?_
        refine Dv.skip rfl ⟨_, _, rfl, rfl, .inr rfl⟩ ?_
        refine Dv.skip rfl ⟨_, _, rfl, rfl, .inr rfl⟩ ?_
        refine Dv.skip rfl ⟨_, _, rfl, rfl, .inl rfl⟩ ?_
        refine Dv.pickT rfl trivial rfl rfl ?_
        refine Dv.mv rfl trivial rfl ?_
        refine Dv.skip rfl ⟨_, _, rfl, rfl, .inl rfl⟩ ?_
        refine Dv.skip rfl ⟨_, _, rfl, rfl, .inl rfl⟩ ?_
        refine Dv.skip rfl ⟨_, _, rfl, rfl, .inl rfl⟩ ?_
        refine Dv.skip rfl ⟨_, _, rfl, rfl, .inr rfl⟩ ?_
        refine Dv.skip rfl ⟨_, _, rfl, rfl, .inr rfl⟩ ?_
        refine Dv.skip rfl ⟨_, _, rfl, rfl, .inr rfl⟩ ?_
        refine Dv.skip rfl ⟨_, _, rfl, rfl, .inl rfl⟩ ?_
        refine Dv.pickT rfl trivial rfl rfl ?_
        refine .fin ?_
        refine WP.cond rfl (fun _ => ?_) nofun
        refine WP.seq ?_
        refine WP.reg [(0, false)] (by kernel_rfl) ?_
        refine Dv.asg rfl trivial rfl ?_
        refine .fin ?_
        obtain rfl := Gets.out H
        exact WP.retL (fun _ _ h => h) rfl () trivial (.cons (res_tmp rfl) .nil) rfl (st_sel (L := [blk b675 50 [eq (.string t673.fRoom), sl Event.K t673.fL], blk b672 26 [sl RDag.K a0.fD]]) (F := F) [0, 1] 2 rfl rfl rfl)
    · replace H := Gets.ct H c680
      refine Dv.skip rfl ⟨_, _, rfl, rfl, .inl rfl⟩ ?_
      refine Dv.skip rfl ⟨_, _, rfl, rfl, .inl rfl⟩ ?_
      refine Dv.skip rfl ⟨_, _, rfl, rfl, .inl rfl⟩ ?_
      refine Dv.pickT rfl trivial rfl rfl ?_
      refine Dv.mv rfl trivial rfl ?_
      refine Dv.skip rfl ⟨_, _, rfl, rfl, .inl rfl⟩ ?_
      refine Dv.skip rfl ⟨_, _, rfl, rfl, .inl rfl⟩ ?_
      refine Dv.skip rfl ⟨_, _, rfl, rfl, .inl rfl⟩ ?_
      refine Dv.skip rfl ⟨_, _, rfl, rfl, .inr rfl⟩ ?_
      refine Dv.skip rfl ⟨_, _, rfl, rfl, .inr rfl⟩ ?_
      refine Dv.skip rfl ⟨_, _, rfl, rfl, .inl rfl⟩ ?_
      refine Dv.pickT rfl trivial rfl rfl ?_
      refine Dv.mv rfl trivial rfl ?_
      refine Dv.skip rfl ⟨_, _, rfl, rfl, .inl rfl⟩ ?_
      refine Dv.skip rfl ⟨_, _, rfl, rfl, .inl rfl⟩ ?_
      refine Dv.skip rfl ⟨_, _, rfl, rfl, .inl rfl⟩ ?_
      refine Dv.skip rfl ⟨_, _, rfl, rfl, .inr rfl⟩ ?_
      refine Dv.skip rfl ⟨_, _, rfl, rfl, .inr rfl⟩ ?_
      refine Dv.skip rfl ⟨_, _, rfl, rfl, .inr rfl⟩ ?_
      refine Dv.skip rfl ⟨_, _, rfl, rfl, .inl rfl⟩ ?_
      refine Dv.pickT rfl trivial rfl rfl ?_
      refine .fin ?_
      refine WP.cond rfl (fun _ => ?_) nofun
      refine WP.seq ?_
      refine WP.reg [(0, false)] (by kernel_rfl) ?_
      refine Dv.asg rfl trivial rfl ?_
      refine .fin ?_
      obtain rfl := Gets.out H
      exact WP.retL (fun _ _ h => h) rfl () trivial (.cons (res_tmp rfl) .nil) rfl (st_sel (L := [blk b675 50 [eq (.string t673.fRoom), sl Event.K t673.fL], blk b672 26 [sl RDag.K a0.fD]]) (F := F) [0, 1] 2 rfl rfl rfl)
end Go.Proofs.Ytigmkniiojpdiaa
