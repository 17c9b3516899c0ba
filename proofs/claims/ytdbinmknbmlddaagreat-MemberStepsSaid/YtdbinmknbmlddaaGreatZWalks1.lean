/- The walks. -/
import Derived.Test.YtdbinmknbmlddaaGreatZMir
import Derived.Test.YtdbinmknbmlddaaGreatConQ
import Derived.Test.YtdbinmknbmlddaaGreatConA3
import Derived.Eval
import Derived.Test.YtdbinmknbmlddaaGreatZShelf
set_option linter.all false
set_option maxRecDepth 10000
set_option maxHeartbeats 20000000
namespace Go.Proofs.YtdbinmknbmlddaaGreat
open Go Go.Sp
theorem dag_New.c {a0 : ByteArray} {r : DDag} (h : dag_New.f a0 = some r) : Tr Tryz.prog 16 [vS a0] [] (γ := OV) (fun _ => True) (fun g => eq g.1) (fun g => [DDag.O g r]) := by
 unfold dag_New.f at h
 refine Tr.body Tryz.func16 (c := _) rfl Tryz.ntmps16 (Nat.le_of_ble_eq_true rfl) fun R0 F => ?_
 replace h := Gets.of h
 have H := h
 clear h
 refine WP.seq <| rg 1 0 <| as0 rfl rfl <| .fin <| WP.seq <| rg 5 10 <| mv0 rfl rfl <| Dv.mmk Value.string (fun p : OV => eq p.1) rfl trivial nofun (fun v1 => ?_)
 refine vg (mpo_new DNode.O) fun _ _ => ?_
 refine Dv.bld (qs := [vS a0, eq v1.1]) (css := [[vS a0], [eq v1.1]]) rfl trivial Tryz.underlying57 pl57 z57 rfl ⟨(cells_one (one_eq rfl)), ⟨(cells_one one_ov), trivial⟩⟩ rfl rfl <| Dv.box rfl trivial rfl cA nofun fun b2 => as0 rfl rfl <| .fin <| wg (DDag.shut (p := (⟨.pointer (some ⟨b2, 0, none⟩), rfl⟩ : OV)) (m := (⟨a0, ([] : List (ByteArray × DNode))⟩ : DDag)) (b2, v1) rfl (pm 2 [0,1])) fun _ _ => ?_
 obtain rfl := Gets.out H
 exact rt i2 rfl (⟨.pointer (some ⟨b2, 0, none⟩), rfl⟩ : OV) 1 [0] 0 (.cons (res_tmp rfl) .nil)
theorem stringslite_HasPrefix.c {a0 : ByteArray} {a1 : ByteArray} {r : Bool} (h : stringslite_HasPrefix.f a0 a1 = some r) : Pt Tryz.prog 101 [vS a0, vS a1] (vB r) := by
 unfold stringslite_HasPrefix.f at h
 refine (Tr.body Tryz.func101 (c := _) rfl Tryz.ntmps101 (Nat.le_of_ble_eq_true rfl) fun R0 F => ?_).pt
 replace h := Gets.of h
 have H := h
 clear h
 refine WP.seq <| rg 1 0 <| as0 rfl rfl <| .fin <| WP.seq <| rg 14 0 <| mv0 rfl rfl <| Dv.lens rfl trivial rfl Tryz.underlying9 <| mv0 rfl rfl <| Dv.lens rfl trivial rfl Tryz.underlying9 <| bn0 rfl rfl rfl run_ge <| mv0 rfl rfl ?_
 cases c3 : decide ((a1.size : Int) ≤ (a0.size : Int))
 ·
  replace H := Gets.cf H c3
  refine sk rfl rfl <| sk rfl rfl <| sk rfl rfl <| sk rfl rfl <| sk rfl rfl <| sk rfl rfl <| pf0 rfl rfl rfl <| as0 rfl rfl <| .fin ?_
  obtain rfl := Gets.out H
  exact rt i2 rfl () 0 [] 0 (.cons (res_tmp rfl) .nil)
 replace H := Gets.ct H c3
 refine mvg rfl rfl rfl <| mvg rfl rfl rfl <| Dv.lens rfl (gg rfl) rfl Tryz.underlying9 <| gr H fun g4 H => Dv.sss rfl (gg rfl) rfl Tryz.underlying9 bdE_none (bdE_some rfl g4.1) g4.2.1 g4.2.2 <| mvg rfl rfl rfl <| bng rfl rfl rfl rfl run_seq <| pt0 rfl rfl rfl <| as0 rfl rfl <| .fin ?_
 obtain rfl := Gets.out H
 exact rt i2 rfl () 0 [] 0 (.cons (res_tmp rfl) .nil)
theorem stringslite_CutPrefix.c {a0 : ByteArray} {a1 : ByteArray} {r : ByteArray × Bool} (h : stringslite_CutPrefix.f a0 a1 = some r) : Pt Tryz.prog 86 [vS a0, vS a1] (tup [vS r.1, vB r.2]) := by
 unfold stringslite_CutPrefix.f at h
 refine (Tr.body Tryz.func86 (c := _) rfl Tryz.ntmps86 (Nat.le_of_ble_eq_true rfl) fun R0 F => ?_).pt
 replace h := Gets.of h
 have H := h
 clear h
 refine WP.seq <| rg 2 0 <| as0 rfl rfl <| as0 rfl rfl <| .fin <| WP.seq <| WP.seq <| rg 4 0 <| mv0 rfl rfl <| mv0 rfl rfl <| el H fun t5 h6 H => cl rfl cal101 rfl (stringslite_HasPrefix.c h6) <| un0 rfl rfl (run_not _) <| .fin <| cd H rfl (fun _ H => ?_) (fun _ H => ?_)
 ·
  refine WP.seq <| rg 3 0 <| mv0 rfl rfl <| as0 rfl rfl <| as0 rfl rfl <| .fin ?_
  obtain rfl := Gets.out H
  exact rt i2 rfl () 0 [] 0 (.cons (res_tmp rfl) (.cons (res_tmp rfl) .nil))
 refine WP.skip <| WP.seq <| rg 6 0 <| mv0 rfl rfl <| mv0 rfl rfl <| Dv.lens rfl trivial rfl Tryz.underlying9 <| gr H fun g8 H => Dv.sss rfl trivial rfl Tryz.underlying9 (bdE_some rfl g8.1) bdE_none g8.2.1 g8.2.2 <| as0 rfl rfl <| as0 rfl rfl <| .fin ?_
 obtain rfl := Gets.out H
 exact rt i2 rfl () 0 [] 0 (.cons (res_tmp rfl) (.cons (res_tmp rfl) .nil))
theorem strings_CutPrefix.c {a0 : ByteArray} {a1 : ByteArray} {r : ByteArray × Bool} (h : strings_CutPrefix.f a0 a1 = some r) : Pt Tryz.prog 66 [vS a0, vS a1] (tup [vS r.1, vB r.2]) := by
 unfold strings_CutPrefix.f at h
 refine (Tr.body Tryz.func66 (c := _) rfl Tryz.ntmps66 (Nat.le_of_ble_eq_true rfl) fun R0 F => ?_).pt
 replace h := Gets.of h
 have H := h
 clear h
 refine WP.seq <| rg 2 0 <| as0 rfl rfl <| as0 rfl rfl <| .fin <| WP.seq <| rg 7 0 <| mv0 rfl rfl <| mv0 rfl rfl <| el H fun t9 h10 H => cl rfl cal86 rfl (stringslite_CutPrefix.c h10) <| ex0 rfl trivial rfl rfl <| ex0 rfl trivial rfl rfl <| as0 rfl rfl <| as0 rfl rfl <| .fin ?_
 obtain rfl := Gets.out H
 exact rt i2 rfl () 0 [] 0 (.cons (res_tmp rfl) (.cons (res_tmp rfl) .nil))
theorem name_small.c {a0 : Int} {r : Bool} (h : name_small.f a0 = some r) : Pt Tryz.prog 103 [eq (.int .u8 a0)] (vB r) := by
 unfold name_small.f at h
 refine (Tr.body Tryz.func103 (c := _) rfl Tryz.ntmps103 (Nat.le_of_ble_eq_true rfl) fun R0 F => ?_).pt
 replace h := Gets.of h
 have H := h
 clear h
 refine WP.seq <| rg 1 0 <| as0 rfl rfl <| .fin <| WP.seq <| rg 15 0 <| mv0 rfl rfl <| bn0 rfl rfl rfl run_ge <| mv0 rfl rfl ?_
 cases c11 : decide (97 ≤ a0)
 ·
  replace H := Gets.cf H c11
  refine sk rfl rfl <| sk rfl rfl <| pf0 rfl rfl rfl <| mv0 rfl rfl <| mvg rfl rfl rfl <| bng rfl rfl rfl rfl run_ge <| mvg rfl rfl rfl ?_
  cases c14 : decide (48 ≤ a0)
  ·
   replace H := Gets.cf H c14
   refine sk rfl rfl <| sk rfl rfl <| pfg rfl rfl rfl rfl <| pf0 rfl rfl rfl <| as0 rfl rfl <| .fin ?_
   obtain rfl := Gets.out H
   exact rt i2 rfl () 0 [] 0 (.cons (res_tmp rfl) .nil)
  replace H := Gets.ct H c14
  refine mvg rfl rfl rfl <| bng rfl rfl rfl rfl run_le <| ptg rfl rfl rfl rfl <| pf0 rfl rfl rfl <| as0 rfl rfl <| .fin ?_
  obtain rfl := Gets.out H
  exact rt i2 rfl () 0 [] 0 (.cons (res_tmp rfl) .nil)
 replace H := Gets.ct H c11
 refine mvg rfl rfl rfl <| bng rfl rfl rfl rfl run_le <| pt0 rfl rfl rfl <| mv0 rfl rfl ?_
 cases c12 : decide (a0 ≤ 122)
 rotate_left
 ·
  replace H := Gets.ct H c12
  refine sk rfl rfl <| sk rfl rfl <| sk rfl rfl <| sku rfl rfl <| sku rfl rfl <| sk rfl rfl <| pt0 rfl rfl rfl <| as0 rfl rfl <| .fin ?_
  obtain rfl := Gets.out H
  exact rt i2 rfl () 0 [] 0 (.cons (res_tmp rfl) .nil)
 replace H := Gets.cf H c12
 refine mvg rfl rfl rfl <| bng rfl rfl rfl rfl run_ge <| mvg rfl rfl rfl ?_
 cases c13 : decide (48 ≤ a0)
 ·
  replace H := Gets.cf H c13
  refine sk rfl rfl <| sk rfl rfl <| pfg rfl rfl rfl rfl <| pf0 rfl rfl rfl <| as0 rfl rfl <| .fin ?_
  obtain rfl := Gets.out H
  exact rt i2 rfl () 0 [] 0 (.cons (res_tmp rfl) .nil)
 replace H := Gets.ct H c13
 refine mvg rfl rfl rfl <| bng rfl rfl rfl rfl run_le <| ptg rfl rfl rfl rfl <| pf0 rfl rfl rfl <| as0 rfl rfl <| .fin ?_
 obtain rfl := Gets.out H
 exact rt i2 rfl () 0 [] 0 (.cons (res_tmp rfl) .nil)
theorem stringslite_IndexByte.c {a0 : ByteArray} {a1 : Int} {r : Int} (h : stringslite_IndexByte.f a0 a1 = some r) : Pt Tryz.prog 115 [vS a0, eq (.int .u8 a1)] (vI r) := by
 unfold stringslite_IndexByte.f at h
 refine (Tr.body Tryz.func115 (c := _) rfl Tryz.ntmps115 (Nat.le_of_ble_eq_true rfl) fun R0 F => ?_).pt
 replace h := Gets.of h
 have H := h
 clear h
 refine WP.seq <| rg 1 0 <| as0 rfl rfl <| .fin <| WP.seq <| rg 4 0 <| mv0 rfl rfl <| mv0 rfl rfl <| Dv.cext rfl trivial rfl (xt_index Tryz.func122 (by kernel_rfl) rfl xf122 xg122) <| as0 rfl rfl <| .fin ?_
 obtain rfl := Gets.out H
 exact rt i2 rfl () 0 [] 0 (.cons (res_tmp rfl) .nil)
theorem strings_IndexByte.c {a0 : ByteArray} {a1 : Int} {r : Int} (h : strings_IndexByte.f a0 a1 = some r) : Pt Tryz.prog 104 [vS a0, eq (.int .u8 a1)] (vI r) := by
 unfold strings_IndexByte.f at h
 refine (Tr.body Tryz.func104 (c := _) rfl Tryz.ntmps104 (Nat.le_of_ble_eq_true rfl) fun R0 F => ?_).pt
 replace h := Gets.of h
 have H := h
 clear h
 refine WP.seq <| rg 1 0 <| as0 rfl rfl <| .fin <| WP.seq <| rg 4 0 <| mv0 rfl rfl <| mv0 rfl rfl <| el H fun t15 h16 H => cl rfl cal115 rfl (stringslite_IndexByte.c h16) <| as0 rfl rfl <| .fin ?_
 obtain rfl := Gets.out H
 exact rt i2 rfl () 0 [] 0 (.cons (res_tmp rfl) .nil)
theorem name_among_1.c {a0 : Int} {c0 : ByteArray} {r : Bool} (h : name_among_1.f a0 c0 = some r) : Pt Tryz.prog 102 [eq (.int .u8 a0), rp [vS c0]] (vB r) := by
 unfold name_among_1.f at h
 refine (Tr.body Tryz.func102 (c := _) rfl Tryz.ntmps102 (Nat.le_of_ble_eq_true rfl) fun R0 F => ?_).pt
 replace h := Gets.of h
 have H := h
 clear h
 refine WP.seq <| rg 1 0 <| as0 rfl rfl <| .fin <| WP.seq <| rg 9 0 <| mv0 rfl rfl <| el H fun t17 h18 H => cl rfl cal103 rfl (name_small.c h18) <| mv0 rfl rfl ?_
 cases c19 : t17
 rotate_left
 ·
  replace H := Gets.ct H c19
  refine sk rfl rfl <| sk rfl rfl <| sk rfl rfl <| sk rfl rfl <| pt0 rfl rfl rfl <| as0 rfl rfl <| .fin ?_
  obtain rfl := Gets.out H
  exact rt i2 rfl () 0 [] 0 (.cons (res_tmp rfl) .nil)
 replace H := Gets.cf H c19
 refine ldR rfl (gg rfl) rfl sc9 rfl <| mvg rfl rfl rfl <| el H fun t20 h21 H => Dv.call rfl (gg rfl) cal104 rfl (strings_IndexByte.c h21) <| bng rfl rfl rfl rfl run_ge <| pf0 rfl rfl rfl <| as0 rfl rfl <| .fin ?_
 obtain rfl := Gets.out H
 exact rt i2 rfl () 0 [] 0 (.cons (res_tmp rfl) .nil)
theorem name_among.c {a0 : ByteArray} {r : (Int → Option Bool)} (h : name_among.f a0 = some r) : Pt Tryz.prog 87 [vS a0] (fq_uint8_bool r) := by
 unfold name_among.f at h
 refine (Tr.body Tryz.func87 (c := _) rfl Tryz.ntmps87 (Nat.le_of_ble_eq_true rfl) fun R0 F => ?_).pt
 replace h := Gets.of h
 have H := h
 clear h
 refine WP.seq <| rg 2 1 <| Dv.box rfl trivial rfl cE nofun fun b22 => as0 rfl rfl <| .fin <| WP.seq <| rg 2 0 <| Dv.gh (gh_frzb (E' := [(0, vS a0), (1, rp [vS a0]), (2, eq .nilFunc)]) (l' := F) 0 rfl (cve_cons rfl cv_id (cve_cons rfl cv_eq (cve_cons rfl cv_id cve_nil))) (all2_app .nil fun _ => cva_id)) (fun _ _ => ?_)
 refine Dv.mkf (Q := fqQ_uint8_bool (fun a0_ => name_among_1.f a0_ a0)) cal102 (by rintro _ _ ⟨a0_, r_, h_, rfl, rfl⟩; exact name_among_1.c h_) rfl trivial rfl rfl <| as0 rfl rfl <| .fin ?_
 obtain rfl := Gets.out H
 exact rt i2 rfl () 0 [] 0 (.cons (res_tmp rfl) .nil)
theorem name_may.c {k : Nat} {a0 : ByteArray} {a1 : Int} {r : Bool} (h : name_may.f k a0 a1 = some r) : Pt Tryz.prog 67 [vS a0, vI a1] (vB r) := by
 unfold name_may.f at h
 refine (Tr.body Tryz.func67 (c := _) rfl Tryz.ntmps67 (Nat.le_of_ble_eq_true rfl) fun R0 F => ?_).pt
 replace h := Gets.of h
 have H := h
 clear h
 refine WP.seq <| rg 1 0 <| as0 rfl rfl <| .fin <| WP.seq <| rg 7 0 <| el H fun t23 h24 H => cl rfl cal87 rfl (name_among.c h24) <| el H fun t25 h26 H => cl rfl cal87 rfl (name_among.c h26) <| el H fun t27 h28 H => cl rfl cal87 rfl (name_among.c h28) <| Dv.blda (qs := [fq_uint8_bool t23, fq_uint8_bool t25, fq_uint8_bool t27]) (css := [[fq_uint8_bool t23], [fq_uint8_bool t25], [fq_uint8_bool t27]]) rfl trivial Tryz.underlying115 Tryz.underlying113 c113 z115 rfl ⟨(cells_one one_fnq), ⟨(cells_one one_fnq), ⟨(cells_one one_fnq), trivial⟩⟩⟩ rfl rfl <| mv0 rfl rfl <| gr H fun g29 H => Dv.ixa (Kd := fK_uint8_bool) (xs := ([t23, t25, t27] : List (Int → Option Bool))) rfl trivial rfl rfl rfl Tryz.underlying115 Tryz.underlying113 rfl c113 rfl rfl g29.1 g29.2 rfl <| as0 rfl rfl <| .fin <| WP.seqr H id (fun p30 : Int × Bool => [(0, vS a0), (1, vI a1), (4, vB false), (5, fq_uint8_bool (fK_uint8_bool.at ([t23, t25, t27] : List (Int → Option Bool)) a1)), (14, vI (a0.size : Int)), (15, vI p30.1), (16, vB p30.2)]) (fun p30 : Int × Bool => F) (fun p30 H => ?_) (fun H => ?_)
 ·
  refine WP.seq <| rg 8 0 <| mv0 rfl rfl <| bn0 rfl rfl rfl run_sne <| mv0 rfl rfl ?_
  cases c31 : !decide (a0 = (⟨#[]⟩ : ByteArray))
  ·
   replace H := Gets.cf H c31
   refine sk rfl rfl <| sk rfl rfl <| sk rfl rfl <| pf0 rfl rfl rfl <| as0 rfl rfl <| .fin ?_
   obtain rfl := Gets.out H
   exact rt i2 rfl () 0 [] 0 (.cons (res_tmp rfl) .nil)
  replace H := Gets.ct H c31
  refine mvg rfl rfl rfl <| Dv.lens rfl (gg rfl) rfl Tryz.underlying9 <| bng rfl rfl rfl rfl run_le <| pt0 rfl rfl rfl <| as0 rfl rfl <| .fin ?_
  obtain rfl := Gets.out H
  exact rt i2 rfl () 0 [] 0 (.cons (res_tmp rfl) .nil)
 refine WP.seq <| rg 3 0 <| mv0 rfl rfl <| Dv.lens rfl trivial rfl Tryz.underlying9 <| mv0 rfl rfl <| .fin <| WP.block <| wg (sg 0 [] 0) fun _ _ => ?_
 refine lp (fun j_ (p39 : Int) => name_may.l0 k a0 a1 t23 t25 t27 j_ p39) 0 H (fun p39 => [(0, vS a0), (1, vI a1), (4, vB false), (5, fq_uint8_bool (fK_uint8_bool.at ([t23, t25, t27] : List (Int → Option Bool)) a1)), (14, vI (a0.size : Int)), (15, vI p39)]) (fun p39 => F) ?_
 rintro j_ x32 H
 rcases j_ with _ | j38
 ·
  exact (Gets.no H).elim
 replace H : Gets (name_may.l0 k a0 a1 t23 t25 t27 (j38 + 1) x32) _ := H
 rw [name_may.l0] at H
 refine WP.seq <| rg 1 0 <| bn0 rfl rfl rfl run_lt <| .fin <| WP.seq <| cd H rfl (fun _ H => ?_) (fun _ H => ?_)
 rotate_left
 ·
  refine WP.exit ?_
  replace H := Gets.out H
  exact jn (x32, decide (x32 < (a0.size : Int))) H
 refine WP.skip <| WP.seq <| WP.block <| WP.seq <| rg 2 0 <| mv0 rfl rfl <| as0 rfl rfl <| .fin <| WP.seq <| rg 6 0 <| mv0 rfl rfl <| mv0 rfl rfl <| mv0 rfl rfl <| gr H fun g34 H => Dv.ixs rfl trivial rfl rfl Tryz.underlying9 g34.1 g34.2 <| el H fun t35 h36 H => Dv.callq (ret := vB t35) rfl trivial rfl rfl ⟨_, _, h36, rfl, rfl⟩ <| un0 rfl rfl (run_not _) <| .fin <| cd H rfl (fun _ H => ?_) (fun _ H => ?_)
 rotate_left
 ·
  exact WP.skip <| rg 2 0 <| bn0 rfl rfl rfl run_add <| mv0 rfl rfl <| .fin <| bk j38 (w64 (x32 + 1)) H
 refine WP.seq <| rg 1 0 <| as0 rfl rfl <| .fin ?_
 replace H := Gets.outr H
 obtain rfl := Gets.out H
 exact rt i2 rfl () 0 [] 0 (.cons (res_tmp rfl) .nil)
theorem name_Event.c {k : Nat} {a0 : ByteArray} {r : Bool} (h : name_Event.f k a0 = some r) : Pt Tryz.prog 51 [vS a0] (vB r) := by
 unfold name_Event.f at h
 refine (Tr.body Tryz.func51 (c := _) rfl Tryz.ntmps51 (Nat.le_of_ble_eq_true rfl) fun R0 F => ?_).pt
 replace h := Gets.of h
 have H := h
 clear h
 refine WP.seq <| rg 1 0 <| as0 rfl rfl <| .fin <| WP.seq <| rg 7 0 <| mv0 rfl rfl <| el H fun t40 h41 H => cl rfl cal66 rfl (strings_CutPrefix.c h41) <| mv0 rfl rfl <| ex0 rfl trivial rfl rfl <| ex0 rfl trivial rfl rfl <| as0 rfl rfl <| as0 rfl rfl <| .fin <| WP.seq <| rg 6 0 <| mv0 rfl rfl <| mv0 rfl rfl ?_
 cases c42 : t40.2
 ·
  replace H := Gets.cf H c42
  refine sk rfl rfl <| sk rfl rfl <| pf0 rfl rfl rfl <| as0 rfl rfl <| .fin ?_
  obtain rfl := Gets.out H
  exact rt i2 rfl () 0 [] 0 (.cons (res_tmp rfl) .nil)
 replace H := Gets.ct H c42
 refine mvg rfl rfl rfl <| el H fun t43 h44 H => Dv.call rfl (gg rfl) cal67 rfl (name_may.c h44) <| pt0 rfl rfl rfl <| as0 rfl rfl <| .fin ?_
 obtain rfl := Gets.out H
 exact rt i2 rfl () 0 [] 0 (.cons (res_tmp rfl) .nil)
theorem bytealg_Cutover.c {a0 : Int} {r : Int} (h : bytealg_Cutover.f a0 = some r) : Pt Tryz.prog 117 [vI a0] (vI r) := by
 unfold bytealg_Cutover.f at h
 refine (Tr.body Tryz.func117 (c := _) rfl Tryz.ntmps117 (Nat.le_of_ble_eq_true rfl) fun R0 F => ?_).pt
 replace h := Gets.of h
 have H := h
 clear h
 refine WP.seq <| rg 1 0 <| as0 rfl rfl <| .fin <| WP.seq <| rg 4 0 <| mv0 rfl rfl <| bn0 rfl rfl rfl run_add <| bn0 rfl rfl rfl (run_quo (by decide)) <| as0 rfl rfl <| .fin ?_
 obtain rfl := Gets.out H
 exact rt i2 rfl () 0 [] 0 (.cons (res_tmp rfl) .nil)
theorem stringslite_Index.c {a0 : ByteArray} {a1 : ByteArray} {r : Int} (h : stringslite_Index.f a0 a1 = some r) : Pt Tryz.prog 100 [vS a0, vS a1] (vI r) := by
 unfold stringslite_Index.f at h
 refine (Tr.body Tryz.func100 (c := _) rfl Tryz.ntmps100 (Nat.le_of_ble_eq_true rfl) fun R0 F => ?_).pt
 replace h := Gets.of h
 have H := h
 clear h
 refine WP.seq <| rg 1 0 <| as0 rfl rfl <| .fin <| WP.seq <| rg 3 0 <| mv0 rfl rfl <| Dv.lens rfl trivial rfl Tryz.underlying9 <| as0 rfl rfl <| .fin <| WP.seq <| WP.block <| WP.seq <| rg 8 0 <| mv0 rfl rfl <| bn0 rfl rfl rfl run_eq <| mv0 rfl rfl ?_
 cases c47 : ((a1.size : Int) == 0)
 rotate_left
 ·
  replace H := Gets.ct H c47
  refine sk rfl rfl <| sk rfl rfl <| sk rfl rfl <| pt0 rfl rfl rfl <| as0 rfl rfl <| .fin <| WP.cond rfl (fun _ => ?_) nofun
  refine WP.seq <| rg 1 0 <| as0 rfl rfl <| .fin ?_
  obtain rfl := Gets.out H
  exact rt i2 rfl () 0 [] 0 (.cons (res_tmp rfl) .nil)
 replace H := Gets.cf H c47
 refine mvg rfl rfl rfl <| mvg rfl rfl rfl <| bng rfl rfl rfl rfl run_seq <| pf0 rfl rfl rfl <| as0 rfl rfl <| .fin <| cd H rfl (fun _ H => ?_) (fun _ H => ?_)
 ·
  refine WP.seq <| rg 1 0 <| as0 rfl rfl <| .fin ?_
  obtain rfl := Gets.out H
  exact rt i2 rfl () 0 [] 0 (.cons (res_tmp rfl) .nil)
 refine WP.seq <| rg 3 0 <| mv0 rfl rfl <| bn0 rfl rfl rfl run_eq <| as0 rfl rfl <| .fin <| cd H rfl (fun _ H => ?_) (fun _ H => ?_)
 ·
  refine WP.seq <| rg 5 0 <| mv0 rfl rfl <| mv0 rfl rfl <| gr H fun g51 H => Dv.ixs rfl trivial rfl rfl Tryz.underlying9 g51.1 g51.2 <| el H fun t52 h53 H => cl rfl cal115 rfl (stringslite_IndexByte.c h53) <| as0 rfl rfl <| .fin ?_
  obtain rfl := Gets.out H
  exact rt i2 rfl () 0 [] 0 (.cons (res_tmp rfl) .nil)
 refine WP.seq <| rg 5 0 <| mv0 rfl rfl <| mv0 rfl rfl <| Dv.lens rfl trivial rfl Tryz.underlying9 <| bn0 rfl rfl rfl run_ge <| as0 rfl rfl <| .fin <| cd H rfl (fun _ H => ?_) (fun _ H => ?_)
 rotate_left
 ·
  exact (Gets.no H).elim
 refine WP.seq <| rg 1 0 <| as0 rfl rfl <| .fin ?_
 obtain rfl := Gets.out H
 exact rt i2 rfl () 0 [] 0 (.cons (res_tmp rfl) .nil)
theorem stringslite_Cut.c {a0 : ByteArray} {a1 : ByteArray} {r : ByteArray × ByteArray × Bool} (h : stringslite_Cut.f a0 a1 = some r) : Pt Tryz.prog 85 [vS a0, vS a1] (tup [vS r.1, vS r.2.1, vB r.2.2]) := by
 unfold stringslite_Cut.f at h
 refine (Tr.body Tryz.func85 (c := _) rfl Tryz.ntmps85 (Nat.le_of_ble_eq_true rfl) fun R0 F => ?_).pt
 replace h := Gets.of h
 have H := h
 clear h
 refine WP.seq <| rg 3 0 <| as0 rfl rfl <| as0 rfl rfl <| as0 rfl rfl <| .fin <| WP.seq <| WP.seq <| rg 4 0 <| mv0 rfl rfl <| mv0 rfl rfl <| el H fun t55 h56 H => cl rfl cal100 rfl (stringslite_Index.c h56) <| as0 rfl rfl <| .fin <| WP.seq <| rg 2 0 <| mv0 rfl rfl <| bn0 rfl rfl rfl run_ge <| .fin <| cd H rfl (fun _ H => ?_) (fun _ H => ?_)
 rotate_left
 ·
  refine WP.skip <| WP.seq <| rg 4 0 <| mv0 rfl rfl <| as0 rfl rfl <| as0 rfl rfl <| as0 rfl rfl <| .fin ?_
  obtain rfl := Gets.out H
  exact rt i2 rfl () 0 [] 0 (.cons (res_tmp rfl) (.cons (res_tmp rfl) (.cons (res_tmp rfl) .nil)))
 refine WP.seq <| dg Tryz.checked.mixed 12 0 <| mv0 rfl rfl <| mv0 rfl rfl <| gr H fun g58 H => Dv.sss rfl trivial rfl Tryz.underlying9 bdE_none (bdE_some rfl g58.1) g58.2.1 g58.2.2 <| mv0 rfl rfl <| mv0 rfl rfl <| mv0 rfl rfl <| Dv.lens rfl trivial rfl Tryz.underlying9 <| bn0 rfl rfl rfl run_add <| gr H fun g59 H => Dv.sss rfl trivial rfl Tryz.underlying9 (bdE_some rfl g59.1) bdE_none g59.2.1 g59.2.2 <| as0 rfl rfl <| as0 rfl rfl <| as0 rfl rfl <| .fin ?_
 obtain rfl := Gets.out H
 exact rt i2 rfl () 0 [] 0 (.cons (res_tmp rfl) (.cons (res_tmp rfl) (.cons (res_tmp rfl) .nil)))
theorem strings_Cut.c {a0 : ByteArray} {a1 : ByteArray} {r : ByteArray × ByteArray × Bool} (h : strings_Cut.f a0 a1 = some r) : Pt Tryz.prog 65 [vS a0, vS a1] (tup [vS r.1, vS r.2.1, vB r.2.2]) := by
 unfold strings_Cut.f at h
 refine (Tr.body Tryz.func65 (c := _) rfl Tryz.ntmps65 (Nat.le_of_ble_eq_true rfl) fun R0 F => ?_).pt
 replace h := Gets.of h
 have H := h
 clear h
 refine WP.seq <| rg 3 0 <| as0 rfl rfl <| as0 rfl rfl <| as0 rfl rfl <| .fin <| WP.seq <| rg 9 0 <| mv0 rfl rfl <| mv0 rfl rfl <| el H fun t60 h61 H => cl rfl cal85 rfl (stringslite_Cut.c h61) <| ex0 rfl trivial rfl rfl <| ex0 rfl trivial rfl rfl <| ex0 rfl trivial rfl rfl <| as0 rfl rfl <| as0 rfl rfl <| as0 rfl rfl <| .fin ?_
 obtain rfl := Gets.out H
 exact rt i2 rfl () 0 [] 0 (.cons (res_tmp rfl) (.cons (res_tmp rfl) (.cons (res_tmp rfl) .nil)))
theorem name_Server.c {k : Nat} {a0 : ByteArray} {r : Bool} (h : name_Server.f k a0 = some r) : Pt Tryz.prog 88 [vS a0] (vB r) := by
 unfold name_Server.f at h
 refine (Tr.body Tryz.func88 (c := _) rfl Tryz.ntmps88 (Nat.le_of_ble_eq_true rfl) fun R0 F => ?_).pt
 replace h := Gets.of h
 have H := h
 clear h
 refine WP.seq <| rg 1 0 <| as0 rfl rfl <| .fin <| WP.seq <| rg 16 0 <| mv0 rfl rfl <| el H fun t62 h63 H => cl rfl cal67 rfl (name_may.c h63) <| mv0 rfl rfl ?_
 cases c64 : t62
 ·
  replace H := Gets.cf H c64
  refine sk rfl rfl <| sk rfl rfl <| sk rfl rfl <| pf0 rfl rfl rfl <| mv0 rfl rfl <| sk rfl rfl <| sk rfl rfl <| sk rfl rfl <| sk rfl rfl <| sk rfl rfl <| sk rfl rfl <| pf0 rfl rfl rfl <| as0 rfl rfl <| .fin ?_
  obtain rfl := Gets.out H
  exact rt i2 rfl () 0 [] 0 (.cons (res_tmp rfl) .nil)
 replace H := Gets.ct H c64
 refine mvg rfl rfl rfl <| gr H fun g65 H => Dv.ixs rfl (gg rfl) rfl rfl Tryz.underlying9 g65.1 g65.2 <| el H fun t66 h67 H => Dv.call rfl (gg rfl) cal103 rfl (name_small.c h67) <| pt0 rfl rfl rfl <| mv0 rfl rfl ?_
 cases c68 : t66
 ·
  replace H := Gets.cf H c68
  refine sk rfl rfl <| sk rfl rfl <| sk rfl rfl <| sk rfl rfl <| sk rfl rfl <| sk rfl rfl <| pf0 rfl rfl rfl <| as0 rfl rfl <| .fin ?_
  obtain rfl := Gets.out H
  exact rt i2 rfl () 0 [] 0 (.cons (res_tmp rfl) .nil)
 replace H := Gets.ct H c68
 refine mvg rfl rfl rfl <| mvg rfl rfl rfl <| Dv.lens rfl (gg rfl) rfl Tryz.underlying9 <| bng rfl rfl rfl rfl run_sub <| gr H fun g69 H => Dv.ixs rfl (gg rfl) rfl rfl Tryz.underlying9 g69.1 g69.2 <| el H fun t70 h71 H => Dv.call rfl (gg rfl) cal103 rfl (name_small.c h71) <| pt0 rfl rfl rfl <| as0 rfl rfl <| .fin ?_
 obtain rfl := Gets.out H
 exact rt i2 rfl () 0 [] 0 (.cons (res_tmp rfl) .nil)
theorem name_split.c {k : Nat} {a0 : ByteArray} {a1 : ByteArray} {r : ByteArray × ByteArray × Bool} (h : name_split.f k a0 a1 = some r) : Pt Tryz.prog 68 [vS a0, vS a1] (tup [vS r.1, vS r.2.1, vB r.2.2]) := by
 unfold name_split.f at h
 refine (Tr.body Tryz.func68 (c := _) rfl Tryz.ntmps68 (Nat.le_of_ble_eq_true rfl) fun R0 F => ?_).pt
 replace h := Gets.of h
 have H := h
 clear h
 refine WP.seq <| rg 3 0 <| as0 rfl rfl <| as0 rfl rfl <| as0 rfl rfl <| .fin <| WP.seq <| rg 8 0 <| mv0 rfl rfl <| mv0 rfl rfl <| el H fun t72 h73 H => cl rfl cal66 rfl (strings_CutPrefix.c h73) <| mv0 rfl rfl <| ex0 rfl trivial rfl rfl <| ex0 rfl trivial rfl rfl <| as0 rfl rfl <| as0 rfl rfl <| .fin <| WP.seq <| rg 9 0 <| mv0 rfl rfl <| el H fun t74 h75 H => cl rfl cal65 rfl (strings_Cut.c h75) <| mv0 rfl rfl <| ex0 rfl trivial rfl rfl <| ex0 rfl trivial rfl rfl <| ex0 rfl trivial rfl rfl <| as0 rfl rfl <| as0 rfl rfl <| as0 rfl rfl <| .fin <| WP.seq <| rg 17 0 <| mv0 rfl rfl <| mv0 rfl rfl <| mv0 rfl rfl <| mv0 rfl rfl ?_
 cases c76 : t72.2
 ·
  replace H := Gets.cf H c76
  refine sk rfl rfl <| pf0 rfl rfl rfl <| mv0 rfl rfl <| sk rfl rfl <| sk rfl rfl <| pf0 rfl rfl rfl <| mv0 rfl rfl <| sk rfl rfl <| sk rfl rfl <| pf0 rfl rfl rfl <| as0 rfl rfl <| as0 rfl rfl <| as0 rfl rfl <| .fin ?_
  obtain rfl := Gets.out H
  exact rt i2 rfl () 0 [] 0 (.cons (res_tmp rfl) (.cons (res_tmp rfl) (.cons (res_tmp rfl) .nil)))
 replace H := Gets.ct H c76
 refine mvg rfl rfl rfl <| pt0 rfl rfl rfl <| mv0 rfl rfl ?_
 cases c77 : t74.2.2
 ·
  replace H := Gets.cf H c77
  refine sk rfl rfl <| sk rfl rfl <| pf0 rfl rfl rfl <| mv0 rfl rfl <| sk rfl rfl <| sk rfl rfl <| pf0 rfl rfl rfl <| as0 rfl rfl <| as0 rfl rfl <| as0 rfl rfl <| .fin ?_
  obtain rfl := Gets.out H
  exact rt i2 rfl () 0 [] 0 (.cons (res_tmp rfl) (.cons (res_tmp rfl) (.cons (res_tmp rfl) .nil)))
 replace H := Gets.ct H c77
 refine mvg rfl rfl rfl <| el H fun t78 h79 H => Dv.call rfl (gg rfl) cal67 rfl (name_may.c h79) <| pt0 rfl rfl rfl <| mv0 rfl rfl ?_
 cases c80 : t78
 ·
  replace H := Gets.cf H c80
  refine sk rfl rfl <| sk rfl rfl <| pf0 rfl rfl rfl <| as0 rfl rfl <| as0 rfl rfl <| as0 rfl rfl <| .fin ?_
  obtain rfl := Gets.out H
  exact rt i2 rfl () 0 [] 0 (.cons (res_tmp rfl) (.cons (res_tmp rfl) (.cons (res_tmp rfl) .nil)))
 replace H := Gets.ct H c80
 refine mvg rfl rfl rfl <| el H fun t81 h82 H => Dv.call rfl (gg rfl) cal88 rfl (name_Server.c h82) <| pt0 rfl rfl rfl <| as0 rfl rfl <| as0 rfl rfl <| as0 rfl rfl <| .fin ?_
 obtain rfl := Gets.out H
 exact rt i2 rfl () 0 [] 0 (.cons (res_tmp rfl) (.cons (res_tmp rfl) (.cons (res_tmp rfl) .nil)))
theorem name_Room.c {k : Nat} {a0 : ByteArray} {r : Bool} (h : name_Room.f k a0 = some r) : Pt Tryz.prog 52 [vS a0] (vB r) := by
 unfold name_Room.f at h
 refine (Tr.body Tryz.func52 (c := _) rfl Tryz.ntmps52 (Nat.le_of_ble_eq_true rfl) fun R0 F => ?_).pt
 replace h := Gets.of h
 have H := h
 clear h
 refine WP.seq <| rg 1 0 <| as0 rfl rfl <| .fin <| WP.seq <| rg 9 0 <| mv0 rfl rfl <| el H fun t83 h84 H => cl rfl cal68 rfl (name_split.c h84) <| mv0 rfl rfl <| ex0 rfl trivial rfl rfl <| ex0 rfl trivial rfl rfl <| ex0 rfl trivial rfl rfl <| as0 rfl rfl <| as0 rfl rfl <| as0 rfl rfl <| .fin <| WP.seq <| rg 2 0 <| mv0 rfl rfl <| as0 rfl rfl <| .fin ?_
 obtain rfl := Gets.out H
 exact rt i2 rfl () 0 [] 0 (.cons (res_tmp rfl) .nil)
theorem name_User.c {k : Nat} {a0 : ByteArray} {r : Bool} (h : name_User.f k a0 = some r) : Pt Tryz.prog 53 [vS a0] (vB r) := by
 unfold name_User.f at h
 refine (Tr.body Tryz.func53 (c := _) rfl Tryz.ntmps53 (Nat.le_of_ble_eq_true rfl) fun R0 F => ?_).pt
 replace h := Gets.of h
 have H := h
 clear h
 refine WP.seq <| rg 1 0 <| as0 rfl rfl <| .fin <| WP.seq <| rg 9 0 <| mv0 rfl rfl <| el H fun t85 h86 H => cl rfl cal68 rfl (name_split.c h86) <| mv0 rfl rfl <| ex0 rfl trivial rfl rfl <| ex0 rfl trivial rfl rfl <| ex0 rfl trivial rfl rfl <| as0 rfl rfl <| as0 rfl rfl <| as0 rfl rfl <| .fin <| WP.seq <| rg 2 0 <| mv0 rfl rfl <| as0 rfl rfl <| .fin ?_
 obtain rfl := Gets.out H
 exact rt i2 rfl () 0 [] 0 (.cons (res_tmp rfl) .nil)
theorem dag_May.c {k : Nat} {a0 : Event} {r : Bool} (h : dag_May.f k a0 = some r) : Pt Tryz.prog 34 [agg (Event.enc a0)] (vB r) := by
 unfold dag_May.f at h
 refine (Tr.body Tryz.func34 (c := _) rfl Tryz.ntmps34 (Nat.le_of_ble_eq_true rfl) fun R0 F => ?_).pt
 replace h := Gets.of h
 have H := h
 clear h
 refine WP.seq <| rg 2 1 <| Dv.box rfl trivial rfl cA nofun fun b87 => as0 rfl rfl <| .fin <| WP.scope <| WP.seq <| WP.seq <| rg 32 0 <| fb rfl trivial rfl fa43_0 <| ld 0 rfl trivial rfl sc9 rfl rfl <| el H fun t88 h89 H => cl rfl cal51 rfl (name_Event.c h89) <| un0 rfl rfl (run_not _) <| mv0 rfl rfl ?_
 cases c90 : !t88
 rotate_left
 ·
  replace H := Gets.ct H c90
  refine sk rfl rfl <| sk rfl rfl <| sk rfl rfl <| sk rfl rfl <| pt0 rfl rfl rfl <| mv0 rfl rfl <| sk rfl rfl <| sk rfl rfl <| sk rfl rfl <| sk rfl rfl <| pt0 rfl rfl rfl <| mv0 rfl rfl <| sk rfl rfl <| sk rfl rfl <| sk rfl rfl <| sk rfl rfl <| pt0 rfl rfl rfl <| mv0 rfl rfl <| sk rfl rfl <| sk rfl rfl <| sk rfl rfl <| pt0 rfl rfl rfl <| mv0 rfl rfl <| sk rfl rfl <| sk rfl rfl <| sk rfl rfl <| pt0 rfl rfl rfl <| .fin <| WP.cond rfl (fun _ => ?_) nofun
  refine WP.seq <| rg 1 0 <| as0 rfl rfl <| .fin ?_
  obtain rfl := Gets.out H
  exact rt i2 rfl () 1 [0] 1 (.cons (res_tmp rfl) .nil)
 replace H := Gets.cf H c90
 refine fb rfl (gg rfl) rfl fa43_1 <| ld 0 rfl (gg rfl) rfl sc9 rfl rfl <| el H fun t92 h93 H => Dv.call rfl (gg rfl) cal52 rfl (name_Room.c h93) <| ung rfl rfl rfl (run_not _) <| pf0 rfl rfl rfl <| mv0 rfl rfl ?_
 cases c94 : !t92
 rotate_left
 ·
  replace H := Gets.ct H c94
  refine sk rfl rfl <| sk rfl rfl <| sk rfl rfl <| sk rfl rfl <| pt0 rfl rfl rfl <| mv0 rfl rfl <| sk rfl rfl <| sk rfl rfl <| sk rfl rfl <| sk rfl rfl <| pt0 rfl rfl rfl <| mv0 rfl rfl <| sk rfl rfl <| sk rfl rfl <| sk rfl rfl <| pt0 rfl rfl rfl <| mv0 rfl rfl <| sk rfl rfl <| sk rfl rfl <| sk rfl rfl <| pt0 rfl rfl rfl <| .fin <| WP.cond rfl (fun _ => ?_) nofun
  refine WP.seq <| rg 1 0 <| as0 rfl rfl <| .fin ?_
  obtain rfl := Gets.out H
  exact rt i2 rfl () 1 [0] 1 (.cons (res_tmp rfl) .nil)
 replace H := Gets.cf H c94
 refine fb rfl (gg rfl) rfl fa43_4 <| ld 0 rfl (gg rfl) rfl sc9 rfl rfl <| el H fun t96 h97 H => Dv.call rfl (gg rfl) cal53 rfl (name_User.c h97) <| ung rfl rfl rfl (run_not _) <| pf0 rfl rfl rfl <| mv0 rfl rfl ?_
 cases c98 : !t96
 rotate_left
 ·
  replace H := Gets.ct H c98
  refine sk rfl rfl <| sk rfl rfl <| sk rfl rfl <| sk rfl rfl <| pt0 rfl rfl rfl <| mv0 rfl rfl <| sk rfl rfl <| sk rfl rfl <| sk rfl rfl <| pt0 rfl rfl rfl <| mv0 rfl rfl <| sk rfl rfl <| sk rfl rfl <| sk rfl rfl <| pt0 rfl rfl rfl <| .fin <| WP.cond rfl (fun _ => ?_) nofun
  refine WP.seq <| rg 1 0 <| as0 rfl rfl <| .fin ?_
  obtain rfl := Gets.out H
  exact rt i2 rfl () 1 [0] 1 (.cons (res_tmp rfl) .nil)
 replace H := Gets.cf H c98
 refine fb rfl (gg rfl) rfl fa43_2 <| ld 0 rfl (gg rfl) rfl sc29 rfl rfl <| Dv.lenl rfl (gg rfl) rfl Tryz.underlying29 <| bng rfl rfl rfl rfl run_gt <| pf0 rfl rfl rfl <| mv0 rfl rfl ?_
 cases c100 : decide (4 < (a0.fParents.length : Int))
 rotate_left
 ·
  replace H := Gets.ct H c100
  refine sk rfl rfl <| sk rfl rfl <| sk rfl rfl <| pt0 rfl rfl rfl <| mv0 rfl rfl <| sk rfl rfl <| sk rfl rfl <| sk rfl rfl <| pt0 rfl rfl rfl <| .fin <| WP.cond rfl (fun _ => ?_) nofun
  refine WP.seq <| rg 1 0 <| as0 rfl rfl <| .fin ?_
  obtain rfl := Gets.out H
  exact rt i2 rfl () 1 [0] 1 (.cons (res_tmp rfl) .nil)
 replace H := Gets.cf H c100
 refine fb rfl (gg rfl) rfl fa43_5 <| ld 0 rfl (gg rfl) rfl sc3 rfl rfl <| bng rfl rfl rfl rfl run_lt <| pf0 rfl rfl rfl <| mv0 rfl rfl ?_
 cases c102 : decide (a0.fDoes < 0)
 rotate_left
 ·
  replace H := Gets.ct H c102
  refine sk rfl rfl <| sk rfl rfl <| sk rfl rfl <| pt0 rfl rfl rfl <| .fin <| WP.cond rfl (fun _ => ?_) nofun
  refine WP.seq <| rg 1 0 <| as0 rfl rfl <| .fin ?_
  obtain rfl := Gets.out H
  exact rt i2 rfl () 1 [0] 1 (.cons (res_tmp rfl) .nil)
 replace H := Gets.cf H c102
 refine fb rfl (gg rfl) rfl fa43_5 <| ld 0 rfl (gg rfl) rfl sc3 rfl rfl <| bng rfl rfl rfl rfl run_gt <| pf0 rfl rfl rfl <| .fin <| cd H rfl (fun _ H => ?_) (fun _ H => ?_)
 ·
  refine WP.seq <| rg 1 0 <| as0 rfl rfl <| .fin ?_
  obtain rfl := Gets.out H
  exact rt i2 rfl () 1 [0] 1 (.cons (res_tmp rfl) .nil)
 refine WP.skip <| WP.seq <| WP.seq <| rg 21 0 <| fb rfl trivial rfl fa43_3 <| ld 0 rfl trivial rfl sc9 rfl rfl <| bn0 rfl rfl rfl run_sne <| mv0 rfl rfl ?_
 cases c105 : !decide (a0.fThread = (⟨#[]⟩ : ByteArray))
 ·
  replace H := Gets.cf H c105
  refine sk rfl rfl <| sk rfl rfl <| sk rfl rfl <| sk rfl rfl <| sk rfl rfl <| sku rfl rfl <| sku rfl rfl <| sku rfl rfl <| sku rfl rfl <| sku rfl rfl <| sk rfl rfl <| sk rfl rfl <| sku rfl rfl <| sku rfl rfl <| sku rfl rfl <| sk rfl rfl <| pf0 rfl rfl rfl <| .fin <| WP.cond rfl nofun (fun _ => ?_)
  refine WP.skip <| WP.seq <| rg 1 0 <| as0 rfl rfl <| .fin <| WP.seq <| WP.label <| WP.seqn H id (fun p130 : Bool × Int × Bool => [(0, agg (Event.enc a0)), (1, eq (.pointer (some ⟨b87, 0, none⟩))), (2, vB false), (3, vB p130.1), (37, vB (decide (2 < a0.fDoes))), (58, vB false), (60, sl strK a0.fParents), (61, vI (a0.fParents.length : Int)), (62, vI p130.2.1), (63, vB p130.2.2)]) (fun p130 : Bool × Int × Bool => [blk b87 43 (Event.enc a0)] ++ F) (fun p130 H => ?_) (fun H => ?_)
  ·
   refine WP.seq <| rg 2 0 <| mv0 rfl rfl <| as0 rfl rfl <| .fin ?_
   obtain rfl := Gets.out H
   exact rt i2 rfl () 1 [0] 1 (.cons (res_tmp rfl) .nil)
  refine WP.seq <| rg 4 0 <| fb rfl trivial rfl fa43_2 <| ld 0 rfl trivial rfl sc29 rfl rfl <| Dv.lenl rfl trivial rfl Tryz.underlying29 <| mv0 rfl rfl <| .fin <| WP.block <| wg (sg 1 [0] 0) fun _ _ => ?_
  refine lp (fun j_ (p145 : Int) => dag_May.l1 k a0 j_ p145) 0 H (fun p145 => [(0, agg (Event.enc a0)), (1, eq (.pointer (some ⟨b87, 0, none⟩))), (2, vB false), (3, vB true), (37, vB (decide (2 < a0.fDoes))), (58, vB false), (60, sl strK a0.fParents), (61, vI (a0.fParents.length : Int)), (62, vI p145)]) (fun p145 => [blk b87 43 (Event.enc a0)] ++ F) ?_
  rintro j_ x131 H
  rcases j_ with _ | j144
  ·
   exact (Gets.no H).elim
  replace H : Gets (dag_May.l1 k a0 (j144 + 1) x131) _ := H
  rw [dag_May.l1] at H
  refine WP.seq <| rg 1 0 <| bn0 rfl rfl rfl run_lt <| .fin <| WP.seq <| cd H rfl (fun _ H => ?_) (fun _ H => ?_)
  rotate_left
  ·
   refine WP.exit ?_
   replace H := Gets.out H
   exact jn (true, x131, decide (x131 < (a0.fParents.length : Int))) H
  refine WP.skip <| WP.seq <| WP.block <| WP.seq <| rg 5 0 <| mv0 rfl rfl <| gr H fun g133 H => Dv.ixr rfl trivial rfl rfl Tryz.underlying29 Tryz.underlying9 c9 g133.1 g133.2 <| ldR rfl trivial rfl sc9 rfl <| as0 rfl rfl <| as0 rfl rfl <| .fin <| WP.seq <| rg 23 0 <| mv0 rfl rfl <| el H fun t134 h135 H => cl rfl cal51 rfl (name_Event.c h135) <| un0 rfl rfl (run_not _) <| mv0 rfl rfl ?_
  cases c136 : !t134
  rotate_left
  ·
   replace H := Gets.ct H c136
   refine sk rfl rfl <| sk rfl rfl <| sk rfl rfl <| sk rfl rfl <| pt0 rfl rfl rfl <| mv0 rfl rfl <| sk rfl rfl <| sk rfl rfl <| sk rfl rfl <| sku rfl rfl <| sku rfl rfl <| sku rfl rfl <| sku rfl rfl <| sku rfl rfl <| sku rfl rfl <| sku rfl rfl <| sku rfl rfl <| sk rfl rfl <| pt0 rfl rfl rfl <| .fin <| WP.cond rfl (fun _ => ?_) nofun
   refine WP.seq <| rg 1 0 <| as0 rfl rfl <| .fin <| WP.exit ?_
   replace H := Gets.out H
   exact jn (false, x131, decide (x131 < (a0.fParents.length : Int))) H
  replace H := Gets.cf H c136
  refine mvg rfl rfl rfl <| fb rfl (gg rfl) rfl fa43_0 <| ld 0 rfl (gg rfl) rfl sc9 rfl rfl <| bng rfl rfl rfl rfl run_seq <| pf0 rfl rfl rfl <| mv0 rfl rfl ?_
  cases c138 : decide ((strK.at a0.fParents x131) = a0.fID)
  rotate_left
  ·
   replace H := Gets.ct H c138
   refine sk rfl rfl <| sk rfl rfl <| sk rfl rfl <| sku rfl rfl <| sku rfl rfl <| sku rfl rfl <| sku rfl rfl <| sku rfl rfl <| sku rfl rfl <| sku rfl rfl <| sku rfl rfl <| sk rfl rfl <| pt0 rfl rfl rfl <| .fin <| WP.cond rfl (fun _ => ?_) nofun
   refine WP.seq <| rg 1 0 <| as0 rfl rfl <| .fin <| WP.exit ?_
   replace H := Gets.out H
   exact jn (false, x131, decide (x131 < (a0.fParents.length : Int))) H
  replace H := Gets.cf H c138
  refine mvg rfl rfl rfl <| bng rfl rfl rfl rfl run_gt <| mvg rfl rfl rfl ?_
  cases c140 : decide (0 < x131)
  ·
   replace H := Gets.cf H c140
   refine sk rfl rfl <| sk rfl rfl <| sk rfl rfl <| sk rfl rfl <| sk rfl rfl <| sk rfl rfl <| sk rfl rfl <| sk rfl rfl <| pfg rfl rfl rfl rfl <| pf0 rfl rfl rfl <| .fin <| WP.cond rfl nofun (fun _ => ?_)
   exact WP.skip <| rg 2 0 <| bn0 rfl rfl rfl run_add <| mv0 rfl rfl <| .fin <| bk j144 (w64 (x131 + 1)) H
  replace H := Gets.ct H c140
  refine mvg rfl rfl rfl <| fb rfl (gg rfl) rfl fa43_2 <| ld 0 rfl (gg rfl) rfl sc29 rfl rfl <| mvg rfl rfl rfl <| bng rfl rfl rfl rfl run_sub <| gr H fun g141 H => Dv.ixr rfl (gg rfl) rfl rfl Tryz.underlying29 Tryz.underlying9 c9 g141.1 g141.2 <| ldR rfl (gg rfl) rfl sc9 rfl <| bng rfl rfl rfl rfl run_sle <| ptg rfl rfl rfl rfl <| pf0 rfl rfl rfl <| .fin <| cd H rfl (fun _ H => ?_) (fun _ H => ?_)
  rotate_left
  ·
   exact WP.skip <| rg 2 0 <| bn0 rfl rfl rfl run_add <| mv0 rfl rfl <| .fin <| bk j144 (w64 (x131 + 1)) H
  refine WP.seq <| rg 1 0 <| as0 rfl rfl <| .fin <| WP.exit ?_
  replace H := Gets.out H
  exact jn (false, x131, decide (x131 < (a0.fParents.length : Int))) H
 replace H := Gets.ct H c105
 refine fb rfl (gg rfl) rfl fa43_3 <| ld 0 rfl (gg rfl) rfl sc9 rfl rfl <| el H fun t106 h107 H => Dv.call rfl (gg rfl) cal51 rfl (name_Event.c h107) <| ung rfl rfl rfl (run_not _) <| mvg rfl rfl rfl ?_
 cases c108 : !t106
 rotate_left
 ·
  replace H := Gets.ct H c108
  refine sk rfl rfl <| sk rfl rfl <| sk rfl rfl <| sk rfl rfl <| sk rfl rfl <| ptg rfl rfl rfl rfl <| mvg rfl rfl rfl <| sk rfl rfl <| sk rfl rfl <| sk rfl rfl <| ptg rfl rfl rfl rfl <| pt0 rfl rfl rfl <| .fin <| WP.cond rfl (fun _ => ?_) nofun
  refine WP.seq <| rg 1 0 <| as0 rfl rfl <| .fin ?_
  obtain rfl := Gets.out H
  exact rt i2 rfl () 1 [0] 1 (.cons (res_tmp rfl) .nil)
 replace H := Gets.cf H c108
 refine fb rfl (gg rfl) rfl fa43_3 <| ld 0 rfl (gg rfl) rfl sc9 rfl rfl <| fb rfl (gg rfl) rfl fa43_0 <| ld 0 rfl (gg rfl) rfl sc9 rfl rfl <| bng rfl rfl rfl rfl run_seq <| pfg rfl rfl rfl rfl <| mvg rfl rfl rfl ?_
 cases c110 : decide (a0.fThread = a0.fID)
 rotate_left
 ·
  replace H := Gets.ct H c110
  refine sk rfl rfl <| sk rfl rfl <| sk rfl rfl <| ptg rfl rfl rfl rfl <| pt0 rfl rfl rfl <| .fin <| WP.cond rfl (fun _ => ?_) nofun
  refine WP.seq <| rg 1 0 <| as0 rfl rfl <| .fin ?_
  obtain rfl := Gets.out H
  exact rt i2 rfl () 1 [0] 1 (.cons (res_tmp rfl) .nil)
 replace H := Gets.cf H c110
 refine fb rfl (gg rfl) rfl fa43_5 <| ld 0 rfl (gg rfl) rfl sc3 rfl rfl <| bng rfl rfl rfl rfl run_ne <| pfg rfl rfl rfl rfl <| pt0 rfl rfl rfl <| .fin <| cd H rfl (fun _ H => ?_) (fun _ H => ?_)
 ·
  refine WP.seq <| rg 1 0 <| as0 rfl rfl <| .fin ?_
  obtain rfl := Gets.out H
  exact rt i2 rfl () 1 [0] 1 (.cons (res_tmp rfl) .nil)
 refine WP.skip <| WP.seq <| rg 1 0 <| as0 rfl rfl <| .fin <| WP.seq <| WP.label <| WP.seqn H id (fun p113 : Bool × Int × Bool => [(0, agg (Event.enc a0)), (1, eq (.pointer (some ⟨b87, 0, none⟩))), (2, vB false), (3, vB p113.1), (37, vB (decide (2 < a0.fDoes))), (58, vB (a0.fDoes != 0)), (60, sl strK a0.fParents), (61, vI (a0.fParents.length : Int)), (62, vI p113.2.1), (63, vB p113.2.2)]) (fun p113 : Bool × Int × Bool => [blk b87 43 (Event.enc a0)] ++ F) (fun p113 H => ?_) (fun H => ?_)
 ·
  refine WP.seq <| rg 2 0 <| mv0 rfl rfl <| as0 rfl rfl <| .fin ?_
  obtain rfl := Gets.out H
  exact rt i2 rfl () 1 [0] 1 (.cons (res_tmp rfl) .nil)
 refine WP.seq <| rg 4 0 <| fb rfl trivial rfl fa43_2 <| ld 0 rfl trivial rfl sc29 rfl rfl <| Dv.lenl rfl trivial rfl Tryz.underlying29 <| mv0 rfl rfl <| .fin <| WP.block <| wg (sg 1 [0] 0) fun _ _ => ?_
 refine lp (fun j_ (p128 : Int) => dag_May.l0 k a0 j_ p128) 0 H (fun p128 => [(0, agg (Event.enc a0)), (1, eq (.pointer (some ⟨b87, 0, none⟩))), (2, vB false), (3, vB true), (37, vB (decide (2 < a0.fDoes))), (58, vB (a0.fDoes != 0)), (60, sl strK a0.fParents), (61, vI (a0.fParents.length : Int)), (62, vI p128)]) (fun p128 => [blk b87 43 (Event.enc a0)] ++ F) ?_
 rintro j_ x114 H
 rcases j_ with _ | j127
 ·
  exact (Gets.no H).elim
 replace H : Gets (dag_May.l0 k a0 (j127 + 1) x114) _ := H
 rw [dag_May.l0] at H
 refine WP.seq <| rg 1 0 <| bn0 rfl rfl rfl run_lt <| .fin <| WP.seq <| cd H rfl (fun _ H => ?_) (fun _ H => ?_)
 rotate_left
 ·
  refine WP.exit ?_
  replace H := Gets.out H
  exact jn (true, x114, decide (x114 < (a0.fParents.length : Int))) H
 refine WP.skip <| WP.seq <| WP.block <| WP.seq <| rg 5 0 <| mv0 rfl rfl <| gr H fun g116 H => Dv.ixr rfl trivial rfl rfl Tryz.underlying29 Tryz.underlying9 c9 g116.1 g116.2 <| ldR rfl trivial rfl sc9 rfl <| as0 rfl rfl <| as0 rfl rfl <| .fin <| WP.seq <| rg 23 0 <| mv0 rfl rfl <| el H fun t117 h118 H => cl rfl cal51 rfl (name_Event.c h118) <| un0 rfl rfl (run_not _) <| mv0 rfl rfl ?_
 cases c119 : !t117
 rotate_left
 ·
  replace H := Gets.ct H c119
  refine sk rfl rfl <| sk rfl rfl <| sk rfl rfl <| sk rfl rfl <| pt0 rfl rfl rfl <| mv0 rfl rfl <| sk rfl rfl <| sk rfl rfl <| sk rfl rfl <| sku rfl rfl <| sku rfl rfl <| sku rfl rfl <| sku rfl rfl <| sku rfl rfl <| sku rfl rfl <| sku rfl rfl <| sku rfl rfl <| sk rfl rfl <| pt0 rfl rfl rfl <| .fin <| WP.cond rfl (fun _ => ?_) nofun
  refine WP.seq <| rg 1 0 <| as0 rfl rfl <| .fin <| WP.exit ?_
  replace H := Gets.out H
  exact jn (false, x114, decide (x114 < (a0.fParents.length : Int))) H
 replace H := Gets.cf H c119
 refine mvg rfl rfl rfl <| fb rfl (gg rfl) rfl fa43_0 <| ld 0 rfl (gg rfl) rfl sc9 rfl rfl <| bng rfl rfl rfl rfl run_seq <| pf0 rfl rfl rfl <| mv0 rfl rfl ?_
 cases c121 : decide ((strK.at a0.fParents x114) = a0.fID)
 rotate_left
 ·
  replace H := Gets.ct H c121
  refine sk rfl rfl <| sk rfl rfl <| sk rfl rfl <| sku rfl rfl <| sku rfl rfl <| sku rfl rfl <| sku rfl rfl <| sku rfl rfl <| sku rfl rfl <| sku rfl rfl <| sku rfl rfl <| sk rfl rfl <| pt0 rfl rfl rfl <| .fin <| WP.cond rfl (fun _ => ?_) nofun
  refine WP.seq <| rg 1 0 <| as0 rfl rfl <| .fin <| WP.exit ?_
  replace H := Gets.out H
  exact jn (false, x114, decide (x114 < (a0.fParents.length : Int))) H
 replace H := Gets.cf H c121
 refine mvg rfl rfl rfl <| bng rfl rfl rfl rfl run_gt <| mvg rfl rfl rfl ?_
 cases c123 : decide (0 < x114)
 ·
  replace H := Gets.cf H c123
  refine sk rfl rfl <| sk rfl rfl <| sk rfl rfl <| sk rfl rfl <| sk rfl rfl <| sk rfl rfl <| sk rfl rfl <| sk rfl rfl <| pfg rfl rfl rfl rfl <| pf0 rfl rfl rfl <| .fin <| WP.cond rfl nofun (fun _ => ?_)
  exact WP.skip <| rg 2 0 <| bn0 rfl rfl rfl run_add <| mv0 rfl rfl <| .fin <| bk j127 (w64 (x114 + 1)) H
 replace H := Gets.ct H c123
 refine mvg rfl rfl rfl <| fb rfl (gg rfl) rfl fa43_2 <| ld 0 rfl (gg rfl) rfl sc29 rfl rfl <| mvg rfl rfl rfl <| bng rfl rfl rfl rfl run_sub <| gr H fun g124 H => Dv.ixr rfl (gg rfl) rfl rfl Tryz.underlying29 Tryz.underlying9 c9 g124.1 g124.2 <| ldR rfl (gg rfl) rfl sc9 rfl <| bng rfl rfl rfl rfl run_sle <| ptg rfl rfl rfl rfl <| pf0 rfl rfl rfl <| .fin <| cd H rfl (fun _ H => ?_) (fun _ H => ?_)
 rotate_left
 ·
  exact WP.skip <| rg 2 0 <| bn0 rfl rfl rfl run_add <| mv0 rfl rfl <| .fin <| bk j127 (w64 (x114 + 1)) H
 refine WP.seq <| rg 1 0 <| as0 rfl rfl <| .fin <| WP.exit ?_
 replace H := Gets.out H
 exact jn (false, x114, decide (x114 < (a0.fParents.length : Int))) H
theorem dag_Dag_Has.c {a0 : DDag} {a1 : ByteArray} {v0_0 : OV} {b0_ : Nat} {r : Bool} (h : dag_Dag_Has.f a0 a1 = some r) : Tr Tryz.prog 35 [eq (.pointer (some ⟨b0_, 0, none⟩)), vS a1] [blk b0_ 57 [vS a0.froom, eq v0_0.1], mpo Value.string DNode.O v0_0.1 a0.fnodes] (γ := Unit) (fun _ => True) (fun g => vB r) (fun g => [blk b0_ 57 [vS a0.froom, eq v0_0.1], mpo Value.string DNode.O v0_0.1 a0.fnodes]) := by
 unfold dag_Dag_Has.f at h
 refine Tr.body Tryz.func35 (c := _) rfl Tryz.ntmps35 (Nat.le_of_ble_eq_true rfl) fun R0 F => ?_
 replace h := Gets.of h
 have H := h
 clear h
 refine WP.seq <| rg 1 0 <| as0 rfl rfl <| .fin <| WP.seq <| rg 8 0 <| mv0 rfl rfl <| Dv.nilp rfl trivial rfl <| fb rfl trivial rfl fa57_1 <| ld 0 rfl trivial rfl sc55 rfl rfl <| mv0 rfl rfl <| vg (mpo_opn 1 rfl) fun z146 h147 => ?_
 refine Dv.mlv nilP rfl trivial rfl (mem_at 0 rfl) rfl Tryz.underlying55 (keyOk_str Tryz.underlying9) z61 (fun _ => rfl) <| Dv.pm1 (pm_nil h147 rfl) rfl trivial rfl rfl Tryz.underlying61 <| as0 rfl rfl <| .fin <| wg (mpo_shut h147 rfl (pm 3 [0,1,2])) fun _ _ => ?_
 obtain rfl := Gets.out H
 exact rt i2 rfl () 2 [1,0] 0 (.cons (res_tmp rfl) .nil)
theorem slices_IndexFunc_string_x.c {k : Nat} {a0 : List ByteArray} {a1 : (ByteArray → Option Bool)} {X1_ : As} {r : Int} (h : slices_IndexFunc_string_x.f k a0 a1 = some r) : Tr Tryz.prog 54 [sl strK a0, fx_string_bool X1_ a1] [X1_] (γ := Unit) (fun _ => True) (fun g => vI r) (fun g => [X1_]) := by
 unfold slices_IndexFunc_string_x.f at h
 refine Tr.body Tryz.func54 (c := _) rfl Tryz.ntmps54 (Nat.le_of_ble_eq_true rfl) fun R0 F => ?_
 replace h := Gets.of h
 have H := h
 clear h
 refine WP.seq <| rg 1 0 <| as0 rfl rfl <| .fin <| WP.seqr H id (fun p148 : Int × Bool => [(0, sl strK a0), (1, fx_string_bool X1_ a1), (4, vI 0), (7, vI (a0.length : Int)), (8, vI p148.1), (9, vB p148.2)]) (fun p148 : Int × Bool => [X1_] ++ F) (fun p148 H => ?_) (fun H => ?_)
 ·
  refine WP.seq <| rg 1 0 <| as0 rfl rfl <| .fin ?_
  obtain rfl := Gets.out H
  exact rt i2 rfl () 1 [0] 0 (.cons (res_tmp rfl) .nil)
 refine WP.seq <| rg 3 0 <| mv0 rfl rfl <| Dv.lenl rfl trivial rfl Tryz.underlying29 <| mv0 rfl rfl <| .fin <| WP.block <| wg (sg 1 [0] 0) fun _ _ => ?_
 refine lp (fun j_ (p156 : Int) => slices_IndexFunc_string_x.l0 k a0 a1 j_ p156) 0 H (fun p156 => [(0, sl strK a0), (1, fx_string_bool X1_ a1), (4, vI 0), (7, vI (a0.length : Int)), (8, vI p156)]) (fun p156 => [X1_] ++ F) ?_
 rintro j_ x149 H
 rcases j_ with _ | j155
 ·
  exact (Gets.no H).elim
 replace H : Gets (slices_IndexFunc_string_x.l0 k a0 a1 (j155 + 1) x149) _ := H
 rw [slices_IndexFunc_string_x.l0] at H
 refine WP.seq <| rg 1 0 <| bn0 rfl rfl rfl run_lt <| .fin <| WP.seq <| cd H rfl (fun _ H => ?_) (fun _ H => ?_)
 rotate_left
 ·
  refine WP.exit ?_
  replace H := Gets.out H
  exact jn (x149, decide (x149 < (a0.length : Int))) H
 refine WP.skip <| WP.seq <| WP.block <| WP.seq <| rg 2 0 <| mv0 rfl rfl <| as0 rfl rfl <| .fin <| WP.seq <| rg 6 0 <| mv0 rfl rfl <| mv0 rfl rfl <| mv0 rfl rfl <| gr H fun g151 H => Dv.ixr rfl trivial rfl rfl Tryz.underlying29 Tryz.underlying9 c9 g151.1 g151.2 <| ldR rfl trivial rfl sc9 rfl <| el H fun t152 h153 H => Dv.callfx (ret := vB t152) (X := X1_) (F := F) rfl trivial rfl rfl ⟨_, _, h153, rfl, rfl⟩ (perm_to (L := [X1_]) (F := F) [0] rfl rfl rfl) <| .fin <| cd H rfl (fun _ H => ?_) (fun _ H => ?_)
 rotate_left
 ·
  exact WP.skip <| rg 2 0 <| bn0 rfl rfl rfl run_add <| mv0 rfl rfl <| .fin <| bk j155 (w64 (x149 + 1)) H
 refine WP.seq <| rg 2 0 <| mv0 rfl rfl <| as0 rfl rfl <| .fin ?_
 replace H := Gets.outr H
 obtain rfl := Gets.out H
 exact rt i2 rfl () 1 [0] 0 (.cons (res_tmp rfl) .nil)
theorem slices_ContainsFunc_string_x.c {k : Nat} {a0 : List ByteArray} {a1 : (ByteArray → Option Bool)} {X1_ : As} {r : Bool} (h : slices_ContainsFunc_string_x.f k a0 a1 = some r) : Tr Tryz.prog 36 [sl strK a0, fx_string_bool X1_ a1] [X1_] (γ := Unit) (fun _ => True) (fun g => vB r) (fun g => [X1_]) := by
 unfold slices_ContainsFunc_string_x.f at h
 refine Tr.body Tryz.func36 (c := _) rfl Tryz.ntmps36 (Nat.le_of_ble_eq_true rfl) fun R0 F => ?_
 replace h := Gets.of h
 have H := h
 clear h
 refine WP.seq <| rg 1 0 <| as0 rfl rfl <| .fin <| WP.seq <| rg 5 0 <| mv0 rfl rfl <| mv0 rfl rfl <| el H fun t157 h158 H => cll 1 [0] cal54 (slices_IndexFunc_string_x.c h158 (X1_ := X1_)) ?_
 refine bn0 rfl rfl rfl run_ge <| as0 rfl rfl <| .fin ?_
 obtain rfl := Gets.out H
 exact rt i2 rfl () 1 [0] 0 (.cons (res_tmp rfl) .nil)
theorem dag_Dag_Add_1.c {a0 : ByteArray} {cb0_ cd0_ : Nat} {cq0_ cv0_0 : OV} {ch0_ : cq0_.1 = .pointer (some ⟨cd0_, 0, none⟩)} {c0 : DDag} {r : Bool} (h : dag_Dag_Add_1.f a0 c0 = some r) : Tr Tryz.prog 37 [vS a0, eq (.pointer (some ⟨cb0_, 0, none⟩))] [blk cb0_ 23 [eq cq0_.1], blk cd0_ 57 [vS c0.froom, eq cv0_0.1], mpo Value.string DNode.O cv0_0.1 c0.fnodes] (γ := Unit) (fun _ => True) (fun g => vB r) (fun g => [blk cb0_ 23 [eq cq0_.1], blk cd0_ 57 [vS c0.froom, eq cv0_0.1], mpo Value.string DNode.O cv0_0.1 c0.fnodes]) := by
 unfold dag_Dag_Add_1.f at h
 refine Tr.body Tryz.func37 (c := _) rfl Tryz.ntmps37 (Nat.le_of_ble_eq_true rfl) fun R0 F => ?_
 replace h := Gets.of h
 have H := h
 clear h
 refine WP.seq <| rg 1 0 <| as0 rfl rfl <| .fin <| WP.seq <| rg 5 0 <| ld 0 rfl trivial rfl sc23 rfl rfl <| mv0 rfl rfl <| el H fun t159 h160 H => cll 3 [1,2,0] cal35 (Tr.weak (dag_Dag_Has.c h160 (b0_ := cd0_) (v0_0 := cv0_0)) (.cons (wk_ptr ch0_) (.cons wk_id .nil))) ?_
 refine un0 rfl rfl (run_not _) <| as0 rfl rfl <| .fin ?_
 obtain rfl := Gets.out H
 exact rt i2 rfl () 3 [0,1,2] 0 (.cons (res_tmp rfl) .nil)
theorem slices_Clone_string.c {a0 : List ByteArray} {r : List ByteArray} (h : slices_Clone_string.f a0 = some r) : Tr Tryz.prog 55 [sl strK a0] [] (γ := OV) (fun _ => True) (fun g => eq g.1) (fun g => [own strK g.1 r]) := by
 unfold slices_Clone_string.f at h
 obtain ⟨h0, h5⟩ := (Gets.of h).grd
 obtain rfl := Gets.out h5
 clear h h5
 refine (Tr.body Tryz.func55 (c := _) rfl Tryz.ntmps55 (Nat.le_of_ble_eq_true rfl) fun R0 F => ?_)
 refine WP.seq <| WP.reg [(0, false)] (by kernel_rfl) <| as0 rfl rfl <| .fin <| WP.seq <| WP.seq <| WP.reg [(0, false), (1, true)] (by kernel_rfl) <| mv0 rfl rfl <| Dv.snil rfl trivial rfl rfl Tryz.underlying29 nofun (fun b hb => ?_)
 refine .fin <| WP.cond rfl (fun c0 => ?_) (fun c0 => ?_)
 ·
  obtain rfl := hb c0
  refine WP.seq <| WP.reg [(0, false)] (by kernel_rfl) <| as0 rfl rfl <| .fin <| wg (st_nil strK none) fun _ _ => ?_
  exact rt i2 rfl nilV 1 [0] 0 (.cons (res_tmp rfl) .nil)
 refine WP.skip <| WP.seq <| WP.reg [(0, true), (1, false), (2, true), (3, false)] (by kernel_rfl) <| Dv.lit0 strK rfl trivial Tryz.underlying29 Tryz.underlying9 c9 z9 nofun (fun v1 => ?_)
 refine mv0 rfl rfl <| Dv.appx (Kd := strK) (xs := []) (v := v1.1) (jj := 0) (ys := a0) (fun v2 : OV => [own strK v2.1 a0] ++ F) rfl trivial rfl rfl rfl src_sl Tryz.underlying29 (.inr ⟨_, Tryz.underlying29⟩) inf9 rfl (by decide) (by simpa using h0) rfl nofun (fun v2 => ?_)
 exact as0 rfl rfl <| .fin <| rt i2 rfl v2 1 [0] 0 (.cons (res_tmp rfl) .nil)
theorem dag_own.c {a0 : Event} {r : Event} (h : dag_own.f a0 = some r) : Pt Tryz.prog 38 [agg (Event.enc a0)] (agg (Event.enc r)) := by
 unfold dag_own.f at h
 refine (Tr.body Tryz.func38 (c := _) rfl Tryz.ntmps38 (Nat.le_of_ble_eq_true rfl) fun R0 F => ?_).pt
 replace h := Gets.of h
 have H := h
 clear h
 refine WP.seq <| rg 2 3 <| Dv.box rfl trivial rfl cA nofun fun b161 => al rfl trivial zc43 nofun fun b162 => .fin <| WP.seq <| rg 5 20 <| fb rfl trivial rfl fa43_2 <| ld 1 rfl trivial rfl sc29 rfl rfl <| el H fun t163 h164 H => cx 2 [0,1] cal55 (slices_Clone_string.c h164) nofun fun g165 _ => ?_
 refine fb rfl trivial rfl fa43_2 <| sx 2 rfl trivial rfl rfl (cells_one one_ov) sz29 rfl rfl rfl nofun ?_
 refine .fin <| WP.seq <| rg 2 2 <| lds 2 rfl trivial rfl sg43 rfl rfl <| sx 1 rfl trivial rfl rfl cA sz43 rfl rfl rfl nofun ?_
 refine .fin <| WP.gh (gh_frz (E' := [(2, eq (.pointer (some ⟨b162, 0, none⟩)))]) (l' := [blk b162 43 [vS a0.fID, vS a0.fRoom, sl strK t163, vS a0.fThread, vS a0.fUser, vI a0.fDoes], blk b161 43 [vS a0.fID, vS a0.fRoom, sl strK t163, vS a0.fThread, vS a0.fUser, vI a0.fDoes]] ++ F) 0 rfl (cve_cons rfl cv_id cve_nil) (all2_app (.cons (cva_blk (.cons cv_id (.cons cv_id (.cons cv_eq (.cons cv_id (.cons cv_id (.cons cv_id .nil))))))) (.cons (cva_blk (.cons cv_id (.cons cv_id (.cons cv_eq (.cons cv_id (.cons cv_id (.cons cv_id .nil))))))) .nil)) fun _ => cva_id)) (fun _ _ => ?_)
 obtain rfl := Gets.out H
 exact rt i2 rfl () 2 [0,1] 2 (.cons (res_cells rfl Tryz.underlying43 rfl c43 (mem_at 0 rfl) rfl) .nil)
theorem dag_Dag_Add.c {k : Nat} {a0 : DDag} {a1 : Event} {p0_ : OV} {r : Int × DDag} (h : dag_Dag_Add.f k a0 a1 = some r) : Tr Tryz.prog 17 [eq p0_.1, agg (Event.enc a1)] [DDag.O p0_ a0] (γ := Unit) (fun _ => True) (fun g => vI r.1) (fun g => [DDag.O p0_ r.2]) := by
 unfold dag_Dag_Add.f at h
 refine Tr.body Tryz.func17 (c := _) rfl Tryz.ntmps17 (Nat.le_of_ble_eq_true rfl) fun R0 F => ?_
 replace h := Gets.of h
 have H := h
 clear h
 refine WP.seq <| rg 3 3 <| Dv.box rfl trivial rfl (cells_one one_ov) nofun fun b166 => Dv.box rfl trivial rfl cA nofun fun b167 => as0 rfl rfl <| .fin <| WP.seq <| WP.block <| WP.seq <| wg (DDag.opn 2 rfl) fun g168 h169 => ?_
 refine dg Tryz.checked.mixed 13 0 <| lds 2 rfl trivial rfl sg43 rfl rfl <| el H fun t170 h171 H => cl rfl cal34 rfl (dag_May.c h171) <| un0 rfl rfl (run_not _) <| mv0 rfl rfl ?_
 cases c172 : !t170
 rotate_left
 ·
  replace H := Gets.ct H c172
  refine sk rfl rfl <| sk rfl rfl <| sk rfl rfl <| sk rfl rfl <| sk rfl rfl <| sk rfl rfl <| sk rfl rfl <| pt0 rfl rfl rfl <| as0 rfl rfl <| .fin <| WP.cond rfl (fun _ => ?_) nofun
  refine WP.seq <| rg 1 0 <| as0 rfl rfl <| .fin <| wg (DDag.shut (p := p0_) (m := a0) (g168.1, g168.2) h169 (pm 4 [0,1,2,3])) fun _ _ => ?_
  obtain rfl := Gets.out H
  exact rt i2 rfl () 3 [1,2,0] 2 (.cons (res_tmp rfl) .nil)
 replace H := Gets.cf H c172
 refine fb rfl (gg rfl) rfl fa43_1 <| ld 2 rfl (gg rfl) rfl sc9 rfl rfl <| ld 3 rfl (gg rfl) rfl sc23 rfl rfl <| Dv.nilpp h169 rfl (gg rfl) rfl <| fp h169 rfl (gg rfl) rfl fa57_0 <| ld 0 rfl (gg rfl) rfl sc9 rfl rfl <| bng rfl rfl rfl rfl run_sne <| pf0 rfl rfl rfl <| as0 rfl rfl <| .fin <| cd H rfl (fun _ H => ?_) (fun _ H => ?_)
 ·
  refine WP.seq <| rg 1 0 <| as0 rfl rfl <| .fin <| wg (DDag.shut (p := p0_) (m := a0) (g168.1, g168.2) h169 (pm 4 [0,1,2,3])) fun _ _ => ?_
  obtain rfl := Gets.out H
  exact rt i2 rfl () 3 [1,2,0] 2 (.cons (res_tmp rfl) .nil)
 refine WP.seq <| rg 5 0 <| ld 3 rfl trivial rfl sc23 rfl rfl <| fb rfl trivial rfl fa43_0 <| ld 2 rfl trivial rfl sc9 rfl rfl <| el H fun t175 h176 H => cll 4 [0,1,2,3] cal35 (Tr.weak (dag_Dag_Has.c h176 (b0_ := g168.1) (v0_0 := g168.2)) (.cons (wk_ptr h169) (.cons wk_id .nil))) ?_
 refine as0 rfl rfl <| .fin <| cd H rfl (fun _ H => ?_) (fun _ H => ?_)
 ·
  refine WP.seq <| rg 1 0 <| as0 rfl rfl <| .fin <| wg (DDag.shut (p := p0_) (m := a0) (g168.1, g168.2) h169 (pm 4 [0,1,2,3])) fun _ _ => ?_
  obtain rfl := Gets.out H
  exact rt i2 rfl () 3 [1,2,0] 2 (.cons (res_tmp rfl) .nil)
 refine WP.seq <| rg 5 0 <| fb rfl trivial rfl fa43_2 <| ld 2 rfl trivial rfl sc29 rfl rfl <| Dv.mkx (Q := fqQ_string_bool (fun a0_ => dag_Dag_Add_1.f a0_ a0)) (L := [blk b166 23 [eq p0_.1], blk g168.1 57 [vS a0.froom, eq g168.2.1], mpo Value.string DNode.O g168.2.1 a0.fnodes]) cal37 (by rintro _ _ ⟨a0_, r_, h_, rfl, rfl⟩; exact dag_Dag_Add_1.c h_ (cb0_ := b166) (cq0_ := p0_) (cd0_ := g168.1) (ch0_ := h169) (cv0_0 := g168.2)) rfl trivial rfl rfl <| Dv.gh (l' := fun _ : Unit => [(pk [blk b166 23 [eq p0_.1], blk g168.1 57 [vS a0.froom, eq g168.2.1], mpo Value.string DNode.O g168.2.1 a0.fnodes]), blk b167 43 (Event.enc a1)] ++ F) (gh_of (st_pk (perm_to (L := [blk g168.1 57 [vS a0.froom, eq g168.2.1], mpo Value.string DNode.O g168.2.1 a0.fnodes, blk b167 43 (Event.enc a1), blk b166 23 [eq p0_.1]]) (F := F) [3, 0, 1, 2] rfl rfl rfl))) (fun _ _ => ?_)
 refine el H fun t178 h179 H => cll 2 [0,1] cal36 (slices_ContainsFunc_string_x.c h179 (X1_ := (pk [blk b166 23 [eq p0_.1], blk g168.1 57 [vS a0.froom, eq g168.2.1], mpo Value.string DNode.O g168.2.1 a0.fnodes]))) ?_
 refine vg (st_unpk (L := [blk b166 23 [eq p0_.1], blk g168.1 57 [vS a0.froom, eq g168.2.1], mpo Value.string DNode.O g168.2.1 a0.fnodes]) 0 rfl) fun _ _ => ?_
 refine as0 rfl rfl <| .fin <| cd H rfl (fun _ H => ?_) (fun _ H => ?_)
 ·
  refine WP.seq <| rg 1 0 <| as0 rfl rfl <| .fin <| wg (DDag.shut (p := p0_) (m := a0) (g168.1, g168.2) h169 (pm 4 [1,2,0,3])) fun _ _ => ?_
  obtain rfl := Gets.out H
  exact rt i2 rfl () 3 [1,2,0] 2 (.cons (res_tmp rfl) .nil)
 refine WP.skip <| WP.seqr H id (fun p181 : Unit => [(0, eq p0_.1), (1, agg (Event.enc a1)), (2, eq (.pointer (some ⟨b166, 0, none⟩))), (3, eq (.pointer (some ⟨b167, 0, none⟩))), (4, vI 0), (9, vB (!decide (a1.fRoom = a0.froom))), (22, vB t175), (27, vB t178), (34, vB (!decide (a1.fThread = (⟨#[]⟩ : ByteArray))))]) (fun p181 : Unit => [blk b166 23 [eq p0_.1], blk b167 43 (Event.enc a1), DDag.O p0_ a0] ++ F) (fun p181 H => ?_) (fun H => ?_)
 rotate_left
 ·
  refine WP.seq <| rg 3 0 <| fb rfl trivial rfl fa43_3 <| ld 3 rfl trivial rfl sc9 rfl rfl <| bn0 rfl rfl rfl run_sne <| .fin <| cd H rfl (fun _ H => ?_) (fun _ H => ?_)
  rotate_left
  ·
   refine WP.skip ?_
   replace H := Gets.out H
   refine ng (DDag.shut (p := p0_) (m := a0) (g168.1, g168.2) h169 (pm 4 [1,2,0,3])) fun _ _ => ?_
   refine ng (sg 3 [1,2,0] 0) fun _ _ => ?_
   exact jn () H
  refine WP.seq <| wg (mpo_opn 2 rfl) fun z206 h207 => ?_
  refine dg Tryz.checked.mixed 8 0 <| ld 2 rfl trivial rfl sc23 rfl rfl <| Dv.nilpp h169 rfl trivial rfl <| fp h169 rfl trivial rfl fa57_1 <| ld 3 rfl trivial rfl sc55 rfl rfl <| fb rfl trivial rfl fa43_3 <| ld 4 rfl trivial rfl sc9 rfl rfl <| Dv.mlv nilP rfl trivial rfl (mem_at 0 rfl) rfl Tryz.underlying55 (keyOk_str Tryz.underlying9) z61 (fun _ => rfl) <| as0 rfl rfl <| .fin <| WP.seq <| WP.seq <| rg 2 0 <| mv0 rfl rfl <| Dv.pm0 (pm_nil h207 rfl) rfl trivial rfl rfl Tryz.underlying61 <| .fin <| cd H rfl (fun _ H => ?_) (fun _ H => ?_)
  ·
   refine WP.seq <| rg 1 0 <| as0 rfl rfl <| .fin <| wg (mpo_shut h207 rfl (pm 5 [0,1,2,3,4])) fun _ _ => ?_
   refine wg (DDag.shut (p := p0_) (m := a0) (g168.1, g168.2) h169 (pm 4 [2,0,1,3])) fun _ _ => ?_
   replace H := Gets.outr H
   obtain rfl := Gets.out H
   exact rt i2 rfl () 3 [1,2,0] 2 (.cons (res_tmp rfl) .nil)
  refine WP.skip <| WP.seq <| rg 14 0 <| mv0 rfl rfl <| gr H fun g209 H => vg (mpo_foc h207 rfl g209 (pm 5 [1,0,2,3,4])) fun _ _ => ?_
  refine Dv.nilA DNode.nn rfl trivial rfl (mem_at 0 rfl) <| vg (DNode.opn 0 rfl) fun g210 h211 => ?_
  refine fp h211 rfl trivial rfl fa63_0 <| fb rfl trivial rfl fa43_3 <| ld 0 rfl trivial rfl sc9 rfl rfl <| bn0 rfl rfl rfl run_sne <| mv0 rfl rfl ?_
  cases c212 : !decide (((((mget a0.fnodes a1.fThread).getD default).fe).fThread) = (⟨#[]⟩ : ByteArray))
  rotate_left
  ·
   replace H := Gets.ct H c212
   refine sk rfl rfl <| sk rfl rfl <| sk rfl rfl <| sk rfl rfl <| sk rfl rfl <| sk rfl rfl <| pt0 rfl rfl rfl <| .fin <| WP.cond rfl (fun _ => ?_) nofun
   refine WP.seq <| rg 1 0 <| as0 rfl rfl <| .fin <| wg (DNode.shut (p := ((mget (zipK a0.fnodes z206) a1.fThread).getD nilP)) (m := (mget a0.fnodes a1.fThread).getD default) g210 h211 (pm 6 [0,1,2,3,4,5])) fun _ _ => ?_
   refine wg (mpo_unf0 h207 rfl g209 (pm 6 [0,1,2,3,4,5])) fun _ _ => ?_
   refine wg (mpo_shut h207 rfl (pm 5 [1,0,2,3,4])) fun _ _ => ?_
   refine wg (DDag.shut (p := p0_) (m := a0) (g168.1, g168.2) h169 (pm 4 [2,0,1,3])) fun _ _ => ?_
   replace H := Gets.outr H
   obtain rfl := Gets.out H
   exact rt i2 rfl () 3 [1,2,0] 2 (.cons (res_tmp rfl) .nil)
  replace H := Gets.cf H c212
  refine mvg rfl rfl rfl <| Dv.nilpp h211 rfl (gg rfl) rfl <| fp h211 rfl (gg rfl) rfl fa63_0 <| fb rfl (gg rfl) rfl fa43_5 <| ld 0 rfl (gg rfl) rfl sc3 rfl rfl <| bng rfl rfl rfl rfl run_ne <| pf0 rfl rfl rfl <| .fin <| cd H rfl (fun _ H => ?_) (fun _ H => ?_)
  rotate_left
  ·
   refine WP.skip ?_
   replace H := Gets.out H
   refine ng (DNode.shut (p := ((mget (zipK a0.fnodes z206) a1.fThread).getD nilP)) (m := (mget a0.fnodes a1.fThread).getD default) g210 h211 (pm 6 [0,1,2,3,4,5])) fun _ _ => ?_
   refine ng (mpo_unf0 h207 rfl g209 (pm 6 [0,1,2,3,4,5])) fun _ _ => ?_
   refine ng (mpo_shut h207 rfl (pm 5 [1,0,2,3,4])) fun _ _ => ?_
   refine ng (DDag.shut (p := p0_) (m := a0) (g168.1, g168.2) h169 (pm 4 [2,0,1,3])) fun _ _ => ?_
   refine ng (sg 3 [1,2,0] 0) fun _ _ => ?_
   exact jn () H
  refine WP.seq <| rg 1 0 <| as0 rfl rfl <| .fin <| wg (DNode.shut (p := ((mget (zipK a0.fnodes z206) a1.fThread).getD nilP)) (m := (mget a0.fnodes a1.fThread).getD default) g210 h211 (pm 6 [0,1,2,3,4,5])) fun _ _ => ?_
  refine wg (mpo_unf0 h207 rfl g209 (pm 6 [0,1,2,3,4,5])) fun _ _ => ?_
  refine wg (mpo_shut h207 rfl (pm 5 [1,0,2,3,4])) fun _ _ => ?_
  refine wg (DDag.shut (p := p0_) (m := a0) (g168.1, g168.2) h169 (pm 4 [2,0,1,3])) fun _ _ => ?_
  replace H := Gets.outr H
  obtain rfl := Gets.out H
  exact rt i2 rfl () 3 [1,2,0] 2 (.cons (res_tmp rfl) .nil)
 refine WP.seq <| rg 5 8 <| lds 1 rfl trivial rfl sg43 rfl rfl <| el H fun t182 h183 H => cl rfl cal38 rfl (dag_own.c h183) <| Dv.bld (css := [Event.enc t182]) rfl trivial Tryz.underlying63 pl63 z63 rfl ⟨(cells_agg (Event.K.one _)), trivial⟩ rfl rfl <| Dv.box rfl trivial rfl cA nofun fun b184 => as0 rfl rfl <| .fin <| WP.seqn H id (fun p185 : Int × Bool × Int × DDag => [(0, eq p0_.1), (1, agg (Event.enc a1)), (2, eq (.pointer (some ⟨b166, 0, none⟩))), (3, eq (.pointer (some ⟨b167, 0, none⟩))), (4, vI 0), (6, eq (.pointer (some ⟨b184, 0, none⟩))), (9, vB (!decide (a1.fRoom = a0.froom))), (22, vB t175), (27, vB t178), (34, vB (!decide (a1.fThread = (⟨#[]⟩ : ByteArray)))), (63, sl strK a1.fParents), (64, vI (a1.fParents.length : Int)), (65, vI p185.1), (66, vB p185.2.1)]) (fun p185 : Int × Bool × Int × DDag => [blk b184 63 [vS t182.fID, vS t182.fRoom, sl strK t182.fParents, vS t182.fThread, vS t182.fUser, vI t182.fDoes, vI p185.2.2.1, vB false], blk b166 23 [eq p0_.1], blk b167 43 (Event.enc a1), DDag.O p0_ p185.2.2.2] ++ F) (fun p185 H => ?_) (fun H => ?_)
 ·
  refine WP.seq <| wg (DDag.opn 3 rfl) fun g186 h187 => ?_
  refine wg (DNode.shut (p := (⟨.pointer (some ⟨b184, 0, none⟩), rfl⟩ : OV)) (m := (⟨t182, p185.2.2.1, false⟩ : DNode)) b184 rfl (pm 5 [2,0,1,3,4])) fun _ _ => ?_
  refine wg (mpo_opn 2 rfl) fun z188 h189 => ?_
  refine dg Tryz.checked.mixed 8 128 <| ld 4 rfl trivial rfl sc23 rfl rfl <| Dv.nilpp h187 rfl trivial rfl <| fp h187 rfl trivial rfl fa57_1 <| ld 3 rfl trivial rfl sc55 rfl rfl <| fb rfl trivial rfl fa43_0 <| ld 5 rfl trivial rfl sc9 rfl rfl <| mv0 rfl rfl <| Dv.mup (vp := fun p : OV => eq p.1) (jj := 0) (⟨.pointer (some ⟨b184, 0, none⟩), rfl⟩ : OV) rfl trivial rfl rfl rfl rfl Tryz.underlying55 (keyOk_str Tryz.underlying9) (fun _ => pend_bits (by kernel_rfl)) <| .fin <| WP.seq <| rg 1 0 <| as0 rfl rfl <| .fin <| wg (mpo_add DNode.nn h189 rfl (pm 6 [0,1,2,3,4,5])) fun _ _ => ?_
  refine wg (DDag.shut (p := p0_) (m := (⟨p185.2.2.2.froom, mput p185.2.2.2.fnodes a1.fID (⟨t182, p185.2.2.1, false⟩ : DNode)⟩ : DDag)) (g186.1, g186.2) h187 (pm 4 [1,0,2,3])) fun _ _ => ?_
  obtain rfl := Gets.out H
  exact rt i2 rfl () 3 [1,2,0] 2 (.cons (res_tmp rfl) .nil)
 refine WP.seq <| rg 4 0 <| fb rfl trivial rfl fa43_2 <| ld 2 rfl trivial rfl sc29 rfl rfl <| Dv.lenl rfl trivial rfl Tryz.underlying29 <| mv0 rfl rfl <| .fin <| WP.block <| wg (sg 4 [0,1,2,3] 0) fun _ _ => ?_
 refine lp (fun j_ (p204 : Int × Int × DDag) => dag_Dag_Add.l0 k a1 j_ p204.1 p204.2.1 p204.2.2) (0, 0, a0) H (fun p204 => [(0, eq p0_.1), (1, agg (Event.enc a1)), (2, eq (.pointer (some ⟨b166, 0, none⟩))), (3, eq (.pointer (some ⟨b167, 0, none⟩))), (4, vI 0), (6, eq (.pointer (some ⟨b184, 0, none⟩))), (9, vB (!decide (a1.fRoom = a0.froom))), (22, vB t175), (27, vB t178), (34, vB (!decide (a1.fThread = (⟨#[]⟩ : ByteArray)))), (63, sl strK a1.fParents), (64, vI (a1.fParents.length : Int)), (65, vI p204.1)]) (fun p204 => [blk b184 63 [vS t182.fID, vS t182.fRoom, sl strK t182.fParents, vS t182.fThread, vS t182.fUser, vI t182.fDoes, vI p204.2.1, vB false], blk b166 23 [eq p0_.1], blk b167 43 (Event.enc a1), DDag.O p0_ p204.2.2] ++ F) ?_
 rintro j_ ⟨x190, x191, x192⟩ H
 rcases j_ with _ | j203
 ·
  exact (Gets.no H).elim
 replace H : Gets (dag_Dag_Add.l0 k a1 (j203 + 1) x190 x191 x192) _ := H
 rw [dag_Dag_Add.l0] at H
 refine WP.seq <| rg 1 0 <| bn0 rfl rfl rfl run_lt <| .fin <| WP.seq <| cd H rfl (fun _ H => ?_) (fun _ H => ?_)
 rotate_left
 ·
  refine WP.exit ?_
  replace H := Gets.out H
  exact jn (x190, decide (x190 < (a1.fParents.length : Int)), x191, x192) H
 refine WP.skip <| WP.seq <| WP.block <| WP.seq <| rg 3 0 <| gr H fun g194 H => Dv.ixr rfl trivial rfl rfl Tryz.underlying29 Tryz.underlying9 c9 g194.1 g194.2 <| ldR rfl trivial rfl sc9 rfl <| as0 rfl rfl <| .fin <| WP.seq <| wg (DDag.opn 3 rfl) fun g195 h196 => ?_
 refine wg (mpo_opn 1 rfl) fun z197 h198 => ?_
 refine gr H fun g199 H => wg (mpo_foc h198 rfl g199 (pm 6 [1,0,2,3,4,5])) fun _ _ => ?_
 refine wg (DNode.opn 0 rfl) fun g200 h201 => ?_
 refine dg Tryz.checked.mixed 19 262144 <| mv0 rfl rfl <| mv0 rfl rfl <| Dv.nilp rfl trivial rfl <| fb rfl trivial rfl fa63_1 <| ld 4 rfl trivial rfl sc3 rfl rfl <| ld 5 rfl trivial rfl sc23 rfl rfl <| Dv.nilpp h196 rfl trivial rfl <| fp h196 rfl trivial rfl fa57_1 <| ld 3 rfl trivial rfl sc55 rfl rfl <| mv0 rfl rfl <| Dv.mlv nilP rfl trivial rfl (mem_at 2 rfl) rfl Tryz.underlying55 (keyOk_str Tryz.underlying9) z61 (fun _ => rfl) <| Dv.nilpp h201 rfl trivial rfl <| fp h201 rfl trivial rfl fa63_1 <| ld 0 rfl trivial rfl sc3 rfl rfl <| bn0 rfl rfl rfl run_add <| Dv.maxi rfl trivial rfl rfl <| Dv.nilp rfl trivial rfl <| fb rfl trivial rfl fa63_1 <| sx 4 rfl trivial rfl rfl cE sz3 rfl rfl rfl pB ?_
 refine .fin <| rg 9 256 <| ld 5 rfl trivial rfl sc23 rfl rfl <| Dv.nilpp h196 rfl trivial rfl <| fp h196 rfl trivial rfl fa57_1 <| ld 3 rfl trivial rfl sc55 rfl rfl <| mv0 rfl rfl <| Dv.mlv nilP rfl trivial rfl (mem_at 2 rfl) rfl Tryz.underlying55 (keyOk_str Tryz.underlying9) z61 (fun _ => rfl) <| Dv.nilpp h201 rfl trivial rfl <| fp h201 rfl trivial rfl fa63_2 <| sx 0 rfl trivial rfl rfl cE sz4 rfl rfl rfl nofun ?_
 refine .fin <| rg 2 0 <| bn0 rfl rfl rfl run_add <| mv0 rfl rfl <| .fin <| ng (DNode.shut (p := ((mget (zipK x192.fnodes z197) (strK.at a1.fParents x190)).getD nilP)) (m := (⟨((mget x192.fnodes (strK.at a1.fParents x190)).getD default).fe, ((mget x192.fnodes (strK.at a1.fParents x190)).getD default).fdepth, true⟩ : DNode)) g200 h201 (pm 7 [0,1,2,3,4,5,6])) fun _ _ => ?_
 refine ng (mpo_unf h198 rfl g199 (pm 7 [0,1,2,3,4,5,6])) fun _ h202 => ?_
 refine ng (mpo_shut h202 (zipK_put' rfl g199) (pm 6 [1,0,2,3,4,5])) fun _ _ => ?_
 refine ng (DDag.shut (p := p0_) (m := (⟨x192.froom, mput x192.fnodes (strK.at a1.fParents x190) (⟨((mget x192.fnodes (strK.at a1.fParents x190)).getD default).fe, ((mget x192.fnodes (strK.at a1.fParents x190)).getD default).fdepth, true⟩ : DNode)⟩ : DDag)) (g195.1, g195.2) h196 (pm 5 [1,0,2,3,4])) fun _ _ => ?_
 refine ng (sg 4 [1,2,3,0] 0) fun _ _ => ?_
 exact bk j203 (w64 (x190 + 1), max x191 (w64 ((((mget x192.fnodes (strK.at a1.fParents x190)).getD default).fdepth) + 1)), (⟨x192.froom, mput x192.fnodes (strK.at a1.fParents x190) (⟨((mget x192.fnodes (strK.at a1.fParents x190)).getD default).fe, ((mget x192.fnodes (strK.at a1.fParents x190)).getD default).fdepth, true⟩ : DNode)⟩ : DDag)) H
theorem concourseref01_Around.c {a0 : Int} {a1 : Int} {r : Int} (h : concourseref01_Around.f a0 a1 = some r) : Pt Tryz.prog 32 [vI a0, vI a1] (vI r) := by
 unfold concourseref01_Around.f at h
 refine (Tr.body Tryz.func32 (c := _) rfl Tryz.ntmps32 (Nat.le_of_ble_eq_true rfl) fun R0 F => ?_).pt
 replace h := Gets.of h
 have H := h
 clear h
 refine WP.seq <| rg 1 0 <| as0 rfl rfl <| .fin <| WP.seq <| WP.seq <| rg 2 0 <| mv0 rfl rfl <| bn0 rfl rfl rfl run_lt <| .fin <| cd H rfl (fun _ H => ?_) (fun _ H => ?_)
 rotate_left
 ·
  refine WP.skip <| WP.seq <| rg 4 0 <| mv0 rfl rfl <| mv0 rfl rfl <| gr H fun g217 H => bn0 rfl rfl rfl (run_rem g217) <| as0 rfl rfl <| .fin ?_
  obtain rfl := Gets.out H
  exact rt i2 rfl () 0 [] 0 (.cons (res_tmp rfl) .nil)
 refine rg 4 0 <| mv0 rfl rfl <| bn0 rfl rfl rfl run_add <| un0 rfl rfl (run_neg _ _) <| as0 rfl rfl <| .fin <| WP.seq <| rg 4 0 <| mv0 rfl rfl <| mv0 rfl rfl <| gr H fun g216 H => bn0 rfl rfl rfl (run_rem g216) <| as0 rfl rfl <| .fin ?_
 obtain rfl := Gets.out H
 exact rt i2 rfl () 0 [] 0 (.cons (res_tmp rfl) .nil)
theorem concourseref01_ServerOf.c {a0 : Int} {r : ByteArray} (h : concourseref01_ServerOf.f a0 = some r) : Pt Tryz.prog 11 [vI a0] (vS r) := by
 unfold concourseref01_ServerOf.f at h
 refine (Tr.body Tryz.func11 (c := _) rfl Tryz.ntmps11 (Nat.le_of_ble_eq_true rfl) fun R0 F => ?_).pt
 replace h := Gets.of h
 have H := h
 clear h
 refine WP.seq <| rg 1 0 <| as0 rfl rfl <| .fin <| WP.seq <| rg 6 0 <| Dv.lit strK ([(⟨#[115, 49]⟩ : ByteArray), (⟨#[115, 50]⟩ : ByteArray), (⟨#[115, 51]⟩ : ByteArray)] : List ByteArray) (css := [[vS (⟨#[115, 49]⟩ : ByteArray)], [vS (⟨#[115, 50]⟩ : ByteArray)], [vS (⟨#[115, 51]⟩ : ByteArray)]]) rfl trivial Tryz.underlying29 Tryz.underlying9 c9 z9 rfl (by decide) (by decide) rfl ⟨(cells_one (one_eq rfl)), ⟨(cells_one (one_eq rfl)), ⟨(cells_one (one_eq rfl)), trivial⟩⟩⟩ rfl rfl rfl <| mv0 rfl rfl <| el H fun t218 h219 H => cl rfl cal32 rfl (concourseref01_Around.c h219) <| gr H fun g220 H => Dv.ixr rfl trivial rfl rfl Tryz.underlying29 Tryz.underlying9 c9 g220.1 g220.2 <| ldR rfl trivial rfl sc9 rfl <| as0 rfl rfl <| .fin ?_
 obtain rfl := Gets.out H
 exact rt i2 rfl () 0 [] 0 (.cons (res_tmp rfl) .nil)
theorem concourseref01_UserOf.c {a0 : Int} {r : ByteArray} (h : concourseref01_UserOf.f a0 = some r) : Pt Tryz.prog 19 [vI a0] (vS r) := by
 unfold concourseref01_UserOf.f at h
 refine (Tr.body Tryz.func19 (c := _) rfl Tryz.ntmps19 (Nat.le_of_ble_eq_true rfl) fun R0 F => ?_).pt
 replace h := Gets.of h
 have H := h
 clear h
 refine WP.seq <| rg 1 0 <| as0 rfl rfl <| .fin <| WP.seq <| rg 3 0 <| mv0 rfl rfl <| el H fun t221 h222 H => cl rfl cal32 rfl (concourseref01_Around.c h222) <| as0 rfl rfl <| .fin <| WP.seq <| dg Tryz.checked.mixed 10 0 <| Dv.lit strK ([(⟨#[64, 97, 58]⟩ : ByteArray), (⟨#[64, 98, 58]⟩ : ByteArray), (⟨#[64, 99, 58]⟩ : ByteArray)] : List ByteArray) (css := [[vS (⟨#[64, 97, 58]⟩ : ByteArray)], [vS (⟨#[64, 98, 58]⟩ : ByteArray)], [vS (⟨#[64, 99, 58]⟩ : ByteArray)]]) rfl trivial Tryz.underlying29 Tryz.underlying9 c9 z9 rfl (by decide) (by decide) rfl ⟨(cells_one (one_eq rfl)), ⟨(cells_one (one_eq rfl)), ⟨(cells_one (one_eq rfl)), trivial⟩⟩⟩ rfl rfl rfl <| mv0 rfl rfl <| bn0 rfl rfl rfl (run_quo (by decide)) <| gr H fun g223 H => Dv.ixr rfl trivial rfl rfl Tryz.underlying29 Tryz.underlying9 c9 g223.1 g223.2 <| ldR rfl trivial rfl sc9 rfl <| mv0 rfl rfl <| bn0 rfl rfl rfl (run_rem (by decide)) <| el H fun t224 h225 H => cl rfl cal11 rfl (concourseref01_ServerOf.c h225) <| gr H fun g226 H => bn0 rfl rfl rfl (run_cat g226) <| as0 rfl rfl <| .fin ?_
 obtain rfl := Gets.out H
 exact rt i2 rfl () 0 [] 0 (.cons (res_tmp rfl) .nil)
theorem concourseref01_Decimal.c : ∀ (k : Nat) {a0 : Int} {r : ByteArray} (h : concourseref01_Decimal.f k a0 = some r), Pt Tryz.prog 21 [vI a0] (vS r)
  | 0, _, _, h => by cases h
  | k + 1, a0, r, h => by
    rw [concourseref01_Decimal.f] at h
    refine (Tr.body Tryz.func21 (c := _) rfl Tryz.ntmps21 (Nat.le_of_ble_eq_true rfl) fun R0 F => ?_).pt
    replace h := Gets.of h
    have H := h
    clear h
    refine WP.seq <| rg 1 0 <| as0 rfl rfl <| .fin <| WP.seq <| rg 3 0 <| mv0 rfl rfl <| bn0 rfl rfl rfl (run_rem (by decide)) <| as0 rfl rfl <| .fin <| WP.seqn H id (fun p227 : Int => [(0, vI a0), (2, vS (⟨#[]⟩ : ByteArray)), (3, vI p227), (8, vB (decide ((a0.tmod 10) < 0)))]) (fun p227 : Int => F) (fun p227 H => ?_) (fun H => ?_)
    rotate_left
    ·
     refine WP.seq <| rg 2 0 <| mv0 rfl rfl <| bn0 rfl rfl rfl run_lt <| .fin <| cd H rfl (fun _ H => ?_) (fun _ H => ?_)
     rotate_left
     ·
      refine WP.skip ?_
      replace H := Gets.out H
      exact jn (a0.tmod 10) H
     refine rg 3 0 <| mv0 rfl rfl <| un0 rfl rfl (run_neg _ _) <| as0 rfl rfl <| .fin ?_
     replace H := Gets.out H
     exact jn (w64 (0 - (a0.tmod 10))) H
    refine WP.seq <| rg 6 0 <| mv0 rfl rfl <| bn0 rfl rfl rfl run_add <| Dv.cvi rfl trivial rfl Tryz.underlying3 Tryz.underlying5 <| Dv.lit (intK .u8) ([IntKind.u8.wrap (w64 (48 + p227))] : List Int) (css := [[eq (.int .u8 (IntKind.u8.wrap (w64 (48 + p227))))]]) rfl trivial Tryz.underlying69 Tryz.underlying5 c5 z5 rfl (by decide) (by decide) rfl ⟨(cells_one (one_eq rfl)), trivial⟩ rfl rfl rfl <| Dv.cvbs rfl trivial rfl Tryz.underlying69 Tryz.underlying5 Tryz.underlying9 <| as0 rfl rfl <| .fin <| WP.seq <| WP.seq <| rg 6 0 <| mv0 rfl rfl <| bn0 rfl rfl rfl run_gt <| mv0 rfl rfl ?_
    cases c228 : decide ((-10) < a0)
    ·
     replace H := Gets.cf H c228
     refine sk rfl rfl <| sk rfl rfl <| pf0 rfl rfl rfl <| .fin <| WP.cond rfl nofun (fun _ => ?_)
     refine WP.skip <| WP.seq <| rg 6 0 <| mv0 rfl rfl <| bn0 rfl rfl rfl (run_quo (by decide)) <| el H fun t236 h237 H => cl rfl cal21 rfl (concourseref01_Decimal.c k h237) <| mv0 rfl rfl <| gr H fun g238 H => bn0 rfl rfl rfl (run_cat g238) <| as0 rfl rfl <| .fin ?_
     obtain rfl := Gets.out H
     exact rt i2 rfl () 0 [] 0 (.cons (res_tmp rfl) .nil)
    replace H := Gets.ct H c228
    refine mvg rfl rfl rfl <| bng rfl rfl rfl rfl run_lt <| pt0 rfl rfl rfl <| .fin <| cd H rfl (fun _ H => ?_) (fun _ H => ?_)
    rotate_left
    ·
     refine WP.skip <| WP.seq <| rg 6 0 <| mv0 rfl rfl <| bn0 rfl rfl rfl (run_quo (by decide)) <| el H fun t232 h233 H => cl rfl cal21 rfl (concourseref01_Decimal.c k h233) <| mv0 rfl rfl <| gr H fun g234 H => bn0 rfl rfl rfl (run_cat g234) <| as0 rfl rfl <| .fin ?_
     obtain rfl := Gets.out H
     exact rt i2 rfl () 0 [] 0 (.cons (res_tmp rfl) .nil)
    refine WP.seq <| WP.seq <| rg 2 0 <| mv0 rfl rfl <| bn0 rfl rfl rfl run_lt <| .fin <| cd H rfl (fun _ H => ?_) (fun _ H => ?_)
    rotate_left
    ·
     refine WP.skip <| WP.seq <| rg 2 0 <| mv0 rfl rfl <| as0 rfl rfl <| .fin ?_
     obtain rfl := Gets.out H
     exact rt i2 rfl () 0 [] 0 (.cons (res_tmp rfl) .nil)
    refine WP.seq <| rg 3 0 <| mv0 rfl rfl <| gr H fun g231 H => bn0 rfl rfl rfl (run_cat g231) <| as0 rfl rfl <| .fin ?_
    obtain rfl := Gets.out H
    exact rt i2 rfl () 0 [] 0 (.cons (res_tmp rfl) .nil)
theorem concourseref01_EventOf.c {k : Nat} {a0 : Int} {r : ByteArray} (h : concourseref01_EventOf.f k a0 = some r) : Pt Tryz.prog 45 [vI a0] (vS r) := by
 unfold concourseref01_EventOf.f at h
 refine (Tr.body Tryz.func45 (c := _) rfl Tryz.ntmps45 (Nat.le_of_ble_eq_true rfl) fun R0 F => ?_).pt
 replace h := Gets.of h
 have H := h
 clear h
 refine WP.seq <| rg 1 0 <| as0 rfl rfl <| .fin <| WP.seq <| rg 5 0 <| mv0 rfl rfl <| el H fun t240 h241 H => cl rfl cal32 rfl (concourseref01_Around.c h241) <| el H fun t242 h243 H => cl rfl cal21 rfl (concourseref01_Decimal.c _ h243) <| gr H fun g244 H => bn0 rfl rfl rfl (run_cat g244) <| as0 rfl rfl <| .fin ?_
 obtain rfl := Gets.out H
 exact rt i2 rfl () 0 [] 0 (.cons (res_tmp rfl) .nil)
theorem concourseref01_colon.c {k : Nat} {a0 : ByteArray} {r : Int} (h : concourseref01_colon.f k a0 = some r) : Pt Tryz.prog 64 [vS a0] (vI r) := by
 unfold concourseref01_colon.f at h
 refine (Tr.body Tryz.func64 (c := _) rfl Tryz.ntmps64 (Nat.le_of_ble_eq_true rfl) fun R0 F => ?_).pt
 replace h := Gets.of h
 have H := h
 clear h
 refine WP.seq <| rg 1 0 <| as0 rfl rfl <| .fin <| WP.seqr H id (fun p245 : Int × Bool => [(0, vS a0), (2, vI 0), (3, vI p245.1), (7, vB p245.2)]) (fun p245 : Int × Bool => F) (fun p245 H => ?_) (fun H => ?_)
 ·
  refine WP.seq <| rg 1 0 <| as0 rfl rfl <| .fin ?_
  obtain rfl := Gets.out H
  exact rt i2 rfl () 0 [] 0 (.cons (res_tmp rfl) .nil)
 refine WP.seq <| rg 1 0 <| as0 rfl rfl <| .fin <| WP.block <| wg (sg 0 [] 0) fun _ _ => ?_
 refine lp (fun j_ (p251 : Int) => concourseref01_colon.l0 k a0 j_ p251) 0 H (fun p251 => [(0, vS a0), (2, vI 0), (3, vI p251)]) (fun p251 => F) ?_
 rintro j_ x246 H
 rcases j_ with _ | j250
 ·
  exact (Gets.no H).elim
 replace H : Gets (concourseref01_colon.l0 k a0 (j250 + 1) x246) _ := H
 rw [concourseref01_colon.l0] at H
 refine WP.seq <| WP.seq <| rg 4 0 <| mv0 rfl rfl <| mv0 rfl rfl <| Dv.lens rfl trivial rfl Tryz.underlying9 <| bn0 rfl rfl rfl run_lt <| .fin <| cd H rfl (fun _ H => ?_) (fun _ H => ?_)
 rotate_left
 ·
  refine WP.exit ?_
  replace H := Gets.out H
  exact jn (x246, decide (x246 < (a0.size : Int))) H
 refine WP.skip <| WP.seq <| WP.block <| WP.seq <| rg 4 0 <| mv0 rfl rfl <| mv0 rfl rfl <| gr H fun g248 H => Dv.ixs rfl trivial rfl rfl Tryz.underlying9 g248.1 g248.2 <| bn0 rfl rfl rfl run_eq <| .fin <| cd H rfl (fun _ H => ?_) (fun _ H => ?_)
 rotate_left
 ·
  exact WP.skip <| rg 3 0 <| mv0 rfl rfl <| bn0 rfl rfl rfl run_add <| as0 rfl rfl <| .fin <| bk j250 (w64 (x246 + 1)) H
 refine WP.seq <| rg 2 0 <| mv0 rfl rfl <| as0 rfl rfl <| .fin ?_
 replace H := Gets.outr H
 obtain rfl := Gets.out H
 exact rt i2 rfl () 0 [] 0 (.cons (res_tmp rfl) .nil)
theorem concourseref01_low.c {a0 : Int} {r : Bool} (h : concourseref01_low.f a0 = some r) : Pt Tryz.prog 99 [eq (.int .u8 a0)] (vB r) := by
 unfold concourseref01_low.f at h
 refine (Tr.body Tryz.func99 (c := _) rfl Tryz.ntmps99 (Nat.le_of_ble_eq_true rfl) fun R0 F => ?_).pt
 replace h := Gets.of h
 have H := h
 clear h
 refine WP.seq <| rg 1 0 <| as0 rfl rfl <| .fin <| WP.seq <| rg 15 0 <| mv0 rfl rfl <| bn0 rfl rfl rfl run_ge <| mv0 rfl rfl ?_
 cases c252 : decide (97 ≤ a0)
 ·
  replace H := Gets.cf H c252
  refine sk rfl rfl <| sk rfl rfl <| pf0 rfl rfl rfl <| mv0 rfl rfl <| mvg rfl rfl rfl <| bng rfl rfl rfl rfl run_ge <| mvg rfl rfl rfl ?_
  cases c255 : decide (48 ≤ a0)
  ·
   replace H := Gets.cf H c255
   refine sk rfl rfl <| sk rfl rfl <| pfg rfl rfl rfl rfl <| pf0 rfl rfl rfl <| as0 rfl rfl <| .fin ?_
   obtain rfl := Gets.out H
   exact rt i2 rfl () 0 [] 0 (.cons (res_tmp rfl) .nil)
  replace H := Gets.ct H c255
  refine mvg rfl rfl rfl <| bng rfl rfl rfl rfl run_le <| ptg rfl rfl rfl rfl <| pf0 rfl rfl rfl <| as0 rfl rfl <| .fin ?_
  obtain rfl := Gets.out H
  exact rt i2 rfl () 0 [] 0 (.cons (res_tmp rfl) .nil)
 replace H := Gets.ct H c252
 refine mvg rfl rfl rfl <| bng rfl rfl rfl rfl run_le <| pt0 rfl rfl rfl <| mv0 rfl rfl ?_
 cases c253 : decide (a0 ≤ 122)
 rotate_left
 ·
  replace H := Gets.ct H c253
  refine sk rfl rfl <| sk rfl rfl <| sk rfl rfl <| sku rfl rfl <| sku rfl rfl <| sk rfl rfl <| pt0 rfl rfl rfl <| as0 rfl rfl <| .fin ?_
  obtain rfl := Gets.out H
  exact rt i2 rfl () 0 [] 0 (.cons (res_tmp rfl) .nil)
 replace H := Gets.cf H c253
 refine mvg rfl rfl rfl <| bng rfl rfl rfl rfl run_ge <| mvg rfl rfl rfl ?_
 cases c254 : decide (48 ≤ a0)
 ·
  replace H := Gets.cf H c254
  refine sk rfl rfl <| sk rfl rfl <| pfg rfl rfl rfl rfl <| pf0 rfl rfl rfl <| as0 rfl rfl <| .fin ?_
  obtain rfl := Gets.out H
  exact rt i2 rfl () 0 [] 0 (.cons (res_tmp rfl) .nil)
 replace H := Gets.ct H c254
 refine mvg rfl rfl rfl <| bng rfl rfl rfl rfl run_le <| ptg rfl rfl rfl rfl <| pf0 rfl rfl rfl <| as0 rfl rfl <| .fin ?_
 obtain rfl := Gets.out H
 exact rt i2 rfl () 0 [] 0 (.cons (res_tmp rfl) .nil)
theorem concourseref01_Part.c {k : Nat} {a0 : ByteArray} {r : Bool} (h : concourseref01_Part.f k a0 = some r) : Pt Tryz.prog 83 [vS a0] (vB r) := by
 unfold concourseref01_Part.f at h
 refine (Tr.body Tryz.func83 (c := _) rfl Tryz.ntmps83 (Nat.le_of_ble_eq_true rfl) fun R0 F => ?_).pt
 replace h := Gets.of h
 have H := h
 clear h
 refine WP.seq <| rg 1 0 <| as0 rfl rfl <| .fin <| WP.seqr H id (fun p256 : Int × Bool => [(0, vS a0), (2, vB false), (3, vI p256.1), (8, vB p256.2)]) (fun p256 : Int × Bool => F) (fun p256 H => ?_) (fun H => ?_)
 ·
  refine WP.seq <| rg 9 0 <| mv0 rfl rfl <| Dv.lens rfl trivial rfl Tryz.underlying9 <| bn0 rfl rfl rfl run_gt <| mv0 rfl rfl ?_
  cases c257 : decide (0 < (a0.size : Int))
  ·
   replace H := Gets.cf H c257
   refine sk rfl rfl <| sk rfl rfl <| sk rfl rfl <| pf0 rfl rfl rfl <| as0 rfl rfl <| .fin ?_
   obtain rfl := Gets.out H
   exact rt i2 rfl () 0 [] 0 (.cons (res_tmp rfl) .nil)
  replace H := Gets.ct H c257
  refine mvg rfl rfl rfl <| Dv.lens rfl (gg rfl) rfl Tryz.underlying9 <| bng rfl rfl rfl rfl run_lt <| pt0 rfl rfl rfl <| as0 rfl rfl <| .fin ?_
  obtain rfl := Gets.out H
  exact rt i2 rfl () 0 [] 0 (.cons (res_tmp rfl) .nil)
 refine WP.seq <| rg 1 0 <| as0 rfl rfl <| .fin <| WP.block <| wg (sg 0 [] 0) fun _ _ => ?_
 refine lp (fun j_ (p274 : Int) => concourseref01_Part.l0 k a0 j_ p274) 0 H (fun p274 => [(0, vS a0), (2, vB false), (3, vI p274)]) (fun p274 => F) ?_
 rintro j_ x258 H
 rcases j_ with _ | j273
 ·
  exact (Gets.no H).elim
 replace H : Gets (concourseref01_Part.l0 k a0 (j273 + 1) x258) _ := H
 rw [concourseref01_Part.l0] at H
 refine WP.seq <| WP.seq <| rg 4 0 <| mv0 rfl rfl <| mv0 rfl rfl <| Dv.lens rfl trivial rfl Tryz.underlying9 <| bn0 rfl rfl rfl run_lt <| .fin <| cd H rfl (fun _ H => ?_) (fun _ H => ?_)
 rotate_left
 ·
  refine WP.exit ?_
  replace H := Gets.out H
  exact jn (x258, decide (x258 < (a0.size : Int))) H
 refine WP.skip <| WP.seq <| WP.block <| WP.seq <| rg 5 0 <| mv0 rfl rfl <| mv0 rfl rfl <| gr H fun g260 H => Dv.ixs rfl trivial rfl rfl Tryz.underlying9 g260.1 g260.2 <| el H fun t261 h262 H => cl rfl cal99 rfl (concourseref01_low.c h262) <| as0 rfl rfl <| .fin <| WP.seq <| rg 20 0 <| mv0 rfl rfl <| un0 rfl rfl (run_not _) <| mv0 rfl rfl ?_
 cases c263 : !t261
 ·
  replace H := Gets.cf H c263
  refine sk rfl rfl <| sk rfl rfl <| sk rfl rfl <| sk rfl rfl <| pf0 rfl rfl rfl <| mv0 rfl rfl <| sk rfl rfl <| sk rfl rfl <| sk rfl rfl <| sk rfl rfl <| pf0 rfl rfl rfl <| mv0 rfl rfl <| sk rfl rfl <| sk rfl rfl <| sk rfl rfl <| sk rfl rfl <| pf0 rfl rfl rfl <| .fin <| WP.cond rfl nofun (fun _ => ?_)
  exact WP.skip <| rg 3 0 <| mv0 rfl rfl <| bn0 rfl rfl rfl run_add <| as0 rfl rfl <| .fin <| bk j273 (w64 (x258 + 1)) H
 replace H := Gets.ct H c263
 refine mvg rfl rfl rfl <| mvg rfl rfl rfl <| gr H fun g264 H => Dv.ixs rfl (gg rfl) rfl rfl Tryz.underlying9 g264.1 g264.2 <| bng rfl rfl rfl rfl run_ne <| pt0 rfl rfl rfl <| mv0 rfl rfl ?_
 cases c265 : ((bt a0 x258) != 46)
 ·
  replace H := Gets.cf H c265
  refine sk rfl rfl <| sk rfl rfl <| sk rfl rfl <| sk rfl rfl <| pf0 rfl rfl rfl <| mv0 rfl rfl <| sk rfl rfl <| sk rfl rfl <| sk rfl rfl <| sk rfl rfl <| pf0 rfl rfl rfl <| .fin <| WP.cond rfl nofun (fun _ => ?_)
  exact WP.skip <| rg 3 0 <| mv0 rfl rfl <| bn0 rfl rfl rfl run_add <| as0 rfl rfl <| .fin <| bk j273 (w64 (x258 + 1)) H
 replace H := Gets.ct H c265
 refine mvg rfl rfl rfl <| mvg rfl rfl rfl <| gr H fun g266 H => Dv.ixs rfl (gg rfl) rfl rfl Tryz.underlying9 g266.1 g266.2 <| bng rfl rfl rfl rfl run_ne <| pt0 rfl rfl rfl <| mv0 rfl rfl ?_
 cases c267 : ((bt a0 x258) != 45)
 ·
  replace H := Gets.cf H c267
  refine sk rfl rfl <| sk rfl rfl <| sk rfl rfl <| sk rfl rfl <| pf0 rfl rfl rfl <| .fin <| WP.cond rfl nofun (fun _ => ?_)
  exact WP.skip <| rg 3 0 <| mv0 rfl rfl <| bn0 rfl rfl rfl run_add <| as0 rfl rfl <| .fin <| bk j273 (w64 (x258 + 1)) H
 replace H := Gets.ct H c267
 refine mvg rfl rfl rfl <| mvg rfl rfl rfl <| gr H fun g268 H => Dv.ixs rfl (gg rfl) rfl rfl Tryz.underlying9 g268.1 g268.2 <| bng rfl rfl rfl rfl run_ne <| pt0 rfl rfl rfl <| .fin <| cd H rfl (fun _ H => ?_) (fun _ H => ?_)
 rotate_left
 ·
  exact WP.skip <| rg 3 0 <| mv0 rfl rfl <| bn0 rfl rfl rfl run_add <| as0 rfl rfl <| .fin <| bk j273 (w64 (x258 + 1)) H
 refine WP.seq <| rg 1 0 <| as0 rfl rfl <| .fin ?_
 replace H := Gets.outr H
 obtain rfl := Gets.out H
 exact rt i2 rfl () 0 [] 0 (.cons (res_tmp rfl) .nil)
theorem concourseref01_Server.c {k : Nat} {a0 : ByteArray} {r : Bool} (h : concourseref01_Server.f k a0 = some r) : Pt Tryz.prog 84 [vS a0] (vB r) := by
 unfold concourseref01_Server.f at h
 refine (Tr.body Tryz.func84 (c := _) rfl Tryz.ntmps84 (Nat.le_of_ble_eq_true rfl) fun R0 F => ?_).pt
 replace h := Gets.of h
 have H := h
 clear h
 refine WP.seq <| rg 1 0 <| as0 rfl rfl <| .fin <| WP.seqr H id (fun p275 : Int × Bool => [(0, vS a0), (2, vB false), (3, vI p275.1), (9, vB p275.2)]) (fun p275 : Int × Bool => F) (fun p275 H => ?_) (fun H => ?_)
 ·
  refine WP.seq <| rg 9 0 <| mv0 rfl rfl <| Dv.lens rfl trivial rfl Tryz.underlying9 <| bn0 rfl rfl rfl run_gt <| mv0 rfl rfl ?_
  cases c276 : decide (0 < (a0.size : Int))
  ·
   replace H := Gets.cf H c276
   refine sk rfl rfl <| sk rfl rfl <| sk rfl rfl <| pf0 rfl rfl rfl <| as0 rfl rfl <| .fin ?_
   obtain rfl := Gets.out H
   exact rt i2 rfl () 0 [] 0 (.cons (res_tmp rfl) .nil)
  replace H := Gets.ct H c276
  refine mvg rfl rfl rfl <| Dv.lens rfl (gg rfl) rfl Tryz.underlying9 <| bng rfl rfl rfl rfl run_lt <| pt0 rfl rfl rfl <| as0 rfl rfl <| .fin ?_
  obtain rfl := Gets.out H
  exact rt i2 rfl () 0 [] 0 (.cons (res_tmp rfl) .nil)
 refine WP.seq <| rg 1 0 <| as0 rfl rfl <| .fin <| WP.block <| wg (sg 0 [] 0) fun _ _ => ?_
 refine lp (fun j_ (p300 : Int) => concourseref01_Server.l0 k a0 j_ p300) 0 H (fun p300 => [(0, vS a0), (2, vB false), (3, vI p300)]) (fun p300 => F) ?_
 rintro j_ x277 H
 rcases j_ with _ | j299
 ·
  exact (Gets.no H).elim
 replace H : Gets (concourseref01_Server.l0 k a0 (j299 + 1) x277) _ := H
 rw [concourseref01_Server.l0] at H
 refine WP.seq <| WP.seq <| rg 4 0 <| mv0 rfl rfl <| mv0 rfl rfl <| Dv.lens rfl trivial rfl Tryz.underlying9 <| bn0 rfl rfl rfl run_lt <| .fin <| cd H rfl (fun _ H => ?_) (fun _ H => ?_)
 rotate_left
 ·
  refine WP.exit ?_
  replace H := Gets.out H
  exact jn (x277, decide (x277 < (a0.size : Int))) H
 refine WP.skip <| WP.seq <| WP.block <| WP.seq <| rg 5 0 <| mv0 rfl rfl <| mv0 rfl rfl <| gr H fun g279 H => Dv.ixs rfl trivial rfl rfl Tryz.underlying9 g279.1 g279.2 <| el H fun t280 h281 H => cl rfl cal99 rfl (concourseref01_low.c h281) <| as0 rfl rfl <| .fin <| WP.seq <| rg 22 0 <| mv0 rfl rfl <| bn0 rfl rfl rfl run_gt <| mv0 rfl rfl ?_
 cases c282 : decide (0 < x277)
 ·
  replace H := Gets.cf H c282
  refine sk rfl rfl <| sk rfl rfl <| sk rfl rfl <| sk rfl rfl <| sk rfl rfl <| pf0 rfl rfl rfl <| mv0 rfl rfl <| sk rfl rfl <| sk rfl rfl <| sk rfl rfl <| sk rfl rfl <| sk rfl rfl <| sku rfl rfl <| sku rfl rfl <| sku rfl rfl <| sku rfl rfl <| sk rfl rfl <| pf0 rfl rfl rfl <| as0 rfl rfl <| .fin <| WP.seq <| rg 6 0 <| mv0 rfl rfl <| un0 rfl rfl (run_not _) <| mv0 rfl rfl ?_
  cases c296 : !t280
  ·
   replace H := Gets.cf H c296
   refine sk rfl rfl <| sk rfl rfl <| pf0 rfl rfl rfl <| .fin <| WP.cond rfl nofun (fun _ => ?_)
   exact WP.skip <| rg 3 0 <| mv0 rfl rfl <| bn0 rfl rfl rfl run_add <| as0 rfl rfl <| .fin <| bk j299 (w64 (x277 + 1)) H
  replace H := Gets.ct H c296
  refine mvg rfl rfl rfl <| ung rfl rfl rfl (run_not _) <| pt0 rfl rfl rfl <| .fin <| WP.cond rfl (fun _ => ?_) nofun
  refine WP.seq <| rg 1 0 <| as0 rfl rfl <| .fin ?_
  replace H := Gets.outr H
  obtain rfl := Gets.out H
  exact rt i2 rfl () 0 [] 0 (.cons (res_tmp rfl) .nil)
 replace H := Gets.ct H c282
 refine mvg rfl rfl rfl <| mvg rfl rfl rfl <| Dv.lens rfl (gg rfl) rfl Tryz.underlying9 <| bng rfl rfl rfl rfl run_sub <| bng rfl rfl rfl rfl run_lt <| pt0 rfl rfl rfl <| mv0 rfl rfl ?_
 cases c283 : decide (x277 < (w64 ((a0.size : Int) - 1)))
 ·
  replace H := Gets.cf H c283
  refine sk rfl rfl <| sk rfl rfl <| sk rfl rfl <| sk rfl rfl <| sk rfl rfl <| sku rfl rfl <| sku rfl rfl <| sku rfl rfl <| sku rfl rfl <| sk rfl rfl <| pf0 rfl rfl rfl <| as0 rfl rfl <| .fin <| WP.seq <| rg 6 0 <| mv0 rfl rfl <| un0 rfl rfl (run_not _) <| mv0 rfl rfl ?_
  cases c293 : !t280
  ·
   replace H := Gets.cf H c293
   refine sk rfl rfl <| sk rfl rfl <| pf0 rfl rfl rfl <| .fin <| WP.cond rfl nofun (fun _ => ?_)
   exact WP.skip <| rg 3 0 <| mv0 rfl rfl <| bn0 rfl rfl rfl run_add <| as0 rfl rfl <| .fin <| bk j299 (w64 (x277 + 1)) H
  replace H := Gets.ct H c293
  refine mvg rfl rfl rfl <| ung rfl rfl rfl (run_not _) <| pt0 rfl rfl rfl <| .fin <| WP.cond rfl (fun _ => ?_) nofun
  refine WP.seq <| rg 1 0 <| as0 rfl rfl <| .fin ?_
  replace H := Gets.outr H
  obtain rfl := Gets.out H
  exact rt i2 rfl () 0 [] 0 (.cons (res_tmp rfl) .nil)
 replace H := Gets.ct H c283
 refine mvg rfl rfl rfl <| mvg rfl rfl rfl <| gr H fun g284 H => Dv.ixs rfl (gg rfl) rfl rfl Tryz.underlying9 g284.1 g284.2 <| bng rfl rfl rfl rfl run_eq <| mvg rfl rfl rfl ?_
 cases c285 : ((bt a0 x277) == 46)
 rotate_left
 ·
  replace H := Gets.ct H c285
  refine sk rfl rfl <| sk rfl rfl <| sk rfl rfl <| sk rfl rfl <| ptg rfl rfl rfl rfl <| pt0 rfl rfl rfl <| as0 rfl rfl <| .fin <| WP.seq <| rg 6 0 <| mv0 rfl rfl <| un0 rfl rfl (run_not _) <| mv0 rfl rfl ?_
  cases c286 : !t280
  ·
   replace H := Gets.cf H c286
   refine sk rfl rfl <| sk rfl rfl <| pf0 rfl rfl rfl <| .fin <| WP.cond rfl nofun (fun _ => ?_)
   exact WP.skip <| rg 3 0 <| mv0 rfl rfl <| bn0 rfl rfl rfl run_add <| as0 rfl rfl <| .fin <| bk j299 (w64 (x277 + 1)) H
  replace H := Gets.ct H c286
  refine mvg rfl rfl rfl <| ung rfl rfl rfl (run_not _) <| pt0 rfl rfl rfl <| .fin <| WP.cond rfl nofun (fun _ => ?_)
  exact WP.skip <| rg 3 0 <| mv0 rfl rfl <| bn0 rfl rfl rfl run_add <| as0 rfl rfl <| .fin <| bk j299 (w64 (x277 + 1)) H
 replace H := Gets.cf H c285
 refine mvg rfl rfl rfl <| mvg rfl rfl rfl <| gr H fun g289 H => Dv.ixs rfl (gg rfl) rfl rfl Tryz.underlying9 g289.1 g289.2 <| bng rfl rfl rfl rfl run_eq <| pfg rfl rfl rfl rfl <| pt0 rfl rfl rfl <| as0 rfl rfl <| .fin <| WP.seq <| rg 6 0 <| mv0 rfl rfl <| un0 rfl rfl (run_not _) <| mv0 rfl rfl ?_
 cases c290 : !t280
 ·
  replace H := Gets.cf H c290
  refine sk rfl rfl <| sk rfl rfl <| pf0 rfl rfl rfl <| .fin <| WP.cond rfl nofun (fun _ => ?_)
  exact WP.skip <| rg 3 0 <| mv0 rfl rfl <| bn0 rfl rfl rfl run_add <| as0 rfl rfl <| .fin <| bk j299 (w64 (x277 + 1)) H
 replace H := Gets.ct H c290
 refine mvg rfl rfl rfl <| ung rfl rfl rfl (run_not _) <| pt0 rfl rfl rfl <| .fin <| cd H rfl (fun _ H => ?_) (fun _ H => ?_)
 rotate_left
 ·
  exact WP.skip <| rg 3 0 <| mv0 rfl rfl <| bn0 rfl rfl rfl run_add <| as0 rfl rfl <| .fin <| bk j299 (w64 (x277 + 1)) H
 refine WP.seq <| rg 1 0 <| as0 rfl rfl <| .fin ?_
 replace H := Gets.outr H
 obtain rfl := Gets.out H
 exact rt i2 rfl () 0 [] 0 (.cons (res_tmp rfl) .nil)
theorem concourseref01_Named.c {k : Nat} {a0 : ByteArray} {a1 : Int} {r : Bool} (h : concourseref01_Named.f k a0 a1 = some r) : Pt Tryz.prog 63 [vS a0, eq (.int .u8 a1)] (vB r) := by
 unfold concourseref01_Named.f at h
 refine (Tr.body Tryz.func63 (c := _) rfl Tryz.ntmps63 (Nat.le_of_ble_eq_true rfl) fun R0 F => ?_).pt
 replace h := Gets.of h
 have H := h
 clear h
 refine WP.seq <| rg 1 0 <| as0 rfl rfl <| .fin <| WP.seq <| rg 3 0 <| mv0 rfl rfl <| el H fun t301 h302 H => cl rfl cal64 rfl (concourseref01_colon.c h302) <| as0 rfl rfl <| .fin <| WP.seq <| WP.seq <| rg 8 0 <| mv0 rfl rfl <| bn0 rfl rfl rfl run_lt <| mv0 rfl rfl ?_
 cases c303 : decide (t301 < 1)
 rotate_left
 ·
  replace H := Gets.ct H c303
  refine sk rfl rfl <| sk rfl rfl <| sk rfl rfl <| sk rfl rfl <| pt0 rfl rfl rfl <| .fin <| WP.cond rfl (fun _ => ?_) nofun
  refine WP.seq <| rg 1 0 <| as0 rfl rfl <| .fin ?_
  obtain rfl := Gets.out H
  exact rt i2 rfl () 0 [] 0 (.cons (res_tmp rfl) .nil)
 replace H := Gets.cf H c303
 refine mvg rfl rfl rfl <| gr H fun g305 H => Dv.ixs rfl (gg rfl) rfl rfl Tryz.underlying9 g305.1 g305.2 <| mvg rfl rfl rfl <| bng rfl rfl rfl rfl run_ne <| pf0 rfl rfl rfl <| .fin <| cd H rfl (fun _ H => ?_) (fun _ H => ?_)
 ·
  refine WP.seq <| rg 1 0 <| as0 rfl rfl <| .fin ?_
  obtain rfl := Gets.out H
  exact rt i2 rfl () 0 [] 0 (.cons (res_tmp rfl) .nil)
 refine WP.skip <| WP.seq <| rg 5 0 <| mv0 rfl rfl <| mv0 rfl rfl <| gr H fun g307 H => Dv.sss rfl trivial rfl Tryz.underlying9 (bdE_some rfl g307.1) (bdE_some rfl g307.2.1) g307.2.2.1 g307.2.2.2 <| el H fun t308 h309 H => cl rfl cal83 rfl (concourseref01_Part.c h309) <| as0 rfl rfl <| .fin <| WP.seq <| rg 6 0 <| mv0 rfl rfl <| mv0 rfl rfl <| bn0 rfl rfl rfl run_add <| gr H fun g310 H => Dv.sss rfl trivial rfl Tryz.underlying9 (bdE_some rfl g310.1) bdE_none g310.2.1 g310.2.2 <| el H fun t311 h312 H => cl rfl cal84 rfl (concourseref01_Server.c h312) <| as0 rfl rfl <| .fin <| WP.seq <| rg 5 0 <| mv0 rfl rfl <| mv0 rfl rfl ?_
 cases c313 : t308
 ·
  replace H := Gets.cf H c313
  refine sk rfl rfl <| pf0 rfl rfl rfl <| as0 rfl rfl <| .fin ?_
  obtain rfl := Gets.out H
  exact rt i2 rfl () 0 [] 0 (.cons (res_tmp rfl) .nil)
 replace H := Gets.ct H c313
 refine mvg rfl rfl rfl <| pt0 rfl rfl rfl <| as0 rfl rfl <| .fin ?_
 obtain rfl := Gets.out H
 exact rt i2 rfl () 0 [] 0 (.cons (res_tmp rfl) .nil)
theorem concourseref01_Event.c {k : Nat} {a0 : ByteArray} {r : Bool} (h : concourseref01_Event.f k a0 = some r) : Pt Tryz.prog 82 [vS a0] (vB r) := by
 unfold concourseref01_Event.f at h
 refine (Tr.body Tryz.func82 (c := _) rfl Tryz.ntmps82 (Nat.le_of_ble_eq_true rfl) fun R0 F => ?_).pt
 replace h := Gets.of h
 have H := h
 clear h
 refine WP.seq <| rg 1 0 <| as0 rfl rfl <| .fin <| WP.seq <| WP.seq <| rg 13 0 <| mv0 rfl rfl <| Dv.lens rfl trivial rfl Tryz.underlying9 <| bn0 rfl rfl rfl run_lt <| mv0 rfl rfl ?_
 cases c314 : decide ((a0.size : Int) < 2)
 rotate_left
 ·
  replace H := Gets.ct H c314
  refine sk rfl rfl <| sk rfl rfl <| sk rfl rfl <| pt0 rfl rfl rfl <| mv0 rfl rfl <| sk rfl rfl <| sk rfl rfl <| sk rfl rfl <| pt0 rfl rfl rfl <| .fin <| WP.cond rfl (fun _ => ?_) nofun
  refine WP.seq <| rg 1 0 <| as0 rfl rfl <| .fin ?_
  obtain rfl := Gets.out H
  exact rt i2 rfl () 0 [] 0 (.cons (res_tmp rfl) .nil)
 replace H := Gets.cf H c314
 refine mvg rfl rfl rfl <| Dv.lens rfl (gg rfl) rfl Tryz.underlying9 <| bng rfl rfl rfl rfl run_gt <| pf0 rfl rfl rfl <| mv0 rfl rfl ?_
 cases c316 : decide (17 < (a0.size : Int))
 rotate_left
 ·
  replace H := Gets.ct H c316
  refine sk rfl rfl <| sk rfl rfl <| sk rfl rfl <| pt0 rfl rfl rfl <| .fin <| WP.cond rfl (fun _ => ?_) nofun
  refine WP.seq <| rg 1 0 <| as0 rfl rfl <| .fin ?_
  obtain rfl := Gets.out H
  exact rt i2 rfl () 0 [] 0 (.cons (res_tmp rfl) .nil)
 replace H := Gets.cf H c316
 refine mvg rfl rfl rfl <| gr H fun g318 H => Dv.ixs rfl (gg rfl) rfl rfl Tryz.underlying9 g318.1 g318.2 <| bng rfl rfl rfl rfl run_ne <| pf0 rfl rfl rfl <| .fin <| cd H rfl (fun _ H => ?_) (fun _ H => ?_)
 ·
  refine WP.seq <| rg 1 0 <| as0 rfl rfl <| .fin ?_
  obtain rfl := Gets.out H
  exact rt i2 rfl () 0 [] 0 (.cons (res_tmp rfl) .nil)
 refine WP.skip <| WP.seqr H id (fun p320 : Int × Bool => [(0, vS a0), (2, vB false), (3, vI p320.1), (18, vB ((bt a0 0) != 36)), (22, vB p320.2)]) (fun p320 : Int × Bool => F) (fun p320 H => ?_) (fun H => ?_)
 ·
  refine WP.seq <| rg 1 0 <| as0 rfl rfl <| .fin ?_
  obtain rfl := Gets.out H
  exact rt i2 rfl () 0 [] 0 (.cons (res_tmp rfl) .nil)
 refine WP.seq <| rg 1 0 <| as0 rfl rfl <| .fin <| WP.block <| wg (sg 0 [] 0) fun _ _ => ?_
 refine lp (fun j_ (p346 : Int) => concourseref01_Event.l0 k a0 j_ p346) 1 H (fun p346 => [(0, vS a0), (2, vB false), (3, vI p346), (18, vB ((bt a0 0) != 36))]) (fun p346 => F) ?_
 rintro j_ x321 H
 rcases j_ with _ | j345
 ·
  exact (Gets.no H).elim
 replace H : Gets (concourseref01_Event.l0 k a0 (j345 + 1) x321) _ := H
 rw [concourseref01_Event.l0] at H
 refine WP.seq <| WP.seq <| rg 4 0 <| mv0 rfl rfl <| mv0 rfl rfl <| Dv.lens rfl trivial rfl Tryz.underlying9 <| bn0 rfl rfl rfl run_lt <| .fin <| cd H rfl (fun _ H => ?_) (fun _ H => ?_)
 rotate_left
 ·
  refine WP.exit ?_
  replace H := Gets.out H
  exact jn (x321, decide (x321 < (a0.size : Int))) H
 refine WP.skip <| WP.seq <| WP.block <| WP.seq <| rg 5 0 <| mv0 rfl rfl <| mv0 rfl rfl <| gr H fun g323 H => Dv.ixs rfl trivial rfl rfl Tryz.underlying9 g323.1 g323.2 <| el H fun t324 h325 H => cl rfl cal99 rfl (concourseref01_low.c h325) <| as0 rfl rfl <| .fin <| WP.seq <| rg 11 0 <| mv0 rfl rfl <| mv0 rfl rfl <| gr H fun g326 H => Dv.ixs rfl trivial rfl rfl Tryz.underlying9 g326.1 g326.2 <| bn0 rfl rfl rfl run_ge <| mv0 rfl rfl ?_
 cases c327 : decide (65 ≤ (bt a0 x321))
 ·
  replace H := Gets.cf H c327
  refine sk rfl rfl <| sk rfl rfl <| sk rfl rfl <| sk rfl rfl <| pf0 rfl rfl rfl <| as0 rfl rfl <| .fin <| WP.seq <| rg 18 0 <| mv0 rfl rfl <| un0 rfl rfl (run_not _) <| mv0 rfl rfl ?_
  cases c338 : !t324
  ·
   replace H := Gets.cf H c338
   refine sk rfl rfl <| sk rfl rfl <| pf0 rfl rfl rfl <| mv0 rfl rfl <| sk rfl rfl <| sk rfl rfl <| sk rfl rfl <| sk rfl rfl <| pf0 rfl rfl rfl <| mv0 rfl rfl <| sk rfl rfl <| sk rfl rfl <| sk rfl rfl <| sk rfl rfl <| pf0 rfl rfl rfl <| .fin <| WP.cond rfl nofun (fun _ => ?_)
   exact WP.skip <| rg 3 0 <| mv0 rfl rfl <| bn0 rfl rfl rfl run_add <| as0 rfl rfl <| .fin <| bk j345 (w64 (x321 + 1)) H
  replace H := Gets.ct H c338
  refine mvg rfl rfl rfl <| ung rfl rfl rfl (run_not _) <| pt0 rfl rfl rfl <| mv0 rfl rfl <| mvg rfl rfl rfl <| mvg rfl rfl rfl <| gr H fun g339 H => Dv.ixs rfl (gg rfl) rfl rfl Tryz.underlying9 g339.1 g339.2 <| bng rfl rfl rfl rfl run_ne <| pt0 rfl rfl rfl <| mv0 rfl rfl ?_
  cases c340 : ((bt a0 x321) != 45)
  ·
   replace H := Gets.cf H c340
   refine sk rfl rfl <| sk rfl rfl <| sk rfl rfl <| sk rfl rfl <| pf0 rfl rfl rfl <| .fin <| WP.cond rfl nofun (fun _ => ?_)
   exact WP.skip <| rg 3 0 <| mv0 rfl rfl <| bn0 rfl rfl rfl run_add <| as0 rfl rfl <| .fin <| bk j345 (w64 (x321 + 1)) H
  replace H := Gets.ct H c340
  refine mvg rfl rfl rfl <| mvg rfl rfl rfl <| gr H fun g341 H => Dv.ixs rfl (gg rfl) rfl rfl Tryz.underlying9 g341.1 g341.2 <| bng rfl rfl rfl rfl run_ne <| pt0 rfl rfl rfl <| .fin <| cd H rfl (fun _ H => ?_) (fun _ H => ?_)
  rotate_left
  ·
   exact WP.skip <| rg 3 0 <| mv0 rfl rfl <| bn0 rfl rfl rfl run_add <| as0 rfl rfl <| .fin <| bk j345 (w64 (x321 + 1)) H
  refine WP.seq <| rg 1 0 <| as0 rfl rfl <| .fin ?_
  replace H := Gets.outr H
  obtain rfl := Gets.out H
  exact rt i2 rfl () 0 [] 0 (.cons (res_tmp rfl) .nil)
 replace H := Gets.ct H c327
 refine mvg rfl rfl rfl <| mvg rfl rfl rfl <| gr H fun g328 H => Dv.ixs rfl (gg rfl) rfl rfl Tryz.underlying9 g328.1 g328.2 <| bng rfl rfl rfl rfl run_le <| pt0 rfl rfl rfl <| as0 rfl rfl <| .fin <| WP.seq <| rg 18 0 <| mv0 rfl rfl <| un0 rfl rfl (run_not _) <| mv0 rfl rfl ?_
 cases c329 : !t324
 ·
  replace H := Gets.cf H c329
  refine sk rfl rfl <| sk rfl rfl <| pf0 rfl rfl rfl <| mv0 rfl rfl <| sk rfl rfl <| sk rfl rfl <| sk rfl rfl <| sk rfl rfl <| pf0 rfl rfl rfl <| mv0 rfl rfl <| sk rfl rfl <| sk rfl rfl <| sk rfl rfl <| sk rfl rfl <| pf0 rfl rfl rfl <| .fin <| WP.cond rfl nofun (fun _ => ?_)
  exact WP.skip <| rg 3 0 <| mv0 rfl rfl <| bn0 rfl rfl rfl run_add <| as0 rfl rfl <| .fin <| bk j345 (w64 (x321 + 1)) H
 replace H := Gets.ct H c329
 refine mvg rfl rfl rfl <| ung rfl rfl rfl (run_not _) <| pt0 rfl rfl rfl <| mv0 rfl rfl ?_
 cases c330 : !(decide ((bt a0 x321) ≤ 90))
 ·
  replace H := Gets.cf H c330
  refine sk rfl rfl <| sk rfl rfl <| sk rfl rfl <| sk rfl rfl <| pf0 rfl rfl rfl <| mv0 rfl rfl <| sk rfl rfl <| sk rfl rfl <| sk rfl rfl <| sk rfl rfl <| pf0 rfl rfl rfl <| .fin <| WP.cond rfl nofun (fun _ => ?_)
  exact WP.skip <| rg 3 0 <| mv0 rfl rfl <| bn0 rfl rfl rfl run_add <| as0 rfl rfl <| .fin <| bk j345 (w64 (x321 + 1)) H
 replace H := Gets.ct H c330
 refine mvg rfl rfl rfl <| mvg rfl rfl rfl <| gr H fun g331 H => Dv.ixs rfl (gg rfl) rfl rfl Tryz.underlying9 g331.1 g331.2 <| bng rfl rfl rfl rfl run_ne <| pt0 rfl rfl rfl <| mv0 rfl rfl ?_
 cases c332 : ((bt a0 x321) != 45)
 ·
  replace H := Gets.cf H c332
  refine sk rfl rfl <| sk rfl rfl <| sk rfl rfl <| sk rfl rfl <| pf0 rfl rfl rfl <| .fin <| WP.cond rfl nofun (fun _ => ?_)
  exact WP.skip <| rg 3 0 <| mv0 rfl rfl <| bn0 rfl rfl rfl run_add <| as0 rfl rfl <| .fin <| bk j345 (w64 (x321 + 1)) H
 replace H := Gets.ct H c332
 refine mvg rfl rfl rfl <| mvg rfl rfl rfl <| gr H fun g333 H => Dv.ixs rfl (gg rfl) rfl rfl Tryz.underlying9 g333.1 g333.2 <| bng rfl rfl rfl rfl run_ne <| pt0 rfl rfl rfl <| .fin <| cd H rfl (fun _ H => ?_) (fun _ H => ?_)
 rotate_left
 ·
  exact WP.skip <| rg 3 0 <| mv0 rfl rfl <| bn0 rfl rfl rfl run_add <| as0 rfl rfl <| .fin <| bk j345 (w64 (x321 + 1)) H
 refine WP.seq <| rg 1 0 <| as0 rfl rfl <| .fin ?_
 replace H := Gets.outr H
 obtain rfl := Gets.out H
 exact rt i2 rfl () 0 [] 0 (.cons (res_tmp rfl) .nil)
theorem concourseref07_May.c {k : Nat} {a0 : Event} {r : Bool} (h : concourseref07_May.f k a0 = some r) : Pt Tryz.prog 61 [agg (Event.enc a0)] (vB r) := by
 unfold concourseref07_May.f at h
 refine (Tr.body Tryz.func61 (c := _) rfl Tryz.ntmps61 (Nat.le_of_ble_eq_true rfl) fun R0 F => ?_).pt
 replace h := Gets.of h
 have H := h
 clear h
 refine WP.seq <| rg 2 1 <| Dv.box rfl trivial rfl cA nofun fun b347 => as0 rfl rfl <| .fin <| WP.seq <| rg 4 0 <| fb rfl trivial rfl fa43_0 <| ld 0 rfl trivial rfl sc9 rfl rfl <| el H fun t348 h349 H => cl rfl cal82 rfl (concourseref01_Event.c h349) <| as0 rfl rfl <| .fin <| WP.seq <| rg 4 0 <| fb rfl trivial rfl fa43_1 <| ld 0 rfl trivial rfl sc9 rfl rfl <| el H fun t350 h351 H => cl rfl cal63 rfl (concourseref01_Named.c h351) <| as0 rfl rfl <| .fin <| WP.seq <| rg 4 0 <| fb rfl trivial rfl fa43_4 <| ld 0 rfl trivial rfl sc9 rfl rfl <| el H fun t352 h353 H => cl rfl cal63 rfl (concourseref01_Named.c h353) <| as0 rfl rfl <| .fin <| WP.seq <| WP.seq <| rg 26 0 <| mv0 rfl rfl <| un0 rfl rfl (run_not _) <| mv0 rfl rfl ?_
 cases c354 : !t348
 rotate_left
 ·
  replace H := Gets.ct H c354
  refine sk rfl rfl <| sk rfl rfl <| pt0 rfl rfl rfl <| mv0 rfl rfl <| sk rfl rfl <| sk rfl rfl <| pt0 rfl rfl rfl <| mv0 rfl rfl <| sk rfl rfl <| sk rfl rfl <| sk rfl rfl <| sk rfl rfl <| pt0 rfl rfl rfl <| mv0 rfl rfl <| sk rfl rfl <| sk rfl rfl <| sk rfl rfl <| pt0 rfl rfl rfl <| mv0 rfl rfl <| sk rfl rfl <| sk rfl rfl <| sk rfl rfl <| pt0 rfl rfl rfl <| .fin <| WP.cond rfl (fun _ => ?_) nofun
  refine WP.seq <| rg 1 0 <| as0 rfl rfl <| .fin ?_
  obtain rfl := Gets.out H
  exact rt i2 rfl () 1 [0] 1 (.cons (res_tmp rfl) .nil)
 replace H := Gets.cf H c354
 refine mvg rfl rfl rfl <| ung rfl rfl rfl (run_not _) <| pf0 rfl rfl rfl <| mv0 rfl rfl ?_
 cases c356 : !t350
 rotate_left
 ·
  replace H := Gets.ct H c356
  refine sk rfl rfl <| sk rfl rfl <| pt0 rfl rfl rfl <| mv0 rfl rfl <| sk rfl rfl <| sk rfl rfl <| sk rfl rfl <| sk rfl rfl <| pt0 rfl rfl rfl <| mv0 rfl rfl <| sk rfl rfl <| sk rfl rfl <| sk rfl rfl <| pt0 rfl rfl rfl <| mv0 rfl rfl <| sk rfl rfl <| sk rfl rfl <| sk rfl rfl <| pt0 rfl rfl rfl <| .fin <| WP.cond rfl (fun _ => ?_) nofun
  refine WP.seq <| rg 1 0 <| as0 rfl rfl <| .fin ?_
  obtain rfl := Gets.out H
  exact rt i2 rfl () 1 [0] 1 (.cons (res_tmp rfl) .nil)
 replace H := Gets.cf H c356
 refine mvg rfl rfl rfl <| ung rfl rfl rfl (run_not _) <| pf0 rfl rfl rfl <| mv0 rfl rfl ?_
 cases c358 : !t352
 rotate_left
 ·
  replace H := Gets.ct H c358
  refine sk rfl rfl <| sk rfl rfl <| sk rfl rfl <| sk rfl rfl <| pt0 rfl rfl rfl <| mv0 rfl rfl <| sk rfl rfl <| sk rfl rfl <| sk rfl rfl <| pt0 rfl rfl rfl <| mv0 rfl rfl <| sk rfl rfl <| sk rfl rfl <| sk rfl rfl <| pt0 rfl rfl rfl <| .fin <| WP.cond rfl (fun _ => ?_) nofun
  refine WP.seq <| rg 1 0 <| as0 rfl rfl <| .fin ?_
  obtain rfl := Gets.out H
  exact rt i2 rfl () 1 [0] 1 (.cons (res_tmp rfl) .nil)
 replace H := Gets.cf H c358
 refine fb rfl (gg rfl) rfl fa43_2 <| ld 0 rfl (gg rfl) rfl sc29 rfl rfl <| Dv.lenl rfl (gg rfl) rfl Tryz.underlying29 <| bng rfl rfl rfl rfl run_gt <| pf0 rfl rfl rfl <| mv0 rfl rfl ?_
 cases c360 : decide (4 < (a0.fParents.length : Int))
 rotate_left
 ·
  replace H := Gets.ct H c360
  refine sk rfl rfl <| sk rfl rfl <| sk rfl rfl <| pt0 rfl rfl rfl <| mv0 rfl rfl <| sk rfl rfl <| sk rfl rfl <| sk rfl rfl <| pt0 rfl rfl rfl <| .fin <| WP.cond rfl (fun _ => ?_) nofun
  refine WP.seq <| rg 1 0 <| as0 rfl rfl <| .fin ?_
  obtain rfl := Gets.out H
  exact rt i2 rfl () 1 [0] 1 (.cons (res_tmp rfl) .nil)
 replace H := Gets.cf H c360
 refine fb rfl (gg rfl) rfl fa43_5 <| ld 0 rfl (gg rfl) rfl sc3 rfl rfl <| bng rfl rfl rfl rfl run_lt <| pf0 rfl rfl rfl <| mv0 rfl rfl ?_
 cases c362 : decide (a0.fDoes < 0)
 rotate_left
 ·
  replace H := Gets.ct H c362
  refine sk rfl rfl <| sk rfl rfl <| sk rfl rfl <| pt0 rfl rfl rfl <| .fin <| WP.cond rfl (fun _ => ?_) nofun
  refine WP.seq <| rg 1 0 <| as0 rfl rfl <| .fin ?_
  obtain rfl := Gets.out H
  exact rt i2 rfl () 1 [0] 1 (.cons (res_tmp rfl) .nil)
 replace H := Gets.cf H c362
 refine fb rfl (gg rfl) rfl fa43_5 <| ld 0 rfl (gg rfl) rfl sc3 rfl rfl <| bng rfl rfl rfl rfl run_gt <| pf0 rfl rfl rfl <| .fin <| cd H rfl (fun _ H => ?_) (fun _ H => ?_)
 ·
  refine WP.seq <| rg 1 0 <| as0 rfl rfl <| .fin ?_
  obtain rfl := Gets.out H
  exact rt i2 rfl () 1 [0] 1 (.cons (res_tmp rfl) .nil)
 refine WP.skip <| WP.seqr H id (fun p365 : Unit => [(0, agg (Event.enc a0)), (1, eq (.pointer (some ⟨b347, 0, none⟩))), (2, vB false), (3, vB t348), (4, vB t350), (5, vB t352), (43, vB (decide (2 < a0.fDoes))), (46, vB (!decide (a0.fThread = (⟨#[]⟩ : ByteArray))))]) (fun p365 : Unit => [blk b347 43 (Event.enc a0)] ++ F) (fun p365 H => ?_) (fun H => ?_)
 rotate_left
 ·
  refine WP.seq <| rg 3 0 <| fb rfl trivial rfl fa43_3 <| ld 0 rfl trivial rfl sc9 rfl rfl <| bn0 rfl rfl rfl run_sne <| .fin <| cd H rfl (fun _ H => ?_) (fun _ H => ?_)
  rotate_left
  ·
   refine WP.skip ?_
   replace H := Gets.out H
   exact jn () H
  refine WP.seq <| rg 4 0 <| fb rfl trivial rfl fa43_3 <| ld 0 rfl trivial rfl sc9 rfl rfl <| el H fun t384 h385 H => cl rfl cal82 rfl (concourseref01_Event.c h385) <| as0 rfl rfl <| .fin <| WP.seq <| rg 14 0 <| mv0 rfl rfl <| un0 rfl rfl (run_not _) <| mv0 rfl rfl ?_
  cases c386 : !t384
  rotate_left
  ·
   replace H := Gets.ct H c386
   refine sk rfl rfl <| sk rfl rfl <| sk rfl rfl <| sk rfl rfl <| sk rfl rfl <| pt0 rfl rfl rfl <| mv0 rfl rfl <| sk rfl rfl <| sk rfl rfl <| sk rfl rfl <| pt0 rfl rfl rfl <| .fin <| WP.cond rfl (fun _ => ?_) nofun
   refine WP.seq <| rg 1 0 <| as0 rfl rfl <| .fin ?_
   replace H := Gets.outr H
   obtain rfl := Gets.out H
   exact rt i2 rfl () 1 [0] 1 (.cons (res_tmp rfl) .nil)
  replace H := Gets.cf H c386
  refine fb rfl (gg rfl) rfl fa43_3 <| ld 0 rfl (gg rfl) rfl sc9 rfl rfl <| fb rfl (gg rfl) rfl fa43_0 <| ld 0 rfl (gg rfl) rfl sc9 rfl rfl <| bng rfl rfl rfl rfl run_seq <| pf0 rfl rfl rfl <| mv0 rfl rfl ?_
  cases c388 : decide (a0.fThread = a0.fID)
  rotate_left
  ·
   replace H := Gets.ct H c388
   refine sk rfl rfl <| sk rfl rfl <| sk rfl rfl <| pt0 rfl rfl rfl <| .fin <| WP.cond rfl (fun _ => ?_) nofun
   refine WP.seq <| rg 1 0 <| as0 rfl rfl <| .fin ?_
   replace H := Gets.outr H
   obtain rfl := Gets.out H
   exact rt i2 rfl () 1 [0] 1 (.cons (res_tmp rfl) .nil)
  replace H := Gets.cf H c388
  refine fb rfl (gg rfl) rfl fa43_5 <| ld 0 rfl (gg rfl) rfl sc3 rfl rfl <| bng rfl rfl rfl rfl run_ne <| pf0 rfl rfl rfl <| .fin <| cd H rfl (fun _ H => ?_) (fun _ H => ?_)
  rotate_left
  ·
   refine WP.skip ?_
   replace H := Gets.out H
   exact jn () H
  refine WP.seq <| rg 1 0 <| as0 rfl rfl <| .fin ?_
  replace H := Gets.outr H
  obtain rfl := Gets.out H
  exact rt i2 rfl () 1 [0] 1 (.cons (res_tmp rfl) .nil)
 refine WP.seqr H id (fun p366 : Int × Bool => [(0, agg (Event.enc a0)), (1, eq (.pointer (some ⟨b347, 0, none⟩))), (2, vB false), (3, vB t348), (4, vB t350), (5, vB t352), (7, vI p366.1), (43, vB (decide (2 < a0.fDoes))), (46, vB (!decide (a0.fThread = (⟨#[]⟩ : ByteArray)))), (68, vB p366.2)]) (fun p366 : Int × Bool => [blk b347 43 (Event.enc a0)] ++ F) (fun p366 H => ?_) (fun H => ?_)
 ·
  refine WP.seq <| rg 1 0 <| as0 rfl rfl <| .fin ?_
  obtain rfl := Gets.out H
  exact rt i2 rfl () 1 [0] 1 (.cons (res_tmp rfl) .nil)
 refine WP.seq <| rg 1 0 <| as0 rfl rfl <| .fin <| WP.block <| wg (sg 1 [0] 0) fun _ _ => ?_
 refine lp (fun j_ (p382 : Int) => concourseref07_May.l0 k a0 j_ p382) 0 H (fun p382 => [(0, agg (Event.enc a0)), (1, eq (.pointer (some ⟨b347, 0, none⟩))), (2, vB false), (3, vB t348), (4, vB t350), (5, vB t352), (7, vI p382), (43, vB (decide (2 < a0.fDoes))), (46, vB (!decide (a0.fThread = (⟨#[]⟩ : ByteArray))))]) (fun p382 => [blk b347 43 (Event.enc a0)] ++ F) ?_
 rintro j_ x367 H
 rcases j_ with _ | j381
 ·
  exact (Gets.no H).elim
 replace H : Gets (concourseref07_May.l0 k a0 (j381 + 1) x367) _ := H
 rw [concourseref07_May.l0] at H
 refine WP.seq <| WP.seq <| rg 5 0 <| mv0 rfl rfl <| fb rfl trivial rfl fa43_2 <| ld 0 rfl trivial rfl sc29 rfl rfl <| Dv.lenl rfl trivial rfl Tryz.underlying29 <| bn0 rfl rfl rfl run_lt <| .fin <| cd H rfl (fun _ H => ?_) (fun _ H => ?_)
 rotate_left
 ·
  refine WP.exit ?_
  replace H := Gets.out H
  exact jn (x367, decide (x367 < (a0.fParents.length : Int))) H
 refine WP.skip <| WP.seq <| WP.block <| WP.seq <| rg 7 0 <| fb rfl trivial rfl fa43_2 <| ld 0 rfl trivial rfl sc29 rfl rfl <| mv0 rfl rfl <| gr H fun g369 H => Dv.ixr rfl trivial rfl rfl Tryz.underlying29 Tryz.underlying9 c9 g369.1 g369.2 <| ldR rfl trivial rfl sc9 rfl <| el H fun t370 h371 H => cl rfl cal82 rfl (concourseref01_Event.c h371) <| as0 rfl rfl <| .fin <| WP.seq <| WP.seq <| dg Tryz.checked.mixed 12 0 <| mv0 rfl rfl <| un0 rfl rfl (run_not _) <| mv0 rfl rfl ?_
 cases c372 : !t370
 rotate_left
 ·
  replace H := Gets.ct H c372
  refine sk rfl rfl <| sk rfl rfl <| sk rfl rfl <| sk rfl rfl <| sk rfl rfl <| sk rfl rfl <| sk rfl rfl <| sk rfl rfl <| pt0 rfl rfl rfl <| .fin <| WP.cond rfl (fun _ => ?_) nofun
  refine WP.seq <| rg 1 0 <| as0 rfl rfl <| .fin ?_
  replace H := Gets.outr H
  obtain rfl := Gets.out H
  exact rt i2 rfl () 1 [0] 1 (.cons (res_tmp rfl) .nil)
 replace H := Gets.cf H c372
 refine fb rfl (gg rfl) rfl fa43_2 <| ld 0 rfl (gg rfl) rfl sc29 rfl rfl <| mvg rfl rfl rfl <| gr H fun g374 H => Dv.ixr rfl (gg rfl) rfl rfl Tryz.underlying29 Tryz.underlying9 c9 g374.1 g374.2 <| ldR rfl (gg rfl) rfl sc9 rfl <| fb rfl (gg rfl) rfl fa43_0 <| ld 0 rfl (gg rfl) rfl sc9 rfl rfl <| bng rfl rfl rfl rfl run_seq <| pf0 rfl rfl rfl <| .fin <| cd H rfl (fun _ H => ?_) (fun _ H => ?_)
 ·
  refine WP.seq <| rg 1 0 <| as0 rfl rfl <| .fin ?_
  replace H := Gets.outr H
  obtain rfl := Gets.out H
  exact rt i2 rfl () 1 [0] 1 (.cons (res_tmp rfl) .nil)
 refine WP.skip <| WP.seq <| dg Tryz.checked.mixed 17 0 <| mv0 rfl rfl <| bn0 rfl rfl rfl run_gt <| mv0 rfl rfl ?_
 cases c376 : decide (0 < x367)
 ·
  replace H := Gets.cf H c376
  refine sk rfl rfl <| sk rfl rfl <| sk rfl rfl <| sk rfl rfl <| sk rfl rfl <| sk rfl rfl <| sk rfl rfl <| sk rfl rfl <| sk rfl rfl <| sk rfl rfl <| sk rfl rfl <| sk rfl rfl <| sk rfl rfl <| pf0 rfl rfl rfl <| .fin <| WP.cond rfl nofun (fun _ => ?_)
  exact WP.skip <| rg 3 0 <| mv0 rfl rfl <| bn0 rfl rfl rfl run_add <| as0 rfl rfl <| .fin <| bk j381 (w64 (x367 + 1)) H
 replace H := Gets.ct H c376
 refine fb rfl (gg rfl) rfl fa43_2 <| ld 0 rfl (gg rfl) rfl sc29 rfl rfl <| mvg rfl rfl rfl <| bng rfl rfl rfl rfl run_sub <| Dv.maxi rfl (gg rfl) rfl rfl <| gr H fun g377 H => Dv.ixr rfl (gg rfl) rfl rfl Tryz.underlying29 Tryz.underlying9 c9 g377.1 g377.2 <| ldR rfl (gg rfl) rfl sc9 rfl <| fb rfl (gg rfl) rfl fa43_2 <| ld 0 rfl (gg rfl) rfl sc29 rfl rfl <| mvg rfl rfl rfl <| gr H fun g378 H => Dv.ixr rfl (gg rfl) rfl rfl Tryz.underlying29 Tryz.underlying9 c9 g378.1 g378.2 <| ldR rfl (gg rfl) rfl sc9 rfl <| bng rfl rfl rfl rfl run_sge <| pt0 rfl rfl rfl <| .fin <| cd H rfl (fun _ H => ?_) (fun _ H => ?_)
 rotate_left
 ·
  exact WP.skip <| rg 3 0 <| mv0 rfl rfl <| bn0 rfl rfl rfl run_add <| as0 rfl rfl <| .fin <| bk j381 (w64 (x367 + 1)) H
 refine WP.seq <| rg 1 0 <| as0 rfl rfl <| .fin ?_
 replace H := Gets.outr H
 obtain rfl := Gets.out H
 exact rt i2 rfl () 1 [0] 1 (.cons (res_tmp rfl) .nil)
theorem concourseref07_At.c {k : Nat} {a0 : RDag} {a1 : ByteArray} {r : Int} (h : concourseref07_At.f k a0 a1 = some r) : Pt Tryz.prog 62 [agg (RDag.enc a0), vS a1] (vI r) := by
 unfold concourseref07_At.f at h
 refine (Tr.body Tryz.func62 (c := _) rfl Tryz.ntmps62 (Nat.le_of_ble_eq_true rfl) fun R0 F => ?_).pt
 replace h := Gets.of h
 have H := h
 clear h
 refine WP.seq <| rg 2 1 <| Dv.box rfl trivial rfl cA nofun fun b391 => as0 rfl rfl <| .fin <| WP.seqr H id (fun p392 : Int × Bool => [(0, agg (RDag.enc a0)), (1, vS a1), (2, eq (.pointer (some ⟨b391, 0, none⟩))), (4, vI 0), (5, vI p392.1), (10, vB p392.2)]) (fun p392 : Int × Bool => [blk b391 26 (RDag.enc a0)] ++ F) (fun p392 H => ?_) (fun H => ?_)
 ·
  refine WP.seq <| rg 1 0 <| as0 rfl rfl <| .fin ?_
  obtain rfl := Gets.out H
  exact rt i2 rfl () 1 [0] 1 (.cons (res_tmp rfl) .nil)
 refine WP.seq <| rg 1 0 <| as0 rfl rfl <| .fin <| WP.block <| wg (sg 1 [0] 0) fun _ _ => ?_
 refine lp (fun j_ (p398 : Int) => concourseref07_At.l0 k a0 a1 j_ p398) 0 H (fun p398 => [(0, agg (RDag.enc a0)), (1, vS a1), (2, eq (.pointer (some ⟨b391, 0, none⟩))), (4, vI 0), (5, vI p398)]) (fun p398 => [blk b391 26 (RDag.enc a0)] ++ F) ?_
 rintro j_ x393 H
 rcases j_ with _ | j397
 ·
  exact (Gets.no H).elim
 replace H : Gets (concourseref07_At.l0 k a0 a1 (j397 + 1) x393) _ := H
 rw [concourseref07_At.l0] at H
 refine WP.seq <| WP.seq <| rg 5 0 <| mv0 rfl rfl <| fb rfl trivial rfl fa26_1 <| ld 0 rfl trivial rfl sc24 rfl rfl <| Dv.lenl rfl trivial rfl Tryz.underlying24 <| bn0 rfl rfl rfl run_lt <| .fin <| cd H rfl (fun _ H => ?_) (fun _ H => ?_)
 rotate_left
 ·
  refine WP.exit ?_
  replace H := Gets.out H
  exact jn (x393, decide (x393 < (a0.fL.length : Int))) H
 refine WP.skip <| WP.seq <| WP.block <| WP.seq <| rg 8 0 <| fb rfl trivial rfl fa26_1 <| ld 0 rfl trivial rfl sc24 rfl rfl <| mv0 rfl rfl <| gr H fun g395 H => Dv.ixr rfl trivial rfl rfl Tryz.underlying24 Tryz.underlying43 c43 g395.1 g395.2 <| fr rfl trivial rfl fa43_0 rfl <| ldR rfl trivial rfl sc9 rfl <| mv0 rfl rfl <| bn0 rfl rfl rfl run_seq <| .fin <| cd H rfl (fun _ H => ?_) (fun _ H => ?_)
 rotate_left
 ·
  exact WP.skip <| rg 3 0 <| mv0 rfl rfl <| bn0 rfl rfl rfl run_add <| as0 rfl rfl <| .fin <| bk j397 (w64 (x393 + 1)) H
 refine WP.seq <| rg 2 0 <| mv0 rfl rfl <| as0 rfl rfl <| .fin ?_
 replace H := Gets.outr H
 obtain rfl := Gets.out H
 exact rt i2 rfl () 1 [0] 1 (.cons (res_tmp rfl) .nil)
theorem concourseref07_Add.c {k : Nat} {a0 : RDag} {a1 : Event} {r : RDag × Int} (h : concourseref07_Add.f k a0 a1 = some r) : Pt Tryz.prog 46 [agg (RDag.enc a0), agg (Event.enc a1)] (tup [agg (RDag.enc r.1), vI r.2]) := by
 unfold concourseref07_Add.f at h
 refine (Tr.body Tryz.func46 (c := _) rfl Tryz.ntmps46 (Nat.le_of_ble_eq_true rfl) fun R0 F => ?_).pt
 replace h := Gets.of h
 have H := h
 clear h
 refine WP.seq <| rg 4 7 <| Dv.box rfl trivial rfl cA nofun fun b399 => Dv.box rfl trivial rfl cA nofun fun b400 => al rfl trivial zc26 nofun fun b401 => as0 rfl rfl <| .fin <| WP.seq <| rg 3 0 <| lds 1 rfl trivial rfl sg43 rfl rfl <| el H fun t402 h403 H => cl rfl cal61 rfl (concourseref07_May.c h403) <| as0 rfl rfl <| .fin <| WP.seq <| WP.seq <| rg 9 0 <| mv0 rfl rfl <| un0 rfl rfl (run_not _) <| mv0 rfl rfl ?_
 cases c404 : !t402
 rotate_left
 ·
  replace H := Gets.ct H c404
  refine sk rfl rfl <| sk rfl rfl <| sk rfl rfl <| sk rfl rfl <| sk rfl rfl <| pt0 rfl rfl rfl <| .fin <| WP.cond rfl (fun _ => ?_) nofun
  refine WP.seq <| rg 3 2 <| lds 2 rfl trivial rfl sg26 rfl rfl <| sx 0 rfl trivial rfl rfl cA sz26 rfl rfl rfl nofun ?_
  refine as0 rfl rfl <| .fin ?_
  obtain rfl := Gets.out H
  exact rt i2 rfl () 3 [0,1,2] 3 (.cons (res_cells rfl Tryz.underlying26 rfl c26 (mem_at 0 rfl) rfl) (.cons (res_tmp rfl) .nil))
 replace H := Gets.cf H c404
 refine fb rfl (gg rfl) rfl fa43_1 <| ld 1 rfl (gg rfl) rfl sc9 rfl rfl <| fb rfl (gg rfl) rfl fa26_0 <| ld 2 rfl (gg rfl) rfl sc9 rfl rfl <| bng rfl rfl rfl rfl run_sne <| pf0 rfl rfl rfl <| .fin <| cd H rfl (fun _ H => ?_) (fun _ H => ?_)
 ·
  refine WP.seq <| rg 3 2 <| lds 2 rfl trivial rfl sg26 rfl rfl <| sx 0 rfl trivial rfl rfl cA sz26 rfl rfl rfl nofun ?_
  refine as0 rfl rfl <| .fin ?_
  obtain rfl := Gets.out H
  exact rt i2 rfl () 3 [0,1,2] 3 (.cons (res_cells rfl Tryz.underlying26 rfl c26 (mem_at 0 rfl) rfl) (.cons (res_tmp rfl) .nil))
 refine WP.skip <| WP.seq <| WP.seq <| rg 5 0 <| lds 2 rfl trivial rfl sg26 rfl rfl <| fb rfl trivial rfl fa43_0 <| ld 1 rfl trivial rfl sc9 rfl rfl <| el H fun t407 h408 H => cl rfl cal62 rfl (concourseref07_At.c h408) <| bn0 rfl rfl rfl run_ge <| .fin <| cd H rfl (fun _ H => ?_) (fun _ H => ?_)
 ·
  refine WP.seq <| rg 3 2 <| lds 2 rfl trivial rfl sg26 rfl rfl <| sx 0 rfl trivial rfl rfl cA sz26 rfl rfl rfl nofun ?_
  refine as0 rfl rfl <| .fin ?_
  obtain rfl := Gets.out H
  exact rt i2 rfl () 3 [0,1,2] 3 (.cons (res_cells rfl Tryz.underlying26 rfl c26 (mem_at 0 rfl) rfl) (.cons (res_tmp rfl) .nil))
 refine WP.skip <| WP.seqr H id (fun p410 : Int × Bool => [(0, agg (RDag.enc a0)), (1, agg (Event.enc a1)), (2, eq (.pointer (some ⟨b399, 0, none⟩))), (3, eq (.pointer (some ⟨b400, 0, none⟩))), (4, eq (.pointer (some ⟨b401, 0, none⟩))), (5, vI 0), (6, vB t402), (7, vI p410.1), (20, vB (!decide (a1.fRoom = a0.fRoom))), (26, vB (decide (0 ≤ t407))), (32, vB p410.2)]) (fun p410 : Int × Bool => [blk b401 26 [vS (⟨#[]⟩ : ByteArray), eq (.slice none 0 0)], blk b400 43 (Event.enc a1), blk b399 26 (RDag.enc a0)] ++ F) (fun p410 H => ?_) (fun H => ?_)
 rotate_left
 ·
  refine WP.seq <| rg 1 0 <| as0 rfl rfl <| .fin <| WP.block <| wg (sg 3 [0,1,2] 0) fun _ _ => ?_
  refine lp (fun j_ (p432 : Int) => concourseref07_Add.l0 k a0 a1 j_ p432) 0 H (fun p432 => [(0, agg (RDag.enc a0)), (1, agg (Event.enc a1)), (2, eq (.pointer (some ⟨b399, 0, none⟩))), (3, eq (.pointer (some ⟨b400, 0, none⟩))), (4, eq (.pointer (some ⟨b401, 0, none⟩))), (5, vI 0), (6, vB t402), (7, vI p432), (20, vB (!decide (a1.fRoom = a0.fRoom))), (26, vB (decide (0 ≤ t407)))]) (fun p432 => [blk b401 26 [vS (⟨#[]⟩ : ByteArray), eq (.slice none 0 0)], blk b400 43 (Event.enc a1), blk b399 26 (RDag.enc a0)] ++ F) ?_
  rintro j_ x425 H
  rcases j_ with _ | j431
  ·
   exact (Gets.no H).elim
  replace H : Gets (concourseref07_Add.l0 k a0 a1 (j431 + 1) x425) _ := H
  rw [concourseref07_Add.l0] at H
  refine WP.seq <| WP.seq <| rg 5 0 <| mv0 rfl rfl <| fb rfl trivial rfl fa43_2 <| ld 1 rfl trivial rfl sc29 rfl rfl <| Dv.lenl rfl trivial rfl Tryz.underlying29 <| bn0 rfl rfl rfl run_lt <| .fin <| cd H rfl (fun _ H => ?_) (fun _ H => ?_)
  rotate_left
  ·
   refine WP.exit ?_
   replace H := Gets.out H
   exact jn (x425, decide (x425 < (a1.fParents.length : Int))) H
  refine WP.skip <| WP.seq <| WP.block <| WP.seq <| dg Tryz.checked.mixed 8 0 <| lds 2 rfl trivial rfl sg26 rfl rfl <| fb rfl trivial rfl fa43_2 <| ld 1 rfl trivial rfl sc29 rfl rfl <| mv0 rfl rfl <| gr H fun g427 H => Dv.ixr rfl trivial rfl rfl Tryz.underlying29 Tryz.underlying9 c9 g427.1 g427.2 <| ldR rfl trivial rfl sc9 rfl <| el H fun t428 h429 H => cl rfl cal62 rfl (concourseref07_At.c h429) <| bn0 rfl rfl rfl run_lt <| .fin <| cd H rfl (fun _ H => ?_) (fun _ H => ?_)
  rotate_left
  ·
   exact WP.skip <| rg 3 0 <| mv0 rfl rfl <| bn0 rfl rfl rfl run_add <| as0 rfl rfl <| .fin <| bk j431 (w64 (x425 + 1)) H
  refine WP.seq <| rg 3 2 <| lds 2 rfl trivial rfl sg26 rfl rfl <| sx 0 rfl trivial rfl rfl cA sz26 rfl rfl rfl nofun ?_
  refine as0 rfl rfl <| .fin ?_
  replace H := Gets.outr H
  obtain rfl := Gets.out H
  exact rt i2 rfl () 3 [0,1,2] 3 (.cons (res_cells rfl Tryz.underlying26 rfl c26 (mem_at 0 rfl) rfl) (.cons (res_tmp rfl) .nil))
 refine WP.seqr H id (fun p411 : Unit => [(0, agg (RDag.enc a0)), (1, agg (Event.enc a1)), (2, eq (.pointer (some ⟨b399, 0, none⟩))), (3, eq (.pointer (some ⟨b400, 0, none⟩))), (4, eq (.pointer (some ⟨b401, 0, none⟩))), (5, vI 0), (6, vB t402), (7, vI p410.1), (20, vB (!decide (a1.fRoom = a0.fRoom))), (26, vB (decide (0 ≤ t407))), (32, vB p410.2), (46, vB (!decide (a1.fThread = (⟨#[]⟩ : ByteArray))))]) (fun p411 : Unit => [blk b401 26 [vS (⟨#[]⟩ : ByteArray), eq (.slice none 0 0)], blk b400 43 (Event.enc a1), blk b399 26 (RDag.enc a0)] ++ F) (fun p411 H => ?_) (fun H => ?_)
 ·
  refine WP.seq <| rg 1 0 <| as0 rfl rfl <| .fin <| WP.seq <| rg 5 8 <| mv0 rfl rfl <| fb rfl trivial rfl fa26_1 <| ld 2 rfl trivial rfl sc24 rfl rfl <| vg (st_nil Event.K none) fun _ _ => ?_
  refine gr H fun g412 H => ap Event.K 0 a0.fL src_sl Tryz.underlying24 (.inr ⟨_, Tryz.underlying24⟩) inf43 g412 nofun fun v413 => ?_
  refine as0 rfl rfl <| .fin <| WP.seq <| dg Tryz.checked.mixed 9 160 <| fb rfl trivial rfl fa26_0 <| ld 3 rfl trivial rfl sc9 rfl rfl <| mv0 rfl rfl <| lds 2 rfl trivial rfl sg43 rfl rfl <| Dv.lit Event.K ([a1] : List Event) (css := [Event.enc a1]) rfl trivial Tryz.underlying24 Tryz.underlying43 c43 z43 rfl (by decide) (by decide) rfl ⟨(cells_agg (Event.K.one _)), trivial⟩ rfl rfl rfl <| gr H fun g414 H => Dv.appx (Kd := Event.K) (jj := 0) (ys := ([a1] : List Event)) (fun v415 : OV => [own Event.K v415.1 ((([] : List Event) ++ a0.fL) ++ ([a1] : List Event)), blk b401 26 [vS (⟨#[]⟩ : ByteArray), eq (.slice none 0 0)], blk b400 43 (Event.enc a1), blk b399 26 (RDag.enc a0)] ++ F) rfl trivial rfl rfl rfl src_sl Tryz.underlying24 (.inr ⟨_, Tryz.underlying24⟩) inf43 rfl (by decide) g414 rfl (fun _ => (pend_by (by kernel_rfl) (pend_by (by kernel_rfl) (pend_by (by kernel_rfl) (pend_in (fun _ => (mem_at 3 rfl)) (pend_in (fun _ => trivial) pend_nil)))))) (fun v415 => ?_)
  refine Dv.bld (css := [[vS a0.fRoom], [eq v415.1]]) rfl trivial Tryz.underlying26 pl26 z26 rfl ⟨(cells_one (one_eq rfl)), ⟨(cells_one one_ov), trivial⟩⟩ rfl rfl <| sx 1 rfl trivial rfl rfl cA sz26 rfl rfl rfl pB ?_
  refine as0 rfl rfl <| .fin <| WP.gh (gh_frz (E' := [(4, eq (.pointer (some ⟨b401, 0, none⟩))), (5, vI 0)]) (l' := [blk b401 26 [vS a0.fRoom, sl Event.K ((([] : List Event) ++ a0.fL) ++ ([a1] : List Event))], blk b400 43 (Event.enc a1), blk b399 26 (RDag.enc a0)] ++ F) 0 rfl (cve_cons rfl cv_id (cve_cons rfl cv_id cve_nil)) (all2_app (.cons (cva_blk (.cons cv_id (.cons cv_eq .nil))) (.cons cva_id (.cons cva_id .nil))) fun _ => cva_id)) (fun _ _ => ?_)
  obtain rfl := Gets.out H
  exact rt i2 rfl () 3 [0,1,2] 3 (.cons (res_cells rfl Tryz.underlying26 rfl c26 (mem_at 0 rfl) rfl) (.cons (res_tmp rfl) .nil))
 refine WP.seq <| rg 3 0 <| fb rfl trivial rfl fa43_3 <| ld 1 rfl trivial rfl sc9 rfl rfl <| bn0 rfl rfl rfl run_sne <| .fin <| cd H rfl (fun _ H => ?_) (fun _ H => ?_)
 rotate_left
 ·
  refine WP.skip ?_
  replace H := Gets.out H
  exact jn () H
 refine WP.seq <| rg 5 0 <| lds 2 rfl trivial rfl sg26 rfl rfl <| fb rfl trivial rfl fa43_3 <| ld 1 rfl trivial rfl sc9 rfl rfl <| el H fun t417 h418 H => cl rfl cal62 rfl (concourseref07_At.c h418) <| as0 rfl rfl <| .fin <| WP.seq <| WP.seq <| rg 2 0 <| mv0 rfl rfl <| bn0 rfl rfl rfl run_lt <| .fin <| cd H rfl (fun _ H => ?_) (fun _ H => ?_)
 ·
  refine WP.seq <| rg 3 2 <| lds 2 rfl trivial rfl sg26 rfl rfl <| sx 0 rfl trivial rfl rfl cA sz26 rfl rfl rfl nofun ?_
  refine as0 rfl rfl <| .fin ?_
  replace H := Gets.outr H
  obtain rfl := Gets.out H
  exact rt i2 rfl () 3 [0,1,2] 3 (.cons (res_cells rfl Tryz.underlying26 rfl c26 (mem_at 0 rfl) rfl) (.cons (res_tmp rfl) .nil))
 refine WP.skip <| WP.seq <| rg 16 0 <| fb rfl trivial rfl fa26_1 <| ld 2 rfl trivial rfl sc24 rfl rfl <| mv0 rfl rfl <| gr H fun g420 H => Dv.ixr rfl trivial rfl rfl Tryz.underlying24 Tryz.underlying43 c43 g420.1 g420.2 <| fr rfl trivial rfl fa43_3 rfl <| ldR rfl trivial rfl sc9 rfl <| bn0 rfl rfl rfl run_sne <| mv0 rfl rfl ?_
 cases c421 : !decide (((Event.K.at a0.fL t417).fThread) = (⟨#[]⟩ : ByteArray))
 rotate_left
 ·
  replace H := Gets.ct H c421
  refine sk rfl rfl <| sk rfl rfl <| sk rfl rfl <| sk rfl rfl <| sk rfl rfl <| sk rfl rfl <| sk rfl rfl <| pt0 rfl rfl rfl <| .fin <| WP.cond rfl (fun _ => ?_) nofun
  refine WP.seq <| rg 3 2 <| lds 2 rfl trivial rfl sg26 rfl rfl <| sx 0 rfl trivial rfl rfl cA sz26 rfl rfl rfl nofun ?_
  refine as0 rfl rfl <| .fin ?_
  replace H := Gets.outr H
  obtain rfl := Gets.out H
  exact rt i2 rfl () 3 [0,1,2] 3 (.cons (res_cells rfl Tryz.underlying26 rfl c26 (mem_at 0 rfl) rfl) (.cons (res_tmp rfl) .nil))
 replace H := Gets.cf H c421
 refine fb rfl (gg rfl) rfl fa26_1 <| ld 2 rfl (gg rfl) rfl sc24 rfl rfl <| mvg rfl rfl rfl <| gr H fun g423 H => Dv.ixr rfl (gg rfl) rfl rfl Tryz.underlying24 Tryz.underlying43 c43 g423.1 g423.2 <| fr rfl (gg rfl) rfl fa43_5 rfl <| ldR rfl (gg rfl) rfl sc3 rfl <| bng rfl rfl rfl rfl run_ne <| pf0 rfl rfl rfl <| .fin <| cd H rfl (fun _ H => ?_) (fun _ H => ?_)
 rotate_left
 ·
  refine WP.skip ?_
  replace H := Gets.out H
  exact jn () H
 refine WP.seq <| rg 3 2 <| lds 2 rfl trivial rfl sg26 rfl rfl <| sx 0 rfl trivial rfl rfl cA sz26 rfl rfl rfl nofun ?_
 refine as0 rfl rfl <| .fin ?_
 replace H := Gets.outr H
 obtain rfl := Gets.out H
 exact rt i2 rfl () 3 [0,1,2] 3 (.cons (res_cells rfl Tryz.underlying26 rfl c26 (mem_at 0 rfl) rfl) (.cons (res_tmp rfl) .nil))
theorem concourseref07_Made.c {k : Nat} {a0 : ByteArray} {a1 : List GMade} {r : RDag} (h : concourseref07_Made.f k a0 a1 = some r) : Pt Tryz.prog 29 [vS a0, sl GMade.K a1] (agg (RDag.enc r)) := by
 unfold concourseref07_Made.f at h
 refine (Tr.body Tryz.func29 (c := _) rfl Tryz.ntmps29 (Nat.le_of_ble_eq_true rfl) fun R0 F => ?_).pt
 replace h := Gets.of h
 have H := h
 clear h
 refine WP.seq <| rg 1 1 <| al rfl trivial zc26 nofun fun b433 => .fin <| WP.seq <| rg 4 12 <| mv0 rfl rfl <| Dv.bld (css := [[vS a0]]) rfl trivial Tryz.underlying26 pl26 z26 rfl ⟨(cells_one (one_eq rfl)), trivial⟩ rfl rfl <| al rfl trivial zc26 nofun fun b434 => sx 0 rfl trivial rfl rfl cA sz26 rfl rfl rfl nofun ?_
 refine .fin <| WP.seqn H id (fun p435 : Int × Bool × ByteArray × (List Event) => [(0, vS a0), (1, sl GMade.K a1), (4, eq (.pointer (some ⟨b433, 0, none⟩))), (5, eq (.pointer (some ⟨b434, 0, none⟩))), (6, vI p435.1), (23, vB p435.2.1)]) (fun p435 : Int × Bool × ByteArray × (List Event) => [blk b434 26 [vS p435.2.2.1, sl Event.K p435.2.2.2], blk b433 26 [vS (⟨#[]⟩ : ByteArray), eq (.slice none 0 0)]] ++ F) (fun p435 H => ?_) (fun H => ?_)
 ·
  refine WP.seq <| rg 2 2 <| lds 0 rfl trivial rfl sg26 rfl rfl <| sx 1 rfl trivial rfl rfl cA sz26 rfl rfl rfl nofun ?_
  refine .fin ?_
  obtain rfl := Gets.out H
  exact rt i2 rfl () 2 [0,1] 2 (.cons (res_cells rfl Tryz.underlying26 rfl c26 (mem_at 1 rfl) rfl) .nil)
 refine WP.seq <| rg 1 0 <| as0 rfl rfl <| .fin <| WP.block <| WP.gh (gh_wk (E' := [(0, vS a0), (1, sl GMade.K a1), (4, eq (.pointer (some ⟨b433, 0, none⟩))), (5, eq (.pointer (some ⟨b434, 0, none⟩))), (6, vI 0)]) (l' := [blk b434 26 [vS a0, sl Event.K ([] : List Event)], blk b433 26 [vS (⟨#[]⟩ : ByteArray), eq (.slice none 0 0)]] ++ F) (wke_cons rfl wk_id (wke_cons rfl wk_id (wke_cons rfl wk_id (wke_cons rfl wk_id (wke_cons rfl wk_id wke_nil))))) (all2_app (.cons (wka_blk (.cons wk_id (.cons wk_nil .nil))) (.cons wka_id .nil)) fun _ => wka_id)) (fun _ _ => ?_)
 refine wg (sg 2 [0,1] 0) fun _ _ => ?_
 refine lp (fun j_ (p524 : Int × ByteArray × (List Event)) => concourseref07_Made.l0 k a0 a1 j_ p524.1 p524.2.1 p524.2.2) (0, a0, ([] : List Event)) H (fun p524 => [(0, vS a0), (1, sl GMade.K a1), (4, eq (.pointer (some ⟨b433, 0, none⟩))), (5, eq (.pointer (some ⟨b434, 0, none⟩))), (6, vI p524.1)]) (fun p524 => [blk b434 26 [vS p524.2.1, sl Event.K p524.2.2], blk b433 26 [vS (⟨#[]⟩ : ByteArray), eq (.slice none 0 0)]] ++ F) ?_
 rintro j_ ⟨x436, x437, x438⟩ H
 rcases j_ with _ | j523
 ·
  exact (Gets.no H).elim
 replace H : Gets (concourseref07_Made.l0 k a0 a1 (j523 + 1) x436 x437 x438) _ := H
 rw [concourseref07_Made.l0] at H
 refine WP.seq <| WP.seq <| rg 8 0 <| mv0 rfl rfl <| mv0 rfl rfl <| Dv.lenl rfl trivial rfl Tryz.underlying22 <| bn0 rfl rfl rfl run_lt <| mv0 rfl rfl ?_
 cases c439 : decide (x436 < (a1.length : Int))
 ·
  replace H := Gets.cf H c439
  refine sk rfl rfl <| sk rfl rfl <| pf0 rfl rfl rfl <| .fin <| WP.cond rfl nofun (fun _ => ?_)
  refine WP.exit ?_
  replace H := Gets.out H
  exact jn (x436, false, x437, x438) H
 replace H := Gets.ct H c439
 refine mvg rfl rfl rfl <| bng rfl rfl rfl rfl run_lt <| pt0 rfl rfl rfl <| .fin <| cd H rfl (fun _ H => ?_) (fun _ H => ?_)
 rotate_left
 ·
  refine WP.exit ?_
  replace H := Gets.out H
  exact jn (x436, decide (x436 < 9), x437, x438) H
 refine WP.skip <| WP.seqn H (fun q521 : (Int × Int × Bool × Bool × Bool × ByteArray × (List Event) × (List Bool)) × OV => q521.1) (fun q521 : (Int × Int × Bool × Bool × Bool × ByteArray × (List Event) × (List Bool)) × OV => [(0, vS a0), (1, sl GMade.K a1), (4, eq (.pointer (some ⟨b433, 0, none⟩))), (5, eq (.pointer (some ⟨b434, 0, none⟩))), (6, vI x436), (8, eq q521.2.1), (9, vI q521.1.1), (10, vI q521.1.2.1), (23, vB (decide (x436 < 9))), (58, vB q521.1.2.2.1), (75, vB q521.1.2.2.2.1), (95, vB q521.1.2.2.2.2.1)]) (fun q521 : (Int × Int × Bool × Bool × Bool × ByteArray × (List Event) × (List Bool)) × OV => [blk b434 26 [vS q521.1.2.2.2.2.2.1, sl Event.K q521.1.2.2.2.2.2.2.1], blk b433 26 [vS (⟨#[]⟩ : ByteArray), eq (.slice none 0 0)], own boolK q521.2.1 q521.1.2.2.2.2.2.2.2] ++ F) (fun q521 H => ?_) (fun H => ?_)
 ·
  obtain ⟨p441, v442⟩ := q521
  refine rg 3 0 <| mv0 rfl rfl <| bn0 rfl rfl rfl run_add <| as0 rfl rfl <| .fin <| ng (sg 3 [2,0,1] 1) fun _ _ => ?_
  exact bk j523 (w64 (x436 + 1), p441.2.2.2.2.2.1, p441.2.2.2.2.2.2.1) H
 refine WP.block <| WP.seq <| dg Tryz.checked.mixed 18 196608 <| mv0 rfl rfl <| el H fun t443 h444 H => cl rfl cal45 rfl (concourseref01_EventOf.c h444) <| mv0 rfl rfl <| mv0 rfl rfl <| mv0 rfl rfl <| gr H fun g445 H => Dv.ixr rfl trivial rfl rfl Tryz.underlying22 Tryz.underlying77 c77 g445.1 g445.2 <| fr rfl trivial rfl fa77_0 rfl <| ldR rfl trivial rfl sc3 rfl <| el H fun t446 h447 H => cl rfl cal19 rfl (concourseref01_UserOf.c h447) <| mv0 rfl rfl <| mv0 rfl rfl <| gr H fun g448 H => Dv.ixr rfl trivial rfl rfl Tryz.underlying22 Tryz.underlying77 c77 g448.1 g448.2 <| fr rfl trivial rfl fa77_1 rfl <| ldR rfl trivial rfl sc3 rfl <| el H fun t449 h450 H => cl rfl cal32 rfl (concourseref01_Around.c h450) <| Dv.bld (css := [[vS t443], [vS a0], [vS t446], [vI t449]]) rfl trivial Tryz.underlying43 pl43 z43 rfl ⟨(cells_one (one_eq rfl)), ⟨(cells_one (one_eq rfl)), ⟨(cells_one (one_eq rfl)), ⟨(cells_one (one_eq rfl)), trivial⟩⟩⟩⟩ rfl rfl <| al rfl trivial zc43 (fun _ => (pend_in (fun _ => trivial) (pend_in (fun _ => trivial) (pend_in (fun _ => trivial) (pend_in (fun _ => trivial) (pend_in (fun _ => trivial) (pend_in (fun _ => trivial) (pend_in (fun _ => trivial) (pend_in (fun _ => trivial) (pend_in (fun _ => trivial) (pend_in (fun _ => trivial) (pend_in (fun _ => trivial) (pend_in (fun _ => trivial) (pend_in (fun _ => trivial) (pend_in (fun _ => trivial) (pend_in (fun _ => trivial) (pend_in (fun _ => trivial) pend_nil))))))))))))))))) fun b451 => sx 0 rfl trivial rfl rfl cA sz43 rfl rfl rfl pB ?_
 refine .fin <| WP.seq <| rg 2 1 <| gr H fun g452 H => ?_
 obtain ⟨ti453, ti453a, ti453b, ti453c, ti453d⟩ := inf4
 refine Dv.mks (Kd := boolK) (false : Bool) rfl trivial rfl rfl Tryz.underlying78 ti453a ti453b ti453c ti453d rfl (by decide) rfl g452 nofun (fun v454 => ?_)
 refine as0 rfl rfl <| .fin <| WP.seqn H id (fun p455 : Int × Bool × (List Bool) => [(0, vS a0), (1, sl GMade.K a1), (4, eq (.pointer (some ⟨b433, 0, none⟩))), (5, eq (.pointer (some ⟨b434, 0, none⟩))), (6, vI x436), (7, eq (.pointer (some ⟨b451, 0, none⟩))), (8, eq v454.1), (9, vI p455.1), (23, vB (decide (x436 < 9))), (58, vB p455.2.1)]) (fun p455 : Int × Bool × (List Bool) => [blk b451 43 [vS t443, vS a0, eq (.slice none 0 0), vS (⟨#[]⟩ : ByteArray), vS t446, vI t449], blk b434 26 [vS x437, sl Event.K x438], blk b433 26 [vS (⟨#[]⟩ : ByteArray), eq (.slice none 0 0)], own boolK v454.1 p455.2.2] ++ F) (fun p455 H => ?_) (fun H => ?_)
 rotate_left
 ·
  refine WP.seq <| rg 1 0 <| as0 rfl rfl <| .fin <| WP.block <| wg (sg 4 [1,2,3,0] 0) fun _ _ => ?_
  refine lp (fun j_ (p520 : Int × (List Bool)) => concourseref07_Made.l2 k a1 x436 j_ p520.1 p520.2) (0, List.replicate (9 : Int).toNat (false : Bool)) H (fun p520 => [(0, vS a0), (1, sl GMade.K a1), (4, eq (.pointer (some ⟨b433, 0, none⟩))), (5, eq (.pointer (some ⟨b434, 0, none⟩))), (6, vI x436), (7, eq (.pointer (some ⟨b451, 0, none⟩))), (8, eq v454.1), (9, vI p520.1), (23, vB (decide (x436 < 9)))]) (fun p520 => [blk b451 43 [vS t443, vS a0, eq (.slice none 0 0), vS (⟨#[]⟩ : ByteArray), vS t446, vI t449], blk b434 26 [vS x437, sl Event.K x438], blk b433 26 [vS (⟨#[]⟩ : ByteArray), eq (.slice none 0 0)], own boolK v454.1 p520.2] ++ F) ?_
  rintro j_ ⟨x505, x506⟩ H
  rcases j_ with _ | j519
  ·
   exact (Gets.no H).elim
  replace H : Gets (concourseref07_Made.l2 k a1 x436 (j519 + 1) x505 x506) _ := H
  rw [concourseref07_Made.l2] at H
  refine WP.seq <| WP.seq <| rg 16 0 <| mv0 rfl rfl <| mv0 rfl rfl <| mv0 rfl rfl <| gr H fun g507 H => Dv.ixr rfl trivial rfl rfl Tryz.underlying22 Tryz.underlying77 c77 g507.1 g507.2 <| fr rfl trivial rfl fa77_2 rfl <| ldR rfl trivial rfl sc75 rfl <| Dv.lenl rfl trivial rfl Tryz.underlying75 <| bn0 rfl rfl rfl run_lt <| mv0 rfl rfl ?_
  cases c508 : decide (x505 < (((GMade.K.at a1 x436).fParents).length : Int))
  ·
   replace H := Gets.cf H c508
   refine sk rfl rfl <| sk rfl rfl <| pf0 rfl rfl rfl <| mv0 rfl rfl <| sk rfl rfl <| sk rfl rfl <| pf0 rfl rfl rfl <| .fin <| WP.cond rfl nofun (fun _ => ?_)
   refine WP.exit ?_
   replace H := Gets.out H
   exact jn (x505, false, x506) H
  replace H := Gets.ct H c508
  refine mvg rfl rfl rfl <| bng rfl rfl rfl rfl run_lt <| pt0 rfl rfl rfl <| mv0 rfl rfl ?_
  cases c509 : decide (x505 < 3)
  ·
   replace H := Gets.cf H c509
   refine sk rfl rfl <| sk rfl rfl <| pf0 rfl rfl rfl <| .fin <| WP.cond rfl nofun (fun _ => ?_)
   refine WP.exit ?_
   replace H := Gets.out H
   exact jn (x505, false, x506) H
  replace H := Gets.ct H c509
  refine mvg rfl rfl rfl <| bng rfl rfl rfl rfl run_gt <| pt0 rfl rfl rfl <| .fin <| cd H rfl (fun _ H => ?_) (fun _ H => ?_)
  rotate_left
  ·
   refine WP.exit ?_
   replace H := Gets.out H
   exact jn (x505, decide (0 < x436), x506) H
  refine WP.skip <| WP.seq <| WP.block <| rg 13 4096 <| mv0 rfl rfl <| mv0 rfl rfl <| mv0 rfl rfl <| gr H fun g511 H => Dv.ixr rfl trivial rfl rfl Tryz.underlying22 Tryz.underlying77 c77 g511.1 g511.2 <| fr rfl trivial rfl fa77_2 rfl <| ldR rfl trivial rfl sc75 rfl <| mv0 rfl rfl <| gr H fun g512 H => Dv.ixr rfl trivial rfl rfl Tryz.underlying75 Tryz.underlying3 c3 g512.1 g512.2 <| ldR rfl trivial rfl sc3 rfl <| mv0 rfl rfl <| el H fun t513 h514 H => cl rfl cal32 rfl (concourseref01_Around.c h514) <| gr H fun g515 H => ?_
  have h516 : t513.toNat < x506.length := idx_lt g515
  exact Dv.ixw rfl trivial rfl (mem_at 3 rfl) rfl Tryz.underlying78 Tryz.underlying4 c4 g515.1 g515.2 <| Dv.stw (j := t513.toNat) (f := 0) (jj := 3) true rfl trivial rfl rfl (cells_one (one_eq rfl)) Tryz.underlying4 c4 rfl rfl h516 (Nat.le_of_ble_eq_true rfl) rfl nofun <| .fin <| rg 3 0 <| mv0 rfl rfl <| bn0 rfl rfl rfl run_add <| as0 rfl rfl <| .fin <| bk j519 (w64 (x505 + 1), x506.set t513.toNat true) H
 refine WP.seqn H (fun q504 : (Int × Bool × (List ByteArray)) × OV => q504.1) (fun q504 : (Int × Bool × (List ByteArray)) × OV => [(0, vS a0), (1, sl GMade.K a1), (4, eq (.pointer (some ⟨b433, 0, none⟩))), (5, eq (.pointer (some ⟨b434, 0, none⟩))), (6, vI x436), (7, eq (.pointer (some ⟨b451, 0, none⟩))), (8, eq v454.1), (9, vI p455.1), (10, vI q504.1.1), (23, vB (decide (x436 < 9))), (58, vB p455.2.1), (75, vB q504.1.2.1)]) (fun q504 : (Int × Bool × (List ByteArray)) × OV => [blk b451 43 [vS t443, vS a0, eq q504.2.1, vS (⟨#[]⟩ : ByteArray), vS t446, vI t449], blk b434 26 [vS x437, sl Event.K x438], blk b433 26 [vS (⟨#[]⟩ : ByteArray), eq (.slice none 0 0)], own boolK v454.1 p455.2.2, own strK q504.2.1 q504.1.2.2] ++ F) (fun q504 H => ?_) (fun H => ?_)
 rotate_left
 ·
  refine WP.seq <| rg 1 0 <| as0 rfl rfl <| .fin <| WP.block <| wg (st_nil strK none) fun _ _ => ?_
  refine wg (sg 5 [1,2,3,4,0] 0) fun _ _ => ?_
  refine lp (fun j_ (p503 : Int × (List ByteArray) × OV) => concourseref07_Made.l1 k x436 p455 j_ p503.1 p503.2.1) (0, ([] : List ByteArray), nilV) H (fun p503 => [(0, vS a0), (1, sl GMade.K a1), (4, eq (.pointer (some ⟨b433, 0, none⟩))), (5, eq (.pointer (some ⟨b434, 0, none⟩))), (6, vI x436), (7, eq (.pointer (some ⟨b451, 0, none⟩))), (8, eq v454.1), (9, vI p455.1), (10, vI p503.1), (23, vB (decide (x436 < 9))), (58, vB p455.2.1)]) (fun p503 => [blk b451 43 [vS t443, vS a0, eq p503.2.2.1, vS (⟨#[]⟩ : ByteArray), vS t446, vI t449], blk b434 26 [vS x437, sl Event.K x438], blk b433 26 [vS (⟨#[]⟩ : ByteArray), eq (.slice none 0 0)], own boolK v454.1 p455.2.2, own strK p503.2.2.1 p503.2.1] ++ F) ?_
  rintro j_ ⟨x491, x492, v493⟩ H
  rcases j_ with _ | j502
  ·
   exact (Gets.no H).elim
  replace H : Gets (concourseref07_Made.l1 k x436 p455 (j502 + 1) x491 x492) _ := H
  rw [concourseref07_Made.l1] at H
  refine WP.seq <| WP.seq <| rg 3 0 <| mv0 rfl rfl <| mv0 rfl rfl <| bn0 rfl rfl rfl run_lt <| .fin <| cd H rfl (fun _ H => ?_) (fun _ H => ?_)
  rotate_left
  ·
   refine WP.exit ?_
   replace H := Gets.out H
   exact jn ((x491, decide (x491 < x436), x492), v493) H
  refine WP.skip <| WP.seq <| WP.block <| WP.seq <| rg 4 0 <| mv0 rfl rfl <| mv0 rfl rfl <| gr H fun g495 H => ?_
  have h496 : x491.toNat < p455.2.2.length := idx_lt g495
  refine Dv.ixw rfl trivial rfl (mem_at 3 rfl) rfl Tryz.underlying78 Tryz.underlying4 c4 g495.1 g495.2 <| Dv.ldw (j := x491.toNat) (f := 0) (p := vB (p455.2.2.getD x491.toNat default)) rfl trivial rfl (mem_at 3 rfl) h496 Tryz.underlying4 rfl rfl <| .fin <| cd H rfl (fun _ H => ?_) (fun _ H => ?_)
  rotate_left
  ·
   exact WP.skip <| rg 3 0 <| mv0 rfl rfl <| bn0 rfl rfl rfl run_add <| as0 rfl rfl <| .fin <| bk j502 (w64 (x491 + 1), x492, v493) H
  refine dg Tryz.checked.mixed 8 160 <| fb rfl trivial rfl fa43_2 <| ld 0 rfl trivial rfl sc29 rfl rfl <| mv0 rfl rfl <| el H fun t498 h499 H => cl rfl cal45 rfl (concourseref01_EventOf.c h499) <| Dv.lit strK ([t498] : List ByteArray) (css := [[vS t498]]) rfl trivial Tryz.underlying29 Tryz.underlying9 c9 z9 rfl (by decide) (by decide) rfl ⟨(cells_one (one_eq rfl)), trivial⟩ rfl rfl rfl <| gr H fun g500 H => ap strK 4 ([t498] : List ByteArray) src_sl Tryz.underlying29 (.inr ⟨_, Tryz.underlying29⟩) inf9 g500 pB fun v501 => ?_
  refine fb rfl trivial rfl fa43_2 <| sx 0 rfl trivial rfl rfl (cells_one one_ov) sz29 rfl rfl rfl pB ?_
  exact .fin <| rg 3 0 <| mv0 rfl rfl <| bn0 rfl rfl rfl run_add <| as0 rfl rfl <| .fin <| bk j502 (w64 (x491 + 1), x492 ++ ([t498] : List ByteArray), v501) H
 obtain ⟨p456, v457⟩ := q504
 refine WP.seq <| WP.seq <| rg 7 0 <| fb rfl trivial rfl fa43_5 <| ld 0 rfl trivial rfl sc3 rfl rfl <| bn0 rfl rfl rfl run_eq <| mv0 rfl rfl ?_
 cases c458 : (t449 == 0)
 ·
  replace H := Gets.cf H c458
  refine sk rfl rfl <| sk rfl rfl <| pf0 rfl rfl rfl <| .fin <| WP.cond rfl nofun (fun _ => ?_)
  refine WP.skip <| WP.seq <| rg 9 192 <| lds 1 rfl trivial rfl sg26 rfl rfl <| lds 0 rfl trivial rfl sg43 rfl rfl <| Dv.gh (gh_frz (E' := [(0, vS a0), (1, sl GMade.K a1), (4, eq (.pointer (some ⟨b433, 0, none⟩))), (5, eq (.pointer (some ⟨b434, 0, none⟩))), (6, vI x436), (7, eq (.pointer (some ⟨b451, 0, none⟩))), (8, eq v454.1), (9, vI p455.1), (10, vI p456.1), (23, vB (decide (x436 < 9))), (58, vB p455.2.1), (75, vB p456.2.1), (95, vB false), (129, agg [vS x437, sl Event.K x438]), (130, agg [vS t443, vS a0, sl strK p456.2.2, vS (⟨#[]⟩ : ByteArray), vS t446, vI t449])]) (l' := [blk b451 43 [vS t443, vS a0, sl strK p456.2.2, vS (⟨#[]⟩ : ByteArray), vS t446, vI t449], blk b434 26 [vS x437, sl Event.K x438], blk b433 26 [vS (⟨#[]⟩ : ByteArray), eq (.slice none 0 0)], own boolK v454.1 p455.2.2] ++ F) 4 rfl (cve_cons rfl cv_id (cve_cons rfl cv_id (cve_cons rfl cv_id (cve_cons rfl cv_id (cve_cons rfl cv_id (cve_cons rfl cv_id (cve_cons rfl cv_id (cve_cons rfl cv_id (cve_cons rfl cv_id (cve_cons rfl cv_id (cve_cons rfl cv_id (cve_cons rfl cv_id (cve_cons rfl cv_id (cve_cons rfl cv_id (cve_cons rfl (cv_agg (.cons cv_id (.cons cv_id (.cons cv_eq (.cons cv_id (.cons cv_id (.cons cv_id .nil))))))) cve_nil))))))))))))))) (all2_app (.cons (cva_blk (.cons cv_id (.cons cv_id (.cons cv_eq (.cons cv_id (.cons cv_id (.cons cv_id .nil))))))) (.cons cva_id (.cons cva_id (.cons cva_id .nil)))) fun _ => cva_id)) (fun _ _ => ?_)
  refine el H fun t488 h489 H => cl rfl cal46 rfl (concourseref07_Add.c h489) <| mv0 rfl rfl <| ex0 rfl trivial rfl rfl <| ex0 rfl trivial rfl rfl <| al rfl trivial zc26 nofun fun b490 => sx 0 rfl trivial rfl rfl cA sz26 rfl rfl rfl nofun ?_
  refine as0 rfl rfl <| .fin <| rg 2 2 <| lds 0 rfl trivial rfl sg26 rfl rfl <| sx 2 rfl trivial rfl rfl cA sz26 rfl rfl rfl nofun ?_
  refine .fin ?_
  replace H := Gets.out H
  refine ng (sg 5 [0,1,2,3,4] 2) fun _ _ => ?_
  exact jn ((p455.1, p456.1, p455.2.1, p456.2.1, false, t488.1.fRoom, t488.1.fL, p455.2.2), v454) H
 replace H := Gets.ct H c458
 refine mvg rfl rfl rfl <| bng rfl rfl rfl rfl run_gt <| pt0 rfl rfl rfl <| .fin <| cd H rfl (fun _ H => ?_) (fun _ H => ?_)
 rotate_left
 ·
  refine WP.skip <| WP.seq <| rg 9 192 <| lds 1 rfl trivial rfl sg26 rfl rfl <| lds 0 rfl trivial rfl sg43 rfl rfl <| Dv.gh (gh_frz (E' := [(0, vS a0), (1, sl GMade.K a1), (4, eq (.pointer (some ⟨b433, 0, none⟩))), (5, eq (.pointer (some ⟨b434, 0, none⟩))), (6, vI x436), (7, eq (.pointer (some ⟨b451, 0, none⟩))), (8, eq v454.1), (9, vI p455.1), (10, vI p456.1), (23, vB (decide (x436 < 9))), (58, vB p455.2.1), (75, vB p456.2.1), (95, vB (decide (0 < x436))), (129, agg [vS x437, sl Event.K x438]), (130, agg [vS t443, vS a0, sl strK p456.2.2, vS (⟨#[]⟩ : ByteArray), vS t446, vI t449])]) (l' := [blk b451 43 [vS t443, vS a0, sl strK p456.2.2, vS (⟨#[]⟩ : ByteArray), vS t446, vI t449], blk b434 26 [vS x437, sl Event.K x438], blk b433 26 [vS (⟨#[]⟩ : ByteArray), eq (.slice none 0 0)], own boolK v454.1 p455.2.2] ++ F) 4 rfl (cve_cons rfl cv_id (cve_cons rfl cv_id (cve_cons rfl cv_id (cve_cons rfl cv_id (cve_cons rfl cv_id (cve_cons rfl cv_id (cve_cons rfl cv_id (cve_cons rfl cv_id (cve_cons rfl cv_id (cve_cons rfl cv_id (cve_cons rfl cv_id (cve_cons rfl cv_id (cve_cons rfl cv_id (cve_cons rfl cv_id (cve_cons rfl (cv_agg (.cons cv_id (.cons cv_id (.cons cv_eq (.cons cv_id (.cons cv_id (.cons cv_id .nil))))))) cve_nil))))))))))))))) (all2_app (.cons (cva_blk (.cons cv_id (.cons cv_id (.cons cv_eq (.cons cv_id (.cons cv_id (.cons cv_id .nil))))))) (.cons cva_id (.cons cva_id (.cons cva_id .nil)))) fun _ => cva_id)) (fun _ _ => ?_)
  refine el H fun t484 h485 H => cl rfl cal46 rfl (concourseref07_Add.c h485) <| mv0 rfl rfl <| ex0 rfl trivial rfl rfl <| ex0 rfl trivial rfl rfl <| al rfl trivial zc26 nofun fun b486 => sx 0 rfl trivial rfl rfl cA sz26 rfl rfl rfl nofun ?_
  refine as0 rfl rfl <| .fin <| rg 2 2 <| lds 0 rfl trivial rfl sg26 rfl rfl <| sx 2 rfl trivial rfl rfl cA sz26 rfl rfl rfl nofun ?_
  refine .fin ?_
  replace H := Gets.out H
  refine ng (sg 5 [0,1,2,3,4] 2) fun _ _ => ?_
  exact jn ((p455.1, p456.1, p455.2.1, p456.2.1, decide (0 < x436), t484.1.fRoom, t484.1.fL, p455.2.2), v454) H
 refine WP.seq <| rg 9 0 <| mv0 rfl rfl <| mv0 rfl rfl <| gr H fun g460 H => Dv.ixr rfl trivial rfl rfl Tryz.underlying22 Tryz.underlying77 c77 g460.1 g460.2 <| fr rfl trivial rfl fa77_3 rfl <| ldR rfl trivial rfl sc3 rfl <| mv0 rfl rfl <| bn0 rfl rfl rfl run_mul <| el H fun t461 h462 H => cl rfl cal32 rfl (concourseref01_Around.c h462) <| as0 rfl rfl <| .fin <| WP.seq <| rg 21 0 <| mv0 rfl rfl <| mv0 rfl rfl <| bn0 rfl rfl rfl run_lt <| mv0 rfl rfl ?_
 cases c463 : decide (t461 < x436)
 ·
  replace H := Gets.cf H c463
  refine sk rfl rfl <| sk rfl rfl <| sk rfl rfl <| sk rfl rfl <| sk rfl rfl <| sk rfl rfl <| sk rfl rfl <| pf0 rfl rfl rfl <| mv0 rfl rfl <| sk rfl rfl <| sk rfl rfl <| sk rfl rfl <| sk rfl rfl <| sk rfl rfl <| sk rfl rfl <| sk rfl rfl <| pf0 rfl rfl rfl <| .fin <| WP.cond rfl nofun (fun _ => ?_)
  refine WP.skip <| WP.seq <| rg 9 192 <| lds 1 rfl trivial rfl sg26 rfl rfl <| lds 0 rfl trivial rfl sg43 rfl rfl <| Dv.gh (gh_frz (E' := [(0, vS a0), (1, sl GMade.K a1), (4, eq (.pointer (some ⟨b433, 0, none⟩))), (5, eq (.pointer (some ⟨b434, 0, none⟩))), (6, vI x436), (7, eq (.pointer (some ⟨b451, 0, none⟩))), (8, eq v454.1), (9, vI p455.1), (10, vI p456.1), (11, vI t461), (23, vB (decide (x436 < 9))), (58, vB p455.2.1), (75, vB p456.2.1), (95, vB (decide (0 < x436))), (124, vB false), (129, agg [vS x437, sl Event.K x438]), (130, agg [vS t443, vS a0, sl strK p456.2.2, vS (⟨#[]⟩ : ByteArray), vS t446, vI t449])]) (l' := [blk b451 43 [vS t443, vS a0, sl strK p456.2.2, vS (⟨#[]⟩ : ByteArray), vS t446, vI t449], blk b434 26 [vS x437, sl Event.K x438], blk b433 26 [vS (⟨#[]⟩ : ByteArray), eq (.slice none 0 0)], own boolK v454.1 p455.2.2] ++ F) 4 rfl (cve_cons rfl cv_id (cve_cons rfl cv_id (cve_cons rfl cv_id (cve_cons rfl cv_id (cve_cons rfl cv_id (cve_cons rfl cv_id (cve_cons rfl cv_id (cve_cons rfl cv_id (cve_cons rfl cv_id (cve_cons rfl cv_id (cve_cons rfl cv_id (cve_cons rfl cv_id (cve_cons rfl cv_id (cve_cons rfl cv_id (cve_cons rfl cv_id (cve_cons rfl cv_id (cve_cons rfl (cv_agg (.cons cv_id (.cons cv_id (.cons cv_eq (.cons cv_id (.cons cv_id (.cons cv_id .nil))))))) cve_nil))))))))))))))))) (all2_app (.cons (cva_blk (.cons cv_id (.cons cv_id (.cons cv_eq (.cons cv_id (.cons cv_id (.cons cv_id .nil))))))) (.cons cva_id (.cons cva_id (.cons cva_id .nil)))) fun _ => cva_id)) (fun _ _ => ?_)
  refine el H fun t481 h482 H => cl rfl cal46 rfl (concourseref07_Add.c h482) <| mv0 rfl rfl <| ex0 rfl trivial rfl rfl <| ex0 rfl trivial rfl rfl <| al rfl trivial zc26 nofun fun b483 => sx 0 rfl trivial rfl rfl cA sz26 rfl rfl rfl nofun ?_
  refine as0 rfl rfl <| .fin <| rg 2 2 <| lds 0 rfl trivial rfl sg26 rfl rfl <| sx 2 rfl trivial rfl rfl cA sz26 rfl rfl rfl nofun ?_
  refine .fin ?_
  replace H := Gets.out H
  refine ng (sg 5 [0,1,2,3,4] 2) fun _ _ => ?_
  exact jn ((p455.1, p456.1, p455.2.1, p456.2.1, decide (0 < x436), t481.1.fRoom, t481.1.fL, p455.2.2), v454) H
 replace H := Gets.ct H c463
 refine fb rfl (gg rfl) rfl fa26_1 <| ld 1 rfl (gg rfl) rfl sc24 rfl rfl <| mvg rfl rfl rfl <| gr H fun g464 H => Dv.ixr rfl (gg rfl) rfl rfl Tryz.underlying24 Tryz.underlying43 c43 g464.1 g464.2 <| fr rfl (gg rfl) rfl fa43_5 rfl <| ldR rfl (gg rfl) rfl sc3 rfl <| bng rfl rfl rfl rfl run_eq <| pt0 rfl rfl rfl <| mv0 rfl rfl ?_
 cases c465 : (((Event.K.at x438 t461).fDoes) == 0)
 ·
  replace H := Gets.cf H c465
  refine sk rfl rfl <| sk rfl rfl <| sk rfl rfl <| sk rfl rfl <| sk rfl rfl <| sk rfl rfl <| sk rfl rfl <| pf0 rfl rfl rfl <| .fin <| WP.cond rfl nofun (fun _ => ?_)
  refine WP.skip <| WP.seq <| rg 9 192 <| lds 1 rfl trivial rfl sg26 rfl rfl <| lds 0 rfl trivial rfl sg43 rfl rfl <| Dv.gh (gh_frz (E' := [(0, vS a0), (1, sl GMade.K a1), (4, eq (.pointer (some ⟨b433, 0, none⟩))), (5, eq (.pointer (some ⟨b434, 0, none⟩))), (6, vI x436), (7, eq (.pointer (some ⟨b451, 0, none⟩))), (8, eq v454.1), (9, vI p455.1), (10, vI p456.1), (11, vI t461), (23, vB (decide (x436 < 9))), (58, vB p455.2.1), (75, vB p456.2.1), (95, vB (decide (0 < x436))), (124, vB false), (129, agg [vS x437, sl Event.K x438]), (130, agg [vS t443, vS a0, sl strK p456.2.2, vS (⟨#[]⟩ : ByteArray), vS t446, vI t449])]) (l' := [blk b451 43 [vS t443, vS a0, sl strK p456.2.2, vS (⟨#[]⟩ : ByteArray), vS t446, vI t449], blk b434 26 [vS x437, sl Event.K x438], blk b433 26 [vS (⟨#[]⟩ : ByteArray), eq (.slice none 0 0)], own boolK v454.1 p455.2.2] ++ F) 4 rfl (cve_cons rfl cv_id (cve_cons rfl cv_id (cve_cons rfl cv_id (cve_cons rfl cv_id (cve_cons rfl cv_id (cve_cons rfl cv_id (cve_cons rfl cv_id (cve_cons rfl cv_id (cve_cons rfl cv_id (cve_cons rfl cv_id (cve_cons rfl cv_id (cve_cons rfl cv_id (cve_cons rfl cv_id (cve_cons rfl cv_id (cve_cons rfl cv_id (cve_cons rfl cv_id (cve_cons rfl (cv_agg (.cons cv_id (.cons cv_id (.cons cv_eq (.cons cv_id (.cons cv_id (.cons cv_id .nil))))))) cve_nil))))))))))))))))) (all2_app (.cons (cva_blk (.cons cv_id (.cons cv_id (.cons cv_eq (.cons cv_id (.cons cv_id (.cons cv_id .nil))))))) (.cons cva_id (.cons cva_id (.cons cva_id .nil)))) fun _ => cva_id)) (fun _ _ => ?_)
  refine el H fun t477 h478 H => cl rfl cal46 rfl (concourseref07_Add.c h478) <| mv0 rfl rfl <| ex0 rfl trivial rfl rfl <| ex0 rfl trivial rfl rfl <| al rfl trivial zc26 nofun fun b479 => sx 0 rfl trivial rfl rfl cA sz26 rfl rfl rfl nofun ?_
  refine as0 rfl rfl <| .fin <| rg 2 2 <| lds 0 rfl trivial rfl sg26 rfl rfl <| sx 2 rfl trivial rfl rfl cA sz26 rfl rfl rfl nofun ?_
  refine .fin ?_
  replace H := Gets.out H
  refine ng (sg 5 [0,1,2,3,4] 2) fun _ _ => ?_
  exact jn ((p455.1, p456.1, p455.2.1, p456.2.1, decide (0 < x436), t477.1.fRoom, t477.1.fL, p455.2.2), v454) H
 replace H := Gets.ct H c465
 refine fb rfl (gg rfl) rfl fa26_1 <| ld 1 rfl (gg rfl) rfl sc24 rfl rfl <| mvg rfl rfl rfl <| gr H fun g466 H => Dv.ixr rfl (gg rfl) rfl rfl Tryz.underlying24 Tryz.underlying43 c43 g466.1 g466.2 <| fr rfl (gg rfl) rfl fa43_3 rfl <| ldR rfl (gg rfl) rfl sc9 rfl <| bng rfl rfl rfl rfl run_seq <| pt0 rfl rfl rfl <| .fin <| cd H rfl (fun _ H => ?_) (fun _ H => ?_)
 rotate_left
 ·
  refine WP.skip <| WP.seq <| rg 9 192 <| lds 1 rfl trivial rfl sg26 rfl rfl <| lds 0 rfl trivial rfl sg43 rfl rfl <| Dv.gh (gh_frz (E' := [(0, vS a0), (1, sl GMade.K a1), (4, eq (.pointer (some ⟨b433, 0, none⟩))), (5, eq (.pointer (some ⟨b434, 0, none⟩))), (6, vI x436), (7, eq (.pointer (some ⟨b451, 0, none⟩))), (8, eq v454.1), (9, vI p455.1), (10, vI p456.1), (11, vI t461), (23, vB (decide (x436 < 9))), (58, vB p455.2.1), (75, vB p456.2.1), (95, vB (decide (0 < x436))), (124, vB (decide (((Event.K.at x438 t461).fThread) = (⟨#[]⟩ : ByteArray)))), (129, agg [vS x437, sl Event.K x438]), (130, agg [vS t443, vS a0, sl strK p456.2.2, vS (⟨#[]⟩ : ByteArray), vS t446, vI t449])]) (l' := [blk b451 43 [vS t443, vS a0, sl strK p456.2.2, vS (⟨#[]⟩ : ByteArray), vS t446, vI t449], blk b434 26 [vS x437, sl Event.K x438], blk b433 26 [vS (⟨#[]⟩ : ByteArray), eq (.slice none 0 0)], own boolK v454.1 p455.2.2] ++ F) 4 rfl (cve_cons rfl cv_id (cve_cons rfl cv_id (cve_cons rfl cv_id (cve_cons rfl cv_id (cve_cons rfl cv_id (cve_cons rfl cv_id (cve_cons rfl cv_id (cve_cons rfl cv_id (cve_cons rfl cv_id (cve_cons rfl cv_id (cve_cons rfl cv_id (cve_cons rfl cv_id (cve_cons rfl cv_id (cve_cons rfl cv_id (cve_cons rfl cv_id (cve_cons rfl cv_id (cve_cons rfl (cv_agg (.cons cv_id (.cons cv_id (.cons cv_eq (.cons cv_id (.cons cv_id (.cons cv_id .nil))))))) cve_nil))))))))))))))))) (all2_app (.cons (cva_blk (.cons cv_id (.cons cv_id (.cons cv_eq (.cons cv_id (.cons cv_id (.cons cv_id .nil))))))) (.cons cva_id (.cons cva_id (.cons cva_id .nil)))) fun _ => cva_id)) (fun _ _ => ?_)
  refine el H fun t473 h474 H => cl rfl cal46 rfl (concourseref07_Add.c h474) <| mv0 rfl rfl <| ex0 rfl trivial rfl rfl <| ex0 rfl trivial rfl rfl <| al rfl trivial zc26 nofun fun b475 => sx 0 rfl trivial rfl rfl cA sz26 rfl rfl rfl nofun ?_
  refine as0 rfl rfl <| .fin <| rg 2 2 <| lds 0 rfl trivial rfl sg26 rfl rfl <| sx 2 rfl trivial rfl rfl cA sz26 rfl rfl rfl nofun ?_
  refine .fin ?_
  replace H := Gets.out H
  refine ng (sg 5 [0,1,2,3,4] 2) fun _ _ => ?_
  exact jn ((p455.1, p456.1, p455.2.1, p456.2.1, decide (0 < x436), t473.1.fRoom, t473.1.fL, p455.2.2), v454) H
 refine rg 4 8 <| mv0 rfl rfl <| el H fun t468 h469 H => cl rfl cal45 rfl (concourseref01_EventOf.c h469) <| fb rfl trivial rfl fa43_3 <| sx 0 rfl trivial rfl rfl cE sz9 rfl rfl rfl nofun ?_
 refine .fin <| WP.seq <| rg 9 192 <| lds 1 rfl trivial rfl sg26 rfl rfl <| lds 0 rfl trivial rfl sg43 rfl rfl <| Dv.gh (gh_frz (E' := [(0, vS a0), (1, sl GMade.K a1), (4, eq (.pointer (some ⟨b433, 0, none⟩))), (5, eq (.pointer (some ⟨b434, 0, none⟩))), (6, vI x436), (7, eq (.pointer (some ⟨b451, 0, none⟩))), (8, eq v454.1), (9, vI p455.1), (10, vI p456.1), (11, vI t461), (23, vB (decide (x436 < 9))), (58, vB p455.2.1), (75, vB p456.2.1), (95, vB (decide (0 < x436))), (124, vB (decide (((Event.K.at x438 t461).fThread) = (⟨#[]⟩ : ByteArray)))), (129, agg [vS x437, sl Event.K x438]), (130, agg [vS t443, vS a0, sl strK p456.2.2, vS t468, vS t446, vI t449])]) (l' := [blk b451 43 [vS t443, vS a0, sl strK p456.2.2, vS t468, vS t446, vI t449], blk b434 26 [vS x437, sl Event.K x438], blk b433 26 [vS (⟨#[]⟩ : ByteArray), eq (.slice none 0 0)], own boolK v454.1 p455.2.2] ++ F) 4 rfl (cve_cons rfl cv_id (cve_cons rfl cv_id (cve_cons rfl cv_id (cve_cons rfl cv_id (cve_cons rfl cv_id (cve_cons rfl cv_id (cve_cons rfl cv_id (cve_cons rfl cv_id (cve_cons rfl cv_id (cve_cons rfl cv_id (cve_cons rfl cv_id (cve_cons rfl cv_id (cve_cons rfl cv_id (cve_cons rfl cv_id (cve_cons rfl cv_id (cve_cons rfl cv_id (cve_cons rfl (cv_agg (.cons cv_id (.cons cv_id (.cons cv_eq (.cons cv_id (.cons cv_id (.cons cv_id .nil))))))) cve_nil))))))))))))))))) (all2_app (.cons (cva_blk (.cons cv_id (.cons cv_id (.cons cv_eq (.cons cv_id (.cons cv_id (.cons cv_id .nil))))))) (.cons cva_id (.cons cva_id (.cons cva_id .nil)))) fun _ => cva_id)) (fun _ _ => ?_)
 refine el H fun t470 h471 H => cl rfl cal46 rfl (concourseref07_Add.c h471) <| mv0 rfl rfl <| ex0 rfl trivial rfl rfl <| ex0 rfl trivial rfl rfl <| al rfl trivial zc26 nofun fun b472 => sx 0 rfl trivial rfl rfl cA sz26 rfl rfl rfl nofun ?_
 refine as0 rfl rfl <| .fin <| rg 2 2 <| lds 0 rfl trivial rfl sg26 rfl rfl <| sx 2 rfl trivial rfl rfl cA sz26 rfl rfl rfl nofun ?_
 refine .fin ?_
 replace H := Gets.out H
 refine ng (sg 5 [0,1,2,3,4] 2) fun _ _ => ?_
 exact jn ((p455.1, p456.1, p455.2.1, p456.2.1, decide (0 < x436), t470.1.fRoom, t470.1.fL, p455.2.2), v454) H
theorem concourselaw09_build.c {k : Nat} {a0 : List GMade} {r : (Option DDag) × RDag} (h : concourselaw09_build.f k a0 = some r) : Tr Tryz.prog 7 [sl GMade.K a0] [] (γ := OV) (fun _ => True) (fun g => tup [eq g.1, agg (RDag.enc r.2)]) (fun g => [optO DDag.O g r.1]) := by
 unfold concourselaw09_build.f at h
 refine Tr.body Tryz.func7 (c := _) rfl Tryz.ntmps7 (Nat.le_of_ble_eq_true rfl) fun R0 F => ?_
 replace h := Gets.of h
 have H := h
 clear h
 refine WP.seq <| rg 2 2 <| as0 rfl rfl <| al rfl trivial zc26 nofun fun b525 => .fin <| WP.seq <| rg 4 12 <| mv0 rfl rfl <| el H fun t526 h527 H => cl rfl cal29 rfl (concourseref07_Made.c h527) <| al rfl trivial zc26 nofun fun b528 => sx 0 rfl trivial rfl rfl cA sz26 rfl rfl rfl nofun ?_
 refine .fin <| WP.seq <| rg 4 4 <| fb rfl trivial rfl fa26_0 <| ld 0 rfl trivial rfl sc9 rfl rfl <| el H fun t529 h530 H => cx 2 [0,1] cal16 (dag_New.c h530) nofun fun g531 _ => ?_
 refine as0 rfl rfl <| .fin <| WP.seq <| WP.seq <| rg 2 0 <| mv0 rfl rfl <| Dv.peq0 DDag.nn rfl trivial rfl rfl Tryz.underlying23 (mem_at 0 rfl) <| .fin <| WP.cond rfl nofun (fun _ => ?_)
 refine WP.skip <| WP.seqr H id (fun p533 : Int × Bool × DDag => [(0, sl GMade.K a0), (2, eq (.pointer none)), (3, eq (.pointer (some ⟨b525, 0, none⟩))), (4, eq (.pointer (some ⟨b528, 0, none⟩))), (5, eq g531.1), (6, vI p533.1), (13, vB false), (19, vB p533.2.1)]) (fun p533 : Int × Bool × DDag => [blk b528 26 (RDag.enc t526), blk b525 26 [vS (⟨#[]⟩ : ByteArray), eq (.slice none 0 0)], DDag.O g531 p533.2.2] ++ F) (fun p533 H => ?_) (fun H => ?_)
 ·
  refine WP.seq <| dg Tryz.checked.mixed 4 8 <| mv0 rfl rfl <| lds 0 rfl trivial rfl sg26 rfl rfl <| as0 rfl rfl <| sx 1 rfl trivial rfl rfl cA sz26 rfl rfl rfl pB ?_
  refine .fin ?_
  obtain rfl := Gets.out H
  exact rt i2 rfl g531 3 [0,1,2] 2 (.cons (res_tmp rfl) (.cons (res_cells rfl Tryz.underlying26 rfl c26 (mem_at 1 rfl) rfl) .nil))
 refine WP.seq <| rg 1 0 <| as0 rfl rfl <| .fin <| WP.block <| wg (sg 3 [1,2,0] 0) fun _ _ => ?_
 refine lp (fun j_ (p542 : Int × DDag) => concourselaw09_build.l0 k t526 j_ p542.1 p542.2) (0, t529) H (fun p542 => [(0, sl GMade.K a0), (2, eq (.pointer none)), (3, eq (.pointer (some ⟨b525, 0, none⟩))), (4, eq (.pointer (some ⟨b528, 0, none⟩))), (5, eq g531.1), (6, vI p542.1), (13, vB false)]) (fun p542 => [blk b528 26 (RDag.enc t526), blk b525 26 [vS (⟨#[]⟩ : ByteArray), eq (.slice none 0 0)], DDag.O g531 p542.2] ++ F) ?_
 rintro j_ ⟨x534, x535⟩ H
 rcases j_ with _ | j541
 ·
  exact (Gets.no H).elim
 replace H : Gets (concourselaw09_build.l0 k t526 (j541 + 1) x534 x535) _ := H
 rw [concourselaw09_build.l0] at H
 refine WP.seq <| WP.seq <| rg 5 0 <| mv0 rfl rfl <| fb rfl trivial rfl fa26_1 <| ld 0 rfl trivial rfl sc24 rfl rfl <| Dv.lenl rfl trivial rfl Tryz.underlying24 <| bn0 rfl rfl rfl run_lt <| .fin <| cd H rfl (fun _ H => ?_) (fun _ H => ?_)
 rotate_left
 ·
  refine WP.exit ?_
  replace H := Gets.out H
  exact jn (x534, decide (x534 < (t526.fL.length : Int)), x535) H
 refine WP.skip <| WP.seq <| WP.block <| WP.seq <| rg 8 64 <| mv0 rfl rfl <| fb rfl trivial rfl fa26_1 <| ld 0 rfl trivial rfl sc24 rfl rfl <| mv0 rfl rfl <| gr H fun g537 H => Dv.ixr rfl trivial rfl rfl Tryz.underlying24 Tryz.underlying43 c43 g537.1 g537.2 <| ldsR rfl trivial rfl sg43 rfl <| el H fun t538 h539 H => cx 3 [2,0,1] cal17 (dag_Dag_Add.c h539 (p0_ := g531)) nofun fun _ _ => ?_
 refine bn0 rfl rfl rfl run_ne <| .fin <| cd H rfl (fun _ H => ?_) (fun _ H => ?_)
 rotate_left
 ·
  refine WP.skip <| rg 3 0 <| mv0 rfl rfl <| bn0 rfl rfl rfl run_add <| as0 rfl rfl <| .fin <| ng (sg 3 [1,2,0] 0) fun _ _ => ?_
  exact bk j541 (w64 (x534 + 1), t538.2) H
 refine WP.seq <| dg Tryz.checked.mixed 3 4 <| lds 1 rfl trivial rfl sg26 rfl rfl <| as0 rfl rfl <| sx 2 rfl trivial rfl rfl cA sz26 rfl rfl rfl pB ?_
 refine .fin <| wg (st_nilP (O := DDag.O)) fun _ _ => ?_
 replace H := Gets.outr H
 obtain rfl := Gets.out H
 exact rt i2 rfl nilP 4 [1,2,3,0] 3 (.cons (res_tmp rfl) (.cons (res_cells rfl Tryz.underlying26 rfl c26 (mem_at 3 rfl) rfl) .nil))
theorem concourseref09_Put.c {k : Nat} {a0 : List ByteArray} {a1 : ByteArray} {r : (List ByteArray)} (h : concourseref09_Put.f k a0 a1 = some r) : Tr Tryz.prog 22 [sl strK a0, vS a1] [] (γ := OV) (fun _ => True) (fun g => eq g.1) (fun g => [own strK g.1 r]) := by
 unfold concourseref09_Put.f at h
 refine Tr.body Tryz.func22 (c := _) rfl Tryz.ntmps22 (Nat.le_of_ble_eq_true rfl) fun R0 F => ?_
 replace h := Gets.of h
 have H := h
 clear h
 refine WP.seq <| rg 1 0 <| as0 rfl rfl <| .fin <| WP.seq <| rg 1 0 <| as0 rfl rfl <| .fin <| WP.seq <| rg 1 0 <| as0 rfl rfl <| .fin <| WP.seqn H (fun q569 : (Bool × Int × Bool × (List ByteArray)) × OV => q569.1) (fun q569 : (Bool × Int × Bool × (List ByteArray)) × OV => [(0, sl strK a0), (1, vS a1), (4, eq (.slice none 0 0)), (5, eq q569.2.1), (6, vB q569.1.1), (7, vI q569.1.2.1), (11, vB q569.1.2.2.1)]) (fun q569 : (Bool × Int × Bool × (List ByteArray)) × OV => [own strK q569.2.1 q569.1.2.2.2] ++ F) (fun q569 H => ?_) (fun H => ?_)
 ·
  obtain ⟨p543, v544⟩ := q569
  refine WP.seq <| WP.seq <| rg 2 0 <| mv0 rfl rfl <| un0 rfl rfl (run_not _) <| .fin <| cd H rfl (fun _ H => ?_) (fun _ H => ?_)
  rotate_left
  ·
   refine WP.skip <| WP.seq <| rg 2 0 <| mv0 rfl rfl <| as0 rfl rfl <| .fin ?_
   obtain rfl := Gets.out H
   exact rt i2 rfl v544 1 [0] 0 (.cons (res_tmp rfl) .nil)
  refine rg 5 8 <| mv0 rfl rfl <| mv0 rfl rfl <| Dv.lit strK ([a1] : List ByteArray) (css := [[vS a1]]) rfl trivial Tryz.underlying29 Tryz.underlying9 c9 z9 rfl (by decide) (by decide) rfl ⟨(cells_one (one_eq rfl)), trivial⟩ rfl rfl rfl <| gr H fun g546 H => ap strK 0 ([a1] : List ByteArray) src_sl Tryz.underlying29 (.inr ⟨_, Tryz.underlying29⟩) inf9 g546 nofun fun v547 => ?_
  refine as0 rfl rfl <| .fin <| WP.seq <| rg 2 0 <| mv0 rfl rfl <| as0 rfl rfl <| .fin ?_
  obtain rfl := Gets.out H
  exact rt i2 rfl v547 1 [0] 0 (.cons (res_tmp rfl) .nil)
 refine WP.seq <| rg 1 0 <| as0 rfl rfl <| .fin <| WP.block <| wg (st_nil strK none) fun _ _ => ?_
 refine wg (sg 1 [0] 0) fun _ _ => ?_
 refine lp (fun j_ (p568 : Bool × Int × (List ByteArray) × OV) => concourseref09_Put.l0 k a0 a1 j_ p568.1 p568.2.1 p568.2.2.1) (false, 0, ([] : List ByteArray), nilV) H (fun p568 => [(0, sl strK a0), (1, vS a1), (4, eq (.slice none 0 0)), (5, eq p568.2.2.2.1), (6, vB p568.1), (7, vI p568.2.1)]) (fun p568 => [own strK p568.2.2.2.1 p568.2.2.1] ++ F) ?_
 rintro j_ ⟨x548, x549, x550, v551⟩ H
 rcases j_ with _ | j567
 ·
  exact (Gets.no H).elim
 replace H : Gets (concourseref09_Put.l0 k a0 a1 (j567 + 1) x548 x549 x550) _ := H
 rw [concourseref09_Put.l0] at H
 refine WP.seq <| WP.seq <| rg 4 0 <| mv0 rfl rfl <| mv0 rfl rfl <| Dv.lenl rfl trivial rfl Tryz.underlying29 <| bn0 rfl rfl rfl run_lt <| .fin <| cd H rfl (fun _ H => ?_) (fun _ H => ?_)
 rotate_left
 ·
  refine WP.exit ?_
  replace H := Gets.out H
  exact jn ((x548, x549, decide (x549 < (a0.length : Int)), x550), v551) H
 refine WP.skip <| WP.seq <| WP.block <| WP.seqn H (fun q566 : (Bool × Bool × (List ByteArray)) × OV => q566.1) (fun q566 : (Bool × Bool × (List ByteArray)) × OV => [(0, sl strK a0), (1, vS a1), (4, eq (.slice none 0 0)), (5, eq q566.2.1), (6, vB q566.1.1), (7, vI x549), (11, vB (decide (x549 < (a0.length : Int)))), (23, vB q566.1.2.1)]) (fun q566 : (Bool × Bool × (List ByteArray)) × OV => [own strK q566.2.1 q566.1.2.2] ++ F) (fun q566 H => ?_) (fun H => ?_)
 ·
  obtain ⟨p553, v554⟩ := q566
  refine WP.seq <| rg 6 0 <| mv0 rfl rfl <| mv0 rfl rfl <| gr H fun g555 H => Dv.ixr rfl trivial rfl rfl Tryz.underlying29 Tryz.underlying9 c9 g555.1 g555.2 <| ldR rfl trivial rfl sc9 rfl <| mv0 rfl rfl <| bn0 rfl rfl rfl run_sne <| .fin <| cd H rfl (fun _ H => ?_) (fun _ H => ?_)
  rotate_left
  ·
   exact WP.skip <| rg 3 0 <| mv0 rfl rfl <| bn0 rfl rfl rfl run_add <| as0 rfl rfl <| .fin <| bk j567 (p553.1, w64 (x549 + 1), p553.2.2, v554) H
  refine rg 8 64 <| mv0 rfl rfl <| mv0 rfl rfl <| mv0 rfl rfl <| gr H fun g557 H => Dv.ixr rfl trivial rfl rfl Tryz.underlying29 Tryz.underlying9 c9 g557.1 g557.2 <| ldR rfl trivial rfl sc9 rfl <| Dv.lit strK ([strK.at a0 x549] : List ByteArray) (css := [[vS (strK.at a0 x549)]]) rfl trivial Tryz.underlying29 Tryz.underlying9 c9 z9 rfl (by decide) (by decide) rfl ⟨(cells_one (one_eq rfl)), trivial⟩ rfl rfl rfl <| gr H fun g558 H => ap strK 0 ([strK.at a0 x549] : List ByteArray) src_sl Tryz.underlying29 (.inr ⟨_, Tryz.underlying29⟩) inf9 g558 nofun fun v559 => ?_
  exact as0 rfl rfl <| .fin <| rg 3 0 <| mv0 rfl rfl <| bn0 rfl rfl rfl run_add <| as0 rfl rfl <| .fin <| bk j567 (p553.1, w64 (x549 + 1), p553.2.2 ++ ([strK.at a0 x549] : List ByteArray), v559) H
 refine WP.seq <| rg 10 0 <| mv0 rfl rfl <| un0 rfl rfl (run_not _) <| mv0 rfl rfl ?_
 cases c560 : !x548
 ·
  replace H := Gets.cf H c560
  refine sk rfl rfl <| sk rfl rfl <| sk rfl rfl <| sk rfl rfl <| sk rfl rfl <| sk rfl rfl <| pf0 rfl rfl rfl <| .fin <| WP.cond rfl nofun (fun _ => ?_)
  refine WP.skip ?_
  replace H := Gets.out H
  exact jn ((x548, false, x550), v551) H
 replace H := Gets.ct H c560
 refine mvg rfl rfl rfl <| mvg rfl rfl rfl <| mvg rfl rfl rfl <| gr H fun g561 H => Dv.ixr rfl (gg rfl) rfl rfl Tryz.underlying29 Tryz.underlying9 c9 g561.1 g561.2 <| ldR rfl (gg rfl) rfl sc9 rfl <| bng rfl rfl rfl rfl run_sle <| pt0 rfl rfl rfl <| .fin <| cd H rfl (fun _ H => ?_) (fun _ H => ?_)
 rotate_left
 ·
  refine WP.skip ?_
  replace H := Gets.out H
  exact jn ((x548, !sLt (strK.at a0 x549) a1, x550), v551) H
 refine WP.seq <| rg 5 8 <| mv0 rfl rfl <| mv0 rfl rfl <| Dv.lit strK ([a1] : List ByteArray) (css := [[vS a1]]) rfl trivial Tryz.underlying29 Tryz.underlying9 c9 z9 rfl (by decide) (by decide) rfl ⟨(cells_one (one_eq rfl)), trivial⟩ rfl rfl rfl <| gr H fun g563 H => ap strK 0 ([a1] : List ByteArray) src_sl Tryz.underlying29 (.inr ⟨_, Tryz.underlying29⟩) inf9 g563 nofun fun v564 => ?_
 refine as0 rfl rfl <| .fin <| rg 1 0 <| as0 rfl rfl <| .fin ?_
 replace H := Gets.out H
 exact jn ((true, !sLt (strK.at a0 x549) a1, x550 ++ ([a1] : List ByteArray)), v564) H
theorem concourseref07_Before.c {a0 : Pos} {a1 : Pos} {r : Bool} (h : concourseref07_Before.f a0 a1 = some r) : Pt Tryz.prog 43 [agg (Pos.enc a0), agg (Pos.enc a1)] (vB r) := by
 unfold concourseref07_Before.f at h
 refine (Tr.body Tryz.func43 (c := _) rfl Tryz.ntmps43 (Nat.le_of_ble_eq_true rfl) fun R0 F => ?_).pt
 replace h := Gets.of h
 have H := h
 clear h
 refine WP.seq <| rg 3 3 <| Dv.box rfl trivial rfl cA nofun fun b570 => Dv.box rfl trivial rfl cA nofun fun b571 => as0 rfl rfl <| .fin <| WP.seq <| rg 20 0 <| fb rfl trivial rfl fa73_0 <| ld 1 rfl trivial rfl sc3 rfl rfl <| fb rfl trivial rfl fa73_0 <| ld 0 rfl trivial rfl sc3 rfl rfl <| bn0 rfl rfl rfl run_lt <| mv0 rfl rfl ?_
 cases c572 : decide (a0.fDepth < a1.fDepth)
 rotate_left
 ·
  replace H := Gets.ct H c572
  refine sk rfl rfl <| sk rfl rfl <| sk rfl rfl <| sk rfl rfl <| sk rfl rfl <| sk rfl rfl <| sku rfl rfl <| sku rfl rfl <| sku rfl rfl <| sku rfl rfl <| sku rfl rfl <| sk rfl rfl <| pt0 rfl rfl rfl <| as0 rfl rfl <| .fin ?_
  obtain rfl := Gets.out H
  exact rt i2 rfl () 2 [0,1] 2 (.cons (res_tmp rfl) .nil)
 replace H := Gets.cf H c572
 refine fb rfl (gg rfl) rfl fa73_0 <| ld 1 rfl (gg rfl) rfl sc3 rfl rfl <| fb rfl (gg rfl) rfl fa73_0 <| ld 0 rfl (gg rfl) rfl sc3 rfl rfl <| bng rfl rfl rfl rfl run_eq <| mvg rfl rfl rfl ?_
 cases c573 : (a0.fDepth == a1.fDepth)
 ·
  replace H := Gets.cf H c573
  refine sk rfl rfl <| sk rfl rfl <| sk rfl rfl <| sk rfl rfl <| sk rfl rfl <| pfg rfl rfl rfl rfl <| pf0 rfl rfl rfl <| as0 rfl rfl <| .fin ?_
  obtain rfl := Gets.out H
  exact rt i2 rfl () 2 [0,1] 2 (.cons (res_tmp rfl) .nil)
 replace H := Gets.ct H c573
 refine fb rfl (gg rfl) rfl fa73_1 <| ld 1 rfl (gg rfl) rfl sc9 rfl rfl <| fb rfl (gg rfl) rfl fa73_1 <| ld 0 rfl (gg rfl) rfl sc9 rfl rfl <| bng rfl rfl rfl rfl run_slt <| ptg rfl rfl rfl rfl <| pf0 rfl rfl rfl <| as0 rfl rfl <| .fin ?_
 obtain rfl := Gets.out H
 exact rt i2 rfl () 2 [0,1] 2 (.cons (res_tmp rfl) .nil)
theorem concourseref07_Depth.c {k : Nat} {a0 : RDag} {a1 : ByteArray} {r : Int} (h : concourseref07_Depth.f k a0 a1 = some r) : Pt Tryz.prog 60 [agg (RDag.enc a0), vS a1] (vI r) := by
 unfold concourseref07_Depth.f at h
 refine (Tr.body Tryz.func60 (c := _) rfl Tryz.ntmps60 (Nat.le_of_ble_eq_true rfl) fun R0 F => ?_).pt
 replace h := Gets.of h
 have H := h
 clear h
 refine WP.seq <| rg 2 1 <| Dv.box rfl trivial rfl cA nofun fun b574 => as0 rfl rfl <| .fin <| WP.seq <| rg 4 0 <| lds 0 rfl trivial rfl sg26 rfl rfl <| mv0 rfl rfl <| el H fun t575 h576 H => cl rfl cal62 rfl (concourseref07_At.c h576) <| as0 rfl rfl <| .fin <| WP.seq <| WP.seq <| rg 2 0 <| mv0 rfl rfl <| bn0 rfl rfl rfl run_lt <| .fin <| cd H rfl (fun _ H => ?_) (fun _ H => ?_)
 ·
  refine WP.seq <| rg 1 0 <| as0 rfl rfl <| .fin ?_
  obtain rfl := Gets.out H
  exact rt i2 rfl () 1 [0] 1 (.cons (res_tmp rfl) .nil)
 refine WP.skip <| WP.seq <| rg 4 4 <| mv0 rfl rfl <| bn0 rfl rfl rfl run_add <| gr H fun g578 H => ?_
 obtain ⟨ti579, ti579a, ti579b, ti579c, ti579d⟩ := inf3
 refine Dv.mks (Kd := (intK .i64)) (0 : Int) rfl trivial rfl rfl Tryz.underlying75 ti579a ti579b ti579c ti579d rfl (by decide) rfl g578 nofun (fun v580 => ?_)
 refine as0 rfl rfl <| .fin <| WP.seqn H id (fun p581 : Int × Bool × (List Int) => [(0, agg (RDag.enc a0)), (1, vS a1), (2, eq (.pointer (some ⟨b574, 0, none⟩))), (4, vI 0), (5, vI t575), (6, eq v580.1), (7, vI p581.1), (13, vB (decide (t575 < 0))), (19, vB p581.2.1)]) (fun p581 : Int × Bool × (List Int) => [blk b574 26 (RDag.enc a0), own (intK .i64) v580.1 p581.2.2] ++ F) (fun p581 H => ?_) (fun H => ?_)
 ·
  refine WP.seq <| rg 5 0 <| mv0 rfl rfl <| mv0 rfl rfl <| gr H fun g582 H => ?_
  have h583 : t575.toNat < p581.2.2.length := idx_lt g582
  refine Dv.ixw rfl trivial rfl (mem_at 1 rfl) rfl Tryz.underlying75 Tryz.underlying3 c3 g582.1 g582.2 <| Dv.ldw (j := t575.toNat) (f := 0) (p := vI (p581.2.2.getD t575.toNat default)) rfl trivial rfl (mem_at 1 rfl) h583 Tryz.underlying3 rfl rfl <| as0 rfl rfl <| .fin ?_
  obtain rfl := Gets.out H
  exact rt i2 rfl () 2 [0,1] 2 (.cons (res_tmp rfl) .nil)
 refine WP.seq <| rg 1 0 <| as0 rfl rfl <| .fin <| WP.block <| wg (sg 2 [1,0] 0) fun _ _ => ?_
 refine lp (fun j_ (p605 : Int × (List Int)) => concourseref07_Depth.l0 k a0 t575 j_ p605.1 p605.2) (0, List.replicate (w64 (t575 + 1)).toNat (0 : Int)) H (fun p605 => [(0, agg (RDag.enc a0)), (1, vS a1), (2, eq (.pointer (some ⟨b574, 0, none⟩))), (4, vI 0), (5, vI t575), (6, eq v580.1), (7, vI p605.1), (13, vB (decide (t575 < 0)))]) (fun p605 => [blk b574 26 (RDag.enc a0), own (intK .i64) v580.1 p605.2] ++ F) ?_
 rintro j_ ⟨x584, x585⟩ H
 rcases j_ with _ | j604
 ·
  exact (Gets.no H).elim
 replace H : Gets (concourseref07_Depth.l0 k a0 t575 (j604 + 1) x584 x585) _ := H
 rw [concourseref07_Depth.l0] at H
 refine WP.seq <| WP.seq <| rg 3 0 <| mv0 rfl rfl <| mv0 rfl rfl <| bn0 rfl rfl rfl run_le <| .fin <| cd H rfl (fun _ H => ?_) (fun _ H => ?_)
 rotate_left
 ·
  refine WP.exit ?_
  replace H := Gets.out H
  exact jn (x584, decide (x584 ≤ t575), x585) H
 refine WP.skip <| WP.seqn H id (fun p587 : Int × Bool × (List Int) => [(0, agg (RDag.enc a0)), (1, vS a1), (2, eq (.pointer (some ⟨b574, 0, none⟩))), (4, vI 0), (5, vI t575), (6, eq v580.1), (7, vI x584), (8, vI p587.1), (13, vB (decide (t575 < 0))), (19, vB (decide (x584 ≤ t575))), (30, vB p587.2.1)]) (fun p587 : Int × Bool × (List Int) => [blk b574 26 (RDag.enc a0), own (intK .i64) v580.1 p587.2.2] ++ F) (fun p587 H => ?_) (fun H => ?_)
 ·
  exact rg 3 0 <| mv0 rfl rfl <| bn0 rfl rfl rfl run_add <| as0 rfl rfl <| .fin <| bk j604 (w64 (x584 + 1), p587.2.2) H
 refine WP.block <| WP.seq <| rg 1 0 <| as0 rfl rfl <| .fin <| WP.block <| wg (sg 2 [0,1] 0) fun _ _ => ?_
 refine lp (fun j_ (p603 : Int × (List Int)) => concourseref07_Depth.l1 k a0 x584 j_ p603.1 p603.2) (0, x585) H (fun p603 => [(0, agg (RDag.enc a0)), (1, vS a1), (2, eq (.pointer (some ⟨b574, 0, none⟩))), (4, vI 0), (5, vI t575), (6, eq v580.1), (7, vI x584), (8, vI p603.1), (13, vB (decide (t575 < 0))), (19, vB (decide (x584 ≤ t575)))]) (fun p603 => [blk b574 26 (RDag.enc a0), own (intK .i64) v580.1 p603.2] ++ F) ?_
 rintro j_ ⟨x588, x589⟩ H
 rcases j_ with _ | j602
 ·
  exact (Gets.no H).elim
 replace H : Gets (concourseref07_Depth.l1 k a0 x584 (j602 + 1) x588 x589) _ := H
 rw [concourseref07_Depth.l1] at H
 refine WP.seq <| WP.seq <| rg 9 0 <| mv0 rfl rfl <| fb rfl trivial rfl fa26_1 <| ld 0 rfl trivial rfl sc24 rfl rfl <| mv0 rfl rfl <| gr H fun g590 H => Dv.ixr rfl trivial rfl rfl Tryz.underlying24 Tryz.underlying43 c43 g590.1 g590.2 <| fr rfl trivial rfl fa43_2 rfl <| ldR rfl trivial rfl sc29 rfl <| Dv.lenl rfl trivial rfl Tryz.underlying29 <| bn0 rfl rfl rfl run_lt <| .fin <| cd H rfl (fun _ H => ?_) (fun _ H => ?_)
 rotate_left
 ·
  refine WP.exit ?_
  replace H := Gets.out H
  exact jn (x588, decide (x588 < (((Event.K.at a0.fL x584).fParents).length : Int)), x589) H
 refine WP.skip <| WP.seq <| WP.block <| dg Tryz.checked.mixed 24 8388608 <| mv0 rfl rfl <| mv0 rfl rfl <| mv0 rfl rfl <| mv0 rfl rfl <| gr H fun g592 H => ?_
 have h593 : x584.toNat < x589.length := idx_lt g592
 refine Dv.ixw rfl trivial rfl (mem_at 1 rfl) rfl Tryz.underlying75 Tryz.underlying3 c3 g592.1 g592.2 <| Dv.ldw (j := x584.toNat) (f := 0) (p := vI (x589.getD x584.toNat default)) rfl trivial rfl (mem_at 1 rfl) h593 Tryz.underlying3 rfl rfl <| mv0 rfl rfl <| lds 0 rfl trivial rfl sg26 rfl rfl <| fb rfl trivial rfl fa26_1 <| ld 0 rfl trivial rfl sc24 rfl rfl <| mv0 rfl rfl <| gr H fun g594 H => Dv.ixr rfl trivial rfl rfl Tryz.underlying24 Tryz.underlying43 c43 g594.1 g594.2 <| fr rfl trivial rfl fa43_2 rfl <| ldR rfl trivial rfl sc29 rfl <| mv0 rfl rfl <| gr H fun g595 H => Dv.ixr rfl trivial rfl rfl Tryz.underlying29 Tryz.underlying9 c9 g595.1 g595.2 <| ldR rfl trivial rfl sc9 rfl <| el H fun t596 h597 H => cl rfl cal62 rfl (concourseref07_At.c h597) <| gr H fun g598 H => ?_
 have h599 : t596.toNat < x589.length := idx_lt g598
 refine Dv.ixw rfl trivial rfl (mem_at 1 rfl) rfl Tryz.underlying75 Tryz.underlying3 c3 g598.1 g598.2 <| Dv.ldw (j := t596.toNat) (f := 0) (p := vI (x589.getD t596.toNat default)) rfl trivial rfl (mem_at 1 rfl) h599 Tryz.underlying3 rfl rfl <| bn0 rfl rfl rfl run_add <| Dv.maxi rfl trivial rfl rfl <| gr H fun g600 H => ?_
 have h601 : x584.toNat < x589.length := idx_lt g600
 exact Dv.ixw rfl trivial rfl (mem_at 1 rfl) rfl Tryz.underlying75 Tryz.underlying3 c3 g600.1 g600.2 <| Dv.stw (j := x584.toNat) (f := 0) (jj := 1) (max (x589.getD x584.toNat default) (w64 ((x589.getD t596.toNat default) + 1))) rfl trivial rfl rfl (cells_one (one_eq rfl)) Tryz.underlying3 c3 rfl rfl h601 (Nat.le_of_ble_eq_true rfl) rfl (fun _ => pend_bits (by kernel_rfl)) <| .fin <| rg 3 0 <| mv0 rfl rfl <| bn0 rfl rfl rfl run_add <| as0 rfl rfl <| .fin <| bk j602 (w64 (x588 + 1), x589.set x584.toNat (max (x589.getD x584.toNat default) (w64 ((x589.getD t596.toNat default) + 1)))) H
theorem concourseref07_Position.c {k : Nat} {a0 : RDag} {a1 : ByteArray} {r : Pos} (h : concourseref07_Position.f k a0 a1 = some r) : Pt Tryz.prog 44 [agg (RDag.enc a0), vS a1] (agg (Pos.enc r)) := by
 unfold concourseref07_Position.f at h
 refine (Tr.body Tryz.func44 (c := _) rfl Tryz.ntmps44 (Nat.le_of_ble_eq_true rfl) fun R0 F => ?_).pt
 replace h := Gets.of h
 have H := h
 clear h
 refine WP.seq <| rg 2 3 <| Dv.box rfl trivial rfl cA nofun fun b606 => al rfl trivial zc73 nofun fun b607 => .fin <| WP.seq <| rg 6 32 <| lds 1 rfl trivial rfl sg26 rfl rfl <| mv0 rfl rfl <| el H fun t608 h609 H => cl rfl cal60 rfl (concourseref07_Depth.c h609) <| mv0 rfl rfl <| Dv.bld (css := [[vI t608], [vS a1]]) rfl trivial Tryz.underlying73 pl73 z73 rfl ⟨(cells_one (one_eq rfl)), ⟨(cells_one (one_eq rfl)), trivial⟩⟩ rfl rfl <| sx 0 rfl trivial rfl rfl cA sz73 rfl rfl rfl nofun ?_
 refine .fin ?_
 obtain rfl := Gets.out H
 exact rt i2 rfl () 2 [0,1] 2 (.cons (res_cells rfl Tryz.underlying73 rfl c73 (mem_at 0 rfl) rfl) .nil)
theorem concourseref09_Last.c {k : Nat} {a0 : RDag} {a1 : ByteArray} {r : Event × Bool} (h : concourseref09_Last.f k a0 a1 = some r) : Pt Tryz.prog 25 [agg (RDag.enc a0), vS a1] (tup [agg (Event.enc r.1), vB r.2]) := by
 unfold concourseref09_Last.f at h
 refine (Tr.body Tryz.func25 (c := _) rfl Tryz.ntmps25 (Nat.le_of_ble_eq_true rfl) fun R0 F => ?_).pt
 replace h := Gets.of h
 have H := h
 clear h
 refine WP.seq <| rg 3 3 <| Dv.box rfl trivial rfl cA nofun fun b610 => al rfl trivial zc43 nofun fun b611 => as0 rfl rfl <| .fin <| WP.seq <| rg 1 0 <| as0 rfl rfl <| .fin <| WP.seqn H id (fun p612 : Int × Int × Bool => [(0, agg (RDag.enc a0)), (1, vS a1), (2, eq (.pointer (some ⟨b610, 0, none⟩))), (4, eq (.pointer (some ⟨b611, 0, none⟩))), (5, vB false), (6, vI p612.1), (7, vI p612.2.1), (13, vB p612.2.2)]) (fun p612 : Int × Int × Bool => [blk b611 43 [vS (⟨#[]⟩ : ByteArray), vS (⟨#[]⟩ : ByteArray), eq (.slice none 0 0), vS (⟨#[]⟩ : ByteArray), vS (⟨#[]⟩ : ByteArray), vI 0], blk b610 26 (RDag.enc a0)] ++ F) (fun p612 H => ?_) (fun H => ?_)
 ·
  refine WP.seq <| WP.seq <| rg 2 0 <| mv0 rfl rfl <| bn0 rfl rfl rfl run_lt <| .fin <| cd H rfl (fun _ H => ?_) (fun _ H => ?_)
  ·
   refine WP.seq <| rg 3 2 <| Dv.bld (css := []) rfl trivial Tryz.underlying43 pl43 z43 rfl trivial rfl rfl <| sx 0 rfl trivial rfl rfl cA sz43 rfl rfl rfl nofun ?_
   refine as0 rfl rfl <| .fin ?_
   obtain rfl := Gets.out H
   exact rt i2 rfl () 2 [0,1] 2 (.cons (res_wk (res_cells rfl Tryz.underlying43 rfl c43 (mem_at 0 rfl) rfl) (wk_agg (.cons wk_id (.cons wk_id (.cons wk_nil (.cons wk_id (.cons wk_id (.cons wk_id .nil)))))))) (.cons (res_tmp rfl) .nil))
  refine WP.skip <| WP.seq <| rg 7 32 <| fb rfl trivial rfl fa26_1 <| ld 1 rfl trivial rfl sc24 rfl rfl <| mv0 rfl rfl <| gr H fun g614 H => Dv.ixr rfl trivial rfl rfl Tryz.underlying24 Tryz.underlying43 c43 g614.1 g614.2 <| ldsR rfl trivial rfl sg43 rfl <| sx 0 rfl trivial rfl rfl cA sz43 rfl rfl rfl nofun ?_
  refine as0 rfl rfl <| .fin ?_
  obtain rfl := Gets.out H
  exact rt i2 rfl () 2 [0,1] 2 (.cons (res_cells rfl Tryz.underlying43 rfl c43 (mem_at 0 rfl) rfl) (.cons (res_tmp rfl) .nil))
 refine WP.seq <| rg 1 0 <| as0 rfl rfl <| .fin <| WP.block <| wg (sg 2 [0,1] 0) fun _ _ => ?_
 refine lp (fun j_ (p634 : Int × Int) => concourseref09_Last.l0 k a0 a1 j_ p634.1 p634.2) ((-1), 0) H (fun p634 => [(0, agg (RDag.enc a0)), (1, vS a1), (2, eq (.pointer (some ⟨b610, 0, none⟩))), (4, eq (.pointer (some ⟨b611, 0, none⟩))), (5, vB false), (6, vI p634.1), (7, vI p634.2)]) (fun p634 => [blk b611 43 [vS (⟨#[]⟩ : ByteArray), vS (⟨#[]⟩ : ByteArray), eq (.slice none 0 0), vS (⟨#[]⟩ : ByteArray), vS (⟨#[]⟩ : ByteArray), vI 0], blk b610 26 (RDag.enc a0)] ++ F) ?_
 rintro j_ ⟨x615, x616⟩ H
 rcases j_ with _ | j633
 ·
  exact (Gets.no H).elim
 replace H : Gets (concourseref09_Last.l0 k a0 a1 (j633 + 1) x615 x616) _ := H
 rw [concourseref09_Last.l0] at H
 refine WP.seq <| WP.seq <| rg 5 0 <| mv0 rfl rfl <| fb rfl trivial rfl fa26_1 <| ld 1 rfl trivial rfl sc24 rfl rfl <| Dv.lenl rfl trivial rfl Tryz.underlying24 <| bn0 rfl rfl rfl run_lt <| .fin <| cd H rfl (fun _ H => ?_) (fun _ H => ?_)
 rotate_left
 ·
  refine WP.exit ?_
  replace H := Gets.out H
  exact jn (x615, x616, decide (x616 < (a0.fL.length : Int))) H
 refine WP.skip <| WP.seq <| WP.block <| WP.seq <| WP.seq <| rg 17 0 <| fb rfl trivial rfl fa26_1 <| ld 1 rfl trivial rfl sc24 rfl rfl <| mv0 rfl rfl <| gr H fun g618 H => Dv.ixr rfl trivial rfl rfl Tryz.underlying24 Tryz.underlying43 c43 g618.1 g618.2 <| fr rfl trivial rfl fa43_4 rfl <| ldR rfl trivial rfl sc9 rfl <| mv0 rfl rfl <| bn0 rfl rfl rfl run_sne <| mv0 rfl rfl ?_
 cases c619 : !decide (((Event.K.at a0.fL x616).fUser) = a1)
 rotate_left
 ·
  replace H := Gets.ct H c619
  refine sk rfl rfl <| sk rfl rfl <| sk rfl rfl <| sk rfl rfl <| sk rfl rfl <| sk rfl rfl <| sk rfl rfl <| pt0 rfl rfl rfl <| .fin <| WP.cond rfl (fun _ => ?_) nofun
  exact WP.exit <| rg 3 0 <| mv0 rfl rfl <| bn0 rfl rfl rfl run_add <| as0 rfl rfl <| .fin <| bk j633 (x615, w64 (x616 + 1)) H
 replace H := Gets.cf H c619
 refine fb rfl (gg rfl) rfl fa26_1 <| ld 1 rfl (gg rfl) rfl sc24 rfl rfl <| mvg rfl rfl rfl <| gr H fun g621 H => Dv.ixr rfl (gg rfl) rfl rfl Tryz.underlying24 Tryz.underlying43 c43 g621.1 g621.2 <| fr rfl (gg rfl) rfl fa43_5 rfl <| ldR rfl (gg rfl) rfl sc3 rfl <| bng rfl rfl rfl rfl run_eq <| pf0 rfl rfl rfl <| .fin <| cd H rfl (fun _ H => ?_) (fun _ H => ?_)
 ·
  exact WP.exit <| rg 3 0 <| mv0 rfl rfl <| bn0 rfl rfl rfl run_add <| as0 rfl rfl <| .fin <| bk j633 (x615, w64 (x616 + 1)) H
 refine WP.skip <| WP.seq <| WP.seq <| rg 2 0 <| mv0 rfl rfl <| bn0 rfl rfl rfl run_lt <| .fin <| cd H rfl (fun _ H => ?_) (fun _ H => ?_)
 ·
  exact WP.seq <| rg 2 0 <| mv0 rfl rfl <| as0 rfl rfl <| .fin <| WP.exit <| rg 3 0 <| mv0 rfl rfl <| bn0 rfl rfl rfl run_add <| as0 rfl rfl <| .fin <| bk j633 (x616, w64 (x616 + 1)) H
 refine WP.skip <| WP.seq <| dg Tryz.checked.mixed 18 0 <| lds 1 rfl trivial rfl sg26 rfl rfl <| fb rfl trivial rfl fa26_1 <| ld 1 rfl trivial rfl sc24 rfl rfl <| mv0 rfl rfl <| gr H fun g624 H => Dv.ixr rfl trivial rfl rfl Tryz.underlying24 Tryz.underlying43 c43 g624.1 g624.2 <| fr rfl trivial rfl fa43_0 rfl <| ldR rfl trivial rfl sc9 rfl <| el H fun t625 h626 H => cl rfl cal44 rfl (concourseref07_Position.c h626) <| lds 1 rfl trivial rfl sg26 rfl rfl <| fb rfl trivial rfl fa26_1 <| ld 1 rfl trivial rfl sc24 rfl rfl <| mv0 rfl rfl <| gr H fun g627 H => Dv.ixr rfl trivial rfl rfl Tryz.underlying24 Tryz.underlying43 c43 g627.1 g627.2 <| fr rfl trivial rfl fa43_0 rfl <| ldR rfl trivial rfl sc9 rfl <| el H fun t628 h629 H => cl rfl cal44 rfl (concourseref07_Position.c h629) <| el H fun t630 h631 H => cl rfl cal43 rfl (concourseref07_Before.c h631) <| as0 rfl rfl <| .fin <| WP.seq <| rg 1 0 <| mv0 rfl rfl <| .fin <| cd H rfl (fun _ H => ?_) (fun _ H => ?_)
 rotate_left
 ·
  exact WP.skip <| rg 3 0 <| mv0 rfl rfl <| bn0 rfl rfl rfl run_add <| as0 rfl rfl <| .fin <| bk j633 (x615, w64 (x616 + 1)) H
 exact rg 2 0 <| mv0 rfl rfl <| as0 rfl rfl <| .fin <| rg 3 0 <| mv0 rfl rfl <| bn0 rfl rfl rfl run_add <| as0 rfl rfl <| .fin <| bk j633 (x616, w64 (x616 + 1)) H
theorem concourseref09_Joined.c {k : Nat} {a0 : RDag} {a1 : ByteArray} {r : Bool} (h : concourseref09_Joined.f k a0 a1 = some r) : Pt Tryz.prog 26 [agg (RDag.enc a0), vS a1] (vB r) := by
 unfold concourseref09_Joined.f at h
 refine (Tr.body Tryz.func26 (c := _) rfl Tryz.ntmps26 (Nat.le_of_ble_eq_true rfl) fun R0 F => ?_).pt
 replace h := Gets.of h
 have H := h
 clear h
 refine WP.seq <| rg 2 1 <| Dv.box rfl trivial rfl cA nofun fun b635 => as0 rfl rfl <| .fin <| WP.seq <| rg 9 192 <| lds 0 rfl trivial rfl sg26 rfl rfl <| mv0 rfl rfl <| el H fun t636 h637 H => cl rfl cal25 rfl (concourseref09_Last.c h637) <| mv0 rfl rfl <| ex0 rfl trivial rfl rfl <| ex0 rfl trivial rfl rfl <| al rfl trivial zc43 nofun fun b638 => sx 0 rfl trivial rfl rfl cA sz43 rfl rfl rfl nofun ?_
 refine as0 rfl rfl <| .fin <| WP.seq <| rg 7 0 <| mv0 rfl rfl <| mv0 rfl rfl ?_
 cases c639 : t636.2
 ·
  replace H := Gets.cf H c639
  refine sk rfl rfl <| sk rfl rfl <| sk rfl rfl <| pf0 rfl rfl rfl <| as0 rfl rfl <| .fin ?_
  obtain rfl := Gets.out H
  exact rt i2 rfl () 2 [0,1] 2 (.cons (res_tmp rfl) .nil)
 replace H := Gets.ct H c639
 refine fb rfl (gg rfl) rfl fa43_5 <| ld 0 rfl (gg rfl) rfl sc3 rfl rfl <| bng rfl rfl rfl rfl run_eq <| pt0 rfl rfl rfl <| as0 rfl rfl <| .fin ?_
 obtain rfl := Gets.out H
 exact rt i2 rfl () 2 [0,1] 2 (.cons (res_tmp rfl) .nil)
theorem concourseref09_Users.c {k : Nat} {a0 : RDag} {r : (List ByteArray)} (h : concourseref09_Users.f k a0 = some r) : Tr Tryz.prog 28 [agg (RDag.enc a0)] [] (γ := OV) (fun _ => True) (fun g => eq g.1) (fun g => [own strK g.1 r]) := by
 unfold concourseref09_Users.f at h
 refine Tr.body Tryz.func28 (c := _) rfl Tryz.ntmps28 (Nat.le_of_ble_eq_true rfl) fun R0 F => ?_
 replace h := Gets.of h
 have H := h
 clear h
 refine WP.seq <| rg 2 1 <| Dv.box rfl trivial rfl cA nofun fun b640 => as0 rfl rfl <| .fin <| WP.seq <| rg 1 0 <| as0 rfl rfl <| .fin <| WP.seqn H (fun q657 : (Int × Bool × (List ByteArray)) × OV => q657.1) (fun q657 : (Int × Bool × (List ByteArray)) × OV => [(0, agg (RDag.enc a0)), (1, eq (.pointer (some ⟨b640, 0, none⟩))), (2, eq (.slice none 0 0)), (3, eq q657.2.1), (4, vI q657.1.1), (10, vB q657.1.2.1)]) (fun q657 : (Int × Bool × (List ByteArray)) × OV => [blk b640 26 (RDag.enc a0), own strK q657.2.1 q657.1.2.2] ++ F) (fun q657 H => ?_) (fun H => ?_)
 ·
  obtain ⟨p641, v642⟩ := q657
  refine WP.seq <| rg 2 0 <| mv0 rfl rfl <| as0 rfl rfl <| .fin ?_
  obtain rfl := Gets.out H
  exact rt i2 rfl v642 2 [0,1] 1 (.cons (res_tmp rfl) .nil)
 refine WP.seq <| rg 1 0 <| as0 rfl rfl <| .fin <| WP.block <| wg (st_nil strK none) fun _ _ => ?_
 refine wg (sg 2 [1,0] 0) fun _ _ => ?_
 refine lp (fun j_ (p656 : Int × (List ByteArray) × OV) => concourseref09_Users.l0 k a0 j_ p656.1 p656.2.1) (0, ([] : List ByteArray), nilV) H (fun p656 => [(0, agg (RDag.enc a0)), (1, eq (.pointer (some ⟨b640, 0, none⟩))), (2, eq (.slice none 0 0)), (3, eq p656.2.2.1), (4, vI p656.1)]) (fun p656 => [blk b640 26 (RDag.enc a0), own strK p656.2.2.1 p656.2.1] ++ F) ?_
 rintro j_ ⟨x643, x644, v645⟩ H
 rcases j_ with _ | j655
 ·
  exact (Gets.no H).elim
 replace H : Gets (concourseref09_Users.l0 k a0 (j655 + 1) x643 x644) _ := H
 rw [concourseref09_Users.l0] at H
 refine WP.seq <| WP.seq <| rg 5 0 <| mv0 rfl rfl <| fb rfl trivial rfl fa26_1 <| ld 0 rfl trivial rfl sc24 rfl rfl <| Dv.lenl rfl trivial rfl Tryz.underlying24 <| bn0 rfl rfl rfl run_lt <| .fin <| cd H rfl (fun _ H => ?_) (fun _ H => ?_)
 rotate_left
 ·
  refine WP.exit ?_
  replace H := Gets.out H
  exact jn ((x643, decide (x643 < (a0.fL.length : Int)), x644), v645) H
 refine WP.skip <| WP.seq <| WP.block <| WP.seq <| dg Tryz.checked.mixed 9 0 <| lds 0 rfl trivial rfl sg26 rfl rfl <| fb rfl trivial rfl fa26_1 <| ld 0 rfl trivial rfl sc24 rfl rfl <| mv0 rfl rfl <| gr H fun g647 H => Dv.ixr rfl trivial rfl rfl Tryz.underlying24 Tryz.underlying43 c43 g647.1 g647.2 <| fr rfl trivial rfl fa43_4 rfl <| ldR rfl trivial rfl sc9 rfl <| el H fun t648 h649 H => cl rfl cal26 rfl (concourseref09_Joined.c h649) <| as0 rfl rfl <| .fin <| WP.seq <| rg 1 0 <| mv0 rfl rfl <| .fin <| cd H rfl (fun _ H => ?_) (fun _ H => ?_)
 rotate_left
 ·
  exact WP.skip <| rg 3 0 <| mv0 rfl rfl <| bn0 rfl rfl rfl run_add <| as0 rfl rfl <| .fin <| bk j655 (w64 (x643 + 1), x644, v645) H
 refine rg 9 128 <| mv0 rfl rfl <| fb rfl trivial rfl fa26_1 <| ld 0 rfl trivial rfl sc24 rfl rfl <| mv0 rfl rfl <| gr H fun g651 H => Dv.ixr rfl trivial rfl rfl Tryz.underlying24 Tryz.underlying43 c43 g651.1 g651.2 <| fr rfl trivial rfl fa43_4 rfl <| ldR rfl trivial rfl sc9 rfl <| el H fun t652 h653 H => cx 2 [1,0] cal22 (Tr.lend [own strK v645.1 x644] (concourseref09_Put.c h653) (.cons (lt_own (mem_at 0 rfl)) (.cons lt_id .nil)) (fun _ => flat_eq) (fun _ => (flatAs_cons (flatA_own flatK_str) flatAs_nil))) nofun fun g654 _ => ?_
 refine as0 rfl rfl <| .fin <| rg 3 0 <| mv0 rfl rfl <| bn0 rfl rfl rfl run_add <| as0 rfl rfl <| .fin <| ng (sg 3 [0,2,1] 1) fun _ _ => ?_
 exact bk j655 (w64 (x643 + 1), t652, g654) H
theorem concourseref01_Home.c {k : Nat} {a0 : ByteArray} {r : ByteArray} (h : concourseref01_Home.f k a0 = some r) : Pt Tryz.prog 47 [vS a0] (vS r) := by
 unfold concourseref01_Home.f at h
 refine (Tr.body Tryz.func47 (c := _) rfl Tryz.ntmps47 (Nat.le_of_ble_eq_true rfl) fun R0 F => ?_).pt
 replace h := Gets.of h
 have H := h
 clear h
 refine WP.seq <| rg 1 0 <| as0 rfl rfl <| .fin <| WP.seq <| rg 3 0 <| mv0 rfl rfl <| el H fun t658 h659 H => cl rfl cal63 rfl (concourseref01_Named.c h659) <| as0 rfl rfl <| .fin <| WP.seq <| rg 3 0 <| mv0 rfl rfl <| el H fun t660 h661 H => cl rfl cal63 rfl (concourseref01_Named.c h661) <| as0 rfl rfl <| .fin <| WP.seq <| WP.seq <| rg 6 0 <| mv0 rfl rfl <| un0 rfl rfl (run_not _) <| mv0 rfl rfl ?_
 cases c662 : !t658
 ·
  replace H := Gets.cf H c662
  refine sk rfl rfl <| sk rfl rfl <| pf0 rfl rfl rfl <| .fin <| WP.cond rfl nofun (fun _ => ?_)
  refine WP.skip <| WP.seq <| rg 6 0 <| mv0 rfl rfl <| mv0 rfl rfl <| el H fun t668 h669 H => cl rfl cal64 rfl (concourseref01_colon.c h669) <| bn0 rfl rfl rfl run_add <| gr H fun g670 H => Dv.sss rfl trivial rfl Tryz.underlying9 (bdE_some rfl g670.1) bdE_none g670.2.1 g670.2.2 <| as0 rfl rfl <| .fin ?_
  obtain rfl := Gets.out H
  exact rt i2 rfl () 0 [] 0 (.cons (res_tmp rfl) .nil)
 replace H := Gets.ct H c662
 refine mvg rfl rfl rfl <| ung rfl rfl rfl (run_not _) <| pt0 rfl rfl rfl <| .fin <| cd H rfl (fun _ H => ?_) (fun _ H => ?_)
 ·
  refine WP.seq <| rg 1 0 <| as0 rfl rfl <| .fin ?_
  obtain rfl := Gets.out H
  exact rt i2 rfl () 0 [] 0 (.cons (res_tmp rfl) .nil)
 refine WP.skip <| WP.seq <| rg 6 0 <| mv0 rfl rfl <| mv0 rfl rfl <| el H fun t664 h665 H => cl rfl cal64 rfl (concourseref01_colon.c h665) <| bn0 rfl rfl rfl run_add <| gr H fun g666 H => Dv.sss rfl trivial rfl Tryz.underlying9 (bdE_some rfl g666.1) bdE_none g666.2.1 g666.2.2 <| as0 rfl rfl <| .fin ?_
 obtain rfl := Gets.out H
 exact rt i2 rfl () 0 [] 0 (.cons (res_tmp rfl) .nil)
theorem concourseref09_Homes.c {k : Nat} {a0 : List ByteArray} {r : (List ByteArray)} (h : concourseref09_Homes.f k a0 = some r) : Tr Tryz.prog 30 [sl strK a0] [] (γ := OV) (fun _ => True) (fun g => eq g.1) (fun g => [own strK g.1 r]) := by
 unfold concourseref09_Homes.f at h
 refine Tr.body Tryz.func30 (c := _) rfl Tryz.ntmps30 (Nat.le_of_ble_eq_true rfl) fun R0 F => ?_
 replace h := Gets.of h
 have H := h
 clear h
 refine WP.seq <| rg 1 0 <| as0 rfl rfl <| .fin <| WP.seq <| rg 1 0 <| as0 rfl rfl <| .fin <| WP.seqn H (fun q686 : (Int × Bool × (List ByteArray)) × OV => q686.1) (fun q686 : (Int × Bool × (List ByteArray)) × OV => [(0, sl strK a0), (2, eq (.slice none 0 0)), (3, eq q686.2.1), (4, vI q686.1.1), (9, vB q686.1.2.1)]) (fun q686 : (Int × Bool × (List ByteArray)) × OV => [own strK q686.2.1 q686.1.2.2] ++ F) (fun q686 H => ?_) (fun H => ?_)
 ·
  obtain ⟨p671, v672⟩ := q686
  refine WP.seq <| rg 2 0 <| mv0 rfl rfl <| as0 rfl rfl <| .fin ?_
  obtain rfl := Gets.out H
  exact rt i2 rfl v672 1 [0] 0 (.cons (res_tmp rfl) .nil)
 refine WP.seq <| rg 1 0 <| as0 rfl rfl <| .fin <| WP.block <| wg (st_nil strK none) fun _ _ => ?_
 refine wg (sg 1 [0] 0) fun _ _ => ?_
 refine lp (fun j_ (p685 : Int × (List ByteArray) × OV) => concourseref09_Homes.l0 k a0 j_ p685.1 p685.2.1) (0, ([] : List ByteArray), nilV) H (fun p685 => [(0, sl strK a0), (2, eq (.slice none 0 0)), (3, eq p685.2.2.1), (4, vI p685.1)]) (fun p685 => [own strK p685.2.2.1 p685.2.1] ++ F) ?_
 rintro j_ ⟨x673, x674, v675⟩ H
 rcases j_ with _ | j684
 ·
  exact (Gets.no H).elim
 replace H : Gets (concourseref09_Homes.l0 k a0 (j684 + 1) x673 x674) _ := H
 rw [concourseref09_Homes.l0] at H
 refine WP.seq <| WP.seq <| rg 4 0 <| mv0 rfl rfl <| mv0 rfl rfl <| Dv.lenl rfl trivial rfl Tryz.underlying29 <| bn0 rfl rfl rfl run_lt <| .fin <| cd H rfl (fun _ H => ?_) (fun _ H => ?_)
 rotate_left
 ·
  refine WP.exit ?_
  replace H := Gets.out H
  exact jn ((x673, decide (x673 < (a0.length : Int)), x674), v675) H
 refine WP.skip <| WP.seq <| WP.block <| WP.seq <| rg 6 0 <| mv0 rfl rfl <| mv0 rfl rfl <| gr H fun g677 H => Dv.ixr rfl trivial rfl rfl Tryz.underlying29 Tryz.underlying9 c9 g677.1 g677.2 <| ldR rfl trivial rfl sc9 rfl <| el H fun t678 h679 H => cl rfl cal47 rfl (concourseref01_Home.c h679) <| as0 rfl rfl <| .fin <| WP.seq <| rg 2 0 <| mv0 rfl rfl <| bn0 rfl rfl rfl run_sne <| .fin <| cd H rfl (fun _ H => ?_) (fun _ H => ?_)
 rotate_left
 ·
  exact WP.skip <| rg 3 0 <| mv0 rfl rfl <| bn0 rfl rfl rfl run_add <| as0 rfl rfl <| .fin <| bk j684 (w64 (x673 + 1), x674, v675) H
 refine rg 4 4 <| mv0 rfl rfl <| mv0 rfl rfl <| el H fun t681 h682 H => cx 1 [0] cal22 (Tr.lend [own strK v675.1 x674] (concourseref09_Put.c h682) (.cons (lt_own (mem_at 0 rfl)) (.cons lt_id .nil)) (fun _ => flat_eq) (fun _ => (flatAs_cons (flatA_own flatK_str) flatAs_nil))) nofun fun g683 _ => ?_
 refine as0 rfl rfl <| .fin <| rg 3 0 <| mv0 rfl rfl <| bn0 rfl rfl rfl run_add <| as0 rfl rfl <| .fin <| ng (sg 2 [0,1] 1) fun _ _ => ?_
 exact bk j684 (w64 (x673 + 1), t681, g683) H
theorem concourseref09_Servers.c {k : Nat} {a0 : RDag} {r : (List ByteArray)} (h : concourseref09_Servers.f k a0 = some r) : Tr Tryz.prog 8 [agg (RDag.enc a0)] [] (γ := OV) (fun _ => True) (fun g => eq g.1) (fun g => [own strK g.1 r]) := by
 unfold concourseref09_Servers.f at h
 refine Tr.body Tryz.func8 (c := _) rfl Tryz.ntmps8 (Nat.le_of_ble_eq_true rfl) fun R0 F => ?_
 replace h := Gets.of h
 have H := h
 clear h
 refine WP.seq <| rg 2 1 <| Dv.box rfl trivial rfl cA nofun fun b687 => as0 rfl rfl <| .fin <| WP.seq <| rg 4 6 <| lds 0 rfl trivial rfl sg26 rfl rfl <| el H fun t688 h689 H => cx 1 [0] cal28 (concourseref09_Users.c h689) nofun fun g690 _ => ?_
 refine el H fun t691 h692 H => cx 2 [0,1] cal30 (Tr.lend [own strK g690.1 t688] (concourseref09_Homes.c h692) (.cons (lt_own (mem_at 0 rfl)) .nil) (fun _ => flat_eq) (fun _ => (flatAs_cons (flatA_own flatK_str) flatAs_nil))) nofun fun g693 _ => ?_
 refine as0 rfl rfl <| .fin ?_
 obtain rfl := Gets.out H
 exact rt i2 rfl g693 3 [0,2,1] 2 (.cons (res_tmp rfl) .nil)
theorem concourseref01_Few.c {a0 : ByteArray} {a1 : Int} {r : ByteArray} (h : concourseref01_Few.f a0 a1 = some r) : Pt Tryz.prog 9 [vS a0, vI a1] (vS r) := by
 unfold concourseref01_Few.f at h
 refine (Tr.body Tryz.func9 (c := _) rfl Tryz.ntmps9 (Nat.le_of_ble_eq_true rfl) fun R0 F => ?_).pt
 replace h := Gets.of h
 have H := h
 clear h
 refine WP.seq <| rg 1 0 <| as0 rfl rfl <| .fin <| WP.seq <| WP.seq <| rg 4 0 <| mv0 rfl rfl <| Dv.lens rfl trivial rfl Tryz.underlying9 <| mv0 rfl rfl <| bn0 rfl rfl rfl run_gt <| .fin <| cd H rfl (fun _ H => ?_) (fun _ H => ?_)
 rotate_left
 ·
  refine WP.skip <| WP.seq <| rg 2 0 <| mv0 rfl rfl <| as0 rfl rfl <| .fin ?_
  obtain rfl := Gets.out H
  exact rt i2 rfl () 0 [] 0 (.cons (res_tmp rfl) .nil)
 refine WP.seq <| rg 4 0 <| mv0 rfl rfl <| mv0 rfl rfl <| gr H fun g695 H => Dv.sss rfl trivial rfl Tryz.underlying9 bdE_none (bdE_some rfl g695.1) g695.2.1 g695.2.2 <| as0 rfl rfl <| .fin ?_
 obtain rfl := Gets.out H
 exact rt i2 rfl () 0 [] 0 (.cons (res_tmp rfl) .nil)
theorem cmp_Or_int.c {k : Nat} {a0 : List Int} {r : Int} (h : cmp_Or_int.f k a0 = some r) : Pt Tryz.prog 96 [sl (intK .i64) a0] (vI r) := by
 unfold cmp_Or_int.f at h
 refine (Tr.body Tryz.func96 (c := _) rfl Tryz.ntmps96 (Nat.le_of_ble_eq_true rfl) fun R0 F => ?_).pt
 replace h := Gets.of h
 have H := h
 clear h
 refine WP.seq <| rg 1 0 <| as0 rfl rfl <| .fin <| WP.seq <| rg 1 0 <| as0 rfl rfl <| .fin <| WP.seqr H id (fun p696 : Int × Bool => [(0, sl (intK .i64) a0), (2, vI 0), (3, vI 0), (6, sl (intK .i64) a0), (7, vI (a0.length : Int)), (8, vI p696.1), (9, vB p696.2)]) (fun p696 : Int × Bool => F) (fun p696 H => ?_) (fun H => ?_)
 ·
  refine WP.seq <| rg 2 0 <| mv0 rfl rfl <| as0 rfl rfl <| .fin ?_
  obtain rfl := Gets.out H
  exact rt i2 rfl () 0 [] 0 (.cons (res_tmp rfl) .nil)
 refine WP.seq <| rg 3 0 <| mv0 rfl rfl <| Dv.lenl rfl trivial rfl Tryz.underlying75 <| mv0 rfl rfl <| .fin <| WP.block <| wg (sg 0 [] 0) fun _ _ => ?_
 refine lp (fun j_ (p702 : Int) => cmp_Or_int.l0 k a0 j_ p702) 0 H (fun p702 => [(0, sl (intK .i64) a0), (2, vI 0), (3, vI 0), (6, sl (intK .i64) a0), (7, vI (a0.length : Int)), (8, vI p702)]) (fun p702 => F) ?_
 rintro j_ x697 H
 rcases j_ with _ | j701
 ·
  exact (Gets.no H).elim
 replace H : Gets (cmp_Or_int.l0 k a0 (j701 + 1) x697) _ := H
 rw [cmp_Or_int.l0] at H
 refine WP.seq <| rg 1 0 <| bn0 rfl rfl rfl run_lt <| .fin <| WP.seq <| cd H rfl (fun _ H => ?_) (fun _ H => ?_)
 rotate_left
 ·
  refine WP.exit ?_
  replace H := Gets.out H
  exact jn (x697, decide (x697 < (a0.length : Int))) H
 refine WP.skip <| WP.seq <| WP.block <| WP.seq <| rg 3 0 <| gr H fun g699 H => Dv.ixr rfl trivial rfl rfl Tryz.underlying75 Tryz.underlying3 c3 g699.1 g699.2 <| ldR rfl trivial rfl sc3 rfl <| as0 rfl rfl <| .fin <| WP.seq <| rg 3 0 <| mv0 rfl rfl <| mv0 rfl rfl <| bn0 rfl rfl rfl run_ne <| .fin <| cd H rfl (fun _ H => ?_) (fun _ H => ?_)
 rotate_left
 ·
  exact WP.skip <| rg 2 0 <| bn0 rfl rfl rfl run_add <| mv0 rfl rfl <| .fin <| bk j701 (w64 (x697 + 1)) H
 refine WP.seq <| rg 2 0 <| mv0 rfl rfl <| as0 rfl rfl <| .fin ?_
 replace H := Gets.outr H
 obtain rfl := Gets.out H
 exact rt i2 rfl () 0 [] 0 (.cons (res_tmp rfl) .nil)
theorem cmp_isNaN_int.c {a0 : Int} {r : Bool} (h : cmp_isNaN_int.f a0 = some r) : Pt Tryz.prog 114 [vI a0] (vB r) := by
 unfold cmp_isNaN_int.f at h
 refine (Tr.body Tryz.func114 (c := _) rfl Tryz.ntmps114 (Nat.le_of_ble_eq_true rfl) fun R0 F => ?_).pt
 replace h := Gets.of h
 have H := h
 clear h
 refine WP.seq <| rg 1 0 <| as0 rfl rfl <| .fin <| WP.seq <| rg 4 0 <| mv0 rfl rfl <| mv0 rfl rfl <| bn0 rfl rfl rfl run_ne <| as0 rfl rfl <| .fin ?_
 obtain rfl := Gets.out H
 exact rt i2 rfl () 0 [] 0 (.cons (res_tmp rfl) .nil)
theorem cmp_Compare_int.c {a0 : Int} {a1 : Int} {r : Int} (h : cmp_Compare_int.f a0 a1 = some r) : Pt Tryz.prog 97 [vI a0, vI a1] (vI r) := by
 unfold cmp_Compare_int.f at h
 refine (Tr.body Tryz.func97 (c := _) rfl Tryz.ntmps97 (Nat.le_of_ble_eq_true rfl) fun R0 F => ?_).pt
 replace h := Gets.of h
 have H := h
 clear h
 refine WP.seq <| rg 1 0 <| as0 rfl rfl <| .fin <| WP.seq <| rg 3 0 <| mv0 rfl rfl <| el H fun t703 h704 H => cl rfl cal114 rfl (cmp_isNaN_int.c h704) <| as0 rfl rfl <| .fin <| WP.seq <| rg 3 0 <| mv0 rfl rfl <| el H fun t705 h706 H => cl rfl cal114 rfl (cmp_isNaN_int.c h706) <| as0 rfl rfl <| .fin <| WP.seq <| WP.seq <| rg 1 0 <| mv0 rfl rfl <| .fin <| cd H rfl (fun _ H => ?_) (fun _ H => ?_)
 ·
  refine WP.seq <| WP.seq <| rg 1 0 <| mv0 rfl rfl <| .fin <| cd H rfl (fun _ H => ?_) (fun _ H => ?_)
  ·
   refine WP.seq <| rg 1 0 <| as0 rfl rfl <| .fin ?_
   obtain rfl := Gets.out H
   exact rt i2 rfl () 0 [] 0 (.cons (res_tmp rfl) .nil)
  refine WP.skip <| WP.seq <| rg 1 0 <| as0 rfl rfl <| .fin ?_
  obtain rfl := Gets.out H
  exact rt i2 rfl () 0 [] 0 (.cons (res_tmp rfl) .nil)
 refine WP.skip <| WP.seq <| WP.seq <| rg 1 0 <| mv0 rfl rfl <| .fin <| cd H rfl (fun _ H => ?_) (fun _ H => ?_)
 ·
  refine WP.seq <| rg 1 0 <| as0 rfl rfl <| .fin ?_
  obtain rfl := Gets.out H
  exact rt i2 rfl () 0 [] 0 (.cons (res_tmp rfl) .nil)
 refine WP.skip <| WP.seq <| WP.seq <| rg 3 0 <| mv0 rfl rfl <| mv0 rfl rfl <| bn0 rfl rfl rfl run_lt <| .fin <| cd H rfl (fun _ H => ?_) (fun _ H => ?_)
 ·
  refine WP.seq <| rg 1 0 <| as0 rfl rfl <| .fin ?_
  obtain rfl := Gets.out H
  exact rt i2 rfl () 0 [] 0 (.cons (res_tmp rfl) .nil)
 refine WP.skip <| WP.seq <| WP.seq <| rg 3 0 <| mv0 rfl rfl <| mv0 rfl rfl <| bn0 rfl rfl rfl run_gt <| .fin <| cd H rfl (fun _ H => ?_) (fun _ H => ?_)
 ·
  refine WP.seq <| rg 1 0 <| as0 rfl rfl <| .fin ?_
  obtain rfl := Gets.out H
  exact rt i2 rfl () 0 [] 0 (.cons (res_tmp rfl) .nil)
 refine WP.skip <| WP.seq <| rg 1 0 <| as0 rfl rfl <| .fin ?_
 obtain rfl := Gets.out H
 exact rt i2 rfl () 0 [] 0 (.cons (res_tmp rfl) .nil)
theorem cmp_isNaN_string.c {a0 : ByteArray} {r : Bool} (h : cmp_isNaN_string.f a0 = some r) : Pt Tryz.prog 94 [vS a0] (vB r) := by
 unfold cmp_isNaN_string.f at h
 refine (Tr.body Tryz.func94 (c := _) rfl Tryz.ntmps94 (Nat.le_of_ble_eq_true rfl) fun R0 F => ?_).pt
 replace h := Gets.of h
 have H := h
 clear h
 refine WP.seq <| rg 1 0 <| as0 rfl rfl <| .fin <| WP.seq <| rg 4 0 <| mv0 rfl rfl <| mv0 rfl rfl <| bn0 rfl rfl rfl run_sne <| as0 rfl rfl <| .fin ?_
 obtain rfl := Gets.out H
 exact rt i2 rfl () 0 [] 0 (.cons (res_tmp rfl) .nil)
theorem cmp_Compare_string.c {a0 : ByteArray} {a1 : ByteArray} {r : Int} (h : cmp_Compare_string.f a0 a1 = some r) : Pt Tryz.prog 98 [vS a0, vS a1] (vI r) := by
 unfold cmp_Compare_string.f at h
 refine (Tr.body Tryz.func98 (c := _) rfl Tryz.ntmps98 (Nat.le_of_ble_eq_true rfl) fun R0 F => ?_).pt
 replace h := Gets.of h
 have H := h
 clear h
 refine WP.seq <| rg 1 0 <| as0 rfl rfl <| .fin <| WP.seq <| rg 3 0 <| mv0 rfl rfl <| el H fun t712 h713 H => cl rfl cal94 rfl (cmp_isNaN_string.c h713) <| as0 rfl rfl <| .fin <| WP.seq <| rg 3 0 <| mv0 rfl rfl <| el H fun t714 h715 H => cl rfl cal94 rfl (cmp_isNaN_string.c h715) <| as0 rfl rfl <| .fin <| WP.seq <| WP.seq <| rg 1 0 <| mv0 rfl rfl <| .fin <| cd H rfl (fun _ H => ?_) (fun _ H => ?_)
 ·
  refine WP.seq <| WP.seq <| rg 1 0 <| mv0 rfl rfl <| .fin <| cd H rfl (fun _ H => ?_) (fun _ H => ?_)
  ·
   refine WP.seq <| rg 1 0 <| as0 rfl rfl <| .fin ?_
   obtain rfl := Gets.out H
   exact rt i2 rfl () 0 [] 0 (.cons (res_tmp rfl) .nil)
  refine WP.skip <| WP.seq <| rg 1 0 <| as0 rfl rfl <| .fin ?_
  obtain rfl := Gets.out H
  exact rt i2 rfl () 0 [] 0 (.cons (res_tmp rfl) .nil)
 refine WP.skip <| WP.seq <| WP.seq <| rg 1 0 <| mv0 rfl rfl <| .fin <| cd H rfl (fun _ H => ?_) (fun _ H => ?_)
 ·
  refine WP.seq <| rg 1 0 <| as0 rfl rfl <| .fin ?_
  obtain rfl := Gets.out H
  exact rt i2 rfl () 0 [] 0 (.cons (res_tmp rfl) .nil)
 refine WP.skip <| WP.seq <| WP.seq <| rg 3 0 <| mv0 rfl rfl <| mv0 rfl rfl <| bn0 rfl rfl rfl run_slt <| .fin <| cd H rfl (fun _ H => ?_) (fun _ H => ?_)
 ·
  refine WP.seq <| rg 1 0 <| as0 rfl rfl <| .fin ?_
  obtain rfl := Gets.out H
  exact rt i2 rfl () 0 [] 0 (.cons (res_tmp rfl) .nil)
 refine WP.skip <| WP.seq <| WP.seq <| rg 3 0 <| mv0 rfl rfl <| mv0 rfl rfl <| bn0 rfl rfl rfl run_sgt <| .fin <| cd H rfl (fun _ H => ?_) (fun _ H => ?_)
 ·
  refine WP.seq <| rg 1 0 <| as0 rfl rfl <| .fin ?_
  obtain rfl := Gets.out H
  exact rt i2 rfl () 0 [] 0 (.cons (res_tmp rfl) .nil)
 refine WP.skip <| WP.seq <| rg 1 0 <| as0 rfl rfl <| .fin ?_
 obtain rfl := Gets.out H
 exact rt i2 rfl () 0 [] 0 (.cons (res_tmp rfl) .nil)
theorem dag_Compare.c {k : Nat} {a0 : Pos} {a1 : Pos} {r : Int} (h : dag_Compare.f k a0 a1 = some r) : Pt Tryz.prog 81 [agg (Pos.enc a0), agg (Pos.enc a1)] (vI r) := by
 unfold dag_Compare.f at h
 refine (Tr.body Tryz.func81 (c := _) rfl Tryz.ntmps81 (Nat.le_of_ble_eq_true rfl) fun R0 F => ?_).pt
 replace h := Gets.of h
 have H := h
 clear h
 refine WP.seq <| rg 3 3 <| Dv.box rfl trivial rfl cA nofun fun b721 => Dv.box rfl trivial rfl cA nofun fun b722 => as0 rfl rfl <| .fin <| WP.seq <| dg Tryz.checked.mixed 13 0 <| fb rfl trivial rfl fa73_0 <| ld 1 rfl trivial rfl sc3 rfl rfl <| fb rfl trivial rfl fa73_0 <| ld 0 rfl trivial rfl sc3 rfl rfl <| el H fun t723 h724 H => cl rfl cal97 rfl (cmp_Compare_int.c h724) <| fb rfl trivial rfl fa73_1 <| ld 1 rfl trivial rfl sc9 rfl rfl <| fb rfl trivial rfl fa73_1 <| ld 0 rfl trivial rfl sc9 rfl rfl <| el H fun t725 h726 H => cl rfl cal98 rfl (cmp_Compare_string.c h726) <| Dv.lit (intK .i64) ([t723, t725] : List Int) (css := [[vI t723], [vI t725]]) rfl trivial Tryz.underlying75 Tryz.underlying3 c3 z3 rfl (by decide) (by decide) rfl ⟨(cells_one (one_eq rfl)), ⟨(cells_one (one_eq rfl)), trivial⟩⟩ rfl rfl rfl <| el H fun t727 h728 H => cl rfl cal96 rfl (cmp_Or_int.c h728) <| as0 rfl rfl <| .fin ?_
 obtain rfl := Gets.out H
 exact rt i2 rfl () 2 [0,1] 2 (.cons (res_tmp rfl) .nil)
theorem posC_f (x y : Pos) : dag_Compare.f 8 x y = some (posC x y) := by
 unfold dag_Compare.f cmp_Compare_int.f cmp_Compare_string.f cmp_isNaN_int.f cmp_isNaN_string.f cmp_Or_int.f posC cmpS
 simp only [Option.bind_some, bne_self_eq_false, decide_true, Bool.not_true, cond_false]
 rcases Int.lt_trichotomy x.fDepth y.fDepth with h | h | h
 ·
  have h2 : ¬ y.fDepth < x.fDepth := by omega
  simp only [h, decide_true, cond_true, Option.bind_some, if_true]
  cases sLt x.fID y.fID <;> cases sLt y.fID x.fID <;> rfl
 rotate_left
 ·
  have h1 : ¬ x.fDepth < y.fDepth := by omega
  simp only [h, h1, decide_true, decide_false, cond_true, cond_false, Option.bind_some, if_true, if_false]
  cases sLt x.fID y.fID <;> cases sLt y.fID x.fID <;> rfl
 have h1 : ¬ x.fDepth < y.fDepth := by omega
 have h2 : ¬ y.fDepth < x.fDepth := by omega
 simp only [h1, h2, decide_false, cond_false, Option.bind_some, if_false]
 cases sLt x.fID y.fID <;> cases sLt y.fID x.fID <;> rfl
theorem posC_lt (x y : Pos) : ltOf posC x y = true ↔ x.fDepth < y.fDepth ∨ (x.fDepth = y.fDepth ∧ sLt x.fID y.fID = true) := by
 unfold ltOf posC
 rw [decide_eq_true_eq]
 by_cases h : x.fDepth < y.fDepth
 ·
  simp [h]
 by_cases h2 : y.fDepth < x.fDepth
 ·
  rw [if_neg h, if_pos h2]; constructor
  ·
   intro k; omega
  rintro (k | ⟨k, _⟩) <;> omega
 rw [if_neg h, if_neg h2, cmpS_lt]; constructor
 ·
  intro k; exact .inr ⟨by omega, k⟩
 rintro (k | ⟨_, k⟩)
 ·
  omega
 exact k
theorem posC_nlt (x y : Pos) : ltOf posC x y = false ↔ y.fDepth < x.fDepth ∨ (x.fDepth = y.fDepth ∧ sLt x.fID y.fID = false) := by
  have h := posC_lt x y
  cases e : ltOf posC x y with
  | true =>
    have h := h.1 e
    refine ⟨fun k => (by cases k), fun k => ?_⟩
    rcases h with h | ⟨h1, h2⟩ <;> rcases k with k | ⟨k1, k2⟩
    · omega
    · omega
    · omega
    · rw [h2] at k2; cases k2
  | false =>
    refine ⟨fun _ => ?_, fun _ => rfl⟩
    rw [e] at h
    have h : ¬ _ := fun k => by have := h.2 k; cases this
    rcases Int.lt_trichotomy x.fDepth y.fDepth with k | k | k
    · exact (h (.inl k)).elim
    · cases e2 : sLt x.fID y.fID with
      | true => exact (h (.inr ⟨k, e2⟩)).elim
      | false => exact .inr ⟨k, rfl⟩
    · exact .inl k
theorem posC_swo : Go.Sort.SWO (ltOf posC) where
  irrefl x := by rw [posC_nlt]; exact .inr ⟨rfl, sLt_irrefl _⟩
  trans x y z h1 h2 := by
    rw [posC_lt] at *
    rcases h1 with h1 | ⟨h1, k1⟩ <;> rcases h2 with h2 | ⟨h2, k2⟩
    · exact .inl (by omega)
    · exact .inl (by omega)
    · exact .inl (by omega)
    · exact .inr ⟨by omega, sLt_trans k1 k2⟩
  ntrans x y z h1 h2 := by
    rw [posC_nlt] at *
    rcases h1 with h1 | ⟨h1, k1⟩ <;> rcases h2 with h2 | ⟨h2, k2⟩
    · exact .inl (by omega)
    · exact .inl (by omega)
    · exact .inl (by omega)
    · exact .inr ⟨by omega, sLt_ntrans k2 k1⟩
theorem posC_tot (x y : Pos) (h1 : ltOf posC x y = false) (h2 : ltOf posC y x = false) : x = y := by
 rw [posC_nlt] at *
 rcases h1 with h1 | ⟨h1, k1⟩ <;> rcases h2 with h2 | ⟨h2, k2⟩
 ·
  omega
 ·
  omega
 ·
  omega
 obtain ⟨a, b⟩ := x; obtain ⟨c, d⟩ := y
 simp only at h1 k1 k2
 rw [h1, sLt_conn k1 k2]
theorem slices_SortFunc_Position.c {a0 : List Pos} {p0_ : OV} {r : List Pos} (h : slices_SortFunc_Position.f a0 = some r) : Tr Tryz.prog 80 [eq p0_.1, eq (.func (.func 81) #[] #[])] [own Pos.K p0_.1 a0] (γ := Unit) (fun _ => True) (fun g => tup []) (fun g => [own Pos.K p0_.1 r]) := by
 unfold slices_SortFunc_Position.f at h
 obtain ⟨h0, h5⟩ := (Gets.of h).grd
 obtain rfl := Gets.out h5
 exact sortf_tr (K := Pos.K) (ev := fun x => [.int .i64 x.fDepth, .string x.fID]) (fun _ => rfl) (by decide) (fun x y => dag_Compare.c (posC_f x y)) (fun blk off cap d w hc hH hb hs => AnyQ.slices_SortFunc_total Tryz.lays6 2 Tryz.isAgg73 Tryz.sizeOf73 _ (fun _ => rfl) (fun x v hv => by simp at hv; rcases hv with rfl | rfl <;> rfl) posC posC_swo 81 #[] blk off cap d w (enters_of Tryz.func81 (by kernel_rfl) rfl) hc hH hb hs posC_tot) (fun q cap w => AnyF.slices_SortFunc_none Tryz.lays6 q cap _ w) (by omega)

theorem dag_Dag_All_1.c {a0 : DNode} {b0_ : Nat} {r : Bool} (h : dag_Dag_All_1.f a0 = some r) : Tr Tryz.prog 59 [eq (.pointer (some ⟨b0_, 0, none⟩))] [blk b0_ 63 [vS a0.fe.fID, vS a0.fe.fRoom, sl strK a0.fe.fParents, vS a0.fe.fThread, vS a0.fe.fUser, vI a0.fe.fDoes, vI a0.fdepth, vB a0.fparent]] (γ := Unit) (fun _ => True) (fun g => vB r) (fun g => [blk b0_ 63 [vS a0.fe.fID, vS a0.fe.fRoom, sl strK a0.fe.fParents, vS a0.fe.fThread, vS a0.fe.fUser, vI a0.fe.fDoes, vI a0.fdepth, vB a0.fparent]]) := by
 unfold dag_Dag_All_1.f at h
 refine Tr.body Tryz.func59 (c := _) rfl Tryz.ntmps59 (Nat.le_of_ble_eq_true rfl) fun R0 F => ?_
 replace h := Gets.of h
 have H := h
 clear h
 refine WP.seq <| rg 1 0 <| as0 rfl rfl <| .fin <| WP.seq <| rg 1 0 <| as0 rfl rfl <| .fin ?_
 obtain rfl := Gets.out H
 exact rt i2 rfl () 1 [0] 0 (.cons (res_tmp rfl) .nil)
theorem dag_Dag_ids_All.c {a0 : DDag} {b0_ : Nat} {v0_0 : OV} {r : List ByteArray} (h : dag_Dag_ids_All.f a0 = some r) : Tr Tryz.prog 58 [eq (.pointer (some ⟨b0_, 0, none⟩)), eq (.func (.func 59) #[] #[])] [blk b0_ 57 [vS a0.froom, eq v0_0.1], mpo Value.string DNode.O v0_0.1 a0.fnodes] (γ := OV) (fun _ => True) (fun g => eq g.1) (fun g => [blk b0_ 57 [vS a0.froom, eq v0_0.1], mpo Value.string DNode.O v0_0.1 a0.fnodes, own strK g.1 r]) := by
  unfold dag_Dag_ids_All.f at h
  obtain ⟨h0, h5⟩ := (Gets.of h).grd
  obtain rfl := Gets.out h5
  clear h h5
  refine Tr.body Tryz.func58 (c := _) rfl Tryz.ntmps58 (Nat.le_of_ble_eq_true rfl) fun R0 F => ?_
  refine WP.seq <| rg 1 0 <| as0 rfl rfl <| .fin <| WP.seq <| rg 1 0 <| as0 rfl rfl <| .fin ?_
  refine WP.seqj (β := List Nat × OV) (fun b => b.1.Perm (List.range a0.fnodes.length)) (fun b => [(5, eq b.2.1), (1, eq (.func (.func 59) #[] #[]))]) (fun b => [own Pos.K b.2.1 (selM a0.fnodes dag_Dag_ids_All.g b.1), mpo Value.string DNode.O v0_0.1 a0.fnodes, blk b0_ 57 [vS a0.froom, eq v0_0.1]] ++ F) (fun b hb => ?_) ?_
  rotate_left
  · refine WP.seq <| rg 5 16 <| mv0 rfl rfl <| Dv.nilp rfl trivial rfl <| fb rfl trivial rfl fa57_1 <| ld 0 rfl trivial rfl sc55 rfl rfl ?_
    refine Dv.gh (l' := fun ps : List OV => [mp Value.string (fun p : OV => eq p.1) v0_0.1 (zipK a0.fnodes ps), thg DNode.O a0.fnodes ps, blk b0_ 57 [vS a0.froom, eq v0_0.1]] ++ F) (gh_of (mpo_opn 1 rfl)) (fun ps hps => ?_)
    refine Dv.rgb (jj := 0) rfl trivial rfl rfl Tryz.underlying55 nofun (fun q => .fin ?_)
    refine WP.gh (l' := fun _ : Unit => [rng Value.string (fun p : OV => eq p.1) v0_0.1 q.1 (zipK a0.fnodes ps) [], thg DNode.O a0.fnodes ps, blk b0_ 57 [vS a0.froom, eq v0_0.1]] ++ F) (gh_of (ok := fun _ => True) fun R w k => ⟨(), trivial, k⟩) (fun _ _ => ?_)
    refine WP.gh (l' := fun _ : Unit => [own Pos.K nilV.1 [], rng Value.string (fun p : OV => eq p.1) v0_0.1 q.1 (zipK a0.fnodes ps) [], thg DNode.O a0.fnodes ps, blk b0_ 57 [vS a0.froom, eq v0_0.1]] ++ F) (gh_of (st_nil Pos.K none)) (fun _ _ => ?_)
    refine WP.block ?_
    refine WP.weak (E' := (fun b : List Nat × OV => [(5, eq b.2.1), (15, eq q.1), (1, eq (.func (.func 59) #[] #[]))]) ([], nilV)) (weak_cons rfl (weak_cons rfl (weak_cons rfl weak_nil))) (WP.loop (β := List Nat × OV) (fun k b => b.1.length + k = a0.fnodes.length) (fun b => [(5, eq b.2.1), (15, eq q.1), (1, eq (.func (.func 59) #[] #[]))]) (fun b => [own Pos.K b.2.1 (selM a0.fnodes dag_Dag_ids_All.g b.1), rng Value.string (fun p : OV => eq p.1) v0_0.1 q.1 (zipK a0.fnodes ps) b.1, thg DNode.O a0.fnodes ps, blk b0_ 57 [vS a0.froom, eq v0_0.1]] ++ F) ?_ (k := a0.fnodes.length) (b := ([], nilV)) (Nat.zero_add _))
    rintro k ⟨is, v⟩ hk
    replace hk : is.length + k = a0.fnodes.length := hk
    refine WP.seq <| rg 2 1 <| Dv.rgn (jj := 1) rfl trivial rfl rfl nofun (fun z hz => ?_)
    rcases z with _ | j
    · have hz : is.Perm (List.range (zipK a0.fnodes ps).length) := hz
      rw [zipK_len hps.1] at hz
      refine ex0 rfl trivial rfl rfl <| .fin <| WP.seq <| WP.cond rfl nofun (fun _ => WP.exit ?_)
      refine Dn.gh (l' := fun _ : Unit => [own Pos.K v.1 (selM a0.fnodes dag_Dag_ids_All.g is), rng Value.string (fun p : OV => eq p.1) v0_0.1 q.1 (zipK a0.fnodes ps) is, thg DNode.O a0.fnodes ps, blk b0_ 57 [vS a0.froom, eq v0_0.1]] ++ F) (gh_of (ok := fun _ => True) fun R w k => ⟨(), trivial, k⟩) (fun _ _ => ?_)
      refine Dn.gh (l' := fun _ : Unit => [mp Value.string (fun p : OV => eq p.1) v0_0.1 (zipK a0.fnodes ps), own Pos.K v.1 (selM a0.fnodes dag_Dag_ids_All.g is), thg DNode.O a0.fnodes ps, blk b0_ 57 [vS a0.froom, eq v0_0.1]] ++ F) (gh_of (st_rge (pm 4 [1,0,2,3]))) (fun _ _ => ?_)
      refine Dn.gh (l' := fun _ : Unit => [mpo Value.string DNode.O v0_0.1 a0.fnodes, own Pos.K v.1 (selM a0.fnodes dag_Dag_ids_All.g is), blk b0_ 57 [vS a0.froom, eq v0_0.1]] ++ F) (gh_of (mpo_shut hps rfl (pm 4 [0,2,1,3]))) (fun _ _ => ?_)
      exact Jn.mk (is, v) hz (weak_cons rfl (weak_cons rfl weak_nil)) (perm_ton 3 [1,0,2] (by kernel_rfl) rfl rfl)
    have hz : j < (zipK a0.fnodes ps).length ∧ j ∉ is ∧ is.length < (zipK a0.fnodes ps).length := hz
    obtain ⟨e, p, he, hp, hep⟩ := zipK_get hps hz.1
    have hlt : is.length < a0.fnodes.length := by rw [← zipK_len hps.1]; exact hz.2.2
    have hsl := Nat.le_trans (selM_len (m := a0.fnodes) (f := dag_Dag_ids_All.g) (is := is)) (Nat.le_of_lt hlt)
    have e1 : nxV Value.string (fun p : OV => eq p.1) (zipK a0.fnodes ps) (some j) = tup [vB true, vS e.1, eq p.1] := by simp only [nxV, hep]
    rw [e1]
    refine ex0 rfl trivial rfl rfl <| .fin <| WP.seq <| WP.cond rfl (fun _ => WP.skip ?_) nofun
    refine WP.gh (l' := fun _ : Unit => [own Pos.K v.1 (selM a0.fnodes dag_Dag_ids_All.g is), rng Value.string (fun p : OV => eq p.1) v0_0.1 q.1 (zipK a0.fnodes ps) (is ++ [j]), thg DNode.O a0.fnodes ps, blk b0_ 57 [vS a0.froom, eq v0_0.1]] ++ F) (gh_of (ok := fun _ => True) fun R w k => ⟨(), trivial, k⟩) (fun _ _ => ?_)
    refine WP.block <| WP.seq <| rg 5 0 <| Dv.rge 1 rfl trivial rfl rfl hep ?_
    refine ex0 rfl trivial rfl rfl <| ex0 rfl trivial rfl rfl <| as0 rfl rfl <| as0 rfl rfl <| .fin ?_
    refine WP.gh (l' := fun _ : Unit => [DNode.O p e.2, thgX DNode.O a0.fnodes ps j, own Pos.K v.1 (selM a0.fnodes dag_Dag_ids_All.g is), rng Value.string (fun p : OV => eq p.1) v0_0.1 q.1 (zipK a0.fnodes ps) (is ++ [j]), blk b0_ 57 [vS a0.froom, eq v0_0.1]] ++ F) (gh_of (thg_foc he hp (pm 4 [2,0,1,3]))) (fun _ _ => ?_)
    refine WP.gh (l' := fun b : Nat => [blk b 63 [vS e.2.fe.fID, vS e.2.fe.fRoom, sl strK e.2.fe.fParents, vS e.2.fe.fThread, vS e.2.fe.fUser, vI e.2.fe.fDoes, vI e.2.fdepth, vB e.2.fparent], thgX DNode.O a0.fnodes ps j, own Pos.K v.1 (selM a0.fnodes dag_Dag_ids_All.g is), rng Value.string (fun p : OV => eq p.1) v0_0.1 q.1 (zipK a0.fnodes ps) (is ++ [j]), blk b0_ 57 [vS a0.froom, eq v0_0.1]] ++ F) (gh_of (DNode.opn 0 rfl)) (fun b hb => ?_)
    refine WP.seq <| rg 3 0 <| mv0 rfl rfl <| mv0 rfl rfl <| Dv.callc (fst := #[]) (B := [blk b 63 [vS e.2.fe.fID, vS e.2.fe.fRoom, sl strK e.2.fe.fParents, vS e.2.fe.fThread, vS e.2.fe.fUser, vI e.2.fe.fDoes, vI e.2.fdepth, vB e.2.fparent]]) (F := [thgX DNode.O a0.fnodes ps j, own Pos.K v.1 (selM a0.fnodes dag_Dag_ids_All.g is), rng Value.string (fun p : OV => eq p.1) v0_0.1 q.1 (zipK a0.fnodes ps) (is ++ [j]), blk b0_ 57 [vS a0.froom, eq v0_0.1]] ++ F) rfl trivial rfl cal59 rfl (Tr.weak (dag_Dag_All_1.c (a0 := e.2) (b0_ := b) (r := true) rfl) (.cons (wk_ptr hb) .nil)) (List.Perm.refl _) <| .fin ?_
    refine WP.cond rfl (fun c1 => ?_) (fun c1 => ?_)
    · have hg : dag_Dag_ids_All.g e = some ⟨e.2.fdepth, e.1⟩ := by unfold dag_Dag_ids_All.g; rw [c1]; rfl
      have e6 := selM_some (f := dag_Dag_ids_All.g) (is := is) he hg
      have hbd : (selM a0.fnodes dag_Dag_ids_All.g is).length + ([⟨e.2.fdepth, e.1⟩] : List Pos).length ≤ 9223372036854775807 ∧ ((selM a0.fnodes dag_Dag_ids_All.g is).length + ([⟨e.2.fdepth, e.1⟩] : List Pos).length) * 24 ≤ 140737488355328 := by rw [List.length_singleton]; omega
      refine rg 10 256 <| mv0 rfl rfl <| mv0 rfl rfl <| Dv.nilpp hb rfl trivial rfl <| fp hb rfl trivial rfl fa63_1 <| ld 0 rfl trivial rfl sc3 rfl rfl <| mv0 rfl rfl <| Dv.bld (css := [[vI e.2.fdepth], [vS e.1]]) rfl trivial Tryz.underlying73 pl73 z73 rfl ⟨(cells_one (one_eq rfl)), ⟨(cells_one (one_eq rfl)), trivial⟩⟩ rfl rfl <| Dv.lit Pos.K ([⟨e.2.fdepth, e.1⟩] : List Pos) (css := [[vI e.2.fdepth, vS e.1]]) rfl trivial Tryz.underlying110 Tryz.underlying73 c73 z73 rfl (by decide) (by decide) rfl ⟨cA, trivial⟩ rfl rfl rfl <| ap Pos.K 2 ([⟨e.2.fdepth, e.1⟩] : List Pos) src_sl Tryz.underlying110 (.inr ⟨_, Tryz.underlying110⟩) inf73 hbd nofun fun v9 => as0 rfl rfl <| .fin ?_
      refine Dn.gh (l' := fun _ : Unit => [DNode.O p e.2, thgX DNode.O a0.fnodes ps j, own Pos.K v9.1 ((selM a0.fnodes dag_Dag_ids_All.g is) ++ ([⟨e.2.fdepth, e.1⟩] : List Pos)), rng Value.string (fun p : OV => eq p.1) v0_0.1 q.1 (zipK a0.fnodes ps) (is ++ [j]), blk b0_ 57 [vS a0.froom, eq v0_0.1]] ++ F) (gh_of (DNode.shut (p := p) (m := e.2) b hb (List.Perm.refl _))) (fun _ _ => ?_)
      refine Dn.gh (l' := fun _ : Unit => [thg DNode.O a0.fnodes ps, own Pos.K v9.1 ((selM a0.fnodes dag_Dag_ids_All.g is) ++ ([⟨e.2.fdepth, e.1⟩] : List Pos)), rng Value.string (fun p : OV => eq p.1) v0_0.1 q.1 (zipK a0.fnodes ps) (is ++ [j]), blk b0_ 57 [vS a0.froom, eq v0_0.1]] ++ F) (gh_of (thg_unf he hp (List.Perm.refl _))) (fun _ _ => ?_)
      rw [e6]
      exact Back.mk (k - 1) (is ++ [j], v9) (by omega) (by show (is ++ [j]).length + (k - 1) = _; rw [List.length_append, List.length_singleton]; omega) (weak_cons rfl (weak_cons rfl (weak_cons rfl weak_nil))) (perm_ton 4 [1,2,0,3] (by kernel_rfl) rfl rfl)
    cases c1
  obtain ⟨is, v5⟩ := b
  replace hb : is.Perm (List.range a0.fnodes.length) := hb
  have hp := selM_perm (f := dag_Dag_ids_All.g) hb
  have hs : slices_SortFunc_Position.f (selM a0.fnodes dag_Dag_ids_All.g is) = some (srtF posC (a0.fnodes.filterMap dag_Dag_ids_All.g)) := by
    unfold slices_SortFunc_Position.f Sp.grd
    rw [if_pos (by rw [hp.length_eq]; exact Nat.le_trans (List.length_filterMap_le _ _) h0), srtF_perm posC_swo posC_tot hp]
  have hS : (srtF posC (a0.fnodes.filterMap dag_Dag_ids_All.g)).length ≤ 1000000 := by unfold srtF; rw [List.length_mergeSort]; exact Nat.le_trans (List.length_filterMap_le _ _) h0
  refine WP.seq <| rg 2 2 <| mv0 rfl rfl <| cx 3 [0,1,2] cal80 (slices_SortFunc_Position.c hs (p0_ := v5)) nofun fun _ _ => .fin ?_
  generalize srtF posC (a0.fnodes.filterMap dag_Dag_ids_All.g) = S at hS
  refine WP.seq <| rg 1 0 <| as0 rfl rfl <| .fin ?_
  refine WP.seqj (β := OV) (fun _ => True) (fun v => [(8, eq v.1)]) (fun v => [own strK v.1 (S.map (·.fID)), own Pos.K v5.1 S, mpo Value.string DNode.O v0_0.1 a0.fnodes, blk b0_ 57 [vS a0.froom, eq v0_0.1]] ++ F) (fun v _ => ?_) ?_
  · refine WP.seq <| rg 2 0 <| mv0 rfl rfl <| as0 rfl rfl <| .fin <| rt i2 rfl v 4 [1,3,2,0] 1 (.cons (res_tmp rfl) .nil)
  refine WP.seq <| rg 3 0 <| mv0 rfl rfl <| Dv.lenw (Kd := Pos.K) (xs := S) (v := v5.1) rfl trivial rfl (mem_at 0 rfl) Tryz.underlying110 <| mv0 rfl rfl <| .fin ?_
  refine WP.gh (l' := fun _ : Unit => [own strK nilV.1 [], own Pos.K v5.1 S, mpo Value.string DNode.O v0_0.1 a0.fnodes, blk b0_ 57 [vS a0.froom, eq v0_0.1]] ++ F) (gh_of (st_nil strK none)) (fun _ _ => ?_)
  refine WP.block ?_
  refine WP.weak (E' := (fun b : Nat × OV => [(8, eq b.2.1), (35, eq v5.1), (36, vI (S.length : Int)), (37, vI (b.1 : Int))]) (0, nilV)) (weak_cons rfl (weak_cons rfl (weak_cons rfl (weak_cons rfl weak_nil)))) (WP.loop (β := Nat × OV) (fun k b => b.1 + k = S.length) (fun b => [(8, eq b.2.1), (35, eq v5.1), (36, vI (S.length : Int)), (37, vI (b.1 : Int))]) (fun b => [own strK b.2.1 ((S.take b.1).map (·.fID)), own Pos.K v5.1 S, mpo Value.string DNode.O v0_0.1 a0.fnodes, blk b0_ 57 [vS a0.froom, eq v0_0.1]] ++ F) ?_ (k := S.length) (b := (0, nilV)) (Nat.zero_add _))
  rintro k ⟨j, v8⟩ hk
  replace hk : j + k = S.length := hk
  refine WP.seq <| rg 1 0 <| bn0 rfl rfl rfl run_lt <| .fin <| WP.seq <| WP.cond rfl (fun c2 => WP.skip ?_) (fun c2 => WP.exit ?_)
  rotate_left
  · have c3 : ¬ ((j : Int) < (S.length : Int)) := of_decide_eq_false c2
    have e3 : S.take j = S := List.take_of_length_le (by omega)
    change ∀ R a w, R0.le R → Agr _ R a _ → St R ([own strK v8.1 ((S.take j).map (·.fID)), own Pos.K v5.1 S, mpo Value.string DNode.O v0_0.1 a0.fnodes, blk b0_ 57 [vS a0.froom, eq v0_0.1]] ++ F) w → _
    rw [e3]
    exact Jn.mk v8 trivial (weak_cons rfl weak_nil) (List.Perm.refl _)
  have c3 : (j : Int) < (S.length : Int) := of_decide_eq_true c2
  have hj : j < S.length := by omega
  refine WP.seq <| WP.block <| WP.seq <| rg 4 12 <| Dv.ixw rfl trivial rfl (mem_at 1 rfl) rfl Tryz.underlying110 Tryz.underlying73 c73 (by omega) c3 <| Dv.ldws (j := j) (f := 0) rfl trivial rfl (mem_at 1 rfl) hj Tryz.underlying73 rfl c73 (Nat.le_of_ble_eq_true rfl) <| al rfl trivial zc73 nofun fun b => sx 0 rfl trivial rfl rfl cA sz73 rfl rfl rfl nofun <| .fin ?_
  have hbd : ((S.take j).map (·.fID)).length + ([(S.getD j default).fID] : List ByteArray).length ≤ 9223372036854775807 ∧ (((S.take j).map (·.fID)).length + ([(S.getD j default).fID] : List ByteArray).length) * 16 ≤ 140737488355328 := by rw [List.length_singleton, List.length_map, List.length_take]; omega
  refine rg 6 16 <| mv0 rfl rfl <| fb rfl trivial rfl fa73_1 <| ld 0 rfl trivial rfl sc9 rfl rfl <| Dv.lit strK ([(S.getD j default).fID] : List ByteArray) (css := [[vS ((S.getD j default).fID)]]) rfl trivial Tryz.underlying29 Tryz.underlying9 c9 z9 rfl (by decide) (by decide) rfl ⟨(cells_one (one_eq rfl)), trivial⟩ rfl rfl rfl <| ap strK 1 ([(S.getD j default).fID] : List ByteArray) src_sl Tryz.underlying29 (.inr ⟨_, Tryz.underlying29⟩) inf9 hbd nofun fun v9 => as0 rfl rfl <| .fin ?_
  refine WP.gh (l' := fun _ : Unit => [own strK v9.1 ((S.take j).map (·.fID) ++ ([(S.getD j default).fID] : List ByteArray)), own Pos.K v5.1 S, mpo Value.string DNode.O v0_0.1 a0.fnodes, blk b0_ 57 [vS a0.froom, eq v0_0.1]] ++ F) (gh_of (st_selgn 5 [0,1,2,3,4] 1 (by kernel_rfl) rfl rfl)) (fun _ _ => ?_)
  have e4 : (S.take j).map (·.fID) ++ ([(S.getD j default).fID] : List ByteArray) = (S.take (j + 1)).map (·.fID) := by rw [List.take_add_one, List.map_append, List.getD_eq_getElem?_getD, List.getElem?_eq_getElem hj]; rfl
  rw [e4]
  refine rg 2 0 <| bn0 rfl rfl rfl (run_addn (a := j) (b := 1) (by omega)) <| mv0 rfl rfl <| .fin ?_
  exact Back.mk (k - 1) (j + 1, v9) (by omega) (by show j + 1 + (k - 1) = S.length; omega) (weak_cons rfl (weak_cons rfl (weak_cons rfl (weak_cons rfl weak_nil)))) (List.Perm.refl _)
theorem dag_Dag_All.c {k : Nat} {a0 : DDag} {v0_0 : OV} {b0_ : Nat} {r : (List Event)} (h : dag_Dag_All.f k a0 = some r) : Tr Tryz.prog 42 [eq (.pointer (some ⟨b0_, 0, none⟩))] [blk b0_ 57 [vS a0.froom, eq v0_0.1], mpo Value.string DNode.O v0_0.1 a0.fnodes] (γ := OV) (fun _ => True) (fun g => eq g.1) (fun g => [blk b0_ 57 [vS a0.froom, eq v0_0.1], mpo Value.string DNode.O v0_0.1 a0.fnodes, own Event.K g.1 r]) := by
 unfold dag_Dag_All.f at h
 refine Tr.body Tryz.func42 (c := _) rfl Tryz.ntmps42 (Nat.le_of_ble_eq_true rfl) fun R0 F => ?_
 replace h := Gets.of h
 have H := h
 clear h
 refine WP.seq <| rg 1 0 <| as0 rfl rfl <| .fin <| WP.seq <| rg 1 0 <| as0 rfl rfl <| .fin <| WP.seqn H (fun q752 : (Int × Int × Bool × (List Event) × (List ByteArray)) × OV × OV => q752.1) (fun q752 : (Int × Int × Bool × (List Event) × (List ByteArray)) × OV × OV => [(0, eq (.pointer (some ⟨b0_, 0, none⟩))), (2, eq (.slice none 0 0)), (3, eq q752.2.1.1), (7, eq q752.2.2.1), (8, vI q752.1.1), (9, vI q752.1.2.1), (10, vB q752.1.2.2.1)]) (fun q752 : (Int × Int × Bool × (List Event) × (List ByteArray)) × OV × OV => [blk b0_ 57 [vS a0.froom, eq v0_0.1], mpo Value.string DNode.O v0_0.1 a0.fnodes, own Event.K q752.2.1.1 q752.1.2.2.2.1, own strK q752.2.2.1 q752.1.2.2.2.2] ++ F) (fun q752 H => ?_) (fun H => ?_)
 ·
  obtain ⟨p729, v730, v731⟩ := q752
  refine WP.seq <| rg 2 0 <| mv0 rfl rfl <| as0 rfl rfl <| .fin ?_
  obtain rfl := Gets.out H
  exact rt i2 rfl v730 4 [3,0,1,2] 1 (.cons (res_tmp rfl) .nil)
 refine WP.seq <| rg 4 2 <| mv0 rfl rfl <| el H fun t732 h733 H => cx 2 [0,1] cal58 (dag_Dag_ids_All.c h733 (b0_ := b0_) (v0_0 := v0_0)) nofun fun g734 _ => ?_
 refine Dv.lenw rfl trivial rfl (mem_at 2 rfl) Tryz.underlying29 <| mv0 rfl rfl <| .fin <| WP.block <| wg (st_nil Event.K none) fun _ _ => ?_
 refine wg (sg 4 [1,2,3,0] 0) fun _ _ => ?_
 refine lp (fun j_ (p751 : Int × (List Event) × OV) => dag_Dag_All.l0 k a0 t732 j_ p751.1 p751.2.1) (0, ([] : List Event), nilV) H (fun p751 => [(0, eq (.pointer (some ⟨b0_, 0, none⟩))), (2, eq (.slice none 0 0)), (3, eq p751.2.2.1), (7, eq g734.1), (8, vI (t732.length : Int)), (9, vI p751.1)]) (fun p751 => [blk b0_ 57 [vS a0.froom, eq v0_0.1], mpo Value.string DNode.O v0_0.1 a0.fnodes, own strK g734.1 t732, own Event.K p751.2.2.1 p751.2.1] ++ F) ?_
 rintro j_ ⟨x735, x736, v737⟩ H
 rcases j_ with _ | j750
 ·
  exact (Gets.no H).elim
 replace H : Gets (dag_Dag_All.l0 k a0 t732 (j750 + 1) x735 x736) _ := H
 rw [dag_Dag_All.l0] at H
 refine WP.seq <| rg 1 0 <| bn0 rfl rfl rfl run_lt <| .fin <| WP.seq <| cd H rfl (fun _ H => ?_) (fun _ H => ?_)
 rotate_left
 ·
  refine WP.exit ?_
  replace H := Gets.out H
  refine ng (sg 4 [0,1,3,2] 0) fun _ _ => ?_
  exact jn (((t732.length : Int), x735, decide (x735 < (t732.length : Int)), x736, t732), v737, g734) H
 refine WP.skip <| WP.seq <| WP.block <| WP.seq <| rg 3 0 <| gr H fun g739 H => ?_
 have h740 : x735.toNat < t732.length := idx_lt g739
 refine Dv.ixw rfl trivial rfl (mem_at 2 rfl) rfl Tryz.underlying29 Tryz.underlying9 c9 g739.1 g739.2 <| Dv.ldw (j := x735.toNat) (f := 0) (p := vS (t732.getD x735.toNat default)) rfl trivial rfl (mem_at 2 rfl) h740 Tryz.underlying9 rfl rfl <| as0 rfl rfl <| .fin <| rg 14 4096 <| mv0 rfl rfl <| mv0 rfl rfl <| Dv.nilp rfl trivial rfl <| fb rfl trivial rfl fa57_1 <| ld 0 rfl trivial rfl sc55 rfl rfl <| mv0 rfl rfl <| vg (mpo_opn 1 rfl) fun z741 h742 => ?_
 refine Dv.mlv nilP rfl trivial rfl (mem_at 0 rfl) rfl Tryz.underlying55 (keyOk_str Tryz.underlying9) z61 (fun _ => rfl) <| gr H fun g743 H => vg (mpo_foc h742 rfl g743 (pm 5 [1,0,2,3,4])) fun _ _ => ?_
 refine Dv.nilA DNode.nn rfl trivial rfl (mem_at 0 rfl) <| vg (DNode.opn 0 rfl) fun g744 h745 => ?_
 refine fp h745 rfl trivial rfl fa63_0 <| lds 0 rfl trivial rfl sg43 rfl rfl <| el H fun t746 h747 H => cl rfl cal38 rfl (dag_own.c h747) <| Dv.lit Event.K ([t746] : List Event) (css := [Event.enc t746]) rfl trivial Tryz.underlying24 Tryz.underlying43 c43 z43 rfl (by decide) (by decide) rfl ⟨(cells_agg (Event.K.one _)), trivial⟩ rfl rfl rfl <| gr H fun g748 H => ap Event.K 5 ([t746] : List Event) src_sl Tryz.underlying24 (.inr ⟨_, Tryz.underlying24⟩) inf43 g748 nofun fun v749 => ?_
 refine as0 rfl rfl <| .fin <| rg 2 0 <| bn0 rfl rfl rfl run_add <| mv0 rfl rfl <| .fin <| ng (DNode.shut (p := ((mget (zipK a0.fnodes z741) (t732.getD x735.toNat default)).getD nilP)) (m := (mget a0.fnodes (t732.getD x735.toNat default)).getD default) g744 h745 (pm 6 [0,1,2,3,4,5])) fun _ _ => ?_
 refine ng (mpo_unf0 h742 rfl g743 (pm 6 [0,1,2,3,4,5])) fun _ _ => ?_
 refine ng (mpo_shut h742 rfl (pm 5 [1,0,2,3,4])) fun _ _ => ?_
 refine ng (sg 4 [1,0,2,3] 0) fun _ _ => ?_
 exact bk j750 (w64 (x735 + 1), x736 ++ ([t746] : List Event), v749) H
theorem member_joined.c {k : Nat} {a0 : DDag} {v0_0 : OV} {b0_ : Nat} {r : (List (ByteArray × Int))} (h : member_joined.f k a0 = some r) : Tr Tryz.prog 39 [eq (.pointer (some ⟨b0_, 0, none⟩))] [blk b0_ 57 [vS a0.froom, eq v0_0.1], mpo Value.string DNode.O v0_0.1 a0.fnodes] (γ := OV) (fun _ => True) (fun g => eq g.1) (fun g => [blk b0_ 57 [vS a0.froom, eq v0_0.1], mpo Value.string DNode.O v0_0.1 a0.fnodes, mp Value.string (fun x : Int => vI x) g.1 r]) := by
 unfold member_joined.f at h
 refine Tr.body Tryz.func39 (c := _) rfl Tryz.ntmps39 (Nat.le_of_ble_eq_true rfl) fun R0 F => ?_
 replace h := Gets.of h
 have H := h
 clear h
 refine WP.seq <| rg 1 0 <| as0 rfl rfl <| .fin <| WP.seq <| rg 2 1 <| Dv.mmk Value.string (fun x : Int => vI x) rfl trivial nofun (fun v753 => ?_)
 refine as0 rfl rfl <| .fin <| WP.seqn H (fun q769 : (Int × Int × Bool × (List (ByteArray × Int)) × (List Event)) × OV => q769.1) (fun q769 : (Int × Int × Bool × (List (ByteArray × Int)) × (List Event)) × OV => [(0, eq (.pointer (some ⟨b0_, 0, none⟩))), (2, eq (.map none)), (3, eq v753.1), (8, eq q769.2.1), (9, vI q769.1.1), (10, vI q769.1.2.1), (11, vB q769.1.2.2.1)]) (fun q769 : (Int × Int × Bool × (List (ByteArray × Int)) × (List Event)) × OV => [blk b0_ 57 [vS a0.froom, eq v0_0.1], mpo Value.string DNode.O v0_0.1 a0.fnodes, mp Value.string (fun x : Int => vI x) v753.1 q769.1.2.2.2.1, own Event.K q769.2.1 q769.1.2.2.2.2] ++ F) (fun q769 H => ?_) (fun H => ?_)
 ·
  obtain ⟨p754, v755⟩ := q769
  refine WP.seq <| rg 2 0 <| mv0 rfl rfl <| as0 rfl rfl <| .fin ?_
  obtain rfl := Gets.out H
  exact rt i2 rfl v753 4 [3,0,1,2] 1 (.cons (res_tmp rfl) .nil)
 refine WP.seq <| rg 4 2 <| mv0 rfl rfl <| el H fun t756 h757 H => cx 3 [1,2,0] cal42 (dag_Dag_All.c h757 (b0_ := b0_) (v0_0 := v0_0)) nofun fun g758 _ => ?_
 refine Dv.lenw rfl trivial rfl (mem_at 2 rfl) Tryz.underlying24 <| mv0 rfl rfl <| .fin <| WP.block <| wg (sg 4 [0,1,2,3] 0) fun _ _ => ?_
 refine lp (fun j_ (p768 : Int × (List (ByteArray × Int))) => member_joined.l0 k t756 j_ p768.1 p768.2) (0, ([] : List (ByteArray × Int))) H (fun p768 => [(0, eq (.pointer (some ⟨b0_, 0, none⟩))), (2, eq (.map none)), (3, eq v753.1), (8, eq g758.1), (9, vI (t756.length : Int)), (10, vI p768.1)]) (fun p768 => [blk b0_ 57 [vS a0.froom, eq v0_0.1], mpo Value.string DNode.O v0_0.1 a0.fnodes, own Event.K g758.1 t756, mp Value.string (fun x : Int => vI x) v753.1 p768.2] ++ F) ?_
 rintro j_ ⟨x759, x760⟩ H
 rcases j_ with _ | j767
 ·
  exact (Gets.no H).elim
 replace H : Gets (member_joined.l0 k t756 (j767 + 1) x759 x760) _ := H
 rw [member_joined.l0] at H
 refine WP.seq <| rg 1 0 <| bn0 rfl rfl rfl run_lt <| .fin <| WP.seq <| cd H rfl (fun _ H => ?_) (fun _ H => ?_)
 rotate_left
 ·
  refine WP.exit ?_
  replace H := Gets.out H
  refine ng (sg 4 [0,1,3,2] 0) fun _ _ => ?_
  exact jn (((t756.length : Int), x759, decide (x759 < (t756.length : Int)), x760, t756), g758) H
 refine WP.skip <| WP.seq <| WP.block <| WP.seq <| rg 4 12 <| gr H fun g762 H => ?_
 have h763 : x759.toNat < t756.length := idx_lt g762
 refine Dv.ixw rfl trivial rfl (mem_at 2 rfl) rfl Tryz.underlying24 Tryz.underlying43 c43 g762.1 g762.2 <| Dv.ldws (j := x759.toNat) (f := 0) rfl trivial rfl (mem_at 2 rfl) h763 Tryz.underlying43 rfl c43 (Nat.le_of_ble_eq_true rfl) <| al rfl trivial zc43 nofun fun b764 => sx 0 rfl trivial rfl rfl cA sz43 rfl rfl rfl nofun ?_
 refine .fin <| WP.seq <| rg 2 0 <| fb rfl trivial rfl fa43_5 <| ld 0 rfl trivial rfl sc3 rfl rfl <| .fin <| WP.block <| WP.seq <| rg 2 0 <| bn0 rfl rfl rfl run_eq <| as0 rfl rfl <| .fin <| cd H rfl (fun _ H => ?_) (fun _ H => ?_)
 ·
  refine rg 4 8 <| mv0 rfl rfl <| fb rfl trivial rfl fa43_4 <| ld 0 rfl trivial rfl sc9 rfl rfl <| Dv.mup (jj := 4) 1 rfl trivial rfl rfl rfl rfl Tryz.underlying65 (keyOk_str Tryz.underlying9) nofun <| .fin <| rg 2 0 <| bn0 rfl rfl rfl run_add <| mv0 rfl rfl <| .fin <| ng (sg 5 [0,1,2,3,4] 1) fun _ _ => ?_
  exact bk j767 (w64 (x759 + 1), mput x760 ((t756.getD x759.toNat default).fUser) 1) H
 refine WP.seq <| rg 2 0 <| bn0 rfl rfl rfl run_eq <| as0 rfl rfl <| .fin <| cd H rfl (fun _ H => ?_) (fun _ H => ?_)
 rotate_left
 ·
  refine WP.skip <| rg 2 0 <| bn0 rfl rfl rfl run_add <| mv0 rfl rfl <| .fin <| ng (sg 5 [0,1,2,3,4] 1) fun _ _ => ?_
  exact bk j767 (w64 (x759 + 1), x760) H
 refine rg 4 8 <| mv0 rfl rfl <| fb rfl trivial rfl fa43_4 <| ld 0 rfl trivial rfl sc9 rfl rfl <| Dv.mdl (jj := 4) rfl trivial rfl rfl rfl Tryz.underlying65 (keyOk_str Tryz.underlying9) nofun <| .fin <| rg 2 0 <| bn0 rfl rfl rfl run_add <| mv0 rfl rfl <| .fin <| ng (sg 5 [0,1,2,3,4] 1) fun _ _ => ?_
 exact bk j767 (w64 (x759 + 1), mdel x760 ((t756.getD x759.toNat default).fUser)) H
theorem slices_Sort_string.c {a0 : List ByteArray} {p0_ : OV} {r : List ByteArray} (h : slices_Sort_string.f a0 = some r) : Tr Tryz.prog 40 [eq p0_.1] [own strK p0_.1 a0] (γ := Unit) (fun _ => True) (fun g => tup []) (fun g => [own strK p0_.1 r]) := by
 unfold slices_Sort_string.f at h
 obtain ⟨h0, h5⟩ := (Gets.of h).grd
 obtain rfl := Gets.out h5
 exact sort_tr (fun blk off cap ss w => Go.Proofs.Any.slices_Sort_string Tryz.lays190 blk off cap ss w) (fun q cap w => Go.Proofs.Any.slices_Sort_string_none Tryz.lays190 q cap w) h0

theorem member_Users.c {k : Nat} {a0 : DDag} {b0_ : Nat} {v0_0 : OV} {r : List ByteArray} (h : member_Users.f k a0 = some r) : Tr Tryz.prog 18 [eq (.pointer (some ⟨b0_, 0, none⟩))] [blk b0_ 57 [vS a0.froom, eq v0_0.1], mpo Value.string DNode.O v0_0.1 a0.fnodes] (γ := OV) (fun _ => True) (fun g => eq g.1) (fun g => [blk b0_ 57 [vS a0.froom, eq v0_0.1], mpo Value.string DNode.O v0_0.1 a0.fnodes, own strK g.1 r]) := by
  unfold member_Users.f at h
  obtain ⟨m, hm, h1⟩ := (Gets.of h).call
  obtain ⟨h0, h5⟩ := h1.grd
  obtain rfl := Gets.out h5
  clear h h5
  refine Tr.body Tryz.func18 (c := _) rfl Tryz.ntmps18 (Nat.le_of_ble_eq_true rfl) fun R0 F => ?_
  refine WP.seq <| rg 1 0 <| as0 rfl rfl <| .fin <| WP.seq <| rg 1 0 <| as0 rfl rfl <| .fin ?_
  refine WP.seqj (β := List Nat × OV) (fun b => b.1.Perm (List.range m.length)) (fun b => [(3, eq b.2.1)]) (fun b => [own strK b.2.1 (selM m (fun e => some e.1) b.1), blk b0_ 57 [vS a0.froom, eq v0_0.1], mpo Value.string DNode.O v0_0.1 a0.fnodes] ++ F) (fun b hb => ?_) ?_
  rotate_left
  · refine WP.seq <| rg 3 6 <| mv0 rfl rfl <| cx 2 [0,1] cal39 (member_joined.c hm (b0_ := b0_) (v0_0 := v0_0)) nofun fun gm _ => ?_
    refine Dv.gh (l' := fun _ : Unit => [blk b0_ 57 [vS a0.froom, eq v0_0.1], mpo Value.string DNode.O v0_0.1 a0.fnodes, mp Value.string (fun x : Int => vI x) gm.1 m] ++ F) (gh_of (ok := fun _ => True) fun R w k => ⟨(), trivial, k⟩) (fun _ _ => ?_)
    refine Dv.gh (l' := fun _ : Unit => [mp Value.string (fun x : Int => vI x) gm.1 m, blk b0_ 57 [vS a0.froom, eq v0_0.1], mpo Value.string DNode.O v0_0.1 a0.fnodes] ++ F) (gh_of (st_selgn 3 [2,0,1] 0 (by kernel_rfl) rfl rfl)) (fun _ _ => ?_)
    refine Dv.rgb (jj := 0) rfl trivial rfl rfl Tryz.underlying65 nofun (fun q => .fin ?_)
    refine WP.gh (l' := fun _ : Unit => [rng Value.string (fun x : Int => vI x) gm.1 q.1 m [], blk b0_ 57 [vS a0.froom, eq v0_0.1], mpo Value.string DNode.O v0_0.1 a0.fnodes] ++ F) (gh_of (ok := fun _ => True) fun R w k => ⟨(), trivial, k⟩) (fun _ _ => ?_)
    refine WP.gh (l' := fun _ : Unit => [own strK nilV.1 [], rng Value.string (fun x : Int => vI x) gm.1 q.1 m [], blk b0_ 57 [vS a0.froom, eq v0_0.1], mpo Value.string DNode.O v0_0.1 a0.fnodes] ++ F) (gh_of (st_nil strK none)) (fun _ _ => ?_)
    refine WP.block ?_
    refine WP.weak (E' := (fun b : List Nat × OV => [(3, eq b.2.1), (7, eq q.1)]) ([], nilV)) (weak_cons rfl (weak_cons rfl weak_nil)) (WP.loop (β := List Nat × OV) (fun k b => b.1.length + k = m.length) (fun b => [(3, eq b.2.1), (7, eq q.1)]) (fun b => [own strK b.2.1 (selM m (fun e => some e.1) b.1), rng Value.string (fun x : Int => vI x) gm.1 q.1 m b.1, blk b0_ 57 [vS a0.froom, eq v0_0.1], mpo Value.string DNode.O v0_0.1 a0.fnodes] ++ F) ?_ (k := m.length) (b := ([], nilV)) (Nat.zero_add _))
    rintro k ⟨is, v⟩ hk
    replace hk : is.length + k = m.length := hk
    refine WP.seq <| rg 2 1 <| Dv.rgn (jj := 1) rfl trivial rfl rfl nofun (fun z hz => ?_)
    rcases z with _ | j
    · have hz : is.Perm (List.range m.length) := hz
      refine ex0 rfl trivial rfl rfl <| .fin <| WP.seq <| WP.cond rfl nofun (fun _ => WP.exit ?_)
      refine Dn.gh (l' := fun _ : Unit => [own strK v.1 (selM m (fun e => some e.1) is), rng Value.string (fun x : Int => vI x) gm.1 q.1 m is, blk b0_ 57 [vS a0.froom, eq v0_0.1], mpo Value.string DNode.O v0_0.1 a0.fnodes] ++ F) (gh_of (ok := fun _ => True) fun R w k => ⟨(), trivial, k⟩) (fun _ _ => ?_)
      refine Dn.gh (l' := fun _ : Unit => [mp Value.string (fun x : Int => vI x) gm.1 m, own strK v.1 (selM m (fun e => some e.1) is), blk b0_ 57 [vS a0.froom, eq v0_0.1], mpo Value.string DNode.O v0_0.1 a0.fnodes] ++ F) (gh_of (st_rge (pm 4 [1,0,2,3]))) (fun _ _ => ?_)
      refine Dn.gh (l' := fun _ : Unit => [own strK v.1 (selM m (fun e => some e.1) is), blk b0_ 57 [vS a0.froom, eq v0_0.1], mpo Value.string DNode.O v0_0.1 a0.fnodes] ++ F) (gh_of (st_selgn 4 [0,1,2,3] 1 (by kernel_rfl) rfl rfl)) (fun _ _ => ?_)
      exact Jn.mk (is, v) hz (weak_cons rfl weak_nil) (List.Perm.refl _)
    have hz : j < m.length ∧ j ∉ is ∧ is.length < m.length := hz
    obtain ⟨e, he⟩ : ∃ e, m[j]? = some e := ⟨_, List.getElem?_eq_getElem hz.1⟩
    have hep := he
    have hlt := hz.2.2
    have hsl := Nat.le_trans (selM_len (m := m) (f := (fun e => some e.1)) (is := is)) (Nat.le_of_lt hlt)
    have e1 : nxV Value.string (fun x : Int => vI x) m (some j) = tup [vB true, vS e.1, vI e.2] := by simp only [nxV, hep]
    rw [e1]
    refine ex0 rfl trivial rfl rfl <| .fin <| WP.seq <| WP.cond rfl (fun _ => WP.skip ?_) nofun
    refine WP.gh (l' := fun _ : Unit => [own strK v.1 (selM m (fun e => some e.1) is), rng Value.string (fun x : Int => vI x) gm.1 q.1 m (is ++ [j]), blk b0_ 57 [vS a0.froom, eq v0_0.1], mpo Value.string DNode.O v0_0.1 a0.fnodes] ++ F) (gh_of (ok := fun _ => True) fun R w k => ⟨(), trivial, k⟩) (fun _ _ => ?_)
    refine WP.block <| WP.seq <| rg 3 0 <| Dv.rge 1 rfl trivial rfl rfl hep ?_
    refine ex0 rfl trivial rfl rfl <| as0 rfl rfl <| .fin ?_
    have e6 := selM_some (f := (fun e => some e.1)) (is := is) he rfl
    have hbd : (selM m (fun e => some e.1) is).length + ([e.1] : List ByteArray).length ≤ 9223372036854775807 ∧ ((selM m (fun e => some e.1) is).length + ([e.1] : List ByteArray).length) * 16 ≤ 140737488355328 := by rw [List.length_singleton]; omega
    refine rg 5 8 <| mv0 rfl rfl <| mv0 rfl rfl <| Dv.lit strK ([e.1] : List ByteArray) (css := [[vS e.1]]) rfl trivial Tryz.underlying29 Tryz.underlying9 c9 z9 rfl (by decide) (by decide) rfl ⟨(cells_one (one_eq rfl)), trivial⟩ rfl rfl rfl <| ap strK 0 ([e.1] : List ByteArray) src_sl Tryz.underlying29 (.inr ⟨_, Tryz.underlying29⟩) inf9 hbd nofun fun v9 => as0 rfl rfl <| .fin ?_
    rw [e6]
    exact Back.mk (k - 1) (is ++ [j], v9) (by omega) (by show (is ++ [j]).length + (k - 1) = _; rw [List.length_append, List.length_singleton]; omega) (weak_cons rfl (weak_cons rfl weak_nil)) (List.Perm.refl _)
  obtain ⟨is, v3⟩ := b
  replace hb : is.Perm (List.range m.length) := hb
  have hp := selM_perm (f := (fun e => some e.1)) hb
  have hs : slices_Sort_string.f (selM m (fun e => some e.1) is) = some (srtS (m.map (·.1))) := by
    have e7 : m.filterMap (fun e => some e.1) = m.map (·.1) := by rw [← List.filterMap_eq_map]; rfl
    rw [e7] at hp
    unfold slices_Sort_string.f Sp.grd
    rw [if_pos (by rw [hp.length_eq, List.length_map]; omega), srtS_eq hp]
  refine WP.seq <| rg 2 2 <| mv0 rfl rfl <| cx 3 [0,1,2] cal40 (slices_Sort_string.c hs (p0_ := v3)) nofun fun _ _ => .fin ?_
  refine WP.seq <| rg 2 0 <| mv0 rfl rfl <| as0 rfl rfl <| .fin <| rt i2 rfl v3 3 [1,2,0] 0 (.cons (res_tmp rfl) .nil)
theorem name_Home.c {k : Nat} {a0 : ByteArray} {r : ByteArray} (h : name_Home.f k a0 = some r) : Pt Tryz.prog 49 [vS a0] (vS r) := by
 unfold name_Home.f at h
 refine (Tr.body Tryz.func49 (c := _) rfl Tryz.ntmps49 (Nat.le_of_ble_eq_true rfl) fun R0 F => ?_).pt
 replace h := Gets.of h
 have H := h
 clear h
 refine WP.seq <| rg 1 0 <| as0 rfl rfl <| .fin <| WP.seq <| WP.seq <| rg 8 0 <| mv0 rfl rfl <| el H fun t770 h771 H => cl rfl cal53 rfl (name_User.c h771) <| un0 rfl rfl (run_not _) <| mv0 rfl rfl ?_
 cases c772 : !t770
 ·
  replace H := Gets.cf H c772
  refine sk rfl rfl <| sk rfl rfl <| sk rfl rfl <| pf0 rfl rfl rfl <| .fin <| WP.cond rfl nofun (fun _ => ?_)
  refine WP.skip <| WP.seq <| rg 9 0 <| mv0 rfl rfl <| el H fun t779 h780 H => cl rfl cal65 rfl (strings_Cut.c h780) <| mv0 rfl rfl <| ex0 rfl trivial rfl rfl <| ex0 rfl trivial rfl rfl <| ex0 rfl trivial rfl rfl <| as0 rfl rfl <| as0 rfl rfl <| as0 rfl rfl <| .fin <| WP.seq <| rg 2 0 <| mv0 rfl rfl <| as0 rfl rfl <| .fin ?_
  obtain rfl := Gets.out H
  exact rt i2 rfl () 0 [] 0 (.cons (res_tmp rfl) .nil)
 replace H := Gets.ct H c772
 refine mvg rfl rfl rfl <| el H fun t773 h774 H => Dv.call rfl (gg rfl) cal52 rfl (name_Room.c h774) <| ung rfl rfl rfl (run_not _) <| pt0 rfl rfl rfl <| .fin <| cd H rfl (fun _ H => ?_) (fun _ H => ?_)
 ·
  refine WP.seq <| rg 1 0 <| as0 rfl rfl <| .fin ?_
  obtain rfl := Gets.out H
  exact rt i2 rfl () 0 [] 0 (.cons (res_tmp rfl) .nil)
 refine WP.skip <| WP.seq <| rg 9 0 <| mv0 rfl rfl <| el H fun t776 h777 H => cl rfl cal65 rfl (strings_Cut.c h777) <| mv0 rfl rfl <| ex0 rfl trivial rfl rfl <| ex0 rfl trivial rfl rfl <| ex0 rfl trivial rfl rfl <| as0 rfl rfl <| as0 rfl rfl <| as0 rfl rfl <| .fin <| WP.seq <| rg 2 0 <| mv0 rfl rfl <| as0 rfl rfl <| .fin ?_
 obtain rfl := Gets.out H
 exact rt i2 rfl () 0 [] 0 (.cons (res_tmp rfl) .nil)
theorem slices_Compact_string.c {a0 : List ByteArray} {p0_ : OV} {r : List ByteArray} (h : slices_Compact_string.f a0 = some r) : Tr Tryz.prog 50 [eq p0_.1] [own strK p0_.1 a0] (γ := OV) (fun _ => True) (fun g => eq g.1) (fun g => [own strK g.1 r]) := by
 unfold slices_Compact_string.f at h
 obtain ⟨h0, h5⟩ := (Gets.of h).grd
 obtain rfl := Gets.out h5
 exact compact_tr (fun blk off cap ss w => Go.Proofs.Any.slices_Compact_string Tryz.lays194 blk off cap ss w) (fun q cap w => Go.Proofs.Any.slices_Compact_string_empty Tryz.lays194 q cap w) h0

theorem member_Homes.c {k : Nat} {a0 : List ByteArray} {r : (List ByteArray)} (h : member_Homes.f k a0 = some r) : Tr Tryz.prog 33 [sl strK a0] [] (γ := OV) (fun _ => True) (fun g => eq g.1) (fun g => [own strK g.1 r]) := by
 unfold member_Homes.f at h
 refine Tr.body Tryz.func33 (c := _) rfl Tryz.ntmps33 (Nat.le_of_ble_eq_true rfl) fun R0 F => ?_
 replace h := Gets.of h
 have H := h
 clear h
 refine WP.seq <| rg 1 0 <| as0 rfl rfl <| .fin <| WP.seq <| rg 1 0 <| as0 rfl rfl <| .fin <| WP.seqn H (fun q800 : (Int × Bool × (List ByteArray)) × OV => q800.1) (fun q800 : (Int × Bool × (List ByteArray)) × OV => [(0, sl strK a0), (2, eq (.slice none 0 0)), (3, eq q800.2.1), (7, sl strK a0), (8, vI (a0.length : Int)), (9, vI q800.1.1), (10, vB q800.1.2.1)]) (fun q800 : (Int × Bool × (List ByteArray)) × OV => [own strK q800.2.1 q800.1.2.2] ++ F) (fun q800 H => ?_) (fun H => ?_)
 ·
  obtain ⟨p781, v782⟩ := q800
  refine WP.seq <| rg 2 2 <| mv0 rfl rfl <| el H fun t783 h784 H => cx 1 [0] cal40 (slices_Sort_string.c h784 (p0_ := v782)) nofun fun _ _ => ?_
  refine .fin <| WP.seq <| rg 3 2 <| mv0 rfl rfl <| el H fun t785 h786 H => cx 1 [0] cal50 (slices_Compact_string.c h786 (p0_ := v782)) nofun fun g787 _ => ?_
  refine as0 rfl rfl <| .fin ?_
  obtain rfl := Gets.out H
  exact rt i2 rfl g787 1 [0] 0 (.cons (res_tmp rfl) .nil)
 refine WP.seq <| rg 3 0 <| mv0 rfl rfl <| Dv.lenl rfl trivial rfl Tryz.underlying29 <| mv0 rfl rfl <| .fin <| WP.block <| wg (st_nil strK none) fun _ _ => ?_
 refine wg (sg 1 [0] 0) fun _ _ => ?_
 refine lp (fun j_ (p799 : Int × (List ByteArray) × OV) => member_Homes.l0 k a0 j_ p799.1 p799.2.1) (0, ([] : List ByteArray), nilV) H (fun p799 => [(0, sl strK a0), (2, eq (.slice none 0 0)), (3, eq p799.2.2.1), (7, sl strK a0), (8, vI (a0.length : Int)), (9, vI p799.1)]) (fun p799 => [own strK p799.2.2.1 p799.2.1] ++ F) ?_
 rintro j_ ⟨x788, x789, v790⟩ H
 rcases j_ with _ | j798
 ·
  exact (Gets.no H).elim
 replace H : Gets (member_Homes.l0 k a0 (j798 + 1) x788 x789) _ := H
 rw [member_Homes.l0] at H
 refine WP.seq <| rg 1 0 <| bn0 rfl rfl rfl run_lt <| .fin <| WP.seq <| cd H rfl (fun _ H => ?_) (fun _ H => ?_)
 rotate_left
 ·
  refine WP.exit ?_
  replace H := Gets.out H
  exact jn ((x788, decide (x788 < (a0.length : Int)), x789), v790) H
 refine WP.skip <| WP.seq <| WP.block <| WP.seq <| rg 3 0 <| gr H fun g792 H => Dv.ixr rfl trivial rfl rfl Tryz.underlying29 Tryz.underlying9 c9 g792.1 g792.2 <| ldR rfl trivial rfl sc9 rfl <| as0 rfl rfl <| .fin <| WP.seq <| rg 3 0 <| mv0 rfl rfl <| el H fun t793 h794 H => cl rfl cal49 rfl (name_Home.c h794) <| as0 rfl rfl <| .fin <| WP.seq <| rg 2 0 <| mv0 rfl rfl <| bn0 rfl rfl rfl run_sne <| .fin <| cd H rfl (fun _ H => ?_) (fun _ H => ?_)
 rotate_left
 ·
  exact WP.skip <| rg 2 0 <| bn0 rfl rfl rfl run_add <| mv0 rfl rfl <| .fin <| bk j798 (w64 (x788 + 1), x789, v790) H
 refine rg 5 8 <| mv0 rfl rfl <| mv0 rfl rfl <| Dv.lit strK ([t793] : List ByteArray) (css := [[vS t793]]) rfl trivial Tryz.underlying29 Tryz.underlying9 c9 z9 rfl (by decide) (by decide) rfl ⟨(cells_one (one_eq rfl)), trivial⟩ rfl rfl rfl <| gr H fun g796 H => ap strK 0 ([t793] : List ByteArray) src_sl Tryz.underlying29 (.inr ⟨_, Tryz.underlying29⟩) inf9 g796 nofun fun v797 => ?_
 exact as0 rfl rfl <| .fin <| rg 2 0 <| bn0 rfl rfl rfl run_add <| mv0 rfl rfl <| .fin <| bk j798 (w64 (x788 + 1), x789 ++ ([t793] : List ByteArray), v797) H
theorem member_Servers.c {k : Nat} {a0 : DDag} {v0_0 : OV} {b0_ : Nat} {r : (List ByteArray)} (h : member_Servers.f k a0 = some r) : Tr Tryz.prog 14 [eq (.pointer (some ⟨b0_, 0, none⟩))] [blk b0_ 57 [vS a0.froom, eq v0_0.1], mpo Value.string DNode.O v0_0.1 a0.fnodes] (γ := OV) (fun _ => True) (fun g => eq g.1) (fun g => [blk b0_ 57 [vS a0.froom, eq v0_0.1], mpo Value.string DNode.O v0_0.1 a0.fnodes, own strK g.1 r]) := by
 unfold member_Servers.f at h
 refine Tr.body Tryz.func14 (c := _) rfl Tryz.ntmps14 (Nat.le_of_ble_eq_true rfl) fun R0 F => ?_
 replace h := Gets.of h
 have H := h
 clear h
 refine WP.seq <| rg 1 0 <| as0 rfl rfl <| .fin <| WP.seq <| rg 4 6 <| mv0 rfl rfl <| el H fun t801 h802 H => cx 2 [0,1] cal18 (member_Users.c h802 (b0_ := b0_) (v0_0 := v0_0)) nofun fun g803 _ => ?_
 refine el H fun t804 h805 H => cx 3 [2,0,1] cal33 (Tr.lend [own strK g803.1 t801] (member_Homes.c h805) (.cons (lt_own (mem_at 0 rfl)) .nil) (fun _ => flat_eq) (fun _ => (flatAs_cons (flatA_own flatK_str) flatAs_nil))) nofun fun g806 _ => ?_
 refine as0 rfl rfl <| .fin ?_
 obtain rfl := Gets.out H
 exact rt i2 rfl g806 4 [0,2,3,1] 1 (.cons (res_tmp rfl) .nil)
theorem slices_Index_string.c {k : Nat} {a0 : List ByteArray} {a1 : ByteArray} {r : Int} (h : slices_Index_string.f k a0 a1 = some r) : Pt Tryz.prog 48 [sl strK a0, vS a1] (vI r) := by
 unfold slices_Index_string.f at h
 refine (Tr.body Tryz.func48 (c := _) rfl Tryz.ntmps48 (Nat.le_of_ble_eq_true rfl) fun R0 F => ?_).pt
 replace h := Gets.of h
 have H := h
 clear h
 refine WP.seq <| rg 1 0 <| as0 rfl rfl <| .fin <| WP.seqr H id (fun p807 : Int × Bool => [(0, sl strK a0), (1, vS a1), (4, vI 0), (7, vI (a0.length : Int)), (8, vI p807.1), (9, vB p807.2)]) (fun p807 : Int × Bool => F) (fun p807 H => ?_) (fun H => ?_)
 ·
  refine WP.seq <| rg 1 0 <| as0 rfl rfl <| .fin ?_
  obtain rfl := Gets.out H
  exact rt i2 rfl () 0 [] 0 (.cons (res_tmp rfl) .nil)
 refine WP.seq <| rg 3 0 <| mv0 rfl rfl <| Dv.lenl rfl trivial rfl Tryz.underlying29 <| mv0 rfl rfl <| .fin <| WP.block <| wg (sg 0 [] 0) fun _ _ => ?_
 refine lp (fun j_ (p813 : Int) => slices_Index_string.l0 k a0 a1 j_ p813) 0 H (fun p813 => [(0, sl strK a0), (1, vS a1), (4, vI 0), (7, vI (a0.length : Int)), (8, vI p813)]) (fun p813 => F) ?_
 rintro j_ x808 H
 rcases j_ with _ | j812
 ·
  exact (Gets.no H).elim
 replace H : Gets (slices_Index_string.l0 k a0 a1 (j812 + 1) x808) _ := H
 rw [slices_Index_string.l0] at H
 refine WP.seq <| rg 1 0 <| bn0 rfl rfl rfl run_lt <| .fin <| WP.seq <| cd H rfl (fun _ H => ?_) (fun _ H => ?_)
 rotate_left
 ·
  refine WP.exit ?_
  replace H := Gets.out H
  exact jn (x808, decide (x808 < (a0.length : Int))) H
 refine WP.skip <| WP.seq <| WP.block <| WP.seq <| rg 2 0 <| mv0 rfl rfl <| as0 rfl rfl <| .fin <| WP.seq <| rg 6 0 <| mv0 rfl rfl <| mv0 rfl rfl <| mv0 rfl rfl <| gr H fun g810 H => Dv.ixr rfl trivial rfl rfl Tryz.underlying29 Tryz.underlying9 c9 g810.1 g810.2 <| ldR rfl trivial rfl sc9 rfl <| bn0 rfl rfl rfl run_seq <| .fin <| cd H rfl (fun _ H => ?_) (fun _ H => ?_)
 rotate_left
 ·
  exact WP.skip <| rg 2 0 <| bn0 rfl rfl rfl run_add <| mv0 rfl rfl <| .fin <| bk j812 (w64 (x808 + 1)) H
 refine WP.seq <| rg 2 0 <| mv0 rfl rfl <| as0 rfl rfl <| .fin ?_
 replace H := Gets.outr H
 obtain rfl := Gets.out H
 exact rt i2 rfl () 0 [] 0 (.cons (res_tmp rfl) .nil)
theorem slices_Contains_string.c {k : Nat} {a0 : List ByteArray} {a1 : ByteArray} {r : Bool} (h : slices_Contains_string.f k a0 a1 = some r) : Pt Tryz.prog 31 [sl strK a0, vS a1] (vB r) := by
 unfold slices_Contains_string.f at h
 refine (Tr.body Tryz.func31 (c := _) rfl Tryz.ntmps31 (Nat.le_of_ble_eq_true rfl) fun R0 F => ?_).pt
 replace h := Gets.of h
 have H := h
 clear h
 refine WP.seq <| rg 1 0 <| as0 rfl rfl <| .fin <| WP.seq <| rg 5 0 <| mv0 rfl rfl <| mv0 rfl rfl <| el H fun t814 h815 H => cl rfl cal48 rfl (slices_Index_string.c h815) <| bn0 rfl rfl rfl run_ge <| as0 rfl rfl <| .fin ?_
 obtain rfl := Gets.out H
 exact rt i2 rfl () 0 [] 0 (.cons (res_tmp rfl) .nil)
theorem member_In.c {k : Nat} {a0 : DDag} {a1 : ByteArray} {v0_0 : OV} {b0_ : Nat} {r : Bool} (h : member_In.f k a0 a1 = some r) : Tr Tryz.prog 10 [eq (.pointer (some ⟨b0_, 0, none⟩)), vS a1] [blk b0_ 57 [vS a0.froom, eq v0_0.1], mpo Value.string DNode.O v0_0.1 a0.fnodes] (γ := Unit) (fun _ => True) (fun g => vB r) (fun g => [blk b0_ 57 [vS a0.froom, eq v0_0.1], mpo Value.string DNode.O v0_0.1 a0.fnodes]) := by
 unfold member_In.f at h
 refine Tr.body Tryz.func10 (c := _) rfl Tryz.ntmps10 (Nat.le_of_ble_eq_true rfl) fun R0 F => ?_
 replace h := Gets.of h
 have H := h
 clear h
 refine WP.seq <| rg 1 0 <| as0 rfl rfl <| .fin <| WP.seq <| rg 5 2 <| mv0 rfl rfl <| el H fun t816 h817 H => cx 2 [0,1] cal14 (member_Servers.c h817 (b0_ := b0_) (v0_0 := v0_0)) nofun fun g818 _ => ?_
 refine mv0 rfl rfl <| el H fun t819 h820 H => cll (B := [own strK g818.1 t816]) 3 [2,0,1] cal31 (Pt.lend _ (slices_Contains_string.c h820) (.cons (lt_own (mem_at 0 rfl)) (.cons lt_id .nil)) flat_eq) ?_
 refine as0 rfl rfl <| .fin ?_
 obtain rfl := Gets.out H
 exact rt i2 rfl () 3 [2,0,1] 1 (.cons (res_tmp rfl) .nil)
theorem concourseref09_Has.c {k : Nat} {a0 : List ByteArray} {a1 : ByteArray} {r : Bool} (h : concourseref09_Has.f k a0 a1 = some r) : Pt Tryz.prog 12 [sl strK a0, vS a1] (vB r) := by
 unfold concourseref09_Has.f at h
 refine (Tr.body Tryz.func12 (c := _) rfl Tryz.ntmps12 (Nat.le_of_ble_eq_true rfl) fun R0 F => ?_).pt
 replace h := Gets.of h
 have H := h
 clear h
 refine WP.seq <| rg 1 0 <| as0 rfl rfl <| .fin <| WP.seqr H id (fun p821 : Int × Bool => [(0, sl strK a0), (1, vS a1), (4, vB false), (5, vI p821.1), (9, vB p821.2)]) (fun p821 : Int × Bool => F) (fun p821 H => ?_) (fun H => ?_)
 ·
  refine WP.seq <| rg 1 0 <| as0 rfl rfl <| .fin ?_
  obtain rfl := Gets.out H
  exact rt i2 rfl () 0 [] 0 (.cons (res_tmp rfl) .nil)
 refine WP.seq <| rg 1 0 <| as0 rfl rfl <| .fin <| WP.block <| wg (sg 0 [] 0) fun _ _ => ?_
 refine lp (fun j_ (p827 : Int) => concourseref09_Has.l0 k a0 a1 j_ p827) 0 H (fun p827 => [(0, sl strK a0), (1, vS a1), (4, vB false), (5, vI p827)]) (fun p827 => F) ?_
 rintro j_ x822 H
 rcases j_ with _ | j826
 ·
  exact (Gets.no H).elim
 replace H : Gets (concourseref09_Has.l0 k a0 a1 (j826 + 1) x822) _ := H
 rw [concourseref09_Has.l0] at H
 refine WP.seq <| WP.seq <| rg 4 0 <| mv0 rfl rfl <| mv0 rfl rfl <| Dv.lenl rfl trivial rfl Tryz.underlying29 <| bn0 rfl rfl rfl run_lt <| .fin <| cd H rfl (fun _ H => ?_) (fun _ H => ?_)
 rotate_left
 ·
  refine WP.exit ?_
  replace H := Gets.out H
  exact jn (x822, decide (x822 < (a0.length : Int))) H
 refine WP.skip <| WP.seq <| WP.block <| WP.seq <| rg 6 0 <| mv0 rfl rfl <| mv0 rfl rfl <| gr H fun g824 H => Dv.ixr rfl trivial rfl rfl Tryz.underlying29 Tryz.underlying9 c9 g824.1 g824.2 <| ldR rfl trivial rfl sc9 rfl <| mv0 rfl rfl <| bn0 rfl rfl rfl run_seq <| .fin <| cd H rfl (fun _ H => ?_) (fun _ H => ?_)
 rotate_left
 ·
  exact WP.skip <| rg 3 0 <| mv0 rfl rfl <| bn0 rfl rfl rfl run_add <| as0 rfl rfl <| .fin <| bk j826 (w64 (x822 + 1)) H
 refine WP.seq <| rg 1 0 <| as0 rfl rfl <| .fin ?_
 replace H := Gets.outr H
 obtain rfl := Gets.out H
 exact rt i2 rfl () 0 [] 0 (.cons (res_tmp rfl) .nil)
theorem concourseref01_SameTexts.c {k : Nat} {a0 : List ByteArray} {a1 : List ByteArray} {r : Bool} (h : concourseref01_SameTexts.f k a0 a1 = some r) : Pt Tryz.prog 13 [sl strK a0, sl strK a1] (vB r) := by
 unfold concourseref01_SameTexts.f at h
 refine (Tr.body Tryz.func13 (c := _) rfl Tryz.ntmps13 (Nat.le_of_ble_eq_true rfl) fun R0 F => ?_).pt
 replace h := Gets.of h
 have H := h
 clear h
 refine WP.seq <| rg 1 0 <| as0 rfl rfl <| .fin <| WP.seq <| WP.seq <| rg 5 0 <| mv0 rfl rfl <| Dv.lenl rfl trivial rfl Tryz.underlying29 <| mv0 rfl rfl <| Dv.lenl rfl trivial rfl Tryz.underlying29 <| bn0 rfl rfl rfl run_ne <| .fin <| cd H rfl (fun _ H => ?_) (fun _ H => ?_)
 ·
  refine WP.seq <| rg 1 0 <| as0 rfl rfl <| .fin ?_
  obtain rfl := Gets.out H
  exact rt i2 rfl () 0 [] 0 (.cons (res_tmp rfl) .nil)
 refine WP.skip <| WP.seqr H id (fun p829 : Int × Bool => [(0, sl strK a0), (1, sl strK a1), (4, vB false), (5, vI p829.1), (10, vB ((a0.length : Int) != (a1.length : Int))), (14, vB p829.2)]) (fun p829 : Int × Bool => F) (fun p829 H => ?_) (fun H => ?_)
 ·
  refine WP.seq <| rg 1 0 <| as0 rfl rfl <| .fin ?_
  obtain rfl := Gets.out H
  exact rt i2 rfl () 0 [] 0 (.cons (res_tmp rfl) .nil)
 refine WP.seq <| rg 1 0 <| as0 rfl rfl <| .fin <| WP.block <| wg (sg 0 [] 0) fun _ _ => ?_
 refine lp (fun j_ (p836 : Int) => concourseref01_SameTexts.l0 k a0 a1 j_ p836) 0 H (fun p836 => [(0, sl strK a0), (1, sl strK a1), (4, vB false), (5, vI p836), (10, vB ((a0.length : Int) != (a1.length : Int)))]) (fun p836 => F) ?_
 rintro j_ x830 H
 rcases j_ with _ | j835
 ·
  exact (Gets.no H).elim
 replace H : Gets (concourseref01_SameTexts.l0 k a0 a1 (j835 + 1) x830) _ := H
 rw [concourseref01_SameTexts.l0] at H
 refine WP.seq <| WP.seq <| rg 4 0 <| mv0 rfl rfl <| mv0 rfl rfl <| Dv.lenl rfl trivial rfl Tryz.underlying29 <| bn0 rfl rfl rfl run_lt <| .fin <| cd H rfl (fun _ H => ?_) (fun _ H => ?_)
 rotate_left
 ·
  refine WP.exit ?_
  replace H := Gets.out H
  exact jn (x830, decide (x830 < (a0.length : Int))) H
 refine WP.skip <| WP.seq <| WP.block <| WP.seq <| dg Tryz.checked.mixed 9 0 <| mv0 rfl rfl <| mv0 rfl rfl <| gr H fun g832 H => Dv.ixr rfl trivial rfl rfl Tryz.underlying29 Tryz.underlying9 c9 g832.1 g832.2 <| ldR rfl trivial rfl sc9 rfl <| mv0 rfl rfl <| mv0 rfl rfl <| gr H fun g833 H => Dv.ixr rfl trivial rfl rfl Tryz.underlying29 Tryz.underlying9 c9 g833.1 g833.2 <| ldR rfl trivial rfl sc9 rfl <| bn0 rfl rfl rfl run_sne <| .fin <| cd H rfl (fun _ H => ?_) (fun _ H => ?_)
 rotate_left
 ·
  exact WP.skip <| rg 3 0 <| mv0 rfl rfl <| bn0 rfl rfl rfl run_add <| as0 rfl rfl <| .fin <| bk j835 (w64 (x830 + 1)) H
 refine WP.seq <| rg 1 0 <| as0 rfl rfl <| .fin ?_
 replace H := Gets.outr H
 obtain rfl := Gets.out H
 exact rt i2 rfl () 0 [] 0 (.cons (res_tmp rfl) .nil)
theorem member_Joined.c {k : Nat} {a0 : DDag} {a1 : ByteArray} {v0_0 : OV} {b0_ : Nat} {r : Bool} (h : member_Joined.f k a0 a1 = some r) : Tr Tryz.prog 23 [eq (.pointer (some ⟨b0_, 0, none⟩)), vS a1] [blk b0_ 57 [vS a0.froom, eq v0_0.1], mpo Value.string DNode.O v0_0.1 a0.fnodes] (γ := Unit) (fun _ => True) (fun g => vB r) (fun g => [blk b0_ 57 [vS a0.froom, eq v0_0.1], mpo Value.string DNode.O v0_0.1 a0.fnodes]) := by
 unfold member_Joined.f at h
 refine Tr.body Tryz.func23 (c := _) rfl Tryz.ntmps23 (Nat.le_of_ble_eq_true rfl) fun R0 F => ?_
 replace h := Gets.of h
 have H := h
 clear h
 refine WP.seq <| rg 1 0 <| as0 rfl rfl <| .fin <| WP.seq <| rg 6 2 <| mv0 rfl rfl <| el H fun t837 h838 H => cx 2 [0,1] cal39 (member_joined.c h838 (b0_ := b0_) (v0_0 := v0_0)) nofun fun g839 _ => ?_
 refine mv0 rfl rfl <| Dv.mlv 0 rfl trivial rfl (mem_at 2 rfl) rfl Tryz.underlying65 (keyOk_str Tryz.underlying9) z3 (fun _ => rfl) <| bn0 rfl rfl rfl run_gt <| as0 rfl rfl <| .fin ?_
 obtain rfl := Gets.out H
 exact rt i2 rfl () 3 [2,0,1] 1 (.cons (res_tmp rfl) .nil)
theorem concourselaw09_lives.c {k : Nat} {r : Bool} (h : concourselaw09_lives.f k = some r) : Pt Tryz.prog 15 [] (vB r) := by
 unfold concourselaw09_lives.f at h
 refine (Tr.body Tryz.func15 (c := _) rfl Tryz.ntmps15 (Nat.le_of_ble_eq_true rfl) fun R0 F => ?_).pt
 replace h := Gets.of h
 have H := h
 clear h
 refine WP.seq <| rg 1 0 <| as0 rfl rfl <| .fin <| WP.seq <| rg 2 1 <| el H fun t840 h841 H => cx 0 [] cal16 (dag_New.c h841) nofun fun g842 _ => ?_
 refine as0 rfl rfl <| .fin <| WP.seq <| WP.seq <| rg 2 0 <| mv0 rfl rfl <| Dv.peq0 DDag.nn rfl trivial rfl rfl Tryz.underlying23 (mem_at 0 rfl) <| .fin <| WP.cond rfl nofun (fun _ => ?_)
 refine WP.skip <| WP.seq <| rg 3 4 <| mv0 rfl rfl <| Dv.bld (css := [[vS (⟨#[36, 97]⟩ : ByteArray)], [vS (⟨#[33, 114, 58, 115]⟩ : ByteArray)], [vS (⟨#[64, 97, 58, 115]⟩ : ByteArray)], [vI 1]]) rfl trivial Tryz.underlying43 pl43 z43 rfl ⟨(cells_one (one_eq rfl)), ⟨(cells_one (one_eq rfl)), ⟨(cells_one (one_eq rfl)), ⟨(cells_one (one_eq rfl)), trivial⟩⟩⟩⟩ rfl rfl <| el H fun t844 h845 H => cx 1 [0] cal17 (Tr.weak (dag_Dag_Add.c h845 (p0_ := g842)) (.cons wk_id (.cons (wk_agg (.cons wk_id (.cons wk_id (.cons wk_nil (.cons wk_id (.cons wk_id (.cons wk_id .nil))))))) .nil))) nofun fun _ _ => ?_
 refine .fin <| WP.seq <| rg 4 8 <| mv0 rfl rfl <| Dv.lit strK ([(⟨#[36, 97]⟩ : ByteArray)] : List ByteArray) (css := [[vS (⟨#[36, 97]⟩ : ByteArray)]]) rfl trivial Tryz.underlying29 Tryz.underlying9 c9 z9 rfl (by decide) (by decide) rfl ⟨(cells_one (one_eq rfl)), trivial⟩ rfl rfl rfl <| Dv.bld (css := [[vS (⟨#[36, 98]⟩ : ByteArray)], [vS (⟨#[33, 114, 58, 115]⟩ : ByteArray)], [vS (⟨#[64, 97, 58, 115]⟩ : ByteArray)], [vI 2], [sl strK ([(⟨#[36, 97]⟩ : ByteArray)] : List ByteArray)]]) rfl trivial Tryz.underlying43 pl43 z43 rfl ⟨(cells_one (one_eq rfl)), ⟨(cells_one (one_eq rfl)), ⟨(cells_one (one_eq rfl)), ⟨(cells_one (one_eq rfl)), ⟨(cells_one one_sl), trivial⟩⟩⟩⟩⟩ rfl rfl <| el H fun t846 h847 H => cx 1 [0] cal17 (dag_Dag_Add.c h847 (p0_ := g842)) nofun fun _ _ => ?_
 refine .fin <| WP.seq <| rg 3 0 <| mv0 rfl rfl <| vg (DDag.opn 0 rfl) fun g848 h849 => ?_
 refine el H fun t850 h851 H => cll 2 [0,1] cal23 (Tr.weak (member_Joined.c h851 (b0_ := g848.1) (v0_0 := g848.2)) (.cons (wk_ptr h849) (.cons wk_id .nil))) ?_
 refine as0 rfl rfl <| .fin <| WP.seq <| rg 4 8 <| mv0 rfl rfl <| Dv.lit strK ([(⟨#[36, 98]⟩ : ByteArray)] : List ByteArray) (css := [[vS (⟨#[36, 98]⟩ : ByteArray)]]) rfl trivial Tryz.underlying29 Tryz.underlying9 c9 z9 rfl (by decide) (by decide) rfl ⟨(cells_one (one_eq rfl)), trivial⟩ rfl rfl rfl <| Dv.bld (css := [[vS (⟨#[36, 99]⟩ : ByteArray)], [vS (⟨#[33, 114, 58, 115]⟩ : ByteArray)], [vS (⟨#[64, 97, 58, 115]⟩ : ByteArray)], [vI 1], [sl strK ([(⟨#[36, 98]⟩ : ByteArray)] : List ByteArray)]]) rfl trivial Tryz.underlying43 pl43 z43 rfl ⟨(cells_one (one_eq rfl)), ⟨(cells_one (one_eq rfl)), ⟨(cells_one (one_eq rfl)), ⟨(cells_one (one_eq rfl)), ⟨(cells_one one_sl), trivial⟩⟩⟩⟩⟩ rfl rfl <| vg (DDag.shut (p := g842) (m := t846.2) (g848.1, g848.2) h849 (pm 2 [0,1])) fun _ _ => ?_
 refine el H fun t852 h853 H => cx 1 [0] cal17 (dag_Dag_Add.c h853 (p0_ := g842)) nofun fun _ _ => ?_
 refine .fin <| WP.seq <| rg 11 0 <| mv0 rfl rfl <| un0 rfl rfl (run_not _) <| mv0 rfl rfl ?_
 cases c854 : !t850
 ·
  replace H := Gets.cf H c854
  refine sk rfl rfl <| sk rfl rfl <| pf0 rfl rfl rfl <| mv0 rfl rfl <| sk rfl rfl <| sk rfl rfl <| pf0 rfl rfl rfl <| as0 rfl rfl <| .fin ?_
  obtain rfl := Gets.out H
  exact rt i2 rfl () 1 [0] 1 (.cons (res_tmp rfl) .nil)
 replace H := Gets.ct H c854
 refine mvg rfl rfl rfl <| vg (DDag.opn 0 rfl) fun g855 h856 => ?_
 refine el H fun t857 h858 H => cll 2 [0,1] cal23 (Tr.weak (member_Joined.c h858 (b0_ := g855.1) (v0_0 := g855.2)) (.cons (wk_ptr h856) (.cons wk_id .nil))) ?_
 refine pt0 rfl rfl rfl <| mv0 rfl rfl ?_
 cases c859 : t857
 ·
  replace H := Gets.cf H c859
  refine sk rfl rfl <| sk rfl rfl <| pf0 rfl rfl rfl <| as0 rfl rfl <| .fin <| wg (DDag.shut (p := g842) (m := t852.2) (g855.1, g855.2) h856 (pm 2 [0,1])) fun _ _ => ?_
  obtain rfl := Gets.out H
  exact rt i2 rfl () 1 [0] 1 (.cons (res_tmp rfl) .nil)
 replace H := Gets.ct H c859
 refine mvg rfl rfl rfl <| el H fun t860 h861 H => cll 2 [0,1] cal10 (Tr.weak (member_In.c h861 (b0_ := g855.1) (v0_0 := g855.2)) (.cons (wk_ptr h856) (.cons wk_id .nil))) ?_
 refine pt0 rfl rfl rfl <| as0 rfl rfl <| .fin <| wg (DDag.shut (p := g842) (m := t852.2) (g855.1, g855.2) h856 (pm 2 [0,1])) fun _ _ => ?_
 obtain rfl := Gets.out H
 exact rt i2 rfl () 1 [0] 1 (.cons (res_tmp rfl) .nil)
theorem concourseref07_All.c {k : Nat} {a0 : RDag} {r : (List Event)} (h : concourseref07_All.f k a0 = some r) : Pt Tryz.prog 41 [agg (RDag.enc a0)] (sl Event.K r) := by
 unfold concourseref07_All.f at h
 refine (Tr.body Tryz.func41 (c := _) rfl Tryz.ntmps41 (Nat.le_of_ble_eq_true rfl) fun R0 F => ?_).pt
 replace h := Gets.of h
 have H := h
 clear h
 refine WP.seq <| rg 2 1 <| Dv.box rfl trivial rfl cA nofun fun b951 => as0 rfl rfl <| .fin <| WP.seq <| rg 1 0 <| Dv.asgn Event.K rfl trivial rfl <| .fin <| WP.seqn H id (fun p952 : (List Event) × Int × Bool => [(0, agg (RDag.enc a0)), (1, eq (.pointer (some ⟨b951, 0, none⟩))), (2, eq (.slice none 0 0)), (3, sl Event.K p952.1), (4, vI p952.2.1), (11, vB p952.2.2)]) (fun p952 : (List Event) × Int × Bool => [blk b951 26 (RDag.enc a0)] ++ F) (fun p952 H => ?_) (fun H => ?_)
 ·
  refine WP.seq <| rg 2 0 <| mv0 rfl rfl <| as0 rfl rfl <| .fin ?_
  obtain rfl := Gets.out H
  exact rt i2 rfl () 1 [0] 1 (.cons (res_tmp rfl) .nil)
 refine WP.seq <| rg 1 0 <| as0 rfl rfl <| .fin <| WP.block <| wg (sg 1 [0] 0) fun _ _ => ?_
 refine lp (fun j_ (p982 : (List Event) × Int) => concourseref07_All.l0 k a0 j_ p982.1 p982.2) (([] : List Event), 0) H (fun p982 => [(0, agg (RDag.enc a0)), (1, eq (.pointer (some ⟨b951, 0, none⟩))), (2, eq (.slice none 0 0)), (3, sl Event.K p982.1), (4, vI p982.2)]) (fun p982 => [blk b951 26 (RDag.enc a0)] ++ F) ?_
 rintro j_ ⟨x953, x954⟩ H
 rcases j_ with _ | j981
 ·
  exact (Gets.no H).elim
 replace H : Gets (concourseref07_All.l0 k a0 (j981 + 1) x953 x954) _ := H
 rw [concourseref07_All.l0] at H
 refine WP.seq <| WP.seq <| rg 5 0 <| mv0 rfl rfl <| fb rfl trivial rfl fa26_1 <| ld 0 rfl trivial rfl sc24 rfl rfl <| Dv.lenl rfl trivial rfl Tryz.underlying24 <| bn0 rfl rfl rfl run_lt <| .fin <| cd H rfl (fun _ H => ?_) (fun _ H => ?_)
 rotate_left
 ·
  refine WP.exit ?_
  replace H := Gets.out H
  exact jn (x953, x954, decide (x954 < (a0.fL.length : Int))) H
 refine WP.skip <| WP.seqn H id (fun p956 : (List Event) × Int × Bool => [(0, agg (RDag.enc a0)), (1, eq (.pointer (some ⟨b951, 0, none⟩))), (2, eq (.slice none 0 0)), (3, sl Event.K p956.1), (4, vI x954), (5, vI p956.2.1), (11, vB (decide (x954 < (a0.fL.length : Int)))), (35, vB p956.2.2)]) (fun p956 : (List Event) × Int × Bool => [blk b951 26 (RDag.enc a0)] ++ F) (fun p956 H => ?_) (fun H => ?_)
 ·
  exact rg 3 0 <| mv0 rfl rfl <| bn0 rfl rfl rfl run_add <| as0 rfl rfl <| .fin <| bk j981 (p956.1, w64 (x954 + 1)) H
 refine WP.block <| WP.seq <| rg 1 0 <| as0 rfl rfl <| .fin <| WP.seqn H id (fun p957 : Int × Bool => [(0, agg (RDag.enc a0)), (1, eq (.pointer (some ⟨b951, 0, none⟩))), (2, eq (.slice none 0 0)), (3, sl Event.K x953), (4, vI x954), (5, vI p957.1), (11, vB (decide (x954 < (a0.fL.length : Int)))), (35, vB p957.2)]) (fun p957 : Int × Bool => [blk b951 26 (RDag.enc a0)] ++ F) (fun p957 H => ?_) (fun H => ?_)
 rotate_left
 ·
  refine WP.block <| wg (sg 1 [0] 0) fun _ _ => ?_
  refine lp (fun j_ (p980 : Int) => concourseref07_All.l1 k a0 x953 x954 j_ p980) 0 H (fun p980 => [(0, agg (RDag.enc a0)), (1, eq (.pointer (some ⟨b951, 0, none⟩))), (2, eq (.slice none 0 0)), (3, sl Event.K x953), (4, vI x954), (5, vI p980), (11, vB (decide (x954 < (a0.fL.length : Int))))]) (fun p980 => [blk b951 26 (RDag.enc a0)] ++ F) ?_
  rintro j_ x967 H
  rcases j_ with _ | j979
  ·
   exact (Gets.no H).elim
  replace H : Gets (concourseref07_All.l1 k a0 x953 x954 (j979 + 1) x967) _ := H
  rw [concourseref07_All.l1] at H
  refine WP.seq <| WP.seq <| dg Tryz.checked.mixed 22 0 <| mv0 rfl rfl <| mv0 rfl rfl <| Dv.lenl rfl trivial rfl Tryz.underlying24 <| bn0 rfl rfl rfl run_lt <| mv0 rfl rfl ?_
  cases c968 : decide (x967 < (x953.length : Int))
  ·
   replace H := Gets.cf H c968
   refine sk rfl rfl <| sk rfl rfl <| sk rfl rfl <| sk rfl rfl <| sk rfl rfl <| sk rfl rfl <| sk rfl rfl <| sk rfl rfl <| sk rfl rfl <| sk rfl rfl <| sk rfl rfl <| sk rfl rfl <| sk rfl rfl <| sk rfl rfl <| sk rfl rfl <| sk rfl rfl <| pf0 rfl rfl rfl <| .fin <| WP.cond rfl nofun (fun _ => ?_)
   refine WP.exit ?_
   replace H := Gets.out H
   exact jn (x967, false) H
  replace H := Gets.ct H c968
  refine lds 0 rfl (gg rfl) rfl sg26 rfl rfl <| mvg rfl rfl rfl <| mvg rfl rfl rfl <| gr H fun g969 H => Dv.ixr rfl (gg rfl) rfl rfl Tryz.underlying24 Tryz.underlying43 c43 g969.1 g969.2 <| fr rfl (gg rfl) rfl fa43_0 rfl <| ldR rfl (gg rfl) rfl sc9 rfl <| el H fun t970 h971 H => Dv.call rfl (gg rfl) cal44 rfl (concourseref07_Position.c h971) <| lds 0 rfl (gg rfl) rfl sg26 rfl rfl <| fb rfl (gg rfl) rfl fa26_1 <| ld 0 rfl (gg rfl) rfl sc24 rfl rfl <| mvg rfl rfl rfl <| gr H fun g972 H => Dv.ixr rfl (gg rfl) rfl rfl Tryz.underlying24 Tryz.underlying43 c43 g972.1 g972.2 <| fr rfl (gg rfl) rfl fa43_0 rfl <| ldR rfl (gg rfl) rfl sc9 rfl <| el H fun t973 h974 H => Dv.call rfl (gg rfl) cal44 rfl (concourseref07_Position.c h974) <| el H fun t975 h976 H => Dv.call rfl (gg rfl) cal43 rfl (concourseref07_Before.c h976) <| pt0 rfl rfl rfl <| .fin <| cd H rfl (fun _ H => ?_) (fun _ H => ?_)
  rotate_left
  ·
   refine WP.exit ?_
   replace H := Gets.out H
   exact jn (x967, t975) H
  exact WP.skip <| WP.block <| rg 3 0 <| mv0 rfl rfl <| bn0 rfl rfl rfl run_add <| as0 rfl rfl <| .fin <| bk j979 (w64 (x967 + 1)) H
 refine WP.seq <| rg 1 0 <| as0 rfl rfl <| .fin <| WP.seq <| rg 6 16 <| mv0 rfl rfl <| mv0 rfl rfl <| mv0 rfl rfl <| gr H fun g958 H => Dv.sls rfl trivial rfl Tryz.underlying24 Tryz.underlying43 c43 bdE_none (bdE_some rfl g958.1) g958.2.1 g958.2.2 <| vg (st_nil Event.K none) fun _ _ => ?_
 refine gr H fun g959 H => ap Event.K 0 ((x953.take p957.1.toNat).drop 0) src_sl Tryz.underlying24 (.inr ⟨_, Tryz.underlying24⟩) inf43 g959 nofun fun v960 => ?_
 refine as0 rfl rfl <| .fin <| WP.seq <| rg 9 128 <| mv0 rfl rfl <| fb rfl trivial rfl fa26_1 <| ld 1 rfl trivial rfl sc24 rfl rfl <| mv0 rfl rfl <| gr H fun g961 H => Dv.ixr rfl trivial rfl rfl Tryz.underlying24 Tryz.underlying43 c43 g961.1 g961.2 <| ldsR rfl trivial rfl sg43 rfl <| Dv.lit Event.K ([Event.K.at a0.fL x954] : List Event) (css := [Event.enc (Event.K.at a0.fL x954)]) rfl trivial Tryz.underlying24 Tryz.underlying43 c43 z43 rfl (by decide) (by decide) rfl ⟨(cells_agg (Event.K.one _)), trivial⟩ rfl rfl rfl <| gr H fun g962 H => ap Event.K 0 ([Event.K.at a0.fL x954] : List Event) src_sl Tryz.underlying24 (.inr ⟨_, Tryz.underlying24⟩) inf43 g962 nofun fun v963 => ?_
 refine as0 rfl rfl <| .fin <| rg 6 16 <| mv0 rfl rfl <| mv0 rfl rfl <| mv0 rfl rfl <| gr H fun g964 H => Dv.sls rfl trivial rfl Tryz.underlying24 Tryz.underlying43 c43 (bdE_some rfl g964.1) bdE_none g964.2.1 g964.2.2 <| gr H fun g965 H => ap Event.K 0 ((x953.take x953.length).drop p957.1.toNat) src_sl Tryz.underlying24 (.inr ⟨_, Tryz.underlying24⟩) inf43 g965 nofun fun v966 => ?_
 refine Dv.gh (gh_frz (E' := [(0, agg (RDag.enc a0)), (1, eq (.pointer (some ⟨b951, 0, none⟩))), (2, eq (.slice none 0 0)), (3, sl Event.K x953), (4, vI x954), (5, vI p957.1), (11, vB (decide (x954 < (a0.fL.length : Int)))), (35, vB p957.2), (55, sl Event.K (((([] : List Event) ++ ((x953.take p957.1.toNat).drop 0)) ++ ([Event.K.at a0.fL x954] : List Event)) ++ ((x953.take x953.length).drop p957.1.toNat)))]) (l' := [blk b951 26 (RDag.enc a0)] ++ F) 0 rfl (cve_cons rfl cv_id (cve_cons rfl cv_id (cve_cons rfl cv_id (cve_cons rfl cv_id (cve_cons rfl cv_id (cve_cons rfl cv_id (cve_cons rfl cv_id (cve_cons rfl cv_id (cve_cons rfl cv_eq cve_nil))))))))) (all2_app (.cons cva_id .nil) fun _ => cva_id)) (fun _ _ => ?_)
 refine as0 rfl rfl <| .fin ?_
 replace H := Gets.out H
 exact jn (((([] : List Event) ++ ((x953.take p957.1.toNat).drop 0)) ++ ([Event.K.at a0.fL x954] : List Event)) ++ ((x953.take x953.length).drop p957.1.toNat), p957.1, p957.2) H
end Go.Proofs.YtdbinmknbmlddaaGreat
