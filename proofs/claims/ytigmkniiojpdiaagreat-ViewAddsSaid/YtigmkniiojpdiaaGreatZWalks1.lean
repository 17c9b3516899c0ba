/- The walks. -/
import Derived.Test.YtigmkniiojpdiaaGreatZMir
import Derived.Test.YtigmkniiojpdiaaGreatConQ
import Derived.Test.YtigmkniiojpdiaaGreatConA3
import Derived.Eval
import Derived.Test.YtigmkniiojpdiaaGreatZShelf
set_option linter.all false
set_option maxRecDepth 10000
set_option maxHeartbeats 20000000
namespace Go.Proofs.YtigmkniiojpdiaaGreat
open Go Go.Sp
theorem dag_New.c {a0 : ByteArray} {r : DDag} (h : dag_New.f a0 = some r) : Tr Tryz.prog 84 [vS a0] [] (γ := OV) (fun _ => True) (fun g => eq g.1) (fun g => [DDag.O g r]) := by
 unfold dag_New.f at h
 refine Tr.body Tryz.func84 (c := _) rfl Tryz.ntmps84 (Nat.le_of_ble_eq_true rfl) fun R0 F => ?_
 replace h := Gets.of h
 have H := h
 clear h
 refine WP.seq <| rg 1 0 <| as0 rfl rfl <| .fin <| WP.seq <| rg 5 10 <| mv0 rfl rfl <| Dv.mmk Value.string (fun p : OV => eq p.1) rfl trivial nofun (fun v1 => ?_)
 refine vg (mpo_new DNode.O) fun _ _ => ?_
 refine Dv.bld (qs := [vS a0, eq v1.1]) (css := [[vS a0], [eq v1.1]]) rfl trivial Tryz.underlying102 pl102 z102 rfl ⟨(cells_one (one_eq rfl)), ⟨(cells_one one_ov), trivial⟩⟩ rfl rfl <| Dv.box rfl trivial rfl cA nofun fun b2 => as0 rfl rfl <| .fin <| wg (DDag.shut (p := (⟨.pointer (some ⟨b2, 0, none⟩), rfl⟩ : OV)) (m := (⟨a0, ([] : List (ByteArray × DNode))⟩ : DDag)) (b2, v1) rfl (pm 2 [0,1])) fun _ _ => ?_
 obtain rfl := Gets.out H
 exact rt i2 rfl (⟨.pointer (some ⟨b2, 0, none⟩), rfl⟩ : OV) 1 [0] 0 (.cons (res_tmp rfl) .nil)
theorem view_View_room.r {a0 : VView} {a1 : ByteArray} {r : DDag} (h : view_View_room.f a0 a1 = some r) : ∀ x, mget a0.fdags a1 = some x → x = r := fun x e => by
 unfold view_View_room.f at h; rw [e] at h; exact Option.some.inj h
theorem view_View_room.c {a0 : VView} {a1 : ByteArray} {b0_ : Nat} {v0_0 : OV} {r : DDag} (h : view_View_room.f a0 a1 = some r) : Tr Tryz.prog 52 [eq (.pointer (some ⟨b0_, 0, none⟩)), vS a1] [blk b0_ 80 [eq v0_0.1], mpo Value.string DDag.O v0_0.1 a0.fdags] (γ := OV) (fun _ => True) (fun g => eq g.1) (fun g => [blk b0_ 80 [eq v0_0.1], mpl Value.string DDag.O v0_0.1 a0.fdags a1 g, DDag.O g r]) := by
 unfold view_View_room.f at h
 refine Tr.body Tryz.func52 (c := _) rfl Tryz.ntmps52 (Nat.le_of_ble_eq_true rfl) fun R0 F => ?_
 replace h := Gets.of h
 have H := h
 clear h
 refine WP.seq <| WP.reg [(0, false)] (by kernel_rfl) <| as0 rfl rfl <| .fin <| WP.seq <| WP.seq <| WP.reg [(0, false), (1, false), (2, false), (3, false), (4, false), (5, false), (6, false)] (by kernel_rfl) <| mv0 rfl rfl <| Dv.nilp rfl trivial rfl <| Dv.fab rfl trivial rfl Tryz.underlying80 rfl Tryz.underlying78 c78 (by decide) <| Dv.ldb rfl trivial rfl Tryz.underlying78 rfl (mem_at 0 rfl) rfl <| mv0 rfl rfl <| vg (mpo_opn 1 rfl) fun z1 h1 => ?_
 refine Dv.mlv nilP rfl trivial rfl (mem_at 0 rfl) rfl Tryz.underlying78 (keyOk_str Tryz.underlying9) z76 (fun _ => rfl) <| as0 rfl rfl <| .fin <| WP.seq <| WP.reg [(0, false), (1, false)] (by kernel_rfl) <| mv0 rfl rfl <| Dv.pm1 (pm_nil h1 rfl) rfl trivial rfl rfl Tryz.underlying76 <| .fin <| WP.cond rfl (fun c1 => ?_) (fun c1 => ?_)
 ·
  have e1 : (mget a0.fdags a1).isSome = true := by cases e : mget a0.fdags a1 with | none => rw [e] at c1; cases c1 | some _ => rfl
  replace H := Gets.ct H e1
  obtain rfl := Gets.out H
  refine WP.seq <| WP.reg [(0, false), (1, false)] (by kernel_rfl) <| mv0 rfl rfl <| as0 rfl rfl <| .fin <| wg (mpl_some h1 rfl e1 (pm 3 [0,1,2])) fun _ _ => ?_
  exact rt i2 rfl ((mget (zipK a0.fdags z1) a1).getD nilP) 3 [2,0,1] 0 (.cons (res_tmp rfl) .nil)
 have e1 : (mget a0.fdags a1).isSome = false := by cases e : mget a0.fdags a1 with | none => rfl | some _ => rw [e] at c1; cases c1
 replace H := Gets.cf H e1
 refine WP.skip <| WP.seq <| WP.reg [(0, false), (1, true), (2, false)] (by kernel_rfl) <| mv0 rfl rfl <| cx 0 [] cal84 (dag_New.c (by obtain ⟨_, e, rfl⟩ := H; exact e)) nofun fun g2 _ => ?_
 refine as0 rfl rfl <| .fin <| wg (mpl_none g2 h1 rfl e1 (pm 4 [1,2,0,3])) fun _ _ => ?_
 exact rt i2 rfl g2 3 [2,0,1] 0 (.cons (res_tmp rfl) .nil)
theorem slices_IndexFunc_string_x.c {k : Nat} {a0 : List ByteArray} {a1 : (ByteArray → Option Bool)} {X1_ : As} {r : Int} (h : slices_IndexFunc_string_x.f k a0 a1 = some r) : Tr Tryz.prog 96 [sl strK a0, fx_string_bool X1_ a1] [X1_] (γ := Unit) (fun _ => True) (fun g => vI r) (fun g => [X1_]) := by
 unfold slices_IndexFunc_string_x.f at h
 refine Tr.body Tryz.func96 (c := _) rfl Tryz.ntmps96 (Nat.le_of_ble_eq_true rfl) fun R0 F => ?_
 replace h := Gets.of h
 have H := h
 clear h
 refine WP.seq <| rg 1 0 <| as0 rfl rfl <| .fin <| WP.seqr H id (fun p3 : Int × Bool => [(0, sl strK a0), (1, fx_string_bool X1_ a1), (4, vI 0), (7, vI (a0.length : Int)), (8, vI p3.1), (9, vB p3.2)]) (fun p3 : Int × Bool => [X1_] ++ F) (fun p3 H => ?_) (fun H => ?_)
 ·
  refine WP.seq <| rg 1 0 <| as0 rfl rfl <| .fin ?_
  obtain rfl := Gets.out H
  exact rt i2 rfl () 1 [0] 0 (.cons (res_tmp rfl) .nil)
 refine WP.seq <| rg 3 0 <| mv0 rfl rfl <| Dv.lenl rfl trivial rfl Tryz.underlying31 <| mv0 rfl rfl <| .fin <| WP.block <| wg (sg 1 [0] 0) fun _ _ => ?_
 refine lp (fun j_ (p11 : Int) => slices_IndexFunc_string_x.l0 k a0 a1 j_ p11) 0 H (fun p11 => [(0, sl strK a0), (1, fx_string_bool X1_ a1), (4, vI 0), (7, vI (a0.length : Int)), (8, vI p11)]) (fun p11 => [X1_] ++ F) ?_
 rintro j_ x4 H
 rcases j_ with _ | j10
 ·
  exact (Gets.no H).elim
 replace H : Gets (slices_IndexFunc_string_x.l0 k a0 a1 (j10 + 1) x4) _ := H
 rw [slices_IndexFunc_string_x.l0] at H
 refine WP.seq <| rg 1 0 <| bn0 rfl rfl rfl run_lt <| .fin <| WP.seq <| cd H rfl (fun _ H => ?_) (fun _ H => ?_)
 rotate_left
 ·
  refine WP.exit ?_
  replace H := Gets.out H
  exact jn (x4, decide (x4 < (a0.length : Int))) H
 refine WP.skip <| WP.seq <| WP.block <| WP.seq <| rg 2 0 <| mv0 rfl rfl <| as0 rfl rfl <| .fin <| WP.seq <| rg 6 0 <| mv0 rfl rfl <| mv0 rfl rfl <| mv0 rfl rfl <| gr H fun g6 H => Dv.ixr rfl trivial rfl rfl Tryz.underlying31 Tryz.underlying9 c9 g6.1 g6.2 <| ldR rfl trivial rfl sc9 rfl <| el H fun t7 h8 H => Dv.callfx (ret := vB t7) (X := X1_) (F := F) rfl trivial rfl rfl ⟨_, _, h8, rfl, rfl⟩ (perm_to (L := [X1_]) (F := F) [0] rfl rfl rfl) <| .fin <| cd H rfl (fun _ H => ?_) (fun _ H => ?_)
 rotate_left
 ·
  exact WP.skip <| rg 2 0 <| bn0 rfl rfl rfl run_add <| mv0 rfl rfl <| .fin <| bk j10 (w64 (x4 + 1)) H
 refine WP.seq <| rg 2 0 <| mv0 rfl rfl <| as0 rfl rfl <| .fin ?_
 replace H := Gets.outr H
 obtain rfl := Gets.out H
 exact rt i2 rfl () 1 [0] 0 (.cons (res_tmp rfl) .nil)
theorem slices_ContainsFunc_string_x.c {k : Nat} {a0 : List ByteArray} {a1 : (ByteArray → Option Bool)} {X1_ : As} {r : Bool} (h : slices_ContainsFunc_string_x.f k a0 a1 = some r) : Tr Tryz.prog 62 [sl strK a0, fx_string_bool X1_ a1] [X1_] (γ := Unit) (fun _ => True) (fun g => vB r) (fun g => [X1_]) := by
 unfold slices_ContainsFunc_string_x.f at h
 refine Tr.body Tryz.func62 (c := _) rfl Tryz.ntmps62 (Nat.le_of_ble_eq_true rfl) fun R0 F => ?_
 replace h := Gets.of h
 have H := h
 clear h
 refine WP.seq <| rg 1 0 <| as0 rfl rfl <| .fin <| WP.seq <| rg 5 0 <| mv0 rfl rfl <| mv0 rfl rfl <| el H fun t12 h13 H => cll 1 [0] cal96 (slices_IndexFunc_string_x.c h13 (X1_ := X1_)) ?_
 refine bn0 rfl rfl rfl run_ge <| as0 rfl rfl <| .fin ?_
 obtain rfl := Gets.out H
 exact rt i2 rfl () 1 [0] 0 (.cons (res_tmp rfl) .nil)
theorem stringslite_HasPrefix.c {a0 : ByteArray} {a1 : ByteArray} {r : Bool} (h : stringslite_HasPrefix.f a0 a1 = some r) : Pt Tryz.prog 154 [vS a0, vS a1] (vB r) := by
 unfold stringslite_HasPrefix.f at h
 refine (Tr.body Tryz.func154 (c := _) rfl Tryz.ntmps154 (Nat.le_of_ble_eq_true rfl) fun R0 F => ?_).pt
 replace h := Gets.of h
 have H := h
 clear h
 refine WP.seq <| rg 1 0 <| as0 rfl rfl <| .fin <| WP.seq <| rg 14 0 <| mv0 rfl rfl <| Dv.lens rfl trivial rfl Tryz.underlying9 <| mv0 rfl rfl <| Dv.lens rfl trivial rfl Tryz.underlying9 <| bn0 rfl rfl rfl run_ge <| mv0 rfl rfl ?_
 cases c14 : decide ((a1.size : Int) ≤ (a0.size : Int))
 ·
  replace H := Gets.cf H c14
  refine sk rfl rfl <| sk rfl rfl <| sk rfl rfl <| sk rfl rfl <| sk rfl rfl <| sk rfl rfl <| pf0 rfl rfl rfl <| as0 rfl rfl <| .fin ?_
  obtain rfl := Gets.out H
  exact rt i2 rfl () 0 [] 0 (.cons (res_tmp rfl) .nil)
 replace H := Gets.ct H c14
 refine mvg rfl rfl rfl <| mvg rfl rfl rfl <| Dv.lens rfl (gg rfl) rfl Tryz.underlying9 <| gr H fun g15 H => Dv.sss rfl (gg rfl) rfl Tryz.underlying9 bdE_none (bdE_some rfl g15.1) g15.2.1 g15.2.2 <| mvg rfl rfl rfl <| bng rfl rfl rfl rfl run_seq <| pt0 rfl rfl rfl <| as0 rfl rfl <| .fin ?_
 obtain rfl := Gets.out H
 exact rt i2 rfl () 0 [] 0 (.cons (res_tmp rfl) .nil)
theorem stringslite_CutPrefix.c {a0 : ByteArray} {a1 : ByteArray} {r : ByteArray × Bool} (h : stringslite_CutPrefix.f a0 a1 = some r) : Pt Tryz.prog 140 [vS a0, vS a1] (tup [vS r.1, vB r.2]) := by
 unfold stringslite_CutPrefix.f at h
 refine (Tr.body Tryz.func140 (c := _) rfl Tryz.ntmps140 (Nat.le_of_ble_eq_true rfl) fun R0 F => ?_).pt
 replace h := Gets.of h
 have H := h
 clear h
 refine WP.seq <| rg 2 0 <| as0 rfl rfl <| as0 rfl rfl <| .fin <| WP.seq <| WP.seq <| rg 4 0 <| mv0 rfl rfl <| mv0 rfl rfl <| el H fun t16 h17 H => cl rfl cal154 rfl (stringslite_HasPrefix.c h17) <| un0 rfl rfl (run_not _) <| .fin <| cd H rfl (fun _ H => ?_) (fun _ H => ?_)
 ·
  refine WP.seq <| rg 3 0 <| mv0 rfl rfl <| as0 rfl rfl <| as0 rfl rfl <| .fin ?_
  obtain rfl := Gets.out H
  exact rt i2 rfl () 0 [] 0 (.cons (res_tmp rfl) (.cons (res_tmp rfl) .nil))
 refine WP.skip <| WP.seq <| rg 6 0 <| mv0 rfl rfl <| mv0 rfl rfl <| Dv.lens rfl trivial rfl Tryz.underlying9 <| gr H fun g19 H => Dv.sss rfl trivial rfl Tryz.underlying9 (bdE_some rfl g19.1) bdE_none g19.2.1 g19.2.2 <| as0 rfl rfl <| as0 rfl rfl <| .fin ?_
 obtain rfl := Gets.out H
 exact rt i2 rfl () 0 [] 0 (.cons (res_tmp rfl) (.cons (res_tmp rfl) .nil))
theorem strings_CutPrefix.c {a0 : ByteArray} {a1 : ByteArray} {r : ByteArray × Bool} (h : strings_CutPrefix.f a0 a1 = some r) : Pt Tryz.prog 126 [vS a0, vS a1] (tup [vS r.1, vB r.2]) := by
 unfold strings_CutPrefix.f at h
 refine (Tr.body Tryz.func126 (c := _) rfl Tryz.ntmps126 (Nat.le_of_ble_eq_true rfl) fun R0 F => ?_).pt
 replace h := Gets.of h
 have H := h
 clear h
 refine WP.seq <| rg 2 0 <| as0 rfl rfl <| as0 rfl rfl <| .fin <| WP.seq <| rg 7 0 <| mv0 rfl rfl <| mv0 rfl rfl <| el H fun t20 h21 H => cl rfl cal140 rfl (stringslite_CutPrefix.c h21) <| ex0 rfl trivial rfl rfl <| ex0 rfl trivial rfl rfl <| as0 rfl rfl <| as0 rfl rfl <| .fin ?_
 obtain rfl := Gets.out H
 exact rt i2 rfl () 0 [] 0 (.cons (res_tmp rfl) (.cons (res_tmp rfl) .nil))
theorem name_small.c {a0 : Int} {r : Bool} (h : name_small.f a0 = some r) : Pt Tryz.prog 156 [eq (.int .u8 a0)] (vB r) := by
 unfold name_small.f at h
 refine (Tr.body Tryz.func156 (c := _) rfl Tryz.ntmps156 (Nat.le_of_ble_eq_true rfl) fun R0 F => ?_).pt
 replace h := Gets.of h
 have H := h
 clear h
 refine WP.seq <| rg 1 0 <| as0 rfl rfl <| .fin <| WP.seq <| rg 15 0 <| mv0 rfl rfl <| bn0 rfl rfl rfl run_ge <| mv0 rfl rfl ?_
 cases c22 : decide (97 ≤ a0)
 ·
  replace H := Gets.cf H c22
  refine sk rfl rfl <| sk rfl rfl <| pf0 rfl rfl rfl <| mv0 rfl rfl <| mvg rfl rfl rfl <| bng rfl rfl rfl rfl run_ge <| mvg rfl rfl rfl ?_
  cases c25 : decide (48 ≤ a0)
  ·
   replace H := Gets.cf H c25
   refine sk rfl rfl <| sk rfl rfl <| pfg rfl rfl rfl rfl <| pf0 rfl rfl rfl <| as0 rfl rfl <| .fin ?_
   obtain rfl := Gets.out H
   exact rt i2 rfl () 0 [] 0 (.cons (res_tmp rfl) .nil)
  replace H := Gets.ct H c25
  refine mvg rfl rfl rfl <| bng rfl rfl rfl rfl run_le <| ptg rfl rfl rfl rfl <| pf0 rfl rfl rfl <| as0 rfl rfl <| .fin ?_
  obtain rfl := Gets.out H
  exact rt i2 rfl () 0 [] 0 (.cons (res_tmp rfl) .nil)
 replace H := Gets.ct H c22
 refine mvg rfl rfl rfl <| bng rfl rfl rfl rfl run_le <| pt0 rfl rfl rfl <| mv0 rfl rfl ?_
 cases c23 : decide (a0 ≤ 122)
 rotate_left
 ·
  replace H := Gets.ct H c23
  refine sk rfl rfl <| sk rfl rfl <| sk rfl rfl <| sku rfl rfl <| sku rfl rfl <| sk rfl rfl <| pt0 rfl rfl rfl <| as0 rfl rfl <| .fin ?_
  obtain rfl := Gets.out H
  exact rt i2 rfl () 0 [] 0 (.cons (res_tmp rfl) .nil)
 replace H := Gets.cf H c23
 refine mvg rfl rfl rfl <| bng rfl rfl rfl rfl run_ge <| mvg rfl rfl rfl ?_
 cases c24 : decide (48 ≤ a0)
 ·
  replace H := Gets.cf H c24
  refine sk rfl rfl <| sk rfl rfl <| pfg rfl rfl rfl rfl <| pf0 rfl rfl rfl <| as0 rfl rfl <| .fin ?_
  obtain rfl := Gets.out H
  exact rt i2 rfl () 0 [] 0 (.cons (res_tmp rfl) .nil)
 replace H := Gets.ct H c24
 refine mvg rfl rfl rfl <| bng rfl rfl rfl rfl run_le <| ptg rfl rfl rfl rfl <| pf0 rfl rfl rfl <| as0 rfl rfl <| .fin ?_
 obtain rfl := Gets.out H
 exact rt i2 rfl () 0 [] 0 (.cons (res_tmp rfl) .nil)
theorem stringslite_IndexByte.c {a0 : ByteArray} {a1 : Int} {r : Int} (h : stringslite_IndexByte.f a0 a1 = some r) : Pt Tryz.prog 162 [vS a0, eq (.int .u8 a1)] (vI r) := by
 unfold stringslite_IndexByte.f at h
 refine (Tr.body Tryz.func162 (c := _) rfl Tryz.ntmps162 (Nat.le_of_ble_eq_true rfl) fun R0 F => ?_).pt
 replace h := Gets.of h
 have H := h
 clear h
 refine WP.seq <| rg 1 0 <| as0 rfl rfl <| .fin <| WP.seq <| rg 4 0 <| mv0 rfl rfl <| mv0 rfl rfl <| Dv.cext rfl trivial rfl (xt_index Tryz.func167 (by kernel_rfl) rfl xf167 xg167) <| as0 rfl rfl <| .fin ?_
 obtain rfl := Gets.out H
 exact rt i2 rfl () 0 [] 0 (.cons (res_tmp rfl) .nil)
theorem strings_IndexByte.c {a0 : ByteArray} {a1 : Int} {r : Int} (h : strings_IndexByte.f a0 a1 = some r) : Pt Tryz.prog 157 [vS a0, eq (.int .u8 a1)] (vI r) := by
 unfold strings_IndexByte.f at h
 refine (Tr.body Tryz.func157 (c := _) rfl Tryz.ntmps157 (Nat.le_of_ble_eq_true rfl) fun R0 F => ?_).pt
 replace h := Gets.of h
 have H := h
 clear h
 refine WP.seq <| rg 1 0 <| as0 rfl rfl <| .fin <| WP.seq <| rg 4 0 <| mv0 rfl rfl <| mv0 rfl rfl <| el H fun t26 h27 H => cl rfl cal162 rfl (stringslite_IndexByte.c h27) <| as0 rfl rfl <| .fin ?_
 obtain rfl := Gets.out H
 exact rt i2 rfl () 0 [] 0 (.cons (res_tmp rfl) .nil)
theorem name_among_1.c {a0 : Int} {c0 : ByteArray} {r : Bool} (h : name_among_1.f a0 c0 = some r) : Pt Tryz.prog 155 [eq (.int .u8 a0), rp [vS c0]] (vB r) := by
 unfold name_among_1.f at h
 refine (Tr.body Tryz.func155 (c := _) rfl Tryz.ntmps155 (Nat.le_of_ble_eq_true rfl) fun R0 F => ?_).pt
 replace h := Gets.of h
 have H := h
 clear h
 refine WP.seq <| rg 1 0 <| as0 rfl rfl <| .fin <| WP.seq <| rg 9 0 <| mv0 rfl rfl <| el H fun t28 h29 H => cl rfl cal156 rfl (name_small.c h29) <| mv0 rfl rfl ?_
 cases c30 : t28
 rotate_left
 ·
  replace H := Gets.ct H c30
  refine sk rfl rfl <| sk rfl rfl <| sk rfl rfl <| sk rfl rfl <| pt0 rfl rfl rfl <| as0 rfl rfl <| .fin ?_
  obtain rfl := Gets.out H
  exact rt i2 rfl () 0 [] 0 (.cons (res_tmp rfl) .nil)
 replace H := Gets.cf H c30
 refine ldR rfl (gg rfl) rfl sc9 rfl <| mvg rfl rfl rfl <| el H fun t31 h32 H => Dv.call rfl (gg rfl) cal157 rfl (strings_IndexByte.c h32) <| bng rfl rfl rfl rfl run_ge <| pf0 rfl rfl rfl <| as0 rfl rfl <| .fin ?_
 obtain rfl := Gets.out H
 exact rt i2 rfl () 0 [] 0 (.cons (res_tmp rfl) .nil)
theorem name_among.c {a0 : ByteArray} {r : (Int → Option Bool)} (h : name_among.f a0 = some r) : Pt Tryz.prog 141 [vS a0] (fq_uint8_bool r) := by
 unfold name_among.f at h
 refine (Tr.body Tryz.func141 (c := _) rfl Tryz.ntmps141 (Nat.le_of_ble_eq_true rfl) fun R0 F => ?_).pt
 replace h := Gets.of h
 have H := h
 clear h
 refine WP.seq <| rg 2 1 <| Dv.box rfl trivial rfl cE nofun fun b33 => as0 rfl rfl <| .fin <| WP.seq <| rg 2 0 <| Dv.gh (gh_frzb (E' := [(0, vS a0), (1, rp [vS a0]), (2, eq .nilFunc)]) (l' := F) 0 rfl (cve_cons rfl cv_id (cve_cons rfl cv_eq (cve_cons rfl cv_id cve_nil))) (all2_app .nil fun _ => cva_id)) (fun _ _ => ?_)
 refine Dv.mkf (Q := fqQ_uint8_bool (fun a0_ => name_among_1.f a0_ a0)) cal155 (by rintro _ _ ⟨a0_, r_, h_, rfl, rfl⟩; exact name_among_1.c h_) rfl trivial rfl rfl <| as0 rfl rfl <| .fin ?_
 obtain rfl := Gets.out H
 exact rt i2 rfl () 0 [] 0 (.cons (res_tmp rfl) .nil)
theorem name_may.c {k : Nat} {a0 : ByteArray} {a1 : Int} {r : Bool} (h : name_may.f k a0 a1 = some r) : Pt Tryz.prog 127 [vS a0, vI a1] (vB r) := by
 unfold name_may.f at h
 refine (Tr.body Tryz.func127 (c := _) rfl Tryz.ntmps127 (Nat.le_of_ble_eq_true rfl) fun R0 F => ?_).pt
 replace h := Gets.of h
 have H := h
 clear h
 refine WP.seq <| rg 1 0 <| as0 rfl rfl <| .fin <| WP.seq <| rg 7 0 <| el H fun t34 h35 H => cl rfl cal141 rfl (name_among.c h35) <| el H fun t36 h37 H => cl rfl cal141 rfl (name_among.c h37) <| el H fun t38 h39 H => cl rfl cal141 rfl (name_among.c h39) <| Dv.blda (qs := [fq_uint8_bool t34, fq_uint8_bool t36, fq_uint8_bool t38]) (css := [[fq_uint8_bool t34], [fq_uint8_bool t36], [fq_uint8_bool t38]]) rfl trivial Tryz.underlying156 Tryz.underlying140 c140 z156 rfl ⟨(cells_one one_fnq), ⟨(cells_one one_fnq), ⟨(cells_one one_fnq), trivial⟩⟩⟩ rfl rfl <| mv0 rfl rfl <| gr H fun g40 H => Dv.ixa (Kd := fK_uint8_bool) (xs := ([t34, t36, t38] : List (Int → Option Bool))) rfl trivial rfl rfl rfl Tryz.underlying156 Tryz.underlying140 rfl c140 rfl rfl g40.1 g40.2 rfl <| as0 rfl rfl <| .fin <| WP.seqr H id (fun p41 : Int × Bool => [(0, vS a0), (1, vI a1), (4, vB false), (5, fq_uint8_bool (fK_uint8_bool.at ([t34, t36, t38] : List (Int → Option Bool)) a1)), (14, vI (a0.size : Int)), (15, vI p41.1), (16, vB p41.2)]) (fun p41 : Int × Bool => F) (fun p41 H => ?_) (fun H => ?_)
 ·
  refine WP.seq <| rg 8 0 <| mv0 rfl rfl <| bn0 rfl rfl rfl run_sne <| mv0 rfl rfl ?_
  cases c42 : !decide (a0 = (⟨#[]⟩ : ByteArray))
  ·
   replace H := Gets.cf H c42
   refine sk rfl rfl <| sk rfl rfl <| sk rfl rfl <| pf0 rfl rfl rfl <| as0 rfl rfl <| .fin ?_
   obtain rfl := Gets.out H
   exact rt i2 rfl () 0 [] 0 (.cons (res_tmp rfl) .nil)
  replace H := Gets.ct H c42
  refine mvg rfl rfl rfl <| Dv.lens rfl (gg rfl) rfl Tryz.underlying9 <| bng rfl rfl rfl rfl run_le <| pt0 rfl rfl rfl <| as0 rfl rfl <| .fin ?_
  obtain rfl := Gets.out H
  exact rt i2 rfl () 0 [] 0 (.cons (res_tmp rfl) .nil)
 refine WP.seq <| rg 3 0 <| mv0 rfl rfl <| Dv.lens rfl trivial rfl Tryz.underlying9 <| mv0 rfl rfl <| .fin <| WP.block <| wg (sg 0 [] 0) fun _ _ => ?_
 refine lp (fun j_ (p50 : Int) => name_may.l0 k a0 a1 t34 t36 t38 j_ p50) 0 H (fun p50 => [(0, vS a0), (1, vI a1), (4, vB false), (5, fq_uint8_bool (fK_uint8_bool.at ([t34, t36, t38] : List (Int → Option Bool)) a1)), (14, vI (a0.size : Int)), (15, vI p50)]) (fun p50 => F) ?_
 rintro j_ x43 H
 rcases j_ with _ | j49
 ·
  exact (Gets.no H).elim
 replace H : Gets (name_may.l0 k a0 a1 t34 t36 t38 (j49 + 1) x43) _ := H
 rw [name_may.l0] at H
 refine WP.seq <| rg 1 0 <| bn0 rfl rfl rfl run_lt <| .fin <| WP.seq <| cd H rfl (fun _ H => ?_) (fun _ H => ?_)
 rotate_left
 ·
  refine WP.exit ?_
  replace H := Gets.out H
  exact jn (x43, decide (x43 < (a0.size : Int))) H
 refine WP.skip <| WP.seq <| WP.block <| WP.seq <| rg 2 0 <| mv0 rfl rfl <| as0 rfl rfl <| .fin <| WP.seq <| rg 6 0 <| mv0 rfl rfl <| mv0 rfl rfl <| mv0 rfl rfl <| gr H fun g45 H => Dv.ixs rfl trivial rfl rfl Tryz.underlying9 g45.1 g45.2 <| el H fun t46 h47 H => Dv.callq (ret := vB t46) rfl trivial rfl rfl ⟨_, _, h47, rfl, rfl⟩ <| un0 rfl rfl (run_not _) <| .fin <| cd H rfl (fun _ H => ?_) (fun _ H => ?_)
 rotate_left
 ·
  exact WP.skip <| rg 2 0 <| bn0 rfl rfl rfl run_add <| mv0 rfl rfl <| .fin <| bk j49 (w64 (x43 + 1)) H
 refine WP.seq <| rg 1 0 <| as0 rfl rfl <| .fin ?_
 replace H := Gets.outr H
 obtain rfl := Gets.out H
 exact rt i2 rfl () 0 [] 0 (.cons (res_tmp rfl) .nil)
theorem name_Event.c {k : Nat} {a0 : ByteArray} {r : Bool} (h : name_Event.f k a0 = some r) : Pt Tryz.prog 104 [vS a0] (vB r) := by
 unfold name_Event.f at h
 refine (Tr.body Tryz.func104 (c := _) rfl Tryz.ntmps104 (Nat.le_of_ble_eq_true rfl) fun R0 F => ?_).pt
 replace h := Gets.of h
 have H := h
 clear h
 refine WP.seq <| rg 1 0 <| as0 rfl rfl <| .fin <| WP.seq <| rg 7 0 <| mv0 rfl rfl <| el H fun t51 h52 H => cl rfl cal126 rfl (strings_CutPrefix.c h52) <| mv0 rfl rfl <| ex0 rfl trivial rfl rfl <| ex0 rfl trivial rfl rfl <| as0 rfl rfl <| as0 rfl rfl <| .fin <| WP.seq <| rg 6 0 <| mv0 rfl rfl <| mv0 rfl rfl ?_
 cases c53 : t51.2
 ·
  replace H := Gets.cf H c53
  refine sk rfl rfl <| sk rfl rfl <| pf0 rfl rfl rfl <| as0 rfl rfl <| .fin ?_
  obtain rfl := Gets.out H
  exact rt i2 rfl () 0 [] 0 (.cons (res_tmp rfl) .nil)
 replace H := Gets.ct H c53
 refine mvg rfl rfl rfl <| el H fun t54 h55 H => Dv.call rfl (gg rfl) cal127 rfl (name_may.c h55) <| pt0 rfl rfl rfl <| as0 rfl rfl <| .fin ?_
 obtain rfl := Gets.out H
 exact rt i2 rfl () 0 [] 0 (.cons (res_tmp rfl) .nil)
theorem bytealg_Cutover.c {a0 : Int} {r : Int} (h : bytealg_Cutover.f a0 = some r) : Pt Tryz.prog 165 [vI a0] (vI r) := by
 unfold bytealg_Cutover.f at h
 refine (Tr.body Tryz.func165 (c := _) rfl Tryz.ntmps165 (Nat.le_of_ble_eq_true rfl) fun R0 F => ?_).pt
 replace h := Gets.of h
 have H := h
 clear h
 refine WP.seq <| rg 1 0 <| as0 rfl rfl <| .fin <| WP.seq <| rg 4 0 <| mv0 rfl rfl <| bn0 rfl rfl rfl run_add <| bn0 rfl rfl rfl (run_quo (by decide)) <| as0 rfl rfl <| .fin ?_
 obtain rfl := Gets.out H
 exact rt i2 rfl () 0 [] 0 (.cons (res_tmp rfl) .nil)
theorem stringslite_Index.c {a0 : ByteArray} {a1 : ByteArray} {r : Int} (h : stringslite_Index.f a0 a1 = some r) : Pt Tryz.prog 161 [vS a0, vS a1] (vI r) := by
 unfold stringslite_Index.f at h
 refine (Tr.body Tryz.func161 (c := _) rfl Tryz.ntmps161 (Nat.le_of_ble_eq_true rfl) fun R0 F => ?_).pt
 replace h := Gets.of h
 have H := h
 clear h
 refine WP.seq <| rg 1 0 <| as0 rfl rfl <| .fin <| WP.seq <| rg 3 0 <| mv0 rfl rfl <| Dv.lens rfl trivial rfl Tryz.underlying9 <| as0 rfl rfl <| .fin <| WP.seq <| WP.block <| WP.seq <| rg 8 0 <| mv0 rfl rfl <| bn0 rfl rfl rfl run_eq <| mv0 rfl rfl ?_
 cases c58 : ((a1.size : Int) == 0)
 rotate_left
 ·
  replace H := Gets.ct H c58
  refine sk rfl rfl <| sk rfl rfl <| sk rfl rfl <| pt0 rfl rfl rfl <| as0 rfl rfl <| .fin <| WP.cond rfl (fun _ => ?_) nofun
  refine WP.seq <| rg 1 0 <| as0 rfl rfl <| .fin ?_
  obtain rfl := Gets.out H
  exact rt i2 rfl () 0 [] 0 (.cons (res_tmp rfl) .nil)
 replace H := Gets.cf H c58
 refine mvg rfl rfl rfl <| mvg rfl rfl rfl <| bng rfl rfl rfl rfl run_seq <| pf0 rfl rfl rfl <| as0 rfl rfl <| .fin <| cd H rfl (fun _ H => ?_) (fun _ H => ?_)
 ·
  refine WP.seq <| rg 1 0 <| as0 rfl rfl <| .fin ?_
  obtain rfl := Gets.out H
  exact rt i2 rfl () 0 [] 0 (.cons (res_tmp rfl) .nil)
 refine WP.seq <| rg 3 0 <| mv0 rfl rfl <| bn0 rfl rfl rfl run_eq <| as0 rfl rfl <| .fin <| cd H rfl (fun _ H => ?_) (fun _ H => ?_)
 ·
  refine WP.seq <| rg 5 0 <| mv0 rfl rfl <| mv0 rfl rfl <| gr H fun g62 H => Dv.ixs rfl trivial rfl rfl Tryz.underlying9 g62.1 g62.2 <| el H fun t63 h64 H => cl rfl cal162 rfl (stringslite_IndexByte.c h64) <| as0 rfl rfl <| .fin ?_
  obtain rfl := Gets.out H
  exact rt i2 rfl () 0 [] 0 (.cons (res_tmp rfl) .nil)
 refine WP.seq <| rg 5 0 <| mv0 rfl rfl <| mv0 rfl rfl <| Dv.lens rfl trivial rfl Tryz.underlying9 <| bn0 rfl rfl rfl run_ge <| as0 rfl rfl <| .fin <| cd H rfl (fun _ H => ?_) (fun _ H => ?_)
 rotate_left
 ·
  exact (Gets.no H).elim
 refine WP.seq <| rg 1 0 <| as0 rfl rfl <| .fin ?_
 obtain rfl := Gets.out H
 exact rt i2 rfl () 0 [] 0 (.cons (res_tmp rfl) .nil)
theorem stringslite_Cut.c {a0 : ByteArray} {a1 : ByteArray} {r : ByteArray × ByteArray × Bool} (h : stringslite_Cut.f a0 a1 = some r) : Pt Tryz.prog 153 [vS a0, vS a1] (tup [vS r.1, vS r.2.1, vB r.2.2]) := by
 unfold stringslite_Cut.f at h
 refine (Tr.body Tryz.func153 (c := _) rfl Tryz.ntmps153 (Nat.le_of_ble_eq_true rfl) fun R0 F => ?_).pt
 replace h := Gets.of h
 have H := h
 clear h
 refine WP.seq <| rg 3 0 <| as0 rfl rfl <| as0 rfl rfl <| as0 rfl rfl <| .fin <| WP.seq <| WP.seq <| rg 4 0 <| mv0 rfl rfl <| mv0 rfl rfl <| el H fun t66 h67 H => cl rfl cal161 rfl (stringslite_Index.c h67) <| as0 rfl rfl <| .fin <| WP.seq <| rg 2 0 <| mv0 rfl rfl <| bn0 rfl rfl rfl run_ge <| .fin <| cd H rfl (fun _ H => ?_) (fun _ H => ?_)
 rotate_left
 ·
  refine WP.skip <| WP.seq <| rg 4 0 <| mv0 rfl rfl <| as0 rfl rfl <| as0 rfl rfl <| as0 rfl rfl <| .fin ?_
  obtain rfl := Gets.out H
  exact rt i2 rfl () 0 [] 0 (.cons (res_tmp rfl) (.cons (res_tmp rfl) (.cons (res_tmp rfl) .nil)))
 refine WP.seq <| dg Tryz.checked.mixed 12 0 <| mv0 rfl rfl <| mv0 rfl rfl <| gr H fun g69 H => Dv.sss rfl trivial rfl Tryz.underlying9 bdE_none (bdE_some rfl g69.1) g69.2.1 g69.2.2 <| mv0 rfl rfl <| mv0 rfl rfl <| mv0 rfl rfl <| Dv.lens rfl trivial rfl Tryz.underlying9 <| bn0 rfl rfl rfl run_add <| gr H fun g70 H => Dv.sss rfl trivial rfl Tryz.underlying9 (bdE_some rfl g70.1) bdE_none g70.2.1 g70.2.2 <| as0 rfl rfl <| as0 rfl rfl <| as0 rfl rfl <| .fin ?_
 obtain rfl := Gets.out H
 exact rt i2 rfl () 0 [] 0 (.cons (res_tmp rfl) (.cons (res_tmp rfl) (.cons (res_tmp rfl) .nil)))
theorem strings_Cut.c {a0 : ByteArray} {a1 : ByteArray} {r : ByteArray × ByteArray × Bool} (h : strings_Cut.f a0 a1 = some r) : Pt Tryz.prog 139 [vS a0, vS a1] (tup [vS r.1, vS r.2.1, vB r.2.2]) := by
 unfold strings_Cut.f at h
 refine (Tr.body Tryz.func139 (c := _) rfl Tryz.ntmps139 (Nat.le_of_ble_eq_true rfl) fun R0 F => ?_).pt
 replace h := Gets.of h
 have H := h
 clear h
 refine WP.seq <| rg 3 0 <| as0 rfl rfl <| as0 rfl rfl <| as0 rfl rfl <| .fin <| WP.seq <| rg 9 0 <| mv0 rfl rfl <| mv0 rfl rfl <| el H fun t71 h72 H => cl rfl cal153 rfl (stringslite_Cut.c h72) <| ex0 rfl trivial rfl rfl <| ex0 rfl trivial rfl rfl <| ex0 rfl trivial rfl rfl <| as0 rfl rfl <| as0 rfl rfl <| as0 rfl rfl <| .fin ?_
 obtain rfl := Gets.out H
 exact rt i2 rfl () 0 [] 0 (.cons (res_tmp rfl) (.cons (res_tmp rfl) (.cons (res_tmp rfl) .nil)))
theorem name_Server.c {k : Nat} {a0 : ByteArray} {r : Bool} (h : name_Server.f k a0 = some r) : Pt Tryz.prog 142 [vS a0] (vB r) := by
 unfold name_Server.f at h
 refine (Tr.body Tryz.func142 (c := _) rfl Tryz.ntmps142 (Nat.le_of_ble_eq_true rfl) fun R0 F => ?_).pt
 replace h := Gets.of h
 have H := h
 clear h
 refine WP.seq <| rg 1 0 <| as0 rfl rfl <| .fin <| WP.seq <| rg 16 0 <| mv0 rfl rfl <| el H fun t73 h74 H => cl rfl cal127 rfl (name_may.c h74) <| mv0 rfl rfl ?_
 cases c75 : t73
 ·
  replace H := Gets.cf H c75
  refine sk rfl rfl <| sk rfl rfl <| sk rfl rfl <| pf0 rfl rfl rfl <| mv0 rfl rfl <| sk rfl rfl <| sk rfl rfl <| sk rfl rfl <| sk rfl rfl <| sk rfl rfl <| sk rfl rfl <| pf0 rfl rfl rfl <| as0 rfl rfl <| .fin ?_
  obtain rfl := Gets.out H
  exact rt i2 rfl () 0 [] 0 (.cons (res_tmp rfl) .nil)
 replace H := Gets.ct H c75
 refine mvg rfl rfl rfl <| gr H fun g76 H => Dv.ixs rfl (gg rfl) rfl rfl Tryz.underlying9 g76.1 g76.2 <| el H fun t77 h78 H => Dv.call rfl (gg rfl) cal156 rfl (name_small.c h78) <| pt0 rfl rfl rfl <| mv0 rfl rfl ?_
 cases c79 : t77
 ·
  replace H := Gets.cf H c79
  refine sk rfl rfl <| sk rfl rfl <| sk rfl rfl <| sk rfl rfl <| sk rfl rfl <| sk rfl rfl <| pf0 rfl rfl rfl <| as0 rfl rfl <| .fin ?_
  obtain rfl := Gets.out H
  exact rt i2 rfl () 0 [] 0 (.cons (res_tmp rfl) .nil)
 replace H := Gets.ct H c79
 refine mvg rfl rfl rfl <| mvg rfl rfl rfl <| Dv.lens rfl (gg rfl) rfl Tryz.underlying9 <| bng rfl rfl rfl rfl run_sub <| gr H fun g80 H => Dv.ixs rfl (gg rfl) rfl rfl Tryz.underlying9 g80.1 g80.2 <| el H fun t81 h82 H => Dv.call rfl (gg rfl) cal156 rfl (name_small.c h82) <| pt0 rfl rfl rfl <| as0 rfl rfl <| .fin ?_
 obtain rfl := Gets.out H
 exact rt i2 rfl () 0 [] 0 (.cons (res_tmp rfl) .nil)
theorem name_split.c {k : Nat} {a0 : ByteArray} {a1 : ByteArray} {r : ByteArray × ByteArray × Bool} (h : name_split.f k a0 a1 = some r) : Pt Tryz.prog 128 [vS a0, vS a1] (tup [vS r.1, vS r.2.1, vB r.2.2]) := by
 unfold name_split.f at h
 refine (Tr.body Tryz.func128 (c := _) rfl Tryz.ntmps128 (Nat.le_of_ble_eq_true rfl) fun R0 F => ?_).pt
 replace h := Gets.of h
 have H := h
 clear h
 refine WP.seq <| rg 3 0 <| as0 rfl rfl <| as0 rfl rfl <| as0 rfl rfl <| .fin <| WP.seq <| rg 8 0 <| mv0 rfl rfl <| mv0 rfl rfl <| el H fun t83 h84 H => cl rfl cal126 rfl (strings_CutPrefix.c h84) <| mv0 rfl rfl <| ex0 rfl trivial rfl rfl <| ex0 rfl trivial rfl rfl <| as0 rfl rfl <| as0 rfl rfl <| .fin <| WP.seq <| rg 9 0 <| mv0 rfl rfl <| el H fun t85 h86 H => cl rfl cal139 rfl (strings_Cut.c h86) <| mv0 rfl rfl <| ex0 rfl trivial rfl rfl <| ex0 rfl trivial rfl rfl <| ex0 rfl trivial rfl rfl <| as0 rfl rfl <| as0 rfl rfl <| as0 rfl rfl <| .fin <| WP.seq <| rg 17 0 <| mv0 rfl rfl <| mv0 rfl rfl <| mv0 rfl rfl <| mv0 rfl rfl ?_
 cases c87 : t83.2
 ·
  replace H := Gets.cf H c87
  refine sk rfl rfl <| pf0 rfl rfl rfl <| mv0 rfl rfl <| sk rfl rfl <| sk rfl rfl <| pf0 rfl rfl rfl <| mv0 rfl rfl <| sk rfl rfl <| sk rfl rfl <| pf0 rfl rfl rfl <| as0 rfl rfl <| as0 rfl rfl <| as0 rfl rfl <| .fin ?_
  obtain rfl := Gets.out H
  exact rt i2 rfl () 0 [] 0 (.cons (res_tmp rfl) (.cons (res_tmp rfl) (.cons (res_tmp rfl) .nil)))
 replace H := Gets.ct H c87
 refine mvg rfl rfl rfl <| pt0 rfl rfl rfl <| mv0 rfl rfl ?_
 cases c88 : t85.2.2
 ·
  replace H := Gets.cf H c88
  refine sk rfl rfl <| sk rfl rfl <| pf0 rfl rfl rfl <| mv0 rfl rfl <| sk rfl rfl <| sk rfl rfl <| pf0 rfl rfl rfl <| as0 rfl rfl <| as0 rfl rfl <| as0 rfl rfl <| .fin ?_
  obtain rfl := Gets.out H
  exact rt i2 rfl () 0 [] 0 (.cons (res_tmp rfl) (.cons (res_tmp rfl) (.cons (res_tmp rfl) .nil)))
 replace H := Gets.ct H c88
 refine mvg rfl rfl rfl <| el H fun t89 h90 H => Dv.call rfl (gg rfl) cal127 rfl (name_may.c h90) <| pt0 rfl rfl rfl <| mv0 rfl rfl ?_
 cases c91 : t89
 ·
  replace H := Gets.cf H c91
  refine sk rfl rfl <| sk rfl rfl <| pf0 rfl rfl rfl <| as0 rfl rfl <| as0 rfl rfl <| as0 rfl rfl <| .fin ?_
  obtain rfl := Gets.out H
  exact rt i2 rfl () 0 [] 0 (.cons (res_tmp rfl) (.cons (res_tmp rfl) (.cons (res_tmp rfl) .nil)))
 replace H := Gets.ct H c91
 refine mvg rfl rfl rfl <| el H fun t92 h93 H => Dv.call rfl (gg rfl) cal142 rfl (name_Server.c h93) <| pt0 rfl rfl rfl <| as0 rfl rfl <| as0 rfl rfl <| as0 rfl rfl <| .fin ?_
 obtain rfl := Gets.out H
 exact rt i2 rfl () 0 [] 0 (.cons (res_tmp rfl) (.cons (res_tmp rfl) (.cons (res_tmp rfl) .nil)))
theorem name_Room.c {k : Nat} {a0 : ByteArray} {r : Bool} (h : name_Room.f k a0 = some r) : Pt Tryz.prog 105 [vS a0] (vB r) := by
 unfold name_Room.f at h
 refine (Tr.body Tryz.func105 (c := _) rfl Tryz.ntmps105 (Nat.le_of_ble_eq_true rfl) fun R0 F => ?_).pt
 replace h := Gets.of h
 have H := h
 clear h
 refine WP.seq <| rg 1 0 <| as0 rfl rfl <| .fin <| WP.seq <| rg 9 0 <| mv0 rfl rfl <| el H fun t94 h95 H => cl rfl cal128 rfl (name_split.c h95) <| mv0 rfl rfl <| ex0 rfl trivial rfl rfl <| ex0 rfl trivial rfl rfl <| ex0 rfl trivial rfl rfl <| as0 rfl rfl <| as0 rfl rfl <| as0 rfl rfl <| .fin <| WP.seq <| rg 2 0 <| mv0 rfl rfl <| as0 rfl rfl <| .fin ?_
 obtain rfl := Gets.out H
 exact rt i2 rfl () 0 [] 0 (.cons (res_tmp rfl) .nil)
theorem name_User.c {k : Nat} {a0 : ByteArray} {r : Bool} (h : name_User.f k a0 = some r) : Pt Tryz.prog 106 [vS a0] (vB r) := by
 unfold name_User.f at h
 refine (Tr.body Tryz.func106 (c := _) rfl Tryz.ntmps106 (Nat.le_of_ble_eq_true rfl) fun R0 F => ?_).pt
 replace h := Gets.of h
 have H := h
 clear h
 refine WP.seq <| rg 1 0 <| as0 rfl rfl <| .fin <| WP.seq <| rg 9 0 <| mv0 rfl rfl <| el H fun t96 h97 H => cl rfl cal128 rfl (name_split.c h97) <| mv0 rfl rfl <| ex0 rfl trivial rfl rfl <| ex0 rfl trivial rfl rfl <| ex0 rfl trivial rfl rfl <| as0 rfl rfl <| as0 rfl rfl <| as0 rfl rfl <| .fin <| WP.seq <| rg 2 0 <| mv0 rfl rfl <| as0 rfl rfl <| .fin ?_
 obtain rfl := Gets.out H
 exact rt i2 rfl () 0 [] 0 (.cons (res_tmp rfl) .nil)
theorem dag_May.c {k : Nat} {a0 : Event} {r : Bool} (h : dag_May.f k a0 = some r) : Pt Tryz.prog 85 [agg (Event.enc a0)] (vB r) := by
 unfold dag_May.f at h
 refine (Tr.body Tryz.func85 (c := _) rfl Tryz.ntmps85 (Nat.le_of_ble_eq_true rfl) fun R0 F => ?_).pt
 replace h := Gets.of h
 have H := h
 clear h
 refine WP.seq <| rg 2 1 <| Dv.box rfl trivial rfl cA nofun fun b98 => as0 rfl rfl <| .fin <| WP.scope <| WP.seq <| WP.seq <| rg 32 0 <| fb rfl trivial rfl fa33_0 <| ld 0 rfl trivial rfl sc9 rfl rfl <| el H fun t99 h100 H => cl rfl cal104 rfl (name_Event.c h100) <| un0 rfl rfl (run_not _) <| mv0 rfl rfl ?_
 cases c101 : !t99
 rotate_left
 ·
  replace H := Gets.ct H c101
  refine sk rfl rfl <| sk rfl rfl <| sk rfl rfl <| sk rfl rfl <| pt0 rfl rfl rfl <| mv0 rfl rfl <| sk rfl rfl <| sk rfl rfl <| sk rfl rfl <| sk rfl rfl <| pt0 rfl rfl rfl <| mv0 rfl rfl <| sk rfl rfl <| sk rfl rfl <| sk rfl rfl <| sk rfl rfl <| pt0 rfl rfl rfl <| mv0 rfl rfl <| sk rfl rfl <| sk rfl rfl <| sk rfl rfl <| pt0 rfl rfl rfl <| mv0 rfl rfl <| sk rfl rfl <| sk rfl rfl <| sk rfl rfl <| pt0 rfl rfl rfl <| .fin <| WP.cond rfl (fun _ => ?_) nofun
  refine WP.seq <| rg 1 0 <| as0 rfl rfl <| .fin ?_
  obtain rfl := Gets.out H
  exact rt i2 rfl () 1 [0] 1 (.cons (res_tmp rfl) .nil)
 replace H := Gets.cf H c101
 refine fb rfl (gg rfl) rfl fa33_1 <| ld 0 rfl (gg rfl) rfl sc9 rfl rfl <| el H fun t103 h104 H => Dv.call rfl (gg rfl) cal105 rfl (name_Room.c h104) <| ung rfl rfl rfl (run_not _) <| pf0 rfl rfl rfl <| mv0 rfl rfl ?_
 cases c105 : !t103
 rotate_left
 ·
  replace H := Gets.ct H c105
  refine sk rfl rfl <| sk rfl rfl <| sk rfl rfl <| sk rfl rfl <| pt0 rfl rfl rfl <| mv0 rfl rfl <| sk rfl rfl <| sk rfl rfl <| sk rfl rfl <| sk rfl rfl <| pt0 rfl rfl rfl <| mv0 rfl rfl <| sk rfl rfl <| sk rfl rfl <| sk rfl rfl <| pt0 rfl rfl rfl <| mv0 rfl rfl <| sk rfl rfl <| sk rfl rfl <| sk rfl rfl <| pt0 rfl rfl rfl <| .fin <| WP.cond rfl (fun _ => ?_) nofun
  refine WP.seq <| rg 1 0 <| as0 rfl rfl <| .fin ?_
  obtain rfl := Gets.out H
  exact rt i2 rfl () 1 [0] 1 (.cons (res_tmp rfl) .nil)
 replace H := Gets.cf H c105
 refine fb rfl (gg rfl) rfl fa33_4 <| ld 0 rfl (gg rfl) rfl sc9 rfl rfl <| el H fun t107 h108 H => Dv.call rfl (gg rfl) cal106 rfl (name_User.c h108) <| ung rfl rfl rfl (run_not _) <| pf0 rfl rfl rfl <| mv0 rfl rfl ?_
 cases c109 : !t107
 rotate_left
 ·
  replace H := Gets.ct H c109
  refine sk rfl rfl <| sk rfl rfl <| sk rfl rfl <| sk rfl rfl <| pt0 rfl rfl rfl <| mv0 rfl rfl <| sk rfl rfl <| sk rfl rfl <| sk rfl rfl <| pt0 rfl rfl rfl <| mv0 rfl rfl <| sk rfl rfl <| sk rfl rfl <| sk rfl rfl <| pt0 rfl rfl rfl <| .fin <| WP.cond rfl (fun _ => ?_) nofun
  refine WP.seq <| rg 1 0 <| as0 rfl rfl <| .fin ?_
  obtain rfl := Gets.out H
  exact rt i2 rfl () 1 [0] 1 (.cons (res_tmp rfl) .nil)
 replace H := Gets.cf H c109
 refine fb rfl (gg rfl) rfl fa33_2 <| ld 0 rfl (gg rfl) rfl sc31 rfl rfl <| Dv.lenl rfl (gg rfl) rfl Tryz.underlying31 <| bng rfl rfl rfl rfl run_gt <| pf0 rfl rfl rfl <| mv0 rfl rfl ?_
 cases c111 : decide (4 < (a0.fParents.length : Int))
 rotate_left
 ·
  replace H := Gets.ct H c111
  refine sk rfl rfl <| sk rfl rfl <| sk rfl rfl <| pt0 rfl rfl rfl <| mv0 rfl rfl <| sk rfl rfl <| sk rfl rfl <| sk rfl rfl <| pt0 rfl rfl rfl <| .fin <| WP.cond rfl (fun _ => ?_) nofun
  refine WP.seq <| rg 1 0 <| as0 rfl rfl <| .fin ?_
  obtain rfl := Gets.out H
  exact rt i2 rfl () 1 [0] 1 (.cons (res_tmp rfl) .nil)
 replace H := Gets.cf H c111
 refine fb rfl (gg rfl) rfl fa33_5 <| ld 0 rfl (gg rfl) rfl sc3 rfl rfl <| bng rfl rfl rfl rfl run_lt <| pf0 rfl rfl rfl <| mv0 rfl rfl ?_
 cases c113 : decide (a0.fDoes < 0)
 rotate_left
 ·
  replace H := Gets.ct H c113
  refine sk rfl rfl <| sk rfl rfl <| sk rfl rfl <| pt0 rfl rfl rfl <| .fin <| WP.cond rfl (fun _ => ?_) nofun
  refine WP.seq <| rg 1 0 <| as0 rfl rfl <| .fin ?_
  obtain rfl := Gets.out H
  exact rt i2 rfl () 1 [0] 1 (.cons (res_tmp rfl) .nil)
 replace H := Gets.cf H c113
 refine fb rfl (gg rfl) rfl fa33_5 <| ld 0 rfl (gg rfl) rfl sc3 rfl rfl <| bng rfl rfl rfl rfl run_gt <| pf0 rfl rfl rfl <| .fin <| cd H rfl (fun _ H => ?_) (fun _ H => ?_)
 ·
  refine WP.seq <| rg 1 0 <| as0 rfl rfl <| .fin ?_
  obtain rfl := Gets.out H
  exact rt i2 rfl () 1 [0] 1 (.cons (res_tmp rfl) .nil)
 refine WP.skip <| WP.seq <| WP.seq <| rg 21 0 <| fb rfl trivial rfl fa33_3 <| ld 0 rfl trivial rfl sc9 rfl rfl <| bn0 rfl rfl rfl run_sne <| mv0 rfl rfl ?_
 cases c116 : !decide (a0.fThread = (⟨#[]⟩ : ByteArray))
 ·
  replace H := Gets.cf H c116
  refine sk rfl rfl <| sk rfl rfl <| sk rfl rfl <| sk rfl rfl <| sk rfl rfl <| sku rfl rfl <| sku rfl rfl <| sku rfl rfl <| sku rfl rfl <| sku rfl rfl <| sk rfl rfl <| sk rfl rfl <| sku rfl rfl <| sku rfl rfl <| sku rfl rfl <| sk rfl rfl <| pf0 rfl rfl rfl <| .fin <| WP.cond rfl nofun (fun _ => ?_)
  refine WP.skip <| WP.seq <| rg 1 0 <| as0 rfl rfl <| .fin <| WP.seq <| WP.label <| WP.seqn H id (fun p141 : Bool × Int × Bool => [(0, agg (Event.enc a0)), (1, eq (.pointer (some ⟨b98, 0, none⟩))), (2, vB false), (3, vB p141.1), (37, vB (decide (2 < a0.fDoes))), (58, vB false), (60, sl strK a0.fParents), (61, vI (a0.fParents.length : Int)), (62, vI p141.2.1), (63, vB p141.2.2)]) (fun p141 : Bool × Int × Bool => [blk b98 33 (Event.enc a0)] ++ F) (fun p141 H => ?_) (fun H => ?_)
  ·
   refine WP.seq <| rg 2 0 <| mv0 rfl rfl <| as0 rfl rfl <| .fin ?_
   obtain rfl := Gets.out H
   exact rt i2 rfl () 1 [0] 1 (.cons (res_tmp rfl) .nil)
  refine WP.seq <| rg 4 0 <| fb rfl trivial rfl fa33_2 <| ld 0 rfl trivial rfl sc31 rfl rfl <| Dv.lenl rfl trivial rfl Tryz.underlying31 <| mv0 rfl rfl <| .fin <| WP.block <| wg (sg 1 [0] 0) fun _ _ => ?_
  refine lp (fun j_ (p156 : Int) => dag_May.l1 k a0 j_ p156) 0 H (fun p156 => [(0, agg (Event.enc a0)), (1, eq (.pointer (some ⟨b98, 0, none⟩))), (2, vB false), (3, vB true), (37, vB (decide (2 < a0.fDoes))), (58, vB false), (60, sl strK a0.fParents), (61, vI (a0.fParents.length : Int)), (62, vI p156)]) (fun p156 => [blk b98 33 (Event.enc a0)] ++ F) ?_
  rintro j_ x142 H
  rcases j_ with _ | j155
  ·
   exact (Gets.no H).elim
  replace H : Gets (dag_May.l1 k a0 (j155 + 1) x142) _ := H
  rw [dag_May.l1] at H
  refine WP.seq <| rg 1 0 <| bn0 rfl rfl rfl run_lt <| .fin <| WP.seq <| cd H rfl (fun _ H => ?_) (fun _ H => ?_)
  rotate_left
  ·
   refine WP.exit ?_
   replace H := Gets.out H
   exact jn (true, x142, decide (x142 < (a0.fParents.length : Int))) H
  refine WP.skip <| WP.seq <| WP.block <| WP.seq <| rg 5 0 <| mv0 rfl rfl <| gr H fun g144 H => Dv.ixr rfl trivial rfl rfl Tryz.underlying31 Tryz.underlying9 c9 g144.1 g144.2 <| ldR rfl trivial rfl sc9 rfl <| as0 rfl rfl <| as0 rfl rfl <| .fin <| WP.seq <| rg 23 0 <| mv0 rfl rfl <| el H fun t145 h146 H => cl rfl cal104 rfl (name_Event.c h146) <| un0 rfl rfl (run_not _) <| mv0 rfl rfl ?_
  cases c147 : !t145
  rotate_left
  ·
   replace H := Gets.ct H c147
   refine sk rfl rfl <| sk rfl rfl <| sk rfl rfl <| sk rfl rfl <| pt0 rfl rfl rfl <| mv0 rfl rfl <| sk rfl rfl <| sk rfl rfl <| sk rfl rfl <| sku rfl rfl <| sku rfl rfl <| sku rfl rfl <| sku rfl rfl <| sku rfl rfl <| sku rfl rfl <| sku rfl rfl <| sku rfl rfl <| sk rfl rfl <| pt0 rfl rfl rfl <| .fin <| WP.cond rfl (fun _ => ?_) nofun
   refine WP.seq <| rg 1 0 <| as0 rfl rfl <| .fin <| WP.exit ?_
   replace H := Gets.out H
   exact jn (false, x142, decide (x142 < (a0.fParents.length : Int))) H
  replace H := Gets.cf H c147
  refine mvg rfl rfl rfl <| fb rfl (gg rfl) rfl fa33_0 <| ld 0 rfl (gg rfl) rfl sc9 rfl rfl <| bng rfl rfl rfl rfl run_seq <| pf0 rfl rfl rfl <| mv0 rfl rfl ?_
  cases c149 : decide ((strK.at a0.fParents x142) = a0.fID)
  rotate_left
  ·
   replace H := Gets.ct H c149
   refine sk rfl rfl <| sk rfl rfl <| sk rfl rfl <| sku rfl rfl <| sku rfl rfl <| sku rfl rfl <| sku rfl rfl <| sku rfl rfl <| sku rfl rfl <| sku rfl rfl <| sku rfl rfl <| sk rfl rfl <| pt0 rfl rfl rfl <| .fin <| WP.cond rfl (fun _ => ?_) nofun
   refine WP.seq <| rg 1 0 <| as0 rfl rfl <| .fin <| WP.exit ?_
   replace H := Gets.out H
   exact jn (false, x142, decide (x142 < (a0.fParents.length : Int))) H
  replace H := Gets.cf H c149
  refine mvg rfl rfl rfl <| bng rfl rfl rfl rfl run_gt <| mvg rfl rfl rfl ?_
  cases c151 : decide (0 < x142)
  ·
   replace H := Gets.cf H c151
   refine sk rfl rfl <| sk rfl rfl <| sk rfl rfl <| sk rfl rfl <| sk rfl rfl <| sk rfl rfl <| sk rfl rfl <| sk rfl rfl <| pfg rfl rfl rfl rfl <| pf0 rfl rfl rfl <| .fin <| WP.cond rfl nofun (fun _ => ?_)
   exact WP.skip <| rg 2 0 <| bn0 rfl rfl rfl run_add <| mv0 rfl rfl <| .fin <| bk j155 (w64 (x142 + 1)) H
  replace H := Gets.ct H c151
  refine mvg rfl rfl rfl <| fb rfl (gg rfl) rfl fa33_2 <| ld 0 rfl (gg rfl) rfl sc31 rfl rfl <| mvg rfl rfl rfl <| bng rfl rfl rfl rfl run_sub <| gr H fun g152 H => Dv.ixr rfl (gg rfl) rfl rfl Tryz.underlying31 Tryz.underlying9 c9 g152.1 g152.2 <| ldR rfl (gg rfl) rfl sc9 rfl <| bng rfl rfl rfl rfl run_sle <| ptg rfl rfl rfl rfl <| pf0 rfl rfl rfl <| .fin <| cd H rfl (fun _ H => ?_) (fun _ H => ?_)
  rotate_left
  ·
   exact WP.skip <| rg 2 0 <| bn0 rfl rfl rfl run_add <| mv0 rfl rfl <| .fin <| bk j155 (w64 (x142 + 1)) H
  refine WP.seq <| rg 1 0 <| as0 rfl rfl <| .fin <| WP.exit ?_
  replace H := Gets.out H
  exact jn (false, x142, decide (x142 < (a0.fParents.length : Int))) H
 replace H := Gets.ct H c116
 refine fb rfl (gg rfl) rfl fa33_3 <| ld 0 rfl (gg rfl) rfl sc9 rfl rfl <| el H fun t117 h118 H => Dv.call rfl (gg rfl) cal104 rfl (name_Event.c h118) <| ung rfl rfl rfl (run_not _) <| mvg rfl rfl rfl ?_
 cases c119 : !t117
 rotate_left
 ·
  replace H := Gets.ct H c119
  refine sk rfl rfl <| sk rfl rfl <| sk rfl rfl <| sk rfl rfl <| sk rfl rfl <| ptg rfl rfl rfl rfl <| mvg rfl rfl rfl <| sk rfl rfl <| sk rfl rfl <| sk rfl rfl <| ptg rfl rfl rfl rfl <| pt0 rfl rfl rfl <| .fin <| WP.cond rfl (fun _ => ?_) nofun
  refine WP.seq <| rg 1 0 <| as0 rfl rfl <| .fin ?_
  obtain rfl := Gets.out H
  exact rt i2 rfl () 1 [0] 1 (.cons (res_tmp rfl) .nil)
 replace H := Gets.cf H c119
 refine fb rfl (gg rfl) rfl fa33_3 <| ld 0 rfl (gg rfl) rfl sc9 rfl rfl <| fb rfl (gg rfl) rfl fa33_0 <| ld 0 rfl (gg rfl) rfl sc9 rfl rfl <| bng rfl rfl rfl rfl run_seq <| pfg rfl rfl rfl rfl <| mvg rfl rfl rfl ?_
 cases c121 : decide (a0.fThread = a0.fID)
 rotate_left
 ·
  replace H := Gets.ct H c121
  refine sk rfl rfl <| sk rfl rfl <| sk rfl rfl <| ptg rfl rfl rfl rfl <| pt0 rfl rfl rfl <| .fin <| WP.cond rfl (fun _ => ?_) nofun
  refine WP.seq <| rg 1 0 <| as0 rfl rfl <| .fin ?_
  obtain rfl := Gets.out H
  exact rt i2 rfl () 1 [0] 1 (.cons (res_tmp rfl) .nil)
 replace H := Gets.cf H c121
 refine fb rfl (gg rfl) rfl fa33_5 <| ld 0 rfl (gg rfl) rfl sc3 rfl rfl <| bng rfl rfl rfl rfl run_ne <| pfg rfl rfl rfl rfl <| pt0 rfl rfl rfl <| .fin <| cd H rfl (fun _ H => ?_) (fun _ H => ?_)
 ·
  refine WP.seq <| rg 1 0 <| as0 rfl rfl <| .fin ?_
  obtain rfl := Gets.out H
  exact rt i2 rfl () 1 [0] 1 (.cons (res_tmp rfl) .nil)
 refine WP.skip <| WP.seq <| rg 1 0 <| as0 rfl rfl <| .fin <| WP.seq <| WP.label <| WP.seqn H id (fun p124 : Bool × Int × Bool => [(0, agg (Event.enc a0)), (1, eq (.pointer (some ⟨b98, 0, none⟩))), (2, vB false), (3, vB p124.1), (37, vB (decide (2 < a0.fDoes))), (58, vB (a0.fDoes != 0)), (60, sl strK a0.fParents), (61, vI (a0.fParents.length : Int)), (62, vI p124.2.1), (63, vB p124.2.2)]) (fun p124 : Bool × Int × Bool => [blk b98 33 (Event.enc a0)] ++ F) (fun p124 H => ?_) (fun H => ?_)
 ·
  refine WP.seq <| rg 2 0 <| mv0 rfl rfl <| as0 rfl rfl <| .fin ?_
  obtain rfl := Gets.out H
  exact rt i2 rfl () 1 [0] 1 (.cons (res_tmp rfl) .nil)
 refine WP.seq <| rg 4 0 <| fb rfl trivial rfl fa33_2 <| ld 0 rfl trivial rfl sc31 rfl rfl <| Dv.lenl rfl trivial rfl Tryz.underlying31 <| mv0 rfl rfl <| .fin <| WP.block <| wg (sg 1 [0] 0) fun _ _ => ?_
 refine lp (fun j_ (p139 : Int) => dag_May.l0 k a0 j_ p139) 0 H (fun p139 => [(0, agg (Event.enc a0)), (1, eq (.pointer (some ⟨b98, 0, none⟩))), (2, vB false), (3, vB true), (37, vB (decide (2 < a0.fDoes))), (58, vB (a0.fDoes != 0)), (60, sl strK a0.fParents), (61, vI (a0.fParents.length : Int)), (62, vI p139)]) (fun p139 => [blk b98 33 (Event.enc a0)] ++ F) ?_
 rintro j_ x125 H
 rcases j_ with _ | j138
 ·
  exact (Gets.no H).elim
 replace H : Gets (dag_May.l0 k a0 (j138 + 1) x125) _ := H
 rw [dag_May.l0] at H
 refine WP.seq <| rg 1 0 <| bn0 rfl rfl rfl run_lt <| .fin <| WP.seq <| cd H rfl (fun _ H => ?_) (fun _ H => ?_)
 rotate_left
 ·
  refine WP.exit ?_
  replace H := Gets.out H
  exact jn (true, x125, decide (x125 < (a0.fParents.length : Int))) H
 refine WP.skip <| WP.seq <| WP.block <| WP.seq <| rg 5 0 <| mv0 rfl rfl <| gr H fun g127 H => Dv.ixr rfl trivial rfl rfl Tryz.underlying31 Tryz.underlying9 c9 g127.1 g127.2 <| ldR rfl trivial rfl sc9 rfl <| as0 rfl rfl <| as0 rfl rfl <| .fin <| WP.seq <| rg 23 0 <| mv0 rfl rfl <| el H fun t128 h129 H => cl rfl cal104 rfl (name_Event.c h129) <| un0 rfl rfl (run_not _) <| mv0 rfl rfl ?_
 cases c130 : !t128
 rotate_left
 ·
  replace H := Gets.ct H c130
  refine sk rfl rfl <| sk rfl rfl <| sk rfl rfl <| sk rfl rfl <| pt0 rfl rfl rfl <| mv0 rfl rfl <| sk rfl rfl <| sk rfl rfl <| sk rfl rfl <| sku rfl rfl <| sku rfl rfl <| sku rfl rfl <| sku rfl rfl <| sku rfl rfl <| sku rfl rfl <| sku rfl rfl <| sku rfl rfl <| sk rfl rfl <| pt0 rfl rfl rfl <| .fin <| WP.cond rfl (fun _ => ?_) nofun
  refine WP.seq <| rg 1 0 <| as0 rfl rfl <| .fin <| WP.exit ?_
  replace H := Gets.out H
  exact jn (false, x125, decide (x125 < (a0.fParents.length : Int))) H
 replace H := Gets.cf H c130
 refine mvg rfl rfl rfl <| fb rfl (gg rfl) rfl fa33_0 <| ld 0 rfl (gg rfl) rfl sc9 rfl rfl <| bng rfl rfl rfl rfl run_seq <| pf0 rfl rfl rfl <| mv0 rfl rfl ?_
 cases c132 : decide ((strK.at a0.fParents x125) = a0.fID)
 rotate_left
 ·
  replace H := Gets.ct H c132
  refine sk rfl rfl <| sk rfl rfl <| sk rfl rfl <| sku rfl rfl <| sku rfl rfl <| sku rfl rfl <| sku rfl rfl <| sku rfl rfl <| sku rfl rfl <| sku rfl rfl <| sku rfl rfl <| sk rfl rfl <| pt0 rfl rfl rfl <| .fin <| WP.cond rfl (fun _ => ?_) nofun
  refine WP.seq <| rg 1 0 <| as0 rfl rfl <| .fin <| WP.exit ?_
  replace H := Gets.out H
  exact jn (false, x125, decide (x125 < (a0.fParents.length : Int))) H
 replace H := Gets.cf H c132
 refine mvg rfl rfl rfl <| bng rfl rfl rfl rfl run_gt <| mvg rfl rfl rfl ?_
 cases c134 : decide (0 < x125)
 ·
  replace H := Gets.cf H c134
  refine sk rfl rfl <| sk rfl rfl <| sk rfl rfl <| sk rfl rfl <| sk rfl rfl <| sk rfl rfl <| sk rfl rfl <| sk rfl rfl <| pfg rfl rfl rfl rfl <| pf0 rfl rfl rfl <| .fin <| WP.cond rfl nofun (fun _ => ?_)
  exact WP.skip <| rg 2 0 <| bn0 rfl rfl rfl run_add <| mv0 rfl rfl <| .fin <| bk j138 (w64 (x125 + 1)) H
 replace H := Gets.ct H c134
 refine mvg rfl rfl rfl <| fb rfl (gg rfl) rfl fa33_2 <| ld 0 rfl (gg rfl) rfl sc31 rfl rfl <| mvg rfl rfl rfl <| bng rfl rfl rfl rfl run_sub <| gr H fun g135 H => Dv.ixr rfl (gg rfl) rfl rfl Tryz.underlying31 Tryz.underlying9 c9 g135.1 g135.2 <| ldR rfl (gg rfl) rfl sc9 rfl <| bng rfl rfl rfl rfl run_sle <| ptg rfl rfl rfl rfl <| pf0 rfl rfl rfl <| .fin <| cd H rfl (fun _ H => ?_) (fun _ H => ?_)
 rotate_left
 ·
  exact WP.skip <| rg 2 0 <| bn0 rfl rfl rfl run_add <| mv0 rfl rfl <| .fin <| bk j138 (w64 (x125 + 1)) H
 refine WP.seq <| rg 1 0 <| as0 rfl rfl <| .fin <| WP.exit ?_
 replace H := Gets.out H
 exact jn (false, x125, decide (x125 < (a0.fParents.length : Int))) H
theorem dag_Dag_Has.c {a0 : DDag} {a1 : ByteArray} {v0_0 : OV} {b0_ : Nat} {r : Bool} (h : dag_Dag_Has.f a0 a1 = some r) : Tr Tryz.prog 86 [eq (.pointer (some ⟨b0_, 0, none⟩)), vS a1] [blk b0_ 102 [vS a0.froom, eq v0_0.1], mpo Value.string DNode.O v0_0.1 a0.fnodes] (γ := Unit) (fun _ => True) (fun g => vB r) (fun g => [blk b0_ 102 [vS a0.froom, eq v0_0.1], mpo Value.string DNode.O v0_0.1 a0.fnodes]) := by
 unfold dag_Dag_Has.f at h
 refine Tr.body Tryz.func86 (c := _) rfl Tryz.ntmps86 (Nat.le_of_ble_eq_true rfl) fun R0 F => ?_
 replace h := Gets.of h
 have H := h
 clear h
 refine WP.seq <| rg 1 0 <| as0 rfl rfl <| .fin <| WP.seq <| rg 8 0 <| mv0 rfl rfl <| Dv.nilp rfl trivial rfl <| fb rfl trivial rfl fa102_1 <| ld 0 rfl trivial rfl sc100 rfl rfl <| mv0 rfl rfl <| vg (mpo_opn 1 rfl) fun z157 h158 => ?_
 refine Dv.mlv nilP rfl trivial rfl (mem_at 0 rfl) rfl Tryz.underlying100 (keyOk_str Tryz.underlying9) z103 (fun _ => rfl) <| Dv.pm1 (pm_nil h158 rfl) rfl trivial rfl rfl Tryz.underlying103 <| as0 rfl rfl <| .fin <| wg (mpo_shut h158 rfl (pm 3 [0,1,2])) fun _ _ => ?_
 obtain rfl := Gets.out H
 exact rt i2 rfl () 2 [1,0] 0 (.cons (res_tmp rfl) .nil)
theorem dag_Dag_Add_1.c {a0 : ByteArray} {cb0_ cd0_ : Nat} {cq0_ cv0_0 : OV} {ch0_ : cq0_.1 = .pointer (some ⟨cd0_, 0, none⟩)} {c0 : DDag} {r : Bool} (h : dag_Dag_Add_1.f a0 c0 = some r) : Tr Tryz.prog 87 [vS a0, eq (.pointer (some ⟨cb0_, 0, none⟩))] [blk cb0_ 76 [eq cq0_.1], blk cd0_ 102 [vS c0.froom, eq cv0_0.1], mpo Value.string DNode.O cv0_0.1 c0.fnodes] (γ := Unit) (fun _ => True) (fun g => vB r) (fun g => [blk cb0_ 76 [eq cq0_.1], blk cd0_ 102 [vS c0.froom, eq cv0_0.1], mpo Value.string DNode.O cv0_0.1 c0.fnodes]) := by
 unfold dag_Dag_Add_1.f at h
 refine Tr.body Tryz.func87 (c := _) rfl Tryz.ntmps87 (Nat.le_of_ble_eq_true rfl) fun R0 F => ?_
 replace h := Gets.of h
 have H := h
 clear h
 refine WP.seq <| rg 1 0 <| as0 rfl rfl <| .fin <| WP.seq <| rg 5 0 <| ld 0 rfl trivial rfl sc76 rfl rfl <| mv0 rfl rfl <| el H fun t159 h160 H => cll 3 [1,2,0] cal86 (Tr.weak (dag_Dag_Has.c h160 (b0_ := cd0_) (v0_0 := cv0_0)) (.cons (wk_ptr ch0_) (.cons wk_id .nil))) ?_
 refine un0 rfl rfl (run_not _) <| as0 rfl rfl <| .fin ?_
 obtain rfl := Gets.out H
 exact rt i2 rfl () 3 [0,1,2] 0 (.cons (res_tmp rfl) .nil)
theorem slices_Clone_string.c {a0 : List ByteArray} {r : List ByteArray} (h : slices_Clone_string.f a0 = some r) : Tr Tryz.prog 107 [sl strK a0] [] (γ := OV) (fun _ => True) (fun g => eq g.1) (fun g => [own strK g.1 r]) := by
 unfold slices_Clone_string.f at h
 obtain ⟨h0, h5⟩ := (Gets.of h).grd
 obtain rfl := Gets.out h5
 clear h h5
 refine (Tr.body Tryz.func107 (c := _) rfl Tryz.ntmps107 (Nat.le_of_ble_eq_true rfl) fun R0 F => ?_)
 refine WP.seq <| WP.reg [(0, false)] (by kernel_rfl) <| as0 rfl rfl <| .fin <| WP.seq <| WP.seq <| WP.reg [(0, false), (1, true)] (by kernel_rfl) <| mv0 rfl rfl <| Dv.snil rfl trivial rfl rfl Tryz.underlying31 nofun (fun b hb => ?_)
 refine .fin <| WP.cond rfl (fun c0 => ?_) (fun c0 => ?_)
 ·
  obtain rfl := hb c0
  refine WP.seq <| WP.reg [(0, false)] (by kernel_rfl) <| as0 rfl rfl <| .fin <| wg (st_nil strK none) fun _ _ => ?_
  exact rt i2 rfl nilV 1 [0] 0 (.cons (res_tmp rfl) .nil)
 refine WP.skip <| WP.seq <| WP.reg [(0, true), (1, false), (2, true), (3, false)] (by kernel_rfl) <| Dv.lit0 strK rfl trivial Tryz.underlying31 Tryz.underlying9 c9 z9 nofun (fun v1 => ?_)
 refine mv0 rfl rfl <| Dv.appx (Kd := strK) (xs := []) (v := v1.1) (jj := 0) (ys := a0) (fun v2 : OV => [own strK v2.1 a0] ++ F) rfl trivial rfl rfl rfl src_sl Tryz.underlying31 (.inr ⟨_, Tryz.underlying31⟩) inf9 rfl (by decide) (by simpa using h0) rfl nofun (fun v2 => ?_)
 exact as0 rfl rfl <| .fin <| rt i2 rfl v2 1 [0] 0 (.cons (res_tmp rfl) .nil)
theorem dag_own.c {a0 : Event} {r : Event} (h : dag_own.f a0 = some r) : Pt Tryz.prog 88 [agg (Event.enc a0)] (agg (Event.enc r)) := by
 unfold dag_own.f at h
 refine (Tr.body Tryz.func88 (c := _) rfl Tryz.ntmps88 (Nat.le_of_ble_eq_true rfl) fun R0 F => ?_).pt
 replace h := Gets.of h
 have H := h
 clear h
 refine WP.seq <| rg 2 3 <| Dv.box rfl trivial rfl cA nofun fun b161 => al rfl trivial zc33 nofun fun b162 => .fin <| WP.seq <| rg 5 20 <| fb rfl trivial rfl fa33_2 <| ld 1 rfl trivial rfl sc31 rfl rfl <| el H fun t163 h164 H => cx 2 [0,1] cal107 (slices_Clone_string.c h164) nofun fun g165 _ => ?_
 refine fb rfl trivial rfl fa33_2 <| sx 2 rfl trivial rfl rfl (cells_one one_ov) sz31 rfl rfl rfl nofun ?_
 refine .fin <| WP.seq <| rg 2 2 <| lds 2 rfl trivial rfl sg33 rfl rfl <| sx 1 rfl trivial rfl rfl cA sz33 rfl rfl rfl nofun ?_
 refine .fin <| WP.gh (gh_frz (E' := [(2, eq (.pointer (some ⟨b162, 0, none⟩)))]) (l' := [blk b162 33 [vS a0.fID, vS a0.fRoom, sl strK t163, vS a0.fThread, vS a0.fUser, vI a0.fDoes], blk b161 33 [vS a0.fID, vS a0.fRoom, sl strK t163, vS a0.fThread, vS a0.fUser, vI a0.fDoes]] ++ F) 0 rfl (cve_cons rfl cv_id cve_nil) (all2_app (.cons (cva_blk (.cons cv_id (.cons cv_id (.cons cv_eq (.cons cv_id (.cons cv_id (.cons cv_id .nil))))))) (.cons (cva_blk (.cons cv_id (.cons cv_id (.cons cv_eq (.cons cv_id (.cons cv_id (.cons cv_id .nil))))))) .nil)) fun _ => cva_id)) (fun _ _ => ?_)
 obtain rfl := Gets.out H
 exact rt i2 rfl () 2 [0,1] 2 (.cons (res_cells rfl Tryz.underlying33 rfl c33 (mem_at 0 rfl) rfl) .nil)
theorem dag_Dag_Add.c {k : Nat} {a0 : DDag} {a1 : Event} {p0_ : OV} {r : Int × DDag} (h : dag_Dag_Add.f k a0 a1 = some r) : Tr Tryz.prog 53 [eq p0_.1, agg (Event.enc a1)] [DDag.O p0_ a0] (γ := Unit) (fun _ => True) (fun g => vI r.1) (fun g => [DDag.O p0_ r.2]) := by
 unfold dag_Dag_Add.f at h
 refine Tr.body Tryz.func53 (c := _) rfl Tryz.ntmps53 (Nat.le_of_ble_eq_true rfl) fun R0 F => ?_
 replace h := Gets.of h
 have H := h
 clear h
 refine WP.seq <| rg 3 3 <| Dv.box rfl trivial rfl (cells_one one_ov) nofun fun b166 => Dv.box rfl trivial rfl cA nofun fun b167 => as0 rfl rfl <| .fin <| WP.seq <| WP.block <| WP.seq <| wg (DDag.opn 2 rfl) fun g168 h169 => ?_
 refine dg Tryz.checked.mixed 13 0 <| lds 2 rfl trivial rfl sg33 rfl rfl <| el H fun t170 h171 H => cl rfl cal85 rfl (dag_May.c h171) <| un0 rfl rfl (run_not _) <| mv0 rfl rfl ?_
 cases c172 : !t170
 rotate_left
 ·
  replace H := Gets.ct H c172
  refine sk rfl rfl <| sk rfl rfl <| sk rfl rfl <| sk rfl rfl <| sk rfl rfl <| sk rfl rfl <| sk rfl rfl <| pt0 rfl rfl rfl <| as0 rfl rfl <| .fin <| WP.cond rfl (fun _ => ?_) nofun
  refine WP.seq <| rg 1 0 <| as0 rfl rfl <| .fin <| wg (DDag.shut (p := p0_) (m := a0) (g168.1, g168.2) h169 (pm 4 [0,1,2,3])) fun _ _ => ?_
  obtain rfl := Gets.out H
  exact rt i2 rfl () 3 [1,2,0] 2 (.cons (res_tmp rfl) .nil)
 replace H := Gets.cf H c172
 refine fb rfl (gg rfl) rfl fa33_1 <| ld 2 rfl (gg rfl) rfl sc9 rfl rfl <| ld 3 rfl (gg rfl) rfl sc76 rfl rfl <| Dv.nilpp h169 rfl (gg rfl) rfl <| fp h169 rfl (gg rfl) rfl fa102_0 <| ld 0 rfl (gg rfl) rfl sc9 rfl rfl <| bng rfl rfl rfl rfl run_sne <| pf0 rfl rfl rfl <| as0 rfl rfl <| .fin <| cd H rfl (fun _ H => ?_) (fun _ H => ?_)
 ·
  refine WP.seq <| rg 1 0 <| as0 rfl rfl <| .fin <| wg (DDag.shut (p := p0_) (m := a0) (g168.1, g168.2) h169 (pm 4 [0,1,2,3])) fun _ _ => ?_
  obtain rfl := Gets.out H
  exact rt i2 rfl () 3 [1,2,0] 2 (.cons (res_tmp rfl) .nil)
 refine WP.seq <| rg 5 0 <| ld 3 rfl trivial rfl sc76 rfl rfl <| fb rfl trivial rfl fa33_0 <| ld 2 rfl trivial rfl sc9 rfl rfl <| el H fun t175 h176 H => cll 4 [0,1,2,3] cal86 (Tr.weak (dag_Dag_Has.c h176 (b0_ := g168.1) (v0_0 := g168.2)) (.cons (wk_ptr h169) (.cons wk_id .nil))) ?_
 refine as0 rfl rfl <| .fin <| cd H rfl (fun _ H => ?_) (fun _ H => ?_)
 ·
  refine WP.seq <| rg 1 0 <| as0 rfl rfl <| .fin <| wg (DDag.shut (p := p0_) (m := a0) (g168.1, g168.2) h169 (pm 4 [0,1,2,3])) fun _ _ => ?_
  obtain rfl := Gets.out H
  exact rt i2 rfl () 3 [1,2,0] 2 (.cons (res_tmp rfl) .nil)
 refine WP.seq <| rg 5 0 <| fb rfl trivial rfl fa33_2 <| ld 2 rfl trivial rfl sc31 rfl rfl <| Dv.mkx (Q := fqQ_string_bool (fun a0_ => dag_Dag_Add_1.f a0_ a0)) (L := [blk b166 76 [eq p0_.1], blk g168.1 102 [vS a0.froom, eq g168.2.1], mpo Value.string DNode.O g168.2.1 a0.fnodes]) cal87 (by rintro _ _ ⟨a0_, r_, h_, rfl, rfl⟩; exact dag_Dag_Add_1.c h_ (cb0_ := b166) (cq0_ := p0_) (cd0_ := g168.1) (ch0_ := h169) (cv0_0 := g168.2)) rfl trivial rfl rfl <| Dv.gh (l' := fun _ : Unit => [(pk [blk b166 76 [eq p0_.1], blk g168.1 102 [vS a0.froom, eq g168.2.1], mpo Value.string DNode.O g168.2.1 a0.fnodes]), blk b167 33 (Event.enc a1)] ++ F) (gh_of (st_pk (perm_to (L := [blk g168.1 102 [vS a0.froom, eq g168.2.1], mpo Value.string DNode.O g168.2.1 a0.fnodes, blk b167 33 (Event.enc a1), blk b166 76 [eq p0_.1]]) (F := F) [3, 0, 1, 2] rfl rfl rfl))) (fun _ _ => ?_)
 refine el H fun t178 h179 H => cll 2 [0,1] cal62 (slices_ContainsFunc_string_x.c h179 (X1_ := (pk [blk b166 76 [eq p0_.1], blk g168.1 102 [vS a0.froom, eq g168.2.1], mpo Value.string DNode.O g168.2.1 a0.fnodes]))) ?_
 refine vg (st_unpk (L := [blk b166 76 [eq p0_.1], blk g168.1 102 [vS a0.froom, eq g168.2.1], mpo Value.string DNode.O g168.2.1 a0.fnodes]) 0 rfl) fun _ _ => ?_
 refine as0 rfl rfl <| .fin <| cd H rfl (fun _ H => ?_) (fun _ H => ?_)
 ·
  refine WP.seq <| rg 1 0 <| as0 rfl rfl <| .fin <| wg (DDag.shut (p := p0_) (m := a0) (g168.1, g168.2) h169 (pm 4 [1,2,0,3])) fun _ _ => ?_
  obtain rfl := Gets.out H
  exact rt i2 rfl () 3 [1,2,0] 2 (.cons (res_tmp rfl) .nil)
 refine WP.skip <| WP.seqr H id (fun p181 : Unit => [(0, eq p0_.1), (1, agg (Event.enc a1)), (2, eq (.pointer (some ⟨b166, 0, none⟩))), (3, eq (.pointer (some ⟨b167, 0, none⟩))), (4, vI 0), (9, vB (!decide (a1.fRoom = a0.froom))), (22, vB t175), (27, vB t178), (34, vB (!decide (a1.fThread = (⟨#[]⟩ : ByteArray))))]) (fun p181 : Unit => [blk b166 76 [eq p0_.1], blk b167 33 (Event.enc a1), DDag.O p0_ a0] ++ F) (fun p181 H => ?_) (fun H => ?_)
 rotate_left
 ·
  refine WP.seq <| rg 3 0 <| fb rfl trivial rfl fa33_3 <| ld 3 rfl trivial rfl sc9 rfl rfl <| bn0 rfl rfl rfl run_sne <| .fin <| cd H rfl (fun _ H => ?_) (fun _ H => ?_)
  rotate_left
  ·
   refine WP.skip ?_
   replace H := Gets.out H
   refine ng (DDag.shut (p := p0_) (m := a0) (g168.1, g168.2) h169 (pm 4 [1,2,0,3])) fun _ _ => ?_
   refine ng (sg 3 [1,2,0] 0) fun _ _ => ?_
   exact jn () H
  refine WP.seq <| wg (mpo_opn 2 rfl) fun z206 h207 => ?_
  refine dg Tryz.checked.mixed 8 0 <| ld 2 rfl trivial rfl sc76 rfl rfl <| Dv.nilpp h169 rfl trivial rfl <| fp h169 rfl trivial rfl fa102_1 <| ld 3 rfl trivial rfl sc100 rfl rfl <| fb rfl trivial rfl fa33_3 <| ld 4 rfl trivial rfl sc9 rfl rfl <| Dv.mlv nilP rfl trivial rfl (mem_at 0 rfl) rfl Tryz.underlying100 (keyOk_str Tryz.underlying9) z103 (fun _ => rfl) <| as0 rfl rfl <| .fin <| WP.seq <| WP.seq <| rg 2 0 <| mv0 rfl rfl <| Dv.pm0 (pm_nil h207 rfl) rfl trivial rfl rfl Tryz.underlying103 <| .fin <| cd H rfl (fun _ H => ?_) (fun _ H => ?_)
  ·
   refine WP.seq <| rg 1 0 <| as0 rfl rfl <| .fin <| wg (mpo_shut h207 rfl (pm 5 [0,1,2,3,4])) fun _ _ => ?_
   refine wg (DDag.shut (p := p0_) (m := a0) (g168.1, g168.2) h169 (pm 4 [2,0,1,3])) fun _ _ => ?_
   replace H := Gets.outr H
   obtain rfl := Gets.out H
   exact rt i2 rfl () 3 [1,2,0] 2 (.cons (res_tmp rfl) .nil)
  refine WP.skip <| WP.seq <| rg 14 0 <| mv0 rfl rfl <| gr H fun g209 H => vg (mpo_foc h207 rfl g209 (pm 5 [1,0,2,3,4])) fun _ _ => ?_
  refine Dv.nilA DNode.nn rfl trivial rfl (mem_at 0 rfl) <| vg (DNode.opn 0 rfl) fun g210 h211 => ?_
  refine fp h211 rfl trivial rfl fa105_0 <| fb rfl trivial rfl fa33_3 <| ld 0 rfl trivial rfl sc9 rfl rfl <| bn0 rfl rfl rfl run_sne <| mv0 rfl rfl ?_
  cases c212 : !decide (((((mget a0.fnodes a1.fThread).getD default).fe).fThread) = (⟨#[]⟩ : ByteArray))
  rotate_left
  ·
   replace H := Gets.ct H c212
   refine sk rfl rfl <| sk rfl rfl <| sk rfl rfl <| sk rfl rfl <| sk rfl rfl <| sk rfl rfl <| pt0 rfl rfl rfl <| .fin <| WP.cond rfl (fun _ => ?_) nofun
   refine WP.seq <| rg 1 0 <| as0 rfl rfl <| .fin <| wg (DNode.shut (p := ((mget (zipK a0.fnodes z206) a1.fThread).getD nilP)) (m := (mget a0.fnodes a1.fThread).getD default) g210 h211 (pm 6 [0,1,2,3,4,5])) fun _ _ => ?_
   refine wg (mpo_unf0 h207 rfl g209 (pm 6 [0,1,2,3,4,5])) fun _ _ => ?_
   refine wg (mpo_shut h207 rfl (pm 5 [1,0,2,3,4])) fun _ _ => ?_
   refine wg (DDag.shut (p := p0_) (m := a0) (g168.1, g168.2) h169 (pm 4 [2,0,1,3])) fun _ _ => ?_
   replace H := Gets.outr H
   obtain rfl := Gets.out H
   exact rt i2 rfl () 3 [1,2,0] 2 (.cons (res_tmp rfl) .nil)
  replace H := Gets.cf H c212
  refine mvg rfl rfl rfl <| Dv.nilpp h211 rfl (gg rfl) rfl <| fp h211 rfl (gg rfl) rfl fa105_0 <| fb rfl (gg rfl) rfl fa33_5 <| ld 0 rfl (gg rfl) rfl sc3 rfl rfl <| bng rfl rfl rfl rfl run_ne <| pf0 rfl rfl rfl <| .fin <| cd H rfl (fun _ H => ?_) (fun _ H => ?_)
  rotate_left
  ·
   refine WP.skip ?_
   replace H := Gets.out H
   refine ng (DNode.shut (p := ((mget (zipK a0.fnodes z206) a1.fThread).getD nilP)) (m := (mget a0.fnodes a1.fThread).getD default) g210 h211 (pm 6 [0,1,2,3,4,5])) fun _ _ => ?_
   refine ng (mpo_unf0 h207 rfl g209 (pm 6 [0,1,2,3,4,5])) fun _ _ => ?_
   refine ng (mpo_shut h207 rfl (pm 5 [1,0,2,3,4])) fun _ _ => ?_
   refine ng (DDag.shut (p := p0_) (m := a0) (g168.1, g168.2) h169 (pm 4 [2,0,1,3])) fun _ _ => ?_
   refine ng (sg 3 [1,2,0] 0) fun _ _ => ?_
   exact jn () H
  refine WP.seq <| rg 1 0 <| as0 rfl rfl <| .fin <| wg (DNode.shut (p := ((mget (zipK a0.fnodes z206) a1.fThread).getD nilP)) (m := (mget a0.fnodes a1.fThread).getD default) g210 h211 (pm 6 [0,1,2,3,4,5])) fun _ _ => ?_
  refine wg (mpo_unf0 h207 rfl g209 (pm 6 [0,1,2,3,4,5])) fun _ _ => ?_
  refine wg (mpo_shut h207 rfl (pm 5 [1,0,2,3,4])) fun _ _ => ?_
  refine wg (DDag.shut (p := p0_) (m := a0) (g168.1, g168.2) h169 (pm 4 [2,0,1,3])) fun _ _ => ?_
  replace H := Gets.outr H
  obtain rfl := Gets.out H
  exact rt i2 rfl () 3 [1,2,0] 2 (.cons (res_tmp rfl) .nil)
 refine WP.seq <| rg 5 8 <| lds 1 rfl trivial rfl sg33 rfl rfl <| el H fun t182 h183 H => cl rfl cal88 rfl (dag_own.c h183) <| Dv.bld (css := [Event.enc t182]) rfl trivial Tryz.underlying105 pl105 z105 rfl ⟨(cells_agg (Event.K.one _)), trivial⟩ rfl rfl <| Dv.box rfl trivial rfl cA nofun fun b184 => as0 rfl rfl <| .fin <| WP.seqn H id (fun p185 : Int × Bool × Int × DDag => [(0, eq p0_.1), (1, agg (Event.enc a1)), (2, eq (.pointer (some ⟨b166, 0, none⟩))), (3, eq (.pointer (some ⟨b167, 0, none⟩))), (4, vI 0), (6, eq (.pointer (some ⟨b184, 0, none⟩))), (9, vB (!decide (a1.fRoom = a0.froom))), (22, vB t175), (27, vB t178), (34, vB (!decide (a1.fThread = (⟨#[]⟩ : ByteArray)))), (63, sl strK a1.fParents), (64, vI (a1.fParents.length : Int)), (65, vI p185.1), (66, vB p185.2.1)]) (fun p185 : Int × Bool × Int × DDag => [blk b184 105 [vS t182.fID, vS t182.fRoom, sl strK t182.fParents, vS t182.fThread, vS t182.fUser, vI t182.fDoes, vI p185.2.2.1, vB false], blk b166 76 [eq p0_.1], blk b167 33 (Event.enc a1), DDag.O p0_ p185.2.2.2] ++ F) (fun p185 H => ?_) (fun H => ?_)
 ·
  refine WP.seq <| wg (DDag.opn 3 rfl) fun g186 h187 => ?_
  refine wg (DNode.shut (p := (⟨.pointer (some ⟨b184, 0, none⟩), rfl⟩ : OV)) (m := (⟨t182, p185.2.2.1, false⟩ : DNode)) b184 rfl (pm 5 [2,0,1,3,4])) fun _ _ => ?_
  refine wg (mpo_opn 2 rfl) fun z188 h189 => ?_
  refine dg Tryz.checked.mixed 8 128 <| ld 4 rfl trivial rfl sc76 rfl rfl <| Dv.nilpp h187 rfl trivial rfl <| fp h187 rfl trivial rfl fa102_1 <| ld 3 rfl trivial rfl sc100 rfl rfl <| fb rfl trivial rfl fa33_0 <| ld 5 rfl trivial rfl sc9 rfl rfl <| mv0 rfl rfl <| Dv.mup (vp := fun p : OV => eq p.1) (jj := 0) (⟨.pointer (some ⟨b184, 0, none⟩), rfl⟩ : OV) rfl trivial rfl rfl rfl rfl Tryz.underlying100 (keyOk_str Tryz.underlying9) (fun _ => pend_bits (by kernel_rfl)) <| .fin <| WP.seq <| rg 1 0 <| as0 rfl rfl <| .fin <| wg (mpo_add DNode.nn h189 rfl (pm 6 [0,1,2,3,4,5])) fun _ _ => ?_
  refine wg (DDag.shut (p := p0_) (m := (⟨p185.2.2.2.froom, mput p185.2.2.2.fnodes a1.fID (⟨t182, p185.2.2.1, false⟩ : DNode)⟩ : DDag)) (g186.1, g186.2) h187 (pm 4 [1,0,2,3])) fun _ _ => ?_
  obtain rfl := Gets.out H
  exact rt i2 rfl () 3 [1,2,0] 2 (.cons (res_tmp rfl) .nil)
 refine WP.seq <| rg 4 0 <| fb rfl trivial rfl fa33_2 <| ld 2 rfl trivial rfl sc31 rfl rfl <| Dv.lenl rfl trivial rfl Tryz.underlying31 <| mv0 rfl rfl <| .fin <| WP.block <| wg (sg 4 [0,1,2,3] 0) fun _ _ => ?_
 refine lp (fun j_ (p204 : Int × Int × DDag) => dag_Dag_Add.l0 k a1 j_ p204.1 p204.2.1 p204.2.2) (0, 0, a0) H (fun p204 => [(0, eq p0_.1), (1, agg (Event.enc a1)), (2, eq (.pointer (some ⟨b166, 0, none⟩))), (3, eq (.pointer (some ⟨b167, 0, none⟩))), (4, vI 0), (6, eq (.pointer (some ⟨b184, 0, none⟩))), (9, vB (!decide (a1.fRoom = a0.froom))), (22, vB t175), (27, vB t178), (34, vB (!decide (a1.fThread = (⟨#[]⟩ : ByteArray)))), (63, sl strK a1.fParents), (64, vI (a1.fParents.length : Int)), (65, vI p204.1)]) (fun p204 => [blk b184 105 [vS t182.fID, vS t182.fRoom, sl strK t182.fParents, vS t182.fThread, vS t182.fUser, vI t182.fDoes, vI p204.2.1, vB false], blk b166 76 [eq p0_.1], blk b167 33 (Event.enc a1), DDag.O p0_ p204.2.2] ++ F) ?_
 rintro j_ ⟨x190, x191, x192⟩ H
 rcases j_ with _ | j203
 ·
  exact (Gets.no H).elim
 replace H : Gets (dag_Dag_Add.l0 k a1 (j203 + 1) x190 x191 x192) _ := H
 rw [dag_Dag_Add.l0] at H
 refine WP.seq <| rg 1 0 <| bn0 rfl rfl rfl run_lt <| .fin <| WP.seq <| cd H rfl (fun _ H => ?_) (fun _ H => ?_)
 rotate_left
 ·
  refine WP.exit ?_
  replace H := Gets.out H
  exact jn (x190, decide (x190 < (a1.fParents.length : Int)), x191, x192) H
 refine WP.skip <| WP.seq <| WP.block <| WP.seq <| rg 3 0 <| gr H fun g194 H => Dv.ixr rfl trivial rfl rfl Tryz.underlying31 Tryz.underlying9 c9 g194.1 g194.2 <| ldR rfl trivial rfl sc9 rfl <| as0 rfl rfl <| .fin <| WP.seq <| wg (DDag.opn 3 rfl) fun g195 h196 => ?_
 refine wg (mpo_opn 1 rfl) fun z197 h198 => ?_
 refine gr H fun g199 H => wg (mpo_foc h198 rfl g199 (pm 6 [1,0,2,3,4,5])) fun _ _ => ?_
 refine wg (DNode.opn 0 rfl) fun g200 h201 => ?_
 refine dg Tryz.checked.mixed 19 262144 <| mv0 rfl rfl <| mv0 rfl rfl <| Dv.nilp rfl trivial rfl <| fb rfl trivial rfl fa105_1 <| ld 4 rfl trivial rfl sc3 rfl rfl <| ld 5 rfl trivial rfl sc76 rfl rfl <| Dv.nilpp h196 rfl trivial rfl <| fp h196 rfl trivial rfl fa102_1 <| ld 3 rfl trivial rfl sc100 rfl rfl <| mv0 rfl rfl <| Dv.mlv nilP rfl trivial rfl (mem_at 2 rfl) rfl Tryz.underlying100 (keyOk_str Tryz.underlying9) z103 (fun _ => rfl) <| Dv.nilpp h201 rfl trivial rfl <| fp h201 rfl trivial rfl fa105_1 <| ld 0 rfl trivial rfl sc3 rfl rfl <| bn0 rfl rfl rfl run_add <| Dv.maxi rfl trivial rfl rfl <| Dv.nilp rfl trivial rfl <| fb rfl trivial rfl fa105_1 <| sx 4 rfl trivial rfl rfl cE sz3 rfl rfl rfl pB ?_
 refine .fin <| rg 9 256 <| ld 5 rfl trivial rfl sc76 rfl rfl <| Dv.nilpp h196 rfl trivial rfl <| fp h196 rfl trivial rfl fa102_1 <| ld 3 rfl trivial rfl sc100 rfl rfl <| mv0 rfl rfl <| Dv.mlv nilP rfl trivial rfl (mem_at 2 rfl) rfl Tryz.underlying100 (keyOk_str Tryz.underlying9) z103 (fun _ => rfl) <| Dv.nilpp h201 rfl trivial rfl <| fp h201 rfl trivial rfl fa105_2 <| sx 0 rfl trivial rfl rfl cE sz4 rfl rfl rfl nofun ?_
 refine .fin <| rg 2 0 <| bn0 rfl rfl rfl run_add <| mv0 rfl rfl <| .fin <| ng (DNode.shut (p := ((mget (zipK x192.fnodes z197) (strK.at a1.fParents x190)).getD nilP)) (m := (⟨((mget x192.fnodes (strK.at a1.fParents x190)).getD default).fe, ((mget x192.fnodes (strK.at a1.fParents x190)).getD default).fdepth, true⟩ : DNode)) g200 h201 (pm 7 [0,1,2,3,4,5,6])) fun _ _ => ?_
 refine ng (mpo_unf h198 rfl g199 (pm 7 [0,1,2,3,4,5,6])) fun _ h202 => ?_
 refine ng (mpo_shut h202 (zipK_put' rfl g199) (pm 6 [1,0,2,3,4,5])) fun _ _ => ?_
 refine ng (DDag.shut (p := p0_) (m := (⟨x192.froom, mput x192.fnodes (strK.at a1.fParents x190) (⟨((mget x192.fnodes (strK.at a1.fParents x190)).getD default).fe, ((mget x192.fnodes (strK.at a1.fParents x190)).getD default).fdepth, true⟩ : DNode)⟩ : DDag)) (g195.1, g195.2) h196 (pm 5 [1,0,2,3,4])) fun _ _ => ?_
 refine ng (sg 4 [1,2,3,0] 0) fun _ _ => ?_
 exact bk j203 (w64 (x190 + 1), max x191 (w64 ((((mget x192.fnodes (strK.at a1.fParents x190)).getD default).fdepth) + 1)), (⟨x192.froom, mput x192.fnodes (strK.at a1.fParents x190) (⟨((mget x192.fnodes (strK.at a1.fParents x190)).getD default).fe, ((mget x192.fnodes (strK.at a1.fParents x190)).getD default).fdepth, true⟩ : DNode)⟩ : DDag)) H
theorem view_View_Add.c {k : Nat} {a0 : VView} {a1 : Event} {p0_ : OV} {r : Int × VView} (h : view_View_Add.f k a0 a1 = some r) : Tr Tryz.prog 13 [eq p0_.1, agg (Event.enc a1)] [VView.O p0_ a0] (γ := Unit) (fun _ => True) (fun g => vI r.1) (fun g => [VView.O p0_ r.2]) := by
 unfold view_View_Add.f at h
 refine Tr.body Tryz.func13 (c := _) rfl Tryz.ntmps13 (Nat.le_of_ble_eq_true rfl) fun R0 F => ?_
 replace h := Gets.of h
 have H := h
 clear h
 refine WP.seq <| rg 2 1 <| Dv.box rfl trivial rfl cA nofun fun b215 => as0 rfl rfl <| .fin <| WP.seq <| rg 5 8 <| mv0 rfl rfl <| fb rfl trivial rfl fa33_1 <| ld 0 rfl trivial rfl sc9 rfl rfl <| vg (VView.opn 1 rfl) fun g216 h217 => ?_
 refine el H fun t218 h219 H => cx 3 [0,1,2] cal52 (Tr.weak (view_View_room.c h219 (b0_ := g216.1) (v0_0 := g216.2)) (.cons (wk_ptr h217) (.cons wk_id .nil))) nofun fun v220 _ => ?_
 refine as0 rfl rfl <| .fin <| WP.seq <| WP.seq <| rg 4 4 <| mv0 rfl rfl <| lds 3 rfl trivial rfl sg33 rfl rfl <| el H fun t221 h222 H => cx 4 [2,0,1,3] cal53 (dag_Dag_Add.c h222 (p0_ := v220)) nofun fun _ _ => ?_
 refine as0 rfl rfl <| .fin <| WP.seq <| rg 2 0 <| mv0 rfl rfl <| bn0 rfl rfl rfl run_ne <| .fin <| cd H rfl (fun _ H => ?_) (fun _ H => ?_)
 ·
  refine WP.seq <| rg 2 0 <| mv0 rfl rfl <| as0 rfl rfl <| .fin <| wg (mpl_back (pm 4 [2,0,1,3])) fun _ _ => ?_
  refine wg (VView.shut (p := p0_) (m := (⟨mres a0.fdags a1.fRoom t221.2⟩ : VView)) (g216.1, g216.2) h217 (pm 3 [1,0,2])) fun _ _ => ?_
  obtain rfl := Gets.out H
  exact rt i2 rfl () 2 [1,0] 1 (.cons (res_tmp rfl) .nil)
 refine WP.skip <| WP.seq <| wg (mpl_opn 2 rfl) fun z224 h225 => ?_
 refine dg Tryz.checked.mixed 8 128 <| mv0 rfl rfl <| Dv.nilpp h217 rfl trivial rfl <| fp h217 rfl trivial rfl fa80_0 <| ld 3 rfl trivial rfl sc78 rfl rfl <| fb rfl trivial rfl fa33_1 <| ld 4 rfl trivial rfl sc9 rfl rfl <| mv0 rfl rfl <| Dv.mup (vp := fun p : OV => eq p.1) (jj := 0) v220 rfl trivial rfl rfl rfl rfl Tryz.underlying78 (keyOk_str Tryz.underlying9) (fun _ => pend_bits (by kernel_rfl)) <| .fin <| WP.seq <| rg 1 0 <| as0 rfl rfl <| .fin <| wg (mpl_add DDag.nn h225 (pm 5 [0,1,2,3,4])) fun _ _ => ?_
 refine wg (VView.shut (p := p0_) (m := (⟨mput a0.fdags a1.fRoom t221.2⟩ : VView)) (g216.1, g216.2) h217 (pm 3 [1,0,2])) fun _ _ => ?_
 obtain rfl := Gets.out H
 exact rt i2 rfl () 2 [1,0] 1 (.cons (res_tmp rfl) .nil)
theorem view_New.c {r : VView} (h : view_New.f = some r) : Tr Tryz.prog 25 [] [] (γ := OV) (fun _ => True) (fun g => eq g.1) (fun g => [VView.O g r]) := by
 unfold view_New.f at h
 refine Tr.body Tryz.func25 (c := _) rfl Tryz.ntmps25 (Nat.le_of_ble_eq_true rfl) fun R0 F => ?_
 replace h := Gets.of h
 have H := h
 clear h
 refine WP.seq <| rg 1 0 <| as0 rfl rfl <| .fin <| WP.seq <| rg 4 5 <| Dv.mmk Value.string (fun p : OV => eq p.1) rfl trivial nofun (fun v226 => ?_)
 refine vg (mpo_new DDag.O) fun _ _ => ?_
 refine Dv.bld (qs := [eq v226.1]) (css := [[eq v226.1]]) rfl trivial Tryz.underlying80 pl80 z80 rfl ⟨(cells_one one_ov), trivial⟩ rfl rfl <| Dv.box rfl trivial rfl cA nofun fun b227 => as0 rfl rfl <| .fin <| wg (VView.shut (p := (⟨.pointer (some ⟨b227, 0, none⟩), rfl⟩ : OV)) (m := (⟨([] : List (ByteArray × DDag))⟩ : VView)) (b227, v226) rfl (pm 2 [0,1])) fun _ _ => ?_
 obtain rfl := Gets.out H
 exact rt i2 rfl (⟨.pointer (some ⟨b227, 0, none⟩), rfl⟩ : OV) 1 [0] 0 (.cons (res_tmp rfl) .nil)
theorem concourseref01_Around.c {a0 : Int} {a1 : Int} {r : Int} (h : concourseref01_Around.f a0 a1 = some r) : Pt Tryz.prog 49 [vI a0, vI a1] (vI r) := by
 unfold concourseref01_Around.f at h
 refine (Tr.body Tryz.func49 (c := _) rfl Tryz.ntmps49 (Nat.le_of_ble_eq_true rfl) fun R0 F => ?_).pt
 replace h := Gets.of h
 have H := h
 clear h
 refine WP.seq <| rg 1 0 <| as0 rfl rfl <| .fin <| WP.seq <| WP.seq <| rg 2 0 <| mv0 rfl rfl <| bn0 rfl rfl rfl run_lt <| .fin <| cd H rfl (fun _ H => ?_) (fun _ H => ?_)
 rotate_left
 ·
  refine WP.skip <| WP.seq <| rg 4 0 <| mv0 rfl rfl <| mv0 rfl rfl <| gr H fun g230 H => bn0 rfl rfl rfl (run_rem g230) <| as0 rfl rfl <| .fin ?_
  obtain rfl := Gets.out H
  exact rt i2 rfl () 0 [] 0 (.cons (res_tmp rfl) .nil)
 refine rg 4 0 <| mv0 rfl rfl <| bn0 rfl rfl rfl run_add <| un0 rfl rfl (run_neg _ _) <| as0 rfl rfl <| .fin <| WP.seq <| rg 4 0 <| mv0 rfl rfl <| mv0 rfl rfl <| gr H fun g229 H => bn0 rfl rfl rfl (run_rem g229) <| as0 rfl rfl <| .fin ?_
 obtain rfl := Gets.out H
 exact rt i2 rfl () 0 [] 0 (.cons (res_tmp rfl) .nil)
theorem concourseref01_RoomOf.c {a0 : Int} {r : ByteArray} (h : concourseref01_RoomOf.f a0 = some r) : Pt Tryz.prog 11 [vI a0] (vS r) := by
 unfold concourseref01_RoomOf.f at h
 refine (Tr.body Tryz.func11 (c := _) rfl Tryz.ntmps11 (Nat.le_of_ble_eq_true rfl) fun R0 F => ?_).pt
 replace h := Gets.of h
 have H := h
 clear h
 refine WP.seq <| rg 1 0 <| as0 rfl rfl <| .fin <| WP.seq <| rg 6 0 <| Dv.lit strK ([(⟨#[33, 114, 58, 115, 49]⟩ : ByteArray), (⟨#[33, 113, 58, 115, 50]⟩ : ByteArray)] : List ByteArray) (css := [[vS (⟨#[33, 114, 58, 115, 49]⟩ : ByteArray)], [vS (⟨#[33, 113, 58, 115, 50]⟩ : ByteArray)]]) rfl trivial Tryz.underlying31 Tryz.underlying9 c9 z9 rfl (by decide) (by decide) rfl ⟨(cells_one (one_eq rfl)), ⟨(cells_one (one_eq rfl)), trivial⟩⟩ rfl rfl rfl <| mv0 rfl rfl <| el H fun t231 h232 H => cl rfl cal49 rfl (concourseref01_Around.c h232) <| gr H fun g233 H => Dv.ixr rfl trivial rfl rfl Tryz.underlying31 Tryz.underlying9 c9 g233.1 g233.2 <| ldR rfl trivial rfl sc9 rfl <| as0 rfl rfl <| .fin ?_
 obtain rfl := Gets.out H
 exact rt i2 rfl () 0 [] 0 (.cons (res_tmp rfl) .nil)
theorem concourseref01_Decimal.c : ∀ (k : Nat) {a0 : Int} {r : ByteArray} (h : concourseref01_Decimal.f k a0 = some r), Pt Tryz.prog 68 [vI a0] (vS r)
  | 0, _, _, h => by cases h
  | k + 1, a0, r, h => by
    rw [concourseref01_Decimal.f] at h
    refine (Tr.body Tryz.func68 (c := _) rfl Tryz.ntmps68 (Nat.le_of_ble_eq_true rfl) fun R0 F => ?_).pt
    replace h := Gets.of h
    have H := h
    clear h
    refine WP.seq <| rg 1 0 <| as0 rfl rfl <| .fin <| WP.seq <| rg 3 0 <| mv0 rfl rfl <| bn0 rfl rfl rfl (run_rem (by decide)) <| as0 rfl rfl <| .fin <| WP.seqn H id (fun p234 : Int => [(0, vI a0), (2, vS (⟨#[]⟩ : ByteArray)), (3, vI p234), (8, vB (decide ((a0.tmod 10) < 0)))]) (fun p234 : Int => F) (fun p234 H => ?_) (fun H => ?_)
    rotate_left
    ·
     refine WP.seq <| rg 2 0 <| mv0 rfl rfl <| bn0 rfl rfl rfl run_lt <| .fin <| cd H rfl (fun _ H => ?_) (fun _ H => ?_)
     rotate_left
     ·
      refine WP.skip ?_
      replace H := Gets.out H
      exact jn (a0.tmod 10) H
     refine rg 3 0 <| mv0 rfl rfl <| un0 rfl rfl (run_neg _ _) <| as0 rfl rfl <| .fin ?_
     replace H := Gets.out H
     exact jn (w64 (0 - (a0.tmod 10))) H
    refine WP.seq <| rg 6 0 <| mv0 rfl rfl <| bn0 rfl rfl rfl run_add <| Dv.cvi rfl trivial rfl Tryz.underlying3 Tryz.underlying5 <| Dv.lit (intK .u8) ([IntKind.u8.wrap (w64 (48 + p234))] : List Int) (css := [[eq (.int .u8 (IntKind.u8.wrap (w64 (48 + p234))))]]) rfl trivial Tryz.underlying117 Tryz.underlying5 c5 z5 rfl (by decide) (by decide) rfl ⟨(cells_one (one_eq rfl)), trivial⟩ rfl rfl rfl <| Dv.cvbs rfl trivial rfl Tryz.underlying117 Tryz.underlying5 Tryz.underlying9 <| as0 rfl rfl <| .fin <| WP.seq <| WP.seq <| rg 6 0 <| mv0 rfl rfl <| bn0 rfl rfl rfl run_gt <| mv0 rfl rfl ?_
    cases c235 : decide ((-10) < a0)
    ·
     replace H := Gets.cf H c235
     refine sk rfl rfl <| sk rfl rfl <| pf0 rfl rfl rfl <| .fin <| WP.cond rfl nofun (fun _ => ?_)
     refine WP.skip <| WP.seq <| rg 6 0 <| mv0 rfl rfl <| bn0 rfl rfl rfl (run_quo (by decide)) <| el H fun t243 h244 H => cl rfl cal68 rfl (concourseref01_Decimal.c k h244) <| mv0 rfl rfl <| gr H fun g245 H => bn0 rfl rfl rfl (run_cat g245) <| as0 rfl rfl <| .fin ?_
     obtain rfl := Gets.out H
     exact rt i2 rfl () 0 [] 0 (.cons (res_tmp rfl) .nil)
    replace H := Gets.ct H c235
    refine mvg rfl rfl rfl <| bng rfl rfl rfl rfl run_lt <| pt0 rfl rfl rfl <| .fin <| cd H rfl (fun _ H => ?_) (fun _ H => ?_)
    rotate_left
    ·
     refine WP.skip <| WP.seq <| rg 6 0 <| mv0 rfl rfl <| bn0 rfl rfl rfl (run_quo (by decide)) <| el H fun t239 h240 H => cl rfl cal68 rfl (concourseref01_Decimal.c k h240) <| mv0 rfl rfl <| gr H fun g241 H => bn0 rfl rfl rfl (run_cat g241) <| as0 rfl rfl <| .fin ?_
     obtain rfl := Gets.out H
     exact rt i2 rfl () 0 [] 0 (.cons (res_tmp rfl) .nil)
    refine WP.seq <| WP.seq <| rg 2 0 <| mv0 rfl rfl <| bn0 rfl rfl rfl run_lt <| .fin <| cd H rfl (fun _ H => ?_) (fun _ H => ?_)
    rotate_left
    ·
     refine WP.skip <| WP.seq <| rg 2 0 <| mv0 rfl rfl <| as0 rfl rfl <| .fin ?_
     obtain rfl := Gets.out H
     exact rt i2 rfl () 0 [] 0 (.cons (res_tmp rfl) .nil)
    refine WP.seq <| rg 3 0 <| mv0 rfl rfl <| gr H fun g238 H => bn0 rfl rfl rfl (run_cat g238) <| as0 rfl rfl <| .fin ?_
    obtain rfl := Gets.out H
    exact rt i2 rfl () 0 [] 0 (.cons (res_tmp rfl) .nil)
theorem concourseref01_EventOf.c {k : Nat} {a0 : Int} {r : ByteArray} (h : concourseref01_EventOf.f k a0 = some r) : Pt Tryz.prog 29 [vI a0] (vS r) := by
 unfold concourseref01_EventOf.f at h
 refine (Tr.body Tryz.func29 (c := _) rfl Tryz.ntmps29 (Nat.le_of_ble_eq_true rfl) fun R0 F => ?_).pt
 replace h := Gets.of h
 have H := h
 clear h
 refine WP.seq <| rg 1 0 <| as0 rfl rfl <| .fin <| WP.seq <| rg 5 0 <| mv0 rfl rfl <| el H fun t247 h248 H => cl rfl cal49 rfl (concourseref01_Around.c h248) <| el H fun t249 h250 H => cl rfl cal68 rfl (concourseref01_Decimal.c _ h250) <| gr H fun g251 H => bn0 rfl rfl rfl (run_cat g251) <| as0 rfl rfl <| .fin ?_
 obtain rfl := Gets.out H
 exact rt i2 rfl () 0 [] 0 (.cons (res_tmp rfl) .nil)
theorem concourseref01_ServerOf.c {a0 : Int} {r : ByteArray} (h : concourseref01_ServerOf.f a0 = some r) : Pt Tryz.prog 39 [vI a0] (vS r) := by
 unfold concourseref01_ServerOf.f at h
 refine (Tr.body Tryz.func39 (c := _) rfl Tryz.ntmps39 (Nat.le_of_ble_eq_true rfl) fun R0 F => ?_).pt
 replace h := Gets.of h
 have H := h
 clear h
 refine WP.seq <| rg 1 0 <| as0 rfl rfl <| .fin <| WP.seq <| rg 6 0 <| Dv.lit strK ([(⟨#[115, 49]⟩ : ByteArray), (⟨#[115, 50]⟩ : ByteArray), (⟨#[115, 51]⟩ : ByteArray)] : List ByteArray) (css := [[vS (⟨#[115, 49]⟩ : ByteArray)], [vS (⟨#[115, 50]⟩ : ByteArray)], [vS (⟨#[115, 51]⟩ : ByteArray)]]) rfl trivial Tryz.underlying31 Tryz.underlying9 c9 z9 rfl (by decide) (by decide) rfl ⟨(cells_one (one_eq rfl)), ⟨(cells_one (one_eq rfl)), ⟨(cells_one (one_eq rfl)), trivial⟩⟩⟩ rfl rfl rfl <| mv0 rfl rfl <| el H fun t252 h253 H => cl rfl cal49 rfl (concourseref01_Around.c h253) <| gr H fun g254 H => Dv.ixr rfl trivial rfl rfl Tryz.underlying31 Tryz.underlying9 c9 g254.1 g254.2 <| ldR rfl trivial rfl sc9 rfl <| as0 rfl rfl <| .fin ?_
 obtain rfl := Gets.out H
 exact rt i2 rfl () 0 [] 0 (.cons (res_tmp rfl) .nil)
theorem concourseref01_UserOf.c {a0 : Int} {r : ByteArray} (h : concourseref01_UserOf.f a0 = some r) : Pt Tryz.prog 36 [vI a0] (vS r) := by
 unfold concourseref01_UserOf.f at h
 refine (Tr.body Tryz.func36 (c := _) rfl Tryz.ntmps36 (Nat.le_of_ble_eq_true rfl) fun R0 F => ?_).pt
 replace h := Gets.of h
 have H := h
 clear h
 refine WP.seq <| rg 1 0 <| as0 rfl rfl <| .fin <| WP.seq <| rg 3 0 <| mv0 rfl rfl <| el H fun t255 h256 H => cl rfl cal49 rfl (concourseref01_Around.c h256) <| as0 rfl rfl <| .fin <| WP.seq <| dg Tryz.checked.mixed 10 0 <| Dv.lit strK ([(⟨#[64, 97, 58]⟩ : ByteArray), (⟨#[64, 98, 58]⟩ : ByteArray), (⟨#[64, 99, 58]⟩ : ByteArray)] : List ByteArray) (css := [[vS (⟨#[64, 97, 58]⟩ : ByteArray)], [vS (⟨#[64, 98, 58]⟩ : ByteArray)], [vS (⟨#[64, 99, 58]⟩ : ByteArray)]]) rfl trivial Tryz.underlying31 Tryz.underlying9 c9 z9 rfl (by decide) (by decide) rfl ⟨(cells_one (one_eq rfl)), ⟨(cells_one (one_eq rfl)), ⟨(cells_one (one_eq rfl)), trivial⟩⟩⟩ rfl rfl rfl <| mv0 rfl rfl <| bn0 rfl rfl rfl (run_quo (by decide)) <| gr H fun g257 H => Dv.ixr rfl trivial rfl rfl Tryz.underlying31 Tryz.underlying9 c9 g257.1 g257.2 <| ldR rfl trivial rfl sc9 rfl <| mv0 rfl rfl <| bn0 rfl rfl rfl (run_rem (by decide)) <| el H fun t258 h259 H => cl rfl cal39 rfl (concourseref01_ServerOf.c h259) <| gr H fun g260 H => bn0 rfl rfl rfl (run_cat g260) <| as0 rfl rfl <| .fin ?_
 obtain rfl := Gets.out H
 exact rt i2 rfl () 0 [] 0 (.cons (res_tmp rfl) .nil)
theorem concourseref07_At.c {k : Nat} {a0 : RDag} {a1 : ByteArray} {r : Int} (h : concourseref07_At.f k a0 a1 = some r) : Pt Tryz.prog 69 [agg (RDag.enc a0), vS a1] (vI r) := by
 unfold concourseref07_At.f at h
 refine (Tr.body Tryz.func69 (c := _) rfl Tryz.ntmps69 (Nat.le_of_ble_eq_true rfl) fun R0 F => ?_).pt
 replace h := Gets.of h
 have H := h
 clear h
 refine WP.seq <| rg 2 1 <| Dv.box rfl trivial rfl cA nofun fun b261 => as0 rfl rfl <| .fin <| WP.seqr H id (fun p262 : Int × Bool => [(0, agg (RDag.enc a0)), (1, vS a1), (2, eq (.pointer (some ⟨b261, 0, none⟩))), (4, vI 0), (5, vI p262.1), (10, vB p262.2)]) (fun p262 : Int × Bool => [blk b261 36 (RDag.enc a0)] ++ F) (fun p262 H => ?_) (fun H => ?_)
 ·
  refine WP.seq <| rg 1 0 <| as0 rfl rfl <| .fin ?_
  obtain rfl := Gets.out H
  exact rt i2 rfl () 1 [0] 1 (.cons (res_tmp rfl) .nil)
 refine WP.seq <| rg 1 0 <| as0 rfl rfl <| .fin <| WP.block <| wg (sg 1 [0] 0) fun _ _ => ?_
 refine lp (fun j_ (p268 : Int) => concourseref07_At.l0 k a0 a1 j_ p268) 0 H (fun p268 => [(0, agg (RDag.enc a0)), (1, vS a1), (2, eq (.pointer (some ⟨b261, 0, none⟩))), (4, vI 0), (5, vI p268)]) (fun p268 => [blk b261 36 (RDag.enc a0)] ++ F) ?_
 rintro j_ x263 H
 rcases j_ with _ | j267
 ·
  exact (Gets.no H).elim
 replace H : Gets (concourseref07_At.l0 k a0 a1 (j267 + 1) x263) _ := H
 rw [concourseref07_At.l0] at H
 refine WP.seq <| WP.seq <| rg 5 0 <| mv0 rfl rfl <| fb rfl trivial rfl fa36_1 <| ld 0 rfl trivial rfl sc23 rfl rfl <| Dv.lenl rfl trivial rfl Tryz.underlying23 <| bn0 rfl rfl rfl run_lt <| .fin <| cd H rfl (fun _ H => ?_) (fun _ H => ?_)
 rotate_left
 ·
  refine WP.exit ?_
  replace H := Gets.out H
  exact jn (x263, decide (x263 < (a0.fL.length : Int))) H
 refine WP.skip <| WP.seq <| WP.block <| WP.seq <| rg 8 0 <| fb rfl trivial rfl fa36_1 <| ld 0 rfl trivial rfl sc23 rfl rfl <| mv0 rfl rfl <| gr H fun g265 H => Dv.ixr rfl trivial rfl rfl Tryz.underlying23 Tryz.underlying33 c33 g265.1 g265.2 <| fr rfl trivial rfl fa33_0 rfl <| ldR rfl trivial rfl sc9 rfl <| mv0 rfl rfl <| bn0 rfl rfl rfl run_seq <| .fin <| cd H rfl (fun _ H => ?_) (fun _ H => ?_)
 rotate_left
 ·
  exact WP.skip <| rg 3 0 <| mv0 rfl rfl <| bn0 rfl rfl rfl run_add <| as0 rfl rfl <| .fin <| bk j267 (w64 (x263 + 1)) H
 refine WP.seq <| rg 2 0 <| mv0 rfl rfl <| as0 rfl rfl <| .fin ?_
 replace H := Gets.outr H
 obtain rfl := Gets.out H
 exact rt i2 rfl () 1 [0] 1 (.cons (res_tmp rfl) .nil)
theorem concourseref01_low.c {a0 : Int} {r : Bool} (h : concourseref01_low.f a0 = some r) : Pt Tryz.prog 123 [eq (.int .u8 a0)] (vB r) := by
 unfold concourseref01_low.f at h
 refine (Tr.body Tryz.func123 (c := _) rfl Tryz.ntmps123 (Nat.le_of_ble_eq_true rfl) fun R0 F => ?_).pt
 replace h := Gets.of h
 have H := h
 clear h
 refine WP.seq <| rg 1 0 <| as0 rfl rfl <| .fin <| WP.seq <| rg 15 0 <| mv0 rfl rfl <| bn0 rfl rfl rfl run_ge <| mv0 rfl rfl ?_
 cases c269 : decide (97 ≤ a0)
 ·
  replace H := Gets.cf H c269
  refine sk rfl rfl <| sk rfl rfl <| pf0 rfl rfl rfl <| mv0 rfl rfl <| mvg rfl rfl rfl <| bng rfl rfl rfl rfl run_ge <| mvg rfl rfl rfl ?_
  cases c272 : decide (48 ≤ a0)
  ·
   replace H := Gets.cf H c272
   refine sk rfl rfl <| sk rfl rfl <| pfg rfl rfl rfl rfl <| pf0 rfl rfl rfl <| as0 rfl rfl <| .fin ?_
   obtain rfl := Gets.out H
   exact rt i2 rfl () 0 [] 0 (.cons (res_tmp rfl) .nil)
  replace H := Gets.ct H c272
  refine mvg rfl rfl rfl <| bng rfl rfl rfl rfl run_le <| ptg rfl rfl rfl rfl <| pf0 rfl rfl rfl <| as0 rfl rfl <| .fin ?_
  obtain rfl := Gets.out H
  exact rt i2 rfl () 0 [] 0 (.cons (res_tmp rfl) .nil)
 replace H := Gets.ct H c269
 refine mvg rfl rfl rfl <| bng rfl rfl rfl rfl run_le <| pt0 rfl rfl rfl <| mv0 rfl rfl ?_
 cases c270 : decide (a0 ≤ 122)
 rotate_left
 ·
  replace H := Gets.ct H c270
  refine sk rfl rfl <| sk rfl rfl <| sk rfl rfl <| sku rfl rfl <| sku rfl rfl <| sk rfl rfl <| pt0 rfl rfl rfl <| as0 rfl rfl <| .fin ?_
  obtain rfl := Gets.out H
  exact rt i2 rfl () 0 [] 0 (.cons (res_tmp rfl) .nil)
 replace H := Gets.cf H c270
 refine mvg rfl rfl rfl <| bng rfl rfl rfl rfl run_ge <| mvg rfl rfl rfl ?_
 cases c271 : decide (48 ≤ a0)
 ·
  replace H := Gets.cf H c271
  refine sk rfl rfl <| sk rfl rfl <| pfg rfl rfl rfl rfl <| pf0 rfl rfl rfl <| as0 rfl rfl <| .fin ?_
  obtain rfl := Gets.out H
  exact rt i2 rfl () 0 [] 0 (.cons (res_tmp rfl) .nil)
 replace H := Gets.ct H c271
 refine mvg rfl rfl rfl <| bng rfl rfl rfl rfl run_le <| ptg rfl rfl rfl rfl <| pf0 rfl rfl rfl <| as0 rfl rfl <| .fin ?_
 obtain rfl := Gets.out H
 exact rt i2 rfl () 0 [] 0 (.cons (res_tmp rfl) .nil)
theorem concourseref01_Event.c {k : Nat} {a0 : ByteArray} {r : Bool} (h : concourseref01_Event.f k a0 = some r) : Pt Tryz.prog 102 [vS a0] (vB r) := by
 unfold concourseref01_Event.f at h
 refine (Tr.body Tryz.func102 (c := _) rfl Tryz.ntmps102 (Nat.le_of_ble_eq_true rfl) fun R0 F => ?_).pt
 replace h := Gets.of h
 have H := h
 clear h
 refine WP.seq <| rg 1 0 <| as0 rfl rfl <| .fin <| WP.seq <| WP.seq <| rg 13 0 <| mv0 rfl rfl <| Dv.lens rfl trivial rfl Tryz.underlying9 <| bn0 rfl rfl rfl run_lt <| mv0 rfl rfl ?_
 cases c273 : decide ((a0.size : Int) < 2)
 rotate_left
 ·
  replace H := Gets.ct H c273
  refine sk rfl rfl <| sk rfl rfl <| sk rfl rfl <| pt0 rfl rfl rfl <| mv0 rfl rfl <| sk rfl rfl <| sk rfl rfl <| sk rfl rfl <| pt0 rfl rfl rfl <| .fin <| WP.cond rfl (fun _ => ?_) nofun
  refine WP.seq <| rg 1 0 <| as0 rfl rfl <| .fin ?_
  obtain rfl := Gets.out H
  exact rt i2 rfl () 0 [] 0 (.cons (res_tmp rfl) .nil)
 replace H := Gets.cf H c273
 refine mvg rfl rfl rfl <| Dv.lens rfl (gg rfl) rfl Tryz.underlying9 <| bng rfl rfl rfl rfl run_gt <| pf0 rfl rfl rfl <| mv0 rfl rfl ?_
 cases c275 : decide (17 < (a0.size : Int))
 rotate_left
 ·
  replace H := Gets.ct H c275
  refine sk rfl rfl <| sk rfl rfl <| sk rfl rfl <| pt0 rfl rfl rfl <| .fin <| WP.cond rfl (fun _ => ?_) nofun
  refine WP.seq <| rg 1 0 <| as0 rfl rfl <| .fin ?_
  obtain rfl := Gets.out H
  exact rt i2 rfl () 0 [] 0 (.cons (res_tmp rfl) .nil)
 replace H := Gets.cf H c275
 refine mvg rfl rfl rfl <| gr H fun g277 H => Dv.ixs rfl (gg rfl) rfl rfl Tryz.underlying9 g277.1 g277.2 <| bng rfl rfl rfl rfl run_ne <| pf0 rfl rfl rfl <| .fin <| cd H rfl (fun _ H => ?_) (fun _ H => ?_)
 ·
  refine WP.seq <| rg 1 0 <| as0 rfl rfl <| .fin ?_
  obtain rfl := Gets.out H
  exact rt i2 rfl () 0 [] 0 (.cons (res_tmp rfl) .nil)
 refine WP.skip <| WP.seqr H id (fun p279 : Int × Bool => [(0, vS a0), (2, vB false), (3, vI p279.1), (18, vB ((bt a0 0) != 36)), (22, vB p279.2)]) (fun p279 : Int × Bool => F) (fun p279 H => ?_) (fun H => ?_)
 ·
  refine WP.seq <| rg 1 0 <| as0 rfl rfl <| .fin ?_
  obtain rfl := Gets.out H
  exact rt i2 rfl () 0 [] 0 (.cons (res_tmp rfl) .nil)
 refine WP.seq <| rg 1 0 <| as0 rfl rfl <| .fin <| WP.block <| wg (sg 0 [] 0) fun _ _ => ?_
 refine lp (fun j_ (p305 : Int) => concourseref01_Event.l0 k a0 j_ p305) 1 H (fun p305 => [(0, vS a0), (2, vB false), (3, vI p305), (18, vB ((bt a0 0) != 36))]) (fun p305 => F) ?_
 rintro j_ x280 H
 rcases j_ with _ | j304
 ·
  exact (Gets.no H).elim
 replace H : Gets (concourseref01_Event.l0 k a0 (j304 + 1) x280) _ := H
 rw [concourseref01_Event.l0] at H
 refine WP.seq <| WP.seq <| rg 4 0 <| mv0 rfl rfl <| mv0 rfl rfl <| Dv.lens rfl trivial rfl Tryz.underlying9 <| bn0 rfl rfl rfl run_lt <| .fin <| cd H rfl (fun _ H => ?_) (fun _ H => ?_)
 rotate_left
 ·
  refine WP.exit ?_
  replace H := Gets.out H
  exact jn (x280, decide (x280 < (a0.size : Int))) H
 refine WP.skip <| WP.seq <| WP.block <| WP.seq <| rg 5 0 <| mv0 rfl rfl <| mv0 rfl rfl <| gr H fun g282 H => Dv.ixs rfl trivial rfl rfl Tryz.underlying9 g282.1 g282.2 <| el H fun t283 h284 H => cl rfl cal123 rfl (concourseref01_low.c h284) <| as0 rfl rfl <| .fin <| WP.seq <| rg 11 0 <| mv0 rfl rfl <| mv0 rfl rfl <| gr H fun g285 H => Dv.ixs rfl trivial rfl rfl Tryz.underlying9 g285.1 g285.2 <| bn0 rfl rfl rfl run_ge <| mv0 rfl rfl ?_
 cases c286 : decide (65 ≤ (bt a0 x280))
 ·
  replace H := Gets.cf H c286
  refine sk rfl rfl <| sk rfl rfl <| sk rfl rfl <| sk rfl rfl <| pf0 rfl rfl rfl <| as0 rfl rfl <| .fin <| WP.seq <| rg 18 0 <| mv0 rfl rfl <| un0 rfl rfl (run_not _) <| mv0 rfl rfl ?_
  cases c297 : !t283
  ·
   replace H := Gets.cf H c297
   refine sk rfl rfl <| sk rfl rfl <| pf0 rfl rfl rfl <| mv0 rfl rfl <| sk rfl rfl <| sk rfl rfl <| sk rfl rfl <| sk rfl rfl <| pf0 rfl rfl rfl <| mv0 rfl rfl <| sk rfl rfl <| sk rfl rfl <| sk rfl rfl <| sk rfl rfl <| pf0 rfl rfl rfl <| .fin <| WP.cond rfl nofun (fun _ => ?_)
   exact WP.skip <| rg 3 0 <| mv0 rfl rfl <| bn0 rfl rfl rfl run_add <| as0 rfl rfl <| .fin <| bk j304 (w64 (x280 + 1)) H
  replace H := Gets.ct H c297
  refine mvg rfl rfl rfl <| ung rfl rfl rfl (run_not _) <| pt0 rfl rfl rfl <| mv0 rfl rfl <| mvg rfl rfl rfl <| mvg rfl rfl rfl <| gr H fun g298 H => Dv.ixs rfl (gg rfl) rfl rfl Tryz.underlying9 g298.1 g298.2 <| bng rfl rfl rfl rfl run_ne <| pt0 rfl rfl rfl <| mv0 rfl rfl ?_
  cases c299 : ((bt a0 x280) != 45)
  ·
   replace H := Gets.cf H c299
   refine sk rfl rfl <| sk rfl rfl <| sk rfl rfl <| sk rfl rfl <| pf0 rfl rfl rfl <| .fin <| WP.cond rfl nofun (fun _ => ?_)
   exact WP.skip <| rg 3 0 <| mv0 rfl rfl <| bn0 rfl rfl rfl run_add <| as0 rfl rfl <| .fin <| bk j304 (w64 (x280 + 1)) H
  replace H := Gets.ct H c299
  refine mvg rfl rfl rfl <| mvg rfl rfl rfl <| gr H fun g300 H => Dv.ixs rfl (gg rfl) rfl rfl Tryz.underlying9 g300.1 g300.2 <| bng rfl rfl rfl rfl run_ne <| pt0 rfl rfl rfl <| .fin <| cd H rfl (fun _ H => ?_) (fun _ H => ?_)
  rotate_left
  ·
   exact WP.skip <| rg 3 0 <| mv0 rfl rfl <| bn0 rfl rfl rfl run_add <| as0 rfl rfl <| .fin <| bk j304 (w64 (x280 + 1)) H
  refine WP.seq <| rg 1 0 <| as0 rfl rfl <| .fin ?_
  replace H := Gets.outr H
  obtain rfl := Gets.out H
  exact rt i2 rfl () 0 [] 0 (.cons (res_tmp rfl) .nil)
 replace H := Gets.ct H c286
 refine mvg rfl rfl rfl <| mvg rfl rfl rfl <| gr H fun g287 H => Dv.ixs rfl (gg rfl) rfl rfl Tryz.underlying9 g287.1 g287.2 <| bng rfl rfl rfl rfl run_le <| pt0 rfl rfl rfl <| as0 rfl rfl <| .fin <| WP.seq <| rg 18 0 <| mv0 rfl rfl <| un0 rfl rfl (run_not _) <| mv0 rfl rfl ?_
 cases c288 : !t283
 ·
  replace H := Gets.cf H c288
  refine sk rfl rfl <| sk rfl rfl <| pf0 rfl rfl rfl <| mv0 rfl rfl <| sk rfl rfl <| sk rfl rfl <| sk rfl rfl <| sk rfl rfl <| pf0 rfl rfl rfl <| mv0 rfl rfl <| sk rfl rfl <| sk rfl rfl <| sk rfl rfl <| sk rfl rfl <| pf0 rfl rfl rfl <| .fin <| WP.cond rfl nofun (fun _ => ?_)
  exact WP.skip <| rg 3 0 <| mv0 rfl rfl <| bn0 rfl rfl rfl run_add <| as0 rfl rfl <| .fin <| bk j304 (w64 (x280 + 1)) H
 replace H := Gets.ct H c288
 refine mvg rfl rfl rfl <| ung rfl rfl rfl (run_not _) <| pt0 rfl rfl rfl <| mv0 rfl rfl ?_
 cases c289 : !(decide ((bt a0 x280) ≤ 90))
 ·
  replace H := Gets.cf H c289
  refine sk rfl rfl <| sk rfl rfl <| sk rfl rfl <| sk rfl rfl <| pf0 rfl rfl rfl <| mv0 rfl rfl <| sk rfl rfl <| sk rfl rfl <| sk rfl rfl <| sk rfl rfl <| pf0 rfl rfl rfl <| .fin <| WP.cond rfl nofun (fun _ => ?_)
  exact WP.skip <| rg 3 0 <| mv0 rfl rfl <| bn0 rfl rfl rfl run_add <| as0 rfl rfl <| .fin <| bk j304 (w64 (x280 + 1)) H
 replace H := Gets.ct H c289
 refine mvg rfl rfl rfl <| mvg rfl rfl rfl <| gr H fun g290 H => Dv.ixs rfl (gg rfl) rfl rfl Tryz.underlying9 g290.1 g290.2 <| bng rfl rfl rfl rfl run_ne <| pt0 rfl rfl rfl <| mv0 rfl rfl ?_
 cases c291 : ((bt a0 x280) != 45)
 ·
  replace H := Gets.cf H c291
  refine sk rfl rfl <| sk rfl rfl <| sk rfl rfl <| sk rfl rfl <| pf0 rfl rfl rfl <| .fin <| WP.cond rfl nofun (fun _ => ?_)
  exact WP.skip <| rg 3 0 <| mv0 rfl rfl <| bn0 rfl rfl rfl run_add <| as0 rfl rfl <| .fin <| bk j304 (w64 (x280 + 1)) H
 replace H := Gets.ct H c291
 refine mvg rfl rfl rfl <| mvg rfl rfl rfl <| gr H fun g292 H => Dv.ixs rfl (gg rfl) rfl rfl Tryz.underlying9 g292.1 g292.2 <| bng rfl rfl rfl rfl run_ne <| pt0 rfl rfl rfl <| .fin <| cd H rfl (fun _ H => ?_) (fun _ H => ?_)
 rotate_left
 ·
  exact WP.skip <| rg 3 0 <| mv0 rfl rfl <| bn0 rfl rfl rfl run_add <| as0 rfl rfl <| .fin <| bk j304 (w64 (x280 + 1)) H
 refine WP.seq <| rg 1 0 <| as0 rfl rfl <| .fin ?_
 replace H := Gets.outr H
 obtain rfl := Gets.out H
 exact rt i2 rfl () 0 [] 0 (.cons (res_tmp rfl) .nil)
theorem concourseref01_colon.c {k : Nat} {a0 : ByteArray} {r : Int} (h : concourseref01_colon.f k a0 = some r) : Pt Tryz.prog 122 [vS a0] (vI r) := by
 unfold concourseref01_colon.f at h
 refine (Tr.body Tryz.func122 (c := _) rfl Tryz.ntmps122 (Nat.le_of_ble_eq_true rfl) fun R0 F => ?_).pt
 replace h := Gets.of h
 have H := h
 clear h
 refine WP.seq <| rg 1 0 <| as0 rfl rfl <| .fin <| WP.seqr H id (fun p306 : Int × Bool => [(0, vS a0), (2, vI 0), (3, vI p306.1), (7, vB p306.2)]) (fun p306 : Int × Bool => F) (fun p306 H => ?_) (fun H => ?_)
 ·
  refine WP.seq <| rg 1 0 <| as0 rfl rfl <| .fin ?_
  obtain rfl := Gets.out H
  exact rt i2 rfl () 0 [] 0 (.cons (res_tmp rfl) .nil)
 refine WP.seq <| rg 1 0 <| as0 rfl rfl <| .fin <| WP.block <| wg (sg 0 [] 0) fun _ _ => ?_
 refine lp (fun j_ (p312 : Int) => concourseref01_colon.l0 k a0 j_ p312) 0 H (fun p312 => [(0, vS a0), (2, vI 0), (3, vI p312)]) (fun p312 => F) ?_
 rintro j_ x307 H
 rcases j_ with _ | j311
 ·
  exact (Gets.no H).elim
 replace H : Gets (concourseref01_colon.l0 k a0 (j311 + 1) x307) _ := H
 rw [concourseref01_colon.l0] at H
 refine WP.seq <| WP.seq <| rg 4 0 <| mv0 rfl rfl <| mv0 rfl rfl <| Dv.lens rfl trivial rfl Tryz.underlying9 <| bn0 rfl rfl rfl run_lt <| .fin <| cd H rfl (fun _ H => ?_) (fun _ H => ?_)
 rotate_left
 ·
  refine WP.exit ?_
  replace H := Gets.out H
  exact jn (x307, decide (x307 < (a0.size : Int))) H
 refine WP.skip <| WP.seq <| WP.block <| WP.seq <| rg 4 0 <| mv0 rfl rfl <| mv0 rfl rfl <| gr H fun g309 H => Dv.ixs rfl trivial rfl rfl Tryz.underlying9 g309.1 g309.2 <| bn0 rfl rfl rfl run_eq <| .fin <| cd H rfl (fun _ H => ?_) (fun _ H => ?_)
 rotate_left
 ·
  exact WP.skip <| rg 3 0 <| mv0 rfl rfl <| bn0 rfl rfl rfl run_add <| as0 rfl rfl <| .fin <| bk j311 (w64 (x307 + 1)) H
 refine WP.seq <| rg 2 0 <| mv0 rfl rfl <| as0 rfl rfl <| .fin ?_
 replace H := Gets.outr H
 obtain rfl := Gets.out H
 exact rt i2 rfl () 0 [] 0 (.cons (res_tmp rfl) .nil)
theorem concourseref01_Part.c {k : Nat} {a0 : ByteArray} {r : Bool} (h : concourseref01_Part.f k a0 = some r) : Pt Tryz.prog 124 [vS a0] (vB r) := by
 unfold concourseref01_Part.f at h
 refine (Tr.body Tryz.func124 (c := _) rfl Tryz.ntmps124 (Nat.le_of_ble_eq_true rfl) fun R0 F => ?_).pt
 replace h := Gets.of h
 have H := h
 clear h
 refine WP.seq <| rg 1 0 <| as0 rfl rfl <| .fin <| WP.seqr H id (fun p313 : Int × Bool => [(0, vS a0), (2, vB false), (3, vI p313.1), (8, vB p313.2)]) (fun p313 : Int × Bool => F) (fun p313 H => ?_) (fun H => ?_)
 ·
  refine WP.seq <| rg 9 0 <| mv0 rfl rfl <| Dv.lens rfl trivial rfl Tryz.underlying9 <| bn0 rfl rfl rfl run_gt <| mv0 rfl rfl ?_
  cases c314 : decide (0 < (a0.size : Int))
  ·
   replace H := Gets.cf H c314
   refine sk rfl rfl <| sk rfl rfl <| sk rfl rfl <| pf0 rfl rfl rfl <| as0 rfl rfl <| .fin ?_
   obtain rfl := Gets.out H
   exact rt i2 rfl () 0 [] 0 (.cons (res_tmp rfl) .nil)
  replace H := Gets.ct H c314
  refine mvg rfl rfl rfl <| Dv.lens rfl (gg rfl) rfl Tryz.underlying9 <| bng rfl rfl rfl rfl run_lt <| pt0 rfl rfl rfl <| as0 rfl rfl <| .fin ?_
  obtain rfl := Gets.out H
  exact rt i2 rfl () 0 [] 0 (.cons (res_tmp rfl) .nil)
 refine WP.seq <| rg 1 0 <| as0 rfl rfl <| .fin <| WP.block <| wg (sg 0 [] 0) fun _ _ => ?_
 refine lp (fun j_ (p331 : Int) => concourseref01_Part.l0 k a0 j_ p331) 0 H (fun p331 => [(0, vS a0), (2, vB false), (3, vI p331)]) (fun p331 => F) ?_
 rintro j_ x315 H
 rcases j_ with _ | j330
 ·
  exact (Gets.no H).elim
 replace H : Gets (concourseref01_Part.l0 k a0 (j330 + 1) x315) _ := H
 rw [concourseref01_Part.l0] at H
 refine WP.seq <| WP.seq <| rg 4 0 <| mv0 rfl rfl <| mv0 rfl rfl <| Dv.lens rfl trivial rfl Tryz.underlying9 <| bn0 rfl rfl rfl run_lt <| .fin <| cd H rfl (fun _ H => ?_) (fun _ H => ?_)
 rotate_left
 ·
  refine WP.exit ?_
  replace H := Gets.out H
  exact jn (x315, decide (x315 < (a0.size : Int))) H
 refine WP.skip <| WP.seq <| WP.block <| WP.seq <| rg 5 0 <| mv0 rfl rfl <| mv0 rfl rfl <| gr H fun g317 H => Dv.ixs rfl trivial rfl rfl Tryz.underlying9 g317.1 g317.2 <| el H fun t318 h319 H => cl rfl cal123 rfl (concourseref01_low.c h319) <| as0 rfl rfl <| .fin <| WP.seq <| rg 20 0 <| mv0 rfl rfl <| un0 rfl rfl (run_not _) <| mv0 rfl rfl ?_
 cases c320 : !t318
 ·
  replace H := Gets.cf H c320
  refine sk rfl rfl <| sk rfl rfl <| sk rfl rfl <| sk rfl rfl <| pf0 rfl rfl rfl <| mv0 rfl rfl <| sk rfl rfl <| sk rfl rfl <| sk rfl rfl <| sk rfl rfl <| pf0 rfl rfl rfl <| mv0 rfl rfl <| sk rfl rfl <| sk rfl rfl <| sk rfl rfl <| sk rfl rfl <| pf0 rfl rfl rfl <| .fin <| WP.cond rfl nofun (fun _ => ?_)
  exact WP.skip <| rg 3 0 <| mv0 rfl rfl <| bn0 rfl rfl rfl run_add <| as0 rfl rfl <| .fin <| bk j330 (w64 (x315 + 1)) H
 replace H := Gets.ct H c320
 refine mvg rfl rfl rfl <| mvg rfl rfl rfl <| gr H fun g321 H => Dv.ixs rfl (gg rfl) rfl rfl Tryz.underlying9 g321.1 g321.2 <| bng rfl rfl rfl rfl run_ne <| pt0 rfl rfl rfl <| mv0 rfl rfl ?_
 cases c322 : ((bt a0 x315) != 46)
 ·
  replace H := Gets.cf H c322
  refine sk rfl rfl <| sk rfl rfl <| sk rfl rfl <| sk rfl rfl <| pf0 rfl rfl rfl <| mv0 rfl rfl <| sk rfl rfl <| sk rfl rfl <| sk rfl rfl <| sk rfl rfl <| pf0 rfl rfl rfl <| .fin <| WP.cond rfl nofun (fun _ => ?_)
  exact WP.skip <| rg 3 0 <| mv0 rfl rfl <| bn0 rfl rfl rfl run_add <| as0 rfl rfl <| .fin <| bk j330 (w64 (x315 + 1)) H
 replace H := Gets.ct H c322
 refine mvg rfl rfl rfl <| mvg rfl rfl rfl <| gr H fun g323 H => Dv.ixs rfl (gg rfl) rfl rfl Tryz.underlying9 g323.1 g323.2 <| bng rfl rfl rfl rfl run_ne <| pt0 rfl rfl rfl <| mv0 rfl rfl ?_
 cases c324 : ((bt a0 x315) != 45)
 ·
  replace H := Gets.cf H c324
  refine sk rfl rfl <| sk rfl rfl <| sk rfl rfl <| sk rfl rfl <| pf0 rfl rfl rfl <| .fin <| WP.cond rfl nofun (fun _ => ?_)
  exact WP.skip <| rg 3 0 <| mv0 rfl rfl <| bn0 rfl rfl rfl run_add <| as0 rfl rfl <| .fin <| bk j330 (w64 (x315 + 1)) H
 replace H := Gets.ct H c324
 refine mvg rfl rfl rfl <| mvg rfl rfl rfl <| gr H fun g325 H => Dv.ixs rfl (gg rfl) rfl rfl Tryz.underlying9 g325.1 g325.2 <| bng rfl rfl rfl rfl run_ne <| pt0 rfl rfl rfl <| .fin <| cd H rfl (fun _ H => ?_) (fun _ H => ?_)
 rotate_left
 ·
  exact WP.skip <| rg 3 0 <| mv0 rfl rfl <| bn0 rfl rfl rfl run_add <| as0 rfl rfl <| .fin <| bk j330 (w64 (x315 + 1)) H
 refine WP.seq <| rg 1 0 <| as0 rfl rfl <| .fin ?_
 replace H := Gets.outr H
 obtain rfl := Gets.out H
 exact rt i2 rfl () 0 [] 0 (.cons (res_tmp rfl) .nil)
theorem concourseref01_Server.c {k : Nat} {a0 : ByteArray} {r : Bool} (h : concourseref01_Server.f k a0 = some r) : Pt Tryz.prog 125 [vS a0] (vB r) := by
 unfold concourseref01_Server.f at h
 refine (Tr.body Tryz.func125 (c := _) rfl Tryz.ntmps125 (Nat.le_of_ble_eq_true rfl) fun R0 F => ?_).pt
 replace h := Gets.of h
 have H := h
 clear h
 refine WP.seq <| rg 1 0 <| as0 rfl rfl <| .fin <| WP.seqr H id (fun p332 : Int × Bool => [(0, vS a0), (2, vB false), (3, vI p332.1), (9, vB p332.2)]) (fun p332 : Int × Bool => F) (fun p332 H => ?_) (fun H => ?_)
 ·
  refine WP.seq <| rg 9 0 <| mv0 rfl rfl <| Dv.lens rfl trivial rfl Tryz.underlying9 <| bn0 rfl rfl rfl run_gt <| mv0 rfl rfl ?_
  cases c333 : decide (0 < (a0.size : Int))
  ·
   replace H := Gets.cf H c333
   refine sk rfl rfl <| sk rfl rfl <| sk rfl rfl <| pf0 rfl rfl rfl <| as0 rfl rfl <| .fin ?_
   obtain rfl := Gets.out H
   exact rt i2 rfl () 0 [] 0 (.cons (res_tmp rfl) .nil)
  replace H := Gets.ct H c333
  refine mvg rfl rfl rfl <| Dv.lens rfl (gg rfl) rfl Tryz.underlying9 <| bng rfl rfl rfl rfl run_lt <| pt0 rfl rfl rfl <| as0 rfl rfl <| .fin ?_
  obtain rfl := Gets.out H
  exact rt i2 rfl () 0 [] 0 (.cons (res_tmp rfl) .nil)
 refine WP.seq <| rg 1 0 <| as0 rfl rfl <| .fin <| WP.block <| wg (sg 0 [] 0) fun _ _ => ?_
 refine lp (fun j_ (p357 : Int) => concourseref01_Server.l0 k a0 j_ p357) 0 H (fun p357 => [(0, vS a0), (2, vB false), (3, vI p357)]) (fun p357 => F) ?_
 rintro j_ x334 H
 rcases j_ with _ | j356
 ·
  exact (Gets.no H).elim
 replace H : Gets (concourseref01_Server.l0 k a0 (j356 + 1) x334) _ := H
 rw [concourseref01_Server.l0] at H
 refine WP.seq <| WP.seq <| rg 4 0 <| mv0 rfl rfl <| mv0 rfl rfl <| Dv.lens rfl trivial rfl Tryz.underlying9 <| bn0 rfl rfl rfl run_lt <| .fin <| cd H rfl (fun _ H => ?_) (fun _ H => ?_)
 rotate_left
 ·
  refine WP.exit ?_
  replace H := Gets.out H
  exact jn (x334, decide (x334 < (a0.size : Int))) H
 refine WP.skip <| WP.seq <| WP.block <| WP.seq <| rg 5 0 <| mv0 rfl rfl <| mv0 rfl rfl <| gr H fun g336 H => Dv.ixs rfl trivial rfl rfl Tryz.underlying9 g336.1 g336.2 <| el H fun t337 h338 H => cl rfl cal123 rfl (concourseref01_low.c h338) <| as0 rfl rfl <| .fin <| WP.seq <| rg 22 0 <| mv0 rfl rfl <| bn0 rfl rfl rfl run_gt <| mv0 rfl rfl ?_
 cases c339 : decide (0 < x334)
 ·
  replace H := Gets.cf H c339
  refine sk rfl rfl <| sk rfl rfl <| sk rfl rfl <| sk rfl rfl <| sk rfl rfl <| pf0 rfl rfl rfl <| mv0 rfl rfl <| sk rfl rfl <| sk rfl rfl <| sk rfl rfl <| sk rfl rfl <| sk rfl rfl <| sku rfl rfl <| sku rfl rfl <| sku rfl rfl <| sku rfl rfl <| sk rfl rfl <| pf0 rfl rfl rfl <| as0 rfl rfl <| .fin <| WP.seq <| rg 6 0 <| mv0 rfl rfl <| un0 rfl rfl (run_not _) <| mv0 rfl rfl ?_
  cases c353 : !t337
  ·
   replace H := Gets.cf H c353
   refine sk rfl rfl <| sk rfl rfl <| pf0 rfl rfl rfl <| .fin <| WP.cond rfl nofun (fun _ => ?_)
   exact WP.skip <| rg 3 0 <| mv0 rfl rfl <| bn0 rfl rfl rfl run_add <| as0 rfl rfl <| .fin <| bk j356 (w64 (x334 + 1)) H
  replace H := Gets.ct H c353
  refine mvg rfl rfl rfl <| ung rfl rfl rfl (run_not _) <| pt0 rfl rfl rfl <| .fin <| WP.cond rfl (fun _ => ?_) nofun
  refine WP.seq <| rg 1 0 <| as0 rfl rfl <| .fin ?_
  replace H := Gets.outr H
  obtain rfl := Gets.out H
  exact rt i2 rfl () 0 [] 0 (.cons (res_tmp rfl) .nil)
 replace H := Gets.ct H c339
 refine mvg rfl rfl rfl <| mvg rfl rfl rfl <| Dv.lens rfl (gg rfl) rfl Tryz.underlying9 <| bng rfl rfl rfl rfl run_sub <| bng rfl rfl rfl rfl run_lt <| pt0 rfl rfl rfl <| mv0 rfl rfl ?_
 cases c340 : decide (x334 < (w64 ((a0.size : Int) - 1)))
 ·
  replace H := Gets.cf H c340
  refine sk rfl rfl <| sk rfl rfl <| sk rfl rfl <| sk rfl rfl <| sk rfl rfl <| sku rfl rfl <| sku rfl rfl <| sku rfl rfl <| sku rfl rfl <| sk rfl rfl <| pf0 rfl rfl rfl <| as0 rfl rfl <| .fin <| WP.seq <| rg 6 0 <| mv0 rfl rfl <| un0 rfl rfl (run_not _) <| mv0 rfl rfl ?_
  cases c350 : !t337
  ·
   replace H := Gets.cf H c350
   refine sk rfl rfl <| sk rfl rfl <| pf0 rfl rfl rfl <| .fin <| WP.cond rfl nofun (fun _ => ?_)
   exact WP.skip <| rg 3 0 <| mv0 rfl rfl <| bn0 rfl rfl rfl run_add <| as0 rfl rfl <| .fin <| bk j356 (w64 (x334 + 1)) H
  replace H := Gets.ct H c350
  refine mvg rfl rfl rfl <| ung rfl rfl rfl (run_not _) <| pt0 rfl rfl rfl <| .fin <| WP.cond rfl (fun _ => ?_) nofun
  refine WP.seq <| rg 1 0 <| as0 rfl rfl <| .fin ?_
  replace H := Gets.outr H
  obtain rfl := Gets.out H
  exact rt i2 rfl () 0 [] 0 (.cons (res_tmp rfl) .nil)
 replace H := Gets.ct H c340
 refine mvg rfl rfl rfl <| mvg rfl rfl rfl <| gr H fun g341 H => Dv.ixs rfl (gg rfl) rfl rfl Tryz.underlying9 g341.1 g341.2 <| bng rfl rfl rfl rfl run_eq <| mvg rfl rfl rfl ?_
 cases c342 : ((bt a0 x334) == 46)
 rotate_left
 ·
  replace H := Gets.ct H c342
  refine sk rfl rfl <| sk rfl rfl <| sk rfl rfl <| sk rfl rfl <| ptg rfl rfl rfl rfl <| pt0 rfl rfl rfl <| as0 rfl rfl <| .fin <| WP.seq <| rg 6 0 <| mv0 rfl rfl <| un0 rfl rfl (run_not _) <| mv0 rfl rfl ?_
  cases c343 : !t337
  ·
   replace H := Gets.cf H c343
   refine sk rfl rfl <| sk rfl rfl <| pf0 rfl rfl rfl <| .fin <| WP.cond rfl nofun (fun _ => ?_)
   exact WP.skip <| rg 3 0 <| mv0 rfl rfl <| bn0 rfl rfl rfl run_add <| as0 rfl rfl <| .fin <| bk j356 (w64 (x334 + 1)) H
  replace H := Gets.ct H c343
  refine mvg rfl rfl rfl <| ung rfl rfl rfl (run_not _) <| pt0 rfl rfl rfl <| .fin <| WP.cond rfl nofun (fun _ => ?_)
  exact WP.skip <| rg 3 0 <| mv0 rfl rfl <| bn0 rfl rfl rfl run_add <| as0 rfl rfl <| .fin <| bk j356 (w64 (x334 + 1)) H
 replace H := Gets.cf H c342
 refine mvg rfl rfl rfl <| mvg rfl rfl rfl <| gr H fun g346 H => Dv.ixs rfl (gg rfl) rfl rfl Tryz.underlying9 g346.1 g346.2 <| bng rfl rfl rfl rfl run_eq <| pfg rfl rfl rfl rfl <| pt0 rfl rfl rfl <| as0 rfl rfl <| .fin <| WP.seq <| rg 6 0 <| mv0 rfl rfl <| un0 rfl rfl (run_not _) <| mv0 rfl rfl ?_
 cases c347 : !t337
 ·
  replace H := Gets.cf H c347
  refine sk rfl rfl <| sk rfl rfl <| pf0 rfl rfl rfl <| .fin <| WP.cond rfl nofun (fun _ => ?_)
  exact WP.skip <| rg 3 0 <| mv0 rfl rfl <| bn0 rfl rfl rfl run_add <| as0 rfl rfl <| .fin <| bk j356 (w64 (x334 + 1)) H
 replace H := Gets.ct H c347
 refine mvg rfl rfl rfl <| ung rfl rfl rfl (run_not _) <| pt0 rfl rfl rfl <| .fin <| cd H rfl (fun _ H => ?_) (fun _ H => ?_)
 rotate_left
 ·
  exact WP.skip <| rg 3 0 <| mv0 rfl rfl <| bn0 rfl rfl rfl run_add <| as0 rfl rfl <| .fin <| bk j356 (w64 (x334 + 1)) H
 refine WP.seq <| rg 1 0 <| as0 rfl rfl <| .fin ?_
 replace H := Gets.outr H
 obtain rfl := Gets.out H
 exact rt i2 rfl () 0 [] 0 (.cons (res_tmp rfl) .nil)
theorem concourseref01_Named.c {k : Nat} {a0 : ByteArray} {a1 : Int} {r : Bool} (h : concourseref01_Named.f k a0 a1 = some r) : Pt Tryz.prog 103 [vS a0, eq (.int .u8 a1)] (vB r) := by
 unfold concourseref01_Named.f at h
 refine (Tr.body Tryz.func103 (c := _) rfl Tryz.ntmps103 (Nat.le_of_ble_eq_true rfl) fun R0 F => ?_).pt
 replace h := Gets.of h
 have H := h
 clear h
 refine WP.seq <| rg 1 0 <| as0 rfl rfl <| .fin <| WP.seq <| rg 3 0 <| mv0 rfl rfl <| el H fun t358 h359 H => cl rfl cal122 rfl (concourseref01_colon.c h359) <| as0 rfl rfl <| .fin <| WP.seq <| WP.seq <| rg 8 0 <| mv0 rfl rfl <| bn0 rfl rfl rfl run_lt <| mv0 rfl rfl ?_
 cases c360 : decide (t358 < 1)
 rotate_left
 ·
  replace H := Gets.ct H c360
  refine sk rfl rfl <| sk rfl rfl <| sk rfl rfl <| sk rfl rfl <| pt0 rfl rfl rfl <| .fin <| WP.cond rfl (fun _ => ?_) nofun
  refine WP.seq <| rg 1 0 <| as0 rfl rfl <| .fin ?_
  obtain rfl := Gets.out H
  exact rt i2 rfl () 0 [] 0 (.cons (res_tmp rfl) .nil)
 replace H := Gets.cf H c360
 refine mvg rfl rfl rfl <| gr H fun g362 H => Dv.ixs rfl (gg rfl) rfl rfl Tryz.underlying9 g362.1 g362.2 <| mvg rfl rfl rfl <| bng rfl rfl rfl rfl run_ne <| pf0 rfl rfl rfl <| .fin <| cd H rfl (fun _ H => ?_) (fun _ H => ?_)
 ·
  refine WP.seq <| rg 1 0 <| as0 rfl rfl <| .fin ?_
  obtain rfl := Gets.out H
  exact rt i2 rfl () 0 [] 0 (.cons (res_tmp rfl) .nil)
 refine WP.skip <| WP.seq <| rg 5 0 <| mv0 rfl rfl <| mv0 rfl rfl <| gr H fun g364 H => Dv.sss rfl trivial rfl Tryz.underlying9 (bdE_some rfl g364.1) (bdE_some rfl g364.2.1) g364.2.2.1 g364.2.2.2 <| el H fun t365 h366 H => cl rfl cal124 rfl (concourseref01_Part.c h366) <| as0 rfl rfl <| .fin <| WP.seq <| rg 6 0 <| mv0 rfl rfl <| mv0 rfl rfl <| bn0 rfl rfl rfl run_add <| gr H fun g367 H => Dv.sss rfl trivial rfl Tryz.underlying9 (bdE_some rfl g367.1) bdE_none g367.2.1 g367.2.2 <| el H fun t368 h369 H => cl rfl cal125 rfl (concourseref01_Server.c h369) <| as0 rfl rfl <| .fin <| WP.seq <| rg 5 0 <| mv0 rfl rfl <| mv0 rfl rfl ?_
 cases c370 : t365
 ·
  replace H := Gets.cf H c370
  refine sk rfl rfl <| pf0 rfl rfl rfl <| as0 rfl rfl <| .fin ?_
  obtain rfl := Gets.out H
  exact rt i2 rfl () 0 [] 0 (.cons (res_tmp rfl) .nil)
 replace H := Gets.ct H c370
 refine mvg rfl rfl rfl <| pt0 rfl rfl rfl <| as0 rfl rfl <| .fin ?_
 obtain rfl := Gets.out H
 exact rt i2 rfl () 0 [] 0 (.cons (res_tmp rfl) .nil)
theorem concourseref07_May.c {k : Nat} {a0 : Event} {r : Bool} (h : concourseref07_May.f k a0 = some r) : Pt Tryz.prog 83 [agg (Event.enc a0)] (vB r) := by
 unfold concourseref07_May.f at h
 refine (Tr.body Tryz.func83 (c := _) rfl Tryz.ntmps83 (Nat.le_of_ble_eq_true rfl) fun R0 F => ?_).pt
 replace h := Gets.of h
 have H := h
 clear h
 refine WP.seq <| rg 2 1 <| Dv.box rfl trivial rfl cA nofun fun b371 => as0 rfl rfl <| .fin <| WP.seq <| rg 4 0 <| fb rfl trivial rfl fa33_0 <| ld 0 rfl trivial rfl sc9 rfl rfl <| el H fun t372 h373 H => cl rfl cal102 rfl (concourseref01_Event.c h373) <| as0 rfl rfl <| .fin <| WP.seq <| rg 4 0 <| fb rfl trivial rfl fa33_1 <| ld 0 rfl trivial rfl sc9 rfl rfl <| el H fun t374 h375 H => cl rfl cal103 rfl (concourseref01_Named.c h375) <| as0 rfl rfl <| .fin <| WP.seq <| rg 4 0 <| fb rfl trivial rfl fa33_4 <| ld 0 rfl trivial rfl sc9 rfl rfl <| el H fun t376 h377 H => cl rfl cal103 rfl (concourseref01_Named.c h377) <| as0 rfl rfl <| .fin <| WP.seq <| WP.seq <| rg 26 0 <| mv0 rfl rfl <| un0 rfl rfl (run_not _) <| mv0 rfl rfl ?_
 cases c378 : !t372
 rotate_left
 ·
  replace H := Gets.ct H c378
  refine sk rfl rfl <| sk rfl rfl <| pt0 rfl rfl rfl <| mv0 rfl rfl <| sk rfl rfl <| sk rfl rfl <| pt0 rfl rfl rfl <| mv0 rfl rfl <| sk rfl rfl <| sk rfl rfl <| sk rfl rfl <| sk rfl rfl <| pt0 rfl rfl rfl <| mv0 rfl rfl <| sk rfl rfl <| sk rfl rfl <| sk rfl rfl <| pt0 rfl rfl rfl <| mv0 rfl rfl <| sk rfl rfl <| sk rfl rfl <| sk rfl rfl <| pt0 rfl rfl rfl <| .fin <| WP.cond rfl (fun _ => ?_) nofun
  refine WP.seq <| rg 1 0 <| as0 rfl rfl <| .fin ?_
  obtain rfl := Gets.out H
  exact rt i2 rfl () 1 [0] 1 (.cons (res_tmp rfl) .nil)
 replace H := Gets.cf H c378
 refine mvg rfl rfl rfl <| ung rfl rfl rfl (run_not _) <| pf0 rfl rfl rfl <| mv0 rfl rfl ?_
 cases c380 : !t374
 rotate_left
 ·
  replace H := Gets.ct H c380
  refine sk rfl rfl <| sk rfl rfl <| pt0 rfl rfl rfl <| mv0 rfl rfl <| sk rfl rfl <| sk rfl rfl <| sk rfl rfl <| sk rfl rfl <| pt0 rfl rfl rfl <| mv0 rfl rfl <| sk rfl rfl <| sk rfl rfl <| sk rfl rfl <| pt0 rfl rfl rfl <| mv0 rfl rfl <| sk rfl rfl <| sk rfl rfl <| sk rfl rfl <| pt0 rfl rfl rfl <| .fin <| WP.cond rfl (fun _ => ?_) nofun
  refine WP.seq <| rg 1 0 <| as0 rfl rfl <| .fin ?_
  obtain rfl := Gets.out H
  exact rt i2 rfl () 1 [0] 1 (.cons (res_tmp rfl) .nil)
 replace H := Gets.cf H c380
 refine mvg rfl rfl rfl <| ung rfl rfl rfl (run_not _) <| pf0 rfl rfl rfl <| mv0 rfl rfl ?_
 cases c382 : !t376
 rotate_left
 ·
  replace H := Gets.ct H c382
  refine sk rfl rfl <| sk rfl rfl <| sk rfl rfl <| sk rfl rfl <| pt0 rfl rfl rfl <| mv0 rfl rfl <| sk rfl rfl <| sk rfl rfl <| sk rfl rfl <| pt0 rfl rfl rfl <| mv0 rfl rfl <| sk rfl rfl <| sk rfl rfl <| sk rfl rfl <| pt0 rfl rfl rfl <| .fin <| WP.cond rfl (fun _ => ?_) nofun
  refine WP.seq <| rg 1 0 <| as0 rfl rfl <| .fin ?_
  obtain rfl := Gets.out H
  exact rt i2 rfl () 1 [0] 1 (.cons (res_tmp rfl) .nil)
 replace H := Gets.cf H c382
 refine fb rfl (gg rfl) rfl fa33_2 <| ld 0 rfl (gg rfl) rfl sc31 rfl rfl <| Dv.lenl rfl (gg rfl) rfl Tryz.underlying31 <| bng rfl rfl rfl rfl run_gt <| pf0 rfl rfl rfl <| mv0 rfl rfl ?_
 cases c384 : decide (4 < (a0.fParents.length : Int))
 rotate_left
 ·
  replace H := Gets.ct H c384
  refine sk rfl rfl <| sk rfl rfl <| sk rfl rfl <| pt0 rfl rfl rfl <| mv0 rfl rfl <| sk rfl rfl <| sk rfl rfl <| sk rfl rfl <| pt0 rfl rfl rfl <| .fin <| WP.cond rfl (fun _ => ?_) nofun
  refine WP.seq <| rg 1 0 <| as0 rfl rfl <| .fin ?_
  obtain rfl := Gets.out H
  exact rt i2 rfl () 1 [0] 1 (.cons (res_tmp rfl) .nil)
 replace H := Gets.cf H c384
 refine fb rfl (gg rfl) rfl fa33_5 <| ld 0 rfl (gg rfl) rfl sc3 rfl rfl <| bng rfl rfl rfl rfl run_lt <| pf0 rfl rfl rfl <| mv0 rfl rfl ?_
 cases c386 : decide (a0.fDoes < 0)
 rotate_left
 ·
  replace H := Gets.ct H c386
  refine sk rfl rfl <| sk rfl rfl <| sk rfl rfl <| pt0 rfl rfl rfl <| .fin <| WP.cond rfl (fun _ => ?_) nofun
  refine WP.seq <| rg 1 0 <| as0 rfl rfl <| .fin ?_
  obtain rfl := Gets.out H
  exact rt i2 rfl () 1 [0] 1 (.cons (res_tmp rfl) .nil)
 replace H := Gets.cf H c386
 refine fb rfl (gg rfl) rfl fa33_5 <| ld 0 rfl (gg rfl) rfl sc3 rfl rfl <| bng rfl rfl rfl rfl run_gt <| pf0 rfl rfl rfl <| .fin <| cd H rfl (fun _ H => ?_) (fun _ H => ?_)
 ·
  refine WP.seq <| rg 1 0 <| as0 rfl rfl <| .fin ?_
  obtain rfl := Gets.out H
  exact rt i2 rfl () 1 [0] 1 (.cons (res_tmp rfl) .nil)
 refine WP.skip <| WP.seqr H id (fun p389 : Unit => [(0, agg (Event.enc a0)), (1, eq (.pointer (some ⟨b371, 0, none⟩))), (2, vB false), (3, vB t372), (4, vB t374), (5, vB t376), (43, vB (decide (2 < a0.fDoes))), (46, vB (!decide (a0.fThread = (⟨#[]⟩ : ByteArray))))]) (fun p389 : Unit => [blk b371 33 (Event.enc a0)] ++ F) (fun p389 H => ?_) (fun H => ?_)
 rotate_left
 ·
  refine WP.seq <| rg 3 0 <| fb rfl trivial rfl fa33_3 <| ld 0 rfl trivial rfl sc9 rfl rfl <| bn0 rfl rfl rfl run_sne <| .fin <| cd H rfl (fun _ H => ?_) (fun _ H => ?_)
  rotate_left
  ·
   refine WP.skip ?_
   replace H := Gets.out H
   exact jn () H
  refine WP.seq <| rg 4 0 <| fb rfl trivial rfl fa33_3 <| ld 0 rfl trivial rfl sc9 rfl rfl <| el H fun t408 h409 H => cl rfl cal102 rfl (concourseref01_Event.c h409) <| as0 rfl rfl <| .fin <| WP.seq <| rg 14 0 <| mv0 rfl rfl <| un0 rfl rfl (run_not _) <| mv0 rfl rfl ?_
  cases c410 : !t408
  rotate_left
  ·
   replace H := Gets.ct H c410
   refine sk rfl rfl <| sk rfl rfl <| sk rfl rfl <| sk rfl rfl <| sk rfl rfl <| pt0 rfl rfl rfl <| mv0 rfl rfl <| sk rfl rfl <| sk rfl rfl <| sk rfl rfl <| pt0 rfl rfl rfl <| .fin <| WP.cond rfl (fun _ => ?_) nofun
   refine WP.seq <| rg 1 0 <| as0 rfl rfl <| .fin ?_
   replace H := Gets.outr H
   obtain rfl := Gets.out H
   exact rt i2 rfl () 1 [0] 1 (.cons (res_tmp rfl) .nil)
  replace H := Gets.cf H c410
  refine fb rfl (gg rfl) rfl fa33_3 <| ld 0 rfl (gg rfl) rfl sc9 rfl rfl <| fb rfl (gg rfl) rfl fa33_0 <| ld 0 rfl (gg rfl) rfl sc9 rfl rfl <| bng rfl rfl rfl rfl run_seq <| pf0 rfl rfl rfl <| mv0 rfl rfl ?_
  cases c412 : decide (a0.fThread = a0.fID)
  rotate_left
  ·
   replace H := Gets.ct H c412
   refine sk rfl rfl <| sk rfl rfl <| sk rfl rfl <| pt0 rfl rfl rfl <| .fin <| WP.cond rfl (fun _ => ?_) nofun
   refine WP.seq <| rg 1 0 <| as0 rfl rfl <| .fin ?_
   replace H := Gets.outr H
   obtain rfl := Gets.out H
   exact rt i2 rfl () 1 [0] 1 (.cons (res_tmp rfl) .nil)
  replace H := Gets.cf H c412
  refine fb rfl (gg rfl) rfl fa33_5 <| ld 0 rfl (gg rfl) rfl sc3 rfl rfl <| bng rfl rfl rfl rfl run_ne <| pf0 rfl rfl rfl <| .fin <| cd H rfl (fun _ H => ?_) (fun _ H => ?_)
  rotate_left
  ·
   refine WP.skip ?_
   replace H := Gets.out H
   exact jn () H
  refine WP.seq <| rg 1 0 <| as0 rfl rfl <| .fin ?_
  replace H := Gets.outr H
  obtain rfl := Gets.out H
  exact rt i2 rfl () 1 [0] 1 (.cons (res_tmp rfl) .nil)
 refine WP.seqr H id (fun p390 : Int × Bool => [(0, agg (Event.enc a0)), (1, eq (.pointer (some ⟨b371, 0, none⟩))), (2, vB false), (3, vB t372), (4, vB t374), (5, vB t376), (7, vI p390.1), (43, vB (decide (2 < a0.fDoes))), (46, vB (!decide (a0.fThread = (⟨#[]⟩ : ByteArray)))), (68, vB p390.2)]) (fun p390 : Int × Bool => [blk b371 33 (Event.enc a0)] ++ F) (fun p390 H => ?_) (fun H => ?_)
 ·
  refine WP.seq <| rg 1 0 <| as0 rfl rfl <| .fin ?_
  obtain rfl := Gets.out H
  exact rt i2 rfl () 1 [0] 1 (.cons (res_tmp rfl) .nil)
 refine WP.seq <| rg 1 0 <| as0 rfl rfl <| .fin <| WP.block <| wg (sg 1 [0] 0) fun _ _ => ?_
 refine lp (fun j_ (p406 : Int) => concourseref07_May.l0 k a0 j_ p406) 0 H (fun p406 => [(0, agg (Event.enc a0)), (1, eq (.pointer (some ⟨b371, 0, none⟩))), (2, vB false), (3, vB t372), (4, vB t374), (5, vB t376), (7, vI p406), (43, vB (decide (2 < a0.fDoes))), (46, vB (!decide (a0.fThread = (⟨#[]⟩ : ByteArray))))]) (fun p406 => [blk b371 33 (Event.enc a0)] ++ F) ?_
 rintro j_ x391 H
 rcases j_ with _ | j405
 ·
  exact (Gets.no H).elim
 replace H : Gets (concourseref07_May.l0 k a0 (j405 + 1) x391) _ := H
 rw [concourseref07_May.l0] at H
 refine WP.seq <| WP.seq <| rg 5 0 <| mv0 rfl rfl <| fb rfl trivial rfl fa33_2 <| ld 0 rfl trivial rfl sc31 rfl rfl <| Dv.lenl rfl trivial rfl Tryz.underlying31 <| bn0 rfl rfl rfl run_lt <| .fin <| cd H rfl (fun _ H => ?_) (fun _ H => ?_)
 rotate_left
 ·
  refine WP.exit ?_
  replace H := Gets.out H
  exact jn (x391, decide (x391 < (a0.fParents.length : Int))) H
 refine WP.skip <| WP.seq <| WP.block <| WP.seq <| rg 7 0 <| fb rfl trivial rfl fa33_2 <| ld 0 rfl trivial rfl sc31 rfl rfl <| mv0 rfl rfl <| gr H fun g393 H => Dv.ixr rfl trivial rfl rfl Tryz.underlying31 Tryz.underlying9 c9 g393.1 g393.2 <| ldR rfl trivial rfl sc9 rfl <| el H fun t394 h395 H => cl rfl cal102 rfl (concourseref01_Event.c h395) <| as0 rfl rfl <| .fin <| WP.seq <| WP.seq <| dg Tryz.checked.mixed 12 0 <| mv0 rfl rfl <| un0 rfl rfl (run_not _) <| mv0 rfl rfl ?_
 cases c396 : !t394
 rotate_left
 ·
  replace H := Gets.ct H c396
  refine sk rfl rfl <| sk rfl rfl <| sk rfl rfl <| sk rfl rfl <| sk rfl rfl <| sk rfl rfl <| sk rfl rfl <| sk rfl rfl <| pt0 rfl rfl rfl <| .fin <| WP.cond rfl (fun _ => ?_) nofun
  refine WP.seq <| rg 1 0 <| as0 rfl rfl <| .fin ?_
  replace H := Gets.outr H
  obtain rfl := Gets.out H
  exact rt i2 rfl () 1 [0] 1 (.cons (res_tmp rfl) .nil)
 replace H := Gets.cf H c396
 refine fb rfl (gg rfl) rfl fa33_2 <| ld 0 rfl (gg rfl) rfl sc31 rfl rfl <| mvg rfl rfl rfl <| gr H fun g398 H => Dv.ixr rfl (gg rfl) rfl rfl Tryz.underlying31 Tryz.underlying9 c9 g398.1 g398.2 <| ldR rfl (gg rfl) rfl sc9 rfl <| fb rfl (gg rfl) rfl fa33_0 <| ld 0 rfl (gg rfl) rfl sc9 rfl rfl <| bng rfl rfl rfl rfl run_seq <| pf0 rfl rfl rfl <| .fin <| cd H rfl (fun _ H => ?_) (fun _ H => ?_)
 ·
  refine WP.seq <| rg 1 0 <| as0 rfl rfl <| .fin ?_
  replace H := Gets.outr H
  obtain rfl := Gets.out H
  exact rt i2 rfl () 1 [0] 1 (.cons (res_tmp rfl) .nil)
 refine WP.skip <| WP.seq <| dg Tryz.checked.mixed 17 0 <| mv0 rfl rfl <| bn0 rfl rfl rfl run_gt <| mv0 rfl rfl ?_
 cases c400 : decide (0 < x391)
 ·
  replace H := Gets.cf H c400
  refine sk rfl rfl <| sk rfl rfl <| sk rfl rfl <| sk rfl rfl <| sk rfl rfl <| sk rfl rfl <| sk rfl rfl <| sk rfl rfl <| sk rfl rfl <| sk rfl rfl <| sk rfl rfl <| sk rfl rfl <| sk rfl rfl <| pf0 rfl rfl rfl <| .fin <| WP.cond rfl nofun (fun _ => ?_)
  exact WP.skip <| rg 3 0 <| mv0 rfl rfl <| bn0 rfl rfl rfl run_add <| as0 rfl rfl <| .fin <| bk j405 (w64 (x391 + 1)) H
 replace H := Gets.ct H c400
 refine fb rfl (gg rfl) rfl fa33_2 <| ld 0 rfl (gg rfl) rfl sc31 rfl rfl <| mvg rfl rfl rfl <| bng rfl rfl rfl rfl run_sub <| Dv.maxi rfl (gg rfl) rfl rfl <| gr H fun g401 H => Dv.ixr rfl (gg rfl) rfl rfl Tryz.underlying31 Tryz.underlying9 c9 g401.1 g401.2 <| ldR rfl (gg rfl) rfl sc9 rfl <| fb rfl (gg rfl) rfl fa33_2 <| ld 0 rfl (gg rfl) rfl sc31 rfl rfl <| mvg rfl rfl rfl <| gr H fun g402 H => Dv.ixr rfl (gg rfl) rfl rfl Tryz.underlying31 Tryz.underlying9 c9 g402.1 g402.2 <| ldR rfl (gg rfl) rfl sc9 rfl <| bng rfl rfl rfl rfl run_sge <| pt0 rfl rfl rfl <| .fin <| cd H rfl (fun _ H => ?_) (fun _ H => ?_)
 rotate_left
 ·
  exact WP.skip <| rg 3 0 <| mv0 rfl rfl <| bn0 rfl rfl rfl run_add <| as0 rfl rfl <| .fin <| bk j405 (w64 (x391 + 1)) H
 refine WP.seq <| rg 1 0 <| as0 rfl rfl <| .fin ?_
 replace H := Gets.outr H
 obtain rfl := Gets.out H
 exact rt i2 rfl () 1 [0] 1 (.cons (res_tmp rfl) .nil)
theorem concourseref07_Add.c {k : Nat} {a0 : RDag} {a1 : Event} {r : RDag × Int} (h : concourseref07_Add.f k a0 a1 = some r) : Pt Tryz.prog 51 [agg (RDag.enc a0), agg (Event.enc a1)] (tup [agg (RDag.enc r.1), vI r.2]) := by
 unfold concourseref07_Add.f at h
 refine (Tr.body Tryz.func51 (c := _) rfl Tryz.ntmps51 (Nat.le_of_ble_eq_true rfl) fun R0 F => ?_).pt
 replace h := Gets.of h
 have H := h
 clear h
 refine WP.seq <| rg 4 7 <| Dv.box rfl trivial rfl cA nofun fun b415 => Dv.box rfl trivial rfl cA nofun fun b416 => al rfl trivial zc36 nofun fun b417 => as0 rfl rfl <| .fin <| WP.seq <| rg 3 0 <| lds 1 rfl trivial rfl sg33 rfl rfl <| el H fun t418 h419 H => cl rfl cal83 rfl (concourseref07_May.c h419) <| as0 rfl rfl <| .fin <| WP.seq <| WP.seq <| rg 9 0 <| mv0 rfl rfl <| un0 rfl rfl (run_not _) <| mv0 rfl rfl ?_
 cases c420 : !t418
 rotate_left
 ·
  replace H := Gets.ct H c420
  refine sk rfl rfl <| sk rfl rfl <| sk rfl rfl <| sk rfl rfl <| sk rfl rfl <| pt0 rfl rfl rfl <| .fin <| WP.cond rfl (fun _ => ?_) nofun
  refine WP.seq <| rg 3 2 <| lds 2 rfl trivial rfl sg36 rfl rfl <| sx 0 rfl trivial rfl rfl cA sz36 rfl rfl rfl nofun ?_
  refine as0 rfl rfl <| .fin ?_
  obtain rfl := Gets.out H
  exact rt i2 rfl () 3 [0,1,2] 3 (.cons (res_cells rfl Tryz.underlying36 rfl c36 (mem_at 0 rfl) rfl) (.cons (res_tmp rfl) .nil))
 replace H := Gets.cf H c420
 refine fb rfl (gg rfl) rfl fa33_1 <| ld 1 rfl (gg rfl) rfl sc9 rfl rfl <| fb rfl (gg rfl) rfl fa36_0 <| ld 2 rfl (gg rfl) rfl sc9 rfl rfl <| bng rfl rfl rfl rfl run_sne <| pf0 rfl rfl rfl <| .fin <| cd H rfl (fun _ H => ?_) (fun _ H => ?_)
 ·
  refine WP.seq <| rg 3 2 <| lds 2 rfl trivial rfl sg36 rfl rfl <| sx 0 rfl trivial rfl rfl cA sz36 rfl rfl rfl nofun ?_
  refine as0 rfl rfl <| .fin ?_
  obtain rfl := Gets.out H
  exact rt i2 rfl () 3 [0,1,2] 3 (.cons (res_cells rfl Tryz.underlying36 rfl c36 (mem_at 0 rfl) rfl) (.cons (res_tmp rfl) .nil))
 refine WP.skip <| WP.seq <| WP.seq <| rg 5 0 <| lds 2 rfl trivial rfl sg36 rfl rfl <| fb rfl trivial rfl fa33_0 <| ld 1 rfl trivial rfl sc9 rfl rfl <| el H fun t423 h424 H => cl rfl cal69 rfl (concourseref07_At.c h424) <| bn0 rfl rfl rfl run_ge <| .fin <| cd H rfl (fun _ H => ?_) (fun _ H => ?_)
 ·
  refine WP.seq <| rg 3 2 <| lds 2 rfl trivial rfl sg36 rfl rfl <| sx 0 rfl trivial rfl rfl cA sz36 rfl rfl rfl nofun ?_
  refine as0 rfl rfl <| .fin ?_
  obtain rfl := Gets.out H
  exact rt i2 rfl () 3 [0,1,2] 3 (.cons (res_cells rfl Tryz.underlying36 rfl c36 (mem_at 0 rfl) rfl) (.cons (res_tmp rfl) .nil))
 refine WP.skip <| WP.seqr H id (fun p426 : Int × Bool => [(0, agg (RDag.enc a0)), (1, agg (Event.enc a1)), (2, eq (.pointer (some ⟨b415, 0, none⟩))), (3, eq (.pointer (some ⟨b416, 0, none⟩))), (4, eq (.pointer (some ⟨b417, 0, none⟩))), (5, vI 0), (6, vB t418), (7, vI p426.1), (20, vB (!decide (a1.fRoom = a0.fRoom))), (26, vB (decide (0 ≤ t423))), (32, vB p426.2)]) (fun p426 : Int × Bool => [blk b417 36 [vS (⟨#[]⟩ : ByteArray), eq (.slice none 0 0)], blk b416 33 (Event.enc a1), blk b415 36 (RDag.enc a0)] ++ F) (fun p426 H => ?_) (fun H => ?_)
 rotate_left
 ·
  refine WP.seq <| rg 1 0 <| as0 rfl rfl <| .fin <| WP.block <| wg (sg 3 [0,1,2] 0) fun _ _ => ?_
  refine lp (fun j_ (p448 : Int) => concourseref07_Add.l0 k a0 a1 j_ p448) 0 H (fun p448 => [(0, agg (RDag.enc a0)), (1, agg (Event.enc a1)), (2, eq (.pointer (some ⟨b415, 0, none⟩))), (3, eq (.pointer (some ⟨b416, 0, none⟩))), (4, eq (.pointer (some ⟨b417, 0, none⟩))), (5, vI 0), (6, vB t418), (7, vI p448), (20, vB (!decide (a1.fRoom = a0.fRoom))), (26, vB (decide (0 ≤ t423)))]) (fun p448 => [blk b417 36 [vS (⟨#[]⟩ : ByteArray), eq (.slice none 0 0)], blk b416 33 (Event.enc a1), blk b415 36 (RDag.enc a0)] ++ F) ?_
  rintro j_ x441 H
  rcases j_ with _ | j447
  ·
   exact (Gets.no H).elim
  replace H : Gets (concourseref07_Add.l0 k a0 a1 (j447 + 1) x441) _ := H
  rw [concourseref07_Add.l0] at H
  refine WP.seq <| WP.seq <| rg 5 0 <| mv0 rfl rfl <| fb rfl trivial rfl fa33_2 <| ld 1 rfl trivial rfl sc31 rfl rfl <| Dv.lenl rfl trivial rfl Tryz.underlying31 <| bn0 rfl rfl rfl run_lt <| .fin <| cd H rfl (fun _ H => ?_) (fun _ H => ?_)
  rotate_left
  ·
   refine WP.exit ?_
   replace H := Gets.out H
   exact jn (x441, decide (x441 < (a1.fParents.length : Int))) H
  refine WP.skip <| WP.seq <| WP.block <| WP.seq <| dg Tryz.checked.mixed 8 0 <| lds 2 rfl trivial rfl sg36 rfl rfl <| fb rfl trivial rfl fa33_2 <| ld 1 rfl trivial rfl sc31 rfl rfl <| mv0 rfl rfl <| gr H fun g443 H => Dv.ixr rfl trivial rfl rfl Tryz.underlying31 Tryz.underlying9 c9 g443.1 g443.2 <| ldR rfl trivial rfl sc9 rfl <| el H fun t444 h445 H => cl rfl cal69 rfl (concourseref07_At.c h445) <| bn0 rfl rfl rfl run_lt <| .fin <| cd H rfl (fun _ H => ?_) (fun _ H => ?_)
  rotate_left
  ·
   exact WP.skip <| rg 3 0 <| mv0 rfl rfl <| bn0 rfl rfl rfl run_add <| as0 rfl rfl <| .fin <| bk j447 (w64 (x441 + 1)) H
  refine WP.seq <| rg 3 2 <| lds 2 rfl trivial rfl sg36 rfl rfl <| sx 0 rfl trivial rfl rfl cA sz36 rfl rfl rfl nofun ?_
  refine as0 rfl rfl <| .fin ?_
  replace H := Gets.outr H
  obtain rfl := Gets.out H
  exact rt i2 rfl () 3 [0,1,2] 3 (.cons (res_cells rfl Tryz.underlying36 rfl c36 (mem_at 0 rfl) rfl) (.cons (res_tmp rfl) .nil))
 refine WP.seqr H id (fun p427 : Unit => [(0, agg (RDag.enc a0)), (1, agg (Event.enc a1)), (2, eq (.pointer (some ⟨b415, 0, none⟩))), (3, eq (.pointer (some ⟨b416, 0, none⟩))), (4, eq (.pointer (some ⟨b417, 0, none⟩))), (5, vI 0), (6, vB t418), (7, vI p426.1), (20, vB (!decide (a1.fRoom = a0.fRoom))), (26, vB (decide (0 ≤ t423))), (32, vB p426.2), (46, vB (!decide (a1.fThread = (⟨#[]⟩ : ByteArray))))]) (fun p427 : Unit => [blk b417 36 [vS (⟨#[]⟩ : ByteArray), eq (.slice none 0 0)], blk b416 33 (Event.enc a1), blk b415 36 (RDag.enc a0)] ++ F) (fun p427 H => ?_) (fun H => ?_)
 ·
  refine WP.seq <| rg 1 0 <| as0 rfl rfl <| .fin <| WP.seq <| rg 5 8 <| mv0 rfl rfl <| fb rfl trivial rfl fa36_1 <| ld 2 rfl trivial rfl sc23 rfl rfl <| vg (st_nil Event.K none) fun _ _ => ?_
  refine gr H fun g428 H => ap Event.K 0 a0.fL src_sl Tryz.underlying23 (.inr ⟨_, Tryz.underlying23⟩) inf33 g428 nofun fun v429 => ?_
  refine as0 rfl rfl <| .fin <| WP.seq <| dg Tryz.checked.mixed 9 160 <| fb rfl trivial rfl fa36_0 <| ld 3 rfl trivial rfl sc9 rfl rfl <| mv0 rfl rfl <| lds 2 rfl trivial rfl sg33 rfl rfl <| Dv.lit Event.K ([a1] : List Event) (css := [Event.enc a1]) rfl trivial Tryz.underlying23 Tryz.underlying33 c33 z33 rfl (by decide) (by decide) rfl ⟨(cells_agg (Event.K.one _)), trivial⟩ rfl rfl rfl <| gr H fun g430 H => Dv.appx (Kd := Event.K) (jj := 0) (ys := ([a1] : List Event)) (fun v431 : OV => [own Event.K v431.1 ((([] : List Event) ++ a0.fL) ++ ([a1] : List Event)), blk b417 36 [vS (⟨#[]⟩ : ByteArray), eq (.slice none 0 0)], blk b416 33 (Event.enc a1), blk b415 36 (RDag.enc a0)] ++ F) rfl trivial rfl rfl rfl src_sl Tryz.underlying23 (.inr ⟨_, Tryz.underlying23⟩) inf33 rfl (by decide) g430 rfl (fun _ => (pend_by (by kernel_rfl) (pend_by (by kernel_rfl) (pend_by (by kernel_rfl) (pend_in (fun _ => (mem_at 3 rfl)) (pend_in (fun _ => trivial) pend_nil)))))) (fun v431 => ?_)
  refine Dv.bld (css := [[vS a0.fRoom], [eq v431.1]]) rfl trivial Tryz.underlying36 pl36 z36 rfl ⟨(cells_one (one_eq rfl)), ⟨(cells_one one_ov), trivial⟩⟩ rfl rfl <| sx 1 rfl trivial rfl rfl cA sz36 rfl rfl rfl pB ?_
  refine as0 rfl rfl <| .fin <| WP.gh (gh_frz (E' := [(4, eq (.pointer (some ⟨b417, 0, none⟩))), (5, vI 0)]) (l' := [blk b417 36 [vS a0.fRoom, sl Event.K ((([] : List Event) ++ a0.fL) ++ ([a1] : List Event))], blk b416 33 (Event.enc a1), blk b415 36 (RDag.enc a0)] ++ F) 0 rfl (cve_cons rfl cv_id (cve_cons rfl cv_id cve_nil)) (all2_app (.cons (cva_blk (.cons cv_id (.cons cv_eq .nil))) (.cons cva_id (.cons cva_id .nil))) fun _ => cva_id)) (fun _ _ => ?_)
  obtain rfl := Gets.out H
  exact rt i2 rfl () 3 [0,1,2] 3 (.cons (res_cells rfl Tryz.underlying36 rfl c36 (mem_at 0 rfl) rfl) (.cons (res_tmp rfl) .nil))
 refine WP.seq <| rg 3 0 <| fb rfl trivial rfl fa33_3 <| ld 1 rfl trivial rfl sc9 rfl rfl <| bn0 rfl rfl rfl run_sne <| .fin <| cd H rfl (fun _ H => ?_) (fun _ H => ?_)
 rotate_left
 ·
  refine WP.skip ?_
  replace H := Gets.out H
  exact jn () H
 refine WP.seq <| rg 5 0 <| lds 2 rfl trivial rfl sg36 rfl rfl <| fb rfl trivial rfl fa33_3 <| ld 1 rfl trivial rfl sc9 rfl rfl <| el H fun t433 h434 H => cl rfl cal69 rfl (concourseref07_At.c h434) <| as0 rfl rfl <| .fin <| WP.seq <| WP.seq <| rg 2 0 <| mv0 rfl rfl <| bn0 rfl rfl rfl run_lt <| .fin <| cd H rfl (fun _ H => ?_) (fun _ H => ?_)
 ·
  refine WP.seq <| rg 3 2 <| lds 2 rfl trivial rfl sg36 rfl rfl <| sx 0 rfl trivial rfl rfl cA sz36 rfl rfl rfl nofun ?_
  refine as0 rfl rfl <| .fin ?_
  replace H := Gets.outr H
  obtain rfl := Gets.out H
  exact rt i2 rfl () 3 [0,1,2] 3 (.cons (res_cells rfl Tryz.underlying36 rfl c36 (mem_at 0 rfl) rfl) (.cons (res_tmp rfl) .nil))
 refine WP.skip <| WP.seq <| rg 16 0 <| fb rfl trivial rfl fa36_1 <| ld 2 rfl trivial rfl sc23 rfl rfl <| mv0 rfl rfl <| gr H fun g436 H => Dv.ixr rfl trivial rfl rfl Tryz.underlying23 Tryz.underlying33 c33 g436.1 g436.2 <| fr rfl trivial rfl fa33_3 rfl <| ldR rfl trivial rfl sc9 rfl <| bn0 rfl rfl rfl run_sne <| mv0 rfl rfl ?_
 cases c437 : !decide (((Event.K.at a0.fL t433).fThread) = (⟨#[]⟩ : ByteArray))
 rotate_left
 ·
  replace H := Gets.ct H c437
  refine sk rfl rfl <| sk rfl rfl <| sk rfl rfl <| sk rfl rfl <| sk rfl rfl <| sk rfl rfl <| sk rfl rfl <| pt0 rfl rfl rfl <| .fin <| WP.cond rfl (fun _ => ?_) nofun
  refine WP.seq <| rg 3 2 <| lds 2 rfl trivial rfl sg36 rfl rfl <| sx 0 rfl trivial rfl rfl cA sz36 rfl rfl rfl nofun ?_
  refine as0 rfl rfl <| .fin ?_
  replace H := Gets.outr H
  obtain rfl := Gets.out H
  exact rt i2 rfl () 3 [0,1,2] 3 (.cons (res_cells rfl Tryz.underlying36 rfl c36 (mem_at 0 rfl) rfl) (.cons (res_tmp rfl) .nil))
 replace H := Gets.cf H c437
 refine fb rfl (gg rfl) rfl fa36_1 <| ld 2 rfl (gg rfl) rfl sc23 rfl rfl <| mvg rfl rfl rfl <| gr H fun g439 H => Dv.ixr rfl (gg rfl) rfl rfl Tryz.underlying23 Tryz.underlying33 c33 g439.1 g439.2 <| fr rfl (gg rfl) rfl fa33_5 rfl <| ldR rfl (gg rfl) rfl sc3 rfl <| bng rfl rfl rfl rfl run_ne <| pf0 rfl rfl rfl <| .fin <| cd H rfl (fun _ H => ?_) (fun _ H => ?_)
 rotate_left
 ·
  refine WP.skip ?_
  replace H := Gets.out H
  exact jn () H
 refine WP.seq <| rg 3 2 <| lds 2 rfl trivial rfl sg36 rfl rfl <| sx 0 rfl trivial rfl rfl cA sz36 rfl rfl rfl nofun ?_
 refine as0 rfl rfl <| .fin ?_
 replace H := Gets.outr H
 obtain rfl := Gets.out H
 exact rt i2 rfl () 3 [0,1,2] 3 (.cons (res_cells rfl Tryz.underlying36 rfl c36 (mem_at 0 rfl) rfl) (.cons (res_tmp rfl) .nil))
theorem concourseref07_Made.c {k : Nat} {a0 : ByteArray} {a1 : List GMade} {r : RDag} (h : concourseref07_Made.f k a0 a1 = some r) : Pt Tryz.prog 66 [vS a0, sl GMade.K a1] (agg (RDag.enc r)) := by
 unfold concourseref07_Made.f at h
 refine (Tr.body Tryz.func66 (c := _) rfl Tryz.ntmps66 (Nat.le_of_ble_eq_true rfl) fun R0 F => ?_).pt
 replace h := Gets.of h
 have H := h
 clear h
 refine WP.seq <| rg 1 1 <| al rfl trivial zc36 nofun fun b449 => .fin <| WP.seq <| rg 4 12 <| mv0 rfl rfl <| Dv.bld (css := [[vS a0]]) rfl trivial Tryz.underlying36 pl36 z36 rfl ⟨(cells_one (one_eq rfl)), trivial⟩ rfl rfl <| al rfl trivial zc36 nofun fun b450 => sx 0 rfl trivial rfl rfl cA sz36 rfl rfl rfl nofun ?_
 refine .fin <| WP.seqn H id (fun p451 : Int × Bool × ByteArray × (List Event) => [(0, vS a0), (1, sl GMade.K a1), (4, eq (.pointer (some ⟨b449, 0, none⟩))), (5, eq (.pointer (some ⟨b450, 0, none⟩))), (6, vI p451.1), (23, vB p451.2.1)]) (fun p451 : Int × Bool × ByteArray × (List Event) => [blk b450 36 [vS p451.2.2.1, sl Event.K p451.2.2.2], blk b449 36 [vS (⟨#[]⟩ : ByteArray), eq (.slice none 0 0)]] ++ F) (fun p451 H => ?_) (fun H => ?_)
 ·
  refine WP.seq <| rg 2 2 <| lds 0 rfl trivial rfl sg36 rfl rfl <| sx 1 rfl trivial rfl rfl cA sz36 rfl rfl rfl nofun ?_
  refine .fin ?_
  obtain rfl := Gets.out H
  exact rt i2 rfl () 2 [0,1] 2 (.cons (res_cells rfl Tryz.underlying36 rfl c36 (mem_at 1 rfl) rfl) .nil)
 refine WP.seq <| rg 1 0 <| as0 rfl rfl <| .fin <| WP.block <| WP.gh (gh_wk (E' := [(0, vS a0), (1, sl GMade.K a1), (4, eq (.pointer (some ⟨b449, 0, none⟩))), (5, eq (.pointer (some ⟨b450, 0, none⟩))), (6, vI 0)]) (l' := [blk b450 36 [vS a0, sl Event.K ([] : List Event)], blk b449 36 [vS (⟨#[]⟩ : ByteArray), eq (.slice none 0 0)]] ++ F) (wke_cons rfl wk_id (wke_cons rfl wk_id (wke_cons rfl wk_id (wke_cons rfl wk_id (wke_cons rfl wk_id wke_nil))))) (all2_app (.cons (wka_blk (.cons wk_id (.cons wk_nil .nil))) (.cons wka_id .nil)) fun _ => wka_id)) (fun _ _ => ?_)
 refine wg (sg 2 [0,1] 0) fun _ _ => ?_
 refine lp (fun j_ (p540 : Int × ByteArray × (List Event)) => concourseref07_Made.l0 k a0 a1 j_ p540.1 p540.2.1 p540.2.2) (0, a0, ([] : List Event)) H (fun p540 => [(0, vS a0), (1, sl GMade.K a1), (4, eq (.pointer (some ⟨b449, 0, none⟩))), (5, eq (.pointer (some ⟨b450, 0, none⟩))), (6, vI p540.1)]) (fun p540 => [blk b450 36 [vS p540.2.1, sl Event.K p540.2.2], blk b449 36 [vS (⟨#[]⟩ : ByteArray), eq (.slice none 0 0)]] ++ F) ?_
 rintro j_ ⟨x452, x453, x454⟩ H
 rcases j_ with _ | j539
 ·
  exact (Gets.no H).elim
 replace H : Gets (concourseref07_Made.l0 k a0 a1 (j539 + 1) x452 x453 x454) _ := H
 rw [concourseref07_Made.l0] at H
 refine WP.seq <| WP.seq <| rg 8 0 <| mv0 rfl rfl <| mv0 rfl rfl <| Dv.lenl rfl trivial rfl Tryz.underlying22 <| bn0 rfl rfl rfl run_lt <| mv0 rfl rfl ?_
 cases c455 : decide (x452 < (a1.length : Int))
 ·
  replace H := Gets.cf H c455
  refine sk rfl rfl <| sk rfl rfl <| pf0 rfl rfl rfl <| .fin <| WP.cond rfl nofun (fun _ => ?_)
  refine WP.exit ?_
  replace H := Gets.out H
  exact jn (x452, false, x453, x454) H
 replace H := Gets.ct H c455
 refine mvg rfl rfl rfl <| bng rfl rfl rfl rfl run_lt <| pt0 rfl rfl rfl <| .fin <| cd H rfl (fun _ H => ?_) (fun _ H => ?_)
 rotate_left
 ·
  refine WP.exit ?_
  replace H := Gets.out H
  exact jn (x452, decide (x452 < 9), x453, x454) H
 refine WP.skip <| WP.seqn H (fun q537 : (Int × Int × Bool × Bool × Bool × ByteArray × (List Event) × (List Bool)) × OV => q537.1) (fun q537 : (Int × Int × Bool × Bool × Bool × ByteArray × (List Event) × (List Bool)) × OV => [(0, vS a0), (1, sl GMade.K a1), (4, eq (.pointer (some ⟨b449, 0, none⟩))), (5, eq (.pointer (some ⟨b450, 0, none⟩))), (6, vI x452), (8, eq q537.2.1), (9, vI q537.1.1), (10, vI q537.1.2.1), (23, vB (decide (x452 < 9))), (58, vB q537.1.2.2.1), (75, vB q537.1.2.2.2.1), (95, vB q537.1.2.2.2.2.1)]) (fun q537 : (Int × Int × Bool × Bool × Bool × ByteArray × (List Event) × (List Bool)) × OV => [blk b450 36 [vS q537.1.2.2.2.2.2.1, sl Event.K q537.1.2.2.2.2.2.2.1], blk b449 36 [vS (⟨#[]⟩ : ByteArray), eq (.slice none 0 0)], own boolK q537.2.1 q537.1.2.2.2.2.2.2.2] ++ F) (fun q537 H => ?_) (fun H => ?_)
 ·
  obtain ⟨p457, v458⟩ := q537
  refine rg 3 0 <| mv0 rfl rfl <| bn0 rfl rfl rfl run_add <| as0 rfl rfl <| .fin <| ng (sg 3 [2,0,1] 1) fun _ _ => ?_
  exact bk j539 (w64 (x452 + 1), p457.2.2.2.2.2.1, p457.2.2.2.2.2.2.1) H
 refine WP.block <| WP.seq <| dg Tryz.checked.mixed 18 196608 <| mv0 rfl rfl <| el H fun t459 h460 H => cl rfl cal29 rfl (concourseref01_EventOf.c h460) <| mv0 rfl rfl <| mv0 rfl rfl <| mv0 rfl rfl <| gr H fun g461 H => Dv.ixr rfl trivial rfl rfl Tryz.underlying22 Tryz.underlying115 c115 g461.1 g461.2 <| fr rfl trivial rfl fa115_0 rfl <| ldR rfl trivial rfl sc3 rfl <| el H fun t462 h463 H => cl rfl cal36 rfl (concourseref01_UserOf.c h463) <| mv0 rfl rfl <| mv0 rfl rfl <| gr H fun g464 H => Dv.ixr rfl trivial rfl rfl Tryz.underlying22 Tryz.underlying115 c115 g464.1 g464.2 <| fr rfl trivial rfl fa115_1 rfl <| ldR rfl trivial rfl sc3 rfl <| el H fun t465 h466 H => cl rfl cal49 rfl (concourseref01_Around.c h466) <| Dv.bld (css := [[vS t459], [vS a0], [vS t462], [vI t465]]) rfl trivial Tryz.underlying33 pl33 z33 rfl ⟨(cells_one (one_eq rfl)), ⟨(cells_one (one_eq rfl)), ⟨(cells_one (one_eq rfl)), ⟨(cells_one (one_eq rfl)), trivial⟩⟩⟩⟩ rfl rfl <| al rfl trivial zc33 (fun _ => (pend_in (fun _ => trivial) (pend_in (fun _ => trivial) (pend_in (fun _ => trivial) (pend_in (fun _ => trivial) (pend_in (fun _ => trivial) (pend_in (fun _ => trivial) (pend_in (fun _ => trivial) (pend_in (fun _ => trivial) (pend_in (fun _ => trivial) (pend_in (fun _ => trivial) (pend_in (fun _ => trivial) (pend_in (fun _ => trivial) (pend_in (fun _ => trivial) (pend_in (fun _ => trivial) (pend_in (fun _ => trivial) (pend_in (fun _ => trivial) pend_nil))))))))))))))))) fun b467 => sx 0 rfl trivial rfl rfl cA sz33 rfl rfl rfl pB ?_
 refine .fin <| WP.seq <| rg 2 1 <| gr H fun g468 H => ?_
 obtain ⟨ti469, ti469a, ti469b, ti469c, ti469d⟩ := inf4
 refine Dv.mks (Kd := boolK) (false : Bool) rfl trivial rfl rfl Tryz.underlying116 ti469a ti469b ti469c ti469d rfl (by decide) rfl g468 nofun (fun v470 => ?_)
 refine as0 rfl rfl <| .fin <| WP.seqn H id (fun p471 : Int × Bool × (List Bool) => [(0, vS a0), (1, sl GMade.K a1), (4, eq (.pointer (some ⟨b449, 0, none⟩))), (5, eq (.pointer (some ⟨b450, 0, none⟩))), (6, vI x452), (7, eq (.pointer (some ⟨b467, 0, none⟩))), (8, eq v470.1), (9, vI p471.1), (23, vB (decide (x452 < 9))), (58, vB p471.2.1)]) (fun p471 : Int × Bool × (List Bool) => [blk b467 33 [vS t459, vS a0, eq (.slice none 0 0), vS (⟨#[]⟩ : ByteArray), vS t462, vI t465], blk b450 36 [vS x453, sl Event.K x454], blk b449 36 [vS (⟨#[]⟩ : ByteArray), eq (.slice none 0 0)], own boolK v470.1 p471.2.2] ++ F) (fun p471 H => ?_) (fun H => ?_)
 rotate_left
 ·
  refine WP.seq <| rg 1 0 <| as0 rfl rfl <| .fin <| WP.block <| wg (sg 4 [1,2,3,0] 0) fun _ _ => ?_
  refine lp (fun j_ (p536 : Int × (List Bool)) => concourseref07_Made.l2 k a1 x452 j_ p536.1 p536.2) (0, List.replicate (9 : Int).toNat (false : Bool)) H (fun p536 => [(0, vS a0), (1, sl GMade.K a1), (4, eq (.pointer (some ⟨b449, 0, none⟩))), (5, eq (.pointer (some ⟨b450, 0, none⟩))), (6, vI x452), (7, eq (.pointer (some ⟨b467, 0, none⟩))), (8, eq v470.1), (9, vI p536.1), (23, vB (decide (x452 < 9)))]) (fun p536 => [blk b467 33 [vS t459, vS a0, eq (.slice none 0 0), vS (⟨#[]⟩ : ByteArray), vS t462, vI t465], blk b450 36 [vS x453, sl Event.K x454], blk b449 36 [vS (⟨#[]⟩ : ByteArray), eq (.slice none 0 0)], own boolK v470.1 p536.2] ++ F) ?_
  rintro j_ ⟨x521, x522⟩ H
  rcases j_ with _ | j535
  ·
   exact (Gets.no H).elim
  replace H : Gets (concourseref07_Made.l2 k a1 x452 (j535 + 1) x521 x522) _ := H
  rw [concourseref07_Made.l2] at H
  refine WP.seq <| WP.seq <| rg 16 0 <| mv0 rfl rfl <| mv0 rfl rfl <| mv0 rfl rfl <| gr H fun g523 H => Dv.ixr rfl trivial rfl rfl Tryz.underlying22 Tryz.underlying115 c115 g523.1 g523.2 <| fr rfl trivial rfl fa115_2 rfl <| ldR rfl trivial rfl sc24 rfl <| Dv.lenl rfl trivial rfl Tryz.underlying24 <| bn0 rfl rfl rfl run_lt <| mv0 rfl rfl ?_
  cases c524 : decide (x521 < (((GMade.K.at a1 x452).fParents).length : Int))
  ·
   replace H := Gets.cf H c524
   refine sk rfl rfl <| sk rfl rfl <| pf0 rfl rfl rfl <| mv0 rfl rfl <| sk rfl rfl <| sk rfl rfl <| pf0 rfl rfl rfl <| .fin <| WP.cond rfl nofun (fun _ => ?_)
   refine WP.exit ?_
   replace H := Gets.out H
   exact jn (x521, false, x522) H
  replace H := Gets.ct H c524
  refine mvg rfl rfl rfl <| bng rfl rfl rfl rfl run_lt <| pt0 rfl rfl rfl <| mv0 rfl rfl ?_
  cases c525 : decide (x521 < 3)
  ·
   replace H := Gets.cf H c525
   refine sk rfl rfl <| sk rfl rfl <| pf0 rfl rfl rfl <| .fin <| WP.cond rfl nofun (fun _ => ?_)
   refine WP.exit ?_
   replace H := Gets.out H
   exact jn (x521, false, x522) H
  replace H := Gets.ct H c525
  refine mvg rfl rfl rfl <| bng rfl rfl rfl rfl run_gt <| pt0 rfl rfl rfl <| .fin <| cd H rfl (fun _ H => ?_) (fun _ H => ?_)
  rotate_left
  ·
   refine WP.exit ?_
   replace H := Gets.out H
   exact jn (x521, decide (0 < x452), x522) H
  refine WP.skip <| WP.seq <| WP.block <| rg 13 4096 <| mv0 rfl rfl <| mv0 rfl rfl <| mv0 rfl rfl <| gr H fun g527 H => Dv.ixr rfl trivial rfl rfl Tryz.underlying22 Tryz.underlying115 c115 g527.1 g527.2 <| fr rfl trivial rfl fa115_2 rfl <| ldR rfl trivial rfl sc24 rfl <| mv0 rfl rfl <| gr H fun g528 H => Dv.ixr rfl trivial rfl rfl Tryz.underlying24 Tryz.underlying3 c3 g528.1 g528.2 <| ldR rfl trivial rfl sc3 rfl <| mv0 rfl rfl <| el H fun t529 h530 H => cl rfl cal49 rfl (concourseref01_Around.c h530) <| gr H fun g531 H => ?_
  have h532 : t529.toNat < x522.length := idx_lt g531
  exact Dv.ixw rfl trivial rfl (mem_at 3 rfl) rfl Tryz.underlying116 Tryz.underlying4 c4 g531.1 g531.2 <| Dv.stw (j := t529.toNat) (f := 0) (jj := 3) true rfl trivial rfl rfl (cells_one (one_eq rfl)) Tryz.underlying4 c4 rfl rfl h532 (Nat.le_of_ble_eq_true rfl) rfl nofun <| .fin <| rg 3 0 <| mv0 rfl rfl <| bn0 rfl rfl rfl run_add <| as0 rfl rfl <| .fin <| bk j535 (w64 (x521 + 1), x522.set t529.toNat true) H
 refine WP.seqn H (fun q520 : (Int × Bool × (List ByteArray)) × OV => q520.1) (fun q520 : (Int × Bool × (List ByteArray)) × OV => [(0, vS a0), (1, sl GMade.K a1), (4, eq (.pointer (some ⟨b449, 0, none⟩))), (5, eq (.pointer (some ⟨b450, 0, none⟩))), (6, vI x452), (7, eq (.pointer (some ⟨b467, 0, none⟩))), (8, eq v470.1), (9, vI p471.1), (10, vI q520.1.1), (23, vB (decide (x452 < 9))), (58, vB p471.2.1), (75, vB q520.1.2.1)]) (fun q520 : (Int × Bool × (List ByteArray)) × OV => [blk b467 33 [vS t459, vS a0, eq q520.2.1, vS (⟨#[]⟩ : ByteArray), vS t462, vI t465], blk b450 36 [vS x453, sl Event.K x454], blk b449 36 [vS (⟨#[]⟩ : ByteArray), eq (.slice none 0 0)], own boolK v470.1 p471.2.2, own strK q520.2.1 q520.1.2.2] ++ F) (fun q520 H => ?_) (fun H => ?_)
 rotate_left
 ·
  refine WP.seq <| rg 1 0 <| as0 rfl rfl <| .fin <| WP.block <| wg (st_nil strK none) fun _ _ => ?_
  refine wg (sg 5 [1,2,3,4,0] 0) fun _ _ => ?_
  refine lp (fun j_ (p519 : Int × (List ByteArray) × OV) => concourseref07_Made.l1 k x452 p471 j_ p519.1 p519.2.1) (0, ([] : List ByteArray), nilV) H (fun p519 => [(0, vS a0), (1, sl GMade.K a1), (4, eq (.pointer (some ⟨b449, 0, none⟩))), (5, eq (.pointer (some ⟨b450, 0, none⟩))), (6, vI x452), (7, eq (.pointer (some ⟨b467, 0, none⟩))), (8, eq v470.1), (9, vI p471.1), (10, vI p519.1), (23, vB (decide (x452 < 9))), (58, vB p471.2.1)]) (fun p519 => [blk b467 33 [vS t459, vS a0, eq p519.2.2.1, vS (⟨#[]⟩ : ByteArray), vS t462, vI t465], blk b450 36 [vS x453, sl Event.K x454], blk b449 36 [vS (⟨#[]⟩ : ByteArray), eq (.slice none 0 0)], own boolK v470.1 p471.2.2, own strK p519.2.2.1 p519.2.1] ++ F) ?_
  rintro j_ ⟨x507, x508, v509⟩ H
  rcases j_ with _ | j518
  ·
   exact (Gets.no H).elim
  replace H : Gets (concourseref07_Made.l1 k x452 p471 (j518 + 1) x507 x508) _ := H
  rw [concourseref07_Made.l1] at H
  refine WP.seq <| WP.seq <| rg 3 0 <| mv0 rfl rfl <| mv0 rfl rfl <| bn0 rfl rfl rfl run_lt <| .fin <| cd H rfl (fun _ H => ?_) (fun _ H => ?_)
  rotate_left
  ·
   refine WP.exit ?_
   replace H := Gets.out H
   exact jn ((x507, decide (x507 < x452), x508), v509) H
  refine WP.skip <| WP.seq <| WP.block <| WP.seq <| rg 4 0 <| mv0 rfl rfl <| mv0 rfl rfl <| gr H fun g511 H => ?_
  have h512 : x507.toNat < p471.2.2.length := idx_lt g511
  refine Dv.ixw rfl trivial rfl (mem_at 3 rfl) rfl Tryz.underlying116 Tryz.underlying4 c4 g511.1 g511.2 <| Dv.ldw (j := x507.toNat) (f := 0) (p := vB (p471.2.2.getD x507.toNat default)) rfl trivial rfl (mem_at 3 rfl) h512 Tryz.underlying4 rfl rfl <| .fin <| cd H rfl (fun _ H => ?_) (fun _ H => ?_)
  rotate_left
  ·
   exact WP.skip <| rg 3 0 <| mv0 rfl rfl <| bn0 rfl rfl rfl run_add <| as0 rfl rfl <| .fin <| bk j518 (w64 (x507 + 1), x508, v509) H
  refine dg Tryz.checked.mixed 8 160 <| fb rfl trivial rfl fa33_2 <| ld 0 rfl trivial rfl sc31 rfl rfl <| mv0 rfl rfl <| el H fun t514 h515 H => cl rfl cal29 rfl (concourseref01_EventOf.c h515) <| Dv.lit strK ([t514] : List ByteArray) (css := [[vS t514]]) rfl trivial Tryz.underlying31 Tryz.underlying9 c9 z9 rfl (by decide) (by decide) rfl ⟨(cells_one (one_eq rfl)), trivial⟩ rfl rfl rfl <| gr H fun g516 H => ap strK 4 ([t514] : List ByteArray) src_sl Tryz.underlying31 (.inr ⟨_, Tryz.underlying31⟩) inf9 g516 pB fun v517 => ?_
  refine fb rfl trivial rfl fa33_2 <| sx 0 rfl trivial rfl rfl (cells_one one_ov) sz31 rfl rfl rfl pB ?_
  exact .fin <| rg 3 0 <| mv0 rfl rfl <| bn0 rfl rfl rfl run_add <| as0 rfl rfl <| .fin <| bk j518 (w64 (x507 + 1), x508 ++ ([t514] : List ByteArray), v517) H
 obtain ⟨p472, v473⟩ := q520
 refine WP.seq <| WP.seq <| rg 7 0 <| fb rfl trivial rfl fa33_5 <| ld 0 rfl trivial rfl sc3 rfl rfl <| bn0 rfl rfl rfl run_eq <| mv0 rfl rfl ?_
 cases c474 : (t465 == 0)
 ·
  replace H := Gets.cf H c474
  refine sk rfl rfl <| sk rfl rfl <| pf0 rfl rfl rfl <| .fin <| WP.cond rfl nofun (fun _ => ?_)
  refine WP.skip <| WP.seq <| rg 9 192 <| lds 1 rfl trivial rfl sg36 rfl rfl <| lds 0 rfl trivial rfl sg33 rfl rfl <| Dv.gh (gh_frz (E' := [(0, vS a0), (1, sl GMade.K a1), (4, eq (.pointer (some ⟨b449, 0, none⟩))), (5, eq (.pointer (some ⟨b450, 0, none⟩))), (6, vI x452), (7, eq (.pointer (some ⟨b467, 0, none⟩))), (8, eq v470.1), (9, vI p471.1), (10, vI p472.1), (23, vB (decide (x452 < 9))), (58, vB p471.2.1), (75, vB p472.2.1), (95, vB false), (129, agg [vS x453, sl Event.K x454]), (130, agg [vS t459, vS a0, sl strK p472.2.2, vS (⟨#[]⟩ : ByteArray), vS t462, vI t465])]) (l' := [blk b467 33 [vS t459, vS a0, sl strK p472.2.2, vS (⟨#[]⟩ : ByteArray), vS t462, vI t465], blk b450 36 [vS x453, sl Event.K x454], blk b449 36 [vS (⟨#[]⟩ : ByteArray), eq (.slice none 0 0)], own boolK v470.1 p471.2.2] ++ F) 4 rfl (cve_cons rfl cv_id (cve_cons rfl cv_id (cve_cons rfl cv_id (cve_cons rfl cv_id (cve_cons rfl cv_id (cve_cons rfl cv_id (cve_cons rfl cv_id (cve_cons rfl cv_id (cve_cons rfl cv_id (cve_cons rfl cv_id (cve_cons rfl cv_id (cve_cons rfl cv_id (cve_cons rfl cv_id (cve_cons rfl cv_id (cve_cons rfl (cv_agg (.cons cv_id (.cons cv_id (.cons cv_eq (.cons cv_id (.cons cv_id (.cons cv_id .nil))))))) cve_nil))))))))))))))) (all2_app (.cons (cva_blk (.cons cv_id (.cons cv_id (.cons cv_eq (.cons cv_id (.cons cv_id (.cons cv_id .nil))))))) (.cons cva_id (.cons cva_id (.cons cva_id .nil)))) fun _ => cva_id)) (fun _ _ => ?_)
  refine el H fun t504 h505 H => cl rfl cal51 rfl (concourseref07_Add.c h505) <| mv0 rfl rfl <| ex0 rfl trivial rfl rfl <| ex0 rfl trivial rfl rfl <| al rfl trivial zc36 nofun fun b506 => sx 0 rfl trivial rfl rfl cA sz36 rfl rfl rfl nofun ?_
  refine as0 rfl rfl <| .fin <| rg 2 2 <| lds 0 rfl trivial rfl sg36 rfl rfl <| sx 2 rfl trivial rfl rfl cA sz36 rfl rfl rfl nofun ?_
  refine .fin ?_
  replace H := Gets.out H
  refine ng (sg 5 [0,1,2,3,4] 2) fun _ _ => ?_
  exact jn ((p471.1, p472.1, p471.2.1, p472.2.1, false, t504.1.fRoom, t504.1.fL, p471.2.2), v470) H
 replace H := Gets.ct H c474
 refine mvg rfl rfl rfl <| bng rfl rfl rfl rfl run_gt <| pt0 rfl rfl rfl <| .fin <| cd H rfl (fun _ H => ?_) (fun _ H => ?_)
 rotate_left
 ·
  refine WP.skip <| WP.seq <| rg 9 192 <| lds 1 rfl trivial rfl sg36 rfl rfl <| lds 0 rfl trivial rfl sg33 rfl rfl <| Dv.gh (gh_frz (E' := [(0, vS a0), (1, sl GMade.K a1), (4, eq (.pointer (some ⟨b449, 0, none⟩))), (5, eq (.pointer (some ⟨b450, 0, none⟩))), (6, vI x452), (7, eq (.pointer (some ⟨b467, 0, none⟩))), (8, eq v470.1), (9, vI p471.1), (10, vI p472.1), (23, vB (decide (x452 < 9))), (58, vB p471.2.1), (75, vB p472.2.1), (95, vB (decide (0 < x452))), (129, agg [vS x453, sl Event.K x454]), (130, agg [vS t459, vS a0, sl strK p472.2.2, vS (⟨#[]⟩ : ByteArray), vS t462, vI t465])]) (l' := [blk b467 33 [vS t459, vS a0, sl strK p472.2.2, vS (⟨#[]⟩ : ByteArray), vS t462, vI t465], blk b450 36 [vS x453, sl Event.K x454], blk b449 36 [vS (⟨#[]⟩ : ByteArray), eq (.slice none 0 0)], own boolK v470.1 p471.2.2] ++ F) 4 rfl (cve_cons rfl cv_id (cve_cons rfl cv_id (cve_cons rfl cv_id (cve_cons rfl cv_id (cve_cons rfl cv_id (cve_cons rfl cv_id (cve_cons rfl cv_id (cve_cons rfl cv_id (cve_cons rfl cv_id (cve_cons rfl cv_id (cve_cons rfl cv_id (cve_cons rfl cv_id (cve_cons rfl cv_id (cve_cons rfl cv_id (cve_cons rfl (cv_agg (.cons cv_id (.cons cv_id (.cons cv_eq (.cons cv_id (.cons cv_id (.cons cv_id .nil))))))) cve_nil))))))))))))))) (all2_app (.cons (cva_blk (.cons cv_id (.cons cv_id (.cons cv_eq (.cons cv_id (.cons cv_id (.cons cv_id .nil))))))) (.cons cva_id (.cons cva_id (.cons cva_id .nil)))) fun _ => cva_id)) (fun _ _ => ?_)
  refine el H fun t500 h501 H => cl rfl cal51 rfl (concourseref07_Add.c h501) <| mv0 rfl rfl <| ex0 rfl trivial rfl rfl <| ex0 rfl trivial rfl rfl <| al rfl trivial zc36 nofun fun b502 => sx 0 rfl trivial rfl rfl cA sz36 rfl rfl rfl nofun ?_
  refine as0 rfl rfl <| .fin <| rg 2 2 <| lds 0 rfl trivial rfl sg36 rfl rfl <| sx 2 rfl trivial rfl rfl cA sz36 rfl rfl rfl nofun ?_
  refine .fin ?_
  replace H := Gets.out H
  refine ng (sg 5 [0,1,2,3,4] 2) fun _ _ => ?_
  exact jn ((p471.1, p472.1, p471.2.1, p472.2.1, decide (0 < x452), t500.1.fRoom, t500.1.fL, p471.2.2), v470) H
 refine WP.seq <| rg 9 0 <| mv0 rfl rfl <| mv0 rfl rfl <| gr H fun g476 H => Dv.ixr rfl trivial rfl rfl Tryz.underlying22 Tryz.underlying115 c115 g476.1 g476.2 <| fr rfl trivial rfl fa115_3 rfl <| ldR rfl trivial rfl sc3 rfl <| mv0 rfl rfl <| bn0 rfl rfl rfl run_mul <| el H fun t477 h478 H => cl rfl cal49 rfl (concourseref01_Around.c h478) <| as0 rfl rfl <| .fin <| WP.seq <| rg 21 0 <| mv0 rfl rfl <| mv0 rfl rfl <| bn0 rfl rfl rfl run_lt <| mv0 rfl rfl ?_
 cases c479 : decide (t477 < x452)
 ·
  replace H := Gets.cf H c479
  refine sk rfl rfl <| sk rfl rfl <| sk rfl rfl <| sk rfl rfl <| sk rfl rfl <| sk rfl rfl <| sk rfl rfl <| pf0 rfl rfl rfl <| mv0 rfl rfl <| sk rfl rfl <| sk rfl rfl <| sk rfl rfl <| sk rfl rfl <| sk rfl rfl <| sk rfl rfl <| sk rfl rfl <| pf0 rfl rfl rfl <| .fin <| WP.cond rfl nofun (fun _ => ?_)
  refine WP.skip <| WP.seq <| rg 9 192 <| lds 1 rfl trivial rfl sg36 rfl rfl <| lds 0 rfl trivial rfl sg33 rfl rfl <| Dv.gh (gh_frz (E' := [(0, vS a0), (1, sl GMade.K a1), (4, eq (.pointer (some ⟨b449, 0, none⟩))), (5, eq (.pointer (some ⟨b450, 0, none⟩))), (6, vI x452), (7, eq (.pointer (some ⟨b467, 0, none⟩))), (8, eq v470.1), (9, vI p471.1), (10, vI p472.1), (11, vI t477), (23, vB (decide (x452 < 9))), (58, vB p471.2.1), (75, vB p472.2.1), (95, vB (decide (0 < x452))), (124, vB false), (129, agg [vS x453, sl Event.K x454]), (130, agg [vS t459, vS a0, sl strK p472.2.2, vS (⟨#[]⟩ : ByteArray), vS t462, vI t465])]) (l' := [blk b467 33 [vS t459, vS a0, sl strK p472.2.2, vS (⟨#[]⟩ : ByteArray), vS t462, vI t465], blk b450 36 [vS x453, sl Event.K x454], blk b449 36 [vS (⟨#[]⟩ : ByteArray), eq (.slice none 0 0)], own boolK v470.1 p471.2.2] ++ F) 4 rfl (cve_cons rfl cv_id (cve_cons rfl cv_id (cve_cons rfl cv_id (cve_cons rfl cv_id (cve_cons rfl cv_id (cve_cons rfl cv_id (cve_cons rfl cv_id (cve_cons rfl cv_id (cve_cons rfl cv_id (cve_cons rfl cv_id (cve_cons rfl cv_id (cve_cons rfl cv_id (cve_cons rfl cv_id (cve_cons rfl cv_id (cve_cons rfl cv_id (cve_cons rfl cv_id (cve_cons rfl (cv_agg (.cons cv_id (.cons cv_id (.cons cv_eq (.cons cv_id (.cons cv_id (.cons cv_id .nil))))))) cve_nil))))))))))))))))) (all2_app (.cons (cva_blk (.cons cv_id (.cons cv_id (.cons cv_eq (.cons cv_id (.cons cv_id (.cons cv_id .nil))))))) (.cons cva_id (.cons cva_id (.cons cva_id .nil)))) fun _ => cva_id)) (fun _ _ => ?_)
  refine el H fun t497 h498 H => cl rfl cal51 rfl (concourseref07_Add.c h498) <| mv0 rfl rfl <| ex0 rfl trivial rfl rfl <| ex0 rfl trivial rfl rfl <| al rfl trivial zc36 nofun fun b499 => sx 0 rfl trivial rfl rfl cA sz36 rfl rfl rfl nofun ?_
  refine as0 rfl rfl <| .fin <| rg 2 2 <| lds 0 rfl trivial rfl sg36 rfl rfl <| sx 2 rfl trivial rfl rfl cA sz36 rfl rfl rfl nofun ?_
  refine .fin ?_
  replace H := Gets.out H
  refine ng (sg 5 [0,1,2,3,4] 2) fun _ _ => ?_
  exact jn ((p471.1, p472.1, p471.2.1, p472.2.1, decide (0 < x452), t497.1.fRoom, t497.1.fL, p471.2.2), v470) H
 replace H := Gets.ct H c479
 refine fb rfl (gg rfl) rfl fa36_1 <| ld 1 rfl (gg rfl) rfl sc23 rfl rfl <| mvg rfl rfl rfl <| gr H fun g480 H => Dv.ixr rfl (gg rfl) rfl rfl Tryz.underlying23 Tryz.underlying33 c33 g480.1 g480.2 <| fr rfl (gg rfl) rfl fa33_5 rfl <| ldR rfl (gg rfl) rfl sc3 rfl <| bng rfl rfl rfl rfl run_eq <| pt0 rfl rfl rfl <| mv0 rfl rfl ?_
 cases c481 : (((Event.K.at x454 t477).fDoes) == 0)
 ·
  replace H := Gets.cf H c481
  refine sk rfl rfl <| sk rfl rfl <| sk rfl rfl <| sk rfl rfl <| sk rfl rfl <| sk rfl rfl <| sk rfl rfl <| pf0 rfl rfl rfl <| .fin <| WP.cond rfl nofun (fun _ => ?_)
  refine WP.skip <| WP.seq <| rg 9 192 <| lds 1 rfl trivial rfl sg36 rfl rfl <| lds 0 rfl trivial rfl sg33 rfl rfl <| Dv.gh (gh_frz (E' := [(0, vS a0), (1, sl GMade.K a1), (4, eq (.pointer (some ⟨b449, 0, none⟩))), (5, eq (.pointer (some ⟨b450, 0, none⟩))), (6, vI x452), (7, eq (.pointer (some ⟨b467, 0, none⟩))), (8, eq v470.1), (9, vI p471.1), (10, vI p472.1), (11, vI t477), (23, vB (decide (x452 < 9))), (58, vB p471.2.1), (75, vB p472.2.1), (95, vB (decide (0 < x452))), (124, vB false), (129, agg [vS x453, sl Event.K x454]), (130, agg [vS t459, vS a0, sl strK p472.2.2, vS (⟨#[]⟩ : ByteArray), vS t462, vI t465])]) (l' := [blk b467 33 [vS t459, vS a0, sl strK p472.2.2, vS (⟨#[]⟩ : ByteArray), vS t462, vI t465], blk b450 36 [vS x453, sl Event.K x454], blk b449 36 [vS (⟨#[]⟩ : ByteArray), eq (.slice none 0 0)], own boolK v470.1 p471.2.2] ++ F) 4 rfl (cve_cons rfl cv_id (cve_cons rfl cv_id (cve_cons rfl cv_id (cve_cons rfl cv_id (cve_cons rfl cv_id (cve_cons rfl cv_id (cve_cons rfl cv_id (cve_cons rfl cv_id (cve_cons rfl cv_id (cve_cons rfl cv_id (cve_cons rfl cv_id (cve_cons rfl cv_id (cve_cons rfl cv_id (cve_cons rfl cv_id (cve_cons rfl cv_id (cve_cons rfl cv_id (cve_cons rfl (cv_agg (.cons cv_id (.cons cv_id (.cons cv_eq (.cons cv_id (.cons cv_id (.cons cv_id .nil))))))) cve_nil))))))))))))))))) (all2_app (.cons (cva_blk (.cons cv_id (.cons cv_id (.cons cv_eq (.cons cv_id (.cons cv_id (.cons cv_id .nil))))))) (.cons cva_id (.cons cva_id (.cons cva_id .nil)))) fun _ => cva_id)) (fun _ _ => ?_)
  refine el H fun t493 h494 H => cl rfl cal51 rfl (concourseref07_Add.c h494) <| mv0 rfl rfl <| ex0 rfl trivial rfl rfl <| ex0 rfl trivial rfl rfl <| al rfl trivial zc36 nofun fun b495 => sx 0 rfl trivial rfl rfl cA sz36 rfl rfl rfl nofun ?_
  refine as0 rfl rfl <| .fin <| rg 2 2 <| lds 0 rfl trivial rfl sg36 rfl rfl <| sx 2 rfl trivial rfl rfl cA sz36 rfl rfl rfl nofun ?_
  refine .fin ?_
  replace H := Gets.out H
  refine ng (sg 5 [0,1,2,3,4] 2) fun _ _ => ?_
  exact jn ((p471.1, p472.1, p471.2.1, p472.2.1, decide (0 < x452), t493.1.fRoom, t493.1.fL, p471.2.2), v470) H
 replace H := Gets.ct H c481
 refine fb rfl (gg rfl) rfl fa36_1 <| ld 1 rfl (gg rfl) rfl sc23 rfl rfl <| mvg rfl rfl rfl <| gr H fun g482 H => Dv.ixr rfl (gg rfl) rfl rfl Tryz.underlying23 Tryz.underlying33 c33 g482.1 g482.2 <| fr rfl (gg rfl) rfl fa33_3 rfl <| ldR rfl (gg rfl) rfl sc9 rfl <| bng rfl rfl rfl rfl run_seq <| pt0 rfl rfl rfl <| .fin <| cd H rfl (fun _ H => ?_) (fun _ H => ?_)
 rotate_left
 ·
  refine WP.skip <| WP.seq <| rg 9 192 <| lds 1 rfl trivial rfl sg36 rfl rfl <| lds 0 rfl trivial rfl sg33 rfl rfl <| Dv.gh (gh_frz (E' := [(0, vS a0), (1, sl GMade.K a1), (4, eq (.pointer (some ⟨b449, 0, none⟩))), (5, eq (.pointer (some ⟨b450, 0, none⟩))), (6, vI x452), (7, eq (.pointer (some ⟨b467, 0, none⟩))), (8, eq v470.1), (9, vI p471.1), (10, vI p472.1), (11, vI t477), (23, vB (decide (x452 < 9))), (58, vB p471.2.1), (75, vB p472.2.1), (95, vB (decide (0 < x452))), (124, vB (decide (((Event.K.at x454 t477).fThread) = (⟨#[]⟩ : ByteArray)))), (129, agg [vS x453, sl Event.K x454]), (130, agg [vS t459, vS a0, sl strK p472.2.2, vS (⟨#[]⟩ : ByteArray), vS t462, vI t465])]) (l' := [blk b467 33 [vS t459, vS a0, sl strK p472.2.2, vS (⟨#[]⟩ : ByteArray), vS t462, vI t465], blk b450 36 [vS x453, sl Event.K x454], blk b449 36 [vS (⟨#[]⟩ : ByteArray), eq (.slice none 0 0)], own boolK v470.1 p471.2.2] ++ F) 4 rfl (cve_cons rfl cv_id (cve_cons rfl cv_id (cve_cons rfl cv_id (cve_cons rfl cv_id (cve_cons rfl cv_id (cve_cons rfl cv_id (cve_cons rfl cv_id (cve_cons rfl cv_id (cve_cons rfl cv_id (cve_cons rfl cv_id (cve_cons rfl cv_id (cve_cons rfl cv_id (cve_cons rfl cv_id (cve_cons rfl cv_id (cve_cons rfl cv_id (cve_cons rfl cv_id (cve_cons rfl (cv_agg (.cons cv_id (.cons cv_id (.cons cv_eq (.cons cv_id (.cons cv_id (.cons cv_id .nil))))))) cve_nil))))))))))))))))) (all2_app (.cons (cva_blk (.cons cv_id (.cons cv_id (.cons cv_eq (.cons cv_id (.cons cv_id (.cons cv_id .nil))))))) (.cons cva_id (.cons cva_id (.cons cva_id .nil)))) fun _ => cva_id)) (fun _ _ => ?_)
  refine el H fun t489 h490 H => cl rfl cal51 rfl (concourseref07_Add.c h490) <| mv0 rfl rfl <| ex0 rfl trivial rfl rfl <| ex0 rfl trivial rfl rfl <| al rfl trivial zc36 nofun fun b491 => sx 0 rfl trivial rfl rfl cA sz36 rfl rfl rfl nofun ?_
  refine as0 rfl rfl <| .fin <| rg 2 2 <| lds 0 rfl trivial rfl sg36 rfl rfl <| sx 2 rfl trivial rfl rfl cA sz36 rfl rfl rfl nofun ?_
  refine .fin ?_
  replace H := Gets.out H
  refine ng (sg 5 [0,1,2,3,4] 2) fun _ _ => ?_
  exact jn ((p471.1, p472.1, p471.2.1, p472.2.1, decide (0 < x452), t489.1.fRoom, t489.1.fL, p471.2.2), v470) H
 refine rg 4 8 <| mv0 rfl rfl <| el H fun t484 h485 H => cl rfl cal29 rfl (concourseref01_EventOf.c h485) <| fb rfl trivial rfl fa33_3 <| sx 0 rfl trivial rfl rfl cE sz9 rfl rfl rfl nofun ?_
 refine .fin <| WP.seq <| rg 9 192 <| lds 1 rfl trivial rfl sg36 rfl rfl <| lds 0 rfl trivial rfl sg33 rfl rfl <| Dv.gh (gh_frz (E' := [(0, vS a0), (1, sl GMade.K a1), (4, eq (.pointer (some ⟨b449, 0, none⟩))), (5, eq (.pointer (some ⟨b450, 0, none⟩))), (6, vI x452), (7, eq (.pointer (some ⟨b467, 0, none⟩))), (8, eq v470.1), (9, vI p471.1), (10, vI p472.1), (11, vI t477), (23, vB (decide (x452 < 9))), (58, vB p471.2.1), (75, vB p472.2.1), (95, vB (decide (0 < x452))), (124, vB (decide (((Event.K.at x454 t477).fThread) = (⟨#[]⟩ : ByteArray)))), (129, agg [vS x453, sl Event.K x454]), (130, agg [vS t459, vS a0, sl strK p472.2.2, vS t484, vS t462, vI t465])]) (l' := [blk b467 33 [vS t459, vS a0, sl strK p472.2.2, vS t484, vS t462, vI t465], blk b450 36 [vS x453, sl Event.K x454], blk b449 36 [vS (⟨#[]⟩ : ByteArray), eq (.slice none 0 0)], own boolK v470.1 p471.2.2] ++ F) 4 rfl (cve_cons rfl cv_id (cve_cons rfl cv_id (cve_cons rfl cv_id (cve_cons rfl cv_id (cve_cons rfl cv_id (cve_cons rfl cv_id (cve_cons rfl cv_id (cve_cons rfl cv_id (cve_cons rfl cv_id (cve_cons rfl cv_id (cve_cons rfl cv_id (cve_cons rfl cv_id (cve_cons rfl cv_id (cve_cons rfl cv_id (cve_cons rfl cv_id (cve_cons rfl cv_id (cve_cons rfl (cv_agg (.cons cv_id (.cons cv_id (.cons cv_eq (.cons cv_id (.cons cv_id (.cons cv_id .nil))))))) cve_nil))))))))))))))))) (all2_app (.cons (cva_blk (.cons cv_id (.cons cv_id (.cons cv_eq (.cons cv_id (.cons cv_id (.cons cv_id .nil))))))) (.cons cva_id (.cons cva_id (.cons cva_id .nil)))) fun _ => cva_id)) (fun _ _ => ?_)
 refine el H fun t486 h487 H => cl rfl cal51 rfl (concourseref07_Add.c h487) <| mv0 rfl rfl <| ex0 rfl trivial rfl rfl <| ex0 rfl trivial rfl rfl <| al rfl trivial zc36 nofun fun b488 => sx 0 rfl trivial rfl rfl cA sz36 rfl rfl rfl nofun ?_
 refine as0 rfl rfl <| .fin <| rg 2 2 <| lds 0 rfl trivial rfl sg36 rfl rfl <| sx 2 rfl trivial rfl rfl cA sz36 rfl rfl rfl nofun ?_
 refine .fin ?_
 replace H := Gets.out H
 refine ng (sg 5 [0,1,2,3,4] 2) fun _ _ => ?_
 exact jn ((p471.1, p472.1, p471.2.1, p472.2.1, decide (0 < x452), t486.1.fRoom, t486.1.fL, p471.2.2), v470) H
theorem concourseref10_Made.c {k : Nat} {a0 : List GMade} {a1 : List GMade} {r : (List Event)} (h : concourseref10_Made.f k a0 a1 = some r) : Tr Tryz.prog 26 [sl GMade.K a0, sl GMade.K a1] [] (γ := OV) (fun _ => True) (fun g => eq g.1) (fun g => [own Event.K g.1 r]) := by
 unfold concourseref10_Made.f at h
 refine Tr.body Tryz.func26 (c := _) rfl Tryz.ntmps26 (Nat.le_of_ble_eq_true rfl) fun R0 F => ?_
 replace h := Gets.of h
 have H := h
 clear h
 refine WP.seq <| rg 1 0 <| as0 rfl rfl <| .fin <| WP.seq <| rg 1 0 <| as0 rfl rfl <| .fin <| WP.seq <| rg 7 32 <| mv0 rfl rfl <| el H fun t541 h542 H => cl rfl cal11 rfl (concourseref01_RoomOf.c h542) <| mv0 rfl rfl <| el H fun t543 h544 H => cl rfl cal66 rfl (concourseref07_Made.c h544) <| Dv.fld rfl trivial rfl Tryz.underlying36 rfl Tryz.underlying23 rfl rfl <| vg (st_nil Event.K none) fun _ _ => ?_
 refine gr H fun g545 H => ap Event.K 0 t543.fL src_sl Tryz.underlying23 (.inr ⟨_, Tryz.underlying23⟩) inf33 g545 nofun fun v546 => ?_
 refine as0 rfl rfl <| .fin <| WP.seq <| rg 7 32 <| mv0 rfl rfl <| el H fun t547 h548 H => cl rfl cal11 rfl (concourseref01_RoomOf.c h548) <| mv0 rfl rfl <| el H fun t549 h550 H => cl rfl cal66 rfl (concourseref07_Made.c h550) <| Dv.fld rfl trivial rfl Tryz.underlying36 rfl Tryz.underlying23 rfl rfl <| gr H fun g551 H => ap Event.K 0 t549.fL src_sl Tryz.underlying23 (.inr ⟨_, Tryz.underlying23⟩) inf33 g551 nofun fun v552 => ?_
 refine as0 rfl rfl <| .fin ?_
 obtain rfl := Gets.out H
 exact rt i2 rfl v552 1 [0] 0 (.cons (res_tmp rfl) .nil)
theorem concourseref10_Of.c {k : Nat} {a0 : RView} {a1 : ByteArray} {r : RDag} (h : concourseref10_Of.f k a0 a1 = some r) : Pt Tryz.prog 10 [agg (RView.enc a0), vS a1] (agg (RDag.enc r)) := by
 unfold concourseref10_Of.f at h
 refine (Tr.body Tryz.func10 (c := _) rfl Tryz.ntmps10 (Nat.le_of_ble_eq_true rfl) fun R0 F => ?_).pt
 replace h := Gets.of h
 have H := h
 clear h
 refine WP.seq <| rg 2 3 <| Dv.box rfl trivial rfl cA nofun fun b553 => al rfl trivial zc36 nofun fun b554 => .fin <| WP.seqr H id (fun p555 : Int × Bool => [(0, agg (RView.enc a0)), (1, vS a1), (2, eq (.pointer (some ⟨b553, 0, none⟩))), (4, eq (.pointer (some ⟨b554, 0, none⟩))), (5, vI p555.1), (10, vB p555.2)]) (fun p555 : Int × Bool => [blk b554 36 [vS (⟨#[]⟩ : ByteArray), eq (.slice none 0 0)], blk b553 28 (RView.enc a0)] ++ F) (fun p555 H => ?_) (fun H => ?_)
 ·
  refine WP.seq <| rg 3 4 <| mv0 rfl rfl <| Dv.bld (css := [[vS a1]]) rfl trivial Tryz.underlying36 pl36 z36 rfl ⟨(cells_one (one_eq rfl)), trivial⟩ rfl rfl <| sx 0 rfl trivial rfl rfl cA sz36 rfl rfl rfl nofun ?_
  refine .fin ?_
  obtain rfl := Gets.out H
  exact rt i2 rfl () 2 [0,1] 2 (.cons (res_wk (res_cells rfl Tryz.underlying36 rfl c36 (mem_at 0 rfl) rfl) (wk_agg (.cons wk_id (.cons wk_nil .nil)))) .nil)
 refine WP.seq <| rg 1 0 <| as0 rfl rfl <| .fin <| WP.block <| wg (sg 2 [0,1] 0) fun _ _ => ?_
 refine lp (fun j_ (p562 : Int) => concourseref10_Of.l0 k a0 a1 j_ p562) 0 H (fun p562 => [(0, agg (RView.enc a0)), (1, vS a1), (2, eq (.pointer (some ⟨b553, 0, none⟩))), (4, eq (.pointer (some ⟨b554, 0, none⟩))), (5, vI p562)]) (fun p562 => [blk b554 36 [vS (⟨#[]⟩ : ByteArray), eq (.slice none 0 0)], blk b553 28 (RView.enc a0)] ++ F) ?_
 rintro j_ x556 H
 rcases j_ with _ | j561
 ·
  exact (Gets.no H).elim
 replace H : Gets (concourseref10_Of.l0 k a0 a1 (j561 + 1) x556) _ := H
 rw [concourseref10_Of.l0] at H
 refine WP.seq <| WP.seq <| rg 5 0 <| mv0 rfl rfl <| fb rfl trivial rfl fa28_0 <| ld 1 rfl trivial rfl sc26 rfl rfl <| Dv.lenl rfl trivial rfl Tryz.underlying26 <| bn0 rfl rfl rfl run_lt <| .fin <| cd H rfl (fun _ H => ?_) (fun _ H => ?_)
 rotate_left
 ·
  refine WP.exit ?_
  replace H := Gets.out H
  exact jn (x556, decide (x556 < (a0.fD.length : Int))) H
 refine WP.skip <| WP.seq <| WP.block <| WP.seq <| rg 8 0 <| fb rfl trivial rfl fa28_0 <| ld 1 rfl trivial rfl sc26 rfl rfl <| mv0 rfl rfl <| gr H fun g558 H => Dv.ixr rfl trivial rfl rfl Tryz.underlying26 Tryz.underlying36 c36 g558.1 g558.2 <| fr rfl trivial rfl fa36_0 rfl <| ldR rfl trivial rfl sc9 rfl <| mv0 rfl rfl <| bn0 rfl rfl rfl run_seq <| .fin <| cd H rfl (fun _ H => ?_) (fun _ H => ?_)
 rotate_left
 ·
  exact WP.skip <| rg 3 0 <| mv0 rfl rfl <| bn0 rfl rfl rfl run_add <| as0 rfl rfl <| .fin <| bk j561 (w64 (x556 + 1)) H
 refine WP.seq <| rg 6 32 <| fb rfl trivial rfl fa28_0 <| ld 1 rfl trivial rfl sc26 rfl rfl <| mv0 rfl rfl <| gr H fun g560 H => Dv.ixr rfl trivial rfl rfl Tryz.underlying26 Tryz.underlying36 c36 g560.1 g560.2 <| ldsR rfl trivial rfl sg36 rfl <| sx 0 rfl trivial rfl rfl cA sz36 rfl rfl rfl nofun ?_
 refine .fin ?_
 replace H := Gets.outr H
 obtain rfl := Gets.out H
 exact rt i2 rfl () 2 [0,1] 2 (.cons (res_cells rfl Tryz.underlying36 rfl c36 (mem_at 0 rfl) rfl) .nil)
theorem concourseref10_Add.c {k : Nat} {a0 : RView} {a1 : Event} {r : RView × Int} (h : concourseref10_Add.f k a0 a1 = some r) : Pt Tryz.prog 12 [agg (RView.enc a0), agg (Event.enc a1)] (tup [agg (RView.enc r.1), vI r.2]) := by
 unfold concourseref10_Add.f at h
 refine (Tr.body Tryz.func12 (c := _) rfl Tryz.ntmps12 (Nat.le_of_ble_eq_true rfl) fun R0 F => ?_).pt
 replace h := Gets.of h
 have H := h
 clear h
 refine WP.seq <| rg 4 7 <| Dv.box rfl trivial rfl cA nofun fun b563 => Dv.box rfl trivial rfl cA nofun fun b564 => al rfl trivial zc28 nofun fun b565 => as0 rfl rfl <| .fin <| WP.seq <| dg Tryz.checked.mixed 12 1536 <| lds 2 rfl trivial rfl sg28 rfl rfl <| fb rfl trivial rfl fa33_1 <| ld 1 rfl trivial rfl sc9 rfl rfl <| el H fun t566 h567 H => cl rfl cal10 rfl (concourseref10_Of.c h567) <| lds 1 rfl trivial rfl sg33 rfl rfl <| el H fun t568 h569 H => cl rfl cal51 rfl (concourseref07_Add.c h569) <| mv0 rfl rfl <| ex0 rfl trivial rfl rfl <| ex0 rfl trivial rfl rfl <| al rfl trivial zc36 (fun _ => (pend_in (fun _ => trivial) (pend_in (fun _ => trivial) (pend_in (fun _ => trivial) (pend_in (fun _ => trivial) (pend_in (fun _ => (mem_at 2 rfl)) (pend_in (fun _ => trivial) (pend_in (fun _ => (mem_at 2 rfl)) (pend_in (fun _ => trivial) (pend_in (fun _ => (mem_at 3 rfl)) pend_nil)))))))))) fun b570 => sx 0 rfl trivial rfl rfl cA sz36 rfl rfl rfl (fun _ => (pend_in (fun _ => trivial) (pend_by (by kernel_rfl) (pend_by (by kernel_rfl) (pend_by (by kernel_rfl) (pend_by (by kernel_rfl) (pend_by (by kernel_rfl) (pend_by (by kernel_rfl) (pend_by (by kernel_rfl) (pend_by (by kernel_rfl) pend_nil)))))))))) ?_
 refine as0 rfl rfl <| .fin <| WP.seq <| WP.seq <| rg 2 0 <| mv0 rfl rfl <| bn0 rfl rfl rfl run_ne <| .fin <| cd H rfl (fun _ H => ?_) (fun _ H => ?_)
 ·
  refine WP.seq <| rg 4 4 <| lds 3 rfl trivial rfl sg28 rfl rfl <| mv0 rfl rfl <| sx 1 rfl trivial rfl rfl cA sz28 rfl rfl rfl nofun ?_
  refine as0 rfl rfl <| .fin ?_
  obtain rfl := Gets.out H
  exact rt i2 rfl () 4 [0,1,2,3] 4 (.cons (res_cells rfl Tryz.underlying28 rfl c28 (mem_at 1 rfl) rfl) (.cons (res_tmp rfl) .nil))
 refine WP.skip <| WP.seq <| rg 1 0 <| as0 rfl rfl <| .fin <| WP.seq <| rg 1 0 <| as0 rfl rfl <| .fin <| WP.seqn H (fun q598 : (Bool × Int × Bool × (List RDag)) × OV => q598.1) (fun q598 : (Bool × Int × Bool × (List RDag)) × OV => [(0, agg (RView.enc a0)), (1, agg (Event.enc a1)), (2, eq (.pointer (some ⟨b563, 0, none⟩))), (3, eq (.pointer (some ⟨b564, 0, none⟩))), (4, eq (.pointer (some ⟨b565, 0, none⟩))), (5, vI 0), (6, eq (.pointer (some ⟨b570, 0, none⟩))), (7, vI t568.2), (8, eq q598.2.1), (9, vB q598.1.1), (10, vI q598.1.2.1), (21, vB (t568.2 != 0)), (28, vB q598.1.2.2.1)]) (fun q598 : (Bool × Int × Bool × (List RDag)) × OV => [blk b570 36 (RDag.enc t568.1), blk b565 28 [eq (.slice none 0 0)], blk b564 33 (Event.enc a1), blk b563 28 (RView.enc a0), own RDag.K q598.2.1 q598.1.2.2.2] ++ F) (fun q598 H => ?_) (fun H => ?_)
 ·
  obtain ⟨p572, v573⟩ := q598
  refine WP.seq <| WP.seq <| rg 2 0 <| mv0 rfl rfl <| un0 rfl rfl (run_not _) <| .fin <| cd H rfl (fun _ H => ?_) (fun _ H => ?_)
  rotate_left
  ·
   refine WP.skip <| WP.seq <| rg 4 4 <| mv0 rfl rfl <| Dv.bld (css := [[eq v573.1]]) rfl trivial Tryz.underlying28 pl28 z28 rfl ⟨(cells_one one_ov), trivial⟩ rfl rfl <| sx 1 rfl trivial rfl rfl cA sz28 rfl rfl rfl nofun ?_
   refine as0 rfl rfl <| .fin <| WP.gh (gh_frz (E' := [(4, eq (.pointer (some ⟨b565, 0, none⟩))), (5, vI 0)]) (l' := [blk b570 36 (RDag.enc t568.1), blk b565 28 [sl RDag.K p572.2.2.2], blk b564 33 (Event.enc a1), blk b563 28 (RView.enc a0)] ++ F) 4 rfl (cve_cons rfl cv_id (cve_cons rfl cv_id cve_nil)) (all2_app (.cons cva_id (.cons (cva_blk (.cons cv_eq .nil)) (.cons cva_id (.cons cva_id .nil)))) fun _ => cva_id)) (fun _ _ => ?_)
   obtain rfl := Gets.out H
   exact rt i2 rfl () 4 [0,1,2,3] 4 (.cons (res_cells rfl Tryz.underlying28 rfl c28 (mem_at 1 rfl) rfl) (.cons (res_tmp rfl) .nil))
  refine rg 5 8 <| mv0 rfl rfl <| lds 0 rfl trivial rfl sg36 rfl rfl <| Dv.lit RDag.K ([t568.1] : List RDag) (css := [RDag.enc t568.1]) rfl trivial Tryz.underlying26 Tryz.underlying36 c36 z36 rfl (by decide) (by decide) rfl ⟨(cells_agg (RDag.K.one _)), trivial⟩ rfl rfl rfl <| gr H fun g575 H => ap RDag.K 4 ([t568.1] : List RDag) src_sl Tryz.underlying26 (.inr ⟨_, Tryz.underlying26⟩) inf36 g575 nofun fun v576 => ?_
  refine as0 rfl rfl <| .fin <| WP.seq <| rg 4 4 <| mv0 rfl rfl <| Dv.bld (css := [[eq v576.1]]) rfl trivial Tryz.underlying28 pl28 z28 rfl ⟨(cells_one one_ov), trivial⟩ rfl rfl <| sx 1 rfl trivial rfl rfl cA sz28 rfl rfl rfl nofun ?_
  refine as0 rfl rfl <| .fin <| WP.gh (gh_frz (E' := [(4, eq (.pointer (some ⟨b565, 0, none⟩))), (5, vI 0)]) (l' := [blk b570 36 (RDag.enc t568.1), blk b565 28 [sl RDag.K (p572.2.2.2 ++ ([t568.1] : List RDag))], blk b564 33 (Event.enc a1), blk b563 28 (RView.enc a0)] ++ F) 4 rfl (cve_cons rfl cv_id (cve_cons rfl cv_id cve_nil)) (all2_app (.cons cva_id (.cons (cva_blk (.cons cv_eq .nil)) (.cons cva_id (.cons cva_id .nil)))) fun _ => cva_id)) (fun _ _ => ?_)
  obtain rfl := Gets.out H
  exact rt i2 rfl () 4 [0,1,2,3] 4 (.cons (res_cells rfl Tryz.underlying28 rfl c28 (mem_at 1 rfl) rfl) (.cons (res_tmp rfl) .nil))
 refine WP.seq <| rg 1 0 <| as0 rfl rfl <| .fin <| WP.block <| wg (st_nil RDag.K none) fun _ _ => ?_
 refine wg (sg 5 [1,2,3,4,0] 0) fun _ _ => ?_
 refine lp (fun j_ (p597 : Bool × Int × (List RDag) × OV) => concourseref10_Add.l0 k a0 a1 t568 j_ p597.1 p597.2.1 p597.2.2.1) (false, 0, ([] : List RDag), nilV) H (fun p597 => [(0, agg (RView.enc a0)), (1, agg (Event.enc a1)), (2, eq (.pointer (some ⟨b563, 0, none⟩))), (3, eq (.pointer (some ⟨b564, 0, none⟩))), (4, eq (.pointer (some ⟨b565, 0, none⟩))), (5, vI 0), (6, eq (.pointer (some ⟨b570, 0, none⟩))), (7, vI t568.2), (8, eq p597.2.2.2.1), (9, vB p597.1), (10, vI p597.2.1), (21, vB (t568.2 != 0))]) (fun p597 => [blk b570 36 (RDag.enc t568.1), blk b565 28 [eq (.slice none 0 0)], blk b564 33 (Event.enc a1), blk b563 28 (RView.enc a0), own RDag.K p597.2.2.2.1 p597.2.2.1] ++ F) ?_
 rintro j_ ⟨x577, x578, x579, v580⟩ H
 rcases j_ with _ | j596
 ·
  exact (Gets.no H).elim
 replace H : Gets (concourseref10_Add.l0 k a0 a1 t568 (j596 + 1) x577 x578 x579) _ := H
 rw [concourseref10_Add.l0] at H
 refine WP.seq <| WP.seq <| rg 5 0 <| mv0 rfl rfl <| fb rfl trivial rfl fa28_0 <| ld 3 rfl trivial rfl sc26 rfl rfl <| Dv.lenl rfl trivial rfl Tryz.underlying26 <| bn0 rfl rfl rfl run_lt <| .fin <| cd H rfl (fun _ H => ?_) (fun _ H => ?_)
 rotate_left
 ·
  refine WP.exit ?_
  replace H := Gets.out H
  exact jn ((x577, x578, decide (x578 < (a0.fD.length : Int)), x579), v580) H
 refine WP.skip <| WP.seq <| WP.block <| WP.seqn H (fun q595 : (Bool × Bool × (List RDag)) × OV => q595.1) (fun q595 : (Bool × Bool × (List RDag)) × OV => [(0, agg (RView.enc a0)), (1, agg (Event.enc a1)), (2, eq (.pointer (some ⟨b563, 0, none⟩))), (3, eq (.pointer (some ⟨b564, 0, none⟩))), (4, eq (.pointer (some ⟨b565, 0, none⟩))), (5, vI 0), (6, eq (.pointer (some ⟨b570, 0, none⟩))), (7, vI t568.2), (8, eq q595.2.1), (9, vB q595.1.1), (10, vI x578), (21, vB (t568.2 != 0)), (28, vB (decide (x578 < (a0.fD.length : Int)))), (43, vB q595.1.2.1)]) (fun q595 : (Bool × Bool × (List RDag)) × OV => [blk b570 36 (RDag.enc t568.1), blk b565 28 [eq (.slice none 0 0)], blk b564 33 (Event.enc a1), blk b563 28 (RView.enc a0), own RDag.K q595.2.1 q595.1.2.2] ++ F) (fun q595 H => ?_) (fun H => ?_)
 ·
  obtain ⟨p582, v583⟩ := q595
  refine WP.seq <| dg Tryz.checked.mixed 9 0 <| fb rfl trivial rfl fa28_0 <| ld 3 rfl trivial rfl sc26 rfl rfl <| mv0 rfl rfl <| gr H fun g584 H => Dv.ixr rfl trivial rfl rfl Tryz.underlying26 Tryz.underlying36 c36 g584.1 g584.2 <| fr rfl trivial rfl fa36_0 rfl <| ldR rfl trivial rfl sc9 rfl <| fb rfl trivial rfl fa33_1 <| ld 2 rfl trivial rfl sc9 rfl rfl <| bn0 rfl rfl rfl run_sne <| .fin <| cd H rfl (fun _ H => ?_) (fun _ H => ?_)
  rotate_left
  ·
   exact WP.skip <| rg 3 0 <| mv0 rfl rfl <| bn0 rfl rfl rfl run_add <| as0 rfl rfl <| .fin <| bk j596 (p582.1, w64 (x578 + 1), p582.2.2, v583) H
  refine rg 9 128 <| mv0 rfl rfl <| fb rfl trivial rfl fa28_0 <| ld 3 rfl trivial rfl sc26 rfl rfl <| mv0 rfl rfl <| gr H fun g586 H => Dv.ixr rfl trivial rfl rfl Tryz.underlying26 Tryz.underlying36 c36 g586.1 g586.2 <| ldsR rfl trivial rfl sg36 rfl <| Dv.lit RDag.K ([RDag.K.at a0.fD x578] : List RDag) (css := [RDag.enc (RDag.K.at a0.fD x578)]) rfl trivial Tryz.underlying26 Tryz.underlying36 c36 z36 rfl (by decide) (by decide) rfl ⟨(cells_agg (RDag.K.one _)), trivial⟩ rfl rfl rfl <| gr H fun g587 H => ap RDag.K 4 ([RDag.K.at a0.fD x578] : List RDag) src_sl Tryz.underlying26 (.inr ⟨_, Tryz.underlying26⟩) inf36 g587 nofun fun v588 => ?_
  exact as0 rfl rfl <| .fin <| rg 3 0 <| mv0 rfl rfl <| bn0 rfl rfl rfl run_add <| as0 rfl rfl <| .fin <| bk j596 (p582.1, w64 (x578 + 1), p582.2.2 ++ ([RDag.K.at a0.fD x578] : List RDag), v588) H
 refine WP.seq <| dg Tryz.checked.mixed 13 0 <| mv0 rfl rfl <| un0 rfl rfl (run_not _) <| mv0 rfl rfl ?_
 cases c589 : !x577
 ·
  replace H := Gets.cf H c589
  refine sk rfl rfl <| sk rfl rfl <| sk rfl rfl <| sk rfl rfl <| sk rfl rfl <| sk rfl rfl <| sk rfl rfl <| sk rfl rfl <| sk rfl rfl <| pf0 rfl rfl rfl <| .fin <| WP.cond rfl nofun (fun _ => ?_)
  refine WP.skip ?_
  replace H := Gets.out H
  exact jn ((x577, false, x579), v580) H
 replace H := Gets.ct H c589
 refine fb rfl (gg rfl) rfl fa33_1 <| ld 2 rfl (gg rfl) rfl sc9 rfl rfl <| fb rfl (gg rfl) rfl fa28_0 <| ld 3 rfl (gg rfl) rfl sc26 rfl rfl <| mvg rfl rfl rfl <| gr H fun g590 H => Dv.ixr rfl (gg rfl) rfl rfl Tryz.underlying26 Tryz.underlying36 c36 g590.1 g590.2 <| fr rfl (gg rfl) rfl fa36_0 rfl <| ldR rfl (gg rfl) rfl sc9 rfl <| bng rfl rfl rfl rfl run_sle <| pt0 rfl rfl rfl <| .fin <| cd H rfl (fun _ H => ?_) (fun _ H => ?_)
 rotate_left
 ·
  refine WP.skip ?_
  replace H := Gets.out H
  exact jn ((x577, !sLt ((RDag.K.at a0.fD x578).fRoom) a1.fRoom, x579), v580) H
 refine WP.seq <| rg 5 8 <| mv0 rfl rfl <| lds 0 rfl trivial rfl sg36 rfl rfl <| Dv.lit RDag.K ([t568.1] : List RDag) (css := [RDag.enc t568.1]) rfl trivial Tryz.underlying26 Tryz.underlying36 c36 z36 rfl (by decide) (by decide) rfl ⟨(cells_agg (RDag.K.one _)), trivial⟩ rfl rfl rfl <| gr H fun g592 H => ap RDag.K 4 ([t568.1] : List RDag) src_sl Tryz.underlying26 (.inr ⟨_, Tryz.underlying26⟩) inf36 g592 nofun fun v593 => ?_
 refine as0 rfl rfl <| .fin <| rg 1 0 <| as0 rfl rfl <| .fin ?_
 replace H := Gets.out H
 exact jn ((true, !sLt ((RDag.K.at a0.fD x578).fRoom) a1.fRoom, x579 ++ ([t568.1] : List RDag)), v593) H
theorem concourseref10_Build.c {k : Nat} {a0 : List Event} {r : RView} (h : concourseref10_Build.f k a0 = some r) : Pt Tryz.prog 48 [sl Event.K a0] (agg (RView.enc r)) := by
 unfold concourseref10_Build.f at h
 refine (Tr.body Tryz.func48 (c := _) rfl Tryz.ntmps48 (Nat.le_of_ble_eq_true rfl) fun R0 F => ?_).pt
 replace h := Gets.of h
 have H := h
 clear h
 refine WP.seq <| rg 1 1 <| al rfl trivial zc28 nofun fun b599 => .fin <| WP.seq <| rg 1 1 <| al rfl trivial zc28 nofun fun b600 => .fin <| WP.seqn H id (fun p601 : Int × Bool × (List RDag) => [(0, sl Event.K a0), (2, eq (.pointer (some ⟨b599, 0, none⟩))), (3, eq (.pointer (some ⟨b600, 0, none⟩))), (4, vI p601.1), (10, vB p601.2.1)]) (fun p601 : Int × Bool × (List RDag) => [blk b600 28 [sl RDag.K p601.2.2], blk b599 28 [eq (.slice none 0 0)]] ++ F) (fun p601 H => ?_) (fun H => ?_)
 ·
  refine WP.seq <| rg 2 2 <| lds 0 rfl trivial rfl sg28 rfl rfl <| sx 1 rfl trivial rfl rfl cA sz28 rfl rfl rfl nofun ?_
  refine .fin ?_
  obtain rfl := Gets.out H
  exact rt i2 rfl () 2 [0,1] 2 (.cons (res_cells rfl Tryz.underlying28 rfl c28 (mem_at 1 rfl) rfl) .nil)
 refine WP.seq <| rg 1 0 <| as0 rfl rfl <| .fin <| WP.block <| WP.gh (gh_wk (E' := [(0, sl Event.K a0), (2, eq (.pointer (some ⟨b599, 0, none⟩))), (3, eq (.pointer (some ⟨b600, 0, none⟩))), (4, vI 0)]) (l' := [blk b600 28 [sl RDag.K ([] : List RDag)], blk b599 28 [eq (.slice none 0 0)]] ++ F) (wke_cons rfl wk_id (wke_cons rfl wk_id (wke_cons rfl wk_id (wke_cons rfl wk_id wke_nil)))) (all2_app (.cons (wka_blk (.cons wk_nil .nil)) (.cons wka_id .nil)) fun _ => wka_id)) (fun _ _ => ?_)
 refine wg (sg 2 [0,1] 0) fun _ _ => ?_
 refine lp (fun j_ (p610 : Int × (List RDag)) => concourseref10_Build.l0 k a0 j_ p610.1 p610.2) (0, ([] : List RDag)) H (fun p610 => [(0, sl Event.K a0), (2, eq (.pointer (some ⟨b599, 0, none⟩))), (3, eq (.pointer (some ⟨b600, 0, none⟩))), (4, vI p610.1)]) (fun p610 => [blk b600 28 [sl RDag.K p610.2], blk b599 28 [eq (.slice none 0 0)]] ++ F) ?_
 rintro j_ ⟨x602, x603⟩ H
 rcases j_ with _ | j609
 ·
  exact (Gets.no H).elim
 replace H : Gets (concourseref10_Build.l0 k a0 (j609 + 1) x602 x603) _ := H
 rw [concourseref10_Build.l0] at H
 refine WP.seq <| WP.seq <| rg 4 0 <| mv0 rfl rfl <| mv0 rfl rfl <| Dv.lenl rfl trivial rfl Tryz.underlying23 <| bn0 rfl rfl rfl run_lt <| .fin <| cd H rfl (fun _ H => ?_) (fun _ H => ?_)
 rotate_left
 ·
  refine WP.exit ?_
  replace H := Gets.out H
  exact jn (x602, decide (x602 < (a0.length : Int)), x603) H
 refine WP.skip <| WP.seq <| WP.block <| WP.seq <| dg Tryz.checked.mixed 12 1536 <| lds 0 rfl trivial rfl sg28 rfl rfl <| mv0 rfl rfl <| mv0 rfl rfl <| gr H fun g605 H => Dv.ixr rfl trivial rfl rfl Tryz.underlying23 Tryz.underlying33 c33 g605.1 g605.2 <| ldsR rfl trivial rfl sg33 rfl <| el H fun t606 h607 H => cl rfl cal12 rfl (concourseref10_Add.c h607) <| mv0 rfl rfl <| ex0 rfl trivial rfl rfl <| ex0 rfl trivial rfl rfl <| al rfl trivial zc28 (fun _ => (pend_in (fun _ => trivial) (pend_in (fun _ => trivial) (pend_in (fun _ => trivial) (pend_in (fun _ => trivial) (pend_in (fun _ => trivial) (pend_in (fun _ => trivial) (pend_in (fun _ => trivial) (pend_in (fun _ => trivial) (pend_in (fun _ => (mem_at 1 rfl)) pend_nil)))))))))) fun b608 => sx 0 rfl trivial rfl rfl cA sz28 rfl rfl rfl (fun _ => (pend_in (fun _ => trivial) (pend_by (by kernel_rfl) (pend_by (by kernel_rfl) (pend_by (by kernel_rfl) (pend_by (by kernel_rfl) (pend_by (by kernel_rfl) (pend_by (by kernel_rfl) (pend_by (by kernel_rfl) (pend_by (by kernel_rfl) pend_nil)))))))))) ?_
 refine as0 rfl rfl <| .fin <| rg 2 2 <| lds 0 rfl trivial rfl sg28 rfl rfl <| sx 1 rfl trivial rfl rfl cA sz28 rfl rfl rfl nofun ?_
 refine .fin <| rg 3 0 <| mv0 rfl rfl <| bn0 rfl rfl rfl run_add <| as0 rfl rfl <| .fin <| ng (sg 3 [0,1,2] 1) fun _ _ => ?_
 exact bk j609 (w64 (x602 + 1), t606.1.fD) H
theorem concourselaw10_build.c {k : Nat} {a0 : List GMade} {a1 : List GMade} {r : (Option VView) × RView} (h : concourselaw10_build.f k a0 a1 = some r) : Tr Tryz.prog 8 [sl GMade.K a0, sl GMade.K a1] [] (γ := OV) (fun _ => True) (fun g => tup [eq g.1, agg (RView.enc r.2)]) (fun g => [optO VView.O g r.1]) := by
 unfold concourselaw10_build.f at h
 refine Tr.body Tryz.func8 (c := _) rfl Tryz.ntmps8 (Nat.le_of_ble_eq_true rfl) fun R0 F => ?_
 replace h := Gets.of h
 have H := h
 clear h
 refine WP.seq <| rg 2 2 <| as0 rfl rfl <| al rfl trivial zc28 nofun fun b611 => .fin <| WP.seq <| rg 4 4 <| mv0 rfl rfl <| mv0 rfl rfl <| el H fun t612 h613 H => cx 1 [0] cal26 (concourseref10_Made.c h613) nofun fun g614 _ => ?_
 refine as0 rfl rfl <| .fin <| WP.seq <| rg 2 1 <| el H fun t615 h616 H => cx 2 [0,1] cal25 (view_New.c h616) nofun fun g617 _ => ?_
 refine as0 rfl rfl <| .fin <| WP.seq <| WP.seq <| rg 2 0 <| mv0 rfl rfl <| Dv.peq0 VView.nn rfl trivial rfl rfl Tryz.underlying25 (mem_at 0 rfl) <| .fin <| WP.cond rfl nofun (fun _ => ?_)
 refine WP.skip <| WP.seqr H id (fun p619 : Int × Bool × VView => [(0, sl GMade.K a0), (1, sl GMade.K a1), (4, eq (.pointer none)), (5, eq (.pointer (some ⟨b611, 0, none⟩))), (6, eq g614.1), (7, eq g617.1), (8, vI p619.1), (14, vB false), (19, vB p619.2.1)]) (fun p619 : Int × Bool × VView => [blk b611 28 [eq (.slice none 0 0)], VView.O g617 p619.2.2, own Event.K g614.1 t612] ++ F) (fun p619 H => ?_) (fun H => ?_)
 ·
  refine WP.seq <| rg 5 16 <| mv0 rfl rfl <| mv0 rfl rfl <| Dv.gh (gh_frz (E' := [(0, sl GMade.K a0), (1, sl GMade.K a1), (4, eq (.pointer none)), (5, eq (.pointer (some ⟨b611, 0, none⟩))), (6, sl Event.K t612), (7, eq g617.1), (8, vI p619.1), (14, vB false), (19, vB p619.2.1), (30, eq g617.1), (31, sl Event.K t612)]) (l' := [blk b611 28 [eq (.slice none 0 0)], VView.O g617 p619.2.2] ++ F) 2 rfl (cve_cons rfl cv_id (cve_cons rfl cv_id (cve_cons rfl cv_id (cve_cons rfl cv_id (cve_cons rfl cv_eq (cve_cons rfl cv_id (cve_cons rfl cv_id (cve_cons rfl cv_id (cve_cons rfl cv_id (cve_cons rfl cv_id (cve_cons rfl cv_eq cve_nil))))))))))) (all2_app (.cons cva_id (.cons cva_id .nil)) fun _ => cva_id)) (fun _ _ => ?_)
  refine el H fun t620 h621 H => cl rfl cal48 rfl (concourseref10_Build.c h621) <| as0 rfl rfl <| sx 0 rfl trivial rfl rfl cA sz28 rfl rfl rfl nofun ?_
  refine .fin ?_
  obtain rfl := Gets.out H
  exact rt i2 rfl g617 2 [0,1] 1 (.cons (res_tmp rfl) (.cons (res_cells rfl Tryz.underlying28 rfl c28 (mem_at 0 rfl) rfl) .nil))
 refine WP.seq <| rg 1 0 <| as0 rfl rfl <| .fin <| WP.block <| wg (sg 3 [2,0,1] 0) fun _ _ => ?_
 refine lp (fun j_ (p631 : Int × VView) => concourselaw10_build.l0 k t612 j_ p631.1 p631.2) (0, t615) H (fun p631 => [(0, sl GMade.K a0), (1, sl GMade.K a1), (4, eq (.pointer none)), (5, eq (.pointer (some ⟨b611, 0, none⟩))), (6, eq g614.1), (7, eq g617.1), (8, vI p631.1), (14, vB false)]) (fun p631 => [blk b611 28 [eq (.slice none 0 0)], VView.O g617 p631.2, own Event.K g614.1 t612] ++ F) ?_
 rintro j_ ⟨x622, x623⟩ H
 rcases j_ with _ | j630
 ·
  exact (Gets.no H).elim
 replace H : Gets (concourselaw10_build.l0 k t612 (j630 + 1) x622 x623) _ := H
 rw [concourselaw10_build.l0] at H
 refine WP.seq <| WP.seq <| rg 4 0 <| mv0 rfl rfl <| mv0 rfl rfl <| Dv.lenw rfl trivial rfl (mem_at 2 rfl) Tryz.underlying23 <| bn0 rfl rfl rfl run_lt <| .fin <| cd H rfl (fun _ H => ?_) (fun _ H => ?_)
 rotate_left
 ·
  refine WP.exit ?_
  replace H := Gets.out H
  exact jn (x622, decide (x622 < (t612.length : Int)), x623) H
 refine WP.skip <| WP.seq <| WP.block <| WP.seq <| rg 7 32 <| mv0 rfl rfl <| mv0 rfl rfl <| mv0 rfl rfl <| gr H fun g625 H => ?_
 have h626 : x622.toNat < t612.length := idx_lt g625
 refine Dv.ixw rfl trivial rfl (mem_at 2 rfl) rfl Tryz.underlying23 Tryz.underlying33 c33 g625.1 g625.2 <| Dv.ldws (j := x622.toNat) (f := 0) rfl trivial rfl (mem_at 2 rfl) h626 Tryz.underlying33 rfl c33 (Nat.le_of_ble_eq_true rfl) <| el H fun t627 h628 H => cx 3 [1,0,2] cal13 (view_View_Add.c h628 (p0_ := g617)) nofun fun _ _ => ?_
 refine bn0 rfl rfl rfl run_ne <| .fin <| cd H rfl (fun _ H => ?_) (fun _ H => ?_)
 rotate_left
 ·
  refine WP.skip <| rg 3 0 <| mv0 rfl rfl <| bn0 rfl rfl rfl run_add <| as0 rfl rfl <| .fin <| ng (sg 3 [1,0,2] 0) fun _ _ => ?_
  exact bk j630 (w64 (x622 + 1), t627.2) H
 refine WP.seq <| rg 3 4 <| Dv.bld (css := []) rfl trivial Tryz.underlying28 pl28 z28 rfl trivial rfl rfl <| as0 rfl rfl <| sx 1 rfl trivial rfl rfl cA sz28 rfl rfl rfl nofun ?_
 refine .fin <| wg (st_nilP (O := VView.O)) fun _ _ => ?_
 replace H := Gets.outr H
 obtain rfl := Gets.out H
 exact rt i2 rfl nilP 4 [1,2,3,0] 3 (.cons (res_tmp rfl) (.cons (res_wk (res_cells rfl Tryz.underlying28 rfl c28 (mem_at 2 rfl) rfl) (wk_agg (.cons wk_nil .nil))) .nil))
theorem concourseref01_Few.c {a0 : ByteArray} {a1 : Int} {r : ByteArray} (h : concourseref01_Few.f a0 a1 = some r) : Pt Tryz.prog 27 [vS a0, vI a1] (vS r) := by
 unfold concourseref01_Few.f at h
 refine (Tr.body Tryz.func27 (c := _) rfl Tryz.ntmps27 (Nat.le_of_ble_eq_true rfl) fun R0 F => ?_).pt
 replace h := Gets.of h
 have H := h
 clear h
 refine WP.seq <| rg 1 0 <| as0 rfl rfl <| .fin <| WP.seq <| WP.seq <| rg 4 0 <| mv0 rfl rfl <| Dv.lens rfl trivial rfl Tryz.underlying9 <| mv0 rfl rfl <| bn0 rfl rfl rfl run_gt <| .fin <| cd H rfl (fun _ H => ?_) (fun _ H => ?_)
 rotate_left
 ·
  refine WP.skip <| WP.seq <| rg 2 0 <| mv0 rfl rfl <| as0 rfl rfl <| .fin ?_
  obtain rfl := Gets.out H
  exact rt i2 rfl () 0 [] 0 (.cons (res_tmp rfl) .nil)
 refine WP.seq <| rg 4 0 <| mv0 rfl rfl <| mv0 rfl rfl <| gr H fun g633 H => Dv.sss rfl trivial rfl Tryz.underlying9 bdE_none (bdE_some rfl g633.1) g633.2.1 g633.2.2 <| as0 rfl rfl <| .fin ?_
 obtain rfl := Gets.out H
 exact rt i2 rfl () 0 [] 0 (.cons (res_tmp rfl) .nil)
theorem concourseref07_Few.c {k : Nat} {a0 : Event} {r : Event} (h : concourseref07_Few.f k a0 = some r) : Pt Tryz.prog 50 [agg (Event.enc a0)] (agg (Event.enc r)) := by
 unfold concourseref07_Few.f at h
 refine (Tr.body Tryz.func50 (c := _) rfl Tryz.ntmps50 (Nat.le_of_ble_eq_true rfl) fun R0 F => ?_).pt
 replace h := Gets.of h
 have H := h
 clear h
 refine WP.seq <| rg 2 3 <| Dv.box rfl trivial rfl cA nofun fun b634 => al rfl trivial zc33 nofun fun b635 => .fin <| WP.seq <| rg 5 16 <| fb rfl trivial rfl fa33_0 <| ld 1 rfl trivial rfl sc9 rfl rfl <| el H fun t636 h637 H => cl rfl cal27 rfl (concourseref01_Few.c h637) <| fb rfl trivial rfl fa33_0 <| sx 1 rfl trivial rfl rfl cE sz9 rfl rfl rfl nofun ?_
 refine .fin <| WP.seq <| rg 5 16 <| fb rfl trivial rfl fa33_1 <| ld 1 rfl trivial rfl sc9 rfl rfl <| el H fun t638 h639 H => cl rfl cal27 rfl (concourseref01_Few.c h639) <| fb rfl trivial rfl fa33_1 <| sx 1 rfl trivial rfl rfl cE sz9 rfl rfl rfl nofun ?_
 refine .fin <| WP.seq <| rg 5 16 <| fb rfl trivial rfl fa33_4 <| ld 1 rfl trivial rfl sc9 rfl rfl <| el H fun t640 h641 H => cl rfl cal27 rfl (concourseref01_Few.c h641) <| fb rfl trivial rfl fa33_4 <| sx 1 rfl trivial rfl rfl cE sz9 rfl rfl rfl nofun ?_
 refine .fin <| WP.seq <| rg 5 16 <| fb rfl trivial rfl fa33_3 <| ld 1 rfl trivial rfl sc9 rfl rfl <| el H fun t642 h643 H => cl rfl cal27 rfl (concourseref01_Few.c h643) <| fb rfl trivial rfl fa33_3 <| sx 1 rfl trivial rfl rfl cE sz9 rfl rfl rfl nofun ?_
 refine .fin <| WP.seq <| rg 1 0 <| as0 rfl rfl <| .fin <| WP.seqn H (fun q659 : (Int × Bool × (List ByteArray)) × OV => q659.1) (fun q659 : (Int × Bool × (List ByteArray)) × OV => [(0, agg (Event.enc a0)), (1, eq (.pointer (some ⟨b634, 0, none⟩))), (2, eq (.pointer (some ⟨b635, 0, none⟩))), (3, eq q659.2.1), (4, vI q659.1.1), (29, vB q659.1.2.1)]) (fun q659 : (Int × Bool × (List ByteArray)) × OV => [blk b635 33 [vS (⟨#[]⟩ : ByteArray), vS (⟨#[]⟩ : ByteArray), eq (.slice none 0 0), vS (⟨#[]⟩ : ByteArray), vS (⟨#[]⟩ : ByteArray), vI 0], blk b634 33 [vS t636, vS t638, sl strK a0.fParents, vS t642, vS t640, vI a0.fDoes], own strK q659.2.1 q659.1.2.2] ++ F) (fun q659 H => ?_) (fun H => ?_)
 ·
  obtain ⟨p644, v645⟩ := q659
  refine WP.seq <| rg 3 4 <| mv0 rfl rfl <| fb rfl trivial rfl fa33_2 <| sx 1 rfl trivial rfl rfl (cells_one one_ov) sz31 rfl rfl rfl nofun ?_
  refine .fin <| WP.seq <| rg 2 2 <| lds 1 rfl trivial rfl sg33 rfl rfl <| sx 0 rfl trivial rfl rfl cA sz33 rfl rfl rfl nofun ?_
  refine .fin <| WP.gh (gh_frz (E' := [(2, eq (.pointer (some ⟨b635, 0, none⟩)))]) (l' := [blk b635 33 [vS t636, vS t638, sl strK p644.2.2, vS t642, vS t640, vI a0.fDoes], blk b634 33 [vS t636, vS t638, sl strK p644.2.2, vS t642, vS t640, vI a0.fDoes]] ++ F) 2 rfl (cve_cons rfl cv_id cve_nil) (all2_app (.cons (cva_blk (.cons cv_id (.cons cv_id (.cons cv_eq (.cons cv_id (.cons cv_id (.cons cv_id .nil))))))) (.cons (cva_blk (.cons cv_id (.cons cv_id (.cons cv_eq (.cons cv_id (.cons cv_id (.cons cv_id .nil))))))) .nil)) fun _ => cva_id)) (fun _ _ => ?_)
  obtain rfl := Gets.out H
  exact rt i2 rfl () 2 [0,1] 2 (.cons (res_cells rfl Tryz.underlying33 rfl c33 (mem_at 0 rfl) rfl) .nil)
 refine WP.seq <| rg 1 0 <| as0 rfl rfl <| .fin <| WP.block <| wg (st_nil strK none) fun _ _ => ?_
 refine wg (sg 3 [1,2,0] 0) fun _ _ => ?_
 refine lp (fun j_ (p658 : Int × (List ByteArray) × OV) => concourseref07_Few.l0 k a0 j_ p658.1 p658.2.1) (0, ([] : List ByteArray), nilV) H (fun p658 => [(0, agg (Event.enc a0)), (1, eq (.pointer (some ⟨b634, 0, none⟩))), (2, eq (.pointer (some ⟨b635, 0, none⟩))), (3, eq p658.2.2.1), (4, vI p658.1)]) (fun p658 => [blk b635 33 [vS (⟨#[]⟩ : ByteArray), vS (⟨#[]⟩ : ByteArray), eq (.slice none 0 0), vS (⟨#[]⟩ : ByteArray), vS (⟨#[]⟩ : ByteArray), vI 0], blk b634 33 [vS t636, vS t638, sl strK a0.fParents, vS t642, vS t640, vI a0.fDoes], own strK p658.2.2.1 p658.2.1] ++ F) ?_
 rintro j_ ⟨x646, x647, v648⟩ H
 rcases j_ with _ | j657
 ·
  exact (Gets.no H).elim
 replace H : Gets (concourseref07_Few.l0 k a0 (j657 + 1) x646 x647) _ := H
 rw [concourseref07_Few.l0] at H
 refine WP.seq <| WP.seq <| rg 9 0 <| mv0 rfl rfl <| fb rfl trivial rfl fa33_2 <| ld 1 rfl trivial rfl sc31 rfl rfl <| Dv.lenl rfl trivial rfl Tryz.underlying31 <| bn0 rfl rfl rfl run_lt <| mv0 rfl rfl ?_
 cases c649 : decide (x646 < (a0.fParents.length : Int))
 ·
  replace H := Gets.cf H c649
  refine sk rfl rfl <| sk rfl rfl <| pf0 rfl rfl rfl <| .fin <| WP.cond rfl nofun (fun _ => ?_)
  refine WP.exit ?_
  replace H := Gets.out H
  exact jn ((x646, false, x647), v648) H
 replace H := Gets.ct H c649
 refine mvg rfl rfl rfl <| bng rfl rfl rfl rfl run_lt <| pt0 rfl rfl rfl <| .fin <| cd H rfl (fun _ H => ?_) (fun _ H => ?_)
 rotate_left
 ·
  refine WP.exit ?_
  replace H := Gets.out H
  exact jn ((x646, decide (x646 < 6), x647), v648) H
 refine WP.skip <| WP.seq <| WP.block <| rg 10 256 <| mv0 rfl rfl <| fb rfl trivial rfl fa33_2 <| ld 1 rfl trivial rfl sc31 rfl rfl <| mv0 rfl rfl <| gr H fun g651 H => Dv.ixr rfl trivial rfl rfl Tryz.underlying31 Tryz.underlying9 c9 g651.1 g651.2 <| ldR rfl trivial rfl sc9 rfl <| el H fun t652 h653 H => cl rfl cal27 rfl (concourseref01_Few.c h653) <| Dv.lit strK ([t652] : List ByteArray) (css := [[vS t652]]) rfl trivial Tryz.underlying31 Tryz.underlying9 c9 z9 rfl (by decide) (by decide) rfl ⟨(cells_one (one_eq rfl)), trivial⟩ rfl rfl rfl <| gr H fun g654 H => ap strK 2 ([t652] : List ByteArray) src_sl Tryz.underlying31 (.inr ⟨_, Tryz.underlying31⟩) inf9 g654 nofun fun v655 => ?_
 exact as0 rfl rfl <| .fin <| rg 3 0 <| mv0 rfl rfl <| bn0 rfl rfl rfl run_add <| as0 rfl rfl <| .fin <| bk j657 (w64 (x646 + 1), x647 ++ ([t652] : List ByteArray), v655) H
theorem concourseref07_Odd.c {k : Nat} {a0 : RDag} {a1 : Int} {a2 : Int} {a3 : Event} {r : Event} (h : concourseref07_Odd.f k a0 a1 a2 a3 = some r) : Pt Tryz.prog 9 [agg (RDag.enc a0), vI a1, vI a2, agg (Event.enc a3)] (agg (Event.enc r)) := by
 unfold concourseref07_Odd.f at h
 refine (Tr.body Tryz.func9 (c := _) rfl Tryz.ntmps9 (Nat.le_of_ble_eq_true rfl) fun R0 F => ?_).pt
 replace h := Gets.of h
 have H := h
 clear h
 refine WP.seq <| rg 3 7 <| Dv.box rfl trivial rfl cA nofun fun b660 => Dv.box rfl trivial rfl cA nofun fun b661 => al rfl trivial zc33 nofun fun b662 => .fin <| WP.seq <| rg 5 24 <| fb rfl trivial rfl fa36_0 <| ld 2 rfl trivial rfl sc9 rfl rfl <| Dv.bld (css := [[vS (⟨#[36, 120]⟩ : ByteArray)], [vS a0.fRoom], [vS (⟨#[64, 97, 58, 115, 49]⟩ : ByteArray)]]) rfl trivial Tryz.underlying33 pl33 z33 rfl ⟨(cells_one (one_eq rfl)), ⟨(cells_one (one_eq rfl)), ⟨(cells_one (one_eq rfl)), trivial⟩⟩⟩ rfl rfl <| al rfl trivial zc33 nofun fun b663 => sx 0 rfl trivial rfl rfl cA sz33 rfl rfl rfl nofun ?_
 refine .fin <| WP.seqn H id (fun p664 : ByteArray × ByteArray × (List ByteArray) × ByteArray × ByteArray × Int => [(0, agg (RDag.enc a0)), (1, vI a1), (2, vI a2), (3, agg (Event.enc a3)), (4, eq (.pointer (some ⟨b660, 0, none⟩))), (7, eq (.pointer (some ⟨b661, 0, none⟩))), (8, eq (.pointer (some ⟨b662, 0, none⟩))), (9, eq (.pointer (some ⟨b663, 0, none⟩))), (16, vB (decide (0 < (a0.fL.length : Int))))]) (fun p664 : ByteArray × ByteArray × (List ByteArray) × ByteArray × ByteArray × Int => [blk b663 33 [vS p664.1, vS p664.2.1, sl strK p664.2.2.1, vS p664.2.2.2.1, vS p664.2.2.2.2.1, vI p664.2.2.2.2.2], blk b662 33 [vS (⟨#[]⟩ : ByteArray), vS (⟨#[]⟩ : ByteArray), eq (.slice none 0 0), vS (⟨#[]⟩ : ByteArray), vS (⟨#[]⟩ : ByteArray), vI 0], blk b661 33 (Event.enc a3), blk b660 36 (RDag.enc a0)] ++ F) (fun p664 H => ?_) (fun H => ?_)
 rotate_left
 ·
  refine WP.seq <| rg 4 0 <| fb rfl trivial rfl fa36_1 <| ld 3 rfl trivial rfl sc23 rfl rfl <| Dv.lenl rfl trivial rfl Tryz.underlying23 <| bn0 rfl rfl rfl run_gt <| .fin <| cd H rfl (fun _ H => ?_) (fun _ H => ?_)
  ·
   refine dg Tryz.checked.mixed 10 512 <| fb rfl trivial rfl fa36_1 <| ld 3 rfl trivial rfl sc23 rfl rfl <| mv0 rfl rfl <| fb rfl trivial rfl fa36_1 <| ld 3 rfl trivial rfl sc23 rfl rfl <| Dv.lenl rfl trivial rfl Tryz.underlying23 <| el H fun t681 h682 H => cl rfl cal49 rfl (concourseref01_Around.c h682) <| gr H fun g683 H => Dv.ixr rfl trivial rfl rfl Tryz.underlying23 Tryz.underlying33 c33 g683.1 g683.2 <| ldsR rfl trivial rfl sg33 rfl <| sx 0 rfl trivial rfl rfl cA sz33 rfl rfl rfl pB ?_
   refine .fin ?_
   replace H := Gets.out H
   exact jn ((Event.K.at a0.fL t681).fID, (Event.K.at a0.fL t681).fRoom, (Event.K.at a0.fL t681).fParents, (Event.K.at a0.fL t681).fThread, (Event.K.at a0.fL t681).fUser, (Event.K.at a0.fL t681).fDoes) H
  refine WP.skip ?_
  replace H := Gets.out H
  refine Dn.gh (gh_wk (E' := [(0, agg (RDag.enc a0)), (1, vI a1), (2, vI a2), (3, agg (Event.enc a3)), (4, eq (.pointer (some ⟨b660, 0, none⟩))), (7, eq (.pointer (some ⟨b661, 0, none⟩))), (8, eq (.pointer (some ⟨b662, 0, none⟩))), (9, eq (.pointer (some ⟨b663, 0, none⟩))), (16, vB (decide (0 < (a0.fL.length : Int))))]) (l' := [blk b663 33 [vS (⟨#[36, 120]⟩ : ByteArray), vS a0.fRoom, sl strK ([] : List ByteArray), vS (⟨#[]⟩ : ByteArray), vS (⟨#[64, 97, 58, 115, 49]⟩ : ByteArray), vI 0], blk b662 33 [vS (⟨#[]⟩ : ByteArray), vS (⟨#[]⟩ : ByteArray), eq (.slice none 0 0), vS (⟨#[]⟩ : ByteArray), vS (⟨#[]⟩ : ByteArray), vI 0], blk b661 33 (Event.enc a3), blk b660 36 (RDag.enc a0)] ++ F) (wke_cons rfl wk_id (wke_cons rfl wk_id (wke_cons rfl wk_id (wke_cons rfl wk_id (wke_cons rfl wk_id (wke_cons rfl wk_id (wke_cons rfl wk_id (wke_cons rfl wk_id (wke_cons rfl wk_id wke_nil))))))))) (all2_app (.cons (wka_blk (.cons wk_id (.cons wk_id (.cons wk_nil (.cons wk_id (.cons wk_id (.cons wk_id .nil))))))) (.cons wka_id (.cons wka_id (.cons wka_id .nil)))) fun _ => wka_id)) (fun _ _ => ?_)
  exact jn ((⟨#[36, 120]⟩ : ByteArray), a0.fRoom, ([] : List ByteArray), (⟨#[]⟩ : ByteArray), (⟨#[64, 97, 58, 115, 49]⟩ : ByteArray), 0) H
 refine WP.seq <| rg 3 4 <| lds 2 rfl trivial rfl sg33 rfl rfl <| el H fun t665 h666 H => cl rfl cal50 rfl (concourseref07_Few.c h666) <| sx 2 rfl trivial rfl rfl cA sz33 rfl rfl rfl nofun ?_
 refine .fin <| WP.seq <| WP.seq <| rg 2 0 <| mv0 rfl rfl <| el H fun t667 h668 H => cl rfl cal49 rfl (concourseref01_Around.c h668) <| .fin <| WP.block <| WP.seq <| rg 2 0 <| bn0 rfl rfl rfl run_eq <| as0 rfl rfl <| .fin <| cd H rfl (fun _ H => ?_) (fun _ H => ?_)
 ·
  refine rg 4 8 <| fb rfl trivial rfl fa33_0 <| ld 2 rfl trivial rfl sc9 rfl rfl <| fb rfl trivial rfl fa33_0 <| sx 0 rfl trivial rfl rfl cE sz9 rfl rfl rfl nofun ?_
  refine .fin <| WP.seq <| rg 2 2 <| lds 0 rfl trivial rfl sg33 rfl rfl <| sx 1 rfl trivial rfl rfl cA sz33 rfl rfl rfl nofun ?_
  refine .fin ?_
  obtain rfl := Gets.out H
  exact rt i2 rfl () 4 [0,1,2,3] 4 (.cons (res_cells rfl Tryz.underlying33 rfl c33 (mem_at 1 rfl) rfl) .nil)
 refine WP.seq <| rg 2 0 <| bn0 rfl rfl rfl run_eq <| as0 rfl rfl <| .fin <| cd H rfl (fun _ H => ?_) (fun _ H => ?_)
 ·
  refine rg 4 8 <| fb rfl trivial rfl fa33_1 <| ld 2 rfl trivial rfl sc9 rfl rfl <| fb rfl trivial rfl fa33_1 <| sx 0 rfl trivial rfl rfl cE sz9 rfl rfl rfl nofun ?_
  refine .fin <| WP.seq <| rg 2 2 <| lds 0 rfl trivial rfl sg33 rfl rfl <| sx 1 rfl trivial rfl rfl cA sz33 rfl rfl rfl nofun ?_
  refine .fin ?_
  obtain rfl := Gets.out H
  exact rt i2 rfl () 4 [0,1,2,3] 4 (.cons (res_cells rfl Tryz.underlying33 rfl c33 (mem_at 1 rfl) rfl) .nil)
 refine WP.seq <| rg 2 0 <| bn0 rfl rfl rfl run_eq <| as0 rfl rfl <| .fin <| cd H rfl (fun _ H => ?_) (fun _ H => ?_)
 ·
  refine rg 4 8 <| fb rfl trivial rfl fa33_4 <| ld 2 rfl trivial rfl sc9 rfl rfl <| fb rfl trivial rfl fa33_4 <| sx 0 rfl trivial rfl rfl cE sz9 rfl rfl rfl nofun ?_
  refine .fin <| WP.seq <| rg 2 2 <| lds 0 rfl trivial rfl sg33 rfl rfl <| sx 1 rfl trivial rfl rfl cA sz33 rfl rfl rfl nofun ?_
  refine .fin ?_
  obtain rfl := Gets.out H
  exact rt i2 rfl () 4 [0,1,2,3] 4 (.cons (res_cells rfl Tryz.underlying33 rfl c33 (mem_at 1 rfl) rfl) .nil)
 refine WP.seq <| rg 2 0 <| bn0 rfl rfl rfl run_eq <| as0 rfl rfl <| .fin <| cd H rfl (fun _ H => ?_) (fun _ H => ?_)
 ·
  refine rg 4 8 <| fb rfl trivial rfl fa33_3 <| ld 2 rfl trivial rfl sc9 rfl rfl <| fb rfl trivial rfl fa33_3 <| sx 0 rfl trivial rfl rfl cE sz9 rfl rfl rfl nofun ?_
  refine .fin <| WP.seq <| rg 2 2 <| lds 0 rfl trivial rfl sg33 rfl rfl <| sx 1 rfl trivial rfl rfl cA sz33 rfl rfl rfl nofun ?_
  refine .fin ?_
  obtain rfl := Gets.out H
  exact rt i2 rfl () 4 [0,1,2,3] 4 (.cons (res_cells rfl Tryz.underlying33 rfl c33 (mem_at 1 rfl) rfl) .nil)
 refine WP.seq <| rg 2 0 <| bn0 rfl rfl rfl run_eq <| as0 rfl rfl <| .fin <| cd H rfl (fun _ H => ?_) (fun _ H => ?_)
 ·
  refine rg 4 8 <| fb rfl trivial rfl fa33_5 <| ld 2 rfl trivial rfl sc3 rfl rfl <| fb rfl trivial rfl fa33_5 <| sx 0 rfl trivial rfl rfl cE sz3 rfl rfl rfl nofun ?_
  refine .fin <| WP.seq <| rg 2 2 <| lds 0 rfl trivial rfl sg33 rfl rfl <| sx 1 rfl trivial rfl rfl cA sz33 rfl rfl rfl nofun ?_
  refine .fin ?_
  obtain rfl := Gets.out H
  exact rt i2 rfl () 4 [0,1,2,3] 4 (.cons (res_cells rfl Tryz.underlying33 rfl c33 (mem_at 1 rfl) rfl) .nil)
 refine WP.seq <| rg 2 0 <| bn0 rfl rfl rfl run_eq <| as0 rfl rfl <| .fin <| cd H rfl (fun _ H => ?_) (fun _ H => ?_)
 ·
  refine rg 4 8 <| fb rfl trivial rfl fa33_2 <| ld 2 rfl trivial rfl sc31 rfl rfl <| fb rfl trivial rfl fa33_2 <| sx 0 rfl trivial rfl rfl (cells_one one_sl) sz31 rfl rfl rfl nofun ?_
  refine .fin <| WP.seq <| rg 2 2 <| lds 0 rfl trivial rfl sg33 rfl rfl <| sx 1 rfl trivial rfl rfl cA sz33 rfl rfl rfl nofun ?_
  refine .fin ?_
  obtain rfl := Gets.out H
  exact rt i2 rfl () 4 [0,1,2,3] 4 (.cons (res_cells rfl Tryz.underlying33 rfl c33 (mem_at 1 rfl) rfl) .nil)
 refine WP.seq <| rg 2 0 <| bn0 rfl rfl rfl run_eq <| as0 rfl rfl <| .fin <| cd H rfl (fun _ H => ?_) (fun _ H => ?_)
 ·
  refine WP.seq <| rg 2 2 <| fb rfl trivial rfl fa33_0 <| sx 0 rfl trivial rfl rfl cE sz9 rfl rfl rfl nofun ?_
  refine .fin <| WP.seq <| rg 5 16 <| fb rfl trivial rfl fa33_5 <| ld 2 rfl trivial rfl sc3 rfl rfl <| el H fun t676 h677 H => cl rfl cal29 rfl (concourseref01_EventOf.c h677) <| fb rfl trivial rfl fa33_3 <| sx 0 rfl trivial rfl rfl cE sz9 rfl rfl rfl nofun ?_
  refine .fin <| rg 2 2 <| fb rfl trivial rfl fa33_5 <| sx 0 rfl trivial rfl rfl cE sz3 rfl rfl rfl nofun ?_
  refine .fin <| WP.seq <| rg 2 2 <| lds 0 rfl trivial rfl sg33 rfl rfl <| sx 1 rfl trivial rfl rfl cA sz33 rfl rfl rfl nofun ?_
  refine .fin ?_
  obtain rfl := Gets.out H
  exact rt i2 rfl () 4 [0,1,2,3] 4 (.cons (res_cells rfl Tryz.underlying33 rfl c33 (mem_at 1 rfl) rfl) .nil)
 refine WP.seq <| rg 2 2 <| fb rfl trivial rfl fa33_0 <| sx 0 rfl trivial rfl rfl cE sz9 rfl rfl rfl nofun ?_
 refine .fin <| rg 6 32 <| fb rfl trivial rfl fa33_5 <| ld 2 rfl trivial rfl sc3 rfl rfl <| el H fun t678 h679 H => cl rfl cal29 rfl (concourseref01_EventOf.c h679) <| Dv.lit strK ([t678] : List ByteArray) (css := [[vS t678]]) rfl trivial Tryz.underlying31 Tryz.underlying9 c9 z9 rfl (by decide) (by decide) rfl ⟨(cells_one (one_eq rfl)), trivial⟩ rfl rfl rfl <| fb rfl trivial rfl fa33_2 <| sx 0 rfl trivial rfl rfl (cells_one one_sl) sz31 rfl rfl rfl nofun ?_
 refine .fin <| WP.seq <| rg 2 2 <| lds 0 rfl trivial rfl sg33 rfl rfl <| sx 1 rfl trivial rfl rfl cA sz33 rfl rfl rfl nofun ?_
 refine .fin ?_
 obtain rfl := Gets.out H
 exact rt i2 rfl () 4 [0,1,2,3] 4 (.cons (res_cells rfl Tryz.underlying33 rfl c33 (mem_at 1 rfl) rfl) .nil)
theorem concourseref01_SameTexts.c {k : Nat} {a0 : List ByteArray} {a1 : List ByteArray} {r : Bool} (h : concourseref01_SameTexts.f k a0 a1 = some r) : Pt Tryz.prog 17 [sl strK a0, sl strK a1] (vB r) := by
 unfold concourseref01_SameTexts.f at h
 refine (Tr.body Tryz.func17 (c := _) rfl Tryz.ntmps17 (Nat.le_of_ble_eq_true rfl) fun R0 F => ?_).pt
 replace h := Gets.of h
 have H := h
 clear h
 refine WP.seq <| rg 1 0 <| as0 rfl rfl <| .fin <| WP.seq <| WP.seq <| rg 5 0 <| mv0 rfl rfl <| Dv.lenl rfl trivial rfl Tryz.underlying31 <| mv0 rfl rfl <| Dv.lenl rfl trivial rfl Tryz.underlying31 <| bn0 rfl rfl rfl run_ne <| .fin <| cd H rfl (fun _ H => ?_) (fun _ H => ?_)
 ·
  refine WP.seq <| rg 1 0 <| as0 rfl rfl <| .fin ?_
  obtain rfl := Gets.out H
  exact rt i2 rfl () 0 [] 0 (.cons (res_tmp rfl) .nil)
 refine WP.skip <| WP.seqr H id (fun p685 : Int × Bool => [(0, sl strK a0), (1, sl strK a1), (4, vB false), (5, vI p685.1), (10, vB ((a0.length : Int) != (a1.length : Int))), (14, vB p685.2)]) (fun p685 : Int × Bool => F) (fun p685 H => ?_) (fun H => ?_)
 ·
  refine WP.seq <| rg 1 0 <| as0 rfl rfl <| .fin ?_
  obtain rfl := Gets.out H
  exact rt i2 rfl () 0 [] 0 (.cons (res_tmp rfl) .nil)
 refine WP.seq <| rg 1 0 <| as0 rfl rfl <| .fin <| WP.block <| wg (sg 0 [] 0) fun _ _ => ?_
 refine lp (fun j_ (p692 : Int) => concourseref01_SameTexts.l0 k a0 a1 j_ p692) 0 H (fun p692 => [(0, sl strK a0), (1, sl strK a1), (4, vB false), (5, vI p692), (10, vB ((a0.length : Int) != (a1.length : Int)))]) (fun p692 => F) ?_
 rintro j_ x686 H
 rcases j_ with _ | j691
 ·
  exact (Gets.no H).elim
 replace H : Gets (concourseref01_SameTexts.l0 k a0 a1 (j691 + 1) x686) _ := H
 rw [concourseref01_SameTexts.l0] at H
 refine WP.seq <| WP.seq <| rg 4 0 <| mv0 rfl rfl <| mv0 rfl rfl <| Dv.lenl rfl trivial rfl Tryz.underlying31 <| bn0 rfl rfl rfl run_lt <| .fin <| cd H rfl (fun _ H => ?_) (fun _ H => ?_)
 rotate_left
 ·
  refine WP.exit ?_
  replace H := Gets.out H
  exact jn (x686, decide (x686 < (a0.length : Int))) H
 refine WP.skip <| WP.seq <| WP.block <| WP.seq <| dg Tryz.checked.mixed 9 0 <| mv0 rfl rfl <| mv0 rfl rfl <| gr H fun g688 H => Dv.ixr rfl trivial rfl rfl Tryz.underlying31 Tryz.underlying9 c9 g688.1 g688.2 <| ldR rfl trivial rfl sc9 rfl <| mv0 rfl rfl <| mv0 rfl rfl <| gr H fun g689 H => Dv.ixr rfl trivial rfl rfl Tryz.underlying31 Tryz.underlying9 c9 g689.1 g689.2 <| ldR rfl trivial rfl sc9 rfl <| bn0 rfl rfl rfl run_sne <| .fin <| cd H rfl (fun _ H => ?_) (fun _ H => ?_)
 rotate_left
 ·
  exact WP.skip <| rg 3 0 <| mv0 rfl rfl <| bn0 rfl rfl rfl run_add <| as0 rfl rfl <| .fin <| bk j691 (w64 (x686 + 1)) H
 refine WP.seq <| rg 1 0 <| as0 rfl rfl <| .fin ?_
 replace H := Gets.outr H
 obtain rfl := Gets.out H
 exact rt i2 rfl () 0 [] 0 (.cons (res_tmp rfl) .nil)
theorem concourseref07_Same.c {k : Nat} {a0 : Event} {a1 : Event} {r : Bool} (h : concourseref07_Same.f k a0 a1 = some r) : Pt Tryz.prog 54 [agg (Event.enc a0), agg (Event.enc a1)] (vB r) := by
 unfold concourseref07_Same.f at h
 refine (Tr.body Tryz.func54 (c := _) rfl Tryz.ntmps54 (Nat.le_of_ble_eq_true rfl) fun R0 F => ?_).pt
 replace h := Gets.of h
 have H := h
 clear h
 refine WP.seq <| rg 3 3 <| Dv.box rfl trivial rfl cA nofun fun b693 => Dv.box rfl trivial rfl cA nofun fun b694 => as0 rfl rfl <| .fin <| WP.seq <| rg 6 0 <| fb rfl trivial rfl fa33_2 <| ld 1 rfl trivial rfl sc31 rfl rfl <| fb rfl trivial rfl fa33_2 <| ld 0 rfl trivial rfl sc31 rfl rfl <| el H fun t695 h696 H => cl rfl cal17 rfl (concourseref01_SameTexts.c h696) <| as0 rfl rfl <| .fin <| WP.seq <| rg 37 0 <| mv0 rfl rfl <| mv0 rfl rfl ?_
 cases c697 : t695
 ·
  replace H := Gets.cf H c697
  refine sk rfl rfl <| sk rfl rfl <| sk rfl rfl <| sk rfl rfl <| sk rfl rfl <| pf0 rfl rfl rfl <| mv0 rfl rfl <| sk rfl rfl <| sk rfl rfl <| sk rfl rfl <| sk rfl rfl <| sk rfl rfl <| pf0 rfl rfl rfl <| mv0 rfl rfl <| sk rfl rfl <| sk rfl rfl <| sk rfl rfl <| sk rfl rfl <| sk rfl rfl <| pf0 rfl rfl rfl <| mv0 rfl rfl <| sk rfl rfl <| sk rfl rfl <| sk rfl rfl <| sk rfl rfl <| sk rfl rfl <| pf0 rfl rfl rfl <| mv0 rfl rfl <| sk rfl rfl <| sk rfl rfl <| sk rfl rfl <| sk rfl rfl <| sk rfl rfl <| pf0 rfl rfl rfl <| as0 rfl rfl <| .fin ?_
  obtain rfl := Gets.out H
  exact rt i2 rfl () 2 [0,1] 2 (.cons (res_tmp rfl) .nil)
 replace H := Gets.ct H c697
 refine fb rfl (gg rfl) rfl fa33_0 <| ld 1 rfl (gg rfl) rfl sc9 rfl rfl <| fb rfl (gg rfl) rfl fa33_0 <| ld 0 rfl (gg rfl) rfl sc9 rfl rfl <| bng rfl rfl rfl rfl run_seq <| pt0 rfl rfl rfl <| mv0 rfl rfl ?_
 cases c698 : decide (a0.fID = a1.fID)
 ·
  replace H := Gets.cf H c698
  refine sk rfl rfl <| sk rfl rfl <| sk rfl rfl <| sk rfl rfl <| sk rfl rfl <| pf0 rfl rfl rfl <| mv0 rfl rfl <| sk rfl rfl <| sk rfl rfl <| sk rfl rfl <| sk rfl rfl <| sk rfl rfl <| pf0 rfl rfl rfl <| mv0 rfl rfl <| sk rfl rfl <| sk rfl rfl <| sk rfl rfl <| sk rfl rfl <| sk rfl rfl <| pf0 rfl rfl rfl <| mv0 rfl rfl <| sk rfl rfl <| sk rfl rfl <| sk rfl rfl <| sk rfl rfl <| sk rfl rfl <| pf0 rfl rfl rfl <| as0 rfl rfl <| .fin ?_
  obtain rfl := Gets.out H
  exact rt i2 rfl () 2 [0,1] 2 (.cons (res_tmp rfl) .nil)
 replace H := Gets.ct H c698
 refine fb rfl (gg rfl) rfl fa33_1 <| ld 1 rfl (gg rfl) rfl sc9 rfl rfl <| fb rfl (gg rfl) rfl fa33_1 <| ld 0 rfl (gg rfl) rfl sc9 rfl rfl <| bng rfl rfl rfl rfl run_seq <| pt0 rfl rfl rfl <| mv0 rfl rfl ?_
 cases c699 : decide (a0.fRoom = a1.fRoom)
 ·
  replace H := Gets.cf H c699
  refine sk rfl rfl <| sk rfl rfl <| sk rfl rfl <| sk rfl rfl <| sk rfl rfl <| pf0 rfl rfl rfl <| mv0 rfl rfl <| sk rfl rfl <| sk rfl rfl <| sk rfl rfl <| sk rfl rfl <| sk rfl rfl <| pf0 rfl rfl rfl <| mv0 rfl rfl <| sk rfl rfl <| sk rfl rfl <| sk rfl rfl <| sk rfl rfl <| sk rfl rfl <| pf0 rfl rfl rfl <| as0 rfl rfl <| .fin ?_
  obtain rfl := Gets.out H
  exact rt i2 rfl () 2 [0,1] 2 (.cons (res_tmp rfl) .nil)
 replace H := Gets.ct H c699
 refine fb rfl (gg rfl) rfl fa33_3 <| ld 1 rfl (gg rfl) rfl sc9 rfl rfl <| fb rfl (gg rfl) rfl fa33_3 <| ld 0 rfl (gg rfl) rfl sc9 rfl rfl <| bng rfl rfl rfl rfl run_seq <| pt0 rfl rfl rfl <| mv0 rfl rfl ?_
 cases c700 : decide (a0.fThread = a1.fThread)
 ·
  replace H := Gets.cf H c700
  refine sk rfl rfl <| sk rfl rfl <| sk rfl rfl <| sk rfl rfl <| sk rfl rfl <| pf0 rfl rfl rfl <| mv0 rfl rfl <| sk rfl rfl <| sk rfl rfl <| sk rfl rfl <| sk rfl rfl <| sk rfl rfl <| pf0 rfl rfl rfl <| as0 rfl rfl <| .fin ?_
  obtain rfl := Gets.out H
  exact rt i2 rfl () 2 [0,1] 2 (.cons (res_tmp rfl) .nil)
 replace H := Gets.ct H c700
 refine fb rfl (gg rfl) rfl fa33_4 <| ld 1 rfl (gg rfl) rfl sc9 rfl rfl <| fb rfl (gg rfl) rfl fa33_4 <| ld 0 rfl (gg rfl) rfl sc9 rfl rfl <| bng rfl rfl rfl rfl run_seq <| pt0 rfl rfl rfl <| mv0 rfl rfl ?_
 cases c701 : decide (a0.fUser = a1.fUser)
 ·
  replace H := Gets.cf H c701
  refine sk rfl rfl <| sk rfl rfl <| sk rfl rfl <| sk rfl rfl <| sk rfl rfl <| pf0 rfl rfl rfl <| as0 rfl rfl <| .fin ?_
  obtain rfl := Gets.out H
  exact rt i2 rfl () 2 [0,1] 2 (.cons (res_tmp rfl) .nil)
 replace H := Gets.ct H c701
 refine fb rfl (gg rfl) rfl fa33_5 <| ld 1 rfl (gg rfl) rfl sc3 rfl rfl <| fb rfl (gg rfl) rfl fa33_5 <| ld 0 rfl (gg rfl) rfl sc3 rfl rfl <| bng rfl rfl rfl rfl run_eq <| pt0 rfl rfl rfl <| as0 rfl rfl <| .fin ?_
 obtain rfl := Gets.out H
 exact rt i2 rfl () 2 [0,1] 2 (.cons (res_tmp rfl) .nil)
theorem concourseref07_SameAll.c {k : Nat} {a0 : List Event} {a1 : List Event} {r : Bool} (h : concourseref07_SameAll.f k a0 a1 = some r) : Pt Tryz.prog 14 [sl Event.K a0, sl Event.K a1] (vB r) := by
 unfold concourseref07_SameAll.f at h
 refine (Tr.body Tryz.func14 (c := _) rfl Tryz.ntmps14 (Nat.le_of_ble_eq_true rfl) fun R0 F => ?_).pt
 replace h := Gets.of h
 have H := h
 clear h
 refine WP.seq <| rg 1 0 <| as0 rfl rfl <| .fin <| WP.seq <| WP.seq <| rg 5 0 <| mv0 rfl rfl <| Dv.lenl rfl trivial rfl Tryz.underlying23 <| mv0 rfl rfl <| Dv.lenl rfl trivial rfl Tryz.underlying23 <| bn0 rfl rfl rfl run_ne <| .fin <| cd H rfl (fun _ H => ?_) (fun _ H => ?_)
 ·
  refine WP.seq <| rg 1 0 <| as0 rfl rfl <| .fin ?_
  obtain rfl := Gets.out H
  exact rt i2 rfl () 0 [] 0 (.cons (res_tmp rfl) .nil)
 refine WP.skip <| WP.seqr H id (fun p703 : Int × Bool => [(0, sl Event.K a0), (1, sl Event.K a1), (4, vB false), (5, vI p703.1), (11, vB ((a0.length : Int) != (a1.length : Int))), (15, vB p703.2)]) (fun p703 : Int × Bool => F) (fun p703 H => ?_) (fun H => ?_)
 ·
  refine WP.seq <| rg 1 0 <| as0 rfl rfl <| .fin ?_
  obtain rfl := Gets.out H
  exact rt i2 rfl () 0 [] 0 (.cons (res_tmp rfl) .nil)
 refine WP.seq <| rg 1 0 <| as0 rfl rfl <| .fin <| WP.block <| wg (sg 0 [] 0) fun _ _ => ?_
 refine lp (fun j_ (p712 : Int) => concourseref07_SameAll.l0 k a0 a1 j_ p712) 0 H (fun p712 => [(0, sl Event.K a0), (1, sl Event.K a1), (4, vB false), (5, vI p712), (11, vB ((a0.length : Int) != (a1.length : Int)))]) (fun p712 => F) ?_
 rintro j_ x704 H
 rcases j_ with _ | j711
 ·
  exact (Gets.no H).elim
 replace H : Gets (concourseref07_SameAll.l0 k a0 a1 (j711 + 1) x704) _ := H
 rw [concourseref07_SameAll.l0] at H
 refine WP.seq <| WP.seq <| rg 4 0 <| mv0 rfl rfl <| mv0 rfl rfl <| Dv.lenl rfl trivial rfl Tryz.underlying23 <| bn0 rfl rfl rfl run_lt <| .fin <| cd H rfl (fun _ H => ?_) (fun _ H => ?_)
 rotate_left
 ·
  refine WP.exit ?_
  replace H := Gets.out H
  exact jn (x704, decide (x704 < (a0.length : Int))) H
 refine WP.skip <| WP.seq <| WP.block <| WP.seq <| dg Tryz.checked.mixed 10 0 <| mv0 rfl rfl <| mv0 rfl rfl <| gr H fun g706 H => Dv.ixr rfl trivial rfl rfl Tryz.underlying23 Tryz.underlying33 c33 g706.1 g706.2 <| ldsR rfl trivial rfl sg33 rfl <| mv0 rfl rfl <| mv0 rfl rfl <| gr H fun g707 H => Dv.ixr rfl trivial rfl rfl Tryz.underlying23 Tryz.underlying33 c33 g707.1 g707.2 <| ldsR rfl trivial rfl sg33 rfl <| el H fun t708 h709 H => cl rfl cal54 rfl (concourseref07_Same.c h709) <| as0 rfl rfl <| .fin <| WP.seq <| rg 2 0 <| mv0 rfl rfl <| un0 rfl rfl (run_not _) <| .fin <| cd H rfl (fun _ H => ?_) (fun _ H => ?_)
 rotate_left
 ·
  exact WP.skip <| rg 3 0 <| mv0 rfl rfl <| bn0 rfl rfl rfl run_add <| as0 rfl rfl <| .fin <| bk j711 (w64 (x704 + 1)) H
 refine WP.seq <| rg 1 0 <| as0 rfl rfl <| .fin ?_
 replace H := Gets.outr H
 obtain rfl := Gets.out H
 exact rt i2 rfl () 0 [] 0 (.cons (res_tmp rfl) .nil)
theorem cmp_Or_int.c {k : Nat} {a0 : List Int} {r : Int} (h : cmp_Or_int.f k a0 = some r) : Pt Tryz.prog 130 [sl (intK .i64) a0] (vI r) := by
 unfold cmp_Or_int.f at h
 refine (Tr.body Tryz.func130 (c := _) rfl Tryz.ntmps130 (Nat.le_of_ble_eq_true rfl) fun R0 F => ?_).pt
 replace h := Gets.of h
 have H := h
 clear h
 refine WP.seq <| rg 1 0 <| as0 rfl rfl <| .fin <| WP.seq <| rg 1 0 <| as0 rfl rfl <| .fin <| WP.seqr H id (fun p713 : Int × Bool => [(0, sl (intK .i64) a0), (2, vI 0), (3, vI 0), (6, sl (intK .i64) a0), (7, vI (a0.length : Int)), (8, vI p713.1), (9, vB p713.2)]) (fun p713 : Int × Bool => F) (fun p713 H => ?_) (fun H => ?_)
 ·
  refine WP.seq <| rg 2 0 <| mv0 rfl rfl <| as0 rfl rfl <| .fin ?_
  obtain rfl := Gets.out H
  exact rt i2 rfl () 0 [] 0 (.cons (res_tmp rfl) .nil)
 refine WP.seq <| rg 3 0 <| mv0 rfl rfl <| Dv.lenl rfl trivial rfl Tryz.underlying24 <| mv0 rfl rfl <| .fin <| WP.block <| wg (sg 0 [] 0) fun _ _ => ?_
 refine lp (fun j_ (p719 : Int) => cmp_Or_int.l0 k a0 j_ p719) 0 H (fun p719 => [(0, sl (intK .i64) a0), (2, vI 0), (3, vI 0), (6, sl (intK .i64) a0), (7, vI (a0.length : Int)), (8, vI p719)]) (fun p719 => F) ?_
 rintro j_ x714 H
 rcases j_ with _ | j718
 ·
  exact (Gets.no H).elim
 replace H : Gets (cmp_Or_int.l0 k a0 (j718 + 1) x714) _ := H
 rw [cmp_Or_int.l0] at H
 refine WP.seq <| rg 1 0 <| bn0 rfl rfl rfl run_lt <| .fin <| WP.seq <| cd H rfl (fun _ H => ?_) (fun _ H => ?_)
 rotate_left
 ·
  refine WP.exit ?_
  replace H := Gets.out H
  exact jn (x714, decide (x714 < (a0.length : Int))) H
 refine WP.skip <| WP.seq <| WP.block <| WP.seq <| rg 3 0 <| gr H fun g716 H => Dv.ixr rfl trivial rfl rfl Tryz.underlying24 Tryz.underlying3 c3 g716.1 g716.2 <| ldR rfl trivial rfl sc3 rfl <| as0 rfl rfl <| .fin <| WP.seq <| rg 3 0 <| mv0 rfl rfl <| mv0 rfl rfl <| bn0 rfl rfl rfl run_ne <| .fin <| cd H rfl (fun _ H => ?_) (fun _ H => ?_)
 rotate_left
 ·
  exact WP.skip <| rg 2 0 <| bn0 rfl rfl rfl run_add <| mv0 rfl rfl <| .fin <| bk j718 (w64 (x714 + 1)) H
 refine WP.seq <| rg 2 0 <| mv0 rfl rfl <| as0 rfl rfl <| .fin ?_
 replace H := Gets.outr H
 obtain rfl := Gets.out H
 exact rt i2 rfl () 0 [] 0 (.cons (res_tmp rfl) .nil)
theorem cmp_isNaN_int.c {a0 : Int} {r : Bool} (h : cmp_isNaN_int.f a0 = some r) : Pt Tryz.prog 151 [vI a0] (vB r) := by
 unfold cmp_isNaN_int.f at h
 refine (Tr.body Tryz.func151 (c := _) rfl Tryz.ntmps151 (Nat.le_of_ble_eq_true rfl) fun R0 F => ?_).pt
 replace h := Gets.of h
 have H := h
 clear h
 refine WP.seq <| rg 1 0 <| as0 rfl rfl <| .fin <| WP.seq <| rg 4 0 <| mv0 rfl rfl <| mv0 rfl rfl <| bn0 rfl rfl rfl run_ne <| as0 rfl rfl <| .fin ?_
 obtain rfl := Gets.out H
 exact rt i2 rfl () 0 [] 0 (.cons (res_tmp rfl) .nil)
theorem cmp_Compare_int.c {a0 : Int} {a1 : Int} {r : Int} (h : cmp_Compare_int.f a0 a1 = some r) : Pt Tryz.prog 131 [vI a0, vI a1] (vI r) := by
 unfold cmp_Compare_int.f at h
 refine (Tr.body Tryz.func131 (c := _) rfl Tryz.ntmps131 (Nat.le_of_ble_eq_true rfl) fun R0 F => ?_).pt
 replace h := Gets.of h
 have H := h
 clear h
 refine WP.seq <| rg 1 0 <| as0 rfl rfl <| .fin <| WP.seq <| rg 3 0 <| mv0 rfl rfl <| el H fun t720 h721 H => cl rfl cal151 rfl (cmp_isNaN_int.c h721) <| as0 rfl rfl <| .fin <| WP.seq <| rg 3 0 <| mv0 rfl rfl <| el H fun t722 h723 H => cl rfl cal151 rfl (cmp_isNaN_int.c h723) <| as0 rfl rfl <| .fin <| WP.seq <| WP.seq <| rg 1 0 <| mv0 rfl rfl <| .fin <| cd H rfl (fun _ H => ?_) (fun _ H => ?_)
 ·
  refine WP.seq <| WP.seq <| rg 1 0 <| mv0 rfl rfl <| .fin <| cd H rfl (fun _ H => ?_) (fun _ H => ?_)
  ·
   refine WP.seq <| rg 1 0 <| as0 rfl rfl <| .fin ?_
   obtain rfl := Gets.out H
   exact rt i2 rfl () 0 [] 0 (.cons (res_tmp rfl) .nil)
  refine WP.skip <| WP.seq <| rg 1 0 <| as0 rfl rfl <| .fin ?_
  obtain rfl := Gets.out H
  exact rt i2 rfl () 0 [] 0 (.cons (res_tmp rfl) .nil)
 refine WP.skip <| WP.seq <| WP.seq <| rg 1 0 <| mv0 rfl rfl <| .fin <| cd H rfl (fun _ H => ?_) (fun _ H => ?_)
 ·
  refine WP.seq <| rg 1 0 <| as0 rfl rfl <| .fin ?_
  obtain rfl := Gets.out H
  exact rt i2 rfl () 0 [] 0 (.cons (res_tmp rfl) .nil)
 refine WP.skip <| WP.seq <| WP.seq <| rg 3 0 <| mv0 rfl rfl <| mv0 rfl rfl <| bn0 rfl rfl rfl run_lt <| .fin <| cd H rfl (fun _ H => ?_) (fun _ H => ?_)
 ·
  refine WP.seq <| rg 1 0 <| as0 rfl rfl <| .fin ?_
  obtain rfl := Gets.out H
  exact rt i2 rfl () 0 [] 0 (.cons (res_tmp rfl) .nil)
 refine WP.skip <| WP.seq <| WP.seq <| rg 3 0 <| mv0 rfl rfl <| mv0 rfl rfl <| bn0 rfl rfl rfl run_gt <| .fin <| cd H rfl (fun _ H => ?_) (fun _ H => ?_)
 ·
  refine WP.seq <| rg 1 0 <| as0 rfl rfl <| .fin ?_
  obtain rfl := Gets.out H
  exact rt i2 rfl () 0 [] 0 (.cons (res_tmp rfl) .nil)
 refine WP.skip <| WP.seq <| rg 1 0 <| as0 rfl rfl <| .fin ?_
 obtain rfl := Gets.out H
 exact rt i2 rfl () 0 [] 0 (.cons (res_tmp rfl) .nil)
theorem cmp_isNaN_string.c {a0 : ByteArray} {r : Bool} (h : cmp_isNaN_string.f a0 = some r) : Pt Tryz.prog 138 [vS a0] (vB r) := by
 unfold cmp_isNaN_string.f at h
 refine (Tr.body Tryz.func138 (c := _) rfl Tryz.ntmps138 (Nat.le_of_ble_eq_true rfl) fun R0 F => ?_).pt
 replace h := Gets.of h
 have H := h
 clear h
 refine WP.seq <| rg 1 0 <| as0 rfl rfl <| .fin <| WP.seq <| rg 4 0 <| mv0 rfl rfl <| mv0 rfl rfl <| bn0 rfl rfl rfl run_sne <| as0 rfl rfl <| .fin ?_
 obtain rfl := Gets.out H
 exact rt i2 rfl () 0 [] 0 (.cons (res_tmp rfl) .nil)
theorem cmp_Compare_string.c {a0 : ByteArray} {a1 : ByteArray} {r : Int} (h : cmp_Compare_string.f a0 a1 = some r) : Pt Tryz.prog 132 [vS a0, vS a1] (vI r) := by
 unfold cmp_Compare_string.f at h
 refine (Tr.body Tryz.func132 (c := _) rfl Tryz.ntmps132 (Nat.le_of_ble_eq_true rfl) fun R0 F => ?_).pt
 replace h := Gets.of h
 have H := h
 clear h
 refine WP.seq <| rg 1 0 <| as0 rfl rfl <| .fin <| WP.seq <| rg 3 0 <| mv0 rfl rfl <| el H fun t729 h730 H => cl rfl cal138 rfl (cmp_isNaN_string.c h730) <| as0 rfl rfl <| .fin <| WP.seq <| rg 3 0 <| mv0 rfl rfl <| el H fun t731 h732 H => cl rfl cal138 rfl (cmp_isNaN_string.c h732) <| as0 rfl rfl <| .fin <| WP.seq <| WP.seq <| rg 1 0 <| mv0 rfl rfl <| .fin <| cd H rfl (fun _ H => ?_) (fun _ H => ?_)
 ·
  refine WP.seq <| WP.seq <| rg 1 0 <| mv0 rfl rfl <| .fin <| cd H rfl (fun _ H => ?_) (fun _ H => ?_)
  ·
   refine WP.seq <| rg 1 0 <| as0 rfl rfl <| .fin ?_
   obtain rfl := Gets.out H
   exact rt i2 rfl () 0 [] 0 (.cons (res_tmp rfl) .nil)
  refine WP.skip <| WP.seq <| rg 1 0 <| as0 rfl rfl <| .fin ?_
  obtain rfl := Gets.out H
  exact rt i2 rfl () 0 [] 0 (.cons (res_tmp rfl) .nil)
 refine WP.skip <| WP.seq <| WP.seq <| rg 1 0 <| mv0 rfl rfl <| .fin <| cd H rfl (fun _ H => ?_) (fun _ H => ?_)
 ·
  refine WP.seq <| rg 1 0 <| as0 rfl rfl <| .fin ?_
  obtain rfl := Gets.out H
  exact rt i2 rfl () 0 [] 0 (.cons (res_tmp rfl) .nil)
 refine WP.skip <| WP.seq <| WP.seq <| rg 3 0 <| mv0 rfl rfl <| mv0 rfl rfl <| bn0 rfl rfl rfl run_slt <| .fin <| cd H rfl (fun _ H => ?_) (fun _ H => ?_)
 ·
  refine WP.seq <| rg 1 0 <| as0 rfl rfl <| .fin ?_
  obtain rfl := Gets.out H
  exact rt i2 rfl () 0 [] 0 (.cons (res_tmp rfl) .nil)
 refine WP.skip <| WP.seq <| WP.seq <| rg 3 0 <| mv0 rfl rfl <| mv0 rfl rfl <| bn0 rfl rfl rfl run_sgt <| .fin <| cd H rfl (fun _ H => ?_) (fun _ H => ?_)
 ·
  refine WP.seq <| rg 1 0 <| as0 rfl rfl <| .fin ?_
  obtain rfl := Gets.out H
  exact rt i2 rfl () 0 [] 0 (.cons (res_tmp rfl) .nil)
 refine WP.skip <| WP.seq <| rg 1 0 <| as0 rfl rfl <| .fin ?_
 obtain rfl := Gets.out H
 exact rt i2 rfl () 0 [] 0 (.cons (res_tmp rfl) .nil)
theorem dag_Compare.c {k : Nat} {a0 : Pos} {a1 : Pos} {r : Int} (h : dag_Compare.f k a0 a1 = some r) : Pt Tryz.prog 109 [agg (Pos.enc a0), agg (Pos.enc a1)] (vI r) := by
 unfold dag_Compare.f at h
 refine (Tr.body Tryz.func109 (c := _) rfl Tryz.ntmps109 (Nat.le_of_ble_eq_true rfl) fun R0 F => ?_).pt
 replace h := Gets.of h
 have H := h
 clear h
 refine WP.seq <| rg 3 3 <| Dv.box rfl trivial rfl cA nofun fun b738 => Dv.box rfl trivial rfl cA nofun fun b739 => as0 rfl rfl <| .fin <| WP.seq <| dg Tryz.checked.mixed 13 0 <| fb rfl trivial rfl fa61_0 <| ld 1 rfl trivial rfl sc3 rfl rfl <| fb rfl trivial rfl fa61_0 <| ld 0 rfl trivial rfl sc3 rfl rfl <| el H fun t740 h741 H => cl rfl cal131 rfl (cmp_Compare_int.c h741) <| fb rfl trivial rfl fa61_1 <| ld 1 rfl trivial rfl sc9 rfl rfl <| fb rfl trivial rfl fa61_1 <| ld 0 rfl trivial rfl sc9 rfl rfl <| el H fun t742 h743 H => cl rfl cal132 rfl (cmp_Compare_string.c h743) <| Dv.lit (intK .i64) ([t740, t742] : List Int) (css := [[vI t740], [vI t742]]) rfl trivial Tryz.underlying24 Tryz.underlying3 c3 z3 rfl (by decide) (by decide) rfl ⟨(cells_one (one_eq rfl)), ⟨(cells_one (one_eq rfl)), trivial⟩⟩ rfl rfl rfl <| el H fun t744 h745 H => cl rfl cal130 rfl (cmp_Or_int.c h745) <| as0 rfl rfl <| .fin ?_
 obtain rfl := Gets.out H
 exact rt i2 rfl () 2 [0,1] 2 (.cons (res_tmp rfl) .nil)
theorem posC_f (x y : Pos) : dag_Compare.f 8 x y = some (posC x y) := by
 unfold dag_Compare.f cmp_Compare_int.f cmp_Compare_string.f cmp_isNaN_int.f cmp_isNaN_string.f cmp_Or_int.f posC cmpS
 simp only [Option.bind_some, bne_self_eq_false, decide_true, Bool.not_true, cond_false]
 rcases Int.lt_trichotomy x.fDepth y.fDepth with h | h | h
 ·
  have h2 : ¬ y.fDepth < x.fDepth := by omega
  simp only [h, decide_true, cond_true, Option.bind_some, if_true]
  cases sLt x.fID y.fID <;> cases sLt y.fID x.fID <;> rfl
 rotate_left
 ·
  have h1 : ¬ x.fDepth < y.fDepth := by omega
  simp only [h, h1, decide_true, decide_false, cond_true, cond_false, Option.bind_some, if_true, if_false]
  cases sLt x.fID y.fID <;> cases sLt y.fID x.fID <;> rfl
 have h1 : ¬ x.fDepth < y.fDepth := by omega
 have h2 : ¬ y.fDepth < x.fDepth := by omega
 simp only [h1, h2, decide_false, cond_false, Option.bind_some, if_false]
 cases sLt x.fID y.fID <;> cases sLt y.fID x.fID <;> rfl
theorem posC_lt (x y : Pos) : ltOf posC x y = true ↔ x.fDepth < y.fDepth ∨ (x.fDepth = y.fDepth ∧ sLt x.fID y.fID = true) := by
 unfold ltOf posC
 rw [decide_eq_true_eq]
 by_cases h : x.fDepth < y.fDepth
 ·
  simp [h]
 by_cases h2 : y.fDepth < x.fDepth
 ·
  rw [if_neg h, if_pos h2]; constructor
  ·
   intro k; omega
  rintro (k | ⟨k, _⟩) <;> omega
 rw [if_neg h, if_neg h2, cmpS_lt]; constructor
 ·
  intro k; exact .inr ⟨by omega, k⟩
 rintro (k | ⟨_, k⟩)
 ·
  omega
 exact k
theorem posC_nlt (x y : Pos) : ltOf posC x y = false ↔ y.fDepth < x.fDepth ∨ (x.fDepth = y.fDepth ∧ sLt x.fID y.fID = false) := by
  have h := posC_lt x y
  cases e : ltOf posC x y with
  | true =>
    have h := h.1 e
    refine ⟨fun k => (by cases k), fun k => ?_⟩
    rcases h with h | ⟨h1, h2⟩ <;> rcases k with k | ⟨k1, k2⟩
    · omega
    · omega
    · omega
    · rw [h2] at k2; cases k2
  | false =>
    refine ⟨fun _ => ?_, fun _ => rfl⟩
    rw [e] at h
    have h : ¬ _ := fun k => by have := h.2 k; cases this
    rcases Int.lt_trichotomy x.fDepth y.fDepth with k | k | k
    · exact (h (.inl k)).elim
    · cases e2 : sLt x.fID y.fID with
      | true => exact (h (.inr ⟨k, e2⟩)).elim
      | false => exact .inr ⟨k, rfl⟩
    · exact .inl k
theorem posC_swo : Go.Sort.SWO (ltOf posC) where
  irrefl x := by rw [posC_nlt]; exact .inr ⟨rfl, sLt_irrefl _⟩
  trans x y z h1 h2 := by
    rw [posC_lt] at *
    rcases h1 with h1 | ⟨h1, k1⟩ <;> rcases h2 with h2 | ⟨h2, k2⟩
    · exact .inl (by omega)
    · exact .inl (by omega)
    · exact .inl (by omega)
    · exact .inr ⟨by omega, sLt_trans k1 k2⟩
  ntrans x y z h1 h2 := by
    rw [posC_nlt] at *
    rcases h1 with h1 | ⟨h1, k1⟩ <;> rcases h2 with h2 | ⟨h2, k2⟩
    · exact .inl (by omega)
    · exact .inl (by omega)
    · exact .inl (by omega)
    · exact .inr ⟨by omega, sLt_ntrans k2 k1⟩
theorem posC_tot (x y : Pos) (h1 : ltOf posC x y = false) (h2 : ltOf posC y x = false) : x = y := by
 rw [posC_nlt] at *
 rcases h1 with h1 | ⟨h1, k1⟩ <;> rcases h2 with h2 | ⟨h2, k2⟩
 ·
  omega
 ·
  omega
 ·
  omega
 obtain ⟨a, b⟩ := x; obtain ⟨c, d⟩ := y
 simp only at h1 k1 k2
 rw [h1, sLt_conn k1 k2]
theorem slices_SortFunc_Position.c {a0 : List Pos} {p0_ : OV} {r : List Pos} (h : slices_SortFunc_Position.f a0 = some r) : Tr Tryz.prog 108 [eq p0_.1, eq (.func (.func 109) #[] #[])] [own Pos.K p0_.1 a0] (γ := Unit) (fun _ => True) (fun g => tup []) (fun g => [own Pos.K p0_.1 r]) := by
 unfold slices_SortFunc_Position.f at h
 obtain ⟨h0, h5⟩ := (Gets.of h).grd
 obtain rfl := Gets.out h5
 exact sortf_tr (K := Pos.K) (ev := fun x => [.int .i64 x.fDepth, .string x.fID]) (fun _ => rfl) (by decide) (fun x y => dag_Compare.c (posC_f x y)) (fun blk off cap d w hc hH hb hs => AnyQ.slices_SortFunc_total Tryz.lays6 2 Tryz.isAgg61 Tryz.sizeOf61 _ (fun _ => rfl) (fun x v hv => by simp at hv; rcases hv with rfl | rfl <;> rfl) posC posC_swo 109 #[] blk off cap d w (enters_of Tryz.func109 (by kernel_rfl) rfl) hc hH hb hs posC_tot) (fun q cap w => AnyF.slices_SortFunc_none Tryz.lays6 q cap _ w) (by omega)

theorem dag_Dag_All_1.c {a0 : DNode} {b0_ : Nat} {r : Bool} (h : dag_Dag_All_1.f a0 = some r) : Tr Tryz.prog 90 [eq (.pointer (some ⟨b0_, 0, none⟩))] [blk b0_ 105 [vS a0.fe.fID, vS a0.fe.fRoom, sl strK a0.fe.fParents, vS a0.fe.fThread, vS a0.fe.fUser, vI a0.fe.fDoes, vI a0.fdepth, vB a0.fparent]] (γ := Unit) (fun _ => True) (fun g => vB r) (fun g => [blk b0_ 105 [vS a0.fe.fID, vS a0.fe.fRoom, sl strK a0.fe.fParents, vS a0.fe.fThread, vS a0.fe.fUser, vI a0.fe.fDoes, vI a0.fdepth, vB a0.fparent]]) := by
 unfold dag_Dag_All_1.f at h
 refine Tr.body Tryz.func90 (c := _) rfl Tryz.ntmps90 (Nat.le_of_ble_eq_true rfl) fun R0 F => ?_
 replace h := Gets.of h
 have H := h
 clear h
 refine WP.seq <| rg 1 0 <| as0 rfl rfl <| .fin <| WP.seq <| rg 1 0 <| as0 rfl rfl <| .fin ?_
 obtain rfl := Gets.out H
 exact rt i2 rfl () 1 [0] 0 (.cons (res_tmp rfl) .nil)
theorem dag_Dag_ids_All.c {a0 : DDag} {b0_ : Nat} {v0_0 : OV} {r : List ByteArray} (h : dag_Dag_ids_All.f a0 = some r) : Tr Tryz.prog 89 [eq (.pointer (some ⟨b0_, 0, none⟩)), eq (.func (.func 90) #[] #[])] [blk b0_ 102 [vS a0.froom, eq v0_0.1], mpo Value.string DNode.O v0_0.1 a0.fnodes] (γ := OV) (fun _ => True) (fun g => eq g.1) (fun g => [blk b0_ 102 [vS a0.froom, eq v0_0.1], mpo Value.string DNode.O v0_0.1 a0.fnodes, own strK g.1 r]) := by
  unfold dag_Dag_ids_All.f at h
  obtain ⟨h0, h5⟩ := (Gets.of h).grd
  obtain rfl := Gets.out h5
  clear h h5
  refine Tr.body Tryz.func89 (c := _) rfl Tryz.ntmps89 (Nat.le_of_ble_eq_true rfl) fun R0 F => ?_
  refine WP.seq <| rg 1 0 <| as0 rfl rfl <| .fin <| WP.seq <| rg 1 0 <| as0 rfl rfl <| .fin ?_
  refine WP.seqj (β := List Nat × OV) (fun b => b.1.Perm (List.range a0.fnodes.length)) (fun b => [(5, eq b.2.1), (1, eq (.func (.func 90) #[] #[]))]) (fun b => [own Pos.K b.2.1 (selM a0.fnodes dag_Dag_ids_All.g b.1), mpo Value.string DNode.O v0_0.1 a0.fnodes, blk b0_ 102 [vS a0.froom, eq v0_0.1]] ++ F) (fun b hb => ?_) ?_
  rotate_left
  · refine WP.seq <| rg 5 16 <| mv0 rfl rfl <| Dv.nilp rfl trivial rfl <| fb rfl trivial rfl fa102_1 <| ld 0 rfl trivial rfl sc100 rfl rfl ?_
    refine Dv.gh (l' := fun ps : List OV => [mp Value.string (fun p : OV => eq p.1) v0_0.1 (zipK a0.fnodes ps), thg DNode.O a0.fnodes ps, blk b0_ 102 [vS a0.froom, eq v0_0.1]] ++ F) (gh_of (mpo_opn 1 rfl)) (fun ps hps => ?_)
    refine Dv.rgb (jj := 0) rfl trivial rfl rfl Tryz.underlying100 nofun (fun q => .fin ?_)
    refine WP.gh (l' := fun _ : Unit => [rng Value.string (fun p : OV => eq p.1) v0_0.1 q.1 (zipK a0.fnodes ps) [], thg DNode.O a0.fnodes ps, blk b0_ 102 [vS a0.froom, eq v0_0.1]] ++ F) (gh_of (ok := fun _ => True) fun R w k => ⟨(), trivial, k⟩) (fun _ _ => ?_)
    refine WP.gh (l' := fun _ : Unit => [own Pos.K nilV.1 [], rng Value.string (fun p : OV => eq p.1) v0_0.1 q.1 (zipK a0.fnodes ps) [], thg DNode.O a0.fnodes ps, blk b0_ 102 [vS a0.froom, eq v0_0.1]] ++ F) (gh_of (st_nil Pos.K none)) (fun _ _ => ?_)
    refine WP.block ?_
    refine WP.weak (E' := (fun b : List Nat × OV => [(5, eq b.2.1), (15, eq q.1), (1, eq (.func (.func 90) #[] #[]))]) ([], nilV)) (weak_cons rfl (weak_cons rfl (weak_cons rfl weak_nil))) (WP.loop (β := List Nat × OV) (fun k b => b.1.length + k = a0.fnodes.length) (fun b => [(5, eq b.2.1), (15, eq q.1), (1, eq (.func (.func 90) #[] #[]))]) (fun b => [own Pos.K b.2.1 (selM a0.fnodes dag_Dag_ids_All.g b.1), rng Value.string (fun p : OV => eq p.1) v0_0.1 q.1 (zipK a0.fnodes ps) b.1, thg DNode.O a0.fnodes ps, blk b0_ 102 [vS a0.froom, eq v0_0.1]] ++ F) ?_ (k := a0.fnodes.length) (b := ([], nilV)) (Nat.zero_add _))
    rintro k ⟨is, v⟩ hk
    replace hk : is.length + k = a0.fnodes.length := hk
    refine WP.seq <| rg 2 1 <| Dv.rgn (jj := 1) rfl trivial rfl rfl nofun (fun z hz => ?_)
    rcases z with _ | j
    · have hz : is.Perm (List.range (zipK a0.fnodes ps).length) := hz
      rw [zipK_len hps.1] at hz
      refine ex0 rfl trivial rfl rfl <| .fin <| WP.seq <| WP.cond rfl nofun (fun _ => WP.exit ?_)
      refine Dn.gh (l' := fun _ : Unit => [own Pos.K v.1 (selM a0.fnodes dag_Dag_ids_All.g is), rng Value.string (fun p : OV => eq p.1) v0_0.1 q.1 (zipK a0.fnodes ps) is, thg DNode.O a0.fnodes ps, blk b0_ 102 [vS a0.froom, eq v0_0.1]] ++ F) (gh_of (ok := fun _ => True) fun R w k => ⟨(), trivial, k⟩) (fun _ _ => ?_)
      refine Dn.gh (l' := fun _ : Unit => [mp Value.string (fun p : OV => eq p.1) v0_0.1 (zipK a0.fnodes ps), own Pos.K v.1 (selM a0.fnodes dag_Dag_ids_All.g is), thg DNode.O a0.fnodes ps, blk b0_ 102 [vS a0.froom, eq v0_0.1]] ++ F) (gh_of (st_rge (pm 4 [1,0,2,3]))) (fun _ _ => ?_)
      refine Dn.gh (l' := fun _ : Unit => [mpo Value.string DNode.O v0_0.1 a0.fnodes, own Pos.K v.1 (selM a0.fnodes dag_Dag_ids_All.g is), blk b0_ 102 [vS a0.froom, eq v0_0.1]] ++ F) (gh_of (mpo_shut hps rfl (pm 4 [0,2,1,3]))) (fun _ _ => ?_)
      exact Jn.mk (is, v) hz (weak_cons rfl (weak_cons rfl weak_nil)) (perm_ton 3 [1,0,2] (by kernel_rfl) rfl rfl)
    have hz : j < (zipK a0.fnodes ps).length ∧ j ∉ is ∧ is.length < (zipK a0.fnodes ps).length := hz
    obtain ⟨e, p, he, hp, hep⟩ := zipK_get hps hz.1
    have hlt : is.length < a0.fnodes.length := by rw [← zipK_len hps.1]; exact hz.2.2
    have hsl := Nat.le_trans (selM_len (m := a0.fnodes) (f := dag_Dag_ids_All.g) (is := is)) (Nat.le_of_lt hlt)
    have e1 : nxV Value.string (fun p : OV => eq p.1) (zipK a0.fnodes ps) (some j) = tup [vB true, vS e.1, eq p.1] := by simp only [nxV, hep]
    rw [e1]
    refine ex0 rfl trivial rfl rfl <| .fin <| WP.seq <| WP.cond rfl (fun _ => WP.skip ?_) nofun
    refine WP.gh (l' := fun _ : Unit => [own Pos.K v.1 (selM a0.fnodes dag_Dag_ids_All.g is), rng Value.string (fun p : OV => eq p.1) v0_0.1 q.1 (zipK a0.fnodes ps) (is ++ [j]), thg DNode.O a0.fnodes ps, blk b0_ 102 [vS a0.froom, eq v0_0.1]] ++ F) (gh_of (ok := fun _ => True) fun R w k => ⟨(), trivial, k⟩) (fun _ _ => ?_)
    refine WP.block <| WP.seq <| rg 5 0 <| Dv.rge 1 rfl trivial rfl rfl hep ?_
    refine ex0 rfl trivial rfl rfl <| ex0 rfl trivial rfl rfl <| as0 rfl rfl <| as0 rfl rfl <| .fin ?_
    refine WP.gh (l' := fun _ : Unit => [DNode.O p e.2, thgX DNode.O a0.fnodes ps j, own Pos.K v.1 (selM a0.fnodes dag_Dag_ids_All.g is), rng Value.string (fun p : OV => eq p.1) v0_0.1 q.1 (zipK a0.fnodes ps) (is ++ [j]), blk b0_ 102 [vS a0.froom, eq v0_0.1]] ++ F) (gh_of (thg_foc he hp (pm 4 [2,0,1,3]))) (fun _ _ => ?_)
    refine WP.gh (l' := fun b : Nat => [blk b 105 [vS e.2.fe.fID, vS e.2.fe.fRoom, sl strK e.2.fe.fParents, vS e.2.fe.fThread, vS e.2.fe.fUser, vI e.2.fe.fDoes, vI e.2.fdepth, vB e.2.fparent], thgX DNode.O a0.fnodes ps j, own Pos.K v.1 (selM a0.fnodes dag_Dag_ids_All.g is), rng Value.string (fun p : OV => eq p.1) v0_0.1 q.1 (zipK a0.fnodes ps) (is ++ [j]), blk b0_ 102 [vS a0.froom, eq v0_0.1]] ++ F) (gh_of (DNode.opn 0 rfl)) (fun b hb => ?_)
    refine WP.seq <| rg 3 0 <| mv0 rfl rfl <| mv0 rfl rfl <| Dv.callc (fst := #[]) (B := [blk b 105 [vS e.2.fe.fID, vS e.2.fe.fRoom, sl strK e.2.fe.fParents, vS e.2.fe.fThread, vS e.2.fe.fUser, vI e.2.fe.fDoes, vI e.2.fdepth, vB e.2.fparent]]) (F := [thgX DNode.O a0.fnodes ps j, own Pos.K v.1 (selM a0.fnodes dag_Dag_ids_All.g is), rng Value.string (fun p : OV => eq p.1) v0_0.1 q.1 (zipK a0.fnodes ps) (is ++ [j]), blk b0_ 102 [vS a0.froom, eq v0_0.1]] ++ F) rfl trivial rfl cal90 rfl (Tr.weak (dag_Dag_All_1.c (a0 := e.2) (b0_ := b) (r := true) rfl) (.cons (wk_ptr hb) .nil)) (List.Perm.refl _) <| .fin ?_
    refine WP.cond rfl (fun c1 => ?_) (fun c1 => ?_)
    · have hg : dag_Dag_ids_All.g e = some ⟨e.2.fdepth, e.1⟩ := by unfold dag_Dag_ids_All.g; rw [c1]; rfl
      have e6 := selM_some (f := dag_Dag_ids_All.g) (is := is) he hg
      have hbd : (selM a0.fnodes dag_Dag_ids_All.g is).length + ([⟨e.2.fdepth, e.1⟩] : List Pos).length ≤ 9223372036854775807 ∧ ((selM a0.fnodes dag_Dag_ids_All.g is).length + ([⟨e.2.fdepth, e.1⟩] : List Pos).length) * 24 ≤ 140737488355328 := by rw [List.length_singleton]; omega
      refine rg 10 256 <| mv0 rfl rfl <| mv0 rfl rfl <| Dv.nilpp hb rfl trivial rfl <| fp hb rfl trivial rfl fa105_1 <| ld 0 rfl trivial rfl sc3 rfl rfl <| mv0 rfl rfl <| Dv.bld (css := [[vI e.2.fdepth], [vS e.1]]) rfl trivial Tryz.underlying61 pl61 z61 rfl ⟨(cells_one (one_eq rfl)), ⟨(cells_one (one_eq rfl)), trivial⟩⟩ rfl rfl <| Dv.lit Pos.K ([⟨e.2.fdepth, e.1⟩] : List Pos) (css := [[vI e.2.fdepth, vS e.1]]) rfl trivial Tryz.underlying124 Tryz.underlying61 c61 z61 rfl (by decide) (by decide) rfl ⟨cA, trivial⟩ rfl rfl rfl <| ap Pos.K 2 ([⟨e.2.fdepth, e.1⟩] : List Pos) src_sl Tryz.underlying124 (.inr ⟨_, Tryz.underlying124⟩) inf61 hbd nofun fun v9 => as0 rfl rfl <| .fin ?_
      refine Dn.gh (l' := fun _ : Unit => [DNode.O p e.2, thgX DNode.O a0.fnodes ps j, own Pos.K v9.1 ((selM a0.fnodes dag_Dag_ids_All.g is) ++ ([⟨e.2.fdepth, e.1⟩] : List Pos)), rng Value.string (fun p : OV => eq p.1) v0_0.1 q.1 (zipK a0.fnodes ps) (is ++ [j]), blk b0_ 102 [vS a0.froom, eq v0_0.1]] ++ F) (gh_of (DNode.shut (p := p) (m := e.2) b hb (List.Perm.refl _))) (fun _ _ => ?_)
      refine Dn.gh (l' := fun _ : Unit => [thg DNode.O a0.fnodes ps, own Pos.K v9.1 ((selM a0.fnodes dag_Dag_ids_All.g is) ++ ([⟨e.2.fdepth, e.1⟩] : List Pos)), rng Value.string (fun p : OV => eq p.1) v0_0.1 q.1 (zipK a0.fnodes ps) (is ++ [j]), blk b0_ 102 [vS a0.froom, eq v0_0.1]] ++ F) (gh_of (thg_unf he hp (List.Perm.refl _))) (fun _ _ => ?_)
      rw [e6]
      exact Back.mk (k - 1) (is ++ [j], v9) (by omega) (by show (is ++ [j]).length + (k - 1) = _; rw [List.length_append, List.length_singleton]; omega) (weak_cons rfl (weak_cons rfl (weak_cons rfl weak_nil))) (perm_ton 4 [1,2,0,3] (by kernel_rfl) rfl rfl)
    cases c1
  obtain ⟨is, v5⟩ := b
  replace hb : is.Perm (List.range a0.fnodes.length) := hb
  have hp := selM_perm (f := dag_Dag_ids_All.g) hb
  have hs : slices_SortFunc_Position.f (selM a0.fnodes dag_Dag_ids_All.g is) = some (srtF posC (a0.fnodes.filterMap dag_Dag_ids_All.g)) := by
    unfold slices_SortFunc_Position.f Sp.grd
    rw [if_pos (by rw [hp.length_eq]; exact Nat.le_trans (List.length_filterMap_le _ _) h0), srtF_perm posC_swo posC_tot hp]
  have hS : (srtF posC (a0.fnodes.filterMap dag_Dag_ids_All.g)).length ≤ 1000000 := by unfold srtF; rw [List.length_mergeSort]; exact Nat.le_trans (List.length_filterMap_le _ _) h0
  refine WP.seq <| rg 2 2 <| mv0 rfl rfl <| cx 3 [0,1,2] cal108 (slices_SortFunc_Position.c hs (p0_ := v5)) nofun fun _ _ => .fin ?_
  generalize srtF posC (a0.fnodes.filterMap dag_Dag_ids_All.g) = S at hS
  refine WP.seq <| rg 1 0 <| as0 rfl rfl <| .fin ?_
  refine WP.seqj (β := OV) (fun _ => True) (fun v => [(8, eq v.1)]) (fun v => [own strK v.1 (S.map (·.fID)), own Pos.K v5.1 S, mpo Value.string DNode.O v0_0.1 a0.fnodes, blk b0_ 102 [vS a0.froom, eq v0_0.1]] ++ F) (fun v _ => ?_) ?_
  · refine WP.seq <| rg 2 0 <| mv0 rfl rfl <| as0 rfl rfl <| .fin <| rt i2 rfl v 4 [1,3,2,0] 1 (.cons (res_tmp rfl) .nil)
  refine WP.seq <| rg 3 0 <| mv0 rfl rfl <| Dv.lenw (Kd := Pos.K) (xs := S) (v := v5.1) rfl trivial rfl (mem_at 0 rfl) Tryz.underlying124 <| mv0 rfl rfl <| .fin ?_
  refine WP.gh (l' := fun _ : Unit => [own strK nilV.1 [], own Pos.K v5.1 S, mpo Value.string DNode.O v0_0.1 a0.fnodes, blk b0_ 102 [vS a0.froom, eq v0_0.1]] ++ F) (gh_of (st_nil strK none)) (fun _ _ => ?_)
  refine WP.block ?_
  refine WP.weak (E' := (fun b : Nat × OV => [(8, eq b.2.1), (35, eq v5.1), (36, vI (S.length : Int)), (37, vI (b.1 : Int))]) (0, nilV)) (weak_cons rfl (weak_cons rfl (weak_cons rfl (weak_cons rfl weak_nil)))) (WP.loop (β := Nat × OV) (fun k b => b.1 + k = S.length) (fun b => [(8, eq b.2.1), (35, eq v5.1), (36, vI (S.length : Int)), (37, vI (b.1 : Int))]) (fun b => [own strK b.2.1 ((S.take b.1).map (·.fID)), own Pos.K v5.1 S, mpo Value.string DNode.O v0_0.1 a0.fnodes, blk b0_ 102 [vS a0.froom, eq v0_0.1]] ++ F) ?_ (k := S.length) (b := (0, nilV)) (Nat.zero_add _))
  rintro k ⟨j, v8⟩ hk
  replace hk : j + k = S.length := hk
  refine WP.seq <| rg 1 0 <| bn0 rfl rfl rfl run_lt <| .fin <| WP.seq <| WP.cond rfl (fun c2 => WP.skip ?_) (fun c2 => WP.exit ?_)
  rotate_left
  · have c3 : ¬ ((j : Int) < (S.length : Int)) := of_decide_eq_false c2
    have e3 : S.take j = S := List.take_of_length_le (by omega)
    change ∀ R a w, R0.le R → Agr _ R a _ → St R ([own strK v8.1 ((S.take j).map (·.fID)), own Pos.K v5.1 S, mpo Value.string DNode.O v0_0.1 a0.fnodes, blk b0_ 102 [vS a0.froom, eq v0_0.1]] ++ F) w → _
    rw [e3]
    exact Jn.mk v8 trivial (weak_cons rfl weak_nil) (List.Perm.refl _)
  have c3 : (j : Int) < (S.length : Int) := of_decide_eq_true c2
  have hj : j < S.length := by omega
  refine WP.seq <| WP.block <| WP.seq <| rg 4 12 <| Dv.ixw rfl trivial rfl (mem_at 1 rfl) rfl Tryz.underlying124 Tryz.underlying61 c61 (by omega) c3 <| Dv.ldws (j := j) (f := 0) rfl trivial rfl (mem_at 1 rfl) hj Tryz.underlying61 rfl c61 (Nat.le_of_ble_eq_true rfl) <| al rfl trivial zc61 nofun fun b => sx 0 rfl trivial rfl rfl cA sz61 rfl rfl rfl nofun <| .fin ?_
  have hbd : ((S.take j).map (·.fID)).length + ([(S.getD j default).fID] : List ByteArray).length ≤ 9223372036854775807 ∧ (((S.take j).map (·.fID)).length + ([(S.getD j default).fID] : List ByteArray).length) * 16 ≤ 140737488355328 := by rw [List.length_singleton, List.length_map, List.length_take]; omega
  refine rg 6 16 <| mv0 rfl rfl <| fb rfl trivial rfl fa61_1 <| ld 0 rfl trivial rfl sc9 rfl rfl <| Dv.lit strK ([(S.getD j default).fID] : List ByteArray) (css := [[vS ((S.getD j default).fID)]]) rfl trivial Tryz.underlying31 Tryz.underlying9 c9 z9 rfl (by decide) (by decide) rfl ⟨(cells_one (one_eq rfl)), trivial⟩ rfl rfl rfl <| ap strK 1 ([(S.getD j default).fID] : List ByteArray) src_sl Tryz.underlying31 (.inr ⟨_, Tryz.underlying31⟩) inf9 hbd nofun fun v9 => as0 rfl rfl <| .fin ?_
  refine WP.gh (l' := fun _ : Unit => [own strK v9.1 ((S.take j).map (·.fID) ++ ([(S.getD j default).fID] : List ByteArray)), own Pos.K v5.1 S, mpo Value.string DNode.O v0_0.1 a0.fnodes, blk b0_ 102 [vS a0.froom, eq v0_0.1]] ++ F) (gh_of (st_selgn 5 [0,1,2,3,4] 1 (by kernel_rfl) rfl rfl)) (fun _ _ => ?_)
  have e4 : (S.take j).map (·.fID) ++ ([(S.getD j default).fID] : List ByteArray) = (S.take (j + 1)).map (·.fID) := by rw [List.take_add_one, List.map_append, List.getD_eq_getElem?_getD, List.getElem?_eq_getElem hj]; rfl
  rw [e4]
  refine rg 2 0 <| bn0 rfl rfl rfl (run_addn (a := j) (b := 1) (by omega)) <| mv0 rfl rfl <| .fin ?_
  exact Back.mk (k - 1) (j + 1, v9) (by omega) (by show j + 1 + (k - 1) = S.length; omega) (weak_cons rfl (weak_cons rfl (weak_cons rfl (weak_cons rfl weak_nil)))) (List.Perm.refl _)
theorem dag_Dag_Heads_1.c {a0 : DNode} {b0_ : Nat} {r : Bool} (h : dag_Dag_Heads_1.f a0 = some r) : Tr Tryz.prog 92 [eq (.pointer (some ⟨b0_, 0, none⟩))] [blk b0_ 105 [vS a0.fe.fID, vS a0.fe.fRoom, sl strK a0.fe.fParents, vS a0.fe.fThread, vS a0.fe.fUser, vI a0.fe.fDoes, vI a0.fdepth, vB a0.fparent]] (γ := Unit) (fun _ => True) (fun g => vB r) (fun g => [blk b0_ 105 [vS a0.fe.fID, vS a0.fe.fRoom, sl strK a0.fe.fParents, vS a0.fe.fThread, vS a0.fe.fUser, vI a0.fe.fDoes, vI a0.fdepth, vB a0.fparent]]) := by
 unfold dag_Dag_Heads_1.f at h
 refine Tr.body Tryz.func92 (c := _) rfl Tryz.ntmps92 (Nat.le_of_ble_eq_true rfl) fun R0 F => ?_
 replace h := Gets.of h
 have H := h
 clear h
 refine WP.seq <| rg 1 0 <| as0 rfl rfl <| .fin <| WP.seq <| rg 6 0 <| mv0 rfl rfl <| Dv.nilp rfl trivial rfl <| fb rfl trivial rfl fa105_2 <| ld 0 rfl trivial rfl sc4 rfl rfl <| un0 rfl rfl (run_not _) <| as0 rfl rfl <| .fin ?_
 obtain rfl := Gets.out H
 exact rt i2 rfl () 1 [0] 0 (.cons (res_tmp rfl) .nil)
theorem dag_Dag_ids_Heads.c {a0 : DDag} {b0_ : Nat} {v0_0 : OV} {r : List ByteArray} (h : dag_Dag_ids_Heads.f a0 = some r) : Tr Tryz.prog 89 [eq (.pointer (some ⟨b0_, 0, none⟩)), eq (.func (.func 92) #[] #[])] [blk b0_ 102 [vS a0.froom, eq v0_0.1], mpo Value.string DNode.O v0_0.1 a0.fnodes] (γ := OV) (fun _ => True) (fun g => eq g.1) (fun g => [blk b0_ 102 [vS a0.froom, eq v0_0.1], mpo Value.string DNode.O v0_0.1 a0.fnodes, own strK g.1 r]) := by
  unfold dag_Dag_ids_Heads.f at h
  obtain ⟨h0, h5⟩ := (Gets.of h).grd
  obtain rfl := Gets.out h5
  clear h h5
  refine Tr.body Tryz.func89 (c := _) rfl Tryz.ntmps89 (Nat.le_of_ble_eq_true rfl) fun R0 F => ?_
  refine WP.seq <| rg 1 0 <| as0 rfl rfl <| .fin <| WP.seq <| rg 1 0 <| as0 rfl rfl <| .fin ?_
  refine WP.seqj (β := List Nat × OV) (fun b => b.1.Perm (List.range a0.fnodes.length)) (fun b => [(5, eq b.2.1), (1, eq (.func (.func 92) #[] #[]))]) (fun b => [own Pos.K b.2.1 (selM a0.fnodes dag_Dag_ids_Heads.g b.1), mpo Value.string DNode.O v0_0.1 a0.fnodes, blk b0_ 102 [vS a0.froom, eq v0_0.1]] ++ F) (fun b hb => ?_) ?_
  rotate_left
  · refine WP.seq <| rg 5 16 <| mv0 rfl rfl <| Dv.nilp rfl trivial rfl <| fb rfl trivial rfl fa102_1 <| ld 0 rfl trivial rfl sc100 rfl rfl ?_
    refine Dv.gh (l' := fun ps : List OV => [mp Value.string (fun p : OV => eq p.1) v0_0.1 (zipK a0.fnodes ps), thg DNode.O a0.fnodes ps, blk b0_ 102 [vS a0.froom, eq v0_0.1]] ++ F) (gh_of (mpo_opn 1 rfl)) (fun ps hps => ?_)
    refine Dv.rgb (jj := 0) rfl trivial rfl rfl Tryz.underlying100 nofun (fun q => .fin ?_)
    refine WP.gh (l' := fun _ : Unit => [rng Value.string (fun p : OV => eq p.1) v0_0.1 q.1 (zipK a0.fnodes ps) [], thg DNode.O a0.fnodes ps, blk b0_ 102 [vS a0.froom, eq v0_0.1]] ++ F) (gh_of (ok := fun _ => True) fun R w k => ⟨(), trivial, k⟩) (fun _ _ => ?_)
    refine WP.gh (l' := fun _ : Unit => [own Pos.K nilV.1 [], rng Value.string (fun p : OV => eq p.1) v0_0.1 q.1 (zipK a0.fnodes ps) [], thg DNode.O a0.fnodes ps, blk b0_ 102 [vS a0.froom, eq v0_0.1]] ++ F) (gh_of (st_nil Pos.K none)) (fun _ _ => ?_)
    refine WP.block ?_
    refine WP.weak (E' := (fun b : List Nat × OV => [(5, eq b.2.1), (15, eq q.1), (1, eq (.func (.func 92) #[] #[]))]) ([], nilV)) (weak_cons rfl (weak_cons rfl (weak_cons rfl weak_nil))) (WP.loop (β := List Nat × OV) (fun k b => b.1.length + k = a0.fnodes.length) (fun b => [(5, eq b.2.1), (15, eq q.1), (1, eq (.func (.func 92) #[] #[]))]) (fun b => [own Pos.K b.2.1 (selM a0.fnodes dag_Dag_ids_Heads.g b.1), rng Value.string (fun p : OV => eq p.1) v0_0.1 q.1 (zipK a0.fnodes ps) b.1, thg DNode.O a0.fnodes ps, blk b0_ 102 [vS a0.froom, eq v0_0.1]] ++ F) ?_ (k := a0.fnodes.length) (b := ([], nilV)) (Nat.zero_add _))
    rintro k ⟨is, v⟩ hk
    replace hk : is.length + k = a0.fnodes.length := hk
    refine WP.seq <| rg 2 1 <| Dv.rgn (jj := 1) rfl trivial rfl rfl nofun (fun z hz => ?_)
    rcases z with _ | j
    · have hz : is.Perm (List.range (zipK a0.fnodes ps).length) := hz
      rw [zipK_len hps.1] at hz
      refine ex0 rfl trivial rfl rfl <| .fin <| WP.seq <| WP.cond rfl nofun (fun _ => WP.exit ?_)
      refine Dn.gh (l' := fun _ : Unit => [own Pos.K v.1 (selM a0.fnodes dag_Dag_ids_Heads.g is), rng Value.string (fun p : OV => eq p.1) v0_0.1 q.1 (zipK a0.fnodes ps) is, thg DNode.O a0.fnodes ps, blk b0_ 102 [vS a0.froom, eq v0_0.1]] ++ F) (gh_of (ok := fun _ => True) fun R w k => ⟨(), trivial, k⟩) (fun _ _ => ?_)
      refine Dn.gh (l' := fun _ : Unit => [mp Value.string (fun p : OV => eq p.1) v0_0.1 (zipK a0.fnodes ps), own Pos.K v.1 (selM a0.fnodes dag_Dag_ids_Heads.g is), thg DNode.O a0.fnodes ps, blk b0_ 102 [vS a0.froom, eq v0_0.1]] ++ F) (gh_of (st_rge (pm 4 [1,0,2,3]))) (fun _ _ => ?_)
      refine Dn.gh (l' := fun _ : Unit => [mpo Value.string DNode.O v0_0.1 a0.fnodes, own Pos.K v.1 (selM a0.fnodes dag_Dag_ids_Heads.g is), blk b0_ 102 [vS a0.froom, eq v0_0.1]] ++ F) (gh_of (mpo_shut hps rfl (pm 4 [0,2,1,3]))) (fun _ _ => ?_)
      exact Jn.mk (is, v) hz (weak_cons rfl (weak_cons rfl weak_nil)) (perm_ton 3 [1,0,2] (by kernel_rfl) rfl rfl)
    have hz : j < (zipK a0.fnodes ps).length ∧ j ∉ is ∧ is.length < (zipK a0.fnodes ps).length := hz
    obtain ⟨e, p, he, hp, hep⟩ := zipK_get hps hz.1
    have hlt : is.length < a0.fnodes.length := by rw [← zipK_len hps.1]; exact hz.2.2
    have hsl := Nat.le_trans (selM_len (m := a0.fnodes) (f := dag_Dag_ids_Heads.g) (is := is)) (Nat.le_of_lt hlt)
    have e1 : nxV Value.string (fun p : OV => eq p.1) (zipK a0.fnodes ps) (some j) = tup [vB true, vS e.1, eq p.1] := by simp only [nxV, hep]
    rw [e1]
    refine ex0 rfl trivial rfl rfl <| .fin <| WP.seq <| WP.cond rfl (fun _ => WP.skip ?_) nofun
    refine WP.gh (l' := fun _ : Unit => [own Pos.K v.1 (selM a0.fnodes dag_Dag_ids_Heads.g is), rng Value.string (fun p : OV => eq p.1) v0_0.1 q.1 (zipK a0.fnodes ps) (is ++ [j]), thg DNode.O a0.fnodes ps, blk b0_ 102 [vS a0.froom, eq v0_0.1]] ++ F) (gh_of (ok := fun _ => True) fun R w k => ⟨(), trivial, k⟩) (fun _ _ => ?_)
    refine WP.block <| WP.seq <| rg 5 0 <| Dv.rge 1 rfl trivial rfl rfl hep ?_
    refine ex0 rfl trivial rfl rfl <| ex0 rfl trivial rfl rfl <| as0 rfl rfl <| as0 rfl rfl <| .fin ?_
    refine WP.gh (l' := fun _ : Unit => [DNode.O p e.2, thgX DNode.O a0.fnodes ps j, own Pos.K v.1 (selM a0.fnodes dag_Dag_ids_Heads.g is), rng Value.string (fun p : OV => eq p.1) v0_0.1 q.1 (zipK a0.fnodes ps) (is ++ [j]), blk b0_ 102 [vS a0.froom, eq v0_0.1]] ++ F) (gh_of (thg_foc he hp (pm 4 [2,0,1,3]))) (fun _ _ => ?_)
    refine WP.gh (l' := fun b : Nat => [blk b 105 [vS e.2.fe.fID, vS e.2.fe.fRoom, sl strK e.2.fe.fParents, vS e.2.fe.fThread, vS e.2.fe.fUser, vI e.2.fe.fDoes, vI e.2.fdepth, vB e.2.fparent], thgX DNode.O a0.fnodes ps j, own Pos.K v.1 (selM a0.fnodes dag_Dag_ids_Heads.g is), rng Value.string (fun p : OV => eq p.1) v0_0.1 q.1 (zipK a0.fnodes ps) (is ++ [j]), blk b0_ 102 [vS a0.froom, eq v0_0.1]] ++ F) (gh_of (DNode.opn 0 rfl)) (fun b hb => ?_)
    refine WP.seq <| rg 3 0 <| mv0 rfl rfl <| mv0 rfl rfl <| Dv.callc (fst := #[]) (B := [blk b 105 [vS e.2.fe.fID, vS e.2.fe.fRoom, sl strK e.2.fe.fParents, vS e.2.fe.fThread, vS e.2.fe.fUser, vI e.2.fe.fDoes, vI e.2.fdepth, vB e.2.fparent]]) (F := [thgX DNode.O a0.fnodes ps j, own Pos.K v.1 (selM a0.fnodes dag_Dag_ids_Heads.g is), rng Value.string (fun p : OV => eq p.1) v0_0.1 q.1 (zipK a0.fnodes ps) (is ++ [j]), blk b0_ 102 [vS a0.froom, eq v0_0.1]] ++ F) rfl trivial rfl cal92 rfl (Tr.weak (dag_Dag_Heads_1.c (a0 := e.2) (b0_ := b) (r := (!e.2.fparent)) rfl) (.cons (wk_ptr hb) .nil)) (List.Perm.refl _) <| .fin ?_
    refine WP.cond rfl (fun c1 => ?_) (fun c1 => ?_)
    · have hg : dag_Dag_ids_Heads.g e = some ⟨e.2.fdepth, e.1⟩ := by unfold dag_Dag_ids_Heads.g; rw [c1]; rfl
      have e6 := selM_some (f := dag_Dag_ids_Heads.g) (is := is) he hg
      have hbd : (selM a0.fnodes dag_Dag_ids_Heads.g is).length + ([⟨e.2.fdepth, e.1⟩] : List Pos).length ≤ 9223372036854775807 ∧ ((selM a0.fnodes dag_Dag_ids_Heads.g is).length + ([⟨e.2.fdepth, e.1⟩] : List Pos).length) * 24 ≤ 140737488355328 := by rw [List.length_singleton]; omega
      refine rg 10 256 <| mv0 rfl rfl <| mv0 rfl rfl <| Dv.nilpp hb rfl trivial rfl <| fp hb rfl trivial rfl fa105_1 <| ld 0 rfl trivial rfl sc3 rfl rfl <| mv0 rfl rfl <| Dv.bld (css := [[vI e.2.fdepth], [vS e.1]]) rfl trivial Tryz.underlying61 pl61 z61 rfl ⟨(cells_one (one_eq rfl)), ⟨(cells_one (one_eq rfl)), trivial⟩⟩ rfl rfl <| Dv.lit Pos.K ([⟨e.2.fdepth, e.1⟩] : List Pos) (css := [[vI e.2.fdepth, vS e.1]]) rfl trivial Tryz.underlying124 Tryz.underlying61 c61 z61 rfl (by decide) (by decide) rfl ⟨cA, trivial⟩ rfl rfl rfl <| ap Pos.K 2 ([⟨e.2.fdepth, e.1⟩] : List Pos) src_sl Tryz.underlying124 (.inr ⟨_, Tryz.underlying124⟩) inf61 hbd nofun fun v9 => as0 rfl rfl <| .fin ?_
      refine Dn.gh (l' := fun _ : Unit => [DNode.O p e.2, thgX DNode.O a0.fnodes ps j, own Pos.K v9.1 ((selM a0.fnodes dag_Dag_ids_Heads.g is) ++ ([⟨e.2.fdepth, e.1⟩] : List Pos)), rng Value.string (fun p : OV => eq p.1) v0_0.1 q.1 (zipK a0.fnodes ps) (is ++ [j]), blk b0_ 102 [vS a0.froom, eq v0_0.1]] ++ F) (gh_of (DNode.shut (p := p) (m := e.2) b hb (List.Perm.refl _))) (fun _ _ => ?_)
      refine Dn.gh (l' := fun _ : Unit => [thg DNode.O a0.fnodes ps, own Pos.K v9.1 ((selM a0.fnodes dag_Dag_ids_Heads.g is) ++ ([⟨e.2.fdepth, e.1⟩] : List Pos)), rng Value.string (fun p : OV => eq p.1) v0_0.1 q.1 (zipK a0.fnodes ps) (is ++ [j]), blk b0_ 102 [vS a0.froom, eq v0_0.1]] ++ F) (gh_of (thg_unf he hp (List.Perm.refl _))) (fun _ _ => ?_)
      rw [e6]
      exact Back.mk (k - 1) (is ++ [j], v9) (by omega) (by show (is ++ [j]).length + (k - 1) = _; rw [List.length_append, List.length_singleton]; omega) (weak_cons rfl (weak_cons rfl (weak_cons rfl weak_nil))) (perm_ton 4 [1,2,0,3] (by kernel_rfl) rfl rfl)
    have hg : dag_Dag_ids_Heads.g e = none := by unfold dag_Dag_ids_Heads.g; rw [c1]; rfl
    have e6 := selM_none (f := dag_Dag_ids_Heads.g) (is := is) he hg
    refine WP.skip ?_
    refine Dn.gh (l' := fun _ : Unit => [DNode.O p e.2, thgX DNode.O a0.fnodes ps j, own Pos.K v.1 (selM a0.fnodes dag_Dag_ids_Heads.g is), rng Value.string (fun p : OV => eq p.1) v0_0.1 q.1 (zipK a0.fnodes ps) (is ++ [j]), blk b0_ 102 [vS a0.froom, eq v0_0.1]] ++ F) (gh_of (DNode.shut (p := p) (m := e.2) b hb (List.Perm.refl _))) (fun _ _ => ?_)
    refine Dn.gh (l' := fun _ : Unit => [thg DNode.O a0.fnodes ps, own Pos.K v.1 (selM a0.fnodes dag_Dag_ids_Heads.g is), rng Value.string (fun p : OV => eq p.1) v0_0.1 q.1 (zipK a0.fnodes ps) (is ++ [j]), blk b0_ 102 [vS a0.froom, eq v0_0.1]] ++ F) (gh_of (thg_unf he hp (List.Perm.refl _))) (fun _ _ => ?_)
    rw [e6]
    exact Back.mk (k - 1) (is ++ [j], v) (by omega) (by show (is ++ [j]).length + (k - 1) = _; rw [List.length_append, List.length_singleton]; omega) (weak_cons rfl (weak_cons rfl (weak_cons rfl weak_nil))) (perm_ton 4 [1,2,0,3] (by kernel_rfl) rfl rfl)
  obtain ⟨is, v5⟩ := b
  replace hb : is.Perm (List.range a0.fnodes.length) := hb
  have hp := selM_perm (f := dag_Dag_ids_Heads.g) hb
  have hs : slices_SortFunc_Position.f (selM a0.fnodes dag_Dag_ids_Heads.g is) = some (srtF posC (a0.fnodes.filterMap dag_Dag_ids_Heads.g)) := by
    unfold slices_SortFunc_Position.f Sp.grd
    rw [if_pos (by rw [hp.length_eq]; exact Nat.le_trans (List.length_filterMap_le _ _) h0), srtF_perm posC_swo posC_tot hp]
  have hS : (srtF posC (a0.fnodes.filterMap dag_Dag_ids_Heads.g)).length ≤ 1000000 := by unfold srtF; rw [List.length_mergeSort]; exact Nat.le_trans (List.length_filterMap_le _ _) h0
  refine WP.seq <| rg 2 2 <| mv0 rfl rfl <| cx 3 [0,1,2] cal108 (slices_SortFunc_Position.c hs (p0_ := v5)) nofun fun _ _ => .fin ?_
  generalize srtF posC (a0.fnodes.filterMap dag_Dag_ids_Heads.g) = S at hS
  refine WP.seq <| rg 1 0 <| as0 rfl rfl <| .fin ?_
  refine WP.seqj (β := OV) (fun _ => True) (fun v => [(8, eq v.1)]) (fun v => [own strK v.1 (S.map (·.fID)), own Pos.K v5.1 S, mpo Value.string DNode.O v0_0.1 a0.fnodes, blk b0_ 102 [vS a0.froom, eq v0_0.1]] ++ F) (fun v _ => ?_) ?_
  · refine WP.seq <| rg 2 0 <| mv0 rfl rfl <| as0 rfl rfl <| .fin <| rt i2 rfl v 4 [1,3,2,0] 1 (.cons (res_tmp rfl) .nil)
  refine WP.seq <| rg 3 0 <| mv0 rfl rfl <| Dv.lenw (Kd := Pos.K) (xs := S) (v := v5.1) rfl trivial rfl (mem_at 0 rfl) Tryz.underlying124 <| mv0 rfl rfl <| .fin ?_
  refine WP.gh (l' := fun _ : Unit => [own strK nilV.1 [], own Pos.K v5.1 S, mpo Value.string DNode.O v0_0.1 a0.fnodes, blk b0_ 102 [vS a0.froom, eq v0_0.1]] ++ F) (gh_of (st_nil strK none)) (fun _ _ => ?_)
  refine WP.block ?_
  refine WP.weak (E' := (fun b : Nat × OV => [(8, eq b.2.1), (35, eq v5.1), (36, vI (S.length : Int)), (37, vI (b.1 : Int))]) (0, nilV)) (weak_cons rfl (weak_cons rfl (weak_cons rfl (weak_cons rfl weak_nil)))) (WP.loop (β := Nat × OV) (fun k b => b.1 + k = S.length) (fun b => [(8, eq b.2.1), (35, eq v5.1), (36, vI (S.length : Int)), (37, vI (b.1 : Int))]) (fun b => [own strK b.2.1 ((S.take b.1).map (·.fID)), own Pos.K v5.1 S, mpo Value.string DNode.O v0_0.1 a0.fnodes, blk b0_ 102 [vS a0.froom, eq v0_0.1]] ++ F) ?_ (k := S.length) (b := (0, nilV)) (Nat.zero_add _))
  rintro k ⟨j, v8⟩ hk
  replace hk : j + k = S.length := hk
  refine WP.seq <| rg 1 0 <| bn0 rfl rfl rfl run_lt <| .fin <| WP.seq <| WP.cond rfl (fun c2 => WP.skip ?_) (fun c2 => WP.exit ?_)
  rotate_left
  · have c3 : ¬ ((j : Int) < (S.length : Int)) := of_decide_eq_false c2
    have e3 : S.take j = S := List.take_of_length_le (by omega)
    change ∀ R a w, R0.le R → Agr _ R a _ → St R ([own strK v8.1 ((S.take j).map (·.fID)), own Pos.K v5.1 S, mpo Value.string DNode.O v0_0.1 a0.fnodes, blk b0_ 102 [vS a0.froom, eq v0_0.1]] ++ F) w → _
    rw [e3]
    exact Jn.mk v8 trivial (weak_cons rfl weak_nil) (List.Perm.refl _)
  have c3 : (j : Int) < (S.length : Int) := of_decide_eq_true c2
  have hj : j < S.length := by omega
  refine WP.seq <| WP.block <| WP.seq <| rg 4 12 <| Dv.ixw rfl trivial rfl (mem_at 1 rfl) rfl Tryz.underlying124 Tryz.underlying61 c61 (by omega) c3 <| Dv.ldws (j := j) (f := 0) rfl trivial rfl (mem_at 1 rfl) hj Tryz.underlying61 rfl c61 (Nat.le_of_ble_eq_true rfl) <| al rfl trivial zc61 nofun fun b => sx 0 rfl trivial rfl rfl cA sz61 rfl rfl rfl nofun <| .fin ?_
  have hbd : ((S.take j).map (·.fID)).length + ([(S.getD j default).fID] : List ByteArray).length ≤ 9223372036854775807 ∧ (((S.take j).map (·.fID)).length + ([(S.getD j default).fID] : List ByteArray).length) * 16 ≤ 140737488355328 := by rw [List.length_singleton, List.length_map, List.length_take]; omega
  refine rg 6 16 <| mv0 rfl rfl <| fb rfl trivial rfl fa61_1 <| ld 0 rfl trivial rfl sc9 rfl rfl <| Dv.lit strK ([(S.getD j default).fID] : List ByteArray) (css := [[vS ((S.getD j default).fID)]]) rfl trivial Tryz.underlying31 Tryz.underlying9 c9 z9 rfl (by decide) (by decide) rfl ⟨(cells_one (one_eq rfl)), trivial⟩ rfl rfl rfl <| ap strK 1 ([(S.getD j default).fID] : List ByteArray) src_sl Tryz.underlying31 (.inr ⟨_, Tryz.underlying31⟩) inf9 hbd nofun fun v9 => as0 rfl rfl <| .fin ?_
  refine WP.gh (l' := fun _ : Unit => [own strK v9.1 ((S.take j).map (·.fID) ++ ([(S.getD j default).fID] : List ByteArray)), own Pos.K v5.1 S, mpo Value.string DNode.O v0_0.1 a0.fnodes, blk b0_ 102 [vS a0.froom, eq v0_0.1]] ++ F) (gh_of (st_selgn 5 [0,1,2,3,4] 1 (by kernel_rfl) rfl rfl)) (fun _ _ => ?_)
  have e4 : (S.take j).map (·.fID) ++ ([(S.getD j default).fID] : List ByteArray) = (S.take (j + 1)).map (·.fID) := by rw [List.take_add_one, List.map_append, List.getD_eq_getElem?_getD, List.getElem?_eq_getElem hj]; rfl
  rw [e4]
  refine rg 2 0 <| bn0 rfl rfl rfl (run_addn (a := j) (b := 1) (by omega)) <| mv0 rfl rfl <| .fin ?_
  exact Back.mk (k - 1) (j + 1, v9) (by omega) (by show j + 1 + (k - 1) = S.length; omega) (weak_cons rfl (weak_cons rfl (weak_cons rfl (weak_cons rfl weak_nil)))) (List.Perm.refl _)
theorem dag_Dag_All.c {k : Nat} {a0 : DDag} {v0_0 : OV} {b0_ : Nat} {r : (List Event)} (h : dag_Dag_All.f k a0 = some r) : Tr Tryz.prog 55 [eq (.pointer (some ⟨b0_, 0, none⟩))] [blk b0_ 102 [vS a0.froom, eq v0_0.1], mpo Value.string DNode.O v0_0.1 a0.fnodes] (γ := OV) (fun _ => True) (fun g => eq g.1) (fun g => [blk b0_ 102 [vS a0.froom, eq v0_0.1], mpo Value.string DNode.O v0_0.1 a0.fnodes, own Event.K g.1 r]) := by
 unfold dag_Dag_All.f at h
 refine Tr.body Tryz.func55 (c := _) rfl Tryz.ntmps55 (Nat.le_of_ble_eq_true rfl) fun R0 F => ?_
 replace h := Gets.of h
 have H := h
 clear h
 refine WP.seq <| rg 1 0 <| as0 rfl rfl <| .fin <| WP.seq <| rg 1 0 <| as0 rfl rfl <| .fin <| WP.seqn H (fun q769 : (Int × Int × Bool × (List Event) × (List ByteArray)) × OV × OV => q769.1) (fun q769 : (Int × Int × Bool × (List Event) × (List ByteArray)) × OV × OV => [(0, eq (.pointer (some ⟨b0_, 0, none⟩))), (2, eq (.slice none 0 0)), (3, eq q769.2.1.1), (7, eq q769.2.2.1), (8, vI q769.1.1), (9, vI q769.1.2.1), (10, vB q769.1.2.2.1)]) (fun q769 : (Int × Int × Bool × (List Event) × (List ByteArray)) × OV × OV => [blk b0_ 102 [vS a0.froom, eq v0_0.1], mpo Value.string DNode.O v0_0.1 a0.fnodes, own Event.K q769.2.1.1 q769.1.2.2.2.1, own strK q769.2.2.1 q769.1.2.2.2.2] ++ F) (fun q769 H => ?_) (fun H => ?_)
 ·
  obtain ⟨p746, v747, v748⟩ := q769
  refine WP.seq <| rg 2 0 <| mv0 rfl rfl <| as0 rfl rfl <| .fin ?_
  obtain rfl := Gets.out H
  exact rt i2 rfl v747 4 [3,0,1,2] 1 (.cons (res_tmp rfl) .nil)
 refine WP.seq <| rg 4 2 <| mv0 rfl rfl <| el H fun t749 h750 H => cx 2 [0,1] cal89 (dag_Dag_ids_All.c h750 (b0_ := b0_) (v0_0 := v0_0)) nofun fun g751 _ => ?_
 refine Dv.lenw rfl trivial rfl (mem_at 2 rfl) Tryz.underlying31 <| mv0 rfl rfl <| .fin <| WP.block <| wg (st_nil Event.K none) fun _ _ => ?_
 refine wg (sg 4 [1,2,3,0] 0) fun _ _ => ?_
 refine lp (fun j_ (p768 : Int × (List Event) × OV) => dag_Dag_All.l0 k a0 t749 j_ p768.1 p768.2.1) (0, ([] : List Event), nilV) H (fun p768 => [(0, eq (.pointer (some ⟨b0_, 0, none⟩))), (2, eq (.slice none 0 0)), (3, eq p768.2.2.1), (7, eq g751.1), (8, vI (t749.length : Int)), (9, vI p768.1)]) (fun p768 => [blk b0_ 102 [vS a0.froom, eq v0_0.1], mpo Value.string DNode.O v0_0.1 a0.fnodes, own strK g751.1 t749, own Event.K p768.2.2.1 p768.2.1] ++ F) ?_
 rintro j_ ⟨x752, x753, v754⟩ H
 rcases j_ with _ | j767
 ·
  exact (Gets.no H).elim
 replace H : Gets (dag_Dag_All.l0 k a0 t749 (j767 + 1) x752 x753) _ := H
 rw [dag_Dag_All.l0] at H
 refine WP.seq <| rg 1 0 <| bn0 rfl rfl rfl run_lt <| .fin <| WP.seq <| cd H rfl (fun _ H => ?_) (fun _ H => ?_)
 rotate_left
 ·
  refine WP.exit ?_
  replace H := Gets.out H
  refine ng (sg 4 [0,1,3,2] 0) fun _ _ => ?_
  exact jn (((t749.length : Int), x752, decide (x752 < (t749.length : Int)), x753, t749), v754, g751) H
 refine WP.skip <| WP.seq <| WP.block <| WP.seq <| rg 3 0 <| gr H fun g756 H => ?_
 have h757 : x752.toNat < t749.length := idx_lt g756
 refine Dv.ixw rfl trivial rfl (mem_at 2 rfl) rfl Tryz.underlying31 Tryz.underlying9 c9 g756.1 g756.2 <| Dv.ldw (j := x752.toNat) (f := 0) (p := vS (t749.getD x752.toNat default)) rfl trivial rfl (mem_at 2 rfl) h757 Tryz.underlying9 rfl rfl <| as0 rfl rfl <| .fin <| rg 14 4096 <| mv0 rfl rfl <| mv0 rfl rfl <| Dv.nilp rfl trivial rfl <| fb rfl trivial rfl fa102_1 <| ld 0 rfl trivial rfl sc100 rfl rfl <| mv0 rfl rfl <| vg (mpo_opn 1 rfl) fun z758 h759 => ?_
 refine Dv.mlv nilP rfl trivial rfl (mem_at 0 rfl) rfl Tryz.underlying100 (keyOk_str Tryz.underlying9) z103 (fun _ => rfl) <| gr H fun g760 H => vg (mpo_foc h759 rfl g760 (pm 5 [1,0,2,3,4])) fun _ _ => ?_
 refine Dv.nilA DNode.nn rfl trivial rfl (mem_at 0 rfl) <| vg (DNode.opn 0 rfl) fun g761 h762 => ?_
 refine fp h762 rfl trivial rfl fa105_0 <| lds 0 rfl trivial rfl sg33 rfl rfl <| el H fun t763 h764 H => cl rfl cal88 rfl (dag_own.c h764) <| Dv.lit Event.K ([t763] : List Event) (css := [Event.enc t763]) rfl trivial Tryz.underlying23 Tryz.underlying33 c33 z33 rfl (by decide) (by decide) rfl ⟨(cells_agg (Event.K.one _)), trivial⟩ rfl rfl rfl <| gr H fun g765 H => ap Event.K 5 ([t763] : List Event) src_sl Tryz.underlying23 (.inr ⟨_, Tryz.underlying23⟩) inf33 g765 nofun fun v766 => ?_
 refine as0 rfl rfl <| .fin <| rg 2 0 <| bn0 rfl rfl rfl run_add <| mv0 rfl rfl <| .fin <| ng (DNode.shut (p := ((mget (zipK a0.fnodes z758) (t749.getD x752.toNat default)).getD nilP)) (m := (mget a0.fnodes (t749.getD x752.toNat default)).getD default) g761 h762 (pm 6 [0,1,2,3,4,5])) fun _ _ => ?_
 refine ng (mpo_unf0 h759 rfl g760 (pm 6 [0,1,2,3,4,5])) fun _ _ => ?_
 refine ng (mpo_shut h759 rfl (pm 5 [1,0,2,3,4])) fun _ _ => ?_
 refine ng (sg 4 [1,0,2,3] 0) fun _ _ => ?_
 exact bk j767 (w64 (x752 + 1), x753 ++ ([t763] : List Event), v766) H
theorem view_View_Events.c {k : Nat} {a0 : VView} {a1 : ByteArray} {p0_ : OV} {r : (List Event)} (h : view_View_Events.f k a0 a1 = some r) : Tr Tryz.prog 15 [eq p0_.1, vS a1] [VView.O p0_ a0] (γ := OV) (fun _ => True) (fun g => eq g.1) (fun g => [VView.O p0_ a0, own Event.K g.1 r]) := by
 unfold view_View_Events.f at h
 refine Tr.body Tryz.func15 (c := _) rfl Tryz.ntmps15 (Nat.le_of_ble_eq_true rfl) fun R0 F => ?_
 replace h := Gets.of h
 have H := h
 clear h
 refine WP.seq <| rg 1 0 <| as0 rfl rfl <| .fin <| WP.seq <| rg 5 12 <| mv0 rfl rfl <| mv0 rfl rfl <| vg (VView.opn 0 rfl) fun g770 h771 => ?_
 refine el H fun t772 h773 H => cx 2 [0,1] cal52 (Tr.weak (view_View_room.c h773 (b0_ := g770.1) (v0_0 := g770.2)) (.cons (wk_ptr h771) (.cons wk_id .nil))) nofun fun v774 _ => ?_
 refine vg (DDag.opn 2 rfl) fun g775 h776 => ?_
 refine el H fun t777 h778 H => cx 4 [0,1,2,3] cal55 (Tr.weak (dag_Dag_All.c h778 (b0_ := g775.1) (v0_0 := g775.2)) (.cons (wk_ptr h776) .nil)) nofun fun g779 _ => ?_
 refine as0 rfl rfl <| .fin <| wg (DDag.shut (p := v774) (m := t772) (g775.1, g775.2) h776 (pm 5 [0,1,2,3,4])) fun _ _ => ?_
 refine wg (mpl_back0 (view_View_room.r h773) (pm 4 [3,0,1,2])) fun _ _ => ?_
 refine wg (VView.shut (p := p0_) (m := a0) (g770.1, g770.2) h771 (pm 3 [2,0,1])) fun _ _ => ?_
 obtain rfl := Gets.out H
 exact rt i2 rfl g779 2 [0,1] 0 (.cons (res_tmp rfl) .nil)
theorem concourseref07_Before.c {a0 : Pos} {a1 : Pos} {r : Bool} (h : concourseref07_Before.f a0 a1 = some r) : Pt Tryz.prog 56 [agg (Pos.enc a0), agg (Pos.enc a1)] (vB r) := by
 unfold concourseref07_Before.f at h
 refine (Tr.body Tryz.func56 (c := _) rfl Tryz.ntmps56 (Nat.le_of_ble_eq_true rfl) fun R0 F => ?_).pt
 replace h := Gets.of h
 have H := h
 clear h
 refine WP.seq <| rg 3 3 <| Dv.box rfl trivial rfl cA nofun fun b780 => Dv.box rfl trivial rfl cA nofun fun b781 => as0 rfl rfl <| .fin <| WP.seq <| rg 20 0 <| fb rfl trivial rfl fa61_0 <| ld 1 rfl trivial rfl sc3 rfl rfl <| fb rfl trivial rfl fa61_0 <| ld 0 rfl trivial rfl sc3 rfl rfl <| bn0 rfl rfl rfl run_lt <| mv0 rfl rfl ?_
 cases c782 : decide (a0.fDepth < a1.fDepth)
 rotate_left
 ·
  replace H := Gets.ct H c782
  refine sk rfl rfl <| sk rfl rfl <| sk rfl rfl <| sk rfl rfl <| sk rfl rfl <| sk rfl rfl <| sku rfl rfl <| sku rfl rfl <| sku rfl rfl <| sku rfl rfl <| sku rfl rfl <| sk rfl rfl <| pt0 rfl rfl rfl <| as0 rfl rfl <| .fin ?_
  obtain rfl := Gets.out H
  exact rt i2 rfl () 2 [0,1] 2 (.cons (res_tmp rfl) .nil)
 replace H := Gets.cf H c782
 refine fb rfl (gg rfl) rfl fa61_0 <| ld 1 rfl (gg rfl) rfl sc3 rfl rfl <| fb rfl (gg rfl) rfl fa61_0 <| ld 0 rfl (gg rfl) rfl sc3 rfl rfl <| bng rfl rfl rfl rfl run_eq <| mvg rfl rfl rfl ?_
 cases c783 : (a0.fDepth == a1.fDepth)
 ·
  replace H := Gets.cf H c783
  refine sk rfl rfl <| sk rfl rfl <| sk rfl rfl <| sk rfl rfl <| sk rfl rfl <| pfg rfl rfl rfl rfl <| pf0 rfl rfl rfl <| as0 rfl rfl <| .fin ?_
  obtain rfl := Gets.out H
  exact rt i2 rfl () 2 [0,1] 2 (.cons (res_tmp rfl) .nil)
 replace H := Gets.ct H c783
 refine fb rfl (gg rfl) rfl fa61_1 <| ld 1 rfl (gg rfl) rfl sc9 rfl rfl <| fb rfl (gg rfl) rfl fa61_1 <| ld 0 rfl (gg rfl) rfl sc9 rfl rfl <| bng rfl rfl rfl rfl run_slt <| ptg rfl rfl rfl rfl <| pf0 rfl rfl rfl <| as0 rfl rfl <| .fin ?_
 obtain rfl := Gets.out H
 exact rt i2 rfl () 2 [0,1] 2 (.cons (res_tmp rfl) .nil)
theorem concourseref07_Depth.c {k : Nat} {a0 : RDag} {a1 : ByteArray} {r : Int} (h : concourseref07_Depth.f k a0 a1 = some r) : Pt Tryz.prog 91 [agg (RDag.enc a0), vS a1] (vI r) := by
 unfold concourseref07_Depth.f at h
 refine (Tr.body Tryz.func91 (c := _) rfl Tryz.ntmps91 (Nat.le_of_ble_eq_true rfl) fun R0 F => ?_).pt
 replace h := Gets.of h
 have H := h
 clear h
 refine WP.seq <| rg 2 1 <| Dv.box rfl trivial rfl cA nofun fun b784 => as0 rfl rfl <| .fin <| WP.seq <| rg 4 0 <| lds 0 rfl trivial rfl sg36 rfl rfl <| mv0 rfl rfl <| el H fun t785 h786 H => cl rfl cal69 rfl (concourseref07_At.c h786) <| as0 rfl rfl <| .fin <| WP.seq <| WP.seq <| rg 2 0 <| mv0 rfl rfl <| bn0 rfl rfl rfl run_lt <| .fin <| cd H rfl (fun _ H => ?_) (fun _ H => ?_)
 ·
  refine WP.seq <| rg 1 0 <| as0 rfl rfl <| .fin ?_
  obtain rfl := Gets.out H
  exact rt i2 rfl () 1 [0] 1 (.cons (res_tmp rfl) .nil)
 refine WP.skip <| WP.seq <| rg 4 4 <| mv0 rfl rfl <| bn0 rfl rfl rfl run_add <| gr H fun g788 H => ?_
 obtain ⟨ti789, ti789a, ti789b, ti789c, ti789d⟩ := inf3
 refine Dv.mks (Kd := (intK .i64)) (0 : Int) rfl trivial rfl rfl Tryz.underlying24 ti789a ti789b ti789c ti789d rfl (by decide) rfl g788 nofun (fun v790 => ?_)
 refine as0 rfl rfl <| .fin <| WP.seqn H id (fun p791 : Int × Bool × (List Int) => [(0, agg (RDag.enc a0)), (1, vS a1), (2, eq (.pointer (some ⟨b784, 0, none⟩))), (4, vI 0), (5, vI t785), (6, eq v790.1), (7, vI p791.1), (13, vB (decide (t785 < 0))), (19, vB p791.2.1)]) (fun p791 : Int × Bool × (List Int) => [blk b784 36 (RDag.enc a0), own (intK .i64) v790.1 p791.2.2] ++ F) (fun p791 H => ?_) (fun H => ?_)
 ·
  refine WP.seq <| rg 5 0 <| mv0 rfl rfl <| mv0 rfl rfl <| gr H fun g792 H => ?_
  have h793 : t785.toNat < p791.2.2.length := idx_lt g792
  refine Dv.ixw rfl trivial rfl (mem_at 1 rfl) rfl Tryz.underlying24 Tryz.underlying3 c3 g792.1 g792.2 <| Dv.ldw (j := t785.toNat) (f := 0) (p := vI (p791.2.2.getD t785.toNat default)) rfl trivial rfl (mem_at 1 rfl) h793 Tryz.underlying3 rfl rfl <| as0 rfl rfl <| .fin ?_
  obtain rfl := Gets.out H
  exact rt i2 rfl () 2 [0,1] 2 (.cons (res_tmp rfl) .nil)
 refine WP.seq <| rg 1 0 <| as0 rfl rfl <| .fin <| WP.block <| wg (sg 2 [1,0] 0) fun _ _ => ?_
 refine lp (fun j_ (p815 : Int × (List Int)) => concourseref07_Depth.l0 k a0 t785 j_ p815.1 p815.2) (0, List.replicate (w64 (t785 + 1)).toNat (0 : Int)) H (fun p815 => [(0, agg (RDag.enc a0)), (1, vS a1), (2, eq (.pointer (some ⟨b784, 0, none⟩))), (4, vI 0), (5, vI t785), (6, eq v790.1), (7, vI p815.1), (13, vB (decide (t785 < 0)))]) (fun p815 => [blk b784 36 (RDag.enc a0), own (intK .i64) v790.1 p815.2] ++ F) ?_
 rintro j_ ⟨x794, x795⟩ H
 rcases j_ with _ | j814
 ·
  exact (Gets.no H).elim
 replace H : Gets (concourseref07_Depth.l0 k a0 t785 (j814 + 1) x794 x795) _ := H
 rw [concourseref07_Depth.l0] at H
 refine WP.seq <| WP.seq <| rg 3 0 <| mv0 rfl rfl <| mv0 rfl rfl <| bn0 rfl rfl rfl run_le <| .fin <| cd H rfl (fun _ H => ?_) (fun _ H => ?_)
 rotate_left
 ·
  refine WP.exit ?_
  replace H := Gets.out H
  exact jn (x794, decide (x794 ≤ t785), x795) H
 refine WP.skip <| WP.seqn H id (fun p797 : Int × Bool × (List Int) => [(0, agg (RDag.enc a0)), (1, vS a1), (2, eq (.pointer (some ⟨b784, 0, none⟩))), (4, vI 0), (5, vI t785), (6, eq v790.1), (7, vI x794), (8, vI p797.1), (13, vB (decide (t785 < 0))), (19, vB (decide (x794 ≤ t785))), (30, vB p797.2.1)]) (fun p797 : Int × Bool × (List Int) => [blk b784 36 (RDag.enc a0), own (intK .i64) v790.1 p797.2.2] ++ F) (fun p797 H => ?_) (fun H => ?_)
 ·
  exact rg 3 0 <| mv0 rfl rfl <| bn0 rfl rfl rfl run_add <| as0 rfl rfl <| .fin <| bk j814 (w64 (x794 + 1), p797.2.2) H
 refine WP.block <| WP.seq <| rg 1 0 <| as0 rfl rfl <| .fin <| WP.block <| wg (sg 2 [0,1] 0) fun _ _ => ?_
 refine lp (fun j_ (p813 : Int × (List Int)) => concourseref07_Depth.l1 k a0 x794 j_ p813.1 p813.2) (0, x795) H (fun p813 => [(0, agg (RDag.enc a0)), (1, vS a1), (2, eq (.pointer (some ⟨b784, 0, none⟩))), (4, vI 0), (5, vI t785), (6, eq v790.1), (7, vI x794), (8, vI p813.1), (13, vB (decide (t785 < 0))), (19, vB (decide (x794 ≤ t785)))]) (fun p813 => [blk b784 36 (RDag.enc a0), own (intK .i64) v790.1 p813.2] ++ F) ?_
 rintro j_ ⟨x798, x799⟩ H
 rcases j_ with _ | j812
 ·
  exact (Gets.no H).elim
 replace H : Gets (concourseref07_Depth.l1 k a0 x794 (j812 + 1) x798 x799) _ := H
 rw [concourseref07_Depth.l1] at H
 refine WP.seq <| WP.seq <| rg 9 0 <| mv0 rfl rfl <| fb rfl trivial rfl fa36_1 <| ld 0 rfl trivial rfl sc23 rfl rfl <| mv0 rfl rfl <| gr H fun g800 H => Dv.ixr rfl trivial rfl rfl Tryz.underlying23 Tryz.underlying33 c33 g800.1 g800.2 <| fr rfl trivial rfl fa33_2 rfl <| ldR rfl trivial rfl sc31 rfl <| Dv.lenl rfl trivial rfl Tryz.underlying31 <| bn0 rfl rfl rfl run_lt <| .fin <| cd H rfl (fun _ H => ?_) (fun _ H => ?_)
 rotate_left
 ·
  refine WP.exit ?_
  replace H := Gets.out H
  exact jn (x798, decide (x798 < (((Event.K.at a0.fL x794).fParents).length : Int)), x799) H
 refine WP.skip <| WP.seq <| WP.block <| dg Tryz.checked.mixed 24 8388608 <| mv0 rfl rfl <| mv0 rfl rfl <| mv0 rfl rfl <| mv0 rfl rfl <| gr H fun g802 H => ?_
 have h803 : x794.toNat < x799.length := idx_lt g802
 refine Dv.ixw rfl trivial rfl (mem_at 1 rfl) rfl Tryz.underlying24 Tryz.underlying3 c3 g802.1 g802.2 <| Dv.ldw (j := x794.toNat) (f := 0) (p := vI (x799.getD x794.toNat default)) rfl trivial rfl (mem_at 1 rfl) h803 Tryz.underlying3 rfl rfl <| mv0 rfl rfl <| lds 0 rfl trivial rfl sg36 rfl rfl <| fb rfl trivial rfl fa36_1 <| ld 0 rfl trivial rfl sc23 rfl rfl <| mv0 rfl rfl <| gr H fun g804 H => Dv.ixr rfl trivial rfl rfl Tryz.underlying23 Tryz.underlying33 c33 g804.1 g804.2 <| fr rfl trivial rfl fa33_2 rfl <| ldR rfl trivial rfl sc31 rfl <| mv0 rfl rfl <| gr H fun g805 H => Dv.ixr rfl trivial rfl rfl Tryz.underlying31 Tryz.underlying9 c9 g805.1 g805.2 <| ldR rfl trivial rfl sc9 rfl <| el H fun t806 h807 H => cl rfl cal69 rfl (concourseref07_At.c h807) <| gr H fun g808 H => ?_
 have h809 : t806.toNat < x799.length := idx_lt g808
 refine Dv.ixw rfl trivial rfl (mem_at 1 rfl) rfl Tryz.underlying24 Tryz.underlying3 c3 g808.1 g808.2 <| Dv.ldw (j := t806.toNat) (f := 0) (p := vI (x799.getD t806.toNat default)) rfl trivial rfl (mem_at 1 rfl) h809 Tryz.underlying3 rfl rfl <| bn0 rfl rfl rfl run_add <| Dv.maxi rfl trivial rfl rfl <| gr H fun g810 H => ?_
 have h811 : x794.toNat < x799.length := idx_lt g810
 exact Dv.ixw rfl trivial rfl (mem_at 1 rfl) rfl Tryz.underlying24 Tryz.underlying3 c3 g810.1 g810.2 <| Dv.stw (j := x794.toNat) (f := 0) (jj := 1) (max (x799.getD x794.toNat default) (w64 ((x799.getD t806.toNat default) + 1))) rfl trivial rfl rfl (cells_one (one_eq rfl)) Tryz.underlying3 c3 rfl rfl h811 (Nat.le_of_ble_eq_true rfl) rfl (fun _ => pend_bits (by kernel_rfl)) <| .fin <| rg 3 0 <| mv0 rfl rfl <| bn0 rfl rfl rfl run_add <| as0 rfl rfl <| .fin <| bk j812 (w64 (x798 + 1), x799.set x794.toNat (max (x799.getD x794.toNat default) (w64 ((x799.getD t806.toNat default) + 1)))) H
theorem concourseref07_Position.c {k : Nat} {a0 : RDag} {a1 : ByteArray} {r : Pos} (h : concourseref07_Position.f k a0 a1 = some r) : Pt Tryz.prog 57 [agg (RDag.enc a0), vS a1] (agg (Pos.enc r)) := by
 unfold concourseref07_Position.f at h
 refine (Tr.body Tryz.func57 (c := _) rfl Tryz.ntmps57 (Nat.le_of_ble_eq_true rfl) fun R0 F => ?_).pt
 replace h := Gets.of h
 have H := h
 clear h
 refine WP.seq <| rg 2 3 <| Dv.box rfl trivial rfl cA nofun fun b816 => al rfl trivial zc61 nofun fun b817 => .fin <| WP.seq <| rg 6 32 <| lds 1 rfl trivial rfl sg36 rfl rfl <| mv0 rfl rfl <| el H fun t818 h819 H => cl rfl cal91 rfl (concourseref07_Depth.c h819) <| mv0 rfl rfl <| Dv.bld (css := [[vI t818], [vS a1]]) rfl trivial Tryz.underlying61 pl61 z61 rfl ⟨(cells_one (one_eq rfl)), ⟨(cells_one (one_eq rfl)), trivial⟩⟩ rfl rfl <| sx 0 rfl trivial rfl rfl cA sz61 rfl rfl rfl nofun ?_
 refine .fin ?_
 obtain rfl := Gets.out H
 exact rt i2 rfl () 2 [0,1] 2 (.cons (res_cells rfl Tryz.underlying61 rfl c61 (mem_at 0 rfl) rfl) .nil)
end Go.Proofs.YtigmkniiojpdiaaGreat
