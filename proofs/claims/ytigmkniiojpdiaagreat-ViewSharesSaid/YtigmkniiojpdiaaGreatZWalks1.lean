/- The walks. -/
import Derived.Test.YtigmkniiojpdiaaGreatZMir
import Derived.Test.YtigmkniiojpdiaaGreatConQ
import Derived.Test.YtigmkniiojpdiaaGreatConA5
import Derived.Eval
import Derived.Test.YtigmkniiojpdiaaGreatZShelf
set_option linter.all false
set_option maxRecDepth 10000
set_option maxHeartbeats 20000000
namespace Go.Proofs.YtigmkniiojpdiaaGreat
open Go Go.Sp
theorem dag_New.c {a0 : ByteArray} {r : DDag} (h : dag_New.f a0 = some r) : Tr Tryz.prog 84 [vS a0] [] (γ := OV) (fun _ => True) (fun g => eq g.1) (fun g => [DDag.O g r]) := by
 unfold dag_New.f at h
 refine Tr.body Tryz.func84 (c := _) rfl Tryz.ntmps84 (Nat.le_of_ble_eq_true rfl) fun R0 F => ?_
 replace h := Gets.of h
 have H := h
 clear h
 refine WP.seq <| rg 1 0 <| as0 rfl rfl <| .fin <| WP.seq <| rg 5 10 <| mv0 rfl rfl <| Dv.mmk Value.string (fun p : OV => eq p.1) rfl trivial nofun (fun v1 => ?_)
 refine vg (mpo_new DNode.O) fun _ _ => ?_
 refine Dv.bld (qs := [vS a0, eq v1.1]) (css := [[vS a0], [eq v1.1]]) rfl trivial Tryz.underlying102 pl102 z102 rfl ⟨(cells_one (one_eq rfl)), ⟨(cells_one one_ov), trivial⟩⟩ rfl rfl <| Dv.box rfl trivial rfl cA nofun fun b2 => as0 rfl rfl <| .fin <| wg (DDag.shut (p := (⟨.pointer (some ⟨b2, 0, none⟩), rfl⟩ : OV)) (m := (⟨a0, ([] : List (ByteArray × DNode))⟩ : DDag)) (b2, v1) rfl (pm 2 [0,1])) fun _ _ => ?_
 obtain rfl := Gets.out H
 exact rt i2 rfl (⟨.pointer (some ⟨b2, 0, none⟩), rfl⟩ : OV) 1 [0] 0 (.cons (res_tmp rfl) .nil)
theorem view_View_room.r {a0 : VView} {a1 : ByteArray} {r : DDag} (h : view_View_room.f a0 a1 = some r) : ∀ x, mget a0.fdags a1 = some x → x = r := fun x e => by
 unfold view_View_room.f at h; rw [e] at h; exact Option.some.inj h
theorem view_View_room.c {a0 : VView} {a1 : ByteArray} {b0_ : Nat} {v0_0 : OV} {r : DDag} (h : view_View_room.f a0 a1 = some r) : Tr Tryz.prog 52 [eq (.pointer (some ⟨b0_, 0, none⟩)), vS a1] [blk b0_ 80 [eq v0_0.1], mpo Value.string DDag.O v0_0.1 a0.fdags] (γ := OV) (fun _ => True) (fun g => eq g.1) (fun g => [blk b0_ 80 [eq v0_0.1], mpl Value.string DDag.O v0_0.1 a0.fdags a1 g, DDag.O g r]) := by
 unfold view_View_room.f at h
 refine Tr.body Tryz.func52 (c := _) rfl Tryz.ntmps52 (Nat.le_of_ble_eq_true rfl) fun R0 F => ?_
 replace h := Gets.of h
 have H := h
 clear h
 refine WP.seq <| WP.reg [(0, false)] (by kernel_rfl) <| as0 rfl rfl <| .fin <| WP.seq <| WP.seq <| WP.reg [(0, false), (1, false), (2, false), (3, false), (4, false), (5, false), (6, false)] (by kernel_rfl) <| mv0 rfl rfl <| Dv.nilp rfl trivial rfl <| Dv.fab rfl trivial rfl Tryz.underlying80 rfl Tryz.underlying78 c78 (by decide) <| Dv.ldb rfl trivial rfl Tryz.underlying78 rfl (mem_at 0 rfl) rfl <| mv0 rfl rfl <| vg (mpo_opn 1 rfl) fun z1 h1 => ?_
 refine Dv.mlv nilP rfl trivial rfl (mem_at 0 rfl) rfl Tryz.underlying78 (keyOk_str Tryz.underlying9) z76 (fun _ => rfl) <| as0 rfl rfl <| .fin <| WP.seq <| WP.reg [(0, false), (1, false)] (by kernel_rfl) <| mv0 rfl rfl <| Dv.pm1 (pm_nil h1 rfl) rfl trivial rfl rfl Tryz.underlying76 <| .fin <| WP.cond rfl (fun c1 => ?_) (fun c1 => ?_)
 ·
  have e1 : (mget a0.fdags a1).isSome = true := by cases e : mget a0.fdags a1 with | none => rw [e] at c1; cases c1 | some _ => rfl
  replace H := Gets.ct H e1
  obtain rfl := Gets.out H
  refine WP.seq <| WP.reg [(0, false), (1, false)] (by kernel_rfl) <| mv0 rfl rfl <| as0 rfl rfl <| .fin <| wg (mpl_some h1 rfl e1 (pm 3 [0,1,2])) fun _ _ => ?_
  exact rt i2 rfl ((mget (zipK a0.fdags z1) a1).getD nilP) 3 [2,0,1] 0 (.cons (res_tmp rfl) .nil)
 have e1 : (mget a0.fdags a1).isSome = false := by cases e : mget a0.fdags a1 with | none => rfl | some _ => rw [e] at c1; cases c1
 replace H := Gets.cf H e1
 refine WP.skip <| WP.seq <| WP.reg [(0, false), (1, true), (2, false)] (by kernel_rfl) <| mv0 rfl rfl <| cx 0 [] cal84 (dag_New.c (by obtain ⟨_, e, rfl⟩ := H; exact e)) nofun fun g2 _ => ?_
 refine as0 rfl rfl <| .fin <| wg (mpl_none g2 h1 rfl e1 (pm 4 [1,2,0,3])) fun _ _ => ?_
 exact rt i2 rfl g2 3 [2,0,1] 0 (.cons (res_tmp rfl) .nil)
theorem slices_IndexFunc_string_x.c {k : Nat} {a0 : List ByteArray} {a1 : (ByteArray → Option Bool)} {X1_ : As} {r : Int} (h : slices_IndexFunc_string_x.f k a0 a1 = some r) : Tr Tryz.prog 96 [sl strK a0, fx_string_bool X1_ a1] [X1_] (γ := Unit) (fun _ => True) (fun g => vI r) (fun g => [X1_]) := by
 unfold slices_IndexFunc_string_x.f at h
 refine Tr.body Tryz.func96 (c := _) rfl Tryz.ntmps96 (Nat.le_of_ble_eq_true rfl) fun R0 F => ?_
 replace h := Gets.of h
 have H := h
 clear h
 refine WP.seq <| rg 1 0 <| as0 rfl rfl <| .fin <| WP.seqr H id (fun p3 : Int × Bool => [(0, sl strK a0), (1, fx_string_bool X1_ a1), (4, vI 0), (7, vI (a0.length : Int)), (8, vI p3.1), (9, vB p3.2)]) (fun p3 : Int × Bool => [X1_] ++ F) (fun p3 H => ?_) (fun H => ?_)
 ·
  refine WP.seq <| rg 1 0 <| as0 rfl rfl <| .fin ?_
  obtain rfl := Gets.out H
  exact rt i2 rfl () 1 [0] 0 (.cons (res_tmp rfl) .nil)
 refine WP.seq <| rg 3 0 <| mv0 rfl rfl <| Dv.lenl rfl trivial rfl Tryz.underlying31 <| mv0 rfl rfl <| .fin <| WP.block <| wg (sg 1 [0] 0) fun _ _ => ?_
 refine lp (fun j_ (p11 : Int) => slices_IndexFunc_string_x.l0 k a0 a1 j_ p11) 0 H (fun p11 => [(0, sl strK a0), (1, fx_string_bool X1_ a1), (4, vI 0), (7, vI (a0.length : Int)), (8, vI p11)]) (fun p11 => [X1_] ++ F) ?_
 rintro j_ x4 H
 rcases j_ with _ | j10
 ·
  exact (Gets.no H).elim
 replace H : Gets (slices_IndexFunc_string_x.l0 k a0 a1 (j10 + 1) x4) _ := H
 rw [slices_IndexFunc_string_x.l0] at H
 refine WP.seq <| rg 1 0 <| bn0 rfl rfl rfl run_lt <| .fin <| WP.seq <| cd H rfl (fun _ H => ?_) (fun _ H => ?_)
 rotate_left
 ·
  refine WP.exit ?_
  replace H := Gets.out H
  exact jn (x4, decide (x4 < (a0.length : Int))) H
 refine WP.skip <| WP.seq <| WP.block <| WP.seq <| rg 2 0 <| mv0 rfl rfl <| as0 rfl rfl <| .fin <| WP.seq <| rg 6 0 <| mv0 rfl rfl <| mv0 rfl rfl <| mv0 rfl rfl <| gr H fun g6 H => Dv.ixr rfl trivial rfl rfl Tryz.underlying31 Tryz.underlying9 c9 g6.1 g6.2 <| ldR rfl trivial rfl sc9 rfl <| el H fun t7 h8 H => Dv.callfx (ret := vB t7) (X := X1_) (F := F) rfl trivial rfl rfl ⟨_, _, h8, rfl, rfl⟩ (perm_to (L := [X1_]) (F := F) [0] rfl rfl rfl) <| .fin <| cd H rfl (fun _ H => ?_) (fun _ H => ?_)
 rotate_left
 ·
  exact WP.skip <| rg 2 0 <| bn0 rfl rfl rfl run_add <| mv0 rfl rfl <| .fin <| bk j10 (w64 (x4 + 1)) H
 refine WP.seq <| rg 2 0 <| mv0 rfl rfl <| as0 rfl rfl <| .fin ?_
 replace H := Gets.outr H
 obtain rfl := Gets.out H
 exact rt i2 rfl () 1 [0] 0 (.cons (res_tmp rfl) .nil)
theorem slices_IndexFunc_string_xw.c {k : Nat} {a0 : List ByteArray} {a1 : (ByteArray → Option Bool)} {X1_ : As} {p0_ : OV} {r : Int} (h : slices_IndexFunc_string_xw.f k a0 a1 = some r) : Tr Tryz.prog 96 [eq p0_.1, fx_string_bool X1_ a1] [own strK p0_.1 a0, X1_] (γ := Unit) (fun _ => True) (fun g => vI r) (fun g => [own strK p0_.1 a0, X1_]) := by
 unfold slices_IndexFunc_string_xw.f at h
 refine Tr.body Tryz.func96 (c := _) rfl Tryz.ntmps96 (Nat.le_of_ble_eq_true rfl) fun R0 F => ?_
 replace h := Gets.of h
 have H := h
 clear h
 refine WP.seq <| rg 1 0 <| as0 rfl rfl <| .fin <| WP.seqr H id (fun p12 : Int × Bool => [(0, eq p0_.1), (1, fx_string_bool X1_ a1), (4, vI 0), (7, vI (a0.length : Int)), (8, vI p12.1), (9, vB p12.2)]) (fun p12 : Int × Bool => [own strK p0_.1 a0, X1_] ++ F) (fun p12 H => ?_) (fun H => ?_)
 ·
  refine WP.seq <| rg 1 0 <| as0 rfl rfl <| .fin ?_
  obtain rfl := Gets.out H
  exact rt i2 rfl () 2 [0,1] 0 (.cons (res_tmp rfl) .nil)
 refine WP.seq <| rg 3 0 <| mv0 rfl rfl <| Dv.lenw rfl trivial rfl (mem_at 0 rfl) Tryz.underlying31 <| mv0 rfl rfl <| .fin <| WP.block <| wg (sg 2 [0,1] 0) fun _ _ => ?_
 refine lp (fun j_ (p21 : Int) => slices_IndexFunc_string_xw.l0 k a0 a1 j_ p21) 0 H (fun p21 => [(0, eq p0_.1), (1, fx_string_bool X1_ a1), (4, vI 0), (7, vI (a0.length : Int)), (8, vI p21)]) (fun p21 => [own strK p0_.1 a0, X1_] ++ F) ?_
 rintro j_ x13 H
 rcases j_ with _ | j20
 ·
  exact (Gets.no H).elim
 replace H : Gets (slices_IndexFunc_string_xw.l0 k a0 a1 (j20 + 1) x13) _ := H
 rw [slices_IndexFunc_string_xw.l0] at H
 refine WP.seq <| rg 1 0 <| bn0 rfl rfl rfl run_lt <| .fin <| WP.seq <| cd H rfl (fun _ H => ?_) (fun _ H => ?_)
 rotate_left
 ·
  refine WP.exit ?_
  replace H := Gets.out H
  exact jn (x13, decide (x13 < (a0.length : Int))) H
 refine WP.skip <| WP.seq <| WP.block <| WP.seq <| rg 2 0 <| mv0 rfl rfl <| as0 rfl rfl <| .fin <| WP.seq <| rg 6 0 <| mv0 rfl rfl <| mv0 rfl rfl <| mv0 rfl rfl <| gr H fun g15 H => ?_
 have h16 : x13.toNat < a0.length := idx_lt g15
 refine Dv.ixw rfl trivial rfl (mem_at 0 rfl) rfl Tryz.underlying31 Tryz.underlying9 c9 g15.1 g15.2 <| Dv.ldw (j := x13.toNat) (f := 0) (p := vS (a0.getD x13.toNat default)) rfl trivial rfl (mem_at 0 rfl) h16 Tryz.underlying9 rfl rfl <| el H fun t17 h18 H => Dv.callfx (ret := vB t17) (X := X1_) (F := [own strK p0_.1 a0] ++ F) rfl trivial rfl rfl ⟨_, _, h18, rfl, rfl⟩ (perm_to (L := [own strK p0_.1 a0, X1_]) (F := F) [1, 0] rfl rfl rfl) <| .fin <| cd H rfl (fun _ H => ?_) (fun _ H => ?_)
 rotate_left
 ·
  exact WP.skip <| rg 2 0 <| bn0 rfl rfl rfl run_add <| mv0 rfl rfl <| .fin <| bk j20 (w64 (x13 + 1)) H
 refine WP.seq <| rg 2 0 <| mv0 rfl rfl <| as0 rfl rfl <| .fin ?_
 replace H := Gets.outr H
 obtain rfl := Gets.out H
 exact rt i2 rfl () 2 [0,1] 0 (.cons (res_tmp rfl) .nil)
theorem slices_ContainsFunc_string_x.c {k : Nat} {a0 : List ByteArray} {a1 : (ByteArray → Option Bool)} {X1_ : As} {r : Bool} (h : slices_ContainsFunc_string_x.f k a0 a1 = some r) : Tr Tryz.prog 62 [sl strK a0, fx_string_bool X1_ a1] [X1_] (γ := Unit) (fun _ => True) (fun g => vB r) (fun g => [X1_]) := by
 unfold slices_ContainsFunc_string_x.f at h
 refine Tr.body Tryz.func62 (c := _) rfl Tryz.ntmps62 (Nat.le_of_ble_eq_true rfl) fun R0 F => ?_
 replace h := Gets.of h
 have H := h
 clear h
 refine WP.seq <| rg 1 0 <| as0 rfl rfl <| .fin <| WP.seq <| rg 5 0 <| mv0 rfl rfl <| mv0 rfl rfl <| el H fun t22 h23 H => cll 1 [0] cal96 (slices_IndexFunc_string_x.c h23 (X1_ := X1_)) ?_
 refine bn0 rfl rfl rfl run_ge <| as0 rfl rfl <| .fin ?_
 obtain rfl := Gets.out H
 exact rt i2 rfl () 1 [0] 0 (.cons (res_tmp rfl) .nil)
theorem slices_ContainsFunc_string_xw.c {k : Nat} {a0 : List ByteArray} {a1 : (ByteArray → Option Bool)} {X1_ : As} {p0_ : OV} {r : Bool} (h : slices_ContainsFunc_string_xw.f k a0 a1 = some r) : Tr Tryz.prog 62 [eq p0_.1, fx_string_bool X1_ a1] [own strK p0_.1 a0, X1_] (γ := Unit) (fun _ => True) (fun g => vB r) (fun g => [own strK p0_.1 a0, X1_]) := by
 unfold slices_ContainsFunc_string_xw.f at h
 refine Tr.body Tryz.func62 (c := _) rfl Tryz.ntmps62 (Nat.le_of_ble_eq_true rfl) fun R0 F => ?_
 replace h := Gets.of h
 have H := h
 clear h
 refine WP.seq <| rg 1 0 <| as0 rfl rfl <| .fin <| WP.seq <| rg 5 0 <| mv0 rfl rfl <| mv0 rfl rfl <| el H fun t24 h25 H => cll 2 [0,1] cal96 (slices_IndexFunc_string_xw.c h25 (p0_ := p0_) (X1_ := X1_)) ?_
 refine bn0 rfl rfl rfl run_ge <| as0 rfl rfl <| .fin ?_
 obtain rfl := Gets.out H
 exact rt i2 rfl () 2 [0,1] 0 (.cons (res_tmp rfl) .nil)
theorem stringslite_HasPrefix.c {a0 : ByteArray} {a1 : ByteArray} {r : Bool} (h : stringslite_HasPrefix.f a0 a1 = some r) : Pt Tryz.prog 154 [vS a0, vS a1] (vB r) := by
 unfold stringslite_HasPrefix.f at h
 refine (Tr.body Tryz.func154 (c := _) rfl Tryz.ntmps154 (Nat.le_of_ble_eq_true rfl) fun R0 F => ?_).pt
 replace h := Gets.of h
 have H := h
 clear h
 refine WP.seq <| rg 1 0 <| as0 rfl rfl <| .fin <| WP.seq <| rg 14 0 <| mv0 rfl rfl <| Dv.lens rfl trivial rfl Tryz.underlying9 <| mv0 rfl rfl <| Dv.lens rfl trivial rfl Tryz.underlying9 <| bn0 rfl rfl rfl run_ge <| mv0 rfl rfl ?_
 cases c26 : decide ((a1.size : Int) ≤ (a0.size : Int))
 ·
  replace H := Gets.cf H c26
  refine sk rfl rfl <| sk rfl rfl <| sk rfl rfl <| sk rfl rfl <| sk rfl rfl <| sk rfl rfl <| pf0 rfl rfl rfl <| as0 rfl rfl <| .fin ?_
  obtain rfl := Gets.out H
  exact rt i2 rfl () 0 [] 0 (.cons (res_tmp rfl) .nil)
 replace H := Gets.ct H c26
 refine mvg rfl rfl rfl <| mvg rfl rfl rfl <| Dv.lens rfl (gg rfl) rfl Tryz.underlying9 <| gr H fun g27 H => Dv.sss rfl (gg rfl) rfl Tryz.underlying9 bdE_none (bdE_some rfl g27.1) g27.2.1 g27.2.2 <| mvg rfl rfl rfl <| bng rfl rfl rfl rfl run_seq <| pt0 rfl rfl rfl <| as0 rfl rfl <| .fin ?_
 obtain rfl := Gets.out H
 exact rt i2 rfl () 0 [] 0 (.cons (res_tmp rfl) .nil)
theorem stringslite_CutPrefix.c {a0 : ByteArray} {a1 : ByteArray} {r : ByteArray × Bool} (h : stringslite_CutPrefix.f a0 a1 = some r) : Pt Tryz.prog 140 [vS a0, vS a1] (tup [vS r.1, vB r.2]) := by
 unfold stringslite_CutPrefix.f at h
 refine (Tr.body Tryz.func140 (c := _) rfl Tryz.ntmps140 (Nat.le_of_ble_eq_true rfl) fun R0 F => ?_).pt
 replace h := Gets.of h
 have H := h
 clear h
 refine WP.seq <| rg 2 0 <| as0 rfl rfl <| as0 rfl rfl <| .fin <| WP.seq <| WP.seq <| rg 4 0 <| mv0 rfl rfl <| mv0 rfl rfl <| el H fun t28 h29 H => cl rfl cal154 rfl (stringslite_HasPrefix.c h29) <| un0 rfl rfl (run_not _) <| .fin <| cd H rfl (fun _ H => ?_) (fun _ H => ?_)
 ·
  refine WP.seq <| rg 3 0 <| mv0 rfl rfl <| as0 rfl rfl <| as0 rfl rfl <| .fin ?_
  obtain rfl := Gets.out H
  exact rt i2 rfl () 0 [] 0 (.cons (res_tmp rfl) (.cons (res_tmp rfl) .nil))
 refine WP.skip <| WP.seq <| rg 6 0 <| mv0 rfl rfl <| mv0 rfl rfl <| Dv.lens rfl trivial rfl Tryz.underlying9 <| gr H fun g31 H => Dv.sss rfl trivial rfl Tryz.underlying9 (bdE_some rfl g31.1) bdE_none g31.2.1 g31.2.2 <| as0 rfl rfl <| as0 rfl rfl <| .fin ?_
 obtain rfl := Gets.out H
 exact rt i2 rfl () 0 [] 0 (.cons (res_tmp rfl) (.cons (res_tmp rfl) .nil))
theorem strings_CutPrefix.c {a0 : ByteArray} {a1 : ByteArray} {r : ByteArray × Bool} (h : strings_CutPrefix.f a0 a1 = some r) : Pt Tryz.prog 126 [vS a0, vS a1] (tup [vS r.1, vB r.2]) := by
 unfold strings_CutPrefix.f at h
 refine (Tr.body Tryz.func126 (c := _) rfl Tryz.ntmps126 (Nat.le_of_ble_eq_true rfl) fun R0 F => ?_).pt
 replace h := Gets.of h
 have H := h
 clear h
 refine WP.seq <| rg 2 0 <| as0 rfl rfl <| as0 rfl rfl <| .fin <| WP.seq <| rg 7 0 <| mv0 rfl rfl <| mv0 rfl rfl <| el H fun t32 h33 H => cl rfl cal140 rfl (stringslite_CutPrefix.c h33) <| ex0 rfl trivial rfl rfl <| ex0 rfl trivial rfl rfl <| as0 rfl rfl <| as0 rfl rfl <| .fin ?_
 obtain rfl := Gets.out H
 exact rt i2 rfl () 0 [] 0 (.cons (res_tmp rfl) (.cons (res_tmp rfl) .nil))
theorem name_small.c {a0 : Int} {r : Bool} (h : name_small.f a0 = some r) : Pt Tryz.prog 156 [eq (.int .u8 a0)] (vB r) := by
 unfold name_small.f at h
 refine (Tr.body Tryz.func156 (c := _) rfl Tryz.ntmps156 (Nat.le_of_ble_eq_true rfl) fun R0 F => ?_).pt
 replace h := Gets.of h
 have H := h
 clear h
 refine WP.seq <| rg 1 0 <| as0 rfl rfl <| .fin <| WP.seq <| rg 15 0 <| mv0 rfl rfl <| bn0 rfl rfl rfl run_ge <| mv0 rfl rfl ?_
 cases c34 : decide (97 ≤ a0)
 ·
  replace H := Gets.cf H c34
  refine sk rfl rfl <| sk rfl rfl <| pf0 rfl rfl rfl <| mv0 rfl rfl <| mvg rfl rfl rfl <| bng rfl rfl rfl rfl run_ge <| mvg rfl rfl rfl ?_
  cases c37 : decide (48 ≤ a0)
  ·
   replace H := Gets.cf H c37
   refine sk rfl rfl <| sk rfl rfl <| pfg rfl rfl rfl rfl <| pf0 rfl rfl rfl <| as0 rfl rfl <| .fin ?_
   obtain rfl := Gets.out H
   exact rt i2 rfl () 0 [] 0 (.cons (res_tmp rfl) .nil)
  replace H := Gets.ct H c37
  refine mvg rfl rfl rfl <| bng rfl rfl rfl rfl run_le <| ptg rfl rfl rfl rfl <| pf0 rfl rfl rfl <| as0 rfl rfl <| .fin ?_
  obtain rfl := Gets.out H
  exact rt i2 rfl () 0 [] 0 (.cons (res_tmp rfl) .nil)
 replace H := Gets.ct H c34
 refine mvg rfl rfl rfl <| bng rfl rfl rfl rfl run_le <| pt0 rfl rfl rfl <| mv0 rfl rfl ?_
 cases c35 : decide (a0 ≤ 122)
 rotate_left
 ·
  replace H := Gets.ct H c35
  refine sk rfl rfl <| sk rfl rfl <| sk rfl rfl <| sku rfl rfl <| sku rfl rfl <| sk rfl rfl <| pt0 rfl rfl rfl <| as0 rfl rfl <| .fin ?_
  obtain rfl := Gets.out H
  exact rt i2 rfl () 0 [] 0 (.cons (res_tmp rfl) .nil)
 replace H := Gets.cf H c35
 refine mvg rfl rfl rfl <| bng rfl rfl rfl rfl run_ge <| mvg rfl rfl rfl ?_
 cases c36 : decide (48 ≤ a0)
 ·
  replace H := Gets.cf H c36
  refine sk rfl rfl <| sk rfl rfl <| pfg rfl rfl rfl rfl <| pf0 rfl rfl rfl <| as0 rfl rfl <| .fin ?_
  obtain rfl := Gets.out H
  exact rt i2 rfl () 0 [] 0 (.cons (res_tmp rfl) .nil)
 replace H := Gets.ct H c36
 refine mvg rfl rfl rfl <| bng rfl rfl rfl rfl run_le <| ptg rfl rfl rfl rfl <| pf0 rfl rfl rfl <| as0 rfl rfl <| .fin ?_
 obtain rfl := Gets.out H
 exact rt i2 rfl () 0 [] 0 (.cons (res_tmp rfl) .nil)
theorem stringslite_IndexByte.c {a0 : ByteArray} {a1 : Int} {r : Int} (h : stringslite_IndexByte.f a0 a1 = some r) : Pt Tryz.prog 162 [vS a0, eq (.int .u8 a1)] (vI r) := by
 unfold stringslite_IndexByte.f at h
 refine (Tr.body Tryz.func162 (c := _) rfl Tryz.ntmps162 (Nat.le_of_ble_eq_true rfl) fun R0 F => ?_).pt
 replace h := Gets.of h
 have H := h
 clear h
 refine WP.seq <| rg 1 0 <| as0 rfl rfl <| .fin <| WP.seq <| rg 4 0 <| mv0 rfl rfl <| mv0 rfl rfl <| Dv.cext rfl trivial rfl (xt_index Tryz.func167 (by kernel_rfl) rfl xf167 xg167) <| as0 rfl rfl <| .fin ?_
 obtain rfl := Gets.out H
 exact rt i2 rfl () 0 [] 0 (.cons (res_tmp rfl) .nil)
theorem strings_IndexByte.c {a0 : ByteArray} {a1 : Int} {r : Int} (h : strings_IndexByte.f a0 a1 = some r) : Pt Tryz.prog 157 [vS a0, eq (.int .u8 a1)] (vI r) := by
 unfold strings_IndexByte.f at h
 refine (Tr.body Tryz.func157 (c := _) rfl Tryz.ntmps157 (Nat.le_of_ble_eq_true rfl) fun R0 F => ?_).pt
 replace h := Gets.of h
 have H := h
 clear h
 refine WP.seq <| rg 1 0 <| as0 rfl rfl <| .fin <| WP.seq <| rg 4 0 <| mv0 rfl rfl <| mv0 rfl rfl <| el H fun t38 h39 H => cl rfl cal162 rfl (stringslite_IndexByte.c h39) <| as0 rfl rfl <| .fin ?_
 obtain rfl := Gets.out H
 exact rt i2 rfl () 0 [] 0 (.cons (res_tmp rfl) .nil)
theorem name_among_1.c {a0 : Int} {c0 : ByteArray} {r : Bool} (h : name_among_1.f a0 c0 = some r) : Pt Tryz.prog 155 [eq (.int .u8 a0), rp [vS c0]] (vB r) := by
 unfold name_among_1.f at h
 refine (Tr.body Tryz.func155 (c := _) rfl Tryz.ntmps155 (Nat.le_of_ble_eq_true rfl) fun R0 F => ?_).pt
 replace h := Gets.of h
 have H := h
 clear h
 refine WP.seq <| rg 1 0 <| as0 rfl rfl <| .fin <| WP.seq <| rg 9 0 <| mv0 rfl rfl <| el H fun t40 h41 H => cl rfl cal156 rfl (name_small.c h41) <| mv0 rfl rfl ?_
 cases c42 : t40
 rotate_left
 ·
  replace H := Gets.ct H c42
  refine sk rfl rfl <| sk rfl rfl <| sk rfl rfl <| sk rfl rfl <| pt0 rfl rfl rfl <| as0 rfl rfl <| .fin ?_
  obtain rfl := Gets.out H
  exact rt i2 rfl () 0 [] 0 (.cons (res_tmp rfl) .nil)
 replace H := Gets.cf H c42
 refine ldR rfl (gg rfl) rfl sc9 rfl <| mvg rfl rfl rfl <| el H fun t43 h44 H => Dv.call rfl (gg rfl) cal157 rfl (strings_IndexByte.c h44) <| bng rfl rfl rfl rfl run_ge <| pf0 rfl rfl rfl <| as0 rfl rfl <| .fin ?_
 obtain rfl := Gets.out H
 exact rt i2 rfl () 0 [] 0 (.cons (res_tmp rfl) .nil)
theorem name_among.c {a0 : ByteArray} {r : (Int → Option Bool)} (h : name_among.f a0 = some r) : Pt Tryz.prog 141 [vS a0] (fq_uint8_bool r) := by
 unfold name_among.f at h
 refine (Tr.body Tryz.func141 (c := _) rfl Tryz.ntmps141 (Nat.le_of_ble_eq_true rfl) fun R0 F => ?_).pt
 replace h := Gets.of h
 have H := h
 clear h
 refine WP.seq <| rg 2 1 <| Dv.box rfl trivial rfl cE nofun fun b45 => as0 rfl rfl <| .fin <| WP.seq <| rg 2 0 <| Dv.gh (gh_frzb (E' := [(0, vS a0), (1, rp [vS a0]), (2, eq .nilFunc)]) (l' := F) 0 rfl (cve_cons rfl cv_id (cve_cons rfl cv_eq (cve_cons rfl cv_id cve_nil))) (all2_app .nil fun _ => cva_id)) (fun _ _ => ?_)
 refine Dv.mkf (Q := fqQ_uint8_bool (fun a0_ => name_among_1.f a0_ a0)) cal155 (by rintro _ _ ⟨a0_, r_, h_, rfl, rfl⟩; exact name_among_1.c h_) rfl trivial rfl rfl <| as0 rfl rfl <| .fin ?_
 obtain rfl := Gets.out H
 exact rt i2 rfl () 0 [] 0 (.cons (res_tmp rfl) .nil)
theorem name_may.c {k : Nat} {a0 : ByteArray} {a1 : Int} {r : Bool} (h : name_may.f k a0 a1 = some r) : Pt Tryz.prog 127 [vS a0, vI a1] (vB r) := by
 unfold name_may.f at h
 refine (Tr.body Tryz.func127 (c := _) rfl Tryz.ntmps127 (Nat.le_of_ble_eq_true rfl) fun R0 F => ?_).pt
 replace h := Gets.of h
 have H := h
 clear h
 refine WP.seq <| rg 1 0 <| as0 rfl rfl <| .fin <| WP.seq <| rg 7 0 <| el H fun t46 h47 H => cl rfl cal141 rfl (name_among.c h47) <| el H fun t48 h49 H => cl rfl cal141 rfl (name_among.c h49) <| el H fun t50 h51 H => cl rfl cal141 rfl (name_among.c h51) <| Dv.blda (qs := [fq_uint8_bool t46, fq_uint8_bool t48, fq_uint8_bool t50]) (css := [[fq_uint8_bool t46], [fq_uint8_bool t48], [fq_uint8_bool t50]]) rfl trivial Tryz.underlying156 Tryz.underlying140 c140 z156 rfl ⟨(cells_one one_fnq), ⟨(cells_one one_fnq), ⟨(cells_one one_fnq), trivial⟩⟩⟩ rfl rfl <| mv0 rfl rfl <| gr H fun g52 H => Dv.ixa (Kd := fK_uint8_bool) (xs := ([t46, t48, t50] : List (Int → Option Bool))) rfl trivial rfl rfl rfl Tryz.underlying156 Tryz.underlying140 rfl c140 rfl rfl g52.1 g52.2 rfl <| as0 rfl rfl <| .fin <| WP.seqr H id (fun p53 : Int × Bool => [(0, vS a0), (1, vI a1), (4, vB false), (5, fq_uint8_bool (fK_uint8_bool.at ([t46, t48, t50] : List (Int → Option Bool)) a1)), (14, vI (a0.size : Int)), (15, vI p53.1), (16, vB p53.2)]) (fun p53 : Int × Bool => F) (fun p53 H => ?_) (fun H => ?_)
 ·
  refine WP.seq <| rg 8 0 <| mv0 rfl rfl <| bn0 rfl rfl rfl run_sne <| mv0 rfl rfl ?_
  cases c54 : !decide (a0 = (⟨#[]⟩ : ByteArray))
  ·
   replace H := Gets.cf H c54
   refine sk rfl rfl <| sk rfl rfl <| sk rfl rfl <| pf0 rfl rfl rfl <| as0 rfl rfl <| .fin ?_
   obtain rfl := Gets.out H
   exact rt i2 rfl () 0 [] 0 (.cons (res_tmp rfl) .nil)
  replace H := Gets.ct H c54
  refine mvg rfl rfl rfl <| Dv.lens rfl (gg rfl) rfl Tryz.underlying9 <| bng rfl rfl rfl rfl run_le <| pt0 rfl rfl rfl <| as0 rfl rfl <| .fin ?_
  obtain rfl := Gets.out H
  exact rt i2 rfl () 0 [] 0 (.cons (res_tmp rfl) .nil)
 refine WP.seq <| rg 3 0 <| mv0 rfl rfl <| Dv.lens rfl trivial rfl Tryz.underlying9 <| mv0 rfl rfl <| .fin <| WP.block <| wg (sg 0 [] 0) fun _ _ => ?_
 refine lp (fun j_ (p62 : Int) => name_may.l0 k a0 a1 t46 t48 t50 j_ p62) 0 H (fun p62 => [(0, vS a0), (1, vI a1), (4, vB false), (5, fq_uint8_bool (fK_uint8_bool.at ([t46, t48, t50] : List (Int → Option Bool)) a1)), (14, vI (a0.size : Int)), (15, vI p62)]) (fun p62 => F) ?_
 rintro j_ x55 H
 rcases j_ with _ | j61
 ·
  exact (Gets.no H).elim
 replace H : Gets (name_may.l0 k a0 a1 t46 t48 t50 (j61 + 1) x55) _ := H
 rw [name_may.l0] at H
 refine WP.seq <| rg 1 0 <| bn0 rfl rfl rfl run_lt <| .fin <| WP.seq <| cd H rfl (fun _ H => ?_) (fun _ H => ?_)
 rotate_left
 ·
  refine WP.exit ?_
  replace H := Gets.out H
  exact jn (x55, decide (x55 < (a0.size : Int))) H
 refine WP.skip <| WP.seq <| WP.block <| WP.seq <| rg 2 0 <| mv0 rfl rfl <| as0 rfl rfl <| .fin <| WP.seq <| rg 6 0 <| mv0 rfl rfl <| mv0 rfl rfl <| mv0 rfl rfl <| gr H fun g57 H => Dv.ixs rfl trivial rfl rfl Tryz.underlying9 g57.1 g57.2 <| el H fun t58 h59 H => Dv.callq (ret := vB t58) rfl trivial rfl rfl ⟨_, _, h59, rfl, rfl⟩ <| un0 rfl rfl (run_not _) <| .fin <| cd H rfl (fun _ H => ?_) (fun _ H => ?_)
 rotate_left
 ·
  exact WP.skip <| rg 2 0 <| bn0 rfl rfl rfl run_add <| mv0 rfl rfl <| .fin <| bk j61 (w64 (x55 + 1)) H
 refine WP.seq <| rg 1 0 <| as0 rfl rfl <| .fin ?_
 replace H := Gets.outr H
 obtain rfl := Gets.out H
 exact rt i2 rfl () 0 [] 0 (.cons (res_tmp rfl) .nil)
theorem name_Event.c {k : Nat} {a0 : ByteArray} {r : Bool} (h : name_Event.f k a0 = some r) : Pt Tryz.prog 104 [vS a0] (vB r) := by
 unfold name_Event.f at h
 refine (Tr.body Tryz.func104 (c := _) rfl Tryz.ntmps104 (Nat.le_of_ble_eq_true rfl) fun R0 F => ?_).pt
 replace h := Gets.of h
 have H := h
 clear h
 refine WP.seq <| rg 1 0 <| as0 rfl rfl <| .fin <| WP.seq <| rg 7 0 <| mv0 rfl rfl <| el H fun t63 h64 H => cl rfl cal126 rfl (strings_CutPrefix.c h64) <| mv0 rfl rfl <| ex0 rfl trivial rfl rfl <| ex0 rfl trivial rfl rfl <| as0 rfl rfl <| as0 rfl rfl <| .fin <| WP.seq <| rg 6 0 <| mv0 rfl rfl <| mv0 rfl rfl ?_
 cases c65 : t63.2
 ·
  replace H := Gets.cf H c65
  refine sk rfl rfl <| sk rfl rfl <| pf0 rfl rfl rfl <| as0 rfl rfl <| .fin ?_
  obtain rfl := Gets.out H
  exact rt i2 rfl () 0 [] 0 (.cons (res_tmp rfl) .nil)
 replace H := Gets.ct H c65
 refine mvg rfl rfl rfl <| el H fun t66 h67 H => Dv.call rfl (gg rfl) cal127 rfl (name_may.c h67) <| pt0 rfl rfl rfl <| as0 rfl rfl <| .fin ?_
 obtain rfl := Gets.out H
 exact rt i2 rfl () 0 [] 0 (.cons (res_tmp rfl) .nil)
theorem bytealg_Cutover.c {a0 : Int} {r : Int} (h : bytealg_Cutover.f a0 = some r) : Pt Tryz.prog 165 [vI a0] (vI r) := by
 unfold bytealg_Cutover.f at h
 refine (Tr.body Tryz.func165 (c := _) rfl Tryz.ntmps165 (Nat.le_of_ble_eq_true rfl) fun R0 F => ?_).pt
 replace h := Gets.of h
 have H := h
 clear h
 refine WP.seq <| rg 1 0 <| as0 rfl rfl <| .fin <| WP.seq <| rg 4 0 <| mv0 rfl rfl <| bn0 rfl rfl rfl run_add <| bn0 rfl rfl rfl (run_quo (by decide)) <| as0 rfl rfl <| .fin ?_
 obtain rfl := Gets.out H
 exact rt i2 rfl () 0 [] 0 (.cons (res_tmp rfl) .nil)
theorem stringslite_Index.c {a0 : ByteArray} {a1 : ByteArray} {r : Int} (h : stringslite_Index.f a0 a1 = some r) : Pt Tryz.prog 161 [vS a0, vS a1] (vI r) := by
 unfold stringslite_Index.f at h
 refine (Tr.body Tryz.func161 (c := _) rfl Tryz.ntmps161 (Nat.le_of_ble_eq_true rfl) fun R0 F => ?_).pt
 replace h := Gets.of h
 have H := h
 clear h
 refine WP.seq <| rg 1 0 <| as0 rfl rfl <| .fin <| WP.seq <| rg 3 0 <| mv0 rfl rfl <| Dv.lens rfl trivial rfl Tryz.underlying9 <| as0 rfl rfl <| .fin <| WP.seq <| WP.block <| WP.seq <| rg 8 0 <| mv0 rfl rfl <| bn0 rfl rfl rfl run_eq <| mv0 rfl rfl ?_
 cases c70 : ((a1.size : Int) == 0)
 rotate_left
 ·
  replace H := Gets.ct H c70
  refine sk rfl rfl <| sk rfl rfl <| sk rfl rfl <| pt0 rfl rfl rfl <| as0 rfl rfl <| .fin <| WP.cond rfl (fun _ => ?_) nofun
  refine WP.seq <| rg 1 0 <| as0 rfl rfl <| .fin ?_
  obtain rfl := Gets.out H
  exact rt i2 rfl () 0 [] 0 (.cons (res_tmp rfl) .nil)
 replace H := Gets.cf H c70
 refine mvg rfl rfl rfl <| mvg rfl rfl rfl <| bng rfl rfl rfl rfl run_seq <| pf0 rfl rfl rfl <| as0 rfl rfl <| .fin <| cd H rfl (fun _ H => ?_) (fun _ H => ?_)
 ·
  refine WP.seq <| rg 1 0 <| as0 rfl rfl <| .fin ?_
  obtain rfl := Gets.out H
  exact rt i2 rfl () 0 [] 0 (.cons (res_tmp rfl) .nil)
 refine WP.seq <| rg 3 0 <| mv0 rfl rfl <| bn0 rfl rfl rfl run_eq <| as0 rfl rfl <| .fin <| cd H rfl (fun _ H => ?_) (fun _ H => ?_)
 ·
  refine WP.seq <| rg 5 0 <| mv0 rfl rfl <| mv0 rfl rfl <| gr H fun g74 H => Dv.ixs rfl trivial rfl rfl Tryz.underlying9 g74.1 g74.2 <| el H fun t75 h76 H => cl rfl cal162 rfl (stringslite_IndexByte.c h76) <| as0 rfl rfl <| .fin ?_
  obtain rfl := Gets.out H
  exact rt i2 rfl () 0 [] 0 (.cons (res_tmp rfl) .nil)
 refine WP.seq <| rg 5 0 <| mv0 rfl rfl <| mv0 rfl rfl <| Dv.lens rfl trivial rfl Tryz.underlying9 <| bn0 rfl rfl rfl run_ge <| as0 rfl rfl <| .fin <| cd H rfl (fun _ H => ?_) (fun _ H => ?_)
 rotate_left
 ·
  exact (Gets.no H).elim
 refine WP.seq <| rg 1 0 <| as0 rfl rfl <| .fin ?_
 obtain rfl := Gets.out H
 exact rt i2 rfl () 0 [] 0 (.cons (res_tmp rfl) .nil)
theorem stringslite_Cut.c {a0 : ByteArray} {a1 : ByteArray} {r : ByteArray × ByteArray × Bool} (h : stringslite_Cut.f a0 a1 = some r) : Pt Tryz.prog 153 [vS a0, vS a1] (tup [vS r.1, vS r.2.1, vB r.2.2]) := by
 unfold stringslite_Cut.f at h
 refine (Tr.body Tryz.func153 (c := _) rfl Tryz.ntmps153 (Nat.le_of_ble_eq_true rfl) fun R0 F => ?_).pt
 replace h := Gets.of h
 have H := h
 clear h
 refine WP.seq <| rg 3 0 <| as0 rfl rfl <| as0 rfl rfl <| as0 rfl rfl <| .fin <| WP.seq <| WP.seq <| rg 4 0 <| mv0 rfl rfl <| mv0 rfl rfl <| el H fun t78 h79 H => cl rfl cal161 rfl (stringslite_Index.c h79) <| as0 rfl rfl <| .fin <| WP.seq <| rg 2 0 <| mv0 rfl rfl <| bn0 rfl rfl rfl run_ge <| .fin <| cd H rfl (fun _ H => ?_) (fun _ H => ?_)
 rotate_left
 ·
  refine WP.skip <| WP.seq <| rg 4 0 <| mv0 rfl rfl <| as0 rfl rfl <| as0 rfl rfl <| as0 rfl rfl <| .fin ?_
  obtain rfl := Gets.out H
  exact rt i2 rfl () 0 [] 0 (.cons (res_tmp rfl) (.cons (res_tmp rfl) (.cons (res_tmp rfl) .nil)))
 refine WP.seq <| dg Tryz.checked.mixed 12 0 <| mv0 rfl rfl <| mv0 rfl rfl <| gr H fun g81 H => Dv.sss rfl trivial rfl Tryz.underlying9 bdE_none (bdE_some rfl g81.1) g81.2.1 g81.2.2 <| mv0 rfl rfl <| mv0 rfl rfl <| mv0 rfl rfl <| Dv.lens rfl trivial rfl Tryz.underlying9 <| bn0 rfl rfl rfl run_add <| gr H fun g82 H => Dv.sss rfl trivial rfl Tryz.underlying9 (bdE_some rfl g82.1) bdE_none g82.2.1 g82.2.2 <| as0 rfl rfl <| as0 rfl rfl <| as0 rfl rfl <| .fin ?_
 obtain rfl := Gets.out H
 exact rt i2 rfl () 0 [] 0 (.cons (res_tmp rfl) (.cons (res_tmp rfl) (.cons (res_tmp rfl) .nil)))
theorem strings_Cut.c {a0 : ByteArray} {a1 : ByteArray} {r : ByteArray × ByteArray × Bool} (h : strings_Cut.f a0 a1 = some r) : Pt Tryz.prog 139 [vS a0, vS a1] (tup [vS r.1, vS r.2.1, vB r.2.2]) := by
 unfold strings_Cut.f at h
 refine (Tr.body Tryz.func139 (c := _) rfl Tryz.ntmps139 (Nat.le_of_ble_eq_true rfl) fun R0 F => ?_).pt
 replace h := Gets.of h
 have H := h
 clear h
 refine WP.seq <| rg 3 0 <| as0 rfl rfl <| as0 rfl rfl <| as0 rfl rfl <| .fin <| WP.seq <| rg 9 0 <| mv0 rfl rfl <| mv0 rfl rfl <| el H fun t83 h84 H => cl rfl cal153 rfl (stringslite_Cut.c h84) <| ex0 rfl trivial rfl rfl <| ex0 rfl trivial rfl rfl <| ex0 rfl trivial rfl rfl <| as0 rfl rfl <| as0 rfl rfl <| as0 rfl rfl <| .fin ?_
 obtain rfl := Gets.out H
 exact rt i2 rfl () 0 [] 0 (.cons (res_tmp rfl) (.cons (res_tmp rfl) (.cons (res_tmp rfl) .nil)))
theorem name_Server.c {k : Nat} {a0 : ByteArray} {r : Bool} (h : name_Server.f k a0 = some r) : Pt Tryz.prog 142 [vS a0] (vB r) := by
 unfold name_Server.f at h
 refine (Tr.body Tryz.func142 (c := _) rfl Tryz.ntmps142 (Nat.le_of_ble_eq_true rfl) fun R0 F => ?_).pt
 replace h := Gets.of h
 have H := h
 clear h
 refine WP.seq <| rg 1 0 <| as0 rfl rfl <| .fin <| WP.seq <| rg 16 0 <| mv0 rfl rfl <| el H fun t85 h86 H => cl rfl cal127 rfl (name_may.c h86) <| mv0 rfl rfl ?_
 cases c87 : t85
 ·
  replace H := Gets.cf H c87
  refine sk rfl rfl <| sk rfl rfl <| sk rfl rfl <| pf0 rfl rfl rfl <| mv0 rfl rfl <| sk rfl rfl <| sk rfl rfl <| sk rfl rfl <| sk rfl rfl <| sk rfl rfl <| sk rfl rfl <| pf0 rfl rfl rfl <| as0 rfl rfl <| .fin ?_
  obtain rfl := Gets.out H
  exact rt i2 rfl () 0 [] 0 (.cons (res_tmp rfl) .nil)
 replace H := Gets.ct H c87
 refine mvg rfl rfl rfl <| gr H fun g88 H => Dv.ixs rfl (gg rfl) rfl rfl Tryz.underlying9 g88.1 g88.2 <| el H fun t89 h90 H => Dv.call rfl (gg rfl) cal156 rfl (name_small.c h90) <| pt0 rfl rfl rfl <| mv0 rfl rfl ?_
 cases c91 : t89
 ·
  replace H := Gets.cf H c91
  refine sk rfl rfl <| sk rfl rfl <| sk rfl rfl <| sk rfl rfl <| sk rfl rfl <| sk rfl rfl <| pf0 rfl rfl rfl <| as0 rfl rfl <| .fin ?_
  obtain rfl := Gets.out H
  exact rt i2 rfl () 0 [] 0 (.cons (res_tmp rfl) .nil)
 replace H := Gets.ct H c91
 refine mvg rfl rfl rfl <| mvg rfl rfl rfl <| Dv.lens rfl (gg rfl) rfl Tryz.underlying9 <| bng rfl rfl rfl rfl run_sub <| gr H fun g92 H => Dv.ixs rfl (gg rfl) rfl rfl Tryz.underlying9 g92.1 g92.2 <| el H fun t93 h94 H => Dv.call rfl (gg rfl) cal156 rfl (name_small.c h94) <| pt0 rfl rfl rfl <| as0 rfl rfl <| .fin ?_
 obtain rfl := Gets.out H
 exact rt i2 rfl () 0 [] 0 (.cons (res_tmp rfl) .nil)
theorem name_split.c {k : Nat} {a0 : ByteArray} {a1 : ByteArray} {r : ByteArray × ByteArray × Bool} (h : name_split.f k a0 a1 = some r) : Pt Tryz.prog 128 [vS a0, vS a1] (tup [vS r.1, vS r.2.1, vB r.2.2]) := by
 unfold name_split.f at h
 refine (Tr.body Tryz.func128 (c := _) rfl Tryz.ntmps128 (Nat.le_of_ble_eq_true rfl) fun R0 F => ?_).pt
 replace h := Gets.of h
 have H := h
 clear h
 refine WP.seq <| rg 3 0 <| as0 rfl rfl <| as0 rfl rfl <| as0 rfl rfl <| .fin <| WP.seq <| rg 8 0 <| mv0 rfl rfl <| mv0 rfl rfl <| el H fun t95 h96 H => cl rfl cal126 rfl (strings_CutPrefix.c h96) <| mv0 rfl rfl <| ex0 rfl trivial rfl rfl <| ex0 rfl trivial rfl rfl <| as0 rfl rfl <| as0 rfl rfl <| .fin <| WP.seq <| rg 9 0 <| mv0 rfl rfl <| el H fun t97 h98 H => cl rfl cal139 rfl (strings_Cut.c h98) <| mv0 rfl rfl <| ex0 rfl trivial rfl rfl <| ex0 rfl trivial rfl rfl <| ex0 rfl trivial rfl rfl <| as0 rfl rfl <| as0 rfl rfl <| as0 rfl rfl <| .fin <| WP.seq <| rg 17 0 <| mv0 rfl rfl <| mv0 rfl rfl <| mv0 rfl rfl <| mv0 rfl rfl ?_
 cases c99 : t95.2
 ·
  replace H := Gets.cf H c99
  refine sk rfl rfl <| pf0 rfl rfl rfl <| mv0 rfl rfl <| sk rfl rfl <| sk rfl rfl <| pf0 rfl rfl rfl <| mv0 rfl rfl <| sk rfl rfl <| sk rfl rfl <| pf0 rfl rfl rfl <| as0 rfl rfl <| as0 rfl rfl <| as0 rfl rfl <| .fin ?_
  obtain rfl := Gets.out H
  exact rt i2 rfl () 0 [] 0 (.cons (res_tmp rfl) (.cons (res_tmp rfl) (.cons (res_tmp rfl) .nil)))
 replace H := Gets.ct H c99
 refine mvg rfl rfl rfl <| pt0 rfl rfl rfl <| mv0 rfl rfl ?_
 cases c100 : t97.2.2
 ·
  replace H := Gets.cf H c100
  refine sk rfl rfl <| sk rfl rfl <| pf0 rfl rfl rfl <| mv0 rfl rfl <| sk rfl rfl <| sk rfl rfl <| pf0 rfl rfl rfl <| as0 rfl rfl <| as0 rfl rfl <| as0 rfl rfl <| .fin ?_
  obtain rfl := Gets.out H
  exact rt i2 rfl () 0 [] 0 (.cons (res_tmp rfl) (.cons (res_tmp rfl) (.cons (res_tmp rfl) .nil)))
 replace H := Gets.ct H c100
 refine mvg rfl rfl rfl <| el H fun t101 h102 H => Dv.call rfl (gg rfl) cal127 rfl (name_may.c h102) <| pt0 rfl rfl rfl <| mv0 rfl rfl ?_
 cases c103 : t101
 ·
  replace H := Gets.cf H c103
  refine sk rfl rfl <| sk rfl rfl <| pf0 rfl rfl rfl <| as0 rfl rfl <| as0 rfl rfl <| as0 rfl rfl <| .fin ?_
  obtain rfl := Gets.out H
  exact rt i2 rfl () 0 [] 0 (.cons (res_tmp rfl) (.cons (res_tmp rfl) (.cons (res_tmp rfl) .nil)))
 replace H := Gets.ct H c103
 refine mvg rfl rfl rfl <| el H fun t104 h105 H => Dv.call rfl (gg rfl) cal142 rfl (name_Server.c h105) <| pt0 rfl rfl rfl <| as0 rfl rfl <| as0 rfl rfl <| as0 rfl rfl <| .fin ?_
 obtain rfl := Gets.out H
 exact rt i2 rfl () 0 [] 0 (.cons (res_tmp rfl) (.cons (res_tmp rfl) (.cons (res_tmp rfl) .nil)))
theorem name_Room.c {k : Nat} {a0 : ByteArray} {r : Bool} (h : name_Room.f k a0 = some r) : Pt Tryz.prog 105 [vS a0] (vB r) := by
 unfold name_Room.f at h
 refine (Tr.body Tryz.func105 (c := _) rfl Tryz.ntmps105 (Nat.le_of_ble_eq_true rfl) fun R0 F => ?_).pt
 replace h := Gets.of h
 have H := h
 clear h
 refine WP.seq <| rg 1 0 <| as0 rfl rfl <| .fin <| WP.seq <| rg 9 0 <| mv0 rfl rfl <| el H fun t106 h107 H => cl rfl cal128 rfl (name_split.c h107) <| mv0 rfl rfl <| ex0 rfl trivial rfl rfl <| ex0 rfl trivial rfl rfl <| ex0 rfl trivial rfl rfl <| as0 rfl rfl <| as0 rfl rfl <| as0 rfl rfl <| .fin <| WP.seq <| rg 2 0 <| mv0 rfl rfl <| as0 rfl rfl <| .fin ?_
 obtain rfl := Gets.out H
 exact rt i2 rfl () 0 [] 0 (.cons (res_tmp rfl) .nil)
theorem name_User.c {k : Nat} {a0 : ByteArray} {r : Bool} (h : name_User.f k a0 = some r) : Pt Tryz.prog 106 [vS a0] (vB r) := by
 unfold name_User.f at h
 refine (Tr.body Tryz.func106 (c := _) rfl Tryz.ntmps106 (Nat.le_of_ble_eq_true rfl) fun R0 F => ?_).pt
 replace h := Gets.of h
 have H := h
 clear h
 refine WP.seq <| rg 1 0 <| as0 rfl rfl <| .fin <| WP.seq <| rg 9 0 <| mv0 rfl rfl <| el H fun t108 h109 H => cl rfl cal128 rfl (name_split.c h109) <| mv0 rfl rfl <| ex0 rfl trivial rfl rfl <| ex0 rfl trivial rfl rfl <| ex0 rfl trivial rfl rfl <| as0 rfl rfl <| as0 rfl rfl <| as0 rfl rfl <| .fin <| WP.seq <| rg 2 0 <| mv0 rfl rfl <| as0 rfl rfl <| .fin ?_
 obtain rfl := Gets.out H
 exact rt i2 rfl () 0 [] 0 (.cons (res_tmp rfl) .nil)
theorem dag_May.c {k : Nat} {a0 : Event} {r : Bool} (h : dag_May.f k a0 = some r) : Pt Tryz.prog 85 [agg (Event.enc a0)] (vB r) := by
 unfold dag_May.f at h
 refine (Tr.body Tryz.func85 (c := _) rfl Tryz.ntmps85 (Nat.le_of_ble_eq_true rfl) fun R0 F => ?_).pt
 replace h := Gets.of h
 have H := h
 clear h
 refine WP.seq <| rg 2 1 <| Dv.box rfl trivial rfl cA nofun fun b110 => as0 rfl rfl <| .fin <| WP.scope <| WP.seq <| WP.seq <| rg 32 0 <| fb rfl trivial rfl fa33_0 <| ld 0 rfl trivial rfl sc9 rfl rfl <| el H fun t111 h112 H => cl rfl cal104 rfl (name_Event.c h112) <| un0 rfl rfl (run_not _) <| mv0 rfl rfl ?_
 cases c113 : !t111
 rotate_left
 ·
  replace H := Gets.ct H c113
  refine sk rfl rfl <| sk rfl rfl <| sk rfl rfl <| sk rfl rfl <| pt0 rfl rfl rfl <| mv0 rfl rfl <| sk rfl rfl <| sk rfl rfl <| sk rfl rfl <| sk rfl rfl <| pt0 rfl rfl rfl <| mv0 rfl rfl <| sk rfl rfl <| sk rfl rfl <| sk rfl rfl <| sk rfl rfl <| pt0 rfl rfl rfl <| mv0 rfl rfl <| sk rfl rfl <| sk rfl rfl <| sk rfl rfl <| pt0 rfl rfl rfl <| mv0 rfl rfl <| sk rfl rfl <| sk rfl rfl <| sk rfl rfl <| pt0 rfl rfl rfl <| .fin <| WP.cond rfl (fun _ => ?_) nofun
  refine WP.seq <| rg 1 0 <| as0 rfl rfl <| .fin ?_
  obtain rfl := Gets.out H
  exact rt i2 rfl () 1 [0] 1 (.cons (res_tmp rfl) .nil)
 replace H := Gets.cf H c113
 refine fb rfl (gg rfl) rfl fa33_1 <| ld 0 rfl (gg rfl) rfl sc9 rfl rfl <| el H fun t115 h116 H => Dv.call rfl (gg rfl) cal105 rfl (name_Room.c h116) <| ung rfl rfl rfl (run_not _) <| pf0 rfl rfl rfl <| mv0 rfl rfl ?_
 cases c117 : !t115
 rotate_left
 ·
  replace H := Gets.ct H c117
  refine sk rfl rfl <| sk rfl rfl <| sk rfl rfl <| sk rfl rfl <| pt0 rfl rfl rfl <| mv0 rfl rfl <| sk rfl rfl <| sk rfl rfl <| sk rfl rfl <| sk rfl rfl <| pt0 rfl rfl rfl <| mv0 rfl rfl <| sk rfl rfl <| sk rfl rfl <| sk rfl rfl <| pt0 rfl rfl rfl <| mv0 rfl rfl <| sk rfl rfl <| sk rfl rfl <| sk rfl rfl <| pt0 rfl rfl rfl <| .fin <| WP.cond rfl (fun _ => ?_) nofun
  refine WP.seq <| rg 1 0 <| as0 rfl rfl <| .fin ?_
  obtain rfl := Gets.out H
  exact rt i2 rfl () 1 [0] 1 (.cons (res_tmp rfl) .nil)
 replace H := Gets.cf H c117
 refine fb rfl (gg rfl) rfl fa33_4 <| ld 0 rfl (gg rfl) rfl sc9 rfl rfl <| el H fun t119 h120 H => Dv.call rfl (gg rfl) cal106 rfl (name_User.c h120) <| ung rfl rfl rfl (run_not _) <| pf0 rfl rfl rfl <| mv0 rfl rfl ?_
 cases c121 : !t119
 rotate_left
 ·
  replace H := Gets.ct H c121
  refine sk rfl rfl <| sk rfl rfl <| sk rfl rfl <| sk rfl rfl <| pt0 rfl rfl rfl <| mv0 rfl rfl <| sk rfl rfl <| sk rfl rfl <| sk rfl rfl <| pt0 rfl rfl rfl <| mv0 rfl rfl <| sk rfl rfl <| sk rfl rfl <| sk rfl rfl <| pt0 rfl rfl rfl <| .fin <| WP.cond rfl (fun _ => ?_) nofun
  refine WP.seq <| rg 1 0 <| as0 rfl rfl <| .fin ?_
  obtain rfl := Gets.out H
  exact rt i2 rfl () 1 [0] 1 (.cons (res_tmp rfl) .nil)
 replace H := Gets.cf H c121
 refine fb rfl (gg rfl) rfl fa33_2 <| ld 0 rfl (gg rfl) rfl sc31 rfl rfl <| Dv.lenl rfl (gg rfl) rfl Tryz.underlying31 <| bng rfl rfl rfl rfl run_gt <| pf0 rfl rfl rfl <| mv0 rfl rfl ?_
 cases c123 : decide (4 < (a0.fParents.length : Int))
 rotate_left
 ·
  replace H := Gets.ct H c123
  refine sk rfl rfl <| sk rfl rfl <| sk rfl rfl <| pt0 rfl rfl rfl <| mv0 rfl rfl <| sk rfl rfl <| sk rfl rfl <| sk rfl rfl <| pt0 rfl rfl rfl <| .fin <| WP.cond rfl (fun _ => ?_) nofun
  refine WP.seq <| rg 1 0 <| as0 rfl rfl <| .fin ?_
  obtain rfl := Gets.out H
  exact rt i2 rfl () 1 [0] 1 (.cons (res_tmp rfl) .nil)
 replace H := Gets.cf H c123
 refine fb rfl (gg rfl) rfl fa33_5 <| ld 0 rfl (gg rfl) rfl sc3 rfl rfl <| bng rfl rfl rfl rfl run_lt <| pf0 rfl rfl rfl <| mv0 rfl rfl ?_
 cases c125 : decide (a0.fDoes < 0)
 rotate_left
 ·
  replace H := Gets.ct H c125
  refine sk rfl rfl <| sk rfl rfl <| sk rfl rfl <| pt0 rfl rfl rfl <| .fin <| WP.cond rfl (fun _ => ?_) nofun
  refine WP.seq <| rg 1 0 <| as0 rfl rfl <| .fin ?_
  obtain rfl := Gets.out H
  exact rt i2 rfl () 1 [0] 1 (.cons (res_tmp rfl) .nil)
 replace H := Gets.cf H c125
 refine fb rfl (gg rfl) rfl fa33_5 <| ld 0 rfl (gg rfl) rfl sc3 rfl rfl <| bng rfl rfl rfl rfl run_gt <| pf0 rfl rfl rfl <| .fin <| cd H rfl (fun _ H => ?_) (fun _ H => ?_)
 ·
  refine WP.seq <| rg 1 0 <| as0 rfl rfl <| .fin ?_
  obtain rfl := Gets.out H
  exact rt i2 rfl () 1 [0] 1 (.cons (res_tmp rfl) .nil)
 refine WP.skip <| WP.seq <| WP.seq <| rg 21 0 <| fb rfl trivial rfl fa33_3 <| ld 0 rfl trivial rfl sc9 rfl rfl <| bn0 rfl rfl rfl run_sne <| mv0 rfl rfl ?_
 cases c128 : !decide (a0.fThread = (⟨#[]⟩ : ByteArray))
 ·
  replace H := Gets.cf H c128
  refine sk rfl rfl <| sk rfl rfl <| sk rfl rfl <| sk rfl rfl <| sk rfl rfl <| sku rfl rfl <| sku rfl rfl <| sku rfl rfl <| sku rfl rfl <| sku rfl rfl <| sk rfl rfl <| sk rfl rfl <| sku rfl rfl <| sku rfl rfl <| sku rfl rfl <| sk rfl rfl <| pf0 rfl rfl rfl <| .fin <| WP.cond rfl nofun (fun _ => ?_)
  refine WP.skip <| WP.seq <| rg 1 0 <| as0 rfl rfl <| .fin <| WP.seq <| WP.label <| WP.seqn H id (fun p153 : Bool × Int × Bool => [(0, agg (Event.enc a0)), (1, eq (.pointer (some ⟨b110, 0, none⟩))), (2, vB false), (3, vB p153.1), (37, vB (decide (2 < a0.fDoes))), (58, vB false), (60, sl strK a0.fParents), (61, vI (a0.fParents.length : Int)), (62, vI p153.2.1), (63, vB p153.2.2)]) (fun p153 : Bool × Int × Bool => [blk b110 33 (Event.enc a0)] ++ F) (fun p153 H => ?_) (fun H => ?_)
  ·
   refine WP.seq <| rg 2 0 <| mv0 rfl rfl <| as0 rfl rfl <| .fin ?_
   obtain rfl := Gets.out H
   exact rt i2 rfl () 1 [0] 1 (.cons (res_tmp rfl) .nil)
  refine WP.seq <| rg 4 0 <| fb rfl trivial rfl fa33_2 <| ld 0 rfl trivial rfl sc31 rfl rfl <| Dv.lenl rfl trivial rfl Tryz.underlying31 <| mv0 rfl rfl <| .fin <| WP.block <| wg (sg 1 [0] 0) fun _ _ => ?_
  refine lp (fun j_ (p168 : Int) => dag_May.l1 k a0 j_ p168) 0 H (fun p168 => [(0, agg (Event.enc a0)), (1, eq (.pointer (some ⟨b110, 0, none⟩))), (2, vB false), (3, vB true), (37, vB (decide (2 < a0.fDoes))), (58, vB false), (60, sl strK a0.fParents), (61, vI (a0.fParents.length : Int)), (62, vI p168)]) (fun p168 => [blk b110 33 (Event.enc a0)] ++ F) ?_
  rintro j_ x154 H
  rcases j_ with _ | j167
  ·
   exact (Gets.no H).elim
  replace H : Gets (dag_May.l1 k a0 (j167 + 1) x154) _ := H
  rw [dag_May.l1] at H
  refine WP.seq <| rg 1 0 <| bn0 rfl rfl rfl run_lt <| .fin <| WP.seq <| cd H rfl (fun _ H => ?_) (fun _ H => ?_)
  rotate_left
  ·
   refine WP.exit ?_
   replace H := Gets.out H
   exact jn (true, x154, decide (x154 < (a0.fParents.length : Int))) H
  refine WP.skip <| WP.seq <| WP.block <| WP.seq <| rg 5 0 <| mv0 rfl rfl <| gr H fun g156 H => Dv.ixr rfl trivial rfl rfl Tryz.underlying31 Tryz.underlying9 c9 g156.1 g156.2 <| ldR rfl trivial rfl sc9 rfl <| as0 rfl rfl <| as0 rfl rfl <| .fin <| WP.seq <| rg 23 0 <| mv0 rfl rfl <| el H fun t157 h158 H => cl rfl cal104 rfl (name_Event.c h158) <| un0 rfl rfl (run_not _) <| mv0 rfl rfl ?_
  cases c159 : !t157
  rotate_left
  ·
   replace H := Gets.ct H c159
   refine sk rfl rfl <| sk rfl rfl <| sk rfl rfl <| sk rfl rfl <| pt0 rfl rfl rfl <| mv0 rfl rfl <| sk rfl rfl <| sk rfl rfl <| sk rfl rfl <| sku rfl rfl <| sku rfl rfl <| sku rfl rfl <| sku rfl rfl <| sku rfl rfl <| sku rfl rfl <| sku rfl rfl <| sku rfl rfl <| sk rfl rfl <| pt0 rfl rfl rfl <| .fin <| WP.cond rfl (fun _ => ?_) nofun
   refine WP.seq <| rg 1 0 <| as0 rfl rfl <| .fin <| WP.exit ?_
   replace H := Gets.out H
   exact jn (false, x154, decide (x154 < (a0.fParents.length : Int))) H
  replace H := Gets.cf H c159
  refine mvg rfl rfl rfl <| fb rfl (gg rfl) rfl fa33_0 <| ld 0 rfl (gg rfl) rfl sc9 rfl rfl <| bng rfl rfl rfl rfl run_seq <| pf0 rfl rfl rfl <| mv0 rfl rfl ?_
  cases c161 : decide ((strK.at a0.fParents x154) = a0.fID)
  rotate_left
  ·
   replace H := Gets.ct H c161
   refine sk rfl rfl <| sk rfl rfl <| sk rfl rfl <| sku rfl rfl <| sku rfl rfl <| sku rfl rfl <| sku rfl rfl <| sku rfl rfl <| sku rfl rfl <| sku rfl rfl <| sku rfl rfl <| sk rfl rfl <| pt0 rfl rfl rfl <| .fin <| WP.cond rfl (fun _ => ?_) nofun
   refine WP.seq <| rg 1 0 <| as0 rfl rfl <| .fin <| WP.exit ?_
   replace H := Gets.out H
   exact jn (false, x154, decide (x154 < (a0.fParents.length : Int))) H
  replace H := Gets.cf H c161
  refine mvg rfl rfl rfl <| bng rfl rfl rfl rfl run_gt <| mvg rfl rfl rfl ?_
  cases c163 : decide (0 < x154)
  ·
   replace H := Gets.cf H c163
   refine sk rfl rfl <| sk rfl rfl <| sk rfl rfl <| sk rfl rfl <| sk rfl rfl <| sk rfl rfl <| sk rfl rfl <| sk rfl rfl <| pfg rfl rfl rfl rfl <| pf0 rfl rfl rfl <| .fin <| WP.cond rfl nofun (fun _ => ?_)
   exact WP.skip <| rg 2 0 <| bn0 rfl rfl rfl run_add <| mv0 rfl rfl <| .fin <| bk j167 (w64 (x154 + 1)) H
  replace H := Gets.ct H c163
  refine mvg rfl rfl rfl <| fb rfl (gg rfl) rfl fa33_2 <| ld 0 rfl (gg rfl) rfl sc31 rfl rfl <| mvg rfl rfl rfl <| bng rfl rfl rfl rfl run_sub <| gr H fun g164 H => Dv.ixr rfl (gg rfl) rfl rfl Tryz.underlying31 Tryz.underlying9 c9 g164.1 g164.2 <| ldR rfl (gg rfl) rfl sc9 rfl <| bng rfl rfl rfl rfl run_sle <| ptg rfl rfl rfl rfl <| pf0 rfl rfl rfl <| .fin <| cd H rfl (fun _ H => ?_) (fun _ H => ?_)
  rotate_left
  ·
   exact WP.skip <| rg 2 0 <| bn0 rfl rfl rfl run_add <| mv0 rfl rfl <| .fin <| bk j167 (w64 (x154 + 1)) H
  refine WP.seq <| rg 1 0 <| as0 rfl rfl <| .fin <| WP.exit ?_
  replace H := Gets.out H
  exact jn (false, x154, decide (x154 < (a0.fParents.length : Int))) H
 replace H := Gets.ct H c128
 refine fb rfl (gg rfl) rfl fa33_3 <| ld 0 rfl (gg rfl) rfl sc9 rfl rfl <| el H fun t129 h130 H => Dv.call rfl (gg rfl) cal104 rfl (name_Event.c h130) <| ung rfl rfl rfl (run_not _) <| mvg rfl rfl rfl ?_
 cases c131 : !t129
 rotate_left
 ·
  replace H := Gets.ct H c131
  refine sk rfl rfl <| sk rfl rfl <| sk rfl rfl <| sk rfl rfl <| sk rfl rfl <| ptg rfl rfl rfl rfl <| mvg rfl rfl rfl <| sk rfl rfl <| sk rfl rfl <| sk rfl rfl <| ptg rfl rfl rfl rfl <| pt0 rfl rfl rfl <| .fin <| WP.cond rfl (fun _ => ?_) nofun
  refine WP.seq <| rg 1 0 <| as0 rfl rfl <| .fin ?_
  obtain rfl := Gets.out H
  exact rt i2 rfl () 1 [0] 1 (.cons (res_tmp rfl) .nil)
 replace H := Gets.cf H c131
 refine fb rfl (gg rfl) rfl fa33_3 <| ld 0 rfl (gg rfl) rfl sc9 rfl rfl <| fb rfl (gg rfl) rfl fa33_0 <| ld 0 rfl (gg rfl) rfl sc9 rfl rfl <| bng rfl rfl rfl rfl run_seq <| pfg rfl rfl rfl rfl <| mvg rfl rfl rfl ?_
 cases c133 : decide (a0.fThread = a0.fID)
 rotate_left
 ·
  replace H := Gets.ct H c133
  refine sk rfl rfl <| sk rfl rfl <| sk rfl rfl <| ptg rfl rfl rfl rfl <| pt0 rfl rfl rfl <| .fin <| WP.cond rfl (fun _ => ?_) nofun
  refine WP.seq <| rg 1 0 <| as0 rfl rfl <| .fin ?_
  obtain rfl := Gets.out H
  exact rt i2 rfl () 1 [0] 1 (.cons (res_tmp rfl) .nil)
 replace H := Gets.cf H c133
 refine fb rfl (gg rfl) rfl fa33_5 <| ld 0 rfl (gg rfl) rfl sc3 rfl rfl <| bng rfl rfl rfl rfl run_ne <| pfg rfl rfl rfl rfl <| pt0 rfl rfl rfl <| .fin <| cd H rfl (fun _ H => ?_) (fun _ H => ?_)
 ·
  refine WP.seq <| rg 1 0 <| as0 rfl rfl <| .fin ?_
  obtain rfl := Gets.out H
  exact rt i2 rfl () 1 [0] 1 (.cons (res_tmp rfl) .nil)
 refine WP.skip <| WP.seq <| rg 1 0 <| as0 rfl rfl <| .fin <| WP.seq <| WP.label <| WP.seqn H id (fun p136 : Bool × Int × Bool => [(0, agg (Event.enc a0)), (1, eq (.pointer (some ⟨b110, 0, none⟩))), (2, vB false), (3, vB p136.1), (37, vB (decide (2 < a0.fDoes))), (58, vB (a0.fDoes != 0)), (60, sl strK a0.fParents), (61, vI (a0.fParents.length : Int)), (62, vI p136.2.1), (63, vB p136.2.2)]) (fun p136 : Bool × Int × Bool => [blk b110 33 (Event.enc a0)] ++ F) (fun p136 H => ?_) (fun H => ?_)
 ·
  refine WP.seq <| rg 2 0 <| mv0 rfl rfl <| as0 rfl rfl <| .fin ?_
  obtain rfl := Gets.out H
  exact rt i2 rfl () 1 [0] 1 (.cons (res_tmp rfl) .nil)
 refine WP.seq <| rg 4 0 <| fb rfl trivial rfl fa33_2 <| ld 0 rfl trivial rfl sc31 rfl rfl <| Dv.lenl rfl trivial rfl Tryz.underlying31 <| mv0 rfl rfl <| .fin <| WP.block <| wg (sg 1 [0] 0) fun _ _ => ?_
 refine lp (fun j_ (p151 : Int) => dag_May.l0 k a0 j_ p151) 0 H (fun p151 => [(0, agg (Event.enc a0)), (1, eq (.pointer (some ⟨b110, 0, none⟩))), (2, vB false), (3, vB true), (37, vB (decide (2 < a0.fDoes))), (58, vB (a0.fDoes != 0)), (60, sl strK a0.fParents), (61, vI (a0.fParents.length : Int)), (62, vI p151)]) (fun p151 => [blk b110 33 (Event.enc a0)] ++ F) ?_
 rintro j_ x137 H
 rcases j_ with _ | j150
 ·
  exact (Gets.no H).elim
 replace H : Gets (dag_May.l0 k a0 (j150 + 1) x137) _ := H
 rw [dag_May.l0] at H
 refine WP.seq <| rg 1 0 <| bn0 rfl rfl rfl run_lt <| .fin <| WP.seq <| cd H rfl (fun _ H => ?_) (fun _ H => ?_)
 rotate_left
 ·
  refine WP.exit ?_
  replace H := Gets.out H
  exact jn (true, x137, decide (x137 < (a0.fParents.length : Int))) H
 refine WP.skip <| WP.seq <| WP.block <| WP.seq <| rg 5 0 <| mv0 rfl rfl <| gr H fun g139 H => Dv.ixr rfl trivial rfl rfl Tryz.underlying31 Tryz.underlying9 c9 g139.1 g139.2 <| ldR rfl trivial rfl sc9 rfl <| as0 rfl rfl <| as0 rfl rfl <| .fin <| WP.seq <| rg 23 0 <| mv0 rfl rfl <| el H fun t140 h141 H => cl rfl cal104 rfl (name_Event.c h141) <| un0 rfl rfl (run_not _) <| mv0 rfl rfl ?_
 cases c142 : !t140
 rotate_left
 ·
  replace H := Gets.ct H c142
  refine sk rfl rfl <| sk rfl rfl <| sk rfl rfl <| sk rfl rfl <| pt0 rfl rfl rfl <| mv0 rfl rfl <| sk rfl rfl <| sk rfl rfl <| sk rfl rfl <| sku rfl rfl <| sku rfl rfl <| sku rfl rfl <| sku rfl rfl <| sku rfl rfl <| sku rfl rfl <| sku rfl rfl <| sku rfl rfl <| sk rfl rfl <| pt0 rfl rfl rfl <| .fin <| WP.cond rfl (fun _ => ?_) nofun
  refine WP.seq <| rg 1 0 <| as0 rfl rfl <| .fin <| WP.exit ?_
  replace H := Gets.out H
  exact jn (false, x137, decide (x137 < (a0.fParents.length : Int))) H
 replace H := Gets.cf H c142
 refine mvg rfl rfl rfl <| fb rfl (gg rfl) rfl fa33_0 <| ld 0 rfl (gg rfl) rfl sc9 rfl rfl <| bng rfl rfl rfl rfl run_seq <| pf0 rfl rfl rfl <| mv0 rfl rfl ?_
 cases c144 : decide ((strK.at a0.fParents x137) = a0.fID)
 rotate_left
 ·
  replace H := Gets.ct H c144
  refine sk rfl rfl <| sk rfl rfl <| sk rfl rfl <| sku rfl rfl <| sku rfl rfl <| sku rfl rfl <| sku rfl rfl <| sku rfl rfl <| sku rfl rfl <| sku rfl rfl <| sku rfl rfl <| sk rfl rfl <| pt0 rfl rfl rfl <| .fin <| WP.cond rfl (fun _ => ?_) nofun
  refine WP.seq <| rg 1 0 <| as0 rfl rfl <| .fin <| WP.exit ?_
  replace H := Gets.out H
  exact jn (false, x137, decide (x137 < (a0.fParents.length : Int))) H
 replace H := Gets.cf H c144
 refine mvg rfl rfl rfl <| bng rfl rfl rfl rfl run_gt <| mvg rfl rfl rfl ?_
 cases c146 : decide (0 < x137)
 ·
  replace H := Gets.cf H c146
  refine sk rfl rfl <| sk rfl rfl <| sk rfl rfl <| sk rfl rfl <| sk rfl rfl <| sk rfl rfl <| sk rfl rfl <| sk rfl rfl <| pfg rfl rfl rfl rfl <| pf0 rfl rfl rfl <| .fin <| WP.cond rfl nofun (fun _ => ?_)
  exact WP.skip <| rg 2 0 <| bn0 rfl rfl rfl run_add <| mv0 rfl rfl <| .fin <| bk j150 (w64 (x137 + 1)) H
 replace H := Gets.ct H c146
 refine mvg rfl rfl rfl <| fb rfl (gg rfl) rfl fa33_2 <| ld 0 rfl (gg rfl) rfl sc31 rfl rfl <| mvg rfl rfl rfl <| bng rfl rfl rfl rfl run_sub <| gr H fun g147 H => Dv.ixr rfl (gg rfl) rfl rfl Tryz.underlying31 Tryz.underlying9 c9 g147.1 g147.2 <| ldR rfl (gg rfl) rfl sc9 rfl <| bng rfl rfl rfl rfl run_sle <| ptg rfl rfl rfl rfl <| pf0 rfl rfl rfl <| .fin <| cd H rfl (fun _ H => ?_) (fun _ H => ?_)
 rotate_left
 ·
  exact WP.skip <| rg 2 0 <| bn0 rfl rfl rfl run_add <| mv0 rfl rfl <| .fin <| bk j150 (w64 (x137 + 1)) H
 refine WP.seq <| rg 1 0 <| as0 rfl rfl <| .fin <| WP.exit ?_
 replace H := Gets.out H
 exact jn (false, x137, decide (x137 < (a0.fParents.length : Int))) H
theorem dag_Dag_Has.c {a0 : DDag} {a1 : ByteArray} {v0_0 : OV} {b0_ : Nat} {r : Bool} (h : dag_Dag_Has.f a0 a1 = some r) : Tr Tryz.prog 86 [eq (.pointer (some ⟨b0_, 0, none⟩)), vS a1] [blk b0_ 102 [vS a0.froom, eq v0_0.1], mpo Value.string DNode.O v0_0.1 a0.fnodes] (γ := Unit) (fun _ => True) (fun g => vB r) (fun g => [blk b0_ 102 [vS a0.froom, eq v0_0.1], mpo Value.string DNode.O v0_0.1 a0.fnodes]) := by
 unfold dag_Dag_Has.f at h
 refine Tr.body Tryz.func86 (c := _) rfl Tryz.ntmps86 (Nat.le_of_ble_eq_true rfl) fun R0 F => ?_
 replace h := Gets.of h
 have H := h
 clear h
 refine WP.seq <| rg 1 0 <| as0 rfl rfl <| .fin <| WP.seq <| rg 8 0 <| mv0 rfl rfl <| Dv.nilp rfl trivial rfl <| fb rfl trivial rfl fa102_1 <| ld 0 rfl trivial rfl sc100 rfl rfl <| mv0 rfl rfl <| vg (mpo_opn 1 rfl) fun z169 h170 => ?_
 refine Dv.mlv nilP rfl trivial rfl (mem_at 0 rfl) rfl Tryz.underlying100 (keyOk_str Tryz.underlying9) z103 (fun _ => rfl) <| Dv.pm1 (pm_nil h170 rfl) rfl trivial rfl rfl Tryz.underlying103 <| as0 rfl rfl <| .fin <| wg (mpo_shut h170 rfl (pm 3 [0,1,2])) fun _ _ => ?_
 obtain rfl := Gets.out H
 exact rt i2 rfl () 2 [1,0] 0 (.cons (res_tmp rfl) .nil)
theorem dag_Dag_Add_1.c {a0 : ByteArray} {cb0_ cd0_ : Nat} {cq0_ cv0_0 : OV} {ch0_ : cq0_.1 = .pointer (some ⟨cd0_, 0, none⟩)} {c0 : DDag} {r : Bool} (h : dag_Dag_Add_1.f a0 c0 = some r) : Tr Tryz.prog 87 [vS a0, eq (.pointer (some ⟨cb0_, 0, none⟩))] [blk cb0_ 76 [eq cq0_.1], blk cd0_ 102 [vS c0.froom, eq cv0_0.1], mpo Value.string DNode.O cv0_0.1 c0.fnodes] (γ := Unit) (fun _ => True) (fun g => vB r) (fun g => [blk cb0_ 76 [eq cq0_.1], blk cd0_ 102 [vS c0.froom, eq cv0_0.1], mpo Value.string DNode.O cv0_0.1 c0.fnodes]) := by
 unfold dag_Dag_Add_1.f at h
 refine Tr.body Tryz.func87 (c := _) rfl Tryz.ntmps87 (Nat.le_of_ble_eq_true rfl) fun R0 F => ?_
 replace h := Gets.of h
 have H := h
 clear h
 refine WP.seq <| rg 1 0 <| as0 rfl rfl <| .fin <| WP.seq <| rg 5 0 <| ld 0 rfl trivial rfl sc76 rfl rfl <| mv0 rfl rfl <| el H fun t171 h172 H => cll 3 [1,2,0] cal86 (Tr.weak (dag_Dag_Has.c h172 (b0_ := cd0_) (v0_0 := cv0_0)) (.cons (wk_ptr ch0_) (.cons wk_id .nil))) ?_
 refine un0 rfl rfl (run_not _) <| as0 rfl rfl <| .fin ?_
 obtain rfl := Gets.out H
 exact rt i2 rfl () 3 [0,1,2] 0 (.cons (res_tmp rfl) .nil)
theorem slices_Clone_string.c {a0 : List ByteArray} {r : List ByteArray} (h : slices_Clone_string.f a0 = some r) : Tr Tryz.prog 107 [sl strK a0] [] (γ := OV) (fun _ => True) (fun g => eq g.1) (fun g => [own strK g.1 r]) := by
 unfold slices_Clone_string.f at h
 obtain ⟨h0, h5⟩ := (Gets.of h).grd
 obtain rfl := Gets.out h5
 clear h h5
 refine (Tr.body Tryz.func107 (c := _) rfl Tryz.ntmps107 (Nat.le_of_ble_eq_true rfl) fun R0 F => ?_)
 refine WP.seq <| WP.reg [(0, false)] (by kernel_rfl) <| as0 rfl rfl <| .fin <| WP.seq <| WP.seq <| WP.reg [(0, false), (1, true)] (by kernel_rfl) <| mv0 rfl rfl <| Dv.snil rfl trivial rfl rfl Tryz.underlying31 nofun (fun b hb => ?_)
 refine .fin <| WP.cond rfl (fun c0 => ?_) (fun c0 => ?_)
 ·
  obtain rfl := hb c0
  refine WP.seq <| WP.reg [(0, false)] (by kernel_rfl) <| as0 rfl rfl <| .fin <| wg (st_nil strK none) fun _ _ => ?_
  exact rt i2 rfl nilV 1 [0] 0 (.cons (res_tmp rfl) .nil)
 refine WP.skip <| WP.seq <| WP.reg [(0, true), (1, false), (2, true), (3, false)] (by kernel_rfl) <| Dv.lit0 strK rfl trivial Tryz.underlying31 Tryz.underlying9 c9 z9 nofun (fun v1 => ?_)
 refine mv0 rfl rfl <| Dv.appx (Kd := strK) (xs := []) (v := v1.1) (jj := 0) (ys := a0) (fun v2 : OV => [own strK v2.1 a0] ++ F) rfl trivial rfl rfl rfl src_sl Tryz.underlying31 (.inr ⟨_, Tryz.underlying31⟩) inf9 rfl (by decide) (by simpa using h0) rfl nofun (fun v2 => ?_)
 exact as0 rfl rfl <| .fin <| rt i2 rfl v2 1 [0] 0 (.cons (res_tmp rfl) .nil)
theorem dag_own.c {a0 : Event} {r : Event} (h : dag_own.f a0 = some r) : Pt Tryz.prog 88 [agg (Event.enc a0)] (agg (Event.enc r)) := by
 unfold dag_own.f at h
 refine (Tr.body Tryz.func88 (c := _) rfl Tryz.ntmps88 (Nat.le_of_ble_eq_true rfl) fun R0 F => ?_).pt
 replace h := Gets.of h
 have H := h
 clear h
 refine WP.seq <| rg 2 3 <| Dv.box rfl trivial rfl cA nofun fun b173 => al rfl trivial zc33 nofun fun b174 => .fin <| WP.seq <| rg 5 20 <| fb rfl trivial rfl fa33_2 <| ld 1 rfl trivial rfl sc31 rfl rfl <| el H fun t175 h176 H => cx 2 [0,1] cal107 (slices_Clone_string.c h176) nofun fun g177 _ => ?_
 refine fb rfl trivial rfl fa33_2 <| sx 2 rfl trivial rfl rfl (cells_one one_ov) sz31 rfl rfl rfl nofun ?_
 refine .fin <| WP.seq <| rg 2 2 <| lds 2 rfl trivial rfl sg33 rfl rfl <| sx 1 rfl trivial rfl rfl cA sz33 rfl rfl rfl nofun ?_
 refine .fin <| WP.gh (gh_frz (E' := [(2, eq (.pointer (some ⟨b174, 0, none⟩)))]) (l' := [blk b174 33 [vS a0.fID, vS a0.fRoom, sl strK t175, vS a0.fThread, vS a0.fUser, vI a0.fDoes], blk b173 33 [vS a0.fID, vS a0.fRoom, sl strK t175, vS a0.fThread, vS a0.fUser, vI a0.fDoes]] ++ F) 0 rfl (cve_cons rfl cv_id cve_nil) (all2_app (.cons (cva_blk (.cons cv_id (.cons cv_id (.cons cv_eq (.cons cv_id (.cons cv_id (.cons cv_id .nil))))))) (.cons (cva_blk (.cons cv_id (.cons cv_id (.cons cv_eq (.cons cv_id (.cons cv_id (.cons cv_id .nil))))))) .nil)) fun _ => cva_id)) (fun _ _ => ?_)
 obtain rfl := Gets.out H
 exact rt i2 rfl () 2 [0,1] 2 (.cons (res_cells rfl Tryz.underlying33 rfl c33 (mem_at 0 rfl) rfl) .nil)
theorem dag_Dag_Add.c {k : Nat} {a0 : DDag} {a1 : Event} {p0_ : OV} {r : Int × DDag} (h : dag_Dag_Add.f k a0 a1 = some r) : Tr Tryz.prog 53 [eq p0_.1, agg (Event.enc a1)] [DDag.O p0_ a0] (γ := Unit) (fun _ => True) (fun g => vI r.1) (fun g => [DDag.O p0_ r.2]) := by
 unfold dag_Dag_Add.f at h
 refine Tr.body Tryz.func53 (c := _) rfl Tryz.ntmps53 (Nat.le_of_ble_eq_true rfl) fun R0 F => ?_
 replace h := Gets.of h
 have H := h
 clear h
 refine WP.seq <| rg 3 3 <| Dv.box rfl trivial rfl (cells_one one_ov) nofun fun b178 => Dv.box rfl trivial rfl cA nofun fun b179 => as0 rfl rfl <| .fin <| WP.seq <| WP.block <| WP.seq <| wg (DDag.opn 2 rfl) fun g180 h181 => ?_
 refine dg Tryz.checked.mixed 13 0 <| lds 2 rfl trivial rfl sg33 rfl rfl <| el H fun t182 h183 H => cl rfl cal85 rfl (dag_May.c h183) <| un0 rfl rfl (run_not _) <| mv0 rfl rfl ?_
 cases c184 : !t182
 rotate_left
 ·
  replace H := Gets.ct H c184
  refine sk rfl rfl <| sk rfl rfl <| sk rfl rfl <| sk rfl rfl <| sk rfl rfl <| sk rfl rfl <| sk rfl rfl <| pt0 rfl rfl rfl <| as0 rfl rfl <| .fin <| WP.cond rfl (fun _ => ?_) nofun
  refine WP.seq <| rg 1 0 <| as0 rfl rfl <| .fin <| wg (DDag.shut (p := p0_) (m := a0) (g180.1, g180.2) h181 (pm 4 [0,1,2,3])) fun _ _ => ?_
  obtain rfl := Gets.out H
  exact rt i2 rfl () 3 [1,2,0] 2 (.cons (res_tmp rfl) .nil)
 replace H := Gets.cf H c184
 refine fb rfl (gg rfl) rfl fa33_1 <| ld 2 rfl (gg rfl) rfl sc9 rfl rfl <| ld 3 rfl (gg rfl) rfl sc76 rfl rfl <| Dv.nilpp h181 rfl (gg rfl) rfl <| fp h181 rfl (gg rfl) rfl fa102_0 <| ld 0 rfl (gg rfl) rfl sc9 rfl rfl <| bng rfl rfl rfl rfl run_sne <| pf0 rfl rfl rfl <| as0 rfl rfl <| .fin <| cd H rfl (fun _ H => ?_) (fun _ H => ?_)
 ·
  refine WP.seq <| rg 1 0 <| as0 rfl rfl <| .fin <| wg (DDag.shut (p := p0_) (m := a0) (g180.1, g180.2) h181 (pm 4 [0,1,2,3])) fun _ _ => ?_
  obtain rfl := Gets.out H
  exact rt i2 rfl () 3 [1,2,0] 2 (.cons (res_tmp rfl) .nil)
 refine WP.seq <| rg 5 0 <| ld 3 rfl trivial rfl sc76 rfl rfl <| fb rfl trivial rfl fa33_0 <| ld 2 rfl trivial rfl sc9 rfl rfl <| el H fun t187 h188 H => cll 4 [0,1,2,3] cal86 (Tr.weak (dag_Dag_Has.c h188 (b0_ := g180.1) (v0_0 := g180.2)) (.cons (wk_ptr h181) (.cons wk_id .nil))) ?_
 refine as0 rfl rfl <| .fin <| cd H rfl (fun _ H => ?_) (fun _ H => ?_)
 ·
  refine WP.seq <| rg 1 0 <| as0 rfl rfl <| .fin <| wg (DDag.shut (p := p0_) (m := a0) (g180.1, g180.2) h181 (pm 4 [0,1,2,3])) fun _ _ => ?_
  obtain rfl := Gets.out H
  exact rt i2 rfl () 3 [1,2,0] 2 (.cons (res_tmp rfl) .nil)
 refine WP.seq <| rg 5 0 <| fb rfl trivial rfl fa33_2 <| ld 2 rfl trivial rfl sc31 rfl rfl <| Dv.mkx (Q := fqQ_string_bool (fun a0_ => dag_Dag_Add_1.f a0_ a0)) (L := [blk b178 76 [eq p0_.1], blk g180.1 102 [vS a0.froom, eq g180.2.1], mpo Value.string DNode.O g180.2.1 a0.fnodes]) cal87 (by rintro _ _ ⟨a0_, r_, h_, rfl, rfl⟩; exact dag_Dag_Add_1.c h_ (cb0_ := b178) (cq0_ := p0_) (cd0_ := g180.1) (ch0_ := h181) (cv0_0 := g180.2)) rfl trivial rfl rfl <| el H fun t190 h191 H => cll 4 [3,0,1,2] cal62 (Tr.unpkr (A := []) (L := [blk b178 76 [eq p0_.1], blk g180.1 102 [vS a0.froom, eq g180.2.1], mpo Value.string DNode.O g180.2.1 a0.fnodes]) (slices_ContainsFunc_string_x.c h191 (X1_ := (pk [blk b178 76 [eq p0_.1], blk g180.1 102 [vS a0.froom, eq g180.2.1], mpo Value.string DNode.O g180.2.1 a0.fnodes])))) ?_
 refine as0 rfl rfl <| .fin <| cd H rfl (fun _ H => ?_) (fun _ H => ?_)
 ·
  refine WP.seq <| rg 1 0 <| as0 rfl rfl <| .fin <| wg (DDag.shut (p := p0_) (m := a0) (g180.1, g180.2) h181 (pm 4 [0,1,2,3])) fun _ _ => ?_
  obtain rfl := Gets.out H
  exact rt i2 rfl () 3 [1,2,0] 2 (.cons (res_tmp rfl) .nil)
 refine WP.skip <| WP.seqr H id (fun p193 : Unit => [(0, eq p0_.1), (1, agg (Event.enc a1)), (2, eq (.pointer (some ⟨b178, 0, none⟩))), (3, eq (.pointer (some ⟨b179, 0, none⟩))), (4, vI 0), (9, vB (!decide (a1.fRoom = a0.froom))), (22, vB t187), (27, vB t190), (34, vB (!decide (a1.fThread = (⟨#[]⟩ : ByteArray))))]) (fun p193 : Unit => [blk b179 33 (Event.enc a1), blk b178 76 [eq p0_.1], DDag.O p0_ a0] ++ F) (fun p193 H => ?_) (fun H => ?_)
 rotate_left
 ·
  refine WP.seq <| rg 3 0 <| fb rfl trivial rfl fa33_3 <| ld 2 rfl trivial rfl sc9 rfl rfl <| bn0 rfl rfl rfl run_sne <| .fin <| cd H rfl (fun _ H => ?_) (fun _ H => ?_)
  rotate_left
  ·
   refine WP.skip ?_
   replace H := Gets.out H
   refine ng (DDag.shut (p := p0_) (m := a0) (g180.1, g180.2) h181 (pm 4 [0,1,2,3])) fun _ _ => ?_
   refine ng (sg 3 [1,2,0] 0) fun _ _ => ?_
   exact jn () H
  refine WP.seq <| wg (mpo_opn 1 rfl) fun z218 h219 => ?_
  refine dg Tryz.checked.mixed 8 0 <| ld 4 rfl trivial rfl sc76 rfl rfl <| Dv.nilpp h181 rfl trivial rfl <| fp h181 rfl trivial rfl fa102_1 <| ld 2 rfl trivial rfl sc100 rfl rfl <| fb rfl trivial rfl fa33_3 <| ld 3 rfl trivial rfl sc9 rfl rfl <| Dv.mlv nilP rfl trivial rfl (mem_at 0 rfl) rfl Tryz.underlying100 (keyOk_str Tryz.underlying9) z103 (fun _ => rfl) <| as0 rfl rfl <| .fin <| WP.seq <| WP.seq <| rg 2 0 <| mv0 rfl rfl <| Dv.pm0 (pm_nil h219 rfl) rfl trivial rfl rfl Tryz.underlying103 <| .fin <| cd H rfl (fun _ H => ?_) (fun _ H => ?_)
  ·
   refine WP.seq <| rg 1 0 <| as0 rfl rfl <| .fin <| wg (mpo_shut h219 rfl (pm 5 [0,1,2,3,4])) fun _ _ => ?_
   refine wg (DDag.shut (p := p0_) (m := a0) (g180.1, g180.2) h181 (pm 4 [1,0,2,3])) fun _ _ => ?_
   replace H := Gets.outr H
   obtain rfl := Gets.out H
   exact rt i2 rfl () 3 [1,2,0] 2 (.cons (res_tmp rfl) .nil)
  refine WP.skip <| WP.seq <| rg 14 0 <| mv0 rfl rfl <| gr H fun g221 H => vg (mpo_foc h219 rfl g221 (pm 5 [1,0,2,3,4])) fun _ _ => ?_
  refine Dv.nilA DNode.nn rfl trivial rfl (mem_at 0 rfl) <| vg (DNode.opn 0 rfl) fun g222 h223 => ?_
  refine fp h223 rfl trivial rfl fa105_0 <| fb rfl trivial rfl fa33_3 <| ld 0 rfl trivial rfl sc9 rfl rfl <| bn0 rfl rfl rfl run_sne <| mv0 rfl rfl ?_
  cases c224 : !decide (((((mget a0.fnodes a1.fThread).getD default).fe).fThread) = (⟨#[]⟩ : ByteArray))
  rotate_left
  ·
   replace H := Gets.ct H c224
   refine sk rfl rfl <| sk rfl rfl <| sk rfl rfl <| sk rfl rfl <| sk rfl rfl <| sk rfl rfl <| pt0 rfl rfl rfl <| .fin <| WP.cond rfl (fun _ => ?_) nofun
   refine WP.seq <| rg 1 0 <| as0 rfl rfl <| .fin <| wg (DNode.shut (p := ((mget (zipK a0.fnodes z218) a1.fThread).getD nilP)) (m := (mget a0.fnodes a1.fThread).getD default) g222 h223 (pm 6 [0,1,2,3,4,5])) fun _ _ => ?_
   refine wg (mpo_unf0 h219 rfl g221 (pm 6 [0,1,2,3,4,5])) fun _ _ => ?_
   refine wg (mpo_shut h219 rfl (pm 5 [1,0,2,3,4])) fun _ _ => ?_
   refine wg (DDag.shut (p := p0_) (m := a0) (g180.1, g180.2) h181 (pm 4 [1,0,2,3])) fun _ _ => ?_
   replace H := Gets.outr H
   obtain rfl := Gets.out H
   exact rt i2 rfl () 3 [1,2,0] 2 (.cons (res_tmp rfl) .nil)
  replace H := Gets.cf H c224
  refine mvg rfl rfl rfl <| Dv.nilpp h223 rfl (gg rfl) rfl <| fp h223 rfl (gg rfl) rfl fa105_0 <| fb rfl (gg rfl) rfl fa33_5 <| ld 0 rfl (gg rfl) rfl sc3 rfl rfl <| bng rfl rfl rfl rfl run_ne <| pf0 rfl rfl rfl <| .fin <| cd H rfl (fun _ H => ?_) (fun _ H => ?_)
  rotate_left
  ·
   refine WP.skip ?_
   replace H := Gets.out H
   refine ng (DNode.shut (p := ((mget (zipK a0.fnodes z218) a1.fThread).getD nilP)) (m := (mget a0.fnodes a1.fThread).getD default) g222 h223 (pm 6 [0,1,2,3,4,5])) fun _ _ => ?_
   refine ng (mpo_unf0 h219 rfl g221 (pm 6 [0,1,2,3,4,5])) fun _ _ => ?_
   refine ng (mpo_shut h219 rfl (pm 5 [1,0,2,3,4])) fun _ _ => ?_
   refine ng (DDag.shut (p := p0_) (m := a0) (g180.1, g180.2) h181 (pm 4 [1,0,2,3])) fun _ _ => ?_
   refine ng (sg 3 [1,2,0] 0) fun _ _ => ?_
   exact jn () H
  refine WP.seq <| rg 1 0 <| as0 rfl rfl <| .fin <| wg (DNode.shut (p := ((mget (zipK a0.fnodes z218) a1.fThread).getD nilP)) (m := (mget a0.fnodes a1.fThread).getD default) g222 h223 (pm 6 [0,1,2,3,4,5])) fun _ _ => ?_
  refine wg (mpo_unf0 h219 rfl g221 (pm 6 [0,1,2,3,4,5])) fun _ _ => ?_
  refine wg (mpo_shut h219 rfl (pm 5 [1,0,2,3,4])) fun _ _ => ?_
  refine wg (DDag.shut (p := p0_) (m := a0) (g180.1, g180.2) h181 (pm 4 [1,0,2,3])) fun _ _ => ?_
  replace H := Gets.outr H
  obtain rfl := Gets.out H
  exact rt i2 rfl () 3 [1,2,0] 2 (.cons (res_tmp rfl) .nil)
 refine WP.seq <| rg 5 8 <| lds 0 rfl trivial rfl sg33 rfl rfl <| el H fun t194 h195 H => cl rfl cal88 rfl (dag_own.c h195) <| Dv.bld (css := [Event.enc t194]) rfl trivial Tryz.underlying105 pl105 z105 rfl ⟨(cells_agg (Event.K.one _)), trivial⟩ rfl rfl <| Dv.box rfl trivial rfl cA nofun fun b196 => as0 rfl rfl <| .fin <| WP.seqn H id (fun p197 : Int × Bool × Int × DDag => [(0, eq p0_.1), (1, agg (Event.enc a1)), (2, eq (.pointer (some ⟨b178, 0, none⟩))), (3, eq (.pointer (some ⟨b179, 0, none⟩))), (4, vI 0), (6, eq (.pointer (some ⟨b196, 0, none⟩))), (9, vB (!decide (a1.fRoom = a0.froom))), (22, vB t187), (27, vB t190), (34, vB (!decide (a1.fThread = (⟨#[]⟩ : ByteArray)))), (63, sl strK a1.fParents), (64, vI (a1.fParents.length : Int)), (65, vI p197.1), (66, vB p197.2.1)]) (fun p197 : Int × Bool × Int × DDag => [blk b196 105 [vS t194.fID, vS t194.fRoom, sl strK t194.fParents, vS t194.fThread, vS t194.fUser, vI t194.fDoes, vI p197.2.2.1, vB false], blk b179 33 (Event.enc a1), blk b178 76 [eq p0_.1], DDag.O p0_ p197.2.2.2] ++ F) (fun p197 H => ?_) (fun H => ?_)
 ·
  refine WP.seq <| wg (DDag.opn 3 rfl) fun g198 h199 => ?_
  refine wg (DNode.shut (p := (⟨.pointer (some ⟨b196, 0, none⟩), rfl⟩ : OV)) (m := (⟨t194, p197.2.2.1, false⟩ : DNode)) b196 rfl (pm 5 [2,0,1,3,4])) fun _ _ => ?_
  refine wg (mpo_opn 2 rfl) fun z200 h201 => ?_
  refine dg Tryz.checked.mixed 8 128 <| ld 5 rfl trivial rfl sc76 rfl rfl <| Dv.nilpp h199 rfl trivial rfl <| fp h199 rfl trivial rfl fa102_1 <| ld 3 rfl trivial rfl sc100 rfl rfl <| fb rfl trivial rfl fa33_0 <| ld 4 rfl trivial rfl sc9 rfl rfl <| mv0 rfl rfl <| Dv.mup (vp := fun p : OV => eq p.1) (jj := 0) (⟨.pointer (some ⟨b196, 0, none⟩), rfl⟩ : OV) rfl trivial rfl rfl rfl rfl Tryz.underlying100 (keyOk_str Tryz.underlying9) (fun _ => pend_bits (by kernel_rfl)) <| .fin <| WP.seq <| rg 1 0 <| as0 rfl rfl <| .fin <| wg (mpo_add DNode.nn h201 rfl (pm 6 [0,1,2,3,4,5])) fun _ _ => ?_
  refine wg (DDag.shut (p := p0_) (m := (⟨p197.2.2.2.froom, mput p197.2.2.2.fnodes a1.fID (⟨t194, p197.2.2.1, false⟩ : DNode)⟩ : DDag)) (g198.1, g198.2) h199 (pm 4 [1,0,2,3])) fun _ _ => ?_
  obtain rfl := Gets.out H
  exact rt i2 rfl () 3 [1,2,0] 2 (.cons (res_tmp rfl) .nil)
 refine WP.seq <| rg 4 0 <| fb rfl trivial rfl fa33_2 <| ld 1 rfl trivial rfl sc31 rfl rfl <| Dv.lenl rfl trivial rfl Tryz.underlying31 <| mv0 rfl rfl <| .fin <| WP.block <| wg (sg 4 [0,1,2,3] 0) fun _ _ => ?_
 refine lp (fun j_ (p216 : Int × Int × DDag) => dag_Dag_Add.l0 k a1 j_ p216.1 p216.2.1 p216.2.2) (0, 0, a0) H (fun p216 => [(0, eq p0_.1), (1, agg (Event.enc a1)), (2, eq (.pointer (some ⟨b178, 0, none⟩))), (3, eq (.pointer (some ⟨b179, 0, none⟩))), (4, vI 0), (6, eq (.pointer (some ⟨b196, 0, none⟩))), (9, vB (!decide (a1.fRoom = a0.froom))), (22, vB t187), (27, vB t190), (34, vB (!decide (a1.fThread = (⟨#[]⟩ : ByteArray)))), (63, sl strK a1.fParents), (64, vI (a1.fParents.length : Int)), (65, vI p216.1)]) (fun p216 => [blk b196 105 [vS t194.fID, vS t194.fRoom, sl strK t194.fParents, vS t194.fThread, vS t194.fUser, vI t194.fDoes, vI p216.2.1, vB false], blk b179 33 (Event.enc a1), blk b178 76 [eq p0_.1], DDag.O p0_ p216.2.2] ++ F) ?_
 rintro j_ ⟨x202, x203, x204⟩ H
 rcases j_ with _ | j215
 ·
  exact (Gets.no H).elim
 replace H : Gets (dag_Dag_Add.l0 k a1 (j215 + 1) x202 x203 x204) _ := H
 rw [dag_Dag_Add.l0] at H
 refine WP.seq <| rg 1 0 <| bn0 rfl rfl rfl run_lt <| .fin <| WP.seq <| cd H rfl (fun _ H => ?_) (fun _ H => ?_)
 rotate_left
 ·
  refine WP.exit ?_
  replace H := Gets.out H
  exact jn (x202, decide (x202 < (a1.fParents.length : Int)), x203, x204) H
 refine WP.skip <| WP.seq <| WP.block <| WP.seq <| rg 3 0 <| gr H fun g206 H => Dv.ixr rfl trivial rfl rfl Tryz.underlying31 Tryz.underlying9 c9 g206.1 g206.2 <| ldR rfl trivial rfl sc9 rfl <| as0 rfl rfl <| .fin <| WP.seq <| wg (DDag.opn 3 rfl) fun g207 h208 => ?_
 refine wg (mpo_opn 1 rfl) fun z209 h210 => ?_
 refine gr H fun g211 H => wg (mpo_foc h210 rfl g211 (pm 6 [1,0,2,3,4,5])) fun _ _ => ?_
 refine wg (DNode.opn 0 rfl) fun g212 h213 => ?_
 refine dg Tryz.checked.mixed 19 262144 <| mv0 rfl rfl <| mv0 rfl rfl <| Dv.nilp rfl trivial rfl <| fb rfl trivial rfl fa105_1 <| ld 4 rfl trivial rfl sc3 rfl rfl <| ld 6 rfl trivial rfl sc76 rfl rfl <| Dv.nilpp h208 rfl trivial rfl <| fp h208 rfl trivial rfl fa102_1 <| ld 3 rfl trivial rfl sc100 rfl rfl <| mv0 rfl rfl <| Dv.mlv nilP rfl trivial rfl (mem_at 2 rfl) rfl Tryz.underlying100 (keyOk_str Tryz.underlying9) z103 (fun _ => rfl) <| Dv.nilpp h213 rfl trivial rfl <| fp h213 rfl trivial rfl fa105_1 <| ld 0 rfl trivial rfl sc3 rfl rfl <| bn0 rfl rfl rfl run_add <| Dv.maxi rfl trivial rfl rfl <| Dv.nilp rfl trivial rfl <| fb rfl trivial rfl fa105_1 <| sx 4 rfl trivial rfl rfl cE sz3 rfl rfl rfl pB ?_
 refine .fin <| rg 9 256 <| ld 6 rfl trivial rfl sc76 rfl rfl <| Dv.nilpp h208 rfl trivial rfl <| fp h208 rfl trivial rfl fa102_1 <| ld 3 rfl trivial rfl sc100 rfl rfl <| mv0 rfl rfl <| Dv.mlv nilP rfl trivial rfl (mem_at 2 rfl) rfl Tryz.underlying100 (keyOk_str Tryz.underlying9) z103 (fun _ => rfl) <| Dv.nilpp h213 rfl trivial rfl <| fp h213 rfl trivial rfl fa105_2 <| sx 0 rfl trivial rfl rfl cE sz4 rfl rfl rfl nofun ?_
 refine .fin <| rg 2 0 <| bn0 rfl rfl rfl run_add <| mv0 rfl rfl <| .fin <| ng (DNode.shut (p := ((mget (zipK x204.fnodes z209) (strK.at a1.fParents x202)).getD nilP)) (m := (⟨((mget x204.fnodes (strK.at a1.fParents x202)).getD default).fe, ((mget x204.fnodes (strK.at a1.fParents x202)).getD default).fdepth, true⟩ : DNode)) g212 h213 (pm 7 [0,1,2,3,4,5,6])) fun _ _ => ?_
 refine ng (mpo_unf h210 rfl g211 (pm 7 [0,1,2,3,4,5,6])) fun _ h214 => ?_
 refine ng (mpo_shut h214 (zipK_put' rfl g211) (pm 6 [1,0,2,3,4,5])) fun _ _ => ?_
 refine ng (DDag.shut (p := p0_) (m := (⟨x204.froom, mput x204.fnodes (strK.at a1.fParents x202) (⟨((mget x204.fnodes (strK.at a1.fParents x202)).getD default).fe, ((mget x204.fnodes (strK.at a1.fParents x202)).getD default).fdepth, true⟩ : DNode)⟩ : DDag)) (g207.1, g207.2) h208 (pm 5 [1,0,2,3,4])) fun _ _ => ?_
 refine ng (sg 4 [1,2,3,0] 0) fun _ _ => ?_
 exact bk j215 (w64 (x202 + 1), max x203 (w64 ((((mget x204.fnodes (strK.at a1.fParents x202)).getD default).fdepth) + 1)), (⟨x204.froom, mput x204.fnodes (strK.at a1.fParents x202) (⟨((mget x204.fnodes (strK.at a1.fParents x202)).getD default).fe, ((mget x204.fnodes (strK.at a1.fParents x202)).getD default).fdepth, true⟩ : DNode)⟩ : DDag)) H
theorem view_View_Add.c {k : Nat} {a0 : VView} {a1 : Event} {p0_ : OV} {r : Int × VView} (h : view_View_Add.f k a0 a1 = some r) : Tr Tryz.prog 13 [eq p0_.1, agg (Event.enc a1)] [VView.O p0_ a0] (γ := Unit) (fun _ => True) (fun g => vI r.1) (fun g => [VView.O p0_ r.2]) := by
 unfold view_View_Add.f at h
 refine Tr.body Tryz.func13 (c := _) rfl Tryz.ntmps13 (Nat.le_of_ble_eq_true rfl) fun R0 F => ?_
 replace h := Gets.of h
 have H := h
 clear h
 refine WP.seq <| rg 2 1 <| Dv.box rfl trivial rfl cA nofun fun b227 => as0 rfl rfl <| .fin <| WP.seq <| rg 5 8 <| mv0 rfl rfl <| fb rfl trivial rfl fa33_1 <| ld 0 rfl trivial rfl sc9 rfl rfl <| vg (VView.opn 1 rfl) fun g228 h229 => ?_
 refine el H fun t230 h231 H => cx 3 [0,1,2] cal52 (Tr.weak (view_View_room.c h231 (b0_ := g228.1) (v0_0 := g228.2)) (.cons (wk_ptr h229) (.cons wk_id .nil))) nofun fun v232 _ => ?_
 refine as0 rfl rfl <| .fin <| WP.seq <| WP.seq <| rg 4 4 <| mv0 rfl rfl <| lds 3 rfl trivial rfl sg33 rfl rfl <| el H fun t233 h234 H => cx 4 [2,0,1,3] cal53 (dag_Dag_Add.c h234 (p0_ := v232)) nofun fun _ _ => ?_
 refine as0 rfl rfl <| .fin <| WP.seq <| rg 2 0 <| mv0 rfl rfl <| bn0 rfl rfl rfl run_ne <| .fin <| cd H rfl (fun _ H => ?_) (fun _ H => ?_)
 ·
  refine WP.seq <| rg 2 0 <| mv0 rfl rfl <| as0 rfl rfl <| .fin <| wg (mpl_back (pm 4 [2,0,1,3])) fun _ _ => ?_
  refine wg (VView.shut (p := p0_) (m := (⟨mres a0.fdags a1.fRoom t233.2⟩ : VView)) (g228.1, g228.2) h229 (pm 3 [1,0,2])) fun _ _ => ?_
  obtain rfl := Gets.out H
  exact rt i2 rfl () 2 [1,0] 1 (.cons (res_tmp rfl) .nil)
 refine WP.skip <| WP.seq <| wg (mpl_opn 2 rfl) fun z236 h237 => ?_
 refine dg Tryz.checked.mixed 8 128 <| mv0 rfl rfl <| Dv.nilpp h229 rfl trivial rfl <| fp h229 rfl trivial rfl fa80_0 <| ld 3 rfl trivial rfl sc78 rfl rfl <| fb rfl trivial rfl fa33_1 <| ld 4 rfl trivial rfl sc9 rfl rfl <| mv0 rfl rfl <| Dv.mup (vp := fun p : OV => eq p.1) (jj := 0) v232 rfl trivial rfl rfl rfl rfl Tryz.underlying78 (keyOk_str Tryz.underlying9) (fun _ => pend_bits (by kernel_rfl)) <| .fin <| WP.seq <| rg 1 0 <| as0 rfl rfl <| .fin <| wg (mpl_add DDag.nn h237 (pm 5 [0,1,2,3,4])) fun _ _ => ?_
 refine wg (VView.shut (p := p0_) (m := (⟨mput a0.fdags a1.fRoom t233.2⟩ : VView)) (g228.1, g228.2) h229 (pm 3 [1,0,2])) fun _ _ => ?_
 obtain rfl := Gets.out H
 exact rt i2 rfl () 2 [1,0] 1 (.cons (res_tmp rfl) .nil)
theorem view_New.c {r : VView} (h : view_New.f = some r) : Tr Tryz.prog 25 [] [] (γ := OV) (fun _ => True) (fun g => eq g.1) (fun g => [VView.O g r]) := by
 unfold view_New.f at h
 refine Tr.body Tryz.func25 (c := _) rfl Tryz.ntmps25 (Nat.le_of_ble_eq_true rfl) fun R0 F => ?_
 replace h := Gets.of h
 have H := h
 clear h
 refine WP.seq <| rg 1 0 <| as0 rfl rfl <| .fin <| WP.seq <| rg 4 5 <| Dv.mmk Value.string (fun p : OV => eq p.1) rfl trivial nofun (fun v238 => ?_)
 refine vg (mpo_new DDag.O) fun _ _ => ?_
 refine Dv.bld (qs := [eq v238.1]) (css := [[eq v238.1]]) rfl trivial Tryz.underlying80 pl80 z80 rfl ⟨(cells_one one_ov), trivial⟩ rfl rfl <| Dv.box rfl trivial rfl cA nofun fun b239 => as0 rfl rfl <| .fin <| wg (VView.shut (p := (⟨.pointer (some ⟨b239, 0, none⟩), rfl⟩ : OV)) (m := (⟨([] : List (ByteArray × DDag))⟩ : VView)) (b239, v238) rfl (pm 2 [0,1])) fun _ _ => ?_
 obtain rfl := Gets.out H
 exact rt i2 rfl (⟨.pointer (some ⟨b239, 0, none⟩), rfl⟩ : OV) 1 [0] 0 (.cons (res_tmp rfl) .nil)
theorem concourseref01_Around.c {a0 : Int} {a1 : Int} {r : Int} (h : concourseref01_Around.f a0 a1 = some r) : Pt Tryz.prog 49 [vI a0, vI a1] (vI r) := by
 unfold concourseref01_Around.f at h
 refine (Tr.body Tryz.func49 (c := _) rfl Tryz.ntmps49 (Nat.le_of_ble_eq_true rfl) fun R0 F => ?_).pt
 replace h := Gets.of h
 have H := h
 clear h
 refine WP.seq <| rg 1 0 <| as0 rfl rfl <| .fin <| WP.seq <| WP.seq <| rg 2 0 <| mv0 rfl rfl <| bn0 rfl rfl rfl run_lt <| .fin <| cd H rfl (fun _ H => ?_) (fun _ H => ?_)
 rotate_left
 ·
  refine WP.skip <| WP.seq <| rg 4 0 <| mv0 rfl rfl <| mv0 rfl rfl <| gr H fun g242 H => bn0 rfl rfl rfl (run_rem g242) <| as0 rfl rfl <| .fin ?_
  obtain rfl := Gets.out H
  exact rt i2 rfl () 0 [] 0 (.cons (res_tmp rfl) .nil)
 refine rg 4 0 <| mv0 rfl rfl <| bn0 rfl rfl rfl run_add <| un0 rfl rfl (run_neg _ _) <| as0 rfl rfl <| .fin <| WP.seq <| rg 4 0 <| mv0 rfl rfl <| mv0 rfl rfl <| gr H fun g241 H => bn0 rfl rfl rfl (run_rem g241) <| as0 rfl rfl <| .fin ?_
 obtain rfl := Gets.out H
 exact rt i2 rfl () 0 [] 0 (.cons (res_tmp rfl) .nil)
theorem concourseref01_RoomOf.c {a0 : Int} {r : ByteArray} (h : concourseref01_RoomOf.f a0 = some r) : Pt Tryz.prog 11 [vI a0] (vS r) := by
 unfold concourseref01_RoomOf.f at h
 refine (Tr.body Tryz.func11 (c := _) rfl Tryz.ntmps11 (Nat.le_of_ble_eq_true rfl) fun R0 F => ?_).pt
 replace h := Gets.of h
 have H := h
 clear h
 refine WP.seq <| rg 1 0 <| as0 rfl rfl <| .fin <| WP.seq <| rg 6 0 <| Dv.lit strK ([(⟨#[33, 114, 58, 115, 49]⟩ : ByteArray), (⟨#[33, 113, 58, 115, 50]⟩ : ByteArray)] : List ByteArray) (css := [[vS (⟨#[33, 114, 58, 115, 49]⟩ : ByteArray)], [vS (⟨#[33, 113, 58, 115, 50]⟩ : ByteArray)]]) rfl trivial Tryz.underlying31 Tryz.underlying9 c9 z9 rfl (by decide) (by decide) rfl ⟨(cells_one (one_eq rfl)), ⟨(cells_one (one_eq rfl)), trivial⟩⟩ rfl rfl rfl <| mv0 rfl rfl <| el H fun t243 h244 H => cl rfl cal49 rfl (concourseref01_Around.c h244) <| gr H fun g245 H => Dv.ixr rfl trivial rfl rfl Tryz.underlying31 Tryz.underlying9 c9 g245.1 g245.2 <| ldR rfl trivial rfl sc9 rfl <| as0 rfl rfl <| .fin ?_
 obtain rfl := Gets.out H
 exact rt i2 rfl () 0 [] 0 (.cons (res_tmp rfl) .nil)
theorem concourseref01_Decimal.c : ∀ (k : Nat) {a0 : Int} {r : ByteArray} (h : concourseref01_Decimal.f k a0 = some r), Pt Tryz.prog 68 [vI a0] (vS r)
  | 0, _, _, h => by cases h
  | k + 1, a0, r, h => by
    rw [concourseref01_Decimal.f] at h
    refine (Tr.body Tryz.func68 (c := _) rfl Tryz.ntmps68 (Nat.le_of_ble_eq_true rfl) fun R0 F => ?_).pt
    replace h := Gets.of h
    have H := h
    clear h
    refine WP.seq <| rg 1 0 <| as0 rfl rfl <| .fin <| WP.seq <| rg 3 0 <| mv0 rfl rfl <| bn0 rfl rfl rfl (run_rem (by decide)) <| as0 rfl rfl <| .fin <| WP.seqn H id (fun p246 : Int => [(0, vI a0), (2, vS (⟨#[]⟩ : ByteArray)), (3, vI p246), (8, vB (decide ((a0.tmod 10) < 0)))]) (fun p246 : Int => F) (fun p246 H => ?_) (fun H => ?_)
    rotate_left
    ·
     refine WP.seq <| rg 2 0 <| mv0 rfl rfl <| bn0 rfl rfl rfl run_lt <| .fin <| cd H rfl (fun _ H => ?_) (fun _ H => ?_)
     rotate_left
     ·
      refine WP.skip ?_
      replace H := Gets.out H
      exact jn (a0.tmod 10) H
     refine rg 3 0 <| mv0 rfl rfl <| un0 rfl rfl (run_neg _ _) <| as0 rfl rfl <| .fin ?_
     replace H := Gets.out H
     exact jn (w64 (0 - (a0.tmod 10))) H
    refine WP.seq <| rg 6 0 <| mv0 rfl rfl <| bn0 rfl rfl rfl run_add <| Dv.cvi rfl trivial rfl Tryz.underlying3 Tryz.underlying5 <| Dv.lit (intK .u8) ([IntKind.u8.wrap (w64 (48 + p246))] : List Int) (css := [[eq (.int .u8 (IntKind.u8.wrap (w64 (48 + p246))))]]) rfl trivial Tryz.underlying117 Tryz.underlying5 c5 z5 rfl (by decide) (by decide) rfl ⟨(cells_one (one_eq rfl)), trivial⟩ rfl rfl rfl <| Dv.cvbs rfl trivial rfl Tryz.underlying117 Tryz.underlying5 Tryz.underlying9 <| as0 rfl rfl <| .fin <| WP.seq <| WP.seq <| rg 6 0 <| mv0 rfl rfl <| bn0 rfl rfl rfl run_gt <| mv0 rfl rfl ?_
    cases c247 : decide ((-10) < a0)
    ·
     replace H := Gets.cf H c247
     refine sk rfl rfl <| sk rfl rfl <| pf0 rfl rfl rfl <| .fin <| WP.cond rfl nofun (fun _ => ?_)
     refine WP.skip <| WP.seq <| rg 6 0 <| mv0 rfl rfl <| bn0 rfl rfl rfl (run_quo (by decide)) <| el H fun t255 h256 H => cl rfl cal68 rfl (concourseref01_Decimal.c k h256) <| mv0 rfl rfl <| gr H fun g257 H => bn0 rfl rfl rfl (run_cat g257) <| as0 rfl rfl <| .fin ?_
     obtain rfl := Gets.out H
     exact rt i2 rfl () 0 [] 0 (.cons (res_tmp rfl) .nil)
    replace H := Gets.ct H c247
    refine mvg rfl rfl rfl <| bng rfl rfl rfl rfl run_lt <| pt0 rfl rfl rfl <| .fin <| cd H rfl (fun _ H => ?_) (fun _ H => ?_)
    rotate_left
    ·
     refine WP.skip <| WP.seq <| rg 6 0 <| mv0 rfl rfl <| bn0 rfl rfl rfl (run_quo (by decide)) <| el H fun t251 h252 H => cl rfl cal68 rfl (concourseref01_Decimal.c k h252) <| mv0 rfl rfl <| gr H fun g253 H => bn0 rfl rfl rfl (run_cat g253) <| as0 rfl rfl <| .fin ?_
     obtain rfl := Gets.out H
     exact rt i2 rfl () 0 [] 0 (.cons (res_tmp rfl) .nil)
    refine WP.seq <| WP.seq <| rg 2 0 <| mv0 rfl rfl <| bn0 rfl rfl rfl run_lt <| .fin <| cd H rfl (fun _ H => ?_) (fun _ H => ?_)
    rotate_left
    ·
     refine WP.skip <| WP.seq <| rg 2 0 <| mv0 rfl rfl <| as0 rfl rfl <| .fin ?_
     obtain rfl := Gets.out H
     exact rt i2 rfl () 0 [] 0 (.cons (res_tmp rfl) .nil)
    refine WP.seq <| rg 3 0 <| mv0 rfl rfl <| gr H fun g250 H => bn0 rfl rfl rfl (run_cat g250) <| as0 rfl rfl <| .fin ?_
    obtain rfl := Gets.out H
    exact rt i2 rfl () 0 [] 0 (.cons (res_tmp rfl) .nil)
theorem concourseref01_EventOf.c {k : Nat} {a0 : Int} {r : ByteArray} (h : concourseref01_EventOf.f k a0 = some r) : Pt Tryz.prog 29 [vI a0] (vS r) := by
 unfold concourseref01_EventOf.f at h
 refine (Tr.body Tryz.func29 (c := _) rfl Tryz.ntmps29 (Nat.le_of_ble_eq_true rfl) fun R0 F => ?_).pt
 replace h := Gets.of h
 have H := h
 clear h
 refine WP.seq <| rg 1 0 <| as0 rfl rfl <| .fin <| WP.seq <| rg 5 0 <| mv0 rfl rfl <| el H fun t259 h260 H => cl rfl cal49 rfl (concourseref01_Around.c h260) <| el H fun t261 h262 H => cl rfl cal68 rfl (concourseref01_Decimal.c _ h262) <| gr H fun g263 H => bn0 rfl rfl rfl (run_cat g263) <| as0 rfl rfl <| .fin ?_
 obtain rfl := Gets.out H
 exact rt i2 rfl () 0 [] 0 (.cons (res_tmp rfl) .nil)
theorem concourseref01_ServerOf.c {a0 : Int} {r : ByteArray} (h : concourseref01_ServerOf.f a0 = some r) : Pt Tryz.prog 39 [vI a0] (vS r) := by
 unfold concourseref01_ServerOf.f at h
 refine (Tr.body Tryz.func39 (c := _) rfl Tryz.ntmps39 (Nat.le_of_ble_eq_true rfl) fun R0 F => ?_).pt
 replace h := Gets.of h
 have H := h
 clear h
 refine WP.seq <| rg 1 0 <| as0 rfl rfl <| .fin <| WP.seq <| rg 6 0 <| Dv.lit strK ([(⟨#[115, 49]⟩ : ByteArray), (⟨#[115, 50]⟩ : ByteArray), (⟨#[115, 51]⟩ : ByteArray)] : List ByteArray) (css := [[vS (⟨#[115, 49]⟩ : ByteArray)], [vS (⟨#[115, 50]⟩ : ByteArray)], [vS (⟨#[115, 51]⟩ : ByteArray)]]) rfl trivial Tryz.underlying31 Tryz.underlying9 c9 z9 rfl (by decide) (by decide) rfl ⟨(cells_one (one_eq rfl)), ⟨(cells_one (one_eq rfl)), ⟨(cells_one (one_eq rfl)), trivial⟩⟩⟩ rfl rfl rfl <| mv0 rfl rfl <| el H fun t264 h265 H => cl rfl cal49 rfl (concourseref01_Around.c h265) <| gr H fun g266 H => Dv.ixr rfl trivial rfl rfl Tryz.underlying31 Tryz.underlying9 c9 g266.1 g266.2 <| ldR rfl trivial rfl sc9 rfl <| as0 rfl rfl <| .fin ?_
 obtain rfl := Gets.out H
 exact rt i2 rfl () 0 [] 0 (.cons (res_tmp rfl) .nil)
theorem concourseref01_UserOf.c {a0 : Int} {r : ByteArray} (h : concourseref01_UserOf.f a0 = some r) : Pt Tryz.prog 36 [vI a0] (vS r) := by
 unfold concourseref01_UserOf.f at h
 refine (Tr.body Tryz.func36 (c := _) rfl Tryz.ntmps36 (Nat.le_of_ble_eq_true rfl) fun R0 F => ?_).pt
 replace h := Gets.of h
 have H := h
 clear h
 refine WP.seq <| rg 1 0 <| as0 rfl rfl <| .fin <| WP.seq <| rg 3 0 <| mv0 rfl rfl <| el H fun t267 h268 H => cl rfl cal49 rfl (concourseref01_Around.c h268) <| as0 rfl rfl <| .fin <| WP.seq <| dg Tryz.checked.mixed 10 0 <| Dv.lit strK ([(⟨#[64, 97, 58]⟩ : ByteArray), (⟨#[64, 98, 58]⟩ : ByteArray), (⟨#[64, 99, 58]⟩ : ByteArray)] : List ByteArray) (css := [[vS (⟨#[64, 97, 58]⟩ : ByteArray)], [vS (⟨#[64, 98, 58]⟩ : ByteArray)], [vS (⟨#[64, 99, 58]⟩ : ByteArray)]]) rfl trivial Tryz.underlying31 Tryz.underlying9 c9 z9 rfl (by decide) (by decide) rfl ⟨(cells_one (one_eq rfl)), ⟨(cells_one (one_eq rfl)), ⟨(cells_one (one_eq rfl)), trivial⟩⟩⟩ rfl rfl rfl <| mv0 rfl rfl <| bn0 rfl rfl rfl (run_quo (by decide)) <| gr H fun g269 H => Dv.ixr rfl trivial rfl rfl Tryz.underlying31 Tryz.underlying9 c9 g269.1 g269.2 <| ldR rfl trivial rfl sc9 rfl <| mv0 rfl rfl <| bn0 rfl rfl rfl (run_rem (by decide)) <| el H fun t270 h271 H => cl rfl cal39 rfl (concourseref01_ServerOf.c h271) <| gr H fun g272 H => bn0 rfl rfl rfl (run_cat g272) <| as0 rfl rfl <| .fin ?_
 obtain rfl := Gets.out H
 exact rt i2 rfl () 0 [] 0 (.cons (res_tmp rfl) .nil)
theorem concourseref07_At.c {k : Nat} {a0 : RDag} {a1 : ByteArray} {r : Int} (h : concourseref07_At.f k a0 a1 = some r) : Pt Tryz.prog 69 [agg (RDag.enc a0), vS a1] (vI r) := by
 unfold concourseref07_At.f at h
 refine (Tr.body Tryz.func69 (c := _) rfl Tryz.ntmps69 (Nat.le_of_ble_eq_true rfl) fun R0 F => ?_).pt
 replace h := Gets.of h
 have H := h
 clear h
 refine WP.seq <| rg 2 1 <| Dv.box rfl trivial rfl cA nofun fun b273 => as0 rfl rfl <| .fin <| WP.seqr H id (fun p274 : Int × Bool => [(0, agg (RDag.enc a0)), (1, vS a1), (2, eq (.pointer (some ⟨b273, 0, none⟩))), (4, vI 0), (5, vI p274.1), (10, vB p274.2)]) (fun p274 : Int × Bool => [blk b273 36 (RDag.enc a0)] ++ F) (fun p274 H => ?_) (fun H => ?_)
 ·
  refine WP.seq <| rg 1 0 <| as0 rfl rfl <| .fin ?_
  obtain rfl := Gets.out H
  exact rt i2 rfl () 1 [0] 1 (.cons (res_tmp rfl) .nil)
 refine WP.seq <| rg 1 0 <| as0 rfl rfl <| .fin <| WP.block <| wg (sg 1 [0] 0) fun _ _ => ?_
 refine lp (fun j_ (p280 : Int) => concourseref07_At.l0 k a0 a1 j_ p280) 0 H (fun p280 => [(0, agg (RDag.enc a0)), (1, vS a1), (2, eq (.pointer (some ⟨b273, 0, none⟩))), (4, vI 0), (5, vI p280)]) (fun p280 => [blk b273 36 (RDag.enc a0)] ++ F) ?_
 rintro j_ x275 H
 rcases j_ with _ | j279
 ·
  exact (Gets.no H).elim
 replace H : Gets (concourseref07_At.l0 k a0 a1 (j279 + 1) x275) _ := H
 rw [concourseref07_At.l0] at H
 refine WP.seq <| WP.seq <| rg 5 0 <| mv0 rfl rfl <| fb rfl trivial rfl fa36_1 <| ld 0 rfl trivial rfl sc23 rfl rfl <| Dv.lenl rfl trivial rfl Tryz.underlying23 <| bn0 rfl rfl rfl run_lt <| .fin <| cd H rfl (fun _ H => ?_) (fun _ H => ?_)
 rotate_left
 ·
  refine WP.exit ?_
  replace H := Gets.out H
  exact jn (x275, decide (x275 < (a0.fL.length : Int))) H
 refine WP.skip <| WP.seq <| WP.block <| WP.seq <| rg 8 0 <| fb rfl trivial rfl fa36_1 <| ld 0 rfl trivial rfl sc23 rfl rfl <| mv0 rfl rfl <| gr H fun g277 H => Dv.ixr rfl trivial rfl rfl Tryz.underlying23 Tryz.underlying33 c33 g277.1 g277.2 <| fr rfl trivial rfl fa33_0 rfl <| ldR rfl trivial rfl sc9 rfl <| mv0 rfl rfl <| bn0 rfl rfl rfl run_seq <| .fin <| cd H rfl (fun _ H => ?_) (fun _ H => ?_)
 rotate_left
 ·
  exact WP.skip <| rg 3 0 <| mv0 rfl rfl <| bn0 rfl rfl rfl run_add <| as0 rfl rfl <| .fin <| bk j279 (w64 (x275 + 1)) H
 refine WP.seq <| rg 2 0 <| mv0 rfl rfl <| as0 rfl rfl <| .fin ?_
 replace H := Gets.outr H
 obtain rfl := Gets.out H
 exact rt i2 rfl () 1 [0] 1 (.cons (res_tmp rfl) .nil)
theorem concourseref01_low.c {a0 : Int} {r : Bool} (h : concourseref01_low.f a0 = some r) : Pt Tryz.prog 123 [eq (.int .u8 a0)] (vB r) := by
 unfold concourseref01_low.f at h
 refine (Tr.body Tryz.func123 (c := _) rfl Tryz.ntmps123 (Nat.le_of_ble_eq_true rfl) fun R0 F => ?_).pt
 replace h := Gets.of h
 have H := h
 clear h
 refine WP.seq <| rg 1 0 <| as0 rfl rfl <| .fin <| WP.seq <| rg 15 0 <| mv0 rfl rfl <| bn0 rfl rfl rfl run_ge <| mv0 rfl rfl ?_
 cases c281 : decide (97 ≤ a0)
 ·
  replace H := Gets.cf H c281
  refine sk rfl rfl <| sk rfl rfl <| pf0 rfl rfl rfl <| mv0 rfl rfl <| mvg rfl rfl rfl <| bng rfl rfl rfl rfl run_ge <| mvg rfl rfl rfl ?_
  cases c284 : decide (48 ≤ a0)
  ·
   replace H := Gets.cf H c284
   refine sk rfl rfl <| sk rfl rfl <| pfg rfl rfl rfl rfl <| pf0 rfl rfl rfl <| as0 rfl rfl <| .fin ?_
   obtain rfl := Gets.out H
   exact rt i2 rfl () 0 [] 0 (.cons (res_tmp rfl) .nil)
  replace H := Gets.ct H c284
  refine mvg rfl rfl rfl <| bng rfl rfl rfl rfl run_le <| ptg rfl rfl rfl rfl <| pf0 rfl rfl rfl <| as0 rfl rfl <| .fin ?_
  obtain rfl := Gets.out H
  exact rt i2 rfl () 0 [] 0 (.cons (res_tmp rfl) .nil)
 replace H := Gets.ct H c281
 refine mvg rfl rfl rfl <| bng rfl rfl rfl rfl run_le <| pt0 rfl rfl rfl <| mv0 rfl rfl ?_
 cases c282 : decide (a0 ≤ 122)
 rotate_left
 ·
  replace H := Gets.ct H c282
  refine sk rfl rfl <| sk rfl rfl <| sk rfl rfl <| sku rfl rfl <| sku rfl rfl <| sk rfl rfl <| pt0 rfl rfl rfl <| as0 rfl rfl <| .fin ?_
  obtain rfl := Gets.out H
  exact rt i2 rfl () 0 [] 0 (.cons (res_tmp rfl) .nil)
 replace H := Gets.cf H c282
 refine mvg rfl rfl rfl <| bng rfl rfl rfl rfl run_ge <| mvg rfl rfl rfl ?_
 cases c283 : decide (48 ≤ a0)
 ·
  replace H := Gets.cf H c283
  refine sk rfl rfl <| sk rfl rfl <| pfg rfl rfl rfl rfl <| pf0 rfl rfl rfl <| as0 rfl rfl <| .fin ?_
  obtain rfl := Gets.out H
  exact rt i2 rfl () 0 [] 0 (.cons (res_tmp rfl) .nil)
 replace H := Gets.ct H c283
 refine mvg rfl rfl rfl <| bng rfl rfl rfl rfl run_le <| ptg rfl rfl rfl rfl <| pf0 rfl rfl rfl <| as0 rfl rfl <| .fin ?_
 obtain rfl := Gets.out H
 exact rt i2 rfl () 0 [] 0 (.cons (res_tmp rfl) .nil)
theorem concourseref01_Event.c {k : Nat} {a0 : ByteArray} {r : Bool} (h : concourseref01_Event.f k a0 = some r) : Pt Tryz.prog 102 [vS a0] (vB r) := by
 unfold concourseref01_Event.f at h
 refine (Tr.body Tryz.func102 (c := _) rfl Tryz.ntmps102 (Nat.le_of_ble_eq_true rfl) fun R0 F => ?_).pt
 replace h := Gets.of h
 have H := h
 clear h
 refine WP.seq <| rg 1 0 <| as0 rfl rfl <| .fin <| WP.seq <| WP.seq <| rg 13 0 <| mv0 rfl rfl <| Dv.lens rfl trivial rfl Tryz.underlying9 <| bn0 rfl rfl rfl run_lt <| mv0 rfl rfl ?_
 cases c285 : decide ((a0.size : Int) < 2)
 rotate_left
 ·
  replace H := Gets.ct H c285
  refine sk rfl rfl <| sk rfl rfl <| sk rfl rfl <| pt0 rfl rfl rfl <| mv0 rfl rfl <| sk rfl rfl <| sk rfl rfl <| sk rfl rfl <| pt0 rfl rfl rfl <| .fin <| WP.cond rfl (fun _ => ?_) nofun
  refine WP.seq <| rg 1 0 <| as0 rfl rfl <| .fin ?_
  obtain rfl := Gets.out H
  exact rt i2 rfl () 0 [] 0 (.cons (res_tmp rfl) .nil)
 replace H := Gets.cf H c285
 refine mvg rfl rfl rfl <| Dv.lens rfl (gg rfl) rfl Tryz.underlying9 <| bng rfl rfl rfl rfl run_gt <| pf0 rfl rfl rfl <| mv0 rfl rfl ?_
 cases c287 : decide (17 < (a0.size : Int))
 rotate_left
 ·
  replace H := Gets.ct H c287
  refine sk rfl rfl <| sk rfl rfl <| sk rfl rfl <| pt0 rfl rfl rfl <| .fin <| WP.cond rfl (fun _ => ?_) nofun
  refine WP.seq <| rg 1 0 <| as0 rfl rfl <| .fin ?_
  obtain rfl := Gets.out H
  exact rt i2 rfl () 0 [] 0 (.cons (res_tmp rfl) .nil)
 replace H := Gets.cf H c287
 refine mvg rfl rfl rfl <| gr H fun g289 H => Dv.ixs rfl (gg rfl) rfl rfl Tryz.underlying9 g289.1 g289.2 <| bng rfl rfl rfl rfl run_ne <| pf0 rfl rfl rfl <| .fin <| cd H rfl (fun _ H => ?_) (fun _ H => ?_)
 ·
  refine WP.seq <| rg 1 0 <| as0 rfl rfl <| .fin ?_
  obtain rfl := Gets.out H
  exact rt i2 rfl () 0 [] 0 (.cons (res_tmp rfl) .nil)
 refine WP.skip <| WP.seqr H id (fun p291 : Int × Bool => [(0, vS a0), (2, vB false), (3, vI p291.1), (18, vB ((bt a0 0) != 36)), (22, vB p291.2)]) (fun p291 : Int × Bool => F) (fun p291 H => ?_) (fun H => ?_)
 ·
  refine WP.seq <| rg 1 0 <| as0 rfl rfl <| .fin ?_
  obtain rfl := Gets.out H
  exact rt i2 rfl () 0 [] 0 (.cons (res_tmp rfl) .nil)
 refine WP.seq <| rg 1 0 <| as0 rfl rfl <| .fin <| WP.block <| wg (sg 0 [] 0) fun _ _ => ?_
 refine lp (fun j_ (p317 : Int) => concourseref01_Event.l0 k a0 j_ p317) 1 H (fun p317 => [(0, vS a0), (2, vB false), (3, vI p317), (18, vB ((bt a0 0) != 36))]) (fun p317 => F) ?_
 rintro j_ x292 H
 rcases j_ with _ | j316
 ·
  exact (Gets.no H).elim
 replace H : Gets (concourseref01_Event.l0 k a0 (j316 + 1) x292) _ := H
 rw [concourseref01_Event.l0] at H
 refine WP.seq <| WP.seq <| rg 4 0 <| mv0 rfl rfl <| mv0 rfl rfl <| Dv.lens rfl trivial rfl Tryz.underlying9 <| bn0 rfl rfl rfl run_lt <| .fin <| cd H rfl (fun _ H => ?_) (fun _ H => ?_)
 rotate_left
 ·
  refine WP.exit ?_
  replace H := Gets.out H
  exact jn (x292, decide (x292 < (a0.size : Int))) H
 refine WP.skip <| WP.seq <| WP.block <| WP.seq <| rg 5 0 <| mv0 rfl rfl <| mv0 rfl rfl <| gr H fun g294 H => Dv.ixs rfl trivial rfl rfl Tryz.underlying9 g294.1 g294.2 <| el H fun t295 h296 H => cl rfl cal123 rfl (concourseref01_low.c h296) <| as0 rfl rfl <| .fin <| WP.seq <| rg 11 0 <| mv0 rfl rfl <| mv0 rfl rfl <| gr H fun g297 H => Dv.ixs rfl trivial rfl rfl Tryz.underlying9 g297.1 g297.2 <| bn0 rfl rfl rfl run_ge <| mv0 rfl rfl ?_
 cases c298 : decide (65 ≤ (bt a0 x292))
 ·
  replace H := Gets.cf H c298
  refine sk rfl rfl <| sk rfl rfl <| sk rfl rfl <| sk rfl rfl <| pf0 rfl rfl rfl <| as0 rfl rfl <| .fin <| WP.seq <| rg 18 0 <| mv0 rfl rfl <| un0 rfl rfl (run_not _) <| mv0 rfl rfl ?_
  cases c309 : !t295
  ·
   replace H := Gets.cf H c309
   refine sk rfl rfl <| sk rfl rfl <| pf0 rfl rfl rfl <| mv0 rfl rfl <| sk rfl rfl <| sk rfl rfl <| sk rfl rfl <| sk rfl rfl <| pf0 rfl rfl rfl <| mv0 rfl rfl <| sk rfl rfl <| sk rfl rfl <| sk rfl rfl <| sk rfl rfl <| pf0 rfl rfl rfl <| .fin <| WP.cond rfl nofun (fun _ => ?_)
   exact WP.skip <| rg 3 0 <| mv0 rfl rfl <| bn0 rfl rfl rfl run_add <| as0 rfl rfl <| .fin <| bk j316 (w64 (x292 + 1)) H
  replace H := Gets.ct H c309
  refine mvg rfl rfl rfl <| ung rfl rfl rfl (run_not _) <| pt0 rfl rfl rfl <| mv0 rfl rfl <| mvg rfl rfl rfl <| mvg rfl rfl rfl <| gr H fun g310 H => Dv.ixs rfl (gg rfl) rfl rfl Tryz.underlying9 g310.1 g310.2 <| bng rfl rfl rfl rfl run_ne <| pt0 rfl rfl rfl <| mv0 rfl rfl ?_
  cases c311 : ((bt a0 x292) != 45)
  ·
   replace H := Gets.cf H c311
   refine sk rfl rfl <| sk rfl rfl <| sk rfl rfl <| sk rfl rfl <| pf0 rfl rfl rfl <| .fin <| WP.cond rfl nofun (fun _ => ?_)
   exact WP.skip <| rg 3 0 <| mv0 rfl rfl <| bn0 rfl rfl rfl run_add <| as0 rfl rfl <| .fin <| bk j316 (w64 (x292 + 1)) H
  replace H := Gets.ct H c311
  refine mvg rfl rfl rfl <| mvg rfl rfl rfl <| gr H fun g312 H => Dv.ixs rfl (gg rfl) rfl rfl Tryz.underlying9 g312.1 g312.2 <| bng rfl rfl rfl rfl run_ne <| pt0 rfl rfl rfl <| .fin <| cd H rfl (fun _ H => ?_) (fun _ H => ?_)
  rotate_left
  ·
   exact WP.skip <| rg 3 0 <| mv0 rfl rfl <| bn0 rfl rfl rfl run_add <| as0 rfl rfl <| .fin <| bk j316 (w64 (x292 + 1)) H
  refine WP.seq <| rg 1 0 <| as0 rfl rfl <| .fin ?_
  replace H := Gets.outr H
  obtain rfl := Gets.out H
  exact rt i2 rfl () 0 [] 0 (.cons (res_tmp rfl) .nil)
 replace H := Gets.ct H c298
 refine mvg rfl rfl rfl <| mvg rfl rfl rfl <| gr H fun g299 H => Dv.ixs rfl (gg rfl) rfl rfl Tryz.underlying9 g299.1 g299.2 <| bng rfl rfl rfl rfl run_le <| pt0 rfl rfl rfl <| as0 rfl rfl <| .fin <| WP.seq <| rg 18 0 <| mv0 rfl rfl <| un0 rfl rfl (run_not _) <| mv0 rfl rfl ?_
 cases c300 : !t295
 ·
  replace H := Gets.cf H c300
  refine sk rfl rfl <| sk rfl rfl <| pf0 rfl rfl rfl <| mv0 rfl rfl <| sk rfl rfl <| sk rfl rfl <| sk rfl rfl <| sk rfl rfl <| pf0 rfl rfl rfl <| mv0 rfl rfl <| sk rfl rfl <| sk rfl rfl <| sk rfl rfl <| sk rfl rfl <| pf0 rfl rfl rfl <| .fin <| WP.cond rfl nofun (fun _ => ?_)
  exact WP.skip <| rg 3 0 <| mv0 rfl rfl <| bn0 rfl rfl rfl run_add <| as0 rfl rfl <| .fin <| bk j316 (w64 (x292 + 1)) H
 replace H := Gets.ct H c300
 refine mvg rfl rfl rfl <| ung rfl rfl rfl (run_not _) <| pt0 rfl rfl rfl <| mv0 rfl rfl ?_
 cases c301 : !(decide ((bt a0 x292) ≤ 90))
 ·
  replace H := Gets.cf H c301
  refine sk rfl rfl <| sk rfl rfl <| sk rfl rfl <| sk rfl rfl <| pf0 rfl rfl rfl <| mv0 rfl rfl <| sk rfl rfl <| sk rfl rfl <| sk rfl rfl <| sk rfl rfl <| pf0 rfl rfl rfl <| .fin <| WP.cond rfl nofun (fun _ => ?_)
  exact WP.skip <| rg 3 0 <| mv0 rfl rfl <| bn0 rfl rfl rfl run_add <| as0 rfl rfl <| .fin <| bk j316 (w64 (x292 + 1)) H
 replace H := Gets.ct H c301
 refine mvg rfl rfl rfl <| mvg rfl rfl rfl <| gr H fun g302 H => Dv.ixs rfl (gg rfl) rfl rfl Tryz.underlying9 g302.1 g302.2 <| bng rfl rfl rfl rfl run_ne <| pt0 rfl rfl rfl <| mv0 rfl rfl ?_
 cases c303 : ((bt a0 x292) != 45)
 ·
  replace H := Gets.cf H c303
  refine sk rfl rfl <| sk rfl rfl <| sk rfl rfl <| sk rfl rfl <| pf0 rfl rfl rfl <| .fin <| WP.cond rfl nofun (fun _ => ?_)
  exact WP.skip <| rg 3 0 <| mv0 rfl rfl <| bn0 rfl rfl rfl run_add <| as0 rfl rfl <| .fin <| bk j316 (w64 (x292 + 1)) H
 replace H := Gets.ct H c303
 refine mvg rfl rfl rfl <| mvg rfl rfl rfl <| gr H fun g304 H => Dv.ixs rfl (gg rfl) rfl rfl Tryz.underlying9 g304.1 g304.2 <| bng rfl rfl rfl rfl run_ne <| pt0 rfl rfl rfl <| .fin <| cd H rfl (fun _ H => ?_) (fun _ H => ?_)
 rotate_left
 ·
  exact WP.skip <| rg 3 0 <| mv0 rfl rfl <| bn0 rfl rfl rfl run_add <| as0 rfl rfl <| .fin <| bk j316 (w64 (x292 + 1)) H
 refine WP.seq <| rg 1 0 <| as0 rfl rfl <| .fin ?_
 replace H := Gets.outr H
 obtain rfl := Gets.out H
 exact rt i2 rfl () 0 [] 0 (.cons (res_tmp rfl) .nil)
theorem concourseref01_colon.c {k : Nat} {a0 : ByteArray} {r : Int} (h : concourseref01_colon.f k a0 = some r) : Pt Tryz.prog 122 [vS a0] (vI r) := by
 unfold concourseref01_colon.f at h
 refine (Tr.body Tryz.func122 (c := _) rfl Tryz.ntmps122 (Nat.le_of_ble_eq_true rfl) fun R0 F => ?_).pt
 replace h := Gets.of h
 have H := h
 clear h
 refine WP.seq <| rg 1 0 <| as0 rfl rfl <| .fin <| WP.seqr H id (fun p318 : Int × Bool => [(0, vS a0), (2, vI 0), (3, vI p318.1), (7, vB p318.2)]) (fun p318 : Int × Bool => F) (fun p318 H => ?_) (fun H => ?_)
 ·
  refine WP.seq <| rg 1 0 <| as0 rfl rfl <| .fin ?_
  obtain rfl := Gets.out H
  exact rt i2 rfl () 0 [] 0 (.cons (res_tmp rfl) .nil)
 refine WP.seq <| rg 1 0 <| as0 rfl rfl <| .fin <| WP.block <| wg (sg 0 [] 0) fun _ _ => ?_
 refine lp (fun j_ (p324 : Int) => concourseref01_colon.l0 k a0 j_ p324) 0 H (fun p324 => [(0, vS a0), (2, vI 0), (3, vI p324)]) (fun p324 => F) ?_
 rintro j_ x319 H
 rcases j_ with _ | j323
 ·
  exact (Gets.no H).elim
 replace H : Gets (concourseref01_colon.l0 k a0 (j323 + 1) x319) _ := H
 rw [concourseref01_colon.l0] at H
 refine WP.seq <| WP.seq <| rg 4 0 <| mv0 rfl rfl <| mv0 rfl rfl <| Dv.lens rfl trivial rfl Tryz.underlying9 <| bn0 rfl rfl rfl run_lt <| .fin <| cd H rfl (fun _ H => ?_) (fun _ H => ?_)
 rotate_left
 ·
  refine WP.exit ?_
  replace H := Gets.out H
  exact jn (x319, decide (x319 < (a0.size : Int))) H
 refine WP.skip <| WP.seq <| WP.block <| WP.seq <| rg 4 0 <| mv0 rfl rfl <| mv0 rfl rfl <| gr H fun g321 H => Dv.ixs rfl trivial rfl rfl Tryz.underlying9 g321.1 g321.2 <| bn0 rfl rfl rfl run_eq <| .fin <| cd H rfl (fun _ H => ?_) (fun _ H => ?_)
 rotate_left
 ·
  exact WP.skip <| rg 3 0 <| mv0 rfl rfl <| bn0 rfl rfl rfl run_add <| as0 rfl rfl <| .fin <| bk j323 (w64 (x319 + 1)) H
 refine WP.seq <| rg 2 0 <| mv0 rfl rfl <| as0 rfl rfl <| .fin ?_
 replace H := Gets.outr H
 obtain rfl := Gets.out H
 exact rt i2 rfl () 0 [] 0 (.cons (res_tmp rfl) .nil)
theorem concourseref01_Part.c {k : Nat} {a0 : ByteArray} {r : Bool} (h : concourseref01_Part.f k a0 = some r) : Pt Tryz.prog 124 [vS a0] (vB r) := by
 unfold concourseref01_Part.f at h
 refine (Tr.body Tryz.func124 (c := _) rfl Tryz.ntmps124 (Nat.le_of_ble_eq_true rfl) fun R0 F => ?_).pt
 replace h := Gets.of h
 have H := h
 clear h
 refine WP.seq <| rg 1 0 <| as0 rfl rfl <| .fin <| WP.seqr H id (fun p325 : Int × Bool => [(0, vS a0), (2, vB false), (3, vI p325.1), (8, vB p325.2)]) (fun p325 : Int × Bool => F) (fun p325 H => ?_) (fun H => ?_)
 ·
  refine WP.seq <| rg 9 0 <| mv0 rfl rfl <| Dv.lens rfl trivial rfl Tryz.underlying9 <| bn0 rfl rfl rfl run_gt <| mv0 rfl rfl ?_
  cases c326 : decide (0 < (a0.size : Int))
  ·
   replace H := Gets.cf H c326
   refine sk rfl rfl <| sk rfl rfl <| sk rfl rfl <| pf0 rfl rfl rfl <| as0 rfl rfl <| .fin ?_
   obtain rfl := Gets.out H
   exact rt i2 rfl () 0 [] 0 (.cons (res_tmp rfl) .nil)
  replace H := Gets.ct H c326
  refine mvg rfl rfl rfl <| Dv.lens rfl (gg rfl) rfl Tryz.underlying9 <| bng rfl rfl rfl rfl run_lt <| pt0 rfl rfl rfl <| as0 rfl rfl <| .fin ?_
  obtain rfl := Gets.out H
  exact rt i2 rfl () 0 [] 0 (.cons (res_tmp rfl) .nil)
 refine WP.seq <| rg 1 0 <| as0 rfl rfl <| .fin <| WP.block <| wg (sg 0 [] 0) fun _ _ => ?_
 refine lp (fun j_ (p343 : Int) => concourseref01_Part.l0 k a0 j_ p343) 0 H (fun p343 => [(0, vS a0), (2, vB false), (3, vI p343)]) (fun p343 => F) ?_
 rintro j_ x327 H
 rcases j_ with _ | j342
 ·
  exact (Gets.no H).elim
 replace H : Gets (concourseref01_Part.l0 k a0 (j342 + 1) x327) _ := H
 rw [concourseref01_Part.l0] at H
 refine WP.seq <| WP.seq <| rg 4 0 <| mv0 rfl rfl <| mv0 rfl rfl <| Dv.lens rfl trivial rfl Tryz.underlying9 <| bn0 rfl rfl rfl run_lt <| .fin <| cd H rfl (fun _ H => ?_) (fun _ H => ?_)
 rotate_left
 ·
  refine WP.exit ?_
  replace H := Gets.out H
  exact jn (x327, decide (x327 < (a0.size : Int))) H
 refine WP.skip <| WP.seq <| WP.block <| WP.seq <| rg 5 0 <| mv0 rfl rfl <| mv0 rfl rfl <| gr H fun g329 H => Dv.ixs rfl trivial rfl rfl Tryz.underlying9 g329.1 g329.2 <| el H fun t330 h331 H => cl rfl cal123 rfl (concourseref01_low.c h331) <| as0 rfl rfl <| .fin <| WP.seq <| rg 20 0 <| mv0 rfl rfl <| un0 rfl rfl (run_not _) <| mv0 rfl rfl ?_
 cases c332 : !t330
 ·
  replace H := Gets.cf H c332
  refine sk rfl rfl <| sk rfl rfl <| sk rfl rfl <| sk rfl rfl <| pf0 rfl rfl rfl <| mv0 rfl rfl <| sk rfl rfl <| sk rfl rfl <| sk rfl rfl <| sk rfl rfl <| pf0 rfl rfl rfl <| mv0 rfl rfl <| sk rfl rfl <| sk rfl rfl <| sk rfl rfl <| sk rfl rfl <| pf0 rfl rfl rfl <| .fin <| WP.cond rfl nofun (fun _ => ?_)
  exact WP.skip <| rg 3 0 <| mv0 rfl rfl <| bn0 rfl rfl rfl run_add <| as0 rfl rfl <| .fin <| bk j342 (w64 (x327 + 1)) H
 replace H := Gets.ct H c332
 refine mvg rfl rfl rfl <| mvg rfl rfl rfl <| gr H fun g333 H => Dv.ixs rfl (gg rfl) rfl rfl Tryz.underlying9 g333.1 g333.2 <| bng rfl rfl rfl rfl run_ne <| pt0 rfl rfl rfl <| mv0 rfl rfl ?_
 cases c334 : ((bt a0 x327) != 46)
 ·
  replace H := Gets.cf H c334
  refine sk rfl rfl <| sk rfl rfl <| sk rfl rfl <| sk rfl rfl <| pf0 rfl rfl rfl <| mv0 rfl rfl <| sk rfl rfl <| sk rfl rfl <| sk rfl rfl <| sk rfl rfl <| pf0 rfl rfl rfl <| .fin <| WP.cond rfl nofun (fun _ => ?_)
  exact WP.skip <| rg 3 0 <| mv0 rfl rfl <| bn0 rfl rfl rfl run_add <| as0 rfl rfl <| .fin <| bk j342 (w64 (x327 + 1)) H
 replace H := Gets.ct H c334
 refine mvg rfl rfl rfl <| mvg rfl rfl rfl <| gr H fun g335 H => Dv.ixs rfl (gg rfl) rfl rfl Tryz.underlying9 g335.1 g335.2 <| bng rfl rfl rfl rfl run_ne <| pt0 rfl rfl rfl <| mv0 rfl rfl ?_
 cases c336 : ((bt a0 x327) != 45)
 ·
  replace H := Gets.cf H c336
  refine sk rfl rfl <| sk rfl rfl <| sk rfl rfl <| sk rfl rfl <| pf0 rfl rfl rfl <| .fin <| WP.cond rfl nofun (fun _ => ?_)
  exact WP.skip <| rg 3 0 <| mv0 rfl rfl <| bn0 rfl rfl rfl run_add <| as0 rfl rfl <| .fin <| bk j342 (w64 (x327 + 1)) H
 replace H := Gets.ct H c336
 refine mvg rfl rfl rfl <| mvg rfl rfl rfl <| gr H fun g337 H => Dv.ixs rfl (gg rfl) rfl rfl Tryz.underlying9 g337.1 g337.2 <| bng rfl rfl rfl rfl run_ne <| pt0 rfl rfl rfl <| .fin <| cd H rfl (fun _ H => ?_) (fun _ H => ?_)
 rotate_left
 ·
  exact WP.skip <| rg 3 0 <| mv0 rfl rfl <| bn0 rfl rfl rfl run_add <| as0 rfl rfl <| .fin <| bk j342 (w64 (x327 + 1)) H
 refine WP.seq <| rg 1 0 <| as0 rfl rfl <| .fin ?_
 replace H := Gets.outr H
 obtain rfl := Gets.out H
 exact rt i2 rfl () 0 [] 0 (.cons (res_tmp rfl) .nil)
theorem concourseref01_Server.c {k : Nat} {a0 : ByteArray} {r : Bool} (h : concourseref01_Server.f k a0 = some r) : Pt Tryz.prog 125 [vS a0] (vB r) := by
 unfold concourseref01_Server.f at h
 refine (Tr.body Tryz.func125 (c := _) rfl Tryz.ntmps125 (Nat.le_of_ble_eq_true rfl) fun R0 F => ?_).pt
 replace h := Gets.of h
 have H := h
 clear h
 refine WP.seq <| rg 1 0 <| as0 rfl rfl <| .fin <| WP.seqr H id (fun p344 : Int × Bool => [(0, vS a0), (2, vB false), (3, vI p344.1), (9, vB p344.2)]) (fun p344 : Int × Bool => F) (fun p344 H => ?_) (fun H => ?_)
 ·
  refine WP.seq <| rg 9 0 <| mv0 rfl rfl <| Dv.lens rfl trivial rfl Tryz.underlying9 <| bn0 rfl rfl rfl run_gt <| mv0 rfl rfl ?_
  cases c345 : decide (0 < (a0.size : Int))
  ·
   replace H := Gets.cf H c345
   refine sk rfl rfl <| sk rfl rfl <| sk rfl rfl <| pf0 rfl rfl rfl <| as0 rfl rfl <| .fin ?_
   obtain rfl := Gets.out H
   exact rt i2 rfl () 0 [] 0 (.cons (res_tmp rfl) .nil)
  replace H := Gets.ct H c345
  refine mvg rfl rfl rfl <| Dv.lens rfl (gg rfl) rfl Tryz.underlying9 <| bng rfl rfl rfl rfl run_lt <| pt0 rfl rfl rfl <| as0 rfl rfl <| .fin ?_
  obtain rfl := Gets.out H
  exact rt i2 rfl () 0 [] 0 (.cons (res_tmp rfl) .nil)
 refine WP.seq <| rg 1 0 <| as0 rfl rfl <| .fin <| WP.block <| wg (sg 0 [] 0) fun _ _ => ?_
 refine lp (fun j_ (p369 : Int) => concourseref01_Server.l0 k a0 j_ p369) 0 H (fun p369 => [(0, vS a0), (2, vB false), (3, vI p369)]) (fun p369 => F) ?_
 rintro j_ x346 H
 rcases j_ with _ | j368
 ·
  exact (Gets.no H).elim
 replace H : Gets (concourseref01_Server.l0 k a0 (j368 + 1) x346) _ := H
 rw [concourseref01_Server.l0] at H
 refine WP.seq <| WP.seq <| rg 4 0 <| mv0 rfl rfl <| mv0 rfl rfl <| Dv.lens rfl trivial rfl Tryz.underlying9 <| bn0 rfl rfl rfl run_lt <| .fin <| cd H rfl (fun _ H => ?_) (fun _ H => ?_)
 rotate_left
 ·
  refine WP.exit ?_
  replace H := Gets.out H
  exact jn (x346, decide (x346 < (a0.size : Int))) H
 refine WP.skip <| WP.seq <| WP.block <| WP.seq <| rg 5 0 <| mv0 rfl rfl <| mv0 rfl rfl <| gr H fun g348 H => Dv.ixs rfl trivial rfl rfl Tryz.underlying9 g348.1 g348.2 <| el H fun t349 h350 H => cl rfl cal123 rfl (concourseref01_low.c h350) <| as0 rfl rfl <| .fin <| WP.seq <| rg 22 0 <| mv0 rfl rfl <| bn0 rfl rfl rfl run_gt <| mv0 rfl rfl ?_
 cases c351 : decide (0 < x346)
 ·
  replace H := Gets.cf H c351
  refine sk rfl rfl <| sk rfl rfl <| sk rfl rfl <| sk rfl rfl <| sk rfl rfl <| pf0 rfl rfl rfl <| mv0 rfl rfl <| sk rfl rfl <| sk rfl rfl <| sk rfl rfl <| sk rfl rfl <| sk rfl rfl <| sku rfl rfl <| sku rfl rfl <| sku rfl rfl <| sku rfl rfl <| sk rfl rfl <| pf0 rfl rfl rfl <| as0 rfl rfl <| .fin <| WP.seq <| rg 6 0 <| mv0 rfl rfl <| un0 rfl rfl (run_not _) <| mv0 rfl rfl ?_
  cases c365 : !t349
  ·
   replace H := Gets.cf H c365
   refine sk rfl rfl <| sk rfl rfl <| pf0 rfl rfl rfl <| .fin <| WP.cond rfl nofun (fun _ => ?_)
   exact WP.skip <| rg 3 0 <| mv0 rfl rfl <| bn0 rfl rfl rfl run_add <| as0 rfl rfl <| .fin <| bk j368 (w64 (x346 + 1)) H
  replace H := Gets.ct H c365
  refine mvg rfl rfl rfl <| ung rfl rfl rfl (run_not _) <| pt0 rfl rfl rfl <| .fin <| WP.cond rfl (fun _ => ?_) nofun
  refine WP.seq <| rg 1 0 <| as0 rfl rfl <| .fin ?_
  replace H := Gets.outr H
  obtain rfl := Gets.out H
  exact rt i2 rfl () 0 [] 0 (.cons (res_tmp rfl) .nil)
 replace H := Gets.ct H c351
 refine mvg rfl rfl rfl <| mvg rfl rfl rfl <| Dv.lens rfl (gg rfl) rfl Tryz.underlying9 <| bng rfl rfl rfl rfl run_sub <| bng rfl rfl rfl rfl run_lt <| pt0 rfl rfl rfl <| mv0 rfl rfl ?_
 cases c352 : decide (x346 < (w64 ((a0.size : Int) - 1)))
 ·
  replace H := Gets.cf H c352
  refine sk rfl rfl <| sk rfl rfl <| sk rfl rfl <| sk rfl rfl <| sk rfl rfl <| sku rfl rfl <| sku rfl rfl <| sku rfl rfl <| sku rfl rfl <| sk rfl rfl <| pf0 rfl rfl rfl <| as0 rfl rfl <| .fin <| WP.seq <| rg 6 0 <| mv0 rfl rfl <| un0 rfl rfl (run_not _) <| mv0 rfl rfl ?_
  cases c362 : !t349
  ·
   replace H := Gets.cf H c362
   refine sk rfl rfl <| sk rfl rfl <| pf0 rfl rfl rfl <| .fin <| WP.cond rfl nofun (fun _ => ?_)
   exact WP.skip <| rg 3 0 <| mv0 rfl rfl <| bn0 rfl rfl rfl run_add <| as0 rfl rfl <| .fin <| bk j368 (w64 (x346 + 1)) H
  replace H := Gets.ct H c362
  refine mvg rfl rfl rfl <| ung rfl rfl rfl (run_not _) <| pt0 rfl rfl rfl <| .fin <| WP.cond rfl (fun _ => ?_) nofun
  refine WP.seq <| rg 1 0 <| as0 rfl rfl <| .fin ?_
  replace H := Gets.outr H
  obtain rfl := Gets.out H
  exact rt i2 rfl () 0 [] 0 (.cons (res_tmp rfl) .nil)
 replace H := Gets.ct H c352
 refine mvg rfl rfl rfl <| mvg rfl rfl rfl <| gr H fun g353 H => Dv.ixs rfl (gg rfl) rfl rfl Tryz.underlying9 g353.1 g353.2 <| bng rfl rfl rfl rfl run_eq <| mvg rfl rfl rfl ?_
 cases c354 : ((bt a0 x346) == 46)
 rotate_left
 ·
  replace H := Gets.ct H c354
  refine sk rfl rfl <| sk rfl rfl <| sk rfl rfl <| sk rfl rfl <| ptg rfl rfl rfl rfl <| pt0 rfl rfl rfl <| as0 rfl rfl <| .fin <| WP.seq <| rg 6 0 <| mv0 rfl rfl <| un0 rfl rfl (run_not _) <| mv0 rfl rfl ?_
  cases c355 : !t349
  ·
   replace H := Gets.cf H c355
   refine sk rfl rfl <| sk rfl rfl <| pf0 rfl rfl rfl <| .fin <| WP.cond rfl nofun (fun _ => ?_)
   exact WP.skip <| rg 3 0 <| mv0 rfl rfl <| bn0 rfl rfl rfl run_add <| as0 rfl rfl <| .fin <| bk j368 (w64 (x346 + 1)) H
  replace H := Gets.ct H c355
  refine mvg rfl rfl rfl <| ung rfl rfl rfl (run_not _) <| pt0 rfl rfl rfl <| .fin <| WP.cond rfl nofun (fun _ => ?_)
  exact WP.skip <| rg 3 0 <| mv0 rfl rfl <| bn0 rfl rfl rfl run_add <| as0 rfl rfl <| .fin <| bk j368 (w64 (x346 + 1)) H
 replace H := Gets.cf H c354
 refine mvg rfl rfl rfl <| mvg rfl rfl rfl <| gr H fun g358 H => Dv.ixs rfl (gg rfl) rfl rfl Tryz.underlying9 g358.1 g358.2 <| bng rfl rfl rfl rfl run_eq <| pfg rfl rfl rfl rfl <| pt0 rfl rfl rfl <| as0 rfl rfl <| .fin <| WP.seq <| rg 6 0 <| mv0 rfl rfl <| un0 rfl rfl (run_not _) <| mv0 rfl rfl ?_
 cases c359 : !t349
 ·
  replace H := Gets.cf H c359
  refine sk rfl rfl <| sk rfl rfl <| pf0 rfl rfl rfl <| .fin <| WP.cond rfl nofun (fun _ => ?_)
  exact WP.skip <| rg 3 0 <| mv0 rfl rfl <| bn0 rfl rfl rfl run_add <| as0 rfl rfl <| .fin <| bk j368 (w64 (x346 + 1)) H
 replace H := Gets.ct H c359
 refine mvg rfl rfl rfl <| ung rfl rfl rfl (run_not _) <| pt0 rfl rfl rfl <| .fin <| cd H rfl (fun _ H => ?_) (fun _ H => ?_)
 rotate_left
 ·
  exact WP.skip <| rg 3 0 <| mv0 rfl rfl <| bn0 rfl rfl rfl run_add <| as0 rfl rfl <| .fin <| bk j368 (w64 (x346 + 1)) H
 refine WP.seq <| rg 1 0 <| as0 rfl rfl <| .fin ?_
 replace H := Gets.outr H
 obtain rfl := Gets.out H
 exact rt i2 rfl () 0 [] 0 (.cons (res_tmp rfl) .nil)
theorem concourseref01_Named.c {k : Nat} {a0 : ByteArray} {a1 : Int} {r : Bool} (h : concourseref01_Named.f k a0 a1 = some r) : Pt Tryz.prog 103 [vS a0, eq (.int .u8 a1)] (vB r) := by
 unfold concourseref01_Named.f at h
 refine (Tr.body Tryz.func103 (c := _) rfl Tryz.ntmps103 (Nat.le_of_ble_eq_true rfl) fun R0 F => ?_).pt
 replace h := Gets.of h
 have H := h
 clear h
 refine WP.seq <| rg 1 0 <| as0 rfl rfl <| .fin <| WP.seq <| rg 3 0 <| mv0 rfl rfl <| el H fun t370 h371 H => cl rfl cal122 rfl (concourseref01_colon.c h371) <| as0 rfl rfl <| .fin <| WP.seq <| WP.seq <| rg 8 0 <| mv0 rfl rfl <| bn0 rfl rfl rfl run_lt <| mv0 rfl rfl ?_
 cases c372 : decide (t370 < 1)
 rotate_left
 ·
  replace H := Gets.ct H c372
  refine sk rfl rfl <| sk rfl rfl <| sk rfl rfl <| sk rfl rfl <| pt0 rfl rfl rfl <| .fin <| WP.cond rfl (fun _ => ?_) nofun
  refine WP.seq <| rg 1 0 <| as0 rfl rfl <| .fin ?_
  obtain rfl := Gets.out H
  exact rt i2 rfl () 0 [] 0 (.cons (res_tmp rfl) .nil)
 replace H := Gets.cf H c372
 refine mvg rfl rfl rfl <| gr H fun g374 H => Dv.ixs rfl (gg rfl) rfl rfl Tryz.underlying9 g374.1 g374.2 <| mvg rfl rfl rfl <| bng rfl rfl rfl rfl run_ne <| pf0 rfl rfl rfl <| .fin <| cd H rfl (fun _ H => ?_) (fun _ H => ?_)
 ·
  refine WP.seq <| rg 1 0 <| as0 rfl rfl <| .fin ?_
  obtain rfl := Gets.out H
  exact rt i2 rfl () 0 [] 0 (.cons (res_tmp rfl) .nil)
 refine WP.skip <| WP.seq <| rg 5 0 <| mv0 rfl rfl <| mv0 rfl rfl <| gr H fun g376 H => Dv.sss rfl trivial rfl Tryz.underlying9 (bdE_some rfl g376.1) (bdE_some rfl g376.2.1) g376.2.2.1 g376.2.2.2 <| el H fun t377 h378 H => cl rfl cal124 rfl (concourseref01_Part.c h378) <| as0 rfl rfl <| .fin <| WP.seq <| rg 6 0 <| mv0 rfl rfl <| mv0 rfl rfl <| bn0 rfl rfl rfl run_add <| gr H fun g379 H => Dv.sss rfl trivial rfl Tryz.underlying9 (bdE_some rfl g379.1) bdE_none g379.2.1 g379.2.2 <| el H fun t380 h381 H => cl rfl cal125 rfl (concourseref01_Server.c h381) <| as0 rfl rfl <| .fin <| WP.seq <| rg 5 0 <| mv0 rfl rfl <| mv0 rfl rfl ?_
 cases c382 : t377
 ·
  replace H := Gets.cf H c382
  refine sk rfl rfl <| pf0 rfl rfl rfl <| as0 rfl rfl <| .fin ?_
  obtain rfl := Gets.out H
  exact rt i2 rfl () 0 [] 0 (.cons (res_tmp rfl) .nil)
 replace H := Gets.ct H c382
 refine mvg rfl rfl rfl <| pt0 rfl rfl rfl <| as0 rfl rfl <| .fin ?_
 obtain rfl := Gets.out H
 exact rt i2 rfl () 0 [] 0 (.cons (res_tmp rfl) .nil)
theorem concourseref07_May.c {k : Nat} {a0 : Event} {r : Bool} (h : concourseref07_May.f k a0 = some r) : Pt Tryz.prog 83 [agg (Event.enc a0)] (vB r) := by
 unfold concourseref07_May.f at h
 refine (Tr.body Tryz.func83 (c := _) rfl Tryz.ntmps83 (Nat.le_of_ble_eq_true rfl) fun R0 F => ?_).pt
 replace h := Gets.of h
 have H := h
 clear h
 refine WP.seq <| rg 2 1 <| Dv.box rfl trivial rfl cA nofun fun b383 => as0 rfl rfl <| .fin <| WP.seq <| rg 4 0 <| fb rfl trivial rfl fa33_0 <| ld 0 rfl trivial rfl sc9 rfl rfl <| el H fun t384 h385 H => cl rfl cal102 rfl (concourseref01_Event.c h385) <| as0 rfl rfl <| .fin <| WP.seq <| rg 4 0 <| fb rfl trivial rfl fa33_1 <| ld 0 rfl trivial rfl sc9 rfl rfl <| el H fun t386 h387 H => cl rfl cal103 rfl (concourseref01_Named.c h387) <| as0 rfl rfl <| .fin <| WP.seq <| rg 4 0 <| fb rfl trivial rfl fa33_4 <| ld 0 rfl trivial rfl sc9 rfl rfl <| el H fun t388 h389 H => cl rfl cal103 rfl (concourseref01_Named.c h389) <| as0 rfl rfl <| .fin <| WP.seq <| WP.seq <| rg 26 0 <| mv0 rfl rfl <| un0 rfl rfl (run_not _) <| mv0 rfl rfl ?_
 cases c390 : !t384
 rotate_left
 ·
  replace H := Gets.ct H c390
  refine sk rfl rfl <| sk rfl rfl <| pt0 rfl rfl rfl <| mv0 rfl rfl <| sk rfl rfl <| sk rfl rfl <| pt0 rfl rfl rfl <| mv0 rfl rfl <| sk rfl rfl <| sk rfl rfl <| sk rfl rfl <| sk rfl rfl <| pt0 rfl rfl rfl <| mv0 rfl rfl <| sk rfl rfl <| sk rfl rfl <| sk rfl rfl <| pt0 rfl rfl rfl <| mv0 rfl rfl <| sk rfl rfl <| sk rfl rfl <| sk rfl rfl <| pt0 rfl rfl rfl <| .fin <| WP.cond rfl (fun _ => ?_) nofun
  refine WP.seq <| rg 1 0 <| as0 rfl rfl <| .fin ?_
  obtain rfl := Gets.out H
  exact rt i2 rfl () 1 [0] 1 (.cons (res_tmp rfl) .nil)
 replace H := Gets.cf H c390
 refine mvg rfl rfl rfl <| ung rfl rfl rfl (run_not _) <| pf0 rfl rfl rfl <| mv0 rfl rfl ?_
 cases c392 : !t386
 rotate_left
 ·
  replace H := Gets.ct H c392
  refine sk rfl rfl <| sk rfl rfl <| pt0 rfl rfl rfl <| mv0 rfl rfl <| sk rfl rfl <| sk rfl rfl <| sk rfl rfl <| sk rfl rfl <| pt0 rfl rfl rfl <| mv0 rfl rfl <| sk rfl rfl <| sk rfl rfl <| sk rfl rfl <| pt0 rfl rfl rfl <| mv0 rfl rfl <| sk rfl rfl <| sk rfl rfl <| sk rfl rfl <| pt0 rfl rfl rfl <| .fin <| WP.cond rfl (fun _ => ?_) nofun
  refine WP.seq <| rg 1 0 <| as0 rfl rfl <| .fin ?_
  obtain rfl := Gets.out H
  exact rt i2 rfl () 1 [0] 1 (.cons (res_tmp rfl) .nil)
 replace H := Gets.cf H c392
 refine mvg rfl rfl rfl <| ung rfl rfl rfl (run_not _) <| pf0 rfl rfl rfl <| mv0 rfl rfl ?_
 cases c394 : !t388
 rotate_left
 ·
  replace H := Gets.ct H c394
  refine sk rfl rfl <| sk rfl rfl <| sk rfl rfl <| sk rfl rfl <| pt0 rfl rfl rfl <| mv0 rfl rfl <| sk rfl rfl <| sk rfl rfl <| sk rfl rfl <| pt0 rfl rfl rfl <| mv0 rfl rfl <| sk rfl rfl <| sk rfl rfl <| sk rfl rfl <| pt0 rfl rfl rfl <| .fin <| WP.cond rfl (fun _ => ?_) nofun
  refine WP.seq <| rg 1 0 <| as0 rfl rfl <| .fin ?_
  obtain rfl := Gets.out H
  exact rt i2 rfl () 1 [0] 1 (.cons (res_tmp rfl) .nil)
 replace H := Gets.cf H c394
 refine fb rfl (gg rfl) rfl fa33_2 <| ld 0 rfl (gg rfl) rfl sc31 rfl rfl <| Dv.lenl rfl (gg rfl) rfl Tryz.underlying31 <| bng rfl rfl rfl rfl run_gt <| pf0 rfl rfl rfl <| mv0 rfl rfl ?_
 cases c396 : decide (4 < (a0.fParents.length : Int))
 rotate_left
 ·
  replace H := Gets.ct H c396
  refine sk rfl rfl <| sk rfl rfl <| sk rfl rfl <| pt0 rfl rfl rfl <| mv0 rfl rfl <| sk rfl rfl <| sk rfl rfl <| sk rfl rfl <| pt0 rfl rfl rfl <| .fin <| WP.cond rfl (fun _ => ?_) nofun
  refine WP.seq <| rg 1 0 <| as0 rfl rfl <| .fin ?_
  obtain rfl := Gets.out H
  exact rt i2 rfl () 1 [0] 1 (.cons (res_tmp rfl) .nil)
 replace H := Gets.cf H c396
 refine fb rfl (gg rfl) rfl fa33_5 <| ld 0 rfl (gg rfl) rfl sc3 rfl rfl <| bng rfl rfl rfl rfl run_lt <| pf0 rfl rfl rfl <| mv0 rfl rfl ?_
 cases c398 : decide (a0.fDoes < 0)
 rotate_left
 ·
  replace H := Gets.ct H c398
  refine sk rfl rfl <| sk rfl rfl <| sk rfl rfl <| pt0 rfl rfl rfl <| .fin <| WP.cond rfl (fun _ => ?_) nofun
  refine WP.seq <| rg 1 0 <| as0 rfl rfl <| .fin ?_
  obtain rfl := Gets.out H
  exact rt i2 rfl () 1 [0] 1 (.cons (res_tmp rfl) .nil)
 replace H := Gets.cf H c398
 refine fb rfl (gg rfl) rfl fa33_5 <| ld 0 rfl (gg rfl) rfl sc3 rfl rfl <| bng rfl rfl rfl rfl run_gt <| pf0 rfl rfl rfl <| .fin <| cd H rfl (fun _ H => ?_) (fun _ H => ?_)
 ·
  refine WP.seq <| rg 1 0 <| as0 rfl rfl <| .fin ?_
  obtain rfl := Gets.out H
  exact rt i2 rfl () 1 [0] 1 (.cons (res_tmp rfl) .nil)
 refine WP.skip <| WP.seqr H id (fun p401 : Unit => [(0, agg (Event.enc a0)), (1, eq (.pointer (some ⟨b383, 0, none⟩))), (2, vB false), (3, vB t384), (4, vB t386), (5, vB t388), (43, vB (decide (2 < a0.fDoes))), (46, vB (!decide (a0.fThread = (⟨#[]⟩ : ByteArray))))]) (fun p401 : Unit => [blk b383 33 (Event.enc a0)] ++ F) (fun p401 H => ?_) (fun H => ?_)
 rotate_left
 ·
  refine WP.seq <| rg 3 0 <| fb rfl trivial rfl fa33_3 <| ld 0 rfl trivial rfl sc9 rfl rfl <| bn0 rfl rfl rfl run_sne <| .fin <| cd H rfl (fun _ H => ?_) (fun _ H => ?_)
  rotate_left
  ·
   refine WP.skip ?_
   replace H := Gets.out H
   exact jn () H
  refine WP.seq <| rg 4 0 <| fb rfl trivial rfl fa33_3 <| ld 0 rfl trivial rfl sc9 rfl rfl <| el H fun t420 h421 H => cl rfl cal102 rfl (concourseref01_Event.c h421) <| as0 rfl rfl <| .fin <| WP.seq <| rg 14 0 <| mv0 rfl rfl <| un0 rfl rfl (run_not _) <| mv0 rfl rfl ?_
  cases c422 : !t420
  rotate_left
  ·
   replace H := Gets.ct H c422
   refine sk rfl rfl <| sk rfl rfl <| sk rfl rfl <| sk rfl rfl <| sk rfl rfl <| pt0 rfl rfl rfl <| mv0 rfl rfl <| sk rfl rfl <| sk rfl rfl <| sk rfl rfl <| pt0 rfl rfl rfl <| .fin <| WP.cond rfl (fun _ => ?_) nofun
   refine WP.seq <| rg 1 0 <| as0 rfl rfl <| .fin ?_
   replace H := Gets.outr H
   obtain rfl := Gets.out H
   exact rt i2 rfl () 1 [0] 1 (.cons (res_tmp rfl) .nil)
  replace H := Gets.cf H c422
  refine fb rfl (gg rfl) rfl fa33_3 <| ld 0 rfl (gg rfl) rfl sc9 rfl rfl <| fb rfl (gg rfl) rfl fa33_0 <| ld 0 rfl (gg rfl) rfl sc9 rfl rfl <| bng rfl rfl rfl rfl run_seq <| pf0 rfl rfl rfl <| mv0 rfl rfl ?_
  cases c424 : decide (a0.fThread = a0.fID)
  rotate_left
  ·
   replace H := Gets.ct H c424
   refine sk rfl rfl <| sk rfl rfl <| sk rfl rfl <| pt0 rfl rfl rfl <| .fin <| WP.cond rfl (fun _ => ?_) nofun
   refine WP.seq <| rg 1 0 <| as0 rfl rfl <| .fin ?_
   replace H := Gets.outr H
   obtain rfl := Gets.out H
   exact rt i2 rfl () 1 [0] 1 (.cons (res_tmp rfl) .nil)
  replace H := Gets.cf H c424
  refine fb rfl (gg rfl) rfl fa33_5 <| ld 0 rfl (gg rfl) rfl sc3 rfl rfl <| bng rfl rfl rfl rfl run_ne <| pf0 rfl rfl rfl <| .fin <| cd H rfl (fun _ H => ?_) (fun _ H => ?_)
  rotate_left
  ·
   refine WP.skip ?_
   replace H := Gets.out H
   exact jn () H
  refine WP.seq <| rg 1 0 <| as0 rfl rfl <| .fin ?_
  replace H := Gets.outr H
  obtain rfl := Gets.out H
  exact rt i2 rfl () 1 [0] 1 (.cons (res_tmp rfl) .nil)
 refine WP.seqr H id (fun p402 : Int × Bool => [(0, agg (Event.enc a0)), (1, eq (.pointer (some ⟨b383, 0, none⟩))), (2, vB false), (3, vB t384), (4, vB t386), (5, vB t388), (7, vI p402.1), (43, vB (decide (2 < a0.fDoes))), (46, vB (!decide (a0.fThread = (⟨#[]⟩ : ByteArray)))), (68, vB p402.2)]) (fun p402 : Int × Bool => [blk b383 33 (Event.enc a0)] ++ F) (fun p402 H => ?_) (fun H => ?_)
 ·
  refine WP.seq <| rg 1 0 <| as0 rfl rfl <| .fin ?_
  obtain rfl := Gets.out H
  exact rt i2 rfl () 1 [0] 1 (.cons (res_tmp rfl) .nil)
 refine WP.seq <| rg 1 0 <| as0 rfl rfl <| .fin <| WP.block <| wg (sg 1 [0] 0) fun _ _ => ?_
 refine lp (fun j_ (p418 : Int) => concourseref07_May.l0 k a0 j_ p418) 0 H (fun p418 => [(0, agg (Event.enc a0)), (1, eq (.pointer (some ⟨b383, 0, none⟩))), (2, vB false), (3, vB t384), (4, vB t386), (5, vB t388), (7, vI p418), (43, vB (decide (2 < a0.fDoes))), (46, vB (!decide (a0.fThread = (⟨#[]⟩ : ByteArray))))]) (fun p418 => [blk b383 33 (Event.enc a0)] ++ F) ?_
 rintro j_ x403 H
 rcases j_ with _ | j417
 ·
  exact (Gets.no H).elim
 replace H : Gets (concourseref07_May.l0 k a0 (j417 + 1) x403) _ := H
 rw [concourseref07_May.l0] at H
 refine WP.seq <| WP.seq <| rg 5 0 <| mv0 rfl rfl <| fb rfl trivial rfl fa33_2 <| ld 0 rfl trivial rfl sc31 rfl rfl <| Dv.lenl rfl trivial rfl Tryz.underlying31 <| bn0 rfl rfl rfl run_lt <| .fin <| cd H rfl (fun _ H => ?_) (fun _ H => ?_)
 rotate_left
 ·
  refine WP.exit ?_
  replace H := Gets.out H
  exact jn (x403, decide (x403 < (a0.fParents.length : Int))) H
 refine WP.skip <| WP.seq <| WP.block <| WP.seq <| rg 7 0 <| fb rfl trivial rfl fa33_2 <| ld 0 rfl trivial rfl sc31 rfl rfl <| mv0 rfl rfl <| gr H fun g405 H => Dv.ixr rfl trivial rfl rfl Tryz.underlying31 Tryz.underlying9 c9 g405.1 g405.2 <| ldR rfl trivial rfl sc9 rfl <| el H fun t406 h407 H => cl rfl cal102 rfl (concourseref01_Event.c h407) <| as0 rfl rfl <| .fin <| WP.seq <| WP.seq <| dg Tryz.checked.mixed 12 0 <| mv0 rfl rfl <| un0 rfl rfl (run_not _) <| mv0 rfl rfl ?_
 cases c408 : !t406
 rotate_left
 ·
  replace H := Gets.ct H c408
  refine sk rfl rfl <| sk rfl rfl <| sk rfl rfl <| sk rfl rfl <| sk rfl rfl <| sk rfl rfl <| sk rfl rfl <| sk rfl rfl <| pt0 rfl rfl rfl <| .fin <| WP.cond rfl (fun _ => ?_) nofun
  refine WP.seq <| rg 1 0 <| as0 rfl rfl <| .fin ?_
  replace H := Gets.outr H
  obtain rfl := Gets.out H
  exact rt i2 rfl () 1 [0] 1 (.cons (res_tmp rfl) .nil)
 replace H := Gets.cf H c408
 refine fb rfl (gg rfl) rfl fa33_2 <| ld 0 rfl (gg rfl) rfl sc31 rfl rfl <| mvg rfl rfl rfl <| gr H fun g410 H => Dv.ixr rfl (gg rfl) rfl rfl Tryz.underlying31 Tryz.underlying9 c9 g410.1 g410.2 <| ldR rfl (gg rfl) rfl sc9 rfl <| fb rfl (gg rfl) rfl fa33_0 <| ld 0 rfl (gg rfl) rfl sc9 rfl rfl <| bng rfl rfl rfl rfl run_seq <| pf0 rfl rfl rfl <| .fin <| cd H rfl (fun _ H => ?_) (fun _ H => ?_)
 ·
  refine WP.seq <| rg 1 0 <| as0 rfl rfl <| .fin ?_
  replace H := Gets.outr H
  obtain rfl := Gets.out H
  exact rt i2 rfl () 1 [0] 1 (.cons (res_tmp rfl) .nil)
 refine WP.skip <| WP.seq <| dg Tryz.checked.mixed 17 0 <| mv0 rfl rfl <| bn0 rfl rfl rfl run_gt <| mv0 rfl rfl ?_
 cases c412 : decide (0 < x403)
 ·
  replace H := Gets.cf H c412
  refine sk rfl rfl <| sk rfl rfl <| sk rfl rfl <| sk rfl rfl <| sk rfl rfl <| sk rfl rfl <| sk rfl rfl <| sk rfl rfl <| sk rfl rfl <| sk rfl rfl <| sk rfl rfl <| sk rfl rfl <| sk rfl rfl <| pf0 rfl rfl rfl <| .fin <| WP.cond rfl nofun (fun _ => ?_)
  exact WP.skip <| rg 3 0 <| mv0 rfl rfl <| bn0 rfl rfl rfl run_add <| as0 rfl rfl <| .fin <| bk j417 (w64 (x403 + 1)) H
 replace H := Gets.ct H c412
 refine fb rfl (gg rfl) rfl fa33_2 <| ld 0 rfl (gg rfl) rfl sc31 rfl rfl <| mvg rfl rfl rfl <| bng rfl rfl rfl rfl run_sub <| Dv.maxi rfl (gg rfl) rfl rfl <| gr H fun g413 H => Dv.ixr rfl (gg rfl) rfl rfl Tryz.underlying31 Tryz.underlying9 c9 g413.1 g413.2 <| ldR rfl (gg rfl) rfl sc9 rfl <| fb rfl (gg rfl) rfl fa33_2 <| ld 0 rfl (gg rfl) rfl sc31 rfl rfl <| mvg rfl rfl rfl <| gr H fun g414 H => Dv.ixr rfl (gg rfl) rfl rfl Tryz.underlying31 Tryz.underlying9 c9 g414.1 g414.2 <| ldR rfl (gg rfl) rfl sc9 rfl <| bng rfl rfl rfl rfl run_sge <| pt0 rfl rfl rfl <| .fin <| cd H rfl (fun _ H => ?_) (fun _ H => ?_)
 rotate_left
 ·
  exact WP.skip <| rg 3 0 <| mv0 rfl rfl <| bn0 rfl rfl rfl run_add <| as0 rfl rfl <| .fin <| bk j417 (w64 (x403 + 1)) H
 refine WP.seq <| rg 1 0 <| as0 rfl rfl <| .fin ?_
 replace H := Gets.outr H
 obtain rfl := Gets.out H
 exact rt i2 rfl () 1 [0] 1 (.cons (res_tmp rfl) .nil)
theorem concourseref07_Add.c {k : Nat} {a0 : RDag} {a1 : Event} {r : RDag × Int} (h : concourseref07_Add.f k a0 a1 = some r) : Pt Tryz.prog 51 [agg (RDag.enc a0), agg (Event.enc a1)] (tup [agg (RDag.enc r.1), vI r.2]) := by
 unfold concourseref07_Add.f at h
 refine (Tr.body Tryz.func51 (c := _) rfl Tryz.ntmps51 (Nat.le_of_ble_eq_true rfl) fun R0 F => ?_).pt
 replace h := Gets.of h
 have H := h
 clear h
 refine WP.seq <| rg 4 7 <| Dv.box rfl trivial rfl cA nofun fun b427 => Dv.box rfl trivial rfl cA nofun fun b428 => al rfl trivial zc36 nofun fun b429 => as0 rfl rfl <| .fin <| WP.seq <| rg 3 0 <| lds 1 rfl trivial rfl sg33 rfl rfl <| el H fun t430 h431 H => cl rfl cal83 rfl (concourseref07_May.c h431) <| as0 rfl rfl <| .fin <| WP.seq <| WP.seq <| rg 9 0 <| mv0 rfl rfl <| un0 rfl rfl (run_not _) <| mv0 rfl rfl ?_
 cases c432 : !t430
 rotate_left
 ·
  replace H := Gets.ct H c432
  refine sk rfl rfl <| sk rfl rfl <| sk rfl rfl <| sk rfl rfl <| sk rfl rfl <| pt0 rfl rfl rfl <| .fin <| WP.cond rfl (fun _ => ?_) nofun
  refine WP.seq <| rg 3 2 <| lds 2 rfl trivial rfl sg36 rfl rfl <| sx 0 rfl trivial rfl rfl cA sz36 rfl rfl rfl nofun ?_
  refine as0 rfl rfl <| .fin ?_
  obtain rfl := Gets.out H
  exact rt i2 rfl () 3 [0,1,2] 3 (.cons (res_cells rfl Tryz.underlying36 rfl c36 (mem_at 0 rfl) rfl) (.cons (res_tmp rfl) .nil))
 replace H := Gets.cf H c432
 refine fb rfl (gg rfl) rfl fa33_1 <| ld 1 rfl (gg rfl) rfl sc9 rfl rfl <| fb rfl (gg rfl) rfl fa36_0 <| ld 2 rfl (gg rfl) rfl sc9 rfl rfl <| bng rfl rfl rfl rfl run_sne <| pf0 rfl rfl rfl <| .fin <| cd H rfl (fun _ H => ?_) (fun _ H => ?_)
 ·
  refine WP.seq <| rg 3 2 <| lds 2 rfl trivial rfl sg36 rfl rfl <| sx 0 rfl trivial rfl rfl cA sz36 rfl rfl rfl nofun ?_
  refine as0 rfl rfl <| .fin ?_
  obtain rfl := Gets.out H
  exact rt i2 rfl () 3 [0,1,2] 3 (.cons (res_cells rfl Tryz.underlying36 rfl c36 (mem_at 0 rfl) rfl) (.cons (res_tmp rfl) .nil))
 refine WP.skip <| WP.seq <| WP.seq <| rg 5 0 <| lds 2 rfl trivial rfl sg36 rfl rfl <| fb rfl trivial rfl fa33_0 <| ld 1 rfl trivial rfl sc9 rfl rfl <| el H fun t435 h436 H => cl rfl cal69 rfl (concourseref07_At.c h436) <| bn0 rfl rfl rfl run_ge <| .fin <| cd H rfl (fun _ H => ?_) (fun _ H => ?_)
 ·
  refine WP.seq <| rg 3 2 <| lds 2 rfl trivial rfl sg36 rfl rfl <| sx 0 rfl trivial rfl rfl cA sz36 rfl rfl rfl nofun ?_
  refine as0 rfl rfl <| .fin ?_
  obtain rfl := Gets.out H
  exact rt i2 rfl () 3 [0,1,2] 3 (.cons (res_cells rfl Tryz.underlying36 rfl c36 (mem_at 0 rfl) rfl) (.cons (res_tmp rfl) .nil))
 refine WP.skip <| WP.seqr H id (fun p438 : Int × Bool => [(0, agg (RDag.enc a0)), (1, agg (Event.enc a1)), (2, eq (.pointer (some ⟨b427, 0, none⟩))), (3, eq (.pointer (some ⟨b428, 0, none⟩))), (4, eq (.pointer (some ⟨b429, 0, none⟩))), (5, vI 0), (6, vB t430), (7, vI p438.1), (20, vB (!decide (a1.fRoom = a0.fRoom))), (26, vB (decide (0 ≤ t435))), (32, vB p438.2)]) (fun p438 : Int × Bool => [blk b429 36 [vS (⟨#[]⟩ : ByteArray), eq (.slice none 0 0)], blk b428 33 (Event.enc a1), blk b427 36 (RDag.enc a0)] ++ F) (fun p438 H => ?_) (fun H => ?_)
 rotate_left
 ·
  refine WP.seq <| rg 1 0 <| as0 rfl rfl <| .fin <| WP.block <| wg (sg 3 [0,1,2] 0) fun _ _ => ?_
  refine lp (fun j_ (p460 : Int) => concourseref07_Add.l0 k a0 a1 j_ p460) 0 H (fun p460 => [(0, agg (RDag.enc a0)), (1, agg (Event.enc a1)), (2, eq (.pointer (some ⟨b427, 0, none⟩))), (3, eq (.pointer (some ⟨b428, 0, none⟩))), (4, eq (.pointer (some ⟨b429, 0, none⟩))), (5, vI 0), (6, vB t430), (7, vI p460), (20, vB (!decide (a1.fRoom = a0.fRoom))), (26, vB (decide (0 ≤ t435)))]) (fun p460 => [blk b429 36 [vS (⟨#[]⟩ : ByteArray), eq (.slice none 0 0)], blk b428 33 (Event.enc a1), blk b427 36 (RDag.enc a0)] ++ F) ?_
  rintro j_ x453 H
  rcases j_ with _ | j459
  ·
   exact (Gets.no H).elim
  replace H : Gets (concourseref07_Add.l0 k a0 a1 (j459 + 1) x453) _ := H
  rw [concourseref07_Add.l0] at H
  refine WP.seq <| WP.seq <| rg 5 0 <| mv0 rfl rfl <| fb rfl trivial rfl fa33_2 <| ld 1 rfl trivial rfl sc31 rfl rfl <| Dv.lenl rfl trivial rfl Tryz.underlying31 <| bn0 rfl rfl rfl run_lt <| .fin <| cd H rfl (fun _ H => ?_) (fun _ H => ?_)
  rotate_left
  ·
   refine WP.exit ?_
   replace H := Gets.out H
   exact jn (x453, decide (x453 < (a1.fParents.length : Int))) H
  refine WP.skip <| WP.seq <| WP.block <| WP.seq <| dg Tryz.checked.mixed 8 0 <| lds 2 rfl trivial rfl sg36 rfl rfl <| fb rfl trivial rfl fa33_2 <| ld 1 rfl trivial rfl sc31 rfl rfl <| mv0 rfl rfl <| gr H fun g455 H => Dv.ixr rfl trivial rfl rfl Tryz.underlying31 Tryz.underlying9 c9 g455.1 g455.2 <| ldR rfl trivial rfl sc9 rfl <| el H fun t456 h457 H => cl rfl cal69 rfl (concourseref07_At.c h457) <| bn0 rfl rfl rfl run_lt <| .fin <| cd H rfl (fun _ H => ?_) (fun _ H => ?_)
  rotate_left
  ·
   exact WP.skip <| rg 3 0 <| mv0 rfl rfl <| bn0 rfl rfl rfl run_add <| as0 rfl rfl <| .fin <| bk j459 (w64 (x453 + 1)) H
  refine WP.seq <| rg 3 2 <| lds 2 rfl trivial rfl sg36 rfl rfl <| sx 0 rfl trivial rfl rfl cA sz36 rfl rfl rfl nofun ?_
  refine as0 rfl rfl <| .fin ?_
  replace H := Gets.outr H
  obtain rfl := Gets.out H
  exact rt i2 rfl () 3 [0,1,2] 3 (.cons (res_cells rfl Tryz.underlying36 rfl c36 (mem_at 0 rfl) rfl) (.cons (res_tmp rfl) .nil))
 refine WP.seqr H id (fun p439 : Unit => [(0, agg (RDag.enc a0)), (1, agg (Event.enc a1)), (2, eq (.pointer (some ⟨b427, 0, none⟩))), (3, eq (.pointer (some ⟨b428, 0, none⟩))), (4, eq (.pointer (some ⟨b429, 0, none⟩))), (5, vI 0), (6, vB t430), (7, vI p438.1), (20, vB (!decide (a1.fRoom = a0.fRoom))), (26, vB (decide (0 ≤ t435))), (32, vB p438.2), (46, vB (!decide (a1.fThread = (⟨#[]⟩ : ByteArray))))]) (fun p439 : Unit => [blk b429 36 [vS (⟨#[]⟩ : ByteArray), eq (.slice none 0 0)], blk b428 33 (Event.enc a1), blk b427 36 (RDag.enc a0)] ++ F) (fun p439 H => ?_) (fun H => ?_)
 ·
  refine WP.seq <| rg 1 0 <| as0 rfl rfl <| .fin <| WP.seq <| rg 5 8 <| mv0 rfl rfl <| fb rfl trivial rfl fa36_1 <| ld 2 rfl trivial rfl sc23 rfl rfl <| vg (st_nil Event.K none) fun _ _ => ?_
  refine gr H fun g440 H => ap Event.K 0 a0.fL src_sl Tryz.underlying23 (.inr ⟨_, Tryz.underlying23⟩) inf33 g440 nofun fun v441 => ?_
  refine as0 rfl rfl <| .fin <| WP.seq <| dg Tryz.checked.mixed 9 160 <| fb rfl trivial rfl fa36_0 <| ld 3 rfl trivial rfl sc9 rfl rfl <| mv0 rfl rfl <| lds 2 rfl trivial rfl sg33 rfl rfl <| Dv.lit Event.K ([a1] : List Event) (css := [Event.enc a1]) rfl trivial Tryz.underlying23 Tryz.underlying33 c33 z33 rfl (by decide) (by decide) rfl ⟨(cells_agg (Event.K.one _)), trivial⟩ rfl rfl rfl <| gr H fun g442 H => Dv.appx (Kd := Event.K) (jj := 0) (ys := ([a1] : List Event)) (fun v443 : OV => [own Event.K v443.1 ((([] : List Event) ++ a0.fL) ++ ([a1] : List Event)), blk b429 36 [vS (⟨#[]⟩ : ByteArray), eq (.slice none 0 0)], blk b428 33 (Event.enc a1), blk b427 36 (RDag.enc a0)] ++ F) rfl trivial rfl rfl rfl src_sl Tryz.underlying23 (.inr ⟨_, Tryz.underlying23⟩) inf33 rfl (by decide) g442 rfl (fun _ => (pend_by (by kernel_rfl) (pend_by (by kernel_rfl) (pend_by (by kernel_rfl) (pend_in (fun _ => (mem_at 3 rfl)) (pend_in (fun _ => trivial) pend_nil)))))) (fun v443 => ?_)
  refine Dv.bld (css := [[vS a0.fRoom], [eq v443.1]]) rfl trivial Tryz.underlying36 pl36 z36 rfl ⟨(cells_one (one_eq rfl)), ⟨(cells_one one_ov), trivial⟩⟩ rfl rfl <| sx 1 rfl trivial rfl rfl cA sz36 rfl rfl rfl pB ?_
  refine as0 rfl rfl <| .fin <| WP.gh (gh_frz (E' := [(4, eq (.pointer (some ⟨b429, 0, none⟩))), (5, vI 0)]) (l' := [blk b429 36 [vS a0.fRoom, sl Event.K ((([] : List Event) ++ a0.fL) ++ ([a1] : List Event))], blk b428 33 (Event.enc a1), blk b427 36 (RDag.enc a0)] ++ F) 0 rfl (cve_cons rfl cv_id (cve_cons rfl cv_id cve_nil)) (all2_app (.cons (cva_blk (.cons cv_id (.cons cv_eq .nil))) (.cons cva_id (.cons cva_id .nil))) fun _ => cva_id)) (fun _ _ => ?_)
  obtain rfl := Gets.out H
  exact rt i2 rfl () 3 [0,1,2] 3 (.cons (res_cells rfl Tryz.underlying36 rfl c36 (mem_at 0 rfl) rfl) (.cons (res_tmp rfl) .nil))
 refine WP.seq <| rg 3 0 <| fb rfl trivial rfl fa33_3 <| ld 1 rfl trivial rfl sc9 rfl rfl <| bn0 rfl rfl rfl run_sne <| .fin <| cd H rfl (fun _ H => ?_) (fun _ H => ?_)
 rotate_left
 ·
  refine WP.skip ?_
  replace H := Gets.out H
  exact jn () H
 refine WP.seq <| rg 5 0 <| lds 2 rfl trivial rfl sg36 rfl rfl <| fb rfl trivial rfl fa33_3 <| ld 1 rfl trivial rfl sc9 rfl rfl <| el H fun t445 h446 H => cl rfl cal69 rfl (concourseref07_At.c h446) <| as0 rfl rfl <| .fin <| WP.seq <| WP.seq <| rg 2 0 <| mv0 rfl rfl <| bn0 rfl rfl rfl run_lt <| .fin <| cd H rfl (fun _ H => ?_) (fun _ H => ?_)
 ·
  refine WP.seq <| rg 3 2 <| lds 2 rfl trivial rfl sg36 rfl rfl <| sx 0 rfl trivial rfl rfl cA sz36 rfl rfl rfl nofun ?_
  refine as0 rfl rfl <| .fin ?_
  replace H := Gets.outr H
  obtain rfl := Gets.out H
  exact rt i2 rfl () 3 [0,1,2] 3 (.cons (res_cells rfl Tryz.underlying36 rfl c36 (mem_at 0 rfl) rfl) (.cons (res_tmp rfl) .nil))
 refine WP.skip <| WP.seq <| rg 16 0 <| fb rfl trivial rfl fa36_1 <| ld 2 rfl trivial rfl sc23 rfl rfl <| mv0 rfl rfl <| gr H fun g448 H => Dv.ixr rfl trivial rfl rfl Tryz.underlying23 Tryz.underlying33 c33 g448.1 g448.2 <| fr rfl trivial rfl fa33_3 rfl <| ldR rfl trivial rfl sc9 rfl <| bn0 rfl rfl rfl run_sne <| mv0 rfl rfl ?_
 cases c449 : !decide (((Event.K.at a0.fL t445).fThread) = (⟨#[]⟩ : ByteArray))
 rotate_left
 ·
  replace H := Gets.ct H c449
  refine sk rfl rfl <| sk rfl rfl <| sk rfl rfl <| sk rfl rfl <| sk rfl rfl <| sk rfl rfl <| sk rfl rfl <| pt0 rfl rfl rfl <| .fin <| WP.cond rfl (fun _ => ?_) nofun
  refine WP.seq <| rg 3 2 <| lds 2 rfl trivial rfl sg36 rfl rfl <| sx 0 rfl trivial rfl rfl cA sz36 rfl rfl rfl nofun ?_
  refine as0 rfl rfl <| .fin ?_
  replace H := Gets.outr H
  obtain rfl := Gets.out H
  exact rt i2 rfl () 3 [0,1,2] 3 (.cons (res_cells rfl Tryz.underlying36 rfl c36 (mem_at 0 rfl) rfl) (.cons (res_tmp rfl) .nil))
 replace H := Gets.cf H c449
 refine fb rfl (gg rfl) rfl fa36_1 <| ld 2 rfl (gg rfl) rfl sc23 rfl rfl <| mvg rfl rfl rfl <| gr H fun g451 H => Dv.ixr rfl (gg rfl) rfl rfl Tryz.underlying23 Tryz.underlying33 c33 g451.1 g451.2 <| fr rfl (gg rfl) rfl fa33_5 rfl <| ldR rfl (gg rfl) rfl sc3 rfl <| bng rfl rfl rfl rfl run_ne <| pf0 rfl rfl rfl <| .fin <| cd H rfl (fun _ H => ?_) (fun _ H => ?_)
 rotate_left
 ·
  refine WP.skip ?_
  replace H := Gets.out H
  exact jn () H
 refine WP.seq <| rg 3 2 <| lds 2 rfl trivial rfl sg36 rfl rfl <| sx 0 rfl trivial rfl rfl cA sz36 rfl rfl rfl nofun ?_
 refine as0 rfl rfl <| .fin ?_
 replace H := Gets.outr H
 obtain rfl := Gets.out H
 exact rt i2 rfl () 3 [0,1,2] 3 (.cons (res_cells rfl Tryz.underlying36 rfl c36 (mem_at 0 rfl) rfl) (.cons (res_tmp rfl) .nil))
theorem concourseref07_Made.c {k : Nat} {a0 : ByteArray} {a1 : List GMade} {r : RDag} (h : concourseref07_Made.f k a0 a1 = some r) : Pt Tryz.prog 66 [vS a0, sl GMade.K a1] (agg (RDag.enc r)) := by
 unfold concourseref07_Made.f at h
 refine (Tr.body Tryz.func66 (c := _) rfl Tryz.ntmps66 (Nat.le_of_ble_eq_true rfl) fun R0 F => ?_).pt
 replace h := Gets.of h
 have H := h
 clear h
 refine WP.seq <| rg 1 1 <| al rfl trivial zc36 nofun fun b461 => .fin <| WP.seq <| rg 4 12 <| mv0 rfl rfl <| Dv.bld (css := [[vS a0]]) rfl trivial Tryz.underlying36 pl36 z36 rfl ⟨(cells_one (one_eq rfl)), trivial⟩ rfl rfl <| al rfl trivial zc36 nofun fun b462 => sx 0 rfl trivial rfl rfl cA sz36 rfl rfl rfl nofun ?_
 refine .fin <| WP.seqn H id (fun p463 : Int × Bool × ByteArray × (List Event) => [(0, vS a0), (1, sl GMade.K a1), (4, eq (.pointer (some ⟨b461, 0, none⟩))), (5, eq (.pointer (some ⟨b462, 0, none⟩))), (6, vI p463.1), (23, vB p463.2.1)]) (fun p463 : Int × Bool × ByteArray × (List Event) => [blk b462 36 [vS p463.2.2.1, sl Event.K p463.2.2.2], blk b461 36 [vS (⟨#[]⟩ : ByteArray), eq (.slice none 0 0)]] ++ F) (fun p463 H => ?_) (fun H => ?_)
 ·
  refine WP.seq <| rg 2 2 <| lds 0 rfl trivial rfl sg36 rfl rfl <| sx 1 rfl trivial rfl rfl cA sz36 rfl rfl rfl nofun ?_
  refine .fin ?_
  obtain rfl := Gets.out H
  exact rt i2 rfl () 2 [0,1] 2 (.cons (res_cells rfl Tryz.underlying36 rfl c36 (mem_at 1 rfl) rfl) .nil)
 refine WP.seq <| rg 1 0 <| as0 rfl rfl <| .fin <| WP.block <| WP.gh (gh_wk (E' := [(0, vS a0), (1, sl GMade.K a1), (4, eq (.pointer (some ⟨b461, 0, none⟩))), (5, eq (.pointer (some ⟨b462, 0, none⟩))), (6, vI 0)]) (l' := [blk b462 36 [vS a0, sl Event.K ([] : List Event)], blk b461 36 [vS (⟨#[]⟩ : ByteArray), eq (.slice none 0 0)]] ++ F) (wke_cons rfl wk_id (wke_cons rfl wk_id (wke_cons rfl wk_id (wke_cons rfl wk_id (wke_cons rfl wk_id wke_nil))))) (all2_app (.cons (wka_blk (.cons wk_id (.cons wk_nil .nil))) (.cons wka_id .nil)) fun _ => wka_id)) (fun _ _ => ?_)
 refine wg (sg 2 [0,1] 0) fun _ _ => ?_
 refine lp (fun j_ (p552 : Int × ByteArray × (List Event)) => concourseref07_Made.l0 k a0 a1 j_ p552.1 p552.2.1 p552.2.2) (0, a0, ([] : List Event)) H (fun p552 => [(0, vS a0), (1, sl GMade.K a1), (4, eq (.pointer (some ⟨b461, 0, none⟩))), (5, eq (.pointer (some ⟨b462, 0, none⟩))), (6, vI p552.1)]) (fun p552 => [blk b462 36 [vS p552.2.1, sl Event.K p552.2.2], blk b461 36 [vS (⟨#[]⟩ : ByteArray), eq (.slice none 0 0)]] ++ F) ?_
 rintro j_ ⟨x464, x465, x466⟩ H
 rcases j_ with _ | j551
 ·
  exact (Gets.no H).elim
 replace H : Gets (concourseref07_Made.l0 k a0 a1 (j551 + 1) x464 x465 x466) _ := H
 rw [concourseref07_Made.l0] at H
 refine WP.seq <| WP.seq <| rg 8 0 <| mv0 rfl rfl <| mv0 rfl rfl <| Dv.lenl rfl trivial rfl Tryz.underlying22 <| bn0 rfl rfl rfl run_lt <| mv0 rfl rfl ?_
 cases c467 : decide (x464 < (a1.length : Int))
 ·
  replace H := Gets.cf H c467
  refine sk rfl rfl <| sk rfl rfl <| pf0 rfl rfl rfl <| .fin <| WP.cond rfl nofun (fun _ => ?_)
  refine WP.exit ?_
  replace H := Gets.out H
  exact jn (x464, false, x465, x466) H
 replace H := Gets.ct H c467
 refine mvg rfl rfl rfl <| bng rfl rfl rfl rfl run_lt <| pt0 rfl rfl rfl <| .fin <| cd H rfl (fun _ H => ?_) (fun _ H => ?_)
 rotate_left
 ·
  refine WP.exit ?_
  replace H := Gets.out H
  exact jn (x464, decide (x464 < 9), x465, x466) H
 refine WP.skip <| WP.seqn H (fun q549 : (Int × Int × Bool × Bool × Bool × ByteArray × (List Event) × (List Bool)) × OV => q549.1) (fun q549 : (Int × Int × Bool × Bool × Bool × ByteArray × (List Event) × (List Bool)) × OV => [(0, vS a0), (1, sl GMade.K a1), (4, eq (.pointer (some ⟨b461, 0, none⟩))), (5, eq (.pointer (some ⟨b462, 0, none⟩))), (6, vI x464), (8, eq q549.2.1), (9, vI q549.1.1), (10, vI q549.1.2.1), (23, vB (decide (x464 < 9))), (58, vB q549.1.2.2.1), (75, vB q549.1.2.2.2.1), (95, vB q549.1.2.2.2.2.1)]) (fun q549 : (Int × Int × Bool × Bool × Bool × ByteArray × (List Event) × (List Bool)) × OV => [blk b462 36 [vS q549.1.2.2.2.2.2.1, sl Event.K q549.1.2.2.2.2.2.2.1], blk b461 36 [vS (⟨#[]⟩ : ByteArray), eq (.slice none 0 0)], own boolK q549.2.1 q549.1.2.2.2.2.2.2.2] ++ F) (fun q549 H => ?_) (fun H => ?_)
 ·
  obtain ⟨p469, v470⟩ := q549
  refine rg 3 0 <| mv0 rfl rfl <| bn0 rfl rfl rfl run_add <| as0 rfl rfl <| .fin <| ng (sg 3 [2,0,1] 1) fun _ _ => ?_
  exact bk j551 (w64 (x464 + 1), p469.2.2.2.2.2.1, p469.2.2.2.2.2.2.1) H
 refine WP.block <| WP.seq <| dg Tryz.checked.mixed 18 196608 <| mv0 rfl rfl <| el H fun t471 h472 H => cl rfl cal29 rfl (concourseref01_EventOf.c h472) <| mv0 rfl rfl <| mv0 rfl rfl <| mv0 rfl rfl <| gr H fun g473 H => Dv.ixr rfl trivial rfl rfl Tryz.underlying22 Tryz.underlying115 c115 g473.1 g473.2 <| fr rfl trivial rfl fa115_0 rfl <| ldR rfl trivial rfl sc3 rfl <| el H fun t474 h475 H => cl rfl cal36 rfl (concourseref01_UserOf.c h475) <| mv0 rfl rfl <| mv0 rfl rfl <| gr H fun g476 H => Dv.ixr rfl trivial rfl rfl Tryz.underlying22 Tryz.underlying115 c115 g476.1 g476.2 <| fr rfl trivial rfl fa115_1 rfl <| ldR rfl trivial rfl sc3 rfl <| el H fun t477 h478 H => cl rfl cal49 rfl (concourseref01_Around.c h478) <| Dv.bld (css := [[vS t471], [vS a0], [vS t474], [vI t477]]) rfl trivial Tryz.underlying33 pl33 z33 rfl ⟨(cells_one (one_eq rfl)), ⟨(cells_one (one_eq rfl)), ⟨(cells_one (one_eq rfl)), ⟨(cells_one (one_eq rfl)), trivial⟩⟩⟩⟩ rfl rfl <| al rfl trivial zc33 (fun _ => (pend_in (fun _ => trivial) (pend_in (fun _ => trivial) (pend_in (fun _ => trivial) (pend_in (fun _ => trivial) (pend_in (fun _ => trivial) (pend_in (fun _ => trivial) (pend_in (fun _ => trivial) (pend_in (fun _ => trivial) (pend_in (fun _ => trivial) (pend_in (fun _ => trivial) (pend_in (fun _ => trivial) (pend_in (fun _ => trivial) (pend_in (fun _ => trivial) (pend_in (fun _ => trivial) (pend_in (fun _ => trivial) (pend_in (fun _ => trivial) pend_nil))))))))))))))))) fun b479 => sx 0 rfl trivial rfl rfl cA sz33 rfl rfl rfl pB ?_
 refine .fin <| WP.seq <| rg 2 1 <| gr H fun g480 H => ?_
 obtain ⟨ti481, ti481a, ti481b, ti481c, ti481d⟩ := inf4
 refine Dv.mks (Kd := boolK) (false : Bool) rfl trivial rfl rfl Tryz.underlying116 ti481a ti481b ti481c ti481d rfl (by decide) rfl g480 nofun (fun v482 => ?_)
 refine as0 rfl rfl <| .fin <| WP.seqn H id (fun p483 : Int × Bool × (List Bool) => [(0, vS a0), (1, sl GMade.K a1), (4, eq (.pointer (some ⟨b461, 0, none⟩))), (5, eq (.pointer (some ⟨b462, 0, none⟩))), (6, vI x464), (7, eq (.pointer (some ⟨b479, 0, none⟩))), (8, eq v482.1), (9, vI p483.1), (23, vB (decide (x464 < 9))), (58, vB p483.2.1)]) (fun p483 : Int × Bool × (List Bool) => [blk b479 33 [vS t471, vS a0, eq (.slice none 0 0), vS (⟨#[]⟩ : ByteArray), vS t474, vI t477], blk b462 36 [vS x465, sl Event.K x466], blk b461 36 [vS (⟨#[]⟩ : ByteArray), eq (.slice none 0 0)], own boolK v482.1 p483.2.2] ++ F) (fun p483 H => ?_) (fun H => ?_)
 rotate_left
 ·
  refine WP.seq <| rg 1 0 <| as0 rfl rfl <| .fin <| WP.block <| wg (sg 4 [1,2,3,0] 0) fun _ _ => ?_
  refine lp (fun j_ (p548 : Int × (List Bool)) => concourseref07_Made.l2 k a1 x464 j_ p548.1 p548.2) (0, List.replicate (9 : Int).toNat (false : Bool)) H (fun p548 => [(0, vS a0), (1, sl GMade.K a1), (4, eq (.pointer (some ⟨b461, 0, none⟩))), (5, eq (.pointer (some ⟨b462, 0, none⟩))), (6, vI x464), (7, eq (.pointer (some ⟨b479, 0, none⟩))), (8, eq v482.1), (9, vI p548.1), (23, vB (decide (x464 < 9)))]) (fun p548 => [blk b479 33 [vS t471, vS a0, eq (.slice none 0 0), vS (⟨#[]⟩ : ByteArray), vS t474, vI t477], blk b462 36 [vS x465, sl Event.K x466], blk b461 36 [vS (⟨#[]⟩ : ByteArray), eq (.slice none 0 0)], own boolK v482.1 p548.2] ++ F) ?_
  rintro j_ ⟨x533, x534⟩ H
  rcases j_ with _ | j547
  ·
   exact (Gets.no H).elim
  replace H : Gets (concourseref07_Made.l2 k a1 x464 (j547 + 1) x533 x534) _ := H
  rw [concourseref07_Made.l2] at H
  refine WP.seq <| WP.seq <| rg 16 0 <| mv0 rfl rfl <| mv0 rfl rfl <| mv0 rfl rfl <| gr H fun g535 H => Dv.ixr rfl trivial rfl rfl Tryz.underlying22 Tryz.underlying115 c115 g535.1 g535.2 <| fr rfl trivial rfl fa115_2 rfl <| ldR rfl trivial rfl sc24 rfl <| Dv.lenl rfl trivial rfl Tryz.underlying24 <| bn0 rfl rfl rfl run_lt <| mv0 rfl rfl ?_
  cases c536 : decide (x533 < (((GMade.K.at a1 x464).fParents).length : Int))
  ·
   replace H := Gets.cf H c536
   refine sk rfl rfl <| sk rfl rfl <| pf0 rfl rfl rfl <| mv0 rfl rfl <| sk rfl rfl <| sk rfl rfl <| pf0 rfl rfl rfl <| .fin <| WP.cond rfl nofun (fun _ => ?_)
   refine WP.exit ?_
   replace H := Gets.out H
   exact jn (x533, false, x534) H
  replace H := Gets.ct H c536
  refine mvg rfl rfl rfl <| bng rfl rfl rfl rfl run_lt <| pt0 rfl rfl rfl <| mv0 rfl rfl ?_
  cases c537 : decide (x533 < 3)
  ·
   replace H := Gets.cf H c537
   refine sk rfl rfl <| sk rfl rfl <| pf0 rfl rfl rfl <| .fin <| WP.cond rfl nofun (fun _ => ?_)
   refine WP.exit ?_
   replace H := Gets.out H
   exact jn (x533, false, x534) H
  replace H := Gets.ct H c537
  refine mvg rfl rfl rfl <| bng rfl rfl rfl rfl run_gt <| pt0 rfl rfl rfl <| .fin <| cd H rfl (fun _ H => ?_) (fun _ H => ?_)
  rotate_left
  ·
   refine WP.exit ?_
   replace H := Gets.out H
   exact jn (x533, decide (0 < x464), x534) H
  refine WP.skip <| WP.seq <| WP.block <| rg 13 4096 <| mv0 rfl rfl <| mv0 rfl rfl <| mv0 rfl rfl <| gr H fun g539 H => Dv.ixr rfl trivial rfl rfl Tryz.underlying22 Tryz.underlying115 c115 g539.1 g539.2 <| fr rfl trivial rfl fa115_2 rfl <| ldR rfl trivial rfl sc24 rfl <| mv0 rfl rfl <| gr H fun g540 H => Dv.ixr rfl trivial rfl rfl Tryz.underlying24 Tryz.underlying3 c3 g540.1 g540.2 <| ldR rfl trivial rfl sc3 rfl <| mv0 rfl rfl <| el H fun t541 h542 H => cl rfl cal49 rfl (concourseref01_Around.c h542) <| gr H fun g543 H => ?_
  have h544 : t541.toNat < x534.length := idx_lt g543
  exact Dv.ixw rfl trivial rfl (mem_at 3 rfl) rfl Tryz.underlying116 Tryz.underlying4 c4 g543.1 g543.2 <| Dv.stw (j := t541.toNat) (f := 0) (jj := 3) true rfl trivial rfl rfl (cells_one (one_eq rfl)) Tryz.underlying4 c4 rfl rfl h544 (Nat.le_of_ble_eq_true rfl) rfl nofun <| .fin <| rg 3 0 <| mv0 rfl rfl <| bn0 rfl rfl rfl run_add <| as0 rfl rfl <| .fin <| bk j547 (w64 (x533 + 1), x534.set t541.toNat true) H
 refine WP.seqn H (fun q532 : (Int × Bool × (List ByteArray)) × OV => q532.1) (fun q532 : (Int × Bool × (List ByteArray)) × OV => [(0, vS a0), (1, sl GMade.K a1), (4, eq (.pointer (some ⟨b461, 0, none⟩))), (5, eq (.pointer (some ⟨b462, 0, none⟩))), (6, vI x464), (7, eq (.pointer (some ⟨b479, 0, none⟩))), (8, eq v482.1), (9, vI p483.1), (10, vI q532.1.1), (23, vB (decide (x464 < 9))), (58, vB p483.2.1), (75, vB q532.1.2.1)]) (fun q532 : (Int × Bool × (List ByteArray)) × OV => [blk b479 33 [vS t471, vS a0, eq q532.2.1, vS (⟨#[]⟩ : ByteArray), vS t474, vI t477], blk b462 36 [vS x465, sl Event.K x466], blk b461 36 [vS (⟨#[]⟩ : ByteArray), eq (.slice none 0 0)], own boolK v482.1 p483.2.2, own strK q532.2.1 q532.1.2.2] ++ F) (fun q532 H => ?_) (fun H => ?_)
 rotate_left
 ·
  refine WP.seq <| rg 1 0 <| as0 rfl rfl <| .fin <| WP.block <| wg (st_nil strK none) fun _ _ => ?_
  refine wg (sg 5 [1,2,3,4,0] 0) fun _ _ => ?_
  refine lp (fun j_ (p531 : Int × (List ByteArray) × OV) => concourseref07_Made.l1 k x464 p483 j_ p531.1 p531.2.1) (0, ([] : List ByteArray), nilV) H (fun p531 => [(0, vS a0), (1, sl GMade.K a1), (4, eq (.pointer (some ⟨b461, 0, none⟩))), (5, eq (.pointer (some ⟨b462, 0, none⟩))), (6, vI x464), (7, eq (.pointer (some ⟨b479, 0, none⟩))), (8, eq v482.1), (9, vI p483.1), (10, vI p531.1), (23, vB (decide (x464 < 9))), (58, vB p483.2.1)]) (fun p531 => [blk b479 33 [vS t471, vS a0, eq p531.2.2.1, vS (⟨#[]⟩ : ByteArray), vS t474, vI t477], blk b462 36 [vS x465, sl Event.K x466], blk b461 36 [vS (⟨#[]⟩ : ByteArray), eq (.slice none 0 0)], own boolK v482.1 p483.2.2, own strK p531.2.2.1 p531.2.1] ++ F) ?_
  rintro j_ ⟨x519, x520, v521⟩ H
  rcases j_ with _ | j530
  ·
   exact (Gets.no H).elim
  replace H : Gets (concourseref07_Made.l1 k x464 p483 (j530 + 1) x519 x520) _ := H
  rw [concourseref07_Made.l1] at H
  refine WP.seq <| WP.seq <| rg 3 0 <| mv0 rfl rfl <| mv0 rfl rfl <| bn0 rfl rfl rfl run_lt <| .fin <| cd H rfl (fun _ H => ?_) (fun _ H => ?_)
  rotate_left
  ·
   refine WP.exit ?_
   replace H := Gets.out H
   exact jn ((x519, decide (x519 < x464), x520), v521) H
  refine WP.skip <| WP.seq <| WP.block <| WP.seq <| rg 4 0 <| mv0 rfl rfl <| mv0 rfl rfl <| gr H fun g523 H => ?_
  have h524 : x519.toNat < p483.2.2.length := idx_lt g523
  refine Dv.ixw rfl trivial rfl (mem_at 3 rfl) rfl Tryz.underlying116 Tryz.underlying4 c4 g523.1 g523.2 <| Dv.ldw (j := x519.toNat) (f := 0) (p := vB (p483.2.2.getD x519.toNat default)) rfl trivial rfl (mem_at 3 rfl) h524 Tryz.underlying4 rfl rfl <| .fin <| cd H rfl (fun _ H => ?_) (fun _ H => ?_)
  rotate_left
  ·
   exact WP.skip <| rg 3 0 <| mv0 rfl rfl <| bn0 rfl rfl rfl run_add <| as0 rfl rfl <| .fin <| bk j530 (w64 (x519 + 1), x520, v521) H
  refine dg Tryz.checked.mixed 8 160 <| fb rfl trivial rfl fa33_2 <| ld 0 rfl trivial rfl sc31 rfl rfl <| mv0 rfl rfl <| el H fun t526 h527 H => cl rfl cal29 rfl (concourseref01_EventOf.c h527) <| Dv.lit strK ([t526] : List ByteArray) (css := [[vS t526]]) rfl trivial Tryz.underlying31 Tryz.underlying9 c9 z9 rfl (by decide) (by decide) rfl ⟨(cells_one (one_eq rfl)), trivial⟩ rfl rfl rfl <| gr H fun g528 H => ap strK 4 ([t526] : List ByteArray) src_sl Tryz.underlying31 (.inr ⟨_, Tryz.underlying31⟩) inf9 g528 pB fun v529 => ?_
  refine fb rfl trivial rfl fa33_2 <| sx 0 rfl trivial rfl rfl (cells_one one_ov) sz31 rfl rfl rfl pB ?_
  exact .fin <| rg 3 0 <| mv0 rfl rfl <| bn0 rfl rfl rfl run_add <| as0 rfl rfl <| .fin <| bk j530 (w64 (x519 + 1), x520 ++ ([t526] : List ByteArray), v529) H
 obtain ⟨p484, v485⟩ := q532
 refine WP.seq <| WP.seq <| rg 7 0 <| fb rfl trivial rfl fa33_5 <| ld 0 rfl trivial rfl sc3 rfl rfl <| bn0 rfl rfl rfl run_eq <| mv0 rfl rfl ?_
 cases c486 : (t477 == 0)
 ·
  replace H := Gets.cf H c486
  refine sk rfl rfl <| sk rfl rfl <| pf0 rfl rfl rfl <| .fin <| WP.cond rfl nofun (fun _ => ?_)
  refine WP.skip <| WP.seq <| rg 9 192 <| lds 1 rfl trivial rfl sg36 rfl rfl <| lds 0 rfl trivial rfl sg33 rfl rfl <| Dv.gh (gh_frz (E' := [(0, vS a0), (1, sl GMade.K a1), (4, eq (.pointer (some ⟨b461, 0, none⟩))), (5, eq (.pointer (some ⟨b462, 0, none⟩))), (6, vI x464), (7, eq (.pointer (some ⟨b479, 0, none⟩))), (8, eq v482.1), (9, vI p483.1), (10, vI p484.1), (23, vB (decide (x464 < 9))), (58, vB p483.2.1), (75, vB p484.2.1), (95, vB false), (129, agg [vS x465, sl Event.K x466]), (130, agg [vS t471, vS a0, sl strK p484.2.2, vS (⟨#[]⟩ : ByteArray), vS t474, vI t477])]) (l' := [blk b479 33 [vS t471, vS a0, sl strK p484.2.2, vS (⟨#[]⟩ : ByteArray), vS t474, vI t477], blk b462 36 [vS x465, sl Event.K x466], blk b461 36 [vS (⟨#[]⟩ : ByteArray), eq (.slice none 0 0)], own boolK v482.1 p483.2.2] ++ F) 4 rfl (cve_cons rfl cv_id (cve_cons rfl cv_id (cve_cons rfl cv_id (cve_cons rfl cv_id (cve_cons rfl cv_id (cve_cons rfl cv_id (cve_cons rfl cv_id (cve_cons rfl cv_id (cve_cons rfl cv_id (cve_cons rfl cv_id (cve_cons rfl cv_id (cve_cons rfl cv_id (cve_cons rfl cv_id (cve_cons rfl cv_id (cve_cons rfl (cv_agg (.cons cv_id (.cons cv_id (.cons cv_eq (.cons cv_id (.cons cv_id (.cons cv_id .nil))))))) cve_nil))))))))))))))) (all2_app (.cons (cva_blk (.cons cv_id (.cons cv_id (.cons cv_eq (.cons cv_id (.cons cv_id (.cons cv_id .nil))))))) (.cons cva_id (.cons cva_id (.cons cva_id .nil)))) fun _ => cva_id)) (fun _ _ => ?_)
  refine el H fun t516 h517 H => cl rfl cal51 rfl (concourseref07_Add.c h517) <| mv0 rfl rfl <| ex0 rfl trivial rfl rfl <| ex0 rfl trivial rfl rfl <| al rfl trivial zc36 nofun fun b518 => sx 0 rfl trivial rfl rfl cA sz36 rfl rfl rfl nofun ?_
  refine as0 rfl rfl <| .fin <| rg 2 2 <| lds 0 rfl trivial rfl sg36 rfl rfl <| sx 2 rfl trivial rfl rfl cA sz36 rfl rfl rfl nofun ?_
  refine .fin ?_
  replace H := Gets.out H
  refine ng (sg 5 [0,1,2,3,4] 2) fun _ _ => ?_
  exact jn ((p483.1, p484.1, p483.2.1, p484.2.1, false, t516.1.fRoom, t516.1.fL, p483.2.2), v482) H
 replace H := Gets.ct H c486
 refine mvg rfl rfl rfl <| bng rfl rfl rfl rfl run_gt <| pt0 rfl rfl rfl <| .fin <| cd H rfl (fun _ H => ?_) (fun _ H => ?_)
 rotate_left
 ·
  refine WP.skip <| WP.seq <| rg 9 192 <| lds 1 rfl trivial rfl sg36 rfl rfl <| lds 0 rfl trivial rfl sg33 rfl rfl <| Dv.gh (gh_frz (E' := [(0, vS a0), (1, sl GMade.K a1), (4, eq (.pointer (some ⟨b461, 0, none⟩))), (5, eq (.pointer (some ⟨b462, 0, none⟩))), (6, vI x464), (7, eq (.pointer (some ⟨b479, 0, none⟩))), (8, eq v482.1), (9, vI p483.1), (10, vI p484.1), (23, vB (decide (x464 < 9))), (58, vB p483.2.1), (75, vB p484.2.1), (95, vB (decide (0 < x464))), (129, agg [vS x465, sl Event.K x466]), (130, agg [vS t471, vS a0, sl strK p484.2.2, vS (⟨#[]⟩ : ByteArray), vS t474, vI t477])]) (l' := [blk b479 33 [vS t471, vS a0, sl strK p484.2.2, vS (⟨#[]⟩ : ByteArray), vS t474, vI t477], blk b462 36 [vS x465, sl Event.K x466], blk b461 36 [vS (⟨#[]⟩ : ByteArray), eq (.slice none 0 0)], own boolK v482.1 p483.2.2] ++ F) 4 rfl (cve_cons rfl cv_id (cve_cons rfl cv_id (cve_cons rfl cv_id (cve_cons rfl cv_id (cve_cons rfl cv_id (cve_cons rfl cv_id (cve_cons rfl cv_id (cve_cons rfl cv_id (cve_cons rfl cv_id (cve_cons rfl cv_id (cve_cons rfl cv_id (cve_cons rfl cv_id (cve_cons rfl cv_id (cve_cons rfl cv_id (cve_cons rfl (cv_agg (.cons cv_id (.cons cv_id (.cons cv_eq (.cons cv_id (.cons cv_id (.cons cv_id .nil))))))) cve_nil))))))))))))))) (all2_app (.cons (cva_blk (.cons cv_id (.cons cv_id (.cons cv_eq (.cons cv_id (.cons cv_id (.cons cv_id .nil))))))) (.cons cva_id (.cons cva_id (.cons cva_id .nil)))) fun _ => cva_id)) (fun _ _ => ?_)
  refine el H fun t512 h513 H => cl rfl cal51 rfl (concourseref07_Add.c h513) <| mv0 rfl rfl <| ex0 rfl trivial rfl rfl <| ex0 rfl trivial rfl rfl <| al rfl trivial zc36 nofun fun b514 => sx 0 rfl trivial rfl rfl cA sz36 rfl rfl rfl nofun ?_
  refine as0 rfl rfl <| .fin <| rg 2 2 <| lds 0 rfl trivial rfl sg36 rfl rfl <| sx 2 rfl trivial rfl rfl cA sz36 rfl rfl rfl nofun ?_
  refine .fin ?_
  replace H := Gets.out H
  refine ng (sg 5 [0,1,2,3,4] 2) fun _ _ => ?_
  exact jn ((p483.1, p484.1, p483.2.1, p484.2.1, decide (0 < x464), t512.1.fRoom, t512.1.fL, p483.2.2), v482) H
 refine WP.seq <| rg 9 0 <| mv0 rfl rfl <| mv0 rfl rfl <| gr H fun g488 H => Dv.ixr rfl trivial rfl rfl Tryz.underlying22 Tryz.underlying115 c115 g488.1 g488.2 <| fr rfl trivial rfl fa115_3 rfl <| ldR rfl trivial rfl sc3 rfl <| mv0 rfl rfl <| bn0 rfl rfl rfl run_mul <| el H fun t489 h490 H => cl rfl cal49 rfl (concourseref01_Around.c h490) <| as0 rfl rfl <| .fin <| WP.seq <| rg 21 0 <| mv0 rfl rfl <| mv0 rfl rfl <| bn0 rfl rfl rfl run_lt <| mv0 rfl rfl ?_
 cases c491 : decide (t489 < x464)
 ·
  replace H := Gets.cf H c491
  refine sk rfl rfl <| sk rfl rfl <| sk rfl rfl <| sk rfl rfl <| sk rfl rfl <| sk rfl rfl <| sk rfl rfl <| pf0 rfl rfl rfl <| mv0 rfl rfl <| sk rfl rfl <| sk rfl rfl <| sk rfl rfl <| sk rfl rfl <| sk rfl rfl <| sk rfl rfl <| sk rfl rfl <| pf0 rfl rfl rfl <| .fin <| WP.cond rfl nofun (fun _ => ?_)
  refine WP.skip <| WP.seq <| rg 9 192 <| lds 1 rfl trivial rfl sg36 rfl rfl <| lds 0 rfl trivial rfl sg33 rfl rfl <| Dv.gh (gh_frz (E' := [(0, vS a0), (1, sl GMade.K a1), (4, eq (.pointer (some ⟨b461, 0, none⟩))), (5, eq (.pointer (some ⟨b462, 0, none⟩))), (6, vI x464), (7, eq (.pointer (some ⟨b479, 0, none⟩))), (8, eq v482.1), (9, vI p483.1), (10, vI p484.1), (11, vI t489), (23, vB (decide (x464 < 9))), (58, vB p483.2.1), (75, vB p484.2.1), (95, vB (decide (0 < x464))), (124, vB false), (129, agg [vS x465, sl Event.K x466]), (130, agg [vS t471, vS a0, sl strK p484.2.2, vS (⟨#[]⟩ : ByteArray), vS t474, vI t477])]) (l' := [blk b479 33 [vS t471, vS a0, sl strK p484.2.2, vS (⟨#[]⟩ : ByteArray), vS t474, vI t477], blk b462 36 [vS x465, sl Event.K x466], blk b461 36 [vS (⟨#[]⟩ : ByteArray), eq (.slice none 0 0)], own boolK v482.1 p483.2.2] ++ F) 4 rfl (cve_cons rfl cv_id (cve_cons rfl cv_id (cve_cons rfl cv_id (cve_cons rfl cv_id (cve_cons rfl cv_id (cve_cons rfl cv_id (cve_cons rfl cv_id (cve_cons rfl cv_id (cve_cons rfl cv_id (cve_cons rfl cv_id (cve_cons rfl cv_id (cve_cons rfl cv_id (cve_cons rfl cv_id (cve_cons rfl cv_id (cve_cons rfl cv_id (cve_cons rfl cv_id (cve_cons rfl (cv_agg (.cons cv_id (.cons cv_id (.cons cv_eq (.cons cv_id (.cons cv_id (.cons cv_id .nil))))))) cve_nil))))))))))))))))) (all2_app (.cons (cva_blk (.cons cv_id (.cons cv_id (.cons cv_eq (.cons cv_id (.cons cv_id (.cons cv_id .nil))))))) (.cons cva_id (.cons cva_id (.cons cva_id .nil)))) fun _ => cva_id)) (fun _ _ => ?_)
  refine el H fun t509 h510 H => cl rfl cal51 rfl (concourseref07_Add.c h510) <| mv0 rfl rfl <| ex0 rfl trivial rfl rfl <| ex0 rfl trivial rfl rfl <| al rfl trivial zc36 nofun fun b511 => sx 0 rfl trivial rfl rfl cA sz36 rfl rfl rfl nofun ?_
  refine as0 rfl rfl <| .fin <| rg 2 2 <| lds 0 rfl trivial rfl sg36 rfl rfl <| sx 2 rfl trivial rfl rfl cA sz36 rfl rfl rfl nofun ?_
  refine .fin ?_
  replace H := Gets.out H
  refine ng (sg 5 [0,1,2,3,4] 2) fun _ _ => ?_
  exact jn ((p483.1, p484.1, p483.2.1, p484.2.1, decide (0 < x464), t509.1.fRoom, t509.1.fL, p483.2.2), v482) H
 replace H := Gets.ct H c491
 refine fb rfl (gg rfl) rfl fa36_1 <| ld 1 rfl (gg rfl) rfl sc23 rfl rfl <| mvg rfl rfl rfl <| gr H fun g492 H => Dv.ixr rfl (gg rfl) rfl rfl Tryz.underlying23 Tryz.underlying33 c33 g492.1 g492.2 <| fr rfl (gg rfl) rfl fa33_5 rfl <| ldR rfl (gg rfl) rfl sc3 rfl <| bng rfl rfl rfl rfl run_eq <| pt0 rfl rfl rfl <| mv0 rfl rfl ?_
 cases c493 : (((Event.K.at x466 t489).fDoes) == 0)
 ·
  replace H := Gets.cf H c493
  refine sk rfl rfl <| sk rfl rfl <| sk rfl rfl <| sk rfl rfl <| sk rfl rfl <| sk rfl rfl <| sk rfl rfl <| pf0 rfl rfl rfl <| .fin <| WP.cond rfl nofun (fun _ => ?_)
  refine WP.skip <| WP.seq <| rg 9 192 <| lds 1 rfl trivial rfl sg36 rfl rfl <| lds 0 rfl trivial rfl sg33 rfl rfl <| Dv.gh (gh_frz (E' := [(0, vS a0), (1, sl GMade.K a1), (4, eq (.pointer (some ⟨b461, 0, none⟩))), (5, eq (.pointer (some ⟨b462, 0, none⟩))), (6, vI x464), (7, eq (.pointer (some ⟨b479, 0, none⟩))), (8, eq v482.1), (9, vI p483.1), (10, vI p484.1), (11, vI t489), (23, vB (decide (x464 < 9))), (58, vB p483.2.1), (75, vB p484.2.1), (95, vB (decide (0 < x464))), (124, vB false), (129, agg [vS x465, sl Event.K x466]), (130, agg [vS t471, vS a0, sl strK p484.2.2, vS (⟨#[]⟩ : ByteArray), vS t474, vI t477])]) (l' := [blk b479 33 [vS t471, vS a0, sl strK p484.2.2, vS (⟨#[]⟩ : ByteArray), vS t474, vI t477], blk b462 36 [vS x465, sl Event.K x466], blk b461 36 [vS (⟨#[]⟩ : ByteArray), eq (.slice none 0 0)], own boolK v482.1 p483.2.2] ++ F) 4 rfl (cve_cons rfl cv_id (cve_cons rfl cv_id (cve_cons rfl cv_id (cve_cons rfl cv_id (cve_cons rfl cv_id (cve_cons rfl cv_id (cve_cons rfl cv_id (cve_cons rfl cv_id (cve_cons rfl cv_id (cve_cons rfl cv_id (cve_cons rfl cv_id (cve_cons rfl cv_id (cve_cons rfl cv_id (cve_cons rfl cv_id (cve_cons rfl cv_id (cve_cons rfl cv_id (cve_cons rfl (cv_agg (.cons cv_id (.cons cv_id (.cons cv_eq (.cons cv_id (.cons cv_id (.cons cv_id .nil))))))) cve_nil))))))))))))))))) (all2_app (.cons (cva_blk (.cons cv_id (.cons cv_id (.cons cv_eq (.cons cv_id (.cons cv_id (.cons cv_id .nil))))))) (.cons cva_id (.cons cva_id (.cons cva_id .nil)))) fun _ => cva_id)) (fun _ _ => ?_)
  refine el H fun t505 h506 H => cl rfl cal51 rfl (concourseref07_Add.c h506) <| mv0 rfl rfl <| ex0 rfl trivial rfl rfl <| ex0 rfl trivial rfl rfl <| al rfl trivial zc36 nofun fun b507 => sx 0 rfl trivial rfl rfl cA sz36 rfl rfl rfl nofun ?_
  refine as0 rfl rfl <| .fin <| rg 2 2 <| lds 0 rfl trivial rfl sg36 rfl rfl <| sx 2 rfl trivial rfl rfl cA sz36 rfl rfl rfl nofun ?_
  refine .fin ?_
  replace H := Gets.out H
  refine ng (sg 5 [0,1,2,3,4] 2) fun _ _ => ?_
  exact jn ((p483.1, p484.1, p483.2.1, p484.2.1, decide (0 < x464), t505.1.fRoom, t505.1.fL, p483.2.2), v482) H
 replace H := Gets.ct H c493
 refine fb rfl (gg rfl) rfl fa36_1 <| ld 1 rfl (gg rfl) rfl sc23 rfl rfl <| mvg rfl rfl rfl <| gr H fun g494 H => Dv.ixr rfl (gg rfl) rfl rfl Tryz.underlying23 Tryz.underlying33 c33 g494.1 g494.2 <| fr rfl (gg rfl) rfl fa33_3 rfl <| ldR rfl (gg rfl) rfl sc9 rfl <| bng rfl rfl rfl rfl run_seq <| pt0 rfl rfl rfl <| .fin <| cd H rfl (fun _ H => ?_) (fun _ H => ?_)
 rotate_left
 ·
  refine WP.skip <| WP.seq <| rg 9 192 <| lds 1 rfl trivial rfl sg36 rfl rfl <| lds 0 rfl trivial rfl sg33 rfl rfl <| Dv.gh (gh_frz (E' := [(0, vS a0), (1, sl GMade.K a1), (4, eq (.pointer (some ⟨b461, 0, none⟩))), (5, eq (.pointer (some ⟨b462, 0, none⟩))), (6, vI x464), (7, eq (.pointer (some ⟨b479, 0, none⟩))), (8, eq v482.1), (9, vI p483.1), (10, vI p484.1), (11, vI t489), (23, vB (decide (x464 < 9))), (58, vB p483.2.1), (75, vB p484.2.1), (95, vB (decide (0 < x464))), (124, vB (decide (((Event.K.at x466 t489).fThread) = (⟨#[]⟩ : ByteArray)))), (129, agg [vS x465, sl Event.K x466]), (130, agg [vS t471, vS a0, sl strK p484.2.2, vS (⟨#[]⟩ : ByteArray), vS t474, vI t477])]) (l' := [blk b479 33 [vS t471, vS a0, sl strK p484.2.2, vS (⟨#[]⟩ : ByteArray), vS t474, vI t477], blk b462 36 [vS x465, sl Event.K x466], blk b461 36 [vS (⟨#[]⟩ : ByteArray), eq (.slice none 0 0)], own boolK v482.1 p483.2.2] ++ F) 4 rfl (cve_cons rfl cv_id (cve_cons rfl cv_id (cve_cons rfl cv_id (cve_cons rfl cv_id (cve_cons rfl cv_id (cve_cons rfl cv_id (cve_cons rfl cv_id (cve_cons rfl cv_id (cve_cons rfl cv_id (cve_cons rfl cv_id (cve_cons rfl cv_id (cve_cons rfl cv_id (cve_cons rfl cv_id (cve_cons rfl cv_id (cve_cons rfl cv_id (cve_cons rfl cv_id (cve_cons rfl (cv_agg (.cons cv_id (.cons cv_id (.cons cv_eq (.cons cv_id (.cons cv_id (.cons cv_id .nil))))))) cve_nil))))))))))))))))) (all2_app (.cons (cva_blk (.cons cv_id (.cons cv_id (.cons cv_eq (.cons cv_id (.cons cv_id (.cons cv_id .nil))))))) (.cons cva_id (.cons cva_id (.cons cva_id .nil)))) fun _ => cva_id)) (fun _ _ => ?_)
  refine el H fun t501 h502 H => cl rfl cal51 rfl (concourseref07_Add.c h502) <| mv0 rfl rfl <| ex0 rfl trivial rfl rfl <| ex0 rfl trivial rfl rfl <| al rfl trivial zc36 nofun fun b503 => sx 0 rfl trivial rfl rfl cA sz36 rfl rfl rfl nofun ?_
  refine as0 rfl rfl <| .fin <| rg 2 2 <| lds 0 rfl trivial rfl sg36 rfl rfl <| sx 2 rfl trivial rfl rfl cA sz36 rfl rfl rfl nofun ?_
  refine .fin ?_
  replace H := Gets.out H
  refine ng (sg 5 [0,1,2,3,4] 2) fun _ _ => ?_
  exact jn ((p483.1, p484.1, p483.2.1, p484.2.1, decide (0 < x464), t501.1.fRoom, t501.1.fL, p483.2.2), v482) H
 refine rg 4 8 <| mv0 rfl rfl <| el H fun t496 h497 H => cl rfl cal29 rfl (concourseref01_EventOf.c h497) <| fb rfl trivial rfl fa33_3 <| sx 0 rfl trivial rfl rfl cE sz9 rfl rfl rfl nofun ?_
 refine .fin <| WP.seq <| rg 9 192 <| lds 1 rfl trivial rfl sg36 rfl rfl <| lds 0 rfl trivial rfl sg33 rfl rfl <| Dv.gh (gh_frz (E' := [(0, vS a0), (1, sl GMade.K a1), (4, eq (.pointer (some ⟨b461, 0, none⟩))), (5, eq (.pointer (some ⟨b462, 0, none⟩))), (6, vI x464), (7, eq (.pointer (some ⟨b479, 0, none⟩))), (8, eq v482.1), (9, vI p483.1), (10, vI p484.1), (11, vI t489), (23, vB (decide (x464 < 9))), (58, vB p483.2.1), (75, vB p484.2.1), (95, vB (decide (0 < x464))), (124, vB (decide (((Event.K.at x466 t489).fThread) = (⟨#[]⟩ : ByteArray)))), (129, agg [vS x465, sl Event.K x466]), (130, agg [vS t471, vS a0, sl strK p484.2.2, vS t496, vS t474, vI t477])]) (l' := [blk b479 33 [vS t471, vS a0, sl strK p484.2.2, vS t496, vS t474, vI t477], blk b462 36 [vS x465, sl Event.K x466], blk b461 36 [vS (⟨#[]⟩ : ByteArray), eq (.slice none 0 0)], own boolK v482.1 p483.2.2] ++ F) 4 rfl (cve_cons rfl cv_id (cve_cons rfl cv_id (cve_cons rfl cv_id (cve_cons rfl cv_id (cve_cons rfl cv_id (cve_cons rfl cv_id (cve_cons rfl cv_id (cve_cons rfl cv_id (cve_cons rfl cv_id (cve_cons rfl cv_id (cve_cons rfl cv_id (cve_cons rfl cv_id (cve_cons rfl cv_id (cve_cons rfl cv_id (cve_cons rfl cv_id (cve_cons rfl cv_id (cve_cons rfl (cv_agg (.cons cv_id (.cons cv_id (.cons cv_eq (.cons cv_id (.cons cv_id (.cons cv_id .nil))))))) cve_nil))))))))))))))))) (all2_app (.cons (cva_blk (.cons cv_id (.cons cv_id (.cons cv_eq (.cons cv_id (.cons cv_id (.cons cv_id .nil))))))) (.cons cva_id (.cons cva_id (.cons cva_id .nil)))) fun _ => cva_id)) (fun _ _ => ?_)
 refine el H fun t498 h499 H => cl rfl cal51 rfl (concourseref07_Add.c h499) <| mv0 rfl rfl <| ex0 rfl trivial rfl rfl <| ex0 rfl trivial rfl rfl <| al rfl trivial zc36 nofun fun b500 => sx 0 rfl trivial rfl rfl cA sz36 rfl rfl rfl nofun ?_
 refine as0 rfl rfl <| .fin <| rg 2 2 <| lds 0 rfl trivial rfl sg36 rfl rfl <| sx 2 rfl trivial rfl rfl cA sz36 rfl rfl rfl nofun ?_
 refine .fin ?_
 replace H := Gets.out H
 refine ng (sg 5 [0,1,2,3,4] 2) fun _ _ => ?_
 exact jn ((p483.1, p484.1, p483.2.1, p484.2.1, decide (0 < x464), t498.1.fRoom, t498.1.fL, p483.2.2), v482) H
theorem concourseref10_Made.c {k : Nat} {a0 : List GMade} {a1 : List GMade} {r : (List Event)} (h : concourseref10_Made.f k a0 a1 = some r) : Tr Tryz.prog 26 [sl GMade.K a0, sl GMade.K a1] [] (γ := OV) (fun _ => True) (fun g => eq g.1) (fun g => [own Event.K g.1 r]) := by
 unfold concourseref10_Made.f at h
 refine Tr.body Tryz.func26 (c := _) rfl Tryz.ntmps26 (Nat.le_of_ble_eq_true rfl) fun R0 F => ?_
 replace h := Gets.of h
 have H := h
 clear h
 refine WP.seq <| rg 1 0 <| as0 rfl rfl <| .fin <| WP.seq <| rg 1 0 <| as0 rfl rfl <| .fin <| WP.seq <| rg 7 32 <| mv0 rfl rfl <| el H fun t553 h554 H => cl rfl cal11 rfl (concourseref01_RoomOf.c h554) <| mv0 rfl rfl <| el H fun t555 h556 H => cl rfl cal66 rfl (concourseref07_Made.c h556) <| Dv.fld rfl trivial rfl Tryz.underlying36 rfl Tryz.underlying23 rfl rfl <| vg (st_nil Event.K none) fun _ _ => ?_
 refine gr H fun g557 H => ap Event.K 0 t555.fL src_sl Tryz.underlying23 (.inr ⟨_, Tryz.underlying23⟩) inf33 g557 nofun fun v558 => ?_
 refine as0 rfl rfl <| .fin <| WP.seq <| rg 7 32 <| mv0 rfl rfl <| el H fun t559 h560 H => cl rfl cal11 rfl (concourseref01_RoomOf.c h560) <| mv0 rfl rfl <| el H fun t561 h562 H => cl rfl cal66 rfl (concourseref07_Made.c h562) <| Dv.fld rfl trivial rfl Tryz.underlying36 rfl Tryz.underlying23 rfl rfl <| gr H fun g563 H => ap Event.K 0 t561.fL src_sl Tryz.underlying23 (.inr ⟨_, Tryz.underlying23⟩) inf33 g563 nofun fun v564 => ?_
 refine as0 rfl rfl <| .fin ?_
 obtain rfl := Gets.out H
 exact rt i2 rfl v564 1 [0] 0 (.cons (res_tmp rfl) .nil)
theorem concourseref10_Of.c {k : Nat} {a0 : RView} {a1 : ByteArray} {r : RDag} (h : concourseref10_Of.f k a0 a1 = some r) : Pt Tryz.prog 10 [agg (RView.enc a0), vS a1] (agg (RDag.enc r)) := by
 unfold concourseref10_Of.f at h
 refine (Tr.body Tryz.func10 (c := _) rfl Tryz.ntmps10 (Nat.le_of_ble_eq_true rfl) fun R0 F => ?_).pt
 replace h := Gets.of h
 have H := h
 clear h
 refine WP.seq <| rg 2 3 <| Dv.box rfl trivial rfl cA nofun fun b565 => al rfl trivial zc36 nofun fun b566 => .fin <| WP.seqr H id (fun p567 : Int × Bool => [(0, agg (RView.enc a0)), (1, vS a1), (2, eq (.pointer (some ⟨b565, 0, none⟩))), (4, eq (.pointer (some ⟨b566, 0, none⟩))), (5, vI p567.1), (10, vB p567.2)]) (fun p567 : Int × Bool => [blk b566 36 [vS (⟨#[]⟩ : ByteArray), eq (.slice none 0 0)], blk b565 28 (RView.enc a0)] ++ F) (fun p567 H => ?_) (fun H => ?_)
 ·
  refine WP.seq <| rg 3 4 <| mv0 rfl rfl <| Dv.bld (css := [[vS a1]]) rfl trivial Tryz.underlying36 pl36 z36 rfl ⟨(cells_one (one_eq rfl)), trivial⟩ rfl rfl <| sx 0 rfl trivial rfl rfl cA sz36 rfl rfl rfl nofun ?_
  refine .fin ?_
  obtain rfl := Gets.out H
  exact rt i2 rfl () 2 [0,1] 2 (.cons (res_wk (res_cells rfl Tryz.underlying36 rfl c36 (mem_at 0 rfl) rfl) (wk_agg (.cons wk_id (.cons wk_nil .nil)))) .nil)
 refine WP.seq <| rg 1 0 <| as0 rfl rfl <| .fin <| WP.block <| wg (sg 2 [0,1] 0) fun _ _ => ?_
 refine lp (fun j_ (p574 : Int) => concourseref10_Of.l0 k a0 a1 j_ p574) 0 H (fun p574 => [(0, agg (RView.enc a0)), (1, vS a1), (2, eq (.pointer (some ⟨b565, 0, none⟩))), (4, eq (.pointer (some ⟨b566, 0, none⟩))), (5, vI p574)]) (fun p574 => [blk b566 36 [vS (⟨#[]⟩ : ByteArray), eq (.slice none 0 0)], blk b565 28 (RView.enc a0)] ++ F) ?_
 rintro j_ x568 H
 rcases j_ with _ | j573
 ·
  exact (Gets.no H).elim
 replace H : Gets (concourseref10_Of.l0 k a0 a1 (j573 + 1) x568) _ := H
 rw [concourseref10_Of.l0] at H
 refine WP.seq <| WP.seq <| rg 5 0 <| mv0 rfl rfl <| fb rfl trivial rfl fa28_0 <| ld 1 rfl trivial rfl sc26 rfl rfl <| Dv.lenl rfl trivial rfl Tryz.underlying26 <| bn0 rfl rfl rfl run_lt <| .fin <| cd H rfl (fun _ H => ?_) (fun _ H => ?_)
 rotate_left
 ·
  refine WP.exit ?_
  replace H := Gets.out H
  exact jn (x568, decide (x568 < (a0.fD.length : Int))) H
 refine WP.skip <| WP.seq <| WP.block <| WP.seq <| rg 8 0 <| fb rfl trivial rfl fa28_0 <| ld 1 rfl trivial rfl sc26 rfl rfl <| mv0 rfl rfl <| gr H fun g570 H => Dv.ixr rfl trivial rfl rfl Tryz.underlying26 Tryz.underlying36 c36 g570.1 g570.2 <| fr rfl trivial rfl fa36_0 rfl <| ldR rfl trivial rfl sc9 rfl <| mv0 rfl rfl <| bn0 rfl rfl rfl run_seq <| .fin <| cd H rfl (fun _ H => ?_) (fun _ H => ?_)
 rotate_left
 ·
  exact WP.skip <| rg 3 0 <| mv0 rfl rfl <| bn0 rfl rfl rfl run_add <| as0 rfl rfl <| .fin <| bk j573 (w64 (x568 + 1)) H
 refine WP.seq <| rg 6 32 <| fb rfl trivial rfl fa28_0 <| ld 1 rfl trivial rfl sc26 rfl rfl <| mv0 rfl rfl <| gr H fun g572 H => Dv.ixr rfl trivial rfl rfl Tryz.underlying26 Tryz.underlying36 c36 g572.1 g572.2 <| ldsR rfl trivial rfl sg36 rfl <| sx 0 rfl trivial rfl rfl cA sz36 rfl rfl rfl nofun ?_
 refine .fin ?_
 replace H := Gets.outr H
 obtain rfl := Gets.out H
 exact rt i2 rfl () 2 [0,1] 2 (.cons (res_cells rfl Tryz.underlying36 rfl c36 (mem_at 0 rfl) rfl) .nil)
theorem concourseref10_Add.c {k : Nat} {a0 : RView} {a1 : Event} {r : RView × Int} (h : concourseref10_Add.f k a0 a1 = some r) : Pt Tryz.prog 12 [agg (RView.enc a0), agg (Event.enc a1)] (tup [agg (RView.enc r.1), vI r.2]) := by
 unfold concourseref10_Add.f at h
 refine (Tr.body Tryz.func12 (c := _) rfl Tryz.ntmps12 (Nat.le_of_ble_eq_true rfl) fun R0 F => ?_).pt
 replace h := Gets.of h
 have H := h
 clear h
 refine WP.seq <| rg 4 7 <| Dv.box rfl trivial rfl cA nofun fun b575 => Dv.box rfl trivial rfl cA nofun fun b576 => al rfl trivial zc28 nofun fun b577 => as0 rfl rfl <| .fin <| WP.seq <| dg Tryz.checked.mixed 12 1536 <| lds 2 rfl trivial rfl sg28 rfl rfl <| fb rfl trivial rfl fa33_1 <| ld 1 rfl trivial rfl sc9 rfl rfl <| el H fun t578 h579 H => cl rfl cal10 rfl (concourseref10_Of.c h579) <| lds 1 rfl trivial rfl sg33 rfl rfl <| el H fun t580 h581 H => cl rfl cal51 rfl (concourseref07_Add.c h581) <| mv0 rfl rfl <| ex0 rfl trivial rfl rfl <| ex0 rfl trivial rfl rfl <| al rfl trivial zc36 (fun _ => (pend_in (fun _ => trivial) (pend_in (fun _ => trivial) (pend_in (fun _ => trivial) (pend_in (fun _ => trivial) (pend_in (fun _ => (mem_at 2 rfl)) (pend_in (fun _ => trivial) (pend_in (fun _ => (mem_at 2 rfl)) (pend_in (fun _ => trivial) (pend_in (fun _ => (mem_at 3 rfl)) pend_nil)))))))))) fun b582 => sx 0 rfl trivial rfl rfl cA sz36 rfl rfl rfl (fun _ => (pend_in (fun _ => trivial) (pend_by (by kernel_rfl) (pend_by (by kernel_rfl) (pend_by (by kernel_rfl) (pend_by (by kernel_rfl) (pend_by (by kernel_rfl) (pend_by (by kernel_rfl) (pend_by (by kernel_rfl) (pend_by (by kernel_rfl) pend_nil)))))))))) ?_
 refine as0 rfl rfl <| .fin <| WP.seq <| WP.seq <| rg 2 0 <| mv0 rfl rfl <| bn0 rfl rfl rfl run_ne <| .fin <| cd H rfl (fun _ H => ?_) (fun _ H => ?_)
 ·
  refine WP.seq <| rg 4 4 <| lds 3 rfl trivial rfl sg28 rfl rfl <| mv0 rfl rfl <| sx 1 rfl trivial rfl rfl cA sz28 rfl rfl rfl nofun ?_
  refine as0 rfl rfl <| .fin ?_
  obtain rfl := Gets.out H
  exact rt i2 rfl () 4 [0,1,2,3] 4 (.cons (res_cells rfl Tryz.underlying28 rfl c28 (mem_at 1 rfl) rfl) (.cons (res_tmp rfl) .nil))
 refine WP.skip <| WP.seq <| rg 1 0 <| as0 rfl rfl <| .fin <| WP.seq <| rg 1 0 <| as0 rfl rfl <| .fin <| WP.seqn H (fun q610 : (Bool × Int × Bool × (List RDag)) × OV => q610.1) (fun q610 : (Bool × Int × Bool × (List RDag)) × OV => [(0, agg (RView.enc a0)), (1, agg (Event.enc a1)), (2, eq (.pointer (some ⟨b575, 0, none⟩))), (3, eq (.pointer (some ⟨b576, 0, none⟩))), (4, eq (.pointer (some ⟨b577, 0, none⟩))), (5, vI 0), (6, eq (.pointer (some ⟨b582, 0, none⟩))), (7, vI t580.2), (8, eq q610.2.1), (9, vB q610.1.1), (10, vI q610.1.2.1), (21, vB (t580.2 != 0)), (28, vB q610.1.2.2.1)]) (fun q610 : (Bool × Int × Bool × (List RDag)) × OV => [blk b582 36 (RDag.enc t580.1), blk b577 28 [eq (.slice none 0 0)], blk b576 33 (Event.enc a1), blk b575 28 (RView.enc a0), own RDag.K q610.2.1 q610.1.2.2.2] ++ F) (fun q610 H => ?_) (fun H => ?_)
 ·
  obtain ⟨p584, v585⟩ := q610
  refine WP.seq <| WP.seq <| rg 2 0 <| mv0 rfl rfl <| un0 rfl rfl (run_not _) <| .fin <| cd H rfl (fun _ H => ?_) (fun _ H => ?_)
  rotate_left
  ·
   refine WP.skip <| WP.seq <| rg 4 4 <| mv0 rfl rfl <| Dv.bld (css := [[eq v585.1]]) rfl trivial Tryz.underlying28 pl28 z28 rfl ⟨(cells_one one_ov), trivial⟩ rfl rfl <| sx 1 rfl trivial rfl rfl cA sz28 rfl rfl rfl nofun ?_
   refine as0 rfl rfl <| .fin <| WP.gh (gh_frz (E' := [(4, eq (.pointer (some ⟨b577, 0, none⟩))), (5, vI 0)]) (l' := [blk b582 36 (RDag.enc t580.1), blk b577 28 [sl RDag.K p584.2.2.2], blk b576 33 (Event.enc a1), blk b575 28 (RView.enc a0)] ++ F) 4 rfl (cve_cons rfl cv_id (cve_cons rfl cv_id cve_nil)) (all2_app (.cons cva_id (.cons (cva_blk (.cons cv_eq .nil)) (.cons cva_id (.cons cva_id .nil)))) fun _ => cva_id)) (fun _ _ => ?_)
   obtain rfl := Gets.out H
   exact rt i2 rfl () 4 [0,1,2,3] 4 (.cons (res_cells rfl Tryz.underlying28 rfl c28 (mem_at 1 rfl) rfl) (.cons (res_tmp rfl) .nil))
  refine rg 5 8 <| mv0 rfl rfl <| lds 0 rfl trivial rfl sg36 rfl rfl <| Dv.lit RDag.K ([t580.1] : List RDag) (css := [RDag.enc t580.1]) rfl trivial Tryz.underlying26 Tryz.underlying36 c36 z36 rfl (by decide) (by decide) rfl ⟨(cells_agg (RDag.K.one _)), trivial⟩ rfl rfl rfl <| gr H fun g587 H => ap RDag.K 4 ([t580.1] : List RDag) src_sl Tryz.underlying26 (.inr ⟨_, Tryz.underlying26⟩) inf36 g587 nofun fun v588 => ?_
  refine as0 rfl rfl <| .fin <| WP.seq <| rg 4 4 <| mv0 rfl rfl <| Dv.bld (css := [[eq v588.1]]) rfl trivial Tryz.underlying28 pl28 z28 rfl ⟨(cells_one one_ov), trivial⟩ rfl rfl <| sx 1 rfl trivial rfl rfl cA sz28 rfl rfl rfl nofun ?_
  refine as0 rfl rfl <| .fin <| WP.gh (gh_frz (E' := [(4, eq (.pointer (some ⟨b577, 0, none⟩))), (5, vI 0)]) (l' := [blk b582 36 (RDag.enc t580.1), blk b577 28 [sl RDag.K (p584.2.2.2 ++ ([t580.1] : List RDag))], blk b576 33 (Event.enc a1), blk b575 28 (RView.enc a0)] ++ F) 4 rfl (cve_cons rfl cv_id (cve_cons rfl cv_id cve_nil)) (all2_app (.cons cva_id (.cons (cva_blk (.cons cv_eq .nil)) (.cons cva_id (.cons cva_id .nil)))) fun _ => cva_id)) (fun _ _ => ?_)
  obtain rfl := Gets.out H
  exact rt i2 rfl () 4 [0,1,2,3] 4 (.cons (res_cells rfl Tryz.underlying28 rfl c28 (mem_at 1 rfl) rfl) (.cons (res_tmp rfl) .nil))
 refine WP.seq <| rg 1 0 <| as0 rfl rfl <| .fin <| WP.block <| wg (st_nil RDag.K none) fun _ _ => ?_
 refine wg (sg 5 [1,2,3,4,0] 0) fun _ _ => ?_
 refine lp (fun j_ (p609 : Bool × Int × (List RDag) × OV) => concourseref10_Add.l0 k a0 a1 t580 j_ p609.1 p609.2.1 p609.2.2.1) (false, 0, ([] : List RDag), nilV) H (fun p609 => [(0, agg (RView.enc a0)), (1, agg (Event.enc a1)), (2, eq (.pointer (some ⟨b575, 0, none⟩))), (3, eq (.pointer (some ⟨b576, 0, none⟩))), (4, eq (.pointer (some ⟨b577, 0, none⟩))), (5, vI 0), (6, eq (.pointer (some ⟨b582, 0, none⟩))), (7, vI t580.2), (8, eq p609.2.2.2.1), (9, vB p609.1), (10, vI p609.2.1), (21, vB (t580.2 != 0))]) (fun p609 => [blk b582 36 (RDag.enc t580.1), blk b577 28 [eq (.slice none 0 0)], blk b576 33 (Event.enc a1), blk b575 28 (RView.enc a0), own RDag.K p609.2.2.2.1 p609.2.2.1] ++ F) ?_
 rintro j_ ⟨x589, x590, x591, v592⟩ H
 rcases j_ with _ | j608
 ·
  exact (Gets.no H).elim
 replace H : Gets (concourseref10_Add.l0 k a0 a1 t580 (j608 + 1) x589 x590 x591) _ := H
 rw [concourseref10_Add.l0] at H
 refine WP.seq <| WP.seq <| rg 5 0 <| mv0 rfl rfl <| fb rfl trivial rfl fa28_0 <| ld 3 rfl trivial rfl sc26 rfl rfl <| Dv.lenl rfl trivial rfl Tryz.underlying26 <| bn0 rfl rfl rfl run_lt <| .fin <| cd H rfl (fun _ H => ?_) (fun _ H => ?_)
 rotate_left
 ·
  refine WP.exit ?_
  replace H := Gets.out H
  exact jn ((x589, x590, decide (x590 < (a0.fD.length : Int)), x591), v592) H
 refine WP.skip <| WP.seq <| WP.block <| WP.seqn H (fun q607 : (Bool × Bool × (List RDag)) × OV => q607.1) (fun q607 : (Bool × Bool × (List RDag)) × OV => [(0, agg (RView.enc a0)), (1, agg (Event.enc a1)), (2, eq (.pointer (some ⟨b575, 0, none⟩))), (3, eq (.pointer (some ⟨b576, 0, none⟩))), (4, eq (.pointer (some ⟨b577, 0, none⟩))), (5, vI 0), (6, eq (.pointer (some ⟨b582, 0, none⟩))), (7, vI t580.2), (8, eq q607.2.1), (9, vB q607.1.1), (10, vI x590), (21, vB (t580.2 != 0)), (28, vB (decide (x590 < (a0.fD.length : Int)))), (43, vB q607.1.2.1)]) (fun q607 : (Bool × Bool × (List RDag)) × OV => [blk b582 36 (RDag.enc t580.1), blk b577 28 [eq (.slice none 0 0)], blk b576 33 (Event.enc a1), blk b575 28 (RView.enc a0), own RDag.K q607.2.1 q607.1.2.2] ++ F) (fun q607 H => ?_) (fun H => ?_)
 ·
  obtain ⟨p594, v595⟩ := q607
  refine WP.seq <| dg Tryz.checked.mixed 9 0 <| fb rfl trivial rfl fa28_0 <| ld 3 rfl trivial rfl sc26 rfl rfl <| mv0 rfl rfl <| gr H fun g596 H => Dv.ixr rfl trivial rfl rfl Tryz.underlying26 Tryz.underlying36 c36 g596.1 g596.2 <| fr rfl trivial rfl fa36_0 rfl <| ldR rfl trivial rfl sc9 rfl <| fb rfl trivial rfl fa33_1 <| ld 2 rfl trivial rfl sc9 rfl rfl <| bn0 rfl rfl rfl run_sne <| .fin <| cd H rfl (fun _ H => ?_) (fun _ H => ?_)
  rotate_left
  ·
   exact WP.skip <| rg 3 0 <| mv0 rfl rfl <| bn0 rfl rfl rfl run_add <| as0 rfl rfl <| .fin <| bk j608 (p594.1, w64 (x590 + 1), p594.2.2, v595) H
  refine rg 9 128 <| mv0 rfl rfl <| fb rfl trivial rfl fa28_0 <| ld 3 rfl trivial rfl sc26 rfl rfl <| mv0 rfl rfl <| gr H fun g598 H => Dv.ixr rfl trivial rfl rfl Tryz.underlying26 Tryz.underlying36 c36 g598.1 g598.2 <| ldsR rfl trivial rfl sg36 rfl <| Dv.lit RDag.K ([RDag.K.at a0.fD x590] : List RDag) (css := [RDag.enc (RDag.K.at a0.fD x590)]) rfl trivial Tryz.underlying26 Tryz.underlying36 c36 z36 rfl (by decide) (by decide) rfl ⟨(cells_agg (RDag.K.one _)), trivial⟩ rfl rfl rfl <| gr H fun g599 H => ap RDag.K 4 ([RDag.K.at a0.fD x590] : List RDag) src_sl Tryz.underlying26 (.inr ⟨_, Tryz.underlying26⟩) inf36 g599 nofun fun v600 => ?_
  exact as0 rfl rfl <| .fin <| rg 3 0 <| mv0 rfl rfl <| bn0 rfl rfl rfl run_add <| as0 rfl rfl <| .fin <| bk j608 (p594.1, w64 (x590 + 1), p594.2.2 ++ ([RDag.K.at a0.fD x590] : List RDag), v600) H
 refine WP.seq <| dg Tryz.checked.mixed 13 0 <| mv0 rfl rfl <| un0 rfl rfl (run_not _) <| mv0 rfl rfl ?_
 cases c601 : !x589
 ·
  replace H := Gets.cf H c601
  refine sk rfl rfl <| sk rfl rfl <| sk rfl rfl <| sk rfl rfl <| sk rfl rfl <| sk rfl rfl <| sk rfl rfl <| sk rfl rfl <| sk rfl rfl <| pf0 rfl rfl rfl <| .fin <| WP.cond rfl nofun (fun _ => ?_)
  refine WP.skip ?_
  replace H := Gets.out H
  exact jn ((x589, false, x591), v592) H
 replace H := Gets.ct H c601
 refine fb rfl (gg rfl) rfl fa33_1 <| ld 2 rfl (gg rfl) rfl sc9 rfl rfl <| fb rfl (gg rfl) rfl fa28_0 <| ld 3 rfl (gg rfl) rfl sc26 rfl rfl <| mvg rfl rfl rfl <| gr H fun g602 H => Dv.ixr rfl (gg rfl) rfl rfl Tryz.underlying26 Tryz.underlying36 c36 g602.1 g602.2 <| fr rfl (gg rfl) rfl fa36_0 rfl <| ldR rfl (gg rfl) rfl sc9 rfl <| bng rfl rfl rfl rfl run_sle <| pt0 rfl rfl rfl <| .fin <| cd H rfl (fun _ H => ?_) (fun _ H => ?_)
 rotate_left
 ·
  refine WP.skip ?_
  replace H := Gets.out H
  exact jn ((x589, !sLt ((RDag.K.at a0.fD x590).fRoom) a1.fRoom, x591), v592) H
 refine WP.seq <| rg 5 8 <| mv0 rfl rfl <| lds 0 rfl trivial rfl sg36 rfl rfl <| Dv.lit RDag.K ([t580.1] : List RDag) (css := [RDag.enc t580.1]) rfl trivial Tryz.underlying26 Tryz.underlying36 c36 z36 rfl (by decide) (by decide) rfl ⟨(cells_agg (RDag.K.one _)), trivial⟩ rfl rfl rfl <| gr H fun g604 H => ap RDag.K 4 ([t580.1] : List RDag) src_sl Tryz.underlying26 (.inr ⟨_, Tryz.underlying26⟩) inf36 g604 nofun fun v605 => ?_
 refine as0 rfl rfl <| .fin <| rg 1 0 <| as0 rfl rfl <| .fin ?_
 replace H := Gets.out H
 exact jn ((true, !sLt ((RDag.K.at a0.fD x590).fRoom) a1.fRoom, x591 ++ ([t580.1] : List RDag)), v605) H
theorem concourseref10_Build.c {k : Nat} {a0 : List Event} {r : RView} (h : concourseref10_Build.f k a0 = some r) : Pt Tryz.prog 48 [sl Event.K a0] (agg (RView.enc r)) := by
 unfold concourseref10_Build.f at h
 refine (Tr.body Tryz.func48 (c := _) rfl Tryz.ntmps48 (Nat.le_of_ble_eq_true rfl) fun R0 F => ?_).pt
 replace h := Gets.of h
 have H := h
 clear h
 refine WP.seq <| rg 1 1 <| al rfl trivial zc28 nofun fun b611 => .fin <| WP.seq <| rg 1 1 <| al rfl trivial zc28 nofun fun b612 => .fin <| WP.seqn H id (fun p613 : Int × Bool × (List RDag) => [(0, sl Event.K a0), (2, eq (.pointer (some ⟨b611, 0, none⟩))), (3, eq (.pointer (some ⟨b612, 0, none⟩))), (4, vI p613.1), (10, vB p613.2.1)]) (fun p613 : Int × Bool × (List RDag) => [blk b612 28 [sl RDag.K p613.2.2], blk b611 28 [eq (.slice none 0 0)]] ++ F) (fun p613 H => ?_) (fun H => ?_)
 ·
  refine WP.seq <| rg 2 2 <| lds 0 rfl trivial rfl sg28 rfl rfl <| sx 1 rfl trivial rfl rfl cA sz28 rfl rfl rfl nofun ?_
  refine .fin ?_
  obtain rfl := Gets.out H
  exact rt i2 rfl () 2 [0,1] 2 (.cons (res_cells rfl Tryz.underlying28 rfl c28 (mem_at 1 rfl) rfl) .nil)
 refine WP.seq <| rg 1 0 <| as0 rfl rfl <| .fin <| WP.block <| WP.gh (gh_wk (E' := [(0, sl Event.K a0), (2, eq (.pointer (some ⟨b611, 0, none⟩))), (3, eq (.pointer (some ⟨b612, 0, none⟩))), (4, vI 0)]) (l' := [blk b612 28 [sl RDag.K ([] : List RDag)], blk b611 28 [eq (.slice none 0 0)]] ++ F) (wke_cons rfl wk_id (wke_cons rfl wk_id (wke_cons rfl wk_id (wke_cons rfl wk_id wke_nil)))) (all2_app (.cons (wka_blk (.cons wk_nil .nil)) (.cons wka_id .nil)) fun _ => wka_id)) (fun _ _ => ?_)
 refine wg (sg 2 [0,1] 0) fun _ _ => ?_
 refine lp (fun j_ (p622 : Int × (List RDag)) => concourseref10_Build.l0 k a0 j_ p622.1 p622.2) (0, ([] : List RDag)) H (fun p622 => [(0, sl Event.K a0), (2, eq (.pointer (some ⟨b611, 0, none⟩))), (3, eq (.pointer (some ⟨b612, 0, none⟩))), (4, vI p622.1)]) (fun p622 => [blk b612 28 [sl RDag.K p622.2], blk b611 28 [eq (.slice none 0 0)]] ++ F) ?_
 rintro j_ ⟨x614, x615⟩ H
 rcases j_ with _ | j621
 ·
  exact (Gets.no H).elim
 replace H : Gets (concourseref10_Build.l0 k a0 (j621 + 1) x614 x615) _ := H
 rw [concourseref10_Build.l0] at H
 refine WP.seq <| WP.seq <| rg 4 0 <| mv0 rfl rfl <| mv0 rfl rfl <| Dv.lenl rfl trivial rfl Tryz.underlying23 <| bn0 rfl rfl rfl run_lt <| .fin <| cd H rfl (fun _ H => ?_) (fun _ H => ?_)
 rotate_left
 ·
  refine WP.exit ?_
  replace H := Gets.out H
  exact jn (x614, decide (x614 < (a0.length : Int)), x615) H
 refine WP.skip <| WP.seq <| WP.block <| WP.seq <| dg Tryz.checked.mixed 12 1536 <| lds 0 rfl trivial rfl sg28 rfl rfl <| mv0 rfl rfl <| mv0 rfl rfl <| gr H fun g617 H => Dv.ixr rfl trivial rfl rfl Tryz.underlying23 Tryz.underlying33 c33 g617.1 g617.2 <| ldsR rfl trivial rfl sg33 rfl <| el H fun t618 h619 H => cl rfl cal12 rfl (concourseref10_Add.c h619) <| mv0 rfl rfl <| ex0 rfl trivial rfl rfl <| ex0 rfl trivial rfl rfl <| al rfl trivial zc28 (fun _ => (pend_in (fun _ => trivial) (pend_in (fun _ => trivial) (pend_in (fun _ => trivial) (pend_in (fun _ => trivial) (pend_in (fun _ => trivial) (pend_in (fun _ => trivial) (pend_in (fun _ => trivial) (pend_in (fun _ => trivial) (pend_in (fun _ => (mem_at 1 rfl)) pend_nil)))))))))) fun b620 => sx 0 rfl trivial rfl rfl cA sz28 rfl rfl rfl (fun _ => (pend_in (fun _ => trivial) (pend_by (by kernel_rfl) (pend_by (by kernel_rfl) (pend_by (by kernel_rfl) (pend_by (by kernel_rfl) (pend_by (by kernel_rfl) (pend_by (by kernel_rfl) (pend_by (by kernel_rfl) (pend_by (by kernel_rfl) pend_nil)))))))))) ?_
 refine as0 rfl rfl <| .fin <| rg 2 2 <| lds 0 rfl trivial rfl sg28 rfl rfl <| sx 1 rfl trivial rfl rfl cA sz28 rfl rfl rfl nofun ?_
 refine .fin <| rg 3 0 <| mv0 rfl rfl <| bn0 rfl rfl rfl run_add <| as0 rfl rfl <| .fin <| ng (sg 3 [0,1,2] 1) fun _ _ => ?_
 exact bk j621 (w64 (x614 + 1), t618.1.fD) H
theorem concourselaw10_build.c {k : Nat} {a0 : List GMade} {a1 : List GMade} {r : (Option VView) × RView} (h : concourselaw10_build.f k a0 a1 = some r) : Tr Tryz.prog 8 [sl GMade.K a0, sl GMade.K a1] [] (γ := OV) (fun _ => True) (fun g => tup [eq g.1, agg (RView.enc r.2)]) (fun g => [optO VView.O g r.1]) := by
 unfold concourselaw10_build.f at h
 refine Tr.body Tryz.func8 (c := _) rfl Tryz.ntmps8 (Nat.le_of_ble_eq_true rfl) fun R0 F => ?_
 replace h := Gets.of h
 have H := h
 clear h
 refine WP.seq <| rg 2 2 <| as0 rfl rfl <| al rfl trivial zc28 nofun fun b623 => .fin <| WP.seq <| rg 4 4 <| mv0 rfl rfl <| mv0 rfl rfl <| el H fun t624 h625 H => cx 1 [0] cal26 (concourseref10_Made.c h625) nofun fun g626 _ => ?_
 refine as0 rfl rfl <| .fin <| WP.seq <| rg 2 1 <| el H fun t627 h628 H => cx 2 [0,1] cal25 (view_New.c h628) nofun fun g629 _ => ?_
 refine as0 rfl rfl <| .fin <| WP.seq <| WP.seq <| rg 2 0 <| mv0 rfl rfl <| Dv.peq0 VView.nn rfl trivial rfl rfl Tryz.underlying25 (mem_at 0 rfl) <| .fin <| WP.cond rfl nofun (fun _ => ?_)
 refine WP.skip <| WP.seqr H id (fun p631 : Int × Bool × VView => [(0, sl GMade.K a0), (1, sl GMade.K a1), (4, eq (.pointer none)), (5, eq (.pointer (some ⟨b623, 0, none⟩))), (6, eq g626.1), (7, eq g629.1), (8, vI p631.1), (14, vB false), (19, vB p631.2.1)]) (fun p631 : Int × Bool × VView => [blk b623 28 [eq (.slice none 0 0)], VView.O g629 p631.2.2, own Event.K g626.1 t624] ++ F) (fun p631 H => ?_) (fun H => ?_)
 ·
  refine WP.seq <| rg 5 16 <| mv0 rfl rfl <| mv0 rfl rfl <| Dv.gh (gh_frz (E' := [(0, sl GMade.K a0), (1, sl GMade.K a1), (4, eq (.pointer none)), (5, eq (.pointer (some ⟨b623, 0, none⟩))), (6, sl Event.K t624), (7, eq g629.1), (8, vI p631.1), (14, vB false), (19, vB p631.2.1), (30, eq g629.1), (31, sl Event.K t624)]) (l' := [blk b623 28 [eq (.slice none 0 0)], VView.O g629 p631.2.2] ++ F) 2 rfl (cve_cons rfl cv_id (cve_cons rfl cv_id (cve_cons rfl cv_id (cve_cons rfl cv_id (cve_cons rfl cv_eq (cve_cons rfl cv_id (cve_cons rfl cv_id (cve_cons rfl cv_id (cve_cons rfl cv_id (cve_cons rfl cv_id (cve_cons rfl cv_eq cve_nil))))))))))) (all2_app (.cons cva_id (.cons cva_id .nil)) fun _ => cva_id)) (fun _ _ => ?_)
  refine el H fun t632 h633 H => cl rfl cal48 rfl (concourseref10_Build.c h633) <| as0 rfl rfl <| sx 0 rfl trivial rfl rfl cA sz28 rfl rfl rfl nofun ?_
  refine .fin ?_
  obtain rfl := Gets.out H
  exact rt i2 rfl g629 2 [0,1] 1 (.cons (res_tmp rfl) (.cons (res_cells rfl Tryz.underlying28 rfl c28 (mem_at 0 rfl) rfl) .nil))
 refine WP.seq <| rg 1 0 <| as0 rfl rfl <| .fin <| WP.block <| wg (sg 3 [2,0,1] 0) fun _ _ => ?_
 refine lp (fun j_ (p643 : Int × VView) => concourselaw10_build.l0 k t624 j_ p643.1 p643.2) (0, t627) H (fun p643 => [(0, sl GMade.K a0), (1, sl GMade.K a1), (4, eq (.pointer none)), (5, eq (.pointer (some ⟨b623, 0, none⟩))), (6, eq g626.1), (7, eq g629.1), (8, vI p643.1), (14, vB false)]) (fun p643 => [blk b623 28 [eq (.slice none 0 0)], VView.O g629 p643.2, own Event.K g626.1 t624] ++ F) ?_
 rintro j_ ⟨x634, x635⟩ H
 rcases j_ with _ | j642
 ·
  exact (Gets.no H).elim
 replace H : Gets (concourselaw10_build.l0 k t624 (j642 + 1) x634 x635) _ := H
 rw [concourselaw10_build.l0] at H
 refine WP.seq <| WP.seq <| rg 4 0 <| mv0 rfl rfl <| mv0 rfl rfl <| Dv.lenw rfl trivial rfl (mem_at 2 rfl) Tryz.underlying23 <| bn0 rfl rfl rfl run_lt <| .fin <| cd H rfl (fun _ H => ?_) (fun _ H => ?_)
 rotate_left
 ·
  refine WP.exit ?_
  replace H := Gets.out H
  exact jn (x634, decide (x634 < (t624.length : Int)), x635) H
 refine WP.skip <| WP.seq <| WP.block <| WP.seq <| rg 7 32 <| mv0 rfl rfl <| mv0 rfl rfl <| mv0 rfl rfl <| gr H fun g637 H => ?_
 have h638 : x634.toNat < t624.length := idx_lt g637
 refine Dv.ixw rfl trivial rfl (mem_at 2 rfl) rfl Tryz.underlying23 Tryz.underlying33 c33 g637.1 g637.2 <| Dv.ldws (j := x634.toNat) (f := 0) rfl trivial rfl (mem_at 2 rfl) h638 Tryz.underlying33 rfl c33 (Nat.le_of_ble_eq_true rfl) <| el H fun t639 h640 H => cx 3 [1,0,2] cal13 (view_View_Add.c h640 (p0_ := g629)) nofun fun _ _ => ?_
 refine bn0 rfl rfl rfl run_ne <| .fin <| cd H rfl (fun _ H => ?_) (fun _ H => ?_)
 rotate_left
 ·
  refine WP.skip <| rg 3 0 <| mv0 rfl rfl <| bn0 rfl rfl rfl run_add <| as0 rfl rfl <| .fin <| ng (sg 3 [1,0,2] 0) fun _ _ => ?_
  exact bk j642 (w64 (x634 + 1), t639.2) H
 refine WP.seq <| rg 3 4 <| Dv.bld (css := []) rfl trivial Tryz.underlying28 pl28 z28 rfl trivial rfl rfl <| as0 rfl rfl <| sx 1 rfl trivial rfl rfl cA sz28 rfl rfl rfl nofun ?_
 refine .fin <| wg (st_nilP (O := VView.O)) fun _ _ => ?_
 replace H := Gets.outr H
 obtain rfl := Gets.out H
 exact rt i2 rfl nilP 4 [1,2,3,0] 3 (.cons (res_tmp rfl) (.cons (res_wk (res_cells rfl Tryz.underlying28 rfl c28 (mem_at 2 rfl) rfl) (wk_agg (.cons wk_nil .nil))) .nil))
theorem concourseref01_Few.c {a0 : ByteArray} {a1 : Int} {r : ByteArray} (h : concourseref01_Few.f a0 a1 = some r) : Pt Tryz.prog 27 [vS a0, vI a1] (vS r) := by
 unfold concourseref01_Few.f at h
 refine (Tr.body Tryz.func27 (c := _) rfl Tryz.ntmps27 (Nat.le_of_ble_eq_true rfl) fun R0 F => ?_).pt
 replace h := Gets.of h
 have H := h
 clear h
 refine WP.seq <| rg 1 0 <| as0 rfl rfl <| .fin <| WP.seq <| WP.seq <| rg 4 0 <| mv0 rfl rfl <| Dv.lens rfl trivial rfl Tryz.underlying9 <| mv0 rfl rfl <| bn0 rfl rfl rfl run_gt <| .fin <| cd H rfl (fun _ H => ?_) (fun _ H => ?_)
 rotate_left
 ·
  refine WP.skip <| WP.seq <| rg 2 0 <| mv0 rfl rfl <| as0 rfl rfl <| .fin ?_
  obtain rfl := Gets.out H
  exact rt i2 rfl () 0 [] 0 (.cons (res_tmp rfl) .nil)
 refine WP.seq <| rg 4 0 <| mv0 rfl rfl <| mv0 rfl rfl <| gr H fun g645 H => Dv.sss rfl trivial rfl Tryz.underlying9 bdE_none (bdE_some rfl g645.1) g645.2.1 g645.2.2 <| as0 rfl rfl <| .fin ?_
 obtain rfl := Gets.out H
 exact rt i2 rfl () 0 [] 0 (.cons (res_tmp rfl) .nil)
theorem concourseref07_Few.c {k : Nat} {a0 : Event} {r : Event} (h : concourseref07_Few.f k a0 = some r) : Pt Tryz.prog 50 [agg (Event.enc a0)] (agg (Event.enc r)) := by
 unfold concourseref07_Few.f at h
 refine (Tr.body Tryz.func50 (c := _) rfl Tryz.ntmps50 (Nat.le_of_ble_eq_true rfl) fun R0 F => ?_).pt
 replace h := Gets.of h
 have H := h
 clear h
 refine WP.seq <| rg 2 3 <| Dv.box rfl trivial rfl cA nofun fun b646 => al rfl trivial zc33 nofun fun b647 => .fin <| WP.seq <| rg 5 16 <| fb rfl trivial rfl fa33_0 <| ld 1 rfl trivial rfl sc9 rfl rfl <| el H fun t648 h649 H => cl rfl cal27 rfl (concourseref01_Few.c h649) <| fb rfl trivial rfl fa33_0 <| sx 1 rfl trivial rfl rfl cE sz9 rfl rfl rfl nofun ?_
 refine .fin <| WP.seq <| rg 5 16 <| fb rfl trivial rfl fa33_1 <| ld 1 rfl trivial rfl sc9 rfl rfl <| el H fun t650 h651 H => cl rfl cal27 rfl (concourseref01_Few.c h651) <| fb rfl trivial rfl fa33_1 <| sx 1 rfl trivial rfl rfl cE sz9 rfl rfl rfl nofun ?_
 refine .fin <| WP.seq <| rg 5 16 <| fb rfl trivial rfl fa33_4 <| ld 1 rfl trivial rfl sc9 rfl rfl <| el H fun t652 h653 H => cl rfl cal27 rfl (concourseref01_Few.c h653) <| fb rfl trivial rfl fa33_4 <| sx 1 rfl trivial rfl rfl cE sz9 rfl rfl rfl nofun ?_
 refine .fin <| WP.seq <| rg 5 16 <| fb rfl trivial rfl fa33_3 <| ld 1 rfl trivial rfl sc9 rfl rfl <| el H fun t654 h655 H => cl rfl cal27 rfl (concourseref01_Few.c h655) <| fb rfl trivial rfl fa33_3 <| sx 1 rfl trivial rfl rfl cE sz9 rfl rfl rfl nofun ?_
 refine .fin <| WP.seq <| rg 1 0 <| as0 rfl rfl <| .fin <| WP.seqn H (fun q671 : (Int × Bool × (List ByteArray)) × OV => q671.1) (fun q671 : (Int × Bool × (List ByteArray)) × OV => [(0, agg (Event.enc a0)), (1, eq (.pointer (some ⟨b646, 0, none⟩))), (2, eq (.pointer (some ⟨b647, 0, none⟩))), (3, eq q671.2.1), (4, vI q671.1.1), (29, vB q671.1.2.1)]) (fun q671 : (Int × Bool × (List ByteArray)) × OV => [blk b647 33 [vS (⟨#[]⟩ : ByteArray), vS (⟨#[]⟩ : ByteArray), eq (.slice none 0 0), vS (⟨#[]⟩ : ByteArray), vS (⟨#[]⟩ : ByteArray), vI 0], blk b646 33 [vS t648, vS t650, sl strK a0.fParents, vS t654, vS t652, vI a0.fDoes], own strK q671.2.1 q671.1.2.2] ++ F) (fun q671 H => ?_) (fun H => ?_)
 ·
  obtain ⟨p656, v657⟩ := q671
  refine WP.seq <| rg 3 4 <| mv0 rfl rfl <| fb rfl trivial rfl fa33_2 <| sx 1 rfl trivial rfl rfl (cells_one one_ov) sz31 rfl rfl rfl nofun ?_
  refine .fin <| WP.seq <| rg 2 2 <| lds 1 rfl trivial rfl sg33 rfl rfl <| sx 0 rfl trivial rfl rfl cA sz33 rfl rfl rfl nofun ?_
  refine .fin <| WP.gh (gh_frz (E' := [(2, eq (.pointer (some ⟨b647, 0, none⟩)))]) (l' := [blk b647 33 [vS t648, vS t650, sl strK p656.2.2, vS t654, vS t652, vI a0.fDoes], blk b646 33 [vS t648, vS t650, sl strK p656.2.2, vS t654, vS t652, vI a0.fDoes]] ++ F) 2 rfl (cve_cons rfl cv_id cve_nil) (all2_app (.cons (cva_blk (.cons cv_id (.cons cv_id (.cons cv_eq (.cons cv_id (.cons cv_id (.cons cv_id .nil))))))) (.cons (cva_blk (.cons cv_id (.cons cv_id (.cons cv_eq (.cons cv_id (.cons cv_id (.cons cv_id .nil))))))) .nil)) fun _ => cva_id)) (fun _ _ => ?_)
  obtain rfl := Gets.out H
  exact rt i2 rfl () 2 [0,1] 2 (.cons (res_cells rfl Tryz.underlying33 rfl c33 (mem_at 0 rfl) rfl) .nil)
 refine WP.seq <| rg 1 0 <| as0 rfl rfl <| .fin <| WP.block <| wg (st_nil strK none) fun _ _ => ?_
 refine wg (sg 3 [1,2,0] 0) fun _ _ => ?_
 refine lp (fun j_ (p670 : Int × (List ByteArray) × OV) => concourseref07_Few.l0 k a0 j_ p670.1 p670.2.1) (0, ([] : List ByteArray), nilV) H (fun p670 => [(0, agg (Event.enc a0)), (1, eq (.pointer (some ⟨b646, 0, none⟩))), (2, eq (.pointer (some ⟨b647, 0, none⟩))), (3, eq p670.2.2.1), (4, vI p670.1)]) (fun p670 => [blk b647 33 [vS (⟨#[]⟩ : ByteArray), vS (⟨#[]⟩ : ByteArray), eq (.slice none 0 0), vS (⟨#[]⟩ : ByteArray), vS (⟨#[]⟩ : ByteArray), vI 0], blk b646 33 [vS t648, vS t650, sl strK a0.fParents, vS t654, vS t652, vI a0.fDoes], own strK p670.2.2.1 p670.2.1] ++ F) ?_
 rintro j_ ⟨x658, x659, v660⟩ H
 rcases j_ with _ | j669
 ·
  exact (Gets.no H).elim
 replace H : Gets (concourseref07_Few.l0 k a0 (j669 + 1) x658 x659) _ := H
 rw [concourseref07_Few.l0] at H
 refine WP.seq <| WP.seq <| rg 9 0 <| mv0 rfl rfl <| fb rfl trivial rfl fa33_2 <| ld 1 rfl trivial rfl sc31 rfl rfl <| Dv.lenl rfl trivial rfl Tryz.underlying31 <| bn0 rfl rfl rfl run_lt <| mv0 rfl rfl ?_
 cases c661 : decide (x658 < (a0.fParents.length : Int))
 ·
  replace H := Gets.cf H c661
  refine sk rfl rfl <| sk rfl rfl <| pf0 rfl rfl rfl <| .fin <| WP.cond rfl nofun (fun _ => ?_)
  refine WP.exit ?_
  replace H := Gets.out H
  exact jn ((x658, false, x659), v660) H
 replace H := Gets.ct H c661
 refine mvg rfl rfl rfl <| bng rfl rfl rfl rfl run_lt <| pt0 rfl rfl rfl <| .fin <| cd H rfl (fun _ H => ?_) (fun _ H => ?_)
 rotate_left
 ·
  refine WP.exit ?_
  replace H := Gets.out H
  exact jn ((x658, decide (x658 < 6), x659), v660) H
 refine WP.skip <| WP.seq <| WP.block <| rg 10 256 <| mv0 rfl rfl <| fb rfl trivial rfl fa33_2 <| ld 1 rfl trivial rfl sc31 rfl rfl <| mv0 rfl rfl <| gr H fun g663 H => Dv.ixr rfl trivial rfl rfl Tryz.underlying31 Tryz.underlying9 c9 g663.1 g663.2 <| ldR rfl trivial rfl sc9 rfl <| el H fun t664 h665 H => cl rfl cal27 rfl (concourseref01_Few.c h665) <| Dv.lit strK ([t664] : List ByteArray) (css := [[vS t664]]) rfl trivial Tryz.underlying31 Tryz.underlying9 c9 z9 rfl (by decide) (by decide) rfl ⟨(cells_one (one_eq rfl)), trivial⟩ rfl rfl rfl <| gr H fun g666 H => ap strK 2 ([t664] : List ByteArray) src_sl Tryz.underlying31 (.inr ⟨_, Tryz.underlying31⟩) inf9 g666 nofun fun v667 => ?_
 exact as0 rfl rfl <| .fin <| rg 3 0 <| mv0 rfl rfl <| bn0 rfl rfl rfl run_add <| as0 rfl rfl <| .fin <| bk j669 (w64 (x658 + 1), x659 ++ ([t664] : List ByteArray), v667) H
theorem concourseref07_Odd.c {k : Nat} {a0 : RDag} {a1 : Int} {a2 : Int} {a3 : Event} {r : Event} (h : concourseref07_Odd.f k a0 a1 a2 a3 = some r) : Pt Tryz.prog 9 [agg (RDag.enc a0), vI a1, vI a2, agg (Event.enc a3)] (agg (Event.enc r)) := by
 unfold concourseref07_Odd.f at h
 refine (Tr.body Tryz.func9 (c := _) rfl Tryz.ntmps9 (Nat.le_of_ble_eq_true rfl) fun R0 F => ?_).pt
 replace h := Gets.of h
 have H := h
 clear h
 refine WP.seq <| rg 3 7 <| Dv.box rfl trivial rfl cA nofun fun b672 => Dv.box rfl trivial rfl cA nofun fun b673 => al rfl trivial zc33 nofun fun b674 => .fin <| WP.seq <| rg 5 24 <| fb rfl trivial rfl fa36_0 <| ld 2 rfl trivial rfl sc9 rfl rfl <| Dv.bld (css := [[vS (⟨#[36, 120]⟩ : ByteArray)], [vS a0.fRoom], [vS (⟨#[64, 97, 58, 115, 49]⟩ : ByteArray)]]) rfl trivial Tryz.underlying33 pl33 z33 rfl ⟨(cells_one (one_eq rfl)), ⟨(cells_one (one_eq rfl)), ⟨(cells_one (one_eq rfl)), trivial⟩⟩⟩ rfl rfl <| al rfl trivial zc33 nofun fun b675 => sx 0 rfl trivial rfl rfl cA sz33 rfl rfl rfl nofun ?_
 refine .fin <| WP.seqn H id (fun p676 : ByteArray × ByteArray × (List ByteArray) × ByteArray × ByteArray × Int => [(0, agg (RDag.enc a0)), (1, vI a1), (2, vI a2), (3, agg (Event.enc a3)), (4, eq (.pointer (some ⟨b672, 0, none⟩))), (7, eq (.pointer (some ⟨b673, 0, none⟩))), (8, eq (.pointer (some ⟨b674, 0, none⟩))), (9, eq (.pointer (some ⟨b675, 0, none⟩))), (16, vB (decide (0 < (a0.fL.length : Int))))]) (fun p676 : ByteArray × ByteArray × (List ByteArray) × ByteArray × ByteArray × Int => [blk b675 33 [vS p676.1, vS p676.2.1, sl strK p676.2.2.1, vS p676.2.2.2.1, vS p676.2.2.2.2.1, vI p676.2.2.2.2.2], blk b674 33 [vS (⟨#[]⟩ : ByteArray), vS (⟨#[]⟩ : ByteArray), eq (.slice none 0 0), vS (⟨#[]⟩ : ByteArray), vS (⟨#[]⟩ : ByteArray), vI 0], blk b673 33 (Event.enc a3), blk b672 36 (RDag.enc a0)] ++ F) (fun p676 H => ?_) (fun H => ?_)
 rotate_left
 ·
  refine WP.seq <| rg 4 0 <| fb rfl trivial rfl fa36_1 <| ld 3 rfl trivial rfl sc23 rfl rfl <| Dv.lenl rfl trivial rfl Tryz.underlying23 <| bn0 rfl rfl rfl run_gt <| .fin <| cd H rfl (fun _ H => ?_) (fun _ H => ?_)
  ·
   refine dg Tryz.checked.mixed 10 512 <| fb rfl trivial rfl fa36_1 <| ld 3 rfl trivial rfl sc23 rfl rfl <| mv0 rfl rfl <| fb rfl trivial rfl fa36_1 <| ld 3 rfl trivial rfl sc23 rfl rfl <| Dv.lenl rfl trivial rfl Tryz.underlying23 <| el H fun t693 h694 H => cl rfl cal49 rfl (concourseref01_Around.c h694) <| gr H fun g695 H => Dv.ixr rfl trivial rfl rfl Tryz.underlying23 Tryz.underlying33 c33 g695.1 g695.2 <| ldsR rfl trivial rfl sg33 rfl <| sx 0 rfl trivial rfl rfl cA sz33 rfl rfl rfl pB ?_
   refine .fin ?_
   replace H := Gets.out H
   exact jn ((Event.K.at a0.fL t693).fID, (Event.K.at a0.fL t693).fRoom, (Event.K.at a0.fL t693).fParents, (Event.K.at a0.fL t693).fThread, (Event.K.at a0.fL t693).fUser, (Event.K.at a0.fL t693).fDoes) H
  refine WP.skip ?_
  replace H := Gets.out H
  refine Dn.gh (gh_wk (E' := [(0, agg (RDag.enc a0)), (1, vI a1), (2, vI a2), (3, agg (Event.enc a3)), (4, eq (.pointer (some ⟨b672, 0, none⟩))), (7, eq (.pointer (some ⟨b673, 0, none⟩))), (8, eq (.pointer (some ⟨b674, 0, none⟩))), (9, eq (.pointer (some ⟨b675, 0, none⟩))), (16, vB (decide (0 < (a0.fL.length : Int))))]) (l' := [blk b675 33 [vS (⟨#[36, 120]⟩ : ByteArray), vS a0.fRoom, sl strK ([] : List ByteArray), vS (⟨#[]⟩ : ByteArray), vS (⟨#[64, 97, 58, 115, 49]⟩ : ByteArray), vI 0], blk b674 33 [vS (⟨#[]⟩ : ByteArray), vS (⟨#[]⟩ : ByteArray), eq (.slice none 0 0), vS (⟨#[]⟩ : ByteArray), vS (⟨#[]⟩ : ByteArray), vI 0], blk b673 33 (Event.enc a3), blk b672 36 (RDag.enc a0)] ++ F) (wke_cons rfl wk_id (wke_cons rfl wk_id (wke_cons rfl wk_id (wke_cons rfl wk_id (wke_cons rfl wk_id (wke_cons rfl wk_id (wke_cons rfl wk_id (wke_cons rfl wk_id (wke_cons rfl wk_id wke_nil))))))))) (all2_app (.cons (wka_blk (.cons wk_id (.cons wk_id (.cons wk_nil (.cons wk_id (.cons wk_id (.cons wk_id .nil))))))) (.cons wka_id (.cons wka_id (.cons wka_id .nil)))) fun _ => wka_id)) (fun _ _ => ?_)
  exact jn ((⟨#[36, 120]⟩ : ByteArray), a0.fRoom, ([] : List ByteArray), (⟨#[]⟩ : ByteArray), (⟨#[64, 97, 58, 115, 49]⟩ : ByteArray), 0) H
 refine WP.seq <| rg 3 4 <| lds 2 rfl trivial rfl sg33 rfl rfl <| el H fun t677 h678 H => cl rfl cal50 rfl (concourseref07_Few.c h678) <| sx 2 rfl trivial rfl rfl cA sz33 rfl rfl rfl nofun ?_
 refine .fin <| WP.seq <| WP.seq <| rg 2 0 <| mv0 rfl rfl <| el H fun t679 h680 H => cl rfl cal49 rfl (concourseref01_Around.c h680) <| .fin <| WP.block <| WP.seq <| rg 2 0 <| bn0 rfl rfl rfl run_eq <| as0 rfl rfl <| .fin <| cd H rfl (fun _ H => ?_) (fun _ H => ?_)
 ·
  refine rg 4 8 <| fb rfl trivial rfl fa33_0 <| ld 2 rfl trivial rfl sc9 rfl rfl <| fb rfl trivial rfl fa33_0 <| sx 0 rfl trivial rfl rfl cE sz9 rfl rfl rfl nofun ?_
  refine .fin <| WP.seq <| rg 2 2 <| lds 0 rfl trivial rfl sg33 rfl rfl <| sx 1 rfl trivial rfl rfl cA sz33 rfl rfl rfl nofun ?_
  refine .fin ?_
  obtain rfl := Gets.out H
  exact rt i2 rfl () 4 [0,1,2,3] 4 (.cons (res_cells rfl Tryz.underlying33 rfl c33 (mem_at 1 rfl) rfl) .nil)
 refine WP.seq <| rg 2 0 <| bn0 rfl rfl rfl run_eq <| as0 rfl rfl <| .fin <| cd H rfl (fun _ H => ?_) (fun _ H => ?_)
 ·
  refine rg 4 8 <| fb rfl trivial rfl fa33_1 <| ld 2 rfl trivial rfl sc9 rfl rfl <| fb rfl trivial rfl fa33_1 <| sx 0 rfl trivial rfl rfl cE sz9 rfl rfl rfl nofun ?_
  refine .fin <| WP.seq <| rg 2 2 <| lds 0 rfl trivial rfl sg33 rfl rfl <| sx 1 rfl trivial rfl rfl cA sz33 rfl rfl rfl nofun ?_
  refine .fin ?_
  obtain rfl := Gets.out H
  exact rt i2 rfl () 4 [0,1,2,3] 4 (.cons (res_cells rfl Tryz.underlying33 rfl c33 (mem_at 1 rfl) rfl) .nil)
 refine WP.seq <| rg 2 0 <| bn0 rfl rfl rfl run_eq <| as0 rfl rfl <| .fin <| cd H rfl (fun _ H => ?_) (fun _ H => ?_)
 ·
  refine rg 4 8 <| fb rfl trivial rfl fa33_4 <| ld 2 rfl trivial rfl sc9 rfl rfl <| fb rfl trivial rfl fa33_4 <| sx 0 rfl trivial rfl rfl cE sz9 rfl rfl rfl nofun ?_
  refine .fin <| WP.seq <| rg 2 2 <| lds 0 rfl trivial rfl sg33 rfl rfl <| sx 1 rfl trivial rfl rfl cA sz33 rfl rfl rfl nofun ?_
  refine .fin ?_
  obtain rfl := Gets.out H
  exact rt i2 rfl () 4 [0,1,2,3] 4 (.cons (res_cells rfl Tryz.underlying33 rfl c33 (mem_at 1 rfl) rfl) .nil)
 refine WP.seq <| rg 2 0 <| bn0 rfl rfl rfl run_eq <| as0 rfl rfl <| .fin <| cd H rfl (fun _ H => ?_) (fun _ H => ?_)
 ·
  refine rg 4 8 <| fb rfl trivial rfl fa33_3 <| ld 2 rfl trivial rfl sc9 rfl rfl <| fb rfl trivial rfl fa33_3 <| sx 0 rfl trivial rfl rfl cE sz9 rfl rfl rfl nofun ?_
  refine .fin <| WP.seq <| rg 2 2 <| lds 0 rfl trivial rfl sg33 rfl rfl <| sx 1 rfl trivial rfl rfl cA sz33 rfl rfl rfl nofun ?_
  refine .fin ?_
  obtain rfl := Gets.out H
  exact rt i2 rfl () 4 [0,1,2,3] 4 (.cons (res_cells rfl Tryz.underlying33 rfl c33 (mem_at 1 rfl) rfl) .nil)
 refine WP.seq <| rg 2 0 <| bn0 rfl rfl rfl run_eq <| as0 rfl rfl <| .fin <| cd H rfl (fun _ H => ?_) (fun _ H => ?_)
 ·
  refine rg 4 8 <| fb rfl trivial rfl fa33_5 <| ld 2 rfl trivial rfl sc3 rfl rfl <| fb rfl trivial rfl fa33_5 <| sx 0 rfl trivial rfl rfl cE sz3 rfl rfl rfl nofun ?_
  refine .fin <| WP.seq <| rg 2 2 <| lds 0 rfl trivial rfl sg33 rfl rfl <| sx 1 rfl trivial rfl rfl cA sz33 rfl rfl rfl nofun ?_
  refine .fin ?_
  obtain rfl := Gets.out H
  exact rt i2 rfl () 4 [0,1,2,3] 4 (.cons (res_cells rfl Tryz.underlying33 rfl c33 (mem_at 1 rfl) rfl) .nil)
 refine WP.seq <| rg 2 0 <| bn0 rfl rfl rfl run_eq <| as0 rfl rfl <| .fin <| cd H rfl (fun _ H => ?_) (fun _ H => ?_)
 ·
  refine rg 4 8 <| fb rfl trivial rfl fa33_2 <| ld 2 rfl trivial rfl sc31 rfl rfl <| fb rfl trivial rfl fa33_2 <| sx 0 rfl trivial rfl rfl (cells_one one_sl) sz31 rfl rfl rfl nofun ?_
  refine .fin <| WP.seq <| rg 2 2 <| lds 0 rfl trivial rfl sg33 rfl rfl <| sx 1 rfl trivial rfl rfl cA sz33 rfl rfl rfl nofun ?_
  refine .fin ?_
  obtain rfl := Gets.out H
  exact rt i2 rfl () 4 [0,1,2,3] 4 (.cons (res_cells rfl Tryz.underlying33 rfl c33 (mem_at 1 rfl) rfl) .nil)
 refine WP.seq <| rg 2 0 <| bn0 rfl rfl rfl run_eq <| as0 rfl rfl <| .fin <| cd H rfl (fun _ H => ?_) (fun _ H => ?_)
 ·
  refine WP.seq <| rg 2 2 <| fb rfl trivial rfl fa33_0 <| sx 0 rfl trivial rfl rfl cE sz9 rfl rfl rfl nofun ?_
  refine .fin <| WP.seq <| rg 5 16 <| fb rfl trivial rfl fa33_5 <| ld 2 rfl trivial rfl sc3 rfl rfl <| el H fun t688 h689 H => cl rfl cal29 rfl (concourseref01_EventOf.c h689) <| fb rfl trivial rfl fa33_3 <| sx 0 rfl trivial rfl rfl cE sz9 rfl rfl rfl nofun ?_
  refine .fin <| rg 2 2 <| fb rfl trivial rfl fa33_5 <| sx 0 rfl trivial rfl rfl cE sz3 rfl rfl rfl nofun ?_
  refine .fin <| WP.seq <| rg 2 2 <| lds 0 rfl trivial rfl sg33 rfl rfl <| sx 1 rfl trivial rfl rfl cA sz33 rfl rfl rfl nofun ?_
  refine .fin ?_
  obtain rfl := Gets.out H
  exact rt i2 rfl () 4 [0,1,2,3] 4 (.cons (res_cells rfl Tryz.underlying33 rfl c33 (mem_at 1 rfl) rfl) .nil)
 refine WP.seq <| rg 2 2 <| fb rfl trivial rfl fa33_0 <| sx 0 rfl trivial rfl rfl cE sz9 rfl rfl rfl nofun ?_
 refine .fin <| rg 6 32 <| fb rfl trivial rfl fa33_5 <| ld 2 rfl trivial rfl sc3 rfl rfl <| el H fun t690 h691 H => cl rfl cal29 rfl (concourseref01_EventOf.c h691) <| Dv.lit strK ([t690] : List ByteArray) (css := [[vS t690]]) rfl trivial Tryz.underlying31 Tryz.underlying9 c9 z9 rfl (by decide) (by decide) rfl ⟨(cells_one (one_eq rfl)), trivial⟩ rfl rfl rfl <| fb rfl trivial rfl fa33_2 <| sx 0 rfl trivial rfl rfl (cells_one one_sl) sz31 rfl rfl rfl nofun ?_
 refine .fin <| WP.seq <| rg 2 2 <| lds 0 rfl trivial rfl sg33 rfl rfl <| sx 1 rfl trivial rfl rfl cA sz33 rfl rfl rfl nofun ?_
 refine .fin ?_
 obtain rfl := Gets.out H
 exact rt i2 rfl () 4 [0,1,2,3] 4 (.cons (res_cells rfl Tryz.underlying33 rfl c33 (mem_at 1 rfl) rfl) .nil)
theorem concourseref01_SameTexts.c {k : Nat} {a0 : List ByteArray} {a1 : List ByteArray} {r : Bool} (h : concourseref01_SameTexts.f k a0 a1 = some r) : Pt Tryz.prog 17 [sl strK a0, sl strK a1] (vB r) := by
 unfold concourseref01_SameTexts.f at h
 refine (Tr.body Tryz.func17 (c := _) rfl Tryz.ntmps17 (Nat.le_of_ble_eq_true rfl) fun R0 F => ?_).pt
 replace h := Gets.of h
 have H := h
 clear h
 refine WP.seq <| rg 1 0 <| as0 rfl rfl <| .fin <| WP.seq <| WP.seq <| rg 5 0 <| mv0 rfl rfl <| Dv.lenl rfl trivial rfl Tryz.underlying31 <| mv0 rfl rfl <| Dv.lenl rfl trivial rfl Tryz.underlying31 <| bn0 rfl rfl rfl run_ne <| .fin <| cd H rfl (fun _ H => ?_) (fun _ H => ?_)
 ·
  refine WP.seq <| rg 1 0 <| as0 rfl rfl <| .fin ?_
  obtain rfl := Gets.out H
  exact rt i2 rfl () 0 [] 0 (.cons (res_tmp rfl) .nil)
 refine WP.skip <| WP.seqr H id (fun p697 : Int × Bool => [(0, sl strK a0), (1, sl strK a1), (4, vB false), (5, vI p697.1), (10, vB ((a0.length : Int) != (a1.length : Int))), (14, vB p697.2)]) (fun p697 : Int × Bool => F) (fun p697 H => ?_) (fun H => ?_)
 ·
  refine WP.seq <| rg 1 0 <| as0 rfl rfl <| .fin ?_
  obtain rfl := Gets.out H
  exact rt i2 rfl () 0 [] 0 (.cons (res_tmp rfl) .nil)
 refine WP.seq <| rg 1 0 <| as0 rfl rfl <| .fin <| WP.block <| wg (sg 0 [] 0) fun _ _ => ?_
 refine lp (fun j_ (p704 : Int) => concourseref01_SameTexts.l0 k a0 a1 j_ p704) 0 H (fun p704 => [(0, sl strK a0), (1, sl strK a1), (4, vB false), (5, vI p704), (10, vB ((a0.length : Int) != (a1.length : Int)))]) (fun p704 => F) ?_
 rintro j_ x698 H
 rcases j_ with _ | j703
 ·
  exact (Gets.no H).elim
 replace H : Gets (concourseref01_SameTexts.l0 k a0 a1 (j703 + 1) x698) _ := H
 rw [concourseref01_SameTexts.l0] at H
 refine WP.seq <| WP.seq <| rg 4 0 <| mv0 rfl rfl <| mv0 rfl rfl <| Dv.lenl rfl trivial rfl Tryz.underlying31 <| bn0 rfl rfl rfl run_lt <| .fin <| cd H rfl (fun _ H => ?_) (fun _ H => ?_)
 rotate_left
 ·
  refine WP.exit ?_
  replace H := Gets.out H
  exact jn (x698, decide (x698 < (a0.length : Int))) H
 refine WP.skip <| WP.seq <| WP.block <| WP.seq <| dg Tryz.checked.mixed 9 0 <| mv0 rfl rfl <| mv0 rfl rfl <| gr H fun g700 H => Dv.ixr rfl trivial rfl rfl Tryz.underlying31 Tryz.underlying9 c9 g700.1 g700.2 <| ldR rfl trivial rfl sc9 rfl <| mv0 rfl rfl <| mv0 rfl rfl <| gr H fun g701 H => Dv.ixr rfl trivial rfl rfl Tryz.underlying31 Tryz.underlying9 c9 g701.1 g701.2 <| ldR rfl trivial rfl sc9 rfl <| bn0 rfl rfl rfl run_sne <| .fin <| cd H rfl (fun _ H => ?_) (fun _ H => ?_)
 rotate_left
 ·
  exact WP.skip <| rg 3 0 <| mv0 rfl rfl <| bn0 rfl rfl rfl run_add <| as0 rfl rfl <| .fin <| bk j703 (w64 (x698 + 1)) H
 refine WP.seq <| rg 1 0 <| as0 rfl rfl <| .fin ?_
 replace H := Gets.outr H
 obtain rfl := Gets.out H
 exact rt i2 rfl () 0 [] 0 (.cons (res_tmp rfl) .nil)
theorem concourseref07_Same.c {k : Nat} {a0 : Event} {a1 : Event} {r : Bool} (h : concourseref07_Same.f k a0 a1 = some r) : Pt Tryz.prog 54 [agg (Event.enc a0), agg (Event.enc a1)] (vB r) := by
 unfold concourseref07_Same.f at h
 refine (Tr.body Tryz.func54 (c := _) rfl Tryz.ntmps54 (Nat.le_of_ble_eq_true rfl) fun R0 F => ?_).pt
 replace h := Gets.of h
 have H := h
 clear h
 refine WP.seq <| rg 3 3 <| Dv.box rfl trivial rfl cA nofun fun b705 => Dv.box rfl trivial rfl cA nofun fun b706 => as0 rfl rfl <| .fin <| WP.seq <| rg 6 0 <| fb rfl trivial rfl fa33_2 <| ld 1 rfl trivial rfl sc31 rfl rfl <| fb rfl trivial rfl fa33_2 <| ld 0 rfl trivial rfl sc31 rfl rfl <| el H fun t707 h708 H => cl rfl cal17 rfl (concourseref01_SameTexts.c h708) <| as0 rfl rfl <| .fin <| WP.seq <| rg 37 0 <| mv0 rfl rfl <| mv0 rfl rfl ?_
 cases c709 : t707
 ·
  replace H := Gets.cf H c709
  refine sk rfl rfl <| sk rfl rfl <| sk rfl rfl <| sk rfl rfl <| sk rfl rfl <| pf0 rfl rfl rfl <| mv0 rfl rfl <| sk rfl rfl <| sk rfl rfl <| sk rfl rfl <| sk rfl rfl <| sk rfl rfl <| pf0 rfl rfl rfl <| mv0 rfl rfl <| sk rfl rfl <| sk rfl rfl <| sk rfl rfl <| sk rfl rfl <| sk rfl rfl <| pf0 rfl rfl rfl <| mv0 rfl rfl <| sk rfl rfl <| sk rfl rfl <| sk rfl rfl <| sk rfl rfl <| sk rfl rfl <| pf0 rfl rfl rfl <| mv0 rfl rfl <| sk rfl rfl <| sk rfl rfl <| sk rfl rfl <| sk rfl rfl <| sk rfl rfl <| pf0 rfl rfl rfl <| as0 rfl rfl <| .fin ?_
  obtain rfl := Gets.out H
  exact rt i2 rfl () 2 [0,1] 2 (.cons (res_tmp rfl) .nil)
 replace H := Gets.ct H c709
 refine fb rfl (gg rfl) rfl fa33_0 <| ld 1 rfl (gg rfl) rfl sc9 rfl rfl <| fb rfl (gg rfl) rfl fa33_0 <| ld 0 rfl (gg rfl) rfl sc9 rfl rfl <| bng rfl rfl rfl rfl run_seq <| pt0 rfl rfl rfl <| mv0 rfl rfl ?_
 cases c710 : decide (a0.fID = a1.fID)
 ·
  replace H := Gets.cf H c710
  refine sk rfl rfl <| sk rfl rfl <| sk rfl rfl <| sk rfl rfl <| sk rfl rfl <| pf0 rfl rfl rfl <| mv0 rfl rfl <| sk rfl rfl <| sk rfl rfl <| sk rfl rfl <| sk rfl rfl <| sk rfl rfl <| pf0 rfl rfl rfl <| mv0 rfl rfl <| sk rfl rfl <| sk rfl rfl <| sk rfl rfl <| sk rfl rfl <| sk rfl rfl <| pf0 rfl rfl rfl <| mv0 rfl rfl <| sk rfl rfl <| sk rfl rfl <| sk rfl rfl <| sk rfl rfl <| sk rfl rfl <| pf0 rfl rfl rfl <| as0 rfl rfl <| .fin ?_
  obtain rfl := Gets.out H
  exact rt i2 rfl () 2 [0,1] 2 (.cons (res_tmp rfl) .nil)
 replace H := Gets.ct H c710
 refine fb rfl (gg rfl) rfl fa33_1 <| ld 1 rfl (gg rfl) rfl sc9 rfl rfl <| fb rfl (gg rfl) rfl fa33_1 <| ld 0 rfl (gg rfl) rfl sc9 rfl rfl <| bng rfl rfl rfl rfl run_seq <| pt0 rfl rfl rfl <| mv0 rfl rfl ?_
 cases c711 : decide (a0.fRoom = a1.fRoom)
 ·
  replace H := Gets.cf H c711
  refine sk rfl rfl <| sk rfl rfl <| sk rfl rfl <| sk rfl rfl <| sk rfl rfl <| pf0 rfl rfl rfl <| mv0 rfl rfl <| sk rfl rfl <| sk rfl rfl <| sk rfl rfl <| sk rfl rfl <| sk rfl rfl <| pf0 rfl rfl rfl <| mv0 rfl rfl <| sk rfl rfl <| sk rfl rfl <| sk rfl rfl <| sk rfl rfl <| sk rfl rfl <| pf0 rfl rfl rfl <| as0 rfl rfl <| .fin ?_
  obtain rfl := Gets.out H
  exact rt i2 rfl () 2 [0,1] 2 (.cons (res_tmp rfl) .nil)
 replace H := Gets.ct H c711
 refine fb rfl (gg rfl) rfl fa33_3 <| ld 1 rfl (gg rfl) rfl sc9 rfl rfl <| fb rfl (gg rfl) rfl fa33_3 <| ld 0 rfl (gg rfl) rfl sc9 rfl rfl <| bng rfl rfl rfl rfl run_seq <| pt0 rfl rfl rfl <| mv0 rfl rfl ?_
 cases c712 : decide (a0.fThread = a1.fThread)
 ·
  replace H := Gets.cf H c712
  refine sk rfl rfl <| sk rfl rfl <| sk rfl rfl <| sk rfl rfl <| sk rfl rfl <| pf0 rfl rfl rfl <| mv0 rfl rfl <| sk rfl rfl <| sk rfl rfl <| sk rfl rfl <| sk rfl rfl <| sk rfl rfl <| pf0 rfl rfl rfl <| as0 rfl rfl <| .fin ?_
  obtain rfl := Gets.out H
  exact rt i2 rfl () 2 [0,1] 2 (.cons (res_tmp rfl) .nil)
 replace H := Gets.ct H c712
 refine fb rfl (gg rfl) rfl fa33_4 <| ld 1 rfl (gg rfl) rfl sc9 rfl rfl <| fb rfl (gg rfl) rfl fa33_4 <| ld 0 rfl (gg rfl) rfl sc9 rfl rfl <| bng rfl rfl rfl rfl run_seq <| pt0 rfl rfl rfl <| mv0 rfl rfl ?_
 cases c713 : decide (a0.fUser = a1.fUser)
 ·
  replace H := Gets.cf H c713
  refine sk rfl rfl <| sk rfl rfl <| sk rfl rfl <| sk rfl rfl <| sk rfl rfl <| pf0 rfl rfl rfl <| as0 rfl rfl <| .fin ?_
  obtain rfl := Gets.out H
  exact rt i2 rfl () 2 [0,1] 2 (.cons (res_tmp rfl) .nil)
 replace H := Gets.ct H c713
 refine fb rfl (gg rfl) rfl fa33_5 <| ld 1 rfl (gg rfl) rfl sc3 rfl rfl <| fb rfl (gg rfl) rfl fa33_5 <| ld 0 rfl (gg rfl) rfl sc3 rfl rfl <| bng rfl rfl rfl rfl run_eq <| pt0 rfl rfl rfl <| as0 rfl rfl <| .fin ?_
 obtain rfl := Gets.out H
 exact rt i2 rfl () 2 [0,1] 2 (.cons (res_tmp rfl) .nil)
theorem concourseref07_SameAll.c {k : Nat} {a0 : List Event} {a1 : List Event} {r : Bool} (h : concourseref07_SameAll.f k a0 a1 = some r) : Pt Tryz.prog 14 [sl Event.K a0, sl Event.K a1] (vB r) := by
 unfold concourseref07_SameAll.f at h
 refine (Tr.body Tryz.func14 (c := _) rfl Tryz.ntmps14 (Nat.le_of_ble_eq_true rfl) fun R0 F => ?_).pt
 replace h := Gets.of h
 have H := h
 clear h
 refine WP.seq <| rg 1 0 <| as0 rfl rfl <| .fin <| WP.seq <| WP.seq <| rg 5 0 <| mv0 rfl rfl <| Dv.lenl rfl trivial rfl Tryz.underlying23 <| mv0 rfl rfl <| Dv.lenl rfl trivial rfl Tryz.underlying23 <| bn0 rfl rfl rfl run_ne <| .fin <| cd H rfl (fun _ H => ?_) (fun _ H => ?_)
 ·
  refine WP.seq <| rg 1 0 <| as0 rfl rfl <| .fin ?_
  obtain rfl := Gets.out H
  exact rt i2 rfl () 0 [] 0 (.cons (res_tmp rfl) .nil)
 refine WP.skip <| WP.seqr H id (fun p715 : Int × Bool => [(0, sl Event.K a0), (1, sl Event.K a1), (4, vB false), (5, vI p715.1), (11, vB ((a0.length : Int) != (a1.length : Int))), (15, vB p715.2)]) (fun p715 : Int × Bool => F) (fun p715 H => ?_) (fun H => ?_)
 ·
  refine WP.seq <| rg 1 0 <| as0 rfl rfl <| .fin ?_
  obtain rfl := Gets.out H
  exact rt i2 rfl () 0 [] 0 (.cons (res_tmp rfl) .nil)
 refine WP.seq <| rg 1 0 <| as0 rfl rfl <| .fin <| WP.block <| wg (sg 0 [] 0) fun _ _ => ?_
 refine lp (fun j_ (p724 : Int) => concourseref07_SameAll.l0 k a0 a1 j_ p724) 0 H (fun p724 => [(0, sl Event.K a0), (1, sl Event.K a1), (4, vB false), (5, vI p724), (11, vB ((a0.length : Int) != (a1.length : Int)))]) (fun p724 => F) ?_
 rintro j_ x716 H
 rcases j_ with _ | j723
 ·
  exact (Gets.no H).elim
 replace H : Gets (concourseref07_SameAll.l0 k a0 a1 (j723 + 1) x716) _ := H
 rw [concourseref07_SameAll.l0] at H
 refine WP.seq <| WP.seq <| rg 4 0 <| mv0 rfl rfl <| mv0 rfl rfl <| Dv.lenl rfl trivial rfl Tryz.underlying23 <| bn0 rfl rfl rfl run_lt <| .fin <| cd H rfl (fun _ H => ?_) (fun _ H => ?_)
 rotate_left
 ·
  refine WP.exit ?_
  replace H := Gets.out H
  exact jn (x716, decide (x716 < (a0.length : Int))) H
 refine WP.skip <| WP.seq <| WP.block <| WP.seq <| dg Tryz.checked.mixed 10 0 <| mv0 rfl rfl <| mv0 rfl rfl <| gr H fun g718 H => Dv.ixr rfl trivial rfl rfl Tryz.underlying23 Tryz.underlying33 c33 g718.1 g718.2 <| ldsR rfl trivial rfl sg33 rfl <| mv0 rfl rfl <| mv0 rfl rfl <| gr H fun g719 H => Dv.ixr rfl trivial rfl rfl Tryz.underlying23 Tryz.underlying33 c33 g719.1 g719.2 <| ldsR rfl trivial rfl sg33 rfl <| el H fun t720 h721 H => cl rfl cal54 rfl (concourseref07_Same.c h721) <| as0 rfl rfl <| .fin <| WP.seq <| rg 2 0 <| mv0 rfl rfl <| un0 rfl rfl (run_not _) <| .fin <| cd H rfl (fun _ H => ?_) (fun _ H => ?_)
 rotate_left
 ·
  exact WP.skip <| rg 3 0 <| mv0 rfl rfl <| bn0 rfl rfl rfl run_add <| as0 rfl rfl <| .fin <| bk j723 (w64 (x716 + 1)) H
 refine WP.seq <| rg 1 0 <| as0 rfl rfl <| .fin ?_
 replace H := Gets.outr H
 obtain rfl := Gets.out H
 exact rt i2 rfl () 0 [] 0 (.cons (res_tmp rfl) .nil)
theorem cmp_Or_int.c {k : Nat} {a0 : List Int} {r : Int} (h : cmp_Or_int.f k a0 = some r) : Pt Tryz.prog 130 [sl (intK .i64) a0] (vI r) := by
 unfold cmp_Or_int.f at h
 refine (Tr.body Tryz.func130 (c := _) rfl Tryz.ntmps130 (Nat.le_of_ble_eq_true rfl) fun R0 F => ?_).pt
 replace h := Gets.of h
 have H := h
 clear h
 refine WP.seq <| rg 1 0 <| as0 rfl rfl <| .fin <| WP.seq <| rg 1 0 <| as0 rfl rfl <| .fin <| WP.seqr H id (fun p725 : Int × Bool => [(0, sl (intK .i64) a0), (2, vI 0), (3, vI 0), (6, sl (intK .i64) a0), (7, vI (a0.length : Int)), (8, vI p725.1), (9, vB p725.2)]) (fun p725 : Int × Bool => F) (fun p725 H => ?_) (fun H => ?_)
 ·
  refine WP.seq <| rg 2 0 <| mv0 rfl rfl <| as0 rfl rfl <| .fin ?_
  obtain rfl := Gets.out H
  exact rt i2 rfl () 0 [] 0 (.cons (res_tmp rfl) .nil)
 refine WP.seq <| rg 3 0 <| mv0 rfl rfl <| Dv.lenl rfl trivial rfl Tryz.underlying24 <| mv0 rfl rfl <| .fin <| WP.block <| wg (sg 0 [] 0) fun _ _ => ?_
 refine lp (fun j_ (p731 : Int) => cmp_Or_int.l0 k a0 j_ p731) 0 H (fun p731 => [(0, sl (intK .i64) a0), (2, vI 0), (3, vI 0), (6, sl (intK .i64) a0), (7, vI (a0.length : Int)), (8, vI p731)]) (fun p731 => F) ?_
 rintro j_ x726 H
 rcases j_ with _ | j730
 ·
  exact (Gets.no H).elim
 replace H : Gets (cmp_Or_int.l0 k a0 (j730 + 1) x726) _ := H
 rw [cmp_Or_int.l0] at H
 refine WP.seq <| rg 1 0 <| bn0 rfl rfl rfl run_lt <| .fin <| WP.seq <| cd H rfl (fun _ H => ?_) (fun _ H => ?_)
 rotate_left
 ·
  refine WP.exit ?_
  replace H := Gets.out H
  exact jn (x726, decide (x726 < (a0.length : Int))) H
 refine WP.skip <| WP.seq <| WP.block <| WP.seq <| rg 3 0 <| gr H fun g728 H => Dv.ixr rfl trivial rfl rfl Tryz.underlying24 Tryz.underlying3 c3 g728.1 g728.2 <| ldR rfl trivial rfl sc3 rfl <| as0 rfl rfl <| .fin <| WP.seq <| rg 3 0 <| mv0 rfl rfl <| mv0 rfl rfl <| bn0 rfl rfl rfl run_ne <| .fin <| cd H rfl (fun _ H => ?_) (fun _ H => ?_)
 rotate_left
 ·
  exact WP.skip <| rg 2 0 <| bn0 rfl rfl rfl run_add <| mv0 rfl rfl <| .fin <| bk j730 (w64 (x726 + 1)) H
 refine WP.seq <| rg 2 0 <| mv0 rfl rfl <| as0 rfl rfl <| .fin ?_
 replace H := Gets.outr H
 obtain rfl := Gets.out H
 exact rt i2 rfl () 0 [] 0 (.cons (res_tmp rfl) .nil)
theorem cmp_isNaN_int.c {a0 : Int} {r : Bool} (h : cmp_isNaN_int.f a0 = some r) : Pt Tryz.prog 151 [vI a0] (vB r) := by
 unfold cmp_isNaN_int.f at h
 refine (Tr.body Tryz.func151 (c := _) rfl Tryz.ntmps151 (Nat.le_of_ble_eq_true rfl) fun R0 F => ?_).pt
 replace h := Gets.of h
 have H := h
 clear h
 refine WP.seq <| rg 1 0 <| as0 rfl rfl <| .fin <| WP.seq <| rg 4 0 <| mv0 rfl rfl <| mv0 rfl rfl <| bn0 rfl rfl rfl run_ne <| as0 rfl rfl <| .fin ?_
 obtain rfl := Gets.out H
 exact rt i2 rfl () 0 [] 0 (.cons (res_tmp rfl) .nil)
theorem cmp_Compare_int.c {a0 : Int} {a1 : Int} {r : Int} (h : cmp_Compare_int.f a0 a1 = some r) : Pt Tryz.prog 131 [vI a0, vI a1] (vI r) := by
 unfold cmp_Compare_int.f at h
 refine (Tr.body Tryz.func131 (c := _) rfl Tryz.ntmps131 (Nat.le_of_ble_eq_true rfl) fun R0 F => ?_).pt
 replace h := Gets.of h
 have H := h
 clear h
 refine WP.seq <| rg 1 0 <| as0 rfl rfl <| .fin <| WP.seq <| rg 3 0 <| mv0 rfl rfl <| el H fun t732 h733 H => cl rfl cal151 rfl (cmp_isNaN_int.c h733) <| as0 rfl rfl <| .fin <| WP.seq <| rg 3 0 <| mv0 rfl rfl <| el H fun t734 h735 H => cl rfl cal151 rfl (cmp_isNaN_int.c h735) <| as0 rfl rfl <| .fin <| WP.seq <| WP.seq <| rg 1 0 <| mv0 rfl rfl <| .fin <| cd H rfl (fun _ H => ?_) (fun _ H => ?_)
 ·
  refine WP.seq <| WP.seq <| rg 1 0 <| mv0 rfl rfl <| .fin <| cd H rfl (fun _ H => ?_) (fun _ H => ?_)
  ·
   refine WP.seq <| rg 1 0 <| as0 rfl rfl <| .fin ?_
   obtain rfl := Gets.out H
   exact rt i2 rfl () 0 [] 0 (.cons (res_tmp rfl) .nil)
  refine WP.skip <| WP.seq <| rg 1 0 <| as0 rfl rfl <| .fin ?_
  obtain rfl := Gets.out H
  exact rt i2 rfl () 0 [] 0 (.cons (res_tmp rfl) .nil)
 refine WP.skip <| WP.seq <| WP.seq <| rg 1 0 <| mv0 rfl rfl <| .fin <| cd H rfl (fun _ H => ?_) (fun _ H => ?_)
 ·
  refine WP.seq <| rg 1 0 <| as0 rfl rfl <| .fin ?_
  obtain rfl := Gets.out H
  exact rt i2 rfl () 0 [] 0 (.cons (res_tmp rfl) .nil)
 refine WP.skip <| WP.seq <| WP.seq <| rg 3 0 <| mv0 rfl rfl <| mv0 rfl rfl <| bn0 rfl rfl rfl run_lt <| .fin <| cd H rfl (fun _ H => ?_) (fun _ H => ?_)
 ·
  refine WP.seq <| rg 1 0 <| as0 rfl rfl <| .fin ?_
  obtain rfl := Gets.out H
  exact rt i2 rfl () 0 [] 0 (.cons (res_tmp rfl) .nil)
 refine WP.skip <| WP.seq <| WP.seq <| rg 3 0 <| mv0 rfl rfl <| mv0 rfl rfl <| bn0 rfl rfl rfl run_gt <| .fin <| cd H rfl (fun _ H => ?_) (fun _ H => ?_)
 ·
  refine WP.seq <| rg 1 0 <| as0 rfl rfl <| .fin ?_
  obtain rfl := Gets.out H
  exact rt i2 rfl () 0 [] 0 (.cons (res_tmp rfl) .nil)
 refine WP.skip <| WP.seq <| rg 1 0 <| as0 rfl rfl <| .fin ?_
 obtain rfl := Gets.out H
 exact rt i2 rfl () 0 [] 0 (.cons (res_tmp rfl) .nil)
theorem cmp_isNaN_string.c {a0 : ByteArray} {r : Bool} (h : cmp_isNaN_string.f a0 = some r) : Pt Tryz.prog 138 [vS a0] (vB r) := by
 unfold cmp_isNaN_string.f at h
 refine (Tr.body Tryz.func138 (c := _) rfl Tryz.ntmps138 (Nat.le_of_ble_eq_true rfl) fun R0 F => ?_).pt
 replace h := Gets.of h
 have H := h
 clear h
 refine WP.seq <| rg 1 0 <| as0 rfl rfl <| .fin <| WP.seq <| rg 4 0 <| mv0 rfl rfl <| mv0 rfl rfl <| bn0 rfl rfl rfl run_sne <| as0 rfl rfl <| .fin ?_
 obtain rfl := Gets.out H
 exact rt i2 rfl () 0 [] 0 (.cons (res_tmp rfl) .nil)
theorem cmp_Compare_string.c {a0 : ByteArray} {a1 : ByteArray} {r : Int} (h : cmp_Compare_string.f a0 a1 = some r) : Pt Tryz.prog 132 [vS a0, vS a1] (vI r) := by
 unfold cmp_Compare_string.f at h
 refine (Tr.body Tryz.func132 (c := _) rfl Tryz.ntmps132 (Nat.le_of_ble_eq_true rfl) fun R0 F => ?_).pt
 replace h := Gets.of h
 have H := h
 clear h
 refine WP.seq <| rg 1 0 <| as0 rfl rfl <| .fin <| WP.seq <| rg 3 0 <| mv0 rfl rfl <| el H fun t741 h742 H => cl rfl cal138 rfl (cmp_isNaN_string.c h742) <| as0 rfl rfl <| .fin <| WP.seq <| rg 3 0 <| mv0 rfl rfl <| el H fun t743 h744 H => cl rfl cal138 rfl (cmp_isNaN_string.c h744) <| as0 rfl rfl <| .fin <| WP.seq <| WP.seq <| rg 1 0 <| mv0 rfl rfl <| .fin <| cd H rfl (fun _ H => ?_) (fun _ H => ?_)
 ·
  refine WP.seq <| WP.seq <| rg 1 0 <| mv0 rfl rfl <| .fin <| cd H rfl (fun _ H => ?_) (fun _ H => ?_)
  ·
   refine WP.seq <| rg 1 0 <| as0 rfl rfl <| .fin ?_
   obtain rfl := Gets.out H
   exact rt i2 rfl () 0 [] 0 (.cons (res_tmp rfl) .nil)
  refine WP.skip <| WP.seq <| rg 1 0 <| as0 rfl rfl <| .fin ?_
  obtain rfl := Gets.out H
  exact rt i2 rfl () 0 [] 0 (.cons (res_tmp rfl) .nil)
 refine WP.skip <| WP.seq <| WP.seq <| rg 1 0 <| mv0 rfl rfl <| .fin <| cd H rfl (fun _ H => ?_) (fun _ H => ?_)
 ·
  refine WP.seq <| rg 1 0 <| as0 rfl rfl <| .fin ?_
  obtain rfl := Gets.out H
  exact rt i2 rfl () 0 [] 0 (.cons (res_tmp rfl) .nil)
 refine WP.skip <| WP.seq <| WP.seq <| rg 3 0 <| mv0 rfl rfl <| mv0 rfl rfl <| bn0 rfl rfl rfl run_slt <| .fin <| cd H rfl (fun _ H => ?_) (fun _ H => ?_)
 ·
  refine WP.seq <| rg 1 0 <| as0 rfl rfl <| .fin ?_
  obtain rfl := Gets.out H
  exact rt i2 rfl () 0 [] 0 (.cons (res_tmp rfl) .nil)
 refine WP.skip <| WP.seq <| WP.seq <| rg 3 0 <| mv0 rfl rfl <| mv0 rfl rfl <| bn0 rfl rfl rfl run_sgt <| .fin <| cd H rfl (fun _ H => ?_) (fun _ H => ?_)
 ·
  refine WP.seq <| rg 1 0 <| as0 rfl rfl <| .fin ?_
  obtain rfl := Gets.out H
  exact rt i2 rfl () 0 [] 0 (.cons (res_tmp rfl) .nil)
 refine WP.skip <| WP.seq <| rg 1 0 <| as0 rfl rfl <| .fin ?_
 obtain rfl := Gets.out H
 exact rt i2 rfl () 0 [] 0 (.cons (res_tmp rfl) .nil)
theorem dag_Compare.c {k : Nat} {a0 : Pos} {a1 : Pos} {r : Int} (h : dag_Compare.f k a0 a1 = some r) : Pt Tryz.prog 109 [agg (Pos.enc a0), agg (Pos.enc a1)] (vI r) := by
 unfold dag_Compare.f at h
 refine (Tr.body Tryz.func109 (c := _) rfl Tryz.ntmps109 (Nat.le_of_ble_eq_true rfl) fun R0 F => ?_).pt
 replace h := Gets.of h
 have H := h
 clear h
 refine WP.seq <| rg 3 3 <| Dv.box rfl trivial rfl cA nofun fun b750 => Dv.box rfl trivial rfl cA nofun fun b751 => as0 rfl rfl <| .fin <| WP.seq <| dg Tryz.checked.mixed 13 0 <| fb rfl trivial rfl fa61_0 <| ld 1 rfl trivial rfl sc3 rfl rfl <| fb rfl trivial rfl fa61_0 <| ld 0 rfl trivial rfl sc3 rfl rfl <| el H fun t752 h753 H => cl rfl cal131 rfl (cmp_Compare_int.c h753) <| fb rfl trivial rfl fa61_1 <| ld 1 rfl trivial rfl sc9 rfl rfl <| fb rfl trivial rfl fa61_1 <| ld 0 rfl trivial rfl sc9 rfl rfl <| el H fun t754 h755 H => cl rfl cal132 rfl (cmp_Compare_string.c h755) <| Dv.lit (intK .i64) ([t752, t754] : List Int) (css := [[vI t752], [vI t754]]) rfl trivial Tryz.underlying24 Tryz.underlying3 c3 z3 rfl (by decide) (by decide) rfl ⟨(cells_one (one_eq rfl)), ⟨(cells_one (one_eq rfl)), trivial⟩⟩ rfl rfl rfl <| el H fun t756 h757 H => cl rfl cal130 rfl (cmp_Or_int.c h757) <| as0 rfl rfl <| .fin ?_
 obtain rfl := Gets.out H
 exact rt i2 rfl () 2 [0,1] 2 (.cons (res_tmp rfl) .nil)
theorem posC_f (x y : Pos) : dag_Compare.f 8 x y = some (posC x y) := by
 unfold dag_Compare.f cmp_Compare_int.f cmp_Compare_string.f cmp_isNaN_int.f cmp_isNaN_string.f cmp_Or_int.f posC cmpS
 simp only [Option.bind_some, bne_self_eq_false, decide_true, Bool.not_true, cond_false]
 rcases Int.lt_trichotomy x.fDepth y.fDepth with h | h | h
 ·
  have h2 : ¬ y.fDepth < x.fDepth := by omega
  simp only [h, decide_true, cond_true, Option.bind_some, if_true]
  cases sLt x.fID y.fID <;> cases sLt y.fID x.fID <;> rfl
 rotate_left
 ·
  have h1 : ¬ x.fDepth < y.fDepth := by omega
  simp only [h, h1, decide_true, decide_false, cond_true, cond_false, Option.bind_some, if_true, if_false]
  cases sLt x.fID y.fID <;> cases sLt y.fID x.fID <;> rfl
 have h1 : ¬ x.fDepth < y.fDepth := by omega
 have h2 : ¬ y.fDepth < x.fDepth := by omega
 simp only [h1, h2, decide_false, cond_false, Option.bind_some, if_false]
 cases sLt x.fID y.fID <;> cases sLt y.fID x.fID <;> rfl
theorem posC_lt (x y : Pos) : ltOf posC x y = true ↔ x.fDepth < y.fDepth ∨ (x.fDepth = y.fDepth ∧ sLt x.fID y.fID = true) := by
 unfold ltOf posC
 rw [decide_eq_true_eq]
 by_cases h : x.fDepth < y.fDepth
 ·
  simp [h]
 by_cases h2 : y.fDepth < x.fDepth
 ·
  rw [if_neg h, if_pos h2]; constructor
  ·
   intro k; omega
  rintro (k | ⟨k, _⟩) <;> omega
 rw [if_neg h, if_neg h2, cmpS_lt]; constructor
 ·
  intro k; exact .inr ⟨by omega, k⟩
 rintro (k | ⟨_, k⟩)
 ·
  omega
 exact k
theorem posC_nlt (x y : Pos) : ltOf posC x y = false ↔ y.fDepth < x.fDepth ∨ (x.fDepth = y.fDepth ∧ sLt x.fID y.fID = false) := by
  have h := posC_lt x y
  cases e : ltOf posC x y with
  | true =>
    have h := h.1 e
    refine ⟨fun k => (by cases k), fun k => ?_⟩
    rcases h with h | ⟨h1, h2⟩ <;> rcases k with k | ⟨k1, k2⟩
    · omega
    · omega
    · omega
    · rw [h2] at k2; cases k2
  | false =>
    refine ⟨fun _ => ?_, fun _ => rfl⟩
    rw [e] at h
    have h : ¬ _ := fun k => by have := h.2 k; cases this
    rcases Int.lt_trichotomy x.fDepth y.fDepth with k | k | k
    · exact (h (.inl k)).elim
    · cases e2 : sLt x.fID y.fID with
      | true => exact (h (.inr ⟨k, e2⟩)).elim
      | false => exact .inr ⟨k, rfl⟩
    · exact .inl k
theorem posC_swo : Go.Sort.SWO (ltOf posC) where
  irrefl x := by rw [posC_nlt]; exact .inr ⟨rfl, sLt_irrefl _⟩
  trans x y z h1 h2 := by
    rw [posC_lt] at *
    rcases h1 with h1 | ⟨h1, k1⟩ <;> rcases h2 with h2 | ⟨h2, k2⟩
    · exact .inl (by omega)
    · exact .inl (by omega)
    · exact .inl (by omega)
    · exact .inr ⟨by omega, sLt_trans k1 k2⟩
  ntrans x y z h1 h2 := by
    rw [posC_nlt] at *
    rcases h1 with h1 | ⟨h1, k1⟩ <;> rcases h2 with h2 | ⟨h2, k2⟩
    · exact .inl (by omega)
    · exact .inl (by omega)
    · exact .inl (by omega)
    · exact .inr ⟨by omega, sLt_ntrans k2 k1⟩
theorem posC_tot (x y : Pos) (h1 : ltOf posC x y = false) (h2 : ltOf posC y x = false) : x = y := by
 rw [posC_nlt] at *
 rcases h1 with h1 | ⟨h1, k1⟩ <;> rcases h2 with h2 | ⟨h2, k2⟩
 ·
  omega
 ·
  omega
 ·
  omega
 obtain ⟨a, b⟩ := x; obtain ⟨c, d⟩ := y
 simp only at h1 k1 k2
 rw [h1, sLt_conn k1 k2]
theorem slices_SortFunc_Position.c {a0 : List Pos} {p0_ : OV} {r : List Pos} (h : slices_SortFunc_Position.f a0 = some r) : Tr Tryz.prog 108 [eq p0_.1, eq (.func (.func 109) #[] #[])] [own Pos.K p0_.1 a0] (γ := Unit) (fun _ => True) (fun g => tup []) (fun g => [own Pos.K p0_.1 r]) := by
 unfold slices_SortFunc_Position.f at h
 obtain ⟨h0, h5⟩ := (Gets.of h).grd
 obtain rfl := Gets.out h5
 exact sortf_tr (K := Pos.K) (ev := fun x => [.int .i64 x.fDepth, .string x.fID]) (fun _ => rfl) (by decide) (fun x y => dag_Compare.c (posC_f x y)) (fun blk off cap d w hc hH hb hs => AnyQ.slices_SortFunc_total Tryz.lays6 2 Tryz.isAgg61 Tryz.sizeOf61 _ (fun _ => rfl) (fun x v hv => by simp at hv; rcases hv with rfl | rfl <;> rfl) posC posC_swo 109 #[] blk off cap d w (enters_of Tryz.func109 (by kernel_rfl) rfl) hc hH hb hs posC_tot) (fun q cap w => AnyF.slices_SortFunc_none Tryz.lays6 q cap _ w) (by omega)

theorem dag_Dag_All_1.c {a0 : DNode} {b0_ : Nat} {r : Bool} (h : dag_Dag_All_1.f a0 = some r) : Tr Tryz.prog 90 [eq (.pointer (some ⟨b0_, 0, none⟩))] [blk b0_ 105 [vS a0.fe.fID, vS a0.fe.fRoom, sl strK a0.fe.fParents, vS a0.fe.fThread, vS a0.fe.fUser, vI a0.fe.fDoes, vI a0.fdepth, vB a0.fparent]] (γ := Unit) (fun _ => True) (fun g => vB r) (fun g => [blk b0_ 105 [vS a0.fe.fID, vS a0.fe.fRoom, sl strK a0.fe.fParents, vS a0.fe.fThread, vS a0.fe.fUser, vI a0.fe.fDoes, vI a0.fdepth, vB a0.fparent]]) := by
 unfold dag_Dag_All_1.f at h
 refine Tr.body Tryz.func90 (c := _) rfl Tryz.ntmps90 (Nat.le_of_ble_eq_true rfl) fun R0 F => ?_
 replace h := Gets.of h
 have H := h
 clear h
 refine WP.seq <| rg 1 0 <| as0 rfl rfl <| .fin <| WP.seq <| rg 1 0 <| as0 rfl rfl <| .fin ?_
 obtain rfl := Gets.out H
 exact rt i2 rfl () 1 [0] 0 (.cons (res_tmp rfl) .nil)
theorem dag_Dag_ids_All.c {a0 : DDag} {b0_ : Nat} {v0_0 : OV} {r : List ByteArray} (h : dag_Dag_ids_All.f a0 = some r) : Tr Tryz.prog 89 [eq (.pointer (some ⟨b0_, 0, none⟩)), eq (.func (.func 90) #[] #[])] [blk b0_ 102 [vS a0.froom, eq v0_0.1], mpo Value.string DNode.O v0_0.1 a0.fnodes] (γ := OV) (fun _ => True) (fun g => eq g.1) (fun g => [blk b0_ 102 [vS a0.froom, eq v0_0.1], mpo Value.string DNode.O v0_0.1 a0.fnodes, own strK g.1 r]) := by
  unfold dag_Dag_ids_All.f at h
  obtain ⟨h0, h5⟩ := (Gets.of h).grd
  obtain rfl := Gets.out h5
  clear h h5
  refine Tr.body Tryz.func89 (c := _) rfl Tryz.ntmps89 (Nat.le_of_ble_eq_true rfl) fun R0 F => ?_
  refine WP.seq <| rg 1 0 <| as0 rfl rfl <| .fin <| WP.seq <| rg 1 0 <| as0 rfl rfl <| .fin ?_
  refine WP.seqj (β := List Nat × OV) (fun b => b.1.Perm (List.range a0.fnodes.length)) (fun b => [(5, eq b.2.1), (1, eq (.func (.func 90) #[] #[]))]) (fun b => [own Pos.K b.2.1 (selM a0.fnodes dag_Dag_ids_All.g b.1), mpo Value.string DNode.O v0_0.1 a0.fnodes, blk b0_ 102 [vS a0.froom, eq v0_0.1]] ++ F) (fun b hb => ?_) ?_
  rotate_left
  · refine WP.seq <| rg 5 16 <| mv0 rfl rfl <| Dv.nilp rfl trivial rfl <| fb rfl trivial rfl fa102_1 <| ld 0 rfl trivial rfl sc100 rfl rfl ?_
    refine Dv.gh (l' := fun ps : List OV => [mp Value.string (fun p : OV => eq p.1) v0_0.1 (zipK a0.fnodes ps), thg DNode.O a0.fnodes ps, blk b0_ 102 [vS a0.froom, eq v0_0.1]] ++ F) (gh_of (mpo_opn 1 rfl)) (fun ps hps => ?_)
    refine Dv.rgb (jj := 0) rfl trivial rfl rfl Tryz.underlying100 nofun (fun q => .fin ?_)
    refine WP.gh (l' := fun _ : Unit => [rng Value.string (fun p : OV => eq p.1) v0_0.1 q.1 (zipK a0.fnodes ps) [], thg DNode.O a0.fnodes ps, blk b0_ 102 [vS a0.froom, eq v0_0.1]] ++ F) (gh_of (ok := fun _ => True) fun R w k => ⟨(), trivial, k⟩) (fun _ _ => ?_)
    refine WP.gh (l' := fun _ : Unit => [own Pos.K nilV.1 [], rng Value.string (fun p : OV => eq p.1) v0_0.1 q.1 (zipK a0.fnodes ps) [], thg DNode.O a0.fnodes ps, blk b0_ 102 [vS a0.froom, eq v0_0.1]] ++ F) (gh_of (st_nil Pos.K none)) (fun _ _ => ?_)
    refine WP.block ?_
    refine WP.weak (E' := (fun b : List Nat × OV => [(5, eq b.2.1), (15, eq q.1), (1, eq (.func (.func 90) #[] #[]))]) ([], nilV)) (weak_cons rfl (weak_cons rfl (weak_cons rfl weak_nil))) (WP.loop (β := List Nat × OV) (fun k b => b.1.length + k = a0.fnodes.length) (fun b => [(5, eq b.2.1), (15, eq q.1), (1, eq (.func (.func 90) #[] #[]))]) (fun b => [own Pos.K b.2.1 (selM a0.fnodes dag_Dag_ids_All.g b.1), rng Value.string (fun p : OV => eq p.1) v0_0.1 q.1 (zipK a0.fnodes ps) b.1, thg DNode.O a0.fnodes ps, blk b0_ 102 [vS a0.froom, eq v0_0.1]] ++ F) ?_ (k := a0.fnodes.length) (b := ([], nilV)) (Nat.zero_add _))
    rintro k ⟨is, v⟩ hk
    replace hk : is.length + k = a0.fnodes.length := hk
    refine WP.seq <| rg 2 1 <| Dv.rgn (jj := 1) rfl trivial rfl rfl nofun (fun z hz => ?_)
    rcases z with _ | j
    · have hz : is.Perm (List.range (zipK a0.fnodes ps).length) := hz
      rw [zipK_len hps.1] at hz
      refine ex0 rfl trivial rfl rfl <| .fin <| WP.seq <| WP.cond rfl nofun (fun _ => WP.exit ?_)
      refine Dn.gh (l' := fun _ : Unit => [own Pos.K v.1 (selM a0.fnodes dag_Dag_ids_All.g is), rng Value.string (fun p : OV => eq p.1) v0_0.1 q.1 (zipK a0.fnodes ps) is, thg DNode.O a0.fnodes ps, blk b0_ 102 [vS a0.froom, eq v0_0.1]] ++ F) (gh_of (ok := fun _ => True) fun R w k => ⟨(), trivial, k⟩) (fun _ _ => ?_)
      refine Dn.gh (l' := fun _ : Unit => [mp Value.string (fun p : OV => eq p.1) v0_0.1 (zipK a0.fnodes ps), own Pos.K v.1 (selM a0.fnodes dag_Dag_ids_All.g is), thg DNode.O a0.fnodes ps, blk b0_ 102 [vS a0.froom, eq v0_0.1]] ++ F) (gh_of (st_rge (pm 4 [1,0,2,3]))) (fun _ _ => ?_)
      refine Dn.gh (l' := fun _ : Unit => [mpo Value.string DNode.O v0_0.1 a0.fnodes, own Pos.K v.1 (selM a0.fnodes dag_Dag_ids_All.g is), blk b0_ 102 [vS a0.froom, eq v0_0.1]] ++ F) (gh_of (mpo_shut hps rfl (pm 4 [0,2,1,3]))) (fun _ _ => ?_)
      exact Jn.mk (is, v) hz (weak_cons rfl (weak_cons rfl weak_nil)) (perm_ton 3 [1,0,2] (by kernel_rfl) rfl rfl)
    have hz : j < (zipK a0.fnodes ps).length ∧ j ∉ is ∧ is.length < (zipK a0.fnodes ps).length := hz
    obtain ⟨e, p, he, hp, hep⟩ := zipK_get hps hz.1
    have hlt : is.length < a0.fnodes.length := by rw [← zipK_len hps.1]; exact hz.2.2
    have hsl := Nat.le_trans (selM_len (m := a0.fnodes) (f := dag_Dag_ids_All.g) (is := is)) (Nat.le_of_lt hlt)
    have e1 : nxV Value.string (fun p : OV => eq p.1) (zipK a0.fnodes ps) (some j) = tup [vB true, vS e.1, eq p.1] := by simp only [nxV, hep]
    rw [e1]
    refine ex0 rfl trivial rfl rfl <| .fin <| WP.seq <| WP.cond rfl (fun _ => WP.skip ?_) nofun
    refine WP.gh (l' := fun _ : Unit => [own Pos.K v.1 (selM a0.fnodes dag_Dag_ids_All.g is), rng Value.string (fun p : OV => eq p.1) v0_0.1 q.1 (zipK a0.fnodes ps) (is ++ [j]), thg DNode.O a0.fnodes ps, blk b0_ 102 [vS a0.froom, eq v0_0.1]] ++ F) (gh_of (ok := fun _ => True) fun R w k => ⟨(), trivial, k⟩) (fun _ _ => ?_)
    refine WP.block <| WP.seq <| rg 5 0 <| Dv.rge 1 rfl trivial rfl rfl hep ?_
    refine ex0 rfl trivial rfl rfl <| ex0 rfl trivial rfl rfl <| as0 rfl rfl <| as0 rfl rfl <| .fin ?_
    refine WP.gh (l' := fun _ : Unit => [DNode.O p e.2, thgX DNode.O a0.fnodes ps j, own Pos.K v.1 (selM a0.fnodes dag_Dag_ids_All.g is), rng Value.string (fun p : OV => eq p.1) v0_0.1 q.1 (zipK a0.fnodes ps) (is ++ [j]), blk b0_ 102 [vS a0.froom, eq v0_0.1]] ++ F) (gh_of (thg_foc he hp (pm 4 [2,0,1,3]))) (fun _ _ => ?_)
    refine WP.gh (l' := fun b : Nat => [blk b 105 [vS e.2.fe.fID, vS e.2.fe.fRoom, sl strK e.2.fe.fParents, vS e.2.fe.fThread, vS e.2.fe.fUser, vI e.2.fe.fDoes, vI e.2.fdepth, vB e.2.fparent], thgX DNode.O a0.fnodes ps j, own Pos.K v.1 (selM a0.fnodes dag_Dag_ids_All.g is), rng Value.string (fun p : OV => eq p.1) v0_0.1 q.1 (zipK a0.fnodes ps) (is ++ [j]), blk b0_ 102 [vS a0.froom, eq v0_0.1]] ++ F) (gh_of (DNode.opn 0 rfl)) (fun b hb => ?_)
    refine WP.seq <| rg 3 0 <| mv0 rfl rfl <| mv0 rfl rfl <| Dv.callc (fst := #[]) (B := [blk b 105 [vS e.2.fe.fID, vS e.2.fe.fRoom, sl strK e.2.fe.fParents, vS e.2.fe.fThread, vS e.2.fe.fUser, vI e.2.fe.fDoes, vI e.2.fdepth, vB e.2.fparent]]) (F := [thgX DNode.O a0.fnodes ps j, own Pos.K v.1 (selM a0.fnodes dag_Dag_ids_All.g is), rng Value.string (fun p : OV => eq p.1) v0_0.1 q.1 (zipK a0.fnodes ps) (is ++ [j]), blk b0_ 102 [vS a0.froom, eq v0_0.1]] ++ F) rfl trivial rfl cal90 rfl (Tr.weak (dag_Dag_All_1.c (a0 := e.2) (b0_ := b) (r := true) rfl) (.cons (wk_ptr hb) .nil)) (List.Perm.refl _) <| .fin ?_
    refine WP.cond rfl (fun c1 => ?_) (fun c1 => ?_)
    · have hg : dag_Dag_ids_All.g e = some ⟨e.2.fdepth, e.1⟩ := by unfold dag_Dag_ids_All.g; rw [c1]; rfl
      have e6 := selM_some (f := dag_Dag_ids_All.g) (is := is) he hg
      have hbd : (selM a0.fnodes dag_Dag_ids_All.g is).length + ([⟨e.2.fdepth, e.1⟩] : List Pos).length ≤ 9223372036854775807 ∧ ((selM a0.fnodes dag_Dag_ids_All.g is).length + ([⟨e.2.fdepth, e.1⟩] : List Pos).length) * 24 ≤ 140737488355328 := by rw [List.length_singleton]; omega
      refine rg 10 256 <| mv0 rfl rfl <| mv0 rfl rfl <| Dv.nilpp hb rfl trivial rfl <| fp hb rfl trivial rfl fa105_1 <| ld 0 rfl trivial rfl sc3 rfl rfl <| mv0 rfl rfl <| Dv.bld (css := [[vI e.2.fdepth], [vS e.1]]) rfl trivial Tryz.underlying61 pl61 z61 rfl ⟨(cells_one (one_eq rfl)), ⟨(cells_one (one_eq rfl)), trivial⟩⟩ rfl rfl <| Dv.lit Pos.K ([⟨e.2.fdepth, e.1⟩] : List Pos) (css := [[vI e.2.fdepth, vS e.1]]) rfl trivial Tryz.underlying124 Tryz.underlying61 c61 z61 rfl (by decide) (by decide) rfl ⟨cA, trivial⟩ rfl rfl rfl <| ap Pos.K 2 ([⟨e.2.fdepth, e.1⟩] : List Pos) src_sl Tryz.underlying124 (.inr ⟨_, Tryz.underlying124⟩) inf61 hbd nofun fun v9 => as0 rfl rfl <| .fin ?_
      refine Dn.gh (l' := fun _ : Unit => [DNode.O p e.2, thgX DNode.O a0.fnodes ps j, own Pos.K v9.1 ((selM a0.fnodes dag_Dag_ids_All.g is) ++ ([⟨e.2.fdepth, e.1⟩] : List Pos)), rng Value.string (fun p : OV => eq p.1) v0_0.1 q.1 (zipK a0.fnodes ps) (is ++ [j]), blk b0_ 102 [vS a0.froom, eq v0_0.1]] ++ F) (gh_of (DNode.shut (p := p) (m := e.2) b hb (List.Perm.refl _))) (fun _ _ => ?_)
      refine Dn.gh (l' := fun _ : Unit => [thg DNode.O a0.fnodes ps, own Pos.K v9.1 ((selM a0.fnodes dag_Dag_ids_All.g is) ++ ([⟨e.2.fdepth, e.1⟩] : List Pos)), rng Value.string (fun p : OV => eq p.1) v0_0.1 q.1 (zipK a0.fnodes ps) (is ++ [j]), blk b0_ 102 [vS a0.froom, eq v0_0.1]] ++ F) (gh_of (thg_unf he hp (List.Perm.refl _))) (fun _ _ => ?_)
      rw [e6]
      exact Back.mk (k - 1) (is ++ [j], v9) (by omega) (by show (is ++ [j]).length + (k - 1) = _; rw [List.length_append, List.length_singleton]; omega) (weak_cons rfl (weak_cons rfl (weak_cons rfl weak_nil))) (perm_ton 4 [1,2,0,3] (by kernel_rfl) rfl rfl)
    cases c1
  obtain ⟨is, v5⟩ := b
  replace hb : is.Perm (List.range a0.fnodes.length) := hb
  have hp := selM_perm (f := dag_Dag_ids_All.g) hb
  have hs : slices_SortFunc_Position.f (selM a0.fnodes dag_Dag_ids_All.g is) = some (srtF posC (a0.fnodes.filterMap dag_Dag_ids_All.g)) := by
    unfold slices_SortFunc_Position.f Sp.grd
    rw [if_pos (by rw [hp.length_eq]; exact Nat.le_trans (List.length_filterMap_le _ _) h0), srtF_perm posC_swo posC_tot hp]
  have hS : (srtF posC (a0.fnodes.filterMap dag_Dag_ids_All.g)).length ≤ 1000000 := by unfold srtF; rw [List.length_mergeSort]; exact Nat.le_trans (List.length_filterMap_le _ _) h0
  refine WP.seq <| rg 2 2 <| mv0 rfl rfl <| cx 3 [0,1,2] cal108 (slices_SortFunc_Position.c hs (p0_ := v5)) nofun fun _ _ => .fin ?_
  generalize srtF posC (a0.fnodes.filterMap dag_Dag_ids_All.g) = S at hS
  refine WP.seq <| rg 1 0 <| as0 rfl rfl <| .fin ?_
  refine WP.seqj (β := OV) (fun _ => True) (fun v => [(8, eq v.1)]) (fun v => [own strK v.1 (S.map (·.fID)), own Pos.K v5.1 S, mpo Value.string DNode.O v0_0.1 a0.fnodes, blk b0_ 102 [vS a0.froom, eq v0_0.1]] ++ F) (fun v _ => ?_) ?_
  · refine WP.seq <| rg 2 0 <| mv0 rfl rfl <| as0 rfl rfl <| .fin <| rt i2 rfl v 4 [1,3,2,0] 1 (.cons (res_tmp rfl) .nil)
  refine WP.seq <| rg 3 0 <| mv0 rfl rfl <| Dv.lenw (Kd := Pos.K) (xs := S) (v := v5.1) rfl trivial rfl (mem_at 0 rfl) Tryz.underlying124 <| mv0 rfl rfl <| .fin ?_
  refine WP.gh (l' := fun _ : Unit => [own strK nilV.1 [], own Pos.K v5.1 S, mpo Value.string DNode.O v0_0.1 a0.fnodes, blk b0_ 102 [vS a0.froom, eq v0_0.1]] ++ F) (gh_of (st_nil strK none)) (fun _ _ => ?_)
  refine WP.block ?_
  refine WP.weak (E' := (fun b : Nat × OV => [(8, eq b.2.1), (35, eq v5.1), (36, vI (S.length : Int)), (37, vI (b.1 : Int))]) (0, nilV)) (weak_cons rfl (weak_cons rfl (weak_cons rfl (weak_cons rfl weak_nil)))) (WP.loop (β := Nat × OV) (fun k b => b.1 + k = S.length) (fun b => [(8, eq b.2.1), (35, eq v5.1), (36, vI (S.length : Int)), (37, vI (b.1 : Int))]) (fun b => [own strK b.2.1 ((S.take b.1).map (·.fID)), own Pos.K v5.1 S, mpo Value.string DNode.O v0_0.1 a0.fnodes, blk b0_ 102 [vS a0.froom, eq v0_0.1]] ++ F) ?_ (k := S.length) (b := (0, nilV)) (Nat.zero_add _))
  rintro k ⟨j, v8⟩ hk
  replace hk : j + k = S.length := hk
  refine WP.seq <| rg 1 0 <| bn0 rfl rfl rfl run_lt <| .fin <| WP.seq <| WP.cond rfl (fun c2 => WP.skip ?_) (fun c2 => WP.exit ?_)
  rotate_left
  · have c3 : ¬ ((j : Int) < (S.length : Int)) := of_decide_eq_false c2
    have e3 : S.take j = S := List.take_of_length_le (by omega)
    change ∀ R a w, R0.le R → Agr _ R a _ → St R ([own strK v8.1 ((S.take j).map (·.fID)), own Pos.K v5.1 S, mpo Value.string DNode.O v0_0.1 a0.fnodes, blk b0_ 102 [vS a0.froom, eq v0_0.1]] ++ F) w → _
    rw [e3]
    exact Jn.mk v8 trivial (weak_cons rfl weak_nil) (List.Perm.refl _)
  have c3 : (j : Int) < (S.length : Int) := of_decide_eq_true c2
  have hj : j < S.length := by omega
  refine WP.seq <| WP.block <| WP.seq <| rg 4 12 <| Dv.ixw rfl trivial rfl (mem_at 1 rfl) rfl Tryz.underlying124 Tryz.underlying61 c61 (by omega) c3 <| Dv.ldws (j := j) (f := 0) rfl trivial rfl (mem_at 1 rfl) hj Tryz.underlying61 rfl c61 (Nat.le_of_ble_eq_true rfl) <| al rfl trivial zc61 nofun fun b => sx 0 rfl trivial rfl rfl cA sz61 rfl rfl rfl nofun <| .fin ?_
  have hbd : ((S.take j).map (·.fID)).length + ([(S.getD j default).fID] : List ByteArray).length ≤ 9223372036854775807 ∧ (((S.take j).map (·.fID)).length + ([(S.getD j default).fID] : List ByteArray).length) * 16 ≤ 140737488355328 := by rw [List.length_singleton, List.length_map, List.length_take]; omega
  refine rg 6 16 <| mv0 rfl rfl <| fb rfl trivial rfl fa61_1 <| ld 0 rfl trivial rfl sc9 rfl rfl <| Dv.lit strK ([(S.getD j default).fID] : List ByteArray) (css := [[vS ((S.getD j default).fID)]]) rfl trivial Tryz.underlying31 Tryz.underlying9 c9 z9 rfl (by decide) (by decide) rfl ⟨(cells_one (one_eq rfl)), trivial⟩ rfl rfl rfl <| ap strK 1 ([(S.getD j default).fID] : List ByteArray) src_sl Tryz.underlying31 (.inr ⟨_, Tryz.underlying31⟩) inf9 hbd nofun fun v9 => as0 rfl rfl <| .fin ?_
  refine WP.gh (l' := fun _ : Unit => [own strK v9.1 ((S.take j).map (·.fID) ++ ([(S.getD j default).fID] : List ByteArray)), own Pos.K v5.1 S, mpo Value.string DNode.O v0_0.1 a0.fnodes, blk b0_ 102 [vS a0.froom, eq v0_0.1]] ++ F) (gh_of (st_selgn 5 [0,1,2,3,4] 1 (by kernel_rfl) rfl rfl)) (fun _ _ => ?_)
  have e4 : (S.take j).map (·.fID) ++ ([(S.getD j default).fID] : List ByteArray) = (S.take (j + 1)).map (·.fID) := by rw [List.take_add_one, List.map_append, List.getD_eq_getElem?_getD, List.getElem?_eq_getElem hj]; rfl
  rw [e4]
  refine rg 2 0 <| bn0 rfl rfl rfl (run_addn (a := j) (b := 1) (by omega)) <| mv0 rfl rfl <| .fin ?_
  exact Back.mk (k - 1) (j + 1, v9) (by omega) (by show j + 1 + (k - 1) = S.length; omega) (weak_cons rfl (weak_cons rfl (weak_cons rfl (weak_cons rfl weak_nil)))) (List.Perm.refl _)
theorem dag_Dag_Heads_1.c {a0 : DNode} {b0_ : Nat} {r : Bool} (h : dag_Dag_Heads_1.f a0 = some r) : Tr Tryz.prog 92 [eq (.pointer (some ⟨b0_, 0, none⟩))] [blk b0_ 105 [vS a0.fe.fID, vS a0.fe.fRoom, sl strK a0.fe.fParents, vS a0.fe.fThread, vS a0.fe.fUser, vI a0.fe.fDoes, vI a0.fdepth, vB a0.fparent]] (γ := Unit) (fun _ => True) (fun g => vB r) (fun g => [blk b0_ 105 [vS a0.fe.fID, vS a0.fe.fRoom, sl strK a0.fe.fParents, vS a0.fe.fThread, vS a0.fe.fUser, vI a0.fe.fDoes, vI a0.fdepth, vB a0.fparent]]) := by
 unfold dag_Dag_Heads_1.f at h
 refine Tr.body Tryz.func92 (c := _) rfl Tryz.ntmps92 (Nat.le_of_ble_eq_true rfl) fun R0 F => ?_
 replace h := Gets.of h
 have H := h
 clear h
 refine WP.seq <| rg 1 0 <| as0 rfl rfl <| .fin <| WP.seq <| rg 6 0 <| mv0 rfl rfl <| Dv.nilp rfl trivial rfl <| fb rfl trivial rfl fa105_2 <| ld 0 rfl trivial rfl sc4 rfl rfl <| un0 rfl rfl (run_not _) <| as0 rfl rfl <| .fin ?_
 obtain rfl := Gets.out H
 exact rt i2 rfl () 1 [0] 0 (.cons (res_tmp rfl) .nil)
theorem dag_Dag_ids_Heads.c {a0 : DDag} {b0_ : Nat} {v0_0 : OV} {r : List ByteArray} (h : dag_Dag_ids_Heads.f a0 = some r) : Tr Tryz.prog 89 [eq (.pointer (some ⟨b0_, 0, none⟩)), eq (.func (.func 92) #[] #[])] [blk b0_ 102 [vS a0.froom, eq v0_0.1], mpo Value.string DNode.O v0_0.1 a0.fnodes] (γ := OV) (fun _ => True) (fun g => eq g.1) (fun g => [blk b0_ 102 [vS a0.froom, eq v0_0.1], mpo Value.string DNode.O v0_0.1 a0.fnodes, own strK g.1 r]) := by
  unfold dag_Dag_ids_Heads.f at h
  obtain ⟨h0, h5⟩ := (Gets.of h).grd
  obtain rfl := Gets.out h5
  clear h h5
  refine Tr.body Tryz.func89 (c := _) rfl Tryz.ntmps89 (Nat.le_of_ble_eq_true rfl) fun R0 F => ?_
  refine WP.seq <| rg 1 0 <| as0 rfl rfl <| .fin <| WP.seq <| rg 1 0 <| as0 rfl rfl <| .fin ?_
  refine WP.seqj (β := List Nat × OV) (fun b => b.1.Perm (List.range a0.fnodes.length)) (fun b => [(5, eq b.2.1), (1, eq (.func (.func 92) #[] #[]))]) (fun b => [own Pos.K b.2.1 (selM a0.fnodes dag_Dag_ids_Heads.g b.1), mpo Value.string DNode.O v0_0.1 a0.fnodes, blk b0_ 102 [vS a0.froom, eq v0_0.1]] ++ F) (fun b hb => ?_) ?_
  rotate_left
  · refine WP.seq <| rg 5 16 <| mv0 rfl rfl <| Dv.nilp rfl trivial rfl <| fb rfl trivial rfl fa102_1 <| ld 0 rfl trivial rfl sc100 rfl rfl ?_
    refine Dv.gh (l' := fun ps : List OV => [mp Value.string (fun p : OV => eq p.1) v0_0.1 (zipK a0.fnodes ps), thg DNode.O a0.fnodes ps, blk b0_ 102 [vS a0.froom, eq v0_0.1]] ++ F) (gh_of (mpo_opn 1 rfl)) (fun ps hps => ?_)
    refine Dv.rgb (jj := 0) rfl trivial rfl rfl Tryz.underlying100 nofun (fun q => .fin ?_)
    refine WP.gh (l' := fun _ : Unit => [rng Value.string (fun p : OV => eq p.1) v0_0.1 q.1 (zipK a0.fnodes ps) [], thg DNode.O a0.fnodes ps, blk b0_ 102 [vS a0.froom, eq v0_0.1]] ++ F) (gh_of (ok := fun _ => True) fun R w k => ⟨(), trivial, k⟩) (fun _ _ => ?_)
    refine WP.gh (l' := fun _ : Unit => [own Pos.K nilV.1 [], rng Value.string (fun p : OV => eq p.1) v0_0.1 q.1 (zipK a0.fnodes ps) [], thg DNode.O a0.fnodes ps, blk b0_ 102 [vS a0.froom, eq v0_0.1]] ++ F) (gh_of (st_nil Pos.K none)) (fun _ _ => ?_)
    refine WP.block ?_
    refine WP.weak (E' := (fun b : List Nat × OV => [(5, eq b.2.1), (15, eq q.1), (1, eq (.func (.func 92) #[] #[]))]) ([], nilV)) (weak_cons rfl (weak_cons rfl (weak_cons rfl weak_nil))) (WP.loop (β := List Nat × OV) (fun k b => b.1.length + k = a0.fnodes.length) (fun b => [(5, eq b.2.1), (15, eq q.1), (1, eq (.func (.func 92) #[] #[]))]) (fun b => [own Pos.K b.2.1 (selM a0.fnodes dag_Dag_ids_Heads.g b.1), rng Value.string (fun p : OV => eq p.1) v0_0.1 q.1 (zipK a0.fnodes ps) b.1, thg DNode.O a0.fnodes ps, blk b0_ 102 [vS a0.froom, eq v0_0.1]] ++ F) ?_ (k := a0.fnodes.length) (b := ([], nilV)) (Nat.zero_add _))
    rintro k ⟨is, v⟩ hk
    replace hk : is.length + k = a0.fnodes.length := hk
    refine WP.seq <| rg 2 1 <| Dv.rgn (jj := 1) rfl trivial rfl rfl nofun (fun z hz => ?_)
    rcases z with _ | j
    · have hz : is.Perm (List.range (zipK a0.fnodes ps).length) := hz
      rw [zipK_len hps.1] at hz
      refine ex0 rfl trivial rfl rfl <| .fin <| WP.seq <| WP.cond rfl nofun (fun _ => WP.exit ?_)
      refine Dn.gh (l' := fun _ : Unit => [own Pos.K v.1 (selM a0.fnodes dag_Dag_ids_Heads.g is), rng Value.string (fun p : OV => eq p.1) v0_0.1 q.1 (zipK a0.fnodes ps) is, thg DNode.O a0.fnodes ps, blk b0_ 102 [vS a0.froom, eq v0_0.1]] ++ F) (gh_of (ok := fun _ => True) fun R w k => ⟨(), trivial, k⟩) (fun _ _ => ?_)
      refine Dn.gh (l' := fun _ : Unit => [mp Value.string (fun p : OV => eq p.1) v0_0.1 (zipK a0.fnodes ps), own Pos.K v.1 (selM a0.fnodes dag_Dag_ids_Heads.g is), thg DNode.O a0.fnodes ps, blk b0_ 102 [vS a0.froom, eq v0_0.1]] ++ F) (gh_of (st_rge (pm 4 [1,0,2,3]))) (fun _ _ => ?_)
      refine Dn.gh (l' := fun _ : Unit => [mpo Value.string DNode.O v0_0.1 a0.fnodes, own Pos.K v.1 (selM a0.fnodes dag_Dag_ids_Heads.g is), blk b0_ 102 [vS a0.froom, eq v0_0.1]] ++ F) (gh_of (mpo_shut hps rfl (pm 4 [0,2,1,3]))) (fun _ _ => ?_)
      exact Jn.mk (is, v) hz (weak_cons rfl (weak_cons rfl weak_nil)) (perm_ton 3 [1,0,2] (by kernel_rfl) rfl rfl)
    have hz : j < (zipK a0.fnodes ps).length ∧ j ∉ is ∧ is.length < (zipK a0.fnodes ps).length := hz
    obtain ⟨e, p, he, hp, hep⟩ := zipK_get hps hz.1
    have hlt : is.length < a0.fnodes.length := by rw [← zipK_len hps.1]; exact hz.2.2
    have hsl := Nat.le_trans (selM_len (m := a0.fnodes) (f := dag_Dag_ids_Heads.g) (is := is)) (Nat.le_of_lt hlt)
    have e1 : nxV Value.string (fun p : OV => eq p.1) (zipK a0.fnodes ps) (some j) = tup [vB true, vS e.1, eq p.1] := by simp only [nxV, hep]
    rw [e1]
    refine ex0 rfl trivial rfl rfl <| .fin <| WP.seq <| WP.cond rfl (fun _ => WP.skip ?_) nofun
    refine WP.gh (l' := fun _ : Unit => [own Pos.K v.1 (selM a0.fnodes dag_Dag_ids_Heads.g is), rng Value.string (fun p : OV => eq p.1) v0_0.1 q.1 (zipK a0.fnodes ps) (is ++ [j]), thg DNode.O a0.fnodes ps, blk b0_ 102 [vS a0.froom, eq v0_0.1]] ++ F) (gh_of (ok := fun _ => True) fun R w k => ⟨(), trivial, k⟩) (fun _ _ => ?_)
    refine WP.block <| WP.seq <| rg 5 0 <| Dv.rge 1 rfl trivial rfl rfl hep ?_
    refine ex0 rfl trivial rfl rfl <| ex0 rfl trivial rfl rfl <| as0 rfl rfl <| as0 rfl rfl <| .fin ?_
    refine WP.gh (l' := fun _ : Unit => [DNode.O p e.2, thgX DNode.O a0.fnodes ps j, own Pos.K v.1 (selM a0.fnodes dag_Dag_ids_Heads.g is), rng Value.string (fun p : OV => eq p.1) v0_0.1 q.1 (zipK a0.fnodes ps) (is ++ [j]), blk b0_ 102 [vS a0.froom, eq v0_0.1]] ++ F) (gh_of (thg_foc he hp (pm 4 [2,0,1,3]))) (fun _ _ => ?_)
    refine WP.gh (l' := fun b : Nat => [blk b 105 [vS e.2.fe.fID, vS e.2.fe.fRoom, sl strK e.2.fe.fParents, vS e.2.fe.fThread, vS e.2.fe.fUser, vI e.2.fe.fDoes, vI e.2.fdepth, vB e.2.fparent], thgX DNode.O a0.fnodes ps j, own Pos.K v.1 (selM a0.fnodes dag_Dag_ids_Heads.g is), rng Value.string (fun p : OV => eq p.1) v0_0.1 q.1 (zipK a0.fnodes ps) (is ++ [j]), blk b0_ 102 [vS a0.froom, eq v0_0.1]] ++ F) (gh_of (DNode.opn 0 rfl)) (fun b hb => ?_)
    refine WP.seq <| rg 3 0 <| mv0 rfl rfl <| mv0 rfl rfl <| Dv.callc (fst := #[]) (B := [blk b 105 [vS e.2.fe.fID, vS e.2.fe.fRoom, sl strK e.2.fe.fParents, vS e.2.fe.fThread, vS e.2.fe.fUser, vI e.2.fe.fDoes, vI e.2.fdepth, vB e.2.fparent]]) (F := [thgX DNode.O a0.fnodes ps j, own Pos.K v.1 (selM a0.fnodes dag_Dag_ids_Heads.g is), rng Value.string (fun p : OV => eq p.1) v0_0.1 q.1 (zipK a0.fnodes ps) (is ++ [j]), blk b0_ 102 [vS a0.froom, eq v0_0.1]] ++ F) rfl trivial rfl cal92 rfl (Tr.weak (dag_Dag_Heads_1.c (a0 := e.2) (b0_ := b) (r := (!e.2.fparent)) rfl) (.cons (wk_ptr hb) .nil)) (List.Perm.refl _) <| .fin ?_
    refine WP.cond rfl (fun c1 => ?_) (fun c1 => ?_)
    · have hg : dag_Dag_ids_Heads.g e = some ⟨e.2.fdepth, e.1⟩ := by unfold dag_Dag_ids_Heads.g; rw [c1]; rfl
      have e6 := selM_some (f := dag_Dag_ids_Heads.g) (is := is) he hg
      have hbd : (selM a0.fnodes dag_Dag_ids_Heads.g is).length + ([⟨e.2.fdepth, e.1⟩] : List Pos).length ≤ 9223372036854775807 ∧ ((selM a0.fnodes dag_Dag_ids_Heads.g is).length + ([⟨e.2.fdepth, e.1⟩] : List Pos).length) * 24 ≤ 140737488355328 := by rw [List.length_singleton]; omega
      refine rg 10 256 <| mv0 rfl rfl <| mv0 rfl rfl <| Dv.nilpp hb rfl trivial rfl <| fp hb rfl trivial rfl fa105_1 <| ld 0 rfl trivial rfl sc3 rfl rfl <| mv0 rfl rfl <| Dv.bld (css := [[vI e.2.fdepth], [vS e.1]]) rfl trivial Tryz.underlying61 pl61 z61 rfl ⟨(cells_one (one_eq rfl)), ⟨(cells_one (one_eq rfl)), trivial⟩⟩ rfl rfl <| Dv.lit Pos.K ([⟨e.2.fdepth, e.1⟩] : List Pos) (css := [[vI e.2.fdepth, vS e.1]]) rfl trivial Tryz.underlying124 Tryz.underlying61 c61 z61 rfl (by decide) (by decide) rfl ⟨cA, trivial⟩ rfl rfl rfl <| ap Pos.K 2 ([⟨e.2.fdepth, e.1⟩] : List Pos) src_sl Tryz.underlying124 (.inr ⟨_, Tryz.underlying124⟩) inf61 hbd nofun fun v9 => as0 rfl rfl <| .fin ?_
      refine Dn.gh (l' := fun _ : Unit => [DNode.O p e.2, thgX DNode.O a0.fnodes ps j, own Pos.K v9.1 ((selM a0.fnodes dag_Dag_ids_Heads.g is) ++ ([⟨e.2.fdepth, e.1⟩] : List Pos)), rng Value.string (fun p : OV => eq p.1) v0_0.1 q.1 (zipK a0.fnodes ps) (is ++ [j]), blk b0_ 102 [vS a0.froom, eq v0_0.1]] ++ F) (gh_of (DNode.shut (p := p) (m := e.2) b hb (List.Perm.refl _))) (fun _ _ => ?_)
      refine Dn.gh (l' := fun _ : Unit => [thg DNode.O a0.fnodes ps, own Pos.K v9.1 ((selM a0.fnodes dag_Dag_ids_Heads.g is) ++ ([⟨e.2.fdepth, e.1⟩] : List Pos)), rng Value.string (fun p : OV => eq p.1) v0_0.1 q.1 (zipK a0.fnodes ps) (is ++ [j]), blk b0_ 102 [vS a0.froom, eq v0_0.1]] ++ F) (gh_of (thg_unf he hp (List.Perm.refl _))) (fun _ _ => ?_)
      rw [e6]
      exact Back.mk (k - 1) (is ++ [j], v9) (by omega) (by show (is ++ [j]).length + (k - 1) = _; rw [List.length_append, List.length_singleton]; omega) (weak_cons rfl (weak_cons rfl (weak_cons rfl weak_nil))) (perm_ton 4 [1,2,0,3] (by kernel_rfl) rfl rfl)
    have hg : dag_Dag_ids_Heads.g e = none := by unfold dag_Dag_ids_Heads.g; rw [c1]; rfl
    have e6 := selM_none (f := dag_Dag_ids_Heads.g) (is := is) he hg
    refine WP.skip ?_
    refine Dn.gh (l' := fun _ : Unit => [DNode.O p e.2, thgX DNode.O a0.fnodes ps j, own Pos.K v.1 (selM a0.fnodes dag_Dag_ids_Heads.g is), rng Value.string (fun p : OV => eq p.1) v0_0.1 q.1 (zipK a0.fnodes ps) (is ++ [j]), blk b0_ 102 [vS a0.froom, eq v0_0.1]] ++ F) (gh_of (DNode.shut (p := p) (m := e.2) b hb (List.Perm.refl _))) (fun _ _ => ?_)
    refine Dn.gh (l' := fun _ : Unit => [thg DNode.O a0.fnodes ps, own Pos.K v.1 (selM a0.fnodes dag_Dag_ids_Heads.g is), rng Value.string (fun p : OV => eq p.1) v0_0.1 q.1 (zipK a0.fnodes ps) (is ++ [j]), blk b0_ 102 [vS a0.froom, eq v0_0.1]] ++ F) (gh_of (thg_unf he hp (List.Perm.refl _))) (fun _ _ => ?_)
    rw [e6]
    exact Back.mk (k - 1) (is ++ [j], v) (by omega) (by show (is ++ [j]).length + (k - 1) = _; rw [List.length_append, List.length_singleton]; omega) (weak_cons rfl (weak_cons rfl (weak_cons rfl weak_nil))) (perm_ton 4 [1,2,0,3] (by kernel_rfl) rfl rfl)
  obtain ⟨is, v5⟩ := b
  replace hb : is.Perm (List.range a0.fnodes.length) := hb
  have hp := selM_perm (f := dag_Dag_ids_Heads.g) hb
  have hs : slices_SortFunc_Position.f (selM a0.fnodes dag_Dag_ids_Heads.g is) = some (srtF posC (a0.fnodes.filterMap dag_Dag_ids_Heads.g)) := by
    unfold slices_SortFunc_Position.f Sp.grd
    rw [if_pos (by rw [hp.length_eq]; exact Nat.le_trans (List.length_filterMap_le _ _) h0), srtF_perm posC_swo posC_tot hp]
  have hS : (srtF posC (a0.fnodes.filterMap dag_Dag_ids_Heads.g)).length ≤ 1000000 := by unfold srtF; rw [List.length_mergeSort]; exact Nat.le_trans (List.length_filterMap_le _ _) h0
  refine WP.seq <| rg 2 2 <| mv0 rfl rfl <| cx 3 [0,1,2] cal108 (slices_SortFunc_Position.c hs (p0_ := v5)) nofun fun _ _ => .fin ?_
  generalize srtF posC (a0.fnodes.filterMap dag_Dag_ids_Heads.g) = S at hS
  refine WP.seq <| rg 1 0 <| as0 rfl rfl <| .fin ?_
  refine WP.seqj (β := OV) (fun _ => True) (fun v => [(8, eq v.1)]) (fun v => [own strK v.1 (S.map (·.fID)), own Pos.K v5.1 S, mpo Value.string DNode.O v0_0.1 a0.fnodes, blk b0_ 102 [vS a0.froom, eq v0_0.1]] ++ F) (fun v _ => ?_) ?_
  · refine WP.seq <| rg 2 0 <| mv0 rfl rfl <| as0 rfl rfl <| .fin <| rt i2 rfl v 4 [1,3,2,0] 1 (.cons (res_tmp rfl) .nil)
  refine WP.seq <| rg 3 0 <| mv0 rfl rfl <| Dv.lenw (Kd := Pos.K) (xs := S) (v := v5.1) rfl trivial rfl (mem_at 0 rfl) Tryz.underlying124 <| mv0 rfl rfl <| .fin ?_
  refine WP.gh (l' := fun _ : Unit => [own strK nilV.1 [], own Pos.K v5.1 S, mpo Value.string DNode.O v0_0.1 a0.fnodes, blk b0_ 102 [vS a0.froom, eq v0_0.1]] ++ F) (gh_of (st_nil strK none)) (fun _ _ => ?_)
  refine WP.block ?_
  refine WP.weak (E' := (fun b : Nat × OV => [(8, eq b.2.1), (35, eq v5.1), (36, vI (S.length : Int)), (37, vI (b.1 : Int))]) (0, nilV)) (weak_cons rfl (weak_cons rfl (weak_cons rfl (weak_cons rfl weak_nil)))) (WP.loop (β := Nat × OV) (fun k b => b.1 + k = S.length) (fun b => [(8, eq b.2.1), (35, eq v5.1), (36, vI (S.length : Int)), (37, vI (b.1 : Int))]) (fun b => [own strK b.2.1 ((S.take b.1).map (·.fID)), own Pos.K v5.1 S, mpo Value.string DNode.O v0_0.1 a0.fnodes, blk b0_ 102 [vS a0.froom, eq v0_0.1]] ++ F) ?_ (k := S.length) (b := (0, nilV)) (Nat.zero_add _))
  rintro k ⟨j, v8⟩ hk
  replace hk : j + k = S.length := hk
  refine WP.seq <| rg 1 0 <| bn0 rfl rfl rfl run_lt <| .fin <| WP.seq <| WP.cond rfl (fun c2 => WP.skip ?_) (fun c2 => WP.exit ?_)
  rotate_left
  · have c3 : ¬ ((j : Int) < (S.length : Int)) := of_decide_eq_false c2
    have e3 : S.take j = S := List.take_of_length_le (by omega)
    change ∀ R a w, R0.le R → Agr _ R a _ → St R ([own strK v8.1 ((S.take j).map (·.fID)), own Pos.K v5.1 S, mpo Value.string DNode.O v0_0.1 a0.fnodes, blk b0_ 102 [vS a0.froom, eq v0_0.1]] ++ F) w → _
    rw [e3]
    exact Jn.mk v8 trivial (weak_cons rfl weak_nil) (List.Perm.refl _)
  have c3 : (j : Int) < (S.length : Int) := of_decide_eq_true c2
  have hj : j < S.length := by omega
  refine WP.seq <| WP.block <| WP.seq <| rg 4 12 <| Dv.ixw rfl trivial rfl (mem_at 1 rfl) rfl Tryz.underlying124 Tryz.underlying61 c61 (by omega) c3 <| Dv.ldws (j := j) (f := 0) rfl trivial rfl (mem_at 1 rfl) hj Tryz.underlying61 rfl c61 (Nat.le_of_ble_eq_true rfl) <| al rfl trivial zc61 nofun fun b => sx 0 rfl trivial rfl rfl cA sz61 rfl rfl rfl nofun <| .fin ?_
  have hbd : ((S.take j).map (·.fID)).length + ([(S.getD j default).fID] : List ByteArray).length ≤ 9223372036854775807 ∧ (((S.take j).map (·.fID)).length + ([(S.getD j default).fID] : List ByteArray).length) * 16 ≤ 140737488355328 := by rw [List.length_singleton, List.length_map, List.length_take]; omega
  refine rg 6 16 <| mv0 rfl rfl <| fb rfl trivial rfl fa61_1 <| ld 0 rfl trivial rfl sc9 rfl rfl <| Dv.lit strK ([(S.getD j default).fID] : List ByteArray) (css := [[vS ((S.getD j default).fID)]]) rfl trivial Tryz.underlying31 Tryz.underlying9 c9 z9 rfl (by decide) (by decide) rfl ⟨(cells_one (one_eq rfl)), trivial⟩ rfl rfl rfl <| ap strK 1 ([(S.getD j default).fID] : List ByteArray) src_sl Tryz.underlying31 (.inr ⟨_, Tryz.underlying31⟩) inf9 hbd nofun fun v9 => as0 rfl rfl <| .fin ?_
  refine WP.gh (l' := fun _ : Unit => [own strK v9.1 ((S.take j).map (·.fID) ++ ([(S.getD j default).fID] : List ByteArray)), own Pos.K v5.1 S, mpo Value.string DNode.O v0_0.1 a0.fnodes, blk b0_ 102 [vS a0.froom, eq v0_0.1]] ++ F) (gh_of (st_selgn 5 [0,1,2,3,4] 1 (by kernel_rfl) rfl rfl)) (fun _ _ => ?_)
  have e4 : (S.take j).map (·.fID) ++ ([(S.getD j default).fID] : List ByteArray) = (S.take (j + 1)).map (·.fID) := by rw [List.take_add_one, List.map_append, List.getD_eq_getElem?_getD, List.getElem?_eq_getElem hj]; rfl
  rw [e4]
  refine rg 2 0 <| bn0 rfl rfl rfl (run_addn (a := j) (b := 1) (by omega)) <| mv0 rfl rfl <| .fin ?_
  exact Back.mk (k - 1) (j + 1, v9) (by omega) (by show j + 1 + (k - 1) = S.length; omega) (weak_cons rfl (weak_cons rfl (weak_cons rfl (weak_cons rfl weak_nil)))) (List.Perm.refl _)
theorem dag_Dag_All.c {k : Nat} {a0 : DDag} {v0_0 : OV} {b0_ : Nat} {r : (List Event)} (h : dag_Dag_All.f k a0 = some r) : Tr Tryz.prog 55 [eq (.pointer (some ⟨b0_, 0, none⟩))] [blk b0_ 102 [vS a0.froom, eq v0_0.1], mpo Value.string DNode.O v0_0.1 a0.fnodes] (γ := OV) (fun _ => True) (fun g => eq g.1) (fun g => [blk b0_ 102 [vS a0.froom, eq v0_0.1], mpo Value.string DNode.O v0_0.1 a0.fnodes, own Event.K g.1 r]) := by
 unfold dag_Dag_All.f at h
 refine Tr.body Tryz.func55 (c := _) rfl Tryz.ntmps55 (Nat.le_of_ble_eq_true rfl) fun R0 F => ?_
 replace h := Gets.of h
 have H := h
 clear h
 refine WP.seq <| rg 1 0 <| as0 rfl rfl <| .fin <| WP.seq <| rg 1 0 <| as0 rfl rfl <| .fin <| WP.seqn H (fun q781 : (Int × Int × Bool × (List Event) × (List ByteArray)) × OV × OV => q781.1) (fun q781 : (Int × Int × Bool × (List Event) × (List ByteArray)) × OV × OV => [(0, eq (.pointer (some ⟨b0_, 0, none⟩))), (2, eq (.slice none 0 0)), (3, eq q781.2.1.1), (7, eq q781.2.2.1), (8, vI q781.1.1), (9, vI q781.1.2.1), (10, vB q781.1.2.2.1)]) (fun q781 : (Int × Int × Bool × (List Event) × (List ByteArray)) × OV × OV => [blk b0_ 102 [vS a0.froom, eq v0_0.1], mpo Value.string DNode.O v0_0.1 a0.fnodes, own Event.K q781.2.1.1 q781.1.2.2.2.1, own strK q781.2.2.1 q781.1.2.2.2.2] ++ F) (fun q781 H => ?_) (fun H => ?_)
 ·
  obtain ⟨p758, v759, v760⟩ := q781
  refine WP.seq <| rg 2 0 <| mv0 rfl rfl <| as0 rfl rfl <| .fin ?_
  obtain rfl := Gets.out H
  exact rt i2 rfl v759 4 [3,0,1,2] 1 (.cons (res_tmp rfl) .nil)
 refine WP.seq <| rg 4 2 <| mv0 rfl rfl <| el H fun t761 h762 H => cx 2 [0,1] cal89 (dag_Dag_ids_All.c h762 (b0_ := b0_) (v0_0 := v0_0)) nofun fun g763 _ => ?_
 refine Dv.lenw rfl trivial rfl (mem_at 2 rfl) Tryz.underlying31 <| mv0 rfl rfl <| .fin <| WP.block <| wg (st_nil Event.K none) fun _ _ => ?_
 refine wg (sg 4 [1,2,3,0] 0) fun _ _ => ?_
 refine lp (fun j_ (p780 : Int × (List Event) × OV) => dag_Dag_All.l0 k a0 t761 j_ p780.1 p780.2.1) (0, ([] : List Event), nilV) H (fun p780 => [(0, eq (.pointer (some ⟨b0_, 0, none⟩))), (2, eq (.slice none 0 0)), (3, eq p780.2.2.1), (7, eq g763.1), (8, vI (t761.length : Int)), (9, vI p780.1)]) (fun p780 => [blk b0_ 102 [vS a0.froom, eq v0_0.1], mpo Value.string DNode.O v0_0.1 a0.fnodes, own strK g763.1 t761, own Event.K p780.2.2.1 p780.2.1] ++ F) ?_
 rintro j_ ⟨x764, x765, v766⟩ H
 rcases j_ with _ | j779
 ·
  exact (Gets.no H).elim
 replace H : Gets (dag_Dag_All.l0 k a0 t761 (j779 + 1) x764 x765) _ := H
 rw [dag_Dag_All.l0] at H
 refine WP.seq <| rg 1 0 <| bn0 rfl rfl rfl run_lt <| .fin <| WP.seq <| cd H rfl (fun _ H => ?_) (fun _ H => ?_)
 rotate_left
 ·
  refine WP.exit ?_
  replace H := Gets.out H
  refine ng (sg 4 [0,1,3,2] 0) fun _ _ => ?_
  exact jn (((t761.length : Int), x764, decide (x764 < (t761.length : Int)), x765, t761), v766, g763) H
 refine WP.skip <| WP.seq <| WP.block <| WP.seq <| rg 3 0 <| gr H fun g768 H => ?_
 have h769 : x764.toNat < t761.length := idx_lt g768
 refine Dv.ixw rfl trivial rfl (mem_at 2 rfl) rfl Tryz.underlying31 Tryz.underlying9 c9 g768.1 g768.2 <| Dv.ldw (j := x764.toNat) (f := 0) (p := vS (t761.getD x764.toNat default)) rfl trivial rfl (mem_at 2 rfl) h769 Tryz.underlying9 rfl rfl <| as0 rfl rfl <| .fin <| rg 14 4096 <| mv0 rfl rfl <| mv0 rfl rfl <| Dv.nilp rfl trivial rfl <| fb rfl trivial rfl fa102_1 <| ld 0 rfl trivial rfl sc100 rfl rfl <| mv0 rfl rfl <| vg (mpo_opn 1 rfl) fun z770 h771 => ?_
 refine Dv.mlv nilP rfl trivial rfl (mem_at 0 rfl) rfl Tryz.underlying100 (keyOk_str Tryz.underlying9) z103 (fun _ => rfl) <| gr H fun g772 H => vg (mpo_foc h771 rfl g772 (pm 5 [1,0,2,3,4])) fun _ _ => ?_
 refine Dv.nilA DNode.nn rfl trivial rfl (mem_at 0 rfl) <| vg (DNode.opn 0 rfl) fun g773 h774 => ?_
 refine fp h774 rfl trivial rfl fa105_0 <| lds 0 rfl trivial rfl sg33 rfl rfl <| el H fun t775 h776 H => cl rfl cal88 rfl (dag_own.c h776) <| Dv.lit Event.K ([t775] : List Event) (css := [Event.enc t775]) rfl trivial Tryz.underlying23 Tryz.underlying33 c33 z33 rfl (by decide) (by decide) rfl ⟨(cells_agg (Event.K.one _)), trivial⟩ rfl rfl rfl <| gr H fun g777 H => ap Event.K 5 ([t775] : List Event) src_sl Tryz.underlying23 (.inr ⟨_, Tryz.underlying23⟩) inf33 g777 nofun fun v778 => ?_
 refine as0 rfl rfl <| .fin <| rg 2 0 <| bn0 rfl rfl rfl run_add <| mv0 rfl rfl <| .fin <| ng (DNode.shut (p := ((mget (zipK a0.fnodes z770) (t761.getD x764.toNat default)).getD nilP)) (m := (mget a0.fnodes (t761.getD x764.toNat default)).getD default) g773 h774 (pm 6 [0,1,2,3,4,5])) fun _ _ => ?_
 refine ng (mpo_unf0 h771 rfl g772 (pm 6 [0,1,2,3,4,5])) fun _ _ => ?_
 refine ng (mpo_shut h771 rfl (pm 5 [1,0,2,3,4])) fun _ _ => ?_
 refine ng (sg 4 [1,0,2,3] 0) fun _ _ => ?_
 exact bk j779 (w64 (x764 + 1), x765 ++ ([t775] : List Event), v778) H
theorem view_View_Events.c {k : Nat} {a0 : VView} {a1 : ByteArray} {v0_0 : OV} {b0_ : Nat} {r : (List Event)} (h : view_View_Events.f k a0 a1 = some r) : Tr Tryz.prog 15 [eq (.pointer (some ⟨b0_, 0, none⟩)), vS a1] [blk b0_ 80 [eq v0_0.1], mpo Value.string DDag.O v0_0.1 a0.fdags] (γ := OV) (fun _ => True) (fun g => eq g.1) (fun g => [blk b0_ 80 [eq v0_0.1], mpo Value.string DDag.O v0_0.1 a0.fdags, own Event.K g.1 r]) := by
 unfold view_View_Events.f at h
 refine Tr.body Tryz.func15 (c := _) rfl Tryz.ntmps15 (Nat.le_of_ble_eq_true rfl) fun R0 F => ?_
 replace h := Gets.of h
 have H := h
 clear h
 refine WP.seq <| rg 1 0 <| as0 rfl rfl <| .fin <| WP.seq <| rg 5 12 <| mv0 rfl rfl <| mv0 rfl rfl <| el H fun t782 h783 H => cx 2 [0,1] cal52 (view_View_room.c h783 (b0_ := b0_) (v0_0 := v0_0)) nofun fun v784 _ => ?_
 refine vg (DDag.opn 2 rfl) fun g785 h786 => ?_
 refine el H fun t787 h788 H => cx 4 [0,1,2,3] cal55 (Tr.weak (dag_Dag_All.c h788 (b0_ := g785.1) (v0_0 := g785.2)) (.cons (wk_ptr h786) .nil)) nofun fun g789 _ => ?_
 refine as0 rfl rfl <| .fin <| wg (DDag.shut (p := v784) (m := t782) (g785.1, g785.2) h786 (pm 5 [0,1,2,3,4])) fun _ _ => ?_
 refine wg (mpl_back0 (view_View_room.r h783) (pm 4 [3,0,1,2])) fun _ _ => ?_
 obtain rfl := Gets.out H
 exact rt i2 rfl g789 3 [2,0,1] 0 (.cons (res_tmp rfl) .nil)
theorem concourseref07_Before.c {a0 : Pos} {a1 : Pos} {r : Bool} (h : concourseref07_Before.f a0 a1 = some r) : Pt Tryz.prog 56 [agg (Pos.enc a0), agg (Pos.enc a1)] (vB r) := by
 unfold concourseref07_Before.f at h
 refine (Tr.body Tryz.func56 (c := _) rfl Tryz.ntmps56 (Nat.le_of_ble_eq_true rfl) fun R0 F => ?_).pt
 replace h := Gets.of h
 have H := h
 clear h
 refine WP.seq <| rg 3 3 <| Dv.box rfl trivial rfl cA nofun fun b790 => Dv.box rfl trivial rfl cA nofun fun b791 => as0 rfl rfl <| .fin <| WP.seq <| rg 20 0 <| fb rfl trivial rfl fa61_0 <| ld 1 rfl trivial rfl sc3 rfl rfl <| fb rfl trivial rfl fa61_0 <| ld 0 rfl trivial rfl sc3 rfl rfl <| bn0 rfl rfl rfl run_lt <| mv0 rfl rfl ?_
 cases c792 : decide (a0.fDepth < a1.fDepth)
 rotate_left
 ·
  replace H := Gets.ct H c792
  refine sk rfl rfl <| sk rfl rfl <| sk rfl rfl <| sk rfl rfl <| sk rfl rfl <| sk rfl rfl <| sku rfl rfl <| sku rfl rfl <| sku rfl rfl <| sku rfl rfl <| sku rfl rfl <| sk rfl rfl <| pt0 rfl rfl rfl <| as0 rfl rfl <| .fin ?_
  obtain rfl := Gets.out H
  exact rt i2 rfl () 2 [0,1] 2 (.cons (res_tmp rfl) .nil)
 replace H := Gets.cf H c792
 refine fb rfl (gg rfl) rfl fa61_0 <| ld 1 rfl (gg rfl) rfl sc3 rfl rfl <| fb rfl (gg rfl) rfl fa61_0 <| ld 0 rfl (gg rfl) rfl sc3 rfl rfl <| bng rfl rfl rfl rfl run_eq <| mvg rfl rfl rfl ?_
 cases c793 : (a0.fDepth == a1.fDepth)
 ·
  replace H := Gets.cf H c793
  refine sk rfl rfl <| sk rfl rfl <| sk rfl rfl <| sk rfl rfl <| sk rfl rfl <| pfg rfl rfl rfl rfl <| pf0 rfl rfl rfl <| as0 rfl rfl <| .fin ?_
  obtain rfl := Gets.out H
  exact rt i2 rfl () 2 [0,1] 2 (.cons (res_tmp rfl) .nil)
 replace H := Gets.ct H c793
 refine fb rfl (gg rfl) rfl fa61_1 <| ld 1 rfl (gg rfl) rfl sc9 rfl rfl <| fb rfl (gg rfl) rfl fa61_1 <| ld 0 rfl (gg rfl) rfl sc9 rfl rfl <| bng rfl rfl rfl rfl run_slt <| ptg rfl rfl rfl rfl <| pf0 rfl rfl rfl <| as0 rfl rfl <| .fin ?_
 obtain rfl := Gets.out H
 exact rt i2 rfl () 2 [0,1] 2 (.cons (res_tmp rfl) .nil)
end Go.Proofs.YtigmkniiojpdiaaGreat
