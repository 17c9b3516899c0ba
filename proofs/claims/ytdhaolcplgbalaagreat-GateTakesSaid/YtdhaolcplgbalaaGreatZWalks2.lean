/- The walks. -/
import Derived.Test.YtdhaolcplgbalaaGreatZWalks1
import Derived.Test.YtdhaolcplgbalaaGreatConQ
import Derived.Test.YtdhaolcplgbalaaGreatConA5
import Derived.Eval
set_option linter.all false
set_option maxRecDepth 10000
set_option maxHeartbeats 20000000
namespace Go.Proofs.YtdhaolcplgbalaaGreat
open Go Go.Sp
theorem member_joined.c {k : Nat} {a0 : DDag} {v0_0 : OV} {b0_ : Nat} {r : (List (ByteArray × Int))} (h : member_joined.f k a0 = some r) : Tr Tryz.prog 101 [eq (.pointer (some ⟨b0_, 0, none⟩))] [blk b0_ 110 [vS a0.froom, eq v0_0.1], mpo Value.string DNode.O v0_0.1 a0.fnodes] (γ := OV) (fun _ => True) (fun g => eq g.1) (fun g => [blk b0_ 110 [vS a0.froom, eq v0_0.1], mpo Value.string DNode.O v0_0.1 a0.fnodes, mp Value.string (fun x : Int => vI x) g.1 r]) := by
 unfold member_joined.f at h
 refine Tr.body Tryz.func101 (c := _) rfl Tryz.ntmps101 (Nat.le_of_ble_eq_true rfl) fun R0 F => ?_
 replace h := Gets.of h
 have H := h
 clear h
 refine WP.seq <| rg 1 0 <| as0 rfl rfl <| .fin <| WP.seq <| rg 2 1 <| Dv.mmk Value.string (fun x : Int => vI x) rfl trivial nofun (fun v852 => ?_)
 refine as0 rfl rfl <| .fin <| WP.seqn H (fun q868 : (Int × Int × Bool × (List (ByteArray × Int)) × (List Event)) × OV => q868.1) (fun q868 : (Int × Int × Bool × (List (ByteArray × Int)) × (List Event)) × OV => [(0, eq (.pointer (some ⟨b0_, 0, none⟩))), (2, eq (.map none)), (3, eq v852.1), (8, eq q868.2.1), (9, vI q868.1.1), (10, vI q868.1.2.1), (11, vB q868.1.2.2.1)]) (fun q868 : (Int × Int × Bool × (List (ByteArray × Int)) × (List Event)) × OV => [blk b0_ 110 [vS a0.froom, eq v0_0.1], mpo Value.string DNode.O v0_0.1 a0.fnodes, mp Value.string (fun x : Int => vI x) v852.1 q868.1.2.2.2.1, own Event.K q868.2.1 q868.1.2.2.2.2] ++ F) (fun q868 H => ?_) (fun H => ?_)
 ·
  obtain ⟨p853, v854⟩ := q868
  refine WP.seq <| rg 2 0 <| mv0 rfl rfl <| as0 rfl rfl <| .fin ?_
  obtain rfl := Gets.out H
  exact rt i2 rfl v852 4 [3,0,1,2] 1 (.cons (res_tmp rfl) .nil)
 refine WP.seq <| rg 4 2 <| mv0 rfl rfl <| el H fun t855 h856 H => cx 3 [1,2,0] cal125 (dag_Dag_All.c h856 (b0_ := b0_) (v0_0 := v0_0)) nofun fun g857 _ => ?_
 refine Dv.lenw rfl trivial rfl (mem_at 2 rfl) Tryz.underlying54 <| mv0 rfl rfl <| .fin <| WP.block <| wg (sg 4 [0,1,2,3] 0) fun _ _ => ?_
 refine lp (fun j_ (p867 : Int × (List (ByteArray × Int))) => member_joined.l0 k t855 j_ p867.1 p867.2) (0, ([] : List (ByteArray × Int))) H (fun p867 => [(0, eq (.pointer (some ⟨b0_, 0, none⟩))), (2, eq (.map none)), (3, eq v852.1), (8, eq g857.1), (9, vI (t855.length : Int)), (10, vI p867.1)]) (fun p867 => [blk b0_ 110 [vS a0.froom, eq v0_0.1], mpo Value.string DNode.O v0_0.1 a0.fnodes, own Event.K g857.1 t855, mp Value.string (fun x : Int => vI x) v852.1 p867.2] ++ F) ?_
 rintro j_ ⟨x858, x859⟩ H
 rcases j_ with _ | j866
 ·
  exact (Gets.no H).elim
 replace H : Gets (member_joined.l0 k t855 (j866 + 1) x858 x859) _ := H
 rw [member_joined.l0] at H
 refine WP.seq <| rg 1 0 <| bn0 rfl rfl rfl run_lt <| .fin <| WP.seq <| cd H rfl (fun _ H => ?_) (fun _ H => ?_)
 rotate_left
 ·
  refine WP.exit ?_
  replace H := Gets.out H
  refine ng (sg 4 [0,1,3,2] 0) fun _ _ => ?_
  exact jn (((t855.length : Int), x858, decide (x858 < (t855.length : Int)), x859, t855), g857) H
 refine WP.skip <| WP.seq <| WP.block <| WP.seq <| rg 4 12 <| gr H fun g861 H => ?_
 have h862 : x858.toNat < t855.length := idx_lt g861
 refine Dv.ixw rfl trivial rfl (mem_at 2 rfl) rfl Tryz.underlying54 Tryz.underlying59 c59 g861.1 g861.2 <| Dv.ldws (j := x858.toNat) (f := 0) rfl trivial rfl (mem_at 2 rfl) h862 Tryz.underlying59 rfl c59 (Nat.le_of_ble_eq_true rfl) <| al rfl trivial zc59 nofun fun b863 => sx 0 rfl trivial rfl rfl cA sz59 rfl rfl rfl nofun ?_
 refine .fin <| WP.seq <| rg 2 0 <| fb rfl trivial rfl fa59_5 <| ld 0 rfl trivial rfl sc3 rfl rfl <| .fin <| WP.block <| WP.seq <| rg 2 0 <| bn0 rfl rfl rfl run_eq <| as0 rfl rfl <| .fin <| cd H rfl (fun _ H => ?_) (fun _ H => ?_)
 ·
  refine rg 4 8 <| mv0 rfl rfl <| fb rfl trivial rfl fa59_4 <| ld 0 rfl trivial rfl sc9 rfl rfl <| Dv.mup (jj := 4) 1 rfl trivial rfl rfl rfl rfl Tryz.underlying116 (keyOk_str Tryz.underlying9) nofun <| .fin <| rg 2 0 <| bn0 rfl rfl rfl run_add <| mv0 rfl rfl <| .fin <| ng (sg 5 [0,1,2,3,4] 1) fun _ _ => ?_
  exact bk j866 (w64 (x858 + 1), mput x859 ((t855.getD x858.toNat default).fUser) 1) H
 refine WP.seq <| rg 2 0 <| bn0 rfl rfl rfl run_eq <| as0 rfl rfl <| .fin <| cd H rfl (fun _ H => ?_) (fun _ H => ?_)
 rotate_left
 ·
  refine WP.skip <| rg 2 0 <| bn0 rfl rfl rfl run_add <| mv0 rfl rfl <| .fin <| ng (sg 5 [0,1,2,3,4] 1) fun _ _ => ?_
  exact bk j866 (w64 (x858 + 1), x859) H
 refine rg 4 8 <| mv0 rfl rfl <| fb rfl trivial rfl fa59_4 <| ld 0 rfl trivial rfl sc9 rfl rfl <| Dv.mdl (jj := 4) rfl trivial rfl rfl rfl Tryz.underlying116 (keyOk_str Tryz.underlying9) nofun <| .fin <| rg 2 0 <| bn0 rfl rfl rfl run_add <| mv0 rfl rfl <| .fin <| ng (sg 5 [0,1,2,3,4] 1) fun _ _ => ?_
 exact bk j866 (w64 (x858 + 1), mdel x859 ((t855.getD x858.toNat default).fUser)) H
theorem member_Joined.c {k : Nat} {a0 : DDag} {a1 : ByteArray} {v0_0 : OV} {b0_ : Nat} {r : Bool} (h : member_Joined.f k a0 a1 = some r) : Tr Tryz.prog 73 [eq (.pointer (some ⟨b0_, 0, none⟩)), vS a1] [blk b0_ 110 [vS a0.froom, eq v0_0.1], mpo Value.string DNode.O v0_0.1 a0.fnodes] (γ := Unit) (fun _ => True) (fun g => vB r) (fun g => [blk b0_ 110 [vS a0.froom, eq v0_0.1], mpo Value.string DNode.O v0_0.1 a0.fnodes]) := by
 unfold member_Joined.f at h
 refine Tr.body Tryz.func73 (c := _) rfl Tryz.ntmps73 (Nat.le_of_ble_eq_true rfl) fun R0 F => ?_
 replace h := Gets.of h
 have H := h
 clear h
 refine WP.seq <| rg 1 0 <| as0 rfl rfl <| .fin <| WP.seq <| rg 6 2 <| mv0 rfl rfl <| el H fun t869 h870 H => cx 2 [0,1] cal101 (member_joined.c h870 (b0_ := b0_) (v0_0 := v0_0)) nofun fun g871 _ => ?_
 refine mv0 rfl rfl <| Dv.mlv 0 rfl trivial rfl (mem_at 2 rfl) rfl Tryz.underlying116 (keyOk_str Tryz.underlying9) z3 (fun _ => rfl) <| bn0 rfl rfl rfl run_gt <| as0 rfl rfl <| .fin ?_
 obtain rfl := Gets.out H
 exact rt i2 rfl () 3 [2,0,1] 1 (.cons (res_tmp rfl) .nil)
theorem view_View_Joined.c {k : Nat} {a0 : VView} {a1 : ByteArray} {a2 : ByteArray} {v0_0 : OV} {b0_ : Nat} {r : Bool} (h : view_View_Joined.f k a0 a1 a2 = some r) : Tr Tryz.prog 40 [eq (.pointer (some ⟨b0_, 0, none⟩)), vS a1, vS a2] [blk b0_ 81 [eq v0_0.1], mpo Value.string DDag.O v0_0.1 a0.fdags] (γ := Unit) (fun _ => True) (fun g => vB r) (fun g => [blk b0_ 81 [eq v0_0.1], mpo Value.string DDag.O v0_0.1 a0.fdags]) := by
 unfold view_View_Joined.f at h
 refine Tr.body Tryz.func40 (c := _) rfl Tryz.ntmps40 (Nat.le_of_ble_eq_true rfl) fun R0 F => ?_
 replace h := Gets.of h
 have H := h
 clear h
 refine WP.seq <| rg 1 0 <| as0 rfl rfl <| .fin <| WP.seq <| rg 6 4 <| mv0 rfl rfl <| mv0 rfl rfl <| el H fun t872 h873 H => cx 2 [0,1] cal65 (view_View_room.c h873 (b0_ := b0_) (v0_0 := v0_0)) nofun fun v874 _ => ?_
 refine mv0 rfl rfl <| vg (DDag.opn 2 rfl) fun g875 h876 => ?_
 refine el H fun t877 h878 H => cll 4 [0,1,2,3] cal73 (Tr.weak (member_Joined.c h878 (b0_ := g875.1) (v0_0 := g875.2)) (.cons (wk_ptr h876) (.cons wk_id .nil))) ?_
 refine as0 rfl rfl <| .fin <| wg (DDag.shut (p := v874) (m := t872) (g875.1, g875.2) h876 (pm 4 [0,1,2,3])) fun _ _ => ?_
 refine wg (mpl_back0 (view_View_room.r h873) (pm 3 [2,0,1])) fun _ _ => ?_
 obtain rfl := Gets.out H
 exact rt i2 rfl () 2 [1,0] 0 (.cons (res_tmp rfl) .nil)
theorem view_View_RoomsOf_1.c {k : Nat} {a0 : ByteArray} {cb0_ cd0_ : Nat} {cq0_ cv0_0 : OV} {ch0_ : cq0_.1 = .pointer (some ⟨cd0_, 0, none⟩)} {c0 : VView} {c1 : ByteArray} {r : Bool} (h : view_View_RoomsOf_1.f k a0 c0 c1 = some r) : Tr Tryz.prog 72 [vS a0, eq (.pointer (some ⟨cb0_, 0, none⟩)), rp [vS c1]] [blk cb0_ 25 [eq cq0_.1], blk cd0_ 81 [eq cv0_0.1], mpo Value.string DDag.O cv0_0.1 c0.fdags] (γ := Unit) (fun _ => True) (fun g => vB r) (fun g => [blk cb0_ 25 [eq cq0_.1], blk cd0_ 81 [eq cv0_0.1], mpo Value.string DDag.O cv0_0.1 c0.fdags]) := by
 unfold view_View_RoomsOf_1.f at h
 refine Tr.body Tryz.func72 (c := _) rfl Tryz.ntmps72 (Nat.le_of_ble_eq_true rfl) fun R0 F => ?_
 replace h := Gets.of h
 have H := h
 clear h
 refine WP.seq <| rg 1 0 <| as0 rfl rfl <| .fin <| WP.seq <| rg 6 0 <| ld 0 rfl trivial rfl sc25 rfl rfl <| mv0 rfl rfl <| ldR rfl trivial rfl sc9 rfl <| el H fun t879 h880 H => cll 3 [1,2,0] cal40 (Tr.weak (view_View_Joined.c h880 (b0_ := cd0_) (v0_0 := cv0_0)) (.cons (wk_ptr ch0_) (.cons wk_id (.cons wk_id .nil)))) ?_
 refine un0 rfl rfl (run_not _) <| as0 rfl rfl <| .fin ?_
 obtain rfl := Gets.out H
 exact rt i2 rfl () 3 [0,1,2] 0 (.cons (res_tmp rfl) .nil)
theorem view_View_RoomsOf.c {k : Nat} {a0 : VView} {a1 : ByteArray} {p0_ : OV} {r : (List ByteArray)} (h : view_View_RoomsOf.f k a0 a1 = some r) : Tr Tryz.prog 39 [eq p0_.1, vS a1] [VView.O p0_ a0] (γ := OV) (fun _ => True) (fun g => eq g.1) (fun g => [VView.O p0_ a0, own strK g.1 r]) := by
 unfold view_View_RoomsOf.f at h
 refine Tr.body Tryz.func39 (c := _) rfl Tryz.ntmps39 (Nat.le_of_ble_eq_true rfl) fun R0 F => ?_
 replace h := Gets.of h
 have H := h
 clear h
 refine WP.seq <| rg 3 3 <| Dv.box rfl trivial rfl (cells_one one_ov) nofun fun b881 => Dv.box rfl trivial rfl cE nofun fun b882 => as0 rfl rfl <| .fin <| WP.seq <| rg 5 10 <| ld 1 rfl trivial rfl sc25 rfl rfl <| vg (VView.opn 2 rfl) fun g883 h884 => ?_
 refine el H fun t885 h886 H => cx 4 [0,1,2,3] cal71 (Tr.weak (view_View_Rooms.c h886 (b0_ := g883.1) (v0_0 := g883.2)) (.cons (wk_ptr h884) .nil)) nofun fun g887 _ => ?_
 refine Dv.gh (gh_frzb (E' := [(0, eq p0_.1), (1, vS a1), (2, eq (.pointer (some ⟨b881, 0, none⟩))), (3, rp [vS a1]), (4, eq (.slice none 0 0)), (6, eq g887.1)]) (l' := [blk g883.1 81 [eq g883.2.1], mpo Value.string DDag.O g883.2.1 a0.fdags, own strK g887.1 t885, blk b881 25 [eq p0_.1]] ++ F) 3 rfl (cve_cons rfl cv_id (cve_cons rfl cv_id (cve_cons rfl cv_id (cve_cons rfl cv_eq (cve_cons rfl cv_id (cve_cons rfl cv_id cve_nil)))))) (all2_app (.cons cva_id (.cons cva_id (.cons cva_id (.cons cva_id .nil)))) fun _ => cva_id)) (fun _ _ => ?_)
 refine Dv.mkx (Q := fqQ_string_bool (fun a0_ => view_View_RoomsOf_1.f k a0_ a0 a1)) (L := [blk b881 25 [eq p0_.1], blk g883.1 81 [eq g883.2.1], mpo Value.string DDag.O g883.2.1 a0.fdags]) cal72 (by rintro _ _ ⟨a0_, r_, h_, rfl, rfl⟩; exact view_View_RoomsOf_1.c h_ (cb0_ := b881) (cq0_ := p0_) (cd0_ := g883.1) (ch0_ := h884) (cv0_0 := g883.2)) rfl trivial rfl rfl <| el H fun t888 h889 H => cx 4 [2,3,0,1] cal48 (Tr.unpko (A := [own strK g887.1 t885]) (L := [blk b881 25 [eq p0_.1], blk g883.1 81 [eq g883.2.1], mpo Value.string DDag.O g883.2.1 a0.fdags]) (B := fun g890 : OV => [own strK g890.1 t888]) (slices_DeleteFunc_string_xo.c h889 (p0_ := g887) (X1_ := (pk [blk b881 25 [eq p0_.1], blk g883.1 81 [eq g883.2.1], mpo Value.string DDag.O g883.2.1 a0.fdags])))) nofun fun g890 _ => ?_
 refine as0 rfl rfl <| .fin <| wg (VView.shut (p := p0_) (m := a0) (g883.1, g883.2) h884 (pm 4 [1,2,0,3])) fun _ _ => ?_
 obtain rfl := Gets.out H
 exact rt i2 rfl g890 3 [1,0,2] 1 (.cons (res_tmp rfl) .nil)
theorem gate_Accept.c {k : Nat} {a0 : VView} {a1 : ByteArray} {a2 : Edu} {p0_ : OV} {r : Int} (h : gate_Accept.f k a0 a1 a2 = some r) : Tr Tryz.prog 13 [eq p0_.1, vS a1, agg (Edu.enc a2)] [VView.O p0_ a0] (γ := Unit) (fun _ => True) (fun g => vI r) (fun g => [VView.O p0_ a0]) := by
 unfold gate_Accept.f at h
 refine Tr.body Tryz.func13 (c := _) rfl Tryz.ntmps13 (Nat.le_of_ble_eq_true rfl) fun R0 F => ?_
 replace h := Gets.of h
 have H := h
 clear h
 refine WP.seq <| rg 2 1 <| Dv.box rfl trivial rfl cA nofun fun b891 => as0 rfl rfl <| .fin <| WP.seq <| WP.block <| WP.seq <| rg 4 0 <| lds 0 rfl trivial rfl sg24 rfl rfl <| el H fun t892 h893 H => cl rfl cal37 rfl (edu_May.c h893) <| un0 rfl rfl (run_not _) <| as0 rfl rfl <| .fin <| cd H rfl (fun _ H => ?_) (fun _ H => ?_)
 ·
  refine WP.seq <| rg 1 0 <| as0 rfl rfl <| .fin ?_
  obtain rfl := Gets.out H
  exact rt i2 rfl () 2 [0,1] 1 (.cons (res_tmp rfl) .nil)
 refine WP.seq <| rg 6 0 <| fb rfl trivial rfl fa24_2 <| ld 0 rfl trivial rfl sc9 rfl rfl <| el H fun t895 h896 H => cl rfl cal38 rfl (name_Home.c h896) <| mv0 rfl rfl <| bn0 rfl rfl rfl run_sne <| as0 rfl rfl <| .fin <| cd H rfl (fun _ H => ?_) (fun _ H => ?_)
 ·
  refine WP.seq <| rg 1 0 <| as0 rfl rfl <| .fin ?_
  obtain rfl := Gets.out H
  exact rt i2 rfl () 2 [0,1] 1 (.cons (res_tmp rfl) .nil)
 refine WP.seq <| WP.seq <| rg 12 128 <| fb rfl trivial rfl fa24_0 <| ld 0 rfl trivial rfl sc3 rfl rfl <| bn0 rfl rfl rfl run_eq <| mv0 rfl rfl ?_
 cases c898 : (a2.fKind == 3)
 ·
  replace H := Gets.cf H c898
  refine sk rfl rfl <| sk rfl rfl <| sk rfl rfl <| Dv.skipb rfl ⟨_, _, rfl, rfl, .inl rfl⟩ nofun <| sk rfl rfl <| sk rfl rfl <| pf0 rfl rfl rfl <| as0 rfl rfl <| .fin <| WP.cond rfl nofun (fun _ => ?_)
  refine rg 13 0 <| fb rfl trivial rfl fa24_0 <| ld 0 rfl trivial rfl sc3 rfl rfl <| bn0 rfl rfl rfl run_ne <| mv0 rfl rfl ?_
  cases c912 : (a2.fKind != 3)
  ·
   replace H := Gets.cf H c912
   refine sk rfl rfl <| sk rfl rfl <| sk rfl rfl <| sk rfl rfl <| sk rfl rfl <| sk rfl rfl <| sk rfl rfl <| pf0 rfl rfl rfl <| as0 rfl rfl <| .fin <| WP.cond rfl nofun (fun _ => ?_)
   refine WP.skip <| WP.seq <| rg 1 0 <| as0 rfl rfl <| .fin ?_
   obtain rfl := Gets.out H
   exact rt i2 rfl () 2 [0,1] 1 (.cons (res_tmp rfl) .nil)
  replace H := Gets.ct H c912
  refine mvg rfl rfl rfl <| fb rfl (gg rfl) rfl fa24_1 <| ld 0 rfl (gg rfl) rfl sc9 rfl rfl <| fb rfl (gg rfl) rfl fa24_2 <| ld 0 rfl (gg rfl) rfl sc9 rfl rfl <| vg (VView.opn 1 rfl) fun g913 h914 => ?_
  refine el H fun t915 h916 H => cll 3 [0,1,2] cal40 (Tr.weak (view_View_Joined.c h916 (b0_ := g913.1) (v0_0 := g913.2)) (.cons (wk_ptr h914) (.cons wk_id (.cons wk_id .nil)))) ?_
  refine ung rfl rfl rfl (run_not _) <| pt0 rfl rfl rfl <| as0 rfl rfl <| .fin <| cd H rfl (fun _ H => ?_) (fun _ H => ?_)
  ·
   refine WP.seq <| rg 1 0 <| as0 rfl rfl <| .fin <| wg (VView.shut (p := p0_) (m := a0) (g913.1, g913.2) h914 (pm 3 [0,1,2])) fun _ _ => ?_
   obtain rfl := Gets.out H
   exact rt i2 rfl () 2 [1,0] 1 (.cons (res_tmp rfl) .nil)
  refine WP.skip <| WP.seq <| rg 1 0 <| as0 rfl rfl <| .fin <| wg (VView.shut (p := p0_) (m := a0) (g913.1, g913.2) h914 (pm 3 [0,1,2])) fun _ _ => ?_
  obtain rfl := Gets.out H
  exact rt i2 rfl () 2 [1,0] 1 (.cons (res_tmp rfl) .nil)
 replace H := Gets.ct H c898
 refine mvg rfl rfl rfl <| fb rfl (gg rfl) rfl fa24_2 <| ld 0 rfl (gg rfl) rfl sc9 rfl rfl <| el H fun t899 h900 H => cx 2 [1,0] cal39 (view_View_RoomsOf.c h900 (p0_ := p0_)) nofun fun g901 _ => ?_
 refine Dv.lenw rfl (gg rfl) rfl (mem_at 1 rfl) Tryz.underlying35 <| bng rfl rfl rfl rfl run_eq <| pt0 rfl rfl rfl <| as0 rfl rfl <| .fin <| cd H rfl (fun _ H => ?_) (fun _ H => ?_)
 ·
  refine WP.skip <| cd H rfl (fun _ H => ?_) (fun _ H => ?_)
  ·
   refine WP.seq <| rg 1 0 <| as0 rfl rfl <| .fin ?_
   obtain rfl := Gets.out H
   exact rt i2 rfl () 3 [1,2,0] 2 (.cons (res_tmp rfl) .nil)
  refine WP.skip <| WP.seq <| rg 1 0 <| as0 rfl rfl <| .fin ?_
  obtain rfl := Gets.out H
  exact rt i2 rfl () 3 [1,2,0] 2 (.cons (res_tmp rfl) .nil)
 refine rg 13 0 <| fb rfl trivial rfl fa24_0 <| ld 2 rfl trivial rfl sc3 rfl rfl <| bn0 rfl rfl rfl run_ne <| mv0 rfl rfl ?_
 cases c904 : (a2.fKind != 3)
 ·
  replace H := Gets.cf H c904
  refine sk rfl rfl <| sk rfl rfl <| sk rfl rfl <| sk rfl rfl <| sk rfl rfl <| sk rfl rfl <| sk rfl rfl <| pf0 rfl rfl rfl <| as0 rfl rfl <| .fin <| WP.cond rfl nofun (fun _ => ?_)
  refine WP.skip <| WP.seq <| rg 1 0 <| as0 rfl rfl <| .fin ?_
  obtain rfl := Gets.out H
  exact rt i2 rfl () 3 [1,2,0] 2 (.cons (res_tmp rfl) .nil)
 replace H := Gets.ct H c904
 refine mvg rfl rfl rfl <| fb rfl (gg rfl) rfl fa24_1 <| ld 2 rfl (gg rfl) rfl sc9 rfl rfl <| fb rfl (gg rfl) rfl fa24_2 <| ld 2 rfl (gg rfl) rfl sc9 rfl rfl <| vg (VView.opn 0 rfl) fun g905 h906 => ?_
 refine el H fun t907 h908 H => cll 4 [0,1,2,3] cal40 (Tr.weak (view_View_Joined.c h908 (b0_ := g905.1) (v0_0 := g905.2)) (.cons (wk_ptr h906) (.cons wk_id (.cons wk_id .nil)))) ?_
 refine ung rfl rfl rfl (run_not _) <| pt0 rfl rfl rfl <| as0 rfl rfl <| .fin <| cd H rfl (fun _ H => ?_) (fun _ H => ?_)
 ·
  refine WP.seq <| rg 1 0 <| as0 rfl rfl <| .fin <| wg (VView.shut (p := p0_) (m := a0) (g905.1, g905.2) h906 (pm 4 [0,1,2,3])) fun _ _ => ?_
  obtain rfl := Gets.out H
  exact rt i2 rfl () 3 [1,2,0] 2 (.cons (res_tmp rfl) .nil)
 refine WP.skip <| WP.seq <| rg 1 0 <| as0 rfl rfl <| .fin <| wg (VView.shut (p := p0_) (m := a0) (g905.1, g905.2) h906 (pm 4 [0,1,2,3])) fun _ _ => ?_
 obtain rfl := Gets.out H
 exact rt i2 rfl () 3 [1,2,0] 2 (.cons (res_tmp rfl) .nil)
theorem slices_Index_string.c {k : Nat} {a0 : List ByteArray} {a1 : ByteArray} {r : Int} (h : slices_Index_string.f k a0 a1 = some r) : Pt Tryz.prog 74 [sl strK a0, vS a1] (vI r) := by
 unfold slices_Index_string.f at h
 refine (Tr.body Tryz.func74 (c := _) rfl Tryz.ntmps74 (Nat.le_of_ble_eq_true rfl) fun R0 F => ?_).pt
 replace h := Gets.of h
 have H := h
 clear h
 refine WP.seq <| rg 1 0 <| as0 rfl rfl <| .fin <| WP.seqr H id (fun p919 : Int × Bool => [(0, sl strK a0), (1, vS a1), (4, vI 0), (7, vI (a0.length : Int)), (8, vI p919.1), (9, vB p919.2)]) (fun p919 : Int × Bool => F) (fun p919 H => ?_) (fun H => ?_)
 ·
  refine WP.seq <| rg 1 0 <| as0 rfl rfl <| .fin ?_
  obtain rfl := Gets.out H
  exact rt i2 rfl () 0 [] 0 (.cons (res_tmp rfl) .nil)
 refine WP.seq <| rg 3 0 <| mv0 rfl rfl <| Dv.lenl rfl trivial rfl Tryz.underlying35 <| mv0 rfl rfl <| .fin <| WP.block <| wg (sg 0 [] 0) fun _ _ => ?_
 refine lp (fun j_ (p925 : Int) => slices_Index_string.l0 k a0 a1 j_ p925) 0 H (fun p925 => [(0, sl strK a0), (1, vS a1), (4, vI 0), (7, vI (a0.length : Int)), (8, vI p925)]) (fun p925 => F) ?_
 rintro j_ x920 H
 rcases j_ with _ | j924
 ·
  exact (Gets.no H).elim
 replace H : Gets (slices_Index_string.l0 k a0 a1 (j924 + 1) x920) _ := H
 rw [slices_Index_string.l0] at H
 refine WP.seq <| rg 1 0 <| bn0 rfl rfl rfl run_lt <| .fin <| WP.seq <| cd H rfl (fun _ H => ?_) (fun _ H => ?_)
 rotate_left
 ·
  refine WP.exit ?_
  replace H := Gets.out H
  exact jn (x920, decide (x920 < (a0.length : Int))) H
 refine WP.skip <| WP.seq <| WP.block <| WP.seq <| rg 2 0 <| mv0 rfl rfl <| as0 rfl rfl <| .fin <| WP.seq <| rg 6 0 <| mv0 rfl rfl <| mv0 rfl rfl <| mv0 rfl rfl <| gr H fun g922 H => Dv.ixr rfl trivial rfl rfl Tryz.underlying35 Tryz.underlying9 c9 g922.1 g922.2 <| ldR rfl trivial rfl sc9 rfl <| bn0 rfl rfl rfl run_seq <| .fin <| cd H rfl (fun _ H => ?_) (fun _ H => ?_)
 rotate_left
 ·
  exact WP.skip <| rg 2 0 <| bn0 rfl rfl rfl run_add <| mv0 rfl rfl <| .fin <| bk j924 (w64 (x920 + 1)) H
 refine WP.seq <| rg 2 0 <| mv0 rfl rfl <| as0 rfl rfl <| .fin ?_
 replace H := Gets.outr H
 obtain rfl := Gets.out H
 exact rt i2 rfl () 0 [] 0 (.cons (res_tmp rfl) .nil)
theorem slices_Contains_string.c {k : Nat} {a0 : List ByteArray} {a1 : ByteArray} {r : Bool} (h : slices_Contains_string.f k a0 a1 = some r) : Pt Tryz.prog 43 [sl strK a0, vS a1] (vB r) := by
 unfold slices_Contains_string.f at h
 refine (Tr.body Tryz.func43 (c := _) rfl Tryz.ntmps43 (Nat.le_of_ble_eq_true rfl) fun R0 F => ?_).pt
 replace h := Gets.of h
 have H := h
 clear h
 refine WP.seq <| rg 1 0 <| as0 rfl rfl <| .fin <| WP.seq <| rg 5 0 <| mv0 rfl rfl <| mv0 rfl rfl <| el H fun t926 h927 H => cl rfl cal74 rfl (slices_Index_string.c h927) <| bn0 rfl rfl rfl run_ge <| as0 rfl rfl <| .fin ?_
 obtain rfl := Gets.out H
 exact rt i2 rfl () 0 [] 0 (.cons (res_tmp rfl) .nil)
theorem slices_Compact_string.c {a0 : List ByteArray} {p0_ : OV} {r : List ByteArray} (h : slices_Compact_string.f a0 = some r) : Tr Tryz.prog 102 [eq p0_.1] [own strK p0_.1 a0] (γ := OV) (fun _ => True) (fun g => eq g.1) (fun g => [own strK g.1 r]) := by
 unfold slices_Compact_string.f at h
 obtain ⟨h0, h5⟩ := (Gets.of h).grd
 obtain rfl := Gets.out h5
 exact compact_tr (fun blk off cap ss w => Go.Proofs.Any.slices_Compact_string Tryz.lays194 blk off cap ss w) (fun q cap w => Go.Proofs.Any.slices_Compact_string_empty Tryz.lays194 q cap w) h0

theorem member_Homes.c {k : Nat} {a0 : List ByteArray} {r : (List ByteArray)} (h : member_Homes.f k a0 = some r) : Tr Tryz.prog 126 [sl strK a0] [] (γ := OV) (fun _ => True) (fun g => eq g.1) (fun g => [own strK g.1 r]) := by
 unfold member_Homes.f at h
 refine Tr.body Tryz.func126 (c := _) rfl Tryz.ntmps126 (Nat.le_of_ble_eq_true rfl) fun R0 F => ?_
 replace h := Gets.of h
 have H := h
 clear h
 refine WP.seq <| rg 1 0 <| as0 rfl rfl <| .fin <| WP.seq <| rg 1 0 <| as0 rfl rfl <| .fin <| WP.seqn H (fun q947 : (Int × Bool × (List ByteArray)) × OV => q947.1) (fun q947 : (Int × Bool × (List ByteArray)) × OV => [(0, sl strK a0), (2, eq (.slice none 0 0)), (3, eq q947.2.1), (7, sl strK a0), (8, vI (a0.length : Int)), (9, vI q947.1.1), (10, vB q947.1.2.1)]) (fun q947 : (Int × Bool × (List ByteArray)) × OV => [own strK q947.2.1 q947.1.2.2] ++ F) (fun q947 H => ?_) (fun H => ?_)
 ·
  obtain ⟨p928, v929⟩ := q947
  refine WP.seq <| rg 2 2 <| mv0 rfl rfl <| el H fun t930 h931 H => cx 1 [0] cal100 (slices_Sort_string.c h931 (p0_ := v929)) nofun fun _ _ => ?_
  refine .fin <| WP.seq <| rg 3 2 <| mv0 rfl rfl <| el H fun t932 h933 H => cx 1 [0] cal102 (slices_Compact_string.c h933 (p0_ := v929)) nofun fun g934 _ => ?_
  refine as0 rfl rfl <| .fin ?_
  obtain rfl := Gets.out H
  exact rt i2 rfl g934 1 [0] 0 (.cons (res_tmp rfl) .nil)
 refine WP.seq <| rg 3 0 <| mv0 rfl rfl <| Dv.lenl rfl trivial rfl Tryz.underlying35 <| mv0 rfl rfl <| .fin <| WP.block <| wg (st_nil strK none) fun _ _ => ?_
 refine wg (sg 1 [0] 0) fun _ _ => ?_
 refine lp (fun j_ (p946 : Int × (List ByteArray) × OV) => member_Homes.l0 k a0 j_ p946.1 p946.2.1) (0, ([] : List ByteArray), nilV) H (fun p946 => [(0, sl strK a0), (2, eq (.slice none 0 0)), (3, eq p946.2.2.1), (7, sl strK a0), (8, vI (a0.length : Int)), (9, vI p946.1)]) (fun p946 => [own strK p946.2.2.1 p946.2.1] ++ F) ?_
 rintro j_ ⟨x935, x936, v937⟩ H
 rcases j_ with _ | j945
 ·
  exact (Gets.no H).elim
 replace H : Gets (member_Homes.l0 k a0 (j945 + 1) x935 x936) _ := H
 rw [member_Homes.l0] at H
 refine WP.seq <| rg 1 0 <| bn0 rfl rfl rfl run_lt <| .fin <| WP.seq <| cd H rfl (fun _ H => ?_) (fun _ H => ?_)
 rotate_left
 ·
  refine WP.exit ?_
  replace H := Gets.out H
  exact jn ((x935, decide (x935 < (a0.length : Int)), x936), v937) H
 refine WP.skip <| WP.seq <| WP.block <| WP.seq <| rg 3 0 <| gr H fun g939 H => Dv.ixr rfl trivial rfl rfl Tryz.underlying35 Tryz.underlying9 c9 g939.1 g939.2 <| ldR rfl trivial rfl sc9 rfl <| as0 rfl rfl <| .fin <| WP.seq <| rg 3 0 <| mv0 rfl rfl <| el H fun t940 h941 H => cl rfl cal38 rfl (name_Home.c h941) <| as0 rfl rfl <| .fin <| WP.seq <| rg 2 0 <| mv0 rfl rfl <| bn0 rfl rfl rfl run_sne <| .fin <| cd H rfl (fun _ H => ?_) (fun _ H => ?_)
 rotate_left
 ·
  exact WP.skip <| rg 2 0 <| bn0 rfl rfl rfl run_add <| mv0 rfl rfl <| .fin <| bk j945 (w64 (x935 + 1), x936, v937) H
 refine rg 5 8 <| mv0 rfl rfl <| mv0 rfl rfl <| Dv.lit strK ([t940] : List ByteArray) (css := [[vS t940]]) rfl trivial Tryz.underlying35 Tryz.underlying9 c9 z9 rfl (by decide) (by decide) rfl ⟨(cells_one (one_eq rfl)), trivial⟩ rfl rfl rfl <| gr H fun g943 H => ap strK 0 ([t940] : List ByteArray) src_sl Tryz.underlying35 (.inr ⟨_, Tryz.underlying35⟩) inf9 g943 nofun fun v944 => ?_
 exact as0 rfl rfl <| .fin <| rg 2 0 <| bn0 rfl rfl rfl run_add <| mv0 rfl rfl <| .fin <| bk j945 (w64 (x935 + 1), x936 ++ ([t940] : List ByteArray), v944) H
theorem member_Users.c {k : Nat} {a0 : DDag} {b0_ : Nat} {v0_0 : OV} {r : List ByteArray} (h : member_Users.f k a0 = some r) : Tr Tryz.prog 127 [eq (.pointer (some ⟨b0_, 0, none⟩))] [blk b0_ 110 [vS a0.froom, eq v0_0.1], mpo Value.string DNode.O v0_0.1 a0.fnodes] (γ := OV) (fun _ => True) (fun g => eq g.1) (fun g => [blk b0_ 110 [vS a0.froom, eq v0_0.1], mpo Value.string DNode.O v0_0.1 a0.fnodes, own strK g.1 r]) := by
  unfold member_Users.f at h
  obtain ⟨m, hm, h1⟩ := (Gets.of h).call
  obtain ⟨h0, h5⟩ := h1.grd
  obtain rfl := Gets.out h5
  clear h h5
  refine Tr.body Tryz.func127 (c := _) rfl Tryz.ntmps127 (Nat.le_of_ble_eq_true rfl) fun R0 F => ?_
  refine WP.seq <| rg 1 0 <| as0 rfl rfl <| .fin <| WP.seq <| rg 1 0 <| as0 rfl rfl <| .fin ?_
  refine WP.seqj (β := List Nat × OV) (fun b => b.1.Perm (List.range m.length)) (fun b => [(3, eq b.2.1)]) (fun b => [own strK b.2.1 (selM m (fun e => some e.1) b.1), blk b0_ 110 [vS a0.froom, eq v0_0.1], mpo Value.string DNode.O v0_0.1 a0.fnodes] ++ F) (fun b hb => ?_) ?_
  rotate_left
  · refine WP.seq <| rg 3 6 <| mv0 rfl rfl <| cx 2 [0,1] cal101 (member_joined.c hm (b0_ := b0_) (v0_0 := v0_0)) nofun fun gm _ => ?_
    refine Dv.gh (l' := fun _ : Unit => [blk b0_ 110 [vS a0.froom, eq v0_0.1], mpo Value.string DNode.O v0_0.1 a0.fnodes, mp Value.string (fun x : Int => vI x) gm.1 m] ++ F) (gh_of (ok := fun _ => True) fun R w k => ⟨(), trivial, k⟩) (fun _ _ => ?_)
    refine Dv.gh (l' := fun _ : Unit => [mp Value.string (fun x : Int => vI x) gm.1 m, blk b0_ 110 [vS a0.froom, eq v0_0.1], mpo Value.string DNode.O v0_0.1 a0.fnodes] ++ F) (gh_of (st_selgn 3 [2,0,1] 0 (by kernel_rfl) rfl rfl)) (fun _ _ => ?_)
    refine Dv.rgb (jj := 0) rfl trivial rfl rfl Tryz.underlying116 nofun (fun q => .fin ?_)
    refine WP.gh (l' := fun _ : Unit => [rng Value.string (fun x : Int => vI x) gm.1 q.1 m [], blk b0_ 110 [vS a0.froom, eq v0_0.1], mpo Value.string DNode.O v0_0.1 a0.fnodes] ++ F) (gh_of (ok := fun _ => True) fun R w k => ⟨(), trivial, k⟩) (fun _ _ => ?_)
    refine WP.gh (l' := fun _ : Unit => [own strK nilV.1 [], rng Value.string (fun x : Int => vI x) gm.1 q.1 m [], blk b0_ 110 [vS a0.froom, eq v0_0.1], mpo Value.string DNode.O v0_0.1 a0.fnodes] ++ F) (gh_of (st_nil strK none)) (fun _ _ => ?_)
    refine WP.block ?_
    refine WP.weak (E' := (fun b : List Nat × OV => [(3, eq b.2.1), (7, eq q.1)]) ([], nilV)) (weak_cons rfl (weak_cons rfl weak_nil)) (WP.loop (β := List Nat × OV) (fun k b => b.1.length + k = m.length) (fun b => [(3, eq b.2.1), (7, eq q.1)]) (fun b => [own strK b.2.1 (selM m (fun e => some e.1) b.1), rng Value.string (fun x : Int => vI x) gm.1 q.1 m b.1, blk b0_ 110 [vS a0.froom, eq v0_0.1], mpo Value.string DNode.O v0_0.1 a0.fnodes] ++ F) ?_ (k := m.length) (b := ([], nilV)) (Nat.zero_add _))
    rintro k ⟨is, v⟩ hk
    replace hk : is.length + k = m.length := hk
    refine WP.seq <| rg 2 1 <| Dv.rgn (jj := 1) rfl trivial rfl rfl nofun (fun z hz => ?_)
    rcases z with _ | j
    · have hz : is.Perm (List.range m.length) := hz
      refine ex0 rfl trivial rfl rfl <| .fin <| WP.seq <| WP.cond rfl nofun (fun _ => WP.exit ?_)
      refine Dn.gh (l' := fun _ : Unit => [own strK v.1 (selM m (fun e => some e.1) is), rng Value.string (fun x : Int => vI x) gm.1 q.1 m is, blk b0_ 110 [vS a0.froom, eq v0_0.1], mpo Value.string DNode.O v0_0.1 a0.fnodes] ++ F) (gh_of (ok := fun _ => True) fun R w k => ⟨(), trivial, k⟩) (fun _ _ => ?_)
      refine Dn.gh (l' := fun _ : Unit => [mp Value.string (fun x : Int => vI x) gm.1 m, own strK v.1 (selM m (fun e => some e.1) is), blk b0_ 110 [vS a0.froom, eq v0_0.1], mpo Value.string DNode.O v0_0.1 a0.fnodes] ++ F) (gh_of (st_rge (pm 4 [1,0,2,3]))) (fun _ _ => ?_)
      refine Dn.gh (l' := fun _ : Unit => [own strK v.1 (selM m (fun e => some e.1) is), blk b0_ 110 [vS a0.froom, eq v0_0.1], mpo Value.string DNode.O v0_0.1 a0.fnodes] ++ F) (gh_of (st_selgn 4 [0,1,2,3] 1 (by kernel_rfl) rfl rfl)) (fun _ _ => ?_)
      exact Jn.mk (is, v) hz (weak_cons rfl weak_nil) (List.Perm.refl _)
    have hz : j < m.length ∧ j ∉ is ∧ is.length < m.length := hz
    obtain ⟨e, he⟩ : ∃ e, m[j]? = some e := ⟨_, List.getElem?_eq_getElem hz.1⟩
    have hep := he
    have hlt := hz.2.2
    have hsl := Nat.le_trans (selM_len (m := m) (f := (fun e => some e.1)) (is := is)) (Nat.le_of_lt hlt)
    have e1 : nxV Value.string (fun x : Int => vI x) m (some j) = tup [vB true, vS e.1, vI e.2] := by simp only [nxV, hep]
    rw [e1]
    refine ex0 rfl trivial rfl rfl <| .fin <| WP.seq <| WP.cond rfl (fun _ => WP.skip ?_) nofun
    refine WP.gh (l' := fun _ : Unit => [own strK v.1 (selM m (fun e => some e.1) is), rng Value.string (fun x : Int => vI x) gm.1 q.1 m (is ++ [j]), blk b0_ 110 [vS a0.froom, eq v0_0.1], mpo Value.string DNode.O v0_0.1 a0.fnodes] ++ F) (gh_of (ok := fun _ => True) fun R w k => ⟨(), trivial, k⟩) (fun _ _ => ?_)
    refine WP.block <| WP.seq <| rg 3 0 <| Dv.rge 1 rfl trivial rfl rfl hep ?_
    refine ex0 rfl trivial rfl rfl <| as0 rfl rfl <| .fin ?_
    have e6 := selM_some (f := (fun e => some e.1)) (is := is) he rfl
    have hbd : (selM m (fun e => some e.1) is).length + ([e.1] : List ByteArray).length ≤ 9223372036854775807 ∧ ((selM m (fun e => some e.1) is).length + ([e.1] : List ByteArray).length) * 16 ≤ 140737488355328 := by rw [List.length_singleton]; omega
    refine rg 5 8 <| mv0 rfl rfl <| mv0 rfl rfl <| Dv.lit strK ([e.1] : List ByteArray) (css := [[vS e.1]]) rfl trivial Tryz.underlying35 Tryz.underlying9 c9 z9 rfl (by decide) (by decide) rfl ⟨(cells_one (one_eq rfl)), trivial⟩ rfl rfl rfl <| ap strK 0 ([e.1] : List ByteArray) src_sl Tryz.underlying35 (.inr ⟨_, Tryz.underlying35⟩) inf9 hbd nofun fun v9 => as0 rfl rfl <| .fin ?_
    rw [e6]
    exact Back.mk (k - 1) (is ++ [j], v9) (by omega) (by show (is ++ [j]).length + (k - 1) = _; rw [List.length_append, List.length_singleton]; omega) (weak_cons rfl (weak_cons rfl weak_nil)) (List.Perm.refl _)
  obtain ⟨is, v3⟩ := b
  replace hb : is.Perm (List.range m.length) := hb
  have hp := selM_perm (f := (fun e => some e.1)) hb
  have hs : slices_Sort_string.f (selM m (fun e => some e.1) is) = some (srtS (m.map (·.1))) := by
    have e7 : m.filterMap (fun e => some e.1) = m.map (·.1) := by rw [← List.filterMap_eq_map]; rfl
    rw [e7] at hp
    unfold slices_Sort_string.f Sp.grd
    rw [if_pos (by rw [hp.length_eq, List.length_map]; omega), srtS_eq hp]
  refine WP.seq <| rg 2 2 <| mv0 rfl rfl <| cx 3 [0,1,2] cal100 (slices_Sort_string.c hs (p0_ := v3)) nofun fun _ _ => .fin ?_
  refine WP.seq <| rg 2 0 <| mv0 rfl rfl <| as0 rfl rfl <| .fin <| rt i2 rfl v3 3 [1,2,0] 0 (.cons (res_tmp rfl) .nil)
theorem member_Servers.c {k : Nat} {a0 : DDag} {v0_0 : OV} {b0_ : Nat} {r : (List ByteArray)} (h : member_Servers.f k a0 = some r) : Tr Tryz.prog 103 [eq (.pointer (some ⟨b0_, 0, none⟩))] [blk b0_ 110 [vS a0.froom, eq v0_0.1], mpo Value.string DNode.O v0_0.1 a0.fnodes] (γ := OV) (fun _ => True) (fun g => eq g.1) (fun g => [blk b0_ 110 [vS a0.froom, eq v0_0.1], mpo Value.string DNode.O v0_0.1 a0.fnodes, own strK g.1 r]) := by
 unfold member_Servers.f at h
 refine Tr.body Tryz.func103 (c := _) rfl Tryz.ntmps103 (Nat.le_of_ble_eq_true rfl) fun R0 F => ?_
 replace h := Gets.of h
 have H := h
 clear h
 refine WP.seq <| rg 1 0 <| as0 rfl rfl <| .fin <| WP.seq <| rg 4 6 <| mv0 rfl rfl <| el H fun t948 h949 H => cx 2 [0,1] cal127 (member_Users.c h949 (b0_ := b0_) (v0_0 := v0_0)) nofun fun g950 _ => ?_
 refine el H fun t951 h952 H => cx 3 [2,0,1] cal126 (Tr.lend [own strK g950.1 t948] (member_Homes.c h952) (.cons (lt_own (mem_at 0 rfl)) .nil) (fun _ => flat_eq) (fun _ => (flatAs_cons (flatA_own flatK_str) flatAs_nil))) nofun fun g953 _ => ?_
 refine as0 rfl rfl <| .fin ?_
 obtain rfl := Gets.out H
 exact rt i2 rfl g953 4 [0,2,3,1] 1 (.cons (res_tmp rfl) .nil)
theorem view_View_Servers.c {k : Nat} {a0 : VView} {a1 : ByteArray} {v0_0 : OV} {b0_ : Nat} {r : (List ByteArray)} (h : view_View_Servers.f k a0 a1 = some r) : Tr Tryz.prog 76 [eq (.pointer (some ⟨b0_, 0, none⟩)), vS a1] [blk b0_ 81 [eq v0_0.1], mpo Value.string DDag.O v0_0.1 a0.fdags] (γ := OV) (fun _ => True) (fun g => eq g.1) (fun g => [blk b0_ 81 [eq v0_0.1], mpo Value.string DDag.O v0_0.1 a0.fdags, own strK g.1 r]) := by
 unfold view_View_Servers.f at h
 refine Tr.body Tryz.func76 (c := _) rfl Tryz.ntmps76 (Nat.le_of_ble_eq_true rfl) fun R0 F => ?_
 replace h := Gets.of h
 have H := h
 clear h
 refine WP.seq <| rg 1 0 <| as0 rfl rfl <| .fin <| WP.seq <| rg 5 12 <| mv0 rfl rfl <| mv0 rfl rfl <| el H fun t954 h955 H => cx 2 [0,1] cal65 (view_View_room.c h955 (b0_ := b0_) (v0_0 := v0_0)) nofun fun v956 _ => ?_
 refine vg (DDag.opn 2 rfl) fun g957 h958 => ?_
 refine el H fun t959 h960 H => cx 4 [0,1,2,3] cal103 (Tr.weak (member_Servers.c h960 (b0_ := g957.1) (v0_0 := g957.2)) (.cons (wk_ptr h958) .nil)) nofun fun g961 _ => ?_
 refine as0 rfl rfl <| .fin <| wg (DDag.shut (p := v956) (m := t954) (g957.1, g957.2) h958 (pm 5 [0,1,2,3,4])) fun _ _ => ?_
 refine wg (mpl_back0 (view_View_room.r h955) (pm 4 [3,0,1,2])) fun _ _ => ?_
 obtain rfl := Gets.out H
 exact rt i2 rfl g961 3 [2,0,1] 0 (.cons (res_tmp rfl) .nil)
theorem view_View_Peers.c {k : Nat} {a0 : VView} {a1 : ByteArray} {p0_ : OV} {r : (List ByteArray)} (h : view_View_Peers.f k a0 a1 = some r) : Tr Tryz.prog 75 [eq p0_.1, vS a1] [VView.O p0_ a0] (γ := OV) (fun _ => True) (fun g => eq g.1) (fun g => [VView.O p0_ a0, own strK g.1 r]) := by
 unfold view_View_Peers.f at h
 refine Tr.body Tryz.func75 (c := _) rfl Tryz.ntmps75 (Nat.le_of_ble_eq_true rfl) fun R0 F => ?_
 replace h := Gets.of h
 have H := h
 clear h
 refine WP.seq <| rg 1 0 <| as0 rfl rfl <| .fin <| WP.seq <| rg 1 0 <| as0 rfl rfl <| .fin <| WP.seqn H (fun q988 : (Int × Int × Bool × (List ByteArray) × (List ByteArray)) × OV × OV => q988.1) (fun q988 : (Int × Int × Bool × (List ByteArray) × (List ByteArray)) × OV × OV => [(0, eq p0_.1), (1, vS a1), (4, eq (.slice none 0 0)), (5, eq q988.2.1.1), (10, eq q988.2.2.1), (11, vI q988.1.1), (12, vI q988.1.2.1), (13, vB q988.1.2.2.1)]) (fun q988 : (Int × Int × Bool × (List ByteArray) × (List ByteArray)) × OV × OV => [VView.O p0_ a0, own strK q988.2.1.1 q988.1.2.2.2.1, own strK q988.2.2.1 q988.1.2.2.2.2] ++ F) (fun q988 H => ?_) (fun H => ?_)
 ·
  obtain ⟨p962, v963, v964⟩ := q988
  refine WP.seq <| rg 2 2 <| mv0 rfl rfl <| el H fun t965 h966 H => cx 3 [1,0,2] cal100 (slices_Sort_string.c h966 (p0_ := v963)) nofun fun _ _ => ?_
  refine .fin <| WP.seq <| rg 3 2 <| mv0 rfl rfl <| el H fun t967 h968 H => cx 3 [0,1,2] cal102 (slices_Compact_string.c h968 (p0_ := v963)) nofun fun g969 _ => ?_
  refine as0 rfl rfl <| .fin ?_
  obtain rfl := Gets.out H
  exact rt i2 rfl g969 3 [2,1,0] 1 (.cons (res_tmp rfl) .nil)
 refine WP.seq <| rg 5 4 <| mv0 rfl rfl <| mv0 rfl rfl <| el H fun t970 h971 H => cx 1 [0] cal39 (view_View_RoomsOf.c h971 (p0_ := p0_)) nofun fun g972 _ => ?_
 refine Dv.lenw rfl trivial rfl (mem_at 1 rfl) Tryz.underlying35 <| mv0 rfl rfl <| .fin <| WP.block <| wg (st_nil strK none) fun _ _ => ?_
 refine wg (sg 3 [1,2,0] 0) fun _ _ => ?_
 refine lp (fun j_ (p987 : Int × (List ByteArray) × OV) => view_View_Peers.l0 k a0 t970 j_ p987.1 p987.2.1) (0, ([] : List ByteArray), nilV) H (fun p987 => [(0, eq p0_.1), (1, vS a1), (4, eq (.slice none 0 0)), (5, eq p987.2.2.1), (10, eq g972.1), (11, vI (t970.length : Int)), (12, vI p987.1)]) (fun p987 => [VView.O p0_ a0, own strK g972.1 t970, own strK p987.2.2.1 p987.2.1] ++ F) ?_
 rintro j_ ⟨x973, x974, v975⟩ H
 rcases j_ with _ | j986
 ·
  exact (Gets.no H).elim
 replace H : Gets (view_View_Peers.l0 k a0 t970 (j986 + 1) x973 x974) _ := H
 rw [view_View_Peers.l0] at H
 refine WP.seq <| rg 1 0 <| bn0 rfl rfl rfl run_lt <| .fin <| WP.seq <| cd H rfl (fun _ H => ?_) (fun _ H => ?_)
 rotate_left
 ·
  refine WP.exit ?_
  replace H := Gets.out H
  refine ng (sg 3 [0,2,1] 0) fun _ _ => ?_
  exact jn (((t970.length : Int), x973, decide (x973 < (t970.length : Int)), x974, t970), v975, g972) H
 refine WP.skip <| WP.seq <| WP.block <| WP.seq <| rg 3 0 <| gr H fun g977 H => ?_
 have h978 : x973.toNat < t970.length := idx_lt g977
 refine Dv.ixw rfl trivial rfl (mem_at 1 rfl) rfl Tryz.underlying35 Tryz.underlying9 c9 g977.1 g977.2 <| Dv.ldw (j := x973.toNat) (f := 0) (p := vS (t970.getD x973.toNat default)) rfl trivial rfl (mem_at 1 rfl) h978 Tryz.underlying9 rfl rfl <| as0 rfl rfl <| .fin <| rg 6 24 <| mv0 rfl rfl <| mv0 rfl rfl <| mv0 rfl rfl <| vg (VView.opn 0 rfl) fun g979 h980 => ?_
 refine el H fun t981 h982 H => cx 4 [0,1,2,3] cal76 (Tr.weak (view_View_Servers.c h982 (b0_ := g979.1) (v0_0 := g979.2)) (.cons (wk_ptr h980) (.cons wk_id .nil))) nofun fun g983 _ => ?_
 refine gr H fun g984 H => ap strK 4 t981 (src_own (mem_at 2 rfl)) Tryz.underlying35 (.inr ⟨_, Tryz.underlying35⟩) inf9 g984 nofun fun v985 => ?_
 refine as0 rfl rfl <| .fin <| rg 2 0 <| bn0 rfl rfl rfl run_add <| mv0 rfl rfl <| .fin <| ng (VView.shut (p := p0_) (m := a0) (g979.1, g979.2) h980 (pm 5 [0,1,2,3,4])) fun _ _ => ?_
 refine ng (sg 4 [1,0,2,3] 1) fun _ _ => ?_
 exact bk j986 (w64 (x973 + 1), x974 ++ t981, v985) H
theorem gate_reached.c {k : Nat} {a0 : VView} {a1 : Edu} {p0_ : OV} {r : (List ByteArray)} (h : gate_reached.f k a0 a1 = some r) : Tr Tryz.prog 44 [eq p0_.1, agg (Edu.enc a1)] [VView.O p0_ a0] (γ := OV) (fun _ => True) (fun g => eq g.1) (fun g => [VView.O p0_ a0, own strK g.1 r]) := by
 unfold gate_reached.f at h
 refine Tr.body Tryz.func44 (c := _) rfl Tryz.ntmps44 (Nat.le_of_ble_eq_true rfl) fun R0 F => ?_
 replace h := Gets.of h
 have H := h
 clear h
 refine WP.seq <| rg 2 1 <| Dv.box rfl trivial rfl cA nofun fun b989 => as0 rfl rfl <| .fin <| WP.seq <| WP.block <| WP.seq <| rg 4 0 <| lds 0 rfl trivial rfl sg24 rfl rfl <| el H fun t990 h991 H => cl rfl cal37 rfl (edu_May.c h991) <| un0 rfl rfl (run_not _) <| as0 rfl rfl <| .fin <| cd H rfl (fun _ H => ?_) (fun _ H => ?_)
 ·
  refine WP.seq <| rg 1 0 <| as0 rfl rfl <| .fin <| wg (st_nil strK none) fun _ _ => ?_
  obtain rfl := Gets.out H
  exact rt i2 rfl nilV 3 [1,2,0] 1 (.cons (res_tmp rfl) .nil)
 refine WP.seq <| rg 4 0 <| fb rfl trivial rfl fa24_0 <| ld 0 rfl trivial rfl sc3 rfl rfl <| bn0 rfl rfl rfl run_eq <| as0 rfl rfl <| .fin <| cd H rfl (fun _ H => ?_) (fun _ H => ?_)
 ·
  refine WP.seq <| rg 5 8 <| mv0 rfl rfl <| fb rfl trivial rfl fa24_2 <| ld 0 rfl trivial rfl sc9 rfl rfl <| el H fun t994 h995 H => cx 2 [1,0] cal75 (view_View_Peers.c h995 (p0_ := p0_)) nofun fun g996 _ => ?_
  refine as0 rfl rfl <| .fin ?_
  obtain rfl := Gets.out H
  exact rt i2 rfl g996 3 [2,0,1] 1 (.cons (res_tmp rfl) .nil)
 refine WP.skip <| WP.seq <| rg 5 8 <| mv0 rfl rfl <| fb rfl trivial rfl fa24_1 <| ld 0 rfl trivial rfl sc9 rfl rfl <| vg (VView.opn 1 rfl) fun g997 h998 => ?_
 refine el H fun t999 h1000 H => cx 3 [0,1,2] cal76 (Tr.weak (view_View_Servers.c h1000 (b0_ := g997.1) (v0_0 := g997.2)) (.cons (wk_ptr h998) (.cons wk_id .nil))) nofun fun g1001 _ => ?_
 refine as0 rfl rfl <| .fin <| wg (VView.shut (p := p0_) (m := a0) (g997.1, g997.2) h998 (pm 4 [0,1,2,3])) fun _ _ => ?_
 obtain rfl := Gets.out H
 exact rt i2 rfl g1001 3 [2,0,1] 1 (.cons (res_tmp rfl) .nil)
theorem gate_Passes.c {k : Nat} {a0 : VView} {a1 : ByteArray} {a2 : Edu} {p0_ : OV} {r : Bool} (h : gate_Passes.f k a0 a1 a2 = some r) : Tr Tryz.prog 16 [eq p0_.1, vS a1, agg (Edu.enc a2)] [VView.O p0_ a0] (γ := Unit) (fun _ => True) (fun g => vB r) (fun g => [VView.O p0_ a0]) := by
 unfold gate_Passes.f at h
 refine Tr.body Tryz.func16 (c := _) rfl Tryz.ntmps16 (Nat.le_of_ble_eq_true rfl) fun R0 F => ?_
 replace h := Gets.of h
 have H := h
 clear h
 refine WP.seq <| rg 2 1 <| Dv.box rfl trivial rfl cA nofun fun b1002 => as0 rfl rfl <| .fin <| WP.seq <| rg 6 4 <| mv0 rfl rfl <| lds 0 rfl trivial rfl sg24 rfl rfl <| el H fun t1003 h1004 H => cx 2 [1,0] cal44 (gate_reached.c h1004 (p0_ := p0_)) nofun fun g1005 _ => ?_
 refine mv0 rfl rfl <| el H fun t1006 h1007 H => cll (B := [own strK g1005.1 t1003]) 3 [1,0,2] cal43 (Pt.lend _ (slices_Contains_string.c h1007) (.cons (lt_own (mem_at 0 rfl)) (.cons lt_id .nil)) flat_eq) ?_
 refine as0 rfl rfl <| .fin ?_
 obtain rfl := Gets.out H
 exact rt i2 rfl () 3 [1,2,0] 2 (.cons (res_tmp rfl) .nil)
theorem concourselaw16_lives.c {k : Nat} {r : Bool} (h : concourselaw16_lives.f k = some r) : Pt Tryz.prog 15 [] (vB r) := by
 unfold concourselaw16_lives.f at h
 refine (Tr.body Tryz.func15 (c := _) rfl Tryz.ntmps15 (Nat.le_of_ble_eq_true rfl) fun R0 F => ?_).pt
 replace h := Gets.of h
 have H := h
 clear h
 refine WP.seq <| rg 1 0 <| as0 rfl rfl <| .fin <| WP.seq <| rg 2 1 <| el H fun t1008 h1009 H => cx 0 [] cal32 (view_New.c h1009) nofun fun g1010 _ => ?_
 refine as0 rfl rfl <| .fin <| WP.seq <| WP.seq <| rg 2 0 <| mv0 rfl rfl <| Dv.peq0 VView.nn rfl trivial rfl rfl Tryz.underlying25 (mem_at 0 rfl) <| .fin <| WP.cond rfl nofun (fun _ => ?_)
 refine WP.skip <| WP.seq <| rg 3 4 <| mv0 rfl rfl <| Dv.bld (css := [[vS (⟨#[36, 97]⟩ : ByteArray)], [vS (⟨#[33, 114, 58, 115]⟩ : ByteArray)], [vS (⟨#[64, 97, 58, 115]⟩ : ByteArray)], [vI 1]]) rfl trivial Tryz.underlying59 pl59 z59 rfl ⟨(cells_one (one_eq rfl)), ⟨(cells_one (one_eq rfl)), ⟨(cells_one (one_eq rfl)), ⟨(cells_one (one_eq rfl)), trivial⟩⟩⟩⟩ rfl rfl <| el H fun t1012 h1013 H => cx 1 [0] cal33 (Tr.weak (view_View_Add.c h1013 (p0_ := g1010)) (.cons wk_id (.cons (wk_agg (.cons wk_id (.cons wk_id (.cons wk_nil (.cons wk_id (.cons wk_id (.cons wk_id .nil))))))) .nil))) nofun fun _ _ => ?_
 refine .fin <| WP.seq <| rg 3 4 <| mv0 rfl rfl <| Dv.bld (css := [[vS (⟨#[36, 98]⟩ : ByteArray)], [vS (⟨#[33, 114, 58, 115]⟩ : ByteArray)], [vS (⟨#[64, 98, 58, 116]⟩ : ByteArray)], [vI 1]]) rfl trivial Tryz.underlying59 pl59 z59 rfl ⟨(cells_one (one_eq rfl)), ⟨(cells_one (one_eq rfl)), ⟨(cells_one (one_eq rfl)), ⟨(cells_one (one_eq rfl)), trivial⟩⟩⟩⟩ rfl rfl <| el H fun t1014 h1015 H => cx 1 [0] cal33 (Tr.weak (view_View_Add.c h1015 (p0_ := g1010)) (.cons wk_id (.cons (wk_agg (.cons wk_id (.cons wk_id (.cons wk_nil (.cons wk_id (.cons wk_id (.cons wk_id .nil))))))) .nil))) nofun fun _ _ => ?_
 refine .fin <| WP.seq <| rg 3 6 <| Dv.bld (css := [[vI 2], [vS (⟨#[33, 114, 58, 115]⟩ : ByteArray)], [vS (⟨#[64, 97, 58, 115]⟩ : ByteArray)], [vB true], [vI 5]]) rfl trivial Tryz.underlying24 pl24 z24 rfl ⟨(cells_one (one_eq rfl)), ⟨(cells_one (one_eq rfl)), ⟨(cells_one (one_eq rfl)), ⟨(cells_one (one_eq rfl)), ⟨(cells_one (one_eq rfl)), trivial⟩⟩⟩⟩⟩ rfl rfl <| al rfl trivial zc24 nofun fun b1016 => sx 0 rfl trivial rfl rfl cA sz24 rfl rfl rfl nofun ?_
 refine .fin <| WP.seq <| rg 16 4164 <| mv0 rfl rfl <| lds 0 rfl trivial rfl sg24 rfl rfl <| el H fun t1017 h1018 H => cx 2 [1,0] cal16 (gate_Passes.c h1018 (p0_ := g1010)) nofun fun _ _ => ?_
 refine mv0 rfl rfl ?_
 cases c1019 : t1017
 ·
  replace H := Gets.cf H c1019
  refine sk rfl rfl <| sk rfl rfl <| Dv.skipb rfl ⟨_, _, rfl, rfl, .inl rfl⟩ nofun <| sk rfl rfl <| pf0 rfl rfl rfl <| mv0 rfl rfl <| sk rfl rfl <| sk rfl rfl <| Dv.skipb rfl ⟨_, _, rfl, rfl, .inl rfl⟩ nofun <| sk rfl rfl <| pf0 rfl rfl rfl <| as0 rfl rfl <| .fin ?_
  obtain rfl := Gets.out H
  exact rt i2 rfl () 2 [0,1] 2 (.cons (res_tmp rfl) .nil)
 replace H := Gets.ct H c1019
 refine mvg rfl rfl rfl <| lds 1 rfl (gg rfl) rfl sg24 rfl rfl <| el H fun t1020 h1021 H => cx 2 [0,1] cal16 (gate_Passes.c h1021 (p0_ := g1010)) nofun fun _ _ => ?_
 refine ung rfl rfl rfl (run_not _) <| pt0 rfl rfl rfl <| mv0 rfl rfl ?_
 cases c1022 : !t1020
 ·
  replace H := Gets.cf H c1022
  refine sk rfl rfl <| sk rfl rfl <| Dv.skipb rfl ⟨_, _, rfl, rfl, .inl rfl⟩ nofun <| sk rfl rfl <| pf0 rfl rfl rfl <| as0 rfl rfl <| .fin ?_
  obtain rfl := Gets.out H
  exact rt i2 rfl () 2 [0,1] 2 (.cons (res_tmp rfl) .nil)
 replace H := Gets.ct H c1022
 refine mvg rfl rfl rfl <| lds 1 rfl (gg rfl) rfl sg24 rfl rfl <| el H fun t1023 h1024 H => cx 2 [0,1] cal13 (gate_Accept.c h1024 (p0_ := g1010)) nofun fun _ _ => ?_
 refine bng rfl rfl rfl rfl run_eq <| pt0 rfl rfl rfl <| as0 rfl rfl <| .fin ?_
 obtain rfl := Gets.out H
 exact rt i2 rfl () 2 [0,1] 2 (.cons (res_tmp rfl) .nil)
theorem view_View_Friends_1.c {k : Nat} {a0 : ByteArray} {cb0_ cd0_ : Nat} {cq0_ cv0_0 : OV} {ch0_ : cq0_.1 = .pointer (some ⟨cd0_, 0, none⟩)} {c0 : VView} {c1 : ByteArray} {r : Bool} (h : view_View_Friends_1.f k a0 c0 c1 = some r) : Tr Tryz.prog 85 [vS a0, eq (.pointer (some ⟨cb0_, 0, none⟩)), rp [vS c1]] [blk cb0_ 25 [eq cq0_.1], blk cd0_ 81 [eq cv0_0.1], mpo Value.string DDag.O cv0_0.1 c0.fdags] (γ := Unit) (fun _ => True) (fun g => vB r) (fun g => [blk cb0_ 25 [eq cq0_.1], blk cd0_ 81 [eq cv0_0.1], mpo Value.string DDag.O cv0_0.1 c0.fdags]) := by
 unfold view_View_Friends_1.f at h
 refine Tr.body Tryz.func85 (c := _) rfl Tryz.ntmps85 (Nat.le_of_ble_eq_true rfl) fun R0 F => ?_
 replace h := Gets.of h
 have H := h
 clear h
 refine WP.seq <| rg 1 0 <| as0 rfl rfl <| .fin <| WP.seq <| rg 5 0 <| ld 0 rfl trivial rfl sc25 rfl rfl <| mv0 rfl rfl <| ldR rfl trivial rfl sc9 rfl <| el H fun t1025 h1026 H => cll 3 [1,2,0] cal40 (Tr.weak (view_View_Joined.c h1026 (b0_ := cd0_) (v0_0 := cv0_0)) (.cons (wk_ptr ch0_) (.cons wk_id (.cons wk_id .nil)))) ?_
 refine as0 rfl rfl <| .fin ?_
 obtain rfl := Gets.out H
 exact rt i2 rfl () 3 [0,1,2] 0 (.cons (res_tmp rfl) .nil)
theorem view_View_Friends.c {k : Nat} {a0 : VView} {a1 : ByteArray} {a2 : ByteArray} {p0_ : OV} {r : Bool} (h : view_View_Friends.f k a0 a1 a2 = some r) : Tr Tryz.prog 54 [eq p0_.1, vS a1, vS a2] [VView.O p0_ a0] (γ := Unit) (fun _ => True) (fun g => vB r) (fun g => [VView.O p0_ a0]) := by
 unfold view_View_Friends.f at h
 refine Tr.body Tryz.func54 (c := _) rfl Tryz.ntmps54 (Nat.le_of_ble_eq_true rfl) fun R0 F => ?_
 replace h := Gets.of h
 have H := h
 clear h
 refine WP.seq <| rg 3 3 <| Dv.box rfl trivial rfl (cells_one one_ov) nofun fun b1027 => Dv.box rfl trivial rfl cE nofun fun b1028 => as0 rfl rfl <| .fin <| WP.seq <| rg 6 4 <| ld 1 rfl trivial rfl sc25 rfl rfl <| mv0 rfl rfl <| el H fun t1029 h1030 H => cx 3 [2,0,1] cal39 (view_View_RoomsOf.c h1030 (p0_ := p0_)) nofun fun g1031 _ => ?_
 refine vg (VView.opn 0 rfl) fun g1032 h1033 => ?_
 refine Dv.gh (gh_frzb (E' := [(0, eq p0_.1), (1, vS a1), (2, vS a2), (3, eq (.pointer (some ⟨b1027, 0, none⟩))), (5, rp [vS a2]), (6, vB false), (9, eq g1031.1)]) (l' := [blk g1032.1 81 [eq g1032.2.1], mpo Value.string DDag.O g1032.2.1 a0.fdags, own strK g1031.1 t1029, blk b1027 25 [eq p0_.1]] ++ F) 3 rfl (cve_cons rfl cv_id (cve_cons rfl cv_id (cve_cons rfl cv_id (cve_cons rfl cv_id (cve_cons rfl cv_eq (cve_cons rfl cv_id (cve_cons rfl cv_id cve_nil))))))) (all2_app (.cons cva_id (.cons cva_id (.cons cva_id (.cons cva_id .nil)))) fun _ => cva_id)) (fun _ _ => ?_)
 refine Dv.mkx (Q := fqQ_string_bool (fun a0_ => view_View_Friends_1.f k a0_ a0 a2)) (L := [blk b1027 25 [eq p0_.1], blk g1032.1 81 [eq g1032.2.1], mpo Value.string DDag.O g1032.2.1 a0.fdags]) cal85 (by rintro _ _ ⟨a0_, r_, h_, rfl, rfl⟩; exact view_View_Friends_1.c h_ (cb0_ := b1027) (cq0_ := p0_) (cd0_ := g1032.1) (ch0_ := h1033) (cv0_0 := g1032.2)) rfl trivial rfl rfl <| el H fun t1034 h1035 H => cll 4 [2,3,0,1] cal84 (Tr.unpkr (A := [own strK g1031.1 t1029]) (L := [blk b1027 25 [eq p0_.1], blk g1032.1 81 [eq g1032.2.1], mpo Value.string DDag.O g1032.2.1 a0.fdags]) (slices_ContainsFunc_string_xw.c h1035 (p0_ := g1031) (X1_ := (pk [blk b1027 25 [eq p0_.1], blk g1032.1 81 [eq g1032.2.1], mpo Value.string DDag.O g1032.2.1 a0.fdags])))) ?_
 refine as0 rfl rfl <| .fin <| wg (VView.shut (p := p0_) (m := a0) (g1032.1, g1032.2) h1033 (pm 4 [0,1,2,3])) fun _ _ => ?_
 obtain rfl := Gets.out H
 exact rt i2 rfl () 3 [1,2,0] 2 (.cons (res_tmp rfl) .nil)
theorem gate_Sees.c {k : Nat} {a0 : VView} {a1 : ByteArray} {a2 : Edu} {p0_ : OV} {r : Bool} (h : gate_Sees.f k a0 a1 a2 = some r) : Tr Tryz.prog 25 [eq p0_.1, vS a1, agg (Edu.enc a2)] [VView.O p0_ a0] (γ := Unit) (fun _ => True) (fun g => vB r) (fun g => [VView.O p0_ a0]) := by
 unfold gate_Sees.f at h
 refine Tr.body Tryz.func25 (c := _) rfl Tryz.ntmps25 (Nat.le_of_ble_eq_true rfl) fun R0 F => ?_
 replace h := Gets.of h
 have H := h
 clear h
 refine WP.seq <| rg 2 1 <| Dv.box rfl trivial rfl cA nofun fun b1036 => as0 rfl rfl <| .fin <| WP.seq <| WP.block <| WP.seq <| rg 4 0 <| lds 0 rfl trivial rfl sg24 rfl rfl <| el H fun t1037 h1038 H => cl rfl cal53 rfl (edu_Local.c h1038) <| un0 rfl rfl (run_not _) <| as0 rfl rfl <| .fin <| cd H rfl (fun _ H => ?_) (fun _ H => ?_)
 ·
  refine WP.seq <| rg 1 0 <| as0 rfl rfl <| .fin ?_
  obtain rfl := Gets.out H
  exact rt i2 rfl () 2 [0,1] 1 (.cons (res_tmp rfl) .nil)
 refine WP.seq <| rg 4 0 <| fb rfl trivial rfl fa24_0 <| ld 0 rfl trivial rfl sc3 rfl rfl <| bn0 rfl rfl rfl run_eq <| as0 rfl rfl <| .fin <| cd H rfl (fun _ H => ?_) (fun _ H => ?_)
 ·
  refine WP.seq <| rg 6 16 <| mv0 rfl rfl <| mv0 rfl rfl <| fb rfl trivial rfl fa24_2 <| ld 0 rfl trivial rfl sc9 rfl rfl <| el H fun t1041 h1042 H => cx 2 [1,0] cal54 (view_View_Friends.c h1042 (p0_ := p0_)) nofun fun _ _ => ?_
  refine as0 rfl rfl <| .fin ?_
  obtain rfl := Gets.out H
  exact rt i2 rfl () 2 [1,0] 1 (.cons (res_tmp rfl) .nil)
 refine WP.skip <| WP.seq <| rg 17 0 <| mv0 rfl rfl <| fb rfl trivial rfl fa24_1 <| ld 0 rfl trivial rfl sc9 rfl rfl <| mv0 rfl rfl <| vg (VView.opn 1 rfl) fun g1043 h1044 => ?_
 refine el H fun t1045 h1046 H => cll 3 [0,1,2] cal40 (Tr.weak (view_View_Joined.c h1046 (b0_ := g1043.1) (v0_0 := g1043.2)) (.cons (wk_ptr h1044) (.cons wk_id (.cons wk_id .nil)))) ?_
 refine mv0 rfl rfl ?_
 cases c1047 : t1045
 ·
  replace H := Gets.cf H c1047
  refine sk rfl rfl <| sk rfl rfl <| sk rfl rfl <| sk rfl rfl <| sku rfl rfl <| sku rfl rfl <| sku rfl rfl <| sku rfl rfl <| sk rfl rfl <| pf0 rfl rfl rfl <| as0 rfl rfl <| .fin <| wg (VView.shut (p := p0_) (m := a0) (g1043.1, g1043.2) h1044 (pm 3 [0,1,2])) fun _ _ => ?_
  obtain rfl := Gets.out H
  exact rt i2 rfl () 2 [1,0] 1 (.cons (res_tmp rfl) .nil)
 replace H := Gets.ct H c1047
 refine fb rfl (gg rfl) rfl fa24_5 <| ld 2 rfl (gg rfl) rfl sc4 rfl rfl <| ung rfl rfl rfl (run_not _) <| mvg rfl rfl rfl ?_
 cases c1048 : !a2.fPrivate
 rotate_left
 ·
  replace H := Gets.ct H c1048
  refine sk rfl rfl <| sk rfl rfl <| sk rfl rfl <| sk rfl rfl <| ptg rfl rfl rfl rfl <| pt0 rfl rfl rfl <| as0 rfl rfl <| .fin <| wg (VView.shut (p := p0_) (m := a0) (g1043.1, g1043.2) h1044 (pm 3 [0,1,2])) fun _ _ => ?_
  obtain rfl := Gets.out H
  exact rt i2 rfl () 2 [1,0] 1 (.cons (res_tmp rfl) .nil)
 replace H := Gets.cf H c1048
 refine fb rfl (gg rfl) rfl fa24_2 <| ld 2 rfl (gg rfl) rfl sc9 rfl rfl <| mvg rfl rfl rfl <| bng rfl rfl rfl rfl run_seq <| pfg rfl rfl rfl rfl <| pt0 rfl rfl rfl <| as0 rfl rfl <| .fin <| wg (VView.shut (p := p0_) (m := a0) (g1043.1, g1043.2) h1044 (pm 3 [0,1,2])) fun _ _ => ?_
 obtain rfl := Gets.out H
 exact rt i2 rfl () 2 [1,0] 1 (.cons (res_tmp rfl) .nil)
theorem concourseref07_Before.c {a0 : Pos} {a1 : Pos} {r : Bool} (h : concourseref07_Before.f a0 a1 = some r) : Pt Tryz.prog 114 [agg (Pos.enc a0), agg (Pos.enc a1)] (vB r) := by
 unfold concourseref07_Before.f at h
 refine (Tr.body Tryz.func114 (c := _) rfl Tryz.ntmps114 (Nat.le_of_ble_eq_true rfl) fun R0 F => ?_).pt
 replace h := Gets.of h
 have H := h
 clear h
 refine WP.seq <| rg 3 3 <| Dv.box rfl trivial rfl cA nofun fun b1049 => Dv.box rfl trivial rfl cA nofun fun b1050 => as0 rfl rfl <| .fin <| WP.seq <| rg 20 0 <| fb rfl trivial rfl fa125_0 <| ld 1 rfl trivial rfl sc3 rfl rfl <| fb rfl trivial rfl fa125_0 <| ld 0 rfl trivial rfl sc3 rfl rfl <| bn0 rfl rfl rfl run_lt <| mv0 rfl rfl ?_
 cases c1051 : decide (a0.fDepth < a1.fDepth)
 rotate_left
 ·
  replace H := Gets.ct H c1051
  refine sk rfl rfl <| sk rfl rfl <| sk rfl rfl <| sk rfl rfl <| sk rfl rfl <| sk rfl rfl <| sku rfl rfl <| sku rfl rfl <| sku rfl rfl <| sku rfl rfl <| sku rfl rfl <| sk rfl rfl <| pt0 rfl rfl rfl <| as0 rfl rfl <| .fin ?_
  obtain rfl := Gets.out H
  exact rt i2 rfl () 2 [0,1] 2 (.cons (res_tmp rfl) .nil)
 replace H := Gets.cf H c1051
 refine fb rfl (gg rfl) rfl fa125_0 <| ld 1 rfl (gg rfl) rfl sc3 rfl rfl <| fb rfl (gg rfl) rfl fa125_0 <| ld 0 rfl (gg rfl) rfl sc3 rfl rfl <| bng rfl rfl rfl rfl run_eq <| mvg rfl rfl rfl ?_
 cases c1052 : (a0.fDepth == a1.fDepth)
 ·
  replace H := Gets.cf H c1052
  refine sk rfl rfl <| sk rfl rfl <| sk rfl rfl <| sk rfl rfl <| sk rfl rfl <| pfg rfl rfl rfl rfl <| pf0 rfl rfl rfl <| as0 rfl rfl <| .fin ?_
  obtain rfl := Gets.out H
  exact rt i2 rfl () 2 [0,1] 2 (.cons (res_tmp rfl) .nil)
 replace H := Gets.ct H c1052
 refine fb rfl (gg rfl) rfl fa125_1 <| ld 1 rfl (gg rfl) rfl sc9 rfl rfl <| fb rfl (gg rfl) rfl fa125_1 <| ld 0 rfl (gg rfl) rfl sc9 rfl rfl <| bng rfl rfl rfl rfl run_slt <| ptg rfl rfl rfl rfl <| pf0 rfl rfl rfl <| as0 rfl rfl <| .fin ?_
 obtain rfl := Gets.out H
 exact rt i2 rfl () 2 [0,1] 2 (.cons (res_tmp rfl) .nil)
theorem concourseref07_Depth.c {k : Nat} {a0 : RDag} {a1 : ByteArray} {r : Int} (h : concourseref07_Depth.f k a0 a1 = some r) : Pt Tryz.prog 128 [agg (RDag.enc a0), vS a1] (vI r) := by
 unfold concourseref07_Depth.f at h
 refine (Tr.body Tryz.func128 (c := _) rfl Tryz.ntmps128 (Nat.le_of_ble_eq_true rfl) fun R0 F => ?_).pt
 replace h := Gets.of h
 have H := h
 clear h
 refine WP.seq <| rg 2 1 <| Dv.box rfl trivial rfl cA nofun fun b1053 => as0 rfl rfl <| .fin <| WP.seq <| rg 4 0 <| lds 0 rfl trivial rfl sg74 rfl rfl <| mv0 rfl rfl <| el H fun t1054 h1055 H => cl rfl cal117 rfl (concourseref07_At.c h1055) <| as0 rfl rfl <| .fin <| WP.seq <| WP.seq <| rg 2 0 <| mv0 rfl rfl <| bn0 rfl rfl rfl run_lt <| .fin <| cd H rfl (fun _ H => ?_) (fun _ H => ?_)
 ·
  refine WP.seq <| rg 1 0 <| as0 rfl rfl <| .fin ?_
  obtain rfl := Gets.out H
  exact rt i2 rfl () 1 [0] 1 (.cons (res_tmp rfl) .nil)
 refine WP.skip <| WP.seq <| rg 4 4 <| mv0 rfl rfl <| bn0 rfl rfl rfl run_add <| gr H fun g1057 H => ?_
 obtain ⟨ti1058, ti1058a, ti1058b, ti1058c, ti1058d⟩ := inf3
 refine Dv.mks (Kd := (intK .i64)) (0 : Int) rfl trivial rfl rfl Tryz.underlying101 ti1058a ti1058b ti1058c ti1058d rfl (by decide) rfl g1057 nofun (fun v1059 => ?_)
 refine as0 rfl rfl <| .fin <| WP.seqn H id (fun p1060 : Int × Bool × (List Int) => [(0, agg (RDag.enc a0)), (1, vS a1), (2, eq (.pointer (some ⟨b1053, 0, none⟩))), (4, vI 0), (5, vI t1054), (6, eq v1059.1), (7, vI p1060.1), (13, vB (decide (t1054 < 0))), (19, vB p1060.2.1)]) (fun p1060 : Int × Bool × (List Int) => [blk b1053 74 (RDag.enc a0), own (intK .i64) v1059.1 p1060.2.2] ++ F) (fun p1060 H => ?_) (fun H => ?_)
 ·
  refine WP.seq <| rg 5 0 <| mv0 rfl rfl <| mv0 rfl rfl <| gr H fun g1061 H => ?_
  have h1062 : t1054.toNat < p1060.2.2.length := idx_lt g1061
  refine Dv.ixw rfl trivial rfl (mem_at 1 rfl) rfl Tryz.underlying101 Tryz.underlying3 c3 g1061.1 g1061.2 <| Dv.ldw (j := t1054.toNat) (f := 0) (p := vI (p1060.2.2.getD t1054.toNat default)) rfl trivial rfl (mem_at 1 rfl) h1062 Tryz.underlying3 rfl rfl <| as0 rfl rfl <| .fin ?_
  obtain rfl := Gets.out H
  exact rt i2 rfl () 2 [0,1] 2 (.cons (res_tmp rfl) .nil)
 refine WP.seq <| rg 1 0 <| as0 rfl rfl <| .fin <| WP.block <| wg (sg 2 [1,0] 0) fun _ _ => ?_
 refine lp (fun j_ (p1084 : Int × (List Int)) => concourseref07_Depth.l0 k a0 t1054 j_ p1084.1 p1084.2) (0, List.replicate (w64 (t1054 + 1)).toNat (0 : Int)) H (fun p1084 => [(0, agg (RDag.enc a0)), (1, vS a1), (2, eq (.pointer (some ⟨b1053, 0, none⟩))), (4, vI 0), (5, vI t1054), (6, eq v1059.1), (7, vI p1084.1), (13, vB (decide (t1054 < 0)))]) (fun p1084 => [blk b1053 74 (RDag.enc a0), own (intK .i64) v1059.1 p1084.2] ++ F) ?_
 rintro j_ ⟨x1063, x1064⟩ H
 rcases j_ with _ | j1083
 ·
  exact (Gets.no H).elim
 replace H : Gets (concourseref07_Depth.l0 k a0 t1054 (j1083 + 1) x1063 x1064) _ := H
 rw [concourseref07_Depth.l0] at H
 refine WP.seq <| WP.seq <| rg 3 0 <| mv0 rfl rfl <| mv0 rfl rfl <| bn0 rfl rfl rfl run_le <| .fin <| cd H rfl (fun _ H => ?_) (fun _ H => ?_)
 rotate_left
 ·
  refine WP.exit ?_
  replace H := Gets.out H
  exact jn (x1063, decide (x1063 ≤ t1054), x1064) H
 refine WP.skip <| WP.seqn H id (fun p1066 : Int × Bool × (List Int) => [(0, agg (RDag.enc a0)), (1, vS a1), (2, eq (.pointer (some ⟨b1053, 0, none⟩))), (4, vI 0), (5, vI t1054), (6, eq v1059.1), (7, vI x1063), (8, vI p1066.1), (13, vB (decide (t1054 < 0))), (19, vB (decide (x1063 ≤ t1054))), (30, vB p1066.2.1)]) (fun p1066 : Int × Bool × (List Int) => [blk b1053 74 (RDag.enc a0), own (intK .i64) v1059.1 p1066.2.2] ++ F) (fun p1066 H => ?_) (fun H => ?_)
 ·
  exact rg 3 0 <| mv0 rfl rfl <| bn0 rfl rfl rfl run_add <| as0 rfl rfl <| .fin <| bk j1083 (w64 (x1063 + 1), p1066.2.2) H
 refine WP.block <| WP.seq <| rg 1 0 <| as0 rfl rfl <| .fin <| WP.block <| wg (sg 2 [0,1] 0) fun _ _ => ?_
 refine lp (fun j_ (p1082 : Int × (List Int)) => concourseref07_Depth.l1 k a0 x1063 j_ p1082.1 p1082.2) (0, x1064) H (fun p1082 => [(0, agg (RDag.enc a0)), (1, vS a1), (2, eq (.pointer (some ⟨b1053, 0, none⟩))), (4, vI 0), (5, vI t1054), (6, eq v1059.1), (7, vI x1063), (8, vI p1082.1), (13, vB (decide (t1054 < 0))), (19, vB (decide (x1063 ≤ t1054)))]) (fun p1082 => [blk b1053 74 (RDag.enc a0), own (intK .i64) v1059.1 p1082.2] ++ F) ?_
 rintro j_ ⟨x1067, x1068⟩ H
 rcases j_ with _ | j1081
 ·
  exact (Gets.no H).elim
 replace H : Gets (concourseref07_Depth.l1 k a0 x1063 (j1081 + 1) x1067 x1068) _ := H
 rw [concourseref07_Depth.l1] at H
 refine WP.seq <| WP.seq <| rg 9 0 <| mv0 rfl rfl <| fb rfl trivial rfl fa74_1 <| ld 0 rfl trivial rfl sc54 rfl rfl <| mv0 rfl rfl <| gr H fun g1069 H => Dv.ixr rfl trivial rfl rfl Tryz.underlying54 Tryz.underlying59 c59 g1069.1 g1069.2 <| fr rfl trivial rfl fa59_2 rfl <| ldR rfl trivial rfl sc35 rfl <| Dv.lenl rfl trivial rfl Tryz.underlying35 <| bn0 rfl rfl rfl run_lt <| .fin <| cd H rfl (fun _ H => ?_) (fun _ H => ?_)
 rotate_left
 ·
  refine WP.exit ?_
  replace H := Gets.out H
  exact jn (x1067, decide (x1067 < (((Event.K.at a0.fL x1063).fParents).length : Int)), x1068) H
 refine WP.skip <| WP.seq <| WP.block <| dg Tryz.checked.mixed 24 8388608 <| mv0 rfl rfl <| mv0 rfl rfl <| mv0 rfl rfl <| mv0 rfl rfl <| gr H fun g1071 H => ?_
 have h1072 : x1063.toNat < x1068.length := idx_lt g1071
 refine Dv.ixw rfl trivial rfl (mem_at 1 rfl) rfl Tryz.underlying101 Tryz.underlying3 c3 g1071.1 g1071.2 <| Dv.ldw (j := x1063.toNat) (f := 0) (p := vI (x1068.getD x1063.toNat default)) rfl trivial rfl (mem_at 1 rfl) h1072 Tryz.underlying3 rfl rfl <| mv0 rfl rfl <| lds 0 rfl trivial rfl sg74 rfl rfl <| fb rfl trivial rfl fa74_1 <| ld 0 rfl trivial rfl sc54 rfl rfl <| mv0 rfl rfl <| gr H fun g1073 H => Dv.ixr rfl trivial rfl rfl Tryz.underlying54 Tryz.underlying59 c59 g1073.1 g1073.2 <| fr rfl trivial rfl fa59_2 rfl <| ldR rfl trivial rfl sc35 rfl <| mv0 rfl rfl <| gr H fun g1074 H => Dv.ixr rfl trivial rfl rfl Tryz.underlying35 Tryz.underlying9 c9 g1074.1 g1074.2 <| ldR rfl trivial rfl sc9 rfl <| el H fun t1075 h1076 H => cl rfl cal117 rfl (concourseref07_At.c h1076) <| gr H fun g1077 H => ?_
 have h1078 : t1075.toNat < x1068.length := idx_lt g1077
 refine Dv.ixw rfl trivial rfl (mem_at 1 rfl) rfl Tryz.underlying101 Tryz.underlying3 c3 g1077.1 g1077.2 <| Dv.ldw (j := t1075.toNat) (f := 0) (p := vI (x1068.getD t1075.toNat default)) rfl trivial rfl (mem_at 1 rfl) h1078 Tryz.underlying3 rfl rfl <| bn0 rfl rfl rfl run_add <| Dv.maxi rfl trivial rfl rfl <| gr H fun g1079 H => ?_
 have h1080 : x1063.toNat < x1068.length := idx_lt g1079
 exact Dv.ixw rfl trivial rfl (mem_at 1 rfl) rfl Tryz.underlying101 Tryz.underlying3 c3 g1079.1 g1079.2 <| Dv.stw (j := x1063.toNat) (f := 0) (jj := 1) (max (x1068.getD x1063.toNat default) (w64 ((x1068.getD t1075.toNat default) + 1))) rfl trivial rfl rfl (cells_one (one_eq rfl)) Tryz.underlying3 c3 rfl rfl h1080 (Nat.le_of_ble_eq_true rfl) rfl (fun _ => pend_bits (by kernel_rfl)) <| .fin <| rg 3 0 <| mv0 rfl rfl <| bn0 rfl rfl rfl run_add <| as0 rfl rfl <| .fin <| bk j1081 (w64 (x1067 + 1), x1068.set x1063.toNat (max (x1068.getD x1063.toNat default) (w64 ((x1068.getD t1075.toNat default) + 1)))) H
theorem concourseref07_Position.c {k : Nat} {a0 : RDag} {a1 : ByteArray} {r : Pos} (h : concourseref07_Position.f k a0 a1 = some r) : Pt Tryz.prog 115 [agg (RDag.enc a0), vS a1] (agg (Pos.enc r)) := by
 unfold concourseref07_Position.f at h
 refine (Tr.body Tryz.func115 (c := _) rfl Tryz.ntmps115 (Nat.le_of_ble_eq_true rfl) fun R0 F => ?_).pt
 replace h := Gets.of h
 have H := h
 clear h
 refine WP.seq <| rg 2 3 <| Dv.box rfl trivial rfl cA nofun fun b1085 => al rfl trivial zc125 nofun fun b1086 => .fin <| WP.seq <| rg 6 32 <| lds 1 rfl trivial rfl sg74 rfl rfl <| mv0 rfl rfl <| el H fun t1087 h1088 H => cl rfl cal128 rfl (concourseref07_Depth.c h1088) <| mv0 rfl rfl <| Dv.bld (css := [[vI t1087], [vS a1]]) rfl trivial Tryz.underlying125 pl125 z125 rfl ⟨(cells_one (one_eq rfl)), ⟨(cells_one (one_eq rfl)), trivial⟩⟩ rfl rfl <| sx 0 rfl trivial rfl rfl cA sz125 rfl rfl rfl nofun ?_
 refine .fin ?_
 obtain rfl := Gets.out H
 exact rt i2 rfl () 2 [0,1] 2 (.cons (res_cells rfl Tryz.underlying125 rfl c125 (mem_at 0 rfl) rfl) .nil)
theorem concourseref09_Last.c {k : Nat} {a0 : RDag} {a1 : ByteArray} {r : Event × Bool} (h : concourseref09_Last.f k a0 a1 = some r) : Pt Tryz.prog 89 [agg (RDag.enc a0), vS a1] (tup [agg (Event.enc r.1), vB r.2]) := by
 unfold concourseref09_Last.f at h
 refine (Tr.body Tryz.func89 (c := _) rfl Tryz.ntmps89 (Nat.le_of_ble_eq_true rfl) fun R0 F => ?_).pt
 replace h := Gets.of h
 have H := h
 clear h
 refine WP.seq <| rg 3 3 <| Dv.box rfl trivial rfl cA nofun fun b1089 => al rfl trivial zc59 nofun fun b1090 => as0 rfl rfl <| .fin <| WP.seq <| rg 1 0 <| as0 rfl rfl <| .fin <| WP.seqn H id (fun p1091 : Int × Int × Bool => [(0, agg (RDag.enc a0)), (1, vS a1), (2, eq (.pointer (some ⟨b1089, 0, none⟩))), (4, eq (.pointer (some ⟨b1090, 0, none⟩))), (5, vB false), (6, vI p1091.1), (7, vI p1091.2.1), (13, vB p1091.2.2)]) (fun p1091 : Int × Int × Bool => [blk b1090 59 [vS (⟨#[]⟩ : ByteArray), vS (⟨#[]⟩ : ByteArray), eq (.slice none 0 0), vS (⟨#[]⟩ : ByteArray), vS (⟨#[]⟩ : ByteArray), vI 0], blk b1089 74 (RDag.enc a0)] ++ F) (fun p1091 H => ?_) (fun H => ?_)
 ·
  refine WP.seq <| WP.seq <| rg 2 0 <| mv0 rfl rfl <| bn0 rfl rfl rfl run_lt <| .fin <| cd H rfl (fun _ H => ?_) (fun _ H => ?_)
  ·
   refine WP.seq <| rg 3 2 <| Dv.bld (css := []) rfl trivial Tryz.underlying59 pl59 z59 rfl trivial rfl rfl <| sx 0 rfl trivial rfl rfl cA sz59 rfl rfl rfl nofun ?_
   refine as0 rfl rfl <| .fin ?_
   obtain rfl := Gets.out H
   exact rt i2 rfl () 2 [0,1] 2 (.cons (res_wk (res_cells rfl Tryz.underlying59 rfl c59 (mem_at 0 rfl) rfl) (wk_agg (.cons wk_id (.cons wk_id (.cons wk_nil (.cons wk_id (.cons wk_id (.cons wk_id .nil)))))))) (.cons (res_tmp rfl) .nil))
  refine WP.skip <| WP.seq <| rg 7 32 <| fb rfl trivial rfl fa74_1 <| ld 1 rfl trivial rfl sc54 rfl rfl <| mv0 rfl rfl <| gr H fun g1093 H => Dv.ixr rfl trivial rfl rfl Tryz.underlying54 Tryz.underlying59 c59 g1093.1 g1093.2 <| ldsR rfl trivial rfl sg59 rfl <| sx 0 rfl trivial rfl rfl cA sz59 rfl rfl rfl nofun ?_
  refine as0 rfl rfl <| .fin ?_
  obtain rfl := Gets.out H
  exact rt i2 rfl () 2 [0,1] 2 (.cons (res_cells rfl Tryz.underlying59 rfl c59 (mem_at 0 rfl) rfl) (.cons (res_tmp rfl) .nil))
 refine WP.seq <| rg 1 0 <| as0 rfl rfl <| .fin <| WP.block <| wg (sg 2 [0,1] 0) fun _ _ => ?_
 refine lp (fun j_ (p1113 : Int × Int) => concourseref09_Last.l0 k a0 a1 j_ p1113.1 p1113.2) ((-1), 0) H (fun p1113 => [(0, agg (RDag.enc a0)), (1, vS a1), (2, eq (.pointer (some ⟨b1089, 0, none⟩))), (4, eq (.pointer (some ⟨b1090, 0, none⟩))), (5, vB false), (6, vI p1113.1), (7, vI p1113.2)]) (fun p1113 => [blk b1090 59 [vS (⟨#[]⟩ : ByteArray), vS (⟨#[]⟩ : ByteArray), eq (.slice none 0 0), vS (⟨#[]⟩ : ByteArray), vS (⟨#[]⟩ : ByteArray), vI 0], blk b1089 74 (RDag.enc a0)] ++ F) ?_
 rintro j_ ⟨x1094, x1095⟩ H
 rcases j_ with _ | j1112
 ·
  exact (Gets.no H).elim
 replace H : Gets (concourseref09_Last.l0 k a0 a1 (j1112 + 1) x1094 x1095) _ := H
 rw [concourseref09_Last.l0] at H
 refine WP.seq <| WP.seq <| rg 5 0 <| mv0 rfl rfl <| fb rfl trivial rfl fa74_1 <| ld 1 rfl trivial rfl sc54 rfl rfl <| Dv.lenl rfl trivial rfl Tryz.underlying54 <| bn0 rfl rfl rfl run_lt <| .fin <| cd H rfl (fun _ H => ?_) (fun _ H => ?_)
 rotate_left
 ·
  refine WP.exit ?_
  replace H := Gets.out H
  exact jn (x1094, x1095, decide (x1095 < (a0.fL.length : Int))) H
 refine WP.skip <| WP.seq <| WP.block <| WP.seq <| WP.seq <| rg 17 0 <| fb rfl trivial rfl fa74_1 <| ld 1 rfl trivial rfl sc54 rfl rfl <| mv0 rfl rfl <| gr H fun g1097 H => Dv.ixr rfl trivial rfl rfl Tryz.underlying54 Tryz.underlying59 c59 g1097.1 g1097.2 <| fr rfl trivial rfl fa59_4 rfl <| ldR rfl trivial rfl sc9 rfl <| mv0 rfl rfl <| bn0 rfl rfl rfl run_sne <| mv0 rfl rfl ?_
 cases c1098 : !decide (((Event.K.at a0.fL x1095).fUser) = a1)
 rotate_left
 ·
  replace H := Gets.ct H c1098
  refine sk rfl rfl <| sk rfl rfl <| sk rfl rfl <| sk rfl rfl <| sk rfl rfl <| sk rfl rfl <| sk rfl rfl <| pt0 rfl rfl rfl <| .fin <| WP.cond rfl (fun _ => ?_) nofun
  exact WP.exit <| rg 3 0 <| mv0 rfl rfl <| bn0 rfl rfl rfl run_add <| as0 rfl rfl <| .fin <| bk j1112 (x1094, w64 (x1095 + 1)) H
 replace H := Gets.cf H c1098
 refine fb rfl (gg rfl) rfl fa74_1 <| ld 1 rfl (gg rfl) rfl sc54 rfl rfl <| mvg rfl rfl rfl <| gr H fun g1100 H => Dv.ixr rfl (gg rfl) rfl rfl Tryz.underlying54 Tryz.underlying59 c59 g1100.1 g1100.2 <| fr rfl (gg rfl) rfl fa59_5 rfl <| ldR rfl (gg rfl) rfl sc3 rfl <| bng rfl rfl rfl rfl run_eq <| pf0 rfl rfl rfl <| .fin <| cd H rfl (fun _ H => ?_) (fun _ H => ?_)
 ·
  exact WP.exit <| rg 3 0 <| mv0 rfl rfl <| bn0 rfl rfl rfl run_add <| as0 rfl rfl <| .fin <| bk j1112 (x1094, w64 (x1095 + 1)) H
 refine WP.skip <| WP.seq <| WP.seq <| rg 2 0 <| mv0 rfl rfl <| bn0 rfl rfl rfl run_lt <| .fin <| cd H rfl (fun _ H => ?_) (fun _ H => ?_)
 ·
  exact WP.seq <| rg 2 0 <| mv0 rfl rfl <| as0 rfl rfl <| .fin <| WP.exit <| rg 3 0 <| mv0 rfl rfl <| bn0 rfl rfl rfl run_add <| as0 rfl rfl <| .fin <| bk j1112 (x1095, w64 (x1095 + 1)) H
 refine WP.skip <| WP.seq <| dg Tryz.checked.mixed 18 0 <| lds 1 rfl trivial rfl sg74 rfl rfl <| fb rfl trivial rfl fa74_1 <| ld 1 rfl trivial rfl sc54 rfl rfl <| mv0 rfl rfl <| gr H fun g1103 H => Dv.ixr rfl trivial rfl rfl Tryz.underlying54 Tryz.underlying59 c59 g1103.1 g1103.2 <| fr rfl trivial rfl fa59_0 rfl <| ldR rfl trivial rfl sc9 rfl <| el H fun t1104 h1105 H => cl rfl cal115 rfl (concourseref07_Position.c h1105) <| lds 1 rfl trivial rfl sg74 rfl rfl <| fb rfl trivial rfl fa74_1 <| ld 1 rfl trivial rfl sc54 rfl rfl <| mv0 rfl rfl <| gr H fun g1106 H => Dv.ixr rfl trivial rfl rfl Tryz.underlying54 Tryz.underlying59 c59 g1106.1 g1106.2 <| fr rfl trivial rfl fa59_0 rfl <| ldR rfl trivial rfl sc9 rfl <| el H fun t1107 h1108 H => cl rfl cal115 rfl (concourseref07_Position.c h1108) <| el H fun t1109 h1110 H => cl rfl cal114 rfl (concourseref07_Before.c h1110) <| as0 rfl rfl <| .fin <| WP.seq <| rg 1 0 <| mv0 rfl rfl <| .fin <| cd H rfl (fun _ H => ?_) (fun _ H => ?_)
 rotate_left
 ·
  exact WP.skip <| rg 3 0 <| mv0 rfl rfl <| bn0 rfl rfl rfl run_add <| as0 rfl rfl <| .fin <| bk j1112 (x1094, w64 (x1095 + 1)) H
 exact rg 2 0 <| mv0 rfl rfl <| as0 rfl rfl <| .fin <| rg 3 0 <| mv0 rfl rfl <| bn0 rfl rfl rfl run_add <| as0 rfl rfl <| .fin <| bk j1112 (x1095, w64 (x1095 + 1)) H
theorem concourseref09_Joined.c {k : Nat} {a0 : RDag} {a1 : ByteArray} {r : Bool} (h : concourseref09_Joined.f k a0 a1 = some r) : Pt Tryz.prog 60 [agg (RDag.enc a0), vS a1] (vB r) := by
 unfold concourseref09_Joined.f at h
 refine (Tr.body Tryz.func60 (c := _) rfl Tryz.ntmps60 (Nat.le_of_ble_eq_true rfl) fun R0 F => ?_).pt
 replace h := Gets.of h
 have H := h
 clear h
 refine WP.seq <| rg 2 1 <| Dv.box rfl trivial rfl cA nofun fun b1114 => as0 rfl rfl <| .fin <| WP.seq <| rg 9 192 <| lds 0 rfl trivial rfl sg74 rfl rfl <| mv0 rfl rfl <| el H fun t1115 h1116 H => cl rfl cal89 rfl (concourseref09_Last.c h1116) <| mv0 rfl rfl <| ex0 rfl trivial rfl rfl <| ex0 rfl trivial rfl rfl <| al rfl trivial zc59 nofun fun b1117 => sx 0 rfl trivial rfl rfl cA sz59 rfl rfl rfl nofun ?_
 refine as0 rfl rfl <| .fin <| WP.seq <| rg 7 0 <| mv0 rfl rfl <| mv0 rfl rfl ?_
 cases c1118 : t1115.2
 ·
  replace H := Gets.cf H c1118
  refine sk rfl rfl <| sk rfl rfl <| sk rfl rfl <| pf0 rfl rfl rfl <| as0 rfl rfl <| .fin ?_
  obtain rfl := Gets.out H
  exact rt i2 rfl () 2 [0,1] 2 (.cons (res_tmp rfl) .nil)
 replace H := Gets.ct H c1118
 refine fb rfl (gg rfl) rfl fa59_5 <| ld 0 rfl (gg rfl) rfl sc3 rfl rfl <| bng rfl rfl rfl rfl run_eq <| pt0 rfl rfl rfl <| as0 rfl rfl <| .fin ?_
 obtain rfl := Gets.out H
 exact rt i2 rfl () 2 [0,1] 2 (.cons (res_tmp rfl) .nil)
theorem concourseref10_Joined.c {k : Nat} {a0 : RView} {a1 : ByteArray} {a2 : ByteArray} {r : Bool} (h : concourseref10_Joined.f k a0 a1 a2 = some r) : Pt Tryz.prog 28 [agg (RView.enc a0), vS a1, vS a2] (vB r) := by
 unfold concourseref10_Joined.f at h
 refine (Tr.body Tryz.func28 (c := _) rfl Tryz.ntmps28 (Nat.le_of_ble_eq_true rfl) fun R0 F => ?_).pt
 replace h := Gets.of h
 have H := h
 clear h
 refine WP.seq <| rg 2 1 <| Dv.box rfl trivial rfl cA nofun fun b1119 => as0 rfl rfl <| .fin <| WP.seq <| rg 6 0 <| lds 0 rfl trivial rfl sg28 rfl rfl <| mv0 rfl rfl <| el H fun t1120 h1121 H => cl rfl cal61 rfl (concourseref10_Of.c h1121) <| mv0 rfl rfl <| el H fun t1122 h1123 H => cl rfl cal60 rfl (concourseref09_Joined.c h1123) <| as0 rfl rfl <| .fin ?_
 obtain rfl := Gets.out H
 exact rt i2 rfl () 1 [0] 1 (.cons (res_tmp rfl) .nil)
theorem concourseref01_Thread.c {k : Nat} {a0 : ByteArray} {r : Bool} (h : concourseref01_Thread.f k a0 = some r) : Pt Tryz.prog 87 [vS a0] (vB r) := by
 unfold concourseref01_Thread.f at h
 refine (Tr.body Tryz.func87 (c := _) rfl Tryz.ntmps87 (Nat.le_of_ble_eq_true rfl) fun R0 F => ?_).pt
 replace h := Gets.of h
 have H := h
 clear h
 refine WP.seq <| rg 1 0 <| as0 rfl rfl <| .fin <| WP.seq <| rg 3 0 <| mv0 rfl rfl <| el H fun t1124 h1125 H => cl rfl cal86 rfl (concourseref01_Event.c h1125) <| as0 rfl rfl <| .fin <| WP.seq <| rg 10 0 <| mv0 rfl rfl <| bn0 rfl rfl rfl run_seq <| mv0 rfl rfl ?_
 cases c1126 : decide (a0 = (⟨#[]⟩ : ByteArray))
 rotate_left
 ·
  replace H := Gets.ct H c1126
  refine sk rfl rfl <| sk rfl rfl <| pt0 rfl rfl rfl <| mv0 rfl rfl <| sk rfl rfl <| pt0 rfl rfl rfl <| as0 rfl rfl <| .fin ?_
  obtain rfl := Gets.out H
  exact rt i2 rfl () 0 [] 0 (.cons (res_tmp rfl) .nil)
 replace H := Gets.cf H c1126
 refine mvg rfl rfl rfl <| bng rfl rfl rfl rfl run_seq <| pf0 rfl rfl rfl <| mv0 rfl rfl ?_
 cases c1127 : decide (a0 = (⟨#[109, 97, 105, 110]⟩ : ByteArray))
 rotate_left
 ·
  replace H := Gets.ct H c1127
  refine sk rfl rfl <| pt0 rfl rfl rfl <| as0 rfl rfl <| .fin ?_
  obtain rfl := Gets.out H
  exact rt i2 rfl () 0 [] 0 (.cons (res_tmp rfl) .nil)
 replace H := Gets.cf H c1127
 refine mvg rfl rfl rfl <| pf0 rfl rfl rfl <| as0 rfl rfl <| .fin ?_
 obtain rfl := Gets.out H
 exact rt i2 rfl () 0 [] 0 (.cons (res_tmp rfl) .nil)
theorem concourseref03_Local.c {k : Nat} {a0 : Edu} {r : Bool} (h : concourseref03_Local.f k a0 = some r) : Pt Tryz.prog 55 [agg (Edu.enc a0)] (vB r) := by
 unfold concourseref03_Local.f at h
 refine (Tr.body Tryz.func55 (c := _) rfl Tryz.ntmps55 (Nat.le_of_ble_eq_true rfl) fun R0 F => ?_).pt
 replace h := Gets.of h
 have H := h
 clear h
 refine WP.seq <| rg 2 1 <| Dv.box rfl trivial rfl cA nofun fun b1128 => as0 rfl rfl <| .fin <| WP.seq <| rg 4 0 <| fb rfl trivial rfl fa24_2 <| ld 0 rfl trivial rfl sc9 rfl rfl <| el H fun t1129 h1130 H => cl rfl cal62 rfl (concourseref01_Named.c h1130) <| as0 rfl rfl <| .fin <| WP.seq <| rg 4 0 <| fb rfl trivial rfl fa24_1 <| ld 0 rfl trivial rfl sc9 rfl rfl <| el H fun t1131 h1132 H => cl rfl cal62 rfl (concourseref01_Named.c h1132) <| as0 rfl rfl <| .fin <| WP.seq <| rg 4 0 <| fb rfl trivial rfl fa24_3 <| ld 0 rfl trivial rfl sc9 rfl rfl <| el H fun t1133 h1134 H => cl rfl cal86 rfl (concourseref01_Event.c h1134) <| as0 rfl rfl <| .fin <| WP.seq <| rg 4 0 <| fb rfl trivial rfl fa24_4 <| ld 0 rfl trivial rfl sc9 rfl rfl <| el H fun t1135 h1136 H => cl rfl cal87 rfl (concourseref01_Thread.c h1136) <| as0 rfl rfl <| .fin <| WP.seq <| WP.seq <| rg 22 0 <| mv0 rfl rfl <| un0 rfl rfl (run_not _) <| mv0 rfl rfl ?_
 cases c1137 : !t1129
 rotate_left
 ·
  replace H := Gets.ct H c1137
  refine sk rfl rfl <| sk rfl rfl <| sk rfl rfl <| pt0 rfl rfl rfl <| mv0 rfl rfl <| sk rfl rfl <| sk rfl rfl <| sk rfl rfl <| pt0 rfl rfl rfl <| mv0 rfl rfl <| sk rfl rfl <| sk rfl rfl <| sk rfl rfl <| pt0 rfl rfl rfl <| mv0 rfl rfl <| sk rfl rfl <| sk rfl rfl <| sk rfl rfl <| pt0 rfl rfl rfl <| .fin <| WP.cond rfl (fun _ => ?_) nofun
  refine WP.seq <| rg 1 0 <| as0 rfl rfl <| .fin ?_
  obtain rfl := Gets.out H
  exact rt i2 rfl () 1 [0] 1 (.cons (res_tmp rfl) .nil)
 replace H := Gets.cf H c1137
 refine fb rfl (gg rfl) rfl fa24_9 <| ld 0 rfl (gg rfl) rfl sc3 rfl rfl <| bng rfl rfl rfl rfl run_lt <| pf0 rfl rfl rfl <| mv0 rfl rfl ?_
 cases c1139 : decide (a0.fTick < 0)
 rotate_left
 ·
  replace H := Gets.ct H c1139
  refine sk rfl rfl <| sk rfl rfl <| sk rfl rfl <| pt0 rfl rfl rfl <| mv0 rfl rfl <| sk rfl rfl <| sk rfl rfl <| sk rfl rfl <| pt0 rfl rfl rfl <| mv0 rfl rfl <| sk rfl rfl <| sk rfl rfl <| sk rfl rfl <| pt0 rfl rfl rfl <| .fin <| WP.cond rfl (fun _ => ?_) nofun
  refine WP.seq <| rg 1 0 <| as0 rfl rfl <| .fin ?_
  obtain rfl := Gets.out H
  exact rt i2 rfl () 1 [0] 1 (.cons (res_tmp rfl) .nil)
 replace H := Gets.cf H c1139
 refine fb rfl (gg rfl) rfl fa24_9 <| ld 0 rfl (gg rfl) rfl sc3 rfl rfl <| bng rfl rfl rfl rfl run_gt <| pf0 rfl rfl rfl <| mv0 rfl rfl ?_
 cases c1141 : decide (1099511627776 < a0.fTick)
 rotate_left
 ·
  replace H := Gets.ct H c1141
  refine sk rfl rfl <| sk rfl rfl <| sk rfl rfl <| pt0 rfl rfl rfl <| mv0 rfl rfl <| sk rfl rfl <| sk rfl rfl <| sk rfl rfl <| pt0 rfl rfl rfl <| .fin <| WP.cond rfl (fun _ => ?_) nofun
  refine WP.seq <| rg 1 0 <| as0 rfl rfl <| .fin ?_
  obtain rfl := Gets.out H
  exact rt i2 rfl () 1 [0] 1 (.cons (res_tmp rfl) .nil)
 replace H := Gets.cf H c1141
 refine fb rfl (gg rfl) rfl fa24_10 <| ld 0 rfl (gg rfl) rfl sc3 rfl rfl <| bng rfl rfl rfl rfl run_lt <| pf0 rfl rfl rfl <| mv0 rfl rfl ?_
 cases c1143 : decide (a0.fStamp < 0)
 rotate_left
 ·
  replace H := Gets.ct H c1143
  refine sk rfl rfl <| sk rfl rfl <| sk rfl rfl <| pt0 rfl rfl rfl <| .fin <| WP.cond rfl (fun _ => ?_) nofun
  refine WP.seq <| rg 1 0 <| as0 rfl rfl <| .fin ?_
  obtain rfl := Gets.out H
  exact rt i2 rfl () 1 [0] 1 (.cons (res_tmp rfl) .nil)
 replace H := Gets.cf H c1143
 refine fb rfl (gg rfl) rfl fa24_10 <| ld 0 rfl (gg rfl) rfl sc3 rfl rfl <| bng rfl rfl rfl rfl run_gt <| pf0 rfl rfl rfl <| .fin <| cd H rfl (fun _ H => ?_) (fun _ H => ?_)
 ·
  refine WP.seq <| rg 1 0 <| as0 rfl rfl <| .fin ?_
  obtain rfl := Gets.out H
  exact rt i2 rfl () 1 [0] 1 (.cons (res_tmp rfl) .nil)
 refine WP.skip <| WP.seq <| WP.seq <| rg 2 0 <| fb rfl trivial rfl fa24_0 <| ld 0 rfl trivial rfl sc3 rfl rfl <| .fin <| WP.block <| WP.seq <| rg 2 0 <| bn0 rfl rfl rfl run_eq <| as0 rfl rfl <| .fin <| cd H rfl (fun _ H => ?_) (fun _ H => ?_)
 ·
  refine WP.seq <| rg 23 0 <| mv0 rfl rfl <| mv0 rfl rfl ?_
  cases c1147 : t1131
  ·
   replace H := Gets.cf H c1147
   refine sk rfl rfl <| pf0 rfl rfl rfl <| mv0 rfl rfl <| sk rfl rfl <| pf0 rfl rfl rfl <| mv0 rfl rfl <| sk rfl rfl <| sk rfl rfl <| sk rfl rfl <| pf0 rfl rfl rfl <| mv0 rfl rfl <| sk rfl rfl <| sk rfl rfl <| sk rfl rfl <| pf0 rfl rfl rfl <| mv0 rfl rfl <| sk rfl rfl <| sk rfl rfl <| sk rfl rfl <| pf0 rfl rfl rfl <| as0 rfl rfl <| .fin ?_
   obtain rfl := Gets.out H
   exact rt i2 rfl () 1 [0] 1 (.cons (res_tmp rfl) .nil)
  replace H := Gets.ct H c1147
  refine mvg rfl rfl rfl <| pt0 rfl rfl rfl <| mv0 rfl rfl ?_
  cases c1148 : t1133
  ·
   replace H := Gets.cf H c1148
   refine sk rfl rfl <| pf0 rfl rfl rfl <| mv0 rfl rfl <| sk rfl rfl <| sk rfl rfl <| sk rfl rfl <| pf0 rfl rfl rfl <| mv0 rfl rfl <| sk rfl rfl <| sk rfl rfl <| sk rfl rfl <| pf0 rfl rfl rfl <| mv0 rfl rfl <| sk rfl rfl <| sk rfl rfl <| sk rfl rfl <| pf0 rfl rfl rfl <| as0 rfl rfl <| .fin ?_
   obtain rfl := Gets.out H
   exact rt i2 rfl () 1 [0] 1 (.cons (res_tmp rfl) .nil)
  replace H := Gets.ct H c1148
  refine mvg rfl rfl rfl <| pt0 rfl rfl rfl <| mv0 rfl rfl ?_
  cases c1149 : t1135
  ·
   replace H := Gets.cf H c1149
   refine sk rfl rfl <| sk rfl rfl <| sk rfl rfl <| pf0 rfl rfl rfl <| mv0 rfl rfl <| sk rfl rfl <| sk rfl rfl <| sk rfl rfl <| pf0 rfl rfl rfl <| mv0 rfl rfl <| sk rfl rfl <| sk rfl rfl <| sk rfl rfl <| pf0 rfl rfl rfl <| as0 rfl rfl <| .fin ?_
   obtain rfl := Gets.out H
   exact rt i2 rfl () 1 [0] 1 (.cons (res_tmp rfl) .nil)
  replace H := Gets.ct H c1149
  refine fb rfl (gg rfl) rfl fa24_6 <| ld 0 rfl (gg rfl) rfl sc4 rfl rfl <| ung rfl rfl rfl (run_not _) <| pt0 rfl rfl rfl <| mv0 rfl rfl ?_
  cases c1150 : !a0.fOn
  ·
   replace H := Gets.cf H c1150
   refine sk rfl rfl <| sk rfl rfl <| sk rfl rfl <| pf0 rfl rfl rfl <| mv0 rfl rfl <| sk rfl rfl <| sk rfl rfl <| sk rfl rfl <| pf0 rfl rfl rfl <| as0 rfl rfl <| .fin ?_
   obtain rfl := Gets.out H
   exact rt i2 rfl () 1 [0] 1 (.cons (res_tmp rfl) .nil)
  replace H := Gets.ct H c1150
  refine fb rfl (gg rfl) rfl fa24_7 <| ld 0 rfl (gg rfl) rfl sc3 rfl rfl <| bng rfl rfl rfl rfl run_eq <| pt0 rfl rfl rfl <| mv0 rfl rfl ?_
  cases c1151 : (a0.fSpan == 0)
  ·
   replace H := Gets.cf H c1151
   refine sk rfl rfl <| sk rfl rfl <| sk rfl rfl <| pf0 rfl rfl rfl <| as0 rfl rfl <| .fin ?_
   obtain rfl := Gets.out H
   exact rt i2 rfl () 1 [0] 1 (.cons (res_tmp rfl) .nil)
  replace H := Gets.ct H c1151
  refine fb rfl (gg rfl) rfl fa24_8 <| ld 0 rfl (gg rfl) rfl sc3 rfl rfl <| bng rfl rfl rfl rfl run_eq <| pt0 rfl rfl rfl <| as0 rfl rfl <| .fin ?_
  obtain rfl := Gets.out H
  exact rt i2 rfl () 1 [0] 1 (.cons (res_tmp rfl) .nil)
 refine WP.seq <| rg 2 0 <| bn0 rfl rfl rfl run_eq <| as0 rfl rfl <| .fin <| cd H rfl (fun _ H => ?_) (fun _ H => ?_)
 rotate_left
 ·
  refine WP.seq <| rg 2 0 <| bn0 rfl rfl rfl run_eq <| as0 rfl rfl <| .fin <| cd H rfl (fun _ H => ?_) (fun _ H => ?_)
  rotate_left
  ·
   refine WP.skip <| WP.seq <| rg 1 0 <| as0 rfl rfl <| .fin ?_
   obtain rfl := Gets.out H
   exact rt i2 rfl () 1 [0] 1 (.cons (res_tmp rfl) .nil)
  refine WP.seq <| rg 39 0 <| fb rfl trivial rfl fa24_1 <| ld 0 rfl trivial rfl sc9 rfl rfl <| bn0 rfl rfl rfl run_seq <| mv0 rfl rfl ?_
  cases c1182 : decide (a0.fRoom = (⟨#[]⟩ : ByteArray))
  ·
   replace H := Gets.cf H c1182
   refine sk rfl rfl <| sk rfl rfl <| sk rfl rfl <| pf0 rfl rfl rfl <| mv0 rfl rfl <| sk rfl rfl <| sk rfl rfl <| sk rfl rfl <| pf0 rfl rfl rfl <| mv0 rfl rfl <| sk rfl rfl <| sk rfl rfl <| sk rfl rfl <| pf0 rfl rfl rfl <| mv0 rfl rfl <| sk rfl rfl <| sk rfl rfl <| sk rfl rfl <| pf0 rfl rfl rfl <| mv0 rfl rfl <| sk rfl rfl <| sk rfl rfl <| sk rfl rfl <| pf0 rfl rfl rfl <| mv0 rfl rfl <| sk rfl rfl <| sk rfl rfl <| sk rfl rfl <| pf0 rfl rfl rfl <| mv0 rfl rfl <| sk rfl rfl <| sk rfl rfl <| sk rfl rfl <| pf0 rfl rfl rfl <| as0 rfl rfl <| .fin ?_
   obtain rfl := Gets.out H
   exact rt i2 rfl () 1 [0] 1 (.cons (res_tmp rfl) .nil)
  replace H := Gets.ct H c1182
  refine fb rfl (gg rfl) rfl fa24_3 <| ld 0 rfl (gg rfl) rfl sc9 rfl rfl <| bng rfl rfl rfl rfl run_seq <| pt0 rfl rfl rfl <| mv0 rfl rfl ?_
  cases c1183 : decide (a0.fEvent = (⟨#[]⟩ : ByteArray))
  ·
   replace H := Gets.cf H c1183
   refine sk rfl rfl <| sk rfl rfl <| sk rfl rfl <| pf0 rfl rfl rfl <| mv0 rfl rfl <| sk rfl rfl <| sk rfl rfl <| sk rfl rfl <| pf0 rfl rfl rfl <| mv0 rfl rfl <| sk rfl rfl <| sk rfl rfl <| sk rfl rfl <| pf0 rfl rfl rfl <| mv0 rfl rfl <| sk rfl rfl <| sk rfl rfl <| sk rfl rfl <| pf0 rfl rfl rfl <| mv0 rfl rfl <| sk rfl rfl <| sk rfl rfl <| sk rfl rfl <| pf0 rfl rfl rfl <| mv0 rfl rfl <| sk rfl rfl <| sk rfl rfl <| sk rfl rfl <| pf0 rfl rfl rfl <| as0 rfl rfl <| .fin ?_
   obtain rfl := Gets.out H
   exact rt i2 rfl () 1 [0] 1 (.cons (res_tmp rfl) .nil)
  replace H := Gets.ct H c1183
  refine fb rfl (gg rfl) rfl fa24_4 <| ld 0 rfl (gg rfl) rfl sc9 rfl rfl <| bng rfl rfl rfl rfl run_seq <| pt0 rfl rfl rfl <| mv0 rfl rfl ?_
  cases c1184 : decide (a0.fThread = (⟨#[]⟩ : ByteArray))
  ·
   replace H := Gets.cf H c1184
   refine sk rfl rfl <| sk rfl rfl <| sk rfl rfl <| pf0 rfl rfl rfl <| mv0 rfl rfl <| sk rfl rfl <| sk rfl rfl <| sk rfl rfl <| pf0 rfl rfl rfl <| mv0 rfl rfl <| sk rfl rfl <| sk rfl rfl <| sk rfl rfl <| pf0 rfl rfl rfl <| mv0 rfl rfl <| sk rfl rfl <| sk rfl rfl <| sk rfl rfl <| pf0 rfl rfl rfl <| mv0 rfl rfl <| sk rfl rfl <| sk rfl rfl <| sk rfl rfl <| pf0 rfl rfl rfl <| as0 rfl rfl <| .fin ?_
   obtain rfl := Gets.out H
   exact rt i2 rfl () 1 [0] 1 (.cons (res_tmp rfl) .nil)
  replace H := Gets.ct H c1184
  refine fb rfl (gg rfl) rfl fa24_6 <| ld 0 rfl (gg rfl) rfl sc4 rfl rfl <| ung rfl rfl rfl (run_not _) <| pt0 rfl rfl rfl <| mv0 rfl rfl ?_
  cases c1185 : !a0.fOn
  ·
   replace H := Gets.cf H c1185
   refine sk rfl rfl <| sk rfl rfl <| sk rfl rfl <| pf0 rfl rfl rfl <| mv0 rfl rfl <| sk rfl rfl <| sk rfl rfl <| sk rfl rfl <| pf0 rfl rfl rfl <| mv0 rfl rfl <| sk rfl rfl <| sk rfl rfl <| sk rfl rfl <| pf0 rfl rfl rfl <| mv0 rfl rfl <| sk rfl rfl <| sk rfl rfl <| sk rfl rfl <| pf0 rfl rfl rfl <| as0 rfl rfl <| .fin ?_
   obtain rfl := Gets.out H
   exact rt i2 rfl () 1 [0] 1 (.cons (res_tmp rfl) .nil)
  replace H := Gets.ct H c1185
  refine fb rfl (gg rfl) rfl fa24_7 <| ld 0 rfl (gg rfl) rfl sc3 rfl rfl <| bng rfl rfl rfl rfl run_eq <| pt0 rfl rfl rfl <| mv0 rfl rfl ?_
  cases c1186 : (a0.fSpan == 0)
  ·
   replace H := Gets.cf H c1186
   refine sk rfl rfl <| sk rfl rfl <| sk rfl rfl <| pf0 rfl rfl rfl <| mv0 rfl rfl <| sk rfl rfl <| sk rfl rfl <| sk rfl rfl <| pf0 rfl rfl rfl <| mv0 rfl rfl <| sk rfl rfl <| sk rfl rfl <| sk rfl rfl <| pf0 rfl rfl rfl <| as0 rfl rfl <| .fin ?_
   obtain rfl := Gets.out H
   exact rt i2 rfl () 1 [0] 1 (.cons (res_tmp rfl) .nil)
  replace H := Gets.ct H c1186
  refine fb rfl (gg rfl) rfl fa24_5 <| ld 0 rfl (gg rfl) rfl sc4 rfl rfl <| ung rfl rfl rfl (run_not _) <| pt0 rfl rfl rfl <| mv0 rfl rfl ?_
  cases c1187 : !a0.fPrivate
  ·
   replace H := Gets.cf H c1187
   refine sk rfl rfl <| sk rfl rfl <| sk rfl rfl <| pf0 rfl rfl rfl <| mv0 rfl rfl <| sk rfl rfl <| sk rfl rfl <| sk rfl rfl <| pf0 rfl rfl rfl <| as0 rfl rfl <| .fin ?_
   obtain rfl := Gets.out H
   exact rt i2 rfl () 1 [0] 1 (.cons (res_tmp rfl) .nil)
  replace H := Gets.ct H c1187
  refine fb rfl (gg rfl) rfl fa24_8 <| ld 0 rfl (gg rfl) rfl sc3 rfl rfl <| bng rfl rfl rfl rfl run_ge <| pt0 rfl rfl rfl <| mv0 rfl rfl ?_
  cases c1188 : decide (0 ≤ a0.fState)
  ·
   replace H := Gets.cf H c1188
   refine sk rfl rfl <| sk rfl rfl <| sk rfl rfl <| pf0 rfl rfl rfl <| as0 rfl rfl <| .fin ?_
   obtain rfl := Gets.out H
   exact rt i2 rfl () 1 [0] 1 (.cons (res_tmp rfl) .nil)
  replace H := Gets.ct H c1188
  refine fb rfl (gg rfl) rfl fa24_8 <| ld 0 rfl (gg rfl) rfl sc3 rfl rfl <| bng rfl rfl rfl rfl run_le <| pt0 rfl rfl rfl <| as0 rfl rfl <| .fin ?_
  obtain rfl := Gets.out H
  exact rt i2 rfl () 1 [0] 1 (.cons (res_tmp rfl) .nil)
 refine WP.seq <| rg 23 0 <| fb rfl trivial rfl fa24_6 <| ld 0 rfl trivial rfl sc4 rfl rfl <| mv0 rfl rfl ?_
 cases c1153 : a0.fOn
 ·
  replace H := Gets.cf H c1153
  refine sk rfl rfl <| sk rfl rfl <| sk rfl rfl <| pf0 rfl rfl rfl <| mv0 rfl rfl <| sk rfl rfl <| sk rfl rfl <| sk rfl rfl <| pf0 rfl rfl rfl <| mv0 rfl rfl <| fb rfl (gg rfl) rfl fa24_6 <| ld 0 rfl (gg rfl) rfl sc4 rfl rfl <| ung rfl rfl rfl (run_not _) <| mvg rfl rfl rfl ?_
  cases c1174 : !a0.fOn
  ·
   replace H := Gets.cf H c1174
   refine sk rfl rfl <| sk rfl rfl <| sk rfl rfl <| pfg rfl rfl rfl rfl <| pf0 rfl rfl rfl <| as0 rfl rfl <| .fin <| WP.seq <| rg 25 0 <| mv0 rfl rfl <| mv0 rfl rfl ?_
   cases c1180 : t1131
   ·
    replace H := Gets.cf H c1180
    refine sk rfl rfl <| pf0 rfl rfl rfl <| mv0 rfl rfl <| sk rfl rfl <| sk rfl rfl <| sk rfl rfl <| pf0 rfl rfl rfl <| mv0 rfl rfl <| sk rfl rfl <| sk rfl rfl <| sk rfl rfl <| pf0 rfl rfl rfl <| mv0 rfl rfl <| sk rfl rfl <| sk rfl rfl <| sk rfl rfl <| pf0 rfl rfl rfl <| mv0 rfl rfl <| sk rfl rfl <| sk rfl rfl <| sk rfl rfl <| pf0 rfl rfl rfl <| as0 rfl rfl <| .fin ?_
    obtain rfl := Gets.out H
    exact rt i2 rfl () 1 [0] 1 (.cons (res_tmp rfl) .nil)
   replace H := Gets.ct H c1180
   refine mvg rfl rfl rfl <| pt0 rfl rfl rfl <| mv0 rfl rfl <| sk rfl rfl <| sk rfl rfl <| sk rfl rfl <| pf0 rfl rfl rfl <| mv0 rfl rfl <| sk rfl rfl <| sk rfl rfl <| sk rfl rfl <| pf0 rfl rfl rfl <| mv0 rfl rfl <| sk rfl rfl <| sk rfl rfl <| sk rfl rfl <| pf0 rfl rfl rfl <| mv0 rfl rfl <| sk rfl rfl <| sk rfl rfl <| sk rfl rfl <| pf0 rfl rfl rfl <| as0 rfl rfl <| .fin ?_
   obtain rfl := Gets.out H
   exact rt i2 rfl () 1 [0] 1 (.cons (res_tmp rfl) .nil)
  replace H := Gets.ct H c1174
  refine fb rfl (gg rfl) rfl fa24_7 <| ld 0 rfl (gg rfl) rfl sc3 rfl rfl <| bng rfl rfl rfl rfl run_eq <| ptg rfl rfl rfl rfl <| pf0 rfl rfl rfl <| as0 rfl rfl <| .fin <| WP.seq <| rg 25 0 <| mv0 rfl rfl <| mv0 rfl rfl ?_
  cases c1175 : t1131
  ·
   replace H := Gets.cf H c1175
   refine sk rfl rfl <| pf0 rfl rfl rfl <| mv0 rfl rfl <| sk rfl rfl <| sk rfl rfl <| sk rfl rfl <| pf0 rfl rfl rfl <| mv0 rfl rfl <| sk rfl rfl <| sk rfl rfl <| sk rfl rfl <| pf0 rfl rfl rfl <| mv0 rfl rfl <| sk rfl rfl <| sk rfl rfl <| sk rfl rfl <| pf0 rfl rfl rfl <| mv0 rfl rfl <| sk rfl rfl <| sk rfl rfl <| sk rfl rfl <| pf0 rfl rfl rfl <| as0 rfl rfl <| .fin ?_
   obtain rfl := Gets.out H
   exact rt i2 rfl () 1 [0] 1 (.cons (res_tmp rfl) .nil)
  replace H := Gets.ct H c1175
  refine mvg rfl rfl rfl <| pt0 rfl rfl rfl <| mv0 rfl rfl ?_
  cases c1176 : (a0.fSpan == 0)
  ·
   replace H := Gets.cf H c1176
   refine sk rfl rfl <| sk rfl rfl <| sk rfl rfl <| pf0 rfl rfl rfl <| mv0 rfl rfl <| sk rfl rfl <| sk rfl rfl <| sk rfl rfl <| pf0 rfl rfl rfl <| mv0 rfl rfl <| sk rfl rfl <| sk rfl rfl <| sk rfl rfl <| pf0 rfl rfl rfl <| mv0 rfl rfl <| sk rfl rfl <| sk rfl rfl <| sk rfl rfl <| pf0 rfl rfl rfl <| as0 rfl rfl <| .fin ?_
   obtain rfl := Gets.out H
   exact rt i2 rfl () 1 [0] 1 (.cons (res_tmp rfl) .nil)
  replace H := Gets.ct H c1176
  refine fb rfl (gg rfl) rfl fa24_3 <| ld 0 rfl (gg rfl) rfl sc9 rfl rfl <| bng rfl rfl rfl rfl run_seq <| pt0 rfl rfl rfl <| mv0 rfl rfl ?_
  cases c1177 : decide (a0.fEvent = (⟨#[]⟩ : ByteArray))
  ·
   replace H := Gets.cf H c1177
   refine sk rfl rfl <| sk rfl rfl <| sk rfl rfl <| pf0 rfl rfl rfl <| mv0 rfl rfl <| sk rfl rfl <| sk rfl rfl <| sk rfl rfl <| pf0 rfl rfl rfl <| mv0 rfl rfl <| sk rfl rfl <| sk rfl rfl <| sk rfl rfl <| pf0 rfl rfl rfl <| as0 rfl rfl <| .fin ?_
   obtain rfl := Gets.out H
   exact rt i2 rfl () 1 [0] 1 (.cons (res_tmp rfl) .nil)
  replace H := Gets.ct H c1177
  refine fb rfl (gg rfl) rfl fa24_4 <| ld 0 rfl (gg rfl) rfl sc9 rfl rfl <| bng rfl rfl rfl rfl run_seq <| pt0 rfl rfl rfl <| mv0 rfl rfl ?_
  cases c1178 : decide (a0.fThread = (⟨#[]⟩ : ByteArray))
  ·
   replace H := Gets.cf H c1178
   refine sk rfl rfl <| sk rfl rfl <| sk rfl rfl <| pf0 rfl rfl rfl <| mv0 rfl rfl <| sk rfl rfl <| sk rfl rfl <| sk rfl rfl <| pf0 rfl rfl rfl <| as0 rfl rfl <| .fin ?_
   obtain rfl := Gets.out H
   exact rt i2 rfl () 1 [0] 1 (.cons (res_tmp rfl) .nil)
  replace H := Gets.ct H c1178
  refine fb rfl (gg rfl) rfl fa24_8 <| ld 0 rfl (gg rfl) rfl sc3 rfl rfl <| bng rfl rfl rfl rfl run_eq <| pt0 rfl rfl rfl <| mv0 rfl rfl ?_
  cases c1179 : (a0.fState == 0)
  ·
   replace H := Gets.cf H c1179
   refine sk rfl rfl <| sk rfl rfl <| sk rfl rfl <| pf0 rfl rfl rfl <| as0 rfl rfl <| .fin ?_
   obtain rfl := Gets.out H
   exact rt i2 rfl () 1 [0] 1 (.cons (res_tmp rfl) .nil)
  replace H := Gets.ct H c1179
  refine fb rfl (gg rfl) rfl fa24_5 <| ld 0 rfl (gg rfl) rfl sc4 rfl rfl <| ung rfl rfl rfl (run_not _) <| pt0 rfl rfl rfl <| as0 rfl rfl <| .fin ?_
  obtain rfl := Gets.out H
  exact rt i2 rfl () 1 [0] 1 (.cons (res_tmp rfl) .nil)
 replace H := Gets.ct H c1153
 refine fb rfl (gg rfl) rfl fa24_7 <| ld 0 rfl (gg rfl) rfl sc3 rfl rfl <| bng rfl rfl rfl rfl run_ge <| pt0 rfl rfl rfl <| mv0 rfl rfl ?_
 cases c1154 : decide (1 ≤ a0.fSpan)
 ·
  replace H := Gets.cf H c1154
  refine sk rfl rfl <| sk rfl rfl <| sk rfl rfl <| pf0 rfl rfl rfl <| mv0 rfl rfl <| fb rfl (gg rfl) rfl fa24_6 <| ld 0 rfl (gg rfl) rfl sc4 rfl rfl <| ung rfl rfl rfl (run_not _) <| mvg rfl rfl rfl ?_
  cases c1167 : !a0.fOn
  ·
   replace H := Gets.cf H c1167
   refine sk rfl rfl <| sk rfl rfl <| sk rfl rfl <| pfg rfl rfl rfl rfl <| pf0 rfl rfl rfl <| as0 rfl rfl <| .fin <| WP.seq <| rg 25 0 <| mv0 rfl rfl <| mv0 rfl rfl ?_
   cases c1173 : t1131
   ·
    replace H := Gets.cf H c1173
    refine sk rfl rfl <| pf0 rfl rfl rfl <| mv0 rfl rfl <| sk rfl rfl <| sk rfl rfl <| sk rfl rfl <| pf0 rfl rfl rfl <| mv0 rfl rfl <| sk rfl rfl <| sk rfl rfl <| sk rfl rfl <| pf0 rfl rfl rfl <| mv0 rfl rfl <| sk rfl rfl <| sk rfl rfl <| sk rfl rfl <| pf0 rfl rfl rfl <| mv0 rfl rfl <| sk rfl rfl <| sk rfl rfl <| sk rfl rfl <| pf0 rfl rfl rfl <| as0 rfl rfl <| .fin ?_
    obtain rfl := Gets.out H
    exact rt i2 rfl () 1 [0] 1 (.cons (res_tmp rfl) .nil)
   replace H := Gets.ct H c1173
   refine mvg rfl rfl rfl <| pt0 rfl rfl rfl <| mv0 rfl rfl <| sk rfl rfl <| sk rfl rfl <| sk rfl rfl <| pf0 rfl rfl rfl <| mv0 rfl rfl <| sk rfl rfl <| sk rfl rfl <| sk rfl rfl <| pf0 rfl rfl rfl <| mv0 rfl rfl <| sk rfl rfl <| sk rfl rfl <| sk rfl rfl <| pf0 rfl rfl rfl <| mv0 rfl rfl <| sk rfl rfl <| sk rfl rfl <| sk rfl rfl <| pf0 rfl rfl rfl <| as0 rfl rfl <| .fin ?_
   obtain rfl := Gets.out H
   exact rt i2 rfl () 1 [0] 1 (.cons (res_tmp rfl) .nil)
  replace H := Gets.ct H c1167
  refine fb rfl (gg rfl) rfl fa24_7 <| ld 0 rfl (gg rfl) rfl sc3 rfl rfl <| bng rfl rfl rfl rfl run_eq <| ptg rfl rfl rfl rfl <| pf0 rfl rfl rfl <| as0 rfl rfl <| .fin <| WP.seq <| rg 25 0 <| mv0 rfl rfl <| mv0 rfl rfl ?_
  cases c1168 : t1131
  ·
   replace H := Gets.cf H c1168
   refine sk rfl rfl <| pf0 rfl rfl rfl <| mv0 rfl rfl <| sk rfl rfl <| sk rfl rfl <| sk rfl rfl <| pf0 rfl rfl rfl <| mv0 rfl rfl <| sk rfl rfl <| sk rfl rfl <| sk rfl rfl <| pf0 rfl rfl rfl <| mv0 rfl rfl <| sk rfl rfl <| sk rfl rfl <| sk rfl rfl <| pf0 rfl rfl rfl <| mv0 rfl rfl <| sk rfl rfl <| sk rfl rfl <| sk rfl rfl <| pf0 rfl rfl rfl <| as0 rfl rfl <| .fin ?_
   obtain rfl := Gets.out H
   exact rt i2 rfl () 1 [0] 1 (.cons (res_tmp rfl) .nil)
  replace H := Gets.ct H c1168
  refine mvg rfl rfl rfl <| pt0 rfl rfl rfl <| mv0 rfl rfl ?_
  cases c1169 : (a0.fSpan == 0)
  ·
   replace H := Gets.cf H c1169
   refine sk rfl rfl <| sk rfl rfl <| sk rfl rfl <| pf0 rfl rfl rfl <| mv0 rfl rfl <| sk rfl rfl <| sk rfl rfl <| sk rfl rfl <| pf0 rfl rfl rfl <| mv0 rfl rfl <| sk rfl rfl <| sk rfl rfl <| sk rfl rfl <| pf0 rfl rfl rfl <| mv0 rfl rfl <| sk rfl rfl <| sk rfl rfl <| sk rfl rfl <| pf0 rfl rfl rfl <| as0 rfl rfl <| .fin ?_
   obtain rfl := Gets.out H
   exact rt i2 rfl () 1 [0] 1 (.cons (res_tmp rfl) .nil)
  replace H := Gets.ct H c1169
  refine fb rfl (gg rfl) rfl fa24_3 <| ld 0 rfl (gg rfl) rfl sc9 rfl rfl <| bng rfl rfl rfl rfl run_seq <| pt0 rfl rfl rfl <| mv0 rfl rfl ?_
  cases c1170 : decide (a0.fEvent = (⟨#[]⟩ : ByteArray))
  ·
   replace H := Gets.cf H c1170
   refine sk rfl rfl <| sk rfl rfl <| sk rfl rfl <| pf0 rfl rfl rfl <| mv0 rfl rfl <| sk rfl rfl <| sk rfl rfl <| sk rfl rfl <| pf0 rfl rfl rfl <| mv0 rfl rfl <| sk rfl rfl <| sk rfl rfl <| sk rfl rfl <| pf0 rfl rfl rfl <| as0 rfl rfl <| .fin ?_
   obtain rfl := Gets.out H
   exact rt i2 rfl () 1 [0] 1 (.cons (res_tmp rfl) .nil)
  replace H := Gets.ct H c1170
  refine fb rfl (gg rfl) rfl fa24_4 <| ld 0 rfl (gg rfl) rfl sc9 rfl rfl <| bng rfl rfl rfl rfl run_seq <| pt0 rfl rfl rfl <| mv0 rfl rfl ?_
  cases c1171 : decide (a0.fThread = (⟨#[]⟩ : ByteArray))
  ·
   replace H := Gets.cf H c1171
   refine sk rfl rfl <| sk rfl rfl <| sk rfl rfl <| pf0 rfl rfl rfl <| mv0 rfl rfl <| sk rfl rfl <| sk rfl rfl <| sk rfl rfl <| pf0 rfl rfl rfl <| as0 rfl rfl <| .fin ?_
   obtain rfl := Gets.out H
   exact rt i2 rfl () 1 [0] 1 (.cons (res_tmp rfl) .nil)
  replace H := Gets.ct H c1171
  refine fb rfl (gg rfl) rfl fa24_8 <| ld 0 rfl (gg rfl) rfl sc3 rfl rfl <| bng rfl rfl rfl rfl run_eq <| pt0 rfl rfl rfl <| mv0 rfl rfl ?_
  cases c1172 : (a0.fState == 0)
  ·
   replace H := Gets.cf H c1172
   refine sk rfl rfl <| sk rfl rfl <| sk rfl rfl <| pf0 rfl rfl rfl <| as0 rfl rfl <| .fin ?_
   obtain rfl := Gets.out H
   exact rt i2 rfl () 1 [0] 1 (.cons (res_tmp rfl) .nil)
  replace H := Gets.ct H c1172
  refine fb rfl (gg rfl) rfl fa24_5 <| ld 0 rfl (gg rfl) rfl sc4 rfl rfl <| ung rfl rfl rfl (run_not _) <| pt0 rfl rfl rfl <| as0 rfl rfl <| .fin ?_
  obtain rfl := Gets.out H
  exact rt i2 rfl () 1 [0] 1 (.cons (res_tmp rfl) .nil)
 replace H := Gets.ct H c1154
 refine fb rfl (gg rfl) rfl fa24_7 <| ld 0 rfl (gg rfl) rfl sc3 rfl rfl <| bng rfl rfl rfl rfl run_le <| pt0 rfl rfl rfl <| mv0 rfl rfl ?_
 cases c1155 : decide (a0.fSpan ≤ 60)
 rotate_left
 ·
  replace H := Gets.ct H c1155
  refine sk rfl rfl <| sk rfl rfl <| sk rfl rfl <| sk rfl rfl <| sku rfl rfl <| sku rfl rfl <| sku rfl rfl <| sk rfl rfl <| pt0 rfl rfl rfl <| as0 rfl rfl <| .fin <| WP.seq <| rg 25 0 <| mv0 rfl rfl <| mv0 rfl rfl ?_
  cases c1156 : t1131
  ·
   replace H := Gets.cf H c1156
   refine sk rfl rfl <| pf0 rfl rfl rfl <| mv0 rfl rfl <| sk rfl rfl <| sk rfl rfl <| sk rfl rfl <| pf0 rfl rfl rfl <| mv0 rfl rfl <| sk rfl rfl <| sk rfl rfl <| sk rfl rfl <| pf0 rfl rfl rfl <| mv0 rfl rfl <| sk rfl rfl <| sk rfl rfl <| sk rfl rfl <| pf0 rfl rfl rfl <| mv0 rfl rfl <| sk rfl rfl <| sk rfl rfl <| sk rfl rfl <| pf0 rfl rfl rfl <| as0 rfl rfl <| .fin ?_
   obtain rfl := Gets.out H
   exact rt i2 rfl () 1 [0] 1 (.cons (res_tmp rfl) .nil)
  replace H := Gets.ct H c1156
  refine mvg rfl rfl rfl <| pt0 rfl rfl rfl <| mv0 rfl rfl <| fb rfl (gg rfl) rfl fa24_3 <| ld 0 rfl (gg rfl) rfl sc9 rfl rfl <| bng rfl rfl rfl rfl run_seq <| pt0 rfl rfl rfl <| mv0 rfl rfl ?_
  cases c1157 : decide (a0.fEvent = (⟨#[]⟩ : ByteArray))
  ·
   replace H := Gets.cf H c1157
   refine sk rfl rfl <| sk rfl rfl <| sk rfl rfl <| pf0 rfl rfl rfl <| mv0 rfl rfl <| sk rfl rfl <| sk rfl rfl <| sk rfl rfl <| pf0 rfl rfl rfl <| mv0 rfl rfl <| sk rfl rfl <| sk rfl rfl <| sk rfl rfl <| pf0 rfl rfl rfl <| as0 rfl rfl <| .fin ?_
   obtain rfl := Gets.out H
   exact rt i2 rfl () 1 [0] 1 (.cons (res_tmp rfl) .nil)
  replace H := Gets.ct H c1157
  refine fb rfl (gg rfl) rfl fa24_4 <| ld 0 rfl (gg rfl) rfl sc9 rfl rfl <| bng rfl rfl rfl rfl run_seq <| pt0 rfl rfl rfl <| mv0 rfl rfl ?_
  cases c1158 : decide (a0.fThread = (⟨#[]⟩ : ByteArray))
  ·
   replace H := Gets.cf H c1158
   refine sk rfl rfl <| sk rfl rfl <| sk rfl rfl <| pf0 rfl rfl rfl <| mv0 rfl rfl <| sk rfl rfl <| sk rfl rfl <| sk rfl rfl <| pf0 rfl rfl rfl <| as0 rfl rfl <| .fin ?_
   obtain rfl := Gets.out H
   exact rt i2 rfl () 1 [0] 1 (.cons (res_tmp rfl) .nil)
  replace H := Gets.ct H c1158
  refine fb rfl (gg rfl) rfl fa24_8 <| ld 0 rfl (gg rfl) rfl sc3 rfl rfl <| bng rfl rfl rfl rfl run_eq <| pt0 rfl rfl rfl <| mv0 rfl rfl ?_
  cases c1159 : (a0.fState == 0)
  ·
   replace H := Gets.cf H c1159
   refine sk rfl rfl <| sk rfl rfl <| sk rfl rfl <| pf0 rfl rfl rfl <| as0 rfl rfl <| .fin ?_
   obtain rfl := Gets.out H
   exact rt i2 rfl () 1 [0] 1 (.cons (res_tmp rfl) .nil)
  replace H := Gets.ct H c1159
  refine fb rfl (gg rfl) rfl fa24_5 <| ld 0 rfl (gg rfl) rfl sc4 rfl rfl <| ung rfl rfl rfl (run_not _) <| pt0 rfl rfl rfl <| as0 rfl rfl <| .fin ?_
  obtain rfl := Gets.out H
  exact rt i2 rfl () 1 [0] 1 (.cons (res_tmp rfl) .nil)
 replace H := Gets.cf H c1155
 refine fb rfl (gg rfl) rfl fa24_6 <| ld 0 rfl (gg rfl) rfl sc4 rfl rfl <| ung rfl rfl rfl (run_not _) <| mvg rfl rfl rfl ?_
 cases c1160 : !a0.fOn
 ·
  replace H := Gets.cf H c1160
  refine sk rfl rfl <| sk rfl rfl <| sk rfl rfl <| pfg rfl rfl rfl rfl <| pf0 rfl rfl rfl <| as0 rfl rfl <| .fin <| WP.seq <| rg 25 0 <| mv0 rfl rfl <| mv0 rfl rfl ?_
  cases c1166 : t1131
  ·
   replace H := Gets.cf H c1166
   refine sk rfl rfl <| pf0 rfl rfl rfl <| mv0 rfl rfl <| sk rfl rfl <| sk rfl rfl <| sk rfl rfl <| pf0 rfl rfl rfl <| mv0 rfl rfl <| sk rfl rfl <| sk rfl rfl <| sk rfl rfl <| pf0 rfl rfl rfl <| mv0 rfl rfl <| sk rfl rfl <| sk rfl rfl <| sk rfl rfl <| pf0 rfl rfl rfl <| mv0 rfl rfl <| sk rfl rfl <| sk rfl rfl <| sk rfl rfl <| pf0 rfl rfl rfl <| as0 rfl rfl <| .fin ?_
   obtain rfl := Gets.out H
   exact rt i2 rfl () 1 [0] 1 (.cons (res_tmp rfl) .nil)
  replace H := Gets.ct H c1166
  refine mvg rfl rfl rfl <| pt0 rfl rfl rfl <| mv0 rfl rfl <| sk rfl rfl <| sk rfl rfl <| sk rfl rfl <| pf0 rfl rfl rfl <| mv0 rfl rfl <| sk rfl rfl <| sk rfl rfl <| sk rfl rfl <| pf0 rfl rfl rfl <| mv0 rfl rfl <| sk rfl rfl <| sk rfl rfl <| sk rfl rfl <| pf0 rfl rfl rfl <| mv0 rfl rfl <| sk rfl rfl <| sk rfl rfl <| sk rfl rfl <| pf0 rfl rfl rfl <| as0 rfl rfl <| .fin ?_
  obtain rfl := Gets.out H
  exact rt i2 rfl () 1 [0] 1 (.cons (res_tmp rfl) .nil)
 replace H := Gets.ct H c1160
 refine fb rfl (gg rfl) rfl fa24_7 <| ld 0 rfl (gg rfl) rfl sc3 rfl rfl <| bng rfl rfl rfl rfl run_eq <| ptg rfl rfl rfl rfl <| pf0 rfl rfl rfl <| as0 rfl rfl <| .fin <| WP.seq <| rg 25 0 <| mv0 rfl rfl <| mv0 rfl rfl ?_
 cases c1161 : t1131
 ·
  replace H := Gets.cf H c1161
  refine sk rfl rfl <| pf0 rfl rfl rfl <| mv0 rfl rfl <| sk rfl rfl <| sk rfl rfl <| sk rfl rfl <| pf0 rfl rfl rfl <| mv0 rfl rfl <| sk rfl rfl <| sk rfl rfl <| sk rfl rfl <| pf0 rfl rfl rfl <| mv0 rfl rfl <| sk rfl rfl <| sk rfl rfl <| sk rfl rfl <| pf0 rfl rfl rfl <| mv0 rfl rfl <| sk rfl rfl <| sk rfl rfl <| sk rfl rfl <| pf0 rfl rfl rfl <| as0 rfl rfl <| .fin ?_
  obtain rfl := Gets.out H
  exact rt i2 rfl () 1 [0] 1 (.cons (res_tmp rfl) .nil)
 replace H := Gets.ct H c1161
 refine mvg rfl rfl rfl <| pt0 rfl rfl rfl <| mv0 rfl rfl ?_
 cases c1162 : (a0.fSpan == 0)
 ·
  replace H := Gets.cf H c1162
  refine sk rfl rfl <| sk rfl rfl <| sk rfl rfl <| pf0 rfl rfl rfl <| mv0 rfl rfl <| sk rfl rfl <| sk rfl rfl <| sk rfl rfl <| pf0 rfl rfl rfl <| mv0 rfl rfl <| sk rfl rfl <| sk rfl rfl <| sk rfl rfl <| pf0 rfl rfl rfl <| mv0 rfl rfl <| sk rfl rfl <| sk rfl rfl <| sk rfl rfl <| pf0 rfl rfl rfl <| as0 rfl rfl <| .fin ?_
  obtain rfl := Gets.out H
  exact rt i2 rfl () 1 [0] 1 (.cons (res_tmp rfl) .nil)
 replace H := Gets.ct H c1162
 refine fb rfl (gg rfl) rfl fa24_3 <| ld 0 rfl (gg rfl) rfl sc9 rfl rfl <| bng rfl rfl rfl rfl run_seq <| pt0 rfl rfl rfl <| mv0 rfl rfl ?_
 cases c1163 : decide (a0.fEvent = (⟨#[]⟩ : ByteArray))
 ·
  replace H := Gets.cf H c1163
  refine sk rfl rfl <| sk rfl rfl <| sk rfl rfl <| pf0 rfl rfl rfl <| mv0 rfl rfl <| sk rfl rfl <| sk rfl rfl <| sk rfl rfl <| pf0 rfl rfl rfl <| mv0 rfl rfl <| sk rfl rfl <| sk rfl rfl <| sk rfl rfl <| pf0 rfl rfl rfl <| as0 rfl rfl <| .fin ?_
  obtain rfl := Gets.out H
  exact rt i2 rfl () 1 [0] 1 (.cons (res_tmp rfl) .nil)
 replace H := Gets.ct H c1163
 refine fb rfl (gg rfl) rfl fa24_4 <| ld 0 rfl (gg rfl) rfl sc9 rfl rfl <| bng rfl rfl rfl rfl run_seq <| pt0 rfl rfl rfl <| mv0 rfl rfl ?_
 cases c1164 : decide (a0.fThread = (⟨#[]⟩ : ByteArray))
 ·
  replace H := Gets.cf H c1164
  refine sk rfl rfl <| sk rfl rfl <| sk rfl rfl <| pf0 rfl rfl rfl <| mv0 rfl rfl <| sk rfl rfl <| sk rfl rfl <| sk rfl rfl <| pf0 rfl rfl rfl <| as0 rfl rfl <| .fin ?_
  obtain rfl := Gets.out H
  exact rt i2 rfl () 1 [0] 1 (.cons (res_tmp rfl) .nil)
 replace H := Gets.ct H c1164
 refine fb rfl (gg rfl) rfl fa24_8 <| ld 0 rfl (gg rfl) rfl sc3 rfl rfl <| bng rfl rfl rfl rfl run_eq <| pt0 rfl rfl rfl <| mv0 rfl rfl ?_
 cases c1165 : (a0.fState == 0)
 ·
  replace H := Gets.cf H c1165
  refine sk rfl rfl <| sk rfl rfl <| sk rfl rfl <| pf0 rfl rfl rfl <| as0 rfl rfl <| .fin ?_
  obtain rfl := Gets.out H
  exact rt i2 rfl () 1 [0] 1 (.cons (res_tmp rfl) .nil)
 replace H := Gets.ct H c1165
 refine fb rfl (gg rfl) rfl fa24_5 <| ld 0 rfl (gg rfl) rfl sc4 rfl rfl <| ung rfl rfl rfl (run_not _) <| pt0 rfl rfl rfl <| as0 rfl rfl <| .fin ?_
 obtain rfl := Gets.out H
 exact rt i2 rfl () 1 [0] 1 (.cons (res_tmp rfl) .nil)
theorem concourseref10_RoomsOf.c {k : Nat} {a0 : RView} {a1 : ByteArray} {r : (List ByteArray)} (h : concourseref10_RoomsOf.f k a0 a1 = some r) : Tr Tryz.prog 42 [agg (RView.enc a0), vS a1] [] (γ := OV) (fun _ => True) (fun g => eq g.1) (fun g => [own strK g.1 r]) := by
 unfold concourseref10_RoomsOf.f at h
 refine Tr.body Tryz.func42 (c := _) rfl Tryz.ntmps42 (Nat.le_of_ble_eq_true rfl) fun R0 F => ?_
 replace h := Gets.of h
 have H := h
 clear h
 refine WP.seq <| rg 2 1 <| Dv.box rfl trivial rfl cA nofun fun b1189 => as0 rfl rfl <| .fin <| WP.seq <| rg 1 0 <| as0 rfl rfl <| .fin <| WP.seqn H (fun q1205 : (Int × Bool × (List ByteArray)) × OV => q1205.1) (fun q1205 : (Int × Bool × (List ByteArray)) × OV => [(0, agg (RView.enc a0)), (1, vS a1), (2, eq (.pointer (some ⟨b1189, 0, none⟩))), (4, eq (.slice none 0 0)), (5, eq q1205.2.1), (6, vI q1205.1.1), (12, vB q1205.1.2.1)]) (fun q1205 : (Int × Bool × (List ByteArray)) × OV => [blk b1189 28 (RView.enc a0), own strK q1205.2.1 q1205.1.2.2] ++ F) (fun q1205 H => ?_) (fun H => ?_)
 ·
  obtain ⟨p1190, v1191⟩ := q1205
  refine WP.seq <| rg 2 0 <| mv0 rfl rfl <| as0 rfl rfl <| .fin ?_
  obtain rfl := Gets.out H
  exact rt i2 rfl v1191 2 [0,1] 1 (.cons (res_tmp rfl) .nil)
 refine WP.seq <| rg 1 0 <| as0 rfl rfl <| .fin <| WP.block <| wg (st_nil strK none) fun _ _ => ?_
 refine wg (sg 2 [1,0] 0) fun _ _ => ?_
 refine lp (fun j_ (p1204 : Int × (List ByteArray) × OV) => concourseref10_RoomsOf.l0 k a0 a1 j_ p1204.1 p1204.2.1) (0, ([] : List ByteArray), nilV) H (fun p1204 => [(0, agg (RView.enc a0)), (1, vS a1), (2, eq (.pointer (some ⟨b1189, 0, none⟩))), (4, eq (.slice none 0 0)), (5, eq p1204.2.2.1), (6, vI p1204.1)]) (fun p1204 => [blk b1189 28 (RView.enc a0), own strK p1204.2.2.1 p1204.2.1] ++ F) ?_
 rintro j_ ⟨x1192, x1193, v1194⟩ H
 rcases j_ with _ | j1203
 ·
  exact (Gets.no H).elim
 replace H : Gets (concourseref10_RoomsOf.l0 k a0 a1 (j1203 + 1) x1192 x1193) _ := H
 rw [concourseref10_RoomsOf.l0] at H
 refine WP.seq <| WP.seq <| rg 5 0 <| mv0 rfl rfl <| fb rfl trivial rfl fa28_0 <| ld 0 rfl trivial rfl sc26 rfl rfl <| Dv.lenl rfl trivial rfl Tryz.underlying26 <| bn0 rfl rfl rfl run_lt <| .fin <| cd H rfl (fun _ H => ?_) (fun _ H => ?_)
 rotate_left
 ·
  refine WP.exit ?_
  replace H := Gets.out H
  exact jn ((x1192, decide (x1192 < (a0.fD.length : Int)), x1193), v1194) H
 refine WP.skip <| WP.seq <| WP.block <| WP.seq <| rg 8 0 <| fb rfl trivial rfl fa28_0 <| ld 0 rfl trivial rfl sc26 rfl rfl <| mv0 rfl rfl <| gr H fun g1196 H => Dv.ixr rfl trivial rfl rfl Tryz.underlying26 Tryz.underlying74 c74 g1196.1 g1196.2 <| ldsR rfl trivial rfl sg74 rfl <| mv0 rfl rfl <| el H fun t1197 h1198 H => cl rfl cal60 rfl (concourseref09_Joined.c h1198) <| as0 rfl rfl <| .fin <| WP.seq <| rg 1 0 <| mv0 rfl rfl <| .fin <| cd H rfl (fun _ H => ?_) (fun _ H => ?_)
 rotate_left
 ·
  exact WP.skip <| rg 3 0 <| mv0 rfl rfl <| bn0 rfl rfl rfl run_add <| as0 rfl rfl <| .fin <| bk j1203 (w64 (x1192 + 1), x1193, v1194) H
 refine rg 10 256 <| mv0 rfl rfl <| fb rfl trivial rfl fa28_0 <| ld 0 rfl trivial rfl sc26 rfl rfl <| mv0 rfl rfl <| gr H fun g1200 H => Dv.ixr rfl trivial rfl rfl Tryz.underlying26 Tryz.underlying74 c74 g1200.1 g1200.2 <| fr rfl trivial rfl fa74_0 rfl <| ldR rfl trivial rfl sc9 rfl <| Dv.lit strK ([(RDag.K.at a0.fD x1192).fRoom] : List ByteArray) (css := [[vS ((RDag.K.at a0.fD x1192).fRoom)]]) rfl trivial Tryz.underlying35 Tryz.underlying9 c9 z9 rfl (by decide) (by decide) rfl ⟨(cells_one (one_eq rfl)), trivial⟩ rfl rfl rfl <| gr H fun g1201 H => ap strK 1 ([(RDag.K.at a0.fD x1192).fRoom] : List ByteArray) src_sl Tryz.underlying35 (.inr ⟨_, Tryz.underlying35⟩) inf9 g1201 nofun fun v1202 => ?_
 exact as0 rfl rfl <| .fin <| rg 3 0 <| mv0 rfl rfl <| bn0 rfl rfl rfl run_add <| as0 rfl rfl <| .fin <| bk j1203 (w64 (x1192 + 1), x1193 ++ ([(RDag.K.at a0.fD x1192).fRoom] : List ByteArray), v1202) H
theorem concourseref10_Friends.c {k : Nat} {a0 : RView} {a1 : ByteArray} {a2 : ByteArray} {r : Bool} (h : concourseref10_Friends.f k a0 a1 a2 = some r) : Pt Tryz.prog 56 [agg (RView.enc a0), vS a1, vS a2] (vB r) := by
 unfold concourseref10_Friends.f at h
 refine (Tr.body Tryz.func56 (c := _) rfl Tryz.ntmps56 (Nat.le_of_ble_eq_true rfl) fun R0 F => ?_).pt
 replace h := Gets.of h
 have H := h
 clear h
 refine WP.seq <| rg 2 1 <| Dv.box rfl trivial rfl cA nofun fun b1206 => as0 rfl rfl <| .fin <| WP.seq <| rg 4 4 <| lds 0 rfl trivial rfl sg28 rfl rfl <| mv0 rfl rfl <| el H fun t1207 h1208 H => cx 1 [0] cal42 (concourseref10_RoomsOf.c h1208) nofun fun g1209 _ => ?_
 refine as0 rfl rfl <| .fin <| WP.seqr H id (fun p1210 : Int × Bool => [(0, agg (RView.enc a0)), (1, vS a1), (2, vS a2), (3, eq (.pointer (some ⟨b1206, 0, none⟩))), (6, vB false), (7, eq g1209.1), (8, vI p1210.1), (16, vB p1210.2)]) (fun p1210 : Int × Bool => [blk b1206 28 (RView.enc a0), own strK g1209.1 t1207] ++ F) (fun p1210 H => ?_) (fun H => ?_)
 ·
  refine WP.seq <| rg 1 0 <| as0 rfl rfl <| .fin ?_
  obtain rfl := Gets.out H
  exact rt i2 rfl () 2 [0,1] 2 (.cons (res_tmp rfl) .nil)
 refine WP.seq <| rg 1 0 <| as0 rfl rfl <| .fin <| WP.block <| wg (sg 2 [1,0] 0) fun _ _ => ?_
 refine lp (fun j_ (p1219 : Int) => concourseref10_Friends.l0 k a0 a2 t1207 j_ p1219) 0 H (fun p1219 => [(0, agg (RView.enc a0)), (1, vS a1), (2, vS a2), (3, eq (.pointer (some ⟨b1206, 0, none⟩))), (6, vB false), (7, eq g1209.1), (8, vI p1219)]) (fun p1219 => [blk b1206 28 (RView.enc a0), own strK g1209.1 t1207] ++ F) ?_
 rintro j_ x1211 H
 rcases j_ with _ | j1218
 ·
  exact (Gets.no H).elim
 replace H : Gets (concourseref10_Friends.l0 k a0 a2 t1207 (j1218 + 1) x1211) _ := H
 rw [concourseref10_Friends.l0] at H
 refine WP.seq <| WP.seq <| rg 4 0 <| mv0 rfl rfl <| mv0 rfl rfl <| Dv.lenw rfl trivial rfl (mem_at 1 rfl) Tryz.underlying35 <| bn0 rfl rfl rfl run_lt <| .fin <| cd H rfl (fun _ H => ?_) (fun _ H => ?_)
 rotate_left
 ·
  refine WP.exit ?_
  replace H := Gets.out H
  exact jn (x1211, decide (x1211 < (t1207.length : Int))) H
 refine WP.skip <| WP.seq <| WP.block <| WP.seq <| dg Tryz.checked.mixed 8 0 <| lds 0 rfl trivial rfl sg28 rfl rfl <| mv0 rfl rfl <| mv0 rfl rfl <| gr H fun g1213 H => ?_
 have h1214 : x1211.toNat < t1207.length := idx_lt g1213
 refine Dv.ixw rfl trivial rfl (mem_at 1 rfl) rfl Tryz.underlying35 Tryz.underlying9 c9 g1213.1 g1213.2 <| Dv.ldw (j := x1211.toNat) (f := 0) (p := vS (t1207.getD x1211.toNat default)) rfl trivial rfl (mem_at 1 rfl) h1214 Tryz.underlying9 rfl rfl <| mv0 rfl rfl <| el H fun t1215 h1216 H => cl rfl cal28 rfl (concourseref10_Joined.c h1216) <| as0 rfl rfl <| .fin <| WP.seq <| rg 1 0 <| mv0 rfl rfl <| .fin <| cd H rfl (fun _ H => ?_) (fun _ H => ?_)
 rotate_left
 ·
  exact WP.skip <| rg 3 0 <| mv0 rfl rfl <| bn0 rfl rfl rfl run_add <| as0 rfl rfl <| .fin <| bk j1218 (w64 (x1211 + 1)) H
 refine WP.seq <| rg 1 0 <| as0 rfl rfl <| .fin ?_
 replace H := Gets.outr H
 obtain rfl := Gets.out H
 exact rt i2 rfl () 2 [0,1] 2 (.cons (res_tmp rfl) .nil)
theorem concourseref16_Sees.c {k : Nat} {a0 : RView} {a1 : ByteArray} {a2 : Edu} {r : Bool} (h : concourseref16_Sees.f k a0 a1 a2 = some r) : Pt Tryz.prog 26 [agg (RView.enc a0), vS a1, agg (Edu.enc a2)] (vB r) := by
 unfold concourseref16_Sees.f at h
 refine (Tr.body Tryz.func26 (c := _) rfl Tryz.ntmps26 (Nat.le_of_ble_eq_true rfl) fun R0 F => ?_).pt
 replace h := Gets.of h
 have H := h
 clear h
 refine WP.seq <| rg 3 3 <| Dv.box rfl trivial rfl cA nofun fun b1220 => Dv.box rfl trivial rfl cA nofun fun b1221 => as0 rfl rfl <| .fin <| WP.seq <| rg 3 0 <| lds 0 rfl trivial rfl sg24 rfl rfl <| el H fun t1222 h1223 H => cl rfl cal55 rfl (concourseref03_Local.c h1223) <| as0 rfl rfl <| .fin <| WP.seq <| WP.seq <| rg 2 0 <| mv0 rfl rfl <| un0 rfl rfl (run_not _) <| .fin <| cd H rfl (fun _ H => ?_) (fun _ H => ?_)
 ·
  refine WP.seq <| rg 1 0 <| as0 rfl rfl <| .fin ?_
  obtain rfl := Gets.out H
  exact rt i2 rfl () 2 [0,1] 2 (.cons (res_tmp rfl) .nil)
 refine WP.skip <| WP.seq <| WP.seq <| rg 3 0 <| fb rfl trivial rfl fa24_0 <| ld 0 rfl trivial rfl sc3 rfl rfl <| bn0 rfl rfl rfl run_eq <| .fin <| cd H rfl (fun _ H => ?_) (fun _ H => ?_)
 ·
  refine WP.seq <| rg 6 0 <| lds 1 rfl trivial rfl sg28 rfl rfl <| mv0 rfl rfl <| fb rfl trivial rfl fa24_2 <| ld 0 rfl trivial rfl sc9 rfl rfl <| el H fun t1226 h1227 H => cl rfl cal56 rfl (concourseref10_Friends.c h1227) <| as0 rfl rfl <| .fin ?_
  obtain rfl := Gets.out H
  exact rt i2 rfl () 2 [0,1] 2 (.cons (res_tmp rfl) .nil)
 refine WP.skip <| WP.seq <| rg 6 0 <| lds 1 rfl trivial rfl sg28 rfl rfl <| fb rfl trivial rfl fa24_1 <| ld 0 rfl trivial rfl sc9 rfl rfl <| mv0 rfl rfl <| el H fun t1228 h1229 H => cl rfl cal28 rfl (concourseref10_Joined.c h1229) <| as0 rfl rfl <| .fin <| WP.seq <| rg 13 0 <| mv0 rfl rfl <| mv0 rfl rfl ?_
 cases c1230 : t1228
 ·
  replace H := Gets.cf H c1230
  refine sk rfl rfl <| sk rfl rfl <| sk rfl rfl <| sk rfl rfl <| sku rfl rfl <| sku rfl rfl <| sku rfl rfl <| sku rfl rfl <| sk rfl rfl <| pf0 rfl rfl rfl <| as0 rfl rfl <| .fin ?_
  obtain rfl := Gets.out H
  exact rt i2 rfl () 2 [0,1] 2 (.cons (res_tmp rfl) .nil)
 replace H := Gets.ct H c1230
 refine fb rfl (gg rfl) rfl fa24_5 <| ld 0 rfl (gg rfl) rfl sc4 rfl rfl <| ung rfl rfl rfl (run_not _) <| mvg rfl rfl rfl ?_
 cases c1231 : !a2.fPrivate
 rotate_left
 ·
  replace H := Gets.ct H c1231
  refine sk rfl rfl <| sk rfl rfl <| sk rfl rfl <| sk rfl rfl <| ptg rfl rfl rfl rfl <| pt0 rfl rfl rfl <| as0 rfl rfl <| .fin ?_
  obtain rfl := Gets.out H
  exact rt i2 rfl () 2 [0,1] 2 (.cons (res_tmp rfl) .nil)
 replace H := Gets.cf H c1231
 refine mvg rfl rfl rfl <| fb rfl (gg rfl) rfl fa24_2 <| ld 0 rfl (gg rfl) rfl sc9 rfl rfl <| bng rfl rfl rfl rfl run_seq <| pfg rfl rfl rfl rfl <| pt0 rfl rfl rfl <| as0 rfl rfl <| .fin ?_
 obtain rfl := Gets.out H
 exact rt i2 rfl () 2 [0,1] 2 (.cons (res_tmp rfl) .nil)
theorem concourseref01_Home.c {k : Nat} {a0 : ByteArray} {r : ByteArray} (h : concourseref01_Home.f k a0 = some r) : Pt Tryz.prog 30 [vS a0] (vS r) := by
 unfold concourseref01_Home.f at h
 refine (Tr.body Tryz.func30 (c := _) rfl Tryz.ntmps30 (Nat.le_of_ble_eq_true rfl) fun R0 F => ?_).pt
 replace h := Gets.of h
 have H := h
 clear h
 refine WP.seq <| rg 1 0 <| as0 rfl rfl <| .fin <| WP.seq <| rg 3 0 <| mv0 rfl rfl <| el H fun t1265 h1266 H => cl rfl cal62 rfl (concourseref01_Named.c h1266) <| as0 rfl rfl <| .fin <| WP.seq <| rg 3 0 <| mv0 rfl rfl <| el H fun t1267 h1268 H => cl rfl cal62 rfl (concourseref01_Named.c h1268) <| as0 rfl rfl <| .fin <| WP.seq <| WP.seq <| rg 6 0 <| mv0 rfl rfl <| un0 rfl rfl (run_not _) <| mv0 rfl rfl ?_
 cases c1269 : !t1265
 ·
  replace H := Gets.cf H c1269
  refine sk rfl rfl <| sk rfl rfl <| pf0 rfl rfl rfl <| .fin <| WP.cond rfl nofun (fun _ => ?_)
  refine WP.skip <| WP.seq <| rg 6 0 <| mv0 rfl rfl <| mv0 rfl rfl <| el H fun t1275 h1276 H => cl rfl cal63 rfl (concourseref01_colon.c h1276) <| bn0 rfl rfl rfl run_add <| gr H fun g1277 H => Dv.sss rfl trivial rfl Tryz.underlying9 (bdE_some rfl g1277.1) bdE_none g1277.2.1 g1277.2.2 <| as0 rfl rfl <| .fin ?_
  obtain rfl := Gets.out H
  exact rt i2 rfl () 0 [] 0 (.cons (res_tmp rfl) .nil)
 replace H := Gets.ct H c1269
 refine mvg rfl rfl rfl <| ung rfl rfl rfl (run_not _) <| pt0 rfl rfl rfl <| .fin <| cd H rfl (fun _ H => ?_) (fun _ H => ?_)
 ·
  refine WP.seq <| rg 1 0 <| as0 rfl rfl <| .fin ?_
  obtain rfl := Gets.out H
  exact rt i2 rfl () 0 [] 0 (.cons (res_tmp rfl) .nil)
 refine WP.skip <| WP.seq <| rg 6 0 <| mv0 rfl rfl <| mv0 rfl rfl <| el H fun t1271 h1272 H => cl rfl cal63 rfl (concourseref01_colon.c h1272) <| bn0 rfl rfl rfl run_add <| gr H fun g1273 H => Dv.sss rfl trivial rfl Tryz.underlying9 (bdE_some rfl g1273.1) bdE_none g1273.2.1 g1273.2.2 <| as0 rfl rfl <| .fin ?_
 obtain rfl := Gets.out H
 exact rt i2 rfl () 0 [] 0 (.cons (res_tmp rfl) .nil)
theorem concourseref03_May.c {k : Nat} {a0 : Edu} {r : Bool} (h : concourseref03_May.f k a0 = some r) : Pt Tryz.prog 41 [agg (Edu.enc a0)] (vB r) := by
 unfold concourseref03_May.f at h
 refine (Tr.body Tryz.func41 (c := _) rfl Tryz.ntmps41 (Nat.le_of_ble_eq_true rfl) fun R0 F => ?_).pt
 replace h := Gets.of h
 have H := h
 clear h
 refine WP.seq <| rg 2 1 <| Dv.box rfl trivial rfl cA nofun fun b1278 => as0 rfl rfl <| .fin <| WP.seq <| rg 3 0 <| lds 0 rfl trivial rfl sg24 rfl rfl <| el H fun t1279 h1280 H => cl rfl cal55 rfl (concourseref03_Local.c h1280) <| as0 rfl rfl <| .fin <| WP.seq <| rg 7 0 <| mv0 rfl rfl <| mv0 rfl rfl ?_
 cases c1281 : t1279
 ·
  replace H := Gets.cf H c1281
  refine sk rfl rfl <| sk rfl rfl <| sk rfl rfl <| pf0 rfl rfl rfl <| as0 rfl rfl <| .fin ?_
  obtain rfl := Gets.out H
  exact rt i2 rfl () 1 [0] 1 (.cons (res_tmp rfl) .nil)
 replace H := Gets.ct H c1281
 refine fb rfl (gg rfl) rfl fa24_5 <| ld 0 rfl (gg rfl) rfl sc4 rfl rfl <| ung rfl rfl rfl (run_not _) <| pt0 rfl rfl rfl <| as0 rfl rfl <| .fin ?_
 obtain rfl := Gets.out H
 exact rt i2 rfl () 1 [0] 1 (.cons (res_tmp rfl) .nil)
theorem concourseref16_Accept.c {k : Nat} {a0 : RView} {a1 : ByteArray} {a2 : Edu} {r : Int} (h : concourseref16_Accept.f k a0 a1 a2 = some r) : Pt Tryz.prog 14 [agg (RView.enc a0), vS a1, agg (Edu.enc a2)] (vI r) := by
 unfold concourseref16_Accept.f at h
 refine (Tr.body Tryz.func14 (c := _) rfl Tryz.ntmps14 (Nat.le_of_ble_eq_true rfl) fun R0 F => ?_).pt
 replace h := Gets.of h
 have H := h
 clear h
 refine WP.seq <| rg 3 3 <| Dv.box rfl trivial rfl cA nofun fun b1282 => Dv.box rfl trivial rfl cA nofun fun b1283 => as0 rfl rfl <| .fin <| WP.seq <| rg 3 0 <| lds 0 rfl trivial rfl sg24 rfl rfl <| el H fun t1284 h1285 H => cl rfl cal41 rfl (concourseref03_May.c h1285) <| as0 rfl rfl <| .fin <| WP.seq <| WP.seq <| rg 2 0 <| mv0 rfl rfl <| un0 rfl rfl (run_not _) <| .fin <| cd H rfl (fun _ H => ?_) (fun _ H => ?_)
 ·
  refine WP.seq <| rg 1 0 <| as0 rfl rfl <| .fin ?_
  obtain rfl := Gets.out H
  exact rt i2 rfl () 2 [0,1] 2 (.cons (res_tmp rfl) .nil)
 refine WP.skip <| WP.seq <| WP.seq <| rg 5 0 <| fb rfl trivial rfl fa24_2 <| ld 0 rfl trivial rfl sc9 rfl rfl <| el H fun t1287 h1288 H => cl rfl cal30 rfl (concourseref01_Home.c h1288) <| mv0 rfl rfl <| bn0 rfl rfl rfl run_sne <| .fin <| cd H rfl (fun _ H => ?_) (fun _ H => ?_)
 ·
  refine WP.seq <| rg 1 0 <| as0 rfl rfl <| .fin ?_
  obtain rfl := Gets.out H
  exact rt i2 rfl () 2 [0,1] 2 (.cons (res_tmp rfl) .nil)
 refine WP.skip <| WP.seq <| WP.seq <| rg 3 0 <| fb rfl trivial rfl fa24_0 <| ld 0 rfl trivial rfl sc3 rfl rfl <| bn0 rfl rfl rfl run_eq <| .fin <| cd H rfl (fun _ H => ?_) (fun _ H => ?_)
 ·
  refine WP.seq <| WP.seq <| rg 6 8 <| lds 1 rfl trivial rfl sg28 rfl rfl <| fb rfl trivial rfl fa24_2 <| ld 0 rfl trivial rfl sc9 rfl rfl <| el H fun t1291 h1292 H => cx 2 [0,1] cal42 (concourseref10_RoomsOf.c h1292) nofun fun g1293 _ => ?_
  refine Dv.lenw rfl trivial rfl (mem_at 0 rfl) Tryz.underlying35 <| bn0 rfl rfl rfl run_eq <| .fin <| cd H rfl (fun _ H => ?_) (fun _ H => ?_)
  ·
   refine WP.seq <| rg 1 0 <| as0 rfl rfl <| .fin ?_
   obtain rfl := Gets.out H
   exact rt i2 rfl () 3 [0,1,2] 3 (.cons (res_tmp rfl) .nil)
  refine WP.skip <| WP.seq <| rg 1 0 <| as0 rfl rfl <| .fin ?_
  obtain rfl := Gets.out H
  exact rt i2 rfl () 3 [0,1,2] 3 (.cons (res_tmp rfl) .nil)
 refine WP.skip <| WP.seq <| rg 7 0 <| lds 1 rfl trivial rfl sg28 rfl rfl <| fb rfl trivial rfl fa24_1 <| ld 0 rfl trivial rfl sc9 rfl rfl <| fb rfl trivial rfl fa24_2 <| ld 0 rfl trivial rfl sc9 rfl rfl <| el H fun t1295 h1296 H => cl rfl cal28 rfl (concourseref10_Joined.c h1296) <| as0 rfl rfl <| .fin <| WP.seq <| WP.seq <| rg 2 0 <| mv0 rfl rfl <| un0 rfl rfl (run_not _) <| .fin <| cd H rfl (fun _ H => ?_) (fun _ H => ?_)
 ·
  refine WP.seq <| rg 1 0 <| as0 rfl rfl <| .fin ?_
  obtain rfl := Gets.out H
  exact rt i2 rfl () 2 [0,1] 2 (.cons (res_tmp rfl) .nil)
 refine WP.skip <| WP.seq <| rg 1 0 <| as0 rfl rfl <| .fin ?_
 obtain rfl := Gets.out H
 exact rt i2 rfl () 2 [0,1] 2 (.cons (res_tmp rfl) .nil)
theorem concourseref09_Has.c {k : Nat} {a0 : List ByteArray} {a1 : ByteArray} {r : Bool} (h : concourseref09_Has.f k a0 a1 = some r) : Pt Tryz.prog 45 [sl strK a0, vS a1] (vB r) := by
 unfold concourseref09_Has.f at h
 refine (Tr.body Tryz.func45 (c := _) rfl Tryz.ntmps45 (Nat.le_of_ble_eq_true rfl) fun R0 F => ?_).pt
 replace h := Gets.of h
 have H := h
 clear h
 refine WP.seq <| rg 1 0 <| as0 rfl rfl <| .fin <| WP.seqr H id (fun p1335 : Int × Bool => [(0, sl strK a0), (1, vS a1), (4, vB false), (5, vI p1335.1), (9, vB p1335.2)]) (fun p1335 : Int × Bool => F) (fun p1335 H => ?_) (fun H => ?_)
 ·
  refine WP.seq <| rg 1 0 <| as0 rfl rfl <| .fin ?_
  obtain rfl := Gets.out H
  exact rt i2 rfl () 0 [] 0 (.cons (res_tmp rfl) .nil)
 refine WP.seq <| rg 1 0 <| as0 rfl rfl <| .fin <| WP.block <| wg (sg 0 [] 0) fun _ _ => ?_
 refine lp (fun j_ (p1341 : Int) => concourseref09_Has.l0 k a0 a1 j_ p1341) 0 H (fun p1341 => [(0, sl strK a0), (1, vS a1), (4, vB false), (5, vI p1341)]) (fun p1341 => F) ?_
 rintro j_ x1336 H
 rcases j_ with _ | j1340
 ·
  exact (Gets.no H).elim
 replace H : Gets (concourseref09_Has.l0 k a0 a1 (j1340 + 1) x1336) _ := H
 rw [concourseref09_Has.l0] at H
 refine WP.seq <| WP.seq <| rg 4 0 <| mv0 rfl rfl <| mv0 rfl rfl <| Dv.lenl rfl trivial rfl Tryz.underlying35 <| bn0 rfl rfl rfl run_lt <| .fin <| cd H rfl (fun _ H => ?_) (fun _ H => ?_)
 rotate_left
 ·
  refine WP.exit ?_
  replace H := Gets.out H
  exact jn (x1336, decide (x1336 < (a0.length : Int))) H
 refine WP.skip <| WP.seq <| WP.block <| WP.seq <| rg 6 0 <| mv0 rfl rfl <| mv0 rfl rfl <| gr H fun g1338 H => Dv.ixr rfl trivial rfl rfl Tryz.underlying35 Tryz.underlying9 c9 g1338.1 g1338.2 <| ldR rfl trivial rfl sc9 rfl <| mv0 rfl rfl <| bn0 rfl rfl rfl run_seq <| .fin <| cd H rfl (fun _ H => ?_) (fun _ H => ?_)
 rotate_left
 ·
  exact WP.skip <| rg 3 0 <| mv0 rfl rfl <| bn0 rfl rfl rfl run_add <| as0 rfl rfl <| .fin <| bk j1340 (w64 (x1336 + 1)) H
 refine WP.seq <| rg 1 0 <| as0 rfl rfl <| .fin ?_
 replace H := Gets.outr H
 obtain rfl := Gets.out H
 exact rt i2 rfl () 0 [] 0 (.cons (res_tmp rfl) .nil)
theorem concourseref09_Put.c {k : Nat} {a0 : List ByteArray} {a1 : ByteArray} {r : (List ByteArray)} (h : concourseref09_Put.f k a0 a1 = some r) : Tr Tryz.prog 77 [sl strK a0, vS a1] [] (γ := OV) (fun _ => True) (fun g => eq g.1) (fun g => [own strK g.1 r]) := by
 unfold concourseref09_Put.f at h
 refine Tr.body Tryz.func77 (c := _) rfl Tryz.ntmps77 (Nat.le_of_ble_eq_true rfl) fun R0 F => ?_
 replace h := Gets.of h
 have H := h
 clear h
 refine WP.seq <| rg 1 0 <| as0 rfl rfl <| .fin <| WP.seq <| rg 1 0 <| as0 rfl rfl <| .fin <| WP.seq <| rg 1 0 <| as0 rfl rfl <| .fin <| WP.seqn H (fun q1368 : (Bool × Int × Bool × (List ByteArray)) × OV => q1368.1) (fun q1368 : (Bool × Int × Bool × (List ByteArray)) × OV => [(0, sl strK a0), (1, vS a1), (4, eq (.slice none 0 0)), (5, eq q1368.2.1), (6, vB q1368.1.1), (7, vI q1368.1.2.1), (11, vB q1368.1.2.2.1)]) (fun q1368 : (Bool × Int × Bool × (List ByteArray)) × OV => [own strK q1368.2.1 q1368.1.2.2.2] ++ F) (fun q1368 H => ?_) (fun H => ?_)
 ·
  obtain ⟨p1342, v1343⟩ := q1368
  refine WP.seq <| WP.seq <| rg 2 0 <| mv0 rfl rfl <| un0 rfl rfl (run_not _) <| .fin <| cd H rfl (fun _ H => ?_) (fun _ H => ?_)
  rotate_left
  ·
   refine WP.skip <| WP.seq <| rg 2 0 <| mv0 rfl rfl <| as0 rfl rfl <| .fin ?_
   obtain rfl := Gets.out H
   exact rt i2 rfl v1343 1 [0] 0 (.cons (res_tmp rfl) .nil)
  refine rg 5 8 <| mv0 rfl rfl <| mv0 rfl rfl <| Dv.lit strK ([a1] : List ByteArray) (css := [[vS a1]]) rfl trivial Tryz.underlying35 Tryz.underlying9 c9 z9 rfl (by decide) (by decide) rfl ⟨(cells_one (one_eq rfl)), trivial⟩ rfl rfl rfl <| gr H fun g1345 H => ap strK 0 ([a1] : List ByteArray) src_sl Tryz.underlying35 (.inr ⟨_, Tryz.underlying35⟩) inf9 g1345 nofun fun v1346 => ?_
  refine as0 rfl rfl <| .fin <| WP.seq <| rg 2 0 <| mv0 rfl rfl <| as0 rfl rfl <| .fin ?_
  obtain rfl := Gets.out H
  exact rt i2 rfl v1346 1 [0] 0 (.cons (res_tmp rfl) .nil)
 refine WP.seq <| rg 1 0 <| as0 rfl rfl <| .fin <| WP.block <| wg (st_nil strK none) fun _ _ => ?_
 refine wg (sg 1 [0] 0) fun _ _ => ?_
 refine lp (fun j_ (p1367 : Bool × Int × (List ByteArray) × OV) => concourseref09_Put.l0 k a0 a1 j_ p1367.1 p1367.2.1 p1367.2.2.1) (false, 0, ([] : List ByteArray), nilV) H (fun p1367 => [(0, sl strK a0), (1, vS a1), (4, eq (.slice none 0 0)), (5, eq p1367.2.2.2.1), (6, vB p1367.1), (7, vI p1367.2.1)]) (fun p1367 => [own strK p1367.2.2.2.1 p1367.2.2.1] ++ F) ?_
 rintro j_ ⟨x1347, x1348, x1349, v1350⟩ H
 rcases j_ with _ | j1366
 ·
  exact (Gets.no H).elim
 replace H : Gets (concourseref09_Put.l0 k a0 a1 (j1366 + 1) x1347 x1348 x1349) _ := H
 rw [concourseref09_Put.l0] at H
 refine WP.seq <| WP.seq <| rg 4 0 <| mv0 rfl rfl <| mv0 rfl rfl <| Dv.lenl rfl trivial rfl Tryz.underlying35 <| bn0 rfl rfl rfl run_lt <| .fin <| cd H rfl (fun _ H => ?_) (fun _ H => ?_)
 rotate_left
 ·
  refine WP.exit ?_
  replace H := Gets.out H
  exact jn ((x1347, x1348, decide (x1348 < (a0.length : Int)), x1349), v1350) H
 refine WP.skip <| WP.seq <| WP.block <| WP.seqn H (fun q1365 : (Bool × Bool × (List ByteArray)) × OV => q1365.1) (fun q1365 : (Bool × Bool × (List ByteArray)) × OV => [(0, sl strK a0), (1, vS a1), (4, eq (.slice none 0 0)), (5, eq q1365.2.1), (6, vB q1365.1.1), (7, vI x1348), (11, vB (decide (x1348 < (a0.length : Int)))), (23, vB q1365.1.2.1)]) (fun q1365 : (Bool × Bool × (List ByteArray)) × OV => [own strK q1365.2.1 q1365.1.2.2] ++ F) (fun q1365 H => ?_) (fun H => ?_)
 ·
  obtain ⟨p1352, v1353⟩ := q1365
  refine WP.seq <| rg 6 0 <| mv0 rfl rfl <| mv0 rfl rfl <| gr H fun g1354 H => Dv.ixr rfl trivial rfl rfl Tryz.underlying35 Tryz.underlying9 c9 g1354.1 g1354.2 <| ldR rfl trivial rfl sc9 rfl <| mv0 rfl rfl <| bn0 rfl rfl rfl run_sne <| .fin <| cd H rfl (fun _ H => ?_) (fun _ H => ?_)
  rotate_left
  ·
   exact WP.skip <| rg 3 0 <| mv0 rfl rfl <| bn0 rfl rfl rfl run_add <| as0 rfl rfl <| .fin <| bk j1366 (p1352.1, w64 (x1348 + 1), p1352.2.2, v1353) H
  refine rg 8 64 <| mv0 rfl rfl <| mv0 rfl rfl <| mv0 rfl rfl <| gr H fun g1356 H => Dv.ixr rfl trivial rfl rfl Tryz.underlying35 Tryz.underlying9 c9 g1356.1 g1356.2 <| ldR rfl trivial rfl sc9 rfl <| Dv.lit strK ([strK.at a0 x1348] : List ByteArray) (css := [[vS (strK.at a0 x1348)]]) rfl trivial Tryz.underlying35 Tryz.underlying9 c9 z9 rfl (by decide) (by decide) rfl ⟨(cells_one (one_eq rfl)), trivial⟩ rfl rfl rfl <| gr H fun g1357 H => ap strK 0 ([strK.at a0 x1348] : List ByteArray) src_sl Tryz.underlying35 (.inr ⟨_, Tryz.underlying35⟩) inf9 g1357 nofun fun v1358 => ?_
  exact as0 rfl rfl <| .fin <| rg 3 0 <| mv0 rfl rfl <| bn0 rfl rfl rfl run_add <| as0 rfl rfl <| .fin <| bk j1366 (p1352.1, w64 (x1348 + 1), p1352.2.2 ++ ([strK.at a0 x1348] : List ByteArray), v1358) H
 refine WP.seq <| rg 10 0 <| mv0 rfl rfl <| un0 rfl rfl (run_not _) <| mv0 rfl rfl ?_
 cases c1359 : !x1347
 ·
  replace H := Gets.cf H c1359
  refine sk rfl rfl <| sk rfl rfl <| sk rfl rfl <| sk rfl rfl <| sk rfl rfl <| sk rfl rfl <| pf0 rfl rfl rfl <| .fin <| WP.cond rfl nofun (fun _ => ?_)
  refine WP.skip ?_
  replace H := Gets.out H
  exact jn ((x1347, false, x1349), v1350) H
 replace H := Gets.ct H c1359
 refine mvg rfl rfl rfl <| mvg rfl rfl rfl <| mvg rfl rfl rfl <| gr H fun g1360 H => Dv.ixr rfl (gg rfl) rfl rfl Tryz.underlying35 Tryz.underlying9 c9 g1360.1 g1360.2 <| ldR rfl (gg rfl) rfl sc9 rfl <| bng rfl rfl rfl rfl run_sle <| pt0 rfl rfl rfl <| .fin <| cd H rfl (fun _ H => ?_) (fun _ H => ?_)
 rotate_left
 ·
  refine WP.skip ?_
  replace H := Gets.out H
  exact jn ((x1347, !sLt (strK.at a0 x1348) a1, x1349), v1350) H
 refine WP.seq <| rg 5 8 <| mv0 rfl rfl <| mv0 rfl rfl <| Dv.lit strK ([a1] : List ByteArray) (css := [[vS a1]]) rfl trivial Tryz.underlying35 Tryz.underlying9 c9 z9 rfl (by decide) (by decide) rfl ⟨(cells_one (one_eq rfl)), trivial⟩ rfl rfl rfl <| gr H fun g1362 H => ap strK 0 ([a1] : List ByteArray) src_sl Tryz.underlying35 (.inr ⟨_, Tryz.underlying35⟩) inf9 g1362 nofun fun v1363 => ?_
 refine as0 rfl rfl <| .fin <| rg 1 0 <| as0 rfl rfl <| .fin ?_
 replace H := Gets.out H
 exact jn ((true, !sLt (strK.at a0 x1348) a1, x1349 ++ ([a1] : List ByteArray)), v1363) H
theorem concourseref09_Homes.c {k : Nat} {a0 : List ByteArray} {r : (List ByteArray)} (h : concourseref09_Homes.f k a0 = some r) : Tr Tryz.prog 104 [sl strK a0] [] (γ := OV) (fun _ => True) (fun g => eq g.1) (fun g => [own strK g.1 r]) := by
 unfold concourseref09_Homes.f at h
 refine Tr.body Tryz.func104 (c := _) rfl Tryz.ntmps104 (Nat.le_of_ble_eq_true rfl) fun R0 F => ?_
 replace h := Gets.of h
 have H := h
 clear h
 refine WP.seq <| rg 1 0 <| as0 rfl rfl <| .fin <| WP.seq <| rg 1 0 <| as0 rfl rfl <| .fin <| WP.seqn H (fun q1384 : (Int × Bool × (List ByteArray)) × OV => q1384.1) (fun q1384 : (Int × Bool × (List ByteArray)) × OV => [(0, sl strK a0), (2, eq (.slice none 0 0)), (3, eq q1384.2.1), (4, vI q1384.1.1), (9, vB q1384.1.2.1)]) (fun q1384 : (Int × Bool × (List ByteArray)) × OV => [own strK q1384.2.1 q1384.1.2.2] ++ F) (fun q1384 H => ?_) (fun H => ?_)
 ·
  obtain ⟨p1369, v1370⟩ := q1384
  refine WP.seq <| rg 2 0 <| mv0 rfl rfl <| as0 rfl rfl <| .fin ?_
  obtain rfl := Gets.out H
  exact rt i2 rfl v1370 1 [0] 0 (.cons (res_tmp rfl) .nil)
 refine WP.seq <| rg 1 0 <| as0 rfl rfl <| .fin <| WP.block <| wg (st_nil strK none) fun _ _ => ?_
 refine wg (sg 1 [0] 0) fun _ _ => ?_
 refine lp (fun j_ (p1383 : Int × (List ByteArray) × OV) => concourseref09_Homes.l0 k a0 j_ p1383.1 p1383.2.1) (0, ([] : List ByteArray), nilV) H (fun p1383 => [(0, sl strK a0), (2, eq (.slice none 0 0)), (3, eq p1383.2.2.1), (4, vI p1383.1)]) (fun p1383 => [own strK p1383.2.2.1 p1383.2.1] ++ F) ?_
 rintro j_ ⟨x1371, x1372, v1373⟩ H
 rcases j_ with _ | j1382
 ·
  exact (Gets.no H).elim
 replace H : Gets (concourseref09_Homes.l0 k a0 (j1382 + 1) x1371 x1372) _ := H
 rw [concourseref09_Homes.l0] at H
 refine WP.seq <| WP.seq <| rg 4 0 <| mv0 rfl rfl <| mv0 rfl rfl <| Dv.lenl rfl trivial rfl Tryz.underlying35 <| bn0 rfl rfl rfl run_lt <| .fin <| cd H rfl (fun _ H => ?_) (fun _ H => ?_)
 rotate_left
 ·
  refine WP.exit ?_
  replace H := Gets.out H
  exact jn ((x1371, decide (x1371 < (a0.length : Int)), x1372), v1373) H
 refine WP.skip <| WP.seq <| WP.block <| WP.seq <| rg 6 0 <| mv0 rfl rfl <| mv0 rfl rfl <| gr H fun g1375 H => Dv.ixr rfl trivial rfl rfl Tryz.underlying35 Tryz.underlying9 c9 g1375.1 g1375.2 <| ldR rfl trivial rfl sc9 rfl <| el H fun t1376 h1377 H => cl rfl cal30 rfl (concourseref01_Home.c h1377) <| as0 rfl rfl <| .fin <| WP.seq <| rg 2 0 <| mv0 rfl rfl <| bn0 rfl rfl rfl run_sne <| .fin <| cd H rfl (fun _ H => ?_) (fun _ H => ?_)
 rotate_left
 ·
  exact WP.skip <| rg 3 0 <| mv0 rfl rfl <| bn0 rfl rfl rfl run_add <| as0 rfl rfl <| .fin <| bk j1382 (w64 (x1371 + 1), x1372, v1373) H
 refine rg 4 4 <| mv0 rfl rfl <| mv0 rfl rfl <| el H fun t1379 h1380 H => cx 1 [0] cal77 (Tr.lend [own strK v1373.1 x1372] (concourseref09_Put.c h1380) (.cons (lt_own (mem_at 0 rfl)) (.cons lt_id .nil)) (fun _ => flat_eq) (fun _ => (flatAs_cons (flatA_own flatK_str) flatAs_nil))) nofun fun g1381 _ => ?_
 refine as0 rfl rfl <| .fin <| rg 3 0 <| mv0 rfl rfl <| bn0 rfl rfl rfl run_add <| as0 rfl rfl <| .fin <| ng (sg 2 [0,1] 1) fun _ _ => ?_
 exact bk j1382 (w64 (x1371 + 1), t1379, g1381) H
theorem concourseref09_Users.c {k : Nat} {a0 : RDag} {r : (List ByteArray)} (h : concourseref09_Users.f k a0 = some r) : Tr Tryz.prog 105 [agg (RDag.enc a0)] [] (γ := OV) (fun _ => True) (fun g => eq g.1) (fun g => [own strK g.1 r]) := by
 unfold concourseref09_Users.f at h
 refine Tr.body Tryz.func105 (c := _) rfl Tryz.ntmps105 (Nat.le_of_ble_eq_true rfl) fun R0 F => ?_
 replace h := Gets.of h
 have H := h
 clear h
 refine WP.seq <| rg 2 1 <| Dv.box rfl trivial rfl cA nofun fun b1385 => as0 rfl rfl <| .fin <| WP.seq <| rg 1 0 <| as0 rfl rfl <| .fin <| WP.seqn H (fun q1402 : (Int × Bool × (List ByteArray)) × OV => q1402.1) (fun q1402 : (Int × Bool × (List ByteArray)) × OV => [(0, agg (RDag.enc a0)), (1, eq (.pointer (some ⟨b1385, 0, none⟩))), (2, eq (.slice none 0 0)), (3, eq q1402.2.1), (4, vI q1402.1.1), (10, vB q1402.1.2.1)]) (fun q1402 : (Int × Bool × (List ByteArray)) × OV => [blk b1385 74 (RDag.enc a0), own strK q1402.2.1 q1402.1.2.2] ++ F) (fun q1402 H => ?_) (fun H => ?_)
 ·
  obtain ⟨p1386, v1387⟩ := q1402
  refine WP.seq <| rg 2 0 <| mv0 rfl rfl <| as0 rfl rfl <| .fin ?_
  obtain rfl := Gets.out H
  exact rt i2 rfl v1387 2 [0,1] 1 (.cons (res_tmp rfl) .nil)
 refine WP.seq <| rg 1 0 <| as0 rfl rfl <| .fin <| WP.block <| wg (st_nil strK none) fun _ _ => ?_
 refine wg (sg 2 [1,0] 0) fun _ _ => ?_
 refine lp (fun j_ (p1401 : Int × (List ByteArray) × OV) => concourseref09_Users.l0 k a0 j_ p1401.1 p1401.2.1) (0, ([] : List ByteArray), nilV) H (fun p1401 => [(0, agg (RDag.enc a0)), (1, eq (.pointer (some ⟨b1385, 0, none⟩))), (2, eq (.slice none 0 0)), (3, eq p1401.2.2.1), (4, vI p1401.1)]) (fun p1401 => [blk b1385 74 (RDag.enc a0), own strK p1401.2.2.1 p1401.2.1] ++ F) ?_
 rintro j_ ⟨x1388, x1389, v1390⟩ H
 rcases j_ with _ | j1400
 ·
  exact (Gets.no H).elim
 replace H : Gets (concourseref09_Users.l0 k a0 (j1400 + 1) x1388 x1389) _ := H
 rw [concourseref09_Users.l0] at H
 refine WP.seq <| WP.seq <| rg 5 0 <| mv0 rfl rfl <| fb rfl trivial rfl fa74_1 <| ld 0 rfl trivial rfl sc54 rfl rfl <| Dv.lenl rfl trivial rfl Tryz.underlying54 <| bn0 rfl rfl rfl run_lt <| .fin <| cd H rfl (fun _ H => ?_) (fun _ H => ?_)
 rotate_left
 ·
  refine WP.exit ?_
  replace H := Gets.out H
  exact jn ((x1388, decide (x1388 < (a0.fL.length : Int)), x1389), v1390) H
 refine WP.skip <| WP.seq <| WP.block <| WP.seq <| dg Tryz.checked.mixed 9 0 <| lds 0 rfl trivial rfl sg74 rfl rfl <| fb rfl trivial rfl fa74_1 <| ld 0 rfl trivial rfl sc54 rfl rfl <| mv0 rfl rfl <| gr H fun g1392 H => Dv.ixr rfl trivial rfl rfl Tryz.underlying54 Tryz.underlying59 c59 g1392.1 g1392.2 <| fr rfl trivial rfl fa59_4 rfl <| ldR rfl trivial rfl sc9 rfl <| el H fun t1393 h1394 H => cl rfl cal60 rfl (concourseref09_Joined.c h1394) <| as0 rfl rfl <| .fin <| WP.seq <| rg 1 0 <| mv0 rfl rfl <| .fin <| cd H rfl (fun _ H => ?_) (fun _ H => ?_)
 rotate_left
 ·
  exact WP.skip <| rg 3 0 <| mv0 rfl rfl <| bn0 rfl rfl rfl run_add <| as0 rfl rfl <| .fin <| bk j1400 (w64 (x1388 + 1), x1389, v1390) H
 refine rg 9 128 <| mv0 rfl rfl <| fb rfl trivial rfl fa74_1 <| ld 0 rfl trivial rfl sc54 rfl rfl <| mv0 rfl rfl <| gr H fun g1396 H => Dv.ixr rfl trivial rfl rfl Tryz.underlying54 Tryz.underlying59 c59 g1396.1 g1396.2 <| fr rfl trivial rfl fa59_4 rfl <| ldR rfl trivial rfl sc9 rfl <| el H fun t1397 h1398 H => cx 2 [1,0] cal77 (Tr.lend [own strK v1390.1 x1389] (concourseref09_Put.c h1398) (.cons (lt_own (mem_at 0 rfl)) (.cons lt_id .nil)) (fun _ => flat_eq) (fun _ => (flatAs_cons (flatA_own flatK_str) flatAs_nil))) nofun fun g1399 _ => ?_
 refine as0 rfl rfl <| .fin <| rg 3 0 <| mv0 rfl rfl <| bn0 rfl rfl rfl run_add <| as0 rfl rfl <| .fin <| ng (sg 3 [0,2,1] 1) fun _ _ => ?_
 exact bk j1400 (w64 (x1388 + 1), t1397, g1399) H
theorem concourseref09_Servers.c {k : Nat} {a0 : RDag} {r : (List ByteArray)} (h : concourseref09_Servers.f k a0 = some r) : Tr Tryz.prog 78 [agg (RDag.enc a0)] [] (γ := OV) (fun _ => True) (fun g => eq g.1) (fun g => [own strK g.1 r]) := by
 unfold concourseref09_Servers.f at h
 refine Tr.body Tryz.func78 (c := _) rfl Tryz.ntmps78 (Nat.le_of_ble_eq_true rfl) fun R0 F => ?_
 replace h := Gets.of h
 have H := h
 clear h
 refine WP.seq <| rg 2 1 <| Dv.box rfl trivial rfl cA nofun fun b1403 => as0 rfl rfl <| .fin <| WP.seq <| rg 4 6 <| lds 0 rfl trivial rfl sg74 rfl rfl <| el H fun t1404 h1405 H => cx 1 [0] cal105 (concourseref09_Users.c h1405) nofun fun g1406 _ => ?_
 refine el H fun t1407 h1408 H => cx 2 [0,1] cal104 (Tr.lend [own strK g1406.1 t1404] (concourseref09_Homes.c h1408) (.cons (lt_own (mem_at 0 rfl)) .nil) (fun _ => flat_eq) (fun _ => (flatAs_cons (flatA_own flatK_str) flatAs_nil))) nofun fun g1409 _ => ?_
 refine as0 rfl rfl <| .fin ?_
 obtain rfl := Gets.out H
 exact rt i2 rfl g1409 3 [0,2,1] 2 (.cons (res_tmp rfl) .nil)
theorem concourseref10_Servers.c {k : Nat} {a0 : RView} {a1 : ByteArray} {r : (List ByteArray)} (h : concourseref10_Servers.f k a0 a1 = some r) : Tr Tryz.prog 47 [agg (RView.enc a0), vS a1] [] (γ := OV) (fun _ => True) (fun g => eq g.1) (fun g => [own strK g.1 r]) := by
 unfold concourseref10_Servers.f at h
 refine Tr.body Tryz.func47 (c := _) rfl Tryz.ntmps47 (Nat.le_of_ble_eq_true rfl) fun R0 F => ?_
 replace h := Gets.of h
 have H := h
 clear h
 refine WP.seq <| rg 2 1 <| Dv.box rfl trivial rfl cA nofun fun b1410 => as0 rfl rfl <| .fin <| WP.seq <| rg 5 8 <| lds 0 rfl trivial rfl sg28 rfl rfl <| mv0 rfl rfl <| el H fun t1411 h1412 H => cl rfl cal61 rfl (concourseref10_Of.c h1412) <| el H fun t1413 h1414 H => cx 1 [0] cal78 (concourseref09_Servers.c h1414) nofun fun g1415 _ => ?_
 refine as0 rfl rfl <| .fin ?_
 obtain rfl := Gets.out H
 exact rt i2 rfl g1415 2 [1,0] 1 (.cons (res_tmp rfl) .nil)
theorem concourseref10_Peers.c {k : Nat} {a0 : RView} {a1 : ByteArray} {r : (List ByteArray)} (h : concourseref10_Peers.f k a0 a1 = some r) : Tr Tryz.prog 46 [agg (RView.enc a0), vS a1] [] (γ := OV) (fun _ => True) (fun g => eq g.1) (fun g => [own strK g.1 r]) := by
 unfold concourseref10_Peers.f at h
 refine Tr.body Tryz.func46 (c := _) rfl Tryz.ntmps46 (Nat.le_of_ble_eq_true rfl) fun R0 F => ?_
 replace h := Gets.of h
 have H := h
 clear h
 refine WP.seq <| rg 2 1 <| Dv.box rfl trivial rfl cA nofun fun b1416 => as0 rfl rfl <| .fin <| WP.seq <| rg 4 4 <| lds 0 rfl trivial rfl sg28 rfl rfl <| mv0 rfl rfl <| el H fun t1417 h1418 H => cx 1 [0] cal42 (concourseref10_RoomsOf.c h1418) nofun fun g1419 _ => ?_
 refine as0 rfl rfl <| .fin <| WP.seq <| rg 1 0 <| as0 rfl rfl <| .fin <| WP.seqn H (fun q1448 : (Int × Bool × (List ByteArray)) × OV => q1448.1) (fun q1448 : (Int × Bool × (List ByteArray)) × OV => [(0, agg (RView.enc a0)), (1, vS a1), (2, eq (.pointer (some ⟨b1416, 0, none⟩))), (4, eq (.slice none 0 0)), (5, eq g1419.1), (6, eq q1448.2.1), (7, vI q1448.1.1), (16, vB q1448.1.2.1)]) (fun q1448 : (Int × Bool × (List ByteArray)) × OV => [blk b1416 28 (RView.enc a0), own strK g1419.1 t1417, own strK q1448.2.1 q1448.1.2.2] ++ F) (fun q1448 H => ?_) (fun H => ?_)
 ·
  obtain ⟨p1420, v1421⟩ := q1448
  refine WP.seq <| rg 2 0 <| mv0 rfl rfl <| as0 rfl rfl <| .fin ?_
  obtain rfl := Gets.out H
  exact rt i2 rfl v1421 3 [0,1,2] 2 (.cons (res_tmp rfl) .nil)
 refine WP.seq <| rg 1 0 <| as0 rfl rfl <| .fin <| WP.block <| wg (st_nil strK none) fun _ _ => ?_
 refine wg (sg 3 [2,1,0] 0) fun _ _ => ?_
 refine lp (fun j_ (p1447 : Int × (List ByteArray) × OV) => concourseref10_Peers.l0 k a0 t1417 j_ p1447.1 p1447.2.1) (0, ([] : List ByteArray), nilV) H (fun p1447 => [(0, agg (RView.enc a0)), (1, vS a1), (2, eq (.pointer (some ⟨b1416, 0, none⟩))), (4, eq (.slice none 0 0)), (5, eq g1419.1), (6, eq p1447.2.2.1), (7, vI p1447.1)]) (fun p1447 => [blk b1416 28 (RView.enc a0), own strK g1419.1 t1417, own strK p1447.2.2.1 p1447.2.1] ++ F) ?_
 rintro j_ ⟨x1422, x1423, v1424⟩ H
 rcases j_ with _ | j1446
 ·
  exact (Gets.no H).elim
 replace H : Gets (concourseref10_Peers.l0 k a0 t1417 (j1446 + 1) x1422 x1423) _ := H
 rw [concourseref10_Peers.l0] at H
 refine WP.seq <| WP.seq <| rg 4 0 <| mv0 rfl rfl <| mv0 rfl rfl <| Dv.lenw rfl trivial rfl (mem_at 1 rfl) Tryz.underlying35 <| bn0 rfl rfl rfl run_lt <| .fin <| cd H rfl (fun _ H => ?_) (fun _ H => ?_)
 rotate_left
 ·
  refine WP.exit ?_
  replace H := Gets.out H
  exact jn ((x1422, decide (x1422 < (t1417.length : Int)), x1423), v1424) H
 refine WP.skip <| WP.seqn H (fun q1445 : (Int × Bool × (List ByteArray) × (List ByteArray)) × OV × OV => q1445.1) (fun q1445 : (Int × Bool × (List ByteArray) × (List ByteArray)) × OV × OV => [(0, agg (RView.enc a0)), (1, vS a1), (2, eq (.pointer (some ⟨b1416, 0, none⟩))), (4, eq (.slice none 0 0)), (5, eq g1419.1), (6, eq q1445.2.1.1), (7, vI x1422), (8, eq q1445.2.2.1), (9, vI q1445.1.1), (16, vB (decide (x1422 < (t1417.length : Int)))), (28, vB q1445.1.2.1)]) (fun q1445 : (Int × Bool × (List ByteArray) × (List ByteArray)) × OV × OV => [blk b1416 28 (RView.enc a0), own strK g1419.1 t1417, own strK q1445.2.1.1 q1445.1.2.2.1, own strK q1445.2.2.1 q1445.1.2.2.2] ++ F) (fun q1445 H => ?_) (fun H => ?_)
 ·
  obtain ⟨p1426, v1427, v1428⟩ := q1445
  refine rg 3 0 <| mv0 rfl rfl <| bn0 rfl rfl rfl run_add <| as0 rfl rfl <| .fin <| ng (sg 4 [3,0,1,2] 1) fun _ _ => ?_
  exact bk j1446 (w64 (x1422 + 1), p1426.2.2.1, v1427) H
 refine WP.block <| WP.seq <| dg Tryz.checked.mixed 7 32 <| lds 0 rfl trivial rfl sg28 rfl rfl <| mv0 rfl rfl <| mv0 rfl rfl <| gr H fun g1429 H => ?_
 have h1430 : x1422.toNat < t1417.length := idx_lt g1429
 refine Dv.ixw rfl trivial rfl (mem_at 1 rfl) rfl Tryz.underlying35 Tryz.underlying9 c9 g1429.1 g1429.2 <| Dv.ldw (j := x1422.toNat) (f := 0) (p := vS (t1417.getD x1422.toNat default)) rfl trivial rfl (mem_at 1 rfl) h1430 Tryz.underlying9 rfl rfl <| el H fun t1431 h1432 H => cx 3 [0,1,2] cal47 (concourseref10_Servers.c h1432) pC fun g1433 _ => ?_
 refine as0 rfl rfl <| .fin <| WP.seq <| rg 1 0 <| as0 rfl rfl <| .fin <| WP.block <| wg (sg 4 [1,0,2,3] 0) fun _ _ => ?_
 refine lp (fun j_ (p1444 : Int × (List ByteArray) × OV) => concourseref10_Peers.l1 k t1431 j_ p1444.1 p1444.2.1) (0, x1423, v1424) H (fun p1444 => [(0, agg (RView.enc a0)), (1, vS a1), (2, eq (.pointer (some ⟨b1416, 0, none⟩))), (4, eq (.slice none 0 0)), (5, eq g1419.1), (6, eq p1444.2.2.1), (7, vI x1422), (8, eq g1433.1), (9, vI p1444.1), (16, vB (decide (x1422 < (t1417.length : Int))))]) (fun p1444 => [blk b1416 28 (RView.enc a0), own strK g1433.1 t1431, own strK g1419.1 t1417, own strK p1444.2.2.1 p1444.2.1] ++ F) ?_
 rintro j_ ⟨x1434, x1435, v1436⟩ H
 rcases j_ with _ | j1443
 ·
  exact (Gets.no H).elim
 replace H : Gets (concourseref10_Peers.l1 k t1431 (j1443 + 1) x1434 x1435) _ := H
 rw [concourseref10_Peers.l1] at H
 refine WP.seq <| WP.seq <| rg 4 0 <| mv0 rfl rfl <| mv0 rfl rfl <| Dv.lenw rfl trivial rfl (mem_at 1 rfl) Tryz.underlying35 <| bn0 rfl rfl rfl run_lt <| .fin <| cd H rfl (fun _ H => ?_) (fun _ H => ?_)
 rotate_left
 ·
  refine WP.exit ?_
  replace H := Gets.out H
  refine ng (sg 4 [0,2,3,1] 0) fun _ _ => ?_
  exact jn ((x1434, decide (x1434 < (t1431.length : Int)), x1435, t1431), v1436, g1433) H
 refine WP.skip <| WP.seq <| WP.block <| rg 7 32 <| mv0 rfl rfl <| mv0 rfl rfl <| mv0 rfl rfl <| gr H fun g1438 H => ?_
 have h1439 : x1434.toNat < t1431.length := idx_lt g1438
 refine Dv.ixw rfl trivial rfl (mem_at 1 rfl) rfl Tryz.underlying35 Tryz.underlying9 c9 g1438.1 g1438.2 <| Dv.ldw (j := x1434.toNat) (f := 0) (p := vS (t1431.getD x1434.toNat default)) rfl trivial rfl (mem_at 1 rfl) h1439 Tryz.underlying9 rfl rfl <| el H fun t1440 h1441 H => cx 4 [3,0,1,2] cal77 (Tr.lend [own strK v1436.1 x1435] (concourseref09_Put.c h1441) (.cons (lt_own (mem_at 0 rfl)) (.cons lt_id .nil)) (fun _ => flat_eq) (fun _ => (flatAs_cons (flatA_own flatK_str) flatAs_nil))) nofun fun g1442 _ => ?_
 refine as0 rfl rfl <| .fin <| rg 3 0 <| mv0 rfl rfl <| bn0 rfl rfl rfl run_add <| as0 rfl rfl <| .fin <| ng (sg 5 [0,2,3,4,1] 1) fun _ _ => ?_
 exact bk j1443 (w64 (x1434 + 1), t1440, g1442) H
theorem concourseref16_Passes.c {k : Nat} {a0 : RView} {a1 : ByteArray} {a2 : Edu} {r : Bool} (h : concourseref16_Passes.f k a0 a1 a2 = some r) : Pt Tryz.prog 17 [agg (RView.enc a0), vS a1, agg (Edu.enc a2)] (vB r) := by
 unfold concourseref16_Passes.f at h
 refine (Tr.body Tryz.func17 (c := _) rfl Tryz.ntmps17 (Nat.le_of_ble_eq_true rfl) fun R0 F => ?_).pt
 replace h := Gets.of h
 have H := h
 clear h
 refine WP.seq <| rg 3 3 <| Dv.box rfl trivial rfl cA nofun fun b1449 => Dv.box rfl trivial rfl cA nofun fun b1450 => as0 rfl rfl <| .fin <| WP.seq <| rg 3 0 <| lds 0 rfl trivial rfl sg24 rfl rfl <| el H fun t1451 h1452 H => cl rfl cal41 rfl (concourseref03_May.c h1452) <| as0 rfl rfl <| .fin <| WP.seq <| WP.seq <| rg 2 0 <| mv0 rfl rfl <| un0 rfl rfl (run_not _) <| .fin <| cd H rfl (fun _ H => ?_) (fun _ H => ?_)
 ·
  refine WP.seq <| rg 1 0 <| as0 rfl rfl <| .fin ?_
  obtain rfl := Gets.out H
  exact rt i2 rfl () 2 [0,1] 2 (.cons (res_tmp rfl) .nil)
 refine WP.skip <| WP.seq <| WP.seq <| rg 3 0 <| fb rfl trivial rfl fa24_0 <| ld 0 rfl trivial rfl sc3 rfl rfl <| bn0 rfl rfl rfl run_eq <| .fin <| cd H rfl (fun _ H => ?_) (fun _ H => ?_)
 ·
  refine WP.seq <| rg 7 8 <| lds 1 rfl trivial rfl sg28 rfl rfl <| fb rfl trivial rfl fa24_2 <| ld 0 rfl trivial rfl sc9 rfl rfl <| el H fun t1455 h1456 H => cx 2 [0,1] cal46 (concourseref10_Peers.c h1456) nofun fun g1457 _ => ?_
  refine mv0 rfl rfl <| el H fun t1458 h1459 H => cll (B := [own strK g1457.1 t1455]) 3 [0,1,2] cal45 (Pt.lend _ (concourseref09_Has.c h1459) (.cons (lt_own (mem_at 0 rfl)) (.cons lt_id .nil)) flat_eq) ?_
  refine as0 rfl rfl <| .fin ?_
  obtain rfl := Gets.out H
  exact rt i2 rfl () 3 [0,1,2] 3 (.cons (res_tmp rfl) .nil)
 refine WP.skip <| WP.seq <| rg 7 8 <| lds 1 rfl trivial rfl sg28 rfl rfl <| fb rfl trivial rfl fa24_1 <| ld 0 rfl trivial rfl sc9 rfl rfl <| el H fun t1460 h1461 H => cx 2 [0,1] cal47 (concourseref10_Servers.c h1461) nofun fun g1462 _ => ?_
 refine mv0 rfl rfl <| el H fun t1463 h1464 H => cll (B := [own strK g1462.1 t1460]) 3 [0,1,2] cal45 (Pt.lend _ (concourseref09_Has.c h1464) (.cons (lt_own (mem_at 0 rfl)) (.cons lt_id .nil)) flat_eq) ?_
 refine as0 rfl rfl <| .fin ?_
 obtain rfl := Gets.out H
 exact rt i2 rfl () 3 [0,1,2] 3 (.cons (res_tmp rfl) .nil)
theorem concourseref01_SameTexts.c {k : Nat} {a0 : List ByteArray} {a1 : List ByteArray} {r : Bool} (h : concourseref01_SameTexts.f k a0 a1 = some r) : Pt Tryz.prog 18 [sl strK a0, sl strK a1] (vB r) := by
 unfold concourseref01_SameTexts.f at h
 refine (Tr.body Tryz.func18 (c := _) rfl Tryz.ntmps18 (Nat.le_of_ble_eq_true rfl) fun R0 F => ?_).pt
 replace h := Gets.of h
 have H := h
 clear h
 refine WP.seq <| rg 1 0 <| as0 rfl rfl <| .fin <| WP.seq <| WP.seq <| rg 5 0 <| mv0 rfl rfl <| Dv.lenl rfl trivial rfl Tryz.underlying35 <| mv0 rfl rfl <| Dv.lenl rfl trivial rfl Tryz.underlying35 <| bn0 rfl rfl rfl run_ne <| .fin <| cd H rfl (fun _ H => ?_) (fun _ H => ?_)
 ·
  refine WP.seq <| rg 1 0 <| as0 rfl rfl <| .fin ?_
  obtain rfl := Gets.out H
  exact rt i2 rfl () 0 [] 0 (.cons (res_tmp rfl) .nil)
 refine WP.skip <| WP.seqr H id (fun p1466 : Int × Bool => [(0, sl strK a0), (1, sl strK a1), (4, vB false), (5, vI p1466.1), (10, vB ((a0.length : Int) != (a1.length : Int))), (14, vB p1466.2)]) (fun p1466 : Int × Bool => F) (fun p1466 H => ?_) (fun H => ?_)
 ·
  refine WP.seq <| rg 1 0 <| as0 rfl rfl <| .fin ?_
  obtain rfl := Gets.out H
  exact rt i2 rfl () 0 [] 0 (.cons (res_tmp rfl) .nil)
 refine WP.seq <| rg 1 0 <| as0 rfl rfl <| .fin <| WP.block <| wg (sg 0 [] 0) fun _ _ => ?_
 refine lp (fun j_ (p1473 : Int) => concourseref01_SameTexts.l0 k a0 a1 j_ p1473) 0 H (fun p1473 => [(0, sl strK a0), (1, sl strK a1), (4, vB false), (5, vI p1473), (10, vB ((a0.length : Int) != (a1.length : Int)))]) (fun p1473 => F) ?_
 rintro j_ x1467 H
 rcases j_ with _ | j1472
 ·
  exact (Gets.no H).elim
 replace H : Gets (concourseref01_SameTexts.l0 k a0 a1 (j1472 + 1) x1467) _ := H
 rw [concourseref01_SameTexts.l0] at H
 refine WP.seq <| WP.seq <| rg 4 0 <| mv0 rfl rfl <| mv0 rfl rfl <| Dv.lenl rfl trivial rfl Tryz.underlying35 <| bn0 rfl rfl rfl run_lt <| .fin <| cd H rfl (fun _ H => ?_) (fun _ H => ?_)
 rotate_left
 ·
  refine WP.exit ?_
  replace H := Gets.out H
  exact jn (x1467, decide (x1467 < (a0.length : Int))) H
 refine WP.skip <| WP.seq <| WP.block <| WP.seq <| dg Tryz.checked.mixed 9 0 <| mv0 rfl rfl <| mv0 rfl rfl <| gr H fun g1469 H => Dv.ixr rfl trivial rfl rfl Tryz.underlying35 Tryz.underlying9 c9 g1469.1 g1469.2 <| ldR rfl trivial rfl sc9 rfl <| mv0 rfl rfl <| mv0 rfl rfl <| gr H fun g1470 H => Dv.ixr rfl trivial rfl rfl Tryz.underlying35 Tryz.underlying9 c9 g1470.1 g1470.2 <| ldR rfl trivial rfl sc9 rfl <| bn0 rfl rfl rfl run_sne <| .fin <| cd H rfl (fun _ H => ?_) (fun _ H => ?_)
 rotate_left
 ·
  exact WP.skip <| rg 3 0 <| mv0 rfl rfl <| bn0 rfl rfl rfl run_add <| as0 rfl rfl <| .fin <| bk j1472 (w64 (x1467 + 1)) H
 refine WP.seq <| rg 1 0 <| as0 rfl rfl <| .fin ?_
 replace H := Gets.outr H
 obtain rfl := Gets.out H
 exact rt i2 rfl () 0 [] 0 (.cons (res_tmp rfl) .nil)
theorem gate_Targets_1.c {a0 : ByteArray} {c0 : ByteArray} {r : Bool} (h : gate_Targets_1.f a0 c0 = some r) : Pt Tryz.prog 49 [vS a0, rp [vS c0]] (vB r) := by
 unfold gate_Targets_1.f at h
 refine (Tr.body Tryz.func49 (c := _) rfl Tryz.ntmps49 (Nat.le_of_ble_eq_true rfl) fun R0 F => ?_).pt
 replace h := Gets.of h
 have H := h
 clear h
 refine WP.seq <| rg 1 0 <| as0 rfl rfl <| .fin <| WP.seq <| rg 4 0 <| mv0 rfl rfl <| ldR rfl trivial rfl sc9 rfl <| bn0 rfl rfl rfl run_seq <| as0 rfl rfl <| .fin ?_
 obtain rfl := Gets.out H
 exact rt i2 rfl () 0 [] 0 (.cons (res_tmp rfl) .nil)
theorem gate_Targets.c {k : Nat} {a0 : VView} {a1 : ByteArray} {a2 : Edu} {p0_ : OV} {r : (List ByteArray)} (h : gate_Targets.f k a0 a1 a2 = some r) : Tr Tryz.prog 19 [eq p0_.1, vS a1, agg (Edu.enc a2)] [VView.O p0_ a0] (γ := OV) (fun _ => True) (fun g => eq g.1) (fun g => [VView.O p0_ a0, own strK g.1 r]) := by
 unfold gate_Targets.f at h
 refine Tr.body Tryz.func19 (c := _) rfl Tryz.ntmps19 (Nat.le_of_ble_eq_true rfl) fun R0 F => ?_
 replace h := Gets.of h
 have H := h
 clear h
 refine WP.seq <| rg 3 3 <| Dv.box rfl trivial rfl cE nofun fun b1474 => Dv.box rfl trivial rfl cA nofun fun b1475 => as0 rfl rfl <| .fin <| WP.seq <| rg 6 20 <| mv0 rfl rfl <| lds 0 rfl trivial rfl sg24 rfl rfl <| el H fun t1476 h1477 H => cx 3 [2,0,1] cal44 (gate_reached.c h1477 (p0_ := p0_)) nofun fun g1478 _ => ?_
 refine Dv.gh (gh_frzb (E' := [(0, eq p0_.1), (1, vS a1), (2, agg (Edu.enc a2)), (4, rp [vS a1]), (5, eq (.pointer (some ⟨b1475, 0, none⟩))), (6, eq (.slice none 0 0)), (9, eq g1478.1)]) (l' := [VView.O p0_ a0, own strK g1478.1 t1476, blk b1475 24 (Edu.enc a2)] ++ F) 3 rfl (cve_cons rfl cv_id (cve_cons rfl cv_id (cve_cons rfl cv_id (cve_cons rfl cv_eq (cve_cons rfl cv_id (cve_cons rfl cv_id (cve_cons rfl cv_id cve_nil))))))) (all2_app (.cons cva_id (.cons cva_id (.cons cva_id .nil))) fun _ => cva_id)) (fun _ _ => ?_)
 refine Dv.mkx (Q := fqQ_string_bool (fun a0_ => gate_Targets_1.f a0_ a1)) (L := []) cal49 (by rintro _ _ ⟨a0_, r_, h_, rfl, rfl⟩; exact (gate_Targets_1.c h_).tr) rfl trivial rfl rfl <| el H fun t1479 h1480 H => cx 3 [1,0,2] cal48 (Tr.unpko (A := [own strK g1478.1 t1476]) (L := []) (B := fun g1481 : OV => [own strK g1481.1 t1479]) (slices_DeleteFunc_string_xo.c h1480 (p0_ := g1478) (X1_ := (pk [])))) nofun fun g1481 _ => ?_
 refine as0 rfl rfl <| .fin ?_
 obtain rfl := Gets.out H
 exact rt i2 rfl g1481 3 [2,1,0] 1 (.cons (res_tmp rfl) .nil)
theorem concourseref16_Targets.c {k : Nat} {a0 : RView} {a1 : ByteArray} {a2 : Edu} {r : (List ByteArray)} (h : concourseref16_Targets.f k a0 a1 a2 = some r) : Tr Tryz.prog 20 [agg (RView.enc a0), vS a1, agg (Edu.enc a2)] [] (γ := OV) (fun _ => True) (fun g => eq g.1) (fun g => [own strK g.1 r]) := by
 unfold concourseref16_Targets.f at h
 refine Tr.body Tryz.func20 (c := _) rfl Tryz.ntmps20 (Nat.le_of_ble_eq_true rfl) fun R0 F => ?_
 replace h := Gets.of h
 have H := h
 clear h
 refine WP.seq <| rg 3 3 <| Dv.box rfl trivial rfl cA nofun fun b1482 => Dv.box rfl trivial rfl cA nofun fun b1483 => as0 rfl rfl <| .fin <| WP.seq <| rg 5 8 <| lds 1 rfl trivial rfl sg28 rfl rfl <| fb rfl trivial rfl fa24_1 <| ld 0 rfl trivial rfl sc9 rfl rfl <| el H fun t1484 h1485 H => cx 2 [0,1] cal47 (concourseref10_Servers.c h1485) nofun fun g1486 _ => ?_
 refine as0 rfl rfl <| .fin <| WP.seqn H (fun q1515 : (List ByteArray) × OV => q1515.1) (fun q1515 : (List ByteArray) × OV => [(0, agg (RView.enc a0)), (1, vS a1), (2, agg (Edu.enc a2)), (3, eq (.pointer (some ⟨b1482, 0, none⟩))), (5, eq (.pointer (some ⟨b1483, 0, none⟩))), (6, eq (.slice none 0 0)), (7, eq q1515.2.1), (17, vB (a2.fKind == 3))]) (fun q1515 : (List ByteArray) × OV => [blk b1483 24 (Edu.enc a2), blk b1482 28 (RView.enc a0), own strK q1515.2.1 q1515.1] ++ F) (fun q1515 H => ?_) (fun H => ?_)
 rotate_left
 ·
  refine WP.seq <| rg 3 0 <| fb rfl trivial rfl fa24_0 <| ld 1 rfl trivial rfl sc3 rfl rfl <| bn0 rfl rfl rfl run_eq <| .fin <| cd H rfl (fun _ H => ?_) (fun _ H => ?_)
  rotate_left
  ·
   refine WP.skip ?_
   replace H := Gets.out H
   refine ng (sg 3 [1,2,0] 0) fun _ _ => ?_
   exact jn (t1484, g1486) H
  refine rg 5 8 <| lds 2 rfl trivial rfl sg28 rfl rfl <| fb rfl trivial rfl fa24_2 <| ld 1 rfl trivial rfl sc9 rfl rfl <| el H fun t1512 h1513 H => cx 3 [0,1,2] cal46 (concourseref10_Peers.c h1513) nofun fun g1514 _ => ?_
  refine as0 rfl rfl <| .fin ?_
  replace H := Gets.out H
  refine ng (sg 4 [1,2,3,0] 1) fun _ _ => ?_
  exact jn (t1512, g1514) H
 obtain ⟨p1487, v1488⟩ := q1515
 refine WP.seq <| rg 1 0 <| as0 rfl rfl <| .fin <| WP.seqn H (fun q1510 : (Int × Bool × (List ByteArray)) × OV => q1510.1) (fun q1510 : (Int × Bool × (List ByteArray)) × OV => [(0, agg (RView.enc a0)), (1, vS a1), (2, agg (Edu.enc a2)), (3, eq (.pointer (some ⟨b1482, 0, none⟩))), (5, eq (.pointer (some ⟨b1483, 0, none⟩))), (6, eq (.slice none 0 0)), (7, eq v1488.1), (8, eq q1510.2.1), (9, vI q1510.1.1), (17, vB (a2.fKind == 3)), (25, vB q1510.1.2.1)]) (fun q1510 : (Int × Bool × (List ByteArray)) × OV => [blk b1483 24 (Edu.enc a2), blk b1482 28 (RView.enc a0), own strK v1488.1 p1487, own strK q1510.2.1 q1510.1.2.2] ++ F) (fun q1510 H => ?_) (fun H => ?_)
 ·
  obtain ⟨p1489, v1490⟩ := q1510
  refine WP.seq <| rg 2 0 <| mv0 rfl rfl <| as0 rfl rfl <| .fin ?_
  obtain rfl := Gets.out H
  exact rt i2 rfl v1490 4 [0,1,2,3] 3 (.cons (res_tmp rfl) .nil)
 refine WP.seq <| rg 1 0 <| as0 rfl rfl <| .fin <| WP.block <| wg (st_nil strK none) fun _ _ => ?_
 refine wg (sg 4 [1,2,3,0] 0) fun _ _ => ?_
 refine lp (fun j_ (p1509 : Int × (List ByteArray) × OV) => concourseref16_Targets.l0 k a0 a1 a2 p1487 j_ p1509.1 p1509.2.1) (0, ([] : List ByteArray), nilV) H (fun p1509 => [(0, agg (RView.enc a0)), (1, vS a1), (2, agg (Edu.enc a2)), (3, eq (.pointer (some ⟨b1482, 0, none⟩))), (5, eq (.pointer (some ⟨b1483, 0, none⟩))), (6, eq (.slice none 0 0)), (7, eq v1488.1), (8, eq p1509.2.2.1), (9, vI p1509.1), (17, vB (a2.fKind == 3))]) (fun p1509 => [blk b1483 24 (Edu.enc a2), blk b1482 28 (RView.enc a0), own strK v1488.1 p1487, own strK p1509.2.2.1 p1509.2.1] ++ F) ?_
 rintro j_ ⟨x1491, x1492, v1493⟩ H
 rcases j_ with _ | j1508
 ·
  exact (Gets.no H).elim
 replace H : Gets (concourseref16_Targets.l0 k a0 a1 a2 p1487 (j1508 + 1) x1491 x1492) _ := H
 rw [concourseref16_Targets.l0] at H
 refine WP.seq <| WP.seq <| rg 4 0 <| mv0 rfl rfl <| mv0 rfl rfl <| Dv.lenw rfl trivial rfl (mem_at 2 rfl) Tryz.underlying35 <| bn0 rfl rfl rfl run_lt <| .fin <| cd H rfl (fun _ H => ?_) (fun _ H => ?_)
 rotate_left
 ·
  refine WP.exit ?_
  replace H := Gets.out H
  exact jn ((x1491, decide (x1491 < (p1487.length : Int)), x1492), v1493) H
 refine WP.skip <| WP.seq <| WP.block <| WP.seq <| dg Tryz.checked.mixed 8 0 <| lds 1 rfl trivial rfl sg28 rfl rfl <| mv0 rfl rfl <| mv0 rfl rfl <| gr H fun g1495 H => ?_
 have h1496 : x1491.toNat < p1487.length := idx_lt g1495
 refine Dv.ixw rfl trivial rfl (mem_at 2 rfl) rfl Tryz.underlying35 Tryz.underlying9 c9 g1495.1 g1495.2 <| Dv.ldw (j := x1491.toNat) (f := 0) (p := vS (p1487.getD x1491.toNat default)) rfl trivial rfl (mem_at 2 rfl) h1496 Tryz.underlying9 rfl rfl <| lds 0 rfl trivial rfl sg24 rfl rfl <| el H fun t1497 h1498 H => cl rfl cal17 rfl (concourseref16_Passes.c h1498) <| as0 rfl rfl <| .fin <| WP.seq <| rg 9 0 <| mv0 rfl rfl <| mv0 rfl rfl ?_
 cases c1499 : t1497
 ·
  replace H := Gets.cf H c1499
  refine sk rfl rfl <| sk rfl rfl <| sk rfl rfl <| sk rfl rfl <| sk rfl rfl <| sk rfl rfl <| pf0 rfl rfl rfl <| .fin <| WP.cond rfl nofun (fun _ => ?_)
  exact WP.skip <| rg 3 0 <| mv0 rfl rfl <| bn0 rfl rfl rfl run_add <| as0 rfl rfl <| .fin <| bk j1508 (w64 (x1491 + 1), x1492, v1493) H
 replace H := Gets.ct H c1499
 refine mvg rfl rfl rfl <| mvg rfl rfl rfl <| gr H fun g1500 H => ?_
 have h1501 : x1491.toNat < p1487.length := idx_lt g1500
 refine Dv.ixw rfl (gg rfl) rfl (mem_at 2 rfl) rfl Tryz.underlying35 Tryz.underlying9 c9 g1500.1 g1500.2 <| Dv.ldw (j := x1491.toNat) (f := 0) (p := vS (p1487.getD x1491.toNat default)) rfl (gg rfl) rfl (mem_at 2 rfl) h1501 Tryz.underlying9 rfl rfl <| mvg rfl rfl rfl <| bng rfl rfl rfl rfl run_sne <| pt0 rfl rfl rfl <| .fin <| cd H rfl (fun _ H => ?_) (fun _ H => ?_)
 rotate_left
 ·
  exact WP.skip <| rg 3 0 <| mv0 rfl rfl <| bn0 rfl rfl rfl run_add <| as0 rfl rfl <| .fin <| bk j1508 (w64 (x1491 + 1), x1492, v1493) H
 refine rg 8 64 <| mv0 rfl rfl <| mv0 rfl rfl <| mv0 rfl rfl <| gr H fun g1503 H => ?_
 have h1504 : x1491.toNat < p1487.length := idx_lt g1503
 refine Dv.ixw rfl trivial rfl (mem_at 2 rfl) rfl Tryz.underlying35 Tryz.underlying9 c9 g1503.1 g1503.2 <| Dv.ldw (j := x1491.toNat) (f := 0) (p := vS (p1487.getD x1491.toNat default)) rfl trivial rfl (mem_at 2 rfl) h1504 Tryz.underlying9 rfl rfl <| Dv.lit strK ([p1487.getD x1491.toNat default] : List ByteArray) (css := [[vS (p1487.getD x1491.toNat default)]]) rfl trivial Tryz.underlying35 Tryz.underlying9 c9 z9 rfl (by decide) (by decide) rfl ⟨(cells_one (one_eq rfl)), trivial⟩ rfl rfl rfl <| gr H fun g1505 H => ap strK 3 ([p1487.getD x1491.toNat default] : List ByteArray) src_sl Tryz.underlying35 (.inr ⟨_, Tryz.underlying35⟩) inf9 g1505 nofun fun v1506 => ?_
 exact as0 rfl rfl <| .fin <| rg 3 0 <| mv0 rfl rfl <| bn0 rfl rfl rfl run_add <| as0 rfl rfl <| .fin <| bk j1508 (w64 (x1491 + 1), x1492 ++ ([p1487.getD x1491.toNat default] : List ByteArray), v1506) H
theorem concourseref04_SameEdus.c {k : Nat} {a0 : List Edu} {a1 : List Edu} {r : Bool} (h : concourseref04_SameEdus.f k a0 a1 = some r) : Pt Tryz.prog 21 [sl Edu.K a0, sl Edu.K a1] (vB r) := by
 unfold concourseref04_SameEdus.f at h
 refine (Tr.body Tryz.func21 (c := _) rfl Tryz.ntmps21 (Nat.le_of_ble_eq_true rfl) fun R0 F => ?_).pt
 replace h := Gets.of h
 have H := h
 clear h
 refine WP.seq <| rg 1 0 <| as0 rfl rfl <| .fin <| WP.seq <| WP.seq <| rg 5 0 <| mv0 rfl rfl <| Dv.lenl rfl trivial rfl Tryz.underlying31 <| mv0 rfl rfl <| Dv.lenl rfl trivial rfl Tryz.underlying31 <| bn0 rfl rfl rfl run_ne <| .fin <| cd H rfl (fun _ H => ?_) (fun _ H => ?_)
 ·
  refine WP.seq <| rg 1 0 <| as0 rfl rfl <| .fin ?_
  obtain rfl := Gets.out H
  exact rt i2 rfl () 0 [] 0 (.cons (res_tmp rfl) .nil)
 refine WP.skip <| WP.seqr H id (fun p1568 : Int × Bool => [(0, sl Edu.K a0), (1, sl Edu.K a1), (4, vB false), (5, vI p1568.1), (10, vB ((a0.length : Int) != (a1.length : Int))), (14, vB p1568.2)]) (fun p1568 : Int × Bool => F) (fun p1568 H => ?_) (fun H => ?_)
 ·
  refine WP.seq <| rg 1 0 <| as0 rfl rfl <| .fin ?_
  obtain rfl := Gets.out H
  exact rt i2 rfl () 0 [] 0 (.cons (res_tmp rfl) .nil)
 refine WP.seq <| rg 1 0 <| as0 rfl rfl <| .fin <| WP.block <| wg (sg 0 [] 0) fun _ _ => ?_
 refine lp (fun j_ (p1575 : Int) => concourseref04_SameEdus.l0 k a0 a1 j_ p1575) 0 H (fun p1575 => [(0, sl Edu.K a0), (1, sl Edu.K a1), (4, vB false), (5, vI p1575), (10, vB ((a0.length : Int) != (a1.length : Int)))]) (fun p1575 => F) ?_
 rintro j_ x1569 H
 rcases j_ with _ | j1574
 ·
  exact (Gets.no H).elim
 replace H : Gets (concourseref04_SameEdus.l0 k a0 a1 (j1574 + 1) x1569) _ := H
 rw [concourseref04_SameEdus.l0] at H
 refine WP.seq <| WP.seq <| rg 4 0 <| mv0 rfl rfl <| mv0 rfl rfl <| Dv.lenl rfl trivial rfl Tryz.underlying31 <| bn0 rfl rfl rfl run_lt <| .fin <| cd H rfl (fun _ H => ?_) (fun _ H => ?_)
 rotate_left
 ·
  refine WP.exit ?_
  replace H := Gets.out H
  exact jn (x1569, decide (x1569 < (a0.length : Int))) H
 refine WP.skip <| WP.seq <| WP.block <| WP.seq <| dg Tryz.checked.mixed 9 0 <| mv0 rfl rfl <| mv0 rfl rfl <| gr H fun g1571 H => Dv.ixr rfl trivial rfl rfl Tryz.underlying31 Tryz.underlying24 c24 g1571.1 g1571.2 <| ldsR rfl trivial rfl sg24 rfl <| mv0 rfl rfl <| mv0 rfl rfl <| gr H fun g1572 H => Dv.ixr rfl trivial rfl rfl Tryz.underlying31 Tryz.underlying24 c24 g1572.1 g1572.2 <| ldsR rfl trivial rfl sg24 rfl <| Dv.nes [.int .i64 ((Edu.K.at a0 x1569).fKind), .string ((Edu.K.at a0 x1569).fRoom), .string ((Edu.K.at a0 x1569).fUser), .string ((Edu.K.at a0 x1569).fEvent), .string ((Edu.K.at a0 x1569).fThread), .bool ((Edu.K.at a0 x1569).fPrivate), .bool ((Edu.K.at a0 x1569).fOn), .int .i64 ((Edu.K.at a0 x1569).fSpan), .int .i64 ((Edu.K.at a0 x1569).fState), .int .i64 ((Edu.K.at a0 x1569).fTick), .int .i64 ((Edu.K.at a0 x1569).fStamp)] [.int .i64 ((Edu.K.at a1 x1569).fKind), .string ((Edu.K.at a1 x1569).fRoom), .string ((Edu.K.at a1 x1569).fUser), .string ((Edu.K.at a1 x1569).fEvent), .string ((Edu.K.at a1 x1569).fThread), .bool ((Edu.K.at a1 x1569).fPrivate), .bool ((Edu.K.at a1 x1569).fOn), .int .i64 ((Edu.K.at a1 x1569).fSpan), .int .i64 ((Edu.K.at a1 x1569).fState), .int .i64 ((Edu.K.at a1 x1569).fTick), .int .i64 ((Edu.K.at a1 x1569).fStamp)] rfl trivial rfl rfl rfl rfl eg24 (fun _ => equal_of 2 (by decide) (fun _ => eqt24 (Edu.K.at a0 x1569) (Edu.K.at a1 x1569))) <| .fin <| cd H rfl (fun _ H => ?_) (fun _ H => ?_)
 rotate_left
 ·
  exact WP.skip <| rg 3 0 <| mv0 rfl rfl <| bn0 rfl rfl rfl run_add <| as0 rfl rfl <| .fin <| bk j1574 (w64 (x1569 + 1)) H
 refine WP.seq <| rg 1 0 <| as0 rfl rfl <| .fin ?_
 replace H := Gets.outr H
 obtain rfl := Gets.out H
 exact rt i2 rfl () 0 [] 0 (.cons (res_tmp rfl) .nil)
theorem slices_IndexFunc_Edu_x.c {k : Nat} {a0 : List Edu} {a1 : (Edu → Option Bool)} {X1_ : As} {r : Int} (h : slices_IndexFunc_Edu_x.f k a0 a1 = some r) : Tr Tryz.prog 80 [sl Edu.K a0, fx_api_Edu_bool X1_ a1] [X1_] (γ := Unit) (fun _ => True) (fun g => vI r) (fun g => [X1_]) := by
 unfold slices_IndexFunc_Edu_x.f at h
 refine Tr.body Tryz.func80 (c := _) rfl Tryz.ntmps80 (Nat.le_of_ble_eq_true rfl) fun R0 F => ?_
 replace h := Gets.of h
 have H := h
 clear h
 refine WP.seq <| rg 1 0 <| as0 rfl rfl <| .fin <| WP.seqr H id (fun p1576 : Int × Bool => [(0, sl Edu.K a0), (1, fx_api_Edu_bool X1_ a1), (4, vI 0), (7, vI (a0.length : Int)), (8, vI p1576.1), (9, vB p1576.2)]) (fun p1576 : Int × Bool => [X1_] ++ F) (fun p1576 H => ?_) (fun H => ?_)
 ·
  refine WP.seq <| rg 1 0 <| as0 rfl rfl <| .fin ?_
  obtain rfl := Gets.out H
  exact rt i2 rfl () 1 [0] 0 (.cons (res_tmp rfl) .nil)
 refine WP.seq <| rg 3 0 <| mv0 rfl rfl <| Dv.lenl rfl trivial rfl Tryz.underlying31 <| mv0 rfl rfl <| .fin <| WP.block <| wg (sg 1 [0] 0) fun _ _ => ?_
 refine lp (fun j_ (p1584 : Int) => slices_IndexFunc_Edu_x.l0 k a0 a1 j_ p1584) 0 H (fun p1584 => [(0, sl Edu.K a0), (1, fx_api_Edu_bool X1_ a1), (4, vI 0), (7, vI (a0.length : Int)), (8, vI p1584)]) (fun p1584 => [X1_] ++ F) ?_
 rintro j_ x1577 H
 rcases j_ with _ | j1583
 ·
  exact (Gets.no H).elim
 replace H : Gets (slices_IndexFunc_Edu_x.l0 k a0 a1 (j1583 + 1) x1577) _ := H
 rw [slices_IndexFunc_Edu_x.l0] at H
 refine WP.seq <| rg 1 0 <| bn0 rfl rfl rfl run_lt <| .fin <| WP.seq <| cd H rfl (fun _ H => ?_) (fun _ H => ?_)
 rotate_left
 ·
  refine WP.exit ?_
  replace H := Gets.out H
  exact jn (x1577, decide (x1577 < (a0.length : Int))) H
 refine WP.skip <| WP.seq <| WP.block <| WP.seq <| rg 2 0 <| mv0 rfl rfl <| as0 rfl rfl <| .fin <| WP.seq <| rg 6 0 <| mv0 rfl rfl <| mv0 rfl rfl <| mv0 rfl rfl <| gr H fun g1579 H => Dv.ixr rfl trivial rfl rfl Tryz.underlying31 Tryz.underlying24 c24 g1579.1 g1579.2 <| ldsR rfl trivial rfl sg24 rfl <| el H fun t1580 h1581 H => Dv.callfx (ret := vB t1580) (X := X1_) (F := F) rfl trivial rfl rfl ⟨_, _, h1581, rfl, rfl⟩ (perm_to (L := [X1_]) (F := F) [0] rfl rfl rfl) <| .fin <| cd H rfl (fun _ H => ?_) (fun _ H => ?_)
 rotate_left
 ·
  exact WP.skip <| rg 2 0 <| bn0 rfl rfl rfl run_add <| mv0 rfl rfl <| .fin <| bk j1583 (w64 (x1577 + 1)) H
 refine WP.seq <| rg 2 0 <| mv0 rfl rfl <| as0 rfl rfl <| .fin ?_
 replace H := Gets.outr H
 obtain rfl := Gets.out H
 exact rt i2 rfl () 1 [0] 0 (.cons (res_tmp rfl) .nil)
theorem slices_IndexFunc_Edu_xw.c {k : Nat} {a0 : List Edu} {a1 : (Edu → Option Bool)} {X1_ : As} {p0_ : OV} {r : Int} (h : slices_IndexFunc_Edu_xw.f k a0 a1 = some r) : Tr Tryz.prog 80 [eq p0_.1, fx_api_Edu_bool X1_ a1] [own Edu.K p0_.1 a0, X1_] (γ := Unit) (fun _ => True) (fun g => vI r) (fun g => [own Edu.K p0_.1 a0, X1_]) := by
 unfold slices_IndexFunc_Edu_xw.f at h
 refine Tr.body Tryz.func80 (c := _) rfl Tryz.ntmps80 (Nat.le_of_ble_eq_true rfl) fun R0 F => ?_
 replace h := Gets.of h
 have H := h
 clear h
 refine WP.seq <| rg 1 0 <| as0 rfl rfl <| .fin <| WP.seqr H id (fun p1585 : Int × Bool => [(0, eq p0_.1), (1, fx_api_Edu_bool X1_ a1), (4, vI 0), (7, vI (a0.length : Int)), (8, vI p1585.1), (9, vB p1585.2)]) (fun p1585 : Int × Bool => [own Edu.K p0_.1 a0, X1_] ++ F) (fun p1585 H => ?_) (fun H => ?_)
 ·
  refine WP.seq <| rg 1 0 <| as0 rfl rfl <| .fin ?_
  obtain rfl := Gets.out H
  exact rt i2 rfl () 2 [0,1] 0 (.cons (res_tmp rfl) .nil)
 refine WP.seq <| rg 3 0 <| mv0 rfl rfl <| Dv.lenw rfl trivial rfl (mem_at 0 rfl) Tryz.underlying31 <| mv0 rfl rfl <| .fin <| WP.block <| wg (sg 2 [0,1] 0) fun _ _ => ?_
 refine lp (fun j_ (p1594 : Int) => slices_IndexFunc_Edu_xw.l0 k a0 a1 j_ p1594) 0 H (fun p1594 => [(0, eq p0_.1), (1, fx_api_Edu_bool X1_ a1), (4, vI 0), (7, vI (a0.length : Int)), (8, vI p1594)]) (fun p1594 => [own Edu.K p0_.1 a0, X1_] ++ F) ?_
 rintro j_ x1586 H
 rcases j_ with _ | j1593
 ·
  exact (Gets.no H).elim
 replace H : Gets (slices_IndexFunc_Edu_xw.l0 k a0 a1 (j1593 + 1) x1586) _ := H
 rw [slices_IndexFunc_Edu_xw.l0] at H
 refine WP.seq <| rg 1 0 <| bn0 rfl rfl rfl run_lt <| .fin <| WP.seq <| cd H rfl (fun _ H => ?_) (fun _ H => ?_)
 rotate_left
 ·
  refine WP.exit ?_
  replace H := Gets.out H
  exact jn (x1586, decide (x1586 < (a0.length : Int))) H
 refine WP.skip <| WP.seq <| WP.block <| WP.seq <| rg 2 0 <| mv0 rfl rfl <| as0 rfl rfl <| .fin <| WP.seq <| rg 6 0 <| mv0 rfl rfl <| mv0 rfl rfl <| mv0 rfl rfl <| gr H fun g1588 H => ?_
 have h1589 : x1586.toNat < a0.length := idx_lt g1588
 refine Dv.ixw rfl trivial rfl (mem_at 0 rfl) rfl Tryz.underlying31 Tryz.underlying24 c24 g1588.1 g1588.2 <| Dv.ldws (j := x1586.toNat) (f := 0) rfl trivial rfl (mem_at 0 rfl) h1589 Tryz.underlying24 rfl c24 (Nat.le_of_ble_eq_true rfl) <| el H fun t1590 h1591 H => Dv.callfx (ret := vB t1590) (X := X1_) (F := [own Edu.K p0_.1 a0] ++ F) rfl trivial rfl rfl ⟨_, _, h1591, rfl, rfl⟩ (perm_to (L := [own Edu.K p0_.1 a0, X1_]) (F := F) [1, 0] rfl rfl rfl) <| .fin <| cd H rfl (fun _ H => ?_) (fun _ H => ?_)
 rotate_left
 ·
  exact WP.skip <| rg 2 0 <| bn0 rfl rfl rfl run_add <| mv0 rfl rfl <| .fin <| bk j1593 (w64 (x1586 + 1)) H
 refine WP.seq <| rg 2 0 <| mv0 rfl rfl <| as0 rfl rfl <| .fin ?_
 replace H := Gets.outr H
 obtain rfl := Gets.out H
 exact rt i2 rfl () 2 [0,1] 0 (.cons (res_tmp rfl) .nil)
theorem slices_DeleteFunc_Edu_xo.c {k : Nat} {a0 : List Edu} {a1 : (Edu → Option Bool)} {X1_ : As} {p0_ : OV} {r : (List Edu)} (h : slices_DeleteFunc_Edu_xo.f k a0 a1 = some r) : Tr Tryz.prog 50 [eq p0_.1, fx_api_Edu_bool X1_ a1] [own Edu.K p0_.1 a0, X1_] (γ := OV) (fun _ => True) (fun g => eq g.1) (fun g => [X1_, own Edu.K g.1 r]) := by
 unfold slices_DeleteFunc_Edu_xo.f at h
 refine Tr.body Tryz.func50 (c := _) rfl Tryz.ntmps50 (Nat.le_of_ble_eq_true rfl) fun R0 F => ?_
 replace h := Gets.of h
 have H := h
 clear h
 refine WP.seq <| rg 1 0 <| as0 rfl rfl <| .fin <| WP.seq <| rg 4 0 <| mv0 rfl rfl <| mv0 rfl rfl <| el H fun t1595 h1596 H => cll 2 [0,1] cal80 (slices_IndexFunc_Edu_xw.c h1596 (p0_ := p0_) (X1_ := X1_)) ?_
 refine as0 rfl rfl <| .fin <| WP.seq <| WP.seq <| rg 2 0 <| mv0 rfl rfl <| bn0 rfl rfl rfl run_eq <| .fin <| cd H rfl (fun _ H => ?_) (fun _ H => ?_)
 ·
  refine WP.seq <| rg 2 0 <| mv0 rfl rfl <| as0 rfl rfl <| .fin ?_
  obtain rfl := Gets.out H
  exact rt i2 rfl p0_ 2 [1,0] 0 (.cons (res_tmp rfl) .nil)
 refine WP.skip <| WP.seqn H id (fun p1598 : Int × Int × Bool × (List Edu) => [(0, eq p0_.1), (1, fx_api_Edu_bool X1_ a1), (4, eq (.slice none 0 0)), (5, vI p1598.1), (6, vI p1598.2.1), (12, vB (t1595 == (-1))), (19, vB p1598.2.2.1)]) (fun p1598 : Int × Int × Bool × (List Edu) => [own Edu.K p0_.1 p1598.2.2.2, X1_] ++ F) (fun p1598 H => ?_) (fun H => ?_)
 ·
  refine WP.seq <| rg 4 8 <| mv0 rfl rfl <| mv0 rfl rfl <| gr H fun g1599 H => vg (st_own_form 0 rfl (List.length_pos_iff.1 (Nat.lt_of_le_of_lt (Nat.zero_le _) g1599.2))) fun g1600 h1601 => ?_
  refine Dv.slkm (o' := g1600.2.1 + p1598.1.toNat * Edu.K.sz) (m' := p1598.2.2.2.length - p1598.1.toNat) (c' := g1600.2.2 - p1598.1.toNat) rfl trivial ((show opv _ _ = some (eq p0_.1) from rfl).trans (congrArg (fun z => some (eq z)) h1601.1)) Tryz.underlying31 Tryz.underlying24 c24 (bdE_some rfl g1599.1) bdE_none (Nat.le_of_lt g1599.2) h1601.2 (.inl (Nat.lt_of_lt_of_le g1599.2 h1601.2)) rfl rfl rfl <| Dv.clrw (jj := 0) (⟨0, (⟨#[]⟩ : ByteArray), (⟨#[]⟩ : ByteArray), (⟨#[]⟩ : ByteArray), (⟨#[]⟩ : ByteArray), false, false, 0, 0, 0, 0⟩ : Edu) rfl trivial rfl Tryz.underlying31 z24 rfl rfl (fun u hu => List.all_eq_true.1 (show (Value.cells _).toList.all (fun u => u.oneCell') = true by kernel_rfl) u hu) h1601.1 rfl g1599.2 rfl nofun <| .fin <| WP.seq <| rg 4 4 <| mv0 rfl rfl <| mv0 rfl rfl <| gr H fun g1602 H => Dv.slo (jj := 0) rfl trivial rfl rfl Tryz.underlying31 Tryz.underlying24 c24 bdE_none (bdE_some rfl g1602.1) (.inl rfl) g1602.2.1 g1602.2.2 nofun (fun v1603 => ?_)
  refine as0 rfl rfl <| .fin ?_
  obtain rfl := Gets.out H
  exact rt i2 rfl v1603 2 [1,0] 0 (.cons (res_tmp rfl) .nil)
 refine WP.seq <| rg 3 0 <| mv0 rfl rfl <| bn0 rfl rfl rfl run_add <| as0 rfl rfl <| .fin <| WP.block <| wg (sg 2 [0,1] 0) fun _ _ => ?_
 refine lp (fun j_ (p1617 : Int × Int × (List Edu)) => slices_DeleteFunc_Edu_xo.l0 k a1 j_ p1617.1 p1617.2.1 p1617.2.2) (t1595, w64 (t1595 + 1), a0) H (fun p1617 => [(0, eq p0_.1), (1, fx_api_Edu_bool X1_ a1), (4, eq (.slice none 0 0)), (5, vI p1617.1), (6, vI p1617.2.1), (12, vB (t1595 == (-1)))]) (fun p1617 => [own Edu.K p0_.1 p1617.2.2, X1_] ++ F) ?_
 rintro j_ ⟨x1604, x1605, x1606⟩ H
 rcases j_ with _ | j1616
 ·
  exact (Gets.no H).elim
 replace H : Gets (slices_DeleteFunc_Edu_xo.l0 k a1 (j1616 + 1) x1604 x1605 x1606) _ := H
 rw [slices_DeleteFunc_Edu_xo.l0] at H
 refine WP.seq <| WP.seq <| rg 4 0 <| mv0 rfl rfl <| mv0 rfl rfl <| Dv.lenw rfl trivial rfl (mem_at 0 rfl) Tryz.underlying31 <| bn0 rfl rfl rfl run_lt <| .fin <| cd H rfl (fun _ H => ?_) (fun _ H => ?_)
 rotate_left
 ·
  refine WP.exit ?_
  replace H := Gets.out H
  exact jn (x1604, x1605, decide (x1605 < (x1606.length : Int)), x1606) H
 refine WP.skip <| WP.seq <| WP.block <| WP.seq <| rg 6 48 <| mv0 rfl rfl <| mv0 rfl rfl <| gr H fun g1608 H => ?_
 have h1609 : x1605.toNat < x1606.length := idx_lt g1608
 refine Dv.ixw rfl trivial rfl (mem_at 0 rfl) rfl Tryz.underlying31 Tryz.underlying24 c24 g1608.1 g1608.2 <| Dv.ldws (j := x1605.toNat) (f := 0) rfl trivial rfl (mem_at 0 rfl) h1609 Tryz.underlying24 rfl c24 (Nat.le_of_ble_eq_true rfl) <| al rfl trivial zc24 nofun fun b1610 => sx 0 rfl trivial rfl rfl cA sz24 rfl rfl rfl nofun ?_
 refine .fin <| WP.seq <| rg 4 0 <| mv0 rfl rfl <| lds 0 rfl trivial rfl sg24 rfl rfl <| el H fun t1611 h1612 H => Dv.callfx (ret := vB t1611) (X := X1_) (F := [blk b1610 24 (Edu.enc (x1606.getD x1605.toNat default)), own Edu.K p0_.1 x1606] ++ F) rfl trivial rfl rfl ⟨_, _, h1612, rfl, rfl⟩ (perm_to (L := [blk b1610 24 (Edu.enc (x1606.getD x1605.toNat default)), own Edu.K p0_.1 x1606, X1_]) (F := F) [2, 0, 1] rfl rfl rfl) <| un0 rfl rfl (run_not _) <| .fin <| cd H rfl (fun _ H => ?_) (fun _ H => ?_)
 rotate_left
 ·
  refine WP.skip <| rg 3 0 <| mv0 rfl rfl <| bn0 rfl rfl rfl run_add <| as0 rfl rfl <| .fin <| ng (sg 3 [0,1,2] 1) fun _ _ => ?_
  exact bk j1616 (x1604, w64 (x1605 + 1), x1606) H
 refine WP.seq <| rg 5 16 <| mv0 rfl rfl <| mv0 rfl rfl <| lds 0 rfl trivial rfl sg24 rfl rfl <| gr H fun g1614 H => ?_
 have h1615 : x1604.toNat < x1606.length := idx_lt g1614
 refine Dv.ixw rfl trivial rfl (mem_at 1 rfl) rfl Tryz.underlying31 Tryz.underlying24 c24 g1614.1 g1614.2 <| Dv.stw (j := x1604.toNat) (f := 0) (jj := 1) (x1606.getD x1605.toNat default) rfl trivial rfl rfl (cells_agg (Edu.K.one _)) Tryz.underlying24 c24 rfl rfl h1615 (Nat.le_of_ble_eq_true rfl) rfl nofun <| .fin <| rg 3 0 <| mv0 rfl rfl <| bn0 rfl rfl rfl run_add <| as0 rfl rfl <| .fin <| rg 3 0 <| mv0 rfl rfl <| bn0 rfl rfl rfl run_add <| as0 rfl rfl <| .fin <| ng (sg 3 [0,1,2] 1) fun _ _ => ?_
 exact bk j1616 (w64 (x1604 + 1), w64 (x1605 + 1), x1606.set x1604.toNat (x1606.getD x1605.toNat default)) H
theorem slices_Clone_Edu.c {a0 : List Edu} {r : List Edu} (h : slices_Clone_Edu.f a0 = some r) : Tr Tryz.prog 51 [sl Edu.K a0] [] (γ := OV) (fun _ => True) (fun g => eq g.1) (fun g => [own Edu.K g.1 r]) := by
 unfold slices_Clone_Edu.f at h
 obtain ⟨h0, h5⟩ := (Gets.of h).grd
 obtain rfl := Gets.out h5
 clear h h5
 refine (Tr.body Tryz.func51 (c := _) rfl Tryz.ntmps51 (Nat.le_of_ble_eq_true rfl) fun R0 F => ?_)
 refine WP.seq <| WP.reg [(0, false)] (by kernel_rfl) <| as0 rfl rfl <| .fin <| WP.seq <| WP.seq <| WP.reg [(0, false), (1, true)] (by kernel_rfl) <| mv0 rfl rfl <| Dv.snil rfl trivial rfl rfl Tryz.underlying31 nofun (fun b hb => ?_)
 refine .fin <| WP.cond rfl (fun c0 => ?_) (fun c0 => ?_)
 ·
  obtain rfl := hb c0
  refine WP.seq <| WP.reg [(0, false)] (by kernel_rfl) <| as0 rfl rfl <| .fin <| wg (st_nil Edu.K none) fun _ _ => ?_
  exact rt i2 rfl nilV 1 [0] 0 (.cons (res_tmp rfl) .nil)
 refine WP.skip <| WP.seq <| WP.reg [(0, true), (1, false), (2, true), (3, false)] (by kernel_rfl) <| Dv.lit0 Edu.K rfl trivial Tryz.underlying31 Tryz.underlying24 c24 z24 nofun (fun v1 => ?_)
 refine mv0 rfl rfl <| Dv.appx (Kd := Edu.K) (xs := []) (v := v1.1) (jj := 0) (ys := a0) (fun v2 : OV => [own Edu.K v2.1 a0] ++ F) rfl trivial rfl rfl rfl src_sl Tryz.underlying31 (.inr ⟨_, Tryz.underlying31⟩) inf24 rfl (by decide) (by simpa using h0) rfl nofun (fun v2 => ?_)
 exact as0 rfl rfl <| .fin <| rt i2 rfl v2 1 [0] 0 (.cons (res_tmp rfl) .nil)
theorem gate_Choose_1.c {k : Nat} {a0 : Edu} {cb0_ : Nat} {cq0_ : OV} {c0 : VView} {c1 : ByteArray} {r : Bool} (h : gate_Choose_1.f k a0 c0 c1 = some r) : Tr Tryz.prog 52 [agg (Edu.enc a0), eq (.pointer (some ⟨cb0_, 0, none⟩)), rp [vS c1]] [blk cb0_ 25 [eq cq0_.1], VView.O cq0_ c0] (γ := Unit) (fun _ => True) (fun g => vB r) (fun g => [blk cb0_ 25 [eq cq0_.1], VView.O cq0_ c0]) := by
 unfold gate_Choose_1.f at h
 refine Tr.body Tryz.func52 (c := _) rfl Tryz.ntmps52 (Nat.le_of_ble_eq_true rfl) fun R0 F => ?_
 replace h := Gets.of h
 have H := h
 clear h
 refine WP.seq <| rg 2 1 <| Dv.box rfl trivial rfl cA nofun fun b1618 => as0 rfl rfl <| .fin <| WP.seq <| rg 6 8 <| ld 1 rfl trivial rfl sc25 rfl rfl <| ldR rfl trivial rfl sc9 rfl <| lds 0 rfl trivial rfl sg24 rfl rfl <| el H fun t1619 h1620 H => cx 3 [2,0,1] cal16 (gate_Passes.c h1620 (p0_ := cq0_)) nofun fun _ _ => ?_
 refine un0 rfl rfl (run_not _) <| as0 rfl rfl <| .fin ?_
 obtain rfl := Gets.out H
 exact rt i2 rfl () 3 [1,2,0] 1 (.cons (res_tmp rfl) .nil)
theorem gate_Choose.c {k : Nat} {a0 : VView} {a1 : ByteArray} {a2 : List Edu} {p0_ : OV} {r : (List Edu)} (h : gate_Choose.f k a0 a1 a2 = some r) : Tr Tryz.prog 22 [eq p0_.1, vS a1, sl Edu.K a2] [VView.O p0_ a0] (γ := OV) (fun _ => True) (fun g => eq g.1) (fun g => [VView.O p0_ a0, own Edu.K g.1 r]) := by
 unfold gate_Choose.f at h
 refine Tr.body Tryz.func22 (c := _) rfl Tryz.ntmps22 (Nat.le_of_ble_eq_true rfl) fun R0 F => ?_
 replace h := Gets.of h
 have H := h
 clear h
 refine WP.seq <| rg 3 3 <| Dv.box rfl trivial rfl (cells_one one_ov) nofun fun b1621 => Dv.box rfl trivial rfl cE nofun fun b1622 => as0 rfl rfl <| .fin <| WP.seq <| rg 5 10 <| mv0 rfl rfl <| el H fun t1623 h1624 H => cx 3 [0,1,2] cal51 (slices_Clone_Edu.c h1624) nofun fun g1625 _ => ?_
 refine Dv.gh (gh_frzb (E' := [(0, eq p0_.1), (1, vS a1), (2, sl Edu.K a2), (3, eq (.pointer (some ⟨b1621, 0, none⟩))), (4, rp [vS a1]), (6, eq (.slice none 0 0)), (8, eq g1625.1)]) (l' := [own Edu.K g1625.1 t1623, blk b1621 25 [eq p0_.1], VView.O p0_ a0] ++ F) 1 rfl (cve_cons rfl cv_id (cve_cons rfl cv_id (cve_cons rfl cv_id (cve_cons rfl cv_id (cve_cons rfl cv_eq (cve_cons rfl cv_id (cve_cons rfl cv_id cve_nil))))))) (all2_app (.cons cva_id (.cons cva_id (.cons cva_id .nil))) fun _ => cva_id)) (fun _ _ => ?_)
 refine Dv.mkx (Q := fqQ_api_Edu_bool (fun a0_ => gate_Choose_1.f k a0_ a0 a1)) (L := [blk b1621 25 [eq p0_.1], VView.O p0_ a0]) cal52 (by rintro _ _ ⟨a0_, r_, h_, rfl, rfl⟩; exact gate_Choose_1.c h_ (cb0_ := b1621) (cq0_ := p0_)) rfl trivial rfl rfl <| el H fun t1626 h1627 H => cx 3 [0,1,2] cal50 (Tr.unpko (A := [own Edu.K g1625.1 t1623]) (L := [blk b1621 25 [eq p0_.1], VView.O p0_ a0]) (B := fun g1628 : OV => [own Edu.K g1628.1 t1626]) (slices_DeleteFunc_Edu_xo.c h1627 (p0_ := g1625) (X1_ := (pk [blk b1621 25 [eq p0_.1], VView.O p0_ a0])))) nofun fun g1628 _ => ?_
 refine as0 rfl rfl <| .fin ?_
 obtain rfl := Gets.out H
 exact rt i2 rfl g1628 3 [0,1,2] 1 (.cons (res_tmp rfl) .nil)
theorem concourseref16_Choose.c {k : Nat} {a0 : RView} {a1 : ByteArray} {a2 : List Edu} {r : (List Edu)} (h : concourseref16_Choose.f k a0 a1 a2 = some r) : Tr Tryz.prog 23 [agg (RView.enc a0), vS a1, sl Edu.K a2] [] (γ := OV) (fun _ => True) (fun g => eq g.1) (fun g => [own Edu.K g.1 r]) := by
 unfold concourseref16_Choose.f at h
 refine Tr.body Tryz.func23 (c := _) rfl Tryz.ntmps23 (Nat.le_of_ble_eq_true rfl) fun R0 F => ?_
 replace h := Gets.of h
 have H := h
 clear h
 refine WP.seq <| rg 2 1 <| Dv.box rfl trivial rfl cA nofun fun b1629 => as0 rfl rfl <| .fin <| WP.seq <| rg 1 0 <| as0 rfl rfl <| .fin <| WP.seqn H (fun q1645 : (Int × Bool × (List Edu)) × OV => q1645.1) (fun q1645 : (Int × Bool × (List Edu)) × OV => [(0, agg (RView.enc a0)), (1, vS a1), (2, sl Edu.K a2), (3, eq (.pointer (some ⟨b1629, 0, none⟩))), (6, eq (.slice none 0 0)), (7, eq q1645.2.1), (8, vI q1645.1.1), (13, vB q1645.1.2.1)]) (fun q1645 : (Int × Bool × (List Edu)) × OV => [blk b1629 28 (RView.enc a0), own Edu.K q1645.2.1 q1645.1.2.2] ++ F) (fun q1645 H => ?_) (fun H => ?_)
 ·
  obtain ⟨p1630, v1631⟩ := q1645
  refine WP.seq <| rg 2 0 <| mv0 rfl rfl <| as0 rfl rfl <| .fin ?_
  obtain rfl := Gets.out H
  exact rt i2 rfl v1631 2 [0,1] 1 (.cons (res_tmp rfl) .nil)
 refine WP.seq <| rg 1 0 <| as0 rfl rfl <| .fin <| WP.block <| wg (st_nil Edu.K none) fun _ _ => ?_
 refine wg (sg 2 [1,0] 0) fun _ _ => ?_
 refine lp (fun j_ (p1644 : Int × (List Edu) × OV) => concourseref16_Choose.l0 k a0 a1 a2 j_ p1644.1 p1644.2.1) (0, ([] : List Edu), nilV) H (fun p1644 => [(0, agg (RView.enc a0)), (1, vS a1), (2, sl Edu.K a2), (3, eq (.pointer (some ⟨b1629, 0, none⟩))), (6, eq (.slice none 0 0)), (7, eq p1644.2.2.1), (8, vI p1644.1)]) (fun p1644 => [blk b1629 28 (RView.enc a0), own Edu.K p1644.2.2.1 p1644.2.1] ++ F) ?_
 rintro j_ ⟨x1632, x1633, v1634⟩ H
 rcases j_ with _ | j1643
 ·
  exact (Gets.no H).elim
 replace H : Gets (concourseref16_Choose.l0 k a0 a1 a2 (j1643 + 1) x1632 x1633) _ := H
 rw [concourseref16_Choose.l0] at H
 refine WP.seq <| WP.seq <| rg 4 0 <| mv0 rfl rfl <| mv0 rfl rfl <| Dv.lenl rfl trivial rfl Tryz.underlying31 <| bn0 rfl rfl rfl run_lt <| .fin <| cd H rfl (fun _ H => ?_) (fun _ H => ?_)
 rotate_left
 ·
  refine WP.exit ?_
  replace H := Gets.out H
  exact jn ((x1632, decide (x1632 < (a2.length : Int)), x1633), v1634) H
 refine WP.skip <| WP.seq <| WP.block <| WP.seq <| dg Tryz.checked.mixed 8 0 <| lds 0 rfl trivial rfl sg28 rfl rfl <| mv0 rfl rfl <| mv0 rfl rfl <| mv0 rfl rfl <| gr H fun g1636 H => Dv.ixr rfl trivial rfl rfl Tryz.underlying31 Tryz.underlying24 c24 g1636.1 g1636.2 <| ldsR rfl trivial rfl sg24 rfl <| el H fun t1637 h1638 H => cl rfl cal17 rfl (concourseref16_Passes.c h1638) <| as0 rfl rfl <| .fin <| WP.seq <| rg 1 0 <| mv0 rfl rfl <| .fin <| cd H rfl (fun _ H => ?_) (fun _ H => ?_)
 rotate_left
 ·
  exact WP.skip <| rg 3 0 <| mv0 rfl rfl <| bn0 rfl rfl rfl run_add <| as0 rfl rfl <| .fin <| bk j1643 (w64 (x1632 + 1), x1633, v1634) H
 refine rg 8 64 <| mv0 rfl rfl <| mv0 rfl rfl <| mv0 rfl rfl <| gr H fun g1640 H => Dv.ixr rfl trivial rfl rfl Tryz.underlying31 Tryz.underlying24 c24 g1640.1 g1640.2 <| ldsR rfl trivial rfl sg24 rfl <| Dv.lit Edu.K ([Edu.K.at a2 x1632] : List Edu) (css := [Edu.enc (Edu.K.at a2 x1632)]) rfl trivial Tryz.underlying31 Tryz.underlying24 c24 z24 rfl (by decide) (by decide) rfl ⟨(cells_agg (Edu.K.one _)), trivial⟩ rfl rfl rfl <| gr H fun g1641 H => ap Edu.K 1 ([Edu.K.at a2 x1632] : List Edu) src_sl Tryz.underlying31 (.inr ⟨_, Tryz.underlying31⟩) inf24 g1641 nofun fun v1642 => ?_
 exact as0 rfl rfl <| .fin <| rg 3 0 <| mv0 rfl rfl <| bn0 rfl rfl rfl run_add <| as0 rfl rfl <| .fin <| bk j1643 (w64 (x1632 + 1), x1633 ++ ([Edu.K.at a2 x1632] : List Edu), v1642) H
end Go.Proofs.YtdhaolcplgbalaaGreat
