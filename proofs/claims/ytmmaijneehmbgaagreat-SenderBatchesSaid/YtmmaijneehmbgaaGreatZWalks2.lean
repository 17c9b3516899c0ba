import Derived.Test.YtmmaijneehmbgaaGreatZWalks1
import Derived.Test.YtmmaijneehmbgaaGreatConQ
import Derived.Test.YtmmaijneehmbgaaGreatConA6
import Derived.Test.YtmmaijneehmbgaaGreatConC1
import Derived.Eval
set_option linter.all false
set_option maxRecDepth 10000
set_option maxHeartbeats 20000000
namespace Go.Proofs.YtmmaijneehmbgaaGreat
open Go Go.Sp
theorem dag_Dag_All.c {k:Nat} {a0:DDag} {v0_0:OV} {b0_:Nat} {r:(List Event)} (h:dag_Dag_All.f k a0 = some r):Tr Tryz.prog 207 [eq (.pointer (some ⟨b0_,0,none⟩))] [blk b0_ 159 [vS a0.froom,eq v0_0.1],mpo Value.string DNode.O v0_0.1 a0.fnodes] (γ:=OV) (fun _=>True) (fun g=>eq g.1) (fun g=>[blk b0_ 159 [vS a0.froom,eq v0_0.1],mpo Value.string DNode.O v0_0.1 a0.fnodes,own Event.K g.1 r]):=by
 unfold dag_Dag_All.f at h
 refine Tr.body Tryz.func207 (c:=_) rfl Tryz.ntmps207 (Nat.le_of_ble_eq_true rfl) fun R0 F=>?_
 replace h:=Gets.of h
 have H:=h
 clear h
 refine WP.seq<|rg 1 0<|as0 rfl rfl<|.fin<|WP.seq<|rg 1 0<|as0 rfl rfl<|.fin<|WP.seqn H (fun q871:(Int×Int×Bool×(List Event)×(List ByteArray))×OV×OV=>q871.1) (fun q871:(Int×Int×Bool×(List Event)×(List ByteArray))×OV×OV=>[(0,eq (.pointer (some ⟨b0_,0,none⟩))),(2,eq (.slice none 0 0)),(3,eq q871.2.1.1),(7,eq q871.2.2.1),(8,vI q871.1.1),(9,vI q871.1.2.1),(10,vB q871.1.2.2.1)]) (fun q871:(Int×Int×Bool×(List Event)×(List ByteArray))×OV×OV=>[blk b0_ 159 [vS a0.froom,eq v0_0.1],mpo Value.string DNode.O v0_0.1 a0.fnodes,own Event.K q871.2.1.1 q871.1.2.2.2.1,own strK q871.2.2.1 q871.1.2.2.2.2]++F) (fun q871 H=>?_) (fun H=>?_)
 ·
  obtain ⟨p848,v849,v850⟩:=q871
  refine WP.seq<|rg 2 0<|mv0 rfl rfl<|as0 rfl rfl<|.fin ?_
  obtain rfl:=Gets.out H
  exact rt i2 rfl v849 4 [3,0,1,2] 1 (.cons (res_tmp rfl) .nil)
 refine WP.seq<|rg 4 2<|mv0 rfl rfl<|el H fun t851 h852 H=>cx 2 [0,1] cal210 (dag_Dag_ids_All.c h852 (b0_:=b0_) (v0_0:=v0_0)) nofun fun g853 _=>?_
 refine Dv.lenw rfl trivial rfl (mem_at 2 rfl) Tryz.underlying53<|mv0 rfl rfl<|.fin<|WP.block<|wg (st_nil Event.K none) fun _ _=>?_
 refine wg (sg 4 [1,2,3,0] 0) fun _ _=>?_
 refine lp (fun j_ (p870:Int×(List Event)×OV)=>dag_Dag_All.l0 k a0 t851 j_ p870.1 p870.2.1) (0,([]:List Event),nilV) H (fun p870=>[(0,eq (.pointer (some ⟨b0_,0,none⟩))),(2,eq (.slice none 0 0)),(3,eq p870.2.2.1),(7,eq g853.1),(8,vI (t851.length:Int)),(9,vI p870.1)]) (fun p870=>[blk b0_ 159 [vS a0.froom,eq v0_0.1],mpo Value.string DNode.O v0_0.1 a0.fnodes,own strK g853.1 t851,own Event.K p870.2.2.1 p870.2.1]++F) ?_
 rintro j_ ⟨x854,x855,v856⟩ H
 rcases j_ with _ | j869
 ·
  exact (Gets.no H).elim
 replace H:Gets (dag_Dag_All.l0 k a0 t851 (j869 + 1) x854 x855) _:=H
 rw [dag_Dag_All.l0] at H
 refine WP.seq<|rg 1 0<|bn0 rfl rfl rfl run_lt<|.fin<|WP.seq<|cd H rfl (fun _ H=>?_) (fun _ H=>?_)
 rotate_left
 ·
  refine WP.exit ?_
  have H:=H.out
  refine ng (sg 4 [0,1,3,2] 0) fun _ _=>?_
  exact jn (((t851.length:Int),x854,decide (x854 < (t851.length:Int)),x855,t851),v856,g853) H
 refine WP.skip<|WP.seq<|WP.block<|WP.seq<|rg 3 0<|gr H fun g858 H=>?_
 have h859:x854.toNat < t851.length:=idx_lt g858
 refine Dv.ixw rfl trivial rfl (mem_at 2 rfl) rfl Tryz.underlying53 Tryz.underlying9 c9 g858.1 g858.2<|Dv.ldw (j:=x854.toNat) (f:=0) (p:=vS (t851.getD x854.toNat default)) rfl trivial rfl (mem_at 2 rfl) h859 Tryz.underlying9 rfl rfl<|as0 rfl rfl<|.fin<|rg 14 4096<|mv0 rfl rfl<|mv0 rfl rfl<|Dv.nilp rfl trivial rfl<|fb rfl trivial rfl fa159_1<|ld 0 rfl trivial rfl sc157 rfl rfl<|mv0 rfl rfl<|vg (mpo_opn 1 rfl) fun z860 h861=>?_
 refine Dv.mlv nilP rfl trivial rfl (mem_at 0 rfl) rfl Tryz.underlying157 (keyOk_str Tryz.underlying9) z161 (fun _=>rfl)<|gr H fun g862 H=>vg (mpo_foc h861 rfl g862 (pm 5 [1,0,2,3,4])) fun _ _=>?_
 refine Dv.nilA DNode.nn rfl trivial rfl (mem_at 0 rfl)<|vg (DNode.opn 0 rfl) fun g863 h864=>?_
 refine fp h864 rfl trivial rfl fa163_0<|lds 0 rfl trivial rfl sg55 rfl rfl<|el H fun t865 h866 H=>cl rfl cal95 rfl (dag_own.c h866)<|Dv.lit Event.K ([t865]:List Event) (css:=[Event.enc t865]) rfl trivial Tryz.underlying28 Tryz.underlying55 c55 z55 rfl (by decide) (by decide) rfl ⟨(cells_agg (Event.K.one _)),trivial⟩ rfl rfl rfl<|gr H fun g867 H=>ap Event.K 5 ([t865]:List Event) src_sl Tryz.underlying28 (.inr ⟨_,Tryz.underlying28⟩) inf55 g867 nofun fun v868=>?_
 refine as0 rfl rfl<|.fin<|rg 2 0<|bn0 rfl rfl rfl run_add<|mv0 rfl rfl<|.fin<|ng (DNode.shut (p:=((mget (zipK a0.fnodes z860) (t851.getD x854.toNat default)).getD nilP)) (m:=(mget a0.fnodes (t851.getD x854.toNat default)).getD default) g863 h864 (pm 6 [0,1,2,3,4,5])) fun _ _=>?_
 refine ng (mpo_unf0 h861 rfl g862 (pm 6 [0,1,2,3,4,5])) fun _ _=>?_
 refine ng (mpo_shut h861 rfl (pm 5 [1,0,2,3,4])) fun _ _=>?_
 refine ng (sg 4 [1,0,2,3] 0) fun _ _=>?_
 exact bk j869 (w64 (x854 + 1),x855++([t865]:List Event),v868) H
theorem member_joined.c {k:Nat} {a0:DDag} {v0_0:OV} {b0_:Nat} {r:(List (ByteArray×Int))} (h:member_joined.f k a0 = some r):Tr Tryz.prog 196 [eq (.pointer (some ⟨b0_,0,none⟩))] [blk b0_ 159 [vS a0.froom,eq v0_0.1],mpo Value.string DNode.O v0_0.1 a0.fnodes] (γ:=OV) (fun _=>True) (fun g=>eq g.1) (fun g=>[blk b0_ 159 [vS a0.froom,eq v0_0.1],mpo Value.string DNode.O v0_0.1 a0.fnodes,mp Value.string (fun x:Int=>vI x) g.1 r]):=by
 unfold member_joined.f at h
 refine Tr.body Tryz.func196 (c:=_) rfl Tryz.ntmps196 (Nat.le_of_ble_eq_true rfl) fun R0 F=>?_
 replace h:=Gets.of h
 have H:=h
 clear h
 refine WP.seq<|rg 1 0<|as0 rfl rfl<|.fin<|WP.seq<|rg 2 1<|Dv.mmk Value.string (fun x:Int=>vI x) rfl trivial nofun (fun v872=>?_)
 refine as0 rfl rfl<|.fin<|WP.seqn H (fun q888:(Int×Int×Bool×(List (ByteArray×Int))×(List Event))×OV=>q888.1) (fun q888:(Int×Int×Bool×(List (ByteArray×Int))×(List Event))×OV=>[(0,eq (.pointer (some ⟨b0_,0,none⟩))),(2,eq (.map none)),(3,eq v872.1),(8,eq q888.2.1),(9,vI q888.1.1),(10,vI q888.1.2.1),(11,vB q888.1.2.2.1)]) (fun q888:(Int×Int×Bool×(List (ByteArray×Int))×(List Event))×OV=>[blk b0_ 159 [vS a0.froom,eq v0_0.1],mpo Value.string DNode.O v0_0.1 a0.fnodes,mp Value.string (fun x:Int=>vI x) v872.1 q888.1.2.2.2.1,own Event.K q888.2.1 q888.1.2.2.2.2]++F) (fun q888 H=>?_) (fun H=>?_)
 ·
  obtain ⟨p873,v874⟩:=q888
  refine WP.seq<|rg 2 0<|mv0 rfl rfl<|as0 rfl rfl<|.fin ?_
  obtain rfl:=Gets.out H
  exact rt i2 rfl v872 4 [3,0,1,2] 1 (.cons (res_tmp rfl) .nil)
 refine WP.seq<|rg 4 2<|mv0 rfl rfl<|el H fun t875 h876 H=>cx 3 [1,2,0] cal207 (dag_Dag_All.c h876 (b0_:=b0_) (v0_0:=v0_0)) nofun fun g877 _=>?_
 refine Dv.lenw rfl trivial rfl (mem_at 2 rfl) Tryz.underlying28<|mv0 rfl rfl<|.fin<|WP.block<|wg (sg 4 [0,1,2,3] 0) fun _ _=>?_
 refine lp (fun j_ (p887:Int×(List (ByteArray×Int)))=>member_joined.l0 k t875 j_ p887.1 p887.2) (0,([]:List (ByteArray×Int))) H (fun p887=>[(0,eq (.pointer (some ⟨b0_,0,none⟩))),(2,eq (.map none)),(3,eq v872.1),(8,eq g877.1),(9,vI (t875.length:Int)),(10,vI p887.1)]) (fun p887=>[blk b0_ 159 [vS a0.froom,eq v0_0.1],mpo Value.string DNode.O v0_0.1 a0.fnodes,own Event.K g877.1 t875,mp Value.string (fun x:Int=>vI x) v872.1 p887.2]++F) ?_
 rintro j_ ⟨x878,x879⟩ H
 rcases j_ with _ | j886
 ·
  exact (Gets.no H).elim
 replace H:Gets (member_joined.l0 k t875 (j886 + 1) x878 x879) _:=H
 rw [member_joined.l0] at H
 refine WP.seq<|rg 1 0<|bn0 rfl rfl rfl run_lt<|.fin<|WP.seq<|cd H rfl (fun _ H=>?_) (fun _ H=>?_)
 rotate_left
 ·
  refine WP.exit ?_
  have H:=H.out
  refine ng (sg 4 [0,1,3,2] 0) fun _ _=>?_
  exact jn (((t875.length:Int),x878,decide (x878 < (t875.length:Int)),x879,t875),g877) H
 refine WP.skip<|WP.seq<|WP.block<|WP.seq<|rg 4 12<|gr H fun g881 H=>?_
 have h882:x878.toNat < t875.length:=idx_lt g881
 refine Dv.ixw rfl trivial rfl (mem_at 2 rfl) rfl Tryz.underlying28 Tryz.underlying55 c55 g881.1 g881.2<|Dv.ldws (j:=x878.toNat) (f:=0) rfl trivial rfl (mem_at 2 rfl) h882 Tryz.underlying55 rfl c55 (Nat.le_of_ble_eq_true rfl)<|al rfl trivial zc55 nofun fun b883=>sx 0 rfl trivial rfl rfl cA sz55 rfl rfl rfl nofun ?_
 refine .fin<|WP.seq<|rg 2 0<|fb rfl trivial rfl fa55_5<|ld 0 rfl trivial rfl sc3 rfl rfl<|.fin<|WP.block<|WP.seq<|rg 2 0<|bn0 rfl rfl rfl run_eq<|as0 rfl rfl<|.fin<|cd H rfl (fun _ H=>?_) (fun _ H=>?_)
 ·
  refine rg 4 8<|mv0 rfl rfl<|fb rfl trivial rfl fa55_4<|ld 0 rfl trivial rfl sc9 rfl rfl<|Dv.mup (jj:=4) 1 rfl trivial rfl rfl rfl rfl Tryz.underlying241 (keyOk_str Tryz.underlying9) nofun<|.fin<|rg 2 0<|bn0 rfl rfl rfl run_add<|mv0 rfl rfl<|.fin<|ng (sg 5 [0,1,2,3,4] 1) fun _ _=>?_
  exact bk j886 (w64 (x878 + 1),mput x879 ((t875.getD x878.toNat default).fUser) 1) H
 refine WP.seq<|rg 2 0<|bn0 rfl rfl rfl run_eq<|as0 rfl rfl<|.fin<|cd H rfl (fun _ H=>?_) (fun _ H=>?_)
 rotate_left
 ·
  refine WP.skip<|rg 2 0<|bn0 rfl rfl rfl run_add<|mv0 rfl rfl<|.fin<|ng (sg 5 [0,1,2,3,4] 1) fun _ _=>?_
  exact bk j886 (w64 (x878 + 1),x879) H
 refine rg 4 8<|mv0 rfl rfl<|fb rfl trivial rfl fa55_4<|ld 0 rfl trivial rfl sc9 rfl rfl<|Dv.mdl (jj:=4) rfl trivial rfl rfl rfl Tryz.underlying241 (keyOk_str Tryz.underlying9) nofun<|.fin<|rg 2 0<|bn0 rfl rfl rfl run_add<|mv0 rfl rfl<|.fin<|ng (sg 5 [0,1,2,3,4] 1) fun _ _=>?_
 exact bk j886 (w64 (x878 + 1),mdel x879 ((t875.getD x878.toNat default).fUser)) H
theorem member_Users.c {k:Nat} {a0:DDag} {b0_:Nat} {v0_0:OV} {r:List ByteArray} (h:member_Users.f k a0 = some r):Tr Tryz.prog 177 [eq (.pointer (some ⟨b0_,0,none⟩))] [blk b0_ 159 [vS a0.froom,eq v0_0.1],mpo Value.string DNode.O v0_0.1 a0.fnodes] (γ:=OV) (fun _=>True) (fun g=>eq g.1) (fun g=>[blk b0_ 159 [vS a0.froom,eq v0_0.1],mpo Value.string DNode.O v0_0.1 a0.fnodes,own strK g.1 r]):=by
  unfold member_Users.f at h
  obtain ⟨m,hm,h1⟩:=(Gets.of h).call
  obtain ⟨h0,h5⟩:=h1.grd
  obtain rfl:=Gets.out h5
  clear h h5
  refine Tr.body Tryz.func177 (c:=_) rfl Tryz.ntmps177 (Nat.le_of_ble_eq_true rfl) fun R0 F=>?_
  refine WP.seq<|rg 1 0<|as0 rfl rfl<|.fin<|WP.seq<|rg 1 0<|as0 rfl rfl<|.fin ?_
  refine WP.seqj (β:=List Nat×OV) (fun b=>b.1.Perm (List.range m.length)) (fun b=>[(3,eq b.2.1)]) (fun b=>[own strK b.2.1 (selM m (fun e=>some e.1) b.1),blk b0_ 159 [vS a0.froom,eq v0_0.1],mpo Value.string DNode.O v0_0.1 a0.fnodes]++F) (fun b hb=>?_) ?_
  rotate_left
  · refine WP.seq<|rg 3 6<|mv0 rfl rfl<|cx 2 [0,1] cal196 (member_joined.c hm (b0_:=b0_) (v0_0:=v0_0)) nofun fun gm _=>?_
    refine Dv.gh (l':=fun _:Unit=>[blk b0_ 159 [vS a0.froom,eq v0_0.1],mpo Value.string DNode.O v0_0.1 a0.fnodes,mp Value.string (fun x:Int=>vI x) gm.1 m]++F) (gh_of (ok:=fun _=>True) fun R w k=>⟨(),trivial,k⟩) (fun _ _=>?_)
    refine Dv.gh (l':=fun _:Unit=>[mp Value.string (fun x:Int=>vI x) gm.1 m,blk b0_ 159 [vS a0.froom,eq v0_0.1],mpo Value.string DNode.O v0_0.1 a0.fnodes]++F) (gh_of (st_selgn 3 [2,0,1] 0 (by kernel_rfl) rfl rfl)) (fun _ _=>?_)
    refine Dv.rgb (jj:=0) rfl trivial rfl rfl Tryz.underlying241 nofun (fun q=>.fin ?_)
    refine WP.gh (l':=fun _:Unit=>[rng Value.string (fun x:Int=>vI x) gm.1 q.1 m [],blk b0_ 159 [vS a0.froom,eq v0_0.1],mpo Value.string DNode.O v0_0.1 a0.fnodes]++F) (gh_of (ok:=fun _=>True) fun R w k=>⟨(),trivial,k⟩) (fun _ _=>?_)
    refine WP.gh (l':=fun _:Unit=>[own strK nilV.1 [],rng Value.string (fun x:Int=>vI x) gm.1 q.1 m [],blk b0_ 159 [vS a0.froom,eq v0_0.1],mpo Value.string DNode.O v0_0.1 a0.fnodes]++F) (gh_of (st_nil strK none)) (fun _ _=>?_)
    refine WP.block ?_
    refine WP.weak (E':=(fun b:List Nat×OV=>[(3,eq b.2.1),(7,eq q.1)]) ([],nilV)) (weak_cons rfl (weak_cons rfl weak_nil)) (WP.loop (β:=List Nat×OV) (fun k b=>b.1.length + k = m.length) (fun b=>[(3,eq b.2.1),(7,eq q.1)]) (fun b=>[own strK b.2.1 (selM m (fun e=>some e.1) b.1),rng Value.string (fun x:Int=>vI x) gm.1 q.1 m b.1,blk b0_ 159 [vS a0.froom,eq v0_0.1],mpo Value.string DNode.O v0_0.1 a0.fnodes]++F) ?_ (k:=m.length) (b:=([],nilV)) (Nat.zero_add _))
    rintro k ⟨is,v⟩ hk
    replace hk:is.length + k = m.length:=hk
    refine WP.seq<|rg 2 1<|Dv.rgn (jj:=1) rfl trivial rfl rfl nofun (fun z hz=>?_)
    rcases z with _ | j
    · have hz:is.Perm (List.range m.length):=hz
      refine ex0 rfl trivial rfl rfl<|.fin<|WP.seq<|WP.cond rfl nofun (fun _=>WP.exit ?_)
      refine Dn.gh (l':=fun _:Unit=>[own strK v.1 (selM m (fun e=>some e.1) is),rng Value.string (fun x:Int=>vI x) gm.1 q.1 m is,blk b0_ 159 [vS a0.froom,eq v0_0.1],mpo Value.string DNode.O v0_0.1 a0.fnodes]++F) (gh_of (ok:=fun _=>True) fun R w k=>⟨(),trivial,k⟩) (fun _ _=>?_)
      refine Dn.gh (l':=fun _:Unit=>[mp Value.string (fun x:Int=>vI x) gm.1 m,own strK v.1 (selM m (fun e=>some e.1) is),blk b0_ 159 [vS a0.froom,eq v0_0.1],mpo Value.string DNode.O v0_0.1 a0.fnodes]++F) (gh_of (st_rge (pm 4 [1,0,2,3]))) (fun _ _=>?_)
      refine Dn.gh (l':=fun _:Unit=>[own strK v.1 (selM m (fun e=>some e.1) is),blk b0_ 159 [vS a0.froom,eq v0_0.1],mpo Value.string DNode.O v0_0.1 a0.fnodes]++F) (gh_of (st_selgn 4 [0,1,2,3] 1 (by kernel_rfl) rfl rfl)) (fun _ _=>?_)
      exact Jn.mk (is,v) hz (weak_cons rfl weak_nil) (List.Perm.refl _)
    have hz:j < m.length∧j ∉ is∧is.length < m.length:=hz
    obtain ⟨e,he⟩:∃ e,m[j]? = some e:=⟨_,List.getElem?_eq_getElem hz.1⟩
    have hep:=he
    have hlt:=hz.2.2
    have hsl:=Nat.le_trans (selM_len (m:=m) (f:=(fun e=>some e.1)) (is:=is)) (Nat.le_of_lt hlt)
    have e1:nxV Value.string (fun x:Int=>vI x) m (some j) = tup [vB true,vS e.1,vI e.2]:=by simp only [nxV,hep]
    rw [e1]
    refine ex0 rfl trivial rfl rfl<|.fin<|WP.seq<|WP.cond rfl (fun _=>WP.skip ?_) nofun
    refine WP.gh (l':=fun _:Unit=>[own strK v.1 (selM m (fun e=>some e.1) is),rng Value.string (fun x:Int=>vI x) gm.1 q.1 m (is++[j]),blk b0_ 159 [vS a0.froom,eq v0_0.1],mpo Value.string DNode.O v0_0.1 a0.fnodes]++F) (gh_of (ok:=fun _=>True) fun R w k=>⟨(),trivial,k⟩) (fun _ _=>?_)
    refine WP.block<|WP.seq<|rg 3 0<|Dv.rge 1 rfl trivial rfl rfl hep ?_
    refine ex0 rfl trivial rfl rfl<|as0 rfl rfl<|.fin ?_
    have e6:=selM_some (f:=(fun e=>some e.1)) (is:=is) he rfl
    have hbd:(selM m (fun e=>some e.1) is).length + ([e.1]:List ByteArray).length≤9223372036854775807∧((selM m (fun e=>some e.1) is).length + ([e.1]:List ByteArray).length) * 16≤140737488355328:=by rw [List.length_singleton]; omega
    refine rg 5 8<|mv0 rfl rfl<|mv0 rfl rfl<|Dv.lit strK ([e.1]:List ByteArray) (css:=[[vS e.1]]) rfl trivial Tryz.underlying53 Tryz.underlying9 c9 z9 rfl (by decide) (by decide) rfl ⟨(cells_one (one_eq rfl)),trivial⟩ rfl rfl rfl<|ap strK 0 ([e.1]:List ByteArray) src_sl Tryz.underlying53 (.inr ⟨_,Tryz.underlying53⟩) inf9 hbd nofun fun v9=>as0 rfl rfl<|.fin ?_
    rw [e6]
    exact Back.mk (k - 1) (is++[j],v9) (by omega) (by show (is++[j]).length + (k - 1) = _; rw [List.length_append,List.length_singleton]; omega) (weak_cons rfl (weak_cons rfl weak_nil)) (List.Perm.refl _)
  obtain ⟨is,v3⟩:=b
  replace hb:is.Perm (List.range m.length):=hb
  have hp:=selM_perm (f:=(fun e=>some e.1)) hb
  have hs:slices_Sort_string.f (selM m (fun e=>some e.1) is) = some (srtS (m.map (·.1))):=by
    have e7:m.filterMap (fun e=>some e.1) = m.map (·.1):=by rw [← List.filterMap_eq_map]; rfl
    rw [e7] at hp
    unfold slices_Sort_string.f Sp.grd
    rw [if_pos (by rw [hp.length_eq,List.length_map]; omega),srtS_eq hp]
  refine WP.seq<|rg 2 2<|mv0 rfl rfl<|cx 3 [0,1,2] cal162 (slices_Sort_string.c hs (p0_:=v3)) nofun fun _ _=>.fin ?_
  refine WP.seq<|rg 2 0<|mv0 rfl rfl<|as0 rfl rfl<|.fin<|rt i2 rfl v3 3 [1,2,0] 0 (.cons (res_tmp rfl) .nil)
theorem member_Servers.c {k:Nat} {a0:DDag} {v0_0:OV} {b0_:Nat} {r:(List ByteArray)} (h:member_Servers.f k a0 = some r):Tr Tryz.prog 164 [eq (.pointer (some ⟨b0_,0,none⟩))] [blk b0_ 159 [vS a0.froom,eq v0_0.1],mpo Value.string DNode.O v0_0.1 a0.fnodes] (γ:=OV) (fun _=>True) (fun g=>eq g.1) (fun g=>[blk b0_ 159 [vS a0.froom,eq v0_0.1],mpo Value.string DNode.O v0_0.1 a0.fnodes,own strK g.1 r]):=by
 unfold member_Servers.f at h
 refine Tr.body Tryz.func164 (c:=_) rfl Tryz.ntmps164 (Nat.le_of_ble_eq_true rfl) fun R0 F=>?_
 replace h:=Gets.of h
 have H:=h
 clear h
 refine WP.seq<|rg 1 0<|as0 rfl rfl<|.fin<|WP.seq<|rg 4 6<|mv0 rfl rfl<|el H fun t889 h890 H=>cx 2 [0,1] cal177 (member_Users.c h890 (b0_:=b0_) (v0_0:=v0_0)) nofun fun g891 _=>?_
 refine el H fun t892 h893 H=>cx 3 [2,0,1] cal176 (Tr.lend [own strK g891.1 t889] (member_Homes.c h893) (.cons (lt_own (mem_at 0 rfl)) .nil) (fun _=>flat_eq) (fun _=>(flatAs_cons (flatA_own flatK_str) flatAs_nil))) nofun fun g894 _=>?_
 refine as0 rfl rfl<|.fin ?_
 obtain rfl:=Gets.out H
 exact rt i2 rfl g894 4 [0,2,3,1] 1 (.cons (res_tmp rfl) .nil)
theorem view_View_Servers.c {k:Nat} {a0:VView} {a1:ByteArray} {v0_0:OV} {b0_:Nat} {r:(List ByteArray)} (h:view_View_Servers.f k a0 a1 = some r):Tr Tryz.prog 145 [eq (.pointer (some ⟨b0_,0,none⟩)),vS a1] [blk b0_ 95 [eq v0_0.1],mpo Value.string DDag.O v0_0.1 a0.fdags] (γ:=OV) (fun _=>True) (fun g=>eq g.1) (fun g=>[blk b0_ 95 [eq v0_0.1],mpo Value.string DDag.O v0_0.1 a0.fdags,own strK g.1 r]):=by
 unfold view_View_Servers.f at h
 refine Tr.body Tryz.func145 (c:=_) rfl Tryz.ntmps145 (Nat.le_of_ble_eq_true rfl) fun R0 F=>?_
 replace h:=Gets.of h
 have H:=h
 clear h
 refine WP.seq<|rg 1 0<|as0 rfl rfl<|.fin<|WP.seq<|rg 5 12<|mv0 rfl rfl<|mv0 rfl rfl<|el H fun t895 h896 H=>cx 2 [0,1] cal55 (view_View_room.c h896 (b0_:=b0_) (v0_0:=v0_0)) nofun fun v897 _=>?_
 refine vg (DDag.opn 2 rfl) fun g898 h899=>?_
 refine el H fun t900 h901 H=>cx 4 [0,1,2,3] cal164 (Tr.weak (member_Servers.c h901 (b0_:=g898.1) (v0_0:=g898.2)) (.cons (wk_ptr h899) .nil)) nofun fun g902 _=>?_
 refine as0 rfl rfl<|.fin<|wg (DDag.shut (p:=v897) (m:=t895) (g898.1,g898.2) h899 (pm 5 [0,1,2,3,4])) fun _ _=>?_
 refine wg (mpl_back0 (view_View_room.r h896) (pm 4 [3,0,1,2])) fun _ _=>?_
 obtain rfl:=Gets.out H
 exact rt i2 rfl g902 3 [2,0,1] 0 (.cons (res_tmp rfl) .nil)
theorem slices_IndexFunc_string_x.c {k:Nat} {a0:List ByteArray} {a1:(ByteArray→Option Bool)} {X1_:As} {r:Int} (h:slices_IndexFunc_string_x.f k a0 a1 = some r):Tr Tryz.prog 123 [sl strK a0,fx_string_bool X1_ a1] [X1_] (γ:=Unit) (fun _=>True) (fun g=>vI r) (fun g=>[X1_]):=by
 unfold slices_IndexFunc_string_x.f at h
 refine Tr.body Tryz.func123 (c:=_) rfl Tryz.ntmps123 (Nat.le_of_ble_eq_true rfl) fun R0 F=>?_
 replace h:=Gets.of h
 have H:=h
 clear h
 refine WP.seq<|rg 1 0<|as0 rfl rfl<|.fin<|WP.seqr H id (fun p912:Int×Bool=>[(0,sl strK a0),(1,fx_string_bool X1_ a1),(4,vI 0),(7,vI (a0.length:Int)),(8,vI p912.1),(9,vB p912.2)]) (fun p912:Int×Bool=>[X1_]++F) (fun p912 H=>?_) (fun H=>?_)
 ·
  refine WP.seq<|rg 1 0<|as0 rfl rfl<|.fin ?_
  cases H.out; exact rt i2 rfl () 1 [0] 0 (.cons (res_tmp rfl) .nil)
 refine WP.seq<|rg 3 0<|mv0 rfl rfl<|Dv.lenl rfl trivial rfl Tryz.underlying53<|mv0 rfl rfl<|.fin<|WP.block<|wg (sg 1 [0] 0) fun _ _=>?_
 refine lp (fun j_ (p920:Int)=>slices_IndexFunc_string_x.l0 k a0 a1 j_ p920) 0 H (fun p920=>[(0,sl strK a0),(1,fx_string_bool X1_ a1),(4,vI 0),(7,vI (a0.length:Int)),(8,vI p920)]) (fun p920=>[X1_]++F) ?_
 rintro j_ x913 H
 rcases j_ with _ | j919
 ·
  exact (Gets.no H).elim
 replace H:Gets (slices_IndexFunc_string_x.l0 k a0 a1 (j919 + 1) x913) _:=H
 rw [slices_IndexFunc_string_x.l0] at H
 refine WP.seq<|rg 1 0<|bn0 rfl rfl rfl run_lt<|.fin<|WP.seq<|cd H rfl (fun _ H=>?_) (fun _ H=>?_)
 rotate_left
 ·
  refine WP.exit ?_
  have H:=H.out
  exact jn (x913,decide (x913 < (a0.length:Int))) H
 refine WP.skip<|WP.seq<|WP.block<|WP.seq<|rg 2 0<|mv0 rfl rfl<|as0 rfl rfl<|.fin<|WP.seq<|rg 6 0<|mv0 rfl rfl<|mv0 rfl rfl<|mv0 rfl rfl<|gr H fun g915 H=>Dv.ixr rfl trivial rfl rfl Tryz.underlying53 Tryz.underlying9 c9 g915.1 g915.2<|ldR rfl trivial rfl sc9 rfl<|el H fun t916 h917 H=>Dv.callfx (ret:=vB t916) (X:=X1_) (F:=F) rfl trivial rfl rfl ⟨_,_,h917,rfl,rfl⟩ (perm_to (L:=[X1_]) (F:=F) [0] rfl rfl rfl)<|.fin<|cd H rfl (fun _ H=>?_) (fun _ H=>?_)
 rotate_left
 ·
  exact WP.skip<|rg 2 0<|bn0 rfl rfl rfl run_add<|mv0 rfl rfl<|.fin<|bk j919 (w64 (x913 + 1)) H
 refine WP.seq<|rg 2 0<|mv0 rfl rfl<|as0 rfl rfl<|.fin ?_
 have H:=H.outr
 cases H.out; exact rt i2 rfl () 1 [0] 0 (.cons (res_tmp rfl) .nil)
theorem slices_IndexFunc_string_xw.c {k:Nat} {a0:List ByteArray} {a1:(ByteArray→Option Bool)} {X1_:As} {p0_:OV} {r:Int} (h:slices_IndexFunc_string_xw.f k a0 a1 = some r):Tr Tryz.prog 123 [eq p0_.1,fx_string_bool X1_ a1] [own strK p0_.1 a0,X1_] (γ:=Unit) (fun _=>True) (fun g=>vI r) (fun g=>[own strK p0_.1 a0,X1_]):=by
 unfold slices_IndexFunc_string_xw.f at h
 refine Tr.body Tryz.func123 (c:=_) rfl Tryz.ntmps123 (Nat.le_of_ble_eq_true rfl) fun R0 F=>?_
 replace h:=Gets.of h
 have H:=h
 clear h
 refine WP.seq<|rg 1 0<|as0 rfl rfl<|.fin<|WP.seqr H id (fun p921:Int×Bool=>[(0,eq p0_.1),(1,fx_string_bool X1_ a1),(4,vI 0),(7,vI (a0.length:Int)),(8,vI p921.1),(9,vB p921.2)]) (fun p921:Int×Bool=>[own strK p0_.1 a0,X1_]++F) (fun p921 H=>?_) (fun H=>?_)
 ·
  refine WP.seq<|rg 1 0<|as0 rfl rfl<|.fin ?_
  cases H.out; exact rt i2 rfl () 2 [0,1] 0 (.cons (res_tmp rfl) .nil)
 refine WP.seq<|rg 3 0<|mv0 rfl rfl<|Dv.lenw rfl trivial rfl (mem_at 0 rfl) Tryz.underlying53<|mv0 rfl rfl<|.fin<|WP.block<|wg (sg 2 [0,1] 0) fun _ _=>?_
 refine lp (fun j_ (p930:Int)=>slices_IndexFunc_string_xw.l0 k a0 a1 j_ p930) 0 H (fun p930=>[(0,eq p0_.1),(1,fx_string_bool X1_ a1),(4,vI 0),(7,vI (a0.length:Int)),(8,vI p930)]) (fun p930=>[own strK p0_.1 a0,X1_]++F) ?_
 rintro j_ x922 H
 rcases j_ with _ | j929
 ·
  exact (Gets.no H).elim
 replace H:Gets (slices_IndexFunc_string_xw.l0 k a0 a1 (j929 + 1) x922) _:=H
 rw [slices_IndexFunc_string_xw.l0] at H
 refine WP.seq<|rg 1 0<|bn0 rfl rfl rfl run_lt<|.fin<|WP.seq<|cd H rfl (fun _ H=>?_) (fun _ H=>?_)
 rotate_left
 ·
  refine WP.exit ?_
  have H:=H.out
  exact jn (x922,decide (x922 < (a0.length:Int))) H
 refine WP.skip<|WP.seq<|WP.block<|WP.seq<|rg 2 0<|mv0 rfl rfl<|as0 rfl rfl<|.fin<|WP.seq<|rg 6 0<|mv0 rfl rfl<|mv0 rfl rfl<|mv0 rfl rfl<|gr H fun g924 H=>?_
 have h925:x922.toNat < a0.length:=idx_lt g924
 refine Dv.ixw rfl trivial rfl (mem_at 0 rfl) rfl Tryz.underlying53 Tryz.underlying9 c9 g924.1 g924.2<|Dv.ldw (j:=x922.toNat) (f:=0) (p:=vS (a0.getD x922.toNat default)) rfl trivial rfl (mem_at 0 rfl) h925 Tryz.underlying9 rfl rfl<|el H fun t926 h927 H=>Dv.callfx (ret:=vB t926) (X:=X1_) (F:=[own strK p0_.1 a0]++F) rfl trivial rfl rfl ⟨_,_,h927,rfl,rfl⟩ (perm_to (L:=[own strK p0_.1 a0,X1_]) (F:=F) [1,0] rfl rfl rfl)<|.fin<|cd H rfl (fun _ H=>?_) (fun _ H=>?_)
 rotate_left
 ·
  exact WP.skip<|rg 2 0<|bn0 rfl rfl rfl run_add<|mv0 rfl rfl<|.fin<|bk j929 (w64 (x922 + 1)) H
 refine WP.seq<|rg 2 0<|mv0 rfl rfl<|as0 rfl rfl<|.fin ?_
 have H:=H.outr
 cases H.out; exact rt i2 rfl () 2 [0,1] 0 (.cons (res_tmp rfl) .nil)
theorem slices_DeleteFunc_string_xo.c {k:Nat} {a0:List ByteArray} {a1:(ByteArray→Option Bool)} {X1_:As} {p0_:OV} {r:(List ByteArray)} (h:slices_DeleteFunc_string_xo.f k a0 a1 = some r):Tr Tryz.prog 170 [eq p0_.1,fx_string_bool X1_ a1] [own strK p0_.1 a0,X1_] (γ:=OV) (fun _=>True) (fun g=>eq g.1) (fun g=>[X1_,own strK g.1 r]):=by
 unfold slices_DeleteFunc_string_xo.f at h
 refine Tr.body Tryz.func170 (c:=_) rfl Tryz.ntmps170 (Nat.le_of_ble_eq_true rfl) fun R0 F=>?_
 replace h:=Gets.of h
 have H:=h
 clear h
 refine WP.seq<|rg 1 0<|as0 rfl rfl<|.fin<|WP.seq<|rg 4 0<|mv0 rfl rfl<|mv0 rfl rfl<|el H fun t931 h932 H=>cll 2 [0,1] cal123 (slices_IndexFunc_string_xw.c h932 (p0_:=p0_) (X1_:=X1_)) ?_
 refine as0 rfl rfl<|.fin<|WP.seq<|WP.seq<|rg 2 0<|mv0 rfl rfl<|bn0 rfl rfl rfl run_eq<|.fin<|cd H rfl (fun _ H=>?_) (fun _ H=>?_)
 ·
  refine WP.seq<|rg 2 0<|mv0 rfl rfl<|as0 rfl rfl<|.fin ?_
  obtain rfl:=Gets.out H
  exact rt i2 rfl p0_ 2 [1,0] 0 (.cons (res_tmp rfl) .nil)
 refine WP.skip<|WP.seqn H id (fun p934:Int×Int×Bool×(List ByteArray)=>[(0,eq p0_.1),(1,fx_string_bool X1_ a1),(4,eq (.slice none 0 0)),(5,vI p934.1),(6,vI p934.2.1),(12,vB (t931 == (-1))),(19,vB p934.2.2.1)]) (fun p934:Int×Int×Bool×(List ByteArray)=>[own strK p0_.1 p934.2.2.2,X1_]++F) (fun p934 H=>?_) (fun H=>?_)
 ·
  refine WP.seq<|rg 4 8<|mv0 rfl rfl<|mv0 rfl rfl<|gr H fun g935 H=>vg (st_own_form 0 rfl (List.length_pos_iff.1 (Nat.lt_of_le_of_lt (Nat.zero_le _) g935.2))) fun g936 h937=>?_
  refine Dv.slkm (o':=g936.2.1 + p934.1.toNat * strK.sz) (m':=p934.2.2.2.length - p934.1.toNat) (c':=g936.2.2 - p934.1.toNat) rfl trivial ((show opv _ _ = some (eq p0_.1) from rfl).trans (congrArg (fun z=>some (eq z)) h937.1)) Tryz.underlying53 Tryz.underlying9 c9 (bdE_some rfl g935.1) bdE_none (Nat.le_of_lt g935.2) h937.2 (.inl (Nat.lt_of_lt_of_le g935.2 h937.2)) rfl rfl rfl<|Dv.clrw (jj:=0) (⟨#[]⟩:ByteArray) rfl trivial rfl Tryz.underlying53 z9 rfl rfl (fun u hu=>by simp [Value.cells] at hu; subst hu; rfl) h937.1 rfl g935.2 rfl nofun<|.fin<|WP.seq<|rg 4 4<|mv0 rfl rfl<|mv0 rfl rfl<|gr H fun g938 H=>Dv.slo (jj:=0) rfl trivial rfl rfl Tryz.underlying53 Tryz.underlying9 c9 bdE_none (bdE_some rfl g938.1) (.inl rfl) g938.2.1 g938.2.2 nofun (fun v939=>?_)
  refine as0 rfl rfl<|.fin ?_
  obtain rfl:=Gets.out H
  exact rt i2 rfl v939 2 [1,0] 0 (.cons (res_tmp rfl) .nil)
 refine WP.seq<|rg 3 0<|mv0 rfl rfl<|bn0 rfl rfl rfl run_add<|as0 rfl rfl<|.fin<|WP.block<|wg (sg 2 [0,1] 0) fun _ _=>?_
 refine lp (fun j_ (p952:Int×Int×(List ByteArray))=>slices_DeleteFunc_string_xo.l0 k a1 j_ p952.1 p952.2.1 p952.2.2) (t931,w64 (t931 + 1),a0) H (fun p952=>[(0,eq p0_.1),(1,fx_string_bool X1_ a1),(4,eq (.slice none 0 0)),(5,vI p952.1),(6,vI p952.2.1),(12,vB (t931 == (-1)))]) (fun p952=>[own strK p0_.1 p952.2.2,X1_]++F) ?_
 rintro j_ ⟨x940,x941,x942⟩ H
 rcases j_ with _ | j951
 ·
  exact (Gets.no H).elim
 replace H:Gets (slices_DeleteFunc_string_xo.l0 k a1 (j951 + 1) x940 x941 x942) _:=H
 rw [slices_DeleteFunc_string_xo.l0] at H
 refine WP.seq<|WP.seq<|rg 4 0<|mv0 rfl rfl<|mv0 rfl rfl<|Dv.lenw rfl trivial rfl (mem_at 0 rfl) Tryz.underlying53<|bn0 rfl rfl rfl run_lt<|.fin<|cd H rfl (fun _ H=>?_) (fun _ H=>?_)
 rotate_left
 ·
  refine WP.exit ?_
  have H:=H.out
  exact jn (x940,x941,decide (x941 < (x942.length:Int)),x942) H
 refine WP.skip<|WP.seq<|WP.block<|WP.seq<|rg 5 0<|mv0 rfl rfl<|mv0 rfl rfl<|gr H fun g944 H=>?_
 have h945:x941.toNat < x942.length:=idx_lt g944
 refine Dv.ixw rfl trivial rfl (mem_at 0 rfl) rfl Tryz.underlying53 Tryz.underlying9 c9 g944.1 g944.2<|Dv.ldw (j:=x941.toNat) (f:=0) (p:=vS (x942.getD x941.toNat default)) rfl trivial rfl (mem_at 0 rfl) h945 Tryz.underlying9 rfl rfl<|as0 rfl rfl<|.fin<|WP.seq<|rg 4 0<|mv0 rfl rfl<|mv0 rfl rfl<|el H fun t946 h947 H=>Dv.callfx (ret:=vB t946) (X:=X1_) (F:=[own strK p0_.1 x942]++F) rfl trivial rfl rfl ⟨_,_,h947,rfl,rfl⟩ (perm_to (L:=[own strK p0_.1 x942,X1_]) (F:=F) [1,0] rfl rfl rfl)<|un0 rfl rfl (run_not _)<|.fin<|cd H rfl (fun _ H=>?_) (fun _ H=>?_)
 rotate_left
 ·
  exact WP.skip<|rg 3 0<|mv0 rfl rfl<|bn0 rfl rfl rfl run_add<|as0 rfl rfl<|.fin<|bk j951 (x940,w64 (x941 + 1),x942) H
 refine WP.seq<|rg 5 16<|mv0 rfl rfl<|mv0 rfl rfl<|mv0 rfl rfl<|gr H fun g949 H=>?_
 have h950:x940.toNat < x942.length:=idx_lt g949
 exact Dv.ixw rfl trivial rfl (mem_at 0 rfl) rfl Tryz.underlying53 Tryz.underlying9 c9 g949.1 g949.2<|Dv.stw (j:=x940.toNat) (f:=0) (jj:=0) (x942.getD x941.toNat default) rfl trivial rfl rfl (cells_one (one_eq rfl)) Tryz.underlying9 c9 rfl rfl h950 (Nat.le_of_ble_eq_true rfl) rfl nofun<|.fin<|rg 3 0<|mv0 rfl rfl<|bn0 rfl rfl rfl run_add<|as0 rfl rfl<|.fin<|rg 3 0<|mv0 rfl rfl<|bn0 rfl rfl rfl run_add<|as0 rfl rfl<|.fin<|bk j951 (w64 (x940 + 1),w64 (x941 + 1),x942.set x940.toNat (x942.getD x941.toNat default)) H
theorem view_View_Rooms.c {a0:VView} {b0_:Nat} {v0_0:OV} {r:List ByteArray} (h:view_View_Rooms.f a0 = some r):Tr Tryz.prog 171 [eq (.pointer (some ⟨b0_,0,none⟩))] [blk b0_ 95 [eq v0_0.1],mpo Value.string DDag.O v0_0.1 a0.fdags] (γ:=OV) (fun _=>True) (fun g=>eq g.1) (fun g=>[blk b0_ 95 [eq v0_0.1],mpo Value.string DDag.O v0_0.1 a0.fdags,own strK g.1 r]):=by
  unfold view_View_Rooms.f at h
  obtain ⟨h0,h5⟩:=(Gets.of h).grd
  obtain rfl:=Gets.out h5
  clear h h5
  refine Tr.body Tryz.func171 (c:=_) rfl Tryz.ntmps171 (Nat.le_of_ble_eq_true rfl) fun R0 F=>?_
  refine WP.seq<|rg 1 0<|as0 rfl rfl<|.fin<|WP.seq<|rg 1 0<|as0 rfl rfl<|.fin ?_
  refine WP.seqj (β:=List Nat×OV) (fun b=>b.1.Perm (List.range a0.fdags.length)) (fun b=>[(3,eq b.2.1)]) (fun b=>[own strK b.2.1 (selM a0.fdags (fun e=>some e.1) b.1),blk b0_ 95 [eq v0_0.1],mpo Value.string DDag.O v0_0.1 a0.fdags]++F) (fun b hb=>?_) ?_
  rotate_left
  · refine WP.seq<|rg 5 16<|mv0 rfl rfl<|Dv.nilp rfl trivial rfl<|fb rfl trivial rfl fa95_0<|ld 0 rfl trivial rfl sc93 rfl rfl ?_
    refine Dv.gh (l':=fun ps:List OV=>[mp Value.string (fun p:OV=>eq p.1) v0_0.1 (zipK a0.fdags ps),thg DDag.O a0.fdags ps,blk b0_ 95 [eq v0_0.1]]++F) (gh_of (mpo_opn 1 rfl)) (fun ps hps=>?_)
    refine Dv.rgb (jj:=0) rfl trivial rfl rfl Tryz.underlying93 nofun (fun q=>.fin ?_)
    refine WP.gh (l':=fun _:Unit=>[rng Value.string (fun p:OV=>eq p.1) v0_0.1 q.1 (zipK a0.fdags ps) [],thg DDag.O a0.fdags ps,blk b0_ 95 [eq v0_0.1]]++F) (gh_of (ok:=fun _=>True) fun R w k=>⟨(),trivial,k⟩) (fun _ _=>?_)
    refine WP.gh (l':=fun _:Unit=>[own strK nilV.1 [],rng Value.string (fun p:OV=>eq p.1) v0_0.1 q.1 (zipK a0.fdags ps) [],thg DDag.O a0.fdags ps,blk b0_ 95 [eq v0_0.1]]++F) (gh_of (st_nil strK none)) (fun _ _=>?_)
    refine WP.block ?_
    refine WP.weak (E':=(fun b:List Nat×OV=>[(3,eq b.2.1),(9,eq q.1)]) ([],nilV)) (weak_cons rfl (weak_cons rfl weak_nil)) (WP.loop (β:=List Nat×OV) (fun k b=>b.1.length + k = a0.fdags.length) (fun b=>[(3,eq b.2.1),(9,eq q.1)]) (fun b=>[own strK b.2.1 (selM a0.fdags (fun e=>some e.1) b.1),rng Value.string (fun p:OV=>eq p.1) v0_0.1 q.1 (zipK a0.fdags ps) b.1,thg DDag.O a0.fdags ps,blk b0_ 95 [eq v0_0.1]]++F) ?_ (k:=a0.fdags.length) (b:=([],nilV)) (Nat.zero_add _))
    rintro k ⟨is,v⟩ hk
    replace hk:is.length + k = a0.fdags.length:=hk
    refine WP.seq<|rg 2 1<|Dv.rgn (jj:=1) rfl trivial rfl rfl nofun (fun z hz=>?_)
    rcases z with _ | j
    · have hz:is.Perm (List.range (zipK a0.fdags ps).length):=hz
      rw [zipK_len hps.1] at hz
      refine ex0 rfl trivial rfl rfl<|.fin<|WP.seq<|WP.cond rfl nofun (fun _=>WP.exit ?_)
      refine Dn.gh (l':=fun _:Unit=>[own strK v.1 (selM a0.fdags (fun e=>some e.1) is),rng Value.string (fun p:OV=>eq p.1) v0_0.1 q.1 (zipK a0.fdags ps) is,thg DDag.O a0.fdags ps,blk b0_ 95 [eq v0_0.1]]++F) (gh_of (ok:=fun _=>True) fun R w k=>⟨(),trivial,k⟩) (fun _ _=>?_)
      refine Dn.gh (l':=fun _:Unit=>[mp Value.string (fun p:OV=>eq p.1) v0_0.1 (zipK a0.fdags ps),own strK v.1 (selM a0.fdags (fun e=>some e.1) is),thg DDag.O a0.fdags ps,blk b0_ 95 [eq v0_0.1]]++F) (gh_of (st_rge (pm 4 [1,0,2,3]))) (fun _ _=>?_)
      refine Dn.gh (l':=fun _:Unit=>[mpo Value.string DDag.O v0_0.1 a0.fdags,own strK v.1 (selM a0.fdags (fun e=>some e.1) is),blk b0_ 95 [eq v0_0.1]]++F) (gh_of (mpo_shut hps rfl (pm 4 [0,2,1,3]))) (fun _ _=>?_)
      exact Jn.mk (is,v) hz (weak_cons rfl weak_nil) (perm_ton 3 [1,2,0] (by kernel_rfl) rfl rfl)
    have hz:j < (zipK a0.fdags ps).length∧j ∉ is∧is.length < (zipK a0.fdags ps).length:=hz
    obtain ⟨e,p,he,hp,hep⟩:=zipK_get hps hz.1
    have hlt:is.length < a0.fdags.length:=by rw [← zipK_len hps.1]; exact hz.2.2
    have hsl:=Nat.le_trans (selM_len (m:=a0.fdags) (f:=(fun e=>some e.1)) (is:=is)) (Nat.le_of_lt hlt)
    have e1:nxV Value.string (fun p:OV=>eq p.1) (zipK a0.fdags ps) (some j) = tup [vB true,vS e.1,eq p.1]:=by simp only [nxV,hep]
    rw [e1]
    refine ex0 rfl trivial rfl rfl<|.fin<|WP.seq<|WP.cond rfl (fun _=>WP.skip ?_) nofun
    refine WP.gh (l':=fun _:Unit=>[own strK v.1 (selM a0.fdags (fun e=>some e.1) is),rng Value.string (fun p:OV=>eq p.1) v0_0.1 q.1 (zipK a0.fdags ps) (is++[j]),thg DDag.O a0.fdags ps,blk b0_ 95 [eq v0_0.1]]++F) (gh_of (ok:=fun _=>True) fun R w k=>⟨(),trivial,k⟩) (fun _ _=>?_)
    refine WP.block<|WP.seq<|rg 3 0<|Dv.rge 1 rfl trivial rfl rfl hep ?_
    refine ex0 rfl trivial rfl rfl<|as0 rfl rfl<|.fin ?_
    have e6:=selM_some (f:=(fun e=>some e.1)) (is:=is) he rfl
    have hbd:(selM a0.fdags (fun e=>some e.1) is).length + ([e.1]:List ByteArray).length≤9223372036854775807∧((selM a0.fdags (fun e=>some e.1) is).length + ([e.1]:List ByteArray).length) * 16≤140737488355328:=by rw [List.length_singleton]; omega
    refine rg 5 8<|mv0 rfl rfl<|mv0 rfl rfl<|Dv.lit strK ([e.1]:List ByteArray) (css:=[[vS e.1]]) rfl trivial Tryz.underlying53 Tryz.underlying9 c9 z9 rfl (by decide) (by decide) rfl ⟨(cells_one (one_eq rfl)),trivial⟩ rfl rfl rfl<|ap strK 0 ([e.1]:List ByteArray) src_sl Tryz.underlying53 (.inr ⟨_,Tryz.underlying53⟩) inf9 hbd nofun fun v9=>as0 rfl rfl<|.fin ?_
    rw [e6]
    exact Back.mk (k - 1) (is++[j],v9) (by omega) (by show (is++[j]).length + (k - 1) = _; rw [List.length_append,List.length_singleton]; omega) (weak_cons rfl (weak_cons rfl weak_nil)) (List.Perm.refl _)
  obtain ⟨is,v3⟩:=b
  replace hb:is.Perm (List.range a0.fdags.length):=hb
  have hp:=selM_perm (f:=(fun e=>some e.1)) hb
  have hs:slices_Sort_string.f (selM a0.fdags (fun e=>some e.1) is) = some (srtS (a0.fdags.map (·.1))):=by
    have e7:a0.fdags.filterMap (fun e=>some e.1) = a0.fdags.map (·.1):=by rw [← List.filterMap_eq_map]; rfl
    rw [e7] at hp
    unfold slices_Sort_string.f Sp.grd
    rw [if_pos (by rw [hp.length_eq,List.length_map]; omega),srtS_eq hp]
  refine WP.seq<|rg 2 2<|mv0 rfl rfl<|cx 3 [0,1,2] cal162 (slices_Sort_string.c hs (p0_:=v3)) nofun fun _ _=>.fin ?_
  refine WP.seq<|rg 2 0<|mv0 rfl rfl<|as0 rfl rfl<|.fin<|rt i2 rfl v3 3 [1,2,0] 0 (.cons (res_tmp rfl) .nil)
theorem member_Joined.c {k:Nat} {a0:DDag} {a1:ByteArray} {v0_0:OV} {b0_:Nat} {r:Bool} (h:member_Joined.f k a0 a1 = some r):Tr Tryz.prog 183 [eq (.pointer (some ⟨b0_,0,none⟩)),vS a1] [blk b0_ 159 [vS a0.froom,eq v0_0.1],mpo Value.string DNode.O v0_0.1 a0.fnodes] (γ:=Unit) (fun _=>True) (fun g=>vB r) (fun g=>[blk b0_ 159 [vS a0.froom,eq v0_0.1],mpo Value.string DNode.O v0_0.1 a0.fnodes]):=by
 unfold member_Joined.f at h
 refine Tr.body Tryz.func183 (c:=_) rfl Tryz.ntmps183 (Nat.le_of_ble_eq_true rfl) fun R0 F=>?_
 replace h:=Gets.of h
 have H:=h
 clear h
 refine WP.seq<|rg 1 0<|as0 rfl rfl<|.fin<|WP.seq<|rg 6 2<|mv0 rfl rfl<|el H fun t953 h954 H=>cx 2 [0,1] cal196 (member_joined.c h954 (b0_:=b0_) (v0_0:=v0_0)) nofun fun g955 _=>?_
 refine mv0 rfl rfl<|Dv.mlv 0 rfl trivial rfl (mem_at 2 rfl) rfl Tryz.underlying241 (keyOk_str Tryz.underlying9) z3 (fun _=>rfl)<|bn0 rfl rfl rfl run_gt<|as0 rfl rfl<|.fin ?_
 cases H.out; exact rt i2 rfl () 3 [2,0,1] 1 (.cons (res_tmp rfl) .nil)
theorem view_View_Joined.c {k:Nat} {a0:VView} {a1:ByteArray} {a2:ByteArray} {v0_0:OV} {b0_:Nat} {r:Bool} (h:view_View_Joined.f k a0 a1 a2 = some r):Tr Tryz.prog 173 [eq (.pointer (some ⟨b0_,0,none⟩)),vS a1,vS a2] [blk b0_ 95 [eq v0_0.1],mpo Value.string DDag.O v0_0.1 a0.fdags] (γ:=Unit) (fun _=>True) (fun g=>vB r) (fun g=>[blk b0_ 95 [eq v0_0.1],mpo Value.string DDag.O v0_0.1 a0.fdags]):=by
 unfold view_View_Joined.f at h
 refine Tr.body Tryz.func173 (c:=_) rfl Tryz.ntmps173 (Nat.le_of_ble_eq_true rfl) fun R0 F=>?_
 replace h:=Gets.of h
 have H:=h
 clear h
 refine WP.seq<|rg 1 0<|as0 rfl rfl<|.fin<|WP.seq<|rg 6 4<|mv0 rfl rfl<|mv0 rfl rfl<|el H fun t956 h957 H=>cx 2 [0,1] cal55 (view_View_room.c h957 (b0_:=b0_) (v0_0:=v0_0)) nofun fun v958 _=>?_
 refine mv0 rfl rfl<|vg (DDag.opn 2 rfl) fun g959 h960=>?_
 refine el H fun t961 h962 H=>cll 4 [0,1,2,3] cal183 (Tr.weak (member_Joined.c h962 (b0_:=g959.1) (v0_0:=g959.2)) (.cons (wk_ptr h960) (.cons wk_id .nil))) ?_
 refine as0 rfl rfl<|.fin<|wg (DDag.shut (p:=v958) (m:=t956) (g959.1,g959.2) h960 (pm 4 [0,1,2,3])) fun _ _=>?_
 refine wg (mpl_back0 (view_View_room.r h957) (pm 3 [2,0,1])) fun _ _=>?_
 cases H.out; exact rt i2 rfl () 2 [1,0] 0 (.cons (res_tmp rfl) .nil)
theorem view_View_RoomsOf_1.c {k:Nat} {a0:ByteArray} {cb0_ cd0_:Nat} {cq0_ cv0_0:OV} {ch0_:cq0_.1 = .pointer (some ⟨cd0_,0,none⟩)} {c0:VView} {c1:ByteArray} {r:Bool} (h:view_View_RoomsOf_1.f k a0 c0 c1 = some r):Tr Tryz.prog 172 [vS a0,eq (.pointer (some ⟨cb0_,0,none⟩)),rp [vS c1]] [blk cb0_ 26 [eq cq0_.1],blk cd0_ 95 [eq cv0_0.1],mpo Value.string DDag.O cv0_0.1 c0.fdags] (γ:=Unit) (fun _=>True) (fun g=>vB r) (fun g=>[blk cb0_ 26 [eq cq0_.1],blk cd0_ 95 [eq cv0_0.1],mpo Value.string DDag.O cv0_0.1 c0.fdags]):=by
 unfold view_View_RoomsOf_1.f at h
 refine Tr.body Tryz.func172 (c:=_) rfl Tryz.ntmps172 (Nat.le_of_ble_eq_true rfl) fun R0 F=>?_
 replace h:=Gets.of h
 have H:=h
 clear h
 refine WP.seq<|rg 1 0<|as0 rfl rfl<|.fin<|WP.seq<|rg 6 0<|ld 0 rfl trivial rfl sc26 rfl rfl<|mv0 rfl rfl<|ldR rfl trivial rfl sc9 rfl<|el H fun t963 h964 H=>cll 3 [1,2,0] cal173 (Tr.weak (view_View_Joined.c h964 (b0_:=cd0_) (v0_0:=cv0_0)) (.cons (wk_ptr ch0_) (.cons wk_id (.cons wk_id .nil)))) ?_
 refine un0 rfl rfl (run_not _)<|as0 rfl rfl<|.fin ?_
 cases H.out; exact rt i2 rfl () 3 [0,1,2] 0 (.cons (res_tmp rfl) .nil)
theorem view_View_RoomsOf.c {k:Nat} {a0:VView} {a1:ByteArray} {p0_:OV} {r:(List ByteArray)} (h:view_View_RoomsOf.f k a0 a1 = some r):Tr Tryz.prog 161 [eq p0_.1,vS a1] [VView.O p0_ a0] (γ:=OV) (fun _=>True) (fun g=>eq g.1) (fun g=>[VView.O p0_ a0,own strK g.1 r]):=by
 unfold view_View_RoomsOf.f at h
 refine Tr.body Tryz.func161 (c:=_) rfl Tryz.ntmps161 (Nat.le_of_ble_eq_true rfl) fun R0 F=>?_
 replace h:=Gets.of h
 have H:=h
 clear h
 refine WP.seq<|rg 3 3<|Dv.box rfl trivial rfl (cells_one one_ov) nofun fun b965=>Dv.box rfl trivial rfl cE nofun fun b966=>as0 rfl rfl<|.fin<|WP.seq<|rg 5 10<|ld 1 rfl trivial rfl sc26 rfl rfl<|vg (VView.opn 2 rfl) fun g967 h968=>?_
 refine el H fun t969 h970 H=>cx 4 [0,1,2,3] cal171 (Tr.weak (view_View_Rooms.c h970 (b0_:=g967.1) (v0_0:=g967.2)) (.cons (wk_ptr h968) .nil)) nofun fun g971 _=>?_
 refine Dv.gh (gh_frzb (E':=[(0,eq p0_.1),(1,vS a1),(2,eq (.pointer (some ⟨b965,0,none⟩))),(3,rp [vS a1]),(4,eq (.slice none 0 0)),(6,eq g971.1)]) (l':=[blk g967.1 95 [eq g967.2.1],mpo Value.string DDag.O g967.2.1 a0.fdags,own strK g971.1 t969,blk b965 26 [eq p0_.1]]++F) 3 rfl (cve_cons rfl cv_id (cve_cons rfl cv_id (cve_cons rfl cv_id (cve_cons rfl cv_eq (cve_cons rfl cv_id (cve_cons rfl cv_id cve_nil)))))) (all2_app (.cons cva_id (.cons cva_id (.cons cva_id (.cons cva_id .nil)))) fun _=>cva_id)) (fun _ _=>?_)
 refine Dv.mkx (Q:=fqQ_string_bool (fun a0_=>view_View_RoomsOf_1.f k a0_ a0 a1)) (L:=[blk b965 26 [eq p0_.1],blk g967.1 95 [eq g967.2.1],mpo Value.string DDag.O g967.2.1 a0.fdags]) cal172 (by rintro _ _ ⟨a0_,r_,h_,rfl,rfl⟩; exact view_View_RoomsOf_1.c h_ (cb0_:=b965) (cq0_:=p0_) (cd0_:=g967.1) (ch0_:=h968) (cv0_0:=g967.2)) rfl trivial rfl rfl<|el H fun t972 h973 H=>cx 4 [2,3,0,1] cal170 (Tr.unpko (A:=[own strK g971.1 t969]) (L:=[blk b965 26 [eq p0_.1],blk g967.1 95 [eq g967.2.1],mpo Value.string DDag.O g967.2.1 a0.fdags]) (B:=fun g974:OV=>[own strK g974.1 t972]) (slices_DeleteFunc_string_xo.c h973 (p0_:=g971) (X1_:=(pk [blk b965 26 [eq p0_.1],blk g967.1 95 [eq g967.2.1],mpo Value.string DDag.O g967.2.1 a0.fdags])))) nofun fun g974 _=>?_
 refine as0 rfl rfl<|.fin<|wg (VView.shut (p:=p0_) (m:=a0) (g967.1,g967.2) h968 (pm 4 [1,2,0,3])) fun _ _=>?_
 obtain rfl:=Gets.out H
 exact rt i2 rfl g974 3 [1,0,2] 1 (.cons (res_tmp rfl) .nil)
theorem view_View_Peers.c {k:Nat} {a0:VView} {a1:ByteArray} {p0_:OV} {r:(List ByteArray)} (h:view_View_Peers.f k a0 a1 = some r):Tr Tryz.prog 144 [eq p0_.1,vS a1] [VView.O p0_ a0] (γ:=OV) (fun _=>True) (fun g=>eq g.1) (fun g=>[VView.O p0_ a0,own strK g.1 r]):=by
 unfold view_View_Peers.f at h
 refine Tr.body Tryz.func144 (c:=_) rfl Tryz.ntmps144 (Nat.le_of_ble_eq_true rfl) fun R0 F=>?_
 replace h:=Gets.of h
 have H:=h
 clear h
 refine WP.seq<|rg 1 0<|as0 rfl rfl<|.fin<|WP.seq<|rg 1 0<|as0 rfl rfl<|.fin<|WP.seqn H (fun q1001:(Int×Int×Bool×(List ByteArray)×(List ByteArray))×OV×OV=>q1001.1) (fun q1001:(Int×Int×Bool×(List ByteArray)×(List ByteArray))×OV×OV=>[(0,eq p0_.1),(1,vS a1),(4,eq (.slice none 0 0)),(5,eq q1001.2.1.1),(10,eq q1001.2.2.1),(11,vI q1001.1.1),(12,vI q1001.1.2.1),(13,vB q1001.1.2.2.1)]) (fun q1001:(Int×Int×Bool×(List ByteArray)×(List ByteArray))×OV×OV=>[VView.O p0_ a0,own strK q1001.2.1.1 q1001.1.2.2.2.1,own strK q1001.2.2.1 q1001.1.2.2.2.2]++F) (fun q1001 H=>?_) (fun H=>?_)
 ·
  obtain ⟨p975,v976,v977⟩:=q1001
  refine WP.seq<|rg 2 2<|mv0 rfl rfl<|el H fun t978 h979 H=>cx 3 [1,0,2] cal162 (slices_Sort_string.c h979 (p0_:=v976)) nofun fun _ _=>?_
  refine .fin<|WP.seq<|rg 3 2<|mv0 rfl rfl<|el H fun t980 h981 H=>cx 3 [0,1,2] cal163 (slices_Compact_string.c h981 (p0_:=v976)) nofun fun g982 _=>?_
  refine as0 rfl rfl<|.fin ?_
  obtain rfl:=Gets.out H
  exact rt i2 rfl g982 3 [2,1,0] 1 (.cons (res_tmp rfl) .nil)
 refine WP.seq<|rg 5 4<|mv0 rfl rfl<|mv0 rfl rfl<|el H fun t983 h984 H=>cx 1 [0] cal161 (view_View_RoomsOf.c h984 (p0_:=p0_)) nofun fun g985 _=>?_
 refine Dv.lenw rfl trivial rfl (mem_at 1 rfl) Tryz.underlying53<|mv0 rfl rfl<|.fin<|WP.block<|wg (st_nil strK none) fun _ _=>?_
 refine wg (sg 3 [1,2,0] 0) fun _ _=>?_
 refine lp (fun j_ (p1000:Int×(List ByteArray)×OV)=>view_View_Peers.l0 k a0 t983 j_ p1000.1 p1000.2.1) (0,([]:List ByteArray),nilV) H (fun p1000=>[(0,eq p0_.1),(1,vS a1),(4,eq (.slice none 0 0)),(5,eq p1000.2.2.1),(10,eq g985.1),(11,vI (t983.length:Int)),(12,vI p1000.1)]) (fun p1000=>[VView.O p0_ a0,own strK g985.1 t983,own strK p1000.2.2.1 p1000.2.1]++F) ?_
 rintro j_ ⟨x986,x987,v988⟩ H
 rcases j_ with _ | j999
 ·
  exact (Gets.no H).elim
 replace H:Gets (view_View_Peers.l0 k a0 t983 (j999 + 1) x986 x987) _:=H
 rw [view_View_Peers.l0] at H
 refine WP.seq<|rg 1 0<|bn0 rfl rfl rfl run_lt<|.fin<|WP.seq<|cd H rfl (fun _ H=>?_) (fun _ H=>?_)
 rotate_left
 ·
  refine WP.exit ?_
  have H:=H.out
  refine ng (sg 3 [0,2,1] 0) fun _ _=>?_
  exact jn (((t983.length:Int),x986,decide (x986 < (t983.length:Int)),x987,t983),v988,g985) H
 refine WP.skip<|WP.seq<|WP.block<|WP.seq<|rg 3 0<|gr H fun g990 H=>?_
 have h991:x986.toNat < t983.length:=idx_lt g990
 refine Dv.ixw rfl trivial rfl (mem_at 1 rfl) rfl Tryz.underlying53 Tryz.underlying9 c9 g990.1 g990.2<|Dv.ldw (j:=x986.toNat) (f:=0) (p:=vS (t983.getD x986.toNat default)) rfl trivial rfl (mem_at 1 rfl) h991 Tryz.underlying9 rfl rfl<|as0 rfl rfl<|.fin<|rg 6 24<|mv0 rfl rfl<|mv0 rfl rfl<|mv0 rfl rfl<|vg (VView.opn 0 rfl) fun g992 h993=>?_
 refine el H fun t994 h995 H=>cx 4 [0,1,2,3] cal145 (Tr.weak (view_View_Servers.c h995 (b0_:=g992.1) (v0_0:=g992.2)) (.cons (wk_ptr h993) (.cons wk_id .nil))) nofun fun g996 _=>?_
 refine gr H fun g997 H=>ap strK 4 t994 (src_own (mem_at 2 rfl)) Tryz.underlying53 (.inr ⟨_,Tryz.underlying53⟩) inf9 g997 nofun fun v998=>?_
 refine as0 rfl rfl<|.fin<|rg 2 0<|bn0 rfl rfl rfl run_add<|mv0 rfl rfl<|.fin<|ng (VView.shut (p:=p0_) (m:=a0) (g992.1,g992.2) h993 (pm 5 [0,1,2,3,4])) fun _ _=>?_
 refine ng (sg 4 [1,0,2,3] 1) fun _ _=>?_
 exact bk j999 (w64 (x986 + 1),x987++t994,v998) H
theorem gate_reached.c {k:Nat} {a0:VView} {a1:Edu} {p0_:OV} {r:(List ByteArray)} (h:gate_reached.f k a0 a1 = some r):Tr Tryz.prog 114 [eq p0_.1,agg (Edu.enc a1)] [VView.O p0_ a0] (γ:=OV) (fun _=>True) (fun g=>eq g.1) (fun g=>[VView.O p0_ a0,own strK g.1 r]):=by
 unfold gate_reached.f at h
 refine Tr.body Tryz.func114 (c:=_) rfl Tryz.ntmps114 (Nat.le_of_ble_eq_true rfl) fun R0 F=>?_
 replace h:=Gets.of h
 have H:=h
 clear h
 refine WP.seq<|rg 2 1<|Dv.box rfl trivial rfl cA nofun fun b1002=>as0 rfl rfl<|.fin<|WP.seq<|WP.block<|WP.seq<|rg 4 0<|lds 0 rfl trivial rfl sg32 rfl rfl<|el H fun t1003 h1004 H=>cl rfl cal42 rfl (edu_May.c h1004)<|un0 rfl rfl (run_not _)<|as0 rfl rfl<|.fin<|cd H rfl (fun _ H=>?_) (fun _ H=>?_)
 ·
  refine WP.seq<|rg 1 0<|as0 rfl rfl<|.fin<|wg (st_nil strK none) fun _ _=>?_
  obtain rfl:=Gets.out H
  exact rt i2 rfl nilV 3 [1,2,0] 1 (.cons (res_tmp rfl) .nil)
 refine WP.seq<|rg 4 0<|fb rfl trivial rfl fa32_0<|ld 0 rfl trivial rfl sc3 rfl rfl<|bn0 rfl rfl rfl run_eq<|as0 rfl rfl<|.fin<|cd H rfl (fun _ H=>?_) (fun _ H=>?_)
 ·
  refine WP.seq<|rg 5 8<|mv0 rfl rfl<|fb rfl trivial rfl fa32_2<|ld 0 rfl trivial rfl sc9 rfl rfl<|el H fun t1007 h1008 H=>cx 2 [1,0] cal144 (view_View_Peers.c h1008 (p0_:=p0_)) nofun fun g1009 _=>?_
  refine as0 rfl rfl<|.fin ?_
  obtain rfl:=Gets.out H
  exact rt i2 rfl g1009 3 [2,0,1] 1 (.cons (res_tmp rfl) .nil)
 refine WP.skip<|WP.seq<|rg 5 8<|mv0 rfl rfl<|fb rfl trivial rfl fa32_1<|ld 0 rfl trivial rfl sc9 rfl rfl<|vg (VView.opn 1 rfl) fun g1010 h1011=>?_
 refine el H fun t1012 h1013 H=>cx 3 [0,1,2] cal145 (Tr.weak (view_View_Servers.c h1013 (b0_:=g1010.1) (v0_0:=g1010.2)) (.cons (wk_ptr h1011) (.cons wk_id .nil))) nofun fun g1014 _=>?_
 refine as0 rfl rfl<|.fin<|wg (VView.shut (p:=p0_) (m:=a0) (g1010.1,g1010.2) h1011 (pm 4 [0,1,2,3])) fun _ _=>?_
 obtain rfl:=Gets.out H
 exact rt i2 rfl g1014 3 [2,0,1] 1 (.cons (res_tmp rfl) .nil)
theorem gate_Passes.c {k:Nat} {a0:VView} {a1:ByteArray} {a2:Edu} {p0_:OV} {r:Bool} (h:gate_Passes.f k a0 a1 a2 = some r):Tr Tryz.prog 84 [eq p0_.1,vS a1,agg (Edu.enc a2)] [VView.O p0_ a0] (γ:=Unit) (fun _=>True) (fun g=>vB r) (fun g=>[VView.O p0_ a0]):=by
 unfold gate_Passes.f at h
 refine Tr.body Tryz.func84 (c:=_) rfl Tryz.ntmps84 (Nat.le_of_ble_eq_true rfl) fun R0 F=>?_
 replace h:=Gets.of h
 have H:=h
 clear h
 refine WP.seq<|rg 2 1<|Dv.box rfl trivial rfl cA nofun fun b1015=>as0 rfl rfl<|.fin<|WP.seq<|rg 6 4<|mv0 rfl rfl<|lds 0 rfl trivial rfl sg32 rfl rfl<|el H fun t1016 h1017 H=>cx 2 [1,0] cal114 (gate_reached.c h1017 (p0_:=p0_)) nofun fun g1018 _=>?_
 refine mv0 rfl rfl<|el H fun t1019 h1020 H=>cll (B:=[own strK g1018.1 t1016]) 3 [1,0,2] cal113 (Pt.lend _ (slices_Contains_string.c h1020) (.cons (lt_own (mem_at 0 rfl)) (.cons lt_id .nil)) flat_eq) ?_
 refine as0 rfl rfl<|.fin ?_
 cases H.out; exact rt i2 rfl () 3 [1,2,0] 2 (.cons (res_tmp rfl) .nil)
theorem gate_Choose_1.c {k:Nat} {a0:Edu} {cb0_:Nat} {cq0_:OV} {c0:VView} {c1:ByteArray} {r:Bool} (h:gate_Choose_1.f k a0 c0 c1 = some r):Tr Tryz.prog 83 [agg (Edu.enc a0),eq (.pointer (some ⟨cb0_,0,none⟩)),rp [vS c1]] [blk cb0_ 26 [eq cq0_.1],VView.O cq0_ c0] (γ:=Unit) (fun _=>True) (fun g=>vB r) (fun g=>[blk cb0_ 26 [eq cq0_.1],VView.O cq0_ c0]):=by
 unfold gate_Choose_1.f at h
 refine Tr.body Tryz.func83 (c:=_) rfl Tryz.ntmps83 (Nat.le_of_ble_eq_true rfl) fun R0 F=>?_
 replace h:=Gets.of h
 have H:=h
 clear h
 refine WP.seq<|rg 2 1<|Dv.box rfl trivial rfl cA nofun fun b1021=>as0 rfl rfl<|.fin<|WP.seq<|rg 6 8<|ld 1 rfl trivial rfl sc26 rfl rfl<|ldR rfl trivial rfl sc9 rfl<|lds 0 rfl trivial rfl sg32 rfl rfl<|el H fun t1022 h1023 H=>cx 3 [2,0,1] cal84 (gate_Passes.c h1023 (p0_:=cq0_)) nofun fun _ _=>?_
 refine un0 rfl rfl (run_not _)<|as0 rfl rfl<|.fin ?_
 cases H.out; exact rt i2 rfl () 3 [1,2,0] 1 (.cons (res_tmp rfl) .nil)
theorem gate_Choose.c {k:Nat} {a0:VView} {a1:ByteArray} {a2:List Edu} {p0_:OV} {r:(List Edu)} (h:gate_Choose.f k a0 a1 a2 = some r):Tr Tryz.prog 49 [eq p0_.1,vS a1,sl Edu.K a2] [VView.O p0_ a0] (γ:=Unit) (fun _=>True) (fun g=>sl Edu.K r) (fun g=>[VView.O p0_ a0]):=by
 unfold gate_Choose.f at h
 refine Tr.body Tryz.func49 (c:=_) rfl Tryz.ntmps49 (Nat.le_of_ble_eq_true rfl) fun R0 F=>?_
 replace h:=Gets.of h
 have H:=h
 clear h
 refine WP.seq<|rg 3 3<|Dv.box rfl trivial rfl (cells_one one_ov) nofun fun b1024=>Dv.box rfl trivial rfl cE nofun fun b1025=>as0 rfl rfl<|.fin<|WP.seq<|rg 5 10<|mv0 rfl rfl<|el H fun t1026 h1027 H=>cx 3 [0,1,2] cal80 (slices_Clone_Edu.c h1027) nofun fun g1028 _=>?_
 refine Dv.gh (gh_frzb (E':=[(0,eq p0_.1),(1,vS a1),(2,sl Edu.K a2),(3,eq (.pointer (some ⟨b1024,0,none⟩))),(4,rp [vS a1]),(6,eq (.slice none 0 0)),(8,eq g1028.1)]) (l':=[own Edu.K g1028.1 t1026,blk b1024 26 [eq p0_.1],VView.O p0_ a0]++F) 1 rfl (cve_cons rfl cv_id (cve_cons rfl cv_id (cve_cons rfl cv_id (cve_cons rfl cv_id (cve_cons rfl cv_eq (cve_cons rfl cv_id (cve_cons rfl cv_id cve_nil))))))) (all2_app (.cons cva_id (.cons cva_id (.cons cva_id .nil))) fun _=>cva_id)) (fun _ _=>?_)
 refine Dv.mkx (Q:=fqQ_api_Edu_bool (fun a0_=>gate_Choose_1.f k a0_ a0 a1)) (L:=[blk b1024 26 [eq p0_.1],VView.O p0_ a0]) cal83 (by rintro _ _ ⟨a0_,r_,h_,rfl,rfl⟩; exact gate_Choose_1.c h_ (cb0_:=b1024) (cq0_:=p0_)) rfl trivial rfl rfl<|el H fun t1029 h1030 H=>cx 3 [0,1,2] cal82 (Tr.unpko (A:=[own Edu.K g1028.1 t1026]) (L:=[blk b1024 26 [eq p0_.1],VView.O p0_ a0]) (B:=fun g1031:OV=>[own Edu.K g1031.1 t1029]) (slices_DeleteFunc_Edu_xo.c h1030 (p0_:=g1028) (X1_:=(pk [blk b1024 26 [eq p0_.1],VView.O p0_ a0])))) nofun fun g1031 _=>?_
 refine as0 rfl rfl<|.fin<|WP.gh (gh_frz (E':=[(6,sl Edu.K t1029)]) (l':=[blk b1024 26 [eq p0_.1],VView.O p0_ a0]++F) 2 rfl (cve_cons rfl cv_eq cve_nil) (all2_app (.cons cva_id (.cons cva_id .nil)) fun _=>cva_id)) (fun _ _=>?_)
 cases H.out; exact rt i2 rfl () 2 [0,1] 1 (.cons (res_tmp rfl) .nil)
theorem clock_Backoff.c {k:Nat} {a0:Int} {r:Int} (h:clock_Backoff.f k a0 = some r):Pt Tryz.prog 53 [vI a0] (vI r):=by
 unfold clock_Backoff.f at h
 refine pb Tryz.func53 Tryz.ntmps53 h fun R0 F H=>?_
 refine WP.seq<|rg 1 0<|as0 rfl rfl<|.fin<|WP.seq<|rg 1 0<|as0 rfl rfl<|.fin<|WP.seqn H id (fun p1032:Int×Int×Bool=>[(0,vI a0),(2,vI 0),(3,vI p1032.1),(6,vI (min (max a0 0) 9)),(7,vI p1032.2.1),(8,vB p1032.2.2)]) (fun p1032:Int×Int×Bool=>F) (fun p1032 H=>?_) (fun H=>?_)
 ·
  refine WP.seq<|rg 2 0<|mv0 rfl rfl<|as0 rfl rfl<|.fin ?_
  cases H.out; exact r0 i2 rfl (.cons (res_tmp rfl) .nil)
 refine WP.seq<|rg 4 0<|mv0 rfl rfl<|Dv.maxi rfl trivial rfl rfl<|Dv.mini rfl trivial rfl rfl<|mv0 rfl rfl<|.fin<|WP.block<|wg (sg 0 [] 0) fun _ _=>?_
 refine lp (fun j_ (p1037:Int×Int)=>clock_Backoff.l0 k a0 j_ p1037.1 p1037.2) (1,0) H (fun p1037=>[(0,vI a0),(2,vI 0),(3,vI p1037.1),(6,vI (min (max a0 0) 9)),(7,vI p1037.2)]) (fun p1037=>F) ?_
 rintro j_ ⟨x1033,x1034⟩ H
 rcases j_ with _ | j1036
 ·
  exact (Gets.no H).elim
 replace H:Gets (clock_Backoff.l0 k a0 (j1036 + 1) x1033 x1034) _:=H
 rw [clock_Backoff.l0] at H
 refine WP.seq<|rg 1 0<|bn0 rfl rfl rfl run_lt<|.fin<|WP.seq<|cd H rfl (fun _ H=>?_) (fun _ H=>?_)
 rotate_left
 ·
  refine WP.exit ?_
  have H:=H.out
  exact jn (x1033,x1034,decide (x1034 < (min (max a0 0) 9))) H
 exact WP.skip<|WP.seq<|WP.block<|rg 4 0<|mv0 rfl rfl<|bn0 rfl rfl rfl run_mul<|Dv.mini rfl trivial rfl rfl<|as0 rfl rfl<|.fin<|rg 2 0<|bn0 rfl rfl rfl run_add<|mv0 rfl rfl<|.fin<|bk j1036 (min (w64 (2 * x1033)) 16,w64 (x1034 + 1)) H
theorem sender_Sender_again.c {k:Nat} {a0:SSnd} {a1:VView} {a2:Int} {p0_ p1_:OV} {r:Bool×SSnd} (h:sender_Sender_again.f k a0 a1 a2 = some r):Tr Tryz.prog 46 [eq p0_.1,eq p1_.1,vI a2] [SSnd.O p0_ a0,VView.O p1_ a1] (γ:=Unit) (fun _=>True) (fun g=>vB r.1) (fun g=>[SSnd.O p0_ r.2,VView.O p1_ a1]):=by
 unfold sender_Sender_again.f at h
 refine Tr.body Tryz.func46 (c:=_) rfl Tryz.ntmps46 (Nat.le_of_ble_eq_true rfl) fun R0 F=>?_
 replace h:=Gets.of h
 have H:=h
 clear h
 refine WP.seq<|rg 1 0<|as0 rfl rfl<|.fin<|WP.seq<|wg (SSnd.opn 0 rfl) fun g1038 h1039=>?_
 refine gr H fun g1040 H=>wg (opt_some 3 rfl (isN g1040)) fun _ _=>?_
 refine wg (Fly.opn 0 rfl) fun g1041 h1042=>?_
 refine dg Tryz.checked.mixed 15 8192<|mv0 rfl rfl<|mv0 rfl rfl<|Dv.nilpp h1039 rfl trivial rfl<|fp h1039 rfl trivial rfl fa40_2<|ld 1 rfl trivial rfl sc9 rfl rfl<|mv0 rfl rfl<|Dv.nilpp h1039 rfl trivial rfl<|fp h1039 rfl trivial rfl fa40_4<|ld 1 rfl trivial rfl sc38 rfl rfl<|Dv.nilpp h1042 rfl trivial rfl<|fp h1042 rfl trivial rfl fa111_0<|fb rfl trivial rfl fa46_4<|ld 0 rfl trivial rfl sc23 rfl rfl<|el H fun t1043 h1044 H=>cx 5 [4,0,1,2,3] cal49 (gate_Choose.c h1044 (p0_:=p1_)) pC fun _ _=>?_
 refine as0 rfl rfl<|.fin<|WP.seq<|WP.seq<|rg 3 0<|mv0 rfl rfl<|Dv.lenl rfl trivial rfl Tryz.underlying23<|bn0 rfl rfl rfl run_eq<|.fin<|cd H rfl (fun _ H=>?_) (fun _ H=>?_)
 ·
  refine WP.seq<|rg 4 8<|mv0 rfl rfl<|Dv.nilpp h1039 rfl trivial rfl<|fp h1039 rfl trivial rfl fa40_4<|sx 2 rfl trivial rfl rfl cE sz38 rfl rfl rfl nofun ?_
  refine .fin<|WP.seq<|rg 1 0<|as0 rfl rfl<|.fin<|wg (st_nilP (O:=Fly.O)) fun _ _=>?_
  refine wg (SSnd.shut (p:=p0_) (m:=(⟨a0.fQueue,a0.fself,a0.fto,a0.fids,none⟩:SSnd)) (g1038.1,g1038.2.1,g1038.2.2.1,nilP) h1039 (pm 6 [3,4,5,0,1,2])) fun _ _=>?_
  refine wg (Fly.shut (p:=g1038.2.2.2) (m:=a0.fair.getD default) g1041 h1042 (pm 3 [2,0,1])) fun _ _=>?_
  refine wg (opt_back0 (O:=Fly.O) (o:=a0.fair) (isN g1040) 0 rfl) fun _ _=>?_
  cases H.out; exact rt i2 rfl () 3 [0,1,2] 1 (.cons (res_tmp rfl) .nil)
 refine WP.skip<|WP.seq<|rg 9 256<|mv0 rfl rfl<|Dv.nilpp h1039 rfl trivial rfl<|fp h1039 rfl trivial rfl fa40_4<|ld 2 rfl trivial rfl sc38 rfl rfl<|mv0 rfl rfl<|Dv.nilpp h1042 rfl trivial rfl<|fp h1042 rfl trivial rfl fa111_0<|fb rfl trivial rfl fa46_4<|sx 1 rfl trivial rfl rfl (cells_one one_sl) sz23 rfl rfl rfl nofun ?_
 refine .fin<|WP.seq<|rg 11 1024<|mv0 rfl rfl<|Dv.nilpp h1039 rfl trivial rfl<|fp h1039 rfl trivial rfl fa40_4<|ld 2 rfl trivial rfl sc38 rfl rfl<|Dv.nilpp h1042 rfl trivial rfl<|fp h1042 rfl trivial rfl fa111_1<|ld 1 rfl trivial rfl sc3 rfl rfl<|bn0 rfl rfl rfl run_add<|Dv.nilpp h1042 rfl trivial rfl<|fp h1042 rfl trivial rfl fa111_1<|sx 1 rfl trivial rfl rfl cE sz3 rfl rfl rfl nofun ?_
 refine .fin<|WP.seq<|dg Tryz.checked.mixed 17 65536<|mv0 rfl rfl<|Dv.nilpp h1039 rfl trivial rfl<|fp h1039 rfl trivial rfl fa40_4<|ld 2 rfl trivial rfl sc38 rfl rfl<|mv0 rfl rfl<|mv0 rfl rfl<|Dv.nilpp h1039 rfl trivial rfl<|fp h1039 rfl trivial rfl fa40_4<|ld 2 rfl trivial rfl sc38 rfl rfl<|Dv.nilpp h1042 rfl trivial rfl<|fp h1042 rfl trivial rfl fa111_1<|ld 1 rfl trivial rfl sc3 rfl rfl<|el H fun t1046 h1047 H=>cl rfl cal53 rfl (clock_Backoff.c h1047)<|bn0 rfl rfl rfl run_add<|Dv.nilpp h1042 rfl trivial rfl<|fp h1042 rfl trivial rfl fa111_2<|sx 1 rfl trivial rfl rfl cE sz3 rfl rfl rfl pB ?_
 refine .fin<|WP.seq<|rg 1 0<|as0 rfl rfl<|.fin<|wg (Fly.shut (p:=g1038.2.2.2) (m:=(⟨(⟨((a0.fair.getD default).fp).fAck,((a0.fair.getD default).fp).fFrom,((a0.fair.getD default).fp).fTo,((a0.fair.getD default).fp).fID,t1043⟩:Par),w64 (((a0.fair.getD default).ftries) + 1),w64 (a2 + t1046)⟩:Fly)) g1041 h1042 (pm 5 [1,0,2,3,4])) fun _ _=>?_
 refine wg (opt_back1 (O:=Fly.O) 0 rfl) fun _ _=>?_
 refine wg (SSnd.shut (p:=p0_) (m:=(⟨a0.fQueue,a0.fself,a0.fto,a0.fids,some (⟨(⟨((a0.fair.getD default).fp).fAck,((a0.fair.getD default).fp).fFrom,((a0.fair.getD default).fp).fTo,((a0.fair.getD default).fp).fID,t1043⟩:Par),w64 (((a0.fair.getD default).ftries) + 1),w64 (a2 + t1046)⟩:Fly)⟩:SSnd)) (g1038.1,g1038.2.1,g1038.2.2.1,g1038.2.2.2) h1039 (pm 5 [2,3,4,0,1])) fun _ _=>?_
 cases H.out; exact rt i2 rfl () 2 [0,1] 0 (.cons (res_tmp rfl) .nil)
theorem sender_Sender_told.c {a0:SSnd} {v0_0 v0_1 v0_2 v0_3 v0_4:OV} {b0_ d0_0 d0_1:Nat} {e0_0:v0_0.1 = .pointer (some ⟨d0_0,0,none⟩)} {e0_1:v0_1.1 = .pointer (some ⟨d0_1,0,none⟩)} {r:Par} (h:sender_Sender_told.f a0 = some r):Tr Tryz.prog 47 [eq (.pointer (some ⟨b0_,0,none⟩))] [blk b0_ 40 [eq v0_0.1,vS a0.fself,vS a0.fto,eq v0_1.1,eq v0_2.1],blk d0_0 107 [vI a0.fQueue.fmost,eq v0_3.1,eq v0_4.1,vI a0.fQueue.flost],own EKey.K v0_3.1 a0.fQueue.fkeys,mp EKey.kv (fun x:Edu=>agg (Edu.enc x)) v0_4.1 a0.fQueue.fat,blk d0_1 173 [vI a0.fids.fn.fv,vI a0.fids.fmost],optO Fly.O v0_2 a0.fair] (γ:=Unit) (fun _=>True) (fun g=>agg (Par.enc r)) (fun g=>[blk b0_ 40 [eq v0_0.1,vS a0.fself,vS a0.fto,eq v0_1.1,eq v0_2.1],blk d0_0 107 [vI a0.fQueue.fmost,eq v0_3.1,eq v0_4.1,vI a0.fQueue.flost],own EKey.K v0_3.1 a0.fQueue.fkeys,mp EKey.kv (fun x:Edu=>agg (Edu.enc x)) v0_4.1 a0.fQueue.fat,blk d0_1 173 [vI a0.fids.fn.fv,vI a0.fids.fmost],optO Fly.O v0_2 a0.fair]):=by
 unfold sender_Sender_told.f at h
 refine Tr.body Tryz.func47 (c:=_) rfl Tryz.ntmps47 (Nat.le_of_ble_eq_true rfl) fun R0 F=>?_
 replace h:=Gets.of h
 have H:=h
 clear h
 refine WP.seq<|rg 1 1<|al rfl trivial zc46 nofun fun b1048=>.fin<|WP.seq<|rg 9 384<|mv0 rfl rfl<|Dv.nilp rfl trivial rfl<|fb rfl trivial rfl fa40_4<|ld 1 rfl trivial rfl sc38 rfl rfl<|gr H fun g1049 H=>vg (opt_some 6 rfl (isN g1049)) fun _ _=>?_
 refine Dv.nilA Fly.nn rfl trivial rfl (mem_at 0 rfl)<|vg (Fly.opn 0 rfl) fun g1050 h1051=>?_
 refine fp h1051 rfl trivial rfl fa111_0<|lds 0 rfl trivial rfl sg46 rfl rfl<|al rfl trivial zc46 nofun fun b1052=>sx 0 rfl trivial rfl rfl cA sz46 rfl rfl rfl nofun ?_
 refine .fin<|WP.seq<|rg 5 20<|fb rfl trivial rfl fa46_4<|ld 0 rfl trivial rfl sc23 rfl rfl<|el H fun t1053 h1054 H=>cx 8 [0,1,2,3,4,5,6,7] cal80 (slices_Clone_Edu.c h1054) nofun fun g1055 _=>?_
 refine fb rfl trivial rfl fa46_4<|sx 1 rfl trivial rfl rfl (cells_one one_ov) sz23 rfl rfl rfl nofun ?_
 refine .fin<|WP.seq<|rg 2 2<|lds 1 rfl trivial rfl sg46 rfl rfl<|sx 3 rfl trivial rfl rfl cA sz46 rfl rfl rfl nofun ?_
 refine .fin<|wg (Fly.shut (p:=v0_2) (m:=a0.fair.getD default) g1050 h1051 (pm 9 [2,0,1,3,4,5,6,7,8])) fun _ _=>?_
 refine wg (opt_back0 (O:=Fly.O) (o:=a0.fair) (isN g1049) 0 rfl) fun _ _=>?_
 refine WP.gh (gh_frz (E':=[(2,eq (.pointer (some ⟨b1048,0,none⟩)))]) (l':=[optO Fly.O v0_2 a0.fair,blk b1052 46 [vB (((a0.fair.getD default).fp).fAck),vS (((a0.fair.getD default).fp).fFrom),vS (((a0.fair.getD default).fp).fTo),vI (((a0.fair.getD default).fp).fID),sl Edu.K t1053],blk b1048 46 [vB (((a0.fair.getD default).fp).fAck),vS (((a0.fair.getD default).fp).fFrom),vS (((a0.fair.getD default).fp).fTo),vI (((a0.fair.getD default).fp).fID),sl Edu.K t1053],blk b0_ 40 [eq v0_0.1,vS a0.fself,vS a0.fto,eq v0_1.1,eq v0_2.1],blk d0_0 107 [vI a0.fQueue.fmost,eq v0_3.1,eq v0_4.1,vI a0.fQueue.flost],own EKey.K v0_3.1 a0.fQueue.fkeys,mp EKey.kv (fun x:Edu=>agg (Edu.enc x)) v0_4.1 a0.fQueue.fat,blk d0_1 173 [vI a0.fids.fn.fv,vI a0.fids.fmost]]++F) 1 rfl (cve_cons rfl cv_id cve_nil) (all2_app (.cons cva_id (.cons (cva_blk (.cons cv_id (.cons cv_id (.cons cv_id (.cons cv_id (.cons cv_eq .nil)))))) (.cons (cva_blk (.cons cv_id (.cons cv_id (.cons cv_id (.cons cv_id (.cons cv_eq .nil)))))) (.cons cva_id (.cons cva_id (.cons cva_id (.cons cva_id (.cons cva_id .nil)))))))) fun _=>cva_id)) (fun _ _=>?_)
 cases H.out; exact rt i2 rfl () 8 [1,2,3,4,5,6,7,0] 2 (.cons (res_cells rfl Tryz.underlying46 rfl c46 (mem_at 2 rfl) rfl) .nil)
theorem slices_ContainsFunc_Edu_x.c {k:Nat} {a0:List Edu} {a1:(Edu→Option Bool)} {X1_:As} {r:Bool} (h:slices_ContainsFunc_Edu_x.f k a0 a1 = some r):Tr Tryz.prog 66 [sl Edu.K a0,fx_api_Edu_bool X1_ a1] [X1_] (γ:=Unit) (fun _=>True) (fun g=>vB r) (fun g=>[X1_]):=by
 unfold slices_ContainsFunc_Edu_x.f at h
 refine Tr.body Tryz.func66 (c:=_) rfl Tryz.ntmps66 (Nat.le_of_ble_eq_true rfl) fun R0 F=>?_
 replace h:=Gets.of h
 have H:=h
 clear h
 refine WP.seq<|rg 1 0<|as0 rfl rfl<|.fin<|WP.seq<|rg 5 0<|mv0 rfl rfl<|mv0 rfl rfl<|el H fun t1058 h1059 H=>cll 1 [0] cal101 (slices_IndexFunc_Edu_x.c h1059 (X1_:=X1_)) ?_
 refine bn0 rfl rfl rfl run_ge<|as0 rfl rfl<|.fin ?_
 cases H.out; exact rt i2 rfl () 1 [0] 0 (.cons (res_tmp rfl) .nil)
theorem queue_Queue_Keep_1.c {a0:Edu} {c0:Edu} {r:Bool} (h:queue_Queue_Keep_1.f a0 c0 = some r):Pt Tryz.prog 81 [agg (Edu.enc a0),rp [vI c0.fKind,vS c0.fRoom,vS c0.fUser,vS c0.fEvent,vS c0.fThread,vB c0.fPrivate,vB c0.fOn,vI c0.fSpan,vI c0.fState,vI c0.fTick,vI c0.fStamp]] (vB r):=by
 unfold queue_Queue_Keep_1.f at h
 refine pb Tryz.func81 Tryz.ntmps81 h fun R0 F H=>?_
 refine WP.seq<|rg 2 1<|Dv.box rfl trivial rfl cA nofun fun b1062=>as0 rfl rfl<|.fin<|WP.seq<|rg 6 0<|lds 0 rfl trivial rfl sg32 rfl rfl<|Dv.blda (qs:=[vI a0.fKind,vS a0.fRoom,vS a0.fUser,vS a0.fEvent,vS a0.fThread,vB a0.fPrivate,vB a0.fOn,vI a0.fSpan,vI a0.fState,vI a0.fTick,vI a0.fStamp]) (css:=[Edu.enc a0]) rfl trivial Tryz.underlying150 Tryz.underlying32 c32 z150 rfl ⟨(cells_agg (Edu.K.one _)),trivial⟩ rfl rfl<|ldsR rfl trivial rfl sg32 rfl<|Dv.blda (qs:=[vI c0.fKind,vS c0.fRoom,vS c0.fUser,vS c0.fEvent,vS c0.fThread,vB c0.fPrivate,vB c0.fOn,vI c0.fSpan,vI c0.fState,vI c0.fTick,vI c0.fStamp]) (css:=[Edu.enc c0]) rfl trivial Tryz.underlying150 Tryz.underlying32 c32 z150 rfl ⟨(cells_agg (Edu.K.one _)),trivial⟩ rfl rfl<|Dv.eqs [.int .i64 a0.fKind,.string a0.fRoom,.string a0.fUser,.string a0.fEvent,.string a0.fThread,.bool a0.fPrivate,.bool a0.fOn,.int .i64 a0.fSpan,.int .i64 a0.fState,.int .i64 a0.fTick,.int .i64 a0.fStamp] [.int .i64 c0.fKind,.string c0.fRoom,.string c0.fUser,.string c0.fEvent,.string c0.fThread,.bool c0.fPrivate,.bool c0.fOn,.int .i64 c0.fSpan,.int .i64 c0.fState,.int .i64 c0.fTick,.int .i64 c0.fStamp] rfl trivial rfl rfl rfl rfl eg150 (fun _=>equal_of 3 (by decide) (fun _=>eq_arr1 Tryz.underlying150 Tryz.underlying32 rfl c32 rfl rfl (eqt32 a0 c0)))<|as0 rfl rfl<|.fin ?_
 cases H.out; exact r1 i2 rfl (.cons (res_tmp rfl) .nil)
theorem queue_Queue_Keep.c {k:Nat} {a0:SQue} {a1:List Edu} {p0_:OV} {r:SQue} (h:queue_Queue_Keep.f k a0 a1 = some r):Tr Tryz.prog 48 [eq p0_.1,sl Edu.K a1] [SQue.O p0_ a0] (γ:=Unit) (fun _=>True) (fun g=>tup []) (fun g=>[SQue.O p0_ r]):=by
 unfold queue_Queue_Keep.f at h
 refine Tr.body Tryz.func48 (c:=_) rfl Tryz.ntmps48 (Nat.le_of_ble_eq_true rfl) fun R0 F=>?_
 replace h:=Gets.of h
 have H:=h
 clear h
 refine WP.seq<|rg 4 0<|mv0 rfl rfl<|vg (SQue.opn 0 rfl) fun g1063 h1064=>?_
 refine el H fun t1065 h1066 H=>cll 3 [0,1,2] cal18 (Tr.weak (queue_Queue_All.c h1066 (b0_:=g1063.1) (v0_0:=g1063.2.1) (v0_1:=g1063.2.2)) (.cons (wk_ptr h1064) .nil)) ?_
 refine Dv.lenl rfl trivial rfl Tryz.underlying23<|mv0 rfl rfl<|.fin<|WP.block<|wg (SQue.shut (p:=p0_) (m:=a0) (g1063.1,g1063.2.1,g1063.2.2) h1064 (pm 3 [0,1,2])) fun _ _=>?_
 refine wg (sg 1 [0] 0) fun _ _=>?_
 refine lp (fun j_ (p1080:Int×SQue)=>queue_Queue_Keep.l0 k a1 t1065 j_ p1080.1 p1080.2) (0,a0) H (fun p1080=>[(0,eq p0_.1),(1,sl Edu.K a1),(8,sl Edu.K t1065),(9,vI (t1065.length:Int)),(10,vI p1080.1)]) (fun p1080=>[SQue.O p0_ p1080.2]++F) ?_
 rintro j_ ⟨x1067,x1068⟩ H
 rcases j_ with _ | j1079
 ·
  exact (Gets.no H).elim
 replace H:Gets (queue_Queue_Keep.l0 k a1 t1065 (j1079 + 1) x1067 x1068) _:=H
 rw [queue_Queue_Keep.l0] at H
 refine WP.seq<|rg 1 0<|bn0 rfl rfl rfl run_lt<|.fin<|WP.seq<|cd H rfl (fun _ H=>?_) (fun _ H=>?_)
 rotate_left
 ·
  refine WP.exit ?_
  obtain rfl:=Gets.out H
  exact re rfl () 1 [0] 0 .nil
 refine WP.skip<|WP.seq<|WP.block<|WP.seq<|rg 4 12<|gr H fun g1070 H=>Dv.ixr rfl trivial rfl rfl Tryz.underlying23 Tryz.underlying32 c32 g1070.1 g1070.2<|ldsR rfl trivial rfl sg32 rfl<|al rfl trivial zc32 nofun fun b1071=>sx 0 rfl trivial rfl rfl cA sz32 rfl rfl rfl nofun ?_
 refine .fin<|WP.seq<|rg 2 0<|Dv.gh (gh_frzb (E':=[(0,eq p0_.1),(1,sl Edu.K a1),(5,rp [vI ((Edu.K.at t1065 x1067).fKind),vS ((Edu.K.at t1065 x1067).fRoom),vS ((Edu.K.at t1065 x1067).fUser),vS ((Edu.K.at t1065 x1067).fEvent),vS ((Edu.K.at t1065 x1067).fThread),vB ((Edu.K.at t1065 x1067).fPrivate),vB ((Edu.K.at t1065 x1067).fOn),vI ((Edu.K.at t1065 x1067).fSpan),vI ((Edu.K.at t1065 x1067).fState),vI ((Edu.K.at t1065 x1067).fTick),vI ((Edu.K.at t1065 x1067).fStamp)]),(8,sl Edu.K t1065),(9,vI (t1065.length:Int)),(10,vI x1067),(11,vB (decide (x1067 < (t1065.length:Int))))]) (l':=[SQue.O p0_ x1068]++F) 0 rfl (cve_cons rfl cv_id (cve_cons rfl cv_id (cve_cons rfl cv_eq (cve_cons rfl cv_id (cve_cons rfl cv_id (cve_cons rfl cv_id (cve_cons rfl cv_id cve_nil))))))) (all2_app (.cons cva_id .nil) fun _=>cva_id)) (fun _ _=>?_)
 refine Dv.mkx (Q:=fqQ_api_Edu_bool (fun a0_=>queue_Queue_Keep_1.f a0_ (Edu.K.at t1065 x1067))) (L:=[]) cal81 (by rintro _ _ ⟨a0_,r_,h_,rfl,rfl⟩; exact (queue_Queue_Keep_1.c h_).tr) rfl trivial rfl rfl<|as0 rfl rfl<|.fin<|WP.seq<|rg 4 0<|mv0 rfl rfl<|mv0 rfl rfl<|el H fun t1072 h1073 H=>cl rfl cal66 rfl ((Tr.unpkr (A:=[]) (L:=[]) (slices_ContainsFunc_Edu_x.c h1073 (X1_:=(pk [])))).pt)<|un0 rfl rfl (run_not _)<|.fin<|cd H rfl (fun _ H=>?_) (fun _ H=>?_)
 rotate_left
 ·
  exact WP.skip<|rg 2 0<|bn0 rfl rfl rfl run_add<|mv0 rfl rfl<|.fin<|bk j1079 (w64 (x1067 + 1),x1068) H
 refine rg 4 8<|mv0 rfl rfl<|ldsR rfl trivial rfl sg32 rfl<|el H fun t1075 h1076 H=>cl rfl cal43 rfl (edu_Of.c h1076)<|el H fun t1077 h1078 H=>cx 1 [0] cal45 (queue_Queue_drop.c h1078 (p0_:=p0_)) nofun fun _ _=>?_
 exact .fin<|rg 2 0<|bn0 rfl rfl rfl run_add<|mv0 rfl rfl<|.fin<|bk j1079 (w64 (x1067 + 1),t1077) H
theorem queue_Queue_Len.c {a0:SQue} {v0_0 v0_1:OV} {b0_:Nat} {r:Int} (h:queue_Queue_Len.f a0 = some r):Tr Tryz.prog 50 [eq (.pointer (some ⟨b0_,0,none⟩))] [blk b0_ 107 [vI a0.fmost,eq v0_0.1,eq v0_1.1,vI a0.flost],own EKey.K v0_0.1 a0.fkeys,mp EKey.kv (fun x:Edu=>agg (Edu.enc x)) v0_1.1 a0.fat] (γ:=Unit) (fun _=>True) (fun g=>vI r) (fun g=>[blk b0_ 107 [vI a0.fmost,eq v0_0.1,eq v0_1.1,vI a0.flost],own EKey.K v0_0.1 a0.fkeys,mp EKey.kv (fun x:Edu=>agg (Edu.enc x)) v0_1.1 a0.fat]):=by
 unfold queue_Queue_Len.f at h
 refine Tr.body Tryz.func50 (c:=_) rfl Tryz.ntmps50 (Nat.le_of_ble_eq_true rfl) fun R0 F=>?_
 replace h:=Gets.of h
 have H:=h
 clear h
 refine WP.seq<|rg 1 0<|as0 rfl rfl<|.fin<|WP.seq<|rg 6 0<|mv0 rfl rfl<|Dv.nilp rfl trivial rfl<|fb rfl trivial rfl fa107_1<|ld 0 rfl trivial rfl sc104 rfl rfl<|Dv.lenw rfl trivial rfl (mem_at 1 rfl) Tryz.underlying104<|as0 rfl rfl<|.fin ?_
 cases H.out; exact rt i2 rfl () 3 [0,1,2] 0 (.cons (res_tmp rfl) .nil)
theorem atomic_Int64_Load.c {b off:Nat} {bT:TypeId} {qs:Cs} {n:Int} (h0:qs[off]? = some (vI n)):Tr Tryz.prog 115 [eq (.pointer (some ⟨b,off,none⟩))] [blk b bT qs] (γ:=Unit) (fun _=>True) (fun _=>vI n) (fun _=>[blk b bT qs]):=by
 exact Tr.body Tryz.func115 (c:=_) rfl Tryz.ntmps115 (Nat.le_of_ble_eq_true rfl) fun R0 F=>WP.seq<|WP.reg [(0,false)] (by kernel_rfl)<|as0 rfl rfl<|.fin<|WP.seq<|WP.reg [(0,false),(1,false),(2,false),(3,false),(4,false)] (by kernel_rfl)<|mv0 rfl rfl<|Dv.nilp rfl trivial rfl<|fb rfl trivial rfl fa171_2<|Dv.cextr (A:=blk b bT qs) rfl trivial rfl (xt_load h0 Tryz.func146 (by kernel_rfl) rfl xf146 xg146) (mem_at 0 rfl)<|as0 rfl rfl<|.fin<|rt i2 rfl () 1 [0] 0 (.cons (res_tmp rfl) .nil)
theorem atomic_Int64_CompareAndSwap.c {b off:Nat} {bT:TypeId} {qs:Cs} {n m:Int} (h0:qs[off]? = some (vI n)):Tr Tryz.prog 116 [eq (.pointer (some ⟨b,off,none⟩)),vI n,vI m] [blk b bT qs] (γ:=Unit) (fun _=>True) (fun _=>vB true) (fun _=>[blk b bT (qs.set off (vI m))]):=by
 exact Tr.body Tryz.func116 (c:=_) rfl Tryz.ntmps116 (Nat.le_of_ble_eq_true rfl) fun R0 F=>WP.seq<|WP.reg [(0,false)] (by kernel_rfl)<|as0 rfl rfl<|.fin<|WP.seq<|WP.reg [(0,false),(1,false),(2,false),(3,false),(4,false),(5,true),(6,false)] (by kernel_rfl)<|mv0 rfl rfl<|Dv.nilp rfl trivial rfl<|fb rfl trivial rfl fa171_2<|mv0 rfl rfl<|mv0 rfl rfl<|Dv.cextb (jj:=0) (qs:=qs) rfl trivial rfl (xt_cas h0 Tryz.func147 (by kernel_rfl) rfl xf147 xg147) rfl nofun<|as0 rfl rfl<|.fin<|rt i2 rfl () 1 [0] 0 (.cons (res_tmp rfl) .nil)
theorem clock_Counter_Add.c {k:Nat} {a0:Ctr} {a1:Int} {p0_:OV} {r:Int×Int×Ctr} (h:clock_Counter_Add.f k a0 a1 = some r):Tr Tryz.prog 85 [eq p0_.1,vI a1] [Ctr.O p0_ a0] (γ:=Unit) (fun _=>True) (fun g=>tup [vI r.1,vI r.2.1]) (fun g=>[Ctr.O p0_ r.2.2]):=by
 unfold clock_Counter_Add.f at h
 refine Tr.body Tryz.func85 (c:=_) rfl Tryz.ntmps85 (Nat.le_of_ble_eq_true rfl) fun R0 F=>?_
 replace h:=Gets.of h
 have H:=h
 clear h
 refine WP.seq<|rg 2 0<|as0 rfl rfl<|as0 rfl rfl<|.fin<|WP.seq<|WP.seq<|rg 2 0<|mv0 rfl rfl<|bn0 rfl rfl rfl run_lt<|.fin<|cd H rfl (fun _ H=>?_) (fun _ H=>?_)
 ·
  refine WP.seq<|rg 2 0<|as0 rfl rfl<|as0 rfl rfl<|.fin ?_
  cases H.out; exact rt i2 rfl () 1 [0] 0 (.cons (res_tmp rfl) (.cons (res_tmp rfl) .nil))
 refine WP.skip<|WP.block<|wg (sg 1 [0] 0) fun _ _=>?_
 refine lp (fun j_ (p1102:Unit)=>clock_Counter_Add.l0 k a0 a1 j_) () H (fun p1102=>[(0,eq p0_.1),(1,vI a1),(4,vI 0),(5,vI 0),(9,vB (decide (a1 < 0)))]) (fun p1102=>[Ctr.O p0_ a0]++F) ?_
 rintro j_ ⟨⟩ H
 rcases j_ with _ | j1101
 ·
  exact (Gets.no H).elim
 replace H:Gets (clock_Counter_Add.l0 k a0 a1 (j1101 + 1)) _:=H
 rw [clock_Counter_Add.l0] at H
 refine WP.block<|WP.seq<|rg 5 0<|mv0 rfl rfl<|Dv.nilA Ctr.nn rfl trivial rfl (mem_at 0 rfl)<|vg (Ctr.opn 0 rfl) fun g1082 h1083=>?_
 refine fp h1083 rfl trivial rfl fa173_0<|cll 1 [0] cal115 (atomic_Int64_Load.c (b:=g1082) (off:=0) (bT:=173) (qs:=[vI a0.fn.fv,vI a0.fmost]) (n:=a0.fn.fv) rfl) ?_
 refine as0 rfl rfl<|.fin<|WP.seq<|WP.seq<|rg 10 0<|mv0 rfl rfl<|bn0 rfl rfl rfl run_gt<|mv0 rfl rfl ?_
 cases c1084:decide (0 < a1)
 ·
  have H:=H.cf c1084
  refine sk rfl rfl<|sk rfl rfl<|sk rfl rfl<|sk rfl rfl<|sk rfl rfl<|sk rfl rfl<|pf0 rfl rfl rfl<|.fin<|WP.cond rfl nofun (fun _=>?_)
  refine WP.skip<|WP.seq<|rg 5 0<|mv0 rfl rfl<|Dv.nilpp h1083 rfl trivial rfl<|fp h1083 rfl trivial rfl fa173_1<|ld 0 rfl trivial rfl sc2 rfl rfl<|as0 rfl rfl<|.fin<|WP.seqn H id (fun p1094:Int=>[(0,eq p0_.1),(1,vI a1),(4,vI 0),(5,vI 0),(6,vI a0.fn.fv),(7,vI p1094),(9,vB (decide (a1 < 0))),(23,vB false),(35,vB (decide (a1 < (w64 (a0.fmost - a0.fn.fv)))))]) (fun p1094:Int=>[Ctr.O p0_ a0]++F) (fun p1094 H=>?_) (fun H=>?_)
  rotate_left
  ·
   refine WP.seq<|rg 8 0<|mv0 rfl rfl<|mv0 rfl rfl<|Dv.nilpp h1083 rfl trivial rfl<|fp h1083 rfl trivial rfl fa173_1<|ld 0 rfl trivial rfl sc2 rfl rfl<|mv0 rfl rfl<|bn0 rfl rfl rfl run_sub<|bn0 rfl rfl rfl run_lt<|.fin<|cd H rfl (fun _ H=>?_) (fun _ H=>?_)
   rotate_left
   ·
    refine WP.skip ?_
    have H:=H.out
    refine ng (Ctr.shut (p:=p0_) (m:=a0) g1082 h1083 (pm 1 [0])) fun _ _=>?_
    exact jn a0.fmost H
   refine rg 4 0<|mv0 rfl rfl<|mv0 rfl rfl<|bn0 rfl rfl rfl run_add<|as0 rfl rfl<|.fin ?_
   have H:=H.out
   refine ng (Ctr.shut (p:=p0_) (m:=a0) g1082 h1083 (pm 1 [0])) fun _ _=>?_
   exact jn (w64 (a0.fn.fv + a1)) H
  refine WP.seq<|rg 10 256<|mv0 rfl rfl<|bn0 rfl rfl rfl run_eq<|mv0 rfl rfl ?_
  cases c1095:(a1 == 0)
  rotate_left
  ·
   have H:=H.ct c1095
   refine sk rfl rfl<|sk rfl rfl<|sk rfl rfl<|sk rfl rfl<|sk rfl rfl<|Dv.skipb rfl ⟨_,_,rfl,rfl,.inl rfl⟩ nofun<|pt0 rfl rfl rfl<|.fin<|WP.cond rfl (fun _=>?_) nofun
   refine WP.seq<|rg 3 0<|mv0 rfl rfl<|as0 rfl rfl<|as0 rfl rfl<|.fin ?_
   cases H.out; exact rt i2 rfl () 1 [0] 0 (.cons (res_tmp rfl) (.cons (res_tmp rfl) .nil))
  have H:=H.cf c1095
  refine mvg rfl rfl rfl<|Dv.nilA Ctr.nn rfl (gg rfl) rfl (mem_at 0 rfl)<|vg (Ctr.opn 0 rfl) fun g1097 h1098=>?_
  refine fp h1098 rfl (gg rfl) rfl fa173_0<|mvg rfl rfl rfl<|mvg rfl rfl rfl<|cx 1 [0] cal116 (atomic_Int64_CompareAndSwap.c (b:=g1097) (off:=0) (bT:=173) (qs:=[vI a0.fn.fv,vI a0.fmost]) (n:=a0.fn.fv) (m:=p1094) rfl) nofun fun _ _=>?_
  refine pf0 rfl rfl rfl<|.fin<|WP.cond rfl (fun _=>?_) nofun
  refine WP.seq<|rg 3 0<|mv0 rfl rfl<|as0 rfl rfl<|as0 rfl rfl<|.fin<|wg (Ctr.shut (p:=p0_) (m:=(⟨(⟨p1094⟩:AtI),a0.fmost⟩:Ctr)) g1097 h1098 (pm 1 [0])) fun _ _=>?_
  cases H.out; exact rt i2 rfl () 1 [0] 0 (.cons (res_tmp rfl) (.cons (res_tmp rfl) .nil))
 have H:=H.ct c1084
 refine mvg rfl rfl rfl<|mvg rfl rfl rfl<|Dv.nilpp h1083 rfl (gg rfl) rfl<|fp h1083 rfl (gg rfl) rfl fa173_1<|ld 0 rfl (gg rfl) rfl sc2 rfl rfl<|bng rfl rfl rfl rfl run_eq<|pt0 rfl rfl rfl<|.fin<|cd H rfl (fun _ H=>?_) (fun _ H=>?_)
 ·
  refine WP.seq<|rg 2 0<|as0 rfl rfl<|as0 rfl rfl<|.fin<|wg (Ctr.shut (p:=p0_) (m:=a0) g1082 h1083 (pm 1 [0])) fun _ _=>?_
  cases H.out; exact rt i2 rfl () 1 [0] 0 (.cons (res_tmp rfl) (.cons (res_tmp rfl) .nil))
 refine WP.skip<|WP.seq<|rg 5 0<|mv0 rfl rfl<|Dv.nilpp h1083 rfl trivial rfl<|fp h1083 rfl trivial rfl fa173_1<|ld 0 rfl trivial rfl sc2 rfl rfl<|as0 rfl rfl<|.fin<|WP.seqn H id (fun p1086:Int=>[(0,eq p0_.1),(1,vI a1),(4,vI 0),(5,vI 0),(6,vI a0.fn.fv),(7,vI p1086),(9,vB (decide (a1 < 0))),(23,vB (a0.fn.fv == a0.fmost)),(35,vB (decide (a1 < (w64 (a0.fmost - a0.fn.fv)))))]) (fun p1086:Int=>[Ctr.O p0_ a0]++F) (fun p1086 H=>?_) (fun H=>?_)
 rotate_left
 ·
  refine WP.seq<|rg 8 0<|mv0 rfl rfl<|mv0 rfl rfl<|Dv.nilpp h1083 rfl trivial rfl<|fp h1083 rfl trivial rfl fa173_1<|ld 0 rfl trivial rfl sc2 rfl rfl<|mv0 rfl rfl<|bn0 rfl rfl rfl run_sub<|bn0 rfl rfl rfl run_lt<|.fin<|cd H rfl (fun _ H=>?_) (fun _ H=>?_)
  rotate_left
  ·
   refine WP.skip ?_
   have H:=H.out
   refine ng (Ctr.shut (p:=p0_) (m:=a0) g1082 h1083 (pm 1 [0])) fun _ _=>?_
   exact jn a0.fmost H
  refine rg 4 0<|mv0 rfl rfl<|mv0 rfl rfl<|bn0 rfl rfl rfl run_add<|as0 rfl rfl<|.fin ?_
  have H:=H.out
  refine ng (Ctr.shut (p:=p0_) (m:=a0) g1082 h1083 (pm 1 [0])) fun _ _=>?_
  exact jn (w64 (a0.fn.fv + a1)) H
 refine WP.seq<|rg 10 256<|mv0 rfl rfl<|bn0 rfl rfl rfl run_eq<|mv0 rfl rfl ?_
 cases c1087:(a1 == 0)
 rotate_left
 ·
  have H:=H.ct c1087
  refine sk rfl rfl<|sk rfl rfl<|sk rfl rfl<|sk rfl rfl<|sk rfl rfl<|Dv.skipb rfl ⟨_,_,rfl,rfl,.inl rfl⟩ nofun<|pt0 rfl rfl rfl<|.fin<|WP.cond rfl (fun _=>?_) nofun
  refine WP.seq<|rg 3 0<|mv0 rfl rfl<|as0 rfl rfl<|as0 rfl rfl<|.fin ?_
  cases H.out; exact rt i2 rfl () 1 [0] 0 (.cons (res_tmp rfl) (.cons (res_tmp rfl) .nil))
 have H:=H.cf c1087
 refine mvg rfl rfl rfl<|Dv.nilA Ctr.nn rfl (gg rfl) rfl (mem_at 0 rfl)<|vg (Ctr.opn 0 rfl) fun g1089 h1090=>?_
 refine fp h1090 rfl (gg rfl) rfl fa173_0<|mvg rfl rfl rfl<|mvg rfl rfl rfl<|cx 1 [0] cal116 (atomic_Int64_CompareAndSwap.c (b:=g1089) (off:=0) (bT:=173) (qs:=[vI a0.fn.fv,vI a0.fmost]) (n:=a0.fn.fv) (m:=p1086) rfl) nofun fun _ _=>?_
 refine pf0 rfl rfl rfl<|.fin<|WP.cond rfl (fun _=>?_) nofun
 refine WP.seq<|rg 3 0<|mv0 rfl rfl<|as0 rfl rfl<|as0 rfl rfl<|.fin<|wg (Ctr.shut (p:=p0_) (m:=(⟨(⟨p1086⟩:AtI),a0.fmost⟩:Ctr)) g1089 h1090 (pm 1 [0])) fun _ _=>?_
 cases H.out; exact rt i2 rfl () 1 [0] 0 (.cons (res_tmp rfl) (.cons (res_tmp rfl) .nil))
theorem clock_Counter_Next.c {k:Nat} {a0:Ctr} {p0_:OV} {r:Int×Int×Ctr} (h:clock_Counter_Next.f k a0 = some r):Tr Tryz.prog 51 [eq p0_.1] [Ctr.O p0_ a0] (γ:=Unit) (fun _=>True) (fun g=>tup [vI r.1,vI r.2.1]) (fun g=>[Ctr.O p0_ r.2.2]):=by
 unfold clock_Counter_Next.f at h
 refine Tr.body Tryz.func51 (c:=_) rfl Tryz.ntmps51 (Nat.le_of_ble_eq_true rfl) fun R0 F=>?_
 replace h:=Gets.of h
 have H:=h
 clear h
 refine WP.seq<|rg 2 0<|as0 rfl rfl<|as0 rfl rfl<|.fin<|WP.seq<|rg 6 2<|mv0 rfl rfl<|el H fun t1103 h1104 H=>cx 1 [0] cal85 (clock_Counter_Add.c h1104 (p0_:=p0_)) nofun fun _ _=>?_
 refine ex0 rfl trivial rfl rfl<|ex0 rfl trivial rfl rfl<|as0 rfl rfl<|as0 rfl rfl<|.fin ?_
 cases H.out; exact rt i2 rfl () 1 [0] 0 (.cons (res_tmp rfl) (.cons (res_tmp rfl) .nil))
theorem queue_Queue_Take.c {k:Nat} {a0:SQue} {a1:Int} {p0_:OV} {r:(List Edu)×SQue} (h:queue_Queue_Take.f k a0 a1 = some r):Tr Tryz.prog 52 [eq p0_.1,vI a1] [SQue.O p0_ a0] (γ:=Unit) (fun _=>True) (fun g=>sl Edu.K r.1) (fun g=>[SQue.O p0_ r.2]):=by
 unfold queue_Queue_Take.f at h
 refine Tr.body Tryz.func52 (c:=_) rfl Tryz.ntmps52 (Nat.le_of_ble_eq_true rfl) fun R0 F=>?_
 replace h:=Gets.of h
 have H:=h
 clear h
 refine WP.seq<|rg 1 0<|as0 rfl rfl<|.fin<|WP.seq<|rg 3 0<|mv0 rfl rfl<|vg (SQue.opn 0 rfl) fun g1105 h1106=>?_
 refine el H fun t1107 h1108 H=>cll 3 [0,1,2] cal18 (Tr.weak (queue_Queue_All.c h1108 (b0_:=g1105.1) (v0_0:=g1105.2.1) (v0_1:=g1105.2.2)) (.cons (wk_ptr h1106) .nil)) ?_
 refine as0 rfl rfl<|.fin<|WP.seq<|rg 8 0<|mv0 rfl rfl<|mv0 rfl rfl<|Dv.maxi rfl trivial rfl rfl<|mv0 rfl rfl<|Dv.lenl rfl trivial rfl Tryz.underlying23<|Dv.mini rfl trivial rfl rfl<|gr H fun g1109 H=>Dv.sls rfl trivial rfl Tryz.underlying23 Tryz.underlying32 c32 bdE_none (bdE_some rfl g1109.1) g1109.2.1 g1109.2.2<|as0 rfl rfl<|.fin<|WP.seqn H id (fun p1110:Int×Bool×SQue=>[(0,eq p0_.1),(1,vI a1),(4,eq (.slice none 0 0)),(5,sl Edu.K ((t1107.take ((min (max a1 0) (t1107.length:Int)).toNat)).drop 0)),(17,sl Edu.K ((t1107.take ((min (max a1 0) (t1107.length:Int)).toNat)).drop 0)),(18,vI (((t1107.take ((min (max a1 0) (t1107.length:Int)).toNat)).drop 0).length:Int)),(19,vI p1110.1),(20,vB p1110.2.1)]) (fun p1110:Int×Bool×SQue=>[SQue.O p0_ p1110.2.2]++F) (fun p1110 H=>?_) (fun H=>?_)
 ·
  refine WP.seq<|rg 2 0<|mv0 rfl rfl<|as0 rfl rfl<|.fin ?_
  cases H.out; exact rt i2 rfl () 1 [0] 0 (.cons (res_tmp rfl) .nil)
 refine WP.seq<|rg 3 0<|mv0 rfl rfl<|Dv.lenl rfl trivial rfl Tryz.underlying23<|mv0 rfl rfl<|.fin<|WP.block<|wg (SQue.shut (p:=p0_) (m:=a0) (g1105.1,g1105.2.1,g1105.2.2) h1106 (pm 3 [0,1,2])) fun _ _=>?_
 refine wg (sg 1 [0] 0) fun _ _=>?_
 refine lp (fun j_ (p1121:Int×SQue)=>queue_Queue_Take.l0 k a1 t1107 j_ p1121.1 p1121.2) (0,a0) H (fun p1121=>[(0,eq p0_.1),(1,vI a1),(4,eq (.slice none 0 0)),(5,sl Edu.K ((t1107.take ((min (max a1 0) (t1107.length:Int)).toNat)).drop 0)),(17,sl Edu.K ((t1107.take ((min (max a1 0) (t1107.length:Int)).toNat)).drop 0)),(18,vI (((t1107.take ((min (max a1 0) (t1107.length:Int)).toNat)).drop 0).length:Int)),(19,vI p1121.1)]) (fun p1121=>[SQue.O p0_ p1121.2]++F) ?_
 rintro j_ ⟨x1111,x1112⟩ H
 rcases j_ with _ | j1120
 ·
  exact (Gets.no H).elim
 replace H:Gets (queue_Queue_Take.l0 k a1 t1107 (j1120 + 1) x1111 x1112) _:=H
 rw [queue_Queue_Take.l0] at H
 refine WP.seq<|rg 1 0<|bn0 rfl rfl rfl run_lt<|.fin<|WP.seq<|cd H rfl (fun _ H=>?_) (fun _ H=>?_)
 rotate_left
 ·
  refine WP.exit ?_
  have H:=H.out
  exact jn (x1111,decide (x1111 < (((t1107.take ((min (max a1 0) (t1107.length:Int)).toNat)).drop 0).length:Int)),x1112) H
 refine WP.skip<|WP.seq<|WP.block<|WP.seq<|rg 4 12<|gr H fun g1114 H=>Dv.ixr rfl trivial rfl rfl Tryz.underlying23 Tryz.underlying32 c32 g1114.1 g1114.2<|ldsR rfl trivial rfl sg32 rfl<|al rfl trivial zc32 nofun fun b1115=>sx 0 rfl trivial rfl rfl cA sz32 rfl rfl rfl nofun ?_
 refine .fin<|rg 4 8<|mv0 rfl rfl<|lds 0 rfl trivial rfl sg32 rfl rfl<|el H fun t1116 h1117 H=>cl rfl cal43 rfl (edu_Of.c h1117)<|el H fun t1118 h1119 H=>cx 2 [1,0] cal45 (queue_Queue_drop.c h1119 (p0_:=p0_)) nofun fun _ _=>?_
 refine .fin<|rg 2 0<|bn0 rfl rfl rfl run_add<|mv0 rfl rfl<|.fin<|ng (sg 2 [1,0] 1) fun _ _=>?_
 exact bk j1120 (w64 (x1111 + 1),t1118) H
theorem sender_Sender_Send.c {k:Nat} {a0:SSnd} {a1:VView} {a2:Int} {p0_ p1_:OV} {r:Par×Bool×Int×SSnd} (h:sender_Sender_Send.f k a0 a1 a2 = some r):Tr Tryz.prog 15 [eq p0_.1,eq p1_.1,vI a2] [SSnd.O p0_ a0,VView.O p1_ a1] (γ:=Unit) (fun _=>True) (fun g=>tup [agg (Par.enc r.1),vB r.2.1,vI r.2.2.1]) (fun g=>[SSnd.O p0_ r.2.2.2,VView.O p1_ a1]):=by
 unfold sender_Sender_Send.f at h
 refine Tr.body Tryz.func15 (c:=_) rfl Tryz.ntmps15 (Nat.le_of_ble_eq_true rfl) fun R0 F=>?_
 replace h:=Gets.of h
 have H:=h
 clear h
 refine WP.seq<|rg 3 1<|al rfl trivial zc46 nofun fun b1122=>as0 rfl rfl<|as0 rfl rfl<|.fin<|WP.seqr H id (fun p1123:SSnd=>[(0,eq p0_.1),(1,eq p1_.1),(2,vI a2),(6,eq (.pointer (some ⟨b1122,0,none⟩))),(7,vB false),(8,vI 0),(16,vB (!a0.fair.isNone))]) (fun p1123:SSnd=>[blk b1122 46 [vB false,vS (⟨#[]⟩:ByteArray),vS (⟨#[]⟩:ByteArray),vI 0,eq (.slice none 0 0)],SSnd.O p0_ p1123,VView.O p1_ a1]++F) (fun p1123 H=>?_) (fun H=>?_)
 rotate_left
 ·
  refine WP.seq<|rg 5 0<|mv0 rfl rfl<|Dv.nilA SSnd.nn rfl trivial rfl (mem_at 1 rfl)<|vg (SSnd.opn 1 rfl) fun g1154 h1155=>?_
  refine fp h1155 rfl trivial rfl fa40_4<|ld 0 rfl trivial rfl sc38 rfl rfl<|Dv.one0 (fun _=>Fly.nn) rfl trivial rfl rfl Tryz.underlying38 (mem_at 3 rfl)<|.fin<|cd H rfl (fun c1156 H=>?_) (fun _ H=>?_)
  rotate_left
  ·
   refine WP.skip ?_
   have H:=H.out
   refine ng (SSnd.shut (p:=p0_) (m:=a0) (g1154.1,g1154.2.1,g1154.2.2.1,g1154.2.2.2) h1155 (pm 6 [0,1,2,3,4,5])) fun _ _=>?_
   refine ng (sg 3 [1,0,2] 0) fun _ _=>?_
   exact jn a0 H
  refine wg (opt_some 3 rfl (by simpa using c1156)) fun _ _=>?_
  refine WP.seq<|WP.seq<|rg 9 0<|mv0 rfl rfl<|mv0 rfl rfl<|Dv.nilpp h1155 rfl trivial rfl<|fp h1155 rfl trivial rfl fa40_4<|ld 1 rfl trivial rfl sc38 rfl rfl<|Dv.nilA Fly.nn rfl trivial rfl (mem_at 0 rfl)<|vg (Fly.opn 0 rfl) fun g1157 h1158=>?_
  refine fp h1158 rfl trivial rfl fa111_2<|ld 0 rfl trivial rfl sc3 rfl rfl<|bn0 rfl rfl rfl run_lt<|.fin<|cd H rfl (fun _ H=>?_) (fun _ H=>?_)
  ·
   refine WP.seq<|rg 4 2<|Dv.bld (qs:=[vB false,vS (⟨#[]⟩:ByteArray),vS (⟨#[]⟩:ByteArray),vI 0,eq (.slice none 0 0)]) (css:=[]) rfl trivial Tryz.underlying46 pl46 z46 rfl trivial rfl rfl<|sx 4 rfl trivial rfl rfl cA sz46 rfl rfl rfl nofun ?_
   refine as0 rfl rfl<|as0 rfl rfl<|.fin<|wg (Fly.shut (p:=g1154.2.2.2) (m:=a0.fair.getD default) g1157 h1158 (pm 6 [0,1,2,3,4,5])) fun _ _=>?_
   refine wg (opt_back0 (O:=Fly.O) (o:=a0.fair) (by simpa using c1156) 0 rfl) fun _ _=>?_
   refine wg (SSnd.shut (p:=p0_) (m:=a0) (g1154.1,g1154.2.1,g1154.2.2.1,g1154.2.2.2) h1155 (pm 6 [1,2,3,0,4,5])) fun _ _=>?_
   have H:=H.outr
   cases H.out; exact rt i2 rfl () 3 [1,0,2] 1 (.cons (res_wk (res_cells rfl Tryz.underlying46 rfl c46 (mem_at 1 rfl) rfl) (wk_agg (.cons wk_id (.cons wk_id (.cons wk_id (.cons wk_id (.cons wk_nil .nil))))))) (.cons (res_tmp rfl) (.cons (res_tmp rfl) .nil)))
  refine WP.skip<|WP.seq<|rg 4 8<|mv0 rfl rfl<|mv0 rfl rfl<|mv0 rfl rfl<|vg (Fly.shut (p:=g1154.2.2.2) (m:=a0.fair.getD default) g1157 h1158 (pm 6 [0,1,2,3,4,5])) fun _ _=>?_
  refine vg (opt_back0 (O:=Fly.O) (o:=a0.fair) (by simpa using c1156) 0 rfl) fun _ _=>?_
  refine vg (SSnd.shut (p:=p0_) (m:=a0) (g1154.1,g1154.2.1,g1154.2.2.1,g1154.2.2.2) h1155 (pm 6 [1,2,3,0,4,5])) fun _ _=>?_
  refine el H fun t1160 h1161 H=>cx 3 [0,2,1] cal46 (sender_Sender_again.c h1161 (p0_:=p0_) (p1_:=p1_)) nofun fun _ _=>?_
  refine .fin<|cd H rfl (fun _ H=>?_) (fun _ H=>?_)
  rotate_left
  ·
   refine WP.skip ?_
   have H:=H.out
   refine ng (sg 3 [2,0,1] 0) fun _ _=>?_
   exact jn t1160.2 H
  refine WP.seq<|rg 5 4<|mv0 rfl rfl<|vg (SSnd.opn 0 rfl) fun g1163 h1164=>?_
  refine vg (SQue.opn 1 rfl) fun g1165 h1166=>?_
  refine vg (Ctr.opn 4 rfl) fun g1167 h1168=>?_
  refine el H fun t1169 h1170 H=>cll 8 [4,1,2,3,0,5,6,7] cal47 (Tr.weak (sender_Sender_told.c h1170 (b0_:=g1163.1) (v0_0:=g1163.2.1) (v0_1:=g1163.2.2.1) (v0_2:=g1163.2.2.2) (v0_3:=g1165.2.1) (v0_4:=g1165.2.2) (d0_0:=g1165.1) (e0_0:=h1166) (d0_1:=g1167) (e0_1:=h1168)) (.cons (wk_ptr h1164) .nil)) ?_
  refine sx 7 rfl trivial rfl rfl cA sz46 rfl rfl rfl nofun ?_
  refine as0 rfl rfl<|as0 rfl rfl<|.fin<|wg (SQue.shut (p:=g1163.2.1) (m:=t1160.2.fQueue) (g1165.1,g1165.2.1,g1165.2.2) h1166 (pm 8 [1,2,3,0,4,5,6,7])) fun _ _=>?_
  refine wg (Ctr.shut (p:=g1163.2.2.1) (m:=t1160.2.fids) g1167 h1168 (pm 6 [1,0,2,3,4,5])) fun _ _=>?_
  refine wg (SSnd.shut (p:=p0_) (m:=t1160.2) (g1163.1,g1163.2.1,g1163.2.2.1,g1163.2.2.2) h1164 (pm 6 [2,1,0,3,4,5])) fun _ _=>?_
  have H:=H.outr
  cases H.out; exact rt i2 rfl () 3 [2,0,1] 1 (.cons (res_cells rfl Tryz.underlying46 rfl c46 (mem_at 2 rfl) rfl) (.cons (res_tmp rfl) (.cons (res_tmp rfl) .nil)))
 refine WP.seq<|wg (SSnd.opn 1 rfl) fun g1124 h1125=>?_
 refine wg (SQue.opn 1 rfl) fun g1126 h1127=>?_
 refine dg Tryz.checked.mixed 16 49152<|mv0 rfl rfl<|Dv.nilpp h1125 rfl trivial rfl<|fp h1125 rfl trivial rfl fa40_0<|ld 3 rfl trivial rfl sc36 rfl rfl<|mv0 rfl rfl<|mv0 rfl rfl<|Dv.nilpp h1125 rfl trivial rfl<|fp h1125 rfl trivial rfl fa40_2<|ld 3 rfl trivial rfl sc9 rfl rfl<|mv0 rfl rfl<|Dv.nilpp h1125 rfl trivial rfl<|fp h1125 rfl trivial rfl fa40_0<|ld 3 rfl trivial rfl sc36 rfl rfl<|el H fun t1128 h1129 H=>cll 8 [0,1,2,3,4,5,6,7] cal18 (Tr.weak (queue_Queue_All.c h1129 (b0_:=g1126.1) (v0_0:=g1126.2.1) (v0_1:=g1126.2.2)) (.cons (wk_ptr h1127) .nil)) ?_
 refine el H fun t1130 h1131 H=>Dv.callx (pre:=[VView.O p1_ a1]) (F:=[blk g1126.1 107 [vI p1123.fQueue.fmost,eq g1126.2.1.1,eq g1126.2.2.1,vI p1123.fQueue.flost],own EKey.K g1126.2.1.1 p1123.fQueue.fkeys,mp EKey.kv (fun x:Edu=>agg (Edu.enc x)) g1126.2.2.1 p1123.fQueue.fat,blk g1124.1 40 [eq g1124.2.1.1,vS p1123.fself,vS p1123.fto,eq g1124.2.2.1.1,eq g1124.2.2.2.1],Ctr.O g1124.2.2.1 p1123.fids,optO Fly.O g1124.2.2.2 p1123.fair,blk b1122 46 [vB false,vS (⟨#[]⟩:ByteArray),vS (⟨#[]⟩:ByteArray),vI 0,eq (.slice none 0 0)]]++F) (fun _:Unit=>[VView.O p1_ a1,blk g1126.1 107 [vI p1123.fQueue.fmost,eq g1126.2.1.1,eq g1126.2.2.1,vI p1123.fQueue.flost],own EKey.K g1126.2.1.1 p1123.fQueue.fkeys,mp EKey.kv (fun x:Edu=>agg (Edu.enc x)) g1126.2.2.1 p1123.fQueue.fat,blk g1124.1 40 [eq g1124.2.1.1,vS p1123.fself,vS p1123.fto,eq g1124.2.2.1.1,eq g1124.2.2.2.1],Ctr.O g1124.2.2.1 p1123.fids,optO Fly.O g1124.2.2.2 p1123.fair,blk b1122 46 [vB false,vS (⟨#[]⟩:ByteArray),vS (⟨#[]⟩:ByteArray),vI 0,eq (.slice none 0 0)]]++F) rfl trivial cal49 rfl (gate_Choose.c h1131 (p0_:=p1_)) (perm_to (L:=[blk g1126.1 107 [vI p1123.fQueue.fmost,eq g1126.2.1.1,eq g1126.2.2.1,vI p1123.fQueue.flost],own EKey.K g1126.2.1.1 p1123.fQueue.fkeys,mp EKey.kv (fun x:Edu=>agg (Edu.enc x)) g1126.2.2.1 p1123.fQueue.fat,blk g1124.1 40 [eq g1124.2.1.1,vS p1123.fself,vS p1123.fto,eq g1124.2.2.1.1,eq g1124.2.2.2.1],Ctr.O g1124.2.2.1 p1123.fids,optO Fly.O g1124.2.2.2 p1123.fair,blk b1122 46 [vB false,vS (⟨#[]⟩:ByteArray),vS (⟨#[]⟩:ByteArray),vI 0,eq (.slice none 0 0)],VView.O p1_ a1]) (F:=F) [7,0,1,2,3,4,5,6] (by kernel_rfl) rfl rfl) rfl (fun _=>pendc (pend_by (by kernel_rfl) (pend_by (by kernel_rfl) (pend_by (by kernel_rfl) (pend_by (by kernel_rfl) (pend_by (by kernel_rfl) (pend_by (by kernel_rfl) (pend_by (by kernel_rfl) (pend_by (by kernel_rfl) (pend_by (by kernel_rfl) (pend_by (by kernel_rfl) (pend_in (fun _=>(mem_at 4 rfl)) (pend_in (fun _=>trivial) (pend_in (fun _=>trivial) (pend_in (fun _=>trivial) pend_nil))))))))))))))) (fun _ _=>?_)
 refine el H fun t1132 h1133 H=>cx 8 [1,2,3,0,4,5,6,7] cal48 (Tr.pre (pre':=[blk g1126.1 107 [vI p1123.fQueue.fmost,eq g1126.2.1.1,eq g1126.2.2.1,vI p1123.fQueue.flost],own EKey.K g1126.2.1.1 p1123.fQueue.fkeys,mp EKey.kv (fun x:Edu=>agg (Edu.enc x)) g1126.2.2.1 p1123.fQueue.fat]) (queue_Queue_Keep.c h1133 (p0_:=g1124.2.1)) (fun F R w=>SQue.shut (p:=g1124.2.1) (m:=p1123.fQueue) (r:=F) (g1126.1,g1126.2.1,g1126.2.2) h1127 (List.Perm.refl _) R w)) pC fun _ _=>?_
 refine .fin<|WP.seq<|WP.seq<|rg 6 0<|mv0 rfl rfl<|Dv.nilpp h1125 rfl trivial rfl<|fp h1125 rfl trivial rfl fa40_0<|ld 2 rfl trivial rfl sc36 rfl rfl<|vg (SQue.opn 0 rfl) fun g1134 h1135=>?_
 refine el H fun t1136 h1137 H=>cll 8 [0,1,2,3,4,5,6,7] cal50 (Tr.weak (queue_Queue_Len.c h1137 (b0_:=g1134.1) (v0_0:=g1134.2.1) (v0_1:=g1134.2.2)) (.cons (wk_ptr h1135) .nil)) ?_
 refine bn0 rfl rfl rfl run_eq<|.fin<|cd H rfl (fun _ H=>?_) (fun _ H=>?_)
 ·
  refine WP.seq<|rg 4 2<|Dv.bld (qs:=[vB false,vS (⟨#[]⟩:ByteArray),vS (⟨#[]⟩:ByteArray),vI 0,eq (.slice none 0 0)]) (css:=[]) rfl trivial Tryz.underlying46 pl46 z46 rfl trivial rfl rfl<|sx 7 rfl trivial rfl rfl cA sz46 rfl rfl rfl nofun ?_
  refine as0 rfl rfl<|as0 rfl rfl<|.fin<|wg (SQue.shut (p:=g1124.2.1) (m:=t1132) (g1134.1,g1134.2.1,g1134.2.2) h1135 (pm 8 [0,1,2,3,4,5,6,7])) fun _ _=>?_
  refine wg (SSnd.shut (p:=p0_) (m:=(⟨t1132,p1123.fself,p1123.fto,p1123.fids,p1123.fair⟩:SSnd)) (g1124.1,g1124.2.1,g1124.2.2.1,g1124.2.2.2) h1125 (pm 6 [2,0,3,4,1,5])) fun _ _=>?_
  cases H.out; exact rt i2 rfl () 3 [2,0,1] 1 (.cons (res_wk (res_cells rfl Tryz.underlying46 rfl c46 (mem_at 2 rfl) rfl) (wk_agg (.cons wk_id (.cons wk_id (.cons wk_id (.cons wk_id (.cons wk_nil .nil))))))) (.cons (res_tmp rfl) (.cons (res_tmp rfl) .nil)))
 refine WP.skip<|WP.seq<|rg 10 16<|mv0 rfl rfl<|Dv.nilpp h1125 rfl trivial rfl<|fp h1125 rfl trivial rfl fa40_3<|ld 4 rfl trivial rfl sc37 rfl rfl<|el H fun t1139 h1140 H=>cx 8 [5,0,1,2,3,4,6,7] cal51 (clock_Counter_Next.c h1140 (p0_:=g1124.2.2.1)) nofun fun _ _=>?_
 refine mv0 rfl rfl<|ex0 rfl trivial rfl rfl<|ex0 rfl trivial rfl rfl<|as0 rfl rfl<|as0 rfl rfl<|.fin<|WP.seq<|WP.seq<|rg 2 0<|mv0 rfl rfl<|bn0 rfl rfl rfl run_ne<|.fin<|cd H rfl (fun _ H=>?_) (fun _ H=>?_)
 ·
  refine WP.seq<|rg 5 4<|Dv.bld (qs:=[vB false,vS (⟨#[]⟩:ByteArray),vS (⟨#[]⟩:ByteArray),vI 0,eq (.slice none 0 0)]) (css:=[]) rfl trivial Tryz.underlying46 pl46 z46 rfl trivial rfl rfl<|mv0 rfl rfl<|sx 7 rfl trivial rfl rfl cA sz46 rfl rfl rfl nofun ?_
  refine as0 rfl rfl<|as0 rfl rfl<|.fin<|wg (SQue.shut (p:=g1124.2.1) (m:=t1132) (g1134.1,g1134.2.1,g1134.2.2) h1135 (pm 8 [1,2,3,0,4,5,6,7])) fun _ _=>?_
  refine wg (SSnd.shut (p:=p0_) (m:=(⟨t1132,p1123.fself,p1123.fto,t1139.2.2,p1123.fair⟩:SSnd)) (g1124.1,g1124.2.1,g1124.2.2.1,g1124.2.2.2) h1125 (pm 6 [3,0,1,4,2,5])) fun _ _=>?_
  cases H.out; exact rt i2 rfl () 3 [2,0,1] 1 (.cons (res_wk (res_cells rfl Tryz.underlying46 rfl c46 (mem_at 2 rfl) rfl) (wk_agg (.cons wk_id (.cons wk_id (.cons wk_id (.cons wk_id (.cons wk_nil .nil))))))) (.cons (res_tmp rfl) (.cons (res_tmp rfl) .nil)))
 refine WP.skip<|WP.seq<|WP.dgf (kf:=15) Tryz.checked.mixed [(0,false),(1,false),(2,false),(3,false),(4,false),(5,false),(6,false),(7,false),(8,false),(9,false),(10,false),(11,false),(12,false),(13,true),(14,false)] [(16,true)] rfl (by kernel_rfl)<|mv0 rfl rfl<|Dv.nilpp h1125 rfl trivial rfl<|fp h1125 rfl trivial rfl fa40_1<|ld 5 rfl trivial rfl sc9 rfl rfl<|mv0 rfl rfl<|Dv.nilpp h1125 rfl trivial rfl<|fp h1125 rfl trivial rfl fa40_2<|ld 5 rfl trivial rfl sc9 rfl rfl<|mv0 rfl rfl<|mv0 rfl rfl<|Dv.nilpp h1125 rfl trivial rfl<|fp h1125 rfl trivial rfl fa40_0<|ld 5 rfl trivial rfl sc36 rfl rfl<|Dv.float ?_ (fun hk_=>?_)
 rotate_left
 ·
  refine el H fun t1142 h1143 H=>Dv.callx (pre:=[blk g1134.1 107 [vI t1132.fmost,eq g1134.2.1.1,eq g1134.2.2.1,vI t1132.flost],own EKey.K g1134.2.1.1 t1132.fkeys,mp EKey.kv (fun x:Edu=>agg (Edu.enc x)) g1134.2.2.1 t1132.fat]) (F:=[Ctr.O g1124.2.2.1 t1139.2.2,VView.O p1_ a1,blk g1124.1 40 [eq g1124.2.1.1,vS p1123.fself,vS p1123.fto,eq g1124.2.2.1.1,eq g1124.2.2.2.1],optO Fly.O g1124.2.2.2 p1123.fair,blk b1122 46 [vB false,vS (⟨#[]⟩:ByteArray),vS (⟨#[]⟩:ByteArray),vI 0,eq (.slice none 0 0)]]++F) (fun _:Unit=>[SQue.O g1124.2.1 t1142.2,Ctr.O g1124.2.2.1 t1139.2.2,VView.O p1_ a1,blk g1124.1 40 [eq g1124.2.1.1,vS p1123.fself,vS p1123.fto,eq g1124.2.2.1.1,eq g1124.2.2.2.1],optO Fly.O g1124.2.2.2 p1123.fair,blk b1122 46 [vB false,vS (⟨#[]⟩:ByteArray),vS (⟨#[]⟩:ByteArray),vI 0,eq (.slice none 0 0)]]++F) rfl trivial cal52 rfl (Tr.pre (pre':=[blk g1134.1 107 [vI t1132.fmost,eq g1134.2.1.1,eq g1134.2.2.1,vI t1132.flost],own EKey.K g1134.2.1.1 t1132.fkeys,mp EKey.kv (fun x:Edu=>agg (Edu.enc x)) g1134.2.2.1 t1132.fat]) (queue_Queue_Take.c h1143 (p0_:=g1124.2.1)) (fun F R w=>SQue.shut (p:=g1124.2.1) (m:=t1132) (r:=F) (g1134.1,g1134.2.1,g1134.2.2) h1135 (List.Perm.refl _) R w)) (perm_to (L:=[Ctr.O g1124.2.2.1 t1139.2.2,blk g1134.1 107 [vI t1132.fmost,eq g1134.2.1.1,eq g1134.2.2.1,vI t1132.flost],own EKey.K g1134.2.1.1 t1132.fkeys,mp EKey.kv (fun x:Edu=>agg (Edu.enc x)) g1134.2.2.1 t1132.fat,VView.O p1_ a1,blk g1124.1 40 [eq g1124.2.1.1,vS p1123.fself,vS p1123.fto,eq g1124.2.2.1.1,eq g1124.2.2.2.1],optO Fly.O g1124.2.2.2 p1123.fair,blk b1122 46 [vB false,vS (⟨#[]⟩:ByteArray),vS (⟨#[]⟩:ByteArray),vI 0,eq (.slice none 0 0)]]) (F:=F) [1,2,3,0,4,5,6,7] (by kernel_rfl) rfl rfl) rfl (fun _=>pendc (pend_by (by kernel_rfl) (pend_by (by kernel_rfl) (pend_by (by kernel_rfl) (pend_by (by kernel_rfl) (pend_in (fun _=>trivial) (pend_in (fun _=>(mem_at 3 rfl)) (pend_in (fun _=>trivial) (pend_in (fun _=>trivial) (pend_in (fun _=>trivial) (pend_in (fun _=>(mem_at 3 rfl)) (pend_in (fun _=>trivial) (pend_in (fun _=>trivial) (pend_in (fun _=>trivial) pend_nil)))))))))))))) (fun _ _=>?_)
  refine Dv.bld (qs:=[vB false,vS p1123.fself,vS p1123.fto,vI t1139.1,sl Edu.K t1142.1]) (css:=[[vS p1123.fself],[vS p1123.fto],[vI t1139.1],[sl Edu.K t1142.1]]) rfl trivial Tryz.underlying46 pl46 z46 rfl ⟨(cells_one (one_eq rfl)),⟨(cells_one (one_eq rfl)),⟨(cells_one (one_eq rfl)),⟨(cells_one one_sl),trivial⟩⟩⟩⟩ rfl rfl<|.fin<|up_al rfl trivial zc46 (all1 (fun _=>trivial) (allp (by kernel_rfl) (allp (by kernel_rfl) (allp (by kernel_rfl) (allp (by kernel_rfl) (all1 (fun _=>trivial) (all1 (fun _=>mem_at 4 rfl) (all1 (fun _=>trivial) (all1 (fun _=>trivial) (all1 (fun _=>trivial) (all1 (fun _=>mem_at 4 rfl) (all1 (fun _=>trivial) (all1 (fun _=>trivial) (all1 (fun _=>trivial) all0)))))))))))))) (fun b1144=>?_)
  refine sx 0 rfl trivial rfl rfl cA sz46 rfl rfl rfl pB ?_
  refine .fin<|WP.seq<|dg Tryz.checked.mixed 10 576<|mv0 rfl rfl<|lds 0 rfl trivial rfl sg46 rfl rfl<|mv0 rfl rfl<|el H fun t1145 h1146 H=>cl rfl cal53 rfl (clock_Backoff.c h1146)<|bn0 rfl rfl rfl run_add<|Dv.bld (qs:=[vB false,vS p1123.fself,vS p1123.fto,vI t1139.1,sl Edu.K t1142.1,vI 0,vI (w64 (a2 + t1145))]) (css:=[[vB false,vS p1123.fself,vS p1123.fto,vI t1139.1,sl Edu.K t1142.1],[vI 0],[vI (w64 (a2 + t1145))]]) rfl trivial Tryz.underlying111 pl111 z111 rfl ⟨(cells_agg (ones_cons (one_eq rfl) (ones_cons (one_eq rfl) (ones_cons (one_eq rfl) (ones_cons (one_eq rfl) (ones_cons one_sl ones_nil)))))),⟨(cells_one (one_eq rfl)),⟨(cells_one (one_eq rfl)),trivial⟩⟩⟩ rfl rfl<|Dv.box rfl trivial rfl cA (fun _=>(pend_by (by kernel_rfl) (pend_by (by kernel_rfl) (pend_by (by kernel_rfl) (pend_by (by kernel_rfl) (pend_by (by kernel_rfl) (pend_in (fun _=>trivial) pend_nil))))))) fun b1147=>Dv.nilpp h1125 rfl trivial rfl<|fp h1125 rfl trivial rfl fa40_4<|sx 5 rfl trivial rfl rfl cE sz38 rfl rfl rfl pB ?_
  refine .fin<|WP.seq<|rg 5 4<|mv0 rfl rfl<|vg (SQue.opn 2 rfl) fun g1148 h1149=>?_
  refine vg (Ctr.opn 5 rfl) fun g1150 h1151=>?_
  refine vg (Fly.shut (p:=(⟨.pointer (some ⟨b1147,0,none⟩),rfl⟩:OV)) (m:=(⟨(⟨false,p1123.fself,p1123.fto,t1139.1,t1142.1⟩:Par),0,w64 (a2 + t1145)⟩:Fly)) b1147 rfl (pm 10 [4,0,1,2,3,5,6,7,8,9])) fun _ _=>?_
  refine vg (opt_back1 (O:=Fly.O) 0 rfl) fun _ _=>?_
  refine el H fun t1152 h1153 H=>cll 10 [7,2,3,4,1,0,5,6,8,9] cal47 (Tr.weak (sender_Sender_told.c h1153 (b0_:=g1124.1) (v0_0:=g1124.2.1) (v0_1:=g1124.2.2.1) (v0_2:=(⟨.pointer (some ⟨b1147,0,none⟩),rfl⟩:OV)) (v0_3:=g1148.2.1) (v0_4:=g1148.2.2) (d0_0:=g1148.1) (e0_0:=h1149) (d0_1:=g1150) (e0_1:=h1151)) (.cons (wk_ptr h1125) .nil)) ?_
  refine sx 9 rfl trivial rfl rfl cA sz46 rfl rfl rfl nofun ?_
  refine as0 rfl rfl<|as0 rfl rfl<|.fin<|wg (SQue.shut (p:=g1124.2.1) (m:=t1142.2) (g1148.1,g1148.2.1,g1148.2.2) h1149 (pm 10 [2,3,4,0,1,5,6,7,8,9])) fun _ _=>?_
  refine wg (Ctr.shut (p:=g1124.2.2.1) (m:=t1139.2.2) g1150 h1151 (pm 8 [2,0,1,3,4,5,6,7])) fun _ _=>?_
  refine wg (SSnd.shut (p:=p0_) (m:=(⟨t1142.2,p1123.fself,p1123.fto,t1139.2.2,some (⟨(⟨false,p1123.fself,p1123.fto,t1139.1,t1142.1⟩:Par),0,w64 (a2 + t1145)⟩:Fly)⟩:SSnd)) (g1124.1,g1124.2.1,g1124.2.2.1,(⟨.pointer (some ⟨b1147,0,none⟩),rfl⟩:OV)) h1125 (pm 8 [5,1,0,2,3,4,6,7])) fun _ _=>?_
  cases H.out; exact rt i2 rfl () 5 [1,3,4,0,2] 3 (.cons (res_cells rfl Tryz.underlying46 rfl c46 (mem_at 4 rfl) rfl) (.cons (res_tmp rfl) (.cons (res_tmp rfl) .nil)))
 refine up_al rfl trivial zc46 (all1 (fun _=>mem_at 6 rfl) (all1 (fun _=>trivial) (all1 (fun _=>trivial) (all1 (fun _=>trivial) (all1 (fun _=>trivial) (all1 (fun _=>mem_at 6 rfl) (all1 (fun _=>trivial) (all1 (fun _=>trivial) (all1 (fun _=>trivial) (all1 (fun _=>mem_at 6 rfl) (all1 (fun _=>trivial) (all1 (fun _=>trivial) (all1 (fun _=>trivial) all0))))))))))))) (fun b1142=>?_)
 refine el H fun t1143 h1144 H=>Dv.callx (pre:=[blk g1134.1 107 [vI t1132.fmost,eq g1134.2.1.1,eq g1134.2.2.1,vI t1132.flost],own EKey.K g1134.2.1.1 t1132.fkeys,mp EKey.kv (fun x:Edu=>agg (Edu.enc x)) g1134.2.2.1 t1132.fat]) (F:=[blk b1142 46 [vB false,vS (⟨#[]⟩:ByteArray),vS (⟨#[]⟩:ByteArray),vI 0,eq (.slice none 0 0)],Ctr.O g1124.2.2.1 t1139.2.2,VView.O p1_ a1,blk g1124.1 40 [eq g1124.2.1.1,vS p1123.fself,vS p1123.fto,eq g1124.2.2.1.1,eq g1124.2.2.2.1],optO Fly.O g1124.2.2.2 p1123.fair,blk b1122 46 [vB false,vS (⟨#[]⟩:ByteArray),vS (⟨#[]⟩:ByteArray),vI 0,eq (.slice none 0 0)]]++F) (fun _:Unit=>[SQue.O g1124.2.1 t1143.2,blk b1142 46 [vB false,vS (⟨#[]⟩:ByteArray),vS (⟨#[]⟩:ByteArray),vI 0,eq (.slice none 0 0)],Ctr.O g1124.2.2.1 t1139.2.2,VView.O p1_ a1,blk g1124.1 40 [eq g1124.2.1.1,vS p1123.fself,vS p1123.fto,eq g1124.2.2.1.1,eq g1124.2.2.2.1],optO Fly.O g1124.2.2.2 p1123.fair,blk b1122 46 [vB false,vS (⟨#[]⟩:ByteArray),vS (⟨#[]⟩:ByteArray),vI 0,eq (.slice none 0 0)]]++F) rfl trivial cal52 rfl (Tr.pre (pre':=[blk g1134.1 107 [vI t1132.fmost,eq g1134.2.1.1,eq g1134.2.2.1,vI t1132.flost],own EKey.K g1134.2.1.1 t1132.fkeys,mp EKey.kv (fun x:Edu=>agg (Edu.enc x)) g1134.2.2.1 t1132.fat]) (queue_Queue_Take.c h1144 (p0_:=g1124.2.1)) (fun F R w=>SQue.shut (p:=g1124.2.1) (m:=t1132) (r:=F) (g1134.1,g1134.2.1,g1134.2.2) h1135 (List.Perm.refl _) R w)) (perm_to (L:=[blk b1142 46 [vB false,vS (⟨#[]⟩:ByteArray),vS (⟨#[]⟩:ByteArray),vI 0,eq (.slice none 0 0)],Ctr.O g1124.2.2.1 t1139.2.2,blk g1134.1 107 [vI t1132.fmost,eq g1134.2.1.1,eq g1134.2.2.1,vI t1132.flost],own EKey.K g1134.2.1.1 t1132.fkeys,mp EKey.kv (fun x:Edu=>agg (Edu.enc x)) g1134.2.2.1 t1132.fat,VView.O p1_ a1,blk g1124.1 40 [eq g1124.2.1.1,vS p1123.fself,vS p1123.fto,eq g1124.2.2.1.1,eq g1124.2.2.2.1],optO Fly.O g1124.2.2.2 p1123.fair,blk b1122 46 [vB false,vS (⟨#[]⟩:ByteArray),vS (⟨#[]⟩:ByteArray),vI 0,eq (.slice none 0 0)]]) (F:=F) [2,3,4,0,1,5,6,7,8] (by kernel_rfl) rfl rfl) rfl (fun _=>pendc (pend_by (by kernel_rfl) (pend_by (by kernel_rfl) (pend_by (by kernel_rfl) (pend_by (by kernel_rfl) (pend_in (fun _=>trivial) (pend_in (fun _=>(mem_at 4 rfl)) (pend_in (fun _=>trivial) (pend_in (fun _=>trivial) (pend_in (fun _=>trivial) (pend_in (fun _=>(mem_at 4 rfl)) (pend_in (fun _=>trivial) (pend_in (fun _=>trivial) (pend_in (fun _=>trivial) pend_nil)))))))))))))) (fun _ _=>?_)
 refine Dv.bld (qs:=[vB false,vS p1123.fself,vS p1123.fto,vI t1139.1,sl Edu.K t1143.1]) (css:=[[vS p1123.fself],[vS p1123.fto],[vI t1139.1],[sl Edu.K t1143.1]]) rfl trivial Tryz.underlying46 pl46 z46 rfl ⟨(cells_one (one_eq rfl)),⟨(cells_one (one_eq rfl)),⟨(cells_one (one_eq rfl)),⟨(cells_one one_sl),trivial⟩⟩⟩⟩ rfl rfl<|sx 1 rfl trivial rfl rfl cA sz46 rfl rfl rfl pB ?_
 refine .fin<|WP.seq<|dg Tryz.checked.mixed 10 576<|mv0 rfl rfl<|lds 1 rfl trivial rfl sg46 rfl rfl<|mv0 rfl rfl<|el H fun t1145 h1146 H=>cl rfl cal53 rfl (clock_Backoff.c h1146)<|bn0 rfl rfl rfl run_add<|Dv.bld (qs:=[vB false,vS p1123.fself,vS p1123.fto,vI t1139.1,sl Edu.K t1143.1,vI 0,vI (w64 (a2 + t1145))]) (css:=[[vB false,vS p1123.fself,vS p1123.fto,vI t1139.1,sl Edu.K t1143.1],[vI 0],[vI (w64 (a2 + t1145))]]) rfl trivial Tryz.underlying111 pl111 z111 rfl ⟨(cells_agg (ones_cons (one_eq rfl) (ones_cons (one_eq rfl) (ones_cons (one_eq rfl) (ones_cons (one_eq rfl) (ones_cons one_sl ones_nil)))))),⟨(cells_one (one_eq rfl)),⟨(cells_one (one_eq rfl)),trivial⟩⟩⟩ rfl rfl<|Dv.box rfl trivial rfl cA (fun _=>(pend_by (by kernel_rfl) (pend_by (by kernel_rfl) (pend_by (by kernel_rfl) (pend_by (by kernel_rfl) (pend_by (by kernel_rfl) (pend_in (fun _=>trivial) pend_nil))))))) fun b1147=>Dv.nilpp h1125 rfl trivial rfl<|fp h1125 rfl trivial rfl fa40_4<|sx 5 rfl trivial rfl rfl cE sz38 rfl rfl rfl pB ?_
 refine .fin<|WP.seq<|rg 5 4<|mv0 rfl rfl<|vg (SQue.opn 1 rfl) fun g1148 h1149=>?_
 refine vg (Ctr.opn 5 rfl) fun g1150 h1151=>?_
 refine vg (Fly.shut (p:=(⟨.pointer (some ⟨b1147,0,none⟩),rfl⟩:OV)) (m:=(⟨(⟨false,p1123.fself,p1123.fto,t1139.1,t1143.1⟩:Par),0,w64 (a2 + t1145)⟩:Fly)) b1147 rfl (pm 10 [4,0,1,2,3,5,6,7,8,9])) fun _ _=>?_
 refine vg (opt_back1 (O:=Fly.O) 0 rfl) fun _ _=>?_
 refine el H fun t1152 h1153 H=>cll 10 [7,2,3,4,1,0,5,6,8,9] cal47 (Tr.weak (sender_Sender_told.c h1153 (b0_:=g1124.1) (v0_0:=g1124.2.1) (v0_1:=g1124.2.2.1) (v0_2:=(⟨.pointer (some ⟨b1147,0,none⟩),rfl⟩:OV)) (v0_3:=g1148.2.1) (v0_4:=g1148.2.2) (d0_0:=g1148.1) (e0_0:=h1149) (d0_1:=g1150) (e0_1:=h1151)) (.cons (wk_ptr h1125) .nil)) ?_
 refine sx 9 rfl trivial rfl rfl cA sz46 rfl rfl rfl nofun ?_
 refine as0 rfl rfl<|as0 rfl rfl<|.fin<|wg (SQue.shut (p:=g1124.2.1) (m:=t1143.2) (g1148.1,g1148.2.1,g1148.2.2) h1149 (pm 10 [2,3,4,0,1,5,6,7,8,9])) fun _ _=>?_
 refine wg (Ctr.shut (p:=g1124.2.2.1) (m:=t1139.2.2) g1150 h1151 (pm 8 [2,0,1,3,4,5,6,7])) fun _ _=>?_
 refine wg (SSnd.shut (p:=p0_) (m:=(⟨t1143.2,p1123.fself,p1123.fto,t1139.2.2,some (⟨(⟨false,p1123.fself,p1123.fto,t1139.1,t1143.1⟩:Par),0,w64 (a2 + t1145)⟩:Fly)⟩:SSnd)) (g1124.1,g1124.2.1,g1124.2.2.1,(⟨.pointer (some ⟨b1147,0,none⟩),rfl⟩:OV)) h1125 (pm 8 [5,1,0,2,3,4,6,7])) fun _ _=>?_
 cases H.out; exact rt i2 rfl () 5 [1,3,4,0,2] 3 (.cons (res_cells rfl Tryz.underlying46 rfl c46 (mem_at 4 rfl) rfl) (.cons (res_tmp rfl) (.cons (res_tmp rfl) .nil)))
theorem dag_May.c {k:Nat} {a0:Event} {r:Bool} (h:dag_May.f k a0 = some r):Pt Tryz.prog 91 [agg (Event.enc a0)] (vB r):=by
 unfold dag_May.f at h
 refine pb Tryz.func91 Tryz.ntmps91 h fun R0 F H=>?_
 refine WP.seq<|rg 2 1<|Dv.box rfl trivial rfl cA nofun fun b1171=>as0 rfl rfl<|.fin<|WP.scope<|WP.seq<|WP.seq<|rg 32 0<|fb rfl trivial rfl fa55_0<|ld 0 rfl trivial rfl sc9 rfl rfl<|el H fun t1172 h1173 H=>cl rfl cal121 rfl (name_Event.c h1173)<|un0 rfl rfl (run_not _)<|mv0 rfl rfl ?_
 cases c1174:!t1172
 rotate_left
 ·
  have H:=H.ct c1174
  refine sk rfl rfl<|sk rfl rfl<|sk rfl rfl<|sk rfl rfl<|pt0 rfl rfl rfl<|mv0 rfl rfl<|sk rfl rfl<|sk rfl rfl<|sk rfl rfl<|sk rfl rfl<|pt0 rfl rfl rfl<|mv0 rfl rfl<|sk rfl rfl<|sk rfl rfl<|sk rfl rfl<|sk rfl rfl<|pt0 rfl rfl rfl<|mv0 rfl rfl<|sk rfl rfl<|sk rfl rfl<|sk rfl rfl<|pt0 rfl rfl rfl<|mv0 rfl rfl<|sk rfl rfl<|sk rfl rfl<|sk rfl rfl<|pt0 rfl rfl rfl<|.fin<|WP.cond rfl (fun _=>?_) nofun
  refine WP.seq<|rg 1 0<|as0 rfl rfl<|.fin ?_
  cases H.out; exact r1 i2 rfl (.cons (res_tmp rfl) .nil)
 have H:=H.cf c1174
 refine fb rfl (gg rfl) rfl fa55_1<|ld 0 rfl (gg rfl) rfl sc9 rfl rfl<|el H fun t1176 h1177 H=>Dv.call rfl (gg rfl) cal122 rfl (name_Room.c h1177)<|ung rfl rfl rfl (run_not _)<|pf0 rfl rfl rfl<|mv0 rfl rfl ?_
 cases c1178:!t1176
 rotate_left
 ·
  have H:=H.ct c1178
  refine sk rfl rfl<|sk rfl rfl<|sk rfl rfl<|sk rfl rfl<|pt0 rfl rfl rfl<|mv0 rfl rfl<|sk rfl rfl<|sk rfl rfl<|sk rfl rfl<|sk rfl rfl<|pt0 rfl rfl rfl<|mv0 rfl rfl<|sk rfl rfl<|sk rfl rfl<|sk rfl rfl<|pt0 rfl rfl rfl<|mv0 rfl rfl<|sk rfl rfl<|sk rfl rfl<|sk rfl rfl<|pt0 rfl rfl rfl<|.fin<|WP.cond rfl (fun _=>?_) nofun
  refine WP.seq<|rg 1 0<|as0 rfl rfl<|.fin ?_
  cases H.out; exact r1 i2 rfl (.cons (res_tmp rfl) .nil)
 have H:=H.cf c1178
 refine fb rfl (gg rfl) rfl fa55_4<|ld 0 rfl (gg rfl) rfl sc9 rfl rfl<|el H fun t1180 h1181 H=>Dv.call rfl (gg rfl) cal107 rfl (name_User.c h1181)<|ung rfl rfl rfl (run_not _)<|pf0 rfl rfl rfl<|mv0 rfl rfl ?_
 cases c1182:!t1180
 rotate_left
 ·
  have H:=H.ct c1182
  refine sk rfl rfl<|sk rfl rfl<|sk rfl rfl<|sk rfl rfl<|pt0 rfl rfl rfl<|mv0 rfl rfl<|sk rfl rfl<|sk rfl rfl<|sk rfl rfl<|pt0 rfl rfl rfl<|mv0 rfl rfl<|sk rfl rfl<|sk rfl rfl<|sk rfl rfl<|pt0 rfl rfl rfl<|.fin<|WP.cond rfl (fun _=>?_) nofun
  refine WP.seq<|rg 1 0<|as0 rfl rfl<|.fin ?_
  cases H.out; exact r1 i2 rfl (.cons (res_tmp rfl) .nil)
 have H:=H.cf c1182
 refine fb rfl (gg rfl) rfl fa55_2<|ld 0 rfl (gg rfl) rfl sc53 rfl rfl<|Dv.lenl rfl (gg rfl) rfl Tryz.underlying53<|bng rfl rfl rfl rfl run_gt<|pf0 rfl rfl rfl<|mv0 rfl rfl ?_
 cases c1184:decide (4 < (a0.fParents.length:Int))
 rotate_left
 ·
  have H:=H.ct c1184
  refine sk rfl rfl<|sk rfl rfl<|sk rfl rfl<|pt0 rfl rfl rfl<|mv0 rfl rfl<|sk rfl rfl<|sk rfl rfl<|sk rfl rfl<|pt0 rfl rfl rfl<|.fin<|WP.cond rfl (fun _=>?_) nofun
  refine WP.seq<|rg 1 0<|as0 rfl rfl<|.fin ?_
  cases H.out; exact r1 i2 rfl (.cons (res_tmp rfl) .nil)
 have H:=H.cf c1184
 refine fb rfl (gg rfl) rfl fa55_5<|ld 0 rfl (gg rfl) rfl sc3 rfl rfl<|bng rfl rfl rfl rfl run_lt<|pf0 rfl rfl rfl<|mv0 rfl rfl ?_
 cases c1186:decide (a0.fDoes < 0)
 rotate_left
 ·
  have H:=H.ct c1186
  refine sk rfl rfl<|sk rfl rfl<|sk rfl rfl<|pt0 rfl rfl rfl<|.fin<|WP.cond rfl (fun _=>?_) nofun
  refine WP.seq<|rg 1 0<|as0 rfl rfl<|.fin ?_
  cases H.out; exact r1 i2 rfl (.cons (res_tmp rfl) .nil)
 have H:=H.cf c1186
 refine fb rfl (gg rfl) rfl fa55_5<|ld 0 rfl (gg rfl) rfl sc3 rfl rfl<|bng rfl rfl rfl rfl run_gt<|pf0 rfl rfl rfl<|.fin<|cd H rfl (fun _ H=>?_) (fun _ H=>?_)
 ·
  refine WP.seq<|rg 1 0<|as0 rfl rfl<|.fin ?_
  cases H.out; exact r1 i2 rfl (.cons (res_tmp rfl) .nil)
 refine WP.skip<|WP.seq<|WP.seq<|rg 21 0<|fb rfl trivial rfl fa55_3<|ld 0 rfl trivial rfl sc9 rfl rfl<|bn0 rfl rfl rfl run_sne<|mv0 rfl rfl ?_
 cases c1189:!decide (a0.fThread = (⟨#[]⟩:ByteArray))
 ·
  have H:=H.cf c1189
  refine sk rfl rfl<|sk rfl rfl<|sk rfl rfl<|sk rfl rfl<|sk rfl rfl<|sku rfl rfl<|sku rfl rfl<|sku rfl rfl<|sku rfl rfl<|sku rfl rfl<|sk rfl rfl<|sk rfl rfl<|sku rfl rfl<|sku rfl rfl<|sku rfl rfl<|sk rfl rfl<|pf0 rfl rfl rfl<|.fin<|WP.cond rfl nofun (fun _=>?_)
  refine WP.skip<|WP.seq<|rg 1 0<|as0 rfl rfl<|.fin<|WP.seq<|WP.label<|WP.seqn H id (fun p1214:Bool×Int×Bool=>[(0,agg (Event.enc a0)),(1,eq (.pointer (some ⟨b1171,0,none⟩))),(2,vB false),(3,vB p1214.1),(37,vB (decide (2 < a0.fDoes))),(58,vB false),(60,sl strK a0.fParents),(61,vI (a0.fParents.length:Int)),(62,vI p1214.2.1),(63,vB p1214.2.2)]) (fun p1214:Bool×Int×Bool=>[blk b1171 55 (Event.enc a0)]++F) (fun p1214 H=>?_) (fun H=>?_)
  ·
   refine WP.seq<|rg 2 0<|mv0 rfl rfl<|as0 rfl rfl<|.fin ?_
   cases H.out; exact r1 i2 rfl (.cons (res_tmp rfl) .nil)
  refine WP.seq<|rg 4 0<|fb rfl trivial rfl fa55_2<|ld 0 rfl trivial rfl sc53 rfl rfl<|Dv.lenl rfl trivial rfl Tryz.underlying53<|mv0 rfl rfl<|.fin<|WP.block<|wg (sg 1 [0] 0) fun _ _=>?_
  refine lp (fun j_ (p1229:Int)=>dag_May.l1 k a0 j_ p1229) 0 H (fun p1229=>[(0,agg (Event.enc a0)),(1,eq (.pointer (some ⟨b1171,0,none⟩))),(2,vB false),(3,vB true),(37,vB (decide (2 < a0.fDoes))),(58,vB false),(60,sl strK a0.fParents),(61,vI (a0.fParents.length:Int)),(62,vI p1229)]) (fun p1229=>[blk b1171 55 (Event.enc a0)]++F) ?_
  rintro j_ x1215 H
  rcases j_ with _ | j1228
  ·
   exact (Gets.no H).elim
  replace H:Gets (dag_May.l1 k a0 (j1228 + 1) x1215) _:=H
  rw [dag_May.l1] at H
  refine WP.seq<|rg 1 0<|bn0 rfl rfl rfl run_lt<|.fin<|WP.seq<|cd H rfl (fun _ H=>?_) (fun _ H=>?_)
  rotate_left
  ·
   refine WP.exit ?_
   have H:=H.out
   exact jn (true,x1215,decide (x1215 < (a0.fParents.length:Int))) H
  refine WP.skip<|WP.seq<|WP.block<|WP.seq<|rg 5 0<|mv0 rfl rfl<|gr H fun g1217 H=>Dv.ixr rfl trivial rfl rfl Tryz.underlying53 Tryz.underlying9 c9 g1217.1 g1217.2<|ldR rfl trivial rfl sc9 rfl<|as0 rfl rfl<|as0 rfl rfl<|.fin<|WP.seq<|rg 23 0<|mv0 rfl rfl<|el H fun t1218 h1219 H=>cl rfl cal121 rfl (name_Event.c h1219)<|un0 rfl rfl (run_not _)<|mv0 rfl rfl ?_
  cases c1220:!t1218
  rotate_left
  ·
   have H:=H.ct c1220
   refine sk rfl rfl<|sk rfl rfl<|sk rfl rfl<|sk rfl rfl<|pt0 rfl rfl rfl<|mv0 rfl rfl<|sk rfl rfl<|sk rfl rfl<|sk rfl rfl<|sku rfl rfl<|sku rfl rfl<|sku rfl rfl<|sku rfl rfl<|sku rfl rfl<|sku rfl rfl<|sku rfl rfl<|sku rfl rfl<|sk rfl rfl<|pt0 rfl rfl rfl<|.fin<|WP.cond rfl (fun _=>?_) nofun
   refine WP.seq<|rg 1 0<|as0 rfl rfl<|.fin<|WP.exit ?_
   have H:=H.out
   exact jn (false,x1215,decide (x1215 < (a0.fParents.length:Int))) H
  have H:=H.cf c1220
  refine mvg rfl rfl rfl<|fb rfl (gg rfl) rfl fa55_0<|ld 0 rfl (gg rfl) rfl sc9 rfl rfl<|bng rfl rfl rfl rfl run_seq<|pf0 rfl rfl rfl<|mv0 rfl rfl ?_
  cases c1222:decide ((strK.at a0.fParents x1215) = a0.fID)
  rotate_left
  ·
   have H:=H.ct c1222
   refine sk rfl rfl<|sk rfl rfl<|sk rfl rfl<|sku rfl rfl<|sku rfl rfl<|sku rfl rfl<|sku rfl rfl<|sku rfl rfl<|sku rfl rfl<|sku rfl rfl<|sku rfl rfl<|sk rfl rfl<|pt0 rfl rfl rfl<|.fin<|WP.cond rfl (fun _=>?_) nofun
   refine WP.seq<|rg 1 0<|as0 rfl rfl<|.fin<|WP.exit ?_
   have H:=H.out
   exact jn (false,x1215,decide (x1215 < (a0.fParents.length:Int))) H
  have H:=H.cf c1222
  refine mvg rfl rfl rfl<|bng rfl rfl rfl rfl run_gt<|mvg rfl rfl rfl ?_
  cases c1224:decide (0 < x1215)
  ·
   have H:=H.cf c1224
   refine sk rfl rfl<|sk rfl rfl<|sk rfl rfl<|sk rfl rfl<|sk rfl rfl<|sk rfl rfl<|sk rfl rfl<|sk rfl rfl<|pfg rfl rfl rfl rfl<|pf0 rfl rfl rfl<|.fin<|WP.cond rfl nofun (fun _=>?_)
   exact WP.skip<|rg 2 0<|bn0 rfl rfl rfl run_add<|mv0 rfl rfl<|.fin<|bk j1228 (w64 (x1215 + 1)) H
  have H:=H.ct c1224
  refine mvg rfl rfl rfl<|fb rfl (gg rfl) rfl fa55_2<|ld 0 rfl (gg rfl) rfl sc53 rfl rfl<|mvg rfl rfl rfl<|bng rfl rfl rfl rfl run_sub<|gr H fun g1225 H=>Dv.ixr rfl (gg rfl) rfl rfl Tryz.underlying53 Tryz.underlying9 c9 g1225.1 g1225.2<|ldR rfl (gg rfl) rfl sc9 rfl<|bng rfl rfl rfl rfl run_sle<|ptg rfl rfl rfl rfl<|pf0 rfl rfl rfl<|.fin<|cd H rfl (fun _ H=>?_) (fun _ H=>?_)
  rotate_left
  ·
   exact WP.skip<|rg 2 0<|bn0 rfl rfl rfl run_add<|mv0 rfl rfl<|.fin<|bk j1228 (w64 (x1215 + 1)) H
  refine WP.seq<|rg 1 0<|as0 rfl rfl<|.fin<|WP.exit ?_
  have H:=H.out
  exact jn (false,x1215,decide (x1215 < (a0.fParents.length:Int))) H
 have H:=H.ct c1189
 refine fb rfl (gg rfl) rfl fa55_3<|ld 0 rfl (gg rfl) rfl sc9 rfl rfl<|el H fun t1190 h1191 H=>Dv.call rfl (gg rfl) cal121 rfl (name_Event.c h1191)<|ung rfl rfl rfl (run_not _)<|mvg rfl rfl rfl ?_
 cases c1192:!t1190
 rotate_left
 ·
  have H:=H.ct c1192
  refine sk rfl rfl<|sk rfl rfl<|sk rfl rfl<|sk rfl rfl<|sk rfl rfl<|ptg rfl rfl rfl rfl<|mvg rfl rfl rfl<|sk rfl rfl<|sk rfl rfl<|sk rfl rfl<|ptg rfl rfl rfl rfl<|pt0 rfl rfl rfl<|.fin<|WP.cond rfl (fun _=>?_) nofun
  refine WP.seq<|rg 1 0<|as0 rfl rfl<|.fin ?_
  cases H.out; exact r1 i2 rfl (.cons (res_tmp rfl) .nil)
 have H:=H.cf c1192
 refine fb rfl (gg rfl) rfl fa55_3<|ld 0 rfl (gg rfl) rfl sc9 rfl rfl<|fb rfl (gg rfl) rfl fa55_0<|ld 0 rfl (gg rfl) rfl sc9 rfl rfl<|bng rfl rfl rfl rfl run_seq<|pfg rfl rfl rfl rfl<|mvg rfl rfl rfl ?_
 cases c1194:decide (a0.fThread = a0.fID)
 rotate_left
 ·
  have H:=H.ct c1194
  refine sk rfl rfl<|sk rfl rfl<|sk rfl rfl<|ptg rfl rfl rfl rfl<|pt0 rfl rfl rfl<|.fin<|WP.cond rfl (fun _=>?_) nofun
  refine WP.seq<|rg 1 0<|as0 rfl rfl<|.fin ?_
  cases H.out; exact r1 i2 rfl (.cons (res_tmp rfl) .nil)
 have H:=H.cf c1194
 refine fb rfl (gg rfl) rfl fa55_5<|ld 0 rfl (gg rfl) rfl sc3 rfl rfl<|bng rfl rfl rfl rfl run_ne<|pfg rfl rfl rfl rfl<|pt0 rfl rfl rfl<|.fin<|cd H rfl (fun _ H=>?_) (fun _ H=>?_)
 ·
  refine WP.seq<|rg 1 0<|as0 rfl rfl<|.fin ?_
  cases H.out; exact r1 i2 rfl (.cons (res_tmp rfl) .nil)
 refine WP.skip<|WP.seq<|rg 1 0<|as0 rfl rfl<|.fin<|WP.seq<|WP.label<|WP.seqn H id (fun p1197:Bool×Int×Bool=>[(0,agg (Event.enc a0)),(1,eq (.pointer (some ⟨b1171,0,none⟩))),(2,vB false),(3,vB p1197.1),(37,vB (decide (2 < a0.fDoes))),(58,vB (a0.fDoes != 0)),(60,sl strK a0.fParents),(61,vI (a0.fParents.length:Int)),(62,vI p1197.2.1),(63,vB p1197.2.2)]) (fun p1197:Bool×Int×Bool=>[blk b1171 55 (Event.enc a0)]++F) (fun p1197 H=>?_) (fun H=>?_)
 ·
  refine WP.seq<|rg 2 0<|mv0 rfl rfl<|as0 rfl rfl<|.fin ?_
  cases H.out; exact r1 i2 rfl (.cons (res_tmp rfl) .nil)
 refine WP.seq<|rg 4 0<|fb rfl trivial rfl fa55_2<|ld 0 rfl trivial rfl sc53 rfl rfl<|Dv.lenl rfl trivial rfl Tryz.underlying53<|mv0 rfl rfl<|.fin<|WP.block<|wg (sg 1 [0] 0) fun _ _=>?_
 refine lp (fun j_ (p1212:Int)=>dag_May.l0 k a0 j_ p1212) 0 H (fun p1212=>[(0,agg (Event.enc a0)),(1,eq (.pointer (some ⟨b1171,0,none⟩))),(2,vB false),(3,vB true),(37,vB (decide (2 < a0.fDoes))),(58,vB (a0.fDoes != 0)),(60,sl strK a0.fParents),(61,vI (a0.fParents.length:Int)),(62,vI p1212)]) (fun p1212=>[blk b1171 55 (Event.enc a0)]++F) ?_
 rintro j_ x1198 H
 rcases j_ with _ | j1211
 ·
  exact (Gets.no H).elim
 replace H:Gets (dag_May.l0 k a0 (j1211 + 1) x1198) _:=H
 rw [dag_May.l0] at H
 refine WP.seq<|rg 1 0<|bn0 rfl rfl rfl run_lt<|.fin<|WP.seq<|cd H rfl (fun _ H=>?_) (fun _ H=>?_)
 rotate_left
 ·
  refine WP.exit ?_
  have H:=H.out
  exact jn (true,x1198,decide (x1198 < (a0.fParents.length:Int))) H
 refine WP.skip<|WP.seq<|WP.block<|WP.seq<|rg 5 0<|mv0 rfl rfl<|gr H fun g1200 H=>Dv.ixr rfl trivial rfl rfl Tryz.underlying53 Tryz.underlying9 c9 g1200.1 g1200.2<|ldR rfl trivial rfl sc9 rfl<|as0 rfl rfl<|as0 rfl rfl<|.fin<|WP.seq<|rg 23 0<|mv0 rfl rfl<|el H fun t1201 h1202 H=>cl rfl cal121 rfl (name_Event.c h1202)<|un0 rfl rfl (run_not _)<|mv0 rfl rfl ?_
 cases c1203:!t1201
 rotate_left
 ·
  have H:=H.ct c1203
  refine sk rfl rfl<|sk rfl rfl<|sk rfl rfl<|sk rfl rfl<|pt0 rfl rfl rfl<|mv0 rfl rfl<|sk rfl rfl<|sk rfl rfl<|sk rfl rfl<|sku rfl rfl<|sku rfl rfl<|sku rfl rfl<|sku rfl rfl<|sku rfl rfl<|sku rfl rfl<|sku rfl rfl<|sku rfl rfl<|sk rfl rfl<|pt0 rfl rfl rfl<|.fin<|WP.cond rfl (fun _=>?_) nofun
  refine WP.seq<|rg 1 0<|as0 rfl rfl<|.fin<|WP.exit ?_
  have H:=H.out
  exact jn (false,x1198,decide (x1198 < (a0.fParents.length:Int))) H
 have H:=H.cf c1203
 refine mvg rfl rfl rfl<|fb rfl (gg rfl) rfl fa55_0<|ld 0 rfl (gg rfl) rfl sc9 rfl rfl<|bng rfl rfl rfl rfl run_seq<|pf0 rfl rfl rfl<|mv0 rfl rfl ?_
 cases c1205:decide ((strK.at a0.fParents x1198) = a0.fID)
 rotate_left
 ·
  have H:=H.ct c1205
  refine sk rfl rfl<|sk rfl rfl<|sk rfl rfl<|sku rfl rfl<|sku rfl rfl<|sku rfl rfl<|sku rfl rfl<|sku rfl rfl<|sku rfl rfl<|sku rfl rfl<|sku rfl rfl<|sk rfl rfl<|pt0 rfl rfl rfl<|.fin<|WP.cond rfl (fun _=>?_) nofun
  refine WP.seq<|rg 1 0<|as0 rfl rfl<|.fin<|WP.exit ?_
  have H:=H.out
  exact jn (false,x1198,decide (x1198 < (a0.fParents.length:Int))) H
 have H:=H.cf c1205
 refine mvg rfl rfl rfl<|bng rfl rfl rfl rfl run_gt<|mvg rfl rfl rfl ?_
 cases c1207:decide (0 < x1198)
 ·
  have H:=H.cf c1207
  refine sk rfl rfl<|sk rfl rfl<|sk rfl rfl<|sk rfl rfl<|sk rfl rfl<|sk rfl rfl<|sk rfl rfl<|sk rfl rfl<|pfg rfl rfl rfl rfl<|pf0 rfl rfl rfl<|.fin<|WP.cond rfl nofun (fun _=>?_)
  exact WP.skip<|rg 2 0<|bn0 rfl rfl rfl run_add<|mv0 rfl rfl<|.fin<|bk j1211 (w64 (x1198 + 1)) H
 have H:=H.ct c1207
 refine mvg rfl rfl rfl<|fb rfl (gg rfl) rfl fa55_2<|ld 0 rfl (gg rfl) rfl sc53 rfl rfl<|mvg rfl rfl rfl<|bng rfl rfl rfl rfl run_sub<|gr H fun g1208 H=>Dv.ixr rfl (gg rfl) rfl rfl Tryz.underlying53 Tryz.underlying9 c9 g1208.1 g1208.2<|ldR rfl (gg rfl) rfl sc9 rfl<|bng rfl rfl rfl rfl run_sle<|ptg rfl rfl rfl rfl<|pf0 rfl rfl rfl<|.fin<|cd H rfl (fun _ H=>?_) (fun _ H=>?_)
 rotate_left
 ·
  exact WP.skip<|rg 2 0<|bn0 rfl rfl rfl run_add<|mv0 rfl rfl<|.fin<|bk j1211 (w64 (x1198 + 1)) H
 refine WP.seq<|rg 1 0<|as0 rfl rfl<|.fin<|WP.exit ?_
 have H:=H.out
 exact jn (false,x1198,decide (x1198 < (a0.fParents.length:Int))) H
theorem dag_Dag_Has.c {a0:DDag} {a1:ByteArray} {v0_0:OV} {b0_:Nat} {r:Bool} (h:dag_Dag_Has.f a0 a1 = some r):Tr Tryz.prog 92 [eq (.pointer (some ⟨b0_,0,none⟩)),vS a1] [blk b0_ 159 [vS a0.froom,eq v0_0.1],mpo Value.string DNode.O v0_0.1 a0.fnodes] (γ:=Unit) (fun _=>True) (fun g=>vB r) (fun g=>[blk b0_ 159 [vS a0.froom,eq v0_0.1],mpo Value.string DNode.O v0_0.1 a0.fnodes]):=by
 unfold dag_Dag_Has.f at h
 refine Tr.body Tryz.func92 (c:=_) rfl Tryz.ntmps92 (Nat.le_of_ble_eq_true rfl) fun R0 F=>?_
 replace h:=Gets.of h
 have H:=h
 clear h
 refine WP.seq<|rg 1 0<|as0 rfl rfl<|.fin<|WP.seq<|rg 8 0<|mv0 rfl rfl<|Dv.nilp rfl trivial rfl<|fb rfl trivial rfl fa159_1<|ld 0 rfl trivial rfl sc157 rfl rfl<|mv0 rfl rfl<|vg (mpo_opn 1 rfl) fun z1230 h1231=>?_
 refine Dv.mlv nilP rfl trivial rfl (mem_at 0 rfl) rfl Tryz.underlying157 (keyOk_str Tryz.underlying9) z161 (fun _=>rfl)<|Dv.pm1 (pm_nil h1231 rfl) rfl trivial rfl rfl Tryz.underlying161<|as0 rfl rfl<|.fin<|wg (mpo_shut h1231 rfl (pm 3 [0,1,2])) fun _ _=>?_
 cases H.out; exact rt i2 rfl () 2 [1,0] 0 (.cons (res_tmp rfl) .nil)
theorem slices_ContainsFunc_string_x.c {k:Nat} {a0:List ByteArray} {a1:(ByteArray→Option Bool)} {X1_:As} {r:Bool} (h:slices_ContainsFunc_string_x.f k a0 a1 = some r):Tr Tryz.prog 93 [sl strK a0,fx_string_bool X1_ a1] [X1_] (γ:=Unit) (fun _=>True) (fun g=>vB r) (fun g=>[X1_]):=by
 unfold slices_ContainsFunc_string_x.f at h
 refine Tr.body Tryz.func93 (c:=_) rfl Tryz.ntmps93 (Nat.le_of_ble_eq_true rfl) fun R0 F=>?_
 replace h:=Gets.of h
 have H:=h
 clear h
 refine WP.seq<|rg 1 0<|as0 rfl rfl<|.fin<|WP.seq<|rg 5 0<|mv0 rfl rfl<|mv0 rfl rfl<|el H fun t1234 h1235 H=>cll 1 [0] cal123 (slices_IndexFunc_string_x.c h1235 (X1_:=X1_)) ?_
 refine bn0 rfl rfl rfl run_ge<|as0 rfl rfl<|.fin ?_
 cases H.out; exact rt i2 rfl () 1 [0] 0 (.cons (res_tmp rfl) .nil)
theorem dag_Dag_Add_1.c {a0:ByteArray} {cb0_ cd0_:Nat} {cq0_ cv0_0:OV} {ch0_:cq0_.1 = .pointer (some ⟨cd0_,0,none⟩)} {c0:DDag} {r:Bool} (h:dag_Dag_Add_1.f a0 c0 = some r):Tr Tryz.prog 94 [vS a0,eq (.pointer (some ⟨cb0_,0,none⟩))] [blk cb0_ 120 [eq cq0_.1],blk cd0_ 159 [vS c0.froom,eq cv0_0.1],mpo Value.string DNode.O cv0_0.1 c0.fnodes] (γ:=Unit) (fun _=>True) (fun g=>vB r) (fun g=>[blk cb0_ 120 [eq cq0_.1],blk cd0_ 159 [vS c0.froom,eq cv0_0.1],mpo Value.string DNode.O cv0_0.1 c0.fnodes]):=by
 unfold dag_Dag_Add_1.f at h
 refine Tr.body Tryz.func94 (c:=_) rfl Tryz.ntmps94 (Nat.le_of_ble_eq_true rfl) fun R0 F=>?_
 replace h:=Gets.of h
 have H:=h
 clear h
 refine WP.seq<|rg 1 0<|as0 rfl rfl<|.fin<|WP.seq<|rg 5 0<|ld 0 rfl trivial rfl sc120 rfl rfl<|mv0 rfl rfl<|el H fun t1238 h1239 H=>cll 3 [1,2,0] cal92 (Tr.weak (dag_Dag_Has.c h1239 (b0_:=cd0_) (v0_0:=cv0_0)) (.cons (wk_ptr ch0_) (.cons wk_id .nil))) ?_
 refine un0 rfl rfl (run_not _)<|as0 rfl rfl<|.fin ?_
 cases H.out; exact rt i2 rfl () 3 [0,1,2] 0 (.cons (res_tmp rfl) .nil)
theorem dag_Dag_Add.c {k:Nat} {a0:DDag} {a1:Event} {p0_:OV} {r:Int×DDag} (h:dag_Dag_Add.f k a0 a1 = some r):Tr Tryz.prog 56 [eq p0_.1,agg (Event.enc a1)] [DDag.O p0_ a0] (γ:=Unit) (fun _=>True) (fun g=>vI r.1) (fun g=>[DDag.O p0_ r.2]):=by
 unfold dag_Dag_Add.f at h
 refine Tr.body Tryz.func56 (c:=_) rfl Tryz.ntmps56 (Nat.le_of_ble_eq_true rfl) fun R0 F=>?_
 replace h:=Gets.of h
 have H:=h
 clear h
 refine WP.seq<|rg 3 3<|Dv.box rfl trivial rfl (cells_one one_ov) nofun fun b1240=>Dv.box rfl trivial rfl cA nofun fun b1241=>as0 rfl rfl<|.fin<|WP.seq<|WP.block<|WP.seq<|wg (DDag.opn 2 rfl) fun g1242 h1243=>?_
 refine dg Tryz.checked.mixed 13 0<|lds 2 rfl trivial rfl sg55 rfl rfl<|el H fun t1244 h1245 H=>cl rfl cal91 rfl (dag_May.c h1245)<|un0 rfl rfl (run_not _)<|mv0 rfl rfl ?_
 cases c1246:!t1244
 rotate_left
 ·
  have H:=H.ct c1246
  refine sk rfl rfl<|sk rfl rfl<|sk rfl rfl<|sk rfl rfl<|sk rfl rfl<|sk rfl rfl<|sk rfl rfl<|pt0 rfl rfl rfl<|as0 rfl rfl<|.fin<|WP.cond rfl (fun _=>?_) nofun
  refine WP.seq<|rg 1 0<|as0 rfl rfl<|.fin<|wg (DDag.shut (p:=p0_) (m:=a0) (g1242.1,g1242.2) h1243 (pm 4 [0,1,2,3])) fun _ _=>?_
  cases H.out; exact rt i2 rfl () 3 [1,2,0] 2 (.cons (res_tmp rfl) .nil)
 have H:=H.cf c1246
 refine fb rfl (gg rfl) rfl fa55_1<|ld 2 rfl (gg rfl) rfl sc9 rfl rfl<|ld 3 rfl (gg rfl) rfl sc120 rfl rfl<|Dv.nilpp h1243 rfl (gg rfl) rfl<|fp h1243 rfl (gg rfl) rfl fa159_0<|ld 0 rfl (gg rfl) rfl sc9 rfl rfl<|bng rfl rfl rfl rfl run_sne<|pf0 rfl rfl rfl<|as0 rfl rfl<|.fin<|cd H rfl (fun _ H=>?_) (fun _ H=>?_)
 ·
  refine WP.seq<|rg 1 0<|as0 rfl rfl<|.fin<|wg (DDag.shut (p:=p0_) (m:=a0) (g1242.1,g1242.2) h1243 (pm 4 [0,1,2,3])) fun _ _=>?_
  cases H.out; exact rt i2 rfl () 3 [1,2,0] 2 (.cons (res_tmp rfl) .nil)
 refine WP.seq<|rg 5 0<|ld 3 rfl trivial rfl sc120 rfl rfl<|fb rfl trivial rfl fa55_0<|ld 2 rfl trivial rfl sc9 rfl rfl<|el H fun t1249 h1250 H=>cll 4 [0,1,2,3] cal92 (Tr.weak (dag_Dag_Has.c h1250 (b0_:=g1242.1) (v0_0:=g1242.2)) (.cons (wk_ptr h1243) (.cons wk_id .nil))) ?_
 refine as0 rfl rfl<|.fin<|cd H rfl (fun _ H=>?_) (fun _ H=>?_)
 ·
  refine WP.seq<|rg 1 0<|as0 rfl rfl<|.fin<|wg (DDag.shut (p:=p0_) (m:=a0) (g1242.1,g1242.2) h1243 (pm 4 [0,1,2,3])) fun _ _=>?_
  cases H.out; exact rt i2 rfl () 3 [1,2,0] 2 (.cons (res_tmp rfl) .nil)
 refine WP.seq<|rg 5 0<|fb rfl trivial rfl fa55_2<|ld 2 rfl trivial rfl sc53 rfl rfl<|Dv.mkx (Q:=fqQ_string_bool (fun a0_=>dag_Dag_Add_1.f a0_ a0)) (L:=[blk b1240 120 [eq p0_.1],blk g1242.1 159 [vS a0.froom,eq g1242.2.1],mpo Value.string DNode.O g1242.2.1 a0.fnodes]) cal94 (by rintro _ _ ⟨a0_,r_,h_,rfl,rfl⟩; exact dag_Dag_Add_1.c h_ (cb0_:=b1240) (cq0_:=p0_) (cd0_:=g1242.1) (ch0_:=h1243) (cv0_0:=g1242.2)) rfl trivial rfl rfl<|el H fun t1252 h1253 H=>cll 4 [3,0,1,2] cal93 (Tr.unpkr (A:=[]) (L:=[blk b1240 120 [eq p0_.1],blk g1242.1 159 [vS a0.froom,eq g1242.2.1],mpo Value.string DNode.O g1242.2.1 a0.fnodes]) (slices_ContainsFunc_string_x.c h1253 (X1_:=(pk [blk b1240 120 [eq p0_.1],blk g1242.1 159 [vS a0.froom,eq g1242.2.1],mpo Value.string DNode.O g1242.2.1 a0.fnodes])))) ?_
 refine as0 rfl rfl<|.fin<|cd H rfl (fun _ H=>?_) (fun _ H=>?_)
 ·
  refine WP.seq<|rg 1 0<|as0 rfl rfl<|.fin<|wg (DDag.shut (p:=p0_) (m:=a0) (g1242.1,g1242.2) h1243 (pm 4 [0,1,2,3])) fun _ _=>?_
  cases H.out; exact rt i2 rfl () 3 [1,2,0] 2 (.cons (res_tmp rfl) .nil)
 refine WP.skip<|WP.seqr H id (fun p1255:Unit=>[(0,eq p0_.1),(1,agg (Event.enc a1)),(2,eq (.pointer (some ⟨b1240,0,none⟩))),(3,eq (.pointer (some ⟨b1241,0,none⟩))),(4,vI 0),(9,vB (!decide (a1.fRoom = a0.froom))),(22,vB t1249),(27,vB t1252),(34,vB (!decide (a1.fThread = (⟨#[]⟩:ByteArray))))]) (fun p1255:Unit=>[blk b1241 55 (Event.enc a1),blk b1240 120 [eq p0_.1],DDag.O p0_ a0]++F) (fun p1255 H=>?_) (fun H=>?_)
 rotate_left
 ·
  refine WP.seq<|rg 3 0<|fb rfl trivial rfl fa55_3<|ld 2 rfl trivial rfl sc9 rfl rfl<|bn0 rfl rfl rfl run_sne<|.fin<|cd H rfl (fun _ H=>?_) (fun _ H=>?_)
  rotate_left
  ·
   refine WP.skip ?_
   have H:=H.out
   refine ng (DDag.shut (p:=p0_) (m:=a0) (g1242.1,g1242.2) h1243 (pm 4 [0,1,2,3])) fun _ _=>?_
   refine ng (sg 3 [1,2,0] 0) fun _ _=>?_
   exact jn () H
  refine WP.seq<|wg (mpo_opn 1 rfl) fun z1280 h1281=>?_
  refine dg Tryz.checked.mixed 8 0<|ld 4 rfl trivial rfl sc120 rfl rfl<|Dv.nilpp h1243 rfl trivial rfl<|fp h1243 rfl trivial rfl fa159_1<|ld 2 rfl trivial rfl sc157 rfl rfl<|fb rfl trivial rfl fa55_3<|ld 3 rfl trivial rfl sc9 rfl rfl<|Dv.mlv nilP rfl trivial rfl (mem_at 0 rfl) rfl Tryz.underlying157 (keyOk_str Tryz.underlying9) z161 (fun _=>rfl)<|as0 rfl rfl<|.fin<|WP.seq<|WP.seq<|rg 2 0<|mv0 rfl rfl<|Dv.pm0 (pm_nil h1281 rfl) rfl trivial rfl rfl Tryz.underlying161<|.fin<|cd H rfl (fun _ H=>?_) (fun _ H=>?_)
  ·
   refine WP.seq<|rg 1 0<|as0 rfl rfl<|.fin<|wg (mpo_shut h1281 rfl (pm 5 [0,1,2,3,4])) fun _ _=>?_
   refine wg (DDag.shut (p:=p0_) (m:=a0) (g1242.1,g1242.2) h1243 (pm 4 [1,0,2,3])) fun _ _=>?_
   have H:=H.outr
   cases H.out; exact rt i2 rfl () 3 [1,2,0] 2 (.cons (res_tmp rfl) .nil)
  refine WP.skip<|WP.seq<|rg 14 0<|mv0 rfl rfl<|gr H fun g1283 H=>vg (mpo_foc h1281 rfl g1283 (pm 5 [1,0,2,3,4])) fun _ _=>?_
  refine Dv.nilA DNode.nn rfl trivial rfl (mem_at 0 rfl)<|vg (DNode.opn 0 rfl) fun g1284 h1285=>?_
  refine fp h1285 rfl trivial rfl fa163_0<|fb rfl trivial rfl fa55_3<|ld 0 rfl trivial rfl sc9 rfl rfl<|bn0 rfl rfl rfl run_sne<|mv0 rfl rfl ?_
  cases c1286:!decide (((((mget a0.fnodes a1.fThread).getD default).fe).fThread) = (⟨#[]⟩:ByteArray))
  rotate_left
  ·
   have H:=H.ct c1286
   refine sk rfl rfl<|sk rfl rfl<|sk rfl rfl<|sk rfl rfl<|sk rfl rfl<|sk rfl rfl<|pt0 rfl rfl rfl<|.fin<|WP.cond rfl (fun _=>?_) nofun
   refine WP.seq<|rg 1 0<|as0 rfl rfl<|.fin<|wg (DNode.shut (p:=((mget (zipK a0.fnodes z1280) a1.fThread).getD nilP)) (m:=(mget a0.fnodes a1.fThread).getD default) g1284 h1285 (pm 6 [0,1,2,3,4,5])) fun _ _=>?_
   refine wg (mpo_unf0 h1281 rfl g1283 (pm 6 [0,1,2,3,4,5])) fun _ _=>?_
   refine wg (mpo_shut h1281 rfl (pm 5 [1,0,2,3,4])) fun _ _=>?_
   refine wg (DDag.shut (p:=p0_) (m:=a0) (g1242.1,g1242.2) h1243 (pm 4 [1,0,2,3])) fun _ _=>?_
   have H:=H.outr
   cases H.out; exact rt i2 rfl () 3 [1,2,0] 2 (.cons (res_tmp rfl) .nil)
  have H:=H.cf c1286
  refine mvg rfl rfl rfl<|Dv.nilpp h1285 rfl (gg rfl) rfl<|fp h1285 rfl (gg rfl) rfl fa163_0<|fb rfl (gg rfl) rfl fa55_5<|ld 0 rfl (gg rfl) rfl sc3 rfl rfl<|bng rfl rfl rfl rfl run_ne<|pf0 rfl rfl rfl<|.fin<|cd H rfl (fun _ H=>?_) (fun _ H=>?_)
  rotate_left
  ·
   refine WP.skip ?_
   have H:=H.out
   refine ng (DNode.shut (p:=((mget (zipK a0.fnodes z1280) a1.fThread).getD nilP)) (m:=(mget a0.fnodes a1.fThread).getD default) g1284 h1285 (pm 6 [0,1,2,3,4,5])) fun _ _=>?_
   refine ng (mpo_unf0 h1281 rfl g1283 (pm 6 [0,1,2,3,4,5])) fun _ _=>?_
   refine ng (mpo_shut h1281 rfl (pm 5 [1,0,2,3,4])) fun _ _=>?_
   refine ng (DDag.shut (p:=p0_) (m:=a0) (g1242.1,g1242.2) h1243 (pm 4 [1,0,2,3])) fun _ _=>?_
   refine ng (sg 3 [1,2,0] 0) fun _ _=>?_
   exact jn () H
  refine WP.seq<|rg 1 0<|as0 rfl rfl<|.fin<|wg (DNode.shut (p:=((mget (zipK a0.fnodes z1280) a1.fThread).getD nilP)) (m:=(mget a0.fnodes a1.fThread).getD default) g1284 h1285 (pm 6 [0,1,2,3,4,5])) fun _ _=>?_
  refine wg (mpo_unf0 h1281 rfl g1283 (pm 6 [0,1,2,3,4,5])) fun _ _=>?_
  refine wg (mpo_shut h1281 rfl (pm 5 [1,0,2,3,4])) fun _ _=>?_
  refine wg (DDag.shut (p:=p0_) (m:=a0) (g1242.1,g1242.2) h1243 (pm 4 [1,0,2,3])) fun _ _=>?_
  have H:=H.outr
  cases H.out; exact rt i2 rfl () 3 [1,2,0] 2 (.cons (res_tmp rfl) .nil)
 refine WP.seq<|rg 5 8<|lds 0 rfl trivial rfl sg55 rfl rfl<|el H fun t1256 h1257 H=>cl rfl cal95 rfl (dag_own.c h1257)<|Dv.bld (qs:=[vS t1256.fID,vS t1256.fRoom,sl strK t1256.fParents,vS t1256.fThread,vS t1256.fUser,vI t1256.fDoes,vI 0,vB false]) (css:=[Event.enc t1256]) rfl trivial Tryz.underlying163 pl163 z163 rfl ⟨(cells_agg (Event.K.one _)),trivial⟩ rfl rfl<|Dv.box rfl trivial rfl cA nofun fun b1258=>as0 rfl rfl<|.fin<|WP.seqn H id (fun p1259:Int×Bool×Int×DDag=>[(0,eq p0_.1),(1,agg (Event.enc a1)),(2,eq (.pointer (some ⟨b1240,0,none⟩))),(3,eq (.pointer (some ⟨b1241,0,none⟩))),(4,vI 0),(6,eq (.pointer (some ⟨b1258,0,none⟩))),(9,vB (!decide (a1.fRoom = a0.froom))),(22,vB t1249),(27,vB t1252),(34,vB (!decide (a1.fThread = (⟨#[]⟩:ByteArray)))),(63,sl strK a1.fParents),(64,vI (a1.fParents.length:Int)),(65,vI p1259.1),(66,vB p1259.2.1)]) (fun p1259:Int×Bool×Int×DDag=>[blk b1258 163 [vS t1256.fID,vS t1256.fRoom,sl strK t1256.fParents,vS t1256.fThread,vS t1256.fUser,vI t1256.fDoes,vI p1259.2.2.1,vB false],blk b1241 55 (Event.enc a1),blk b1240 120 [eq p0_.1],DDag.O p0_ p1259.2.2.2]++F) (fun p1259 H=>?_) (fun H=>?_)
 ·
  refine WP.seq<|wg (DDag.opn 3 rfl) fun g1260 h1261=>?_
  refine wg (DNode.shut (p:=(⟨.pointer (some ⟨b1258,0,none⟩),rfl⟩:OV)) (m:=(⟨t1256,p1259.2.2.1,false⟩:DNode)) b1258 rfl (pm 5 [2,0,1,3,4])) fun _ _=>?_
  refine wg (mpo_opn 2 rfl) fun z1262 h1263=>?_
  refine dg Tryz.checked.mixed 8 128<|ld 5 rfl trivial rfl sc120 rfl rfl<|Dv.nilpp h1261 rfl trivial rfl<|fp h1261 rfl trivial rfl fa159_1<|ld 3 rfl trivial rfl sc157 rfl rfl<|fb rfl trivial rfl fa55_0<|ld 4 rfl trivial rfl sc9 rfl rfl<|mv0 rfl rfl<|Dv.mup (vp:=fun p:OV=>eq p.1) (jj:=0) (⟨.pointer (some ⟨b1258,0,none⟩),rfl⟩:OV) rfl trivial rfl rfl rfl rfl Tryz.underlying157 (keyOk_str Tryz.underlying9) (fun _=>pend_bits (by kernel_rfl))<|.fin<|WP.seq<|rg 1 0<|as0 rfl rfl<|.fin<|wg (mpo_add DNode.nn h1263 rfl (pm 6 [0,1,2,3,4,5])) fun _ _=>?_
  refine wg (DDag.shut (p:=p0_) (m:=(⟨p1259.2.2.2.froom,mput p1259.2.2.2.fnodes a1.fID (⟨t1256,p1259.2.2.1,false⟩:DNode)⟩:DDag)) (g1260.1,g1260.2) h1261 (pm 4 [1,0,2,3])) fun _ _=>?_
  cases H.out; exact rt i2 rfl () 3 [1,2,0] 2 (.cons (res_tmp rfl) .nil)
 refine WP.seq<|rg 4 0<|fb rfl trivial rfl fa55_2<|ld 1 rfl trivial rfl sc53 rfl rfl<|Dv.lenl rfl trivial rfl Tryz.underlying53<|mv0 rfl rfl<|.fin<|WP.block<|wg (sg 4 [0,1,2,3] 0) fun _ _=>?_
 refine lp (fun j_ (p1278:Int×Int×DDag)=>dag_Dag_Add.l0 k a1 j_ p1278.1 p1278.2.1 p1278.2.2) (0,0,a0) H (fun p1278=>[(0,eq p0_.1),(1,agg (Event.enc a1)),(2,eq (.pointer (some ⟨b1240,0,none⟩))),(3,eq (.pointer (some ⟨b1241,0,none⟩))),(4,vI 0),(6,eq (.pointer (some ⟨b1258,0,none⟩))),(9,vB (!decide (a1.fRoom = a0.froom))),(22,vB t1249),(27,vB t1252),(34,vB (!decide (a1.fThread = (⟨#[]⟩:ByteArray)))),(63,sl strK a1.fParents),(64,vI (a1.fParents.length:Int)),(65,vI p1278.1)]) (fun p1278=>[blk b1258 163 [vS t1256.fID,vS t1256.fRoom,sl strK t1256.fParents,vS t1256.fThread,vS t1256.fUser,vI t1256.fDoes,vI p1278.2.1,vB false],blk b1241 55 (Event.enc a1),blk b1240 120 [eq p0_.1],DDag.O p0_ p1278.2.2]++F) ?_
 rintro j_ ⟨x1264,x1265,x1266⟩ H
 rcases j_ with _ | j1277
 ·
  exact (Gets.no H).elim
 replace H:Gets (dag_Dag_Add.l0 k a1 (j1277 + 1) x1264 x1265 x1266) _:=H
 rw [dag_Dag_Add.l0] at H
 refine WP.seq<|rg 1 0<|bn0 rfl rfl rfl run_lt<|.fin<|WP.seq<|cd H rfl (fun _ H=>?_) (fun _ H=>?_)
 rotate_left
 ·
  refine WP.exit ?_
  have H:=H.out
  exact jn (x1264,decide (x1264 < (a1.fParents.length:Int)),x1265,x1266) H
 refine WP.skip<|WP.seq<|WP.block<|WP.seq<|rg 3 0<|gr H fun g1268 H=>Dv.ixr rfl trivial rfl rfl Tryz.underlying53 Tryz.underlying9 c9 g1268.1 g1268.2<|ldR rfl trivial rfl sc9 rfl<|as0 rfl rfl<|.fin<|WP.seq<|wg (DDag.opn 3 rfl) fun g1269 h1270=>?_
 refine wg (mpo_opn 1 rfl) fun z1271 h1272=>?_
 refine gr H fun g1273 H=>wg (mpo_foc h1272 rfl g1273 (pm 6 [1,0,2,3,4,5])) fun _ _=>?_
 refine wg (DNode.opn 0 rfl) fun g1274 h1275=>?_
 refine dg Tryz.checked.mixed 19 262144<|mv0 rfl rfl<|mv0 rfl rfl<|Dv.nilp rfl trivial rfl<|fb rfl trivial rfl fa163_1<|ld 4 rfl trivial rfl sc3 rfl rfl<|ld 6 rfl trivial rfl sc120 rfl rfl<|Dv.nilpp h1270 rfl trivial rfl<|fp h1270 rfl trivial rfl fa159_1<|ld 3 rfl trivial rfl sc157 rfl rfl<|mv0 rfl rfl<|Dv.mlv nilP rfl trivial rfl (mem_at 2 rfl) rfl Tryz.underlying157 (keyOk_str Tryz.underlying9) z161 (fun _=>rfl)<|Dv.nilpp h1275 rfl trivial rfl<|fp h1275 rfl trivial rfl fa163_1<|ld 0 rfl trivial rfl sc3 rfl rfl<|bn0 rfl rfl rfl run_add<|Dv.maxi rfl trivial rfl rfl<|Dv.nilp rfl trivial rfl<|fb rfl trivial rfl fa163_1<|sx 4 rfl trivial rfl rfl cE sz3 rfl rfl rfl pB ?_
 refine .fin<|rg 9 256<|ld 6 rfl trivial rfl sc120 rfl rfl<|Dv.nilpp h1270 rfl trivial rfl<|fp h1270 rfl trivial rfl fa159_1<|ld 3 rfl trivial rfl sc157 rfl rfl<|mv0 rfl rfl<|Dv.mlv nilP rfl trivial rfl (mem_at 2 rfl) rfl Tryz.underlying157 (keyOk_str Tryz.underlying9) z161 (fun _=>rfl)<|Dv.nilpp h1275 rfl trivial rfl<|fp h1275 rfl trivial rfl fa163_2<|sx 0 rfl trivial rfl rfl cE sz4 rfl rfl rfl nofun ?_
 refine .fin<|rg 2 0<|bn0 rfl rfl rfl run_add<|mv0 rfl rfl<|.fin<|ng (DNode.shut (p:=((mget (zipK x1266.fnodes z1271) (strK.at a1.fParents x1264)).getD nilP)) (m:=(⟨((mget x1266.fnodes (strK.at a1.fParents x1264)).getD default).fe,((mget x1266.fnodes (strK.at a1.fParents x1264)).getD default).fdepth,true⟩:DNode)) g1274 h1275 (pm 7 [0,1,2,3,4,5,6])) fun _ _=>?_
 refine ng (mpo_unf h1272 rfl g1273 (pm 7 [0,1,2,3,4,5,6])) fun _ h1276=>?_
 refine ng (mpo_shut h1276 (zipK_put' rfl g1273) (pm 6 [1,0,2,3,4,5])) fun _ _=>?_
 refine ng (DDag.shut (p:=p0_) (m:=(⟨x1266.froom,mput x1266.fnodes (strK.at a1.fParents x1264) (⟨((mget x1266.fnodes (strK.at a1.fParents x1264)).getD default).fe,((mget x1266.fnodes (strK.at a1.fParents x1264)).getD default).fdepth,true⟩:DNode)⟩:DDag)) (g1269.1,g1269.2) h1270 (pm 5 [1,0,2,3,4])) fun _ _=>?_
 refine ng (sg 4 [1,2,3,0] 0) fun _ _=>?_
 exact bk j1277 (w64 (x1264 + 1),max x1265 (w64 ((((mget x1266.fnodes (strK.at a1.fParents x1264)).getD default).fdepth) + 1)),(⟨x1266.froom,mput x1266.fnodes (strK.at a1.fParents x1264) (⟨((mget x1266.fnodes (strK.at a1.fParents x1264)).getD default).fe,((mget x1266.fnodes (strK.at a1.fParents x1264)).getD default).fdepth,true⟩:DNode)⟩:DDag)) H
theorem view_View_Add.c {k:Nat} {a0:VView} {a1:Event} {p0_:OV} {r:Int×VView} (h:view_View_Add.f k a0 a1 = some r):Tr Tryz.prog 19 [eq p0_.1,agg (Event.enc a1)] [VView.O p0_ a0] (γ:=Unit) (fun _=>True) (fun g=>vI r.1) (fun g=>[VView.O p0_ r.2]):=by
 unfold view_View_Add.f at h
 refine Tr.body Tryz.func19 (c:=_) rfl Tryz.ntmps19 (Nat.le_of_ble_eq_true rfl) fun R0 F=>?_
 replace h:=Gets.of h
 have H:=h
 clear h
 refine WP.seq<|rg 2 1<|Dv.box rfl trivial rfl cA nofun fun b1289=>as0 rfl rfl<|.fin<|WP.seq<|rg 5 8<|mv0 rfl rfl<|fb rfl trivial rfl fa55_1<|ld 0 rfl trivial rfl sc9 rfl rfl<|vg (VView.opn 1 rfl) fun g1290 h1291=>?_
 refine el H fun t1292 h1293 H=>cx 3 [0,1,2] cal55 (Tr.weak (view_View_room.c h1293 (b0_:=g1290.1) (v0_0:=g1290.2)) (.cons (wk_ptr h1291) (.cons wk_id .nil))) nofun fun v1294 _=>?_
 refine as0 rfl rfl<|.fin<|WP.seq<|WP.seq<|rg 4 4<|mv0 rfl rfl<|lds 3 rfl trivial rfl sg55 rfl rfl<|el H fun t1295 h1296 H=>cx 4 [2,0,1,3] cal56 (dag_Dag_Add.c h1296 (p0_:=v1294)) nofun fun _ _=>?_
 refine as0 rfl rfl<|.fin<|WP.seq<|rg 2 0<|mv0 rfl rfl<|bn0 rfl rfl rfl run_ne<|.fin<|cd H rfl (fun _ H=>?_) (fun _ H=>?_)
 ·
  refine WP.seq<|rg 2 0<|mv0 rfl rfl<|as0 rfl rfl<|.fin<|wg (mpl_back (pm 4 [2,0,1,3])) fun _ _=>?_
  refine wg (VView.shut (p:=p0_) (m:=(⟨mres a0.fdags a1.fRoom t1295.2⟩:VView)) (g1290.1,g1290.2) h1291 (pm 3 [1,0,2])) fun _ _=>?_
  cases H.out; exact rt i2 rfl () 2 [1,0] 1 (.cons (res_tmp rfl) .nil)
 refine WP.skip<|WP.seq<|wg (mpl_opn 2 rfl) fun z1298 h1299=>?_
 refine dg Tryz.checked.mixed 8 128<|mv0 rfl rfl<|Dv.nilpp h1291 rfl trivial rfl<|fp h1291 rfl trivial rfl fa95_0<|ld 3 rfl trivial rfl sc93 rfl rfl<|fb rfl trivial rfl fa55_1<|ld 4 rfl trivial rfl sc9 rfl rfl<|mv0 rfl rfl<|Dv.mup (vp:=fun p:OV=>eq p.1) (jj:=0) v1294 rfl trivial rfl rfl rfl rfl Tryz.underlying93 (keyOk_str Tryz.underlying9) (fun _=>pend_bits (by kernel_rfl))<|.fin<|WP.seq<|rg 1 0<|as0 rfl rfl<|.fin<|wg (mpl_add DDag.nn h1299 (pm 5 [0,1,2,3,4])) fun _ _=>?_
 refine wg (VView.shut (p:=p0_) (m:=(⟨mput a0.fdags a1.fRoom t1295.2⟩:VView)) (g1290.1,g1290.2) h1291 (pm 3 [1,0,2])) fun _ _=>?_
 cases H.out; exact rt i2 rfl () 2 [1,0] 1 (.cons (res_tmp rfl) .nil)
theorem r10_Of.c {k:Nat} {a0:RView} {a1:ByteArray} {r:RDag} (h:r10_Of.f k a0 a1 = some r):Pt Tryz.prog 58 [agg (RView.enc a0),vS a1] (agg (RDag.enc r)):=by
 unfold r10_Of.f at h
 refine pb Tryz.func58 Tryz.ntmps58 h fun R0 F H=>?_
 refine WP.seq<|rg 2 3<|Dv.box rfl trivial rfl cA nofun fun b1300=>al rfl trivial zc97 nofun fun b1301=>.fin<|WP.seqr H id (fun p1302:Int×Bool=>[(0,agg (RView.enc a0)),(1,vS a1),(2,eq (.pointer (some ⟨b1300,0,none⟩))),(4,eq (.pointer (some ⟨b1301,0,none⟩))),(5,vI p1302.1),(10,vB p1302.2)]) (fun p1302:Int×Bool=>[blk b1301 97 [vS (⟨#[]⟩:ByteArray),eq (.slice none 0 0)],blk b1300 44 (RView.enc a0)]++F) (fun p1302 H=>?_) (fun H=>?_)
 ·
  refine WP.seq<|rg 3 4<|mv0 rfl rfl<|Dv.bld (qs:=[vS a1,eq (.slice none 0 0)]) (css:=[[vS a1]]) rfl trivial Tryz.underlying97 pl97 z97 rfl ⟨(cells_one (one_eq rfl)),trivial⟩ rfl rfl<|sx 0 rfl trivial rfl rfl cA sz97 rfl rfl rfl nofun ?_
  refine .fin ?_
  cases H.out; exact r2 i2 rfl (.cons (res_wk (res_cells rfl Tryz.underlying97 rfl c97 (mem_at 0 rfl) rfl) (wk_agg (.cons wk_id (.cons wk_nil .nil)))) .nil)
 refine WP.seq<|rg 1 0<|as0 rfl rfl<|.fin<|WP.block<|wg (sg 2 [0,1] 0) fun _ _=>?_
 refine lp (fun j_ (p1309:Int)=>r10_Of.l0 k a0 a1 j_ p1309) 0 H (fun p1309=>[(0,agg (RView.enc a0)),(1,vS a1),(2,eq (.pointer (some ⟨b1300,0,none⟩))),(4,eq (.pointer (some ⟨b1301,0,none⟩))),(5,vI p1309)]) (fun p1309=>[blk b1301 97 [vS (⟨#[]⟩:ByteArray),eq (.slice none 0 0)],blk b1300 44 (RView.enc a0)]++F) ?_
 rintro j_ x1303 H
 rcases j_ with _ | j1308
 ·
  exact (Gets.no H).elim
 replace H:Gets (r10_Of.l0 k a0 a1 (j1308 + 1) x1303) _:=H
 rw [r10_Of.l0] at H
 refine WP.seq<|WP.seq<|rg 5 0<|mv0 rfl rfl<|fb rfl trivial rfl fa44_0<|ld 1 rfl trivial rfl sc42 rfl rfl<|Dv.lenl rfl trivial rfl Tryz.underlying42<|bn0 rfl rfl rfl run_lt<|.fin<|cd H rfl (fun _ H=>?_) (fun _ H=>?_)
 rotate_left
 ·
  refine WP.exit ?_
  have H:=H.out
  exact jn (x1303,decide (x1303 < (a0.fD.length:Int))) H
 refine WP.skip<|WP.seq<|WP.block<|WP.seq<|rg 8 0<|fb rfl trivial rfl fa44_0<|ld 1 rfl trivial rfl sc42 rfl rfl<|mv0 rfl rfl<|gr H fun g1305 H=>Dv.ixr rfl trivial rfl rfl Tryz.underlying42 Tryz.underlying97 c97 g1305.1 g1305.2<|fr rfl trivial rfl fa97_0 rfl<|ldR rfl trivial rfl sc9 rfl<|mv0 rfl rfl<|bn0 rfl rfl rfl run_seq<|.fin<|cd H rfl (fun _ H=>?_) (fun _ H=>?_)
 rotate_left
 ·
  exact WP.skip<|rg 3 0<|mv0 rfl rfl<|bn0 rfl rfl rfl run_add<|as0 rfl rfl<|.fin<|bk j1308 (w64 (x1303 + 1)) H
 refine WP.seq<|rg 6 32<|fb rfl trivial rfl fa44_0<|ld 1 rfl trivial rfl sc42 rfl rfl<|mv0 rfl rfl<|gr H fun g1307 H=>Dv.ixr rfl trivial rfl rfl Tryz.underlying42 Tryz.underlying97 c97 g1307.1 g1307.2<|ldsR rfl trivial rfl sg97 rfl<|sx 0 rfl trivial rfl rfl cA sz97 rfl rfl rfl nofun ?_
 refine .fin ?_
 have H:=H.outr
 cases H.out; exact r2 i2 rfl (.cons (res_cells rfl Tryz.underlying97 rfl c97 (mem_at 0 rfl) rfl) .nil)
theorem r10_Add.c {k:Nat} {a0:RView} {a1:Event} {r:RView×Int} (h:r10_Add.f k a0 a1 = some r):Pt Tryz.prog 20 [agg (RView.enc a0),agg (Event.enc a1)] (tup [agg (RView.enc r.1),vI r.2]):=by
 unfold r10_Add.f at h
 refine pb Tryz.func20 Tryz.ntmps20 h fun R0 F H=>?_
 refine WP.seq<|rg 4 7<|Dv.box rfl trivial rfl cA nofun fun b1310=>Dv.box rfl trivial rfl cA nofun fun b1311=>al rfl trivial zc44 nofun fun b1312=>as0 rfl rfl<|.fin<|WP.seq<|dg Tryz.checked.mixed 12 1536<|lds 2 rfl trivial rfl sg44 rfl rfl<|fb rfl trivial rfl fa55_1<|ld 1 rfl trivial rfl sc9 rfl rfl<|el H fun t1313 h1314 H=>cl rfl cal58 rfl (r10_Of.c h1314)<|lds 1 rfl trivial rfl sg55 rfl rfl<|el H fun t1315 h1316 H=>cl rfl cal57 rfl (r07_Add.c h1316)<|mv0 rfl rfl<|ex0 rfl trivial rfl rfl<|ex0 rfl trivial rfl rfl<|al rfl trivial zc97 (fun _=>(pend_in (fun _=>trivial) (pend_in (fun _=>trivial) (pend_in (fun _=>trivial) (pend_in (fun _=>trivial) (pend_in (fun _=>(mem_at 2 rfl)) (pend_in (fun _=>trivial) (pend_in (fun _=>(mem_at 2 rfl)) (pend_in (fun _=>trivial) (pend_in (fun _=>(mem_at 3 rfl)) pend_nil)))))))))) fun b1317=>sx 0 rfl trivial rfl rfl cA sz97 rfl rfl rfl (fun _=>(pend_in (fun _=>trivial) (pend_by (by kernel_rfl) (pend_by (by kernel_rfl) (pend_by (by kernel_rfl) (pend_by (by kernel_rfl) (pend_by (by kernel_rfl) (pend_by (by kernel_rfl) (pend_by (by kernel_rfl) (pend_by (by kernel_rfl) pend_nil)))))))))) ?_
 refine as0 rfl rfl<|.fin<|WP.seq<|WP.seq<|rg 2 0<|mv0 rfl rfl<|bn0 rfl rfl rfl run_ne<|.fin<|cd H rfl (fun _ H=>?_) (fun _ H=>?_)
 ·
  refine WP.seq<|rg 4 4<|lds 3 rfl trivial rfl sg44 rfl rfl<|mv0 rfl rfl<|sx 1 rfl trivial rfl rfl cA sz44 rfl rfl rfl nofun ?_
  refine as0 rfl rfl<|.fin ?_
  cases H.out; exact r4 i2 rfl (.cons (res_cells rfl Tryz.underlying44 rfl c44 (mem_at 1 rfl) rfl) (.cons (res_tmp rfl) .nil))
 refine WP.skip<|WP.seq<|rg 1 0<|as0 rfl rfl<|.fin<|WP.seq<|rg 1 0<|as0 rfl rfl<|.fin<|WP.seqn H (fun q1345:(Bool×Int×Bool×(List RDag))×OV=>q1345.1) (fun q1345:(Bool×Int×Bool×(List RDag))×OV=>[(0,agg (RView.enc a0)),(1,agg (Event.enc a1)),(2,eq (.pointer (some ⟨b1310,0,none⟩))),(3,eq (.pointer (some ⟨b1311,0,none⟩))),(4,eq (.pointer (some ⟨b1312,0,none⟩))),(5,vI 0),(6,eq (.pointer (some ⟨b1317,0,none⟩))),(7,vI t1315.2),(8,eq q1345.2.1),(9,vB q1345.1.1),(10,vI q1345.1.2.1),(21,vB (t1315.2 != 0)),(28,vB q1345.1.2.2.1)]) (fun q1345:(Bool×Int×Bool×(List RDag))×OV=>[blk b1317 97 (RDag.enc t1315.1),blk b1312 44 [eq (.slice none 0 0)],blk b1311 55 (Event.enc a1),blk b1310 44 (RView.enc a0),own RDag.K q1345.2.1 q1345.1.2.2.2]++F) (fun q1345 H=>?_) (fun H=>?_)
 ·
  obtain ⟨p1319,v1320⟩:=q1345
  refine WP.seq<|WP.seq<|rg 2 0<|mv0 rfl rfl<|un0 rfl rfl (run_not _)<|.fin<|cd H rfl (fun _ H=>?_) (fun _ H=>?_)
  rotate_left
  ·
   refine WP.skip<|WP.seq<|rg 4 4<|mv0 rfl rfl<|Dv.bld (qs:=[eq v1320.1]) (css:=[[eq v1320.1]]) rfl trivial Tryz.underlying44 pl44 z44 rfl ⟨(cells_one one_ov),trivial⟩ rfl rfl<|sx 1 rfl trivial rfl rfl cA sz44 rfl rfl rfl nofun ?_
   refine as0 rfl rfl<|.fin<|WP.gh (gh_frz (E':=[(4,eq (.pointer (some ⟨b1312,0,none⟩))),(5,vI 0)]) (l':=[blk b1317 97 (RDag.enc t1315.1),blk b1312 44 [sl RDag.K p1319.2.2.2],blk b1311 55 (Event.enc a1),blk b1310 44 (RView.enc a0)]++F) 4 rfl (cve_cons rfl cv_id (cve_cons rfl cv_id cve_nil)) (all2_app (.cons cva_id (.cons (cva_blk (.cons cv_eq .nil)) (.cons cva_id (.cons cva_id .nil)))) fun _=>cva_id)) (fun _ _=>?_)
   cases H.out; exact r4 i2 rfl (.cons (res_cells rfl Tryz.underlying44 rfl c44 (mem_at 1 rfl) rfl) (.cons (res_tmp rfl) .nil))
  refine rg 5 8<|mv0 rfl rfl<|lds 0 rfl trivial rfl sg97 rfl rfl<|Dv.lit RDag.K ([t1315.1]:List RDag) (css:=[RDag.enc t1315.1]) rfl trivial Tryz.underlying42 Tryz.underlying97 c97 z97 rfl (by decide) (by decide) rfl ⟨(cells_agg (RDag.K.one _)),trivial⟩ rfl rfl rfl<|gr H fun g1322 H=>ap RDag.K 4 ([t1315.1]:List RDag) src_sl Tryz.underlying42 (.inr ⟨_,Tryz.underlying42⟩) inf97 g1322 nofun fun v1323=>?_
  refine as0 rfl rfl<|.fin<|WP.seq<|rg 4 4<|mv0 rfl rfl<|Dv.bld (qs:=[eq v1323.1]) (css:=[[eq v1323.1]]) rfl trivial Tryz.underlying44 pl44 z44 rfl ⟨(cells_one one_ov),trivial⟩ rfl rfl<|sx 1 rfl trivial rfl rfl cA sz44 rfl rfl rfl nofun ?_
  refine as0 rfl rfl<|.fin<|WP.gh (gh_frz (E':=[(4,eq (.pointer (some ⟨b1312,0,none⟩))),(5,vI 0)]) (l':=[blk b1317 97 (RDag.enc t1315.1),blk b1312 44 [sl RDag.K (p1319.2.2.2++([t1315.1]:List RDag))],blk b1311 55 (Event.enc a1),blk b1310 44 (RView.enc a0)]++F) 4 rfl (cve_cons rfl cv_id (cve_cons rfl cv_id cve_nil)) (all2_app (.cons cva_id (.cons (cva_blk (.cons cv_eq .nil)) (.cons cva_id (.cons cva_id .nil)))) fun _=>cva_id)) (fun _ _=>?_)
  cases H.out; exact r4 i2 rfl (.cons (res_cells rfl Tryz.underlying44 rfl c44 (mem_at 1 rfl) rfl) (.cons (res_tmp rfl) .nil))
 refine WP.seq<|rg 1 0<|as0 rfl rfl<|.fin<|WP.block<|wg (st_nil RDag.K none) fun _ _=>?_
 refine wg (sg 5 [1,2,3,4,0] 0) fun _ _=>?_
 refine lp (fun j_ (p1344:Bool×Int×(List RDag)×OV)=>r10_Add.l0 k a0 a1 t1315 j_ p1344.1 p1344.2.1 p1344.2.2.1) (false,0,([]:List RDag),nilV) H (fun p1344=>[(0,agg (RView.enc a0)),(1,agg (Event.enc a1)),(2,eq (.pointer (some ⟨b1310,0,none⟩))),(3,eq (.pointer (some ⟨b1311,0,none⟩))),(4,eq (.pointer (some ⟨b1312,0,none⟩))),(5,vI 0),(6,eq (.pointer (some ⟨b1317,0,none⟩))),(7,vI t1315.2),(8,eq p1344.2.2.2.1),(9,vB p1344.1),(10,vI p1344.2.1),(21,vB (t1315.2 != 0))]) (fun p1344=>[blk b1317 97 (RDag.enc t1315.1),blk b1312 44 [eq (.slice none 0 0)],blk b1311 55 (Event.enc a1),blk b1310 44 (RView.enc a0),own RDag.K p1344.2.2.2.1 p1344.2.2.1]++F) ?_
 rintro j_ ⟨x1324,x1325,x1326,v1327⟩ H
 rcases j_ with _ | j1343
 ·
  exact (Gets.no H).elim
 replace H:Gets (r10_Add.l0 k a0 a1 t1315 (j1343 + 1) x1324 x1325 x1326) _:=H
 rw [r10_Add.l0] at H
 refine WP.seq<|WP.seq<|rg 5 0<|mv0 rfl rfl<|fb rfl trivial rfl fa44_0<|ld 3 rfl trivial rfl sc42 rfl rfl<|Dv.lenl rfl trivial rfl Tryz.underlying42<|bn0 rfl rfl rfl run_lt<|.fin<|cd H rfl (fun _ H=>?_) (fun _ H=>?_)
 rotate_left
 ·
  refine WP.exit ?_
  have H:=H.out
  exact jn ((x1324,x1325,decide (x1325 < (a0.fD.length:Int)),x1326),v1327) H
 refine WP.skip<|WP.seq<|WP.block<|WP.seqn H (fun q1342:(Bool×Bool×(List RDag))×OV=>q1342.1) (fun q1342:(Bool×Bool×(List RDag))×OV=>[(0,agg (RView.enc a0)),(1,agg (Event.enc a1)),(2,eq (.pointer (some ⟨b1310,0,none⟩))),(3,eq (.pointer (some ⟨b1311,0,none⟩))),(4,eq (.pointer (some ⟨b1312,0,none⟩))),(5,vI 0),(6,eq (.pointer (some ⟨b1317,0,none⟩))),(7,vI t1315.2),(8,eq q1342.2.1),(9,vB q1342.1.1),(10,vI x1325),(21,vB (t1315.2 != 0)),(28,vB (decide (x1325 < (a0.fD.length:Int)))),(43,vB q1342.1.2.1)]) (fun q1342:(Bool×Bool×(List RDag))×OV=>[blk b1317 97 (RDag.enc t1315.1),blk b1312 44 [eq (.slice none 0 0)],blk b1311 55 (Event.enc a1),blk b1310 44 (RView.enc a0),own RDag.K q1342.2.1 q1342.1.2.2]++F) (fun q1342 H=>?_) (fun H=>?_)
 ·
  obtain ⟨p1329,v1330⟩:=q1342
  refine WP.seq<|dg Tryz.checked.mixed 9 0<|fb rfl trivial rfl fa44_0<|ld 3 rfl trivial rfl sc42 rfl rfl<|mv0 rfl rfl<|gr H fun g1331 H=>Dv.ixr rfl trivial rfl rfl Tryz.underlying42 Tryz.underlying97 c97 g1331.1 g1331.2<|fr rfl trivial rfl fa97_0 rfl<|ldR rfl trivial rfl sc9 rfl<|fb rfl trivial rfl fa55_1<|ld 2 rfl trivial rfl sc9 rfl rfl<|bn0 rfl rfl rfl run_sne<|.fin<|cd H rfl (fun _ H=>?_) (fun _ H=>?_)
  rotate_left
  ·
   exact WP.skip<|rg 3 0<|mv0 rfl rfl<|bn0 rfl rfl rfl run_add<|as0 rfl rfl<|.fin<|bk j1343 (p1329.1,w64 (x1325 + 1),p1329.2.2,v1330) H
  refine rg 9 128<|mv0 rfl rfl<|fb rfl trivial rfl fa44_0<|ld 3 rfl trivial rfl sc42 rfl rfl<|mv0 rfl rfl<|gr H fun g1333 H=>Dv.ixr rfl trivial rfl rfl Tryz.underlying42 Tryz.underlying97 c97 g1333.1 g1333.2<|ldsR rfl trivial rfl sg97 rfl<|Dv.lit RDag.K ([RDag.K.at a0.fD x1325]:List RDag) (css:=[RDag.enc (RDag.K.at a0.fD x1325)]) rfl trivial Tryz.underlying42 Tryz.underlying97 c97 z97 rfl (by decide) (by decide) rfl ⟨(cells_agg (RDag.K.one _)),trivial⟩ rfl rfl rfl<|gr H fun g1334 H=>ap RDag.K 4 ([RDag.K.at a0.fD x1325]:List RDag) src_sl Tryz.underlying42 (.inr ⟨_,Tryz.underlying42⟩) inf97 g1334 nofun fun v1335=>?_
  exact as0 rfl rfl<|.fin<|rg 3 0<|mv0 rfl rfl<|bn0 rfl rfl rfl run_add<|as0 rfl rfl<|.fin<|bk j1343 (p1329.1,w64 (x1325 + 1),p1329.2.2++([RDag.K.at a0.fD x1325]:List RDag),v1335) H
 refine WP.seq<|dg Tryz.checked.mixed 13 0<|mv0 rfl rfl<|un0 rfl rfl (run_not _)<|mv0 rfl rfl ?_
 cases c1336:!x1324
 ·
  have H:=H.cf c1336
  refine sk rfl rfl<|sk rfl rfl<|sk rfl rfl<|sk rfl rfl<|sk rfl rfl<|sk rfl rfl<|sk rfl rfl<|sk rfl rfl<|sk rfl rfl<|pf0 rfl rfl rfl<|.fin<|WP.cond rfl nofun (fun _=>?_)
  refine WP.skip ?_
  have H:=H.out
  exact jn ((x1324,false,x1326),v1327) H
 have H:=H.ct c1336
 refine fb rfl (gg rfl) rfl fa55_1<|ld 2 rfl (gg rfl) rfl sc9 rfl rfl<|fb rfl (gg rfl) rfl fa44_0<|ld 3 rfl (gg rfl) rfl sc42 rfl rfl<|mvg rfl rfl rfl<|gr H fun g1337 H=>Dv.ixr rfl (gg rfl) rfl rfl Tryz.underlying42 Tryz.underlying97 c97 g1337.1 g1337.2<|fr rfl (gg rfl) rfl fa97_0 rfl<|ldR rfl (gg rfl) rfl sc9 rfl<|bng rfl rfl rfl rfl run_sle<|pt0 rfl rfl rfl<|.fin<|cd H rfl (fun _ H=>?_) (fun _ H=>?_)
 rotate_left
 ·
  refine WP.skip ?_
  have H:=H.out
  exact jn ((x1324,!sLt ((RDag.K.at a0.fD x1325).fRoom) a1.fRoom,x1326),v1327) H
 refine WP.seq<|rg 5 8<|mv0 rfl rfl<|lds 0 rfl trivial rfl sg97 rfl rfl<|Dv.lit RDag.K ([t1315.1]:List RDag) (css:=[RDag.enc t1315.1]) rfl trivial Tryz.underlying42 Tryz.underlying97 c97 z97 rfl (by decide) (by decide) rfl ⟨(cells_agg (RDag.K.one _)),trivial⟩ rfl rfl rfl<|gr H fun g1339 H=>ap RDag.K 4 ([t1315.1]:List RDag) src_sl Tryz.underlying42 (.inr ⟨_,Tryz.underlying42⟩) inf97 g1339 nofun fun v1340=>?_
 refine as0 rfl rfl<|.fin<|rg 1 0<|as0 rfl rfl<|.fin ?_
 have H:=H.out
 exact jn ((true,!sLt ((RDag.K.at a0.fD x1325).fRoom) a1.fRoom,x1326++([t1315.1]:List RDag)),v1340) H
theorem r10_Build.c {k:Nat} {a0:List Event} {r:RView} (h:r10_Build.f k a0 = some r):Pt Tryz.prog 64 [sl Event.K a0] (agg (RView.enc r)):=by
 unfold r10_Build.f at h
 refine pb Tryz.func64 Tryz.ntmps64 h fun R0 F H=>?_
 refine WP.seq<|rg 1 1<|al rfl trivial zc44 nofun fun b1346=>.fin<|WP.seq<|rg 1 1<|al rfl trivial zc44 nofun fun b1347=>.fin<|WP.seqn H id (fun p1348:Int×Bool×(List RDag)=>[(0,sl Event.K a0),(2,eq (.pointer (some ⟨b1346,0,none⟩))),(3,eq (.pointer (some ⟨b1347,0,none⟩))),(4,vI p1348.1),(10,vB p1348.2.1)]) (fun p1348:Int×Bool×(List RDag)=>[blk b1347 44 [sl RDag.K p1348.2.2],blk b1346 44 [eq (.slice none 0 0)]]++F) (fun p1348 H=>?_) (fun H=>?_)
 ·
  refine WP.seq<|rg 2 2<|lds 0 rfl trivial rfl sg44 rfl rfl<|sx 1 rfl trivial rfl rfl cA sz44 rfl rfl rfl nofun ?_
  refine .fin ?_
  cases H.out; exact r2 i2 rfl (.cons (res_cells rfl Tryz.underlying44 rfl c44 (mem_at 1 rfl) rfl) .nil)
 refine WP.seq<|rg 1 0<|as0 rfl rfl<|.fin<|WP.block<|WP.gh (gh_wk (E':=[(0,sl Event.K a0),(2,eq (.pointer (some ⟨b1346,0,none⟩))),(3,eq (.pointer (some ⟨b1347,0,none⟩))),(4,vI 0)]) (l':=[blk b1347 44 [sl RDag.K ([]:List RDag)],blk b1346 44 [eq (.slice none 0 0)]]++F) (wke_cons rfl wk_id (wke_cons rfl wk_id (wke_cons rfl wk_id (wke_cons rfl wk_id wke_nil)))) (all2_app (.cons (wka_blk (.cons wk_nil .nil)) (.cons wka_id .nil)) fun _=>wka_id)) (fun _ _=>?_)
 refine wg (sg 2 [0,1] 0) fun _ _=>?_
 refine lp (fun j_ (p1357:Int×(List RDag))=>r10_Build.l0 k a0 j_ p1357.1 p1357.2) (0,([]:List RDag)) H (fun p1357=>[(0,sl Event.K a0),(2,eq (.pointer (some ⟨b1346,0,none⟩))),(3,eq (.pointer (some ⟨b1347,0,none⟩))),(4,vI p1357.1)]) (fun p1357=>[blk b1347 44 [sl RDag.K p1357.2],blk b1346 44 [eq (.slice none 0 0)]]++F) ?_
 rintro j_ ⟨x1349,x1350⟩ H
 rcases j_ with _ | j1356
 ·
  exact (Gets.no H).elim
 replace H:Gets (r10_Build.l0 k a0 (j1356 + 1) x1349 x1350) _:=H
 rw [r10_Build.l0] at H
 refine WP.seq<|WP.seq<|rg 4 0<|mv0 rfl rfl<|mv0 rfl rfl<|Dv.lenl rfl trivial rfl Tryz.underlying28<|bn0 rfl rfl rfl run_lt<|.fin<|cd H rfl (fun _ H=>?_) (fun _ H=>?_)
 rotate_left
 ·
  refine WP.exit ?_
  have H:=H.out
  exact jn (x1349,decide (x1349 < (a0.length:Int)),x1350) H
 refine WP.skip<|WP.seq<|WP.block<|WP.seq<|dg Tryz.checked.mixed 12 1536<|lds 0 rfl trivial rfl sg44 rfl rfl<|mv0 rfl rfl<|mv0 rfl rfl<|gr H fun g1352 H=>Dv.ixr rfl trivial rfl rfl Tryz.underlying28 Tryz.underlying55 c55 g1352.1 g1352.2<|ldsR rfl trivial rfl sg55 rfl<|el H fun t1353 h1354 H=>cl rfl cal20 rfl (r10_Add.c h1354)<|mv0 rfl rfl<|ex0 rfl trivial rfl rfl<|ex0 rfl trivial rfl rfl<|al rfl trivial zc44 (fun _=>(pend_in (fun _=>trivial) (pend_in (fun _=>trivial) (pend_in (fun _=>trivial) (pend_in (fun _=>trivial) (pend_in (fun _=>trivial) (pend_in (fun _=>trivial) (pend_in (fun _=>trivial) (pend_in (fun _=>trivial) (pend_in (fun _=>(mem_at 1 rfl)) pend_nil)))))))))) fun b1355=>sx 0 rfl trivial rfl rfl cA sz44 rfl rfl rfl (fun _=>(pend_in (fun _=>trivial) (pend_by (by kernel_rfl) (pend_by (by kernel_rfl) (pend_by (by kernel_rfl) (pend_by (by kernel_rfl) (pend_by (by kernel_rfl) (pend_by (by kernel_rfl) (pend_by (by kernel_rfl) (pend_by (by kernel_rfl) pend_nil)))))))))) ?_
 refine as0 rfl rfl<|.fin<|rg 2 2<|lds 0 rfl trivial rfl sg44 rfl rfl<|sx 1 rfl trivial rfl rfl cA sz44 rfl rfl rfl nofun ?_
 refine .fin<|rg 3 0<|mv0 rfl rfl<|bn0 rfl rfl rfl run_add<|as0 rfl rfl<|.fin<|ng (sg 3 [0,1,2] 1) fun _ _=>?_
 exact bk j1356 (w64 (x1349 + 1),t1353.1.fD) H
theorem w18_open.c {k:Nat} {r:(Option VView)×RView} (h:w18_open.f k = some r):Tr Tryz.prog 25 [] [] (γ:=OV) (fun _=>True) (fun g=>tup [eq g.1,agg (RView.enc r.2)]) (fun g=>[optO VView.O g r.1]):=by
 unfold w18_open.f at h
 refine Tr.body Tryz.func25 (c:=_) rfl Tryz.ntmps25 (Nat.le_of_ble_eq_true rfl) fun R0 F=>?_
 replace h:=Gets.of h
 have H:=h
 clear h
 refine WP.seq<|rg 2 2<|as0 rfl rfl<|al rfl trivial zc44 nofun fun b1358=>.fin<|WP.seq<|rg 2 1<|el H fun t1359 h1360 H=>cx 1 [0] cal10 (view_New.c h1360) nofun fun g1361 _=>?_
 refine as0 rfl rfl<|.fin<|WP.seq<|WP.seq<|rg 2 0<|mv0 rfl rfl<|Dv.peq0 VView.nn rfl trivial rfl rfl Tryz.underlying26 (mem_at 0 rfl)<|.fin<|WP.cond rfl nofun (fun _=>?_)
 refine WP.skip<|WP.seq<|rg 1 0<|as0 rfl rfl<|.fin<|WP.seqn H (fun q1401:(Int×Bool×(List Event))×OV=>q1401.1) (fun q1401:(Int×Bool×(List Event))×OV=>[(0,eq (.pointer none)),(1,eq (.pointer (some ⟨b1358,0,none⟩))),(2,eq g1361.1),(3,eq q1401.2.1),(4,vI q1401.1.1),(9,vB false),(12,vB q1401.1.2.1)]) (fun q1401:(Int×Bool×(List Event))×OV=>[blk b1358 44 [eq (.slice none 0 0)],VView.O g1361 t1359,own Event.K q1401.2.1 q1401.1.2.2]++F) (fun q1401 H=>?_) (fun H=>?_)
 ·
  obtain ⟨p1363,v1364⟩:=q1401
  refine WP.seqr H id (fun p1365:Int×Bool×VView=>[(0,eq (.pointer none)),(1,eq (.pointer (some ⟨b1358,0,none⟩))),(2,eq g1361.1),(3,eq v1364.1),(4,vI p1363.1),(6,vI p1365.1),(9,vB false),(12,vB p1363.2.1),(32,vB p1365.2.1)]) (fun p1365:Int×Bool×VView=>[blk b1358 44 [eq (.slice none 0 0)],VView.O g1361 p1365.2.2,own Event.K v1364.1 p1363.2.2]++F) (fun p1365 H=>?_) (fun H=>?_)
  ·
   refine WP.seq<|rg 5 16<|mv0 rfl rfl<|mv0 rfl rfl<|Dv.gh (gh_frz (E':=[(0,eq (.pointer none)),(1,eq (.pointer (some ⟨b1358,0,none⟩))),(2,eq g1361.1),(3,sl Event.K p1363.2.2),(4,vI p1363.1),(6,vI p1365.1),(9,vB false),(12,vB p1363.2.1),(32,vB p1365.2.1),(43,eq g1361.1),(44,sl Event.K p1363.2.2)]) (l':=[blk b1358 44 [eq (.slice none 0 0)],VView.O g1361 p1365.2.2]++F) 2 rfl (cve_cons rfl cv_id (cve_cons rfl cv_id (cve_cons rfl cv_id (cve_cons rfl cv_eq (cve_cons rfl cv_id (cve_cons rfl cv_id (cve_cons rfl cv_id (cve_cons rfl cv_id (cve_cons rfl cv_id (cve_cons rfl cv_id (cve_cons rfl cv_eq cve_nil))))))))))) (all2_app (.cons cva_id (.cons cva_id .nil)) fun _=>cva_id)) (fun _ _=>?_)
   refine el H fun t1366 h1367 H=>cl rfl cal64 rfl (r10_Build.c h1367)<|as0 rfl rfl<|sx 0 rfl trivial rfl rfl cA sz44 rfl rfl rfl nofun ?_
   refine .fin ?_
   obtain rfl:=Gets.out H
   exact rt i2 rfl g1361 2 [0,1] 1 (.cons (res_tmp rfl) (.cons (res_cells rfl Tryz.underlying44 rfl c44 (mem_at 0 rfl) rfl) .nil))
  refine WP.seq<|rg 1 0<|as0 rfl rfl<|.fin<|WP.block<|wg (sg 3 [0,1,2] 0) fun _ _=>?_
  refine lp (fun j_ (p1377:Int×VView)=>w18_open.l0 k p1363 j_ p1377.1 p1377.2) (0,t1359) H (fun p1377=>[(0,eq (.pointer none)),(1,eq (.pointer (some ⟨b1358,0,none⟩))),(2,eq g1361.1),(3,eq v1364.1),(4,vI p1363.1),(6,vI p1377.1),(9,vB false),(12,vB p1363.2.1)]) (fun p1377=>[blk b1358 44 [eq (.slice none 0 0)],VView.O g1361 p1377.2,own Event.K v1364.1 p1363.2.2]++F) ?_
  rintro j_ ⟨x1368,x1369⟩ H
  rcases j_ with _ | j1376
  ·
   exact (Gets.no H).elim
  replace H:Gets (w18_open.l0 k p1363 (j1376 + 1) x1368 x1369) _:=H
  rw [w18_open.l0] at H
  refine WP.seq<|WP.seq<|rg 4 0<|mv0 rfl rfl<|mv0 rfl rfl<|Dv.lenw rfl trivial rfl (mem_at 2 rfl) Tryz.underlying28<|bn0 rfl rfl rfl run_lt<|.fin<|cd H rfl (fun _ H=>?_) (fun _ H=>?_)
  rotate_left
  ·
   refine WP.exit ?_
   have H:=H.out
   exact jn (x1368,decide (x1368 < (p1363.2.2.length:Int)),x1369) H
  refine WP.skip<|WP.seq<|WP.block<|WP.seq<|rg 7 32<|mv0 rfl rfl<|mv0 rfl rfl<|mv0 rfl rfl<|gr H fun g1371 H=>?_
  have h1372:x1368.toNat < p1363.2.2.length:=idx_lt g1371
  refine Dv.ixw rfl trivial rfl (mem_at 2 rfl) rfl Tryz.underlying28 Tryz.underlying55 c55 g1371.1 g1371.2<|Dv.ldws (j:=x1368.toNat) (f:=0) rfl trivial rfl (mem_at 2 rfl) h1372 Tryz.underlying55 rfl c55 (Nat.le_of_ble_eq_true rfl)<|el H fun t1373 h1374 H=>cx 3 [1,0,2] cal19 (view_View_Add.c h1374 (p0_:=g1361)) nofun fun _ _=>?_
  refine bn0 rfl rfl rfl run_ne<|.fin<|cd H rfl (fun _ H=>?_) (fun _ H=>?_)
  rotate_left
  ·
   refine WP.skip<|rg 3 0<|mv0 rfl rfl<|bn0 rfl rfl rfl run_add<|as0 rfl rfl<|.fin<|ng (sg 3 [1,0,2] 0) fun _ _=>?_
   exact bk j1376 (w64 (x1368 + 1),t1373.2) H
  refine WP.seq<|rg 3 4<|Dv.bld (qs:=[eq (.slice none 0 0)]) (css:=[]) rfl trivial Tryz.underlying44 pl44 z44 rfl trivial rfl rfl<|as0 rfl rfl<|sx 1 rfl trivial rfl rfl cA sz44 rfl rfl rfl nofun ?_
  refine .fin<|wg (st_nilP (O:=VView.O)) fun _ _=>?_
  have H:=H.outr
  obtain rfl:=Gets.out H
  exact rt i2 rfl nilP 4 [1,2,3,0] 3 (.cons (res_tmp rfl) (.cons (res_wk (res_cells rfl Tryz.underlying44 rfl c44 (mem_at 2 rfl) rfl) (wk_agg (.cons wk_nil .nil))) .nil))
 refine WP.seq<|rg 1 0<|as0 rfl rfl<|.fin<|WP.block<|wg (st_nil Event.K none) fun _ _=>?_
 refine wg (sg 3 [2,1,0] 0) fun _ _=>?_
 refine lp (fun j_ (p1400:Int×(List Event)×OV)=>w18_open.l1 k j_ p1400.1 p1400.2.1) (0,([]:List Event),nilV) H (fun p1400=>[(0,eq (.pointer none)),(1,eq (.pointer (some ⟨b1358,0,none⟩))),(2,eq g1361.1),(3,eq p1400.2.2.1),(4,vI p1400.1),(9,vB false)]) (fun p1400=>[blk b1358 44 [eq (.slice none 0 0)],VView.O g1361 t1359,own Event.K p1400.2.2.1 p1400.2.1]++F) ?_
 rintro j_ ⟨x1378,x1379,v1380⟩ H
 rcases j_ with _ | j1399
 ·
  exact (Gets.no H).elim
 replace H:Gets (w18_open.l1 k (j1399 + 1) x1378 x1379) _:=H
 rw [w18_open.l1] at H
 refine WP.seq<|WP.seq<|rg 2 0<|mv0 rfl rfl<|bn0 rfl rfl rfl run_lt<|.fin<|cd H rfl (fun _ H=>?_) (fun _ H=>?_)
 rotate_left
 ·
  refine WP.exit ?_
  have H:=H.out
  exact jn ((x1378,decide (x1378 < 2),x1379),v1380) H
 refine WP.skip<|WP.seqn H (fun q1398:(Int×Bool×(List Event))×OV=>q1398.1) (fun q1398:(Int×Bool×(List Event))×OV=>[(0,eq (.pointer none)),(1,eq (.pointer (some ⟨b1358,0,none⟩))),(2,eq g1361.1),(3,eq q1398.2.1),(4,vI x1378),(5,vI q1398.1.1),(9,vB false),(12,vB (decide (x1378 < 2))),(16,vB q1398.1.2.1)]) (fun q1398:(Int×Bool×(List Event))×OV=>[blk b1358 44 [eq (.slice none 0 0)],VView.O g1361 t1359,own Event.K q1398.2.1 q1398.1.2.2]++F) (fun q1398 H=>?_) (fun H=>?_)
 ·
  obtain ⟨p1382,v1383⟩:=q1398
  exact rg 3 0<|mv0 rfl rfl<|bn0 rfl rfl rfl run_add<|as0 rfl rfl<|.fin<|bk j1399 (w64 (x1378 + 1),p1382.2.2,v1383) H
 refine WP.block<|WP.seq<|rg 1 0<|as0 rfl rfl<|.fin<|WP.block<|wg (sg 3 [0,1,2] 0) fun _ _=>?_
 refine lp (fun j_ (p1397:Int×(List Event)×OV)=>w18_open.l2 k x1378 j_ p1397.1 p1397.2.1) (0,x1379,v1380) H (fun p1397=>[(0,eq (.pointer none)),(1,eq (.pointer (some ⟨b1358,0,none⟩))),(2,eq g1361.1),(3,eq p1397.2.2.1),(4,vI x1378),(5,vI p1397.1),(9,vB false),(12,vB (decide (x1378 < 2)))]) (fun p1397=>[blk b1358 44 [eq (.slice none 0 0)],VView.O g1361 t1359,own Event.K p1397.2.2.1 p1397.2.1]++F) ?_
 rintro j_ ⟨x1384,x1385,v1386⟩ H
 rcases j_ with _ | j1396
 ·
  exact (Gets.no H).elim
 replace H:Gets (w18_open.l2 k x1378 (j1396 + 1) x1384 x1385) _:=H
 rw [w18_open.l2] at H
 refine WP.seq<|WP.seq<|rg 2 0<|mv0 rfl rfl<|bn0 rfl rfl rfl run_lt<|.fin<|cd H rfl (fun _ H=>?_) (fun _ H=>?_)
 rotate_left
 ·
  refine WP.exit ?_
  have H:=H.out
  exact jn ((x1384,decide (x1384 < 9),x1385),v1386) H
 refine WP.skip<|WP.seq<|WP.block<|rg 11 512<|mv0 rfl rfl<|mv0 rfl rfl<|el H fun t1388 h1389 H=>cl rfl cal63 rfl (r01_EventOf.c h1389)<|mv0 rfl rfl<|el H fun t1390 h1391 H=>cl rfl cal26 rfl (r01_RoomOf.c h1391)<|mv0 rfl rfl<|el H fun t1392 h1393 H=>cl rfl cal27 rfl (r01_UserOf.c h1393)<|Dv.bld (qs:=[vS t1388,vS t1390,eq (.slice none 0 0),vS (⟨#[]⟩:ByteArray),vS t1392,vI 1]) (css:=[[vS t1388],[vS t1390],[vS t1392],[vI 1]]) rfl trivial Tryz.underlying55 pl55 z55 rfl ⟨(cells_one (one_eq rfl)),⟨(cells_one (one_eq rfl)),⟨(cells_one (one_eq rfl)),⟨(cells_one (one_eq rfl)),trivial⟩⟩⟩⟩ rfl rfl<|Dv.gh (gh_wk (E':=[(0,eq (.pointer none)),(1,eq (.pointer (some ⟨b1358,0,none⟩))),(2,eq g1361.1),(3,eq v1386.1),(4,vI x1378),(5,vI x1384),(9,vB false),(12,vB (decide (x1378 < 2))),(16,vB (decide (x1384 < 9))),(19,eq v1386.1),(26,agg [vS t1388,vS t1390,sl strK ([]:List ByteArray),vS (⟨#[]⟩:ByteArray),vS t1392,vI 1])]) (l':=[blk b1358 44 [eq (.slice none 0 0)],VView.O g1361 t1359,own Event.K v1386.1 x1385]++F) (wke_cons rfl wk_id (wke_cons rfl wk_id (wke_cons rfl wk_id (wke_cons rfl wk_id (wke_cons rfl wk_id (wke_cons rfl wk_id (wke_cons rfl wk_id (wke_cons rfl wk_id (wke_cons rfl wk_id (wke_cons rfl wk_id (wke_cons rfl (wk_agg (.cons wk_id (.cons wk_id (.cons wk_nil (.cons wk_id (.cons wk_id (.cons wk_id .nil))))))) wke_nil))))))))))) (all2_app (.cons wka_id (.cons wka_id (.cons wka_id .nil))) fun _=>wka_id)) (fun _ _=>?_)
 refine Dv.lit Event.K ([(⟨t1388,t1390,([]:List ByteArray),(⟨#[]⟩:ByteArray),t1392,1⟩:Event)]:List Event) (css:=[[vS t1388,vS t1390,sl strK ([]:List ByteArray),vS (⟨#[]⟩:ByteArray),vS t1392,vI 1]]) rfl trivial Tryz.underlying28 Tryz.underlying55 c55 z55 rfl (by decide) (by decide) rfl ⟨(cells_agg (ones_cons (one_eq rfl) (ones_cons (one_eq rfl) (ones_cons one_sl (ones_cons (one_eq rfl) (ones_cons (one_eq rfl) (ones_cons (one_eq rfl) ones_nil))))))),trivial⟩ rfl rfl rfl<|gr H fun g1394 H=>ap Event.K 2 ([(⟨t1388,t1390,([]:List ByteArray),(⟨#[]⟩:ByteArray),t1392,1⟩:Event)]:List Event) src_sl Tryz.underlying28 (.inr ⟨_,Tryz.underlying28⟩) inf55 g1394 nofun fun v1395=>?_
 exact as0 rfl rfl<|.fin<|rg 3 0<|mv0 rfl rfl<|bn0 rfl rfl rfl run_add<|as0 rfl rfl<|.fin<|bk j1396 (w64 (x1384 + 1),x1385++([(⟨t1388,t1390,([]:List ByteArray),(⟨#[]⟩:ByteArray),t1392,1⟩:Event)]:List Event),v1395) H
theorem w18_lives.c {k:Nat} {r:Bool} (h:w18_lives.f k = some r):Pt Tryz.prog 21 [] (vB r):=by
 unfold w18_lives.f at h
 refine pb Tryz.func21 Tryz.ntmps21 h fun R0 F H=>?_
 refine WP.seq<|rg 1 0<|as0 rfl rfl<|.fin<|WP.seq<|rg 7 81<|el H fun t1402 h1403 H=>cx 0 [] cal25 (w18_open.c h1403) nofun fun g1404 _=>?_
 refine mv0 rfl rfl<|ex0 rfl trivial rfl rfl<|ex0 rfl trivial rfl rfl<|al rfl trivial zc44 nofun fun b1405=>as0 rfl rfl<|sx 0 rfl trivial rfl rfl cA sz44 rfl rfl rfl nofun ?_
 refine .fin<|WP.seq<|rg 2 1<|el H fun t1406 h1407 H=>cx 2 [0,1] cal9 (w18_begin.c h1407) nofun fun g1408 _=>?_
 refine as0 rfl rfl<|.fin<|WP.seq<|WP.seq<|rg 6 0<|mv0 rfl rfl<|Dv.oeq0 (fun _=>VView.nn) rfl trivial rfl rfl Tryz.underlying26 (mem_at 2 rfl)<|mv0 rfl rfl ?_
 rcases bem t1402.1.isNone with c1409 | c1409
 rotate_left
 ·
  have H:=H.ct c1409
  refine Dv.gh (gh_sh 15 c1409 rfl) (fun _ _=>?_)
  refine Dv.gh (gh_sh 16 c1409 rfl) (fun _ _=>?_)
  refine sk rfl rfl<|sk rfl rfl<|pt0 rfl rfl rfl<|.fin<|WP.cond rfl (fun _=>?_) nofun
  refine WP.seq<|rg 1 0<|as0 rfl rfl<|.fin ?_
  cases H.out; exact r3 i2 rfl (.cons (res_tmp rfl) .nil)
 have H:=H.cf c1409
 refine Dv.gh (gh_sh 15 c1409 rfl) (fun _ _=>?_)
 refine Dv.gh (gh_sh 16 c1409 rfl) (fun _ _=>?_)
 refine mvg rfl rfl rfl<|Dv.oeq0 (fun _=>SSnd.nn) rfl (gg rfl) rfl rfl Tryz.underlying24 (mem_at 0 rfl)<|pf0 rfl rfl rfl<|.fin<|cd H rfl (fun _ H=>?_) (fun c1411 H=>?_)
 ·
  refine WP.seq<|wg (opt_some 2 rfl c1409) fun _ _=>?_
  refine rg 1 0<|as0 rfl rfl<|.fin ?_
  cases H.out; exact r3 i2 rfl (.cons (res_tmp rfl) .nil)
 refine wg (opt_some 0 rfl c1411) fun _ _=>?_
 refine WP.skip<|WP.seq<|wg (opt_some 2 rfl c1409) fun _ _=>?_
 refine rg 6 32<|mv0 rfl rfl<|Dv.nilA SSnd.nn rfl trivial rfl (mem_at 1 rfl)<|vg (SSnd.opn 1 rfl) fun g1412 h1413=>?_
 refine fp h1413 rfl trivial rfl fa40_0<|ld 0 rfl trivial rfl sc36 rfl rfl<|Dv.bld (qs:=[vI 3,vS (⟨#[]⟩:ByteArray),vS (⟨#[64,97,58,115,49]⟩:ByteArray),vS (⟨#[]⟩:ByteArray),vS (⟨#[]⟩:ByteArray),vB false,vB false,vI 0,vI 2,vI 0,vI 0]) (css:=[[vI 3],[vS (⟨#[64,97,58,115,49]⟩:ByteArray)],[vI 2]]) rfl trivial Tryz.underlying32 pl32 z32 rfl ⟨(cells_one (one_eq rfl)),⟨(cells_one (one_eq rfl)),⟨(cells_one (one_eq rfl)),trivial⟩⟩⟩ rfl rfl<|el H fun t1414 h1415 H=>cx 6 [1,0,2,3,4,5] cal13 (queue_Queue_Put.c h1415 (p0_:=g1412.2.1)) nofun fun _ _=>?_
 refine .fin<|WP.seq<|rg 1 0<|as0 rfl rfl<|.fin<|WP.seqn H id (fun p1416:ByteArray×Int×Bool×SSnd=>[(0,vB false),(1,eq g1404.1),(3,eq g1408.1),(4,vS p1416.1),(5,vI p1416.2.1),(19,vB t1406.isNone),(27,vB p1416.2.2.1)]) (fun p1416:ByteArray×Int×Bool×SSnd=>[blk b1405 44 (RView.enc t1402.2),SSnd.O g1408 p1416.2.2.2,VView.O g1404 (t1402.1.getD default)]++F) (fun p1416 H=>?_) (fun H=>?_)
 ·
  refine WP.seq<|rg 3 0<|mv0 rfl rfl<|bn0 rfl rfl rfl run_seq<|as0 rfl rfl<|.fin ?_
  cases H.out; exact r3 i2 rfl (.cons (res_tmp rfl) .nil)
 refine WP.seq<|rg 1 0<|as0 rfl rfl<|.fin<|WP.block<|wg (SSnd.shut (p:=g1408) (m:=(⟨t1414.2.2.2,(t1406.getD default).fself,(t1406.getD default).fto,(t1406.getD default).fids,(t1406.getD default).fair⟩:SSnd)) (g1412.1,g1412.2.1,g1412.2.2.1,g1412.2.2.2) h1413 (pm 6 [1,0,2,3,4,5])) fun _ _=>?_
 refine wg (sg 3 [2,0,1] 0) fun _ _=>?_
 refine lp (fun j_ (p1430:ByteArray×Int×SSnd)=>w18_lives.l0 k t1402 j_ p1430.1 p1430.2.1 p1430.2.2) ((⟨#[]⟩:ByteArray),0,(⟨t1414.2.2.2,(t1406.getD default).fself,(t1406.getD default).fto,(t1406.getD default).fids,(t1406.getD default).fair⟩:SSnd)) H (fun p1430=>[(0,vB false),(1,eq g1404.1),(3,eq g1408.1),(4,vS p1430.1),(5,vI p1430.2.1),(19,vB t1406.isNone)]) (fun p1430=>[blk b1405 44 (RView.enc t1402.2),SSnd.O g1408 p1430.2.2,VView.O g1404 (t1402.1.getD default)]++F) ?_
 rintro j_ ⟨x1417,x1418,x1419⟩ H
 rcases j_ with _ | j1429
 ·
  exact (Gets.no H).elim
 replace H:Gets (w18_lives.l0 k t1402 (j1429 + 1) x1417 x1418 x1419) _:=H
 rw [w18_lives.l0] at H
 refine WP.seq<|WP.seq<|rg 2 0<|mv0 rfl rfl<|bn0 rfl rfl rfl run_lt<|.fin<|cd H rfl (fun _ H=>?_) (fun _ H=>?_)
 rotate_left
 ·
  refine WP.exit ?_
  have H:=H.out
  exact jn (x1417,x1418,decide (x1418 < 48),x1419) H
 refine WP.skip<|WP.seq<|WP.block<|WP.seq<|rg 12 776<|mv0 rfl rfl<|mv0 rfl rfl<|mv0 rfl rfl<|el H fun t1421 h1422 H=>cx 3 [1,2,0] cal15 (sender_Sender_Send.c h1422 (p0_:=g1408) (p1_:=g1404)) nofun fun _ _=>?_
 refine mv0 rfl rfl<|ex0 rfl trivial rfl rfl<|ex0 rfl trivial rfl rfl<|ex0 rfl trivial rfl rfl<|al rfl trivial zc46 nofun fun b1423=>sx 0 rfl trivial rfl rfl cA sz46 rfl rfl rfl nofun ?_
 refine as0 rfl rfl<|as0 rfl rfl<|.fin<|WP.seq<|rg 1 0<|mv0 rfl rfl<|.fin<|cd H rfl (fun _ H=>?_) (fun _ H=>?_)
 rotate_left
 ·
  refine WP.skip<|rg 3 0<|mv0 rfl rfl<|bn0 rfl rfl rfl run_add<|as0 rfl rfl<|.fin<|ng (sg 4 [0,3,1,2] 1) fun _ _=>?_
  exact bk j1429 (x1417,w64 (x1418 + 1),t1421.2.2.2) H
 refine rg 6 0<|mv0 rfl rfl<|gr H fun g1425 H=>bn0 rfl rfl rfl (run_cat g1425)<|mv0 rfl rfl<|el H fun t1426 h1427 H=>cl rfl cal28 rfl (r01_Decimal.c _ h1427)<|gr H fun g1428 H=>bn0 rfl rfl rfl (run_cat g1428)<|as0 rfl rfl<|.fin<|rg 3 0<|mv0 rfl rfl<|bn0 rfl rfl rfl run_add<|as0 rfl rfl<|.fin<|ng (sg 4 [0,3,1,2] 1) fun _ _=>?_
 exact bk j1429 ((x1417++(⟨#[32]⟩:ByteArray))++t1426,w64 (x1418 + 1),t1421.2.2.2) H
theorem sender_Sender_Ack.c {a0:SSnd} {a1:Int} {p0_:OV} {r:Bool×SSnd} (h:sender_Sender_Ack.f a0 a1 = some r):Tr Tryz.prog 29 [eq p0_.1,vI a1] [SSnd.O p0_ a0] (γ:=Unit) (fun _=>True) (fun g=>vB r.1) (fun g=>[SSnd.O p0_ r.2]):=by
 unfold sender_Sender_Ack.f at h
 refine Tr.body Tryz.func29 (c:=_) rfl Tryz.ntmps29 (Nat.le_of_ble_eq_true rfl) fun R0 F=>?_
 replace h:=Gets.of h
 have H:=h
 clear h
 refine WP.seq<|rg 1 0<|as0 rfl rfl<|.fin<|WP.seq<|WP.seq<|rg 17 0<|mv0 rfl rfl<|Dv.nilA SSnd.nn rfl trivial rfl (mem_at 0 rfl)<|vg (SSnd.opn 0 rfl) fun g1431 h1432=>?_
 refine fp h1432 rfl trivial rfl fa40_4<|ld 0 rfl trivial rfl sc38 rfl rfl<|Dv.oeq0 (fun _=>Fly.nn) rfl trivial rfl rfl Tryz.underlying38 (mem_at 3 rfl)<|mv0 rfl rfl ?_
 rcases bem a0.fair.isNone with c1433 | c1433
 rotate_left
 ·
  have H:=H.ct c1433
  refine Dv.gh (gh_sh 9 c1433 rfl) (fun _ _=>?_)
  refine Dv.gh (gh_sh 10 c1433 rfl) (fun _ _=>?_)
  refine sk rfl rfl<|sk rfl rfl<|sk rfl rfl<|sk rfl rfl<|sk rfl rfl<|sk rfl rfl<|sk rfl rfl<|sk rfl rfl<|sk rfl rfl<|sk rfl rfl<|pt0 rfl rfl rfl<|.fin<|WP.cond rfl (fun _=>?_) nofun
  refine WP.seq<|rg 1 0<|as0 rfl rfl<|.fin<|wg (SSnd.shut (p:=p0_) (m:=a0) (g1431.1,g1431.2.1,g1431.2.2.1,g1431.2.2.2) h1432 (pm 4 [0,1,2,3])) fun _ _=>?_
  cases H.out; exact rt i2 rfl () 1 [0] 0 (.cons (res_tmp rfl) .nil)
 have H:=H.cf c1433
 refine Dv.gh (gh_sh 9 c1433 rfl) (fun _ _=>?_)
 refine Dv.gh (gh_sh 10 c1433 rfl) (fun _ _=>?_)
 refine mvg rfl rfl rfl<|Dv.nilpp h1432 rfl (gg rfl) rfl<|fp h1432 rfl (gg rfl) rfl fa40_4<|ld 0 rfl (gg rfl) rfl sc38 rfl rfl<|gr H fun g1435 H=>vg (opt_some 3 rfl (isN g1435)) fun _ _=>?_
 refine Dv.nilA Fly.nn rfl (gg rfl) rfl (mem_at 0 rfl)<|vg (Fly.opn 0 rfl) fun g1436 h1437=>?_
 refine fp h1437 rfl (gg rfl) rfl fa111_0<|fb rfl (gg rfl) rfl fa46_3<|ld 0 rfl (gg rfl) rfl sc3 rfl rfl<|mvg rfl rfl rfl<|bng rfl rfl rfl rfl run_ne<|pf0 rfl rfl rfl<|.fin<|cd H rfl (fun _ H=>?_) (fun _ H=>?_)
 ·
  refine WP.seq<|rg 1 0<|as0 rfl rfl<|.fin<|wg (Fly.shut (p:=g1431.2.2.2) (m:=a0.fair.getD default) g1436 h1437 (pm 4 [0,1,2,3])) fun _ _=>?_
  refine wg (opt_back0 (O:=Fly.O) (o:=a0.fair) (isN g1435) 0 rfl) fun _ _=>?_
  refine wg (SSnd.shut (p:=p0_) (m:=a0) (g1431.1,g1431.2.1,g1431.2.2.1,g1431.2.2.2) h1432 (pm 4 [1,2,3,0])) fun _ _=>?_
  cases H.out; exact rt i2 rfl () 1 [0] 0 (.cons (res_tmp rfl) .nil)
 refine WP.skip<|WP.seq<|rg 4 8<|mv0 rfl rfl<|Dv.nilpp h1432 rfl trivial rfl<|fp h1432 rfl trivial rfl fa40_4<|sx 1 rfl trivial rfl rfl cE sz38 rfl rfl rfl nofun ?_
 refine .fin<|WP.seq<|rg 1 0<|as0 rfl rfl<|.fin<|wg (st_nilP (O:=Fly.O)) fun _ _=>?_
 refine wg (SSnd.shut (p:=p0_) (m:=(⟨a0.fQueue,a0.fself,a0.fto,a0.fids,none⟩:SSnd)) (g1431.1,g1431.2.1,g1431.2.2.1,nilP) h1432 (pm 5 [2,3,4,0,1])) fun _ _=>?_
 refine wg (Fly.shut (p:=g1431.2.2.2) (m:=a0.fair.getD default) g1436 h1437 (pm 2 [1,0])) fun _ _=>?_
 refine wg (opt_back0 (O:=Fly.O) (o:=a0.fair) (isN g1435) 0 rfl) fun _ _=>?_
 cases H.out; exact rt i2 rfl () 2 [0,1] 1 (.cons (res_tmp rfl) .nil)
end Go.Proofs.YtmmaijneehmbgaaGreat
