import Derived.Test.YtmmaijneehmbgaaGreatZWalks1
import Derived.Test.YtmmaijneehmbgaaGreatConQ
import Derived.Test.YtmmaijneehmbgaaGreatConA6
import Derived.Eval
set_option linter.all false
set_option maxRecDepth 10000
set_option maxHeartbeats 20000000
namespace Go.Proofs.YtmmaijneehmbgaaGreat
open Go Go.Sp
theorem dag_Dag_All.c {k:Nat} {a0:DDag} {v0_0:OV} {b0_:Nat} {r:(List Event)} (h:dag_Dag_All.f k a0 = some r):Tr Tryz.prog 207 [eq (.pointer (some ⟨b0_,0,none⟩))] [blk b0_ 159 [vS a0.froom,eq v0_0.1],mpo Value.string DNode.O v0_0.1 a0.fnodes] (γ:=OV) (fun _=>True) (fun g=>eq g.1) (fun g=>[blk b0_ 159 [vS a0.froom,eq v0_0.1],mpo Value.string DNode.O v0_0.1 a0.fnodes,own Event.K g.1 r]):=by
 unfold dag_Dag_All.f at h
 refine Tr.body Tryz.func207 (c:=_) rfl Tryz.ntmps207 (Nat.le_of_ble_eq_true rfl) fun R0 F=>?_
 replace h:=Gets.of h
 have H:=h
 clear h
 refine WP.seq<|rg 1 0<|as0 rfl rfl<|.fin<|WP.seq<|rg 1 0<|as0 rfl rfl<|.fin<|WP.seqn H (fun q873:(Int×Int×Bool×(List Event)×(List ByteArray))×OV×OV=>q873.1) (fun q873:(Int×Int×Bool×(List Event)×(List ByteArray))×OV×OV=>[(0,eq (.pointer (some ⟨b0_,0,none⟩))),(2,eq (.slice none 0 0)),(3,eq q873.2.1.1),(7,eq q873.2.2.1),(8,vI q873.1.1),(9,vI q873.1.2.1),(10,vB q873.1.2.2.1)]) (fun q873:(Int×Int×Bool×(List Event)×(List ByteArray))×OV×OV=>[blk b0_ 159 [vS a0.froom,eq v0_0.1],mpo Value.string DNode.O v0_0.1 a0.fnodes,own Event.K q873.2.1.1 q873.1.2.2.2.1,own strK q873.2.2.1 q873.1.2.2.2.2]++F) (fun q873 H=>?_) (fun H=>?_)
 ·
  obtain ⟨p850,v851,v852⟩:=q873
  refine WP.seq<|rg 2 0<|mv0 rfl rfl<|as0 rfl rfl<|.fin ?_
  obtain rfl:=Gets.out H
  exact rt i2 rfl v851 4 [3,0,1,2] 1 (.cons (res_tmp rfl) .nil)
 refine WP.seq<|rg 4 2<|mv0 rfl rfl<|el H fun t853 h854 H=>cx 2 [0,1] cal210 (dag_Dag_ids_All.c h854 (b0_:=b0_) (v0_0:=v0_0)) nofun fun g855 _=>?_
 refine Dv.lenw rfl trivial rfl (mem_at 2 rfl) Tryz.underlying53<|mv0 rfl rfl<|.fin<|WP.block<|wg (st_nil Event.K none) fun _ _=>?_
 refine wg (sg 4 [1,2,3,0] 0) fun _ _=>?_
 refine lp (fun j_ (p872:Int×(List Event)×OV)=>dag_Dag_All.l0 k a0 t853 j_ p872.1 p872.2.1) (0,([]:List Event),nilV) H (fun p872=>[(0,eq (.pointer (some ⟨b0_,0,none⟩))),(2,eq (.slice none 0 0)),(3,eq p872.2.2.1),(7,eq g855.1),(8,vI (t853.length:Int)),(9,vI p872.1)]) (fun p872=>[blk b0_ 159 [vS a0.froom,eq v0_0.1],mpo Value.string DNode.O v0_0.1 a0.fnodes,own strK g855.1 t853,own Event.K p872.2.2.1 p872.2.1]++F) ?_
 rintro j_ ⟨x856,x857,v858⟩ H
 rcases j_ with _ | j871
 ·
  exact (Gets.no H).elim
 replace H:Gets (dag_Dag_All.l0 k a0 t853 (j871 + 1) x856 x857) _:=H
 rw [dag_Dag_All.l0] at H
 refine WP.seq<|rg 1 0<|bn0 rfl rfl rfl run_lt<|.fin<|WP.seq<|cd H rfl (fun _ H=>?_) (fun _ H=>?_)
 rotate_left
 ·
  refine WP.exit ?_
  have H:=H.out
  refine ng (sg 4 [0,1,3,2] 0) fun _ _=>?_
  exact jn (((t853.length:Int),x856,decide (x856 < (t853.length:Int)),x857,t853),v858,g855) H
 refine WP.skip<|WP.seq<|WP.block<|WP.seq<|rg 3 0<|gr H fun g860 H=>?_
 have h861:x856.toNat < t853.length:=idx_lt g860
 refine Dv.ixw rfl trivial rfl (mem_at 2 rfl) rfl Tryz.underlying53 Tryz.underlying9 c9 g860.1 g860.2<|Dv.ldw (j:=x856.toNat) (f:=0) (p:=vS (t853.getD x856.toNat default)) rfl trivial rfl (mem_at 2 rfl) h861 Tryz.underlying9 rfl rfl<|as0 rfl rfl<|.fin<|rg 14 4096<|mv0 rfl rfl<|mv0 rfl rfl<|Dv.nilp rfl trivial rfl<|fb rfl trivial rfl fa159_1<|ld 0 rfl trivial rfl sc157 rfl rfl<|mv0 rfl rfl<|vg (mpo_opn 1 rfl) fun z862 h863=>?_
 refine Dv.mlv nilP rfl trivial rfl (mem_at 0 rfl) rfl Tryz.underlying157 (keyOk_str Tryz.underlying9) z161 (fun _=>rfl)<|gr H fun g864 H=>vg (mpo_foc h863 rfl g864 (pm 5 [1,0,2,3,4])) fun _ _=>?_
 refine Dv.nilA DNode.nn rfl trivial rfl (mem_at 0 rfl)<|vg (DNode.opn 0 rfl) fun g865 h866=>?_
 refine fp h866 rfl trivial rfl fa163_0<|lds 0 rfl trivial rfl sg55 rfl rfl<|el H fun t867 h868 H=>cl rfl cal95 rfl (dag_own.c h868)<|Dv.lit Event.K ([t867]:List Event) (css:=[Event.enc t867]) rfl trivial Tryz.underlying28 Tryz.underlying55 c55 z55 rfl (by decide) (by decide) rfl ⟨(cells_agg (Event.K.one _)),trivial⟩ rfl rfl rfl<|gr H fun g869 H=>ap Event.K 5 ([t867]:List Event) src_sl Tryz.underlying28 (.inr ⟨_,Tryz.underlying28⟩) inf55 g869 nofun fun v870=>?_
 refine as0 rfl rfl<|.fin<|rg 2 0<|bn0 rfl rfl rfl run_add<|mv0 rfl rfl<|.fin<|ng (DNode.shut (p:=((mget (zipK a0.fnodes z862) (t853.getD x856.toNat default)).getD nilP)) (m:=(mget a0.fnodes (t853.getD x856.toNat default)).getD default) g865 h866 (pm 6 [0,1,2,3,4,5])) fun _ _=>?_
 refine ng (mpo_unf0 h863 rfl g864 (pm 6 [0,1,2,3,4,5])) fun _ _=>?_
 refine ng (mpo_shut h863 rfl (pm 5 [1,0,2,3,4])) fun _ _=>?_
 refine ng (sg 4 [1,0,2,3] 0) fun _ _=>?_
 exact bk j871 (w64 (x856 + 1),x857++([t867]:List Event),v870) H
theorem member_joined.c {k:Nat} {a0:DDag} {v0_0:OV} {b0_:Nat} {r:(List (ByteArray×Int))} (h:member_joined.f k a0 = some r):Tr Tryz.prog 196 [eq (.pointer (some ⟨b0_,0,none⟩))] [blk b0_ 159 [vS a0.froom,eq v0_0.1],mpo Value.string DNode.O v0_0.1 a0.fnodes] (γ:=OV) (fun _=>True) (fun g=>eq g.1) (fun g=>[blk b0_ 159 [vS a0.froom,eq v0_0.1],mpo Value.string DNode.O v0_0.1 a0.fnodes,mp Value.string (fun x:Int=>vI x) g.1 r]):=by
 unfold member_joined.f at h
 refine Tr.body Tryz.func196 (c:=_) rfl Tryz.ntmps196 (Nat.le_of_ble_eq_true rfl) fun R0 F=>?_
 replace h:=Gets.of h
 have H:=h
 clear h
 refine WP.seq<|rg 1 0<|as0 rfl rfl<|.fin<|WP.seq<|rg 2 1<|Dv.mmk Value.string (fun x:Int=>vI x) rfl trivial nofun (fun v874=>?_)
 refine as0 rfl rfl<|.fin<|WP.seqn H (fun q890:(Int×Int×Bool×(List (ByteArray×Int))×(List Event))×OV=>q890.1) (fun q890:(Int×Int×Bool×(List (ByteArray×Int))×(List Event))×OV=>[(0,eq (.pointer (some ⟨b0_,0,none⟩))),(2,eq (.map none)),(3,eq v874.1),(8,eq q890.2.1),(9,vI q890.1.1),(10,vI q890.1.2.1),(11,vB q890.1.2.2.1)]) (fun q890:(Int×Int×Bool×(List (ByteArray×Int))×(List Event))×OV=>[blk b0_ 159 [vS a0.froom,eq v0_0.1],mpo Value.string DNode.O v0_0.1 a0.fnodes,mp Value.string (fun x:Int=>vI x) v874.1 q890.1.2.2.2.1,own Event.K q890.2.1 q890.1.2.2.2.2]++F) (fun q890 H=>?_) (fun H=>?_)
 ·
  obtain ⟨p875,v876⟩:=q890
  refine WP.seq<|rg 2 0<|mv0 rfl rfl<|as0 rfl rfl<|.fin ?_
  obtain rfl:=Gets.out H
  exact rt i2 rfl v874 4 [3,0,1,2] 1 (.cons (res_tmp rfl) .nil)
 refine WP.seq<|rg 4 2<|mv0 rfl rfl<|el H fun t877 h878 H=>cx 3 [1,2,0] cal207 (dag_Dag_All.c h878 (b0_:=b0_) (v0_0:=v0_0)) nofun fun g879 _=>?_
 refine Dv.lenw rfl trivial rfl (mem_at 2 rfl) Tryz.underlying28<|mv0 rfl rfl<|.fin<|WP.block<|wg (sg 4 [0,1,2,3] 0) fun _ _=>?_
 refine lp (fun j_ (p889:Int×(List (ByteArray×Int)))=>member_joined.l0 k t877 j_ p889.1 p889.2) (0,([]:List (ByteArray×Int))) H (fun p889=>[(0,eq (.pointer (some ⟨b0_,0,none⟩))),(2,eq (.map none)),(3,eq v874.1),(8,eq g879.1),(9,vI (t877.length:Int)),(10,vI p889.1)]) (fun p889=>[blk b0_ 159 [vS a0.froom,eq v0_0.1],mpo Value.string DNode.O v0_0.1 a0.fnodes,own Event.K g879.1 t877,mp Value.string (fun x:Int=>vI x) v874.1 p889.2]++F) ?_
 rintro j_ ⟨x880,x881⟩ H
 rcases j_ with _ | j888
 ·
  exact (Gets.no H).elim
 replace H:Gets (member_joined.l0 k t877 (j888 + 1) x880 x881) _:=H
 rw [member_joined.l0] at H
 refine WP.seq<|rg 1 0<|bn0 rfl rfl rfl run_lt<|.fin<|WP.seq<|cd H rfl (fun _ H=>?_) (fun _ H=>?_)
 rotate_left
 ·
  refine WP.exit ?_
  have H:=H.out
  refine ng (sg 4 [0,1,3,2] 0) fun _ _=>?_
  exact jn (((t877.length:Int),x880,decide (x880 < (t877.length:Int)),x881,t877),g879) H
 refine WP.skip<|WP.seq<|WP.block<|WP.seq<|rg 4 12<|gr H fun g883 H=>?_
 have h884:x880.toNat < t877.length:=idx_lt g883
 refine Dv.ixw rfl trivial rfl (mem_at 2 rfl) rfl Tryz.underlying28 Tryz.underlying55 c55 g883.1 g883.2<|Dv.ldws (j:=x880.toNat) (f:=0) rfl trivial rfl (mem_at 2 rfl) h884 Tryz.underlying55 rfl c55 (Nat.le_of_ble_eq_true rfl)<|al rfl trivial zc55 nofun fun b885=>sx 0 rfl trivial rfl rfl cA sz55 rfl rfl rfl nofun ?_
 refine .fin<|WP.seq<|rg 2 0<|fb rfl trivial rfl fa55_5<|ld 0 rfl trivial rfl sc3 rfl rfl<|.fin<|WP.block<|WP.seq<|rg 2 0<|bn0 rfl rfl rfl run_eq<|as0 rfl rfl<|.fin<|cd H rfl (fun _ H=>?_) (fun _ H=>?_)
 ·
  refine rg 4 8<|mv0 rfl rfl<|fb rfl trivial rfl fa55_4<|ld 0 rfl trivial rfl sc9 rfl rfl<|Dv.mup (jj:=4) 1 rfl trivial rfl rfl rfl rfl Tryz.underlying241 (keyOk_str Tryz.underlying9) nofun<|.fin<|rg 2 0<|bn0 rfl rfl rfl run_add<|mv0 rfl rfl<|.fin<|ng (sg 5 [0,1,2,3,4] 1) fun _ _=>?_
  exact bk j888 (w64 (x880 + 1),mput x881 ((t877.getD x880.toNat default).fUser) 1) H
 refine WP.seq<|rg 2 0<|bn0 rfl rfl rfl run_eq<|as0 rfl rfl<|.fin<|cd H rfl (fun _ H=>?_) (fun _ H=>?_)
 rotate_left
 ·
  refine WP.skip<|rg 2 0<|bn0 rfl rfl rfl run_add<|mv0 rfl rfl<|.fin<|ng (sg 5 [0,1,2,3,4] 1) fun _ _=>?_
  exact bk j888 (w64 (x880 + 1),x881) H
 refine rg 4 8<|mv0 rfl rfl<|fb rfl trivial rfl fa55_4<|ld 0 rfl trivial rfl sc9 rfl rfl<|Dv.mdl (jj:=4) rfl trivial rfl rfl rfl Tryz.underlying241 (keyOk_str Tryz.underlying9) nofun<|.fin<|rg 2 0<|bn0 rfl rfl rfl run_add<|mv0 rfl rfl<|.fin<|ng (sg 5 [0,1,2,3,4] 1) fun _ _=>?_
 exact bk j888 (w64 (x880 + 1),mdel x881 ((t877.getD x880.toNat default).fUser)) H
theorem member_Users.c {k:Nat} {a0:DDag} {b0_:Nat} {v0_0:OV} {r:List ByteArray} (h:member_Users.f k a0 = some r):Tr Tryz.prog 177 [eq (.pointer (some ⟨b0_,0,none⟩))] [blk b0_ 159 [vS a0.froom,eq v0_0.1],mpo Value.string DNode.O v0_0.1 a0.fnodes] (γ:=OV) (fun _=>True) (fun g=>eq g.1) (fun g=>[blk b0_ 159 [vS a0.froom,eq v0_0.1],mpo Value.string DNode.O v0_0.1 a0.fnodes,own strK g.1 r]):=by
  unfold member_Users.f at h
  obtain ⟨m,hm,h1⟩:=(Gets.of h).call
  obtain ⟨h0,h5⟩:=h1.grd
  obtain rfl:=Gets.out h5
  clear h h5
  refine Tr.body Tryz.func177 (c:=_) rfl Tryz.ntmps177 (Nat.le_of_ble_eq_true rfl) fun R0 F=>?_
  refine WP.seq<|rg 1 0<|as0 rfl rfl<|.fin<|WP.seq<|rg 1 0<|as0 rfl rfl<|.fin ?_
  refine WP.seqj (β:=List Nat×OV) (fun b=>b.1.Perm (List.range m.length)) (fun b=>[(3,eq b.2.1)]) (fun b=>[own strK b.2.1 (selM m (fun e=>some e.1) b.1),blk b0_ 159 [vS a0.froom,eq v0_0.1],mpo Value.string DNode.O v0_0.1 a0.fnodes]++F) (fun b hb=>?_) ?_
  rotate_left
  · refine WP.seq<|rg 3 6<|mv0 rfl rfl<|cx 2 [0,1] cal196 (member_joined.c hm (b0_:=b0_) (v0_0:=v0_0)) nofun fun gm _=>?_
    refine Dv.gh (l':=fun _:Unit=>[blk b0_ 159 [vS a0.froom,eq v0_0.1],mpo Value.string DNode.O v0_0.1 a0.fnodes,mp Value.string (fun x:Int=>vI x) gm.1 m]++F) (gh_of (ok:=fun _=>True) fun R w k=>⟨(),trivial,k⟩) (fun _ _=>?_)
    refine Dv.gh (l':=fun _:Unit=>[mp Value.string (fun x:Int=>vI x) gm.1 m,blk b0_ 159 [vS a0.froom,eq v0_0.1],mpo Value.string DNode.O v0_0.1 a0.fnodes]++F) (gh_of (st_selgn 3 [2,0,1] 0 (by kernel_rfl) rfl rfl)) (fun _ _=>?_)
    refine Dv.rgb (jj:=0) rfl trivial rfl rfl Tryz.underlying241 nofun (fun q=>.fin ?_)
    refine WP.gh (l':=fun _:Unit=>[rng Value.string (fun x:Int=>vI x) gm.1 q.1 m [],blk b0_ 159 [vS a0.froom,eq v0_0.1],mpo Value.string DNode.O v0_0.1 a0.fnodes]++F) (gh_of (ok:=fun _=>True) fun R w k=>⟨(),trivial,k⟩) (fun _ _=>?_)
    refine WP.gh (l':=fun _:Unit=>[own strK nilV.1 [],rng Value.string (fun x:Int=>vI x) gm.1 q.1 m [],blk b0_ 159 [vS a0.froom,eq v0_0.1],mpo Value.string DNode.O v0_0.1 a0.fnodes]++F) (gh_of (st_nil strK none)) (fun _ _=>?_)
    refine WP.block ?_
    refine WP.weak (E':=(fun b:List Nat×OV=>[(3,eq b.2.1),(7,eq q.1)]) ([],nilV)) (weak_cons rfl (weak_cons rfl weak_nil)) (WP.loop (β:=List Nat×OV) (fun k b=>b.1.length + k = m.length) (fun b=>[(3,eq b.2.1),(7,eq q.1)]) (fun b=>[own strK b.2.1 (selM m (fun e=>some e.1) b.1),rng Value.string (fun x:Int=>vI x) gm.1 q.1 m b.1,blk b0_ 159 [vS a0.froom,eq v0_0.1],mpo Value.string DNode.O v0_0.1 a0.fnodes]++F) ?_ (k:=m.length) (b:=([],nilV)) (Nat.zero_add _))
    rintro k ⟨is,v⟩ hk
    replace hk:is.length + k = m.length:=hk
    refine WP.seq<|rg 2 1<|Dv.rgn (jj:=1) rfl trivial rfl rfl nofun (fun z hz=>?_)
    rcases z with _ | j
    · have hz:is.Perm (List.range m.length):=hz
      refine ex0 rfl trivial rfl rfl<|.fin<|WP.seq<|WP.cond rfl nofun (fun _=>WP.exit ?_)
      refine Dn.gh (l':=fun _:Unit=>[own strK v.1 (selM m (fun e=>some e.1) is),rng Value.string (fun x:Int=>vI x) gm.1 q.1 m is,blk b0_ 159 [vS a0.froom,eq v0_0.1],mpo Value.string DNode.O v0_0.1 a0.fnodes]++F) (gh_of (ok:=fun _=>True) fun R w k=>⟨(),trivial,k⟩) (fun _ _=>?_)
      refine Dn.gh (l':=fun _:Unit=>[mp Value.string (fun x:Int=>vI x) gm.1 m,own strK v.1 (selM m (fun e=>some e.1) is),blk b0_ 159 [vS a0.froom,eq v0_0.1],mpo Value.string DNode.O v0_0.1 a0.fnodes]++F) (gh_of (st_rge (pm 4 [1,0,2,3]))) (fun _ _=>?_)
      refine Dn.gh (l':=fun _:Unit=>[own strK v.1 (selM m (fun e=>some e.1) is),blk b0_ 159 [vS a0.froom,eq v0_0.1],mpo Value.string DNode.O v0_0.1 a0.fnodes]++F) (gh_of (st_selgn 4 [0,1,2,3] 1 (by kernel_rfl) rfl rfl)) (fun _ _=>?_)
      exact Jn.mk (is,v) hz (weak_cons rfl weak_nil) (List.Perm.refl _)
    have hz:j < m.length∧j ∉ is∧is.length < m.length:=hz
    obtain ⟨e,he⟩:∃ e,m[j]? = some e:=⟨_,List.getElem?_eq_getElem hz.1⟩
    have hep:=he
    have hlt:=hz.2.2
    have hsl:=Nat.le_trans (selM_len (m:=m) (f:=(fun e=>some e.1)) (is:=is)) (Nat.le_of_lt hlt)
    have e1:nxV Value.string (fun x:Int=>vI x) m (some j) = tup [vB true,vS e.1,vI e.2]:=by simp only [nxV,hep]
    rw [e1]
    refine ex0 rfl trivial rfl rfl<|.fin<|WP.seq<|WP.cond rfl (fun _=>WP.skip ?_) nofun
    refine WP.gh (l':=fun _:Unit=>[own strK v.1 (selM m (fun e=>some e.1) is),rng Value.string (fun x:Int=>vI x) gm.1 q.1 m (is++[j]),blk b0_ 159 [vS a0.froom,eq v0_0.1],mpo Value.string DNode.O v0_0.1 a0.fnodes]++F) (gh_of (ok:=fun _=>True) fun R w k=>⟨(),trivial,k⟩) (fun _ _=>?_)
    refine WP.block<|WP.seq<|rg 3 0<|Dv.rge 1 rfl trivial rfl rfl hep ?_
    refine ex0 rfl trivial rfl rfl<|as0 rfl rfl<|.fin ?_
    have e6:=selM_some (f:=(fun e=>some e.1)) (is:=is) he rfl
    have hbd:(selM m (fun e=>some e.1) is).length + ([e.1]:List ByteArray).length≤9223372036854775807∧((selM m (fun e=>some e.1) is).length + ([e.1]:List ByteArray).length) * 16≤140737488355328:=by rw [List.length_singleton]; omega
    refine rg 5 8<|mv0 rfl rfl<|mv0 rfl rfl<|Dv.lit strK ([e.1]:List ByteArray) (css:=[[vS e.1]]) rfl trivial Tryz.underlying53 Tryz.underlying9 c9 z9 rfl (by decide) (by decide) rfl ⟨(cells_one (one_eq rfl)),trivial⟩ rfl rfl rfl<|ap strK 0 ([e.1]:List ByteArray) src_sl Tryz.underlying53 (.inr ⟨_,Tryz.underlying53⟩) inf9 hbd nofun fun v9=>as0 rfl rfl<|.fin ?_
    rw [e6]
    exact Back.mk (k - 1) (is++[j],v9) (by omega) (by show (is++[j]).length + (k - 1) = _; rw [List.length_append,List.length_singleton]; omega) (weak_cons rfl (weak_cons rfl weak_nil)) (List.Perm.refl _)
  obtain ⟨is,v3⟩:=b
  replace hb:is.Perm (List.range m.length):=hb
  have hp:=selM_perm (f:=(fun e=>some e.1)) hb
  have hs:slices_Sort_string.f (selM m (fun e=>some e.1) is) = some (srtS (m.map (·.1))):=by
    have e7:m.filterMap (fun e=>some e.1) = m.map (·.1):=by rw [← List.filterMap_eq_map]; rfl
    rw [e7] at hp
    unfold slices_Sort_string.f Sp.grd
    rw [if_pos (by rw [hp.length_eq,List.length_map]; omega),srtS_eq hp]
  refine WP.seq<|rg 2 2<|mv0 rfl rfl<|cx 3 [0,1,2] cal162 (slices_Sort_string.c hs (p0_:=v3)) nofun fun _ _=>.fin ?_
  refine WP.seq<|rg 2 0<|mv0 rfl rfl<|as0 rfl rfl<|.fin<|rt i2 rfl v3 3 [1,2,0] 0 (.cons (res_tmp rfl) .nil)
theorem member_Servers.c {k:Nat} {a0:DDag} {v0_0:OV} {b0_:Nat} {r:(List ByteArray)} (h:member_Servers.f k a0 = some r):Tr Tryz.prog 164 [eq (.pointer (some ⟨b0_,0,none⟩))] [blk b0_ 159 [vS a0.froom,eq v0_0.1],mpo Value.string DNode.O v0_0.1 a0.fnodes] (γ:=OV) (fun _=>True) (fun g=>eq g.1) (fun g=>[blk b0_ 159 [vS a0.froom,eq v0_0.1],mpo Value.string DNode.O v0_0.1 a0.fnodes,own strK g.1 r]):=by
 unfold member_Servers.f at h
 refine Tr.body Tryz.func164 (c:=_) rfl Tryz.ntmps164 (Nat.le_of_ble_eq_true rfl) fun R0 F=>?_
 replace h:=Gets.of h
 have H:=h
 clear h
 refine WP.seq<|rg 1 0<|as0 rfl rfl<|.fin<|WP.seq<|rg 4 6<|mv0 rfl rfl<|el H fun t891 h892 H=>cx 2 [0,1] cal177 (member_Users.c h892 (b0_:=b0_) (v0_0:=v0_0)) nofun fun g893 _=>?_
 refine el H fun t894 h895 H=>cx 3 [2,0,1] cal176 (Tr.lend [own strK g893.1 t891] (member_Homes.c h895) (.cons (lt_own (mem_at 0 rfl)) .nil) (fun _=>flat_eq) (fun _=>(flatAs_cons (flatA_own flatK_str) flatAs_nil))) nofun fun g896 _=>?_
 refine as0 rfl rfl<|.fin ?_
 obtain rfl:=Gets.out H
 exact rt i2 rfl g896 4 [0,2,3,1] 1 (.cons (res_tmp rfl) .nil)
theorem view_View_Servers.c {k:Nat} {a0:VView} {a1:ByteArray} {v0_0:OV} {b0_:Nat} {r:(List ByteArray)} (h:view_View_Servers.f k a0 a1 = some r):Tr Tryz.prog 145 [eq (.pointer (some ⟨b0_,0,none⟩)),vS a1] [blk b0_ 95 [eq v0_0.1],mpo Value.string DDag.O v0_0.1 a0.fdags] (γ:=OV) (fun _=>True) (fun g=>eq g.1) (fun g=>[blk b0_ 95 [eq v0_0.1],mpo Value.string DDag.O v0_0.1 a0.fdags,own strK g.1 r]):=by
 unfold view_View_Servers.f at h
 refine Tr.body Tryz.func145 (c:=_) rfl Tryz.ntmps145 (Nat.le_of_ble_eq_true rfl) fun R0 F=>?_
 replace h:=Gets.of h
 have H:=h
 clear h
 refine WP.seq<|rg 1 0<|as0 rfl rfl<|.fin<|WP.seq<|rg 5 12<|mv0 rfl rfl<|mv0 rfl rfl<|el H fun t897 h898 H=>cx 2 [0,1] cal55 (view_View_room.c h898 (b0_:=b0_) (v0_0:=v0_0)) nofun fun v899 _=>?_
 refine vg (DDag.opn 2 rfl) fun g900 h901=>?_
 refine el H fun t902 h903 H=>cx 4 [0,1,2,3] cal164 (Tr.weak (member_Servers.c h903 (b0_:=g900.1) (v0_0:=g900.2)) (.cons (wk_ptr h901) .nil)) nofun fun g904 _=>?_
 refine as0 rfl rfl<|.fin<|wg (DDag.shut (p:=v899) (m:=t897) (g900.1,g900.2) h901 (pm 5 [0,1,2,3,4])) fun _ _=>?_
 refine wg (mpl_back0 (view_View_room.r h898) (pm 4 [3,0,1,2])) fun _ _=>?_
 obtain rfl:=Gets.out H
 exact rt i2 rfl g904 3 [2,0,1] 0 (.cons (res_tmp rfl) .nil)
theorem slices_IndexFunc_string_x.c {k:Nat} {a0:List ByteArray} {a1:(ByteArray→Option Bool)} {X1_:As} {r:Int} (h:slices_IndexFunc_string_x.f k a0 a1 = some r):Tr Tryz.prog 123 [sl strK a0,fx_string_bool X1_ a1] [X1_] (γ:=Unit) (fun _=>True) (fun g=>vI r) (fun g=>[X1_]):=by
 unfold slices_IndexFunc_string_x.f at h
 refine Tr.body Tryz.func123 (c:=_) rfl Tryz.ntmps123 (Nat.le_of_ble_eq_true rfl) fun R0 F=>?_
 replace h:=Gets.of h
 have H:=h
 clear h
 refine WP.seq<|rg 1 0<|as0 rfl rfl<|.fin<|WP.seqr H id (fun p914:Int×Bool=>[(0,sl strK a0),(1,fx_string_bool X1_ a1),(4,vI 0),(7,vI (a0.length:Int)),(8,vI p914.1),(9,vB p914.2)]) (fun p914:Int×Bool=>[X1_]++F) (fun p914 H=>?_) (fun H=>?_)
 ·
  refine WP.seq<|rg 1 0<|as0 rfl rfl<|.fin ?_
  cases H.out; exact rt i2 rfl () 1 [0] 0 (.cons (res_tmp rfl) .nil)
 refine WP.seq<|rg 3 0<|mv0 rfl rfl<|Dv.lenl rfl trivial rfl Tryz.underlying53<|mv0 rfl rfl<|.fin<|WP.block<|wg (sg 1 [0] 0) fun _ _=>?_
 refine lp (fun j_ (p922:Int)=>slices_IndexFunc_string_x.l0 k a0 a1 j_ p922) 0 H (fun p922=>[(0,sl strK a0),(1,fx_string_bool X1_ a1),(4,vI 0),(7,vI (a0.length:Int)),(8,vI p922)]) (fun p922=>[X1_]++F) ?_
 rintro j_ x915 H
 rcases j_ with _ | j921
 ·
  exact (Gets.no H).elim
 replace H:Gets (slices_IndexFunc_string_x.l0 k a0 a1 (j921 + 1) x915) _:=H
 rw [slices_IndexFunc_string_x.l0] at H
 refine WP.seq<|rg 1 0<|bn0 rfl rfl rfl run_lt<|.fin<|WP.seq<|cd H rfl (fun _ H=>?_) (fun _ H=>?_)
 rotate_left
 ·
  refine WP.exit ?_
  have H:=H.out
  exact jn (x915,decide (x915 < (a0.length:Int))) H
 refine WP.skip<|WP.seq<|WP.block<|WP.seq<|rg 2 0<|mv0 rfl rfl<|as0 rfl rfl<|.fin<|WP.seq<|rg 6 0<|mv0 rfl rfl<|mv0 rfl rfl<|mv0 rfl rfl<|gr H fun g917 H=>Dv.ixr rfl trivial rfl rfl Tryz.underlying53 Tryz.underlying9 c9 g917.1 g917.2<|ldR rfl trivial rfl sc9 rfl<|el H fun t918 h919 H=>Dv.callfx (ret:=vB t918) (X:=X1_) (F:=F) rfl trivial rfl rfl ⟨_,_,h919,rfl,rfl⟩ (perm_to (L:=[X1_]) (F:=F) [0] rfl rfl rfl)<|.fin<|cd H rfl (fun _ H=>?_) (fun _ H=>?_)
 rotate_left
 ·
  exact WP.skip<|rg 2 0<|bn0 rfl rfl rfl run_add<|mv0 rfl rfl<|.fin<|bk j921 (w64 (x915 + 1)) H
 refine WP.seq<|rg 2 0<|mv0 rfl rfl<|as0 rfl rfl<|.fin ?_
 have H:=H.outr
 cases H.out; exact rt i2 rfl () 1 [0] 0 (.cons (res_tmp rfl) .nil)
theorem slices_IndexFunc_string_xw.c {k:Nat} {a0:List ByteArray} {a1:(ByteArray→Option Bool)} {X1_:As} {p0_:OV} {r:Int} (h:slices_IndexFunc_string_xw.f k a0 a1 = some r):Tr Tryz.prog 123 [eq p0_.1,fx_string_bool X1_ a1] [own strK p0_.1 a0,X1_] (γ:=Unit) (fun _=>True) (fun g=>vI r) (fun g=>[own strK p0_.1 a0,X1_]):=by
 unfold slices_IndexFunc_string_xw.f at h
 refine Tr.body Tryz.func123 (c:=_) rfl Tryz.ntmps123 (Nat.le_of_ble_eq_true rfl) fun R0 F=>?_
 replace h:=Gets.of h
 have H:=h
 clear h
 refine WP.seq<|rg 1 0<|as0 rfl rfl<|.fin<|WP.seqr H id (fun p923:Int×Bool=>[(0,eq p0_.1),(1,fx_string_bool X1_ a1),(4,vI 0),(7,vI (a0.length:Int)),(8,vI p923.1),(9,vB p923.2)]) (fun p923:Int×Bool=>[own strK p0_.1 a0,X1_]++F) (fun p923 H=>?_) (fun H=>?_)
 ·
  refine WP.seq<|rg 1 0<|as0 rfl rfl<|.fin ?_
  cases H.out; exact rt i2 rfl () 2 [0,1] 0 (.cons (res_tmp rfl) .nil)
 refine WP.seq<|rg 3 0<|mv0 rfl rfl<|Dv.lenw rfl trivial rfl (mem_at 0 rfl) Tryz.underlying53<|mv0 rfl rfl<|.fin<|WP.block<|wg (sg 2 [0,1] 0) fun _ _=>?_
 refine lp (fun j_ (p932:Int)=>slices_IndexFunc_string_xw.l0 k a0 a1 j_ p932) 0 H (fun p932=>[(0,eq p0_.1),(1,fx_string_bool X1_ a1),(4,vI 0),(7,vI (a0.length:Int)),(8,vI p932)]) (fun p932=>[own strK p0_.1 a0,X1_]++F) ?_
 rintro j_ x924 H
 rcases j_ with _ | j931
 ·
  exact (Gets.no H).elim
 replace H:Gets (slices_IndexFunc_string_xw.l0 k a0 a1 (j931 + 1) x924) _:=H
 rw [slices_IndexFunc_string_xw.l0] at H
 refine WP.seq<|rg 1 0<|bn0 rfl rfl rfl run_lt<|.fin<|WP.seq<|cd H rfl (fun _ H=>?_) (fun _ H=>?_)
 rotate_left
 ·
  refine WP.exit ?_
  have H:=H.out
  exact jn (x924,decide (x924 < (a0.length:Int))) H
 refine WP.skip<|WP.seq<|WP.block<|WP.seq<|rg 2 0<|mv0 rfl rfl<|as0 rfl rfl<|.fin<|WP.seq<|rg 6 0<|mv0 rfl rfl<|mv0 rfl rfl<|mv0 rfl rfl<|gr H fun g926 H=>?_
 have h927:x924.toNat < a0.length:=idx_lt g926
 refine Dv.ixw rfl trivial rfl (mem_at 0 rfl) rfl Tryz.underlying53 Tryz.underlying9 c9 g926.1 g926.2<|Dv.ldw (j:=x924.toNat) (f:=0) (p:=vS (a0.getD x924.toNat default)) rfl trivial rfl (mem_at 0 rfl) h927 Tryz.underlying9 rfl rfl<|el H fun t928 h929 H=>Dv.callfx (ret:=vB t928) (X:=X1_) (F:=[own strK p0_.1 a0]++F) rfl trivial rfl rfl ⟨_,_,h929,rfl,rfl⟩ (perm_to (L:=[own strK p0_.1 a0,X1_]) (F:=F) [1,0] rfl rfl rfl)<|.fin<|cd H rfl (fun _ H=>?_) (fun _ H=>?_)
 rotate_left
 ·
  exact WP.skip<|rg 2 0<|bn0 rfl rfl rfl run_add<|mv0 rfl rfl<|.fin<|bk j931 (w64 (x924 + 1)) H
 refine WP.seq<|rg 2 0<|mv0 rfl rfl<|as0 rfl rfl<|.fin ?_
 have H:=H.outr
 cases H.out; exact rt i2 rfl () 2 [0,1] 0 (.cons (res_tmp rfl) .nil)
theorem slices_DeleteFunc_string_xo.c {k:Nat} {a0:List ByteArray} {a1:(ByteArray→Option Bool)} {X1_:As} {p0_:OV} {r:(List ByteArray)} (h:slices_DeleteFunc_string_xo.f k a0 a1 = some r):Tr Tryz.prog 170 [eq p0_.1,fx_string_bool X1_ a1] [own strK p0_.1 a0,X1_] (γ:=OV) (fun _=>True) (fun g=>eq g.1) (fun g=>[X1_,own strK g.1 r]):=by
 unfold slices_DeleteFunc_string_xo.f at h
 refine Tr.body Tryz.func170 (c:=_) rfl Tryz.ntmps170 (Nat.le_of_ble_eq_true rfl) fun R0 F=>?_
 replace h:=Gets.of h
 have H:=h
 clear h
 refine WP.seq<|rg 1 0<|as0 rfl rfl<|.fin<|WP.seq<|rg 4 0<|mv0 rfl rfl<|mv0 rfl rfl<|el H fun t933 h934 H=>cll 2 [0,1] cal123 (slices_IndexFunc_string_xw.c h934 (p0_:=p0_) (X1_:=X1_)) ?_
 refine as0 rfl rfl<|.fin<|WP.seq<|WP.seq<|rg 2 0<|mv0 rfl rfl<|bn0 rfl rfl rfl run_eq<|.fin<|cd H rfl (fun _ H=>?_) (fun _ H=>?_)
 ·
  refine WP.seq<|rg 2 0<|mv0 rfl rfl<|as0 rfl rfl<|.fin ?_
  obtain rfl:=Gets.out H
  exact rt i2 rfl p0_ 2 [1,0] 0 (.cons (res_tmp rfl) .nil)
 refine WP.skip<|WP.seqn H id (fun p936:Int×Int×Bool×(List ByteArray)=>[(0,eq p0_.1),(1,fx_string_bool X1_ a1),(4,eq (.slice none 0 0)),(5,vI p936.1),(6,vI p936.2.1),(12,vB (t933 == (-1))),(19,vB p936.2.2.1)]) (fun p936:Int×Int×Bool×(List ByteArray)=>[own strK p0_.1 p936.2.2.2,X1_]++F) (fun p936 H=>?_) (fun H=>?_)
 ·
  refine WP.seq<|rg 4 8<|mv0 rfl rfl<|mv0 rfl rfl<|gr H fun g937 H=>vg (st_own_form 0 rfl (List.length_pos_iff.1 (Nat.lt_of_le_of_lt (Nat.zero_le _) g937.2))) fun g938 h939=>?_
  refine Dv.slkm (o':=g938.2.1 + p936.1.toNat * strK.sz) (m':=p936.2.2.2.length - p936.1.toNat) (c':=g938.2.2 - p936.1.toNat) rfl trivial ((show opv _ _ = some (eq p0_.1) from rfl).trans (congrArg (fun z=>some (eq z)) h939.1)) Tryz.underlying53 Tryz.underlying9 c9 (bdE_some rfl g937.1) bdE_none (Nat.le_of_lt g937.2) h939.2 (.inl (Nat.lt_of_lt_of_le g937.2 h939.2)) rfl rfl rfl<|Dv.clrw (jj:=0) (⟨#[]⟩:ByteArray) rfl trivial rfl Tryz.underlying53 z9 rfl rfl (fun u hu=>by simp [Value.cells] at hu; subst hu; rfl) h939.1 rfl g937.2 rfl nofun<|.fin<|WP.seq<|rg 4 4<|mv0 rfl rfl<|mv0 rfl rfl<|gr H fun g940 H=>Dv.slo (jj:=0) rfl trivial rfl rfl Tryz.underlying53 Tryz.underlying9 c9 bdE_none (bdE_some rfl g940.1) (.inl rfl) g940.2.1 g940.2.2 nofun (fun v941=>?_)
  refine as0 rfl rfl<|.fin ?_
  obtain rfl:=Gets.out H
  exact rt i2 rfl v941 2 [1,0] 0 (.cons (res_tmp rfl) .nil)
 refine WP.seq<|rg 3 0<|mv0 rfl rfl<|bn0 rfl rfl rfl run_add<|as0 rfl rfl<|.fin<|WP.block<|wg (sg 2 [0,1] 0) fun _ _=>?_
 refine lp (fun j_ (p954:Int×Int×(List ByteArray))=>slices_DeleteFunc_string_xo.l0 k a1 j_ p954.1 p954.2.1 p954.2.2) (t933,w64 (t933 + 1),a0) H (fun p954=>[(0,eq p0_.1),(1,fx_string_bool X1_ a1),(4,eq (.slice none 0 0)),(5,vI p954.1),(6,vI p954.2.1),(12,vB (t933 == (-1)))]) (fun p954=>[own strK p0_.1 p954.2.2,X1_]++F) ?_
 rintro j_ ⟨x942,x943,x944⟩ H
 rcases j_ with _ | j953
 ·
  exact (Gets.no H).elim
 replace H:Gets (slices_DeleteFunc_string_xo.l0 k a1 (j953 + 1) x942 x943 x944) _:=H
 rw [slices_DeleteFunc_string_xo.l0] at H
 refine WP.seq<|WP.seq<|rg 4 0<|mv0 rfl rfl<|mv0 rfl rfl<|Dv.lenw rfl trivial rfl (mem_at 0 rfl) Tryz.underlying53<|bn0 rfl rfl rfl run_lt<|.fin<|cd H rfl (fun _ H=>?_) (fun _ H=>?_)
 rotate_left
 ·
  refine WP.exit ?_
  have H:=H.out
  exact jn (x942,x943,decide (x943 < (x944.length:Int)),x944) H
 refine WP.skip<|WP.seq<|WP.block<|WP.seq<|rg 5 0<|mv0 rfl rfl<|mv0 rfl rfl<|gr H fun g946 H=>?_
 have h947:x943.toNat < x944.length:=idx_lt g946
 refine Dv.ixw rfl trivial rfl (mem_at 0 rfl) rfl Tryz.underlying53 Tryz.underlying9 c9 g946.1 g946.2<|Dv.ldw (j:=x943.toNat) (f:=0) (p:=vS (x944.getD x943.toNat default)) rfl trivial rfl (mem_at 0 rfl) h947 Tryz.underlying9 rfl rfl<|as0 rfl rfl<|.fin<|WP.seq<|rg 4 0<|mv0 rfl rfl<|mv0 rfl rfl<|el H fun t948 h949 H=>Dv.callfx (ret:=vB t948) (X:=X1_) (F:=[own strK p0_.1 x944]++F) rfl trivial rfl rfl ⟨_,_,h949,rfl,rfl⟩ (perm_to (L:=[own strK p0_.1 x944,X1_]) (F:=F) [1,0] rfl rfl rfl)<|un0 rfl rfl (run_not _)<|.fin<|cd H rfl (fun _ H=>?_) (fun _ H=>?_)
 rotate_left
 ·
  exact WP.skip<|rg 3 0<|mv0 rfl rfl<|bn0 rfl rfl rfl run_add<|as0 rfl rfl<|.fin<|bk j953 (x942,w64 (x943 + 1),x944) H
 refine WP.seq<|rg 5 16<|mv0 rfl rfl<|mv0 rfl rfl<|mv0 rfl rfl<|gr H fun g951 H=>?_
 have h952:x942.toNat < x944.length:=idx_lt g951
 exact Dv.ixw rfl trivial rfl (mem_at 0 rfl) rfl Tryz.underlying53 Tryz.underlying9 c9 g951.1 g951.2<|Dv.stw (j:=x942.toNat) (f:=0) (jj:=0) (x944.getD x943.toNat default) rfl trivial rfl rfl (cells_one (one_eq rfl)) Tryz.underlying9 c9 rfl rfl h952 (Nat.le_of_ble_eq_true rfl) rfl nofun<|.fin<|rg 3 0<|mv0 rfl rfl<|bn0 rfl rfl rfl run_add<|as0 rfl rfl<|.fin<|rg 3 0<|mv0 rfl rfl<|bn0 rfl rfl rfl run_add<|as0 rfl rfl<|.fin<|bk j953 (w64 (x942 + 1),w64 (x943 + 1),x944.set x942.toNat (x944.getD x943.toNat default)) H
theorem view_View_Rooms.c {a0:VView} {b0_:Nat} {v0_0:OV} {r:List ByteArray} (h:view_View_Rooms.f a0 = some r):Tr Tryz.prog 171 [eq (.pointer (some ⟨b0_,0,none⟩))] [blk b0_ 95 [eq v0_0.1],mpo Value.string DDag.O v0_0.1 a0.fdags] (γ:=OV) (fun _=>True) (fun g=>eq g.1) (fun g=>[blk b0_ 95 [eq v0_0.1],mpo Value.string DDag.O v0_0.1 a0.fdags,own strK g.1 r]):=by
  unfold view_View_Rooms.f at h
  obtain ⟨h0,h5⟩:=(Gets.of h).grd
  obtain rfl:=Gets.out h5
  clear h h5
  refine Tr.body Tryz.func171 (c:=_) rfl Tryz.ntmps171 (Nat.le_of_ble_eq_true rfl) fun R0 F=>?_
  refine WP.seq<|rg 1 0<|as0 rfl rfl<|.fin<|WP.seq<|rg 1 0<|as0 rfl rfl<|.fin ?_
  refine WP.seqj (β:=List Nat×OV) (fun b=>b.1.Perm (List.range a0.fdags.length)) (fun b=>[(3,eq b.2.1)]) (fun b=>[own strK b.2.1 (selM a0.fdags (fun e=>some e.1) b.1),blk b0_ 95 [eq v0_0.1],mpo Value.string DDag.O v0_0.1 a0.fdags]++F) (fun b hb=>?_) ?_
  rotate_left
  · refine WP.seq<|rg 5 16<|mv0 rfl rfl<|Dv.nilp rfl trivial rfl<|fb rfl trivial rfl fa95_0<|ld 0 rfl trivial rfl sc93 rfl rfl ?_
    refine Dv.gh (l':=fun ps:List OV=>[mp Value.string (fun p:OV=>eq p.1) v0_0.1 (zipK a0.fdags ps),thg DDag.O a0.fdags ps,blk b0_ 95 [eq v0_0.1]]++F) (gh_of (mpo_opn 1 rfl)) (fun ps hps=>?_)
    refine Dv.rgb (jj:=0) rfl trivial rfl rfl Tryz.underlying93 nofun (fun q=>.fin ?_)
    refine WP.gh (l':=fun _:Unit=>[rng Value.string (fun p:OV=>eq p.1) v0_0.1 q.1 (zipK a0.fdags ps) [],thg DDag.O a0.fdags ps,blk b0_ 95 [eq v0_0.1]]++F) (gh_of (ok:=fun _=>True) fun R w k=>⟨(),trivial,k⟩) (fun _ _=>?_)
    refine WP.gh (l':=fun _:Unit=>[own strK nilV.1 [],rng Value.string (fun p:OV=>eq p.1) v0_0.1 q.1 (zipK a0.fdags ps) [],thg DDag.O a0.fdags ps,blk b0_ 95 [eq v0_0.1]]++F) (gh_of (st_nil strK none)) (fun _ _=>?_)
    refine WP.block ?_
    refine WP.weak (E':=(fun b:List Nat×OV=>[(3,eq b.2.1),(9,eq q.1)]) ([],nilV)) (weak_cons rfl (weak_cons rfl weak_nil)) (WP.loop (β:=List Nat×OV) (fun k b=>b.1.length + k = a0.fdags.length) (fun b=>[(3,eq b.2.1),(9,eq q.1)]) (fun b=>[own strK b.2.1 (selM a0.fdags (fun e=>some e.1) b.1),rng Value.string (fun p:OV=>eq p.1) v0_0.1 q.1 (zipK a0.fdags ps) b.1,thg DDag.O a0.fdags ps,blk b0_ 95 [eq v0_0.1]]++F) ?_ (k:=a0.fdags.length) (b:=([],nilV)) (Nat.zero_add _))
    rintro k ⟨is,v⟩ hk
    replace hk:is.length + k = a0.fdags.length:=hk
    refine WP.seq<|rg 2 1<|Dv.rgn (jj:=1) rfl trivial rfl rfl nofun (fun z hz=>?_)
    rcases z with _ | j
    · have hz:is.Perm (List.range (zipK a0.fdags ps).length):=hz
      rw [zipK_len hps.1] at hz
      refine ex0 rfl trivial rfl rfl<|.fin<|WP.seq<|WP.cond rfl nofun (fun _=>WP.exit ?_)
      refine Dn.gh (l':=fun _:Unit=>[own strK v.1 (selM a0.fdags (fun e=>some e.1) is),rng Value.string (fun p:OV=>eq p.1) v0_0.1 q.1 (zipK a0.fdags ps) is,thg DDag.O a0.fdags ps,blk b0_ 95 [eq v0_0.1]]++F) (gh_of (ok:=fun _=>True) fun R w k=>⟨(),trivial,k⟩) (fun _ _=>?_)
      refine Dn.gh (l':=fun _:Unit=>[mp Value.string (fun p:OV=>eq p.1) v0_0.1 (zipK a0.fdags ps),own strK v.1 (selM a0.fdags (fun e=>some e.1) is),thg DDag.O a0.fdags ps,blk b0_ 95 [eq v0_0.1]]++F) (gh_of (st_rge (pm 4 [1,0,2,3]))) (fun _ _=>?_)
      refine Dn.gh (l':=fun _:Unit=>[mpo Value.string DDag.O v0_0.1 a0.fdags,own strK v.1 (selM a0.fdags (fun e=>some e.1) is),blk b0_ 95 [eq v0_0.1]]++F) (gh_of (mpo_shut hps rfl (pm 4 [0,2,1,3]))) (fun _ _=>?_)
      exact Jn.mk (is,v) hz (weak_cons rfl weak_nil) (perm_ton 3 [1,2,0] (by kernel_rfl) rfl rfl)
    have hz:j < (zipK a0.fdags ps).length∧j ∉ is∧is.length < (zipK a0.fdags ps).length:=hz
    obtain ⟨e,p,he,hp,hep⟩:=zipK_get hps hz.1
    have hlt:is.length < a0.fdags.length:=by rw [← zipK_len hps.1]; exact hz.2.2
    have hsl:=Nat.le_trans (selM_len (m:=a0.fdags) (f:=(fun e=>some e.1)) (is:=is)) (Nat.le_of_lt hlt)
    have e1:nxV Value.string (fun p:OV=>eq p.1) (zipK a0.fdags ps) (some j) = tup [vB true,vS e.1,eq p.1]:=by simp only [nxV,hep]
    rw [e1]
    refine ex0 rfl trivial rfl rfl<|.fin<|WP.seq<|WP.cond rfl (fun _=>WP.skip ?_) nofun
    refine WP.gh (l':=fun _:Unit=>[own strK v.1 (selM a0.fdags (fun e=>some e.1) is),rng Value.string (fun p:OV=>eq p.1) v0_0.1 q.1 (zipK a0.fdags ps) (is++[j]),thg DDag.O a0.fdags ps,blk b0_ 95 [eq v0_0.1]]++F) (gh_of (ok:=fun _=>True) fun R w k=>⟨(),trivial,k⟩) (fun _ _=>?_)
    refine WP.block<|WP.seq<|rg 3 0<|Dv.rge 1 rfl trivial rfl rfl hep ?_
    refine ex0 rfl trivial rfl rfl<|as0 rfl rfl<|.fin ?_
    have e6:=selM_some (f:=(fun e=>some e.1)) (is:=is) he rfl
    have hbd:(selM a0.fdags (fun e=>some e.1) is).length + ([e.1]:List ByteArray).length≤9223372036854775807∧((selM a0.fdags (fun e=>some e.1) is).length + ([e.1]:List ByteArray).length) * 16≤140737488355328:=by rw [List.length_singleton]; omega
    refine rg 5 8<|mv0 rfl rfl<|mv0 rfl rfl<|Dv.lit strK ([e.1]:List ByteArray) (css:=[[vS e.1]]) rfl trivial Tryz.underlying53 Tryz.underlying9 c9 z9 rfl (by decide) (by decide) rfl ⟨(cells_one (one_eq rfl)),trivial⟩ rfl rfl rfl<|ap strK 0 ([e.1]:List ByteArray) src_sl Tryz.underlying53 (.inr ⟨_,Tryz.underlying53⟩) inf9 hbd nofun fun v9=>as0 rfl rfl<|.fin ?_
    rw [e6]
    exact Back.mk (k - 1) (is++[j],v9) (by omega) (by show (is++[j]).length + (k - 1) = _; rw [List.length_append,List.length_singleton]; omega) (weak_cons rfl (weak_cons rfl weak_nil)) (List.Perm.refl _)
  obtain ⟨is,v3⟩:=b
  replace hb:is.Perm (List.range a0.fdags.length):=hb
  have hp:=selM_perm (f:=(fun e=>some e.1)) hb
  have hs:slices_Sort_string.f (selM a0.fdags (fun e=>some e.1) is) = some (srtS (a0.fdags.map (·.1))):=by
    have e7:a0.fdags.filterMap (fun e=>some e.1) = a0.fdags.map (·.1):=by rw [← List.filterMap_eq_map]; rfl
    rw [e7] at hp
    unfold slices_Sort_string.f Sp.grd
    rw [if_pos (by rw [hp.length_eq,List.length_map]; omega),srtS_eq hp]
  refine WP.seq<|rg 2 2<|mv0 rfl rfl<|cx 3 [0,1,2] cal162 (slices_Sort_string.c hs (p0_:=v3)) nofun fun _ _=>.fin ?_
  refine WP.seq<|rg 2 0<|mv0 rfl rfl<|as0 rfl rfl<|.fin<|rt i2 rfl v3 3 [1,2,0] 0 (.cons (res_tmp rfl) .nil)
theorem member_Joined.c {k:Nat} {a0:DDag} {a1:ByteArray} {v0_0:OV} {b0_:Nat} {r:Bool} (h:member_Joined.f k a0 a1 = some r):Tr Tryz.prog 183 [eq (.pointer (some ⟨b0_,0,none⟩)),vS a1] [blk b0_ 159 [vS a0.froom,eq v0_0.1],mpo Value.string DNode.O v0_0.1 a0.fnodes] (γ:=Unit) (fun _=>True) (fun g=>vB r) (fun g=>[blk b0_ 159 [vS a0.froom,eq v0_0.1],mpo Value.string DNode.O v0_0.1 a0.fnodes]):=by
 unfold member_Joined.f at h
 refine Tr.body Tryz.func183 (c:=_) rfl Tryz.ntmps183 (Nat.le_of_ble_eq_true rfl) fun R0 F=>?_
 replace h:=Gets.of h
 have H:=h
 clear h
 refine WP.seq<|rg 1 0<|as0 rfl rfl<|.fin<|WP.seq<|rg 6 2<|mv0 rfl rfl<|el H fun t955 h956 H=>cx 2 [0,1] cal196 (member_joined.c h956 (b0_:=b0_) (v0_0:=v0_0)) nofun fun g957 _=>?_
 refine mv0 rfl rfl<|Dv.mlv 0 rfl trivial rfl (mem_at 2 rfl) rfl Tryz.underlying241 (keyOk_str Tryz.underlying9) z3 (fun _=>rfl)<|bn0 rfl rfl rfl run_gt<|as0 rfl rfl<|.fin ?_
 cases H.out; exact rt i2 rfl () 3 [2,0,1] 1 (.cons (res_tmp rfl) .nil)
theorem view_View_Joined.c {k:Nat} {a0:VView} {a1:ByteArray} {a2:ByteArray} {v0_0:OV} {b0_:Nat} {r:Bool} (h:view_View_Joined.f k a0 a1 a2 = some r):Tr Tryz.prog 173 [eq (.pointer (some ⟨b0_,0,none⟩)),vS a1,vS a2] [blk b0_ 95 [eq v0_0.1],mpo Value.string DDag.O v0_0.1 a0.fdags] (γ:=Unit) (fun _=>True) (fun g=>vB r) (fun g=>[blk b0_ 95 [eq v0_0.1],mpo Value.string DDag.O v0_0.1 a0.fdags]):=by
 unfold view_View_Joined.f at h
 refine Tr.body Tryz.func173 (c:=_) rfl Tryz.ntmps173 (Nat.le_of_ble_eq_true rfl) fun R0 F=>?_
 replace h:=Gets.of h
 have H:=h
 clear h
 refine WP.seq<|rg 1 0<|as0 rfl rfl<|.fin<|WP.seq<|rg 6 4<|mv0 rfl rfl<|mv0 rfl rfl<|el H fun t958 h959 H=>cx 2 [0,1] cal55 (view_View_room.c h959 (b0_:=b0_) (v0_0:=v0_0)) nofun fun v960 _=>?_
 refine mv0 rfl rfl<|vg (DDag.opn 2 rfl) fun g961 h962=>?_
 refine el H fun t963 h964 H=>cll 4 [0,1,2,3] cal183 (Tr.weak (member_Joined.c h964 (b0_:=g961.1) (v0_0:=g961.2)) (.cons (wk_ptr h962) (.cons wk_id .nil))) ?_
 refine as0 rfl rfl<|.fin<|wg (DDag.shut (p:=v960) (m:=t958) (g961.1,g961.2) h962 (pm 4 [0,1,2,3])) fun _ _=>?_
 refine wg (mpl_back0 (view_View_room.r h959) (pm 3 [2,0,1])) fun _ _=>?_
 cases H.out; exact rt i2 rfl () 2 [1,0] 0 (.cons (res_tmp rfl) .nil)
theorem view_View_RoomsOf_1.c {k:Nat} {a0:ByteArray} {cb0_ cd0_:Nat} {cq0_ cv0_0:OV} {ch0_:cq0_.1 = .pointer (some ⟨cd0_,0,none⟩)} {c0:VView} {c1:ByteArray} {r:Bool} (h:view_View_RoomsOf_1.f k a0 c0 c1 = some r):Tr Tryz.prog 172 [vS a0,eq (.pointer (some ⟨cb0_,0,none⟩)),rp [vS c1]] [blk cb0_ 26 [eq cq0_.1],blk cd0_ 95 [eq cv0_0.1],mpo Value.string DDag.O cv0_0.1 c0.fdags] (γ:=Unit) (fun _=>True) (fun g=>vB r) (fun g=>[blk cb0_ 26 [eq cq0_.1],blk cd0_ 95 [eq cv0_0.1],mpo Value.string DDag.O cv0_0.1 c0.fdags]):=by
 unfold view_View_RoomsOf_1.f at h
 refine Tr.body Tryz.func172 (c:=_) rfl Tryz.ntmps172 (Nat.le_of_ble_eq_true rfl) fun R0 F=>?_
 replace h:=Gets.of h
 have H:=h
 clear h
 refine WP.seq<|rg 1 0<|as0 rfl rfl<|.fin<|WP.seq<|rg 6 0<|ld 0 rfl trivial rfl sc26 rfl rfl<|mv0 rfl rfl<|ldR rfl trivial rfl sc9 rfl<|el H fun t965 h966 H=>cll 3 [1,2,0] cal173 (Tr.weak (view_View_Joined.c h966 (b0_:=cd0_) (v0_0:=cv0_0)) (.cons (wk_ptr ch0_) (.cons wk_id (.cons wk_id .nil)))) ?_
 refine un0 rfl rfl (run_not _)<|as0 rfl rfl<|.fin ?_
 cases H.out; exact rt i2 rfl () 3 [0,1,2] 0 (.cons (res_tmp rfl) .nil)
theorem view_View_RoomsOf.c {k:Nat} {a0:VView} {a1:ByteArray} {p0_:OV} {r:(List ByteArray)} (h:view_View_RoomsOf.f k a0 a1 = some r):Tr Tryz.prog 161 [eq p0_.1,vS a1] [VView.O p0_ a0] (γ:=OV) (fun _=>True) (fun g=>eq g.1) (fun g=>[VView.O p0_ a0,own strK g.1 r]):=by
 unfold view_View_RoomsOf.f at h
 refine Tr.body Tryz.func161 (c:=_) rfl Tryz.ntmps161 (Nat.le_of_ble_eq_true rfl) fun R0 F=>?_
 replace h:=Gets.of h
 have H:=h
 clear h
 refine WP.seq<|rg 3 3<|Dv.box rfl trivial rfl (cells_one one_ov) nofun fun b967=>Dv.box rfl trivial rfl cE nofun fun b968=>as0 rfl rfl<|.fin<|WP.seq<|rg 5 10<|ld 1 rfl trivial rfl sc26 rfl rfl<|vg (VView.opn 2 rfl) fun g969 h970=>?_
 refine el H fun t971 h972 H=>cx 4 [0,1,2,3] cal171 (Tr.weak (view_View_Rooms.c h972 (b0_:=g969.1) (v0_0:=g969.2)) (.cons (wk_ptr h970) .nil)) nofun fun g973 _=>?_
 refine Dv.gh (gh_frzb (E':=[(0,eq p0_.1),(1,vS a1),(2,eq (.pointer (some ⟨b967,0,none⟩))),(3,rp [vS a1]),(4,eq (.slice none 0 0)),(6,eq g973.1)]) (l':=[blk g969.1 95 [eq g969.2.1],mpo Value.string DDag.O g969.2.1 a0.fdags,own strK g973.1 t971,blk b967 26 [eq p0_.1]]++F) 3 rfl (cve_cons rfl cv_id (cve_cons rfl cv_id (cve_cons rfl cv_id (cve_cons rfl cv_eq (cve_cons rfl cv_id (cve_cons rfl cv_id cve_nil)))))) (all2_app (.cons cva_id (.cons cva_id (.cons cva_id (.cons cva_id .nil)))) fun _=>cva_id)) (fun _ _=>?_)
 refine Dv.mkx (Q:=fqQ_string_bool (fun a0_=>view_View_RoomsOf_1.f k a0_ a0 a1)) (L:=[blk b967 26 [eq p0_.1],blk g969.1 95 [eq g969.2.1],mpo Value.string DDag.O g969.2.1 a0.fdags]) cal172 (by rintro _ _ ⟨a0_,r_,h_,rfl,rfl⟩; exact view_View_RoomsOf_1.c h_ (cb0_:=b967) (cq0_:=p0_) (cd0_:=g969.1) (ch0_:=h970) (cv0_0:=g969.2)) rfl trivial rfl rfl<|el H fun t974 h975 H=>cx 4 [2,3,0,1] cal170 (Tr.unpko (A:=[own strK g973.1 t971]) (L:=[blk b967 26 [eq p0_.1],blk g969.1 95 [eq g969.2.1],mpo Value.string DDag.O g969.2.1 a0.fdags]) (B:=fun g976:OV=>[own strK g976.1 t974]) (slices_DeleteFunc_string_xo.c h975 (p0_:=g973) (X1_:=(pk [blk b967 26 [eq p0_.1],blk g969.1 95 [eq g969.2.1],mpo Value.string DDag.O g969.2.1 a0.fdags])))) nofun fun g976 _=>?_
 refine as0 rfl rfl<|.fin<|wg (VView.shut (p:=p0_) (m:=a0) (g969.1,g969.2) h970 (pm 4 [1,2,0,3])) fun _ _=>?_
 obtain rfl:=Gets.out H
 exact rt i2 rfl g976 3 [1,0,2] 1 (.cons (res_tmp rfl) .nil)
theorem view_View_Peers.c {k:Nat} {a0:VView} {a1:ByteArray} {p0_:OV} {r:(List ByteArray)} (h:view_View_Peers.f k a0 a1 = some r):Tr Tryz.prog 144 [eq p0_.1,vS a1] [VView.O p0_ a0] (γ:=OV) (fun _=>True) (fun g=>eq g.1) (fun g=>[VView.O p0_ a0,own strK g.1 r]):=by
 unfold view_View_Peers.f at h
 refine Tr.body Tryz.func144 (c:=_) rfl Tryz.ntmps144 (Nat.le_of_ble_eq_true rfl) fun R0 F=>?_
 replace h:=Gets.of h
 have H:=h
 clear h
 refine WP.seq<|rg 1 0<|as0 rfl rfl<|.fin<|WP.seq<|rg 1 0<|as0 rfl rfl<|.fin<|WP.seqn H (fun q1003:(Int×Int×Bool×(List ByteArray)×(List ByteArray))×OV×OV=>q1003.1) (fun q1003:(Int×Int×Bool×(List ByteArray)×(List ByteArray))×OV×OV=>[(0,eq p0_.1),(1,vS a1),(4,eq (.slice none 0 0)),(5,eq q1003.2.1.1),(10,eq q1003.2.2.1),(11,vI q1003.1.1),(12,vI q1003.1.2.1),(13,vB q1003.1.2.2.1)]) (fun q1003:(Int×Int×Bool×(List ByteArray)×(List ByteArray))×OV×OV=>[VView.O p0_ a0,own strK q1003.2.1.1 q1003.1.2.2.2.1,own strK q1003.2.2.1 q1003.1.2.2.2.2]++F) (fun q1003 H=>?_) (fun H=>?_)
 ·
  obtain ⟨p977,v978,v979⟩:=q1003
  refine WP.seq<|rg 2 2<|mv0 rfl rfl<|el H fun t980 h981 H=>cx 3 [1,0,2] cal162 (slices_Sort_string.c h981 (p0_:=v978)) nofun fun _ _=>?_
  refine .fin<|WP.seq<|rg 3 2<|mv0 rfl rfl<|el H fun t982 h983 H=>cx 3 [0,1,2] cal163 (slices_Compact_string.c h983 (p0_:=v978)) nofun fun g984 _=>?_
  refine as0 rfl rfl<|.fin ?_
  obtain rfl:=Gets.out H
  exact rt i2 rfl g984 3 [2,1,0] 1 (.cons (res_tmp rfl) .nil)
 refine WP.seq<|rg 5 4<|mv0 rfl rfl<|mv0 rfl rfl<|el H fun t985 h986 H=>cx 1 [0] cal161 (view_View_RoomsOf.c h986 (p0_:=p0_)) nofun fun g987 _=>?_
 refine Dv.lenw rfl trivial rfl (mem_at 1 rfl) Tryz.underlying53<|mv0 rfl rfl<|.fin<|WP.block<|wg (st_nil strK none) fun _ _=>?_
 refine wg (sg 3 [1,2,0] 0) fun _ _=>?_
 refine lp (fun j_ (p1002:Int×(List ByteArray)×OV)=>view_View_Peers.l0 k a0 t985 j_ p1002.1 p1002.2.1) (0,([]:List ByteArray),nilV) H (fun p1002=>[(0,eq p0_.1),(1,vS a1),(4,eq (.slice none 0 0)),(5,eq p1002.2.2.1),(10,eq g987.1),(11,vI (t985.length:Int)),(12,vI p1002.1)]) (fun p1002=>[VView.O p0_ a0,own strK g987.1 t985,own strK p1002.2.2.1 p1002.2.1]++F) ?_
 rintro j_ ⟨x988,x989,v990⟩ H
 rcases j_ with _ | j1001
 ·
  exact (Gets.no H).elim
 replace H:Gets (view_View_Peers.l0 k a0 t985 (j1001 + 1) x988 x989) _:=H
 rw [view_View_Peers.l0] at H
 refine WP.seq<|rg 1 0<|bn0 rfl rfl rfl run_lt<|.fin<|WP.seq<|cd H rfl (fun _ H=>?_) (fun _ H=>?_)
 rotate_left
 ·
  refine WP.exit ?_
  have H:=H.out
  refine ng (sg 3 [0,2,1] 0) fun _ _=>?_
  exact jn (((t985.length:Int),x988,decide (x988 < (t985.length:Int)),x989,t985),v990,g987) H
 refine WP.skip<|WP.seq<|WP.block<|WP.seq<|rg 3 0<|gr H fun g992 H=>?_
 have h993:x988.toNat < t985.length:=idx_lt g992
 refine Dv.ixw rfl trivial rfl (mem_at 1 rfl) rfl Tryz.underlying53 Tryz.underlying9 c9 g992.1 g992.2<|Dv.ldw (j:=x988.toNat) (f:=0) (p:=vS (t985.getD x988.toNat default)) rfl trivial rfl (mem_at 1 rfl) h993 Tryz.underlying9 rfl rfl<|as0 rfl rfl<|.fin<|rg 6 24<|mv0 rfl rfl<|mv0 rfl rfl<|mv0 rfl rfl<|vg (VView.opn 0 rfl) fun g994 h995=>?_
 refine el H fun t996 h997 H=>cx 4 [0,1,2,3] cal145 (Tr.weak (view_View_Servers.c h997 (b0_:=g994.1) (v0_0:=g994.2)) (.cons (wk_ptr h995) (.cons wk_id .nil))) nofun fun g998 _=>?_
 refine gr H fun g999 H=>ap strK 4 t996 (src_own (mem_at 2 rfl)) Tryz.underlying53 (.inr ⟨_,Tryz.underlying53⟩) inf9 g999 nofun fun v1000=>?_
 refine as0 rfl rfl<|.fin<|rg 2 0<|bn0 rfl rfl rfl run_add<|mv0 rfl rfl<|.fin<|ng (VView.shut (p:=p0_) (m:=a0) (g994.1,g994.2) h995 (pm 5 [0,1,2,3,4])) fun _ _=>?_
 refine ng (sg 4 [1,0,2,3] 1) fun _ _=>?_
 exact bk j1001 (w64 (x988 + 1),x989++t996,v1000) H
theorem gate_reached.c {k:Nat} {a0:VView} {a1:Edu} {p0_:OV} {r:(List ByteArray)} (h:gate_reached.f k a0 a1 = some r):Tr Tryz.prog 114 [eq p0_.1,agg (Edu.enc a1)] [VView.O p0_ a0] (γ:=OV) (fun _=>True) (fun g=>eq g.1) (fun g=>[VView.O p0_ a0,own strK g.1 r]):=by
 unfold gate_reached.f at h
 refine Tr.body Tryz.func114 (c:=_) rfl Tryz.ntmps114 (Nat.le_of_ble_eq_true rfl) fun R0 F=>?_
 replace h:=Gets.of h
 have H:=h
 clear h
 refine WP.seq<|rg 2 1<|Dv.box rfl trivial rfl cA nofun fun b1004=>as0 rfl rfl<|.fin<|WP.seq<|WP.block<|WP.seq<|rg 4 0<|lds 0 rfl trivial rfl sg32 rfl rfl<|el H fun t1005 h1006 H=>cl rfl cal42 rfl (edu_May.c h1006)<|un0 rfl rfl (run_not _)<|as0 rfl rfl<|.fin<|cd H rfl (fun _ H=>?_) (fun _ H=>?_)
 ·
  refine WP.seq<|rg 1 0<|as0 rfl rfl<|.fin<|wg (st_nil strK none) fun _ _=>?_
  obtain rfl:=Gets.out H
  exact rt i2 rfl nilV 3 [1,2,0] 1 (.cons (res_tmp rfl) .nil)
 refine WP.seq<|rg 4 0<|fb rfl trivial rfl fa32_0<|ld 0 rfl trivial rfl sc3 rfl rfl<|bn0 rfl rfl rfl run_eq<|as0 rfl rfl<|.fin<|cd H rfl (fun _ H=>?_) (fun _ H=>?_)
 ·
  refine WP.seq<|rg 5 8<|mv0 rfl rfl<|fb rfl trivial rfl fa32_2<|ld 0 rfl trivial rfl sc9 rfl rfl<|el H fun t1009 h1010 H=>cx 2 [1,0] cal144 (view_View_Peers.c h1010 (p0_:=p0_)) nofun fun g1011 _=>?_
  refine as0 rfl rfl<|.fin ?_
  obtain rfl:=Gets.out H
  exact rt i2 rfl g1011 3 [2,0,1] 1 (.cons (res_tmp rfl) .nil)
 refine WP.skip<|WP.seq<|rg 5 8<|mv0 rfl rfl<|fb rfl trivial rfl fa32_1<|ld 0 rfl trivial rfl sc9 rfl rfl<|vg (VView.opn 1 rfl) fun g1012 h1013=>?_
 refine el H fun t1014 h1015 H=>cx 3 [0,1,2] cal145 (Tr.weak (view_View_Servers.c h1015 (b0_:=g1012.1) (v0_0:=g1012.2)) (.cons (wk_ptr h1013) (.cons wk_id .nil))) nofun fun g1016 _=>?_
 refine as0 rfl rfl<|.fin<|wg (VView.shut (p:=p0_) (m:=a0) (g1012.1,g1012.2) h1013 (pm 4 [0,1,2,3])) fun _ _=>?_
 obtain rfl:=Gets.out H
 exact rt i2 rfl g1016 3 [2,0,1] 1 (.cons (res_tmp rfl) .nil)
theorem gate_Passes.c {k:Nat} {a0:VView} {a1:ByteArray} {a2:Edu} {p0_:OV} {r:Bool} (h:gate_Passes.f k a0 a1 a2 = some r):Tr Tryz.prog 84 [eq p0_.1,vS a1,agg (Edu.enc a2)] [VView.O p0_ a0] (γ:=Unit) (fun _=>True) (fun g=>vB r) (fun g=>[VView.O p0_ a0]):=by
 unfold gate_Passes.f at h
 refine Tr.body Tryz.func84 (c:=_) rfl Tryz.ntmps84 (Nat.le_of_ble_eq_true rfl) fun R0 F=>?_
 replace h:=Gets.of h
 have H:=h
 clear h
 refine WP.seq<|rg 2 1<|Dv.box rfl trivial rfl cA nofun fun b1017=>as0 rfl rfl<|.fin<|WP.seq<|rg 6 4<|mv0 rfl rfl<|lds 0 rfl trivial rfl sg32 rfl rfl<|el H fun t1018 h1019 H=>cx 2 [1,0] cal114 (gate_reached.c h1019 (p0_:=p0_)) nofun fun g1020 _=>?_
 refine mv0 rfl rfl<|el H fun t1021 h1022 H=>cll (B:=[own strK g1020.1 t1018]) 3 [1,0,2] cal113 (Pt.lend _ (slices_Contains_string.c h1022) (.cons (lt_own (mem_at 0 rfl)) (.cons lt_id .nil)) flat_eq) ?_
 refine as0 rfl rfl<|.fin ?_
 cases H.out; exact rt i2 rfl () 3 [1,2,0] 2 (.cons (res_tmp rfl) .nil)
theorem gate_Choose_1.c {k:Nat} {a0:Edu} {cb0_:Nat} {cq0_:OV} {c0:VView} {c1:ByteArray} {r:Bool} (h:gate_Choose_1.f k a0 c0 c1 = some r):Tr Tryz.prog 83 [agg (Edu.enc a0),eq (.pointer (some ⟨cb0_,0,none⟩)),rp [vS c1]] [blk cb0_ 26 [eq cq0_.1],VView.O cq0_ c0] (γ:=Unit) (fun _=>True) (fun g=>vB r) (fun g=>[blk cb0_ 26 [eq cq0_.1],VView.O cq0_ c0]):=by
 unfold gate_Choose_1.f at h
 refine Tr.body Tryz.func83 (c:=_) rfl Tryz.ntmps83 (Nat.le_of_ble_eq_true rfl) fun R0 F=>?_
 replace h:=Gets.of h
 have H:=h
 clear h
 refine WP.seq<|rg 2 1<|Dv.box rfl trivial rfl cA nofun fun b1023=>as0 rfl rfl<|.fin<|WP.seq<|rg 6 8<|ld 1 rfl trivial rfl sc26 rfl rfl<|ldR rfl trivial rfl sc9 rfl<|lds 0 rfl trivial rfl sg32 rfl rfl<|el H fun t1024 h1025 H=>cx 3 [2,0,1] cal84 (gate_Passes.c h1025 (p0_:=cq0_)) nofun fun _ _=>?_
 refine un0 rfl rfl (run_not _)<|as0 rfl rfl<|.fin ?_
 cases H.out; exact rt i2 rfl () 3 [1,2,0] 1 (.cons (res_tmp rfl) .nil)
theorem gate_Choose.c {k:Nat} {a0:VView} {a1:ByteArray} {a2:List Edu} {p0_:OV} {r:(List Edu)} (h:gate_Choose.f k a0 a1 a2 = some r):Tr Tryz.prog 49 [eq p0_.1,vS a1,sl Edu.K a2] [VView.O p0_ a0] (γ:=Unit) (fun _=>True) (fun g=>sl Edu.K r) (fun g=>[VView.O p0_ a0]):=by
 unfold gate_Choose.f at h
 refine Tr.body Tryz.func49 (c:=_) rfl Tryz.ntmps49 (Nat.le_of_ble_eq_true rfl) fun R0 F=>?_
 replace h:=Gets.of h
 have H:=h
 clear h
 refine WP.seq<|rg 3 3<|Dv.box rfl trivial rfl (cells_one one_ov) nofun fun b1026=>Dv.box rfl trivial rfl cE nofun fun b1027=>as0 rfl rfl<|.fin<|WP.seq<|rg 5 10<|mv0 rfl rfl<|el H fun t1028 h1029 H=>cx 3 [0,1,2] cal80 (slices_Clone_Edu.c h1029) nofun fun g1030 _=>?_
 refine Dv.gh (gh_frzb (E':=[(0,eq p0_.1),(1,vS a1),(2,sl Edu.K a2),(3,eq (.pointer (some ⟨b1026,0,none⟩))),(4,rp [vS a1]),(6,eq (.slice none 0 0)),(8,eq g1030.1)]) (l':=[own Edu.K g1030.1 t1028,blk b1026 26 [eq p0_.1],VView.O p0_ a0]++F) 1 rfl (cve_cons rfl cv_id (cve_cons rfl cv_id (cve_cons rfl cv_id (cve_cons rfl cv_id (cve_cons rfl cv_eq (cve_cons rfl cv_id (cve_cons rfl cv_id cve_nil))))))) (all2_app (.cons cva_id (.cons cva_id (.cons cva_id .nil))) fun _=>cva_id)) (fun _ _=>?_)
 refine Dv.mkx (Q:=fqQ_api_Edu_bool (fun a0_=>gate_Choose_1.f k a0_ a0 a1)) (L:=[blk b1026 26 [eq p0_.1],VView.O p0_ a0]) cal83 (by rintro _ _ ⟨a0_,r_,h_,rfl,rfl⟩; exact gate_Choose_1.c h_ (cb0_:=b1026) (cq0_:=p0_)) rfl trivial rfl rfl<|el H fun t1031 h1032 H=>cx 3 [0,1,2] cal82 (Tr.unpko (A:=[own Edu.K g1030.1 t1028]) (L:=[blk b1026 26 [eq p0_.1],VView.O p0_ a0]) (B:=fun g1033:OV=>[own Edu.K g1033.1 t1031]) (slices_DeleteFunc_Edu_xo.c h1032 (p0_:=g1030) (X1_:=(pk [blk b1026 26 [eq p0_.1],VView.O p0_ a0])))) nofun fun g1033 _=>?_
 refine as0 rfl rfl<|.fin<|WP.gh (gh_frz (E':=[(6,sl Edu.K t1031)]) (l':=[blk b1026 26 [eq p0_.1],VView.O p0_ a0]++F) 2 rfl (cve_cons rfl cv_eq cve_nil) (all2_app (.cons cva_id (.cons cva_id .nil)) fun _=>cva_id)) (fun _ _=>?_)
 cases H.out; exact rt i2 rfl () 2 [0,1] 1 (.cons (res_tmp rfl) .nil)
theorem clock_Backoff.c {k:Nat} {a0:Int} {r:Int} (h:clock_Backoff.f k a0 = some r):Pt Tryz.prog 53 [vI a0] (vI r):=by
 unfold clock_Backoff.f at h
 refine pb Tryz.func53 Tryz.ntmps53 h fun R0 F H=>?_
 refine WP.seq<|rg 1 0<|as0 rfl rfl<|.fin<|WP.seq<|rg 1 0<|as0 rfl rfl<|.fin<|WP.seqn H id (fun p1034:Int×Int×Bool=>[(0,vI a0),(2,vI 0),(3,vI p1034.1),(6,vI (min (max a0 0) 9)),(7,vI p1034.2.1),(8,vB p1034.2.2)]) (fun p1034:Int×Int×Bool=>F) (fun p1034 H=>?_) (fun H=>?_)
 ·
  refine WP.seq<|rg 2 0<|mv0 rfl rfl<|as0 rfl rfl<|.fin ?_
  cases H.out; exact r0 i2 rfl (.cons (res_tmp rfl) .nil)
 refine WP.seq<|rg 4 0<|mv0 rfl rfl<|Dv.maxi rfl trivial rfl rfl<|Dv.mini rfl trivial rfl rfl<|mv0 rfl rfl<|.fin<|WP.block<|wg (sg 0 [] 0) fun _ _=>?_
 refine lp (fun j_ (p1039:Int×Int)=>clock_Backoff.l0 k a0 j_ p1039.1 p1039.2) (1,0) H (fun p1039=>[(0,vI a0),(2,vI 0),(3,vI p1039.1),(6,vI (min (max a0 0) 9)),(7,vI p1039.2)]) (fun p1039=>F) ?_
 rintro j_ ⟨x1035,x1036⟩ H
 rcases j_ with _ | j1038
 ·
  exact (Gets.no H).elim
 replace H:Gets (clock_Backoff.l0 k a0 (j1038 + 1) x1035 x1036) _:=H
 rw [clock_Backoff.l0] at H
 refine WP.seq<|rg 1 0<|bn0 rfl rfl rfl run_lt<|.fin<|WP.seq<|cd H rfl (fun _ H=>?_) (fun _ H=>?_)
 rotate_left
 ·
  refine WP.exit ?_
  have H:=H.out
  exact jn (x1035,x1036,decide (x1036 < (min (max a0 0) 9))) H
 exact WP.skip<|WP.seq<|WP.block<|rg 4 0<|mv0 rfl rfl<|bn0 rfl rfl rfl run_mul<|Dv.mini rfl trivial rfl rfl<|as0 rfl rfl<|.fin<|rg 2 0<|bn0 rfl rfl rfl run_add<|mv0 rfl rfl<|.fin<|bk j1038 (min (w64 (2 * x1035)) 16,w64 (x1036 + 1)) H
theorem sender_Sender_again.c {k:Nat} {a0:SSnd} {a1:VView} {a2:Int} {p0_ p1_:OV} {r:Bool×SSnd} (h:sender_Sender_again.f k a0 a1 a2 = some r):Tr Tryz.prog 46 [eq p0_.1,eq p1_.1,vI a2] [SSnd.O p0_ a0,VView.O p1_ a1] (γ:=Unit) (fun _=>True) (fun g=>vB r.1) (fun g=>[SSnd.O p0_ r.2,VView.O p1_ a1]):=by
 unfold sender_Sender_again.f at h
 refine Tr.body Tryz.func46 (c:=_) rfl Tryz.ntmps46 (Nat.le_of_ble_eq_true rfl) fun R0 F=>?_
 replace h:=Gets.of h
 have H:=h
 clear h
 refine WP.seq<|rg 1 0<|as0 rfl rfl<|.fin<|WP.seq<|wg (SSnd.opn 0 rfl) fun g1040 h1041=>?_
 refine gr H fun g1042 H=>wg (opt_some 3 rfl (isN g1042)) fun _ _=>?_
 refine wg (Fly.opn 0 rfl) fun g1043 h1044=>?_
 refine dg Tryz.checked.mixed 15 8192<|mv0 rfl rfl<|mv0 rfl rfl<|Dv.nilpp h1041 rfl trivial rfl<|fp h1041 rfl trivial rfl fa40_2<|ld 1 rfl trivial rfl sc9 rfl rfl<|mv0 rfl rfl<|Dv.nilpp h1041 rfl trivial rfl<|fp h1041 rfl trivial rfl fa40_4<|ld 1 rfl trivial rfl sc38 rfl rfl<|Dv.nilpp h1044 rfl trivial rfl<|fp h1044 rfl trivial rfl fa111_0<|fb rfl trivial rfl fa46_4<|ld 0 rfl trivial rfl sc23 rfl rfl<|el H fun t1045 h1046 H=>cx 5 [4,0,1,2,3] cal49 (gate_Choose.c h1046 (p0_:=p1_)) pC fun _ _=>?_
 refine as0 rfl rfl<|.fin<|WP.seq<|WP.seq<|rg 3 0<|mv0 rfl rfl<|Dv.lenl rfl trivial rfl Tryz.underlying23<|bn0 rfl rfl rfl run_eq<|.fin<|cd H rfl (fun _ H=>?_) (fun _ H=>?_)
 ·
  refine WP.seq<|rg 4 8<|mv0 rfl rfl<|Dv.nilpp h1041 rfl trivial rfl<|fp h1041 rfl trivial rfl fa40_4<|sx 2 rfl trivial rfl rfl cE sz38 rfl rfl rfl nofun ?_
  refine .fin<|WP.seq<|rg 1 0<|as0 rfl rfl<|.fin<|wg (st_nilP (O:=Fly.O)) fun _ _=>?_
  refine wg (SSnd.shut (p:=p0_) (m:=(⟨a0.fQueue,a0.fself,a0.fto,a0.fids,none⟩:SSnd)) (g1040.1,g1040.2.1,g1040.2.2.1,nilP) h1041 (pm 6 [3,4,5,0,1,2])) fun _ _=>?_
  refine wg (Fly.shut (p:=g1040.2.2.2) (m:=a0.fair.getD default) g1043 h1044 (pm 3 [2,0,1])) fun _ _=>?_
  refine wg (opt_back0 (O:=Fly.O) (o:=a0.fair) (isN g1042) 0 rfl) fun _ _=>?_
  cases H.out; exact rt i2 rfl () 3 [0,1,2] 1 (.cons (res_tmp rfl) .nil)
 refine WP.skip<|WP.seq<|rg 9 256<|mv0 rfl rfl<|Dv.nilpp h1041 rfl trivial rfl<|fp h1041 rfl trivial rfl fa40_4<|ld 2 rfl trivial rfl sc38 rfl rfl<|mv0 rfl rfl<|Dv.nilpp h1044 rfl trivial rfl<|fp h1044 rfl trivial rfl fa111_0<|fb rfl trivial rfl fa46_4<|sx 1 rfl trivial rfl rfl (cells_one one_sl) sz23 rfl rfl rfl nofun ?_
 refine .fin<|WP.seq<|rg 11 1024<|mv0 rfl rfl<|Dv.nilpp h1041 rfl trivial rfl<|fp h1041 rfl trivial rfl fa40_4<|ld 2 rfl trivial rfl sc38 rfl rfl<|Dv.nilpp h1044 rfl trivial rfl<|fp h1044 rfl trivial rfl fa111_1<|ld 1 rfl trivial rfl sc3 rfl rfl<|bn0 rfl rfl rfl run_add<|Dv.nilpp h1044 rfl trivial rfl<|fp h1044 rfl trivial rfl fa111_1<|sx 1 rfl trivial rfl rfl cE sz3 rfl rfl rfl nofun ?_
 refine .fin<|WP.seq<|dg Tryz.checked.mixed 17 65536<|mv0 rfl rfl<|Dv.nilpp h1041 rfl trivial rfl<|fp h1041 rfl trivial rfl fa40_4<|ld 2 rfl trivial rfl sc38 rfl rfl<|mv0 rfl rfl<|mv0 rfl rfl<|Dv.nilpp h1041 rfl trivial rfl<|fp h1041 rfl trivial rfl fa40_4<|ld 2 rfl trivial rfl sc38 rfl rfl<|Dv.nilpp h1044 rfl trivial rfl<|fp h1044 rfl trivial rfl fa111_1<|ld 1 rfl trivial rfl sc3 rfl rfl<|el H fun t1048 h1049 H=>cl rfl cal53 rfl (clock_Backoff.c h1049)<|bn0 rfl rfl rfl run_add<|Dv.nilpp h1044 rfl trivial rfl<|fp h1044 rfl trivial rfl fa111_2<|sx 1 rfl trivial rfl rfl cE sz3 rfl rfl rfl pB ?_
 refine .fin<|WP.seq<|rg 1 0<|as0 rfl rfl<|.fin<|wg (Fly.shut (p:=g1040.2.2.2) (m:=(⟨(⟨((a0.fair.getD default).fp).fAck,((a0.fair.getD default).fp).fFrom,((a0.fair.getD default).fp).fTo,((a0.fair.getD default).fp).fID,t1045⟩:Par),w64 (((a0.fair.getD default).ftries) + 1),w64 (a2 + t1048)⟩:Fly)) g1043 h1044 (pm 5 [1,0,2,3,4])) fun _ _=>?_
 refine wg (opt_back1 (O:=Fly.O) 0 rfl) fun _ _=>?_
 refine wg (SSnd.shut (p:=p0_) (m:=(⟨a0.fQueue,a0.fself,a0.fto,a0.fids,some (⟨(⟨((a0.fair.getD default).fp).fAck,((a0.fair.getD default).fp).fFrom,((a0.fair.getD default).fp).fTo,((a0.fair.getD default).fp).fID,t1045⟩:Par),w64 (((a0.fair.getD default).ftries) + 1),w64 (a2 + t1048)⟩:Fly)⟩:SSnd)) (g1040.1,g1040.2.1,g1040.2.2.1,g1040.2.2.2) h1041 (pm 5 [2,3,4,0,1])) fun _ _=>?_
 cases H.out; exact rt i2 rfl () 2 [0,1] 0 (.cons (res_tmp rfl) .nil)
theorem sender_Sender_told.c {a0:SSnd} {v0_0 v0_1 v0_2 v0_3 v0_4:OV} {b0_ d0_0 d0_1:Nat} {e0_0:v0_0.1 = .pointer (some ⟨d0_0,0,none⟩)} {e0_1:v0_1.1 = .pointer (some ⟨d0_1,0,none⟩)} {r:Par} (h:sender_Sender_told.f a0 = some r):Tr Tryz.prog 47 [eq (.pointer (some ⟨b0_,0,none⟩))] [blk b0_ 40 [eq v0_0.1,vS a0.fself,vS a0.fto,eq v0_1.1,eq v0_2.1],blk d0_0 107 [vI a0.fQueue.fmost,eq v0_3.1,eq v0_4.1,vI a0.fQueue.flost],own EKey.K v0_3.1 a0.fQueue.fkeys,mp EKey.kv (fun x:Edu=>agg (Edu.enc x)) v0_4.1 a0.fQueue.fat,blk d0_1 173 [vI a0.fids.fn.fv,vI a0.fids.fmost],optO Fly.O v0_2 a0.fair] (γ:=Unit) (fun _=>True) (fun g=>agg (Par.enc r)) (fun g=>[blk b0_ 40 [eq v0_0.1,vS a0.fself,vS a0.fto,eq v0_1.1,eq v0_2.1],blk d0_0 107 [vI a0.fQueue.fmost,eq v0_3.1,eq v0_4.1,vI a0.fQueue.flost],own EKey.K v0_3.1 a0.fQueue.fkeys,mp EKey.kv (fun x:Edu=>agg (Edu.enc x)) v0_4.1 a0.fQueue.fat,blk d0_1 173 [vI a0.fids.fn.fv,vI a0.fids.fmost],optO Fly.O v0_2 a0.fair]):=by
 unfold sender_Sender_told.f at h
 refine Tr.body Tryz.func47 (c:=_) rfl Tryz.ntmps47 (Nat.le_of_ble_eq_true rfl) fun R0 F=>?_
 replace h:=Gets.of h
 have H:=h
 clear h
 refine WP.seq<|rg 1 1<|al rfl trivial zc46 nofun fun b1050=>.fin<|WP.seq<|rg 9 384<|mv0 rfl rfl<|Dv.nilp rfl trivial rfl<|fb rfl trivial rfl fa40_4<|ld 1 rfl trivial rfl sc38 rfl rfl<|gr H fun g1051 H=>vg (opt_some 6 rfl (isN g1051)) fun _ _=>?_
 refine Dv.nilA Fly.nn rfl trivial rfl (mem_at 0 rfl)<|vg (Fly.opn 0 rfl) fun g1052 h1053=>?_
 refine fp h1053 rfl trivial rfl fa111_0<|lds 0 rfl trivial rfl sg46 rfl rfl<|al rfl trivial zc46 nofun fun b1054=>sx 0 rfl trivial rfl rfl cA sz46 rfl rfl rfl nofun ?_
 refine .fin<|WP.seq<|rg 5 20<|fb rfl trivial rfl fa46_4<|ld 0 rfl trivial rfl sc23 rfl rfl<|el H fun t1055 h1056 H=>cx 8 [0,1,2,3,4,5,6,7] cal80 (slices_Clone_Edu.c h1056) nofun fun g1057 _=>?_
 refine fb rfl trivial rfl fa46_4<|sx 1 rfl trivial rfl rfl (cells_one one_ov) sz23 rfl rfl rfl nofun ?_
 refine .fin<|WP.seq<|rg 2 2<|lds 1 rfl trivial rfl sg46 rfl rfl<|sx 3 rfl trivial rfl rfl cA sz46 rfl rfl rfl nofun ?_
 refine .fin<|wg (Fly.shut (p:=v0_2) (m:=a0.fair.getD default) g1052 h1053 (pm 9 [2,0,1,3,4,5,6,7,8])) fun _ _=>?_
 refine wg (opt_back0 (O:=Fly.O) (o:=a0.fair) (isN g1051) 0 rfl) fun _ _=>?_
 refine WP.gh (gh_frz (E':=[(2,eq (.pointer (some ⟨b1050,0,none⟩)))]) (l':=[optO Fly.O v0_2 a0.fair,blk b1054 46 [vB (((a0.fair.getD default).fp).fAck),vS (((a0.fair.getD default).fp).fFrom),vS (((a0.fair.getD default).fp).fTo),vI (((a0.fair.getD default).fp).fID),sl Edu.K t1055],blk b1050 46 [vB (((a0.fair.getD default).fp).fAck),vS (((a0.fair.getD default).fp).fFrom),vS (((a0.fair.getD default).fp).fTo),vI (((a0.fair.getD default).fp).fID),sl Edu.K t1055],blk b0_ 40 [eq v0_0.1,vS a0.fself,vS a0.fto,eq v0_1.1,eq v0_2.1],blk d0_0 107 [vI a0.fQueue.fmost,eq v0_3.1,eq v0_4.1,vI a0.fQueue.flost],own EKey.K v0_3.1 a0.fQueue.fkeys,mp EKey.kv (fun x:Edu=>agg (Edu.enc x)) v0_4.1 a0.fQueue.fat,blk d0_1 173 [vI a0.fids.fn.fv,vI a0.fids.fmost]]++F) 1 rfl (cve_cons rfl cv_id cve_nil) (all2_app (.cons cva_id (.cons (cva_blk (.cons cv_id (.cons cv_id (.cons cv_id (.cons cv_id (.cons cv_eq .nil)))))) (.cons (cva_blk (.cons cv_id (.cons cv_id (.cons cv_id (.cons cv_id (.cons cv_eq .nil)))))) (.cons cva_id (.cons cva_id (.cons cva_id (.cons cva_id (.cons cva_id .nil)))))))) fun _=>cva_id)) (fun _ _=>?_)
 cases H.out; exact rt i2 rfl () 8 [1,2,3,4,5,6,7,0] 2 (.cons (res_cells rfl Tryz.underlying46 rfl c46 (mem_at 2 rfl) rfl) .nil)
theorem slices_ContainsFunc_Edu_x.c {k:Nat} {a0:List Edu} {a1:(Edu→Option Bool)} {X1_:As} {r:Bool} (h:slices_ContainsFunc_Edu_x.f k a0 a1 = some r):Tr Tryz.prog 66 [sl Edu.K a0,fx_api_Edu_bool X1_ a1] [X1_] (γ:=Unit) (fun _=>True) (fun g=>vB r) (fun g=>[X1_]):=by
 unfold slices_ContainsFunc_Edu_x.f at h
 refine Tr.body Tryz.func66 (c:=_) rfl Tryz.ntmps66 (Nat.le_of_ble_eq_true rfl) fun R0 F=>?_
 replace h:=Gets.of h
 have H:=h
 clear h
 refine WP.seq<|rg 1 0<|as0 rfl rfl<|.fin<|WP.seq<|rg 5 0<|mv0 rfl rfl<|mv0 rfl rfl<|el H fun t1060 h1061 H=>cll 1 [0] cal101 (slices_IndexFunc_Edu_x.c h1061 (X1_:=X1_)) ?_
 refine bn0 rfl rfl rfl run_ge<|as0 rfl rfl<|.fin ?_
 cases H.out; exact rt i2 rfl () 1 [0] 0 (.cons (res_tmp rfl) .nil)
theorem queue_Queue_Keep_1.c {a0:Edu} {c0:Edu} {r:Bool} (h:queue_Queue_Keep_1.f a0 c0 = some r):Pt Tryz.prog 81 [agg (Edu.enc a0),rp [vI c0.fKind,vS c0.fRoom,vS c0.fUser,vS c0.fEvent,vS c0.fThread,vB c0.fPrivate,vB c0.fOn,vI c0.fSpan,vI c0.fState,vI c0.fTick,vI c0.fStamp]] (vB r):=by
 unfold queue_Queue_Keep_1.f at h
 refine pb Tryz.func81 Tryz.ntmps81 h fun R0 F H=>?_
 refine WP.seq<|rg 2 1<|Dv.box rfl trivial rfl cA nofun fun b1064=>as0 rfl rfl<|.fin<|WP.seq<|rg 6 0<|lds 0 rfl trivial rfl sg32 rfl rfl<|Dv.blda (qs:=[vI a0.fKind,vS a0.fRoom,vS a0.fUser,vS a0.fEvent,vS a0.fThread,vB a0.fPrivate,vB a0.fOn,vI a0.fSpan,vI a0.fState,vI a0.fTick,vI a0.fStamp]) (css:=[Edu.enc a0]) rfl trivial Tryz.underlying150 Tryz.underlying32 c32 z150 rfl ⟨(cells_agg (Edu.K.one _)),trivial⟩ rfl rfl<|ldsR rfl trivial rfl sg32 rfl<|Dv.blda (qs:=[vI c0.fKind,vS c0.fRoom,vS c0.fUser,vS c0.fEvent,vS c0.fThread,vB c0.fPrivate,vB c0.fOn,vI c0.fSpan,vI c0.fState,vI c0.fTick,vI c0.fStamp]) (css:=[Edu.enc c0]) rfl trivial Tryz.underlying150 Tryz.underlying32 c32 z150 rfl ⟨(cells_agg (Edu.K.one _)),trivial⟩ rfl rfl<|Dv.eqs [.int .i64 a0.fKind,.string a0.fRoom,.string a0.fUser,.string a0.fEvent,.string a0.fThread,.bool a0.fPrivate,.bool a0.fOn,.int .i64 a0.fSpan,.int .i64 a0.fState,.int .i64 a0.fTick,.int .i64 a0.fStamp] [.int .i64 c0.fKind,.string c0.fRoom,.string c0.fUser,.string c0.fEvent,.string c0.fThread,.bool c0.fPrivate,.bool c0.fOn,.int .i64 c0.fSpan,.int .i64 c0.fState,.int .i64 c0.fTick,.int .i64 c0.fStamp] rfl trivial rfl rfl rfl rfl eg150 (fun _=>equal_of 3 (by decide) (fun _=>eq_arr1 Tryz.underlying150 Tryz.underlying32 rfl c32 rfl rfl (eqt32 a0 c0)))<|as0 rfl rfl<|.fin ?_
 cases H.out; exact r1 i2 rfl (.cons (res_tmp rfl) .nil)
theorem queue_Queue_Keep.c {k:Nat} {a0:SQue} {a1:List Edu} {p0_:OV} {r:SQue} (h:queue_Queue_Keep.f k a0 a1 = some r):Tr Tryz.prog 48 [eq p0_.1,sl Edu.K a1] [SQue.O p0_ a0] (γ:=Unit) (fun _=>True) (fun g=>tup []) (fun g=>[SQue.O p0_ r]):=by
 unfold queue_Queue_Keep.f at h
 refine Tr.body Tryz.func48 (c:=_) rfl Tryz.ntmps48 (Nat.le_of_ble_eq_true rfl) fun R0 F=>?_
 replace h:=Gets.of h
 have H:=h
 clear h
 refine WP.seq<|rg 4 0<|mv0 rfl rfl<|vg (SQue.opn 0 rfl) fun g1065 h1066=>?_
 refine el H fun t1067 h1068 H=>cll 3 [0,1,2] cal18 (Tr.weak (queue_Queue_All.c h1068 (b0_:=g1065.1) (v0_0:=g1065.2.1) (v0_1:=g1065.2.2)) (.cons (wk_ptr h1066) .nil)) ?_
 refine Dv.lenl rfl trivial rfl Tryz.underlying23<|mv0 rfl rfl<|.fin<|WP.block<|wg (SQue.shut (p:=p0_) (m:=a0) (g1065.1,g1065.2.1,g1065.2.2) h1066 (pm 3 [0,1,2])) fun _ _=>?_
 refine wg (sg 1 [0] 0) fun _ _=>?_
 refine lp (fun j_ (p1082:Int×SQue)=>queue_Queue_Keep.l0 k a1 t1067 j_ p1082.1 p1082.2) (0,a0) H (fun p1082=>[(0,eq p0_.1),(1,sl Edu.K a1),(8,sl Edu.K t1067),(9,vI (t1067.length:Int)),(10,vI p1082.1)]) (fun p1082=>[SQue.O p0_ p1082.2]++F) ?_
 rintro j_ ⟨x1069,x1070⟩ H
 rcases j_ with _ | j1081
 ·
  exact (Gets.no H).elim
 replace H:Gets (queue_Queue_Keep.l0 k a1 t1067 (j1081 + 1) x1069 x1070) _:=H
 rw [queue_Queue_Keep.l0] at H
 refine WP.seq<|rg 1 0<|bn0 rfl rfl rfl run_lt<|.fin<|WP.seq<|cd H rfl (fun _ H=>?_) (fun _ H=>?_)
 rotate_left
 ·
  refine WP.exit ?_
  obtain rfl:=Gets.out H
  exact re rfl () 1 [0] 0 .nil
 refine WP.skip<|WP.seq<|WP.block<|WP.seq<|rg 4 12<|gr H fun g1072 H=>Dv.ixr rfl trivial rfl rfl Tryz.underlying23 Tryz.underlying32 c32 g1072.1 g1072.2<|ldsR rfl trivial rfl sg32 rfl<|al rfl trivial zc32 nofun fun b1073=>sx 0 rfl trivial rfl rfl cA sz32 rfl rfl rfl nofun ?_
 refine .fin<|WP.seq<|rg 2 0<|Dv.gh (gh_frzb (E':=[(0,eq p0_.1),(1,sl Edu.K a1),(5,rp [vI ((Edu.K.at t1067 x1069).fKind),vS ((Edu.K.at t1067 x1069).fRoom),vS ((Edu.K.at t1067 x1069).fUser),vS ((Edu.K.at t1067 x1069).fEvent),vS ((Edu.K.at t1067 x1069).fThread),vB ((Edu.K.at t1067 x1069).fPrivate),vB ((Edu.K.at t1067 x1069).fOn),vI ((Edu.K.at t1067 x1069).fSpan),vI ((Edu.K.at t1067 x1069).fState),vI ((Edu.K.at t1067 x1069).fTick),vI ((Edu.K.at t1067 x1069).fStamp)]),(8,sl Edu.K t1067),(9,vI (t1067.length:Int)),(10,vI x1069),(11,vB (decide (x1069 < (t1067.length:Int))))]) (l':=[SQue.O p0_ x1070]++F) 0 rfl (cve_cons rfl cv_id (cve_cons rfl cv_id (cve_cons rfl cv_eq (cve_cons rfl cv_id (cve_cons rfl cv_id (cve_cons rfl cv_id (cve_cons rfl cv_id cve_nil))))))) (all2_app (.cons cva_id .nil) fun _=>cva_id)) (fun _ _=>?_)
 refine Dv.mkx (Q:=fqQ_api_Edu_bool (fun a0_=>queue_Queue_Keep_1.f a0_ (Edu.K.at t1067 x1069))) (L:=[]) cal81 (by rintro _ _ ⟨a0_,r_,h_,rfl,rfl⟩; exact (queue_Queue_Keep_1.c h_).tr) rfl trivial rfl rfl<|as0 rfl rfl<|.fin<|WP.seq<|rg 4 0<|mv0 rfl rfl<|mv0 rfl rfl<|el H fun t1074 h1075 H=>cl rfl cal66 rfl ((Tr.unpkr (A:=[]) (L:=[]) (slices_ContainsFunc_Edu_x.c h1075 (X1_:=(pk [])))).pt)<|un0 rfl rfl (run_not _)<|.fin<|cd H rfl (fun _ H=>?_) (fun _ H=>?_)
 rotate_left
 ·
  exact WP.skip<|rg 2 0<|bn0 rfl rfl rfl run_add<|mv0 rfl rfl<|.fin<|bk j1081 (w64 (x1069 + 1),x1070) H
 refine rg 4 8<|mv0 rfl rfl<|ldsR rfl trivial rfl sg32 rfl<|el H fun t1077 h1078 H=>cl rfl cal43 rfl (edu_Of.c h1078)<|el H fun t1079 h1080 H=>cx 1 [0] cal45 (queue_Queue_drop.c h1080 (p0_:=p0_)) nofun fun _ _=>?_
 exact .fin<|rg 2 0<|bn0 rfl rfl rfl run_add<|mv0 rfl rfl<|.fin<|bk j1081 (w64 (x1069 + 1),t1079) H
theorem queue_Queue_Len.c {a0:SQue} {v0_0 v0_1:OV} {b0_:Nat} {r:Int} (h:queue_Queue_Len.f a0 = some r):Tr Tryz.prog 50 [eq (.pointer (some ⟨b0_,0,none⟩))] [blk b0_ 107 [vI a0.fmost,eq v0_0.1,eq v0_1.1,vI a0.flost],own EKey.K v0_0.1 a0.fkeys,mp EKey.kv (fun x:Edu=>agg (Edu.enc x)) v0_1.1 a0.fat] (γ:=Unit) (fun _=>True) (fun g=>vI r) (fun g=>[blk b0_ 107 [vI a0.fmost,eq v0_0.1,eq v0_1.1,vI a0.flost],own EKey.K v0_0.1 a0.fkeys,mp EKey.kv (fun x:Edu=>agg (Edu.enc x)) v0_1.1 a0.fat]):=by
 unfold queue_Queue_Len.f at h
 refine Tr.body Tryz.func50 (c:=_) rfl Tryz.ntmps50 (Nat.le_of_ble_eq_true rfl) fun R0 F=>?_
 replace h:=Gets.of h
 have H:=h
 clear h
 refine WP.seq<|rg 1 0<|as0 rfl rfl<|.fin<|WP.seq<|rg 6 0<|mv0 rfl rfl<|Dv.nilp rfl trivial rfl<|fb rfl trivial rfl fa107_1<|ld 0 rfl trivial rfl sc104 rfl rfl<|Dv.lenw rfl trivial rfl (mem_at 1 rfl) Tryz.underlying104<|as0 rfl rfl<|.fin ?_
 cases H.out; exact rt i2 rfl () 3 [0,1,2] 0 (.cons (res_tmp rfl) .nil)
theorem atomic_Int64_Load.c {b off:Nat} {bT:TypeId} {qs:Cs} {n:Int} (h0:qs[off]? = some (vI n)):Tr Tryz.prog 115 [eq (.pointer (some ⟨b,off,none⟩))] [blk b bT qs] (γ:=Unit) (fun _=>True) (fun _=>vI n) (fun _=>[blk b bT qs]):=by
 exact Tr.body Tryz.func115 (c:=_) rfl Tryz.ntmps115 (Nat.le_of_ble_eq_true rfl) fun R0 F=>WP.seq<|WP.reg [(0,false)] (by kernel_rfl)<|as0 rfl rfl<|.fin<|WP.seq<|WP.reg [(0,false),(1,false),(2,false),(3,false),(4,false)] (by kernel_rfl)<|mv0 rfl rfl<|Dv.nilp rfl trivial rfl<|fb rfl trivial rfl fa171_2<|Dv.cextr (A:=blk b bT qs) rfl trivial rfl (xt_load h0 Tryz.func146 (by kernel_rfl) rfl xf146 xg146) (mem_at 0 rfl)<|as0 rfl rfl<|.fin<|rt i2 rfl () 1 [0] 0 (.cons (res_tmp rfl) .nil)
theorem atomic_Int64_CompareAndSwap.c {b off:Nat} {bT:TypeId} {qs:Cs} {n m:Int} (h0:qs[off]? = some (vI n)):Tr Tryz.prog 116 [eq (.pointer (some ⟨b,off,none⟩)),vI n,vI m] [blk b bT qs] (γ:=Unit) (fun _=>True) (fun _=>vB true) (fun _=>[blk b bT (qs.set off (vI m))]):=by
 exact Tr.body Tryz.func116 (c:=_) rfl Tryz.ntmps116 (Nat.le_of_ble_eq_true rfl) fun R0 F=>WP.seq<|WP.reg [(0,false)] (by kernel_rfl)<|as0 rfl rfl<|.fin<|WP.seq<|WP.reg [(0,false),(1,false),(2,false),(3,false),(4,false),(5,true),(6,false)] (by kernel_rfl)<|mv0 rfl rfl<|Dv.nilp rfl trivial rfl<|fb rfl trivial rfl fa171_2<|mv0 rfl rfl<|mv0 rfl rfl<|Dv.cextb (jj:=0) (qs:=qs) rfl trivial rfl (xt_cas h0 Tryz.func147 (by kernel_rfl) rfl xf147 xg147) rfl nofun<|as0 rfl rfl<|.fin<|rt i2 rfl () 1 [0] 0 (.cons (res_tmp rfl) .nil)
theorem clock_Counter_Add.c {k:Nat} {a0:Ctr} {a1:Int} {p0_:OV} {r:Int×Int×Ctr} (h:clock_Counter_Add.f k a0 a1 = some r):Tr Tryz.prog 85 [eq p0_.1,vI a1] [Ctr.O p0_ a0] (γ:=Unit) (fun _=>True) (fun g=>tup [vI r.1,vI r.2.1]) (fun g=>[Ctr.O p0_ r.2.2]):=by
 unfold clock_Counter_Add.f at h
 refine Tr.body Tryz.func85 (c:=_) rfl Tryz.ntmps85 (Nat.le_of_ble_eq_true rfl) fun R0 F=>?_
 replace h:=Gets.of h
 have H:=h
 clear h
 refine WP.seq<|rg 2 0<|as0 rfl rfl<|as0 rfl rfl<|.fin<|WP.seq<|WP.seq<|rg 2 0<|mv0 rfl rfl<|bn0 rfl rfl rfl run_lt<|.fin<|cd H rfl (fun _ H=>?_) (fun _ H=>?_)
 ·
  refine WP.seq<|rg 2 0<|as0 rfl rfl<|as0 rfl rfl<|.fin ?_
  cases H.out; exact rt i2 rfl () 1 [0] 0 (.cons (res_tmp rfl) (.cons (res_tmp rfl) .nil))
 refine WP.skip<|WP.block<|wg (sg 1 [0] 0) fun _ _=>?_
 refine lp (fun j_ (p1104:Unit)=>clock_Counter_Add.l0 k a0 a1 j_) () H (fun p1104=>[(0,eq p0_.1),(1,vI a1),(4,vI 0),(5,vI 0),(9,vB (decide (a1 < 0)))]) (fun p1104=>[Ctr.O p0_ a0]++F) ?_
 rintro j_ ⟨⟩ H
 rcases j_ with _ | j1103
 ·
  exact (Gets.no H).elim
 replace H:Gets (clock_Counter_Add.l0 k a0 a1 (j1103 + 1)) _:=H
 rw [clock_Counter_Add.l0] at H
 refine WP.block<|WP.seq<|rg 5 0<|mv0 rfl rfl<|Dv.nilA Ctr.nn rfl trivial rfl (mem_at 0 rfl)<|vg (Ctr.opn 0 rfl) fun g1084 h1085=>?_
 refine fp h1085 rfl trivial rfl fa173_0<|cll 1 [0] cal115 (atomic_Int64_Load.c (b:=g1084) (off:=0) (bT:=173) (qs:=[vI a0.fn.fv,vI a0.fmost]) (n:=a0.fn.fv) rfl) ?_
 refine as0 rfl rfl<|.fin<|WP.seq<|WP.seq<|rg 10 0<|mv0 rfl rfl<|bn0 rfl rfl rfl run_gt<|mv0 rfl rfl ?_
 cases c1086:decide (0 < a1)
 ·
  have H:=H.cf c1086
  refine sk rfl rfl<|sk rfl rfl<|sk rfl rfl<|sk rfl rfl<|sk rfl rfl<|sk rfl rfl<|pf0 rfl rfl rfl<|.fin<|WP.cond rfl nofun (fun _=>?_)
  refine WP.skip<|WP.seq<|rg 5 0<|mv0 rfl rfl<|Dv.nilpp h1085 rfl trivial rfl<|fp h1085 rfl trivial rfl fa173_1<|ld 0 rfl trivial rfl sc2 rfl rfl<|as0 rfl rfl<|.fin<|WP.seqn H id (fun p1096:Int=>[(0,eq p0_.1),(1,vI a1),(4,vI 0),(5,vI 0),(6,vI a0.fn.fv),(7,vI p1096),(9,vB (decide (a1 < 0))),(23,vB false),(35,vB (decide (a1 < (w64 (a0.fmost - a0.fn.fv)))))]) (fun p1096:Int=>[Ctr.O p0_ a0]++F) (fun p1096 H=>?_) (fun H=>?_)
  rotate_left
  ·
   refine WP.seq<|rg 8 0<|mv0 rfl rfl<|mv0 rfl rfl<|Dv.nilpp h1085 rfl trivial rfl<|fp h1085 rfl trivial rfl fa173_1<|ld 0 rfl trivial rfl sc2 rfl rfl<|mv0 rfl rfl<|bn0 rfl rfl rfl run_sub<|bn0 rfl rfl rfl run_lt<|.fin<|cd H rfl (fun _ H=>?_) (fun _ H=>?_)
   rotate_left
   ·
    refine WP.skip ?_
    have H:=H.out
    refine ng (Ctr.shut (p:=p0_) (m:=a0) g1084 h1085 (pm 1 [0])) fun _ _=>?_
    exact jn a0.fmost H
   refine rg 4 0<|mv0 rfl rfl<|mv0 rfl rfl<|bn0 rfl rfl rfl run_add<|as0 rfl rfl<|.fin ?_
   have H:=H.out
   refine ng (Ctr.shut (p:=p0_) (m:=a0) g1084 h1085 (pm 1 [0])) fun _ _=>?_
   exact jn (w64 (a0.fn.fv + a1)) H
  refine WP.seq<|rg 10 256<|mv0 rfl rfl<|bn0 rfl rfl rfl run_eq<|mv0 rfl rfl ?_
  cases c1097:(a1 == 0)
  rotate_left
  ·
   have H:=H.ct c1097
   refine sk rfl rfl<|sk rfl rfl<|sk rfl rfl<|sk rfl rfl<|sk rfl rfl<|Dv.skipb rfl ⟨_,_,rfl,rfl,.inl rfl⟩ nofun<|pt0 rfl rfl rfl<|.fin<|WP.cond rfl (fun _=>?_) nofun
   refine WP.seq<|rg 3 0<|mv0 rfl rfl<|as0 rfl rfl<|as0 rfl rfl<|.fin ?_
   cases H.out; exact rt i2 rfl () 1 [0] 0 (.cons (res_tmp rfl) (.cons (res_tmp rfl) .nil))
  have H:=H.cf c1097
  refine mvg rfl rfl rfl<|Dv.nilA Ctr.nn rfl (gg rfl) rfl (mem_at 0 rfl)<|vg (Ctr.opn 0 rfl) fun g1099 h1100=>?_
  refine fp h1100 rfl (gg rfl) rfl fa173_0<|mvg rfl rfl rfl<|mvg rfl rfl rfl<|cx 1 [0] cal116 (atomic_Int64_CompareAndSwap.c (b:=g1099) (off:=0) (bT:=173) (qs:=[vI a0.fn.fv,vI a0.fmost]) (n:=a0.fn.fv) (m:=p1096) rfl) nofun fun _ _=>?_
  refine pf0 rfl rfl rfl<|.fin<|WP.cond rfl (fun _=>?_) nofun
  refine WP.seq<|rg 3 0<|mv0 rfl rfl<|as0 rfl rfl<|as0 rfl rfl<|.fin<|wg (Ctr.shut (p:=p0_) (m:=(⟨(⟨p1096⟩:AtI),a0.fmost⟩:Ctr)) g1099 h1100 (pm 1 [0])) fun _ _=>?_
  cases H.out; exact rt i2 rfl () 1 [0] 0 (.cons (res_tmp rfl) (.cons (res_tmp rfl) .nil))
 have H:=H.ct c1086
 refine mvg rfl rfl rfl<|mvg rfl rfl rfl<|Dv.nilpp h1085 rfl (gg rfl) rfl<|fp h1085 rfl (gg rfl) rfl fa173_1<|ld 0 rfl (gg rfl) rfl sc2 rfl rfl<|bng rfl rfl rfl rfl run_eq<|pt0 rfl rfl rfl<|.fin<|cd H rfl (fun _ H=>?_) (fun _ H=>?_)
 ·
  refine WP.seq<|rg 2 0<|as0 rfl rfl<|as0 rfl rfl<|.fin<|wg (Ctr.shut (p:=p0_) (m:=a0) g1084 h1085 (pm 1 [0])) fun _ _=>?_
  cases H.out; exact rt i2 rfl () 1 [0] 0 (.cons (res_tmp rfl) (.cons (res_tmp rfl) .nil))
 refine WP.skip<|WP.seq<|rg 5 0<|mv0 rfl rfl<|Dv.nilpp h1085 rfl trivial rfl<|fp h1085 rfl trivial rfl fa173_1<|ld 0 rfl trivial rfl sc2 rfl rfl<|as0 rfl rfl<|.fin<|WP.seqn H id (fun p1088:Int=>[(0,eq p0_.1),(1,vI a1),(4,vI 0),(5,vI 0),(6,vI a0.fn.fv),(7,vI p1088),(9,vB (decide (a1 < 0))),(23,vB (a0.fn.fv == a0.fmost)),(35,vB (decide (a1 < (w64 (a0.fmost - a0.fn.fv)))))]) (fun p1088:Int=>[Ctr.O p0_ a0]++F) (fun p1088 H=>?_) (fun H=>?_)
 rotate_left
 ·
  refine WP.seq<|rg 8 0<|mv0 rfl rfl<|mv0 rfl rfl<|Dv.nilpp h1085 rfl trivial rfl<|fp h1085 rfl trivial rfl fa173_1<|ld 0 rfl trivial rfl sc2 rfl rfl<|mv0 rfl rfl<|bn0 rfl rfl rfl run_sub<|bn0 rfl rfl rfl run_lt<|.fin<|cd H rfl (fun _ H=>?_) (fun _ H=>?_)
  rotate_left
  ·
   refine WP.skip ?_
   have H:=H.out
   refine ng (Ctr.shut (p:=p0_) (m:=a0) g1084 h1085 (pm 1 [0])) fun _ _=>?_
   exact jn a0.fmost H
  refine rg 4 0<|mv0 rfl rfl<|mv0 rfl rfl<|bn0 rfl rfl rfl run_add<|as0 rfl rfl<|.fin ?_
  have H:=H.out
  refine ng (Ctr.shut (p:=p0_) (m:=a0) g1084 h1085 (pm 1 [0])) fun _ _=>?_
  exact jn (w64 (a0.fn.fv + a1)) H
 refine WP.seq<|rg 10 256<|mv0 rfl rfl<|bn0 rfl rfl rfl run_eq<|mv0 rfl rfl ?_
 cases c1089:(a1 == 0)
 rotate_left
 ·
  have H:=H.ct c1089
  refine sk rfl rfl<|sk rfl rfl<|sk rfl rfl<|sk rfl rfl<|sk rfl rfl<|Dv.skipb rfl ⟨_,_,rfl,rfl,.inl rfl⟩ nofun<|pt0 rfl rfl rfl<|.fin<|WP.cond rfl (fun _=>?_) nofun
  refine WP.seq<|rg 3 0<|mv0 rfl rfl<|as0 rfl rfl<|as0 rfl rfl<|.fin ?_
  cases H.out; exact rt i2 rfl () 1 [0] 0 (.cons (res_tmp rfl) (.cons (res_tmp rfl) .nil))
 have H:=H.cf c1089
 refine mvg rfl rfl rfl<|Dv.nilA Ctr.nn rfl (gg rfl) rfl (mem_at 0 rfl)<|vg (Ctr.opn 0 rfl) fun g1091 h1092=>?_
 refine fp h1092 rfl (gg rfl) rfl fa173_0<|mvg rfl rfl rfl<|mvg rfl rfl rfl<|cx 1 [0] cal116 (atomic_Int64_CompareAndSwap.c (b:=g1091) (off:=0) (bT:=173) (qs:=[vI a0.fn.fv,vI a0.fmost]) (n:=a0.fn.fv) (m:=p1088) rfl) nofun fun _ _=>?_
 refine pf0 rfl rfl rfl<|.fin<|WP.cond rfl (fun _=>?_) nofun
 refine WP.seq<|rg 3 0<|mv0 rfl rfl<|as0 rfl rfl<|as0 rfl rfl<|.fin<|wg (Ctr.shut (p:=p0_) (m:=(⟨(⟨p1088⟩:AtI),a0.fmost⟩:Ctr)) g1091 h1092 (pm 1 [0])) fun _ _=>?_
 cases H.out; exact rt i2 rfl () 1 [0] 0 (.cons (res_tmp rfl) (.cons (res_tmp rfl) .nil))
theorem clock_Counter_Next.c {k:Nat} {a0:Ctr} {p0_:OV} {r:Int×Int×Ctr} (h:clock_Counter_Next.f k a0 = some r):Tr Tryz.prog 51 [eq p0_.1] [Ctr.O p0_ a0] (γ:=Unit) (fun _=>True) (fun g=>tup [vI r.1,vI r.2.1]) (fun g=>[Ctr.O p0_ r.2.2]):=by
 unfold clock_Counter_Next.f at h
 refine Tr.body Tryz.func51 (c:=_) rfl Tryz.ntmps51 (Nat.le_of_ble_eq_true rfl) fun R0 F=>?_
 replace h:=Gets.of h
 have H:=h
 clear h
 refine WP.seq<|rg 2 0<|as0 rfl rfl<|as0 rfl rfl<|.fin<|WP.seq<|rg 6 2<|mv0 rfl rfl<|el H fun t1105 h1106 H=>cx 1 [0] cal85 (clock_Counter_Add.c h1106 (p0_:=p0_)) nofun fun _ _=>?_
 refine ex0 rfl trivial rfl rfl<|ex0 rfl trivial rfl rfl<|as0 rfl rfl<|as0 rfl rfl<|.fin ?_
 cases H.out; exact rt i2 rfl () 1 [0] 0 (.cons (res_tmp rfl) (.cons (res_tmp rfl) .nil))
theorem queue_Queue_Take.c {k:Nat} {a0:SQue} {a1:Int} {p0_:OV} {r:(List Edu)×SQue} (h:queue_Queue_Take.f k a0 a1 = some r):Tr Tryz.prog 52 [eq p0_.1,vI a1] [SQue.O p0_ a0] (γ:=Unit) (fun _=>True) (fun g=>sl Edu.K r.1) (fun g=>[SQue.O p0_ r.2]):=by
 unfold queue_Queue_Take.f at h
 refine Tr.body Tryz.func52 (c:=_) rfl Tryz.ntmps52 (Nat.le_of_ble_eq_true rfl) fun R0 F=>?_
 replace h:=Gets.of h
 have H:=h
 clear h
 refine WP.seq<|rg 1 0<|as0 rfl rfl<|.fin<|WP.seq<|rg 3 0<|mv0 rfl rfl<|vg (SQue.opn 0 rfl) fun g1107 h1108=>?_
 refine el H fun t1109 h1110 H=>cll 3 [0,1,2] cal18 (Tr.weak (queue_Queue_All.c h1110 (b0_:=g1107.1) (v0_0:=g1107.2.1) (v0_1:=g1107.2.2)) (.cons (wk_ptr h1108) .nil)) ?_
 refine as0 rfl rfl<|.fin<|WP.seq<|rg 8 0<|mv0 rfl rfl<|mv0 rfl rfl<|Dv.maxi rfl trivial rfl rfl<|mv0 rfl rfl<|Dv.lenl rfl trivial rfl Tryz.underlying23<|Dv.mini rfl trivial rfl rfl<|gr H fun g1111 H=>Dv.sls rfl trivial rfl Tryz.underlying23 Tryz.underlying32 c32 bdE_none (bdE_some rfl g1111.1) g1111.2.1 g1111.2.2<|as0 rfl rfl<|.fin<|WP.seqn H id (fun p1112:Int×Bool×SQue=>[(0,eq p0_.1),(1,vI a1),(4,eq (.slice none 0 0)),(5,sl Edu.K ((t1109.take ((min (max a1 0) (t1109.length:Int)).toNat)).drop 0)),(17,sl Edu.K ((t1109.take ((min (max a1 0) (t1109.length:Int)).toNat)).drop 0)),(18,vI (((t1109.take ((min (max a1 0) (t1109.length:Int)).toNat)).drop 0).length:Int)),(19,vI p1112.1),(20,vB p1112.2.1)]) (fun p1112:Int×Bool×SQue=>[SQue.O p0_ p1112.2.2]++F) (fun p1112 H=>?_) (fun H=>?_)
 ·
  refine WP.seq<|rg 2 0<|mv0 rfl rfl<|as0 rfl rfl<|.fin ?_
  cases H.out; exact rt i2 rfl () 1 [0] 0 (.cons (res_tmp rfl) .nil)
 refine WP.seq<|rg 3 0<|mv0 rfl rfl<|Dv.lenl rfl trivial rfl Tryz.underlying23<|mv0 rfl rfl<|.fin<|WP.block<|wg (SQue.shut (p:=p0_) (m:=a0) (g1107.1,g1107.2.1,g1107.2.2) h1108 (pm 3 [0,1,2])) fun _ _=>?_
 refine wg (sg 1 [0] 0) fun _ _=>?_
 refine lp (fun j_ (p1123:Int×SQue)=>queue_Queue_Take.l0 k a1 t1109 j_ p1123.1 p1123.2) (0,a0) H (fun p1123=>[(0,eq p0_.1),(1,vI a1),(4,eq (.slice none 0 0)),(5,sl Edu.K ((t1109.take ((min (max a1 0) (t1109.length:Int)).toNat)).drop 0)),(17,sl Edu.K ((t1109.take ((min (max a1 0) (t1109.length:Int)).toNat)).drop 0)),(18,vI (((t1109.take ((min (max a1 0) (t1109.length:Int)).toNat)).drop 0).length:Int)),(19,vI p1123.1)]) (fun p1123=>[SQue.O p0_ p1123.2]++F) ?_
 rintro j_ ⟨x1113,x1114⟩ H
 rcases j_ with _ | j1122
 ·
  exact (Gets.no H).elim
 replace H:Gets (queue_Queue_Take.l0 k a1 t1109 (j1122 + 1) x1113 x1114) _:=H
 rw [queue_Queue_Take.l0] at H
 refine WP.seq<|rg 1 0<|bn0 rfl rfl rfl run_lt<|.fin<|WP.seq<|cd H rfl (fun _ H=>?_) (fun _ H=>?_)
 rotate_left
 ·
  refine WP.exit ?_
  have H:=H.out
  exact jn (x1113,decide (x1113 < (((t1109.take ((min (max a1 0) (t1109.length:Int)).toNat)).drop 0).length:Int)),x1114) H
 refine WP.skip<|WP.seq<|WP.block<|WP.seq<|rg 4 12<|gr H fun g1116 H=>Dv.ixr rfl trivial rfl rfl Tryz.underlying23 Tryz.underlying32 c32 g1116.1 g1116.2<|ldsR rfl trivial rfl sg32 rfl<|al rfl trivial zc32 nofun fun b1117=>sx 0 rfl trivial rfl rfl cA sz32 rfl rfl rfl nofun ?_
 refine .fin<|rg 4 8<|mv0 rfl rfl<|lds 0 rfl trivial rfl sg32 rfl rfl<|el H fun t1118 h1119 H=>cl rfl cal43 rfl (edu_Of.c h1119)<|el H fun t1120 h1121 H=>cx 2 [1,0] cal45 (queue_Queue_drop.c h1121 (p0_:=p0_)) nofun fun _ _=>?_
 refine .fin<|rg 2 0<|bn0 rfl rfl rfl run_add<|mv0 rfl rfl<|.fin<|ng (sg 2 [1,0] 1) fun _ _=>?_
 exact bk j1122 (w64 (x1113 + 1),t1120) H
theorem sender_Sender_Send.c {k:Nat} {a0:SSnd} {a1:VView} {a2:Int} {p0_ p1_:OV} {r:Par×Bool×Int×SSnd} (h:sender_Sender_Send.f k a0 a1 a2 = some r):Tr Tryz.prog 15 [eq p0_.1,eq p1_.1,vI a2] [SSnd.O p0_ a0,VView.O p1_ a1] (γ:=Unit) (fun _=>True) (fun g=>tup [agg (Par.enc r.1),vB r.2.1,vI r.2.2.1]) (fun g=>[SSnd.O p0_ r.2.2.2,VView.O p1_ a1]):=by
 unfold sender_Sender_Send.f at h
 refine Tr.body Tryz.func15 (c:=_) rfl Tryz.ntmps15 (Nat.le_of_ble_eq_true rfl) fun R0 F=>?_
 replace h:=Gets.of h
 have H:=h
 clear h
 refine WP.seq<|rg 3 1<|al rfl trivial zc46 nofun fun b1124=>as0 rfl rfl<|as0 rfl rfl<|.fin<|WP.seqr H id (fun p1125:SSnd=>[(0,eq p0_.1),(1,eq p1_.1),(2,vI a2),(6,eq (.pointer (some ⟨b1124,0,none⟩))),(7,vB false),(8,vI 0),(16,vB (!a0.fair.isNone))]) (fun p1125:SSnd=>[blk b1124 46 [vB false,vS (⟨#[]⟩:ByteArray),vS (⟨#[]⟩:ByteArray),vI 0,eq (.slice none 0 0)],SSnd.O p0_ p1125,VView.O p1_ a1]++F) (fun p1125 H=>?_) (fun H=>?_)
 rotate_left
 ·
  refine WP.seq<|rg 5 0<|mv0 rfl rfl<|Dv.nilA SSnd.nn rfl trivial rfl (mem_at 1 rfl)<|vg (SSnd.opn 1 rfl) fun g1156 h1157=>?_
  refine fp h1157 rfl trivial rfl fa40_4<|ld 0 rfl trivial rfl sc38 rfl rfl<|Dv.one0 (fun _=>Fly.nn) rfl trivial rfl rfl Tryz.underlying38 (mem_at 3 rfl)<|.fin<|cd H rfl (fun c1158 H=>?_) (fun _ H=>?_)
  rotate_left
  ·
   refine WP.skip ?_
   have H:=H.out
   refine ng (SSnd.shut (p:=p0_) (m:=a0) (g1156.1,g1156.2.1,g1156.2.2.1,g1156.2.2.2) h1157 (pm 6 [0,1,2,3,4,5])) fun _ _=>?_
   refine ng (sg 3 [1,0,2] 0) fun _ _=>?_
   exact jn a0 H
  refine wg (opt_some 3 rfl (by simpa using c1158)) fun _ _=>?_
  refine WP.seq<|WP.seq<|rg 9 0<|mv0 rfl rfl<|mv0 rfl rfl<|Dv.nilpp h1157 rfl trivial rfl<|fp h1157 rfl trivial rfl fa40_4<|ld 1 rfl trivial rfl sc38 rfl rfl<|Dv.nilA Fly.nn rfl trivial rfl (mem_at 0 rfl)<|vg (Fly.opn 0 rfl) fun g1159 h1160=>?_
  refine fp h1160 rfl trivial rfl fa111_2<|ld 0 rfl trivial rfl sc3 rfl rfl<|bn0 rfl rfl rfl run_lt<|.fin<|cd H rfl (fun _ H=>?_) (fun _ H=>?_)
  ·
   refine WP.seq<|rg 4 2<|Dv.bld (qs:=[vB false,vS (⟨#[]⟩:ByteArray),vS (⟨#[]⟩:ByteArray),vI 0,eq (.slice none 0 0)]) (css:=[]) rfl trivial Tryz.underlying46 pl46 z46 rfl trivial rfl rfl<|sx 4 rfl trivial rfl rfl cA sz46 rfl rfl rfl nofun ?_
   refine as0 rfl rfl<|as0 rfl rfl<|.fin<|wg (Fly.shut (p:=g1156.2.2.2) (m:=a0.fair.getD default) g1159 h1160 (pm 6 [0,1,2,3,4,5])) fun _ _=>?_
   refine wg (opt_back0 (O:=Fly.O) (o:=a0.fair) (by simpa using c1158) 0 rfl) fun _ _=>?_
   refine wg (SSnd.shut (p:=p0_) (m:=a0) (g1156.1,g1156.2.1,g1156.2.2.1,g1156.2.2.2) h1157 (pm 6 [1,2,3,0,4,5])) fun _ _=>?_
   have H:=H.outr
   cases H.out; exact rt i2 rfl () 3 [1,0,2] 1 (.cons (res_wk (res_cells rfl Tryz.underlying46 rfl c46 (mem_at 1 rfl) rfl) (wk_agg (.cons wk_id (.cons wk_id (.cons wk_id (.cons wk_id (.cons wk_nil .nil))))))) (.cons (res_tmp rfl) (.cons (res_tmp rfl) .nil)))
  refine WP.skip<|WP.seq<|rg 4 8<|mv0 rfl rfl<|mv0 rfl rfl<|mv0 rfl rfl<|vg (Fly.shut (p:=g1156.2.2.2) (m:=a0.fair.getD default) g1159 h1160 (pm 6 [0,1,2,3,4,5])) fun _ _=>?_
  refine vg (opt_back0 (O:=Fly.O) (o:=a0.fair) (by simpa using c1158) 0 rfl) fun _ _=>?_
  refine vg (SSnd.shut (p:=p0_) (m:=a0) (g1156.1,g1156.2.1,g1156.2.2.1,g1156.2.2.2) h1157 (pm 6 [1,2,3,0,4,5])) fun _ _=>?_
  refine el H fun t1162 h1163 H=>cx 3 [0,2,1] cal46 (sender_Sender_again.c h1163 (p0_:=p0_) (p1_:=p1_)) nofun fun _ _=>?_
  refine .fin<|cd H rfl (fun _ H=>?_) (fun _ H=>?_)
  rotate_left
  ·
   refine WP.skip ?_
   have H:=H.out
   refine ng (sg 3 [2,0,1] 0) fun _ _=>?_
   exact jn t1162.2 H
  refine WP.seq<|rg 5 4<|mv0 rfl rfl<|vg (SSnd.opn 0 rfl) fun g1165 h1166=>?_
  refine vg (SQue.opn 1 rfl) fun g1167 h1168=>?_
  refine vg (Ctr.opn 4 rfl) fun g1169 h1170=>?_
  refine el H fun t1171 h1172 H=>cll 8 [4,1,2,3,0,5,6,7] cal47 (Tr.weak (sender_Sender_told.c h1172 (b0_:=g1165.1) (v0_0:=g1165.2.1) (v0_1:=g1165.2.2.1) (v0_2:=g1165.2.2.2) (v0_3:=g1167.2.1) (v0_4:=g1167.2.2) (d0_0:=g1167.1) (e0_0:=h1168) (d0_1:=g1169) (e0_1:=h1170)) (.cons (wk_ptr h1166) .nil)) ?_
  refine sx 7 rfl trivial rfl rfl cA sz46 rfl rfl rfl nofun ?_
  refine as0 rfl rfl<|as0 rfl rfl<|.fin<|wg (SQue.shut (p:=g1165.2.1) (m:=t1162.2.fQueue) (g1167.1,g1167.2.1,g1167.2.2) h1168 (pm 8 [1,2,3,0,4,5,6,7])) fun _ _=>?_
  refine wg (Ctr.shut (p:=g1165.2.2.1) (m:=t1162.2.fids) g1169 h1170 (pm 6 [1,0,2,3,4,5])) fun _ _=>?_
  refine wg (SSnd.shut (p:=p0_) (m:=t1162.2) (g1165.1,g1165.2.1,g1165.2.2.1,g1165.2.2.2) h1166 (pm 6 [2,1,0,3,4,5])) fun _ _=>?_
  have H:=H.outr
  cases H.out; exact rt i2 rfl () 3 [2,0,1] 1 (.cons (res_cells rfl Tryz.underlying46 rfl c46 (mem_at 2 rfl) rfl) (.cons (res_tmp rfl) (.cons (res_tmp rfl) .nil)))
 refine WP.seq<|wg (SSnd.opn 1 rfl) fun g1126 h1127=>?_
 refine wg (SQue.opn 1 rfl) fun g1128 h1129=>?_
 refine dg Tryz.checked.mixed 16 49152<|mv0 rfl rfl<|Dv.nilpp h1127 rfl trivial rfl<|fp h1127 rfl trivial rfl fa40_0<|ld 3 rfl trivial rfl sc36 rfl rfl<|mv0 rfl rfl<|mv0 rfl rfl<|Dv.nilpp h1127 rfl trivial rfl<|fp h1127 rfl trivial rfl fa40_2<|ld 3 rfl trivial rfl sc9 rfl rfl<|mv0 rfl rfl<|Dv.nilpp h1127 rfl trivial rfl<|fp h1127 rfl trivial rfl fa40_0<|ld 3 rfl trivial rfl sc36 rfl rfl<|el H fun t1130 h1131 H=>cll 8 [0,1,2,3,4,5,6,7] cal18 (Tr.weak (queue_Queue_All.c h1131 (b0_:=g1128.1) (v0_0:=g1128.2.1) (v0_1:=g1128.2.2)) (.cons (wk_ptr h1129) .nil)) ?_
 refine el H fun t1132 h1133 H=>Dv.callx (pre:=[VView.O p1_ a1]) (F:=[blk g1128.1 107 [vI p1125.fQueue.fmost,eq g1128.2.1.1,eq g1128.2.2.1,vI p1125.fQueue.flost],own EKey.K g1128.2.1.1 p1125.fQueue.fkeys,mp EKey.kv (fun x:Edu=>agg (Edu.enc x)) g1128.2.2.1 p1125.fQueue.fat,blk g1126.1 40 [eq g1126.2.1.1,vS p1125.fself,vS p1125.fto,eq g1126.2.2.1.1,eq g1126.2.2.2.1],Ctr.O g1126.2.2.1 p1125.fids,optO Fly.O g1126.2.2.2 p1125.fair,blk b1124 46 [vB false,vS (⟨#[]⟩:ByteArray),vS (⟨#[]⟩:ByteArray),vI 0,eq (.slice none 0 0)]]++F) (fun _:Unit=>[VView.O p1_ a1,blk g1128.1 107 [vI p1125.fQueue.fmost,eq g1128.2.1.1,eq g1128.2.2.1,vI p1125.fQueue.flost],own EKey.K g1128.2.1.1 p1125.fQueue.fkeys,mp EKey.kv (fun x:Edu=>agg (Edu.enc x)) g1128.2.2.1 p1125.fQueue.fat,blk g1126.1 40 [eq g1126.2.1.1,vS p1125.fself,vS p1125.fto,eq g1126.2.2.1.1,eq g1126.2.2.2.1],Ctr.O g1126.2.2.1 p1125.fids,optO Fly.O g1126.2.2.2 p1125.fair,blk b1124 46 [vB false,vS (⟨#[]⟩:ByteArray),vS (⟨#[]⟩:ByteArray),vI 0,eq (.slice none 0 0)]]++F) rfl trivial cal49 rfl (gate_Choose.c h1133 (p0_:=p1_)) (perm_to (L:=[blk g1128.1 107 [vI p1125.fQueue.fmost,eq g1128.2.1.1,eq g1128.2.2.1,vI p1125.fQueue.flost],own EKey.K g1128.2.1.1 p1125.fQueue.fkeys,mp EKey.kv (fun x:Edu=>agg (Edu.enc x)) g1128.2.2.1 p1125.fQueue.fat,blk g1126.1 40 [eq g1126.2.1.1,vS p1125.fself,vS p1125.fto,eq g1126.2.2.1.1,eq g1126.2.2.2.1],Ctr.O g1126.2.2.1 p1125.fids,optO Fly.O g1126.2.2.2 p1125.fair,blk b1124 46 [vB false,vS (⟨#[]⟩:ByteArray),vS (⟨#[]⟩:ByteArray),vI 0,eq (.slice none 0 0)],VView.O p1_ a1]) (F:=F) [7,0,1,2,3,4,5,6] (by kernel_rfl) rfl rfl) rfl (fun _=>pendc (pend_by (by kernel_rfl) (pend_by (by kernel_rfl) (pend_by (by kernel_rfl) (pend_by (by kernel_rfl) (pend_by (by kernel_rfl) (pend_by (by kernel_rfl) (pend_by (by kernel_rfl) (pend_by (by kernel_rfl) (pend_by (by kernel_rfl) (pend_by (by kernel_rfl) (pend_in (fun _=>(mem_at 4 rfl)) (pend_in (fun _=>trivial) (pend_in (fun _=>trivial) (pend_in (fun _=>trivial) pend_nil))))))))))))))) (fun _ _=>?_)
 refine el H fun t1134 h1135 H=>cx 8 [1,2,3,0,4,5,6,7] cal48 (Tr.pre (pre':=[blk g1128.1 107 [vI p1125.fQueue.fmost,eq g1128.2.1.1,eq g1128.2.2.1,vI p1125.fQueue.flost],own EKey.K g1128.2.1.1 p1125.fQueue.fkeys,mp EKey.kv (fun x:Edu=>agg (Edu.enc x)) g1128.2.2.1 p1125.fQueue.fat]) (queue_Queue_Keep.c h1135 (p0_:=g1126.2.1)) (fun F R w=>SQue.shut (p:=g1126.2.1) (m:=p1125.fQueue) (r:=F) (g1128.1,g1128.2.1,g1128.2.2) h1129 (List.Perm.refl _) R w)) pC fun _ _=>?_
 refine .fin<|WP.seq<|WP.seq<|rg 6 0<|mv0 rfl rfl<|Dv.nilpp h1127 rfl trivial rfl<|fp h1127 rfl trivial rfl fa40_0<|ld 2 rfl trivial rfl sc36 rfl rfl<|vg (SQue.opn 0 rfl) fun g1136 h1137=>?_
 refine el H fun t1138 h1139 H=>cll 8 [0,1,2,3,4,5,6,7] cal50 (Tr.weak (queue_Queue_Len.c h1139 (b0_:=g1136.1) (v0_0:=g1136.2.1) (v0_1:=g1136.2.2)) (.cons (wk_ptr h1137) .nil)) ?_
 refine bn0 rfl rfl rfl run_eq<|.fin<|cd H rfl (fun _ H=>?_) (fun _ H=>?_)
 ·
  refine WP.seq<|rg 4 2<|Dv.bld (qs:=[vB false,vS (⟨#[]⟩:ByteArray),vS (⟨#[]⟩:ByteArray),vI 0,eq (.slice none 0 0)]) (css:=[]) rfl trivial Tryz.underlying46 pl46 z46 rfl trivial rfl rfl<|sx 7 rfl trivial rfl rfl cA sz46 rfl rfl rfl nofun ?_
  refine as0 rfl rfl<|as0 rfl rfl<|.fin<|wg (SQue.shut (p:=g1126.2.1) (m:=t1134) (g1136.1,g1136.2.1,g1136.2.2) h1137 (pm 8 [0,1,2,3,4,5,6,7])) fun _ _=>?_
  refine wg (SSnd.shut (p:=p0_) (m:=(⟨t1134,p1125.fself,p1125.fto,p1125.fids,p1125.fair⟩:SSnd)) (g1126.1,g1126.2.1,g1126.2.2.1,g1126.2.2.2) h1127 (pm 6 [2,0,3,4,1,5])) fun _ _=>?_
  cases H.out; exact rt i2 rfl () 3 [2,0,1] 1 (.cons (res_wk (res_cells rfl Tryz.underlying46 rfl c46 (mem_at 2 rfl) rfl) (wk_agg (.cons wk_id (.cons wk_id (.cons wk_id (.cons wk_id (.cons wk_nil .nil))))))) (.cons (res_tmp rfl) (.cons (res_tmp rfl) .nil)))
 refine WP.skip<|WP.seq<|rg 10 16<|mv0 rfl rfl<|Dv.nilpp h1127 rfl trivial rfl<|fp h1127 rfl trivial rfl fa40_3<|ld 4 rfl trivial rfl sc37 rfl rfl<|el H fun t1141 h1142 H=>cx 8 [5,0,1,2,3,4,6,7] cal51 (clock_Counter_Next.c h1142 (p0_:=g1126.2.2.1)) nofun fun _ _=>?_
 refine mv0 rfl rfl<|ex0 rfl trivial rfl rfl<|ex0 rfl trivial rfl rfl<|as0 rfl rfl<|as0 rfl rfl<|.fin<|WP.seq<|WP.seq<|rg 2 0<|mv0 rfl rfl<|bn0 rfl rfl rfl run_ne<|.fin<|cd H rfl (fun _ H=>?_) (fun _ H=>?_)
 ·
  refine WP.seq<|rg 5 4<|Dv.bld (qs:=[vB false,vS (⟨#[]⟩:ByteArray),vS (⟨#[]⟩:ByteArray),vI 0,eq (.slice none 0 0)]) (css:=[]) rfl trivial Tryz.underlying46 pl46 z46 rfl trivial rfl rfl<|mv0 rfl rfl<|sx 7 rfl trivial rfl rfl cA sz46 rfl rfl rfl nofun ?_
  refine as0 rfl rfl<|as0 rfl rfl<|.fin<|wg (SQue.shut (p:=g1126.2.1) (m:=t1134) (g1136.1,g1136.2.1,g1136.2.2) h1137 (pm 8 [1,2,3,0,4,5,6,7])) fun _ _=>?_
  refine wg (SSnd.shut (p:=p0_) (m:=(⟨t1134,p1125.fself,p1125.fto,t1141.2.2,p1125.fair⟩:SSnd)) (g1126.1,g1126.2.1,g1126.2.2.1,g1126.2.2.2) h1127 (pm 6 [3,0,1,4,2,5])) fun _ _=>?_
  cases H.out; exact rt i2 rfl () 3 [2,0,1] 1 (.cons (res_wk (res_cells rfl Tryz.underlying46 rfl c46 (mem_at 2 rfl) rfl) (wk_agg (.cons wk_id (.cons wk_id (.cons wk_id (.cons wk_id (.cons wk_nil .nil))))))) (.cons (res_tmp rfl) (.cons (res_tmp rfl) .nil)))
 refine WP.skip<|WP.seq<|WP.dgf (kf:=15) Tryz.checked.mixed [(0,false),(1,false),(2,false),(3,false),(4,false),(5,false),(6,false),(7,false),(8,false),(9,false),(10,false),(11,false),(12,false),(13,true),(14,false)] [(16,true)] rfl (by kernel_rfl)<|mv0 rfl rfl<|Dv.nilpp h1127 rfl trivial rfl<|fp h1127 rfl trivial rfl fa40_1<|ld 5 rfl trivial rfl sc9 rfl rfl<|mv0 rfl rfl<|Dv.nilpp h1127 rfl trivial rfl<|fp h1127 rfl trivial rfl fa40_2<|ld 5 rfl trivial rfl sc9 rfl rfl<|mv0 rfl rfl<|mv0 rfl rfl<|Dv.nilpp h1127 rfl trivial rfl<|fp h1127 rfl trivial rfl fa40_0<|ld 5 rfl trivial rfl sc36 rfl rfl<|Dv.float ?_ (fun hk_=>?_)
 rotate_left
 ·
  refine el H fun t1144 h1145 H=>Dv.callx (pre:=[blk g1136.1 107 [vI t1134.fmost,eq g1136.2.1.1,eq g1136.2.2.1,vI t1134.flost],own EKey.K g1136.2.1.1 t1134.fkeys,mp EKey.kv (fun x:Edu=>agg (Edu.enc x)) g1136.2.2.1 t1134.fat]) (F:=[Ctr.O g1126.2.2.1 t1141.2.2,VView.O p1_ a1,blk g1126.1 40 [eq g1126.2.1.1,vS p1125.fself,vS p1125.fto,eq g1126.2.2.1.1,eq g1126.2.2.2.1],optO Fly.O g1126.2.2.2 p1125.fair,blk b1124 46 [vB false,vS (⟨#[]⟩:ByteArray),vS (⟨#[]⟩:ByteArray),vI 0,eq (.slice none 0 0)]]++F) (fun _:Unit=>[SQue.O g1126.2.1 t1144.2,Ctr.O g1126.2.2.1 t1141.2.2,VView.O p1_ a1,blk g1126.1 40 [eq g1126.2.1.1,vS p1125.fself,vS p1125.fto,eq g1126.2.2.1.1,eq g1126.2.2.2.1],optO Fly.O g1126.2.2.2 p1125.fair,blk b1124 46 [vB false,vS (⟨#[]⟩:ByteArray),vS (⟨#[]⟩:ByteArray),vI 0,eq (.slice none 0 0)]]++F) rfl trivial cal52 rfl (Tr.pre (pre':=[blk g1136.1 107 [vI t1134.fmost,eq g1136.2.1.1,eq g1136.2.2.1,vI t1134.flost],own EKey.K g1136.2.1.1 t1134.fkeys,mp EKey.kv (fun x:Edu=>agg (Edu.enc x)) g1136.2.2.1 t1134.fat]) (queue_Queue_Take.c h1145 (p0_:=g1126.2.1)) (fun F R w=>SQue.shut (p:=g1126.2.1) (m:=t1134) (r:=F) (g1136.1,g1136.2.1,g1136.2.2) h1137 (List.Perm.refl _) R w)) (perm_to (L:=[Ctr.O g1126.2.2.1 t1141.2.2,blk g1136.1 107 [vI t1134.fmost,eq g1136.2.1.1,eq g1136.2.2.1,vI t1134.flost],own EKey.K g1136.2.1.1 t1134.fkeys,mp EKey.kv (fun x:Edu=>agg (Edu.enc x)) g1136.2.2.1 t1134.fat,VView.O p1_ a1,blk g1126.1 40 [eq g1126.2.1.1,vS p1125.fself,vS p1125.fto,eq g1126.2.2.1.1,eq g1126.2.2.2.1],optO Fly.O g1126.2.2.2 p1125.fair,blk b1124 46 [vB false,vS (⟨#[]⟩:ByteArray),vS (⟨#[]⟩:ByteArray),vI 0,eq (.slice none 0 0)]]) (F:=F) [1,2,3,0,4,5,6,7] (by kernel_rfl) rfl rfl) rfl (fun _=>pendc (pend_by (by kernel_rfl) (pend_by (by kernel_rfl) (pend_by (by kernel_rfl) (pend_by (by kernel_rfl) (pend_in (fun _=>trivial) (pend_in (fun _=>(mem_at 3 rfl)) (pend_in (fun _=>trivial) (pend_in (fun _=>trivial) (pend_in (fun _=>trivial) (pend_in (fun _=>(mem_at 3 rfl)) (pend_in (fun _=>trivial) (pend_in (fun _=>trivial) (pend_in (fun _=>trivial) pend_nil)))))))))))))) (fun _ _=>?_)
  refine Dv.bld (qs:=[vB false,vS p1125.fself,vS p1125.fto,vI t1141.1,sl Edu.K t1144.1]) (css:=[[vS p1125.fself],[vS p1125.fto],[vI t1141.1],[sl Edu.K t1144.1]]) rfl trivial Tryz.underlying46 pl46 z46 rfl ⟨(cells_one (one_eq rfl)),⟨(cells_one (one_eq rfl)),⟨(cells_one (one_eq rfl)),⟨(cells_one one_sl),trivial⟩⟩⟩⟩ rfl rfl<|.fin<|up_al rfl trivial zc46 (all1 (fun _=>trivial) (allp (by kernel_rfl) (allp (by kernel_rfl) (allp (by kernel_rfl) (allp (by kernel_rfl) (all1 (fun _=>trivial) (all1 (fun _=>mem_at 4 rfl) (all1 (fun _=>trivial) (all1 (fun _=>trivial) (all1 (fun _=>trivial) (all1 (fun _=>mem_at 4 rfl) (all1 (fun _=>trivial) (all1 (fun _=>trivial) (all1 (fun _=>trivial) all0)))))))))))))) (fun b1146=>?_)
  refine sx 0 rfl trivial rfl rfl cA sz46 rfl rfl rfl pB ?_
  refine .fin<|WP.seq<|dg Tryz.checked.mixed 10 576<|mv0 rfl rfl<|lds 0 rfl trivial rfl sg46 rfl rfl<|mv0 rfl rfl<|el H fun t1147 h1148 H=>cl rfl cal53 rfl (clock_Backoff.c h1148)<|bn0 rfl rfl rfl run_add<|Dv.bld (qs:=[vB false,vS p1125.fself,vS p1125.fto,vI t1141.1,sl Edu.K t1144.1,vI 0,vI (w64 (a2 + t1147))]) (css:=[[vB false,vS p1125.fself,vS p1125.fto,vI t1141.1,sl Edu.K t1144.1],[vI 0],[vI (w64 (a2 + t1147))]]) rfl trivial Tryz.underlying111 pl111 z111 rfl ⟨(cells_agg (ones_cons (one_eq rfl) (ones_cons (one_eq rfl) (ones_cons (one_eq rfl) (ones_cons (one_eq rfl) (ones_cons one_sl ones_nil)))))),⟨(cells_one (one_eq rfl)),⟨(cells_one (one_eq rfl)),trivial⟩⟩⟩ rfl rfl<|Dv.box rfl trivial rfl cA (fun _=>(pend_by (by kernel_rfl) (pend_by (by kernel_rfl) (pend_by (by kernel_rfl) (pend_by (by kernel_rfl) (pend_by (by kernel_rfl) (pend_in (fun _=>trivial) pend_nil))))))) fun b1149=>Dv.nilpp h1127 rfl trivial rfl<|fp h1127 rfl trivial rfl fa40_4<|sx 5 rfl trivial rfl rfl cE sz38 rfl rfl rfl pB ?_
  refine .fin<|WP.seq<|rg 5 4<|mv0 rfl rfl<|vg (SQue.opn 2 rfl) fun g1150 h1151=>?_
  refine vg (Ctr.opn 5 rfl) fun g1152 h1153=>?_
  refine vg (Fly.shut (p:=(⟨.pointer (some ⟨b1149,0,none⟩),rfl⟩:OV)) (m:=(⟨(⟨false,p1125.fself,p1125.fto,t1141.1,t1144.1⟩:Par),0,w64 (a2 + t1147)⟩:Fly)) b1149 rfl (pm 10 [4,0,1,2,3,5,6,7,8,9])) fun _ _=>?_
  refine vg (opt_back1 (O:=Fly.O) 0 rfl) fun _ _=>?_
  refine el H fun t1154 h1155 H=>cll 10 [7,2,3,4,1,0,5,6,8,9] cal47 (Tr.weak (sender_Sender_told.c h1155 (b0_:=g1126.1) (v0_0:=g1126.2.1) (v0_1:=g1126.2.2.1) (v0_2:=(⟨.pointer (some ⟨b1149,0,none⟩),rfl⟩:OV)) (v0_3:=g1150.2.1) (v0_4:=g1150.2.2) (d0_0:=g1150.1) (e0_0:=h1151) (d0_1:=g1152) (e0_1:=h1153)) (.cons (wk_ptr h1127) .nil)) ?_
  refine sx 9 rfl trivial rfl rfl cA sz46 rfl rfl rfl nofun ?_
  refine as0 rfl rfl<|as0 rfl rfl<|.fin<|wg (SQue.shut (p:=g1126.2.1) (m:=t1144.2) (g1150.1,g1150.2.1,g1150.2.2) h1151 (pm 10 [2,3,4,0,1,5,6,7,8,9])) fun _ _=>?_
  refine wg (Ctr.shut (p:=g1126.2.2.1) (m:=t1141.2.2) g1152 h1153 (pm 8 [2,0,1,3,4,5,6,7])) fun _ _=>?_
  refine wg (SSnd.shut (p:=p0_) (m:=(⟨t1144.2,p1125.fself,p1125.fto,t1141.2.2,some (⟨(⟨false,p1125.fself,p1125.fto,t1141.1,t1144.1⟩:Par),0,w64 (a2 + t1147)⟩:Fly)⟩:SSnd)) (g1126.1,g1126.2.1,g1126.2.2.1,(⟨.pointer (some ⟨b1149,0,none⟩),rfl⟩:OV)) h1127 (pm 8 [5,1,0,2,3,4,6,7])) fun _ _=>?_
  cases H.out; exact rt i2 rfl () 5 [1,3,4,0,2] 3 (.cons (res_cells rfl Tryz.underlying46 rfl c46 (mem_at 4 rfl) rfl) (.cons (res_tmp rfl) (.cons (res_tmp rfl) .nil)))
 refine up_al rfl trivial zc46 (all1 (fun _=>mem_at 6 rfl) (all1 (fun _=>trivial) (all1 (fun _=>trivial) (all1 (fun _=>trivial) (all1 (fun _=>trivial) (all1 (fun _=>mem_at 6 rfl) (all1 (fun _=>trivial) (all1 (fun _=>trivial) (all1 (fun _=>trivial) (all1 (fun _=>mem_at 6 rfl) (all1 (fun _=>trivial) (all1 (fun _=>trivial) (all1 (fun _=>trivial) all0))))))))))))) (fun b1144=>?_)
 refine el H fun t1145 h1146 H=>Dv.callx (pre:=[blk g1136.1 107 [vI t1134.fmost,eq g1136.2.1.1,eq g1136.2.2.1,vI t1134.flost],own EKey.K g1136.2.1.1 t1134.fkeys,mp EKey.kv (fun x:Edu=>agg (Edu.enc x)) g1136.2.2.1 t1134.fat]) (F:=[blk b1144 46 [vB false,vS (⟨#[]⟩:ByteArray),vS (⟨#[]⟩:ByteArray),vI 0,eq (.slice none 0 0)],Ctr.O g1126.2.2.1 t1141.2.2,VView.O p1_ a1,blk g1126.1 40 [eq g1126.2.1.1,vS p1125.fself,vS p1125.fto,eq g1126.2.2.1.1,eq g1126.2.2.2.1],optO Fly.O g1126.2.2.2 p1125.fair,blk b1124 46 [vB false,vS (⟨#[]⟩:ByteArray),vS (⟨#[]⟩:ByteArray),vI 0,eq (.slice none 0 0)]]++F) (fun _:Unit=>[SQue.O g1126.2.1 t1145.2,blk b1144 46 [vB false,vS (⟨#[]⟩:ByteArray),vS (⟨#[]⟩:ByteArray),vI 0,eq (.slice none 0 0)],Ctr.O g1126.2.2.1 t1141.2.2,VView.O p1_ a1,blk g1126.1 40 [eq g1126.2.1.1,vS p1125.fself,vS p1125.fto,eq g1126.2.2.1.1,eq g1126.2.2.2.1],optO Fly.O g1126.2.2.2 p1125.fair,blk b1124 46 [vB false,vS (⟨#[]⟩:ByteArray),vS (⟨#[]⟩:ByteArray),vI 0,eq (.slice none 0 0)]]++F) rfl trivial cal52 rfl (Tr.pre (pre':=[blk g1136.1 107 [vI t1134.fmost,eq g1136.2.1.1,eq g1136.2.2.1,vI t1134.flost],own EKey.K g1136.2.1.1 t1134.fkeys,mp EKey.kv (fun x:Edu=>agg (Edu.enc x)) g1136.2.2.1 t1134.fat]) (queue_Queue_Take.c h1146 (p0_:=g1126.2.1)) (fun F R w=>SQue.shut (p:=g1126.2.1) (m:=t1134) (r:=F) (g1136.1,g1136.2.1,g1136.2.2) h1137 (List.Perm.refl _) R w)) (perm_to (L:=[blk b1144 46 [vB false,vS (⟨#[]⟩:ByteArray),vS (⟨#[]⟩:ByteArray),vI 0,eq (.slice none 0 0)],Ctr.O g1126.2.2.1 t1141.2.2,blk g1136.1 107 [vI t1134.fmost,eq g1136.2.1.1,eq g1136.2.2.1,vI t1134.flost],own EKey.K g1136.2.1.1 t1134.fkeys,mp EKey.kv (fun x:Edu=>agg (Edu.enc x)) g1136.2.2.1 t1134.fat,VView.O p1_ a1,blk g1126.1 40 [eq g1126.2.1.1,vS p1125.fself,vS p1125.fto,eq g1126.2.2.1.1,eq g1126.2.2.2.1],optO Fly.O g1126.2.2.2 p1125.fair,blk b1124 46 [vB false,vS (⟨#[]⟩:ByteArray),vS (⟨#[]⟩:ByteArray),vI 0,eq (.slice none 0 0)]]) (F:=F) [2,3,4,0,1,5,6,7,8] (by kernel_rfl) rfl rfl) rfl (fun _=>pendc (pend_by (by kernel_rfl) (pend_by (by kernel_rfl) (pend_by (by kernel_rfl) (pend_by (by kernel_rfl) (pend_in (fun _=>trivial) (pend_in (fun _=>(mem_at 4 rfl)) (pend_in (fun _=>trivial) (pend_in (fun _=>trivial) (pend_in (fun _=>trivial) (pend_in (fun _=>(mem_at 4 rfl)) (pend_in (fun _=>trivial) (pend_in (fun _=>trivial) (pend_in (fun _=>trivial) pend_nil)))))))))))))) (fun _ _=>?_)
 refine Dv.bld (qs:=[vB false,vS p1125.fself,vS p1125.fto,vI t1141.1,sl Edu.K t1145.1]) (css:=[[vS p1125.fself],[vS p1125.fto],[vI t1141.1],[sl Edu.K t1145.1]]) rfl trivial Tryz.underlying46 pl46 z46 rfl ⟨(cells_one (one_eq rfl)),⟨(cells_one (one_eq rfl)),⟨(cells_one (one_eq rfl)),⟨(cells_one one_sl),trivial⟩⟩⟩⟩ rfl rfl<|sx 1 rfl trivial rfl rfl cA sz46 rfl rfl rfl pB ?_
 refine .fin<|WP.seq<|dg Tryz.checked.mixed 10 576<|mv0 rfl rfl<|lds 1 rfl trivial rfl sg46 rfl rfl<|mv0 rfl rfl<|el H fun t1147 h1148 H=>cl rfl cal53 rfl (clock_Backoff.c h1148)<|bn0 rfl rfl rfl run_add<|Dv.bld (qs:=[vB false,vS p1125.fself,vS p1125.fto,vI t1141.1,sl Edu.K t1145.1,vI 0,vI (w64 (a2 + t1147))]) (css:=[[vB false,vS p1125.fself,vS p1125.fto,vI t1141.1,sl Edu.K t1145.1],[vI 0],[vI (w64 (a2 + t1147))]]) rfl trivial Tryz.underlying111 pl111 z111 rfl ⟨(cells_agg (ones_cons (one_eq rfl) (ones_cons (one_eq rfl) (ones_cons (one_eq rfl) (ones_cons (one_eq rfl) (ones_cons one_sl ones_nil)))))),⟨(cells_one (one_eq rfl)),⟨(cells_one (one_eq rfl)),trivial⟩⟩⟩ rfl rfl<|Dv.box rfl trivial rfl cA (fun _=>(pend_by (by kernel_rfl) (pend_by (by kernel_rfl) (pend_by (by kernel_rfl) (pend_by (by kernel_rfl) (pend_by (by kernel_rfl) (pend_in (fun _=>trivial) pend_nil))))))) fun b1149=>Dv.nilpp h1127 rfl trivial rfl<|fp h1127 rfl trivial rfl fa40_4<|sx 5 rfl trivial rfl rfl cE sz38 rfl rfl rfl pB ?_
 refine .fin<|WP.seq<|rg 5 4<|mv0 rfl rfl<|vg (SQue.opn 1 rfl) fun g1150 h1151=>?_
 refine vg (Ctr.opn 5 rfl) fun g1152 h1153=>?_
 refine vg (Fly.shut (p:=(⟨.pointer (some ⟨b1149,0,none⟩),rfl⟩:OV)) (m:=(⟨(⟨false,p1125.fself,p1125.fto,t1141.1,t1145.1⟩:Par),0,w64 (a2 + t1147)⟩:Fly)) b1149 rfl (pm 10 [4,0,1,2,3,5,6,7,8,9])) fun _ _=>?_
 refine vg (opt_back1 (O:=Fly.O) 0 rfl) fun _ _=>?_
 refine el H fun t1154 h1155 H=>cll 10 [7,2,3,4,1,0,5,6,8,9] cal47 (Tr.weak (sender_Sender_told.c h1155 (b0_:=g1126.1) (v0_0:=g1126.2.1) (v0_1:=g1126.2.2.1) (v0_2:=(⟨.pointer (some ⟨b1149,0,none⟩),rfl⟩:OV)) (v0_3:=g1150.2.1) (v0_4:=g1150.2.2) (d0_0:=g1150.1) (e0_0:=h1151) (d0_1:=g1152) (e0_1:=h1153)) (.cons (wk_ptr h1127) .nil)) ?_
 refine sx 9 rfl trivial rfl rfl cA sz46 rfl rfl rfl nofun ?_
 refine as0 rfl rfl<|as0 rfl rfl<|.fin<|wg (SQue.shut (p:=g1126.2.1) (m:=t1145.2) (g1150.1,g1150.2.1,g1150.2.2) h1151 (pm 10 [2,3,4,0,1,5,6,7,8,9])) fun _ _=>?_
 refine wg (Ctr.shut (p:=g1126.2.2.1) (m:=t1141.2.2) g1152 h1153 (pm 8 [2,0,1,3,4,5,6,7])) fun _ _=>?_
 refine wg (SSnd.shut (p:=p0_) (m:=(⟨t1145.2,p1125.fself,p1125.fto,t1141.2.2,some (⟨(⟨false,p1125.fself,p1125.fto,t1141.1,t1145.1⟩:Par),0,w64 (a2 + t1147)⟩:Fly)⟩:SSnd)) (g1126.1,g1126.2.1,g1126.2.2.1,(⟨.pointer (some ⟨b1149,0,none⟩),rfl⟩:OV)) h1127 (pm 8 [5,1,0,2,3,4,6,7])) fun _ _=>?_
 cases H.out; exact rt i2 rfl () 5 [1,3,4,0,2] 3 (.cons (res_cells rfl Tryz.underlying46 rfl c46 (mem_at 4 rfl) rfl) (.cons (res_tmp rfl) (.cons (res_tmp rfl) .nil)))
theorem dag_May.c {k:Nat} {a0:Event} {r:Bool} (h:dag_May.f k a0 = some r):Pt Tryz.prog 91 [agg (Event.enc a0)] (vB r):=by
 unfold dag_May.f at h
 refine pb Tryz.func91 Tryz.ntmps91 h fun R0 F H=>?_
 refine WP.seq<|rg 2 1<|Dv.box rfl trivial rfl cA nofun fun b1173=>as0 rfl rfl<|.fin<|WP.scope<|WP.seq<|WP.seq<|rg 32 0<|fb rfl trivial rfl fa55_0<|ld 0 rfl trivial rfl sc9 rfl rfl<|el H fun t1174 h1175 H=>cl rfl cal121 rfl (name_Event.c h1175)<|un0 rfl rfl (run_not _)<|mv0 rfl rfl ?_
 cases c1176:!t1174
 rotate_left
 ·
  have H:=H.ct c1176
  refine sk rfl rfl<|sk rfl rfl<|sk rfl rfl<|sk rfl rfl<|pt0 rfl rfl rfl<|mv0 rfl rfl<|sk rfl rfl<|sk rfl rfl<|sk rfl rfl<|sk rfl rfl<|pt0 rfl rfl rfl<|mv0 rfl rfl<|sk rfl rfl<|sk rfl rfl<|sk rfl rfl<|sk rfl rfl<|pt0 rfl rfl rfl<|mv0 rfl rfl<|sk rfl rfl<|sk rfl rfl<|sk rfl rfl<|pt0 rfl rfl rfl<|mv0 rfl rfl<|sk rfl rfl<|sk rfl rfl<|sk rfl rfl<|pt0 rfl rfl rfl<|.fin<|WP.cond rfl (fun _=>?_) nofun
  refine WP.seq<|rg 1 0<|as0 rfl rfl<|.fin ?_
  cases H.out; exact r1 i2 rfl (.cons (res_tmp rfl) .nil)
 have H:=H.cf c1176
 refine fb rfl (gg rfl) rfl fa55_1<|ld 0 rfl (gg rfl) rfl sc9 rfl rfl<|el H fun t1178 h1179 H=>Dv.call rfl (gg rfl) cal122 rfl (name_Room.c h1179)<|ung rfl rfl rfl (run_not _)<|pf0 rfl rfl rfl<|mv0 rfl rfl ?_
 cases c1180:!t1178
 rotate_left
 ·
  have H:=H.ct c1180
  refine sk rfl rfl<|sk rfl rfl<|sk rfl rfl<|sk rfl rfl<|pt0 rfl rfl rfl<|mv0 rfl rfl<|sk rfl rfl<|sk rfl rfl<|sk rfl rfl<|sk rfl rfl<|pt0 rfl rfl rfl<|mv0 rfl rfl<|sk rfl rfl<|sk rfl rfl<|sk rfl rfl<|pt0 rfl rfl rfl<|mv0 rfl rfl<|sk rfl rfl<|sk rfl rfl<|sk rfl rfl<|pt0 rfl rfl rfl<|.fin<|WP.cond rfl (fun _=>?_) nofun
  refine WP.seq<|rg 1 0<|as0 rfl rfl<|.fin ?_
  cases H.out; exact r1 i2 rfl (.cons (res_tmp rfl) .nil)
 have H:=H.cf c1180
 refine fb rfl (gg rfl) rfl fa55_4<|ld 0 rfl (gg rfl) rfl sc9 rfl rfl<|el H fun t1182 h1183 H=>Dv.call rfl (gg rfl) cal107 rfl (name_User.c h1183)<|ung rfl rfl rfl (run_not _)<|pf0 rfl rfl rfl<|mv0 rfl rfl ?_
 cases c1184:!t1182
 rotate_left
 ·
  have H:=H.ct c1184
  refine sk rfl rfl<|sk rfl rfl<|sk rfl rfl<|sk rfl rfl<|pt0 rfl rfl rfl<|mv0 rfl rfl<|sk rfl rfl<|sk rfl rfl<|sk rfl rfl<|pt0 rfl rfl rfl<|mv0 rfl rfl<|sk rfl rfl<|sk rfl rfl<|sk rfl rfl<|pt0 rfl rfl rfl<|.fin<|WP.cond rfl (fun _=>?_) nofun
  refine WP.seq<|rg 1 0<|as0 rfl rfl<|.fin ?_
  cases H.out; exact r1 i2 rfl (.cons (res_tmp rfl) .nil)
 have H:=H.cf c1184
 refine fb rfl (gg rfl) rfl fa55_2<|ld 0 rfl (gg rfl) rfl sc53 rfl rfl<|Dv.lenl rfl (gg rfl) rfl Tryz.underlying53<|bng rfl rfl rfl rfl run_gt<|pf0 rfl rfl rfl<|mv0 rfl rfl ?_
 cases c1186:decide (4 < (a0.fParents.length:Int))
 rotate_left
 ·
  have H:=H.ct c1186
  refine sk rfl rfl<|sk rfl rfl<|sk rfl rfl<|pt0 rfl rfl rfl<|mv0 rfl rfl<|sk rfl rfl<|sk rfl rfl<|sk rfl rfl<|pt0 rfl rfl rfl<|.fin<|WP.cond rfl (fun _=>?_) nofun
  refine WP.seq<|rg 1 0<|as0 rfl rfl<|.fin ?_
  cases H.out; exact r1 i2 rfl (.cons (res_tmp rfl) .nil)
 have H:=H.cf c1186
 refine fb rfl (gg rfl) rfl fa55_5<|ld 0 rfl (gg rfl) rfl sc3 rfl rfl<|bng rfl rfl rfl rfl run_lt<|pf0 rfl rfl rfl<|mv0 rfl rfl ?_
 cases c1188:decide (a0.fDoes < 0)
 rotate_left
 ·
  have H:=H.ct c1188
  refine sk rfl rfl<|sk rfl rfl<|sk rfl rfl<|pt0 rfl rfl rfl<|.fin<|WP.cond rfl (fun _=>?_) nofun
  refine WP.seq<|rg 1 0<|as0 rfl rfl<|.fin ?_
  cases H.out; exact r1 i2 rfl (.cons (res_tmp rfl) .nil)
 have H:=H.cf c1188
 refine fb rfl (gg rfl) rfl fa55_5<|ld 0 rfl (gg rfl) rfl sc3 rfl rfl<|bng rfl rfl rfl rfl run_gt<|pf0 rfl rfl rfl<|.fin<|cd H rfl (fun _ H=>?_) (fun _ H=>?_)
 ·
  refine WP.seq<|rg 1 0<|as0 rfl rfl<|.fin ?_
  cases H.out; exact r1 i2 rfl (.cons (res_tmp rfl) .nil)
 refine WP.skip<|WP.seq<|WP.seq<|rg 21 0<|fb rfl trivial rfl fa55_3<|ld 0 rfl trivial rfl sc9 rfl rfl<|bn0 rfl rfl rfl run_sne<|mv0 rfl rfl ?_
 cases c1191:!decide (a0.fThread = (⟨#[]⟩:ByteArray))
 ·
  have H:=H.cf c1191
  refine sk rfl rfl<|sk rfl rfl<|sk rfl rfl<|sk rfl rfl<|sk rfl rfl<|sku rfl rfl<|sku rfl rfl<|sku rfl rfl<|sku rfl rfl<|sku rfl rfl<|sk rfl rfl<|sk rfl rfl<|sku rfl rfl<|sku rfl rfl<|sku rfl rfl<|sk rfl rfl<|pf0 rfl rfl rfl<|.fin<|WP.cond rfl nofun (fun _=>?_)
  refine WP.skip<|WP.seq<|rg 1 0<|as0 rfl rfl<|.fin<|WP.seq<|WP.label<|WP.seqn H id (fun p1216:Bool×Int×Bool=>[(0,agg (Event.enc a0)),(1,eq (.pointer (some ⟨b1173,0,none⟩))),(2,vB false),(3,vB p1216.1),(37,vB (decide (2 < a0.fDoes))),(58,vB false),(60,sl strK a0.fParents),(61,vI (a0.fParents.length:Int)),(62,vI p1216.2.1),(63,vB p1216.2.2)]) (fun p1216:Bool×Int×Bool=>[blk b1173 55 (Event.enc a0)]++F) (fun p1216 H=>?_) (fun H=>?_)
  ·
   refine WP.seq<|rg 2 0<|mv0 rfl rfl<|as0 rfl rfl<|.fin ?_
   cases H.out; exact r1 i2 rfl (.cons (res_tmp rfl) .nil)
  refine WP.seq<|rg 4 0<|fb rfl trivial rfl fa55_2<|ld 0 rfl trivial rfl sc53 rfl rfl<|Dv.lenl rfl trivial rfl Tryz.underlying53<|mv0 rfl rfl<|.fin<|WP.block<|wg (sg 1 [0] 0) fun _ _=>?_
  refine lp (fun j_ (p1231:Int)=>dag_May.l1 k a0 j_ p1231) 0 H (fun p1231=>[(0,agg (Event.enc a0)),(1,eq (.pointer (some ⟨b1173,0,none⟩))),(2,vB false),(3,vB true),(37,vB (decide (2 < a0.fDoes))),(58,vB false),(60,sl strK a0.fParents),(61,vI (a0.fParents.length:Int)),(62,vI p1231)]) (fun p1231=>[blk b1173 55 (Event.enc a0)]++F) ?_
  rintro j_ x1217 H
  rcases j_ with _ | j1230
  ·
   exact (Gets.no H).elim
  replace H:Gets (dag_May.l1 k a0 (j1230 + 1) x1217) _:=H
  rw [dag_May.l1] at H
  refine WP.seq<|rg 1 0<|bn0 rfl rfl rfl run_lt<|.fin<|WP.seq<|cd H rfl (fun _ H=>?_) (fun _ H=>?_)
  rotate_left
  ·
   refine WP.exit ?_
   have H:=H.out
   exact jn (true,x1217,decide (x1217 < (a0.fParents.length:Int))) H
  refine WP.skip<|WP.seq<|WP.block<|WP.seq<|rg 5 0<|mv0 rfl rfl<|gr H fun g1219 H=>Dv.ixr rfl trivial rfl rfl Tryz.underlying53 Tryz.underlying9 c9 g1219.1 g1219.2<|ldR rfl trivial rfl sc9 rfl<|as0 rfl rfl<|as0 rfl rfl<|.fin<|WP.seq<|rg 23 0<|mv0 rfl rfl<|el H fun t1220 h1221 H=>cl rfl cal121 rfl (name_Event.c h1221)<|un0 rfl rfl (run_not _)<|mv0 rfl rfl ?_
  cases c1222:!t1220
  rotate_left
  ·
   have H:=H.ct c1222
   refine sk rfl rfl<|sk rfl rfl<|sk rfl rfl<|sk rfl rfl<|pt0 rfl rfl rfl<|mv0 rfl rfl<|sk rfl rfl<|sk rfl rfl<|sk rfl rfl<|sku rfl rfl<|sku rfl rfl<|sku rfl rfl<|sku rfl rfl<|sku rfl rfl<|sku rfl rfl<|sku rfl rfl<|sku rfl rfl<|sk rfl rfl<|pt0 rfl rfl rfl<|.fin<|WP.cond rfl (fun _=>?_) nofun
   refine WP.seq<|rg 1 0<|as0 rfl rfl<|.fin<|WP.exit ?_
   have H:=H.out
   exact jn (false,x1217,decide (x1217 < (a0.fParents.length:Int))) H
  have H:=H.cf c1222
  refine mvg rfl rfl rfl<|fb rfl (gg rfl) rfl fa55_0<|ld 0 rfl (gg rfl) rfl sc9 rfl rfl<|bng rfl rfl rfl rfl run_seq<|pf0 rfl rfl rfl<|mv0 rfl rfl ?_
  cases c1224:decide ((strK.at a0.fParents x1217) = a0.fID)
  rotate_left
  ·
   have H:=H.ct c1224
   refine sk rfl rfl<|sk rfl rfl<|sk rfl rfl<|sku rfl rfl<|sku rfl rfl<|sku rfl rfl<|sku rfl rfl<|sku rfl rfl<|sku rfl rfl<|sku rfl rfl<|sku rfl rfl<|sk rfl rfl<|pt0 rfl rfl rfl<|.fin<|WP.cond rfl (fun _=>?_) nofun
   refine WP.seq<|rg 1 0<|as0 rfl rfl<|.fin<|WP.exit ?_
   have H:=H.out
   exact jn (false,x1217,decide (x1217 < (a0.fParents.length:Int))) H
  have H:=H.cf c1224
  refine mvg rfl rfl rfl<|bng rfl rfl rfl rfl run_gt<|mvg rfl rfl rfl ?_
  cases c1226:decide (0 < x1217)
  ·
   have H:=H.cf c1226
   refine sk rfl rfl<|sk rfl rfl<|sk rfl rfl<|sk rfl rfl<|sk rfl rfl<|sk rfl rfl<|sk rfl rfl<|sk rfl rfl<|pfg rfl rfl rfl rfl<|pf0 rfl rfl rfl<|.fin<|WP.cond rfl nofun (fun _=>?_)
   exact WP.skip<|rg 2 0<|bn0 rfl rfl rfl run_add<|mv0 rfl rfl<|.fin<|bk j1230 (w64 (x1217 + 1)) H
  have H:=H.ct c1226
  refine mvg rfl rfl rfl<|fb rfl (gg rfl) rfl fa55_2<|ld 0 rfl (gg rfl) rfl sc53 rfl rfl<|mvg rfl rfl rfl<|bng rfl rfl rfl rfl run_sub<|gr H fun g1227 H=>Dv.ixr rfl (gg rfl) rfl rfl Tryz.underlying53 Tryz.underlying9 c9 g1227.1 g1227.2<|ldR rfl (gg rfl) rfl sc9 rfl<|bng rfl rfl rfl rfl run_sle<|ptg rfl rfl rfl rfl<|pf0 rfl rfl rfl<|.fin<|cd H rfl (fun _ H=>?_) (fun _ H=>?_)
  rotate_left
  ·
   exact WP.skip<|rg 2 0<|bn0 rfl rfl rfl run_add<|mv0 rfl rfl<|.fin<|bk j1230 (w64 (x1217 + 1)) H
  refine WP.seq<|rg 1 0<|as0 rfl rfl<|.fin<|WP.exit ?_
  have H:=H.out
  exact jn (false,x1217,decide (x1217 < (a0.fParents.length:Int))) H
 have H:=H.ct c1191
 refine fb rfl (gg rfl) rfl fa55_3<|ld 0 rfl (gg rfl) rfl sc9 rfl rfl<|el H fun t1192 h1193 H=>Dv.call rfl (gg rfl) cal121 rfl (name_Event.c h1193)<|ung rfl rfl rfl (run_not _)<|mvg rfl rfl rfl ?_
 cases c1194:!t1192
 rotate_left
 ·
  have H:=H.ct c1194
  refine sk rfl rfl<|sk rfl rfl<|sk rfl rfl<|sk rfl rfl<|sk rfl rfl<|ptg rfl rfl rfl rfl<|mvg rfl rfl rfl<|sk rfl rfl<|sk rfl rfl<|sk rfl rfl<|ptg rfl rfl rfl rfl<|pt0 rfl rfl rfl<|.fin<|WP.cond rfl (fun _=>?_) nofun
  refine WP.seq<|rg 1 0<|as0 rfl rfl<|.fin ?_
  cases H.out; exact r1 i2 rfl (.cons (res_tmp rfl) .nil)
 have H:=H.cf c1194
 refine fb rfl (gg rfl) rfl fa55_3<|ld 0 rfl (gg rfl) rfl sc9 rfl rfl<|fb rfl (gg rfl) rfl fa55_0<|ld 0 rfl (gg rfl) rfl sc9 rfl rfl<|bng rfl rfl rfl rfl run_seq<|pfg rfl rfl rfl rfl<|mvg rfl rfl rfl ?_
 cases c1196:decide (a0.fThread = a0.fID)
 rotate_left
 ·
  have H:=H.ct c1196
  refine sk rfl rfl<|sk rfl rfl<|sk rfl rfl<|ptg rfl rfl rfl rfl<|pt0 rfl rfl rfl<|.fin<|WP.cond rfl (fun _=>?_) nofun
  refine WP.seq<|rg 1 0<|as0 rfl rfl<|.fin ?_
  cases H.out; exact r1 i2 rfl (.cons (res_tmp rfl) .nil)
 have H:=H.cf c1196
 refine fb rfl (gg rfl) rfl fa55_5<|ld 0 rfl (gg rfl) rfl sc3 rfl rfl<|bng rfl rfl rfl rfl run_ne<|pfg rfl rfl rfl rfl<|pt0 rfl rfl rfl<|.fin<|cd H rfl (fun _ H=>?_) (fun _ H=>?_)
 ·
  refine WP.seq<|rg 1 0<|as0 rfl rfl<|.fin ?_
  cases H.out; exact r1 i2 rfl (.cons (res_tmp rfl) .nil)
 refine WP.skip<|WP.seq<|rg 1 0<|as0 rfl rfl<|.fin<|WP.seq<|WP.label<|WP.seqn H id (fun p1199:Bool×Int×Bool=>[(0,agg (Event.enc a0)),(1,eq (.pointer (some ⟨b1173,0,none⟩))),(2,vB false),(3,vB p1199.1),(37,vB (decide (2 < a0.fDoes))),(58,vB (a0.fDoes != 0)),(60,sl strK a0.fParents),(61,vI (a0.fParents.length:Int)),(62,vI p1199.2.1),(63,vB p1199.2.2)]) (fun p1199:Bool×Int×Bool=>[blk b1173 55 (Event.enc a0)]++F) (fun p1199 H=>?_) (fun H=>?_)
 ·
  refine WP.seq<|rg 2 0<|mv0 rfl rfl<|as0 rfl rfl<|.fin ?_
  cases H.out; exact r1 i2 rfl (.cons (res_tmp rfl) .nil)
 refine WP.seq<|rg 4 0<|fb rfl trivial rfl fa55_2<|ld 0 rfl trivial rfl sc53 rfl rfl<|Dv.lenl rfl trivial rfl Tryz.underlying53<|mv0 rfl rfl<|.fin<|WP.block<|wg (sg 1 [0] 0) fun _ _=>?_
 refine lp (fun j_ (p1214:Int)=>dag_May.l0 k a0 j_ p1214) 0 H (fun p1214=>[(0,agg (Event.enc a0)),(1,eq (.pointer (some ⟨b1173,0,none⟩))),(2,vB false),(3,vB true),(37,vB (decide (2 < a0.fDoes))),(58,vB (a0.fDoes != 0)),(60,sl strK a0.fParents),(61,vI (a0.fParents.length:Int)),(62,vI p1214)]) (fun p1214=>[blk b1173 55 (Event.enc a0)]++F) ?_
 rintro j_ x1200 H
 rcases j_ with _ | j1213
 ·
  exact (Gets.no H).elim
 replace H:Gets (dag_May.l0 k a0 (j1213 + 1) x1200) _:=H
 rw [dag_May.l0] at H
 refine WP.seq<|rg 1 0<|bn0 rfl rfl rfl run_lt<|.fin<|WP.seq<|cd H rfl (fun _ H=>?_) (fun _ H=>?_)
 rotate_left
 ·
  refine WP.exit ?_
  have H:=H.out
  exact jn (true,x1200,decide (x1200 < (a0.fParents.length:Int))) H
 refine WP.skip<|WP.seq<|WP.block<|WP.seq<|rg 5 0<|mv0 rfl rfl<|gr H fun g1202 H=>Dv.ixr rfl trivial rfl rfl Tryz.underlying53 Tryz.underlying9 c9 g1202.1 g1202.2<|ldR rfl trivial rfl sc9 rfl<|as0 rfl rfl<|as0 rfl rfl<|.fin<|WP.seq<|rg 23 0<|mv0 rfl rfl<|el H fun t1203 h1204 H=>cl rfl cal121 rfl (name_Event.c h1204)<|un0 rfl rfl (run_not _)<|mv0 rfl rfl ?_
 cases c1205:!t1203
 rotate_left
 ·
  have H:=H.ct c1205
  refine sk rfl rfl<|sk rfl rfl<|sk rfl rfl<|sk rfl rfl<|pt0 rfl rfl rfl<|mv0 rfl rfl<|sk rfl rfl<|sk rfl rfl<|sk rfl rfl<|sku rfl rfl<|sku rfl rfl<|sku rfl rfl<|sku rfl rfl<|sku rfl rfl<|sku rfl rfl<|sku rfl rfl<|sku rfl rfl<|sk rfl rfl<|pt0 rfl rfl rfl<|.fin<|WP.cond rfl (fun _=>?_) nofun
  refine WP.seq<|rg 1 0<|as0 rfl rfl<|.fin<|WP.exit ?_
  have H:=H.out
  exact jn (false,x1200,decide (x1200 < (a0.fParents.length:Int))) H
 have H:=H.cf c1205
 refine mvg rfl rfl rfl<|fb rfl (gg rfl) rfl fa55_0<|ld 0 rfl (gg rfl) rfl sc9 rfl rfl<|bng rfl rfl rfl rfl run_seq<|pf0 rfl rfl rfl<|mv0 rfl rfl ?_
 cases c1207:decide ((strK.at a0.fParents x1200) = a0.fID)
 rotate_left
 ·
  have H:=H.ct c1207
  refine sk rfl rfl<|sk rfl rfl<|sk rfl rfl<|sku rfl rfl<|sku rfl rfl<|sku rfl rfl<|sku rfl rfl<|sku rfl rfl<|sku rfl rfl<|sku rfl rfl<|sku rfl rfl<|sk rfl rfl<|pt0 rfl rfl rfl<|.fin<|WP.cond rfl (fun _=>?_) nofun
  refine WP.seq<|rg 1 0<|as0 rfl rfl<|.fin<|WP.exit ?_
  have H:=H.out
  exact jn (false,x1200,decide (x1200 < (a0.fParents.length:Int))) H
 have H:=H.cf c1207
 refine mvg rfl rfl rfl<|bng rfl rfl rfl rfl run_gt<|mvg rfl rfl rfl ?_
 cases c1209:decide (0 < x1200)
 ·
  have H:=H.cf c1209
  refine sk rfl rfl<|sk rfl rfl<|sk rfl rfl<|sk rfl rfl<|sk rfl rfl<|sk rfl rfl<|sk rfl rfl<|sk rfl rfl<|pfg rfl rfl rfl rfl<|pf0 rfl rfl rfl<|.fin<|WP.cond rfl nofun (fun _=>?_)
  exact WP.skip<|rg 2 0<|bn0 rfl rfl rfl run_add<|mv0 rfl rfl<|.fin<|bk j1213 (w64 (x1200 + 1)) H
 have H:=H.ct c1209
 refine mvg rfl rfl rfl<|fb rfl (gg rfl) rfl fa55_2<|ld 0 rfl (gg rfl) rfl sc53 rfl rfl<|mvg rfl rfl rfl<|bng rfl rfl rfl rfl run_sub<|gr H fun g1210 H=>Dv.ixr rfl (gg rfl) rfl rfl Tryz.underlying53 Tryz.underlying9 c9 g1210.1 g1210.2<|ldR rfl (gg rfl) rfl sc9 rfl<|bng rfl rfl rfl rfl run_sle<|ptg rfl rfl rfl rfl<|pf0 rfl rfl rfl<|.fin<|cd H rfl (fun _ H=>?_) (fun _ H=>?_)
 rotate_left
 ·
  exact WP.skip<|rg 2 0<|bn0 rfl rfl rfl run_add<|mv0 rfl rfl<|.fin<|bk j1213 (w64 (x1200 + 1)) H
 refine WP.seq<|rg 1 0<|as0 rfl rfl<|.fin<|WP.exit ?_
 have H:=H.out
 exact jn (false,x1200,decide (x1200 < (a0.fParents.length:Int))) H
theorem dag_Dag_Has.c {a0:DDag} {a1:ByteArray} {v0_0:OV} {b0_:Nat} {r:Bool} (h:dag_Dag_Has.f a0 a1 = some r):Tr Tryz.prog 92 [eq (.pointer (some ⟨b0_,0,none⟩)),vS a1] [blk b0_ 159 [vS a0.froom,eq v0_0.1],mpo Value.string DNode.O v0_0.1 a0.fnodes] (γ:=Unit) (fun _=>True) (fun g=>vB r) (fun g=>[blk b0_ 159 [vS a0.froom,eq v0_0.1],mpo Value.string DNode.O v0_0.1 a0.fnodes]):=by
 unfold dag_Dag_Has.f at h
 refine Tr.body Tryz.func92 (c:=_) rfl Tryz.ntmps92 (Nat.le_of_ble_eq_true rfl) fun R0 F=>?_
 replace h:=Gets.of h
 have H:=h
 clear h
 refine WP.seq<|rg 1 0<|as0 rfl rfl<|.fin<|WP.seq<|rg 8 0<|mv0 rfl rfl<|Dv.nilp rfl trivial rfl<|fb rfl trivial rfl fa159_1<|ld 0 rfl trivial rfl sc157 rfl rfl<|mv0 rfl rfl<|vg (mpo_opn 1 rfl) fun z1232 h1233=>?_
 refine Dv.mlv nilP rfl trivial rfl (mem_at 0 rfl) rfl Tryz.underlying157 (keyOk_str Tryz.underlying9) z161 (fun _=>rfl)<|Dv.pm1 (pm_nil h1233 rfl) rfl trivial rfl rfl Tryz.underlying161<|as0 rfl rfl<|.fin<|wg (mpo_shut h1233 rfl (pm 3 [0,1,2])) fun _ _=>?_
 cases H.out; exact rt i2 rfl () 2 [1,0] 0 (.cons (res_tmp rfl) .nil)
theorem slices_ContainsFunc_string_x.c {k:Nat} {a0:List ByteArray} {a1:(ByteArray→Option Bool)} {X1_:As} {r:Bool} (h:slices_ContainsFunc_string_x.f k a0 a1 = some r):Tr Tryz.prog 93 [sl strK a0,fx_string_bool X1_ a1] [X1_] (γ:=Unit) (fun _=>True) (fun g=>vB r) (fun g=>[X1_]):=by
 unfold slices_ContainsFunc_string_x.f at h
 refine Tr.body Tryz.func93 (c:=_) rfl Tryz.ntmps93 (Nat.le_of_ble_eq_true rfl) fun R0 F=>?_
 replace h:=Gets.of h
 have H:=h
 clear h
 refine WP.seq<|rg 1 0<|as0 rfl rfl<|.fin<|WP.seq<|rg 5 0<|mv0 rfl rfl<|mv0 rfl rfl<|el H fun t1236 h1237 H=>cll 1 [0] cal123 (slices_IndexFunc_string_x.c h1237 (X1_:=X1_)) ?_
 refine bn0 rfl rfl rfl run_ge<|as0 rfl rfl<|.fin ?_
 cases H.out; exact rt i2 rfl () 1 [0] 0 (.cons (res_tmp rfl) .nil)
theorem dag_Dag_Add_1.c {a0:ByteArray} {cb0_ cd0_:Nat} {cq0_ cv0_0:OV} {ch0_:cq0_.1 = .pointer (some ⟨cd0_,0,none⟩)} {c0:DDag} {r:Bool} (h:dag_Dag_Add_1.f a0 c0 = some r):Tr Tryz.prog 94 [vS a0,eq (.pointer (some ⟨cb0_,0,none⟩))] [blk cb0_ 120 [eq cq0_.1],blk cd0_ 159 [vS c0.froom,eq cv0_0.1],mpo Value.string DNode.O cv0_0.1 c0.fnodes] (γ:=Unit) (fun _=>True) (fun g=>vB r) (fun g=>[blk cb0_ 120 [eq cq0_.1],blk cd0_ 159 [vS c0.froom,eq cv0_0.1],mpo Value.string DNode.O cv0_0.1 c0.fnodes]):=by
 unfold dag_Dag_Add_1.f at h
 refine Tr.body Tryz.func94 (c:=_) rfl Tryz.ntmps94 (Nat.le_of_ble_eq_true rfl) fun R0 F=>?_
 replace h:=Gets.of h
 have H:=h
 clear h
 refine WP.seq<|rg 1 0<|as0 rfl rfl<|.fin<|WP.seq<|rg 5 0<|ld 0 rfl trivial rfl sc120 rfl rfl<|mv0 rfl rfl<|el H fun t1240 h1241 H=>cll 3 [1,2,0] cal92 (Tr.weak (dag_Dag_Has.c h1241 (b0_:=cd0_) (v0_0:=cv0_0)) (.cons (wk_ptr ch0_) (.cons wk_id .nil))) ?_
 refine un0 rfl rfl (run_not _)<|as0 rfl rfl<|.fin ?_
 cases H.out; exact rt i2 rfl () 3 [0,1,2] 0 (.cons (res_tmp rfl) .nil)
theorem dag_Dag_Add.c {k:Nat} {a0:DDag} {a1:Event} {p0_:OV} {r:Int×DDag} (h:dag_Dag_Add.f k a0 a1 = some r):Tr Tryz.prog 56 [eq p0_.1,agg (Event.enc a1)] [DDag.O p0_ a0] (γ:=Unit) (fun _=>True) (fun g=>vI r.1) (fun g=>[DDag.O p0_ r.2]):=by
 unfold dag_Dag_Add.f at h
 refine Tr.body Tryz.func56 (c:=_) rfl Tryz.ntmps56 (Nat.le_of_ble_eq_true rfl) fun R0 F=>?_
 replace h:=Gets.of h
 have H:=h
 clear h
 refine WP.seq<|rg 3 3<|Dv.box rfl trivial rfl (cells_one one_ov) nofun fun b1242=>Dv.box rfl trivial rfl cA nofun fun b1243=>as0 rfl rfl<|.fin<|WP.seq<|WP.block<|WP.seq<|wg (DDag.opn 2 rfl) fun g1244 h1245=>?_
 refine dg Tryz.checked.mixed 13 0<|lds 2 rfl trivial rfl sg55 rfl rfl<|el H fun t1246 h1247 H=>cl rfl cal91 rfl (dag_May.c h1247)<|un0 rfl rfl (run_not _)<|mv0 rfl rfl ?_
 cases c1248:!t1246
 rotate_left
 ·
  have H:=H.ct c1248
  refine sk rfl rfl<|sk rfl rfl<|sk rfl rfl<|sk rfl rfl<|sk rfl rfl<|sk rfl rfl<|sk rfl rfl<|pt0 rfl rfl rfl<|as0 rfl rfl<|.fin<|WP.cond rfl (fun _=>?_) nofun
  refine WP.seq<|rg 1 0<|as0 rfl rfl<|.fin<|wg (DDag.shut (p:=p0_) (m:=a0) (g1244.1,g1244.2) h1245 (pm 4 [0,1,2,3])) fun _ _=>?_
  cases H.out; exact rt i2 rfl () 3 [1,2,0] 2 (.cons (res_tmp rfl) .nil)
 have H:=H.cf c1248
 refine fb rfl (gg rfl) rfl fa55_1<|ld 2 rfl (gg rfl) rfl sc9 rfl rfl<|ld 3 rfl (gg rfl) rfl sc120 rfl rfl<|Dv.nilpp h1245 rfl (gg rfl) rfl<|fp h1245 rfl (gg rfl) rfl fa159_0<|ld 0 rfl (gg rfl) rfl sc9 rfl rfl<|bng rfl rfl rfl rfl run_sne<|pf0 rfl rfl rfl<|as0 rfl rfl<|.fin<|cd H rfl (fun _ H=>?_) (fun _ H=>?_)
 ·
  refine WP.seq<|rg 1 0<|as0 rfl rfl<|.fin<|wg (DDag.shut (p:=p0_) (m:=a0) (g1244.1,g1244.2) h1245 (pm 4 [0,1,2,3])) fun _ _=>?_
  cases H.out; exact rt i2 rfl () 3 [1,2,0] 2 (.cons (res_tmp rfl) .nil)
 refine WP.seq<|rg 5 0<|ld 3 rfl trivial rfl sc120 rfl rfl<|fb rfl trivial rfl fa55_0<|ld 2 rfl trivial rfl sc9 rfl rfl<|el H fun t1251 h1252 H=>cll 4 [0,1,2,3] cal92 (Tr.weak (dag_Dag_Has.c h1252 (b0_:=g1244.1) (v0_0:=g1244.2)) (.cons (wk_ptr h1245) (.cons wk_id .nil))) ?_
 refine as0 rfl rfl<|.fin<|cd H rfl (fun _ H=>?_) (fun _ H=>?_)
 ·
  refine WP.seq<|rg 1 0<|as0 rfl rfl<|.fin<|wg (DDag.shut (p:=p0_) (m:=a0) (g1244.1,g1244.2) h1245 (pm 4 [0,1,2,3])) fun _ _=>?_
  cases H.out; exact rt i2 rfl () 3 [1,2,0] 2 (.cons (res_tmp rfl) .nil)
 refine WP.seq<|rg 5 0<|fb rfl trivial rfl fa55_2<|ld 2 rfl trivial rfl sc53 rfl rfl<|Dv.mkx (Q:=fqQ_string_bool (fun a0_=>dag_Dag_Add_1.f a0_ a0)) (L:=[blk b1242 120 [eq p0_.1],blk g1244.1 159 [vS a0.froom,eq g1244.2.1],mpo Value.string DNode.O g1244.2.1 a0.fnodes]) cal94 (by rintro _ _ ⟨a0_,r_,h_,rfl,rfl⟩; exact dag_Dag_Add_1.c h_ (cb0_:=b1242) (cq0_:=p0_) (cd0_:=g1244.1) (ch0_:=h1245) (cv0_0:=g1244.2)) rfl trivial rfl rfl<|el H fun t1254 h1255 H=>cll 4 [3,0,1,2] cal93 (Tr.unpkr (A:=[]) (L:=[blk b1242 120 [eq p0_.1],blk g1244.1 159 [vS a0.froom,eq g1244.2.1],mpo Value.string DNode.O g1244.2.1 a0.fnodes]) (slices_ContainsFunc_string_x.c h1255 (X1_:=(pk [blk b1242 120 [eq p0_.1],blk g1244.1 159 [vS a0.froom,eq g1244.2.1],mpo Value.string DNode.O g1244.2.1 a0.fnodes])))) ?_
 refine as0 rfl rfl<|.fin<|cd H rfl (fun _ H=>?_) (fun _ H=>?_)
 ·
  refine WP.seq<|rg 1 0<|as0 rfl rfl<|.fin<|wg (DDag.shut (p:=p0_) (m:=a0) (g1244.1,g1244.2) h1245 (pm 4 [0,1,2,3])) fun _ _=>?_
  cases H.out; exact rt i2 rfl () 3 [1,2,0] 2 (.cons (res_tmp rfl) .nil)
 refine WP.skip<|WP.seqr H id (fun p1257:Unit=>[(0,eq p0_.1),(1,agg (Event.enc a1)),(2,eq (.pointer (some ⟨b1242,0,none⟩))),(3,eq (.pointer (some ⟨b1243,0,none⟩))),(4,vI 0),(9,vB (!decide (a1.fRoom = a0.froom))),(22,vB t1251),(27,vB t1254),(34,vB (!decide (a1.fThread = (⟨#[]⟩:ByteArray))))]) (fun p1257:Unit=>[blk b1243 55 (Event.enc a1),blk b1242 120 [eq p0_.1],DDag.O p0_ a0]++F) (fun p1257 H=>?_) (fun H=>?_)
 rotate_left
 ·
  refine WP.seq<|rg 3 0<|fb rfl trivial rfl fa55_3<|ld 2 rfl trivial rfl sc9 rfl rfl<|bn0 rfl rfl rfl run_sne<|.fin<|cd H rfl (fun _ H=>?_) (fun _ H=>?_)
  rotate_left
  ·
   refine WP.skip ?_
   have H:=H.out
   refine ng (DDag.shut (p:=p0_) (m:=a0) (g1244.1,g1244.2) h1245 (pm 4 [0,1,2,3])) fun _ _=>?_
   refine ng (sg 3 [1,2,0] 0) fun _ _=>?_
   exact jn () H
  refine WP.seq<|wg (mpo_opn 1 rfl) fun z1282 h1283=>?_
  refine dg Tryz.checked.mixed 8 0<|ld 4 rfl trivial rfl sc120 rfl rfl<|Dv.nilpp h1245 rfl trivial rfl<|fp h1245 rfl trivial rfl fa159_1<|ld 2 rfl trivial rfl sc157 rfl rfl<|fb rfl trivial rfl fa55_3<|ld 3 rfl trivial rfl sc9 rfl rfl<|Dv.mlv nilP rfl trivial rfl (mem_at 0 rfl) rfl Tryz.underlying157 (keyOk_str Tryz.underlying9) z161 (fun _=>rfl)<|as0 rfl rfl<|.fin<|WP.seq<|WP.seq<|rg 2 0<|mv0 rfl rfl<|Dv.pm0 (pm_nil h1283 rfl) rfl trivial rfl rfl Tryz.underlying161<|.fin<|cd H rfl (fun _ H=>?_) (fun _ H=>?_)
  ·
   refine WP.seq<|rg 1 0<|as0 rfl rfl<|.fin<|wg (mpo_shut h1283 rfl (pm 5 [0,1,2,3,4])) fun _ _=>?_
   refine wg (DDag.shut (p:=p0_) (m:=a0) (g1244.1,g1244.2) h1245 (pm 4 [1,0,2,3])) fun _ _=>?_
   have H:=H.outr
   cases H.out; exact rt i2 rfl () 3 [1,2,0] 2 (.cons (res_tmp rfl) .nil)
  refine WP.skip<|WP.seq<|rg 14 0<|mv0 rfl rfl<|gr H fun g1285 H=>vg (mpo_foc h1283 rfl g1285 (pm 5 [1,0,2,3,4])) fun _ _=>?_
  refine Dv.nilA DNode.nn rfl trivial rfl (mem_at 0 rfl)<|vg (DNode.opn 0 rfl) fun g1286 h1287=>?_
  refine fp h1287 rfl trivial rfl fa163_0<|fb rfl trivial rfl fa55_3<|ld 0 rfl trivial rfl sc9 rfl rfl<|bn0 rfl rfl rfl run_sne<|mv0 rfl rfl ?_
  cases c1288:!decide (((((mget a0.fnodes a1.fThread).getD default).fe).fThread) = (⟨#[]⟩:ByteArray))
  rotate_left
  ·
   have H:=H.ct c1288
   refine sk rfl rfl<|sk rfl rfl<|sk rfl rfl<|sk rfl rfl<|sk rfl rfl<|sk rfl rfl<|pt0 rfl rfl rfl<|.fin<|WP.cond rfl (fun _=>?_) nofun
   refine WP.seq<|rg 1 0<|as0 rfl rfl<|.fin<|wg (DNode.shut (p:=((mget (zipK a0.fnodes z1282) a1.fThread).getD nilP)) (m:=(mget a0.fnodes a1.fThread).getD default) g1286 h1287 (pm 6 [0,1,2,3,4,5])) fun _ _=>?_
   refine wg (mpo_unf0 h1283 rfl g1285 (pm 6 [0,1,2,3,4,5])) fun _ _=>?_
   refine wg (mpo_shut h1283 rfl (pm 5 [1,0,2,3,4])) fun _ _=>?_
   refine wg (DDag.shut (p:=p0_) (m:=a0) (g1244.1,g1244.2) h1245 (pm 4 [1,0,2,3])) fun _ _=>?_
   have H:=H.outr
   cases H.out; exact rt i2 rfl () 3 [1,2,0] 2 (.cons (res_tmp rfl) .nil)
  have H:=H.cf c1288
  refine mvg rfl rfl rfl<|Dv.nilpp h1287 rfl (gg rfl) rfl<|fp h1287 rfl (gg rfl) rfl fa163_0<|fb rfl (gg rfl) rfl fa55_5<|ld 0 rfl (gg rfl) rfl sc3 rfl rfl<|bng rfl rfl rfl rfl run_ne<|pf0 rfl rfl rfl<|.fin<|cd H rfl (fun _ H=>?_) (fun _ H=>?_)
  rotate_left
  ·
   refine WP.skip ?_
   have H:=H.out
   refine ng (DNode.shut (p:=((mget (zipK a0.fnodes z1282) a1.fThread).getD nilP)) (m:=(mget a0.fnodes a1.fThread).getD default) g1286 h1287 (pm 6 [0,1,2,3,4,5])) fun _ _=>?_
   refine ng (mpo_unf0 h1283 rfl g1285 (pm 6 [0,1,2,3,4,5])) fun _ _=>?_
   refine ng (mpo_shut h1283 rfl (pm 5 [1,0,2,3,4])) fun _ _=>?_
   refine ng (DDag.shut (p:=p0_) (m:=a0) (g1244.1,g1244.2) h1245 (pm 4 [1,0,2,3])) fun _ _=>?_
   refine ng (sg 3 [1,2,0] 0) fun _ _=>?_
   exact jn () H
  refine WP.seq<|rg 1 0<|as0 rfl rfl<|.fin<|wg (DNode.shut (p:=((mget (zipK a0.fnodes z1282) a1.fThread).getD nilP)) (m:=(mget a0.fnodes a1.fThread).getD default) g1286 h1287 (pm 6 [0,1,2,3,4,5])) fun _ _=>?_
  refine wg (mpo_unf0 h1283 rfl g1285 (pm 6 [0,1,2,3,4,5])) fun _ _=>?_
  refine wg (mpo_shut h1283 rfl (pm 5 [1,0,2,3,4])) fun _ _=>?_
  refine wg (DDag.shut (p:=p0_) (m:=a0) (g1244.1,g1244.2) h1245 (pm 4 [1,0,2,3])) fun _ _=>?_
  have H:=H.outr
  cases H.out; exact rt i2 rfl () 3 [1,2,0] 2 (.cons (res_tmp rfl) .nil)
 refine WP.seq<|rg 5 8<|lds 0 rfl trivial rfl sg55 rfl rfl<|el H fun t1258 h1259 H=>cl rfl cal95 rfl (dag_own.c h1259)<|Dv.bld (qs:=[vS t1258.fID,vS t1258.fRoom,sl strK t1258.fParents,vS t1258.fThread,vS t1258.fUser,vI t1258.fDoes,vI 0,vB false]) (css:=[Event.enc t1258]) rfl trivial Tryz.underlying163 pl163 z163 rfl ⟨(cells_agg (Event.K.one _)),trivial⟩ rfl rfl<|Dv.box rfl trivial rfl cA nofun fun b1260=>as0 rfl rfl<|.fin<|WP.seqn H id (fun p1261:Int×Bool×Int×DDag=>[(0,eq p0_.1),(1,agg (Event.enc a1)),(2,eq (.pointer (some ⟨b1242,0,none⟩))),(3,eq (.pointer (some ⟨b1243,0,none⟩))),(4,vI 0),(6,eq (.pointer (some ⟨b1260,0,none⟩))),(9,vB (!decide (a1.fRoom = a0.froom))),(22,vB t1251),(27,vB t1254),(34,vB (!decide (a1.fThread = (⟨#[]⟩:ByteArray)))),(63,sl strK a1.fParents),(64,vI (a1.fParents.length:Int)),(65,vI p1261.1),(66,vB p1261.2.1)]) (fun p1261:Int×Bool×Int×DDag=>[blk b1260 163 [vS t1258.fID,vS t1258.fRoom,sl strK t1258.fParents,vS t1258.fThread,vS t1258.fUser,vI t1258.fDoes,vI p1261.2.2.1,vB false],blk b1243 55 (Event.enc a1),blk b1242 120 [eq p0_.1],DDag.O p0_ p1261.2.2.2]++F) (fun p1261 H=>?_) (fun H=>?_)
 ·
  refine WP.seq<|wg (DDag.opn 3 rfl) fun g1262 h1263=>?_
  refine wg (DNode.shut (p:=(⟨.pointer (some ⟨b1260,0,none⟩),rfl⟩:OV)) (m:=(⟨t1258,p1261.2.2.1,false⟩:DNode)) b1260 rfl (pm 5 [2,0,1,3,4])) fun _ _=>?_
  refine wg (mpo_opn 2 rfl) fun z1264 h1265=>?_
  refine dg Tryz.checked.mixed 8 128<|ld 5 rfl trivial rfl sc120 rfl rfl<|Dv.nilpp h1263 rfl trivial rfl<|fp h1263 rfl trivial rfl fa159_1<|ld 3 rfl trivial rfl sc157 rfl rfl<|fb rfl trivial rfl fa55_0<|ld 4 rfl trivial rfl sc9 rfl rfl<|mv0 rfl rfl<|Dv.mup (vp:=fun p:OV=>eq p.1) (jj:=0) (⟨.pointer (some ⟨b1260,0,none⟩),rfl⟩:OV) rfl trivial rfl rfl rfl rfl Tryz.underlying157 (keyOk_str Tryz.underlying9) (fun _=>pend_bits (by kernel_rfl))<|.fin<|WP.seq<|rg 1 0<|as0 rfl rfl<|.fin<|wg (mpo_add DNode.nn h1265 rfl (pm 6 [0,1,2,3,4,5])) fun _ _=>?_
  refine wg (DDag.shut (p:=p0_) (m:=(⟨p1261.2.2.2.froom,mput p1261.2.2.2.fnodes a1.fID (⟨t1258,p1261.2.2.1,false⟩:DNode)⟩:DDag)) (g1262.1,g1262.2) h1263 (pm 4 [1,0,2,3])) fun _ _=>?_
  cases H.out; exact rt i2 rfl () 3 [1,2,0] 2 (.cons (res_tmp rfl) .nil)
 refine WP.seq<|rg 4 0<|fb rfl trivial rfl fa55_2<|ld 1 rfl trivial rfl sc53 rfl rfl<|Dv.lenl rfl trivial rfl Tryz.underlying53<|mv0 rfl rfl<|.fin<|WP.block<|wg (sg 4 [0,1,2,3] 0) fun _ _=>?_
 refine lp (fun j_ (p1280:Int×Int×DDag)=>dag_Dag_Add.l0 k a1 j_ p1280.1 p1280.2.1 p1280.2.2) (0,0,a0) H (fun p1280=>[(0,eq p0_.1),(1,agg (Event.enc a1)),(2,eq (.pointer (some ⟨b1242,0,none⟩))),(3,eq (.pointer (some ⟨b1243,0,none⟩))),(4,vI 0),(6,eq (.pointer (some ⟨b1260,0,none⟩))),(9,vB (!decide (a1.fRoom = a0.froom))),(22,vB t1251),(27,vB t1254),(34,vB (!decide (a1.fThread = (⟨#[]⟩:ByteArray)))),(63,sl strK a1.fParents),(64,vI (a1.fParents.length:Int)),(65,vI p1280.1)]) (fun p1280=>[blk b1260 163 [vS t1258.fID,vS t1258.fRoom,sl strK t1258.fParents,vS t1258.fThread,vS t1258.fUser,vI t1258.fDoes,vI p1280.2.1,vB false],blk b1243 55 (Event.enc a1),blk b1242 120 [eq p0_.1],DDag.O p0_ p1280.2.2]++F) ?_
 rintro j_ ⟨x1266,x1267,x1268⟩ H
 rcases j_ with _ | j1279
 ·
  exact (Gets.no H).elim
 replace H:Gets (dag_Dag_Add.l0 k a1 (j1279 + 1) x1266 x1267 x1268) _:=H
 rw [dag_Dag_Add.l0] at H
 refine WP.seq<|rg 1 0<|bn0 rfl rfl rfl run_lt<|.fin<|WP.seq<|cd H rfl (fun _ H=>?_) (fun _ H=>?_)
 rotate_left
 ·
  refine WP.exit ?_
  have H:=H.out
  exact jn (x1266,decide (x1266 < (a1.fParents.length:Int)),x1267,x1268) H
 refine WP.skip<|WP.seq<|WP.block<|WP.seq<|rg 3 0<|gr H fun g1270 H=>Dv.ixr rfl trivial rfl rfl Tryz.underlying53 Tryz.underlying9 c9 g1270.1 g1270.2<|ldR rfl trivial rfl sc9 rfl<|as0 rfl rfl<|.fin<|WP.seq<|wg (DDag.opn 3 rfl) fun g1271 h1272=>?_
 refine wg (mpo_opn 1 rfl) fun z1273 h1274=>?_
 refine gr H fun g1275 H=>wg (mpo_foc h1274 rfl g1275 (pm 6 [1,0,2,3,4,5])) fun _ _=>?_
 refine wg (DNode.opn 0 rfl) fun g1276 h1277=>?_
 refine dg Tryz.checked.mixed 19 262144<|mv0 rfl rfl<|mv0 rfl rfl<|Dv.nilp rfl trivial rfl<|fb rfl trivial rfl fa163_1<|ld 4 rfl trivial rfl sc3 rfl rfl<|ld 6 rfl trivial rfl sc120 rfl rfl<|Dv.nilpp h1272 rfl trivial rfl<|fp h1272 rfl trivial rfl fa159_1<|ld 3 rfl trivial rfl sc157 rfl rfl<|mv0 rfl rfl<|Dv.mlv nilP rfl trivial rfl (mem_at 2 rfl) rfl Tryz.underlying157 (keyOk_str Tryz.underlying9) z161 (fun _=>rfl)<|Dv.nilpp h1277 rfl trivial rfl<|fp h1277 rfl trivial rfl fa163_1<|ld 0 rfl trivial rfl sc3 rfl rfl<|bn0 rfl rfl rfl run_add<|Dv.maxi rfl trivial rfl rfl<|Dv.nilp rfl trivial rfl<|fb rfl trivial rfl fa163_1<|sx 4 rfl trivial rfl rfl cE sz3 rfl rfl rfl pB ?_
 refine .fin<|rg 9 256<|ld 6 rfl trivial rfl sc120 rfl rfl<|Dv.nilpp h1272 rfl trivial rfl<|fp h1272 rfl trivial rfl fa159_1<|ld 3 rfl trivial rfl sc157 rfl rfl<|mv0 rfl rfl<|Dv.mlv nilP rfl trivial rfl (mem_at 2 rfl) rfl Tryz.underlying157 (keyOk_str Tryz.underlying9) z161 (fun _=>rfl)<|Dv.nilpp h1277 rfl trivial rfl<|fp h1277 rfl trivial rfl fa163_2<|sx 0 rfl trivial rfl rfl cE sz4 rfl rfl rfl nofun ?_
 refine .fin<|rg 2 0<|bn0 rfl rfl rfl run_add<|mv0 rfl rfl<|.fin<|ng (DNode.shut (p:=((mget (zipK x1268.fnodes z1273) (strK.at a1.fParents x1266)).getD nilP)) (m:=(⟨((mget x1268.fnodes (strK.at a1.fParents x1266)).getD default).fe,((mget x1268.fnodes (strK.at a1.fParents x1266)).getD default).fdepth,true⟩:DNode)) g1276 h1277 (pm 7 [0,1,2,3,4,5,6])) fun _ _=>?_
 refine ng (mpo_unf h1274 rfl g1275 (pm 7 [0,1,2,3,4,5,6])) fun _ h1278=>?_
 refine ng (mpo_shut h1278 (zipK_put' rfl g1275) (pm 6 [1,0,2,3,4,5])) fun _ _=>?_
 refine ng (DDag.shut (p:=p0_) (m:=(⟨x1268.froom,mput x1268.fnodes (strK.at a1.fParents x1266) (⟨((mget x1268.fnodes (strK.at a1.fParents x1266)).getD default).fe,((mget x1268.fnodes (strK.at a1.fParents x1266)).getD default).fdepth,true⟩:DNode)⟩:DDag)) (g1271.1,g1271.2) h1272 (pm 5 [1,0,2,3,4])) fun _ _=>?_
 refine ng (sg 4 [1,2,3,0] 0) fun _ _=>?_
 exact bk j1279 (w64 (x1266 + 1),max x1267 (w64 ((((mget x1268.fnodes (strK.at a1.fParents x1266)).getD default).fdepth) + 1)),(⟨x1268.froom,mput x1268.fnodes (strK.at a1.fParents x1266) (⟨((mget x1268.fnodes (strK.at a1.fParents x1266)).getD default).fe,((mget x1268.fnodes (strK.at a1.fParents x1266)).getD default).fdepth,true⟩:DNode)⟩:DDag)) H
theorem view_View_Add.c {k:Nat} {a0:VView} {a1:Event} {p0_:OV} {r:Int×VView} (h:view_View_Add.f k a0 a1 = some r):Tr Tryz.prog 19 [eq p0_.1,agg (Event.enc a1)] [VView.O p0_ a0] (γ:=Unit) (fun _=>True) (fun g=>vI r.1) (fun g=>[VView.O p0_ r.2]):=by
 unfold view_View_Add.f at h
 refine Tr.body Tryz.func19 (c:=_) rfl Tryz.ntmps19 (Nat.le_of_ble_eq_true rfl) fun R0 F=>?_
 replace h:=Gets.of h
 have H:=h
 clear h
 refine WP.seq<|rg 2 1<|Dv.box rfl trivial rfl cA nofun fun b1291=>as0 rfl rfl<|.fin<|WP.seq<|rg 5 8<|mv0 rfl rfl<|fb rfl trivial rfl fa55_1<|ld 0 rfl trivial rfl sc9 rfl rfl<|vg (VView.opn 1 rfl) fun g1292 h1293=>?_
 refine el H fun t1294 h1295 H=>cx 3 [0,1,2] cal55 (Tr.weak (view_View_room.c h1295 (b0_:=g1292.1) (v0_0:=g1292.2)) (.cons (wk_ptr h1293) (.cons wk_id .nil))) nofun fun v1296 _=>?_
 refine as0 rfl rfl<|.fin<|WP.seq<|WP.seq<|rg 4 4<|mv0 rfl rfl<|lds 3 rfl trivial rfl sg55 rfl rfl<|el H fun t1297 h1298 H=>cx 4 [2,0,1,3] cal56 (dag_Dag_Add.c h1298 (p0_:=v1296)) nofun fun _ _=>?_
 refine as0 rfl rfl<|.fin<|WP.seq<|rg 2 0<|mv0 rfl rfl<|bn0 rfl rfl rfl run_ne<|.fin<|cd H rfl (fun _ H=>?_) (fun _ H=>?_)
 ·
  refine WP.seq<|rg 2 0<|mv0 rfl rfl<|as0 rfl rfl<|.fin<|wg (mpl_back (pm 4 [2,0,1,3])) fun _ _=>?_
  refine wg (VView.shut (p:=p0_) (m:=(⟨mres a0.fdags a1.fRoom t1297.2⟩:VView)) (g1292.1,g1292.2) h1293 (pm 3 [1,0,2])) fun _ _=>?_
  cases H.out; exact rt i2 rfl () 2 [1,0] 1 (.cons (res_tmp rfl) .nil)
 refine WP.skip<|WP.seq<|wg (mpl_opn 2 rfl) fun z1300 h1301=>?_
 refine dg Tryz.checked.mixed 8 128<|mv0 rfl rfl<|Dv.nilpp h1293 rfl trivial rfl<|fp h1293 rfl trivial rfl fa95_0<|ld 3 rfl trivial rfl sc93 rfl rfl<|fb rfl trivial rfl fa55_1<|ld 4 rfl trivial rfl sc9 rfl rfl<|mv0 rfl rfl<|Dv.mup (vp:=fun p:OV=>eq p.1) (jj:=0) v1296 rfl trivial rfl rfl rfl rfl Tryz.underlying93 (keyOk_str Tryz.underlying9) (fun _=>pend_bits (by kernel_rfl))<|.fin<|WP.seq<|rg 1 0<|as0 rfl rfl<|.fin<|wg (mpl_add DDag.nn h1301 (pm 5 [0,1,2,3,4])) fun _ _=>?_
 refine wg (VView.shut (p:=p0_) (m:=(⟨mput a0.fdags a1.fRoom t1297.2⟩:VView)) (g1292.1,g1292.2) h1293 (pm 3 [1,0,2])) fun _ _=>?_
 cases H.out; exact rt i2 rfl () 2 [1,0] 1 (.cons (res_tmp rfl) .nil)
theorem r10_Of.c {k:Nat} {a0:RView} {a1:ByteArray} {r:RDag} (h:r10_Of.f k a0 a1 = some r):Pt Tryz.prog 58 [agg (RView.enc a0),vS a1] (agg (RDag.enc r)):=by
 unfold r10_Of.f at h
 refine pb Tryz.func58 Tryz.ntmps58 h fun R0 F H=>?_
 refine WP.seq<|rg 2 3<|Dv.box rfl trivial rfl cA nofun fun b1302=>al rfl trivial zc97 nofun fun b1303=>.fin<|WP.seqr H id (fun p1304:Int×Bool=>[(0,agg (RView.enc a0)),(1,vS a1),(2,eq (.pointer (some ⟨b1302,0,none⟩))),(4,eq (.pointer (some ⟨b1303,0,none⟩))),(5,vI p1304.1),(10,vB p1304.2)]) (fun p1304:Int×Bool=>[blk b1303 97 [vS (⟨#[]⟩:ByteArray),eq (.slice none 0 0)],blk b1302 44 (RView.enc a0)]++F) (fun p1304 H=>?_) (fun H=>?_)
 ·
  refine WP.seq<|rg 3 4<|mv0 rfl rfl<|Dv.bld (qs:=[vS a1,eq (.slice none 0 0)]) (css:=[[vS a1]]) rfl trivial Tryz.underlying97 pl97 z97 rfl ⟨(cells_one (one_eq rfl)),trivial⟩ rfl rfl<|sx 0 rfl trivial rfl rfl cA sz97 rfl rfl rfl nofun ?_
  refine .fin ?_
  cases H.out; exact r2 i2 rfl (.cons (res_wk (res_cells rfl Tryz.underlying97 rfl c97 (mem_at 0 rfl) rfl) (wk_agg (.cons wk_id (.cons wk_nil .nil)))) .nil)
 refine WP.seq<|rg 1 0<|as0 rfl rfl<|.fin<|WP.block<|wg (sg 2 [0,1] 0) fun _ _=>?_
 refine lp (fun j_ (p1311:Int)=>r10_Of.l0 k a0 a1 j_ p1311) 0 H (fun p1311=>[(0,agg (RView.enc a0)),(1,vS a1),(2,eq (.pointer (some ⟨b1302,0,none⟩))),(4,eq (.pointer (some ⟨b1303,0,none⟩))),(5,vI p1311)]) (fun p1311=>[blk b1303 97 [vS (⟨#[]⟩:ByteArray),eq (.slice none 0 0)],blk b1302 44 (RView.enc a0)]++F) ?_
 rintro j_ x1305 H
 rcases j_ with _ | j1310
 ·
  exact (Gets.no H).elim
 replace H:Gets (r10_Of.l0 k a0 a1 (j1310 + 1) x1305) _:=H
 rw [r10_Of.l0] at H
 refine WP.seq<|WP.seq<|rg 5 0<|mv0 rfl rfl<|fb rfl trivial rfl fa44_0<|ld 1 rfl trivial rfl sc42 rfl rfl<|Dv.lenl rfl trivial rfl Tryz.underlying42<|bn0 rfl rfl rfl run_lt<|.fin<|cd H rfl (fun _ H=>?_) (fun _ H=>?_)
 rotate_left
 ·
  refine WP.exit ?_
  have H:=H.out
  exact jn (x1305,decide (x1305 < (a0.fD.length:Int))) H
 refine WP.skip<|WP.seq<|WP.block<|WP.seq<|rg 8 0<|fb rfl trivial rfl fa44_0<|ld 1 rfl trivial rfl sc42 rfl rfl<|mv0 rfl rfl<|gr H fun g1307 H=>Dv.ixr rfl trivial rfl rfl Tryz.underlying42 Tryz.underlying97 c97 g1307.1 g1307.2<|fr rfl trivial rfl fa97_0 rfl<|ldR rfl trivial rfl sc9 rfl<|mv0 rfl rfl<|bn0 rfl rfl rfl run_seq<|.fin<|cd H rfl (fun _ H=>?_) (fun _ H=>?_)
 rotate_left
 ·
  exact WP.skip<|rg 3 0<|mv0 rfl rfl<|bn0 rfl rfl rfl run_add<|as0 rfl rfl<|.fin<|bk j1310 (w64 (x1305 + 1)) H
 refine WP.seq<|rg 6 32<|fb rfl trivial rfl fa44_0<|ld 1 rfl trivial rfl sc42 rfl rfl<|mv0 rfl rfl<|gr H fun g1309 H=>Dv.ixr rfl trivial rfl rfl Tryz.underlying42 Tryz.underlying97 c97 g1309.1 g1309.2<|ldsR rfl trivial rfl sg97 rfl<|sx 0 rfl trivial rfl rfl cA sz97 rfl rfl rfl nofun ?_
 refine .fin ?_
 have H:=H.outr
 cases H.out; exact r2 i2 rfl (.cons (res_cells rfl Tryz.underlying97 rfl c97 (mem_at 0 rfl) rfl) .nil)
theorem r10_Add.c {k:Nat} {a0:RView} {a1:Event} {r:RView×Int} (h:r10_Add.f k a0 a1 = some r):Pt Tryz.prog 20 [agg (RView.enc a0),agg (Event.enc a1)] (tup [agg (RView.enc r.1),vI r.2]):=by
 unfold r10_Add.f at h
 refine pb Tryz.func20 Tryz.ntmps20 h fun R0 F H=>?_
 refine WP.seq<|rg 4 7<|Dv.box rfl trivial rfl cA nofun fun b1312=>Dv.box rfl trivial rfl cA nofun fun b1313=>al rfl trivial zc44 nofun fun b1314=>as0 rfl rfl<|.fin<|WP.seq<|dg Tryz.checked.mixed 12 1536<|lds 2 rfl trivial rfl sg44 rfl rfl<|fb rfl trivial rfl fa55_1<|ld 1 rfl trivial rfl sc9 rfl rfl<|el H fun t1315 h1316 H=>cl rfl cal58 rfl (r10_Of.c h1316)<|lds 1 rfl trivial rfl sg55 rfl rfl<|el H fun t1317 h1318 H=>cl rfl cal57 rfl (r07_Add.c h1318)<|mv0 rfl rfl<|ex0 rfl trivial rfl rfl<|ex0 rfl trivial rfl rfl<|al rfl trivial zc97 (fun _=>(pend_in (fun _=>trivial) (pend_in (fun _=>trivial) (pend_in (fun _=>trivial) (pend_in (fun _=>trivial) (pend_in (fun _=>(mem_at 2 rfl)) (pend_in (fun _=>trivial) (pend_in (fun _=>(mem_at 2 rfl)) (pend_in (fun _=>trivial) (pend_in (fun _=>(mem_at 3 rfl)) pend_nil)))))))))) fun b1319=>sx 0 rfl trivial rfl rfl cA sz97 rfl rfl rfl (fun _=>(pend_in (fun _=>trivial) (pend_by (by kernel_rfl) (pend_by (by kernel_rfl) (pend_by (by kernel_rfl) (pend_by (by kernel_rfl) (pend_by (by kernel_rfl) (pend_by (by kernel_rfl) (pend_by (by kernel_rfl) (pend_by (by kernel_rfl) pend_nil)))))))))) ?_
 refine as0 rfl rfl<|.fin<|WP.seq<|WP.seq<|rg 2 0<|mv0 rfl rfl<|bn0 rfl rfl rfl run_ne<|.fin<|cd H rfl (fun _ H=>?_) (fun _ H=>?_)
 ·
  refine WP.seq<|rg 4 4<|lds 3 rfl trivial rfl sg44 rfl rfl<|mv0 rfl rfl<|sx 1 rfl trivial rfl rfl cA sz44 rfl rfl rfl nofun ?_
  refine as0 rfl rfl<|.fin ?_
  cases H.out; exact r4 i2 rfl (.cons (res_cells rfl Tryz.underlying44 rfl c44 (mem_at 1 rfl) rfl) (.cons (res_tmp rfl) .nil))
 refine WP.skip<|WP.seq<|rg 1 0<|as0 rfl rfl<|.fin<|WP.seq<|rg 1 0<|as0 rfl rfl<|.fin<|WP.seqn H (fun q1347:(Bool×Int×Bool×(List RDag))×OV=>q1347.1) (fun q1347:(Bool×Int×Bool×(List RDag))×OV=>[(0,agg (RView.enc a0)),(1,agg (Event.enc a1)),(2,eq (.pointer (some ⟨b1312,0,none⟩))),(3,eq (.pointer (some ⟨b1313,0,none⟩))),(4,eq (.pointer (some ⟨b1314,0,none⟩))),(5,vI 0),(6,eq (.pointer (some ⟨b1319,0,none⟩))),(7,vI t1317.2),(8,eq q1347.2.1),(9,vB q1347.1.1),(10,vI q1347.1.2.1),(21,vB (t1317.2 != 0)),(28,vB q1347.1.2.2.1)]) (fun q1347:(Bool×Int×Bool×(List RDag))×OV=>[blk b1319 97 (RDag.enc t1317.1),blk b1314 44 [eq (.slice none 0 0)],blk b1313 55 (Event.enc a1),blk b1312 44 (RView.enc a0),own RDag.K q1347.2.1 q1347.1.2.2.2]++F) (fun q1347 H=>?_) (fun H=>?_)
 ·
  obtain ⟨p1321,v1322⟩:=q1347
  refine WP.seq<|WP.seq<|rg 2 0<|mv0 rfl rfl<|un0 rfl rfl (run_not _)<|.fin<|cd H rfl (fun _ H=>?_) (fun _ H=>?_)
  rotate_left
  ·
   refine WP.skip<|WP.seq<|rg 4 4<|mv0 rfl rfl<|Dv.bld (qs:=[eq v1322.1]) (css:=[[eq v1322.1]]) rfl trivial Tryz.underlying44 pl44 z44 rfl ⟨(cells_one one_ov),trivial⟩ rfl rfl<|sx 1 rfl trivial rfl rfl cA sz44 rfl rfl rfl nofun ?_
   refine as0 rfl rfl<|.fin<|WP.gh (gh_frz (E':=[(4,eq (.pointer (some ⟨b1314,0,none⟩))),(5,vI 0)]) (l':=[blk b1319 97 (RDag.enc t1317.1),blk b1314 44 [sl RDag.K p1321.2.2.2],blk b1313 55 (Event.enc a1),blk b1312 44 (RView.enc a0)]++F) 4 rfl (cve_cons rfl cv_id (cve_cons rfl cv_id cve_nil)) (all2_app (.cons cva_id (.cons (cva_blk (.cons cv_eq .nil)) (.cons cva_id (.cons cva_id .nil)))) fun _=>cva_id)) (fun _ _=>?_)
   cases H.out; exact r4 i2 rfl (.cons (res_cells rfl Tryz.underlying44 rfl c44 (mem_at 1 rfl) rfl) (.cons (res_tmp rfl) .nil))
  refine rg 5 8<|mv0 rfl rfl<|lds 0 rfl trivial rfl sg97 rfl rfl<|Dv.lit RDag.K ([t1317.1]:List RDag) (css:=[RDag.enc t1317.1]) rfl trivial Tryz.underlying42 Tryz.underlying97 c97 z97 rfl (by decide) (by decide) rfl ⟨(cells_agg (RDag.K.one _)),trivial⟩ rfl rfl rfl<|gr H fun g1324 H=>ap RDag.K 4 ([t1317.1]:List RDag) src_sl Tryz.underlying42 (.inr ⟨_,Tryz.underlying42⟩) inf97 g1324 nofun fun v1325=>?_
  refine as0 rfl rfl<|.fin<|WP.seq<|rg 4 4<|mv0 rfl rfl<|Dv.bld (qs:=[eq v1325.1]) (css:=[[eq v1325.1]]) rfl trivial Tryz.underlying44 pl44 z44 rfl ⟨(cells_one one_ov),trivial⟩ rfl rfl<|sx 1 rfl trivial rfl rfl cA sz44 rfl rfl rfl nofun ?_
  refine as0 rfl rfl<|.fin<|WP.gh (gh_frz (E':=[(4,eq (.pointer (some ⟨b1314,0,none⟩))),(5,vI 0)]) (l':=[blk b1319 97 (RDag.enc t1317.1),blk b1314 44 [sl RDag.K (p1321.2.2.2++([t1317.1]:List RDag))],blk b1313 55 (Event.enc a1),blk b1312 44 (RView.enc a0)]++F) 4 rfl (cve_cons rfl cv_id (cve_cons rfl cv_id cve_nil)) (all2_app (.cons cva_id (.cons (cva_blk (.cons cv_eq .nil)) (.cons cva_id (.cons cva_id .nil)))) fun _=>cva_id)) (fun _ _=>?_)
  cases H.out; exact r4 i2 rfl (.cons (res_cells rfl Tryz.underlying44 rfl c44 (mem_at 1 rfl) rfl) (.cons (res_tmp rfl) .nil))
 refine WP.seq<|rg 1 0<|as0 rfl rfl<|.fin<|WP.block<|wg (st_nil RDag.K none) fun _ _=>?_
 refine wg (sg 5 [1,2,3,4,0] 0) fun _ _=>?_
 refine lp (fun j_ (p1346:Bool×Int×(List RDag)×OV)=>r10_Add.l0 k a0 a1 t1317 j_ p1346.1 p1346.2.1 p1346.2.2.1) (false,0,([]:List RDag),nilV) H (fun p1346=>[(0,agg (RView.enc a0)),(1,agg (Event.enc a1)),(2,eq (.pointer (some ⟨b1312,0,none⟩))),(3,eq (.pointer (some ⟨b1313,0,none⟩))),(4,eq (.pointer (some ⟨b1314,0,none⟩))),(5,vI 0),(6,eq (.pointer (some ⟨b1319,0,none⟩))),(7,vI t1317.2),(8,eq p1346.2.2.2.1),(9,vB p1346.1),(10,vI p1346.2.1),(21,vB (t1317.2 != 0))]) (fun p1346=>[blk b1319 97 (RDag.enc t1317.1),blk b1314 44 [eq (.slice none 0 0)],blk b1313 55 (Event.enc a1),blk b1312 44 (RView.enc a0),own RDag.K p1346.2.2.2.1 p1346.2.2.1]++F) ?_
 rintro j_ ⟨x1326,x1327,x1328,v1329⟩ H
 rcases j_ with _ | j1345
 ·
  exact (Gets.no H).elim
 replace H:Gets (r10_Add.l0 k a0 a1 t1317 (j1345 + 1) x1326 x1327 x1328) _:=H
 rw [r10_Add.l0] at H
 refine WP.seq<|WP.seq<|rg 5 0<|mv0 rfl rfl<|fb rfl trivial rfl fa44_0<|ld 3 rfl trivial rfl sc42 rfl rfl<|Dv.lenl rfl trivial rfl Tryz.underlying42<|bn0 rfl rfl rfl run_lt<|.fin<|cd H rfl (fun _ H=>?_) (fun _ H=>?_)
 rotate_left
 ·
  refine WP.exit ?_
  have H:=H.out
  exact jn ((x1326,x1327,decide (x1327 < (a0.fD.length:Int)),x1328),v1329) H
 refine WP.skip<|WP.seq<|WP.block<|WP.seqn H (fun q1344:(Bool×Bool×(List RDag))×OV=>q1344.1) (fun q1344:(Bool×Bool×(List RDag))×OV=>[(0,agg (RView.enc a0)),(1,agg (Event.enc a1)),(2,eq (.pointer (some ⟨b1312,0,none⟩))),(3,eq (.pointer (some ⟨b1313,0,none⟩))),(4,eq (.pointer (some ⟨b1314,0,none⟩))),(5,vI 0),(6,eq (.pointer (some ⟨b1319,0,none⟩))),(7,vI t1317.2),(8,eq q1344.2.1),(9,vB q1344.1.1),(10,vI x1327),(21,vB (t1317.2 != 0)),(28,vB (decide (x1327 < (a0.fD.length:Int)))),(43,vB q1344.1.2.1)]) (fun q1344:(Bool×Bool×(List RDag))×OV=>[blk b1319 97 (RDag.enc t1317.1),blk b1314 44 [eq (.slice none 0 0)],blk b1313 55 (Event.enc a1),blk b1312 44 (RView.enc a0),own RDag.K q1344.2.1 q1344.1.2.2]++F) (fun q1344 H=>?_) (fun H=>?_)
 ·
  obtain ⟨p1331,v1332⟩:=q1344
  refine WP.seq<|dg Tryz.checked.mixed 9 0<|fb rfl trivial rfl fa44_0<|ld 3 rfl trivial rfl sc42 rfl rfl<|mv0 rfl rfl<|gr H fun g1333 H=>Dv.ixr rfl trivial rfl rfl Tryz.underlying42 Tryz.underlying97 c97 g1333.1 g1333.2<|fr rfl trivial rfl fa97_0 rfl<|ldR rfl trivial rfl sc9 rfl<|fb rfl trivial rfl fa55_1<|ld 2 rfl trivial rfl sc9 rfl rfl<|bn0 rfl rfl rfl run_sne<|.fin<|cd H rfl (fun _ H=>?_) (fun _ H=>?_)
  rotate_left
  ·
   exact WP.skip<|rg 3 0<|mv0 rfl rfl<|bn0 rfl rfl rfl run_add<|as0 rfl rfl<|.fin<|bk j1345 (p1331.1,w64 (x1327 + 1),p1331.2.2,v1332) H
  refine rg 9 128<|mv0 rfl rfl<|fb rfl trivial rfl fa44_0<|ld 3 rfl trivial rfl sc42 rfl rfl<|mv0 rfl rfl<|gr H fun g1335 H=>Dv.ixr rfl trivial rfl rfl Tryz.underlying42 Tryz.underlying97 c97 g1335.1 g1335.2<|ldsR rfl trivial rfl sg97 rfl<|Dv.lit RDag.K ([RDag.K.at a0.fD x1327]:List RDag) (css:=[RDag.enc (RDag.K.at a0.fD x1327)]) rfl trivial Tryz.underlying42 Tryz.underlying97 c97 z97 rfl (by decide) (by decide) rfl ⟨(cells_agg (RDag.K.one _)),trivial⟩ rfl rfl rfl<|gr H fun g1336 H=>ap RDag.K 4 ([RDag.K.at a0.fD x1327]:List RDag) src_sl Tryz.underlying42 (.inr ⟨_,Tryz.underlying42⟩) inf97 g1336 nofun fun v1337=>?_
  exact as0 rfl rfl<|.fin<|rg 3 0<|mv0 rfl rfl<|bn0 rfl rfl rfl run_add<|as0 rfl rfl<|.fin<|bk j1345 (p1331.1,w64 (x1327 + 1),p1331.2.2++([RDag.K.at a0.fD x1327]:List RDag),v1337) H
 refine WP.seq<|dg Tryz.checked.mixed 13 0<|mv0 rfl rfl<|un0 rfl rfl (run_not _)<|mv0 rfl rfl ?_
 cases c1338:!x1326
 ·
  have H:=H.cf c1338
  refine sk rfl rfl<|sk rfl rfl<|sk rfl rfl<|sk rfl rfl<|sk rfl rfl<|sk rfl rfl<|sk rfl rfl<|sk rfl rfl<|sk rfl rfl<|pf0 rfl rfl rfl<|.fin<|WP.cond rfl nofun (fun _=>?_)
  refine WP.skip ?_
  have H:=H.out
  exact jn ((x1326,false,x1328),v1329) H
 have H:=H.ct c1338
 refine fb rfl (gg rfl) rfl fa55_1<|ld 2 rfl (gg rfl) rfl sc9 rfl rfl<|fb rfl (gg rfl) rfl fa44_0<|ld 3 rfl (gg rfl) rfl sc42 rfl rfl<|mvg rfl rfl rfl<|gr H fun g1339 H=>Dv.ixr rfl (gg rfl) rfl rfl Tryz.underlying42 Tryz.underlying97 c97 g1339.1 g1339.2<|fr rfl (gg rfl) rfl fa97_0 rfl<|ldR rfl (gg rfl) rfl sc9 rfl<|bng rfl rfl rfl rfl run_sle<|pt0 rfl rfl rfl<|.fin<|cd H rfl (fun _ H=>?_) (fun _ H=>?_)
 rotate_left
 ·
  refine WP.skip ?_
  have H:=H.out
  exact jn ((x1326,!sLt ((RDag.K.at a0.fD x1327).fRoom) a1.fRoom,x1328),v1329) H
 refine WP.seq<|rg 5 8<|mv0 rfl rfl<|lds 0 rfl trivial rfl sg97 rfl rfl<|Dv.lit RDag.K ([t1317.1]:List RDag) (css:=[RDag.enc t1317.1]) rfl trivial Tryz.underlying42 Tryz.underlying97 c97 z97 rfl (by decide) (by decide) rfl ⟨(cells_agg (RDag.K.one _)),trivial⟩ rfl rfl rfl<|gr H fun g1341 H=>ap RDag.K 4 ([t1317.1]:List RDag) src_sl Tryz.underlying42 (.inr ⟨_,Tryz.underlying42⟩) inf97 g1341 nofun fun v1342=>?_
 refine as0 rfl rfl<|.fin<|rg 1 0<|as0 rfl rfl<|.fin ?_
 have H:=H.out
 exact jn ((true,!sLt ((RDag.K.at a0.fD x1327).fRoom) a1.fRoom,x1328++([t1317.1]:List RDag)),v1342) H
theorem r10_Build.c {k:Nat} {a0:List Event} {r:RView} (h:r10_Build.f k a0 = some r):Pt Tryz.prog 64 [sl Event.K a0] (agg (RView.enc r)):=by
 unfold r10_Build.f at h
 refine pb Tryz.func64 Tryz.ntmps64 h fun R0 F H=>?_
 refine WP.seq<|rg 1 1<|al rfl trivial zc44 nofun fun b1348=>.fin<|WP.seq<|rg 1 1<|al rfl trivial zc44 nofun fun b1349=>.fin<|WP.seqn H id (fun p1350:Int×Bool×(List RDag)=>[(0,sl Event.K a0),(2,eq (.pointer (some ⟨b1348,0,none⟩))),(3,eq (.pointer (some ⟨b1349,0,none⟩))),(4,vI p1350.1),(10,vB p1350.2.1)]) (fun p1350:Int×Bool×(List RDag)=>[blk b1349 44 [sl RDag.K p1350.2.2],blk b1348 44 [eq (.slice none 0 0)]]++F) (fun p1350 H=>?_) (fun H=>?_)
 ·
  refine WP.seq<|rg 2 2<|lds 0 rfl trivial rfl sg44 rfl rfl<|sx 1 rfl trivial rfl rfl cA sz44 rfl rfl rfl nofun ?_
  refine .fin ?_
  cases H.out; exact r2 i2 rfl (.cons (res_cells rfl Tryz.underlying44 rfl c44 (mem_at 1 rfl) rfl) .nil)
 refine WP.seq<|rg 1 0<|as0 rfl rfl<|.fin<|WP.block<|WP.gh (gh_wk (E':=[(0,sl Event.K a0),(2,eq (.pointer (some ⟨b1348,0,none⟩))),(3,eq (.pointer (some ⟨b1349,0,none⟩))),(4,vI 0)]) (l':=[blk b1349 44 [sl RDag.K ([]:List RDag)],blk b1348 44 [eq (.slice none 0 0)]]++F) (wke_cons rfl wk_id (wke_cons rfl wk_id (wke_cons rfl wk_id (wke_cons rfl wk_id wke_nil)))) (all2_app (.cons (wka_blk (.cons wk_nil .nil)) (.cons wka_id .nil)) fun _=>wka_id)) (fun _ _=>?_)
 refine wg (sg 2 [0,1] 0) fun _ _=>?_
 refine lp (fun j_ (p1359:Int×(List RDag))=>r10_Build.l0 k a0 j_ p1359.1 p1359.2) (0,([]:List RDag)) H (fun p1359=>[(0,sl Event.K a0),(2,eq (.pointer (some ⟨b1348,0,none⟩))),(3,eq (.pointer (some ⟨b1349,0,none⟩))),(4,vI p1359.1)]) (fun p1359=>[blk b1349 44 [sl RDag.K p1359.2],blk b1348 44 [eq (.slice none 0 0)]]++F) ?_
 rintro j_ ⟨x1351,x1352⟩ H
 rcases j_ with _ | j1358
 ·
  exact (Gets.no H).elim
 replace H:Gets (r10_Build.l0 k a0 (j1358 + 1) x1351 x1352) _:=H
 rw [r10_Build.l0] at H
 refine WP.seq<|WP.seq<|rg 4 0<|mv0 rfl rfl<|mv0 rfl rfl<|Dv.lenl rfl trivial rfl Tryz.underlying28<|bn0 rfl rfl rfl run_lt<|.fin<|cd H rfl (fun _ H=>?_) (fun _ H=>?_)
 rotate_left
 ·
  refine WP.exit ?_
  have H:=H.out
  exact jn (x1351,decide (x1351 < (a0.length:Int)),x1352) H
 refine WP.skip<|WP.seq<|WP.block<|WP.seq<|dg Tryz.checked.mixed 12 1536<|lds 0 rfl trivial rfl sg44 rfl rfl<|mv0 rfl rfl<|mv0 rfl rfl<|gr H fun g1354 H=>Dv.ixr rfl trivial rfl rfl Tryz.underlying28 Tryz.underlying55 c55 g1354.1 g1354.2<|ldsR rfl trivial rfl sg55 rfl<|el H fun t1355 h1356 H=>cl rfl cal20 rfl (r10_Add.c h1356)<|mv0 rfl rfl<|ex0 rfl trivial rfl rfl<|ex0 rfl trivial rfl rfl<|al rfl trivial zc44 (fun _=>(pend_in (fun _=>trivial) (pend_in (fun _=>trivial) (pend_in (fun _=>trivial) (pend_in (fun _=>trivial) (pend_in (fun _=>trivial) (pend_in (fun _=>trivial) (pend_in (fun _=>trivial) (pend_in (fun _=>trivial) (pend_in (fun _=>(mem_at 1 rfl)) pend_nil)))))))))) fun b1357=>sx 0 rfl trivial rfl rfl cA sz44 rfl rfl rfl (fun _=>(pend_in (fun _=>trivial) (pend_by (by kernel_rfl) (pend_by (by kernel_rfl) (pend_by (by kernel_rfl) (pend_by (by kernel_rfl) (pend_by (by kernel_rfl) (pend_by (by kernel_rfl) (pend_by (by kernel_rfl) (pend_by (by kernel_rfl) pend_nil)))))))))) ?_
 refine as0 rfl rfl<|.fin<|rg 2 2<|lds 0 rfl trivial rfl sg44 rfl rfl<|sx 1 rfl trivial rfl rfl cA sz44 rfl rfl rfl nofun ?_
 refine .fin<|rg 3 0<|mv0 rfl rfl<|bn0 rfl rfl rfl run_add<|as0 rfl rfl<|.fin<|ng (sg 3 [0,1,2] 1) fun _ _=>?_
 exact bk j1358 (w64 (x1351 + 1),t1355.1.fD) H
theorem w18_open.c {k:Nat} {r:(Option VView)×RView} (h:w18_open.f k = some r):Tr Tryz.prog 25 [] [] (γ:=OV) (fun _=>True) (fun g=>tup [eq g.1,agg (RView.enc r.2)]) (fun g=>[optO VView.O g r.1]):=by
 unfold w18_open.f at h
 refine Tr.body Tryz.func25 (c:=_) rfl Tryz.ntmps25 (Nat.le_of_ble_eq_true rfl) fun R0 F=>?_
 replace h:=Gets.of h
 have H:=h
 clear h
 refine WP.seq<|rg 2 2<|as0 rfl rfl<|al rfl trivial zc44 nofun fun b1360=>.fin<|WP.seq<|rg 2 1<|el H fun t1361 h1362 H=>cx 1 [0] cal10 (view_New.c h1362) nofun fun g1363 _=>?_
 refine as0 rfl rfl<|.fin<|WP.seq<|WP.seq<|rg 2 0<|mv0 rfl rfl<|Dv.peq0 VView.nn rfl trivial rfl rfl Tryz.underlying26 (mem_at 0 rfl)<|.fin<|WP.cond rfl nofun (fun _=>?_)
 refine WP.skip<|WP.seq<|rg 1 0<|as0 rfl rfl<|.fin<|WP.seqn H (fun q1403:(Int×Bool×(List Event))×OV=>q1403.1) (fun q1403:(Int×Bool×(List Event))×OV=>[(0,eq (.pointer none)),(1,eq (.pointer (some ⟨b1360,0,none⟩))),(2,eq g1363.1),(3,eq q1403.2.1),(4,vI q1403.1.1),(9,vB false),(12,vB q1403.1.2.1)]) (fun q1403:(Int×Bool×(List Event))×OV=>[blk b1360 44 [eq (.slice none 0 0)],VView.O g1363 t1361,own Event.K q1403.2.1 q1403.1.2.2]++F) (fun q1403 H=>?_) (fun H=>?_)
 ·
  obtain ⟨p1365,v1366⟩:=q1403
  refine WP.seqr H id (fun p1367:Int×Bool×VView=>[(0,eq (.pointer none)),(1,eq (.pointer (some ⟨b1360,0,none⟩))),(2,eq g1363.1),(3,eq v1366.1),(4,vI p1365.1),(6,vI p1367.1),(9,vB false),(12,vB p1365.2.1),(32,vB p1367.2.1)]) (fun p1367:Int×Bool×VView=>[blk b1360 44 [eq (.slice none 0 0)],VView.O g1363 p1367.2.2,own Event.K v1366.1 p1365.2.2]++F) (fun p1367 H=>?_) (fun H=>?_)
  ·
   refine WP.seq<|rg 5 16<|mv0 rfl rfl<|mv0 rfl rfl<|Dv.gh (gh_frz (E':=[(0,eq (.pointer none)),(1,eq (.pointer (some ⟨b1360,0,none⟩))),(2,eq g1363.1),(3,sl Event.K p1365.2.2),(4,vI p1365.1),(6,vI p1367.1),(9,vB false),(12,vB p1365.2.1),(32,vB p1367.2.1),(43,eq g1363.1),(44,sl Event.K p1365.2.2)]) (l':=[blk b1360 44 [eq (.slice none 0 0)],VView.O g1363 p1367.2.2]++F) 2 rfl (cve_cons rfl cv_id (cve_cons rfl cv_id (cve_cons rfl cv_id (cve_cons rfl cv_eq (cve_cons rfl cv_id (cve_cons rfl cv_id (cve_cons rfl cv_id (cve_cons rfl cv_id (cve_cons rfl cv_id (cve_cons rfl cv_id (cve_cons rfl cv_eq cve_nil))))))))))) (all2_app (.cons cva_id (.cons cva_id .nil)) fun _=>cva_id)) (fun _ _=>?_)
   refine el H fun t1368 h1369 H=>cl rfl cal64 rfl (r10_Build.c h1369)<|as0 rfl rfl<|sx 0 rfl trivial rfl rfl cA sz44 rfl rfl rfl nofun ?_
   refine .fin ?_
   obtain rfl:=Gets.out H
   exact rt i2 rfl g1363 2 [0,1] 1 (.cons (res_tmp rfl) (.cons (res_cells rfl Tryz.underlying44 rfl c44 (mem_at 0 rfl) rfl) .nil))
  refine WP.seq<|rg 1 0<|as0 rfl rfl<|.fin<|WP.block<|wg (sg 3 [0,1,2] 0) fun _ _=>?_
  refine lp (fun j_ (p1379:Int×VView)=>w18_open.l0 k p1365 j_ p1379.1 p1379.2) (0,t1361) H (fun p1379=>[(0,eq (.pointer none)),(1,eq (.pointer (some ⟨b1360,0,none⟩))),(2,eq g1363.1),(3,eq v1366.1),(4,vI p1365.1),(6,vI p1379.1),(9,vB false),(12,vB p1365.2.1)]) (fun p1379=>[blk b1360 44 [eq (.slice none 0 0)],VView.O g1363 p1379.2,own Event.K v1366.1 p1365.2.2]++F) ?_
  rintro j_ ⟨x1370,x1371⟩ H
  rcases j_ with _ | j1378
  ·
   exact (Gets.no H).elim
  replace H:Gets (w18_open.l0 k p1365 (j1378 + 1) x1370 x1371) _:=H
  rw [w18_open.l0] at H
  refine WP.seq<|WP.seq<|rg 4 0<|mv0 rfl rfl<|mv0 rfl rfl<|Dv.lenw rfl trivial rfl (mem_at 2 rfl) Tryz.underlying28<|bn0 rfl rfl rfl run_lt<|.fin<|cd H rfl (fun _ H=>?_) (fun _ H=>?_)
  rotate_left
  ·
   refine WP.exit ?_
   have H:=H.out
   exact jn (x1370,decide (x1370 < (p1365.2.2.length:Int)),x1371) H
  refine WP.skip<|WP.seq<|WP.block<|WP.seq<|rg 7 32<|mv0 rfl rfl<|mv0 rfl rfl<|mv0 rfl rfl<|gr H fun g1373 H=>?_
  have h1374:x1370.toNat < p1365.2.2.length:=idx_lt g1373
  refine Dv.ixw rfl trivial rfl (mem_at 2 rfl) rfl Tryz.underlying28 Tryz.underlying55 c55 g1373.1 g1373.2<|Dv.ldws (j:=x1370.toNat) (f:=0) rfl trivial rfl (mem_at 2 rfl) h1374 Tryz.underlying55 rfl c55 (Nat.le_of_ble_eq_true rfl)<|el H fun t1375 h1376 H=>cx 3 [1,0,2] cal19 (view_View_Add.c h1376 (p0_:=g1363)) nofun fun _ _=>?_
  refine bn0 rfl rfl rfl run_ne<|.fin<|cd H rfl (fun _ H=>?_) (fun _ H=>?_)
  rotate_left
  ·
   refine WP.skip<|rg 3 0<|mv0 rfl rfl<|bn0 rfl rfl rfl run_add<|as0 rfl rfl<|.fin<|ng (sg 3 [1,0,2] 0) fun _ _=>?_
   exact bk j1378 (w64 (x1370 + 1),t1375.2) H
  refine WP.seq<|rg 3 4<|Dv.bld (qs:=[eq (.slice none 0 0)]) (css:=[]) rfl trivial Tryz.underlying44 pl44 z44 rfl trivial rfl rfl<|as0 rfl rfl<|sx 1 rfl trivial rfl rfl cA sz44 rfl rfl rfl nofun ?_
  refine .fin<|wg (st_nilP (O:=VView.O)) fun _ _=>?_
  have H:=H.outr
  obtain rfl:=Gets.out H
  exact rt i2 rfl nilP 4 [1,2,3,0] 3 (.cons (res_tmp rfl) (.cons (res_wk (res_cells rfl Tryz.underlying44 rfl c44 (mem_at 2 rfl) rfl) (wk_agg (.cons wk_nil .nil))) .nil))
 refine WP.seq<|rg 1 0<|as0 rfl rfl<|.fin<|WP.block<|wg (st_nil Event.K none) fun _ _=>?_
 refine wg (sg 3 [2,1,0] 0) fun _ _=>?_
 refine lp (fun j_ (p1402:Int×(List Event)×OV)=>w18_open.l1 k j_ p1402.1 p1402.2.1) (0,([]:List Event),nilV) H (fun p1402=>[(0,eq (.pointer none)),(1,eq (.pointer (some ⟨b1360,0,none⟩))),(2,eq g1363.1),(3,eq p1402.2.2.1),(4,vI p1402.1),(9,vB false)]) (fun p1402=>[blk b1360 44 [eq (.slice none 0 0)],VView.O g1363 t1361,own Event.K p1402.2.2.1 p1402.2.1]++F) ?_
 rintro j_ ⟨x1380,x1381,v1382⟩ H
 rcases j_ with _ | j1401
 ·
  exact (Gets.no H).elim
 replace H:Gets (w18_open.l1 k (j1401 + 1) x1380 x1381) _:=H
 rw [w18_open.l1] at H
 refine WP.seq<|WP.seq<|rg 2 0<|mv0 rfl rfl<|bn0 rfl rfl rfl run_lt<|.fin<|cd H rfl (fun _ H=>?_) (fun _ H=>?_)
 rotate_left
 ·
  refine WP.exit ?_
  have H:=H.out
  exact jn ((x1380,decide (x1380 < 2),x1381),v1382) H
 refine WP.skip<|WP.seqn H (fun q1400:(Int×Bool×(List Event))×OV=>q1400.1) (fun q1400:(Int×Bool×(List Event))×OV=>[(0,eq (.pointer none)),(1,eq (.pointer (some ⟨b1360,0,none⟩))),(2,eq g1363.1),(3,eq q1400.2.1),(4,vI x1380),(5,vI q1400.1.1),(9,vB false),(12,vB (decide (x1380 < 2))),(16,vB q1400.1.2.1)]) (fun q1400:(Int×Bool×(List Event))×OV=>[blk b1360 44 [eq (.slice none 0 0)],VView.O g1363 t1361,own Event.K q1400.2.1 q1400.1.2.2]++F) (fun q1400 H=>?_) (fun H=>?_)
 ·
  obtain ⟨p1384,v1385⟩:=q1400
  exact rg 3 0<|mv0 rfl rfl<|bn0 rfl rfl rfl run_add<|as0 rfl rfl<|.fin<|bk j1401 (w64 (x1380 + 1),p1384.2.2,v1385) H
 refine WP.block<|WP.seq<|rg 1 0<|as0 rfl rfl<|.fin<|WP.block<|wg (sg 3 [0,1,2] 0) fun _ _=>?_
 refine lp (fun j_ (p1399:Int×(List Event)×OV)=>w18_open.l2 k x1380 j_ p1399.1 p1399.2.1) (0,x1381,v1382) H (fun p1399=>[(0,eq (.pointer none)),(1,eq (.pointer (some ⟨b1360,0,none⟩))),(2,eq g1363.1),(3,eq p1399.2.2.1),(4,vI x1380),(5,vI p1399.1),(9,vB false),(12,vB (decide (x1380 < 2)))]) (fun p1399=>[blk b1360 44 [eq (.slice none 0 0)],VView.O g1363 t1361,own Event.K p1399.2.2.1 p1399.2.1]++F) ?_
 rintro j_ ⟨x1386,x1387,v1388⟩ H
 rcases j_ with _ | j1398
 ·
  exact (Gets.no H).elim
 replace H:Gets (w18_open.l2 k x1380 (j1398 + 1) x1386 x1387) _:=H
 rw [w18_open.l2] at H
 refine WP.seq<|WP.seq<|rg 2 0<|mv0 rfl rfl<|bn0 rfl rfl rfl run_lt<|.fin<|cd H rfl (fun _ H=>?_) (fun _ H=>?_)
 rotate_left
 ·
  refine WP.exit ?_
  have H:=H.out
  exact jn ((x1386,decide (x1386 < 9),x1387),v1388) H
 refine WP.skip<|WP.seq<|WP.block<|rg 11 512<|mv0 rfl rfl<|mv0 rfl rfl<|el H fun t1390 h1391 H=>cl rfl cal63 rfl (r01_EventOf.c h1391)<|mv0 rfl rfl<|el H fun t1392 h1393 H=>cl rfl cal26 rfl (r01_RoomOf.c h1393)<|mv0 rfl rfl<|el H fun t1394 h1395 H=>cl rfl cal27 rfl (r01_UserOf.c h1395)<|Dv.bld (qs:=[vS t1390,vS t1392,eq (.slice none 0 0),vS (⟨#[]⟩:ByteArray),vS t1394,vI 1]) (css:=[[vS t1390],[vS t1392],[vS t1394],[vI 1]]) rfl trivial Tryz.underlying55 pl55 z55 rfl ⟨(cells_one (one_eq rfl)),⟨(cells_one (one_eq rfl)),⟨(cells_one (one_eq rfl)),⟨(cells_one (one_eq rfl)),trivial⟩⟩⟩⟩ rfl rfl<|Dv.gh (gh_wk (E':=[(0,eq (.pointer none)),(1,eq (.pointer (some ⟨b1360,0,none⟩))),(2,eq g1363.1),(3,eq v1388.1),(4,vI x1380),(5,vI x1386),(9,vB false),(12,vB (decide (x1380 < 2))),(16,vB (decide (x1386 < 9))),(19,eq v1388.1),(26,agg [vS t1390,vS t1392,sl strK ([]:List ByteArray),vS (⟨#[]⟩:ByteArray),vS t1394,vI 1])]) (l':=[blk b1360 44 [eq (.slice none 0 0)],VView.O g1363 t1361,own Event.K v1388.1 x1387]++F) (wke_cons rfl wk_id (wke_cons rfl wk_id (wke_cons rfl wk_id (wke_cons rfl wk_id (wke_cons rfl wk_id (wke_cons rfl wk_id (wke_cons rfl wk_id (wke_cons rfl wk_id (wke_cons rfl wk_id (wke_cons rfl wk_id (wke_cons rfl (wk_agg (.cons wk_id (.cons wk_id (.cons wk_nil (.cons wk_id (.cons wk_id (.cons wk_id .nil))))))) wke_nil))))))))))) (all2_app (.cons wka_id (.cons wka_id (.cons wka_id .nil))) fun _=>wka_id)) (fun _ _=>?_)
 refine Dv.lit Event.K ([(⟨t1390,t1392,([]:List ByteArray),(⟨#[]⟩:ByteArray),t1394,1⟩:Event)]:List Event) (css:=[[vS t1390,vS t1392,sl strK ([]:List ByteArray),vS (⟨#[]⟩:ByteArray),vS t1394,vI 1]]) rfl trivial Tryz.underlying28 Tryz.underlying55 c55 z55 rfl (by decide) (by decide) rfl ⟨(cells_agg (ones_cons (one_eq rfl) (ones_cons (one_eq rfl) (ones_cons one_sl (ones_cons (one_eq rfl) (ones_cons (one_eq rfl) (ones_cons (one_eq rfl) ones_nil))))))),trivial⟩ rfl rfl rfl<|gr H fun g1396 H=>ap Event.K 2 ([(⟨t1390,t1392,([]:List ByteArray),(⟨#[]⟩:ByteArray),t1394,1⟩:Event)]:List Event) src_sl Tryz.underlying28 (.inr ⟨_,Tryz.underlying28⟩) inf55 g1396 nofun fun v1397=>?_
 exact as0 rfl rfl<|.fin<|rg 3 0<|mv0 rfl rfl<|bn0 rfl rfl rfl run_add<|as0 rfl rfl<|.fin<|bk j1398 (w64 (x1386 + 1),x1387++([(⟨t1390,t1392,([]:List ByteArray),(⟨#[]⟩:ByteArray),t1394,1⟩:Event)]:List Event),v1397) H
theorem w18_lives.c {k:Nat} {r:Bool} (h:w18_lives.f k = some r):Pt Tryz.prog 21 [] (vB r):=by
 unfold w18_lives.f at h
 refine pb Tryz.func21 Tryz.ntmps21 h fun R0 F H=>?_
 refine WP.seq<|rg 1 0<|as0 rfl rfl<|.fin<|WP.seq<|rg 7 81<|el H fun t1404 h1405 H=>cx 0 [] cal25 (w18_open.c h1405) nofun fun g1406 _=>?_
 refine mv0 rfl rfl<|ex0 rfl trivial rfl rfl<|ex0 rfl trivial rfl rfl<|al rfl trivial zc44 nofun fun b1407=>as0 rfl rfl<|sx 0 rfl trivial rfl rfl cA sz44 rfl rfl rfl nofun ?_
 refine .fin<|WP.seq<|rg 2 1<|el H fun t1408 h1409 H=>cx 2 [0,1] cal9 (w18_begin.c h1409) nofun fun g1410 _=>?_
 refine as0 rfl rfl<|.fin<|WP.seq<|WP.seq<|rg 6 0<|mv0 rfl rfl<|Dv.oeq0 (fun _=>VView.nn) rfl trivial rfl rfl Tryz.underlying26 (mem_at 2 rfl)<|mv0 rfl rfl ?_
 rcases bem t1404.1.isNone with c1411 | c1411
 rotate_left
 ·
  have H:=H.ct c1411
  refine Dv.gh (gh_sh 15 c1411 rfl) (fun _ _=>?_)
  refine Dv.gh (gh_sh 16 c1411 rfl) (fun _ _=>?_)
  refine sk rfl rfl<|sk rfl rfl<|pt0 rfl rfl rfl<|.fin<|WP.cond rfl (fun _=>?_) nofun
  refine WP.seq<|rg 1 0<|as0 rfl rfl<|.fin ?_
  cases H.out; exact r3 i2 rfl (.cons (res_tmp rfl) .nil)
 have H:=H.cf c1411
 refine Dv.gh (gh_sh 15 c1411 rfl) (fun _ _=>?_)
 refine Dv.gh (gh_sh 16 c1411 rfl) (fun _ _=>?_)
 refine mvg rfl rfl rfl<|Dv.oeq0 (fun _=>SSnd.nn) rfl (gg rfl) rfl rfl Tryz.underlying24 (mem_at 0 rfl)<|pf0 rfl rfl rfl<|.fin<|cd H rfl (fun _ H=>?_) (fun c1413 H=>?_)
 ·
  refine WP.seq<|wg (opt_some 2 rfl c1411) fun _ _=>?_
  refine rg 1 0<|as0 rfl rfl<|.fin ?_
  cases H.out; exact r3 i2 rfl (.cons (res_tmp rfl) .nil)
 refine wg (opt_some 0 rfl c1413) fun _ _=>?_
 refine WP.skip<|WP.seq<|wg (opt_some 2 rfl c1411) fun _ _=>?_
 refine rg 6 32<|mv0 rfl rfl<|Dv.nilA SSnd.nn rfl trivial rfl (mem_at 1 rfl)<|vg (SSnd.opn 1 rfl) fun g1414 h1415=>?_
 refine fp h1415 rfl trivial rfl fa40_0<|ld 0 rfl trivial rfl sc36 rfl rfl<|Dv.bld (qs:=[vI 3,vS (⟨#[]⟩:ByteArray),vS (⟨#[64,97,58,115,49]⟩:ByteArray),vS (⟨#[]⟩:ByteArray),vS (⟨#[]⟩:ByteArray),vB false,vB false,vI 0,vI 2,vI 0,vI 0]) (css:=[[vI 3],[vS (⟨#[64,97,58,115,49]⟩:ByteArray)],[vI 2]]) rfl trivial Tryz.underlying32 pl32 z32 rfl ⟨(cells_one (one_eq rfl)),⟨(cells_one (one_eq rfl)),⟨(cells_one (one_eq rfl)),trivial⟩⟩⟩ rfl rfl<|el H fun t1416 h1417 H=>cx 6 [1,0,2,3,4,5] cal13 (queue_Queue_Put.c h1417 (p0_:=g1414.2.1)) nofun fun _ _=>?_
 refine .fin<|WP.seq<|rg 1 0<|as0 rfl rfl<|.fin<|WP.seqn H id (fun p1418:ByteArray×Int×Bool×SSnd=>[(0,vB false),(1,eq g1406.1),(3,eq g1410.1),(4,vS p1418.1),(5,vI p1418.2.1),(19,vB t1408.isNone),(27,vB p1418.2.2.1)]) (fun p1418:ByteArray×Int×Bool×SSnd=>[blk b1407 44 (RView.enc t1404.2),SSnd.O g1410 p1418.2.2.2,VView.O g1406 (t1404.1.getD default)]++F) (fun p1418 H=>?_) (fun H=>?_)
 ·
  refine WP.seq<|rg 3 0<|mv0 rfl rfl<|bn0 rfl rfl rfl run_seq<|as0 rfl rfl<|.fin ?_
  cases H.out; exact r3 i2 rfl (.cons (res_tmp rfl) .nil)
 refine WP.seq<|rg 1 0<|as0 rfl rfl<|.fin<|WP.block<|wg (SSnd.shut (p:=g1410) (m:=(⟨t1416.2.2.2,(t1408.getD default).fself,(t1408.getD default).fto,(t1408.getD default).fids,(t1408.getD default).fair⟩:SSnd)) (g1414.1,g1414.2.1,g1414.2.2.1,g1414.2.2.2) h1415 (pm 6 [1,0,2,3,4,5])) fun _ _=>?_
 refine wg (sg 3 [2,0,1] 0) fun _ _=>?_
 refine lp (fun j_ (p1432:ByteArray×Int×SSnd)=>w18_lives.l0 k t1404 j_ p1432.1 p1432.2.1 p1432.2.2) ((⟨#[]⟩:ByteArray),0,(⟨t1416.2.2.2,(t1408.getD default).fself,(t1408.getD default).fto,(t1408.getD default).fids,(t1408.getD default).fair⟩:SSnd)) H (fun p1432=>[(0,vB false),(1,eq g1406.1),(3,eq g1410.1),(4,vS p1432.1),(5,vI p1432.2.1),(19,vB t1408.isNone)]) (fun p1432=>[blk b1407 44 (RView.enc t1404.2),SSnd.O g1410 p1432.2.2,VView.O g1406 (t1404.1.getD default)]++F) ?_
 rintro j_ ⟨x1419,x1420,x1421⟩ H
 rcases j_ with _ | j1431
 ·
  exact (Gets.no H).elim
 replace H:Gets (w18_lives.l0 k t1404 (j1431 + 1) x1419 x1420 x1421) _:=H
 rw [w18_lives.l0] at H
 refine WP.seq<|WP.seq<|rg 2 0<|mv0 rfl rfl<|bn0 rfl rfl rfl run_lt<|.fin<|cd H rfl (fun _ H=>?_) (fun _ H=>?_)
 rotate_left
 ·
  refine WP.exit ?_
  have H:=H.out
  exact jn (x1419,x1420,decide (x1420 < 48),x1421) H
 refine WP.skip<|WP.seq<|WP.block<|WP.seq<|rg 12 776<|mv0 rfl rfl<|mv0 rfl rfl<|mv0 rfl rfl<|el H fun t1423 h1424 H=>cx 3 [1,2,0] cal15 (sender_Sender_Send.c h1424 (p0_:=g1410) (p1_:=g1406)) nofun fun _ _=>?_
 refine mv0 rfl rfl<|ex0 rfl trivial rfl rfl<|ex0 rfl trivial rfl rfl<|ex0 rfl trivial rfl rfl<|al rfl trivial zc46 nofun fun b1425=>sx 0 rfl trivial rfl rfl cA sz46 rfl rfl rfl nofun ?_
 refine as0 rfl rfl<|as0 rfl rfl<|.fin<|WP.seq<|rg 1 0<|mv0 rfl rfl<|.fin<|cd H rfl (fun _ H=>?_) (fun _ H=>?_)
 rotate_left
 ·
  refine WP.skip<|rg 3 0<|mv0 rfl rfl<|bn0 rfl rfl rfl run_add<|as0 rfl rfl<|.fin<|ng (sg 4 [0,3,1,2] 1) fun _ _=>?_
  exact bk j1431 (x1419,w64 (x1420 + 1),t1423.2.2.2) H
 refine rg 6 0<|mv0 rfl rfl<|gr H fun g1427 H=>bn0 rfl rfl rfl (run_cat g1427)<|mv0 rfl rfl<|el H fun t1428 h1429 H=>cl rfl cal28 rfl (r01_Decimal.c _ h1429)<|gr H fun g1430 H=>bn0 rfl rfl rfl (run_cat g1430)<|as0 rfl rfl<|.fin<|rg 3 0<|mv0 rfl rfl<|bn0 rfl rfl rfl run_add<|as0 rfl rfl<|.fin<|ng (sg 4 [0,3,1,2] 1) fun _ _=>?_
 exact bk j1431 ((x1419++(⟨#[32]⟩:ByteArray))++t1428,w64 (x1420 + 1),t1423.2.2.2) H
end Go.Proofs.YtmmaijneehmbgaaGreat
