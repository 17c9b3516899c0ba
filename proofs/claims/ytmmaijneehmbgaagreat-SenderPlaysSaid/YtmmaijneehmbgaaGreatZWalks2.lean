import Derived.Test.YtmmaijneehmbgaaGreatZWalks1
import Derived.Test.YtmmaijneehmbgaaGreatConQ
import Derived.Test.YtmmaijneehmbgaaGreatConA6
import Derived.Eval
set_option linter.all false
set_option autoImplicit true
set_option maxRecDepth 10000
set_option maxHeartbeats 20000000
namespace Go.Proofs.YtmmaijneehmbgaaGreat
open Go Go.Sp Tryz
theorem dag_Dag_All.c {v0_0:OV} {b0_:Nat} (h:dag_Dag_All.f k a0=some r):Tr prog 207 [eq (.pointer (some ⟨b0_,0,none⟩))] [blk b0_ 159 [vS a0.froom,eq v0_0.1],mpo Value.string DNode.O v0_0.1 a0.fnodes] (γ:=OV) (fun _=>True) (fun g=>eq g.1) (fun g=>[blk b0_ 159 [vS a0.froom,eq v0_0.1],mpo Value.string DNode.O v0_0.1 a0.fnodes,own Event.K g.1 r]):=by
 unfold dag_Dag_All.f at h
 refine tb func207 ntmps207 h fun R0 F H=>?_
 refine WP.seq<|rg 1 0<|as0 rfl rfl<|.fin<|WP.seq<|rg 1 0<|as0 rfl rfl<|.fin<|WP.seqn H (fun qa:(Int×Int×Bool×(List Event)×(List ByteArray))×OV×OV=>qa.1) (fun qa:(Int×Int×Bool×(List Event)×(List ByteArray))×OV×OV=>[(0,eq (.pointer (some ⟨b0_,0,none⟩))),(2,eq (.slice none 0 0)),(3,eq qa.2.1.1),(7,eq qa.2.2.1),(8,vI qa.1.1),(9,vI qa.1.2.1),(10,vB qa.1.2.2.1)]) (fun qa:(Int×Int×Bool×(List Event)×(List ByteArray))×OV×OV=>[blk b0_ 159 [vS a0.froom,eq v0_0.1],mpo Value.string DNode.O v0_0.1 a0.fnodes,own Event.K qa.2.1.1 qa.1.2.2.2.1,own strK qa.2.2.1 qa.1.2.2.2.2]++F) (fun qa H=>?_) (fun H=>?_)
 ·
  obtain ⟨pa,va,vb⟩:=qa
  refine WP.seq<|rg 2 0<|mv0 rfl rfl<|as0 rfl rfl<|.fin ?_
  obtain rfl:=Gets.out H
  exact rt i2 rfl va 4 [3,0,1,2] 1 (.cons (res_tmp rfl) .nil)
 refine WP.seq<|rg 4 2<|mv0 rfl rfl<|el H fun ta haa H=>cx 2 [0,1] cal210 (dag_Dag_ids_All.c haa (b0_:=b0_) (v0_0:=v0_0)) nofun fun ga _=>?_
 refine Dv.lenw rfl trivial rfl (mem_at 2 rfl) underlying53<|mv0 rfl rfl<|.fin<|WP.block<|wg (st_nil Event.K none) fun _ _=>?_
 refine wg (sg 4 [1,2,3,0] 0) fun _ _=>?_
 refine lp (fun j_ (pc:Int×(List Event)×OV)=>dag_Dag_All.l0 k a0 ta j_ pc.1 pc.2.1) (0,([]:List Event),nilV) H (fun pc=>[(0,eq (.pointer (some ⟨b0_,0,none⟩))),(2,eq (.slice none 0 0)),(3,eq pc.2.2.1),(7,eq ga.1),(8,vI (ta.length:Int)),(9,vI pc.1)]) (fun pc=>[blk b0_ 159 [vS a0.froom,eq v0_0.1],mpo Value.string DNode.O v0_0.1 a0.fnodes,own strK ga.1 ta,own Event.K pc.2.2.1 pc.2.1]++F) ?_
 rintro j_ ⟨xa,xb,vd⟩ H
 rcases j_ with _ | ja
 ·
  exact (Gets.no H).elim
 try dsimp only at H
 rw [dag_Dag_All.l0] at H
 refine WP.seq<|rg 1 0<|bn0 rfl rfl rfl run_lt<|.fin<|WP.seq<|cd H rfl (fun _ H=>?_) (fun _ H=>?_)
 rotate_left
 ·
  refine WP.exit ?_
  have H:=H.out
  refine ng (sg 4 [0,1,3,2] 0) fun _ _=>?_
  exact jn (((ta.length:Int),xa,decide (xa<(ta.length:Int)),xb,ta),vd,ga) H
 refine WP.skip<|WP.seq<|WP.block<|WP.seq<|rg 3 0<|gr H fun gb H=>?_
 have hac:xa.toNat<ta.length:=idx_lt gb
 refine Dv.ixw rfl trivial rfl (mem_at 2 rfl) rfl underlying53 underlying9 c9 gb.1 gb.2<|Dv.ldw (j:=xa.toNat) (f:=0) (p:=vS (ta.getD xa.toNat default)) rfl trivial rfl (mem_at 2 rfl) hac underlying9 rfl rfl<|as0 rfl rfl<|.fin<|rg 14 4096<|mv0 rfl rfl<|mv0 rfl rfl<|Dv.nilp rfl trivial rfl<|fb rfl trivial rfl fa159_1<|ld 0 rfl trivial rfl sc157 rfl rfl<|mv0 rfl rfl<|vg (mpo_opn 1 rfl) fun za had=>?_
 refine Dv.mlv nilP rfl trivial rfl (mem_at 0 rfl) rfl underlying157 (keyOk_str underlying9) z161 (fun _=>rfl)<|gr H fun gi H=>vg (mpo_foc had rfl gi (pm 5 [1,0,2,3,4])) fun _ _=>?_
 refine Dv.nilA DNode.nn rfl trivial rfl (mem_at 0 rfl)<|vg (DNode.opn 0 rfl) fun gj hae=>?_
 refine fp hae rfl trivial rfl fa163_0<|lds 0 rfl trivial rfl sg55 rfl rfl<|el H fun tc haf H=>cl rfl cal95 rfl (dag_own.c haf)<|Dv.lit Event.K ([tc]:List Event) (css:=[Event.enc tc]) rfl trivial underlying28 underlying55 c55 z55 rfl (by decide) (by decide) rfl ⟨(cells_agg (Event.K.one _)),trivial⟩ rfl rfl rfl<|gr H fun gk H=>ap Event.K 5 ([tc]:List Event) src_sl underlying28 (.inr ⟨_,underlying28⟩) inf55 gk nofun fun vh=>?_
 refine as0 rfl rfl<|.fin<|rg 2 0<|bn0 rfl rfl rfl run_add<|mv0 rfl rfl<|.fin<|ng (DNode.shut (p:=((mget (zipK a0.fnodes za) (ta.getD xa.toNat default)).getD nilP)) (m:=(mget a0.fnodes (ta.getD xa.toNat default)).getD default) gj hae (pm 6 [0,1,2,3,4,5])) fun _ _=>?_
 refine ng (mpo_unf0 had rfl gi (pm 6 [0,1,2,3,4,5])) fun _ _=>?_
 refine ng (mpo_shut had rfl (pm 5 [1,0,2,3,4])) fun _ _=>?_
 refine ng (sg 4 [1,0,2,3] 0) fun _ _=>?_
 exact bk ja (w64 (xa+1),xb++([tc]:List Event),vh) H
theorem member_joined.c {v0_0:OV} {b0_:Nat} (h:member_joined.f k a0=some r):Tr prog 196 [eq (.pointer (some ⟨b0_,0,none⟩))] [blk b0_ 159 [vS a0.froom,eq v0_0.1],mpo Value.string DNode.O v0_0.1 a0.fnodes] (γ:=OV) (fun _=>True) (fun g=>eq g.1) (fun g=>[blk b0_ 159 [vS a0.froom,eq v0_0.1],mpo Value.string DNode.O v0_0.1 a0.fnodes,mp Value.string (fun x:Int=>vI x) g.1 r]):=by
 unfold member_joined.f at h
 refine tb func196 ntmps196 h fun R0 F H=>?_
 refine WP.seq<|rg 1 0<|as0 rfl rfl<|.fin<|WP.seq<|rg 2 1<|Dv.mmk Value.string (fun x:Int=>vI x) rfl trivial nofun (fun va=>?_)
 refine as0 rfl rfl<|.fin<|WP.seqn H (fun qa:(Int×Int×Bool×(List (ByteArray×Int))×(List Event))×OV=>qa.1) (fun qa:(Int×Int×Bool×(List (ByteArray×Int))×(List Event))×OV=>[(0,eq (.pointer (some ⟨b0_,0,none⟩))),(2,eq (.map none)),(3,eq va.1),(8,eq qa.2.1),(9,vI qa.1.1),(10,vI qa.1.2.1),(11,vB qa.1.2.2.1)]) (fun qa:(Int×Int×Bool×(List (ByteArray×Int))×(List Event))×OV=>[blk b0_ 159 [vS a0.froom,eq v0_0.1],mpo Value.string DNode.O v0_0.1 a0.fnodes,mp Value.string (fun x:Int=>vI x) va.1 qa.1.2.2.2.1,own Event.K qa.2.1 qa.1.2.2.2.2]++F) (fun qa H=>?_) (fun H=>?_)
 ·
  obtain ⟨pa,vb⟩:=qa
  refine WP.seq<|rg 2 0<|mv0 rfl rfl<|as0 rfl rfl<|.fin ?_
  obtain rfl:=Gets.out H
  exact rt i2 rfl va 4 [3,0,1,2] 1 (.cons (res_tmp rfl) .nil)
 refine WP.seq<|rg 4 2<|mv0 rfl rfl<|el H fun ta haa H=>cx 3 [1,2,0] cal207 (dag_Dag_All.c haa (b0_:=b0_) (v0_0:=v0_0)) nofun fun ga _=>?_
 refine Dv.lenw rfl trivial rfl (mem_at 2 rfl) underlying28<|mv0 rfl rfl<|.fin<|WP.block<|wg (sg 4 [0,1,2,3] 0) fun _ _=>?_
 refine lp (fun j_ (pc:Int×(List (ByteArray×Int)))=>member_joined.l0 k ta j_ pc.1 pc.2) (0,([]:List (ByteArray×Int))) H (fun pc=>[(0,eq (.pointer (some ⟨b0_,0,none⟩))),(2,eq (.map none)),(3,eq va.1),(8,eq ga.1),(9,vI (ta.length:Int)),(10,vI pc.1)]) (fun pc=>[blk b0_ 159 [vS a0.froom,eq v0_0.1],mpo Value.string DNode.O v0_0.1 a0.fnodes,own Event.K ga.1 ta,mp Value.string (fun x:Int=>vI x) va.1 pc.2]++F) ?_
 rintro j_ ⟨xa,xb⟩ H
 rcases j_ with _ | ja
 ·
  exact (Gets.no H).elim
 try dsimp only at H
 rw [member_joined.l0] at H
 refine WP.seq<|rg 1 0<|bn0 rfl rfl rfl run_lt<|.fin<|WP.seq<|cd H rfl (fun _ H=>?_) (fun _ H=>?_)
 rotate_left
 ·
  refine WP.exit ?_
  have H:=H.out
  refine ng (sg 4 [0,1,3,2] 0) fun _ _=>?_
  exact jn (((ta.length:Int),xa,decide (xa<(ta.length:Int)),xb,ta),ga) H
 refine WP.skip<|WP.seq<|WP.block<|WP.seq<|rg 4 12<|gr H fun gb H=>?_
 have hac:xa.toNat<ta.length:=idx_lt gb
 refine Dv.ixw rfl trivial rfl (mem_at 2 rfl) rfl underlying28 underlying55 c55 gb.1 gb.2<|Dv.ldws (j:=xa.toNat) (f:=0) rfl trivial rfl (mem_at 2 rfl) hac underlying55 rfl c55 (Nat.le_of_ble_eq_true rfl)<|al rfl trivial zc55 nofun fun ba=>sx 0 rfl trivial rfl rfl cA sz55 rfl rfl rfl nofun ?_
 refine .fin<|WP.seq<|rg 2 0<|fb rfl trivial rfl fa55_5<|ld 0 rfl trivial rfl sc3 rfl rfl<|.fin<|WP.block<|WP.seq<|rg 2 0<|bn0 rfl rfl rfl run_eq<|as0 rfl rfl<|.fin<|cd H rfl (fun _ H=>?_) (fun _ H=>?_)
 ·
  refine rg 4 8<|mv0 rfl rfl<|fb rfl trivial rfl fa55_4<|ld 0 rfl trivial rfl sc9 rfl rfl<|Dv.mup (jj:=4) 1 rfl trivial rfl rfl rfl rfl underlying241 (keyOk_str underlying9) nofun<|.fin<|rg 2 0<|bn0 rfl rfl rfl run_add<|mv0 rfl rfl<|.fin<|ng (sg 5 [0,1,2,3,4] 1) fun _ _=>?_
  exact bk ja (w64 (xa+1),mput xb ((ta.getD xa.toNat default).fUser) 1) H
 refine WP.seq<|rg 2 0<|bn0 rfl rfl rfl run_eq<|as0 rfl rfl<|.fin<|cd H rfl (fun _ H=>?_) (fun _ H=>?_)
 rotate_left
 ·
  refine WP.skip<|rg 2 0<|bn0 rfl rfl rfl run_add<|mv0 rfl rfl<|.fin<|ng (sg 5 [0,1,2,3,4] 1) fun _ _=>?_
  exact bk ja (w64 (xa+1),xb) H
 refine rg 4 8<|mv0 rfl rfl<|fb rfl trivial rfl fa55_4<|ld 0 rfl trivial rfl sc9 rfl rfl<|Dv.mdl (jj:=4) rfl trivial rfl rfl rfl underlying241 (keyOk_str underlying9) nofun<|.fin<|rg 2 0<|bn0 rfl rfl rfl run_add<|mv0 rfl rfl<|.fin<|ng (sg 5 [0,1,2,3,4] 1) fun _ _=>?_
 exact bk ja (w64 (xa+1),mdel xb ((ta.getD xa.toNat default).fUser)) H
theorem member_Users.c {b0_:Nat} {v0_0:OV} (h:member_Users.f k a0=some r):Tr prog 177 [eq (.pointer (some ⟨b0_,0,none⟩))] [blk b0_ 159 [vS a0.froom,eq v0_0.1],mpo Value.string DNode.O v0_0.1 a0.fnodes] (γ:=OV) (fun _=>True) (fun g=>eq g.1) (fun g=>[blk b0_ 159 [vS a0.froom,eq v0_0.1],mpo Value.string DNode.O v0_0.1 a0.fnodes,own strK g.1 r]):=by
  unfold member_Users.f at h
  obtain ⟨m,hm,h1⟩:=(Gets.of h).call
  obtain ⟨h0,h5⟩:=h1.grd
  obtain rfl:=Gets.out h5
  clear h h5
  refine Tr.body func177 (c:=_) rfl ntmps177 (Nat.le_of_ble_eq_true rfl) fun R0 F=>?_
  refine WP.seq<|rg 1 0<|as0 rfl rfl<|.fin<|WP.seq<|rg 1 0<|as0 rfl rfl<|.fin ?_
  refine WP.seqj (β:=List Nat×OV) (fun b=>b.1.Perm (List.range m.length)) (fun b=>[(3,eq b.2.1)]) (fun b=>[own strK b.2.1 (selM m (fun e=>some e.1) b.1),blk b0_ 159 [vS a0.froom,eq v0_0.1],mpo Value.string DNode.O v0_0.1 a0.fnodes]++F) (fun b hb=>?_) ?_
  rotate_left
  · refine WP.seq<|rg 3 6<|mv0 rfl rfl<|cx 2 [0,1] cal196 (member_joined.c hm (b0_:=b0_) (v0_0:=v0_0)) nofun fun gm _=>?_
    refine Dv.gh (l':=fun _:Unit=>[blk b0_ 159 [vS a0.froom,eq v0_0.1],mpo Value.string DNode.O v0_0.1 a0.fnodes,mp Value.string (fun x:Int=>vI x) gm.1 m]++F) (gh_of (ok:=fun _=>True) fun R w k=>⟨(),trivial,k⟩) (fun _ _=>?_)
    refine Dv.gh (l':=fun _:Unit=>[mp Value.string (fun x:Int=>vI x) gm.1 m,blk b0_ 159 [vS a0.froom,eq v0_0.1],mpo Value.string DNode.O v0_0.1 a0.fnodes]++F) (gh_of (st_selgn 3 [2,0,1] 0 (by kernel_rfl) rfl rfl)) (fun _ _=>?_)
    refine Dv.rgb (jj:=0) rfl trivial rfl rfl underlying241 nofun (fun q=>.fin ?_)
    refine WP.gh (l':=fun _:Unit=>[rng Value.string (fun x:Int=>vI x) gm.1 q.1 m [],blk b0_ 159 [vS a0.froom,eq v0_0.1],mpo Value.string DNode.O v0_0.1 a0.fnodes]++F) (gh_of (ok:=fun _=>True) fun R w k=>⟨(),trivial,k⟩) (fun _ _=>?_)
    refine WP.gh (l':=fun _:Unit=>[own strK nilV.1 [],rng Value.string (fun x:Int=>vI x) gm.1 q.1 m [],blk b0_ 159 [vS a0.froom,eq v0_0.1],mpo Value.string DNode.O v0_0.1 a0.fnodes]++F) (gh_of (st_nil strK none)) (fun _ _=>?_)
    refine WP.block ?_
    refine WP.weak (E':=(fun b:List Nat×OV=>[(3,eq b.2.1),(7,eq q.1)]) ([],nilV)) (weak_cons rfl (weak_cons rfl weak_nil)) (WP.loop (β:=List Nat×OV) (fun k b=>b.1.length+k=m.length) (fun b=>[(3,eq b.2.1),(7,eq q.1)]) (fun b=>[own strK b.2.1 (selM m (fun e=>some e.1) b.1),rng Value.string (fun x:Int=>vI x) gm.1 q.1 m b.1,blk b0_ 159 [vS a0.froom,eq v0_0.1],mpo Value.string DNode.O v0_0.1 a0.fnodes]++F) ?_ (k:=m.length) (b:=([],nilV)) (Nat.zero_add _))
    rintro k ⟨is,v⟩ hk
    replace hk:is.length+k=m.length:=hk
    refine WP.seq<|rg 2 1<|Dv.rgn (jj:=1) rfl trivial rfl rfl nofun (fun z hz=>?_)
    rcases z with _ | j
    · have hz:is.Perm (List.range m.length):=hz
      refine ex0 rfl trivial rfl rfl<|.fin<|WP.seq<|WP.cond rfl nofun (fun _=>WP.exit ?_)
      refine Dn.gh (l':=fun _:Unit=>[own strK v.1 (selM m (fun e=>some e.1) is),rng Value.string (fun x:Int=>vI x) gm.1 q.1 m is,blk b0_ 159 [vS a0.froom,eq v0_0.1],mpo Value.string DNode.O v0_0.1 a0.fnodes]++F) (gh_of (ok:=fun _=>True) fun R w k=>⟨(),trivial,k⟩) (fun _ _=>?_)
      refine Dn.gh (l':=fun _:Unit=>[mp Value.string (fun x:Int=>vI x) gm.1 m,own strK v.1 (selM m (fun e=>some e.1) is),blk b0_ 159 [vS a0.froom,eq v0_0.1],mpo Value.string DNode.O v0_0.1 a0.fnodes]++F) (gh_of (st_rge (pm 4 [1,0,2,3]))) (fun _ _=>?_)
      refine Dn.gh (l':=fun _:Unit=>[own strK v.1 (selM m (fun e=>some e.1) is),blk b0_ 159 [vS a0.froom,eq v0_0.1],mpo Value.string DNode.O v0_0.1 a0.fnodes]++F) (gh_of (st_selgn 4 [0,1,2,3] 1 (by kernel_rfl) rfl rfl)) (fun _ _=>?_)
      exact Jn.mk (is,v) hz (weak_cons rfl weak_nil) (List.Perm.refl _)
    have hz:j<m.length∧j ∉ is∧is.length<m.length:=hz
    obtain ⟨e,he⟩:∃ e,m[j]? = some e:=⟨_,List.getElem?_eq_getElem hz.1⟩
    have hep:=he
    have hlt:=hz.2.2
    have hsl:=Nat.le_trans (selM_len (m:=m) (f:=(fun e=>some e.1)) (is:=is)) (Nat.le_of_lt hlt)
    have e1:nxV Value.string (fun x:Int=>vI x) m (some j)=tup [vB true,vS e.1,vI e.2]:=by simp only [nxV,hep]
    rw [e1]
    refine ex0 rfl trivial rfl rfl<|.fin<|WP.seq<|WP.cond rfl (fun _=>WP.skip ?_) nofun
    refine WP.gh (l':=fun _:Unit=>[own strK v.1 (selM m (fun e=>some e.1) is),rng Value.string (fun x:Int=>vI x) gm.1 q.1 m (is++[j]),blk b0_ 159 [vS a0.froom,eq v0_0.1],mpo Value.string DNode.O v0_0.1 a0.fnodes]++F) (gh_of (ok:=fun _=>True) fun R w k=>⟨(),trivial,k⟩) (fun _ _=>?_)
    refine WP.block<|WP.seq<|rg 3 0<|Dv.rge 1 rfl trivial rfl rfl hep ?_
    refine ex0 rfl trivial rfl rfl<|as0 rfl rfl<|.fin ?_
    have e6:=selM_some (f:=(fun e=>some e.1)) (is:=is) he rfl
    have hbd:(selM m (fun e=>some e.1) is).length+([e.1]:List ByteArray).length≤9223372036854775807∧((selM m (fun e=>some e.1) is).length+([e.1]:List ByteArray).length)*16≤140737488355328:=by rw [List.length_singleton]; omega
    refine rg 5 8<|mv0 rfl rfl<|mv0 rfl rfl<|Dv.lit strK ([e.1]:List ByteArray) (css:=[[vS e.1]]) rfl trivial underlying53 underlying9 c9 z9 rfl (by decide) (by decide) rfl ⟨(cells_one (one_eq rfl)),trivial⟩ rfl rfl rfl<|ap strK 0 ([e.1]:List ByteArray) src_sl underlying53 (.inr ⟨_,underlying53⟩) inf9 hbd nofun fun v9=>as0 rfl rfl<|.fin ?_
    rw [e6]
    exact Back.mk (k-1) (is++[j],v9) (by omega) (by show (is++[j]).length+(k-1)=_; rw [List.length_append,List.length_singleton]; omega) (weak_cons rfl (weak_cons rfl weak_nil)) (List.Perm.refl _)
  obtain ⟨is,v3⟩:=b
  replace hb:is.Perm (List.range m.length):=hb
  have hp:=selM_perm (f:=(fun e=>some e.1)) hb
  have hs:slices_Sort_string.f (selM m (fun e=>some e.1) is)=some (srtS (m.map (·.1))):=by
    have e7:m.filterMap (fun e=>some e.1)=m.map (·.1):=by rw [← List.filterMap_eq_map]; rfl
    rw [e7] at hp
    unfold slices_Sort_string.f Sp.grd
    rw [if_pos (by rw [hp.length_eq,List.length_map]; omega),srtS_eq hp]
  refine WP.seq<|rg 2 2<|mv0 rfl rfl<|cx 3 [0,1,2] cal162 (slices_Sort_string.c hs (p0_:=v3)) nofun fun _ _=>.fin ?_
  refine WP.seq<|rg 2 0<|mv0 rfl rfl<|as0 rfl rfl<|.fin<|rt i2 rfl v3 3 [1,2,0] 0 (.cons (res_tmp rfl) .nil)
theorem member_Servers.c {v0_0:OV} {b0_:Nat} (h:member_Servers.f k a0=some r):Tr prog 164 [eq (.pointer (some ⟨b0_,0,none⟩))] [blk b0_ 159 [vS a0.froom,eq v0_0.1],mpo Value.string DNode.O v0_0.1 a0.fnodes] (γ:=OV) (fun _=>True) (fun g=>eq g.1) (fun g=>[blk b0_ 159 [vS a0.froom,eq v0_0.1],mpo Value.string DNode.O v0_0.1 a0.fnodes,own strK g.1 r]):=by
 unfold member_Servers.f at h
 refine tb func164 ntmps164 h fun R0 F H=>?_
 refine WP.seq<|rg 1 0<|as0 rfl rfl<|.fin<|WP.seq<|rg 4 6<|mv0 rfl rfl<|el H fun ta haa H=>cx 2 [0,1] cal177 (member_Users.c haa (b0_:=b0_) (v0_0:=v0_0)) nofun fun ga _=>?_
 refine el H fun tc hac H=>cx 3 [2,0,1] cal176 (Tr.lend [own strK ga.1 ta] (member_Homes.c hac) (.cons (lt_own (mem_at 0 rfl)) .nil) (fun _=>flat_eq) (fun _=>(flatAs_cons (flatA_own flatK_str) flatAs_nil))) nofun fun gb _=>?_
 refine as0 rfl rfl<|.fin ?_
 obtain rfl:=Gets.out H
 exact rt i2 rfl gb 4 [0,2,3,1] 1 (.cons (res_tmp rfl) .nil)
theorem view_View_Servers.c {v0_0:OV} {b0_:Nat} (h:view_View_Servers.f k a0 a1=some r):Tr prog 145 [eq (.pointer (some ⟨b0_,0,none⟩)),vS a1] [blk b0_ 95 [eq v0_0.1],mpo Value.string DDag.O v0_0.1 a0.fdags] (γ:=OV) (fun _=>True) (fun g=>eq g.1) (fun g=>[blk b0_ 95 [eq v0_0.1],mpo Value.string DDag.O v0_0.1 a0.fdags,own strK g.1 r]):=by
 unfold view_View_Servers.f at h
 refine tb func145 ntmps145 h fun R0 F H=>?_
 refine WP.seq<|rg 1 0<|as0 rfl rfl<|.fin<|WP.seq<|rg 5 12<|mv0 rfl rfl<|mv0 rfl rfl<|el H fun ta haa H=>cx 2 [0,1] cal55 (view_View_room.c haa (b0_:=b0_) (v0_0:=v0_0)) nofun fun va _=>?_
 refine vg (DDag.opn 2 rfl) fun ga hac=>?_
 refine el H fun tc had H=>cx 4 [0,1,2,3] cal164 (Tr.weak (member_Servers.c had (b0_:=ga.1) (v0_0:=ga.2)) (.cons (wk_ptr hac) .nil)) nofun fun gb _=>?_
 refine as0 rfl rfl<|.fin<|wg (DDag.shut (p:=va) (m:=ta) (ga.1,ga.2) hac (pm 5 [0,1,2,3,4])) fun _ _=>?_
 refine wg (mpl_back0 (view_View_room.r haa) (pm 4 [3,0,1,2])) fun _ _=>?_
 obtain rfl:=Gets.out H
 exact rt i2 rfl gb 3 [2,0,1] 0 (.cons (res_tmp rfl) .nil)
theorem slices_IndexFunc_string_x.c {X1_:As} (h:slices_IndexFunc_string_x.f k a0 a1=some r):Tr prog 123 [sl strK a0,fx_string_bool X1_ a1] [X1_] (γ:=Unit) (fun _=>True) (fun g=>vI r) (fun g=>[X1_]):=by
 unfold slices_IndexFunc_string_x.f at h
 refine tb func123 ntmps123 h fun R0 F H=>?_
 refine WP.seq<|rg 1 0<|as0 rfl rfl<|.fin<|WP.seqr H id (fun pa:Int×Bool=>[(0,sl strK a0),(1,fx_string_bool X1_ a1),(4,vI 0),(7,vI (a0.length:Int)),(8,vI pa.1),(9,vB pa.2)]) (fun pa:Int×Bool=>[X1_]++F) (fun pa H=>?_) (fun H=>?_)
 ·
  refine WP.seq<|rg 1 0<|as0 rfl rfl<|.fin ?_
  cases H.out; exact rt i2 rfl () 1 [0] 0 (.cons (res_tmp rfl) .nil)
 refine WP.seq<|rg 3 0<|mv0 rfl rfl<|Dv.lenl rfl trivial rfl underlying53<|mv0 rfl rfl<|.fin<|WP.block<|wg (sg 1 [0] 0) fun _ _=>?_
 refine lp (fun j_ (pc:Int)=>slices_IndexFunc_string_x.l0 k a0 a1 j_ pc) 0 H (fun pc=>[(0,sl strK a0),(1,fx_string_bool X1_ a1),(4,vI 0),(7,vI (a0.length:Int)),(8,vI pc)]) (fun pc=>[X1_]++F) ?_
 rintro j_ xa H
 rcases j_ with _ | ja
 ·
  exact (Gets.no H).elim
 try dsimp only at H
 rw [slices_IndexFunc_string_x.l0] at H
 refine WP.seq<|rg 1 0<|bn0 rfl rfl rfl run_lt<|.fin<|WP.seq<|cd H rfl (fun _ H=>?_) (fun _ H=>?_)
 rotate_left
 ·
  refine WP.exit ?_
  have H:=H.out
  exact jn (xa,decide (xa<(a0.length:Int))) H
 refine WP.skip<|WP.seq<|WP.block<|WP.seq<|rg 2 0<|mv0 rfl rfl<|as0 rfl rfl<|.fin<|WP.seq<|rg 6 0<|mv0 rfl rfl<|mv0 rfl rfl<|mv0 rfl rfl<|gr H fun ga H=>Dv.ixr rfl trivial rfl rfl underlying53 underlying9 c9 ga.1 ga.2<|ldR rfl trivial rfl sc9 rfl<|el H fun ta haa H=>Dv.callfx (ret:=vB ta) (X:=X1_) (F:=F) rfl trivial rfl rfl ⟨_,_,haa,rfl,rfl⟩ (perm_to (L:=[X1_]) (F:=F) [0] rfl rfl rfl)<|.fin<|cd H rfl (fun _ H=>?_) (fun _ H=>?_)
 rotate_left
 ·
  exact WP.skip<|rg 2 0<|bn0 rfl rfl rfl run_add<|mv0 rfl rfl<|.fin<|bk ja (w64 (xa+1)) H
 refine WP.seq<|rg 2 0<|mv0 rfl rfl<|as0 rfl rfl<|.fin ?_
 have H:=H.outr
 cases H.out; exact rt i2 rfl () 1 [0] 0 (.cons (res_tmp rfl) .nil)
theorem slices_IndexFunc_string_xw.c {X1_:As} {p0_:OV} (h:slices_IndexFunc_string_xw.f k a0 a1=some r):Tr prog 123 [eq p0_.1,fx_string_bool X1_ a1] [own strK p0_.1 a0,X1_] (γ:=Unit) (fun _=>True) (fun g=>vI r) (fun g=>[own strK p0_.1 a0,X1_]):=by
 unfold slices_IndexFunc_string_xw.f at h
 refine tb func123 ntmps123 h fun R0 F H=>?_
 refine WP.seq<|rg 1 0<|as0 rfl rfl<|.fin<|WP.seqr H id (fun pa:Int×Bool=>[(0,eq p0_.1),(1,fx_string_bool X1_ a1),(4,vI 0),(7,vI (a0.length:Int)),(8,vI pa.1),(9,vB pa.2)]) (fun pa:Int×Bool=>[own strK p0_.1 a0,X1_]++F) (fun pa H=>?_) (fun H=>?_)
 ·
  refine WP.seq<|rg 1 0<|as0 rfl rfl<|.fin ?_
  cases H.out; exact rt i2 rfl () 2 [0,1] 0 (.cons (res_tmp rfl) .nil)
 refine WP.seq<|rg 3 0<|mv0 rfl rfl<|Dv.lenw rfl trivial rfl (mem_at 0 rfl) underlying53<|mv0 rfl rfl<|.fin<|WP.block<|wg (sg 2 [0,1] 0) fun _ _=>?_
 refine lp (fun j_ (pc:Int)=>slices_IndexFunc_string_xw.l0 k a0 a1 j_ pc) 0 H (fun pc=>[(0,eq p0_.1),(1,fx_string_bool X1_ a1),(4,vI 0),(7,vI (a0.length:Int)),(8,vI pc)]) (fun pc=>[own strK p0_.1 a0,X1_]++F) ?_
 rintro j_ xa H
 rcases j_ with _ | ja
 ·
  exact (Gets.no H).elim
 try dsimp only at H
 rw [slices_IndexFunc_string_xw.l0] at H
 refine WP.seq<|rg 1 0<|bn0 rfl rfl rfl run_lt<|.fin<|WP.seq<|cd H rfl (fun _ H=>?_) (fun _ H=>?_)
 rotate_left
 ·
  refine WP.exit ?_
  have H:=H.out
  exact jn (xa,decide (xa<(a0.length:Int))) H
 refine WP.skip<|WP.seq<|WP.block<|WP.seq<|rg 2 0<|mv0 rfl rfl<|as0 rfl rfl<|.fin<|WP.seq<|rg 6 0<|mv0 rfl rfl<|mv0 rfl rfl<|mv0 rfl rfl<|gr H fun ga H=>?_
 have haa:xa.toNat<a0.length:=idx_lt ga
 refine Dv.ixw rfl trivial rfl (mem_at 0 rfl) rfl underlying53 underlying9 c9 ga.1 ga.2<|Dv.ldw (j:=xa.toNat) (f:=0) (p:=vS (a0.getD xa.toNat default)) rfl trivial rfl (mem_at 0 rfl) haa underlying9 rfl rfl<|el H fun ta hac H=>Dv.callfx (ret:=vB ta) (X:=X1_) (F:=[own strK p0_.1 a0]++F) rfl trivial rfl rfl ⟨_,_,hac,rfl,rfl⟩ (perm_to (L:=[own strK p0_.1 a0,X1_]) (F:=F) [1,0] rfl rfl rfl)<|.fin<|cd H rfl (fun _ H=>?_) (fun _ H=>?_)
 rotate_left
 ·
  exact WP.skip<|rg 2 0<|bn0 rfl rfl rfl run_add<|mv0 rfl rfl<|.fin<|bk ja (w64 (xa+1)) H
 refine WP.seq<|rg 2 0<|mv0 rfl rfl<|as0 rfl rfl<|.fin ?_
 have H:=H.outr
 cases H.out; exact rt i2 rfl () 2 [0,1] 0 (.cons (res_tmp rfl) .nil)
theorem slices_DeleteFunc_string_xo.c {X1_:As} {p0_:OV} (h:slices_DeleteFunc_string_xo.f k a0 a1=some r):Tr prog 170 [eq p0_.1,fx_string_bool X1_ a1] [own strK p0_.1 a0,X1_] (γ:=OV) (fun _=>True) (fun g=>eq g.1) (fun g=>[X1_,own strK g.1 r]):=by
 unfold slices_DeleteFunc_string_xo.f at h
 refine tb func170 ntmps170 h fun R0 F H=>?_
 refine WP.seq<|rg 1 0<|as0 rfl rfl<|.fin<|WP.seq<|rg 4 0<|mv0 rfl rfl<|mv0 rfl rfl<|el H fun ta haa H=>cll 2 [0,1] cal123 (slices_IndexFunc_string_xw.c haa (p0_:=p0_) (X1_:=X1_)) ?_
 refine as0 rfl rfl<|.fin<|WP.seq<|WP.seq<|rg 2 0<|mv0 rfl rfl<|bn0 rfl rfl rfl run_eq<|.fin<|cd H rfl (fun _ H=>?_) (fun _ H=>?_)
 ·
  refine WP.seq<|rg 2 0<|mv0 rfl rfl<|as0 rfl rfl<|.fin ?_
  obtain rfl:=Gets.out H
  exact rt i2 rfl p0_ 2 [1,0] 0 (.cons (res_tmp rfl) .nil)
 refine WP.skip<|WP.seqn H id (fun pa:Int×Int×Bool×(List ByteArray)=>[(0,eq p0_.1),(1,fx_string_bool X1_ a1),(4,eq (.slice none 0 0)),(5,vI pa.1),(6,vI pa.2.1),(12,vB (ta==(-1))),(19,vB pa.2.2.1)]) (fun pa:Int×Int×Bool×(List ByteArray)=>[own strK p0_.1 pa.2.2.2,X1_]++F) (fun pa H=>?_) (fun H=>?_)
 ·
  refine WP.seq<|rg 4 8<|mv0 rfl rfl<|mv0 rfl rfl<|gr H fun ga H=>vg (st_own_form 0 rfl (List.length_pos_iff.1 (Nat.lt_of_le_of_lt (Nat.zero_le _) ga.2))) fun gb hac=>?_
  refine Dv.slkm (o':=gb.2.1+pa.1.toNat*strK.sz) (m':=pa.2.2.2.length-pa.1.toNat) (c':=gb.2.2-pa.1.toNat) rfl trivial ((show opv _ _=some (eq p0_.1) from rfl).trans (congrArg (fun z=>some (eq z)) hac.1)) underlying53 underlying9 c9 (bdE_some rfl ga.1) bdE_none (Nat.le_of_lt ga.2) hac.2 (.inl (Nat.lt_of_lt_of_le ga.2 hac.2)) rfl rfl rfl<|Dv.clrw (jj:=0) (⟨#[]⟩:ByteArray) rfl trivial rfl underlying53 z9 rfl rfl (fun u hu=>by simp [Value.cells] at hu; subst hu; rfl) hac.1 rfl ga.2 rfl nofun<|.fin<|WP.seq<|rg 4 4<|mv0 rfl rfl<|mv0 rfl rfl<|gr H fun gi H=>Dv.slo (jj:=0) rfl trivial rfl rfl underlying53 underlying9 c9 bdE_none (bdE_some rfl gi.1) (.inl rfl) gi.2.1 gi.2.2 nofun (fun va=>?_)
  refine as0 rfl rfl<|.fin ?_
  obtain rfl:=Gets.out H
  exact rt i2 rfl va 2 [1,0] 0 (.cons (res_tmp rfl) .nil)
 refine WP.seq<|rg 3 0<|mv0 rfl rfl<|bn0 rfl rfl rfl run_add<|as0 rfl rfl<|.fin<|WP.block<|wg (sg 2 [0,1] 0) fun _ _=>?_
 refine lp (fun j_ (pc:Int×Int×(List ByteArray))=>slices_DeleteFunc_string_xo.l0 k a1 j_ pc.1 pc.2.1 pc.2.2) (ta,w64 (ta+1),a0) H (fun pc=>[(0,eq p0_.1),(1,fx_string_bool X1_ a1),(4,eq (.slice none 0 0)),(5,vI pc.1),(6,vI pc.2.1),(12,vB (ta==(-1)))]) (fun pc=>[own strK p0_.1 pc.2.2,X1_]++F) ?_
 rintro j_ ⟨xa,xb,xc⟩ H
 rcases j_ with _ | ja
 ·
  exact (Gets.no H).elim
 try dsimp only at H
 rw [slices_DeleteFunc_string_xo.l0] at H
 refine WP.seq<|WP.seq<|rg 4 0<|mv0 rfl rfl<|mv0 rfl rfl<|Dv.lenw rfl trivial rfl (mem_at 0 rfl) underlying53<|bn0 rfl rfl rfl run_lt<|.fin<|cd H rfl (fun _ H=>?_) (fun _ H=>?_)
 rotate_left
 ·
  refine WP.exit ?_
  have H:=H.out
  exact jn (xa,xb,decide (xb<(xc.length:Int)),xc) H
 refine WP.skip<|WP.seq<|WP.block<|WP.seq<|rg 5 0<|mv0 rfl rfl<|mv0 rfl rfl<|gr H fun gj H=>?_
 have had:xb.toNat<xc.length:=idx_lt gj
 refine Dv.ixw rfl trivial rfl (mem_at 0 rfl) rfl underlying53 underlying9 c9 gj.1 gj.2<|Dv.ldw (j:=xb.toNat) (f:=0) (p:=vS (xc.getD xb.toNat default)) rfl trivial rfl (mem_at 0 rfl) had underlying9 rfl rfl<|as0 rfl rfl<|.fin<|WP.seq<|rg 4 0<|mv0 rfl rfl<|mv0 rfl rfl<|el H fun tc hae H=>Dv.callfx (ret:=vB tc) (X:=X1_) (F:=[own strK p0_.1 xc]++F) rfl trivial rfl rfl ⟨_,_,hae,rfl,rfl⟩ (perm_to (L:=[own strK p0_.1 xc,X1_]) (F:=F) [1,0] rfl rfl rfl)<|un0 rfl rfl (run_not _)<|.fin<|cd H rfl (fun _ H=>?_) (fun _ H=>?_)
 rotate_left
 ·
  exact WP.skip<|rg 3 0<|mv0 rfl rfl<|bn0 rfl rfl rfl run_add<|as0 rfl rfl<|.fin<|bk ja (xa,w64 (xb+1),xc) H
 refine WP.seq<|rg 5 16<|mv0 rfl rfl<|mv0 rfl rfl<|mv0 rfl rfl<|gr H fun gk H=>?_
 have haf:xa.toNat<xc.length:=idx_lt gk
 exact Dv.ixw rfl trivial rfl (mem_at 0 rfl) rfl underlying53 underlying9 c9 gk.1 gk.2<|Dv.stw (j:=xa.toNat) (f:=0) (jj:=0) (xc.getD xb.toNat default) rfl trivial rfl rfl (cells_one (one_eq rfl)) underlying9 c9 rfl rfl haf (Nat.le_of_ble_eq_true rfl) rfl nofun<|.fin<|rg 3 0<|mv0 rfl rfl<|bn0 rfl rfl rfl run_add<|as0 rfl rfl<|.fin<|rg 3 0<|mv0 rfl rfl<|bn0 rfl rfl rfl run_add<|as0 rfl rfl<|.fin<|bk ja (w64 (xa+1),w64 (xb+1),xc.set xa.toNat (xc.getD xb.toNat default)) H
theorem view_View_Rooms.c {b0_:Nat} {v0_0:OV} (h:view_View_Rooms.f a0=some r):Tr prog 171 [eq (.pointer (some ⟨b0_,0,none⟩))] [blk b0_ 95 [eq v0_0.1],mpo Value.string DDag.O v0_0.1 a0.fdags] (γ:=OV) (fun _=>True) (fun g=>eq g.1) (fun g=>[blk b0_ 95 [eq v0_0.1],mpo Value.string DDag.O v0_0.1 a0.fdags,own strK g.1 r]):=by
  unfold view_View_Rooms.f at h
  obtain ⟨h0,h5⟩:=(Gets.of h).grd
  obtain rfl:=Gets.out h5
  clear h h5
  refine Tr.body func171 (c:=_) rfl ntmps171 (Nat.le_of_ble_eq_true rfl) fun R0 F=>?_
  refine WP.seq<|rg 1 0<|as0 rfl rfl<|.fin<|WP.seq<|rg 1 0<|as0 rfl rfl<|.fin ?_
  refine WP.seqj (β:=List Nat×OV) (fun b=>b.1.Perm (List.range a0.fdags.length)) (fun b=>[(3,eq b.2.1)]) (fun b=>[own strK b.2.1 (selM a0.fdags (fun e=>some e.1) b.1),blk b0_ 95 [eq v0_0.1],mpo Value.string DDag.O v0_0.1 a0.fdags]++F) (fun b hb=>?_) ?_
  rotate_left
  · refine WP.seq<|rg 5 16<|mv0 rfl rfl<|Dv.nilp rfl trivial rfl<|fb rfl trivial rfl fa95_0<|ld 0 rfl trivial rfl sc93 rfl rfl ?_
    refine Dv.gh (l':=fun ps:List OV=>[mp Value.string (fun p:OV=>eq p.1) v0_0.1 (zipK a0.fdags ps),thg DDag.O a0.fdags ps,blk b0_ 95 [eq v0_0.1]]++F) (gh_of (mpo_opn 1 rfl)) (fun ps hps=>?_)
    refine Dv.rgb (jj:=0) rfl trivial rfl rfl underlying93 nofun (fun q=>.fin ?_)
    refine WP.gh (l':=fun _:Unit=>[rng Value.string (fun p:OV=>eq p.1) v0_0.1 q.1 (zipK a0.fdags ps) [],thg DDag.O a0.fdags ps,blk b0_ 95 [eq v0_0.1]]++F) (gh_of (ok:=fun _=>True) fun R w k=>⟨(),trivial,k⟩) (fun _ _=>?_)
    refine WP.gh (l':=fun _:Unit=>[own strK nilV.1 [],rng Value.string (fun p:OV=>eq p.1) v0_0.1 q.1 (zipK a0.fdags ps) [],thg DDag.O a0.fdags ps,blk b0_ 95 [eq v0_0.1]]++F) (gh_of (st_nil strK none)) (fun _ _=>?_)
    refine WP.block ?_
    refine WP.weak (E':=(fun b:List Nat×OV=>[(3,eq b.2.1),(9,eq q.1)]) ([],nilV)) (weak_cons rfl (weak_cons rfl weak_nil)) (WP.loop (β:=List Nat×OV) (fun k b=>b.1.length+k=a0.fdags.length) (fun b=>[(3,eq b.2.1),(9,eq q.1)]) (fun b=>[own strK b.2.1 (selM a0.fdags (fun e=>some e.1) b.1),rng Value.string (fun p:OV=>eq p.1) v0_0.1 q.1 (zipK a0.fdags ps) b.1,thg DDag.O a0.fdags ps,blk b0_ 95 [eq v0_0.1]]++F) ?_ (k:=a0.fdags.length) (b:=([],nilV)) (Nat.zero_add _))
    rintro k ⟨is,v⟩ hk
    replace hk:is.length+k=a0.fdags.length:=hk
    refine WP.seq<|rg 2 1<|Dv.rgn (jj:=1) rfl trivial rfl rfl nofun (fun z hz=>?_)
    rcases z with _ | j
    · have hz:is.Perm (List.range (zipK a0.fdags ps).length):=hz
      rw [zipK_len hps.1] at hz
      refine ex0 rfl trivial rfl rfl<|.fin<|WP.seq<|WP.cond rfl nofun (fun _=>WP.exit ?_)
      refine Dn.gh (l':=fun _:Unit=>[own strK v.1 (selM a0.fdags (fun e=>some e.1) is),rng Value.string (fun p:OV=>eq p.1) v0_0.1 q.1 (zipK a0.fdags ps) is,thg DDag.O a0.fdags ps,blk b0_ 95 [eq v0_0.1]]++F) (gh_of (ok:=fun _=>True) fun R w k=>⟨(),trivial,k⟩) (fun _ _=>?_)
      refine Dn.gh (l':=fun _:Unit=>[mp Value.string (fun p:OV=>eq p.1) v0_0.1 (zipK a0.fdags ps),own strK v.1 (selM a0.fdags (fun e=>some e.1) is),thg DDag.O a0.fdags ps,blk b0_ 95 [eq v0_0.1]]++F) (gh_of (st_rge (pm 4 [1,0,2,3]))) (fun _ _=>?_)
      refine Dn.gh (l':=fun _:Unit=>[mpo Value.string DDag.O v0_0.1 a0.fdags,own strK v.1 (selM a0.fdags (fun e=>some e.1) is),blk b0_ 95 [eq v0_0.1]]++F) (gh_of (mpo_shut hps rfl (pm 4 [0,2,1,3]))) (fun _ _=>?_)
      exact Jn.mk (is,v) hz (weak_cons rfl weak_nil) (perm_ton 3 [1,2,0] (by kernel_rfl) rfl rfl)
    have hz:j<(zipK a0.fdags ps).length∧j ∉ is∧is.length<(zipK a0.fdags ps).length:=hz
    obtain ⟨e,p,he,hp,hep⟩:=zipK_get hps hz.1
    have hlt:is.length<a0.fdags.length:=by rw [← zipK_len hps.1]; exact hz.2.2
    have hsl:=Nat.le_trans (selM_len (m:=a0.fdags) (f:=(fun e=>some e.1)) (is:=is)) (Nat.le_of_lt hlt)
    have e1:nxV Value.string (fun p:OV=>eq p.1) (zipK a0.fdags ps) (some j)=tup [vB true,vS e.1,eq p.1]:=by simp only [nxV,hep]
    rw [e1]
    refine ex0 rfl trivial rfl rfl<|.fin<|WP.seq<|WP.cond rfl (fun _=>WP.skip ?_) nofun
    refine WP.gh (l':=fun _:Unit=>[own strK v.1 (selM a0.fdags (fun e=>some e.1) is),rng Value.string (fun p:OV=>eq p.1) v0_0.1 q.1 (zipK a0.fdags ps) (is++[j]),thg DDag.O a0.fdags ps,blk b0_ 95 [eq v0_0.1]]++F) (gh_of (ok:=fun _=>True) fun R w k=>⟨(),trivial,k⟩) (fun _ _=>?_)
    refine WP.block<|WP.seq<|rg 3 0<|Dv.rge 1 rfl trivial rfl rfl hep ?_
    refine ex0 rfl trivial rfl rfl<|as0 rfl rfl<|.fin ?_
    have e6:=selM_some (f:=(fun e=>some e.1)) (is:=is) he rfl
    have hbd:(selM a0.fdags (fun e=>some e.1) is).length+([e.1]:List ByteArray).length≤9223372036854775807∧((selM a0.fdags (fun e=>some e.1) is).length+([e.1]:List ByteArray).length)*16≤140737488355328:=by rw [List.length_singleton]; omega
    refine rg 5 8<|mv0 rfl rfl<|mv0 rfl rfl<|Dv.lit strK ([e.1]:List ByteArray) (css:=[[vS e.1]]) rfl trivial underlying53 underlying9 c9 z9 rfl (by decide) (by decide) rfl ⟨(cells_one (one_eq rfl)),trivial⟩ rfl rfl rfl<|ap strK 0 ([e.1]:List ByteArray) src_sl underlying53 (.inr ⟨_,underlying53⟩) inf9 hbd nofun fun v9=>as0 rfl rfl<|.fin ?_
    rw [e6]
    exact Back.mk (k-1) (is++[j],v9) (by omega) (by show (is++[j]).length+(k-1)=_; rw [List.length_append,List.length_singleton]; omega) (weak_cons rfl (weak_cons rfl weak_nil)) (List.Perm.refl _)
  obtain ⟨is,v3⟩:=b
  replace hb:is.Perm (List.range a0.fdags.length):=hb
  have hp:=selM_perm (f:=(fun e=>some e.1)) hb
  have hs:slices_Sort_string.f (selM a0.fdags (fun e=>some e.1) is)=some (srtS (a0.fdags.map (·.1))):=by
    have e7:a0.fdags.filterMap (fun e=>some e.1)=a0.fdags.map (·.1):=by rw [← List.filterMap_eq_map]; rfl
    rw [e7] at hp
    unfold slices_Sort_string.f Sp.grd
    rw [if_pos (by rw [hp.length_eq,List.length_map]; omega),srtS_eq hp]
  refine WP.seq<|rg 2 2<|mv0 rfl rfl<|cx 3 [0,1,2] cal162 (slices_Sort_string.c hs (p0_:=v3)) nofun fun _ _=>.fin ?_
  refine WP.seq<|rg 2 0<|mv0 rfl rfl<|as0 rfl rfl<|.fin<|rt i2 rfl v3 3 [1,2,0] 0 (.cons (res_tmp rfl) .nil)
theorem member_Joined.c {v0_0:OV} {b0_:Nat} (h:member_Joined.f k a0 a1=some r):Tr prog 183 [eq (.pointer (some ⟨b0_,0,none⟩)),vS a1] [blk b0_ 159 [vS a0.froom,eq v0_0.1],mpo Value.string DNode.O v0_0.1 a0.fnodes] (γ:=Unit) (fun _=>True) (fun g=>vB r) (fun g=>[blk b0_ 159 [vS a0.froom,eq v0_0.1],mpo Value.string DNode.O v0_0.1 a0.fnodes]):=by
 unfold member_Joined.f at h
 refine tb func183 ntmps183 h fun R0 F H=>?_
 refine WP.seq<|rg 1 0<|as0 rfl rfl<|.fin<|WP.seq<|rg 6 2<|mv0 rfl rfl<|el H fun ta haa H=>cx 2 [0,1] cal196 (member_joined.c haa (b0_:=b0_) (v0_0:=v0_0)) nofun fun ga _=>?_
 refine mv0 rfl rfl<|Dv.mlv 0 rfl trivial rfl (mem_at 2 rfl) rfl underlying241 (keyOk_str underlying9) z3 (fun _=>rfl)<|bn0 rfl rfl rfl run_gt<|as0 rfl rfl<|.fin ?_
 cases H.out; exact rt i2 rfl () 3 [2,0,1] 1 (.cons (res_tmp rfl) .nil)
theorem view_View_Joined.c {v0_0:OV} {b0_:Nat} (h:view_View_Joined.f k a0 a1 a2=some r):Tr prog 173 [eq (.pointer (some ⟨b0_,0,none⟩)),vS a1,vS a2] [blk b0_ 95 [eq v0_0.1],mpo Value.string DDag.O v0_0.1 a0.fdags] (γ:=Unit) (fun _=>True) (fun g=>vB r) (fun g=>[blk b0_ 95 [eq v0_0.1],mpo Value.string DDag.O v0_0.1 a0.fdags]):=by
 unfold view_View_Joined.f at h
 refine tb func173 ntmps173 h fun R0 F H=>?_
 refine WP.seq<|rg 1 0<|as0 rfl rfl<|.fin<|WP.seq<|rg 6 4<|mv0 rfl rfl<|mv0 rfl rfl<|el H fun ta haa H=>cx 2 [0,1] cal55 (view_View_room.c haa (b0_:=b0_) (v0_0:=v0_0)) nofun fun va _=>?_
 refine mv0 rfl rfl<|vg (DDag.opn 2 rfl) fun ga hac=>?_
 refine el H fun tc had H=>cll 4 [0,1,2,3] cal183 (Tr.weak (member_Joined.c had (b0_:=ga.1) (v0_0:=ga.2)) (.cons (wk_ptr hac) (.cons wk_id .nil))) ?_
 refine as0 rfl rfl<|.fin<|wg (DDag.shut (p:=va) (m:=ta) (ga.1,ga.2) hac (pm 4 [0,1,2,3])) fun _ _=>?_
 refine wg (mpl_back0 (view_View_room.r haa) (pm 3 [2,0,1])) fun _ _=>?_
 cases H.out; exact rt i2 rfl () 2 [1,0] 0 (.cons (res_tmp rfl) .nil)
theorem view_View_RoomsOf_1.c {cb0_ cd0_:Nat} {cq0_ cv0_0:OV} {ch0_:cq0_.1 = .pointer (some ⟨cd0_,0,none⟩)} {c0:VView} {c1:ByteArray} (h:view_View_RoomsOf_1.f k a0 c0 c1=some r):Tr prog 172 [vS a0,eq (.pointer (some ⟨cb0_,0,none⟩)),rp [vS c1]] [blk cb0_ 26 [eq cq0_.1],blk cd0_ 95 [eq cv0_0.1],mpo Value.string DDag.O cv0_0.1 c0.fdags] (γ:=Unit) (fun _=>True) (fun g=>vB r) (fun g=>[blk cb0_ 26 [eq cq0_.1],blk cd0_ 95 [eq cv0_0.1],mpo Value.string DDag.O cv0_0.1 c0.fdags]):=by
 unfold view_View_RoomsOf_1.f at h
 refine tb func172 ntmps172 h fun R0 F H=>?_
 refine WP.seq<|rg 1 0<|as0 rfl rfl<|.fin<|WP.seq<|rg 6 0<|ld 0 rfl trivial rfl sc26 rfl rfl<|mv0 rfl rfl<|ldR rfl trivial rfl sc9 rfl<|el H fun ta haa H=>cll 3 [1,2,0] cal173 (Tr.weak (view_View_Joined.c haa (b0_:=cd0_) (v0_0:=cv0_0)) (.cons (wk_ptr ch0_) (.cons wk_id (.cons wk_id .nil)))) ?_
 refine un0 rfl rfl (run_not _)<|as0 rfl rfl<|.fin ?_
 cases H.out; exact rt i2 rfl () 3 [0,1,2] 0 (.cons (res_tmp rfl) .nil)
theorem view_View_RoomsOf.c {p0_:OV} (h:view_View_RoomsOf.f k a0 a1=some r):Tr prog 161 [eq p0_.1,vS a1] [VView.O p0_ a0] (γ:=OV) (fun _=>True) (fun g=>eq g.1) (fun g=>[VView.O p0_ a0,own strK g.1 r]):=by
 unfold view_View_RoomsOf.f at h
 refine tb func161 ntmps161 h fun R0 F H=>?_
 refine WP.seq<|rg 3 3<|Dv.box rfl trivial rfl (cells_one one_ov) nofun fun ba=>Dv.box rfl trivial rfl cE nofun fun bc=>as0 rfl rfl<|.fin<|WP.seq<|rg 5 10<|ld 1 rfl trivial rfl sc26 rfl rfl<|vg (VView.opn 2 rfl) fun ga haa=>?_
 refine el H fun ta hac H=>cx 4 [0,1,2,3] cal171 (Tr.weak (view_View_Rooms.c hac (b0_:=ga.1) (v0_0:=ga.2)) (.cons (wk_ptr haa) .nil)) nofun fun gb _=>?_
 refine Dv.gh (gh_frzb (E':=[(0,eq p0_.1),(1,vS a1),(2,eq (.pointer (some ⟨ba,0,none⟩))),(3,rp [vS a1]),(4,eq (.slice none 0 0)),(6,eq gb.1)]) (l':=[blk ga.1 95 [eq ga.2.1],mpo Value.string DDag.O ga.2.1 a0.fdags,own strK gb.1 ta,blk ba 26 [eq p0_.1]]++F) 3 rfl (cve_cons rfl cv_id (cve_cons rfl cv_id (cve_cons rfl cv_id (cve_cons rfl cv_eq (cve_cons rfl cv_id (cve_cons rfl cv_id cve_nil)))))) (all2_app (.cons cva_id (.cons cva_id (.cons cva_id (.cons cva_id .nil)))) fun _=>cva_id)) (fun _ _=>?_)
 refine Dv.mkx (Q:=fqQ_string_bool (fun a0_=>view_View_RoomsOf_1.f k a0_ a0 a1)) (L:=[blk ba 26 [eq p0_.1],blk ga.1 95 [eq ga.2.1],mpo Value.string DDag.O ga.2.1 a0.fdags]) cal172 (by rintro _ _ ⟨a0_,r_,h_,rfl,rfl⟩; exact view_View_RoomsOf_1.c h_ (cb0_:=ba) (cq0_:=p0_) (cd0_:=ga.1) (ch0_:=haa) (cv0_0:=ga.2)) rfl trivial rfl rfl<|el H fun tc had H=>cx 4 [2,3,0,1] cal170 (Tr.unpko (A:=[own strK gb.1 ta]) (L:=[blk ba 26 [eq p0_.1],blk ga.1 95 [eq ga.2.1],mpo Value.string DDag.O ga.2.1 a0.fdags]) (B:=fun gi:OV=>[own strK gi.1 tc]) (slices_DeleteFunc_string_xo.c had (p0_:=gb) (X1_:=(pk [blk ba 26 [eq p0_.1],blk ga.1 95 [eq ga.2.1],mpo Value.string DDag.O ga.2.1 a0.fdags])))) nofun fun gi _=>?_
 refine as0 rfl rfl<|.fin<|wg (VView.shut (p:=p0_) (m:=a0) (ga.1,ga.2) haa (pm 4 [1,2,0,3])) fun _ _=>?_
 obtain rfl:=Gets.out H
 exact rt i2 rfl gi 3 [1,0,2] 1 (.cons (res_tmp rfl) .nil)
theorem view_View_Peers.c {p0_:OV} (h:view_View_Peers.f k a0 a1=some r):Tr prog 144 [eq p0_.1,vS a1] [VView.O p0_ a0] (γ:=OV) (fun _=>True) (fun g=>eq g.1) (fun g=>[VView.O p0_ a0,own strK g.1 r]):=by
 unfold view_View_Peers.f at h
 refine tb func144 ntmps144 h fun R0 F H=>?_
 refine WP.seq<|rg 1 0<|as0 rfl rfl<|.fin<|WP.seq<|rg 1 0<|as0 rfl rfl<|.fin<|WP.seqn H (fun qa:(Int×Int×Bool×(List ByteArray)×(List ByteArray))×OV×OV=>qa.1) (fun qa:(Int×Int×Bool×(List ByteArray)×(List ByteArray))×OV×OV=>[(0,eq p0_.1),(1,vS a1),(4,eq (.slice none 0 0)),(5,eq qa.2.1.1),(10,eq qa.2.2.1),(11,vI qa.1.1),(12,vI qa.1.2.1),(13,vB qa.1.2.2.1)]) (fun qa:(Int×Int×Bool×(List ByteArray)×(List ByteArray))×OV×OV=>[VView.O p0_ a0,own strK qa.2.1.1 qa.1.2.2.2.1,own strK qa.2.2.1 qa.1.2.2.2.2]++F) (fun qa H=>?_) (fun H=>?_)
 ·
  obtain ⟨pa,va,vb⟩:=qa
  refine WP.seq<|rg 2 2<|mv0 rfl rfl<|el H fun ta haa H=>cx 3 [1,0,2] cal162 (slices_Sort_string.c haa (p0_:=va)) nofun fun _ _=>?_
  refine .fin<|WP.seq<|rg 3 2<|mv0 rfl rfl<|el H fun tc hac H=>cx 3 [0,1,2] cal163 (slices_Compact_string.c hac (p0_:=va)) nofun fun ga _=>?_
  refine as0 rfl rfl<|.fin ?_
  obtain rfl:=Gets.out H
  exact rt i2 rfl ga 3 [2,1,0] 1 (.cons (res_tmp rfl) .nil)
 refine WP.seq<|rg 5 4<|mv0 rfl rfl<|mv0 rfl rfl<|el H fun te had H=>cx 1 [0] cal161 (view_View_RoomsOf.c had (p0_:=p0_)) nofun fun gb _=>?_
 refine Dv.lenw rfl trivial rfl (mem_at 1 rfl) underlying53<|mv0 rfl rfl<|.fin<|WP.block<|wg (st_nil strK none) fun _ _=>?_
 refine wg (sg 3 [1,2,0] 0) fun _ _=>?_
 refine lp (fun j_ (pc:Int×(List ByteArray)×OV)=>view_View_Peers.l0 k a0 te j_ pc.1 pc.2.1) (0,([]:List ByteArray),nilV) H (fun pc=>[(0,eq p0_.1),(1,vS a1),(4,eq (.slice none 0 0)),(5,eq pc.2.2.1),(10,eq gb.1),(11,vI (te.length:Int)),(12,vI pc.1)]) (fun pc=>[VView.O p0_ a0,own strK gb.1 te,own strK pc.2.2.1 pc.2.1]++F) ?_
 rintro j_ ⟨xa,xb,vd⟩ H
 rcases j_ with _ | ja
 ·
  exact (Gets.no H).elim
 try dsimp only at H
 rw [view_View_Peers.l0] at H
 refine WP.seq<|rg 1 0<|bn0 rfl rfl rfl run_lt<|.fin<|WP.seq<|cd H rfl (fun _ H=>?_) (fun _ H=>?_)
 rotate_left
 ·
  refine WP.exit ?_
  have H:=H.out
  refine ng (sg 3 [0,2,1] 0) fun _ _=>?_
  exact jn (((te.length:Int),xa,decide (xa<(te.length:Int)),xb,te),vd,gb) H
 refine WP.skip<|WP.seq<|WP.block<|WP.seq<|rg 3 0<|gr H fun gi H=>?_
 have hae:xa.toNat<te.length:=idx_lt gi
 refine Dv.ixw rfl trivial rfl (mem_at 1 rfl) rfl underlying53 underlying9 c9 gi.1 gi.2<|Dv.ldw (j:=xa.toNat) (f:=0) (p:=vS (te.getD xa.toNat default)) rfl trivial rfl (mem_at 1 rfl) hae underlying9 rfl rfl<|as0 rfl rfl<|.fin<|rg 6 24<|mv0 rfl rfl<|mv0 rfl rfl<|mv0 rfl rfl<|vg (VView.opn 0 rfl) fun gj haf=>?_
 refine el H fun tf hag H=>cx 4 [0,1,2,3] cal145 (Tr.weak (view_View_Servers.c hag (b0_:=gj.1) (v0_0:=gj.2)) (.cons (wk_ptr haf) (.cons wk_id .nil))) nofun fun gk _=>?_
 refine gr H fun gl H=>ap strK 4 tf (src_own (mem_at 2 rfl)) underlying53 (.inr ⟨_,underlying53⟩) inf9 gl nofun fun vh=>?_
 refine as0 rfl rfl<|.fin<|rg 2 0<|bn0 rfl rfl rfl run_add<|mv0 rfl rfl<|.fin<|ng (VView.shut (p:=p0_) (m:=a0) (gj.1,gj.2) haf (pm 5 [0,1,2,3,4])) fun _ _=>?_
 refine ng (sg 4 [1,0,2,3] 1) fun _ _=>?_
 exact bk ja (w64 (xa+1),xb++tf,vh) H
theorem gate_reached.c {p0_:OV} (h:gate_reached.f k a0 a1=some r):Tr prog 114 [eq p0_.1,agg (Edu.enc a1)] [VView.O p0_ a0] (γ:=OV) (fun _=>True) (fun g=>eq g.1) (fun g=>[VView.O p0_ a0,own strK g.1 r]):=by
 unfold gate_reached.f at h
 refine tb func114 ntmps114 h fun R0 F H=>?_
 refine WP.seq<|rg 2 1<|Dv.box rfl trivial rfl cA nofun fun ba=>as0 rfl rfl<|.fin<|WP.seq<|WP.block<|WP.seq<|rg 4 0<|lds 0 rfl trivial rfl sg32 rfl rfl<|el H fun ta haa H=>cl rfl cal42 rfl (edu_May.c haa)<|un0 rfl rfl (run_not _)<|as0 rfl rfl<|.fin<|cd H rfl (fun _ H=>?_) (fun _ H=>?_)
 ·
  refine WP.seq<|rg 1 0<|as0 rfl rfl<|.fin<|wg (st_nil strK none) fun _ _=>?_
  obtain rfl:=Gets.out H
  exact rt i2 rfl nilV 3 [1,2,0] 1 (.cons (res_tmp rfl) .nil)
 refine WP.seq<|rg 4 0<|fb rfl trivial rfl fa32_0<|ld 0 rfl trivial rfl sc3 rfl rfl<|bn0 rfl rfl rfl run_eq<|as0 rfl rfl<|.fin<|cd H rfl (fun _ H=>?_) (fun _ H=>?_)
 ·
  refine WP.seq<|rg 5 8<|mv0 rfl rfl<|fb rfl trivial rfl fa32_2<|ld 0 rfl trivial rfl sc9 rfl rfl<|el H fun tc hac H=>cx 2 [1,0] cal144 (view_View_Peers.c hac (p0_:=p0_)) nofun fun ga _=>?_
  refine as0 rfl rfl<|.fin ?_
  obtain rfl:=Gets.out H
  exact rt i2 rfl ga 3 [2,0,1] 1 (.cons (res_tmp rfl) .nil)
 refine WP.skip<|WP.seq<|rg 5 8<|mv0 rfl rfl<|fb rfl trivial rfl fa32_1<|ld 0 rfl trivial rfl sc9 rfl rfl<|vg (VView.opn 1 rfl) fun gb had=>?_
 refine el H fun te hae H=>cx 3 [0,1,2] cal145 (Tr.weak (view_View_Servers.c hae (b0_:=gb.1) (v0_0:=gb.2)) (.cons (wk_ptr had) (.cons wk_id .nil))) nofun fun gi _=>?_
 refine as0 rfl rfl<|.fin<|wg (VView.shut (p:=p0_) (m:=a0) (gb.1,gb.2) had (pm 4 [0,1,2,3])) fun _ _=>?_
 obtain rfl:=Gets.out H
 exact rt i2 rfl gi 3 [2,0,1] 1 (.cons (res_tmp rfl) .nil)
theorem gate_Passes.c {p0_:OV} (h:gate_Passes.f k a0 a1 a2=some r):Tr prog 84 [eq p0_.1,vS a1,agg (Edu.enc a2)] [VView.O p0_ a0] (γ:=Unit) (fun _=>True) (fun g=>vB r) (fun g=>[VView.O p0_ a0]):=by
 unfold gate_Passes.f at h
 refine tb func84 ntmps84 h fun R0 F H=>?_
 refine WP.seq<|rg 2 1<|Dv.box rfl trivial rfl cA nofun fun ba=>as0 rfl rfl<|.fin<|WP.seq<|rg 6 4<|mv0 rfl rfl<|lds 0 rfl trivial rfl sg32 rfl rfl<|el H fun ta haa H=>cx 2 [1,0] cal114 (gate_reached.c haa (p0_:=p0_)) nofun fun ga _=>?_
 refine mv0 rfl rfl<|el H fun tc hac H=>cll (B:=[own strK ga.1 ta]) 3 [1,0,2] cal113 (Pt.lend _ (slices_Contains_string.c hac) (.cons (lt_own (mem_at 0 rfl)) (.cons lt_id .nil)) flat_eq) ?_
 refine as0 rfl rfl<|.fin ?_
 cases H.out; exact rt i2 rfl () 3 [1,2,0] 2 (.cons (res_tmp rfl) .nil)
theorem gate_Choose_1.c {cb0_:Nat} {cq0_:OV} {c0:VView} {c1:ByteArray} (h:gate_Choose_1.f k a0 c0 c1=some r):Tr prog 83 [agg (Edu.enc a0),eq (.pointer (some ⟨cb0_,0,none⟩)),rp [vS c1]] [blk cb0_ 26 [eq cq0_.1],VView.O cq0_ c0] (γ:=Unit) (fun _=>True) (fun g=>vB r) (fun g=>[blk cb0_ 26 [eq cq0_.1],VView.O cq0_ c0]):=by
 unfold gate_Choose_1.f at h
 refine tb func83 ntmps83 h fun R0 F H=>?_
 refine WP.seq<|rg 2 1<|Dv.box rfl trivial rfl cA nofun fun ba=>as0 rfl rfl<|.fin<|WP.seq<|rg 6 8<|ld 1 rfl trivial rfl sc26 rfl rfl<|ldR rfl trivial rfl sc9 rfl<|lds 0 rfl trivial rfl sg32 rfl rfl<|el H fun ta haa H=>cx 3 [2,0,1] cal84 (gate_Passes.c haa (p0_:=cq0_)) nofun fun _ _=>?_
 refine un0 rfl rfl (run_not _)<|as0 rfl rfl<|.fin ?_
 cases H.out; exact rt i2 rfl () 3 [1,2,0] 1 (.cons (res_tmp rfl) .nil)
theorem gate_Choose.c {p0_:OV} (h:gate_Choose.f k a0 a1 a2=some r):Tr prog 49 [eq p0_.1,vS a1,sl Edu.K a2] [VView.O p0_ a0] (γ:=Unit) (fun _=>True) (fun g=>sl Edu.K r) (fun g=>[VView.O p0_ a0]):=by
 unfold gate_Choose.f at h
 refine tb func49 ntmps49 h fun R0 F H=>?_
 refine WP.seq<|rg 3 3<|Dv.box rfl trivial rfl (cells_one one_ov) nofun fun ba=>Dv.box rfl trivial rfl cE nofun fun bc=>as0 rfl rfl<|.fin<|WP.seq<|rg 5 10<|mv0 rfl rfl<|el H fun ta haa H=>cx 3 [0,1,2] cal80 (slices_Clone_Edu.c haa) nofun fun ga _=>?_
 refine Dv.gh (gh_frzb (E':=[(0,eq p0_.1),(1,vS a1),(2,sl Edu.K a2),(3,eq (.pointer (some ⟨ba,0,none⟩))),(4,rp [vS a1]),(6,eq (.slice none 0 0)),(8,eq ga.1)]) (l':=[own Edu.K ga.1 ta,blk ba 26 [eq p0_.1],VView.O p0_ a0]++F) 1 rfl (cve_cons rfl cv_id (cve_cons rfl cv_id (cve_cons rfl cv_id (cve_cons rfl cv_id (cve_cons rfl cv_eq (cve_cons rfl cv_id (cve_cons rfl cv_id cve_nil))))))) (all2_app (.cons cva_id (.cons cva_id (.cons cva_id .nil))) fun _=>cva_id)) (fun _ _=>?_)
 refine Dv.mkx (Q:=fqQ_api_Edu_bool (fun a0_=>gate_Choose_1.f k a0_ a0 a1)) (L:=[blk ba 26 [eq p0_.1],VView.O p0_ a0]) cal83 (by rintro _ _ ⟨a0_,r_,h_,rfl,rfl⟩; exact gate_Choose_1.c h_ (cb0_:=ba) (cq0_:=p0_)) rfl trivial rfl rfl<|el H fun tc hac H=>cx 3 [0,1,2] cal82 (Tr.unpko (A:=[own Edu.K ga.1 ta]) (L:=[blk ba 26 [eq p0_.1],VView.O p0_ a0]) (B:=fun gb:OV=>[own Edu.K gb.1 tc]) (slices_DeleteFunc_Edu_xo.c hac (p0_:=ga) (X1_:=(pk [blk ba 26 [eq p0_.1],VView.O p0_ a0])))) nofun fun gb _=>?_
 refine as0 rfl rfl<|.fin<|WP.gh (gh_frz (E':=[(6,sl Edu.K tc)]) (l':=[blk ba 26 [eq p0_.1],VView.O p0_ a0]++F) 2 rfl (cve_cons rfl cv_eq cve_nil) (all2_app (.cons cva_id (.cons cva_id .nil)) fun _=>cva_id)) (fun _ _=>?_)
 cases H.out; exact rt i2 rfl () 2 [0,1] 1 (.cons (res_tmp rfl) .nil)
theorem clock_Backoff.c (h:clock_Backoff.f k a0=some r):Pt prog 53 [vI a0] (vI r):=by
 unfold clock_Backoff.f at h
 refine pb func53 ntmps53 h fun R0 F H=>?_
 refine WP.seq<|rg 1 0<|as0 rfl rfl<|.fin<|WP.seq<|rg 1 0<|as0 rfl rfl<|.fin<|WP.seqn H id (fun pa:Int×Int×Bool=>[(0,vI a0),(2,vI 0),(3,vI pa.1),(6,vI (min (max a0 0) 9)),(7,vI pa.2.1),(8,vB pa.2.2)]) (fun pa:Int×Int×Bool=>F) (fun pa H=>?_) (fun H=>?_)
 ·
  refine WP.seq<|rg 2 0<|mv0 rfl rfl<|as0 rfl rfl<|.fin ?_
  cases H.out; exact r0 i2 rfl (.cons (res_tmp rfl) .nil)
 refine WP.seq<|rg 4 0<|mv0 rfl rfl<|Dv.maxi rfl trivial rfl rfl<|Dv.mini rfl trivial rfl rfl<|mv0 rfl rfl<|.fin<|WP.block<|wg (sg 0 [] 0) fun _ _=>?_
 refine lp (fun j_ (pc:Int×Int)=>clock_Backoff.l0 k a0 j_ pc.1 pc.2) (1,0) H (fun pc=>[(0,vI a0),(2,vI 0),(3,vI pc.1),(6,vI (min (max a0 0) 9)),(7,vI pc.2)]) (fun pc=>F) ?_
 rintro j_ ⟨xa,xb⟩ H
 rcases j_ with _ | ja
 ·
  exact (Gets.no H).elim
 try dsimp only at H
 rw [clock_Backoff.l0] at H
 refine WP.seq<|rg 1 0<|bn0 rfl rfl rfl run_lt<|.fin<|WP.seq<|cd H rfl (fun _ H=>?_) (fun _ H=>?_)
 rotate_left
 ·
  refine WP.exit ?_
  have H:=H.out
  exact jn (xa,xb,decide (xb<(min (max a0 0) 9))) H
 exact WP.skip<|WP.seq<|WP.block<|rg 4 0<|mv0 rfl rfl<|bn0 rfl rfl rfl run_mul<|Dv.mini rfl trivial rfl rfl<|as0 rfl rfl<|.fin<|rg 2 0<|bn0 rfl rfl rfl run_add<|mv0 rfl rfl<|.fin<|bk ja (min (w64 (2*xa)) 16,w64 (xb+1)) H
theorem sender_Sender_again.c {p0_ p1_:OV} (h:sender_Sender_again.f k a0 a1 a2=some r):Tr prog 46 [eq p0_.1,eq p1_.1,vI a2] [SSnd.O p0_ a0,VView.O p1_ a1] (γ:=Unit) (fun _=>True) (fun g=>vB r.1) (fun g=>[SSnd.O p0_ r.2,VView.O p1_ a1]):=by
 unfold sender_Sender_again.f at h
 refine tb func46 ntmps46 h fun R0 F H=>?_
 refine WP.seq<|rg 1 0<|as0 rfl rfl<|.fin<|WP.seq<|wg (SSnd.opn 0 rfl) fun ga haa=>?_
 refine gr H fun gb H=>wg (opt_some 3 rfl (isN gb)) fun _ _=>?_
 refine wg (Fly.opn 0 rfl) fun gi hac=>?_
 refine dg Tryz.checked.mixed 15 8192<|mv0 rfl rfl<|mv0 rfl rfl<|Dv.nilpp haa rfl trivial rfl<|fp haa rfl trivial rfl fa40_2<|ld 1 rfl trivial rfl sc9 rfl rfl<|mv0 rfl rfl<|Dv.nilpp haa rfl trivial rfl<|fp haa rfl trivial rfl fa40_4<|ld 1 rfl trivial rfl sc38 rfl rfl<|Dv.nilpp hac rfl trivial rfl<|fp hac rfl trivial rfl fa111_0<|fb rfl trivial rfl fa46_4<|ld 0 rfl trivial rfl sc23 rfl rfl<|el H fun ta had H=>cx 5 [4,0,1,2,3] cal49 (gate_Choose.c had (p0_:=p1_)) pC fun _ _=>?_
 refine as0 rfl rfl<|.fin<|WP.seq<|WP.seq<|rg 3 0<|mv0 rfl rfl<|Dv.lenl rfl trivial rfl underlying23<|bn0 rfl rfl rfl run_eq<|.fin<|cd H rfl (fun _ H=>?_) (fun _ H=>?_)
 ·
  refine WP.seq<|rg 4 8<|mv0 rfl rfl<|Dv.nilpp haa rfl trivial rfl<|fp haa rfl trivial rfl fa40_4<|sx 2 rfl trivial rfl rfl cE sz38 rfl rfl rfl nofun ?_
  refine .fin<|WP.seq<|rg 1 0<|as0 rfl rfl<|.fin<|wg (st_nilP (O:=Fly.O)) fun _ _=>?_
  refine wg (SSnd.shut (p:=p0_) (m:=(⟨a0.fQueue,a0.fself,a0.fto,a0.fids,none⟩:SSnd)) (ga.1,ga.2.1,ga.2.2.1,nilP) haa (pm 6 [3,4,5,0,1,2])) fun _ _=>?_
  refine wg (Fly.shut (p:=ga.2.2.2) (m:=a0.fair.getD default) gi hac (pm 3 [2,0,1])) fun _ _=>?_
  refine wg (opt_back0 (O:=Fly.O) (o:=a0.fair) (isN gb) 0 rfl) fun _ _=>?_
  cases H.out; exact rt i2 rfl () 3 [0,1,2] 1 (.cons (res_tmp rfl) .nil)
 refine WP.skip<|WP.seq<|rg 9 256<|mv0 rfl rfl<|Dv.nilpp haa rfl trivial rfl<|fp haa rfl trivial rfl fa40_4<|ld 2 rfl trivial rfl sc38 rfl rfl<|mv0 rfl rfl<|Dv.nilpp hac rfl trivial rfl<|fp hac rfl trivial rfl fa111_0<|fb rfl trivial rfl fa46_4<|sx 1 rfl trivial rfl rfl (cells_one one_sl) sz23 rfl rfl rfl nofun ?_
 refine .fin<|WP.seq<|rg 11 1024<|mv0 rfl rfl<|Dv.nilpp haa rfl trivial rfl<|fp haa rfl trivial rfl fa40_4<|ld 2 rfl trivial rfl sc38 rfl rfl<|Dv.nilpp hac rfl trivial rfl<|fp hac rfl trivial rfl fa111_1<|ld 1 rfl trivial rfl sc3 rfl rfl<|bn0 rfl rfl rfl run_add<|Dv.nilpp hac rfl trivial rfl<|fp hac rfl trivial rfl fa111_1<|sx 1 rfl trivial rfl rfl cE sz3 rfl rfl rfl nofun ?_
 refine .fin<|WP.seq<|dg Tryz.checked.mixed 17 65536<|mv0 rfl rfl<|Dv.nilpp haa rfl trivial rfl<|fp haa rfl trivial rfl fa40_4<|ld 2 rfl trivial rfl sc38 rfl rfl<|mv0 rfl rfl<|mv0 rfl rfl<|Dv.nilpp haa rfl trivial rfl<|fp haa rfl trivial rfl fa40_4<|ld 2 rfl trivial rfl sc38 rfl rfl<|Dv.nilpp hac rfl trivial rfl<|fp hac rfl trivial rfl fa111_1<|ld 1 rfl trivial rfl sc3 rfl rfl<|el H fun tc hae H=>cl rfl cal53 rfl (clock_Backoff.c hae)<|bn0 rfl rfl rfl run_add<|Dv.nilpp hac rfl trivial rfl<|fp hac rfl trivial rfl fa111_2<|sx 1 rfl trivial rfl rfl cE sz3 rfl rfl rfl pB ?_
 refine .fin<|WP.seq<|rg 1 0<|as0 rfl rfl<|.fin<|wg (Fly.shut (p:=ga.2.2.2) (m:=(⟨(⟨((a0.fair.getD default).fp).fAck,((a0.fair.getD default).fp).fFrom,((a0.fair.getD default).fp).fTo,((a0.fair.getD default).fp).fID,ta⟩:Par),w64 (((a0.fair.getD default).ftries)+1),w64 (a2+tc)⟩:Fly)) gi hac (pm 5 [1,0,2,3,4])) fun _ _=>?_
 refine wg (opt_back1 (O:=Fly.O) 0 rfl) fun _ _=>?_
 refine wg (SSnd.shut (p:=p0_) (m:=(⟨a0.fQueue,a0.fself,a0.fto,a0.fids,some (⟨(⟨((a0.fair.getD default).fp).fAck,((a0.fair.getD default).fp).fFrom,((a0.fair.getD default).fp).fTo,((a0.fair.getD default).fp).fID,ta⟩:Par),w64 (((a0.fair.getD default).ftries)+1),w64 (a2+tc)⟩:Fly)⟩:SSnd)) (ga.1,ga.2.1,ga.2.2.1,ga.2.2.2) haa (pm 5 [2,3,4,0,1])) fun _ _=>?_
 cases H.out; exact rt i2 rfl () 2 [0,1] 0 (.cons (res_tmp rfl) .nil)
theorem sender_Sender_told.c {v0_0 v0_1 v0_2 v0_3 v0_4:OV} {b0_ d0_0 d0_1:Nat} {e0_0:v0_0.1 = .pointer (some ⟨d0_0,0,none⟩)} {e0_1:v0_1.1 = .pointer (some ⟨d0_1,0,none⟩)} (h:sender_Sender_told.f a0=some r):Tr prog 47 [eq (.pointer (some ⟨b0_,0,none⟩))] [blk b0_ 40 [eq v0_0.1,vS a0.fself,vS a0.fto,eq v0_1.1,eq v0_2.1],blk d0_0 107 [vI a0.fQueue.fmost,eq v0_3.1,eq v0_4.1,vI a0.fQueue.flost],own EKey.K v0_3.1 a0.fQueue.fkeys,mp EKey.kv (fun x:Edu=>agg (Edu.enc x)) v0_4.1 a0.fQueue.fat,blk d0_1 173 [vI a0.fids.fn.fv,vI a0.fids.fmost],optO Fly.O v0_2 a0.fair] (γ:=Unit) (fun _=>True) (fun g=>agg (Par.enc r)) (fun g=>[blk b0_ 40 [eq v0_0.1,vS a0.fself,vS a0.fto,eq v0_1.1,eq v0_2.1],blk d0_0 107 [vI a0.fQueue.fmost,eq v0_3.1,eq v0_4.1,vI a0.fQueue.flost],own EKey.K v0_3.1 a0.fQueue.fkeys,mp EKey.kv (fun x:Edu=>agg (Edu.enc x)) v0_4.1 a0.fQueue.fat,blk d0_1 173 [vI a0.fids.fn.fv,vI a0.fids.fmost],optO Fly.O v0_2 a0.fair]):=by
 unfold sender_Sender_told.f at h
 refine tb func47 ntmps47 h fun R0 F H=>?_
 refine WP.seq<|rg 1 1<|al rfl trivial zc46 nofun fun ba=>.fin<|WP.seq<|rg 9 384<|mv0 rfl rfl<|Dv.nilp rfl trivial rfl<|fb rfl trivial rfl fa40_4<|ld 1 rfl trivial rfl sc38 rfl rfl<|gr H fun ga H=>vg (opt_some 6 rfl (isN ga)) fun _ _=>?_
 refine Dv.nilA Fly.nn rfl trivial rfl (mem_at 0 rfl)<|vg (Fly.opn 0 rfl) fun gb haa=>?_
 refine fp haa rfl trivial rfl fa111_0<|lds 0 rfl trivial rfl sg46 rfl rfl<|al rfl trivial zc46 nofun fun bc=>sx 0 rfl trivial rfl rfl cA sz46 rfl rfl rfl nofun ?_
 refine .fin<|WP.seq<|rg 5 20<|fb rfl trivial rfl fa46_4<|ld 0 rfl trivial rfl sc23 rfl rfl<|el H fun ta hac H=>cx 8 [0,1,2,3,4,5,6,7] cal80 (slices_Clone_Edu.c hac) nofun fun gi _=>?_
 refine fb rfl trivial rfl fa46_4<|sx 1 rfl trivial rfl rfl (cells_one one_ov) sz23 rfl rfl rfl nofun ?_
 refine .fin<|WP.seq<|rg 2 2<|lds 1 rfl trivial rfl sg46 rfl rfl<|sx 3 rfl trivial rfl rfl cA sz46 rfl rfl rfl nofun ?_
 refine .fin<|wg (Fly.shut (p:=v0_2) (m:=a0.fair.getD default) gb haa (pm 9 [2,0,1,3,4,5,6,7,8])) fun _ _=>?_
 refine wg (opt_back0 (O:=Fly.O) (o:=a0.fair) (isN ga) 0 rfl) fun _ _=>?_
 refine WP.gh (gh_frz (E':=[(2,eq (.pointer (some ⟨ba,0,none⟩)))]) (l':=[optO Fly.O v0_2 a0.fair,blk bc 46 [vB (((a0.fair.getD default).fp).fAck),vS (((a0.fair.getD default).fp).fFrom),vS (((a0.fair.getD default).fp).fTo),vI (((a0.fair.getD default).fp).fID),sl Edu.K ta],blk ba 46 [vB (((a0.fair.getD default).fp).fAck),vS (((a0.fair.getD default).fp).fFrom),vS (((a0.fair.getD default).fp).fTo),vI (((a0.fair.getD default).fp).fID),sl Edu.K ta],blk b0_ 40 [eq v0_0.1,vS a0.fself,vS a0.fto,eq v0_1.1,eq v0_2.1],blk d0_0 107 [vI a0.fQueue.fmost,eq v0_3.1,eq v0_4.1,vI a0.fQueue.flost],own EKey.K v0_3.1 a0.fQueue.fkeys,mp EKey.kv (fun x:Edu=>agg (Edu.enc x)) v0_4.1 a0.fQueue.fat,blk d0_1 173 [vI a0.fids.fn.fv,vI a0.fids.fmost]]++F) 1 rfl (cve_cons rfl cv_id cve_nil) (all2_app (.cons cva_id (.cons (cva_blk (.cons cv_id (.cons cv_id (.cons cv_id (.cons cv_id (.cons cv_eq .nil)))))) (.cons (cva_blk (.cons cv_id (.cons cv_id (.cons cv_id (.cons cv_id (.cons cv_eq .nil)))))) (.cons cva_id (.cons cva_id (.cons cva_id (.cons cva_id (.cons cva_id .nil)))))))) fun _=>cva_id)) (fun _ _=>?_)
 cases H.out; exact rt i2 rfl () 8 [1,2,3,4,5,6,7,0] 2 (.cons (res_cells rfl underlying46 rfl c46 (mem_at 2 rfl) rfl) .nil)
theorem slices_ContainsFunc_Edu_x.c {X1_:As} (h:slices_ContainsFunc_Edu_x.f k a0 a1=some r):Tr prog 66 [sl Edu.K a0,fx_api_Edu_bool X1_ a1] [X1_] (γ:=Unit) (fun _=>True) (fun g=>vB r) (fun g=>[X1_]):=by
 unfold slices_ContainsFunc_Edu_x.f at h
 refine tb func66 ntmps66 h fun R0 F H=>?_
 refine WP.seq<|rg 1 0<|as0 rfl rfl<|.fin<|WP.seq<|rg 5 0<|mv0 rfl rfl<|mv0 rfl rfl<|el H fun ta haa H=>cll 1 [0] cal101 (slices_IndexFunc_Edu_x.c haa (X1_:=X1_)) ?_
 refine bn0 rfl rfl rfl run_ge<|as0 rfl rfl<|.fin ?_
 cases H.out; exact rt i2 rfl () 1 [0] 0 (.cons (res_tmp rfl) .nil)
theorem queue_Queue_Keep_1.c {c0:Edu} (h:queue_Queue_Keep_1.f a0 c0=some r):Pt prog 81 [agg (Edu.enc a0),rp [vI c0.fKind,vS c0.fRoom,vS c0.fUser,vS c0.fEvent,vS c0.fThread,vB c0.fPrivate,vB c0.fOn,vI c0.fSpan,vI c0.fState,vI c0.fTick,vI c0.fStamp]] (vB r):=by
 unfold queue_Queue_Keep_1.f at h
 refine pb func81 ntmps81 h fun R0 F H=>?_
 refine WP.seq<|rg 2 1<|Dv.box rfl trivial rfl cA nofun fun ba=>as0 rfl rfl<|.fin<|WP.seq<|rg 6 0<|lds 0 rfl trivial rfl sg32 rfl rfl<|Dv.blda (qs:=[vI a0.fKind,vS a0.fRoom,vS a0.fUser,vS a0.fEvent,vS a0.fThread,vB a0.fPrivate,vB a0.fOn,vI a0.fSpan,vI a0.fState,vI a0.fTick,vI a0.fStamp]) (css:=[Edu.enc a0]) rfl trivial underlying150 underlying32 c32 z150 rfl ⟨(cells_agg (Edu.K.one _)),trivial⟩ rfl rfl<|ldsR rfl trivial rfl sg32 rfl<|Dv.blda (qs:=[vI c0.fKind,vS c0.fRoom,vS c0.fUser,vS c0.fEvent,vS c0.fThread,vB c0.fPrivate,vB c0.fOn,vI c0.fSpan,vI c0.fState,vI c0.fTick,vI c0.fStamp]) (css:=[Edu.enc c0]) rfl trivial underlying150 underlying32 c32 z150 rfl ⟨(cells_agg (Edu.K.one _)),trivial⟩ rfl rfl<|Dv.eqs [.int .i64 a0.fKind,.string a0.fRoom,.string a0.fUser,.string a0.fEvent,.string a0.fThread,.bool a0.fPrivate,.bool a0.fOn,.int .i64 a0.fSpan,.int .i64 a0.fState,.int .i64 a0.fTick,.int .i64 a0.fStamp] [.int .i64 c0.fKind,.string c0.fRoom,.string c0.fUser,.string c0.fEvent,.string c0.fThread,.bool c0.fPrivate,.bool c0.fOn,.int .i64 c0.fSpan,.int .i64 c0.fState,.int .i64 c0.fTick,.int .i64 c0.fStamp] rfl trivial rfl rfl rfl rfl eg150 (fun _=>equal_of 3 (by decide) (fun _=>eq_arr1 underlying150 underlying32 rfl c32 rfl rfl (eqt32 a0 c0)))<|as0 rfl rfl<|.fin ?_
 cases H.out; exact r1 i2 rfl (.cons (res_tmp rfl) .nil)
theorem queue_Queue_Keep.c {p0_:OV} (h:queue_Queue_Keep.f k a0 a1=some r):Tr prog 48 [eq p0_.1,sl Edu.K a1] [SQue.O p0_ a0] (γ:=Unit) (fun _=>True) (fun g=>tup []) (fun g=>[SQue.O p0_ r]):=by
 unfold queue_Queue_Keep.f at h
 refine tb func48 ntmps48 h fun R0 F H=>?_
 refine WP.seq<|rg 4 0<|mv0 rfl rfl<|vg (SQue.opn 0 rfl) fun ga haa=>?_
 refine el H fun ta hac H=>cll 3 [0,1,2] cal18 (Tr.weak (queue_Queue_All.c hac (b0_:=ga.1) (v0_0:=ga.2.1) (v0_1:=ga.2.2)) (.cons (wk_ptr haa) .nil)) ?_
 refine Dv.lenl rfl trivial rfl underlying23<|mv0 rfl rfl<|.fin<|WP.block<|wg (SQue.shut (p:=p0_) (m:=a0) (ga.1,ga.2.1,ga.2.2) haa (pm 3 [0,1,2])) fun _ _=>?_
 refine wg (sg 1 [0] 0) fun _ _=>?_
 refine lp (fun j_ (pa:Int×SQue)=>queue_Queue_Keep.l0 k a1 ta j_ pa.1 pa.2) (0,a0) H (fun pa=>[(0,eq p0_.1),(1,sl Edu.K a1),(8,sl Edu.K ta),(9,vI (ta.length:Int)),(10,vI pa.1)]) (fun pa=>[SQue.O p0_ pa.2]++F) ?_
 rintro j_ ⟨xa,xb⟩ H
 rcases j_ with _ | ja
 ·
  exact (Gets.no H).elim
 try dsimp only at H
 rw [queue_Queue_Keep.l0] at H
 refine WP.seq<|rg 1 0<|bn0 rfl rfl rfl run_lt<|.fin<|WP.seq<|cd H rfl (fun _ H=>?_) (fun _ H=>?_)
 rotate_left
 ·
  refine WP.exit ?_
  obtain rfl:=Gets.out H
  exact re rfl () 1 [0] 0 .nil
 refine WP.skip<|WP.seq<|WP.block<|WP.seq<|rg 4 12<|gr H fun gb H=>Dv.ixr rfl trivial rfl rfl underlying23 underlying32 c32 gb.1 gb.2<|ldsR rfl trivial rfl sg32 rfl<|al rfl trivial zc32 nofun fun ba=>sx 0 rfl trivial rfl rfl cA sz32 rfl rfl rfl nofun ?_
 refine .fin<|WP.seq<|rg 2 0<|Dv.gh (gh_frzb (E':=[(0,eq p0_.1),(1,sl Edu.K a1),(5,rp [vI ((Edu.K.at ta xa).fKind),vS ((Edu.K.at ta xa).fRoom),vS ((Edu.K.at ta xa).fUser),vS ((Edu.K.at ta xa).fEvent),vS ((Edu.K.at ta xa).fThread),vB ((Edu.K.at ta xa).fPrivate),vB ((Edu.K.at ta xa).fOn),vI ((Edu.K.at ta xa).fSpan),vI ((Edu.K.at ta xa).fState),vI ((Edu.K.at ta xa).fTick),vI ((Edu.K.at ta xa).fStamp)]),(8,sl Edu.K ta),(9,vI (ta.length:Int)),(10,vI xa),(11,vB (decide (xa<(ta.length:Int))))]) (l':=[SQue.O p0_ xb]++F) 0 rfl (cve_cons rfl cv_id (cve_cons rfl cv_id (cve_cons rfl cv_eq (cve_cons rfl cv_id (cve_cons rfl cv_id (cve_cons rfl cv_id (cve_cons rfl cv_id cve_nil))))))) (all2_app (.cons cva_id .nil) fun _=>cva_id)) (fun _ _=>?_)
 refine Dv.mkx (Q:=fqQ_api_Edu_bool (fun a0_=>queue_Queue_Keep_1.f a0_ (Edu.K.at ta xa))) (L:=[]) cal81 (by rintro _ _ ⟨a0_,r_,h_,rfl,rfl⟩; exact (queue_Queue_Keep_1.c h_).tr) rfl trivial rfl rfl<|as0 rfl rfl<|.fin<|WP.seq<|rg 4 0<|mv0 rfl rfl<|mv0 rfl rfl<|el H fun tc had H=>cl rfl cal66 rfl ((Tr.unpkr (A:=[]) (L:=[]) (slices_ContainsFunc_Edu_x.c had (X1_:=(pk [])))).pt)<|un0 rfl rfl (run_not _)<|.fin<|cd H rfl (fun _ H=>?_) (fun _ H=>?_)
 rotate_left
 ·
  exact WP.skip<|rg 2 0<|bn0 rfl rfl rfl run_add<|mv0 rfl rfl<|.fin<|bk ja (w64 (xa+1),xb) H
 refine rg 4 8<|mv0 rfl rfl<|ldsR rfl trivial rfl sg32 rfl<|el H fun te hae H=>cl rfl cal43 rfl (edu_Of.c hae)<|el H fun tf haf H=>cx 1 [0] cal45 (queue_Queue_drop.c haf (p0_:=p0_)) nofun fun _ _=>?_
 exact .fin<|rg 2 0<|bn0 rfl rfl rfl run_add<|mv0 rfl rfl<|.fin<|bk ja (w64 (xa+1),tf) H
theorem queue_Queue_Len.c {v0_0 v0_1:OV} {b0_:Nat} (h:queue_Queue_Len.f a0=some r):Tr prog 50 [eq (.pointer (some ⟨b0_,0,none⟩))] [blk b0_ 107 [vI a0.fmost,eq v0_0.1,eq v0_1.1,vI a0.flost],own EKey.K v0_0.1 a0.fkeys,mp EKey.kv (fun x:Edu=>agg (Edu.enc x)) v0_1.1 a0.fat] (γ:=Unit) (fun _=>True) (fun g=>vI r) (fun g=>[blk b0_ 107 [vI a0.fmost,eq v0_0.1,eq v0_1.1,vI a0.flost],own EKey.K v0_0.1 a0.fkeys,mp EKey.kv (fun x:Edu=>agg (Edu.enc x)) v0_1.1 a0.fat]):=by
 unfold queue_Queue_Len.f at h
 refine tb func50 ntmps50 h fun R0 F H=>?_
 refine WP.seq<|rg 1 0<|as0 rfl rfl<|.fin<|WP.seq<|rg 6 0<|mv0 rfl rfl<|Dv.nilp rfl trivial rfl<|fb rfl trivial rfl fa107_1<|ld 0 rfl trivial rfl sc104 rfl rfl<|Dv.lenw rfl trivial rfl (mem_at 1 rfl) underlying104<|as0 rfl rfl<|.fin ?_
 cases H.out; exact rt i2 rfl () 3 [0,1,2] 0 (.cons (res_tmp rfl) .nil)
theorem atomic_Int64_Load.c {b off:Nat} {bT:TypeId} {qs:Cs} {n:Int} (h0:qs[off]? = some (vI n)):Tr prog 115 [eq (.pointer (some ⟨b,off,none⟩))] [blk b bT qs] (γ:=Unit) (fun _=>True) (fun _=>vI n) (fun _=>[blk b bT qs]):=by
 exact Tr.body func115 (c:=_) rfl ntmps115 (Nat.le_of_ble_eq_true rfl) fun R0 F=>WP.seq<|WP.reg [(0,false)] (by kernel_rfl)<|as0 rfl rfl<|.fin<|WP.seq<|WP.reg [(0,false),(1,false),(2,false),(3,false),(4,false)] (by kernel_rfl)<|mv0 rfl rfl<|Dv.nilp rfl trivial rfl<|fb rfl trivial rfl fa171_2<|Dv.cextr (A:=blk b bT qs) rfl trivial rfl (xt_load h0 func146 (by kernel_rfl) rfl xf146 xg146) (mem_at 0 rfl)<|as0 rfl rfl<|.fin<|rt i2 rfl () 1 [0] 0 (.cons (res_tmp rfl) .nil)
theorem atomic_Int64_CompareAndSwap.c {b off:Nat} {bT:TypeId} {qs:Cs} {n m:Int} (h0:qs[off]? = some (vI n)):Tr prog 116 [eq (.pointer (some ⟨b,off,none⟩)),vI n,vI m] [blk b bT qs] (γ:=Unit) (fun _=>True) (fun _=>vB true) (fun _=>[blk b bT (qs.set off (vI m))]):=by
 exact Tr.body func116 (c:=_) rfl ntmps116 (Nat.le_of_ble_eq_true rfl) fun R0 F=>WP.seq<|WP.reg [(0,false)] (by kernel_rfl)<|as0 rfl rfl<|.fin<|WP.seq<|WP.reg [(0,false),(1,false),(2,false),(3,false),(4,false),(5,true),(6,false)] (by kernel_rfl)<|mv0 rfl rfl<|Dv.nilp rfl trivial rfl<|fb rfl trivial rfl fa171_2<|mv0 rfl rfl<|mv0 rfl rfl<|Dv.cextb (jj:=0) (qs:=qs) rfl trivial rfl (xt_cas h0 func147 (by kernel_rfl) rfl xf147 xg147) rfl nofun<|as0 rfl rfl<|.fin<|rt i2 rfl () 1 [0] 0 (.cons (res_tmp rfl) .nil)
theorem clock_Counter_Add.c {p0_:OV} (h:clock_Counter_Add.f k a0 a1=some r):Tr prog 85 [eq p0_.1,vI a1] [Ctr.O p0_ a0] (γ:=Unit) (fun _=>True) (fun g=>tup [vI r.1,vI r.2.1]) (fun g=>[Ctr.O p0_ r.2.2]):=by
 unfold clock_Counter_Add.f at h
 refine tb func85 ntmps85 h fun R0 F H=>?_
 refine WP.seq<|rg 2 0<|as0 rfl rfl<|as0 rfl rfl<|.fin<|WP.seq<|WP.seq<|rg 2 0<|mv0 rfl rfl<|bn0 rfl rfl rfl run_lt<|.fin<|cd H rfl (fun _ H=>?_) (fun _ H=>?_)
 ·
  refine WP.seq<|rg 2 0<|as0 rfl rfl<|as0 rfl rfl<|.fin ?_
  cases H.out; exact rt i2 rfl () 1 [0] 0 (.cons (res_tmp rfl) (.cons (res_tmp rfl) .nil))
 refine WP.skip<|WP.block<|wg (sg 1 [0] 0) fun _ _=>?_
 refine lp (fun j_ (pa:Unit)=>clock_Counter_Add.l0 k a0 a1 j_) () H (fun pa=>[(0,eq p0_.1),(1,vI a1),(4,vI 0),(5,vI 0),(9,vB (decide (a1<0)))]) (fun pa=>[Ctr.O p0_ a0]++F) ?_
 rintro j_ ⟨⟩ H
 rcases j_ with _ | ja
 ·
  exact (Gets.no H).elim
 try dsimp only at H
 rw [clock_Counter_Add.l0] at H
 refine WP.block<|WP.seq<|rg 5 0<|mv0 rfl rfl<|Dv.nilA Ctr.nn rfl trivial rfl (mem_at 0 rfl)<|vg (Ctr.opn 0 rfl) fun ga haa=>?_
 refine fp haa rfl trivial rfl fa173_0<|cll 1 [0] cal115 (atomic_Int64_Load.c (b:=ga) (off:=0) (bT:=173) (qs:=[vI a0.fn.fv,vI a0.fmost]) (n:=a0.fn.fv) rfl) ?_
 refine as0 rfl rfl<|.fin<|WP.seq<|WP.seq<|rg 10 0<|mv0 rfl rfl<|bn0 rfl rfl rfl run_gt<|mv0 rfl rfl ?_
 cases cc:decide (0<a1)
 ·
  have H:=H.cf cc
  refine sk rfl rfl<|sk rfl rfl<|sk rfl rfl<|sk rfl rfl<|sk rfl rfl<|sk rfl rfl<|pf0 rfl rfl rfl<|.fin<|WP.cond rfl nofun (fun _=>?_)
  refine WP.skip<|WP.seq<|rg 5 0<|mv0 rfl rfl<|Dv.nilpp haa rfl trivial rfl<|fp haa rfl trivial rfl fa173_1<|ld 0 rfl trivial rfl sc2 rfl rfl<|as0 rfl rfl<|.fin<|WP.seqn H id (fun pc:Int=>[(0,eq p0_.1),(1,vI a1),(4,vI 0),(5,vI 0),(6,vI a0.fn.fv),(7,vI pc),(9,vB (decide (a1<0))),(23,vB false),(35,vB (decide (a1<(w64 (a0.fmost-a0.fn.fv)))))]) (fun pc:Int=>[Ctr.O p0_ a0]++F) (fun pc H=>?_) (fun H=>?_)
  rotate_left
  ·
   refine WP.seq<|rg 8 0<|mv0 rfl rfl<|mv0 rfl rfl<|Dv.nilpp haa rfl trivial rfl<|fp haa rfl trivial rfl fa173_1<|ld 0 rfl trivial rfl sc2 rfl rfl<|mv0 rfl rfl<|bn0 rfl rfl rfl run_sub<|bn0 rfl rfl rfl run_lt<|.fin<|cd H rfl (fun _ H=>?_) (fun _ H=>?_)
   rotate_left
   ·
    refine WP.skip ?_
    have H:=H.out
    refine ng (Ctr.shut (p:=p0_) (m:=a0) ga haa (pm 1 [0])) fun _ _=>?_
    exact jn a0.fmost H
   refine rg 4 0<|mv0 rfl rfl<|mv0 rfl rfl<|bn0 rfl rfl rfl run_add<|as0 rfl rfl<|.fin ?_
   have H:=H.out
   refine ng (Ctr.shut (p:=p0_) (m:=a0) ga haa (pm 1 [0])) fun _ _=>?_
   exact jn (w64 (a0.fn.fv+a1)) H
  refine WP.seq<|rg 10 256<|mv0 rfl rfl<|bn0 rfl rfl rfl run_eq<|mv0 rfl rfl ?_
  cases ce:(a1==0)
  rotate_left
  ·
   have H:=H.ct ce
   refine sk rfl rfl<|sk rfl rfl<|sk rfl rfl<|sk rfl rfl<|sk rfl rfl<|Dv.skipb rfl ⟨_,_,rfl,rfl,.inl rfl⟩ nofun<|pt0 rfl rfl rfl<|.fin<|WP.cond rfl (fun _=>?_) nofun
   refine WP.seq<|rg 3 0<|mv0 rfl rfl<|as0 rfl rfl<|as0 rfl rfl<|.fin ?_
   cases H.out; exact rt i2 rfl () 1 [0] 0 (.cons (res_tmp rfl) (.cons (res_tmp rfl) .nil))
  have H:=H.cf ce
  refine mvg rfl rfl rfl<|Dv.nilA Ctr.nn rfl (gg rfl) rfl (mem_at 0 rfl)<|vg (Ctr.opn 0 rfl) fun gb hac=>?_
  refine fp hac rfl (gg rfl) rfl fa173_0<|mvg rfl rfl rfl<|mvg rfl rfl rfl<|cx 1 [0] cal116 (atomic_Int64_CompareAndSwap.c (b:=gb) (off:=0) (bT:=173) (qs:=[vI a0.fn.fv,vI a0.fmost]) (n:=a0.fn.fv) (m:=pc) rfl) nofun fun _ _=>?_
  refine pf0 rfl rfl rfl<|.fin<|WP.cond rfl (fun _=>?_) nofun
  refine WP.seq<|rg 3 0<|mv0 rfl rfl<|as0 rfl rfl<|as0 rfl rfl<|.fin<|wg (Ctr.shut (p:=p0_) (m:=(⟨(⟨pc⟩:AtI),a0.fmost⟩:Ctr)) gb hac (pm 1 [0])) fun _ _=>?_
  cases H.out; exact rt i2 rfl () 1 [0] 0 (.cons (res_tmp rfl) (.cons (res_tmp rfl) .nil))
 have H:=H.ct cc
 refine mvg rfl rfl rfl<|mvg rfl rfl rfl<|Dv.nilpp haa rfl (gg rfl) rfl<|fp haa rfl (gg rfl) rfl fa173_1<|ld 0 rfl (gg rfl) rfl sc2 rfl rfl<|bng rfl rfl rfl rfl run_eq<|pt0 rfl rfl rfl<|.fin<|cd H rfl (fun _ H=>?_) (fun _ H=>?_)
 ·
  refine WP.seq<|rg 2 0<|as0 rfl rfl<|as0 rfl rfl<|.fin<|wg (Ctr.shut (p:=p0_) (m:=a0) ga haa (pm 1 [0])) fun _ _=>?_
  cases H.out; exact rt i2 rfl () 1 [0] 0 (.cons (res_tmp rfl) (.cons (res_tmp rfl) .nil))
 refine WP.skip<|WP.seq<|rg 5 0<|mv0 rfl rfl<|Dv.nilpp haa rfl trivial rfl<|fp haa rfl trivial rfl fa173_1<|ld 0 rfl trivial rfl sc2 rfl rfl<|as0 rfl rfl<|.fin<|WP.seqn H id (fun pd:Int=>[(0,eq p0_.1),(1,vI a1),(4,vI 0),(5,vI 0),(6,vI a0.fn.fv),(7,vI pd),(9,vB (decide (a1<0))),(23,vB (a0.fn.fv==a0.fmost)),(35,vB (decide (a1<(w64 (a0.fmost-a0.fn.fv)))))]) (fun pd:Int=>[Ctr.O p0_ a0]++F) (fun pd H=>?_) (fun H=>?_)
 rotate_left
 ·
  refine WP.seq<|rg 8 0<|mv0 rfl rfl<|mv0 rfl rfl<|Dv.nilpp haa rfl trivial rfl<|fp haa rfl trivial rfl fa173_1<|ld 0 rfl trivial rfl sc2 rfl rfl<|mv0 rfl rfl<|bn0 rfl rfl rfl run_sub<|bn0 rfl rfl rfl run_lt<|.fin<|cd H rfl (fun _ H=>?_) (fun _ H=>?_)
  rotate_left
  ·
   refine WP.skip ?_
   have H:=H.out
   refine ng (Ctr.shut (p:=p0_) (m:=a0) ga haa (pm 1 [0])) fun _ _=>?_
   exact jn a0.fmost H
  refine rg 4 0<|mv0 rfl rfl<|mv0 rfl rfl<|bn0 rfl rfl rfl run_add<|as0 rfl rfl<|.fin ?_
  have H:=H.out
  refine ng (Ctr.shut (p:=p0_) (m:=a0) ga haa (pm 1 [0])) fun _ _=>?_
  exact jn (w64 (a0.fn.fv+a1)) H
 refine WP.seq<|rg 10 256<|mv0 rfl rfl<|bn0 rfl rfl rfl run_eq<|mv0 rfl rfl ?_
 cases cg:(a1==0)
 rotate_left
 ·
  have H:=H.ct cg
  refine sk rfl rfl<|sk rfl rfl<|sk rfl rfl<|sk rfl rfl<|sk rfl rfl<|Dv.skipb rfl ⟨_,_,rfl,rfl,.inl rfl⟩ nofun<|pt0 rfl rfl rfl<|.fin<|WP.cond rfl (fun _=>?_) nofun
  refine WP.seq<|rg 3 0<|mv0 rfl rfl<|as0 rfl rfl<|as0 rfl rfl<|.fin ?_
  cases H.out; exact rt i2 rfl () 1 [0] 0 (.cons (res_tmp rfl) (.cons (res_tmp rfl) .nil))
 have H:=H.cf cg
 refine mvg rfl rfl rfl<|Dv.nilA Ctr.nn rfl (gg rfl) rfl (mem_at 0 rfl)<|vg (Ctr.opn 0 rfl) fun gi had=>?_
 refine fp had rfl (gg rfl) rfl fa173_0<|mvg rfl rfl rfl<|mvg rfl rfl rfl<|cx 1 [0] cal116 (atomic_Int64_CompareAndSwap.c (b:=gi) (off:=0) (bT:=173) (qs:=[vI a0.fn.fv,vI a0.fmost]) (n:=a0.fn.fv) (m:=pd) rfl) nofun fun _ _=>?_
 refine pf0 rfl rfl rfl<|.fin<|WP.cond rfl (fun _=>?_) nofun
 refine WP.seq<|rg 3 0<|mv0 rfl rfl<|as0 rfl rfl<|as0 rfl rfl<|.fin<|wg (Ctr.shut (p:=p0_) (m:=(⟨(⟨pd⟩:AtI),a0.fmost⟩:Ctr)) gi had (pm 1 [0])) fun _ _=>?_
 cases H.out; exact rt i2 rfl () 1 [0] 0 (.cons (res_tmp rfl) (.cons (res_tmp rfl) .nil))
theorem clock_Counter_Next.c {p0_:OV} (h:clock_Counter_Next.f k a0=some r):Tr prog 51 [eq p0_.1] [Ctr.O p0_ a0] (γ:=Unit) (fun _=>True) (fun g=>tup [vI r.1,vI r.2.1]) (fun g=>[Ctr.O p0_ r.2.2]):=by
 unfold clock_Counter_Next.f at h
 refine tb func51 ntmps51 h fun R0 F H=>?_
 refine WP.seq<|rg 2 0<|as0 rfl rfl<|as0 rfl rfl<|.fin<|WP.seq<|rg 6 2<|mv0 rfl rfl<|el H fun ta haa H=>cx 1 [0] cal85 (clock_Counter_Add.c haa (p0_:=p0_)) nofun fun _ _=>?_
 refine ex0 rfl trivial rfl rfl<|ex0 rfl trivial rfl rfl<|as0 rfl rfl<|as0 rfl rfl<|.fin ?_
 cases H.out; exact rt i2 rfl () 1 [0] 0 (.cons (res_tmp rfl) (.cons (res_tmp rfl) .nil))
theorem queue_Queue_Take.c {p0_:OV} (h:queue_Queue_Take.f k a0 a1=some r):Tr prog 52 [eq p0_.1,vI a1] [SQue.O p0_ a0] (γ:=Unit) (fun _=>True) (fun g=>sl Edu.K r.1) (fun g=>[SQue.O p0_ r.2]):=by
 unfold queue_Queue_Take.f at h
 refine tb func52 ntmps52 h fun R0 F H=>?_
 refine WP.seq<|rg 1 0<|as0 rfl rfl<|.fin<|WP.seq<|rg 3 0<|mv0 rfl rfl<|vg (SQue.opn 0 rfl) fun ga haa=>?_
 refine el H fun ta hac H=>cll 3 [0,1,2] cal18 (Tr.weak (queue_Queue_All.c hac (b0_:=ga.1) (v0_0:=ga.2.1) (v0_1:=ga.2.2)) (.cons (wk_ptr haa) .nil)) ?_
 refine as0 rfl rfl<|.fin<|WP.seq<|rg 8 0<|mv0 rfl rfl<|mv0 rfl rfl<|Dv.maxi rfl trivial rfl rfl<|mv0 rfl rfl<|Dv.lenl rfl trivial rfl underlying23<|Dv.mini rfl trivial rfl rfl<|gr H fun gb H=>Dv.sls rfl trivial rfl underlying23 underlying32 c32 bdE_none (bdE_some rfl gb.1) gb.2.1 gb.2.2<|as0 rfl rfl<|.fin<|WP.seqn H id (fun pa:Int×Bool×SQue=>[(0,eq p0_.1),(1,vI a1),(4,eq (.slice none 0 0)),(5,sl Edu.K ((ta.take ((min (max a1 0) (ta.length:Int)).toNat)).drop 0)),(17,sl Edu.K ((ta.take ((min (max a1 0) (ta.length:Int)).toNat)).drop 0)),(18,vI (((ta.take ((min (max a1 0) (ta.length:Int)).toNat)).drop 0).length:Int)),(19,vI pa.1),(20,vB pa.2.1)]) (fun pa:Int×Bool×SQue=>[SQue.O p0_ pa.2.2]++F) (fun pa H=>?_) (fun H=>?_)
 ·
  refine WP.seq<|rg 2 0<|mv0 rfl rfl<|as0 rfl rfl<|.fin ?_
  cases H.out; exact rt i2 rfl () 1 [0] 0 (.cons (res_tmp rfl) .nil)
 refine WP.seq<|rg 3 0<|mv0 rfl rfl<|Dv.lenl rfl trivial rfl underlying23<|mv0 rfl rfl<|.fin<|WP.block<|wg (SQue.shut (p:=p0_) (m:=a0) (ga.1,ga.2.1,ga.2.2) haa (pm 3 [0,1,2])) fun _ _=>?_
 refine wg (sg 1 [0] 0) fun _ _=>?_
 refine lp (fun j_ (pc:Int×SQue)=>queue_Queue_Take.l0 k a1 ta j_ pc.1 pc.2) (0,a0) H (fun pc=>[(0,eq p0_.1),(1,vI a1),(4,eq (.slice none 0 0)),(5,sl Edu.K ((ta.take ((min (max a1 0) (ta.length:Int)).toNat)).drop 0)),(17,sl Edu.K ((ta.take ((min (max a1 0) (ta.length:Int)).toNat)).drop 0)),(18,vI (((ta.take ((min (max a1 0) (ta.length:Int)).toNat)).drop 0).length:Int)),(19,vI pc.1)]) (fun pc=>[SQue.O p0_ pc.2]++F) ?_
 rintro j_ ⟨xa,xb⟩ H
 rcases j_ with _ | ja
 ·
  exact (Gets.no H).elim
 try dsimp only at H
 rw [queue_Queue_Take.l0] at H
 refine WP.seq<|rg 1 0<|bn0 rfl rfl rfl run_lt<|.fin<|WP.seq<|cd H rfl (fun _ H=>?_) (fun _ H=>?_)
 rotate_left
 ·
  refine WP.exit ?_
  have H:=H.out
  exact jn (xa,decide (xa<(((ta.take ((min (max a1 0) (ta.length:Int)).toNat)).drop 0).length:Int)),xb) H
 refine WP.skip<|WP.seq<|WP.block<|WP.seq<|rg 4 12<|gr H fun gi H=>Dv.ixr rfl trivial rfl rfl underlying23 underlying32 c32 gi.1 gi.2<|ldsR rfl trivial rfl sg32 rfl<|al rfl trivial zc32 nofun fun ba=>sx 0 rfl trivial rfl rfl cA sz32 rfl rfl rfl nofun ?_
 refine .fin<|rg 4 8<|mv0 rfl rfl<|lds 0 rfl trivial rfl sg32 rfl rfl<|el H fun tc had H=>cl rfl cal43 rfl (edu_Of.c had)<|el H fun te hae H=>cx 2 [1,0] cal45 (queue_Queue_drop.c hae (p0_:=p0_)) nofun fun _ _=>?_
 refine .fin<|rg 2 0<|bn0 rfl rfl rfl run_add<|mv0 rfl rfl<|.fin<|ng (sg 2 [1,0] 1) fun _ _=>?_
 exact bk ja (w64 (xa+1),te) H
theorem sender_Sender_Send.c {p0_ p1_:OV} (h:sender_Sender_Send.f k a0 a1 a2=some r):Tr prog 15 [eq p0_.1,eq p1_.1,vI a2] [SSnd.O p0_ a0,VView.O p1_ a1] (γ:=Unit) (fun _=>True) (fun g=>tup [agg (Par.enc r.1),vB r.2.1,vI r.2.2.1]) (fun g=>[SSnd.O p0_ r.2.2.2,VView.O p1_ a1]):=by
 unfold sender_Sender_Send.f at h
 refine tb func15 ntmps15 h fun R0 F H=>?_
 refine WP.seq<|rg 3 1<|al rfl trivial zc46 nofun fun ba=>as0 rfl rfl<|as0 rfl rfl<|.fin<|WP.seqr H id (fun pa:SSnd=>[(0,eq p0_.1),(1,eq p1_.1),(2,vI a2),(6,eq (.pointer (some ⟨ba,0,none⟩))),(7,vB false),(8,vI 0),(16,vB (!a0.fair.isNone))]) (fun pa:SSnd=>[blk ba 46 [vB false,vS (⟨#[]⟩:ByteArray),vS (⟨#[]⟩:ByteArray),vI 0,eq (.slice none 0 0)],SSnd.O p0_ pa,VView.O p1_ a1]++F) (fun pa H=>?_) (fun H=>?_)
 rotate_left
 ·
  refine WP.seq<|rg 5 0<|mv0 rfl rfl<|Dv.nilA SSnd.nn rfl trivial rfl (mem_at 1 rfl)<|vg (SSnd.opn 1 rfl) fun ga haa=>?_
  refine fp haa rfl trivial rfl fa40_4<|ld 0 rfl trivial rfl sc38 rfl rfl<|Dv.one0 (fun _=>Fly.nn) rfl trivial rfl rfl underlying38 (mem_at 3 rfl)<|.fin<|cd H rfl (fun cc H=>?_) (fun _ H=>?_)
  rotate_left
  ·
   refine WP.skip ?_
   have H:=H.out
   refine ng (SSnd.shut (p:=p0_) (m:=a0) (ga.1,ga.2.1,ga.2.2.1,ga.2.2.2) haa (pm 6 [0,1,2,3,4,5])) fun _ _=>?_
   refine ng (sg 3 [1,0,2] 0) fun _ _=>?_
   exact jn a0 H
  refine wg (opt_some 3 rfl (by simpa using cc)) fun _ _=>?_
  refine WP.seq<|WP.seq<|rg 9 0<|mv0 rfl rfl<|mv0 rfl rfl<|Dv.nilpp haa rfl trivial rfl<|fp haa rfl trivial rfl fa40_4<|ld 1 rfl trivial rfl sc38 rfl rfl<|Dv.nilA Fly.nn rfl trivial rfl (mem_at 0 rfl)<|vg (Fly.opn 0 rfl) fun gb hac=>?_
  refine fp hac rfl trivial rfl fa111_2<|ld 0 rfl trivial rfl sc3 rfl rfl<|bn0 rfl rfl rfl run_lt<|.fin<|cd H rfl (fun _ H=>?_) (fun _ H=>?_)
  ·
   refine WP.seq<|rg 4 2<|Dv.bld (qs:=[vB false,vS (⟨#[]⟩:ByteArray),vS (⟨#[]⟩:ByteArray),vI 0,eq (.slice none 0 0)]) (css:=[]) rfl trivial underlying46 pl46 z46 rfl trivial rfl rfl<|sx 4 rfl trivial rfl rfl cA sz46 rfl rfl rfl nofun ?_
   refine as0 rfl rfl<|as0 rfl rfl<|.fin<|wg (Fly.shut (p:=ga.2.2.2) (m:=a0.fair.getD default) gb hac (pm 6 [0,1,2,3,4,5])) fun _ _=>?_
   refine wg (opt_back0 (O:=Fly.O) (o:=a0.fair) (by simpa using cc) 0 rfl) fun _ _=>?_
   refine wg (SSnd.shut (p:=p0_) (m:=a0) (ga.1,ga.2.1,ga.2.2.1,ga.2.2.2) haa (pm 6 [1,2,3,0,4,5])) fun _ _=>?_
   have H:=H.outr
   cases H.out; exact rt i2 rfl () 3 [1,0,2] 1 (.cons (res_wk (res_cells rfl underlying46 rfl c46 (mem_at 1 rfl) rfl) (wk_agg (.cons wk_id (.cons wk_id (.cons wk_id (.cons wk_id (.cons wk_nil .nil))))))) (.cons (res_tmp rfl) (.cons (res_tmp rfl) .nil)))
  refine WP.skip<|WP.seq<|rg 4 8<|mv0 rfl rfl<|mv0 rfl rfl<|mv0 rfl rfl<|vg (Fly.shut (p:=ga.2.2.2) (m:=a0.fair.getD default) gb hac (pm 6 [0,1,2,3,4,5])) fun _ _=>?_
  refine vg (opt_back0 (O:=Fly.O) (o:=a0.fair) (by simpa using cc) 0 rfl) fun _ _=>?_
  refine vg (SSnd.shut (p:=p0_) (m:=a0) (ga.1,ga.2.1,ga.2.2.1,ga.2.2.2) haa (pm 6 [1,2,3,0,4,5])) fun _ _=>?_
  refine el H fun ta had H=>cx 3 [0,2,1] cal46 (sender_Sender_again.c had (p0_:=p0_) (p1_:=p1_)) nofun fun _ _=>?_
  refine .fin<|cd H rfl (fun _ H=>?_) (fun _ H=>?_)
  rotate_left
  ·
   refine WP.skip ?_
   have H:=H.out
   refine ng (sg 3 [2,0,1] 0) fun _ _=>?_
   exact jn ta.2 H
  refine WP.seq<|rg 5 4<|mv0 rfl rfl<|vg (SSnd.opn 0 rfl) fun gi hae=>?_
  refine vg (SQue.opn 1 rfl) fun gj haf=>?_
  refine vg (Ctr.opn 4 rfl) fun gk hag=>?_
  refine el H fun tc hah H=>cll 8 [4,1,2,3,0,5,6,7] cal47 (Tr.weak (sender_Sender_told.c hah (b0_:=gi.1) (v0_0:=gi.2.1) (v0_1:=gi.2.2.1) (v0_2:=gi.2.2.2) (v0_3:=gj.2.1) (v0_4:=gj.2.2) (d0_0:=gj.1) (e0_0:=haf) (d0_1:=gk) (e0_1:=hag)) (.cons (wk_ptr hae) .nil)) ?_
  refine sx 7 rfl trivial rfl rfl cA sz46 rfl rfl rfl nofun ?_
  refine as0 rfl rfl<|as0 rfl rfl<|.fin<|wg (SQue.shut (p:=gi.2.1) (m:=ta.2.fQueue) (gj.1,gj.2.1,gj.2.2) haf (pm 8 [1,2,3,0,4,5,6,7])) fun _ _=>?_
  refine wg (Ctr.shut (p:=gi.2.2.1) (m:=ta.2.fids) gk hag (pm 6 [1,0,2,3,4,5])) fun _ _=>?_
  refine wg (SSnd.shut (p:=p0_) (m:=ta.2) (gi.1,gi.2.1,gi.2.2.1,gi.2.2.2) hae (pm 6 [2,1,0,3,4,5])) fun _ _=>?_
  have H:=H.outr
  cases H.out; exact rt i2 rfl () 3 [2,0,1] 1 (.cons (res_cells rfl underlying46 rfl c46 (mem_at 2 rfl) rfl) (.cons (res_tmp rfl) (.cons (res_tmp rfl) .nil)))
 refine WP.seq<|wg (SSnd.opn 1 rfl) fun gl hai=>?_
 refine wg (SQue.opn 1 rfl) fun gn haj=>?_
 refine dg Tryz.checked.mixed 16 49152<|mv0 rfl rfl<|Dv.nilpp hai rfl trivial rfl<|fp hai rfl trivial rfl fa40_0<|ld 3 rfl trivial rfl sc36 rfl rfl<|mv0 rfl rfl<|mv0 rfl rfl<|Dv.nilpp hai rfl trivial rfl<|fp hai rfl trivial rfl fa40_2<|ld 3 rfl trivial rfl sc9 rfl rfl<|mv0 rfl rfl<|Dv.nilpp hai rfl trivial rfl<|fp hai rfl trivial rfl fa40_0<|ld 3 rfl trivial rfl sc36 rfl rfl<|el H fun te hak H=>cll 8 [0,1,2,3,4,5,6,7] cal18 (Tr.weak (queue_Queue_All.c hak (b0_:=gn.1) (v0_0:=gn.2.1) (v0_1:=gn.2.2)) (.cons (wk_ptr haj) .nil)) ?_
 refine el H fun tf ham H=>Dv.callx (pre:=[VView.O p1_ a1]) (F:=[blk gn.1 107 [vI pa.fQueue.fmost,eq gn.2.1.1,eq gn.2.2.1,vI pa.fQueue.flost],own EKey.K gn.2.1.1 pa.fQueue.fkeys,mp EKey.kv (fun x:Edu=>agg (Edu.enc x)) gn.2.2.1 pa.fQueue.fat,blk gl.1 40 [eq gl.2.1.1,vS pa.fself,vS pa.fto,eq gl.2.2.1.1,eq gl.2.2.2.1],Ctr.O gl.2.2.1 pa.fids,optO Fly.O gl.2.2.2 pa.fair,blk ba 46 [vB false,vS (⟨#[]⟩:ByteArray),vS (⟨#[]⟩:ByteArray),vI 0,eq (.slice none 0 0)]]++F) (fun _:Unit=>[VView.O p1_ a1,blk gn.1 107 [vI pa.fQueue.fmost,eq gn.2.1.1,eq gn.2.2.1,vI pa.fQueue.flost],own EKey.K gn.2.1.1 pa.fQueue.fkeys,mp EKey.kv (fun x:Edu=>agg (Edu.enc x)) gn.2.2.1 pa.fQueue.fat,blk gl.1 40 [eq gl.2.1.1,vS pa.fself,vS pa.fto,eq gl.2.2.1.1,eq gl.2.2.2.1],Ctr.O gl.2.2.1 pa.fids,optO Fly.O gl.2.2.2 pa.fair,blk ba 46 [vB false,vS (⟨#[]⟩:ByteArray),vS (⟨#[]⟩:ByteArray),vI 0,eq (.slice none 0 0)]]++F) rfl trivial cal49 rfl (gate_Choose.c ham (p0_:=p1_)) (perm_to (L:=[blk gn.1 107 [vI pa.fQueue.fmost,eq gn.2.1.1,eq gn.2.2.1,vI pa.fQueue.flost],own EKey.K gn.2.1.1 pa.fQueue.fkeys,mp EKey.kv (fun x:Edu=>agg (Edu.enc x)) gn.2.2.1 pa.fQueue.fat,blk gl.1 40 [eq gl.2.1.1,vS pa.fself,vS pa.fto,eq gl.2.2.1.1,eq gl.2.2.2.1],Ctr.O gl.2.2.1 pa.fids,optO Fly.O gl.2.2.2 pa.fair,blk ba 46 [vB false,vS (⟨#[]⟩:ByteArray),vS (⟨#[]⟩:ByteArray),vI 0,eq (.slice none 0 0)],VView.O p1_ a1]) (F:=F) [7,0,1,2,3,4,5,6] (by kernel_rfl) rfl rfl) rfl (fun _=>pendc (pend_by (by kernel_rfl) (pend_by (by kernel_rfl) (pend_by (by kernel_rfl) (pend_by (by kernel_rfl) (pend_by (by kernel_rfl) (pend_by (by kernel_rfl) (pend_by (by kernel_rfl) (pend_by (by kernel_rfl) (pend_by (by kernel_rfl) (pend_by (by kernel_rfl) (pend_in (fun _=>(mem_at 4 rfl)) (pend_in (fun _=>trivial) (pend_in (fun _=>trivial) (pend_in (fun _=>trivial) pend_nil))))))))))))))) (fun _ _=>?_)
 refine el H fun tg han H=>cx 8 [1,2,3,0,4,5,6,7] cal48 (Tr.pre (pre':=[blk gn.1 107 [vI pa.fQueue.fmost,eq gn.2.1.1,eq gn.2.2.1,vI pa.fQueue.flost],own EKey.K gn.2.1.1 pa.fQueue.fkeys,mp EKey.kv (fun x:Edu=>agg (Edu.enc x)) gn.2.2.1 pa.fQueue.fat]) (queue_Queue_Keep.c han (p0_:=gl.2.1)) (fun F R w=>SQue.shut (p:=gl.2.1) (m:=pa.fQueue) (r:=F) (gn.1,gn.2.1,gn.2.2) haj (List.Perm.refl _) R w)) pC fun _ _=>?_
 refine .fin<|WP.seq<|WP.seq<|rg 6 0<|mv0 rfl rfl<|Dv.nilpp hai rfl trivial rfl<|fp hai rfl trivial rfl fa40_0<|ld 2 rfl trivial rfl sc36 rfl rfl<|vg (SQue.opn 0 rfl) fun go hao=>?_
 refine el H fun tj hap H=>cll 8 [0,1,2,3,4,5,6,7] cal50 (Tr.weak (queue_Queue_Len.c hap (b0_:=go.1) (v0_0:=go.2.1) (v0_1:=go.2.2)) (.cons (wk_ptr hao) .nil)) ?_
 refine bn0 rfl rfl rfl run_eq<|.fin<|cd H rfl (fun _ H=>?_) (fun _ H=>?_)
 ·
  refine WP.seq<|rg 4 2<|Dv.bld (qs:=[vB false,vS (⟨#[]⟩:ByteArray),vS (⟨#[]⟩:ByteArray),vI 0,eq (.slice none 0 0)]) (css:=[]) rfl trivial underlying46 pl46 z46 rfl trivial rfl rfl<|sx 7 rfl trivial rfl rfl cA sz46 rfl rfl rfl nofun ?_
  refine as0 rfl rfl<|as0 rfl rfl<|.fin<|wg (SQue.shut (p:=gl.2.1) (m:=tg) (go.1,go.2.1,go.2.2) hao (pm 8 [0,1,2,3,4,5,6,7])) fun _ _=>?_
  refine wg (SSnd.shut (p:=p0_) (m:=(⟨tg,pa.fself,pa.fto,pa.fids,pa.fair⟩:SSnd)) (gl.1,gl.2.1,gl.2.2.1,gl.2.2.2) hai (pm 6 [2,0,3,4,1,5])) fun _ _=>?_
  cases H.out; exact rt i2 rfl () 3 [2,0,1] 1 (.cons (res_wk (res_cells rfl underlying46 rfl c46 (mem_at 2 rfl) rfl) (wk_agg (.cons wk_id (.cons wk_id (.cons wk_id (.cons wk_id (.cons wk_nil .nil))))))) (.cons (res_tmp rfl) (.cons (res_tmp rfl) .nil)))
 refine WP.skip<|WP.seq<|rg 10 16<|mv0 rfl rfl<|Dv.nilpp hai rfl trivial rfl<|fp hai rfl trivial rfl fa40_3<|ld 4 rfl trivial rfl sc37 rfl rfl<|el H fun tm haq H=>cx 8 [5,0,1,2,3,4,6,7] cal51 (clock_Counter_Next.c haq (p0_:=gl.2.2.1)) nofun fun _ _=>?_
 refine mv0 rfl rfl<|ex0 rfl trivial rfl rfl<|ex0 rfl trivial rfl rfl<|as0 rfl rfl<|as0 rfl rfl<|.fin<|WP.seq<|WP.seq<|rg 2 0<|mv0 rfl rfl<|bn0 rfl rfl rfl run_ne<|.fin<|cd H rfl (fun _ H=>?_) (fun _ H=>?_)
 ·
  refine WP.seq<|rg 5 4<|Dv.bld (qs:=[vB false,vS (⟨#[]⟩:ByteArray),vS (⟨#[]⟩:ByteArray),vI 0,eq (.slice none 0 0)]) (css:=[]) rfl trivial underlying46 pl46 z46 rfl trivial rfl rfl<|mv0 rfl rfl<|sx 7 rfl trivial rfl rfl cA sz46 rfl rfl rfl nofun ?_
  refine as0 rfl rfl<|as0 rfl rfl<|.fin<|wg (SQue.shut (p:=gl.2.1) (m:=tg) (go.1,go.2.1,go.2.2) hao (pm 8 [1,2,3,0,4,5,6,7])) fun _ _=>?_
  refine wg (SSnd.shut (p:=p0_) (m:=(⟨tg,pa.fself,pa.fto,tm.2.2,pa.fair⟩:SSnd)) (gl.1,gl.2.1,gl.2.2.1,gl.2.2.2) hai (pm 6 [3,0,1,4,2,5])) fun _ _=>?_
  cases H.out; exact rt i2 rfl () 3 [2,0,1] 1 (.cons (res_wk (res_cells rfl underlying46 rfl c46 (mem_at 2 rfl) rfl) (wk_agg (.cons wk_id (.cons wk_id (.cons wk_id (.cons wk_id (.cons wk_nil .nil))))))) (.cons (res_tmp rfl) (.cons (res_tmp rfl) .nil)))
 refine WP.skip<|WP.seq<|WP.dgf (kf:=15) Tryz.checked.mixed [(0,false),(1,false),(2,false),(3,false),(4,false),(5,false),(6,false),(7,false),(8,false),(9,false),(10,false),(11,false),(12,false),(13,true),(14,false)] [(16,true)] rfl (by kernel_rfl)<|mv0 rfl rfl<|Dv.nilpp hai rfl trivial rfl<|fp hai rfl trivial rfl fa40_1<|ld 5 rfl trivial rfl sc9 rfl rfl<|mv0 rfl rfl<|Dv.nilpp hai rfl trivial rfl<|fp hai rfl trivial rfl fa40_2<|ld 5 rfl trivial rfl sc9 rfl rfl<|mv0 rfl rfl<|mv0 rfl rfl<|Dv.nilpp hai rfl trivial rfl<|fp hai rfl trivial rfl fa40_0<|ld 5 rfl trivial rfl sc36 rfl rfl<|Dv.float ?_ (fun hk_=>?_)
 rotate_left
 ·
  refine el H fun tn har H=>Dv.callx (pre:=[blk go.1 107 [vI tg.fmost,eq go.2.1.1,eq go.2.2.1,vI tg.flost],own EKey.K go.2.1.1 tg.fkeys,mp EKey.kv (fun x:Edu=>agg (Edu.enc x)) go.2.2.1 tg.fat]) (F:=[Ctr.O gl.2.2.1 tm.2.2,VView.O p1_ a1,blk gl.1 40 [eq gl.2.1.1,vS pa.fself,vS pa.fto,eq gl.2.2.1.1,eq gl.2.2.2.1],optO Fly.O gl.2.2.2 pa.fair,blk ba 46 [vB false,vS (⟨#[]⟩:ByteArray),vS (⟨#[]⟩:ByteArray),vI 0,eq (.slice none 0 0)]]++F) (fun _:Unit=>[SQue.O gl.2.1 tn.2,Ctr.O gl.2.2.1 tm.2.2,VView.O p1_ a1,blk gl.1 40 [eq gl.2.1.1,vS pa.fself,vS pa.fto,eq gl.2.2.1.1,eq gl.2.2.2.1],optO Fly.O gl.2.2.2 pa.fair,blk ba 46 [vB false,vS (⟨#[]⟩:ByteArray),vS (⟨#[]⟩:ByteArray),vI 0,eq (.slice none 0 0)]]++F) rfl trivial cal52 rfl (Tr.pre (pre':=[blk go.1 107 [vI tg.fmost,eq go.2.1.1,eq go.2.2.1,vI tg.flost],own EKey.K go.2.1.1 tg.fkeys,mp EKey.kv (fun x:Edu=>agg (Edu.enc x)) go.2.2.1 tg.fat]) (queue_Queue_Take.c har (p0_:=gl.2.1)) (fun F R w=>SQue.shut (p:=gl.2.1) (m:=tg) (r:=F) (go.1,go.2.1,go.2.2) hao (List.Perm.refl _) R w)) (perm_to (L:=[Ctr.O gl.2.2.1 tm.2.2,blk go.1 107 [vI tg.fmost,eq go.2.1.1,eq go.2.2.1,vI tg.flost],own EKey.K go.2.1.1 tg.fkeys,mp EKey.kv (fun x:Edu=>agg (Edu.enc x)) go.2.2.1 tg.fat,VView.O p1_ a1,blk gl.1 40 [eq gl.2.1.1,vS pa.fself,vS pa.fto,eq gl.2.2.1.1,eq gl.2.2.2.1],optO Fly.O gl.2.2.2 pa.fair,blk ba 46 [vB false,vS (⟨#[]⟩:ByteArray),vS (⟨#[]⟩:ByteArray),vI 0,eq (.slice none 0 0)]]) (F:=F) [1,2,3,0,4,5,6,7] (by kernel_rfl) rfl rfl) rfl (fun _=>pendc (pend_by (by kernel_rfl) (pend_by (by kernel_rfl) (pend_by (by kernel_rfl) (pend_by (by kernel_rfl) (pend_in (fun _=>trivial) (pend_in (fun _=>(mem_at 3 rfl)) (pend_in (fun _=>trivial) (pend_in (fun _=>trivial) (pend_in (fun _=>trivial) (pend_in (fun _=>(mem_at 3 rfl)) (pend_in (fun _=>trivial) (pend_in (fun _=>trivial) (pend_in (fun _=>trivial) pend_nil)))))))))))))) (fun _ _=>?_)
  refine Dv.bld (qs:=[vB false,vS pa.fself,vS pa.fto,vI tm.1,sl Edu.K tn.1]) (css:=[[vS pa.fself],[vS pa.fto],[vI tm.1],[sl Edu.K tn.1]]) rfl trivial underlying46 pl46 z46 rfl ⟨(cells_one (one_eq rfl)),⟨(cells_one (one_eq rfl)),⟨(cells_one (one_eq rfl)),⟨(cells_one one_sl),trivial⟩⟩⟩⟩ rfl rfl<|.fin<|up_al rfl trivial zc46 (all1 (fun _=>trivial) (allp (by kernel_rfl) (allp (by kernel_rfl) (allp (by kernel_rfl) (allp (by kernel_rfl) (all1 (fun _=>trivial) (all1 (fun _=>mem_at 4 rfl) (all1 (fun _=>trivial) (all1 (fun _=>trivial) (all1 (fun _=>trivial) (all1 (fun _=>mem_at 4 rfl) (all1 (fun _=>trivial) (all1 (fun _=>trivial) (all1 (fun _=>trivial) all0)))))))))))))) (fun bc=>?_)
  refine sx 0 rfl trivial rfl rfl cA sz46 rfl rfl rfl pB ?_
  refine .fin<|WP.seq<|dg Tryz.checked.mixed 10 576<|mv0 rfl rfl<|lds 0 rfl trivial rfl sg46 rfl rfl<|mv0 rfl rfl<|el H fun tp has H=>cl rfl cal53 rfl (clock_Backoff.c has)<|bn0 rfl rfl rfl run_add<|Dv.bld (qs:=[vB false,vS pa.fself,vS pa.fto,vI tm.1,sl Edu.K tn.1,vI 0,vI (w64 (a2+tp))]) (css:=[[vB false,vS pa.fself,vS pa.fto,vI tm.1,sl Edu.K tn.1],[vI 0],[vI (w64 (a2+tp))]]) rfl trivial underlying111 pl111 z111 rfl ⟨(cells_agg (ones_cons (one_eq rfl) (ones_cons (one_eq rfl) (ones_cons (one_eq rfl) (ones_cons (one_eq rfl) (ones_cons one_sl ones_nil)))))),⟨(cells_one (one_eq rfl)),⟨(cells_one (one_eq rfl)),trivial⟩⟩⟩ rfl rfl<|Dv.box rfl trivial rfl cA (fun _=>(pend_by (by kernel_rfl) (pend_by (by kernel_rfl) (pend_by (by kernel_rfl) (pend_by (by kernel_rfl) (pend_by (by kernel_rfl) (pend_in (fun _=>trivial) pend_nil))))))) fun bd=>Dv.nilpp hai rfl trivial rfl<|fp hai rfl trivial rfl fa40_4<|sx 5 rfl trivial rfl rfl cE sz38 rfl rfl rfl pB ?_
  refine .fin<|WP.seq<|rg 5 4<|mv0 rfl rfl<|vg (SQue.opn 2 rfl) fun gp hau=>?_
  refine vg (Ctr.opn 5 rfl) fun gq hav=>?_
  refine vg (Fly.shut (p:=(⟨.pointer (some ⟨bd,0,none⟩),rfl⟩:OV)) (m:=(⟨(⟨false,pa.fself,pa.fto,tm.1,tn.1⟩:Par),0,w64 (a2+tp)⟩:Fly)) bd rfl (pm 10 [4,0,1,2,3,5,6,7,8,9])) fun _ _=>?_
  refine vg (opt_back1 (O:=Fly.O) 0 rfl) fun _ _=>?_
  refine el H fun tq haw H=>cll 10 [7,2,3,4,1,0,5,6,8,9] cal47 (Tr.weak (sender_Sender_told.c haw (b0_:=gl.1) (v0_0:=gl.2.1) (v0_1:=gl.2.2.1) (v0_2:=(⟨.pointer (some ⟨bd,0,none⟩),rfl⟩:OV)) (v0_3:=gp.2.1) (v0_4:=gp.2.2) (d0_0:=gp.1) (e0_0:=hau) (d0_1:=gq) (e0_1:=hav)) (.cons (wk_ptr hai) .nil)) ?_
  refine sx 9 rfl trivial rfl rfl cA sz46 rfl rfl rfl nofun ?_
  refine as0 rfl rfl<|as0 rfl rfl<|.fin<|wg (SQue.shut (p:=gl.2.1) (m:=tn.2) (gp.1,gp.2.1,gp.2.2) hau (pm 10 [2,3,4,0,1,5,6,7,8,9])) fun _ _=>?_
  refine wg (Ctr.shut (p:=gl.2.2.1) (m:=tm.2.2) gq hav (pm 8 [2,0,1,3,4,5,6,7])) fun _ _=>?_
  refine wg (SSnd.shut (p:=p0_) (m:=(⟨tn.2,pa.fself,pa.fto,tm.2.2,some (⟨(⟨false,pa.fself,pa.fto,tm.1,tn.1⟩:Par),0,w64 (a2+tp)⟩:Fly)⟩:SSnd)) (gl.1,gl.2.1,gl.2.2.1,(⟨.pointer (some ⟨bd,0,none⟩),rfl⟩:OV)) hai (pm 8 [5,1,0,2,3,4,6,7])) fun _ _=>?_
  cases H.out; exact rt i2 rfl () 5 [1,3,4,0,2] 3 (.cons (res_cells rfl underlying46 rfl c46 (mem_at 4 rfl) rfl) (.cons (res_tmp rfl) (.cons (res_tmp rfl) .nil)))
 refine up_al rfl trivial zc46 (all1 (fun _=>mem_at 6 rfl) (all1 (fun _=>trivial) (all1 (fun _=>trivial) (all1 (fun _=>trivial) (all1 (fun _=>trivial) (all1 (fun _=>mem_at 6 rfl) (all1 (fun _=>trivial) (all1 (fun _=>trivial) (all1 (fun _=>trivial) (all1 (fun _=>mem_at 6 rfl) (all1 (fun _=>trivial) (all1 (fun _=>trivial) (all1 (fun _=>trivial) all0))))))))))))) (fun be=>?_)
 refine el H fun tu hax H=>Dv.callx (pre:=[blk go.1 107 [vI tg.fmost,eq go.2.1.1,eq go.2.2.1,vI tg.flost],own EKey.K go.2.1.1 tg.fkeys,mp EKey.kv (fun x:Edu=>agg (Edu.enc x)) go.2.2.1 tg.fat]) (F:=[blk be 46 [vB false,vS (⟨#[]⟩:ByteArray),vS (⟨#[]⟩:ByteArray),vI 0,eq (.slice none 0 0)],Ctr.O gl.2.2.1 tm.2.2,VView.O p1_ a1,blk gl.1 40 [eq gl.2.1.1,vS pa.fself,vS pa.fto,eq gl.2.2.1.1,eq gl.2.2.2.1],optO Fly.O gl.2.2.2 pa.fair,blk ba 46 [vB false,vS (⟨#[]⟩:ByteArray),vS (⟨#[]⟩:ByteArray),vI 0,eq (.slice none 0 0)]]++F) (fun _:Unit=>[SQue.O gl.2.1 tu.2,blk be 46 [vB false,vS (⟨#[]⟩:ByteArray),vS (⟨#[]⟩:ByteArray),vI 0,eq (.slice none 0 0)],Ctr.O gl.2.2.1 tm.2.2,VView.O p1_ a1,blk gl.1 40 [eq gl.2.1.1,vS pa.fself,vS pa.fto,eq gl.2.2.1.1,eq gl.2.2.2.1],optO Fly.O gl.2.2.2 pa.fair,blk ba 46 [vB false,vS (⟨#[]⟩:ByteArray),vS (⟨#[]⟩:ByteArray),vI 0,eq (.slice none 0 0)]]++F) rfl trivial cal52 rfl (Tr.pre (pre':=[blk go.1 107 [vI tg.fmost,eq go.2.1.1,eq go.2.2.1,vI tg.flost],own EKey.K go.2.1.1 tg.fkeys,mp EKey.kv (fun x:Edu=>agg (Edu.enc x)) go.2.2.1 tg.fat]) (queue_Queue_Take.c hax (p0_:=gl.2.1)) (fun F R w=>SQue.shut (p:=gl.2.1) (m:=tg) (r:=F) (go.1,go.2.1,go.2.2) hao (List.Perm.refl _) R w)) (perm_to (L:=[blk be 46 [vB false,vS (⟨#[]⟩:ByteArray),vS (⟨#[]⟩:ByteArray),vI 0,eq (.slice none 0 0)],Ctr.O gl.2.2.1 tm.2.2,blk go.1 107 [vI tg.fmost,eq go.2.1.1,eq go.2.2.1,vI tg.flost],own EKey.K go.2.1.1 tg.fkeys,mp EKey.kv (fun x:Edu=>agg (Edu.enc x)) go.2.2.1 tg.fat,VView.O p1_ a1,blk gl.1 40 [eq gl.2.1.1,vS pa.fself,vS pa.fto,eq gl.2.2.1.1,eq gl.2.2.2.1],optO Fly.O gl.2.2.2 pa.fair,blk ba 46 [vB false,vS (⟨#[]⟩:ByteArray),vS (⟨#[]⟩:ByteArray),vI 0,eq (.slice none 0 0)]]) (F:=F) [2,3,4,0,1,5,6,7,8] (by kernel_rfl) rfl rfl) rfl (fun _=>pendc (pend_by (by kernel_rfl) (pend_by (by kernel_rfl) (pend_by (by kernel_rfl) (pend_by (by kernel_rfl) (pend_in (fun _=>trivial) (pend_in (fun _=>(mem_at 4 rfl)) (pend_in (fun _=>trivial) (pend_in (fun _=>trivial) (pend_in (fun _=>trivial) (pend_in (fun _=>(mem_at 4 rfl)) (pend_in (fun _=>trivial) (pend_in (fun _=>trivial) (pend_in (fun _=>trivial) pend_nil)))))))))))))) (fun _ _=>?_)
 refine Dv.bld (qs:=[vB false,vS pa.fself,vS pa.fto,vI tm.1,sl Edu.K tu.1]) (css:=[[vS pa.fself],[vS pa.fto],[vI tm.1],[sl Edu.K tu.1]]) rfl trivial underlying46 pl46 z46 rfl ⟨(cells_one (one_eq rfl)),⟨(cells_one (one_eq rfl)),⟨(cells_one (one_eq rfl)),⟨(cells_one one_sl),trivial⟩⟩⟩⟩ rfl rfl<|sx 1 rfl trivial rfl rfl cA sz46 rfl rfl rfl pB ?_
 refine .fin<|WP.seq<|dg Tryz.checked.mixed 10 576<|mv0 rfl rfl<|lds 1 rfl trivial rfl sg46 rfl rfl<|mv0 rfl rfl<|el H fun tp has H=>cl rfl cal53 rfl (clock_Backoff.c has)<|bn0 rfl rfl rfl run_add<|Dv.bld (qs:=[vB false,vS pa.fself,vS pa.fto,vI tm.1,sl Edu.K tu.1,vI 0,vI (w64 (a2+tp))]) (css:=[[vB false,vS pa.fself,vS pa.fto,vI tm.1,sl Edu.K tu.1],[vI 0],[vI (w64 (a2+tp))]]) rfl trivial underlying111 pl111 z111 rfl ⟨(cells_agg (ones_cons (one_eq rfl) (ones_cons (one_eq rfl) (ones_cons (one_eq rfl) (ones_cons (one_eq rfl) (ones_cons one_sl ones_nil)))))),⟨(cells_one (one_eq rfl)),⟨(cells_one (one_eq rfl)),trivial⟩⟩⟩ rfl rfl<|Dv.box rfl trivial rfl cA (fun _=>(pend_by (by kernel_rfl) (pend_by (by kernel_rfl) (pend_by (by kernel_rfl) (pend_by (by kernel_rfl) (pend_by (by kernel_rfl) (pend_in (fun _=>trivial) pend_nil))))))) fun bd=>Dv.nilpp hai rfl trivial rfl<|fp hai rfl trivial rfl fa40_4<|sx 5 rfl trivial rfl rfl cE sz38 rfl rfl rfl pB ?_
 refine .fin<|WP.seq<|rg 5 4<|mv0 rfl rfl<|vg (SQue.opn 1 rfl) fun gp hau=>?_
 refine vg (Ctr.opn 5 rfl) fun gq hav=>?_
 refine vg (Fly.shut (p:=(⟨.pointer (some ⟨bd,0,none⟩),rfl⟩:OV)) (m:=(⟨(⟨false,pa.fself,pa.fto,tm.1,tu.1⟩:Par),0,w64 (a2+tp)⟩:Fly)) bd rfl (pm 10 [4,0,1,2,3,5,6,7,8,9])) fun _ _=>?_
 refine vg (opt_back1 (O:=Fly.O) 0 rfl) fun _ _=>?_
 refine el H fun tq haw H=>cll 10 [7,2,3,4,1,0,5,6,8,9] cal47 (Tr.weak (sender_Sender_told.c haw (b0_:=gl.1) (v0_0:=gl.2.1) (v0_1:=gl.2.2.1) (v0_2:=(⟨.pointer (some ⟨bd,0,none⟩),rfl⟩:OV)) (v0_3:=gp.2.1) (v0_4:=gp.2.2) (d0_0:=gp.1) (e0_0:=hau) (d0_1:=gq) (e0_1:=hav)) (.cons (wk_ptr hai) .nil)) ?_
 refine sx 9 rfl trivial rfl rfl cA sz46 rfl rfl rfl nofun ?_
 refine as0 rfl rfl<|as0 rfl rfl<|.fin<|wg (SQue.shut (p:=gl.2.1) (m:=tu.2) (gp.1,gp.2.1,gp.2.2) hau (pm 10 [2,3,4,0,1,5,6,7,8,9])) fun _ _=>?_
 refine wg (Ctr.shut (p:=gl.2.2.1) (m:=tm.2.2) gq hav (pm 8 [2,0,1,3,4,5,6,7])) fun _ _=>?_
 refine wg (SSnd.shut (p:=p0_) (m:=(⟨tu.2,pa.fself,pa.fto,tm.2.2,some (⟨(⟨false,pa.fself,pa.fto,tm.1,tu.1⟩:Par),0,w64 (a2+tp)⟩:Fly)⟩:SSnd)) (gl.1,gl.2.1,gl.2.2.1,(⟨.pointer (some ⟨bd,0,none⟩),rfl⟩:OV)) hai (pm 8 [5,1,0,2,3,4,6,7])) fun _ _=>?_
 cases H.out; exact rt i2 rfl () 5 [1,3,4,0,2] 3 (.cons (res_cells rfl underlying46 rfl c46 (mem_at 4 rfl) rfl) (.cons (res_tmp rfl) (.cons (res_tmp rfl) .nil)))
theorem dag_May.c (h:dag_May.f k a0=some r):Pt prog 91 [agg (Event.enc a0)] (vB r):=by
 unfold dag_May.f at h
 refine pb func91 ntmps91 h fun R0 F H=>?_
 refine WP.seq<|rg 2 1<|Dv.box rfl trivial rfl cA nofun fun ba=>as0 rfl rfl<|.fin<|WP.scope<|WP.seq<|WP.seq<|rg 32 0<|fb rfl trivial rfl fa55_0<|ld 0 rfl trivial rfl sc9 rfl rfl<|el H fun ta haa H=>cl rfl cal121 rfl (name_Event.c haa)<|un0 rfl rfl (run_not _)<|mv0 rfl rfl ?_
 cases cc:!ta
 rotate_left
 ·
  have H:=H.ct cc
  refine sk rfl rfl<|sk rfl rfl<|sk rfl rfl<|sk rfl rfl<|pt0 rfl rfl rfl<|mv0 rfl rfl<|sk rfl rfl<|sk rfl rfl<|sk rfl rfl<|sk rfl rfl<|pt0 rfl rfl rfl<|mv0 rfl rfl<|sk rfl rfl<|sk rfl rfl<|sk rfl rfl<|sk rfl rfl<|pt0 rfl rfl rfl<|mv0 rfl rfl<|sk rfl rfl<|sk rfl rfl<|sk rfl rfl<|pt0 rfl rfl rfl<|mv0 rfl rfl<|sk rfl rfl<|sk rfl rfl<|sk rfl rfl<|pt0 rfl rfl rfl<|.fin<|WP.cond rfl (fun _=>?_) nofun
  refine WP.seq<|rg 1 0<|as0 rfl rfl<|.fin ?_
  cases H.out; exact r1 i2 rfl (.cons (res_tmp rfl) .nil)
 have H:=H.cf cc
 refine fb rfl (gg rfl) rfl fa55_1<|ld 0 rfl (gg rfl) rfl sc9 rfl rfl<|el H fun tc hac H=>Dv.call rfl (gg rfl) cal122 rfl (name_Room.c hac)<|ung rfl rfl rfl (run_not _)<|pf0 rfl rfl rfl<|mv0 rfl rfl ?_
 cases ce:!tc
 rotate_left
 ·
  have H:=H.ct ce
  refine sk rfl rfl<|sk rfl rfl<|sk rfl rfl<|sk rfl rfl<|pt0 rfl rfl rfl<|mv0 rfl rfl<|sk rfl rfl<|sk rfl rfl<|sk rfl rfl<|sk rfl rfl<|pt0 rfl rfl rfl<|mv0 rfl rfl<|sk rfl rfl<|sk rfl rfl<|sk rfl rfl<|pt0 rfl rfl rfl<|mv0 rfl rfl<|sk rfl rfl<|sk rfl rfl<|sk rfl rfl<|pt0 rfl rfl rfl<|.fin<|WP.cond rfl (fun _=>?_) nofun
  refine WP.seq<|rg 1 0<|as0 rfl rfl<|.fin ?_
  cases H.out; exact r1 i2 rfl (.cons (res_tmp rfl) .nil)
 have H:=H.cf ce
 refine fb rfl (gg rfl) rfl fa55_4<|ld 0 rfl (gg rfl) rfl sc9 rfl rfl<|el H fun te had H=>Dv.call rfl (gg rfl) cal107 rfl (name_User.c had)<|ung rfl rfl rfl (run_not _)<|pf0 rfl rfl rfl<|mv0 rfl rfl ?_
 cases cg:!te
 rotate_left
 ·
  have H:=H.ct cg
  refine sk rfl rfl<|sk rfl rfl<|sk rfl rfl<|sk rfl rfl<|pt0 rfl rfl rfl<|mv0 rfl rfl<|sk rfl rfl<|sk rfl rfl<|sk rfl rfl<|pt0 rfl rfl rfl<|mv0 rfl rfl<|sk rfl rfl<|sk rfl rfl<|sk rfl rfl<|pt0 rfl rfl rfl<|.fin<|WP.cond rfl (fun _=>?_) nofun
  refine WP.seq<|rg 1 0<|as0 rfl rfl<|.fin ?_
  cases H.out; exact r1 i2 rfl (.cons (res_tmp rfl) .nil)
 have H:=H.cf cg
 refine fb rfl (gg rfl) rfl fa55_2<|ld 0 rfl (gg rfl) rfl sc53 rfl rfl<|Dv.lenl rfl (gg rfl) rfl underlying53<|bng rfl rfl rfl rfl run_gt<|pf0 rfl rfl rfl<|mv0 rfl rfl ?_
 cases ci:decide (4<(a0.fParents.length:Int))
 rotate_left
 ·
  have H:=H.ct ci
  refine sk rfl rfl<|sk rfl rfl<|sk rfl rfl<|pt0 rfl rfl rfl<|mv0 rfl rfl<|sk rfl rfl<|sk rfl rfl<|sk rfl rfl<|pt0 rfl rfl rfl<|.fin<|WP.cond rfl (fun _=>?_) nofun
  refine WP.seq<|rg 1 0<|as0 rfl rfl<|.fin ?_
  cases H.out; exact r1 i2 rfl (.cons (res_tmp rfl) .nil)
 have H:=H.cf ci
 refine fb rfl (gg rfl) rfl fa55_5<|ld 0 rfl (gg rfl) rfl sc3 rfl rfl<|bng rfl rfl rfl rfl run_lt<|pf0 rfl rfl rfl<|mv0 rfl rfl ?_
 cases cj:decide (a0.fDoes<0)
 rotate_left
 ·
  have H:=H.ct cj
  refine sk rfl rfl<|sk rfl rfl<|sk rfl rfl<|pt0 rfl rfl rfl<|.fin<|WP.cond rfl (fun _=>?_) nofun
  refine WP.seq<|rg 1 0<|as0 rfl rfl<|.fin ?_
  cases H.out; exact r1 i2 rfl (.cons (res_tmp rfl) .nil)
 have H:=H.cf cj
 refine fb rfl (gg rfl) rfl fa55_5<|ld 0 rfl (gg rfl) rfl sc3 rfl rfl<|bng rfl rfl rfl rfl run_gt<|pf0 rfl rfl rfl<|.fin<|cd H rfl (fun _ H=>?_) (fun _ H=>?_)
 ·
  refine WP.seq<|rg 1 0<|as0 rfl rfl<|.fin ?_
  cases H.out; exact r1 i2 rfl (.cons (res_tmp rfl) .nil)
 refine WP.skip<|WP.seq<|WP.seq<|rg 21 0<|fb rfl trivial rfl fa55_3<|ld 0 rfl trivial rfl sc9 rfl rfl<|bn0 rfl rfl rfl run_sne<|mv0 rfl rfl ?_
 cases ck:!decide (a0.fThread=(⟨#[]⟩:ByteArray))
 ·
  have H:=H.cf ck
  refine sk rfl rfl<|sk rfl rfl<|sk rfl rfl<|sk rfl rfl<|sk rfl rfl<|sku rfl rfl<|sku rfl rfl<|sku rfl rfl<|sku rfl rfl<|sku rfl rfl<|sk rfl rfl<|sk rfl rfl<|sku rfl rfl<|sku rfl rfl<|sku rfl rfl<|sk rfl rfl<|pf0 rfl rfl rfl<|.fin<|WP.cond rfl nofun (fun _=>?_)
  refine WP.skip<|WP.seq<|rg 1 0<|as0 rfl rfl<|.fin<|WP.seq<|WP.label<|WP.seqn H id (fun pa:Bool×Int×Bool=>[(0,agg (Event.enc a0)),(1,eq (.pointer (some ⟨ba,0,none⟩))),(2,vB false),(3,vB pa.1),(37,vB (decide (2<a0.fDoes))),(58,vB false),(60,sl strK a0.fParents),(61,vI (a0.fParents.length:Int)),(62,vI pa.2.1),(63,vB pa.2.2)]) (fun pa:Bool×Int×Bool=>[blk ba 55 (Event.enc a0)]++F) (fun pa H=>?_) (fun H=>?_)
  ·
   refine WP.seq<|rg 2 0<|mv0 rfl rfl<|as0 rfl rfl<|.fin ?_
   cases H.out; exact r1 i2 rfl (.cons (res_tmp rfl) .nil)
  refine WP.seq<|rg 4 0<|fb rfl trivial rfl fa55_2<|ld 0 rfl trivial rfl sc53 rfl rfl<|Dv.lenl rfl trivial rfl underlying53<|mv0 rfl rfl<|.fin<|WP.block<|wg (sg 1 [0] 0) fun _ _=>?_
  refine lp (fun j_ (pc:Int)=>dag_May.l1 k a0 j_ pc) 0 H (fun pc=>[(0,agg (Event.enc a0)),(1,eq (.pointer (some ⟨ba,0,none⟩))),(2,vB false),(3,vB true),(37,vB (decide (2<a0.fDoes))),(58,vB false),(60,sl strK a0.fParents),(61,vI (a0.fParents.length:Int)),(62,vI pc)]) (fun pc=>[blk ba 55 (Event.enc a0)]++F) ?_
  rintro j_ xa H
  rcases j_ with _ | ja
  ·
   exact (Gets.no H).elim
  try dsimp only at H
  rw [dag_May.l1] at H
  refine WP.seq<|rg 1 0<|bn0 rfl rfl rfl run_lt<|.fin<|WP.seq<|cd H rfl (fun _ H=>?_) (fun _ H=>?_)
  rotate_left
  ·
   refine WP.exit ?_
   have H:=H.out
   exact jn (true,xa,decide (xa<(a0.fParents.length:Int))) H
  refine WP.skip<|WP.seq<|WP.block<|WP.seq<|rg 5 0<|mv0 rfl rfl<|gr H fun ga H=>Dv.ixr rfl trivial rfl rfl underlying53 underlying9 c9 ga.1 ga.2<|ldR rfl trivial rfl sc9 rfl<|as0 rfl rfl<|as0 rfl rfl<|.fin<|WP.seq<|rg 23 0<|mv0 rfl rfl<|el H fun tf hae H=>cl rfl cal121 rfl (name_Event.c hae)<|un0 rfl rfl (run_not _)<|mv0 rfl rfl ?_
  cases cn:!tf
  rotate_left
  ·
   have H:=H.ct cn
   refine sk rfl rfl<|sk rfl rfl<|sk rfl rfl<|sk rfl rfl<|pt0 rfl rfl rfl<|mv0 rfl rfl<|sk rfl rfl<|sk rfl rfl<|sk rfl rfl<|sku rfl rfl<|sku rfl rfl<|sku rfl rfl<|sku rfl rfl<|sku rfl rfl<|sku rfl rfl<|sku rfl rfl<|sku rfl rfl<|sk rfl rfl<|pt0 rfl rfl rfl<|.fin<|WP.cond rfl (fun _=>?_) nofun
   refine WP.seq<|rg 1 0<|as0 rfl rfl<|.fin<|WP.exit ?_
   have H:=H.out
   exact jn (false,xa,decide (xa<(a0.fParents.length:Int))) H
  have H:=H.cf cn
  refine mvg rfl rfl rfl<|fb rfl (gg rfl) rfl fa55_0<|ld 0 rfl (gg rfl) rfl sc9 rfl rfl<|bng rfl rfl rfl rfl run_seq<|pf0 rfl rfl rfl<|mv0 rfl rfl ?_
  cases co:decide ((strK.at a0.fParents xa)=a0.fID)
  rotate_left
  ·
   have H:=H.ct co
   refine sk rfl rfl<|sk rfl rfl<|sk rfl rfl<|sku rfl rfl<|sku rfl rfl<|sku rfl rfl<|sku rfl rfl<|sku rfl rfl<|sku rfl rfl<|sku rfl rfl<|sku rfl rfl<|sk rfl rfl<|pt0 rfl rfl rfl<|.fin<|WP.cond rfl (fun _=>?_) nofun
   refine WP.seq<|rg 1 0<|as0 rfl rfl<|.fin<|WP.exit ?_
   have H:=H.out
   exact jn (false,xa,decide (xa<(a0.fParents.length:Int))) H
  have H:=H.cf co
  refine mvg rfl rfl rfl<|bng rfl rfl rfl rfl run_gt<|mvg rfl rfl rfl ?_
  cases cp:decide (0<xa)
  ·
   have H:=H.cf cp
   refine sk rfl rfl<|sk rfl rfl<|sk rfl rfl<|sk rfl rfl<|sk rfl rfl<|sk rfl rfl<|sk rfl rfl<|sk rfl rfl<|pfg rfl rfl rfl rfl<|pf0 rfl rfl rfl<|.fin<|WP.cond rfl nofun (fun _=>?_)
   exact WP.skip<|rg 2 0<|bn0 rfl rfl rfl run_add<|mv0 rfl rfl<|.fin<|bk ja (w64 (xa+1)) H
  have H:=H.ct cp
  refine mvg rfl rfl rfl<|fb rfl (gg rfl) rfl fa55_2<|ld 0 rfl (gg rfl) rfl sc53 rfl rfl<|mvg rfl rfl rfl<|bng rfl rfl rfl rfl run_sub<|gr H fun gb H=>Dv.ixr rfl (gg rfl) rfl rfl underlying53 underlying9 c9 gb.1 gb.2<|ldR rfl (gg rfl) rfl sc9 rfl<|bng rfl rfl rfl rfl run_sle<|ptg rfl rfl rfl rfl<|pf0 rfl rfl rfl<|.fin<|cd H rfl (fun _ H=>?_) (fun _ H=>?_)
  rotate_left
  ·
   exact WP.skip<|rg 2 0<|bn0 rfl rfl rfl run_add<|mv0 rfl rfl<|.fin<|bk ja (w64 (xa+1)) H
  refine WP.seq<|rg 1 0<|as0 rfl rfl<|.fin<|WP.exit ?_
  have H:=H.out
  exact jn (false,xa,decide (xa<(a0.fParents.length:Int))) H
 have H:=H.ct ck
 refine fb rfl (gg rfl) rfl fa55_3<|ld 0 rfl (gg rfl) rfl sc9 rfl rfl<|el H fun tg haf H=>Dv.call rfl (gg rfl) cal121 rfl (name_Event.c haf)<|ung rfl rfl rfl (run_not _)<|mvg rfl rfl rfl ?_
 cases cq:!tg
 rotate_left
 ·
  have H:=H.ct cq
  refine sk rfl rfl<|sk rfl rfl<|sk rfl rfl<|sk rfl rfl<|sk rfl rfl<|ptg rfl rfl rfl rfl<|mvg rfl rfl rfl<|sk rfl rfl<|sk rfl rfl<|sk rfl rfl<|ptg rfl rfl rfl rfl<|pt0 rfl rfl rfl<|.fin<|WP.cond rfl (fun _=>?_) nofun
  refine WP.seq<|rg 1 0<|as0 rfl rfl<|.fin ?_
  cases H.out; exact r1 i2 rfl (.cons (res_tmp rfl) .nil)
 have H:=H.cf cq
 refine fb rfl (gg rfl) rfl fa55_3<|ld 0 rfl (gg rfl) rfl sc9 rfl rfl<|fb rfl (gg rfl) rfl fa55_0<|ld 0 rfl (gg rfl) rfl sc9 rfl rfl<|bng rfl rfl rfl rfl run_seq<|pfg rfl rfl rfl rfl<|mvg rfl rfl rfl ?_
 cases cr:decide (a0.fThread=a0.fID)
 rotate_left
 ·
  have H:=H.ct cr
  refine sk rfl rfl<|sk rfl rfl<|sk rfl rfl<|ptg rfl rfl rfl rfl<|pt0 rfl rfl rfl<|.fin<|WP.cond rfl (fun _=>?_) nofun
  refine WP.seq<|rg 1 0<|as0 rfl rfl<|.fin ?_
  cases H.out; exact r1 i2 rfl (.cons (res_tmp rfl) .nil)
 have H:=H.cf cr
 refine fb rfl (gg rfl) rfl fa55_5<|ld 0 rfl (gg rfl) rfl sc3 rfl rfl<|bng rfl rfl rfl rfl run_ne<|pfg rfl rfl rfl rfl<|pt0 rfl rfl rfl<|.fin<|cd H rfl (fun _ H=>?_) (fun _ H=>?_)
 ·
  refine WP.seq<|rg 1 0<|as0 rfl rfl<|.fin ?_
  cases H.out; exact r1 i2 rfl (.cons (res_tmp rfl) .nil)
 refine WP.skip<|WP.seq<|rg 1 0<|as0 rfl rfl<|.fin<|WP.seq<|WP.label<|WP.seqn H id (fun pd:Bool×Int×Bool=>[(0,agg (Event.enc a0)),(1,eq (.pointer (some ⟨ba,0,none⟩))),(2,vB false),(3,vB pd.1),(37,vB (decide (2<a0.fDoes))),(58,vB (a0.fDoes != 0)),(60,sl strK a0.fParents),(61,vI (a0.fParents.length:Int)),(62,vI pd.2.1),(63,vB pd.2.2)]) (fun pd:Bool×Int×Bool=>[blk ba 55 (Event.enc a0)]++F) (fun pd H=>?_) (fun H=>?_)
 ·
  refine WP.seq<|rg 2 0<|mv0 rfl rfl<|as0 rfl rfl<|.fin ?_
  cases H.out; exact r1 i2 rfl (.cons (res_tmp rfl) .nil)
 refine WP.seq<|rg 4 0<|fb rfl trivial rfl fa55_2<|ld 0 rfl trivial rfl sc53 rfl rfl<|Dv.lenl rfl trivial rfl underlying53<|mv0 rfl rfl<|.fin<|WP.block<|wg (sg 1 [0] 0) fun _ _=>?_
 refine lp (fun j_ (pe:Int)=>dag_May.l0 k a0 j_ pe) 0 H (fun pe=>[(0,agg (Event.enc a0)),(1,eq (.pointer (some ⟨ba,0,none⟩))),(2,vB false),(3,vB true),(37,vB (decide (2<a0.fDoes))),(58,vB (a0.fDoes != 0)),(60,sl strK a0.fParents),(61,vI (a0.fParents.length:Int)),(62,vI pe)]) (fun pe=>[blk ba 55 (Event.enc a0)]++F) ?_
 rintro j_ xb H
 rcases j_ with _ | jc
 ·
  exact (Gets.no H).elim
 try dsimp only at H
 rw [dag_May.l0] at H
 refine WP.seq<|rg 1 0<|bn0 rfl rfl rfl run_lt<|.fin<|WP.seq<|cd H rfl (fun _ H=>?_) (fun _ H=>?_)
 rotate_left
 ·
  refine WP.exit ?_
  have H:=H.out
  exact jn (true,xb,decide (xb<(a0.fParents.length:Int))) H
 refine WP.skip<|WP.seq<|WP.block<|WP.seq<|rg 5 0<|mv0 rfl rfl<|gr H fun gi H=>Dv.ixr rfl trivial rfl rfl underlying53 underlying9 c9 gi.1 gi.2<|ldR rfl trivial rfl sc9 rfl<|as0 rfl rfl<|as0 rfl rfl<|.fin<|WP.seq<|rg 23 0<|mv0 rfl rfl<|el H fun tj hag H=>cl rfl cal121 rfl (name_Event.c hag)<|un0 rfl rfl (run_not _)<|mv0 rfl rfl ?_
 cases cu:!tj
 rotate_left
 ·
  have H:=H.ct cu
  refine sk rfl rfl<|sk rfl rfl<|sk rfl rfl<|sk rfl rfl<|pt0 rfl rfl rfl<|mv0 rfl rfl<|sk rfl rfl<|sk rfl rfl<|sk rfl rfl<|sku rfl rfl<|sku rfl rfl<|sku rfl rfl<|sku rfl rfl<|sku rfl rfl<|sku rfl rfl<|sku rfl rfl<|sku rfl rfl<|sk rfl rfl<|pt0 rfl rfl rfl<|.fin<|WP.cond rfl (fun _=>?_) nofun
  refine WP.seq<|rg 1 0<|as0 rfl rfl<|.fin<|WP.exit ?_
  have H:=H.out
  exact jn (false,xb,decide (xb<(a0.fParents.length:Int))) H
 have H:=H.cf cu
 refine mvg rfl rfl rfl<|fb rfl (gg rfl) rfl fa55_0<|ld 0 rfl (gg rfl) rfl sc9 rfl rfl<|bng rfl rfl rfl rfl run_seq<|pf0 rfl rfl rfl<|mv0 rfl rfl ?_
 cases cw:decide ((strK.at a0.fParents xb)=a0.fID)
 rotate_left
 ·
  have H:=H.ct cw
  refine sk rfl rfl<|sk rfl rfl<|sk rfl rfl<|sku rfl rfl<|sku rfl rfl<|sku rfl rfl<|sku rfl rfl<|sku rfl rfl<|sku rfl rfl<|sku rfl rfl<|sku rfl rfl<|sk rfl rfl<|pt0 rfl rfl rfl<|.fin<|WP.cond rfl (fun _=>?_) nofun
  refine WP.seq<|rg 1 0<|as0 rfl rfl<|.fin<|WP.exit ?_
  have H:=H.out
  exact jn (false,xb,decide (xb<(a0.fParents.length:Int))) H
 have H:=H.cf cw
 refine mvg rfl rfl rfl<|bng rfl rfl rfl rfl run_gt<|mvg rfl rfl rfl ?_
 cases cy:decide (0<xb)
 ·
  have H:=H.cf cy
  refine sk rfl rfl<|sk rfl rfl<|sk rfl rfl<|sk rfl rfl<|sk rfl rfl<|sk rfl rfl<|sk rfl rfl<|sk rfl rfl<|pfg rfl rfl rfl rfl<|pf0 rfl rfl rfl<|.fin<|WP.cond rfl nofun (fun _=>?_)
  exact WP.skip<|rg 2 0<|bn0 rfl rfl rfl run_add<|mv0 rfl rfl<|.fin<|bk jc (w64 (xb+1)) H
 have H:=H.ct cy
 refine mvg rfl rfl rfl<|fb rfl (gg rfl) rfl fa55_2<|ld 0 rfl (gg rfl) rfl sc53 rfl rfl<|mvg rfl rfl rfl<|bng rfl rfl rfl rfl run_sub<|gr H fun gj H=>Dv.ixr rfl (gg rfl) rfl rfl underlying53 underlying9 c9 gj.1 gj.2<|ldR rfl (gg rfl) rfl sc9 rfl<|bng rfl rfl rfl rfl run_sle<|ptg rfl rfl rfl rfl<|pf0 rfl rfl rfl<|.fin<|cd H rfl (fun _ H=>?_) (fun _ H=>?_)
 rotate_left
 ·
  exact WP.skip<|rg 2 0<|bn0 rfl rfl rfl run_add<|mv0 rfl rfl<|.fin<|bk jc (w64 (xb+1)) H
 refine WP.seq<|rg 1 0<|as0 rfl rfl<|.fin<|WP.exit ?_
 have H:=H.out
 exact jn (false,xb,decide (xb<(a0.fParents.length:Int))) H
theorem dag_Dag_Has.c {v0_0:OV} {b0_:Nat} (h:dag_Dag_Has.f a0 a1=some r):Tr prog 92 [eq (.pointer (some ⟨b0_,0,none⟩)),vS a1] [blk b0_ 159 [vS a0.froom,eq v0_0.1],mpo Value.string DNode.O v0_0.1 a0.fnodes] (γ:=Unit) (fun _=>True) (fun g=>vB r) (fun g=>[blk b0_ 159 [vS a0.froom,eq v0_0.1],mpo Value.string DNode.O v0_0.1 a0.fnodes]):=by
 unfold dag_Dag_Has.f at h
 refine tb func92 ntmps92 h fun R0 F H=>?_
 refine WP.seq<|rg 1 0<|as0 rfl rfl<|.fin<|WP.seq<|rg 8 0<|mv0 rfl rfl<|Dv.nilp rfl trivial rfl<|fb rfl trivial rfl fa159_1<|ld 0 rfl trivial rfl sc157 rfl rfl<|mv0 rfl rfl<|vg (mpo_opn 1 rfl) fun za haa=>?_
 refine Dv.mlv nilP rfl trivial rfl (mem_at 0 rfl) rfl underlying157 (keyOk_str underlying9) z161 (fun _=>rfl)<|Dv.pm1 (pm_nil haa rfl) rfl trivial rfl rfl underlying161<|as0 rfl rfl<|.fin<|wg (mpo_shut haa rfl (pm 3 [0,1,2])) fun _ _=>?_
 cases H.out; exact rt i2 rfl () 2 [1,0] 0 (.cons (res_tmp rfl) .nil)
theorem slices_ContainsFunc_string_x.c {X1_:As} (h:slices_ContainsFunc_string_x.f k a0 a1=some r):Tr prog 93 [sl strK a0,fx_string_bool X1_ a1] [X1_] (γ:=Unit) (fun _=>True) (fun g=>vB r) (fun g=>[X1_]):=by
 unfold slices_ContainsFunc_string_x.f at h
 refine tb func93 ntmps93 h fun R0 F H=>?_
 refine WP.seq<|rg 1 0<|as0 rfl rfl<|.fin<|WP.seq<|rg 5 0<|mv0 rfl rfl<|mv0 rfl rfl<|el H fun ta haa H=>cll 1 [0] cal123 (slices_IndexFunc_string_x.c haa (X1_:=X1_)) ?_
 refine bn0 rfl rfl rfl run_ge<|as0 rfl rfl<|.fin ?_
 cases H.out; exact rt i2 rfl () 1 [0] 0 (.cons (res_tmp rfl) .nil)
theorem dag_Dag_Add_1.c {cb0_ cd0_:Nat} {cq0_ cv0_0:OV} {ch0_:cq0_.1 = .pointer (some ⟨cd0_,0,none⟩)} {c0:DDag} (h:dag_Dag_Add_1.f a0 c0=some r):Tr prog 94 [vS a0,eq (.pointer (some ⟨cb0_,0,none⟩))] [blk cb0_ 120 [eq cq0_.1],blk cd0_ 159 [vS c0.froom,eq cv0_0.1],mpo Value.string DNode.O cv0_0.1 c0.fnodes] (γ:=Unit) (fun _=>True) (fun g=>vB r) (fun g=>[blk cb0_ 120 [eq cq0_.1],blk cd0_ 159 [vS c0.froom,eq cv0_0.1],mpo Value.string DNode.O cv0_0.1 c0.fnodes]):=by
 unfold dag_Dag_Add_1.f at h
 refine tb func94 ntmps94 h fun R0 F H=>?_
 refine WP.seq<|rg 1 0<|as0 rfl rfl<|.fin<|WP.seq<|rg 5 0<|ld 0 rfl trivial rfl sc120 rfl rfl<|mv0 rfl rfl<|el H fun ta haa H=>cll 3 [1,2,0] cal92 (Tr.weak (dag_Dag_Has.c haa (b0_:=cd0_) (v0_0:=cv0_0)) (.cons (wk_ptr ch0_) (.cons wk_id .nil))) ?_
 refine un0 rfl rfl (run_not _)<|as0 rfl rfl<|.fin ?_
 cases H.out; exact rt i2 rfl () 3 [0,1,2] 0 (.cons (res_tmp rfl) .nil)
theorem dag_Dag_Add.c {p0_:OV} (h:dag_Dag_Add.f k a0 a1=some r):Tr prog 56 [eq p0_.1,agg (Event.enc a1)] [DDag.O p0_ a0] (γ:=Unit) (fun _=>True) (fun g=>vI r.1) (fun g=>[DDag.O p0_ r.2]):=by
 unfold dag_Dag_Add.f at h
 refine tb func56 ntmps56 h fun R0 F H=>?_
 refine WP.seq<|rg 3 3<|Dv.box rfl trivial rfl (cells_one one_ov) nofun fun ba=>Dv.box rfl trivial rfl cA nofun fun bc=>as0 rfl rfl<|.fin<|WP.seq<|WP.block<|WP.seq<|wg (DDag.opn 2 rfl) fun ga haa=>?_
 refine dg Tryz.checked.mixed 13 0<|lds 2 rfl trivial rfl sg55 rfl rfl<|el H fun ta hac H=>cl rfl cal91 rfl (dag_May.c hac)<|un0 rfl rfl (run_not _)<|mv0 rfl rfl ?_
 cases cc:!ta
 rotate_left
 ·
  have H:=H.ct cc
  refine sk rfl rfl<|sk rfl rfl<|sk rfl rfl<|sk rfl rfl<|sk rfl rfl<|sk rfl rfl<|sk rfl rfl<|pt0 rfl rfl rfl<|as0 rfl rfl<|.fin<|WP.cond rfl (fun _=>?_) nofun
  refine WP.seq<|rg 1 0<|as0 rfl rfl<|.fin<|wg (DDag.shut (p:=p0_) (m:=a0) (ga.1,ga.2) haa (pm 4 [0,1,2,3])) fun _ _=>?_
  cases H.out; exact rt i2 rfl () 3 [1,2,0] 2 (.cons (res_tmp rfl) .nil)
 have H:=H.cf cc
 refine fb rfl (gg rfl) rfl fa55_1<|ld 2 rfl (gg rfl) rfl sc9 rfl rfl<|ld 3 rfl (gg rfl) rfl sc120 rfl rfl<|Dv.nilpp haa rfl (gg rfl) rfl<|fp haa rfl (gg rfl) rfl fa159_0<|ld 0 rfl (gg rfl) rfl sc9 rfl rfl<|bng rfl rfl rfl rfl run_sne<|pf0 rfl rfl rfl<|as0 rfl rfl<|.fin<|cd H rfl (fun _ H=>?_) (fun _ H=>?_)
 ·
  refine WP.seq<|rg 1 0<|as0 rfl rfl<|.fin<|wg (DDag.shut (p:=p0_) (m:=a0) (ga.1,ga.2) haa (pm 4 [0,1,2,3])) fun _ _=>?_
  cases H.out; exact rt i2 rfl () 3 [1,2,0] 2 (.cons (res_tmp rfl) .nil)
 refine WP.seq<|rg 5 0<|ld 3 rfl trivial rfl sc120 rfl rfl<|fb rfl trivial rfl fa55_0<|ld 2 rfl trivial rfl sc9 rfl rfl<|el H fun tc had H=>cll 4 [0,1,2,3] cal92 (Tr.weak (dag_Dag_Has.c had (b0_:=ga.1) (v0_0:=ga.2)) (.cons (wk_ptr haa) (.cons wk_id .nil))) ?_
 refine as0 rfl rfl<|.fin<|cd H rfl (fun _ H=>?_) (fun _ H=>?_)
 ·
  refine WP.seq<|rg 1 0<|as0 rfl rfl<|.fin<|wg (DDag.shut (p:=p0_) (m:=a0) (ga.1,ga.2) haa (pm 4 [0,1,2,3])) fun _ _=>?_
  cases H.out; exact rt i2 rfl () 3 [1,2,0] 2 (.cons (res_tmp rfl) .nil)
 refine WP.seq<|rg 5 0<|fb rfl trivial rfl fa55_2<|ld 2 rfl trivial rfl sc53 rfl rfl<|Dv.mkx (Q:=fqQ_string_bool (fun a0_=>dag_Dag_Add_1.f a0_ a0)) (L:=[blk ba 120 [eq p0_.1],blk ga.1 159 [vS a0.froom,eq ga.2.1],mpo Value.string DNode.O ga.2.1 a0.fnodes]) cal94 (by rintro _ _ ⟨a0_,r_,h_,rfl,rfl⟩; exact dag_Dag_Add_1.c h_ (cb0_:=ba) (cq0_:=p0_) (cd0_:=ga.1) (ch0_:=haa) (cv0_0:=ga.2)) rfl trivial rfl rfl<|el H fun te hae H=>cll 4 [3,0,1,2] cal93 (Tr.unpkr (A:=[]) (L:=[blk ba 120 [eq p0_.1],blk ga.1 159 [vS a0.froom,eq ga.2.1],mpo Value.string DNode.O ga.2.1 a0.fnodes]) (slices_ContainsFunc_string_x.c hae (X1_:=(pk [blk ba 120 [eq p0_.1],blk ga.1 159 [vS a0.froom,eq ga.2.1],mpo Value.string DNode.O ga.2.1 a0.fnodes])))) ?_
 refine as0 rfl rfl<|.fin<|cd H rfl (fun _ H=>?_) (fun _ H=>?_)
 ·
  refine WP.seq<|rg 1 0<|as0 rfl rfl<|.fin<|wg (DDag.shut (p:=p0_) (m:=a0) (ga.1,ga.2) haa (pm 4 [0,1,2,3])) fun _ _=>?_
  cases H.out; exact rt i2 rfl () 3 [1,2,0] 2 (.cons (res_tmp rfl) .nil)
 refine WP.skip<|WP.seqr H id (fun pa:Unit=>[(0,eq p0_.1),(1,agg (Event.enc a1)),(2,eq (.pointer (some ⟨ba,0,none⟩))),(3,eq (.pointer (some ⟨bc,0,none⟩))),(4,vI 0),(9,vB (!decide (a1.fRoom=a0.froom))),(22,vB tc),(27,vB te),(34,vB (!decide (a1.fThread=(⟨#[]⟩:ByteArray))))]) (fun pa:Unit=>[blk bc 55 (Event.enc a1),blk ba 120 [eq p0_.1],DDag.O p0_ a0]++F) (fun pa H=>?_) (fun H=>?_)
 rotate_left
 ·
  refine WP.seq<|rg 3 0<|fb rfl trivial rfl fa55_3<|ld 2 rfl trivial rfl sc9 rfl rfl<|bn0 rfl rfl rfl run_sne<|.fin<|cd H rfl (fun _ H=>?_) (fun _ H=>?_)
  rotate_left
  ·
   refine WP.skip ?_
   have H:=H.out
   refine ng (DDag.shut (p:=p0_) (m:=a0) (ga.1,ga.2) haa (pm 4 [0,1,2,3])) fun _ _=>?_
   refine ng (sg 3 [1,2,0] 0) fun _ _=>?_
   exact jn () H
  refine WP.seq<|wg (mpo_opn 1 rfl) fun za haf=>?_
  refine dg Tryz.checked.mixed 8 0<|ld 4 rfl trivial rfl sc120 rfl rfl<|Dv.nilpp haa rfl trivial rfl<|fp haa rfl trivial rfl fa159_1<|ld 2 rfl trivial rfl sc157 rfl rfl<|fb rfl trivial rfl fa55_3<|ld 3 rfl trivial rfl sc9 rfl rfl<|Dv.mlv nilP rfl trivial rfl (mem_at 0 rfl) rfl underlying157 (keyOk_str underlying9) z161 (fun _=>rfl)<|as0 rfl rfl<|.fin<|WP.seq<|WP.seq<|rg 2 0<|mv0 rfl rfl<|Dv.pm0 (pm_nil haf rfl) rfl trivial rfl rfl underlying161<|.fin<|cd H rfl (fun _ H=>?_) (fun _ H=>?_)
  ·
   refine WP.seq<|rg 1 0<|as0 rfl rfl<|.fin<|wg (mpo_shut haf rfl (pm 5 [0,1,2,3,4])) fun _ _=>?_
   refine wg (DDag.shut (p:=p0_) (m:=a0) (ga.1,ga.2) haa (pm 4 [1,0,2,3])) fun _ _=>?_
   have H:=H.outr
   cases H.out; exact rt i2 rfl () 3 [1,2,0] 2 (.cons (res_tmp rfl) .nil)
  refine WP.skip<|WP.seq<|rg 14 0<|mv0 rfl rfl<|gr H fun gb H=>vg (mpo_foc haf rfl gb (pm 5 [1,0,2,3,4])) fun _ _=>?_
  refine Dv.nilA DNode.nn rfl trivial rfl (mem_at 0 rfl)<|vg (DNode.opn 0 rfl) fun gi hag=>?_
  refine fp hag rfl trivial rfl fa163_0<|fb rfl trivial rfl fa55_3<|ld 0 rfl trivial rfl sc9 rfl rfl<|bn0 rfl rfl rfl run_sne<|mv0 rfl rfl ?_
  cases ce:!decide (((((mget a0.fnodes a1.fThread).getD default).fe).fThread)=(⟨#[]⟩:ByteArray))
  rotate_left
  ·
   have H:=H.ct ce
   refine sk rfl rfl<|sk rfl rfl<|sk rfl rfl<|sk rfl rfl<|sk rfl rfl<|sk rfl rfl<|pt0 rfl rfl rfl<|.fin<|WP.cond rfl (fun _=>?_) nofun
   refine WP.seq<|rg 1 0<|as0 rfl rfl<|.fin<|wg (DNode.shut (p:=((mget (zipK a0.fnodes za) a1.fThread).getD nilP)) (m:=(mget a0.fnodes a1.fThread).getD default) gi hag (pm 6 [0,1,2,3,4,5])) fun _ _=>?_
   refine wg (mpo_unf0 haf rfl gb (pm 6 [0,1,2,3,4,5])) fun _ _=>?_
   refine wg (mpo_shut haf rfl (pm 5 [1,0,2,3,4])) fun _ _=>?_
   refine wg (DDag.shut (p:=p0_) (m:=a0) (ga.1,ga.2) haa (pm 4 [1,0,2,3])) fun _ _=>?_
   have H:=H.outr
   cases H.out; exact rt i2 rfl () 3 [1,2,0] 2 (.cons (res_tmp rfl) .nil)
  have H:=H.cf ce
  refine mvg rfl rfl rfl<|Dv.nilpp hag rfl (gg rfl) rfl<|fp hag rfl (gg rfl) rfl fa163_0<|fb rfl (gg rfl) rfl fa55_5<|ld 0 rfl (gg rfl) rfl sc3 rfl rfl<|bng rfl rfl rfl rfl run_ne<|pf0 rfl rfl rfl<|.fin<|cd H rfl (fun _ H=>?_) (fun _ H=>?_)
  rotate_left
  ·
   refine WP.skip ?_
   have H:=H.out
   refine ng (DNode.shut (p:=((mget (zipK a0.fnodes za) a1.fThread).getD nilP)) (m:=(mget a0.fnodes a1.fThread).getD default) gi hag (pm 6 [0,1,2,3,4,5])) fun _ _=>?_
   refine ng (mpo_unf0 haf rfl gb (pm 6 [0,1,2,3,4,5])) fun _ _=>?_
   refine ng (mpo_shut haf rfl (pm 5 [1,0,2,3,4])) fun _ _=>?_
   refine ng (DDag.shut (p:=p0_) (m:=a0) (ga.1,ga.2) haa (pm 4 [1,0,2,3])) fun _ _=>?_
   refine ng (sg 3 [1,2,0] 0) fun _ _=>?_
   exact jn () H
  refine WP.seq<|rg 1 0<|as0 rfl rfl<|.fin<|wg (DNode.shut (p:=((mget (zipK a0.fnodes za) a1.fThread).getD nilP)) (m:=(mget a0.fnodes a1.fThread).getD default) gi hag (pm 6 [0,1,2,3,4,5])) fun _ _=>?_
  refine wg (mpo_unf0 haf rfl gb (pm 6 [0,1,2,3,4,5])) fun _ _=>?_
  refine wg (mpo_shut haf rfl (pm 5 [1,0,2,3,4])) fun _ _=>?_
  refine wg (DDag.shut (p:=p0_) (m:=a0) (ga.1,ga.2) haa (pm 4 [1,0,2,3])) fun _ _=>?_
  have H:=H.outr
  cases H.out; exact rt i2 rfl () 3 [1,2,0] 2 (.cons (res_tmp rfl) .nil)
 refine WP.seq<|rg 5 8<|lds 0 rfl trivial rfl sg55 rfl rfl<|el H fun tf hah H=>cl rfl cal95 rfl (dag_own.c hah)<|Dv.bld (qs:=[vS tf.fID,vS tf.fRoom,sl strK tf.fParents,vS tf.fThread,vS tf.fUser,vI tf.fDoes,vI 0,vB false]) (css:=[Event.enc tf]) rfl trivial underlying163 pl163 z163 rfl ⟨(cells_agg (Event.K.one _)),trivial⟩ rfl rfl<|Dv.box rfl trivial rfl cA nofun fun bd=>as0 rfl rfl<|.fin<|WP.seqn H id (fun pc:Int×Bool×Int×DDag=>[(0,eq p0_.1),(1,agg (Event.enc a1)),(2,eq (.pointer (some ⟨ba,0,none⟩))),(3,eq (.pointer (some ⟨bc,0,none⟩))),(4,vI 0),(6,eq (.pointer (some ⟨bd,0,none⟩))),(9,vB (!decide (a1.fRoom=a0.froom))),(22,vB tc),(27,vB te),(34,vB (!decide (a1.fThread=(⟨#[]⟩:ByteArray)))),(63,sl strK a1.fParents),(64,vI (a1.fParents.length:Int)),(65,vI pc.1),(66,vB pc.2.1)]) (fun pc:Int×Bool×Int×DDag=>[blk bd 163 [vS tf.fID,vS tf.fRoom,sl strK tf.fParents,vS tf.fThread,vS tf.fUser,vI tf.fDoes,vI pc.2.2.1,vB false],blk bc 55 (Event.enc a1),blk ba 120 [eq p0_.1],DDag.O p0_ pc.2.2.2]++F) (fun pc H=>?_) (fun H=>?_)
 ·
  refine WP.seq<|wg (DDag.opn 3 rfl) fun gj hai=>?_
  refine wg (DNode.shut (p:=(⟨.pointer (some ⟨bd,0,none⟩),rfl⟩:OV)) (m:=(⟨tf,pc.2.2.1,false⟩:DNode)) bd rfl (pm 5 [2,0,1,3,4])) fun _ _=>?_
  refine wg (mpo_opn 2 rfl) fun zb haj=>?_
  refine dg Tryz.checked.mixed 8 128<|ld 5 rfl trivial rfl sc120 rfl rfl<|Dv.nilpp hai rfl trivial rfl<|fp hai rfl trivial rfl fa159_1<|ld 3 rfl trivial rfl sc157 rfl rfl<|fb rfl trivial rfl fa55_0<|ld 4 rfl trivial rfl sc9 rfl rfl<|mv0 rfl rfl<|Dv.mup (vp:=fun p:OV=>eq p.1) (jj:=0) (⟨.pointer (some ⟨bd,0,none⟩),rfl⟩:OV) rfl trivial rfl rfl rfl rfl underlying157 (keyOk_str underlying9) (fun _=>pend_bits (by kernel_rfl))<|.fin<|WP.seq<|rg 1 0<|as0 rfl rfl<|.fin<|wg (mpo_add DNode.nn haj rfl (pm 6 [0,1,2,3,4,5])) fun _ _=>?_
  refine wg (DDag.shut (p:=p0_) (m:=(⟨pc.2.2.2.froom,mput pc.2.2.2.fnodes a1.fID (⟨tf,pc.2.2.1,false⟩:DNode)⟩:DDag)) (gj.1,gj.2) hai (pm 4 [1,0,2,3])) fun _ _=>?_
  cases H.out; exact rt i2 rfl () 3 [1,2,0] 2 (.cons (res_tmp rfl) .nil)
 refine WP.seq<|rg 4 0<|fb rfl trivial rfl fa55_2<|ld 1 rfl trivial rfl sc53 rfl rfl<|Dv.lenl rfl trivial rfl underlying53<|mv0 rfl rfl<|.fin<|WP.block<|wg (sg 4 [0,1,2,3] 0) fun _ _=>?_
 refine lp (fun j_ (pd:Int×Int×DDag)=>dag_Dag_Add.l0 k a1 j_ pd.1 pd.2.1 pd.2.2) (0,0,a0) H (fun pd=>[(0,eq p0_.1),(1,agg (Event.enc a1)),(2,eq (.pointer (some ⟨ba,0,none⟩))),(3,eq (.pointer (some ⟨bc,0,none⟩))),(4,vI 0),(6,eq (.pointer (some ⟨bd,0,none⟩))),(9,vB (!decide (a1.fRoom=a0.froom))),(22,vB tc),(27,vB te),(34,vB (!decide (a1.fThread=(⟨#[]⟩:ByteArray)))),(63,sl strK a1.fParents),(64,vI (a1.fParents.length:Int)),(65,vI pd.1)]) (fun pd=>[blk bd 163 [vS tf.fID,vS tf.fRoom,sl strK tf.fParents,vS tf.fThread,vS tf.fUser,vI tf.fDoes,vI pd.2.1,vB false],blk bc 55 (Event.enc a1),blk ba 120 [eq p0_.1],DDag.O p0_ pd.2.2]++F) ?_
 rintro j_ ⟨xa,xb,xc⟩ H
 rcases j_ with _ | ja
 ·
  exact (Gets.no H).elim
 try dsimp only at H
 rw [dag_Dag_Add.l0] at H
 refine WP.seq<|rg 1 0<|bn0 rfl rfl rfl run_lt<|.fin<|WP.seq<|cd H rfl (fun _ H=>?_) (fun _ H=>?_)
 rotate_left
 ·
  refine WP.exit ?_
  have H:=H.out
  exact jn (xa,decide (xa<(a1.fParents.length:Int)),xb,xc) H
 refine WP.skip<|WP.seq<|WP.block<|WP.seq<|rg 3 0<|gr H fun gk H=>Dv.ixr rfl trivial rfl rfl underlying53 underlying9 c9 gk.1 gk.2<|ldR rfl trivial rfl sc9 rfl<|as0 rfl rfl<|.fin<|WP.seq<|wg (DDag.opn 3 rfl) fun gl hak=>?_
 refine wg (mpo_opn 1 rfl) fun zc ham=>?_
 refine gr H fun gn H=>wg (mpo_foc ham rfl gn (pm 6 [1,0,2,3,4,5])) fun _ _=>?_
 refine wg (DNode.opn 0 rfl) fun go han=>?_
 refine dg Tryz.checked.mixed 19 262144<|mv0 rfl rfl<|mv0 rfl rfl<|Dv.nilp rfl trivial rfl<|fb rfl trivial rfl fa163_1<|ld 4 rfl trivial rfl sc3 rfl rfl<|ld 6 rfl trivial rfl sc120 rfl rfl<|Dv.nilpp hak rfl trivial rfl<|fp hak rfl trivial rfl fa159_1<|ld 3 rfl trivial rfl sc157 rfl rfl<|mv0 rfl rfl<|Dv.mlv nilP rfl trivial rfl (mem_at 2 rfl) rfl underlying157 (keyOk_str underlying9) z161 (fun _=>rfl)<|Dv.nilpp han rfl trivial rfl<|fp han rfl trivial rfl fa163_1<|ld 0 rfl trivial rfl sc3 rfl rfl<|bn0 rfl rfl rfl run_add<|Dv.maxi rfl trivial rfl rfl<|Dv.nilp rfl trivial rfl<|fb rfl trivial rfl fa163_1<|sx 4 rfl trivial rfl rfl cE sz3 rfl rfl rfl pB ?_
 refine .fin<|rg 9 256<|ld 6 rfl trivial rfl sc120 rfl rfl<|Dv.nilpp hak rfl trivial rfl<|fp hak rfl trivial rfl fa159_1<|ld 3 rfl trivial rfl sc157 rfl rfl<|mv0 rfl rfl<|Dv.mlv nilP rfl trivial rfl (mem_at 2 rfl) rfl underlying157 (keyOk_str underlying9) z161 (fun _=>rfl)<|Dv.nilpp han rfl trivial rfl<|fp han rfl trivial rfl fa163_2<|sx 0 rfl trivial rfl rfl cE sz4 rfl rfl rfl nofun ?_
 refine .fin<|rg 2 0<|bn0 rfl rfl rfl run_add<|mv0 rfl rfl<|.fin<|ng (DNode.shut (p:=((mget (zipK xc.fnodes zc) (strK.at a1.fParents xa)).getD nilP)) (m:=(⟨((mget xc.fnodes (strK.at a1.fParents xa)).getD default).fe,((mget xc.fnodes (strK.at a1.fParents xa)).getD default).fdepth,true⟩:DNode)) go han (pm 7 [0,1,2,3,4,5,6])) fun _ _=>?_
 refine ng (mpo_unf ham rfl gn (pm 7 [0,1,2,3,4,5,6])) fun _ hao=>?_
 refine ng (mpo_shut hao (zipK_put' rfl gn) (pm 6 [1,0,2,3,4,5])) fun _ _=>?_
 refine ng (DDag.shut (p:=p0_) (m:=(⟨xc.froom,mput xc.fnodes (strK.at a1.fParents xa) (⟨((mget xc.fnodes (strK.at a1.fParents xa)).getD default).fe,((mget xc.fnodes (strK.at a1.fParents xa)).getD default).fdepth,true⟩:DNode)⟩:DDag)) (gl.1,gl.2) hak (pm 5 [1,0,2,3,4])) fun _ _=>?_
 refine ng (sg 4 [1,2,3,0] 0) fun _ _=>?_
 exact bk ja (w64 (xa+1),max xb (w64 ((((mget xc.fnodes (strK.at a1.fParents xa)).getD default).fdepth)+1)),(⟨xc.froom,mput xc.fnodes (strK.at a1.fParents xa) (⟨((mget xc.fnodes (strK.at a1.fParents xa)).getD default).fe,((mget xc.fnodes (strK.at a1.fParents xa)).getD default).fdepth,true⟩:DNode)⟩:DDag)) H
theorem view_View_Add.c {p0_:OV} (h:view_View_Add.f k a0 a1=some r):Tr prog 19 [eq p0_.1,agg (Event.enc a1)] [VView.O p0_ a0] (γ:=Unit) (fun _=>True) (fun g=>vI r.1) (fun g=>[VView.O p0_ r.2]):=by
 unfold view_View_Add.f at h
 refine tb func19 ntmps19 h fun R0 F H=>?_
 refine WP.seq<|rg 2 1<|Dv.box rfl trivial rfl cA nofun fun ba=>as0 rfl rfl<|.fin<|WP.seq<|rg 5 8<|mv0 rfl rfl<|fb rfl trivial rfl fa55_1<|ld 0 rfl trivial rfl sc9 rfl rfl<|vg (VView.opn 1 rfl) fun ga haa=>?_
 refine el H fun ta hac H=>cx 3 [0,1,2] cal55 (Tr.weak (view_View_room.c hac (b0_:=ga.1) (v0_0:=ga.2)) (.cons (wk_ptr haa) (.cons wk_id .nil))) nofun fun va _=>?_
 refine as0 rfl rfl<|.fin<|WP.seq<|WP.seq<|rg 4 4<|mv0 rfl rfl<|lds 3 rfl trivial rfl sg55 rfl rfl<|el H fun tc had H=>cx 4 [2,0,1,3] cal56 (dag_Dag_Add.c had (p0_:=va)) nofun fun _ _=>?_
 refine as0 rfl rfl<|.fin<|WP.seq<|rg 2 0<|mv0 rfl rfl<|bn0 rfl rfl rfl run_ne<|.fin<|cd H rfl (fun _ H=>?_) (fun _ H=>?_)
 ·
  refine WP.seq<|rg 2 0<|mv0 rfl rfl<|as0 rfl rfl<|.fin<|wg (mpl_back (pm 4 [2,0,1,3])) fun _ _=>?_
  refine wg (VView.shut (p:=p0_) (m:=(⟨mres a0.fdags a1.fRoom tc.2⟩:VView)) (ga.1,ga.2) haa (pm 3 [1,0,2])) fun _ _=>?_
  cases H.out; exact rt i2 rfl () 2 [1,0] 1 (.cons (res_tmp rfl) .nil)
 refine WP.skip<|WP.seq<|wg (mpl_opn 2 rfl) fun za hae=>?_
 refine dg Tryz.checked.mixed 8 128<|mv0 rfl rfl<|Dv.nilpp haa rfl trivial rfl<|fp haa rfl trivial rfl fa95_0<|ld 3 rfl trivial rfl sc93 rfl rfl<|fb rfl trivial rfl fa55_1<|ld 4 rfl trivial rfl sc9 rfl rfl<|mv0 rfl rfl<|Dv.mup (vp:=fun p:OV=>eq p.1) (jj:=0) va rfl trivial rfl rfl rfl rfl underlying93 (keyOk_str underlying9) (fun _=>pend_bits (by kernel_rfl))<|.fin<|WP.seq<|rg 1 0<|as0 rfl rfl<|.fin<|wg (mpl_add DDag.nn hae (pm 5 [0,1,2,3,4])) fun _ _=>?_
 refine wg (VView.shut (p:=p0_) (m:=(⟨mput a0.fdags a1.fRoom tc.2⟩:VView)) (ga.1,ga.2) haa (pm 3 [1,0,2])) fun _ _=>?_
 cases H.out; exact rt i2 rfl () 2 [1,0] 1 (.cons (res_tmp rfl) .nil)
theorem r10_Of.c (h:r10_Of.f k a0 a1=some r):Pt prog 58 [agg (RView.enc a0),vS a1] (agg (RDag.enc r)):=by
 unfold r10_Of.f at h
 refine pb func58 ntmps58 h fun R0 F H=>?_
 refine WP.seq<|rg 2 3<|Dv.box rfl trivial rfl cA nofun fun ba=>al rfl trivial zc97 nofun fun bc=>.fin<|WP.seqr H id (fun pa:Int×Bool=>[(0,agg (RView.enc a0)),(1,vS a1),(2,eq (.pointer (some ⟨ba,0,none⟩))),(4,eq (.pointer (some ⟨bc,0,none⟩))),(5,vI pa.1),(10,vB pa.2)]) (fun pa:Int×Bool=>[blk bc 97 [vS (⟨#[]⟩:ByteArray),eq (.slice none 0 0)],blk ba 44 (RView.enc a0)]++F) (fun pa H=>?_) (fun H=>?_)
 ·
  refine WP.seq<|rg 3 4<|mv0 rfl rfl<|Dv.bld (qs:=[vS a1,eq (.slice none 0 0)]) (css:=[[vS a1]]) rfl trivial underlying97 pl97 z97 rfl ⟨(cells_one (one_eq rfl)),trivial⟩ rfl rfl<|sx 0 rfl trivial rfl rfl cA sz97 rfl rfl rfl nofun ?_
  refine .fin ?_
  cases H.out; exact r2 i2 rfl (.cons (res_wk (res_cells rfl underlying97 rfl c97 (mem_at 0 rfl) rfl) (wk_agg (.cons wk_id (.cons wk_nil .nil)))) .nil)
 refine WP.seq<|rg 1 0<|as0 rfl rfl<|.fin<|WP.block<|wg (sg 2 [0,1] 0) fun _ _=>?_
 refine lp (fun j_ (pc:Int)=>r10_Of.l0 k a0 a1 j_ pc) 0 H (fun pc=>[(0,agg (RView.enc a0)),(1,vS a1),(2,eq (.pointer (some ⟨ba,0,none⟩))),(4,eq (.pointer (some ⟨bc,0,none⟩))),(5,vI pc)]) (fun pc=>[blk bc 97 [vS (⟨#[]⟩:ByteArray),eq (.slice none 0 0)],blk ba 44 (RView.enc a0)]++F) ?_
 rintro j_ xa H
 rcases j_ with _ | ja
 ·
  exact (Gets.no H).elim
 try dsimp only at H
 rw [r10_Of.l0] at H
 refine WP.seq<|WP.seq<|rg 5 0<|mv0 rfl rfl<|fb rfl trivial rfl fa44_0<|ld 1 rfl trivial rfl sc42 rfl rfl<|Dv.lenl rfl trivial rfl underlying42<|bn0 rfl rfl rfl run_lt<|.fin<|cd H rfl (fun _ H=>?_) (fun _ H=>?_)
 rotate_left
 ·
  refine WP.exit ?_
  have H:=H.out
  exact jn (xa,decide (xa<(a0.fD.length:Int))) H
 refine WP.skip<|WP.seq<|WP.block<|WP.seq<|rg 8 0<|fb rfl trivial rfl fa44_0<|ld 1 rfl trivial rfl sc42 rfl rfl<|mv0 rfl rfl<|gr H fun ga H=>Dv.ixr rfl trivial rfl rfl underlying42 underlying97 c97 ga.1 ga.2<|fr rfl trivial rfl fa97_0 rfl<|ldR rfl trivial rfl sc9 rfl<|mv0 rfl rfl<|bn0 rfl rfl rfl run_seq<|.fin<|cd H rfl (fun _ H=>?_) (fun _ H=>?_)
 rotate_left
 ·
  exact WP.skip<|rg 3 0<|mv0 rfl rfl<|bn0 rfl rfl rfl run_add<|as0 rfl rfl<|.fin<|bk ja (w64 (xa+1)) H
 refine WP.seq<|rg 6 32<|fb rfl trivial rfl fa44_0<|ld 1 rfl trivial rfl sc42 rfl rfl<|mv0 rfl rfl<|gr H fun gb H=>Dv.ixr rfl trivial rfl rfl underlying42 underlying97 c97 gb.1 gb.2<|ldsR rfl trivial rfl sg97 rfl<|sx 0 rfl trivial rfl rfl cA sz97 rfl rfl rfl nofun ?_
 refine .fin ?_
 have H:=H.outr
 cases H.out; exact r2 i2 rfl (.cons (res_cells rfl underlying97 rfl c97 (mem_at 0 rfl) rfl) .nil)
theorem r10_Add.c (h:r10_Add.f k a0 a1=some r):Pt prog 20 [agg (RView.enc a0),agg (Event.enc a1)] (tup [agg (RView.enc r.1),vI r.2]):=by
 unfold r10_Add.f at h
 refine pb func20 ntmps20 h fun R0 F H=>?_
 refine WP.seq<|rg 4 7<|Dv.box rfl trivial rfl cA nofun fun ba=>Dv.box rfl trivial rfl cA nofun fun bc=>al rfl trivial zc44 nofun fun bd=>as0 rfl rfl<|.fin<|WP.seq<|dg Tryz.checked.mixed 12 1536<|lds 2 rfl trivial rfl sg44 rfl rfl<|fb rfl trivial rfl fa55_1<|ld 1 rfl trivial rfl sc9 rfl rfl<|el H fun ta haa H=>cl rfl cal58 rfl (r10_Of.c haa)<|lds 1 rfl trivial rfl sg55 rfl rfl<|el H fun tc hac H=>cl rfl cal57 rfl (r07_Add.c hac)<|mv0 rfl rfl<|ex0 rfl trivial rfl rfl<|ex0 rfl trivial rfl rfl<|al rfl trivial zc97 (fun _=>(pend_in (fun _=>trivial) (pend_in (fun _=>trivial) (pend_in (fun _=>trivial) (pend_in (fun _=>trivial) (pend_in (fun _=>(mem_at 2 rfl)) (pend_in (fun _=>trivial) (pend_in (fun _=>(mem_at 2 rfl)) (pend_in (fun _=>trivial) (pend_in (fun _=>(mem_at 3 rfl)) pend_nil)))))))))) fun be=>sx 0 rfl trivial rfl rfl cA sz97 rfl rfl rfl (fun _=>(pend_in (fun _=>trivial) (pend_by (by kernel_rfl) (pend_by (by kernel_rfl) (pend_by (by kernel_rfl) (pend_by (by kernel_rfl) (pend_by (by kernel_rfl) (pend_by (by kernel_rfl) (pend_by (by kernel_rfl) (pend_by (by kernel_rfl) pend_nil)))))))))) ?_
 refine as0 rfl rfl<|.fin<|WP.seq<|WP.seq<|rg 2 0<|mv0 rfl rfl<|bn0 rfl rfl rfl run_ne<|.fin<|cd H rfl (fun _ H=>?_) (fun _ H=>?_)
 ·
  refine WP.seq<|rg 4 4<|lds 3 rfl trivial rfl sg44 rfl rfl<|mv0 rfl rfl<|sx 1 rfl trivial rfl rfl cA sz44 rfl rfl rfl nofun ?_
  refine as0 rfl rfl<|.fin ?_
  cases H.out; exact r4 i2 rfl (.cons (res_cells rfl underlying44 rfl c44 (mem_at 1 rfl) rfl) (.cons (res_tmp rfl) .nil))
 refine WP.skip<|WP.seq<|rg 1 0<|as0 rfl rfl<|.fin<|WP.seq<|rg 1 0<|as0 rfl rfl<|.fin<|WP.seqn H (fun qa:(Bool×Int×Bool×(List RDag))×OV=>qa.1) (fun qa:(Bool×Int×Bool×(List RDag))×OV=>[(0,agg (RView.enc a0)),(1,agg (Event.enc a1)),(2,eq (.pointer (some ⟨ba,0,none⟩))),(3,eq (.pointer (some ⟨bc,0,none⟩))),(4,eq (.pointer (some ⟨bd,0,none⟩))),(5,vI 0),(6,eq (.pointer (some ⟨be,0,none⟩))),(7,vI tc.2),(8,eq qa.2.1),(9,vB qa.1.1),(10,vI qa.1.2.1),(21,vB (tc.2 != 0)),(28,vB qa.1.2.2.1)]) (fun qa:(Bool×Int×Bool×(List RDag))×OV=>[blk be 97 (RDag.enc tc.1),blk bd 44 [eq (.slice none 0 0)],blk bc 55 (Event.enc a1),blk ba 44 (RView.enc a0),own RDag.K qa.2.1 qa.1.2.2.2]++F) (fun qa H=>?_) (fun H=>?_)
 ·
  obtain ⟨pa,va⟩:=qa
  refine WP.seq<|WP.seq<|rg 2 0<|mv0 rfl rfl<|un0 rfl rfl (run_not _)<|.fin<|cd H rfl (fun _ H=>?_) (fun _ H=>?_)
  rotate_left
  ·
   refine WP.skip<|WP.seq<|rg 4 4<|mv0 rfl rfl<|Dv.bld (qs:=[eq va.1]) (css:=[[eq va.1]]) rfl trivial underlying44 pl44 z44 rfl ⟨(cells_one one_ov),trivial⟩ rfl rfl<|sx 1 rfl trivial rfl rfl cA sz44 rfl rfl rfl nofun ?_
   refine as0 rfl rfl<|.fin<|WP.gh (gh_frz (E':=[(4,eq (.pointer (some ⟨bd,0,none⟩))),(5,vI 0)]) (l':=[blk be 97 (RDag.enc tc.1),blk bd 44 [sl RDag.K pa.2.2.2],blk bc 55 (Event.enc a1),blk ba 44 (RView.enc a0)]++F) 4 rfl (cve_cons rfl cv_id (cve_cons rfl cv_id cve_nil)) (all2_app (.cons cva_id (.cons (cva_blk (.cons cv_eq .nil)) (.cons cva_id (.cons cva_id .nil)))) fun _=>cva_id)) (fun _ _=>?_)
   cases H.out; exact r4 i2 rfl (.cons (res_cells rfl underlying44 rfl c44 (mem_at 1 rfl) rfl) (.cons (res_tmp rfl) .nil))
  refine rg 5 8<|mv0 rfl rfl<|lds 0 rfl trivial rfl sg97 rfl rfl<|Dv.lit RDag.K ([tc.1]:List RDag) (css:=[RDag.enc tc.1]) rfl trivial underlying42 underlying97 c97 z97 rfl (by decide) (by decide) rfl ⟨(cells_agg (RDag.K.one _)),trivial⟩ rfl rfl rfl<|gr H fun ga H=>ap RDag.K 4 ([tc.1]:List RDag) src_sl underlying42 (.inr ⟨_,underlying42⟩) inf97 ga nofun fun vb=>?_
  refine as0 rfl rfl<|.fin<|WP.seq<|rg 4 4<|mv0 rfl rfl<|Dv.bld (qs:=[eq vb.1]) (css:=[[eq vb.1]]) rfl trivial underlying44 pl44 z44 rfl ⟨(cells_one one_ov),trivial⟩ rfl rfl<|sx 1 rfl trivial rfl rfl cA sz44 rfl rfl rfl nofun ?_
  refine as0 rfl rfl<|.fin<|WP.gh (gh_frz (E':=[(4,eq (.pointer (some ⟨bd,0,none⟩))),(5,vI 0)]) (l':=[blk be 97 (RDag.enc tc.1),blk bd 44 [sl RDag.K (pa.2.2.2++([tc.1]:List RDag))],blk bc 55 (Event.enc a1),blk ba 44 (RView.enc a0)]++F) 4 rfl (cve_cons rfl cv_id (cve_cons rfl cv_id cve_nil)) (all2_app (.cons cva_id (.cons (cva_blk (.cons cv_eq .nil)) (.cons cva_id (.cons cva_id .nil)))) fun _=>cva_id)) (fun _ _=>?_)
  cases H.out; exact r4 i2 rfl (.cons (res_cells rfl underlying44 rfl c44 (mem_at 1 rfl) rfl) (.cons (res_tmp rfl) .nil))
 refine WP.seq<|rg 1 0<|as0 rfl rfl<|.fin<|WP.block<|wg (st_nil RDag.K none) fun _ _=>?_
 refine wg (sg 5 [1,2,3,4,0] 0) fun _ _=>?_
 refine lp (fun j_ (pc:Bool×Int×(List RDag)×OV)=>r10_Add.l0 k a0 a1 tc j_ pc.1 pc.2.1 pc.2.2.1) (false,0,([]:List RDag),nilV) H (fun pc=>[(0,agg (RView.enc a0)),(1,agg (Event.enc a1)),(2,eq (.pointer (some ⟨ba,0,none⟩))),(3,eq (.pointer (some ⟨bc,0,none⟩))),(4,eq (.pointer (some ⟨bd,0,none⟩))),(5,vI 0),(6,eq (.pointer (some ⟨be,0,none⟩))),(7,vI tc.2),(8,eq pc.2.2.2.1),(9,vB pc.1),(10,vI pc.2.1),(21,vB (tc.2 != 0))]) (fun pc=>[blk be 97 (RDag.enc tc.1),blk bd 44 [eq (.slice none 0 0)],blk bc 55 (Event.enc a1),blk ba 44 (RView.enc a0),own RDag.K pc.2.2.2.1 pc.2.2.1]++F) ?_
 rintro j_ ⟨xa,xb,xc,vd⟩ H
 rcases j_ with _ | ja
 ·
  exact (Gets.no H).elim
 try dsimp only at H
 rw [r10_Add.l0] at H
 refine WP.seq<|WP.seq<|rg 5 0<|mv0 rfl rfl<|fb rfl trivial rfl fa44_0<|ld 3 rfl trivial rfl sc42 rfl rfl<|Dv.lenl rfl trivial rfl underlying42<|bn0 rfl rfl rfl run_lt<|.fin<|cd H rfl (fun _ H=>?_) (fun _ H=>?_)
 rotate_left
 ·
  refine WP.exit ?_
  have H:=H.out
  exact jn ((xa,xb,decide (xb<(a0.fD.length:Int)),xc),vd) H
 refine WP.skip<|WP.seq<|WP.block<|WP.seqn H (fun qb:(Bool×Bool×(List RDag))×OV=>qb.1) (fun qb:(Bool×Bool×(List RDag))×OV=>[(0,agg (RView.enc a0)),(1,agg (Event.enc a1)),(2,eq (.pointer (some ⟨ba,0,none⟩))),(3,eq (.pointer (some ⟨bc,0,none⟩))),(4,eq (.pointer (some ⟨bd,0,none⟩))),(5,vI 0),(6,eq (.pointer (some ⟨be,0,none⟩))),(7,vI tc.2),(8,eq qb.2.1),(9,vB qb.1.1),(10,vI xb),(21,vB (tc.2 != 0)),(28,vB (decide (xb<(a0.fD.length:Int)))),(43,vB qb.1.2.1)]) (fun qb:(Bool×Bool×(List RDag))×OV=>[blk be 97 (RDag.enc tc.1),blk bd 44 [eq (.slice none 0 0)],blk bc 55 (Event.enc a1),blk ba 44 (RView.enc a0),own RDag.K qb.2.1 qb.1.2.2]++F) (fun qb H=>?_) (fun H=>?_)
 ·
  obtain ⟨pd,vh⟩:=qb
  refine WP.seq<|dg Tryz.checked.mixed 9 0<|fb rfl trivial rfl fa44_0<|ld 3 rfl trivial rfl sc42 rfl rfl<|mv0 rfl rfl<|gr H fun gb H=>Dv.ixr rfl trivial rfl rfl underlying42 underlying97 c97 gb.1 gb.2<|fr rfl trivial rfl fa97_0 rfl<|ldR rfl trivial rfl sc9 rfl<|fb rfl trivial rfl fa55_1<|ld 2 rfl trivial rfl sc9 rfl rfl<|bn0 rfl rfl rfl run_sne<|.fin<|cd H rfl (fun _ H=>?_) (fun _ H=>?_)
  rotate_left
  ·
   exact WP.skip<|rg 3 0<|mv0 rfl rfl<|bn0 rfl rfl rfl run_add<|as0 rfl rfl<|.fin<|bk ja (pd.1,w64 (xb+1),pd.2.2,vh) H
  refine rg 9 128<|mv0 rfl rfl<|fb rfl trivial rfl fa44_0<|ld 3 rfl trivial rfl sc42 rfl rfl<|mv0 rfl rfl<|gr H fun gi H=>Dv.ixr rfl trivial rfl rfl underlying42 underlying97 c97 gi.1 gi.2<|ldsR rfl trivial rfl sg97 rfl<|Dv.lit RDag.K ([RDag.K.at a0.fD xb]:List RDag) (css:=[RDag.enc (RDag.K.at a0.fD xb)]) rfl trivial underlying42 underlying97 c97 z97 rfl (by decide) (by decide) rfl ⟨(cells_agg (RDag.K.one _)),trivial⟩ rfl rfl rfl<|gr H fun gj H=>ap RDag.K 4 ([RDag.K.at a0.fD xb]:List RDag) src_sl underlying42 (.inr ⟨_,underlying42⟩) inf97 gj nofun fun vi=>?_
  exact as0 rfl rfl<|.fin<|rg 3 0<|mv0 rfl rfl<|bn0 rfl rfl rfl run_add<|as0 rfl rfl<|.fin<|bk ja (pd.1,w64 (xb+1),pd.2.2++([RDag.K.at a0.fD xb]:List RDag),vi) H
 refine WP.seq<|dg Tryz.checked.mixed 13 0<|mv0 rfl rfl<|un0 rfl rfl (run_not _)<|mv0 rfl rfl ?_
 cases cc:!xa
 ·
  have H:=H.cf cc
  refine sk rfl rfl<|sk rfl rfl<|sk rfl rfl<|sk rfl rfl<|sk rfl rfl<|sk rfl rfl<|sk rfl rfl<|sk rfl rfl<|sk rfl rfl<|pf0 rfl rfl rfl<|.fin<|WP.cond rfl nofun (fun _=>?_)
  refine WP.skip ?_
  have H:=H.out
  exact jn ((xa,false,xc),vd) H
 have H:=H.ct cc
 refine fb rfl (gg rfl) rfl fa55_1<|ld 2 rfl (gg rfl) rfl sc9 rfl rfl<|fb rfl (gg rfl) rfl fa44_0<|ld 3 rfl (gg rfl) rfl sc42 rfl rfl<|mvg rfl rfl rfl<|gr H fun gk H=>Dv.ixr rfl (gg rfl) rfl rfl underlying42 underlying97 c97 gk.1 gk.2<|fr rfl (gg rfl) rfl fa97_0 rfl<|ldR rfl (gg rfl) rfl sc9 rfl<|bng rfl rfl rfl rfl run_sle<|pt0 rfl rfl rfl<|.fin<|cd H rfl (fun _ H=>?_) (fun _ H=>?_)
 rotate_left
 ·
  refine WP.skip ?_
  have H:=H.out
  exact jn ((xa,!sLt ((RDag.K.at a0.fD xb).fRoom) a1.fRoom,xc),vd) H
 refine WP.seq<|rg 5 8<|mv0 rfl rfl<|lds 0 rfl trivial rfl sg97 rfl rfl<|Dv.lit RDag.K ([tc.1]:List RDag) (css:=[RDag.enc tc.1]) rfl trivial underlying42 underlying97 c97 z97 rfl (by decide) (by decide) rfl ⟨(cells_agg (RDag.K.one _)),trivial⟩ rfl rfl rfl<|gr H fun gl H=>ap RDag.K 4 ([tc.1]:List RDag) src_sl underlying42 (.inr ⟨_,underlying42⟩) inf97 gl nofun fun vj=>?_
 refine as0 rfl rfl<|.fin<|rg 1 0<|as0 rfl rfl<|.fin ?_
 have H:=H.out
 exact jn ((true,!sLt ((RDag.K.at a0.fD xb).fRoom) a1.fRoom,xc++([tc.1]:List RDag)),vj) H
theorem r10_Build.c (h:r10_Build.f k a0=some r):Pt prog 64 [sl Event.K a0] (agg (RView.enc r)):=by
 unfold r10_Build.f at h
 refine pb func64 ntmps64 h fun R0 F H=>?_
 refine WP.seq<|rg 1 1<|al rfl trivial zc44 nofun fun ba=>.fin<|WP.seq<|rg 1 1<|al rfl trivial zc44 nofun fun bc=>.fin<|WP.seqn H id (fun pa:Int×Bool×(List RDag)=>[(0,sl Event.K a0),(2,eq (.pointer (some ⟨ba,0,none⟩))),(3,eq (.pointer (some ⟨bc,0,none⟩))),(4,vI pa.1),(10,vB pa.2.1)]) (fun pa:Int×Bool×(List RDag)=>[blk bc 44 [sl RDag.K pa.2.2],blk ba 44 [eq (.slice none 0 0)]]++F) (fun pa H=>?_) (fun H=>?_)
 ·
  refine WP.seq<|rg 2 2<|lds 0 rfl trivial rfl sg44 rfl rfl<|sx 1 rfl trivial rfl rfl cA sz44 rfl rfl rfl nofun ?_
  refine .fin ?_
  cases H.out; exact r2 i2 rfl (.cons (res_cells rfl underlying44 rfl c44 (mem_at 1 rfl) rfl) .nil)
 refine WP.seq<|rg 1 0<|as0 rfl rfl<|.fin<|WP.block<|WP.gh (gh_wk (E':=[(0,sl Event.K a0),(2,eq (.pointer (some ⟨ba,0,none⟩))),(3,eq (.pointer (some ⟨bc,0,none⟩))),(4,vI 0)]) (l':=[blk bc 44 [sl RDag.K ([]:List RDag)],blk ba 44 [eq (.slice none 0 0)]]++F) (wke_cons rfl wk_id (wke_cons rfl wk_id (wke_cons rfl wk_id (wke_cons rfl wk_id wke_nil)))) (all2_app (.cons (wka_blk (.cons wk_nil .nil)) (.cons wka_id .nil)) fun _=>wka_id)) (fun _ _=>?_)
 refine wg (sg 2 [0,1] 0) fun _ _=>?_
 refine lp (fun j_ (pc:Int×(List RDag))=>r10_Build.l0 k a0 j_ pc.1 pc.2) (0,([]:List RDag)) H (fun pc=>[(0,sl Event.K a0),(2,eq (.pointer (some ⟨ba,0,none⟩))),(3,eq (.pointer (some ⟨bc,0,none⟩))),(4,vI pc.1)]) (fun pc=>[blk bc 44 [sl RDag.K pc.2],blk ba 44 [eq (.slice none 0 0)]]++F) ?_
 rintro j_ ⟨xa,xb⟩ H
 rcases j_ with _ | ja
 ·
  exact (Gets.no H).elim
 try dsimp only at H
 rw [r10_Build.l0] at H
 refine WP.seq<|WP.seq<|rg 4 0<|mv0 rfl rfl<|mv0 rfl rfl<|Dv.lenl rfl trivial rfl underlying28<|bn0 rfl rfl rfl run_lt<|.fin<|cd H rfl (fun _ H=>?_) (fun _ H=>?_)
 rotate_left
 ·
  refine WP.exit ?_
  have H:=H.out
  exact jn (xa,decide (xa<(a0.length:Int)),xb) H
 refine WP.skip<|WP.seq<|WP.block<|WP.seq<|dg Tryz.checked.mixed 12 1536<|lds 0 rfl trivial rfl sg44 rfl rfl<|mv0 rfl rfl<|mv0 rfl rfl<|gr H fun ga H=>Dv.ixr rfl trivial rfl rfl underlying28 underlying55 c55 ga.1 ga.2<|ldsR rfl trivial rfl sg55 rfl<|el H fun ta haa H=>cl rfl cal20 rfl (r10_Add.c haa)<|mv0 rfl rfl<|ex0 rfl trivial rfl rfl<|ex0 rfl trivial rfl rfl<|al rfl trivial zc44 (fun _=>(pend_in (fun _=>trivial) (pend_in (fun _=>trivial) (pend_in (fun _=>trivial) (pend_in (fun _=>trivial) (pend_in (fun _=>trivial) (pend_in (fun _=>trivial) (pend_in (fun _=>trivial) (pend_in (fun _=>trivial) (pend_in (fun _=>(mem_at 1 rfl)) pend_nil)))))))))) fun bd=>sx 0 rfl trivial rfl rfl cA sz44 rfl rfl rfl (fun _=>(pend_in (fun _=>trivial) (pend_by (by kernel_rfl) (pend_by (by kernel_rfl) (pend_by (by kernel_rfl) (pend_by (by kernel_rfl) (pend_by (by kernel_rfl) (pend_by (by kernel_rfl) (pend_by (by kernel_rfl) (pend_by (by kernel_rfl) pend_nil)))))))))) ?_
 refine as0 rfl rfl<|.fin<|rg 2 2<|lds 0 rfl trivial rfl sg44 rfl rfl<|sx 1 rfl trivial rfl rfl cA sz44 rfl rfl rfl nofun ?_
 refine .fin<|rg 3 0<|mv0 rfl rfl<|bn0 rfl rfl rfl run_add<|as0 rfl rfl<|.fin<|ng (sg 3 [0,1,2] 1) fun _ _=>?_
 exact bk ja (w64 (xa+1),ta.1.fD) H
theorem w18_open.c (h:w18_open.f k=some r):Tr prog 25 [] [] (γ:=OV) (fun _=>True) (fun g=>tup [eq g.1,agg (RView.enc r.2)]) (fun g=>[optO VView.O g r.1]):=by
 unfold w18_open.f at h
 refine tb func25 ntmps25 h fun R0 F H=>?_
 refine WP.seq<|rg 2 2<|as0 rfl rfl<|al rfl trivial zc44 nofun fun ba=>.fin<|WP.seq<|rg 2 1<|el H fun ta haa H=>cx 1 [0] cal10 (view_New.c haa) nofun fun ga _=>?_
 refine as0 rfl rfl<|.fin<|WP.seq<|WP.seq<|rg 2 0<|mv0 rfl rfl<|Dv.peq0 VView.nn rfl trivial rfl rfl underlying26 (mem_at 0 rfl)<|.fin<|WP.cond rfl nofun (fun _=>?_)
 refine WP.skip<|WP.seq<|rg 1 0<|as0 rfl rfl<|.fin<|WP.seqn H (fun qa:(Int×Bool×(List Event))×OV=>qa.1) (fun qa:(Int×Bool×(List Event))×OV=>[(0,eq (.pointer none)),(1,eq (.pointer (some ⟨ba,0,none⟩))),(2,eq ga.1),(3,eq qa.2.1),(4,vI qa.1.1),(9,vB false),(12,vB qa.1.2.1)]) (fun qa:(Int×Bool×(List Event))×OV=>[blk ba 44 [eq (.slice none 0 0)],VView.O ga ta,own Event.K qa.2.1 qa.1.2.2]++F) (fun qa H=>?_) (fun H=>?_)
 ·
  obtain ⟨pa,va⟩:=qa
  refine WP.seqr H id (fun pc:Int×Bool×VView=>[(0,eq (.pointer none)),(1,eq (.pointer (some ⟨ba,0,none⟩))),(2,eq ga.1),(3,eq va.1),(4,vI pa.1),(6,vI pc.1),(9,vB false),(12,vB pa.2.1),(32,vB pc.2.1)]) (fun pc:Int×Bool×VView=>[blk ba 44 [eq (.slice none 0 0)],VView.O ga pc.2.2,own Event.K va.1 pa.2.2]++F) (fun pc H=>?_) (fun H=>?_)
  ·
   refine WP.seq<|rg 5 16<|mv0 rfl rfl<|mv0 rfl rfl<|Dv.gh (gh_frz (E':=[(0,eq (.pointer none)),(1,eq (.pointer (some ⟨ba,0,none⟩))),(2,eq ga.1),(3,sl Event.K pa.2.2),(4,vI pa.1),(6,vI pc.1),(9,vB false),(12,vB pa.2.1),(32,vB pc.2.1),(43,eq ga.1),(44,sl Event.K pa.2.2)]) (l':=[blk ba 44 [eq (.slice none 0 0)],VView.O ga pc.2.2]++F) 2 rfl (cve_cons rfl cv_id (cve_cons rfl cv_id (cve_cons rfl cv_id (cve_cons rfl cv_eq (cve_cons rfl cv_id (cve_cons rfl cv_id (cve_cons rfl cv_id (cve_cons rfl cv_id (cve_cons rfl cv_id (cve_cons rfl cv_id (cve_cons rfl cv_eq cve_nil))))))))))) (all2_app (.cons cva_id (.cons cva_id .nil)) fun _=>cva_id)) (fun _ _=>?_)
   refine el H fun tc hac H=>cl rfl cal64 rfl (r10_Build.c hac)<|as0 rfl rfl<|sx 0 rfl trivial rfl rfl cA sz44 rfl rfl rfl nofun ?_
   refine .fin ?_
   obtain rfl:=Gets.out H
   exact rt i2 rfl ga 2 [0,1] 1 (.cons (res_tmp rfl) (.cons (res_cells rfl underlying44 rfl c44 (mem_at 0 rfl) rfl) .nil))
  refine WP.seq<|rg 1 0<|as0 rfl rfl<|.fin<|WP.block<|wg (sg 3 [0,1,2] 0) fun _ _=>?_
  refine lp (fun j_ (pd:Int×VView)=>w18_open.l0 k pa j_ pd.1 pd.2) (0,ta) H (fun pd=>[(0,eq (.pointer none)),(1,eq (.pointer (some ⟨ba,0,none⟩))),(2,eq ga.1),(3,eq va.1),(4,vI pa.1),(6,vI pd.1),(9,vB false),(12,vB pa.2.1)]) (fun pd=>[blk ba 44 [eq (.slice none 0 0)],VView.O ga pd.2,own Event.K va.1 pa.2.2]++F) ?_
  rintro j_ ⟨xa,xb⟩ H
  rcases j_ with _ | ja
  ·
   exact (Gets.no H).elim
  try dsimp only at H
  rw [w18_open.l0] at H
  refine WP.seq<|WP.seq<|rg 4 0<|mv0 rfl rfl<|mv0 rfl rfl<|Dv.lenw rfl trivial rfl (mem_at 2 rfl) underlying28<|bn0 rfl rfl rfl run_lt<|.fin<|cd H rfl (fun _ H=>?_) (fun _ H=>?_)
  rotate_left
  ·
   refine WP.exit ?_
   have H:=H.out
   exact jn (xa,decide (xa<(pa.2.2.length:Int)),xb) H
  refine WP.skip<|WP.seq<|WP.block<|WP.seq<|rg 7 32<|mv0 rfl rfl<|mv0 rfl rfl<|mv0 rfl rfl<|gr H fun gb H=>?_
  have had:xa.toNat<pa.2.2.length:=idx_lt gb
  refine Dv.ixw rfl trivial rfl (mem_at 2 rfl) rfl underlying28 underlying55 c55 gb.1 gb.2<|Dv.ldws (j:=xa.toNat) (f:=0) rfl trivial rfl (mem_at 2 rfl) had underlying55 rfl c55 (Nat.le_of_ble_eq_true rfl)<|el H fun te hae H=>cx 3 [1,0,2] cal19 (view_View_Add.c hae (p0_:=ga)) nofun fun _ _=>?_
  refine bn0 rfl rfl rfl run_ne<|.fin<|cd H rfl (fun _ H=>?_) (fun _ H=>?_)
  rotate_left
  ·
   refine WP.skip<|rg 3 0<|mv0 rfl rfl<|bn0 rfl rfl rfl run_add<|as0 rfl rfl<|.fin<|ng (sg 3 [1,0,2] 0) fun _ _=>?_
   exact bk ja (w64 (xa+1),te.2) H
  refine WP.seq<|rg 3 4<|Dv.bld (qs:=[eq (.slice none 0 0)]) (css:=[]) rfl trivial underlying44 pl44 z44 rfl trivial rfl rfl<|as0 rfl rfl<|sx 1 rfl trivial rfl rfl cA sz44 rfl rfl rfl nofun ?_
  refine .fin<|wg (st_nilP (O:=VView.O)) fun _ _=>?_
  have H:=H.outr
  obtain rfl:=Gets.out H
  exact rt i2 rfl nilP 4 [1,2,3,0] 3 (.cons (res_tmp rfl) (.cons (res_wk (res_cells rfl underlying44 rfl c44 (mem_at 2 rfl) rfl) (wk_agg (.cons wk_nil .nil))) .nil))
 refine WP.seq<|rg 1 0<|as0 rfl rfl<|.fin<|WP.block<|wg (st_nil Event.K none) fun _ _=>?_
 refine wg (sg 3 [2,1,0] 0) fun _ _=>?_
 refine lp (fun j_ (pe:Int×(List Event)×OV)=>w18_open.l1 k j_ pe.1 pe.2.1) (0,([]:List Event),nilV) H (fun pe=>[(0,eq (.pointer none)),(1,eq (.pointer (some ⟨ba,0,none⟩))),(2,eq ga.1),(3,eq pe.2.2.1),(4,vI pe.1),(9,vB false)]) (fun pe=>[blk ba 44 [eq (.slice none 0 0)],VView.O ga ta,own Event.K pe.2.2.1 pe.2.1]++F) ?_
 rintro j_ ⟨xc,xd,vb⟩ H
 rcases j_ with _ | jc
 ·
  exact (Gets.no H).elim
 try dsimp only at H
 rw [w18_open.l1] at H
 refine WP.seq<|WP.seq<|rg 2 0<|mv0 rfl rfl<|bn0 rfl rfl rfl run_lt<|.fin<|cd H rfl (fun _ H=>?_) (fun _ H=>?_)
 rotate_left
 ·
  refine WP.exit ?_
  have H:=H.out
  exact jn ((xc,decide (xc<2),xd),vb) H
 refine WP.skip<|WP.seqn H (fun qb:(Int×Bool×(List Event))×OV=>qb.1) (fun qb:(Int×Bool×(List Event))×OV=>[(0,eq (.pointer none)),(1,eq (.pointer (some ⟨ba,0,none⟩))),(2,eq ga.1),(3,eq qb.2.1),(4,vI xc),(5,vI qb.1.1),(9,vB false),(12,vB (decide (xc<2))),(16,vB qb.1.2.1)]) (fun qb:(Int×Bool×(List Event))×OV=>[blk ba 44 [eq (.slice none 0 0)],VView.O ga ta,own Event.K qb.2.1 qb.1.2.2]++F) (fun qb H=>?_) (fun H=>?_)
 ·
  obtain ⟨pf,vd⟩:=qb
  exact rg 3 0<|mv0 rfl rfl<|bn0 rfl rfl rfl run_add<|as0 rfl rfl<|.fin<|bk jc (w64 (xc+1),pf.2.2,vd) H
 refine WP.block<|WP.seq<|rg 1 0<|as0 rfl rfl<|.fin<|WP.block<|wg (sg 3 [0,1,2] 0) fun _ _=>?_
 refine lp (fun j_ (pg:Int×(List Event)×OV)=>w18_open.l2 k xc j_ pg.1 pg.2.1) (0,xd,vb) H (fun pg=>[(0,eq (.pointer none)),(1,eq (.pointer (some ⟨ba,0,none⟩))),(2,eq ga.1),(3,eq pg.2.2.1),(4,vI xc),(5,vI pg.1),(9,vB false),(12,vB (decide (xc<2)))]) (fun pg=>[blk ba 44 [eq (.slice none 0 0)],VView.O ga ta,own Event.K pg.2.2.1 pg.2.1]++F) ?_
 rintro j_ ⟨xe,xf,vh⟩ H
 rcases j_ with _ | jd
 ·
  exact (Gets.no H).elim
 try dsimp only at H
 rw [w18_open.l2] at H
 refine WP.seq<|WP.seq<|rg 2 0<|mv0 rfl rfl<|bn0 rfl rfl rfl run_lt<|.fin<|cd H rfl (fun _ H=>?_) (fun _ H=>?_)
 rotate_left
 ·
  refine WP.exit ?_
  have H:=H.out
  exact jn ((xe,decide (xe<9),xf),vh) H
 refine WP.skip<|WP.seq<|WP.block<|rg 11 512<|mv0 rfl rfl<|mv0 rfl rfl<|el H fun tf haf H=>cl rfl cal63 rfl (r01_EventOf.c haf)<|mv0 rfl rfl<|el H fun tg hag H=>cl rfl cal26 rfl (r01_RoomOf.c hag)<|mv0 rfl rfl<|el H fun tj hah H=>cl rfl cal27 rfl (r01_UserOf.c hah)<|Dv.bld (qs:=[vS tf,vS tg,eq (.slice none 0 0),vS (⟨#[]⟩:ByteArray),vS tj,vI 1]) (css:=[[vS tf],[vS tg],[vS tj],[vI 1]]) rfl trivial underlying55 pl55 z55 rfl ⟨(cells_one (one_eq rfl)),⟨(cells_one (one_eq rfl)),⟨(cells_one (one_eq rfl)),⟨(cells_one (one_eq rfl)),trivial⟩⟩⟩⟩ rfl rfl<|Dv.gh (gh_wk (E':=[(0,eq (.pointer none)),(1,eq (.pointer (some ⟨ba,0,none⟩))),(2,eq ga.1),(3,eq vh.1),(4,vI xc),(5,vI xe),(9,vB false),(12,vB (decide (xc<2))),(16,vB (decide (xe<9))),(19,eq vh.1),(26,agg [vS tf,vS tg,sl strK ([]:List ByteArray),vS (⟨#[]⟩:ByteArray),vS tj,vI 1])]) (l':=[blk ba 44 [eq (.slice none 0 0)],VView.O ga ta,own Event.K vh.1 xf]++F) (wke_cons rfl wk_id (wke_cons rfl wk_id (wke_cons rfl wk_id (wke_cons rfl wk_id (wke_cons rfl wk_id (wke_cons rfl wk_id (wke_cons rfl wk_id (wke_cons rfl wk_id (wke_cons rfl wk_id (wke_cons rfl wk_id (wke_cons rfl (wk_agg (.cons wk_id (.cons wk_id (.cons wk_nil (.cons wk_id (.cons wk_id (.cons wk_id .nil))))))) wke_nil))))))))))) (all2_app (.cons wka_id (.cons wka_id (.cons wka_id .nil))) fun _=>wka_id)) (fun _ _=>?_)
 refine Dv.lit Event.K ([(⟨tf,tg,([]:List ByteArray),(⟨#[]⟩:ByteArray),tj,1⟩:Event)]:List Event) (css:=[[vS tf,vS tg,sl strK ([]:List ByteArray),vS (⟨#[]⟩:ByteArray),vS tj,vI 1]]) rfl trivial underlying28 underlying55 c55 z55 rfl (by decide) (by decide) rfl ⟨(cells_agg (ones_cons (one_eq rfl) (ones_cons (one_eq rfl) (ones_cons one_sl (ones_cons (one_eq rfl) (ones_cons (one_eq rfl) (ones_cons (one_eq rfl) ones_nil))))))),trivial⟩ rfl rfl rfl<|gr H fun gi H=>ap Event.K 2 ([(⟨tf,tg,([]:List ByteArray),(⟨#[]⟩:ByteArray),tj,1⟩:Event)]:List Event) src_sl underlying28 (.inr ⟨_,underlying28⟩) inf55 gi nofun fun vi=>?_
 exact as0 rfl rfl<|.fin<|rg 3 0<|mv0 rfl rfl<|bn0 rfl rfl rfl run_add<|as0 rfl rfl<|.fin<|bk jd (w64 (xe+1),xf++([(⟨tf,tg,([]:List ByteArray),(⟨#[]⟩:ByteArray),tj,1⟩:Event)]:List Event),vi) H
theorem w18_lives.c (h:w18_lives.f k=some r):Pt prog 21 [] (vB r):=by
 unfold w18_lives.f at h
 refine pb func21 ntmps21 h fun R0 F H=>?_
 refine WP.seq<|rg 1 0<|as0 rfl rfl<|.fin<|WP.seq<|rg 7 81<|el H fun ta haa H=>cx 0 [] cal25 (w18_open.c haa) nofun fun ga _=>?_
 refine mv0 rfl rfl<|ex0 rfl trivial rfl rfl<|ex0 rfl trivial rfl rfl<|al rfl trivial zc44 nofun fun ba=>as0 rfl rfl<|sx 0 rfl trivial rfl rfl cA sz44 rfl rfl rfl nofun ?_
 refine .fin<|WP.seq<|rg 2 1<|el H fun tc hac H=>cx 2 [0,1] cal9 (w18_begin.c hac) nofun fun gb _=>?_
 refine as0 rfl rfl<|.fin<|WP.seq<|WP.seq<|rg 6 0<|mv0 rfl rfl<|Dv.oeq0 (fun _=>VView.nn) rfl trivial rfl rfl underlying26 (mem_at 2 rfl)<|mv0 rfl rfl ?_
 rcases bem ta.1.isNone with cc | cc
 rotate_left
 ·
  have H:=H.ct cc
  refine Dv.gh (gh_sh 15 cc rfl) (fun _ _=>?_)
  refine Dv.gh (gh_sh 16 cc rfl) (fun _ _=>?_)
  refine sk rfl rfl<|sk rfl rfl<|pt0 rfl rfl rfl<|.fin<|WP.cond rfl (fun _=>?_) nofun
  refine WP.seq<|rg 1 0<|as0 rfl rfl<|.fin ?_
  cases H.out; exact r3 i2 rfl (.cons (res_tmp rfl) .nil)
 have H:=H.cf cc
 refine Dv.gh (gh_sh 15 cc rfl) (fun _ _=>?_)
 refine Dv.gh (gh_sh 16 cc rfl) (fun _ _=>?_)
 refine mvg rfl rfl rfl<|Dv.oeq0 (fun _=>SSnd.nn) rfl (gg rfl) rfl rfl underlying24 (mem_at 0 rfl)<|pf0 rfl rfl rfl<|.fin<|cd H rfl (fun _ H=>?_) (fun ce H=>?_)
 ·
  refine WP.seq<|wg (opt_some 2 rfl cc) fun _ _=>?_
  refine rg 1 0<|as0 rfl rfl<|.fin ?_
  cases H.out; exact r3 i2 rfl (.cons (res_tmp rfl) .nil)
 refine wg (opt_some 0 rfl ce) fun _ _=>?_
 refine WP.skip<|WP.seq<|wg (opt_some 2 rfl cc) fun _ _=>?_
 refine rg 6 32<|mv0 rfl rfl<|Dv.nilA SSnd.nn rfl trivial rfl (mem_at 1 rfl)<|vg (SSnd.opn 1 rfl) fun gi had=>?_
 refine fp had rfl trivial rfl fa40_0<|ld 0 rfl trivial rfl sc36 rfl rfl<|Dv.bld (qs:=[vI 3,vS (⟨#[]⟩:ByteArray),vS (⟨#[64,97,58,115,49]⟩:ByteArray),vS (⟨#[]⟩:ByteArray),vS (⟨#[]⟩:ByteArray),vB false,vB false,vI 0,vI 2,vI 0,vI 0]) (css:=[[vI 3],[vS (⟨#[64,97,58,115,49]⟩:ByteArray)],[vI 2]]) rfl trivial underlying32 pl32 z32 rfl ⟨(cells_one (one_eq rfl)),⟨(cells_one (one_eq rfl)),⟨(cells_one (one_eq rfl)),trivial⟩⟩⟩ rfl rfl<|el H fun te hae H=>cx 6 [1,0,2,3,4,5] cal13 (queue_Queue_Put.c hae (p0_:=gi.2.1)) nofun fun _ _=>?_
 refine .fin<|WP.seq<|rg 1 0<|as0 rfl rfl<|.fin<|WP.seqn H id (fun pa:ByteArray×Int×Bool×SSnd=>[(0,vB false),(1,eq ga.1),(3,eq gb.1),(4,vS pa.1),(5,vI pa.2.1),(19,vB tc.isNone),(27,vB pa.2.2.1)]) (fun pa:ByteArray×Int×Bool×SSnd=>[blk ba 44 (RView.enc ta.2),SSnd.O gb pa.2.2.2,VView.O ga (ta.1.getD default)]++F) (fun pa H=>?_) (fun H=>?_)
 ·
  refine WP.seq<|rg 3 0<|mv0 rfl rfl<|bn0 rfl rfl rfl run_seq<|as0 rfl rfl<|.fin ?_
  cases H.out; exact r3 i2 rfl (.cons (res_tmp rfl) .nil)
 refine WP.seq<|rg 1 0<|as0 rfl rfl<|.fin<|WP.block<|wg (SSnd.shut (p:=gb) (m:=(⟨te.2.2.2,(tc.getD default).fself,(tc.getD default).fto,(tc.getD default).fids,(tc.getD default).fair⟩:SSnd)) (gi.1,gi.2.1,gi.2.2.1,gi.2.2.2) had (pm 6 [1,0,2,3,4,5])) fun _ _=>?_
 refine wg (sg 3 [2,0,1] 0) fun _ _=>?_
 refine lp (fun j_ (pc:ByteArray×Int×SSnd)=>w18_lives.l0 k ta j_ pc.1 pc.2.1 pc.2.2) ((⟨#[]⟩:ByteArray),0,(⟨te.2.2.2,(tc.getD default).fself,(tc.getD default).fto,(tc.getD default).fids,(tc.getD default).fair⟩:SSnd)) H (fun pc=>[(0,vB false),(1,eq ga.1),(3,eq gb.1),(4,vS pc.1),(5,vI pc.2.1),(19,vB tc.isNone)]) (fun pc=>[blk ba 44 (RView.enc ta.2),SSnd.O gb pc.2.2,VView.O ga (ta.1.getD default)]++F) ?_
 rintro j_ ⟨xa,xb,xc⟩ H
 rcases j_ with _ | ja
 ·
  exact (Gets.no H).elim
 try dsimp only at H
 rw [w18_lives.l0] at H
 refine WP.seq<|WP.seq<|rg 2 0<|mv0 rfl rfl<|bn0 rfl rfl rfl run_lt<|.fin<|cd H rfl (fun _ H=>?_) (fun _ H=>?_)
 rotate_left
 ·
  refine WP.exit ?_
  have H:=H.out
  exact jn (xa,xb,decide (xb<48),xc) H
 refine WP.skip<|WP.seq<|WP.block<|WP.seq<|rg 12 776<|mv0 rfl rfl<|mv0 rfl rfl<|mv0 rfl rfl<|el H fun tf haf H=>cx 3 [1,2,0] cal15 (sender_Sender_Send.c haf (p0_:=gb) (p1_:=ga)) nofun fun _ _=>?_
 refine mv0 rfl rfl<|ex0 rfl trivial rfl rfl<|ex0 rfl trivial rfl rfl<|ex0 rfl trivial rfl rfl<|al rfl trivial zc46 nofun fun bc=>sx 0 rfl trivial rfl rfl cA sz46 rfl rfl rfl nofun ?_
 refine as0 rfl rfl<|as0 rfl rfl<|.fin<|WP.seq<|rg 1 0<|mv0 rfl rfl<|.fin<|cd H rfl (fun _ H=>?_) (fun _ H=>?_)
 rotate_left
 ·
  refine WP.skip<|rg 3 0<|mv0 rfl rfl<|bn0 rfl rfl rfl run_add<|as0 rfl rfl<|.fin<|ng (sg 4 [0,3,1,2] 1) fun _ _=>?_
  exact bk ja (xa,w64 (xb+1),tf.2.2.2) H
 refine rg 6 0<|mv0 rfl rfl<|gr H fun gj H=>bn0 rfl rfl rfl (run_cat gj)<|mv0 rfl rfl<|el H fun tg hag H=>cl rfl cal28 rfl (r01_Decimal.c _ hag)<|gr H fun gk H=>bn0 rfl rfl rfl (run_cat gk)<|as0 rfl rfl<|.fin<|rg 3 0<|mv0 rfl rfl<|bn0 rfl rfl rfl run_add<|as0 rfl rfl<|.fin<|ng (sg 4 [0,3,1,2] 1) fun _ _=>?_
 exact bk ja ((xa++(⟨#[32]⟩:ByteArray))++tg,w64 (xb+1),tf.2.2.2) H
theorem sender_Sender_Ack.c {p0_:OV} (h:sender_Sender_Ack.f a0 a1=some r):Tr prog 29 [eq p0_.1,vI a1] [SSnd.O p0_ a0] (γ:=Unit) (fun _=>True) (fun g=>vB r.1) (fun g=>[SSnd.O p0_ r.2]):=by
 unfold sender_Sender_Ack.f at h
 refine tb func29 ntmps29 h fun R0 F H=>?_
 refine WP.seq<|rg 1 0<|as0 rfl rfl<|.fin<|WP.seq<|WP.seq<|rg 17 0<|mv0 rfl rfl<|Dv.nilA SSnd.nn rfl trivial rfl (mem_at 0 rfl)<|vg (SSnd.opn 0 rfl) fun ga haa=>?_
 refine fp haa rfl trivial rfl fa40_4<|ld 0 rfl trivial rfl sc38 rfl rfl<|Dv.oeq0 (fun _=>Fly.nn) rfl trivial rfl rfl underlying38 (mem_at 3 rfl)<|mv0 rfl rfl ?_
 rcases bem a0.fair.isNone with cc | cc
 rotate_left
 ·
  have H:=H.ct cc
  refine Dv.gh (gh_sh 9 cc rfl) (fun _ _=>?_)
  refine Dv.gh (gh_sh 10 cc rfl) (fun _ _=>?_)
  refine sk rfl rfl<|sk rfl rfl<|sk rfl rfl<|sk rfl rfl<|sk rfl rfl<|sk rfl rfl<|sk rfl rfl<|sk rfl rfl<|sk rfl rfl<|sk rfl rfl<|pt0 rfl rfl rfl<|.fin<|WP.cond rfl (fun _=>?_) nofun
  refine WP.seq<|rg 1 0<|as0 rfl rfl<|.fin<|wg (SSnd.shut (p:=p0_) (m:=a0) (ga.1,ga.2.1,ga.2.2.1,ga.2.2.2) haa (pm 4 [0,1,2,3])) fun _ _=>?_
  cases H.out; exact rt i2 rfl () 1 [0] 0 (.cons (res_tmp rfl) .nil)
 have H:=H.cf cc
 refine Dv.gh (gh_sh 9 cc rfl) (fun _ _=>?_)
 refine Dv.gh (gh_sh 10 cc rfl) (fun _ _=>?_)
 refine mvg rfl rfl rfl<|Dv.nilpp haa rfl (gg rfl) rfl<|fp haa rfl (gg rfl) rfl fa40_4<|ld 0 rfl (gg rfl) rfl sc38 rfl rfl<|gr H fun gb H=>vg (opt_some 3 rfl (isN gb)) fun _ _=>?_
 refine Dv.nilA Fly.nn rfl (gg rfl) rfl (mem_at 0 rfl)<|vg (Fly.opn 0 rfl) fun gi hac=>?_
 refine fp hac rfl (gg rfl) rfl fa111_0<|fb rfl (gg rfl) rfl fa46_3<|ld 0 rfl (gg rfl) rfl sc3 rfl rfl<|mvg rfl rfl rfl<|bng rfl rfl rfl rfl run_ne<|pf0 rfl rfl rfl<|.fin<|cd H rfl (fun _ H=>?_) (fun _ H=>?_)
 ·
  refine WP.seq<|rg 1 0<|as0 rfl rfl<|.fin<|wg (Fly.shut (p:=ga.2.2.2) (m:=a0.fair.getD default) gi hac (pm 4 [0,1,2,3])) fun _ _=>?_
  refine wg (opt_back0 (O:=Fly.O) (o:=a0.fair) (isN gb) 0 rfl) fun _ _=>?_
  refine wg (SSnd.shut (p:=p0_) (m:=a0) (ga.1,ga.2.1,ga.2.2.1,ga.2.2.2) haa (pm 4 [1,2,3,0])) fun _ _=>?_
  cases H.out; exact rt i2 rfl () 1 [0] 0 (.cons (res_tmp rfl) .nil)
 refine WP.skip<|WP.seq<|rg 4 8<|mv0 rfl rfl<|Dv.nilpp haa rfl trivial rfl<|fp haa rfl trivial rfl fa40_4<|sx 1 rfl trivial rfl rfl cE sz38 rfl rfl rfl nofun ?_
 refine .fin<|WP.seq<|rg 1 0<|as0 rfl rfl<|.fin<|wg (st_nilP (O:=Fly.O)) fun _ _=>?_
 refine wg (SSnd.shut (p:=p0_) (m:=(⟨a0.fQueue,a0.fself,a0.fto,a0.fids,none⟩:SSnd)) (ga.1,ga.2.1,ga.2.2.1,nilP) haa (pm 5 [2,3,4,0,1])) fun _ _=>?_
 refine wg (Fly.shut (p:=ga.2.2.2) (m:=a0.fair.getD default) gi hac (pm 2 [1,0])) fun _ _=>?_
 refine wg (opt_back0 (O:=Fly.O) (o:=a0.fair) (isN gb) 0 rfl) fun _ _=>?_
 cases H.out; exact rt i2 rfl () 2 [0,1] 1 (.cons (res_tmp rfl) .nil)
theorem r18_New.c (h:r18_New.f a0 a1 a2 a3=some r):Pt prog 34 [vS a0,vS a1,vI a2,vI a3] (agg (RSnd.enc r)):=by
 unfold r18_New.f at h
 refine pb func34 ntmps34 h fun R0 F H=>?_
 refine WP.seq<|rg 1 1<|al rfl trivial zc80 nofun fun ba=>.fin<|WP.seq<|rg 7 64<|mv0 rfl rfl<|mv0 rfl rfl<|mv0 rfl rfl<|mv0 rfl rfl<|Dv.bld (qs:=[vI a2,eq (.slice none 0 0),vI 0]) (css:=[[vI a2]]) rfl trivial underlying77 pl77 z77 rfl ⟨(cells_one (one_eq rfl)),trivial⟩ rfl rfl<|Dv.bld (qs:=[vS a0,vS a1,vI a3,vI a2,eq (.slice none 0 0),vI 0,vB false,vS (⟨#[]⟩:ByteArray),vS (⟨#[]⟩:ByteArray),vI 0,eq (.slice none 0 0),vB false,vI 0,vI 0]) (css:=[[vS a0],[vS a1],[vI a3],[vI a2,eq (.slice none 0 0),vI 0]]) rfl trivial underlying80 pl80 z80 rfl ⟨(cells_one (one_eq rfl)),⟨(cells_one (one_eq rfl)),⟨(cells_one (one_eq rfl)),⟨(cells_agg (ones_cons (one_eq rfl) (ones_cons (one_eq rfl) (ones_cons (one_eq rfl) ones_nil)))),trivial⟩⟩⟩⟩ rfl rfl<|sx 0 rfl trivial rfl rfl cA sz80 rfl rfl rfl nofun ?_
 refine .fin ?_
 cases H.out; exact r1 i2 rfl (.cons (res_wk (res_cells rfl underlying80 rfl c80 (mem_at 0 rfl) rfl) (wk_agg (.cons wk_id (.cons wk_id (.cons wk_id (.cons wk_id (.cons wk_nil (.cons wk_id (.cons wk_id (.cons wk_id (.cons wk_id (.cons wk_id (.cons wk_nil (.cons wk_id (.cons wk_id (.cons wk_id .nil)))))))))))))))) .nil)
theorem r01_Thread.c (h:r01_Thread.f k a0=some r):Pt prog 148 [vS a0] (vB r):=by
 unfold r01_Thread.f at h
 refine pb func148 ntmps148 h fun R0 F H=>?_
 refine WP.seq<|rg 1 0<|as0 rfl rfl<|.fin<|WP.seq<|rg 3 0<|mv0 rfl rfl<|el H fun ta haa H=>cl rfl cal125 rfl (r01_Event.c haa)<|as0 rfl rfl<|.fin<|WP.seq<|rg 10 0<|mv0 rfl rfl<|bn0 rfl rfl rfl run_seq<|mv0 rfl rfl ?_
 cases cc:decide (a0=(⟨#[]⟩:ByteArray))
 rotate_left
 ·
  have H:=H.ct cc
  refine sk rfl rfl<|sk rfl rfl<|pt0 rfl rfl rfl<|mv0 rfl rfl<|sk rfl rfl<|pt0 rfl rfl rfl<|as0 rfl rfl<|.fin ?_
  cases H.out; exact r0 i2 rfl (.cons (res_tmp rfl) .nil)
 have H:=H.cf cc
 refine mvg rfl rfl rfl<|bng rfl rfl rfl rfl run_seq<|pf0 rfl rfl rfl<|mv0 rfl rfl ?_
 cases ce:decide (a0=(⟨#[109,97,105,110]⟩:ByteArray))
 rotate_left
 ·
  have H:=H.ct ce
  refine sk rfl rfl<|pt0 rfl rfl rfl<|as0 rfl rfl<|.fin ?_
  cases H.out; exact r0 i2 rfl (.cons (res_tmp rfl) .nil)
 have H:=H.cf ce
 refine mvg rfl rfl rfl<|pf0 rfl rfl rfl<|as0 rfl rfl<|.fin ?_
 cases H.out; exact r0 i2 rfl (.cons (res_tmp rfl) .nil)
theorem r03_Local.c (h:r03_Local.f k a0=some r):Pt prog 117 [agg (Edu.enc a0)] (vB r):=by
 unfold r03_Local.f at h
 refine pb func117 ntmps117 h fun R0 F H=>?_
 refine WP.seq<|rg 2 1<|Dv.box rfl trivial rfl cA nofun fun ba=>as0 rfl rfl<|.fin<|WP.seq<|rg 4 0<|fb rfl trivial rfl fa32_2<|ld 0 rfl trivial rfl sc9 rfl rfl<|el H fun ta haa H=>cl rfl cal126 rfl (r01_Named.c haa)<|as0 rfl rfl<|.fin<|WP.seq<|rg 4 0<|fb rfl trivial rfl fa32_1<|ld 0 rfl trivial rfl sc9 rfl rfl<|el H fun tc hac H=>cl rfl cal126 rfl (r01_Named.c hac)<|as0 rfl rfl<|.fin<|WP.seq<|rg 4 0<|fb rfl trivial rfl fa32_3<|ld 0 rfl trivial rfl sc9 rfl rfl<|el H fun te had H=>cl rfl cal125 rfl (r01_Event.c had)<|as0 rfl rfl<|.fin<|WP.seq<|rg 4 0<|fb rfl trivial rfl fa32_4<|ld 0 rfl trivial rfl sc9 rfl rfl<|el H fun tf hae H=>cl rfl cal148 rfl (r01_Thread.c hae)<|as0 rfl rfl<|.fin<|WP.seq<|WP.seq<|rg 22 0<|mv0 rfl rfl<|un0 rfl rfl (run_not _)<|mv0 rfl rfl ?_
 cases cc:!ta
 rotate_left
 ·
  have H:=H.ct cc
  refine sk rfl rfl<|sk rfl rfl<|sk rfl rfl<|pt0 rfl rfl rfl<|mv0 rfl rfl<|sk rfl rfl<|sk rfl rfl<|sk rfl rfl<|pt0 rfl rfl rfl<|mv0 rfl rfl<|sk rfl rfl<|sk rfl rfl<|sk rfl rfl<|pt0 rfl rfl rfl<|mv0 rfl rfl<|sk rfl rfl<|sk rfl rfl<|sk rfl rfl<|pt0 rfl rfl rfl<|.fin<|WP.cond rfl (fun _=>?_) nofun
  refine WP.seq<|rg 1 0<|as0 rfl rfl<|.fin ?_
  cases H.out; exact r1 i2 rfl (.cons (res_tmp rfl) .nil)
 have H:=H.cf cc
 refine fb rfl (gg rfl) rfl fa32_9<|ld 0 rfl (gg rfl) rfl sc3 rfl rfl<|bng rfl rfl rfl rfl run_lt<|pf0 rfl rfl rfl<|mv0 rfl rfl ?_
 cases ce:decide (a0.fTick<0)
 rotate_left
 ·
  have H:=H.ct ce
  refine sk rfl rfl<|sk rfl rfl<|sk rfl rfl<|pt0 rfl rfl rfl<|mv0 rfl rfl<|sk rfl rfl<|sk rfl rfl<|sk rfl rfl<|pt0 rfl rfl rfl<|mv0 rfl rfl<|sk rfl rfl<|sk rfl rfl<|sk rfl rfl<|pt0 rfl rfl rfl<|.fin<|WP.cond rfl (fun _=>?_) nofun
  refine WP.seq<|rg 1 0<|as0 rfl rfl<|.fin ?_
  cases H.out; exact r1 i2 rfl (.cons (res_tmp rfl) .nil)
 have H:=H.cf ce
 refine fb rfl (gg rfl) rfl fa32_9<|ld 0 rfl (gg rfl) rfl sc3 rfl rfl<|bng rfl rfl rfl rfl run_gt<|pf0 rfl rfl rfl<|mv0 rfl rfl ?_
 cases cg:decide (1099511627776<a0.fTick)
 rotate_left
 ·
  have H:=H.ct cg
  refine sk rfl rfl<|sk rfl rfl<|sk rfl rfl<|pt0 rfl rfl rfl<|mv0 rfl rfl<|sk rfl rfl<|sk rfl rfl<|sk rfl rfl<|pt0 rfl rfl rfl<|.fin<|WP.cond rfl (fun _=>?_) nofun
  refine WP.seq<|rg 1 0<|as0 rfl rfl<|.fin ?_
  cases H.out; exact r1 i2 rfl (.cons (res_tmp rfl) .nil)
 have H:=H.cf cg
 refine fb rfl (gg rfl) rfl fa32_10<|ld 0 rfl (gg rfl) rfl sc3 rfl rfl<|bng rfl rfl rfl rfl run_lt<|pf0 rfl rfl rfl<|mv0 rfl rfl ?_
 cases ci:decide (a0.fStamp<0)
 rotate_left
 ·
  have H:=H.ct ci
  refine sk rfl rfl<|sk rfl rfl<|sk rfl rfl<|pt0 rfl rfl rfl<|.fin<|WP.cond rfl (fun _=>?_) nofun
  refine WP.seq<|rg 1 0<|as0 rfl rfl<|.fin ?_
  cases H.out; exact r1 i2 rfl (.cons (res_tmp rfl) .nil)
 have H:=H.cf ci
 refine fb rfl (gg rfl) rfl fa32_10<|ld 0 rfl (gg rfl) rfl sc3 rfl rfl<|bng rfl rfl rfl rfl run_gt<|pf0 rfl rfl rfl<|.fin<|cd H rfl (fun _ H=>?_) (fun _ H=>?_)
 ·
  refine WP.seq<|rg 1 0<|as0 rfl rfl<|.fin ?_
  cases H.out; exact r1 i2 rfl (.cons (res_tmp rfl) .nil)
 refine WP.skip<|WP.seq<|WP.seq<|rg 2 0<|fb rfl trivial rfl fa32_0<|ld 0 rfl trivial rfl sc3 rfl rfl<|.fin<|WP.block<|WP.seq<|rg 2 0<|bn0 rfl rfl rfl run_eq<|as0 rfl rfl<|.fin<|cd H rfl (fun _ H=>?_) (fun _ H=>?_)
 ·
  refine WP.seq<|rg 23 0<|mv0 rfl rfl<|mv0 rfl rfl ?_
  cases cj:tc
  ·
   have H:=H.cf cj
   refine sk rfl rfl<|pf0 rfl rfl rfl<|mv0 rfl rfl<|sk rfl rfl<|pf0 rfl rfl rfl<|mv0 rfl rfl<|sk rfl rfl<|sk rfl rfl<|sk rfl rfl<|pf0 rfl rfl rfl<|mv0 rfl rfl<|sk rfl rfl<|sk rfl rfl<|sk rfl rfl<|pf0 rfl rfl rfl<|mv0 rfl rfl<|sk rfl rfl<|sk rfl rfl<|sk rfl rfl<|pf0 rfl rfl rfl<|as0 rfl rfl<|.fin ?_
   cases H.out; exact r1 i2 rfl (.cons (res_tmp rfl) .nil)
  have H:=H.ct cj
  refine mvg rfl rfl rfl<|pt0 rfl rfl rfl<|mv0 rfl rfl ?_
  cases ck:te
  ·
   have H:=H.cf ck
   refine sk rfl rfl<|pf0 rfl rfl rfl<|mv0 rfl rfl<|sk rfl rfl<|sk rfl rfl<|sk rfl rfl<|pf0 rfl rfl rfl<|mv0 rfl rfl<|sk rfl rfl<|sk rfl rfl<|sk rfl rfl<|pf0 rfl rfl rfl<|mv0 rfl rfl<|sk rfl rfl<|sk rfl rfl<|sk rfl rfl<|pf0 rfl rfl rfl<|as0 rfl rfl<|.fin ?_
   cases H.out; exact r1 i2 rfl (.cons (res_tmp rfl) .nil)
  have H:=H.ct ck
  refine mvg rfl rfl rfl<|pt0 rfl rfl rfl<|mv0 rfl rfl ?_
  cases cn:tf
  ·
   have H:=H.cf cn
   refine sk rfl rfl<|sk rfl rfl<|sk rfl rfl<|pf0 rfl rfl rfl<|mv0 rfl rfl<|sk rfl rfl<|sk rfl rfl<|sk rfl rfl<|pf0 rfl rfl rfl<|mv0 rfl rfl<|sk rfl rfl<|sk rfl rfl<|sk rfl rfl<|pf0 rfl rfl rfl<|as0 rfl rfl<|.fin ?_
   cases H.out; exact r1 i2 rfl (.cons (res_tmp rfl) .nil)
  have H:=H.ct cn
  refine fb rfl (gg rfl) rfl fa32_6<|ld 0 rfl (gg rfl) rfl sc4 rfl rfl<|ung rfl rfl rfl (run_not _)<|pt0 rfl rfl rfl<|mv0 rfl rfl ?_
  cases co:!a0.fOn
  ·
   have H:=H.cf co
   refine sk rfl rfl<|sk rfl rfl<|sk rfl rfl<|pf0 rfl rfl rfl<|mv0 rfl rfl<|sk rfl rfl<|sk rfl rfl<|sk rfl rfl<|pf0 rfl rfl rfl<|as0 rfl rfl<|.fin ?_
   cases H.out; exact r1 i2 rfl (.cons (res_tmp rfl) .nil)
  have H:=H.ct co
  refine fb rfl (gg rfl) rfl fa32_7<|ld 0 rfl (gg rfl) rfl sc3 rfl rfl<|bng rfl rfl rfl rfl run_eq<|pt0 rfl rfl rfl<|mv0 rfl rfl ?_
  cases cp:(a0.fSpan==0)
  ·
   have H:=H.cf cp
   refine sk rfl rfl<|sk rfl rfl<|sk rfl rfl<|pf0 rfl rfl rfl<|as0 rfl rfl<|.fin ?_
   cases H.out; exact r1 i2 rfl (.cons (res_tmp rfl) .nil)
  have H:=H.ct cp
  refine fb rfl (gg rfl) rfl fa32_8<|ld 0 rfl (gg rfl) rfl sc3 rfl rfl<|bng rfl rfl rfl rfl run_eq<|pt0 rfl rfl rfl<|as0 rfl rfl<|.fin ?_
  cases H.out; exact r1 i2 rfl (.cons (res_tmp rfl) .nil)
 refine WP.seq<|rg 2 0<|bn0 rfl rfl rfl run_eq<|as0 rfl rfl<|.fin<|cd H rfl (fun _ H=>?_) (fun _ H=>?_)
 rotate_left
 ·
  refine WP.seq<|rg 2 0<|bn0 rfl rfl rfl run_eq<|as0 rfl rfl<|.fin<|cd H rfl (fun _ H=>?_) (fun _ H=>?_)
  rotate_left
  ·
   refine WP.skip<|WP.seq<|rg 1 0<|as0 rfl rfl<|.fin ?_
   cases H.out; exact r1 i2 rfl (.cons (res_tmp rfl) .nil)
  refine WP.seq<|rg 39 0<|fb rfl trivial rfl fa32_1<|ld 0 rfl trivial rfl sc9 rfl rfl<|bn0 rfl rfl rfl run_seq<|mv0 rfl rfl ?_
  cases cq:decide (a0.fRoom=(⟨#[]⟩:ByteArray))
  ·
   have H:=H.cf cq
   refine sk rfl rfl<|sk rfl rfl<|sk rfl rfl<|pf0 rfl rfl rfl<|mv0 rfl rfl<|sk rfl rfl<|sk rfl rfl<|sk rfl rfl<|pf0 rfl rfl rfl<|mv0 rfl rfl<|sk rfl rfl<|sk rfl rfl<|sk rfl rfl<|pf0 rfl rfl rfl<|mv0 rfl rfl<|sk rfl rfl<|sk rfl rfl<|sk rfl rfl<|pf0 rfl rfl rfl<|mv0 rfl rfl<|sk rfl rfl<|sk rfl rfl<|sk rfl rfl<|pf0 rfl rfl rfl<|mv0 rfl rfl<|sk rfl rfl<|sk rfl rfl<|sk rfl rfl<|pf0 rfl rfl rfl<|mv0 rfl rfl<|sk rfl rfl<|sk rfl rfl<|sk rfl rfl<|pf0 rfl rfl rfl<|as0 rfl rfl<|.fin ?_
   cases H.out; exact r1 i2 rfl (.cons (res_tmp rfl) .nil)
  have H:=H.ct cq
  refine fb rfl (gg rfl) rfl fa32_3<|ld 0 rfl (gg rfl) rfl sc9 rfl rfl<|bng rfl rfl rfl rfl run_seq<|pt0 rfl rfl rfl<|mv0 rfl rfl ?_
  cases cr:decide (a0.fEvent=(⟨#[]⟩:ByteArray))
  ·
   have H:=H.cf cr
   refine sk rfl rfl<|sk rfl rfl<|sk rfl rfl<|pf0 rfl rfl rfl<|mv0 rfl rfl<|sk rfl rfl<|sk rfl rfl<|sk rfl rfl<|pf0 rfl rfl rfl<|mv0 rfl rfl<|sk rfl rfl<|sk rfl rfl<|sk rfl rfl<|pf0 rfl rfl rfl<|mv0 rfl rfl<|sk rfl rfl<|sk rfl rfl<|sk rfl rfl<|pf0 rfl rfl rfl<|mv0 rfl rfl<|sk rfl rfl<|sk rfl rfl<|sk rfl rfl<|pf0 rfl rfl rfl<|mv0 rfl rfl<|sk rfl rfl<|sk rfl rfl<|sk rfl rfl<|pf0 rfl rfl rfl<|as0 rfl rfl<|.fin ?_
   cases H.out; exact r1 i2 rfl (.cons (res_tmp rfl) .nil)
  have H:=H.ct cr
  refine fb rfl (gg rfl) rfl fa32_4<|ld 0 rfl (gg rfl) rfl sc9 rfl rfl<|bng rfl rfl rfl rfl run_seq<|pt0 rfl rfl rfl<|mv0 rfl rfl ?_
  cases cu:decide (a0.fThread=(⟨#[]⟩:ByteArray))
  ·
   have H:=H.cf cu
   refine sk rfl rfl<|sk rfl rfl<|sk rfl rfl<|pf0 rfl rfl rfl<|mv0 rfl rfl<|sk rfl rfl<|sk rfl rfl<|sk rfl rfl<|pf0 rfl rfl rfl<|mv0 rfl rfl<|sk rfl rfl<|sk rfl rfl<|sk rfl rfl<|pf0 rfl rfl rfl<|mv0 rfl rfl<|sk rfl rfl<|sk rfl rfl<|sk rfl rfl<|pf0 rfl rfl rfl<|mv0 rfl rfl<|sk rfl rfl<|sk rfl rfl<|sk rfl rfl<|pf0 rfl rfl rfl<|as0 rfl rfl<|.fin ?_
   cases H.out; exact r1 i2 rfl (.cons (res_tmp rfl) .nil)
  have H:=H.ct cu
  refine fb rfl (gg rfl) rfl fa32_6<|ld 0 rfl (gg rfl) rfl sc4 rfl rfl<|ung rfl rfl rfl (run_not _)<|pt0 rfl rfl rfl<|mv0 rfl rfl ?_
  cases cw:!a0.fOn
  ·
   have H:=H.cf cw
   refine sk rfl rfl<|sk rfl rfl<|sk rfl rfl<|pf0 rfl rfl rfl<|mv0 rfl rfl<|sk rfl rfl<|sk rfl rfl<|sk rfl rfl<|pf0 rfl rfl rfl<|mv0 rfl rfl<|sk rfl rfl<|sk rfl rfl<|sk rfl rfl<|pf0 rfl rfl rfl<|mv0 rfl rfl<|sk rfl rfl<|sk rfl rfl<|sk rfl rfl<|pf0 rfl rfl rfl<|as0 rfl rfl<|.fin ?_
   cases H.out; exact r1 i2 rfl (.cons (res_tmp rfl) .nil)
  have H:=H.ct cw
  refine fb rfl (gg rfl) rfl fa32_7<|ld 0 rfl (gg rfl) rfl sc3 rfl rfl<|bng rfl rfl rfl rfl run_eq<|pt0 rfl rfl rfl<|mv0 rfl rfl ?_
  cases cy:(a0.fSpan==0)
  ·
   have H:=H.cf cy
   refine sk rfl rfl<|sk rfl rfl<|sk rfl rfl<|pf0 rfl rfl rfl<|mv0 rfl rfl<|sk rfl rfl<|sk rfl rfl<|sk rfl rfl<|pf0 rfl rfl rfl<|mv0 rfl rfl<|sk rfl rfl<|sk rfl rfl<|sk rfl rfl<|pf0 rfl rfl rfl<|as0 rfl rfl<|.fin ?_
   cases H.out; exact r1 i2 rfl (.cons (res_tmp rfl) .nil)
  have H:=H.ct cy
  refine fb rfl (gg rfl) rfl fa32_5<|ld 0 rfl (gg rfl) rfl sc4 rfl rfl<|ung rfl rfl rfl (run_not _)<|pt0 rfl rfl rfl<|mv0 rfl rfl ?_
  cases cz:!a0.fPrivate
  ·
   have H:=H.cf cz
   refine sk rfl rfl<|sk rfl rfl<|sk rfl rfl<|pf0 rfl rfl rfl<|mv0 rfl rfl<|sk rfl rfl<|sk rfl rfl<|sk rfl rfl<|pf0 rfl rfl rfl<|as0 rfl rfl<|.fin ?_
   cases H.out; exact r1 i2 rfl (.cons (res_tmp rfl) .nil)
  have H:=H.ct cz
  refine fb rfl (gg rfl) rfl fa32_8<|ld 0 rfl (gg rfl) rfl sc3 rfl rfl<|bng rfl rfl rfl rfl run_ge<|pt0 rfl rfl rfl<|mv0 rfl rfl ?_
  cases caa:decide (0≤a0.fState)
  ·
   have H:=H.cf caa
   refine sk rfl rfl<|sk rfl rfl<|sk rfl rfl<|pf0 rfl rfl rfl<|as0 rfl rfl<|.fin ?_
   cases H.out; exact r1 i2 rfl (.cons (res_tmp rfl) .nil)
  have H:=H.ct caa
  refine fb rfl (gg rfl) rfl fa32_8<|ld 0 rfl (gg rfl) rfl sc3 rfl rfl<|bng rfl rfl rfl rfl run_le<|pt0 rfl rfl rfl<|as0 rfl rfl<|.fin ?_
  cases H.out; exact r1 i2 rfl (.cons (res_tmp rfl) .nil)
 refine WP.seq<|rg 23 0<|fb rfl trivial rfl fa32_6<|ld 0 rfl trivial rfl sc4 rfl rfl<|mv0 rfl rfl ?_
 cases cab:a0.fOn
 ·
  have H:=H.cf cab
  refine sk rfl rfl<|sk rfl rfl<|sk rfl rfl<|pf0 rfl rfl rfl<|mv0 rfl rfl<|sk rfl rfl<|sk rfl rfl<|sk rfl rfl<|pf0 rfl rfl rfl<|mv0 rfl rfl<|fb rfl (gg rfl) rfl fa32_6<|ld 0 rfl (gg rfl) rfl sc4 rfl rfl<|ung rfl rfl rfl (run_not _)<|mvg rfl rfl rfl ?_
  cases cac:!a0.fOn
  ·
   have H:=H.cf cac
   refine sk rfl rfl<|sk rfl rfl<|sk rfl rfl<|pfg rfl rfl rfl rfl<|pf0 rfl rfl rfl<|as0 rfl rfl<|.fin<|WP.seq<|rg 25 0<|mv0 rfl rfl<|mv0 rfl rfl ?_
   cases cad:tc
   ·
    have H:=H.cf cad
    refine sk rfl rfl<|pf0 rfl rfl rfl<|mv0 rfl rfl<|sk rfl rfl<|sk rfl rfl<|sk rfl rfl<|pf0 rfl rfl rfl<|mv0 rfl rfl<|sk rfl rfl<|sk rfl rfl<|sk rfl rfl<|pf0 rfl rfl rfl<|mv0 rfl rfl<|sk rfl rfl<|sk rfl rfl<|sk rfl rfl<|pf0 rfl rfl rfl<|mv0 rfl rfl<|sk rfl rfl<|sk rfl rfl<|sk rfl rfl<|pf0 rfl rfl rfl<|as0 rfl rfl<|.fin ?_
    cases H.out; exact r1 i2 rfl (.cons (res_tmp rfl) .nil)
   have H:=H.ct cad
   refine mvg rfl rfl rfl<|pt0 rfl rfl rfl<|mv0 rfl rfl<|sk rfl rfl<|sk rfl rfl<|sk rfl rfl<|pf0 rfl rfl rfl<|mv0 rfl rfl<|sk rfl rfl<|sk rfl rfl<|sk rfl rfl<|pf0 rfl rfl rfl<|mv0 rfl rfl<|sk rfl rfl<|sk rfl rfl<|sk rfl rfl<|pf0 rfl rfl rfl<|mv0 rfl rfl<|sk rfl rfl<|sk rfl rfl<|sk rfl rfl<|pf0 rfl rfl rfl<|as0 rfl rfl<|.fin ?_
   cases H.out; exact r1 i2 rfl (.cons (res_tmp rfl) .nil)
  have H:=H.ct cac
  refine fb rfl (gg rfl) rfl fa32_7<|ld 0 rfl (gg rfl) rfl sc3 rfl rfl<|bng rfl rfl rfl rfl run_eq<|ptg rfl rfl rfl rfl<|pf0 rfl rfl rfl<|as0 rfl rfl<|.fin<|WP.seq<|rg 25 0<|mv0 rfl rfl<|mv0 rfl rfl ?_
  cases cae:tc
  ·
   have H:=H.cf cae
   refine sk rfl rfl<|pf0 rfl rfl rfl<|mv0 rfl rfl<|sk rfl rfl<|sk rfl rfl<|sk rfl rfl<|pf0 rfl rfl rfl<|mv0 rfl rfl<|sk rfl rfl<|sk rfl rfl<|sk rfl rfl<|pf0 rfl rfl rfl<|mv0 rfl rfl<|sk rfl rfl<|sk rfl rfl<|sk rfl rfl<|pf0 rfl rfl rfl<|mv0 rfl rfl<|sk rfl rfl<|sk rfl rfl<|sk rfl rfl<|pf0 rfl rfl rfl<|as0 rfl rfl<|.fin ?_
   cases H.out; exact r1 i2 rfl (.cons (res_tmp rfl) .nil)
  have H:=H.ct cae
  refine mvg rfl rfl rfl<|pt0 rfl rfl rfl<|mv0 rfl rfl ?_
  cases caf:(a0.fSpan==0)
  ·
   have H:=H.cf caf
   refine sk rfl rfl<|sk rfl rfl<|sk rfl rfl<|pf0 rfl rfl rfl<|mv0 rfl rfl<|sk rfl rfl<|sk rfl rfl<|sk rfl rfl<|pf0 rfl rfl rfl<|mv0 rfl rfl<|sk rfl rfl<|sk rfl rfl<|sk rfl rfl<|pf0 rfl rfl rfl<|mv0 rfl rfl<|sk rfl rfl<|sk rfl rfl<|sk rfl rfl<|pf0 rfl rfl rfl<|as0 rfl rfl<|.fin ?_
   cases H.out; exact r1 i2 rfl (.cons (res_tmp rfl) .nil)
  have H:=H.ct caf
  refine fb rfl (gg rfl) rfl fa32_3<|ld 0 rfl (gg rfl) rfl sc9 rfl rfl<|bng rfl rfl rfl rfl run_seq<|pt0 rfl rfl rfl<|mv0 rfl rfl ?_
  cases cag:decide (a0.fEvent=(⟨#[]⟩:ByteArray))
  ·
   have H:=H.cf cag
   refine sk rfl rfl<|sk rfl rfl<|sk rfl rfl<|pf0 rfl rfl rfl<|mv0 rfl rfl<|sk rfl rfl<|sk rfl rfl<|sk rfl rfl<|pf0 rfl rfl rfl<|mv0 rfl rfl<|sk rfl rfl<|sk rfl rfl<|sk rfl rfl<|pf0 rfl rfl rfl<|as0 rfl rfl<|.fin ?_
   cases H.out; exact r1 i2 rfl (.cons (res_tmp rfl) .nil)
  have H:=H.ct cag
  refine fb rfl (gg rfl) rfl fa32_4<|ld 0 rfl (gg rfl) rfl sc9 rfl rfl<|bng rfl rfl rfl rfl run_seq<|pt0 rfl rfl rfl<|mv0 rfl rfl ?_
  cases cah:decide (a0.fThread=(⟨#[]⟩:ByteArray))
  ·
   have H:=H.cf cah
   refine sk rfl rfl<|sk rfl rfl<|sk rfl rfl<|pf0 rfl rfl rfl<|mv0 rfl rfl<|sk rfl rfl<|sk rfl rfl<|sk rfl rfl<|pf0 rfl rfl rfl<|as0 rfl rfl<|.fin ?_
   cases H.out; exact r1 i2 rfl (.cons (res_tmp rfl) .nil)
  have H:=H.ct cah
  refine fb rfl (gg rfl) rfl fa32_8<|ld 0 rfl (gg rfl) rfl sc3 rfl rfl<|bng rfl rfl rfl rfl run_eq<|pt0 rfl rfl rfl<|mv0 rfl rfl ?_
  cases cai:(a0.fState==0)
  ·
   have H:=H.cf cai
   refine sk rfl rfl<|sk rfl rfl<|sk rfl rfl<|pf0 rfl rfl rfl<|as0 rfl rfl<|.fin ?_
   cases H.out; exact r1 i2 rfl (.cons (res_tmp rfl) .nil)
  have H:=H.ct cai
  refine fb rfl (gg rfl) rfl fa32_5<|ld 0 rfl (gg rfl) rfl sc4 rfl rfl<|ung rfl rfl rfl (run_not _)<|pt0 rfl rfl rfl<|as0 rfl rfl<|.fin ?_
  cases H.out; exact r1 i2 rfl (.cons (res_tmp rfl) .nil)
 have H:=H.ct cab
 refine fb rfl (gg rfl) rfl fa32_7<|ld 0 rfl (gg rfl) rfl sc3 rfl rfl<|bng rfl rfl rfl rfl run_ge<|pt0 rfl rfl rfl<|mv0 rfl rfl ?_
 cases caj:decide (1≤a0.fSpan)
 ·
  have H:=H.cf caj
  refine sk rfl rfl<|sk rfl rfl<|sk rfl rfl<|pf0 rfl rfl rfl<|mv0 rfl rfl<|fb rfl (gg rfl) rfl fa32_6<|ld 0 rfl (gg rfl) rfl sc4 rfl rfl<|ung rfl rfl rfl (run_not _)<|mvg rfl rfl rfl ?_
  cases cak:!a0.fOn
  ·
   have H:=H.cf cak
   refine sk rfl rfl<|sk rfl rfl<|sk rfl rfl<|pfg rfl rfl rfl rfl<|pf0 rfl rfl rfl<|as0 rfl rfl<|.fin<|WP.seq<|rg 25 0<|mv0 rfl rfl<|mv0 rfl rfl ?_
   cases cal:tc
   ·
    have H:=H.cf cal
    refine sk rfl rfl<|pf0 rfl rfl rfl<|mv0 rfl rfl<|sk rfl rfl<|sk rfl rfl<|sk rfl rfl<|pf0 rfl rfl rfl<|mv0 rfl rfl<|sk rfl rfl<|sk rfl rfl<|sk rfl rfl<|pf0 rfl rfl rfl<|mv0 rfl rfl<|sk rfl rfl<|sk rfl rfl<|sk rfl rfl<|pf0 rfl rfl rfl<|mv0 rfl rfl<|sk rfl rfl<|sk rfl rfl<|sk rfl rfl<|pf0 rfl rfl rfl<|as0 rfl rfl<|.fin ?_
    cases H.out; exact r1 i2 rfl (.cons (res_tmp rfl) .nil)
   have H:=H.ct cal
   refine mvg rfl rfl rfl<|pt0 rfl rfl rfl<|mv0 rfl rfl<|sk rfl rfl<|sk rfl rfl<|sk rfl rfl<|pf0 rfl rfl rfl<|mv0 rfl rfl<|sk rfl rfl<|sk rfl rfl<|sk rfl rfl<|pf0 rfl rfl rfl<|mv0 rfl rfl<|sk rfl rfl<|sk rfl rfl<|sk rfl rfl<|pf0 rfl rfl rfl<|mv0 rfl rfl<|sk rfl rfl<|sk rfl rfl<|sk rfl rfl<|pf0 rfl rfl rfl<|as0 rfl rfl<|.fin ?_
   cases H.out; exact r1 i2 rfl (.cons (res_tmp rfl) .nil)
  have H:=H.ct cak
  refine fb rfl (gg rfl) rfl fa32_7<|ld 0 rfl (gg rfl) rfl sc3 rfl rfl<|bng rfl rfl rfl rfl run_eq<|ptg rfl rfl rfl rfl<|pf0 rfl rfl rfl<|as0 rfl rfl<|.fin<|WP.seq<|rg 25 0<|mv0 rfl rfl<|mv0 rfl rfl ?_
  cases cam:tc
  ·
   have H:=H.cf cam
   refine sk rfl rfl<|pf0 rfl rfl rfl<|mv0 rfl rfl<|sk rfl rfl<|sk rfl rfl<|sk rfl rfl<|pf0 rfl rfl rfl<|mv0 rfl rfl<|sk rfl rfl<|sk rfl rfl<|sk rfl rfl<|pf0 rfl rfl rfl<|mv0 rfl rfl<|sk rfl rfl<|sk rfl rfl<|sk rfl rfl<|pf0 rfl rfl rfl<|mv0 rfl rfl<|sk rfl rfl<|sk rfl rfl<|sk rfl rfl<|pf0 rfl rfl rfl<|as0 rfl rfl<|.fin ?_
   cases H.out; exact r1 i2 rfl (.cons (res_tmp rfl) .nil)
  have H:=H.ct cam
  refine mvg rfl rfl rfl<|pt0 rfl rfl rfl<|mv0 rfl rfl ?_
  cases can:(a0.fSpan==0)
  ·
   have H:=H.cf can
   refine sk rfl rfl<|sk rfl rfl<|sk rfl rfl<|pf0 rfl rfl rfl<|mv0 rfl rfl<|sk rfl rfl<|sk rfl rfl<|sk rfl rfl<|pf0 rfl rfl rfl<|mv0 rfl rfl<|sk rfl rfl<|sk rfl rfl<|sk rfl rfl<|pf0 rfl rfl rfl<|mv0 rfl rfl<|sk rfl rfl<|sk rfl rfl<|sk rfl rfl<|pf0 rfl rfl rfl<|as0 rfl rfl<|.fin ?_
   cases H.out; exact r1 i2 rfl (.cons (res_tmp rfl) .nil)
  have H:=H.ct can
  refine fb rfl (gg rfl) rfl fa32_3<|ld 0 rfl (gg rfl) rfl sc9 rfl rfl<|bng rfl rfl rfl rfl run_seq<|pt0 rfl rfl rfl<|mv0 rfl rfl ?_
  cases cao:decide (a0.fEvent=(⟨#[]⟩:ByteArray))
  ·
   have H:=H.cf cao
   refine sk rfl rfl<|sk rfl rfl<|sk rfl rfl<|pf0 rfl rfl rfl<|mv0 rfl rfl<|sk rfl rfl<|sk rfl rfl<|sk rfl rfl<|pf0 rfl rfl rfl<|mv0 rfl rfl<|sk rfl rfl<|sk rfl rfl<|sk rfl rfl<|pf0 rfl rfl rfl<|as0 rfl rfl<|.fin ?_
   cases H.out; exact r1 i2 rfl (.cons (res_tmp rfl) .nil)
  have H:=H.ct cao
  refine fb rfl (gg rfl) rfl fa32_4<|ld 0 rfl (gg rfl) rfl sc9 rfl rfl<|bng rfl rfl rfl rfl run_seq<|pt0 rfl rfl rfl<|mv0 rfl rfl ?_
  cases caq:decide (a0.fThread=(⟨#[]⟩:ByteArray))
  ·
   have H:=H.cf caq
   refine sk rfl rfl<|sk rfl rfl<|sk rfl rfl<|pf0 rfl rfl rfl<|mv0 rfl rfl<|sk rfl rfl<|sk rfl rfl<|sk rfl rfl<|pf0 rfl rfl rfl<|as0 rfl rfl<|.fin ?_
   cases H.out; exact r1 i2 rfl (.cons (res_tmp rfl) .nil)
  have H:=H.ct caq
  refine fb rfl (gg rfl) rfl fa32_8<|ld 0 rfl (gg rfl) rfl sc3 rfl rfl<|bng rfl rfl rfl rfl run_eq<|pt0 rfl rfl rfl<|mv0 rfl rfl ?_
  cases car:(a0.fState==0)
  ·
   have H:=H.cf car
   refine sk rfl rfl<|sk rfl rfl<|sk rfl rfl<|pf0 rfl rfl rfl<|as0 rfl rfl<|.fin ?_
   cases H.out; exact r1 i2 rfl (.cons (res_tmp rfl) .nil)
  have H:=H.ct car
  refine fb rfl (gg rfl) rfl fa32_5<|ld 0 rfl (gg rfl) rfl sc4 rfl rfl<|ung rfl rfl rfl (run_not _)<|pt0 rfl rfl rfl<|as0 rfl rfl<|.fin ?_
  cases H.out; exact r1 i2 rfl (.cons (res_tmp rfl) .nil)
 have H:=H.ct caj
 refine fb rfl (gg rfl) rfl fa32_7<|ld 0 rfl (gg rfl) rfl sc3 rfl rfl<|bng rfl rfl rfl rfl run_le<|pt0 rfl rfl rfl<|mv0 rfl rfl ?_
 cases cas:decide (a0.fSpan≤60)
 rotate_left
 ·
  have H:=H.ct cas
  refine sk rfl rfl<|sk rfl rfl<|sk rfl rfl<|sk rfl rfl<|sku rfl rfl<|sku rfl rfl<|sku rfl rfl<|sk rfl rfl<|pt0 rfl rfl rfl<|as0 rfl rfl<|.fin<|WP.seq<|rg 25 0<|mv0 rfl rfl<|mv0 rfl rfl ?_
  cases cat:tc
  ·
   have H:=H.cf cat
   refine sk rfl rfl<|pf0 rfl rfl rfl<|mv0 rfl rfl<|sk rfl rfl<|sk rfl rfl<|sk rfl rfl<|pf0 rfl rfl rfl<|mv0 rfl rfl<|sk rfl rfl<|sk rfl rfl<|sk rfl rfl<|pf0 rfl rfl rfl<|mv0 rfl rfl<|sk rfl rfl<|sk rfl rfl<|sk rfl rfl<|pf0 rfl rfl rfl<|mv0 rfl rfl<|sk rfl rfl<|sk rfl rfl<|sk rfl rfl<|pf0 rfl rfl rfl<|as0 rfl rfl<|.fin ?_
   cases H.out; exact r1 i2 rfl (.cons (res_tmp rfl) .nil)
  have H:=H.ct cat
  refine mvg rfl rfl rfl<|pt0 rfl rfl rfl<|mv0 rfl rfl<|fb rfl (gg rfl) rfl fa32_3<|ld 0 rfl (gg rfl) rfl sc9 rfl rfl<|bng rfl rfl rfl rfl run_seq<|pt0 rfl rfl rfl<|mv0 rfl rfl ?_
  cases cau:decide (a0.fEvent=(⟨#[]⟩:ByteArray))
  ·
   have H:=H.cf cau
   refine sk rfl rfl<|sk rfl rfl<|sk rfl rfl<|pf0 rfl rfl rfl<|mv0 rfl rfl<|sk rfl rfl<|sk rfl rfl<|sk rfl rfl<|pf0 rfl rfl rfl<|mv0 rfl rfl<|sk rfl rfl<|sk rfl rfl<|sk rfl rfl<|pf0 rfl rfl rfl<|as0 rfl rfl<|.fin ?_
   cases H.out; exact r1 i2 rfl (.cons (res_tmp rfl) .nil)
  have H:=H.ct cau
  refine fb rfl (gg rfl) rfl fa32_4<|ld 0 rfl (gg rfl) rfl sc9 rfl rfl<|bng rfl rfl rfl rfl run_seq<|pt0 rfl rfl rfl<|mv0 rfl rfl ?_
  cases cav:decide (a0.fThread=(⟨#[]⟩:ByteArray))
  ·
   have H:=H.cf cav
   refine sk rfl rfl<|sk rfl rfl<|sk rfl rfl<|pf0 rfl rfl rfl<|mv0 rfl rfl<|sk rfl rfl<|sk rfl rfl<|sk rfl rfl<|pf0 rfl rfl rfl<|as0 rfl rfl<|.fin ?_
   cases H.out; exact r1 i2 rfl (.cons (res_tmp rfl) .nil)
  have H:=H.ct cav
  refine fb rfl (gg rfl) rfl fa32_8<|ld 0 rfl (gg rfl) rfl sc3 rfl rfl<|bng rfl rfl rfl rfl run_eq<|pt0 rfl rfl rfl<|mv0 rfl rfl ?_
  cases caw:(a0.fState==0)
  ·
   have H:=H.cf caw
   refine sk rfl rfl<|sk rfl rfl<|sk rfl rfl<|pf0 rfl rfl rfl<|as0 rfl rfl<|.fin ?_
   cases H.out; exact r1 i2 rfl (.cons (res_tmp rfl) .nil)
  have H:=H.ct caw
  refine fb rfl (gg rfl) rfl fa32_5<|ld 0 rfl (gg rfl) rfl sc4 rfl rfl<|ung rfl rfl rfl (run_not _)<|pt0 rfl rfl rfl<|as0 rfl rfl<|.fin ?_
  cases H.out; exact r1 i2 rfl (.cons (res_tmp rfl) .nil)
 have H:=H.cf cas
 refine fb rfl (gg rfl) rfl fa32_6<|ld 0 rfl (gg rfl) rfl sc4 rfl rfl<|ung rfl rfl rfl (run_not _)<|mvg rfl rfl rfl ?_
 cases cax:!a0.fOn
 ·
  have H:=H.cf cax
  refine sk rfl rfl<|sk rfl rfl<|sk rfl rfl<|pfg rfl rfl rfl rfl<|pf0 rfl rfl rfl<|as0 rfl rfl<|.fin<|WP.seq<|rg 25 0<|mv0 rfl rfl<|mv0 rfl rfl ?_
  cases cay:tc
  ·
   have H:=H.cf cay
   refine sk rfl rfl<|pf0 rfl rfl rfl<|mv0 rfl rfl<|sk rfl rfl<|sk rfl rfl<|sk rfl rfl<|pf0 rfl rfl rfl<|mv0 rfl rfl<|sk rfl rfl<|sk rfl rfl<|sk rfl rfl<|pf0 rfl rfl rfl<|mv0 rfl rfl<|sk rfl rfl<|sk rfl rfl<|sk rfl rfl<|pf0 rfl rfl rfl<|mv0 rfl rfl<|sk rfl rfl<|sk rfl rfl<|sk rfl rfl<|pf0 rfl rfl rfl<|as0 rfl rfl<|.fin ?_
   cases H.out; exact r1 i2 rfl (.cons (res_tmp rfl) .nil)
  have H:=H.ct cay
  refine mvg rfl rfl rfl<|pt0 rfl rfl rfl<|mv0 rfl rfl<|sk rfl rfl<|sk rfl rfl<|sk rfl rfl<|pf0 rfl rfl rfl<|mv0 rfl rfl<|sk rfl rfl<|sk rfl rfl<|sk rfl rfl<|pf0 rfl rfl rfl<|mv0 rfl rfl<|sk rfl rfl<|sk rfl rfl<|sk rfl rfl<|pf0 rfl rfl rfl<|mv0 rfl rfl<|sk rfl rfl<|sk rfl rfl<|sk rfl rfl<|pf0 rfl rfl rfl<|as0 rfl rfl<|.fin ?_
  cases H.out; exact r1 i2 rfl (.cons (res_tmp rfl) .nil)
 have H:=H.ct cax
 refine fb rfl (gg rfl) rfl fa32_7<|ld 0 rfl (gg rfl) rfl sc3 rfl rfl<|bng rfl rfl rfl rfl run_eq<|ptg rfl rfl rfl rfl<|pf0 rfl rfl rfl<|as0 rfl rfl<|.fin<|WP.seq<|rg 25 0<|mv0 rfl rfl<|mv0 rfl rfl ?_
 cases caz:tc
 ·
  have H:=H.cf caz
  refine sk rfl rfl<|pf0 rfl rfl rfl<|mv0 rfl rfl<|sk rfl rfl<|sk rfl rfl<|sk rfl rfl<|pf0 rfl rfl rfl<|mv0 rfl rfl<|sk rfl rfl<|sk rfl rfl<|sk rfl rfl<|pf0 rfl rfl rfl<|mv0 rfl rfl<|sk rfl rfl<|sk rfl rfl<|sk rfl rfl<|pf0 rfl rfl rfl<|mv0 rfl rfl<|sk rfl rfl<|sk rfl rfl<|sk rfl rfl<|pf0 rfl rfl rfl<|as0 rfl rfl<|.fin ?_
  cases H.out; exact r1 i2 rfl (.cons (res_tmp rfl) .nil)
 have H:=H.ct caz
 refine mvg rfl rfl rfl<|pt0 rfl rfl rfl<|mv0 rfl rfl ?_
 cases cba:(a0.fSpan==0)
 ·
  have H:=H.cf cba
  refine sk rfl rfl<|sk rfl rfl<|sk rfl rfl<|pf0 rfl rfl rfl<|mv0 rfl rfl<|sk rfl rfl<|sk rfl rfl<|sk rfl rfl<|pf0 rfl rfl rfl<|mv0 rfl rfl<|sk rfl rfl<|sk rfl rfl<|sk rfl rfl<|pf0 rfl rfl rfl<|mv0 rfl rfl<|sk rfl rfl<|sk rfl rfl<|sk rfl rfl<|pf0 rfl rfl rfl<|as0 rfl rfl<|.fin ?_
  cases H.out; exact r1 i2 rfl (.cons (res_tmp rfl) .nil)
 have H:=H.ct cba
 refine fb rfl (gg rfl) rfl fa32_3<|ld 0 rfl (gg rfl) rfl sc9 rfl rfl<|bng rfl rfl rfl rfl run_seq<|pt0 rfl rfl rfl<|mv0 rfl rfl ?_
 cases cbb:decide (a0.fEvent=(⟨#[]⟩:ByteArray))
 ·
  have H:=H.cf cbb
  refine sk rfl rfl<|sk rfl rfl<|sk rfl rfl<|pf0 rfl rfl rfl<|mv0 rfl rfl<|sk rfl rfl<|sk rfl rfl<|sk rfl rfl<|pf0 rfl rfl rfl<|mv0 rfl rfl<|sk rfl rfl<|sk rfl rfl<|sk rfl rfl<|pf0 rfl rfl rfl<|as0 rfl rfl<|.fin ?_
  cases H.out; exact r1 i2 rfl (.cons (res_tmp rfl) .nil)
 have H:=H.ct cbb
 refine fb rfl (gg rfl) rfl fa32_4<|ld 0 rfl (gg rfl) rfl sc9 rfl rfl<|bng rfl rfl rfl rfl run_seq<|pt0 rfl rfl rfl<|mv0 rfl rfl ?_
 cases cbc:decide (a0.fThread=(⟨#[]⟩:ByteArray))
 ·
  have H:=H.cf cbc
  refine sk rfl rfl<|sk rfl rfl<|sk rfl rfl<|pf0 rfl rfl rfl<|mv0 rfl rfl<|sk rfl rfl<|sk rfl rfl<|sk rfl rfl<|pf0 rfl rfl rfl<|as0 rfl rfl<|.fin ?_
  cases H.out; exact r1 i2 rfl (.cons (res_tmp rfl) .nil)
 have H:=H.ct cbc
 refine fb rfl (gg rfl) rfl fa32_8<|ld 0 rfl (gg rfl) rfl sc3 rfl rfl<|bng rfl rfl rfl rfl run_eq<|pt0 rfl rfl rfl<|mv0 rfl rfl ?_
 cases cbd:(a0.fState==0)
 ·
  have H:=H.cf cbd
  refine sk rfl rfl<|sk rfl rfl<|sk rfl rfl<|pf0 rfl rfl rfl<|as0 rfl rfl<|.fin ?_
  cases H.out; exact r1 i2 rfl (.cons (res_tmp rfl) .nil)
 have H:=H.ct cbd
 refine fb rfl (gg rfl) rfl fa32_5<|ld 0 rfl (gg rfl) rfl sc4 rfl rfl<|ung rfl rfl rfl (run_not _)<|pt0 rfl rfl rfl<|as0 rfl rfl<|.fin ?_
 cases H.out; exact r1 i2 rfl (.cons (res_tmp rfl) .nil)
theorem r03_May.c (h:r03_May.f k a0=some r):Pt prog 86 [agg (Edu.enc a0)] (vB r):=by
 unfold r03_May.f at h
 refine pb func86 ntmps86 h fun R0 F H=>?_
 refine WP.seq<|rg 2 1<|Dv.box rfl trivial rfl cA nofun fun ba=>as0 rfl rfl<|.fin<|WP.seq<|rg 3 0<|lds 0 rfl trivial rfl sg32 rfl rfl<|el H fun ta haa H=>cl rfl cal117 rfl (r03_Local.c haa)<|as0 rfl rfl<|.fin<|WP.seq<|rg 7 0<|mv0 rfl rfl<|mv0 rfl rfl ?_
 cases cc:ta
 ·
  have H:=H.cf cc
  refine sk rfl rfl<|sk rfl rfl<|sk rfl rfl<|pf0 rfl rfl rfl<|as0 rfl rfl<|.fin ?_
  cases H.out; exact r1 i2 rfl (.cons (res_tmp rfl) .nil)
 have H:=H.ct cc
 refine fb rfl (gg rfl) rfl fa32_5<|ld 0 rfl (gg rfl) rfl sc4 rfl rfl<|ung rfl rfl rfl (run_not _)<|pt0 rfl rfl rfl<|as0 rfl rfl<|.fin ?_
 cases H.out; exact r1 i2 rfl (.cons (res_tmp rfl) .nil)
theorem r09_Has.c (h:r09_Has.f k a0 a1=some r):Pt prog 87 [sl strK a0,vS a1] (vB r):=by
 unfold r09_Has.f at h
 refine pb func87 ntmps87 h fun R0 F H=>?_
 refine WP.seq<|rg 1 0<|as0 rfl rfl<|.fin<|WP.seqr H id (fun pa:Int×Bool=>[(0,sl strK a0),(1,vS a1),(4,vB false),(5,vI pa.1),(9,vB pa.2)]) (fun pa:Int×Bool=>F) (fun pa H=>?_) (fun H=>?_)
 ·
  refine WP.seq<|rg 1 0<|as0 rfl rfl<|.fin ?_
  cases H.out; exact r0 i2 rfl (.cons (res_tmp rfl) .nil)
 refine WP.seq<|rg 1 0<|as0 rfl rfl<|.fin<|WP.block<|wg (sg 0 [] 0) fun _ _=>?_
 refine lp (fun j_ (pc:Int)=>r09_Has.l0 k a0 a1 j_ pc) 0 H (fun pc=>[(0,sl strK a0),(1,vS a1),(4,vB false),(5,vI pc)]) (fun pc=>F) ?_
 rintro j_ xa H
 rcases j_ with _ | ja
 ·
  exact (Gets.no H).elim
 try dsimp only at H
 rw [r09_Has.l0] at H
 refine WP.seq<|WP.seq<|rg 4 0<|mv0 rfl rfl<|mv0 rfl rfl<|Dv.lenl rfl trivial rfl underlying53<|bn0 rfl rfl rfl run_lt<|.fin<|cd H rfl (fun _ H=>?_) (fun _ H=>?_)
 rotate_left
 ·
  refine WP.exit ?_
  have H:=H.out
  exact jn (xa,decide (xa<(a0.length:Int))) H
 refine WP.skip<|WP.seq<|WP.block<|WP.seq<|rg 6 0<|mv0 rfl rfl<|mv0 rfl rfl<|gr H fun ga H=>Dv.ixr rfl trivial rfl rfl underlying53 underlying9 c9 ga.1 ga.2<|ldR rfl trivial rfl sc9 rfl<|mv0 rfl rfl<|bn0 rfl rfl rfl run_seq<|.fin<|cd H rfl (fun _ H=>?_) (fun _ H=>?_)
 rotate_left
 ·
  exact WP.skip<|rg 3 0<|mv0 rfl rfl<|bn0 rfl rfl rfl run_add<|as0 rfl rfl<|.fin<|bk ja (w64 (xa+1)) H
 refine WP.seq<|rg 1 0<|as0 rfl rfl<|.fin ?_
 have H:=H.outr
 cases H.out; exact r0 i2 rfl (.cons (res_tmp rfl) .nil)
theorem r09_Put.c (h:r09_Put.f k a0 a1=some r):Tr prog 119 [sl strK a0,vS a1] [] (γ:=OV) (fun _=>True) (fun g=>eq g.1) (fun g=>[own strK g.1 r]):=by
 unfold r09_Put.f at h
 refine tb func119 ntmps119 h fun R0 F H=>?_
 refine WP.seq<|rg 1 0<|as0 rfl rfl<|.fin<|WP.seq<|rg 1 0<|as0 rfl rfl<|.fin<|WP.seq<|rg 1 0<|as0 rfl rfl<|.fin<|WP.seqn H (fun qa:(Bool×Int×Bool×(List ByteArray))×OV=>qa.1) (fun qa:(Bool×Int×Bool×(List ByteArray))×OV=>[(0,sl strK a0),(1,vS a1),(4,eq (.slice none 0 0)),(5,eq qa.2.1),(6,vB qa.1.1),(7,vI qa.1.2.1),(11,vB qa.1.2.2.1)]) (fun qa:(Bool×Int×Bool×(List ByteArray))×OV=>[own strK qa.2.1 qa.1.2.2.2]++F) (fun qa H=>?_) (fun H=>?_)
 ·
  obtain ⟨pa,va⟩:=qa
  refine WP.seq<|WP.seq<|rg 2 0<|mv0 rfl rfl<|un0 rfl rfl (run_not _)<|.fin<|cd H rfl (fun _ H=>?_) (fun _ H=>?_)
  rotate_left
  ·
   refine WP.skip<|WP.seq<|rg 2 0<|mv0 rfl rfl<|as0 rfl rfl<|.fin ?_
   obtain rfl:=Gets.out H
   exact rt i2 rfl va 1 [0] 0 (.cons (res_tmp rfl) .nil)
  refine rg 5 8<|mv0 rfl rfl<|mv0 rfl rfl<|Dv.lit strK ([a1]:List ByteArray) (css:=[[vS a1]]) rfl trivial underlying53 underlying9 c9 z9 rfl (by decide) (by decide) rfl ⟨(cells_one (one_eq rfl)),trivial⟩ rfl rfl rfl<|gr H fun ga H=>ap strK 0 ([a1]:List ByteArray) src_sl underlying53 (.inr ⟨_,underlying53⟩) inf9 ga nofun fun vb=>?_
  refine as0 rfl rfl<|.fin<|WP.seq<|rg 2 0<|mv0 rfl rfl<|as0 rfl rfl<|.fin ?_
  obtain rfl:=Gets.out H
  exact rt i2 rfl vb 1 [0] 0 (.cons (res_tmp rfl) .nil)
 refine WP.seq<|rg 1 0<|as0 rfl rfl<|.fin<|WP.block<|wg (st_nil strK none) fun _ _=>?_
 refine wg (sg 1 [0] 0) fun _ _=>?_
 refine lp (fun j_ (pc:Bool×Int×(List ByteArray)×OV)=>r09_Put.l0 k a0 a1 j_ pc.1 pc.2.1 pc.2.2.1) (false,0,([]:List ByteArray),nilV) H (fun pc=>[(0,sl strK a0),(1,vS a1),(4,eq (.slice none 0 0)),(5,eq pc.2.2.2.1),(6,vB pc.1),(7,vI pc.2.1)]) (fun pc=>[own strK pc.2.2.2.1 pc.2.2.1]++F) ?_
 rintro j_ ⟨xa,xb,xc,vd⟩ H
 rcases j_ with _ | ja
 ·
  exact (Gets.no H).elim
 try dsimp only at H
 rw [r09_Put.l0] at H
 refine WP.seq<|WP.seq<|rg 4 0<|mv0 rfl rfl<|mv0 rfl rfl<|Dv.lenl rfl trivial rfl underlying53<|bn0 rfl rfl rfl run_lt<|.fin<|cd H rfl (fun _ H=>?_) (fun _ H=>?_)
 rotate_left
 ·
  refine WP.exit ?_
  have H:=H.out
  exact jn ((xa,xb,decide (xb<(a0.length:Int)),xc),vd) H
 refine WP.skip<|WP.seq<|WP.block<|WP.seqn H (fun qb:(Bool×Bool×(List ByteArray))×OV=>qb.1) (fun qb:(Bool×Bool×(List ByteArray))×OV=>[(0,sl strK a0),(1,vS a1),(4,eq (.slice none 0 0)),(5,eq qb.2.1),(6,vB qb.1.1),(7,vI xb),(11,vB (decide (xb<(a0.length:Int)))),(23,vB qb.1.2.1)]) (fun qb:(Bool×Bool×(List ByteArray))×OV=>[own strK qb.2.1 qb.1.2.2]++F) (fun qb H=>?_) (fun H=>?_)
 ·
  obtain ⟨pd,vh⟩:=qb
  refine WP.seq<|rg 6 0<|mv0 rfl rfl<|mv0 rfl rfl<|gr H fun gb H=>Dv.ixr rfl trivial rfl rfl underlying53 underlying9 c9 gb.1 gb.2<|ldR rfl trivial rfl sc9 rfl<|mv0 rfl rfl<|bn0 rfl rfl rfl run_sne<|.fin<|cd H rfl (fun _ H=>?_) (fun _ H=>?_)
  rotate_left
  ·
   exact WP.skip<|rg 3 0<|mv0 rfl rfl<|bn0 rfl rfl rfl run_add<|as0 rfl rfl<|.fin<|bk ja (pd.1,w64 (xb+1),pd.2.2,vh) H
  refine rg 8 64<|mv0 rfl rfl<|mv0 rfl rfl<|mv0 rfl rfl<|gr H fun gi H=>Dv.ixr rfl trivial rfl rfl underlying53 underlying9 c9 gi.1 gi.2<|ldR rfl trivial rfl sc9 rfl<|Dv.lit strK ([strK.at a0 xb]:List ByteArray) (css:=[[vS (strK.at a0 xb)]]) rfl trivial underlying53 underlying9 c9 z9 rfl (by decide) (by decide) rfl ⟨(cells_one (one_eq rfl)),trivial⟩ rfl rfl rfl<|gr H fun gj H=>ap strK 0 ([strK.at a0 xb]:List ByteArray) src_sl underlying53 (.inr ⟨_,underlying53⟩) inf9 gj nofun fun vi=>?_
  exact as0 rfl rfl<|.fin<|rg 3 0<|mv0 rfl rfl<|bn0 rfl rfl rfl run_add<|as0 rfl rfl<|.fin<|bk ja (pd.1,w64 (xb+1),pd.2.2++([strK.at a0 xb]:List ByteArray),vi) H
 refine WP.seq<|rg 10 0<|mv0 rfl rfl<|un0 rfl rfl (run_not _)<|mv0 rfl rfl ?_
 cases cc:!xa
 ·
  have H:=H.cf cc
  refine sk rfl rfl<|sk rfl rfl<|sk rfl rfl<|sk rfl rfl<|sk rfl rfl<|sk rfl rfl<|pf0 rfl rfl rfl<|.fin<|WP.cond rfl nofun (fun _=>?_)
  refine WP.skip ?_
  have H:=H.out
  exact jn ((xa,false,xc),vd) H
 have H:=H.ct cc
 refine mvg rfl rfl rfl<|mvg rfl rfl rfl<|mvg rfl rfl rfl<|gr H fun gk H=>Dv.ixr rfl (gg rfl) rfl rfl underlying53 underlying9 c9 gk.1 gk.2<|ldR rfl (gg rfl) rfl sc9 rfl<|bng rfl rfl rfl rfl run_sle<|pt0 rfl rfl rfl<|.fin<|cd H rfl (fun _ H=>?_) (fun _ H=>?_)
 rotate_left
 ·
  refine WP.skip ?_
  have H:=H.out
  exact jn ((xa,!sLt (strK.at a0 xb) a1,xc),vd) H
 refine WP.seq<|rg 5 8<|mv0 rfl rfl<|mv0 rfl rfl<|Dv.lit strK ([a1]:List ByteArray) (css:=[[vS a1]]) rfl trivial underlying53 underlying9 c9 z9 rfl (by decide) (by decide) rfl ⟨(cells_one (one_eq rfl)),trivial⟩ rfl rfl rfl<|gr H fun gl H=>ap strK 0 ([a1]:List ByteArray) src_sl underlying53 (.inr ⟨_,underlying53⟩) inf9 gl nofun fun vj=>?_
 refine as0 rfl rfl<|.fin<|rg 1 0<|as0 rfl rfl<|.fin ?_
 have H:=H.out
 exact jn ((true,!sLt (strK.at a0 xb) a1,xc++([a1]:List ByteArray)),vj) H
theorem r01_Home.c (h:r01_Home.f k a0=some r):Pt prog 166 [vS a0] (vS r):=by
 unfold r01_Home.f at h
 refine pb func166 ntmps166 h fun R0 F H=>?_
 refine WP.seq<|rg 1 0<|as0 rfl rfl<|.fin<|WP.seq<|rg 3 0<|mv0 rfl rfl<|el H fun ta haa H=>cl rfl cal126 rfl (r01_Named.c haa)<|as0 rfl rfl<|.fin<|WP.seq<|rg 3 0<|mv0 rfl rfl<|el H fun tc hac H=>cl rfl cal126 rfl (r01_Named.c hac)<|as0 rfl rfl<|.fin<|WP.seq<|WP.seq<|rg 6 0<|mv0 rfl rfl<|un0 rfl rfl (run_not _)<|mv0 rfl rfl ?_
 cases cc:!ta
 ·
  have H:=H.cf cc
  refine sk rfl rfl<|sk rfl rfl<|pf0 rfl rfl rfl<|.fin<|WP.cond rfl nofun (fun _=>?_)
  refine WP.skip<|WP.seq<|rg 6 0<|mv0 rfl rfl<|mv0 rfl rfl<|el H fun te had H=>cl rfl cal153 rfl (r01_colon.c had)<|bn0 rfl rfl rfl run_add<|gr H fun ga H=>Dv.sss rfl trivial rfl underlying9 (bdE_some rfl ga.1) bdE_none ga.2.1 ga.2.2<|as0 rfl rfl<|.fin ?_
  cases H.out; exact r0 i2 rfl (.cons (res_tmp rfl) .nil)
 have H:=H.ct cc
 refine mvg rfl rfl rfl<|ung rfl rfl rfl (run_not _)<|pt0 rfl rfl rfl<|.fin<|cd H rfl (fun _ H=>?_) (fun _ H=>?_)
 ·
  refine WP.seq<|rg 1 0<|as0 rfl rfl<|.fin ?_
  cases H.out; exact r0 i2 rfl (.cons (res_tmp rfl) .nil)
 refine WP.skip<|WP.seq<|rg 6 0<|mv0 rfl rfl<|mv0 rfl rfl<|el H fun tf hae H=>cl rfl cal153 rfl (r01_colon.c hae)<|bn0 rfl rfl rfl run_add<|gr H fun gb H=>Dv.sss rfl trivial rfl underlying9 (bdE_some rfl gb.1) bdE_none gb.2.1 gb.2.2<|as0 rfl rfl<|.fin ?_
 cases H.out; exact r0 i2 rfl (.cons (res_tmp rfl) .nil)
theorem r09_Homes.c (h:r09_Homes.f k a0=some r):Tr prog 150 [sl strK a0] [] (γ:=OV) (fun _=>True) (fun g=>eq g.1) (fun g=>[own strK g.1 r]):=by
 unfold r09_Homes.f at h
 refine tb func150 ntmps150 h fun R0 F H=>?_
 refine WP.seq<|rg 1 0<|as0 rfl rfl<|.fin<|WP.seq<|rg 1 0<|as0 rfl rfl<|.fin<|WP.seqn H (fun qa:(Int×Bool×(List ByteArray))×OV=>qa.1) (fun qa:(Int×Bool×(List ByteArray))×OV=>[(0,sl strK a0),(2,eq (.slice none 0 0)),(3,eq qa.2.1),(4,vI qa.1.1),(9,vB qa.1.2.1)]) (fun qa:(Int×Bool×(List ByteArray))×OV=>[own strK qa.2.1 qa.1.2.2]++F) (fun qa H=>?_) (fun H=>?_)
 ·
  obtain ⟨pa,va⟩:=qa
  refine WP.seq<|rg 2 0<|mv0 rfl rfl<|as0 rfl rfl<|.fin ?_
  obtain rfl:=Gets.out H
  exact rt i2 rfl va 1 [0] 0 (.cons (res_tmp rfl) .nil)
 refine WP.seq<|rg 1 0<|as0 rfl rfl<|.fin<|WP.block<|wg (st_nil strK none) fun _ _=>?_
 refine wg (sg 1 [0] 0) fun _ _=>?_
 refine lp (fun j_ (pc:Int×(List ByteArray)×OV)=>r09_Homes.l0 k a0 j_ pc.1 pc.2.1) (0,([]:List ByteArray),nilV) H (fun pc=>[(0,sl strK a0),(2,eq (.slice none 0 0)),(3,eq pc.2.2.1),(4,vI pc.1)]) (fun pc=>[own strK pc.2.2.1 pc.2.1]++F) ?_
 rintro j_ ⟨xa,xb,vb⟩ H
 rcases j_ with _ | ja
 ·
  exact (Gets.no H).elim
 try dsimp only at H
 rw [r09_Homes.l0] at H
 refine WP.seq<|WP.seq<|rg 4 0<|mv0 rfl rfl<|mv0 rfl rfl<|Dv.lenl rfl trivial rfl underlying53<|bn0 rfl rfl rfl run_lt<|.fin<|cd H rfl (fun _ H=>?_) (fun _ H=>?_)
 rotate_left
 ·
  refine WP.exit ?_
  have H:=H.out
  exact jn ((xa,decide (xa<(a0.length:Int)),xb),vb) H
 refine WP.skip<|WP.seq<|WP.block<|WP.seq<|rg 6 0<|mv0 rfl rfl<|mv0 rfl rfl<|gr H fun ga H=>Dv.ixr rfl trivial rfl rfl underlying53 underlying9 c9 ga.1 ga.2<|ldR rfl trivial rfl sc9 rfl<|el H fun ta haa H=>cl rfl cal166 rfl (r01_Home.c haa)<|as0 rfl rfl<|.fin<|WP.seq<|rg 2 0<|mv0 rfl rfl<|bn0 rfl rfl rfl run_sne<|.fin<|cd H rfl (fun _ H=>?_) (fun _ H=>?_)
 rotate_left
 ·
  exact WP.skip<|rg 3 0<|mv0 rfl rfl<|bn0 rfl rfl rfl run_add<|as0 rfl rfl<|.fin<|bk ja (w64 (xa+1),xb,vb) H
 refine rg 4 4<|mv0 rfl rfl<|mv0 rfl rfl<|el H fun tc hac H=>cx 1 [0] cal119 (Tr.lend [own strK vb.1 xb] (r09_Put.c hac) (.cons (lt_own (mem_at 0 rfl)) (.cons lt_id .nil)) (fun _=>flat_eq) (fun _=>(flatAs_cons (flatA_own flatK_str) flatAs_nil))) nofun fun gb _=>?_
 refine as0 rfl rfl<|.fin<|rg 3 0<|mv0 rfl rfl<|bn0 rfl rfl rfl run_add<|as0 rfl rfl<|.fin<|ng (sg 2 [0,1] 1) fun _ _=>?_
 exact bk ja (w64 (xa+1),tc,gb) H
theorem r07_Before.c (h:r07_Before.f a0 a1=some r):Pt prog 178 [agg (Pos.enc a0),agg (Pos.enc a1)] (vB r):=by
 unfold r07_Before.f at h
 refine pb func178 ntmps178 h fun R0 F H=>?_
 refine WP.seq<|rg 3 3<|Dv.box rfl trivial rfl cA nofun fun ba=>Dv.box rfl trivial rfl cA nofun fun bc=>as0 rfl rfl<|.fin<|WP.seq<|rg 20 0<|fb rfl trivial rfl fa226_0<|ld 1 rfl trivial rfl sc3 rfl rfl<|fb rfl trivial rfl fa226_0<|ld 0 rfl trivial rfl sc3 rfl rfl<|bn0 rfl rfl rfl run_lt<|mv0 rfl rfl ?_
 cases cc:decide (a0.fDepth<a1.fDepth)
 rotate_left
 ·
  have H:=H.ct cc
  refine sk rfl rfl<|sk rfl rfl<|sk rfl rfl<|sk rfl rfl<|sk rfl rfl<|sk rfl rfl<|sku rfl rfl<|sku rfl rfl<|sku rfl rfl<|sku rfl rfl<|sku rfl rfl<|sk rfl rfl<|pt0 rfl rfl rfl<|as0 rfl rfl<|.fin ?_
  cases H.out; exact r2 i2 rfl (.cons (res_tmp rfl) .nil)
 have H:=H.cf cc
 refine fb rfl (gg rfl) rfl fa226_0<|ld 1 rfl (gg rfl) rfl sc3 rfl rfl<|fb rfl (gg rfl) rfl fa226_0<|ld 0 rfl (gg rfl) rfl sc3 rfl rfl<|bng rfl rfl rfl rfl run_eq<|mvg rfl rfl rfl ?_
 cases ce:(a0.fDepth==a1.fDepth)
 ·
  have H:=H.cf ce
  refine sk rfl rfl<|sk rfl rfl<|sk rfl rfl<|sk rfl rfl<|sk rfl rfl<|pfg rfl rfl rfl rfl<|pf0 rfl rfl rfl<|as0 rfl rfl<|.fin ?_
  cases H.out; exact r2 i2 rfl (.cons (res_tmp rfl) .nil)
 have H:=H.ct ce
 refine fb rfl (gg rfl) rfl fa226_1<|ld 1 rfl (gg rfl) rfl sc9 rfl rfl<|fb rfl (gg rfl) rfl fa226_1<|ld 0 rfl (gg rfl) rfl sc9 rfl rfl<|bng rfl rfl rfl rfl run_slt<|ptg rfl rfl rfl rfl<|pf0 rfl rfl rfl<|as0 rfl rfl<|.fin ?_
 cases H.out; exact r2 i2 rfl (.cons (res_tmp rfl) .nil)
theorem r07_Depth.c (h:r07_Depth.f k a0 a1=some r):Pt prog 197 [agg (RDag.enc a0),vS a1] (vI r):=by
 unfold r07_Depth.f at h
 refine pb func197 ntmps197 h fun R0 F H=>?_
 refine WP.seq<|rg 2 1<|Dv.box rfl trivial rfl cA nofun fun ba=>as0 rfl rfl<|.fin<|WP.seq<|rg 4 0<|lds 0 rfl trivial rfl sg97 rfl rfl<|mv0 rfl rfl<|el H fun ta haa H=>cl rfl cal97 rfl (r07_At.c haa)<|as0 rfl rfl<|.fin<|WP.seq<|WP.seq<|rg 2 0<|mv0 rfl rfl<|bn0 rfl rfl rfl run_lt<|.fin<|cd H rfl (fun _ H=>?_) (fun _ H=>?_)
 ·
  refine WP.seq<|rg 1 0<|as0 rfl rfl<|.fin ?_
  cases H.out; exact r1 i2 rfl (.cons (res_tmp rfl) .nil)
 refine WP.skip<|WP.seq<|rg 4 4<|mv0 rfl rfl<|bn0 rfl rfl rfl run_add<|gr H fun ga H=>?_
 obtain ⟨ti1581,ti1581a,ti1581b,ti1581c,ti1581d⟩:=inf3
 refine Dv.mks (Kd:=(intK .i64)) (0:Int) rfl trivial rfl rfl underlying61 ti1581a ti1581b ti1581c ti1581d rfl (by decide) rfl ga nofun (fun va=>?_)
 refine as0 rfl rfl<|.fin<|WP.seqn H id (fun pa:Int×Bool×(List Int)=>[(0,agg (RDag.enc a0)),(1,vS a1),(2,eq (.pointer (some ⟨ba,0,none⟩))),(4,vI 0),(5,vI ta),(6,eq va.1),(7,vI pa.1),(13,vB (decide (ta<0))),(19,vB pa.2.1)]) (fun pa:Int×Bool×(List Int)=>[blk ba 97 (RDag.enc a0),own (intK .i64) va.1 pa.2.2]++F) (fun pa H=>?_) (fun H=>?_)
 ·
  refine WP.seq<|rg 5 0<|mv0 rfl rfl<|mv0 rfl rfl<|gr H fun gb H=>?_
  have hac:ta.toNat<pa.2.2.length:=idx_lt gb
  refine Dv.ixw rfl trivial rfl (mem_at 1 rfl) rfl underlying61 underlying3 c3 gb.1 gb.2<|Dv.ldw (j:=ta.toNat) (f:=0) (p:=vI (pa.2.2.getD ta.toNat default)) rfl trivial rfl (mem_at 1 rfl) hac underlying3 rfl rfl<|as0 rfl rfl<|.fin ?_
  cases H.out; exact r2 i2 rfl (.cons (res_tmp rfl) .nil)
 refine WP.seq<|rg 1 0<|as0 rfl rfl<|.fin<|WP.block<|wg (sg 2 [1,0] 0) fun _ _=>?_
 refine lp (fun j_ (pc:Int×(List Int))=>r07_Depth.l0 k a0 ta j_ pc.1 pc.2) (0,List.replicate (w64 (ta+1)).toNat (0:Int)) H (fun pc=>[(0,agg (RDag.enc a0)),(1,vS a1),(2,eq (.pointer (some ⟨ba,0,none⟩))),(4,vI 0),(5,vI ta),(6,eq va.1),(7,vI pc.1),(13,vB (decide (ta<0)))]) (fun pc=>[blk ba 97 (RDag.enc a0),own (intK .i64) va.1 pc.2]++F) ?_
 rintro j_ ⟨xa,xb⟩ H
 rcases j_ with _ | ja
 ·
  exact (Gets.no H).elim
 try dsimp only at H
 rw [r07_Depth.l0] at H
 refine WP.seq<|WP.seq<|rg 3 0<|mv0 rfl rfl<|mv0 rfl rfl<|bn0 rfl rfl rfl run_le<|.fin<|cd H rfl (fun _ H=>?_) (fun _ H=>?_)
 rotate_left
 ·
  refine WP.exit ?_
  have H:=H.out
  exact jn (xa,decide (xa≤ta),xb) H
 refine WP.skip<|WP.seqn H id (fun pd:Int×Bool×(List Int)=>[(0,agg (RDag.enc a0)),(1,vS a1),(2,eq (.pointer (some ⟨ba,0,none⟩))),(4,vI 0),(5,vI ta),(6,eq va.1),(7,vI xa),(8,vI pd.1),(13,vB (decide (ta<0))),(19,vB (decide (xa≤ta))),(30,vB pd.2.1)]) (fun pd:Int×Bool×(List Int)=>[blk ba 97 (RDag.enc a0),own (intK .i64) va.1 pd.2.2]++F) (fun pd H=>?_) (fun H=>?_)
 ·
  exact rg 3 0<|mv0 rfl rfl<|bn0 rfl rfl rfl run_add<|as0 rfl rfl<|.fin<|bk ja (w64 (xa+1),pd.2.2) H
 refine WP.block<|WP.seq<|rg 1 0<|as0 rfl rfl<|.fin<|WP.block<|wg (sg 2 [0,1] 0) fun _ _=>?_
 refine lp (fun j_ (pe:Int×(List Int))=>r07_Depth.l1 k a0 xa j_ pe.1 pe.2) (0,xb) H (fun pe=>[(0,agg (RDag.enc a0)),(1,vS a1),(2,eq (.pointer (some ⟨ba,0,none⟩))),(4,vI 0),(5,vI ta),(6,eq va.1),(7,vI xa),(8,vI pe.1),(13,vB (decide (ta<0))),(19,vB (decide (xa≤ta)))]) (fun pe=>[blk ba 97 (RDag.enc a0),own (intK .i64) va.1 pe.2]++F) ?_
 rintro j_ ⟨xc,xd⟩ H
 rcases j_ with _ | jc
 ·
  exact (Gets.no H).elim
 try dsimp only at H
 rw [r07_Depth.l1] at H
 refine WP.seq<|WP.seq<|rg 9 0<|mv0 rfl rfl<|fb rfl trivial rfl fa97_1<|ld 0 rfl trivial rfl sc28 rfl rfl<|mv0 rfl rfl<|gr H fun gi H=>Dv.ixr rfl trivial rfl rfl underlying28 underlying55 c55 gi.1 gi.2<|fr rfl trivial rfl fa55_2 rfl<|ldR rfl trivial rfl sc53 rfl<|Dv.lenl rfl trivial rfl underlying53<|bn0 rfl rfl rfl run_lt<|.fin<|cd H rfl (fun _ H=>?_) (fun _ H=>?_)
 rotate_left
 ·
  refine WP.exit ?_
  have H:=H.out
  exact jn (xc,decide (xc<(((Event.K.at a0.fL xa).fParents).length:Int)),xd) H
 refine WP.skip<|WP.seq<|WP.block<|dg Tryz.checked.mixed 24 8388608<|mv0 rfl rfl<|mv0 rfl rfl<|mv0 rfl rfl<|mv0 rfl rfl<|gr H fun gj H=>?_
 have had:xa.toNat<xd.length:=idx_lt gj
 refine Dv.ixw rfl trivial rfl (mem_at 1 rfl) rfl underlying61 underlying3 c3 gj.1 gj.2<|Dv.ldw (j:=xa.toNat) (f:=0) (p:=vI (xd.getD xa.toNat default)) rfl trivial rfl (mem_at 1 rfl) had underlying3 rfl rfl<|mv0 rfl rfl<|lds 0 rfl trivial rfl sg97 rfl rfl<|fb rfl trivial rfl fa97_1<|ld 0 rfl trivial rfl sc28 rfl rfl<|mv0 rfl rfl<|gr H fun gk H=>Dv.ixr rfl trivial rfl rfl underlying28 underlying55 c55 gk.1 gk.2<|fr rfl trivial rfl fa55_2 rfl<|ldR rfl trivial rfl sc53 rfl<|mv0 rfl rfl<|gr H fun gl H=>Dv.ixr rfl trivial rfl rfl underlying53 underlying9 c9 gl.1 gl.2<|ldR rfl trivial rfl sc9 rfl<|el H fun tc hae H=>cl rfl cal97 rfl (r07_At.c hae)<|gr H fun gn H=>?_
 have haf:tc.toNat<xd.length:=idx_lt gn
 refine Dv.ixw rfl trivial rfl (mem_at 1 rfl) rfl underlying61 underlying3 c3 gn.1 gn.2<|Dv.ldw (j:=tc.toNat) (f:=0) (p:=vI (xd.getD tc.toNat default)) rfl trivial rfl (mem_at 1 rfl) haf underlying3 rfl rfl<|bn0 rfl rfl rfl run_add<|Dv.maxi rfl trivial rfl rfl<|gr H fun go H=>?_
 have hag:xa.toNat<xd.length:=idx_lt go
 exact Dv.ixw rfl trivial rfl (mem_at 1 rfl) rfl underlying61 underlying3 c3 go.1 go.2<|Dv.stw (j:=xa.toNat) (f:=0) (jj:=1) (max (xd.getD xa.toNat default) (w64 ((xd.getD tc.toNat default)+1))) rfl trivial rfl rfl (cells_one (one_eq rfl)) underlying3 c3 rfl rfl hag (Nat.le_of_ble_eq_true rfl) rfl (fun _=>pend_bits (by kernel_rfl))<|.fin<|rg 3 0<|mv0 rfl rfl<|bn0 rfl rfl rfl run_add<|as0 rfl rfl<|.fin<|bk jc (w64 (xc+1),xd.set xa.toNat (max (xd.getD xa.toNat default) (w64 ((xd.getD tc.toNat default)+1)))) H
theorem r07_Position.c (h:r07_Position.f k a0 a1=some r):Pt prog 179 [agg (RDag.enc a0),vS a1] (agg (Pos.enc r)):=by
 unfold r07_Position.f at h
 refine pb func179 ntmps179 h fun R0 F H=>?_
 refine WP.seq<|rg 2 3<|Dv.box rfl trivial rfl cA nofun fun ba=>al rfl trivial zc226 nofun fun bc=>.fin<|WP.seq<|rg 6 32<|lds 1 rfl trivial rfl sg97 rfl rfl<|mv0 rfl rfl<|el H fun ta haa H=>cl rfl cal197 rfl (r07_Depth.c haa)<|mv0 rfl rfl<|Dv.bld (qs:=[vI ta,vS a1]) (css:=[[vI ta],[vS a1]]) rfl trivial underlying226 pl226 z226 rfl ⟨(cells_one (one_eq rfl)),⟨(cells_one (one_eq rfl)),trivial⟩⟩ rfl rfl<|sx 0 rfl trivial rfl rfl cA sz226 rfl rfl rfl nofun ?_
 refine .fin ?_
 cases H.out; exact r2 i2 rfl (.cons (res_cells rfl underlying226 rfl c226 (mem_at 0 rfl) rfl) .nil)
theorem r09_Last.c (h:r09_Last.f k a0 a1=some r):Pt prog 165 [agg (RDag.enc a0),vS a1] (tup [agg (Event.enc r.1),vB r.2]):=by
 unfold r09_Last.f at h
 refine pb func165 ntmps165 h fun R0 F H=>?_
 refine WP.seq<|rg 3 3<|Dv.box rfl trivial rfl cA nofun fun ba=>al rfl trivial zc55 nofun fun bc=>as0 rfl rfl<|.fin<|WP.seq<|rg 1 0<|as0 rfl rfl<|.fin<|WP.seqn H id (fun pa:Int×Int×Bool=>[(0,agg (RDag.enc a0)),(1,vS a1),(2,eq (.pointer (some ⟨ba,0,none⟩))),(4,eq (.pointer (some ⟨bc,0,none⟩))),(5,vB false),(6,vI pa.1),(7,vI pa.2.1),(13,vB pa.2.2)]) (fun pa:Int×Int×Bool=>[blk bc 55 [vS (⟨#[]⟩:ByteArray),vS (⟨#[]⟩:ByteArray),eq (.slice none 0 0),vS (⟨#[]⟩:ByteArray),vS (⟨#[]⟩:ByteArray),vI 0],blk ba 97 (RDag.enc a0)]++F) (fun pa H=>?_) (fun H=>?_)
 ·
  refine WP.seq<|WP.seq<|rg 2 0<|mv0 rfl rfl<|bn0 rfl rfl rfl run_lt<|.fin<|cd H rfl (fun _ H=>?_) (fun _ H=>?_)
  rotate_left
  ·
   refine WP.skip<|WP.seq<|rg 7 32<|fb rfl trivial rfl fa97_1<|ld 1 rfl trivial rfl sc28 rfl rfl<|mv0 rfl rfl<|gr H fun ga H=>Dv.ixr rfl trivial rfl rfl underlying28 underlying55 c55 ga.1 ga.2<|ldsR rfl trivial rfl sg55 rfl<|sx 0 rfl trivial rfl rfl cA sz55 rfl rfl rfl nofun ?_
   refine as0 rfl rfl<|.fin ?_
   cases H.out; exact r2 i2 rfl (.cons (res_cells rfl underlying55 rfl c55 (mem_at 0 rfl) rfl) (.cons (res_tmp rfl) .nil))
  refine WP.seq<|rg 3 2<|Dv.bld (qs:=[vS (⟨#[]⟩:ByteArray),vS (⟨#[]⟩:ByteArray),eq (.slice none 0 0),vS (⟨#[]⟩:ByteArray),vS (⟨#[]⟩:ByteArray),vI 0]) (css:=[]) rfl trivial underlying55 pl55 z55 rfl trivial rfl rfl<|sx 0 rfl trivial rfl rfl cA sz55 rfl rfl rfl nofun ?_
  refine as0 rfl rfl<|.fin ?_
  cases H.out; exact r2 i2 rfl (.cons (res_wk (res_cells rfl underlying55 rfl c55 (mem_at 0 rfl) rfl) (wk_agg (.cons wk_id (.cons wk_id (.cons wk_nil (.cons wk_id (.cons wk_id (.cons wk_id .nil)))))))) (.cons (res_tmp rfl) .nil))
 refine WP.seq<|rg 1 0<|as0 rfl rfl<|.fin<|WP.block<|wg (sg 2 [0,1] 0) fun _ _=>?_
 refine lp (fun j_ (pc:Int×Int)=>r09_Last.l0 k a0 a1 j_ pc.1 pc.2) ((-1),0) H (fun pc=>[(0,agg (RDag.enc a0)),(1,vS a1),(2,eq (.pointer (some ⟨ba,0,none⟩))),(4,eq (.pointer (some ⟨bc,0,none⟩))),(5,vB false),(6,vI pc.1),(7,vI pc.2)]) (fun pc=>[blk bc 55 [vS (⟨#[]⟩:ByteArray),vS (⟨#[]⟩:ByteArray),eq (.slice none 0 0),vS (⟨#[]⟩:ByteArray),vS (⟨#[]⟩:ByteArray),vI 0],blk ba 97 (RDag.enc a0)]++F) ?_
 rintro j_ ⟨xa,xb⟩ H
 rcases j_ with _ | ja
 ·
  exact (Gets.no H).elim
 try dsimp only at H
 rw [r09_Last.l0] at H
 refine WP.seq<|WP.seq<|rg 5 0<|mv0 rfl rfl<|fb rfl trivial rfl fa97_1<|ld 1 rfl trivial rfl sc28 rfl rfl<|Dv.lenl rfl trivial rfl underlying28<|bn0 rfl rfl rfl run_lt<|.fin<|cd H rfl (fun _ H=>?_) (fun _ H=>?_)
 rotate_left
 ·
  refine WP.exit ?_
  have H:=H.out
  exact jn (xa,xb,decide (xb<(a0.fL.length:Int))) H
 refine WP.skip<|WP.seq<|WP.block<|WP.seq<|WP.seq<|rg 17 0<|fb rfl trivial rfl fa97_1<|ld 1 rfl trivial rfl sc28 rfl rfl<|mv0 rfl rfl<|gr H fun gb H=>Dv.ixr rfl trivial rfl rfl underlying28 underlying55 c55 gb.1 gb.2<|fr rfl trivial rfl fa55_4 rfl<|ldR rfl trivial rfl sc9 rfl<|mv0 rfl rfl<|bn0 rfl rfl rfl run_sne<|mv0 rfl rfl ?_
 cases cc:!decide (((Event.K.at a0.fL xb).fUser)=a1)
 rotate_left
 ·
  have H:=H.ct cc
  refine sk rfl rfl<|sk rfl rfl<|sk rfl rfl<|sk rfl rfl<|sk rfl rfl<|sk rfl rfl<|sk rfl rfl<|pt0 rfl rfl rfl<|.fin<|WP.cond rfl (fun _=>?_) nofun
  exact WP.exit<|rg 3 0<|mv0 rfl rfl<|bn0 rfl rfl rfl run_add<|as0 rfl rfl<|.fin<|bk ja (xa,w64 (xb+1)) H
 have H:=H.cf cc
 refine fb rfl (gg rfl) rfl fa97_1<|ld 1 rfl (gg rfl) rfl sc28 rfl rfl<|mvg rfl rfl rfl<|gr H fun gi H=>Dv.ixr rfl (gg rfl) rfl rfl underlying28 underlying55 c55 gi.1 gi.2<|fr rfl (gg rfl) rfl fa55_5 rfl<|ldR rfl (gg rfl) rfl sc3 rfl<|bng rfl rfl rfl rfl run_eq<|pf0 rfl rfl rfl<|.fin<|cd H rfl (fun _ H=>?_) (fun _ H=>?_)
 ·
  exact WP.exit<|rg 3 0<|mv0 rfl rfl<|bn0 rfl rfl rfl run_add<|as0 rfl rfl<|.fin<|bk ja (xa,w64 (xb+1)) H
 refine WP.skip<|WP.seq<|WP.seq<|rg 2 0<|mv0 rfl rfl<|bn0 rfl rfl rfl run_lt<|.fin<|cd H rfl (fun _ H=>?_) (fun _ H=>?_)
 ·
  exact WP.seq<|rg 2 0<|mv0 rfl rfl<|as0 rfl rfl<|.fin<|WP.exit<|rg 3 0<|mv0 rfl rfl<|bn0 rfl rfl rfl run_add<|as0 rfl rfl<|.fin<|bk ja (xb,w64 (xb+1)) H
 refine WP.skip<|WP.seq<|dg Tryz.checked.mixed 18 0<|lds 1 rfl trivial rfl sg97 rfl rfl<|fb rfl trivial rfl fa97_1<|ld 1 rfl trivial rfl sc28 rfl rfl<|mv0 rfl rfl<|gr H fun gj H=>Dv.ixr rfl trivial rfl rfl underlying28 underlying55 c55 gj.1 gj.2<|fr rfl trivial rfl fa55_0 rfl<|ldR rfl trivial rfl sc9 rfl<|el H fun ta haa H=>cl rfl cal179 rfl (r07_Position.c haa)<|lds 1 rfl trivial rfl sg97 rfl rfl<|fb rfl trivial rfl fa97_1<|ld 1 rfl trivial rfl sc28 rfl rfl<|mv0 rfl rfl<|gr H fun gk H=>Dv.ixr rfl trivial rfl rfl underlying28 underlying55 c55 gk.1 gk.2<|fr rfl trivial rfl fa55_0 rfl<|ldR rfl trivial rfl sc9 rfl<|el H fun tc hac H=>cl rfl cal179 rfl (r07_Position.c hac)<|el H fun te had H=>cl rfl cal178 rfl (r07_Before.c had)<|as0 rfl rfl<|.fin<|WP.seq<|rg 1 0<|mv0 rfl rfl<|.fin<|cd H rfl (fun _ H=>?_) (fun _ H=>?_)
 rotate_left
 ·
  exact WP.skip<|rg 3 0<|mv0 rfl rfl<|bn0 rfl rfl rfl run_add<|as0 rfl rfl<|.fin<|bk ja (xa,w64 (xb+1)) H
 exact rg 2 0<|mv0 rfl rfl<|as0 rfl rfl<|.fin<|rg 3 0<|mv0 rfl rfl<|bn0 rfl rfl rfl run_add<|as0 rfl rfl<|.fin<|bk ja (xb,w64 (xb+1)) H
theorem r09_Joined.c (h:r09_Joined.f k a0 a1=some r):Pt prog 149 [agg (RDag.enc a0),vS a1] (vB r):=by
 unfold r09_Joined.f at h
 refine pb func149 ntmps149 h fun R0 F H=>?_
 refine WP.seq<|rg 2 1<|Dv.box rfl trivial rfl cA nofun fun ba=>as0 rfl rfl<|.fin<|WP.seq<|rg 9 192<|lds 0 rfl trivial rfl sg97 rfl rfl<|mv0 rfl rfl<|el H fun ta haa H=>cl rfl cal165 rfl (r09_Last.c haa)<|mv0 rfl rfl<|ex0 rfl trivial rfl rfl<|ex0 rfl trivial rfl rfl<|al rfl trivial zc55 nofun fun bc=>sx 0 rfl trivial rfl rfl cA sz55 rfl rfl rfl nofun ?_
 refine as0 rfl rfl<|.fin<|WP.seq<|rg 7 0<|mv0 rfl rfl<|mv0 rfl rfl ?_
 cases cc:ta.2
 ·
  have H:=H.cf cc
  refine sk rfl rfl<|sk rfl rfl<|sk rfl rfl<|pf0 rfl rfl rfl<|as0 rfl rfl<|.fin ?_
  cases H.out; exact r2 i2 rfl (.cons (res_tmp rfl) .nil)
 have H:=H.ct cc
 refine fb rfl (gg rfl) rfl fa55_5<|ld 0 rfl (gg rfl) rfl sc3 rfl rfl<|bng rfl rfl rfl rfl run_eq<|pt0 rfl rfl rfl<|as0 rfl rfl<|.fin ?_
 cases H.out; exact r2 i2 rfl (.cons (res_tmp rfl) .nil)
theorem r09_Users.c (h:r09_Users.f k a0=some r):Tr prog 151 [agg (RDag.enc a0)] [] (γ:=OV) (fun _=>True) (fun g=>eq g.1) (fun g=>[own strK g.1 r]):=by
 unfold r09_Users.f at h
 refine tb func151 ntmps151 h fun R0 F H=>?_
 refine WP.seq<|rg 2 1<|Dv.box rfl trivial rfl cA nofun fun ba=>as0 rfl rfl<|.fin<|WP.seq<|rg 1 0<|as0 rfl rfl<|.fin<|WP.seqn H (fun qa:(Int×Bool×(List ByteArray))×OV=>qa.1) (fun qa:(Int×Bool×(List ByteArray))×OV=>[(0,agg (RDag.enc a0)),(1,eq (.pointer (some ⟨ba,0,none⟩))),(2,eq (.slice none 0 0)),(3,eq qa.2.1),(4,vI qa.1.1),(10,vB qa.1.2.1)]) (fun qa:(Int×Bool×(List ByteArray))×OV=>[blk ba 97 (RDag.enc a0),own strK qa.2.1 qa.1.2.2]++F) (fun qa H=>?_) (fun H=>?_)
 ·
  obtain ⟨pa,va⟩:=qa
  refine WP.seq<|rg 2 0<|mv0 rfl rfl<|as0 rfl rfl<|.fin ?_
  obtain rfl:=Gets.out H
  exact rt i2 rfl va 2 [0,1] 1 (.cons (res_tmp rfl) .nil)
 refine WP.seq<|rg 1 0<|as0 rfl rfl<|.fin<|WP.block<|wg (st_nil strK none) fun _ _=>?_
 refine wg (sg 2 [1,0] 0) fun _ _=>?_
 refine lp (fun j_ (pc:Int×(List ByteArray)×OV)=>r09_Users.l0 k a0 j_ pc.1 pc.2.1) (0,([]:List ByteArray),nilV) H (fun pc=>[(0,agg (RDag.enc a0)),(1,eq (.pointer (some ⟨ba,0,none⟩))),(2,eq (.slice none 0 0)),(3,eq pc.2.2.1),(4,vI pc.1)]) (fun pc=>[blk ba 97 (RDag.enc a0),own strK pc.2.2.1 pc.2.1]++F) ?_
 rintro j_ ⟨xa,xb,vb⟩ H
 rcases j_ with _ | ja
 ·
  exact (Gets.no H).elim
 try dsimp only at H
 rw [r09_Users.l0] at H
 refine WP.seq<|WP.seq<|rg 5 0<|mv0 rfl rfl<|fb rfl trivial rfl fa97_1<|ld 0 rfl trivial rfl sc28 rfl rfl<|Dv.lenl rfl trivial rfl underlying28<|bn0 rfl rfl rfl run_lt<|.fin<|cd H rfl (fun _ H=>?_) (fun _ H=>?_)
 rotate_left
 ·
  refine WP.exit ?_
  have H:=H.out
  exact jn ((xa,decide (xa<(a0.fL.length:Int)),xb),vb) H
 refine WP.skip<|WP.seq<|WP.block<|WP.seq<|dg Tryz.checked.mixed 9 0<|lds 0 rfl trivial rfl sg97 rfl rfl<|fb rfl trivial rfl fa97_1<|ld 0 rfl trivial rfl sc28 rfl rfl<|mv0 rfl rfl<|gr H fun ga H=>Dv.ixr rfl trivial rfl rfl underlying28 underlying55 c55 ga.1 ga.2<|fr rfl trivial rfl fa55_4 rfl<|ldR rfl trivial rfl sc9 rfl<|el H fun ta haa H=>cl rfl cal149 rfl (r09_Joined.c haa)<|as0 rfl rfl<|.fin<|WP.seq<|rg 1 0<|mv0 rfl rfl<|.fin<|cd H rfl (fun _ H=>?_) (fun _ H=>?_)
 rotate_left
 ·
  exact WP.skip<|rg 3 0<|mv0 rfl rfl<|bn0 rfl rfl rfl run_add<|as0 rfl rfl<|.fin<|bk ja (w64 (xa+1),xb,vb) H
 refine rg 9 128<|mv0 rfl rfl<|fb rfl trivial rfl fa97_1<|ld 0 rfl trivial rfl sc28 rfl rfl<|mv0 rfl rfl<|gr H fun gb H=>Dv.ixr rfl trivial rfl rfl underlying28 underlying55 c55 gb.1 gb.2<|fr rfl trivial rfl fa55_4 rfl<|ldR rfl trivial rfl sc9 rfl<|el H fun tc hac H=>cx 2 [1,0] cal119 (Tr.lend [own strK vb.1 xb] (r09_Put.c hac) (.cons (lt_own (mem_at 0 rfl)) (.cons lt_id .nil)) (fun _=>flat_eq) (fun _=>(flatAs_cons (flatA_own flatK_str) flatAs_nil))) nofun fun gi _=>?_
 refine as0 rfl rfl<|.fin<|rg 3 0<|mv0 rfl rfl<|bn0 rfl rfl rfl run_add<|as0 rfl rfl<|.fin<|ng (sg 3 [0,2,1] 1) fun _ _=>?_
 exact bk ja (w64 (xa+1),tc,gi) H
theorem r09_Servers.c (h:r09_Servers.f k a0=some r):Tr prog 120 [agg (RDag.enc a0)] [] (γ:=OV) (fun _=>True) (fun g=>eq g.1) (fun g=>[own strK g.1 r]):=by
 unfold r09_Servers.f at h
 refine tb func120 ntmps120 h fun R0 F H=>?_
 refine WP.seq<|rg 2 1<|Dv.box rfl trivial rfl cA nofun fun ba=>as0 rfl rfl<|.fin<|WP.seq<|rg 4 6<|lds 0 rfl trivial rfl sg97 rfl rfl<|el H fun ta haa H=>cx 1 [0] cal151 (r09_Users.c haa) nofun fun ga _=>?_
 refine el H fun tc hac H=>cx 2 [0,1] cal150 (Tr.lend [own strK ga.1 ta] (r09_Homes.c hac) (.cons (lt_own (mem_at 0 rfl)) .nil) (fun _=>flat_eq) (fun _=>(flatAs_cons (flatA_own flatK_str) flatAs_nil))) nofun fun gb _=>?_
 refine as0 rfl rfl<|.fin ?_
 obtain rfl:=Gets.out H
 exact rt i2 rfl gb 3 [0,2,1] 2 (.cons (res_tmp rfl) .nil)
theorem r10_Servers.c (h:r10_Servers.f k a0 a1=some r):Tr prog 89 [agg (RView.enc a0),vS a1] [] (γ:=OV) (fun _=>True) (fun g=>eq g.1) (fun g=>[own strK g.1 r]):=by
 unfold r10_Servers.f at h
 refine tb func89 ntmps89 h fun R0 F H=>?_
 refine WP.seq<|rg 2 1<|Dv.box rfl trivial rfl cA nofun fun ba=>as0 rfl rfl<|.fin<|WP.seq<|rg 5 8<|lds 0 rfl trivial rfl sg44 rfl rfl<|mv0 rfl rfl<|el H fun ta haa H=>cl rfl cal58 rfl (r10_Of.c haa)<|el H fun tc hac H=>cx 1 [0] cal120 (r09_Servers.c hac) nofun fun ga _=>?_
 refine as0 rfl rfl<|.fin ?_
 obtain rfl:=Gets.out H
 exact rt i2 rfl ga 2 [1,0] 1 (.cons (res_tmp rfl) .nil)
theorem r10_RoomsOf.c (h:r10_RoomsOf.f k a0 a1=some r):Tr prog 118 [agg (RView.enc a0),vS a1] [] (γ:=OV) (fun _=>True) (fun g=>eq g.1) (fun g=>[own strK g.1 r]):=by
 unfold r10_RoomsOf.f at h
 refine tb func118 ntmps118 h fun R0 F H=>?_
 refine WP.seq<|rg 2 1<|Dv.box rfl trivial rfl cA nofun fun ba=>as0 rfl rfl<|.fin<|WP.seq<|rg 1 0<|as0 rfl rfl<|.fin<|WP.seqn H (fun qa:(Int×Bool×(List ByteArray))×OV=>qa.1) (fun qa:(Int×Bool×(List ByteArray))×OV=>[(0,agg (RView.enc a0)),(1,vS a1),(2,eq (.pointer (some ⟨ba,0,none⟩))),(4,eq (.slice none 0 0)),(5,eq qa.2.1),(6,vI qa.1.1),(12,vB qa.1.2.1)]) (fun qa:(Int×Bool×(List ByteArray))×OV=>[blk ba 44 (RView.enc a0),own strK qa.2.1 qa.1.2.2]++F) (fun qa H=>?_) (fun H=>?_)
 ·
  obtain ⟨pa,va⟩:=qa
  refine WP.seq<|rg 2 0<|mv0 rfl rfl<|as0 rfl rfl<|.fin ?_
  obtain rfl:=Gets.out H
  exact rt i2 rfl va 2 [0,1] 1 (.cons (res_tmp rfl) .nil)
 refine WP.seq<|rg 1 0<|as0 rfl rfl<|.fin<|WP.block<|wg (st_nil strK none) fun _ _=>?_
 refine wg (sg 2 [1,0] 0) fun _ _=>?_
 refine lp (fun j_ (pc:Int×(List ByteArray)×OV)=>r10_RoomsOf.l0 k a0 a1 j_ pc.1 pc.2.1) (0,([]:List ByteArray),nilV) H (fun pc=>[(0,agg (RView.enc a0)),(1,vS a1),(2,eq (.pointer (some ⟨ba,0,none⟩))),(4,eq (.slice none 0 0)),(5,eq pc.2.2.1),(6,vI pc.1)]) (fun pc=>[blk ba 44 (RView.enc a0),own strK pc.2.2.1 pc.2.1]++F) ?_
 rintro j_ ⟨xa,xb,vb⟩ H
 rcases j_ with _ | ja
 ·
  exact (Gets.no H).elim
 try dsimp only at H
 rw [r10_RoomsOf.l0] at H
 refine WP.seq<|WP.seq<|rg 5 0<|mv0 rfl rfl<|fb rfl trivial rfl fa44_0<|ld 0 rfl trivial rfl sc42 rfl rfl<|Dv.lenl rfl trivial rfl underlying42<|bn0 rfl rfl rfl run_lt<|.fin<|cd H rfl (fun _ H=>?_) (fun _ H=>?_)
 rotate_left
 ·
  refine WP.exit ?_
  have H:=H.out
  exact jn ((xa,decide (xa<(a0.fD.length:Int)),xb),vb) H
 refine WP.skip<|WP.seq<|WP.block<|WP.seq<|rg 8 0<|fb rfl trivial rfl fa44_0<|ld 0 rfl trivial rfl sc42 rfl rfl<|mv0 rfl rfl<|gr H fun ga H=>Dv.ixr rfl trivial rfl rfl underlying42 underlying97 c97 ga.1 ga.2<|ldsR rfl trivial rfl sg97 rfl<|mv0 rfl rfl<|el H fun ta haa H=>cl rfl cal149 rfl (r09_Joined.c haa)<|as0 rfl rfl<|.fin<|WP.seq<|rg 1 0<|mv0 rfl rfl<|.fin<|cd H rfl (fun _ H=>?_) (fun _ H=>?_)
 rotate_left
 ·
  exact WP.skip<|rg 3 0<|mv0 rfl rfl<|bn0 rfl rfl rfl run_add<|as0 rfl rfl<|.fin<|bk ja (w64 (xa+1),xb,vb) H
 refine rg 10 256<|mv0 rfl rfl<|fb rfl trivial rfl fa44_0<|ld 0 rfl trivial rfl sc42 rfl rfl<|mv0 rfl rfl<|gr H fun gb H=>Dv.ixr rfl trivial rfl rfl underlying42 underlying97 c97 gb.1 gb.2<|fr rfl trivial rfl fa97_0 rfl<|ldR rfl trivial rfl sc9 rfl<|Dv.lit strK ([(RDag.K.at a0.fD xa).fRoom]:List ByteArray) (css:=[[vS ((RDag.K.at a0.fD xa).fRoom)]]) rfl trivial underlying53 underlying9 c9 z9 rfl (by decide) (by decide) rfl ⟨(cells_one (one_eq rfl)),trivial⟩ rfl rfl rfl<|gr H fun gi H=>ap strK 1 ([(RDag.K.at a0.fD xa).fRoom]:List ByteArray) src_sl underlying53 (.inr ⟨_,underlying53⟩) inf9 gi nofun fun vd=>?_
 exact as0 rfl rfl<|.fin<|rg 3 0<|mv0 rfl rfl<|bn0 rfl rfl rfl run_add<|as0 rfl rfl<|.fin<|bk ja (w64 (xa+1),xb++([(RDag.K.at a0.fD xa).fRoom]:List ByteArray),vd) H
theorem r10_Peers.c (h:r10_Peers.f k a0 a1=some r):Tr prog 88 [agg (RView.enc a0),vS a1] [] (γ:=OV) (fun _=>True) (fun g=>eq g.1) (fun g=>[own strK g.1 r]):=by
 unfold r10_Peers.f at h
 refine tb func88 ntmps88 h fun R0 F H=>?_
 refine WP.seq<|rg 2 1<|Dv.box rfl trivial rfl cA nofun fun ba=>as0 rfl rfl<|.fin<|WP.seq<|rg 4 4<|lds 0 rfl trivial rfl sg44 rfl rfl<|mv0 rfl rfl<|el H fun ta haa H=>cx 1 [0] cal118 (r10_RoomsOf.c haa) nofun fun ga _=>?_
 refine as0 rfl rfl<|.fin<|WP.seq<|rg 1 0<|as0 rfl rfl<|.fin<|WP.seqn H (fun qa:(Int×Bool×(List ByteArray))×OV=>qa.1) (fun qa:(Int×Bool×(List ByteArray))×OV=>[(0,agg (RView.enc a0)),(1,vS a1),(2,eq (.pointer (some ⟨ba,0,none⟩))),(4,eq (.slice none 0 0)),(5,eq ga.1),(6,eq qa.2.1),(7,vI qa.1.1),(16,vB qa.1.2.1)]) (fun qa:(Int×Bool×(List ByteArray))×OV=>[blk ba 44 (RView.enc a0),own strK ga.1 ta,own strK qa.2.1 qa.1.2.2]++F) (fun qa H=>?_) (fun H=>?_)
 ·
  obtain ⟨pa,va⟩:=qa
  refine WP.seq<|rg 2 0<|mv0 rfl rfl<|as0 rfl rfl<|.fin ?_
  obtain rfl:=Gets.out H
  exact rt i2 rfl va 3 [0,1,2] 2 (.cons (res_tmp rfl) .nil)
 refine WP.seq<|rg 1 0<|as0 rfl rfl<|.fin<|WP.block<|wg (st_nil strK none) fun _ _=>?_
 refine wg (sg 3 [2,1,0] 0) fun _ _=>?_
 refine lp (fun j_ (pc:Int×(List ByteArray)×OV)=>r10_Peers.l0 k a0 ta j_ pc.1 pc.2.1) (0,([]:List ByteArray),nilV) H (fun pc=>[(0,agg (RView.enc a0)),(1,vS a1),(2,eq (.pointer (some ⟨ba,0,none⟩))),(4,eq (.slice none 0 0)),(5,eq ga.1),(6,eq pc.2.2.1),(7,vI pc.1)]) (fun pc=>[blk ba 44 (RView.enc a0),own strK ga.1 ta,own strK pc.2.2.1 pc.2.1]++F) ?_
 rintro j_ ⟨xa,xb,vb⟩ H
 rcases j_ with _ | ja
 ·
  exact (Gets.no H).elim
 try dsimp only at H
 rw [r10_Peers.l0] at H
 refine WP.seq<|WP.seq<|rg 4 0<|mv0 rfl rfl<|mv0 rfl rfl<|Dv.lenw rfl trivial rfl (mem_at 1 rfl) underlying53<|bn0 rfl rfl rfl run_lt<|.fin<|cd H rfl (fun _ H=>?_) (fun _ H=>?_)
 rotate_left
 ·
  refine WP.exit ?_
  have H:=H.out
  exact jn ((xa,decide (xa<(ta.length:Int)),xb),vb) H
 refine WP.skip<|WP.seqn H (fun qb:(Int×Bool×(List ByteArray)×(List ByteArray))×OV×OV=>qb.1) (fun qb:(Int×Bool×(List ByteArray)×(List ByteArray))×OV×OV=>[(0,agg (RView.enc a0)),(1,vS a1),(2,eq (.pointer (some ⟨ba,0,none⟩))),(4,eq (.slice none 0 0)),(5,eq ga.1),(6,eq qb.2.1.1),(7,vI xa),(8,eq qb.2.2.1),(9,vI qb.1.1),(16,vB (decide (xa<(ta.length:Int)))),(28,vB qb.1.2.1)]) (fun qb:(Int×Bool×(List ByteArray)×(List ByteArray))×OV×OV=>[blk ba 44 (RView.enc a0),own strK ga.1 ta,own strK qb.2.1.1 qb.1.2.2.1,own strK qb.2.2.1 qb.1.2.2.2]++F) (fun qb H=>?_) (fun H=>?_)
 ·
  obtain ⟨pd,vd,vh⟩:=qb
  refine rg 3 0<|mv0 rfl rfl<|bn0 rfl rfl rfl run_add<|as0 rfl rfl<|.fin<|ng (sg 4 [3,0,1,2] 1) fun _ _=>?_
  exact bk ja (w64 (xa+1),pd.2.2.1,vd) H
 refine WP.block<|WP.seq<|dg Tryz.checked.mixed 7 32<|lds 0 rfl trivial rfl sg44 rfl rfl<|mv0 rfl rfl<|mv0 rfl rfl<|gr H fun gb H=>?_
 have hac:xa.toNat<ta.length:=idx_lt gb
 refine Dv.ixw rfl trivial rfl (mem_at 1 rfl) rfl underlying53 underlying9 c9 gb.1 gb.2<|Dv.ldw (j:=xa.toNat) (f:=0) (p:=vS (ta.getD xa.toNat default)) rfl trivial rfl (mem_at 1 rfl) hac underlying9 rfl rfl<|el H fun tc had H=>cx 3 [0,1,2] cal89 (r10_Servers.c had) pC fun gi _=>?_
 refine as0 rfl rfl<|.fin<|WP.seq<|rg 1 0<|as0 rfl rfl<|.fin<|WP.block<|wg (sg 4 [1,0,2,3] 0) fun _ _=>?_
 refine lp (fun j_ (pe:Int×(List ByteArray)×OV)=>r10_Peers.l1 k tc j_ pe.1 pe.2.1) (0,xb,vb) H (fun pe=>[(0,agg (RView.enc a0)),(1,vS a1),(2,eq (.pointer (some ⟨ba,0,none⟩))),(4,eq (.slice none 0 0)),(5,eq ga.1),(6,eq pe.2.2.1),(7,vI xa),(8,eq gi.1),(9,vI pe.1),(16,vB (decide (xa<(ta.length:Int))))]) (fun pe=>[blk ba 44 (RView.enc a0),own strK gi.1 tc,own strK ga.1 ta,own strK pe.2.2.1 pe.2.1]++F) ?_
 rintro j_ ⟨xc,xd,vi⟩ H
 rcases j_ with _ | jc
 ·
  exact (Gets.no H).elim
 try dsimp only at H
 rw [r10_Peers.l1] at H
 refine WP.seq<|WP.seq<|rg 4 0<|mv0 rfl rfl<|mv0 rfl rfl<|Dv.lenw rfl trivial rfl (mem_at 1 rfl) underlying53<|bn0 rfl rfl rfl run_lt<|.fin<|cd H rfl (fun _ H=>?_) (fun _ H=>?_)
 rotate_left
 ·
  refine WP.exit ?_
  have H:=H.out
  refine ng (sg 4 [0,2,3,1] 0) fun _ _=>?_
  exact jn ((xc,decide (xc<(tc.length:Int)),xd,tc),vi,gi) H
 refine WP.skip<|WP.seq<|WP.block<|rg 7 32<|mv0 rfl rfl<|mv0 rfl rfl<|mv0 rfl rfl<|gr H fun gj H=>?_
 have hae:xc.toNat<tc.length:=idx_lt gj
 refine Dv.ixw rfl trivial rfl (mem_at 1 rfl) rfl underlying53 underlying9 c9 gj.1 gj.2<|Dv.ldw (j:=xc.toNat) (f:=0) (p:=vS (tc.getD xc.toNat default)) rfl trivial rfl (mem_at 1 rfl) hae underlying9 rfl rfl<|el H fun te haf H=>cx 4 [3,0,1,2] cal119 (Tr.lend [own strK vi.1 xd] (r09_Put.c haf) (.cons (lt_own (mem_at 0 rfl)) (.cons lt_id .nil)) (fun _=>flat_eq) (fun _=>(flatAs_cons (flatA_own flatK_str) flatAs_nil))) nofun fun gk _=>?_
 refine as0 rfl rfl<|.fin<|rg 3 0<|mv0 rfl rfl<|bn0 rfl rfl rfl run_add<|as0 rfl rfl<|.fin<|ng (sg 5 [0,2,3,4,1] 1) fun _ _=>?_
 exact bk jc (w64 (xc+1),te,gk) H
end Go.Proofs.YtmmaijneehmbgaaGreat
