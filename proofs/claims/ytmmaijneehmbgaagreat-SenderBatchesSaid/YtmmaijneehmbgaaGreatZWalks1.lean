import Derived.Test.YtmmaijneehmbgaaGreatZMir
import Derived.Test.YtmmaijneehmbgaaGreatConQ
import Derived.Test.YtmmaijneehmbgaaGreatConA6
import Derived.Test.YtmmaijneehmbgaaGreatConC1
import Derived.Eval
import Derived.Test.YtmmaijneehmbgaaGreatZShelf
set_option linter.all false
set_option maxRecDepth 10000
set_option maxHeartbeats 20000000
namespace Go.Proofs.YtmmaijneehmbgaaGreat
open Go Go.Sp
theorem name_small.c {a0:Int} {r:Bool} (h:name_small.f a0 = some r):Pt Tryz.prog 99 [eq (.int .u8 a0)] (vB r):=by
 unfold name_small.f at h
 refine pb Tryz.func99 Tryz.ntmps99 h fun R0 F H=>?_
 refine WP.seq<|rg 1 0<|as0 rfl rfl<|.fin<|WP.seq<|rg 15 0<|mv0 rfl rfl<|bn0 rfl rfl rfl run_ge<|mv0 rfl rfl ?_
 cases c1:decide (97≤a0)
 ·
  have H:=H.cf c1
  refine sk rfl rfl<|sk rfl rfl<|pf0 rfl rfl rfl<|mv0 rfl rfl<|mvg rfl rfl rfl<|bng rfl rfl rfl rfl run_ge<|mvg rfl rfl rfl ?_
  cases c4:decide (48≤a0)
  ·
   have H:=H.cf c4
   refine sk rfl rfl<|sk rfl rfl<|pfg rfl rfl rfl rfl<|pf0 rfl rfl rfl<|as0 rfl rfl<|.fin ?_
   cases H.out; exact r0 i2 rfl (.cons (res_tmp rfl) .nil)
  have H:=H.ct c4
  refine mvg rfl rfl rfl<|bng rfl rfl rfl rfl run_le<|ptg rfl rfl rfl rfl<|pf0 rfl rfl rfl<|as0 rfl rfl<|.fin ?_
  cases H.out; exact r0 i2 rfl (.cons (res_tmp rfl) .nil)
 have H:=H.ct c1
 refine mvg rfl rfl rfl<|bng rfl rfl rfl rfl run_le<|pt0 rfl rfl rfl<|mv0 rfl rfl ?_
 cases c2:decide (a0≤122)
 rotate_left
 ·
  have H:=H.ct c2
  refine sk rfl rfl<|sk rfl rfl<|sk rfl rfl<|sku rfl rfl<|sku rfl rfl<|sk rfl rfl<|pt0 rfl rfl rfl<|as0 rfl rfl<|.fin ?_
  cases H.out; exact r0 i2 rfl (.cons (res_tmp rfl) .nil)
 have H:=H.cf c2
 refine mvg rfl rfl rfl<|bng rfl rfl rfl rfl run_ge<|mvg rfl rfl rfl ?_
 cases c3:decide (48≤a0)
 ·
  have H:=H.cf c3
  refine sk rfl rfl<|sk rfl rfl<|pfg rfl rfl rfl rfl<|pf0 rfl rfl rfl<|as0 rfl rfl<|.fin ?_
  cases H.out; exact r0 i2 rfl (.cons (res_tmp rfl) .nil)
 have H:=H.ct c3
 refine mvg rfl rfl rfl<|bng rfl rfl rfl rfl run_le<|ptg rfl rfl rfl rfl<|pf0 rfl rfl rfl<|as0 rfl rfl<|.fin ?_
 cases H.out; exact r0 i2 rfl (.cons (res_tmp rfl) .nil)
theorem stringslite_IndexByte.c {a0:ByteArray} {a1:Int} {r:Int} (h:stringslite_IndexByte.f a0 a1 = some r):Pt Tryz.prog 168 [vS a0,eq (.int .u8 a1)] (vI r):=by
 unfold stringslite_IndexByte.f at h
 refine pb Tryz.func168 Tryz.ntmps168 h fun R0 F H=>?_
 refine WP.seq<|rg 1 0<|as0 rfl rfl<|.fin<|WP.seq<|rg 4 0<|mv0 rfl rfl<|mv0 rfl rfl<|Dv.cext rfl trivial rfl (xt_index Tryz.func181 (by kernel_rfl) rfl xf181 xg181)<|as0 rfl rfl<|.fin ?_
 cases H.out; exact r0 i2 rfl (.cons (res_tmp rfl) .nil)
theorem strings_IndexByte.c {a0:ByteArray} {a1:Int} {r:Int} (h:strings_IndexByte.f a0 a1 = some r):Pt Tryz.prog 156 [vS a0,eq (.int .u8 a1)] (vI r):=by
 unfold strings_IndexByte.f at h
 refine pb Tryz.func156 Tryz.ntmps156 h fun R0 F H=>?_
 refine WP.seq<|rg 1 0<|as0 rfl rfl<|.fin<|WP.seq<|rg 4 0<|mv0 rfl rfl<|mv0 rfl rfl<|el H fun t5 h6 H=>cl rfl cal168 rfl (stringslite_IndexByte.c h6)<|as0 rfl rfl<|.fin ?_
 cases H.out; exact r0 i2 rfl (.cons (res_tmp rfl) .nil)
theorem name_among_1.c {a0:Int} {c0:ByteArray} {r:Bool} (h:name_among_1.f a0 c0 = some r):Pt Tryz.prog 155 [eq (.int .u8 a0),rp [vS c0]] (vB r):=by
 unfold name_among_1.f at h
 refine pb Tryz.func155 Tryz.ntmps155 h fun R0 F H=>?_
 refine WP.seq<|rg 1 0<|as0 rfl rfl<|.fin<|WP.seq<|rg 9 0<|mv0 rfl rfl<|el H fun t7 h8 H=>cl rfl cal99 rfl (name_small.c h8)<|mv0 rfl rfl ?_
 cases c9:t7
 rotate_left
 ·
  have H:=H.ct c9
  refine sk rfl rfl<|sk rfl rfl<|sk rfl rfl<|sk rfl rfl<|pt0 rfl rfl rfl<|as0 rfl rfl<|.fin ?_
  cases H.out; exact r0 i2 rfl (.cons (res_tmp rfl) .nil)
 have H:=H.cf c9
 refine ldR rfl (gg rfl) rfl sc9 rfl<|mvg rfl rfl rfl<|el H fun t10 h11 H=>Dv.call rfl (gg rfl) cal156 rfl (strings_IndexByte.c h11)<|bng rfl rfl rfl rfl run_ge<|pf0 rfl rfl rfl<|as0 rfl rfl<|.fin ?_
 cases H.out; exact r0 i2 rfl (.cons (res_tmp rfl) .nil)
theorem name_among.c {a0:ByteArray} {r:(Int→Option Bool)} (h:name_among.f a0 = some r):Pt Tryz.prog 127 [vS a0] (fq_uint8_bool r):=by
 unfold name_among.f at h
 refine pb Tryz.func127 Tryz.ntmps127 h fun R0 F H=>?_
 refine WP.seq<|rg 2 1<|Dv.box rfl trivial rfl cE nofun fun b12=>as0 rfl rfl<|.fin<|WP.seq<|rg 2 0<|Dv.gh (gh_frzb (E':=[(0,vS a0),(1,rp [vS a0]),(2,eq .nilFunc)]) (l':=F) 0 rfl (cve_cons rfl cv_id (cve_cons rfl cv_eq (cve_cons rfl cv_id cve_nil))) (all2_app .nil fun _=>cva_id)) (fun _ _=>?_)
 refine Dv.mkf (Q:=fqQ_uint8_bool (fun a0_=>name_among_1.f a0_ a0)) cal155 (by rintro _ _ ⟨a0_,r_,h_,rfl,rfl⟩; exact name_among_1.c h_) rfl trivial rfl rfl<|as0 rfl rfl<|.fin ?_
 cases H.out; exact r0 i2 rfl (.cons (res_tmp rfl) .nil)
theorem name_may.c {k:Nat} {a0:ByteArray} {a1:Int} {r:Bool} (h:name_may.f k a0 a1 = some r):Pt Tryz.prog 98 [vS a0,vI a1] (vB r):=by
 unfold name_may.f at h
 refine pb Tryz.func98 Tryz.ntmps98 h fun R0 F H=>?_
 refine WP.seq<|rg 1 0<|as0 rfl rfl<|.fin<|WP.seq<|rg 7 0<|el H fun t13 h14 H=>cl rfl cal127 rfl (name_among.c h14)<|el H fun t15 h16 H=>cl rfl cal127 rfl (name_among.c h16)<|el H fun t17 h18 H=>cl rfl cal127 rfl (name_among.c h18)<|Dv.blda (qs:=[fq_uint8_bool t13,fq_uint8_bool t15,fq_uint8_bool t17]) (css:=[[fq_uint8_bool t13],[fq_uint8_bool t15],[fq_uint8_bool t17]]) rfl trivial Tryz.underlying192 Tryz.underlying129 c129 z192 rfl ⟨(cells_one one_fnq),⟨(cells_one one_fnq),⟨(cells_one one_fnq),trivial⟩⟩⟩ rfl rfl<|mv0 rfl rfl<|gr H fun g19 H=>Dv.ixa (Kd:=fK_uint8_bool) (xs:=([t13,t15,t17]:List (Int→Option Bool))) rfl trivial rfl rfl rfl Tryz.underlying192 Tryz.underlying129 rfl c129 rfl rfl g19.1 g19.2 rfl<|as0 rfl rfl<|.fin<|WP.seqr H id (fun p20:Int×Bool=>[(0,vS a0),(1,vI a1),(4,vB false),(5,fq_uint8_bool (fK_uint8_bool.at ([t13,t15,t17]:List (Int→Option Bool)) a1)),(14,vI (a0.size:Int)),(15,vI p20.1),(16,vB p20.2)]) (fun p20:Int×Bool=>F) (fun p20 H=>?_) (fun H=>?_)
 ·
  refine WP.seq<|rg 8 0<|mv0 rfl rfl<|bn0 rfl rfl rfl run_sne<|mv0 rfl rfl ?_
  cases c21:!decide (a0 = (⟨#[]⟩:ByteArray))
  ·
   have H:=H.cf c21
   refine sk rfl rfl<|sk rfl rfl<|sk rfl rfl<|pf0 rfl rfl rfl<|as0 rfl rfl<|.fin ?_
   cases H.out; exact r0 i2 rfl (.cons (res_tmp rfl) .nil)
  have H:=H.ct c21
  refine mvg rfl rfl rfl<|Dv.lens rfl (gg rfl) rfl Tryz.underlying9<|bng rfl rfl rfl rfl run_le<|pt0 rfl rfl rfl<|as0 rfl rfl<|.fin ?_
  cases H.out; exact r0 i2 rfl (.cons (res_tmp rfl) .nil)
 refine WP.seq<|rg 3 0<|mv0 rfl rfl<|Dv.lens rfl trivial rfl Tryz.underlying9<|mv0 rfl rfl<|.fin<|WP.block<|wg (sg 0 [] 0) fun _ _=>?_
 refine lp (fun j_ (p29:Int)=>name_may.l0 k a0 a1 t13 t15 t17 j_ p29) 0 H (fun p29=>[(0,vS a0),(1,vI a1),(4,vB false),(5,fq_uint8_bool (fK_uint8_bool.at ([t13,t15,t17]:List (Int→Option Bool)) a1)),(14,vI (a0.size:Int)),(15,vI p29)]) (fun p29=>F) ?_
 rintro j_ x22 H
 rcases j_ with _ | j28
 ·
  exact (Gets.no H).elim
 replace H:Gets (name_may.l0 k a0 a1 t13 t15 t17 (j28 + 1) x22) _:=H
 rw [name_may.l0] at H
 refine WP.seq<|rg 1 0<|bn0 rfl rfl rfl run_lt<|.fin<|WP.seq<|cd H rfl (fun _ H=>?_) (fun _ H=>?_)
 rotate_left
 ·
  refine WP.exit ?_
  have H:=H.out
  exact jn (x22,decide (x22 < (a0.size:Int))) H
 refine WP.skip<|WP.seq<|WP.block<|WP.seq<|rg 2 0<|mv0 rfl rfl<|as0 rfl rfl<|.fin<|WP.seq<|rg 6 0<|mv0 rfl rfl<|mv0 rfl rfl<|mv0 rfl rfl<|gr H fun g24 H=>Dv.ixs rfl trivial rfl rfl Tryz.underlying9 g24.1 g24.2<|el H fun t25 h26 H=>Dv.callq (ret:=vB t25) rfl trivial rfl rfl ⟨_,_,h26,rfl,rfl⟩<|un0 rfl rfl (run_not _)<|.fin<|cd H rfl (fun _ H=>?_) (fun _ H=>?_)
 rotate_left
 ·
  exact WP.skip<|rg 2 0<|bn0 rfl rfl rfl run_add<|mv0 rfl rfl<|.fin<|bk j28 (w64 (x22 + 1)) H
 refine WP.seq<|rg 1 0<|as0 rfl rfl<|.fin ?_
 have H:=H.outr
 cases H.out; exact r0 i2 rfl (.cons (res_tmp rfl) .nil)
theorem name_Server.c {k:Nat} {a0:ByteArray} {r:Bool} (h:name_Server.f k a0 = some r):Pt Tryz.prog 59 [vS a0] (vB r):=by
 unfold name_Server.f at h
 refine pb Tryz.func59 Tryz.ntmps59 h fun R0 F H=>?_
 refine WP.seq<|rg 1 0<|as0 rfl rfl<|.fin<|WP.seq<|rg 16 0<|mv0 rfl rfl<|el H fun t30 h31 H=>cl rfl cal98 rfl (name_may.c h31)<|mv0 rfl rfl ?_
 cases c32:t30
 ·
  have H:=H.cf c32
  refine sk rfl rfl<|sk rfl rfl<|sk rfl rfl<|pf0 rfl rfl rfl<|mv0 rfl rfl<|sk rfl rfl<|sk rfl rfl<|sk rfl rfl<|sk rfl rfl<|sk rfl rfl<|sk rfl rfl<|pf0 rfl rfl rfl<|as0 rfl rfl<|.fin ?_
  cases H.out; exact r0 i2 rfl (.cons (res_tmp rfl) .nil)
 have H:=H.ct c32
 refine mvg rfl rfl rfl<|gr H fun g33 H=>Dv.ixs rfl (gg rfl) rfl rfl Tryz.underlying9 g33.1 g33.2<|el H fun t34 h35 H=>Dv.call rfl (gg rfl) cal99 rfl (name_small.c h35)<|pt0 rfl rfl rfl<|mv0 rfl rfl ?_
 cases c36:t34
 ·
  have H:=H.cf c36
  refine sk rfl rfl<|sk rfl rfl<|sk rfl rfl<|sk rfl rfl<|sk rfl rfl<|sk rfl rfl<|pf0 rfl rfl rfl<|as0 rfl rfl<|.fin ?_
  cases H.out; exact r0 i2 rfl (.cons (res_tmp rfl) .nil)
 have H:=H.ct c36
 refine mvg rfl rfl rfl<|mvg rfl rfl rfl<|Dv.lens rfl (gg rfl) rfl Tryz.underlying9<|bng rfl rfl rfl rfl run_sub<|gr H fun g37 H=>Dv.ixs rfl (gg rfl) rfl rfl Tryz.underlying9 g37.1 g37.2<|el H fun t38 h39 H=>Dv.call rfl (gg rfl) cal99 rfl (name_small.c h39)<|pt0 rfl rfl rfl<|as0 rfl rfl<|.fin ?_
 cases H.out; exact r0 i2 rfl (.cons (res_tmp rfl) .nil)
theorem queue_New.c {a0:Int} {r:(Option SQue)×Int} (h:queue_New.f a0 = some r):Tr Tryz.prog 60 [vI a0] [] (γ:=OV) (fun _=>True) (fun g=>tup [eq g.1,vI r.2]) (fun g=>[optO SQue.O g r.1]):=by
 unfold queue_New.f at h
 refine Tr.body Tryz.func60 (c:=_) rfl Tryz.ntmps60 (Nat.le_of_ble_eq_true rfl) fun R0 F=>?_
 replace h:=Gets.of h
 have H:=h
 clear h
 refine WP.seq<|rg 2 0<|as0 rfl rfl<|as0 rfl rfl<|.fin<|WP.seq<|WP.seq<|rg 6 0<|mv0 rfl rfl<|bn0 rfl rfl rfl run_lt<|mv0 rfl rfl ?_
 rcases bem (decide (a0 < 1)) with c40 | c40
 rotate_left
 ·
  have H:=H.ct c40
  refine Dv.gh (gh_sh 5 c40 rfl) (fun _ _=>?_)
  refine Dv.gh (gh_sh 6 c40 rfl) (fun _ _=>?_)
  refine sk rfl rfl<|sk rfl rfl<|pt0 rfl rfl rfl<|.fin<|WP.cond rfl (fun _=>?_) nofun
  refine WP.seq<|rg 2 0<|as0 rfl rfl<|as0 rfl rfl<|.fin<|wg (st_nilP (O:=SQue.O)) fun _ _=>?_
  obtain rfl:=Gets.out H
  exact rt i2 rfl nilP 1 [0] 0 (.cons (res_tmp rfl) (.cons (res_tmp rfl) .nil))
 have H:=H.cf c40
 refine Dv.gh (gh_sh 5 c40 rfl) (fun _ _=>?_)
 refine Dv.gh (gh_sh 6 c40 rfl) (fun _ _=>?_)
 refine mvg rfl rfl rfl<|bng rfl rfl rfl rfl run_gt<|pf0 rfl rfl rfl<|.fin<|cd H rfl (fun _ H=>?_) (fun _ H=>?_)
 ·
  refine WP.seq<|rg 2 0<|as0 rfl rfl<|as0 rfl rfl<|.fin<|wg (st_nilP (O:=SQue.O)) fun _ _=>?_
  obtain rfl:=Gets.out H
  exact rt i2 rfl nilP 1 [0] 0 (.cons (res_tmp rfl) (.cons (res_tmp rfl) .nil))
 refine WP.skip<|WP.seq<|rg 6 10<|mv0 rfl rfl<|Dv.mmk EKey.kv (fun x:Edu=>agg (Edu.enc x)) rfl trivial nofun (fun v43=>?_)
 refine Dv.bld (qs:=[vI a0,eq (.slice none 0 0),eq v43.1,vI 0]) (css:=[[vI a0],[eq v43.1]]) rfl trivial Tryz.underlying107 pl107 z107 rfl ⟨(cells_one (one_eq rfl)),⟨(cells_one one_ov),trivial⟩⟩ rfl rfl<|Dv.box rfl trivial rfl cA nofun fun b44=>as0 rfl rfl<|as0 rfl rfl<|.fin<|wg (st_nil EKey.K none) fun _ _=>?_
 refine wg (SQue.shut (p:=(⟨.pointer (some ⟨b44,0,none⟩),rfl⟩:OV)) (m:=(⟨a0,([]:List EKey),([]:List (EKey×Edu)),0⟩:SQue)) (b44,nilV,v43) rfl (pm 3 [1,0,2])) fun _ _=>?_
 obtain rfl:=Gets.out H
 exact rt i2 rfl (⟨.pointer (some ⟨b44,0,none⟩),rfl⟩:OV) 1 [0] 0 (.cons (res_tmp rfl) (.cons (res_tmp rfl) .nil))
theorem atomic_Int64_Store.c {b off:Nat} {bT:TypeId} {qs:Cs} {m:Int} (h0:off < qs.length):Tr Tryz.prog 100 [eq (.pointer (some ⟨b,off,none⟩)),vI m] [blk b bT qs] (γ:=Unit) (fun _=>True) (fun _=>tup []) (fun _=>[blk b bT (qs.set off (vI m))]):=by
 exact Tr.body Tryz.func100 (c:=_) rfl Tryz.ntmps100 (Nat.le_of_ble_eq_true rfl) fun R0 F=>WP.reg [(0,false),(1,false),(2,false),(3,false),(4,true)] (by kernel_rfl)<|mv0 rfl rfl<|Dv.nilp rfl trivial rfl<|fb rfl trivial rfl fa171_2<|mv0 rfl rfl<|Dv.cextb (jj:=0) (qs:=qs) rfl trivial rfl (xt_store h0 Tryz.func128 (by kernel_rfl) rfl xf128 xg128) rfl nofun<|.fin<|re rfl () 1 [0] 0 .nil
theorem clock_New.c {a0:Int} {a1:Int} {r:(Option Ctr)×Int} (h:clock_New.f a0 a1 = some r):Tr Tryz.prog 61 [vI a0,vI a1] [] (γ:=OV) (fun _=>True) (fun g=>tup [eq g.1,vI r.2]) (fun g=>[optO Ctr.O g r.1]):=by
 unfold clock_New.f at h
 refine Tr.body Tryz.func61 (c:=_) rfl Tryz.ntmps61 (Nat.le_of_ble_eq_true rfl) fun R0 F=>?_
 replace h:=Gets.of h
 have H:=h
 clear h
 refine WP.seq<|rg 2 0<|as0 rfl rfl<|as0 rfl rfl<|.fin<|WP.seq<|WP.seq<|rg 15 0<|mv0 rfl rfl<|bn0 rfl rfl rfl run_lt<|mv0 rfl rfl ?_
 cases c45:decide (a1 < 1)
 rotate_left
 ·
  have H:=H.ct c45
  refine sk rfl rfl<|sk rfl rfl<|pt0 rfl rfl rfl<|mv0 rfl rfl<|sk rfl rfl<|sk rfl rfl<|pt0 rfl rfl rfl<|mv0 rfl rfl<|sk rfl rfl<|sk rfl rfl<|sk rfl rfl<|pt0 rfl rfl rfl<|.fin<|WP.cond rfl (fun _=>?_) nofun
  refine WP.seq<|rg 2 0<|as0 rfl rfl<|as0 rfl rfl<|.fin<|wg (st_nilP (O:=Ctr.O)) fun _ _=>?_
  obtain rfl:=Gets.out H
  exact rt i2 rfl nilP 1 [0] 0 (.cons (res_tmp rfl) (.cons (res_tmp rfl) .nil))
 have H:=H.cf c45
 refine mvg rfl rfl rfl<|bng rfl rfl rfl rfl run_gt<|pf0 rfl rfl rfl<|mv0 rfl rfl ?_
 cases c47:decide (1099511627776 < a1)
 rotate_left
 ·
  have H:=H.ct c47
  refine sk rfl rfl<|sk rfl rfl<|pt0 rfl rfl rfl<|mv0 rfl rfl<|sk rfl rfl<|sk rfl rfl<|sk rfl rfl<|pt0 rfl rfl rfl<|.fin<|WP.cond rfl (fun _=>?_) nofun
  refine WP.seq<|rg 2 0<|as0 rfl rfl<|as0 rfl rfl<|.fin<|wg (st_nilP (O:=Ctr.O)) fun _ _=>?_
  obtain rfl:=Gets.out H
  exact rt i2 rfl nilP 1 [0] 0 (.cons (res_tmp rfl) (.cons (res_tmp rfl) .nil))
 have H:=H.cf c47
 refine mvg rfl rfl rfl<|bng rfl rfl rfl rfl run_lt<|pf0 rfl rfl rfl<|mv0 rfl rfl ?_
 cases c49:decide (a0 < 0)
 rotate_left
 ·
  have H:=H.ct c49
  refine sk rfl rfl<|sk rfl rfl<|sk rfl rfl<|pt0 rfl rfl rfl<|.fin<|WP.cond rfl (fun _=>?_) nofun
  refine WP.seq<|rg 2 0<|as0 rfl rfl<|as0 rfl rfl<|.fin<|wg (st_nilP (O:=Ctr.O)) fun _ _=>?_
  obtain rfl:=Gets.out H
  exact rt i2 rfl nilP 1 [0] 0 (.cons (res_tmp rfl) (.cons (res_tmp rfl) .nil))
 have H:=H.cf c49
 refine mvg rfl rfl rfl<|mvg rfl rfl rfl<|bng rfl rfl rfl rfl run_gt<|pf0 rfl rfl rfl<|.fin<|cd H rfl (fun _ H=>?_) (fun _ H=>?_)
 ·
  refine WP.seq<|rg 2 0<|as0 rfl rfl<|as0 rfl rfl<|.fin<|wg (st_nilP (O:=Ctr.O)) fun _ _=>?_
  obtain rfl:=Gets.out H
  exact rt i2 rfl nilP 1 [0] 0 (.cons (res_tmp rfl) (.cons (res_tmp rfl) .nil))
 refine WP.skip<|WP.seq<|rg 4 4<|mv0 rfl rfl<|Dv.bld (qs:=[vI 0,vI a1]) (css:=[[vI a1]]) rfl trivial Tryz.underlying173 pl173 z173 rfl ⟨(cells_one (one_eq rfl)),trivial⟩ rfl rfl<|Dv.box rfl trivial rfl cA nofun fun b52=>as0 rfl rfl<|.fin<|WP.seq<|rg 5 16<|mv0 rfl rfl<|Dv.nilp rfl trivial rfl<|fb rfl trivial rfl fa173_0<|mv0 rfl rfl<|cx 1 [0] cal100 (atomic_Int64_Store.c (b:=b52) (off:=0) (bT:=173) (qs:=[vI 0,vI a1]) (m:=a0) (Nat.le_of_ble_eq_true rfl)) nofun fun _ _=>?_
 refine .fin<|WP.seq<|rg 3 0<|mv0 rfl rfl<|as0 rfl rfl<|as0 rfl rfl<|.fin<|wg (Ctr.shut (p:=(⟨.pointer (some ⟨b52,0,none⟩),rfl⟩:OV)) (m:=(⟨(⟨a0⟩:AtI),a1⟩:Ctr)) b52 rfl (pm 1 [0])) fun _ _=>?_
 obtain rfl:=Gets.out H
 exact rt i2 rfl (⟨.pointer (some ⟨b52,0,none⟩),rfl⟩:OV) 1 [0] 0 (.cons (res_tmp rfl) (.cons (res_tmp rfl) .nil))
theorem sender_New.c {k:Nat} {a0:ByteArray} {a1:ByteArray} {a2:Int} {a3:Int} {r:(Option SSnd)×Int} (h:sender_New.f k a0 a1 a2 a3 = some r):Tr Tryz.prog 23 [vS a0,vS a1,vI a2,vI a3] [] (γ:=OV) (fun _=>True) (fun g=>tup [eq g.1,vI r.2]) (fun g=>[optO SSnd.O g r.1]):=by
 unfold sender_New.f at h
 refine Tr.body Tryz.func23 (c:=_) rfl Tryz.ntmps23 (Nat.le_of_ble_eq_true rfl) fun R0 F=>?_
 replace h:=Gets.of h
 have H:=h
 clear h
 refine WP.seq<|rg 2 0<|as0 rfl rfl<|as0 rfl rfl<|.fin<|WP.seq<|WP.seq<|rg 13 0<|mv0 rfl rfl<|el H fun t53 h54 H=>cl rfl cal59 rfl (name_Server.c h54)<|un0 rfl rfl (run_not _)<|mv0 rfl rfl ?_
 rcases bem (!t53) with c55 | c55
 rotate_left
 ·
  have H:=H.ct c55
  refine Dv.gh (gh_sh 15 c55 rfl) (fun _ _=>?_)
  refine Dv.gh (gh_sh 16 c55 rfl) (fun _ _=>?_)
  refine sk rfl rfl<|sk rfl rfl<|sk rfl rfl<|pt0 rfl rfl rfl<|mv0 rfl rfl<|sk rfl rfl<|sk rfl rfl<|sk rfl rfl<|pt0 rfl rfl rfl<|.fin<|WP.cond rfl (fun _=>?_) nofun
  refine WP.seq<|rg 2 0<|as0 rfl rfl<|as0 rfl rfl<|.fin<|wg (st_nilP (O:=SSnd.O)) fun _ _=>?_
  obtain rfl:=Gets.out H
  exact rt i2 rfl nilP 1 [0] 0 (.cons (res_tmp rfl) (.cons (res_tmp rfl) .nil))
 have H:=H.cf c55
 refine Dv.gh (gh_sh 15 c55 rfl) (fun _ _=>?_)
 refine Dv.gh (gh_sh 16 c55 rfl) (fun _ _=>?_)
 refine mvg rfl rfl rfl<|el H fun t57 h58 H=>Dv.call rfl (gg rfl) cal59 rfl (name_Server.c h58)<|ung rfl rfl rfl (run_not _)<|pf0 rfl rfl rfl<|mv0 rfl rfl ?_
 rcases bem (!t57) with c59 | c59
 rotate_left
 ·
  have H:=H.ct c59
  refine Dv.gh (gh_sh 19 c59 rfl) (fun _ _=>?_)
  refine Dv.gh (gh_sh 20 c59 rfl) (fun _ _=>?_)
  refine Dv.gh (gh_sh 21 c59 rfl) (fun _ _=>?_)
  refine sk rfl rfl<|sk rfl rfl<|sk rfl rfl<|pt0 rfl rfl rfl<|.fin<|WP.cond rfl (fun _=>?_) nofun
  refine WP.seq<|rg 2 0<|as0 rfl rfl<|as0 rfl rfl<|.fin<|wg (st_nilP (O:=SSnd.O)) fun _ _=>?_
  obtain rfl:=Gets.out H
  exact rt i2 rfl nilP 1 [0] 0 (.cons (res_tmp rfl) (.cons (res_tmp rfl) .nil))
 have H:=H.cf c59
 refine Dv.gh (gh_sh 19 c59 rfl) (fun _ _=>?_)
 refine Dv.gh (gh_sh 20 c59 rfl) (fun _ _=>?_)
 refine Dv.gh (gh_sh 21 c59 rfl) (fun _ _=>?_)
 refine mvg rfl rfl rfl<|mvg rfl rfl rfl<|bng rfl rfl rfl rfl run_seq<|pf0 rfl rfl rfl<|.fin<|cd H rfl (fun _ H=>?_) (fun _ H=>?_)
 ·
  refine WP.seq<|rg 2 0<|as0 rfl rfl<|as0 rfl rfl<|.fin<|wg (st_nilP (O:=SSnd.O)) fun _ _=>?_
  obtain rfl:=Gets.out H
  exact rt i2 rfl nilP 1 [0] 0 (.cons (res_tmp rfl) (.cons (res_tmp rfl) .nil))
 refine WP.skip<|WP.seq<|rg 7 2<|mv0 rfl rfl<|el H fun t62 h63 H=>cx 0 [] cal60 (queue_New.c h63) nofun fun g64 _=>?_
 refine mv0 rfl rfl<|ex0 rfl trivial rfl rfl<|ex0 rfl trivial rfl rfl<|as0 rfl rfl<|as0 rfl rfl<|.fin<|WP.seq<|WP.seq<|rg 2 0<|mv0 rfl rfl<|bn0 rfl rfl rfl run_ne<|.fin<|cd H rfl (fun _ H=>?_) (fun _ H=>?_)
 ·
  refine WP.seq<|rg 3 0<|mv0 rfl rfl<|as0 rfl rfl<|as0 rfl rfl<|.fin<|wg (st_nilP (O:=SSnd.O)) fun _ _=>?_
  obtain rfl:=Gets.out H
  exact rt i2 rfl nilP 2 [1,0] 1 (.cons (res_tmp rfl) (.cons (res_tmp rfl) .nil))
 refine WP.skip<|WP.seq<|rg 7 2<|mv0 rfl rfl<|el H fun t66 h67 H=>cx 1 [0] cal61 (clock_New.c h67) nofun fun g68 _=>?_
 refine mv0 rfl rfl<|ex0 rfl trivial rfl rfl<|ex0 rfl trivial rfl rfl<|as0 rfl rfl<|as0 rfl rfl<|.fin<|WP.seq<|WP.seq<|rg 2 0<|mv0 rfl rfl<|bn0 rfl rfl rfl run_ne<|.fin<|cd H rfl (fun _ H=>?_) (fun _ H=>?_)
 ·
  refine WP.seq<|rg 3 0<|mv0 rfl rfl<|as0 rfl rfl<|as0 rfl rfl<|.fin<|wg (st_nilP (O:=SSnd.O)) fun _ _=>?_
  obtain rfl:=Gets.out H
  exact rt i2 rfl nilP 3 [1,2,0] 2 (.cons (res_tmp rfl) (.cons (res_tmp rfl) .nil))
 refine WP.skip<|WP.seq<|rg 8 32<|mv0 rfl rfl<|mv0 rfl rfl<|mv0 rfl rfl<|mv0 rfl rfl<|gr H fun g70 H=>vg (opt_some 1 rfl (isN g70)) fun _ _=>?_
 refine gr H fun g71 H=>vg (opt_some 1 rfl (isN g71)) fun _ _=>?_
 refine Dv.bld (qs:=[eq g64.1,vS a0,vS a1,eq g68.1,eq (.pointer none)]) (css:=[[eq g64.1],[vS a0],[vS a1],[eq g68.1]]) rfl trivial Tryz.underlying40 pl40 z40 rfl ⟨(cells_one one_ov),⟨(cells_one (one_eq rfl)),⟨(cells_one (one_eq rfl)),⟨(cells_one one_ov),trivial⟩⟩⟩⟩ rfl rfl<|Dv.box rfl trivial rfl cA nofun fun b72=>as0 rfl rfl<|as0 rfl rfl<|.fin<|wg (st_nilP (O:=Fly.O)) fun _ _=>?_
 refine wg (SSnd.shut (p:=(⟨.pointer (some ⟨b72,0,none⟩),rfl⟩:OV)) (m:=(⟨t62.1.getD default,a0,a1,t66.1.getD default,none⟩:SSnd)) (b72,g64,g68,nilP) rfl (pm 4 [1,3,2,0])) fun _ _=>?_
 obtain rfl:=Gets.out H
 exact rt i2 rfl (⟨.pointer (some ⟨b72,0,none⟩),rfl⟩:OV) 1 [0] 0 (.cons (res_tmp rfl) (.cons (res_tmp rfl) .nil))
theorem w18_begin.c {k:Nat} {a0:Int} {a1:Int} {r:(Option SSnd)} (h:w18_begin.f k a0 a1 = some r):Tr Tryz.prog 9 [vI a0,vI a1] [] (γ:=OV) (fun _=>True) (fun g=>eq g.1) (fun g=>[optO SSnd.O g r]):=by
 unfold w18_begin.f at h
 refine Tr.body Tryz.func9 (c:=_) rfl Tryz.ntmps9 (Nat.le_of_ble_eq_true rfl) fun R0 F=>?_
 replace h:=Gets.of h
 have H:=h
 clear h
 refine WP.seq<|rg 1 0<|as0 rfl rfl<|.fin<|WP.seq<|rg 8 4<|mv0 rfl rfl<|mv0 rfl rfl<|el H fun t73 h74 H=>cx 0 [] cal23 (sender_New.c h74) nofun fun g75 _=>?_
 refine mv0 rfl rfl<|ex0 rfl trivial rfl rfl<|ex0 rfl trivial rfl rfl<|as0 rfl rfl<|as0 rfl rfl<|.fin<|WP.seq<|WP.seq<|rg 6 0<|mv0 rfl rfl<|Dv.oeq0 (fun _=>SSnd.nn) rfl trivial rfl rfl Tryz.underlying24 (mem_at 0 rfl)<|mv0 rfl rfl ?_
 rcases bem t73.1.isNone with c76 | c76
 rotate_left
 ·
  have H:=H.ct c76
  refine Dv.gh (gh_sh 14 c76 rfl) (fun _ _=>?_)
  refine Dv.gh (gh_sh 15 c76 rfl) (fun _ _=>?_)
  refine sk rfl rfl<|sk rfl rfl<|pt0 rfl rfl rfl<|.fin<|WP.cond rfl (fun _=>?_) nofun
  refine WP.seq<|rg 1 0<|as0 rfl rfl<|.fin<|wg (st_nilP (O:=SSnd.O)) fun _ _=>?_
  obtain rfl:=Gets.out H
  exact rt i2 rfl nilP 2 [1,0] 1 (.cons (res_tmp rfl) .nil)
 have H:=H.cf c76
 refine Dv.gh (gh_sh 14 c76 rfl) (fun _ _=>?_)
 refine Dv.gh (gh_sh 15 c76 rfl) (fun _ _=>?_)
 refine mvg rfl rfl rfl<|bng rfl rfl rfl rfl run_ne<|pf0 rfl rfl rfl<|.fin<|cd H rfl (fun _ H=>?_) (fun _ H=>?_)
 ·
  refine WP.seq<|wg (opt_some 0 rfl c76) fun _ _=>?_
  refine rg 1 0<|as0 rfl rfl<|.fin<|wg (st_nilP (O:=SSnd.O)) fun _ _=>?_
  obtain rfl:=Gets.out H
  exact rt i2 rfl nilP 2 [1,0] 1 (.cons (res_tmp rfl) .nil)
 refine WP.skip<|WP.seq<|WP.seq<|wg (opt_some 0 rfl c76) fun _ _=>?_
 refine rg 5 0<|mv0 rfl rfl<|Dv.nilA SSnd.nn rfl trivial rfl (mem_at 0 rfl)<|vg (SSnd.opn 0 rfl) fun g79 h80=>?_
 refine fp h80 rfl trivial rfl fa40_0<|ld 0 rfl trivial rfl sc36 rfl rfl<|Dv.peq0 SQue.nn rfl trivial rfl rfl Tryz.underlying36 (mem_at 1 rfl)<|.fin<|WP.cond rfl nofun (fun _=>?_)
 refine WP.skip<|WP.seq<|rg 2 0<|mv0 rfl rfl<|as0 rfl rfl<|.fin<|wg (SSnd.shut (p:=g75) (m:=t73.1.getD default) (g79.1,g79.2.1,g79.2.2.1,g79.2.2.2) h80 (pm 4 [0,1,2,3])) fun _ _=>?_
 obtain rfl:=Gets.out H
 exact rt i2 rfl g75 1 [0] 0 (.cons (res_tmp rfl) .nil)
theorem view_New.c {r:VView} (h:view_New.f = some r):Tr Tryz.prog 10 [] [] (γ:=OV) (fun _=>True) (fun g=>eq g.1) (fun g=>[VView.O g r]):=by
 unfold view_New.f at h
 refine Tr.body Tryz.func10 (c:=_) rfl Tryz.ntmps10 (Nat.le_of_ble_eq_true rfl) fun R0 F=>?_
 replace h:=Gets.of h
 have H:=h
 clear h
 refine WP.seq<|rg 1 0<|as0 rfl rfl<|.fin<|WP.seq<|rg 4 5<|Dv.mmk Value.string (fun p:OV=>eq p.1) rfl trivial nofun (fun v82=>?_)
 refine vg (mpo_new DDag.O) fun _ _=>?_
 refine Dv.bld (qs:=[eq v82.1]) (css:=[[eq v82.1]]) rfl trivial Tryz.underlying95 pl95 z95 rfl ⟨(cells_one one_ov),trivial⟩ rfl rfl<|Dv.box rfl trivial rfl cA nofun fun b83=>as0 rfl rfl<|.fin<|wg (VView.shut (p:=(⟨.pointer (some ⟨b83,0,none⟩),rfl⟩:OV)) (m:=(⟨([]:List (ByteArray×DDag))⟩:VView)) (b83,v82) rfl (pm 2 [0,1])) fun _ _=>?_
 obtain rfl:=Gets.out H
 exact rt i2 rfl (⟨.pointer (some ⟨b83,0,none⟩),rfl⟩:OV) 1 [0] 0 (.cons (res_tmp rfl) .nil)
theorem r01_Around.c {a0:Int} {a1:Int} {r:Int} (h:r01_Around.f a0 a1 = some r):Pt Tryz.prog 12 [vI a0,vI a1] (vI r):=by
 unfold r01_Around.f at h
 refine pb Tryz.func12 Tryz.ntmps12 h fun R0 F H=>?_
 refine WP.seq<|rg 1 0<|as0 rfl rfl<|.fin<|WP.seq<|WP.seq<|rg 2 0<|mv0 rfl rfl<|bn0 rfl rfl rfl run_lt<|.fin<|cd H rfl (fun _ H=>?_) (fun _ H=>?_)
 rotate_left
 ·
  refine WP.skip<|WP.seq<|rg 4 0<|mv0 rfl rfl<|mv0 rfl rfl<|gr H fun g86 H=>bn0 rfl rfl rfl (run_rem g86)<|as0 rfl rfl<|.fin ?_
  cases H.out; exact r0 i2 rfl (.cons (res_tmp rfl) .nil)
 refine rg 4 0<|mv0 rfl rfl<|bn0 rfl rfl rfl run_add<|un0 rfl rfl (run_neg _ _)<|as0 rfl rfl<|.fin<|WP.seq<|rg 4 0<|mv0 rfl rfl<|mv0 rfl rfl<|gr H fun g85 H=>bn0 rfl rfl rfl (run_rem g85)<|as0 rfl rfl<|.fin ?_
 cases H.out; exact r0 i2 rfl (.cons (res_tmp rfl) .nil)
theorem r01_RoomOf.c {a0:Int} {r:ByteArray} (h:r01_RoomOf.f a0 = some r):Pt Tryz.prog 26 [vI a0] (vS r):=by
 unfold r01_RoomOf.f at h
 refine pb Tryz.func26 Tryz.ntmps26 h fun R0 F H=>?_
 refine WP.seq<|rg 1 0<|as0 rfl rfl<|.fin<|WP.seq<|rg 6 0<|Dv.lit strK ([(⟨#[33,114,58,115,49]⟩:ByteArray),(⟨#[33,113,58,115,50]⟩:ByteArray)]:List ByteArray) (css:=[[vS (⟨#[33,114,58,115,49]⟩:ByteArray)],[vS (⟨#[33,113,58,115,50]⟩:ByteArray)]]) rfl trivial Tryz.underlying53 Tryz.underlying9 c9 z9 rfl (by decide) (by decide) rfl ⟨(cells_one (one_eq rfl)),⟨(cells_one (one_eq rfl)),trivial⟩⟩ rfl rfl rfl<|mv0 rfl rfl<|el H fun t87 h88 H=>cl rfl cal12 rfl (r01_Around.c h88)<|gr H fun g89 H=>Dv.ixr rfl trivial rfl rfl Tryz.underlying53 Tryz.underlying9 c9 g89.1 g89.2<|ldR rfl trivial rfl sc9 rfl<|as0 rfl rfl<|.fin ?_
 cases H.out; exact r0 i2 rfl (.cons (res_tmp rfl) .nil)
theorem r01_ServerOf.c {a0:Int} {r:ByteArray} (h:r01_ServerOf.f a0 = some r):Pt Tryz.prog 65 [vI a0] (vS r):=by
 unfold r01_ServerOf.f at h
 refine pb Tryz.func65 Tryz.ntmps65 h fun R0 F H=>?_
 refine WP.seq<|rg 1 0<|as0 rfl rfl<|.fin<|WP.seq<|rg 6 0<|Dv.lit strK ([(⟨#[115,49]⟩:ByteArray),(⟨#[115,50]⟩:ByteArray),(⟨#[115,51]⟩:ByteArray)]:List ByteArray) (css:=[[vS (⟨#[115,49]⟩:ByteArray)],[vS (⟨#[115,50]⟩:ByteArray)],[vS (⟨#[115,51]⟩:ByteArray)]]) rfl trivial Tryz.underlying53 Tryz.underlying9 c9 z9 rfl (by decide) (by decide) rfl ⟨(cells_one (one_eq rfl)),⟨(cells_one (one_eq rfl)),⟨(cells_one (one_eq rfl)),trivial⟩⟩⟩ rfl rfl rfl<|mv0 rfl rfl<|el H fun t90 h91 H=>cl rfl cal12 rfl (r01_Around.c h91)<|gr H fun g92 H=>Dv.ixr rfl trivial rfl rfl Tryz.underlying53 Tryz.underlying9 c9 g92.1 g92.2<|ldR rfl trivial rfl sc9 rfl<|as0 rfl rfl<|.fin ?_
 cases H.out; exact r0 i2 rfl (.cons (res_tmp rfl) .nil)
theorem r01_UserOf.c {a0:Int} {r:ByteArray} (h:r01_UserOf.f a0 = some r):Pt Tryz.prog 27 [vI a0] (vS r):=by
 unfold r01_UserOf.f at h
 refine pb Tryz.func27 Tryz.ntmps27 h fun R0 F H=>?_
 refine WP.seq<|rg 1 0<|as0 rfl rfl<|.fin<|WP.seq<|rg 3 0<|mv0 rfl rfl<|el H fun t93 h94 H=>cl rfl cal12 rfl (r01_Around.c h94)<|as0 rfl rfl<|.fin<|WP.seq<|dg Tryz.checked.mixed 10 0<|Dv.lit strK ([(⟨#[64,97,58]⟩:ByteArray),(⟨#[64,98,58]⟩:ByteArray),(⟨#[64,99,58]⟩:ByteArray)]:List ByteArray) (css:=[[vS (⟨#[64,97,58]⟩:ByteArray)],[vS (⟨#[64,98,58]⟩:ByteArray)],[vS (⟨#[64,99,58]⟩:ByteArray)]]) rfl trivial Tryz.underlying53 Tryz.underlying9 c9 z9 rfl (by decide) (by decide) rfl ⟨(cells_one (one_eq rfl)),⟨(cells_one (one_eq rfl)),⟨(cells_one (one_eq rfl)),trivial⟩⟩⟩ rfl rfl rfl<|mv0 rfl rfl<|bn0 rfl rfl rfl (run_quo (by decide))<|gr H fun g95 H=>Dv.ixr rfl trivial rfl rfl Tryz.underlying53 Tryz.underlying9 c9 g95.1 g95.2<|ldR rfl trivial rfl sc9 rfl<|mv0 rfl rfl<|bn0 rfl rfl rfl (run_rem (by decide))<|el H fun t96 h97 H=>cl rfl cal65 rfl (r01_ServerOf.c h97)<|gr H fun g98 H=>bn0 rfl rfl rfl (run_cat g98)<|as0 rfl rfl<|.fin ?_
 cases H.out; exact r0 i2 rfl (.cons (res_tmp rfl) .nil)
theorem r01_low.c {a0:Int} {r:Bool} (h:r01_low.f a0 = some r):Pt Tryz.prog 62 [eq (.int .u8 a0)] (vB r):=by
 unfold r01_low.f at h
 refine pb Tryz.func62 Tryz.ntmps62 h fun R0 F H=>?_
 refine WP.seq<|rg 1 0<|as0 rfl rfl<|.fin<|WP.seq<|rg 15 0<|mv0 rfl rfl<|bn0 rfl rfl rfl run_ge<|mv0 rfl rfl ?_
 cases c99:decide (97≤a0)
 ·
  have H:=H.cf c99
  refine sk rfl rfl<|sk rfl rfl<|pf0 rfl rfl rfl<|mv0 rfl rfl<|mvg rfl rfl rfl<|bng rfl rfl rfl rfl run_ge<|mvg rfl rfl rfl ?_
  cases c102:decide (48≤a0)
  ·
   have H:=H.cf c102
   refine sk rfl rfl<|sk rfl rfl<|pfg rfl rfl rfl rfl<|pf0 rfl rfl rfl<|as0 rfl rfl<|.fin ?_
   cases H.out; exact r0 i2 rfl (.cons (res_tmp rfl) .nil)
  have H:=H.ct c102
  refine mvg rfl rfl rfl<|bng rfl rfl rfl rfl run_le<|ptg rfl rfl rfl rfl<|pf0 rfl rfl rfl<|as0 rfl rfl<|.fin ?_
  cases H.out; exact r0 i2 rfl (.cons (res_tmp rfl) .nil)
 have H:=H.ct c99
 refine mvg rfl rfl rfl<|bng rfl rfl rfl rfl run_le<|pt0 rfl rfl rfl<|mv0 rfl rfl ?_
 cases c100:decide (a0≤122)
 rotate_left
 ·
  have H:=H.ct c100
  refine sk rfl rfl<|sk rfl rfl<|sk rfl rfl<|sku rfl rfl<|sku rfl rfl<|sk rfl rfl<|pt0 rfl rfl rfl<|as0 rfl rfl<|.fin ?_
  cases H.out; exact r0 i2 rfl (.cons (res_tmp rfl) .nil)
 have H:=H.cf c100
 refine mvg rfl rfl rfl<|bng rfl rfl rfl rfl run_ge<|mvg rfl rfl rfl ?_
 cases c101:decide (48≤a0)
 ·
  have H:=H.cf c101
  refine sk rfl rfl<|sk rfl rfl<|pfg rfl rfl rfl rfl<|pf0 rfl rfl rfl<|as0 rfl rfl<|.fin ?_
  cases H.out; exact r0 i2 rfl (.cons (res_tmp rfl) .nil)
 have H:=H.ct c101
 refine mvg rfl rfl rfl<|bng rfl rfl rfl rfl run_le<|ptg rfl rfl rfl rfl<|pf0 rfl rfl rfl<|as0 rfl rfl<|.fin ?_
 cases H.out; exact r0 i2 rfl (.cons (res_tmp rfl) .nil)
theorem r01_Event.c {k:Nat} {a0:ByteArray} {r:Bool} (h:r01_Event.f k a0 = some r):Pt Tryz.prog 125 [vS a0] (vB r):=by
 unfold r01_Event.f at h
 refine pb Tryz.func125 Tryz.ntmps125 h fun R0 F H=>?_
 refine WP.seq<|rg 1 0<|as0 rfl rfl<|.fin<|WP.seq<|WP.seq<|rg 13 0<|mv0 rfl rfl<|Dv.lens rfl trivial rfl Tryz.underlying9<|bn0 rfl rfl rfl run_lt<|mv0 rfl rfl ?_
 cases c103:decide ((a0.size:Int) < 2)
 rotate_left
 ·
  have H:=H.ct c103
  refine sk rfl rfl<|sk rfl rfl<|sk rfl rfl<|pt0 rfl rfl rfl<|mv0 rfl rfl<|sk rfl rfl<|sk rfl rfl<|sk rfl rfl<|pt0 rfl rfl rfl<|.fin<|WP.cond rfl (fun _=>?_) nofun
  refine WP.seq<|rg 1 0<|as0 rfl rfl<|.fin ?_
  cases H.out; exact r0 i2 rfl (.cons (res_tmp rfl) .nil)
 have H:=H.cf c103
 refine mvg rfl rfl rfl<|Dv.lens rfl (gg rfl) rfl Tryz.underlying9<|bng rfl rfl rfl rfl run_gt<|pf0 rfl rfl rfl<|mv0 rfl rfl ?_
 cases c105:decide (17 < (a0.size:Int))
 rotate_left
 ·
  have H:=H.ct c105
  refine sk rfl rfl<|sk rfl rfl<|sk rfl rfl<|pt0 rfl rfl rfl<|.fin<|WP.cond rfl (fun _=>?_) nofun
  refine WP.seq<|rg 1 0<|as0 rfl rfl<|.fin ?_
  cases H.out; exact r0 i2 rfl (.cons (res_tmp rfl) .nil)
 have H:=H.cf c105
 refine mvg rfl rfl rfl<|gr H fun g107 H=>Dv.ixs rfl (gg rfl) rfl rfl Tryz.underlying9 g107.1 g107.2<|bng rfl rfl rfl rfl run_ne<|pf0 rfl rfl rfl<|.fin<|cd H rfl (fun _ H=>?_) (fun _ H=>?_)
 ·
  refine WP.seq<|rg 1 0<|as0 rfl rfl<|.fin ?_
  cases H.out; exact r0 i2 rfl (.cons (res_tmp rfl) .nil)
 refine WP.skip<|WP.seqr H id (fun p109:Int×Bool=>[(0,vS a0),(2,vB false),(3,vI p109.1),(18,vB ((bt a0 0) != 36)),(22,vB p109.2)]) (fun p109:Int×Bool=>F) (fun p109 H=>?_) (fun H=>?_)
 ·
  refine WP.seq<|rg 1 0<|as0 rfl rfl<|.fin ?_
  cases H.out; exact r0 i2 rfl (.cons (res_tmp rfl) .nil)
 refine WP.seq<|rg 1 0<|as0 rfl rfl<|.fin<|WP.block<|wg (sg 0 [] 0) fun _ _=>?_
 refine lp (fun j_ (p135:Int)=>r01_Event.l0 k a0 j_ p135) 1 H (fun p135=>[(0,vS a0),(2,vB false),(3,vI p135),(18,vB ((bt a0 0) != 36))]) (fun p135=>F) ?_
 rintro j_ x110 H
 rcases j_ with _ | j134
 ·
  exact (Gets.no H).elim
 replace H:Gets (r01_Event.l0 k a0 (j134 + 1) x110) _:=H
 rw [r01_Event.l0] at H
 refine WP.seq<|WP.seq<|rg 4 0<|mv0 rfl rfl<|mv0 rfl rfl<|Dv.lens rfl trivial rfl Tryz.underlying9<|bn0 rfl rfl rfl run_lt<|.fin<|cd H rfl (fun _ H=>?_) (fun _ H=>?_)
 rotate_left
 ·
  refine WP.exit ?_
  have H:=H.out
  exact jn (x110,decide (x110 < (a0.size:Int))) H
 refine WP.skip<|WP.seq<|WP.block<|WP.seq<|rg 5 0<|mv0 rfl rfl<|mv0 rfl rfl<|gr H fun g112 H=>Dv.ixs rfl trivial rfl rfl Tryz.underlying9 g112.1 g112.2<|el H fun t113 h114 H=>cl rfl cal62 rfl (r01_low.c h114)<|as0 rfl rfl<|.fin<|WP.seq<|rg 11 0<|mv0 rfl rfl<|mv0 rfl rfl<|gr H fun g115 H=>Dv.ixs rfl trivial rfl rfl Tryz.underlying9 g115.1 g115.2<|bn0 rfl rfl rfl run_ge<|mv0 rfl rfl ?_
 cases c116:decide (65≤(bt a0 x110))
 ·
  have H:=H.cf c116
  refine sk rfl rfl<|sk rfl rfl<|sk rfl rfl<|sk rfl rfl<|pf0 rfl rfl rfl<|as0 rfl rfl<|.fin<|WP.seq<|rg 18 0<|mv0 rfl rfl<|un0 rfl rfl (run_not _)<|mv0 rfl rfl ?_
  cases c127:!t113
  ·
   have H:=H.cf c127
   refine sk rfl rfl<|sk rfl rfl<|pf0 rfl rfl rfl<|mv0 rfl rfl<|sk rfl rfl<|sk rfl rfl<|sk rfl rfl<|sk rfl rfl<|pf0 rfl rfl rfl<|mv0 rfl rfl<|sk rfl rfl<|sk rfl rfl<|sk rfl rfl<|sk rfl rfl<|pf0 rfl rfl rfl<|.fin<|WP.cond rfl nofun (fun _=>?_)
   exact WP.skip<|rg 3 0<|mv0 rfl rfl<|bn0 rfl rfl rfl run_add<|as0 rfl rfl<|.fin<|bk j134 (w64 (x110 + 1)) H
  have H:=H.ct c127
  refine mvg rfl rfl rfl<|ung rfl rfl rfl (run_not _)<|pt0 rfl rfl rfl<|mv0 rfl rfl<|mvg rfl rfl rfl<|mvg rfl rfl rfl<|gr H fun g128 H=>Dv.ixs rfl (gg rfl) rfl rfl Tryz.underlying9 g128.1 g128.2<|bng rfl rfl rfl rfl run_ne<|pt0 rfl rfl rfl<|mv0 rfl rfl ?_
  cases c129:((bt a0 x110) != 45)
  ·
   have H:=H.cf c129
   refine sk rfl rfl<|sk rfl rfl<|sk rfl rfl<|sk rfl rfl<|pf0 rfl rfl rfl<|.fin<|WP.cond rfl nofun (fun _=>?_)
   exact WP.skip<|rg 3 0<|mv0 rfl rfl<|bn0 rfl rfl rfl run_add<|as0 rfl rfl<|.fin<|bk j134 (w64 (x110 + 1)) H
  have H:=H.ct c129
  refine mvg rfl rfl rfl<|mvg rfl rfl rfl<|gr H fun g130 H=>Dv.ixs rfl (gg rfl) rfl rfl Tryz.underlying9 g130.1 g130.2<|bng rfl rfl rfl rfl run_ne<|pt0 rfl rfl rfl<|.fin<|cd H rfl (fun _ H=>?_) (fun _ H=>?_)
  rotate_left
  ·
   exact WP.skip<|rg 3 0<|mv0 rfl rfl<|bn0 rfl rfl rfl run_add<|as0 rfl rfl<|.fin<|bk j134 (w64 (x110 + 1)) H
  refine WP.seq<|rg 1 0<|as0 rfl rfl<|.fin ?_
  have H:=H.outr
  cases H.out; exact r0 i2 rfl (.cons (res_tmp rfl) .nil)
 have H:=H.ct c116
 refine mvg rfl rfl rfl<|mvg rfl rfl rfl<|gr H fun g117 H=>Dv.ixs rfl (gg rfl) rfl rfl Tryz.underlying9 g117.1 g117.2<|bng rfl rfl rfl rfl run_le<|pt0 rfl rfl rfl<|as0 rfl rfl<|.fin<|WP.seq<|rg 18 0<|mv0 rfl rfl<|un0 rfl rfl (run_not _)<|mv0 rfl rfl ?_
 cases c118:!t113
 ·
  have H:=H.cf c118
  refine sk rfl rfl<|sk rfl rfl<|pf0 rfl rfl rfl<|mv0 rfl rfl<|sk rfl rfl<|sk rfl rfl<|sk rfl rfl<|sk rfl rfl<|pf0 rfl rfl rfl<|mv0 rfl rfl<|sk rfl rfl<|sk rfl rfl<|sk rfl rfl<|sk rfl rfl<|pf0 rfl rfl rfl<|.fin<|WP.cond rfl nofun (fun _=>?_)
  exact WP.skip<|rg 3 0<|mv0 rfl rfl<|bn0 rfl rfl rfl run_add<|as0 rfl rfl<|.fin<|bk j134 (w64 (x110 + 1)) H
 have H:=H.ct c118
 refine mvg rfl rfl rfl<|ung rfl rfl rfl (run_not _)<|pt0 rfl rfl rfl<|mv0 rfl rfl ?_
 cases c119:!(decide ((bt a0 x110)≤90))
 ·
  have H:=H.cf c119
  refine sk rfl rfl<|sk rfl rfl<|sk rfl rfl<|sk rfl rfl<|pf0 rfl rfl rfl<|mv0 rfl rfl<|sk rfl rfl<|sk rfl rfl<|sk rfl rfl<|sk rfl rfl<|pf0 rfl rfl rfl<|.fin<|WP.cond rfl nofun (fun _=>?_)
  exact WP.skip<|rg 3 0<|mv0 rfl rfl<|bn0 rfl rfl rfl run_add<|as0 rfl rfl<|.fin<|bk j134 (w64 (x110 + 1)) H
 have H:=H.ct c119
 refine mvg rfl rfl rfl<|mvg rfl rfl rfl<|gr H fun g120 H=>Dv.ixs rfl (gg rfl) rfl rfl Tryz.underlying9 g120.1 g120.2<|bng rfl rfl rfl rfl run_ne<|pt0 rfl rfl rfl<|mv0 rfl rfl ?_
 cases c121:((bt a0 x110) != 45)
 ·
  have H:=H.cf c121
  refine sk rfl rfl<|sk rfl rfl<|sk rfl rfl<|sk rfl rfl<|pf0 rfl rfl rfl<|.fin<|WP.cond rfl nofun (fun _=>?_)
  exact WP.skip<|rg 3 0<|mv0 rfl rfl<|bn0 rfl rfl rfl run_add<|as0 rfl rfl<|.fin<|bk j134 (w64 (x110 + 1)) H
 have H:=H.ct c121
 refine mvg rfl rfl rfl<|mvg rfl rfl rfl<|gr H fun g122 H=>Dv.ixs rfl (gg rfl) rfl rfl Tryz.underlying9 g122.1 g122.2<|bng rfl rfl rfl rfl run_ne<|pt0 rfl rfl rfl<|.fin<|cd H rfl (fun _ H=>?_) (fun _ H=>?_)
 rotate_left
 ·
  exact WP.skip<|rg 3 0<|mv0 rfl rfl<|bn0 rfl rfl rfl run_add<|as0 rfl rfl<|.fin<|bk j134 (w64 (x110 + 1)) H
 refine WP.seq<|rg 1 0<|as0 rfl rfl<|.fin ?_
 have H:=H.outr
 cases H.out; exact r0 i2 rfl (.cons (res_tmp rfl) .nil)
theorem r01_Server.c {k:Nat} {a0:ByteArray} {r:Bool} (h:r01_Server.f k a0 = some r):Pt Tryz.prog 24 [vS a0] (vB r):=by
 unfold r01_Server.f at h
 refine pb Tryz.func24 Tryz.ntmps24 h fun R0 F H=>?_
 refine WP.seq<|rg 1 0<|as0 rfl rfl<|.fin<|WP.seqr H id (fun p136:Int×Bool=>[(0,vS a0),(2,vB false),(3,vI p136.1),(9,vB p136.2)]) (fun p136:Int×Bool=>F) (fun p136 H=>?_) (fun H=>?_)
 ·
  refine WP.seq<|rg 9 0<|mv0 rfl rfl<|Dv.lens rfl trivial rfl Tryz.underlying9<|bn0 rfl rfl rfl run_gt<|mv0 rfl rfl ?_
  cases c137:decide (0 < (a0.size:Int))
  ·
   have H:=H.cf c137
   refine sk rfl rfl<|sk rfl rfl<|sk rfl rfl<|pf0 rfl rfl rfl<|as0 rfl rfl<|.fin ?_
   cases H.out; exact r0 i2 rfl (.cons (res_tmp rfl) .nil)
  have H:=H.ct c137
  refine mvg rfl rfl rfl<|Dv.lens rfl (gg rfl) rfl Tryz.underlying9<|bng rfl rfl rfl rfl run_lt<|pt0 rfl rfl rfl<|as0 rfl rfl<|.fin ?_
  cases H.out; exact r0 i2 rfl (.cons (res_tmp rfl) .nil)
 refine WP.seq<|rg 1 0<|as0 rfl rfl<|.fin<|WP.block<|wg (sg 0 [] 0) fun _ _=>?_
 refine lp (fun j_ (p161:Int)=>r01_Server.l0 k a0 j_ p161) 0 H (fun p161=>[(0,vS a0),(2,vB false),(3,vI p161)]) (fun p161=>F) ?_
 rintro j_ x138 H
 rcases j_ with _ | j160
 ·
  exact (Gets.no H).elim
 replace H:Gets (r01_Server.l0 k a0 (j160 + 1) x138) _:=H
 rw [r01_Server.l0] at H
 refine WP.seq<|WP.seq<|rg 4 0<|mv0 rfl rfl<|mv0 rfl rfl<|Dv.lens rfl trivial rfl Tryz.underlying9<|bn0 rfl rfl rfl run_lt<|.fin<|cd H rfl (fun _ H=>?_) (fun _ H=>?_)
 rotate_left
 ·
  refine WP.exit ?_
  have H:=H.out
  exact jn (x138,decide (x138 < (a0.size:Int))) H
 refine WP.skip<|WP.seq<|WP.block<|WP.seq<|rg 5 0<|mv0 rfl rfl<|mv0 rfl rfl<|gr H fun g140 H=>Dv.ixs rfl trivial rfl rfl Tryz.underlying9 g140.1 g140.2<|el H fun t141 h142 H=>cl rfl cal62 rfl (r01_low.c h142)<|as0 rfl rfl<|.fin<|WP.seq<|rg 22 0<|mv0 rfl rfl<|bn0 rfl rfl rfl run_gt<|mv0 rfl rfl ?_
 cases c143:decide (0 < x138)
 ·
  have H:=H.cf c143
  refine sk rfl rfl<|sk rfl rfl<|sk rfl rfl<|sk rfl rfl<|sk rfl rfl<|pf0 rfl rfl rfl<|mv0 rfl rfl<|sk rfl rfl<|sk rfl rfl<|sk rfl rfl<|sk rfl rfl<|sk rfl rfl<|sku rfl rfl<|sku rfl rfl<|sku rfl rfl<|sku rfl rfl<|sk rfl rfl<|pf0 rfl rfl rfl<|as0 rfl rfl<|.fin<|WP.seq<|rg 6 0<|mv0 rfl rfl<|un0 rfl rfl (run_not _)<|mv0 rfl rfl ?_
  cases c157:!t141
  ·
   have H:=H.cf c157
   refine sk rfl rfl<|sk rfl rfl<|pf0 rfl rfl rfl<|.fin<|WP.cond rfl nofun (fun _=>?_)
   exact WP.skip<|rg 3 0<|mv0 rfl rfl<|bn0 rfl rfl rfl run_add<|as0 rfl rfl<|.fin<|bk j160 (w64 (x138 + 1)) H
  have H:=H.ct c157
  refine mvg rfl rfl rfl<|ung rfl rfl rfl (run_not _)<|pt0 rfl rfl rfl<|.fin<|WP.cond rfl (fun _=>?_) nofun
  refine WP.seq<|rg 1 0<|as0 rfl rfl<|.fin ?_
  have H:=H.outr
  cases H.out; exact r0 i2 rfl (.cons (res_tmp rfl) .nil)
 have H:=H.ct c143
 refine mvg rfl rfl rfl<|mvg rfl rfl rfl<|Dv.lens rfl (gg rfl) rfl Tryz.underlying9<|bng rfl rfl rfl rfl run_sub<|bng rfl rfl rfl rfl run_lt<|pt0 rfl rfl rfl<|mv0 rfl rfl ?_
 cases c144:decide (x138 < (w64 ((a0.size:Int) - 1)))
 ·
  have H:=H.cf c144
  refine sk rfl rfl<|sk rfl rfl<|sk rfl rfl<|sk rfl rfl<|sk rfl rfl<|sku rfl rfl<|sku rfl rfl<|sku rfl rfl<|sku rfl rfl<|sk rfl rfl<|pf0 rfl rfl rfl<|as0 rfl rfl<|.fin<|WP.seq<|rg 6 0<|mv0 rfl rfl<|un0 rfl rfl (run_not _)<|mv0 rfl rfl ?_
  cases c154:!t141
  ·
   have H:=H.cf c154
   refine sk rfl rfl<|sk rfl rfl<|pf0 rfl rfl rfl<|.fin<|WP.cond rfl nofun (fun _=>?_)
   exact WP.skip<|rg 3 0<|mv0 rfl rfl<|bn0 rfl rfl rfl run_add<|as0 rfl rfl<|.fin<|bk j160 (w64 (x138 + 1)) H
  have H:=H.ct c154
  refine mvg rfl rfl rfl<|ung rfl rfl rfl (run_not _)<|pt0 rfl rfl rfl<|.fin<|WP.cond rfl (fun _=>?_) nofun
  refine WP.seq<|rg 1 0<|as0 rfl rfl<|.fin ?_
  have H:=H.outr
  cases H.out; exact r0 i2 rfl (.cons (res_tmp rfl) .nil)
 have H:=H.ct c144
 refine mvg rfl rfl rfl<|mvg rfl rfl rfl<|gr H fun g145 H=>Dv.ixs rfl (gg rfl) rfl rfl Tryz.underlying9 g145.1 g145.2<|bng rfl rfl rfl rfl run_eq<|mvg rfl rfl rfl ?_
 cases c146:((bt a0 x138) == 46)
 rotate_left
 ·
  have H:=H.ct c146
  refine sk rfl rfl<|sk rfl rfl<|sk rfl rfl<|sk rfl rfl<|ptg rfl rfl rfl rfl<|pt0 rfl rfl rfl<|as0 rfl rfl<|.fin<|WP.seq<|rg 6 0<|mv0 rfl rfl<|un0 rfl rfl (run_not _)<|mv0 rfl rfl ?_
  cases c147:!t141
  ·
   have H:=H.cf c147
   refine sk rfl rfl<|sk rfl rfl<|pf0 rfl rfl rfl<|.fin<|WP.cond rfl nofun (fun _=>?_)
   exact WP.skip<|rg 3 0<|mv0 rfl rfl<|bn0 rfl rfl rfl run_add<|as0 rfl rfl<|.fin<|bk j160 (w64 (x138 + 1)) H
  have H:=H.ct c147
  refine mvg rfl rfl rfl<|ung rfl rfl rfl (run_not _)<|pt0 rfl rfl rfl<|.fin<|WP.cond rfl nofun (fun _=>?_)
  exact WP.skip<|rg 3 0<|mv0 rfl rfl<|bn0 rfl rfl rfl run_add<|as0 rfl rfl<|.fin<|bk j160 (w64 (x138 + 1)) H
 have H:=H.cf c146
 refine mvg rfl rfl rfl<|mvg rfl rfl rfl<|gr H fun g150 H=>Dv.ixs rfl (gg rfl) rfl rfl Tryz.underlying9 g150.1 g150.2<|bng rfl rfl rfl rfl run_eq<|pfg rfl rfl rfl rfl<|pt0 rfl rfl rfl<|as0 rfl rfl<|.fin<|WP.seq<|rg 6 0<|mv0 rfl rfl<|un0 rfl rfl (run_not _)<|mv0 rfl rfl ?_
 cases c151:!t141
 ·
  have H:=H.cf c151
  refine sk rfl rfl<|sk rfl rfl<|pf0 rfl rfl rfl<|.fin<|WP.cond rfl nofun (fun _=>?_)
  exact WP.skip<|rg 3 0<|mv0 rfl rfl<|bn0 rfl rfl rfl run_add<|as0 rfl rfl<|.fin<|bk j160 (w64 (x138 + 1)) H
 have H:=H.ct c151
 refine mvg rfl rfl rfl<|ung rfl rfl rfl (run_not _)<|pt0 rfl rfl rfl<|.fin<|cd H rfl (fun _ H=>?_) (fun _ H=>?_)
 rotate_left
 ·
  exact WP.skip<|rg 3 0<|mv0 rfl rfl<|bn0 rfl rfl rfl run_add<|as0 rfl rfl<|.fin<|bk j160 (w64 (x138 + 1)) H
 refine WP.seq<|rg 1 0<|as0 rfl rfl<|.fin ?_
 have H:=H.outr
 cases H.out; exact r0 i2 rfl (.cons (res_tmp rfl) .nil)
theorem r01_colon.c {k:Nat} {a0:ByteArray} {r:Int} (h:r01_colon.f k a0 = some r):Pt Tryz.prog 153 [vS a0] (vI r):=by
 unfold r01_colon.f at h
 refine pb Tryz.func153 Tryz.ntmps153 h fun R0 F H=>?_
 refine WP.seq<|rg 1 0<|as0 rfl rfl<|.fin<|WP.seqr H id (fun p162:Int×Bool=>[(0,vS a0),(2,vI 0),(3,vI p162.1),(7,vB p162.2)]) (fun p162:Int×Bool=>F) (fun p162 H=>?_) (fun H=>?_)
 ·
  refine WP.seq<|rg 1 0<|as0 rfl rfl<|.fin ?_
  cases H.out; exact r0 i2 rfl (.cons (res_tmp rfl) .nil)
 refine WP.seq<|rg 1 0<|as0 rfl rfl<|.fin<|WP.block<|wg (sg 0 [] 0) fun _ _=>?_
 refine lp (fun j_ (p168:Int)=>r01_colon.l0 k a0 j_ p168) 0 H (fun p168=>[(0,vS a0),(2,vI 0),(3,vI p168)]) (fun p168=>F) ?_
 rintro j_ x163 H
 rcases j_ with _ | j167
 ·
  exact (Gets.no H).elim
 replace H:Gets (r01_colon.l0 k a0 (j167 + 1) x163) _:=H
 rw [r01_colon.l0] at H
 refine WP.seq<|WP.seq<|rg 4 0<|mv0 rfl rfl<|mv0 rfl rfl<|Dv.lens rfl trivial rfl Tryz.underlying9<|bn0 rfl rfl rfl run_lt<|.fin<|cd H rfl (fun _ H=>?_) (fun _ H=>?_)
 rotate_left
 ·
  refine WP.exit ?_
  have H:=H.out
  exact jn (x163,decide (x163 < (a0.size:Int))) H
 refine WP.skip<|WP.seq<|WP.block<|WP.seq<|rg 4 0<|mv0 rfl rfl<|mv0 rfl rfl<|gr H fun g165 H=>Dv.ixs rfl trivial rfl rfl Tryz.underlying9 g165.1 g165.2<|bn0 rfl rfl rfl run_eq<|.fin<|cd H rfl (fun _ H=>?_) (fun _ H=>?_)
 rotate_left
 ·
  exact WP.skip<|rg 3 0<|mv0 rfl rfl<|bn0 rfl rfl rfl run_add<|as0 rfl rfl<|.fin<|bk j167 (w64 (x163 + 1)) H
 refine WP.seq<|rg 2 0<|mv0 rfl rfl<|as0 rfl rfl<|.fin ?_
 have H:=H.outr
 cases H.out; exact r0 i2 rfl (.cons (res_tmp rfl) .nil)
theorem r01_Part.c {k:Nat} {a0:ByteArray} {r:Bool} (h:r01_Part.f k a0 = some r):Pt Tryz.prog 154 [vS a0] (vB r):=by
 unfold r01_Part.f at h
 refine pb Tryz.func154 Tryz.ntmps154 h fun R0 F H=>?_
 refine WP.seq<|rg 1 0<|as0 rfl rfl<|.fin<|WP.seqr H id (fun p169:Int×Bool=>[(0,vS a0),(2,vB false),(3,vI p169.1),(8,vB p169.2)]) (fun p169:Int×Bool=>F) (fun p169 H=>?_) (fun H=>?_)
 ·
  refine WP.seq<|rg 9 0<|mv0 rfl rfl<|Dv.lens rfl trivial rfl Tryz.underlying9<|bn0 rfl rfl rfl run_gt<|mv0 rfl rfl ?_
  cases c170:decide (0 < (a0.size:Int))
  ·
   have H:=H.cf c170
   refine sk rfl rfl<|sk rfl rfl<|sk rfl rfl<|pf0 rfl rfl rfl<|as0 rfl rfl<|.fin ?_
   cases H.out; exact r0 i2 rfl (.cons (res_tmp rfl) .nil)
  have H:=H.ct c170
  refine mvg rfl rfl rfl<|Dv.lens rfl (gg rfl) rfl Tryz.underlying9<|bng rfl rfl rfl rfl run_lt<|pt0 rfl rfl rfl<|as0 rfl rfl<|.fin ?_
  cases H.out; exact r0 i2 rfl (.cons (res_tmp rfl) .nil)
 refine WP.seq<|rg 1 0<|as0 rfl rfl<|.fin<|WP.block<|wg (sg 0 [] 0) fun _ _=>?_
 refine lp (fun j_ (p187:Int)=>r01_Part.l0 k a0 j_ p187) 0 H (fun p187=>[(0,vS a0),(2,vB false),(3,vI p187)]) (fun p187=>F) ?_
 rintro j_ x171 H
 rcases j_ with _ | j186
 ·
  exact (Gets.no H).elim
 replace H:Gets (r01_Part.l0 k a0 (j186 + 1) x171) _:=H
 rw [r01_Part.l0] at H
 refine WP.seq<|WP.seq<|rg 4 0<|mv0 rfl rfl<|mv0 rfl rfl<|Dv.lens rfl trivial rfl Tryz.underlying9<|bn0 rfl rfl rfl run_lt<|.fin<|cd H rfl (fun _ H=>?_) (fun _ H=>?_)
 rotate_left
 ·
  refine WP.exit ?_
  have H:=H.out
  exact jn (x171,decide (x171 < (a0.size:Int))) H
 refine WP.skip<|WP.seq<|WP.block<|WP.seq<|rg 5 0<|mv0 rfl rfl<|mv0 rfl rfl<|gr H fun g173 H=>Dv.ixs rfl trivial rfl rfl Tryz.underlying9 g173.1 g173.2<|el H fun t174 h175 H=>cl rfl cal62 rfl (r01_low.c h175)<|as0 rfl rfl<|.fin<|WP.seq<|rg 20 0<|mv0 rfl rfl<|un0 rfl rfl (run_not _)<|mv0 rfl rfl ?_
 cases c176:!t174
 ·
  have H:=H.cf c176
  refine sk rfl rfl<|sk rfl rfl<|sk rfl rfl<|sk rfl rfl<|pf0 rfl rfl rfl<|mv0 rfl rfl<|sk rfl rfl<|sk rfl rfl<|sk rfl rfl<|sk rfl rfl<|pf0 rfl rfl rfl<|mv0 rfl rfl<|sk rfl rfl<|sk rfl rfl<|sk rfl rfl<|sk rfl rfl<|pf0 rfl rfl rfl<|.fin<|WP.cond rfl nofun (fun _=>?_)
  exact WP.skip<|rg 3 0<|mv0 rfl rfl<|bn0 rfl rfl rfl run_add<|as0 rfl rfl<|.fin<|bk j186 (w64 (x171 + 1)) H
 have H:=H.ct c176
 refine mvg rfl rfl rfl<|mvg rfl rfl rfl<|gr H fun g177 H=>Dv.ixs rfl (gg rfl) rfl rfl Tryz.underlying9 g177.1 g177.2<|bng rfl rfl rfl rfl run_ne<|pt0 rfl rfl rfl<|mv0 rfl rfl ?_
 cases c178:((bt a0 x171) != 46)
 ·
  have H:=H.cf c178
  refine sk rfl rfl<|sk rfl rfl<|sk rfl rfl<|sk rfl rfl<|pf0 rfl rfl rfl<|mv0 rfl rfl<|sk rfl rfl<|sk rfl rfl<|sk rfl rfl<|sk rfl rfl<|pf0 rfl rfl rfl<|.fin<|WP.cond rfl nofun (fun _=>?_)
  exact WP.skip<|rg 3 0<|mv0 rfl rfl<|bn0 rfl rfl rfl run_add<|as0 rfl rfl<|.fin<|bk j186 (w64 (x171 + 1)) H
 have H:=H.ct c178
 refine mvg rfl rfl rfl<|mvg rfl rfl rfl<|gr H fun g179 H=>Dv.ixs rfl (gg rfl) rfl rfl Tryz.underlying9 g179.1 g179.2<|bng rfl rfl rfl rfl run_ne<|pt0 rfl rfl rfl<|mv0 rfl rfl ?_
 cases c180:((bt a0 x171) != 45)
 ·
  have H:=H.cf c180
  refine sk rfl rfl<|sk rfl rfl<|sk rfl rfl<|sk rfl rfl<|pf0 rfl rfl rfl<|.fin<|WP.cond rfl nofun (fun _=>?_)
  exact WP.skip<|rg 3 0<|mv0 rfl rfl<|bn0 rfl rfl rfl run_add<|as0 rfl rfl<|.fin<|bk j186 (w64 (x171 + 1)) H
 have H:=H.ct c180
 refine mvg rfl rfl rfl<|mvg rfl rfl rfl<|gr H fun g181 H=>Dv.ixs rfl (gg rfl) rfl rfl Tryz.underlying9 g181.1 g181.2<|bng rfl rfl rfl rfl run_ne<|pt0 rfl rfl rfl<|.fin<|cd H rfl (fun _ H=>?_) (fun _ H=>?_)
 rotate_left
 ·
  exact WP.skip<|rg 3 0<|mv0 rfl rfl<|bn0 rfl rfl rfl run_add<|as0 rfl rfl<|.fin<|bk j186 (w64 (x171 + 1)) H
 refine WP.seq<|rg 1 0<|as0 rfl rfl<|.fin ?_
 have H:=H.outr
 cases H.out; exact r0 i2 rfl (.cons (res_tmp rfl) .nil)
theorem r01_Named.c {k:Nat} {a0:ByteArray} {a1:Int} {r:Bool} (h:r01_Named.f k a0 a1 = some r):Pt Tryz.prog 126 [vS a0,eq (.int .u8 a1)] (vB r):=by
 unfold r01_Named.f at h
 refine pb Tryz.func126 Tryz.ntmps126 h fun R0 F H=>?_
 refine WP.seq<|rg 1 0<|as0 rfl rfl<|.fin<|WP.seq<|rg 3 0<|mv0 rfl rfl<|el H fun t188 h189 H=>cl rfl cal153 rfl (r01_colon.c h189)<|as0 rfl rfl<|.fin<|WP.seq<|WP.seq<|rg 8 0<|mv0 rfl rfl<|bn0 rfl rfl rfl run_lt<|mv0 rfl rfl ?_
 cases c190:decide (t188 < 1)
 rotate_left
 ·
  have H:=H.ct c190
  refine sk rfl rfl<|sk rfl rfl<|sk rfl rfl<|sk rfl rfl<|pt0 rfl rfl rfl<|.fin<|WP.cond rfl (fun _=>?_) nofun
  refine WP.seq<|rg 1 0<|as0 rfl rfl<|.fin ?_
  cases H.out; exact r0 i2 rfl (.cons (res_tmp rfl) .nil)
 have H:=H.cf c190
 refine mvg rfl rfl rfl<|gr H fun g192 H=>Dv.ixs rfl (gg rfl) rfl rfl Tryz.underlying9 g192.1 g192.2<|mvg rfl rfl rfl<|bng rfl rfl rfl rfl run_ne<|pf0 rfl rfl rfl<|.fin<|cd H rfl (fun _ H=>?_) (fun _ H=>?_)
 ·
  refine WP.seq<|rg 1 0<|as0 rfl rfl<|.fin ?_
  cases H.out; exact r0 i2 rfl (.cons (res_tmp rfl) .nil)
 refine WP.skip<|WP.seq<|rg 5 0<|mv0 rfl rfl<|mv0 rfl rfl<|gr H fun g194 H=>Dv.sss rfl trivial rfl Tryz.underlying9 (bdE_some rfl g194.1) (bdE_some rfl g194.2.1) g194.2.2.1 g194.2.2.2<|el H fun t195 h196 H=>cl rfl cal154 rfl (r01_Part.c h196)<|as0 rfl rfl<|.fin<|WP.seq<|rg 6 0<|mv0 rfl rfl<|mv0 rfl rfl<|bn0 rfl rfl rfl run_add<|gr H fun g197 H=>Dv.sss rfl trivial rfl Tryz.underlying9 (bdE_some rfl g197.1) bdE_none g197.2.1 g197.2.2<|el H fun t198 h199 H=>cl rfl cal24 rfl (r01_Server.c h199)<|as0 rfl rfl<|.fin<|WP.seq<|rg 5 0<|mv0 rfl rfl<|mv0 rfl rfl ?_
 cases c200:t195
 ·
  have H:=H.cf c200
  refine sk rfl rfl<|pf0 rfl rfl rfl<|as0 rfl rfl<|.fin ?_
  cases H.out; exact r0 i2 rfl (.cons (res_tmp rfl) .nil)
 have H:=H.ct c200
 refine mvg rfl rfl rfl<|pt0 rfl rfl rfl<|as0 rfl rfl<|.fin ?_
 cases H.out; exact r0 i2 rfl (.cons (res_tmp rfl) .nil)
theorem r07_May.c {k:Nat} {a0:Event} {r:Bool} (h:r07_May.f k a0 = some r):Pt Tryz.prog 96 [agg (Event.enc a0)] (vB r):=by
 unfold r07_May.f at h
 refine pb Tryz.func96 Tryz.ntmps96 h fun R0 F H=>?_
 refine WP.seq<|rg 2 1<|Dv.box rfl trivial rfl cA nofun fun b201=>as0 rfl rfl<|.fin<|WP.seq<|rg 4 0<|fb rfl trivial rfl fa55_0<|ld 0 rfl trivial rfl sc9 rfl rfl<|el H fun t202 h203 H=>cl rfl cal125 rfl (r01_Event.c h203)<|as0 rfl rfl<|.fin<|WP.seq<|rg 4 0<|fb rfl trivial rfl fa55_1<|ld 0 rfl trivial rfl sc9 rfl rfl<|el H fun t204 h205 H=>cl rfl cal126 rfl (r01_Named.c h205)<|as0 rfl rfl<|.fin<|WP.seq<|rg 4 0<|fb rfl trivial rfl fa55_4<|ld 0 rfl trivial rfl sc9 rfl rfl<|el H fun t206 h207 H=>cl rfl cal126 rfl (r01_Named.c h207)<|as0 rfl rfl<|.fin<|WP.seq<|WP.seq<|rg 26 0<|mv0 rfl rfl<|un0 rfl rfl (run_not _)<|mv0 rfl rfl ?_
 cases c208:!t202
 rotate_left
 ·
  have H:=H.ct c208
  refine sk rfl rfl<|sk rfl rfl<|pt0 rfl rfl rfl<|mv0 rfl rfl<|sk rfl rfl<|sk rfl rfl<|pt0 rfl rfl rfl<|mv0 rfl rfl<|sk rfl rfl<|sk rfl rfl<|sk rfl rfl<|sk rfl rfl<|pt0 rfl rfl rfl<|mv0 rfl rfl<|sk rfl rfl<|sk rfl rfl<|sk rfl rfl<|pt0 rfl rfl rfl<|mv0 rfl rfl<|sk rfl rfl<|sk rfl rfl<|sk rfl rfl<|pt0 rfl rfl rfl<|.fin<|WP.cond rfl (fun _=>?_) nofun
  refine WP.seq<|rg 1 0<|as0 rfl rfl<|.fin ?_
  cases H.out; exact r1 i2 rfl (.cons (res_tmp rfl) .nil)
 have H:=H.cf c208
 refine mvg rfl rfl rfl<|ung rfl rfl rfl (run_not _)<|pf0 rfl rfl rfl<|mv0 rfl rfl ?_
 cases c210:!t204
 rotate_left
 ·
  have H:=H.ct c210
  refine sk rfl rfl<|sk rfl rfl<|pt0 rfl rfl rfl<|mv0 rfl rfl<|sk rfl rfl<|sk rfl rfl<|sk rfl rfl<|sk rfl rfl<|pt0 rfl rfl rfl<|mv0 rfl rfl<|sk rfl rfl<|sk rfl rfl<|sk rfl rfl<|pt0 rfl rfl rfl<|mv0 rfl rfl<|sk rfl rfl<|sk rfl rfl<|sk rfl rfl<|pt0 rfl rfl rfl<|.fin<|WP.cond rfl (fun _=>?_) nofun
  refine WP.seq<|rg 1 0<|as0 rfl rfl<|.fin ?_
  cases H.out; exact r1 i2 rfl (.cons (res_tmp rfl) .nil)
 have H:=H.cf c210
 refine mvg rfl rfl rfl<|ung rfl rfl rfl (run_not _)<|pf0 rfl rfl rfl<|mv0 rfl rfl ?_
 cases c212:!t206
 rotate_left
 ·
  have H:=H.ct c212
  refine sk rfl rfl<|sk rfl rfl<|sk rfl rfl<|sk rfl rfl<|pt0 rfl rfl rfl<|mv0 rfl rfl<|sk rfl rfl<|sk rfl rfl<|sk rfl rfl<|pt0 rfl rfl rfl<|mv0 rfl rfl<|sk rfl rfl<|sk rfl rfl<|sk rfl rfl<|pt0 rfl rfl rfl<|.fin<|WP.cond rfl (fun _=>?_) nofun
  refine WP.seq<|rg 1 0<|as0 rfl rfl<|.fin ?_
  cases H.out; exact r1 i2 rfl (.cons (res_tmp rfl) .nil)
 have H:=H.cf c212
 refine fb rfl (gg rfl) rfl fa55_2<|ld 0 rfl (gg rfl) rfl sc53 rfl rfl<|Dv.lenl rfl (gg rfl) rfl Tryz.underlying53<|bng rfl rfl rfl rfl run_gt<|pf0 rfl rfl rfl<|mv0 rfl rfl ?_
 cases c214:decide (4 < (a0.fParents.length:Int))
 rotate_left
 ·
  have H:=H.ct c214
  refine sk rfl rfl<|sk rfl rfl<|sk rfl rfl<|pt0 rfl rfl rfl<|mv0 rfl rfl<|sk rfl rfl<|sk rfl rfl<|sk rfl rfl<|pt0 rfl rfl rfl<|.fin<|WP.cond rfl (fun _=>?_) nofun
  refine WP.seq<|rg 1 0<|as0 rfl rfl<|.fin ?_
  cases H.out; exact r1 i2 rfl (.cons (res_tmp rfl) .nil)
 have H:=H.cf c214
 refine fb rfl (gg rfl) rfl fa55_5<|ld 0 rfl (gg rfl) rfl sc3 rfl rfl<|bng rfl rfl rfl rfl run_lt<|pf0 rfl rfl rfl<|mv0 rfl rfl ?_
 cases c216:decide (a0.fDoes < 0)
 rotate_left
 ·
  have H:=H.ct c216
  refine sk rfl rfl<|sk rfl rfl<|sk rfl rfl<|pt0 rfl rfl rfl<|.fin<|WP.cond rfl (fun _=>?_) nofun
  refine WP.seq<|rg 1 0<|as0 rfl rfl<|.fin ?_
  cases H.out; exact r1 i2 rfl (.cons (res_tmp rfl) .nil)
 have H:=H.cf c216
 refine fb rfl (gg rfl) rfl fa55_5<|ld 0 rfl (gg rfl) rfl sc3 rfl rfl<|bng rfl rfl rfl rfl run_gt<|pf0 rfl rfl rfl<|.fin<|cd H rfl (fun _ H=>?_) (fun _ H=>?_)
 ·
  refine WP.seq<|rg 1 0<|as0 rfl rfl<|.fin ?_
  cases H.out; exact r1 i2 rfl (.cons (res_tmp rfl) .nil)
 refine WP.skip<|WP.seqr H id (fun p219:Unit=>[(0,agg (Event.enc a0)),(1,eq (.pointer (some ⟨b201,0,none⟩))),(2,vB false),(3,vB t202),(4,vB t204),(5,vB t206),(43,vB (decide (2 < a0.fDoes))),(46,vB (!decide (a0.fThread = (⟨#[]⟩:ByteArray))))]) (fun p219:Unit=>[blk b201 55 (Event.enc a0)]++F) (fun p219 H=>?_) (fun H=>?_)
 rotate_left
 ·
  refine WP.seq<|rg 3 0<|fb rfl trivial rfl fa55_3<|ld 0 rfl trivial rfl sc9 rfl rfl<|bn0 rfl rfl rfl run_sne<|.fin<|cd H rfl (fun _ H=>?_) (fun _ H=>?_)
  rotate_left
  ·
   refine WP.skip ?_
   have H:=H.out
   exact jn () H
  refine WP.seq<|rg 4 0<|fb rfl trivial rfl fa55_3<|ld 0 rfl trivial rfl sc9 rfl rfl<|el H fun t238 h239 H=>cl rfl cal125 rfl (r01_Event.c h239)<|as0 rfl rfl<|.fin<|WP.seq<|rg 14 0<|mv0 rfl rfl<|un0 rfl rfl (run_not _)<|mv0 rfl rfl ?_
  cases c240:!t238
  rotate_left
  ·
   have H:=H.ct c240
   refine sk rfl rfl<|sk rfl rfl<|sk rfl rfl<|sk rfl rfl<|sk rfl rfl<|pt0 rfl rfl rfl<|mv0 rfl rfl<|sk rfl rfl<|sk rfl rfl<|sk rfl rfl<|pt0 rfl rfl rfl<|.fin<|WP.cond rfl (fun _=>?_) nofun
   refine WP.seq<|rg 1 0<|as0 rfl rfl<|.fin ?_
   have H:=H.outr
   cases H.out; exact r1 i2 rfl (.cons (res_tmp rfl) .nil)
  have H:=H.cf c240
  refine fb rfl (gg rfl) rfl fa55_3<|ld 0 rfl (gg rfl) rfl sc9 rfl rfl<|fb rfl (gg rfl) rfl fa55_0<|ld 0 rfl (gg rfl) rfl sc9 rfl rfl<|bng rfl rfl rfl rfl run_seq<|pf0 rfl rfl rfl<|mv0 rfl rfl ?_
  cases c242:decide (a0.fThread = a0.fID)
  rotate_left
  ·
   have H:=H.ct c242
   refine sk rfl rfl<|sk rfl rfl<|sk rfl rfl<|pt0 rfl rfl rfl<|.fin<|WP.cond rfl (fun _=>?_) nofun
   refine WP.seq<|rg 1 0<|as0 rfl rfl<|.fin ?_
   have H:=H.outr
   cases H.out; exact r1 i2 rfl (.cons (res_tmp rfl) .nil)
  have H:=H.cf c242
  refine fb rfl (gg rfl) rfl fa55_5<|ld 0 rfl (gg rfl) rfl sc3 rfl rfl<|bng rfl rfl rfl rfl run_ne<|pf0 rfl rfl rfl<|.fin<|cd H rfl (fun _ H=>?_) (fun _ H=>?_)
  rotate_left
  ·
   refine WP.skip ?_
   have H:=H.out
   exact jn () H
  refine WP.seq<|rg 1 0<|as0 rfl rfl<|.fin ?_
  have H:=H.outr
  cases H.out; exact r1 i2 rfl (.cons (res_tmp rfl) .nil)
 refine WP.seqr H id (fun p220:Int×Bool=>[(0,agg (Event.enc a0)),(1,eq (.pointer (some ⟨b201,0,none⟩))),(2,vB false),(3,vB t202),(4,vB t204),(5,vB t206),(7,vI p220.1),(43,vB (decide (2 < a0.fDoes))),(46,vB (!decide (a0.fThread = (⟨#[]⟩:ByteArray)))),(68,vB p220.2)]) (fun p220:Int×Bool=>[blk b201 55 (Event.enc a0)]++F) (fun p220 H=>?_) (fun H=>?_)
 ·
  refine WP.seq<|rg 1 0<|as0 rfl rfl<|.fin ?_
  cases H.out; exact r1 i2 rfl (.cons (res_tmp rfl) .nil)
 refine WP.seq<|rg 1 0<|as0 rfl rfl<|.fin<|WP.block<|wg (sg 1 [0] 0) fun _ _=>?_
 refine lp (fun j_ (p236:Int)=>r07_May.l0 k a0 j_ p236) 0 H (fun p236=>[(0,agg (Event.enc a0)),(1,eq (.pointer (some ⟨b201,0,none⟩))),(2,vB false),(3,vB t202),(4,vB t204),(5,vB t206),(7,vI p236),(43,vB (decide (2 < a0.fDoes))),(46,vB (!decide (a0.fThread = (⟨#[]⟩:ByteArray))))]) (fun p236=>[blk b201 55 (Event.enc a0)]++F) ?_
 rintro j_ x221 H
 rcases j_ with _ | j235
 ·
  exact (Gets.no H).elim
 replace H:Gets (r07_May.l0 k a0 (j235 + 1) x221) _:=H
 rw [r07_May.l0] at H
 refine WP.seq<|WP.seq<|rg 5 0<|mv0 rfl rfl<|fb rfl trivial rfl fa55_2<|ld 0 rfl trivial rfl sc53 rfl rfl<|Dv.lenl rfl trivial rfl Tryz.underlying53<|bn0 rfl rfl rfl run_lt<|.fin<|cd H rfl (fun _ H=>?_) (fun _ H=>?_)
 rotate_left
 ·
  refine WP.exit ?_
  have H:=H.out
  exact jn (x221,decide (x221 < (a0.fParents.length:Int))) H
 refine WP.skip<|WP.seq<|WP.block<|WP.seq<|rg 7 0<|fb rfl trivial rfl fa55_2<|ld 0 rfl trivial rfl sc53 rfl rfl<|mv0 rfl rfl<|gr H fun g223 H=>Dv.ixr rfl trivial rfl rfl Tryz.underlying53 Tryz.underlying9 c9 g223.1 g223.2<|ldR rfl trivial rfl sc9 rfl<|el H fun t224 h225 H=>cl rfl cal125 rfl (r01_Event.c h225)<|as0 rfl rfl<|.fin<|WP.seq<|WP.seq<|dg Tryz.checked.mixed 12 0<|mv0 rfl rfl<|un0 rfl rfl (run_not _)<|mv0 rfl rfl ?_
 cases c226:!t224
 rotate_left
 ·
  have H:=H.ct c226
  refine sk rfl rfl<|sk rfl rfl<|sk rfl rfl<|sk rfl rfl<|sk rfl rfl<|sk rfl rfl<|sk rfl rfl<|sk rfl rfl<|pt0 rfl rfl rfl<|.fin<|WP.cond rfl (fun _=>?_) nofun
  refine WP.seq<|rg 1 0<|as0 rfl rfl<|.fin ?_
  have H:=H.outr
  cases H.out; exact r1 i2 rfl (.cons (res_tmp rfl) .nil)
 have H:=H.cf c226
 refine fb rfl (gg rfl) rfl fa55_2<|ld 0 rfl (gg rfl) rfl sc53 rfl rfl<|mvg rfl rfl rfl<|gr H fun g228 H=>Dv.ixr rfl (gg rfl) rfl rfl Tryz.underlying53 Tryz.underlying9 c9 g228.1 g228.2<|ldR rfl (gg rfl) rfl sc9 rfl<|fb rfl (gg rfl) rfl fa55_0<|ld 0 rfl (gg rfl) rfl sc9 rfl rfl<|bng rfl rfl rfl rfl run_seq<|pf0 rfl rfl rfl<|.fin<|cd H rfl (fun _ H=>?_) (fun _ H=>?_)
 ·
  refine WP.seq<|rg 1 0<|as0 rfl rfl<|.fin ?_
  have H:=H.outr
  cases H.out; exact r1 i2 rfl (.cons (res_tmp rfl) .nil)
 refine WP.skip<|WP.seq<|dg Tryz.checked.mixed 17 0<|mv0 rfl rfl<|bn0 rfl rfl rfl run_gt<|mv0 rfl rfl ?_
 cases c230:decide (0 < x221)
 ·
  have H:=H.cf c230
  refine sk rfl rfl<|sk rfl rfl<|sk rfl rfl<|sk rfl rfl<|sk rfl rfl<|sk rfl rfl<|sk rfl rfl<|sk rfl rfl<|sk rfl rfl<|sk rfl rfl<|sk rfl rfl<|sk rfl rfl<|sk rfl rfl<|pf0 rfl rfl rfl<|.fin<|WP.cond rfl nofun (fun _=>?_)
  exact WP.skip<|rg 3 0<|mv0 rfl rfl<|bn0 rfl rfl rfl run_add<|as0 rfl rfl<|.fin<|bk j235 (w64 (x221 + 1)) H
 have H:=H.ct c230
 refine fb rfl (gg rfl) rfl fa55_2<|ld 0 rfl (gg rfl) rfl sc53 rfl rfl<|mvg rfl rfl rfl<|bng rfl rfl rfl rfl run_sub<|Dv.maxi rfl (gg rfl) rfl rfl<|gr H fun g231 H=>Dv.ixr rfl (gg rfl) rfl rfl Tryz.underlying53 Tryz.underlying9 c9 g231.1 g231.2<|ldR rfl (gg rfl) rfl sc9 rfl<|fb rfl (gg rfl) rfl fa55_2<|ld 0 rfl (gg rfl) rfl sc53 rfl rfl<|mvg rfl rfl rfl<|gr H fun g232 H=>Dv.ixr rfl (gg rfl) rfl rfl Tryz.underlying53 Tryz.underlying9 c9 g232.1 g232.2<|ldR rfl (gg rfl) rfl sc9 rfl<|bng rfl rfl rfl rfl run_sge<|pt0 rfl rfl rfl<|.fin<|cd H rfl (fun _ H=>?_) (fun _ H=>?_)
 rotate_left
 ·
  exact WP.skip<|rg 3 0<|mv0 rfl rfl<|bn0 rfl rfl rfl run_add<|as0 rfl rfl<|.fin<|bk j235 (w64 (x221 + 1)) H
 refine WP.seq<|rg 1 0<|as0 rfl rfl<|.fin ?_
 have H:=H.outr
 cases H.out; exact r1 i2 rfl (.cons (res_tmp rfl) .nil)
theorem r07_At.c {k:Nat} {a0:RDag} {a1:ByteArray} {r:Int} (h:r07_At.f k a0 a1 = some r):Pt Tryz.prog 97 [agg (RDag.enc a0),vS a1] (vI r):=by
 unfold r07_At.f at h
 refine pb Tryz.func97 Tryz.ntmps97 h fun R0 F H=>?_
 refine WP.seq<|rg 2 1<|Dv.box rfl trivial rfl cA nofun fun b245=>as0 rfl rfl<|.fin<|WP.seqr H id (fun p246:Int×Bool=>[(0,agg (RDag.enc a0)),(1,vS a1),(2,eq (.pointer (some ⟨b245,0,none⟩))),(4,vI 0),(5,vI p246.1),(10,vB p246.2)]) (fun p246:Int×Bool=>[blk b245 97 (RDag.enc a0)]++F) (fun p246 H=>?_) (fun H=>?_)
 ·
  refine WP.seq<|rg 1 0<|as0 rfl rfl<|.fin ?_
  cases H.out; exact r1 i2 rfl (.cons (res_tmp rfl) .nil)
 refine WP.seq<|rg 1 0<|as0 rfl rfl<|.fin<|WP.block<|wg (sg 1 [0] 0) fun _ _=>?_
 refine lp (fun j_ (p252:Int)=>r07_At.l0 k a0 a1 j_ p252) 0 H (fun p252=>[(0,agg (RDag.enc a0)),(1,vS a1),(2,eq (.pointer (some ⟨b245,0,none⟩))),(4,vI 0),(5,vI p252)]) (fun p252=>[blk b245 97 (RDag.enc a0)]++F) ?_
 rintro j_ x247 H
 rcases j_ with _ | j251
 ·
  exact (Gets.no H).elim
 replace H:Gets (r07_At.l0 k a0 a1 (j251 + 1) x247) _:=H
 rw [r07_At.l0] at H
 refine WP.seq<|WP.seq<|rg 5 0<|mv0 rfl rfl<|fb rfl trivial rfl fa97_1<|ld 0 rfl trivial rfl sc28 rfl rfl<|Dv.lenl rfl trivial rfl Tryz.underlying28<|bn0 rfl rfl rfl run_lt<|.fin<|cd H rfl (fun _ H=>?_) (fun _ H=>?_)
 rotate_left
 ·
  refine WP.exit ?_
  have H:=H.out
  exact jn (x247,decide (x247 < (a0.fL.length:Int))) H
 refine WP.skip<|WP.seq<|WP.block<|WP.seq<|rg 8 0<|fb rfl trivial rfl fa97_1<|ld 0 rfl trivial rfl sc28 rfl rfl<|mv0 rfl rfl<|gr H fun g249 H=>Dv.ixr rfl trivial rfl rfl Tryz.underlying28 Tryz.underlying55 c55 g249.1 g249.2<|fr rfl trivial rfl fa55_0 rfl<|ldR rfl trivial rfl sc9 rfl<|mv0 rfl rfl<|bn0 rfl rfl rfl run_seq<|.fin<|cd H rfl (fun _ H=>?_) (fun _ H=>?_)
 rotate_left
 ·
  exact WP.skip<|rg 3 0<|mv0 rfl rfl<|bn0 rfl rfl rfl run_add<|as0 rfl rfl<|.fin<|bk j251 (w64 (x247 + 1)) H
 refine WP.seq<|rg 2 0<|mv0 rfl rfl<|as0 rfl rfl<|.fin ?_
 have H:=H.outr
 cases H.out; exact r1 i2 rfl (.cons (res_tmp rfl) .nil)
theorem r07_Add.c {k:Nat} {a0:RDag} {a1:Event} {r:RDag×Int} (h:r07_Add.f k a0 a1 = some r):Pt Tryz.prog 57 [agg (RDag.enc a0),agg (Event.enc a1)] (tup [agg (RDag.enc r.1),vI r.2]):=by
 unfold r07_Add.f at h
 refine pb Tryz.func57 Tryz.ntmps57 h fun R0 F H=>?_
 refine WP.seq<|rg 4 7<|Dv.box rfl trivial rfl cA nofun fun b253=>Dv.box rfl trivial rfl cA nofun fun b254=>al rfl trivial zc97 nofun fun b255=>as0 rfl rfl<|.fin<|WP.seq<|rg 3 0<|lds 1 rfl trivial rfl sg55 rfl rfl<|el H fun t256 h257 H=>cl rfl cal96 rfl (r07_May.c h257)<|as0 rfl rfl<|.fin<|WP.seq<|WP.seq<|rg 9 0<|mv0 rfl rfl<|un0 rfl rfl (run_not _)<|mv0 rfl rfl ?_
 cases c258:!t256
 rotate_left
 ·
  have H:=H.ct c258
  refine sk rfl rfl<|sk rfl rfl<|sk rfl rfl<|sk rfl rfl<|sk rfl rfl<|pt0 rfl rfl rfl<|.fin<|WP.cond rfl (fun _=>?_) nofun
  refine WP.seq<|rg 3 2<|lds 2 rfl trivial rfl sg97 rfl rfl<|sx 0 rfl trivial rfl rfl cA sz97 rfl rfl rfl nofun ?_
  refine as0 rfl rfl<|.fin ?_
  cases H.out; exact r3 i2 rfl (.cons (res_cells rfl Tryz.underlying97 rfl c97 (mem_at 0 rfl) rfl) (.cons (res_tmp rfl) .nil))
 have H:=H.cf c258
 refine fb rfl (gg rfl) rfl fa55_1<|ld 1 rfl (gg rfl) rfl sc9 rfl rfl<|fb rfl (gg rfl) rfl fa97_0<|ld 2 rfl (gg rfl) rfl sc9 rfl rfl<|bng rfl rfl rfl rfl run_sne<|pf0 rfl rfl rfl<|.fin<|cd H rfl (fun _ H=>?_) (fun _ H=>?_)
 ·
  refine WP.seq<|rg 3 2<|lds 2 rfl trivial rfl sg97 rfl rfl<|sx 0 rfl trivial rfl rfl cA sz97 rfl rfl rfl nofun ?_
  refine as0 rfl rfl<|.fin ?_
  cases H.out; exact r3 i2 rfl (.cons (res_cells rfl Tryz.underlying97 rfl c97 (mem_at 0 rfl) rfl) (.cons (res_tmp rfl) .nil))
 refine WP.skip<|WP.seq<|WP.seq<|rg 5 0<|lds 2 rfl trivial rfl sg97 rfl rfl<|fb rfl trivial rfl fa55_0<|ld 1 rfl trivial rfl sc9 rfl rfl<|el H fun t261 h262 H=>cl rfl cal97 rfl (r07_At.c h262)<|bn0 rfl rfl rfl run_ge<|.fin<|cd H rfl (fun _ H=>?_) (fun _ H=>?_)
 ·
  refine WP.seq<|rg 3 2<|lds 2 rfl trivial rfl sg97 rfl rfl<|sx 0 rfl trivial rfl rfl cA sz97 rfl rfl rfl nofun ?_
  refine as0 rfl rfl<|.fin ?_
  cases H.out; exact r3 i2 rfl (.cons (res_cells rfl Tryz.underlying97 rfl c97 (mem_at 0 rfl) rfl) (.cons (res_tmp rfl) .nil))
 refine WP.skip<|WP.seqr H id (fun p264:Int×Bool=>[(0,agg (RDag.enc a0)),(1,agg (Event.enc a1)),(2,eq (.pointer (some ⟨b253,0,none⟩))),(3,eq (.pointer (some ⟨b254,0,none⟩))),(4,eq (.pointer (some ⟨b255,0,none⟩))),(5,vI 0),(6,vB t256),(7,vI p264.1),(20,vB (!decide (a1.fRoom = a0.fRoom))),(26,vB (decide (0≤t261))),(32,vB p264.2)]) (fun p264:Int×Bool=>[blk b255 97 [vS (⟨#[]⟩:ByteArray),eq (.slice none 0 0)],blk b254 55 (Event.enc a1),blk b253 97 (RDag.enc a0)]++F) (fun p264 H=>?_) (fun H=>?_)
 rotate_left
 ·
  refine WP.seq<|rg 1 0<|as0 rfl rfl<|.fin<|WP.block<|wg (sg 3 [0,1,2] 0) fun _ _=>?_
  refine lp (fun j_ (p286:Int)=>r07_Add.l0 k a0 a1 j_ p286) 0 H (fun p286=>[(0,agg (RDag.enc a0)),(1,agg (Event.enc a1)),(2,eq (.pointer (some ⟨b253,0,none⟩))),(3,eq (.pointer (some ⟨b254,0,none⟩))),(4,eq (.pointer (some ⟨b255,0,none⟩))),(5,vI 0),(6,vB t256),(7,vI p286),(20,vB (!decide (a1.fRoom = a0.fRoom))),(26,vB (decide (0≤t261)))]) (fun p286=>[blk b255 97 [vS (⟨#[]⟩:ByteArray),eq (.slice none 0 0)],blk b254 55 (Event.enc a1),blk b253 97 (RDag.enc a0)]++F) ?_
  rintro j_ x279 H
  rcases j_ with _ | j285
  ·
   exact (Gets.no H).elim
  replace H:Gets (r07_Add.l0 k a0 a1 (j285 + 1) x279) _:=H
  rw [r07_Add.l0] at H
  refine WP.seq<|WP.seq<|rg 5 0<|mv0 rfl rfl<|fb rfl trivial rfl fa55_2<|ld 1 rfl trivial rfl sc53 rfl rfl<|Dv.lenl rfl trivial rfl Tryz.underlying53<|bn0 rfl rfl rfl run_lt<|.fin<|cd H rfl (fun _ H=>?_) (fun _ H=>?_)
  rotate_left
  ·
   refine WP.exit ?_
   have H:=H.out
   exact jn (x279,decide (x279 < (a1.fParents.length:Int))) H
  refine WP.skip<|WP.seq<|WP.block<|WP.seq<|dg Tryz.checked.mixed 8 0<|lds 2 rfl trivial rfl sg97 rfl rfl<|fb rfl trivial rfl fa55_2<|ld 1 rfl trivial rfl sc53 rfl rfl<|mv0 rfl rfl<|gr H fun g281 H=>Dv.ixr rfl trivial rfl rfl Tryz.underlying53 Tryz.underlying9 c9 g281.1 g281.2<|ldR rfl trivial rfl sc9 rfl<|el H fun t282 h283 H=>cl rfl cal97 rfl (r07_At.c h283)<|bn0 rfl rfl rfl run_lt<|.fin<|cd H rfl (fun _ H=>?_) (fun _ H=>?_)
  rotate_left
  ·
   exact WP.skip<|rg 3 0<|mv0 rfl rfl<|bn0 rfl rfl rfl run_add<|as0 rfl rfl<|.fin<|bk j285 (w64 (x279 + 1)) H
  refine WP.seq<|rg 3 2<|lds 2 rfl trivial rfl sg97 rfl rfl<|sx 0 rfl trivial rfl rfl cA sz97 rfl rfl rfl nofun ?_
  refine as0 rfl rfl<|.fin ?_
  have H:=H.outr
  cases H.out; exact r3 i2 rfl (.cons (res_cells rfl Tryz.underlying97 rfl c97 (mem_at 0 rfl) rfl) (.cons (res_tmp rfl) .nil))
 refine WP.seqr H id (fun p265:Unit=>[(0,agg (RDag.enc a0)),(1,agg (Event.enc a1)),(2,eq (.pointer (some ⟨b253,0,none⟩))),(3,eq (.pointer (some ⟨b254,0,none⟩))),(4,eq (.pointer (some ⟨b255,0,none⟩))),(5,vI 0),(6,vB t256),(7,vI p264.1),(20,vB (!decide (a1.fRoom = a0.fRoom))),(26,vB (decide (0≤t261))),(32,vB p264.2),(46,vB (!decide (a1.fThread = (⟨#[]⟩:ByteArray))))]) (fun p265:Unit=>[blk b255 97 [vS (⟨#[]⟩:ByteArray),eq (.slice none 0 0)],blk b254 55 (Event.enc a1),blk b253 97 (RDag.enc a0)]++F) (fun p265 H=>?_) (fun H=>?_)
 ·
  refine WP.seq<|rg 1 0<|as0 rfl rfl<|.fin<|WP.seq<|rg 5 8<|mv0 rfl rfl<|fb rfl trivial rfl fa97_1<|ld 2 rfl trivial rfl sc28 rfl rfl<|vg (st_nil Event.K none) fun _ _=>?_
  refine gr H fun g266 H=>ap Event.K 0 a0.fL src_sl Tryz.underlying28 (.inr ⟨_,Tryz.underlying28⟩) inf55 g266 nofun fun v267=>?_
  refine as0 rfl rfl<|.fin<|WP.seq<|dg Tryz.checked.mixed 9 160<|fb rfl trivial rfl fa97_0<|ld 3 rfl trivial rfl sc9 rfl rfl<|mv0 rfl rfl<|lds 2 rfl trivial rfl sg55 rfl rfl<|Dv.lit Event.K ([a1]:List Event) (css:=[Event.enc a1]) rfl trivial Tryz.underlying28 Tryz.underlying55 c55 z55 rfl (by decide) (by decide) rfl ⟨(cells_agg (Event.K.one _)),trivial⟩ rfl rfl rfl<|gr H fun g268 H=>Dv.appx (Kd:=Event.K) (jj:=0) (ys:=([a1]:List Event)) (fun v269:OV=>[own Event.K v269.1 ((([]:List Event)++a0.fL)++([a1]:List Event)),blk b255 97 [vS (⟨#[]⟩:ByteArray),eq (.slice none 0 0)],blk b254 55 (Event.enc a1),blk b253 97 (RDag.enc a0)]++F) rfl trivial rfl rfl rfl src_sl Tryz.underlying28 (.inr ⟨_,Tryz.underlying28⟩) inf55 rfl (by decide) g268 rfl (fun _=>(pend_by (by kernel_rfl) (pend_by (by kernel_rfl) (pend_by (by kernel_rfl) (pend_in (fun _=>(mem_at 3 rfl)) (pend_in (fun _=>trivial) pend_nil)))))) (fun v269=>?_)
  refine Dv.bld (qs:=[vS a0.fRoom,eq v269.1]) (css:=[[vS a0.fRoom],[eq v269.1]]) rfl trivial Tryz.underlying97 pl97 z97 rfl ⟨(cells_one (one_eq rfl)),⟨(cells_one one_ov),trivial⟩⟩ rfl rfl<|sx 1 rfl trivial rfl rfl cA sz97 rfl rfl rfl pB ?_
  refine as0 rfl rfl<|.fin<|WP.gh (gh_frz (E':=[(4,eq (.pointer (some ⟨b255,0,none⟩))),(5,vI 0)]) (l':=[blk b255 97 [vS a0.fRoom,sl Event.K ((([]:List Event)++a0.fL)++([a1]:List Event))],blk b254 55 (Event.enc a1),blk b253 97 (RDag.enc a0)]++F) 0 rfl (cve_cons rfl cv_id (cve_cons rfl cv_id cve_nil)) (all2_app (.cons (cva_blk (.cons cv_id (.cons cv_eq .nil))) (.cons cva_id (.cons cva_id .nil))) fun _=>cva_id)) (fun _ _=>?_)
  cases H.out; exact r3 i2 rfl (.cons (res_cells rfl Tryz.underlying97 rfl c97 (mem_at 0 rfl) rfl) (.cons (res_tmp rfl) .nil))
 refine WP.seq<|rg 3 0<|fb rfl trivial rfl fa55_3<|ld 1 rfl trivial rfl sc9 rfl rfl<|bn0 rfl rfl rfl run_sne<|.fin<|cd H rfl (fun _ H=>?_) (fun _ H=>?_)
 rotate_left
 ·
  refine WP.skip ?_
  have H:=H.out
  exact jn () H
 refine WP.seq<|rg 5 0<|lds 2 rfl trivial rfl sg97 rfl rfl<|fb rfl trivial rfl fa55_3<|ld 1 rfl trivial rfl sc9 rfl rfl<|el H fun t271 h272 H=>cl rfl cal97 rfl (r07_At.c h272)<|as0 rfl rfl<|.fin<|WP.seq<|WP.seq<|rg 2 0<|mv0 rfl rfl<|bn0 rfl rfl rfl run_lt<|.fin<|cd H rfl (fun _ H=>?_) (fun _ H=>?_)
 ·
  refine WP.seq<|rg 3 2<|lds 2 rfl trivial rfl sg97 rfl rfl<|sx 0 rfl trivial rfl rfl cA sz97 rfl rfl rfl nofun ?_
  refine as0 rfl rfl<|.fin ?_
  have H:=H.outr
  cases H.out; exact r3 i2 rfl (.cons (res_cells rfl Tryz.underlying97 rfl c97 (mem_at 0 rfl) rfl) (.cons (res_tmp rfl) .nil))
 refine WP.skip<|WP.seq<|rg 16 0<|fb rfl trivial rfl fa97_1<|ld 2 rfl trivial rfl sc28 rfl rfl<|mv0 rfl rfl<|gr H fun g274 H=>Dv.ixr rfl trivial rfl rfl Tryz.underlying28 Tryz.underlying55 c55 g274.1 g274.2<|fr rfl trivial rfl fa55_3 rfl<|ldR rfl trivial rfl sc9 rfl<|bn0 rfl rfl rfl run_sne<|mv0 rfl rfl ?_
 cases c275:!decide (((Event.K.at a0.fL t271).fThread) = (⟨#[]⟩:ByteArray))
 rotate_left
 ·
  have H:=H.ct c275
  refine sk rfl rfl<|sk rfl rfl<|sk rfl rfl<|sk rfl rfl<|sk rfl rfl<|sk rfl rfl<|sk rfl rfl<|pt0 rfl rfl rfl<|.fin<|WP.cond rfl (fun _=>?_) nofun
  refine WP.seq<|rg 3 2<|lds 2 rfl trivial rfl sg97 rfl rfl<|sx 0 rfl trivial rfl rfl cA sz97 rfl rfl rfl nofun ?_
  refine as0 rfl rfl<|.fin ?_
  have H:=H.outr
  cases H.out; exact r3 i2 rfl (.cons (res_cells rfl Tryz.underlying97 rfl c97 (mem_at 0 rfl) rfl) (.cons (res_tmp rfl) .nil))
 have H:=H.cf c275
 refine fb rfl (gg rfl) rfl fa97_1<|ld 2 rfl (gg rfl) rfl sc28 rfl rfl<|mvg rfl rfl rfl<|gr H fun g277 H=>Dv.ixr rfl (gg rfl) rfl rfl Tryz.underlying28 Tryz.underlying55 c55 g277.1 g277.2<|fr rfl (gg rfl) rfl fa55_5 rfl<|ldR rfl (gg rfl) rfl sc3 rfl<|bng rfl rfl rfl rfl run_ne<|pf0 rfl rfl rfl<|.fin<|cd H rfl (fun _ H=>?_) (fun _ H=>?_)
 rotate_left
 ·
  refine WP.skip ?_
  have H:=H.out
  exact jn () H
 refine WP.seq<|rg 3 2<|lds 2 rfl trivial rfl sg97 rfl rfl<|sx 0 rfl trivial rfl rfl cA sz97 rfl rfl rfl nofun ?_
 refine as0 rfl rfl<|.fin ?_
 have H:=H.outr
 cases H.out; exact r3 i2 rfl (.cons (res_cells rfl Tryz.underlying97 rfl c97 (mem_at 0 rfl) rfl) (.cons (res_tmp rfl) .nil))
theorem r01_Decimal.c:∀ (k:Nat) {a0:Int} {r:ByteArray} (h:r01_Decimal.f k a0 = some r),Pt Tryz.prog 28 [vI a0] (vS r)
  | 0,_,_,h=>by cases h
  | k + 1,a0,r,h=>by
    rw [r01_Decimal.f] at h
    refine pb Tryz.func28 Tryz.ntmps28 h fun R0 F H=>?_
    refine WP.seq<|rg 1 0<|as0 rfl rfl<|.fin<|WP.seq<|rg 3 0<|mv0 rfl rfl<|bn0 rfl rfl rfl (run_rem (by decide))<|as0 rfl rfl<|.fin<|WP.seqn H id (fun p287:Int=>[(0,vI a0),(2,vS (⟨#[]⟩:ByteArray)),(3,vI p287),(8,vB (decide ((a0.tmod 10) < 0)))]) (fun p287:Int=>F) (fun p287 H=>?_) (fun H=>?_)
    rotate_left
    ·
     refine WP.seq<|rg 2 0<|mv0 rfl rfl<|bn0 rfl rfl rfl run_lt<|.fin<|cd H rfl (fun _ H=>?_) (fun _ H=>?_)
     rotate_left
     ·
      refine WP.skip ?_
      have H:=H.out
      exact jn (a0.tmod 10) H
     refine rg 3 0<|mv0 rfl rfl<|un0 rfl rfl (run_neg _ _)<|as0 rfl rfl<|.fin ?_
     have H:=H.out
     exact jn (w64 (0 - (a0.tmod 10))) H
    refine WP.seq<|rg 6 0<|mv0 rfl rfl<|bn0 rfl rfl rfl run_add<|Dv.cvi rfl trivial rfl Tryz.underlying3 Tryz.underlying5<|Dv.lit (intK .u8) ([IntKind.u8.wrap (w64 (48 + p287))]:List Int) (css:=[[eq (.int .u8 (IntKind.u8.wrap (w64 (48 + p287))))]]) rfl trivial Tryz.underlying131 Tryz.underlying5 c5 z5 rfl (by decide) (by decide) rfl ⟨(cells_one (one_eq rfl)),trivial⟩ rfl rfl rfl<|Dv.cvbs rfl trivial rfl Tryz.underlying131 Tryz.underlying5 Tryz.underlying9<|as0 rfl rfl<|.fin<|WP.seq<|WP.seq<|rg 6 0<|mv0 rfl rfl<|bn0 rfl rfl rfl run_gt<|mv0 rfl rfl ?_
    cases c288:decide ((-10) < a0)
    ·
     have H:=H.cf c288
     refine sk rfl rfl<|sk rfl rfl<|pf0 rfl rfl rfl<|.fin<|WP.cond rfl nofun (fun _=>?_)
     refine WP.skip<|WP.seq<|rg 6 0<|mv0 rfl rfl<|bn0 rfl rfl rfl (run_quo (by decide))<|el H fun t296 h297 H=>cl rfl cal28 rfl (r01_Decimal.c k h297)<|mv0 rfl rfl<|gr H fun g298 H=>bn0 rfl rfl rfl (run_cat g298)<|as0 rfl rfl<|.fin ?_
     cases H.out; exact r0 i2 rfl (.cons (res_tmp rfl) .nil)
    have H:=H.ct c288
    refine mvg rfl rfl rfl<|bng rfl rfl rfl rfl run_lt<|pt0 rfl rfl rfl<|.fin<|cd H rfl (fun _ H=>?_) (fun _ H=>?_)
    rotate_left
    ·
     refine WP.skip<|WP.seq<|rg 6 0<|mv0 rfl rfl<|bn0 rfl rfl rfl (run_quo (by decide))<|el H fun t292 h293 H=>cl rfl cal28 rfl (r01_Decimal.c k h293)<|mv0 rfl rfl<|gr H fun g294 H=>bn0 rfl rfl rfl (run_cat g294)<|as0 rfl rfl<|.fin ?_
     cases H.out; exact r0 i2 rfl (.cons (res_tmp rfl) .nil)
    refine WP.seq<|WP.seq<|rg 2 0<|mv0 rfl rfl<|bn0 rfl rfl rfl run_lt<|.fin<|cd H rfl (fun _ H=>?_) (fun _ H=>?_)
    rotate_left
    ·
     refine WP.skip<|WP.seq<|rg 2 0<|mv0 rfl rfl<|as0 rfl rfl<|.fin ?_
     cases H.out; exact r0 i2 rfl (.cons (res_tmp rfl) .nil)
    refine WP.seq<|rg 3 0<|mv0 rfl rfl<|gr H fun g291 H=>bn0 rfl rfl rfl (run_cat g291)<|as0 rfl rfl<|.fin ?_
    cases H.out; exact r0 i2 rfl (.cons (res_tmp rfl) .nil)
theorem r01_EventOf.c {k:Nat} {a0:Int} {r:ByteArray} (h:r01_EventOf.f k a0 = some r):Pt Tryz.prog 63 [vI a0] (vS r):=by
 unfold r01_EventOf.f at h
 refine pb Tryz.func63 Tryz.ntmps63 h fun R0 F H=>?_
 refine WP.seq<|rg 1 0<|as0 rfl rfl<|.fin<|WP.seq<|rg 5 0<|mv0 rfl rfl<|el H fun t300 h301 H=>cl rfl cal12 rfl (r01_Around.c h301)<|el H fun t302 h303 H=>cl rfl cal28 rfl (r01_Decimal.c _ h303)<|gr H fun g304 H=>bn0 rfl rfl rfl (run_cat g304)<|as0 rfl rfl<|.fin ?_
 cases H.out; exact r0 i2 rfl (.cons (res_tmp rfl) .nil)
theorem edu_asks_1.c {a0:Int} {a1:Int} {a2:Int} {r:Bool} (h:edu_asks_1.f a0 a1 a2 = some r):Pt Tryz.prog 131 [vI a0,vI a1,vI a2] (vB r):=by
 unfold edu_asks_1.f at h
 refine pb Tryz.func131 Tryz.ntmps131 h fun R0 F H=>?_
 refine WP.seq<|rg 1 0<|as0 rfl rfl<|.fin<|WP.seq<|rg 9 0<|mv0 rfl rfl<|mv0 rfl rfl<|bn0 rfl rfl rfl run_ge<|mv0 rfl rfl ?_
 cases c409:decide (a1≤a0)
 ·
  have H:=H.cf c409
  refine sk rfl rfl<|sk rfl rfl<|sk rfl rfl<|pf0 rfl rfl rfl<|as0 rfl rfl<|.fin ?_
  cases H.out; exact r0 i2 rfl (.cons (res_tmp rfl) .nil)
 have H:=H.ct c409
 refine mvg rfl rfl rfl<|mvg rfl rfl rfl<|bng rfl rfl rfl rfl run_le<|pt0 rfl rfl rfl<|as0 rfl rfl<|.fin ?_
 cases H.out; exact r0 i2 rfl (.cons (res_tmp rfl) .nil)
theorem edu_asks_2.c {a0:Edu} {r:Bool} (h:edu_asks_2.f a0 = some r):Pt Tryz.prog 132 [agg (Edu.enc a0)] (vB r):=by
 unfold edu_asks_2.f at h
 refine pb Tryz.func132 Tryz.ntmps132 h fun R0 F H=>?_
 refine WP.seq<|rg 2 1<|Dv.box rfl trivial rfl cA nofun fun b410=>as0 rfl rfl<|.fin<|WP.seq<|rg 1 0<|as0 rfl rfl<|.fin ?_
 cases H.out; exact r1 i2 rfl (.cons (res_tmp rfl) .nil)
theorem stringslite_HasPrefix.c {a0:ByteArray} {a1:ByteArray} {r:Bool} (h:stringslite_HasPrefix.f a0 a1 = some r):Pt Tryz.prog 180 [vS a0,vS a1] (vB r):=by
 unfold stringslite_HasPrefix.f at h
 refine pb Tryz.func180 Tryz.ntmps180 h fun R0 F H=>?_
 refine WP.seq<|rg 1 0<|as0 rfl rfl<|.fin<|WP.seq<|rg 14 0<|mv0 rfl rfl<|Dv.lens rfl trivial rfl Tryz.underlying9<|mv0 rfl rfl<|Dv.lens rfl trivial rfl Tryz.underlying9<|bn0 rfl rfl rfl run_ge<|mv0 rfl rfl ?_
 cases c411:decide ((a1.size:Int)≤(a0.size:Int))
 ·
  have H:=H.cf c411
  refine sk rfl rfl<|sk rfl rfl<|sk rfl rfl<|sk rfl rfl<|sk rfl rfl<|sk rfl rfl<|pf0 rfl rfl rfl<|as0 rfl rfl<|.fin ?_
  cases H.out; exact r0 i2 rfl (.cons (res_tmp rfl) .nil)
 have H:=H.ct c411
 refine mvg rfl rfl rfl<|mvg rfl rfl rfl<|Dv.lens rfl (gg rfl) rfl Tryz.underlying9<|gr H fun g412 H=>Dv.sss rfl (gg rfl) rfl Tryz.underlying9 bdE_none (bdE_some rfl g412.1) g412.2.1 g412.2.2<|mvg rfl rfl rfl<|bng rfl rfl rfl rfl run_seq<|pt0 rfl rfl rfl<|as0 rfl rfl<|.fin ?_
 cases H.out; exact r0 i2 rfl (.cons (res_tmp rfl) .nil)
theorem stringslite_CutPrefix.c {a0:ByteArray} {a1:ByteArray} {r:ByteArray×Bool} (h:stringslite_CutPrefix.f a0 a1 = some r):Pt Tryz.prog 167 [vS a0,vS a1] (tup [vS r.1,vB r.2]):=by
 unfold stringslite_CutPrefix.f at h
 refine pb Tryz.func167 Tryz.ntmps167 h fun R0 F H=>?_
 refine WP.seq<|rg 2 0<|as0 rfl rfl<|as0 rfl rfl<|.fin<|WP.seq<|WP.seq<|rg 4 0<|mv0 rfl rfl<|mv0 rfl rfl<|el H fun t413 h414 H=>cl rfl cal180 rfl (stringslite_HasPrefix.c h414)<|un0 rfl rfl (run_not _)<|.fin<|cd H rfl (fun _ H=>?_) (fun _ H=>?_)
 ·
  refine WP.seq<|rg 3 0<|mv0 rfl rfl<|as0 rfl rfl<|as0 rfl rfl<|.fin ?_
  cases H.out; exact r0 i2 rfl (.cons (res_tmp rfl) (.cons (res_tmp rfl) .nil))
 refine WP.skip<|WP.seq<|rg 6 0<|mv0 rfl rfl<|mv0 rfl rfl<|Dv.lens rfl trivial rfl Tryz.underlying9<|gr H fun g416 H=>Dv.sss rfl trivial rfl Tryz.underlying9 (bdE_some rfl g416.1) bdE_none g416.2.1 g416.2.2<|as0 rfl rfl<|as0 rfl rfl<|.fin ?_
 cases H.out; exact r0 i2 rfl (.cons (res_tmp rfl) (.cons (res_tmp rfl) .nil))
theorem strings_CutPrefix.c {a0:ByteArray} {a1:ByteArray} {r:ByteArray×Bool} (h:strings_CutPrefix.f a0 a1 = some r):Pt Tryz.prog 152 [vS a0,vS a1] (tup [vS r.1,vB r.2]):=by
 unfold strings_CutPrefix.f at h
 refine pb Tryz.func152 Tryz.ntmps152 h fun R0 F H=>?_
 refine WP.seq<|rg 2 0<|as0 rfl rfl<|as0 rfl rfl<|.fin<|WP.seq<|rg 7 0<|mv0 rfl rfl<|mv0 rfl rfl<|el H fun t417 h418 H=>cl rfl cal167 rfl (stringslite_CutPrefix.c h418)<|ex0 rfl trivial rfl rfl<|ex0 rfl trivial rfl rfl<|as0 rfl rfl<|as0 rfl rfl<|.fin ?_
 cases H.out; exact r0 i2 rfl (.cons (res_tmp rfl) (.cons (res_tmp rfl) .nil))
theorem name_Event.c {k:Nat} {a0:ByteArray} {r:Bool} (h:name_Event.f k a0 = some r):Pt Tryz.prog 121 [vS a0] (vB r):=by
 unfold name_Event.f at h
 refine pb Tryz.func121 Tryz.ntmps121 h fun R0 F H=>?_
 refine WP.seq<|rg 1 0<|as0 rfl rfl<|.fin<|WP.seq<|rg 7 0<|mv0 rfl rfl<|el H fun t419 h420 H=>cl rfl cal152 rfl (strings_CutPrefix.c h420)<|mv0 rfl rfl<|ex0 rfl trivial rfl rfl<|ex0 rfl trivial rfl rfl<|as0 rfl rfl<|as0 rfl rfl<|.fin<|WP.seq<|rg 6 0<|mv0 rfl rfl<|mv0 rfl rfl ?_
 cases c421:t419.2
 ·
  have H:=H.cf c421
  refine sk rfl rfl<|sk rfl rfl<|pf0 rfl rfl rfl<|as0 rfl rfl<|.fin ?_
  cases H.out; exact r0 i2 rfl (.cons (res_tmp rfl) .nil)
 have H:=H.ct c421
 refine mvg rfl rfl rfl<|el H fun t422 h423 H=>Dv.call rfl (gg rfl) cal98 rfl (name_may.c h423)<|pt0 rfl rfl rfl<|as0 rfl rfl<|.fin ?_
 cases H.out; exact r0 i2 rfl (.cons (res_tmp rfl) .nil)
theorem stringslite_Index.c {a0:ByteArray} {a1:ByteArray} {r:Int} (h:stringslite_Index.f a0 a1 = some r):Pt Tryz.prog 182 [vS a0,vS a1] (vI r):=by
 unfold stringslite_Index.f at h
 refine pb Tryz.func182 Tryz.ntmps182 h fun R0 F H=>?_
 refine WP.seq<|rg 1 0<|as0 rfl rfl<|.fin<|WP.seq<|rg 3 0<|mv0 rfl rfl<|Dv.lens rfl trivial rfl Tryz.underlying9<|as0 rfl rfl<|.fin<|WP.seq<|WP.block<|WP.seq<|rg 8 0<|mv0 rfl rfl<|bn0 rfl rfl rfl run_eq<|mv0 rfl rfl ?_
 cases c424:((a1.size:Int) == 0)
 rotate_left
 ·
  have H:=H.ct c424
  refine sk rfl rfl<|sk rfl rfl<|sk rfl rfl<|pt0 rfl rfl rfl<|as0 rfl rfl<|.fin<|WP.cond rfl (fun _=>?_) nofun
  refine WP.seq<|rg 1 0<|as0 rfl rfl<|.fin ?_
  cases H.out; exact r0 i2 rfl (.cons (res_tmp rfl) .nil)
 have H:=H.cf c424
 refine mvg rfl rfl rfl<|mvg rfl rfl rfl<|bng rfl rfl rfl rfl run_seq<|pf0 rfl rfl rfl<|as0 rfl rfl<|.fin<|cd H rfl (fun _ H=>?_) (fun _ H=>?_)
 ·
  refine WP.seq<|rg 1 0<|as0 rfl rfl<|.fin ?_
  cases H.out; exact r0 i2 rfl (.cons (res_tmp rfl) .nil)
 refine WP.seq<|rg 3 0<|mv0 rfl rfl<|bn0 rfl rfl rfl run_eq<|as0 rfl rfl<|.fin<|cd H rfl (fun _ H=>?_) (fun _ H=>?_)
 ·
  refine WP.seq<|rg 5 0<|mv0 rfl rfl<|mv0 rfl rfl<|gr H fun g428 H=>Dv.ixs rfl trivial rfl rfl Tryz.underlying9 g428.1 g428.2<|el H fun t429 h430 H=>cl rfl cal168 rfl (stringslite_IndexByte.c h430)<|as0 rfl rfl<|.fin ?_
  cases H.out; exact r0 i2 rfl (.cons (res_tmp rfl) .nil)
 refine WP.seq<|rg 5 0<|mv0 rfl rfl<|mv0 rfl rfl<|Dv.lens rfl trivial rfl Tryz.underlying9<|bn0 rfl rfl rfl run_ge<|as0 rfl rfl<|.fin<|cd H rfl (fun _ H=>?_) (fun _ H=>?_)
 rotate_left
 ·
  exact (Gets.no H).elim
 refine WP.seq<|rg 1 0<|as0 rfl rfl<|.fin ?_
 cases H.out; exact r0 i2 rfl (.cons (res_tmp rfl) .nil)
theorem stringslite_Cut.c {a0:ByteArray} {a1:ByteArray} {r:ByteArray×ByteArray×Bool} (h:stringslite_Cut.f a0 a1 = some r):Pt Tryz.prog 169 [vS a0,vS a1] (tup [vS r.1,vS r.2.1,vB r.2.2]):=by
 unfold stringslite_Cut.f at h
 refine pb Tryz.func169 Tryz.ntmps169 h fun R0 F H=>?_
 refine WP.seq<|rg 3 0<|as0 rfl rfl<|as0 rfl rfl<|as0 rfl rfl<|.fin<|WP.seq<|WP.seq<|rg 4 0<|mv0 rfl rfl<|mv0 rfl rfl<|el H fun t432 h433 H=>cl rfl cal182 rfl (stringslite_Index.c h433)<|as0 rfl rfl<|.fin<|WP.seq<|rg 2 0<|mv0 rfl rfl<|bn0 rfl rfl rfl run_ge<|.fin<|cd H rfl (fun _ H=>?_) (fun _ H=>?_)
 rotate_left
 ·
  refine WP.skip<|WP.seq<|rg 4 0<|mv0 rfl rfl<|as0 rfl rfl<|as0 rfl rfl<|as0 rfl rfl<|.fin ?_
  cases H.out; exact r0 i2 rfl (.cons (res_tmp rfl) (.cons (res_tmp rfl) (.cons (res_tmp rfl) .nil)))
 refine WP.seq<|dg Tryz.checked.mixed 12 0<|mv0 rfl rfl<|mv0 rfl rfl<|gr H fun g435 H=>Dv.sss rfl trivial rfl Tryz.underlying9 bdE_none (bdE_some rfl g435.1) g435.2.1 g435.2.2<|mv0 rfl rfl<|mv0 rfl rfl<|mv0 rfl rfl<|Dv.lens rfl trivial rfl Tryz.underlying9<|bn0 rfl rfl rfl run_add<|gr H fun g436 H=>Dv.sss rfl trivial rfl Tryz.underlying9 (bdE_some rfl g436.1) bdE_none g436.2.1 g436.2.2<|as0 rfl rfl<|as0 rfl rfl<|as0 rfl rfl<|.fin ?_
 cases H.out; exact r0 i2 rfl (.cons (res_tmp rfl) (.cons (res_tmp rfl) (.cons (res_tmp rfl) .nil)))
theorem strings_Cut.c {a0:ByteArray} {a1:ByteArray} {r:ByteArray×ByteArray×Bool} (h:strings_Cut.f a0 a1 = some r):Pt Tryz.prog 160 [vS a0,vS a1] (tup [vS r.1,vS r.2.1,vB r.2.2]):=by
 unfold strings_Cut.f at h
 refine pb Tryz.func160 Tryz.ntmps160 h fun R0 F H=>?_
 refine WP.seq<|rg 3 0<|as0 rfl rfl<|as0 rfl rfl<|as0 rfl rfl<|.fin<|WP.seq<|rg 9 0<|mv0 rfl rfl<|mv0 rfl rfl<|el H fun t437 h438 H=>cl rfl cal169 rfl (stringslite_Cut.c h438)<|ex0 rfl trivial rfl rfl<|ex0 rfl trivial rfl rfl<|ex0 rfl trivial rfl rfl<|as0 rfl rfl<|as0 rfl rfl<|as0 rfl rfl<|.fin ?_
 cases H.out; exact r0 i2 rfl (.cons (res_tmp rfl) (.cons (res_tmp rfl) (.cons (res_tmp rfl) .nil)))
theorem name_split.c {k:Nat} {a0:ByteArray} {a1:ByteArray} {r:ByteArray×ByteArray×Bool} (h:name_split.f k a0 a1 = some r):Pt Tryz.prog 137 [vS a0,vS a1] (tup [vS r.1,vS r.2.1,vB r.2.2]):=by
 unfold name_split.f at h
 refine pb Tryz.func137 Tryz.ntmps137 h fun R0 F H=>?_
 refine WP.seq<|rg 3 0<|as0 rfl rfl<|as0 rfl rfl<|as0 rfl rfl<|.fin<|WP.seq<|rg 8 0<|mv0 rfl rfl<|mv0 rfl rfl<|el H fun t439 h440 H=>cl rfl cal152 rfl (strings_CutPrefix.c h440)<|mv0 rfl rfl<|ex0 rfl trivial rfl rfl<|ex0 rfl trivial rfl rfl<|as0 rfl rfl<|as0 rfl rfl<|.fin<|WP.seq<|rg 9 0<|mv0 rfl rfl<|el H fun t441 h442 H=>cl rfl cal160 rfl (strings_Cut.c h442)<|mv0 rfl rfl<|ex0 rfl trivial rfl rfl<|ex0 rfl trivial rfl rfl<|ex0 rfl trivial rfl rfl<|as0 rfl rfl<|as0 rfl rfl<|as0 rfl rfl<|.fin<|WP.seq<|rg 17 0<|mv0 rfl rfl<|mv0 rfl rfl<|mv0 rfl rfl<|mv0 rfl rfl ?_
 cases c443:t439.2
 ·
  have H:=H.cf c443
  refine sk rfl rfl<|pf0 rfl rfl rfl<|mv0 rfl rfl<|sk rfl rfl<|sk rfl rfl<|pf0 rfl rfl rfl<|mv0 rfl rfl<|sk rfl rfl<|sk rfl rfl<|pf0 rfl rfl rfl<|as0 rfl rfl<|as0 rfl rfl<|as0 rfl rfl<|.fin ?_
  cases H.out; exact r0 i2 rfl (.cons (res_tmp rfl) (.cons (res_tmp rfl) (.cons (res_tmp rfl) .nil)))
 have H:=H.ct c443
 refine mvg rfl rfl rfl<|pt0 rfl rfl rfl<|mv0 rfl rfl ?_
 cases c444:t441.2.2
 ·
  have H:=H.cf c444
  refine sk rfl rfl<|sk rfl rfl<|pf0 rfl rfl rfl<|mv0 rfl rfl<|sk rfl rfl<|sk rfl rfl<|pf0 rfl rfl rfl<|as0 rfl rfl<|as0 rfl rfl<|as0 rfl rfl<|.fin ?_
  cases H.out; exact r0 i2 rfl (.cons (res_tmp rfl) (.cons (res_tmp rfl) (.cons (res_tmp rfl) .nil)))
 have H:=H.ct c444
 refine mvg rfl rfl rfl<|el H fun t445 h446 H=>Dv.call rfl (gg rfl) cal98 rfl (name_may.c h446)<|pt0 rfl rfl rfl<|mv0 rfl rfl ?_
 cases c447:t445
 ·
  have H:=H.cf c447
  refine sk rfl rfl<|sk rfl rfl<|pf0 rfl rfl rfl<|as0 rfl rfl<|as0 rfl rfl<|as0 rfl rfl<|.fin ?_
  cases H.out; exact r0 i2 rfl (.cons (res_tmp rfl) (.cons (res_tmp rfl) (.cons (res_tmp rfl) .nil)))
 have H:=H.ct c447
 refine mvg rfl rfl rfl<|el H fun t448 h449 H=>Dv.call rfl (gg rfl) cal59 rfl (name_Server.c h449)<|pt0 rfl rfl rfl<|as0 rfl rfl<|as0 rfl rfl<|as0 rfl rfl<|.fin ?_
 cases H.out; exact r0 i2 rfl (.cons (res_tmp rfl) (.cons (res_tmp rfl) (.cons (res_tmp rfl) .nil)))
theorem name_Room.c {k:Nat} {a0:ByteArray} {r:Bool} (h:name_Room.f k a0 = some r):Pt Tryz.prog 122 [vS a0] (vB r):=by
 unfold name_Room.f at h
 refine pb Tryz.func122 Tryz.ntmps122 h fun R0 F H=>?_
 refine WP.seq<|rg 1 0<|as0 rfl rfl<|.fin<|WP.seq<|rg 9 0<|mv0 rfl rfl<|el H fun t450 h451 H=>cl rfl cal137 rfl (name_split.c h451)<|mv0 rfl rfl<|ex0 rfl trivial rfl rfl<|ex0 rfl trivial rfl rfl<|ex0 rfl trivial rfl rfl<|as0 rfl rfl<|as0 rfl rfl<|as0 rfl rfl<|.fin<|WP.seq<|rg 2 0<|mv0 rfl rfl<|as0 rfl rfl<|.fin ?_
 cases H.out; exact r0 i2 rfl (.cons (res_tmp rfl) .nil)
theorem name_Thread.c {k:Nat} {a0:ByteArray} {r:Bool} (h:name_Thread.f k a0 = some r):Pt Tryz.prog 134 [vS a0] (vB r):=by
 unfold name_Thread.f at h
 refine pb Tryz.func134 Tryz.ntmps134 h fun R0 F H=>?_
 refine WP.seq<|rg 1 0<|as0 rfl rfl<|.fin<|WP.seq<|rg 11 0<|mv0 rfl rfl<|bn0 rfl rfl rfl run_seq<|mv0 rfl rfl ?_
 cases c452:decide (a0 = (⟨#[]⟩:ByteArray))
 rotate_left
 ·
  have H:=H.ct c452
  refine sk rfl rfl<|sk rfl rfl<|pt0 rfl rfl rfl<|mv0 rfl rfl<|sk rfl rfl<|sk rfl rfl<|pt0 rfl rfl rfl<|as0 rfl rfl<|.fin ?_
  cases H.out; exact r0 i2 rfl (.cons (res_tmp rfl) .nil)
 have H:=H.cf c452
 refine mvg rfl rfl rfl<|bng rfl rfl rfl rfl run_seq<|pf0 rfl rfl rfl<|mv0 rfl rfl ?_
 cases c453:decide (a0 = (⟨#[109,97,105,110]⟩:ByteArray))
 rotate_left
 ·
  have H:=H.ct c453
  refine sk rfl rfl<|sk rfl rfl<|pt0 rfl rfl rfl<|as0 rfl rfl<|.fin ?_
  cases H.out; exact r0 i2 rfl (.cons (res_tmp rfl) .nil)
 have H:=H.cf c453
 refine mvg rfl rfl rfl<|el H fun t454 h455 H=>Dv.call rfl (gg rfl) cal121 rfl (name_Event.c h455)<|pf0 rfl rfl rfl<|as0 rfl rfl<|.fin ?_
 cases H.out; exact r0 i2 rfl (.cons (res_tmp rfl) .nil)
theorem edu_asks_3.c {k:Nat} {a0:Edu} {r:Bool} (h:edu_asks_3.f k a0 = some r):Pt Tryz.prog 133 [agg (Edu.enc a0)] (vB r):=by
 unfold edu_asks_3.f at h
 refine pb Tryz.func133 Tryz.ntmps133 h fun R0 F H=>?_
 refine WP.seq<|rg 2 1<|Dv.box rfl trivial rfl cA nofun fun b456=>as0 rfl rfl<|.fin<|WP.seq<|rg 14 0<|fb rfl trivial rfl fa32_1<|ld 0 rfl trivial rfl sc9 rfl rfl<|el H fun t457 h458 H=>cl rfl cal122 rfl (name_Room.c h458)<|mv0 rfl rfl ?_
 cases c459:t457
 ·
  have H:=H.cf c459
  refine sk rfl rfl<|sk rfl rfl<|sk rfl rfl<|pf0 rfl rfl rfl<|mv0 rfl rfl<|sk rfl rfl<|sk rfl rfl<|sk rfl rfl<|pf0 rfl rfl rfl<|as0 rfl rfl<|.fin ?_
  cases H.out; exact r1 i2 rfl (.cons (res_tmp rfl) .nil)
 have H:=H.ct c459
 refine fb rfl (gg rfl) rfl fa32_3<|ld 0 rfl (gg rfl) rfl sc9 rfl rfl<|el H fun t460 h461 H=>Dv.call rfl (gg rfl) cal121 rfl (name_Event.c h461)<|pt0 rfl rfl rfl<|mv0 rfl rfl ?_
 cases c462:t460
 ·
  have H:=H.cf c462
  refine sk rfl rfl<|sk rfl rfl<|sk rfl rfl<|pf0 rfl rfl rfl<|as0 rfl rfl<|.fin ?_
  cases H.out; exact r1 i2 rfl (.cons (res_tmp rfl) .nil)
 have H:=H.ct c462
 refine fb rfl (gg rfl) rfl fa32_4<|ld 0 rfl (gg rfl) rfl sc9 rfl rfl<|el H fun t463 h464 H=>Dv.call rfl (gg rfl) cal134 rfl (name_Thread.c h464)<|pt0 rfl rfl rfl<|as0 rfl rfl<|.fin ?_
 cases H.out; exact r1 i2 rfl (.cons (res_tmp rfl) .nil)
theorem edu_asks_4.c {k:Nat} {a0:Edu} {c0:Int→Int→Int→Option Bool} {r:Bool} (h:edu_asks_4.f k a0 c0 = some r):Pt Tryz.prog 135 [agg (Edu.enc a0),rp [fq_int_int_int_bool c0]] (vB r):=by
 unfold edu_asks_4.f at h
 refine pb Tryz.func135 Tryz.ntmps135 h fun R0 F H=>?_
 refine WP.seq<|rg 2 1<|Dv.box rfl trivial rfl cA nofun fun b465=>as0 rfl rfl<|.fin<|WP.seq<|rg 15 0<|fb rfl trivial rfl fa32_1<|ld 0 rfl trivial rfl sc9 rfl rfl<|el H fun t466 h467 H=>cl rfl cal122 rfl (name_Room.c h467)<|mv0 rfl rfl ?_
 cases c468:t466
 ·
  have H:=H.cf c468
  refine sk rfl rfl<|sk rfl rfl<|sk rfl rfl<|sk rfl rfl<|sku rfl rfl<|sku rfl rfl<|sku rfl rfl<|sku rfl rfl<|sk rfl rfl<|pf0 rfl rfl rfl<|as0 rfl rfl<|.fin ?_
  cases H.out; exact r1 i2 rfl (.cons (res_tmp rfl) .nil)
 have H:=H.ct c468
 refine fb rfl (gg rfl) rfl fa32_6<|ld 0 rfl (gg rfl) rfl sc4 rfl rfl<|ung rfl rfl rfl (run_not _)<|mvg rfl rfl rfl ?_
 cases c469:!a0.fOn
 rotate_left
 ·
  have H:=H.ct c469
  refine sk rfl rfl<|sk rfl rfl<|sk rfl rfl<|sk rfl rfl<|ptg rfl rfl rfl rfl<|pt0 rfl rfl rfl<|as0 rfl rfl<|.fin ?_
  cases H.out; exact r1 i2 rfl (.cons (res_tmp rfl) .nil)
 have H:=H.cf c469
 refine ldR rfl (gg rfl) rfl sc71 rfl<|fb rfl (gg rfl) rfl fa32_7<|ld 0 rfl (gg rfl) rfl sc3 rfl rfl<|el H fun t470 h471 H=>Dv.callq (ret:=vB t470) rfl (gg rfl) rfl rfl ⟨_,_,_,_,h471,rfl,rfl⟩<|pfg rfl rfl rfl rfl<|pt0 rfl rfl rfl<|as0 rfl rfl<|.fin ?_
 cases H.out; exact r1 i2 rfl (.cons (res_tmp rfl) .nil)
theorem edu_asks_5.c {a0:Edu} {c0:Int→Int→Int→Option Bool} {r:Bool} (h:edu_asks_5.f a0 c0 = some r):Pt Tryz.prog 136 [agg (Edu.enc a0),rp [fq_int_int_int_bool c0]] (vB r):=by
 unfold edu_asks_5.f at h
 refine pb Tryz.func136 Tryz.ntmps136 h fun R0 F H=>?_
 refine WP.seq<|rg 2 1<|Dv.box rfl trivial rfl cA nofun fun b472=>as0 rfl rfl<|.fin<|WP.seq<|rg 5 0<|ldR rfl trivial rfl sc71 rfl<|fb rfl trivial rfl fa32_8<|ld 0 rfl trivial rfl sc3 rfl rfl<|el H fun t473 h474 H=>Dv.callq (ret:=vB t473) rfl trivial rfl rfl ⟨_,_,_,_,h474,rfl,rfl⟩<|as0 rfl rfl<|.fin ?_
 cases H.out; exact r1 i2 rfl (.cons (res_tmp rfl) .nil)
theorem edu_asks.c {k:Nat} {r:(List (Edu→Option Bool))} (h:edu_asks.f k = some r):Pt Tryz.prog 104 [] (sl fK_api_Edu_bool r):=by
 unfold edu_asks.f at h
 refine pb Tryz.func104 Tryz.ntmps104 h fun R0 F H=>?_
 refine WP.seq<|rg 1 0<|as0 rfl rfl<|.fin<|WP.seq<|rg 2 3<|al rfl trivial zc71 nofun fun b475=>sx 0 rfl trivial rfl rfl cE sz71 rfl rfl rfl nofun ?_
 refine .fin<|WP.seq<|rg 4 0<|Dv.gh (gh_frzb (E':=[(0,eq (.slice none 0 0)),(1,rp [eq (.func (.func 131) #[] #[])])]) (l':=F) 0 rfl (cve_cons rfl cv_id (cve_cons rfl cv_eq cve_nil)) (all2_app .nil fun _=>cva_id)) (fun _ _=>?_)
 refine Dv.mkf (Q:=fqQ_api_Edu_bool (fun a0_=>edu_asks_4.f k a0_ edu_asks_1.f)) cal135 (by rintro _ _ ⟨a0_,r_,h_,rfl,rfl⟩; exact Pt.weak (edu_asks_4.c h_) (.cons wk_id (.cons (wk_rp (.cons (wk_fn cal131 (by rintro _ _ ⟨a0_,a1_,a2_,r_,h_,rfl,rfl⟩; exact edu_asks_1.c h_)) .nil)) .nil))) rfl trivial rfl rfl<|Dv.mkf (Q:=fqQ_api_Edu_bool (fun a0_=>edu_asks_5.f a0_ edu_asks_1.f)) cal136 (by rintro _ _ ⟨a0_,r_,h_,rfl,rfl⟩; exact Pt.weak (edu_asks_5.c h_) (.cons wk_id (.cons (wk_rp (.cons (wk_fn cal131 (by rintro _ _ ⟨a0_,a1_,a2_,r_,h_,rfl,rfl⟩; exact edu_asks_1.c h_)) .nil)) .nil))) rfl trivial rfl rfl<|Dv.lit fK_api_Edu_bool ([edu_asks_2.f,edu_asks_3.f k,fun a0_=>edu_asks_4.f k a0_ edu_asks_1.f,fun a0_=>edu_asks_5.f a0_ edu_asks_1.f]:List (Edu→Option Bool)) (css:=[[fq_api_Edu_bool edu_asks_2.f],[fq_api_Edu_bool (edu_asks_3.f k)],[fq_api_Edu_bool (fun a0_=>edu_asks_4.f k a0_ edu_asks_1.f)],[fq_api_Edu_bool (fun a0_=>edu_asks_5.f a0_ edu_asks_1.f)]]) rfl trivial Tryz.underlying177 Tryz.underlying99 c99 z99 rfl (by decide) (by decide) rfl ⟨(cells_wk (wk_fn cal132 (by rintro _ _ ⟨a0_,r_,h_,rfl,rfl⟩; exact edu_asks_2.c h_)) (one_eq rfl)),⟨(cells_wk (wk_fn cal133 (by rintro _ _ ⟨a0_,r_,h_,rfl,rfl⟩; exact edu_asks_3.c h_)) (one_eq rfl)),⟨(cells_one one_fnq),⟨(cells_one one_fnq),trivial⟩⟩⟩⟩ rfl rfl rfl<|as0 rfl rfl<|.fin ?_
 cases H.out; exact r0 i2 rfl (.cons (res_tmp rfl) .nil)
theorem edu_Local_1.c {a0:Int} {r:Bool} (h:edu_Local_1.f a0 = some r):Pt Tryz.prog 105 [vI a0] (vB r):=by
 unfold edu_Local_1.f at h
 refine pb Tryz.func105 Tryz.ntmps105 h fun R0 F H=>?_
 refine WP.seq<|rg 1 0<|as0 rfl rfl<|.fin<|WP.seq<|rg 7 0<|mv0 rfl rfl<|bn0 rfl rfl rfl run_ge<|mv0 rfl rfl ?_
 cases c476:decide (0≤a0)
 ·
  have H:=H.cf c476
  refine sk rfl rfl<|sk rfl rfl<|pf0 rfl rfl rfl<|as0 rfl rfl<|.fin ?_
  cases H.out; exact r0 i2 rfl (.cons (res_tmp rfl) .nil)
 have H:=H.ct c476
 refine mvg rfl rfl rfl<|bng rfl rfl rfl rfl run_le<|pt0 rfl rfl rfl<|as0 rfl rfl<|.fin ?_
 cases H.out; exact r0 i2 rfl (.cons (res_tmp rfl) .nil)
theorem edu_named.c {a0:Edu} {r:Edu} (h:edu_named.f a0 = some r):Pt Tryz.prog 106 [agg (Edu.enc a0)] (agg (Edu.enc r)):=by
 unfold edu_named.f at h
 refine pb Tryz.func106 Tryz.ntmps106 h fun R0 F H=>?_
 refine WP.seq<|rg 2 3<|Dv.box rfl trivial rfl cA nofun fun b477=>al rfl trivial zc32 nofun fun b478=>.fin<|WP.seq<|rg 11 1536<|fb rfl trivial rfl fa32_0<|ld 1 rfl trivial rfl sc3 rfl rfl<|fb rfl trivial rfl fa32_2<|ld 1 rfl trivial rfl sc9 rfl rfl<|fb rfl trivial rfl fa32_9<|ld 1 rfl trivial rfl sc3 rfl rfl<|fb rfl trivial rfl fa32_10<|ld 1 rfl trivial rfl sc3 rfl rfl<|Dv.bld (qs:=[vI a0.fKind,vS (⟨#[]⟩:ByteArray),vS a0.fUser,vS (⟨#[]⟩:ByteArray),vS (⟨#[]⟩:ByteArray),vB false,vB false,vI 0,vI 0,vI a0.fTick,vI a0.fStamp]) (css:=[[vI a0.fKind],[vS a0.fUser],[vI a0.fTick],[vI a0.fStamp]]) rfl trivial Tryz.underlying32 pl32 z32 rfl ⟨(cells_one (one_eq rfl)),⟨(cells_one (one_eq rfl)),⟨(cells_one (one_eq rfl)),⟨(cells_one (one_eq rfl)),trivial⟩⟩⟩⟩ rfl rfl<|al rfl trivial zc32 nofun fun b479=>sx 0 rfl trivial rfl rfl cA sz32 rfl rfl rfl nofun ?_
 refine .fin<|WP.seq<|WP.seq<|rg 2 0<|fb rfl trivial rfl fa32_0<|ld 2 rfl trivial rfl sc3 rfl rfl<|.fin<|WP.block<|WP.seq<|rg 2 0<|bn0 rfl rfl rfl run_eq<|as0 rfl rfl<|.fin<|cd H rfl (fun _ H=>?_) (fun _ H=>?_)
 ·
  refine dg Tryz.checked.mixed 16 43520<|fb rfl trivial rfl fa32_1<|ld 2 rfl trivial rfl sc9 rfl rfl<|fb rfl trivial rfl fa32_3<|ld 2 rfl trivial rfl sc9 rfl rfl<|fb rfl trivial rfl fa32_4<|ld 2 rfl trivial rfl sc9 rfl rfl<|fb rfl trivial rfl fa32_5<|ld 2 rfl trivial rfl sc4 rfl rfl<|fb rfl trivial rfl fa32_1<|sx 0 rfl trivial rfl rfl cE sz9 rfl rfl rfl (fun _=>(pend_by (by kernel_rfl) (pend_in (fun _=>(mem_at 2 rfl)) (pend_in (fun _=>trivial) (pend_in (fun _=>(mem_at 2 rfl)) (pend_in (fun _=>trivial) (pend_in (fun _=>(mem_at 2 rfl)) (pend_in (fun _=>trivial) (pend_by (by kernel_rfl) (pend_by (by kernel_rfl) pend_nil)))))))))) ?_
  refine fb rfl trivial rfl fa32_3<|sx 0 rfl trivial rfl rfl cE sz9 rfl rfl rfl (fun _=>(pend_by (by kernel_rfl) (pend_by (by kernel_rfl) (pend_in (fun _=>(mem_at 2 rfl)) (pend_in (fun _=>trivial) (pend_in (fun _=>(mem_at 2 rfl)) (pend_in (fun _=>trivial) (pend_by (by kernel_rfl) (pend_by (by kernel_rfl) (pend_by (by kernel_rfl) (pend_by (by kernel_rfl) pend_nil))))))))))) ?_
  refine fb rfl trivial rfl fa32_4<|sx 0 rfl trivial rfl rfl cE sz9 rfl rfl rfl (fun _=>(pend_by (by kernel_rfl) (pend_by (by kernel_rfl) (pend_by (by kernel_rfl) (pend_in (fun _=>(mem_at 2 rfl)) (pend_in (fun _=>trivial) (pend_by (by kernel_rfl) (pend_by (by kernel_rfl) (pend_by (by kernel_rfl) (pend_by (by kernel_rfl) (pend_by (by kernel_rfl) (pend_by (by kernel_rfl) pend_nil)))))))))))) ?_
  refine fb rfl trivial rfl fa32_5<|sx 0 rfl trivial rfl rfl cE sz4 rfl rfl rfl pB ?_
  refine .fin<|WP.seq<|rg 2 2<|lds 0 rfl trivial rfl sg32 rfl rfl<|sx 1 rfl trivial rfl rfl cA sz32 rfl rfl rfl nofun ?_
  refine .fin ?_
  cases H.out; exact r3 i2 rfl (.cons (res_cells rfl Tryz.underlying32 rfl c32 (mem_at 1 rfl) rfl) .nil)
 refine WP.seq<|rg 2 0<|bn0 rfl rfl rfl run_eq<|as0 rfl rfl<|.fin<|cd H rfl (fun _ H=>?_) (fun _ H=>?_)
 rotate_left
 ·
  refine WP.seq<|rg 2 0<|bn0 rfl rfl rfl run_eq<|as0 rfl rfl<|.fin<|cd H rfl (fun _ H=>?_) (fun _ H=>?_)
  rotate_left
  ·
   refine WP.skip<|WP.seq<|rg 2 2<|lds 0 rfl trivial rfl sg32 rfl rfl<|sx 1 rfl trivial rfl rfl cA sz32 rfl rfl rfl nofun ?_
   refine .fin ?_
   cases H.out; exact r3 i2 rfl (.cons (res_cells rfl Tryz.underlying32 rfl c32 (mem_at 1 rfl) rfl) .nil)
  refine rg 4 8<|fb rfl trivial rfl fa32_8<|ld 2 rfl trivial rfl sc3 rfl rfl<|fb rfl trivial rfl fa32_8<|sx 0 rfl trivial rfl rfl cE sz3 rfl rfl rfl nofun ?_
  refine .fin<|WP.seq<|rg 2 2<|lds 0 rfl trivial rfl sg32 rfl rfl<|sx 1 rfl trivial rfl rfl cA sz32 rfl rfl rfl nofun ?_
  refine .fin ?_
  cases H.out; exact r3 i2 rfl (.cons (res_cells rfl Tryz.underlying32 rfl c32 (mem_at 1 rfl) rfl) .nil)
 refine WP.seq<|dg Tryz.checked.mixed 8 160<|fb rfl trivial rfl fa32_1<|ld 2 rfl trivial rfl sc9 rfl rfl<|fb rfl trivial rfl fa32_6<|ld 2 rfl trivial rfl sc4 rfl rfl<|fb rfl trivial rfl fa32_1<|sx 0 rfl trivial rfl rfl cE sz9 rfl rfl rfl (fun _=>(pend_by (by kernel_rfl) (pend_in (fun _=>(mem_at 2 rfl)) (pend_in (fun _=>trivial) (pend_by (by kernel_rfl) (pend_by (by kernel_rfl) pend_nil)))))) ?_
 refine fb rfl trivial rfl fa32_6<|sx 0 rfl trivial rfl rfl cE sz4 rfl rfl rfl pB ?_
 refine .fin<|WP.seq<|rg 2 0<|fb rfl trivial rfl fa32_6<|ld 2 rfl trivial rfl sc4 rfl rfl<|.fin<|cd H rfl (fun _ H=>?_) (fun _ H=>?_)
 rotate_left
 ·
  refine WP.skip<|WP.seq<|rg 2 2<|lds 0 rfl trivial rfl sg32 rfl rfl<|sx 1 rfl trivial rfl rfl cA sz32 rfl rfl rfl nofun ?_
  refine .fin ?_
  cases H.out; exact r3 i2 rfl (.cons (res_cells rfl Tryz.underlying32 rfl c32 (mem_at 1 rfl) rfl) .nil)
 refine rg 4 8<|fb rfl trivial rfl fa32_7<|ld 2 rfl trivial rfl sc3 rfl rfl<|fb rfl trivial rfl fa32_7<|sx 0 rfl trivial rfl rfl cE sz3 rfl rfl rfl nofun ?_
 refine .fin<|WP.seq<|rg 2 2<|lds 0 rfl trivial rfl sg32 rfl rfl<|sx 1 rfl trivial rfl rfl cA sz32 rfl rfl rfl nofun ?_
 refine .fin ?_
 cases H.out; exact r3 i2 rfl (.cons (res_cells rfl Tryz.underlying32 rfl c32 (mem_at 1 rfl) rfl) .nil)
theorem name_User.c {k:Nat} {a0:ByteArray} {r:Bool} (h:name_User.f k a0 = some r):Pt Tryz.prog 107 [vS a0] (vB r):=by
 unfold name_User.f at h
 refine pb Tryz.func107 Tryz.ntmps107 h fun R0 F H=>?_
 refine WP.seq<|rg 1 0<|as0 rfl rfl<|.fin<|WP.seq<|rg 9 0<|mv0 rfl rfl<|el H fun t484 h485 H=>cl rfl cal137 rfl (name_split.c h485)<|mv0 rfl rfl<|ex0 rfl trivial rfl rfl<|ex0 rfl trivial rfl rfl<|ex0 rfl trivial rfl rfl<|as0 rfl rfl<|as0 rfl rfl<|as0 rfl rfl<|.fin<|WP.seq<|rg 2 0<|mv0 rfl rfl<|as0 rfl rfl<|.fin ?_
 cases H.out; exact r0 i2 rfl (.cons (res_tmp rfl) .nil)
theorem edu_Local.c {k:Nat} {a0:Edu} {r:Bool} (h:edu_Local.f k a0 = some r):Pt Tryz.prog 76 [agg (Edu.enc a0)] (vB r):=by
 unfold edu_Local.f at h
 refine pb Tryz.func76 Tryz.ntmps76 h fun R0 F H=>?_
 refine WP.seq<|rg 2 1<|Dv.box rfl trivial rfl cA nofun fun b486=>as0 rfl rfl<|.fin<|WP.seq<|WP.seq<|dg Tryz.checked.mixed 18 0<|fb rfl trivial rfl fa32_0<|ld 0 rfl trivial rfl sc3 rfl rfl<|bn0 rfl rfl rfl run_lt<|mv0 rfl rfl ?_
 cases c487:decide (a0.fKind < 0)
 rotate_left
 ·
  have H:=H.ct c487
  refine sk rfl rfl<|sk rfl rfl<|sk rfl rfl<|pt0 rfl rfl rfl<|mv0 rfl rfl<|sk rfl rfl<|sk rfl rfl<|sk rfl rfl<|sk rfl rfl<|sk rfl rfl<|sk rfl rfl<|sk rfl rfl<|sk rfl rfl<|pt0 rfl rfl rfl<|.fin<|WP.cond rfl (fun _=>?_) nofun
  refine WP.seq<|rg 1 0<|as0 rfl rfl<|.fin ?_
  cases H.out; exact r1 i2 rfl (.cons (res_tmp rfl) .nil)
 have H:=H.cf c487
 refine fb rfl (gg rfl) rfl fa32_0<|ld 0 rfl (gg rfl) rfl sc3 rfl rfl<|bng rfl rfl rfl rfl run_gt<|pf0 rfl rfl rfl<|mv0 rfl rfl ?_
 cases c489:decide (3 < a0.fKind)
 rotate_left
 ·
  have H:=H.ct c489
  refine sk rfl rfl<|sk rfl rfl<|sk rfl rfl<|sk rfl rfl<|sk rfl rfl<|sk rfl rfl<|sk rfl rfl<|sk rfl rfl<|pt0 rfl rfl rfl<|.fin<|WP.cond rfl (fun _=>?_) nofun
  refine WP.seq<|rg 1 0<|as0 rfl rfl<|.fin ?_
  cases H.out; exact r1 i2 rfl (.cons (res_tmp rfl) .nil)
 have H:=H.cf c489
 refine el H fun t491 h492 H=>Dv.call rfl (gg rfl) cal104 rfl (edu_asks.c h492)<|fb rfl (gg rfl) rfl fa32_0<|ld 0 rfl (gg rfl) rfl sc3 rfl rfl<|gr H fun g493 H=>Dv.ixr rfl (gg rfl) rfl rfl Tryz.underlying177 Tryz.underlying99 c99 g493.1 g493.2<|ldR rfl (gg rfl) rfl sc99 rfl<|lds 0 rfl (gg rfl) rfl sg32 rfl rfl<|el H fun t494 h495 H=>Dv.callq (ret:=vB t494) rfl (gg rfl) rfl rfl ⟨_,_,h495,rfl,rfl⟩<|ung rfl rfl rfl (run_not _)<|pf0 rfl rfl rfl<|.fin<|cd H rfl (fun _ H=>?_) (fun _ H=>?_)
 ·
  refine WP.seq<|rg 1 0<|as0 rfl rfl<|.fin ?_
  cases H.out; exact r1 i2 rfl (.cons (res_tmp rfl) .nil)
 refine WP.skip<|WP.seq<|rg 1 0<|as0 rfl rfl<|.fin<|WP.seq<|dg Tryz.checked.mixed 22 0<|lds 0 rfl trivial rfl sg32 rfl rfl<|lds 0 rfl trivial rfl sg32 rfl rfl<|el H fun t497 h498 H=>cl rfl cal106 rfl (edu_named.c h498)<|Dv.eqs [.int .i64 a0.fKind,.string a0.fRoom,.string a0.fUser,.string a0.fEvent,.string a0.fThread,.bool a0.fPrivate,.bool a0.fOn,.int .i64 a0.fSpan,.int .i64 a0.fState,.int .i64 a0.fTick,.int .i64 a0.fStamp] [.int .i64 t497.fKind,.string t497.fRoom,.string t497.fUser,.string t497.fEvent,.string t497.fThread,.bool t497.fPrivate,.bool t497.fOn,.int .i64 t497.fSpan,.int .i64 t497.fState,.int .i64 t497.fTick,.int .i64 t497.fStamp] rfl trivial rfl rfl rfl rfl eg32 (fun _=>equal_of 2 (by decide) (fun _=>eqt32 a0 t497))<|mv0 rfl rfl ?_
 cases c499:decide (a0 = t497)
 ·
  have H:=H.cf c499
  refine sk rfl rfl<|sk rfl rfl<|sk rfl rfl<|pf0 rfl rfl rfl<|mv0 rfl rfl<|sk rfl rfl<|sk rfl rfl<|sk rfl rfl<|sk rfl rfl<|pf0 rfl rfl rfl<|mv0 rfl rfl<|sk rfl rfl<|sk rfl rfl<|sk rfl rfl<|sk rfl rfl<|pf0 rfl rfl rfl<|as0 rfl rfl<|.fin ?_
  cases H.out; exact r1 i2 rfl (.cons (res_tmp rfl) .nil)
 have H:=H.ct c499
 refine fb rfl (gg rfl) rfl fa32_2<|ld 0 rfl (gg rfl) rfl sc9 rfl rfl<|el H fun t500 h501 H=>Dv.call rfl (gg rfl) cal107 rfl (name_User.c h501)<|pt0 rfl rfl rfl<|mv0 rfl rfl ?_
 cases c502:t500
 ·
  have H:=H.cf c502
  refine sk rfl rfl<|sk rfl rfl<|sk rfl rfl<|sk rfl rfl<|pf0 rfl rfl rfl<|mv0 rfl rfl<|sk rfl rfl<|sk rfl rfl<|sk rfl rfl<|sk rfl rfl<|pf0 rfl rfl rfl<|as0 rfl rfl<|.fin ?_
  cases H.out; exact r1 i2 rfl (.cons (res_tmp rfl) .nil)
 have H:=H.ct c502
 refine mvg rfl rfl rfl<|fb rfl (gg rfl) rfl fa32_9<|ld 0 rfl (gg rfl) rfl sc3 rfl rfl<|el H fun t503 h504 H=>Dv.callk rfl (gg rfl) rfl cal105 rfl (edu_Local_1.c h504)<|pt0 rfl rfl rfl<|mv0 rfl rfl ?_
 cases c505:t503
 ·
  have H:=H.cf c505
  refine sk rfl rfl<|sk rfl rfl<|sk rfl rfl<|sk rfl rfl<|pf0 rfl rfl rfl<|as0 rfl rfl<|.fin ?_
  cases H.out; exact r1 i2 rfl (.cons (res_tmp rfl) .nil)
 have H:=H.ct c505
 refine mvg rfl rfl rfl<|fb rfl (gg rfl) rfl fa32_10<|ld 0 rfl (gg rfl) rfl sc3 rfl rfl<|el H fun t506 h507 H=>Dv.callk rfl (gg rfl) rfl cal105 rfl (edu_Local_1.c h507)<|pt0 rfl rfl rfl<|as0 rfl rfl<|.fin ?_
 cases H.out; exact r1 i2 rfl (.cons (res_tmp rfl) .nil)
theorem edu_May.c {k:Nat} {a0:Edu} {r:Bool} (h:edu_May.f k a0 = some r):Pt Tryz.prog 42 [agg (Edu.enc a0)] (vB r):=by
 unfold edu_May.f at h
 refine pb Tryz.func42 Tryz.ntmps42 h fun R0 F H=>?_
 refine WP.seq<|rg 2 1<|Dv.box rfl trivial rfl cA nofun fun b508=>as0 rfl rfl<|.fin<|WP.seq<|rg 8 0<|lds 0 rfl trivial rfl sg32 rfl rfl<|el H fun t509 h510 H=>cl rfl cal76 rfl (edu_Local.c h510)<|mv0 rfl rfl ?_
 cases c511:t509
 ·
  have H:=H.cf c511
  refine sk rfl rfl<|sk rfl rfl<|sk rfl rfl<|pf0 rfl rfl rfl<|as0 rfl rfl<|.fin ?_
  cases H.out; exact r1 i2 rfl (.cons (res_tmp rfl) .nil)
 have H:=H.ct c511
 refine fb rfl (gg rfl) rfl fa32_5<|ld 0 rfl (gg rfl) rfl sc4 rfl rfl<|ung rfl rfl rfl (run_not _)<|pt0 rfl rfl rfl<|as0 rfl rfl<|.fin ?_
 cases H.out; exact r1 i2 rfl (.cons (res_tmp rfl) .nil)
theorem edu_Of.c {a0:Edu} {r:EKey} (h:edu_Of.f a0 = some r):Pt Tryz.prog 43 [agg (Edu.enc a0)] (agg (EKey.enc r)):=by
 unfold edu_Of.f at h
 refine pb Tryz.func43 Tryz.ntmps43 h fun R0 F H=>?_
 refine WP.seq<|rg 2 3<|Dv.box rfl trivial rfl cA nofun fun b512=>al rfl trivial zc101 nofun fun b513=>.fin<|WP.seq<|rg 12 2048<|fb rfl trivial rfl fa32_0<|ld 1 rfl trivial rfl sc3 rfl rfl<|fb rfl trivial rfl fa32_1<|ld 1 rfl trivial rfl sc9 rfl rfl<|fb rfl trivial rfl fa32_2<|ld 1 rfl trivial rfl sc9 rfl rfl<|fb rfl trivial rfl fa32_4<|ld 1 rfl trivial rfl sc9 rfl rfl<|fb rfl trivial rfl fa32_5<|ld 1 rfl trivial rfl sc4 rfl rfl<|Dv.bld (qs:=[vI a0.fKind,vS a0.fRoom,vS a0.fUser,vS a0.fThread,vB a0.fPrivate]) (css:=[[vI a0.fKind],[vS a0.fRoom],[vS a0.fUser],[vS a0.fThread],[vB a0.fPrivate]]) rfl trivial Tryz.underlying101 pl101 z101 rfl ⟨(cells_one (one_eq rfl)),⟨(cells_one (one_eq rfl)),⟨(cells_one (one_eq rfl)),⟨(cells_one (one_eq rfl)),⟨(cells_one (one_eq rfl)),trivial⟩⟩⟩⟩⟩ rfl rfl<|sx 0 rfl trivial rfl rfl cA sz101 rfl rfl rfl nofun ?_
 refine .fin ?_
 cases H.out; exact r2 i2 rfl (.cons (res_cells rfl Tryz.underlying101 rfl c101 (mem_at 0 rfl) rfl) .nil)
theorem cmp_Or_int.c {k:Nat} {a0:List Int} {r:Int} (h:cmp_Or_int.f k a0 = some r):Pt Tryz.prog 108 [sl (intK .i64) a0] (vI r):=by
 unfold cmp_Or_int.f at h
 refine pb Tryz.func108 Tryz.ntmps108 h fun R0 F H=>?_
 refine WP.seq<|rg 1 0<|as0 rfl rfl<|.fin<|WP.seq<|rg 1 0<|as0 rfl rfl<|.fin<|WP.seqr H id (fun p514:Int×Bool=>[(0,sl (intK .i64) a0),(2,vI 0),(3,vI 0),(6,sl (intK .i64) a0),(7,vI (a0.length:Int)),(8,vI p514.1),(9,vB p514.2)]) (fun p514:Int×Bool=>F) (fun p514 H=>?_) (fun H=>?_)
 ·
  refine WP.seq<|rg 2 0<|mv0 rfl rfl<|as0 rfl rfl<|.fin ?_
  cases H.out; exact r0 i2 rfl (.cons (res_tmp rfl) .nil)
 refine WP.seq<|rg 3 0<|mv0 rfl rfl<|Dv.lenl rfl trivial rfl Tryz.underlying61<|mv0 rfl rfl<|.fin<|WP.block<|wg (sg 0 [] 0) fun _ _=>?_
 refine lp (fun j_ (p520:Int)=>cmp_Or_int.l0 k a0 j_ p520) 0 H (fun p520=>[(0,sl (intK .i64) a0),(2,vI 0),(3,vI 0),(6,sl (intK .i64) a0),(7,vI (a0.length:Int)),(8,vI p520)]) (fun p520=>F) ?_
 rintro j_ x515 H
 rcases j_ with _ | j519
 ·
  exact (Gets.no H).elim
 replace H:Gets (cmp_Or_int.l0 k a0 (j519 + 1) x515) _:=H
 rw [cmp_Or_int.l0] at H
 refine WP.seq<|rg 1 0<|bn0 rfl rfl rfl run_lt<|.fin<|WP.seq<|cd H rfl (fun _ H=>?_) (fun _ H=>?_)
 rotate_left
 ·
  refine WP.exit ?_
  have H:=H.out
  exact jn (x515,decide (x515 < (a0.length:Int))) H
 refine WP.skip<|WP.seq<|WP.block<|WP.seq<|rg 3 0<|gr H fun g517 H=>Dv.ixr rfl trivial rfl rfl Tryz.underlying61 Tryz.underlying3 c3 g517.1 g517.2<|ldR rfl trivial rfl sc3 rfl<|as0 rfl rfl<|.fin<|WP.seq<|rg 3 0<|mv0 rfl rfl<|mv0 rfl rfl<|bn0 rfl rfl rfl run_ne<|.fin<|cd H rfl (fun _ H=>?_) (fun _ H=>?_)
 rotate_left
 ·
  exact WP.skip<|rg 2 0<|bn0 rfl rfl rfl run_add<|mv0 rfl rfl<|.fin<|bk j519 (w64 (x515 + 1)) H
 refine WP.seq<|rg 2 0<|mv0 rfl rfl<|as0 rfl rfl<|.fin ?_
 have H:=H.outr
 cases H.out; exact r0 i2 rfl (.cons (res_tmp rfl) .nil)
theorem cmp_isNaN_int.c {a0:Int} {r:Bool} (h:cmp_isNaN_int.f a0 = some r):Pt Tryz.prog 138 [vI a0] (vB r):=by
 unfold cmp_isNaN_int.f at h
 refine pb Tryz.func138 Tryz.ntmps138 h fun R0 F H=>?_
 refine WP.seq<|rg 1 0<|as0 rfl rfl<|.fin<|WP.seq<|rg 4 0<|mv0 rfl rfl<|mv0 rfl rfl<|bn0 rfl rfl rfl run_ne<|as0 rfl rfl<|.fin ?_
 cases H.out; exact r0 i2 rfl (.cons (res_tmp rfl) .nil)
theorem cmp_Compare_int.c {a0:Int} {a1:Int} {r:Int} (h:cmp_Compare_int.f a0 a1 = some r):Pt Tryz.prog 109 [vI a0,vI a1] (vI r):=by
 unfold cmp_Compare_int.f at h
 refine pb Tryz.func109 Tryz.ntmps109 h fun R0 F H=>?_
 refine WP.seq<|rg 1 0<|as0 rfl rfl<|.fin<|WP.seq<|rg 3 0<|mv0 rfl rfl<|el H fun t521 h522 H=>cl rfl cal138 rfl (cmp_isNaN_int.c h522)<|as0 rfl rfl<|.fin<|WP.seq<|rg 3 0<|mv0 rfl rfl<|el H fun t523 h524 H=>cl rfl cal138 rfl (cmp_isNaN_int.c h524)<|as0 rfl rfl<|.fin<|WP.seq<|WP.seq<|rg 1 0<|mv0 rfl rfl<|.fin<|cd H rfl (fun _ H=>?_) (fun _ H=>?_)
 ·
  refine WP.seq<|WP.seq<|rg 1 0<|mv0 rfl rfl<|.fin<|cd H rfl (fun _ H=>?_) (fun _ H=>?_)
  ·
   refine WP.seq<|rg 1 0<|as0 rfl rfl<|.fin ?_
   cases H.out; exact r0 i2 rfl (.cons (res_tmp rfl) .nil)
  refine WP.skip<|WP.seq<|rg 1 0<|as0 rfl rfl<|.fin ?_
  cases H.out; exact r0 i2 rfl (.cons (res_tmp rfl) .nil)
 refine WP.skip<|WP.seq<|WP.seq<|rg 1 0<|mv0 rfl rfl<|.fin<|cd H rfl (fun _ H=>?_) (fun _ H=>?_)
 ·
  refine WP.seq<|rg 1 0<|as0 rfl rfl<|.fin ?_
  cases H.out; exact r0 i2 rfl (.cons (res_tmp rfl) .nil)
 refine WP.skip<|WP.seq<|WP.seq<|rg 3 0<|mv0 rfl rfl<|mv0 rfl rfl<|bn0 rfl rfl rfl run_lt<|.fin<|cd H rfl (fun _ H=>?_) (fun _ H=>?_)
 ·
  refine WP.seq<|rg 1 0<|as0 rfl rfl<|.fin ?_
  cases H.out; exact r0 i2 rfl (.cons (res_tmp rfl) .nil)
 refine WP.skip<|WP.seq<|WP.seq<|rg 3 0<|mv0 rfl rfl<|mv0 rfl rfl<|bn0 rfl rfl rfl run_gt<|.fin<|cd H rfl (fun _ H=>?_) (fun _ H=>?_)
 ·
  refine WP.seq<|rg 1 0<|as0 rfl rfl<|.fin ?_
  cases H.out; exact r0 i2 rfl (.cons (res_tmp rfl) .nil)
 refine WP.skip<|WP.seq<|rg 1 0<|as0 rfl rfl<|.fin ?_
 cases H.out; exact r0 i2 rfl (.cons (res_tmp rfl) .nil)
theorem bytes_Compare.c {a0:List Int} {a1:List Int} {r:Int} (h:bytes_Compare.f a0 a1 = some r):Pt Tryz.prog 110 [sl (intK .u8) a0,sl (intK .u8) a1] (vI r):=by
 unfold bytes_Compare.f at h
 refine pb Tryz.func110 Tryz.ntmps110 h fun R0 F H=>?_
 refine WP.seq<|rg 1 0<|as0 rfl rfl<|.fin<|WP.seq<|rg 4 0<|mv0 rfl rfl<|mv0 rfl rfl<|Dv.cext rfl trivial rfl (xt_cmp Tryz.func139 (by kernel_rfl) rfl xf139 xg139)<|as0 rfl rfl<|.fin ?_
 cases H.out; exact r0 i2 rfl (.cons (res_tmp rfl) .nil)
theorem lay_Number.c {k:Nat} {a0:List Int} {a1:Int} {p0_:OV} {r:(List Int)} (h:lay_Number.f k a0 a1 = some r):Tr Tryz.prog 140 [eq p0_.1,vI a1] [own (intK .u8) p0_.1 a0] (γ:=OV) (fun _=>True) (fun g=>eq g.1) (fun g=>[own (intK .u8) g.1 r]):=by
 unfold lay_Number.f at h
 refine Tr.body Tryz.func140 (c:=_) rfl Tryz.ntmps140 (Nat.le_of_ble_eq_true rfl) fun R0 F=>?_
 replace h:=Gets.of h
 have H:=h
 clear h
 refine WP.seq<|rg 1 0<|as0 rfl rfl<|.fin<|WP.seq<|rg 3 0<|mv0 rfl rfl<|Dv.maxi rfl trivial rfl rfl<|as0 rfl rfl<|.fin<|WP.seq<|rg 7 32<|mv0 rfl rfl<|mv0 rfl rfl<|Dv.lenw rfl trivial rfl (mem_at 0 rfl) Tryz.underlying131<|mv0 rfl rfl<|Dv.lenw rfl trivial rfl (mem_at 0 rfl) Tryz.underlying131<|gr H fun g530 H=>Dv.slo (jj:=0) rfl trivial rfl rfl Tryz.underlying131 Tryz.underlying5 c5 bdE_none (bdE_some rfl g530.1) (.inr ⟨⟨_,_,rfl,g530.1,rfl⟩,rfl,rfl⟩) g530.2.1 g530.2.2 nofun (fun v531=>?_)
 refine as0 rfl rfl<|.fin<|WP.seqn H (fun q544:(Int×Bool×(List Int))×OV=>q544.1) (fun q544:(Int×Bool×(List Int))×OV=>[(0,eq q544.2.1),(1,vI q544.1.1),(4,eq (.slice none 0 0)),(14,vB q544.1.2.1)]) (fun q544:(Int×Bool×(List Int))×OV=>[own (intK .u8) q544.2.1 q544.1.2.2]++F) (fun q544 H=>?_) (fun H=>?_)
 ·
  obtain ⟨p532,v533⟩:=q544
  refine WP.seq<|rg 6 16<|mv0 rfl rfl<|mv0 rfl rfl<|Dv.cvi rfl trivial rfl Tryz.underlying3 Tryz.underlying5<|Dv.lit (intK .u8) ([IntKind.u8.wrap (p532.1)]:List Int) (css:=[[eq (.int .u8 (IntKind.u8.wrap (p532.1)))]]) rfl trivial Tryz.underlying131 Tryz.underlying5 c5 z5 rfl (by decide) (by decide) rfl ⟨(cells_one (one_eq rfl)),trivial⟩ rfl rfl rfl<|gr H fun g534 H=>ap (intK .u8) 0 ([IntKind.u8.wrap (p532.1)]:List Int) src_sl Tryz.underlying131 (.inr ⟨_,Tryz.underlying131⟩) inf5 g534 nofun fun v535=>?_
  refine as0 rfl rfl<|.fin ?_
  obtain rfl:=Gets.out H
  exact rt i2 rfl v535 1 [0] 0 (.cons (res_tmp rfl) .nil)
 refine WP.block<|wg (sg 1 [0] 0) fun _ _=>?_
 refine lp (fun j_ (p543:Int×(List Int)×OV)=>lay_Number.l0 k j_ p543.1 p543.2.1) (max a1 0,(a0.take ((a0.length:Int).toNat)).drop 0,v531) H (fun p543=>[(0,eq p543.2.2.1),(1,vI p543.1),(4,eq (.slice none 0 0))]) (fun p543=>[own (intK .u8) p543.2.2.1 p543.2.1]++F) ?_
 rintro j_ ⟨x536,x537,v538⟩ H
 rcases j_ with _ | j542
 ·
  exact (Gets.no H).elim
 replace H:Gets (lay_Number.l0 k (j542 + 1) x536 x537) _:=H
 rw [lay_Number.l0] at H
 refine WP.seq<|WP.seq<|rg 2 0<|mv0 rfl rfl<|bn0 rfl rfl rfl run_ge<|.fin<|cd H rfl (fun _ H=>?_) (fun _ H=>?_)
 rotate_left
 ·
  refine WP.exit ?_
  have H:=H.out
  exact jn ((x536,decide (128≤x536),x537),v538) H
 refine WP.skip<|WP.seq<|WP.block<|rg 8 64<|mv0 rfl rfl<|mv0 rfl rfl<|bn0 rfl rfl rfl (run_rem (by decide))<|bn0 rfl rfl rfl run_add<|Dv.cvi rfl trivial rfl Tryz.underlying3 Tryz.underlying5<|Dv.lit (intK .u8) ([IntKind.u8.wrap (w64 ((x536.tmod 128) + 128))]:List Int) (css:=[[eq (.int .u8 (IntKind.u8.wrap (w64 ((x536.tmod 128) + 128))))]]) rfl trivial Tryz.underlying131 Tryz.underlying5 c5 z5 rfl (by decide) (by decide) rfl ⟨(cells_one (one_eq rfl)),trivial⟩ rfl rfl rfl<|gr H fun g540 H=>ap (intK .u8) 0 ([IntKind.u8.wrap (w64 ((x536.tmod 128) + 128))]:List Int) src_sl Tryz.underlying131 (.inr ⟨_,Tryz.underlying131⟩) inf5 g540 nofun fun v541=>?_
 exact as0 rfl rfl<|.fin<|rg 3 0<|mv0 rfl rfl<|bn0 rfl rfl rfl (run_quo (by decide))<|as0 rfl rfl<|.fin<|bk j542 (w64 (x536.tdiv 128),x537++([IntKind.u8.wrap (w64 ((x536.tmod 128) + 128))]:List Int),v541) H
theorem lay_Text.c {k:Nat} {a0:List Int} {a1:ByteArray} {p0_:OV} {r:(List Int)} (h:lay_Text.f k a0 a1 = some r):Tr Tryz.prog 141 [eq p0_.1,vS a1] [own (intK .u8) p0_.1 a0] (γ:=OV) (fun _=>True) (fun g=>eq g.1) (fun g=>[own (intK .u8) g.1 r]):=by
 unfold lay_Text.f at h
 refine Tr.body Tryz.func141 (c:=_) rfl Tryz.ntmps141 (Nat.le_of_ble_eq_true rfl) fun R0 F=>?_
 replace h:=Gets.of h
 have H:=h
 clear h
 refine WP.seq<|rg 1 0<|as0 rfl rfl<|.fin<|WP.seq<|rg 7 40<|mv0 rfl rfl<|mv0 rfl rfl<|Dv.lens rfl trivial rfl Tryz.underlying9<|el H fun t545 h546 H=>cx 1 [0] cal140 (lay_Number.c h546 (p0_:=p0_)) nofun fun g547 _=>?_
 refine mv0 rfl rfl<|gr H fun g548 H=>ap (intK .u8) 0 (strBs a1) src_str Tryz.underlying131 (.inl Tryz.underlying9) inf5 g548 nofun fun v549=>?_
 refine as0 rfl rfl<|.fin ?_
 obtain rfl:=Gets.out H
 exact rt i2 rfl v549 1 [0] 0 (.cons (res_tmp rfl) .nil)
theorem lay_Flag.c {k:Nat} {a0:List Int} {a1:Bool} {p0_:OV} {r:(List Int)} (h:lay_Flag.f k a0 a1 = some r):Tr Tryz.prog 142 [eq p0_.1,vB a1] [own (intK .u8) p0_.1 a0] (γ:=OV) (fun _=>True) (fun g=>eq g.1) (fun g=>[own (intK .u8) g.1 r]):=by
 unfold lay_Flag.f at h
 refine Tr.body Tryz.func142 (c:=_) rfl Tryz.ntmps142 (Nat.le_of_ble_eq_true rfl) fun R0 F=>?_
 replace h:=Gets.of h
 have H:=h
 clear h
 refine WP.seq<|rg 1 0<|as0 rfl rfl<|.fin<|WP.seq<|WP.seq<|rg 1 0<|mv0 rfl rfl<|.fin<|cd H rfl (fun _ H=>?_) (fun _ H=>?_)
 ·
  refine WP.seq<|rg 3 2<|mv0 rfl rfl<|el H fun t551 h552 H=>cx 1 [0] cal140 (lay_Number.c h552 (p0_:=p0_)) nofun fun g553 _=>?_
  refine as0 rfl rfl<|.fin ?_
  obtain rfl:=Gets.out H
  exact rt i2 rfl g553 1 [0] 0 (.cons (res_tmp rfl) .nil)
 refine WP.skip<|WP.seq<|rg 3 2<|mv0 rfl rfl<|el H fun t554 h555 H=>cx 1 [0] cal140 (lay_Number.c h555 (p0_:=p0_)) nofun fun g556 _=>?_
 refine as0 rfl rfl<|.fin ?_
 obtain rfl:=Gets.out H
 exact rt i2 rfl g556 1 [0] 0 (.cons (res_tmp rfl) .nil)
theorem edu_laid.c {k:Nat} {a0:Edu} {r:(List Int)} (h:edu_laid.f k a0 = some r):Tr Tryz.prog 111 [agg (Edu.enc a0)] [] (γ:=OV) (fun _=>True) (fun g=>eq g.1) (fun g=>[own (intK .u8) g.1 r]):=by
 unfold edu_laid.f at h
 refine Tr.body Tryz.func111 (c:=_) rfl Tryz.ntmps111 (Nat.le_of_ble_eq_true rfl) fun R0 F=>?_
 replace h:=Gets.of h
 have H:=h
 clear h
 refine WP.seq<|rg 2 1<|Dv.box rfl trivial rfl cA nofun fun b557=>as0 rfl rfl<|.fin<|WP.seq<|rg 4 4<|fb rfl trivial rfl fa32_0<|ld 0 rfl trivial rfl sc3 rfl rfl<|vg (st_nil (intK .u8) none) fun _ _=>?_
 refine el H fun t558 h559 H=>cx 2 [0,1] cal140 (lay_Number.c h559 (p0_:=nilV)) nofun fun g560 _=>?_
 refine as0 rfl rfl<|.fin<|WP.seqn H (fun q589:(Int×Bool×(List Int))×OV=>q589.1) (fun q589:(Int×Bool×(List Int))×OV=>[(0,agg (Edu.enc a0)),(1,eq (.pointer (some ⟨b557,0,none⟩))),(2,eq (.slice none 0 0)),(3,eq q589.2.1),(19,sl strK ([a0.fRoom,a0.fUser,a0.fEvent,a0.fThread]:List ByteArray)),(20,vI (([a0.fRoom,a0.fUser,a0.fEvent,a0.fThread]:List ByteArray).length:Int)),(21,vI q589.1.1),(22,vB q589.1.2.1)]) (fun q589:(Int×Bool×(List Int))×OV=>[blk b557 32 (Edu.enc a0),own (intK .u8) q589.2.1 q589.1.2.2]++F) (fun q589 H=>?_) (fun H=>?_)
 rotate_left
 ·
  refine WP.seq<|rg 11 0<|fb rfl trivial rfl fa32_1<|ld 1 rfl trivial rfl sc9 rfl rfl<|fb rfl trivial rfl fa32_2<|ld 1 rfl trivial rfl sc9 rfl rfl<|fb rfl trivial rfl fa32_3<|ld 1 rfl trivial rfl sc9 rfl rfl<|fb rfl trivial rfl fa32_4<|ld 1 rfl trivial rfl sc9 rfl rfl<|Dv.lit strK ([a0.fRoom,a0.fUser,a0.fEvent,a0.fThread]:List ByteArray) (css:=[[vS a0.fRoom],[vS a0.fUser],[vS a0.fEvent],[vS a0.fThread]]) rfl trivial Tryz.underlying53 Tryz.underlying9 c9 z9 rfl (by decide) (by decide) rfl ⟨(cells_one (one_eq rfl)),⟨(cells_one (one_eq rfl)),⟨(cells_one (one_eq rfl)),⟨(cells_one (one_eq rfl)),trivial⟩⟩⟩⟩ rfl rfl rfl<|Dv.lenl rfl trivial rfl Tryz.underlying53<|mv0 rfl rfl<|.fin<|WP.block<|wg (sg 2 [1,0] 0) fun _ _=>?_
  refine lp (fun j_ (p588:Int×(List Int)×OV)=>edu_laid.l1 k a0 j_ p588.1 p588.2.1) (0,t558,g560) H (fun p588=>[(0,agg (Edu.enc a0)),(1,eq (.pointer (some ⟨b557,0,none⟩))),(2,eq (.slice none 0 0)),(3,eq p588.2.2.1),(19,sl strK ([a0.fRoom,a0.fUser,a0.fEvent,a0.fThread]:List ByteArray)),(20,vI (([a0.fRoom,a0.fUser,a0.fEvent,a0.fThread]:List ByteArray).length:Int)),(21,vI p588.1)]) (fun p588=>[blk b557 32 (Edu.enc a0),own (intK .u8) p588.2.2.1 p588.2.1]++F) ?_
  rintro j_ ⟨x579,x580,v581⟩ H
  rcases j_ with _ | j587
  ·
   exact (Gets.no H).elim
  replace H:Gets (edu_laid.l1 k a0 (j587 + 1) x579 x580) _:=H
  rw [edu_laid.l1] at H
  refine WP.seq<|rg 1 0<|bn0 rfl rfl rfl run_lt<|.fin<|WP.seq<|cd H rfl (fun _ H=>?_) (fun _ H=>?_)
  rotate_left
  ·
   refine WP.exit ?_
   have H:=H.out
   exact jn ((x579,decide (x579 < (([a0.fRoom,a0.fUser,a0.fEvent,a0.fThread]:List ByteArray).length:Int)),x580),v581) H
  refine WP.skip<|WP.seq<|WP.block<|WP.seq<|rg 3 0<|gr H fun g583 H=>Dv.ixr rfl trivial rfl rfl Tryz.underlying53 Tryz.underlying9 c9 g583.1 g583.2<|ldR rfl trivial rfl sc9 rfl<|as0 rfl rfl<|.fin<|rg 4 4<|mv0 rfl rfl<|mv0 rfl rfl<|el H fun t584 h585 H=>cx 2 [1,0] cal141 (lay_Text.c h585 (p0_:=v581)) nofun fun g586 _=>?_
  refine as0 rfl rfl<|.fin<|rg 2 0<|bn0 rfl rfl rfl run_add<|mv0 rfl rfl<|.fin<|ng (sg 2 [1,0] 0) fun _ _=>?_
  exact bk j587 (w64 (x579 + 1),t584,g586) H
 obtain ⟨p561,v562⟩:=q589
 refine WP.seq<|rg 5 8<|mv0 rfl rfl<|fb rfl trivial rfl fa32_6<|ld 0 rfl trivial rfl sc4 rfl rfl<|el H fun t563 h564 H=>cx 2 [1,0] cal142 (lay_Flag.c h564 (p0_:=v562)) nofun fun g565 _=>?_
 refine as0 rfl rfl<|.fin<|WP.seqn H (fun q578:(Int×Bool×(List Int))×OV=>q578.1) (fun q578:(Int×Bool×(List Int))×OV=>[(0,agg (Edu.enc a0)),(1,eq (.pointer (some ⟨b557,0,none⟩))),(2,eq (.slice none 0 0)),(3,eq q578.2.1),(19,sl strK ([a0.fRoom,a0.fUser,a0.fEvent,a0.fThread]:List ByteArray)),(20,vI (([a0.fRoom,a0.fUser,a0.fEvent,a0.fThread]:List ByteArray).length:Int)),(21,vI p561.1),(22,vB p561.2.1),(41,sl (intK .i64) ([a0.fSpan,a0.fState,a0.fTick,a0.fStamp]:List Int)),(42,vI (([a0.fSpan,a0.fState,a0.fTick,a0.fStamp]:List Int).length:Int)),(43,vI q578.1.1),(44,vB q578.1.2.1)]) (fun q578:(Int×Bool×(List Int))×OV=>[blk b557 32 (Edu.enc a0),own (intK .u8) q578.2.1 q578.1.2.2]++F) (fun q578 H=>?_) (fun H=>?_)
 ·
  obtain ⟨p566,v567⟩:=q578
  refine WP.seq<|rg 2 0<|mv0 rfl rfl<|as0 rfl rfl<|.fin ?_
  obtain rfl:=Gets.out H
  exact rt i2 rfl v567 2 [0,1] 1 (.cons (res_tmp rfl) .nil)
 refine WP.seq<|rg 11 0<|fb rfl trivial rfl fa32_7<|ld 1 rfl trivial rfl sc3 rfl rfl<|fb rfl trivial rfl fa32_8<|ld 1 rfl trivial rfl sc3 rfl rfl<|fb rfl trivial rfl fa32_9<|ld 1 rfl trivial rfl sc3 rfl rfl<|fb rfl trivial rfl fa32_10<|ld 1 rfl trivial rfl sc3 rfl rfl<|Dv.lit (intK .i64) ([a0.fSpan,a0.fState,a0.fTick,a0.fStamp]:List Int) (css:=[[vI a0.fSpan],[vI a0.fState],[vI a0.fTick],[vI a0.fStamp]]) rfl trivial Tryz.underlying61 Tryz.underlying3 c3 z3 rfl (by decide) (by decide) rfl ⟨(cells_one (one_eq rfl)),⟨(cells_one (one_eq rfl)),⟨(cells_one (one_eq rfl)),⟨(cells_one (one_eq rfl)),trivial⟩⟩⟩⟩ rfl rfl rfl<|Dv.lenl rfl trivial rfl Tryz.underlying61<|mv0 rfl rfl<|.fin<|WP.block<|wg (sg 2 [1,0] 0) fun _ _=>?_
 refine lp (fun j_ (p577:Int×(List Int)×OV)=>edu_laid.l0 k a0 j_ p577.1 p577.2.1) (0,t563,g565) H (fun p577=>[(0,agg (Edu.enc a0)),(1,eq (.pointer (some ⟨b557,0,none⟩))),(2,eq (.slice none 0 0)),(3,eq p577.2.2.1),(19,sl strK ([a0.fRoom,a0.fUser,a0.fEvent,a0.fThread]:List ByteArray)),(20,vI (([a0.fRoom,a0.fUser,a0.fEvent,a0.fThread]:List ByteArray).length:Int)),(21,vI p561.1),(22,vB p561.2.1),(41,sl (intK .i64) ([a0.fSpan,a0.fState,a0.fTick,a0.fStamp]:List Int)),(42,vI (([a0.fSpan,a0.fState,a0.fTick,a0.fStamp]:List Int).length:Int)),(43,vI p577.1)]) (fun p577=>[blk b557 32 (Edu.enc a0),own (intK .u8) p577.2.2.1 p577.2.1]++F) ?_
 rintro j_ ⟨x568,x569,v570⟩ H
 rcases j_ with _ | j576
 ·
  exact (Gets.no H).elim
 replace H:Gets (edu_laid.l0 k a0 (j576 + 1) x568 x569) _:=H
 rw [edu_laid.l0] at H
 refine WP.seq<|rg 1 0<|bn0 rfl rfl rfl run_lt<|.fin<|WP.seq<|cd H rfl (fun _ H=>?_) (fun _ H=>?_)
 rotate_left
 ·
  refine WP.exit ?_
  have H:=H.out
  exact jn ((x568,decide (x568 < (([a0.fSpan,a0.fState,a0.fTick,a0.fStamp]:List Int).length:Int)),x569),v570) H
 refine WP.skip<|WP.seq<|WP.block<|WP.seq<|rg 3 0<|gr H fun g572 H=>Dv.ixr rfl trivial rfl rfl Tryz.underlying61 Tryz.underlying3 c3 g572.1 g572.2<|ldR rfl trivial rfl sc3 rfl<|as0 rfl rfl<|.fin<|rg 4 4<|mv0 rfl rfl<|mv0 rfl rfl<|el H fun t573 h574 H=>cx 2 [1,0] cal140 (lay_Number.c h574 (p0_:=v570)) nofun fun g575 _=>?_
 refine as0 rfl rfl<|.fin<|rg 2 0<|bn0 rfl rfl rfl run_add<|mv0 rfl rfl<|.fin<|ng (sg 2 [1,0] 0) fun _ _=>?_
 exact bk j576 (w64 (x568 + 1),t573,g575) H
theorem edu_Compare.c {k:Nat} {a0:Edu} {a1:Edu} {r:Int} (h:edu_Compare.f k a0 a1 = some r):Pt Tryz.prog 77 [agg (Edu.enc a0),agg (Edu.enc a1)] (vI r):=by
 unfold edu_Compare.f at h
 refine pb Tryz.func77 Tryz.ntmps77 h fun R0 F H=>?_
 refine WP.seq<|rg 3 3<|Dv.box rfl trivial rfl cA nofun fun b590=>Dv.box rfl trivial rfl cA nofun fun b591=>as0 rfl rfl<|.fin<|WP.seq<|dgo Tryz.checked.mixed [0,1,2,3,4,5,7,6,8,9,10,11,12] [6,8]<|fb rfl trivial rfl fa32_10<|ld 1 rfl trivial rfl sc3 rfl rfl<|fb rfl trivial rfl fa32_10<|ld 0 rfl trivial rfl sc3 rfl rfl<|el H fun t592 h593 H=>cl rfl cal109 rfl (cmp_Compare_int.c h593)<|lds 1 rfl trivial rfl sg32 rfl rfl<|lds 0 rfl trivial rfl sg32 rfl rfl<|el H fun t594 h595 H=>Dv.callx (pre:=[]) (F:=[blk b591 32 (Edu.enc a1),blk b590 32 (Edu.enc a0)]++F) (fun g596:OV=>[own (intK .u8) g596.1 t594,blk b591 32 (Edu.enc a1),blk b590 32 (Edu.enc a0)]++F) rfl trivial cal111 rfl (edu_laid.c h595) (perm_to (L:=[blk b591 32 (Edu.enc a1),blk b590 32 (Edu.enc a0)]) (F:=F) [0,1] rfl rfl rfl) rfl (fun _=>pendc (pend_in (fun _=>(mem_at 1 rfl)) (pend_by (by kernel_rfl) (pend_by (by kernel_rfl) (pend_by (by kernel_rfl) (pend_by (by kernel_rfl) (pend_by (by kernel_rfl) (pend_by (by kernel_rfl) pend_nil)))))))) (fun g596 _=>?_)
 refine el H fun t597 h598 H=>cx 3 [0,1,2] cal111 (edu_laid.c h598) pC fun g599 _=>?_
 refine el H fun t600 h601 H=>cll (B:=[own (intK .u8) g596.1 t594,own (intK .u8) g599.1 t597]) 4 [1,0,2,3] cal110 (Pt.lend _ (bytes_Compare.c h601) (.cons (lt_own (mem_at 0 rfl)) (.cons (lt_own (mem_at 1 rfl)) .nil)) flat_eq) ?_
 refine Dv.lit (intK .i64) ([t592,t600]:List Int) (css:=[[vI t592],[vI t600]]) rfl trivial Tryz.underlying61 Tryz.underlying3 c3 z3 rfl (by decide) (by decide) rfl ⟨(cells_one (one_eq rfl)),⟨(cells_one (one_eq rfl)),trivial⟩⟩ rfl rfl rfl<|el H fun t602 h603 H=>cl rfl cal108 rfl (cmp_Or_int.c h603)<|as0 rfl rfl<|.fin ?_
 cases H.out; exact r4 i2 rfl (.cons (res_tmp rfl) .nil)
theorem edu_Later.c {k:Nat} {a0:Edu} {a1:Edu} {r:Bool} (h:edu_Later.f k a0 a1 = some r):Pt Tryz.prog 44 [agg (Edu.enc a0),agg (Edu.enc a1)] (vB r):=by
 unfold edu_Later.f at h
 refine pb Tryz.func44 Tryz.ntmps44 h fun R0 F H=>?_
 refine WP.seq<|rg 3 3<|Dv.box rfl trivial rfl cA nofun fun b604=>Dv.box rfl trivial rfl cA nofun fun b605=>as0 rfl rfl<|.fin<|WP.seq<|dg Tryz.checked.mixed 12 0<|lds 1 rfl trivial rfl sg32 rfl rfl<|el H fun t606 h607 H=>cl rfl cal43 rfl (edu_Of.c h607)<|lds 0 rfl trivial rfl sg32 rfl rfl<|el H fun t608 h609 H=>cl rfl cal43 rfl (edu_Of.c h609)<|Dv.eqs [.int .i64 t606.fKind,.string t606.fRoom,.string t606.fUser,.string t606.fThread,.bool t606.fPrivate] [.int .i64 t608.fKind,.string t608.fRoom,.string t608.fUser,.string t608.fThread,.bool t608.fPrivate] rfl trivial rfl rfl rfl rfl eg101 (fun _=>equal_of 2 (by decide) (fun _=>eqt101 t606 t608))<|mv0 rfl rfl ?_
 cases c610:decide (t606 = t608)
 ·
  have H:=H.cf c610
  refine sk rfl rfl<|sk rfl rfl<|sk rfl rfl<|sk rfl rfl<|pf0 rfl rfl rfl<|as0 rfl rfl<|.fin ?_
  cases H.out; exact r2 i2 rfl (.cons (res_tmp rfl) .nil)
 have H:=H.ct c610
 refine lds 1 rfl (gg rfl) rfl sg32 rfl rfl<|lds 0 rfl (gg rfl) rfl sg32 rfl rfl<|el H fun t611 h612 H=>Dv.call rfl (gg rfl) cal77 rfl (edu_Compare.c h612)<|bng rfl rfl rfl rfl run_gt<|pt0 rfl rfl rfl<|as0 rfl rfl<|.fin ?_
 cases H.out; exact r2 i2 rfl (.cons (res_tmp rfl) .nil)
theorem slices_IndexFunc_Key_xw.c {k:Nat} {a0:List EKey} {a1:(EKey→Option Bool)} {X1_:As} {p0_:OV} {r:Int} (h:slices_IndexFunc_Key_xw.f k a0 a1 = some r):Tr Tryz.prog 112 [eq p0_.1,fx_edu_Key_bool X1_ a1] [own EKey.K p0_.1 a0,X1_] (γ:=Unit) (fun _=>True) (fun g=>vI r) (fun g=>[own EKey.K p0_.1 a0,X1_]):=by
 unfold slices_IndexFunc_Key_xw.f at h
 refine Tr.body Tryz.func112 (c:=_) rfl Tryz.ntmps112 (Nat.le_of_ble_eq_true rfl) fun R0 F=>?_
 replace h:=Gets.of h
 have H:=h
 clear h
 refine WP.seq<|rg 1 0<|as0 rfl rfl<|.fin<|WP.seqr H id (fun p631:Int×Bool=>[(0,eq p0_.1),(1,fx_edu_Key_bool X1_ a1),(4,vI 0),(7,vI (a0.length:Int)),(8,vI p631.1),(9,vB p631.2)]) (fun p631:Int×Bool=>[own EKey.K p0_.1 a0,X1_]++F) (fun p631 H=>?_) (fun H=>?_)
 ·
  refine WP.seq<|rg 1 0<|as0 rfl rfl<|.fin ?_
  cases H.out; exact rt i2 rfl () 2 [0,1] 0 (.cons (res_tmp rfl) .nil)
 refine WP.seq<|rg 3 0<|mv0 rfl rfl<|Dv.lenw rfl trivial rfl (mem_at 0 rfl) Tryz.underlying104<|mv0 rfl rfl<|.fin<|WP.block<|wg (sg 2 [0,1] 0) fun _ _=>?_
 refine lp (fun j_ (p640:Int)=>slices_IndexFunc_Key_xw.l0 k a0 a1 j_ p640) 0 H (fun p640=>[(0,eq p0_.1),(1,fx_edu_Key_bool X1_ a1),(4,vI 0),(7,vI (a0.length:Int)),(8,vI p640)]) (fun p640=>[own EKey.K p0_.1 a0,X1_]++F) ?_
 rintro j_ x632 H
 rcases j_ with _ | j639
 ·
  exact (Gets.no H).elim
 replace H:Gets (slices_IndexFunc_Key_xw.l0 k a0 a1 (j639 + 1) x632) _:=H
 rw [slices_IndexFunc_Key_xw.l0] at H
 refine WP.seq<|rg 1 0<|bn0 rfl rfl rfl run_lt<|.fin<|WP.seq<|cd H rfl (fun _ H=>?_) (fun _ H=>?_)
 rotate_left
 ·
  refine WP.exit ?_
  have H:=H.out
  exact jn (x632,decide (x632 < (a0.length:Int))) H
 refine WP.skip<|WP.seq<|WP.block<|WP.seq<|rg 2 0<|mv0 rfl rfl<|as0 rfl rfl<|.fin<|WP.seq<|rg 6 0<|mv0 rfl rfl<|mv0 rfl rfl<|mv0 rfl rfl<|gr H fun g634 H=>?_
 have h635:x632.toNat < a0.length:=idx_lt g634
 refine Dv.ixw rfl trivial rfl (mem_at 0 rfl) rfl Tryz.underlying104 Tryz.underlying101 c101 g634.1 g634.2<|Dv.ldws (j:=x632.toNat) (f:=0) rfl trivial rfl (mem_at 0 rfl) h635 Tryz.underlying101 rfl c101 (Nat.le_of_ble_eq_true rfl)<|el H fun t636 h637 H=>Dv.callfx (ret:=vB t636) (X:=X1_) (F:=[own EKey.K p0_.1 a0]++F) rfl trivial rfl rfl ⟨_,_,h637,rfl,rfl⟩ (perm_to (L:=[own EKey.K p0_.1 a0,X1_]) (F:=F) [1,0] rfl rfl rfl)<|.fin<|cd H rfl (fun _ H=>?_) (fun _ H=>?_)
 rotate_left
 ·
  exact WP.skip<|rg 2 0<|bn0 rfl rfl rfl run_add<|mv0 rfl rfl<|.fin<|bk j639 (w64 (x632 + 1)) H
 refine WP.seq<|rg 2 0<|mv0 rfl rfl<|as0 rfl rfl<|.fin ?_
 have H:=H.outr
 cases H.out; exact rt i2 rfl () 2 [0,1] 0 (.cons (res_tmp rfl) .nil)
theorem slices_DeleteFunc_Key_xo.c {k:Nat} {a0:List EKey} {a1:(EKey→Option Bool)} {X1_:As} {p0_:OV} {r:(List EKey)} (h:slices_DeleteFunc_Key_xo.f k a0 a1 = some r):Tr Tryz.prog 78 [eq p0_.1,fx_edu_Key_bool X1_ a1] [own EKey.K p0_.1 a0,X1_] (γ:=OV) (fun _=>True) (fun g=>eq g.1) (fun g=>[X1_,own EKey.K g.1 r]):=by
 unfold slices_DeleteFunc_Key_xo.f at h
 refine Tr.body Tryz.func78 (c:=_) rfl Tryz.ntmps78 (Nat.le_of_ble_eq_true rfl) fun R0 F=>?_
 replace h:=Gets.of h
 have H:=h
 clear h
 refine WP.seq<|rg 1 0<|as0 rfl rfl<|.fin<|WP.seq<|rg 4 0<|mv0 rfl rfl<|mv0 rfl rfl<|el H fun t641 h642 H=>cll 2 [0,1] cal112 (slices_IndexFunc_Key_xw.c h642 (p0_:=p0_) (X1_:=X1_)) ?_
 refine as0 rfl rfl<|.fin<|WP.seq<|WP.seq<|rg 2 0<|mv0 rfl rfl<|bn0 rfl rfl rfl run_eq<|.fin<|cd H rfl (fun _ H=>?_) (fun _ H=>?_)
 ·
  refine WP.seq<|rg 2 0<|mv0 rfl rfl<|as0 rfl rfl<|.fin ?_
  obtain rfl:=Gets.out H
  exact rt i2 rfl p0_ 2 [1,0] 0 (.cons (res_tmp rfl) .nil)
 refine WP.skip<|WP.seqn H id (fun p644:Int×Int×Bool×(List EKey)=>[(0,eq p0_.1),(1,fx_edu_Key_bool X1_ a1),(4,eq (.slice none 0 0)),(5,vI p644.1),(6,vI p644.2.1),(12,vB (t641 == (-1))),(19,vB p644.2.2.1)]) (fun p644:Int×Int×Bool×(List EKey)=>[own EKey.K p0_.1 p644.2.2.2,X1_]++F) (fun p644 H=>?_) (fun H=>?_)
 ·
  refine WP.seq<|rg 4 8<|mv0 rfl rfl<|mv0 rfl rfl<|gr H fun g645 H=>vg (st_own_form 0 rfl (List.length_pos_iff.1 (Nat.lt_of_le_of_lt (Nat.zero_le _) g645.2))) fun g646 h647=>?_
  refine Dv.slkm (o':=g646.2.1 + p644.1.toNat * EKey.K.sz) (m':=p644.2.2.2.length - p644.1.toNat) (c':=g646.2.2 - p644.1.toNat) rfl trivial ((show opv _ _ = some (eq p0_.1) from rfl).trans (congrArg (fun z=>some (eq z)) h647.1)) Tryz.underlying104 Tryz.underlying101 c101 (bdE_some rfl g645.1) bdE_none (Nat.le_of_lt g645.2) h647.2 (.inl (Nat.lt_of_lt_of_le g645.2 h647.2)) rfl rfl rfl<|Dv.clrw (jj:=0) (⟨0,(⟨#[]⟩:ByteArray),(⟨#[]⟩:ByteArray),(⟨#[]⟩:ByteArray),false⟩:EKey) rfl trivial rfl Tryz.underlying104 z101 rfl rfl (fun u hu=>List.all_eq_true.1 (show (Value.cells _).toList.all (fun u=>u.oneCell') = true by kernel_rfl) u hu) h647.1 rfl g645.2 rfl nofun<|.fin<|WP.seq<|rg 4 4<|mv0 rfl rfl<|mv0 rfl rfl<|gr H fun g648 H=>Dv.slo (jj:=0) rfl trivial rfl rfl Tryz.underlying104 Tryz.underlying101 c101 bdE_none (bdE_some rfl g648.1) (.inl rfl) g648.2.1 g648.2.2 nofun (fun v649=>?_)
  refine as0 rfl rfl<|.fin ?_
  obtain rfl:=Gets.out H
  exact rt i2 rfl v649 2 [1,0] 0 (.cons (res_tmp rfl) .nil)
 refine WP.seq<|rg 3 0<|mv0 rfl rfl<|bn0 rfl rfl rfl run_add<|as0 rfl rfl<|.fin<|WP.block<|wg (sg 2 [0,1] 0) fun _ _=>?_
 refine lp (fun j_ (p663:Int×Int×(List EKey))=>slices_DeleteFunc_Key_xo.l0 k a1 j_ p663.1 p663.2.1 p663.2.2) (t641,w64 (t641 + 1),a0) H (fun p663=>[(0,eq p0_.1),(1,fx_edu_Key_bool X1_ a1),(4,eq (.slice none 0 0)),(5,vI p663.1),(6,vI p663.2.1),(12,vB (t641 == (-1)))]) (fun p663=>[own EKey.K p0_.1 p663.2.2,X1_]++F) ?_
 rintro j_ ⟨x650,x651,x652⟩ H
 rcases j_ with _ | j662
 ·
  exact (Gets.no H).elim
 replace H:Gets (slices_DeleteFunc_Key_xo.l0 k a1 (j662 + 1) x650 x651 x652) _:=H
 rw [slices_DeleteFunc_Key_xo.l0] at H
 refine WP.seq<|WP.seq<|rg 4 0<|mv0 rfl rfl<|mv0 rfl rfl<|Dv.lenw rfl trivial rfl (mem_at 0 rfl) Tryz.underlying104<|bn0 rfl rfl rfl run_lt<|.fin<|cd H rfl (fun _ H=>?_) (fun _ H=>?_)
 rotate_left
 ·
  refine WP.exit ?_
  have H:=H.out
  exact jn (x650,x651,decide (x651 < (x652.length:Int)),x652) H
 refine WP.skip<|WP.seq<|WP.block<|WP.seq<|rg 6 48<|mv0 rfl rfl<|mv0 rfl rfl<|gr H fun g654 H=>?_
 have h655:x651.toNat < x652.length:=idx_lt g654
 refine Dv.ixw rfl trivial rfl (mem_at 0 rfl) rfl Tryz.underlying104 Tryz.underlying101 c101 g654.1 g654.2<|Dv.ldws (j:=x651.toNat) (f:=0) rfl trivial rfl (mem_at 0 rfl) h655 Tryz.underlying101 rfl c101 (Nat.le_of_ble_eq_true rfl)<|al rfl trivial zc101 nofun fun b656=>sx 0 rfl trivial rfl rfl cA sz101 rfl rfl rfl nofun ?_
 refine .fin<|WP.seq<|rg 4 0<|mv0 rfl rfl<|lds 0 rfl trivial rfl sg101 rfl rfl<|el H fun t657 h658 H=>Dv.callfx (ret:=vB t657) (X:=X1_) (F:=[blk b656 101 (EKey.enc (x652.getD x651.toNat default)),own EKey.K p0_.1 x652]++F) rfl trivial rfl rfl ⟨_,_,h658,rfl,rfl⟩ (perm_to (L:=[blk b656 101 (EKey.enc (x652.getD x651.toNat default)),own EKey.K p0_.1 x652,X1_]) (F:=F) [2,0,1] rfl rfl rfl)<|un0 rfl rfl (run_not _)<|.fin<|cd H rfl (fun _ H=>?_) (fun _ H=>?_)
 rotate_left
 ·
  refine WP.skip<|rg 3 0<|mv0 rfl rfl<|bn0 rfl rfl rfl run_add<|as0 rfl rfl<|.fin<|ng (sg 3 [0,1,2] 1) fun _ _=>?_
  exact bk j662 (x650,w64 (x651 + 1),x652) H
 refine WP.seq<|rg 5 16<|mv0 rfl rfl<|mv0 rfl rfl<|lds 0 rfl trivial rfl sg101 rfl rfl<|gr H fun g660 H=>?_
 have h661:x650.toNat < x652.length:=idx_lt g660
 refine Dv.ixw rfl trivial rfl (mem_at 1 rfl) rfl Tryz.underlying104 Tryz.underlying101 c101 g660.1 g660.2<|Dv.stw (j:=x650.toNat) (f:=0) (jj:=1) (x652.getD x651.toNat default) rfl trivial rfl rfl (cells_agg (EKey.K.one _)) Tryz.underlying101 c101 rfl rfl h661 (Nat.le_of_ble_eq_true rfl) rfl nofun<|.fin<|rg 3 0<|mv0 rfl rfl<|bn0 rfl rfl rfl run_add<|as0 rfl rfl<|.fin<|rg 3 0<|mv0 rfl rfl<|bn0 rfl rfl rfl run_add<|as0 rfl rfl<|.fin<|ng (sg 3 [0,1,2] 1) fun _ _=>?_
 exact bk j662 (w64 (x650 + 1),w64 (x651 + 1),x652.set x650.toNat (x652.getD x651.toNat default)) H
theorem queue_Queue_drop_1.c {a0:EKey} {c0:EKey} {r:Bool} (h:queue_Queue_drop_1.f a0 c0 = some r):Pt Tryz.prog 79 [agg (EKey.enc a0),rp [vI c0.fKind,vS c0.fRoom,vS c0.fUser,vS c0.fThread,vB c0.fPrivate]] (vB r):=by
 unfold queue_Queue_drop_1.f at h
 refine pb Tryz.func79 Tryz.ntmps79 h fun R0 F H=>?_
 refine WP.seq<|rg 2 1<|Dv.box rfl trivial rfl cA nofun fun b664=>as0 rfl rfl<|.fin<|WP.seq<|rg 4 0<|lds 0 rfl trivial rfl sg101 rfl rfl<|ldsR rfl trivial rfl sg101 rfl<|Dv.eqs [.int .i64 a0.fKind,.string a0.fRoom,.string a0.fUser,.string a0.fThread,.bool a0.fPrivate] [.int .i64 c0.fKind,.string c0.fRoom,.string c0.fUser,.string c0.fThread,.bool c0.fPrivate] rfl trivial rfl rfl rfl rfl eg101 (fun _=>equal_of 2 (by decide) (fun _=>eqt101 a0 c0))<|as0 rfl rfl<|.fin ?_
 cases H.out; exact r1 i2 rfl (.cons (res_tmp rfl) .nil)
theorem queue_Queue_drop.c {k:Nat} {a0:SQue} {a1:EKey} {p0_:OV} {r:SQue} (h:queue_Queue_drop.f k a0 a1 = some r):Tr Tryz.prog 45 [eq p0_.1,agg (EKey.enc a1)] [SQue.O p0_ a0] (γ:=Unit) (fun _=>True) (fun g=>tup []) (fun g=>[SQue.O p0_ r]):=by
 unfold queue_Queue_drop.f at h
 refine Tr.body Tryz.func45 (c:=_) rfl Tryz.ntmps45 (Nat.le_of_ble_eq_true rfl) fun R0 F=>?_
 replace h:=Gets.of h
 have H:=h
 clear h
 refine WP.seq<|rg 1 1<|Dv.box rfl trivial rfl cA nofun fun b665=>.fin<|WP.seq<|wg (SQue.opn 1 rfl) fun g666 h667=>?_
 refine dg Tryz.checked.mixed 6 32<|mv0 rfl rfl<|Dv.nilpp h667 rfl trivial rfl<|fp h667 rfl trivial rfl fa107_2<|ld 0 rfl trivial rfl sc105 rfl rfl<|lds 3 rfl trivial rfl sg101 rfl rfl<|Dv.mdlq (jj:=2) rfl trivial rfl rfl rfl (EKey.kq a1) Tryz.underlying105 kok101 (fun _=>pend_bits (by kernel_rfl))<|.fin<|rg 10 576<|mv0 rfl rfl<|mv0 rfl rfl<|Dv.nilpp h667 rfl trivial rfl<|fp h667 rfl trivial rfl fa107_1<|ld 0 rfl trivial rfl sc104 rfl rfl<|Dv.gh (gh_frzb (E':=[(0,eq p0_.1),(1,agg (EKey.enc a1)),(3,rp [vI a1.fKind,vS a1.fRoom,vS a1.fUser,vS a1.fThread,vB a1.fPrivate]),(9,eq p0_.1),(13,eq g666.2.1.1)]) (l':=[blk g666.1 107 [vI a0.fmost,eq g666.2.1.1,eq g666.2.2.1,vI a0.flost],own EKey.K g666.2.1.1 a0.fkeys,mp EKey.kv (fun x:Edu=>agg (Edu.enc x)) g666.2.2.1 (mdel a0.fat a1)]++F) 3 rfl (cve_cons rfl cv_id (cve_cons rfl cv_id (cve_cons rfl cv_eq (cve_cons rfl cv_id (cve_cons rfl cv_id cve_nil))))) (all2_app (.cons cva_id (.cons cva_id (.cons cva_id .nil))) fun _=>cva_id)) (fun _ _=>?_)
 refine Dv.mkx (Q:=fqQ_edu_Key_bool (fun a0_=>queue_Queue_drop_1.f a0_ a1)) (L:=[]) cal79 (by rintro _ _ ⟨a0_,r_,h_,rfl,rfl⟩; exact (queue_Queue_drop_1.c h_).tr) rfl trivial rfl rfl<|el H fun t668 h669 H=>cx 3 [1,0,2] cal78 (Tr.unpko (A:=[own EKey.K g666.2.1.1 a0.fkeys]) (L:=[]) (B:=fun g670:OV=>[own EKey.K g670.1 t668]) (slices_DeleteFunc_Key_xo.c h669 (p0_:=g666.2.1) (X1_:=(pk [])))) nofun fun g670 _=>?_
 refine Dv.nilpp h667 rfl trivial rfl<|fp h667 rfl trivial rfl fa107_1<|sx 1 rfl trivial rfl rfl (cells_one one_ov) sz104 rfl rfl rfl nofun ?_
 refine .fin<|ng (SQue.shut (p:=p0_) (m:=(⟨a0.fmost,t668,mdel a0.fat a1,a0.flost⟩:SQue)) (g666.1,g670,g666.2.2) h667 (pm 3 [1,0,2])) fun _ _=>?_
 obtain rfl:=Gets.out H
 exact re rfl () 1 [0] 0 .nil
theorem queue_Queue_Put.c {k:Nat} {a0:SQue} {a1:Edu} {p0_:OV} {r:Edu×Bool×Int×SQue} (h:queue_Queue_Put.f k a0 a1 = some r):Tr Tryz.prog 13 [eq p0_.1,agg (Edu.enc a1)] [SQue.O p0_ a0] (γ:=Unit) (fun _=>True) (fun g=>tup [agg (Edu.enc r.1),vB r.2.1,vI r.2.2.1]) (fun g=>[SQue.O p0_ r.2.2.2]):=by
 unfold queue_Queue_Put.f at h
 refine Tr.body Tryz.func13 (c:=_) rfl Tryz.ntmps13 (Nat.le_of_ble_eq_true rfl) fun R0 F=>?_
 replace h:=Gets.of h
 have H:=h
 clear h
 refine WP.seq<|rg 4 3<|Dv.box rfl trivial rfl cA nofun fun b671=>al rfl trivial zc32 nofun fun b672=>as0 rfl rfl<|as0 rfl rfl<|.fin<|WP.seq<|WP.seq<|rg 3 0<|lds 1 rfl trivial rfl sg32 rfl rfl<|el H fun t673 h674 H=>cl rfl cal42 rfl (edu_May.c h674)<|un0 rfl rfl (run_not _)<|.fin<|cd H rfl (fun _ H=>?_) (fun _ H=>?_)
 ·
  refine WP.seq<|rg 4 2<|Dv.bld (qs:=[vI 0,vS (⟨#[]⟩:ByteArray),vS (⟨#[]⟩:ByteArray),vS (⟨#[]⟩:ByteArray),vS (⟨#[]⟩:ByteArray),vB false,vB false,vI 0,vI 0,vI 0,vI 0]) (css:=[]) rfl trivial Tryz.underlying32 pl32 z32 rfl trivial rfl rfl<|sx 0 rfl trivial rfl rfl cA sz32 rfl rfl rfl nofun ?_
  refine as0 rfl rfl<|as0 rfl rfl<|.fin ?_
  cases H.out; exact rt i2 rfl () 3 [0,1,2] 2 (.cons (res_cells rfl Tryz.underlying32 rfl c32 (mem_at 0 rfl) rfl) (.cons (res_tmp rfl) (.cons (res_tmp rfl) .nil)))
 refine WP.skip<|WP.seq<|rg 4 12<|lds 1 rfl trivial rfl sg32 rfl rfl<|el H fun t676 h677 H=>cl rfl cal43 rfl (edu_Of.c h677)<|al rfl trivial zc101 nofun fun b678=>sx 0 rfl trivial rfl rfl cA sz101 rfl rfl rfl nofun ?_
 refine .fin<|WP.seq<|wg (SQue.opn 3 rfl) fun g679 h680=>?_
 refine dg Tryz.checked.mixed 12 1536<|mv0 rfl rfl<|Dv.nilpp h680 rfl trivial rfl<|fp h680 rfl trivial rfl fa107_2<|ld 0 rfl trivial rfl sc105 rfl rfl<|lds 3 rfl trivial rfl sg101 rfl rfl<|Dv.mlkq (⟨0,(⟨#[]⟩:ByteArray),(⟨#[]⟩:ByteArray),(⟨#[]⟩:ByteArray),(⟨#[]⟩:ByteArray),false,false,0,0,0,0⟩:Edu) rfl trivial rfl (mem_at 2 rfl) rfl (EKey.kq t676) Tryz.underlying105 kok101 z32 (fun _=>⟨_,rfl,Cs.eqz rfl⟩)<|mv0 rfl rfl<|ex0 rfl trivial rfl rfl<|ex0 rfl trivial rfl rfl<|al rfl trivial zc32 (fun _=>(pend_in (fun _=>trivial) (pend_in (fun _=>trivial) (pend_in (fun _=>trivial) (pend_in (fun _=>(mem_at 3 rfl)) (pend_in (fun _=>(mem_at 4 rfl)) (pend_in (fun _=>(mem_at 1 rfl)) (pend_in (fun _=>trivial) (pend_in (fun _=>trivial) (pend_in (fun _=>trivial) pend_nil)))))))))) fun b681=>sx 0 rfl trivial rfl rfl cA sz32 rfl rfl rfl (fun _=>(pend_in (fun _=>trivial) (pend_by (by kernel_rfl) (pend_by (by kernel_rfl) (pend_by (by kernel_rfl) (pend_by (by kernel_rfl) (pend_by (by kernel_rfl) (pend_by (by kernel_rfl) (pend_by (by kernel_rfl) (pend_by (by kernel_rfl) pend_nil)))))))))) ?_
 refine as0 rfl rfl<|.fin<|WP.seq<|WP.seq<|rg 7 0<|mv0 rfl rfl<|mv0 rfl rfl ?_
 rcases bem ((mget a0.fat t676).isSome) with c682 | c682
 ·
  have H:=H.cf c682
  refine Dv.gh (gh_sh 25 c682 rfl) (fun _ _=>?_)
  refine Dv.gh (gh_sh 9 c682 rfl) (fun _ _=>?_)
  refine Dv.gh (gh_sh 26 c682 rfl) (fun _ _=>?_)
  refine Dv.gh (gh_sh 27 c682 rfl) (fun _ _=>?_)
  refine sk rfl rfl<|sk rfl rfl<|sk rfl rfl<|sk rfl rfl<|pf0 rfl rfl rfl<|.fin<|WP.cond rfl nofun (fun _=>?_)
  refine WP.skip<|WP.seq<|rg 3 4<|mv0 rfl rfl<|lds 4 rfl trivial rfl sg101 rfl rfl<|vg (SQue.shut (p:=p0_) (m:=a0) (g679.1,g679.2.1,g679.2.2) h680 (pm 7 [1,2,3,0,4,5,6])) fun _ _=>?_
  refine el H fun t703 h704 H=>cx 5 [0,1,2,3,4] cal45 (queue_Queue_drop.c h704 (p0_:=p0_)) nofun fun _ _=>?_
  refine .fin<|WP.seq<|wg (SQue.opn 0 rfl) fun g705 h706=>?_
  refine dg Tryz.checked.mixed 11 1152<|mv0 rfl rfl<|mv0 rfl rfl<|Dv.nilpp h706 rfl trivial rfl<|fp h706 rfl trivial rfl fa107_1<|ld 0 rfl trivial rfl sc104 rfl rfl<|lds 4 rfl trivial rfl sg101 rfl rfl<|Dv.lit EKey.K ([t676]:List EKey) (css:=[EKey.enc t676]) rfl trivial Tryz.underlying104 Tryz.underlying101 c101 z101 rfl (by decide) (by decide) rfl ⟨(cells_agg (EKey.K.one _)),trivial⟩ rfl rfl rfl<|gr H fun g707 H=>Dv.appx (Kd:=EKey.K) (jj:=1) (ys:=([t676]:List EKey)) (fun v708:OV=>[blk g705.1 107 [vI t703.fmost,eq g705.2.1.1,eq g705.2.2.1,vI t703.flost],own EKey.K v708.1 (t703.fkeys++([t676]:List EKey)),mp EKey.kv (fun x:Edu=>agg (Edu.enc x)) g705.2.2.1 t703.fat,blk b681 32 (Edu.enc ((mget a0.fat t676).getD (⟨0,(⟨#[]⟩:ByteArray),(⟨#[]⟩:ByteArray),(⟨#[]⟩:ByteArray),(⟨#[]⟩:ByteArray),false,false,0,0,0,0⟩:Edu))),blk b678 101 (EKey.enc t676),blk b672 32 [vI 0,vS (⟨#[]⟩:ByteArray),vS (⟨#[]⟩:ByteArray),vS (⟨#[]⟩:ByteArray),vS (⟨#[]⟩:ByteArray),vB false,vB false,vI 0,vI 0,vI 0,vI 0],blk b671 32 (Edu.enc a1)]++F) rfl trivial rfl rfl rfl src_sl Tryz.underlying104 (.inr ⟨_,Tryz.underlying104⟩) inf101 rfl (by decide) g707 rfl (fun _=>(pend_by (by kernel_rfl) (pend_by (by kernel_rfl) (pend_by (by kernel_rfl) (pend_by (by kernel_rfl) (pend_by (by kernel_rfl) (pend_by (by kernel_rfl) (pend_in (fun _=>trivial) pend_nil)))))))) (fun v708=>?_)
  refine Dv.nilpp h706 rfl trivial rfl<|fp h706 rfl trivial rfl fa107_1<|sx 0 rfl trivial rfl rfl (cells_one one_ov) sz104 rfl rfl rfl pB ?_
  refine .fin<|WP.seq<|dg Tryz.checked.mixed 7 64<|mv0 rfl rfl<|Dv.nilpp h706 rfl trivial rfl<|fp h706 rfl trivial rfl fa107_2<|ld 0 rfl trivial rfl sc105 rfl rfl<|lds 4 rfl trivial rfl sg101 rfl rfl<|lds 6 rfl trivial rfl sg32 rfl rfl<|Dv.mupq (jj:=2) a1 rfl trivial rfl rfl rfl (EKey.kq t676) rfl Tryz.underlying105 kok101 (fun _=>pend_bits (by kernel_rfl))<|.fin<|WP.seq<|WP.seq<|dg Tryz.checked.mixed 10 0<|mv0 rfl rfl<|Dv.nilpp h706 rfl trivial rfl<|fp h706 rfl trivial rfl fa107_1<|ld 0 rfl trivial rfl sc104 rfl rfl<|Dv.lenw rfl trivial rfl (mem_at 1 rfl) Tryz.underlying104<|mv0 rfl rfl<|Dv.nilpp h706 rfl trivial rfl<|fp h706 rfl trivial rfl fa107_0<|ld 0 rfl trivial rfl sc3 rfl rfl<|bn0 rfl rfl rfl run_le<|.fin<|cd H rfl (fun _ H=>?_) (fun _ H=>?_)
  ·
   refine WP.seq<|rg 4 2<|Dv.bld (qs:=[vI 0,vS (⟨#[]⟩:ByteArray),vS (⟨#[]⟩:ByteArray),vS (⟨#[]⟩:ByteArray),vS (⟨#[]⟩:ByteArray),vB false,vB false,vI 0,vI 0,vI 0,vI 0]) (css:=[]) rfl trivial Tryz.underlying32 pl32 z32 rfl trivial rfl rfl<|sx 5 rfl trivial rfl rfl cA sz32 rfl rfl rfl nofun ?_
   refine as0 rfl rfl<|as0 rfl rfl<|.fin<|wg (SQue.shut (p:=p0_) (m:=(⟨t703.fmost,t703.fkeys++([t676]:List EKey),mput t703.fat t676 a1,t703.flost⟩:SQue)) (g705.1,v708,g705.2.2) h706 (pm 7 [0,1,2,3,4,5,6])) fun _ _=>?_
   cases H.out; exact rt i2 rfl () 5 [1,2,3,4,0] 4 (.cons (res_cells rfl Tryz.underlying32 rfl c32 (mem_at 3 rfl) rfl) (.cons (res_tmp rfl) (.cons (res_tmp rfl) .nil)))
  refine WP.skip<|WP.seq<|dg Tryz.checked.mixed 13 6144<|mv0 rfl rfl<|Dv.nilpp h706 rfl trivial rfl<|fp h706 rfl trivial rfl fa107_2<|ld 0 rfl trivial rfl sc105 rfl rfl<|mv0 rfl rfl<|Dv.nilpp h706 rfl trivial rfl<|fp h706 rfl trivial rfl fa107_1<|ld 0 rfl trivial rfl sc104 rfl rfl<|gr H fun g710 H=>?_
  have h711:(0:Int).toNat < (t703.fkeys++([t676]:List EKey)).length:=idx_lt g710
  refine Dv.ixw rfl trivial rfl (mem_at 1 rfl) rfl Tryz.underlying104 Tryz.underlying101 c101 g710.1 g710.2<|Dv.ldws (j:=((0:Int).toNat)) (f:=0) rfl trivial rfl (mem_at 1 rfl) h711 Tryz.underlying101 rfl c101 (Nat.le_of_ble_eq_true rfl)<|Dv.mlvq (⟨0,(⟨#[]⟩:ByteArray),(⟨#[]⟩:ByteArray),(⟨#[]⟩:ByteArray),(⟨#[]⟩:ByteArray),false,false,0,0,0,0⟩:Edu) rfl trivial rfl (mem_at 2 rfl) rfl (EKey.kq ((t703.fkeys++([t676]:List EKey)).getD ((0:Int).toNat) default)) Tryz.underlying105 kok101 z32 (fun _=>⟨_,rfl,Cs.eqz rfl⟩)<|al rfl trivial zc32 (fun _=>(pend_in (fun _=>(mem_at 3 rfl)) (pend_in (fun _=>(mem_at 2 rfl)) (pend_in (fun _=>(mem_at 2 rfl)) (pend_in (fun _=>(mem_at 1 rfl)) (pend_in (fun _=>trivial) (pend_in (fun _=>trivial) (pend_in (fun _=>trivial) (pend_in (fun _=>(mem_at 1 rfl)) (pend_in (fun _=>trivial) (pend_in (fun _=>trivial) (pend_in (fun _=>trivial) pend_nil)))))))))))) fun b712=>sx 0 rfl trivial rfl rfl cA sz32 rfl rfl rfl pB ?_
  refine .fin<|WP.seq<|rg 8 128<|mv0 rfl rfl<|mv0 rfl rfl<|Dv.nilpp h706 rfl trivial rfl<|fp h706 rfl trivial rfl fa107_1<|ld 1 rfl trivial rfl sc104 rfl rfl<|gr H fun g713 H=>?_
  have h714:(0:Int).toNat < (t703.fkeys++([t676]:List EKey)).length:=idx_lt g713
  refine Dv.ixw rfl trivial rfl (mem_at 2 rfl) rfl Tryz.underlying104 Tryz.underlying101 c101 g713.1 g713.2<|Dv.ldws (j:=((0:Int).toNat)) (f:=0) rfl trivial rfl (mem_at 2 rfl) h714 Tryz.underlying101 rfl c101 (Nat.le_of_ble_eq_true rfl)<|vg (SQue.shut (p:=p0_) (m:=(⟨t703.fmost,t703.fkeys++([t676]:List EKey),mput t703.fat t676 a1,t703.flost⟩:SQue)) (g705.1,v708,g705.2.2) h706 (pm 8 [1,2,3,0,4,5,6,7])) fun _ _=>?_
  refine el H fun t715 h716 H=>cx 6 [0,1,2,3,4,5] cal45 (queue_Queue_drop.c h716 (p0_:=p0_)) nofun fun _ _=>?_
  refine .fin<|WP.seq<|rg 8 128<|mv0 rfl rfl<|Dv.nilA SQue.nn rfl trivial rfl (mem_at 0 rfl)<|vg (SQue.opn 0 rfl) fun g717 h718=>?_
  refine fp h718 rfl trivial rfl fa107_3<|ld 0 rfl trivial rfl sc3 rfl rfl<|bn0 rfl rfl rfl run_add<|Dv.nilpp h718 rfl trivial rfl<|fp h718 rfl trivial rfl fa107_3<|sx 0 rfl trivial rfl rfl cE sz3 rfl rfl rfl nofun ?_
  refine .fin<|WP.seq<|rg 4 2<|lds 3 rfl trivial rfl sg32 rfl rfl<|sx 6 rfl trivial rfl rfl cA sz32 rfl rfl rfl nofun ?_
  refine as0 rfl rfl<|as0 rfl rfl<|.fin<|wg (SQue.shut (p:=p0_) (m:=(⟨t715.fmost,t715.fkeys,t715.fat,w64 (t715.flost + 1)⟩:SQue)) (g717.1,g717.2.1,g717.2.2) h718 (pm 8 [0,1,2,3,4,5,6,7])) fun _ _=>?_
  cases H.out; exact rt i2 rfl () 6 [1,2,3,4,5,0] 5 (.cons (res_cells rfl Tryz.underlying32 rfl c32 (mem_at 4 rfl) rfl) (.cons (res_tmp rfl) (.cons (res_tmp rfl) .nil)))
 have H:=H.ct c682
 refine Dv.gh (gh_sh 25 c682 rfl) (fun _ _=>?_)
 refine Dv.gh (gh_sh 9 c682 rfl) (fun _ _=>?_)
 refine Dv.gh (gh_sh 26 c682 rfl) (fun _ _=>?_)
 refine Dv.gh (gh_sh 27 c682 rfl) (fun _ _=>?_)
 refine lds 6 rfl (gg rfl) rfl sg32 rfl rfl<|lds 0 rfl (gg rfl) rfl sg32 rfl rfl<|el H fun t683 h684 H=>Dv.call rfl (gg rfl) cal44 rfl (edu_Later.c h684)<|ung rfl rfl rfl (run_not _)<|pt0 rfl rfl rfl<|.fin<|cd H rfl (fun _ H=>?_) (fun _ H=>?_)
 ·
  refine WP.seq<|rg 4 2<|Dv.bld (qs:=[vI 0,vS (⟨#[]⟩:ByteArray),vS (⟨#[]⟩:ByteArray),vS (⟨#[]⟩:ByteArray),vS (⟨#[]⟩:ByteArray),vB false,vB false,vI 0,vI 0,vI 0,vI 0]) (css:=[]) rfl trivial Tryz.underlying32 pl32 z32 rfl trivial rfl rfl<|sx 5 rfl trivial rfl rfl cA sz32 rfl rfl rfl nofun ?_
  refine as0 rfl rfl<|as0 rfl rfl<|.fin<|wg (SQue.shut (p:=p0_) (m:=a0) (g679.1,g679.2.1,g679.2.2) h680 (pm 7 [1,2,3,0,4,5,6])) fun _ _=>?_
  cases H.out; exact rt i2 rfl () 5 [1,2,3,4,0] 4 (.cons (res_cells rfl Tryz.underlying32 rfl c32 (mem_at 3 rfl) rfl) (.cons (res_tmp rfl) (.cons (res_tmp rfl) .nil)))
 refine WP.skip<|WP.seq<|rg 3 4<|mv0 rfl rfl<|lds 4 rfl trivial rfl sg101 rfl rfl<|vg (SQue.shut (p:=p0_) (m:=a0) (g679.1,g679.2.1,g679.2.2) h680 (pm 7 [1,2,3,0,4,5,6])) fun _ _=>?_
 refine el H fun t686 h687 H=>cx 5 [0,1,2,3,4] cal45 (queue_Queue_drop.c h687 (p0_:=p0_)) nofun fun _ _=>?_
 refine .fin<|WP.seq<|wg (SQue.opn 0 rfl) fun g688 h689=>?_
 refine dg Tryz.checked.mixed 11 1152<|mv0 rfl rfl<|mv0 rfl rfl<|Dv.nilpp h689 rfl trivial rfl<|fp h689 rfl trivial rfl fa107_1<|ld 0 rfl trivial rfl sc104 rfl rfl<|lds 4 rfl trivial rfl sg101 rfl rfl<|Dv.lit EKey.K ([t676]:List EKey) (css:=[EKey.enc t676]) rfl trivial Tryz.underlying104 Tryz.underlying101 c101 z101 rfl (by decide) (by decide) rfl ⟨(cells_agg (EKey.K.one _)),trivial⟩ rfl rfl rfl<|gr H fun g690 H=>Dv.appx (Kd:=EKey.K) (jj:=1) (ys:=([t676]:List EKey)) (fun v691:OV=>[blk g688.1 107 [vI t686.fmost,eq g688.2.1.1,eq g688.2.2.1,vI t686.flost],own EKey.K v691.1 (t686.fkeys++([t676]:List EKey)),mp EKey.kv (fun x:Edu=>agg (Edu.enc x)) g688.2.2.1 t686.fat,blk b681 32 (Edu.enc ((mget a0.fat t676).getD (⟨0,(⟨#[]⟩:ByteArray),(⟨#[]⟩:ByteArray),(⟨#[]⟩:ByteArray),(⟨#[]⟩:ByteArray),false,false,0,0,0,0⟩:Edu))),blk b678 101 (EKey.enc t676),blk b672 32 [vI 0,vS (⟨#[]⟩:ByteArray),vS (⟨#[]⟩:ByteArray),vS (⟨#[]⟩:ByteArray),vS (⟨#[]⟩:ByteArray),vB false,vB false,vI 0,vI 0,vI 0,vI 0],blk b671 32 (Edu.enc a1)]++F) rfl trivial rfl rfl rfl src_sl Tryz.underlying104 (.inr ⟨_,Tryz.underlying104⟩) inf101 rfl (by decide) g690 rfl (fun _=>(pend_by (by kernel_rfl) (pend_by (by kernel_rfl) (pend_by (by kernel_rfl) (pend_by (by kernel_rfl) (pend_by (by kernel_rfl) (pend_by (by kernel_rfl) (pend_in (fun _=>trivial) pend_nil)))))))) (fun v691=>?_)
 refine Dv.nilpp h689 rfl trivial rfl<|fp h689 rfl trivial rfl fa107_1<|sx 0 rfl trivial rfl rfl (cells_one one_ov) sz104 rfl rfl rfl pB ?_
 refine .fin<|WP.seq<|dg Tryz.checked.mixed 7 64<|mv0 rfl rfl<|Dv.nilpp h689 rfl trivial rfl<|fp h689 rfl trivial rfl fa107_2<|ld 0 rfl trivial rfl sc105 rfl rfl<|lds 4 rfl trivial rfl sg101 rfl rfl<|lds 6 rfl trivial rfl sg32 rfl rfl<|Dv.mupq (jj:=2) a1 rfl trivial rfl rfl rfl (EKey.kq t676) rfl Tryz.underlying105 kok101 (fun _=>pend_bits (by kernel_rfl))<|.fin<|WP.seq<|WP.seq<|dg Tryz.checked.mixed 10 0<|mv0 rfl rfl<|Dv.nilpp h689 rfl trivial rfl<|fp h689 rfl trivial rfl fa107_1<|ld 0 rfl trivial rfl sc104 rfl rfl<|Dv.lenw rfl trivial rfl (mem_at 1 rfl) Tryz.underlying104<|mv0 rfl rfl<|Dv.nilpp h689 rfl trivial rfl<|fp h689 rfl trivial rfl fa107_0<|ld 0 rfl trivial rfl sc3 rfl rfl<|bn0 rfl rfl rfl run_le<|.fin<|cd H rfl (fun _ H=>?_) (fun _ H=>?_)
 ·
  refine WP.seq<|rg 4 2<|Dv.bld (qs:=[vI 0,vS (⟨#[]⟩:ByteArray),vS (⟨#[]⟩:ByteArray),vS (⟨#[]⟩:ByteArray),vS (⟨#[]⟩:ByteArray),vB false,vB false,vI 0,vI 0,vI 0,vI 0]) (css:=[]) rfl trivial Tryz.underlying32 pl32 z32 rfl trivial rfl rfl<|sx 5 rfl trivial rfl rfl cA sz32 rfl rfl rfl nofun ?_
  refine as0 rfl rfl<|as0 rfl rfl<|.fin<|wg (SQue.shut (p:=p0_) (m:=(⟨t686.fmost,t686.fkeys++([t676]:List EKey),mput t686.fat t676 a1,t686.flost⟩:SQue)) (g688.1,v691,g688.2.2) h689 (pm 7 [0,1,2,3,4,5,6])) fun _ _=>?_
  cases H.out; exact rt i2 rfl () 5 [1,2,3,4,0] 4 (.cons (res_cells rfl Tryz.underlying32 rfl c32 (mem_at 3 rfl) rfl) (.cons (res_tmp rfl) (.cons (res_tmp rfl) .nil)))
 refine WP.skip<|WP.seq<|dg Tryz.checked.mixed 13 6144<|mv0 rfl rfl<|Dv.nilpp h689 rfl trivial rfl<|fp h689 rfl trivial rfl fa107_2<|ld 0 rfl trivial rfl sc105 rfl rfl<|mv0 rfl rfl<|Dv.nilpp h689 rfl trivial rfl<|fp h689 rfl trivial rfl fa107_1<|ld 0 rfl trivial rfl sc104 rfl rfl<|gr H fun g693 H=>?_
 have h694:(0:Int).toNat < (t686.fkeys++([t676]:List EKey)).length:=idx_lt g693
 refine Dv.ixw rfl trivial rfl (mem_at 1 rfl) rfl Tryz.underlying104 Tryz.underlying101 c101 g693.1 g693.2<|Dv.ldws (j:=((0:Int).toNat)) (f:=0) rfl trivial rfl (mem_at 1 rfl) h694 Tryz.underlying101 rfl c101 (Nat.le_of_ble_eq_true rfl)<|Dv.mlvq (⟨0,(⟨#[]⟩:ByteArray),(⟨#[]⟩:ByteArray),(⟨#[]⟩:ByteArray),(⟨#[]⟩:ByteArray),false,false,0,0,0,0⟩:Edu) rfl trivial rfl (mem_at 2 rfl) rfl (EKey.kq ((t686.fkeys++([t676]:List EKey)).getD ((0:Int).toNat) default)) Tryz.underlying105 kok101 z32 (fun _=>⟨_,rfl,Cs.eqz rfl⟩)<|al rfl trivial zc32 (fun _=>(pend_in (fun _=>(mem_at 3 rfl)) (pend_in (fun _=>(mem_at 2 rfl)) (pend_in (fun _=>(mem_at 2 rfl)) (pend_in (fun _=>(mem_at 1 rfl)) (pend_in (fun _=>trivial) (pend_in (fun _=>trivial) (pend_in (fun _=>trivial) (pend_in (fun _=>(mem_at 1 rfl)) (pend_in (fun _=>trivial) (pend_in (fun _=>trivial) (pend_in (fun _=>trivial) pend_nil)))))))))))) fun b695=>sx 0 rfl trivial rfl rfl cA sz32 rfl rfl rfl pB ?_
 refine .fin<|WP.seq<|rg 8 128<|mv0 rfl rfl<|mv0 rfl rfl<|Dv.nilpp h689 rfl trivial rfl<|fp h689 rfl trivial rfl fa107_1<|ld 1 rfl trivial rfl sc104 rfl rfl<|gr H fun g696 H=>?_
 have h697:(0:Int).toNat < (t686.fkeys++([t676]:List EKey)).length:=idx_lt g696
 refine Dv.ixw rfl trivial rfl (mem_at 2 rfl) rfl Tryz.underlying104 Tryz.underlying101 c101 g696.1 g696.2<|Dv.ldws (j:=((0:Int).toNat)) (f:=0) rfl trivial rfl (mem_at 2 rfl) h697 Tryz.underlying101 rfl c101 (Nat.le_of_ble_eq_true rfl)<|vg (SQue.shut (p:=p0_) (m:=(⟨t686.fmost,t686.fkeys++([t676]:List EKey),mput t686.fat t676 a1,t686.flost⟩:SQue)) (g688.1,v691,g688.2.2) h689 (pm 8 [1,2,3,0,4,5,6,7])) fun _ _=>?_
 refine el H fun t698 h699 H=>cx 6 [0,1,2,3,4,5] cal45 (queue_Queue_drop.c h699 (p0_:=p0_)) nofun fun _ _=>?_
 refine .fin<|WP.seq<|rg 8 128<|mv0 rfl rfl<|Dv.nilA SQue.nn rfl trivial rfl (mem_at 0 rfl)<|vg (SQue.opn 0 rfl) fun g700 h701=>?_
 refine fp h701 rfl trivial rfl fa107_3<|ld 0 rfl trivial rfl sc3 rfl rfl<|bn0 rfl rfl rfl run_add<|Dv.nilpp h701 rfl trivial rfl<|fp h701 rfl trivial rfl fa107_3<|sx 0 rfl trivial rfl rfl cE sz3 rfl rfl rfl nofun ?_
 refine .fin<|WP.seq<|rg 4 2<|lds 3 rfl trivial rfl sg32 rfl rfl<|sx 6 rfl trivial rfl rfl cA sz32 rfl rfl rfl nofun ?_
 refine as0 rfl rfl<|as0 rfl rfl<|.fin<|wg (SQue.shut (p:=p0_) (m:=(⟨t698.fmost,t698.fkeys,t698.fat,w64 (t698.flost + 1)⟩:SQue)) (g700.1,g700.2.1,g700.2.2) h701 (pm 8 [0,1,2,3,4,5,6,7])) fun _ _=>?_
 cases H.out; exact rt i2 rfl () 6 [1,2,3,4,5,0] 5 (.cons (res_cells rfl Tryz.underlying32 rfl c32 (mem_at 4 rfl) rfl) (.cons (res_tmp rfl) (.cons (res_tmp rfl) .nil)))
theorem queue_Queue_All.c {k:Nat} {a0:SQue} {v0_0 v0_1:OV} {b0_:Nat} {r:(List Edu)} (h:queue_Queue_All.f k a0 = some r):Tr Tryz.prog 18 [eq (.pointer (some ⟨b0_,0,none⟩))] [blk b0_ 107 [vI a0.fmost,eq v0_0.1,eq v0_1.1,vI a0.flost],own EKey.K v0_0.1 a0.fkeys,mp EKey.kv (fun x:Edu=>agg (Edu.enc x)) v0_1.1 a0.fat] (γ:=Unit) (fun _=>True) (fun g=>sl Edu.K r) (fun g=>[blk b0_ 107 [vI a0.fmost,eq v0_0.1,eq v0_1.1,vI a0.flost],own EKey.K v0_0.1 a0.fkeys,mp EKey.kv (fun x:Edu=>agg (Edu.enc x)) v0_1.1 a0.fat]):=by
 unfold queue_Queue_All.f at h
 refine Tr.body Tryz.func18 (c:=_) rfl Tryz.ntmps18 (Nat.le_of_ble_eq_true rfl) fun R0 F=>?_
 replace h:=Gets.of h
 have H:=h
 clear h
 refine WP.seq<|rg 1 0<|as0 rfl rfl<|.fin<|WP.seq<|rg 1 0<|as0 rfl rfl<|.fin<|WP.seqn H (fun q732:(Int×Bool×(List Edu))×OV=>q732.1) (fun q732:(Int×Bool×(List Edu))×OV=>[(0,eq (.pointer (some ⟨b0_,0,none⟩))),(2,eq (.slice none 0 0)),(3,eq q732.2.1),(9,eq v0_0.1),(10,vI (a0.fkeys.length:Int)),(11,vI q732.1.1),(12,vB q732.1.2.1)]) (fun q732:(Int×Bool×(List Edu))×OV=>[blk b0_ 107 [vI a0.fmost,eq v0_0.1,eq v0_1.1,vI a0.flost],own EKey.K v0_0.1 a0.fkeys,mp EKey.kv (fun x:Edu=>agg (Edu.enc x)) v0_1.1 a0.fat,own Edu.K q732.2.1 q732.1.2.2]++F) (fun q732 H=>?_) (fun H=>?_)
 ·
  obtain ⟨p719,v720⟩:=q732
  refine WP.seq<|rg 2 0<|mv0 rfl rfl<|as0 rfl rfl<|.fin<|WP.gh (gh_frz (E':=[(2,sl Edu.K p719.2.2)]) (l':=[blk b0_ 107 [vI a0.fmost,eq v0_0.1,eq v0_1.1,vI a0.flost],own EKey.K v0_0.1 a0.fkeys,mp EKey.kv (fun x:Edu=>agg (Edu.enc x)) v0_1.1 a0.fat]++F) 3 rfl (cve_cons rfl cv_eq cve_nil) (all2_app (.cons cva_id (.cons cva_id (.cons cva_id .nil))) fun _=>cva_id)) (fun _ _=>?_)
  cases H.out; exact rt i2 rfl () 3 [0,1,2] 0 (.cons (res_tmp rfl) .nil)
 refine WP.seq<|rg 6 0<|mv0 rfl rfl<|Dv.nilp rfl trivial rfl<|fb rfl trivial rfl fa107_1<|ld 0 rfl trivial rfl sc104 rfl rfl<|Dv.lenw rfl trivial rfl (mem_at 1 rfl) Tryz.underlying104<|mv0 rfl rfl<|.fin<|WP.block<|wg (st_nil Edu.K none) fun _ _=>?_
 refine wg (sg 4 [1,2,3,0] 0) fun _ _=>?_
 refine lp (fun j_ (p731:Int×(List Edu)×OV)=>queue_Queue_All.l0 k a0 j_ p731.1 p731.2.1) (0,([]:List Edu),nilV) H (fun p731=>[(0,eq (.pointer (some ⟨b0_,0,none⟩))),(2,eq (.slice none 0 0)),(3,eq p731.2.2.1),(9,eq v0_0.1),(10,vI (a0.fkeys.length:Int)),(11,vI p731.1)]) (fun p731=>[blk b0_ 107 [vI a0.fmost,eq v0_0.1,eq v0_1.1,vI a0.flost],own EKey.K v0_0.1 a0.fkeys,mp EKey.kv (fun x:Edu=>agg (Edu.enc x)) v0_1.1 a0.fat,own Edu.K p731.2.2.1 p731.2.1]++F) ?_
 rintro j_ ⟨x721,x722,v723⟩ H
 rcases j_ with _ | j730
 ·
  exact (Gets.no H).elim
 replace H:Gets (queue_Queue_All.l0 k a0 (j730 + 1) x721 x722) _:=H
 rw [queue_Queue_All.l0] at H
 refine WP.seq<|rg 1 0<|bn0 rfl rfl rfl run_lt<|.fin<|WP.seq<|cd H rfl (fun _ H=>?_) (fun _ H=>?_)
 rotate_left
 ·
  refine WP.exit ?_
  have H:=H.out
  exact jn ((x721,decide (x721 < (a0.fkeys.length:Int)),x722),v723) H
 refine WP.skip<|WP.seq<|WP.block<|WP.seq<|rg 4 12<|gr H fun g725 H=>?_
 have h726:x721.toNat < a0.fkeys.length:=idx_lt g725
 refine Dv.ixw rfl trivial rfl (mem_at 1 rfl) rfl Tryz.underlying104 Tryz.underlying101 c101 g725.1 g725.2<|Dv.ldws (j:=x721.toNat) (f:=0) rfl trivial rfl (mem_at 1 rfl) h726 Tryz.underlying101 rfl c101 (Nat.le_of_ble_eq_true rfl)<|al rfl trivial zc101 nofun fun b727=>sx 0 rfl trivial rfl rfl cA sz101 rfl rfl rfl nofun ?_
 refine .fin<|dg Tryz.checked.mixed 10 256<|mv0 rfl rfl<|mv0 rfl rfl<|Dv.nilp rfl trivial rfl<|fb rfl trivial rfl fa107_2<|ld 1 rfl trivial rfl sc105 rfl rfl<|lds 0 rfl trivial rfl sg101 rfl rfl<|Dv.mlvq (⟨0,(⟨#[]⟩:ByteArray),(⟨#[]⟩:ByteArray),(⟨#[]⟩:ByteArray),(⟨#[]⟩:ByteArray),false,false,0,0,0,0⟩:Edu) rfl trivial rfl (mem_at 3 rfl) rfl (EKey.kq (a0.fkeys.getD x721.toNat default)) Tryz.underlying105 kok101 z32 (fun _=>⟨_,rfl,Cs.eqz rfl⟩)<|Dv.lit Edu.K ([(mget a0.fat (a0.fkeys.getD x721.toNat default)).getD (⟨0,(⟨#[]⟩:ByteArray),(⟨#[]⟩:ByteArray),(⟨#[]⟩:ByteArray),(⟨#[]⟩:ByteArray),false,false,0,0,0,0⟩:Edu)]:List Edu) (css:=[Edu.enc ((mget a0.fat (a0.fkeys.getD x721.toNat default)).getD (⟨0,(⟨#[]⟩:ByteArray),(⟨#[]⟩:ByteArray),(⟨#[]⟩:ByteArray),(⟨#[]⟩:ByteArray),false,false,0,0,0,0⟩:Edu))]) rfl trivial Tryz.underlying23 Tryz.underlying32 c32 z32 rfl (by decide) (by decide) rfl ⟨(cells_agg (Edu.K.one _)),trivial⟩ rfl rfl rfl<|gr H fun g728 H=>ap Edu.K 4 ([(mget a0.fat (a0.fkeys.getD x721.toNat default)).getD (⟨0,(⟨#[]⟩:ByteArray),(⟨#[]⟩:ByteArray),(⟨#[]⟩:ByteArray),(⟨#[]⟩:ByteArray),false,false,0,0,0,0⟩:Edu)]:List Edu) src_sl Tryz.underlying23 (.inr ⟨_,Tryz.underlying23⟩) inf32 g728 pB fun v729=>?_
 refine as0 rfl rfl<|.fin<|rg 2 0<|bn0 rfl rfl rfl run_add<|mv0 rfl rfl<|.fin<|ng (sg 5 [0,1,2,3,4] 1) fun _ _=>?_
 exact bk j730 (w64 (x721 + 1),x722++([(mget a0.fat (a0.fkeys.getD x721.toNat default)).getD (⟨0,(⟨#[]⟩:ByteArray),(⟨#[]⟩:ByteArray),(⟨#[]⟩:ByteArray),(⟨#[]⟩:ByteArray),false,false,0,0,0,0⟩:Edu)]:List Edu),v729) H
theorem slices_Clone_Edu.c {a0:List Edu} {r:List Edu} (h:slices_Clone_Edu.f a0 = some r):Tr Tryz.prog 80 [sl Edu.K a0] [] (γ:=OV) (fun _=>True) (fun g=>eq g.1) (fun g=>[own Edu.K g.1 r]):=by
 unfold slices_Clone_Edu.f at h
 obtain ⟨h0,h5⟩:=(Gets.of h).grd
 obtain rfl:=Gets.out h5
 clear h h5
 refine (Tr.body Tryz.func80 (c:=_) rfl Tryz.ntmps80 (Nat.le_of_ble_eq_true rfl) fun R0 F=>?_)
 refine WP.seq<|WP.reg [(0,false)] (by kernel_rfl)<|as0 rfl rfl<|.fin<|WP.seq<|WP.seq<|WP.reg [(0,false),(1,true)] (by kernel_rfl)<|mv0 rfl rfl<|Dv.snil rfl trivial rfl rfl Tryz.underlying23 nofun (fun b hb=>?_)
 refine .fin<|WP.cond rfl (fun c0=>?_) (fun c0=>?_)
 ·
  obtain rfl:=hb c0
  refine WP.seq<|WP.reg [(0,false)] (by kernel_rfl)<|as0 rfl rfl<|.fin<|wg (st_nil Edu.K none) fun _ _=>?_
  exact rt i2 rfl nilV 1 [0] 0 (.cons (res_tmp rfl) .nil)
 refine WP.skip<|WP.seq<|WP.reg [(0,true),(1,false),(2,true),(3,false)] (by kernel_rfl)<|Dv.lit0 Edu.K rfl trivial Tryz.underlying23 Tryz.underlying32 c32 z32 nofun (fun v1=>?_)
 refine mv0 rfl rfl<|Dv.appx (Kd:=Edu.K) (xs:=[]) (v:=v1.1) (jj:=0) (ys:=a0) (fun v2:OV=>[own Edu.K v2.1 a0]++F) rfl trivial rfl rfl rfl src_sl Tryz.underlying23 (.inr ⟨_,Tryz.underlying23⟩) inf32 rfl (by decide) (by simpa using h0) rfl nofun (fun v2=>?_)
 exact as0 rfl rfl<|.fin<|rt i2 rfl v2 1 [0] 0 (.cons (res_tmp rfl) .nil)
theorem slices_IndexFunc_Edu_x.c {k:Nat} {a0:List Edu} {a1:(Edu→Option Bool)} {X1_:As} {r:Int} (h:slices_IndexFunc_Edu_x.f k a0 a1 = some r):Tr Tryz.prog 101 [sl Edu.K a0,fx_api_Edu_bool X1_ a1] [X1_] (γ:=Unit) (fun _=>True) (fun g=>vI r) (fun g=>[X1_]):=by
 unfold slices_IndexFunc_Edu_x.f at h
 refine Tr.body Tryz.func101 (c:=_) rfl Tryz.ntmps101 (Nat.le_of_ble_eq_true rfl) fun R0 F=>?_
 replace h:=Gets.of h
 have H:=h
 clear h
 refine WP.seq<|rg 1 0<|as0 rfl rfl<|.fin<|WP.seqr H id (fun p742:Int×Bool=>[(0,sl Edu.K a0),(1,fx_api_Edu_bool X1_ a1),(4,vI 0),(7,vI (a0.length:Int)),(8,vI p742.1),(9,vB p742.2)]) (fun p742:Int×Bool=>[X1_]++F) (fun p742 H=>?_) (fun H=>?_)
 ·
  refine WP.seq<|rg 1 0<|as0 rfl rfl<|.fin ?_
  cases H.out; exact rt i2 rfl () 1 [0] 0 (.cons (res_tmp rfl) .nil)
 refine WP.seq<|rg 3 0<|mv0 rfl rfl<|Dv.lenl rfl trivial rfl Tryz.underlying23<|mv0 rfl rfl<|.fin<|WP.block<|wg (sg 1 [0] 0) fun _ _=>?_
 refine lp (fun j_ (p750:Int)=>slices_IndexFunc_Edu_x.l0 k a0 a1 j_ p750) 0 H (fun p750=>[(0,sl Edu.K a0),(1,fx_api_Edu_bool X1_ a1),(4,vI 0),(7,vI (a0.length:Int)),(8,vI p750)]) (fun p750=>[X1_]++F) ?_
 rintro j_ x743 H
 rcases j_ with _ | j749
 ·
  exact (Gets.no H).elim
 replace H:Gets (slices_IndexFunc_Edu_x.l0 k a0 a1 (j749 + 1) x743) _:=H
 rw [slices_IndexFunc_Edu_x.l0] at H
 refine WP.seq<|rg 1 0<|bn0 rfl rfl rfl run_lt<|.fin<|WP.seq<|cd H rfl (fun _ H=>?_) (fun _ H=>?_)
 rotate_left
 ·
  refine WP.exit ?_
  have H:=H.out
  exact jn (x743,decide (x743 < (a0.length:Int))) H
 refine WP.skip<|WP.seq<|WP.block<|WP.seq<|rg 2 0<|mv0 rfl rfl<|as0 rfl rfl<|.fin<|WP.seq<|rg 6 0<|mv0 rfl rfl<|mv0 rfl rfl<|mv0 rfl rfl<|gr H fun g745 H=>Dv.ixr rfl trivial rfl rfl Tryz.underlying23 Tryz.underlying32 c32 g745.1 g745.2<|ldsR rfl trivial rfl sg32 rfl<|el H fun t746 h747 H=>Dv.callfx (ret:=vB t746) (X:=X1_) (F:=F) rfl trivial rfl rfl ⟨_,_,h747,rfl,rfl⟩ (perm_to (L:=[X1_]) (F:=F) [0] rfl rfl rfl)<|.fin<|cd H rfl (fun _ H=>?_) (fun _ H=>?_)
 rotate_left
 ·
  exact WP.skip<|rg 2 0<|bn0 rfl rfl rfl run_add<|mv0 rfl rfl<|.fin<|bk j749 (w64 (x743 + 1)) H
 refine WP.seq<|rg 2 0<|mv0 rfl rfl<|as0 rfl rfl<|.fin ?_
 have H:=H.outr
 cases H.out; exact rt i2 rfl () 1 [0] 0 (.cons (res_tmp rfl) .nil)
theorem slices_IndexFunc_Edu_xw.c {k:Nat} {a0:List Edu} {a1:(Edu→Option Bool)} {X1_:As} {p0_:OV} {r:Int} (h:slices_IndexFunc_Edu_xw.f k a0 a1 = some r):Tr Tryz.prog 101 [eq p0_.1,fx_api_Edu_bool X1_ a1] [own Edu.K p0_.1 a0,X1_] (γ:=Unit) (fun _=>True) (fun g=>vI r) (fun g=>[own Edu.K p0_.1 a0,X1_]):=by
 unfold slices_IndexFunc_Edu_xw.f at h
 refine Tr.body Tryz.func101 (c:=_) rfl Tryz.ntmps101 (Nat.le_of_ble_eq_true rfl) fun R0 F=>?_
 replace h:=Gets.of h
 have H:=h
 clear h
 refine WP.seq<|rg 1 0<|as0 rfl rfl<|.fin<|WP.seqr H id (fun p751:Int×Bool=>[(0,eq p0_.1),(1,fx_api_Edu_bool X1_ a1),(4,vI 0),(7,vI (a0.length:Int)),(8,vI p751.1),(9,vB p751.2)]) (fun p751:Int×Bool=>[own Edu.K p0_.1 a0,X1_]++F) (fun p751 H=>?_) (fun H=>?_)
 ·
  refine WP.seq<|rg 1 0<|as0 rfl rfl<|.fin ?_
  cases H.out; exact rt i2 rfl () 2 [0,1] 0 (.cons (res_tmp rfl) .nil)
 refine WP.seq<|rg 3 0<|mv0 rfl rfl<|Dv.lenw rfl trivial rfl (mem_at 0 rfl) Tryz.underlying23<|mv0 rfl rfl<|.fin<|WP.block<|wg (sg 2 [0,1] 0) fun _ _=>?_
 refine lp (fun j_ (p760:Int)=>slices_IndexFunc_Edu_xw.l0 k a0 a1 j_ p760) 0 H (fun p760=>[(0,eq p0_.1),(1,fx_api_Edu_bool X1_ a1),(4,vI 0),(7,vI (a0.length:Int)),(8,vI p760)]) (fun p760=>[own Edu.K p0_.1 a0,X1_]++F) ?_
 rintro j_ x752 H
 rcases j_ with _ | j759
 ·
  exact (Gets.no H).elim
 replace H:Gets (slices_IndexFunc_Edu_xw.l0 k a0 a1 (j759 + 1) x752) _:=H
 rw [slices_IndexFunc_Edu_xw.l0] at H
 refine WP.seq<|rg 1 0<|bn0 rfl rfl rfl run_lt<|.fin<|WP.seq<|cd H rfl (fun _ H=>?_) (fun _ H=>?_)
 rotate_left
 ·
  refine WP.exit ?_
  have H:=H.out
  exact jn (x752,decide (x752 < (a0.length:Int))) H
 refine WP.skip<|WP.seq<|WP.block<|WP.seq<|rg 2 0<|mv0 rfl rfl<|as0 rfl rfl<|.fin<|WP.seq<|rg 6 0<|mv0 rfl rfl<|mv0 rfl rfl<|mv0 rfl rfl<|gr H fun g754 H=>?_
 have h755:x752.toNat < a0.length:=idx_lt g754
 refine Dv.ixw rfl trivial rfl (mem_at 0 rfl) rfl Tryz.underlying23 Tryz.underlying32 c32 g754.1 g754.2<|Dv.ldws (j:=x752.toNat) (f:=0) rfl trivial rfl (mem_at 0 rfl) h755 Tryz.underlying32 rfl c32 (Nat.le_of_ble_eq_true rfl)<|el H fun t756 h757 H=>Dv.callfx (ret:=vB t756) (X:=X1_) (F:=[own Edu.K p0_.1 a0]++F) rfl trivial rfl rfl ⟨_,_,h757,rfl,rfl⟩ (perm_to (L:=[own Edu.K p0_.1 a0,X1_]) (F:=F) [1,0] rfl rfl rfl)<|.fin<|cd H rfl (fun _ H=>?_) (fun _ H=>?_)
 rotate_left
 ·
  exact WP.skip<|rg 2 0<|bn0 rfl rfl rfl run_add<|mv0 rfl rfl<|.fin<|bk j759 (w64 (x752 + 1)) H
 refine WP.seq<|rg 2 0<|mv0 rfl rfl<|as0 rfl rfl<|.fin ?_
 have H:=H.outr
 cases H.out; exact rt i2 rfl () 2 [0,1] 0 (.cons (res_tmp rfl) .nil)
theorem slices_DeleteFunc_Edu_xo.c {k:Nat} {a0:List Edu} {a1:(Edu→Option Bool)} {X1_:As} {p0_:OV} {r:(List Edu)} (h:slices_DeleteFunc_Edu_xo.f k a0 a1 = some r):Tr Tryz.prog 82 [eq p0_.1,fx_api_Edu_bool X1_ a1] [own Edu.K p0_.1 a0,X1_] (γ:=OV) (fun _=>True) (fun g=>eq g.1) (fun g=>[X1_,own Edu.K g.1 r]):=by
 unfold slices_DeleteFunc_Edu_xo.f at h
 refine Tr.body Tryz.func82 (c:=_) rfl Tryz.ntmps82 (Nat.le_of_ble_eq_true rfl) fun R0 F=>?_
 replace h:=Gets.of h
 have H:=h
 clear h
 refine WP.seq<|rg 1 0<|as0 rfl rfl<|.fin<|WP.seq<|rg 4 0<|mv0 rfl rfl<|mv0 rfl rfl<|el H fun t761 h762 H=>cll 2 [0,1] cal101 (slices_IndexFunc_Edu_xw.c h762 (p0_:=p0_) (X1_:=X1_)) ?_
 refine as0 rfl rfl<|.fin<|WP.seq<|WP.seq<|rg 2 0<|mv0 rfl rfl<|bn0 rfl rfl rfl run_eq<|.fin<|cd H rfl (fun _ H=>?_) (fun _ H=>?_)
 ·
  refine WP.seq<|rg 2 0<|mv0 rfl rfl<|as0 rfl rfl<|.fin ?_
  obtain rfl:=Gets.out H
  exact rt i2 rfl p0_ 2 [1,0] 0 (.cons (res_tmp rfl) .nil)
 refine WP.skip<|WP.seqn H id (fun p764:Int×Int×Bool×(List Edu)=>[(0,eq p0_.1),(1,fx_api_Edu_bool X1_ a1),(4,eq (.slice none 0 0)),(5,vI p764.1),(6,vI p764.2.1),(12,vB (t761 == (-1))),(19,vB p764.2.2.1)]) (fun p764:Int×Int×Bool×(List Edu)=>[own Edu.K p0_.1 p764.2.2.2,X1_]++F) (fun p764 H=>?_) (fun H=>?_)
 ·
  refine WP.seq<|rg 4 8<|mv0 rfl rfl<|mv0 rfl rfl<|gr H fun g765 H=>vg (st_own_form 0 rfl (List.length_pos_iff.1 (Nat.lt_of_le_of_lt (Nat.zero_le _) g765.2))) fun g766 h767=>?_
  refine Dv.slkm (o':=g766.2.1 + p764.1.toNat * Edu.K.sz) (m':=p764.2.2.2.length - p764.1.toNat) (c':=g766.2.2 - p764.1.toNat) rfl trivial ((show opv _ _ = some (eq p0_.1) from rfl).trans (congrArg (fun z=>some (eq z)) h767.1)) Tryz.underlying23 Tryz.underlying32 c32 (bdE_some rfl g765.1) bdE_none (Nat.le_of_lt g765.2) h767.2 (.inl (Nat.lt_of_lt_of_le g765.2 h767.2)) rfl rfl rfl<|Dv.clrw (jj:=0) (⟨0,(⟨#[]⟩:ByteArray),(⟨#[]⟩:ByteArray),(⟨#[]⟩:ByteArray),(⟨#[]⟩:ByteArray),false,false,0,0,0,0⟩:Edu) rfl trivial rfl Tryz.underlying23 z32 rfl rfl (fun u hu=>List.all_eq_true.1 (show (Value.cells _).toList.all (fun u=>u.oneCell') = true by kernel_rfl) u hu) h767.1 rfl g765.2 rfl nofun<|.fin<|WP.seq<|rg 4 4<|mv0 rfl rfl<|mv0 rfl rfl<|gr H fun g768 H=>Dv.slo (jj:=0) rfl trivial rfl rfl Tryz.underlying23 Tryz.underlying32 c32 bdE_none (bdE_some rfl g768.1) (.inl rfl) g768.2.1 g768.2.2 nofun (fun v769=>?_)
  refine as0 rfl rfl<|.fin ?_
  obtain rfl:=Gets.out H
  exact rt i2 rfl v769 2 [1,0] 0 (.cons (res_tmp rfl) .nil)
 refine WP.seq<|rg 3 0<|mv0 rfl rfl<|bn0 rfl rfl rfl run_add<|as0 rfl rfl<|.fin<|WP.block<|wg (sg 2 [0,1] 0) fun _ _=>?_
 refine lp (fun j_ (p783:Int×Int×(List Edu))=>slices_DeleteFunc_Edu_xo.l0 k a1 j_ p783.1 p783.2.1 p783.2.2) (t761,w64 (t761 + 1),a0) H (fun p783=>[(0,eq p0_.1),(1,fx_api_Edu_bool X1_ a1),(4,eq (.slice none 0 0)),(5,vI p783.1),(6,vI p783.2.1),(12,vB (t761 == (-1)))]) (fun p783=>[own Edu.K p0_.1 p783.2.2,X1_]++F) ?_
 rintro j_ ⟨x770,x771,x772⟩ H
 rcases j_ with _ | j782
 ·
  exact (Gets.no H).elim
 replace H:Gets (slices_DeleteFunc_Edu_xo.l0 k a1 (j782 + 1) x770 x771 x772) _:=H
 rw [slices_DeleteFunc_Edu_xo.l0] at H
 refine WP.seq<|WP.seq<|rg 4 0<|mv0 rfl rfl<|mv0 rfl rfl<|Dv.lenw rfl trivial rfl (mem_at 0 rfl) Tryz.underlying23<|bn0 rfl rfl rfl run_lt<|.fin<|cd H rfl (fun _ H=>?_) (fun _ H=>?_)
 rotate_left
 ·
  refine WP.exit ?_
  have H:=H.out
  exact jn (x770,x771,decide (x771 < (x772.length:Int)),x772) H
 refine WP.skip<|WP.seq<|WP.block<|WP.seq<|rg 6 48<|mv0 rfl rfl<|mv0 rfl rfl<|gr H fun g774 H=>?_
 have h775:x771.toNat < x772.length:=idx_lt g774
 refine Dv.ixw rfl trivial rfl (mem_at 0 rfl) rfl Tryz.underlying23 Tryz.underlying32 c32 g774.1 g774.2<|Dv.ldws (j:=x771.toNat) (f:=0) rfl trivial rfl (mem_at 0 rfl) h775 Tryz.underlying32 rfl c32 (Nat.le_of_ble_eq_true rfl)<|al rfl trivial zc32 nofun fun b776=>sx 0 rfl trivial rfl rfl cA sz32 rfl rfl rfl nofun ?_
 refine .fin<|WP.seq<|rg 4 0<|mv0 rfl rfl<|lds 0 rfl trivial rfl sg32 rfl rfl<|el H fun t777 h778 H=>Dv.callfx (ret:=vB t777) (X:=X1_) (F:=[blk b776 32 (Edu.enc (x772.getD x771.toNat default)),own Edu.K p0_.1 x772]++F) rfl trivial rfl rfl ⟨_,_,h778,rfl,rfl⟩ (perm_to (L:=[blk b776 32 (Edu.enc (x772.getD x771.toNat default)),own Edu.K p0_.1 x772,X1_]) (F:=F) [2,0,1] rfl rfl rfl)<|un0 rfl rfl (run_not _)<|.fin<|cd H rfl (fun _ H=>?_) (fun _ H=>?_)
 rotate_left
 ·
  refine WP.skip<|rg 3 0<|mv0 rfl rfl<|bn0 rfl rfl rfl run_add<|as0 rfl rfl<|.fin<|ng (sg 3 [0,1,2] 1) fun _ _=>?_
  exact bk j782 (x770,w64 (x771 + 1),x772) H
 refine WP.seq<|rg 5 16<|mv0 rfl rfl<|mv0 rfl rfl<|lds 0 rfl trivial rfl sg32 rfl rfl<|gr H fun g780 H=>?_
 have h781:x770.toNat < x772.length:=idx_lt g780
 refine Dv.ixw rfl trivial rfl (mem_at 1 rfl) rfl Tryz.underlying23 Tryz.underlying32 c32 g780.1 g780.2<|Dv.stw (j:=x770.toNat) (f:=0) (jj:=1) (x772.getD x771.toNat default) rfl trivial rfl rfl (cells_agg (Edu.K.one _)) Tryz.underlying32 c32 rfl rfl h781 (Nat.le_of_ble_eq_true rfl) rfl nofun<|.fin<|rg 3 0<|mv0 rfl rfl<|bn0 rfl rfl rfl run_add<|as0 rfl rfl<|.fin<|rg 3 0<|mv0 rfl rfl<|bn0 rfl rfl rfl run_add<|as0 rfl rfl<|.fin<|ng (sg 3 [0,1,2] 1) fun _ _=>?_
 exact bk j782 (w64 (x770 + 1),w64 (x771 + 1),x772.set x770.toNat (x772.getD x771.toNat default)) H
theorem slices_Index_string.c {k:Nat} {a0:List ByteArray} {a1:ByteArray} {r:Int} (h:slices_Index_string.f k a0 a1 = some r):Pt Tryz.prog 143 [sl strK a0,vS a1] (vI r):=by
 unfold slices_Index_string.f at h
 refine pb Tryz.func143 Tryz.ntmps143 h fun R0 F H=>?_
 refine WP.seq<|rg 1 0<|as0 rfl rfl<|.fin<|WP.seqr H id (fun p784:Int×Bool=>[(0,sl strK a0),(1,vS a1),(4,vI 0),(7,vI (a0.length:Int)),(8,vI p784.1),(9,vB p784.2)]) (fun p784:Int×Bool=>F) (fun p784 H=>?_) (fun H=>?_)
 ·
  refine WP.seq<|rg 1 0<|as0 rfl rfl<|.fin ?_
  cases H.out; exact r0 i2 rfl (.cons (res_tmp rfl) .nil)
 refine WP.seq<|rg 3 0<|mv0 rfl rfl<|Dv.lenl rfl trivial rfl Tryz.underlying53<|mv0 rfl rfl<|.fin<|WP.block<|wg (sg 0 [] 0) fun _ _=>?_
 refine lp (fun j_ (p790:Int)=>slices_Index_string.l0 k a0 a1 j_ p790) 0 H (fun p790=>[(0,sl strK a0),(1,vS a1),(4,vI 0),(7,vI (a0.length:Int)),(8,vI p790)]) (fun p790=>F) ?_
 rintro j_ x785 H
 rcases j_ with _ | j789
 ·
  exact (Gets.no H).elim
 replace H:Gets (slices_Index_string.l0 k a0 a1 (j789 + 1) x785) _:=H
 rw [slices_Index_string.l0] at H
 refine WP.seq<|rg 1 0<|bn0 rfl rfl rfl run_lt<|.fin<|WP.seq<|cd H rfl (fun _ H=>?_) (fun _ H=>?_)
 rotate_left
 ·
  refine WP.exit ?_
  have H:=H.out
  exact jn (x785,decide (x785 < (a0.length:Int))) H
 refine WP.skip<|WP.seq<|WP.block<|WP.seq<|rg 2 0<|mv0 rfl rfl<|as0 rfl rfl<|.fin<|WP.seq<|rg 6 0<|mv0 rfl rfl<|mv0 rfl rfl<|mv0 rfl rfl<|gr H fun g787 H=>Dv.ixr rfl trivial rfl rfl Tryz.underlying53 Tryz.underlying9 c9 g787.1 g787.2<|ldR rfl trivial rfl sc9 rfl<|bn0 rfl rfl rfl run_seq<|.fin<|cd H rfl (fun _ H=>?_) (fun _ H=>?_)
 rotate_left
 ·
  exact WP.skip<|rg 2 0<|bn0 rfl rfl rfl run_add<|mv0 rfl rfl<|.fin<|bk j789 (w64 (x785 + 1)) H
 refine WP.seq<|rg 2 0<|mv0 rfl rfl<|as0 rfl rfl<|.fin ?_
 have H:=H.outr
 cases H.out; exact r0 i2 rfl (.cons (res_tmp rfl) .nil)
theorem slices_Contains_string.c {k:Nat} {a0:List ByteArray} {a1:ByteArray} {r:Bool} (h:slices_Contains_string.f k a0 a1 = some r):Pt Tryz.prog 113 [sl strK a0,vS a1] (vB r):=by
 unfold slices_Contains_string.f at h
 refine pb Tryz.func113 Tryz.ntmps113 h fun R0 F H=>?_
 refine WP.seq<|rg 1 0<|as0 rfl rfl<|.fin<|WP.seq<|rg 5 0<|mv0 rfl rfl<|mv0 rfl rfl<|el H fun t791 h792 H=>cl rfl cal143 rfl (slices_Index_string.c h792)<|bn0 rfl rfl rfl run_ge<|as0 rfl rfl<|.fin ?_
 cases H.out; exact r0 i2 rfl (.cons (res_tmp rfl) .nil)
theorem dag_New.c {a0:ByteArray} {r:DDag} (h:dag_New.f a0 = some r):Tr Tryz.prog 90 [vS a0] [] (γ:=OV) (fun _=>True) (fun g=>eq g.1) (fun g=>[DDag.O g r]):=by
 unfold dag_New.f at h
 refine Tr.body Tryz.func90 (c:=_) rfl Tryz.ntmps90 (Nat.le_of_ble_eq_true rfl) fun R0 F=>?_
 replace h:=Gets.of h
 have H:=h
 clear h
 refine WP.seq<|rg 1 0<|as0 rfl rfl<|.fin<|WP.seq<|rg 5 10<|mv0 rfl rfl<|Dv.mmk Value.string (fun p:OV=>eq p.1) rfl trivial nofun (fun v793=>?_)
 refine vg (mpo_new DNode.O) fun _ _=>?_
 refine Dv.bld (qs:=[vS a0,eq v793.1]) (css:=[[vS a0],[eq v793.1]]) rfl trivial Tryz.underlying159 pl159 z159 rfl ⟨(cells_one (one_eq rfl)),⟨(cells_one one_ov),trivial⟩⟩ rfl rfl<|Dv.box rfl trivial rfl cA nofun fun b794=>as0 rfl rfl<|.fin<|wg (DDag.shut (p:=(⟨.pointer (some ⟨b794,0,none⟩),rfl⟩:OV)) (m:=(⟨a0,([]:List (ByteArray×DNode))⟩:DDag)) (b794,v793) rfl (pm 2 [0,1])) fun _ _=>?_
 obtain rfl:=Gets.out H
 exact rt i2 rfl (⟨.pointer (some ⟨b794,0,none⟩),rfl⟩:OV) 1 [0] 0 (.cons (res_tmp rfl) .nil)
theorem view_View_room.r {a0:VView} {a1:ByteArray} {r:DDag} (h:view_View_room.f a0 a1 = some r):∀ x,mget a0.fdags a1 = some x→x = r:=fun x e=>by
 unfold view_View_room.f at h; rw [e] at h; exact Option.some.inj h
theorem view_View_room.c {a0:VView} {a1:ByteArray} {b0_:Nat} {v0_0:OV} {r:DDag} (h:view_View_room.f a0 a1 = some r):Tr Tryz.prog 55 [eq (.pointer (some ⟨b0_,0,none⟩)),vS a1] [blk b0_ 95 [eq v0_0.1],mpo Value.string DDag.O v0_0.1 a0.fdags] (γ:=OV) (fun _=>True) (fun g=>eq g.1) (fun g=>[blk b0_ 95 [eq v0_0.1],mpl Value.string DDag.O v0_0.1 a0.fdags a1 g,DDag.O g r]):=by
 unfold view_View_room.f at h
 refine Tr.body Tryz.func55 (c:=_) rfl Tryz.ntmps55 (Nat.le_of_ble_eq_true rfl) fun R0 F=>?_
 replace h:=Gets.of h
 have H:=h
 clear h
 refine WP.seq<|WP.reg [(0,false)] (by kernel_rfl)<|as0 rfl rfl<|.fin<|WP.seq<|WP.seq<|WP.reg [(0,false),(1,false),(2,false),(3,false),(4,false),(5,false),(6,false)] (by kernel_rfl)<|mv0 rfl rfl<|Dv.nilp rfl trivial rfl<|Dv.fab rfl trivial rfl Tryz.underlying95 rfl Tryz.underlying93 c93 (by decide)<|Dv.ldb rfl trivial rfl Tryz.underlying93 rfl (mem_at 0 rfl) rfl<|mv0 rfl rfl<|vg (mpo_opn 1 rfl) fun z1 h1=>?_
 refine Dv.mlv nilP rfl trivial rfl (mem_at 0 rfl) rfl Tryz.underlying93 (keyOk_str Tryz.underlying9) z120 (fun _=>rfl)<|as0 rfl rfl<|.fin<|WP.seq<|WP.reg [(0,false),(1,false)] (by kernel_rfl)<|mv0 rfl rfl<|Dv.pm1 (pm_nil h1 rfl) rfl trivial rfl rfl Tryz.underlying120<|.fin<|WP.cond rfl (fun c1=>?_) (fun c1=>?_)
 ·
  have e1:(mget a0.fdags a1).isSome = true:=by cases e:mget a0.fdags a1 with | none=>rw [e] at c1; cases c1 | some _=>rfl
  have H:=H.ct e1
  obtain rfl:=Gets.out H
  refine WP.seq<|WP.reg [(0,false),(1,false)] (by kernel_rfl)<|mv0 rfl rfl<|as0 rfl rfl<|.fin<|wg (mpl_some h1 rfl e1 (pm 3 [0,1,2])) fun _ _=>?_
  exact rt i2 rfl ((mget (zipK a0.fdags z1) a1).getD nilP) 3 [2,0,1] 0 (.cons (res_tmp rfl) .nil)
 have e1:(mget a0.fdags a1).isSome = false:=by cases e:mget a0.fdags a1 with | none=>rfl | some _=>rw [e] at c1; cases c1
 have H:=H.cf e1
 refine WP.skip<|WP.seq<|WP.reg [(0,false),(1,true),(2,false)] (by kernel_rfl)<|mv0 rfl rfl<|cx 0 [] cal90 (dag_New.c (by obtain ⟨_,e,rfl⟩:=H; exact e)) nofun fun g2 _=>?_
 refine as0 rfl rfl<|.fin<|wg (mpl_none g2 h1 rfl e1 (pm 4 [1,2,0,3])) fun _ _=>?_
 exact rt i2 rfl g2 3 [2,0,1] 0 (.cons (res_tmp rfl) .nil)
theorem slices_Sort_string.c {a0:List ByteArray} {p0_:OV} {r:List ByteArray} (h:slices_Sort_string.f a0 = some r):Tr Tryz.prog 162 [eq p0_.1] [own strK p0_.1 a0] (γ:=Unit) (fun _=>True) (fun g=>tup []) (fun g=>[own strK p0_.1 r]):=by
 unfold slices_Sort_string.f at h
 obtain ⟨h0,h5⟩:=(Gets.of h).grd
 obtain rfl:=Gets.out h5
 exact sort_tr (fun blk off cap ss w=>Go.Proofs.Any.slices_Sort_string Tryz.lays190 blk off cap ss w) (fun q cap w=>Go.Proofs.Any.slices_Sort_string_none Tryz.lays190 q cap w) h0
theorem slices_Compact_string.c {a0:List ByteArray} {p0_:OV} {r:List ByteArray} (h:slices_Compact_string.f a0 = some r):Tr Tryz.prog 163 [eq p0_.1] [own strK p0_.1 a0] (γ:=OV) (fun _=>True) (fun g=>eq g.1) (fun g=>[own strK g.1 r]):=by
 unfold slices_Compact_string.f at h
 obtain ⟨h0,h5⟩:=(Gets.of h).grd
 obtain rfl:=Gets.out h5
 exact compact_tr (fun blk off cap ss w=>Go.Proofs.Any.slices_Compact_string Tryz.lays194 blk off cap ss w) (fun q cap w=>Go.Proofs.Any.slices_Compact_string_empty Tryz.lays194 q cap w) h0
theorem name_Home.c {k:Nat} {a0:ByteArray} {r:ByteArray} (h:name_Home.f k a0 = some r):Pt Tryz.prog 195 [vS a0] (vS r):=by
 unfold name_Home.f at h
 refine pb Tryz.func195 Tryz.ntmps195 h fun R0 F H=>?_
 refine WP.seq<|rg 1 0<|as0 rfl rfl<|.fin<|WP.seq<|WP.seq<|rg 8 0<|mv0 rfl rfl<|el H fun t795 h796 H=>cl rfl cal107 rfl (name_User.c h796)<|un0 rfl rfl (run_not _)<|mv0 rfl rfl ?_
 cases c797:!t795
 ·
  have H:=H.cf c797
  refine sk rfl rfl<|sk rfl rfl<|sk rfl rfl<|pf0 rfl rfl rfl<|.fin<|WP.cond rfl nofun (fun _=>?_)
  refine WP.skip<|WP.seq<|rg 9 0<|mv0 rfl rfl<|el H fun t804 h805 H=>cl rfl cal160 rfl (strings_Cut.c h805)<|mv0 rfl rfl<|ex0 rfl trivial rfl rfl<|ex0 rfl trivial rfl rfl<|ex0 rfl trivial rfl rfl<|as0 rfl rfl<|as0 rfl rfl<|as0 rfl rfl<|.fin<|WP.seq<|rg 2 0<|mv0 rfl rfl<|as0 rfl rfl<|.fin ?_
  cases H.out; exact r0 i2 rfl (.cons (res_tmp rfl) .nil)
 have H:=H.ct c797
 refine mvg rfl rfl rfl<|el H fun t798 h799 H=>Dv.call rfl (gg rfl) cal122 rfl (name_Room.c h799)<|ung rfl rfl rfl (run_not _)<|pt0 rfl rfl rfl<|.fin<|cd H rfl (fun _ H=>?_) (fun _ H=>?_)
 ·
  refine WP.seq<|rg 1 0<|as0 rfl rfl<|.fin ?_
  cases H.out; exact r0 i2 rfl (.cons (res_tmp rfl) .nil)
 refine WP.skip<|WP.seq<|rg 9 0<|mv0 rfl rfl<|el H fun t801 h802 H=>cl rfl cal160 rfl (strings_Cut.c h802)<|mv0 rfl rfl<|ex0 rfl trivial rfl rfl<|ex0 rfl trivial rfl rfl<|ex0 rfl trivial rfl rfl<|as0 rfl rfl<|as0 rfl rfl<|as0 rfl rfl<|.fin<|WP.seq<|rg 2 0<|mv0 rfl rfl<|as0 rfl rfl<|.fin ?_
 cases H.out; exact r0 i2 rfl (.cons (res_tmp rfl) .nil)
theorem member_Homes.c {k:Nat} {a0:List ByteArray} {r:(List ByteArray)} (h:member_Homes.f k a0 = some r):Tr Tryz.prog 176 [sl strK a0] [] (γ:=OV) (fun _=>True) (fun g=>eq g.1) (fun g=>[own strK g.1 r]):=by
 unfold member_Homes.f at h
 refine Tr.body Tryz.func176 (c:=_) rfl Tryz.ntmps176 (Nat.le_of_ble_eq_true rfl) fun R0 F=>?_
 replace h:=Gets.of h
 have H:=h
 clear h
 refine WP.seq<|rg 1 0<|as0 rfl rfl<|.fin<|WP.seq<|rg 1 0<|as0 rfl rfl<|.fin<|WP.seqn H (fun q825:(Int×Bool×(List ByteArray))×OV=>q825.1) (fun q825:(Int×Bool×(List ByteArray))×OV=>[(0,sl strK a0),(2,eq (.slice none 0 0)),(3,eq q825.2.1),(7,sl strK a0),(8,vI (a0.length:Int)),(9,vI q825.1.1),(10,vB q825.1.2.1)]) (fun q825:(Int×Bool×(List ByteArray))×OV=>[own strK q825.2.1 q825.1.2.2]++F) (fun q825 H=>?_) (fun H=>?_)
 ·
  obtain ⟨p806,v807⟩:=q825
  refine WP.seq<|rg 2 2<|mv0 rfl rfl<|el H fun t808 h809 H=>cx 1 [0] cal162 (slices_Sort_string.c h809 (p0_:=v807)) nofun fun _ _=>?_
  refine .fin<|WP.seq<|rg 3 2<|mv0 rfl rfl<|el H fun t810 h811 H=>cx 1 [0] cal163 (slices_Compact_string.c h811 (p0_:=v807)) nofun fun g812 _=>?_
  refine as0 rfl rfl<|.fin ?_
  obtain rfl:=Gets.out H
  exact rt i2 rfl g812 1 [0] 0 (.cons (res_tmp rfl) .nil)
 refine WP.seq<|rg 3 0<|mv0 rfl rfl<|Dv.lenl rfl trivial rfl Tryz.underlying53<|mv0 rfl rfl<|.fin<|WP.block<|wg (st_nil strK none) fun _ _=>?_
 refine wg (sg 1 [0] 0) fun _ _=>?_
 refine lp (fun j_ (p824:Int×(List ByteArray)×OV)=>member_Homes.l0 k a0 j_ p824.1 p824.2.1) (0,([]:List ByteArray),nilV) H (fun p824=>[(0,sl strK a0),(2,eq (.slice none 0 0)),(3,eq p824.2.2.1),(7,sl strK a0),(8,vI (a0.length:Int)),(9,vI p824.1)]) (fun p824=>[own strK p824.2.2.1 p824.2.1]++F) ?_
 rintro j_ ⟨x813,x814,v815⟩ H
 rcases j_ with _ | j823
 ·
  exact (Gets.no H).elim
 replace H:Gets (member_Homes.l0 k a0 (j823 + 1) x813 x814) _:=H
 rw [member_Homes.l0] at H
 refine WP.seq<|rg 1 0<|bn0 rfl rfl rfl run_lt<|.fin<|WP.seq<|cd H rfl (fun _ H=>?_) (fun _ H=>?_)
 rotate_left
 ·
  refine WP.exit ?_
  have H:=H.out
  exact jn ((x813,decide (x813 < (a0.length:Int)),x814),v815) H
 refine WP.skip<|WP.seq<|WP.block<|WP.seq<|rg 3 0<|gr H fun g817 H=>Dv.ixr rfl trivial rfl rfl Tryz.underlying53 Tryz.underlying9 c9 g817.1 g817.2<|ldR rfl trivial rfl sc9 rfl<|as0 rfl rfl<|.fin<|WP.seq<|rg 3 0<|mv0 rfl rfl<|el H fun t818 h819 H=>cl rfl cal195 rfl (name_Home.c h819)<|as0 rfl rfl<|.fin<|WP.seq<|rg 2 0<|mv0 rfl rfl<|bn0 rfl rfl rfl run_sne<|.fin<|cd H rfl (fun _ H=>?_) (fun _ H=>?_)
 rotate_left
 ·
  exact WP.skip<|rg 2 0<|bn0 rfl rfl rfl run_add<|mv0 rfl rfl<|.fin<|bk j823 (w64 (x813 + 1),x814,v815) H
 refine rg 5 8<|mv0 rfl rfl<|mv0 rfl rfl<|Dv.lit strK ([t818]:List ByteArray) (css:=[[vS t818]]) rfl trivial Tryz.underlying53 Tryz.underlying9 c9 z9 rfl (by decide) (by decide) rfl ⟨(cells_one (one_eq rfl)),trivial⟩ rfl rfl rfl<|gr H fun g821 H=>ap strK 0 ([t818]:List ByteArray) src_sl Tryz.underlying53 (.inr ⟨_,Tryz.underlying53⟩) inf9 g821 nofun fun v822=>?_
 exact as0 rfl rfl<|.fin<|rg 2 0<|bn0 rfl rfl rfl run_add<|mv0 rfl rfl<|.fin<|bk j823 (w64 (x813 + 1),x814++([t818]:List ByteArray),v822) H
theorem slices_Clone_string.c {a0:List ByteArray} {r:List ByteArray} (h:slices_Clone_string.f a0 = some r):Tr Tryz.prog 124 [sl strK a0] [] (γ:=OV) (fun _=>True) (fun g=>eq g.1) (fun g=>[own strK g.1 r]):=by
 unfold slices_Clone_string.f at h
 obtain ⟨h0,h5⟩:=(Gets.of h).grd
 obtain rfl:=Gets.out h5
 clear h h5
 refine (Tr.body Tryz.func124 (c:=_) rfl Tryz.ntmps124 (Nat.le_of_ble_eq_true rfl) fun R0 F=>?_)
 refine WP.seq<|WP.reg [(0,false)] (by kernel_rfl)<|as0 rfl rfl<|.fin<|WP.seq<|WP.seq<|WP.reg [(0,false),(1,true)] (by kernel_rfl)<|mv0 rfl rfl<|Dv.snil rfl trivial rfl rfl Tryz.underlying53 nofun (fun b hb=>?_)
 refine .fin<|WP.cond rfl (fun c0=>?_) (fun c0=>?_)
 ·
  obtain rfl:=hb c0
  refine WP.seq<|WP.reg [(0,false)] (by kernel_rfl)<|as0 rfl rfl<|.fin<|wg (st_nil strK none) fun _ _=>?_
  exact rt i2 rfl nilV 1 [0] 0 (.cons (res_tmp rfl) .nil)
 refine WP.skip<|WP.seq<|WP.reg [(0,true),(1,false),(2,true),(3,false)] (by kernel_rfl)<|Dv.lit0 strK rfl trivial Tryz.underlying53 Tryz.underlying9 c9 z9 nofun (fun v1=>?_)
 refine mv0 rfl rfl<|Dv.appx (Kd:=strK) (xs:=[]) (v:=v1.1) (jj:=0) (ys:=a0) (fun v2:OV=>[own strK v2.1 a0]++F) rfl trivial rfl rfl rfl src_sl Tryz.underlying53 (.inr ⟨_,Tryz.underlying53⟩) inf9 rfl (by decide) (by simpa using h0) rfl nofun (fun v2=>?_)
 exact as0 rfl rfl<|.fin<|rt i2 rfl v2 1 [0] 0 (.cons (res_tmp rfl) .nil)
theorem dag_own.c {a0:Event} {r:Event} (h:dag_own.f a0 = some r):Pt Tryz.prog 95 [agg (Event.enc a0)] (agg (Event.enc r)):=by
 unfold dag_own.f at h
 refine pb Tryz.func95 Tryz.ntmps95 h fun R0 F H=>?_
 refine WP.seq<|rg 2 3<|Dv.box rfl trivial rfl cA nofun fun b826=>al rfl trivial zc55 nofun fun b827=>.fin<|WP.seq<|rg 5 20<|fb rfl trivial rfl fa55_2<|ld 1 rfl trivial rfl sc53 rfl rfl<|el H fun t828 h829 H=>cx 2 [0,1] cal124 (slices_Clone_string.c h829) nofun fun g830 _=>?_
 refine fb rfl trivial rfl fa55_2<|sx 2 rfl trivial rfl rfl (cells_one one_ov) sz53 rfl rfl rfl nofun ?_
 refine .fin<|WP.seq<|rg 2 2<|lds 2 rfl trivial rfl sg55 rfl rfl<|sx 1 rfl trivial rfl rfl cA sz55 rfl rfl rfl nofun ?_
 refine .fin<|WP.gh (gh_frz (E':=[(2,eq (.pointer (some ⟨b827,0,none⟩)))]) (l':=[blk b827 55 [vS a0.fID,vS a0.fRoom,sl strK t828,vS a0.fThread,vS a0.fUser,vI a0.fDoes],blk b826 55 [vS a0.fID,vS a0.fRoom,sl strK t828,vS a0.fThread,vS a0.fUser,vI a0.fDoes]]++F) 0 rfl (cve_cons rfl cv_id cve_nil) (all2_app (.cons (cva_blk (.cons cv_id (.cons cv_id (.cons cv_eq (.cons cv_id (.cons cv_id (.cons cv_id .nil))))))) (.cons (cva_blk (.cons cv_id (.cons cv_id (.cons cv_eq (.cons cv_id (.cons cv_id (.cons cv_id .nil))))))) .nil)) fun _=>cva_id)) (fun _ _=>?_)
 cases H.out; exact r2 i2 rfl (.cons (res_cells rfl Tryz.underlying55 rfl c55 (mem_at 0 rfl) rfl) .nil)
theorem cmp_isNaN_string.c {a0:ByteArray} {r:Bool} (h:cmp_isNaN_string.f a0 = some r):Pt Tryz.prog 206 [vS a0] (vB r):=by
 unfold cmp_isNaN_string.f at h
 refine pb Tryz.func206 Tryz.ntmps206 h fun R0 F H=>?_
 refine WP.seq<|rg 1 0<|as0 rfl rfl<|.fin<|WP.seq<|rg 4 0<|mv0 rfl rfl<|mv0 rfl rfl<|bn0 rfl rfl rfl run_sne<|as0 rfl rfl<|.fin ?_
 cases H.out; exact r0 i2 rfl (.cons (res_tmp rfl) .nil)
theorem cmp_Compare_string.c {a0:ByteArray} {a1:ByteArray} {r:Int} (h:cmp_Compare_string.f a0 a1 = some r):Pt Tryz.prog 215 [vS a0,vS a1] (vI r):=by
 unfold cmp_Compare_string.f at h
 refine pb Tryz.func215 Tryz.ntmps215 h fun R0 F H=>?_
 refine WP.seq<|rg 1 0<|as0 rfl rfl<|.fin<|WP.seq<|rg 3 0<|mv0 rfl rfl<|el H fun t831 h832 H=>cl rfl cal206 rfl (cmp_isNaN_string.c h832)<|as0 rfl rfl<|.fin<|WP.seq<|rg 3 0<|mv0 rfl rfl<|el H fun t833 h834 H=>cl rfl cal206 rfl (cmp_isNaN_string.c h834)<|as0 rfl rfl<|.fin<|WP.seq<|WP.seq<|rg 1 0<|mv0 rfl rfl<|.fin<|cd H rfl (fun _ H=>?_) (fun _ H=>?_)
 ·
  refine WP.seq<|WP.seq<|rg 1 0<|mv0 rfl rfl<|.fin<|cd H rfl (fun _ H=>?_) (fun _ H=>?_)
  ·
   refine WP.seq<|rg 1 0<|as0 rfl rfl<|.fin ?_
   cases H.out; exact r0 i2 rfl (.cons (res_tmp rfl) .nil)
  refine WP.skip<|WP.seq<|rg 1 0<|as0 rfl rfl<|.fin ?_
  cases H.out; exact r0 i2 rfl (.cons (res_tmp rfl) .nil)
 refine WP.skip<|WP.seq<|WP.seq<|rg 1 0<|mv0 rfl rfl<|.fin<|cd H rfl (fun _ H=>?_) (fun _ H=>?_)
 ·
  refine WP.seq<|rg 1 0<|as0 rfl rfl<|.fin ?_
  cases H.out; exact r0 i2 rfl (.cons (res_tmp rfl) .nil)
 refine WP.skip<|WP.seq<|WP.seq<|rg 3 0<|mv0 rfl rfl<|mv0 rfl rfl<|bn0 rfl rfl rfl run_slt<|.fin<|cd H rfl (fun _ H=>?_) (fun _ H=>?_)
 ·
  refine WP.seq<|rg 1 0<|as0 rfl rfl<|.fin ?_
  cases H.out; exact r0 i2 rfl (.cons (res_tmp rfl) .nil)
 refine WP.skip<|WP.seq<|WP.seq<|rg 3 0<|mv0 rfl rfl<|mv0 rfl rfl<|bn0 rfl rfl rfl run_sgt<|.fin<|cd H rfl (fun _ H=>?_) (fun _ H=>?_)
 ·
  refine WP.seq<|rg 1 0<|as0 rfl rfl<|.fin ?_
  cases H.out; exact r0 i2 rfl (.cons (res_tmp rfl) .nil)
 refine WP.skip<|WP.seq<|rg 1 0<|as0 rfl rfl<|.fin ?_
 cases H.out; exact r0 i2 rfl (.cons (res_tmp rfl) .nil)
theorem dag_Compare.c {k:Nat} {a0:Pos} {a1:Pos} {r:Int} (h:dag_Compare.f k a0 a1 = some r):Pt Tryz.prog 213 [agg (Pos.enc a0),agg (Pos.enc a1)] (vI r):=by
 unfold dag_Compare.f at h
 refine pb Tryz.func213 Tryz.ntmps213 h fun R0 F H=>?_
 refine WP.seq<|rg 3 3<|Dv.box rfl trivial rfl cA nofun fun b840=>Dv.box rfl trivial rfl cA nofun fun b841=>as0 rfl rfl<|.fin<|WP.seq<|dg Tryz.checked.mixed 13 0<|fb rfl trivial rfl fa226_0<|ld 1 rfl trivial rfl sc3 rfl rfl<|fb rfl trivial rfl fa226_0<|ld 0 rfl trivial rfl sc3 rfl rfl<|el H fun t842 h843 H=>cl rfl cal109 rfl (cmp_Compare_int.c h843)<|fb rfl trivial rfl fa226_1<|ld 1 rfl trivial rfl sc9 rfl rfl<|fb rfl trivial rfl fa226_1<|ld 0 rfl trivial rfl sc9 rfl rfl<|el H fun t844 h845 H=>cl rfl cal215 rfl (cmp_Compare_string.c h845)<|Dv.lit (intK .i64) ([t842,t844]:List Int) (css:=[[vI t842],[vI t844]]) rfl trivial Tryz.underlying61 Tryz.underlying3 c3 z3 rfl (by decide) (by decide) rfl ⟨(cells_one (one_eq rfl)),⟨(cells_one (one_eq rfl)),trivial⟩⟩ rfl rfl rfl<|el H fun t846 h847 H=>cl rfl cal108 rfl (cmp_Or_int.c h847)<|as0 rfl rfl<|.fin ?_
 cases H.out; exact r2 i2 rfl (.cons (res_tmp rfl) .nil)
theorem posC_f (x y:Pos):dag_Compare.f 8 x y = some (posC x y):=by
 unfold dag_Compare.f cmp_Compare_int.f cmp_Compare_string.f cmp_isNaN_int.f cmp_isNaN_string.f cmp_Or_int.f posC cmpS
 simp only [Option.bind_some,bne_self_eq_false,decide_true,Bool.not_true,cond_false]
 rcases Int.lt_trichotomy x.fDepth y.fDepth with h | h | h
 ·
  have h2:¬ y.fDepth < x.fDepth:=by omega
  simp only [h,decide_true,cond_true,Option.bind_some,if_true]
  cases sLt x.fID y.fID <;> cases sLt y.fID x.fID <;> rfl
 rotate_left
 ·
  have h1:¬ x.fDepth < y.fDepth:=by omega
  simp only [h,h1,decide_true,decide_false,cond_true,cond_false,Option.bind_some,if_true,if_false]
  cases sLt x.fID y.fID <;> cases sLt y.fID x.fID <;> rfl
 have h1:¬ x.fDepth < y.fDepth:=by omega
 have h2:¬ y.fDepth < x.fDepth:=by omega
 simp only [h1,h2,decide_false,cond_false,Option.bind_some,if_false]
 cases sLt x.fID y.fID <;> cases sLt y.fID x.fID <;> rfl
theorem posC_lt (x y:Pos):ltOf posC x y = true↔x.fDepth < y.fDepth∨(x.fDepth = y.fDepth∧sLt x.fID y.fID = true):=by
 unfold ltOf posC
 rw [decide_eq_true_eq]
 by_cases h:x.fDepth < y.fDepth
 ·
  simp [h]
 by_cases h2:y.fDepth < x.fDepth
 ·
  rw [if_neg h,if_pos h2]; constructor
  ·
   intro k; omega
  rintro (k | ⟨k,_⟩) <;> omega
 rw [if_neg h,if_neg h2,cmpS_lt]; constructor
 ·
  intro k; exact .inr ⟨by omega,k⟩
 rintro (k | ⟨_,k⟩)
 ·
  omega
 exact k
theorem posC_nlt (x y:Pos):ltOf posC x y = false↔y.fDepth < x.fDepth∨(x.fDepth = y.fDepth∧sLt x.fID y.fID = false):=by
  have h:=posC_lt x y
  cases e:ltOf posC x y with
  | true=>
    have h:=h.1 e
    refine ⟨fun k=>(by cases k),fun k=>?_⟩
    rcases h with h | ⟨h1,h2⟩ <;> rcases k with k | ⟨k1,k2⟩
    · omega
    · omega
    · omega
    · rw [h2] at k2; cases k2
  | false=>
    refine ⟨fun _=>?_,fun _=>rfl⟩
    rw [e] at h
    have h:¬ _:=fun k=>by have:=h.2 k; cases this
    rcases Int.lt_trichotomy x.fDepth y.fDepth with k | k | k
    · exact (h (.inl k)).elim
    · cases e2:sLt x.fID y.fID with
      | true=>exact (h (.inr ⟨k,e2⟩)).elim
      | false=>exact .inr ⟨k,rfl⟩
    · exact .inl k
theorem posC_swo:Go.Sort.SWO (ltOf posC) where
  irrefl x:=by rw [posC_nlt]; exact .inr ⟨rfl,sLt_irrefl _⟩
  trans x y z h1 h2:=by
    rw [posC_lt] at *
    rcases h1 with h1 | ⟨h1,k1⟩ <;> rcases h2 with h2 | ⟨h2,k2⟩
    · exact .inl (by omega)
    · exact .inl (by omega)
    · exact .inl (by omega)
    · exact .inr ⟨by omega,sLt_trans k1 k2⟩
  ntrans x y z h1 h2:=by
    rw [posC_nlt] at *
    rcases h1 with h1 | ⟨h1,k1⟩ <;> rcases h2 with h2 | ⟨h2,k2⟩
    · exact .inl (by omega)
    · exact .inl (by omega)
    · exact .inl (by omega)
    · exact .inr ⟨by omega,sLt_ntrans k2 k1⟩
theorem posC_tot (x y:Pos) (h1:ltOf posC x y = false) (h2:ltOf posC y x = false):x = y:=by
 rw [posC_nlt] at *
 rcases h1 with h1 | ⟨h1,k1⟩ <;> rcases h2 with h2 | ⟨h2,k2⟩
 ·
  omega
 ·
  omega
 ·
  omega
 obtain ⟨a,b⟩:=x; obtain ⟨c,d⟩:=y
 simp only at h1 k1 k2
 rw [h1,sLt_conn k1 k2]
theorem slices_SortFunc_Position.c {a0:List Pos} {p0_:OV} {r:List Pos} (h:slices_SortFunc_Position.f a0 = some r):Tr Tryz.prog 212 [eq p0_.1,eq (.func (.func 213) #[] #[])] [own Pos.K p0_.1 a0] (γ:=Unit) (fun _=>True) (fun g=>tup []) (fun g=>[own Pos.K p0_.1 r]):=by
 unfold slices_SortFunc_Position.f at h
 obtain ⟨h0,h5⟩:=(Gets.of h).grd
 obtain rfl:=Gets.out h5
 exact sortf_tr (K:=Pos.K) (ev:=fun x=>[.int .i64 x.fDepth,.string x.fID]) (fun _=>rfl) (by decide) (fun x y=>dag_Compare.c (posC_f x y)) (fun blk off cap d w hc hH hb hs=>AnyQ.slices_SortFunc_total Tryz.lays6 2 Tryz.isAgg226 Tryz.sizeOf226 _ (fun _=>rfl) (fun x v hv=>by simp at hv; rcases hv with rfl | rfl <;> rfl) posC posC_swo 213 #[] blk off cap d w (enters_of Tryz.func213 (by kernel_rfl) rfl) hc hH hb hs posC_tot) (fun q cap w=>AnyF.slices_SortFunc_none Tryz.lays6 q cap _ w) (by omega)
theorem dag_Dag_All_1.c {a0:DNode} {b0_:Nat} {r:Bool} (h:dag_Dag_All_1.f a0 = some r):Tr Tryz.prog 211 [eq (.pointer (some ⟨b0_,0,none⟩))] [blk b0_ 163 [vS a0.fe.fID,vS a0.fe.fRoom,sl strK a0.fe.fParents,vS a0.fe.fThread,vS a0.fe.fUser,vI a0.fe.fDoes,vI a0.fdepth,vB a0.fparent]] (γ:=Unit) (fun _=>True) (fun g=>vB r) (fun g=>[blk b0_ 163 [vS a0.fe.fID,vS a0.fe.fRoom,sl strK a0.fe.fParents,vS a0.fe.fThread,vS a0.fe.fUser,vI a0.fe.fDoes,vI a0.fdepth,vB a0.fparent]]):=by
 unfold dag_Dag_All_1.f at h
 refine Tr.body Tryz.func211 (c:=_) rfl Tryz.ntmps211 (Nat.le_of_ble_eq_true rfl) fun R0 F=>?_
 replace h:=Gets.of h
 have H:=h
 clear h
 refine WP.seq<|rg 1 0<|as0 rfl rfl<|.fin<|WP.seq<|rg 1 0<|as0 rfl rfl<|.fin ?_
 cases H.out; exact rt i2 rfl () 1 [0] 0 (.cons (res_tmp rfl) .nil)
theorem dag_Dag_ids_All.c {a0:DDag} {b0_:Nat} {v0_0:OV} {r:List ByteArray} (h:dag_Dag_ids_All.f a0 = some r):Tr Tryz.prog 210 [eq (.pointer (some ⟨b0_,0,none⟩)),eq (.func (.func 211) #[] #[])] [blk b0_ 159 [vS a0.froom,eq v0_0.1],mpo Value.string DNode.O v0_0.1 a0.fnodes] (γ:=OV) (fun _=>True) (fun g=>eq g.1) (fun g=>[blk b0_ 159 [vS a0.froom,eq v0_0.1],mpo Value.string DNode.O v0_0.1 a0.fnodes,own strK g.1 r]):=by
  unfold dag_Dag_ids_All.f at h
  obtain ⟨h0,h5⟩:=(Gets.of h).grd
  obtain rfl:=Gets.out h5
  clear h h5
  refine Tr.body Tryz.func210 (c:=_) rfl Tryz.ntmps210 (Nat.le_of_ble_eq_true rfl) fun R0 F=>?_
  refine WP.seq<|rg 1 0<|as0 rfl rfl<|.fin<|WP.seq<|rg 1 0<|as0 rfl rfl<|.fin ?_
  refine WP.seqj (β:=List Nat×OV) (fun b=>b.1.Perm (List.range a0.fnodes.length)) (fun b=>[(5,eq b.2.1),(1,eq (.func (.func 211) #[] #[]))]) (fun b=>[own Pos.K b.2.1 (selM a0.fnodes dag_Dag_ids_All.g b.1),mpo Value.string DNode.O v0_0.1 a0.fnodes,blk b0_ 159 [vS a0.froom,eq v0_0.1]]++F) (fun b hb=>?_) ?_
  rotate_left
  · refine WP.seq<|rg 5 16<|mv0 rfl rfl<|Dv.nilp rfl trivial rfl<|fb rfl trivial rfl fa159_1<|ld 0 rfl trivial rfl sc157 rfl rfl ?_
    refine Dv.gh (l':=fun ps:List OV=>[mp Value.string (fun p:OV=>eq p.1) v0_0.1 (zipK a0.fnodes ps),thg DNode.O a0.fnodes ps,blk b0_ 159 [vS a0.froom,eq v0_0.1]]++F) (gh_of (mpo_opn 1 rfl)) (fun ps hps=>?_)
    refine Dv.rgb (jj:=0) rfl trivial rfl rfl Tryz.underlying157 nofun (fun q=>.fin ?_)
    refine WP.gh (l':=fun _:Unit=>[rng Value.string (fun p:OV=>eq p.1) v0_0.1 q.1 (zipK a0.fnodes ps) [],thg DNode.O a0.fnodes ps,blk b0_ 159 [vS a0.froom,eq v0_0.1]]++F) (gh_of (ok:=fun _=>True) fun R w k=>⟨(),trivial,k⟩) (fun _ _=>?_)
    refine WP.gh (l':=fun _:Unit=>[own Pos.K nilV.1 [],rng Value.string (fun p:OV=>eq p.1) v0_0.1 q.1 (zipK a0.fnodes ps) [],thg DNode.O a0.fnodes ps,blk b0_ 159 [vS a0.froom,eq v0_0.1]]++F) (gh_of (st_nil Pos.K none)) (fun _ _=>?_)
    refine WP.block ?_
    refine WP.weak (E':=(fun b:List Nat×OV=>[(5,eq b.2.1),(15,eq q.1),(1,eq (.func (.func 211) #[] #[]))]) ([],nilV)) (weak_cons rfl (weak_cons rfl (weak_cons rfl weak_nil))) (WP.loop (β:=List Nat×OV) (fun k b=>b.1.length + k = a0.fnodes.length) (fun b=>[(5,eq b.2.1),(15,eq q.1),(1,eq (.func (.func 211) #[] #[]))]) (fun b=>[own Pos.K b.2.1 (selM a0.fnodes dag_Dag_ids_All.g b.1),rng Value.string (fun p:OV=>eq p.1) v0_0.1 q.1 (zipK a0.fnodes ps) b.1,thg DNode.O a0.fnodes ps,blk b0_ 159 [vS a0.froom,eq v0_0.1]]++F) ?_ (k:=a0.fnodes.length) (b:=([],nilV)) (Nat.zero_add _))
    rintro k ⟨is,v⟩ hk
    replace hk:is.length + k = a0.fnodes.length:=hk
    refine WP.seq<|rg 2 1<|Dv.rgn (jj:=1) rfl trivial rfl rfl nofun (fun z hz=>?_)
    rcases z with _ | j
    · have hz:is.Perm (List.range (zipK a0.fnodes ps).length):=hz
      rw [zipK_len hps.1] at hz
      refine ex0 rfl trivial rfl rfl<|.fin<|WP.seq<|WP.cond rfl nofun (fun _=>WP.exit ?_)
      refine Dn.gh (l':=fun _:Unit=>[own Pos.K v.1 (selM a0.fnodes dag_Dag_ids_All.g is),rng Value.string (fun p:OV=>eq p.1) v0_0.1 q.1 (zipK a0.fnodes ps) is,thg DNode.O a0.fnodes ps,blk b0_ 159 [vS a0.froom,eq v0_0.1]]++F) (gh_of (ok:=fun _=>True) fun R w k=>⟨(),trivial,k⟩) (fun _ _=>?_)
      refine Dn.gh (l':=fun _:Unit=>[mp Value.string (fun p:OV=>eq p.1) v0_0.1 (zipK a0.fnodes ps),own Pos.K v.1 (selM a0.fnodes dag_Dag_ids_All.g is),thg DNode.O a0.fnodes ps,blk b0_ 159 [vS a0.froom,eq v0_0.1]]++F) (gh_of (st_rge (pm 4 [1,0,2,3]))) (fun _ _=>?_)
      refine Dn.gh (l':=fun _:Unit=>[mpo Value.string DNode.O v0_0.1 a0.fnodes,own Pos.K v.1 (selM a0.fnodes dag_Dag_ids_All.g is),blk b0_ 159 [vS a0.froom,eq v0_0.1]]++F) (gh_of (mpo_shut hps rfl (pm 4 [0,2,1,3]))) (fun _ _=>?_)
      exact Jn.mk (is,v) hz (weak_cons rfl (weak_cons rfl weak_nil)) (perm_ton 3 [1,0,2] (by kernel_rfl) rfl rfl)
    have hz:j < (zipK a0.fnodes ps).length∧j ∉ is∧is.length < (zipK a0.fnodes ps).length:=hz
    obtain ⟨e,p,he,hp,hep⟩:=zipK_get hps hz.1
    have hlt:is.length < a0.fnodes.length:=by rw [← zipK_len hps.1]; exact hz.2.2
    have hsl:=Nat.le_trans (selM_len (m:=a0.fnodes) (f:=dag_Dag_ids_All.g) (is:=is)) (Nat.le_of_lt hlt)
    have e1:nxV Value.string (fun p:OV=>eq p.1) (zipK a0.fnodes ps) (some j) = tup [vB true,vS e.1,eq p.1]:=by simp only [nxV,hep]
    rw [e1]
    refine ex0 rfl trivial rfl rfl<|.fin<|WP.seq<|WP.cond rfl (fun _=>WP.skip ?_) nofun
    refine WP.gh (l':=fun _:Unit=>[own Pos.K v.1 (selM a0.fnodes dag_Dag_ids_All.g is),rng Value.string (fun p:OV=>eq p.1) v0_0.1 q.1 (zipK a0.fnodes ps) (is++[j]),thg DNode.O a0.fnodes ps,blk b0_ 159 [vS a0.froom,eq v0_0.1]]++F) (gh_of (ok:=fun _=>True) fun R w k=>⟨(),trivial,k⟩) (fun _ _=>?_)
    refine WP.block<|WP.seq<|rg 5 0<|Dv.rge 1 rfl trivial rfl rfl hep ?_
    refine ex0 rfl trivial rfl rfl<|ex0 rfl trivial rfl rfl<|as0 rfl rfl<|as0 rfl rfl<|.fin ?_
    refine WP.gh (l':=fun _:Unit=>[DNode.O p e.2,thgX DNode.O a0.fnodes ps j,own Pos.K v.1 (selM a0.fnodes dag_Dag_ids_All.g is),rng Value.string (fun p:OV=>eq p.1) v0_0.1 q.1 (zipK a0.fnodes ps) (is++[j]),blk b0_ 159 [vS a0.froom,eq v0_0.1]]++F) (gh_of (thg_foc he hp (pm 4 [2,0,1,3]))) (fun _ _=>?_)
    refine WP.gh (l':=fun b:Nat=>[blk b 163 [vS e.2.fe.fID,vS e.2.fe.fRoom,sl strK e.2.fe.fParents,vS e.2.fe.fThread,vS e.2.fe.fUser,vI e.2.fe.fDoes,vI e.2.fdepth,vB e.2.fparent],thgX DNode.O a0.fnodes ps j,own Pos.K v.1 (selM a0.fnodes dag_Dag_ids_All.g is),rng Value.string (fun p:OV=>eq p.1) v0_0.1 q.1 (zipK a0.fnodes ps) (is++[j]),blk b0_ 159 [vS a0.froom,eq v0_0.1]]++F) (gh_of (DNode.opn 0 rfl)) (fun b hb=>?_)
    refine WP.seq<|rg 3 0<|mv0 rfl rfl<|mv0 rfl rfl<|Dv.callc (fst:=#[]) (B:=[blk b 163 [vS e.2.fe.fID,vS e.2.fe.fRoom,sl strK e.2.fe.fParents,vS e.2.fe.fThread,vS e.2.fe.fUser,vI e.2.fe.fDoes,vI e.2.fdepth,vB e.2.fparent]]) (F:=[thgX DNode.O a0.fnodes ps j,own Pos.K v.1 (selM a0.fnodes dag_Dag_ids_All.g is),rng Value.string (fun p:OV=>eq p.1) v0_0.1 q.1 (zipK a0.fnodes ps) (is++[j]),blk b0_ 159 [vS a0.froom,eq v0_0.1]]++F) rfl trivial rfl cal211 rfl (Tr.weak (dag_Dag_All_1.c (a0:=e.2) (b0_:=b) (r:=true) rfl) (.cons (wk_ptr hb) .nil)) (List.Perm.refl _)<|.fin ?_
    refine WP.cond rfl (fun c1=>?_) (fun c1=>?_)
    · have hg:dag_Dag_ids_All.g e = some ⟨e.2.fdepth,e.1⟩:=by unfold dag_Dag_ids_All.g; rw [c1]; rfl
      have e6:=selM_some (f:=dag_Dag_ids_All.g) (is:=is) he hg
      have hbd:(selM a0.fnodes dag_Dag_ids_All.g is).length + ([⟨e.2.fdepth,e.1⟩]:List Pos).length≤9223372036854775807∧((selM a0.fnodes dag_Dag_ids_All.g is).length + ([⟨e.2.fdepth,e.1⟩]:List Pos).length) * 24≤140737488355328:=by rw [List.length_singleton]; omega
      refine rg 10 256<|mv0 rfl rfl<|mv0 rfl rfl<|Dv.nilpp hb rfl trivial rfl<|fp hb rfl trivial rfl fa163_1<|ld 0 rfl trivial rfl sc3 rfl rfl<|mv0 rfl rfl<|Dv.bld (css:=[[vI e.2.fdepth],[vS e.1]]) rfl trivial Tryz.underlying226 pl226 z226 rfl ⟨(cells_one (one_eq rfl)),⟨(cells_one (one_eq rfl)),trivial⟩⟩ rfl rfl<|Dv.lit Pos.K ([⟨e.2.fdepth,e.1⟩]:List Pos) (css:=[[vI e.2.fdepth,vS e.1]]) rfl trivial Tryz.underlying257 Tryz.underlying226 c226 z226 rfl (by decide) (by decide) rfl ⟨cA,trivial⟩ rfl rfl rfl<|ap Pos.K 2 ([⟨e.2.fdepth,e.1⟩]:List Pos) src_sl Tryz.underlying257 (.inr ⟨_,Tryz.underlying257⟩) inf226 hbd nofun fun v9=>as0 rfl rfl<|.fin ?_
      refine Dn.gh (l':=fun _:Unit=>[DNode.O p e.2,thgX DNode.O a0.fnodes ps j,own Pos.K v9.1 ((selM a0.fnodes dag_Dag_ids_All.g is)++([⟨e.2.fdepth,e.1⟩]:List Pos)),rng Value.string (fun p:OV=>eq p.1) v0_0.1 q.1 (zipK a0.fnodes ps) (is++[j]),blk b0_ 159 [vS a0.froom,eq v0_0.1]]++F) (gh_of (DNode.shut (p:=p) (m:=e.2) b hb (List.Perm.refl _))) (fun _ _=>?_)
      refine Dn.gh (l':=fun _:Unit=>[thg DNode.O a0.fnodes ps,own Pos.K v9.1 ((selM a0.fnodes dag_Dag_ids_All.g is)++([⟨e.2.fdepth,e.1⟩]:List Pos)),rng Value.string (fun p:OV=>eq p.1) v0_0.1 q.1 (zipK a0.fnodes ps) (is++[j]),blk b0_ 159 [vS a0.froom,eq v0_0.1]]++F) (gh_of (thg_unf he hp (List.Perm.refl _))) (fun _ _=>?_)
      rw [e6]
      exact Back.mk (k - 1) (is++[j],v9) (by omega) (by show (is++[j]).length + (k - 1) = _; rw [List.length_append,List.length_singleton]; omega) (weak_cons rfl (weak_cons rfl (weak_cons rfl weak_nil))) (perm_ton 4 [1,2,0,3] (by kernel_rfl) rfl rfl)
    cases c1
  obtain ⟨is,v5⟩:=b
  replace hb:is.Perm (List.range a0.fnodes.length):=hb
  have hp:=selM_perm (f:=dag_Dag_ids_All.g) hb
  have hs:slices_SortFunc_Position.f (selM a0.fnodes dag_Dag_ids_All.g is) = some (srtF posC (a0.fnodes.filterMap dag_Dag_ids_All.g)):=by
    unfold slices_SortFunc_Position.f Sp.grd
    rw [if_pos (by rw [hp.length_eq]; exact Nat.le_trans (List.length_filterMap_le _ _) h0),srtF_perm posC_swo posC_tot hp]
  have hS:(srtF posC (a0.fnodes.filterMap dag_Dag_ids_All.g)).length≤1000000:=by unfold srtF; rw [List.length_mergeSort]; exact Nat.le_trans (List.length_filterMap_le _ _) h0
  refine WP.seq<|rg 2 2<|mv0 rfl rfl<|cx 3 [0,1,2] cal212 (slices_SortFunc_Position.c hs (p0_:=v5)) nofun fun _ _=>.fin ?_
  generalize srtF posC (a0.fnodes.filterMap dag_Dag_ids_All.g) = S at hS
  refine WP.seq<|rg 1 0<|as0 rfl rfl<|.fin ?_
  refine WP.seqj (β:=OV) (fun _=>True) (fun v=>[(8,eq v.1)]) (fun v=>[own strK v.1 (S.map (·.fID)),own Pos.K v5.1 S,mpo Value.string DNode.O v0_0.1 a0.fnodes,blk b0_ 159 [vS a0.froom,eq v0_0.1]]++F) (fun v _=>?_) ?_
  · refine WP.seq<|rg 2 0<|mv0 rfl rfl<|as0 rfl rfl<|.fin<|rt i2 rfl v 4 [1,3,2,0] 1 (.cons (res_tmp rfl) .nil)
  refine WP.seq<|rg 3 0<|mv0 rfl rfl<|Dv.lenw (Kd:=Pos.K) (xs:=S) (v:=v5.1) rfl trivial rfl (mem_at 0 rfl) Tryz.underlying257<|mv0 rfl rfl<|.fin ?_
  refine WP.gh (l':=fun _:Unit=>[own strK nilV.1 [],own Pos.K v5.1 S,mpo Value.string DNode.O v0_0.1 a0.fnodes,blk b0_ 159 [vS a0.froom,eq v0_0.1]]++F) (gh_of (st_nil strK none)) (fun _ _=>?_)
  refine WP.block ?_
  refine WP.weak (E':=(fun b:Nat×OV=>[(8,eq b.2.1),(35,eq v5.1),(36,vI (S.length:Int)),(37,vI (b.1:Int))]) (0,nilV)) (weak_cons rfl (weak_cons rfl (weak_cons rfl (weak_cons rfl weak_nil)))) (WP.loop (β:=Nat×OV) (fun k b=>b.1 + k = S.length) (fun b=>[(8,eq b.2.1),(35,eq v5.1),(36,vI (S.length:Int)),(37,vI (b.1:Int))]) (fun b=>[own strK b.2.1 ((S.take b.1).map (·.fID)),own Pos.K v5.1 S,mpo Value.string DNode.O v0_0.1 a0.fnodes,blk b0_ 159 [vS a0.froom,eq v0_0.1]]++F) ?_ (k:=S.length) (b:=(0,nilV)) (Nat.zero_add _))
  rintro k ⟨j,v8⟩ hk
  replace hk:j + k = S.length:=hk
  refine WP.seq<|rg 1 0<|bn0 rfl rfl rfl run_lt<|.fin<|WP.seq<|WP.cond rfl (fun c2=>WP.skip ?_) (fun c2=>WP.exit ?_)
  rotate_left
  · have c3:¬ ((j:Int) < (S.length:Int)):=of_decide_eq_false c2
    have e3:S.take j = S:=List.take_of_length_le (by omega)
    change ∀ R a w,R0.le R→Agr _ R a _→St R ([own strK v8.1 ((S.take j).map (·.fID)),own Pos.K v5.1 S,mpo Value.string DNode.O v0_0.1 a0.fnodes,blk b0_ 159 [vS a0.froom,eq v0_0.1]]++F) w→_
    rw [e3]
    exact Jn.mk v8 trivial (weak_cons rfl weak_nil) (List.Perm.refl _)
  have c3:(j:Int) < (S.length:Int):=of_decide_eq_true c2
  have hj:j < S.length:=by omega
  refine WP.seq<|WP.block<|WP.seq<|rg 4 12<|Dv.ixw rfl trivial rfl (mem_at 1 rfl) rfl Tryz.underlying257 Tryz.underlying226 c226 (by omega) c3<|Dv.ldws (j:=j) (f:=0) rfl trivial rfl (mem_at 1 rfl) hj Tryz.underlying226 rfl c226 (Nat.le_of_ble_eq_true rfl)<|al rfl trivial zc226 nofun fun b=>sx 0 rfl trivial rfl rfl cA sz226 rfl rfl rfl nofun<|.fin ?_
  have hbd:((S.take j).map (·.fID)).length + ([(S.getD j default).fID]:List ByteArray).length≤9223372036854775807∧(((S.take j).map (·.fID)).length + ([(S.getD j default).fID]:List ByteArray).length) * 16≤140737488355328:=by rw [List.length_singleton,List.length_map,List.length_take]; omega
  refine rg 6 16<|mv0 rfl rfl<|fb rfl trivial rfl fa226_1<|ld 0 rfl trivial rfl sc9 rfl rfl<|Dv.lit strK ([(S.getD j default).fID]:List ByteArray) (css:=[[vS ((S.getD j default).fID)]]) rfl trivial Tryz.underlying53 Tryz.underlying9 c9 z9 rfl (by decide) (by decide) rfl ⟨(cells_one (one_eq rfl)),trivial⟩ rfl rfl rfl<|ap strK 1 ([(S.getD j default).fID]:List ByteArray) src_sl Tryz.underlying53 (.inr ⟨_,Tryz.underlying53⟩) inf9 hbd nofun fun v9=>as0 rfl rfl<|.fin ?_
  refine WP.gh (l':=fun _:Unit=>[own strK v9.1 ((S.take j).map (·.fID)++([(S.getD j default).fID]:List ByteArray)),own Pos.K v5.1 S,mpo Value.string DNode.O v0_0.1 a0.fnodes,blk b0_ 159 [vS a0.froom,eq v0_0.1]]++F) (gh_of (st_selgn 5 [0,1,2,3,4] 1 (by kernel_rfl) rfl rfl)) (fun _ _=>?_)
  have e4:(S.take j).map (·.fID)++([(S.getD j default).fID]:List ByteArray) = (S.take (j + 1)).map (·.fID):=by rw [List.take_add_one,List.map_append,List.getD_eq_getElem?_getD,List.getElem?_eq_getElem hj]; rfl
  rw [e4]
  refine rg 2 0<|bn0 rfl rfl rfl (run_addn (a:=j) (b:=1) (by omega))<|mv0 rfl rfl<|.fin ?_
  exact Back.mk (k - 1) (j + 1,v9) (by omega) (by show j + 1 + (k - 1) = S.length; omega) (weak_cons rfl (weak_cons rfl (weak_cons rfl (weak_cons rfl weak_nil)))) (List.Perm.refl _)
end Go.Proofs.YtmmaijneehmbgaaGreat
